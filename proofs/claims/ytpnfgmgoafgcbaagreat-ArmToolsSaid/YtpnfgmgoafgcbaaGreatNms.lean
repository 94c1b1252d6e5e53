/-
  Names (chapter 6: tools): HasText, IsName, isName.
-/
import Derived.Test.YtpnfgmgoafgcbaaGreatSMap
import Derived.Test.YtpnfgmgoafgcbaaGreatErr
set_option linter.unusedVariables false
set_option linter.unusedSimpArgs false
set_option linter.unusedVariables false
namespace Go.Proofs.YtpnfgmgoafgcbaaGreat
open Go.RowKit Go.Shelf
attribute [local go_sem] Oper.semAt_some
theorem sls_at {w : World} {A : Option Addr} {xs : List ByteArray} (h : SlS w A xs) {k : Nat} {s : ByteArray} (hk : xs[k]? = some s) : ∃ b o, A = some ⟨b, o, none⟩ ∧ b < w.heap.size ∧ w.cell? ⟨b, o + k, none⟩ = some (.string s) := h k s hk
theorem hasText_c (xs : List ByteArray) (A : Option Addr) (c : Nat) (s : ByteArray) (w : World) (hn : xs.length ≤ 100000) (hs : SlS w A xs) :
    Calls Tryz.prog 142 #[.slice A xs.length c, .string s] w fun e w' => e = .returned (.bool (hasS xs s)) ∧ w' = w := by
  have HS := Lib.hid hs
  clear hs
  go_enter Tryz.func142, Tryz.ntmps142
  go_wp2
  go_loopw [5] (fun j wr => ∃ k : Nat, j = .int .i64 k ∧ k ≤ xs.length ∧ Hid (hasS (xs.take k) s = false) ∧ wr = w) (fun j _ => xs.length - (intOf j).toNat)
  case atStart => exact ⟨0, rfl, Nat.zero_le _, rfl, rfl⟩
  case round =>
    obtain ⟨k, rfl, hk, hf, rfl⟩ := hrel
    by_cases hlt : k < xs.length
    · obtain ⟨x, hx⟩ : ∃ x, xs[k]? = some x := ⟨_, List.getElem?_eq_getElem hlt⟩
      obtain ⟨b, o, rfl, hb, hc⟩ := sls_at HS.out hx
      have hst : hasS (xs.take (k + 1)) s = sameS x s := by
        rw [List.take_add_one, hx]
        have h1 := hf.out
        unfold hasS at h1 ⊢
        rw [List.any_append, h1]
        simp
      have hin : sameS x s = true → hasS xs s = true := fun h => hasS_t.2 (by rw [← sameS_t.1 h]; exact List.mem_of_getElem? hx)
      have HST := Lib.hid hst
      have HIN := Lib.hid hin
      have k0 : 0 ≤ (k : Int) := by omega
      have k1 : (k : Int) < (xs.length : Int) := by omega
      clear hst hin hx hf
      cases hq : sameS x s
      · have hq2 : (x.toList == s.toList) = false := hq
        rw [hq] at HST
        clear hq HIN
        go_wp2
        go_roundw
        case rel => exact ⟨k + 1, by go_num, by omega, HST, trivial⟩
        case measure => simp [intOf]; omega
      · have hq2 : (x.toList == s.toList) = true := hq
        have hR := HIN.out hq
        clear hq HST HIN
        go_wp2
        go_ret
        exact ⟨ret_b hR.symm, rfl⟩
    · obtain rfl : k = xs.length := by omega
      have hR := hf.out
      rw [List.take_length] at hR
      have HR := Lib.hid hR
      clear hf hR
      go_wp2
      go_ret
      exact ⟨ret_b HR.out.symm, rfl⟩
attribute [local go_sem] byN_get
theorem nm_step {s : ByteArray} {k : Nat} : (List.range (k + 1)).all (fun i => chB i (byN s i)) = ((List.range k).all (fun i => chB i (byN s i)) && chB k (byN s k)) := by
  rw [List.range_succ, List.all_append]; simp
theorem nm_bad {s : ByteArray} {k : Nat} (hk : k < s.size) (h : chB k (byN s k) = false) : nmB s = false := by
  unfold nmB
  rw [Bool.and_eq_false_iff]
  left
  rw [List.all_eq_false]
  exact ⟨k, List.mem_range.2 hk, by rw [h]; simp⟩
theorem isName_r (s : ByteArray) (w : World) :
    Calls Tryz.prog 168 #[.string s] w fun e w' => e = .returned (.bool (nmB s)) ∧ w' = w := by
  by_cases h1 : s.size < 1
  · have hR : nmB s = false := by unfold nmB; rw [decide_eq_false (show ¬ 1 ≤ s.size by omega)]; simp
    have e1 : decide ((s.size : Int) < 1) = true := decide_eq_true (by omega)
    clear h1
    go_enter Tryz.func168, Tryz.ntmps168
    go_wp2
    go_ret
    exact ⟨ret_b hR.symm, rfl⟩
  have e1 : decide ((s.size : Int) < 1) = false := decide_eq_false (by omega)
  by_cases h2 : 12 < s.size
  · have hR : nmB s = false := by unfold nmB; rw [decide_eq_false (show ¬ s.size ≤ 12 by omega)]; simp
    have e2 : decide ((12 : Int) < (s.size : Int)) = true := decide_eq_true (by omega)
    clear h1 h2
    go_enter Tryz.func168, Tryz.ntmps168
    go_wp2
    go_ret
    exact ⟨ret_b hR.symm, rfl⟩
  have e2 : decide ((12 : Int) < (s.size : Int)) = false := decide_eq_false (by omega)
  have HR := Lib.hid (show (List.range s.size).all (fun i => chB i (byN s i)) = true → nmB s = true from fun h => by
    unfold nmB; rw [h, decide_eq_true (show 1 ≤ s.size by omega), decide_eq_true (show s.size ≤ 12 by omega)]; rfl)
  go_enter Tryz.func168, Tryz.ntmps168
  go_wp2
  go_loopw [3] (fun j wr => ∃ k : Nat, j = .int .i64 k ∧ k ≤ s.size ∧ Hid ((List.range k).all (fun i => chB i (byN s i)) = true) ∧ wr = w) (fun j _ => s.size - (intOf j).toNat)
  case atStart => exact ⟨0, rfl, Nat.zero_le _, rfl, rfl⟩
  case round =>
    obtain ⟨k, rfl, hk, hf, rfl⟩ := hrel
    by_cases hlt : k < s.size
    · have HST := Lib.hid (show chB k (byN s k) = true → (List.range (k + 1)).all (fun i => chB i (byN s i)) = true from fun h => by rw [nm_step, hf.out, h]; rfl)
      have HBD := Lib.hid (show chB k (byN s k) = false → nmB s = false from nm_bad hlt)
      have k0 : 0 ≤ (k : Int) := by omega
      have k1 : (k : Int) < (s.size : Int) := by omega
      have hby := byN_get s k hlt
      go_upto_region 7 with fail
      generalize byN s k = c at *
      go_cut [5] from 23 to 36 (fun s5 wx => s5 = .bool (ltB c) ∧ wx = wr)
      case first =>
        clear HST HBD hf hby
        by_cases a1 : 97 ≤ c
        · have b1 : decide ((97 : Int) ≤ (c : Int)) = true := decide_eq_true (by omega)
          by_cases a2 : c ≤ 122
          · have b2 : decide ((c : Int) ≤ 122) = true := decide_eq_true (by omega)
            have hR : ltB c = true := by unfold ltB; simp [a1, a2]
            clear a1 a2
            go_wp2_with fail
            go_meet
            exact ⟨by rw [hR], rfl⟩
          · have b2 : decide ((c : Int) ≤ 122) = false := decide_eq_false (by omega)
            have b3 : decide ((65 : Int) ≤ (c : Int)) = true := decide_eq_true (by omega)
            have b4 : decide ((c : Int) ≤ 90) = false := decide_eq_false (by omega)
            have hR : ltB c = false := by unfold ltB; rw [decide_eq_false a2, decide_eq_false (show ¬ c ≤ 90 by omega)]; simp
            clear a1 a2
            go_wp2_with fail
            go_meet
            exact ⟨by rw [hR], rfl⟩
        · have b1 : decide ((97 : Int) ≤ (c : Int)) = false := decide_eq_false (by omega)
          by_cases a3 : 65 ≤ c
          · have b3 : decide ((65 : Int) ≤ (c : Int)) = true := decide_eq_true (by omega)
            by_cases a4 : c ≤ 90
            · have b4 : decide ((c : Int) ≤ 90) = true := decide_eq_true (by omega)
              have hR : ltB c = true := by unfold ltB; simp [a3, a4]
              clear a1 a3 a4
              go_wp2_with fail
              go_meet
              exact ⟨by rw [hR], rfl⟩
            · have b4 : decide ((c : Int) ≤ 90) = false := decide_eq_false (by omega)
              have hR : ltB c = false := by unfold ltB; rw [decide_eq_false a1, decide_eq_false a4]; simp
              clear a1 a3 a4
              go_wp2_with fail
              go_meet
              exact ⟨by rw [hR], rfl⟩
          · have b3 : decide ((65 : Int) ≤ (c : Int)) = false := decide_eq_false (by omega)
            have hR : ltB c = false := by unfold ltB; rw [decide_eq_false a1, decide_eq_false a3]; simp
            clear a1 a3
            go_wp2_with fail
            go_meet
            exact ⟨by rw [hR], rfl⟩
      case rest =>
        obtain ⟨rfl, rfl⟩ := hcut
        cases hl : ltB c
        case true =>
          have HS2 := Lib.hid (HST.out (by unfold chB; simp [hl]))
          clear HST HBD hf hby
          go_wp2
          go_roundw
          case rel => exact ⟨k + 1, by go_num, by omega, HS2, trivial⟩
          case measure => simp [intOf]; omega
        case false =>
          by_cases hz : k = 0
          · have b0 : ((k : Int) == 0) = true := by simp [hz]
            have hR := HBD.out (by unfold chB; simp [hl, hz])
            clear HST HBD hf hby
            go_wp2
            go_ret
            exact ⟨ret_b hR.symm, rfl⟩
          · have b0 : ((k : Int) == 0) = false := by simpa using hz
            by_cases h45 : c = 45
            · have b1 : ((c : Int) != 45) = false := by simp [h45]
              have HS2 := Lib.hid (HST.out (by unfold chB; simp [hl, hz, h45]))
              clear HST HBD hf hby
              go_wp2
              go_roundw
              case rel => exact ⟨k + 1, by go_num, by omega, HS2, trivial⟩
              case measure => simp [intOf]; omega
            · have b1 : ((c : Int) != 45) = true := by simp; omega
              by_cases h48 : c < 48
              · have b2 : decide ((c : Int) < 48) = true := decide_eq_true (by omega)
                have hR := HBD.out (by unfold chB; rw [decide_eq_false (show ¬ 48 ≤ c by omega)]; simp [hl, h45])
                clear HST HBD hf hby
                go_wp2
                go_ret
                exact ⟨ret_b hR.symm, rfl⟩
              · have b2 : decide ((c : Int) < 48) = false := decide_eq_false (by omega)
                by_cases h57 : 57 < c
                · have b3 : decide ((57 : Int) < (c : Int)) = true := decide_eq_true (by omega)
                  have hR := HBD.out (by unfold chB; rw [decide_eq_false (show ¬ c ≤ 57 by omega)]; simp [hl, h45])
                  clear HST HBD hf hby
                  go_wp2
                  go_ret
                  exact ⟨ret_b hR.symm, rfl⟩
                · have b3 : decide ((57 : Int) < (c : Int)) = false := decide_eq_false (by omega)
                  have HS2 := Lib.hid (HST.out (by unfold chB; rw [decide_eq_true (show 48 ≤ c by omega), decide_eq_true (show c ≤ 57 by omega)]; simp [hz]))
                  clear HST HBD hf hby
                  go_wp2
                  go_roundw
                  case rel => exact ⟨k + 1, by go_num, by omega, HS2, trivial⟩
                  case measure => simp [intOf]; omega
    · obtain rfl : k = s.size := by omega
      have hR := HR.out hf.out
      clear hf HR
      go_wp2
      go_ret
      exact ⟨ret_b hR.symm, rfl⟩
end Go.Proofs.YtpnfgmgoafgcbaaGreat

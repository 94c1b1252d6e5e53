/-
  SwapsFor of package arm (chapter 6: tools).
-/
import Derived.Test.YtpnfgmgoafgcbaaGreatSwW
import Derived.Test.YtpnfgmgoafgcbaaGreatShlS
set_option linter.unusedVariables false
set_option linter.unusedSimpArgs false
set_option linter.unusedVariables false
namespace Go.Proofs.YtpnfgmgoafgcbaaGreat
open Go.RowKit Go.Shelf
attribute [local go_sem] Oper.semAt_some
theorem sls_zs {w : World} {b o : Nat} {xs : List ByteArray} (hs : SlS w (some ⟨b, o, none⟩) xs) : ∀ j, j < xs.length → w.cell? ⟨b, o + j, none⟩ = some (.string (xs.getD j ByteArray.empty)) := by
  intro j hj
  obtain ⟨b', o', e, _, hc⟩ := hs j _ (List.getElem?_eq_getElem hj)
  cases e
  rw [hc, List.getD_eq_getElem?_getD, List.getElem?_eq_getElem hj]; rfl
theorem contains_c (xs : List ByteArray) (A : Option Addr) (c : Nat) (x : ByteArray) (w : World) (hn : xs.length ≤ 9223372036854775807) (hs : SlS w A xs) :
    Calls Tryz.prog 138 #[.slice A xs.length c, .string x] w fun e w' => e = .returned (.bool (hasS xs x)) ∧ w' = w := by
  cases xs with
  | nil => exact Tryz.slices_Contains_string_emptys A c x w
  | cons a r =>
    obtain ⟨b, o, e, _, _⟩ := hs 0 a rfl
    subst e
    have h := Tryz.slices_Contains_strings b o (a :: r).length c (a :: r) x w (Nat.le_refl _) hn (sls_zs hs)
    refine h.mono ?_
    rintro e w' ⟨h1, h2⟩
    refine ⟨?_, h2⟩
    rw [h1, List.take_length]
    refine ret_b ?_
    rw [Bool.eq_iff_iff, Lib.containsS_iff, hasS_t]
theorem index_c (xs : List ByteArray) (A : Option Addr) (c : Nat) (x : ByteArray) (w : World) (hn : xs.length ≤ 9223372036854775807) (hs : SlS w A xs) (hx : x ∈ xs) :
    Calls Tryz.prog 140 #[.slice A xs.length c, .string x] w fun e w' => e = .returned (.int .i64 (idxN xs x)) ∧ w' = w := by
  obtain ⟨k1, k2, k3⟩ := idxN_mem hx
  cases xs with
  | nil => cases hx
  | cons a r =>
    obtain ⟨b, o, e, _, _⟩ := hs 0 a rfl
    subst e
    have h := Tryz.slices_Index_strings b o (a :: r).length c (a :: r) x w (Nat.le_refl _) hn (sls_zs hs)
    refine h.mono ?_
    rintro e w' ⟨h1, h2⟩
    refine ⟨?_, h2⟩
    rw [h1]
    refine ret_i ?_
    refine Lib.idxOfS_hit (a :: r) (a :: r).length (idxN (a :: r) x) x k1 (Nat.le_refl _) ?_ fun j hj e => ?_
    · rw [List.getD_eq_getElem?_getD, k2]; rfl
    · refine k3 j hj ?_
      rw [List.getD_eq_getElem?_getD, List.getElem?_eq_getElem (by omega)] at e
      rw [List.getElem?_eq_getElem (by omega)]
      exact congrArg some e
theorem clone_cS (xs : List ByteArray) (A : Option Addr) (c : Nat) (w : World) (hn : xs.length * 16 ≤ 140737488355328) (hs : SlS w A xs) :
    Calls Tryz.prog 139 #[.slice A xs.length c] w fun e w' => ∃ B d, e = .returned (.slice B xs.length d) ∧ w'.ownsRow w.heap.size 9 1 (.slice B xs.length d) xs.length (xs.map Value.string) ∧ Below w.heap.size w w' := by
  have hv : ∀ {v : Value} {n : Nat} {l : List Value} {w' : World}, w'.ownsRow w.heap.size 9 1 v n l → ∃ B d, v = .slice B n d := fun {v n l w'} h => by
    rcases h.2 with ⟨e, h0⟩ | ⟨g, cap, cur, e, _⟩
    · subst h0; exact ⟨none, 0, e⟩
    · exact ⟨_, _, e⟩
  cases A with
  | none =>
    have h0 : xs.length = 0 := by
      cases xs with
      | nil => rfl
      | cons a r => obtain ⟨b, o, e, _⟩ := hs 0 a rfl; cases e
    have hx : xs = [] := List.eq_nil_of_length_eq_zero h0
    subst hx
    refine (Tryz.slices_Clone_string_nils 0 c w).mono ?_
    rintro e w' ⟨h1, h2⟩
    subst h2
    exact ⟨none, 0, h1, ⟨rfl, .inl ⟨rfl, rfl⟩⟩, Below.refl _ _⟩
  | some p =>
    cases xs with
    | nil =>
      refine (Tryz.slices_Clone_string_zeros p c w).mono ?_
      rintro e w' ⟨v', h1, h2, _, h4⟩
      obtain ⟨B, d, rfl⟩ := hv h2
      exact ⟨B, d, h1, h2, h4⟩
    | cons a r =>
      obtain ⟨b, o, e, _, _⟩ := hs 0 a rfl
      injection e with e
      subst e
      refine (Tryz.slices_Clone_strings b o (a :: r).length c (a :: r) w (Nat.le_refl _) hn (sls_zs hs)).mono ?_
      rintro e w' ⟨v', h1, h2, _, h4⟩
      obtain ⟨B, d, rfl⟩ := hv h2
      rw [List.take_length] at h2
      exact ⟨B, d, h1, h2, h4⟩
/-- The first four errors; the error after so many wanted tools. -/
def e0T (xs ys : List ByteArray) : Int := fstE [unl (decide ((xs.length : Int) ≤ 8) && decide ((ys.length : Int) ≤ 8)) 8, unl ((xs.length : Int) == (ys.length : Int)) 10, nmE xs, nmE ys]
def eKT (e0 : Int) (xs ys : List ByteArray) (k : Nat) : Int := if e0 ≠ 0 then e0 else if (ys.take k).all (hasS xs) = true then 0 else 6
theorem eKT_zero (e0 : Int) (xs ys : List ByteArray) : eKT e0 xs ys 0 = e0 := by
  unfold eKT
  split
  · rfl
  · rename_i h; simp; omega
theorem eKT_step {e0 : Int} {xs ys : List ByteArray} {k : Nat} {s : ByteArray} (h : ys[k]? = some s) : eKT e0 xs ys (k + 1) = fstE [eKT e0 xs ys k, unl (hasS xs s) 6] := by
  have ht : ys.take (k + 1) = ys.take k ++ [s] := by rw [List.take_add_one, h]; rfl
  unfold eKT
  rw [ht]
  by_cases h0 : e0 = 0
  · subst h0
    have n0 : ¬ ((0 : Int) ≠ 0) := by simp
    rw [if_neg n0, if_neg n0, List.all_append]
    cases h1 : (ys.take k).all (hasS xs) <;> cases h2 : hasS xs s <;> simp [fstE, unl, h2]
  · rw [if_pos h0, if_pos h0]
    simp [fstE, h0]
theorem eKT_end (xs ys : List ByteArray) : eKT (e0T xs ys) xs ys ys.length = tlE xs ys := by
  unfold eKT
  rw [List.take_length]
  unfold tlE e0T
  by_cases h1 : xs.length ≤ 8
  · by_cases h2 : ys.length ≤ 8
    · rw [decide_eq_true (show (xs.length : Int) ≤ 8 by omega), decide_eq_true (show (ys.length : Int) ≤ 8 by omega), if_neg (show ¬ (8 < xs.length ∨ 8 < ys.length) by omega)]
      by_cases h3 : xs.length = ys.length
      · rw [beqT (show (xs.length : Int) = (ys.length : Int) by omega), if_neg (show ¬ (xs.length ≠ ys.length) by omega)]
        by_cases h4 : nmE xs = 0
        · by_cases h5 : nmE ys = 0
          · simp [fstE, unl, h4, h5]
          · simp [fstE, unl, h4, h5]
        · simp [fstE, unl, h4]
      · rw [beqF (show (xs.length : Int) ≠ (ys.length : Int) by omega), if_pos h3]
        simp [fstE, unl]
    · rw [decide_eq_false (show ¬ (ys.length : Int) ≤ 8 by omega), if_pos (show 8 < xs.length ∨ 8 < ys.length by omega)]
      simp [fstE, unl]
  · rw [decide_eq_false (show ¬ (xs.length : Int) ≤ 8 by omega), if_pos (show 8 < xs.length ∨ 8 < ys.length by omega)]
    simp [fstE, unl]
theorem tlE_ok {xs ys : List ByteArray} (h : tlE xs ys = 0) : xs.length = ys.length ∧ ys.length ≤ 8 ∧ NoTwo xs ∧ NoTwo ys ∧ ∀ s ∈ ys, s ∈ xs := by
  unfold tlE at h
  split at h
  · omega
  split at h
  · omega
  split at h
  · omega
  split at h
  · omega
  split at h
  · rename_i h1 h2 h3 h4 h5
    refine ⟨by omega, by omega, nmE_two (by omega), nmE_two (by omega), fun s hs => ?_⟩
    rw [List.all_eq_true] at h5
    exact hasS_t.1 (h5 s hs)
  · omega
/-- The exchanges, if there is no error. -/
def sfP (xs ys : List ByteArray) : List Ce := if tlE xs ys = 0 then (wnR xs ys ys.length).2 else []
/-- How SwapsFor ends. -/
def TsEnd (P : List Ce) (er : Int) (w : World) (e : Ending) (w' : World) : Prop := ∃ D d, e = .returned (.tuple #[.slice D P.length d, .int .i64 er]) ∧ SlV w' D (P.flatMap ceV) ∧ Below w.heap.size w w'
set_option maxHeartbeats 8000000 in
set_option maxRecDepth 100000 in
theorem swapsFor_c (xs ys : List ByteArray) (A B : Option Addr) (c d : Nat) (w : World) (hn : xs.length ≤ 1000) (hm : ys.length ≤ 1000) (hzx : ∀ s ∈ xs, s.size ≤ 9223372036854775807) (hzy : ∀ s ∈ ys, s.size ≤ 9223372036854775807) (hs : SlS w A xs) (ht : SlS w B ys) :
    Calls Tryz.prog 65 #[.slice A xs.length c, .slice B ys.length d] w (TsEnd (sfP xs ys) (tlE xs ys) w) := by
  have TEc := Lib.hid (fun W (h : Below w.heap.size w W) => toolsErr_c xs A c W (by omega) (hs.below h) hzx)
  have TFc := Lib.hid (fun W (h : Below w.heap.size w W) => toolsErr_c ys B d W (by omega) (ht.below h) hzy)
  have HS := Lib.hid hs
  have HT := Lib.hid ht
  have HE := Lib.hid (eKT_end xs ys)
  clear hs ht hzx hzy
  go_enter Tryz.func65, Tryz.ntmps65
  go_upto_region 1 with fail
  go_cut [6] (fun s6 wx => s6 = .int .i64 (e0T xs ys) ∧ Below w.heap.size w wx)
  case first =>
    clear HS HT HE
    by_cases h1 : (xs.length : Int) ≤ 8
    · have b1 : decide ((xs.length : Int) ≤ 8) = true := decide_eq_true h1
      have hR : e0T xs ys = fstE [unl (decide ((ys.length : Int) ≤ 8)) 8, unl ((xs.length : Int) == (ys.length : Int)) 10, nmE xs, nmE ys] := by unfold e0T; rw [b1]; simp
      have HR := Lib.hid hR
      clear h1 hR
      go_wp2_with (first | (go_at_call 84; (with_reducible refine (unless_c _ _ _).mono ?_); rintro e w' ⟨rfl, rfl⟩) | (go_at_call 137; (with_reducible refine (TEc.out _ (by exact bB0)).mono ?_); rintro e w1 ⟨rfl, hb1⟩; have hz1 : w.heap.size ≤ w1.heap.size := (by have := hb1.size; (try simp at this); omega)) | (go_at_call 137; (with_reducible refine (TFc.out _ (by exact bB1 hb1)).mono ?_); rintro e w2 ⟨rfl, hb2⟩; have hz2 : w1.heap.size ≤ w2.heap.size := (by have := hb2.size; (try simp at this); omega)) | (go_at_call 83; (with_reducible refine (first4a _ _ _ _ _ _ _ (by simp)).mono ?_); rintro e w' ⟨rfl, rfl⟩) | (go_at_call 83; (with_reducible refine (first4d _ _ _ _ _ _ _ (by simp)).mono ?_); rintro e w' ⟨rfl, rfl⟩) | fail)
      go_meet
      exact ⟨by rw [HR.out], by exact bB2 hb1 hb2⟩
    · have b1 : decide ((xs.length : Int) ≤ 8) = false := decide_eq_false h1
      have hR : e0T xs ys = fstE [unl false 8, unl ((xs.length : Int) == (ys.length : Int)) 10, nmE xs, nmE ys] := by unfold e0T; rw [b1]; simp
      have HR := Lib.hid hR
      clear h1 hR
      go_wp2_with (first | (go_at_call 84; (with_reducible refine (unless_c _ _ _).mono ?_); rintro e w' ⟨rfl, rfl⟩) | (go_at_call 137; (with_reducible refine (TEc.out _ (by exact bB0)).mono ?_); rintro e w1 ⟨rfl, hb1⟩; have hz1 : w.heap.size ≤ w1.heap.size := (by have := hb1.size; (try simp at this); omega)) | (go_at_call 137; (with_reducible refine (TFc.out _ (by exact bB1 hb1)).mono ?_); rintro e w2 ⟨rfl, hb2⟩; have hz2 : w1.heap.size ≤ w2.heap.size := (by have := hb2.size; (try simp at this); omega)) | (go_at_call 83; (with_reducible refine (first4a _ _ _ _ _ _ _ (by simp)).mono ?_); rintro e w' ⟨rfl, rfl⟩) | (go_at_call 83; (with_reducible refine (first4d _ _ _ _ _ _ _ (by simp)).mono ?_); rintro e w' ⟨rfl, rfl⟩) | fail)
      go_meet
      exact ⟨by rw [HR.out], by exact bB2 hb1 hb2⟩
  case rest =>
    obtain ⟨rfl, hB⟩ := hcut
    clear TEc TFc
    generalize wc = W5 at *
    generalize e0T xs ys = e0 at *
    go_wp2
    go_loopw [6, 37] (fun ev j wr => ∃ k : Nat, ev = .int .i64 (eKT e0 xs ys k) ∧ j = .int .i64 k ∧ k ≤ ys.length ∧ Below w.heap.size w wr) (fun _ j _ => ys.length - (intOf j).toNat)
    case atStart => exact ⟨0, by rw [eKT_zero], rfl, Nat.zero_le _, hB⟩
    case round =>
      clear hB
      obtain ⟨k, rfl, rfl, hk, hB⟩ := hrel
      by_cases hlt : k < ys.length
      · obtain ⟨s, hsy⟩ : ∃ s, ys[k]? = some s := ⟨_, List.getElem?_eq_getElem hlt⟩
        obtain ⟨gb, ob, hBe, hb, hcw⟩ := sls_at (HT.out.below hB) hsy
        have HST := Lib.hid (eKT_step (e0 := e0) (xs := xs) hsy)
        have COc := Lib.hid (contains_c xs A c s wr (by omega) (HS.out.below hB))
        have k0 : 0 ≤ (k : Int) := by omega
        have k1 : (k : Int) < (ys.length : Int) := by omega
        subst hBe
        clear hsy HE
        generalize eKT e0 xs ys k = ek at *
        generalize hasS xs s = hb2 at *
        go_wp2_with (first | (go_at_call 138; (with_reducible refine (COc.out).mono ?_); rintro e w' ⟨rfl, hw⟩; have hw2 := hw.symm; clear hw; subst hw2) | (go_at_call 84; (with_reducible refine (unless_c _ _ _).mono ?_); rintro e w' ⟨rfl, rfl⟩) | (go_at_call 83; (with_reducible refine (first2a _ _ _ _ _ (by simp)).mono ?_); rintro e w' ⟨rfl, rfl⟩) | (go_at_call 83; (with_reducible refine (first2d _ _ _ _ _ (by simp)).mono ?_); rintro e w' ⟨rfl, rfl⟩) | fail)
        go_roundw
        case rel => exact ⟨k + 1, by rw [HST.out], by go_num, by omega, by exact bB1 hB⟩
        case measure => simp [intOf]; omega
      · have e : k = ys.length := by omega
        subst e
        rw [HE.out]
        clear hlt
        by_cases h0 : tlE xs ys = 0
        · have b1 : (tlE xs ys != 0) = false := bneF h0
          have HR := Lib.hid (show sfP xs ys = (wnR xs ys ys.length).2 from if_pos h0)
          have H0 := Lib.hid h0
          obtain ⟨hl, hn8, hx2, hy2, hxy⟩ := tlE_ok h0
          have HI := Lib.hid (fun n h => wnI_run hl hx2 hy2 hxy n h)
          have HL := Lib.hid hl
          have HY := Lib.hid hy2
          have CLc := Lib.hid (fun W (h : Below w.heap.size w W) => clone_cS xs A c W (by omega) (HS.out.below h))
          clear h0 HE hl hx2 hy2 hxy
          generalize wr = W6 at *
          have hzW := hB.size
          go_wp2_with (first | (go_at_call 139; (with_reducible refine (CLc.out _ (by exact bB1 hB)).mono ?_); rintro e w3 hE3; obtain ⟨BR, dR, rfl, hr3, hb3⟩ := hE3) | fail)
          have hr0 := own_base (b' := w.heap.size) hr3 hzW
          have hB0 : Below w.heap.size w w3 := by exact bB2 hb3 hB
          clear hr3 hb3 CLc hB b1
          generalize w3 = W7 at *
          obtain ⟨u0, zC, hu0, hy0, hy1, hy2, hy3⟩ := infoOk_parts infoC
          go_loopw [10, 56] (fun out j wr => ∃ (i : Nat) (D : Option Addr) (d' : Nat), out = .slice D (wnR xs ys i).2.length d' ∧ j = .int .i64 i ∧ i ≤ ys.length ∧ wr.ownsRow w.heap.size 9 1 (.slice BR xs.length dR) xs.length ((wnR xs ys i).1.map Value.string) ∧ wr.ownsRow w.heap.size 22 2 (.slice D (wnR xs ys i).2.length d') (wnR xs ys i).2.length ((wnR xs ys i).2.flatMap ceV) ∧ Below w.heap.size w wr) (fun _ j _ => ys.length - (intOf j).toNat)
          case atStart => exact ⟨0, none, 0, rfl, rfl, Nat.zero_le _, hr0, ⟨rfl, .inl ⟨rfl, rfl⟩⟩, hB0⟩
          case round =>
            clear hr0 hB0
            obtain ⟨i, D, d', rfl, rfl, hi, hr, ho, hB⟩ := hrel
            by_cases hlt : i < ys.length
            · obtain ⟨s, hsy⟩ : ∃ s, ys[i]? = some s := ⟨_, List.getElem?_eq_getElem hlt⟩
              obtain ⟨gb, ob, hBe, hb, hcw⟩ := sls_at (HT.out.below hB) hsy
              have hI := HI.out i hi
              obtain ⟨j1, j2, j3, j4⟩ := wnI_idx hI HY.out hsy
              have hpl := wnR_len xs ys i
              have hmem := hI.all s (List.mem_of_getElem? hsy)
              have hle := hI.len
              have hst := wnR_step xs ys i
              unfold wnS at hst
              rw [j4] at hst
              obtain ⟨x, hxi⟩ : ∃ x, (wnR xs ys i).1[i]? = some x := ⟨_, List.getElem?_eq_getElem (by omega)⟩
              have IXc := Lib.hid (show Calls Tryz.prog 140 #[.slice BR xs.length dR, .string s] wr (fun e w' => e = .returned (.int .i64 (idxN (wnR xs ys i).1 s)) ∧ w' = wr) from by
                have h5 := index_c (wnR xs ys i).1 BR dR s wr (by omega) (sls_own hr) hmem
                rw [hle, ← HL.out] at h5
                exact h5)
              have HST := Lib.hid hst
              have kx : idxN (wnR xs ys i).1 s < xs.length := by have := HL.out; omega
              have ix : i < xs.length := by have := HL.out; omega
              clear hst hmem hle hI hsy j4 HI HY HL HT HS
              generalize idxN (wnR xs ys i).1 s = j at *
              obtain ⟨S1, hS1⟩ : ∃ S1, S1 = wnR xs ys (i + 1) := ⟨_, rfl⟩
              have HS1 := Lib.hid hS1
              rw [← hS1] at HST
              clear hS1
              generalize wnR xs ys i = S0 at *
              obtain ⟨r, P⟩ := S0
              dsimp only at hr ho hpl hxi j2 HST ⊢
              subst hBe
              have i0 : 0 ≤ (i : Int) := by omega
              have i1 : (i : Int) < (ys.length : Int) := by omega
              have i2 : (i : Int) < (xs.length : Int) := by omega
              have q0 : 0 ≤ (j : Int) := by omega
              have q1 : (j : Int) < (xs.length : Int) := by omega
              by_cases hij : j = i
              · have hS := HST.out
                rw [if_pos hij] at hS
                have b2 : ((j : Int) != (i : Int)) = false := by simp [hij]
                subst hS
                have HRX := Lib.hid hr; have HOX := Lib.hid ho
                clear hij hr ho HST hxi j2
                go_wp2_with (first | (go_at_call 140; (with_reducible refine (IXc.out).mono ?_); rintro e w' ⟨rfl, hw⟩; have hw2 := hw.symm; clear hw; subst hw2) | fail)
                go_roundw
                case rel => exact ⟨i + 1, D, d', by rw [← HS1.out], by go_num, by omega, by rw [← HS1.out]; exact HRX.out, by rw [← HS1.out]; exact HOX.out, hB⟩
                case measure => simp [intOf]; omega
              · have hS := HST.out
                rw [if_neg hij] at hS
                have b2 : ((j : Int) != (i : Int)) = true := by simp; omega
                subst hS
                obtain ⟨gR, hBR, hge, cs, hbx, hci⟩ := own_cellS hr hxi
                obtain ⟨gR2, hBR2, _, cs2, hbx2, hck⟩ := own_cellS hr j2
                subst hBR
                cases hBR2
                have lg := hbx.lt
                have ci := (hbx.cell i).trans hci
                have ck := (hbx2.cell j).trans hck
                have cf := hbx.froz
                have HSW := Lib.hid (own_swp hr hxi j2)
                have HO := Lib.hid ho
                have HNB := Lib.hid (own_blkT ho hbx (by decide))
                have nik : i ≠ j := by omega
                have nki : j ≠ i := by omega
                clear hxi j2 hci hck hbx hbx2 hr ho HST hij
                go_upto_region 16 with (first | (go_at_call 140; (with_reducible refine (IXc.out).mono ?_); rintro e w' ⟨rfl, hw⟩; have hw2 := hw.symm; clear hw; subst hw2) | fail)
                (refine region_open (by kernel_rfl) (fun R hR => ?_); refine lateR (S := (fun w' => Below wr.heap.size wr w')) 13 ?_ (fun hHeld => ?_); (focus ((try dsimp only); (((first | exact bB0 | exact bB0))))); have hO := Lib.hid (fun w' (hSw : (fun w' => Below wr.heap.size wr w') w') => (by (try dsimp only at hSw); (have hcc := (bcell hSw).1; have hcf := (bcell hSw).2; have sa := (hcc _ _ lg).trans ci; have sc := (hcc _ _ lg).trans ck; have sf := (hcf _ i lg).trans (cf i); have sg := (hcf _ j lg).trans (cf j)); exact And.intro hcf (And.intro sa (And.intro sc (And.intro sf sg))))); refine laN 0 rfl ?_; refine laN 1 rfl ?_; refine laN 2 rfl ?_; refine laN 3 rfl ?_; refine laN 4 rfl ?_; refine laN 5 rfl ?_; refine laN 6 rfl ?_; refine laL 7 hO rfl ?_; refine laN 8 rfl ?_; refine laN 9 rfl ?_; refine laN 10 rfl ?_; refine laL 11 hO rfl ?_; refine laN 12 rfl ?_; refine laD 13 rfl (fun K hK => ?_); go_simp; (skip); go_simp; refine hK.out _ _ ?_ (fun hHeld => ?_); (focus (exact trivial)); clear hK K; (try simp only [Act.put, pqs]); refine laN 14 rfl ?_; refine laD 15 rfl (fun K hK => ?_); go_simp; (skip); go_simp; refine hK.out _ _ ?_ (fun hHeld => ?_); (focus (exact trivial)); clear hK K; (try simp only [Act.put, pqs]); refine wpAnyL_done (Q := fun e a w => e = Exit.normal ∧ R a w) (by kernel_rfl) ⟨rfl, hR _ _ ?_⟩ _; clear hR R)
                have hm1 : P.length + 1 ≤ maxLen := by unfold maxLen; omega
                have hm2 : (P.length + 1) * 16 ≤ 140737488355328 := by omega
                have ho9 : (((wr.setCell ⟨gR, i, none⟩ (Value.string s)).setCell ⟨gR, j, none⟩ (Value.string x)).drew).ownsRow w.heap.size 22 2 (.slice D P.length d') P.length (P.flatMap ceV) :=
                  own_below (own_setf (own_setf HO.out HNB.out) HNB.out) (Below.drew (Below.refl _ _))
                have hr9 : (((wr.setCell ⟨gR, i, none⟩ (Value.string s)).setCell ⟨gR, j, none⟩ (Value.string x)).drew).ownsRow w.heap.size 9 1 (.slice (some ⟨gR, 0, none⟩) xs.length dR) xs.length ((swp r i j).map Value.string) :=
                  own_below HSW.out (Below.drew (Below.refl _ _))
                have hB9 : Below w.heap.size w (((wr.setCell ⟨gR, i, none⟩ (Value.string s)).setCell ⟨gR, j, none⟩ (Value.string x)).drew) := Below.drew (Below.setCell (p := ⟨gR, j, none⟩) (Below.setCell (p := ⟨gR, i, none⟩) hB hge _) hge _)
                generalize (((wr.setCell ⟨gR, i, none⟩ (Value.string s)).setCell ⟨gR, j, none⟩ (Value.string x)).drew) = W9 at *
                have hz9 := hB9.size
                clear HO HSW HNB cf ci ck lg
                go_wp2_with (at_builtin; go_must (refine wpList_append_own_at _ rfl _ _ 54 rfl w.heap.size 22 u0 zC 2 16 Tryz.underlying54 hu0 hy0 hy1 hy2 hy3 (by decide) _ _ _ rfl (ho9.alloc _) ⟨W9.heap.size, 0, none⟩ 1 1 [.int .i64 i, .int .i64 j] rfl rfl (cells_new W9 [.int .i64 i, .int .i64 j] _) (by simp [Value.oneCell']) hm1 hm2 (by simp; omega) ?_); intro v' wx hown1 hgrow1 _ hblk; obtain ⟨gN, capN, rfl, hgN, hgN2⟩ := own_pos hown1 (by omega) (by decide))
                have hbx : Below w.heap.size w wx := (hB9.alloc hz9 _).grown hgrow1 (by simp; omega) (fun q e => ((ho9.alloc (.cells #[.int .i64 i, .int .i64 j] 22)).lt q e).1)
                have hrx := own_ogS (hr9.alloc (.cells #[.int .i64 i, .int .i64 j] 22)) (ho9.alloc _) (by decide) hgrow1
                have HRX := Lib.hid hrx
                have hls : P.flatMap ceV ++ [Value.int .i64 i, Value.int .i64 j] = (P ++ [((i : Int), (j : Int))]).flatMap ceV := by rw [List.flatMap_append]; rfl
                rw [hls] at hown1
                have HOX := Lib.hid hown1
                clear hown1 hgrow1 hblk ho9 hr9 hrx hls
                go_roundw
                case rel => exact ⟨i + 1, some ⟨gN, 0, none⟩, capN, by rw [← HS1.out]; simp, by go_num, by omega, by rw [← HS1.out]; exact HRX.out, by rw [← HS1.out]; simpa using HOX.out, hbx⟩
                case measure => simp [intOf]; omega
            · have e : i = ys.length := by omega
              subst e
              have HO2 := Lib.hid (slv_own (by decide) ho)
              clear hr ho
              go_wp2
              go_ret2
              exact ⟨D, d', ret_t2 (by rw [HR.out]; rfl) (by rw [H0.out]; rfl), by rw [HR.out]; exact HO2.out, hB⟩
        · have b1 : (tlE xs ys != 0) = true := bneT h0
          have HR := Lib.hid (show sfP xs ys = [] from if_neg h0)
          clear h0 HE
          go_wp2
          go_ret2
          exact ⟨none, 0, by rw [HR.out]; rfl, by rw [HR.out]; exact fun j u hj => by simp at hj, hB⟩
end Go.Proofs.YtpnfgmgoafgcbaaGreat

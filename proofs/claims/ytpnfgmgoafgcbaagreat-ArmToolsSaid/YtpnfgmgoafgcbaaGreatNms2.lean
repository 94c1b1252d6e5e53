/-
  isName of package arm (chapter 6: tools).
-/
import Derived.Test.YtpnfgmgoafgcbaaGreatNms
set_option linter.unusedVariables false
set_option linter.unusedSimpArgs false
set_option linter.unusedVariables false
namespace Go.Proofs.YtpnfgmgoafgcbaaGreat
open Go.RowKit Go.Shelf
attribute [local go_sem] Oper.semAt_some
theorem bytesRow_at (s : ByteArray) (cap j : Nat) (h : j < s.size) : (bytesRow s cap)[j]? = some (.int .u8 (byN s j)) := by
  unfold bytesRow
  have h2 : j < s.data.size := h
  rw [Array.getElem?_append_left (by simpa using h2), Array.getElem?_map, Array.getElem?_eq_getElem h2]
  unfold byN
  have e : s.data.toList.getD j 0 = s.data[j] := by
    rw [List.getD_eq_getElem?_getD, Array.getElem?_toList, Array.getElem?_eq_getElem h2]; rfl
  rw [e]; rfl
theorem or_let (c : Nat) (h : c < 256) : inB (wrap64 (bits .or .u8 (c : Int) 32)) 97 122 = ltB c := by
  have h1 : ∀ k : Fin 256, inB (wrap64 (bits .or .u8 ((k.val : Nat) : Int) 32)) 97 122 = ltB k.val := by decide +kernel
  exact h1 ⟨c, h⟩
theorem dig_let (c : Nat) (h : c < 256) : inB (c : Int) 48 57 = (decide (48 ≤ c) && decide (c ≤ 57)) := by
  have h1 : ∀ k : Fin 256, inB ((k.val : Nat) : Int) 48 57 = (decide (48 ≤ k.val) && decide (k.val ≤ 57)) := by decide +kernel
  exact h1 ⟨c, h⟩
set_option maxHeartbeats 4000000 in
theorem isName_c (s : ByteArray) (w : World) (hn : s.size ≤ 9223372036854775807) :
    Calls Tryz.prog 167 #[.string s] w fun e w' => e = .returned (.bool (nmB s)) ∧ Below w.heap.size w w' := by
  have hconv := run_bytes_of_string (P := Tryz.prog) w 9 244 5 s Tryz.underlying9 Tryz.underlying244 Tryz.underlying5
  have hC := fun j h => bytesRow_at s (grownCap w s.size 0 5) j h
  generalize bytesRow s (grownCap w s.size 0 5) = C at *
  generalize grownCap w s.size 0 5 = cap at *
  have HC := Lib.hid hC
  clear hC
  go_enter Tryz.func167, Tryz.ntmps167
  go_wp2
  have hcell : ∀ j, j < s.size → ((w.alloc (Obj.cells C 5 (C.size, C.size + 1))).drew).cell? ⟨w.heap.size, j, none⟩ = some (.int .u8 (byN s j)) := fun j hj => by
    have h1 := HC.out j hj
    have h2 : ((w.alloc (Obj.cells C 5 (C.size, C.size + 1))).drew).heap[w.heap.size]? = some (Obj.cells C 5 (C.size, C.size + 1)) := heap_alloc_new w _
    unfold World.cell?
    rw [show (⟨w.heap.size, j, none⟩ : Addr).block = w.heap.size from rfl, h2]
    exact h1
  have hB : Below w.heap.size w ((w.alloc (Obj.cells C 5 (C.size, C.size + 1))).drew) := Below.drew ((Below.refl _ _).alloc (Nat.le_refl _) _)
  have hlt5 : w.heap.size < ((w.alloc (Obj.cells C 5 (C.size, C.size + 1))).drew).heap.size := by simp
  generalize (w.alloc (Obj.cells C 5 (C.size, C.size + 1))).drew = W5 at *
  have HCL := Lib.hid hcell
  clear hcell HC hconv
  have HR := Lib.hid (show (List.range s.size).all (fun i => chB i (byN s i)) = true → inB (s.size : Int) 1 12 = nmB s from fun h => by
    rw [Bool.eq_iff_iff, inB_true]; unfold nmB; rw [h]; simp; omega)
  go_loopw [9] (fun j wr => ∃ k : Nat, j = .int .i64 k ∧ k ≤ s.size ∧ Hid ((List.range k).all (fun i => chB i (byN s i)) = true) ∧ wr = W5) (fun j _ => s.size - (intOf j).toNat)
  case atStart => exact ⟨0, rfl, Nat.zero_le _, rfl, rfl⟩
  case round =>
    obtain ⟨k, rfl, hk, hf, rfl⟩ := hrel
    by_cases hlt : k < s.size
    · have HST := Lib.hid (show chB k (byN s k) = true → (List.range (k + 1)).all (fun i => chB i (byN s i)) = true from fun h => by rw [nm_step, hf.out, h]; rfl)
      have HBD := Lib.hid (show chB k (byN s k) = false → nmB s = false from nm_bad hlt)
      have k0 : 0 ≤ (k : Int) := by omega
      have k1 : (k : Int) < (s.size : Int) := by omega
      have hcl := HCL.out k hlt
      have hlb := byN_lt s k
      clear HCL HR
      generalize byN s k = c at *
      have hlet := or_let c hlb
      have hdig := dig_let c hlb
      go_upto_region 5 with (first | (go_at_call 93; (with_reducible refine (within_w _ _ _ _).mono ?_); rintro e w' ⟨rfl, rfl⟩) | fail)
      cases hl : ltB c
      case true =>
        clear hdig
        have HS2 := Lib.hid (HST.out (by unfold chB; simp [hl]))
        clear HST HBD hf hcl
        go_wp2_with (first | (go_at_call 93; (with_reducible refine (within_w _ _ _ _).mono ?_); rintro e w' ⟨rfl, rfl⟩) | fail)
        go_roundw
        case rel => exact ⟨k + 1, by go_num, by omega, HS2, trivial⟩
        case measure => simp [intOf]; omega
      case false =>
        by_cases hz : k = 0
        · have b0 : ((k : Int) == 0) = true := by simp [hz]
          clear hdig
          have hR := HBD.out (by unfold chB; simp [hl, hz])
          clear HST HBD hf hcl
          go_wp2_with (first | (go_at_call 93; (with_reducible refine (within_w _ _ _ _).mono ?_); rintro e w' ⟨rfl, rfl⟩) | fail)
          go_ret
          exact ⟨ret_b hR.symm, hB⟩
        · have b0 : ((k : Int) == 0) = false := by simpa using hz
          by_cases h45 : c = 45
          · have b1 : ((c : Int) != 45) = false := by simp [h45]
            clear hdig
            have HS2 := Lib.hid (HST.out (by unfold chB; simp [hz, h45]))
            clear HST HBD hf hcl
            go_wp2_with (first | (go_at_call 93; (with_reducible refine (within_w _ _ _ _).mono ?_); rintro e w' ⟨rfl, rfl⟩) | fail)
            go_roundw
            case rel => exact ⟨k + 1, by go_num, by omega, HS2, trivial⟩
            case measure => simp [intOf]; omega
          · have b1 : ((c : Int) != 45) = true := by simp; omega
            cases hd : (decide (48 ≤ c) && decide (c ≤ 57))
            case false =>
              rw [hd] at hdig
              have hR := HBD.out (by unfold chB; rw [hd]; simp [hl, h45])
              clear HST HBD hf hcl
              go_wp2_with (first | (go_at_call 93; (with_reducible refine (within_w _ _ _ _).mono ?_); rintro e w' ⟨rfl, rfl⟩) | fail)
              go_ret
              exact ⟨ret_b hR.symm, hB⟩
            case true =>
              rw [hd] at hdig
              have HS2 := Lib.hid (HST.out (by unfold chB; rw [hd]; simp [hz]))
              clear HST HBD hf hcl
              go_wp2_with (first | (go_at_call 93; (with_reducible refine (within_w _ _ _ _).mono ?_); rintro e w' ⟨rfl, rfl⟩) | fail)
              go_roundw
              case rel => exact ⟨k + 1, by go_num, by omega, HS2, trivial⟩
              case measure => simp [intOf]; omega
    · obtain rfl : k = s.size := by omega
      have hR := HR.out hf.out
      have e4 : decide ((s.size : Int) < (s.size : Int)) = false := decide_eq_false (by omega)
      clear hf HR HCL
      go_wp2_with (first | (go_at_call 93; (with_reducible refine (within_w _ _ _ _).mono ?_); rintro e w' ⟨rfl, rfl⟩) | fail)
      go_ret
      exact ⟨rfl, hB⟩
end Go.Proofs.YtpnfgmgoafgcbaaGreat

/-
  The order of states (chapter 2): cmp.Or, order.
-/
import Derived.Test.YtgbckdmhmkpahaaBase
import Derived.Test.YtgbckdmhmkpahaaShelf
import Derived.Deep.RegionHeld3
set_option linter.unusedVariables false
namespace Go.Proofs.Ytgbckdmhmkpahaa
open Go.RowKit Go.Shelf Go.Sort

set_option maxHeartbeats 400000 in
theorem or_c (xs : List Int) (A : Option Addr) (c : Nat) (w : World) (hn : xs.length ≤ 9223372036854775807) (hs : SlI w A xs) :
    Calls Try.prog 136 #[.slice A xs.length c] w fun r w' => r = .returned (.int .i64 (fstE xs)) ∧ w = w' := by
  go_enter Try.func136, Try.ntmps136
  go_wp2
  go_loop [8] (fun i => ∃ k : Nat, k ≤ xs.length ∧ i = .int .i64 k ∧ Hid (fstE xs = fstE (xs.drop k))) (fun i => xs.length - (intOf i).toNat)
  case atStart => exact ⟨0, Nat.zero_le _, rfl, rfl⟩
  case round =>
    obtain ⟨k, hk, rfl, hf⟩ := hrel
    by_cases hlt : k < xs.length
    · obtain ⟨b, off, rfl, hb, hc⟩ := hs k xs[k] (List.getElem?_eq_getElem hlt)
      have HD := Lib.hid (List.drop_eq_getElem_cons hlt)
      by_cases hz : xs[k] = 0
      · have hz1 : (xs[k] == 0) = true := by simpa using hz
        have hz2 : (xs[k] != 0) = false := by simpa using hz
        have HZ := Lib.hid hz; clear hz
        go_wp2
        go_round
        case rel => exact ⟨k + 1, by omega, by go_num, by unfold Hid; rw [hf.out, HD.out, fstE, if_pos HZ.out]⟩
        case measure => simp [intOf]; omega
      · have hz1 : (xs[k] == 0) = false := by simpa using hz
        have hz2 : (xs[k] != 0) = true := by simpa using hz
        have HZ := Lib.hid hz; clear hz
        go_wp2
        go_ret
        exact ⟨ret_i (by rw [hf.out, HD.out, fstE, if_neg HZ.out]), rfl⟩
    · go_wp2
      go_ret
      exact ⟨ret_i (by rw [hf.out, List.drop_eq_nil_of_le (by omega)]; rfl), rfl⟩

theorem or3d (x y z : Int) (k : Nat) (w : World) (t : TypeId) (hk : k = w.heap.size) : Calls Try.prog 136 #[.slice (some ⟨k, 0, none⟩) 3 3] ((w.alloc (.cells #[.int .i64 x, .int .i64 y, .int .i64 z] t)).drew) fun r w' => r = .returned (.int .i64 (fstE [x, y, z])) ∧ (w.alloc (.cells #[.int .i64 x, .int .i64 y, .int .i64 z] t)).drew = w' :=
  hk ▸ or_c [x, y, z] _ 3 _ (by simp) (sli_new w [x, y, z] t)
theorem compare_c (x y : Int) (w : World) : Calls Try.prog 137 #[.int .i64 x, .int .i64 y] w fun e w' => e = .returned (.int .i64 (Lib.compareInt x y)) ∧ w = w' :=
  (Try.cmp_Compare_int x y w).mono fun _ _ ⟨a, b⟩ => ⟨a, b.symm⟩

abbrev St3 := Int × Int × Int
def st3V (s : St3) : List Value := [.int .i64 s.1, .int .i64 s.2.1, .int .i64 s.2.2]
/-- The order of states. -/
def ordS (s t : St3) : Int := fstE [Lib.compareInt s.1 t.1, Lib.compareInt s.2.1 t.2.1, Lib.compareInt s.2.2 t.2.2]

set_option maxHeartbeats 2000000 in
theorem order_c (a b c x y z : Int) (w : World) :
    Calls Try.prog 83 #[.agg #[.int .i64 a, .int .i64 b, .int .i64 c], .agg #[.int .i64 x, .int .i64 y, .int .i64 z]] w fun e w' => e = .returned (.int .i64 (ordS (a, b, c) (x, y, z))) ∧
      w' = (((w.alloc (.cells #[.int .i64 a, .int .i64 b, .int .i64 c] 42)).alloc (.cells #[.int .i64 x, .int .i64 y, .int .i64 z] 42)).alloc (.cells #[.int .i64 (Lib.compareInt a x), .int .i64 (Lib.compareInt b y), .int .i64 (Lib.compareInt c z)] 3)).drew := by
  go_enter Try.func83, Try.ntmps83
  go_wp2
  go_region_held3 (fun w' => w'.cell? ⟨w.heap.size, 0, none⟩ = some (.int .i64 a) ∧ w'.cell? ⟨w.heap.size, 1, none⟩ = some (.int .i64 b) ∧ w'.cell? ⟨w.heap.size, 2, none⟩ = some (.int .i64 c) ∧ w'.cell? ⟨w.heap.size + 1, 0, none⟩ = some (.int .i64 x) ∧ w'.cell? ⟨w.heap.size + 1, 1, none⟩ = some (.int .i64 y) ∧ w'.cell? ⟨w.heap.size + 1, 2, none⟩ = some (.int .i64 z)) (go_keep)
    (first | (go_at_call 137; refine (compare_c _ _ _).mono ?_; rintro e w' ⟨rfl, rfl⟩) | (go_at_call 136; refine (or3d _ _ _ _ _ _ (by simp)).mono ?_; rintro e w' ⟨rfl, rfl⟩) | fail)
  all_goals go_wp2
  all_goals go_ret
  all_goals exact ⟨rfl, rfl⟩

end Go.Proofs.Ytgbckdmhmkpahaa

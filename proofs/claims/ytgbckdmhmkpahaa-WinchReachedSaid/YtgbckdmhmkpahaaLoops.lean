/-
  The walks of CheckLoop, openLoop, stateErr (chapter 2).
-/
import Derived.Test.YtgbckdmhmkpahaaLoop
import Derived.Deep.RegionHeld3
set_option linter.unusedVariables false
namespace Go.Proofs.Ytgbckdmhmkpahaa
open Go.RowKit Go.Shelf

theorem first1a (x : Int) (k : Nat) (w : World) (t : TypeId) (hk : k = w.heap.size) : Calls Try.prog 84 #[.slice (some ⟨k, 0, none⟩) 1 1] (w.alloc (.cells #[.int .i64 x] t)) fun r w' => r = .returned (.int .i64 (fstE [x])) ∧ w.alloc (.cells #[.int .i64 x] t) = w' :=
  hk ▸ first_c [x] _ 1 (w.alloc (.cells #[.int .i64 x] t)) (by simp) (sli_new w [x] t)
theorem first1d (x : Int) (k : Nat) (w : World) (t : TypeId) (hk : k = w.heap.size) : Calls Try.prog 84 #[.slice (some ⟨k, 0, none⟩) 1 1] ((w.alloc (.cells #[.int .i64 x] t)).drew) fun r w' => r = .returned (.int .i64 (fstE [x])) ∧ (w.alloc (.cells #[.int .i64 x] t)).drew = w' :=
  hk ▸ first_c [x] _ 1 ((w.alloc (.cells #[.int .i64 x] t)).drew) (by simp) (sli_new w [x] t)
theorem first2a (x y : Int) (k : Nat) (w : World) (t : TypeId) (hk : k = w.heap.size) : Calls Try.prog 84 #[.slice (some ⟨k, 0, none⟩) 2 2] (w.alloc (.cells #[.int .i64 x, .int .i64 y] t)) fun r w' => r = .returned (.int .i64 (fstE [x, y])) ∧ w.alloc (.cells #[.int .i64 x, .int .i64 y] t) = w' :=
  hk ▸ first_c [x, y] _ 2 (w.alloc (.cells #[.int .i64 x, .int .i64 y] t)) (by simp) (sli_new w [x, y] t)
theorem first2d (x y : Int) (k : Nat) (w : World) (t : TypeId) (hk : k = w.heap.size) : Calls Try.prog 84 #[.slice (some ⟨k, 0, none⟩) 2 2] ((w.alloc (.cells #[.int .i64 x, .int .i64 y] t)).drew) fun r w' => r = .returned (.int .i64 (fstE [x, y])) ∧ (w.alloc (.cells #[.int .i64 x, .int .i64 y] t)).drew = w' :=
  hk ▸ first_c [x, y] _ 2 ((w.alloc (.cells #[.int .i64 x, .int .i64 y] t)).drew) (by simp) (sli_new w [x, y] t)
theorem first3a (x y z : Int) (k : Nat) (w : World) (t : TypeId) (hk : k = w.heap.size) : Calls Try.prog 84 #[.slice (some ⟨k, 0, none⟩) 3 3] (w.alloc (.cells #[.int .i64 x, .int .i64 y, .int .i64 z] t)) fun r w' => r = .returned (.int .i64 (fstE [x, y, z])) ∧ w.alloc (.cells #[.int .i64 x, .int .i64 y, .int .i64 z] t) = w' :=
  hk ▸ first_c [x, y, z] _ 3 (w.alloc (.cells #[.int .i64 x, .int .i64 y, .int .i64 z] t)) (by simp) (sli_new w [x, y, z] t)
theorem first3d (x y z : Int) (k : Nat) (w : World) (t : TypeId) (hk : k = w.heap.size) : Calls Try.prog 84 #[.slice (some ⟨k, 0, none⟩) 3 3] ((w.alloc (.cells #[.int .i64 x, .int .i64 y, .int .i64 z] t)).drew) fun r w' => r = .returned (.int .i64 (fstE [x, y, z])) ∧ (w.alloc (.cells #[.int .i64 x, .int .i64 y, .int .i64 z] t)).drew = w' :=
  hk ▸ first_c [x, y, z] _ 3 ((w.alloc (.cells #[.int .i64 x, .int .i64 y, .int .i64 z] t)).drew) (by simp) (sli_new w [x, y, z] t)
theorem first4a (x y z u : Int) (k : Nat) (w : World) (t : TypeId) (hk : k = w.heap.size) : Calls Try.prog 84 #[.slice (some ⟨k, 0, none⟩) 4 4] (w.alloc (.cells #[.int .i64 x, .int .i64 y, .int .i64 z, .int .i64 u] t)) fun r w' => r = .returned (.int .i64 (fstE [x, y, z, u])) ∧ w.alloc (.cells #[.int .i64 x, .int .i64 y, .int .i64 z, .int .i64 u] t) = w' :=
  hk ▸ first_c [x, y, z, u] _ 4 (w.alloc (.cells #[.int .i64 x, .int .i64 y, .int .i64 z, .int .i64 u] t)) (by simp) (sli_new w [x, y, z, u] t)
theorem first4d (x y z u : Int) (k : Nat) (w : World) (t : TypeId) (hk : k = w.heap.size) : Calls Try.prog 84 #[.slice (some ⟨k, 0, none⟩) 4 4] ((w.alloc (.cells #[.int .i64 x, .int .i64 y, .int .i64 z, .int .i64 u] t)).drew) fun r w' => r = .returned (.int .i64 (fstE [x, y, z, u])) ∧ (w.alloc (.cells #[.int .i64 x, .int .i64 y, .int .i64 z, .int .i64 u] t)).drew = w' :=
  hk ▸ first_c [x, y, z, u] _ 4 ((w.alloc (.cells #[.int .i64 x, .int .i64 y, .int .i64 z, .int .i64 u] t)).drew) (by simp) (sli_new w [x, y, z, u] t)

theorem first2dd (x y : Int) (k : Nat) (w : World) (t : TypeId) (hk : k = w.heap.size) : Calls Try.prog 84 #[.slice (some ⟨k, 0, none⟩) 2 2] (((w.alloc (.cells #[.int .i64 x, .int .i64 y] t)).drew).drew) fun r w' => r = .returned (.int .i64 (fstE [x, y])) ∧ ((w.alloc (.cells #[.int .i64 x, .int .i64 y] t)).drew).drew = w' :=
  hk ▸ first_c [x, y] _ 2 (((w.alloc (.cells #[.int .i64 x, .int .i64 y] t)).drew).drew) (by simp) (sli_new w [x, y] t)
theorem first3dd (x y z : Int) (k : Nat) (w : World) (t : TypeId) (hk : k = w.heap.size) : Calls Try.prog 84 #[.slice (some ⟨k, 0, none⟩) 3 3] (((w.alloc (.cells #[.int .i64 x, .int .i64 y, .int .i64 z] t)).drew).drew) fun r w' => r = .returned (.int .i64 (fstE [x, y, z])) ∧ ((w.alloc (.cells #[.int .i64 x, .int .i64 y, .int .i64 z] t)).drew).drew = w' :=
  hk ▸ first_c [x, y, z] _ 3 (((w.alloc (.cells #[.int .i64 x, .int .i64 y, .int .i64 z] t)).drew).drew) (by simp) (sli_new w [x, y, z] t)
theorem first4dd (x y z u : Int) (k : Nat) (w : World) (t : TypeId) (hk : k = w.heap.size) : Calls Try.prog 84 #[.slice (some ⟨k, 0, none⟩) 4 4] (((w.alloc (.cells #[.int .i64 x, .int .i64 y, .int .i64 z, .int .i64 u] t)).drew).drew) fun r w' => r = .returned (.int .i64 (fstE [x, y, z, u])) ∧ ((w.alloc (.cells #[.int .i64 x, .int .i64 y, .int .i64 z, .int .i64 u] t)).drew).drew = w' :=
  hk ▸ first_c [x, y, z, u] _ 4 (((w.alloc (.cells #[.int .i64 x, .int .i64 y, .int .i64 z, .int .i64 u] t)).drew).drew) (by simp) (sli_new w [x, y, z, u] t)

def lpE0 (n : Nat) : Int := fstE [unl ((n : Int).tmod 2 == 1) 10, unl (decide ((n : Int) ≤ 11)) 8]
def badC (n : Int) : Bool := !inB n (-10) 10
def ranL (lo hi turn slew : Int) : Bool := inB lo (-4) 4 && inB hi (-4) 4 && inB turn 0 8 && inB slew 0 20
/-- What CheckLoop answers. -/
def chkL (T : List Int) (lo hi turn slew : Int) : Int × Int :=
  if lpE0 T.length ≠ 0 then (0, lpE0 T.length)
  else if 0 ≤ findI badC T then (findI badC T, 2)
  else (0, fstE [unl (ranL lo hi turn slew) 2, unl (inB 0 lo hi) 9])

set_option maxHeartbeats 2000000 in
set_option maxRecDepth 100000 in
theorem checkLoop_c (T : List Int) (A : Option Addr) (c : Nat) (lo hi turn slew : Int) (w : World) (hn : T.length ≤ 1000) (hs : SlI w A T) :
    Calls Try.prog 48 #[.agg #[.slice A T.length c, .int .i64 lo, .int .i64 hi, .int .i64 turn, .int .i64 slew]] w fun e w' => e = .returned (.tuple #[.int .i64 (chkL T lo hi turn slew).1, .int .i64 (chkL T lo hi turn slew).2]) ∧ Below w.heap.size w w' := by
  have hidx := indexFunc_c 105 badC (enters_of Try.func105 (by kernel_rfl) rfl) (fun x w => checkLoop1_c x w) T A c
  have HI := Lib.hid hidx; clear hidx
  have HS := Lib.hid hs; clear hs
  have hn' : T.length ≤ 9223372036854775807 := by omega
  have mm : (T.length : Int).tmod 2 = (T.length : Int) % 2 := Int.tmod_eq_emod_of_nonneg (by omega)
  have E0 := Lib.hid (show lpE0 T.length = fstE [unl ((T.length : Int) % 2 == 1) 10, unl (decide ((T.length : Int) ≤ 11)) 8] by unfold lpE0; rw [mm])
  clear mm
  by_cases h0 : lpE0 T.length = 0
  · have h0' : (fstE [unl ((T.length : Int) % 2 == 1) 10, unl (decide ((T.length : Int) ≤ 11)) 8] != 0) = false := bneF (by rw [← E0.out]; exact h0)
    by_cases h1 : 0 ≤ findI badC T
    · have R := Lib.hid (show chkL T lo hi turn slew = (findI badC T, 2) by unfold chkL; rw [if_neg (by simpa using h0), if_pos h1])
      clear h0
      go_enter Try.func48, Try.ntmps48
      go_wp2
      go_region_held3 (fun w' => w'.cell? ⟨w.heap.size, 0, none⟩ = some (.slice A T.length c)) (go_keep) (first | (go_at_call 81; refine (unless_c _ _ _).mono ?_; rintro e w' ⟨rfl, rfl⟩) | (go_at_call 91; refine (within_w _ _ _ _).mono ?_; rintro e w' ⟨rfl, rfl⟩) | (go_at_call 92; refine (isSized_c _ _ _ (by omega) (by omega)).mono ?_; rintro e w' ⟨rfl, rfl⟩) | (go_at_call 84; refine (first2d _ _ _ _ _ (by simp)).mono ?_; rintro e w' ⟨rfl, rfl⟩) | (go_at_call 84; refine (first2dd _ _ _ _ _ (by simp)).mono ?_; rintro e w' ⟨rfl, rfl⟩) | fail)
      go_wp2_with (first | (go_at_call 81; refine (unless_c _ _ _).mono ?_; rintro e w' ⟨rfl, rfl⟩) | (go_at_call 91; refine (within_w _ _ _ _).mono ?_; rintro e w' ⟨rfl, rfl⟩) | (go_at_call 92; refine (isSized_c _ _ _ (by omega) (by omega)).mono ?_; rintro e w' ⟨rfl, rfl⟩) | (go_at_call 84; refine (first2d _ _ _ _ _ (by simp)).mono ?_; rintro e w' ⟨rfl, rfl⟩) | (go_at_call 84; refine (first2dd _ _ _ _ _ (by simp)).mono ?_; rintro e w' ⟨rfl, rfl⟩) | (go_at_call 98; refine (HI.out _ (by assumption) (SlI.below HS.out (by focus ((repeat first | with_reducible exact Below.refl _ _ | (with_reducible refine Below.setCell ?_ ?_ _) | (with_reducible refine Below.alloc ?_ ?_ _) | (with_reducible refine below_drewN ?_ _) | (with_reducible refine Below.drew ?_)); all_goals (first | with_reducible exact Nat.le_refl _ | omega | (simp; done) | (simp; omega) | (omega) | ((try simp); omega)))))).mono ?_; rintro e w' ⟨rfl, rfl⟩) | fail)
      go_ret2
      exact ⟨ret_ii (by rw [R.out]) (by rw [R.out]), by focus ((repeat first | with_reducible exact Below.refl _ _ | (with_reducible refine Below.setCell ?_ ?_ _) | (with_reducible refine Below.alloc ?_ ?_ _) | (with_reducible refine below_drewN ?_ _) | (with_reducible refine Below.drew ?_)); all_goals (first | with_reducible exact Nat.le_refl _ | omega | (simp; done) | (simp; omega) | (omega) | ((try simp); omega)))⟩
    · have R := Lib.hid (show chkL T lo hi turn slew = (0, fstE [unl (ranL lo hi turn slew) 2, unl (inB 0 lo hi) 9]) by unfold chkL; rw [if_neg (by simpa using h0), if_neg h1])
      have RL := Lib.hid (show ranL lo hi turn slew = (inB lo (-4) 4 && inB hi (-4) 4 && inB turn 0 8 && inB slew 0 20) from rfl)
      clear h0
      generalize chkL T lo hi turn slew = CL at *
      generalize ranL lo hi turn slew = rl at *
      have hc : (inB lo (-4) 4 = false) ∨ (inB lo (-4) 4 = true ∧ inB hi (-4) 4 = false) ∨ (inB lo (-4) 4 = true ∧ inB hi (-4) 4 = true ∧ inB turn 0 8 = false) ∨ (inB lo (-4) 4 = true ∧ inB hi (-4) 4 = true ∧ inB turn 0 8 = true) := by
        cases inB lo (-4) 4 <;> cases inB hi (-4) 4 <;> cases inB turn 0 8 <;> simp
      rcases hc with i1 | ⟨i1, i2⟩ | ⟨i1, i2, i3⟩ | ⟨i1, i2, i3⟩
      all_goals
        go_enter Try.func48, Try.ntmps48
        go_wp2
        go_region_held3 (fun w' => w'.cell? ⟨w.heap.size, 0, none⟩ = some (.slice A T.length c)) (go_keep) (first | (go_at_call 81; refine (unless_c _ _ _).mono ?_; rintro e w' ⟨rfl, rfl⟩) | (go_at_call 91; refine (within_w _ _ _ _).mono ?_; rintro e w' ⟨rfl, rfl⟩) | (go_at_call 92; refine (isSized_c _ _ _ (by omega) (by omega)).mono ?_; rintro e w' ⟨rfl, rfl⟩) | (go_at_call 84; refine (first2d _ _ _ _ _ (by simp)).mono ?_; rintro e w' ⟨rfl, rfl⟩) | (go_at_call 84; refine (first2dd _ _ _ _ _ (by simp)).mono ?_; rintro e w' ⟨rfl, rfl⟩) | fail)
        go_wp2_with (first | (go_at_call 81; refine (unless_c _ _ _).mono ?_; rintro e w' ⟨rfl, rfl⟩) | (go_at_call 91; refine (within_w _ _ _ _).mono ?_; rintro e w' ⟨rfl, rfl⟩) | (go_at_call 92; refine (isSized_c _ _ _ (by omega) (by omega)).mono ?_; rintro e w' ⟨rfl, rfl⟩) | (go_at_call 84; refine (first2d _ _ _ _ _ (by simp)).mono ?_; rintro e w' ⟨rfl, rfl⟩) | (go_at_call 84; refine (first2dd _ _ _ _ _ (by simp)).mono ?_; rintro e w' ⟨rfl, rfl⟩) | (go_at_call 98; refine (HI.out _ (by assumption) (SlI.below HS.out (by focus ((repeat first | with_reducible exact Below.refl _ _ | (with_reducible refine Below.setCell ?_ ?_ _) | (with_reducible refine Below.alloc ?_ ?_ _) | (with_reducible refine below_drewN ?_ _) | (with_reducible refine Below.drew ?_)); all_goals (first | with_reducible exact Nat.le_refl _ | omega | (simp; done) | (simp; omega) | (omega) | ((try simp); omega)))))).mono ?_; rintro e w' ⟨rfl, rfl⟩) | fail)
        go_region_held3 (fun w' => w'.cell? ⟨w.heap.size, 1, none⟩ = some (.int .i64 lo) ∧ w'.cell? ⟨w.heap.size, 2, none⟩ = some (.int .i64 hi)) (go_keep) (first | (go_at_call 81; refine (unless_c _ _ _).mono ?_; rintro e w' ⟨rfl, rfl⟩) | (go_at_call 91; refine (within_w _ _ _ _).mono ?_; rintro e w' ⟨rfl, rfl⟩) | (go_at_call 92; refine (isSized_c _ _ _ (by omega) (by omega)).mono ?_; rintro e w' ⟨rfl, rfl⟩) | (go_at_call 84; refine (first2d _ _ _ _ _ (by simp)).mono ?_; rintro e w' ⟨rfl, rfl⟩) | (go_at_call 84; refine (first2dd _ _ _ _ _ (by simp)).mono ?_; rintro e w' ⟨rfl, rfl⟩) | fail)
        go_wp2
        go_ret2
        exact ⟨ret_ii (by rw [R.out]) (by rw [R.out, RL.out]; simp [*]), by focus ((repeat first | with_reducible exact Below.refl _ _ | (with_reducible refine Below.setCell ?_ ?_ _) | (with_reducible refine Below.alloc ?_ ?_ _) | (with_reducible refine below_drewN ?_ _) | (with_reducible refine Below.drew ?_)); all_goals (first | with_reducible exact Nat.le_refl _ | omega | (simp; done) | (simp; omega) | (omega) | ((try simp); omega)))⟩
  · have h0' : (fstE [unl ((T.length : Int) % 2 == 1) 10, unl (decide ((T.length : Int) ≤ 11)) 8] != 0) = true := bneT (by rw [← E0.out]; exact h0)
    have R := Lib.hid (show chkL T lo hi turn slew = (0, lpE0 T.length) by unfold chkL; rw [if_pos h0])
    clear h0
    go_enter Try.func48, Try.ntmps48
    go_wp2
    go_region_held3 (fun w' => w'.cell? ⟨w.heap.size, 0, none⟩ = some (.slice A T.length c)) (go_keep) (first | (go_at_call 81; refine (unless_c _ _ _).mono ?_; rintro e w' ⟨rfl, rfl⟩) | (go_at_call 91; refine (within_w _ _ _ _).mono ?_; rintro e w' ⟨rfl, rfl⟩) | (go_at_call 92; refine (isSized_c _ _ _ (by omega) (by omega)).mono ?_; rintro e w' ⟨rfl, rfl⟩) | (go_at_call 84; refine (first2d _ _ _ _ _ (by simp)).mono ?_; rintro e w' ⟨rfl, rfl⟩) | (go_at_call 84; refine (first2dd _ _ _ _ _ (by simp)).mono ?_; rintro e w' ⟨rfl, rfl⟩) | fail)
    go_wp2_with (first | (go_at_call 81; refine (unless_c _ _ _).mono ?_; rintro e w' ⟨rfl, rfl⟩) | (go_at_call 91; refine (within_w _ _ _ _).mono ?_; rintro e w' ⟨rfl, rfl⟩) | (go_at_call 92; refine (isSized_c _ _ _ (by omega) (by omega)).mono ?_; rintro e w' ⟨rfl, rfl⟩) | (go_at_call 84; refine (first2d _ _ _ _ _ (by simp)).mono ?_; rintro e w' ⟨rfl, rfl⟩) | (go_at_call 84; refine (first2dd _ _ _ _ _ (by simp)).mono ?_; rintro e w' ⟨rfl, rfl⟩) | fail)
    go_ret2
    exact ⟨ret_ii (by rw [R.out]) (by rw [R.out]; rfl), by focus ((repeat first | with_reducible exact Below.refl _ _ | (with_reducible refine Below.setCell ?_ ?_ _) | (with_reducible refine Below.alloc ?_ ?_ _) | (with_reducible refine below_drewN ?_ _) | (with_reducible refine Below.drew ?_)); all_goals (first | with_reducible exact Nat.le_refl _ | omega | (simp; done) | (simp; omega) | (omega) | ((try simp); omega)))⟩

end Go.Proofs.Ytgbckdmhmkpahaa

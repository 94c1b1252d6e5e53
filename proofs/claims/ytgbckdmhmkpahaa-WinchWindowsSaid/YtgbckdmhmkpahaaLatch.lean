/-
  The walks of latches (chapter 2): latchErr, latchedErr, eventErr, event.
-/
import Derived.Test.YtgbckdmhmkpahaaLoops
import Derived.Test.YtgbckdmhmkpahaaEq
set_option linter.unusedVariables false
namespace Go.Proofs.Ytgbckdmhmkpahaa
open Go.RowKit Go.Shelf

theorem within_s (n lo hi : Int) (w : World) : Calls Try.prog 91 #[.int .i64 n, .int .i64 lo, .int .i64 hi] w fun e w' => e = .returned (.bool (inB n lo hi)) ∧ w' = w := (within_w n lo hi w).mono fun _ _ ⟨a, b⟩ => ⟨a, b.symm⟩
theorem unless_s (b : Bool) (e : Int) (w : World) : Calls Try.prog 81 #[.bool b, .int .i64 e] w fun r w' => r = .returned (.int .i64 (unl b e)) ∧ w' = w := (unless_c b e w).mono fun _ _ ⟨a, b⟩ => ⟨a, b.symm⟩
def latE (lim hold : Int) : Int := unl (inB lim 0 100000 && inB hold 0 100000) 2
def latdE (lim ld sn : Int) : Int := fstE [unl (inB ld 0 100000 && inB sn (-1) 1000000000000) 2, unl ((sn == -1) == decide (lim < ld)) 3]
def evE (at' kd vl : Int) : Int := fstE [unl (inB at' 0 1000000000000) 2, unl (inB kd 0 2) 15, unl (inB vl 0 100000 && (kd == 0 || vl == 0)) 2]

set_option maxHeartbeats 1000000 in
theorem latchErr_c (lim hold : Int) (w : World) : Calls Try.prog 124 #[.agg #[.int .i64 lim, .int .i64 hold]] w fun e w' => e = .returned (.int .i64 (latE lim hold)) ∧ Below w.heap.size w w' := by
  have HL := Lib.hid (show latE lim hold = unl (inB lim 0 100000 && inB hold 0 100000) 2 from rfl)
  generalize latE lim hold = L at *
  cases h : inB lim 0 100000
  all_goals
    go_enter Try.func124, Try.ntmps124
    go_wp2_with (first | (go_at_call 81; refine (unless_c _ _ _).mono ?_; rintro e w' ⟨rfl, rfl⟩) | (go_at_call 91; refine (within_w _ _ _ _).mono ?_; rintro e w' ⟨rfl, rfl⟩) | fail)
    all_goals go_ret
    all_goals exact ⟨ret_i (by rw [HL.out]; simp [h]), by focus ((repeat first | with_reducible exact Below.refl _ _ | (with_reducible refine Below.setCell ?_ ?_ _) | (with_reducible refine Below.alloc ?_ ?_ _) | (with_reducible refine below_drewN ?_ _) | (with_reducible refine Below.drew ?_)); all_goals (first | with_reducible exact Nat.le_refl _ | omega | (simp; done) | (simp; omega) | (omega) | ((try simp); omega)))⟩

set_option maxHeartbeats 2000000 in
set_option maxRecDepth 100000 in
theorem latchedErr_c (lim hold : Int) (cl : Bool) (ld sn : Int) (w : World) : Calls Try.prog 125 #[.agg #[.int .i64 lim, .int .i64 hold], .agg #[.bool cl, .int .i64 ld, .int .i64 sn]] w fun e w' => e = .returned (.int .i64 (latdE lim ld sn)) ∧ Below w.heap.size w w' := by
  have HL := Lib.hid (show latdE lim ld sn = fstE [unl (inB ld 0 100000 && inB sn (-1) 1000000000000) 2, unl ((sn == -1) == decide (lim < ld)) 3] from rfl)
  generalize latdE lim ld sn = L at *
  cases h : inB ld 0 100000
  all_goals
    have W1 := fun W => within_s ld 0 100000 W
    rw [h] at W1
    go_enter Try.func125, Try.ntmps125
    go_wp2
    (refine still_tail 19 mixed (by kernel_rfl) ?_; simp only [List.take_succ_cons, List.take_zero, List.drop_succ_cons, List.drop_zero]; (repeat (with_reducible refine wpStill_step ?_; intro K hK; go_simp; (try rw [if_neg (by simp [undef])]); (first | (with_reducible refine hK _ ?_) | (with_reducible refine ⟨_, W1 _, hK _ ?_⟩) | (with_reducible refine ⟨_, within_s _ _ _ _, hK _ ?_⟩) | (with_reducible refine ⟨_, unless_s _ _ _, hK _ ?_⟩) | fail); clear hK K)); with_reducible refine wpStill_nil ?_; change wpList _ _ _ _ _ _)
    go_wp2_with (first | (go_at_call 81; refine (unless_c _ _ _).mono ?_; rintro e w' ⟨rfl, rfl⟩) | (go_at_call 91; refine (within_w _ _ _ _).mono ?_; rintro e w' ⟨rfl, rfl⟩) | (go_at_call 84; refine (first2d _ _ _ _ _ (by simp)).mono ?_; rintro e w' ⟨rfl, rfl⟩) | fail)
    all_goals go_wp2
    all_goals go_ret
    all_goals exact ⟨ret_i (by rw [HL.out]; simp [h]), by focus ((repeat first | with_reducible exact Below.refl _ _ | (with_reducible refine Below.setCell ?_ ?_ _) | (with_reducible refine Below.alloc ?_ ?_ _) | (with_reducible refine below_drewN ?_ _) | (with_reducible refine Below.drew ?_)); all_goals (first | with_reducible exact Nat.le_refl _ | omega | (simp; done) | (simp; omega) | (omega) | ((try simp); omega)))⟩

set_option maxHeartbeats 4000000 in
set_option maxRecDepth 100000 in
theorem eventErr_c (at' kd vl : Int) (w : World) : Calls Try.prog 126 #[.agg #[.int .i64 at', .int .i64 kd, .int .i64 vl]] w fun e w' => e = .returned (.int .i64 (evE at' kd vl)) ∧ Below w.heap.size w w' := by
  have HL := Lib.hid (show evE at' kd vl = fstE [unl (inB at' 0 1000000000000) 2, unl (inB kd 0 2) 15, unl (inB vl 0 100000 && (kd == 0 || vl == 0)) 2] from rfl)
  generalize evE at' kd vl = L at *
  have hc : (inB vl 0 100000 = false) ∨ (inB vl 0 100000 = true ∧ (kd == 0) = true) ∨ (inB vl 0 100000 = true ∧ (kd == 0) = false) := by
    cases inB vl 0 100000 <;> cases (kd == 0) <;> simp
  rcases hc with h | ⟨h, h2⟩ | ⟨h, h2⟩
  all_goals
    have W1 := fun W => within_s vl 0 100000 W
    rw [h] at W1
    go_enter Try.func126, Try.ntmps126
    go_wp2
    (refine still_tail 22 mixed (by kernel_rfl) ?_; simp only [List.take_succ_cons, List.take_zero, List.drop_succ_cons, List.drop_zero]; (repeat (with_reducible refine wpStill_step ?_; intro K hK; go_simp; (try rw [if_neg (by simp [undef])]); (first | (with_reducible refine hK _ ?_) | (with_reducible refine ⟨_, W1 _, hK _ ?_⟩) | (with_reducible refine ⟨_, within_s _ _ _ _, hK _ ?_⟩) | (with_reducible refine ⟨_, unless_s _ _ _, hK _ ?_⟩) | fail); clear hK K)); with_reducible refine wpStill_nil ?_; change wpList _ _ _ _ _ _)
    go_wp2_with (first | (go_at_call 81; refine (unless_c _ _ _).mono ?_; rintro e w' ⟨rfl, rfl⟩) | (go_at_call 91; refine (within_w _ _ _ _).mono ?_; rintro e w' ⟨rfl, rfl⟩) | (go_at_call 84; refine (first3d _ _ _ _ _ _ (by simp)).mono ?_; rintro e w' ⟨rfl, rfl⟩) | fail)
    all_goals go_wp2
    all_goals go_ret
    all_goals exact ⟨ret_i (by rw [HL.out]; simp [*]), by focus ((repeat first | with_reducible exact Below.refl _ _ | (with_reducible refine Below.setCell ?_ ?_ _) | (with_reducible refine Below.alloc ?_ ?_ _) | (with_reducible refine below_drewN ?_ _) | (with_reducible refine Below.drew ?_)); all_goals (first | with_reducible exact Nat.le_refl _ | omega | (simp; done) | (simp; omega) | (omega) | ((try simp); omega)))⟩

end Go.Proofs.Ytgbckdmhmkpahaa

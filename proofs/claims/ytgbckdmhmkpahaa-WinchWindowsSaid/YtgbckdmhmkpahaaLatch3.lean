/-
  The walk of NextLatch, and of the references of latches (chapter 2).
-/
import Derived.Test.YtgbckdmhmkpahaaLatch2
import Derived.Deep.DeepCutAuto
set_option linter.unusedVariables false
namespace Go.Proofs.Ytgbckdmhmkpahaa
open Go.RowKit Go.Shelf

theorem ld_size : (Try.prog.info? 122).map (·.size) = some 3 := by kernel_rfl
set_option maxHeartbeats 400000 in
theorem isLoad_c (n : Int) (w : World) : Calls Try.prog 131 #[.int .i64 n] w fun e w' => e = .returned (.bool (inB n 0 100000)) ∧ w = w' := by
  go_enter Try.func131, Try.ntmps131
  go_wp2_with (go_at_call 37; refine (within_b _ _ _ _).mono ?_; rintro e w' ⟨rfl, rfl⟩)
  go_ret
  exact ⟨rfl, rfl⟩
set_option maxHeartbeats 400000 in
theorem isTick_c (n : Int) (w : World) : Calls Try.prog 132 #[.int .i64 n] w fun e w' => e = .returned (.bool (inB n 0 1000000000000)) ∧ w = w' := by
  go_enter Try.func132, Try.ntmps132
  go_wp2_with (go_at_call 37; refine (within_b _ _ _ _).mono ?_; rintro e w' ⟨rfl, rfl⟩)
  go_ret
  exact ⟨rfl, rfl⟩

set_option maxHeartbeats 1000000 in
theorem refLatchErr_c (lim hold : Int) (w : World) : Calls Try.prog 75 #[.agg #[.int .i64 lim, .int .i64 hold]] w fun e w' => e = .returned (.int .i64 (latE lim hold)) ∧ Below w.heap.size w w' := by
  have HL := Lib.hid (show latE lim hold = unl (inB lim 0 100000 && inB hold 0 100000) 2 from rfl)
  generalize latE lim hold = L at *
  cases h : inB lim 0 100000 <;> cases h2 : inB hold 0 100000
  all_goals
    go_enter Try.func75, Try.ntmps75
    go_wp2_with (go_at_call 131; refine (isLoad_c _ _).mono ?_; rintro e w' ⟨rfl, rfl⟩)
    go_ret
    exact ⟨ret_i (by rw [HL.out]; simp [h, h2, unl]), by focus ((repeat first | with_reducible exact Below.refl _ _ | (with_reducible refine Below.setCell ?_ ?_ _) | (with_reducible refine Below.alloc ?_ ?_ _) | (with_reducible refine below_drewN ?_ _) | (with_reducible refine Below.drew ?_)); all_goals (first | with_reducible exact Nat.le_refl _ | omega | (simp; done) | (simp; omega) | (omega) | ((try simp); omega)))⟩

set_option maxHeartbeats 1000000 in
theorem refEventErr_c (at' kd vl : Int) (w : World) : Calls Try.prog 76 #[.agg #[.int .i64 at', .int .i64 kd, .int .i64 vl]] w fun e w' => e = .returned (.int .i64 (evE at' kd vl)) ∧ Below w.heap.size w w' := by
  have HL := Lib.hid (show evE at' kd vl = fstE [unl (inB at' 0 1000000000000) 2, unl (inB kd 0 2) 15, unl (inB vl 0 100000 && (kd == 0 || vl == 0)) 2] from rfl)
  generalize evE at' kd vl = L at *
  cases h1 : inB at' 0 1000000000000
  · go_enter Try.func76, Try.ntmps76
    go_wp2_with (first | (go_at_call 131; refine (isLoad_c _ _).mono ?_; rintro e w' ⟨rfl, rfl⟩) | (go_at_call 132; refine (isTick_c _ _).mono ?_; rintro e w' ⟨rfl, rfl⟩) | (go_at_call 37; refine (within_b _ _ _ _).mono ?_; rintro e w' ⟨rfl, rfl⟩) | fail)
    go_ret
    exact ⟨ret_i (by rw [HL.out]; simp [h1, unl, fstE]), by focus ((repeat first | with_reducible exact Below.refl _ _ | (with_reducible refine Below.setCell ?_ ?_ _) | (with_reducible refine Below.alloc ?_ ?_ _) | (with_reducible refine below_drewN ?_ _) | (with_reducible refine Below.drew ?_)); all_goals (first | with_reducible exact Nat.le_refl _ | omega | (simp; done) | (simp; omega) | (omega) | ((try simp); omega)))⟩
  cases h2 : inB kd 0 2
  · go_enter Try.func76, Try.ntmps76
    go_wp2_with (first | (go_at_call 131; refine (isLoad_c _ _).mono ?_; rintro e w' ⟨rfl, rfl⟩) | (go_at_call 132; refine (isTick_c _ _).mono ?_; rintro e w' ⟨rfl, rfl⟩) | (go_at_call 37; refine (within_b _ _ _ _).mono ?_; rintro e w' ⟨rfl, rfl⟩) | fail)
    go_ret
    exact ⟨ret_i (by rw [HL.out]; simp [h1, h2, unl, fstE]), by focus ((repeat first | with_reducible exact Below.refl _ _ | (with_reducible refine Below.setCell ?_ ?_ _) | (with_reducible refine Below.alloc ?_ ?_ _) | (with_reducible refine below_drewN ?_ _) | (with_reducible refine Below.drew ?_)); all_goals (first | with_reducible exact Nat.le_refl _ | omega | (simp; done) | (simp; omega) | (omega) | ((try simp); omega)))⟩
  cases h3 : inB vl 0 100000
  · go_enter Try.func76, Try.ntmps76
    go_wp2_with (first | (go_at_call 131; refine (isLoad_c _ _).mono ?_; rintro e w' ⟨rfl, rfl⟩) | (go_at_call 132; refine (isTick_c _ _).mono ?_; rintro e w' ⟨rfl, rfl⟩) | (go_at_call 37; refine (within_b _ _ _ _).mono ?_; rintro e w' ⟨rfl, rfl⟩) | fail)
    go_ret
    exact ⟨ret_i (by rw [HL.out]; simp [h1, h2, h3, unl, fstE]), by focus ((repeat first | with_reducible exact Below.refl _ _ | (with_reducible refine Below.setCell ?_ ?_ _) | (with_reducible refine Below.alloc ?_ ?_ _) | (with_reducible refine below_drewN ?_ _) | (with_reducible refine Below.drew ?_)); all_goals (first | with_reducible exact Nat.le_refl _ | omega | (simp; done) | (simp; omega) | (omega) | ((try simp); omega)))⟩
  cases h4 : (kd == 0)
  all_goals cases h5 : (vl == 0)
  all_goals
    have h4' : (kd != 0) = !(kd == 0) := rfl
    have h5' : (vl != 0) = !(vl == 0) := rfl
    rw [h4] at h4'
    rw [h5] at h5'
    go_enter Try.func76, Try.ntmps76
    go_wp2_with (first | (go_at_call 131; refine (isLoad_c _ _).mono ?_; rintro e w' ⟨rfl, rfl⟩) | (go_at_call 132; refine (isTick_c _ _).mono ?_; rintro e w' ⟨rfl, rfl⟩) | (go_at_call 37; refine (within_b _ _ _ _).mono ?_; rintro e w' ⟨rfl, rfl⟩) | fail)
    go_ret
    exact ⟨ret_i (by rw [HL.out]; simp [h1, h2, h3, h4, h5, unl, fstE]), by focus ((repeat first | with_reducible exact Below.refl _ _ | (with_reducible refine Below.setCell ?_ ?_ _) | (with_reducible refine Below.alloc ?_ ?_ _) | (with_reducible refine below_drewN ?_ _) | (with_reducible refine Below.drew ?_)); all_goals (first | with_reducible exact Nat.le_refl _ | omega | (simp; done) | (simp; omega) | (omega) | ((try simp); omega)))⟩

set_option maxHeartbeats 1000000 in
theorem refLatchedErr_c (lim hold : Int) (cl : Bool) (ld sn : Int) (w : World) : Calls Try.prog 128 #[.agg #[.int .i64 lim, .int .i64 hold], .agg #[.bool cl, .int .i64 ld, .int .i64 sn]] w fun e w' => e = .returned (.int .i64 (latdE lim ld sn)) ∧ Below w.heap.size w w' := by
  have HL := Lib.hid (show latdE lim ld sn = fstE [unl (inB ld 0 100000 && inB sn (-1) 1000000000000) 2, unl ((sn == -1) == decide (lim < ld)) 3] from rfl)
  generalize latdE lim ld sn = L at *
  cases h : inB ld 0 100000
  · go_enter Try.func128, Try.ntmps128
    go_wp2_with (first | (go_at_call 131; refine (isLoad_c _ _).mono ?_; rintro e w' ⟨rfl, rfl⟩) | (go_at_call 37; refine (within_b _ _ _ _).mono ?_; rintro e w' ⟨rfl, rfl⟩) | fail)
    go_ret
    exact ⟨ret_i (by rw [HL.out]; simp [h, unl, fstE]), by focus ((repeat first | with_reducible exact Below.refl _ _ | (with_reducible refine Below.setCell ?_ ?_ _) | (with_reducible refine Below.alloc ?_ ?_ _) | (with_reducible refine below_drewN ?_ _) | (with_reducible refine Below.drew ?_)); all_goals (first | with_reducible exact Nat.le_refl _ | omega | (simp; done) | (simp; omega) | (omega) | ((try simp); omega)))⟩
  cases h2 : inB sn (-1) 1000000000000
  · go_enter Try.func128, Try.ntmps128
    go_wp2_with (first | (go_at_call 131; refine (isLoad_c _ _).mono ?_; rintro e w' ⟨rfl, rfl⟩) | (go_at_call 37; refine (within_b _ _ _ _).mono ?_; rintro e w' ⟨rfl, rfl⟩) | fail)
    go_ret
    exact ⟨ret_i (by rw [HL.out]; simp [h, h2, unl, fstE]), by focus ((repeat first | with_reducible exact Below.refl _ _ | (with_reducible refine Below.setCell ?_ ?_ _) | (with_reducible refine Below.alloc ?_ ?_ _) | (with_reducible refine below_drewN ?_ _) | (with_reducible refine Below.drew ?_)); all_goals (first | with_reducible exact Nat.le_refl _ | omega | (simp; done) | (simp; omega) | (omega) | ((try simp); omega)))⟩
  cases h3 : (sn == -1) <;> cases h4 : decide (lim < ld)
  all_goals
    go_enter Try.func128, Try.ntmps128
    go_wp2_with (first | (go_at_call 131; refine (isLoad_c _ _).mono ?_; rintro e w' ⟨rfl, rfl⟩) | (go_at_call 37; refine (within_b _ _ _ _).mono ?_; rintro e w' ⟨rfl, rfl⟩) | fail)
    all_goals go_ret
    all_goals exact ⟨ret_i (by rw [HL.out]; simp [h, h2, h3, h4, unl, fstE]), by focus ((repeat first | with_reducible exact Below.refl _ _ | (with_reducible refine Below.setCell ?_ ?_ _) | (with_reducible refine Below.alloc ?_ ?_ _) | (with_reducible refine below_drewN ?_ _) | (with_reducible refine Below.drew ?_)); all_goals (first | with_reducible exact Nat.le_refl _ | omega | (simp; done) | (simp; omega) | (omega) | ((try simp); omega)))⟩

set_option maxHeartbeats 400000 in
theorem begin_c (w : World) : Calls Try.prog 130 #[] w fun e w' => e = .returned (.agg #[.bool true, .int .i64 0, .int .i64 0]) ∧ Below w.heap.size w w' := by
  go_enter Try.func130, Try.ntmps130
  go_wp2
  refine bodyPost_ret (res_c1 rfl rfl (show Box _ _ 122 #[.bool true, .int .i64 0, .int .i64 0] from ?hE) Try.underlying122 rfl ld_size) rfl ⟨rfl, ?hB⟩
  case hE => focus (apply Box.via; apply Exists.intro; apply And.intro; (repeat first | with_reducible assumption | with_reducible exact Box.new _ _ _ | ((with_reducible apply Box.newAt); focus (simp; done)) | (with_reducible apply Box.drew) | (with_reducible apply Box.drewN) | (with_reducible apply Box.set) | (with_reducible apply Box.alloc) | (with_reducible apply Box.far)); all_goals (first | with_reducible exact Nat.le_refl _ | omega | (simp; done) | (simp; omega) | (omega) | ((try simp); omega)))
  case hB => focus ((repeat first | with_reducible exact Below.refl _ _ | (with_reducible refine Below.setCell ?_ ?_ _) | (with_reducible refine Below.alloc ?_ ?_ _) | (with_reducible refine below_drewN ?_ _) | (with_reducible refine Below.drew ?_)); all_goals (first | with_reducible exact Nat.le_refl _ | omega | (simp; done) | (simp; omega) | (omega) | ((try simp); omega)))

set_option maxHeartbeats 4000000 in
theorem latched_c (lim hold : Int) (cl : Bool) (ld sn at' kd vl : Int) (w : World) (h1 : -1 ≤ sn ∧ sn ≤ 1000000000000) (h2 : 0 ≤ at' ∧ at' ≤ 1000000000000) (hk : 0 ≤ kd ∧ kd ≤ 2) :
    Calls Try.prog 129 #[.agg #[.int .i64 lim, .int .i64 hold], .agg #[.bool cl, .int .i64 ld, .int .i64 sn], .agg #[.int .i64 at', .int .i64 kd, .int .i64 vl]] w fun e w' => e = .returned (.tuple #[.agg #[.bool (stepL lim hold (cl, ld, sn) (at', kd, vl)).1.1, .int .i64 (stepL lim hold (cl, ld, sn) (at', kd, vl)).1.2.1, .int .i64 (stepL lim hold (cl, ld, sn) (at', kd, vl)).1.2.2], .int .i64 (stepL lim hold (cl, ld, sn) (at', kd, vl)).2]) ∧ Below w.heap.size w w' := by
  by_cases hk0 : kd = 0
  · have e0 : (kd == 0) = true := beqT hk0
    have R := Lib.hid (show stepL lim hold (cl, ld, sn) (at', kd, vl) = ((cl, vl, if lim < vl then -1 else if sn < 0 then at' else sn), 0) from if_pos hk0)
    clear hk0
    by_cases h3 : lim < vl
    · rw [if_pos h3] at R
      generalize stepL lim hold (cl, ld, sn) (at', kd, vl) = r at *
      go_enter Try.func129, Try.ntmps129
      go_wp2
      refine bodyPost_ret (res_c2 rfl rfl (show Box _ _ 122 #[.bool cl, .int .i64 vl, .int .i64 (-1)] from ?hE) Try.underlying122 rfl ld_size) rfl ⟨ret_t2 (by rw [R.out]) (by rw [R.out]; rfl), ?hB⟩
      case hE => focus (apply Box.via; apply Exists.intro; apply And.intro; (repeat first | with_reducible assumption | with_reducible exact Box.new _ _ _ | ((with_reducible apply Box.newAt); focus (simp; done)) | (with_reducible apply Box.drew) | (with_reducible apply Box.drewN) | (with_reducible apply Box.set) | (with_reducible apply Box.alloc) | (with_reducible apply Box.far)); all_goals (first | with_reducible exact Nat.le_refl _ | omega | (simp; done) | (simp; omega) | (omega) | ((try simp); omega)))
      case hB => focus ((repeat first | with_reducible exact Below.refl _ _ | (with_reducible refine Below.setCell ?_ ?_ _) | (with_reducible refine Below.alloc ?_ ?_ _) | (with_reducible refine below_drewN ?_ _) | (with_reducible refine Below.drew ?_)); all_goals (first | with_reducible exact Nat.le_refl _ | omega | (simp; done) | (simp; omega) | (omega) | ((try simp); omega)))
    · rw [if_neg h3] at R
      by_cases h4 : sn = -1
      · rw [if_pos (by omega)] at R
        have e4 : (sn == -1) = true := beqT h4
        clear h4
        generalize stepL lim hold (cl, ld, sn) (at', kd, vl) = r at *
        go_enter Try.func129, Try.ntmps129
        go_wp2
        refine bodyPost_ret (res_c2 rfl rfl (show Box _ _ 122 #[.bool cl, .int .i64 vl, .int .i64 at'] from ?hE) Try.underlying122 rfl ld_size) rfl ⟨ret_t2 (by rw [R.out]) (by rw [R.out]; rfl), ?hB⟩
        case hE => focus (apply Box.via; apply Exists.intro; apply And.intro; (repeat first | with_reducible assumption | with_reducible exact Box.new _ _ _ | ((with_reducible apply Box.newAt); focus (simp; done)) | (with_reducible apply Box.drew) | (with_reducible apply Box.drewN) | (with_reducible apply Box.set) | (with_reducible apply Box.alloc) | (with_reducible apply Box.far)); all_goals (first | with_reducible exact Nat.le_refl _ | omega | (simp; done) | (simp; omega) | (omega) | ((try simp); omega)))
        case hB => focus ((repeat first | with_reducible exact Below.refl _ _ | (with_reducible refine Below.setCell ?_ ?_ _) | (with_reducible refine Below.alloc ?_ ?_ _) | (with_reducible refine below_drewN ?_ _) | (with_reducible refine Below.drew ?_)); all_goals (first | with_reducible exact Nat.le_refl _ | omega | (simp; done) | (simp; omega) | (omega) | ((try simp); omega)))
      · rw [if_neg (by omega)] at R
        have e4 : (sn == -1) = false := beqF h4
        clear h4
        generalize stepL lim hold (cl, ld, sn) (at', kd, vl) = r at *
        go_enter Try.func129, Try.ntmps129
        go_wp2
        refine bodyPost_ret (res_c2 rfl rfl (show Box _ _ 122 #[.bool cl, .int .i64 vl, .int .i64 sn] from ?hE) Try.underlying122 rfl ld_size) rfl ⟨ret_t2 (by rw [R.out]) (by rw [R.out]; rfl), ?hB⟩
        case hE => focus (apply Box.via; apply Exists.intro; apply And.intro; (repeat first | with_reducible assumption | with_reducible exact Box.new _ _ _ | ((with_reducible apply Box.newAt); focus (simp; done)) | (with_reducible apply Box.drew) | (with_reducible apply Box.drewN) | (with_reducible apply Box.set) | (with_reducible apply Box.alloc) | (with_reducible apply Box.far)); all_goals (first | with_reducible exact Nat.le_refl _ | omega | (simp; done) | (simp; omega) | (omega) | ((try simp); omega)))
        case hB => focus ((repeat first | with_reducible exact Below.refl _ _ | (with_reducible refine Below.setCell ?_ ?_ _) | (with_reducible refine Below.alloc ?_ ?_ _) | (with_reducible refine below_drewN ?_ _) | (with_reducible refine Below.drew ?_)); all_goals (first | with_reducible exact Nat.le_refl _ | omega | (simp; done) | (simp; omega) | (omega) | ((try simp); omega)))
  · have e0 : (kd == 0) = false := beqF hk0
    by_cases h3 : (kd == 2) = cl
    · have R := Lib.hid (show stepL lim hold (cl, ld, sn) (at', kd, vl) = ((false, 0, 0), 20) by unfold stepL; rw [if_neg hk0, if_pos h3])
      have e3 : (cl == (kd == 1)) = false := by
        rcases (show kd = 1 ∨ kd = 2 by omega) with rfl | rfl <;> cases cl <;> simp at h3 ⊢
      clear hk0 h3
      generalize stepL lim hold (cl, ld, sn) (at', kd, vl) = r at *
      go_enter Try.func129, Try.ntmps129
      go_wp2
      refine bodyPost_ret (res_c2 rfl rfl (show Box _ _ 122 #[.bool false, .int .i64 0, .int .i64 0] from ?hE) Try.underlying122 rfl ld_size) rfl ⟨ret_t2 (by rw [R.out]) (by rw [R.out]; rfl), ?hB⟩
      case hE => focus (apply Box.via; apply Exists.intro; apply And.intro; (repeat first | with_reducible assumption | with_reducible exact Box.new _ _ _ | ((with_reducible apply Box.newAt); focus (simp; done)) | (with_reducible apply Box.drew) | (with_reducible apply Box.drewN) | (with_reducible apply Box.set) | (with_reducible apply Box.alloc) | (with_reducible apply Box.far)); all_goals (first | with_reducible exact Nat.le_refl _ | omega | (simp; done) | (simp; omega) | (omega) | ((try simp); omega)))
      case hB => focus ((repeat first | with_reducible exact Below.refl _ _ | (with_reducible refine Below.setCell ?_ ?_ _) | (with_reducible refine Below.alloc ?_ ?_ _) | (with_reducible refine below_drewN ?_ _) | (with_reducible refine Below.drew ?_)); all_goals (first | with_reducible exact Nat.le_refl _ | omega | (simp; done) | (simp; omega) | (omega) | ((try simp); omega)))
    · have e3 : (cl == (kd == 1)) = true := by
        rcases (show kd = 1 ∨ kd = 2 by omega) with rfl | rfl <;> cases cl <;> simp at h3 ⊢
      have e6 : (kd == 2) = !cl := by
        revert h3; cases (kd == 2) <;> cases cl <;> simp
      by_cases h4 : sn = -1
      · have R := Lib.hid (show stepL lim hold (cl, ld, sn) (at', kd, vl) = ((false, 0, 0), 24) by unfold stepL; rw [if_neg hk0, if_neg h3, if_pos (.inl (show sn < 0 by omega))])
        have e4 : (sn == -1) = true := beqT h4
        clear hk0 h3 h4 e6
        generalize stepL lim hold (cl, ld, sn) (at', kd, vl) = r at *
        go_enter Try.func129, Try.ntmps129
        go_wp2
        refine bodyPost_ret (res_c2 rfl rfl (show Box _ _ 122 #[.bool false, .int .i64 0, .int .i64 0] from ?hE) Try.underlying122 rfl ld_size) rfl ⟨ret_t2 (by rw [R.out]) (by rw [R.out]; rfl), ?hB⟩
        case hE => focus (apply Box.via; apply Exists.intro; apply And.intro; (repeat first | with_reducible assumption | with_reducible exact Box.new _ _ _ | ((with_reducible apply Box.newAt); focus (simp; done)) | (with_reducible apply Box.drew) | (with_reducible apply Box.drewN) | (with_reducible apply Box.set) | (with_reducible apply Box.alloc) | (with_reducible apply Box.far)); all_goals (first | with_reducible exact Nat.le_refl _ | omega | (simp; done) | (simp; omega) | (omega) | ((try simp); omega)))
        case hB => focus ((repeat first | with_reducible exact Below.refl _ _ | (with_reducible refine Below.setCell ?_ ?_ _) | (with_reducible refine Below.alloc ?_ ?_ _) | (with_reducible refine below_drewN ?_ _) | (with_reducible refine Below.drew ?_)); all_goals (first | with_reducible exact Nat.le_refl _ | omega | (simp; done) | (simp; omega) | (omega) | ((try simp); omega)))
      · have e4 : (sn == -1) = false := beqF h4
        by_cases h5 : at' - sn < hold
        · have R := Lib.hid (show stepL lim hold (cl, ld, sn) (at', kd, vl) = ((false, 0, 0), 24) by unfold stepL; rw [if_neg hk0, if_neg h3, if_pos (.inr h5)])
          clear hk0 h3 h4 e6
          generalize stepL lim hold (cl, ld, sn) (at', kd, vl) = r at *
          go_enter Try.func129, Try.ntmps129
          go_wp2
          refine bodyPost_ret (res_c2 rfl rfl (show Box _ _ 122 #[.bool false, .int .i64 0, .int .i64 0] from ?hE) Try.underlying122 rfl ld_size) rfl ⟨ret_t2 (by rw [R.out]) (by rw [R.out]; rfl), ?hB⟩
          case hE => focus (apply Box.via; apply Exists.intro; apply And.intro; (repeat first | with_reducible assumption | with_reducible exact Box.new _ _ _ | ((with_reducible apply Box.newAt); focus (simp; done)) | (with_reducible apply Box.drew) | (with_reducible apply Box.drewN) | (with_reducible apply Box.set) | (with_reducible apply Box.alloc) | (with_reducible apply Box.far)); all_goals (first | with_reducible exact Nat.le_refl _ | omega | (simp; done) | (simp; omega) | (omega) | ((try simp); omega)))
          case hB => focus ((repeat first | with_reducible exact Below.refl _ _ | (with_reducible refine Below.setCell ?_ ?_ _) | (with_reducible refine Below.alloc ?_ ?_ _) | (with_reducible refine below_drewN ?_ _) | (with_reducible refine Below.drew ?_)); all_goals (first | with_reducible exact Nat.le_refl _ | omega | (simp; done) | (simp; omega) | (omega) | ((try simp); omega)))
        · have R := Lib.hid (show stepL lim hold (cl, ld, sn) (at', kd, vl) = (((!cl), ld, sn), 0) by unfold stepL; rw [if_neg hk0, if_neg h3, if_neg (show ¬ (sn < 0 ∨ at' - sn < hold) by omega), ← e6])
          clear hk0 h3 h4 e6
          generalize stepL lim hold (cl, ld, sn) (at', kd, vl) = r at *
          go_enter Try.func129, Try.ntmps129
          go_wp2
          refine bodyPost_ret (res_c2 rfl rfl (show Box _ _ 122 #[.bool (!cl), .int .i64 ld, .int .i64 sn] from ?hE) Try.underlying122 rfl ld_size) rfl ⟨ret_t2 (by rw [R.out]) (by rw [R.out]; rfl), ?hB⟩
          case hE => focus (apply Box.via; apply Exists.intro; apply And.intro; (repeat first | with_reducible assumption | with_reducible exact Box.new _ _ _ | ((with_reducible apply Box.newAt); focus (simp; done)) | (with_reducible apply Box.drew) | (with_reducible apply Box.drewN) | (with_reducible apply Box.set) | (with_reducible apply Box.alloc) | (with_reducible apply Box.far)); all_goals (first | with_reducible exact Nat.le_refl _ | omega | (simp; done) | (simp; omega) | (omega) | ((try simp); omega)))
          case hB => focus ((repeat first | with_reducible exact Below.refl _ _ | (with_reducible refine Below.setCell ?_ ?_ _) | (with_reducible refine Below.alloc ?_ ?_ _) | (with_reducible refine below_drewN ?_ _) | (with_reducible refine Below.drew ?_)); all_goals (first | with_reducible exact Nat.le_refl _ | omega | (simp; done) | (simp; omega) | (omega) | ((try simp); omega)))

end Go.Proofs.Ytgbckdmhmkpahaa

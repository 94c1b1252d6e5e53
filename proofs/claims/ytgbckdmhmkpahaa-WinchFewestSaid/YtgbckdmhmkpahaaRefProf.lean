/-
  The references of profiles (chapter 2): LimitsErr, DistanceErr, farthest, shortest, Ticks, fits.
-/
import Derived.Test.YtgbckdmhmkpahaaProf2
import Derived.Deep.RegionHeld3
set_option linter.unusedVariables false
namespace Go.Proofs.Ytgbckdmhmkpahaa
open Go.RowKit Go.Shelf

set_option maxHeartbeats 1000000 in
theorem refLimitsErr_c (sp st : Int) (w : World) : Calls Try.prog 31 #[.agg #[.int .i64 sp, .int .i64 st]] w fun e w' => e = .returned (.int .i64 (limE sp st)) ∧ Below w.heap.size w w' := by
  have HL := Lib.hid (show limE sp st = unl (inB sp 1 100 && inB st 1 100) 2 from rfl)
  generalize limE sp st = L at *
  cases h : inB sp 1 100 <;> cases h2 : inB st 1 100
  all_goals
    go_enter Try.func31, Try.ntmps31
    go_wp2_with (first | (go_at_call 37; refine (within_b _ _ _ _).mono ?_; rintro e w' ⟨rfl, rfl⟩) | fail)
    all_goals go_ret
    all_goals exact ⟨ret_i (by rw [HL.out]; simp [h, h2, unl]), by focus ((repeat first | with_reducible exact Below.refl _ _ | (with_reducible refine Below.setCell ?_ ?_ _) | (with_reducible refine Below.alloc ?_ ?_ _) | (with_reducible refine below_drewN ?_ _) | (with_reducible refine Below.drew ?_)); all_goals (first | with_reducible exact Nat.le_refl _ | omega | (simp; done) | (simp; omega) | (omega) | ((try simp); omega)))⟩
set_option maxHeartbeats 400000 in
theorem refDistanceErr_c (d : Int) (w : World) : Calls Try.prog 33 #[.int .i64 d] w fun e w' => e = .returned (.int .i64 (dstE d)) ∧ w = w' := by
  have HL := Lib.hid (show dstE d = unl (inB d 0 10000) 2 from rfl)
  generalize dstE d = L at *
  cases h : inB d 0 10000
  all_goals
    go_enter Try.func33, Try.ntmps33
    go_wp2_with (first | (go_at_call 37; refine (within_b _ _ _ _).mono ?_; rintro e w' ⟨rfl, rfl⟩) | fail)
    go_ret
    exact ⟨ret_i (by rw [HL.out]; simp [h, unl]), rfl⟩

set_option maxHeartbeats 1000000 in
theorem refFarthest_c (sp st fr : Int) (n : Nat) (w : World) (h1 : 0 ≤ sp ∧ sp ≤ 100) (h2 : 0 ≤ st ∧ st ≤ 100) (h3 : 0 ≤ fr ∧ fr ≤ 100) (h4 : (n : Int) ≤ 300) :
    Calls Try.prog 96 #[.agg #[.int .i64 sp, .int .i64 st], .int .i64 fr, .int .i64 n] w fun e w' => e = .returned (.int .i64 (farTo sp st fr n n)) ∧ Below w.heap.size w w' := by
  go_enter Try.func96, Try.ntmps96
  go_wp2
  go_loop [7, 8] (fun s i => ∃ k : Nat, k ≤ n ∧ i = .int .i64 ((k + 1 : Nat) : Int) ∧ s = .int .i64 (farTo sp st fr n k)) (fun _ i => n + 1 - (intOf i).toNat)
  case atStart => exact ⟨0, Nat.zero_le _, rfl, rfl⟩
  case round =>
    obtain ⟨k, hk, rfl, rfl⟩ := hrel
    by_cases hlt : k < n
    · have b := farTo_bd h1 h2 h3 h4 k (by omega)
      have a1 := mulb (x := (k : Int) + 1) (by omega) h2
      have a2 := mulb (x := (n : Int) - k) (by omega) h2
      have m1 : st * ((k : Int) + 1) = ((k : Int) + 1) * st := Int.mul_comm _ _
      have m2 : st * ((n : Int) + 1 - ((k : Int) + 1)) = ((n : Int) - k) * st := by rw [show (n : Int) + 1 - ((k : Int) + 1) = (n : Int) - k from by omega, Int.mul_comm]
      have F := Lib.hid (show farTo sp st fr n (k + 1) = farTo sp st fr n k + min sp (min (fr + st * ((k : Int) + 1)) (st * ((n : Int) + 1 - ((k : Int) + 1)))) from by rw [m1, m2]; rfl)
      rw [← m1] at a1; rw [← m2] at a2
      clear m1 m2
      generalize farTo sp st fr n k = f at *
      have hc0 : (n : Int) ≤ 300 := h4
      go_wp2
      all_goals
        go_round
        case rel => exact ⟨k + 1, by omega, by go_num, by first | (rw [F.out]; done) | (rw [F.out]; exact vint (by omega))⟩
        case measure => (simp [intOf]; try omega)
    · obtain rfl : k = n := by omega
      go_wp2
      go_ret
      exact ⟨rfl, by focus ((repeat first | with_reducible exact Below.refl _ _ | (with_reducible refine Below.setCell ?_ ?_ _) | (with_reducible refine Below.alloc ?_ ?_ _) | (with_reducible refine below_drewN ?_ _) | (with_reducible refine Below.drew ?_)); all_goals (first | with_reducible exact Nat.le_refl _ | omega | (simp; done) | (simp; omega) | (omega) | ((try simp); omega)))⟩

set_option maxHeartbeats 1000000 in
theorem refShortest_c (sp st fr : Int) (n : Nat) (w : World) (h2 : 0 ≤ st ∧ st ≤ 100) (h3 : 0 ≤ fr ∧ fr ≤ 100) (h4 : (n : Int) ≤ 300) :
    Calls Try.prog 141 #[.agg #[.int .i64 sp, .int .i64 st], .int .i64 fr, .int .i64 n] w fun e w' => e = .returned (.int .i64 (nearTo st fr n)) ∧ Below w.heap.size w w' := by
  go_enter Try.func141, Try.ntmps141
  go_wp2
  go_loop [7, 8] (fun s i => ∃ k : Nat, k ≤ n ∧ i = .int .i64 ((k + 1 : Nat) : Int) ∧ s = .int .i64 (nearTo st fr k)) (fun _ i => n + 1 - (intOf i).toNat)
  case atStart => exact ⟨0, Nat.zero_le _, rfl, rfl⟩
  case round =>
    obtain ⟨k, hk, rfl, rfl⟩ := hrel
    by_cases hlt : k < n
    · have b := nearTo_bd h2 h3 k (by omega)
      have a1 := mulb (x := (k : Int) + 1) (by omega) h2
      have m1 : st * ((k : Int) + 1) = ((k : Int) + 1) * st := Int.mul_comm _ _
      have F := Lib.hid (show nearTo st fr (k + 1) = nearTo st fr k + max 0 (fr - st * ((k : Int) + 1)) from by rw [m1]; rfl)
      rw [← m1] at a1
      clear m1
      generalize nearTo st fr k = f at *
      have hc0 : (n : Int) ≤ 300 := h4
      go_wp2
      all_goals
        go_round
        case rel => exact ⟨k + 1, by omega, by go_num, by first | (rw [F.out]; done) | (rw [F.out]; exact vint (by omega))⟩
        case measure => (simp [intOf]; try omega)
    · obtain rfl : k = n := by omega
      go_wp2
      go_ret
      exact ⟨rfl, by focus ((repeat first | with_reducible exact Below.refl _ _ | (with_reducible refine Below.setCell ?_ ?_ _) | (with_reducible refine Below.alloc ?_ ?_ _) | (with_reducible refine below_drewN ?_ _) | (with_reducible refine Below.drew ?_)); all_goals (first | with_reducible exact Nat.le_refl _ | omega | (simp; done) | (simp; omega) | (omega) | ((try simp); omega)))⟩

/-- What Ticks answers. -/
def refTickP (sp st d : Int) : Int × Bool := if (tickP sp st d).2 = 0 then ((tickP sp st d).1, true) else (0, false)
theorem tickFrom_b (sp st d : Int) : ∀ (f k : Nat), (tickFrom sp st d f k).2 = 0 ∨ tickFrom sp st d f k = (0, 8)
  | 0, k => .inr rfl
  | f + 1, k => by
    unfold tickFrom
    split
    · exact .inl rfl
    · exact tickFrom_b sp st d f (k + 1)

set_option maxHeartbeats 1000000 in
set_option maxRecDepth 100000 in
theorem refTicks_c (sp st d : Int) (w : World) (h1 : 0 ≤ sp ∧ sp ≤ 100) (h2 : 0 ≤ st ∧ st ≤ 100) :
    Calls Try.prog 34 #[.agg #[.int .i64 sp, .int .i64 st], .int .i64 d] w fun e w' => e = .returned (.tuple #[.int .i64 (refTickP sp st d).1, .bool (refTickP sp st d).2]) ∧ Below w.heap.size w w' := by
  go_enter Try.func34, Try.ntmps34
  go_wp2
  go_loopw [6] (fun i wr => ∃ k : Nat, k ≤ 201 ∧ i = .int .i64 k ∧ Hid (tickP sp st d = tickFrom sp st d (201 - k) k) ∧ Box wr w.heap.size 56 #[.int .i64 sp, .int .i64 st] ∧ Below w.heap.size w wr) (fun i _ => 201 - (intOf i).toNat)
  case atStart => exact ⟨0, by omega, rfl, rfl, Box.new _ _ _, by focus ((repeat first | with_reducible exact Below.refl _ _ | (with_reducible refine Below.setCell ?_ ?_ _) | (with_reducible refine Below.alloc ?_ ?_ _) | (with_reducible refine below_drewN ?_ _) | (with_reducible refine Below.drew ?_)); all_goals (first | with_reducible exact Nat.le_refl _ | omega | (simp; done) | (simp; omega) | (omega) | ((try simp); omega)))⟩
  case round =>
    obtain ⟨k, hk, rfl, hf, hb, hB⟩ := hrel
    have c0 := hb.cell 0; have c1 := hb.cell 1
    simp at c0 c1
    have hl := hb.lt
    by_cases hlt : k < 201
    · have hk0 : decide ((k : Int) ≤ 200) = true := decide_eq_true (by omega)
      have hk1 : decide (k ≤ 200) = true := decide_eq_true (by omega)
      have hk2 : k ≤ 200 := by omega
      have F := Lib.hid (fun W => refFarthest_c sp st 0 k W h1 h2 (by omega) (by omega))
      have G := Lib.hid (show tickFrom sp st d (201 - k) k = if d ≤ farTo sp st 0 k k then ((k : Int), 0) else tickFrom sp st d (201 - (k + 1)) (k + 1) by
        rw [show 201 - k = (201 - (k + 1)) + 1 from by omega]; rfl)
      generalize farTo sp st 0 k k = f at *
      by_cases hd : d ≤ f
      · have hg : decide (d ≤ f) = true := decide_eq_true hd
        go_wp2_with (go_at_call 96; refine (F.out _).mono ?_; rintro e w1 ⟨rfl, hb1⟩)
        go_ret2
        have e : refTickP sp st d = ((k : Int), true) := by unfold refTickP; rw [hf.out, G.out, if_pos hd, if_pos rfl]
        exact ⟨ret_t2 (by rw [e]; rfl) (by rw [e]; rfl), by focus ((repeat first | with_reducible exact Below.refl _ _ | (with_reducible refine Below.setCell ?_ ?_ _) | (with_reducible refine Below.alloc ?_ ?_ _) | (with_reducible refine below_drewN ?_ _) | (with_reducible refine Below.drew ?_) | (with_reducible refine Below.trans ?_ (Below.mono hb1 ?_)) | (with_reducible refine Below.trans ?_ (Below.mono hB ?_))); all_goals (first | with_reducible exact Nat.le_refl _ | omega | (simp; done) | (simp; omega) | (have := hb1.size; (try simp at this); have := hB.size; (try simp at this); omega) | (have := hb1.size; (try simp at this); have := hB.size; (try simp at this); (try simp); omega)))⟩
      · have hg : decide (d ≤ f) = false := decide_eq_false hd
        go_wp2_with (go_at_call 96; refine (F.out _).mono ?_; rintro e w1 ⟨rfl, hb1⟩)
        go_roundw
        case rel => exact ⟨k + 1, by omega, by go_num, by unfold Hid; rw [hf.out, G.out, if_neg (by omega)], hb.below hb1 hl, by focus ((repeat first | with_reducible exact Below.refl _ _ | (with_reducible refine Below.setCell ?_ ?_ _) | (with_reducible refine Below.alloc ?_ ?_ _) | (with_reducible refine below_drewN ?_ _) | (with_reducible refine Below.drew ?_) | (with_reducible refine Below.trans ?_ (Below.mono hb1 ?_)) | (with_reducible refine Below.trans ?_ (Below.mono hB ?_))); all_goals (first | with_reducible exact Nat.le_refl _ | omega | (simp; done) | (simp; omega) | (have := hb1.size; (try simp at this); have := hB.size; (try simp at this); omega) | (have := hb1.size; (try simp at this); have := hB.size; (try simp at this); (try simp); omega)))⟩
        case measure => simp [intOf]; omega
    · obtain rfl : k = 201 := by omega
      go_wp2
      go_ret2
      have e : refTickP sp st d = (0, false) := by unfold refTickP; rw [hf.out]; rfl
      exact ⟨ret_t2 (by rw [e]; rfl) (by rw [e]; rfl), by focus ((repeat first | with_reducible exact Below.refl _ _ | (with_reducible refine Below.setCell ?_ ?_ _) | (with_reducible refine Below.alloc ?_ ?_ _) | (with_reducible refine below_drewN ?_ _) | (with_reducible refine Below.drew ?_) | (with_reducible refine Below.trans ?_ (Below.mono hB ?_))); all_goals (first | with_reducible exact Nat.le_refl _ | omega | (simp; done) | (simp; omega) | (have := hB.size; (try simp at this); omega) | (have := hB.size; (try simp at this); (try simp); omega)))⟩

end Go.Proofs.Ytgbckdmhmkpahaa

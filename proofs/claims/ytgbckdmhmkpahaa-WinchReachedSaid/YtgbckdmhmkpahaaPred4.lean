/-
  The walks of CheckPredictor and NextBy (chapter 2).
-/
import Derived.Test.YtgbckdmhmkpahaaPred3
set_option linter.unusedVariables false
namespace Go.Proofs.Ytgbckdmhmkpahaa
open Go.RowKit Go.Shelf

theorem prdE_ok {a b d : Int} (h : prdE a b d = 0) : (1 ≤ d ∧ d ≤ 1000000000000) ∧ (-1000000000000 ≤ a ∧ a ≤ 1000000000000) ∧ (-1000000000000 ≤ b ∧ b ≤ 1000000000000) ∧ gcdL [a, b, d] = 1 := by
  unfold prdE at h
  split at h <;> rename_i h1
  · simp at h
  · simp only [prdBad, Bool.not_eq_true', Bool.not_eq_false, Bool.and_eq_true] at h1
    have h2 := (unl_ne _ 3 (by omega)).1 h
    exact ⟨inB_true.1 h1.1.1, inB_true.1 h1.1.2, inB_true.1 h1.2, by simp at h2; omega⟩

theorem prod4_bd {x y : Int} (hx : -1000000000000 ≤ x ∧ x ≤ 1000000000000) (hy : -180000 ≤ y ∧ y ≤ 180000) : -180000000000000000 ≤ x * y ∧ x * y ≤ 180000000000000000 := by
  have h1 : (x * y).natAbs ≤ 1000000000000 * 180000 := by rw [Int.natAbs_mul]; exact Nat.mul_le_mul (by omega) (by omega)
  omega

def chkP0 (xs : List Int) (a b d : Int) : Int := fstE [(chkS xs).2, prdE a b d]
def chkP (xs : List Int) (a b d : Int) : Int × Int :=
  if chkP0 xs a b d ≠ 0 then (0, chkP0 xs a b d)
  else if d * sm xs 0 1 ≠ a * sm xs 1 1 + b * sm xs 1 2 then (0, 19)
  else if d * sm xs 0 2 ≠ a * sm xs 1 2 + b * sm xs 2 2 then (1, 19)
  else (0, unl (detS xs != 0) 11)

set_option maxHeartbeats 2000000 in
theorem checkPredictor_no (xs : List Int) (A : Option Addr) (c : Nat) (a b d : Int) (w : World) (hn : xs.length ≤ 9223372036854775807) (hs : SlI w A xs) (he : chkP0 xs a b d ≠ 0) :
    Calls Try.prog 42 #[.slice A xs.length c, .agg #[.int .i64 a, .int .i64 b, .int .i64 d]] w fun e w' => e = .returned (.tuple #[.int .i64 0, .int .i64 (chkP0 xs a b d)]) ∧ Below w.heap.size w w' := by
  have H := Lib.hid (fun W h => samplesErr_c xs A c W hn h)
  have G := Lib.hid (fun W => predictorErr_c a b d W)
  have F := Lib.hid (show chkP0 xs a b d = fstE [(chkS xs).2, prdE a b d] from rfl)
  have e1 : (chkP0 xs a b d != 0) = true := bneT he
  have e2 := F.out.symm
  clear hn he
  generalize chkP0 xs a b d = E at *
  go_enter Try.func42, Try.ntmps42
  go_wp2
  go_region_with (first | (go_at_call 86; refine (H.out _ (SlI.below hs (by focus ((repeat first | with_reducible exact Below.refl _ _ | (with_reducible refine Below.setCell ?_ ?_ _) | (with_reducible refine Below.alloc ?_ ?_ _) | (with_reducible refine below_drewN ?_ _) | (with_reducible refine Below.drew ?_)); all_goals (first | with_reducible exact Nat.le_refl _ | omega | (simp; done) | (simp; omega) | (omega) | ((try simp); omega)))))).mono ?_; rintro e w1 ⟨rfl, hb1⟩; obtain ⟨hc1, hf1⟩ := bcell hb1; have hz1 : w.heap.size < w1.heap.size := by have := hb1.size; (try simp at this); omega) | (go_at_call 85; refine (G.out _).mono ?_; rintro e w2 ⟨rfl, hb2⟩; obtain ⟨hc2, hf2⟩ := bcell hb2; have hz2 : w.heap.size < w2.heap.size := by have := hb2.size; (try simp at this); omega) | (go_at_call 84; refine (first2_c _ _ _ _).mono ?_; rintro e w' ⟨rfl, rfl⟩))
  all_goals go_wp2
  all_goals go_ret2
  all_goals exact ⟨rfl, by focus ((repeat first | with_reducible exact Below.refl _ _ | (with_reducible refine Below.setCell ?_ ?_ _) | (with_reducible refine Below.alloc ?_ ?_ _) | (with_reducible refine below_drewN ?_ _) | (with_reducible refine Below.drew ?_) | (with_reducible refine Below.trans ?_ (Below.mono hb1 ?_)) | (with_reducible refine Below.trans ?_ (Below.mono hb2 ?_))); all_goals (first | with_reducible exact Nat.le_refl _ | omega | (simp; done) | (simp; omega) | (have := hb1.size; (try simp at this); have := hb2.size; (try simp at this); omega) | (have := hb1.size; (try simp at this); have := hb2.size; (try simp at this); (try simp); omega)))⟩

set_option maxHeartbeats 4000000 in
theorem checkPredictor_yes (xs : List Int) (A : Option Addr) (c : Nat) (a b d : Int) (w : World) (hs : SlI w A xs) (he : chkP0 xs a b d = 0) :
    Calls Try.prog 42 #[.slice A xs.length c, .agg #[.int .i64 a, .int .i64 b, .int .i64 d]] w fun e w' => e = .returned (.tuple #[.int .i64 (chkP xs a b d).1, .int .i64 (chkP xs a b d).2]) ∧ Below w.heap.size w w' := by
  have F := Lib.hid he
  rw [chkP0, fst2] at he
  have hk : (chkS xs).2 = 0 := by
    by_cases h : (chkS xs).2 = 0
    · exact h
    · rw [if_neg h] at he; exact he
  have hp : prdE a b d = 0 := by rw [if_pos hk] at he; exact he
  clear he
  obtain ⟨l4, l20, hx⟩ := chkS_ok hk
  obtain ⟨i1, i2, i3, _⟩ := prdE_ok hp
  have b01 := sum_bd ⟨l20, hx⟩ 0 1; have b02 := sum_bd ⟨l20, hx⟩ 0 2; have b11 := sum_bd ⟨l20, hx⟩ 1 1; have b12 := sum_bd ⟨l20, hx⟩ 1 2; have b22 := sum_bd ⟨l20, hx⟩ 2 2
  have p1 := prod4_bd (x := d) (by omega) b01; have p2 := prod4_bd (x := d) (by omega) b02; have p3 := prod4_bd i2 b11; have p4 := prod4_bd i3 b12; have p5 := prod4_bd i2 b12; have p6 := prod4_bd i3 b22
  have H := Lib.hid (fun W h => samplesErr_c xs A c W (by omega) h)
  have G := Lib.hid (fun W => predictorErr_c a b d W)
  have K := Lib.hid (fun W h => open_good xs A c W h hk)
  have f0 : fstE [0, 0] = 0 := rfl
  have C := Lib.hid (show chkP xs a b d = (if d * sm xs 0 1 ≠ a * sm xs 1 1 + b * sm xs 1 2 then (0, 19) else if d * sm xs 0 2 ≠ a * sm xs 1 2 + b * sm xs 2 2 then (1, 19) else (0, unl (detS xs != 0) 11)) by rw [chkP, if_neg (by simp [F.out])])
  generalize chkP xs a b d = R at *
  clear hx
  go_enter Try.func42, Try.ntmps42
  go_wp2
  go_region_with (first | (go_at_call 86; refine (H.out _ (SlI.below hs (by focus ((repeat first | with_reducible exact Below.refl _ _ | (with_reducible refine Below.setCell ?_ ?_ _) | (with_reducible refine Below.alloc ?_ ?_ _) | (with_reducible refine below_drewN ?_ _) | (with_reducible refine Below.drew ?_)); all_goals (first | with_reducible exact Nat.le_refl _ | omega | (simp; done) | (simp; omega) | (omega) | ((try simp); omega)))))).mono ?_; rintro e w1 ⟨rfl, hb1⟩; obtain ⟨hc1, hf1⟩ := bcell hb1; have hz1 : w.heap.size < w1.heap.size := by have := hb1.size; (try simp at this); omega) | (go_at_call 85; refine (G.out _).mono ?_; rintro e w2 ⟨rfl, hb2⟩; obtain ⟨hc2, hf2⟩ := bcell hb2; have hz2 : w.heap.size < w2.heap.size := by have := hb2.size; (try simp at this); omega) | (go_at_call 84; refine (first2_c _ _ _ _).mono ?_; rintro e w' ⟨rfl, rfl⟩))
  all_goals
    go_wp2_with (go_at_call 100; refine (K.out _ (SlI.below hs (by focus ((repeat first | with_reducible exact Below.refl _ _ | (with_reducible refine Below.setCell ?_ ?_ _) | (with_reducible refine Below.alloc ?_ ?_ _) | (with_reducible refine below_drewN ?_ _) | (with_reducible refine Below.drew ?_) | (with_reducible refine Below.trans ?_ (Below.mono hb1 ?_)) | (with_reducible refine Below.trans ?_ (Below.mono hb2 ?_))); all_goals (first | with_reducible exact Nat.le_refl _ | omega | (simp; done) | (simp; omega) | (have := hb1.size; (try simp at this); have := hb2.size; (try simp at this); omega) | (have := hb1.size; (try simp at this); have := hb2.size; (try simp at this); (try simp); omega)))))).mono ?_; rintro e w3 ⟨rfl, hb3⟩; obtain ⟨hc3, hf3⟩ := bcell hb3; have hz3 : w.heap.size < w3.heap.size := by have := hb3.size; (try simp at this); omega)
  all_goals go_ret2
  all_goals first
    | (have q1 : (d * sm xs 0 1 != a * sm xs 1 1 + b * sm xs 1 2) = true := by assumption
       have r : R = (0, 19) := by rw [C.out, if_pos (by simpa using q1)]
       exact ⟨ret_ii (by rw [r]) (by rw [r]), by focus ((repeat first | with_reducible exact Below.refl _ _ | (with_reducible refine Below.setCell ?_ ?_ _) | (with_reducible refine Below.alloc ?_ ?_ _) | (with_reducible refine below_drewN ?_ _) | (with_reducible refine Below.drew ?_) | (with_reducible refine Below.trans ?_ (Below.mono hb1 ?_)) | (with_reducible refine Below.trans ?_ (Below.mono hb2 ?_)) | (with_reducible refine Below.trans ?_ (Below.mono hb3 ?_))); all_goals (first | with_reducible exact Nat.le_refl _ | omega | (simp; done) | (simp; omega) | (have := hb1.size; (try simp at this); have := hb2.size; (try simp at this); have := hb3.size; (try simp at this); omega) | (have := hb1.size; (try simp at this); have := hb2.size; (try simp at this); have := hb3.size; (try simp at this); (try simp); omega)))⟩)
    | (have q1 : (d * sm xs 0 1 != a * sm xs 1 1 + b * sm xs 1 2) = false := by assumption
       have q2 : (d * sm xs 0 2 != a * sm xs 1 2 + b * sm xs 2 2) = true := by assumption
       have r : R = (1, 19) := by rw [C.out, if_neg (by simpa using q1), if_pos (by simpa using q2)]
       exact ⟨ret_ii (by rw [r]) (by rw [r]), by focus ((repeat first | with_reducible exact Below.refl _ _ | (with_reducible refine Below.setCell ?_ ?_ _) | (with_reducible refine Below.alloc ?_ ?_ _) | (with_reducible refine below_drewN ?_ _) | (with_reducible refine Below.drew ?_) | (with_reducible refine Below.trans ?_ (Below.mono hb1 ?_)) | (with_reducible refine Below.trans ?_ (Below.mono hb2 ?_)) | (with_reducible refine Below.trans ?_ (Below.mono hb3 ?_))); all_goals (first | with_reducible exact Nat.le_refl _ | omega | (simp; done) | (simp; omega) | (have := hb1.size; (try simp at this); have := hb2.size; (try simp at this); have := hb3.size; (try simp at this); omega) | (have := hb1.size; (try simp at this); have := hb2.size; (try simp at this); have := hb3.size; (try simp at this); (try simp); omega)))⟩)
    | (have q1 : (d * sm xs 0 1 != a * sm xs 1 1 + b * sm xs 1 2) = false := by assumption
       have q2 : (d * sm xs 0 2 != a * sm xs 1 2 + b * sm xs 2 2) = false := by assumption
       have r : R = (0, unl (detS xs != 0) 11) := by rw [C.out, if_neg (by simpa using q1), if_neg (by simpa using q2)]
       exact ⟨ret_ii (by rw [r]) (by rw [r]), by focus ((repeat first | with_reducible exact Below.refl _ _ | (with_reducible refine Below.setCell ?_ ?_ _) | (with_reducible refine Below.alloc ?_ ?_ _) | (with_reducible refine below_drewN ?_ _) | (with_reducible refine Below.drew ?_) | (with_reducible refine Below.trans ?_ (Below.mono hb1 ?_)) | (with_reducible refine Below.trans ?_ (Below.mono hb2 ?_)) | (with_reducible refine Below.trans ?_ (Below.mono hb3 ?_))); all_goals (first | with_reducible exact Nat.le_refl _ | omega | (simp; done) | (simp; omega) | (have := hb1.size; (try simp at this); have := hb2.size; (try simp at this); have := hb3.size; (try simp at this); omega) | (have := hb1.size; (try simp at this); have := hb2.size; (try simp at this); have := hb3.size; (try simp at this); (try simp); omega)))⟩)

end Go.Proofs.Ytgbckdmhmkpahaa

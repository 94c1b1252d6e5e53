/-
  The walks of the program's profiles (chapter 2).
-/
import Derived.Test.YtgbckdmhmkpahaaSamples
set_option linter.unusedVariables false
namespace Go.Proofs.Ytgbckdmhmkpahaa
open Go.RowKit Go.Shelf

def farTo (sp st fr ticks : Int) : Nat → Int
  | 0 => 0
  | k + 1 => farTo sp st fr ticks k + min sp (min (fr + ((k : Int) + 1) * st) ((ticks - k) * st))
def nearTo (st fr : Int) : Nat → Int
  | 0 => 0
  | k + 1 => nearTo st fr k + max 0 (fr - ((k : Int) + 1) * st)
theorem mulb {x y : Int} (hx : 0 ≤ x ∧ x ≤ 300) (hy : 0 ≤ y ∧ y ≤ 100) : 0 ≤ x * y ∧ x * y ≤ 30000 := by
  have h1 : (x * y).natAbs ≤ 300 * 100 := by rw [Int.natAbs_mul]; exact Nat.mul_le_mul (by omega) (by omega)
  have h2 := Int.mul_nonneg hx.1 hy.1
  omega
theorem farTo_bd {sp st fr ticks : Int} (h1 : 0 ≤ sp ∧ sp ≤ 100) (h2 : 0 ≤ st ∧ st ≤ 100) (h3 : 0 ≤ fr ∧ fr ≤ 100) (h4 : ticks ≤ 300) : ∀ k : Nat, (k : Int) ≤ ticks → 0 ≤ farTo sp st fr ticks k ∧ farTo sp st fr ticks k ≤ 100 * k := by
  intro k
  induction k with
  | zero => intro _; simp [farTo]
  | succ k ih =>
    intro hk
    have := ih (by omega)
    have a := mulb (x := (k : Int) + 1) (by omega) h2
    have b := mulb (x := ticks - k) (by omega) h2
    simp only [farTo]; push_cast; omega
theorem nearTo_bd {st fr : Int} (h2 : 0 ≤ st ∧ st ≤ 100) (h3 : 0 ≤ fr ∧ fr ≤ 100) : ∀ k : Nat, (k : Int) ≤ 300 → 0 ≤ nearTo st fr k ∧ nearTo st fr k ≤ 100 * k := by
  intro k
  induction k with
  | zero => intro _; simp [nearTo]
  | succ k ih =>
    intro hk
    have := ih (by omega)
    have a := mulb (x := (k : Int) + 1) (by omega) h2
    simp only [nearTo]; push_cast; omega

set_option maxHeartbeats 1000000 in
theorem farthest_c (sp st fr : Int) (n : Nat) (w : World) (h1 : 0 ≤ sp ∧ sp ≤ 100) (h2 : 0 ≤ st ∧ st ≤ 100) (h3 : 0 ≤ fr ∧ fr ≤ 100) (h4 : (n : Int) ≤ 300) :
    Calls Try.prog 140 #[.agg #[.int .i64 sp, .int .i64 st], .int .i64 fr, .int .i64 n] w fun e w' => e = .returned (.int .i64 (farTo sp st fr n n)) ∧ Below w.heap.size w w' := by
  go_enter Try.func140, Try.ntmps140
  go_wp2
  go_loop [7, 10] (fun s i => ∃ k : Nat, k ≤ n ∧ i = .int .i64 k ∧ s = .int .i64 (farTo sp st fr n k)) (fun _ i => n - (intOf i).toNat)
  case atStart => exact ⟨0, Nat.zero_le _, rfl, rfl⟩
  case round =>
    obtain ⟨k, hk, rfl, rfl⟩ := hrel
    by_cases hlt : k < n
    · have b := farTo_bd h1 h2 h3 h4 k (by omega)
      have a1 := mulb (x := (k : Int) + 1) (by omega) h2
      have a2 := mulb (x := (n : Int) - k) (by omega) h2
      have F := Lib.hid (show farTo sp st fr n (k + 1) = farTo sp st fr n k + min sp (min (fr + ((k : Int) + 1) * st) (((n : Int) - k) * st)) from rfl)
      generalize farTo sp st fr n k = f at *
      have hc0 : (n : Int) ≤ 300 := h4
      go_wp2
      all_goals
        go_round
        case rel => exact ⟨k + 1, by omega, by go_num, by rw [F.out]; exact vint (by omega)⟩
        case measure => simp [intOf]; omega
    · obtain rfl : k = n := by omega
      go_wp2
      go_ret
      exact ⟨rfl, by focus ((repeat first | with_reducible exact Below.refl _ _ | (with_reducible refine Below.setCell ?_ ?_ _) | (with_reducible refine Below.alloc ?_ ?_ _) | (with_reducible refine below_drewN ?_ _) | (with_reducible refine Below.drew ?_)); all_goals (first | with_reducible exact Nat.le_refl _ | omega | (simp; done) | (simp; omega) | (omega) | ((try simp); omega)))⟩

set_option maxHeartbeats 1000000 in
theorem nearest_c (sp st fr : Int) (n : Nat) (w : World) (h2 : 0 ≤ st ∧ st ≤ 100) (h3 : 0 ≤ fr ∧ fr ≤ 100) (h4 : (n : Int) ≤ 300) :
    Calls Try.prog 95 #[.agg #[.int .i64 sp, .int .i64 st], .int .i64 fr, .int .i64 n] w fun e w' => e = .returned (.int .i64 (nearTo st fr n)) ∧ Below w.heap.size w w' := by
  go_enter Try.func95, Try.ntmps95
  go_wp2
  go_loop [7, 10] (fun s i => ∃ k : Nat, k ≤ n ∧ i = .int .i64 k ∧ s = .int .i64 (nearTo st fr k)) (fun _ i => n - (intOf i).toNat)
  case atStart => exact ⟨0, Nat.zero_le _, rfl, rfl⟩
  case round =>
    obtain ⟨k, hk, rfl, rfl⟩ := hrel
    by_cases hlt : k < n
    · have b := nearTo_bd h2 h3 k (by omega)
      have a1 := mulb (x := (k : Int) + 1) (by omega) h2
      have F := Lib.hid (show nearTo st fr (k + 1) = nearTo st fr k + max 0 (fr - ((k : Int) + 1) * st) from rfl)
      generalize nearTo st fr k = f at *
      go_wp2
      all_goals
        go_round
        case rel => exact ⟨k + 1, by omega, by go_num, by rw [F.out]; exact vint (by omega)⟩
        case measure => simp [intOf]; omega
    · obtain rfl : k = n := by omega
      go_wp2
      go_ret
      exact ⟨rfl, by focus ((repeat first | with_reducible exact Below.refl _ _ | (with_reducible refine Below.setCell ?_ ?_ _) | (with_reducible refine Below.alloc ?_ ?_ _) | (with_reducible refine below_drewN ?_ _) | (with_reducible refine Below.drew ?_)); all_goals (first | with_reducible exact Nat.le_refl _ | omega | (simp; done) | (simp; omega) | (omega) | ((try simp); omega)))⟩

set_option maxHeartbeats 400000 in
theorem limitsErr1_c (n : Int) (w : World) : Calls Try.prog 139 #[.int .i64 n] w fun e w' => e = .returned (.bool (inB n 1 100)) ∧ w = w' := by
  go_enter Try.func139, Try.ntmps139
  go_wp2_with (go_at_call 91; refine (within_w _ _ _ _).mono ?_; rintro e w' ⟨rfl, rfl⟩)
  go_ret
  exact ⟨rfl, rfl⟩
def limE (sp st : Int) : Int := unl (inB sp 1 100 && inB st 1 100) 2
set_option maxHeartbeats 1000000 in
theorem limitsErr_c (sp st : Int) (w : World) : Calls Try.prog 90 #[.agg #[.int .i64 sp, .int .i64 st]] w fun e w' => e = .returned (.int .i64 (limE sp st)) ∧ Below w.heap.size w w' := by
  have HL := Lib.hid (show limE sp st = unl (inB sp 1 100 && inB st 1 100) 2 from rfl)
  generalize limE sp st = L at *
  cases h : inB sp 1 100
  all_goals
    go_enter Try.func90, Try.ntmps90
    go_wp2_with (first | (go_at_call 139; refine (limitsErr1_c _ _).mono ?_; rintro e w' ⟨rfl, rfl⟩) | (go_at_call 81; refine (unless_c _ _ _).mono ?_; rintro e w' ⟨rfl, rfl⟩))
    all_goals go_ret
    all_goals exact ⟨ret_i (by rw [HL.out]; simp [h]), by focus ((repeat first | with_reducible exact Below.refl _ _ | (with_reducible refine Below.setCell ?_ ?_ _) | (with_reducible refine Below.alloc ?_ ?_ _) | (with_reducible refine below_drewN ?_ _) | (with_reducible refine Below.drew ?_)); all_goals (first | with_reducible exact Nat.le_refl _ | omega | (simp; done) | (simp; omega) | (omega) | ((try simp); omega)))⟩
def dstE (d : Int) : Int := unl (inB d 0 10000) 2
set_option maxHeartbeats 400000 in
theorem distanceErr_c (d : Int) (w : World) : Calls Try.prog 93 #[.int .i64 d] w fun e w' => e = .returned (.int .i64 (dstE d)) ∧ w = w' := by
  go_enter Try.func93, Try.ntmps93
  go_wp2_with (first | (go_at_call 91; refine (within_w _ _ _ _).mono ?_; rintro e w' ⟨rfl, rfl⟩) | (go_at_call 81; refine (unless_c _ _ _).mono ?_; rintro e w' ⟨rfl, rfl⟩))
  go_ret
  exact ⟨rfl, rfl⟩

def tickFrom (sp st d : Int) : Nat → Nat → Int × Int
  | 0, _ => (0, 8)
  | f + 1, k => if d ≤ farTo sp st 0 k k then ((k : Int), 0) else tickFrom sp st d f (k + 1)
def tickP (sp st d : Int) : Int × Int := tickFrom sp st d 201 0

set_option maxHeartbeats 1000000 in
set_option maxRecDepth 100000 in
theorem ticksFor_c (sp st d : Int) (w : World) (h1 : 0 ≤ sp ∧ sp ≤ 100) (h2 : 0 ≤ st ∧ st ≤ 100) :
    Calls Try.prog 94 #[.agg #[.int .i64 sp, .int .i64 st], .int .i64 d] w fun e w' => e = .returned (.tuple #[.int .i64 (tickP sp st d).1, .int .i64 (tickP sp st d).2]) ∧ Below w.heap.size w w' := by
  go_enter Try.func94, Try.ntmps94
  go_wp2
  go_loopw [7] (fun i wr => ∃ k : Nat, k ≤ 201 ∧ i = .int .i64 k ∧ Hid (tickP sp st d = tickFrom sp st d (201 - k) k) ∧ Box wr w.heap.size 56 #[.int .i64 sp, .int .i64 st] ∧ Below w.heap.size w wr) (fun i _ => 201 - (intOf i).toNat)
  case atStart => exact ⟨0, by omega, rfl, rfl, Box.new _ _ _, by focus ((repeat first | with_reducible exact Below.refl _ _ | (with_reducible refine Below.setCell ?_ ?_ _) | (with_reducible refine Below.alloc ?_ ?_ _) | (with_reducible refine below_drewN ?_ _) | (with_reducible refine Below.drew ?_)); all_goals (first | with_reducible exact Nat.le_refl _ | omega | (simp; done) | (simp; omega) | (omega) | ((try simp); omega)))⟩
  case round =>
    obtain ⟨k, hk, rfl, hf, hb, hB⟩ := hrel
    have c0 := hb.cell 0; have c1 := hb.cell 1
    simp at c0 c1
    have hl := hb.lt
    by_cases hlt : k < 201
    · have F := Lib.hid (fun W => farthest_c sp st 0 k W h1 h2 (by omega) (by omega))
      have G := Lib.hid (show tickFrom sp st d (201 - k) k = if d ≤ farTo sp st 0 k k then ((k : Int), 0) else tickFrom sp st d (201 - (k + 1)) (k + 1) by
        rw [show 201 - k = (201 - (k + 1)) + 1 from by omega]; rfl)
      generalize farTo sp st 0 k k = f at *
      by_cases hd : d ≤ f
      · go_wp2_with (go_at_call 140; refine (F.out _).mono ?_; rintro e w1 ⟨rfl, hb1⟩)
        go_ret2
        have e : tickP sp st d = ((k : Int), 0) := by rw [hf.out, G.out, if_pos hd]
        exact ⟨ret_ii (by rw [e]) (by rw [e]), by focus ((repeat first | with_reducible exact Below.refl _ _ | (with_reducible refine Below.setCell ?_ ?_ _) | (with_reducible refine Below.alloc ?_ ?_ _) | (with_reducible refine below_drewN ?_ _) | (with_reducible refine Below.drew ?_) | (with_reducible refine Below.trans ?_ (Below.mono hb1 ?_)) | (with_reducible refine Below.trans ?_ (Below.mono hB ?_))); all_goals (first | with_reducible exact Nat.le_refl _ | omega | (simp; done) | (simp; omega) | (have := hb1.size; (try simp at this); have := hB.size; (try simp at this); omega) | (have := hb1.size; (try simp at this); have := hB.size; (try simp at this); (try simp); omega)))⟩
      · go_wp2_with (go_at_call 140; refine (F.out _).mono ?_; rintro e w1 ⟨rfl, hb1⟩)
        go_roundw
        case rel => exact ⟨k + 1, by omega, by go_num, by unfold Hid; rw [hf.out, G.out, if_neg (by omega)], hb.below hb1 hl, by focus ((repeat first | with_reducible exact Below.refl _ _ | (with_reducible refine Below.setCell ?_ ?_ _) | (with_reducible refine Below.alloc ?_ ?_ _) | (with_reducible refine below_drewN ?_ _) | (with_reducible refine Below.drew ?_) | (with_reducible refine Below.trans ?_ (Below.mono hb1 ?_)) | (with_reducible refine Below.trans ?_ (Below.mono hB ?_))); all_goals (first | with_reducible exact Nat.le_refl _ | omega | (simp; done) | (simp; omega) | (have := hb1.size; (try simp at this); have := hB.size; (try simp at this); omega) | (have := hb1.size; (try simp at this); have := hB.size; (try simp at this); (try simp); omega)))⟩
        case measure => simp [intOf]; omega
    · obtain rfl : k = 201 := by omega
      go_wp2
      go_ret2
      have e : tickP sp st d = (0, 8) := hf.out
      exact ⟨ret_ii (by rw [e]) (by rw [e]), hB⟩

def tkE (sp st d : Int) : Int := fstE [limE sp st, dstE d]
theorem limE_ok {sp st : Int} (h : limE sp st = 0) : (1 ≤ sp ∧ sp ≤ 100) ∧ 1 ≤ st ∧ st ≤ 100 := by
  cases h1 : (inB sp 1 100 && inB st 1 100)
  · simp [limE, h1, unl] at h
  · simp only [Bool.and_eq_true] at h1
    exact ⟨inB_true.1 h1.1, inB_true.1 h1.2⟩
theorem dstE_ok {d : Int} (h : dstE d = 0) : 0 ≤ d ∧ d ≤ 10000 := by
  cases h1 : inB d 0 10000
  · simp [dstE, h1, unl] at h
  · exact inB_true.1 h1
theorem tkE_ok {sp st d : Int} (h : tkE sp st d = 0) : limE sp st = 0 ∧ dstE d = 0 := by
  unfold tkE at h
  by_cases h1 : limE sp st = 0
  · by_cases h2 : dstE d = 0
    · exact ⟨h1, h2⟩
    · simp [fstE, h1, h2] at h
  · simp [fstE, h1] at h
/-- What TicksFor answers. -/
def tksP (sp st d : Int) : Int × Int := if tkE sp st d ≠ 0 then (0, tkE sp st d) else tickP sp st d

set_option maxHeartbeats 2000000 in
set_option maxRecDepth 100000 in
theorem TicksFor_c (sp st d : Int) (w : World) :
    Calls Try.prog 29 #[.agg #[.int .i64 sp, .int .i64 st], .int .i64 d] w fun e w' => e = .returned (.tuple #[.int .i64 (tksP sp st d).1, .int .i64 (tksP sp st d).2]) ∧ Below w.heap.size w w' := by
  have F := Lib.hid (show tkE sp st d = fstE [limE sp st, dstE d] from rfl)
  by_cases he : tkE sp st d = 0
  · have R := Lib.hid (show tksP sp st d = tickP sp st d from if_neg (by simpa using he))
    obtain ⟨k1, k2⟩ := tkE_ok he
    obtain ⟨i1, i2⟩ := limE_ok k1
    have G := Lib.hid (fun W => ticksFor_c sp st d W (by omega) (by omega))
    have f0 : fstE [limE sp st, dstE d] = 0 := by rw [← F.out]; exact he
    clear he k1 k2
    go_enter Try.func29, Try.ntmps29
    go_wp2_with (first | (go_at_call 90; refine (limitsErr_c _ _ _).mono ?_; rintro e w1 ⟨rfl, hb1⟩; obtain ⟨hc1, hf1⟩ := bcell hb1; have hz1 : w.heap.size < w1.heap.size := by have := hb1.size; (try simp at this); omega) | (go_at_call 93; refine (distanceErr_c _ _).mono ?_; rintro e w' ⟨rfl, rfl⟩) | (go_at_call 84; refine (first2_c _ _ _ _).mono ?_; rintro e w' ⟨rfl, rfl⟩) | (go_at_call 94; refine (G.out _).mono ?_; rintro e w2 ⟨rfl, hb2⟩; obtain ⟨hc2, hf2⟩ := bcell hb2; have hz2 : w.heap.size < w2.heap.size := by have := hb2.size; (try simp at this); omega))
    go_ret2
    exact ⟨ret_ii (by rw [R.out]) (by rw [R.out]), by focus ((repeat first | with_reducible exact Below.refl _ _ | (with_reducible refine Below.setCell ?_ ?_ _) | (with_reducible refine Below.alloc ?_ ?_ _) | (with_reducible refine below_drewN ?_ _) | (with_reducible refine Below.drew ?_) | (with_reducible refine Below.trans ?_ (Below.mono hb1 ?_)) | (with_reducible refine Below.trans ?_ (Below.mono hb2 ?_))); all_goals (first | with_reducible exact Nat.le_refl _ | omega | (simp; done) | (simp; omega) | (have := hb1.size; (try simp at this); have := hb2.size; (try simp at this); omega) | (have := hb1.size; (try simp at this); have := hb2.size; (try simp at this); (try simp); omega)))⟩
  · have R := Lib.hid (show tksP sp st d = (0, tkE sp st d) from if_pos he)
    have f1 : (fstE [limE sp st, dstE d] != 0) = true := bneT (by rw [← F.out]; exact he)
    clear he
    go_enter Try.func29, Try.ntmps29
    go_wp2_with (first | (go_at_call 90; refine (limitsErr_c _ _ _).mono ?_; rintro e w1 ⟨rfl, hb1⟩; obtain ⟨hc1, hf1⟩ := bcell hb1; have hz1 : w.heap.size < w1.heap.size := by have := hb1.size; (try simp at this); omega) | (go_at_call 93; refine (distanceErr_c _ _).mono ?_; rintro e w' ⟨rfl, rfl⟩) | (go_at_call 84; refine (first2_c _ _ _ _).mono ?_; rintro e w' ⟨rfl, rfl⟩))
    go_ret2
    exact ⟨ret_ii (by rw [R.out]) (by rw [R.out, F.out]), by focus ((repeat first | with_reducible exact Below.refl _ _ | (with_reducible refine Below.setCell ?_ ?_ _) | (with_reducible refine Below.alloc ?_ ?_ _) | (with_reducible refine below_drewN ?_ _) | (with_reducible refine Below.drew ?_) | (with_reducible refine Below.trans ?_ (Below.mono hb1 ?_))); all_goals (first | with_reducible exact Nat.le_refl _ | omega | (simp; done) | (simp; omega) | (have := hb1.size; (try simp at this); omega) | (have := hb1.size; (try simp at this); (try simp); omega)))⟩

end Go.Proofs.Ytgbckdmhmkpahaa

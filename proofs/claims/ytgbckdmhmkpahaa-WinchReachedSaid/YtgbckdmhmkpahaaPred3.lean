/-
  The walks of PredictorOf, ResidualOf, predictorErr, CheckPredictor, NextBy (chapter 2).
-/
import Derived.Test.YtgbckdmhmkpahaaPred2
set_option linter.unusedVariables false
namespace Go.Proofs.Ytgbckdmhmkpahaa
open Go.RowKit Go.Shelf

/-- The error of samples, or of their equations. -/
def opE (xs : List Int) : Int := if (chkS xs).2 ≠ 0 then (chkS xs).2 else unl (detS xs != 0) 11
theorem open_no (xs : List Int) (A : Option Addr) (c : Nat) (w : World) (hn : xs.length ≤ 9223372036854775807) (hs : SlI w A xs) (he : opE xs ≠ 0) :
    Calls Try.prog 100 #[.slice A xs.length c] w fun e w' => ∃ s0 s1 s2 s3 s4 s5 d : Int, e = .returned (.tuple #[.agg #[.int .i64 s0, .int .i64 s1, .int .i64 s2, .int .i64 s3, .int .i64 s4, .int .i64 s5], .int .i64 d, .int .i64 (opE xs)]) ∧ Below w.heap.size w w' := by
  by_cases h : (chkS xs).2 = 0
  · have e1 : opE xs = unl (detS xs != 0) 11 := by unfold opE; rw [if_neg (by simpa using h)]
    exact (open_good xs A c w hs h).mono fun e w' ⟨a, b⟩ => ⟨_, _, _, _, _, _, _, by rw [e1]; exact a, b⟩
  · have e1 : opE xs = (chkS xs).2 := by unfold opE; rw [if_pos h]
    exact (open_bad xs A c w hn hs h).mono fun e w' ⟨a, b⟩ => ⟨_, _, _, _, _, _, _, by rw [e1]; exact a, b⟩
theorem opE_ok {xs : List Int} (h : opE xs = 0) : (chkS xs).2 = 0 ∧ detS xs ≠ 0 := by
  unfold opE at h
  split at h
  · contradiction
  · rename_i h1
    refine ⟨by simpa using h1, fun h2 => ?_⟩
    rw [h2] at h; simp [unl] at h
theorem open_yes (xs : List Int) (A : Option Addr) (c : Nat) (w : World) (hs : SlI w A xs) (he : opE xs = 0) :
    Calls Try.prog 100 #[.slice A xs.length c] w fun e w' => e = .returned (.tuple #[.agg #[.int .i64 (sm xs 0 0), .int .i64 (sm xs 0 1), .int .i64 (sm xs 0 2), .int .i64 (sm xs 1 1), .int .i64 (sm xs 1 2), .int .i64 (sm xs 2 2)], .int .i64 (detS xs), .int .i64 0]) ∧ Below w.heap.size w w' := by
  obtain ⟨h1, h2⟩ := opE_ok he
  refine (open_good xs A c w hs h1).mono fun e w' ⟨a, b⟩ => ⟨?_, b⟩
  rw [a]; simp [unl, h2]

def prA (xs : List Int) : Int := sm xs 0 1 * sm xs 2 2 - sm xs 0 2 * sm xs 1 2
def prB (xs : List Int) : Int := sm xs 0 2 * sm xs 1 1 - sm xs 0 1 * sm xs 1 2
def prG (xs : List Int) : Nat := gcdL [prA xs, prB xs, detS xs]
def prV (xs : List Int) : Int × Int × Int := ((prA xs).tdiv (prG xs), (prB xs).tdiv (prG xs), (detS xs).tdiv (prG xs))

set_option maxHeartbeats 1000000 in
theorem predictorOf_no (xs : List Int) (A : Option Addr) (c : Nat) (w : World) (hn : xs.length ≤ 9223372036854775807) (hs : SlI w A xs) (he : opE xs ≠ 0) :
    Calls Try.prog 40 #[.slice A xs.length c] w fun e w' => e = .returned (.tuple #[.agg #[.int .i64 0, .int .i64 0, .int .i64 0], .int .i64 (opE xs)]) ∧ Below w.heap.size w w' := by
  have H := Lib.hid (fun W h => open_no xs A c W hn h he)
  have HS := Lib.hid (hs.alloc (.cells #[.int .i64 0, .int .i64 0, .int .i64 0] 45))
  have e1 : (opE xs != 0) = true := bneT he
  clear hn hs he
  go_enter Try.func40, Try.ntmps40
  go_wp2_with fail
  refine (H.out _ HS.out).mono ?_
  rintro e w1 ⟨s0, s1, s2, s3, s4, s5, d, rfl, hb1⟩
  obtain ⟨hc1, hf1⟩ := bcell hb1
  have hz1 : w.heap.size < w1.heap.size := by have := hb1.size; (try simp at this); omega
  go_wp2
  all_goals
    refine bodyPost_ret (res_c2 rfl rfl (show Box _ _ 45 #[.int .i64 0, .int .i64 0, .int .i64 0] from ?hE) Try.underlying45 rfl pred_size) rfl ⟨rfl, ?hB⟩
    case hE => focus (apply Box.via; apply Exists.intro; apply And.intro; (repeat first | with_reducible assumption | with_reducible exact Box.new _ _ _ | ((with_reducible apply Box.newAt); focus (simp; done)) | (with_reducible apply Box.drew) | (with_reducible apply Box.drewN) | (with_reducible apply Box.set) | (with_reducible apply Box.alloc) | (with_reducible apply Box.far) | (with_reducible apply Box.below (hb := hb1))); all_goals (first | with_reducible exact Nat.le_refl _ | omega | (simp; done) | (simp; omega) | (have := hb1.size; (try simp at this); omega) | (have := hb1.size; (try simp at this); (try simp); omega)))
    case hB => focus ((repeat first | with_reducible exact Below.refl _ _ | (with_reducible refine Below.setCell ?_ ?_ _) | (with_reducible refine Below.alloc ?_ ?_ _) | (with_reducible refine below_drewN ?_ _) | (with_reducible refine Below.drew ?_) | (with_reducible refine Below.trans ?_ (Below.mono hb1 ?_))); all_goals (first | with_reducible exact Nat.le_refl _ | omega | (simp; done) | (simp; omega) | (have := hb1.size; (try simp at this); omega) | (have := hb1.size; (try simp at this); (try simp); omega)))

set_option maxHeartbeats 2000000 in
theorem predictorOf_yes (xs : List Int) (A : Option Addr) (c : Nat) (w : World) (hs : SlI w A xs) (he : opE xs = 0) :
    Calls Try.prog 40 #[.slice A xs.length c] w fun e w' => e = .returned (.tuple #[.agg #[.int .i64 (prV xs).1, .int .i64 (prV xs).2.1, .int .i64 (prV xs).2.2], .int .i64 0]) ∧ Below w.heap.size w w' := by
  obtain ⟨hk, hd0⟩ := opE_ok he
  obtain ⟨l4, l20, hx⟩ := chkS_ok hk
  have H := Lib.hid (fun W h => open_yes xs A c W h he)
  have HS := Lib.hid (hs.alloc (.cells #[.int .i64 0, .int .i64 0, .int .i64 0] 45))
  have b01 := sum_bd ⟨l20, hx⟩ 0 1; have b02 := sum_bd ⟨l20, hx⟩ 0 2; have b11 := sum_bd ⟨l20, hx⟩ 1 1; have b12 := sum_bd ⟨l20, hx⟩ 1 2; have b22 := sum_bd ⟨l20, hx⟩ 2 2
  have p1 := prod_bd b01 b22; have p2 := prod_bd b02 b12; have p3 := prod_bd b02 b11; have p4 := prod_bd b01 b12; have p5 := prod_bd b11 b22; have p6 := prod_bd b12 b12
  have ha : prA xs = sm xs 0 1 * sm xs 2 2 - sm xs 0 2 * sm xs 1 2 := rfl
  have hb : prB xs = sm xs 0 2 * sm xs 1 1 - sm xs 0 1 * sm xs 1 2 := rfl
  have hd : detS xs = sm xs 1 1 * sm xs 2 2 - sm xs 1 2 * sm xs 1 2 := rfl
  have bdd : -70000000000 ≤ detS xs ∧ detS xs ≤ 70000000000 := by omega
  have F := Lib.hid (show prV xs = ((prA xs).tdiv (gcdL [prA xs, prB xs, detS xs] : Nat), (prB xs).tdiv (gcdL [prA xs, prB xs, detS xs] : Nat), (detS xs).tdiv (gcdL [prA xs, prB xs, detS xs] : Nat)) from rfl)
  have gp := gcdL3_pos (prA xs) (prB xs) (detS xs) hd0
  have t1 := tdiv_bd (prA xs) (gcdL [prA xs, prB xs, detS xs]); have t2 := tdiv_bd (prB xs) (gcdL [prA xs, prB xs, detS xs]); have t3 := tdiv_bd (detS xs) (gcdL [prA xs, prB xs, detS xs])
  have gl : gcdL [prA xs, prB xs, detS xs] ≤ 9223372036854775807 := by rw [gcdL3]; exact Nat.le_trans (Nat.gcd_le_right _ (by omega)) (by omega)
  have G := Lib.hid (fun k W => divisor3_c (prA xs) (prB xs) (detS xs) k W (by omega) (by omega) (by omega))
  clear hx hs he hk
  generalize gcdL [prA xs, prB xs, detS xs] = g at *
  have g0 : ((g : Int) == 0) = false := beqF (by omega)
  generalize ht1 : (prA xs).tdiv g = q1 at *
  generalize ht2 : (prB xs).tdiv g = q2 at *
  generalize ht3 : (detS xs).tdiv g = q3 at *
  generalize prA xs = a at *
  generalize prB xs = b at *
  generalize detS xs = d at *
  have ha' := ha.symm; have hb' := hb.symm
  have HD := Lib.hid hd
  clear ha hb hd hd0
  go_enter Try.func40, Try.ntmps40
  go_wp2_with (first | (go_at_call 100; refine (H.out _ HS.out).mono ?_; rintro e w1 ⟨rfl, hb1⟩; obtain ⟨hc1, hf1⟩ := bcell hb1; have hz1 : w.heap.size < w1.heap.size := by have := hb1.size; (try simp at this); omega) | (go_at_call 101; refine (G.out _ _ (by simp [go_sem]) (by simp [go_sem]) (by simp [go_sem]) (by simp [go_sem])).mono ?_; rintro e w2 ⟨rfl, hb2⟩; obtain ⟨hc2, hf2⟩ := bcell hb2; have hz2 : w.heap.size < w2.heap.size := by have := hb2.size; (try simp at this); omega))
  have bx : Box w2 w.heap.size 45 #[.int .i64 0, .int .i64 0, .int .i64 0] := by focus (apply Box.via; apply Exists.intro; apply And.intro; (repeat first | with_reducible assumption | with_reducible exact Box.new _ _ _ | ((with_reducible apply Box.newAt); focus (simp; done)) | (with_reducible apply Box.drew) | (with_reducible apply Box.drewN) | (with_reducible apply Box.set) | (with_reducible apply Box.alloc) | (with_reducible apply Box.far) | (with_reducible apply Box.below (hb := hb1)) | (with_reducible apply Box.below (hb := hb2))); all_goals (first | with_reducible exact Nat.le_refl _ | omega | (simp; done) | (simp; omega) | (have := hb1.size; (try simp at this); have := hb2.size; (try simp at this); omega) | (have := hb1.size; (try simp at this); have := hb2.size; (try simp at this); (try simp); omega)))
  have cx0 := bx.cell 0; have cx1 := bx.cell 1; have cx2 := bx.cell 2; have cxf := bx.froz
  simp at cx0 cx1 cx2
  go_region
  all_goals go_wp2
  all_goals (try simp [Act.put])
  all_goals
    refine bodyPost_ret (res_c2 rfl rfl (show Box _ _ 45 #[.int .i64 q1, .int .i64 q2, .int .i64 q3] from ?hE) Try.underlying45 rfl pred_size) rfl ⟨ret_t2 (by rw [F.out]) rfl, ?hB⟩
    case hE => focus (apply Box.via; apply Exists.intro; apply And.intro; (repeat first | with_reducible assumption | with_reducible exact Box.new _ _ _ | ((with_reducible apply Box.newAt); focus (simp; done)) | (with_reducible apply Box.drew) | (with_reducible apply Box.drewN) | (with_reducible apply Box.set) | (with_reducible apply Box.alloc) | (with_reducible apply Box.far) | (with_reducible apply Box.below (hb := hb1)) | (with_reducible apply Box.below (hb := hb2))); all_goals (first | with_reducible exact Nat.le_refl _ | omega | (simp; done) | (simp; omega) | (have := hb1.size; (try simp at this); have := hb2.size; (try simp at this); omega) | (have := hb1.size; (try simp at this); have := hb2.size; (try simp at this); (try simp); omega)))
    case hB => focus ((repeat first | with_reducible exact Below.refl _ _ | (with_reducible refine Below.setCell ?_ ?_ _) | (with_reducible refine Below.alloc ?_ ?_ _) | (with_reducible refine below_drewN ?_ _) | (with_reducible refine Below.drew ?_) | (with_reducible refine Below.trans ?_ (Below.mono hb1 ?_)) | (with_reducible refine Below.trans ?_ (Below.mono hb2 ?_))); all_goals (first | with_reducible exact Nat.le_refl _ | omega | (simp; done) | (simp; omega) | (have := hb1.size; (try simp at this); have := hb2.size; (try simp at this); omega) | (have := hb1.size; (try simp at this); have := hb2.size; (try simp at this); (try simp); omega)))

theorem prod3_bd {x y : Int} (hx : -180000 ≤ x ∧ x ≤ 180000) (hy : -70000000000 ≤ y ∧ y ≤ 70000000000) : -12600000000000000 ≤ x * y ∧ x * y ≤ 12600000000000000 := by
  have h1 : (x * y).natAbs ≤ 180000 * 70000000000 := by rw [Int.natAbs_mul]; exact Nat.mul_le_mul (by omega) (by omega)
  omega
def resN (xs : List Int) : Int := sm xs 0 0 * detS xs - sm xs 0 1 * prA xs - sm xs 0 2 * prB xs

set_option maxHeartbeats 1000000 in
theorem residualOf_no (xs : List Int) (A : Option Addr) (c : Nat) (w : World) (hn : xs.length ≤ 9223372036854775807) (hs : SlI w A xs) (he : opE xs ≠ 0) :
    Calls Try.prog 41 #[.slice A xs.length c] w fun e w' => e = .returned (.tuple #[.agg #[.int .i64 0, .int .i64 0], .int .i64 (opE xs)]) ∧ Below w.heap.size w w' := by
  have H := Lib.hid (fun W h => open_no xs A c W hn h he)
  have HS := Lib.hid (hs.alloc (.cells #[.int .i64 0, .int .i64 0] 47))
  have e1 : (opE xs != 0) = true := bneT he
  clear hn hs he
  go_enter Try.func41, Try.ntmps41
  go_wp2_with fail
  refine (H.out _ HS.out).mono ?_
  rintro e w1 ⟨s0, s1, s2, s3, s4, s5, d, rfl, hb1⟩
  obtain ⟨hc1, hf1⟩ := bcell hb1
  have hz1 : w.heap.size < w1.heap.size := by have := hb1.size; (try simp at this); omega
  go_wp2
  all_goals
    refine bodyPost_ret (res_c2 rfl rfl (show Box _ _ 47 #[.int .i64 0, .int .i64 0] from ?hE) Try.underlying47 rfl frac_size) rfl ⟨rfl, ?hB⟩
    case hE => focus (apply Box.via; apply Exists.intro; apply And.intro; (repeat first | with_reducible assumption | with_reducible exact Box.new _ _ _ | ((with_reducible apply Box.newAt); focus (simp; done)) | (with_reducible apply Box.drew) | (with_reducible apply Box.drewN) | (with_reducible apply Box.set) | (with_reducible apply Box.alloc) | (with_reducible apply Box.far) | (with_reducible apply Box.below (hb := hb1))); all_goals (first | with_reducible exact Nat.le_refl _ | omega | (simp; done) | (simp; omega) | (have := hb1.size; (try simp at this); omega) | (have := hb1.size; (try simp at this); (try simp); omega)))
    case hB => focus ((repeat first | with_reducible exact Below.refl _ _ | (with_reducible refine Below.setCell ?_ ?_ _) | (with_reducible refine Below.alloc ?_ ?_ _) | (with_reducible refine below_drewN ?_ _) | (with_reducible refine Below.drew ?_) | (with_reducible refine Below.trans ?_ (Below.mono hb1 ?_))); all_goals (first | with_reducible exact Nat.le_refl _ | omega | (simp; done) | (simp; omega) | (have := hb1.size; (try simp at this); omega) | (have := hb1.size; (try simp at this); (try simp); omega)))

set_option maxHeartbeats 2000000 in
theorem residualOf_yes (xs : List Int) (A : Option Addr) (c : Nat) (w : World) (hs : SlI w A xs) (he : opE xs = 0) :
    Calls Try.prog 41 #[.slice A xs.length c] w fun e w' => e = .returned (.tuple #[.agg #[.int .i64 (frP (resN xs) (detS xs)).1, .int .i64 (frP (resN xs) (detS xs)).2], .int .i64 0]) ∧ Below w.heap.size w w' := by
  obtain ⟨hk, hd0⟩ := opE_ok he
  obtain ⟨l4, l20, hx⟩ := chkS_ok hk
  have H := Lib.hid (fun W h => open_yes xs A c W h he)
  have HS := Lib.hid (hs.alloc (.cells #[.int .i64 0, .int .i64 0] 47))
  have b00 := sum_bd ⟨l20, hx⟩ 0 0; have b01 := sum_bd ⟨l20, hx⟩ 0 1; have b02 := sum_bd ⟨l20, hx⟩ 0 2; have b11 := sum_bd ⟨l20, hx⟩ 1 1; have b12 := sum_bd ⟨l20, hx⟩ 1 2; have b22 := sum_bd ⟨l20, hx⟩ 2 2
  have p1 := prod_bd b01 b22; have p2 := prod_bd b02 b12; have p3 := prod_bd b02 b11; have p4 := prod_bd b01 b12; have p5 := prod_bd b11 b22; have p6 := prod_bd b12 b12
  have ha : prA xs = sm xs 0 1 * sm xs 2 2 - sm xs 0 2 * sm xs 1 2 := rfl
  have hb : prB xs = sm xs 0 2 * sm xs 1 1 - sm xs 0 1 * sm xs 1 2 := rfl
  have hd : detS xs = sm xs 1 1 * sm xs 2 2 - sm xs 1 2 * sm xs 1 2 := rfl
  have hr : resN xs = sm xs 0 0 * detS xs - sm xs 0 1 * prA xs - sm xs 0 2 * prB xs := rfl
  have k1 := prod3_bd b00 (y := detS xs) (by omega); have k2 := prod3_bd b01 (y := prA xs) (by omega); have k3 := prod3_bd b02 (y := prB xs) (by omega)
  have G := Lib.hid (fun W => fraction_c (resN xs) (detS xs) W (by omega) (by omega) hd0)
  clear hx hs he hk
  generalize (frP (resN xs) (detS xs)) = fr at *
  generalize resN xs = r at *
  generalize prA xs = a at *
  generalize prB xs = b at *
  generalize detS xs = d at *
  have ha' := ha.symm; have hb' := hb.symm; have hr' := hr.symm
  have HD := Lib.hid hd
  clear ha hb hd hd0 hr
  go_enter Try.func41, Try.ntmps41
  go_wp2_with (first | (go_at_call 100; refine (H.out _ HS.out).mono ?_; rintro e w1 ⟨rfl, hb1⟩; obtain ⟨hc1, hf1⟩ := bcell hb1; have hz1 : w.heap.size < w1.heap.size := by have := hb1.size; (try simp at this); omega) | (go_at_call 87; refine (G.out _).mono ?_; rintro e w2 ⟨rfl, hb2⟩; obtain ⟨hc2, hf2⟩ := bcell hb2; have hz2 : w.heap.size < w2.heap.size := by have := hb2.size; (try simp at this); omega))
  all_goals
    refine bodyPost_ret (res_c2 rfl rfl (show Box _ _ 47 #[.int .i64 fr.1, .int .i64 fr.2] from ?hE) Try.underlying47 rfl frac_size) rfl ⟨rfl, ?hB⟩
    case hE => focus (apply Box.via; apply Exists.intro; apply And.intro; (repeat first | with_reducible assumption | with_reducible exact Box.new _ _ _ | ((with_reducible apply Box.newAt); focus (simp; done)) | (with_reducible apply Box.drew) | (with_reducible apply Box.drewN) | (with_reducible apply Box.set) | (with_reducible apply Box.alloc) | (with_reducible apply Box.far) | (with_reducible apply Box.below (hb := hb1)) | (with_reducible apply Box.below (hb := hb2))); all_goals (first | with_reducible exact Nat.le_refl _ | omega | (simp; done) | (simp; omega) | (have := hb1.size; (try simp at this); have := hb2.size; (try simp at this); omega) | (have := hb1.size; (try simp at this); have := hb2.size; (try simp at this); (try simp); omega)))
    case hB => focus ((repeat first | with_reducible exact Below.refl _ _ | (with_reducible refine Below.setCell ?_ ?_ _) | (with_reducible refine Below.alloc ?_ ?_ _) | (with_reducible refine below_drewN ?_ _) | (with_reducible refine Below.drew ?_) | (with_reducible refine Below.trans ?_ (Below.mono hb1 ?_)) | (with_reducible refine Below.trans ?_ (Below.mono hb2 ?_))); all_goals (first | with_reducible exact Nat.le_refl _ | omega | (simp; done) | (simp; omega) | (have := hb1.size; (try simp at this); have := hb2.size; (try simp at this); omega) | (have := hb1.size; (try simp at this); have := hb2.size; (try simp at this); (try simp); omega)))

def maxPart : Int := 1000000000000
def prdBad (a b d : Int) : Bool := !(inB d 1 1000000000000 && inB a (-1000000000000) 1000000000000 && inB b (-1000000000000) 1000000000000)
def prdE (a b d : Int) : Int := if prdBad a b d = true then 2 else unl (((gcdL [a, b, d] : Nat) : Int) == 1) 3

set_option maxHeartbeats 1000000 in
theorem predictorErr_c (a b d : Int) (w : World) :
    Calls Try.prog 85 #[.agg #[.int .i64 a, .int .i64 b, .int .i64 d]] w fun e w' => e = .returned (.int .i64 (prdE a b d)) ∧ Below w.heap.size w w' := by
  cases h1 : inB d 1 1000000000000
  · have e1 : prdE a b d = 2 := if_pos (by simp [prdBad, h1])
    have E := Lib.hid e1; clear e1
    go_enter Try.func85, Try.ntmps85
    go_wp2_with (first | (go_at_call 91; refine (within_w _ _ _ _).mono ?_; rintro e w' ⟨rfl, rfl⟩) | (go_at_call 92; refine (isSized_c _ _ _ (by omega) (by omega)).mono ?_; rintro e w' ⟨rfl, rfl⟩))
    go_ret
    exact ⟨ret_i E.out.symm, by focus ((repeat first | with_reducible exact Below.refl _ _ | (with_reducible refine Below.setCell ?_ ?_ _) | (with_reducible refine Below.alloc ?_ ?_ _) | (with_reducible refine below_drewN ?_ _) | (with_reducible refine Below.drew ?_)); all_goals (first | with_reducible exact Nat.le_refl _ | omega | (simp; done) | (simp; omega) | (omega) | ((try simp); omega)))⟩
  cases h2 : inB a (-1000000000000) 1000000000000
  · have e1 : prdE a b d = 2 := if_pos (by simp [prdBad, h1, h2])
    have E := Lib.hid e1; clear e1
    go_enter Try.func85, Try.ntmps85
    go_wp2_with (first | (go_at_call 91; refine (within_w _ _ _ _).mono ?_; rintro e w' ⟨rfl, rfl⟩) | (go_at_call 92; refine (isSized_c _ _ _ (by omega) (by omega)).mono ?_; rintro e w' ⟨rfl, rfl⟩))
    go_ret
    exact ⟨ret_i E.out.symm, by focus ((repeat first | with_reducible exact Below.refl _ _ | (with_reducible refine Below.setCell ?_ ?_ _) | (with_reducible refine Below.alloc ?_ ?_ _) | (with_reducible refine below_drewN ?_ _) | (with_reducible refine Below.drew ?_)); all_goals (first | with_reducible exact Nat.le_refl _ | omega | (simp; done) | (simp; omega) | (omega) | ((try simp); omega)))⟩
  cases h3 : inB b (-1000000000000) 1000000000000
  · have e1 : prdE a b d = 2 := if_pos (by simp [prdBad, h1, h2, h3])
    have E := Lib.hid e1; clear e1
    go_enter Try.func85, Try.ntmps85
    go_wp2_with (first | (go_at_call 91; refine (within_w _ _ _ _).mono ?_; rintro e w' ⟨rfl, rfl⟩) | (go_at_call 92; refine (isSized_c _ _ _ (by omega) (by omega)).mono ?_; rintro e w' ⟨rfl, rfl⟩))
    go_ret
    exact ⟨ret_i E.out.symm, by focus ((repeat first | with_reducible exact Below.refl _ _ | (with_reducible refine Below.setCell ?_ ?_ _) | (with_reducible refine Below.alloc ?_ ?_ _) | (with_reducible refine below_drewN ?_ _) | (with_reducible refine Below.drew ?_)); all_goals (first | with_reducible exact Nat.le_refl _ | omega | (simp; done) | (simp; omega) | (omega) | ((try simp); omega)))⟩
  have e1 : prdE a b d = unl (((gcdL [a, b, d] : Nat) : Int) == 1) 3 := if_neg (by simp [prdBad, h1, h2, h3])
  have E := Lib.hid e1; clear e1
  have i1 := inB_true.1 h1; have i2 := inB_true.1 h2; have i3 := inB_true.1 h3
  have G := Lib.hid (fun k W => divisor3_c a b d k W (by omega) (by omega) (by omega))
  generalize gcdL [a, b, d] = g at *
  go_enter Try.func85, Try.ntmps85
  go_wp2_with (first | (go_at_call 91; refine (within_w _ _ _ _).mono ?_; rintro e w' ⟨rfl, rfl⟩) | (go_at_call 92; refine (isSized_c _ _ _ (by omega) (by omega)).mono ?_; rintro e w' ⟨rfl, rfl⟩) | (go_at_call 101; refine (G.out _ _ (by simp [go_sem]) (by simp [go_sem]) (by simp [go_sem]) (by simp [go_sem])).mono ?_; rintro e w1 ⟨rfl, hb1⟩; obtain ⟨hc1, hf1⟩ := bcell hb1; have hz1 : w.heap.size < w1.heap.size := by have := hb1.size; (try simp at this); omega) | (go_at_call 81; refine (unless_c _ _ _).mono ?_; rintro e w' ⟨rfl, rfl⟩))
  all_goals go_ret
  all_goals exact ⟨ret_i E.out.symm, by focus ((repeat first | with_reducible exact Below.refl _ _ | (with_reducible refine Below.setCell ?_ ?_ _) | (with_reducible refine Below.alloc ?_ ?_ _) | (with_reducible refine below_drewN ?_ _) | (with_reducible refine Below.drew ?_) | (with_reducible refine Below.trans ?_ (Below.mono hb1 ?_))); all_goals (first | with_reducible exact Nat.le_refl _ | omega | (simp; done) | (simp; omega) | (have := hb1.size; (try simp at this); omega) | (have := hb1.size; (try simp at this); (try simp); omega)))⟩

end Go.Proofs.Ytgbckdmhmkpahaa

/-
  The walks of the predictor's functions (chapter 2): open, PredictorOf, ResidualOf, fraction, predictorErr, CheckPredictor, NextBy.
-/
import Derived.Test.YtgbckdmhmkpahaaSums
set_option linter.unusedVariables false
namespace Go.Proofs.Ytgbckdmhmkpahaa
open Go.RowKit Go.Shelf

theorem findFrom_neg (p : Int → Bool) : ∀ (xs : List Int) (i : Int), 0 ≤ i → findFrom p i xs < 0 → ∀ x ∈ xs, p x = false
  | [], _, _, _, x, hx => by simp at hx
  | y :: l, i, hi, h, x, hx => by
    unfold findFrom at h
    split at h <;> rename_i hp
    · omega
    · rcases List.mem_cons.1 hx with rfl | hx
      · simpa using hp
      · exact findFrom_neg p l (i + 1) (by omega) h x hx
theorem unl_ne (b : Bool) (e : Int) (h : e ≠ 0) : unl b e = 0 ↔ b = true := by cases b <;> simp [unl, h]
theorem fst2 (a b : Int) : fstE [a, b] = if a = 0 then b else a := by
  simp only [fstE]; by_cases h : a = 0 <;> by_cases k : b = 0 <;> simp [h, k]
theorem chkS_ok {xs : List Int} (h : (chkS xs).2 = 0) : 4 ≤ xs.length ∧ xs.length ≤ 20 ∧ ∀ x ∈ xs, -100 ≤ x ∧ x ≤ 100 := by
  unfold chkS at h
  split at h <;> rename_i h1
  · exact absurd h (by simpa using h1)
  · split at h <;> rename_i h2
    · simp at h
    · rw [fst2] at h1
      have hu1 := unl_ne (decide (4 ≤ (xs.length : Int))) 10 (by omega)
      have hu2 := unl_ne (decide ((xs.length : Int) ≤ 20)) 8 (by omega)
      split at h1 <;> rename_i h3
      · have a1 : 4 ≤ (xs.length : Int) := by simpa using hu1.1 h3
        have a2 : (xs.length : Int) ≤ 20 := by simpa using hu2.1 (by simpa using h1)
        refine ⟨by omega, by omega, fun x hx => ?_⟩
        have := findFrom_neg badS xs 0 (by omega) (by unfold findI at h2; omega) x hx
        simpa [badS, inB] using this
      · simp [h3] at h1

def detS (xs : List Int) : Int := sm xs 1 1 * sm xs 2 2 - sm xs 1 2 * sm xs 1 2
theorem sum_bd {xs : List Int} (h : xs.length ≤ 20 ∧ ∀ x ∈ xs, -100 ≤ x ∧ x ≤ 100) (a b : Nat) : -180000 ≤ sm xs a b ∧ sm xs a b ≤ 180000 := by
  unfold sm
  have := sumTo_small h.2 a b (xs.length - 2)
  omega
theorem prod_bd {x y : Int} (hx : -180000 ≤ x ∧ x ≤ 180000) (hy : -180000 ≤ y ∧ y ≤ 180000) : -32400000000 ≤ x * y ∧ x * y ≤ 32400000000 := by
  have h1 : (x * y).natAbs ≤ 180000 * 180000 := by rw [Int.natAbs_mul]; exact Nat.mul_le_mul (by omega) (by omega)
  omega


set_option maxHeartbeats 1000000 in
theorem open_bad (xs : List Int) (A : Option Addr) (c : Nat) (w : World) (hn : xs.length ≤ 9223372036854775807) (hs : SlI w A xs) (he : (chkS xs).2 ≠ 0) :
    Calls Try.prog 100 #[.slice A xs.length c] w fun e w' => e = .returned (.tuple #[.agg #[.int .i64 0, .int .i64 0, .int .i64 0, .int .i64 0, .int .i64 0, .int .i64 0], .int .i64 0, .int .i64 (chkS xs).2]) ∧ Below w.heap.size w w' := by
  have H := Lib.hid (fun W h => samplesErr_c xs A c W hn h)
  have HS := Lib.hid (hs.alloc (.cells #[.int .i64 0, .int .i64 0, .int .i64 0, .int .i64 0, .int .i64 0, .int .i64 0] 163))
  have e1 : ((chkS xs).2 != 0) = true := by simpa using he
  clear hn hs he
  go_enter Try.func100, Try.ntmps100
  go_wp2_with (go_at_call 86; refine (H.out _ HS.out).mono ?_; rintro e w1 ⟨rfl, hb1⟩; obtain ⟨hc1, hf1⟩ := bcell hb1; have hz1 : w.heap.size < w1.heap.size := by have := hb1.size; (try simp at this); omega)
  have hE : Box _ w.heap.size 163 #[.int .i64 0, .int .i64 0, .int .i64 0, .int .i64 0, .int .i64 0, .int .i64 0] := Box.congr ((((((((Box.new w 163 #[.int .i64 0, .int .i64 0, .int .i64 0, .int .i64 0, .int .i64 0, .int .i64 0]).below hb1 (by simp)).set 0 (.int .i64 0)).set 1 (.int .i64 0)).set 2 (.int .i64 0)).set 3 (.int .i64 0)).set 4 (.int .i64 0)).set 5 (.int .i64 0)) rfl
  refine bodyPost_ret (res_c3 rfl rfl hE Try.underlying163 rfl sums_size) rfl ⟨rfl, ?_⟩
  focus ((repeat first | with_reducible exact Below.refl _ _ | (with_reducible refine Below.setCell ?_ ?_ _) | (with_reducible refine Below.alloc ?_ ?_ _) | (with_reducible refine below_drewN ?_ _) | (with_reducible refine Below.drew ?_) | (with_reducible refine Below.trans ?_ (Below.mono hb1 ?_))); all_goals (first | with_reducible exact Nat.le_refl _ | omega | (simp; done) | (simp; omega) | (have := hb1.size; (try simp at this); omega) | (have := hb1.size; (try simp at this); (try simp); omega)))

set_option maxHeartbeats 1000000 in
theorem open_good (xs : List Int) (A : Option Addr) (c : Nat) (w : World) (hs : SlI w A xs) (he : (chkS xs).2 = 0) :
    Calls Try.prog 100 #[.slice A xs.length c] w fun e w' => e = .returned (.tuple #[.agg #[.int .i64 (sm xs 0 0), .int .i64 (sm xs 0 1), .int .i64 (sm xs 0 2), .int .i64 (sm xs 1 1), .int .i64 (sm xs 1 2), .int .i64 (sm xs 2 2)], .int .i64 (detS xs), .int .i64 (unl (detS xs != 0) 11)]) ∧ Below w.heap.size w w' := by
  obtain ⟨l4, l20, hx⟩ := chkS_ok he
  have H := Lib.hid (fun W h => samplesErr_c xs A c W (by omega) h)
  have G := Lib.hid (fun W h => sumsOf_c xs A c W l20 (by omega) hx h)
  have HS := Lib.hid (hs.alloc (.cells #[.int .i64 0, .int .i64 0, .int .i64 0, .int .i64 0, .int .i64 0, .int .i64 0] 163))
  have b11 := sum_bd ⟨l20, hx⟩ 1 1; have b12 := sum_bd ⟨l20, hx⟩ 1 2; have b22 := sum_bd ⟨l20, hx⟩ 2 2
  have p1 := prod_bd b11 b22; have p2 := prod_bd b12 b12
  have HD := Lib.hid (show detS xs = sm xs 1 1 * sm xs 2 2 - sm xs 1 2 * sm xs 1 2 from rfl)
  have HE := Lib.hid he
  have e1 : ((chkS xs).2 != 0) = false := by simpa using he
  clear hs he hx
  go_enter Try.func100, Try.ntmps100
  go_wp2_with (first | (go_at_call 86; refine (H.out _ HS.out).mono ?_; rintro e w1 ⟨rfl, hb1⟩; obtain ⟨hc1, hf1⟩ := bcell hb1; have hz1 : w.heap.size < w1.heap.size := by have := hb1.size; (try simp at this); omega) | (go_at_call 142; refine (G.out _ (HS.out.below hb1)).mono ?_; rintro e w2 ⟨rfl, hb2⟩; obtain ⟨hc2, hf2⟩ := bcell hb2; have hz2 : w.heap.size < w2.heap.size := by have := hb2.size; (try simp at this); omega))
  go_region_with (go_at_call 81; refine (unless_c _ _ _).mono ?_; rintro e w' ⟨rfl, rfl⟩)
  all_goals go_wp2
  all_goals simp [Act.put]
  all_goals
    refine bodyPost_ret (res_c3 rfl rfl (show Box _ _ 163 #[.int .i64 (sm xs 0 0), .int .i64 (sm xs 0 1), .int .i64 (sm xs 0 2), .int .i64 (sm xs 1 1), .int .i64 (sm xs 1 2), .int .i64 (sm xs 2 2)] from ?hE) Try.underlying163 rfl sums_size) rfl ⟨ret_t3 rfl rfl rfl, ?hB⟩
    case hE => focus (apply Box.via; apply Exists.intro; apply And.intro; (repeat first | with_reducible assumption | with_reducible exact Box.new _ _ _ | ((with_reducible apply Box.newAt); focus (simp; done)) | (with_reducible apply Box.drew) | (with_reducible apply Box.drewN) | (with_reducible apply Box.set) | (with_reducible apply Box.alloc) | (with_reducible apply Box.far) | (with_reducible apply Box.below (hb := hb1)) | (with_reducible apply Box.below (hb := hb2))); all_goals (first | with_reducible exact Nat.le_refl _ | omega | (simp; done) | (simp; omega) | (have := hb1.size; (try simp at this); have := hb2.size; (try simp at this); omega) | (have := hb1.size; (try simp at this); have := hb2.size; (try simp at this); (try simp); omega)))
    case hB => focus ((repeat first | with_reducible exact Below.refl _ _ | (with_reducible refine Below.setCell ?_ ?_ _) | (with_reducible refine Below.alloc ?_ ?_ _) | (with_reducible refine below_drewN ?_ _) | (with_reducible refine Below.drew ?_) | (with_reducible refine Below.trans ?_ (Below.mono hb1 ?_)) | (with_reducible refine Below.trans ?_ (Below.mono hb2 ?_))); all_goals (first | with_reducible exact Nat.le_refl _ | omega | (simp; done) | (simp; omega) | (have := hb1.size; (try simp at this); have := hb2.size; (try simp at this); omega) | (have := hb1.size; (try simp at this); have := hb2.size; (try simp at this); (try simp); omega)))

end Go.Proofs.Ytgbckdmhmkpahaa

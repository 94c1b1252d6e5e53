/-
  The walks of the predictor's functions (chapter 2).
-/
import Derived.Test.YtgbckdmhmkpahaaSamples
set_option linter.unusedVariables false
namespace Go.Proofs.Ytgbckdmhmkpahaa
open Go.RowKit Go.Shelf

/-- The sum of all h[t - a] h[t - b] over the first n places t = 2, 3, .. -/
def sumTo (xs : List Int) (a b : Nat) : Nat → Int
  | 0 => 0
  | n + 1 => sumTo xs a b n + xs.getD (n + 2 - a) 0 * xs.getD (n + 2 - b) 0
theorem mul_le_sq {x y : Int} (hx : -100 ≤ x ∧ x ≤ 100) (hy : -100 ≤ y ∧ y ≤ 100) : -10000 ≤ x * y ∧ x * y ≤ 10000 := by
  have h1 : (x * y).natAbs ≤ 100 * 100 := by rw [Int.natAbs_mul]; exact Nat.mul_le_mul (by omega) (by omega)
  omega
theorem getD_small {xs : List Int} (h : ∀ x ∈ xs, -100 ≤ x ∧ x ≤ 100) (i : Nat) : -100 ≤ xs.getD i 0 ∧ xs.getD i 0 ≤ 100 := by
  by_cases hi : i < xs.length
  · rw [List.getD_eq_getElem?_getD, List.getElem?_eq_getElem hi]; exact h _ (List.getElem_mem hi)
  · rw [List.getD_eq_getElem?_getD, List.getElem?_eq_none (by omega)]; simp
theorem sumTo_small {xs : List Int} (h : ∀ x ∈ xs, -100 ≤ x ∧ x ≤ 100) (a b n : Nat) : -(10000 * n) ≤ sumTo xs a b n ∧ sumTo xs a b n ≤ 10000 * n := by
  induction n with
  | zero => simp [sumTo]
  | succ n ih =>
    have := mul_le_sq (getD_small h (n + 2 - a)) (getD_small h (n + 2 - b))
    simp only [sumTo]; push_cast; omega


theorem sums_size : (Try.prog.info? 163).map (·.size) = some 6 := by kernel_rfl

/-- The sum over all places. -/
def sm (xs : List Int) (a b : Nat) : Int := sumTo xs a b (xs.length - 2)

set_option maxHeartbeats 2000000 in
theorem sumsOf_c (xs : List Int) (A : Option Addr) (c : Nat) (w : World) (hn : xs.length ≤ 20) (h2 : 2 ≤ xs.length) (hx : ∀ x ∈ xs, -100 ≤ x ∧ x ≤ 100) (hs : SlI w A xs) :
    Calls Try.prog 142 #[.slice A xs.length c] w fun e w' => e = .returned (.agg #[.int .i64 (sm xs 0 0), .int .i64 (sm xs 0 1), .int .i64 (sm xs 0 2), .int .i64 (sm xs 1 1), .int .i64 (sm xs 1 2), .int .i64 (sm xs 2 2)]) ∧ Below w.heap.size w w' := by
  go_enter Try.func142, Try.ntmps142
  go_wp2
  go_loopw [4] (fun i wr => ∃ k : Nat, k + 2 ≤ xs.length ∧ i = .int .i64 (k + 2 : Nat) ∧ Box wr w.heap.size 163 #[.int .i64 0, .int .i64 0, .int .i64 0, .int .i64 0, .int .i64 0, .int .i64 0] ∧ Box wr (w.heap.size + 1) 163 #[.int .i64 (sumTo xs 0 0 k), .int .i64 (sumTo xs 0 1 k), .int .i64 (sumTo xs 0 2 k), .int .i64 (sumTo xs 1 1 k), .int .i64 (sumTo xs 1 2 k), .int .i64 (sumTo xs 2 2 k)] ∧ Below w.heap.size w wr) (fun i _ => xs.length - (intOf i).toNat)
  case atStart =>
    refine ⟨0, by omega, rfl, (Box.new _ _ _).alloc _, ?_, ((Below.refl _ _).alloc (Nat.le_refl _) _).alloc (by simp) _⟩
    exact Box.new2 _ _ _ _
  case round =>
    obtain ⟨k, hk, rfl, hR, hS, hB⟩ := hrel
    by_cases hlt : k + 2 < xs.length
    · have c0 : SlI wr A xs := hs.below hB
      obtain ⟨b, off, rfl, hb, hc0⟩ := c0 (k + 2) xs[k + 2] (List.getElem?_eq_getElem hlt)
      obtain ⟨b', off', he, _, hc1⟩ := c0 (k + 1) xs[k + 1] (List.getElem?_eq_getElem (by omega))
      obtain ⟨rfl, rfl⟩ : b = b' ∧ off = off' := by simpa using he
      obtain ⟨b', off', he, _, hc2⟩ := c0 k xs[k] (List.getElem?_eq_getElem (by omega))
      obtain ⟨rfl, rfl⟩ : b = b' ∧ off = off' := by simpa using he
      have m0 := hx _ (List.getElem_mem hlt)
      have m1 := hx _ (List.getElem_mem (show k + 1 < xs.length by omega))
      have m2 := hx _ (List.getElem_mem (show k < xs.length by omega))
      have s0 := hS.cell 0; have s1 := hS.cell 1; have s2 := hS.cell 2; have s3 := hS.cell 3; have s4 := hS.cell 4; have s5 := hS.cell 5
      have sf := hS.froz
      simp at s0 s1 s2 s3 s4 s5
      have q1 : ∀ a b, a ≤ 2 → b ≤ 2 → sumTo xs a b (k + 1) = sumTo xs a b k + xs.getD (k + 2 - a) 0 * xs.getD (k + 2 - b) 0 := fun _ _ _ _ => rfl
      have Q := Lib.hid q1; clear q1
      have B00 := sumTo_small hx 0 0 k; have B01 := sumTo_small hx 0 1 k; have B02 := sumTo_small hx 0 2 k; have B11 := sumTo_small hx 1 1 k; have B12 := sumTo_small hx 1 2 k; have B22 := sumTo_small hx 2 2 k
      have p00 := mul_le_sq m0 m0; have p01 := mul_le_sq m0 m1; have p02 := mul_le_sq m0 m2; have p11 := mul_le_sq m1 m1; have p12 := mul_le_sq m1 m2; have p22 := mul_le_sq m2 m2
      have HX := Lib.hid hx; have HC := Lib.hid c0; have HS := Lib.hid hs
      have g0 := Lib.hid (show xs[k+2]?.getD 0 = xs[k+2] by simp [hlt])
      have g1 := Lib.hid (show xs[k+1]?.getD 0 = xs[k+1] by simp [show k + 1 < xs.length by omega])
      have g2 := Lib.hid (show xs[k]?.getD 0 = xs[k] by simp [show k < xs.length by omega])
      clear hx c0 hs
      generalize xs[k+2] = x at *
      generalize xs[k+1] = y at *
      generalize xs[k] = z at *
      go_wp2
      go_quiet (fail)
      go_wp2
      go_roundw
      case rel =>
        refine ⟨k + 1, by omega, by go_num, ?_, ?_, ?_⟩
        · exact (((((((hR.drewN _).far (by simp) _).far (by simp) _).far (by simp) _).far (by simp) _).far (by simp) _).far (by simp) _)
        · refine Box.congr (((((((hS.drewN _).set 0 _).set 1 _).set 2 _).set 3 _).set 4 _).set 5 _) ?_
          simp [Q.out, g0.out, g1.out, g2.out]
        · exact ((((((below_drewN hB _).setCell (by simp) _).setCell (by simp) _).setCell (by simp) _).setCell (by simp) _).setCell (by simp) _).setCell (by simp) _
      case measure => simp [intOf]; omega
    · obtain rfl : k = xs.length - 2 := by omega
      have r0 := hR.cell 0; have r1 := hR.cell 1; have r2 := hR.cell 2; have r3 := hR.cell 3; have r4 := hR.cell 4; have r5 := hR.cell 5
      have s0 := hS.cell 0; have s1 := hS.cell 1; have s2 := hS.cell 2; have s3 := hS.cell 3; have s4 := hS.cell 4; have s5 := hS.cell 5
      have rf := hR.froz; have sf := hS.froz
      simp at r0 r1 r2 r3 r4 r5 s0 s1 s2 s3 s4 s5
      go_wp2
      have hE : Box _ w.heap.size 163 #[.int .i64 (sm xs 0 0), .int .i64 (sm xs 0 1), .int .i64 (sm xs 0 2), .int .i64 (sm xs 1 1), .int .i64 (sm xs 1 2), .int .i64 (sm xs 2 2)] := Box.congr ((((((hR.set 0 (.int .i64 (sumTo xs 0 0 (xs.length - 2)))).set 1 (.int .i64 (sumTo xs 0 1 (xs.length - 2)))).set 2 (.int .i64 (sumTo xs 0 2 (xs.length - 2)))).set 3 (.int .i64 (sumTo xs 1 1 (xs.length - 2)))).set 4 (.int .i64 (sumTo xs 1 2 (xs.length - 2)))).set 5 (.int .i64 (sumTo xs 2 2 (xs.length - 2)))) rfl
      refine bodyPost_ret (res_c1 rfl rfl hE Try.underlying163 rfl sums_size) rfl ⟨rfl, ?_⟩
      exact (((((hB.setCell (by simp) _).setCell (by simp) _).setCell (by simp) _).setCell (by simp) _).setCell (by simp) _).setCell (by simp) _

end Go.Proofs.Ytgbckdmhmkpahaa

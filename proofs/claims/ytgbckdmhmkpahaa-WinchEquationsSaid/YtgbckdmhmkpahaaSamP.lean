/-
  Predictors (chapter 2), in plain words: the determinant is not negative; the residual in lowest terms; the equations.
-/
import Derived.Test.YtgbckdmhmkpahaaRefSums
set_option linter.unusedVariables false
namespace Go.Proofs.Ytgbckdmhmkpahaa
open Go.RowKit Go.Shelf

theorem sumTo_comm (xs : List Int) (a b : Nat) : ∀ n, sumTo xs a b n = sumTo xs b a n
  | 0 => rfl
  | n + 1 => by simp only [sumTo]; rw [sumTo_comm xs a b n, Int.mul_comm]
theorem sm_comm (xs : List Int) (a b : Nat) : sm xs a b = sm xs b a := sumTo_comm xs a b _
theorem sumTo_sq (xs : List Int) (a : Nat) : ∀ n, 0 ≤ sumTo xs a a n
  | 0 => Int.le_refl _
  | n + 1 => by
    have := sumTo_sq xs a n
    have h2 : 0 ≤ xs.getD (n + 2 - a) 0 * xs.getD (n + 2 - a) 0 := by
      rcases Int.le_total 0 (xs.getD (n + 2 - a) 0) with h | h
      · exact Int.mul_nonneg h h
      · exact Int.mul_nonneg_of_nonpos_of_nonpos h h
    simp only [sumTo]; omega
theorem sq_nonneg' (x : Int) : 0 ≤ x * x := by
  rcases Int.le_total 0 x with h | h
  · exact Int.mul_nonneg h h
  · exact Int.mul_nonneg_of_nonpos_of_nonpos h h
theorem quad (xs : List Int) (a b : Nat) (u v : Int) : ∀ n, 0 ≤ u * u * sumTo xs a a n + 2 * (u * v) * sumTo xs a b n + v * v * sumTo xs b b n
  | 0 => by simp [sumTo]
  | n + 1 => by
    have ih := quad xs a b u v n
    simp only [sumTo]
    generalize xs.getD (n + 2 - a) 0 = y
    generalize xs.getD (n + 2 - b) 0 = z
    generalize sumTo xs a a n = s11 at *
    generalize sumTo xs a b n = s12 at *
    generalize sumTo xs b b n = s22 at *
    have h := sq_nonneg' (u * y + v * z)
    have e : u * u * (s11 + y * y) + 2 * (u * v) * (s12 + y * z) + v * v * (s22 + z * z) = (u * u * s11 + 2 * (u * v) * s12 + v * v * s22) + (u * y + v * z) * (u * y + v * z) := by grind
    rw [e]; omega
/-- Cauchy and Schwarz. -/
theorem det_nonneg (xs : List Int) : 0 ≤ detS xs := by
  unfold detS sm
  have q := fun u v => quad xs 1 2 u v (xs.length - 2)
  have h1 := sumTo_sq xs 1 (xs.length - 2)
  have h2 := sumTo_sq xs 2 (xs.length - 2)
  generalize sumTo xs 1 1 (xs.length - 2) = s11 at *
  generalize sumTo xs 1 2 (xs.length - 2) = s12 at *
  generalize sumTo xs 2 2 (xs.length - 2) = s22 at *
  by_cases h0 : s22 = 0
  · subst h0
    by_cases hz : s12 = 0
    · subst hz; simp
    · exfalso
      rcases Int.lt_or_gt_of_ne hz with h | h
      · have := q 1 (s11 + 1)
        have h3 : (s11 + 1) * s12 ≤ (s11 + 1) * (-1) := Int.mul_le_mul_of_nonneg_left (by omega) (by omega)
        have e : 1 * 1 * s11 + 2 * (1 * (s11 + 1)) * s12 + (s11 + 1) * (s11 + 1) * 0 = s11 + 2 * ((s11 + 1) * s12) := by grind
        rw [e] at this; omega
      · have := q 1 (-(s11 + 1))
        have h3 : (s11 + 1) * 1 ≤ (s11 + 1) * s12 := Int.mul_le_mul_of_nonneg_left (by omega) (by omega)
        have e : 1 * 1 * s11 + 2 * (1 * -(s11 + 1)) * s12 + -(s11 + 1) * -(s11 + 1) * 0 = s11 - 2 * ((s11 + 1) * s12) := by grind
        rw [e] at this; omega
  · have hq := q s22 (-s12)
    have e : s22 * s22 * s11 + 2 * (s22 * -s12) * s12 + -s12 * -s12 * s22 = s22 * (s11 * s22 - s12 * s12) := by grind
    rw [e] at hq
    have hp : 0 < s22 := by omega
    exact Int.nonneg_of_mul_nonneg_right hq hp

/-- What ProofErr answers of valid samples and a valid predictor. -/
def prfP (xs : List Int) (a b d : Int) : Int × Int :=
  if d * sm xs 0 1 - a * sm xs 1 1 - b * sm xs 2 1 ≠ 0 then (0, 19)
  else if d * sm xs 0 2 - a * sm xs 1 2 - b * sm xs 2 2 ≠ 0 then (1, 19)
  else if detS xs = 0 then (0, 11) else (0, 0)
theorem prfP_eq {xs : List Int} {a b d : Int} (h : chkP0 xs a b d = 0) : prfP xs a b d = chkP xs a b d := by
  have e : chkP xs a b d = if d * sm xs 0 1 ≠ a * sm xs 1 1 + b * sm xs 1 2 then (0, 19) else if d * sm xs 0 2 ≠ a * sm xs 1 2 + b * sm xs 2 2 then (1, 19) else (0, unl (detS xs != 0) 11) := by
    unfold chkP; rw [if_neg (by simpa using h)]
  rw [e]
  unfold prfP
  rw [sm_comm xs 2 1]
  generalize sm xs 0 1 = s01
  generalize sm xs 0 2 = s02
  generalize sm xs 1 1 = s11
  generalize sm xs 1 2 = s12
  generalize sm xs 2 2 = s22
  generalize detS xs = dt
  have q1 : (d * s01 - a * s11 - b * s12 ≠ 0) = (d * s01 ≠ a * s11 + b * s12) := propext (by omega)
  have q2 : (d * s02 - a * s12 - b * s22 ≠ 0) = (d * s02 ≠ a * s12 + b * s22) := propext (by omega)
  have q3 : (if dt = 0 then ((0 : Int), (11 : Int)) else (0, 0)) = (0, unl (dt != 0) 11) := by
    by_cases h3 : dt = 0
    · rw [if_pos h3, bneF h3]; rfl
    · rw [if_neg h3, bneT h3]; rfl
  rw [q3]
  simp only [q1, q2]

/-- The residual of the reference. -/
theorem frP_mul (g : Nat) (hg : 0 < g) (n d : Int) : frP (g * n) (g * d) = frP n d := by
  have e : gcdL [(g : Int) * n, (g : Int) * d] = g * gcdL [n, d] := by
    rw [gcdL2, gcdL2, Int.natAbs_mul, Int.natAbs_mul, Int.natAbs_natCast, Nat.gcd_mul_left]
  unfold frP
  rw [e]
  push_cast
  rw [Int.mul_tdiv_mul_of_pos _ _ (by omega), Int.mul_tdiv_mul_of_pos _ _ (by omega)]
theorem resid_eq {xs : List Int} (hd : detS xs ≠ 0) : frP ((prV xs).2.2 * sm xs 0 0 - (prV xs).1 * sm xs 0 1 - (prV xs).2.1 * sm xs 0 2) (prV xs).2.2 = frP (resN xs) (detS xs) := by
  have hg : 0 < prG xs := gcdL3_pos _ _ _ hd
  have ha : (prG xs : Int) ∣ prA xs := by
    unfold prG; rw [gcdL3]; exact Int.ofNat_dvd_left.2 (Nat.dvd_trans (Nat.gcd_dvd_left _ _) (Nat.gcd_dvd_left _ _))
  have hb : (prG xs : Int) ∣ prB xs := by
    unfold prG; rw [gcdL3]; exact Int.ofNat_dvd_left.2 (Nat.dvd_trans (Nat.gcd_dvd_left _ _) (Nat.gcd_dvd_right _ _))
  have hc : (prG xs : Int) ∣ detS xs := by
    unfold prG; rw [gcdL3]; exact Int.ofNat_dvd_left.2 (Nat.gcd_dvd_right _ _)
  have e1 : (prG xs : Int) * (prA xs).tdiv (prG xs) = prA xs := Int.mul_tdiv_cancel' ha
  have e2 : (prG xs : Int) * (prB xs).tdiv (prG xs) = prB xs := Int.mul_tdiv_cancel' hb
  have e3 : (prG xs : Int) * (detS xs).tdiv (prG xs) = detS xs := Int.mul_tdiv_cancel' hc
  rw [← frP_mul (prG xs) hg]
  unfold prV resN
  dsimp only
  generalize (prA xs).tdiv (prG xs) = a' at *
  generalize (prB xs).tdiv (prG xs) = b' at *
  generalize (detS xs).tdiv (prG xs) = d' at *
  rw [e3]
  congr 1
  rw [← e1, ← e2, ← e3]
  grind

end Go.Proofs.Ytgbckdmhmkpahaa

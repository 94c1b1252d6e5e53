/-
  The equations are enough (chapter 2), in plain words.
-/
import Derived.Test.YtgbckdmhmkpahaaSamP
import Derived.Test.YtgbckdmhmkpahaaWSamples
import Derived.Test.YtgbckdmhmkpahaaCompare
set_option linter.unusedVariables false
namespace Go.Proofs.Ytgbckdmhmkpahaa
open Go.RowKit Go.Shelf

/-- The square that a recurrence leaves at a place. -/
def resAt (xs : List Int) (a b : Int) (t : Nat) : Int := xs.getD (t + 2) 0 - a * xs.getD (t + 1) 0 - b * xs.getD t 0
def sqTo (xs : List Int) (a b : Int) : Nat → Int
  | 0 => 0
  | n + 1 => sqTo xs a b n + resAt xs a b n * resAt xs a b n
theorem sq_eq (xs : List Int) (a b : Int) : ∀ n, sqTo xs a b n = sumTo xs 0 0 n - 2 * a * sumTo xs 0 1 n - 2 * b * sumTo xs 0 2 n + a * a * sumTo xs 1 1 n + 2 * (a * b) * sumTo xs 1 2 n + b * b * sumTo xs 2 2 n
  | 0 => by simp [sqTo, sumTo]
  | n + 1 => by
    have ih := sq_eq xs a b n
    simp only [sqTo, sumTo, resAt]
    rw [ih]
    have e1 : n + 2 - 0 = n + 2 := rfl
    have e2 : n + 2 - 1 = n + 1 := rfl
    have e3 : n + 2 - 2 = n := rfl
    rw [e1, e2, e3]
    grind
theorem sqTo_nonneg (xs : List Int) (a b : Int) : ∀ n, 0 ≤ sqTo xs a b n
  | 0 => Int.le_refl _
  | n + 1 => by
    have := sqTo_nonneg xs a b n
    have h := sq_nonneg' (resAt xs a b n)
    simp only [sqTo]; omega
/-- No coefficients leave less than the residual. -/
theorem resid_least (xs : List Int) (a b : Int) : resN xs ≤ detS xs * sqTo xs a b (xs.length - 2) := by
  rw [sq_eq]
  have q := quad xs 1 2 (a * detS xs - prA xs) (b * detS xs - prB xs) (xs.length - 2)
  have hd := det_nonneg xs
  have h00 := sumTo_sq xs 0 (xs.length - 2)
  have hq := fun u v => quad xs 1 2 u v (xs.length - 2)
  unfold resN prA prB detS sm at *
  generalize sumTo xs 0 0 (xs.length - 2) = s00 at *
  generalize sumTo xs 0 1 (xs.length - 2) = s01 at *
  generalize sumTo xs 0 2 (xs.length - 2) = s02 at *
  generalize sumTo xs 1 1 (xs.length - 2) = s11 at *
  generalize sumTo xs 1 2 (xs.length - 2) = s12 at *
  generalize sumTo xs 2 2 (xs.length - 2) = s22 at *
  by_cases h0 : s11 * s22 - s12 * s12 = 0
  · rw [h0, Int.zero_mul]
    have e : s00 * 0 - s01 * (s01 * s22 - s02 * s12) - s02 * (s02 * s11 - s01 * s12) = -(s22 * (s01 * s01) - 2 * (s01 * s02) * s12 + s11 * (s02 * s02)) := by grind
    rw [e]
    have h2 := hq s02 (-s01)
    have e2 : s02 * s02 * s11 + 2 * (s02 * -s01) * s12 + -s01 * -s01 * s22 = s22 * (s01 * s01) - 2 * (s01 * s02) * s12 + s11 * (s02 * s02) := by grind
    rw [e2] at h2; omega
  · have hp : 0 < s11 * s22 - s12 * s12 := by omega
    have e : (s11 * s22 - s12 * s12) * ((s11 * s22 - s12 * s12) * (s00 - 2 * a * s01 - 2 * b * s02 + a * a * s11 + 2 * (a * b) * s12 + b * b * s22) - (s00 * (s11 * s22 - s12 * s12) - s01 * (s01 * s22 - s02 * s12) - s02 * (s02 * s11 - s01 * s12))) = (a * (s11 * s22 - s12 * s12) - (s01 * s22 - s02 * s12)) * (a * (s11 * s22 - s12 * s12) - (s01 * s22 - s02 * s12)) * s11 + 2 * ((a * (s11 * s22 - s12 * s12) - (s01 * s22 - s02 * s12)) * (b * (s11 * s22 - s12 * s12) - (s02 * s11 - s01 * s12))) * s12 + (b * (s11 * s22 - s12 * s12) - (s02 * s11 - s01 * s12)) * (b * (s11 * s22 - s12 * s12) - (s02 * s11 - s01 * s12)) * s22 := by grind
    rw [← e] at q
    have := Int.nonneg_of_mul_nonneg_right q hp
    omega
theorem cramer (xs : List Int) : detS xs * sm xs 0 1 = prA xs * sm xs 1 1 + prB xs * sm xs 1 2 ∧ detS xs * sm xs 0 2 = prA xs * sm xs 1 2 + prB xs * sm xs 2 2 := by
  unfold detS prA prB
  constructor <;> grind

theorem quad3 (xs : List Int) (c a b : Int) : ∀ n, 0 ≤ c * c * sumTo xs 0 0 n - 2 * (c * a) * sumTo xs 0 1 n - 2 * (c * b) * sumTo xs 0 2 n + a * a * sumTo xs 1 1 n + 2 * (a * b) * sumTo xs 1 2 n + b * b * sumTo xs 2 2 n
  | 0 => by simp [sumTo]
  | n + 1 => by
    have ih := quad3 xs c a b n
    simp only [sumTo]
    have e1 : n + 2 - 0 = n + 2 := rfl
    have e2 : n + 2 - 1 = n + 1 := rfl
    have e3 : n + 2 - 2 = n := rfl
    rw [e1, e2, e3]
    generalize xs.getD (n + 2) 0 = x
    generalize xs.getD (n + 1) 0 = y
    generalize xs.getD n 0 = z
    generalize sumTo xs 0 0 n = s00 at *
    generalize sumTo xs 0 1 n = s01 at *
    generalize sumTo xs 0 2 n = s02 at *
    generalize sumTo xs 1 1 n = s11 at *
    generalize sumTo xs 1 2 n = s12 at *
    generalize sumTo xs 2 2 n = s22 at *
    have h := sq_nonneg' (c * x - a * y - b * z)
    have e : c * c * (s00 + x * x) - 2 * (c * a) * (s01 + x * y) - 2 * (c * b) * (s02 + x * z) + a * a * (s11 + y * y) + 2 * (a * b) * (s12 + y * z) + b * b * (s22 + z * z) = (c * c * s00 - 2 * (c * a) * s01 - 2 * (c * b) * s02 + a * a * s11 + 2 * (a * b) * s12 + b * b * s22) + (c * x - a * y - b * z) * (c * x - a * y - b * z) := by grind
    rw [e]; omega
/-- The residual is not negative. -/
theorem resN_nonneg {xs : List Int} (hd : detS xs ≠ 0) : 0 ≤ resN xs := by
  have q := quad3 xs (detS xs) (prA xs) (prB xs) (xs.length - 2)
  have h0 := det_nonneg xs
  unfold resN prA prB detS sm at *
  generalize sumTo xs 0 0 (xs.length - 2) = s00 at *
  generalize sumTo xs 0 1 (xs.length - 2) = s01 at *
  generalize sumTo xs 0 2 (xs.length - 2) = s02 at *
  generalize sumTo xs 1 1 (xs.length - 2) = s11 at *
  generalize sumTo xs 1 2 (xs.length - 2) = s12 at *
  generalize sumTo xs 2 2 (xs.length - 2) = s22 at *
  have hp : 0 < s11 * s22 - s12 * s12 := by omega
  have e : (s11 * s22 - s12 * s12) * (s11 * s22 - s12 * s12) * s00 - 2 * ((s11 * s22 - s12 * s12) * (s01 * s22 - s02 * s12)) * s01 - 2 * ((s11 * s22 - s12 * s12) * (s02 * s11 - s01 * s12)) * s02 + (s01 * s22 - s02 * s12) * (s01 * s22 - s02 * s12) * s11 + 2 * ((s01 * s22 - s02 * s12) * (s02 * s11 - s01 * s12)) * s12 + (s02 * s11 - s01 * s12) * (s02 * s11 - s01 * s12) * s22 = (s11 * s22 - s12 * s12) * (s00 * (s11 * s22 - s12 * s12) - s01 * (s01 * s22 - s02 * s12) - s02 * (s02 * s11 - s01 * s12)) := by grind
  rw [e] at q
  exact Int.nonneg_of_mul_nonneg_right q hp

/-- Samples that follow a recurrence exactly. -/
theorem exact_sums {xs : List Int} {a b : Int} (h : ∀ t, t + 2 < xs.length → xs.getD (t + 2) 0 = a * xs.getD (t + 1) 0 + b * xs.getD t 0) : ∀ n, n + 2 ≤ xs.length → sumTo xs 0 0 n = a * sumTo xs 0 1 n + b * sumTo xs 0 2 n ∧ sumTo xs 0 1 n = a * sumTo xs 1 1 n + b * sumTo xs 1 2 n ∧ sumTo xs 0 2 n = a * sumTo xs 1 2 n + b * sumTo xs 2 2 n
  | 0, _ => by simp [sumTo]
  | n + 1, hn => by
    obtain ⟨i1, i2, i3⟩ := exact_sums h n (by omega)
    have hx := h n (by omega)
    simp only [sumTo]
    have e1 : n + 2 - 0 = n + 2 := rfl
    have e2 : n + 2 - 1 = n + 1 := rfl
    have e3 : n + 2 - 2 = n := rfl
    rw [e1, e2, e3, i1, i2, i3, hx]
    refine ⟨by grind, by grind, by grind⟩
theorem exact_pred {xs : List Int} {a b : Int} (hl : 2 ≤ xs.length) (h : ∀ t, t + 2 < xs.length → xs.getD (t + 2) 0 = a * xs.getD (t + 1) 0 + b * xs.getD t 0) (hd : detS xs ≠ 0) : prV xs = (a, b, 1) ∧ frP (resN xs) (detS xs) = (0, 1) := by
  obtain ⟨i1, i2, i3⟩ := exact_sums h (xs.length - 2) (by omega)
  have h0 := det_nonneg xs
  have eA : prA xs = detS xs * a := by
    unfold prA detS sm; rw [i2, i3]; grind
  have eB : prB xs = detS xs * b := by
    unfold prB detS sm; rw [i2, i3]; grind
  have eN : resN xs = 0 := by
    have e4 : resN xs = detS xs * (sm xs 0 0 - a * sm xs 0 1 - b * sm xs 0 2) := by unfold resN; rw [eA, eB]; grind
    rw [e4]
    unfold sm
    rw [i1]
    grind
  have g1 : prG xs = (detS xs).natAbs := by
    unfold prG
    rw [gcdL3, eA, eB, Int.natAbs_mul, Int.natAbs_mul, Nat.gcd_mul_left]
    exact Nat.gcd_eq_right (Nat.dvd_mul_right _ _)
  have g2 : gcdL [resN xs, detS xs] = (detS xs).natAbs := by rw [gcdL2, eN]; simp
  have hn : ((detS xs).natAbs : Int) = detS xs := by omega
  refine ⟨?_, ?_⟩
  · unfold prV
    rw [g1, hn, eA, eB, Int.mul_tdiv_cancel_left _ hd, Int.mul_tdiv_cancel_left _ hd, Int.tdiv_self hd]
  · unfold frP
    rw [g2, hn, eN, Int.zero_tdiv, Int.tdiv_self hd]

end Go.Proofs.Ytgbckdmhmkpahaa

/-
  What the law WinchEquations asks of the answers (chapter 2), in plain words.
-/
import Derived.Test.YtgbckdmhmkpahaaEqP
set_option linter.unusedVariables false
namespace Go.Proofs.Ytgbckdmhmkpahaa
open Go.RowKit Go.Shelf

theorem frP_num {xs : List Int} (hd : detS xs ≠ 0) (a b : Int) : 0 ≤ (frP (resN xs) (detS xs)).1 ∧ 1 ≤ (frP (resN xs) (detS xs)).2 ∧ (frP (resN xs) (detS xs)).1 ≤ (frP (resN xs) (detS xs)).2 * sqTo xs a b (xs.length - 2) := by
  have h0 := det_nonneg xs
  have hr := resN_nonneg hd
  have hl := resid_least xs a b
  have hg : 0 < gcdL [resN xs, detS xs] := gcdL2_pos _ _ hd
  have ha : (gcdL [resN xs, detS xs] : Int) ∣ resN xs := by rw [gcdL2]; exact Int.ofNat_dvd_left.2 (Nat.gcd_dvd_left _ _)
  have hb : (gcdL [resN xs, detS xs] : Int) ∣ detS xs := by rw [gcdL2]; exact Int.ofNat_dvd_left.2 (Nat.gcd_dvd_right _ _)
  have e1 : (gcdL [resN xs, detS xs] : Int) * (resN xs).tdiv (gcdL [resN xs, detS xs]) = resN xs := Int.mul_tdiv_cancel' ha
  have e2 : (gcdL [resN xs, detS xs] : Int) * (detS xs).tdiv (gcdL [resN xs, detS xs]) = detS xs := Int.mul_tdiv_cancel' hb
  unfold frP
  dsimp only
  generalize (resN xs).tdiv (gcdL [resN xs, detS xs]) = u at *
  generalize (detS xs).tdiv (gcdL [resN xs, detS xs]) = v at *
  generalize sqTo xs a b (xs.length - 2) = s at *
  generalize gcdL [resN xs, detS xs] = g at *
  have hgp : (0 : Int) < g := by omega
  refine ⟨?_, ?_, ?_⟩
  · exact Int.nonneg_of_mul_nonneg_right (by rw [e1]; exact hr) hgp
  · have : 0 < v := by
      rcases Int.lt_or_le 0 v with h | h
      · exact h
      · have := Int.mul_nonpos_of_nonneg_of_nonpos (show (0 : Int) ≤ g by omega) h
        omega
    omega
  · have h3 : (g : Int) * u ≤ g * (v * s) := by rw [e1, ← Int.mul_assoc, e2]; exact hl
    exact Int.le_of_mul_le_mul_left h3 hgp

theorem prV_gcd {xs : List Int} (hd : detS xs ≠ 0) : (prG xs : Int) * (prV xs).1 = prA xs ∧ (prG xs : Int) * (prV xs).2.1 = prB xs ∧ (prG xs : Int) * (prV xs).2.2 = detS xs ∧ 0 < prG xs ∧ gcdL [(prV xs).1, (prV xs).2.1, (prV xs).2.2] = 1 := by
  have hg : 0 < prG xs := gcdL3_pos _ _ _ hd
  have ha : (prG xs : Int) ∣ prA xs := by
    unfold prG; rw [gcdL3]; exact Int.ofNat_dvd_left.2 (Nat.dvd_trans (Nat.gcd_dvd_left _ _) (Nat.gcd_dvd_left _ _))
  have hb : (prG xs : Int) ∣ prB xs := by
    unfold prG; rw [gcdL3]; exact Int.ofNat_dvd_left.2 (Nat.dvd_trans (Nat.gcd_dvd_left _ _) (Nat.gcd_dvd_right _ _))
  have hc : (prG xs : Int) ∣ detS xs := by
    unfold prG; rw [gcdL3]; exact Int.ofNat_dvd_left.2 (Nat.gcd_dvd_right _ _)
  have e1 : (prG xs : Int) * (prV xs).1 = prA xs := Int.mul_tdiv_cancel' ha
  have e2 : (prG xs : Int) * (prV xs).2.1 = prB xs := Int.mul_tdiv_cancel' hb
  have e3 : (prG xs : Int) * (prV xs).2.2 = detS xs := Int.mul_tdiv_cancel' hc
  refine ⟨e1, e2, e3, hg, ?_⟩
  have h : prG xs * gcdL [(prV xs).1, (prV xs).2.1, (prV xs).2.2] = prG xs * 1 := by
    have h1 : prG xs = gcdL [(prG xs : Int) * (prV xs).1, (prG xs : Int) * (prV xs).2.1, (prG xs : Int) * (prV xs).2.2] := by rw [e1, e2, e3]; rfl
    rw [gcdL3] at h1 ⊢
    rw [Int.natAbs_mul, Int.natAbs_mul, Int.natAbs_mul, Int.natAbs_natCast, Nat.gcd_mul_left, Nat.gcd_mul_left] at h1
    rw [Nat.mul_one]; exact h1.symm
  exact Nat.eq_of_mul_eq_mul_left hg h

theorem prV_eqs {xs : List Int} (hd : detS xs ≠ 0) : (prV xs).2.2 * sm xs 0 1 = (prV xs).1 * sm xs 1 1 + (prV xs).2.1 * sm xs 1 2 ∧ (prV xs).2.2 * sm xs 0 2 = (prV xs).1 * sm xs 1 2 + (prV xs).2.1 * sm xs 2 2 := by
  obtain ⟨e1, e2, e3, hg, _⟩ := prV_gcd hd
  obtain ⟨c1, c2⟩ := cramer xs
  rw [← e1, ← e2, ← e3] at c1 c2
  have hgp : (prG xs : Int) ≠ 0 := by omega
  constructor
  · exact Int.eq_of_mul_eq_mul_left hgp (by rw [Int.mul_add, ← Int.mul_assoc, ← Int.mul_assoc, ← Int.mul_assoc]; exact c1)
  · exact Int.eq_of_mul_eq_mul_left hgp (by rw [Int.mul_add, ← Int.mul_assoc, ← Int.mul_assoc, ← Int.mul_assoc]; exact c2)
theorem chk_own {xs : List Int} (hk : (chkS xs).2 = 0) (hd : detS xs ≠ 0) : prdE (prV xs).1 (prV xs).2.1 (prV xs).2.2 = 0 ∧ chkP xs (prV xs).1 (prV xs).2.1 (prV xs).2.2 = (0, 0) := by
  obtain ⟨b1, b2, b3⟩ := prV_bd hk hd
  obtain ⟨_, _, _, _, h1⟩ := prV_gcd hd
  obtain ⟨q1, q2⟩ := prV_eqs hd
  have e1 : prdE (prV xs).1 (prV xs).2.1 (prV xs).2.2 = 0 := by
    unfold prdE prdBad
    rw [inB_true.2 b1, inB_true.2 b2, inB_true.2 b3, h1]; rfl
  refine ⟨e1, ?_⟩
  have e2 : chkP0 xs (prV xs).1 (prV xs).2.1 (prV xs).2.2 = 0 := by unfold chkP0; rw [fst2, if_pos hk, e1]
  unfold chkP
  rw [if_neg (by simpa using e2), if_neg (by simpa using q1), if_neg (by simpa using q2), bneT hd]
  rfl
theorem chk_oth {xs : List Int} (hk : (chkS xs).2 = 0) (hd : detS xs ≠ 0) (a b : Int) (hp : prdE a b (prV xs).2.2 = 0) (h : (a = (prV xs).1 + 1 ∧ b = (prV xs).2.1) ∨ (a = (prV xs).1 ∧ b = (prV xs).2.1 - 1)) : (chkP xs a b (prV xs).2.2).2 = 19 := by
  obtain ⟨q1, q2⟩ := prV_eqs hd
  have e2 : chkP0 xs a b (prV xs).2.2 = 0 := by unfold chkP0; rw [fst2, if_pos hk, hp]
  have hD : detS xs = sm xs 1 1 * sm xs 2 2 - sm xs 1 2 * sm xs 1 2 := rfl
  have h0 := det_nonneg xs
  unfold chkP
  rw [if_neg (by simpa using e2)]
  by_cases g1 : (prV xs).2.2 * sm xs 0 1 = a * sm xs 1 1 + b * sm xs 1 2
  · rw [if_neg (by simpa using g1)]
    by_cases g2 : (prV xs).2.2 * sm xs 0 2 = a * sm xs 1 2 + b * sm xs 2 2
    · exfalso
      rw [q1] at g1
      rw [q2] at g2
      have hsq := sq_nonneg' (sm xs 1 2)
      generalize (prV xs).1 = a' at *
      generalize (prV xs).2.1 = b' at *
      generalize sm xs 1 1 = s11 at *
      generalize sm xs 1 2 = s12 at *
      generalize sm xs 2 2 = s22 at *
      rcases h with ⟨rfl, rfl⟩ | ⟨rfl, rfl⟩
      · have : s11 = 0 := by grind
        rw [this, Int.zero_mul] at hD
        omega
      · have : s22 = 0 := by grind
        rw [this, Int.mul_zero] at hD
        omega
    · rw [if_pos g2]
  · rw [if_pos g1]

end Go.Proofs.Ytgbckdmhmkpahaa

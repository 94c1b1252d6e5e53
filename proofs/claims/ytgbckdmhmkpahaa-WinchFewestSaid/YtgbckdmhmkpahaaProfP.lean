/-
  Profiles (chapter 2), in plain words: the program's greatest speed is the reference's.
-/
import Derived.Test.YtgbckdmhmkpahaaRefProf2
set_option linter.unusedVariables false
namespace Go.Proofs.Ytgbckdmhmkpahaa
open Go.RowKit Go.Shelf

theorem nearTo_zero (st : Int) (h : 0 ≤ st) : ∀ k, nearTo st 0 k = 0
  | 0 => rfl
  | k + 1 => by
    have h1 : 0 ≤ ((k : Int) + 1) * st := Int.mul_nonneg (by omega) h
    simp only [nearTo, nearTo_zero st h k]; omega
theorem nearTo_nonneg (st fr : Int) : ∀ k, 0 ≤ nearTo st fr k
  | 0 => Int.le_refl _
  | k + 1 => by have := nearTo_nonneg st fr k; simp only [nearTo]; omega
theorem far_step {sp st last : Int} (h2 : 0 ≤ st) (n : Nat) (top : Int) (ht : top = min sp (min (last + st) (((n : Int) + 1) * st))) : ∀ k : Nat, k ≤ n → farTo sp st last ((n : Int) + 1) (k + 1) = top + farTo sp st top n k
  | 0, _ => by
    simp only [farTo]
    have e1 : (((0 : Nat) : Int) + 1) * st = st := by simp
    have e2 : ((n : Int) + 1 - ((0 : Nat) : Int)) * st = ((n : Int) + 1) * st := by simp
    rw [e1, e2]; omega
  | k + 1, hk => by
    have ih := far_step h2 n top ht k (by omega)
    have e : farTo sp st last ((n : Int) + 1) (k + 1 + 1) = farTo sp st last ((n : Int) + 1) (k + 1) + min sp (min (last + (((k + 1 : Nat) : Int) + 1) * st) (((n : Int) + 1 - ((k + 1 : Nat) : Int)) * st)) := rfl
    have f : farTo sp st top n (k + 1) = farTo sp st top n k + min sp (min (top + ((k : Int) + 1) * st) (((n : Int) - k) * st)) := rfl
    rw [e, f, ih]
    have a1 : (((k + 1 : Nat) : Int) + 1) * st = ((k : Int) + 1) * st + st := by push_cast; rw [Int.add_mul ((k : Int) + 1) 1 st, Int.one_mul]
    have a2 : ((n : Int) + 1 - ((k + 1 : Nat) : Int)) * st = ((n : Int) - k) * st := by congr 1; push_cast; omega
    have a3 : ((n : Int) + 1) * st = ((n : Int) - k) * st + ((k : Int) + 1) * st := by rw [← Int.add_mul]; congr 1; omega
    have a4 : 0 ≤ ((k : Int) + 1) * st := Int.mul_nonneg (by omega) h2
    rw [a1, a2]
    rw [a3] at ht
    omega
theorem near_far {sp st v : Int} (h2 : 1 ≤ st) (h3 : 0 ≤ v) (n : Nat) (h4 : v + 1 ≤ sp) (h5 : v + 1 ≤ ((n : Int) + 1) * st) : ∀ k : Nat, k ≤ n → nearTo st (v + 1) k ≤ farTo sp st v n k
  | 0, _ => Int.le_refl _
  | k + 1, hk => by
    have ih := near_far h2 h3 n h4 h5 k (by omega)
    simp only [nearTo, farTo]
    have a3 : ((n : Int) + 1) * st = ((n : Int) - k) * st + ((k : Int) + 1) * st := by rw [← Int.add_mul]; congr 1; omega
    have a4 : 1 * 1 ≤ ((k : Int) + 1) * st := Int.mul_le_mul (by omega) h2 (by omega) (by omega)
    have a5 : 0 ≤ ((n : Int) - k) * st := Int.mul_nonneg (by omega) (by omega)
    rw [a3] at h5
    omega
theorem vFind_spec (st d : Int) (n : Nat) : ∀ t, vFind st d n t ≤ t ∧ (vFind st d n t ≠ 0 → nearTo st (vFind st d n t : Int) n ≤ d - (vFind st d n t : Int)) ∧ ∀ u, vFind st d n t < u → u ≤ t → d - (u : Int) < nearTo st (u : Int) n
  | 0 => ⟨Nat.le_refl _, fun h => absurd rfl h, fun u h1 h2 => by simp [vFind] at h1; omega⟩
  | t + 1 => by
    obtain ⟨i1, i2, i3⟩ := vFind_spec st d n t
    by_cases h : d - ((t : Int) + 1) < nearTo st ((t : Int) + 1) n
    · have e : vFind st d n (t + 1) = vFind st d n t := by rw [vFind, if_pos h]
      rw [e]
      refine ⟨by omega, i2, fun u h1 h2 => ?_⟩
      by_cases hu : u = t + 1
      · subst hu; push_cast; exact h
      · exact i3 u h1 (by omega)
    · have e : vFind st d n (t + 1) = t + 1 := by rw [vFind, if_neg h]
      rw [e]
      refine ⟨Nat.le_refl _, fun _ => by push_cast; omega, fun u h1 h2 => by omega⟩
theorem fFind_eq (sp st d : Int) (n v : Nat) : ∀ t, v ≤ t → (v ≠ 0 → fitP sp st v n (d - v) = true) → (∀ u : Nat, v < u → u ≤ t → fitP sp st u n (d - u) = false) → fFind sp st d n t = v
  | 0, h1, _, _ => by
    have : v = 0 := by omega
    subst this; rfl
  | t + 1, h1, h2, h3 => by
    by_cases hv : v = t + 1
    · have h4 := h2 (by omega)
      rw [hv] at h4 ⊢
      push_cast at h4
      rw [fFind, if_pos h4]
    · have h4 := h3 (t + 1) (by omega) (Nat.le_refl _)
      push_cast at h4
      rw [fFind, if_neg (by rw [h4]; decide)]
      exact fFind_eq sp st d n v t (by omega) h2 (fun u a b => h3 u a (by omega))

theorem prof_eq {sp st : Int} (h1 : 1 ≤ sp) (h2 : 1 ≤ st) : ∀ (n : Nat) (last d : Int), 0 ≤ last → last ≤ sp → 0 ≤ d → d ≤ farTo sp st last n n → profP sp st n last d = refProfP sp st n last d
  | 0, _, _, _, _, _, _ => rfl
  | n + 1, last, d, l1, l2, d1, d2 => by
    have hc : 0 ≤ ((n : Int) + 1) * st := Int.mul_nonneg (by omega) (by omega)
    have ht : (vTop sp st last n : Int) = min sp (min (last + st) (((n : Int) + 1) * st)) := by unfold vTop; omega
    have hf : (fTop sp st last : Int) = min sp (last + st) := by unfold fTop; omega
    obtain ⟨s1, s2, s3⟩ := vFind_spec st d n (vTop sp st last n)
    have hfar := far_step (sp := sp) (st := st) (last := last) (by omega) n _ ht n (Nat.le_refl _)
    push_cast at d2
    rw [hfar] at d2
    have hnf := fun (v : Int) (a : 0 ≤ v) (b : v + 1 ≤ sp) (e : v + 1 ≤ ((n : Int) + 1) * st) => near_far (sp := sp) (st := st) (v := v) h2 a n b e n (Nat.le_refl _)
    generalize htop : vTop sp st last n = top at *
    generalize hv : vFind st d n top = v at *
    have a : nearTo st (v : Int) n ≤ d - v := by
      by_cases h0 : v = 0
      · have h6 : nearTo st ((0 : Nat) : Int) n = 0 := nearTo_zero st (by omega) n
        rw [h0, h6]; push_cast; omega
      · exact s2 h0
    have b : d - v ≤ farTo sp st v n n := by
      by_cases hvt : v = top
      · rw [hvt]; omega
      · have h4 := s3 (v + 1) (by omega) (by omega)
        push_cast at h4
        have h5 := hnf v (by omega) (by omega) (by omega)
        omega
    have hfit : fitP sp st v n (d - v) = true := by
      unfold fitP
      have e1 : (v : Int) ≤ st * ((n : Int) + 1) := by rw [Int.mul_comm]; omega
      simp [e1, a, b]
    have hF : fFind sp st d n (fTop sp st last) = v := by
      refine fFind_eq sp st d n v _ (by omega) (fun _ => hfit) (fun u h4 h5 => ?_)
      unfold fitP
      by_cases hut : u ≤ top
      · have h6 := s3 u h4 hut
        have : decide (nearTo st (u : Int) n ≤ d - u) = false := decide_eq_false (by omega)
        simp [this]
      · have : decide ((u : Int) ≤ st * ((n : Int) + 1)) = false := decide_eq_false (by rw [Int.mul_comm]; omega)
        simp [this]
    have hn := nearTo_nonneg st (v : Int) n
    rw [profP, refProfP, hF]
    rw [htop, hv]
    rw [prof_eq h1 h2 n v (d - v) (by omega) (by omega) (by omega) b]

theorem tickFrom_far (sp st d : Int) : ∀ (f k : Nat), (tickFrom sp st d f k).2 = 0 → ∃ n : Nat, (tickFrom sp st d f k).1 = n ∧ d ≤ farTo sp st 0 n n
  | 0, k, h => by simp [tickFrom] at h
  | f + 1, k, h => by
    unfold tickFrom at h ⊢
    split
    · rename_i h1; exact ⟨k, rfl, h1⟩
    · rename_i h1
      rw [if_neg h1] at h
      exact tickFrom_far sp st d f (k + 1) h

end Go.Proofs.Ytgbckdmhmkpahaa

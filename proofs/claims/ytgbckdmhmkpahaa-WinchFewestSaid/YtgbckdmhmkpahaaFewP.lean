/-
  The fewest ticks (chapter 2), in plain words.
-/
import Derived.Test.YtgbckdmhmkpahaaProfP
import Derived.Test.YtgbckdmhmkpahaaChkProf
set_option linter.unusedVariables false
namespace Go.Proofs.Ytgbckdmhmkpahaa
open Go.RowKit Go.Shelf

theorem near_step {st last u : Int} (h2 : 0 ≤ st) (hu : u = max 0 (last - st)) : ∀ k : Nat, nearTo st last (k + 1) = u + nearTo st u k
  | 0 => by
    have e : nearTo st last (0 + 1) = 0 + max 0 (last - (((0 : Nat) : Int) + 1) * st) := rfl
    have e1 : (((0 : Nat) : Int) + 1) * st = st := by simp
    have e2 : nearTo st u 0 = 0 := rfl
    rw [e, e1, e2]; omega
  | k + 1 => by
    have ih := near_step h2 hu k
    have e : nearTo st last (k + 1 + 1) = nearTo st last (k + 1) + max 0 (last - (((k + 1 : Nat) : Int) + 1) * st) := rfl
    have f : nearTo st u (k + 1) = nearTo st u k + max 0 (u - ((k : Int) + 1) * st) := rfl
    have a1 : (((k + 1 : Nat) : Int) + 1) * st = ((k : Int) + 1) * st + st := by push_cast; rw [Int.add_mul ((k : Int) + 1) 1 st, Int.one_mul]
    have a4 : 0 ≤ ((k : Int) + 1) * st := Int.mul_nonneg (by omega) h2
    rw [e, f, ih, a1]
    omega
theorem far_mono {sp st fr sp' st' fr' : Int} (h1 : sp ≤ sp') (h2 : st ≤ st') (h3 : fr ≤ fr') (n : Nat) : ∀ k : Nat, k ≤ n → farTo sp st fr n k ≤ farTo sp' st' fr' n k
  | 0, _ => Int.le_refl _
  | k + 1, hk => by
    have ih := far_mono h1 h2 h3 n k (by omega)
    have a1 : ((k : Int) + 1) * st ≤ ((k : Int) + 1) * st' := Int.mul_le_mul_of_nonneg_left h2 (by omega)
    have a2 : ((n : Int) - k) * st ≤ ((n : Int) - k) * st' := Int.mul_le_mul_of_nonneg_left h2 (by omega)
    simp only [farTo]
    omega
theorem near_mono {st fr fr' : Int} (h3 : fr ≤ fr') : ∀ k : Nat, nearTo st fr k ≤ nearTo st fr' k
  | 0 => Int.le_refl _
  | k + 1 => by
    have ih := near_mono (st := st) h3 k
    simp only [nearTo]
    omega
theorem tickFrom_le (sp st d : Int) (m : Nat) (hm : d ≤ farTo sp st 0 m m) : ∀ (f k : Nat), k ≤ m → m < k + f → (tickFrom sp st d f k).2 = 0 ∧ (tickFrom sp st d f k).1 ≤ (m : Int)
  | 0, k, h1, h2 => by omega
  | f + 1, k, h1, h2 => by
    unfold tickFrom
    split
    · exact ⟨rfl, by dsimp only; omega⟩
    · rename_i h3
      have : k ≠ m := by intro e; subst e; exact h3 hm
      exact tickFrom_le sp st d m hm f (k + 1) (by omega) (by omega)

/-- The speed that ProfileFor takes. -/
theorem v_step {sp st last d : Int} (h1 : 1 ≤ sp) (h2 : 1 ≤ st) (n : Nat) (l1 : 0 ≤ last) (l2 : last ≤ sp) (d1 : 0 ≤ d) (d2 : d ≤ farTo sp st last ((n : Int) + 1) (n + 1)) :
    ∃ v : Nat, vFind st d n (vTop sp st last n) = v ∧ (v : Int) ≤ min sp (min (last + st) (((n : Int) + 1) * st)) ∧ nearTo st (v : Int) n ≤ d - v ∧ d - v ≤ farTo sp st v n n ∧ ∀ u : Nat, v < u → (u : Int) ≤ min sp (min (last + st) (((n : Int) + 1) * st)) → d - (u : Int) < nearTo st (u : Int) n := by
  have hc : 0 ≤ ((n : Int) + 1) * st := Int.mul_nonneg (by omega) (by omega)
  have ht : (vTop sp st last n : Int) = min sp (min (last + st) (((n : Int) + 1) * st)) := by unfold vTop; omega
  obtain ⟨s1, s2, s3⟩ := vFind_spec st d n (vTop sp st last n)
  have hfar := far_step (sp := sp) (st := st) (last := last) (by omega) n _ ht n (Nat.le_refl _)
  rw [hfar] at d2
  have hnf := fun (v : Int) (a : 0 ≤ v) (b : v + 1 ≤ sp) (e : v + 1 ≤ ((n : Int) + 1) * st) => near_far (sp := sp) (st := st) (v := v) h2 a n b e n (Nat.le_refl _)
  refine ⟨vFind st d n (vTop sp st last n), rfl, ?_, ?_, ?_, ?_⟩
  all_goals generalize vTop sp st last n = top at *
  all_goals generalize vFind st d n top = v at *
  · omega
  · by_cases h0 : v = 0
    · have h6 : nearTo st ((0 : Nat) : Int) n = 0 := nearTo_zero st (by omega) n
      rw [h0, h6]; push_cast; omega
    · exact s2 h0
  · by_cases hvt : v = top
    · rw [hvt]; omega
    · have h4 := s3 (v + 1) (by omega) (by omega)
      push_cast at h4
      have h5 := hnf v (by omega) (by omega) (by omega)
      omega
  · intro u h4 h5
    exact s3 u h4 (by omega)

/-- What ProfileFor answers is accepted. -/
theorem prof_ok {sp st : Int} (h1 : 1 ≤ sp) (h2 : 1 ≤ st) : ∀ (n : Nat) (last d sum i : Int), 0 ≤ last → last ≤ sp → last ≤ ((n : Int) + 1) * st → nearTo st last n ≤ d → d ≤ farTo sp st last n n → chkFrom sp st last sum i (profP sp st n last d) = (sum + d, 0)
  | 0, last, d, sum, i, l1, l2, l3, d1, d2 => by
    have e1 : nearTo st last 0 = 0 := rfl
    have e2 : farTo sp st last ((0 : Nat) : Int) 0 = 0 := rfl
    rw [e1] at d1; rw [e2] at d2
    have : ¬ st < last := by simp at l3; omega
    rw [profP, chkFrom, if_neg this, show sum + d = sum by omega]
  | n + 1, last, d, sum, i, l1, l2, l3, d1, d2 => by
    have hn0 := nearTo_nonneg st last (n + 1)
    push_cast at d2 l3
    obtain ⟨v, hv, v1, v2, v3, v4⟩ := v_step h1 h2 n l1 l2 (by omega) d2
    have hns := near_step (st := st) (last := last) (by omega) rfl n
    have hlow : last - st ≤ v := by
      rcases Int.lt_or_le (v : Int) (last - st) with h | h
      · exfalso
        have a : ((last - st).toNat : Int) = last - st := by omega
        have e3 : ((n : Int) + 1 + 1) * st = ((n : Int) + 1) * st + st := by rw [Int.add_mul ((n : Int) + 1) 1 st, Int.one_mul]
        rw [e3] at l3
        have h5 := v4 (last - st).toNat (by omega) (by omega)
        rw [a] at h5
        rw [show max 0 (last - st) = last - st by omega] at hns
        omega
      · exact h
    have i1 : inB (v : Int) 0 sp = true := inB_true.2 (by omega)
    have i2 : inB ((v : Int) - last) (-st) st = true := inB_true.2 (by omega)
    rw [profP, hv, chkFrom, if_neg (by simp [i1]), if_neg (by simp [i2])]
    rw [prof_ok h1 h2 n v (d - v) (sum + v) (i + 1) (by omega) (by omega) (by omega) v2 v3]
    rw [show sum + (v : Int) + (d - v) = sum + d by omega]

/-- What an accepted profile is. -/
theorem chk_bd {sp st : Int} (h1 : 1 ≤ sp) (h2 : 1 ≤ st) : ∀ (l : List Int) (last sum i N : Int), 0 ≤ last → last ≤ sp → chkFrom sp st last sum i l = (N, 0) → N - sum ≤ farTo sp st last l.length l.length ∧ last ≤ ((l.length : Int) + 1) * st ∧ nearTo st last l.length ≤ N - sum
  | [], last, sum, i, N, l1, l2, h => by
    rw [chkFrom] at h
    by_cases hs : st < last
    · rw [if_pos hs] at h; simp at h
    · rw [if_neg hs] at h
      obtain rfl : sum = N := by simpa using h
      have e1 : nearTo st last ([] : List Int).length = 0 := rfl
      have e2 : farTo sp st last (([] : List Int).length : Nat) ([] : List Int).length = 0 := rfl
      rw [e1, e2]
      simp; omega
  | v :: l, last, sum, i, N, l1, l2, h => by
    rw [chkFrom] at h
    by_cases hv : inB v 0 sp = false
    · rw [if_pos hv] at h; simp at h
    · rw [if_neg hv] at h
      by_cases hw : inB (v - last) (-st) st = false
      · rw [if_pos hw] at h; simp at h
      · rw [if_neg hw] at h
        have j1 := inB_true.1 (by simpa using hv)
        have j2 := inB_true.1 (show inB (v - last) (-st) st = true by simpa using hw)
        obtain ⟨a, b, e⟩ := chk_bd h1 h2 l v (sum + v) (i + 1) N (by omega) (by omega) h
        have hc : 0 ≤ ((l.length : Int) + 1) * st := Int.mul_nonneg (by omega) (by omega)
        have hfar := far_step (sp := sp) (st := st) (last := last) (by omega) l.length _ rfl l.length (Nat.le_refl _)
        have hns := near_step (st := st) (last := last) (by omega) rfl l.length
        have m1 := far_mono (sp := sp) (st := st) (sp' := sp) (st' := st) (fr := v) (fr' := min sp (min (last + st) (((l.length : Int) + 1) * st))) (Int.le_refl _) (Int.le_refl _) (by omega) l.length l.length (Nat.le_refl _)
        have m2 := near_mono (st := st) (fr := max 0 (last - st)) (fr' := v) (by omega) l.length
        have e3 : ((l.length : Int) + 1 + 1) * st = ((l.length : Int) + 1) * st + st := by rw [Int.add_mul ((l.length : Int) + 1) 1 st, Int.one_mul]
        simp only [List.length_cons]
        push_cast
        rw [hfar, hns, e3]
        omega

def befL : List Int → List Int → Bool
  | [], [] => false
  | [], _ :: _ => true
  | _ :: _, [] => false
  | x :: a, y :: b => if x ≠ y then decide (x < y) else befL a b
/-- No accepted profile of as many speeds is greater. -/
theorem best_not {sp st : Int} (h1 : 1 ≤ sp) (h2 : 1 ≤ st) : ∀ (l : List Int) (last sum i N : Int), 0 ≤ last → last ≤ sp → chkFrom sp st last sum i l = (N, 0) → befL (profP sp st l.length last (N - sum)) l = false
  | [], last, sum, i, N, l1, l2, h => rfl
  | v :: l, last, sum, i, N, l1, l2, h => by
    have hall := chk_bd h1 h2 (v :: l) last sum i N l1 l2 h
    rw [chkFrom] at h
    by_cases hv : inB v 0 sp = false
    · rw [if_pos hv] at h; simp at h
    · rw [if_neg hv] at h
      by_cases hw : inB (v - last) (-st) st = false
      · rw [if_pos hw] at h; simp at h
      · rw [if_neg hw] at h
        have j1 := inB_true.1 (by simpa using hv)
        have j2 := inB_true.1 (show inB (v - last) (-st) st = true by simpa using hw)
        obtain ⟨a, b, e⟩ := chk_bd h1 h2 l v (sum + v) (i + 1) N (by omega) (by omega) h
        obtain ⟨c1, c2, c3⟩ := hall
        have hn0 := nearTo_nonneg st last (v :: l).length
        simp only [List.length_cons] at c1 c3 hn0
        push_cast at c1
        obtain ⟨q, hq, q1, q2, q3, q4⟩ := v_step (sp := sp) (st := st) (last := last) (d := N - sum) h1 h2 l.length l1 l2 (by omega) c1
        have hle : v ≤ q := by
          rcases Int.lt_or_le (q : Int) v with h' | h'
          · exfalso
            have a1 : (v.toNat : Int) = v := by omega
            have h5 := q4 v.toNat (by omega) (by omega)
            rw [a1] at h5; omega
          · exact h'
        simp only [List.length_cons]
        rw [profP, hq, befL]
        by_cases hqv : (q : Int) = v
        · rw [if_neg (by simpa using hqv)]
          have := best_not h1 h2 l v (sum + v) (i + 1) N (by omega) (by omega) h
          rw [hqv, show N - sum - v = N - (sum + v) by omega]
          exact this
        · rw [if_pos hqv]
          exact decide_eq_false (by omega)

end Go.Proofs.Ytgbckdmhmkpahaa

/-
  What the law WinchFewest asks of the answers (chapter 2), in plain words.
-/
import Derived.Test.YtgbckdmhmkpahaaFewP
set_option linter.unusedVariables false
namespace Go.Proofs.Ytgbckdmhmkpahaa
open Go.RowKit Go.Shelf

theorem profP_len (sp st : Int) : ∀ (n : Nat) (l d : Int), (profP sp st n l d).length = n
  | 0, _, _ => rfl
  | n + 1, l, d => by simp [profP, profP_len sp st n]
theorem limE_z {sp st : Int} (h1 : 1 ≤ sp ∧ sp ≤ 100) (h2 : 1 ≤ st ∧ st ≤ 100) : limE sp st = 0 := by
  unfold limE; rw [inB_true.2 h1, inB_true.2 h2]; rfl
theorem dstE_z {d : Int} (h : 0 ≤ d ∧ d ≤ 10000) : dstE d = 0 := by
  unfold dstE; rw [inB_true.2 h]; rfl
theorem tks_in {sp st d : Int} (hl : limE sp st = 0) (hd : dstE d = 0) : tksP sp st d = tickP sp st d := by
  have e2 : tkE sp st d = 0 := by unfold tkE; rw [fst2, if_pos hl, hd]
  unfold tksP; rw [if_neg (by simpa using e2)]
theorem few_A {sp st d : Int} (hl : limE sp st = 0) (hd : dstE d = 0) : prfE sp st d = (tksP sp st d).2 ∧ ((tksP sp st d).2 = 0 ∨ (tksP sp st d).2 = 8) := by
  refine ⟨rfl, ?_⟩
  rw [tks_in hl hd]
  rcases tickFrom_b sp st d 201 0 with h | h
  · exact .inl h
  · exact .inr (by unfold tickP; rw [h])
theorem few_yes {sp st d : Int} {m : Nat} (hl : limE sp st = 0) (hd : dstE d = 0) (hm : d ≤ farTo sp st 0 m m) (hm2 : m ≤ 200) : (tksP sp st d).2 = 0 ∧ (tksP sp st d).1 ≤ (m : Int) := by
  rw [tks_in hl hd]
  exact tickFrom_le sp st d m hm 201 0 (by omega) (by omega)
theorem few_B {sp st d ls : Int} (hl : limE sp st = 0) (hd : dstE d = 0) (h1 : 0 ≤ ls) (h2 : ls ≤ d) (h0 : (tksP sp st d).2 = 0) :
    cpfP sp st (prfL sp st d) = (d, 0) ∧ ((prfL sp st d).length : Int) = (tksP sp st d).1 ∧ (tksP sp st ls).2 = 0 ∧ (tksP sp st ls).1 ≤ (tksP sp st d).1 ∧ (tksP (min 100 (sp + 1)) (min 100 (st + 1)) d).2 = 0 ∧ (tksP (min 100 (sp + 1)) (min 100 (st + 1)) d).1 ≤ (tksP sp st d).1 ∧ (prfL sp st d).length ≤ 200 := by
  have l := limE_ok hl
  have dd := dstE_ok hd
  rw [tks_in hl hd] at h0
  obtain ⟨n, hn1, hn2⟩ := tickFrom_ok sp st d 201 0 h0
  obtain ⟨n', hn3, hn4⟩ := tickFrom_far sp st d 201 0 h0
  have hnn : n' = n := by have := hn3.symm.trans hn1; omega
  subst hnn
  have e1 : (tksP sp st d).1 = (n' : Int) := by rw [tks_in hl hd]; exact hn1
  have e2 : prfE sp st d = 0 := by unfold prfE; rw [tks_in hl hd]; exact h0
  have e3 : prfL sp st d = profP sp st n' 0 d := by unfold prfL; rw [if_neg (by simpa using e2), e1]; rfl
  rw [e1, e3, profP_len]
  have hm := few_yes (sp := sp) (st := st) (d := ls) (m := n') hl (dstE_z (by omega)) (by omega) (by omega)
  have hf := far_mono (sp := sp) (st := st) (fr := 0) (sp' := min 100 (sp + 1)) (st' := min 100 (st + 1)) (fr' := 0) (by omega) (by omega) (by omega) n' n' (Nat.le_refl _)
  have hb := few_yes (sp := min 100 (sp + 1)) (st := min 100 (st + 1)) (d := d) (m := n') (limE_z (by omega) (by omega)) hd (by omega) (by omega)
  refine ⟨?_, rfl, hm.1, hm.2, hb.1, hb.2, by omega⟩
  have e4 : cpf0 sp st (profP sp st n' 0 d) = 0 := by
    unfold cpf0; rw [fst2, if_pos hl, profP_len, decide_eq_true (by omega)]; rfl
  unfold cpfP
  rw [if_neg (by simpa using e4)]
  have hz : 0 ≤ ((n' : Int) + 1) * st := Int.mul_nonneg (by omega) (by omega)
  rw [prof_ok (by omega) (by omega) n' 0 d 0 0 (by omega) (by omega) hz (by rw [nearTo_zero st (by omega)]; omega) hn4]
  simp
theorem few_C {sp st N : Int} {xs : List Int} (hl : limE sp st = 0) (hx : cpfP sp st xs = (N, 0)) (hN : N ≤ 10000) :
    dstE N = 0 ∧ (tksP sp st N).2 = 0 ∧ (tksP sp st N).1 ≤ (xs.length : Int) ∧ ((tksP sp st N).1 = (xs.length : Int) → befL (prfL sp st N) xs = false) ∧ (prfL sp st N).length ≤ 200 := by
  have l := limE_ok hl
  have h0 : cpf0 sp st xs = 0 := by
    by_cases h : cpf0 sp st xs = 0
    · exact h
    · unfold cpfP at hx; rw [if_pos h] at hx
      have := congrArg Prod.snd hx
      exact absurd this h
  have hlen : xs.length ≤ 200 := by
    have e := h0
    unfold cpf0 at e
    rw [fst2, if_pos hl] at e
    by_cases h : (xs.length : Int) ≤ 200
    · omega
    · rw [decide_eq_false h] at e; cases e
  unfold cpfP at hx
  rw [if_neg (by simpa using h0)] at hx
  obtain ⟨a, b, e⟩ := chk_bd (by omega) (by omega) xs 0 0 0 N (by omega) (by omega) hx
  have hn0 := nearTo_nonneg st 0 xs.length
  have hd : dstE N = 0 := dstE_z (by omega)
  have hf := few_yes (sp := sp) (st := st) (d := N) (m := xs.length) hl hd (by omega) hlen
  have e2 : prfE sp st N = 0 := hf.1
  have e3 : prfL sp st N = profP sp st (tksP sp st N).1.toNat 0 N := by unfold prfL; rw [if_neg (by simpa using e2)]
  refine ⟨hd, hf.1, hf.2, fun h => ?_, by rw [e3, profP_len]; omega⟩
  rw [e3, h]
  have := best_not (sp := sp) (st := st) (by omega) (by omega) xs 0 0 0 N (by omega) (by omega) hx
  simpa using this

end Go.Proofs.Ytgbckdmhmkpahaa

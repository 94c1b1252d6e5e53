/-
  What a step, and a run, of a loop are (chapter 2), in plain words.
-/
import Derived.Test.YtgbckdmhmkpahaaReachP
import Derived.Test.YtgbckdmhmkpahaaLoops2
import Derived.Test.YtgbckdmhmkpahaaSortW
set_option linter.unusedVariables false
namespace Go.Proofs.Ytgbckdmhmkpahaa
open Go.RowKit Go.Shelf

/-- The error of a state; the next state after any heave. -/
def stE (T : List Int) (lo hi : Int) (s : St3) : Int := unl (inB s.1 (-(T.length / 2 : Nat)) (T.length / 2 : Nat) && inB s.2.1 (-10) 10 && inB s.2.2 lo hi) 2
def stpP (T : List Int) (lo hi turn slew : Int) (s : St3) (h : Int) : St3 × Int :=
  if inB h lo hi = false then ((0, 0, 0), 6)
  else if inB (h - s.2.2) (-turn) turn = false then ((0, 0, 0), 13)
  else if nxW T slew s.1 s.2.1 h = false then ((0, 0, 0), 22)
  else ((nxE T slew s.1 s.2.1 h, nxC T slew s.1 s.2.1, h), 0)
def nxtP (T : List Int) (lo hi turn slew : Int) (s : St3) (h : Int) : St3 × Int :=
  if (chkL T lo hi turn slew).2 ≠ 0 then ((0, 0, 0), (chkL T lo hi turn slew).2)
  else if stE T lo hi s ≠ 0 then ((0, 0, 0), stE T lo hi s)
  else stpP T lo hi turn slew s h
/-- The states of a run. -/
def runA (T : List Int) (lo hi turn slew : Int) : St3 → List St3 → List Int → List St3 × Int
  | _, out, [] => (out, 0)
  | s, out, h :: hs => if (stpP T lo hi turn slew s h).2 ≠ 0 then ([], (stpP T lo hi turn slew s h).2) else runA T lo hi turn slew (stpP T lo hi turn slew s h).1 (out ++ [(stpP T lo hi turn slew s h).1]) hs

def StV (T : List Int) (lo hi : Int) (s : St3) : Prop := -((T.length / 2 : Nat) : Int) ≤ s.1 ∧ s.1 ≤ (T.length / 2 : Nat) ∧ -10 ≤ s.2.1 ∧ s.2.1 ≤ 10 ∧ lo ≤ s.2.2 ∧ s.2.2 ≤ hi
theorem stE_v {T : List Int} {lo hi : Int} {s : St3} (h : stE T lo hi s = 0) : StV T lo hi s := by
  unfold stE at h
  rw [unl_ne _ _ (by omega)] at h
  simp only [Bool.and_eq_true] at h
  have h1 := inB_true.1 h.1.1; have h2 := inB_true.1 h.1.2; have h3 := inB_true.1 h.2
  exact ⟨h1.1, h1.2, h2.1, h2.2, h3.1, h3.2⟩
theorem stp_v {T : List Int} {lo hi turn slew : Int} {s : St3} {h : Int} (hs : StV T lo hi s) (hx : ∀ y ∈ T, -10 ≤ y ∧ y ≤ 10) (h0 : 0 ≤ slew) (hodd : T.length % 2 = 1) (he : (stpP T lo hi turn slew s h).2 = 0) : StV T lo hi (stpP T lo hi turn slew s h).1 := by
  obtain ⟨a1, a2, a3, a4, a5, a6⟩ := hs
  unfold stpP at he ⊢
  split at he
  · cases he
  · rename_i h1
    rw [if_neg h1]
    split at he
    · cases he
    · rename_i h2
      rw [if_neg h2]
      split at he
      · cases he
      · rename_i h3
        rw [if_neg h3]
        have h1' := inB_true.1 (by simpa using h1)
        have h3' := inB_true.1 (show inB (nxE T slew s.1 s.2.1 h) (-(T.length / 2 : Nat)) (T.length / 2 : Nat) = true by simpa [nxW] using h3)
        have hb := nxC_box (T := T) (slew := slew) (e := s.1) (cmd := s.2.1) hx h0 (by omega) (by omega) a3 a4
        exact ⟨h3'.1, h3'.2, hb.1, hb.2, h1'.1, h1'.2⟩
theorem st0_v {T : List Int} {lo hi : Int} (h5 : -4 ≤ lo ∧ lo ≤ 0) (h6 : 0 ≤ hi ∧ hi ≤ 4) : StV T lo hi (0, 0, 0) := by
  refine ⟨?_, ?_, ?_, ?_, ?_, ?_⟩ <;> dsimp only <;> omega
/-- A run that goes on. -/
theorem runA_ok {T : List Int} {lo hi turn slew : Int} {s : St3} {out : List St3} {h : Int} {hs : List Int} (he : (stpP T lo hi turn slew s h).2 = 0) : runA T lo hi turn slew s out (h :: hs) = runA T lo hi turn slew (stpP T lo hi turn slew s h).1 (out ++ [(stpP T lo hi turn slew s h).1]) hs := by
  rw [runA, if_neg (by simpa using he)]
theorem runA_no {T : List Int} {lo hi turn slew : Int} {s : St3} {out : List St3} {h : Int} {hs : List Int} (he : (stpP T lo hi turn slew s h).2 ≠ 0) : runA T lo hi turn slew s out (h :: hs) = ([], (stpP T lo hi turn slew s h).2) := by
  rw [runA, if_pos he]

end Go.Proofs.Ytgbckdmhmkpahaa

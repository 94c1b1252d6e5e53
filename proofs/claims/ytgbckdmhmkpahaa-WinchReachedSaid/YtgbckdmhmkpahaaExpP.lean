/-
  The reference's search (chapter 2), in plain words: numbers of states, and what the search has found.
-/
import Derived.Test.YtgbckdmhmkpahaaSmall
import Derived.Test.YtgbckdmhmkpahaaStepP
import Derived.Test.YtgbckdmhmkpahaaExp1
import Derived.Test.YtgbckdmhmkpahaaCls2
set_option linter.unusedVariables false
namespace Go.Proofs.Ytgbckdmhmkpahaa

theorem ht_cases {h : Int} (hh : 1 ≤ h ∧ h ≤ 9) : h = 1 ∨ h = 2 ∨ h = 3 ∨ h = 4 ∨ h = 5 ∨ h = 6 ∨ h = 7 ∨ h = 8 ∨ h = 9 := by omega
theorem num_rng {T : List Int} {lo hi : Int} (hodd : T.length % 2 = 1) (h1 : -4 ≤ lo ∧ lo ≤ 0) (h2 : 0 ≤ hi ∧ hi ≤ 4) {s : St3} (hs : StV T lo hi s) : 0 ≤ numS (T.length / 2 : Nat) lo hi s ∧ numS (T.length / 2 : Nat) lo hi s < allN T.length lo hi := by
  obtain ⟨a1, a2, a3, a4, a5, a6⟩ := hs
  unfold numS allN
  obtain ⟨H, hH⟩ : ∃ H, hi - lo + 1 = H := ⟨_, rfl⟩
  rw [hH]
  rcases ht_cases (h := H) (by omega) with rfl | rfl | rfl | rfl | rfl | rfl | rfl | rfl | rfl <;> omega
theorem num_lt {T : List Int} {lo hi : Int} (h1 : -4 ≤ lo ∧ lo ≤ 0) (h2 : 0 ≤ hi ∧ hi ≤ 4) {s t : St3} (hs : StV T lo hi s) (ht : StV T lo hi t) : numS (T.length / 2 : Nat) lo hi s < numS (T.length / 2 : Nat) lo hi t ↔ ltS s t = true := by
  obtain ⟨a1, a2, a3, a4, a5, a6⟩ := hs
  obtain ⟨b1, b2, b3, b4, b5, b6⟩ := ht
  rw [ltS_iff]
  unfold numS
  obtain ⟨H, hH⟩ : ∃ H, hi - lo + 1 = H := ⟨_, rfl⟩
  rw [hH]
  rcases ht_cases (h := H) (by omega) with rfl | rfl | rfl | rfl | rfl | rfl | rfl | rfl | rfl <;> omega
theorem num_inj {T : List Int} {lo hi : Int} (h1 : -4 ≤ lo ∧ lo ≤ 0) (h2 : 0 ≤ hi ∧ hi ≤ 4) {s t : St3} (hs : StV T lo hi s) (ht : StV T lo hi t) (h : numS (T.length / 2 : Nat) lo hi s = numS (T.length / 2 : Nat) lo hi t) : s = t := by
  have k1 : ltS s t = false := Bool.eq_false_iff.2 fun e => by have := (num_lt h1 h2 hs ht).2 e; omega
  have k2 : ltS t s = false := Bool.eq_false_iff.2 fun e => by have := (num_lt h1 h2 ht hs).2 e; omega
  exact ltS_total k1 k2
/-- The state of a number. -/
def decS (bd lo hi n : Int) : St3 := (n / (hi - lo + 1) / 21 - bd, n / (hi - lo + 1) % 21 - 10, n % (hi - lo + 1) + lo)
theorem dec_num {T : List Int} {lo hi : Int} (hodd : T.length % 2 = 1) (h1 : -4 ≤ lo ∧ lo ≤ 0) (h2 : 0 ≤ hi ∧ hi ≤ 4) {n : Int} (h0 : 0 ≤ n) (hn : n < allN T.length lo hi) : StV T lo hi (decS (T.length / 2 : Nat) lo hi n) ∧ numS (T.length / 2 : Nat) lo hi (decS (T.length / 2 : Nat) lo hi n) = n := by
  unfold allN at hn
  unfold StV numS decS
  obtain ⟨H, hH⟩ : ∃ H, hi - lo + 1 = H := ⟨_, rfl⟩
  rw [hH] at hn ⊢
  dsimp only
  rcases ht_cases (h := H) (by omega) with rfl | rfl | rfl | rfl | rfl | rfl | rfl | rfl | rfl <;> (refine ⟨⟨?_, ?_, ?_, ?_, ?_, ?_⟩, ?_⟩ <;> omega)

/-- The marks of numbers. -/
def marks (N : Nat) (l : List Int) : List Value := (List.range N).map fun (n : Nat) => Value.bool (decide ((n : Int) ∈ l))
theorem marks_len (N : Nat) (l : List Int) : (marks N l).length = N := by simp [marks]
theorem marks_get {N : Nat} {l : List Int} {k : Nat} (hk : k < N) : (marks N l)[k]? = some (Value.bool (decide ((k : Int) ∈ l))) := by
  simp [marks, hk]
theorem marks_set {N : Nat} {l : List Int} {k : Nat} (hk : k < N) : (marks N l).toArray.setIfInBounds k (.bool true) = (marks N (l ++ [(k : Int)])).toArray := by
  rw [List.setIfInBounds_toArray]
  congr 1
  refine List.ext_getElem? fun j => ?_
  rw [List.getElem?_set]
  by_cases hj : j < N
  · rw [marks_get hj, marks_get hj]
    by_cases hkj : k = j
    · subst hkj
      rw [if_pos rfl, if_pos (by rw [marks_len]; exact hj)]
      simp
    · rw [if_neg hkj]
      have : ¬ (j : Int) = (k : Int) := by omega
      simp [this]
  · rw [List.getElem?_eq_none (by rw [marks_len]; omega), List.getElem?_eq_none (by rw [marks_len]; omega)]
    by_cases hkj : k = j
    · omega
    · rw [if_neg hkj]

/-- What the reference has found: the states, and where the loop breaks first. -/
abbrev FoundX := List Seen × Option (Nat × Int)
def stepX (T : List Int) (slew : Int) (i : Nat) (st : FoundX) (h : Int) : FoundX :=
  match st.1[i]? with
  | none => st
  | some s =>
    if nxW T slew s.1.1 s.1.2.1 h then
      (if goS T slew s.1 h ∈ st.1.map (·.1) then st else (st.1 ++ [(goS T slew s.1 h, (i : Int), h)], st.2))
    else
      match st.2 with
      | none => (st.1, some (i, h))
      | some _ => st
def toF (st : FoundX) : Found := (st.1, st.2.map fun x => wayL st.1 x.1 ++ [x.2])
def XOk (st : FoundX) : Prop := ∀ x, st.2 = some x → x.1 < st.1.length
theorem stepX_F {T : List Int} {slew : Int} {i : Nat} {st : FoundX} {h : Int} (hE : Earlier st.1) (hx : XOk st) : toF (stepX T slew i st h) = stepH T slew i (toF st) h ∧ (i < st.1.length → XOk (stepX T slew i st h)) := by
  obtain ⟨l, o⟩ := st
  unfold stepX stepH
  rw [show (toF (l, o)).1 = l from rfl]
  dsimp only
  cases hs : l[i]? with
  | none => exact ⟨rfl, fun _ => hx⟩
  | some s =>
    dsimp only
    by_cases hw : nxW T slew s.1.1 s.1.2.1 h = true
    · rw [if_pos hw, if_pos hw]
      by_cases hm : goS T slew s.1 h ∈ l.map (·.1)
      · rw [if_pos hm, if_pos (show (nxE T slew s.1.1 s.1.2.1 h, nxC T slew s.1.1 s.1.2.1, h) ∈ l.map (·.1) from hm)]
        exact ⟨rfl, fun _ => hx⟩
      · rw [if_neg hm, if_neg (show ¬ (nxE T slew s.1.1 s.1.2.1 h, nxC T slew s.1.1 s.1.2.1, h) ∈ l.map (·.1) from hm)]
        refine ⟨?_, fun _ x hx' => by have := hx x hx'; dsimp only at this; simp; omega⟩
        cases o with
        | none => rfl
        | some x =>
          have := hx x rfl
          simp only [toF, Option.map_some]
          rw [wayL_app _ hE this]
          rfl
    · rw [if_neg hw, if_neg hw]
      cases o with
      | none => exact ⟨rfl, fun hi x hx' => by cases hx'; exact hi⟩
      | some x => exact ⟨rfl, fun _ => hx⟩
def roundX (T : List Int) (lo hi turn slew : Int) (i : Nat) (st : FoundX) : FoundX :=
  match st.1[i]? with
  | none => st
  | some s => (hvsOf lo hi turn s.1).foldl (stepX T slew i) st

end Go.Proofs.Ytgbckdmhmkpahaa

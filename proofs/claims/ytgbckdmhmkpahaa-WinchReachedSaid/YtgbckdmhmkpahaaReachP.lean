/-
  The reached states of a loop (chapter 2), in plain terms: what a round keeps, and how many states there may be.
-/
import Derived.Test.YtgbckdmhmkpahaaReachA
set_option linter.unusedVariables false
namespace Go.Proofs.Ytgbckdmhmkpahaa

theorem nodup_bound : ∀ (n : Nat) (l : List Nat), l.Nodup → (∀ x ∈ l, x < n) → l.length ≤ n
  | 0, l, _, h => by
    cases l with
    | nil => simp
    | cons a l => exact absurd (h a (by simp)) (by omega)
  | n + 1, l, hn, h => by
    by_cases hm : n ∈ l
    · have h1 := List.length_erase_of_mem hm
      have h2 := nodup_bound n (l.erase n) (hn.erase n) (fun x hx => by
        have h3 := (hn.mem_erase_iff).1 hx
        have h4 := h x h3.2
        omega)
      omega
    · have := nodup_bound n l hn (fun x hx => by
        have h4 := h x hx
        have : x ≠ n := fun e => hm (e ▸ hx)
        omega)
      omega

/-- A state's number. -/
def stNum (s : St) : Nat := (((s.1 + 5) * 21 + (s.2.1 + 10)) * 9 + (s.2.2 + 4)).toNat
theorem nodup_map {α β : Type} {f : α → β} {l : List α} (h : l.Nodup) (hf : ∀ x ∈ l, ∀ y ∈ l, f x = f y → x = y) : (l.map f).Nodup := by
  induction l with
  | nil => simp
  | cons a l ih =>
    rw [List.map_cons, List.nodup_cons]
    rw [List.nodup_cons] at h
    refine ⟨fun hm => ?_, ih h.2 (fun x hx y hy => hf x (by simp [hx]) y (by simp [hy]))⟩
    obtain ⟨y, hy, he⟩ := List.mem_map.1 hm
    have := hf y (by simp [hy]) a (by simp) he
    exact h.1 (this ▸ hy)

/-- What holds of what has been found. -/
structure OkF (T : List Int) (lo hi : Int) (st : Found) : Prop where
  nod : (st.1.map (·.1)).Nodup
  box : ∀ s ∈ st.1, 0 ≤ s.1.1 + (T.length / 2 : Nat) ∧ s.1.1 + (T.length / 2 : Nat) < T.length ∧ -10 ≤ s.1.2.1 ∧ s.1.2.1 ≤ 10 ∧ lo ≤ s.1.2.2 ∧ s.1.2.2 ≤ hi
  ear : Earlier st.1

theorem OkF.length {T : List Int} {lo hi : Int} {st : Found} (h : OkF T lo hi st) (hT : T.length ≤ 11) (h1 : -4 ≤ lo) (h2 : hi ≤ 4) : st.1.length ≤ 2079 := by
  have hb : ∀ x ∈ st.1.map (·.1), -5 ≤ x.1 ∧ x.1 ≤ 5 ∧ -10 ≤ x.2.1 ∧ x.2.1 ≤ 10 ∧ -4 ≤ x.2.2 ∧ x.2.2 ≤ 4 := by
    intro x hx
    obtain ⟨s, hs, rfl⟩ := List.mem_map.1 hx
    have := h.box s hs
    omega
  have := nodup_bound 2079 ((st.1.map (·.1)).map stNum) (nodup_map h.nod (fun x hx y hy he => by
      have hx := hb x hx
      have hy := hb y hy
      obtain ⟨a, b, c⟩ := x
      obtain ⟨d, e, f⟩ := y
      unfold stNum at he
      dsimp only at hx hy he
      have h1 : a = d := by omega
      have h2 : b = e := by omega
      have h3 : c = f := by omega
      rw [h1, h2, h3])) (fun n hn => by
      obtain ⟨x, hx, rfl⟩ := List.mem_map.1 hn
      have hx := hb x hx
      unfold stNum
      omega)
  simpa using this

theorem stepH_get {T : List Int} {slew : Int} {i : Nat} {st : Found} {h : Int} {j : Nat} (hj : j < st.1.length) : (stepH T slew i st h).1[j]? = st.1[j]? := by
  unfold stepH
  cases hs : st.1[i]? with
  | none => rfl
  | some s =>
    simp only
    split
    · split
      · rfl
      · exact List.getElem?_append_left hj
    · split <;> rfl
theorem stepH_len {T : List Int} {slew : Int} {i : Nat} {st : Found} {h : Int} : st.1.length ≤ (stepH T slew i st h).1.length := by
  unfold stepH
  cases hs : st.1[i]? with
  | none => exact Nat.le_refl _
  | some s =>
    simp only
    split
    · split
      · exact Nat.le_refl _
      · simp
    · split <;> exact Nat.le_refl _

theorem nxC_box {T : List Int} {slew e cmd : Int} (hx : ∀ y ∈ T, -10 ≤ y ∧ y ≤ 10) (hs : 0 ≤ slew) (h4 : 0 ≤ e + (T.length / 2 : Nat)) (h5 : e + (T.length / 2 : Nat) < T.length) (h6 : -10 ≤ cmd) (h7 : cmd ≤ 10) :
    -10 ≤ nxC T slew e cmd ∧ nxC T slew e cmd ≤ 10 := by
  have hi0 : (e + (T.length / 2 : Nat)).toNat < T.length := by omega
  have m := hx _ (List.getElem_mem hi0)
  have hC : nxC T slew e cmd = min (max T[(e + (T.length / 2 : Nat)).toNat] (cmd - slew)) (cmd + slew) := by unfold nxC; rw [List.getD_eq_getElem?_getD, List.getElem?_eq_getElem hi0]; rfl
  rw [hC]
  omega
theorem OkF.step {T : List Int} {lo hi slew : Int} {i : Nat} {st : Found} {x : Int} (h : OkF T lo hi st) (hx : ∀ y ∈ T, -10 ≤ y ∧ y ≤ 10) (hs : 0 ≤ slew) (hodd : T.length % 2 = 1) (h1 : lo ≤ x) (h2 : x ≤ hi) (hi' : i < st.1.length) :
    OkF T lo hi (stepH T slew i st x) := by
  unfold stepH
  have hg : st.1[i]? = some st.1[i] := List.getElem?_eq_getElem hi'
  rw [hg]
  simp only
  have hm : st.1[i] ∈ st.1 := List.getElem_mem hi'
  have hb := h.box _ hm
  generalize st.1[i] = s at *
  split
  · rename_i hw
    split
    · exact h
    · rename_i hn
      refine ⟨?_, ?_, ?_⟩
      · simp only [List.map_append, List.map_cons, List.map_nil]
        rw [List.nodup_append]
        refine ⟨h.nod, by simp, ?_⟩
        intro a ha b hb' e
        simp at hb'
        subst e
        subst hb'
        exact hn ha
      · intro q hq
        rcases List.mem_append.1 hq with hq | hq
        · exact h.box q hq
        · simp at hq
          subst hq
          have hc := nxC_box hx hs (by omega) (by omega) hb.2.2.1 hb.2.2.2.1 (e := s.1.1)
          have he : -((T.length / 2 : Nat) : Int) ≤ nxE T slew s.1.1 s.1.2.1 x ∧ nxE T slew s.1.1 s.1.2.1 x ≤ ((T.length / 2 : Nat) : Int) := by simpa [nxW, inB] using hw
          dsimp only
          omega
      · intro j q hq
        rcases Nat.lt_or_ge j st.1.length with hj | hj
        · rw [List.getElem?_append_left hj] at hq
          exact h.ear j q hq
        · rw [List.getElem?_append_right hj] at hq
          have : j - st.1.length = 0 := by
            rcases Nat.eq_zero_or_pos (j - st.1.length) with h0 | h0
            · exact h0
            · rw [List.getElem?_eq_none (by simp; omega)] at hq; cases hq
          rw [this] at hq
          simp at hq
          subst hq
          dsimp only
          omega
  · split <;> exact ⟨h.nod, h.box, h.ear⟩

/-- The heaves that may follow a state, and what a state's round makes of what has been found. -/
def hvA (lo turn h : Int) : Int := max lo (h - turn)
def hvB (hi turn h : Int) : Int := min hi (h + turn)
def roundH (T : List Int) (lo hi turn slew : Int) (i : Nat) (st : Found) : Found :=
  match st.1[i]? with
  | none => st
  | some s => (hvL (hvA lo turn s.1.2.2) (hvB hi turn s.1.2.2 - hvA lo turn s.1.2.2 + 1).toNat).foldl (stepH T slew i) st
/-- So many rounds from state i on. -/
def rounds (T : List Int) (lo hi turn slew : Int) : Nat → Nat → Found → Found
  | 0, _, st => st
  | m + 1, i, st => if i < st.1.length then rounds T lo hi turn slew m (i + 1) (roundH T lo hi turn slew i st) else st
theorem OkF.fold {T : List Int} {lo hi slew : Int} {i : Nat} (hx : ∀ y ∈ T, -10 ≤ y ∧ y ≤ 10) (hs : 0 ≤ slew) (hodd : T.length % 2 = 1) : ∀ (l : List Int) (st : Found), OkF T lo hi st → i < st.1.length → (∀ x ∈ l, lo ≤ x ∧ x ≤ hi) →
    OkF T lo hi (l.foldl (stepH T slew i) st) ∧ st.1.length ≤ (l.foldl (stepH T slew i) st).1.length ∧ ∀ j, j < st.1.length → (l.foldl (stepH T slew i) st).1[j]? = st.1[j]?
  | [], st, h, _, _ => ⟨h, Nat.le_refl _, fun _ _ => rfl⟩
  | x :: l, st, h, hi', hl => by
    have h1 := h.step (slew := slew) hx hs hodd (hl x (by simp)).1 (hl x (by simp)).2 hi'
    have hlen := stepH_len (T := T) (slew := slew) (i := i) (st := st) (h := x)
    obtain ⟨a, b, c⟩ := OkF.fold hx hs hodd l _ h1 (Nat.lt_of_lt_of_le hi' hlen) (fun y hy => hl y (by simp [hy]))
    exact ⟨a, Nat.le_trans hlen b, fun j hj => (c j (Nat.lt_of_lt_of_le hj hlen)).trans (stepH_get hj)⟩

end Go.Proofs.Ytgbckdmhmkpahaa

/-
  The law WinchUnloaded (chapter 2) in plain words.
-/
import Derived.Test.YtgbckdmhmkpahaaLatch8
set_option linter.unusedVariables false
namespace Go.Proofs.Ytgbckdmhmkpahaa
open Go.RowKit Go.Shelf

/-- What holds of a latch's state behind events that were accepted: 'last' is the last event's tick. -/
structure Okay (lim : Int) (xs : List St3) (s : LSt) (last : Int) : Prop where
  st : latdE lim s.2.1 s.2.2 = 0
  last0 : 0 ≤ last ∧ last ≤ 1000000000000
  since : s.2.2 ≤ last
  times : ∀ e ∈ xs, 0 ≤ e.1 ∧ e.1 ≤ last
  loads : ∀ e ∈ xs, e.2.1 = 0 → lim < e.2.2 → 0 ≤ s.2.2 → e.1 ≤ s.2.2

theorem latdE_iff {lim ld sn : Int} : latdE lim ld sn = 0 ↔ (0 ≤ ld ∧ ld ≤ 100000) ∧ (-1 ≤ sn ∧ sn ≤ 1000000000000) ∧ (sn = -1 ↔ lim < ld) := by
  constructor
  · intro h
    obtain ⟨a, b⟩ := fst2_z' h
    have a' := unl_z (by omega) a
    have b' := unl_z (by omega) b
    simp only [Bool.and_eq_true] at a'
    refine ⟨inB_true.1 a'.1, inB_true.1 a'.2, ?_⟩
    have e : (sn == -1) = decide (lim < ld) := by simpa using b'
    constructor
    · intro h; rw [h] at e; simpa using e.symm
    · intro h; rw [decide_eq_true h] at e; simpa using e
  · rintro ⟨h1, h2, h3⟩
    have a : (inB ld 0 100000 && inB sn (-1) 1000000000000) = true := by rw [inB_true.2 h1, inB_true.2 h2]; rfl
    have b : ((sn == -1) == decide (lim < ld)) = true := by
      by_cases h : lim < ld
      · rw [decide_eq_true h, h3.2 h]; rfl
      · rw [decide_eq_false h]
        have : sn ≠ -1 := fun e => h (h3.1 e)
        simp [this]
    simp [latdE, fstE, unl, a, b]

theorem evE_vl {at' kd vl : Int} (h : evE at' kd vl = 0) : 0 ≤ vl ∧ vl ≤ 100000 := by
  obtain ⟨_, _, c⟩ := fst3_z h
  have := unl_z (by omega) c
  simp only [Bool.and_eq_true] at this
  exact inB_true.1 this.1

theorem okay_begin (lim : Int) (h : 0 ≤ lim) : Okay lim [] (true, 0, 0) 0 :=
  ⟨latdE_iff.2 (by dsimp only; omega), by omega, by dsimp only; omega, by simp, by simp⟩

/-- An accepted event: what the next state is, and that all holds on. -/
theorem okay_step {lim hold : Int} {xs : List St3} {s : LSt} {last : Int} {e : St3} (hk : Okay lim xs s last) (h1 : evE e.1 e.2.1 e.2.2 = 0) (h2 : last ≤ e.1) (h3 : (stepL lim hold s e).2 = 0) :
    Okay lim (xs ++ [e]) (stepL lim hold s e).1 e.1 ∧
    (e.2.1 = 0 → (stepL lim hold s e).1.1 = s.1 ∧ (stepL lim hold s e).1.2.1 = e.2.2) ∧
    (e.2.1 ≠ 0 → (stepL lim hold s e).1.1 ≠ s.1 ∧ (stepL lim hold s e).1.2.1 = s.2.1 ∧ s.2.1 ≤ lim ∧ ∀ m ∈ xs, m.2.1 = 0 → lim < m.2.2 → hold ≤ e.1 - m.1) := by
  obtain ⟨s1, s2, s3⟩ := s
  obtain ⟨at', kd, vl⟩ := e
  obtain ⟨g1, g2, g3, g4, g5⟩ := hk
  obtain ⟨b1, b2⟩ := evE_ok h1
  have b3 := evE_vl h1
  obtain ⟨c1, c2, c3⟩ := latdE_iff.1 g1
  dsimp only at *
  by_cases hz : kd = 0
  · have e : stepL lim hold (s1, s2, s3) (at', kd, vl) = ((s1, vl, if lim < vl then -1 else if s3 < 0 then at' else s3), 0) := by simp [stepL, hz]
    rw [e]
    refine ⟨⟨latdE_iff.2 ⟨by dsimp only; omega, ?_, ?_⟩, (by (try dsimp only); omega), ?_, ?_, ?_⟩, fun _ => ⟨rfl, rfl⟩, fun h => absurd hz h⟩
    · dsimp only; split
      · omega
      · split <;> omega
    · dsimp only; split
      · rename_i h; simp [h]
      · rename_i h; split <;> omega
    · dsimp only; split
      · omega
      · split <;> omega
    · intro m hm
      rcases List.mem_append.1 hm with hm | hm
      · have := g4 m hm; (try dsimp only); omega
      · simp at hm; subst hm; (try dsimp only); omega
    · intro m hm hm0 hml
      dsimp only
      rcases List.mem_append.1 hm with hm | hm
      · have t1 := g4 m hm
        have t2 := g5 m hm hm0 hml
        split
        · omega
        · split <;> omega
      · simp at hm; subst hm
        (try dsimp only at hml ⊢)
        rw [if_pos hml]; omega
  · have hne : ¬ ((kd == 2) = s1) := fun hh => by simp [stepL, hz, hh] at h3
    have hnn : ¬ (s3 < 0 ∨ at' - s3 < hold) := fun hh => by simp [stepL, hz, hne, hh] at h3
    have e : stepL lim hold (s1, s2, s3) (at', kd, vl) = ((kd == 2, s2, s3), 0) := by simp only [stepL]; rw [if_neg hz, if_neg hne, if_neg hnn]
    rw [e]
    dsimp only
    refine ⟨⟨g1, (by (try dsimp only); omega), (by (try dsimp only); omega), ?_, ?_⟩, fun h => absurd h hz, fun _ => ⟨hne, rfl, by omega, fun m hm hm0 hml => ?_⟩⟩
    · intro m hm
      rcases List.mem_append.1 hm with hm | hm
      · have := g4 m hm; (try dsimp only); omega
      · simp at hm; subst hm; (try dsimp only); omega
    · intro m hm hm0 hml hs
      rcases List.mem_append.1 hm with hm | hm
      · exact g5 m hm hm0 hml hs
      · simp at hm; subst hm; exact absurd hm0 hz
    · have := g5 m hm hm0 hml (by omega); omega

theorem okay_next {lim hold : Int} {xs : List St3} {s : LSt} {last : Int} {e : St3} (hl : latE lim hold = 0) (hk : Okay lim xs s last) (h1 : evE e.1 e.2.1 e.2.2 = 0) (h2 : last ≤ e.1) : nxP lim hold s e = stepL lim hold s e := by
  have hs := hk.since
  have : nxE4 lim hold s.2.1 s.2.2 e.1 e.2.1 e.2.2 = 0 := by
    simp only [nxE4, hl, hk.st, h1, fstE]
    simp [unl]; omega
  exact if_neg (by simpa using this)

/-- A list that is accepted, one event more. -/
theorem runL_snoc {lim hold : Int} (e : St3) (h1 : evE e.1 e.2.1 e.2.2 = 0) : ∀ (xs : List St3) (s r : LSt) (last : Int), runL lim hold s last xs = (r, 0) → (∀ m, (xs.getLast? = some m ∨ (xs = [] ∧ m.1 = last)) → m.1 ≤ e.1) → runL lim hold s last (xs ++ [e]) = stepL lim hold r e
  | [], s, r, last, h, hl => by
    have hr : s = r := by simpa [runL] using h
    subst hr
    have h2 : last ≤ e.1 := hl (last, 0, 0) (.inr ⟨rfl, rfl⟩)
    simp only [List.nil_append, runL, h1, fstE]
    rw [if_neg (by simp [unl, h2])]
    by_cases hz : (stepL lim hold s e).2 = 0
    · rw [if_neg (by simpa using hz)]; rw [← hz]
    · rw [if_pos hz, ← stepL_err hz]
  | x :: xs, s, r, last, h, hl => by
    rw [List.cons_append]
    rw [runL] at h ⊢
    split at h
    · rename_i hh; simp at h; exact absurd h.2 hh
    · rename_i hh
      split at h
      · rename_i h3; simp at h; exact absurd h.2 h3
      · rename_i h3
        rw [if_neg hh, if_neg h3]
        refine runL_snoc e h1 xs _ r _ h fun m hm => ?_
        rcases hm with hm | ⟨rfl, hm⟩
        · exact hl m (.inl (by rw [List.getLast?_cons]; rw [hm]; rfl))
        · rw [hm]; exact hl x (.inl rfl)

/-- The first event of the rest of an accepted list is accepted. -/
theorem runL_head {lim hold : Int} {s r : LSt} {last : Int} {e : St3} {xs : List St3} (h : runL lim hold s last (e :: xs) = (r, 0)) : evE e.1 e.2.1 e.2.2 = 0 ∧ last ≤ e.1 ∧ (stepL lim hold s e).2 = 0 ∧ runL lim hold (stepL lim hold s e).1 e.1 xs = (r, 0) := by
  rw [runL] at h
  split at h
  · rename_i hh; simp at h; exact absurd h.2 hh
  · rename_i hh
    split at h
    · rename_i h3; simp at h; exact absurd h.2 h3
    · rename_i h3
      obtain ⟨a, b⟩ := fst2_z' (Decidable.not_not.1 hh)
      exact ⟨a, by simpa using unl_z (by omega) b, Decidable.not_not.1 h3, h⟩

end Go.Proofs.Ytgbckdmhmkpahaa

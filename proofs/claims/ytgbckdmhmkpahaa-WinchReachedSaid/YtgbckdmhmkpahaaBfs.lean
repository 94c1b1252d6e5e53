/-
  The reached states of a loop (chapter 2), in plain words: all states that a sea leads to are found, and the sea that breaks the loop is the first of all such seas.
-/
import Derived.Test.YtgbckdmhmkpahaaReachedBy
set_option linter.unusedVariables false
namespace Go.Proofs.Ytgbckdmhmkpahaa

/-- Lexicographically smaller. -/
def lexB : List Int → List Int → Bool
  | [], [] => false
  | [], _ :: _ => true
  | _ :: _, [] => false
  | x :: a, y :: b => if x ≠ y then decide (x < y) else lexB a b
theorem lexB_cons (x y : Int) (a b : List Int) : lexB (x :: a) (y :: b) = true ↔ x < y ∨ x = y ∧ lexB a b = true := by
  conv => lhs; unfold lexB
  by_cases h : x = y
  · subst h; simp
  · simp [h]
theorem lexB_self : ∀ p : List Int, lexB p p = false
  | [] => rfl
  | x :: a => by unfold lexB; simp [lexB_self a]
theorem lexB_trans : ∀ {p q r : List Int}, lexB p q = true → lexB q r = true → lexB p r = true
  | [], [], _, h, _ => by cases h
  | [], _ :: _, [], _, h => by cases h
  | [], _ :: _, _ :: _, _, _ => rfl
  | _ :: _, [], _, h, _ => by cases h
  | _ :: _, _ :: _, [], _, h => by cases h
  | x :: a, y :: b, z :: c, h, k => by
    rw [lexB_cons] at h k ⊢
    rcases h with h | ⟨rfl, h⟩ <;> rcases k with k | ⟨rfl, k⟩
    · exact .inl (by omega)
    · exact .inl h
    · exact .inl k
    · exact .inr ⟨rfl, lexB_trans h k⟩
theorem lexB_snoc (u v : Int) : ∀ {p q : List Int}, p.length = q.length → lexB p q = true → lexB (p ++ [u]) (q ++ [v]) = true
  | [], [], _, h => by cases h
  | [], _ :: _, h, _ => by simp at h
  | _ :: _, [], h, _ => by simp at h
  | x :: p, y :: q, h, k => by
    rw [lexB_cons] at k
    rw [List.cons_append, List.cons_append, lexB_cons]
    rcases k with k | ⟨rfl, k⟩
    · exact .inl k
    · exact .inr ⟨rfl, lexB_snoc u v (by simpa using h) k⟩
theorem lexB_last {u v : Int} (h : u < v) : ∀ p : List Int, lexB (p ++ [u]) (p ++ [v]) = true
  | [] => by rw [List.nil_append, List.nil_append, lexB_cons]; exact .inl h
  | x :: p => by rw [List.cons_append, List.cons_append, lexB_cons]; exact .inr ⟨rfl, lexB_last h p⟩

/-- Shorter, or as long and lexicographically smaller. -/
def SL (p q : List Int) : Prop := p.length < q.length ∨ p.length = q.length ∧ lexB p q = true
def SLe (p q : List Int) : Prop := SL p q ∨ p = q
theorem SL.trans {p q r : List Int} (h : SL p q) (k : SL q r) : SL p r := by
  rcases h with h | ⟨h, h'⟩ <;> rcases k with k | ⟨k, k'⟩
  · exact .inl (by omega)
  · exact .inl (by omega)
  · exact .inl (by omega)
  · exact .inr ⟨by omega, lexB_trans h' k'⟩
theorem SL.irrefl {p : List Int} (h : SL p p) : False := by
  rcases h with h | ⟨_, h⟩
  · omega
  · rw [lexB_self] at h; cases h
theorem SLe.trans {p q r : List Int} (h : SLe p q) (k : SLe q r) : SLe p r := by
  rcases h with h | rfl
  · rcases k with k | rfl
    · exact .inl (h.trans k)
    · exact .inl h
  · exact k
theorem SLe.len {p q : List Int} (h : SLe p q) : p.length ≤ q.length := by
  rcases h with (h | ⟨h, _⟩) | rfl <;> omega
theorem SLe.anti {p q : List Int} (h : SLe p q) (k : SLe q p) : p = q := by
  rcases h with h | h
  · rcases k with k | k
    · exact absurd (h.trans k) (fun e => e.irrefl)
    · exact k.symm
  · exact h
theorem SL.snoc {p q : List Int} (u v : Int) (h : SL p q) : SL (p ++ [u]) (q ++ [v]) := by
  rcases h with h | ⟨h, k⟩
  · exact .inl (by simp; omega)
  · exact .inr ⟨by simp; omega, lexB_snoc u v h k⟩
theorem SLe.snoc {p q : List Int} {u v : Int} (h : SLe p q) (huv : u ≤ v) : SLe (p ++ [u]) (q ++ [v]) := by
  rcases h with h | rfl
  · exact .inl (h.snoc u v)
  · rcases Int.lt_or_eq_of_le huv with h | rfl
    · exact .inl (.inr ⟨by simp, lexB_last h p⟩)
    · exact .inr rfl

/-- The next state, and which heaves may follow a state. -/
def goS (T : List Int) (slew : Int) (s : St) (h : Int) : St := (nxE T slew s.1 s.2.1 h, nxC T slew s.1 s.2.1, h)
def mayH (lo hi turn : Int) (s : St) (h : Int) : Prop := hvA lo turn s.2.2 ≤ h ∧ h ≤ hvB hi turn s.2.2
/-- A sea that leads to a state, and one that breaks the loop. -/
inductive Leads (T : List Int) (lo hi turn slew : Int) : List Int → St → Prop
  | nil : Leads T lo hi turn slew [] (0, 0, 0)
  | snoc {p : List Int} {s : St} {h : Int} : Leads T lo hi turn slew p s → mayH lo hi turn s h → nxW T slew s.1 s.2.1 h = true → Leads T lo hi turn slew (p ++ [h]) (goS T slew s h)
def Breaks (T : List Int) (lo hi turn slew : Int) (p : List Int) : Prop := ∃ q s h, p = q ++ [h] ∧ Leads T lo hi turn slew q s ∧ mayH lo hi turn s h ∧ nxW T slew s.1 s.2.1 h = false

theorem wayR_app {all : List Seen} (x : Seen) (h : Earlier all) : ∀ (f i : Nat), i < all.length → wayR (all ++ [x]) f i = wayR all f i
  | 0, _, _ => rfl
  | f + 1, i, hi => by
    rw [wayR, wayR, List.getElem?_append_left hi, List.getElem?_eq_getElem hi]
    have he := h i _ (List.getElem?_eq_getElem hi)
    simp only
    by_cases h0 : 0 ≤ all[i].2.1
    · rw [if_pos h0, if_pos h0, wayR_app x h f _ (by omega)]
    · rw [if_neg h0, if_neg h0]
theorem wayL_app {all : List Seen} (x : Seen) (h : Earlier all) {i : Nat} (hi : i < all.length) : wayL (all ++ [x]) i = wayL all i := by
  unfold wayL; rw [wayR_app x h _ _ hi]
theorem wayL_zero {all : List Seen} {s : Seen} {i : Nat} (h : all[i]? = some s) (h0 : s.2.1 = -1) : wayL all i = [] := by
  unfold wayL; rw [wayR, h]; simp [h0]
theorem wayL_next {all : List Seen} (hE : Earlier all) {s : Seen} {i j : Nat} (h : all[i]? = some s) (h0 : s.2.1 = (j : Int)) : wayL all i = wayL all j ++ [s.2.2] := by
  have he := hE i s h
  unfold wayL
  rw [wayR, h]
  simp only
  rw [if_pos (by omega), h0, Int.toNat_natCast, wayR_fuel hE j i (by omega), List.reverse_cons]

/-- Which pairs of a state and a heave have been looked at. -/
def Done (i : Nat) (b : Int) (j : Nat) (h : Int) : Prop := j < i ∨ j = i ∧ h < b
/-- What holds of the search when these have been looked at. -/
structure Bf (T : List Int) (lo hi turn slew : Int) (st : Found) (i : Nat) (b : Int) : Prop where
  z : st.1[0]? = some ((0, 0, 0), -1, 0)
  ear : Earlier st.1
  ent : ∀ (k : Nat) (s : Seen), st.1[k]? = some s → 0 < k → ∃ (j : Nat) (sj : Seen), s.2.1 = (j : Int) ∧ j < k ∧ st.1[j]? = some sj ∧ mayH lo hi turn sj.1 s.2.2 ∧ nxW T slew sj.1.1 sj.1.2.1 s.2.2 = true ∧ s.1 = goS T slew sj.1 s.2.2 ∧ Done i b j s.2.2
  mono : ∀ (k1 k2 : Nat) (s1 s2 : Seen), 0 < k1 → k1 < k2 → st.1[k1]? = some s1 → st.1[k2]? = some s2 → s1.2.1 < s2.2.1 ∨ s1.2.1 = s2.2.1 ∧ s1.2.2 < s2.2.2
  clo : ∀ (j : Nat) (sj : Seen) (h : Int), st.1[j]? = some sj → mayH lo hi turn sj.1 h → Done i b j h → nxW T slew sj.1.1 sj.1.2.1 h = true → ∃ (k : Nat) (s : Seen), st.1[k]? = some s ∧ s.1 = goS T slew sj.1 h ∧ (s.2.1 < (j : Int) ∨ s.2.1 = (j : Int) ∧ s.2.2 ≤ h)
  brN : st.2 = none → ∀ (j : Nat) (sj : Seen) (h : Int), st.1[j]? = some sj → mayH lo hi turn sj.1 h → Done i b j h → nxW T slew sj.1.1 sj.1.2.1 h = true
  brS : ∀ L, st.2 = some L → ∃ (j : Nat) (sj : Seen) (h : Int), st.1[j]? = some sj ∧ mayH lo hi turn sj.1 h ∧ nxW T slew sj.1.1 sj.1.2.1 h = false ∧ L = wayL st.1 j ++ [h] ∧ Done i b j h ∧ ∀ (j' : Nat) (sj' : Seen) (h' : Int), st.1[j']? = some sj' → mayH lo hi turn sj'.1 h' → Done i b j' h' → nxW T slew sj'.1.1 sj'.1.2.1 h' = false → j < j' ∨ j = j' ∧ h ≤ h'

theorem Done.more {i j : Nat} {b h : Int} : Done i (b + 1) j h ↔ Done i b j h ∨ j = i ∧ h = b := by
  unfold Done; omega

theorem get_app {α : Type} {l : List α} {x y : α} {k : Nat} (h : (l ++ [x])[k]? = some y) : l[k]? = some y ∨ k = l.length ∧ y = x := by
  rcases Nat.lt_or_ge k l.length with hk | hk
  · rw [List.getElem?_append_left hk] at h; exact .inl h
  · rw [List.getElem?_append_right hk] at h
    have : k - l.length = 0 := by
      rcases Nat.eq_zero_or_pos (k - l.length) with h0 | h0
      · exact h0
      · rw [List.getElem?_eq_none (by simp; omega)] at h; cases h
    rw [this] at h
    simp at h
    exact .inr ⟨by omega, h.symm⟩
theorem get_lt {α : Type} {l : List α} {y : α} {k : Nat} (h : l[k]? = some y) : k < l.length := by
  rcases Nat.lt_or_ge k l.length with hk | hk
  · exact hk
  · rw [List.getElem?_eq_none hk] at h; cases h

theorem Bf.step {T : List Int} {lo hi turn slew : Int} {st : Found} {i : Nat} {b : Int} (B : Bf T lo hi turn slew st i b) {si : Seen} (hi' : st.1[i]? = some si) (hm : mayH lo hi turn si.1 b) : Bf T lo hi turn slew (stepH T slew i st b) i (b + 1) := by
  have hil := get_lt hi'
  have hlen : 0 < st.1.length := by omega
  by_cases hw : nxW T slew si.1.1 si.1.2.1 b = true
  · by_cases hin : goS T slew si.1 b ∈ st.1.map (·.1)
    · have e : stepH T slew i st b = st := by
        unfold stepH; rw [hi']; simp only; rw [if_pos hw]; exact if_pos hin
      rw [e]
      obtain ⟨q, hq, hqe⟩ := List.mem_map.1 hin
      obtain ⟨k, hk⟩ := List.mem_iff_getElem?.1 hq
      have hle : q.2.1 < (i : Int) ∨ q.2.1 = (i : Int) ∧ q.2.2 ≤ b := by
        rcases Nat.eq_zero_or_pos k with rfl | hk0
        · rw [B.z] at hk; cases hk; left; show (-1 : Int) < i; omega
        · obtain ⟨j, sj, e1, _, _, _, _, _, hd⟩ := B.ent k q hk hk0
          rw [e1]; unfold Done at hd; omega
      refine ⟨B.z, B.ear, ?_, B.mono, ?_, ?_, ?_⟩
      · intro k s h1 h2
        obtain ⟨j, sj, e1, e2, e3, e4, e5, e6, e7⟩ := B.ent k s h1 h2
        exact ⟨j, sj, e1, e2, e3, e4, e5, e6, Done.more.2 (.inl e7)⟩
      · intro j sj h h1 h2 h3 h4
        rcases Done.more.1 h3 with h3 | ⟨rfl, rfl⟩
        · exact B.clo j sj h h1 h2 h3 h4
        · rw [hi'] at h1; cases h1
          exact ⟨k, q, hk, hqe, hle⟩
      · intro hn j sj h h1 h2 h3
        rcases Done.more.1 h3 with h3 | ⟨rfl, rfl⟩
        · exact B.brN hn j sj h h1 h2 h3
        · rw [hi'] at h1; cases h1; exact hw
      · intro L hL
        obtain ⟨j, sj, h, e1, e2, e3, e4, e5, e6⟩ := B.brS L hL
        refine ⟨j, sj, h, e1, e2, e3, e4, Done.more.2 (.inl e5), ?_⟩
        intro j' sj' h' h1 h2 h3 h4
        rcases Done.more.1 h3 with h3 | ⟨rfl, rfl⟩
        · exact e6 j' sj' h' h1 h2 h3 h4
        · rw [hi'] at h1; cases h1; rw [hw] at h4; cases h4
    · have e : stepH T slew i st b = (st.1 ++ [(goS T slew si.1 b, (i : Int), b)], st.2) := by
        unfold stepH; rw [hi']; simp only; rw [if_pos hw]; exact if_neg hin
      rw [e]
      have up : ∀ {k : Nat} {s : Seen}, st.1[k]? = some s → (st.1 ++ [(goS T slew si.1 b, (i : Int), b)])[k]? = some s := fun {k s} h => by
        rw [List.getElem?_append_left (get_lt h)]; exact h
      have last : (st.1 ++ [(goS T slew si.1 b, (i : Int), b)])[st.1.length]? = some (goS T slew si.1 b, (i : Int), b) := by
        rw [List.getElem?_append_right (Nat.le_refl _)]; simp
      have nolast : ∀ {j : Nat} {h : Int}, Done i (b + 1) j h → j ≠ st.1.length := fun {j h} hd he => by
        unfold Done at hd; omega
      refine ⟨up B.z, ?_, ?_, ?_, ?_, ?_, ?_⟩
      · intro j s hj
        rcases get_app hj with hj | ⟨rfl, rfl⟩
        · exact B.ear j s hj
        · show (i : Int) < (st.1.length : Nat) ∧ -1 ≤ (i : Int)
          omega
      · intro k s h1 h2
        rcases get_app h1 with g1 | ⟨rfl, rfl⟩
        · obtain ⟨j, sj, e1, e2, e3, e4, e5, e6, e7⟩ := B.ent k s g1 h2
          exact ⟨j, sj, e1, e2, up e3, e4, e5, e6, Done.more.2 (.inl e7)⟩
        · exact ⟨i, si, rfl, hil, up hi', hm, hw, rfl, Done.more.2 (.inr ⟨rfl, rfl⟩)⟩
      · intro k1 k2 s1 s2 h0 h12 h1 h2
        rcases get_app h2 with h2 | ⟨rfl, rfl⟩
        · have := get_lt h2
          rcases get_app h1 with g1 | ⟨rfl, rfl⟩
          · exact B.mono k1 k2 s1 s2 h0 h12 g1 h2
          · omega
        · rcases get_app h1 with g1 | ⟨rfl, rfl⟩
          · obtain ⟨j, sj, e1, _, _, _, _, _, hd⟩ := B.ent k1 s1 g1 h0
            rw [e1]
            show (j : Int) < (i : Int) ∨ (j : Int) = (i : Int) ∧ s1.2.2 < b
            unfold Done at hd; omega
          · omega
      · intro j sj h h1 h2 h3 h4
        rcases get_app h1 with g1 | ⟨rfl, rfl⟩
        · rcases Done.more.1 h3 with h3 | ⟨rfl, rfl⟩
          · obtain ⟨k, s, e1, e2, e3⟩ := B.clo j sj h g1 h2 h3 h4
            exact ⟨k, s, up e1, e2, e3⟩
          · rw [hi'] at g1; cases g1
            exact ⟨_, _, last, rfl, .inr ⟨rfl, Int.le_refl _⟩⟩
        · exact absurd rfl (nolast h3)
      · intro hn j sj h h1 h2 h3
        rcases get_app h1 with g1 | ⟨rfl, rfl⟩
        · rcases Done.more.1 h3 with h3 | ⟨rfl, rfl⟩
          · exact B.brN hn j sj h g1 h2 h3
          · rw [hi'] at g1; cases g1; exact hw
        · exact absurd rfl (nolast h3)
      · intro L hL
        obtain ⟨j, sj, h, e1, e2, e3, e4, e5, e6⟩ := B.brS L hL
        refine ⟨j, sj, h, up e1, e2, e3, by rw [wayL_app _ B.ear (get_lt e1)]; exact e4, Done.more.2 (.inl e5), ?_⟩
        intro j' sj' h' h1 h2 h3 h4
        rcases get_app h1 with g1 | ⟨rfl, rfl⟩
        · rcases Done.more.1 h3 with h3 | ⟨rfl, rfl⟩
          · exact e6 j' sj' h' g1 h2 h3 h4
          · rw [hi'] at g1; cases g1; rw [hw] at h4; cases h4
        · exact absurd rfl (nolast h3)
  · have hw' : nxW T slew si.1.1 si.1.2.1 b = false := by simpa using hw
    have c1 : (stepH T slew i st b).1 = st.1 := by
      unfold stepH; rw [hi']; simp only; rw [if_neg hw]; cases st.2 <;> rfl
    have c2 : (stepH T slew i st b).2 = some ((st.2).getD (wayL st.1 i ++ [b])) := by
      unfold stepH; rw [hi']; simp only; rw [if_neg hw]
      cases hs2 : st.2 <;> simp [hs2]
    refine ⟨by rw [c1]; exact B.z, by rw [c1]; exact B.ear, ?_, by rw [c1]; exact B.mono, ?_, ?_, ?_⟩
    · rw [c1]
      intro k s h1 h2
      obtain ⟨j, sj, e1, e2, e3, e4, e5, e6, e7⟩ := B.ent k s h1 h2
      exact ⟨j, sj, e1, e2, e3, e4, e5, e6, Done.more.2 (.inl e7)⟩
    · rw [c1]
      intro j sj h h1 h2 h3 h4
      rcases Done.more.1 h3 with h3 | ⟨rfl, rfl⟩
      · exact B.clo j sj h h1 h2 h3 h4
      · rw [hi'] at h1; cases h1; rw [hw'] at h4; cases h4
    · intro hn; rw [c2] at hn; cases hn
    · intro L hL
      rw [c2] at hL
      rw [c1]
      cases hs2 : st.2 with
      | none =>
        rw [hs2] at hL
        simp at hL
        refine ⟨i, si, b, hi', hm, hw', hL.symm, Done.more.2 (.inr ⟨rfl, rfl⟩), ?_⟩
        intro j' sj' h' h1 h2 h3 h4
        rcases Done.more.1 h3 with h3 | ⟨rfl, rfl⟩
        · rw [B.brN hs2 j' sj' h' h1 h2 h3] at h4; cases h4
        · exact .inr ⟨rfl, Int.le_refl _⟩
      | some L0 =>
        rw [hs2] at hL
        simp at hL
        subst hL
        obtain ⟨j, sj, h, e1, e2, e3, e4, e5, e6⟩ := B.brS L0 hs2
        refine ⟨j, sj, h, e1, e2, e3, e4, Done.more.2 (.inl e5), ?_⟩
        intro j' sj' h' h1 h2 h3 h4
        rcases Done.more.1 h3 with h3 | ⟨rfl, rfl⟩
        · exact e6 j' sj' h' h1 h2 h3 h4
        · unfold Done at e5; omega

theorem stepH_one {T : List Int} {slew : Int} {i : Nat} {st : Found} {h : Int} {s : Seen} {j : Nat} (hj : st.1[j]? = some s) : (stepH T slew i st h).1[j]? = some s := by
  rw [stepH_get (get_lt hj)]; exact hj

theorem Bf.fold {T : List Int} {lo hi turn slew : Int} {i : Nat} {si : Seen} {a : Int} : ∀ (n : Nat) (st : Found), Bf T lo hi turn slew st i a → st.1[i]? = some si → (∀ k : Nat, k < n → mayH lo hi turn si.1 (a + k)) →
    Bf T lo hi turn slew ((hvL a n).foldl (stepH T slew i) st) i (a + n) ∧ ((hvL a n).foldl (stepH T slew i) st).1[i]? = some si
  | 0, st, B, h, _ => by simpa [hvL] using ⟨B, h⟩
  | n + 1, st, B, h, hm => by
    obtain ⟨c, d⟩ := Bf.fold n st B h (fun k hk => hm k (by omega))
    rw [hvL_succ, List.foldl_append]
    simp only [List.foldl_cons, List.foldl_nil]
    have := c.step d (hm n (by omega))
    exact ⟨by rw [show a + ((n + 1 : Nat) : Int) = a + (n : Int) + 1 by omega]; exact this, stepH_one d⟩

/-- When all heaves of a state have been looked at. -/
theorem Bf.over {T : List Int} {lo hi turn slew : Int} {st : Found} {i : Nat} {b : Int} (B : Bf T lo hi turn slew st i b) {si : Seen} (hi' : st.1[i]? = some si) (hb : hvB hi turn si.1.2.2 < b) (b' : Int) (hb' : ∀ s, st.1[i + 1]? = some s → b' ≤ hvA lo turn s.1.2.2) : Bf T lo hi turn slew st (i + 1) b' := by
  have un : ∀ {j : Nat} {sj : Seen} {h : Int}, st.1[j]? = some sj → mayH lo hi turn sj.1 h → Done (i + 1) b' j h → Done i b j h := fun {j sj h} h1 h2 h3 => by
    unfold Done at *
    rcases h3 with h3 | ⟨rfl, h3⟩
    · rcases Nat.lt_or_ge j i with h4 | h4
      · exact .inl h4
      · obtain rfl : j = i := by omega
        rw [hi'] at h1; cases h1
        have := h2.2
        exact .inr ⟨rfl, by omega⟩
    · have := hb' _ h1
      have := h2.1
      omega
  have on : ∀ {j : Nat} {h : Int}, Done i b j h → Done (i + 1) b' j h := fun {j h} h1 => by
    unfold Done at *; omega
  refine ⟨B.z, B.ear, ?_, B.mono, ?_, ?_, ?_⟩
  · intro k s h1 h2
    obtain ⟨j, sj, e1, e2, e3, e4, e5, e6, e7⟩ := B.ent k s h1 h2
    exact ⟨j, sj, e1, e2, e3, e4, e5, e6, on e7⟩
  · intro j sj h h1 h2 h3 h4
    exact B.clo j sj h h1 h2 (un h1 h2 h3) h4
  · intro hn j sj h h1 h2 h3
    exact B.brN hn j sj h h1 h2 (un h1 h2 h3)
  · intro L hL
    obtain ⟨j, sj, h, e1, e2, e3, e4, e5, e6⟩ := B.brS L hL
    exact ⟨j, sj, h, e1, e2, e3, e4, on e5, fun j' sj' h' h1 h2 h3 h4 => e6 j' sj' h' h1 h2 (un h1 h2 h3) h4⟩

theorem Bf.round {T : List Int} {lo hi turn slew : Int} {st : Found} {i : Nat} {b : Int} (B : Bf T lo hi turn slew st i b) {si : Seen} (hi' : st.1[i]? = some si) (hb : b = hvA lo turn si.1.2.2) :
    Bf T lo hi turn slew (roundH T lo hi turn slew i st) (i + 1) (((roundH T lo hi turn slew i st).1[i + 1]?).elim 0 (fun s => hvA lo turn s.1.2.2)) := by
  have e : roundH T lo hi turn slew i st = (hvL (hvA lo turn si.1.2.2) (hvB hi turn si.1.2.2 - hvA lo turn si.1.2.2 + 1).toNat).foldl (stepH T slew i) st := by
    unfold roundH; rw [hi']
  subst hb
  obtain ⟨c, d⟩ := Bf.fold (si := si) (hvB hi turn si.1.2.2 - hvA lo turn si.1.2.2 + 1).toNat st B hi' (fun k hk => by unfold mayH; omega)
  rw [← e] at c d
  exact c.over d (by omega) _ (fun s hs => by rw [hs]; exact Int.le_refl _)

theorem Bf.rnds {T : List Int} {lo hi turn slew : Int} (hT : T.length ≤ 11) (hodd : T.length % 2 = 1) (hx : ∀ y ∈ T, -10 ≤ y ∧ y ≤ 10) (hs : 0 ≤ slew) (h1 : -4 ≤ lo) (h2 : hi ≤ 4) : ∀ (m i : Nat) (st : Found), OkF T lo hi st → 2080 ≤ m + i →
    Bf T lo hi turn slew st i ((st.1[i]?).elim 0 (fun s => hvA lo turn s.1.2.2)) →
    ∃ i' b, (rounds T lo hi turn slew m i st).1.length ≤ i' ∧ Bf T lo hi turn slew (rounds T lo hi turn slew m i st) i' b
  | 0, i, st, hF, hm, B => ⟨i, _, by
      have := hF.length hT h1 h2
      show st.1.length ≤ i
      omega, B⟩
  | m + 1, i, st, hF, hm, B => by
    rw [rounds]
    by_cases hlt : i < st.1.length
    · rw [if_pos hlt]
      have hg : st.1[i]? = some st.1[i] := List.getElem?_eq_getElem hlt
      rw [hg] at B
      have e : roundH T lo hi turn slew i st = (hvL (hvA lo turn st.1[i].1.2.2) (hvB hi turn st.1[i].1.2.2 - hvA lo turn st.1[i].1.2.2 + 1).toNat).foldl (stepH T slew i) st := by
        unfold roundH; rw [hg]
      obtain ⟨a, _, _⟩ := OkF.fold (slew := slew) (i := i) hx hs hodd (hvL (hvA lo turn st.1[i].1.2.2) (hvB hi turn st.1[i].1.2.2 - hvA lo turn st.1[i].1.2.2 + 1).toNat) st hF hlt (fun x hx => by
        simp only [hvL, List.mem_map, List.mem_range] at hx
        obtain ⟨k, hk, rfl⟩ := hx
        unfold hvA hvB at *
        omega)
      rw [← e] at a
      exact Bf.rnds hT hodd hx hs h1 h2 m (i + 1) _ a (by omega) (B.round hg rfl)
    · rw [if_neg hlt]
      exact ⟨i, _, by omega, B⟩

theorem Bf.start {T : List Int} {lo hi turn slew : Int} : Bf T lo hi turn slew ([((0, 0, 0), -1, 0)], none) 0 (hvA lo turn 0) := by
  have one : ∀ {k : Nat} {s : Seen}, ([(((0, 0, 0), -1, 0) : Seen)] : List Seen)[k]? = some s → k = 0 ∧ s = ((0, 0, 0), -1, 0) := fun {k s} h => by
    cases k with
    | zero => simp at h; exact ⟨rfl, h.symm⟩
    | succ k => simp at h
  have no : ∀ {j : Nat} {sj : Seen} {h : Int}, ([(((0, 0, 0), -1, 0) : Seen)] : List Seen)[j]? = some sj → mayH lo hi turn sj.1 h → ¬ Done 0 (hvA lo turn 0) j h := fun {j sj h} h1 h2 h3 => by
    obtain ⟨rfl, rfl⟩ := one h1
    have := h2.1
    unfold Done at h3
    dsimp only at this
    omega
  refine ⟨rfl, ?_, ?_, ?_, ?_, ?_, ?_⟩
  · intro j s h
    obtain ⟨rfl, rfl⟩ := one h
    exact ⟨by decide, by decide⟩
  · intro k s h1 h2
    obtain ⟨rfl, rfl⟩ := one h1
    omega
  · intro k1 k2 s1 s2 h0 h12 h1 h2
    obtain ⟨rfl, rfl⟩ := one h1
    omega
  · intro j sj h h1 h2 h3
    exact absurd h3 (no h1 h2)
  · intro _ j sj h h1 h2 h3
    exact absurd h3 (no h1 h2)
  · intro L hL; cases hL

theorem found_bf {T : List Int} {lo hi turn slew : Int} (hk : (chkL T lo hi turn slew).2 = 0) : ∃ i b, (found T lo hi turn slew).1.length ≤ i ∧ Bf T lo hi turn slew (found T lo hi turn slew) i b := by
  obtain ⟨k1, k2, k3, k4, k5, k6, k7⟩ := chkL_ok hk
  refine Bf.rnds (T := T) (lo := lo) (hi := hi) (turn := turn) (slew := slew) k1 k2 k3 k4.1 k5.1 k6.2 2080 0 ([((0, 0, 0), -1, 0)], none) ?_ (by omega) Bf.start
  refine ⟨by simp, ?_, ?_⟩
  · intro s h
    simp at h
    subst h
    dsimp only
    omega
  · intro j s h
    cases j with
    | zero => simp at h; subst h; exact ⟨by decide, by decide⟩
    | succ j => simp at h

section
variable {T : List Int} {lo hi turn slew : Int} {st : Found} {i : Nat} {b : Int}
theorem Bf.leads (B : Bf T lo hi turn slew st i b) : ∀ (k : Nat) (s : Seen), st.1[k]? = some s → Leads T lo hi turn slew (wayL st.1 k) s.1 := by
  intro k
  induction k using Nat.strongRecOn with
  | _ k ih =>
    intro s hk
    rcases Nat.eq_zero_or_pos k with rfl | h0
    · rw [B.z] at hk; cases hk
      rw [wayL_zero B.z rfl]; exact .nil
    · obtain ⟨j, sj, e1, e2, e3, e4, e5, e6, _⟩ := B.ent k s hk h0
      rw [wayL_next B.ear hk e1, e6]
      exact .snoc (ih j e2 sj e3) e4 e5
theorem Bf.mono' (B : Bf T lo hi turn slew st i b) : ∀ (k2 k1 : Nat) (s1 s2 : Seen), k1 < k2 → st.1[k1]? = some s1 → st.1[k2]? = some s2 → SL (wayL st.1 k1) (wayL st.1 k2) := by
  intro k2
  induction k2 using Nat.strongRecOn with
  | _ k2 ih =>
    intro k1 s1 s2 h12 h1 h2
    obtain ⟨j2, sj2, e1, e2, e3, e4, e5, e6, _⟩ := B.ent k2 s2 h2 (by omega)
    rw [wayL_next B.ear h2 e1]
    rcases Nat.eq_zero_or_pos k1 with rfl | h0
    · rw [B.z] at h1; cases h1
      rw [wayL_zero B.z rfl]
      exact .inl (by simp)
    · obtain ⟨j1, sj1, f1, f2, f3, f4, f5, f6, _⟩ := B.ent k1 s1 h1 h0
      rw [wayL_next B.ear h1 f1]
      have hm := B.mono k1 k2 s1 s2 h0 h12 h1 h2
      rw [e1, f1] at hm
      rcases hm with hm | ⟨hm, hm'⟩
      · exact (ih j2 e2 j1 sj1 sj2 (by omega) f3 e3).snoc _ _
      · obtain rfl : j1 = j2 := by omega
        exact .inr ⟨by simp, lexB_last hm' _⟩
theorem Bf.le (B : Bf T lo hi turn slew st i b) {k1 k2 : Nat} {s1 s2 : Seen} (h : k1 ≤ k2) (h1 : st.1[k1]? = some s1) (h2 : st.1[k2]? = some s2) : SLe (wayL st.1 k1) (wayL st.1 k2) := by
  rcases Nat.lt_or_eq_of_le h with h | rfl
  · exact .inl (B.mono' k2 k1 s1 s2 h h1 h2)
  · exact .inr rfl
/-- All states that a sea leads to are found, by no later sea. -/
theorem Bf.all (B : Bf T lo hi turn slew st i b) (hlen : st.1.length ≤ i) {p : List Int} {s : St} (h : Leads T lo hi turn slew p s) : ∃ k sk, st.1[k]? = some sk ∧ sk.1 = s ∧ SLe (wayL st.1 k) p := by
  induction h with
  | nil => exact ⟨0, _, B.z, rfl, .inr (wayL_zero B.z rfl)⟩
  | @snoc p s h _ hm hw ih =>
    obtain ⟨j, sj, e1, rfl, e3⟩ := ih
    have hjl := get_lt e1
    obtain ⟨k, sk, f1, f2, f3⟩ := B.clo j sj h e1 hm (.inl (by omega)) hw
    refine ⟨k, sk, f1, f2, SLe.trans ?_ (e3.snoc (Int.le_refl h))⟩
    rcases Nat.eq_zero_or_pos k with rfl | h0
    · rw [wayL_zero B.z rfl]; exact .inl (.inl (by simp))
    · obtain ⟨j', sj', g1, g2, g3, _⟩ := B.ent k sk f1 h0
      rw [wayL_next B.ear f1 g1]
      rw [g1] at f3
      rcases f3 with f3 | ⟨f3, f4⟩
      · exact .inl ((B.mono' j j' sj' sj (by omega) g3 e1).snoc _ _)
      · obtain rfl : j' = j := by omega
        exact SLe.snoc (.inr rfl) f4
theorem Bf.whole (B : Bf T lo hi turn slew st i b) (hlen : st.1.length ≤ i) (hn : st.2 = none) (p : List Int) : ¬ Breaks T lo hi turn slew p := by
  rintro ⟨q, s, h, rfl, hl, hm, hw⟩
  obtain ⟨k, sk, e1, rfl, _⟩ := B.all hlen hl
  rw [B.brN hn k sk h e1 hm (.inl (by have := get_lt e1; omega))] at hw
  cases hw
theorem Bf.broken (B : Bf T lo hi turn slew st i b) (hlen : st.1.length ≤ i) {L : List Int} (hs : st.2 = some L) : Breaks T lo hi turn slew L ∧ ∀ p, Breaks T lo hi turn slew p → SLe L p := by
  obtain ⟨j, sj, h, e1, e2, e3, rfl, _, e6⟩ := B.brS L hs
  refine ⟨⟨_, sj.1, h, rfl, B.leads j sj e1, e2, e3⟩, ?_⟩
  rintro p ⟨q, s, h', rfl, hl, hm, hw⟩
  obtain ⟨k, sk, f1, rfl, f3⟩ := B.all hlen hl
  rcases e6 k sk h' f1 hm (.inl (by have := get_lt f1; omega)) hw with h7 | ⟨rfl, h7⟩
  · exact .inl (by
      have := (B.mono' k j sj sk h7 e1 f1).snoc h h'
      rcases f3 with f3 | f3
      · exact this.trans (f3.snoc h' h')
      · rw [← f3]; exact this)
  · exact f3.snoc h7
end

/-- What the search finds, in short. -/
theorem found_none {T : List Int} {lo hi turn slew : Int} (hk : (chkL T lo hi turn slew).2 = 0) (hn : (found T lo hi turn slew).2 = none) (p : List Int) : ¬ Breaks T lo hi turn slew p := by
  obtain ⟨i, b, hl, B⟩ := found_bf hk
  exact B.whole hl hn p
theorem found_some {T : List Int} {lo hi turn slew : Int} (hk : (chkL T lo hi turn slew).2 = 0) {L : List Int} (hs : (found T lo hi turn slew).2 = some L) : Breaks T lo hi turn slew L ∧ ∀ p, Breaks T lo hi turn slew p → SLe L p := by
  obtain ⟨i, b, hl, B⟩ := found_bf hk
  exact B.broken hl hs
theorem found_mem {T : List Int} {lo hi turn slew : Int} (hk : (chkL T lo hi turn slew).2 = 0) (s : St) : s ∈ (found T lo hi turn slew).1.map (·.1) ↔ ∃ p, Leads T lo hi turn slew p s := by
  obtain ⟨i, b, hl, B⟩ := found_bf hk
  constructor
  · intro h
    obtain ⟨q, hq, rfl⟩ := List.mem_map.1 h
    obtain ⟨k, hk⟩ := List.mem_iff_getElem?.1 hq
    exact ⟨_, B.leads k q hk⟩
  · rintro ⟨p, h⟩
    obtain ⟨k, sk, e1, rfl, _⟩ := B.all hl h
    exact List.mem_map.2 ⟨sk, List.mem_of_getElem? e1, rfl⟩

/-- A smaller sea. -/
theorem Leads.more {T : List Int} {lo hi turn lo' hi' turn' slew : Int} (h1 : lo ≤ lo') (h2 : hi' ≤ hi) (h3 : turn' ≤ turn) {p : List Int} {s : St} (h : Leads T lo' hi' turn' slew p s) : Leads T lo hi turn slew p s := by
  induction h with
  | nil => exact .nil
  | snoc _ hm hw ih => exact .snoc ih (by unfold mayH hvA hvB at *; omega) hw
theorem Breaks.more {T : List Int} {lo hi turn lo' hi' turn' slew : Int} (h1 : lo ≤ lo') (h2 : hi' ≤ hi) (h3 : turn' ≤ turn) {p : List Int} (h : Breaks T lo' hi' turn' slew p) : Breaks T lo hi turn slew p := by
  obtain ⟨q, s, h, e, hl, hm, hw⟩ := h
  exact ⟨q, s, h, e, hl.more h1 h2 h3, by unfold mayH hvA hvB at *; omega, hw⟩

end Go.Proofs.Ytgbckdmhmkpahaa

/-
  The exchanges of tools, in plain words (chapter 6).
-/
import Derived.Test.YtpnfgmgoafgcbaaGreatNms3
set_option linter.unusedVariables false
set_option linter.unusedSimpArgs false
set_option linter.unusedVariables false
namespace Go.Proofs.YtpnfgmgoafgcbaaGreat
open Go.RowKit Go.Shelf
/-- Two places exchanged. -/
def swp (l : List ByteArray) (i j : Nat) : List ByteArray := (l.set i (l.getD j ByteArray.empty)).set j (l.getD i ByteArray.empty)
theorem swp_len (l : List ByteArray) (i j : Nat) : (swp l i j).length = l.length := by simp [swp]
theorem swp_at {l : List ByteArray} {i j : Nat} (hi : i < l.length) (hj : j < l.length) (m : Nat) : (swp l i j)[m]? = if m = j then l[i]? else if m = i then l[j]? else l[m]? := by
  unfold swp
  rw [List.getElem?_set, List.getElem?_set]
  by_cases h1 : m = j
  · subst h1
    rw [if_pos rfl, if_pos rfl, if_pos (by simpa using hj)]
    rw [List.getD_eq_getElem?_getD, List.getElem?_eq_getElem hi]; rfl
  · rw [if_neg (fun h => h1 h.symm), if_neg h1]
    by_cases h2 : m = i
    · subst h2
      rw [if_pos rfl, if_pos hi, if_pos rfl, List.getD_eq_getElem?_getD, List.getElem?_eq_getElem hj]; rfl
    · rw [if_neg (fun h => h2 h.symm), if_neg h2]
/-- The place of a string. -/
def idxN (l : List ByteArray) (s : ByteArray) : Nat := l.findIdx (fun e => sameS e s)
theorem idxN_mem {l : List ByteArray} {s : ByteArray} (h : s ∈ l) : idxN l s < l.length ∧ l[idxN l s]? = some s ∧ ∀ m, m < idxN l s → l[m]? ≠ some s := by
  have h1 : idxN l s < l.length := List.findIdx_lt_length_of_exists ⟨s, h, sameS_t.2 rfl⟩
  refine ⟨h1, ?_, fun m hm he => ?_⟩
  · have h2 := List.findIdx_getElem (xs := l) (p := fun e => sameS e s) (w := h1)
    rw [List.getElem?_eq_getElem h1]
    exact congrArg some (sameS_t.1 h2)
  · have h2 := List.not_of_lt_findIdx (xs := l) (p := fun e => sameS e s) hm
    obtain ⟨hl, e⟩ := List.getElem?_eq_some_iff.1 he
    rw [sameS_t.2 e] at h2; cases h2
def NoTwo (l : List ByteArray) : Prop := ∀ (i j : Nat) (s : ByteArray), l[i]? = some s → l[j]? = some s → i = j
theorem nmF_two : ∀ {xs d : List ByteArray}, nmF d xs = 0 → NoTwo d → NoTwo (d ++ xs)
  | [], d, _, h => by simpa using h
  | s :: r, d, h0, h => by
    rw [nmF] at h0
    split at h0
    · omega
    · split at h0
      · omega
      · rename_i h1 h2
        have h3 : s ∉ d := hasS_f.1 (by cases hh : hasS d s with | false => rfl | true => exact absurd hh h2)
        have h4 : NoTwo (d ++ [s]) := by
          intro i j x hi hj
          have hlt : ∀ {k : Nat} {x : ByteArray}, (d ++ [s])[k]? = some x → k ≤ d.length := fun {k x} hk => by
            have := (List.getElem?_eq_some_iff.1 hk).1; simp at this; omega
          have hd : ∀ {k : Nat} {x : ByteArray}, (d ++ [s])[k]? = some x → k < d.length → d[k]? = some x := fun {k x} hk hl => by
            rwa [List.getElem?_append_left hl] at hk
          have he : ∀ {k : Nat} {x : ByteArray}, (d ++ [s])[k]? = some x → ¬ k < d.length → x = s := fun {k x} hk hl => by
            have h9 := hlt hk
            rw [List.getElem?_append_right (by omega), show k - d.length = 0 by omega] at hk
            simpa using hk.symm
          by_cases a : i < d.length <;> by_cases b : j < d.length
          · exact h i j x (hd hi a) (hd hj b)
          · exact absurd (List.mem_of_getElem? (hd hi a)) (by rw [he hj b]; exact h3)
          · exact absurd (List.mem_of_getElem? (hd hj b)) (by rw [he hi a]; exact h3)
          · have := hlt hi; have := hlt hj; omega
        have h5 := nmF_two h0 h4
        simpa using h5
theorem nmE_two {xs : List ByteArray} (h : nmE xs = 0) : NoTwo xs := by
  have := nmF_two (d := []) h (by intro i j s hi; simp at hi)
  simpa using this
/-- A step of the exchanges: the i-th wanted tool to its place. -/
def wnS (want : List ByteArray) (st : List ByteArray × List Ce) (i : Nat) : List ByteArray × List Ce :=
  if idxN st.1 (want.getD i ByteArray.empty) = i then st else (swp st.1 i (idxN st.1 (want.getD i ByteArray.empty)), st.2 ++ [((i : Int), (idxN st.1 (want.getD i ByteArray.empty) : Int))])
def wnR (rack want : List ByteArray) (n : Nat) : List ByteArray × List Ce := (List.range n).foldl (wnS want) (rack, [])
theorem wnR_step (rack want : List ByteArray) (n : Nat) : wnR rack want (n + 1) = wnS want (wnR rack want n) n := by
  unfold wnR; rw [List.range_succ, List.foldl_append]; rfl
def wnA (l : List ByteArray) (P : List Ce) : List ByteArray := P.foldl (fun l p => swp l p.1.toNat p.2.toNat) l
structure WnI (rack want : List ByteArray) (i : Nat) (st : List ByteArray × List Ce) : Prop where
  len : st.1.length = want.length
  two : NoTwo st.1
  all : ∀ s ∈ want, s ∈ st.1
  fst : ∀ m, m < i → st.1[m]? = want[m]?
  ap : wnA rack st.2 = st.1
  ok : ∀ (x : Nat) (p : Ce), st.2[x]? = some p → (0 ≤ p.1 ∧ p.1 < (i : Int) ∧ p.1 < p.2 ∧ p.2 < (want.length : Int)) ∧ ∀ q : Ce, st.2[x + 1]? = some q → p.1 < q.1
theorem wnI_idx {rack want : List ByteArray} {i : Nat} {st : List ByteArray × List Ce} (h : WnI rack want i st) (hw : NoTwo want) {s : ByteArray} (hs : want[i]? = some s) :
    idxN st.1 s < want.length ∧ st.1[idxN st.1 s]? = some s ∧ i ≤ idxN st.1 s ∧ want.getD i ByteArray.empty = s := by
  obtain ⟨h1, h2, h3⟩ := idxN_mem (h.all s (List.mem_of_getElem? hs))
  refine ⟨by rw [← h.len]; exact h1, h2, ?_, by rw [List.getD_eq_getElem?_getD, hs]; rfl⟩
  refine Nat.le_of_not_lt fun hlt => ?_
  have h4 := h.fst _ hlt
  rw [h2] at h4
  have := hw _ _ s h4.symm hs
  omega
theorem wnI_step {rack want : List ByteArray} {i : Nat} {st : List ByteArray × List Ce} (h : WnI rack want i st) (hw : NoTwo want) (hi : i < want.length) : WnI rack want (i + 1) (wnS want st i) := by
  obtain ⟨s, hs⟩ : ∃ s, want[i]? = some s := ⟨_, List.getElem?_eq_getElem hi⟩
  obtain ⟨h1, h2, h3, h4⟩ := wnI_idx h hw hs
  unfold wnS
  rw [h4]
  generalize idxN st.1 s = j at *
  split
  · rename_i he
    subst he
    refine ⟨h.len, h.two, h.all, fun m hm => ?_, h.ap, fun x p hx => ?_⟩
    · by_cases hmi : m = j
      · subst hmi; rw [h2, hs]
      · exact h.fst m (by omega)
    · obtain ⟨⟨a, b, c, d⟩, e⟩ := h.ok x p hx
      exact ⟨⟨a, by omega, c, d⟩, e⟩
  · rename_i he
    have hl := h.len
    have hsw := swp_at (l := st.1) (i := i) (j := j) (by omega) (by omega)
    refine ⟨by rw [swp_len]; exact hl, fun a b x ha hb => ?_, fun x hx => ?_, fun m hm => ?_, ?_, fun x p hx => ?_⟩
    · dsimp only at ha hb
      rw [hsw] at ha hb
      have hij : ∀ {a b : Nat} {x : ByteArray}, st.1[a]? = some x → st.1[b]? = some x → a = b := fun {a b x} => h.two a b x
      split at ha <;> split at hb
      · omega
      · split at hb
        · have := hij ha hb; omega
        · have := hij ha hb; omega
      · split at ha
        · have := hij ha hb; omega
        · have := hij ha hb; omega
      · split at ha <;> split at hb
        · omega
        · have := hij ha hb; omega
        · have := hij ha hb; omega
        · exact hij ha hb
    · obtain ⟨m, hm⟩ := List.mem_iff_getElem?.1 (h.all x hx)
      refine List.mem_iff_getElem?.2 ?_
      by_cases a : m = i
      · exact ⟨j, by dsimp only; rw [hsw, if_pos rfl, ← a]; exact hm⟩
      · by_cases b : m = j
        · exact ⟨i, by dsimp only; rw [hsw, if_neg (by omega), if_pos rfl, ← b]; exact hm⟩
        · exact ⟨m, by dsimp only; rw [hsw, if_neg b, if_neg a]; exact hm⟩
    · dsimp only
      rw [hsw, if_neg (by omega)]
      split
      · rename_i a; rw [a, h2, hs]
      · exact h.fst m (by omega)
    · dsimp only
      unfold wnA
      rw [List.foldl_append]
      show swp (wnA rack st.2) _ _ = _
      rw [h.ap]
      rfl
    · dsimp only at hx ⊢
      by_cases hxl : x < st.2.length
      · rw [List.getElem?_append_left hxl] at hx
        obtain ⟨⟨a, b, c, d⟩, e⟩ := h.ok x p hx
        refine ⟨⟨a, by omega, c, d⟩, fun q hq => ?_⟩
        by_cases hyl : x + 1 < st.2.length
        · rw [List.getElem?_append_left hyl] at hq; exact e q hq
        · rw [List.getElem?_append_right (by omega), show x + 1 - st.2.length = 0 by omega] at hq
          simp at hq
          rw [← hq]; exact b
      · have hx0 := (List.getElem?_eq_some_iff.1 hx).1
        simp at hx0
        rw [List.getElem?_append_right (by omega), show x - st.2.length = 0 by omega] at hx
        simp at hx
        refine ⟨by rw [← hx]; dsimp only; omega, fun q hq => ?_⟩
        rw [List.getElem?_eq_none (by simp; omega)] at hq
        cases hq
theorem wnI_run {rack want : List ByteArray} (hl : rack.length = want.length) (hr : NoTwo rack) (hw : NoTwo want) (ha : ∀ s ∈ want, s ∈ rack) : ∀ n, n ≤ want.length → WnI rack want n (wnR rack want n)
  | 0, _ => ⟨hl, hr, ha, fun m hm => by omega, rfl, fun x p hx => by simp [wnR] at hx⟩
  | n + 1, h => by rw [wnR_step]; exact wnI_step (wnI_run hl hr hw ha n (by omega)) hw (by omega)
theorem wnI_end {rack want : List ByteArray} {st : List ByteArray × List Ce} (h : WnI rack want want.length st) : st.1 = want := by
  apply List.ext_getElem?
  intro m
  by_cases hm : m < want.length
  · exact h.fst m hm
  · rw [List.getElem?_eq_none (by rw [h.len]; omega), List.getElem?_eq_none (by omega)]
theorem wnS_len (want : List ByteArray) (st : List ByteArray × List Ce) (i : Nat) : (wnS want st i).2.length ≤ st.2.length + 1 := by
  unfold wnS
  split
  · omega
  · simp
theorem wnR_len (rack want : List ByteArray) : ∀ n, (wnR rack want n).2.length ≤ n
  | 0 => by simp [wnR]
  | n + 1 => by rw [wnR_step]; have h1 := wnS_len want (wnR rack want n) n; have h2 := wnR_len rack want n; omega
end Go.Proofs.YtpnfgmgoafgcbaaGreat

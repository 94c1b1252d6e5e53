/-
  The reference's search and the shortest paths (chapter 6), in plain words: the path that falls along the flood's numbers is the one that the search keeps.
-/
import Derived.Test.YtpnfgmgoafgcbaaGreatA10
import Derived.Test.YtpnfgmgoafgcbaaGreatDn3
set_option linter.unusedVariables false
namespace Go.Proofs.YtpnfgmgoafgcbaaGreat
def exP (p : List Mv) (m : Mv) : List Mv := p ++ [m]
def ltm (a b : Mv) : Prop := a.1 < b.1 ∨ (a.1 = b.1 ∧ a.2 < b.2)
/-- Lexicographic order of paths that are equally long. -/
def lexP : List Mv → List Mv → Prop
  | a :: l, b :: r => ltm a b ∨ (a = b ∧ lexP l r)
  | _, _ => False
def ltP (a b : List Mv) : Prop := a.length < b.length ∨ (a.length = b.length ∧ lexP a b)
theorem ltm_tr {a b c : Mv} (h : ltm a b) (k : ltm b c) : ltm a c := by unfold ltm at *; omega
theorem lexP_tr : ∀ {a b c : List Mv}, lexP a b → lexP b c → lexP a c
  | [], _, _, h, _ => h.elim
  | _ :: _, [], _, h, _ => h.elim
  | _ :: _, _ :: _, [], _, k => k.elim
  | a :: l, b :: m, c :: r, h, k => by
    rcases h with h | ⟨rfl, h⟩
    · rcases k with k | ⟨rfl, k⟩
      · exact .inl (ltm_tr h k)
      · exact .inl h
    · rcases k with k | ⟨rfl, k⟩
      · exact .inl k
      · exact .inr ⟨rfl, lexP_tr h k⟩
theorem lexP_app : ∀ {a b : List Mv} (m m' : Mv), lexP a b → lexP (a ++ [m]) (b ++ [m'])
  | [], _, _, _, h => h.elim
  | _ :: _, [], _, _, h => h.elim
  | a :: l, b :: r, m, m', h => by
    rcases h with h | ⟨rfl, h⟩
    · exact .inl h
    · exact .inr ⟨rfl, lexP_app m m' h⟩
theorem lexP_last : ∀ (a : List Mv) {m m' : Mv}, ltm m m' → lexP (a ++ [m]) (a ++ [m'])
  | [], _, _, h => .inl h
  | _ :: l, _, _, h => .inr ⟨rfl, lexP_last l h⟩
theorem ordQ : OrdB exP ltP ltm where
  tr := fun {a b c} h k => by
    rcases h with h | ⟨h, h'⟩
    · rcases k with k | ⟨k, _⟩ <;> exact .inl (by omega)
    · rcases k with k | ⟨k, k'⟩
      · exact .inl (by omega)
      · exact .inr ⟨h.trans k, lexP_tr h' k'⟩
  mono := fun {a b} m m' h => by
    unfold exP
    rcases h with h | ⟨h, h'⟩
    · exact .inl (by simp; omega)
    · exact .inr ⟨by simp [h], lexP_app m m' h'⟩
  last := fun a {m m'} h => .inr ⟨by simp [exP], lexP_last a h⟩
  up := fun a m => .inl (by simp [exP])
theorem allM_srt (s : Sc) : (allM s).Pairwise ltm := by
  unfold allM
  generalize s.L.length + 1 = n
  induction n with
  | zero => simp
  | succ n ih =>
    rw [List.range_succ, List.flatMap_append, List.pairwise_append]
    refine ⟨ih, ?_, fun a ha b hb => ?_⟩
    · simp [ltm]
    · simp only [List.mem_flatMap, List.mem_range, List.mem_cons, List.not_mem_nil, or_false] at ha hb
      obtain ⟨j, hj, ha⟩ := ha
      obtain ⟨k, hk, hb⟩ := hb
      have hk : k = n := by simpa using hk
      subst hk
      rcases ha with rfl | rfl <;> rcases hb with rfl | rfl <;> exact .inl (by simp; omega)
theorem allK_srt (s : Sc) (p : Ps) : (allK s p).Pairwise fun a b => ltm a.1 b.1 := by
  unfold allK mvs
  rw [List.pairwise_map]
  exact (allM_srt s).filter _
/-- What the search finds, in order: the poses with the least path to each. -/
def srP (s : Sc) (p : Ps) : List (Ps × List Mv) := runB exP (allK s) ((alP s).length + 1) 0 [(p, [])]
structure SrR (s : Sc) (p : Ps) (L : List (Ps × List Mv)) : Prop where
  nd : (L.map (·.1)).Nodup
  srt : ∀ (j k : Nat) (x y : Ps × List Mv), j < k → L[j]? = some x → L[k]? = some y → ltP x.2 y.2
  ok : ∀ x ∈ L, POk s x.1 ∧ freeP s x.1 = true ∧ Lds (allK s) p x.2 x.1
  all : ∀ q z, Lds (allK s) p q z → ∃ c, (z, c) ∈ L ∧ (ltP c q ∨ c = q)
theorem foldl_exP : ∀ (p a : List Mv), p.foldl exP a = a ++ p
  | [], a => by simp
  | m :: p, a => by simp only [List.foldl_cons, foldl_exP p, exP, List.append_assoc, List.singleton_append]
theorem srP_r {s : Sc} {p : Ps} (hp : POk s p) (hf : freeP s p = true) : SrR s p (srP s p) := by
  have B0 : BfB exP (allK s) ltP [p] (fun x c => POk s x ∧ freeP s x = true ∧ Lds (allK s) p c x) [(p, ([] : List Mv))] 0 (nxB (allK s) [(p, ([] : List Mv))] 0) := by
    refine ⟨by simp, fun j k x y hjk hx hy => ?_, fun j m y hy hj k x hx => ?_, fun j y m q hy hmq hj => ?_, fun x hx => ?_, by simp⟩
    · have := (List.getElem?_eq_some_iff.1 hy).1
      simp at this; omega
    · have h1 := (List.getElem?_eq_some_iff.1 hx).1
      have h2 := (List.getElem?_eq_some_iff.1 hy).1
      simp at h1 h2
      subst h1 h2
      simp at hx hy
      subst hx hy
      exact ordQ.up _ _
    · rcases hj with hj | ⟨rfl, hj⟩
      · omega
      · rw [nxB_some hy] at hj
        exact absurd hmq hj
    · have : x = (p, []) := by simpa using hx
      subst this
      exact ⟨hp, hf, Lds.nil p⟩
  obtain ⟨i, hi, B⟩ := BfB.run ordQ (ok := fun x c => POk s x ∧ freeP s x = true ∧ Lds (allK s) p c x) (fun x c m q h hm => ⟨(allK_ok h.1 hm).1, (allK_ok h.1 hm).2, Lds.snoc h.2.2 hm⟩) (fun x _ _ => allK_srt s x) (N := (alP s).length)
    (fun L h1 h2 => by
      have := nodup_le (L.map (·.1)) (alP s) h1 (fun p hp => by obtain ⟨x, hx, rfl⟩ := List.mem_map.1 hp; exact mem_alP (h2 x hx).1)
      simpa using this)
    ((alP s).length + 1) 0 [(p, [])] (by omega) B0
  refine ⟨B.nd, B.srt, B.ok, fun q z h => ?_⟩
  have := B.whole ordQ hi (e0 := []) (fun b hb => by
    have : b = p := by simpa using hb
    subst this
    exact (runB_pre _ _ _ _ _).subset (by simp)) (b := p) (by simp) h
  rw [foldl_exP] at this
  exact this
end Go.Proofs.YtpnfgmgoafgcbaaGreat

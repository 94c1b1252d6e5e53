/-
  A slice of states, sorted by slices.SortFunc (chapter 2), in plain words.
-/
import Derived.Test.YtgbckdmhmkpahaaOrder
set_option linter.unusedVariables false
namespace Go.Proofs.Ytgbckdmhmkpahaa
open Go.RowKit Go.Shelf Go.Sort

theorem flatK_get {α : Type} {enc : α → List Value} {k : Nat} (hk : ∀ x, (enc x).length = k) : ∀ (l : List α) (j : Nat) (s : α) (r : Nat), l[j]? = some s → r < k → (l.flatMap enc)[j * k + r]? = (enc s)[r]?
  | [], j, s, r, h, _ => by simp at h
  | x :: l, 0, s, r, h, hr => by
    simp at h; subst h
    rw [List.flatMap_cons, List.getElem?_append_left (by rw [hk]; omega)]; simp
  | x :: l, j + 1, s, r, h, hr => by
    have e : (j + 1) * k + r - (enc x).length = j * k + r := by rw [hk, Nat.add_mul]; omega
    rw [List.flatMap_cons, List.getElem?_append_right (by rw [hk, Nat.add_mul]; omega), e]
    exact flatK_get hk l j s r (by simpa using h) hr
theorem flatK_len {α : Type} {enc : α → List Value} {k : Nat} (hk : ∀ x, (enc x).length = k) : ∀ l : List α, (l.flatMap enc).length = l.length * k
  | [] => by simp
  | x :: l => by rw [List.flatMap_cons, List.length_append, flatK_len hk l, hk, List.length_cons, Nat.add_mul]; omega
theorem flatK_list {α : Type} [Inhabited α] {enc : α → List Value} {k : Nat} (hk : ∀ x, (enc x).length = k) (hp : 0 < k) (d : Array α) : (flatK enc k d).toList = d.toList.flatMap enc := by
  apply List.ext_getElem?
  intro t
  by_cases ht : t < d.size * k
  · have h1 : t / k < d.size := Nat.div_lt_of_lt_mul (by rwa [Nat.mul_comm])
    have h2 : t % k < k := Nat.mod_lt _ hp
    have h3 := flatK_get hk d.toList (t / k) d[t / k] (t % k) (by simp [h1]) h2
    have h4 : t / k * k + t % k = t := by rw [Nat.mul_comm]; exact Nat.div_add_mod t k
    rw [h4] at h3
    rw [h3]
    have h5 := get_flatK enc k d t ht
    rw [getElem!_pos _ t (by simpa using ht)] at h5
    rw [Array.getElem?_toList, Array.getElem?_eq_getElem (by simpa using ht), h5, getElem!_pos d _ h1]
    rw [getElem!_pos _ _ (by rw [hk]; exact h2), List.getElem?_eq_getElem (by rw [hk]; exact h2)]
  · rw [List.getElem?_eq_none (by simpa using ht), List.getElem?_eq_none (by rw [flatK_len hk]; simpa using ht)]

theorem SlV.of_holdsK {α : Type} [Inhabited α] {enc : α → List Value} {k : Nat} {w : World} {blk off : Nat} {d : Array α} (hk : ∀ x, (enc x).length = k) (hp : 0 < k) (h : HoldsK enc k w blk off d) (hb : blk < w.heap.size) : SlV w (some ⟨blk, off, none⟩) (d.toList.flatMap enc) := by
  intro j u hj
  rw [← flatK_list hk hp] at hj
  have hlt : j < (flatK enc k d).size := by
    rcases Nat.lt_or_ge j (flatK enc k d).size with h1 | h1
    · exact h1
    · rw [List.getElem?_eq_none (by simpa using h1)] at hj; cases hj
  refine ⟨blk, off, rfl, hb, (h j hlt).1.trans ?_⟩
  rw [getElem!_pos _ j hlt]
  rw [Array.getElem?_toList, Array.getElem?_eq_getElem hlt] at hj
  simpa using hj
theorem holdsK_own {α : Type} [Inhabited α] {enc : α → List Value} {k : Nat} {w : World} {base g cap : Nat} {e : TypeId} {d : Array α} (hk : ∀ x, (enc x).length = k) (hp : 0 < k)
    (h : w.ownsRow base e k (.slice (some ⟨g, 0, none⟩) d.size cap) d.size (d.toList.flatMap enc)) : HoldsK enc k w g 0 d := by
  intro j hj
  have hj' : j < d.size * k := by simpa using hj
  have c := h.cellAt j (by simpa using hj')
  rw [← flatK_list hk hp] at c
  refine ⟨?_, by simpa using h.frozenAt j⟩
  rw [Nat.zero_add, c, getElem!_pos _ j hj, Array.getElem?_toList, Array.getElem?_eq_getElem hj]; rfl

theorem cmpI_lt (x y : Int) : Lib.compareInt x y = if x < y then -1 else if y < x then 1 else 0 := rfl
/-- One state before another. -/
def ltS (s t : St3) : Bool := decide (s.1 < t.1 ∨ s.1 = t.1 ∧ (s.2.1 < t.2.1 ∨ s.2.1 = t.2.1 ∧ s.2.2 < t.2.2))
theorem ltS_iff {s t : St3} : ltS s t = true ↔ s.1 < t.1 ∨ s.1 = t.1 ∧ (s.2.1 < t.2.1 ∨ s.2.1 = t.2.1 ∧ s.2.2 < t.2.2) := by simp [ltS]
theorem ordS_lt (s t : St3) : ltOf ordS s t = ltS s t := by
  rw [Bool.eq_iff_iff, ltS_iff]
  simp only [ltOf, ordS, fstE, cmpI_lt]
  by_cases h1 : s.1 < t.1
  · simp [h1]
  · by_cases h2 : t.1 < s.1
    · simp [h1, h2]; omega
    · have e : s.1 = t.1 := by omega
      by_cases h3 : s.2.1 < t.2.1
      · simp [h3, e]
      · by_cases h4 : t.2.1 < s.2.1
        · simp [h3, h4, e]; omega
        · have e' : s.2.1 = t.2.1 := by omega
          by_cases h5 : s.2.2 < t.2.2
          · simp [h5, e, e']
          · by_cases h6 : t.2.2 < s.2.2 <;> simp [h5, h6, e, e']
theorem ordS_swo : SWO (ltOf ordS) where
  irrefl x := by rw [ordS_lt, ← Bool.not_eq_true, ltS_iff]; omega
  trans x y z h1 h2 := by rw [ordS_lt, ltS_iff] at *; omega
  ntrans x y z h1 h2 := by rw [ordS_lt, ← Bool.not_eq_true, ltS_iff] at *; omega
theorem ltS_total {s t : St3} (h1 : ltS s t = false) (h2 : ltS t s = false) : s = t := by
  rw [← Bool.not_eq_true, ltS_iff] at h1 h2
  obtain ⟨a, b, c⟩ := s
  obtain ⟨x, y, z⟩ := t
  dsimp only at h1 h2
  have e1 : a = x := by omega
  have e2 : b = y := by omega
  have e3 : c = z := by omega
  rw [e1, e2, e3]

def insS (x : St3) : List St3 → List St3
  | [] => [x]
  | y :: l => if ltS y x then y :: insS x l else x :: y :: l
def sortS : List St3 → List St3
  | [] => []
  | x :: l => insS x (sortS l)
theorem insS_perm (x : St3) : ∀ l, (insS x l).Perm (x :: l)
  | [] => List.Perm.refl _
  | y :: l => by
    unfold insS
    split
    · exact ((insS_perm x l).cons y).trans (List.Perm.swap _ _ _)
    · exact List.Perm.refl _
theorem sortS_perm : ∀ l, (sortS l).Perm l
  | [] => List.Perm.refl _
  | x :: l => (insS_perm x (sortS l)).trans ((sortS_perm l).cons x)
abbrev SortedS (l : List St3) : Prop := l.Pairwise fun a b => ltS b a = false
theorem insS_sorted (x : St3) : ∀ l, SortedS l → SortedS (insS x l)
  | [], _ => by simp [insS]
  | y :: l, h => by
    have h' := List.pairwise_cons.1 h
    unfold insS
    split
    · rename_i hxy
      refine List.pairwise_cons.2 ⟨fun z hz => ?_, insS_sorted x l h'.2⟩
      rcases List.mem_cons.1 ((insS_perm x l).subset hz) with rfl | hz
      · rw [← Bool.not_eq_true, ltS_iff]; rw [ltS_iff] at hxy; omega
      · exact h'.1 z hz
    · rename_i hxy
      refine List.pairwise_cons.2 ⟨fun z hz => ?_, h⟩
      rcases List.mem_cons.1 hz with rfl | hz
      · simpa using hxy
      · have := h'.1 z hz
        rw [← Bool.not_eq_true, ltS_iff] at this ⊢
        rw [ltS_iff] at hxy
        omega
theorem sortS_sorted : ∀ l, SortedS (sortS l)
  | [] => List.Pairwise.nil
  | x :: l => insS_sorted x _ (sortS_sorted l)
theorem sorted_unique (l m : List St3) (hl : SortedS l) (hm : SortedS m) (h : l.Perm m) : l = m :=
  h.eq_of_pairwise (fun _ _ _ _ h1 h2 => ltS_total h2 h1) hl hm

theorem sorted_of {n : Nat} {d d' : Array St3} (hn : n = d.size) (hp : PermIn 0 n d d') (hs : SortedIn (ltOf ordS) 0 n d') : d'.toList = sortS d.toList := by
  subst hn
  obtain ⟨hz, _, hp⟩ := hp
  have e1 : (d'.extract 0 d.size).toList = d'.toList := by rw [← hz]; simp
  have e2 : (d.extract 0 d.size).toList = d.toList := by simp
  rw [e1, e2] at hp
  refine sorted_unique _ _ ?_ (sortS_sorted _) (hp.trans (sortS_perm _).symm)
  unfold SortedS
  rw [List.pairwise_iff_getElem]
  intro i j hi hj hij
  have hi' : i < d'.size := by simpa using hi
  have hj' : j < d'.size := by simpa using hj
  have := hs i j (Nat.zero_le _) hij (by omega)
  rw [ordS_lt, getElem!_pos d' j hj', getElem!_pos d' i hi'] at this
  simpa using this

theorem cmpLays_c (blk off size : Nat) (w : World) : CmpLays Try.prog 83 #[] st3V 3 ordS blk off size w := fun m os dk hs x y => by
  refine (order_c x.1 x.2.1 x.2.2 y.1 y.2.1 y.2.2 _).mono ?_
  rintro e w' ⟨rfl, rfl⟩
  exact ⟨rfl, 1, _, by rw [alloc_eq_grow, alloc_eq_grow, alloc_eq_grow, grow_grow, grow_grow]; rfl⟩

theorem below_putK {α : Type} {enc : α → Value} {B : Nat} {w0 w : World} {g q : Nat} {d : Array α} [Inhabited α] (h : RowKit.Below B w0 w) (hg : B ≤ g) : RowKit.Below B w0 (putRow enc (Sort.ahead w q) g 0 d) :=
  ⟨h.os, h.tape, h.output, by simpa [putRow, mapBlock, Sort.ahead] using h.size, fun k hk => by
    rw [← h.block k hk]
    simp [putRow, mapBlock, Sort.ahead, Array.getElem?_modify, show g ≠ k by omega]⟩

/-- slices.SortFunc on states: the slice holds the sorted list. -/
theorem sort_c (d : Array St3) (g cap base : Nat) (w : World) (hg : base ≤ g) (hd : d.size ≤ 100000) (h : w.ownsRow base 42 3 (.slice (some ⟨g, 0, none⟩) d.size cap) d.size (d.toList.flatMap st3V)) :
    Calls Try.prog 82 #[.slice (some ⟨g, 0, none⟩) d.size cap, .func (.func 83) #[] #[]] w fun e w' => e = .returned (.tuple #[]) ∧ SlV w' (some ⟨g, 0, none⟩) ((sortS d.toList).flatMap st3V) ∧ Below base w w' := by
  have hlen : ∀ x : St3, (st3V x).length = 3 := fun _ => rfl
  have hgl : g < w.heap.size := by
    rcases h.2 with ⟨e, _⟩ | ⟨k, _, _, e, _, hh, _⟩
    · cases e
    · cases e; exact (Array.getElem?_eq_some_iff.1 hh).1
  have hH := holdsK_own hlen (by omega) h
  refine (AnyQ.slices_SortFunc Try.sortWS 3 Try.isAgg42 Try.sizeOf42 st3V hlen (fun x v hv => by simp [st3V] at hv; rcases hv with rfl | rfl | rfl <;> rfl) ordS ordS_swo 83 #[] g 0 cap d w (enters_of Try.func83 (by kernel_rfl) rfl) (cmpLays_c g 0 d.size w) hH hgl (by omega)).mono ?_
  rintro e w' ⟨rfl, d', n, os, hp, hs, rfl⟩
  have e1 := sorted_of rfl hp hs
  refine ⟨rfl, ?_, ?_⟩
  · rw [← e1]
    refine SlV.of_holdsK hlen (by omega) ?_ ?_
    · exact holdsK_grow st3V 3 _ os g 0 d' (by simpa [putRowK, putRow, mapBlock, Sort.ahead] using hgl) (holdsK_putRowK st3V 3 _ g 0 d d' (holdsK_ahead st3V 3 _ _ g 0 d hH) hp.1)
    · simp [sortWorldK, grow, putRowK, putRow, mapBlock, Sort.ahead]; omega
  · have hb : Below base w (putRowK st3V 3 (Sort.ahead w n) g 0 d') := below_putK (Below.refl _ _) hg
    refine hb.trans ⟨rfl, rfl, rfl, by simp [sortWorldK, grow], fun k hk => ?_⟩
    have hk' : k < (putRowK st3V 3 (Sort.ahead w n) g 0 d').heap.size := by have := hb.size; omega
    simp only [sortWorldK, grow]
    rw [Array.getElem?_append_left hk']

end Go.Proofs.Ytgbckdmhmkpahaa

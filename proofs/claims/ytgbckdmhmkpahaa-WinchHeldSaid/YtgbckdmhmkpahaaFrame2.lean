/-
  How a slice of structs of ints and a WinchLatched are opened, in plain words, for the statements' proofs.
-/
import Derived.Test.YtgbckdmhmkpahaaFrame
import Derived.Test.YtgbckdmhmkpahaaSortW
set_option linter.unusedVariables false
namespace Go.Proofs.Ytgbckdmhmkpahaa
open Go.RowKit Go.Shelf Go.ChangeShapes Go.WideShapes Go.ChangeAt Go.Deep

/-- Three ints as a triple. -/
theorem list3' {l : List Int} (h : l.length = 3) : ∃ s : St3, l = [s.1, s.2.1, s.2.2] := by
  obtain ⟨a, b, c, rfl⟩ := list3 h
  exact ⟨(a, b, c), rfl⟩

section
variable {H : Type} {enc : TypeId × Value → H} {P : Program} {w : World} {base : Nat} {spare : Nat → Bool} {held : Bool}

theorem exists_list {α : Type} {Q : Nat → α → Prop} : ∀ n, (∀ i, i < n → ∃ x, Q i x) → ∃ l : List α, l.length = n ∧ ∀ i x, l[i]? = some x → Q i x
  | 0, _ => ⟨[], rfl, fun i x h => by simp at h⟩
  | n + 1, h => by
    obtain ⟨l, hl, hq⟩ := exists_list n (fun i hi => h i (by omega))
    obtain ⟨x, hx⟩ := h n (by omega)
    refine ⟨l ++ [x], by simp [hl], fun i y hy => ?_⟩
    rcases Nat.lt_or_ge i l.length with h1 | h1
    · rw [List.getElem?_append_left h1] at hy; exact hq i y hy
    · rw [List.getElem?_append_right h1] at hy
      have : i = n := by
        rcases Nat.lt_or_ge (i - l.length) 1 with h2 | h2
        · omega
        · rw [List.getElem?_eq_none (by simpa using h2)] at hy; cases hy
      subst this
      rw [hl, Nat.sub_self] at hy
      simp at hy; subst hy; exact hx

/-- A slice of structs of three ints that came in reads as a list. -/
theorem open_sl3 {t e : TypeId} {fs : Array Field} {v : Value} {d : DataW H} {p : List MemPlace} {r : Reach} {b0 : Nat} (ht : P.underlying t = some (.slice e)) (he : P.underlying e = some (.struct fs)) (hi : intFields P fs = true) (hC : P.cellsOf e = fs.size) (h3 : fs.size = 3)
    (hv : Value.okWide P w r b0 t v) (h : DataW.Trod enc P w base spare held t v d p) : ∃ (A : Option Addr) (c : Nat) (xs : List St3), v = .slice A xs.length c ∧ SlV w A (xs.flatMap st3V) ∧ xs.length ≤ 9223372036854775807 ∧ ∀ s ∈ xs, (Lit.int .i64 s.1).wf = true ∧ (Lit.int .i64 s.2.1).wf = true ∧ (Lit.int .i64 s.2.2).wf = true := by
  obtain ⟨a0, len, cap, rfl⟩ := okWide_slice ht hv
  obtain ⟨fuel, hf⟩ := h
  rcases open_slice ht hf with ⟨hcs, _⟩ | ⟨a, l, c, m, n, D, Pl, hcs, hb, hl, hm, hmm, _, hx⟩
  · simp [Value.cells] at hcs
    obtain ⟨rfl, rfl, rfl⟩ := hcs
    exact ⟨none, 0, [], rfl, fun j u hj => by simp at hj, by simp, by simp⟩
  · simp [Value.cells] at hcs
    obtain ⟨rfl, rfl, rfl⟩ := hcs
    have hml : len ≤ m := by rw [hmm]; split <;> omega
    obtain ⟨xs, hxl, hxq⟩ := exists_list (α := St3) (Q := fun i s => w.cells? base (a.add (i * 3)) 3 = some (st3V s) ∧ ((Lit.int .i64 s.1).wf = true ∧ (Lit.int .i64 s.2.1).wf = true ∧ (Lit.int .i64 s.2.2).wf = true)) len (fun i hi' => by
      obtain ⟨cs', h1, h2⟩ := hx i (by omega)
      obtain ⟨ns, rfl, hnl, hw⟩ := cells_int he hi hC h2
      obtain ⟨s, rfl⟩ := list3' (hnl.trans h3)
      rw [hC, h3] at h1
      exact ⟨s, h1, hw _ (by simp), hw _ (by simp), hw _ (by simp)⟩)
    refine ⟨some a, cap, xs, by rw [hxl], fun j u hj => ?_, by rw [hxl]; unfold maxLen at hm; omega, fun s hs => ?_⟩
    · have hjl : j < xs.length * 3 := by have := (List.getElem?_eq_some_iff.1 hj).1; rwa [flatK_len (enc := st3V) (k := 3) (fun _ => rfl)] at this
      have hk : j / 3 < xs.length := Nat.div_lt_of_lt_mul (by omega)
      have hr : j % 3 < 3 := Nat.mod_lt _ (by omega)
      have hjk : j / 3 * 3 + j % 3 = j := by rw [Nat.mul_comm]; exact Nat.div_add_mod j 3
      have hxk : xs[j / 3]? = some xs[j / 3] := List.getElem?_eq_getElem hk
      obtain ⟨hc1, _⟩ := hxq (j / 3) _ hxk
      obtain ⟨_, hcl, hc2⟩ := World.cells?_some hc1
      have h1 := flatK_get (enc := st3V) (k := 3) (fun _ => rfl) xs (j / 3) _ (j % 3) hxk hr
      rw [hjk, hj] at h1
      have h2 := hc2 (j % 3) hr
      rw [← h1] at h2
      obtain ⟨b, off, spot⟩ := a
      have hspot : spot = none := by
        obtain ⟨q1, _⟩ := hxq 0 _ (List.getElem?_eq_getElem (show 0 < xs.length by omega))
        obtain ⟨_, _, q2⟩ := World.cells?_some q1
        have q3 := q2 0 (by omega)
        have q4 : ((⟨b, off, spot⟩ : Addr).add (0 * 3)).add 0 = ⟨b, off, spot⟩ := by simp [Addr.add]
        rw [q4] at q3
        exact World.cell?_spot q3
      subst hspot
      have e1 : ((⟨b, off, none⟩ : Addr).add (j / 3 * 3)).add (j % 3) = ⟨b, off + j, none⟩ := by
        have : off + j / 3 * 3 + j % 3 = off + j := by omega
        have e0 : ∀ o k, (⟨b, o, none⟩ : Addr).add k = ⟨b, o + k, none⟩ := fun o k => by unfold Addr.add; split <;> simp [*]
        rw [e0, e0, this]
      rw [e1] at h2
      refine ⟨b, off, rfl, ?_, h2⟩
      unfold World.cell? at h2
      split at h2
      · rename_i hh; exact (Array.getElem?_eq_some_iff.1 hh).1
      · cases h2
    · obtain ⟨i, hi'⟩ := List.getElem?_of_mem hs
      exact (hxq i s hi').2

/-- A struct of a bool and two ints that came in. -/
theorem open_bii {f0 f1 f2 : Field} {t : TypeId} {v : Value} {d : DataW H} {p : List MemPlace} {r : Reach} {b0 : Nat} (ht : P.underlying t = some (.struct #[f0, f1, f2])) (hC : P.cellsOf t = 3)
    (o0 : f0.offset = 0) (o1 : f1.offset = 1) (o2 : f2.offset = 2) (c0 : P.cellsOf f0.type = 1) (c1 : P.cellsOf f1.type = 1) (c2 : P.cellsOf f2.type = 1)
    (u0 : P.underlying f0.type = some .bool) (u1 : P.underlying f1.type = some (.int .i64)) (u2 : P.underlying f2.type = some (.int .i64))
    (hv : Value.okWide P w r b0 t v) (h : DataW.Trod enc P w base spare held t v d p) : ∃ (a : Bool) (b c : Int), v = .agg #[.bool a, .int .i64 b, .int .i64 c] ∧ (Lit.int .i64 b).wf = true ∧ (Lit.int .i64 c).wf = true := by
  obtain ⟨cs, rfl, _⟩ := okWide_struct ht hv
  obtain ⟨fuel, hf⟩ := h
  obtain ⟨xs, n, _, _, hl, hlen, hg⟩ := DataW.trod_struct ht hf
  simp only [Value.cells] at hl hlen hg
  rw [hC] at hl
  have hcs : ∃ a b c, cs = #[a, b, c] := by
    obtain ⟨l⟩ := cs
    match l, (show l.length = 3 from hl) with
    | [a, b, c], _ => exact ⟨a, b, c, rfl⟩
  obtain ⟨a, b, c, rfl⟩ := hcs
  have hxs : ∃ x y z, xs = [x, y, z] := by
    match xs, (show xs.length = 3 from hlen) with
    | [x, y, z], _ => exact ⟨x, y, z, rfl⟩
  obtain ⟨x, y, z, rfl⟩ := hxs
  have h0 := hg 0 f0 rfl
  have h1 := hg 1 f1 rfl
  have h2 := hg 2 f2 rfl
  rw [o0, c0] at h0; rw [o1, c1] at h1; rw [o2, c2] at h2
  obtain ⟨a', ea, _⟩ := DataW.trod_bool u0 (x := x) h0
  obtain ⟨b', eb, _, wb⟩ := DataW.trod_int u1 (x := y) h1
  obtain ⟨c', ec, _, wc⟩ := DataW.trod_int u2 (x := z) h2
  simp at ea eb ec
  subst ea eb ec
  exact ⟨a', b', c', rfl, wb, wc⟩
end

end Go.Proofs.Ytgbckdmhmkpahaa

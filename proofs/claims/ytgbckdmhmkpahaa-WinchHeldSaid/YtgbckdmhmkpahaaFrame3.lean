/-
  How a WinchLoop is opened, in plain words, for the statements' proofs.
-/
import Derived.Test.YtgbckdmhmkpahaaFrame2
set_option linter.unusedVariables false
namespace Go.Proofs.Ytgbckdmhmkpahaa
open Go.RowKit Go.Shelf Go.ChangeShapes Go.WideShapes Go.ChangeAt Go.Deep

section
variable {H : Type} {enc : TypeId × Value → H} {P : Program} {w : World} {base : Nat} {spare : Nat → Bool} {held : Bool}

/-- A slice of ints in a struct. -/
theorem sli_cells {t e : TypeId} {fuel : Nat} {cs : List Value} {x : DataW H × List MemPlace} (ht : P.underlying t = some (.slice e)) (he : P.underlying e = some (.int .i64)) (hc : P.cellsOf e = 1)
    (h : DataW.trod enc P w base spare held fuel t cs = some x) : ∃ (A : Option Addr) (c : Nat) (xs : List Int), cs = [.slice A xs.length c] ∧ SlI w A xs ∧ xs.length ≤ 9223372036854775807 ∧ ∀ x ∈ xs, (Lit.int .i64 x).wf = true := by
  rcases open_ints ht he hc h with ⟨hcs, _⟩ | ⟨a, l, c, zs, hcs, _, hl, hm, hz, _, hcell, hwz⟩
  · exact ⟨none, 0, [], hcs, SlI.nil _ _, by simp, by simp⟩
  · have hzl : l ≤ zs.length := by rw [hz]; split <;> omega
    have hlen : (zs.take l).length = l := by simp; omega
    refine ⟨some a, c, zs.take l, by rw [hlen]; exact hcs, fun j u hj => ?_, by rw [hlen]; unfold maxLen at hm; omega, fun x hx => hwz x (List.mem_of_mem_take hx)⟩
    have hjl : j < l := by have := (List.getElem?_eq_some_iff.1 hj).1; omega
    rw [List.getElem?_take_of_lt hjl] at hj
    obtain ⟨b, off, spot⟩ := a
    have h0 := hcell 0 (by omega)
    have hspot : spot = none := by simpa [Addr.add] using World.cell?_spot h0
    subst hspot
    have hj' := hcell j (by omega)
    have e1 : (⟨b, off, none⟩ : Addr).add j = ⟨b, off + j, none⟩ := by unfold Addr.add; split <;> simp [*]
    rw [e1] at hj'
    have e2 : zs.getD j 0 = u := by rw [List.getD_eq_getElem?_getD, hj]; rfl
    rw [e2] at hj'
    refine ⟨b, off, rfl, ?_, hj'⟩
    unfold World.cell? at hj'
    split at hj'
    · rename_i hh; exact (Array.getElem?_eq_some_iff.1 hh).1
    · cases hj'

/-- A WinchLoop that came in. -/
theorem open_loop {f0 f1 f2 f3 : Field} {t e : TypeId} {fs : Array Field} {v : Value} {d : DataW H} {p : List MemPlace} {r : Reach} {b0 : Nat} (ht : P.underlying t = some (.struct #[f0, f1, f2, f3])) (hC : P.cellsOf t = 5)
    (o0 : f0.offset = 0) (o1 : f1.offset = 1) (o2 : f2.offset = 3) (o3 : f3.offset = 4) (c0 : P.cellsOf f0.type = 1) (c1 : P.cellsOf f1.type = 2) (c2 : P.cellsOf f2.type = 1) (c3 : P.cellsOf f3.type = 1)
    (u0 : P.underlying f0.type = some (.slice e)) (ue : P.underlying e = some (.int .i64)) (ce : P.cellsOf e = 1) (u1 : P.underlying f1.type = some (.struct fs)) (hi : intFields P fs = true) (hfs : fs.size = 2) (u2 : P.underlying f2.type = some (.int .i64)) (u3 : P.underlying f3.type = some (.int .i64))
    (hv : Value.okWide P w r b0 t v) (h : DataW.Trod enc P w base spare held t v d p) : ∃ (A : Option Addr) (c : Nat) (T : List Int) (lo hi turn slew : Int), v = .agg #[.slice A T.length c, .int .i64 lo, .int .i64 hi, .int .i64 turn, .int .i64 slew] ∧ SlI w A T ∧ T.length ≤ 9223372036854775807 ∧ (∀ x ∈ T, (Lit.int .i64 x).wf = true) ∧ ∀ x ∈ [lo, hi, turn, slew], (Lit.int .i64 x).wf = true := by
  obtain ⟨cs, rfl, _⟩ := okWide_struct ht hv
  obtain ⟨fuel, hf⟩ := h
  obtain ⟨xs, n, _, _, hl, hlen, hg⟩ := DataW.trod_struct ht hf
  simp only [Value.cells] at hl hlen hg
  rw [hC] at hl
  have hcs : ∃ a b c d e, cs = #[a, b, c, d, e] := by
    obtain ⟨l⟩ := cs
    match l, (show l.length = 5 from hl) with
    | [a, b, c, d, e], _ => exact ⟨a, b, c, d, e, rfl⟩
  obtain ⟨a, b, c, d, e', rfl⟩ := hcs
  have hxs : ∃ x y z u, xs = [x, y, z, u] := by
    match xs, (show xs.length = 4 from hlen) with
    | [x, y, z, u], _ => exact ⟨x, y, z, u, rfl⟩
  obtain ⟨x, y, z, u, rfl⟩ := hxs
  have h0 := hg 0 f0 rfl
  have h1 := hg 1 f1 rfl
  have h2 := hg 2 f2 rfl
  have h3 := hg 3 f3 rfl
  rw [o0, c0] at h0; rw [o1, c1] at h1; rw [o2, c2] at h2; rw [o3, c3] at h3
  obtain ⟨A, c', T, eT, hT, hn, hw⟩ := sli_cells u0 ue ce (x := x) h0
  obtain ⟨ns, e1, hnl, hw1⟩ := cells_int u1 hi (c1.trans hfs.symm) (x := y) h1
  obtain ⟨n1, n2, rfl⟩ := list2 (hnl.trans hfs)
  obtain ⟨n3, e3, _, w3⟩ := DataW.trod_int u2 (x := z) h2
  obtain ⟨n4, e4, _, w4⟩ := DataW.trod_int u3 (x := u) h3
  simp at eT e1 e3 e4
  obtain ⟨rfl, rfl⟩ := e1
  subst eT e3 e4
  refine ⟨A, c', T, n1, n2, n3, n4, rfl, hT, hn, hw, fun x hx => ?_⟩
  simp at hx
  rcases hx with rfl | rfl | rfl | rfl
  · exact hw1 _ (by simp)
  · exact hw1 _ (by simp)
  · exact w3
  · exact w4
end

end Go.Proofs.Ytgbckdmhmkpahaa

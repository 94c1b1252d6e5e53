/-
  How a slice of structs of two ints is opened, in plain words, for the statements' proofs.
-/
import Derived.Test.YtgbckdmhmkpahaaFrame4
import Derived.Test.YtgbckdmhmkpahaaWinP
set_option linter.unusedVariables false
namespace Go.Proofs.Ytgbckdmhmkpahaa
open Go.RowKit Go.Shelf Go.ChangeShapes Go.WideShapes Go.ChangeAt Go.Deep

/-- Two ints as a pair. -/
theorem list2' {l : List Int} (h : l.length = 2) : ∃ s : Rg, l = [s.1, s.2] := by
  obtain ⟨a, b, rfl⟩ := list2 h
  exact ⟨(a, b), rfl⟩

section
variable {H : Type} {enc : TypeId × Value → H} {P : Program} {w : World} {base : Nat} {spare : Nat → Bool} {held : Bool}

/-- A slice of structs of two ints that came in reads as a list. -/
theorem open_sl2 {t e : TypeId} {fs : Array Field} {v : Value} {d : DataW H} {p : List MemPlace} {r : Reach} {b0 : Nat} (ht : P.underlying t = some (.slice e)) (he : P.underlying e = some (.struct fs)) (hi : intFields P fs = true) (hC : P.cellsOf e = fs.size) (h3 : fs.size = 2)
    (hv : Value.okWide P w r b0 t v) (h : DataW.Trod enc P w base spare held t v d p) : ∃ (A : Option Addr) (c : Nat) (xs : List Rg), v = .slice A xs.length c ∧ SlV w A (xs.flatMap rgV) ∧ xs.length ≤ 9223372036854775807 ∧ ∀ s ∈ xs, (Lit.int .i64 s.1).wf = true ∧ (Lit.int .i64 s.2).wf = true := by
  obtain ⟨a0, len, cap, rfl⟩ := okWide_slice ht hv
  obtain ⟨fuel, hf⟩ := h
  rcases open_slice ht hf with ⟨hcs, _⟩ | ⟨a, l, c, m, n, D, Pl, hcs, hb, hl, hm, hmm, _, hx⟩
  · simp [Value.cells] at hcs
    obtain ⟨rfl, rfl, rfl⟩ := hcs
    exact ⟨none, 0, [], rfl, fun j u hj => by simp at hj, by simp, by simp⟩
  · simp [Value.cells] at hcs
    obtain ⟨rfl, rfl, rfl⟩ := hcs
    have hml : len ≤ m := by rw [hmm]; split <;> omega
    obtain ⟨xs, hxl, hxq⟩ := exists_list (α := Rg) (Q := fun i s => w.cells? base (a.add (i * 2)) 2 = some (rgV s) ∧ ((Lit.int .i64 s.1).wf = true ∧ (Lit.int .i64 s.2).wf = true)) len (fun i hi' => by
      obtain ⟨cs', h1, h2⟩ := hx i (by omega)
      obtain ⟨ns, rfl, hnl, hw⟩ := cells_int he hi hC h2
      obtain ⟨s, rfl⟩ := list2' (hnl.trans h3)
      rw [hC, h3] at h1
      exact ⟨s, h1, hw _ (by simp), hw _ (by simp)⟩)
    refine ⟨some a, cap, xs, by rw [hxl], fun j u hj => ?_, by rw [hxl]; unfold maxLen at hm; omega, fun s hs => ?_⟩
    · have hjl : j < xs.length * 2 := by have := (List.getElem?_eq_some_iff.1 hj).1; rwa [flatK_len (enc := rgV) (k := 2) (fun _ => rfl)] at this
      have hk : j / 2 < xs.length := Nat.div_lt_of_lt_mul (by omega)
      have hr : j % 2 < 2 := Nat.mod_lt _ (by omega)
      have hjk : j / 2 * 2 + j % 2 = j := by rw [Nat.mul_comm]; exact Nat.div_add_mod j 2
      have hxk : xs[j / 2]? = some xs[j / 2] := List.getElem?_eq_getElem hk
      obtain ⟨hc1, _⟩ := hxq (j / 2) _ hxk
      obtain ⟨_, hcl, hc2⟩ := World.cells?_some hc1
      have h1 := flatK_get (enc := rgV) (k := 2) (fun _ => rfl) xs (j / 2) _ (j % 2) hxk hr
      rw [hjk, hj] at h1
      have h2 := hc2 (j % 2) hr
      rw [← h1] at h2
      obtain ⟨b, off, spot⟩ := a
      have hspot : spot = none := by
        obtain ⟨q1, _⟩ := hxq 0 _ (List.getElem?_eq_getElem (show 0 < xs.length by omega))
        obtain ⟨_, _, q2⟩ := World.cells?_some q1
        have q3 := q2 0 (by omega)
        have q4 : ((⟨b, off, spot⟩ : Addr).add (0 * 2)).add 0 = ⟨b, off, spot⟩ := by simp [Addr.add]
        rw [q4] at q3
        exact World.cell?_spot q3
      subst hspot
      have e1 : ((⟨b, off, none⟩ : Addr).add (j / 2 * 2)).add (j % 2) = ⟨b, off + j, none⟩ := by
        have : off + j / 2 * 2 + j % 2 = off + j := by omega
        have e0 : ∀ o k, (⟨b, o, none⟩ : Addr).add k = ⟨b, o + k, none⟩ := fun o k => by unfold Addr.add; split <;> simp [*]
        rw [e0, e0, this]
      rw [e1] at h2
      refine ⟨b, off, rfl, ?_, h2⟩
      unfold World.cell? at h2
      split at h2
      · rename_i hh; exact (Array.getElem?_eq_some_iff.1 hh).1
      · cases h2
    · obtain ⟨i, hi'⟩ := List.getElem?_of_mem hs
      exact (hxq i s hi').2

end
end Go.Proofs.Ytgbckdmhmkpahaa

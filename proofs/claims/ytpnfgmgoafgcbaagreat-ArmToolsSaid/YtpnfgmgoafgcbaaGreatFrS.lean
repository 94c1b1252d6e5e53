/-
  An argument that is a slice of strings, opened.
-/
import Derived.Test.YtpnfgmgoafgcbaaGreatG5
import Derived.Test.YtpnfgmgoafgcbaaGreatSMap
import Derived.SliceStrings
set_option linter.unusedVariables false
set_option linter.unusedSimpArgs false
set_option linter.unusedVariables false
namespace Go.Proofs.YtpnfgmgoafgcbaaGreat
open Go.RowKit Go.Shelf Go.ChangeShapes Go.WideShapes Go.ChangeAt Go.Deep
section
variable {H : Type} {enc : TypeId × Value → H} {P : Program} {w : World} {base : Nat} {spare : Nat → Bool} {held : Bool}
theorem open_texts {t e : TypeId} {v : Value} {d : DataW H} {p : List MemPlace} {r : Reach} {b0 : Nat} (ht : P.underlying t = some (.slice e)) (he : P.underlying e = some .string) (hc : P.cellsOf e = 1) (hv : Value.okWide P w r b0 t v) (h : DataW.Trod enc P w base spare held t v d p) :
    ∃ (A : Option Addr) (c : Nat) (xs : List ByteArray), v = .slice A xs.length c ∧ SlS w A xs ∧ xs.length ≤ 9223372036854775807 ∧ xs.length ≤ c ∧ ∀ s ∈ xs, s.size ≤ 9223372036854775807 := by
  obtain ⟨a0, len0, cap0, rfl⟩ := okWide_slice ht hv
  obtain ⟨fuel, hf⟩ := h
  rcases open_strings ht he hc hf with ⟨hcs, _⟩ | ⟨a, len, cap, ss, hcs, _, hl, hm, hz, _, hcell, hsz⟩
  · simp [Value.cells] at hcs
    obtain ⟨rfl, rfl, rfl⟩ := hcs
    exact ⟨none, 0, [], rfl, fun k s hk => by simp at hk, by simp, by simp, by simp⟩
  · simp [Value.cells] at hcs
    obtain ⟨rfl, rfl, rfl⟩ := hcs
    have hln : len0 ≤ ss.length := by rw [hz]; split <;> omega
    have htl : (ss.take len0).length = len0 := by rw [List.length_take]; omega
    have hmx : cap0 ≤ 9223372036854775807 := by unfold maxLen at hm; omega
    refine ⟨some a, cap0, ss.take len0, by rw [htl], fun k s hk => ?_, by omega, by omega, fun s hs => ?_⟩
    · have hkl : k < len0 := by have := (List.getElem?_eq_some_iff.1 hk).1; omega
      rw [List.getElem?_take, if_pos hkl] at hk
      have h1 := hcell k (by omega)
      rw [List.getD_eq_getElem?_getD, hk] at h1
      have h0 := hcell 0 (by omega)
      obtain ⟨b, off, spot⟩ := a
      have hspot : spot = none := by
        have q4 : (⟨b, off, spot⟩ : Addr).add 0 = ⟨b, off, spot⟩ := by simp [Addr.add]
        rw [q4] at h0
        exact World.cell?_spot h0
      subst hspot
      have e0 : (⟨b, off, none⟩ : Addr).add k = ⟨b, off + k, none⟩ := by unfold Addr.add; split <;> simp [*]
      rw [e0] at h1
      refine ⟨b, off, rfl, ?_, h1⟩
      unfold World.cell? at h1
      split at h1
      · rename_i hh; exact (Array.getElem?_eq_some_iff.1 hh).1
      · cases h1
    · have := hsz s (List.mem_of_mem_take hs)
      unfold maxLen at this
      omega
end
end Go.Proofs.YtpnfgmgoafgcbaaGreat

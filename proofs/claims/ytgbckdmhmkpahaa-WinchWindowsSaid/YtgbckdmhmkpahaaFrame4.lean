/-
  How an array of ints is opened, in plain words, for the statements' proofs.
-/
import Derived.Test.YtgbckdmhmkpahaaFrame3
set_option linter.unusedVariables false
namespace Go.Proofs.Ytgbckdmhmkpahaa
open Go.RowKit Go.Shelf Go.ChangeShapes Go.WideShapes Go.ChangeAt Go.Deep

section
variable {H : Type} {enc : TypeId × Value → H} {P : Program} {w : World} {base : Nat} {spare : Nat → Bool} {held : Bool}

/-- An array of ints that came in. -/
theorem open_ints_arr {k : Nat} {t e : TypeId} {v : Value} {d : DataW H} {p : List MemPlace} {r : Reach} {b0 : Nat} (ht : P.underlying t = some (.array k e)) (he : P.underlying e = some (.int .i64)) (hc : P.cellsOf e = 1) (hC : P.cellsOf t = k)
    (hv : Value.okWide P w r b0 t v) (h : DataW.Trod enc P w base spare held t v d p) : ∃ ns : List Int, v = .agg (ns.map (Value.int .i64)).toArray ∧ ns.length = k ∧ ∀ n ∈ ns, (Lit.int .i64 n).wf = true := by
  simp only [Value.okWide, ht] at hv
  obtain ⟨cs, rfl, _⟩ := hv
  obtain ⟨fuel, hf⟩ := h
  obtain ⟨xs, n, _, _, hl, hlen, hg⟩ := DataW.trod_array ht hf
  simp only [Value.cells] at hl hg
  rw [hC] at hl
  have key : ∀ i (hi' : i < cs.toList.length), ∃ m : Int, cs.toList[i] = .int .i64 m ∧ (Lit.int .i64 m).wf = true := by
    intro i hi'
    have h2 := hg i (by omega)
    rw [hc, Nat.mul_one] at h2
    have h3 : (cs.toList.drop i).take 1 = [cs.toList[i]] := by rw [List.drop_eq_getElem_cons hi']; rfl
    rw [h3, List.getElem?_eq_getElem (by omega)] at h2
    obtain ⟨m, hm, _, hw⟩ := DataW.trod_int he h2
    exact ⟨m, by simpa using hm, hw⟩
  have this : ∀ l : List Value, (∀ i (hi' : i < l.length), ∃ m : Int, l[i] = .int .i64 m ∧ (Lit.int .i64 m).wf = true) → ∃ ns : List Int, l = ns.map (Value.int .i64) ∧ ∀ n ∈ ns, (Lit.int .i64 n).wf = true := by
    intro l
    induction l with
    | nil => intro _; exact ⟨[], rfl, by simp⟩
    | cons a l ih =>
      intro hk
      obtain ⟨m, hm, hw⟩ := hk 0 (by simp)
      obtain ⟨ns, hns, hwn⟩ := ih (fun i hi' => by have := hk (i + 1) (by simp; omega); simpa using this)
      refine ⟨m :: ns, by simp at hm; rw [List.map_cons, ← hns, hm], fun n hn => ?_⟩
      rcases List.mem_cons.1 hn with rfl | hn
      · exact hw
      · exact hwn n hn
  obtain ⟨ns, h1, h2⟩ := this cs.toList key
  refine ⟨ns, ?_, ?_, h2⟩
  · rw [← h1]
  · have := congrArg List.length h1; simp at this hl; omega
end

end Go.Proofs.Ytgbckdmhmkpahaa

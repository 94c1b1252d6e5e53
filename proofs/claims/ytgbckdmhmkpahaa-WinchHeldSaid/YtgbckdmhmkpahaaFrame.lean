/-
  How arguments are opened (slices of ints, structs of ints), in plain words, for the statements' proofs.
-/
import Derived.Test.YtgbckdmhmkpahaaBase
import Derived.Test.YtgbckdmhmkpahaaRows
import Derived.ProofKit
import Derived.OpenShut
import Derived.ShutString
import Derived.ChangeOld
import Derived.Deep.Slices
import Derived.Deep.Fields
import Derived.ChangeSame
set_option linter.unusedVariables false
namespace Go.Proofs.Ytgbckdmhmkpahaa
open Go.RowKit Go.Shelf Go.ChangeShapes Go.WideShapes Go.ChangeAt Go.Deep

theorem own_f : ownKnob Try.prog.godebug = none := by kernel_rfl
theorem laidOut_f : laidOutB Try.prog = true := by kernel_rfl

theorem list2 {l : List Int} (h : l.length = 2) : ∃ a b, l = [a, b] := by
  match l, h with
  | [a, b], _ => exact ⟨a, b, rfl⟩
theorem list3 {l : List Int} (h : l.length = 3) : ∃ a b c, l = [a, b, c] := by
  match l, h with
  | [a, b, c], _ => exact ⟨a, b, c, rfl⟩
theorem list4 {l : List Int} (h : l.length = 4) : ∃ a b c d, l = [a, b, c, d] := by
  match l, h with
  | [a, b, c, d], _ => exact ⟨a, b, c, d, rfl⟩
theorem list5 {l : List Int} (h : l.length = 5) : ∃ a b c d e, l = [a, b, c, d, e] := by
  match l, h with
  | [a, b, c, d, e], _ => exact ⟨a, b, c, d, e, rfl⟩

section
variable {H : Type} {enc : TypeId × Value → H} {P : Program} {w : World} {base : Nat} {spare : Nat → Bool} {held : Bool}

/-- A slice of ints that came in reads as a list. -/
theorem open_sli {t e : TypeId} {v : Value} {d : DataW H} {p : List MemPlace} {r : Reach} {b0 : Nat} (ht : P.underlying t = some (.slice e)) (he : P.underlying e = some (.int .i64)) (hc : P.cellsOf e = 1)
    (hv : Value.okWide P w r b0 t v) (h : DataW.Trod enc P w base spare held t v d p) : ∃ (A : Option Addr) (c : Nat) (xs : List Int), v = .slice A xs.length c ∧ SlI w A xs ∧ xs.length ≤ 9223372036854775807 ∧ ∀ x ∈ xs, (Lit.int .i64 x).wf = true := by
  obtain ⟨a0, len, cap, rfl⟩ := okWide_slice ht hv
  obtain ⟨fuel, hf⟩ := h
  rcases open_ints ht he hc hf with ⟨hcs, _⟩ | ⟨a, l, c, zs, hcs, _, hl, hm, hz, _, hcell, hwz⟩
  · simp [Value.cells] at hcs
    obtain ⟨rfl, rfl, rfl⟩ := hcs
    exact ⟨none, 0, [], rfl, SlI.nil _ _, by simp, by simp⟩
  · simp [Value.cells] at hcs
    obtain ⟨rfl, rfl, rfl⟩ := hcs
    have hzl : len ≤ zs.length := by rw [hz]; split <;> omega
    have hlen : (zs.take len).length = len := by simp; omega
    refine ⟨some a, cap, zs.take len, by rw [hlen], fun j u hj => ?_, by rw [hlen]; unfold maxLen at hm; omega, fun x hx => hwz x (List.mem_of_mem_take hx)⟩
    have hjl : j < len := by have := (List.getElem?_eq_some_iff.1 hj).1; omega
    rw [List.getElem?_take_of_lt hjl] at hj
    obtain ⟨b, off, spot⟩ := a
    have h0 := hcell 0 (by omega)
    have hspot : spot = none := by simpa [Addr.add] using World.cell?_spot h0
    subst hspot
    have hj' := hcell j (by omega)
    have e1 : (⟨b, off, none⟩ : Addr).add j = ⟨b, off + j, none⟩ := by unfold Addr.add; split <;> simp [*]
    rw [e1] at hj'
    have e2 : zs.getD j 0 = u := by rw [List.getD_eq_getElem?_getD, hj]; rfl
    rw [e2] at hj'
    refine ⟨b, off, rfl, ?_, hj'⟩
    unfold World.cell? at hj'
    split at hj'
    · rename_i hh; exact (Array.getElem?_eq_some_iff.1 hh).1
    · cases hj'

/-- All fields are ints, one cell each. -/
def intFields (P : Program) (fs : Array Field) : Bool := (List.range fs.size).all fun i => match fs[i]? with
  | some f => f.offset == i && P.cellsOf f.type == 1 && (match P.underlying f.type with
    | some (.int .i64) => true
    | _ => false)
  | none => false

theorem cells_int {fs : Array Field} {t : TypeId} {fuel : Nat} {cs : List Value} {x : DataW H × List MemPlace} (ht : P.underlying t = some (.struct fs)) (hi : intFields P fs = true) (hC : P.cellsOf t = fs.size) (h : DataW.trod enc P w base spare held fuel t cs = some x) :
    ∃ ns : List Int, cs = ns.map (Value.int .i64) ∧ ns.length = fs.size ∧ ∀ n ∈ ns, (Lit.int .i64 n).wf = true := by
  obtain ⟨xs, n, _, _, hl, hlen, hg⟩ := DataW.trod_struct ht h
  have key : ∀ i (hi' : i < cs.length), ∃ m : Int, cs[i] = .int .i64 m ∧ (Lit.int .i64 m).wf = true := by
    intro i hi'
    have hif : i < fs.size := by omega
    have hf : fs[i]? = some fs[i] := Array.getElem?_eq_getElem hif
    have h1 := List.all_eq_true.1 hi i (List.mem_range.2 hif)
    rw [hf] at h1
    simp only [Bool.and_eq_true, beq_iff_eq] at h1
    obtain ⟨⟨ho, hc⟩, hu⟩ := h1
    have h2 := hg i _ hf
    rw [ho, hc] at h2
    have h3 : (cs.drop i).take 1 = [cs[i]] := by rw [List.drop_eq_getElem_cons hi']; rfl
    rw [h3, List.getElem?_eq_getElem (by omega)] at h2
    split at hu
    · rename_i hu'
      obtain ⟨m, hm, _, hw⟩ := DataW.trod_int hu' h2
      exact ⟨m, by simpa using hm, hw⟩
    · cases hu
  have : ∀ l : List Value, (∀ i (hi' : i < l.length), ∃ m : Int, l[i] = .int .i64 m ∧ (Lit.int .i64 m).wf = true) → ∃ ns : List Int, l = ns.map (Value.int .i64) ∧ ∀ n ∈ ns, (Lit.int .i64 n).wf = true := by
    intro l
    induction l with
    | nil => intro _; exact ⟨[], rfl, by simp⟩
    | cons a l ih =>
      intro hk
      obtain ⟨m, hm, hw⟩ := hk 0 (by simp)
      obtain ⟨ns, hns, hwn⟩ := ih (fun i hi' => by have := hk (i + 1) (by simp; omega); simpa using this)
      refine ⟨m :: ns, by simp at hm; rw [List.map_cons, ← hns, hm], fun n hn => ?_⟩
      rcases List.mem_cons.1 hn with rfl | hn
      · exact hw
      · exact hwn n hn
  obtain ⟨ns, h1, h2⟩ := this cs key
  exact ⟨ns, h1, by have := congrArg List.length h1; simp at this; omega, h2⟩

/-- A struct of ints that came in. -/
theorem open_ints_agg {fs : Array Field} {t : TypeId} {v : Value} {d : DataW H} {p : List MemPlace} {r : Reach} {b0 : Nat} (ht : P.underlying t = some (.struct fs)) (hi : intFields P fs = true) (hC : P.cellsOf t = fs.size)
    (hv : Value.okWide P w r b0 t v) (h : DataW.Trod enc P w base spare held t v d p) : ∃ ns : List Int, v = .agg (ns.map (Value.int .i64)).toArray ∧ ns.length = fs.size ∧ ∀ n ∈ ns, (Lit.int .i64 n).wf = true := by
  obtain ⟨cs, rfl, _⟩ := okWide_struct ht hv
  obtain ⟨fuel, hf⟩ := h
  obtain ⟨ns, h1, h2, h3⟩ := cells_int ht hi hC hf
  refine ⟨ns, ?_, h2, h3⟩
  have h4 : cs.toList = ns.map (Value.int .i64) := by simpa [Value.cells] using h1
  rw [← h4]
end

end Go.Proofs.Ytgbckdmhmkpahaa

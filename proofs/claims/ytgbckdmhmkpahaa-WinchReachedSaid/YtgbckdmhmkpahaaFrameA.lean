/-
  FrameA: the texts Frame, Frame2, Frame3 in one.
-/
import Derived.Test.YtgbckdmhmkpahaaBase
import Derived.Test.YtgbckdmhmkpahaaRows
import Derived.ProofKit
import Derived.OpenShut
import Derived.ShutString
import Derived.ChangeOld
import Derived.Deep.Slices
import Derived.Deep.Fields
import Derived.ChangeSame
import Derived.Test.YtgbckdmhmkpahaaSortW
/-
  How arguments are opened (slices of ints, structs of ints), in plain words, for the statements' proofs.
-/
set_option linter.unusedVariables false
namespace Go.Proofs.Ytgbckdmhmkpahaa
open Go.RowKit Go.Shelf Go.ChangeShapes Go.WideShapes Go.ChangeAt Go.Deep

theorem own_f : ownKnob Try.prog.godebug = none := by kernel_rfl
theorem laidOut_f : laidOutB Try.prog = true := by kernel_rfl

theorem list2 {l : List Int} (h : l.length = 2) : ∃ a b, l = [a, b] := by
  match l, h with
  | [a, b], _ => exact ⟨a, b, rfl⟩
theorem list3 {l : List Int} (h : l.length = 3) : ∃ a b c, l = [a, b, c] := by
  match l, h with
  | [a, b, c], _ => exact ⟨a, b, c, rfl⟩
theorem list4 {l : List Int} (h : l.length = 4) : ∃ a b c d, l = [a, b, c, d] := by
  match l, h with
  | [a, b, c, d], _ => exact ⟨a, b, c, d, rfl⟩
theorem list5 {l : List Int} (h : l.length = 5) : ∃ a b c d e, l = [a, b, c, d, e] := by
  match l, h with
  | [a, b, c, d, e], _ => exact ⟨a, b, c, d, e, rfl⟩

section
variable {H : Type} {enc : TypeId × Value → H} {P : Program} {w : World} {base : Nat} {spare : Nat → Bool} {held : Bool}

/-- A slice of ints that came in reads as a list. -/
theorem open_sli {t e : TypeId} {v : Value} {d : DataW H} {p : List MemPlace} {r : Reach} {b0 : Nat} (ht : P.underlying t = some (.slice e)) (he : P.underlying e = some (.int .i64)) (hc : P.cellsOf e = 1)
    (hv : Value.okWide P w r b0 t v) (h : DataW.Trod enc P w base spare held t v d p) : ∃ (A : Option Addr) (c : Nat) (xs : List Int), v = .slice A xs.length c ∧ SlI w A xs ∧ xs.length ≤ 9223372036854775807 ∧ ∀ x ∈ xs, (Lit.int .i64 x).wf = true := by
  obtain ⟨a0, len, cap, rfl⟩ := okWide_slice ht hv
  obtain ⟨fuel, hf⟩ := h
  rcases open_ints ht he hc hf with ⟨hcs, _⟩ | ⟨a, l, c, zs, hcs, _, hl, hm, hz, _, hcell, hwz⟩
  · simp [Value.cells] at hcs
    obtain ⟨rfl, rfl, rfl⟩ := hcs
    exact ⟨none, 0, [], rfl, SlI.nil _ _, by simp, by simp⟩
  · simp [Value.cells] at hcs
    obtain ⟨rfl, rfl, rfl⟩ := hcs
    have hzl : len ≤ zs.length := by rw [hz]; split <;> omega
    have hlen : (zs.take len).length = len := by simp; omega
    refine ⟨some a, cap, zs.take len, by rw [hlen], fun j u hj => ?_, by rw [hlen]; unfold maxLen at hm; omega, fun x hx => hwz x (List.mem_of_mem_take hx)⟩
    have hjl : j < len := by have := (List.getElem?_eq_some_iff.1 hj).1; omega
    rw [List.getElem?_take_of_lt hjl] at hj
    obtain ⟨b, off, spot⟩ := a
    have h0 := hcell 0 (by omega)
    have hspot : spot = none := by simpa [Addr.add] using World.cell?_spot h0
    subst hspot
    have hj' := hcell j (by omega)
    have e1 : (⟨b, off, none⟩ : Addr).add j = ⟨b, off + j, none⟩ := by unfold Addr.add; split <;> simp [*]
    rw [e1] at hj'
    have e2 : zs.getD j 0 = u := by rw [List.getD_eq_getElem?_getD, hj]; rfl
    rw [e2] at hj'
    refine ⟨b, off, rfl, ?_, hj'⟩
    unfold World.cell? at hj'
    split at hj'
    · rename_i hh; exact (Array.getElem?_eq_some_iff.1 hh).1
    · cases hj'

/-- All fields are ints, one cell each. -/
def intFields (P : Program) (fs : Array Field) : Bool := (List.range fs.size).all fun i => match fs[i]? with
  | some f => f.offset == i && P.cellsOf f.type == 1 && (match P.underlying f.type with
    | some (.int .i64) => true
    | _ => false)
  | none => false

theorem cells_int {fs : Array Field} {t : TypeId} {fuel : Nat} {cs : List Value} {x : DataW H × List MemPlace} (ht : P.underlying t = some (.struct fs)) (hi : intFields P fs = true) (hC : P.cellsOf t = fs.size) (h : DataW.trod enc P w base spare held fuel t cs = some x) :
    ∃ ns : List Int, cs = ns.map (Value.int .i64) ∧ ns.length = fs.size ∧ ∀ n ∈ ns, (Lit.int .i64 n).wf = true := by
  obtain ⟨xs, n, _, _, hl, hlen, hg⟩ := DataW.trod_struct ht h
  have key : ∀ i (hi' : i < cs.length), ∃ m : Int, cs[i] = .int .i64 m ∧ (Lit.int .i64 m).wf = true := by
    intro i hi'
    have hif : i < fs.size := by omega
    have hf : fs[i]? = some fs[i] := Array.getElem?_eq_getElem hif
    have h1 := List.all_eq_true.1 hi i (List.mem_range.2 hif)
    rw [hf] at h1
    simp only [Bool.and_eq_true, beq_iff_eq] at h1
    obtain ⟨⟨ho, hc⟩, hu⟩ := h1
    have h2 := hg i _ hf
    rw [ho, hc] at h2
    have h3 : (cs.drop i).take 1 = [cs[i]] := by rw [List.drop_eq_getElem_cons hi']; rfl
    rw [h3, List.getElem?_eq_getElem (by omega)] at h2
    split at hu
    · rename_i hu'
      obtain ⟨m, hm, _, hw⟩ := DataW.trod_int hu' h2
      exact ⟨m, by simpa using hm, hw⟩
    · cases hu
  have : ∀ l : List Value, (∀ i (hi' : i < l.length), ∃ m : Int, l[i] = .int .i64 m ∧ (Lit.int .i64 m).wf = true) → ∃ ns : List Int, l = ns.map (Value.int .i64) ∧ ∀ n ∈ ns, (Lit.int .i64 n).wf = true := by
    intro l
    induction l with
    | nil => intro _; exact ⟨[], rfl, by simp⟩
    | cons a l ih =>
      intro hk
      obtain ⟨m, hm, hw⟩ := hk 0 (by simp)
      obtain ⟨ns, hns, hwn⟩ := ih (fun i hi' => by have := hk (i + 1) (by simp; omega); simpa using this)
      refine ⟨m :: ns, by simp at hm; rw [List.map_cons, ← hns, hm], fun n hn => ?_⟩
      rcases List.mem_cons.1 hn with rfl | hn
      · exact hw
      · exact hwn n hn
  obtain ⟨ns, h1, h2⟩ := this cs key
  exact ⟨ns, h1, by have := congrArg List.length h1; simp at this; omega, h2⟩

/-- A struct of ints that came in. -/
theorem open_ints_agg {fs : Array Field} {t : TypeId} {v : Value} {d : DataW H} {p : List MemPlace} {r : Reach} {b0 : Nat} (ht : P.underlying t = some (.struct fs)) (hi : intFields P fs = true) (hC : P.cellsOf t = fs.size)
    (hv : Value.okWide P w r b0 t v) (h : DataW.Trod enc P w base spare held t v d p) : ∃ ns : List Int, v = .agg (ns.map (Value.int .i64)).toArray ∧ ns.length = fs.size ∧ ∀ n ∈ ns, (Lit.int .i64 n).wf = true := by
  obtain ⟨cs, rfl, _⟩ := okWide_struct ht hv
  obtain ⟨fuel, hf⟩ := h
  obtain ⟨ns, h1, h2, h3⟩ := cells_int ht hi hC hf
  refine ⟨ns, ?_, h2, h3⟩
  have h4 : cs.toList = ns.map (Value.int .i64) := by simpa [Value.cells] using h1
  rw [← h4]
end

end Go.Proofs.Ytgbckdmhmkpahaa

/-
  How a slice of structs of ints and a WinchLatched are opened, in plain words, for the statements' proofs.
-/
set_option linter.unusedVariables false
namespace Go.Proofs.Ytgbckdmhmkpahaa
open Go.RowKit Go.Shelf Go.ChangeShapes Go.WideShapes Go.ChangeAt Go.Deep

/-- Three ints as a triple. -/
theorem list3' {l : List Int} (h : l.length = 3) : ∃ s : St3, l = [s.1, s.2.1, s.2.2] := by
  obtain ⟨a, b, c, rfl⟩ := list3 h
  exact ⟨(a, b, c), rfl⟩

section
variable {H : Type} {enc : TypeId × Value → H} {P : Program} {w : World} {base : Nat} {spare : Nat → Bool} {held : Bool}

theorem exists_list {α : Type} {Q : Nat → α → Prop} : ∀ n, (∀ i, i < n → ∃ x, Q i x) → ∃ l : List α, l.length = n ∧ ∀ i x, l[i]? = some x → Q i x
  | 0, _ => ⟨[], rfl, fun i x h => by simp at h⟩
  | n + 1, h => by
    obtain ⟨l, hl, hq⟩ := exists_list n (fun i hi => h i (by omega))
    obtain ⟨x, hx⟩ := h n (by omega)
    refine ⟨l ++ [x], by simp [hl], fun i y hy => ?_⟩
    rcases Nat.lt_or_ge i l.length with h1 | h1
    · rw [List.getElem?_append_left h1] at hy; exact hq i y hy
    · rw [List.getElem?_append_right h1] at hy
      have : i = n := by
        rcases Nat.lt_or_ge (i - l.length) 1 with h2 | h2
        · omega
        · rw [List.getElem?_eq_none (by simpa using h2)] at hy; cases hy
      subst this
      rw [hl, Nat.sub_self] at hy
      simp at hy; subst hy; exact hx

/-- A slice of structs of three ints that came in reads as a list. -/
theorem open_sl3 {t e : TypeId} {fs : Array Field} {v : Value} {d : DataW H} {p : List MemPlace} {r : Reach} {b0 : Nat} (ht : P.underlying t = some (.slice e)) (he : P.underlying e = some (.struct fs)) (hi : intFields P fs = true) (hC : P.cellsOf e = fs.size) (h3 : fs.size = 3)
    (hv : Value.okWide P w r b0 t v) (h : DataW.Trod enc P w base spare held t v d p) : ∃ (A : Option Addr) (c : Nat) (xs : List St3), v = .slice A xs.length c ∧ SlV w A (xs.flatMap st3V) ∧ xs.length ≤ 9223372036854775807 ∧ ∀ s ∈ xs, (Lit.int .i64 s.1).wf = true ∧ (Lit.int .i64 s.2.1).wf = true ∧ (Lit.int .i64 s.2.2).wf = true := by
  obtain ⟨a0, len, cap, rfl⟩ := okWide_slice ht hv
  obtain ⟨fuel, hf⟩ := h
  rcases open_slice ht hf with ⟨hcs, _⟩ | ⟨a, l, c, m, n, D, Pl, hcs, hb, hl, hm, hmm, _, hx⟩
  · simp [Value.cells] at hcs
    obtain ⟨rfl, rfl, rfl⟩ := hcs
    exact ⟨none, 0, [], rfl, fun j u hj => by simp at hj, by simp, by simp⟩
  · simp [Value.cells] at hcs
    obtain ⟨rfl, rfl, rfl⟩ := hcs
    have hml : len ≤ m := by rw [hmm]; split <;> omega
    obtain ⟨xs, hxl, hxq⟩ := exists_list (α := St3) (Q := fun i s => w.cells? base (a.add (i * 3)) 3 = some (st3V s) ∧ ((Lit.int .i64 s.1).wf = true ∧ (Lit.int .i64 s.2.1).wf = true ∧ (Lit.int .i64 s.2.2).wf = true)) len (fun i hi' => by
      obtain ⟨cs', h1, h2⟩ := hx i (by omega)
      obtain ⟨ns, rfl, hnl, hw⟩ := cells_int he hi hC h2
      obtain ⟨s, rfl⟩ := list3' (hnl.trans h3)
      rw [hC, h3] at h1
      exact ⟨s, h1, hw _ (by simp), hw _ (by simp), hw _ (by simp)⟩)
    refine ⟨some a, cap, xs, by rw [hxl], fun j u hj => ?_, by rw [hxl]; unfold maxLen at hm; omega, fun s hs => ?_⟩
    · have hjl : j < xs.length * 3 := by have := (List.getElem?_eq_some_iff.1 hj).1; rwa [flatK_len (enc := st3V) (k := 3) (fun _ => rfl)] at this
      have hk : j / 3 < xs.length := Nat.div_lt_of_lt_mul (by omega)
      have hr : j % 3 < 3 := Nat.mod_lt _ (by omega)
      have hjk : j / 3 * 3 + j % 3 = j := by rw [Nat.mul_comm]; exact Nat.div_add_mod j 3
      have hxk : xs[j / 3]? = some xs[j / 3] := List.getElem?_eq_getElem hk
      obtain ⟨hc1, _⟩ := hxq (j / 3) _ hxk
      obtain ⟨_, hcl, hc2⟩ := World.cells?_some hc1
      have h1 := flatK_get (enc := st3V) (k := 3) (fun _ => rfl) xs (j / 3) _ (j % 3) hxk hr
      rw [hjk, hj] at h1
      have h2 := hc2 (j % 3) hr
      rw [← h1] at h2
      obtain ⟨b, off, spot⟩ := a
      have hspot : spot = none := by
        obtain ⟨q1, _⟩ := hxq 0 _ (List.getElem?_eq_getElem (show 0 < xs.length by omega))
        obtain ⟨_, _, q2⟩ := World.cells?_some q1
        have q3 := q2 0 (by omega)
        have q4 : ((⟨b, off, spot⟩ : Addr).add (0 * 3)).add 0 = ⟨b, off, spot⟩ := by simp [Addr.add]
        rw [q4] at q3
        exact World.cell?_spot q3
      subst hspot
      have e1 : ((⟨b, off, none⟩ : Addr).add (j / 3 * 3)).add (j % 3) = ⟨b, off + j, none⟩ := by
        have : off + j / 3 * 3 + j % 3 = off + j := by omega
        have e0 : ∀ o k, (⟨b, o, none⟩ : Addr).add k = ⟨b, o + k, none⟩ := fun o k => by unfold Addr.add; split <;> simp [*]
        rw [e0, e0, this]
      rw [e1] at h2
      refine ⟨b, off, rfl, ?_, h2⟩
      unfold World.cell? at h2
      split at h2
      · rename_i hh; exact (Array.getElem?_eq_some_iff.1 hh).1
      · cases h2
    · obtain ⟨i, hi'⟩ := List.getElem?_of_mem hs
      exact (hxq i s hi').2

/-- A struct of a bool and two ints that came in. -/
theorem open_bii {f0 f1 f2 : Field} {t : TypeId} {v : Value} {d : DataW H} {p : List MemPlace} {r : Reach} {b0 : Nat} (ht : P.underlying t = some (.struct #[f0, f1, f2])) (hC : P.cellsOf t = 3)
    (o0 : f0.offset = 0) (o1 : f1.offset = 1) (o2 : f2.offset = 2) (c0 : P.cellsOf f0.type = 1) (c1 : P.cellsOf f1.type = 1) (c2 : P.cellsOf f2.type = 1)
    (u0 : P.underlying f0.type = some .bool) (u1 : P.underlying f1.type = some (.int .i64)) (u2 : P.underlying f2.type = some (.int .i64))
    (hv : Value.okWide P w r b0 t v) (h : DataW.Trod enc P w base spare held t v d p) : ∃ (a : Bool) (b c : Int), v = .agg #[.bool a, .int .i64 b, .int .i64 c] ∧ (Lit.int .i64 b).wf = true ∧ (Lit.int .i64 c).wf = true := by
  obtain ⟨cs, rfl, _⟩ := okWide_struct ht hv
  obtain ⟨fuel, hf⟩ := h
  obtain ⟨xs, n, _, _, hl, hlen, hg⟩ := DataW.trod_struct ht hf
  simp only [Value.cells] at hl hlen hg
  rw [hC] at hl
  have hcs : ∃ a b c, cs = #[a, b, c] := by
    obtain ⟨l⟩ := cs
    match l, (show l.length = 3 from hl) with
    | [a, b, c], _ => exact ⟨a, b, c, rfl⟩
  obtain ⟨a, b, c, rfl⟩ := hcs
  have hxs : ∃ x y z, xs = [x, y, z] := by
    match xs, (show xs.length = 3 from hlen) with
    | [x, y, z], _ => exact ⟨x, y, z, rfl⟩
  obtain ⟨x, y, z, rfl⟩ := hxs
  have h0 := hg 0 f0 rfl
  have h1 := hg 1 f1 rfl
  have h2 := hg 2 f2 rfl
  rw [o0, c0] at h0; rw [o1, c1] at h1; rw [o2, c2] at h2
  obtain ⟨a', ea, _⟩ := DataW.trod_bool u0 (x := x) h0
  obtain ⟨b', eb, _, wb⟩ := DataW.trod_int u1 (x := y) h1
  obtain ⟨c', ec, _, wc⟩ := DataW.trod_int u2 (x := z) h2
  simp at ea eb ec
  subst ea eb ec
  exact ⟨a', b', c', rfl, wb, wc⟩
end

end Go.Proofs.Ytgbckdmhmkpahaa

/-
  How a WinchLoop is opened, in plain words, for the statements' proofs.
-/
set_option linter.unusedVariables false
namespace Go.Proofs.Ytgbckdmhmkpahaa
open Go.RowKit Go.Shelf Go.ChangeShapes Go.WideShapes Go.ChangeAt Go.Deep

section
variable {H : Type} {enc : TypeId × Value → H} {P : Program} {w : World} {base : Nat} {spare : Nat → Bool} {held : Bool}

/-- A slice of ints in a struct. -/
theorem sli_cells {t e : TypeId} {fuel : Nat} {cs : List Value} {x : DataW H × List MemPlace} (ht : P.underlying t = some (.slice e)) (he : P.underlying e = some (.int .i64)) (hc : P.cellsOf e = 1)
    (h : DataW.trod enc P w base spare held fuel t cs = some x) : ∃ (A : Option Addr) (c : Nat) (xs : List Int), cs = [.slice A xs.length c] ∧ SlI w A xs ∧ xs.length ≤ 9223372036854775807 ∧ ∀ x ∈ xs, (Lit.int .i64 x).wf = true := by
  rcases open_ints ht he hc h with ⟨hcs, _⟩ | ⟨a, l, c, zs, hcs, _, hl, hm, hz, _, hcell, hwz⟩
  · exact ⟨none, 0, [], hcs, SlI.nil _ _, by simp, by simp⟩
  · have hzl : l ≤ zs.length := by rw [hz]; split <;> omega
    have hlen : (zs.take l).length = l := by simp; omega
    refine ⟨some a, c, zs.take l, by rw [hlen]; exact hcs, fun j u hj => ?_, by rw [hlen]; unfold maxLen at hm; omega, fun x hx => hwz x (List.mem_of_mem_take hx)⟩
    have hjl : j < l := by have := (List.getElem?_eq_some_iff.1 hj).1; omega
    rw [List.getElem?_take_of_lt hjl] at hj
    obtain ⟨b, off, spot⟩ := a
    have h0 := hcell 0 (by omega)
    have hspot : spot = none := by simpa [Addr.add] using World.cell?_spot h0
    subst hspot
    have hj' := hcell j (by omega)
    have e1 : (⟨b, off, none⟩ : Addr).add j = ⟨b, off + j, none⟩ := by unfold Addr.add; split <;> simp [*]
    rw [e1] at hj'
    have e2 : zs.getD j 0 = u := by rw [List.getD_eq_getElem?_getD, hj]; rfl
    rw [e2] at hj'
    refine ⟨b, off, rfl, ?_, hj'⟩
    unfold World.cell? at hj'
    split at hj'
    · rename_i hh; exact (Array.getElem?_eq_some_iff.1 hh).1
    · cases hj'

/-- A WinchLoop that came in. -/
theorem open_loop {f0 f1 f2 f3 : Field} {t e : TypeId} {fs : Array Field} {v : Value} {d : DataW H} {p : List MemPlace} {r : Reach} {b0 : Nat} (ht : P.underlying t = some (.struct #[f0, f1, f2, f3])) (hC : P.cellsOf t = 5)
    (o0 : f0.offset = 0) (o1 : f1.offset = 1) (o2 : f2.offset = 3) (o3 : f3.offset = 4) (c0 : P.cellsOf f0.type = 1) (c1 : P.cellsOf f1.type = 2) (c2 : P.cellsOf f2.type = 1) (c3 : P.cellsOf f3.type = 1)
    (u0 : P.underlying f0.type = some (.slice e)) (ue : P.underlying e = some (.int .i64)) (ce : P.cellsOf e = 1) (u1 : P.underlying f1.type = some (.struct fs)) (hi : intFields P fs = true) (hfs : fs.size = 2) (u2 : P.underlying f2.type = some (.int .i64)) (u3 : P.underlying f3.type = some (.int .i64))
    (hv : Value.okWide P w r b0 t v) (h : DataW.Trod enc P w base spare held t v d p) : ∃ (A : Option Addr) (c : Nat) (T : List Int) (lo hi turn slew : Int), v = .agg #[.slice A T.length c, .int .i64 lo, .int .i64 hi, .int .i64 turn, .int .i64 slew] ∧ SlI w A T ∧ T.length ≤ 9223372036854775807 ∧ (∀ x ∈ T, (Lit.int .i64 x).wf = true) ∧ ∀ x ∈ [lo, hi, turn, slew], (Lit.int .i64 x).wf = true := by
  obtain ⟨cs, rfl, _⟩ := okWide_struct ht hv
  obtain ⟨fuel, hf⟩ := h
  obtain ⟨xs, n, _, _, hl, hlen, hg⟩ := DataW.trod_struct ht hf
  simp only [Value.cells] at hl hlen hg
  rw [hC] at hl
  have hcs : ∃ a b c d e, cs = #[a, b, c, d, e] := by
    obtain ⟨l⟩ := cs
    match l, (show l.length = 5 from hl) with
    | [a, b, c, d, e], _ => exact ⟨a, b, c, d, e, rfl⟩
  obtain ⟨a, b, c, d, e', rfl⟩ := hcs
  have hxs : ∃ x y z u, xs = [x, y, z, u] := by
    match xs, (show xs.length = 4 from hlen) with
    | [x, y, z, u], _ => exact ⟨x, y, z, u, rfl⟩
  obtain ⟨x, y, z, u, rfl⟩ := hxs
  have h0 := hg 0 f0 rfl
  have h1 := hg 1 f1 rfl
  have h2 := hg 2 f2 rfl
  have h3 := hg 3 f3 rfl
  rw [o0, c0] at h0; rw [o1, c1] at h1; rw [o2, c2] at h2; rw [o3, c3] at h3
  obtain ⟨A, c', T, eT, hT, hn, hw⟩ := sli_cells u0 ue ce (x := x) h0
  obtain ⟨ns, e1, hnl, hw1⟩ := cells_int u1 hi (c1.trans hfs.symm) (x := y) h1
  obtain ⟨n1, n2, rfl⟩ := list2 (hnl.trans hfs)
  obtain ⟨n3, e3, _, w3⟩ := DataW.trod_int u2 (x := z) h2
  obtain ⟨n4, e4, _, w4⟩ := DataW.trod_int u3 (x := u) h3
  simp at eT e1 e3 e4
  obtain ⟨rfl, rfl⟩ := e1
  subst eT e3 e4
  refine ⟨A, c', T, n1, n2, n3, n4, rfl, hT, hn, hw, fun x hx => ?_⟩
  simp at hx
  rcases hx with rfl | rfl | rfl | rfl
  · exact hw1 _ (by simp)
  · exact hw1 _ (by simp)
  · exact w3
  · exact w4
end

end Go.Proofs.Ytgbckdmhmkpahaa

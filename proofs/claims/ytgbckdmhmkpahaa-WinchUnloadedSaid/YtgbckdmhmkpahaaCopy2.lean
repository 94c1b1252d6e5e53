/-
  'append(append([]E{}, xs...), y)' as two steps of a region that draws its order.
-/
import Derived.Test.YtgbckdmhmkpahaaCopy
set_option linter.unusedVariables false
namespace Go.Proofs.Ytgbckdmhmkpahaa
open Go.RowKit Go.Shelf

/-- A slice that reads as xs; where there is room behind it, the row is the call's own. -/
def Ext (w : World) (base : Nat) (e : TypeId) (size : Nat) (v : Value) (n : Nat) (xs : List Value) : Prop :=
  xs.length = n * size ∧ ∃ g o cap, v = .slice (some ⟨g, o, none⟩) n cap ∧ (∀ j u, xs[j]? = some u → w.cell? ⟨g, o + j, none⟩ = some u) ∧ (0 < xs.length → g < w.heap.size) ∧ (n < cap → w.ownsRow base e size v n xs)

theorem Ext.alloc {w : World} {base : Nat} {e : TypeId} {size : Nat} {v : Value} {n : Nat} {xs : List Value} (h : Ext w base e size v n xs) (ob : Obj) : Ext (w.alloc ob) base e size v n xs := by
  obtain ⟨h1, g, o, cap, hv, hc, hl, ho⟩ := h
  refine ⟨h1, g, o, cap, hv, fun j u hj => ?_, fun h => by have := hl h; simp; omega, fun h => (ho h).alloc ob⟩
  have hlt : g < w.heap.size := hl (by have := (List.getElem?_eq_some_iff.1 hj).1; omega)
  exact (((Below.refl w.heap.size w).alloc (Nat.le_refl _) ob).cell (p := ⟨g, o + j, none⟩) hlt).trans (hc j u hj)
theorem Ext.mono {w : World} {base base' : Nat} {e : TypeId} {size : Nat} {v : Value} {n : Nat} {xs : List Value} (h : Ext w base e size v n xs) (hb : base' ≤ base) : Ext w base' e size v n xs := by
  obtain ⟨h1, g, o, cap, hv, hc, hl, ho⟩ := h
  refine ⟨h1, g, o, cap, hv, hc, hl, fun h => ⟨(ho h).1, ?_⟩⟩
  rcases (ho h).2 with h2 | ⟨g, cap, cur, h3, h4, h5⟩
  · exact .inl h2
  · exact .inr ⟨g, cap, cur, h3, by omega, h5⟩
theorem Ext.drew {w : World} {base : Nat} {e : TypeId} {size : Nat} {v : Value} {n : Nat} {xs : List Value} (h : Ext w base e size v n xs) : Ext w.drew base e size v n xs := h

/-- The first step: the copy of a slice onto an empty one. -/
theorem step_copy_ext {P : Program} {ops : Array Oper} {o : Oper} {a : Act} {w : World} {K : Act → World → Prop} {Q : Exit → Act → World → Prop} {E : Prop} (hgd : o.guard = none) (s x : Operand) (t : TypeId)
    (ho : o.op = .call { callee := .builtin .append, args := #[s, x], argTypes := #[t, t] })
    (e : TypeId) (i : TypeInfo) (z : Value) (size bytes : Nat) (ht : P.underlying t = some (.slice e)) (hi : P.info? e = some i) (hz : i.zero = some z)
    (hsize : i.size = size) (hby : i.bytes = bytes) (hzs : z.cells.size = size) (hsz : 0 < size)
    (b : Addr) (hbs : b.spot = none) (hs : a.eval s = .slice (some b) 0 0)
    (A : Option Addr) (m c : Nat) (news : List Value) (hx : a.eval x = .slice A m c) (hl : news.length = m * size) (hnews : SlV w A news)
    (h63 : m ≤ maxLen) (hbytes : m * bytes ≤ 140737488355328)
    (h : ∀ B cap w', Ext w' w.heap.size e size (.slice B m cap) m news → Below w.heap.size w w' → K (a.put o.dst (.slice B m cap)) w') :
    if Region.wanted o (yielded ops a.tmps) = true then Oper.wp P o a w K Q else E := by
  have hw : Region.wanted o (yielded ops a.tmps) = true := by simp [Region.wanted, hgd]
  rw [if_pos hw]
  subst hsize
  subst hby
  by_cases hm : m = 0
  · subst hm
    have hn : news = [] := List.eq_nil_of_length_eq_zero (by simpa using hl)
    subst hn
    have hr : (Builtin.append_ #[t, t] o.type #[.slice (some b) 0 0, .slice A 0 c]).run P w = .ok (.slice (some b) 0 0) w := by
      cases A <;> simp [Builtin.append_, run_underlying ht, sizeOf, typeInfo, hi, Builtin.lenOf, Builtin.firstCells, loadCells, loadCellsFrom, storeCells]
    unfold Oper.wp execOp
    simp only [ho, resolve, invoke, builtin, Sem.run_bind, Sem.run_pure, Result.andThen_ok, List.map_toArray, List.map_cons, List.map_nil, hs, hx, hr]
    obtain ⟨bb, bo, bs⟩ := b
    obtain rfl : bs = none := hbs
    exact h _ _ _ ⟨hl, bb, bo, 0, rfl, fun j u hj => by simp at hj, fun h => by simp at h, fun h => by omega⟩ (Below.refl _ _)
  · have hlt : 0 < news.length := by rw [hl]; exact Nat.mul_pos (by omega) hsz
    obtain ⟨b0, off0, hA, _, _⟩ := hnews 0 news[0] (List.getElem?_eq_getElem hlt)
    subst hA
    have hc : ∀ j u, news[j]? = some u → w.cell? ((⟨b0, off0, none⟩ : Addr).add j) = some u := fun j u hj => by
      obtain ⟨b1, off1, e, _, hc⟩ := hnews j u hj
      cases e
      have e : (⟨b0, off0, none⟩ : Addr).add j = ⟨b0, off0 + j, none⟩ := by unfold Addr.add; split <;> simp [*]
      rw [e]; exact hc
    have hm63 : m ≤ 9223372036854775807 := by simp only [maxLen] at h63; omega
    have hr := run_append_grow (P := P) w t o.type e i z ht hi hz b 0 0 [] (by simp) (fun j v hj => by simp at hj) ⟨b0, off0, none⟩ m c news hl hc (by omega) (by omega) (growslice_fits (by omega) (by simpa using hbytes))
    simp only [Nat.zero_add] at hr
    have hge := grownCap_ge w m 0 e
    have hcm : grownCap w m 0 e ≤ maxLen := grownCap_le_maxLen w m 0 e h63
    have hown : (w.drew.alloc (.cells (#[] ++ news.toArray ++ Builtin.zeroCells z.cells (grownCap w m 0 e - m)) e)).ownsRow w.heap.size e i.size (.slice (some ⟨w.heap.size, 0, none⟩) m (grownCap w m 0 e)) m news := by
      refine ⟨hl, .inr ⟨w.heap.size, _, _, rfl, Nat.le_refl _, heap_alloc_new w.drew _, hge, hcm, ?_, ?_⟩⟩
      · simp only [Array.size_append, List.size_toArray, size_zeroCells, hzs, hl, List.length_nil]
        have h5 := Nat.mul_le_mul_right i.size hge
        rw [Nat.sub_mul]
        omega
      · simp only [Array.toList_append, List.nil_append]
        rw [← hl]
        exact List.take_left
    unfold Oper.wp execOp
    simp only [ho, resolve, invoke, builtin, Sem.run_bind, Sem.run_pure, Result.andThen_ok, List.map_toArray, List.map_cons, List.map_nil, hs, hx, hr]
    refine h _ _ _ ⟨hl, w.heap.size, 0, _, rfl, fun j u hj => ?_, fun _ => by simp, fun _ => hown⟩ ((Below.refl _ w).drew.alloc (Nat.le_refl _) _)
    have := hown.cells (g := w.heap.size) rfl j u hj
    have e1 : (⟨w.heap.size, 0, none⟩ : Addr).add j = ⟨w.heap.size, 0 + j, none⟩ := by unfold Addr.add; split <;> simp [*]
    rwa [e1] at this

/-- The second step: one element more, which lies in a block of its own. -/
theorem step_more {P : Program} {ops : Array Oper} {o : Oper} {a : Act} {w : World} {K : Act → World → Prop} {Q : Exit → Act → World → Prop} {E : Prop} (hgd : o.guard = none) (s x : Operand) (t : TypeId)
    (ho : o.op = .call { callee := .builtin .append, args := #[s, x], argTypes := #[t, t] })
    (e : TypeId) (i : TypeInfo) (z : Value) (size bytes base : Nat) (ht : P.underlying t = some (.slice e)) (hi : P.info? e = some i) (hz : i.zero = some z)
    (hsize : i.size = size) (hby : i.bytes = bytes) (hzs : z.cells.size = size) (hsz : 0 < size)
    (v : Value) (n : Nat) (xs : List Value) (hs : a.eval s = v) (hext : Ext w base e size v n xs) (hbase : base ≤ w.heap.size)
    (g1 c : Nat) (one : Array Value) (hx : a.eval x = .slice (some ⟨g1, 0, none⟩) 1 c) (hl : one.size = size) (hone : Box w g1 e one) (h1 : ∀ u ∈ one.toList, u.oneCell' = true)
    (h63 : n + 1 ≤ maxLen) (hbytes : (n + 1) * bytes ≤ 140737488355328)
    (h : ∀ B cap w', SlV w' B (xs ++ one.toList) → Below base w w' → (∀ g t' cs, t' ≠ e → Box w g t' cs → Box w' g t' cs) → K (a.put o.dst (.slice B (n + 1) cap)) w') :
    if Region.wanted o (yielded ops a.tmps) = true then Oper.wp P o a w K Q else E := by
  have hw : Region.wanted o (yielded ops a.tmps) = true := by simp [Region.wanted, hgd]
  rw [if_pos hw]
  subst hsize
  subst hby
  have hnews : ∀ j u, one.toList[j]? = some u → w.cell? ((⟨g1, 0, none⟩ : Addr).add j) = some u := fun j u hj => by
    have e1 : (⟨g1, 0, none⟩ : Addr).add j = ⟨g1, j, none⟩ := by unfold Addr.add; split <;> simp_all
    rw [e1, hone.cell j]; simpa using hj
  obtain ⟨hxl, g, off, cap, hv, hcell, hlt, hown⟩ := hext
  by_cases hroom : n < cap
  · obtain ⟨v', w', hr, h2, h3, _, h5⟩ := run_append_own_at (P := P) w base t o.type e i z i.size i.bytes ht hi hz rfl rfl hzs hsz v n xs (hown hroom) ⟨g1, 0, none⟩ 1 c one.toList (by simpa using hl) hnews h1 h63 hbytes hbase
    have hbw : Below base w w' := (Below.refl _ w).grown h3 hbase (fun k e => ((hown hroom).lt k e).1)
    have hkeep : ∀ g t' cs, t' ≠ e → Box w g t' cs → Box w' g t' cs := fun g2 t' cs hne hb => by
      refine (h3.block g2 hb.lt (fun e2 => ?_)).trans hb
      rcases (hown hroom).2 with ⟨e3, _⟩ | ⟨g3, cap3, cur3, e3, _, hh, _⟩
      · rw [e3] at e2; simp [Value.ownBlock] at e2
      · rw [e3] at e2
        have e4 : g2 = g3 := by simpa [Value.ownBlock] using e2
        subst e4
        rw [show w.heap[g2]? = _ from hb] at hh
        injection hh with hh; injection hh with _ hh _
        exact hne hh
    unfold Oper.wp execOp
    simp only [ho, resolve, invoke, builtin, Sem.run_bind, Sem.run_pure, Result.andThen_ok, List.map_toArray, List.map_cons, List.map_nil, hs, hx, hr]
    rcases h2.2 with ⟨rfl, h0⟩ | ⟨g4, cap4, cur4, rfl, _⟩
    · omega
    · exact h _ _ _ (slv_own hsz h2) hbw hkeep
  · subst hv
    have hn63 : n + 1 ≤ 9223372036854775807 := by simp only [maxLen] at h63; omega
    have holds : ∀ j u, xs[j]? = some u → w.cell? ((⟨g, off, none⟩ : Addr).add j) = some u := fun j u hj => by
      have e1 : (⟨g, off, none⟩ : Addr).add j = ⟨g, off + j, none⟩ := by unfold Addr.add; split <;> simp [*]
      rw [e1]; exact hcell j u hj
    have hr := run_append_grow (P := P) w t o.type e i z ht hi hz ⟨g, off, none⟩ n cap xs hxl holds ⟨g1, 0, none⟩ 1 c one.toList (by simpa using hl) hnews (by omega) (by omega) (growslice_fits (by omega) hbytes)
    unfold Oper.wp execOp
    simp only [ho, resolve, invoke, builtin, Sem.run_bind, Sem.run_pure, Result.andThen_ok, List.map_toArray, List.map_cons, List.map_nil, hs, hx, hr]
    refine h _ _ _ (fun j u hj => ?_) ((Below.refl _ w).drew.alloc hbase _) (fun g2 t' cs _ hb => (hb.drew).alloc _)
    have hjl : j < (xs ++ one.toList).length := (List.getElem?_eq_some_iff.1 hj).1
    refine ⟨w.heap.size, 0, rfl, by simp, ?_⟩
    rw [Nat.zero_add, cell_of_row _ w.heap.size j _ e (0, 0) (heap_alloc_new w.drew _)]
    have h6 : j < (xs.toArray ++ one.toList.toArray).size := by simpa using hjl
    rw [Array.getElem?_append, if_pos h6]
    simpa [List.getElem?_append, Array.getElem?_append] using hj

end Go.Proofs.Ytgbckdmhmkpahaa

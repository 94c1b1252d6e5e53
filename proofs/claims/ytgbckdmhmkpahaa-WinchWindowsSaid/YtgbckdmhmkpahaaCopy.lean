/-
  'append([]E{}, xs...)' as one step of a region that draws its order.
-/
import Derived.Test.YtgbckdmhmkpahaaRefs
import Derived.Maps.AppendAt
set_option linter.unusedVariables false
namespace Go.Proofs.Ytgbckdmhmkpahaa
open Go.RowKit Go.Shelf

theorem slv_own {w : World} {base : Nat} {e : TypeId} {A : Option Addr} {n c k : Nat} {xs : List Value} (hk : 0 < k) (h : w.ownsRow base e k (.slice A n c) n xs) : SlV w A xs := by
  intro j u hj
  have hjl : j < xs.length := (List.getElem?_eq_some_iff.1 hj).1
  rcases h.2 with ⟨e1, h0⟩ | ⟨g, cap, cur, e1, _, hh, _, _, hcs, ht⟩
  · have hl := h.1
    rw [h0] at hl; omega
  · injection e1 with e1 _ _
    subst e1
    refine ⟨g, 0, rfl, (Array.getElem?_eq_some_iff.1 hh).1, ?_⟩
    rw [Nat.zero_add, cell_of_row w g j cur e (0, 0) hh]
    rw [← ht, List.getElem?_take] at hj
    split at hj
    · simpa using hj
    · cases hj

/-- A step: the copy of a slice onto an empty one of the call's own. -/
theorem step_copy {P : Program} {ops : Array Oper} {o : Oper} {a : Act} {w : World} {K : Act → World → Prop} {Q : Exit → Act → World → Prop} {E : Prop} (hgd : o.guard = none) (s x : Operand) (t : TypeId)
    (ho : o.op = .call { callee := .builtin .append, args := #[s, x], argTypes := #[t, t] })
    (e : TypeId) (i : TypeInfo) (z : Value) (size bytes : Nat) (ht : P.underlying t = some (.slice e)) (hi : P.info? e = some i) (hz : i.zero = some z)
    (hsize : i.size = size) (hby : i.bytes = bytes) (hzs : z.cells.size = size) (hsz : 0 < size)
    (b : Addr) (hs : a.eval s = .slice (some b) 0 0)
    (A : Option Addr) (m c : Nat) (news : List Value) (hx : a.eval x = .slice A m c) (hl : news.length = m * size) (hnews : SlV w A news)
    (h63 : m ≤ maxLen) (hbytes : m * bytes ≤ 140737488355328)
    (h : ∀ B cap w', SlV w' B news → Below w.heap.size w w' → K (a.put o.dst (.slice B m cap)) w') :
    if Region.wanted o (yielded ops a.tmps) = true then Oper.wp P o a w K Q else E := by
  have hw : Region.wanted o (yielded ops a.tmps) = true := by simp [Region.wanted, hgd]
  rw [if_pos hw]
  subst hsize
  subst hby
  by_cases hm : m = 0
  · subst hm
    have hn : news = [] := List.eq_nil_of_length_eq_zero (by simpa using hl)
    subst hn
    have hr : (Builtin.append_ #[t, t] o.type #[.slice (some b) 0 0, .slice A 0 c]).run P w = .ok (.slice (some b) 0 0) w := by
      cases A <;> simp [Builtin.append_, run_underlying ht, sizeOf, typeInfo, hi, Builtin.lenOf, Builtin.firstCells, loadCells, loadCellsFrom, storeCells]
    unfold Oper.wp execOp
    simp only [ho, resolve, invoke, builtin, Sem.run_bind, Sem.run_pure, Result.andThen_ok, List.map_toArray, List.map_cons, List.map_nil, hs, hx, hr]
    exact h _ _ _ (fun j u hj => by simp at hj) (Below.refl _ _)
  · have hlt : 0 < news.length := by rw [hl]; exact Nat.mul_pos (by omega) hsz
    obtain ⟨b0, off0, hA, _, _⟩ := hnews 0 news[0] (List.getElem?_eq_getElem hlt)
    subst hA
    have hc : ∀ j u, news[j]? = some u → w.cell? ((⟨b0, off0, none⟩ : Addr).add j) = some u := fun j u hj => by
      obtain ⟨b1, off1, e, _, hc⟩ := hnews j u hj
      cases e
      have e : (⟨b0, off0, none⟩ : Addr).add j = ⟨b0, off0 + j, none⟩ := by unfold Addr.add; split <;> simp [*]
      rw [e]; exact hc
    have hm63 : m ≤ 9223372036854775807 := by simp only [maxLen] at h63; omega
    have hr := run_append_grow (P := P) w t o.type e i z ht hi hz b 0 0 [] (by simp) (fun j v hj => by simp at hj) ⟨b0, off0, none⟩ m c news hl hc (by omega) (by omega) (growslice_fits (by omega) (by simpa using hbytes))
    simp only [Nat.zero_add] at hr
    unfold Oper.wp execOp
    simp only [ho, resolve, invoke, builtin, Sem.run_bind, Sem.run_pure, Result.andThen_ok, List.map_toArray, List.map_cons, List.map_nil, hs, hx, hr]
    refine h _ _ _ (fun j u hj => ?_) ((Below.refl _ w).drew.alloc (Nat.le_refl _) _)
    have hjl : j < news.length := (List.getElem?_eq_some_iff.1 hj).1
    refine ⟨w.heap.size, 0, rfl, by simp, ?_⟩
    rw [Nat.zero_add, cell_of_row _ w.heap.size j _ e (0, 0) (heap_alloc_new w.drew _)]
    simp only [Array.getElem?_append, List.getElem?_toArray, List.size_toArray]
    first
      | (rw [if_pos (by simp; omega)]; simpa using hj)
      | (rw [if_pos (by simp; omega), if_pos (by simp; omega)]; simpa using hj)
      | simp [hj, hjl]

end Go.Proofs.Ytgbckdmhmkpahaa

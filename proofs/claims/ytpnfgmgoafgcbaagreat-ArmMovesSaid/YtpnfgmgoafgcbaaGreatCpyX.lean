/-
  Copies that are written afterwards (chapter 6's reference): the copy lies in a block of its own.
-/
import Derived.Test.YtpnfgmgoafgcbaaGreatCpy
set_option linter.unusedVariables false
namespace Go.Proofs.YtpnfgmgoafgcbaaGreat
open Go.RowKit
attribute [local go_sem] Oper.semAt_some

/-- A step: the copy of a slice onto an empty one of the call's own; the block that it lies in. -/
theorem wp_copyX {P : Program} {o : Oper} {a : Act} {w : World} {K : Act → World → Prop} {Q : Exit → Act → World → Prop} (s x : Operand) (t : TypeId)
    (ho : o.op = .call { callee := .builtin .append, args := #[s, x], argTypes := #[t, t] })
    (e : TypeId) (i : TypeInfo) (z : Value) (size bytes : Nat) (ht : P.underlying t = some (.slice e)) (hi : P.info? e = some i) (hz : i.zero = some z)
    (hsize : i.size = size) (hby : i.bytes = bytes) (hzs : z.cells.size = size) (hsz : 0 < size)
    (b : Addr) (hs : a.eval s = .slice (some b) 0 0)
    (A : Option Addr) (m c : Nat) (news : List Value) (hx : a.eval x = .slice A m c) (hl : news.length = m * size) (hnews : SlV w A news)
    (h63 : m ≤ maxLen) (hbytes : m * bytes ≤ 140737488355328)
    (h : ∀ B cap w', SlV w' B news → (0 < m → ∃ g cs, B = some ⟨g, 0, none⟩ ∧ w.heap.size ≤ g ∧ Box w' g e cs) → Below w.heap.size w w' → K (a.put o.dst (.slice B m cap)) w') : Oper.wp P o a w K Q := by
  subst hsize
  subst hby
  by_cases hm : m = 0
  · subst hm
    have hn : news = [] := List.eq_nil_of_length_eq_zero (by simpa using hl)
    subst hn
    have hr : (Builtin.append_ #[t, t] o.type #[.slice (some b) 0 0, .slice A 0 c]).run P w = .ok (.slice (some b) 0 0) w := by
      cases A <;> simp [Builtin.append_, run_underlying ht, sizeOf, typeInfo, hi, Builtin.lenOf, Builtin.firstCells, loadCells, loadCellsFrom, storeCells]
    unfold Oper.wp execOp
    simp only [ho, resolve, invoke, builtin, Sem.run_bind, Sem.run_pure, Result.andThen_ok, List.map_toArray, List.map_cons, List.map_nil, hs, hx, hr]
    exact h _ _ _ (fun j u hj => by simp at hj) (fun h => absurd h (by simp)) (Below.refl _ _)
  · have hlt : 0 < news.length := by rw [hl]; exact Nat.mul_pos (by omega) hsz
    obtain ⟨b0, off0, hA, _, _⟩ := hnews 0 news[0] (List.getElem?_eq_getElem hlt)
    subst hA
    have hc : ∀ j u, news[j]? = some u → w.cell? ((⟨b0, off0, none⟩ : Addr).add j) = some u := fun j u hj => by
      obtain ⟨b1, off1, e, _, hc⟩ := hnews j u hj
      cases e
      have e : (⟨b0, off0, none⟩ : Addr).add j = ⟨b0, off0 + j, none⟩ := by unfold Addr.add; split <;> simp [*]
      rw [e]; exact hc
    have hm63 : m ≤ 9223372036854775807 := by simp only [maxLen] at h63; omega
    have hr := run_append_grow (P := P) w t o.type e i z ht hi hz b 0 0 [] (by simp) (fun j v hj => by simp at hj) ⟨b0, off0, none⟩ m c news hl hc (by omega) (by omega) (growslice_fits (by omega) (by simpa using hbytes))
    simp only [Nat.zero_add] at hr
    unfold Oper.wp execOp
    simp only [ho, resolve, invoke, builtin, Sem.run_bind, Sem.run_pure, Result.andThen_ok, List.map_toArray, List.map_cons, List.map_nil, hs, hx, hr]
    refine h _ _ _ (fun j u hj => ?_) (fun _ => ⟨w.heap.size, _, rfl, Nat.le_refl _, heap_alloc_new w.drew _⟩) ((Below.refl _ w).drew.alloc (Nat.le_refl _) _)
    have hjl : j < news.length := (List.getElem?_eq_some_iff.1 hj).1
    refine ⟨w.heap.size, 0, rfl, by simp, ?_⟩
    rw [Nat.zero_add, cell_of_row _ w.heap.size j _ e (0, 0) (heap_alloc_new w.drew _)]
    simp only [Array.getElem?_append, List.getElem?_toArray, List.size_toArray]
    first
      | (rw [if_pos (by simp; omega)]; simpa using hj)
      | (rw [if_pos (by simp; omega), if_pos (by simp; omega)]; simpa using hj)
      | simp [hj, hjl]
theorem wpList_copyX {P : Program} {ops : Array Oper} {rest : List Oper} {o : Oper} {a : Act} {w : World} {Q : Exit → Act → World → Prop} (hgd : o.guard = none) (s x : Operand) (t : TypeId)
    (ho : o.op = .call { callee := .builtin .append, args := #[s, x], argTypes := #[t, t] })
    (e : TypeId) (i : TypeInfo) (z : Value) (size bytes : Nat) (ht : P.underlying t = some (.slice e)) (hi : P.info? e = some i) (hz : i.zero = some z)
    (hsize : i.size = size) (hby : i.bytes = bytes) (hzs : z.cells.size = size) (hsz : 0 < size)
    (b : Addr) (hs : a.eval s = .slice (some b) 0 0)
    (A : Option Addr) (m c : Nat) (news : List Value) (hx : a.eval x = .slice A m c) (hl : news.length = m * size) (hnews : SlV w A news)
    (h63 : m ≤ maxLen) (hbytes : m * bytes ≤ 140737488355328)
    (h : ∀ B cap w', SlV w' B news → (0 < m → ∃ g cs, B = some ⟨g, 0, none⟩ ∧ w.heap.size ≤ g ∧ Box w' g e cs) → Below w.heap.size w w' → wpList P ops Q rest (a.put o.dst (.slice B m cap)) w') : wpList P ops Q (o :: rest) a w :=
  wpList_plain hgd fun _ hK => wp_copyX s x t ho e i z size bytes ht hi hz hsize hby hzs hsz b hs A m c news hx hl hnews h63 hbytes fun B cap w' h1 h2 h3 => hK _ _ (h B cap w' h1 h2 h3)

set_option maxHeartbeats 2000000 in
theorem copyHoldX_c (C : List Ct) (AC : Option Addr) (cC : Nat) (fn fd l0 l1 l2 : Int) (w : World) (hn : C.length ≤ 100000) (hs : SlV w AC (C.flatMap ctV)) :
    Calls Tryz.prog 24 #[.agg #[.slice AC C.length cC, .int .i64 fn, .int .i64 fd, .int .i64 l0, .int .i64 l1, .int .i64 l2]] w fun e w' => ∃ D d, e = .returned (.agg #[.slice D C.length d, .int .i64 fn, .int .i64 fd, .int .i64 l0, .int .i64 l1, .int .i64 l2]) ∧ SlV w' D (C.flatMap ctV) ∧ (0 < C.length → ∃ g cs, D = some ⟨g, 0, none⟩ ∧ w.heap.size ≤ g ∧ Box w' g 69 cs) ∧ Below w.heap.size w w' := by
  obtain ⟨i0, z0, hi0, hz0, hz1, hz2, hz3⟩ := infoOk_parts infoCt
  have hm1 : C.length ≤ maxLen := by unfold maxLen; omega
  have hm2 : C.length * 40 ≤ 140737488355328 := by omega
  have HS := Lib.hid hs
  have HL := Lib.hid (len_flat (enc := ctV) (k := 5) (fun _ => rfl) C)
  clear hs
  go_enter Tryz.func24, Tryz.ntmps24
  go_wp2_with (at_builtin; go_must (refine wpList_copyX rfl _ _ 48 rfl 69 i0 z0 5 40 Tryz.underlying48 hi0 hz0 hz1 hz2 hz3 (by decide) _ rfl AC C.length cC (C.flatMap ctV) rfl HL.out (HS.out.below (by exact bB0)) hm1 hm2 ?_); intro D d wx hv2 hf2 hb2; have q0 : Box wx w.heap.size 53 #[.slice AC C.length cC, .int .i64 fn, .int .i64 fd, .int .i64 l0, .int .i64 l1, .int .i64 l2] := (by exact bX1 hb2); have q1 : Box wx (w.heap.size + 1) 53 #[.slice none 0 0, .int .i64 0, .int .i64 0, .int .i64 0, .int .i64 0, .int .i64 0] := (by exact bX1 hb2); have hl0 := q0.lt; have hl1 := q1.lt; have c0 := q0.cell 0; have c1 := q0.cell 1; have c2 := q0.cell 2; have c3 := q0.cell 3; have c4 := q0.cell 4; have c5 := q0.cell 5; have f0 := q0.froz; have d0 := q1.cell 0; have d1 := q1.cell 1; have d2 := q1.cell 2; have d3 := q1.cell 3; have d4 := q1.cell 4; have d5 := q1.cell 5; have f1 := q1.froz; (simp at c0 c1 c2 c3 c4 c5 d0 d1 d2 d3 d4 d5); have HF2 := Lib.hid hf2; clear hf2)
  refine bodyPost_ret (res_c1 rfl rfl (show Box _ _ 53 #[.slice D C.length d, .int .i64 fn, .int .i64 fd, .int .i64 l0, .int .i64 l1, .int .i64 l2] from ?hE) Tryz.underlying53 rfl thc_size) rfl ⟨D, d, rfl, ?hD, ?hF, ?hB⟩
  case hE => exact bX1 hb2
  case hB => exact bB1 hb2
  case hF =>
    intro h0
    obtain ⟨g, cs, rfl, hg, hbx⟩ := HF2.out h0
    simp at hg
    exact ⟨g, cs, rfl, by omega, by exact bX0⟩
  case hD =>
    repeat (refine SlV.setf ?_ (fun hl b o e => ?_); rotate_left; (focus (by_cases h0 : 0 < C.length; (focus (obtain ⟨g, cs, e1, hg, hbx⟩ := HF2.out h0; rw [e1] at e; (cases e); (simp at hg); (try simp); omega)); (focus (exfalso; have hx := HL.out; rw [hx] at hl; omega)))))
    exact hv2

end Go.Proofs.YtpnfgmgoafgcbaaGreat

/-
  The texts Cpy in one.
-/
import Derived.Test.YtpnfgmgoafgcbaaA15
import Derived.Test.YtpnfgmgoafgcbaaA12
import Derived.Maps.AppendAt
/-
  Copies of slices and structs (chapter 6's reference).
-/
set_option linter.unusedVariables false
namespace Go.Proofs.Ytpnfgmgoafgcbaa
open Go.RowKit
attribute [local go_sem] Oper.semAt_some
/-- A step: the copy of a slice onto an empty one of the call's own. -/
theorem wp_copy {P : Program} {o : Oper} {a : Act} {w : World} {K : Act → World → Prop} {Q : Exit → Act → World → Prop} (s x : Operand) (t : TypeId)
    (ho : o.op = .call { callee := .builtin .append, args := #[s, x], argTypes := #[t, t] })
    (e : TypeId) (i : TypeInfo) (z : Value) (size bytes : Nat) (ht : P.underlying t = some (.slice e)) (hi : P.info? e = some i) (hz : i.zero = some z)
    (hsize : i.size = size) (hby : i.bytes = bytes) (hzs : z.cells.size = size) (hsz : 0 < size)
    (b : Addr) (hs : a.eval s = .slice (some b) 0 0)
    (A : Option Addr) (m c : Nat) (news : List Value) (hx : a.eval x = .slice A m c) (hl : news.length = m * size) (hnews : SlV w A news)
    (h63 : m ≤ maxLen) (hbytes : m * bytes ≤ 140737488355328)
    (h : ∀ B cap w', SlV w' B news → (0 < news.length → ∀ b o, B = some ⟨b, o, none⟩ → w.heap.size ≤ b) → Below w.heap.size w w' → K (a.put o.dst (.slice B m cap)) w') : Oper.wp P o a w K Q := by
  subst hsize
  subst hby
  by_cases hm : m = 0
  · subst hm
    have hn : news = [] := List.eq_nil_of_length_eq_zero (by simpa using hl)
    subst hn
    have hr : (Builtin.append_ #[t, t] o.type #[.slice (some b) 0 0, .slice A 0 c]).run P w = .ok (.slice (some b) 0 0) w := by
      cases A <;> simp [Builtin.append_, run_underlying ht, sizeOf, typeInfo, hi, Builtin.lenOf, Builtin.firstCells, loadCells, loadCellsFrom, storeCells]
    unfold Oper.wp execOp
    simp only [ho, resolve, invoke, builtin, Sem.run_bind, Sem.run_pure, Result.andThen_ok, List.map_toArray, List.map_cons, List.map_nil, hs, hx, hr]
    exact h _ _ _ (fun j u hj => by simp at hj) (fun h => absurd h (by simp)) (Below.refl _ _)
  · have hlt : 0 < news.length := by rw [hl]; exact Nat.mul_pos (by omega) hsz
    obtain ⟨b0, off0, hA, _, _⟩ := hnews 0 news[0] (List.getElem?_eq_getElem hlt)
    subst hA
    have hc : ∀ j u, news[j]? = some u → w.cell? ((⟨b0, off0, none⟩ : Addr).add j) = some u := fun j u hj => by
      obtain ⟨b1, off1, e, _, hc⟩ := hnews j u hj
      cases e
      have e : (⟨b0, off0, none⟩ : Addr).add j = ⟨b0, off0 + j, none⟩ := by unfold Addr.add; split <;> simp [*]
      rw [e]; exact hc
    have hm63 : m ≤ 9223372036854775807 := by simp only [maxLen] at h63; omega
    have hr := run_append_grow (P := P) w t o.type e i z ht hi hz b 0 0 [] (by simp) (fun j v hj => by simp at hj) ⟨b0, off0, none⟩ m c news hl hc (by omega) (by omega) (growslice_fits (by omega) (by simpa using hbytes))
    simp only [Nat.zero_add] at hr
    unfold Oper.wp execOp
    simp only [ho, resolve, invoke, builtin, Sem.run_bind, Sem.run_pure, Result.andThen_ok, List.map_toArray, List.map_cons, List.map_nil, hs, hx, hr]
    refine h _ _ _ (fun j u hj => ?_) (fun _ b o e => by injection e with e; injection e with e; omega) ((Below.refl _ w).drew.alloc (Nat.le_refl _) _)
    have hjl : j < news.length := (List.getElem?_eq_some_iff.1 hj).1
    refine ⟨w.heap.size, 0, rfl, by simp, ?_⟩
    rw [Nat.zero_add, cell_of_row _ w.heap.size j _ e (0, 0) (heap_alloc_new w.drew _)]
    simp only [Array.getElem?_append, List.getElem?_toArray, List.size_toArray]
    first
      | (rw [if_pos (by simp; omega)]; simpa using hj)
      | (rw [if_pos (by simp; omega), if_pos (by simp; omega)]; simpa using hj)
      | simp [hj, hjl]
theorem wpList_copy {P : Program} {ops : Array Oper} {rest : List Oper} {o : Oper} {a : Act} {w : World} {Q : Exit → Act → World → Prop} (hgd : o.guard = none) (s x : Operand) (t : TypeId)
    (ho : o.op = .call { callee := .builtin .append, args := #[s, x], argTypes := #[t, t] })
    (e : TypeId) (i : TypeInfo) (z : Value) (size bytes : Nat) (ht : P.underlying t = some (.slice e)) (hi : P.info? e = some i) (hz : i.zero = some z)
    (hsize : i.size = size) (hby : i.bytes = bytes) (hzs : z.cells.size = size) (hsz : 0 < size)
    (b : Addr) (hs : a.eval s = .slice (some b) 0 0)
    (A : Option Addr) (m c : Nat) (news : List Value) (hx : a.eval x = .slice A m c) (hl : news.length = m * size) (hnews : SlV w A news)
    (h63 : m ≤ maxLen) (hbytes : m * bytes ≤ 140737488355328)
    (h : ∀ B cap w', SlV w' B news → (0 < news.length → ∀ b o, B = some ⟨b, o, none⟩ → w.heap.size ≤ b) → Below w.heap.size w w' → wpList P ops Q rest (a.put o.dst (.slice B m cap)) w') : wpList P ops Q (o :: rest) a w :=
  wpList_plain hgd fun _ hK => wp_copy s x t ho e i z size bytes ht hi hz hsize hby hzs hsz b hs A m c news hx hl hnews h63 hbytes fun B cap w' h1 h2 h3 => hK _ _ (h B cap w' h1 h2 h3)
theorem sli_slv {w : World} {A : Option Addr} {xs : List Int} (h : SlI w A xs) : SlV w A (xs.map (Value.int .i64)) := fun j u hj => by
  rw [List.getElem?_map] at hj
  cases hx : xs[j]? with
  | none => rw [hx] at hj; cases hj
  | some x =>
    rw [hx] at hj
    have hu : Value.int .i64 x = u := by simpa using hj
    subst hu
    exact h j x hx
theorem slv_sli {w : World} {A : Option Addr} {xs : List Int} (h : SlV w A (xs.map (Value.int .i64))) : SlI w A xs := fun j u hj => h j _ (by rw [List.getElem?_map, hj]; rfl)
set_option maxHeartbeats 1000000 in
theorem copyInts_c (xs : List Int) (A : Option Addr) (c : Nat) (w : World) (hn : xs.length ≤ 100000) (hs : SlI w A xs) :
    Calls Try.prog 7 #[.slice A xs.length c] w fun e w' => ∃ B d, e = .returned (.slice B xs.length d) ∧ SlI w' B xs ∧ (0 < xs.length → ∀ b o, B = some ⟨b, o, none⟩ → w.heap.size ≤ b) ∧ Below w.heap.size w w' := by
  obtain ⟨i0, z0, hi0, hz0, hz1, hz2, hz3⟩ := infoOk_parts infoInt
  have hm1 : xs.length ≤ maxLen := by unfold maxLen; omega
  have hm2 : xs.length * 8 ≤ 140737488355328 := by omega
  have HS := Lib.hid (sli_slv hs)
  clear hs
  go_enter Try.func7, Try.ntmps7
  go_wp2_with (at_builtin; go_must (refine wpList_copy rfl _ _ 24 rfl 3 i0 z0 1 8 Try.underlying24 hi0 hz0 hz1 hz2 hz3 (by decide) _ rfl A xs.length c (xs.map (Value.int .i64)) rfl (by simp) (HS.out.below (by exact bB0)) hm1 hm2 ?_); intro B2 c2 wx hv2 hf2 hb2)
  go_ret
  exact ⟨_, _, rfl, slv_sli hv2, fun hl b o e => (by have := hf2 (by simpa using hl) b o e; (try simp at this); omega), by exact bB1 hb2⟩
end Go.Proofs.Ytpnfgmgoafgcbaa

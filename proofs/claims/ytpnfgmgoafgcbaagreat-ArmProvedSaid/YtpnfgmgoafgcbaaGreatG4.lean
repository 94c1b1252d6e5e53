/-
  The texts Cpy, CpyP, CpyX, CpyY, SameP in one.
-/
import Derived.Test.YtpnfgmgoafgcbaaGreatA15
import Derived.Test.YtpnfgmgoafgcbaaGreatA12
import Derived.Maps.AppendAt
import Derived.Deep.RegionHeld3
import Derived.BigQuiet
set_option linter.all false
/-
  Copies of slices and structs (chapter 6's reference).
-/
set_option linter.unusedVariables false
namespace Go.Proofs.YtpnfgmgoafgcbaaGreat
open Go.RowKit
attribute [local go_sem] Oper.semAt_some
/-- A step: the copy of a slice onto an empty one of the call's own. -/
theorem wp_copy {P : Program} {o : Oper} {a : Act} {w : World} {K : Act → World → Prop} {Q : Exit → Act → World → Prop} (s x : Operand) (t : TypeId)
    (ho : o.op = .call { callee:=.builtin .append,args:=#[s,x],argTypes:=#[t,t] })
    (e : TypeId) (i : TypeInfo) (z : Value) (size bytes : Nat) (ht : P.underlying t = some (.slice e)) (hi : P.info? e = some i) (hz : i.zero = some z)
    (hsize : i.size = size) (hby : i.bytes = bytes) (hzs : z.cells.size = size) (hsz : 0 < size)
    (b : Addr) (hs : a.eval s = .slice (some b) 0 0)
    (A : Option Addr) (m c : Nat) (news : List Value) (hx : a.eval x = .slice A m c) (hl : news.length = m * size) (hnews : SlV w A news)
    (h63 : m ≤ maxLen) (hbytes : m * bytes ≤ 140737488355328)
    (h : ∀ B cap w',SlV w' B news → (0 < news.length → ∀ b o,B = some ⟨b,o,none⟩ → w.heap.size ≤ b) → Below w.heap.size w w' → K (a.put o.dst (.slice B m cap)) w') : Oper.wp P o a w K Q:=by
  subst hsize
  subst hby
  by_cases hm : m = 0
  · subst hm
    have hn : news = []:=List.eq_nil_of_length_eq_zero (by simpa using hl)
    subst hn
    have hr : (Builtin.append_ #[t,t] o.type #[.slice (some b) 0 0,.slice A 0 c]).run P w = .ok (.slice (some b) 0 0) w:=by
      cases A <;> simp [Builtin.append_,run_underlying ht,sizeOf,typeInfo,hi,Builtin.lenOf,Builtin.firstCells,loadCells,loadCellsFrom,storeCells]
    unfold Oper.wp execOp
    simp only [ho,resolve,invoke,builtin,Sem.run_bind,Sem.run_pure,Result.andThen_ok,List.map_toArray,List.map_cons,List.map_nil,hs,hx,hr]
    exact h _ _ _ (fun j u hj => by simp at hj) (fun h => absurd h (by simp)) (Below.refl _ _)
  · have hlt : 0 < news.length:=by rw [hl];exact Nat.mul_pos (by omega) hsz
    obtain ⟨b0,off0,hA,_,_⟩:=hnews 0 news[0] (List.getElem?_eq_getElem hlt)
    subst hA
    have hc : ∀ j u,news[j]? = some u → w.cell? ((⟨b0,off0,none⟩ : Addr).add j) = some u:=fun j u hj => by
      obtain ⟨b1,off1,e,_,hc⟩:=hnews j u hj
      cases e
      have e : (⟨b0,off0,none⟩ : Addr).add j = ⟨b0,off0 + j,none⟩:=by unfold Addr.add;split <;> simp [*]
      rw [e];exact hc
    have hm63 : m ≤ 9223372036854775807:=by simp only [maxLen] at h63;omega
    have hr:=run_append_grow (P:=P) w t o.type e i z ht hi hz b 0 0 [] (by simp) (fun j v hj => by simp at hj) ⟨b0,off0,none⟩ m c news hl hc (by omega) (by omega) (growslice_fits (by omega) (by simpa using hbytes))
    simp only [Nat.zero_add] at hr
    unfold Oper.wp execOp
    simp only [ho,resolve,invoke,builtin,Sem.run_bind,Sem.run_pure,Result.andThen_ok,List.map_toArray,List.map_cons,List.map_nil,hs,hx,hr]
    refine h _ _ _ (fun j u hj => ?_) (fun _ b o e => by injection e with e;injection e with e;omega) ((Below.refl _ w).drew.alloc (Nat.le_refl _) _)
    have hjl : j < news.length:=(List.getElem?_eq_some_iff.1 hj).1
    refine ⟨w.heap.size,0,rfl,by simp, ?_⟩
    rw [Nat.zero_add,cell_of_row _ w.heap.size j _ e (0,0) (heap_alloc_new w.drew _)]
    simp only [Array.getElem?_append,List.getElem?_toArray,List.size_toArray]
    first
      | (rw [if_pos (by simp;omega)];simpa using hj)
      | (rw [if_pos (by simp;omega),if_pos (by simp;omega)];simpa using hj)
      | simp [hj,hjl]
theorem wpList_copy {P : Program} {ops : Array Oper} {rest : List Oper} {o : Oper} {a : Act} {w : World} {Q : Exit → Act → World → Prop} (hgd : o.guard = none) (s x : Operand) (t : TypeId)
    (ho : o.op = .call { callee:=.builtin .append,args:=#[s,x],argTypes:=#[t,t] })
    (e : TypeId) (i : TypeInfo) (z : Value) (size bytes : Nat) (ht : P.underlying t = some (.slice e)) (hi : P.info? e = some i) (hz : i.zero = some z)
    (hsize : i.size = size) (hby : i.bytes = bytes) (hzs : z.cells.size = size) (hsz : 0 < size)
    (b : Addr) (hs : a.eval s = .slice (some b) 0 0)
    (A : Option Addr) (m c : Nat) (news : List Value) (hx : a.eval x = .slice A m c) (hl : news.length = m * size) (hnews : SlV w A news)
    (h63 : m ≤ maxLen) (hbytes : m * bytes ≤ 140737488355328)
    (h : ∀ B cap w',SlV w' B news → (0 < news.length → ∀ b o,B = some ⟨b,o,none⟩ → w.heap.size ≤ b) → Below w.heap.size w w' → wpList P ops Q rest (a.put o.dst (.slice B m cap)) w') : wpList P ops Q (o :: rest) a w :=
  wpList_plain hgd fun _ hK => wp_copy s x t ho e i z size bytes ht hi hz hsize hby hzs hsz b hs A m c news hx hl hnews h63 hbytes fun B cap w' h1 h2 h3 => hK _ _ (h B cap w' h1 h2 h3)
theorem sli_slv {w : World} {A : Option Addr} {xs : List Int} (h : SlI w A xs) : SlV w A (xs.map (Value.int .i64)):=fun j u hj => by
  rw [List.getElem?_map] at hj
  cases hx : xs[j]? with
  | none => rw [hx] at hj;cases hj
  | some x =>
    rw [hx] at hj
    have hu : Value.int .i64 x = u:=by simpa using hj
    subst hu
    exact h j x hx
theorem slv_sli {w : World} {A : Option Addr} {xs : List Int} (h : SlV w A (xs.map (Value.int .i64))) : SlI w A xs:=fun j u hj => h j _ (by rw [List.getElem?_map,hj];rfl)
theorem len_flat {α : Type} {enc : α → List Value} {k : Nat} (hk : ∀ x,(enc x).length = k) : ∀ xs : List α,(xs.flatMap enc).length = xs.length * k
  | [] => by simp
  | x :: l => by simp [List.flatMap_cons,hk,len_flat hk l,Nat.succ_mul,Nat.add_comm]
set_option maxHeartbeats 1000000 in
theorem copyPath_c (xs : List Mv) (A : Option Addr) (c : Nat) (w : World) (hn : xs.length ≤ 100000) (hs : SlV w A (xs.flatMap mvV)) :
    Calls Tryz.prog 19 #[.slice A xs.length c] w fun e w' => ∃ B d,e = .returned (.slice B xs.length d) ∧ SlV w' B (xs.flatMap mvV) ∧ Below w.heap.size w w':=by
  obtain ⟨i0,z0,hi0,hz0,hz1,hz2,hz3⟩:=infoOk_parts infoM
  have hm1 : xs.length ≤ maxLen:=by unfold maxLen;omega
  have hm2 : xs.length * 16 ≤ 140737488355328:=by omega
  have HS:=Lib.hid hs
  have HL:=Lib.hid (len_flat (enc:=mvV) (k:=2) (fun _ => rfl) xs)
  clear hs
  go_enter Tryz.func19,Tryz.ntmps19
  go_wp2_with (at_builtin;go_must (refine wpList_copy rfl _ _ 34 rfl 84 i0 z0 2 16 Tryz.underlying34 hi0 hz0 hz1 hz2 hz3 (by decide) _ rfl A xs.length c (xs.flatMap mvV) rfl HL.out (HS.out.below (by exact bB0)) hm1 hm2 ?_);intro B2 c2 wx hv2 hf2 hb2)
  go_ret
  exact ⟨_,_,rfl,hv2,by exact bB1 hb2⟩
set_option maxHeartbeats 1000000 in
theorem copyInts_c (xs : List Int) (A : Option Addr) (c : Nat) (w : World) (hn : xs.length ≤ 100000) (hs : SlI w A xs) :
    Calls Tryz.prog 88 #[.slice A xs.length c] w fun e w' => ∃ B d,e = .returned (.slice B xs.length d) ∧ SlI w' B xs ∧ (0 < xs.length → ∀ b o,B = some ⟨b,o,none⟩ → w.heap.size ≤ b) ∧ Below w.heap.size w w':=by
  obtain ⟨i0,z0,hi0,hz0,hz1,hz2,hz3⟩:=infoOk_parts infoInt
  have hm1 : xs.length ≤ maxLen:=by unfold maxLen;omega
  have hm2 : xs.length * 8 ≤ 140737488355328:=by omega
  have HS:=Lib.hid (sli_slv hs)
  clear hs
  go_enter Tryz.func88,Tryz.ntmps88
  go_wp2_with (at_builtin;go_must (refine wpList_copy rfl _ _ 31 rfl 3 i0 z0 1 8 Tryz.underlying31 hi0 hz0 hz1 hz2 hz3 (by decide) _ rfl A xs.length c (xs.map (Value.int .i64)) rfl (by simp) (HS.out.below (by exact bB0)) hm1 hm2 ?_);intro B2 c2 wx hv2 hf2 hb2)
  go_ret
  exact ⟨_,_,rfl,slv_sli hv2,fun hl b o e => (by have:=hf2 (by simpa using hl) b o e;(try simp at this);omega),by exact bB1 hb2⟩
theorem SlV.setf {w : World} {A : Option Addr} {xs : List Value} {p : Addr} {u : Value} (h : SlV w A xs) (hp : 0 < xs.length → ∀ b o,A = some ⟨b,o,none⟩ → b ≠ p.block) : SlV (w.setCell p u) A xs:=fun j v hj => by
  obtain ⟨b,o,hA,hb,hc⟩:=h j v hj
  have hl : 0 < xs.length:=by have:=(List.getElem?_eq_some_iff.1 hj).1;omega
  refine ⟨b,o,hA,by simpa using hb, ?_⟩
  rw [World.cell?_of_block (w:=w) (Below.heap_setCell w p u b (hp hl b o hA))]
  exact hc
end Go.Proofs.YtpnfgmgoafgcbaaGreat
/-
  CopyPose and SamePose (chapter 6's reference).
-/
set_option linter.unusedVariables false
namespace Go.Proofs.YtpnfgmgoafgcbaaGreat
open Go.RowKit
attribute [local go_sem] Oper.semAt_some
theorem SlI.setf {w : World} {A : Option Addr} {xs : List Int} {p : Addr} {u : Value} (h : SlI w A xs) (hp : 0 < xs.length → ∀ b o,A = some ⟨b,o,none⟩ → b ≠ p.block) : SlI (w.setCell p u) A xs :=
  slv_sli ((sli_slv h).setf (fun hl => hp (by simpa using hl)))
theorem tps_size : (Tryz.prog.info? 33).map (·.size) = some 2:=by kernel_rfl
set_option maxHeartbeats 2000000 in
set_option maxRecDepth 100000 in
theorem copyPose_c (ps : Int) (Q : List Int) (AQ : Option Addr) (cQ : Nat) (w : World) (hn : Q.length ≤ 100000) (hs : SlI w AQ Q) :
    Calls Tryz.prog 18 #[.agg #[.int .i64 ps,.slice AQ Q.length cQ]] w fun e w' => ∃ D d,e = .returned (.agg #[.int .i64 ps,.slice D Q.length d]) ∧ SlI w' D Q ∧ Below w.heap.size w w':=by
  have CIc:=Lib.hid (fun W (h : Below w.heap.size w W) => copyInts_c Q AQ cQ W hn (hs.below h))
  clear hs
  go_enter Tryz.func18,Tryz.ntmps18
  go_upto_region 1 with fail
  have G0 : Box ((w.alloc (.cells #[.int .i64 ps,.slice AQ Q.length cQ] 33)).alloc (.cells #[.int .i64 0,.slice none 0 0] 33)) w.heap.size 33 #[.int .i64 ps,.slice AQ Q.length cQ]:=by exact bX0
  (refine wp_region_held_drew (S:=(fun w' => Box w' w.heap.size 33 #[.int .i64 ps,.slice AQ Q.length cQ])) kR ?_ (fun hHeld => ?_);(focus ((try dsimp only);(((first | exact bX0 | exact bX1 hb3)))));have hO:=Lib.hid (fun w' (hSw : (fun w' => Box w' w.heap.size 33 #[.int .i64 ps,.slice AQ Q.length cQ]) w') => (by (try dsimp only at hSw);(have sa0:=hSw.cell 0;have sa1:=hSw.cell 1;(simp at sa0 sa1));exact And.intro sa0 sa1));refine rgN 0 rfl ?_;refine rgL 1 hO rfl ?_;refine rgN 2 rfl ?_;refine rgL 3 hO rfl ?_;refine rgC 4 rfl (fun K hK => ?_);go_simp;((go_at_call 88;(with_reducible refine (CIc.out _ (by exact bB0)).mono ?_);rintro e w3 hC3;obtain ⟨D,d,rfl,hv3,hf3,hb3⟩:=hC3;have hz3 : w.heap.size + 1 + 1 ≤ w3.heap.size:=(by have:=hb3.size;(try simp at this);omega);have V3 : Box w3 (w.heap.size + 1) 33 #[.int .i64 0,.slice none 0 0]:=(by exact bX1 hb3);have v30:=V3.cell 0;have v31:=V3.cell 1;have fv3:=V3.froz;have lv3:=V3.lt;(simp at v30 v31)));go_simp;refine hK.out _ _ ?_ (fun hHeld => ?_);(focus ((try dsimp only);(((first | exact bX1 hb3 | exact bX0)))));clear hK K;(try simp only [Act.put,pqs]);refine rgN 5 rfl ?_;refine rgC 6 rfl (fun K hK => ?_);go_simp;refine hK.out _ _ ?_ (fun hHeld => ?_);(focus ((try dsimp only);(((first | exact bX1 hb3 | exact bX0)))));clear hK K;(try simp only [Act.put,pqs]);refine wpAnyH_done kR ?_ _)
  go_wp2
  refine bodyPost_ret (res_c1 rfl rfl (show Box _ _ 33 #[.int .i64 ps,.slice D Q.length d] from ?hE) Tryz.underlying33 rfl tps_size) rfl ⟨D,d,rfl, ?hD, ?hB⟩
  case hE => exact bX1 hb3
  case hB => exact bB1 hb3
  case hD =>
    repeat (refine SlI.setf ?_ (fun hl b o e => ?_);rotate_left;(focus (have:=hf3 hl b o e;(try simp at this);(try simp);omega)))
    exact hv3
end Go.Proofs.YtpnfgmgoafgcbaaGreat
/-
  Copies that are written afterwards (chapter 6's reference): the copy lies in a block of its own.
-/
set_option linter.unusedVariables false
namespace Go.Proofs.YtpnfgmgoafgcbaaGreat
open Go.RowKit
attribute [local go_sem] Oper.semAt_some
/-- A step: the copy of a slice onto an empty one of the call's own; the block that it lies in. -/
theorem wp_copyX {P : Program} {o : Oper} {a : Act} {w : World} {K : Act → World → Prop} {Q : Exit → Act → World → Prop} (s x : Operand) (t : TypeId)
    (ho : o.op = .call { callee:=.builtin .append,args:=#[s,x],argTypes:=#[t,t] })
    (e : TypeId) (i : TypeInfo) (z : Value) (size bytes : Nat) (ht : P.underlying t = some (.slice e)) (hi : P.info? e = some i) (hz : i.zero = some z)
    (hsize : i.size = size) (hby : i.bytes = bytes) (hzs : z.cells.size = size) (hsz : 0 < size)
    (b : Addr) (hs : a.eval s = .slice (some b) 0 0)
    (A : Option Addr) (m c : Nat) (news : List Value) (hx : a.eval x = .slice A m c) (hl : news.length = m * size) (hnews : SlV w A news)
    (h63 : m ≤ maxLen) (hbytes : m * bytes ≤ 140737488355328)
    (h : ∀ B cap w',SlV w' B news → (0 < m → ∃ g cs,B = some ⟨g,0,none⟩ ∧ w.heap.size ≤ g ∧ Box w' g e cs) → Below w.heap.size w w' → K (a.put o.dst (.slice B m cap)) w') : Oper.wp P o a w K Q:=by
  subst hsize
  subst hby
  by_cases hm : m = 0
  · subst hm
    have hn : news = []:=List.eq_nil_of_length_eq_zero (by simpa using hl)
    subst hn
    have hr : (Builtin.append_ #[t,t] o.type #[.slice (some b) 0 0,.slice A 0 c]).run P w = .ok (.slice (some b) 0 0) w:=by
      cases A <;> simp [Builtin.append_,run_underlying ht,sizeOf,typeInfo,hi,Builtin.lenOf,Builtin.firstCells,loadCells,loadCellsFrom,storeCells]
    unfold Oper.wp execOp
    simp only [ho,resolve,invoke,builtin,Sem.run_bind,Sem.run_pure,Result.andThen_ok,List.map_toArray,List.map_cons,List.map_nil,hs,hx,hr]
    exact h _ _ _ (fun j u hj => by simp at hj) (fun h => absurd h (by simp)) (Below.refl _ _)
  · have hlt : 0 < news.length:=by rw [hl];exact Nat.mul_pos (by omega) hsz
    obtain ⟨b0,off0,hA,_,_⟩:=hnews 0 news[0] (List.getElem?_eq_getElem hlt)
    subst hA
    have hc : ∀ j u,news[j]? = some u → w.cell? ((⟨b0,off0,none⟩ : Addr).add j) = some u:=fun j u hj => by
      obtain ⟨b1,off1,e,_,hc⟩:=hnews j u hj
      cases e
      have e : (⟨b0,off0,none⟩ : Addr).add j = ⟨b0,off0 + j,none⟩:=by unfold Addr.add;split <;> simp [*]
      rw [e];exact hc
    have hm63 : m ≤ 9223372036854775807:=by simp only [maxLen] at h63;omega
    have hr:=run_append_grow (P:=P) w t o.type e i z ht hi hz b 0 0 [] (by simp) (fun j v hj => by simp at hj) ⟨b0,off0,none⟩ m c news hl hc (by omega) (by omega) (growslice_fits (by omega) (by simpa using hbytes))
    simp only [Nat.zero_add] at hr
    unfold Oper.wp execOp
    simp only [ho,resolve,invoke,builtin,Sem.run_bind,Sem.run_pure,Result.andThen_ok,List.map_toArray,List.map_cons,List.map_nil,hs,hx,hr]
    refine h _ _ _ (fun j u hj => ?_) (fun _ => ⟨w.heap.size,_,rfl,Nat.le_refl _,heap_alloc_new w.drew _⟩) ((Below.refl _ w).drew.alloc (Nat.le_refl _) _)
    have hjl : j < news.length:=(List.getElem?_eq_some_iff.1 hj).1
    refine ⟨w.heap.size,0,rfl,by simp, ?_⟩
    rw [Nat.zero_add,cell_of_row _ w.heap.size j _ e (0,0) (heap_alloc_new w.drew _)]
    simp only [Array.getElem?_append,List.getElem?_toArray,List.size_toArray]
    first
      | (rw [if_pos (by simp;omega)];simpa using hj)
      | (rw [if_pos (by simp;omega),if_pos (by simp;omega)];simpa using hj)
      | simp [hj,hjl]
theorem wpList_copyX {P : Program} {ops : Array Oper} {rest : List Oper} {o : Oper} {a : Act} {w : World} {Q : Exit → Act → World → Prop} (hgd : o.guard = none) (s x : Operand) (t : TypeId)
    (ho : o.op = .call { callee:=.builtin .append,args:=#[s,x],argTypes:=#[t,t] })
    (e : TypeId) (i : TypeInfo) (z : Value) (size bytes : Nat) (ht : P.underlying t = some (.slice e)) (hi : P.info? e = some i) (hz : i.zero = some z)
    (hsize : i.size = size) (hby : i.bytes = bytes) (hzs : z.cells.size = size) (hsz : 0 < size)
    (b : Addr) (hs : a.eval s = .slice (some b) 0 0)
    (A : Option Addr) (m c : Nat) (news : List Value) (hx : a.eval x = .slice A m c) (hl : news.length = m * size) (hnews : SlV w A news)
    (h63 : m ≤ maxLen) (hbytes : m * bytes ≤ 140737488355328)
    (h : ∀ B cap w',SlV w' B news → (0 < m → ∃ g cs,B = some ⟨g,0,none⟩ ∧ w.heap.size ≤ g ∧ Box w' g e cs) → Below w.heap.size w w' → wpList P ops Q rest (a.put o.dst (.slice B m cap)) w') : wpList P ops Q (o :: rest) a w :=
  wpList_plain hgd fun _ hK => wp_copyX s x t ho e i z size bytes ht hi hz hsize hby hzs hsz b hs A m c news hx hl hnews h63 hbytes fun B cap w' h1 h2 h3 => hK _ _ (h B cap w' h1 h2 h3)
end Go.Proofs.YtpnfgmgoafgcbaaGreat
/-
  A copied pose lies in a block of its own (chapter 6's reference).
-/
set_option linter.unusedVariables false
namespace Go.Proofs.YtpnfgmgoafgcbaaGreat
open Go.RowKit
attribute [local go_sem] Oper.semAt_some
/-- A row begins so. -/
def Bgn (cs : Array Value) (xs : List Value) : Prop:=∀ (j : Nat) (u : Value),xs[j]? = some u → cs[j]? = some u
theorem Bgn.set {cs : Array Value} {xs : List Value} (h : Bgn cs xs) (i : Nat) (v : Value) : Bgn (cs.setIfInBounds i v) (xs.set i v):=fun j u hj => by
  rw [List.getElem?_set] at hj
  rw [Array.getElem?_setIfInBounds]
  by_cases e : i = j
  · subst e
    by_cases hi : i < xs.length
    · simp [hi] at hj
      subst hj
      have h2:=h i xs[i] (List.getElem?_eq_getElem hi)
      have h3:=(Array.getElem?_eq_some_iff.1 h2).1
      simp [h3]
    · simp [hi] at hj
  · simp [e] at hj ⊢
    exact h j u hj
theorem Bgn.slv {w : World} {g : Nat} {t : TypeId} {cs : Array Value} {xs : List Value} (h : Bgn cs xs) (hb : Box w g t cs) : SlV w (some ⟨g,0,none⟩) xs:=fun j u hj => ⟨g,0,rfl,hb.lt,by rw [hb.cell,Nat.zero_add];exact h j u hj⟩
theorem bgn_of {w : World} {g : Nat} {t : TypeId} {cs : Array Value} {xs : List Value} (hb : Box w g t cs) (h : SlV w (some ⟨g,0,none⟩) xs) : Bgn cs xs:=fun j u hj => by
  obtain ⟨b,o,e,_,hc⟩:=h j u hj
  cases e
  rw [hb.cell,Nat.zero_add] at hc
  exact hc
set_option maxHeartbeats 1000000 in
theorem copyIntsX_c (xs : List Int) (A : Option Addr) (c : Nat) (w : World) (hn : xs.length ≤ 100000) (hs : SlI w A xs) :
    Calls Tryz.prog 88 #[.slice A xs.length c] w fun e w' => ∃ B d,e = .returned (.slice B xs.length d) ∧ SlI w' B xs ∧ (0 < xs.length → ∃ g cs,B = some ⟨g,0,none⟩ ∧ w.heap.size ≤ g ∧ Box w' g 3 cs) ∧ Below w.heap.size w w':=by
  obtain ⟨i0,z0,hi0,hz0,hz1,hz2,hz3⟩:=infoOk_parts infoInt
  have hm1 : xs.length ≤ maxLen:=by unfold maxLen;omega
  have hm2 : xs.length * 8 ≤ 140737488355328:=by omega
  have HS:=Lib.hid (sli_slv hs)
  clear hs
  go_enter Tryz.func88,Tryz.ntmps88
  go_wp2_with (at_builtin;go_must (refine wpList_copyX rfl _ _ 31 rfl 3 i0 z0 1 8 Tryz.underlying31 hi0 hz0 hz1 hz2 hz3 (by decide) _ rfl A xs.length c (xs.map (Value.int .i64)) rfl (by simp) (HS.out.below (by exact bB0)) hm1 hm2 ?_);intro B2 c2 wx hv2 hf2 hb2;have HF2:=Lib.hid hf2;clear hf2)
  go_ret
  refine ⟨_,_,rfl,slv_sli hv2,fun hl => ?_,by exact bB1 hb2⟩
  obtain ⟨g,cs,e,hg,hbx⟩:=HF2.out hl
  simp at hg
  exact ⟨g,cs,e,by omega,hbx⟩
set_option maxHeartbeats 2000000 in
set_option maxRecDepth 100000 in
theorem copyPoseX_c (ps : Int) (Q : List Int) (AQ : Option Addr) (cQ : Nat) (w : World) (hn : Q.length ≤ 100000) (hs : SlI w AQ Q) :
    Calls Tryz.prog 18 #[.agg #[.int .i64 ps,.slice AQ Q.length cQ]] w fun e w' => ∃ D d,e = .returned (.agg #[.int .i64 ps,.slice D Q.length d]) ∧ SlI w' D Q ∧ (0 < Q.length → ∃ g cs,D = some ⟨g,0,none⟩ ∧ w.heap.size ≤ g ∧ Box w' g 3 cs) ∧ Below w.heap.size w w':=by
  have CIc:=Lib.hid (fun W (h : Below w.heap.size w W) => copyIntsX_c Q AQ cQ W hn (hs.below h))
  clear hs
  go_enter Tryz.func18,Tryz.ntmps18
  go_upto_region 1 with fail
  have G0 : Box ((w.alloc (.cells #[.int .i64 ps,.slice AQ Q.length cQ] 33)).alloc (.cells #[.int .i64 0,.slice none 0 0] 33)) w.heap.size 33 #[.int .i64 ps,.slice AQ Q.length cQ]:=by exact bX0
  (refine wp_region_held_drew (S:=(fun w' => Box w' w.heap.size 33 #[.int .i64 ps,.slice AQ Q.length cQ])) kR ?_ (fun hHeld => ?_);(focus ((try dsimp only);(((first | exact bX0 | exact bX1 hb3)))));have hO:=Lib.hid (fun w' (hSw : (fun w' => Box w' w.heap.size 33 #[.int .i64 ps,.slice AQ Q.length cQ]) w') => (by (try dsimp only at hSw);(have sa0:=hSw.cell 0;have sa1:=hSw.cell 1;(simp at sa0 sa1));exact And.intro sa0 sa1));refine rgN 0 rfl ?_;refine rgL 1 hO rfl ?_;refine rgN 2 rfl ?_;refine rgL 3 hO rfl ?_;refine rgC 4 rfl (fun K hK => ?_);go_simp;((go_at_call 88;(with_reducible refine (CIc.out _ (by exact bB0)).mono ?_);rintro e w3 hC3;obtain ⟨D,d,rfl,hv3,hf3,hb3⟩:=hC3;have HF3:=Lib.hid hf3;clear hf3;have hz3 : w.heap.size + 1 + 1 ≤ w3.heap.size:=(by have:=hb3.size;(try simp at this);omega);have V3 : Box w3 (w.heap.size + 1) 33 #[.int .i64 0,.slice none 0 0]:=(by exact bX1 hb3);have v30:=V3.cell 0;have v31:=V3.cell 1;have fv3:=V3.froz;have lv3:=V3.lt;(simp at v30 v31)));go_simp;refine hK.out _ _ ?_ (fun hHeld => ?_);(focus ((try dsimp only);(((first | exact bX1 hb3 | exact bX0)))));clear hK K;(try simp only [Act.put,pqs]);refine rgN 5 rfl ?_;refine rgC 6 rfl (fun K hK => ?_);go_simp;refine hK.out _ _ ?_ (fun hHeld => ?_);(focus ((try dsimp only);(((first | exact bX1 hb3 | exact bX0)))));clear hK K;(try simp only [Act.put,pqs]);refine wpAnyH_done kR ?_ _)
  go_wp2
  refine bodyPost_ret (res_c1 rfl rfl (show Box _ _ 33 #[.int .i64 ps,.slice D Q.length d] from ?hE) Tryz.underlying33 rfl tps_size) rfl ⟨D,d,rfl, ?hD, ?hF, ?hZ⟩
  case hE => exact bX1 hb3
  case hZ => exact bB1 hb3
  case hF =>
    intro h0
    obtain ⟨g,cs,e,hg,hbx⟩:=HF3.out h0
    simp at hg
    exact ⟨g,cs,e,by omega,by exact bX0⟩
  case hD =>
    repeat (refine SlI.setf ?_ (fun hl b o e => ?_);rotate_left;(focus (obtain ⟨g,cs,e1,hg,hbx⟩:=HF3.out hl;rw [e1] at e;(cases e);(simp at hg);(try simp);omega)))
    exact hv3
end Go.Proofs.YtpnfgmgoafgcbaaGreat
/-
  Ints and SamePose (chapter 6's reference).
-/
set_option linter.unusedVariables false
namespace Go.Proofs.YtpnfgmgoafgcbaaGreat
open Go.RowKit
attribute [local go_sem] Oper.semAt_some
set_option maxHeartbeats 1000000 in
theorem ints_c (xs ys : List Int) (A B : Option Addr) (c d : Nat) (w : World) (hn : xs.length ≤ 9223372036854775807) (hm : ys.length ≤ 9223372036854775807) (hs : SlI w A xs) (ht : SlI w B ys) :
    Calls Tryz.prog 91 #[.slice A xs.length c,.slice B ys.length d] w fun e w' => e = .returned (.bool (decide (xs = ys))) ∧ Below w.heap.size w w':=by
  by_cases hl : xs.length = ys.length
  · have hl1 : ((xs.length : Int) != (ys.length : Int)) = false:=by simp [hl]
    have HL:=Lib.hid hl
    have hle : xs.length ≤ ys.length:=by omega
    have hle' : ys.length ≤ xs.length:=by omega
    clear hl
    go_enter Tryz.func91,Tryz.ntmps91
    go_wp2
    go_loopw [5] (fun i wr => ∃ k : Nat,k ≤ xs.length ∧ i = .int .i64 k ∧ Hid (xs.take k = ys.take k) ∧ Below w.heap.size w wr) (fun i _ => xs.length - (intOf i).toNat)
    case atStart => exact ⟨0,Nat.zero_le _,rfl,rfl,Below.refl _ _⟩
    case round =>
      obtain ⟨k,hk,rfl,hf,hB⟩:=hrel
      by_cases hlt : k < xs.length
      · obtain ⟨b,off,rfl,hb,hc⟩:=hs.below hB k xs[k] (List.getElem?_eq_getElem hlt)
        obtain ⟨b',off',rfl,hb',hc'⟩:=ht.below hB k (ys[k]'(by omega)) (List.getElem?_eq_getElem (by omega))
        have hky : k < ys.length:=by omega
        have T1:=Lib.hid (List.take_succ_eq_append_getElem (l:=xs) hlt)
        have T2:=Lib.hid (List.take_succ_eq_append_getElem (l:=ys) hky)
        have G1:=Lib.hid (List.getElem?_eq_getElem (l:=xs) hlt)
        have G2:=Lib.hid (List.getElem?_eq_getElem (l:=ys) hky)
        have HS:=Lib.hid hs;have HT:=Lib.hid ht
        clear hs ht
        generalize hx : xs[k] = x at *
        generalize hy : ys[k] = y at *
        clear hx hy
        by_cases hxy : x = y
        · have h1 : (x != y) = false:=bneF hxy
          have HXY:=Lib.hid hxy
          clear hxy
          go_wp2
          go_quiet (fail)
          go_wp2
          go_roundw
          case rel => exact ⟨k + 1,by omega,by go_num,by unfold Hid;rw [T1.out,T2.out,hf.out,HXY.out],below_drewN hB _⟩
          case measure => simp [intOf];omega
        · have h1 : (x != y) = true:=bneT hxy
          have HXY:=Lib.hid hxy
          clear hxy
          go_wp2
          go_quiet (fail)
          go_wp2
          go_ret
          refine ⟨ret_b ?_,below_drewN hB _⟩
          refine (decide_eq_false fun e => HXY.out ?_).symm
          have:=G1.out;rw [e,G2.out] at this
          exact (Option.some.inj this).symm
      · obtain rfl : k = xs.length:=by omega
        have HE:=Lib.hid (show xs = ys by
          have:=hf.out
          rw [List.take_length,HL.out,List.take_length] at this
          exact this)
        go_wp2
        go_ret
        exact ⟨ret_b (decide_eq_true HE.out).symm,hB⟩
  · have hl1 : ((xs.length : Int) != (ys.length : Int)) = true:=bneT (by omega)
    have HL:=Lib.hid (show xs ≠ ys from fun e => hl (by rw [e]))
    clear hl hs ht
    go_enter Tryz.func91,Tryz.ntmps91
    go_wp2
    go_ret
    exact ⟨ret_b (decide_eq_false HL.out).symm,Below.refl _ _⟩
set_option maxHeartbeats 1000000 in
theorem samePose_c (ps pt : Int) (Q T : List Int) (AQ AT : Option Addr) (cQ cT : Nat) (w : World) (hn : Q.length ≤ 100000) (hm : T.length ≤ 100000) (hs : SlI w AQ Q) (ht : SlI w AT T) :
    Calls Tryz.prog 21 #[.agg #[.int .i64 ps,.slice AQ Q.length cQ],.agg #[.int .i64 pt,.slice AT T.length cT]] w fun e w' => e = .returned (.bool (decide ((ps,Q) = (pt,T)))) ∧ Below w.heap.size w w':=by
  have INc:=Lib.hid (fun W (h : Below w.heap.size w W) => ints_c Q T AQ AT cQ cT W (by omega) (by omega) (hs.below h) (ht.below h))
  clear hs ht
  have HR:=Lib.hid (show decide ((ps,Q) = (pt,T)) = (decide (ps = pt) && decide (Q = T)) from by simp)
  generalize decide ((ps,Q) = (pt,T)) = R at *
  generalize decide (Q = T) = r at *
  by_cases h : ps = pt
  · have h1 : (ps == pt) = true:=beqT h
    have HR2:=Lib.hid (show R = r by rw [HR.out];simp [h])
    clear HR h
    go_enter Tryz.func21,Tryz.ntmps21
    go_wp2_with (first | (go_at_call 91;(with_reducible refine (INc.out _ (by exact bB0)).mono ?_);rintro e w3 ⟨rfl,hb3⟩) | fail)
    go_ret
    exact ⟨ret_b HR2.out.symm,by exact bB1 hb3⟩
  · have h1 : (ps == pt) = false:=beqF h
    have HR2:=Lib.hid (show R = false by rw [HR.out];simp [h])
    clear HR h
    go_enter Tryz.func21,Tryz.ntmps21
    go_wp2_with fail
    go_ret
    exact ⟨ret_b HR2.out.symm,by exact bB0⟩
end Go.Proofs.YtpnfgmgoafgcbaaGreat

/-
  The texts Cells, Cells2, Taken, Round, Round2 in one.
-/
import Derived.Test.YtpnfgmgoafgcbaaGreatA3
import Derived.Test.YtpnfgmgoafgcbaaGreatA2
import Derived.OrdersHeld
import Derived.OrdersIn
import Derived.RangeFuncCalls
import Derived.TacticsIn
import Derived.Test.YtpnfgmgoafgcbaaGreatA1
import Derived.RangeFuncNested
set_option linter.all false
/-
  The cells of an arm (chapter 6): the iterator cells, by its contract.
-/
set_option linter.unusedVariables false
namespace Go.Proofs.YtpnfgmgoafgcbaaGreat
open Go.RowKit Go.Shelf
attribute [local go_sem] Oper.semAt_some
attribute [local go_sem ↓] eql_ce' neq_ce'
set_option maxHeartbeats 400000 in
theorem cells_in (F : Fence) (n : Nat) (hF : F.fn 130) (hro : F.round = none) (bx bY sl fx fX fy fY ps fr : Int) (nL nB nQ : Nat) (AL AB AQ : Option Addr) (cL cB cQ : Nat) (w : World) :
    CallsIn F n Tryz.prog 130 #[.agg #[.int .i64 bx,.int .i64 bY,.int .i64 sl,.slice AL nL cL,.int .i64 fx,.int .i64 fX,.int .i64 fy,.int .i64 fY,.slice AB nB cB,.int .i64 ps,.slice AQ nQ cQ],.int .i64 fr] w fun e w' => e = .returned (.func (.func 165) #[] #[.pointer (some ⟨w.heap.size,0,none⟩),.pointer (some ⟨w.heap.size + 1,0,none⟩)]) ∧
      (w.alloc (.cells #[.int .i64 bx,.int .i64 bY,.int .i64 sl,.slice AL nL cL,.int .i64 fx,.int .i64 fX,.int .i64 fy,.int .i64 fY,.slice AB nB cB,.int .i64 ps,.slice AQ nQ cQ] 135)).alloc (.cells #[.int .i64 fr] 3) = w':=by
  refine callsIn_of_wp Tryz.func130 rfl hF ?_ hro
  simp only [Tryz.ntmps130,List.size_toArray,List.length_cons,List.length_nil,Nat.reduceAdd,Nat.reduceSub,Array.replicate_succ,Array.replicate_zero,List.push_toArray,List.append_toArray,List.nil_append,List.cons_append]
  gi_wp2
  go_ret
  exact ⟨rfl,rfl⟩
def firstLoop : Code → Option Code
  | .loop c => some c
  | .seq a b => match firstLoop a with
    | some c => some c
    | none => firstLoop b
  | .block _ c => firstLoop c
  | .scope c => firstLoop c
  | _ => none
noncomputable def cLoop : Code:=(Tryz.f165.body.bind firstLoop).getD .skip
/-- Cells from block n0 on are kept; the iterator's own steps write one of its blocks. -/
def KpC (n0 : Nat) (W W' : World) : Prop:=∀ k cs t,n0 ≤ k → Box W k t cs → Box W' k t cs
/-- As KpC, but for blocks that are the round's own (Ex); what is not the round's own remains so. -/
def KpX (Ex : World → Nat → Prop) (n0 : Nat) (W W' : World) : Prop:=(∀ k cs t,n0 ≤ k → ¬ Ex W k → Box W k t cs → Box W' k t cs ∧ ¬ Ex W' k) ∧ ((∀ k,W.heap.size ≤ k → ¬ Ex W k) → ∀ k,W'.heap.size ≤ k → ¬ Ex W' k)
/-- Whether a block is the round's own does not depend on blocks from n0 on. -/
def ExK (Ex : World → Nat → Prop) (n0 : Nat) : Prop:=∀ (A B : World) (row : Option Nat) (k : Nat),n0 ≤ A.heap.size → A.grownBy B row → (∀ r,row = some r → n0 ≤ r) → Ex B k → Ex A k
/-- Blocks that are not the round's own. -/
def Nx (Ex : World → Nat → Prop) (gs : List Nat) (W : World) : Prop:=(∀ g ∈ gs,¬ Ex W g) ∧ ∀ k,W.heap.size ≤ k → ¬ Ex W k
theorem Nx.keep {Ex : World → Nat → Prop} {n0 : Nat} {gs : List Nat} {A B : World} {row : Option Nat} (h : Nx Ex gs A) (hE : ExK Ex n0) (h0 : n0 ≤ A.heap.size) (hg : A.grownBy B row) (hr : ∀ r,row = some r → n0 ≤ r) : Nx Ex gs B :=
  ⟨fun g hm e => h.1 g hm (hE A B row g h0 hg hr e),fun k hk e => h.2 k (Nat.le_trans hg.size hk) (hE A B row k h0 hg hr e)⟩
theorem Nx.less {Ex : World → Nat → Prop} {gs gs' : List Nat} {W : World} (h : Nx Ex gs W) (hs : ∀ g ∈ gs',g ∈ gs) : Nx Ex gs' W:=⟨fun g hm => h.1 g (hs g hm),h.2⟩
theorem Nx.more {Ex : World → Nat → Prop} {n0 V : Nat} {gs gs' : List Nat} {A B : World} {row : Option Nat} (h : Nx Ex gs A) (hE : ExK Ex n0) (h0 : n0 ≤ A.heap.size) (hg : A.grownBy B row) (hr : ∀ r,row = some r → n0 ≤ r) (hn : ∀ g ∈ gs',A.heap.size ≤ g) : Nx Ex (gs ++ gs') B :=
  ⟨fun g hm e => by
    have e2:=hE A B row g h0 hg hr e
    rcases List.mem_append.1 hm with hm | hm
    · exact h.1 g hm e2
    · exact h.2 g (hn g hm) e2,fun k hk e => h.2 k (Nat.le_trans hg.size hk) (hE A B row k h0 hg hr e)⟩
theorem KpX.box {Ex : World → Nat → Prop} {n0 k : Nat} {W W' : World} {cs : Array Value} {t : TypeId} {gs : List Nat} (h : KpX Ex n0 W W') (hn : Nx Ex gs W) (hm : k ∈ gs) (hk : n0 ≤ k) (hb : Box W k t cs) : Box W' k t cs:=(h.1 k cs t hk (hn.1 k hm) hb).1
theorem KpX.nx {Ex : World → Nat → Prop} {n0 : Nat} {W W' : World} {gs : List Nat} (h : KpX Ex n0 W W') (hn : Nx Ex gs W) (hb : ∀ g ∈ gs,n0 ≤ g ∧ ∃ t cs,Box W g t cs) : Nx Ex gs W' :=
  ⟨fun g hm => by obtain ⟨h1,t,cs,h2⟩:=hb g hm;exact (h.1 g cs t h1 (hn.1 g hm) h2).2,h.2 hn.2⟩
theorem KpC.x {n0 : Nat} {W W' : World} (h : KpC n0 W W') : KpX (fun _ _ => False) n0 W W':=⟨fun k cs t hk _ hb => ⟨h k cs t hk hb,id⟩,fun _ _ _ => id⟩
def StC (n0 : Nat) (A B : World) : Prop:=∃ g,n0 ≤ g ∧ (∃ t cs,Box A g t cs) ∧ A.grownBy B (some g)
def StX (Ex : World → Nat → Prop) (n0 : Nat) (A B : World) : Prop:=∃ g,n0 ≤ g ∧ ¬ Ex A g ∧ (∃ t cs,Box A g t cs) ∧ A.grownBy B (some g)
/-- Neighbours among joints lie on a line along an axis; sizes. -/
def Axes (js : List Ce) : Prop:=∀ i a b,js[i]? = some a → js[i + 1]? = some b → a.1 = b.1 ∨ a.2 = b.2
def Small (js : List Ce) : Prop:=∀ c ∈ js,(-1000 ≤ c.1 ∧ c.1 ≤ 1000) ∧ (-1000 ≤ c.2 ∧ c.2 ≤ 1000)
theorem segs_drop {js : List Ce} {i : Nat} {a b : Ce} (ha : js[i]? = some a) (hb : js[i + 1]? = some b) : segs (js.drop i) = seg a b ++ segs (js.drop (i + 1)):=by
  have h1 : i < js.length:=(List.getElem?_eq_some_iff.1 ha).1
  have h2 : i + 1 < js.length:=(List.getElem?_eq_some_iff.1 hb).1
  rw [List.drop_eq_getElem_cons h1,List.drop_eq_getElem_cons h2]
  rw [List.getElem?_eq_getElem h1] at ha
  rw [List.getElem?_eq_getElem h2] at hb
  cases ha;cases hb
  rfl
theorem segs_end {js : List Ce} {i : Nat} (h : js.length ≤ i + 1) : segs (js.drop i) = []:=by
  have : (js.drop i).length ≤ 1:=by simp;omega
  match js.drop i,this with
  | [],_ => rfl
  | [_],_ => rfl
  | _ :: _ :: _,h => simp at h
/-- What holds while the cells are handed over. -/
structure CW (l gY gJ B : Nat) (csJ : Array Value) (ds : List Nat) (J : List Ce → World → Prop) (done : List Ce) (W : World) : Prop where
  j : J done W
  y : Box W gY 224 #[.func (.yield l) #[] #[]]
  js : Box W gJ 22 csJ
  m : MarksOk B W ds
theorem box_keep {W W' : World} {g : Nat} {t : TypeId} {cs : Array Value} {row : Option Nat} (h : Box W g t cs) (hg : W.grownBy W' row) (hr : row ≠ some g) : Box W' g t cs:=(hg.block g h.lt (fun e => hr e.symm)).trans h
theorem row_ne {W : World} {g : Nat} {t : TypeId} {cs : Array Value} {row : Option Nat} (h : Box W g t cs) (hr : ∀ r,row = some r → ∃ o : Obj,W.heap[r]? = some o ∧ o.isCells = false) : row ≠ some g:=by
  intro e
  obtain ⟨o,ho,hc⟩:=hr g e
  rw [show W.heap[g]? = _ from h] at ho
  cases ho;cases hc
theorem CW.keep {l gY gJ U V : Nat} {csJ : Array Value} {ds : List Nat} {J : List Ce → World → Prop} {done : List Ce} {W W' : World} {row : Option Nat} (h : CW l gY gJ U csJ ds J done W) (hJ : OwnFrom U J) (hg : W.grownBy W' row) (hUV : U ≤ V) (hr : ∀ r,row = some r → V ≤ r ∧ ∃ o : Obj,W.heap[r]? = some o ∧ o.isCells = false) (hD : ∀ D ∈ ds,D < V) : CW l gY gJ U csJ ds J done W' :=
  ⟨hJ _ _ _ row h.j hg (fun r e => ⟨Nat.le_trans hUV (hr r e).1,(hr r e).2⟩),box_keep h.y hg (row_ne h.y (fun r e => (hr r e).2)),box_keep h.js hg (row_ne h.js (fun r e => (hr r e).2)),h.m.grown hg (fun D hD' e => by have:=(hr D e).1;have:=hD D hD';omega)⟩
theorem mark_ne {B : Nat} {W : World} {g : Nat} {t : TypeId} {cs : Array Value} {ds : List Nat} (h : Box W g t cs) (hM : MarksOk B W ds) : ∀ D ∈ ds,some g ≠ some D:=fun D hD e => by
  cases e
  have:=(hM.2 g hD).2
  rw [show W.heap[g]? = _ from h] at this
  cases this
def firstRange : Code → Option Code
  | .rangeFunc g ps a b => some (.rangeFunc g ps a b)
  | .seq a b => match firstRange a with
    | some c => some c
    | none => firstRange b
  | .cond _ a b => match firstRange a with
    | some c => some c
    | none => firstRange b
  | .loop c => firstRange c
  | .block _ c => firstRange c
  | .scope c => firstRange c
  | _ => none
noncomputable def cRange : Code:=(Tryz.f165.body.bind firstRange).getD .skip
set_option maxHeartbeats 4000000 in
set_option maxRecDepth 100000 in
/-- One line's cells. -/
theorem cline_c (Ex : World → Nat → Prop) (n l gY gJ ga n0 U : Nat) (csJ : Array Value) (tot done : List Ce) (J Jx : List Ce → World → Prop) (a b : Ce) (ds : List Nat) (Q : Exit → Act → World → Prop) (hn : 1 ≤ n)
    (hJ : OwnFrom U J) (hJx : OwnFrom U Jx) (hJS : ∀ pre A B,StX Ex n0 A B → J pre A → J pre B) (h0U : n0 ≤ U) (hYU : U ≤ gY) (hJU : U ≤ gJ)
    (hY : ∀ pre x W1,J pre W1 → pre ++ [x] <+: tot → YieldAt Fence.wide (n - 1) Tryz.prog l #[.agg #[.int .i64 x.1,.int .i64 x.2]] W1 fun e W' =>
      (e = .returned (.bool true) ∧ J (pre ++ [x]) W' ∧ KpX Ex n0 W1 W' ∧ KeepsFrom U W1 W') ∨ (e = .returned (.bool false) ∧ Jx (pre ++ [x]) W' ∧ KeepsFrom U W1 W'))
    (hE : ExK Ex n0) (hax : a.1 = b.1 ∨ a.2 = b.2) (ha : (-1000 ≤ a.1 ∧ a.1 ≤ 1000) ∧ (-1000 ≤ a.2 ∧ a.2 ≤ 1000)) (hb : (-1000 ≤ b.1 ∧ b.1 ≤ 1000) ∧ (-1000 ≤ b.2 ∧ b.2 ≤ 1000)) (htot : done ++ seg a b <+: tot)
    (w : World) (t0 t1 t2 t4 t5 t6 t7 t8 t9 t10 t11 t12 t13 t14 t15 t16 t17 t18 t19 t20 t21 t22 t23 t24 t25 t27 t28 t29 t30 t31 : Value) (hw : CW l gY gJ U csJ ds J done w) (hga : Box w ga 22 #[.int .i64 a.1,.int .i64 a.2]) (hgb : Box w (ga + 1) 22 #[.int .i64 b.1,.int .i64 b.2]) (h1 : U ≤ ga) (hgy : gY < ga) (hgj : gJ < ga) (hnx : Nx Ex [gY,gJ,ga,ga + 1] w)
    (hQ1 : ∀ (D : Nat) (W : World),CW l gY gJ U csJ (D :: ds) J (done ++ seg a b) W → Nx Ex [gY,gJ] W → Q .normal ⟨#[t0,t1,t2,Value.pointer (some ⟨gY,0,none⟩),t4,t5,t6,t7,t8,t9,t10,t11,t12,t13,t14,t15,t16,t17,t18,t19,t20,t21,t22,t23,t24,t25,Value.func (.func 187) #[] #[.pointer (some ⟨ga,0,none⟩),.pointer (some ⟨ga + 1,0,none⟩)],t27,t28,t29,t30,t31],(D :: ds).map mk⟩ W)
    (hQ2 : ∀ (D : Nat) (W : World) (pre : List Ce),pre <+: tot → Jx pre W → MarksOk U W (D :: ds) → Q .ret ⟨#[t0,t1,t2,Value.pointer (some ⟨gY,0,none⟩),t4,t5,t6,t7,t8,t9,t10,t11,t12,t13,t14,t15,t16,t17,t18,t19,t20,t21,t22,t23,t24,t25,Value.func (.func 187) #[] #[.pointer (some ⟨ga,0,none⟩),.pointer (some ⟨ga + 1,0,none⟩)],t27,t28,t29,t30,t31],(D :: ds).map mk⟩ W) :
    cRange.wpIn Fence.wide n Tryz.prog Q ⟨#[t0,t1,t2,Value.pointer (some ⟨gY,0,none⟩),t4,t5,t6,t7,t8,t9,t10,t11,t12,t13,t14,t15,t16,t17,t18,t19,t20,t21,t22,t23,t24,t25,Value.func (.func 187) #[] #[.pointer (some ⟨ga,0,none⟩),.pointer (some ⟨ga + 1,0,none⟩)],t27,t28,t29,t30,t31],ds.map mk⟩ w:=by
  have hseq:=between1_seq (n - 1) ga (ga + 1) a b (by omega) hax ha.1 ha.2 hb.1 hb.2 w hga hgb
  have hga':=hga.lt
  have hgb':=hgb.lt
  unfold cRange
  conv => arg 5;whnf
  refine wpIn_rangeFunc_G (gf:=187) (lb:=#[.pointer (some ⟨ga,0,none⟩),.pointer (some ⟨ga + 1,0,none⟩)]) rfl hn rfl trivial (enters_of Tryz.func187 (by kernel_rfl) rfl) hseq ?Sk ?Kt ?Kb (Below.refl _ _) (fun _ => rfl)
    (fun pre W => CW l gY gJ U csJ ds J (done ++ pre) W ∧ w.heap.size ≤ W.heap.size ∧ Nx Ex [gY,gJ,ga,ga + 1] W ∧ (∃ cs,Box W ga 22 cs) ∧ (∃ cs,Box W (ga + 1) 22 cs)) (fun c pre W => c = .ret ∧ Jx (done ++ pre) W ∧ MarksOk U W ds ∧ done ++ pre <+: tot ∧ w.heap.size ≤ W.heap.size) ?I ?Ix ?IS ⟨by simpa using hw,Nat.le_refl _,hnx,⟨_,hga⟩,⟨_,hgb⟩⟩
    (fun pre x a' W => pre ++ [x] <+: seg a b ∧ ∃ Bx,w.heap.size ≤ Bx ∧ Box W Bx 22 #[.int .i64 x.1,.int .i64 x.2] ∧ a' = ⟨#[t0,t1,t2,Value.pointer (some ⟨gY,0,none⟩),t4,t5,Value.pointer (some ⟨Bx,0,none⟩),t7,t8,t9,t10,t11,t12,t13,t14,t15,t16,t17,t18,t19,t20,t21,t22,t23,t24,t25,Value.func (.func 187) #[] #[.pointer (some ⟨ga,0,none⟩),.pointer (some ⟨ga + 1,0,none⟩)],Value.agg #[.int .i64 x.1,.int .i64 x.2],t28,t29,t30,t31],[]⟩) ?Ax ?assign ?body ?done ?stop
  case Sk =>
    rintro A B k o ⟨⟨⟨cs,hb0⟩,hg⟩,_⟩ hk ho hc
    exact (hg.block k (Array.getElem?_eq_some_iff.1 ho).1 (fun e => by cases e;omega)).trans ho
  case Kt => exact fun h1 h2 => ⟨fun cs h => h2.1 cs (h1.1 cs h),fun cs h => h2.2 cs (h1.2 cs h)⟩
  case Kb =>
    intro W k o o' hk ho hc hw'
    exact ⟨fun cs h => Box.put h (by omega) o',fun cs h => Box.put h (by omega) o'⟩
  case I => exact fun pre A B row ⟨hs,hz,hx,⟨c1,b1⟩,c2,b2⟩ hg hr => ⟨hs.keep hJ hg (show U ≤ w.heap.size by omega) hr hw.m.lt,Nat.le_trans hz hg.size,hx.keep hE (by omega) hg (fun r e => by have:=(hr r e).1;omega),⟨c1,box_keep b1 hg (row_ne b1 (fun r e => (hr r e).2))⟩,c2,box_keep b2 hg (row_ne b2 (fun r e => (hr r e).2))⟩
  case Ix =>
    rintro c pre A B row ⟨hc,hx,hm,hp,hz⟩ hg hr
    exact ⟨hc,hJx _ A B row hx hg (fun r e => ⟨by have:=(hr r e).1;omega,(hr r e).2⟩),hm.grown hg (fun D hD e => by have:=(hr D e).1;have:=hw.m.lt D hD;omega),hp,Nat.le_trans hz hg.size⟩
  case IS =>
    rintro pre A B ⟨⟨⟨cs,hb0⟩,hg⟩,⟨cs2,hb2⟩⟩ ⟨hs,hz,hx,_,c2,b2⟩
    exact ⟨⟨hJS _ A B ⟨ga,by omega,hx.1 ga (by simp),⟨_,cs,hb0⟩,hg⟩ hs.j,box_keep hs.y hg (by intro e;cases e;omega),box_keep hs.js hg (by intro e;cases e;omega),hs.m.grown hg (mark_ne hb0 hs.m)⟩,Nat.le_trans hz hg.size,hx.keep hE (by omega) hg (fun r e => by cases e;omega),⟨cs2,hb2⟩,c2,box_keep b2 hg (by intro e;have:=Option.some.inj e;omega)⟩
  case Ax =>
    rintro pre x a' _ A B row ⟨hp,Bx,h2,h3,h4⟩ hg hr
    exact ⟨hp,Bx,h2,box_keep h3 hg (row_ne h3 (fun r e => (hr r e).2)),h4⟩
  case assign =>
    rintro l1 pre x W K ⟨hs,hz,hx,⟨c1,b1⟩,c2,b2⟩ hp hK
    gi_wp2
    refine hK _ _ ((KeepsOthers.alloc _ _).from _) ⟨fun cs h => Box.alloc h _,fun cs h => Box.alloc h _⟩ ⟨hs.keep hJ (World.grownBy_alloc W _ none) (show U ≤ w.heap.size by omega) (fun r e => by cases e) hw.m.lt,by simp;omega,hx.keep hE (by omega) (World.grownBy_alloc W _ none) (fun r e => by cases e),⟨c1,b1.alloc _⟩,c2,b2.alloc _⟩ ⟨hp,W.heap.size,hz,Box.new _ _ _,rfl⟩
  case body =>
    rintro l1 pre x a' W hlw ⟨hs,hz,hx,⟨c1,b1⟩,c2,b2⟩ ⟨hp,Bx,h2,h3,rfl⟩
    have yv:=hs.y.cell 0
    have x0:=h3.cell 0;have x1:=h3.cell 1
    simp at yv x0 x1
    have hP : (done ++ pre) ++ [x] <+: tot:=by
      obtain ⟨r,hr⟩:=hp
      obtain ⟨q,hq⟩:=htot
      exact ⟨r ++ q,by rw [← hq,← hr];simp⟩
    obtain ⟨fn,tmps,as1,bd1,hy',hR⟩:=hY (done ++ pre) x W hs.j hP
    have hzz:=hs.m
    (try dsimp only at hy')
    gi_wp2
    refine ⟨fun hh => by simp [Fence.wide] at hh,(RoundIn.within hR l1 _).mono ?_⟩
    rintro e W' (⟨rfl,hJ',hk,hkf⟩ | ⟨rfl,hJx',hkf⟩)
    · gi_wp2
      have yy:=hs.y;have yj:=hs.js
      exact ⟨keepsFrom_le hkf (by omega),⟨fun cs h => hk.box hx (by simp) (by omega) h,fun cs h => hk.box hx (by simp) (by omega) h⟩,⟨by simpa using hJ',hk.box hx (by simp) (by omega) hs.y,hk.box hx (by simp) (by omega) hs.js,hs.m.keeps hkf⟩,Nat.le_trans hz hkf.size,hk.nx hx (fun g hm => by simp only [List.mem_cons,List.not_mem_nil,or_false] at hm;rcases hm with rfl | rfl | rfl | rfl <;> exact ⟨by omega,_,_,by assumption⟩),⟨c1,hk.box hx (by simp) (by omega) b1⟩,c2,hk.box hx (by simp) (by omega) b2⟩
    · gi_wp2
      exact ⟨keepsFrom_le hkf (by omega),rfl,by simpa using hJx',hs.m.keeps hkf,by simpa using hP,Nat.le_trans hz hkf.size⟩
  case done =>
    rintro D xs W hD rfl ⟨hs,hz,hx,_⟩ hDh
    exact hQ1 D W ⟨hs.j,hs.y,hs.js,hs.m.cons (by omega) (fun h => by have:=hw.m.lt D h;omega) hDh⟩ (hx.less (by simp +contextual))
  case stop =>
    rintro D c pre W hD _ ⟨rfl,hx,hm,hp,hz⟩ hDh
    gi_wp2
    exact hQ2 D W _ hp hx (hm.cons (by omega) (fun h => by have:=hw.m.lt D h;omega) hDh)
set_option maxHeartbeats 4000000 in
set_option maxRecDepth 100000 in
/-- The rounds over the links. -/
theorem crounds_c (Ex : World → Nat → Prop) (n l gA gY gJ n0 U cJ : Nat) (csJ : Array Value) (js tot : List Ce) (J Jx : List Ce → World → Prop) (Q : Exit → Act → World → Prop) (hn : 1 ≤ n)
    (hJ : OwnFrom U J) (hJx : OwnFrom U Jx) (hJS : ∀ pre A B,StX Ex n0 A B → J pre A → J pre B) (h0U : n0 ≤ U) (hYU : U ≤ gY) (hJU : U ≤ gJ)
    (hY : ∀ pre x W1,J pre W1 → pre ++ [x] <+: tot → YieldAt Fence.wide (n - 1) Tryz.prog l #[.agg #[.int .i64 x.1,.int .i64 x.2]] W1 fun e W' =>
      (e = .returned (.bool true) ∧ J (pre ++ [x]) W' ∧ KpX Ex n0 W1 W' ∧ KeepsFrom U W1 W') ∨ (e = .returned (.bool false) ∧ Jx (pre ++ [x]) W' ∧ KeepsFrom U W1 W'))
    (hE : ExK Ex n0) (hax : Axes js) (hsm : Small js) (hlen : js.length ≤ 100) (hSl : ∀ W,Box W gJ 22 csJ → SlV W (some ⟨gJ,0,none⟩) (js.flatMap ceV))
    (hQ1 : ∀ (i : Nat) (ds : List Nat) (W : World) (t6 t7 t8 t9 t10 t11 t12 t13 t14 t15 t16 t17 t18 t19 t20 t21 t22 t23 t24 t25 t26 t27 t28 t29 t30 t31 : Value),CW l gY gJ U csJ ds J tot W → Q (.exit 0) ⟨#[Value.func (.yield l) #[] #[],Value.pointer (some ⟨gA,0,none⟩),Value.pointer (some ⟨gA + 1,0,none⟩),Value.pointer (some ⟨gY,0,none⟩),Value.slice (some ⟨gJ,0,none⟩) js.length cJ,Value.int .i64 (i : Nat),t6,t7,t8,t9,t10,t11,t12,t13,t14,t15,t16,t17,t18,t19,t20,t21,t22,t23,t24,t25,t26,t27,t28,t29,t30,t31],ds.map mk⟩ W)
    (hQ2 : ∀ (ds : List Nat) (W : World) (pre : List Ce) (t5 t6 t7 t8 t9 t10 t11 t12 t13 t14 t15 t16 t17 t18 t19 t20 t21 t22 t23 t24 t25 t26 t27 t28 t29 t30 t31 : Value),pre <+: tot → Jx pre W → MarksOk U W ds → Q .ret ⟨#[Value.func (.yield l) #[] #[],Value.pointer (some ⟨gA,0,none⟩),Value.pointer (some ⟨gA + 1,0,none⟩),Value.pointer (some ⟨gY,0,none⟩),Value.slice (some ⟨gJ,0,none⟩) js.length cJ,t5,t6,t7,t8,t9,t10,t11,t12,t13,t14,t15,t16,t17,t18,t19,t20,t21,t22,t23,t24,t25,t26,t27,t28,t29,t30,t31],ds.map mk⟩ W) :
    ∀ (m i : Nat) (done : List Ce) (ds : List Nat) (W : World) (t6 t7 t8 t9 t10 t11 t12 t13 t14 t15 t16 t17 t18 t19 t20 t21 t22 t23 t24 t25 t26 t27 t28 t29 t30 t31 : Value),CW l gY gJ U csJ ds J done W → Nx Ex [gY,gJ] W → done ++ segs (js.drop i) = tot → i ≤ js.length → js.length < i + m →
      Code.roundsIn Fence.wide n Tryz.prog cLoop Q m ⟨#[Value.func (.yield l) #[] #[],Value.pointer (some ⟨gA,0,none⟩),Value.pointer (some ⟨gA + 1,0,none⟩),Value.pointer (some ⟨gY,0,none⟩),Value.slice (some ⟨gJ,0,none⟩) js.length cJ,Value.int .i64 (i : Nat),t6,t7,t8,t9,t10,t11,t12,t13,t14,t15,t16,t17,t18,t19,t20,t21,t22,t23,t24,t25,t26,t27,t28,t29,t30,t31],ds.map mk⟩ W:=by
  intro m
  induction m with
  | zero =>
    intro i done ds W t6 t7 t8 t9 t10 t11 t12 t13 t14 t15 t16 t17 t18 t19 t20 t21 t22 t23 t24 t25 t26 t27 t28 t29 t30 t31 hI hx0 ht hi hm
    omega
  | succ m ih =>
    intro i done ds W t6 t7 t8 t9 t10 t11 t12 t13 t14 t15 t16 t17 t18 t19 t20 t21 t22 t23 t24 t25 t26 t27 t28 t29 t30 t31 hI hx0 ht hi hm
    rw [roundsIn_succ]
    unfold cLoop
    conv => arg 4;whnf
    have hly:=hI.y.lt
    have hlj:=hI.js.lt
    by_cases hlt : i + 1 < js.length
    · have ea:=List.getElem?_eq_getElem (show i < js.length by omega)
      have eb:=List.getElem?_eq_getElem hlt
      obtain ⟨_,_,e1,_,a0,a1⟩:=ce_cells (hSl W hI.js) ea
      cases e1
      obtain ⟨_,_,e1,_,b0,b1⟩:=ce_cells (hSl W hI.js) eb
      cases e1
      have hx:=hax i _ _ ea eb
      have ha:=hsm _ (List.getElem_mem (show i < js.length by omega))
      have hb:=hsm _ (List.getElem_mem hlt)
      have hs:=segs_drop ea eb
      rw [hs] at ht
      generalize js[i] = a at *
      generalize js[i + 1] = b at *
      clear hs ea eb
      rw [Nat.zero_add] at a0 a1 b0 b1
      have l1 : (i : Int) + 1 < (js.length : Int):=by omega
      have l2 : i < js.length:=by omega
      gi_wp2
      have v1 : IntKind.i64.wrap ((i : Int) + 1) = i + 1:=IntWalk.i64_in _ (by omega)
      have v2 : ((i : Int) + 1).toNat = i + 1:=by omega
      have v3 : 0 ≤ (i : Int) + 1:=by omega
      refine wpIn_wide.2 ?_
      (refine still_tail 9 mixed kR ?_;simp only [List.take_succ_cons,List.take_zero,List.drop_succ_cons,List.drop_zero];(repeat still_step);refine wpStill_nil ?_;change wpList _ _ _ _ _ _)
      go_wp2_with (first | (go_at_call 166;refine (callsIn_wide.1 (between_in Fence.wide 0 trivial rfl _ _ _ _ _)).mono ?_;rintro e w' ⟨rfl,rfl⟩) | fail)
      have hU : U ≤ W.heap.size:=by omega
      have hg0 : W.grownBy ((W.alloc (.cells #[.int .i64 a.1,.int .i64 a.2] 22)).alloc (.cells #[.int .i64 b.1,.int .i64 b.2] 22)).drew none :=
        ⟨rfl,rfl,rfl,by simp;omega,fun k hk _ => (Below.heap_alloc _ _ k (by simp;omega)).trans (Below.heap_alloc W _ k hk)⟩
      have hx1 : Nx Ex [gY,gJ,W.heap.size,W.heap.size + 1] ((W.alloc (.cells #[.int .i64 a.1,.int .i64 a.2] 22)).alloc (.cells #[.int .i64 b.1,.int .i64 b.2] 22)).drew :=
        hx0.more (V:=0) (gs':=[W.heap.size,W.heap.size + 1]) hE (by omega) hg0 (fun r e => by cases e) (by simp)
      have hC : CW l gY gJ U csJ ds J done ((W.alloc (.cells #[.int .i64 a.1,.int .i64 a.2] 22)).alloc (.cells #[.int .i64 b.1,.int .i64 b.2] 22)).drew:=by
        exact hI.keep (row:=none) hJ hg0 hU (fun r e => by cases e) hI.m.lt
      gi_wp2_with (refine cline_c Ex n l gY gJ W.heap.size n0 U csJ tot done J Jx a b ds _ hn hJ hJx hJS h0U hYU hJU hY hE hx ha hb ?t _ _ _ _ _ _ _ _ _ _ _ _ _ _ _ _ _ _ _ _ _ _ _ _ _ _ _ _ _ _ _ hC ?ga ?gb hU hly hlj hx1 ?q1 ?q2)
      case t => exact ⟨segs (js.drop (i + 1)),by rw [← ht];simp⟩
      case ga => exact bX0
      case gb => exact bX0
      case q1 =>
        intro D W' hC' hx'
        gi_wp2
        exact ih (i + 1) (done ++ seg a b) (D :: ds) W' _ _ _ _ _ _ _ _ _ _ _ _ _ _ _ _ _ _ _ _ _ _ _ _ _ _ hC' hx' (by rw [← ht];simp) (by omega) (by omega)
      case q2 =>
        intro D W' pre hp hx' hm'
        exact hQ2 (D :: ds) W' pre _ _ _ _ _ _ _ _ _ _ _ _ _ _ _ _ _ _ _ _ _ _ _ _ _ _ _ hp hx' hm'
    · rw [segs_end (by omega)] at ht
      have l1 : ¬ (i : Int) + 1 < (js.length : Int):=by omega
      have e : done = tot:=by simpa using ht
      subst e
      gi_wp2
      exact hQ1 i ds W _ _ _ _ _ _ _ _ _ _ _ _ _ _ _ _ _ _ _ _ _ _ _ _ _ _ hI
end Go.Proofs.YtpnfgmgoafgcbaaGreat
/-
  The cells of an arm (chapter 6): the iterator's contract.
-/
set_option linter.unusedVariables false
namespace Go.Proofs.YtpnfgmgoafgcbaaGreat
open Go.RowKit Go.Shelf
attribute [local go_sem] Oper.semAt_some
attribute [local go_sem ↓] eql_ce' neq_ce'
theorem dir_axis (t : Int) : dirX t = 0 ∨ dirY t = 0:=by
  unfold dirX dirY
  split <;> (split <;> simp) <;> omega
theorem jtsF_axes : ∀ (L : List Lk) (Q : List Int) (x y t : Int),Axes ((x,y) :: jtsF x y t L Q)
  | [],Q,x,y,t => by
    intro i a b ha hb
    cases Q <;> simp [jtsF] at hb
  | l :: L,[],x,y,t => by
    intro i a b ha hb
    simp [jtsF] at hb
  | l :: L,q :: Q,x,y,t => by
    intro i a b ha hb
    unfold jtsF at ha hb
    cases i with
    | zero =>
      simp at ha hb
      subst ha hb
      rcases dir_axis (t + q) with h | h <;> simp [h]
    | succ i =>
      exact jtsF_axes L Q _ _ (t + q) i a b (by simpa using ha) (by simpa using hb)
theorem dirm (n t : Int) (h : 1 ≤ n ∧ n ≤ 4) : (-4 ≤ n * dirX t ∧ n * dirX t ≤ 4) ∧ (-4 ≤ n * dirY t ∧ n * dirY t ≤ 4):=by
  have hb:=dir_bd t
  generalize dirX t = dx at *
  generalize dirY t = dy at *
  have h1 : dx = -1 ∨ dx = 0 ∨ dx = 1:=by omega
  have h2 : dy = -1 ∨ dy = 0 ∨ dy = 1:=by omega
  rcases h1 with rfl | rfl | rfl <;> rcases h2 with rfl | rfl | rfl <;> omega
theorem jtsF_small : ∀ (L : List Lk) (Q : List Int) (x y t : Int),(∀ l ∈ L,1 ≤ l.1 ∧ l.1 ≤ 4) → ∀ c ∈ (x,y) :: jtsF x y t L Q,(x - 4 * L.length ≤ c.1 ∧ c.1 ≤ x + 4 * L.length) ∧ (y - 4 * L.length ≤ c.2 ∧ c.2 ≤ y + 4 * L.length)
  | [],Q,x,y,t,_,c,hc => by
    have : c = (x,y):=by cases Q <;> simpa [jtsF] using hc
    subst this;simp
  | l :: L,[],x,y,t,_,c,hc => by
    have : c = (x,y):=by simpa [jtsF] using hc
    subst this;simp;omega
  | l :: L,q :: Q,x,y,t,hl,c,hc => by
    rcases List.mem_cons.1 hc with rfl | hc
    · simp;omega
    · have d:=dirm l.1 (t + q) (hl l (by simp))
      have ih:=jtsF_small L Q (x + l.1 * dirX (t + q)) (y + l.1 * dirY (t + q)) (t + q) (fun l h => hl l (by simp [h])) c hc
      simp only [List.length_cons]
      omega
theorem jts_axes (s : Sc) (p : Ps) : Axes (jts s p):=jtsF_axes _ _ _ _ _
theorem jts_small {s : Sc} {p : Ps} (hL : s.L.length ≤ 3) (hl : ∀ l ∈ s.L,1 ≤ l.1 ∧ l.1 ≤ 4) (h1 : -100 ≤ s.bx ∧ s.bx ≤ 100) (h2 : -100 ≤ s.bY ∧ s.bY ≤ 100) (h3 : -100 ≤ p.1 ∧ p.1 ≤ 100) : Small (jts s p):=by
  intro c hc
  have:=jtsF_small s.L p.2 (s.bx + p.1) s.bY 0 hl c hc
  omega
theorem grown_below {W W' : World} (h : Below W.heap.size W W') : W.grownBy W' none:=⟨h.os,h.tape,h.output,h.size,fun k hk _ => h.block k hk⟩
set_option maxHeartbeats 4000000 in
set_option maxRecDepth 100000 in
/-- All cells from a joint on, one after the other. -/
theorem cells1_seqX (Ex : World → Nat → Prop) (n gA fr : Nat) (bx bY sl fx fX fy fY ps : Int) (L : List Lk) (B : List Bx) (Q : List Int) (AL AB AQ : Option Addr) (cL cB cQ : Nat) (w : World) (hn : 1 ≤ n) (hQ : Q.length = L.length) (hL : L.length ≤ 3) (hfr : fr ≤ L.length)
    (hb1 : -100 ≤ bx ∧ bx ≤ 100) (hb2 : -100 ≤ bY ∧ bY ≤ 100) (hb3 : -100 ≤ ps ∧ ps ≤ 100) (hl : ∀ l ∈ L,1 ≤ l.1 ∧ l.1 ≤ 4) (hq : ∀ q ∈ Q,-2 ≤ q ∧ q ≤ 2) (hs1 : SlV w AL (L.flatMap lkV)) (hs3 : SlI w AQ Q)
    (hA : Box w gA 135 #[.int .i64 bx,.int .i64 bY,.int .i64 sl,.slice AL L.length cL,.int .i64 fx,.int .i64 fX,.int .i64 fy,.int .i64 fY,.slice AB B.length cB,.int .i64 ps,.slice AQ Q.length cQ]) (hF : Box w (gA + 1) 3 #[.int .i64 (fr : Int)]) (hE : ExK Ex w.heap.size) (hfr0 : ∀ k,w.heap.size ≤ k → ¬ Ex w k) :
    SeqG Fence.wide n Tryz.prog 165 #[.pointer (some ⟨gA,0,none⟩),.pointer (some ⟨gA + 1,0,none⟩)] (fun c : Ce => #[.agg #[.int .i64 c.1,.int .i64 c.2]]) (KpX Ex w.heap.size) (fun pre x _ => pre ++ [x] <+: clP (⟨bx,bY,sl,L,(fx,fX,fy,fY),B⟩ : Sc) (ps,Q) fr) (StX Ex w.heap.size) (fun xs => xs = clP (⟨bx,bY,sl,L,(fx,fX,fy,fY),B⟩ : Sc) (ps,Q) fr) (fun pre => pre <+: clP (⟨bx,bY,sl,L,(fx,fX,fy,fY),B⟩ : Sc) (ps,Q) fr) w:=by
  intro l J Jx W hW hJ hJx hJS hY h0
  have HJ:=Lib.hid (fun W1 (h : Below W.heap.size W W1) => joints_c bx bY sl fx fX fy fY ps L B Q AL AB AQ cL cB cQ W1 hQ hL (by omega) (by omega) (by omega) hl hq ((hs1.below hW).below h) ((hs3.below hW).below h))
  have HT:=Lib.hid (show clP (⟨bx,bY,sl,L,(fx,fX,fy,fY),B⟩ : Sc) (ps,Q) fr = segs ((jts (⟨bx,bY,sl,L,(fx,fX,fy,fY),B⟩ : Sc) (ps,Q)).drop fr) from rfl)
  have HAx:=Lib.hid (jts_axes (⟨bx,bY,sl,L,(fx,fX,fy,fY),B⟩ : Sc) (ps,Q))
  have HSm:=Lib.hid (jts_small (s:=(⟨bx,bY,sl,L,(fx,fX,fy,fY),B⟩ : Sc)) (p:=(ps,Q)) hL hl hb1 hb2 hb3)
  have HLn:=Lib.hid (show (jts (⟨bx,bY,sl,L,(fx,fX,fy,fY),B⟩ : Sc) (ps,Q)).length = L.length + 1 from jts_len (s:=(⟨bx,bY,sl,L,(fx,fX,fy,fY),B⟩ : Sc)) (p:=(ps,Q)) hQ)
  generalize clP (⟨bx,bY,sl,L,(fx,fX,fy,fY),B⟩ : Sc) (ps,Q) fr = tot at *
  generalize jts (⟨bx,bY,sl,L,(fx,fX,fy,fY),B⟩ : Sc) (ps,Q) = js at *
  have WA:=hA.below hW hA.lt
  have WF:=hF.below hW hF.lt
  have lA:=WA.lt
  have lF:=WF.lt
  have lw:=hW.size
  have c0:=WA.cell 0;have c1:=WA.cell 1;have c2:=WA.cell 2;have c3:=WA.cell 3;have c4:=WA.cell 4;have c5:=WA.cell 5;have c6:=WA.cell 6;have c7:=WA.cell 7;have c8:=WA.cell 8;have c9:=WA.cell 9;have c10:=WA.cell 10
  simp at c0 c1 c2 c3 c4 c5 c6 c7 c8 c9 c10
  have hHY:=Lib.hid (fun pre x W1 => hY pre x W1)
  clear hY hQ
  refine callsIn_of_wp_marks (n:=n) Tryz.func165 rfl trivial ?_ rfl
  simp only [Tryz.ntmps165,List.size_toArray,List.length_cons,List.length_nil,Nat.reduceAdd,Nat.reduceSub,Array.replicate_succ,Array.replicate_zero,List.push_toArray,List.append_toArray,List.nil_append,List.cons_append]
  gi_wp2_with (refine ⟨trivial, ?_⟩;gi_at_call 110;refine (callsIn_wide.2 (HJ.out _ (by exact bB0))).mono ?_;rintro e w2 hC;obtain ⟨gJ,cJ,rfl,q1,q2,q3,⟨csJ,q4⟩,q5⟩:=hC;have hz2 : W.heap.size < w2.heap.size:=(by have:=q5.size;(try simp at this);omega);have f0 : Box w2 (gA + 1) 3 #[.int .i64 (fr : Int)]:=(by exact bX1 q5);have f1:=f0.cell 0;(simp at f1))
  have hJ2 : J [] w2:=hJ _ _ _ none (hJ.alloc _ h0) (grown_below q5) (fun r e => by cases e)
  have hLn:=HLn.out
  have hx2 : Nx Ex [W.heap.size,gJ] w2:=by
    have hW0 : Nx Ex [] W:=(Nx.keep (gs:=[]) ⟨by simp,hfr0⟩ hE (Nat.le_refl _) (grown_below hW) (fun r e => by cases e))
    have hg1 : W.grownBy (W.alloc (.cells #[.func (.yield l) #[] #[]] 224)) none:=World.grownBy_alloc W _ none
    have hW1:=hW0.more (V:=0) (gs':=[W.heap.size,gJ]) hE lw hg1 (fun r e => by cases e) (by simp;(try simp at q1);omega)
    exact hW1.keep hE (by simp;omega) (grown_below q5) (fun r e => by cases e)
  have yB : Box w2 W.heap.size 224 #[.func (.yield l) #[] #[]]:=by exact bX1 q5
  simp at q1
  refine wpIn_loop_rounds (js.length + 1) ?_
  refine crounds_c Ex n l gA W.heap.size gJ w.heap.size W.heap.size cJ csJ js tot J Jx _ hn hJ hJx hJS lw (Nat.le_refl _) (by omega) hHY.out hE HAx.out HSm.out (by omega) (fun W' h => q3.same q4 h) ?q1 ?q2 (js.length + 1) fr [] [] w2 _ _ _ _ _ _ _ _ _ _ _ _ _ _ _ _ _ _ _ _ _ _ _ _ _ _ ⟨hJ2,yB,q4,MarksOk.nil _ _⟩ hx2 (by rw [HT.out];rfl) (by omega) (by omega)
  case q1 =>
    intro i ds W' t6 t7 t8 t9 t10 t11 t12 t13 t14 t15 t16 t17 t18 t19 t20 t21 t22 t23 t24 t25 t26 t27 t28 t29 t30 t31 hC
    refine leaves_marks (G:=J tot) (fun W1 D hD hd h => hJ.putObj _ h hD hd rfl) ds W' hC.m hC.j (fun W1 h => ?_)
    exact ⟨_,results_none rfl _ _ _,⟨_,rfl⟩,.inl ⟨tot,rfl,h⟩⟩
  case q2 =>
    intro ds W' pre t5 t6 t7 t8 t9 t10 t11 t12 t13 t14 t15 t16 t17 t18 t19 t20 t21 t22 t23 t24 t25 t26 t27 t28 t29 t30 t31 hp hx hm
    refine leaves_marks (G:=Jx pre) (fun W1 D hD hd h => hJx.putObj _ h hD hd rfl) ds W' hm hx (fun W1 h => ?_)
    exact ⟨_,results_none rfl _ _ _,⟨_,rfl⟩,.inr ⟨pre,hp,h⟩⟩
set_option maxRecDepth 100000 in
/-- All cells from a joint on, one after the other. -/
theorem cells1_seq (n gA fr : Nat) (bx bY sl fx fX fy fY ps : Int) (L : List Lk) (B : List Bx) (Q : List Int) (AL AB AQ : Option Addr) (cL cB cQ : Nat) (w : World) (hn : 1 ≤ n) (hQ : Q.length = L.length) (hL : L.length ≤ 3) (hfr : fr ≤ L.length)
    (hb1 : -100 ≤ bx ∧ bx ≤ 100) (hb2 : -100 ≤ bY ∧ bY ≤ 100) (hb3 : -100 ≤ ps ∧ ps ≤ 100) (hl : ∀ l ∈ L,1 ≤ l.1 ∧ l.1 ≤ 4) (hq : ∀ q ∈ Q,-2 ≤ q ∧ q ≤ 2) (hs1 : SlV w AL (L.flatMap lkV)) (hs3 : SlI w AQ Q)
    (hA : Box w gA 135 #[.int .i64 bx,.int .i64 bY,.int .i64 sl,.slice AL L.length cL,.int .i64 fx,.int .i64 fX,.int .i64 fy,.int .i64 fY,.slice AB B.length cB,.int .i64 ps,.slice AQ Q.length cQ]) (hF : Box w (gA + 1) 3 #[.int .i64 (fr : Int)]) :
    SeqG Fence.wide n Tryz.prog 165 #[.pointer (some ⟨gA,0,none⟩),.pointer (some ⟨gA + 1,0,none⟩)] (fun c : Ce => #[.agg #[.int .i64 c.1,.int .i64 c.2]]) (KpC w.heap.size) (fun pre x _ => pre ++ [x] <+: clP (⟨bx,bY,sl,L,(fx,fX,fy,fY),B⟩ : Sc) (ps,Q) fr) (StC w.heap.size) (fun xs => xs = clP (⟨bx,bY,sl,L,(fx,fX,fy,fY),B⟩ : Sc) (ps,Q) fr) (fun pre => pre <+: clP (⟨bx,bY,sl,L,(fx,fX,fy,fY),B⟩ : Sc) (ps,Q) fr) w:=by
  intro l J Jx W hW hJ hJx hJS hY h0
  exact cells1_seqX (fun _ _ => False) n gA fr bx bY sl fx fX fy fY ps L B Q AL AB AQ cL cB cQ w hn hQ hL hfr hb1 hb2 hb3 hl hq hs1 hs3 hA hF (fun _ _ _ _ _ _ _ => id) (fun _ _ => id) l J Jx W hW hJ hJx (fun pre A B ⟨g,h1,_,h2,h3⟩ => hJS pre A B ⟨g,h1,h2,h3⟩) (fun pre x W1 hj hg => by
    obtain ⟨fn,tmps,as1,bd1,hy,hR⟩:=hY pre x W1 hj hg
    exact ⟨fn,tmps,as1,bd1,hy,hR.mono (by
      rintro e W' (⟨h1,h2,h3,h4⟩ | h)
      · exact .inl ⟨h1,h2,h3.x,h4⟩
      · exact .inr h)⟩) h0
end Go.Proofs.YtpnfgmgoafgcbaaGreat
/-
  The walk of isTaken (chapter 6): a box leaves the field, or meets one.
-/
set_option linter.unusedVariables false
namespace Go.Proofs.YtpnfgmgoafgcbaaGreat
open Go.RowKit Go.Shelf
def findP {α : Type} (p : α → Bool) : Nat → List α → Int
  | _,[] => -1
  | i,x :: l => if p x then (i : Int) else findP p (i + 1) l
theorem findP_any {α : Type} (p : α → Bool) : ∀ (l : List α) (i : Nat),decide (0 ≤ findP p i l) = l.any p
  | [],i => by simp [findP]
  | x :: l,i => by
    unfold findP
    by_cases h : p x = true
    · rw [if_pos h];simp [h]
    · rw [if_neg h,findP_any p l];simp [h]
set_option maxHeartbeats 400000 in
theorem taken1_c (gB : Nat) (x X y Y a b c d : Int) (w : World) (hB : Box w gB 27 #[.int .i64 x,.int .i64 X,.int .i64 y,.int .i64 Y]) :
    Calls Tryz.prog 171 #[.agg #[.int .i64 a,.int .i64 b,.int .i64 c,.int .i64 d],.pointer (some ⟨gB,0,none⟩)] w fun e w' => e = .returned (.bool (meetB (a,b,c,d) (x,X,y,Y))) ∧ Below w.heap.size w w':=by
  have c0:=hB.cell 0;have c1:=hB.cell 1;have c2:=hB.cell 2;have c3:=hB.cell 3
  have hlt:=hB.lt
  simp at c0 c1 c2 c3
  go_enter Tryz.func171,Tryz.ntmps171
  go_wp2_with (first | (go_at_call 172;(with_reducible refine (meets_c _ _ _ _ _ _ _ _ _).mono ?_);rintro e w' ⟨rfl,rfl⟩) | fail)
  go_ret
  exact ⟨rfl,by exact bB0⟩
set_option maxHeartbeats 1000000 in
theorem indexBox_c (gB : Nat) (x X y Y : Int) (xs : List Bx) (A : Option Addr) (c : Nat) (w : World) (hB : Box w gB 27 #[.int .i64 x,.int .i64 X,.int .i64 y,.int .i64 Y]) (hn : xs.length ≤ 9223372036854775807) (hs : SlV w A (xs.flatMap bxV)) :
    Calls Tryz.prog 188 #[.slice A xs.length c,.func (.func 171) #[] #[.pointer (some ⟨gB,0,none⟩)]] w fun e w' => e = .returned (.int .i64 (findP (fun b => meetB b (x,X,y,Y)) 0 xs)) ∧ Below w.heap.size w w':=by
  have HS:=Lib.hid hs
  have hlB:=hB.lt
  clear hs
  go_enter Tryz.func188,Tryz.ntmps188
  go_wp2
  go_loopw [8] (fun i wr => ∃ k : Nat,k ≤ xs.length ∧ i = .int .i64 k ∧ Hid (findP (fun b => meetB b (x,X,y,Y)) 0 xs = findP (fun b => meetB b (x,X,y,Y)) k (xs.drop k)) ∧ Below w.heap.size w wr) (fun i _ => xs.length - (intOf i).toNat)
  case atStart => exact ⟨0,Nat.zero_le _,rfl,rfl,Below.refl _ _⟩
  case round =>
    obtain ⟨k,hk,rfl,hf,hb⟩:=hrel
    by_cases hlt : k < xs.length
    · obtain ⟨b,off,rfl,hbl,a0,a1,a2,a3⟩:=bx_cells (HS.out.below hb) (List.getElem?_eq_getElem hlt)
      have HD:=Lib.hid (List.drop_eq_getElem_cons hlt)
      generalize xs[k] = ev at *
      obtain ⟨n,lo,hi,z⟩:=ev
      dsimp only at a0 a1 a2 a3
      have FE:=Lib.hid (show findP (fun b => meetB b (x,X,y,Y)) k ((n,lo,hi,z) :: xs.drop (k + 1)) = if meetB (n,lo,hi,z) (x,X,y,Y) then (k : Int) else findP (fun b => meetB b (x,X,y,Y)) (k + 1) (xs.drop (k + 1)) from rfl)
      have hlt' : (k : Int) < (xs.length : Int):=by omega
      have T1c:=Lib.hid (fun W (h : Below w.heap.size w W) => taken1_c gB x X y Y n lo hi z W (hB.below h hlB))
      generalize hr : meetB (n,lo,hi,z) (x,X,y,Y) = r at *
      clear hr
      cases r
      · have FZ:=Lib.hid (FE.out.trans (if_neg (by decide)))
        clear FE
        go_wp2_with (first | (go_at_call 171;(with_reducible refine (T1c.out _ hb).mono ?_);rintro e w2 ⟨rfl,hb2⟩) | fail)
        go_roundw
        case rel => exact ⟨k + 1,by omega,by go_num,by unfold Hid;rw [hf.out,HD.out,FZ.out],by exact bB2 hb2 hb⟩
        case measure => simp [intOf];omega
      · have FZ:=Lib.hid (FE.out.trans (if_pos rfl))
        clear FE
        go_wp2_with (first | (go_at_call 171;(with_reducible refine (T1c.out _ hb).mono ?_);rintro e w2 ⟨rfl,hb2⟩) | fail)
        go_ret
        exact ⟨ret_i (by rw [hf.out,HD.out,FZ.out]),by exact bB2 hb2 hb⟩
    · go_wp2
      go_ret
      exact ⟨ret_i (by rw [hf.out,List.drop_eq_nil_of_le (by omega)];rfl),by exact bB1 hb⟩
set_option maxHeartbeats 400000 in
theorem containsBox_c (gB : Nat) (x X y Y : Int) (xs : List Bx) (A : Option Addr) (c : Nat) (w : World) (hB : Box w gB 27 #[.int .i64 x,.int .i64 X,.int .i64 y,.int .i64 Y]) (hn : xs.length ≤ 9223372036854775807) (hs : SlV w A (xs.flatMap bxV)) :
    Calls Tryz.prog 170 #[.slice A xs.length c,.func (.func 171) #[] #[.pointer (some ⟨gB,0,none⟩)]] w fun e w' => e = .returned (.bool (xs.any fun b => meetB b (x,X,y,Y))) ∧ Below w.heap.size w w':=by
  have IC:=Lib.hid (indexBox_c gB x X y Y xs A c w hB hn hs)
  have HA:=Lib.hid (findP_any (fun b => meetB b (x,X,y,Y)) xs 0)
  generalize findP (fun b => meetB b (x,X,y,Y)) 0 xs = r at *
  generalize (xs.any fun b => meetB b (x,X,y,Y)) = q at *
  clear hs
  go_enter Tryz.func170,Tryz.ntmps170
  go_wp2_with (first | (go_at_call 188;(with_reducible refine IC.out.mono ?_);rintro e w2 ⟨rfl,hb2⟩) | fail)
  go_ret
  exact ⟨ret_b HA.out,hb2⟩
set_option maxHeartbeats 2000000 in
set_option maxRecDepth 100000 in
theorem isTaken_c (bx bY sl fx fX fy fY ps x X y Y : Int) (L : List Lk) (B : List Bx) (nQ : Nat) (AL AB AQ : Option Addr) (cL cB cQ : Nat) (w : World) (hn : B.length ≤ 9223372036854775807) (hs2 : SlV w AB (B.flatMap bxV)) :
    Calls Tryz.prog 147 #[.agg #[.int .i64 bx,.int .i64 bY,.int .i64 sl,.slice AL L.length cL,.int .i64 fx,.int .i64 fX,.int .i64 fy,.int .i64 fY,.slice AB B.length cB,.int .i64 ps,.slice AQ nQ cQ],.agg #[.int .i64 x,.int .i64 X,.int .i64 y,.int .i64 Y]] w fun e w' => e = .returned (.bool (tkn (⟨bx,bY,sl,L,(fx,fX,fy,fY),B⟩ : Sc) (x,X,y,Y))) ∧ Below w.heap.size w w':=by
  have CB1:=Lib.hid (fun W (h : Below w.heap.size w W) (hB : Box W (w.heap.size + 1) 27 #[.int .i64 x,.int .i64 X,.int .i64 y,.int .i64 Y]) => containsBox_c (w.heap.size + 1) x X y Y B AB cB W hB hn (hs2.below h))
  have HT:=Lib.hid (show tkn (⟨bx,bY,sl,L,(fx,fX,fy,fY),B⟩ : Sc) (x,X,y,Y) = (!(inBx (fx,fX,fy,fY) (x,y) && inBx (fx,fX,fy,fY) (X,Y)) || B.any fun b => meetB b (x,X,y,Y)) from rfl)
  generalize tkn (⟨bx,bY,sl,L,(fx,fX,fy,fY),B⟩ : Sc) (x,X,y,Y) = r at *
  generalize (B.any fun b => meetB b (x,X,y,Y)) = q at *
  have hc : (inBx (fx,fX,fy,fY) (x,y) = false) ∨ (inBx (fx,fX,fy,fY) (x,y) = true ∧ inBx (fx,fX,fy,fY) (X,Y) = false) ∨ (inBx (fx,fX,fy,fY) (x,y) = true ∧ inBx (fx,fX,fy,fY) (X,Y) = true):=by
    cases inBx (fx,fX,fy,fY) (x,y) <;> cases inBx (fx,fX,fy,fY) (X,Y) <;> simp
  clear hs2
  rcases hc with h | ⟨h,h2⟩ | ⟨h,h2⟩
  · go_enter Tryz.func147,Tryz.ntmps147
    go_wp2_with (first | (go_at_call 125;(with_reducible refine (holds_c _ _ _ _ _ _ _).mono ?_);rintro e w' ⟨rfl,rfl⟩) | fail)
    go_ret
    exact ⟨ret_b (by rw [HT.out];simp [h]),by exact bB0⟩
  · go_enter Tryz.func147,Tryz.ntmps147
    go_wp2_with (first | (go_at_call 125;(with_reducible refine (holds_c _ _ _ _ _ _ _).mono ?_);rintro e w' ⟨rfl,rfl⟩) | fail)
    go_ret
    exact ⟨ret_b (by rw [HT.out];simp [h,h2]),by exact bB0⟩
  · go_enter Tryz.func147,Tryz.ntmps147
    go_wp2_with (first | (go_at_call 125;(with_reducible refine (holds_c _ _ _ _ _ _ _).mono ?_);rintro e w' ⟨rfl,rfl⟩) | (go_at_call 170;refine (CB1.out _ (by exact bB0) (by exact bX0)).mono ?_;rintro e w2 ⟨rfl,hb2⟩) | fail)
    go_ret
    exact ⟨ret_b (by rw [HT.out];simp [h,h2]),by exact bB1 hb2⟩
end Go.Proofs.YtpnfgmgoafgcbaaGreat
/-
  A region inside a round of a loop over a function, which draws its order and defers nothing, is walked by the laws that hold outside of rounds. No condition beyond these.
-/
set_option linter.unusedVariables false
namespace Go.Proofs.YtpnfgmgoafgcbaaGreat
theorem rowsIn_wide' {n : Nat} {P : Program} {row : String} {args : Array Value} {w : World} {R : Value → World → Prop} (h : Rows P row args w R) : RowsIn Fence.wide n P row args w R :=
  fun c cs _ => let ⟨v,w',r,s⟩:=h c cs;⟨v,w',r,stepsIn_wide.2 s⟩
theorem wpOpIn_of_wpOp {l m : Nat} {P : Program} {ops : Array Oper} {Q : Exit → Act → World → Prop} (hQ : ¬ LetsOut Q) (hd : ∀ (i : Nat) o,ops[i]? = some o → ∀ c,o.op ≠ .defer c)
    {i : Nat} {K : Act → World → Prop} {a : Act} {w : World} (h : wpOp P ops Q i K a w) : wpOpIn (Fence.wide.inRound l) m P ops Q i K a w:=by
  unfold wpOp at h
  unfold wpOpIn
  split
  · rename_i ho;simpa only [ho] using h
  · rename_i o ho
    simp only [ho] at h
    split
    · rename_i hw
      simp only [hw,if_true] at h
      have h:=h.resolve_right (fun k => hQ k.2)
      unfold Oper.wp at h
      unfold Oper.wpIn
      refine ⟨fun _ _ => trivial, ?_⟩
      rw [show (Fence.wide.inRound l).round = some l from rfl,Oper.semAt_some l _ o (hd _ _ ho)]
      generalize (execOp a.eval o).run P w = r at *
      cases r with
      | ok x w' =>
        cases x <;> simp only [Oper.upon] at h <;> simp only [Oper.uponIn]
        case value => exact h
        case skip => exact h
        case defer => exact h
        case enter => exact ⟨fun h => by simp [Fence.wide] at h,CallsIn.inRound l (callsIn_wide.2 h)⟩
        case row => exact ⟨fun h => by simp [Fence.wide] at h,rowsIn_wide' h⟩
      | halt x w' => cases x <;> simp only [Oper.upon] at h <;> simp only [Oper.uponIn];exact h
    · rename_i hw
      simp only [hw] at h
      exact ⟨fun _ _ => trivial,h⟩
theorem wpAnyIn_of_wpAny {l m : Nat} {P : Program} {md : Region.Mode} {ops : Array Oper} {Q : Exit → Act → World → Prop} (hQ : ¬ LetsOut Q) (hd : ∀ (i : Nat) o,ops[i]? = some o → ∀ c,o.op ≠ .defer c) :
    ∀ (fuel : Nat) (listed : Array Bool) (a : Act) (w : World),wpAny P md ops Q fuel listed a w → wpAnyIn (Fence.wide.inRound l) m P md ops Q fuel listed a w
  | 0,_,_,_,h => h
  | fuel + 1,_,_,_,h => ⟨h.1,fun i hi => wpOpIn_mono (fun a' w' h' => wpAnyIn_of_wpAny hQ hd fuel _ a' w' h') (wpOpIn_of_wpOp hQ hd (h.2 i hi))⟩
/-- No operation defers. -/
def noDefer (ops : Array Oper) : Bool:=ops.toList.all fun o => match o.op with
  | .defer _ => false
  | _ => true
theorem noDefer_spec {ops : Array Oper} (h : noDefer ops = true) : ∀ (i : Nat) o,ops[i]? = some o → ∀ c,o.op ≠ .defer c:=by
  intro i o ho c hc
  have hm : o ∈ ops.toList:=by
    rw [← Array.getElem?_toList] at ho
    exact List.mem_of_getElem? ho
  have:=List.all_eq_true.1 h o hm
  rw [hc] at this
  cases this
end Go.Proofs.YtpnfgmgoafgcbaaGreat
/-
  A region inside a round of a loop over a function, walked by the held laws: the start as outside of rounds. Blocks that a piece of code leaves as they are. Results that lie in cells. No condition beyond these.
-/
set_option linter.unusedVariables false
namespace Go.Proofs.YtpnfgmgoafgcbaaGreat
open Go.RowKit
theorem region_round {l m id : Nat} {P : Program} {ops : Array Oper} {Q : Exit → Act → World → Prop} {a : Act} {w : World} (hm : P.follows .mixedOrders = true) (hd : noDefer ops = true)
    (h : ∀ R : Act → World → Prop,(∀ a w,Q .normal a w → R a w) → wpAny P .any ops (fun e a w => e = .normal ∧ R a w) ops.size (Array.replicate ops.size false) a w.drew) : (Code.region id ops true).wpIn (Fence.wide.inRound l) m P Q a w:=by
  refine wpIn_mono (Q:=fun e a w => e = .normal ∧ Q .normal a w) (wpIn_region_any hm (wpAnyIn_of_wpAny ?_ (noDefer_spec hd) _ _ _ _ (h _ (fun _ _ h => h)))) ?_
  · rintro ⟨_,_,h,_⟩
    cases h
  · rintro e a w ⟨rfl,h⟩
    exact h
theorem region_open {id : Nat} {P : Program} {ops : Array Oper} {Q : Exit → Act → World → Prop} {a : Act} {w : World} (hm : P.follows .mixedOrders = true)
    (h : ∀ R : Act → World → Prop,(∀ a w,Q .normal a w → R a w) → wpAny P .any ops (fun e a w => e = .normal ∧ R a w) ops.size (Array.replicate ops.size false) a w.drew) : (Code.region id ops true).wp P Q a w:=by
  refine wp_mono (Q:=fun e a w => e = .normal ∧ Q .normal a w) (wp_region_any hm (h _ (fun _ _ h => h))) ?_
  rintro e a w ⟨rfl,h⟩
  exact h
theorem heldR {P : Program} {ops : Array Oper} {S : World → Prop} {R : Act → World → Prop} {a : Act} {w : World} (hS : S w)
    (h : S w → wpAnyH P .any ops (fun e a w => e = .normal ∧ R a w) S ops.size (Array.replicate ops.size false) a w) : wpAny P .any ops (fun e a w => e = .normal ∧ R a w) ops.size (Array.replicate ops.size false) a w :=
  wpAny_of_held _ _ _ _ (h hS)
/-- Old blocks other than those of 'bad' are as they were. -/
def Steps1 (bad : Nat → Prop) (W W' : World) : Prop:=W.heap.size ≤ W'.heap.size ∧ ∀ k,k < W.heap.size → ¬ bad k → W'.heap[k]? = W.heap[k]?
theorem Steps1.of_below {bad : Nat → Prop} {W W' : World} (hb : Below W.heap.size W W') : Steps1 bad W W':=⟨hb.size,fun k hk _ => hb.block k hk⟩
theorem Steps1.refl (bad : Nat → Prop) (W : World) : Steps1 bad W W:=⟨Nat.le_refl _,fun _ _ _ => rfl⟩
theorem Steps1.trans {bad : Nat → Prop} {X Y Z : World} (h : Steps1 bad X Y) (k : Steps1 bad Y Z) : Steps1 bad X Z :=
  ⟨Nat.le_trans h.1 k.1,fun j hj hn => (k.2 j (Nat.lt_of_lt_of_le hj h.1) hn).trans (h.2 j hj hn)⟩
theorem Steps1.setCell {bad : Nat → Prop} {W W' : World} (h : Steps1 bad W W') {p : Addr} (u : Value) (hp : bad p.block) : Steps1 bad W (W'.setCell p u) :=
  ⟨by simpa [World.setCell] using h.1,fun k hk hn => (Below.heap_setCell W' p u k (by rintro rfl;exact hn hp)).trans (h.2 k hk hn)⟩
theorem Steps1.alloc {bad : Nat → Prop} {W W' : World} (h : Steps1 bad W W') (o : Obj) : Steps1 bad W (W'.alloc o) :=
  ⟨by simp;have:=h.1;omega,fun k hk hn => (Below.heap_alloc W' o k (Nat.lt_of_lt_of_le hk h.1)).trans (h.2 k hk hn)⟩
theorem Steps1.box {bad : Nat → Prop} {W W' : World} (h : Steps1 bad W W') {g : Nat} {t : TypeId} {cs : Array Value} (hb : Box W g t cs) (hn : ¬ bad g) : Box W' g t cs:=(h.2 g hb.lt hn).trans hb
theorem Steps1.keeps {bad : Nat → Prop} {W W' : World} (h : Steps1 bad W W') {B : Nat} (hc : ∀ k,bad k → k < B) : KeepsFrom B W W' :=
  ⟨h.1,fun k o hB hk _ => (h.2 k (Array.getElem?_eq_some_iff.1 hk).1 (fun hb => by have:=hc k hb;omega)).trans hk⟩
/-- Results that lie in cells. -/
theorem run_loadVar_one {P : Program} {ty : TypeId} {w : World} {g : Nat} {v : Value} {d : TypeDesc} (hu : P.underlying ty = some d) (hd : (match d with | .struct _ | .array _ _ => true | _ => false) = false) (hc : w.cell? ⟨g,0,none⟩ = some v) : (loadVar ty ⟨g,0,none⟩).run P w = .ok v w:=by
  have hagg : (isAgg ty).run P w = .ok false w:=by
    unfold isAgg
    rw [Sem.run_bind,run_underlying hu w]
    cases d <;> simp_all
  simp [loadVar,Sem.run_bind,hagg,go_sem,hc]
theorem res_cc {P : Program} {fn : Func} {p q : Tmp} {ty tz : TypeId} {tmps : Array Value} {w : World} {g g' : Nat} {u v : Value} {d d' : TypeDesc} (h : fn.results = #[.cell p ty,.cell q tz]) (hp : tmps.getD p undef = .pointer (some ⟨g,0,none⟩)) (hq : tmps.getD q undef = .pointer (some ⟨g',0,none⟩))
    (hg : w.cell? ⟨g,0,none⟩ = some u) (hg' : w.cell? ⟨g',0,none⟩ = some v) (hu : P.underlying ty = some d) (hd : (match d with | .struct _ | .array _ _ => true | _ => false) = false) (hu' : P.underlying tz = some d') (hd' : (match d' with | .struct _ | .array _ _ => true | _ => false) = false) : (results fn tmps).run P w = .ok (.tuple #[u,v]) w:=by
  have hp' : tmps[p]?.getD undef = .pointer (some ⟨g,0,none⟩):=by simpa using hp
  have hq' : tmps[q]?.getD undef = .pointer (some ⟨g',0,none⟩):=by simpa using hq
  simp [results,h,hp',hq',asAddr,run_loadVar_one hu hd hg,run_loadVar_one hu' hd' hg']
end Go.Proofs.YtpnfgmgoafgcbaaGreat

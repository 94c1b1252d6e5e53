/-
  The texts Sweep1, Sweep2, Sweep3 in one.
-/
import Derived.Test.YtpnfgmgoafgcbaaGreatFree
import Derived.Test.YtpnfgmgoafgcbaaGreatMoved2
import Derived.RegionTactic
import Derived.ChangeAlike
set_option linter.all false
/-
  The sweep of a move (chapter 6): the cells of one arm grow the box.
-/
set_option linter.unusedVariables false
namespace Go.Proofs.YtpnfgmgoafgcbaaGreat
open Go.RowKit Go.Shelf
attribute [local go_sem] Oper.semAt_some
noncomputable def sRange : Code:=(Tryz.f115.body.bind firstRange).getD .skip
theorem grown_weak {W W' : World} (h : W.grownBy W' none) (r : Option Nat) : W.grownBy W' r:=⟨h.os,h.tape,h.output,h.size,fun k hk _ => h.block k hk (fun e => nomatch e)⟩
theorem grown_trans {A B C : World} {r : Option Nat} {s : Option Nat} (h : A.grownBy B r) (k : B.grownBy C s) (hs : ∀ j,s = some j → A.heap.size ≤ j ∨ r = some j) : A.grownBy C r :=
  ⟨k.os.trans h.os,k.tape.trans h.tape,k.output.trans h.output,Nat.le_trans h.size k.size,fun j hj hne => (k.block j (Nat.lt_of_lt_of_le hj h.size) (fun e => by
    rcases hs j e.symm with h1 | h1
    · omega
    · exact hne h1.symm)).trans (h.block j hj hne)⟩
theorem grown_set {A B : World} {g : Nat} (h : A.grownBy B (some g)) (i : Nat) (u : Value) : A.grownBy (B.setCell ⟨g,i,none⟩ u) (some g) :=
  ⟨h.os,h.tape,h.output,by simpa using h.size,fun k hk hne => (Below.heap_setCell B ⟨g,i,none⟩ u k (fun e => hne (by rw [e]))).trans (h.block k hk hne)⟩
def bxA (b : Bx) : Array Value:=#[.int .i64 b.1,.int .i64 b.2.1,.int .i64 b.2.2.1,.int .i64 b.2.2.2]
set_option maxHeartbeats 4000000 in
set_option maxRecDepth 100000 in
theorem srange_c (gA gB fr B0 : Nat) (b0 : Bx) (bx bY sl fx fX fy fY ps : Int) (L : List Lk) (B : List Bx) (Q : List Int) (AL AB AQ : Option Addr) (cL cB cQ : Nat) (ds : List Nat) (PQ : Exit → Act → World → Prop) (hQ : Q.length = L.length) (hL : L.length ≤ 3) (hfr : fr ≤ L.length)
    (hb1 : -100 ≤ bx ∧ bx ≤ 100) (hb2 : -100 ≤ bY ∧ bY ≤ 100) (hb3 : -100 ≤ ps ∧ ps ≤ 100) (hl : ∀ l ∈ L,1 ≤ l.1 ∧ l.1 ≤ 4) (hq : ∀ q ∈ Q,-2 ≤ q ∧ q ≤ 2) (w : World) (t0 t1 t2 t3 t4 t5 t6 t7 t8 t9 t11 t12 t13 t14 t15 t16 t17 t18 t19 t20 t21 t22 t23 t24 t25 t26 t27 t28 t29 t30 t31 t32 t33 t34 t35 t36 t37 t38 t39 t40 t41 t43 t44 t45 t46 t47 t48 t49 : Value) (hs1 : SlV w AL (L.flatMap lkV)) (hs3 : SlI w AQ Q)
    (hA : Box w gA 135 #[.int .i64 bx,.int .i64 bY,.int .i64 sl,.slice AL L.length cL,.int .i64 fx,.int .i64 fX,.int .i64 fy,.int .i64 fY,.slice AB B.length cB,.int .i64 ps,.slice AQ Q.length cQ]) (hF : Box w (gA + 1) 3 #[.int .i64 (fr : Int)]) (hBx : Box w gB 27 (bxA b0)) (hM : MarksOk B0 w ds)
    (hQ1 : ∀ (D : Nat) (W : World),Box W gB 27 (bxA ((clP (⟨bx,bY,sl,L,(fx,fX,fy,fY),B⟩ : Sc) (ps,Q) fr).foldl withP b0)) → w.grownBy W (some gB) → MarksOk B0 W (D :: ds) → PQ .normal ⟨#[t0,t1,t2,t3,t4,t5,t6,t7,t8,t9,Value.pointer (some ⟨gB,0,none⟩),t11,t12,t13,t14,t15,t16,t17,t18,t19,t20,t21,t22,t23,t24,t25,t26,t27,t28,t29,t30,t31,t32,t33,t34,t35,t36,t37,t38,t39,t40,t41,Value.func (.func 165) #[] #[.pointer (some ⟨gA,0,none⟩),.pointer (some ⟨gA + 1,0,none⟩)],t43,t44,t45,t46,t47,t48,t49],(D :: ds).map mk⟩ W) (hB0 : B0 ≤ w.heap.size) :
    sRange.wpIn Fence.wide 6 Tryz.prog PQ ⟨#[t0,t1,t2,t3,t4,t5,t6,t7,t8,t9,Value.pointer (some ⟨gB,0,none⟩),t11,t12,t13,t14,t15,t16,t17,t18,t19,t20,t21,t22,t23,t24,t25,t26,t27,t28,t29,t30,t31,t32,t33,t34,t35,t36,t37,t38,t39,t40,t41,Value.func (.func 165) #[] #[.pointer (some ⟨gA,0,none⟩),.pointer (some ⟨gA + 1,0,none⟩)],t43,t44,t45,t46,t47,t48,t49],ds.map mk⟩ w:=by
  have hseq:=cells1_seq (6 - 1) gA fr bx bY sl fx fX fy fY ps L B Q AL AB AQ cL cB cQ w (by omega) hQ hL hfr hb1 hb2 hb3 hl hq hs1 hs3 hA hF
  have lB:=hBx.lt
  unfold sRange
  conv => arg 5;whnf
  refine wpIn_rangeFunc_G (gf:=165) (lb:=#[.pointer (some ⟨gA,0,none⟩),.pointer (some ⟨gA + 1,0,none⟩)]) rfl (by omega) rfl trivial (enters_of Tryz.func165 (by kernel_rfl) rfl) hseq ?Sk ?Kt ?Kb (Below.refl _ _) (fun _ => rfl)
    (fun pre W => Box W gB 27 (bxA (pre.foldl withP b0)) ∧ w.grownBy W (some gB)) (fun _ _ _ => False) ?I (fun _ _ _ _ _ h _ _ => h) ?IS ⟨hBx,grown_weak (grown_below (Below.refl _ _)) _⟩
    (fun pre x a' W => ∃ Bx,w.heap.size ≤ Bx ∧ Box W Bx 22 #[.int .i64 x.1,.int .i64 x.2] ∧ a' = ⟨#[t0,t1,t2,t3,t4,t5,t6,t7,t8,t9,Value.pointer (some ⟨gB,0,none⟩),t11,t12,Value.pointer (some ⟨Bx,0,none⟩),t14,t15,t16,t17,t18,t19,t20,t21,t22,t23,t24,t25,t26,t27,t28,t29,t30,t31,t32,t33,t34,t35,t36,t37,t38,t39,t40,t41,Value.func (.func 165) #[] #[.pointer (some ⟨gA,0,none⟩),.pointer (some ⟨gA + 1,0,none⟩)],Value.agg #[.int .i64 x.1,.int .i64 x.2],t44,t45,t46,t47,t48,t49],[]⟩) ?Ax ?assign ?body ?done (fun _ _ _ _ _ _ h _ => h.elim)
  case Sk =>
    rintro A B' k o ⟨g,hg0,⟨t,cs,hb0⟩,hg⟩ hk ho hc
    exact (hg.block k (Array.getElem?_eq_some_iff.1 ho).1 (fun e => by cases e;rw [show A.heap[k]? = _ from hb0] at ho;cases ho;cases hc)).trans ho
  case Kt => exact fun h1 h2 k cs t hk h => h2 k cs t hk (h1 k cs t hk h)
  case Kb =>
    intro W k o o' hk ho hc hw' j cs t _ h
    exact h.put (by rintro rfl;rw [show W.heap[j]? = _ from h] at ho;cases ho;cases hc) o'
  case I =>
    rintro pre A B' row ⟨h1,h2⟩ hg hr
    exact ⟨box_keep h1 hg (row_ne h1 (fun r e => (hr r e).2)),grown_trans h2 hg (fun j e => .inl (hr j e).1)⟩
  case IS =>
    rintro pre A B' ⟨g,hg0,⟨t,cs,hb0⟩,hg⟩ ⟨h1,h2⟩
    exact ⟨box_keep h1 hg (by intro e;cases e;omega),grown_trans h2 hg (fun j e => by cases e;exact .inl hg0)⟩
  case Ax =>
    rintro pre x a' _ A B' row ⟨Bx,h2,h3,h4⟩ hg hr
    exact ⟨Bx,h2,box_keep h3 hg (row_ne h3 (fun r e => (hr r e).2)),h4⟩
  case assign =>
    rintro l1 pre x W K ⟨h1,h2⟩ hp hK
    gi_wp2
    refine hK _ _ ((KeepsOthers.alloc _ _).from _) (fun k cs t _ h => Box.alloc h _) ⟨h1.alloc _,grown_trans h2 (World.grownBy_alloc W _ none) (fun j e => nomatch e)⟩ ⟨W.heap.size,h2.size,Box.new _ _ _,rfl⟩
  case body =>
    rintro l1 pre x a' W hlw ⟨h1,h2⟩ ⟨Bx,h6,h7,rfl⟩
    have HF:=Lib.hid (show (pre ++ [x]).foldl withP b0 = withP (pre.foldl withP b0) x from by simp)
    generalize pre.foldl withP b0 = b at *
    obtain ⟨b1,b2,b3,b4⟩:=b
    have hz:=h2.size
    have e0:=h1.cell 0;have e1:=h1.cell 1;have e2:=h1.cell 2;have e3:=h1.cell 3;have ef:=h1.froz
    have x0:=h7.cell 0;have x1:=h7.cell 1
    simp [bxA] at e0 e1 e2 e3 x0 x1
    have l1':=h1.lt
    gi_wp2_with (refine ⟨trivial, ?_⟩;gi_at_call 156;refine (CallsIn.inRound l1 (callsIn_wide.2 (with_c _ _ _ _ _ _ _))).mono ?_;rintro e w3 ⟨rfl,hb3⟩;have i1 : Box w3 gB 27 #[.int .i64 b1,.int .i64 b2,.int .i64 b3,.int .i64 b4]:=(h1.below hb3 h1.lt);have j0:=i1.cell 0;have j1:=i1.cell 1;have j2:=i1.cell 2;have j3:=i1.cell 3;have jf:=i1.froz;(simp at j0 j1 j2 j3))
    refine ⟨(below_kf hb3).trans ((((KeepsOthers.setCell _ _ _).from _).trans ((KeepsOthers.setCell _ _ _).from _)).trans (((KeepsOthers.setCell _ _ _).from _).trans ((KeepsOthers.setCell _ _ _).from _))), ?_, ?_, ?_⟩
    · intro k cs t hk h
      exact ((((h.below hb3 h.lt).far (by show k ≠ gB;omega) _).far (by show k ≠ gB;omega) _).far (by show k ≠ gB;omega) _).far (by show k ≠ gB;omega) _
    · rw [HF.out]
      show Box _ _ _ #[.int .i64 (min b1 x.1),.int .i64 (max b2 x.1),.int .i64 (min b3 x.2),.int .i64 (max b4 x.2)]
      exact bX0
    · exact grown_trans h2 (grown_set (grown_set (grown_set (grown_set (grown_weak (grown_below hb3) _) _ _) _ _) _ _) _ _) (fun j e => .inr e.symm.symm)
  case done =>
    rintro D xs W hD rfl ⟨h1,h2⟩ hDh
    refine hQ1 D W h1 h2 ((hM.grown h2 (fun E hE e => ?_)).cons (by omega) (fun h => by have:=hM.lt D h;omega) hDh)
    exact mark_ne hBx hM E hE e
end Go.Proofs.YtpnfgmgoafgcbaaGreat
/-
  The walk of sweep (chapter 6).
-/
set_option linter.unusedVariables false
namespace Go.Proofs.YtpnfgmgoafgcbaaGreat
open Go.RowKit Go.Shelf
attribute [local go_sem] Oper.semAt_some
theorem res_aat {P : Program} {fn : Func} {p q u : Tmp} {ty tz t t' : TypeId} {tmps : Array Value} {w : World} {g g' : Nat} {cs cs' : Array Value} {d d' : TypeDesc} (h : fn.results = #[.cell p ty,.cell q tz,.tmp u]) (hp : tmps.getD p undef = .pointer (some ⟨g,0,none⟩)) (hq : tmps.getD q undef = .pointer (some ⟨g',0,none⟩)) (hg : Box w g t cs) (hg' : Box w g' t' cs')
    (hu : P.underlying ty = some d) (hd : (match d with | .struct _ | .array _ _ => true | _ => false) = true) (hi : (P.info? ty).map (·.size) = some cs.size) (hu' : P.underlying tz = some d') (hd' : (match d' with | .struct _ | .array _ _ => true | _ => false) = true) (hi' : (P.info? tz).map (·.size) = some cs'.size) : (results fn tmps).run P w = .ok (.tuple #[.agg cs,.agg cs',tmps.getD u undef]) w:=by
  have hp' : tmps[p]?.getD undef = .pointer (some ⟨g,0,none⟩):=by simpa using hp
  have hq' : tmps[q]?.getD undef = .pointer (some ⟨g',0,none⟩):=by simpa using hq
  simp [results,h,hp',hq',asAddr,run_loadVar_row w g t ty cs (0,0) d hg hu hd hi,run_loadVar_row w g' t' tz cs' (0,0) d' hg' hu' hd' hi',Result.andThen]
theorem SlI.drew {w : World} {A : Option Addr} {xs : List Int} (h : SlI w A xs) : SlI w.drew A xs:=h
/-- What sweep hands back. -/
def SwEnd (bx bY sl fx fX fy fY : Int) (nL nB : Nat) (AL AB : Option Addr) (cL cB : Nat) (b : Bx) (p : Ps) (err : Int) (w : World) (e : Ending) (w' : World) : Prop :=
  ∃ gQ cap,e = .returned (.tuple #[.agg (bxA b),.agg #[.int .i64 bx,.int .i64 bY,.int .i64 sl,.slice AL nL cL,.int .i64 fx,.int .i64 fX,.int .i64 fy,.int .i64 fY,.slice AB nB cB,.int .i64 p.1,.slice (some ⟨gQ,0,none⟩) p.2.length cap],.int .i64 err]) ∧ w.heap.size ≤ gQ ∧ SlI w' (some ⟨gQ,0,none⟩) p.2 ∧ (∃ cs,Box w' gQ 3 cs) ∧ Below w.heap.size w w'
set_option maxHeartbeats 4000000 in
set_option maxRecDepth 100000 in
theorem sweep_no (bx bY sl fx fX fy fY ps mj mb : Int) (L : List Lk) (B : List Bx) (Q : List Int) (AL AB AQ : Option Addr) (cL cB cQ : Nat) (w : World) (hQ : Q.length = L.length) (h0 : 0 < L.length) (hL : L.length ≤ 3)
    (h1 : -1 ≤ mj ∧ mj < L.length) (h2 : -1 ≤ mb ∧ mb ≤ 1) (h3 : -100 ≤ ps ∧ ps ≤ 100) (h4 : ∀ q ∈ Q,-2 ≤ q ∧ q ≤ 2) (hs1 : SlV w AL (L.flatMap lkV)) (hs3 : SlI w AQ Q) (he : mvdE (⟨bx,bY,sl,L,(fx,fX,fy,fY),B⟩ : Sc) (ps,Q) (mj,mb) ≠ 0) :
    Calls Tryz.prog 115 #[.agg #[.int .i64 bx,.int .i64 bY,.int .i64 sl,.slice AL L.length cL,.int .i64 fx,.int .i64 fX,.int .i64 fy,.int .i64 fY,.slice AB B.length cB,.int .i64 ps,.slice AQ Q.length cQ],.agg #[.int .i64 mj,.int .i64 mb]] w (SwEnd bx bY sl fx fX fy fY L.length B.length AL AB cL cB (0,0,0,0) (mvd (ps,Q) (mj,mb)) (mvdE (⟨bx,bY,sl,L,(fx,fX,fy,fY),B⟩ : Sc) (ps,Q) (mj,mb)) w):=by
  have MVc:=Lib.hid (fun W (h : Below w.heap.size w W) => moved_c bx bY sl fx fX fy fY ps mj mb L B Q AL AB AQ cL cB cQ W hQ h0 (by omega) h1 h2 (by omega) (fun q h => by have:=h4 q h;omega) (hs1.below h) (hs3.below h))
  have e1:=bneT he
  clear he hQ hs1 hs3
  generalize mvdE (⟨bx,bY,sl,L,(fx,fX,fy,fY),B⟩ : Sc) (ps,Q) (mj,mb) = R at *
  generalize mvd (ps,Q) (mj,mb) = P at *
  obtain ⟨P1,P2⟩:=P
  refine callsIn_wide.1 (callsIn_of_wp_marks (n:=6) Tryz.func115 rfl trivial ?_ rfl)
  simp only [Tryz.ntmps115,List.size_toArray,List.length_cons,List.length_nil,Nat.reduceAdd,Nat.reduceSub,Array.replicate_succ,Array.replicate_zero,List.push_toArray,List.append_toArray,List.nil_append,List.cons_append]
  gi_wp2_with (first | (refine ⟨trivial, ?_⟩;gi_at_call 114;refine (callsIn_wide.2 (MVc.out _ (by exact bB0))).mono ?_;rintro e w2 hC;obtain ⟨gQ,capQ,rfl,hgQ,hsQ,⟨csQ,hbQ⟩,hb2⟩:=hC;have hz2 : w.heap.size + 1 + 1 + 1 < w2.heap.size:=(by have:=hb2.size;(try simp at this);omega);have hgQ' : w.heap.size + 1 + 1 + 1 < gQ:=(by (try simp at hgQ);omega);have lQ:=hbQ.lt) | fail)
  have z4 : Box w2 (w.heap.size + 1 + 1) 27 #[.int .i64 0,.int .i64 0,.int .i64 0,.int .i64 0]:=by exact bX1 hb2
  have z5 : Box w2 (w.heap.size + 1 + 1 + 1) 135 #[.int .i64 0,.int .i64 0,.int .i64 0,.slice none 0 0,.int .i64 0,.int .i64 0,.int .i64 0,.int .i64 0,.slice none 0 0,.int .i64 0,.slice none 0 0]:=by exact bX1 hb2
  have a0:=z4.cell 0;have a1:=z4.cell 1;have a2:=z4.cell 2;have a3:=z4.cell 3;have a4:=z4.froz
  have b0:=z5.cell 0;have b1:=z5.cell 1;have b2:=z5.cell 2;have b3:=z5.cell 3;have b4:=z5.cell 4;have b5:=z5.cell 5;have b6:=z5.cell 6;have b7:=z5.cell 7;have b8:=z5.cell 8;have b9:=z5.cell 9;have b10:=z5.cell 10;have b11:=z5.froz
  simp at a0 a1 a2 a3 b0 b1 b2 b3 b4 b5 b6 b7 b8 b9 b10
  have hl4:=z4.lt;have hl5:=z5.lt
  gi_wp2
  refine wpIn_wide.2 ?_
  go_region
  all_goals go_wp2
  gi_wp2
  refine ⟨_,res_aat rfl rfl rfl (show Box _ _ 27 #[.int .i64 0,.int .i64 0,.int .i64 0,.int .i64 0] from ?e1) (show Box _ _ 135 #[.int .i64 bx,.int .i64 bY,.int .i64 sl,.slice AL L.length cL,.int .i64 fx,.int .i64 fX,.int .i64 fy,.int .i64 fY,.slice AB B.length cB,.int .i64 P1,.slice (some ⟨gQ,0,none⟩) P2.length capQ] from ?e2) Tryz.underlying27 rfl tb_size Tryz.underlying135 rfl ta_size,gQ,capQ,rfl,by omega, ?S, ?X, ?B⟩
  case e1 => exact bX0
  case e2 => exact bX0
  case S =>
    (repeat (with_reducible first | refine SlI.drew ?_ | refine SlI.alloc ?_ _ | refine SlI.far ?_ (show gQ ≠ w.heap.size + 1 + 1 by omega) _ _ | refine SlI.far ?_ (show gQ ≠ w.heap.size + 1 + 1 + 1 by omega) _ _))
    exact hsQ
  case X =>
    refine ⟨csQ, ?_⟩
    (repeat (with_reducible first | refine Box.drew ?_ | refine Box.alloc ?_ _ | refine Box.far ?_ (show gQ ≠ w.heap.size + 1 + 1 by omega) _ | refine Box.far ?_ (show gQ ≠ w.heap.size + 1 + 1 + 1 by omega) _))
    exact hbQ
  case B => exact bB1 hb2
end Go.Proofs.YtpnfgmgoafgcbaaGreat
/-
  The walk of sweep (chapter 6), where the move may be carried out.
-/
set_option linter.unusedVariables false
namespace Go.Proofs.YtpnfgmgoafgcbaaGreat
open Go.RowKit Go.Shelf
attribute [local go_sem] Oper.semAt_some
theorem SlI.same {w w' : World} {g : Nat} {t : TypeId} {cs : Array Value} {xs : List Int} (h : SlI w (some ⟨g,0,none⟩) xs) (b : Box w g t cs) (b' : Box w' g t cs) : SlI w' (some ⟨g,0,none⟩) xs:=fun j u hj => by
  obtain ⟨k,off,e,hk,hc⟩:=h j u hj
  cases e
  refine ⟨g,0,rfl,b'.lt, ?_⟩
  rw [b'.cell,← b.cell];exact hc
theorem MarksOk.drew {B : Nat} {W : World} {ds : List Nat} (h : MarksOk B W ds) : MarksOk B W.drew ds:=h
theorem MarksOk.set {B g : Nat} {W : World} {ds : List Nat} (h : MarksOk B W ds) (hg : g < B) (j : Nat) (v : Value) : MarksOk B (W.setCell ⟨g,j,none⟩ v) ds :=
  ⟨h.1,fun D hD => ⟨(h.2 D hD).1,(Below.heap_setCell W ⟨g,j,none⟩ v D (by have:=(h.2 D hD).1;show D ≠ g;omega)).trans (h.2 D hD).2⟩⟩
set_option maxHeartbeats 4000000 in
set_option maxRecDepth 100000 in
theorem sweep_yes (bx bY sl fx fX fy fY ps mj mb : Int) (L : List Lk) (B : List Bx) (Q : List Int) (AL AB AQ : Option Addr) (cL cB cQ : Nat) (w : World) (hQ : Q.length = L.length) (h0 : 0 < L.length) (hL : L.length ≤ 3)
    (hb1 : -100 ≤ bx ∧ bx ≤ 100) (hbb2 : -100 ≤ bY ∧ bY ≤ 100) (hl : ∀ l ∈ L,1 ≤ l.1 ∧ l.1 ≤ 4) (fr : Nat) (hfr : fr = mj.toNat)
    (h1 : -1 ≤ mj ∧ mj < L.length) (h2 : -1 ≤ mb ∧ mb ≤ 1) (h3 : -100 ≤ ps ∧ ps ≤ 100) (h4 : ∀ q ∈ Q,-2 ≤ q ∧ q ≤ 2) (hP3 : -100 ≤ (mvd (ps,Q) (mj,mb)).1 ∧ (mvd (ps,Q) (mj,mb)).1 ≤ 100) (hP4 : ∀ q ∈ (mvd (ps,Q) (mj,mb)).2,-2 ≤ q ∧ q ≤ 2)
    (hs1 : SlV w AL (L.flatMap lkV)) (hs3 : SlI w AQ Q) (he : mvdE (⟨bx,bY,sl,L,(fx,fX,fy,fY),B⟩ : Sc) (ps,Q) (mj,mb) = 0) :
    Calls Tryz.prog 115 #[.agg #[.int .i64 bx,.int .i64 bY,.int .i64 sl,.slice AL L.length cL,.int .i64 fx,.int .i64 fX,.int .i64 fy,.int .i64 fY,.slice AB B.length cB,.int .i64 ps,.slice AQ Q.length cQ],.agg #[.int .i64 mj,.int .i64 mb]] w (SwEnd bx bY sl fx fX fy fY L.length B.length AL AB cL cB (swBx (⟨bx,bY,sl,L,(fx,fX,fy,fY),B⟩ : Sc) (ps,Q) (mj,mb)) (mvd (ps,Q) (mj,mb)) 0 w):=by
  have MVc:=Lib.hid (fun W (h : Below w.heap.size w W) => moved_c bx bY sl fx fX fy fY ps mj mb L B Q AL AB AQ cL cB cQ W hQ h0 (by omega) h1 h2 (by omega) (fun q h => by have:=h4 q h;omega) (hs1.below h) (hs3.below h))
  have JTc:=Lib.hid (fun W (h : Below w.heap.size w W) => joints_c bx bY sl fx fX fy fY ps L B Q AL AB AQ cL cB cQ W hQ hL (by omega) (by omega) (by omega) hl h4 (hs1.below h) (hs3.below h))
  have hPl : (mvd (ps,Q) (mj,mb)).2.length = L.length:=by unfold mvd;dsimp only;split <;> simp [addAt_len,hQ]
  have HPl:=Lib.hid hPl
  have HSw:=Lib.hid (show swBx (⟨bx,bY,sl,L,(fx,fX,fy,fY),B⟩ : Sc) (ps,Q) (mj,mb) = (clP (⟨bx,bY,sl,L,(fx,fX,fy,fY),B⟩ : Sc) (mvd (ps,Q) (mj,mb)) fr).foldl withP ((clP (⟨bx,bY,sl,L,(fx,fX,fy,fY),B⟩ : Sc) (ps,Q) fr).foldl withP (onlyP ((jts (⟨bx,bY,sl,L,(fx,fX,fy,fY),B⟩ : Sc) (ps,Q)).getD fr (0,0)))) from by rw [hfr];rfl)
  have hjl : (jts (⟨bx,bY,sl,L,(fx,fX,fy,fY),B⟩ : Sc) (ps,Q)).length = L.length + 1:=jts_len (s:=(⟨bx,bY,sl,L,(fx,fX,fy,fY),B⟩ : Sc)) (p:=(ps,Q)) hQ
  have hfl : fr < (jts (⟨bx,bY,sl,L,(fx,fX,fy,fY),B⟩ : Sc) (ps,Q)).length:=by omega
  have hFr:=Lib.hid (List.getElem?_eq_getElem hfl)
  have hGd:=Lib.hid (show (jts (⟨bx,bY,sl,L,(fx,fX,fy,fY),B⟩ : Sc) (ps,Q)).getD fr (0,0) = (jts (⟨bx,bY,sl,L,(fx,fX,fy,fY),B⟩ : Sc) (ps,Q))[fr] from by simp [List.getD_eq_getElem?_getD,hfl])
  have HE:=Lib.hid he
  have HQ:=Lib.hid hQ
  have HP3:=Lib.hid hP3
  have HP4:=Lib.hid hP4
  have hsl1:=Lib.hid hs1
  have hsl3:=Lib.hid hs3
  rw [hGd.out] at HSw
  clear hGd hPl he hQ hP3 hP4 hs1 hs3
  generalize mvdE (⟨bx,bY,sl,L,(fx,fX,fy,fY),B⟩ : Sc) (ps,Q) (mj,mb) = R at *
  generalize swBx (⟨bx,bY,sl,L,(fx,fX,fy,fY),B⟩ : Sc) (ps,Q) (mj,mb) = SB at *
  generalize mvd (ps,Q) (mj,mb) = P at *
  obtain ⟨P1,P2⟩:=P
  dsimp only at HP3 HP4 HPl
  have hre : R = 0:=HE.out
  subst hre
  generalize hcj : (jts (⟨bx,bY,sl,L,(fx,fX,fy,fY),B⟩ : Sc) (ps,Q))[fr] = cj at *
  clear hcj
  obtain ⟨cx,cy⟩:=cj
  have hf3 : fr ≤ L.length:=by omega
  have HMX:=Lib.hid (show max (0 : Int) mj = (fr : Int) by omega)
  have htn : (max 0 mj).toNat = fr:=by omega
  have hfl' : max 0 mj < ((jts (⟨bx,bY,sl,L,(fx,fX,fy,fY),B⟩ : Sc) (ps,Q)).length : Int):=by omega
  have hmx0 : 0 ≤ max 0 mj:=by omega
  have hjl':=Lib.hid hjl
  clear hfr hjl
  generalize hjs : jts (⟨bx,bY,sl,L,(fx,fX,fy,fY),B⟩ : Sc) (ps,Q) = js at *
  clear hjs
  refine callsIn_wide.1 (callsIn_of_wp_marks (n:=6) Tryz.func115 rfl trivial ?_ rfl)
  simp only [Tryz.ntmps115,List.size_toArray,List.length_cons,List.length_nil,Nat.reduceAdd,Nat.reduceSub,Array.replicate_succ,Array.replicate_zero,List.push_toArray,List.append_toArray,List.nil_append,List.cons_append]
  gi_wp2_with (first | (refine ⟨trivial, ?_⟩;gi_at_call 114;refine (callsIn_wide.2 (MVc.out _ (by exact bB0))).mono ?_;rintro e w2 hC;obtain ⟨gQ,capQ,rfl,hgQ,hsQ,⟨csQ,hbQ⟩,hb2⟩:=hC;have hz2 : w.heap.size + 1 + 1 + 1 < w2.heap.size:=(by have:=hb2.size;(try simp at this);omega);have hgQ' : w.heap.size + 1 + 1 + 1 < gQ:=(by (try simp at hgQ);omega);have lQ:=hbQ.lt;have y0 : Box w2 w.heap.size 135 #[.int .i64 bx,.int .i64 bY,.int .i64 sl,.slice AL L.length cL,.int .i64 fx,.int .i64 fX,.int .i64 fy,.int .i64 fY,.slice AB B.length cB,.int .i64 ps,.slice AQ Q.length cQ]:=(by exact bX1 hb2);have y1 : Box w2 (w.heap.size + 1) 84 #[.int .i64 mj,.int .i64 mb]:=(by exact bX1 hb2);have y2 : Box w2 (w.heap.size + 1 + 1) 27 #[.int .i64 0,.int .i64 0,.int .i64 0,.int .i64 0]:=(by exact bX1 hb2);have y3 : Box w2 (w.heap.size + 1 + 1 + 1) 135 #[.int .i64 0,.int .i64 0,.int .i64 0,.slice none 0 0,.int .i64 0,.int .i64 0,.int .i64 0,.int .i64 0,.slice none 0 0,.int .i64 0,.slice none 0 0]:=(by exact bX1 hb2);have u0:=y1.cell 0;have u1:=y1.cell 1;have c0:=y0.cell 0;have c1:=y0.cell 1;have c2:=y0.cell 2;have c3:=y0.cell 3;have c4:=y0.cell 4;have c5:=y0.cell 5;have c6:=y0.cell 6;have c7:=y0.cell 7;have c8:=y0.cell 8;have c9:=y0.cell 9;have c10:=y0.cell 10;(simp at u0 u1 c0 c1 c2 c3 c4 c5 c6 c7 c8 c9 c10);have hl0:=y0.lt;have hl1:=y1.lt;have hl2:=y2.lt) | (refine ⟨trivial, ?_⟩;gi_at_call 110;refine (callsIn_wide.2 (JTc.out _ (by exact bB1 hb2))).mono ?_;rintro e w4 hC4;obtain ⟨gJ,cJ,rfl,hgJ,hlJ,hsJ,⟨csJ,hbJ⟩,hb4⟩:=hC4;have hz4 : w2.heap.size < w4.heap.size:=(by have:=hb4.size;(try simp at this);omega);obtain ⟨_,_,ej,_,j0,j1⟩:=ce_cells hsJ hFr.out;cases ej;rw [Nat.zero_add] at j0 j1) | (refine ⟨trivial, ?_⟩;gi_at_call 155;refine (callsIn_wide.2 (only_c _ _ _)).mono ?_;rintro e w5 ⟨rfl,hb5⟩;have hz5 : w4.heap.size ≤ w5.heap.size:=(by have:=hb5.size;(try simp at this);omega);have v0 : Box w5 w.heap.size 135 #[.int .i64 bx,.int .i64 bY,.int .i64 sl,.slice AL L.length cL,.int .i64 fx,.int .i64 fX,.int .i64 fy,.int .i64 fY,.slice AB B.length cB,.int .i64 ps,.slice AQ Q.length cQ]:=(by exact bX3 hb2 hb4 hb5);have v7 : Box w5 w2.heap.size 135 #[.int .i64 bx,.int .i64 bY,.int .i64 sl,.slice AL L.length cL,.int .i64 fx,.int .i64 fX,.int .i64 fy,.int .i64 fY,.slice AB B.length cB,.int .i64 P1,.slice (some ⟨gQ,0,none⟩) P2.length capQ]:=(by exact bX2 hb4 hb5);have d0:=v0.cell 0;have d1:=v0.cell 1;have d2:=v0.cell 2;have d3:=v0.cell 3;have d4:=v0.cell 4;have d5:=v0.cell 5;have d6:=v0.cell 6;have d7:=v0.cell 7;have d8:=v0.cell 8;have d9:=v0.cell 9;have d10:=v0.cell 10;have f0:=v7.cell 0;have f1:=v7.cell 1;have f2:=v7.cell 2;have f3:=v7.cell 3;have f4:=v7.cell 4;have f5:=v7.cell 5;have f6:=v7.cell 6;have f7:=v7.cell 7;have f8:=v7.cell 8;have f9:=v7.cell 9;have f10:=v7.cell 10;(simp at d0 d1 d2 d3 d4 d5 d6 d7 d8 d9 d10 f0 f1 f2 f3 f4 f5 f6 f7 f8 f9 f10);have hm0:=v0.lt;have hm7:=v7.lt) | fail)
  have hq5 : gQ < w5.heap.size:=by omega
  obtain ⟨W6,hW6⟩ : ∃ W6 : World,W6 = w5.alloc (.cells #[.int .i64 cx,.int .i64 cx,.int .i64 cy,.int .i64 cy] 27):=⟨_,rfl⟩
  have g0 : Box W6 w5.heap.size 27 (bxA (onlyP (cx,cy))):=by rw [hW6];exact Box.new _ _ _
  have g1 : Box W6 w2.heap.size 135 #[.int .i64 bx,.int .i64 bY,.int .i64 sl,.slice AL L.length cL,.int .i64 fx,.int .i64 fX,.int .i64 fy,.int .i64 fY,.slice AB B.length cB,.int .i64 P1,.slice (some ⟨gQ,0,none⟩) P2.length capQ]:=by rw [hW6];exact v7.alloc _
  have g2 : Box W6 (w.heap.size + 1 + 1) 27 #[.int .i64 0,.int .i64 0,.int .i64 0,.int .i64 0]:=by rw [hW6];exact bX2 hb4 hb5
  have g3 : Box W6 (w.heap.size + 1 + 1 + 1) 135 #[.int .i64 0,.int .i64 0,.int .i64 0,.slice none 0 0,.int .i64 0,.int .i64 0,.int .i64 0,.int .i64 0,.slice none 0 0,.int .i64 0,.slice none 0 0]:=by rw [hW6];exact bX2 hb4 hb5
  have gq4 : Box w4 gQ 3 csQ:=by exact bX1 hb4
  have g4 : Box W6 gQ 3 csQ:=by rw [hW6];exact bX1 hb5
  have g5 : Below w.heap.size w W6:=by rw [hW6];exact bB3 hb2 hb4 hb5
  have g6 : w5.heap.size < W6.heap.size:=g0.lt
  rw [← hW6]
  clear hW6
  generalize w5.heap.size = gB at *
  clear d0 d1 d2 d3 d4 d5 d6 d7 d8 d9 d10 f0 f1 f2 f3 f4 f5 f6 f7 f8 f9 f10 c0 c1 c2 c3 c4 c5 c6 c7 c8 c9 c10 u0 u1 j0 j1
  have i0 : ∀ w,(Instr.index 213 (.agg #[.int .i64 bx,.int .i64 bY,.int .i64 sl,.slice AL L.length cL,.int .i64 fx,.int .i64 fX,.int .i64 fy,.int .i64 fY,.slice AB B.length cB,.int .i64 ps,.slice AQ Q.length cQ,.int .i64 bx,.int .i64 bY,.int .i64 sl,.slice AL L.length cL,.int .i64 fx,.int .i64 fX,.int .i64 fy,.int .i64 fY,.slice AB B.length cB,.int .i64 P1,.slice (some ⟨gQ,0,none⟩) P2.length capQ]) (.int .i64 0)).run Tryz.prog w = .ok (.agg #[.int .i64 bx,.int .i64 bY,.int .i64 sl,.slice AL L.length cL,.int .i64 fx,.int .i64 fX,.int .i64 fy,.int .i64 fY,.slice AB B.length cB,.int .i64 ps,.slice AQ Q.length cQ]) w:=fun _ => by kernel_rfl
  have i1 : ∀ w,(Instr.index 213 (.agg #[.int .i64 bx,.int .i64 bY,.int .i64 sl,.slice AL L.length cL,.int .i64 fx,.int .i64 fX,.int .i64 fy,.int .i64 fY,.slice AB B.length cB,.int .i64 ps,.slice AQ Q.length cQ,.int .i64 bx,.int .i64 bY,.int .i64 sl,.slice AL L.length cL,.int .i64 fx,.int .i64 fX,.int .i64 fy,.int .i64 fY,.slice AB B.length cB,.int .i64 P1,.slice (some ⟨gQ,0,none⟩) P2.length capQ]) (.int .i64 1)).run Tryz.prog w = .ok (.agg #[.int .i64 bx,.int .i64 bY,.int .i64 sl,.slice AL L.length cL,.int .i64 fx,.int .i64 fX,.int .i64 fy,.int .i64 fY,.slice AB B.length cB,.int .i64 P1,.slice (some ⟨gQ,0,none⟩) P2.length capQ]) w:=fun _ => by kernel_rfl
  refine wpIn_loop_rounds 3 ?_
  rw [roundsIn_succ]
  gi_wp2_with (first | (refine ⟨trivial, ?_⟩;gi_at_call 130;refine (cells_in Fence.wide _ trivial rfl _ _ _ _ _ _ _ _ _ _ _ _ _ _ _ _ _ _ _).mono ?_;rintro e w' ⟨rfl,rfl⟩) | fail)
  refine srange_c (W6.heap.size + 1) gB fr (w.heap.size + 1 + 1 + 1 + 1) (onlyP (cx,cy)) bx bY sl fx fX fy fY ps L B Q AL AB AQ cL cB cQ [] _ HQ.out hL hf3 hb1 hbb2 h3 hl h4 _ _ _ _ _ _ _ _ _ _ _ _ _ _ _ _ _ _ _ _ _ _ _ _ _ _ _ _ _ _ _ _ _ _ _ _ _ _ _ _ _ _ _ _ _ _ _ _ _ (hsl1.out.below (by exact bB1 g5)) (hsl3.out.below (by exact bB1 g5)) (by exact bX0) (by rw [← HMX.out];exact bX0) (((g0.alloc _).alloc _).alloc _) (MarksOk.nil _ _) ?q1 (by have:=g5.size;simp;omega)
  case q1 =>
    intro D W7 r0 hg7 hm7
    have hz7:=hg7.size
    simp at hz7
    have K : ∀ g t cs,Box W6 g t cs → g ≠ gB → Box W7 g t cs:=fun g t cs h hne => box_keep (((h.alloc _).alloc _).alloc _) hg7 (fun e => hne (by cases e;rfl))
    have k1:=K _ _ _ g1 (by omega)
    have k2:=K _ _ _ g2 (by omega)
    have k3:=K _ _ _ g3 (by omega)
    have k4:=K _ _ _ g4 (by omega)
    have k5 : Below w.heap.size w W7:=(((g5.alloc g5.size _).alloc (by have:=g5.size;simp;omega) _).alloc (by have:=g5.size;simp;omega) _).grown hg7 (by have:=g5.size;simp;omega) (fun r e => by cases e;omega)
    have k6 : gB < W7.heap.size:=r0.lt
    clear K hg7 g0 g1 g2 g3 g5
    generalize (clP (⟨bx,bY,sl,L,(fx,fX,fy,fY),B⟩ : Sc) (ps,Q) fr).foldl withP (onlyP (cx,cy)) = b1 at *
    gi_wp2
    rw [roundsIn_succ]
    gi_wp2_with (first | (refine ⟨trivial, ?_⟩;gi_at_call 130;refine (cells_in Fence.wide _ trivial rfl _ _ _ _ _ _ _ _ _ _ _ _ _ _ _ _ _ _ _).mono ?_;rintro e w' ⟨rfl,rfl⟩) | fail)
    refine srange_c (W7.heap.size + 1) gB fr (w.heap.size + 1 + 1 + 1 + 1) b1 bx bY sl fx fX fy fY P1 L B P2 AL AB (some ⟨gQ,0,none⟩) cL cB capQ [D] _ HPl.out hL hf3 hb1 hbb2 HP3.out hl HP4.out _ _ _ _ _ _ _ _ _ _ _ _ _ _ _ _ _ _ _ _ _ _ _ _ _ _ _ _ _ _ _ _ _ _ _ _ _ _ _ _ _ _ _ _ _ _ _ _ _ (hsl1.out.below (by exact bB1 k5)) (((((hsQ.same hbQ k4).alloc _).alloc _).alloc _)) (by exact bX0) (by rw [← HMX.out];exact bX0) (((r0.alloc _).alloc _).alloc _) ?m8 ?q2 (by have:=k5.size;simp;omega)
    case m8 => exact hm7.keeps (((KeepsOthers.alloc _ _).trans (KeepsOthers.alloc _ _)).trans (KeepsOthers.alloc _ _) |>.from _)
    case q2 =>
      intro E W8 r8 hg8 hm8
      have hz8:=hg8.size
      simp at hz8
      have K : ∀ g t cs,Box W7 g t cs → g ≠ gB → Box W8 g t cs:=fun g t cs h hne => box_keep (((h.alloc _).alloc _).alloc _) hg8 (fun e => hne (by cases e;rfl))
      have n1:=K _ _ _ k1 (by omega)
      have n2:=K _ _ _ k2 (by omega)
      have n3:=K _ _ _ k3 (by omega)
      have n4:=K _ _ _ k4 (by omega)
      have n5 : Below w.heap.size w W8:=(((k5.alloc k5.size _).alloc (by have:=k5.size;simp;omega) _).alloc (by have:=k5.size;simp;omega) _).grown hg8 (by have:=k5.size;simp;omega) (fun r e => by cases e;omega)
      have n6 : gB < W8.heap.size:=r8.lt
      have hSB:=HSw.out
      clear K hg8 r0 k1 k2 k3 k5 hm7
      rw [← hSB] at r8
      clear hSB HSw
      obtain ⟨s1,s2,s3,s4⟩:=SB
      gi_wp2
      rw [roundsIn_succ]
      have o0:=r8.cell 0;have o1:=r8.cell 1;have o2:=r8.cell 2;have o3:=r8.cell 3
      have p0:=n1.cell 0;have p1:=n1.cell 1;have p2:=n1.cell 2;have p3:=n1.cell 3;have p4:=n1.cell 4;have p5:=n1.cell 5;have p6:=n1.cell 6;have p7:=n1.cell 7;have p8:=n1.cell 8;have p9:=n1.cell 9;have p10:=n1.cell 10
      have a0:=n2.cell 0;have a1:=n2.cell 1;have a2:=n2.cell 2;have a3:=n2.cell 3;have a4:=n2.froz
      have q0:=n3.cell 0;have q1:=n3.cell 1;have q2:=n3.cell 2;have q3:=n3.cell 3;have q4:=n3.cell 4;have q5:=n3.cell 5;have q6:=n3.cell 6;have q7:=n3.cell 7;have q8:=n3.cell 8;have q9:=n3.cell 9;have q10:=n3.cell 10
      have q11:=n3.froz
      simp [bxA] at o0 o1 o2 o3 p0 p1 p2 p3 p4 p5 p6 p7 p8 p9 p10 a0 a1 a2 a3 q0 q1 q2 q3 q4 q5 q6 q7 q8 q9 q10
      have l1:=n1.lt;have l2:=n2.lt;have l3:=n3.lt
      gi_wp2
      refine wpIn_wide.2 ?_
      go_region
      all_goals go_wp2
      gi_wp2
      refine leaves_marks (B:=w.heap.size + 1 + 1 + 1 + 1) (G:=fun W' => Box W' (w.heap.size + 1 + 1) 27 #[.int .i64 s1,.int .i64 s2,.int .i64 s3,.int .i64 s4] ∧ Box W' (w.heap.size + 1 + 1 + 1) 135 #[.int .i64 bx,.int .i64 bY,.int .i64 sl,.slice AL L.length cL,.int .i64 fx,.int .i64 fX,.int .i64 fy,.int .i64 fY,.slice AB B.length cB,.int .i64 P1,.slice (some ⟨gQ,0,none⟩) P2.length capQ] ∧ Box W' gQ 3 csQ ∧ Below w.heap.size w W') (fun V F hF hd h => ⟨h.1.put (by omega) _,h.2.1.put (by omega) _,h.2.2.1.put (fun e => by subst e;rw [show V.heap[gQ]? = _ from h.2.2.1] at hd;cases hd) _,below_putObj h.2.2.2 (by omega) _⟩) [E,D] _ ?M ⟨?e1, ?e2, ?e3, ?e4⟩ (fun V h => ⟨_,res_aat rfl rfl rfl h.1 h.2.1 Tryz.underlying27 rfl tb_size Tryz.underlying135 rfl ta_size,gQ,capQ,rfl,by omega,hsQ.same hbQ h.2.2.1,⟨csQ,h.2.2.1⟩,h.2.2.2⟩)
      case M =>
        (repeat (with_reducible first | refine MarksOk.drew ?_ | refine MarksOk.set ?_ (show w.heap.size + 1 + 1 < w.heap.size + 1 + 1 + 1 + 1 by omega) _ _ | refine MarksOk.set ?_ (show w.heap.size + 1 + 1 + 1 < w.heap.size + 1 + 1 + 1 + 1 by omega) _ _))
        exact hm8
      case e1 => exact bX0
      case e2 => exact bX0
      case e3 =>
        (repeat (with_reducible first | refine Box.drew ?_ | refine Box.alloc ?_ _ | refine Box.far ?_ (show gQ ≠ w.heap.size + 1 + 1 by omega) _ | refine Box.far ?_ (show gQ ≠ w.heap.size + 1 + 1 + 1 by omega) _))
        exact n4
      case e4 => exact bB1 n5
end Go.Proofs.YtpnfgmgoafgcbaaGreat

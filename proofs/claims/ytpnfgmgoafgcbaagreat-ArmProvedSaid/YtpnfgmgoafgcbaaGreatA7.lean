/-
  The texts Moves, Moves2, FloodP, Fl1, SortR in one.
-/
import Derived.Test.YtpnfgmgoafgcbaaGreatTry
import Derived.Test.YtpnfgmgoafgcbaaGreatA4
import Derived.Test.YtpnfgmgoafgcbaaGreatA6
import Derived.Test.YtpnfgmgoafgcbaaGreatA2
import Derived.OwnWalkIn
import Derived.Test.YtpnfgmgoafgcbaaGreatA3
set_option linter.all false
/-
  All moves that may be made (chapter 6): the iterator moves, by its contract.
-/
set_option linter.unusedVariables false
namespace Go.Proofs.YtpnfgmgoafgcbaaGreat
open Go.RowKit Go.Shelf
attribute [local go_sem] Oper.semAt_some
/-- What is handed over at a move: the move, the pose, where its quarters lie. -/
abbrev MvX:=Mv × Ps × Nat × Nat
def kyM (x : MvX) : Mv × Ps:=(x.1,x.2.1)
def tkM (s : Sc) (p : Ps) (i : Nat) : List (Mv × Ps):=(((allM s).take i).filter (mayP s p)).map fun m => (m,mvd p m)
def allK (s : Sc) (p : Ps) : List (Mv × Ps):=(mvs s p).map fun m => (m,mvd p m)
theorem flat2_get {α : Type} (f g : Nat → α) : ∀ (l : List Nat) (j k : Nat),k < 2 → (l.flatMap fun j => [f j,g j])[2 * j + k]? = l[j]?.map fun a => if k = 0 then f a else g a
  | [],j,k,_ => by simp
  | a :: l,0,k,hk => by
    have : k = 0 ∨ k = 1:=by omega
    rcases this with rfl | rfl <;> simp
  | a :: l,j + 1,k,hk => by
    rw [show 2 * (j + 1) + k = 2 * j + k + 2 by omega]
    simpa using flat2_get f g l j k hk
theorem allM_get {s : Sc} {j k : Nat} (hj : j ≤ s.L.length) (hk : k < 2) : (allM s)[2 * j + k]? = some ((j : Int) - 1,if k = 0 then -1 else 1):=by
  unfold allM
  rw [flat2_get _ _ _ _ _ hk]
  rw [List.getElem?_range (by omega)]
  have : k = 0 ∨ k = 1:=by omega
  rcases this with rfl | rfl <;> simp
theorem flat2_len {α : Type} (f g : Nat → α) : ∀ l : List Nat,(l.flatMap fun j => [f j,g j]).length = 2 * l.length
  | [] => rfl
  | a :: l => by simp [flat2_len f g l];omega
theorem allM_len (s : Sc) : (allM s).length = 2 * (s.L.length + 1):=by unfold allM;rw [flat2_len];simp
theorem tkM_step {s : Sc} {p : Ps} {i : Nat} {m : Mv} (h : (allM s)[i]? = some m) : tkM s p (i + 1) = tkM s p i ++ (if mayP s p m then [(m,mvd p m)] else []):=by
  unfold tkM
  rw [List.take_add_one,h]
  by_cases hm : mayP s p m = true
  · simp [hm]
  · simp [hm]
theorem tkM_pre (s : Sc) (p : Ps) (i : Nat) : tkM s p i <+: allK s p:=by
  unfold tkM allK mvs
  exact (((List.take_prefix i (allM s)).filter (mayP s p)).map _)
theorem tkM_all {s : Sc} {p : Ps} {i : Nat} (h : 2 * (s.L.length + 1) ≤ i) : tkM s p i = allK s p:=by
  unfold tkM allK mvs
  rw [List.take_of_length_le (by rw [allM_len];exact h)]
/-- What a body must keep of the arm that the moves are asked of. -/
structure KpM (gA : Nat) (cs : Array Value) (AL AB AQ : Option Addr) (L : List Lk) (B : List Bx) (Q : List Int) (W W' : World) : Prop where
  a : Box W gA 135 cs → Box W' gA 135 cs
  s1 : SlV W AL (L.flatMap lkV) → SlV W' AL (L.flatMap lkV)
  s2 : SlV W AB (B.flatMap bxV) → SlV W' AB (B.flatMap bxV)
  s3 : SlI W AQ Q → SlI W' AQ Q
structure MW (gA U : Nat) (cs : Array Value) (AL AB AQ : Option Addr) (L : List Lk) (B : List Bx) (Q : List Int) (J : List MvX → World → Prop) (pre : List MvX) (W : World) : Prop where
  j : J pre W
  a : Box W gA 135 cs
  s1 : SlV W AL (L.flatMap lkV)
  s2 : SlV W AB (B.flatMap bxV)
  s3 : SlI W AQ Q
  z : U ≤ W.heap.size
theorem MW.below {gA U : Nat} {cs : Array Value} {AL AB AQ : Option Addr} {L : List Lk} {B : List Bx} {Q : List Int} {J : List MvX → World → Prop} {pre : List MvX} {W W' : World} (h : MW gA U cs AL AB AQ L B Q J pre W) (hJ : OwnFrom U J) (hb : Below W.heap.size W W') : MW gA U cs AL AB AQ L B Q J pre W' :=
  ⟨hJ _ _ _ none h.j ⟨hb.os,hb.tape,hb.output,hb.size,fun k hk _ => hb.block k hk⟩ (fun r e => by cases e),h.a.below hb h.a.lt,h.s1.below hb,h.s2.below hb,h.s3.below hb,Nat.le_trans h.z hb.size⟩
/-- What holds at each call of yield. -/
def GdM (n0 : Nat) (tot : List (Mv × Ps)) (pre : List MvX) (x : MvX) (W : World) : Prop:=pre.map kyM ++ [kyM x] <+: tot ∧ SlI W (some ⟨x.2.2.1,0,none⟩) x.2.1.2 ∧ (∃ cs,Box W x.2.2.1 3 cs) ∧ n0 ≤ x.2.2.1
def firstLoopIn : Code → Option Code:=fun c => (firstLoop c).bind firstLoop
noncomputable def mLoop : Code:=(Tryz.f157.body.bind firstLoop).getD .skip
noncomputable def mIn : Code:=(Tryz.f157.body.bind firstLoopIn).getD .skip
theorem moves_in (F : Fence) (n : Nat) (hF : F.fn 116) (hro : F.round = none) (v : Array Value) (w : World) (hv : v.size = 11) :
    CallsIn F n Tryz.prog 116 #[.agg v] w fun e w' => e = .returned (.func (.func 157) #[] #[.pointer (some ⟨w.heap.size,0,none⟩)]) ∧ w.alloc (.cells v 135) = w':=by
  refine callsIn_of_wp Tryz.func116 rfl hF ?_ hro
  simp only [Tryz.ntmps116,List.size_toArray,List.length_cons,List.length_nil,Nat.reduceAdd,Nat.reduceSub,Array.replicate_succ,Array.replicate_zero,List.push_toArray,List.append_toArray,List.nil_append,List.cons_append]
  gi_wp2
  go_ret
  exact ⟨rfl,rfl⟩
set_option maxHeartbeats 4000000 in
set_option maxRecDepth 100000 in
/-- One move tried, and handed over if it may be made. -/
theorem mhalf_c (n l gA U n0 k : Nat) (bx bY sl fx fX fy fY ps mj mb : Int) (L : List Lk) (B : List Bx) (Q : List Int) (AL AB AQ : Option Addr) (cL cB cQ : Nat) (J Jx : List MvX → World → Prop) (tot : List (Mv × Ps)) (PQ : Exit → Act → World → Prop) (hn : 1 ≤ n)
    (hS : SOk (⟨bx,bY,sl,L,(fx,fX,fy,fY),B⟩ : Sc)) (hp : POk (⟨bx,bY,sl,L,(fx,fX,fy,fY),B⟩ : Sc) (ps,Q)) (hk : (k = 0 ∧ mb = -1) ∨ (k = 1 ∧ mb = 1)) (h1 : -1 ≤ mj ∧ mj < L.length) (hJ : OwnFrom U J) (h0U : n0 ≤ U)
    (hY : ∀ pre (x : MvX) W1,J pre W1 → GdM n0 tot pre x W1 → YieldAt Fence.wide (n - 1) Tryz.prog l #[.agg #[.int .i64 x.1.1,.int .i64 x.1.2],.agg #[.int .i64 bx,.int .i64 bY,.int .i64 sl,.slice AL L.length cL,.int .i64 fx,.int .i64 fX,.int .i64 fy,.int .i64 fY,.slice AB B.length cB,.int .i64 x.2.1.1,.slice (some ⟨x.2.2.1,0,none⟩) x.2.1.2.length x.2.2.2]] W1 fun e W' =>
      (e = .returned (.bool true) ∧ J (pre ++ [x]) W' ∧ KpM gA #[.int .i64 bx,.int .i64 bY,.int .i64 sl,.slice AL L.length cL,.int .i64 fx,.int .i64 fX,.int .i64 fy,.int .i64 fY,.slice AB B.length cB,.int .i64 ps,.slice AQ Q.length cQ] AL AB AQ L B Q W1 W' ∧ KeepsFrom U W1 W') ∨ (e = .returned (.bool false) ∧ Jx (pre ++ [x]) W' ∧ KeepsFrom U W1 W'))
    (pre : List MvX) (w : World) (t2 t4 t5 t6 t7 t8 t9 t10 t11 t12 t13 t14 t15 t16 t19 t20 t21 t22 t23 t24 t25 t26 t27 t28 t29 t30 t31 t32 t33 t34 t35 t36 t37 t38 : Value) (hw : MW gA U #[.int .i64 bx,.int .i64 bY,.int .i64 sl,.slice AL L.length cL,.int .i64 fx,.int .i64 fX,.int .i64 fy,.int .i64 fY,.slice AB B.length cB,.int .i64 ps,.slice AQ Q.length cQ] AL AB AQ L B Q J pre w) (hP : pre.map kyM ++ (if mayP (⟨bx,bY,sl,L,(fx,fX,fy,fY),B⟩ : Sc) (ps,Q) (mj,mb) then [((mj,mb),mvd (ps,Q) (mj,mb))] else []) <+: tot)
    (hQ1 : ∀ (pre' : List MvX) (W : World) (t2 t4 t5 t6 t7 t8 t9 t10 t11 t12 t13 t14 t15 t16 t19 t20 t21 t22 t23 t24 t25 t26 t27 t28 t29 t30 t31 t32 t33 t34 t35 t36 t37 t38 : Value),pre'.map kyM = pre.map kyM ++ (if mayP (⟨bx,bY,sl,L,(fx,fX,fy,fY),B⟩ : Sc) (ps,Q) (mj,mb) then [((mj,mb),mvd (ps,Q) (mj,mb))] else []) → MW gA U #[.int .i64 bx,.int .i64 bY,.int .i64 sl,.slice AL L.length cL,.int .i64 fx,.int .i64 fX,.int .i64 fy,.int .i64 fY,.slice AB B.length cB,.int .i64 ps,.slice AQ Q.length cQ] AL AB AQ L B Q J pre' W → PQ .normal ⟨#[Value.func (.yield l) #[] #[],Value.pointer (some ⟨gA,0,none⟩),t2,Value.int .i64 mj,t4,t5,t6,t7,t8,t9,t10,t11,t12,t13,t14,t15,t16,Value.agg #[.int .i64 (-1),.int .i64 1],Value.int .i64 ((k + 1 : Nat) : Int),t19,t20,t21,t22,t23,t24,t25,t26,t27,t28,t29,t30,t31,t32,t33,t34,t35,t36,t37,t38],[]⟩ W)
    (hQ2 : ∀ (pre' : List MvX) (W : World) (t2 t4 t5 t6 t7 t8 t9 t10 t11 t12 t13 t14 t15 t16 t19 t20 t21 t22 t23 t24 t25 t26 t27 t28 t29 t30 t31 t32 t33 t34 t35 t36 t37 t38 : Value),pre'.map kyM <+: tot → Jx pre' W → PQ .ret ⟨#[Value.func (.yield l) #[] #[],Value.pointer (some ⟨gA,0,none⟩),t2,Value.int .i64 mj,t4,t5,t6,t7,t8,t9,t10,t11,t12,t13,t14,t15,t16,Value.agg #[.int .i64 (-1),.int .i64 1],Value.int .i64 ((k : Nat) : Int),t19,t20,t21,t22,t23,t24,t25,t26,t27,t28,t29,t30,t31,t32,t33,t34,t35,t36,t37,t38],[]⟩ W) :
    mIn.wpIn Fence.wide n Tryz.prog PQ ⟨#[Value.func (.yield l) #[] #[],Value.pointer (some ⟨gA,0,none⟩),t2,Value.int .i64 mj,t4,t5,t6,t7,t8,t9,t10,t11,t12,t13,t14,t15,t16,Value.agg #[.int .i64 (-1),.int .i64 1],Value.int .i64 ((k : Nat) : Int),t19,t20,t21,t22,t23,t24,t25,t26,t27,t28,t29,t30,t31,t32,t33,t34,t35,t36,t37,t38],[]⟩ w:=by
  have hL:=hS.len
  dsimp only at hL
  have TRc:=Lib.hid (fun W (h : Below w.heap.size w W) => try_c bx bY sl fx fX fy fY ps mj mb L B Q AL AB AQ cL cB cQ W hS hp h1 (by omega) (hw.s1.below h) (hw.s2.below h) (hw.s3.below h))
  clear hS hp
  generalize mayP (⟨bx,bY,sl,L,(fx,fX,fy,fY),B⟩ : Sc) (ps,Q) (mj,mb) = R at *
  generalize mvd (ps,Q) (mj,mb) = P at *
  obtain ⟨P1,P2⟩:=P
  have i0 : mb = -1 → ∀ w,(Instr.index 22 (.agg #[.int .i64 (-1),.int .i64 1]) (.int .i64 0)).run Tryz.prog w = .ok (.int .i64 mb) w:=fun h _ => by subst h;kernel_rfl
  have i1 : mb = 1 → ∀ w,(Instr.index 22 (.agg #[.int .i64 (-1),.int .i64 1]) (.int .i64 1)).run Tryz.prog w = .ok (.int .i64 mb) w:=fun h _ => by subst h;kernel_rfl
  have HY:=Lib.hid hY
  have HW:=Lib.hid hw
  have HP:=Lib.hid hP
  have HQ1:=Lib.hid hQ1
  have HQ2:=Lib.hid hQ2
  have WA:=hw.a
  have c0:=WA.cell 0;have c1:=WA.cell 1;have c2:=WA.cell 2;have c3:=WA.cell 3;have c4:=WA.cell 4;have c5:=WA.cell 5;have c6:=WA.cell 6;have c7:=WA.cell 7;have c8:=WA.cell 8;have c9:=WA.cell 9;have c10:=WA.cell 10
  simp at c0 c1 c2 c3 c4 c5 c6 c7 c8 c9 c10
  have lA:=WA.lt
  have hz:=hw.z
  clear hw hP hY hQ1 hQ2
  unfold mIn
  conv => arg 4;whnf
  dsimp only
  rcases hk with ⟨rfl,hmb⟩ | ⟨rfl,hmb⟩
  · have ii:=i0 hmb
    clear i0 i1 hmb
    cases R
    · gi_wp2_with (first | (refine ⟨trivial, ?_⟩;gi_at_call 87;refine (callsIn_wide.2 (TRc.out _ (by exact bB0))).mono ?_;rintro e w5 hC;obtain ⟨gQ,capQ,rfl,hgQ,hsQ,⟨csQ,hbQ⟩,hb5⟩:=hC;have hz5 : w.heap.size < w5.heap.size:=(by have:=hb5.size;(try simp at this);omega);have y0 : Box w5 w.heap.size 84 #[.int .i64 mj,.int .i64 mb]:=(by exact bX1 hb5);have u0:=y0.cell 0;have u1:=y0.cell 1;(simp at u0 u1);have hl0:=y0.lt;dsimp only) | fail)
      refine ⟨(fun _ h => by cases h), ?_⟩;gi_wp2;exact HQ1.out pre _ _ _ _ _ _ _ _ _ _ _ _ _ _ _ _ _ _ _ _ _ _ _ _ _ _ _ _ _ _ _ _ _ _ _ (by simp) (HW.out.below hJ (by exact bB1 hb5))
    · gi_wp2_with (first | ((refine ⟨trivial, ?_⟩;gi_at_call 87;refine (callsIn_wide.2 (TRc.out _ (by exact bB0))).mono ?_;rintro e w5 hC;obtain ⟨gQ,capQ,rfl,hgQ,hsQ,⟨csQ,hbQ⟩,hb5⟩:=hC;have hz5 : w.heap.size < w5.heap.size:=(by have:=hb5.size;(try simp at this);omega);have y0 : Box w5 w.heap.size 84 #[.int .i64 mj,.int .i64 mb]:=(by exact bX1 hb5);have u0:=y0.cell 0;have u1:=y0.cell 1;(simp at u0 u1);have hl0:=y0.lt;dsimp only);(obtain ⟨fn,tmps,as1,bd1,hy',hR⟩:=HY.out pre ((mj,mb),(P1,P2),gQ,capQ) (w5.alloc (.cells #[.int .i64 bx,.int .i64 bY,.int .i64 sl,.slice AL L.length cL,.int .i64 fx,.int .i64 fX,.int .i64 fy,.int .i64 fY,.slice AB B.length cB,.int .i64 P1,.slice (some ⟨gQ,0,none⟩) P2.length capQ] 135)) (hJ _ _ _ none HW.out.j (grown_below (by exact bB1 hb5)) (fun r e => by cases e)) ⟨by have:=HP.out;simpa [kyM] using this,hsQ.alloc _,⟨csQ,hbQ.alloc _⟩,(by show n0 ≤ gQ;(try simp at hgQ);omega)⟩;have hM6:=HW.out.below hJ (show Below w.heap.size w (w5.alloc (.cells #[.int .i64 bx,.int .i64 bY,.int .i64 sl,.slice AL L.length cL,.int .i64 fx,.int .i64 fX,.int .i64 fy,.int .i64 fY,.slice AB B.length cB,.int .i64 P1,.slice (some ⟨gQ,0,none⟩) P2.length capQ] 135)) by exact bB1 hb5);dsimp only at hy')) | fail)
      refine hR.mono ?_
      rintro e W3 (⟨rfl,hJ3,hk3,hk4⟩ | ⟨rfl,hJx3,_⟩)
      · gi_wp2
        exact HQ1.out (pre ++ [((mj,mb),(P1,P2),gQ,capQ)]) _ _ _ _ _ _ _ _ _ _ _ _ _ _ _ _ _ _ _ _ _ _ _ _ _ _ _ _ _ _ _ _ _ _ _ (by simp [kyM]) ⟨hJ3,hk3.a hM6.a,hk3.s1 hM6.s1,hk3.s2 hM6.s2,hk3.s3 hM6.s3,Nat.le_trans hM6.z hk4.size⟩
      · gi_wp2
        exact HQ2.out (pre ++ [((mj,mb),(P1,P2),gQ,capQ)]) _ _ _ _ _ _ _ _ _ _ _ _ _ _ _ _ _ _ _ _ _ _ _ _ _ _ _ _ _ _ _ _ _ _ _ (by have:=HP.out;simpa [kyM] using this) hJx3
  · have ii:=i1 hmb
    clear i0 i1 hmb
    cases R
    · gi_wp2_with (first | (refine ⟨trivial, ?_⟩;gi_at_call 87;refine (callsIn_wide.2 (TRc.out _ (by exact bB0))).mono ?_;rintro e w5 hC;obtain ⟨gQ,capQ,rfl,hgQ,hsQ,⟨csQ,hbQ⟩,hb5⟩:=hC;have hz5 : w.heap.size < w5.heap.size:=(by have:=hb5.size;(try simp at this);omega);have y0 : Box w5 w.heap.size 84 #[.int .i64 mj,.int .i64 mb]:=(by exact bX1 hb5);have u0:=y0.cell 0;have u1:=y0.cell 1;(simp at u0 u1);have hl0:=y0.lt;dsimp only) | fail)
      refine ⟨(fun _ h => by cases h), ?_⟩;gi_wp2;exact HQ1.out pre _ _ _ _ _ _ _ _ _ _ _ _ _ _ _ _ _ _ _ _ _ _ _ _ _ _ _ _ _ _ _ _ _ _ _ (by simp) (HW.out.below hJ (by exact bB1 hb5))
    · gi_wp2_with (first | ((refine ⟨trivial, ?_⟩;gi_at_call 87;refine (callsIn_wide.2 (TRc.out _ (by exact bB0))).mono ?_;rintro e w5 hC;obtain ⟨gQ,capQ,rfl,hgQ,hsQ,⟨csQ,hbQ⟩,hb5⟩:=hC;have hz5 : w.heap.size < w5.heap.size:=(by have:=hb5.size;(try simp at this);omega);have y0 : Box w5 w.heap.size 84 #[.int .i64 mj,.int .i64 mb]:=(by exact bX1 hb5);have u0:=y0.cell 0;have u1:=y0.cell 1;(simp at u0 u1);have hl0:=y0.lt;dsimp only);(obtain ⟨fn,tmps,as1,bd1,hy',hR⟩:=HY.out pre ((mj,mb),(P1,P2),gQ,capQ) (w5.alloc (.cells #[.int .i64 bx,.int .i64 bY,.int .i64 sl,.slice AL L.length cL,.int .i64 fx,.int .i64 fX,.int .i64 fy,.int .i64 fY,.slice AB B.length cB,.int .i64 P1,.slice (some ⟨gQ,0,none⟩) P2.length capQ] 135)) (hJ _ _ _ none HW.out.j (grown_below (by exact bB1 hb5)) (fun r e => by cases e)) ⟨by have:=HP.out;simpa [kyM] using this,hsQ.alloc _,⟨csQ,hbQ.alloc _⟩,(by show n0 ≤ gQ;(try simp at hgQ);omega)⟩;have hM6:=HW.out.below hJ (show Below w.heap.size w (w5.alloc (.cells #[.int .i64 bx,.int .i64 bY,.int .i64 sl,.slice AL L.length cL,.int .i64 fx,.int .i64 fX,.int .i64 fy,.int .i64 fY,.slice AB B.length cB,.int .i64 P1,.slice (some ⟨gQ,0,none⟩) P2.length capQ] 135)) by exact bB1 hb5);dsimp only at hy')) | fail)
      refine hR.mono ?_
      rintro e W3 (⟨rfl,hJ3,hk3,hk4⟩ | ⟨rfl,hJx3,_⟩)
      · gi_wp2
        exact HQ1.out (pre ++ [((mj,mb),(P1,P2),gQ,capQ)]) _ _ _ _ _ _ _ _ _ _ _ _ _ _ _ _ _ _ _ _ _ _ _ _ _ _ _ _ _ _ _ _ _ _ _ (by simp [kyM]) ⟨hJ3,hk3.a hM6.a,hk3.s1 hM6.s1,hk3.s2 hM6.s2,hk3.s3 hM6.s3,Nat.le_trans hM6.z hk4.size⟩
      · gi_wp2
        exact HQ2.out (pre ++ [((mj,mb),(P1,P2),gQ,capQ)]) _ _ _ _ _ _ _ _ _ _ _ _ _ _ _ _ _ _ _ _ _ _ _ _ _ _ _ _ _ _ _ _ _ _ _ (by have:=HP.out;simpa [kyM] using this) hJx3
end Go.Proofs.YtpnfgmgoafgcbaaGreat
/-
  All moves that may be made (chapter 6): the rounds of the iterator moves, and its contract.
-/
set_option linter.unusedVariables false
namespace Go.Proofs.YtpnfgmgoafgcbaaGreat
open Go.RowKit Go.Shelf
attribute [local go_sem] Oper.semAt_some
set_option maxHeartbeats 4000000 in
set_option maxRecDepth 100000 in
/-- The rounds over the joints. -/
theorem mrounds_c (n l gA U n0 : Nat) (bx bY sl fx fX fy fY ps : Int) (L : List Lk) (B : List Bx) (Q : List Int) (AL AB AQ : Option Addr) (cL cB cQ : Nat) (J Jx : List MvX → World → Prop) (PQ : Exit → Act → World → Prop) (hn : 1 ≤ n)
    (hS : SOk (⟨bx,bY,sl,L,(fx,fX,fy,fY),B⟩ : Sc)) (hp : POk (⟨bx,bY,sl,L,(fx,fX,fy,fY),B⟩ : Sc) (ps,Q)) (hJ : OwnFrom U J) (h0U : n0 ≤ U)
    (hY : ∀ pre (x : MvX) W1,J pre W1 → GdM n0 (allK (⟨bx,bY,sl,L,(fx,fX,fy,fY),B⟩ : Sc) (ps,Q)) pre x W1 → YieldAt Fence.wide (n - 1) Tryz.prog l #[.agg #[.int .i64 x.1.1,.int .i64 x.1.2],.agg #[.int .i64 bx,.int .i64 bY,.int .i64 sl,.slice AL L.length cL,.int .i64 fx,.int .i64 fX,.int .i64 fy,.int .i64 fY,.slice AB B.length cB,.int .i64 x.2.1.1,.slice (some ⟨x.2.2.1,0,none⟩) x.2.1.2.length x.2.2.2]] W1 fun e W' =>
      (e = .returned (.bool true) ∧ J (pre ++ [x]) W' ∧ KpM gA #[.int .i64 bx,.int .i64 bY,.int .i64 sl,.slice AL L.length cL,.int .i64 fx,.int .i64 fX,.int .i64 fy,.int .i64 fY,.slice AB B.length cB,.int .i64 ps,.slice AQ Q.length cQ] AL AB AQ L B Q W1 W' ∧ KeepsFrom U W1 W') ∨ (e = .returned (.bool false) ∧ Jx (pre ++ [x]) W' ∧ KeepsFrom U W1 W'))
    (hQ1 : ∀ (pre' : List MvX) (W : World) (mj : Int) (t2 t4 t5 t6 t7 t8 t9 t10 t11 t12 t13 t14 t15 t16 t17 t18 t19 t20 t21 t22 t23 t24 t25 t26 t27 t28 t29 t30 t31 t32 t33 t34 t35 t36 t37 t38 : Value),pre'.map kyM = allK (⟨bx,bY,sl,L,(fx,fX,fy,fY),B⟩ : Sc) (ps,Q) → J pre' W → PQ (.exit 0) ⟨#[Value.func (.yield l) #[] #[],Value.pointer (some ⟨gA,0,none⟩),t2,Value.int .i64 mj,t4,t5,t6,t7,t8,t9,t10,t11,t12,t13,t14,t15,t16,t17,t18,t19,t20,t21,t22,t23,t24,t25,t26,t27,t28,t29,t30,t31,t32,t33,t34,t35,t36,t37,t38],[]⟩ W)
    (hQ2 : ∀ (pre' : List MvX) (W : World) (mj : Int) (t2 t4 t5 t6 t7 t8 t9 t10 t11 t12 t13 t14 t15 t16 t17 t18 t19 t20 t21 t22 t23 t24 t25 t26 t27 t28 t29 t30 t31 t32 t33 t34 t35 t36 t37 t38 : Value),pre'.map kyM <+: allK (⟨bx,bY,sl,L,(fx,fX,fy,fY),B⟩ : Sc) (ps,Q) → Jx pre' W → PQ .ret ⟨#[Value.func (.yield l) #[] #[],Value.pointer (some ⟨gA,0,none⟩),t2,Value.int .i64 mj,t4,t5,t6,t7,t8,t9,t10,t11,t12,t13,t14,t15,t16,t17,t18,t19,t20,t21,t22,t23,t24,t25,t26,t27,t28,t29,t30,t31,t32,t33,t34,t35,t36,t37,t38],[]⟩ W) :
    ∀ (m j : Nat) (mj : Int) (pre : List MvX) (w : World) (t2 t4 t5 t6 t7 t8 t9 t10 t11 t12 t13 t14 t15 t16 t17 t18 t19 t20 t21 t22 t23 t24 t25 t26 t27 t28 t29 t30 t31 t32 t33 t34 t35 t36 t37 t38 : Value),mj = (j : Int) - 1 → MW gA U #[.int .i64 bx,.int .i64 bY,.int .i64 sl,.slice AL L.length cL,.int .i64 fx,.int .i64 fX,.int .i64 fy,.int .i64 fY,.slice AB B.length cB,.int .i64 ps,.slice AQ Q.length cQ] AL AB AQ L B Q J pre w → pre.map kyM = tkM (⟨bx,bY,sl,L,(fx,fX,fy,fY),B⟩ : Sc) (ps,Q) (2 * j) → j ≤ L.length + 1 → L.length + 1 < j + m →
      Code.roundsIn Fence.wide n Tryz.prog mLoop PQ m ⟨#[Value.func (.yield l) #[] #[],Value.pointer (some ⟨gA,0,none⟩),t2,Value.int .i64 mj,t4,t5,t6,t7,t8,t9,t10,t11,t12,t13,t14,t15,t16,t17,t18,t19,t20,t21,t22,t23,t24,t25,t26,t27,t28,t29,t30,t31,t32,t33,t34,t35,t36,t37,t38],[]⟩ w:=by
  have hL:=hS.len
  dsimp only at hL
  intro m
  induction m with
  | zero =>
    intro j mj pre w t2 t4 t5 t6 t7 t8 t9 t10 t11 t12 t13 t14 t15 t16 t17 t18 t19 t20 t21 t22 t23 t24 t25 t26 t27 t28 t29 t30 t31 t32 t33 t34 t35 t36 t37 t38 hmj hw hp2 h1 h2
    omega
  | succ m ih =>
    intro j mj pre w t2 t4 t5 t6 t7 t8 t9 t10 t11 t12 t13 t14 t15 t16 t17 t18 t19 t20 t21 t22 t23 t24 t25 t26 t27 t28 t29 t30 t31 t32 t33 t34 t35 t36 t37 t38 hmj hw hp2 hj hm
    rw [roundsIn_succ]
    unfold mLoop
    conv => arg 4;whnf
    dsimp only
    have WA:=hw.a
    have c0:=WA.cell 0;have c1:=WA.cell 1;have c2:=WA.cell 2;have c3:=WA.cell 3;have c4:=WA.cell 4;have c5:=WA.cell 5;have c6:=WA.cell 6;have c7:=WA.cell 7;have c8:=WA.cell 8;have c9:=WA.cell 9;have c10:=WA.cell 10
    simp at c0 c1 c2 c3 c4 c5 c6 c7 c8 c9 c10
    have lA:=WA.lt
    by_cases hlt : mj < (L.length : Int)
    · have hj' : j ≤ L.length:=by omega
      have s0 : tkM (⟨bx,bY,sl,L,(fx,fX,fy,fY),B⟩ : Sc) (ps,Q) (2 * j + 1) = tkM (⟨bx,bY,sl,L,(fx,fX,fy,fY),B⟩ : Sc) (ps,Q) (2 * j) ++ (if mayP (⟨bx,bY,sl,L,(fx,fX,fy,fY),B⟩ : Sc) (ps,Q) (mj,-1) then [((mj,-1),mvd (ps,Q) (mj,-1))] else []):=by
        subst hmj;exact tkM_step (s:=(⟨bx,bY,sl,L,(fx,fX,fy,fY),B⟩ : Sc)) (i:=2 * j) (allM_get (s:=(⟨bx,bY,sl,L,(fx,fX,fy,fY),B⟩ : Sc)) (j:=j) (k:=0) hj' (by omega))
      have s1 : tkM (⟨bx,bY,sl,L,(fx,fX,fy,fY),B⟩ : Sc) (ps,Q) (2 * (j + 1)) = tkM (⟨bx,bY,sl,L,(fx,fX,fy,fY),B⟩ : Sc) (ps,Q) (2 * j + 1) ++ (if mayP (⟨bx,bY,sl,L,(fx,fX,fy,fY),B⟩ : Sc) (ps,Q) (mj,1) then [((mj,1),mvd (ps,Q) (mj,1))] else []):=by
        subst hmj;exact tkM_step (s:=(⟨bx,bY,sl,L,(fx,fX,fy,fY),B⟩ : Sc)) (i:=2 * j + 1) (allM_get (s:=(⟨bx,bY,sl,L,(fx,fX,fy,fY),B⟩ : Sc)) (j:=j) (k:=1) hj' (by omega))
      have S0:=Lib.hid s0
      have S1:=Lib.hid s1
      have HP2:=Lib.hid hp2
      have HW:=Lib.hid hw
      have v1 : IntKind.i64.wrap (mj + 1) = mj + 1:=IntWalk.i64_in _ (by omega)
      have hge : -1 ≤ mj:=by omega
      have HMJ:=Lib.hid hmj
      clear s0 s1 hp2 hw hmj
      gi_wp2
      refine wpIn_loop_rounds 3 ?_
      rw [roundsIn_succ]
      refine mhalf_c n l gA U n0 0 bx bY sl fx fX fy fY ps mj (-1) L B Q AL AB AQ cL cB cQ J Jx (allK (⟨bx,bY,sl,L,(fx,fX,fy,fY),B⟩ : Sc) (ps,Q)) _ hn hS hp (.inl ⟨rfl,rfl⟩) ⟨hge,hlt⟩ hJ h0U hY pre w _ _ _ _ _ _ _ _ _ _ _ _ _ _ _ _ _ _ _ _ _ _ _ _ _ _ _ _ _ _ _ _ _ _ HW.out ?p1 ?q1 ?q2
      case p1 => rw [HP2.out,← S0.out];exact tkM_pre _ _ _
      case q2 =>
        intro pre' W t2 t4 t5 t6 t7 t8 t9 t10 t11 t12 t13 t14 t15 t16 t19 t20 t21 t22 t23 t24 t25 t26 t27 t28 t29 t30 t31 t32 t33 t34 t35 t36 t37 t38 h1 h2
        exact hQ2 pre' W mj _ _ _ _ _ _ _ _ _ _ _ _ _ _ _ _ _ _ _ _ _ _ _ _ _ _ _ _ _ _ _ _ _ _ _ _ h1 h2
      case q1 =>
        intro pre1 w1 t2 t4 t5 t6 t7 t8 t9 t10 t11 t12 t13 t14 t15 t16 t19 t20 t21 t22 t23 t24 t25 t26 t27 t28 t29 t30 t31 t32 t33 t34 t35 t36 t37 t38 hp1 hw1
        rw [HP2.out,← S0.out] at hp1
        have HP1:=Lib.hid hp1
        clear hp1
        change Code.roundsIn _ _ _ _ _ 2 _ _
        rw [roundsIn_succ]
        refine mhalf_c n l gA U n0 1 bx bY sl fx fX fy fY ps mj 1 L B Q AL AB AQ cL cB cQ J Jx (allK (⟨bx,bY,sl,L,(fx,fX,fy,fY),B⟩ : Sc) (ps,Q)) _ hn hS hp (.inr ⟨rfl,rfl⟩) ⟨hge,hlt⟩ hJ h0U hY pre1 w1 _ _ _ _ _ _ _ _ _ _ _ _ _ _ _ _ _ _ _ _ _ _ _ _ _ _ _ _ _ _ _ _ _ _ hw1 ?p3 ?q3 ?q4
        case p3 => rw [HP1.out,← S1.out];exact tkM_pre _ _ _
        case q4 =>
          intro pre' W t2 t4 t5 t6 t7 t8 t9 t10 t11 t12 t13 t14 t15 t16 t19 t20 t21 t22 t23 t24 t25 t26 t27 t28 t29 t30 t31 t32 t33 t34 t35 t36 t37 t38 h1 h2
          exact hQ2 pre' W mj _ _ _ _ _ _ _ _ _ _ _ _ _ _ _ _ _ _ _ _ _ _ _ _ _ _ _ _ _ _ _ _ _ _ _ _ h1 h2
        case q3 =>
          intro pre2 w2 t2 t4 t5 t6 t7 t8 t9 t10 t11 t12 t13 t14 t15 t16 t19 t20 t21 t22 t23 t24 t25 t26 t27 t28 t29 t30 t31 t32 t33 t34 t35 t36 t37 t38 hp3 hw2
          rw [HP1.out,← S1.out] at hp3
          have HP3:=Lib.hid hp3
          have HW2:=Lib.hid hw2
          clear hp3 hw2 hw1
          change Code.roundsIn _ _ _ _ _ 1 _ _
          rw [roundsIn_succ]
          gi_wp2
          exact ih (j + 1) (mj + 1) pre2 w2 _ _ _ _ _ _ _ _ _ _ _ _ _ _ _ _ _ _ _ _ _ _ _ _ _ _ _ _ _ _ _ _ _ _ _ _ (by have:=HMJ.out;omega) HW2.out HP3.out (by omega) (by omega)
    · have e : tkM (⟨bx,bY,sl,L,(fx,fX,fy,fY),B⟩ : Sc) (ps,Q) (2 * j) = allK (⟨bx,bY,sl,L,(fx,fX,fy,fY),B⟩ : Sc) (ps,Q):=tkM_all (by show 2 * (L.length + 1) ≤ 2 * j;omega)
      rw [e] at hp2
      have HP2:=Lib.hid hp2
      have HJ:=Lib.hid hw.j
      clear hw e hp2 hmj
      gi_wp2
      exact hQ1 pre w mj _ _ _ _ _ _ _ _ _ _ _ _ _ _ _ _ _ _ _ _ _ _ _ _ _ _ _ _ _ _ _ _ _ _ _ _ HP2.out HJ.out
set_option maxHeartbeats 4000000 in
set_option maxRecDepth 100000 in
/-- All moves that may be made from a pose, one after the other, each with the arm behind it. -/
theorem moves1_seq (n gA : Nat) (bx bY sl fx fX fy fY ps : Int) (L : List Lk) (B : List Bx) (Q : List Int) (AL AB AQ : Option Addr) (cL cB cQ : Nat) (w : World) (hn : 1 ≤ n)
    (hS : SOk (⟨bx,bY,sl,L,(fx,fX,fy,fY),B⟩ : Sc)) (hp : POk (⟨bx,bY,sl,L,(fx,fX,fy,fY),B⟩ : Sc) (ps,Q)) (hs1 : SlV w AL (L.flatMap lkV)) (hs2 : SlV w AB (B.flatMap bxV)) (hs3 : SlI w AQ Q) (hA : Box w gA 135 #[.int .i64 bx,.int .i64 bY,.int .i64 sl,.slice AL L.length cL,.int .i64 fx,.int .i64 fX,.int .i64 fy,.int .i64 fY,.slice AB B.length cB,.int .i64 ps,.slice AQ Q.length cQ]) :
    SeqG Fence.wide n Tryz.prog 157 #[.pointer (some ⟨gA,0,none⟩)] (fun x : MvX => #[.agg #[.int .i64 x.1.1,.int .i64 x.1.2],.agg #[.int .i64 bx,.int .i64 bY,.int .i64 sl,.slice AL L.length cL,.int .i64 fx,.int .i64 fX,.int .i64 fy,.int .i64 fY,.slice AB B.length cB,.int .i64 x.2.1.1,.slice (some ⟨x.2.2.1,0,none⟩) x.2.1.2.length x.2.2.2]]) (KpM gA #[.int .i64 bx,.int .i64 bY,.int .i64 sl,.slice AL L.length cL,.int .i64 fx,.int .i64 fX,.int .i64 fy,.int .i64 fY,.slice AB B.length cB,.int .i64 ps,.slice AQ Q.length cQ] AL AB AQ L B Q) (GdM w.heap.size (allK (⟨bx,bY,sl,L,(fx,fX,fy,fY),B⟩ : Sc) (ps,Q))) (fun _ _ => False)
      (fun xs => xs.map kyM = allK (⟨bx,bY,sl,L,(fx,fX,fy,fY),B⟩ : Sc) (ps,Q)) (fun pre => pre.map kyM <+: allK (⟨bx,bY,sl,L,(fx,fX,fy,fY),B⟩ : Sc) (ps,Q)) w:=by
  intro l J Jx W hW hJ hJx hJS hY h0
  have lw:=hW.size
  have hL:=hS.len
  dsimp only at hL
  have M0 : MW gA W.heap.size #[.int .i64 bx,.int .i64 bY,.int .i64 sl,.slice AL L.length cL,.int .i64 fx,.int .i64 fX,.int .i64 fy,.int .i64 fY,.slice AB B.length cB,.int .i64 ps,.slice AQ Q.length cQ] AL AB AQ L B Q J [] W:=⟨h0,hA.below hW hA.lt,hs1.below hW,hs2.below hW,hs3.below hW,Nat.le_refl _⟩
  have HM0:=Lib.hid M0
  clear M0 h0 hs1 hs2 hs3 hA
  refine callsIn_of_wp Tryz.func157 rfl trivial ?_ rfl
  simp only [Tryz.ntmps157,List.size_toArray,List.length_cons,List.length_nil,Nat.reduceAdd,Nat.reduceSub,Array.replicate_succ,Array.replicate_zero,List.push_toArray,List.append_toArray,List.nil_append,List.cons_append]
  gi_wp2
  refine wpIn_loop_rounds (L.length + 2) ?_
  refine mrounds_c n l gA W.heap.size w.heap.size bx bY sl fx fX fy fY ps L B Q AL AB AQ cL cB cQ J Jx _ hn hS hp hJ lw hY ?q1 ?q2 (L.length + 2) 0 (-1) [] W _ _ _ _ _ _ _ _ _ _ _ _ _ _ _ _ _ _ _ _ _ _ _ _ _ _ _ _ _ _ _ _ _ _ _ _ (by simp) HM0.out (by simp [tkM]) (by omega) (by omega)
  case q1 =>
    intro pre' W1 mj t2 t4 t5 t6 t7 t8 t9 t10 t11 t12 t13 t14 t15 t16 t17 t18 t19 t20 t21 t22 t23 t24 t25 t26 t27 t28 t29 t30 t31 t32 t33 t34 t35 t36 t37 t38 h1 h2
    gi_wp2
    go_end0
    exact ⟨⟨_,rfl⟩,.inl ⟨pre',h1,h2⟩⟩
  case q2 =>
    intro pre' W1 mj t2 t4 t5 t6 t7 t8 t9 t10 t11 t12 t13 t14 t15 t16 t17 t18 t19 t20 t21 t22 t23 t24 t25 t26 t27 t28 t29 t30 t31 t32 t33 t34 t35 t36 t37 t38 h1 h2
    (try simp only [Exit.inBlock,Exit.then])
    refine bodyPost_ret (results_none rfl _ _ _) rfl ?_
    exact ⟨⟨_,rfl⟩,.inr ⟨pre',h1,h2⟩⟩
end Go.Proofs.YtpnfgmgoafgcbaaGreat
/-
  The search over poses in plain words (chapter 6): all poses of a scene, the flood.
-/
set_option linter.unusedVariables false
namespace Go.Proofs.YtpnfgmgoafgcbaaGreat
open Go.RowKit
/-- All lists of quarters within the links' ranges; all poses of a scene. -/
def upto (lo : Int) (n : Nat) : List Int:=(List.range n).map fun (k : Nat) => lo + k
theorem mem_upto {lo x : Int} {n : Nat} : x ∈ upto lo n ↔ lo ≤ x ∧ x < lo + n:=by
  simp only [upto,List.mem_map,List.mem_range]
  constructor
  · rintro ⟨k,hk,rfl⟩;omega
  · intro h;exact ⟨(x - lo).toNat,by omega,by omega⟩
def alQ : List Lk → List (List Int)
  | [] => [[]]
  | l :: L => (upto l.2.1 (l.2.2 - l.2.1 + 1).toNat).flatMap fun q => (alQ L).map fun Q => q :: Q
theorem mem_alQ : ∀ {L : List Lk} {Q : List Int},Q.length = L.length → qsOk L Q = true → Q ∈ alQ L
  | [],[],_,_ => by simp [alQ]
  | l :: L,q :: Q,hn,h => by
    simp only [qsOk,Bool.and_eq_true,inLk,inB,decide_eq_true_eq] at h
    simp only [alQ,List.mem_flatMap,List.mem_map]
    exact ⟨q,mem_upto.2 (by omega),Q,mem_alQ (by simpa using hn) h.2,rfl⟩
  | [],q :: Q,hn,_ => by simp at hn
  | l :: L,[],hn,_ => by simp at hn
def alP (s : Sc) : List Ps:=(upto 0 (s.sl + 1).toNat).flatMap fun x => (alQ s.L).map fun Q => (x,Q)
theorem mem_alP {s : Sc} {p : Ps} (h : POk s p) : p ∈ alP s:=by
  have h1:=h.sl
  simp only [alP,List.mem_flatMap,List.mem_map]
  exact ⟨p.1,mem_upto.2 (by omega),p.2,mem_alQ h.len h.qs,rfl⟩
/-- The keys of poses of one scene tell them apart. -/
theorem kyP_inj {s : Sc} {p q : Ps} (hS : SOk s) (hp : POk s p) (hq : POk s q) (h : kyP p = kyP q) : p = q:=by
  obtain ⟨a,P⟩:=p
  obtain ⟨b,Q⟩:=q
  have hl:=hS.len
  have h1:=hp.len;have h2:=hq.len
  simp only [kyP,Prod.mk.injEq] at h h1 h2
  obtain ⟨h0,ha,hb,hc⟩:=h
  have hPQ : P.length = Q.length:=by omega
  refine Prod.ext h0 (List.ext_getElem? fun i => ?_)
  show P[i]? = Q[i]?
  by_cases hi : i < P.length
  · have e : ∀ (X : List Int) (h : i < X.length),X[i]? = some (X.getD i 0):=fun X h => by simp [List.getD_eq_getElem?_getD,h]
    rw [e P hi,e Q (by omega)]
    have : i = 0 ∨ i = 1 ∨ i = 2:=by omega
    rcases this with rfl | rfl | rfl
    · rw [ha]
    · rw [hb]
    · rw [hc]
  · rw [List.getElem?_eq_none (by omega),List.getElem?_eq_none (by omega)]
/-- The search: the numbers of moves by key, and the poses in the order in which they are found. -/
abbrev Fl:=List (Ky × Int) × List Ps
def fl1 (d : Int) (a : Fl) (p : Ps) : Fl:=if (lkp a.1 (kyP p)).isSome then a else (a.1 ++ [(kyP p,d + 1)],a.2 ++ [p])
def nbs (s : Sc) (p : Ps) : List Ps:=(mvs s p).map (mvd p)
def flx (s : Sc) (a : Fl) (p : Ps) : Fl:=(nbs s p).foldl (fl1 ((lkp a.1 (kyP p)).getD 0)) a
def flF (s : Sc) : Nat → Nat → Fl → Fl
  | 0,_,a => a
  | m + 1,i,a => match a.2[i]? with
    | none => a
    | some p => flF s m (i + 1) (flx s a p)
def fl0 (b : List Ps) : Fl:=(b.map fun p => (kyP p,0),b)
def floodP (s : Sc) (b : List Ps) : Fl:=flF s ((alP s).length + 1) 0 (fl0 b)
/-- What holds all along. -/
structure FlI (s : Sc) (a : Fl) : Prop where
  keys : a.1.map (·.1) = a.2.map kyP
  nd : a.2.Nodup
  ok : ∀ p ∈ a.2,POk s p
theorem lkp_none {es : List (Ky × Int)} {k : Ky} : lkp es k = none ↔ k ∉ es.map (·.1):=by
  simp only [lkp,Option.map_eq_none_iff,List.find?_eq_none,decide_eq_true_eq,List.mem_map,not_exists,not_and]
  exact ⟨fun h x hx e => h x hx e.symm,fun h x hx e => h x hx e.symm⟩
theorem lkp_some_app {es es' : List (Ky × Int)} {k : Ky} {v : Int} (h : lkp es k = some v) : lkp (es ++ es') k = some v:=by rw [lkp_app,h];rfl
theorem nodup_le {α : Type} [DecidableEq α] : ∀ (l m : List α),l.Nodup → (∀ x ∈ l,x ∈ m) → l.length ≤ m.length
  | [],_,_,_ => Nat.zero_le _
  | x :: l,m,hn,h => by
    have hx:=h x (by simp)
    have hn:=List.nodup_cons.1 hn
    have ih:=nodup_le l (m.erase x) hn.2 (fun y hy => (List.mem_erase_of_ne (by rintro rfl;exact hn.1 hy)).2 (h y (by simp [hy])))
    rw [List.length_erase_of_mem hx] at ih
    have:=List.length_pos_of_mem hx
    simp only [List.length_cons]
    omega
theorem FlI.len {s : Sc} {a : Fl} (h : FlI s a) : a.2.length ≤ (alP s).length:=nodup_le _ _ h.nd (fun p hp => mem_alP (h.ok p hp))
theorem FlI.step {s : Sc} {a : Fl} (h : FlI s a) {p : Ps} (hp : POk s p) (d : Int) : FlI s (fl1 d a p):=by
  unfold fl1
  split
  · exact h
  · rename_i hn
    have hn : lkp a.1 (kyP p) = none:=by simpa using hn
    have hk:=lkp_none.1 hn
    rw [h.keys] at hk
    have hm : p ∉ a.2:=fun hm => hk (List.mem_map_of_mem hm)
    refine ⟨by simp [h.keys], ?_,fun q hq => ?_⟩
    · rw [List.nodup_append]
      exact ⟨h.nd,by simp,fun x hx y hy e => by
        have : y = p:=by simpa using hy
        subst this;subst e;exact hm hx⟩
    · rcases List.mem_append.1 hq with hq | hq
      · exact h.ok q hq
      · have : q = p:=by simpa using hq
        subst this;exact hp
theorem mayP_ok {s : Sc} {p : Ps} {m : Mv} (hp : POk s p) (h : mayP s p m = true) : POk s (mvd p m):=by
  simp only [mayP,Bool.and_eq_true,beq_iff_eq] at h
  exact mvd_ok hp h.1.1
theorem nbs_ok {s : Sc} {p q : Ps} (hp : POk s p) (h : q ∈ nbs s p) : POk s q:=by
  obtain ⟨m,hm,rfl⟩:=List.mem_map.1 h
  exact mayP_ok hp (List.mem_filter.1 hm).2
theorem FlI.steps {s : Sc} (d : Int) : ∀ (l : List Ps) (a : Fl),FlI s a → (∀ p ∈ l,POk s p) → FlI s (l.foldl (fl1 d) a)
  | [],_,h,_ => h
  | p :: l,a,h,hl => FlI.steps d l _ (h.step (hl p (by simp)) d) (fun q hq => hl q (by simp [hq]))
theorem FlI.exp {s : Sc} {a : Fl} (h : FlI s a) {p : Ps} (hp : POk s p) : FlI s (flx s a p):=h.steps _ _ _ (fun _ hq => nbs_ok hp hq)
theorem fl1_pre (d : Int) (a : Fl) (p : Ps) : a.2 <+: (fl1 d a p).2 ∧ a.1 <+: (fl1 d a p).1:=by
  unfold fl1
  split
  · exact ⟨List.prefix_rfl,List.prefix_rfl⟩
  · exact ⟨List.prefix_append _ _,List.prefix_append _ _⟩
theorem fls_pre (d : Int) : ∀ (l : List Ps) (a : Fl),a.2 <+: (l.foldl (fl1 d) a).2 ∧ a.1 <+: (l.foldl (fl1 d) a).1
  | [],a => ⟨List.prefix_rfl,List.prefix_rfl⟩
  | p :: l,a => ⟨(fl1_pre d a p).1.trans (fls_pre d l _).1,(fl1_pre d a p).2.trans (fls_pre d l _).2⟩
theorem fl0_ok {s : Sc} {b : List Ps} (hn : b.Nodup) (hb : ∀ p ∈ b,POk s p) : FlI s (fl0 b):=⟨by simp [fl0],hn,hb⟩
/-- Rounds behind the last pose change nothing. -/
theorem flF_end {s : Sc} {m i : Nat} {a : Fl} (h : a.2.length ≤ i) : flF s m i a = a:=by
  cases m with
  | zero => rfl
  | succ m => unfold flF;rw [List.getElem?_eq_none h]
theorem flF_step {s : Sc} {m i : Nat} {a : Fl} {p : Ps} (h : a.2[i]? = some p) : flF s (m + 1) i a = flF s m (i + 1) (flx s a p):=by
  rw [flF,h]
end Go.Proofs.YtpnfgmgoafgcbaaGreat
/-
  What the blocks of flood hold (chapter 6).
-/
set_option linter.unusedVariables false
namespace Go.Proofs.YtpnfgmgoafgcbaaGreat
open Go.RowKit Go.Shelf
/-- An arm of the search: the pose, where its quarters lie, their capacity. -/
abbrev Ar:=Ps × Option Addr × Nat
def arV (s : Sc) (AL AB : Option Addr) (cL cB : Nat) (x : Ar) : List Value:=[.int .i64 s.bx,.int .i64 s.bY,.int .i64 s.sl,.slice AL s.L.length cL,.int .i64 s.F.1,.int .i64 s.F.2.1,.int .i64 s.F.2.2.1,.int .i64 s.F.2.2.2,.slice AB s.B.length cB,.int .i64 x.1.1,.slice x.2.1 x.1.2.length x.2.2]
/-- The quarters lie below block U, or in a block of ints. -/
def QOk (U : Nat) (x : Ar) (W : World) : Prop:=SlI W x.2.1 x.1.2 ∧ ∃ b off,x.2.1 = some ⟨b,off,none⟩ ∧ (b < U ∨ ∃ cs,Box W b 3 cs)
/-- The block of the row that the variable in block h holds. -/
def rowB (h : Nat) (W : World) : Option Nat:=match W.cell? ⟨h,0,none⟩ with
  | some (.slice (some a) _ _) => some a.block
  | _ => none
theorem rowB_box {h g off n c : Nat} {W : World} {t : TypeId} (hb : Box W h t #[.slice (some ⟨g,off,none⟩) n c]) : rowB h W = some g:=by
  have:=hb.cell 0
  simp at this
  simp [rowB,this]
/-- A step of the search turns the variable's block, the map's block and the row alone; the row may move to a new block. -/
structure FStep (h : Nat) (X Y : World) : Prop where
  size : X.heap.size ≤ Y.heap.size
  same : ∀ k,k < X.heap.size → k ≠ h → k ≠ h + 1 → rowB h X ≠ some k → Y.heap[k]? = X.heap[k]?
  row : ∀ r,rowB h Y = some r → rowB h X = some r ∨ X.heap.size ≤ r
theorem FStep.trans {h : Nat} {X Y Z : World} (a : FStep h X Y) (b : FStep h Y Z) : FStep h X Z :=
  ⟨Nat.le_trans a.size b.size,fun k hk h1 h2 h3 => (b.same k (Nat.lt_of_lt_of_le hk a.size) h1 h2 (fun e => by
      rcases a.row k e with e | e
      · exact h3 e
      · omega)).trans (a.same k hk h1 h2 h3),
    fun r e => by
      rcases b.row r e with e | e
      · exact a.row r e
      · exact .inr (Nat.le_trans a.size e)⟩
theorem rowB_same {h : Nat} {X Y : World} (e : Y.heap[h]? = X.heap[h]?) : rowB h Y = rowB h X:=by
  unfold rowB World.cell?
  simp only [e]
theorem FStep.of_below {h : Nat} {X Y : World} (hh : h < X.heap.size) (hb : Below X.heap.size X Y) : FStep h X Y :=
  ⟨hb.size,fun k hk _ _ _ => hb.block k hk,fun r e => .inl (by rw [rowB_same (hb.block h hh)] at e;exact e)⟩
theorem FStep.put {h : Nat} (W : World) (o : Obj) : FStep h W (W.putObj (h + 1) o) :=
  ⟨by simp [World.putObj],fun k _ _ h2 _ => World.putObj_heap_other h2,fun r e => .inl (by rw [rowB_same (World.putObj_heap_other (by omega))] at e;exact e)⟩
theorem FStep.box {h g : Nat} {X Y : World} {t : TypeId} {cs : Array Value} (a : FStep h X Y) (hb : Box X g t cs) (h1 : g ≠ h) (h2 : g ≠ h + 1) (h3 : rowB h X ≠ some g) : Box Y g t cs:=(a.same g hb.lt h1 h2 h3).trans hb
theorem cell_same {X Y : World} {b : Nat} (e : Y.heap[b]? = X.heap[b]?) (j : Nat) : Y.cell? ⟨b,j,none⟩ = X.cell? ⟨b,j,none⟩:=by
  unfold World.cell?
  simp only [e]
theorem QOk.same {U : Nat} {x : Ar} {X Y : World} (h : QOk U x X) (hs : X.heap.size ≤ Y.heap.size) (he : ∀ b off,x.2.1 = some ⟨b,off,none⟩ → b < X.heap.size → Y.heap[b]? = X.heap[b]?) : QOk U x Y:=by
  obtain ⟨h1,b,off,hA,h2⟩:=h
  refine ⟨fun j u hj => ?_,b,off,hA, ?_⟩
  · obtain ⟨b',off',e,hlt,hc⟩:=h1 j u hj
    exact ⟨b',off',e,Nat.lt_of_lt_of_le hlt hs,(cell_same (he b' off' e hlt) _).trans hc⟩
  · rcases h2 with h2 | ⟨cs,h2⟩
    · exact .inl h2
    · exact .inr ⟨cs,(he b off hA h2.lt).trans h2⟩
/-- A step keeps the quarters. -/
theorem QOk.step {U h : Nat} {x : Ar} {X Y : World} {A : Option Addr} {n c : Nat} {t : TypeId} {l : List Value} (hx : QOk U x X) (hU : U ≤ h) (a : FStep h X Y) (hbx : Box X h 162 #[.slice A n c]) (ho : X.ownsRow U t 11 (.slice A n c) n l) (ht : t ≠ 3) (hm : ∃ es,KMap X (h + 1) es) : QOk U x Y:=by
  refine hx.same a.size fun b off hA hlt => ?_
  have hq:=hx.2
  obtain ⟨b',off',hA',h2⟩:=hq
  rw [hA] at hA'
  cases hA'
  obtain ⟨es,hm⟩:=hm
  have hrow : rowB h X ≠ some b:=by
    intro e
    rcases ho.2 with ⟨e1,_⟩ | ⟨g,cap,cur,e1,hg,hh,_⟩
    · rw [e1] at hbx
      have:=hbx.cell 0
      simp at this
      simp [rowB,this] at e
    · rw [e1] at hbx
      rw [rowB_box hbx] at e
      cases e
      rcases h2 with h2 | ⟨cs,h2⟩
      · omega
      · have h3:=(show X.heap[_]? = _ from h2).symm.trans hh
        cases h3
        exact ht rfl
  refine a.same b hlt ?_ ?_ hrow
  · rintro rfl
    rcases h2 with h2 | ⟨cs,h2⟩
    · omega
    · have h3:=(show X.heap[_]? = _ from h2).symm.trans hbx
      cases h3
  · rintro rfl
    rcases h2 with h2 | ⟨cs,h2⟩
    · omega
    · exact hm.ne_box h2 rfl
theorem infoA : infoOk Tryz.prog 135 11 136 = true:=by kernel_rfl
theorem cells_new (w : World) (xs : List Value) (t : TypeId) : ∀ j u,xs[j]? = some u → (w.alloc (.cells xs.toArray t)).cell? ((⟨w.heap.size,0,none⟩ : Addr).add j) = some u:=by
  intro j u h
  have h1:=(Box.new w t xs.toArray).cell j
  by_cases hj : j = 0
  · subst hj
    simp only [Addr.add]
    rw [if_pos trivial,h1]
    simpa using h
  · simp only [Addr.add,Nat.zero_add,if_neg hj]
    rw [h1]
    simpa using h
theorem wpListIn_append_own_at {F : Fence} {n : Nat} {P : Program} (w : World) {ops : Array Oper} {rest : List Oper} {o : Oper} {a : Act} {Q : Exit → Act → World → Prop}
    (hg : o.guard = none) (s x : Operand) (t : TypeId) (hop : o.op = Op.call { callee:=Callee.builtin Builtin.append,args:=#[s,x],argTypes:=#[t,t] })
    (base : Nat) (e : TypeId) (i : TypeInfo) (z : Value) (size bytes : Nat) (h1 : P.underlying t = some (.slice e)) (h2 : P.info? e = some i) (h3 : i.zero = some z) (h4 : i.size = size) (h5 : i.bytes = bytes) (h6 : z.cells.size = size) (h7 : 0 < size)
    (v : Value) (k : Nat) (xs : List Value) (hs : a.eval s = v) (hown : w.ownsRow base e size v k xs) (ad : Addr) (m c : Nat) (news : List Value) (hx : a.eval x = .slice (some ad) m c) (hn : news.length = m * size)
    (hc : ∀ j u,news[j]? = some u → w.cell? (ad.add j) = some u) (h1c : ∀ u ∈ news,u.oneCell' = true) (b1 : k + m ≤ maxLen) (b2 : (k + m) * bytes ≤ 140737488355328) (b3 : base ≤ w.heap.size)
    (hK : ∀ v' w',w'.ownsRow base e size v' (k + m) (xs ++ news) → w.grownBy w' v.ownBlock → (v' = .slice none 0 0 ↔ v = .slice none 0 0 ∧ m = 0) → (v'.ownBlock = v.ownBlock ∨ v'.ownBlock = some w.heap.size) → wpListIn F n P ops Q rest (a.put o.dst v') w') :
    wpListIn F n P ops Q (o :: rest) a w:=by
  refine wpListIn_plain hg fun K hK' => ?_
  obtain ⟨v',w',hrun,r1,r2,r3,r4⟩:=run_append_own_at (P:=P) w base t o.type e i z size bytes h1 h2 h3 h4 h5 h6 h7 v k xs hown ad m c news hn hc h1c b1 b2 b3
  unfold Oper.wpIn
  refine ⟨?_, ?_⟩
  · simp [Oper.about,hop,resolve,Target.leads,Sem.run_pure]
  · rw [Oper.semAt_plain F _ _ (by rw [hop];intro c hc';cases hc')]
    simp [execOp,hop,resolve,invoke,builtin,hs,hx,hrun,Result.andThen]
    exact hK' _ _ (hK v' w' r1 r2 r3 r4)
theorem box_gr {w w' : World} {g b : Nat} {t : TypeId} {cs : Array Value} (h : Box w g t cs) (hg : w.grownBy w' (some b)) (hne : g ≠ b) : Box w' g t cs:=(hg.block g h.lt (fun e => hne (by injection e))).trans h
/-- An append to the row, and the store of the new slice. -/
theorem FStep.grown {h gR gN n c n' c' : Nat} {X Y : World} {t : TypeId} (hb : Box X h t #[.slice (some ⟨gR,0,none⟩) n c]) (hne : h ≠ gR) (hg : X.grownBy Y (some gR)) (hN : gN = gR ∨ X.heap.size ≤ gN) : FStep h X (Y.setCell ⟨h,0,none⟩ (.slice (some ⟨gN,0,none⟩) n' c')) :=
  ⟨by simpa [World.setCell] using hg.size,fun k hk h1 _ h3 => (Below.heap_setCell Y ⟨h,0,none⟩ _ k h1).trans (hg.block k hk (fun e => by rw [rowB_box hb] at h3;exact h3 e.symm)),
    fun r e => by
      have hb':=((box_gr hb hg hne).set 0 (.slice (some ⟨gN,0,none⟩) n' c')).congr (show _ = #[.slice (some ⟨gN,0,none⟩) n' c'] by simp)
      rw [rowB_box hb'] at e
      cases e
      rcases hN with rfl | hN
      · exact .inl (rowB_box hb)
      · exact .inr hN⟩
end Go.Proofs.YtpnfgmgoafgcbaaGreat
/-
  Reached poses, sorted by slices.SortFunc (chapter 6).
-/
set_option linter.unusedVariables false
namespace Go.Proofs.YtpnfgmgoafgcbaaGreat
open Go.RowKit Go.Shelf Go.Sort
theorem flatK_list {α : Type} [Inhabited α] {enc : α → List Value} {k : Nat} (hk : ∀ x,(enc x).length = k) (hp : 0 < k) (d : Array α) : (flatK enc k d).toList = d.toList.flatMap enc:=by
  apply List.ext_getElem?
  intro t
  by_cases ht : t < d.size * k
  · have h1 : t / k < d.size:=Nat.div_lt_of_lt_mul (by rwa [Nat.mul_comm])
    have h2 : t % k < k:=Nat.mod_lt _ hp
    have h3:=flatK_get hk d.toList (t / k) d[t / k] (t % k) (by simp [h1]) h2
    have h4 : t / k * k + t % k = t:=by rw [Nat.mul_comm];exact Nat.div_add_mod t k
    rw [h4] at h3
    rw [h3]
    have h5:=get_flatK enc k d t ht
    rw [getElem!_pos _ t (by simpa using ht)] at h5
    rw [Array.getElem?_toList,Array.getElem?_eq_getElem (by simpa using ht),h5,getElem!_pos d _ h1]
    rw [getElem!_pos _ _ (by rw [hk];exact h2),List.getElem?_eq_getElem (by rw [hk];exact h2)]
  · rw [List.getElem?_eq_none (by simpa using ht),List.getElem?_eq_none (by rw [flatK_len hk];simpa using ht)]
theorem SlV.of_holdsK {α : Type} [Inhabited α] {enc : α → List Value} {k : Nat} {w : World} {blk off : Nat} {d : Array α} (hk : ∀ x,(enc x).length = k) (hp : 0 < k) (h : HoldsK enc k w blk off d) (hb : blk < w.heap.size) : SlV w (some ⟨blk,off,none⟩) (d.toList.flatMap enc):=by
  intro j u hj
  rw [← flatK_list hk hp] at hj
  have hlt : j < (flatK enc k d).size:=by
    rcases Nat.lt_or_ge j (flatK enc k d).size with h1 | h1
    · exact h1
    · rw [List.getElem?_eq_none (by simpa using h1)] at hj;cases hj
  refine ⟨blk,off,rfl,hb,(h j hlt).1.trans ?_⟩
  rw [getElem!_pos _ j hlt]
  rw [Array.getElem?_toList,Array.getElem?_eq_getElem hlt] at hj
  simpa using hj
theorem holdsK_own {α : Type} [Inhabited α] {enc : α → List Value} {k : Nat} {w : World} {base g cap : Nat} {e : TypeId} {d : Array α} (hk : ∀ x,(enc x).length = k) (hp : 0 < k)
    (h : w.ownsRow base e k (.slice (some ⟨g,0,none⟩) d.size cap) d.size (d.toList.flatMap enc)) : HoldsK enc k w g 0 d:=by
  intro j hj
  have hj' : j < d.size * k:=by simpa using hj
  have c:=h.cellAt j (by simpa using hj')
  rw [← flatK_list hk hp] at c
  refine ⟨?_,by simpa using h.frozenAt j⟩
  rw [Nat.zero_add,c,getElem!_pos _ j hj,Array.getElem?_toList,Array.getElem?_eq_getElem hj];rfl
/-- A reached pose with where its quarters lie, and its number of moves. -/
abbrev Rc:=Ar × Int
def rcV (x : Rc) : List Value:=[.int .i64 x.1.1.1,.slice x.1.2.1 x.1.1.2.length x.1.2.2,.int .i64 x.2]
def CmpEnd (w : World) (v : Int) (e : Ending) (w' : World) : Prop:=e = .returned (.int .i64 v) ∧ ∃ q os',w' = Sort.grow (w.drewN q) os'
theorem grow_drew (w : World) (os : Array Obj) : (Sort.grow w os).drew = Sort.grow (w.drewN 1) os:=rfl
theorem grow_alloc (w : World) (os : Array Obj) (o : Obj) : (Sort.grow w os).alloc o = Sort.grow w (os ++ #[o]):=by rw [alloc_eq_grow,grow_grow]
theorem grow5 (w : World) (a b c d e : Obj) : ∃ os,(((((w.alloc a).alloc b).alloc c).alloc d).alloc e).drew = Sort.grow (w.drewN 1) os:=by
  rw [alloc_eq_grow w a,grow_alloc,grow_alloc,grow_alloc,grow_alloc,grow_drew]
  exact ⟨_,rfl⟩
set_option maxHeartbeats 1000000 in
theorem cmpR_c (x y : Rc) (w : World) (h1 : x.1.1.2.length ≤ 1000) (h2 : y.1.1.2.length ≤ 1000) (hs1 : SlI w x.1.2.1 x.1.1.2) (hs2 : SlI w y.1.2.1 y.1.1.2) :
    Calls Tryz.prog 120 #[.agg (rcV x).toArray,.agg (rcV y).toArray] w (CmpEnd w (ordP x.1.1 y.1.1)):=by
  obtain ⟨⟨⟨ps,Q⟩,AQ,cQ⟩,m⟩:=x
  obtain ⟨⟨⟨pt,T⟩,AT,cT⟩,n⟩:=y
  dsimp only [rcV] at *
  have ORc:=Lib.hid (fun W (h : Below w.heap.size w W) => order_c ps pt Q T AQ AT cQ cT W (by omega) (by omega) (hs1.below h) (hs2.below h))
  clear hs1 hs2
  go_enter Tryz.func120,Tryz.ntmps120
  go_wp2_with (go_at_call 121;(with_reducible refine (ORc.out _ ?_).mono ?_);rotate_left;rintro e w5 ⟨rfl,hw5⟩;have HW5:=Lib.hid hw5;clear hw5;rotate_left;(focus (exact bB0)))
  go_ret
  obtain ⟨os,ho⟩:=grow5 w _ _ _ _ _
  exact ⟨rfl,1,os,HW5.out.trans ho⟩
theorem below_putK {α : Type} {enc : α → Value} {B : Nat} {w0 w : World} {g q : Nat} {d : Array α} [Inhabited α] (h : RowKit.Below B w0 w) (hg : B ≤ g) : RowKit.Below B w0 (putRow enc (Sort.ahead w q) g 0 d) :=
  ⟨h.os,h.tape,h.output,by simpa [putRow,mapBlock,Sort.ahead] using h.size,fun k hk => by
    rw [← h.block k hk]
    simp [putRow,mapBlock,Sort.ahead,Array.getElem?_modify,show g ≠ k by omega]⟩
/-- The sort turns the block of the slice alone. -/
theorem sortWorld_same {α : Type} [Inhabited α] {enc : α → List Value} {k : Nat} {w : World} {blk m : Nat} {dk : Array α} {os : Array Obj} :
    w.heap.size ≤ (sortWorldK enc k w blk 0 m dk os).heap.size ∧ ∀ b,b < w.heap.size → b ≠ blk → (sortWorldK enc k w blk 0 m dk os).heap[b]? = w.heap[b]?:=by
  have hs : (putRowK enc k (Sort.ahead w m) blk 0 dk).heap.size = w.heap.size:=by simp [putRowK,putRow,mapBlock,Sort.ahead]
  refine ⟨by simp [sortWorldK,grow,hs],fun b hb hne => ?_⟩
  simp only [sortWorldK,grow]
  rw [Array.getElem?_append_left (by rw [hs];exact hb)]
  simp [putRowK,putRow,mapBlock,Sort.ahead,Array.getElem?_modify,Ne.symm hne]
theorem SlI.sameBlock {w w' : World} {A : Option Addr} {xs : List Int} {g : Nat} (h : SlI w A xs) (hs : w.heap.size ≤ w'.heap.size) (hb : ∀ b,b < w.heap.size → b ≠ g → w'.heap[b]? = w.heap[b]?) (hA : ∀ off,A ≠ some ⟨g,off,none⟩) : SlI w' A xs:=fun j u hj => by
  obtain ⟨b,off,e,hlt,hc⟩:=h j u hj
  have hne : b ≠ g:=by rintro rfl;exact hA off e
  exact ⟨b,off,e,Nat.lt_of_lt_of_le hlt hs,(cell_same (hb b hlt hne) _).trans hc⟩
/-- How the sort ends. -/
def SortEnd (w : World) (base g : Nat) (xs : List Rc) (e : Ending) (w' : World) : Prop :=
  e = .returned (.tuple #[]) ∧ ∃ ys : List Rc,ys.Perm xs ∧ ys.Pairwise (fun a b => ¬ ordP b.1.1 a.1.1 < 0) ∧ SlV w' (some ⟨g,0,none⟩) (ys.flatMap rcV) ∧ w.heap.size ≤ w'.heap.size ∧ (∀ k,k < w.heap.size → k ≠ g → w'.heap[k]? = w.heap[k]?) ∧ RowKit.Below base w w'
theorem sortR_c (xs : List Rc) (g cap base : Nat) (w : World) (hg : base ≤ g) (hne : xs ≠ []) (hl : xs.length ≤ 1000) (h : w.ownsRow base 98 3 (.slice (some ⟨g,0,none⟩) xs.length cap) xs.length (xs.flatMap rcV))
    (hq : ∀ x ∈ xs,SlI w x.1.2.1 x.1.1.2 ∧ x.1.1.2.length ≤ 1000 ∧ ∀ off,x.1.2.1 ≠ some ⟨g,off,none⟩) :
    Calls Tryz.prog 119 #[.slice (some ⟨g,0,none⟩) xs.length cap,.func (.func 120) #[] #[]] w (SortEnd w base g xs):=by
  have hgl : g < w.heap.size:=by
    rcases h.2 with ⟨e,_⟩ | ⟨k,_,_,e,_,hh,_⟩
    · cases e
    · cases e;exact (Array.getElem?_eq_some_iff.1 hh).1
  let α:={x : Rc // x ∈ xs}
  letI : Inhabited α:=⟨⟨xs.head hne,List.head_mem hne⟩⟩
  let d : Array α:=xs.attach.toArray
  let enc : α → List Value:=fun x => rcV x.1
  let cf : α → α → Int:=fun x y => ordP x.1.1.1 y.1.1.1
  have hds : d.size = xs.length:=List.size_toArray.trans List.length_attach
  have hlen : ∀ x : α,(enc x).length = 3:=fun _ => rfl
  have hfl : d.toList.flatMap enc = xs.flatMap rcV:=by
    have : xs.attach.flatMap (fun x => rcV x.1) = (xs.attach.map (·.1)).flatMap rcV:=by rw [List.flatMap_map]
    simp only [d,enc]
    rw [this,List.attach_map_subtype_val]
  rw [← hds,← hfl] at h
  have hH : HoldsK enc 3 w g 0 d:=holdsK_own hlen (by omega) h
  have hO : SWO (ltOf cf):=by
    refine ⟨fun x => ?_,fun x y z h1 h2 => ?_,fun x y z h1 h2 => ?_⟩
    · simp [ltOf,cf,ordP_zero.2 rfl]
    · simp only [ltOf,cf,decide_eq_true_eq] at *
      exact ordP_tr h1 h2
    · simp only [ltOf,cf,decide_eq_false_iff_not] at *
      exact ordP_le_tr h2 h1
  have hcmp : CmpLays Tryz.prog 120 #[] enc 3 cf g 0 d.size w:=fun m os dk _ x y => by
    have hS:=sortWorld_same (enc:=enc) (k:=3) (w:=w) (blk:=g) (m:=m) (dk:=dk) (os:=os)
    exact cmpR_c x.1 y.1 _ (hq _ x.2).2.1 (hq _ y.2).2.1 ((hq _ x.2).1.sameBlock hS.1 hS.2 (hq _ x.2).2.2) ((hq _ y.2).1.sameBlock hS.1 hS.2 (hq _ y.2).2.2)
  rw [← hds]
  refine (AnyQ.slices_SortFunc Tryz.sortAR 3 Tryz.isAgg98 Tryz.sizeOf98 enc hlen (fun x v hv => by simp [enc,rcV] at hv;rcases hv with rfl | rfl | rfl <;> rfl) cf hO 120 #[] g 0 cap d w (enters_of Tryz.func120 (by kernel_rfl) rfl) hcmp hH hgl (by omega)).mono ?_
  rintro e w' ⟨rfl,d',n,os,hp,hs,rfl⟩
  have hS:=sortWorld_same (enc:=enc) (k:=3) (w:=w) (blk:=g) (m:=n) (dk:=d') (os:=os)
  obtain ⟨hz,_,hp⟩:=hp
  have e1 : (d'.extract 0 d.size).toList = d'.toList:=by rw [← hz];simp
  have e2 : (d.extract 0 d.size).toList = d.toList:=by simp
  rw [e1,e2] at hp
  refine ⟨rfl,d'.toList.map (·.1), ?_, ?_, ?_,hS.1,hS.2, ?_⟩
  · have:=hp.map (fun x : α => x.1)
    have e5 : d.toList.map (fun x : α => x.1) = xs:=List.attach_map_subtype_val xs
    rw [e5] at this
    exact this
  · rw [List.pairwise_map,List.pairwise_iff_getElem]
    intro i j hi hj hij
    have hi' : i < d'.size:=by simpa using hi
    have hj' : j < d'.size:=by simpa using hj
    have:=hs i j (Nat.zero_le _) hij (by omega)
    rw [getElem!_pos d' j hj',getElem!_pos d' i hi'] at this
    simpa [ltOf,cf] using this
  · have e3 : (d'.toList.map (·.1)).flatMap rcV = d'.toList.flatMap enc:=by rw [List.flatMap_map]
    rw [e3]
    refine SlV.of_holdsK hlen (by omega) ?_ ?_
    · exact holdsK_grow enc 3 _ os g 0 d' (by simpa [putRowK,putRow,mapBlock,Sort.ahead] using hgl) (holdsK_putRowK enc 3 _ g 0 d d' (holdsK_ahead enc 3 _ _ g 0 d hH) hz)
    · exact Nat.lt_of_lt_of_le hgl hS.1
  · have hb : RowKit.Below base w (putRowK enc 3 (Sort.ahead w n) g 0 d'):=below_putK (Below.refl _ _) hg
    refine hb.trans ⟨rfl,rfl,rfl,by simp [sortWorldK,grow],fun k hk => ?_⟩
    have hk' : k < (putRowK enc 3 (Sort.ahead w n) g 0 d').heap.size:=by have:=hb.size;omega
    simp only [sortWorldK,grow]
    rw [Array.getElem?_append_left hk']
end Go.Proofs.YtpnfgmgoafgcbaaGreat

/-
  The search over poses (chapter 6): one pose behind a move.
-/
import Derived.Test.YtpnfgmgoafgcbaaGreatA7
import Derived.Test.YtpnfgmgoafgcbaaGreatA4
set_option linter.all false
set_option linter.unusedVariables false
namespace Go.Proofs.YtpnfgmgoafgcbaaGreat
open Go.RowKit Go.Shelf
attribute [local go_sem] Oper.semAt_some
structure FI (s : Sc) (AL AB : Option Addr) (cL cB : Nat) (U h Bi : Nat) (w0 : World) (a : Fl) (bs : List Ar) (i : Nat) (W : World) : Prop where
  row : ∃ A c,Box W h 162 #[.slice A bs.length c] ∧ W.ownsRow U 135 11 (.slice A bs.length c) bs.length (bs.flatMap (arV s AL AB cL cB))
  boxM : Box W (h + 2) 161 #[.map (some (h + 1))]
  mapM : KMap W (h + 1) a.1
  ps : bs.map (·.1) = a.2
  qs : ∀ x ∈ bs,QOk U x W
  boxI : Box W Bi 3 #[.int .i64 (i : Int)]
  hBi : h + 3 ≤ Bi
  hU : U ≤ h
  below : Below U w0 W
theorem FI.keep {s : Sc} {AL AB : Option Addr} {cL cB U h Bi : Nat} {w0 : World} {a : Fl} {bs : List Ar} {i : Nat} {W W' : World} (hI : FI s AL AB cL cB U h Bi w0 a bs i W) (hb : Below W.heap.size W W') : FI s AL AB cL cB U h Bi w0 a bs i W':=by
  obtain ⟨⟨A,c,r1,r2⟩,m1,m2,p,q,b,e1,e2,e3⟩:=hI
  exact ⟨⟨A,c,r1.below hb r1.lt,own_below r2 hb⟩,m1.below hb m1.lt,m2.below hb m2.lt,p,fun x hx => (q x hx).same hb.size (fun b off _ hlt => hb.block b hlt),b.below hb b.lt,e1,e2,e3.trans (hb.mono (by have:=r1.lt;omega))⟩
def firstRangeB : Code → Option Code:=fun c => (firstRange c).bind fun
  | .rangeFunc _ _ _ b => some b
  | _ => none
noncomputable def fBody : Code:=(Tryz.f108.body.bind firstRangeB).getD .skip
theorem box_ne {W : World} {a b : Nat} {t t' : TypeId} {cs cs' : Array Value} (h : Box W a t cs) (k : Box W b t' cs') (ht : t ≠ t') : a ≠ b:=by
  rintro rfl
  have:=(show W.heap[a]? = _ from h).symm.trans (show W.heap[a]? = _ from k)
  cases this
  exact ht rfl
theorem KMap.grown {w w' : World} {b r : Nat} {es : List (Ky × Int)} (h : KMap w b es) (hg : w.grownBy w' (some r)) (hne : r ≠ b) : KMap w' b es:=by
  obtain ⟨l,clock,he,k⟩:=h
  exact ⟨l,clock,(hg.block b (Array.getElem?_eq_some_iff.1 he).1 (fun e => hne (by injection e with e;exact e.symm))).trans he,k⟩
theorem flatMap11 {α : Type} {f : α → List Value} (hf : ∀ x,(f x).length = 11) : ∀ (l : List α) (i j : Nat) (x : α),l[i]? = some x → j < 11 → (l.flatMap f)[i * 11 + j]? = (f x)[j]?
  | [],i,j,x,h,_ => by simp at h
  | a :: l,0,j,x,h,hj => by
    have : a = x:=by simpa using h
    subst this
    rw [List.flatMap_cons,List.getElem?_append_left (by rw [hf];omega)]
    simp
  | a :: l,i + 1,j,x,h,hj => by
    rw [List.flatMap_cons,List.getElem?_append_right (by rw [hf];omega),hf,show (i + 1) * 11 + j - 11 = i * 11 + j by omega]
    exact flatMap11 hf l i j x (by simpa using h) hj
theorem arAt {s : Sc} {AL AB : Option Addr} {cL cB U gR capR : Nat} {bs : List Ar} {i : Nat} {y : Ar} {W : World} (h : W.ownsRow U 135 11 (.slice (some ⟨gR,0,none⟩) bs.length capR) bs.length (bs.flatMap (arV s AL AB cL cB))) (hy : bs[i]? = some y) :
    W.cell? ⟨gR,i * 11 + 9,none⟩ = some (.int .i64 y.1.1) ∧ W.cell? ⟨gR,i * 11 + 10,none⟩ = some (.slice y.2.1 y.1.2.length y.2.2):=by
  have hil : i < bs.length:=(List.getElem?_eq_some_iff.1 hy).1
  have e1:=flatMap11 (f:=arV s AL AB cL cB) (fun x => rfl) bs i 9 y hy (by omega)
  have e2:=flatMap11 (f:=arV s AL AB cL cB) (fun x => rfl) bs i 10 y hy (by omega)
  have h1:=h.cellAt (i * 11 + 9) (by omega)
  have h2:=h.cellAt (i * 11 + 10) (by omega)
  rw [e1] at h1
  rw [e2] at h2
  exact ⟨h1,h2⟩
set_option maxHeartbeats 4000000 in
set_option maxRecDepth 100000 in
theorem fbody_c (l1 m h Bi gB U gQ capQ : Nat) (bx bY sl fx fX fy fY P1 : Int) (L : List Lk) (B : List Bx) (P2 : List Int) (AL AB : Option Addr) (cL cB : Nat) (w0 W : World) (a : Fl) (bs : List Ar) (i : Nat) (PQ : Exit → Act → World → Prop)
    (hl : 0 < P2.length) (hl3 : P2.length ≤ 3) (hI : FI (⟨bx,bY,sl,L,(fx,fX,fy,fY),B⟩ : Sc) AL AB cL cB U h Bi w0 a bs i W) (hX : Box W gB 135 #[.int .i64 bx,.int .i64 bY,.int .i64 sl,.slice AL L.length cL,.int .i64 fx,.int .i64 fX,.int .i64 fy,.int .i64 fY,.slice AB B.length cB,.int .i64 P1,.slice (some ⟨gQ,0,none⟩) P2.length capQ]) (hB : h + 3 ≤ gB) (hQ : SlI W (some ⟨gQ,0,none⟩) P2) (hQb : ∃ cs,Box W gQ 3 cs) (y : Ar) (hy : bs[i]? = some y) (d : Int) (hd : lkp a.1 (kyP y.1) = some d) (hdb : 0 ≤ d ∧ d ≤ 1000000) (hyl : 0 < y.1.2.length ∧ y.1.2.length ≤ 3) (hn : bs.length ≤ 1000000)
    (hQ1 : ∀ (W' : World) (t0 t2 t3 t5 t6 t8 t10 t11 t12 t13 t14 t15 t16 t17 t18 t19 t20 t21 t22 t23 t24 t25 t26 t27 t28 t29 t30 t31 t32 t33 t34 t35 t36 t37 t38 t39 t40 t41 t42 t43 t44 t45 t46 t47 t48 t49 t50 t51 t52 t53 t54 t55 t56 t57 t58 t59 t60 t61 t62 t63 t64 t65 t66 : Value),(lkp a.1 (kyP (P1,P2))).isSome = true → FI (⟨bx,bY,sl,L,(fx,fX,fy,fY),B⟩ : Sc) AL AB cL cB U h Bi w0 a bs i W' → FStep h W W' → PQ .normal ⟨#[t0,Value.pointer (some ⟨h,0,none⟩),t2,t3,Value.pointer (some ⟨h + 2,0,none⟩),t5,t6,Value.pointer (some ⟨Bi,0,none⟩),t8,Value.pointer (some ⟨gB,0,none⟩),t10,t11,t12,t13,t14,t15,t16,t17,t18,t19,t20,t21,t22,t23,t24,t25,t26,t27,t28,t29,t30,t31,t32,t33,t34,t35,t36,t37,t38,t39,t40,t41,t42,t43,t44,t45,t46,t47,t48,t49,t50,t51,t52,t53,t54,t55,t56,t57,t58,t59,t60,t61,t62,t63,t64,t65,t66],[]⟩ W')
    (hQ2 : ∀ (W' : World) (t0 t2 t3 t5 t6 t8 t10 t11 t12 t13 t14 t15 t16 t17 t18 t19 t20 t21 t22 t23 t24 t25 t26 t27 t28 t29 t30 t31 t32 t33 t34 t35 t36 t37 t38 t39 t40 t41 t42 t43 t44 t45 t46 t47 t48 t49 t50 t51 t52 t53 t54 t55 t56 t57 t58 t59 t60 t61 t62 t63 t64 t65 t66 : Value),FI (⟨bx,bY,sl,L,(fx,fX,fy,fY),B⟩ : Sc) AL AB cL cB U h Bi w0 (fl1 d a (P1,P2)) (bs ++ [((P1,P2),some ⟨gQ,0,none⟩,capQ)]) i W' → FStep h W W' → PQ .normal ⟨#[t0,Value.pointer (some ⟨h,0,none⟩),t2,t3,Value.pointer (some ⟨h + 2,0,none⟩),t5,t6,Value.pointer (some ⟨Bi,0,none⟩),t8,Value.pointer (some ⟨gB,0,none⟩),t10,t11,t12,t13,t14,t15,t16,t17,t18,t19,t20,t21,t22,t23,t24,t25,t26,t27,t28,t29,t30,t31,t32,t33,t34,t35,t36,t37,t38,t39,t40,t41,t42,t43,t44,t45,t46,t47,t48,t49,t50,t51,t52,t53,t54,t55,t56,t57,t58,t59,t60,t61,t62,t63,t64,t65,t66],[]⟩ W') (t0 t2 t3 t5 t6 t8 t10 t11 t12 t13 t14 t15 t16 t17 t18 t19 t20 t21 t22 t23 t24 t25 t26 t27 t28 t29 t30 t31 t32 t33 t34 t35 t36 t37 t38 t39 t40 t41 t42 t43 t44 t45 t46 t47 t48 t49 t50 t51 t52 t53 t54 t55 t56 t57 t58 t59 t60 t61 t62 t63 t64 t65 t66 : Value) :
    fBody.wpIn (Fence.wide.inRound l1) m Tryz.prog PQ ⟨#[t0,Value.pointer (some ⟨h,0,none⟩),t2,t3,Value.pointer (some ⟨h + 2,0,none⟩),t5,t6,Value.pointer (some ⟨Bi,0,none⟩),t8,Value.pointer (some ⟨gB,0,none⟩),t10,t11,t12,t13,t14,t15,t16,t17,t18,t19,t20,t21,t22,t23,t24,t25,t26,t27,t28,t29,t30,t31,t32,t33,t34,t35,t36,t37,t38,t39,t40,t41,t42,t43,t44,t45,t46,t47,t48,t49,t50,t51,t52,t53,t54,t55,t56,t57,t58,t59,t60,t61,t62,t63,t64,t65,t66],[]⟩ W:=by
  have KYc:=Lib.hid (fun w' (h : Below W.heap.size W w') => key_c P1 P2 (some ⟨gQ,0,none⟩) capQ w' hl hl3 (hQ.below h))
  obtain ⟨k0,k1,k2,k3,hk⟩ : ∃ k0 k1 k2 k3,kyP (P1,P2) = (k0,k1,k2,k3):=⟨_,_,_,_,rfl⟩
  have hkv : kyV (P1,P2) = #[.int .i64 k0,.int .i64 k1,.int .i64 k2,.int .i64 k3]:=by
    have:=kyP_V (P1,P2);rw [hk] at this;exact Value.agg.inj this
  rw [hkv] at KYc
  have BM:=hI.boxM
  have M0:=hI.mapM
  generalize hes : a.1 = es at *
  have HI:=Lib.hid hI
  have HQ1:=Lib.hid hQ1
  have HQ2:=Lib.hid hQ2
  have HQn : QOk U ((P1,P2),some ⟨gQ,0,none⟩,capQ) W:=⟨hQ,gQ,0,rfl,.inr hQb⟩
  have HQ:=Lib.hid hQ
  have lU:=hI.row.choose_spec.choose_spec.1.lt
  have hBi:=hI.hBi
  have hU:=hI.hU
  clear hkv hQ hI hQ1 hQ2 hQb
  have m0:=BM.cell 0
  have c0:=hX.cell 0;have c1:=hX.cell 1;have c2:=hX.cell 2;have c3:=hX.cell 3;have c4:=hX.cell 4;have c5:=hX.cell 5;have c6:=hX.cell 6;have c7:=hX.cell 7;have c8:=hX.cell 8;have c9:=hX.cell 9;have c10:=hX.cell 10
  simp at m0 c0 c1 c2 c3 c4 c5 c6 c7 c8 c9 c10
  have lM:=BM.lt;have lX:=hX.lt;have lK:=M0.lt
  unfold fBody
  conv => arg 4;whnf
  dsimp only
  cases hf : lkp es (k0,k1,k2,k3) with
  | some v =>
    gi_wp2_with fail
    (refine region_round kR kR (fun R hR => ?_);refine heldR (S:=(fun w' => Box w' (h + 2) 161 #[.map (some (h + 1))] ∧ Box w' gB 135 #[.int .i64 bx,.int .i64 bY,.int .i64 sl,.slice AL L.length cL,.int .i64 fx,.int .i64 fX,.int .i64 fy,.int .i64 fY,.slice AB B.length cB,.int .i64 P1,.slice (some ⟨gQ,0,none⟩) P2.length capQ] ∧ KMap w' (h + 1) es)) ?_ (fun hHeld => ?_);(focus ((try dsimp only);((refine ⟨?_, ?_, ?_⟩;((first | exact bX0 | exact bX1 hb3));((first | exact bX0 | exact bX1 hb3));(first | exact M3 | exact M0.drew | exact M0)))));have hO:=Lib.hid (fun w' (hSw : (fun w' => Box w' (h + 2) 161 #[.map (some (h + 1))] ∧ Box w' gB 135 #[.int .i64 bx,.int .i64 bY,.int .i64 sl,.slice AL L.length cL,.int .i64 fx,.int .i64 fX,.int .i64 fy,.int .i64 fY,.slice AB B.length cB,.int .i64 P1,.slice (some ⟨gQ,0,none⟩) P2.length capQ] ∧ KMap w' (h + 1) es) w') => (by (try dsimp only at hSw);(obtain ⟨hSA,hSB,hSC⟩:=hSw;have hlk:=run_look_k2 k0 k1 k2 k3 _ _ _ hSC;have sa0:=hSA.cell 0;have sb0:=hSB.cell 0;have sb1:=hSB.cell 1;have sb2:=hSB.cell 2;have sb3:=hSB.cell 3;have sb4:=hSB.cell 4;have sb5:=hSB.cell 5;have sb6:=hSB.cell 6;have sb7:=hSB.cell 7;have sb8:=hSB.cell 8;have sb9:=hSB.cell 9;have sb10:=hSB.cell 10;(simp at sa0 sb0 sb1 sb2 sb3 sb4 sb5 sb6 sb7 sb8 sb9 sb10));exact And.intro hlk (And.intro sa0 (And.intro sb0 (And.intro sb1 (And.intro sb2 (And.intro sb3 (And.intro sb4 (And.intro sb5 (And.intro sb6 (And.intro sb7 (And.intro sb8 (And.intro sb9 sb10)))))))))))));refine rgL 0 hO rfl ?_;refine rgN 1 rfl ?_;refine rgL 2 hO rfl ?_;refine rgC 3 rfl (fun K hK => ?_);go_simp;((go_at_call 118;refine (KYc.out _ (by exact bB0)).mono ?_;rintro e w3 ⟨rfl,hb3⟩;have hz3 : W.heap.size ≤ w3.heap.size:=(by have:=hb3.size;(try simp at this);omega);have M3 : KMap w3 (h + 1) es:=(M0.drew).below hb3 M0.lt));go_simp;refine hK.out _ _ ?_ (fun hHeld => ?_);(focus ((try dsimp only);((refine ⟨?_, ?_, ?_⟩;((first | exact bX1 hb3 | exact bX0));((first | exact bX1 hb3 | exact bX0));(first | exact M3 | exact M0.drew | exact M0)))));clear hK K;(try simp only [Act.put,pqs]);refine rgL 4 hO rfl ?_;refine rgN 5 rfl ?_;refine rgN 6 rfl ?_;refine rgN 7 rfl ?_;refine rgN 8 rfl ?_;refine rgN 9 rfl ?_;refine wpAnyH_done (Q:=fun e a w => e = Exit.normal ∧ R a w) kR ⟨rfl,hR _ _ ?_⟩ _;clear hR R)
    gi_wp2_with fail
    have hB3 : Below W.heap.size W w3:=by exact bB1 hb3
    exact HQ1.out w3 _ _ _ _ _ _ _ _ _ _ _ _ _ _ _ _ _ _ _ _ _ _ _ _ _ _ _ _ _ _ _ _ _ _ _ _ _ _ _ _ _ _ _ _ _ _ _ _ _ _ _ _ _ _ _ _ _ _ _ _ _ _ _ (by rw [hk,hf];rfl) (HI.out.keep hB3) (FStep.of_below (by omega) hB3)
  | none =>
    gi_wp2_with fail
    (refine region_round kR kR (fun R hR => ?_);refine heldR (S:=(fun w' => Box w' (h + 2) 161 #[.map (some (h + 1))] ∧ Box w' gB 135 #[.int .i64 bx,.int .i64 bY,.int .i64 sl,.slice AL L.length cL,.int .i64 fx,.int .i64 fX,.int .i64 fy,.int .i64 fY,.slice AB B.length cB,.int .i64 P1,.slice (some ⟨gQ,0,none⟩) P2.length capQ] ∧ KMap w' (h + 1) es)) ?_ (fun hHeld => ?_);(focus ((try dsimp only);((refine ⟨?_, ?_, ?_⟩;((first | exact bX0 | exact bX1 hb3));((first | exact bX0 | exact bX1 hb3));(first | exact M3 | exact M0.drew | exact M0)))));have hO:=Lib.hid (fun w' (hSw : (fun w' => Box w' (h + 2) 161 #[.map (some (h + 1))] ∧ Box w' gB 135 #[.int .i64 bx,.int .i64 bY,.int .i64 sl,.slice AL L.length cL,.int .i64 fx,.int .i64 fX,.int .i64 fy,.int .i64 fY,.slice AB B.length cB,.int .i64 P1,.slice (some ⟨gQ,0,none⟩) P2.length capQ] ∧ KMap w' (h + 1) es) w') => (by (try dsimp only at hSw);(obtain ⟨hSA,hSB,hSC⟩:=hSw;have hlk:=run_look_k2 k0 k1 k2 k3 _ _ _ hSC;have sa0:=hSA.cell 0;have sb0:=hSB.cell 0;have sb1:=hSB.cell 1;have sb2:=hSB.cell 2;have sb3:=hSB.cell 3;have sb4:=hSB.cell 4;have sb5:=hSB.cell 5;have sb6:=hSB.cell 6;have sb7:=hSB.cell 7;have sb8:=hSB.cell 8;have sb9:=hSB.cell 9;have sb10:=hSB.cell 10;(simp at sa0 sb0 sb1 sb2 sb3 sb4 sb5 sb6 sb7 sb8 sb9 sb10));exact And.intro hlk (And.intro sa0 (And.intro sb0 (And.intro sb1 (And.intro sb2 (And.intro sb3 (And.intro sb4 (And.intro sb5 (And.intro sb6 (And.intro sb7 (And.intro sb8 (And.intro sb9 sb10)))))))))))));refine rgL 0 hO rfl ?_;refine rgN 1 rfl ?_;refine rgL 2 hO rfl ?_;refine rgC 3 rfl (fun K hK => ?_);go_simp;((go_at_call 118;refine (KYc.out _ (by exact bB0)).mono ?_;rintro e w3 ⟨rfl,hb3⟩;have hz3 : W.heap.size ≤ w3.heap.size:=(by have:=hb3.size;(try simp at this);omega);have M3 : KMap w3 (h + 1) es:=(M0.drew).below hb3 M0.lt));go_simp;refine hK.out _ _ ?_ (fun hHeld => ?_);(focus ((try dsimp only);((refine ⟨?_, ?_, ?_⟩;((first | exact bX1 hb3 | exact bX0));((first | exact bX1 hb3 | exact bX0));(first | exact M3 | exact M0.drew | exact M0)))));clear hK K;(try simp only [Act.put,pqs]);refine rgL 4 hO rfl ?_;refine rgN 5 rfl ?_;refine rgN 6 rfl ?_;refine rgN 7 rfl ?_;refine rgN 8 rfl ?_;refine rgN 9 rfl ?_;refine wpAnyH_done (Q:=fun e a w => e = Exit.normal ∧ R a w) kR ⟨rfl,hR _ _ ?_⟩ _;clear hR R)
    gi_wp2_with fail
    have hB3 : Below W.heap.size W w3:=by exact bB1 hb3
    have I3:=HI.out.keep hB3
    have X3 : Box w3 gB 135 #[.int .i64 bx,.int .i64 bY,.int .i64 sl,.slice AL L.length cL,.int .i64 fx,.int .i64 fX,.int .i64 fy,.int .i64 fY,.slice AB B.length cB,.int .i64 P1,.slice (some ⟨gQ,0,none⟩) P2.length capQ]:=hX.below hB3 lX
    have M3:=I3.mapM
    rw [hes] at M3
    obtain ⟨A,cA,R1,R2⟩:=I3.row
    have hil : i < bs.length:=(List.getElem?_eq_some_iff.1 hy).1
    obtain ⟨gR,capR,hA,hgR,hgl⟩:=own_pos R2 (by omega) (by decide)
    cases hA
    obtain ⟨y9,y10⟩:=arAt R2 hy
    have BI:=I3.boxI
    have BM3:=I3.boxM
    obtain ⟨⟨y1,Y2⟩,AY,cY⟩:=y
    dsimp only at y9 y10 hyl
    have hq3:=(I3.qs _ (List.mem_of_getElem? hy)).1
    obtain ⟨j0,j1,j2,j3,hj⟩ : ∃ j0 j1 j2 j3,kyP (y1,Y2) = (j0,j1,j2,j3):=⟨_,_,_,_,rfl⟩
    have hjv : kyV (y1,Y2) = #[.int .i64 j0,.int .i64 j1,.int .i64 j2,.int .i64 j3]:=by
      have:=kyP_V (y1,Y2);rw [hj] at this;exact Value.agg.inj this
    have K2c:=Lib.hid (fun w' (h : Below w3.heap.size w3 w') => key_c y1 Y2 AY cY w' hyl.1 hyl.2 (hq3.below h))
    rw [hjv] at K2c
    have K1c:=Lib.hid (fun w' (h : Below w3.heap.size w3 w') => KYc.out w' (hB3.trans (h.mono hB3.size)))
    rw [hj] at hd
    have hz3 : W.heap.size ≤ w3.heap.size:=hB3.size
    have hi0 : 0 ≤ (i : Int):=by omega
    have hi1 : (i : Int) < (bs.length : Int):=by omega
    have hda : IntKind.i64.wrap (d + 1) = d + 1:=IntWalk.i64_in _ (by omega)
    have lI:=BI.lt;have lH:=R1.lt;have lB3:=X3.lt;have lM3:=BM3.lt
    obtain ⟨csR,hcsR⟩:=own_some R2
    have gM:=M3.ne_box hcsR
    have HD:=Lib.hid hd
    have HE:=Lib.hid hes
    have HF:=Lib.hid hf
    have HJ:=Lib.hid hjv
    have HJ2:=Lib.hid hj
    have HK:=Lib.hid hk
    have HY:=Lib.hid hy
    have HI3:=Lib.hid I3
    have HKY:=Lib.hid KYc
    clear hd hes hf hjv hj hk hy I3 KYc
    (refine region_round kR kR (fun R hR => ?_);refine heldR (S:=(fun w' => Box w' (h + 2) 161 #[.map (some (h + 1))] ∧ Box w' gB 135 #[.int .i64 bx,.int .i64 bY,.int .i64 sl,.slice AL L.length cL,.int .i64 fx,.int .i64 fX,.int .i64 fy,.int .i64 fY,.slice AB B.length cB,.int .i64 P1,.slice (some ⟨gQ,0,none⟩) P2.length capQ] ∧ Box w' h 162 #[.slice (some ⟨gR,0,none⟩) bs.length cA] ∧ Box w' Bi 3 #[.int .i64 (i : Int)] ∧ w'.cell? ⟨gR,i * 11 + 9,none⟩ = some (.int .i64 y1) ∧ w'.cell? ⟨gR,i * 11 + 10,none⟩ = some (.slice AY Y2.length cY) ∧ ∃ es',KMap w' (h + 1) es' ∧ lkp es' (j0,j1,j2,j3) = some d)) ?_ (fun hHeld => ?_);(focus ((try dsimp only);((refine ⟨?_, ?_, ?_, ?_, ?_, ?_, ?_⟩;(first | (exact u1.put (by omega) _) | ((first | exact bX0 | exact bX1 hb6 | exact bX1 hb5 | exact bX2 hb5 hb6)));(first | (exact u2.put (by omega) _) | ((first | exact bX0 | exact bX1 hb6 | exact bX1 hb5 | exact bX2 hb5 hb6)));(first | (exact u3.put (by omega) _) | ((first | exact bX0 | exact bX1 hb6 | exact bX1 hb5 | exact bX2 hb5 hb6)));(first | (exact u4.put (by omega) _) | ((first | exact bX0 | exact bX1 hb6 | exact bX1 hb5 | exact bX2 hb5 hb6)));(first | (exact (cell_same (World.putObj_heap_other (by omega)) _).trans u5) | exact y96 | exact y95 | exact y9);(first | (exact (cell_same (World.putObj_heap_other (by omega)) _).trans u6) | exact y16 | exact y15 | exact y10);(first | (exact ⟨_,M6.put _ _,lkp_some_app HD.out⟩) | exact ⟨es,M6,HD.out⟩ | exact ⟨es,M5,HD.out⟩ | exact ⟨es,M3.drew,HD.out⟩)))));refine rgT 0 ?_ rfl (fun w' hSw => ?_) ?_;rotate_left;(focus ((try dsimp only at hSw);(obtain ⟨hSA,hSB,hSC,hSD,hSE,hSF,es',hSG,hSH⟩:=hSw;have hlk:=run_look_k j0 j1 j2 j3 _ _ _ hSG;rw [hSH] at hlk;clear hSG hSH;have sa0:=hSA.cell 0;have sc0:=hSC.cell 0;have sd0:=hSD.cell 0;have sb0:=hSB.cell 0;have sb1:=hSB.cell 1;have sb2:=hSB.cell 2;have sb3:=hSB.cell 3;have sb4:=hSB.cell 4;have sb5:=hSB.cell 5;have sb6:=hSB.cell 6;have sb7:=hSB.cell 7;have sb8:=hSB.cell 8;have sb9:=hSB.cell 9;have sb10:=hSB.cell 10;(simp at hlk sa0 sc0 sd0 sb0 sb1 sb2 sb3 sb4 sb5 sb6 sb7 sb8 sb9 sb10));go_simp;(try with_reducible rfl)));(try simp only [Act.put,pqs]);refine rgN 1 rfl ?_;refine rgT 2 ?_ rfl (fun w' hSw => ?_) ?_;rotate_left;(focus ((try dsimp only at hSw);(obtain ⟨hSA,hSB,hSC,hSD,hSE,hSF,es',hSG,hSH⟩:=hSw;have hlk:=run_look_k j0 j1 j2 j3 _ _ _ hSG;rw [hSH] at hlk;clear hSG hSH;have sa0:=hSA.cell 0;have sc0:=hSC.cell 0;have sd0:=hSD.cell 0;have sb0:=hSB.cell 0;have sb1:=hSB.cell 1;have sb2:=hSB.cell 2;have sb3:=hSB.cell 3;have sb4:=hSB.cell 4;have sb5:=hSB.cell 5;have sb6:=hSB.cell 6;have sb7:=hSB.cell 7;have sb8:=hSB.cell 8;have sb9:=hSB.cell 9;have sb10:=hSB.cell 10;(simp at hlk sa0 sc0 sd0 sb0 sb1 sb2 sb3 sb4 sb5 sb6 sb7 sb8 sb9 sb10));go_simp;(try with_reducible rfl)));(try simp only [Act.put,pqs]);refine rgT 4 ?_ rfl (fun w' hSw => ?_) ?_;rotate_left;(focus ((try dsimp only at hSw);(obtain ⟨hSA,hSB,hSC,hSD,hSE,hSF,es',hSG,hSH⟩:=hSw;have hlk:=run_look_k j0 j1 j2 j3 _ _ _ hSG;rw [hSH] at hlk;clear hSG hSH;have sa0:=hSA.cell 0;have sc0:=hSC.cell 0;have sd0:=hSD.cell 0;have sb0:=hSB.cell 0;have sb1:=hSB.cell 1;have sb2:=hSB.cell 2;have sb3:=hSB.cell 3;have sb4:=hSB.cell 4;have sb5:=hSB.cell 5;have sb6:=hSB.cell 6;have sb7:=hSB.cell 7;have sb8:=hSB.cell 8;have sb9:=hSB.cell 9;have sb10:=hSB.cell 10;(simp at hlk sa0 sc0 sd0 sb0 sb1 sb2 sb3 sb4 sb5 sb6 sb7 sb8 sb9 sb10));go_simp;(try with_reducible rfl)));(try simp only [Act.put,pqs]);refine rgT 5 ?_ rfl (fun w' hSw => ?_) ?_;rotate_left;(focus ((try dsimp only at hSw);(obtain ⟨hSA,hSB,hSC,hSD,hSE,hSF,es',hSG,hSH⟩:=hSw;have hlk:=run_look_k j0 j1 j2 j3 _ _ _ hSG;rw [hSH] at hlk;clear hSG hSH;have sa0:=hSA.cell 0;have sc0:=hSC.cell 0;have sd0:=hSD.cell 0;have sb0:=hSB.cell 0;have sb1:=hSB.cell 1;have sb2:=hSB.cell 2;have sb3:=hSB.cell 3;have sb4:=hSB.cell 4;have sb5:=hSB.cell 5;have sb6:=hSB.cell 6;have sb7:=hSB.cell 7;have sb8:=hSB.cell 8;have sb9:=hSB.cell 9;have sb10:=hSB.cell 10;(simp at hlk sa0 sc0 sd0 sb0 sb1 sb2 sb3 sb4 sb5 sb6 sb7 sb8 sb9 sb10));go_simp;(try with_reducible rfl)));(try simp only [Act.put,pqs]);refine rgT 6 ?_ rfl (fun w' hSw => ?_) ?_;rotate_left;(focus ((try dsimp only at hSw);(obtain ⟨hSA,hSB,hSC,hSD,hSE,hSF,es',hSG,hSH⟩:=hSw;have hlk:=run_look_k j0 j1 j2 j3 _ _ _ hSG;rw [hSH] at hlk;clear hSG hSH;have sa0:=hSA.cell 0;have sc0:=hSC.cell 0;have sd0:=hSD.cell 0;have sb0:=hSB.cell 0;have sb1:=hSB.cell 1;have sb2:=hSB.cell 2;have sb3:=hSB.cell 3;have sb4:=hSB.cell 4;have sb5:=hSB.cell 5;have sb6:=hSB.cell 6;have sb7:=hSB.cell 7;have sb8:=hSB.cell 8;have sb9:=hSB.cell 9;have sb10:=hSB.cell 10;(simp at hlk sa0 sc0 sd0 sb0 sb1 sb2 sb3 sb4 sb5 sb6 sb7 sb8 sb9 sb10));go_simp;(try with_reducible rfl)));(try simp only [Act.put,pqs]);refine rgN 7 rfl ?_;refine rgN 8 rfl ?_;refine rgT 9 ?_ rfl (fun w' hSw => ?_) ?_;rotate_left;(focus ((try dsimp only at hSw);(obtain ⟨hSA,hSB,hSC,hSD,hSE,hSF,es',hSG,hSH⟩:=hSw;have hlk:=run_look_k j0 j1 j2 j3 _ _ _ hSG;rw [hSH] at hlk;clear hSG hSH;have sa0:=hSA.cell 0;have sc0:=hSC.cell 0;have sd0:=hSD.cell 0;have sb0:=hSB.cell 0;have sb1:=hSB.cell 1;have sb2:=hSB.cell 2;have sb3:=hSB.cell 3;have sb4:=hSB.cell 4;have sb5:=hSB.cell 5;have sb6:=hSB.cell 6;have sb7:=hSB.cell 7;have sb8:=hSB.cell 8;have sb9:=hSB.cell 9;have sb10:=hSB.cell 10;(simp at hlk sa0 sc0 sd0 sb0 sb1 sb2 sb3 sb4 sb5 sb6 sb7 sb8 sb9 sb10));go_simp;(try with_reducible rfl)));(try simp only [Act.put,pqs]);refine rgC 3 rfl (fun K hK => ?_);go_simp;(first | (go_at_call 118;(with_reducible refine (K1c.out _ ?_).mono ?_);rotate_left;rintro e w5 ⟨rfl,hb5⟩;rotate_left;(focus (exact bB0));have hz5 : w3.heap.size ≤ w5.heap.size:=(by have:=hb5.size;(try simp at this);omega);have M5 : KMap w5 (h + 1) es:=(M3.drew).below hb5 M3.lt;have y95 : w5.cell? ⟨gR,i * 11 + 9,none⟩ = some (.int .i64 y1):=(hb5.cell (p:=⟨gR,i * 11 + 9,none⟩) hgl).trans y9;have y15 : w5.cell? ⟨gR,i * 11 + 10,none⟩ = some (.slice AY Y2.length cY):=(hb5.cell (p:=⟨gR,i * 11 + 10,none⟩) hgl).trans y10) | (go_at_call 118;(with_reducible refine (K2c.out _ ?_).mono ?_);rotate_left;rintro e w6 ⟨rfl,hb6⟩;rotate_left;(focus (exact bB1 hb5));have hz6 : w5.heap.size ≤ w6.heap.size:=(by have:=hb6.size;(try simp at this);omega);have M6 : KMap w6 (h + 1) es:=M5.below hb6 M5.lt;have y96 : w6.cell? ⟨gR,i * 11 + 9,none⟩ = some (.int .i64 y1):=(hb6.cell (p:=⟨gR,i * 11 + 9,none⟩) (by show gR < w5.heap.size;omega)).trans y95;have y16 : w6.cell? ⟨gR,i * 11 + 10,none⟩ = some (.slice AY Y2.length cY):=(hb6.cell (p:=⟨gR,i * 11 + 10,none⟩) (by show gR < w5.heap.size;omega)).trans y15));go_simp;refine hK.out _ _ ?_ (fun hHeld => ?_);(focus ((try dsimp only);((refine ⟨?_, ?_, ?_, ?_, ?_, ?_, ?_⟩;(first | (exact u1.put (by omega) _) | ((first | exact bX2 hb5 hb6 | exact bX1 hb5 | exact bX1 hb6 | exact bX0)));(first | (exact u2.put (by omega) _) | ((first | exact bX2 hb5 hb6 | exact bX1 hb5 | exact bX1 hb6 | exact bX0)));(first | (exact u3.put (by omega) _) | ((first | exact bX2 hb5 hb6 | exact bX1 hb5 | exact bX1 hb6 | exact bX0)));(first | (exact u4.put (by omega) _) | ((first | exact bX2 hb5 hb6 | exact bX1 hb5 | exact bX1 hb6 | exact bX0)));(first | (exact (cell_same (World.putObj_heap_other (by omega)) _).trans u5) | exact y96 | exact y95 | exact y9);(first | (exact (cell_same (World.putObj_heap_other (by omega)) _).trans u6) | exact y16 | exact y15 | exact y10);(first | (exact ⟨_,M6.put _ _,lkp_some_app HD.out⟩) | exact ⟨es,M6,HD.out⟩ | exact ⟨es,M5,HD.out⟩ | exact ⟨es,M3.drew,HD.out⟩)))));clear hK K;(try simp only [Act.put,pqs]);refine rgC 10 rfl (fun K hK => ?_);go_simp;(first | (go_at_call 118;(with_reducible refine (K1c.out _ ?_).mono ?_);rotate_left;rintro e w5 ⟨rfl,hb5⟩;rotate_left;(focus (exact bB0));have hz5 : w3.heap.size ≤ w5.heap.size:=(by have:=hb5.size;(try simp at this);omega);have M5 : KMap w5 (h + 1) es:=(M3.drew).below hb5 M3.lt;have y95 : w5.cell? ⟨gR,i * 11 + 9,none⟩ = some (.int .i64 y1):=(hb5.cell (p:=⟨gR,i * 11 + 9,none⟩) hgl).trans y9;have y15 : w5.cell? ⟨gR,i * 11 + 10,none⟩ = some (.slice AY Y2.length cY):=(hb5.cell (p:=⟨gR,i * 11 + 10,none⟩) hgl).trans y10) | (go_at_call 118;(with_reducible refine (K2c.out _ ?_).mono ?_);rotate_left;rintro e w6 ⟨rfl,hb6⟩;rotate_left;(focus (exact bB1 hb5));have hz6 : w5.heap.size ≤ w6.heap.size:=(by have:=hb6.size;(try simp at this);omega);have M6 : KMap w6 (h + 1) es:=M5.below hb6 M5.lt;have y96 : w6.cell? ⟨gR,i * 11 + 9,none⟩ = some (.int .i64 y1):=(hb6.cell (p:=⟨gR,i * 11 + 9,none⟩) (by show gR < w5.heap.size;omega)).trans y95;have y16 : w6.cell? ⟨gR,i * 11 + 10,none⟩ = some (.slice AY Y2.length cY):=(hb6.cell (p:=⟨gR,i * 11 + 10,none⟩) (by show gR < w5.heap.size;omega)).trans y15));go_simp;refine hK.out _ _ ?_ (fun hHeld => ?_);(focus ((try dsimp only);((refine ⟨?_, ?_, ?_, ?_, ?_, ?_, ?_⟩;(first | (exact u1.put (by omega) _) | ((first | exact bX2 hb5 hb6 | exact bX1 hb5 | exact bX1 hb6 | exact bX0)));(first | (exact u2.put (by omega) _) | ((first | exact bX2 hb5 hb6 | exact bX1 hb5 | exact bX1 hb6 | exact bX0)));(first | (exact u3.put (by omega) _) | ((first | exact bX2 hb5 hb6 | exact bX1 hb5 | exact bX1 hb6 | exact bX0)));(first | (exact u4.put (by omega) _) | ((first | exact bX2 hb5 hb6 | exact bX1 hb5 | exact bX1 hb6 | exact bX0)));(first | (exact (cell_same (World.putObj_heap_other (by omega)) _).trans u5) | exact y96 | exact y95 | exact y9);(first | (exact (cell_same (World.putObj_heap_other (by omega)) _).trans u6) | exact y16 | exact y15 | exact y10);(first | (exact ⟨_,M6.put _ _,lkp_some_app HD.out⟩) | exact ⟨es,M6,HD.out⟩ | exact ⟨es,M5,HD.out⟩ | exact ⟨es,M3.drew,HD.out⟩)))));clear hK K;(try simp only [Act.put,pqs]);refine rgT 11 ?_ rfl (fun w' hSw => ?_) ?_;rotate_left;(focus ((try dsimp only at hSw);(obtain ⟨hSA,hSB,hSC,hSD,hSE,hSF,es',hSG,hSH⟩:=hSw;have hlk:=run_look_k j0 j1 j2 j3 _ _ _ hSG;rw [hSH] at hlk;clear hSG hSH;have sa0:=hSA.cell 0;have sc0:=hSC.cell 0;have sd0:=hSD.cell 0;have sb0:=hSB.cell 0;have sb1:=hSB.cell 1;have sb2:=hSB.cell 2;have sb3:=hSB.cell 3;have sb4:=hSB.cell 4;have sb5:=hSB.cell 5;have sb6:=hSB.cell 6;have sb7:=hSB.cell 7;have sb8:=hSB.cell 8;have sb9:=hSB.cell 9;have sb10:=hSB.cell 10;(simp at hlk sa0 sc0 sd0 sb0 sb1 sb2 sb3 sb4 sb5 sb6 sb7 sb8 sb9 sb10));go_simp;(try with_reducible rfl)));(try simp only [Act.put,pqs]);refine rgN 12 rfl ?_;refine rgC 13 rfl (fun K hK => ?_);go_simp;((have hput:=run_put_k k0 k1 k2 k3 (d + 1) w6 (h + 1) es M6 HF.out;have hT:=hHeld;obtain ⟨u1,u2,u3,u4,u5,u6,u7⟩:=hT));go_simp;refine hK.out _ _ ?_ (fun hHeld => ?_);(focus ((try dsimp only);((refine ⟨?_, ?_, ?_, ?_, ?_, ?_, ?_⟩;(first | (exact u1.put (by omega) _) | ((first | exact bX2 hb5 hb6 | exact bX1 hb5 | exact bX1 hb6 | exact bX0)));(first | (exact u2.put (by omega) _) | ((first | exact bX2 hb5 hb6 | exact bX1 hb5 | exact bX1 hb6 | exact bX0)));(first | (exact u3.put (by omega) _) | ((first | exact bX2 hb5 hb6 | exact bX1 hb5 | exact bX1 hb6 | exact bX0)));(first | (exact u4.put (by omega) _) | ((first | exact bX2 hb5 hb6 | exact bX1 hb5 | exact bX1 hb6 | exact bX0)));(first | (exact (cell_same (World.putObj_heap_other (by omega)) _).trans u5) | exact y96 | exact y95 | exact y9);(first | (exact (cell_same (World.putObj_heap_other (by omega)) _).trans u6) | exact y16 | exact y15 | exact y10);(first | (exact ⟨_,M6.put _ _,lkp_some_app HD.out⟩) | exact ⟨es,M6,HD.out⟩ | exact ⟨es,M5,HD.out⟩ | exact ⟨es,M3.drew,HD.out⟩)))));clear hK K;(try simp only [Act.put,pqs]);refine wpAnyH_done (Q:=fun e a w => e = Exit.normal ∧ R a w) kR ⟨rfl,hR _ _ ?_⟩ _;clear hR R)
    generalize hW7 : w6.putObj (h + 1) (putK w6 (h + 1) (k0,k1,k2,k3) (d + 1)) = W7 at *
    have R7 : Box W7 h 162 #[.slice (some ⟨gR,0,none⟩) bs.length cA]:=by rw [← hW7];exact u3.put (by omega) _
    have X7 : Box W7 gB 135 #[.int .i64 bx,.int .i64 bY,.int .i64 sl,.slice AL L.length cL,.int .i64 fx,.int .i64 fX,.int .i64 fy,.int .i64 fY,.slice AB B.length cB,.int .i64 P1,.slice (some ⟨gQ,0,none⟩) P2.length capQ]:=by rw [← hW7];exact u2.put (by omega) _
    have M7 : KMap W7 (h + 1) (es ++ [((k0,k1,k2,k3),d + 1)]):=by rw [← hW7];exact M6.put _ _
    have hz7 : w6.heap.size = W7.heap.size:=by rw [← hW7];simp [World.putObj]
    have S7 : FStep h w6 W7:=by rw [← hW7];exact FStep.put _ _
    have B7 : Below U w0 W7:=by rw [← hW7];exact below_putObj (by exact bB3 HI3.out.below hb5 hb6) (by omega) _
    have O7 : W7.ownsRow U 135 11 (.slice (some ⟨gR,0,none⟩) bs.length cA) bs.length (bs.flatMap (arV (⟨bx,bY,sl,L,(fx,fX,fy,fY),B⟩ : Sc) AL AB cL cB)):=by
      rw [← hW7]
      refine own_same (own_below (own_below (own_below R2 (Below.drew (Below.refl _ _))) hb5) hb6) (fun g hg => World.putObj_heap_other ?_)
      have e : gR = g:=by simpa [Value.ownBlock] using hg
      omega
    clear hW7 hput
    obtain ⟨q0,zA,hq0,hy0,hy1,hy2,hy3⟩:=infoOk_parts infoA
    have hm1 : bs.length + 1 ≤ maxLen:=by unfold maxLen;omega
    have hm2 : (bs.length + 1) * 136 ≤ 140737488355328:=by omega
    have r0:=R7.cell 0
    have x0:=X7.cell 0;have x1:=X7.cell 1;have x2:=X7.cell 2;have x3:=X7.cell 3;have x4:=X7.cell 4;have x5:=X7.cell 5;have x6:=X7.cell 6;have x7:=X7.cell 7;have x8:=X7.cell 8;have x9:=X7.cell 9;have x10:=X7.cell 10
    simp at r0 x0 x1 x2 x3 x4 x5 x6 x7 x8 x9 x10
    have lR7:=R7.lt;have lX7:=X7.lt
    have gH : gR ≠ h:=by
      rintro rfl
      have:=(show W7.heap[_]? = _ from R7)
      obtain ⟨cs',hcs'⟩:=own_some O7
      rw [show W7.heap[_]? = _ from hcs'] at this
      cases this
    gi_wp2_with (gi_at_builtin;go_loud (refine wpListIn_append_own_at _ rfl _ _ 162 rfl U 135 q0 _ 11 136 Tryz.underlying162 hq0 hy0 hy1 hy2 hy3 (by decide) _ _ _ rfl (O7.alloc _) ⟨W7.heap.size,0,none⟩ 1 1 [.int .i64 bx,.int .i64 bY,.int .i64 sl,.slice AL L.length cL,.int .i64 fx,.int .i64 fX,.int .i64 fy,.int .i64 fY,.slice AB B.length cB,.int .i64 P1,.slice (some ⟨gQ,0,none⟩) P2.length capQ] rfl rfl (cells_new W7 [.int .i64 bx,.int .i64 bY,.int .i64 sl,.slice AL L.length cL,.int .i64 fx,.int .i64 fX,.int .i64 fy,.int .i64 fY,.slice AB B.length cB,.int .i64 P1,.slice (some ⟨gQ,0,none⟩) P2.length capQ] _) (by simp [Value.oneCell']) hm1 hm2 (by simp;omega) ?_);go_loud (intro v' w8 hown8 hgrow8 hnil hblk);go_loud (obtain ⟨gN,capN,rfl,hgN,hgN2⟩:=own_pos hown8 (by omega) (by omega));go_loud (have R8:=box_gr (R7.alloc (.cells #[.int .i64 bx,.int .i64 bY,.int .i64 sl,.slice AL L.length cL,.int .i64 fx,.int .i64 fX,.int .i64 fy,.int .i64 fY,.slice AB B.length cB,.int .i64 P1,.slice (some ⟨gQ,0,none⟩) P2.length capQ] 135)) hgrow8 gH.symm);go_loud (have r8:=R8.cell 0;have f8:=R8.froz 0);(simp at r8))
    have S36 : FStep h w3 w6:=(FStep.of_below lH (show Below w3.heap.size w3 w5 from by exact bB1 hb5)).trans (FStep.of_below (by omega) hb6)
    have S79 : FStep h W7 (w8.setCell ⟨h,0,none⟩ (.slice (some ⟨gN,0,none⟩) (bs.length + 1) capN)) :=
      (FStep.of_below lR7 (show Below W7.heap.size W7 (W7.alloc (.cells #[.int .i64 bx,.int .i64 bY,.int .i64 sl,.slice AL L.length cL,.int .i64 fx,.int .i64 fX,.int .i64 fy,.int .i64 fY,.slice AB B.length cB,.int .i64 P1,.slice (some ⟨gQ,0,none⟩) P2.length capQ] 135)) from by exact bB0)).trans (FStep.grown (R7.alloc _) gH.symm hgrow8 (hblk.imp (fun e => Option.some.inj e) (fun e => Nat.le_of_eq (Option.some.inj e).symm)))
    have SA:=(S36.trans S7).trans S79
    have hfl : fl1 d a (P1,P2) = (es ++ [((k0,k1,k2,k3),d + 1)],a.2 ++ [(P1,P2)]):=by
      unfold fl1
      rw [HE.out,HK.out,HF.out]
      rfl
    have gNh : gN ≠ h:=by
      obtain ⟨cs',hcs'⟩:=own_some hown8
      exact box_ne hcs' R8 (by decide)
    have hrow : rowB h w3 = some gR:=rowB_box R1
    have I3:=HI3.out
    refine HQ2.out _ _ _ _ _ _ _ _ _ _ _ _ _ _ _ _ _ _ _ _ _ _ _ _ _ _ _ _ _ _ _ _ _ _ _ _ _ _ _ _ _ _ _ _ _ _ _ _ _ _ _ _ _ _ _ _ _ _ _ _ _ _ _ _ ?fi ((FStep.of_below (by omega) hB3).trans SA)
    rw [hfl]
    refine ⟨⟨some ⟨gN,0,none⟩,capN,(R8.set 0 _).congr (by simp), ?own⟩, ?bm, ?mm, ?ps, ?qs, ?bi,hBi,hU, ?bel⟩
    case own =>
      have:=own_far (p:=⟨h,0,none⟩) (u:=.slice (some ⟨gN,0,none⟩) (bs.length + 1) capN) hown8 gNh
      simpa [List.flatMap_append,arV] using this
    case bm => exact SA.box BM3 (by omega) (by omega) (by rw [hrow];intro e;exact box_ne hcsR BM3 (by decide) (Option.some.inj e))
    case bi => exact SA.box BI (by omega) (by omega) (by rw [hrow];intro e;exact box_ne hcsR BI (by decide) (Option.some.inj e))
    case mm => exact ((M7.alloc _).grown hgrow8 gM).setCell _ _
    case ps => rw [List.map_append,I3.ps];rfl
    case qs =>
      intro x hx
      rcases List.mem_append.1 hx with hx | hx
      · exact (I3.qs x hx).step hU SA R1 R2 (by decide) ⟨_,M3⟩
      · have e : x = ((P1,P2),some ⟨gQ,0,none⟩,capQ):=by simpa using hx
        subst e
        exact (HQn.same hB3.size (fun b off _ hlt => hB3.block b hlt)).step hU SA R1 R2 (by decide) ⟨_,M3⟩
    case bel => exact Below.setCell (p:=⟨h,0,none⟩) ((B7.alloc (by omega) _).grown hgrow8 (by simp;omega) (fun k e => by have e : some gR = some k:=e;cases e;exact hgR)) hU _
end Go.Proofs.YtpnfgmgoafgcbaaGreat

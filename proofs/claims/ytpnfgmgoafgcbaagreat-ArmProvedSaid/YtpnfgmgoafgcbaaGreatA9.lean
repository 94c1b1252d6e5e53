/-
  The texts Dn1, Fl4, Dn2 in one.
-/
import Derived.Test.YtpnfgmgoafgcbaaGreatA8
import Derived.Sort.CutIn
set_option linter.all false
/-
  The way downhill (chapter 6): in plain words, and one pose behind a move.
-/
set_option linter.unusedVariables false
namespace Go.Proofs.YtpnfgmgoafgcbaaGreat
open Go.RowKit Go.Shelf
attribute [local go_sem] Oper.semAt_some
/-- The lexicographically first way along which the number falls. -/
def dnP (s : Sc) (es : List (Ky × Int)) : Nat → Ps → List Mv
  | 0,_ => []
  | n + 1,p => match (allK s p).find? (fun x => lkp es (kyP x.2) == some (n : Int)) with
    | some x => x.1 :: dnP s es n x.2
    | none => []
def mvV (m : Mv) : List Value:=[.int .i64 m.1,.int .i64 m.2]
structure DI (s : Sc) (AL AB : Option Addr) (cL cB h Bl Bo gM : Nat) (w0 : World) (es : List (Ky × Int)) (p : Ps) (AQ : Option Addr) (cQ : Nat) (left : Int) (out : List Mv) (W : World) : Prop where
  boxA : Box W h 135 #[.int .i64 s.bx,.int .i64 s.bY,.int .i64 s.sl,.slice AL s.L.length cL,.int .i64 s.F.1,.int .i64 s.F.2.1,.int .i64 s.F.2.2.1,.int .i64 s.F.2.2.2,.slice AB s.B.length cB,.int .i64 p.1,.slice AQ p.2.length cQ]
  boxF : Box W (h + 1) 161 #[.map (some gM)]
  boxL : Box W Bl 3 #[.int .i64 left]
  row : ∃ A c,Box W Bo 34 #[.slice A out.length c] ∧ W.ownsRow h 84 2 (.slice A out.length c) out.length (out.flatMap mvV)
  mapM : KMap w0 gM es
  q : SlI W AQ p.2 ∧ ∃ b off,AQ = some ⟨b,off,none⟩ ∧ (b < h ∨ (∃ cs,Box W b 3 cs) ∧ b ≠ Bl)
  hl : h + 2 ≤ Bl ∧ h + 2 ≤ Bo
  hz : h = w0.heap.size
  below : Below h w0 W
theorem DI.keep {s : Sc} {AL AB : Option Addr} {cL cB h Bl Bo gM : Nat} {w0 : World} {es : List (Ky × Int)} {p : Ps} {AQ : Option Addr} {cQ : Nat} {left : Int} {out : List Mv} {W W' : World} (hI : DI s AL AB cL cB h Bl Bo gM w0 es p AQ cQ left out W) (hb : Below W.heap.size W W') : DI s AL AB cL cB h Bl Bo gM w0 es p AQ cQ left out W':=by
  obtain ⟨a,f,l,⟨A,c,r1,r2⟩,m,⟨q1,b,off,e,q2⟩,h1,h2,h3⟩:=hI
  exact ⟨a.below hb a.lt,f.below hb f.lt,l.below hb l.lt,⟨A,c,r1.below hb r1.lt,own_below r2 hb⟩,m,⟨q1.below hb,b,off,e,q2.imp id (fun ⟨⟨cs,hc⟩,hn⟩ => ⟨⟨cs,hc.below hb hc.lt⟩,hn⟩)⟩,h1,h2,h3.trans (hb.mono (by have:=a.lt;omega))⟩
theorem DI.map {s : Sc} {AL AB : Option Addr} {cL cB h Bl Bo gM : Nat} {w0 : World} {es : List (Ky × Int)} {p : Ps} {AQ : Option Addr} {cQ : Nat} {left : Int} {out : List Mv} {W : World} (hI : DI s AL AB cL cB h Bl Bo gM w0 es p AQ cQ left out W) : KMap W gM es :=
  hI.mapM.below hI.below (by have:=hI.mapM.lt;have:=hI.hz;omega)
theorem infoM : infoOk Tryz.prog 84 2 16 = true:=by kernel_rfl
theorem box_og {W W' : World} {k b n sz : Nat} {t e : TypeId} {cs : Array Value} {v : Value} {xs : List Value} (h : Box W k t cs) (ho : W.ownsRow b e sz v n xs) (ht : t ≠ e) (hg : W.grownBy W' v.ownBlock) : Box W' k t cs:=by
  refine (hg.block k h.lt fun e1 => ?_).trans h
  rcases ho.2 with ⟨e2,_⟩ | ⟨g,cap,cur,e2,_,hh,_⟩
  · rw [e2] at e1;cases e1
  · rw [e2] at e1
    cases e1
    rw [show W.heap[_]? = _ from h] at hh
    cases hh
    exact ht rfl
theorem kf_own {W W' : World} {B b n sz : Nat} {e : TypeId} {v : Value} {xs : List Value} (ho : W.ownsRow b e sz v n xs) (hg : W.grownBy W' v.ownBlock) : KeepsFrom B W W':=by
  refine ⟨hg.size,fun k o _ hk hc => (hg.block k (Array.getElem?_eq_some_iff.1 hk).1 fun e1 => ?_).trans hk⟩
  rcases ho.2 with ⟨e2,_⟩ | ⟨g,cap,cur,e2,_,hh,_⟩
  · rw [e2] at e1;cases e1
  · rw [e2] at e1
    cases e1
    rw [hh] at hk
    cases hk
    cases hc
noncomputable def dBody : Code:=(Tryz.f109.body.bind firstRangeB).getD .skip
set_option maxHeartbeats 4000000 in
set_option maxRecDepth 100000 in
theorem dbody_c (l1 m h Bl Bo gM gm gB gQ capQ : Nat) (bx bY sl fx fX fy fY P1 mj mb left : Int) (L : List Lk) (B : List Bx) (P2 : List Int) (AL AB AQ : Option Addr) (cL cB cQ : Nat) (w0 W : World) (es : List (Ky × Int)) (p : Ps) (out : List Mv) (PQ : Exit → Act → World → Prop)
    (hl : 0 < P2.length) (hl3 : P2.length ≤ 3) (hI : DI (⟨bx,bY,sl,L,(fx,fX,fy,fY),B⟩ : Sc) AL AB cL cB h Bl Bo gM w0 es p AQ cQ left out W) (hX : Box W gB 135 #[.int .i64 bx,.int .i64 bY,.int .i64 sl,.slice AL L.length cL,.int .i64 fx,.int .i64 fX,.int .i64 fy,.int .i64 fY,.slice AB B.length cB,.int .i64 P1,.slice (some ⟨gQ,0,none⟩) P2.length capQ]) (hm : Box W gm 84 #[.int .i64 mj,.int .i64 mb]) (hB : h + 2 ≤ gB) (hBl : Bl ≠ gQ) (hgm : h + 2 ≤ gm) (hQ : SlI W (some ⟨gQ,0,none⟩) P2) (hQb : ∃ cs,Box W gQ 3 cs) (hlf : 0 < left ∧ left ≤ 1000) (ho : out.length ≤ 1000)
    (hQ1 : ∀ (W' : World) (t0 t1 t4 t5 t7 t11 t12 t13 t14 t15 t16 t17 t18 t19 t20 t21 t22 t23 t24 t25 t26 t27 t28 t29 t30 t31 t32 t33 t34 t35 t36 t37 t38 t39 t40 t41 t42 t43 t44 t45 t46 t47 t48 t49 t50 : Value),lkp es (kyP (P1,P2)) ≠ some (left - 1) → Below W.heap.size W W' → PQ .normal ⟨#[t0,t1,Value.pointer (some ⟨h,0,none⟩),Value.pointer (some ⟨h + 1,0,none⟩),t4,t5,Value.pointer (some ⟨Bl,0,none⟩),t7,Value.pointer (some ⟨Bo,0,none⟩),Value.pointer (some ⟨gm,0,none⟩),Value.pointer (some ⟨gB,0,none⟩),t11,t12,t13,t14,t15,t16,t17,t18,t19,t20,t21,t22,t23,t24,t25,t26,t27,t28,t29,t30,t31,t32,t33,t34,t35,t36,t37,t38,t39,t40,t41,t42,t43,t44,t45,t46,t47,t48,t49,t50],[]⟩ W')
    (hQ2 : ∀ (W' : World) (t0 t1 t4 t5 t7 t11 t12 t13 t14 t15 t16 t17 t18 t19 t20 t21 t22 t23 t24 t25 t26 t27 t28 t29 t30 t31 t32 t33 t34 t35 t36 t37 t38 t39 t40 t41 t42 t43 t44 t45 t46 t47 t48 t49 t50 : Value),lkp es (kyP (P1,P2)) = some (left - 1) → DI (⟨bx,bY,sl,L,(fx,fX,fy,fY),B⟩ : Sc) AL AB cL cB h Bl Bo gM w0 es (P1,P2) (some ⟨gQ,0,none⟩) capQ (left - 1) (out ++ [(mj,mb)]) W' → KeepsFrom h W W' → PQ (.exit 2) ⟨#[t0,t1,Value.pointer (some ⟨h,0,none⟩),Value.pointer (some ⟨h + 1,0,none⟩),t4,t5,Value.pointer (some ⟨Bl,0,none⟩),t7,Value.pointer (some ⟨Bo,0,none⟩),Value.pointer (some ⟨gm,0,none⟩),Value.pointer (some ⟨gB,0,none⟩),t11,t12,t13,t14,t15,t16,t17,t18,t19,t20,t21,t22,t23,t24,t25,t26,t27,t28,t29,t30,t31,t32,t33,t34,t35,t36,t37,t38,t39,t40,t41,t42,t43,t44,t45,t46,t47,t48,t49,t50],[]⟩ W') (t0 t1 t4 t5 t7 t11 t12 t13 t14 t15 t16 t17 t18 t19 t20 t21 t22 t23 t24 t25 t26 t27 t28 t29 t30 t31 t32 t33 t34 t35 t36 t37 t38 t39 t40 t41 t42 t43 t44 t45 t46 t47 t48 t49 t50 : Value) :
    dBody.wpIn (Fence.wide.inRound l1) m Tryz.prog PQ ⟨#[t0,t1,Value.pointer (some ⟨h,0,none⟩),Value.pointer (some ⟨h + 1,0,none⟩),t4,t5,Value.pointer (some ⟨Bl,0,none⟩),t7,Value.pointer (some ⟨Bo,0,none⟩),Value.pointer (some ⟨gm,0,none⟩),Value.pointer (some ⟨gB,0,none⟩),t11,t12,t13,t14,t15,t16,t17,t18,t19,t20,t21,t22,t23,t24,t25,t26,t27,t28,t29,t30,t31,t32,t33,t34,t35,t36,t37,t38,t39,t40,t41,t42,t43,t44,t45,t46,t47,t48,t49,t50],[]⟩ W:=by
  have KYc:=Lib.hid (fun w' (h : Below W.heap.size W w') => key_c P1 P2 (some ⟨gQ,0,none⟩) capQ w' hl hl3 (hQ.below h))
  obtain ⟨k0,k1,k2,k3,hk⟩ : ∃ k0 k1 k2 k3,kyP (P1,P2) = (k0,k1,k2,k3):=⟨_,_,_,_,rfl⟩
  have hkv : kyV (P1,P2) = #[.int .i64 k0,.int .i64 k1,.int .i64 k2,.int .i64 k3]:=by
    have:=kyP_V (P1,P2);rw [hk] at this;exact Value.agg.inj this
  rw [hkv] at KYc
  have BF:=hI.boxF
  have M0:=hI.map
  have HI:=Lib.hid hI
  have HQ1:=Lib.hid hQ1
  have HQ2:=Lib.hid hQ2
  have HQ:=Lib.hid hQ
  have HQb:=Lib.hid hQb
  have lA:=hI.boxA.lt;have lL:=hI.boxL.lt
  obtain ⟨hl0,hl1⟩:=hI.hl
  clear hkv hQ hI hQ1 hQ2 hQb
  have m0:=BF.cell 0
  have c0:=hX.cell 0;have c1:=hX.cell 1;have c2:=hX.cell 2;have c3:=hX.cell 3;have c4:=hX.cell 4;have c5:=hX.cell 5;have c6:=hX.cell 6;have c7:=hX.cell 7;have c8:=hX.cell 8;have c9:=hX.cell 9;have c10:=hX.cell 10
  have mm0:=hm.cell 0;have mm1:=hm.cell 1
  simp at m0 c0 c1 c2 c3 c4 c5 c6 c7 c8 c9 c10 mm0 mm1
  have lM:=BF.lt;have lX:=hX.lt;have lK:=M0.lt;have lm:=hm.lt
  obtain ⟨hlf0,hlf1⟩:=hlf
  unfold dBody
  conv => arg 4;whnf
  dsimp only
  cases hf : lkp es (k0,k1,k2,k3) with
  | none =>
    gi_wp2_with fail;(refine region_round kR kR (fun R hR => ?_);refine heldR (S:=(fun w' => Box w' (h + 1) 161 #[.map (some gM)] ∧ Box w' gB 135 #[.int .i64 bx,.int .i64 bY,.int .i64 sl,.slice AL L.length cL,.int .i64 fx,.int .i64 fX,.int .i64 fy,.int .i64 fY,.slice AB B.length cB,.int .i64 P1,.slice (some ⟨gQ,0,none⟩) P2.length capQ] ∧ KMap w' gM es)) ?_ (fun hHeld => ?_);(focus ((try dsimp only);((refine ⟨?_, ?_, ?_⟩;((first | exact bX0 | exact bX1 hb3));((first | exact bX0 | exact bX1 hb3));(first | exact M3 | exact M0.drew | exact M0)))));have hO:=Lib.hid (fun w' (hSw : (fun w' => Box w' (h + 1) 161 #[.map (some gM)] ∧ Box w' gB 135 #[.int .i64 bx,.int .i64 bY,.int .i64 sl,.slice AL L.length cL,.int .i64 fx,.int .i64 fX,.int .i64 fy,.int .i64 fY,.slice AB B.length cB,.int .i64 P1,.slice (some ⟨gQ,0,none⟩) P2.length capQ] ∧ KMap w' gM es) w') => (by (try dsimp only at hSw);(obtain ⟨hSA,hSB,hSC⟩:=hSw;have hlk:=run_look_k2 k0 k1 k2 k3 _ _ _ hSC;have sa0:=hSA.cell 0;have sb0:=hSB.cell 0;have sb1:=hSB.cell 1;have sb2:=hSB.cell 2;have sb3:=hSB.cell 3;have sb4:=hSB.cell 4;have sb5:=hSB.cell 5;have sb6:=hSB.cell 6;have sb7:=hSB.cell 7;have sb8:=hSB.cell 8;have sb9:=hSB.cell 9;have sb10:=hSB.cell 10;(simp at sa0 sb0 sb1 sb2 sb3 sb4 sb5 sb6 sb7 sb8 sb9 sb10));exact And.intro hlk (And.intro sa0 (And.intro sb0 (And.intro sb1 (And.intro sb2 (And.intro sb3 (And.intro sb4 (And.intro sb5 (And.intro sb6 (And.intro sb7 (And.intro sb8 (And.intro sb9 sb10)))))))))))));refine rgL 0 hO rfl ?_;refine rgN 1 rfl ?_;refine rgL 2 hO rfl ?_;refine rgC 3 rfl (fun K hK => ?_);go_simp;((go_at_call 118;refine (KYc.out _ (by exact bB0)).mono ?_;rintro e w3 ⟨rfl,hb3⟩;have hz3 : W.heap.size ≤ w3.heap.size:=(by have:=hb3.size;(try simp at this);omega);have M3 : KMap w3 gM es:=(M0.drew).below hb3 M0.lt));go_simp;refine hK.out _ _ ?_ (fun hHeld => ?_);(focus ((try dsimp only);((refine ⟨?_, ?_, ?_⟩;((first | exact bX1 hb3 | exact bX0));((first | exact bX1 hb3 | exact bX0));(first | exact M3 | exact M0.drew | exact M0)))));clear hK K;(try simp only [Act.put,pqs]);refine rgL 4 hO rfl ?_;refine rgN 5 rfl ?_;refine rgN 6 rfl ?_;refine rgN 7 rfl ?_;refine rgN 8 rfl ?_;refine rgN 9 rfl ?_;refine wpAnyH_done (Q:=fun e a w => e = Exit.normal ∧ R a w) kR ⟨rfl,hR _ _ ?_⟩ _;clear hR R);have hB3 : Below W.heap.size W w3:=(by exact bB1 hb3)
    gi_wp2_with fail
    exact HQ1.out w3 _ _ _ _ _ _ _ _ _ _ _ _ _ _ _ _ _ _ _ _ _ _ _ _ _ _ _ _ _ _ _ _ _ _ _ _ _ _ _ _ _ _ _ _ _ (by rw [hk,hf];exact fun h => nomatch h) hB3
  | some v =>
    have hw1 : IntKind.i64.wrap (left - 1) = left - 1:=IntWalk.i64_in _ (by omega)
    by_cases hv : v = left - 1
    · subst hv
      have hb1 : (left - 1 == left - 1) = true:=by simp
      gi_wp2_with fail;(refine region_round kR kR (fun R hR => ?_);refine heldR (S:=(fun w' => Box w' (h + 1) 161 #[.map (some gM)] ∧ Box w' gB 135 #[.int .i64 bx,.int .i64 bY,.int .i64 sl,.slice AL L.length cL,.int .i64 fx,.int .i64 fX,.int .i64 fy,.int .i64 fY,.slice AB B.length cB,.int .i64 P1,.slice (some ⟨gQ,0,none⟩) P2.length capQ] ∧ KMap w' gM es)) ?_ (fun hHeld => ?_);(focus ((try dsimp only);((refine ⟨?_, ?_, ?_⟩;((first | exact bX0 | exact bX1 hb3));((first | exact bX0 | exact bX1 hb3));(first | exact M3 | exact M0.drew | exact M0)))));have hO:=Lib.hid (fun w' (hSw : (fun w' => Box w' (h + 1) 161 #[.map (some gM)] ∧ Box w' gB 135 #[.int .i64 bx,.int .i64 bY,.int .i64 sl,.slice AL L.length cL,.int .i64 fx,.int .i64 fX,.int .i64 fy,.int .i64 fY,.slice AB B.length cB,.int .i64 P1,.slice (some ⟨gQ,0,none⟩) P2.length capQ] ∧ KMap w' gM es) w') => (by (try dsimp only at hSw);(obtain ⟨hSA,hSB,hSC⟩:=hSw;have hlk:=run_look_k2 k0 k1 k2 k3 _ _ _ hSC;have sa0:=hSA.cell 0;have sb0:=hSB.cell 0;have sb1:=hSB.cell 1;have sb2:=hSB.cell 2;have sb3:=hSB.cell 3;have sb4:=hSB.cell 4;have sb5:=hSB.cell 5;have sb6:=hSB.cell 6;have sb7:=hSB.cell 7;have sb8:=hSB.cell 8;have sb9:=hSB.cell 9;have sb10:=hSB.cell 10;(simp at sa0 sb0 sb1 sb2 sb3 sb4 sb5 sb6 sb7 sb8 sb9 sb10));exact And.intro hlk (And.intro sa0 (And.intro sb0 (And.intro sb1 (And.intro sb2 (And.intro sb3 (And.intro sb4 (And.intro sb5 (And.intro sb6 (And.intro sb7 (And.intro sb8 (And.intro sb9 sb10)))))))))))));refine rgL 0 hO rfl ?_;refine rgN 1 rfl ?_;refine rgL 2 hO rfl ?_;refine rgC 3 rfl (fun K hK => ?_);go_simp;((go_at_call 118;refine (KYc.out _ (by exact bB0)).mono ?_;rintro e w3 ⟨rfl,hb3⟩;have hz3 : W.heap.size ≤ w3.heap.size:=(by have:=hb3.size;(try simp at this);omega);have M3 : KMap w3 gM es:=(M0.drew).below hb3 M0.lt));go_simp;refine hK.out _ _ ?_ (fun hHeld => ?_);(focus ((try dsimp only);((refine ⟨?_, ?_, ?_⟩;((first | exact bX1 hb3 | exact bX0));((first | exact bX1 hb3 | exact bX0));(first | exact M3 | exact M0.drew | exact M0)))));clear hK K;(try simp only [Act.put,pqs]);refine rgL 4 hO rfl ?_;refine rgN 5 rfl ?_;refine rgN 6 rfl ?_;refine rgN 7 rfl ?_;refine rgN 8 rfl ?_;refine rgN 9 rfl ?_;refine wpAnyH_done (Q:=fun e a w => e = Exit.normal ∧ R a w) kR ⟨rfl,hR _ _ ?_⟩ _;clear hR R);have hB3 : Below W.heap.size W w3:=(by exact bB1 hb3)
      have I3:=HI.out.keep hB3
      have X3 : Box w3 gB 135 #[.int .i64 bx,.int .i64 bY,.int .i64 sl,.slice AL L.length cL,.int .i64 fx,.int .i64 fX,.int .i64 fy,.int .i64 fY,.slice AB B.length cB,.int .i64 P1,.slice (some ⟨gQ,0,none⟩) P2.length capQ]:=hX.below hB3 lX
      have m3 : Box w3 gm 84 #[.int .i64 mj,.int .i64 mb]:=hm.below hB3 lm
      obtain ⟨A,c,R1,R2⟩:=I3.row
      have A3:=I3.boxA
      have L3:=I3.boxL
      have fL:=L3.froz 0
      have q0:=L3.cell 0
      have r0:=R1.cell 0
      have x0:=X3.cell 0;have x1:=X3.cell 1;have x2:=X3.cell 2;have x3:=X3.cell 3;have x4:=X3.cell 4;have x5:=X3.cell 5;have x6:=X3.cell 6;have x7:=X3.cell 7;have x8:=X3.cell 8;have x9:=X3.cell 9;have x10:=X3.cell 10
      have mc0:=m3.cell 0;have mc1:=m3.cell 1
      simp at r0 q0 x0 x1 x2 x3 x4 x5 x6 x7 x8 x9 x10 mc0 mc1
      have lA3:=A3.lt;have lL3:=L3.lt;have lR3:=R1.lt;have lX3:=X3.lt;have lm3:=m3.lt
      obtain ⟨u0,zM,hu0,hy0,hy1,hy2,hy3⟩:=infoOk_parts infoM
      have hm1 : out.length + 1 ≤ maxLen:=by unfold maxLen;omega
      have hm2 : (out.length + 1) * 16 ≤ 140737488355328:=by omega
      have HI3:=Lib.hid I3
      clear I3
      gi_wp2_with (gi_at_builtin;go_loud (refine wpListIn_append_own _ rfl _ _ 34 rfl h 84 u0 _ 2 16 Tryz.underlying34 hu0 hy0 hy1 hy2 hy3 (by decide) _ _ _ rfl (R2.alloc _) ⟨w3.heap.size,0,none⟩ 1 1 [.int .i64 mj,.int .i64 mb] rfl rfl (cells_new w3 [.int .i64 mj,.int .i64 mb] _) (by simp [Value.oneCell']) hm1 hm2 (by simp;omega) ?_);intro v' w8 hown8 hgrow8 hnil;go_loud (obtain ⟨gN,capN,rfl,hgN,hgN2⟩:=own_pos hown8 (by omega) (by decide));go_loud (have R8:=box_og (R1.alloc (.cells #[.int .i64 mj,.int .i64 mb] 84)) (R2.alloc _) (by decide) hgrow8;have X8:=box_og (X3.alloc (.cells #[.int .i64 mj,.int .i64 mb] 84)) (R2.alloc _) (by decide) hgrow8;have A8:=box_og (A3.alloc (.cells #[.int .i64 mj,.int .i64 mb] 84)) (R2.alloc _) (by decide) hgrow8;have L8:=box_og (L3.alloc (.cells #[.int .i64 mj,.int .i64 mb] 84)) (R2.alloc _) (by decide) hgrow8;have r8:=R8.cell 0;have f8:=R8.froz 0;have l8:=R8.lt;have lx8:=X8.lt;have la8:=A8.lt;have ll8:=L8.lt;have ga8:=A8.froz;have gl8:=L8.froz;have e0:=L8.cell 0;have y0:=X8.cell 0;have y1:=X8.cell 1;have y2:=X8.cell 2;have y3:=X8.cell 3;have y4:=X8.cell 4;have y5:=X8.cell 5;have y6:=X8.cell 6;have y7:=X8.cell 7;have y8:=X8.cell 8;have y9:=X8.cell 9;have y10:=X8.cell 10;have v0:=A8.cell 0;have v1:=A8.cell 1;have v2:=A8.cell 2;have v3:=A8.cell 3;have v4:=A8.cell 4;have v5:=A8.cell 5;have v6:=A8.cell 6;have v7:=A8.cell 7;have v8:=A8.cell 8;have v9:=A8.cell 9;have v10:=A8.cell 10);(simp at r8 e0 y0 y1 y2 y3 y4 y5 y6 y7 y8 y9 y10 v0 v1 v2 v3 v4 v5 v6 v7 v8 v9 v10);have nXO : gB ≠ Bo:=box_ne X8 R8 (by decide);have nAO : h ≠ Bo:=box_ne A8 R8 (by decide);have nLO : Bl ≠ Bo:=box_ne L8 R8 (by decide);have nAL : h ≠ Bl:=box_ne A8 L8 (by decide))
      obtain ⟨csQ,hcQ⟩:=HQb.out
      have Q8:=box_og ((hcQ.below hB3 hcQ.lt).alloc (.cells #[.int .i64 mj,.int .i64 mb] 84)) (R2.alloc _) (by decide) hgrow8
      have F8:=box_og ((HI3.out.boxF).alloc (.cells #[.int .i64 mj,.int .i64 mb] 84)) (R2.alloc _) (by decide) hgrow8
      have nQO : gQ ≠ Bo:=box_ne Q8 R8 (by decide)
      have nQA : gQ ≠ h:=box_ne Q8 A8 (by decide)
      have nQL : gQ ≠ Bl:=hBl.symm
      have n1 : h + 1 ≠ Bo:=by omega
      have n2 : h + 1 ≠ Bl:=by omega
      obtain ⟨csN,hcN⟩:=own_some hown8
      have nNO : gN ≠ Bo:=box_ne hcN R8 (by decide)
      have nNA : gN ≠ h:=box_ne hcN A8 (by decide)
      have nNL : gN ≠ Bl:=box_ne hcN L8 (by decide)
      have hB8 : Below h w0 w8:=(HI3.out.below.alloc (by omega) _).grown hgrow8 (by simp;omega) (fun k e => ((R2.alloc (.cells #[.int .i64 mj,.int .i64 mb] 84)).lt k e).1)
      have hk8 : KeepsFrom h W w8:=(below_kf hB3).trans (((KeepsOthers.alloc w3 (.cells #[.int .i64 mj,.int .i64 mb] 84)).from _).trans (kf_own (R2.alloc _) hgrow8))
      have hq : SlI w8 (some ⟨gQ,0,none⟩) P2:=HQ.out.same hcQ Q8
      refine HQ2.out _ _ _ _ _ _ _ _ _ _ _ _ _ _ _ _ _ _ _ _ _ _ _ _ _ _ _ _ _ _ _ _ _ _ _ _ _ _ _ _ _ _ _ _ _ _ (by rw [hk,hf]) ⟨?dA, ?dF, ?dL,⟨some ⟨gN,0,none⟩,capN, ?dR, ?dO⟩,HI3.out.mapM,⟨?dQ,gQ,0,rfl,.inr ⟨⟨csQ, ?dB⟩,nQL⟩⟩,⟨hl0,hl1⟩,HI3.out.hz, ?dW⟩ ?dK
      case dA => exact bX0
      case dF => exact bX0
      case dL => exact bX0
      case dR => rw [List.length_append];show Box _ Bo 34 #[.slice (some ⟨gN,0,none⟩) (out.length + 1) capN];exact bX0
      case dO =>
        rw [List.length_append]
        have ho : w8.ownsRow h 84 2 (.slice (some ⟨gN,0,none⟩) (out.length + 1) capN) (out.length + 1) ((out ++ [(mj,mb)]).flatMap mvV):=by simpa [List.flatMap_append,mvV] using hown8
        show World.ownsRow _ h 84 2 (.slice (some ⟨gN,0,none⟩) (out.length + 1) capN) (out.length + 1) _
        (repeat refine own_far ?_ (by first | exact nNL | exact nNA | exact nNO))
        exact ho
      case dQ => exact hq.same Q8 (by exact bX0)
      case dB => exact bX0
      case dW => exact bB1 hB8
      case dK =>
        refine hk8.trans ?_
        (repeat refine KeepsFrom.trans ?_ ((KeepsOthers.setCell _ _ _).from _))
        exact KeepsFrom.refl _ _
    · have hb1 : (v == left - 1) = false:=by simpa using hv
      have HV:=Lib.hid hv
      clear hv
      gi_wp2_with fail;(refine region_round kR kR (fun R hR => ?_);refine heldR (S:=(fun w' => Box w' (h + 1) 161 #[.map (some gM)] ∧ Box w' gB 135 #[.int .i64 bx,.int .i64 bY,.int .i64 sl,.slice AL L.length cL,.int .i64 fx,.int .i64 fX,.int .i64 fy,.int .i64 fY,.slice AB B.length cB,.int .i64 P1,.slice (some ⟨gQ,0,none⟩) P2.length capQ] ∧ KMap w' gM es)) ?_ (fun hHeld => ?_);(focus ((try dsimp only);((refine ⟨?_, ?_, ?_⟩;((first | exact bX0 | exact bX1 hb3));((first | exact bX0 | exact bX1 hb3));(first | exact M3 | exact M0.drew | exact M0)))));have hO:=Lib.hid (fun w' (hSw : (fun w' => Box w' (h + 1) 161 #[.map (some gM)] ∧ Box w' gB 135 #[.int .i64 bx,.int .i64 bY,.int .i64 sl,.slice AL L.length cL,.int .i64 fx,.int .i64 fX,.int .i64 fy,.int .i64 fY,.slice AB B.length cB,.int .i64 P1,.slice (some ⟨gQ,0,none⟩) P2.length capQ] ∧ KMap w' gM es) w') => (by (try dsimp only at hSw);(obtain ⟨hSA,hSB,hSC⟩:=hSw;have hlk:=run_look_k2 k0 k1 k2 k3 _ _ _ hSC;have sa0:=hSA.cell 0;have sb0:=hSB.cell 0;have sb1:=hSB.cell 1;have sb2:=hSB.cell 2;have sb3:=hSB.cell 3;have sb4:=hSB.cell 4;have sb5:=hSB.cell 5;have sb6:=hSB.cell 6;have sb7:=hSB.cell 7;have sb8:=hSB.cell 8;have sb9:=hSB.cell 9;have sb10:=hSB.cell 10;(simp at sa0 sb0 sb1 sb2 sb3 sb4 sb5 sb6 sb7 sb8 sb9 sb10));exact And.intro hlk (And.intro sa0 (And.intro sb0 (And.intro sb1 (And.intro sb2 (And.intro sb3 (And.intro sb4 (And.intro sb5 (And.intro sb6 (And.intro sb7 (And.intro sb8 (And.intro sb9 sb10)))))))))))));refine rgL 0 hO rfl ?_;refine rgN 1 rfl ?_;refine rgL 2 hO rfl ?_;refine rgC 3 rfl (fun K hK => ?_);go_simp;((go_at_call 118;refine (KYc.out _ (by exact bB0)).mono ?_;rintro e w3 ⟨rfl,hb3⟩;have hz3 : W.heap.size ≤ w3.heap.size:=(by have:=hb3.size;(try simp at this);omega);have M3 : KMap w3 gM es:=(M0.drew).below hb3 M0.lt));go_simp;refine hK.out _ _ ?_ (fun hHeld => ?_);(focus ((try dsimp only);((refine ⟨?_, ?_, ?_⟩;((first | exact bX1 hb3 | exact bX0));((first | exact bX1 hb3 | exact bX0));(first | exact M3 | exact M0.drew | exact M0)))));clear hK K;(try simp only [Act.put,pqs]);refine rgL 4 hO rfl ?_;refine rgN 5 rfl ?_;refine rgN 6 rfl ?_;refine rgN 7 rfl ?_;refine rgN 8 rfl ?_;refine rgN 9 rfl ?_;refine wpAnyH_done (Q:=fun e a w => e = Exit.normal ∧ R a w) kR ⟨rfl,hR _ _ ?_⟩ _;clear hR R);have hB3 : Below W.heap.size W w3:=(by exact bB1 hb3)
      have L3:=(HI.out.keep hB3).boxL
      have lL3:=L3.lt
      have q0:=L3.cell 0
      simp at q0
      gi_wp2_with fail
      exact HQ1.out w3 _ _ _ _ _ _ _ _ _ _ _ _ _ _ _ _ _ _ _ _ _ _ _ _ _ _ _ _ _ _ _ _ _ _ _ _ _ _ _ _ _ _ _ _ _ (by rw [hk,hf];exact fun h => HV.out (Option.some.inj h)) hB3
end Go.Proofs.YtpnfgmgoafgcbaaGreat
/-
  The search over poses (chapter 6): the loop over the poses that are found.
-/
set_option linter.unusedVariables false
namespace Go.Proofs.YtpnfgmgoafgcbaaGreat
open Go.RowKit Go.Shelf
attribute [local go_sem] Oper.semAt_some
/-- All loops that are not within another. -/
def loopsOf : Code → List Code
  | .loop c => [c]
  | .seq a b => loopsOf a ++ loopsOf b
  | .cond _ a b => loopsOf a ++ loopsOf b
  | .block _ c => loopsOf c
  | .scope c => loopsOf c
  | _ => []
noncomputable def fLoop : Code:=(((Tryz.f108.body.map loopsOf).getD [])[1]?).getD .skip
theorem arCells {s : Sc} {AL AB : Option Addr} {cL cB U gR capR : Nat} {bs : List Ar} {i : Nat} {y : Ar} {W : World} (h : W.ownsRow U 135 11 (.slice (some ⟨gR,0,none⟩) bs.length capR) bs.length (bs.flatMap (arV s AL AB cL cB))) (hy : bs[i]? = some y) (j : Nat) (hj : j < 11) :
    W.cell? ⟨gR,i * 11 + j,none⟩ = (arV s AL AB cL cB y)[j]?:=by
  have hil : i < bs.length:=(List.getElem?_eq_some_iff.1 hy).1
  have e1:=flatMap11 (f:=arV s AL AB cL cB) (fun x => rfl) bs i j y hy hj
  have h1:=h.cellAt (i * 11 + j) (by omega)
  rw [e1] at h1
  exact h1
theorem FI.next {s : Sc} {AL AB : Option Addr} {cL cB U h Bi Bi' : Nat} {w0 : World} {a : Fl} {bs : List Ar} {i i' : Nat} {W W' : World} (hI : FI s AL AB cL cB U h Bi w0 a bs i W) (hb : Below W.heap.size W W') (hB : W.heap.size ≤ Bi') (hX : Box W' Bi' 3 #[.int .i64 (i' : Int)]) : FI s AL AB cL cB U h Bi' w0 a bs i' W':=by
  have l:=hI.boxI.lt
  have l2:=hI.hBi
  obtain ⟨r,m1,m2,p,q,b,e1,e2,e3⟩:=hI.keep hb
  exact ⟨r,m1,m2,p,q,hX,by omega,e2,e3⟩
set_option maxHeartbeats 4000000 in
set_option maxRecDepth 100000 in
theorem outer_c (h U : Nat) (bx bY sl fx fX fy fY : Int) (L : List Lk) (B : List Bx) (AL AB : Option Addr) (cL cB : Nat) (w0 : World) (F : Fl) (PQ : Exit → Act → World → Prop)
    (hS : SOk (⟨bx,bY,sl,L,(fx,fX,fy,fY),B⟩ : Sc)) (hU : U = w0.heap.size) (hs1 : SlV w0 AL (L.flatMap lkV)) (hs2 : SlV w0 AB (B.flatMap bxV))
    (hQ : ∀ (i Bi : Nat) (ds : List Nat) (bs : List Ar) (W : World) (t0 t2 t3 t5 t6 t8 t9 t10 t11 t12 t13 t14 t15 t16 t17 t18 t19 t20 t21 t22 t23 t24 t25 t26 t27 t28 t29 t30 t31 t32 t33 t34 t35 t36 t37 t38 t39 t40 t41 t42 t43 t44 t45 t46 t47 t48 t49 t50 t51 t52 t53 t54 t55 t56 t57 t58 t59 t60 t61 t62 t63 t64 t65 t66 : Value),FI (⟨bx,bY,sl,L,(fx,fX,fy,fY),B⟩ : Sc) AL AB cL cB U h Bi w0 F bs i W → MarksOk (h + 3) W ds → PQ (.exit 2) ⟨#[t0,Value.pointer (some ⟨h,0,none⟩),t2,t3,Value.pointer (some ⟨h + 2,0,none⟩),t5,t6,Value.pointer (some ⟨Bi,0,none⟩),t8,t9,t10,t11,t12,t13,t14,t15,t16,t17,t18,t19,t20,t21,t22,t23,t24,t25,t26,t27,t28,t29,t30,t31,t32,t33,t34,t35,t36,t37,t38,t39,t40,t41,t42,t43,t44,t45,t46,t47,t48,t49,t50,t51,t52,t53,t54,t55,t56,t57,t58,t59,t60,t61,t62,t63,t64,t65,t66],ds.map mk⟩ W) :
    ∀ (m i Bi : Nat) (a : Fl) (bs : List Ar) (ds : List Nat) (W : World) (t0 t2 t3 t5 t6 t8 t9 t10 t11 t12 t13 t14 t15 t16 t17 t18 t19 t20 t21 t22 t23 t24 t25 t26 t27 t28 t29 t30 t31 t32 t33 t34 t35 t36 t37 t38 t39 t40 t41 t42 t43 t44 t45 t46 t47 t48 t49 t50 t51 t52 t53 t54 t55 t56 t57 t58 t59 t60 t61 t62 t63 t64 t65 t66 : Value),FI (⟨bx,bY,sl,L,(fx,fX,fy,fY),B⟩ : Sc) AL AB cL cB U h Bi w0 a bs i W → FlI (⟨bx,bY,sl,L,(fx,fX,fy,fY),B⟩ : Sc) a → FlV a → MarksOk (h + 3) W ds → i ≤ bs.length → (alP (⟨bx,bY,sl,L,(fx,fX,fy,fY),B⟩ : Sc)).length < i + m → flF (⟨bx,bY,sl,L,(fx,fX,fy,fY),B⟩ : Sc) m i a = F →
      Code.roundsIn Fence.wide 6 Tryz.prog fLoop PQ m ⟨#[t0,Value.pointer (some ⟨h,0,none⟩),t2,t3,Value.pointer (some ⟨h + 2,0,none⟩),t5,t6,Value.pointer (some ⟨Bi,0,none⟩),t8,t9,t10,t11,t12,t13,t14,t15,t16,t17,t18,t19,t20,t21,t22,t23,t24,t25,t26,t27,t28,t29,t30,t31,t32,t33,t34,t35,t36,t37,t38,t39,t40,t41,t42,t43,t44,t45,t46,t47,t48,t49,t50,t51,t52,t53,t54,t55,t56,t57,t58,t59,t60,t61,t62,t63,t64,t65,t66],ds.map mk⟩ W:=by
  intro m
  induction m with
  | zero =>
    intro i Bi a bs ds W t0 t2 t3 t5 t6 t8 t9 t10 t11 t12 t13 t14 t15 t16 t17 t18 t19 t20 t21 t22 t23 t24 t25 t26 t27 t28 t29 t30 t31 t32 t33 t34 t35 t36 t37 t38 t39 t40 t41 t42 t43 t44 t45 t46 t47 t48 t49 t50 t51 t52 t53 t54 t55 t56 t57 t58 t59 t60 t61 t62 t63 t64 t65 t66 hI hF hV hM hil hm hr
    have h1:=hF.len
    have h2 : bs.length = a.2.length:=by rw [← hI.ps];simp
    omega
  | succ m ih =>
    intro i Bi a bs ds W t0 t2 t3 t5 t6 t8 t9 t10 t11 t12 t13 t14 t15 t16 t17 t18 t19 t20 t21 t22 t23 t24 t25 t26 t27 t28 t29 t30 t31 t32 t33 t34 t35 t36 t37 t38 t39 t40 t41 t42 t43 t44 t45 t46 t47 t48 t49 t50 t51 t52 t53 t54 t55 t56 t57 t58 t59 t60 t61 t62 t63 t64 t65 t66 hI hF hV hM hil hm hr
    rw [roundsIn_succ]
    unfold fLoop
    conv => arg 4;whnf
    have hlen : bs.length = a.2.length:=by rw [← hI.ps];simp
    have hle : bs.length ≤ 1000:=by
      have h1:=hF.len
      have h2:=alP_len hS
      omega
    obtain ⟨A,c,R1,R2⟩:=hI.row
    have c0:=R1.cell 0
    have cI:=hI.boxI.cell 0
    simp at c0 cI
    have lH:=R1.lt;have lI:=hI.boxI.lt
    have hBi:=hI.hBi
    have HLn:=Lib.hid hlen
    clear hlen
    by_cases hlt : i < bs.length
    · obtain ⟨⟨⟨ps,Q⟩,AQ,cQ⟩,hy⟩ : ∃ y,bs[i]? = some y:=⟨_,List.getElem?_eq_getElem hlt⟩
      obtain ⟨gR,capR,hA,hgR,hgl⟩:=own_pos R2 (by omega) (by decide)
      cases hA
      have z0:=arCells R2 hy 0 (by omega);have z1:=arCells R2 hy 1 (by omega);have z2:=arCells R2 hy 2 (by omega);have z3:=arCells R2 hy 3 (by omega);have z4:=arCells R2 hy 4 (by omega);have z5:=arCells R2 hy 5 (by omega);have z6:=arCells R2 hy 6 (by omega);have z7:=arCells R2 hy 7 (by omega);have z8:=arCells R2 hy 8 (by omega);have z9:=arCells R2 hy 9 (by omega);have z10:=arCells R2 hy 10 (by omega)
      simp [arV] at z0 z1 z2 z3 z4 z5 z6 z7 z8 z9 z10
      have ha2 : a.2[i]? = some (ps,Q):=by rw [← hI.ps];simp [hy]
      rw [flF_step ha2] at hr
      have hkey : ∃ d,lkp a.1 (kyP (ps,Q)) = some d:=by
        have hk : kyP (ps,Q) ∈ a.1.map (·.1):=by rw [hF.keys];exact List.mem_map_of_mem (List.mem_of_getElem? ha2)
        cases hd : lkp a.1 (kyP (ps,Q)) with
        | none => exact absurd hk (lkp_none.1 hd)
        | some d => exact ⟨d,rfl⟩
      obtain ⟨d,hd⟩:=hkey
      have hp : POk (⟨bx,bY,sl,L,(fx,fX,fy,fY),B⟩ : Sc) (ps,Q):=hF.ok _ (List.mem_of_getElem? ha2)
      have HI:=Lib.hid hI
      have HR:=Lib.hid hr
      have HF:=Lib.hid hF
      have HM:=Lib.hid hM
      have HY:=Lib.hid hy
      have HD:=Lib.hid hd
      have HP:=Lib.hid hp
      have hi0 : 0 ≤ (i : Int):=by omega
      have hi1 : (i : Int) < (bs.length : Int):=by omega
      clear hI hr hF hM hy hd hp ha2
      gi_upto_region 10 with fail
      gi_wp2_with (refine ⟨trivial, ?_⟩;gi_at_call 116;refine (moves_in Fence.wide _ trivial rfl _ _ rfl).mono ?_;rintro e w' ⟨rfl,rfl⟩)
      have hb : Below W.heap.size W (W.alloc (.cells #[.int .i64 bx,.int .i64 bY,.int .i64 sl,.slice AL L.length cL,.int .i64 fx,.int .i64 fX,.int .i64 fy,.int .i64 fY,.slice AB B.length cB,.int .i64 ps,.slice AQ Q.length cQ] 135)):=by exact bB0
      have hrow : rowB h (W.alloc (.cells #[.int .i64 bx,.int .i64 bY,.int .i64 sl,.slice AL L.length cL,.int .i64 fx,.int .i64 fX,.int .i64 fy,.int .i64 fY,.slice AB B.length cB,.int .i64 ps,.slice AQ Q.length cQ] 135)) = some gR:=rowB_box (R1.alloc _)
      refine frange_c h Bi U W.heap.size bx bY sl fx fX fy fY ps L B Q AL AB AQ cL cB cQ w0 _ a bs i d (ds.map mk) _ hS (HI.out.keep hb) HF.out hV hU hs1 hs2 HY.out HD.out (Box.new _ _ _) (by omega) (by rw [hrow];intro e;cases e;omega) (by simp;omega) ?q _ _ _ _ _ _ _ _ _ _ _ _ _ _ _ _ _ _ _ _ _ _ _ _ _ _ _ _ _ _ _ _ _ _ _ _ _ _ _ _ _ _ _ _ _ _ _ _ _ _ _ _ _ _ _ _ _ _ _ _ _ _ _
      case q =>
        intro D W' bs' hD hI' hF' hDD hpre t0 t2 t3 t5 t6 t8 t9 t10 t11 t12 t13 t14 t15 t16 t17 t18 t19 t20 t21 t22 t23 t24 t25 t26 t27 t28 t29 t30 t31 t32 t33 t35 t36 t37 t38 t39 t40 t41 t42 t43 t44 t45 t46 t47 t48 t49 t50 t51 t52 t53 t54 t55 t56 t57 t58 t59 t60 t61 t62 t63 t64 t65 t66
        simp at hD
        have cI':=hI'.boxI.cell 0
        have lI':=hI'.boxI.lt
        simp at cI'
        have HF':=Lib.hid hF'
        have HI':=Lib.hid hI'
        clear hF' hI'
        gi_wp2_with fail
        have hbW : Below W'.heap.size W' (W'.alloc (.cells #[.int .i64 (i + 1)] 3)):=by exact bB0
        have hX : Box (W'.alloc (.cells #[.int .i64 (i + 1)] 3)) W'.heap.size 3 #[.int .i64 ((i + 1 : Nat) : Int)]:=(Box.new W' 3 #[.int .i64 ((i : Int) + 1)]).congr (by simp)
        have lW:=HF'.out.size
        simp at lW
        have hle':=hpre.length_le
        have hk : KeepsFrom (h + 3) W (W'.alloc (.cells #[.int .i64 (i + 1)] 3)) :=
          ((KeepsOthers.alloc W _).from _).trans ((HF'.out.keeps (by omega) (fun r e => by rw [hrow] at e;cases e;obtain ⟨cs,hcs⟩:=own_some (R2.alloc (.cells #[.int .i64 bx,.int .i64 bY,.int .i64 sl,.slice AL L.length cL,.int .i64 fx,.int .i64 fX,.int .i64 fy,.int .i64 fY,.slice AB B.length cB,.int .i64 ps,.slice AQ Q.length cQ] 135));exact ⟨cs,_,hcs⟩)).trans ((KeepsOthers.alloc W' _).from _))
        refine ih (i + 1) W'.heap.size _ bs' (D :: ds) _ _ _ _ _ _ _ _ _ _ _ _ _ _ _ _ _ _ _ _ _ _ _ _ _ _ _ _ _ _ _ _ _ _ _ _ _ _ _ _ _ _ _ _ _ _ _ _ _ _ _ _ _ _ _ _ _ _ _ _ _ _ _ _ _ (HI'.out.next hbW (Nat.le_refl _) hX) ?fi ?fv ?marks (by omega) (by omega) HR.out
        case fi => exact HF.out.exp HP.out
        case fv =>
          have hv : 0 ≤ d ∧ d ≤ a.1.length:=by
            obtain ⟨e,he,rfl⟩:=lkp_mem HD.out
            exact hV e he
          unfold flx
          rw [HD.out]
          exact FlV.steps _ _ hV hv
        case marks =>
          refine (HM.out.keeps hk).cons (by omega) (fun hm => ?_) ((hbW.block _ (Array.getElem?_eq_some_iff.1 hDD).1).trans hDD)
          have:=HM.out.lt D hm
          omega
    · have e : a = F:=by rw [flF_end (by have:=HLn.out;omega)] at hr;exact hr
      subst e
      have HI:=Lib.hid hI
      have HM:=Lib.hid hM
      clear hI hM hr hF
      cases A <;> (gi_wp2_with fail;exact hQ _ _ _ _ _ _ _ _ _ _ _ _ _ _ _ _ _ _ _ _ _ _ _ _ _ _ _ _ _ _ _ _ _ _ _ _ _ _ _ _ _ _ _ _ _ _ _ _ _ _ _ _ _ _ _ _ _ _ _ _ _ _ _ _ _ _ _ _ _ HI.out HM.out)
end Go.Proofs.YtpnfgmgoafgcbaaGreat
/-
  The way downhill (chapter 6): all moves from one pose, and the rounds.
-/
set_option linter.unusedVariables false
namespace Go.Proofs.YtpnfgmgoafgcbaaGreat
open Go.RowKit Go.Shelf
attribute [local go_sem] Oper.semAt_some
theorem DI.own {s : Sc} {AL AB : Option Addr} {cL cB h Bl Bo gM K : Nat} {w0 : World} {es : List (Ky × Int)} {p : Ps} {AQ : Option Addr} {cQ : Nat} {left : Int} {out : List Mv} {W W' : World} {row : Option Nat} (hI : DI s AL AB cL cB h Bl Bo gM w0 es p AQ cQ left out W) (hg : W.grownBy W' row)
    (hr : ∀ r,row = some r → K ≤ r ∧ ∃ o : Obj,W.heap[r]? = some o ∧ o.isCells = false) (hK : h ≤ K) : DI s AL AB cL cB h Bl Bo gM w0 es p AQ cQ left out W':=by
  have hr' : ∀ r,row = some r → ∃ o : Obj,W.heap[r]? = some o ∧ o.isCells = false:=fun r e => (hr r e).2
  obtain ⟨a,f,l,⟨A,c,r1,r2⟩,m,⟨q1,b,off,e,q2⟩,h1,h2,h3⟩:=hI
  exact ⟨box_row a hg hr',box_row f hg hr',box_row l hg hr',⟨A,c,box_row r1 hg hr',own_row r2 hg hr'⟩,m,⟨q1.own hg hr',b,off,e,q2.imp id (fun ⟨⟨cs,hc⟩,hn⟩ => ⟨⟨cs,box_row hc hg hr'⟩,hn⟩)⟩,h1,h2,h3.grown hg (by have:=a.lt;omega) (fun k e => by have:=(hr k e).1;omega)⟩
theorem kf_grown {B : Nat} {X Y Z : World} {row : Option Nat} (h : KeepsFrom B X Y) (hg : Y.grownBy Z row) (hr : ∀ r,row = some r → X.heap.size ≤ r) : KeepsFrom B X Z :=
  ⟨Nat.le_trans h.size hg.size,fun k o hk ho hc => (hg.block k (Nat.lt_of_lt_of_le (Array.getElem?_eq_some_iff.1 ho).1 h.size) (fun e => by
    have:=hr k e.symm
    have:=(Array.getElem?_eq_some_iff.1 ho).1
    omega)).trans (h.same k o hk ho hc)⟩
theorem find_pre {α : Type} {f : α → Bool} {l pre : List α} {x : α} (h : pre ++ [x] <+: l) (hn : ∀ y ∈ pre,f y = false) (hx : f x = true) : l.find? f = some x:=by
  obtain ⟨r,rfl⟩:=h
  rw [List.append_assoc,List.find?_append,List.find?_eq_none.2 (fun y hy => by simp [hn y hy])]
  simp [hx]
noncomputable def dRange : Code:=(Tryz.f109.body.bind firstRange).getD .skip
def nearer (es : List (Ky × Int)) (left : Int) (x : Mv × Ps) : Bool:=lkp es (kyP x.2) == some (left - 1)
set_option maxHeartbeats 4000000 in
set_option maxRecDepth 100000 in
theorem drange_c (h Bl Bo gM gA : Nat) (bx bY sl fx fX fy fY ps left : Int) (L : List Lk) (B : List Bx) (Q : List Int) (AL AB AQ : Option Addr) (cL cB cQ : Nat) (w0 W0 : World) (es : List (Ky × Int)) (out : List Mv) (ds : List Deferred) (PQ : Exit → Act → World → Prop)
    (hS : SOk (⟨bx,bY,sl,L,(fx,fX,fy,fY),B⟩ : Sc)) (hp : POk (⟨bx,bY,sl,L,(fx,fX,fy,fY),B⟩ : Sc) (ps,Q)) (hI : DI (⟨bx,bY,sl,L,(fx,fX,fy,fY),B⟩ : Sc) AL AB cL cB h Bl Bo gM w0 es (ps,Q) AQ cQ left out W0) (hs1 : SlV w0 AL (L.flatMap lkV)) (hs2 : SlV w0 AB (B.flatMap bxV)) (hA : Box W0 gA 135 #[.int .i64 bx,.int .i64 bY,.int .i64 sl,.slice AL L.length cL,.int .i64 fx,.int .i64 fX,.int .i64 fy,.int .i64 fY,.slice AB B.length cB,.int .i64 ps,.slice AQ Q.length cQ]) (hlf : 0 < left ∧ left ≤ 1000) (ho : out.length ≤ 1000)
    (hh : ∃ x ∈ allK (⟨bx,bY,sl,L,(fx,fX,fy,fY),B⟩ : Sc) (ps,Q),nearer es left x = true)
    (hQ : ∀ (D : Nat) (W' : World) (x : MvX),W0.heap.size ≤ D → (allK (⟨bx,bY,sl,L,(fx,fX,fy,fY),B⟩ : Sc) (ps,Q)).find? (nearer es left) = some (kyM x) → DI (⟨bx,bY,sl,L,(fx,fX,fy,fY),B⟩ : Sc) AL AB cL cB h Bl Bo gM w0 es x.2.1 (some ⟨x.2.2.1,0,none⟩) x.2.2.2 (left - 1) (out ++ [x.1]) W' → KeepsFrom h W0 W' → W'.heap[D]? = some (.deferred (some [])) → ∀ (t0 t1 t4 t5 t7 t9 t10 t11 t12 t13 t14 t15 t16 t17 t18 t19 t20 t21 t22 t23 t24 t25 t27 t28 t29 t30 t31 t32 t33 t34 t35 t36 t37 t38 t39 t40 t41 t42 t43 t44 t45 t46 t47 t48 t49 t50 : Value),PQ (.exit 2) ⟨#[t0,t1,Value.pointer (some ⟨h,0,none⟩),Value.pointer (some ⟨h + 1,0,none⟩),t4,t5,Value.pointer (some ⟨Bl,0,none⟩),t7,Value.pointer (some ⟨Bo,0,none⟩),t9,t10,t11,t12,t13,t14,t15,t16,t17,t18,t19,t20,t21,t22,t23,t24,t25,Value.func (.func 157) #[] #[.pointer (some ⟨gA,0,none⟩)],t27,t28,t29,t30,t31,t32,t33,t34,t35,t36,t37,t38,t39,t40,t41,t42,t43,t44,t45,t46,t47,t48,t49,t50],mk D :: ds⟩ W')
    (t0 t1 t4 t5 t7 t9 t10 t11 t12 t13 t14 t15 t16 t17 t18 t19 t20 t21 t22 t23 t24 t25 t27 t28 t29 t30 t31 t32 t33 t34 t35 t36 t37 t38 t39 t40 t41 t42 t43 t44 t45 t46 t47 t48 t49 t50 : Value) : dRange.wpIn Fence.wide 6 Tryz.prog PQ ⟨#[t0,t1,Value.pointer (some ⟨h,0,none⟩),Value.pointer (some ⟨h + 1,0,none⟩),t4,t5,Value.pointer (some ⟨Bl,0,none⟩),t7,Value.pointer (some ⟨Bo,0,none⟩),t9,t10,t11,t12,t13,t14,t15,t16,t17,t18,t19,t20,t21,t22,t23,t24,t25,Value.func (.func 157) #[] #[.pointer (some ⟨gA,0,none⟩)],t27,t28,t29,t30,t31,t32,t33,t34,t35,t36,t37,t38,t39,t40,t41,t42,t43,t44,t45,t46,t47,t48,t49,t50],ds⟩ W0:=by
  have hL:=hS.len
  dsimp only at hL
  have hQl:=hp.len
  dsimp only at hQl
  have lL:=hI.boxL.lt
  have lA:=hI.boxA.lt
  have hw1:=hs1.below (hI.hz ▸ hI.below)
  have hw2:=hs2.below (hI.hz ▸ hI.below)
  have hw3 : SlI W0 AQ Q:=hI.q.1
  have hseq:=moves1_seq 5 gA bx bY sl fx fX fy fY ps L B Q AL AB AQ cL cB cQ W0 (by omega) hS hp hw1 hw2 hw3 hA
  unfold dRange
  conv => arg 4;whnf
  refine wpIn_rangeFunc_G (gf:=157) (lb:=#[.pointer (some ⟨gA,0,none⟩)]) rfl (by omega) rfl trivial (enters_of Tryz.func157 (by kernel_rfl) rfl) hseq ?Sk ?Kt ?Kb (Below.refl _ _) (fun _ => rfl)
    (fun pre W => pre.map kyM <+: allK (⟨bx,bY,sl,L,(fx,fX,fy,fY),B⟩ : Sc) (ps,Q) ∧ (∀ y ∈ pre.map kyM,nearer es left y = false) ∧ Below W0.heap.size W0 W ∧ KeepsFrom h W0 W)
    (fun c pre W => c = .exit 2 ∧ ∃ x : MvX,(allK (⟨bx,bY,sl,L,(fx,fX,fy,fY),B⟩ : Sc) (ps,Q)).find? (nearer es left) = some (kyM x) ∧ DI (⟨bx,bY,sl,L,(fx,fX,fy,fY),B⟩ : Sc) AL AB cL cB h Bl Bo gM w0 es x.2.1 (some ⟨x.2.2.1,0,none⟩) x.2.2.2 (left - 1) (out ++ [x.1]) W ∧ KeepsFrom h W0 W) ?I ?Ix (fun _ _ _ h => h.elim) ⟨List.nil_prefix,(fun _ h => nomatch h),Below.refl _ _,KeepsFrom.refl _ _⟩
    (fun pre x a' W => pre.map kyM ++ [kyM x] <+: allK (⟨bx,bY,sl,L,(fx,fX,fy,fY),B⟩ : Sc) (ps,Q) ∧ SlI W (some ⟨x.2.2.1,0,none⟩) x.2.1.2 ∧ (∃ cs,Box W x.2.2.1 3 cs) ∧ W0.heap.size ≤ x.2.2.1 ∧ ∃ gm gB,W0.heap.size ≤ gm ∧ W0.heap.size ≤ gB ∧ Box W gm 84 #[.int .i64 x.1.1,.int .i64 x.1.2] ∧ Box W gB 135 #[.int .i64 bx,.int .i64 bY,.int .i64 sl,.slice AL L.length cL,.int .i64 fx,.int .i64 fX,.int .i64 fy,.int .i64 fY,.slice AB B.length cB,.int .i64 x.2.1.1,.slice (some ⟨x.2.2.1,0,none⟩) x.2.1.2.length x.2.2.2] ∧ a' = ⟨#[t0,t1,Value.pointer (some ⟨h,0,none⟩),Value.pointer (some ⟨h + 1,0,none⟩),t4,t5,Value.pointer (some ⟨Bl,0,none⟩),t7,Value.pointer (some ⟨Bo,0,none⟩),Value.pointer (some ⟨gm,0,none⟩),Value.pointer (some ⟨gB,0,none⟩),t11,t12,t13,t14,t15,t16,t17,t18,t19,t20,t21,t22,t23,t24,t25,Value.func (.func 157) #[] #[.pointer (some ⟨gA,0,none⟩)],Value.agg #[.int .i64 x.1.1,.int .i64 x.1.2],Value.agg #[.int .i64 bx,.int .i64 bY,.int .i64 sl,.slice AL L.length cL,.int .i64 fx,.int .i64 fX,.int .i64 fy,.int .i64 fY,.slice AB B.length cB,.int .i64 x.2.1.1,.slice (some ⟨x.2.2.1,0,none⟩) x.2.1.2.length x.2.2.2],t29,t30,t31,t32,t33,t34,t35,t36,t37,t38,t39,t40,t41,t42,t43,t44,t45,t46,t47,t48,t49,t50],[]⟩) ?Ax ?assign ?body ?done ?stop
  case Sk => exact fun _ _ _ _ h => h.elim
  case Kt => exact fun h k => ⟨fun b => k.a (h.a b),fun b => k.s1 (h.s1 b),fun b => k.s2 (h.s2 b),fun b => k.s3 (h.s3 b)⟩
  case Kb =>
    intro W l o o' _ ho hc _
    have hg:=grownBy_putObj' W l o'
    have hr : ∀ r,some l = some r → ∃ o : Obj,W.heap[r]? = some o ∧ o.isCells = false:=fun r e => by cases e;exact ⟨o,ho,hc⟩
    exact ⟨fun b => box_row b hg hr,fun b => b.own hg hr,fun b => b.own hg hr,fun b => b.own hg hr⟩
  case I =>
    rintro pre A B' row ⟨h1,h2,h3,h4⟩ hg hr
    exact ⟨h1,h2,h3.grown hg h3.size (fun r e => (hr r e).1),kf_grown h4 hg (fun r e => (hr r e).1)⟩
  case Ix =>
    rintro c pre A B' row ⟨h1,x,h2,h3,h4⟩ hg hr
    exact ⟨h1,x,h2,h3.own hg hr (by omega),kf_grown h4 hg (fun r e => (hr r e).1)⟩
  case Ax =>
    rintro pre x a' _ A B' row ⟨h1,h2,⟨cs,h3⟩,h4,gm,gB,h5,h6,h7,h8,h9⟩ hg hr
    have hr' : ∀ r,row = some r → ∃ o : Obj,A.heap[r]? = some o ∧ o.isCells = false:=fun r e => (hr r e).2
    exact ⟨h1,h2.own hg hr',⟨cs,box_row h3 hg hr'⟩,h4,gm,gB,h5,h6,box_row h7 hg hr',box_row h8 hg hr',h9⟩
  case assign =>
    rintro l1 pre x W K ⟨h1,h2,h3,h4⟩ ⟨hpx,hq,⟨cs,hqb⟩,hn⟩ hK
    have hsz:=h3.size
    gi_wp2
    have hb : Below W.heap.size W ((W.alloc (.cells #[.int .i64 x.1.1,.int .i64 x.1.2] 84)).alloc (.cells #[.int .i64 bx,.int .i64 bY,.int .i64 sl,.slice AL L.length cL,.int .i64 fx,.int .i64 fX,.int .i64 fy,.int .i64 fY,.slice AB B.length cB,.int .i64 x.2.1.1,.slice (some ⟨x.2.2.1,0,none⟩) x.2.1.2.length x.2.2.2] 135)):=by exact bB0
    refine hK _ _ (below_kf hb) ⟨fun b => b.below hb b.lt,fun b => b.below hb,fun b => b.below hb,fun b => b.below hb⟩ ⟨h1,h2,h3.trans (hb.mono hsz),h4.trans (below_kf hb)⟩ ⟨hpx,hq.below hb,⟨cs,hqb.below hb hqb.lt⟩,hn,W.heap.size,W.heap.size + 1,hsz,by omega,by exact bX0,by exact bX0,rfl⟩
  case body =>
    rintro l1 pre x a' W hlw ⟨h1,h2,h3,h4⟩ ⟨hpx,hq,hqb,hn,gm,gB,hgm,hgB,hm,hX,rfl⟩
    have hPx : POk (⟨bx,bY,sl,L,(fx,fX,fy,fY),B⟩ : Sc) x.2.1:=by
      have hm : kyM x ∈ allK (⟨bx,bY,sl,L,(fx,fX,fy,fY),B⟩ : Sc) (ps,Q):=hpx.subset (by simp)
      exact (allK_ok hp (show (x.1,x.2.1) ∈ _ from hm)).1
    have hPl:=hPx.len
    obtain ⟨⟨mj,mb⟩,⟨P1,P2⟩,gQ,capQ⟩:=x
    dsimp only at hPl hX hq hqb hn hm
    have hIW:=hI.keep h3
    refine dbody_c l1 _ h Bl Bo gM gm gB gQ capQ bx bY sl fx fX fy fY P1 mj mb left L B P2 AL AB AQ cL cB cQ w0 W es (ps,Q) out _ (by omega) (by omega) hIW hX hm (by have:=hI.boxF.lt;omega) (by omega) (by have:=hI.boxF.lt;omega) hq hqb hlf ho ?q1 ?q2 _ _ _ _ _ _ _ _ _ _ _ _ _ _ _ _ _ _ _ _ _ _ _ _ _ _ _ _ _ _ _ _ _ _ _ _ _ _ _ _ _ _ _ _ _
    case q1 =>
      intro W' t0 t1 t4 t5 t7 t11 t12 t13 t14 t15 t16 t17 t18 t19 t20 t21 t22 t23 t24 t25 t26 t27 t28 t29 t30 t31 t32 t33 t34 t35 t36 t37 t38 t39 t40 t41 t42 t43 t44 t45 t46 t47 t48 t49 t50 hne hb
      refine ⟨below_kf hb,⟨fun b => b.below hb b.lt,fun b => b.below hb,fun b => b.below hb,fun b => b.below hb⟩,by simpa using hpx, ?_,h3.trans (hb.mono h3.size),h4.trans (below_kf hb)⟩
      intro y hy
      rw [List.map_append] at hy
      rcases List.mem_append.1 hy with hy | hy
      · exact h2 y hy
      · have e : y = ((mj,mb),(P1,P2)):=by simpa [kyM] using hy
        subst e
        simpa [nearer] using hne
    case q2 =>
      intro W' t0 t1 t4 t5 t7 t11 t12 t13 t14 t15 t16 t17 t18 t19 t20 t21 t22 t23 t24 t25 t26 t27 t28 t29 t30 t31 t32 t33 t34 t35 t36 t37 t38 t39 t40 t41 t42 t43 t44 t45 t46 t47 t48 t49 t50 he hI2 hk2
      refine ⟨keepsFrom_le hk2 (by omega),rfl,((mj,mb),(P1,P2),gQ,capQ),find_pre hpx h2 (by simpa [nearer,kyM] using he),hI2,h4.trans hk2⟩
  case done =>
    rintro D xs W' hD hxs ⟨_,h2,_,_⟩ hDD
    obtain ⟨x,hx,hn⟩:=hh
    rw [← hxs] at hx
    rw [h2 x hx] at hn
    cases hn
  case stop =>
    rintro D c pre W hD _ ⟨rfl,x,h2,h3,h4⟩ hDD
    gi_wp2
    exact hQ D W x hD h2 h3 h4 hDD _ _ _ _ _ _ _ _ _ _ _ _ _ _ _ _ _ _ _ _ _ _ _ _ _ _ _ _ _ _ _ _ _ _ _ _ _ _ _ _ _ _ _ _ _ _
end Go.Proofs.YtpnfgmgoafgcbaaGreat

/-
  CheckReached (chapter 6): one pose behind a move, in its second loop.
  CheckReached (chapter 6): all moves of one pose, and the second loop.
  CheckReached (chapter 6): its second loop, whole.
-/
import Derived.Test.YtpnfgmgoafgcbaaGreatA9
import Derived.Test.YtpnfgmgoafgcbaaGreatG6
import Derived.Test.YtpnfgmgoafgcbaaGreatLate
import Derived.Test.YtpnfgmgoafgcbaaGreatRMo
set_option linter.all false
set_option linter.unusedVariables false
namespace Go.Proofs.YtpnfgmgoafgcbaaGreat
open Go.RowKit Go.Shelf
attribute [local go_sem] Oper.semAt_some
/-- What memory holds in a round of the second loop. -/
structure CI (h gM Bi gX Bb : Nat) (w0 : World) (sv pv xv : Array Value) (es : List (Ky × Int)) (i : Nat) (bb : Bool) (W : World) : Prop where
  bS : Box W h 30 sv
  bP : Box W (h + 1) 33 pv
  r0 : Box W (h + 2) 3 #[.int .i64 0]
  r1 : Box W (h + 3) 37 #[.int .i64 0]
  bM : Box W (gM + 1) 161 #[.map (some gM)]
  mM : KMap W gM es
  bI : Box W Bi 3 #[.int .i64 (i : Int)]
  bX : Box W gX 98 xv
  bB : Box W Bb 4 #[.bool bb]
  hl : h + 4 ≤ gM ∧ gM + 2 ≤ Bi ∧ gM + 2 ≤ Bb
  hz : h = w0.heap.size
  below : Below h w0 W
theorem CI.keep {h gM Bi gX Bb : Nat} {w0 : World} {sv pv xv : Array Value} {es : List (Ky × Int)} {i : Nat} {bb : Bool} {W W' : World} (hI : CI h gM Bi gX Bb w0 sv pv xv es i bb W) (hb : Below W.heap.size W W') : CI h gM Bi gX Bb w0 sv pv xv es i bb W':=by
  obtain ⟨a,b,c,d,e,f,g,j,k,h1,h2,h3⟩:=hI
  exact ⟨a.below hb a.lt,b.below hb b.lt,c.below hb c.lt,d.below hb d.lt,e.below hb e.lt,f.below hb f.lt,g.below hb g.lt,j.below hb j.lt,k.below hb k.lt,h1,h2,h3.trans (hb.mono (by have:=a.lt;omega))⟩
theorem CI.own {h gM Bi gX Bb K : Nat} {w0 : World} {sv pv xv : Array Value} {es : List (Ky × Int)} {i : Nat} {bb : Bool} {W W' : World} {row : Option Nat} (hI : CI h gM Bi gX Bb w0 sv pv xv es i bb W) (hg : W.grownBy W' row)
    (hr : ∀ r,row = some r → K ≤ r ∧ ∃ o : Obj,W.heap[r]? = some o ∧ o.isCells = false) (hK : gM < K) : CI h gM Bi gX Bb w0 sv pv xv es i bb W':=by
  have hr' : ∀ r,row = some r → ∃ o : Obj,W.heap[r]? = some o ∧ o.isCells = false:=fun r e => (hr r e).2
  obtain ⟨a,b,c,d,e,⟨l,clock,he,hk⟩,g,j,k,h1,h2,h3⟩:=hI
  refine ⟨box_row a hg hr',box_row b hg hr',box_row c hg hr',box_row d hg hr',box_row e hg hr',⟨l,clock,(hg.block gM (Array.getElem?_eq_some_iff.1 he).1 fun e => ?_).trans he,hk⟩,box_row g hg hr',box_row j hg hr',box_row k hg hr',h1,h2,h3.grown hg (by have:=a.lt;omega) (fun k e => by have:=(hr k e).1;omega)⟩
  have:=(hr _ e.symm).1
  omega
theorem CI.setB {h gM Bi gX Bb : Nat} {w0 : World} {sv pv xv : Array Value} {es : List (Ky × Int)} {i : Nat} {bb : Bool} {W : World} (hI : CI h gM Bi gX Bb w0 sv pv xv es i bb W) (b : Bool) : CI h gM Bi gX Bb w0 sv pv xv es i b (W.setCell ⟨Bb,0,none⟩ (.bool b)):=by
  obtain ⟨a,b',c,d,e,f,g,j,k,h1,h2,h3⟩:=hI
  have n1 : h ≠ Bb:=by omega
  have n2 : h + 1 ≠ Bb:=by omega
  have n3 : h + 2 ≠ Bb:=by omega
  have n4 : h + 3 ≠ Bb:=by omega
  have n5 : gM + 1 ≠ Bb:=by omega
  have n6 : Bi ≠ Bb:=box_ne g k (by decide)
  have n7 : gX ≠ Bb:=box_ne j k (by decide)
  exact ⟨a.far (p:=⟨Bb,0,none⟩) n1 _,b'.far (p:=⟨Bb,0,none⟩) n2 _,c.far (p:=⟨Bb,0,none⟩) n3 _,d.far (p:=⟨Bb,0,none⟩) n4 _,e.far (p:=⟨Bb,0,none⟩) n5 _,f.setCell _ _,g.far (p:=⟨Bb,0,none⟩) n6 _,j.far (p:=⟨Bb,0,none⟩) n7 _,(k.set 0 (.bool b)).congr (by simp),h1,h2,Below.setCell (p:=⟨Bb,0,none⟩) h3 (by show h ≤ Bb;omega) _⟩
noncomputable def ckBody : Code:=(Tryz.f51.body.bind firstRangeB).getD .skip
set_option maxHeartbeats 4000000 in
set_option maxRecDepth 100000 in
theorem ckbody_c (l1 m h gM Bi gX Bb gB gQ capQ : Nat) (bx bY sl fx fX fy fY P1 x1 xm : Int) (L : List Lk) (B : List Bx) (P2 xQ : List Int) (AL AB AX : Option Addr) (cL cB cX : Nat) (w0 W : World) (sv pv : Array Value) (es : List (Ky × Int)) (i : Nat) (bb : Bool) (PQ : Exit → Act → World → Prop)
    (hl : 0 < P2.length) (hl3 : P2.length ≤ 3) (hI : CI h gM Bi gX Bb w0 sv pv #[.int .i64 x1,.slice AX xQ.length cX,.int .i64 xm] es i bb W) (hX : Box W gB 135 #[.int .i64 bx,.int .i64 bY,.int .i64 sl,.slice AL L.length cL,.int .i64 fx,.int .i64 fX,.int .i64 fy,.int .i64 fY,.slice AB B.length cB,.int .i64 P1,.slice (some ⟨gQ,0,none⟩) P2.length capQ]) (hB : gM + 2 ≤ gB) (hQ : SlI W (some ⟨gQ,0,none⟩) P2) (hxm : 0 ≤ xm ∧ xm ≤ 9223372036854775807)
    (hes : ∀ n,lkp es (kyP (P1,P2)) = some n → 0 ≤ n ∧ n ≤ 9223372036854775807)
    (hQr : ∀ (W' : World) (e : Int) (t0 t1 t2 t5 t8 t9 t11 t12 t13 t14 t15 t16 t17 t21 t23 t24 t25 t26 t27 t28 t29 t30 t31 t32 t33 t34 t35 t36 t37 t38 t39 t40 t41 t42 t43 t44 t45 t46 t47 t48 t49 t50 t51 t52 t53 t54 t55 t56 t57 t58 t59 t60 t61 t62 t63 t64 t65 t66 t67 t68 t69 t70 t71 t72 t73 t74 t75 t76 t77 t78 t79 t80 t81 t82 t83 t84 t85 t86 t87 t88 t89 t90 t91 t92 t93 t94 t95 t96 t97 t98 t99 t100 t101 t102 t103 t104 t105 t106 t107 t108 t109 t110 t111 t112 t113 t114 t115 t116 t117 t118 t119 t120 t121 t122 t123 t124 t125 t126 t127 t128 t129 t130 t131 t132 t133 t134 t135 t136 t137 t138 t139 t140 t141 t142 t143 t144 t145 t146 t147 t148 t149 t150 t151 t152 t153 t154 t155 : Value),(lkp es (kyP (P1,P2)) = none ∧ e = 21) ∨ (∃ n,lkp es (kyP (P1,P2)) = some n ∧ xm < n - 1 ∧ e = 19) → Box W' (h + 2) 3 #[.int .i64 (i : Int)] → Box W' (h + 3) 37 #[.int .i64 e] → Below h w0 W' → KeepsFrom h W W' → PQ .ret ⟨#[t0,t1,t2,Value.pointer (some ⟨h,0,none⟩),Value.pointer (some ⟨h + 1,0,none⟩),t5,Value.pointer (some ⟨h + 2,0,none⟩),Value.pointer (some ⟨h + 3,0,none⟩),t8,t9,Value.pointer (some ⟨gM + 1,0,none⟩),t11,t12,t13,t14,t15,t16,t17,Value.pointer (some ⟨Bi,0,none⟩),Value.pointer (some ⟨gX,0,none⟩),Value.pointer (some ⟨Bb,0,none⟩),t21,Value.pointer (some ⟨gB,0,none⟩),t23,t24,t25,t26,t27,t28,t29,t30,t31,t32,t33,t34,t35,t36,t37,t38,t39,t40,t41,t42,t43,t44,t45,t46,t47,t48,t49,t50,t51,t52,t53,t54,t55,t56,t57,t58,t59,t60,t61,t62,t63,t64,t65,t66,t67,t68,t69,t70,t71,t72,t73,t74,t75,t76,t77,t78,t79,t80,t81,t82,t83,t84,t85,t86,t87,t88,t89,t90,t91,t92,t93,t94,t95,t96,t97,t98,t99,t100,t101,t102,t103,t104,t105,t106,t107,t108,t109,t110,t111,t112,t113,t114,t115,t116,t117,t118,t119,t120,t121,t122,t123,t124,t125,t126,t127,t128,t129,t130,t131,t132,t133,t134,t135,t136,t137,t138,t139,t140,t141,t142,t143,t144,t145,t146,t147,t148,t149,t150,t151,t152,t153,t154,t155],[]⟩ W')
    (hQn : ∀ (W' : World) (n : Int) (t0 t1 t2 t5 t8 t9 t11 t12 t13 t14 t15 t16 t17 t21 t23 t24 t25 t26 t27 t28 t29 t30 t31 t32 t33 t34 t35 t36 t37 t38 t39 t40 t41 t42 t43 t44 t45 t46 t47 t48 t49 t50 t51 t52 t53 t54 t55 t56 t57 t58 t59 t60 t61 t62 t63 t64 t65 t66 t67 t68 t69 t70 t71 t72 t73 t74 t75 t76 t77 t78 t79 t80 t81 t82 t83 t84 t85 t86 t87 t88 t89 t90 t91 t92 t93 t94 t95 t96 t97 t98 t99 t100 t101 t102 t103 t104 t105 t106 t107 t108 t109 t110 t111 t112 t113 t114 t115 t116 t117 t118 t119 t120 t121 t122 t123 t124 t125 t126 t127 t128 t129 t130 t131 t132 t133 t134 t135 t136 t137 t138 t139 t140 t141 t142 t143 t144 t145 t146 t147 t148 t149 t150 t151 t152 t153 t154 t155 : Value),lkp es (kyP (P1,P2)) = some n → ¬ xm < n - 1 → CI h gM Bi gX Bb w0 sv pv #[.int .i64 x1,.slice AX xQ.length cX,.int .i64 xm] es i (bb || decide (n = xm - 1)) W' → KeepsFrom h W W' → (∀ g t cs,g ≠ Bb → Box W g t cs → Box W' g t cs) → PQ .normal ⟨#[t0,t1,t2,Value.pointer (some ⟨h,0,none⟩),Value.pointer (some ⟨h + 1,0,none⟩),t5,Value.pointer (some ⟨h + 2,0,none⟩),Value.pointer (some ⟨h + 3,0,none⟩),t8,t9,Value.pointer (some ⟨gM + 1,0,none⟩),t11,t12,t13,t14,t15,t16,t17,Value.pointer (some ⟨Bi,0,none⟩),Value.pointer (some ⟨gX,0,none⟩),Value.pointer (some ⟨Bb,0,none⟩),t21,Value.pointer (some ⟨gB,0,none⟩),t23,t24,t25,t26,t27,t28,t29,t30,t31,t32,t33,t34,t35,t36,t37,t38,t39,t40,t41,t42,t43,t44,t45,t46,t47,t48,t49,t50,t51,t52,t53,t54,t55,t56,t57,t58,t59,t60,t61,t62,t63,t64,t65,t66,t67,t68,t69,t70,t71,t72,t73,t74,t75,t76,t77,t78,t79,t80,t81,t82,t83,t84,t85,t86,t87,t88,t89,t90,t91,t92,t93,t94,t95,t96,t97,t98,t99,t100,t101,t102,t103,t104,t105,t106,t107,t108,t109,t110,t111,t112,t113,t114,t115,t116,t117,t118,t119,t120,t121,t122,t123,t124,t125,t126,t127,t128,t129,t130,t131,t132,t133,t134,t135,t136,t137,t138,t139,t140,t141,t142,t143,t144,t145,t146,t147,t148,t149,t150,t151,t152,t153,t154,t155],[]⟩ W') (t0 t1 t2 t5 t8 t9 t11 t12 t13 t14 t15 t16 t17 t21 t23 t24 t25 t26 t27 t28 t29 t30 t31 t32 t33 t34 t35 t36 t37 t38 t39 t40 t41 t42 t43 t44 t45 t46 t47 t48 t49 t50 t51 t52 t53 t54 t55 t56 t57 t58 t59 t60 t61 t62 t63 t64 t65 t66 t67 t68 t69 t70 t71 t72 t73 t74 t75 t76 t77 t78 t79 t80 t81 t82 t83 t84 t85 t86 t87 t88 t89 t90 t91 t92 t93 t94 t95 t96 t97 t98 t99 t100 t101 t102 t103 t104 t105 t106 t107 t108 t109 t110 t111 t112 t113 t114 t115 t116 t117 t118 t119 t120 t121 t122 t123 t124 t125 t126 t127 t128 t129 t130 t131 t132 t133 t134 t135 t136 t137 t138 t139 t140 t141 t142 t143 t144 t145 t146 t147 t148 t149 t150 t151 t152 t153 t154 t155 : Value) :
    ckBody.wpIn (Fence.wide.inRound l1) m Tryz.prog PQ ⟨#[t0,t1,t2,Value.pointer (some ⟨h,0,none⟩),Value.pointer (some ⟨h + 1,0,none⟩),t5,Value.pointer (some ⟨h + 2,0,none⟩),Value.pointer (some ⟨h + 3,0,none⟩),t8,t9,Value.pointer (some ⟨gM + 1,0,none⟩),t11,t12,t13,t14,t15,t16,t17,Value.pointer (some ⟨Bi,0,none⟩),Value.pointer (some ⟨gX,0,none⟩),Value.pointer (some ⟨Bb,0,none⟩),t21,Value.pointer (some ⟨gB,0,none⟩),t23,t24,t25,t26,t27,t28,t29,t30,t31,t32,t33,t34,t35,t36,t37,t38,t39,t40,t41,t42,t43,t44,t45,t46,t47,t48,t49,t50,t51,t52,t53,t54,t55,t56,t57,t58,t59,t60,t61,t62,t63,t64,t65,t66,t67,t68,t69,t70,t71,t72,t73,t74,t75,t76,t77,t78,t79,t80,t81,t82,t83,t84,t85,t86,t87,t88,t89,t90,t91,t92,t93,t94,t95,t96,t97,t98,t99,t100,t101,t102,t103,t104,t105,t106,t107,t108,t109,t110,t111,t112,t113,t114,t115,t116,t117,t118,t119,t120,t121,t122,t123,t124,t125,t126,t127,t128,t129,t130,t131,t132,t133,t134,t135,t136,t137,t138,t139,t140,t141,t142,t143,t144,t145,t146,t147,t148,t149,t150,t151,t152,t153,t154,t155],[]⟩ W:=by
  have KYc:=Lib.hid (fun w' (h : Below W.heap.size W w') => key_c P1 P2 (some ⟨gQ,0,none⟩) capQ w' hl hl3 (hQ.below h))
  obtain ⟨k0,k1,k2,k3,hk⟩ : ∃ k0 k1 k2 k3,kyP (P1,P2) = (k0,k1,k2,k3):=⟨_,_,_,_,rfl⟩
  have hkv : kyV (P1,P2) = #[.int .i64 k0,.int .i64 k1,.int .i64 k2,.int .i64 k3]:=by
    have:=kyP_V (P1,P2);rw [hk] at this;exact Value.agg.inj this
  rw [hkv] at KYc
  rw [hk] at hQr hQn hes
  have BM:=hI.bM
  have M0:=hI.mM
  have HI:=Lib.hid hI
  have HQr:=Lib.hid hQr
  have HQn:=Lib.hid hQn
  have lS:=hI.bS.lt
  obtain ⟨hl0,hl1,hl2⟩:=hI.hl
  have m0:=BM.cell 0
  have c0:=hX.cell 0;have c1:=hX.cell 1;have c2:=hX.cell 2;have c3:=hX.cell 3;have c4:=hX.cell 4;have c5:=hX.cell 5;have c6:=hX.cell 6;have c7:=hX.cell 7;have c8:=hX.cell 8;have c9:=hX.cell 9;have c10:=hX.cell 10
  simp at m0 c0 c1 c2 c3 c4 c5 c6 c7 c8 c9 c10
  have lM:=BM.lt;have lX:=hX.lt;have lK:=M0.lt
  have nBi : Bi ≠ Bb:=box_ne hI.bI hI.bB (by decide)
  have nBx : gX ≠ Bb:=box_ne hI.bX hI.bB (by decide)
  clear hkv hk hQ hI hQr hQn
  obtain ⟨hxm0,hxm1⟩:=hxm
  unfold ckBody
  conv => arg 4;whnf
  dsimp only
  cases hf : lkp es (k0,k1,k2,k3) with
  | none =>
    rw [hf] at HQr
    clear HQn hes
    gi_wp2_with fail;(refine region_round kR kR (fun R hR => ?_);refine heldR (S:=(fun w' => Box w' (gM + 1) 161 #[.map (some gM)] ∧ Box w' gB 135 #[.int .i64 bx,.int .i64 bY,.int .i64 sl,.slice AL L.length cL,.int .i64 fx,.int .i64 fX,.int .i64 fy,.int .i64 fY,.slice AB B.length cB,.int .i64 P1,.slice (some ⟨gQ,0,none⟩) P2.length capQ] ∧ KMap w' gM es)) ?_ (fun hHeld => ?_);(focus ((try dsimp only);((refine ⟨?_, ?_, ?_⟩;((first | exact bX0 | exact bX1 hb3));((first | exact bX0 | exact bX1 hb3));(first | exact M3 | exact M0.drew | exact M0)))));have hO:=Lib.hid (fun w' (hSw : (fun w' => Box w' (gM + 1) 161 #[.map (some gM)] ∧ Box w' gB 135 #[.int .i64 bx,.int .i64 bY,.int .i64 sl,.slice AL L.length cL,.int .i64 fx,.int .i64 fX,.int .i64 fy,.int .i64 fY,.slice AB B.length cB,.int .i64 P1,.slice (some ⟨gQ,0,none⟩) P2.length capQ] ∧ KMap w' gM es) w') => (by (try dsimp only at hSw);(obtain ⟨hSA,hSB,hSC⟩:=hSw;have hlk:=run_look_k2 k0 k1 k2 k3 _ _ _ hSC;have sa0:=hSA.cell 0;have sb0:=hSB.cell 0;have sb1:=hSB.cell 1;have sb2:=hSB.cell 2;have sb3:=hSB.cell 3;have sb4:=hSB.cell 4;have sb5:=hSB.cell 5;have sb6:=hSB.cell 6;have sb7:=hSB.cell 7;have sb8:=hSB.cell 8;have sb9:=hSB.cell 9;have sb10:=hSB.cell 10;(simp at sa0 sb0 sb1 sb2 sb3 sb4 sb5 sb6 sb7 sb8 sb9 sb10));exact And.intro hlk (And.intro sa0 (And.intro sb0 (And.intro sb1 (And.intro sb2 (And.intro sb3 (And.intro sb4 (And.intro sb5 (And.intro sb6 (And.intro sb7 (And.intro sb8 (And.intro sb9 sb10)))))))))))));refine rgL 0 hO rfl ?_;refine rgN 1 rfl ?_;refine rgL 2 hO rfl ?_;refine rgC 3 rfl (fun K hK => ?_);go_simp;((go_at_call 118;refine (KYc.out _ (by exact bB0)).mono ?_;rintro e w3 ⟨rfl,hb3⟩;have hz3 : W.heap.size ≤ w3.heap.size:=(by have:=hb3.size;(try simp at this);omega);have M3 : KMap w3 gM es:=(M0.drew).below hb3 M0.lt));go_simp;refine hK.out _ _ ?_ (fun hHeld => ?_);(focus ((try dsimp only);((refine ⟨?_, ?_, ?_⟩;((first | exact bX1 hb3 | exact bX0));((first | exact bX1 hb3 | exact bX0));(first | exact M3 | exact M0.drew | exact M0)))));clear hK K;(try simp only [Act.put,pqs]);refine rgL 4 hO rfl ?_;refine rgN 5 rfl ?_;refine rgN 6 rfl ?_;refine rgN 7 rfl ?_;refine rgN 8 rfl ?_;refine rgN 9 rfl ?_;refine wpAnyH_done (Q:=fun e a w => e = Exit.normal ∧ R a w) kR ⟨rfl,hR _ _ ?_⟩ _;clear hR R);have hB3 : Below W.heap.size W w3:=(by exact bB1 hb3);have I3:=HI.out.keep hB3;have i0:=I3.bI.cell 0;have f0:=I3.r0.froz 0;have f1:=I3.r1.froz 0;have g0:=I3.r0.cell 0;have g1:=I3.r1.cell 0;have x2:=I3.bX.cell 2;(simp at i0 g0 g1 x2);have li:=I3.bI.lt;have lr:=I3.r0.lt;have ls:=I3.r1.lt;have lx:=I3.bX.lt;have lb:=I3.bB.lt;have r0:=I3.r0;have r1:=I3.r1;have bel:=I3.below;have HI3:=Lib.hid I3;clear I3
    gi_wp2_with fail
    exact HQr.out _ 21 _ _ _ _ _ _ _ _ _ _ _ _ _ _ _ _ _ _ _ _ _ _ _ _ _ _ _ _ _ _ _ _ _ _ _ _ _ _ _ _ _ _ _ _ _ _ _ _ _ _ _ _ _ _ _ _ _ _ _ _ _ _ _ _ _ _ _ _ _ _ _ _ _ _ _ _ _ _ _ _ _ _ _ _ _ _ _ _ _ _ _ _ _ _ _ _ _ _ _ _ _ _ _ _ _ _ _ _ _ _ _ _ _ _ _ _ _ _ _ _ _ _ _ _ _ _ _ _ _ _ _ _ _ _ _ _ _ _ _ _ _ _ _ _ _ _ _ (.inl ⟨by first | rfl | trivial,rfl⟩) (by exact bX0) (by exact bX0) (by exact bB1 bel) (by (refine (below_kf hB3).trans ?_;(repeat refine KeepsFrom.trans ?_ ((KeepsOthers.setCell _ _ _).from _));exact KeepsFrom.refl _ _))
  | some n =>
    obtain ⟨hn0,hn1⟩:=hes n hf
    rw [hf] at HQr HQn
    clear hes
    have v1 : IntKind.i64.wrap (n - 1) = n - 1:=IntWalk.i64_in _ (by omega)
    have v2 : IntKind.i64.wrap (xm - 1) = xm - 1:=IntWalk.i64_in _ (by omega)
    by_cases hv : xm < n - 1
    · have d2 : decide (xm < n - 1) = true:=decide_eq_true hv
      have HV:=Lib.hid hv
      clear hv
      gi_wp2_with fail;(refine region_round kR kR (fun R hR => ?_);refine heldR (S:=(fun w' => Box w' (gM + 1) 161 #[.map (some gM)] ∧ Box w' gB 135 #[.int .i64 bx,.int .i64 bY,.int .i64 sl,.slice AL L.length cL,.int .i64 fx,.int .i64 fX,.int .i64 fy,.int .i64 fY,.slice AB B.length cB,.int .i64 P1,.slice (some ⟨gQ,0,none⟩) P2.length capQ] ∧ KMap w' gM es)) ?_ (fun hHeld => ?_);(focus ((try dsimp only);((refine ⟨?_, ?_, ?_⟩;((first | exact bX0 | exact bX1 hb3));((first | exact bX0 | exact bX1 hb3));(first | exact M3 | exact M0.drew | exact M0)))));have hO:=Lib.hid (fun w' (hSw : (fun w' => Box w' (gM + 1) 161 #[.map (some gM)] ∧ Box w' gB 135 #[.int .i64 bx,.int .i64 bY,.int .i64 sl,.slice AL L.length cL,.int .i64 fx,.int .i64 fX,.int .i64 fy,.int .i64 fY,.slice AB B.length cB,.int .i64 P1,.slice (some ⟨gQ,0,none⟩) P2.length capQ] ∧ KMap w' gM es) w') => (by (try dsimp only at hSw);(obtain ⟨hSA,hSB,hSC⟩:=hSw;have hlk:=run_look_k2 k0 k1 k2 k3 _ _ _ hSC;have sa0:=hSA.cell 0;have sb0:=hSB.cell 0;have sb1:=hSB.cell 1;have sb2:=hSB.cell 2;have sb3:=hSB.cell 3;have sb4:=hSB.cell 4;have sb5:=hSB.cell 5;have sb6:=hSB.cell 6;have sb7:=hSB.cell 7;have sb8:=hSB.cell 8;have sb9:=hSB.cell 9;have sb10:=hSB.cell 10;(simp at sa0 sb0 sb1 sb2 sb3 sb4 sb5 sb6 sb7 sb8 sb9 sb10));exact And.intro hlk (And.intro sa0 (And.intro sb0 (And.intro sb1 (And.intro sb2 (And.intro sb3 (And.intro sb4 (And.intro sb5 (And.intro sb6 (And.intro sb7 (And.intro sb8 (And.intro sb9 sb10)))))))))))));refine rgL 0 hO rfl ?_;refine rgN 1 rfl ?_;refine rgL 2 hO rfl ?_;refine rgC 3 rfl (fun K hK => ?_);go_simp;((go_at_call 118;refine (KYc.out _ (by exact bB0)).mono ?_;rintro e w3 ⟨rfl,hb3⟩;have hz3 : W.heap.size ≤ w3.heap.size:=(by have:=hb3.size;(try simp at this);omega);have M3 : KMap w3 gM es:=(M0.drew).below hb3 M0.lt));go_simp;refine hK.out _ _ ?_ (fun hHeld => ?_);(focus ((try dsimp only);((refine ⟨?_, ?_, ?_⟩;((first | exact bX1 hb3 | exact bX0));((first | exact bX1 hb3 | exact bX0));(first | exact M3 | exact M0.drew | exact M0)))));clear hK K;(try simp only [Act.put,pqs]);refine rgL 4 hO rfl ?_;refine rgN 5 rfl ?_;refine rgN 6 rfl ?_;refine rgN 7 rfl ?_;refine rgN 8 rfl ?_;refine rgN 9 rfl ?_;refine wpAnyH_done (Q:=fun e a w => e = Exit.normal ∧ R a w) kR ⟨rfl,hR _ _ ?_⟩ _;clear hR R);have hB3 : Below W.heap.size W w3:=(by exact bB1 hb3);have I3:=HI.out.keep hB3;have i0:=I3.bI.cell 0;have f0:=I3.r0.froz 0;have f1:=I3.r1.froz 0;have g0:=I3.r0.cell 0;have g1:=I3.r1.cell 0;have x2:=I3.bX.cell 2;(simp at i0 g0 g1 x2);have li:=I3.bI.lt;have lr:=I3.r0.lt;have ls:=I3.r1.lt;have lx:=I3.bX.lt;have lb:=I3.bB.lt;have r0:=I3.r0;have r1:=I3.r1;have bel:=I3.below;have HI3:=Lib.hid I3;clear I3
      gi_wp2_with fail
      exact HQr.out _ 19 _ _ _ _ _ _ _ _ _ _ _ _ _ _ _ _ _ _ _ _ _ _ _ _ _ _ _ _ _ _ _ _ _ _ _ _ _ _ _ _ _ _ _ _ _ _ _ _ _ _ _ _ _ _ _ _ _ _ _ _ _ _ _ _ _ _ _ _ _ _ _ _ _ _ _ _ _ _ _ _ _ _ _ _ _ _ _ _ _ _ _ _ _ _ _ _ _ _ _ _ _ _ _ _ _ _ _ _ _ _ _ _ _ _ _ _ _ _ _ _ _ _ _ _ _ _ _ _ _ _ _ _ _ _ _ _ _ _ _ _ _ _ _ _ _ _ _ (.inr ⟨n,by first | rfl | trivial,HV.out,rfl⟩) (by exact bX0) (by exact bX0) (by exact bB1 bel) (by (refine (below_kf hB3).trans ?_;(repeat refine KeepsFrom.trans ?_ ((KeepsOthers.setCell _ _ _).from _));exact KeepsFrom.refl _ _))
    · have d2 : decide (xm < n - 1) = false:=decide_eq_false hv
      have HQ2:=Lib.hid (fun W' => fun t0 t1 t2 t5 t8 t9 t11 t12 t13 t14 t15 t16 t17 t21 t23 t24 t25 t26 t27 t28 t29 t30 t31 t32 t33 t34 t35 t36 t37 t38 t39 t40 t41 t42 t43 t44 t45 t46 t47 t48 t49 t50 t51 t52 t53 t54 t55 t56 t57 t58 t59 t60 t61 t62 t63 t64 t65 t66 t67 t68 t69 t70 t71 t72 t73 t74 t75 t76 t77 t78 t79 t80 t81 t82 t83 t84 t85 t86 t87 t88 t89 t90 t91 t92 t93 t94 t95 t96 t97 t98 t99 t100 t101 t102 t103 t104 t105 t106 t107 t108 t109 t110 t111 t112 t113 t114 t115 t116 t117 t118 t119 t120 t121 t122 t123 t124 t125 t126 t127 t128 t129 t130 t131 t132 t133 t134 t135 t136 t137 t138 t139 t140 t141 t142 t143 t144 t145 t146 t147 t148 t149 t150 t151 t152 t153 t154 t155 => HQn.out W' n t0 t1 t2 t5 t8 t9 t11 t12 t13 t14 t15 t16 t17 t21 t23 t24 t25 t26 t27 t28 t29 t30 t31 t32 t33 t34 t35 t36 t37 t38 t39 t40 t41 t42 t43 t44 t45 t46 t47 t48 t49 t50 t51 t52 t53 t54 t55 t56 t57 t58 t59 t60 t61 t62 t63 t64 t65 t66 t67 t68 t69 t70 t71 t72 t73 t74 t75 t76 t77 t78 t79 t80 t81 t82 t83 t84 t85 t86 t87 t88 t89 t90 t91 t92 t93 t94 t95 t96 t97 t98 t99 t100 t101 t102 t103 t104 t105 t106 t107 t108 t109 t110 t111 t112 t113 t114 t115 t116 t117 t118 t119 t120 t121 t122 t123 t124 t125 t126 t127 t128 t129 t130 t131 t132 t133 t134 t135 t136 t137 t138 t139 t140 t141 t142 t143 t144 t145 t146 t147 t148 t149 t150 t151 t152 t153 t154 t155 rfl hv)
      have e4 : (n == xm - 1) = decide (n = xm - 1):=rfl
      clear hv HQn HQr
      generalize decide (n = xm - 1) = b4 at *
      gi_wp2_with fail;(refine region_round kR kR (fun R hR => ?_);refine heldR (S:=(fun w' => Box w' (gM + 1) 161 #[.map (some gM)] ∧ Box w' gB 135 #[.int .i64 bx,.int .i64 bY,.int .i64 sl,.slice AL L.length cL,.int .i64 fx,.int .i64 fX,.int .i64 fy,.int .i64 fY,.slice AB B.length cB,.int .i64 P1,.slice (some ⟨gQ,0,none⟩) P2.length capQ] ∧ KMap w' gM es)) ?_ (fun hHeld => ?_);(focus ((try dsimp only);((refine ⟨?_, ?_, ?_⟩;((first | exact bX0 | exact bX1 hb3));((first | exact bX0 | exact bX1 hb3));(first | exact M3 | exact M0.drew | exact M0)))));have hO:=Lib.hid (fun w' (hSw : (fun w' => Box w' (gM + 1) 161 #[.map (some gM)] ∧ Box w' gB 135 #[.int .i64 bx,.int .i64 bY,.int .i64 sl,.slice AL L.length cL,.int .i64 fx,.int .i64 fX,.int .i64 fy,.int .i64 fY,.slice AB B.length cB,.int .i64 P1,.slice (some ⟨gQ,0,none⟩) P2.length capQ] ∧ KMap w' gM es) w') => (by (try dsimp only at hSw);(obtain ⟨hSA,hSB,hSC⟩:=hSw;have hlk:=run_look_k2 k0 k1 k2 k3 _ _ _ hSC;have sa0:=hSA.cell 0;have sb0:=hSB.cell 0;have sb1:=hSB.cell 1;have sb2:=hSB.cell 2;have sb3:=hSB.cell 3;have sb4:=hSB.cell 4;have sb5:=hSB.cell 5;have sb6:=hSB.cell 6;have sb7:=hSB.cell 7;have sb8:=hSB.cell 8;have sb9:=hSB.cell 9;have sb10:=hSB.cell 10;(simp at sa0 sb0 sb1 sb2 sb3 sb4 sb5 sb6 sb7 sb8 sb9 sb10));exact And.intro hlk (And.intro sa0 (And.intro sb0 (And.intro sb1 (And.intro sb2 (And.intro sb3 (And.intro sb4 (And.intro sb5 (And.intro sb6 (And.intro sb7 (And.intro sb8 (And.intro sb9 sb10)))))))))))));refine rgL 0 hO rfl ?_;refine rgN 1 rfl ?_;refine rgL 2 hO rfl ?_;refine rgC 3 rfl (fun K hK => ?_);go_simp;((go_at_call 118;refine (KYc.out _ (by exact bB0)).mono ?_;rintro e w3 ⟨rfl,hb3⟩;have hz3 : W.heap.size ≤ w3.heap.size:=(by have:=hb3.size;(try simp at this);omega);have M3 : KMap w3 gM es:=(M0.drew).below hb3 M0.lt));go_simp;refine hK.out _ _ ?_ (fun hHeld => ?_);(focus ((try dsimp only);((refine ⟨?_, ?_, ?_⟩;((first | exact bX1 hb3 | exact bX0));((first | exact bX1 hb3 | exact bX0));(first | exact M3 | exact M0.drew | exact M0)))));clear hK K;(try simp only [Act.put,pqs]);refine rgL 4 hO rfl ?_;refine rgN 5 rfl ?_;refine rgN 6 rfl ?_;refine rgN 7 rfl ?_;refine rgN 8 rfl ?_;refine rgN 9 rfl ?_;refine wpAnyH_done (Q:=fun e a w => e = Exit.normal ∧ R a w) kR ⟨rfl,hR _ _ ?_⟩ _;clear hR R);have hB3 : Below W.heap.size W w3:=(by exact bB1 hb3);have I3:=HI.out.keep hB3;have i0:=I3.bI.cell 0;have f0:=I3.r0.froz 0;have f1:=I3.r1.froz 0;have g0:=I3.r0.cell 0;have g1:=I3.r1.cell 0;have x2:=I3.bX.cell 2;(simp at i0 g0 g1 x2);have li:=I3.bI.lt;have lr:=I3.r0.lt;have ls:=I3.r1.lt;have lx:=I3.bX.lt;have lb:=I3.bB.lt;have r0:=I3.r0;have r1:=I3.r1;have bel:=I3.below;have HI3:=Lib.hid I3;clear I3
      have bB:=HI3.out.bB;have bX:=HI3.out.bX
      have b0:=bB.cell 0;have fb:=bB.froz 0
      simp at b0
      cases bb
      · gi_wp2_with fail
        have J:=(HI3.out.keep (Below.refl _ _)).setB b4
        exact HQ2.out _ _ _ _ _ _ _ _ _ _ _ _ _ _ _ _ _ _ _ _ _ _ _ _ _ _ _ _ _ _ _ _ _ _ _ _ _ _ _ _ _ _ _ _ _ _ _ _ _ _ _ _ _ _ _ _ _ _ _ _ _ _ _ _ _ _ _ _ _ _ _ _ _ _ _ _ _ _ _ _ _ _ _ _ _ _ _ _ _ _ _ _ _ _ _ _ _ _ _ _ _ _ _ _ _ _ _ _ _ _ _ _ _ _ _ _ _ _ _ _ _ _ _ _ _ _ _ _ _ _ _ _ _ _ _ _ _ _ _ _ _ _ _ _ _ _ _ _ J (by (refine (below_kf hB3).trans ?_;(repeat refine KeepsFrom.trans ?_ ((KeepsOthers.setCell _ _ _).from _));exact KeepsFrom.refl _ _)) (fun g t cs hg hb => (hb.below hB3 hb.lt).far (p:=⟨Bb,0,none⟩) hg _)
      · gi_wp2_with fail
        have J:=(HI3.out.keep (Below.refl _ _)).setB true
        exact HQ2.out _ _ _ _ _ _ _ _ _ _ _ _ _ _ _ _ _ _ _ _ _ _ _ _ _ _ _ _ _ _ _ _ _ _ _ _ _ _ _ _ _ _ _ _ _ _ _ _ _ _ _ _ _ _ _ _ _ _ _ _ _ _ _ _ _ _ _ _ _ _ _ _ _ _ _ _ _ _ _ _ _ _ _ _ _ _ _ _ _ _ _ _ _ _ _ _ _ _ _ _ _ _ _ _ _ _ _ _ _ _ _ _ _ _ _ _ _ _ _ _ _ _ _ _ _ _ _ _ _ _ _ _ _ _ _ _ _ _ _ _ _ _ _ _ _ _ _ _ J (by (refine (below_kf hB3).trans ?_;(repeat refine KeepsFrom.trans ?_ ((KeepsOthers.setCell _ _ _).from _));exact KeepsFrom.refl _ _)) (fun g t cs hg hb => (hb.below hB3 hb.lt).far (p:=⟨Bb,0,none⟩) hg _)
end Go.Proofs.YtpnfgmgoafgcbaaGreat
set_option linter.unusedVariables false
namespace Go.Proofs.YtpnfgmgoafgcbaaGreat
open Go.RowKit Go.Shelf
attribute [local go_sem] Oper.semAt_some
theorem drop_pre {s : Sc} {p : Ps} {pre : List MvX} {x : MvX} (h : pre.map kyM ++ [kyM x] <+: allK s p) : (mvs s p).drop pre.length = x.1 :: (mvs s p).drop (pre.length + 1) ∧ x.2.1 = mvd p x.1:=by
  obtain ⟨r,hr⟩:=h
  have h1 : (allK s p)[pre.length]? = some (kyM x):=by rw [← hr];simp
  unfold allK at h1
  rw [List.getElem?_map] at h1
  obtain ⟨m,hm,e⟩:=Option.map_eq_some_iff.1 h1
  obtain ⟨hk,e2⟩:=List.getElem?_eq_some_iff.1 hm
  have e3 : m = x.1 ∧ mvd p m = x.2.1:=by simpa [kyM] using e
  obtain ⟨rfl,e4⟩:=e3
  exact ⟨by rw [List.drop_eq_getElem_cons hk,e2],e4.symm⟩
noncomputable def ckRange : Code:=(Tryz.f51.body.bind firstRange).getD .skip
set_option maxHeartbeats 4000000 in
set_option maxRecDepth 100000 in
theorem ckrange_c (h gM Bi gX Bb gA n : Nat) (bx bY sl fx fX fy fY ps xm : Int) (L : List Lk) (B : List Bx) (Q : List Int) (AL AB AQ A : Option Addr) (cL cB cQ c : Nat) (w0 W0 : World) (sv pv : Array Value) (es : List (Ky × Int)) (i : Nat) (b0 : Bool) (mo : Ps → Int) (G : Int) (ds : List Deferred) (PQ : Exit → Act → World → Prop)
    (hS : SOk (⟨bx,bY,sl,L,(fx,fX,fy,fY),B⟩ : Sc)) (hp : POk (⟨bx,bY,sl,L,(fx,fX,fy,fY),B⟩ : Sc) (ps,Q)) (hI : CI h gM Bi gX Bb w0 sv pv #[.int .i64 ps,.slice AQ Q.length cQ,.int .i64 xm] es i b0 W0) (hs1 : SlV w0 AL (L.flatMap lkV)) (hs2 : SlV w0 AB (B.flatMap bxV)) (hs3 : SlI w0 AQ Q) (hA : Box W0 gA 135 #[.int .i64 bx,.int .i64 bY,.int .i64 sl,.slice AL L.length cL,.int .i64 fx,.int .i64 fX,.int .i64 fy,.int .i64 fY,.slice AB B.length cB,.int .i64 ps,.slice AQ Q.length cQ]) (hxm : 0 ≤ xm ∧ xm ≤ 9223372036854775807)
    (hmo : ∀ q,POk (⟨bx,bY,sl,L,(fx,fX,fy,fY),B⟩ : Sc) q → lkp es (kyP q) = if mo q < 0 then none else some (mo q)) (hmb : ∀ q,mo q ≤ 9223372036854775807) (hG : crG mo xm (mvd (ps,Q)) (mvs (⟨bx,bY,sl,L,(fx,fX,fy,fY),B⟩ : Sc) (ps,Q)) b0 = G)
    (hQr : ∀ (D : Nat) (W' : World),W0.heap.size ≤ D → G ≠ 0 → Box W' (h + 2) 3 #[.int .i64 (i : Int)] → Box W' (h + 3) 37 #[.int .i64 G] → Below h w0 W' → KeepsFrom h W0 W' → W'.heap[D]? = some (.deferred (some [])) → ∀ (t0 t1 t5 t8 t9 t11 t12 t13 t14 t15 t16 t17 t21 t22 t23 t24 t25 t26 t27 t28 t29 t30 t31 t32 t33 t34 t35 t36 t37 t38 t39 t40 t41 t42 t43 t44 t45 t46 t47 t48 t49 t50 t51 t52 t53 t54 t55 t56 t57 t58 t59 t60 t61 t62 t63 t64 t65 t66 t67 t68 t69 t70 t71 t72 t73 t74 t75 t76 t77 t78 t79 t80 t81 t82 t83 t84 t85 t86 t87 t88 t89 t90 t91 t92 t93 t94 t95 t96 t97 t98 t99 t100 t101 t102 t103 t104 t105 t106 t107 t108 t109 t113 t114 t115 t116 t117 t118 t119 t120 t121 t122 t123 t125 t126 t127 t128 t129 t130 t131 t132 t133 t134 t135 t136 t137 t138 t139 t140 t141 t142 t143 t144 t145 t146 t147 t148 t149 t150 t151 t152 t153 t154 t155 : Value),PQ .ret ⟨#[t0,t1,Value.slice A n c,Value.pointer (some ⟨h,0,none⟩),Value.pointer (some ⟨h + 1,0,none⟩),t5,Value.pointer (some ⟨h + 2,0,none⟩),Value.pointer (some ⟨h + 3,0,none⟩),t8,t9,Value.pointer (some ⟨gM + 1,0,none⟩),t11,t12,t13,t14,t15,t16,t17,Value.pointer (some ⟨Bi,0,none⟩),Value.pointer (some ⟨gX,0,none⟩),Value.pointer (some ⟨Bb,0,none⟩),t21,t22,t23,t24,t25,t26,t27,t28,t29,t30,t31,t32,t33,t34,t35,t36,t37,t38,t39,t40,t41,t42,t43,t44,t45,t46,t47,t48,t49,t50,t51,t52,t53,t54,t55,t56,t57,t58,t59,t60,t61,t62,t63,t64,t65,t66,t67,t68,t69,t70,t71,t72,t73,t74,t75,t76,t77,t78,t79,t80,t81,t82,t83,t84,t85,t86,t87,t88,t89,t90,t91,t92,t93,t94,t95,t96,t97,t98,t99,t100,t101,t102,t103,t104,t105,t106,t107,t108,t109,Value.slice A n c,Value.int .i64 (n : Int),Value.int .i64 (i : Int),t113,t114,t115,t116,t117,t118,t119,t120,t121,t122,t123,Value.func (.func 157) #[] #[.pointer (some ⟨gA,0,none⟩)],t125,t126,t127,t128,t129,t130,t131,t132,t133,t134,t135,t136,t137,t138,t139,t140,t141,t142,t143,t144,t145,t146,t147,t148,t149,t150,t151,t152,t153,t154,t155],mk D :: ds⟩ W')
    (hQn : ∀ (D : Nat) (W' : World) (bb : Bool),W0.heap.size ≤ D → CI h gM Bi gX Bb w0 sv pv #[.int .i64 ps,.slice AQ Q.length cQ,.int .i64 xm] es i bb W' → G = (if bb then 0 else 19) → KeepsFrom h W0 W' → W'.heap[D]? = some (.deferred (some [])) → ∀ (t0 t1 t5 t8 t9 t11 t12 t13 t14 t15 t16 t17 t21 t22 t23 t24 t25 t26 t27 t28 t29 t30 t31 t32 t33 t34 t35 t36 t37 t38 t39 t40 t41 t42 t43 t44 t45 t46 t47 t48 t49 t50 t51 t52 t53 t54 t55 t56 t57 t58 t59 t60 t61 t62 t63 t64 t65 t66 t67 t68 t69 t70 t71 t72 t73 t74 t75 t76 t77 t78 t79 t80 t81 t82 t83 t84 t85 t86 t87 t88 t89 t90 t91 t92 t93 t94 t95 t96 t97 t98 t99 t100 t101 t102 t103 t104 t105 t106 t107 t108 t109 t113 t114 t115 t116 t117 t118 t119 t120 t121 t122 t123 t125 t126 t127 t128 t129 t130 t131 t132 t133 t134 t135 t136 t137 t138 t139 t140 t141 t142 t143 t144 t145 t146 t147 t148 t149 t150 t151 t152 t153 t154 t155 : Value),PQ .normal ⟨#[t0,t1,Value.slice A n c,Value.pointer (some ⟨h,0,none⟩),Value.pointer (some ⟨h + 1,0,none⟩),t5,Value.pointer (some ⟨h + 2,0,none⟩),Value.pointer (some ⟨h + 3,0,none⟩),t8,t9,Value.pointer (some ⟨gM + 1,0,none⟩),t11,t12,t13,t14,t15,t16,t17,Value.pointer (some ⟨Bi,0,none⟩),Value.pointer (some ⟨gX,0,none⟩),Value.pointer (some ⟨Bb,0,none⟩),t21,t22,t23,t24,t25,t26,t27,t28,t29,t30,t31,t32,t33,t34,t35,t36,t37,t38,t39,t40,t41,t42,t43,t44,t45,t46,t47,t48,t49,t50,t51,t52,t53,t54,t55,t56,t57,t58,t59,t60,t61,t62,t63,t64,t65,t66,t67,t68,t69,t70,t71,t72,t73,t74,t75,t76,t77,t78,t79,t80,t81,t82,t83,t84,t85,t86,t87,t88,t89,t90,t91,t92,t93,t94,t95,t96,t97,t98,t99,t100,t101,t102,t103,t104,t105,t106,t107,t108,t109,Value.slice A n c,Value.int .i64 (n : Int),Value.int .i64 (i : Int),t113,t114,t115,t116,t117,t118,t119,t120,t121,t122,t123,Value.func (.func 157) #[] #[.pointer (some ⟨gA,0,none⟩)],t125,t126,t127,t128,t129,t130,t131,t132,t133,t134,t135,t136,t137,t138,t139,t140,t141,t142,t143,t144,t145,t146,t147,t148,t149,t150,t151,t152,t153,t154,t155],mk D :: ds⟩ W')
    (t0 t1 t5 t8 t9 t11 t12 t13 t14 t15 t16 t17 t21 t22 t23 t24 t25 t26 t27 t28 t29 t30 t31 t32 t33 t34 t35 t36 t37 t38 t39 t40 t41 t42 t43 t44 t45 t46 t47 t48 t49 t50 t51 t52 t53 t54 t55 t56 t57 t58 t59 t60 t61 t62 t63 t64 t65 t66 t67 t68 t69 t70 t71 t72 t73 t74 t75 t76 t77 t78 t79 t80 t81 t82 t83 t84 t85 t86 t87 t88 t89 t90 t91 t92 t93 t94 t95 t96 t97 t98 t99 t100 t101 t102 t103 t104 t105 t106 t107 t108 t109 t113 t114 t115 t116 t117 t118 t119 t120 t121 t122 t123 t125 t126 t127 t128 t129 t130 t131 t132 t133 t134 t135 t136 t137 t138 t139 t140 t141 t142 t143 t144 t145 t146 t147 t148 t149 t150 t151 t152 t153 t154 t155 : Value) : ckRange.wpIn Fence.wide 6 Tryz.prog PQ ⟨#[t0,t1,Value.slice A n c,Value.pointer (some ⟨h,0,none⟩),Value.pointer (some ⟨h + 1,0,none⟩),t5,Value.pointer (some ⟨h + 2,0,none⟩),Value.pointer (some ⟨h + 3,0,none⟩),t8,t9,Value.pointer (some ⟨gM + 1,0,none⟩),t11,t12,t13,t14,t15,t16,t17,Value.pointer (some ⟨Bi,0,none⟩),Value.pointer (some ⟨gX,0,none⟩),Value.pointer (some ⟨Bb,0,none⟩),t21,t22,t23,t24,t25,t26,t27,t28,t29,t30,t31,t32,t33,t34,t35,t36,t37,t38,t39,t40,t41,t42,t43,t44,t45,t46,t47,t48,t49,t50,t51,t52,t53,t54,t55,t56,t57,t58,t59,t60,t61,t62,t63,t64,t65,t66,t67,t68,t69,t70,t71,t72,t73,t74,t75,t76,t77,t78,t79,t80,t81,t82,t83,t84,t85,t86,t87,t88,t89,t90,t91,t92,t93,t94,t95,t96,t97,t98,t99,t100,t101,t102,t103,t104,t105,t106,t107,t108,t109,Value.slice A n c,Value.int .i64 (n : Int),Value.int .i64 (i : Int),t113,t114,t115,t116,t117,t118,t119,t120,t121,t122,t123,Value.func (.func 157) #[] #[.pointer (some ⟨gA,0,none⟩)],t125,t126,t127,t128,t129,t130,t131,t132,t133,t134,t135,t136,t137,t138,t139,t140,t141,t142,t143,t144,t145,t146,t147,t148,t149,t150,t151,t152,t153,t154,t155],ds⟩ W0:=by
  have hL:=hS.len
  dsimp only at hL
  have hQl:=hp.len
  dsimp only at hQl
  have lB:=hI.bB.lt
  have lM:=hI.bM.lt
  obtain ⟨hl0,hl1,hl2⟩:=hI.hl
  have HZ:=Lib.hid hI.hz
  have hseq:=moves1_seq 5 gA bx bY sl fx fX fy fY ps L B Q AL AB AQ cL cB cQ W0 (by omega) hS hp (hs1.below (HZ.out ▸ hI.below)) (hs2.below (HZ.out ▸ hI.below)) (hs3.below (HZ.out ▸ hI.below)) hA
  unfold ckRange
  conv => arg 4;whnf
  refine wpIn_rangeFunc_G (gf:=157) (lb:=#[.pointer (some ⟨gA,0,none⟩)]) rfl (by omega) rfl trivial (enters_of Tryz.func157 (by kernel_rfl) rfl) hseq ?Sk ?Kt ?Kb (Below.refl _ _) (fun _ => rfl)
    (fun pre W => pre.map kyM <+: allK (⟨bx,bY,sl,L,(fx,fX,fy,fY),B⟩ : Sc) (ps,Q) ∧ (∃ bb,CI h gM Bi gX Bb w0 sv pv #[.int .i64 ps,.slice AQ Q.length cQ,.int .i64 xm] es i bb W ∧ crG mo xm (mvd (ps,Q)) ((mvs (⟨bx,bY,sl,L,(fx,fX,fy,fY),B⟩ : Sc) (ps,Q)).drop pre.length) bb = G) ∧ KeepsFrom h W0 W)
    (fun c pre W => c = .ret ∧ G ≠ 0 ∧ Box W (h + 2) 3 #[.int .i64 (i : Int)] ∧ Box W (h + 3) 37 #[.int .i64 G] ∧ Below h w0 W ∧ KeepsFrom h W0 W) ?I ?Ix (fun _ _ _ h => h.elim) ⟨List.nil_prefix,⟨b0,hI,hG⟩,KeepsFrom.refl _ _⟩
    (fun pre x a' W => pre.map kyM ++ [kyM x] <+: allK (⟨bx,bY,sl,L,(fx,fX,fy,fY),B⟩ : Sc) (ps,Q) ∧ SlI W (some ⟨x.2.2.1,0,none⟩) x.2.1.2 ∧ ∃ gB,W0.heap.size ≤ gB ∧ Box W gB 135 #[.int .i64 bx,.int .i64 bY,.int .i64 sl,.slice AL L.length cL,.int .i64 fx,.int .i64 fX,.int .i64 fy,.int .i64 fY,.slice AB B.length cB,.int .i64 x.2.1.1,.slice (some ⟨x.2.2.1,0,none⟩) x.2.1.2.length x.2.2.2] ∧ a' = ⟨#[t0,t1,Value.slice A n c,Value.pointer (some ⟨h,0,none⟩),Value.pointer (some ⟨h + 1,0,none⟩),t5,Value.pointer (some ⟨h + 2,0,none⟩),Value.pointer (some ⟨h + 3,0,none⟩),t8,t9,Value.pointer (some ⟨gM + 1,0,none⟩),t11,t12,t13,t14,t15,t16,t17,Value.pointer (some ⟨Bi,0,none⟩),Value.pointer (some ⟨gX,0,none⟩),Value.pointer (some ⟨Bb,0,none⟩),t21,Value.pointer (some ⟨gB,0,none⟩),t23,t24,t25,t26,t27,t28,t29,t30,t31,t32,t33,t34,t35,t36,t37,t38,t39,t40,t41,t42,t43,t44,t45,t46,t47,t48,t49,t50,t51,t52,t53,t54,t55,t56,t57,t58,t59,t60,t61,t62,t63,t64,t65,t66,t67,t68,t69,t70,t71,t72,t73,t74,t75,t76,t77,t78,t79,t80,t81,t82,t83,t84,t85,t86,t87,t88,t89,t90,t91,t92,t93,t94,t95,t96,t97,t98,t99,t100,t101,t102,t103,t104,t105,t106,t107,t108,t109,Value.slice A n c,Value.int .i64 (n : Int),Value.int .i64 (i : Int),t113,t114,t115,t116,t117,t118,t119,t120,t121,t122,t123,Value.func (.func 157) #[] #[.pointer (some ⟨gA,0,none⟩)],Value.agg #[.int .i64 x.1.1,.int .i64 x.1.2],Value.agg #[.int .i64 bx,.int .i64 bY,.int .i64 sl,.slice AL L.length cL,.int .i64 fx,.int .i64 fX,.int .i64 fy,.int .i64 fY,.slice AB B.length cB,.int .i64 x.2.1.1,.slice (some ⟨x.2.2.1,0,none⟩) x.2.1.2.length x.2.2.2],t127,t128,t129,t130,t131,t132,t133,t134,t135,t136,t137,t138,t139,t140,t141,t142,t143,t144,t145,t146,t147,t148,t149,t150,t151,t152,t153,t154,t155],[]⟩) ?Ax ?assign ?body ?done ?stop
  case Sk => exact fun _ _ _ _ h => h.elim
  case Kt => exact fun h k => ⟨fun b => k.a (h.a b),fun b => k.s1 (h.s1 b),fun b => k.s2 (h.s2 b),fun b => k.s3 (h.s3 b)⟩
  case Kb =>
    intro W l o o' _ ho hc _
    have hg:=grownBy_putObj' W l o'
    have hr : ∀ r,some l = some r → ∃ o : Obj,W.heap[r]? = some o ∧ o.isCells = false:=fun r e => by cases e;exact ⟨o,ho,hc⟩
    exact ⟨fun b => box_row b hg hr,fun b => b.own hg hr,fun b => b.own hg hr,fun b => b.own hg hr⟩
  case I =>
    rintro pre A B' row ⟨h1,⟨bb,h2,h3⟩,h4⟩ hg hr
    exact ⟨h1,⟨bb,h2.own hg hr (by omega),h3⟩,kf_grown h4 hg (fun r e => (hr r e).1)⟩
  case Ix =>
    rintro c pre A B' row ⟨h1,h2,h3,h4,h5,h6⟩ hg hr
    have hr' : ∀ r,row = some r → ∃ o : Obj,A.heap[r]? = some o ∧ o.isCells = false:=fun r e => (hr r e).2
    exact ⟨h1,h2,box_row h3 hg hr',box_row h4 hg hr',h5.grown hg (by have:=h3.lt;omega) (fun r e => by have:=(hr r e).1;omega),kf_grown h6 hg (fun r e => (hr r e).1)⟩
  case Ax =>
    rintro pre x a' _ A B' row ⟨h1,h2,gB,h6,h8,h9⟩ hg hr
    have hr' : ∀ r,row = some r → ∃ o : Obj,A.heap[r]? = some o ∧ o.isCells = false:=fun r e => (hr r e).2
    exact ⟨h1,h2.own hg hr',gB,h6,box_row h8 hg hr',h9⟩
  case assign =>
    rintro l1 pre x W K ⟨h1,⟨bb,h2,h3⟩,h4⟩ ⟨hpx,hq,_,hn⟩ hK
    have hsz:=h4.size
    gi_wp2
    have hb : Below W.heap.size W (W.alloc (.cells #[.int .i64 bx,.int .i64 bY,.int .i64 sl,.slice AL L.length cL,.int .i64 fx,.int .i64 fX,.int .i64 fy,.int .i64 fY,.slice AB B.length cB,.int .i64 x.2.1.1,.slice (some ⟨x.2.2.1,0,none⟩) x.2.1.2.length x.2.2.2] 135)):=by exact bB0
    refine hK _ _ (below_kf hb) ⟨fun b => b.below hb b.lt,fun b => b.below hb,fun b => b.below hb,fun b => b.below hb⟩ ⟨h1,⟨bb,h2.keep hb,h3⟩,h4.trans (below_kf hb)⟩ ⟨hpx,hq.below hb,W.heap.size,hsz,Box.new _ _ _,rfl⟩
  case body =>
    rintro l1 pre x a' W hlw ⟨h1,⟨bb,h2,h3⟩,h4⟩ ⟨hpx,hq,gB,hgB,hX,rfl⟩
    have hPx : POk (⟨bx,bY,sl,L,(fx,fX,fy,fY),B⟩ : Sc) x.2.1:=by
      have hm : kyM x ∈ allK (⟨bx,bY,sl,L,(fx,fX,fy,fY),B⟩ : Sc) (ps,Q):=hpx.subset (by simp)
      exact (allK_ok hp (show (x.1,x.2.1) ∈ _ from hm)).1
    have hPl:=hPx.len
    obtain ⟨hdr,hmd⟩:=drop_pre hpx
    rw [hdr] at h3
    have hlk:=hmo _ hPx
    have hub:=hmb x.2.1
    have hpre : (pre ++ [x]).map kyM <+: allK (⟨bx,bY,sl,L,(fx,fX,fy,fY),B⟩ : Sc) (ps,Q):=by simpa using hpx
    have hlen : (pre ++ [x]).length = pre.length + 1:=by simp
    obtain ⟨⟨mj,mb⟩,⟨P1,P2⟩,gQ,capQ⟩:=x
    dsimp only at hPl hX hq hlk hub hmd h3
    refine ckbody_c l1 _ h gM Bi gX Bb gB gQ capQ bx bY sl fx fX fy fY P1 ps xm L B P2 Q AL AB AQ cL cB cQ w0 W sv pv es i bb _ (by omega) (by omega) h2 hX (by omega) hq hxm ?es ?q1 ?q2 _ _ _ _ _ _ _ _ _ _ _ _ _ _ _ _ _ _ _ _ _ _ _ _ _ _ _ _ _ _ _ _ _ _ _ _ _ _ _ _ _ _ _ _ _ _ _ _ _ _ _ _ _ _ _ _ _ _ _ _ _ _ _ _ _ _ _ _ _ _ _ _ _ _ _ _ _ _ _ _ _ _ _ _ _ _ _ _ _ _ _ _ _ _ _ _ _ _ _ _ _ _ _ _ _ _ _ _ _ _ _ _ _ _ _ _ _ _ _ _ _ _ _ _ _ _ _ _ _ _ _ _ _ _ _ _ _ _ _ _ _ _ _ _ _ _ _
    case es =>
      intro n hn
      rw [hlk] at hn
      split at hn
      · cases hn
      · cases hn;omega
    case q1 =>
      intro W' e t0 t1 t2 t5 t8 t9 t11 t12 t13 t14 t15 t16 t17 t21 t23 t24 t25 t26 t27 t28 t29 t30 t31 t32 t33 t34 t35 t36 t37 t38 t39 t40 t41 t42 t43 t44 t45 t46 t47 t48 t49 t50 t51 t52 t53 t54 t55 t56 t57 t58 t59 t60 t61 t62 t63 t64 t65 t66 t67 t68 t69 t70 t71 t72 t73 t74 t75 t76 t77 t78 t79 t80 t81 t82 t83 t84 t85 t86 t87 t88 t89 t90 t91 t92 t93 t94 t95 t96 t97 t98 t99 t100 t101 t102 t103 t104 t105 t106 t107 t108 t109 t110 t111 t112 t113 t114 t115 t116 t117 t118 t119 t120 t121 t122 t123 t124 t125 t126 t127 t128 t129 t130 t131 t132 t133 t134 t135 t136 t137 t138 t139 t140 t141 t142 t143 t144 t145 t146 t147 t148 t149 t150 t151 t152 t153 t154 t155 he hb1 hb2 hb3 hk
      have hG2 : G = e ∧ e ≠ 0:=by
        rcases he with ⟨hn,rfl⟩ | ⟨n,hn,hlt,rfl⟩
        · rw [hlk] at hn
          split at hn
          · rename_i h0
            rw [hmd] at h0
            rw [crG_open h0] at h3
            exact ⟨h3.symm,by decide⟩
          · cases hn
        · rw [hlk] at hn
          split at hn
          · cases hn
          · rename_i h0
            cases hn
            rw [hmd] at h0 hlt
            rw [crG_proof h0 hlt] at h3
            exact ⟨h3.symm,by decide⟩
      obtain ⟨rfl,he0⟩:=hG2
      exact ⟨keepsFrom_le hk (by omega),rfl,he0,hb1,hb2,hb3,h4.trans hk⟩
    case q2 =>
      intro W' n t0 t1 t2 t5 t8 t9 t11 t12 t13 t14 t15 t16 t17 t21 t23 t24 t25 t26 t27 t28 t29 t30 t31 t32 t33 t34 t35 t36 t37 t38 t39 t40 t41 t42 t43 t44 t45 t46 t47 t48 t49 t50 t51 t52 t53 t54 t55 t56 t57 t58 t59 t60 t61 t62 t63 t64 t65 t66 t67 t68 t69 t70 t71 t72 t73 t74 t75 t76 t77 t78 t79 t80 t81 t82 t83 t84 t85 t86 t87 t88 t89 t90 t91 t92 t93 t94 t95 t96 t97 t98 t99 t100 t101 t102 t103 t104 t105 t106 t107 t108 t109 t110 t111 t112 t113 t114 t115 t116 t117 t118 t119 t120 t121 t122 t123 t124 t125 t126 t127 t128 t129 t130 t131 t132 t133 t134 t135 t136 t137 t138 t139 t140 t141 t142 t143 t144 t145 t146 t147 t148 t149 t150 t151 t152 t153 t154 t155 hn hlt hI2 hk2 hbx
      have h5 : crG mo xm (mvd (ps,Q)) ((mvs (⟨bx,bY,sl,L,(fx,fX,fy,fY),B⟩ : Sc) (ps,Q)).drop (pre.length + 1)) (bb || decide (n = xm - 1)) = G:=by
        rw [hlk] at hn
        split at hn
        · cases hn
        · rename_i h0
          cases hn
          rw [hmd] at h0 hlt ⊢
          rw [crG_next h0 hlt] at h3
          exact h3
      refine ⟨keepsFrom_le hk2 (by omega),⟨fun b => hbx _ _ _ (box_ne b h2.bB (by decide)) b,fun _ => hs1.below (HZ.out ▸ hI2.below),fun _ => hs2.below (HZ.out ▸ hI2.below),fun _ => hs3.below (HZ.out ▸ hI2.below)⟩,hpre,⟨_,hI2,by rw [hlen];exact h5⟩,h4.trans hk2⟩
  case done =>
    rintro D xs W' hD hxs ⟨_,⟨bb,h2,h3⟩,h4⟩ hDD
    refine hQn D W' bb hD h2 ?_ h4 hDD _ _ _ _ _ _ _ _ _ _ _ _ _ _ _ _ _ _ _ _ _ _ _ _ _ _ _ _ _ _ _ _ _ _ _ _ _ _ _ _ _ _ _ _ _ _ _ _ _ _ _ _ _ _ _ _ _ _ _ _ _ _ _ _ _ _ _ _ _ _ _ _ _ _ _ _ _ _ _ _ _ _ _ _ _ _ _ _ _ _ _ _ _ _ _ _ _ _ _ _ _ _ _ _ _ _ _ _ _ _ _ _ _ _ _ _ _ _ _ _ _ _ _ _ _ _ _ _ _ _ _ _ _ _ _ _ _ _ _ _ _ _ _
    have hl : xs.length = (mvs (⟨bx,bY,sl,L,(fx,fX,fy,fY),B⟩ : Sc) (ps,Q)).length:=by
      have:=congrArg List.length hxs
      simpa [allK] using this
    rw [hl,List.drop_length] at h3
    exact h3.symm
  case stop =>
    rintro D c pre W hD _ ⟨rfl,h2,h3,h4,h5,h6⟩ hDD
    gi_wp2
    exact hQr D W hD h2 h3 h4 h5 h6 hDD _ _ _ _ _ _ _ _ _ _ _ _ _ _ _ _ _ _ _ _ _ _ _ _ _ _ _ _ _ _ _ _ _ _ _ _ _ _ _ _ _ _ _ _ _ _ _ _ _ _ _ _ _ _ _ _ _ _ _ _ _ _ _ _ _ _ _ _ _ _ _ _ _ _ _ _ _ _ _ _ _ _ _ _ _ _ _ _ _ _ _ _ _ _ _ _ _ _ _ _ _ _ _ _ _ _ _ _ _ _ _ _ _ _ _ _ _ _ _ _ _ _ _ _ _ _ _ _ _ _ _ _ _ _ _ _ _ _ _ _ _ _ _
end Go.Proofs.YtpnfgmgoafgcbaaGreat
set_option linter.unusedVariables false
namespace Go.Proofs.YtpnfgmgoafgcbaaGreat
open Go.RowKit Go.Shelf
attribute [local go_sem] Oper.semAt_some
/-- What memory holds between the rounds. -/
structure CJ (h gM : Nat) (w0 : World) (sv pv : Array Value) (es : List (Ky × Int)) (W : World) : Prop where
  bS : Box W h 30 sv
  bP : Box W (h + 1) 33 pv
  r0 : Box W (h + 2) 3 #[.int .i64 0]
  r1 : Box W (h + 3) 37 #[.int .i64 0]
  bM : Box W (gM + 1) 161 #[.map (some gM)]
  mM : KMap W gM es
  hl : h + 4 ≤ gM
  hz : h = w0.heap.size
  below : Below h w0 W
theorem CJ.keep {h gM : Nat} {w0 : World} {sv pv : Array Value} {es : List (Ky × Int)} {W W' : World} (hI : CJ h gM w0 sv pv es W) (hb : Below W.heap.size W W') : CJ h gM w0 sv pv es W':=by
  obtain ⟨a,b,c,d,e,f,h1,h2,h3⟩:=hI
  exact ⟨a.below hb a.lt,b.below hb b.lt,c.below hb c.lt,d.below hb d.lt,e.below hb e.lt,f.below hb f.lt,h1,h2,h3.trans (hb.mono (by have:=a.lt;omega))⟩
theorem CI.toJ {h gM Bi gX Bb : Nat} {w0 : World} {sv pv xv : Array Value} {es : List (Ky × Int)} {i : Nat} {bb : Bool} {W : World} (hI : CI h gM Bi gX Bb w0 sv pv xv es i bb W) : CJ h gM w0 sv pv es W :=
  ⟨hI.bS,hI.bP,hI.r0,hI.r1,hI.bM,hI.mM,hI.hl.1,hI.hz,hI.below⟩
noncomputable def ckLoop2 : Code:=(((Tryz.f51.body.map loopsOf).getD [])[1]?).getD .skip
set_option maxHeartbeats 4000000 in
set_option maxRecDepth 100000 in
theorem cloop2_c (h gM : Nat) (bx bY sl fx fX fy fY : Int) (L : List Lk) (B : List Bx) (AL AB A : Option Addr) (cL cB c : Nat) (xs : List Rc) (w0 : World) (pv : Array Value) (es : List (Ky × Int)) (mo : Ps → Int) (gg : Nat → Int) (R : Nat × Int) (PQ : Exit → Act → World → Prop)
    (hS : SOk (⟨bx,bY,sl,L,(fx,fX,fy,fY),B⟩ : Sc)) (hs1 : SlV w0 AL (L.flatMap lkV)) (hs2 : SlV w0 AB (B.flatMap bxV)) (hx : RcW A xs w0) (hn : xs.length ≤ 100000) (hok : ∀ x ∈ xs,POk (⟨bx,bY,sl,L,(fx,fX,fy,fY),B⟩ : Sc) x.1.1 ∧ 0 ≤ x.2 ∧ x.2 ≤ 9223372036854775807)
    (hmo : ∀ q,POk (⟨bx,bY,sl,L,(fx,fX,fy,fY),B⟩ : Sc) q → lkp es (kyP q) = if mo q < 0 then none else some (mo q)) (hmb : ∀ q,mo q ≤ 9223372036854775807)
    (hgg : ∀ i x,xs[i]? = some x → gg i = crG mo x.2 (mvd x.1.1) (mvs (⟨bx,bY,sl,L,(fx,fX,fy,fY),B⟩ : Sc) x.1.1) (decide (x.2 = 0)))
    (hQr : ∀ (ds : List Nat) (W' : World) (t0 t1 t2 t3 t4 t5 t8 t9 t10 t11 t12 t13 t14 t15 t16 t17 t18 t19 t20 t21 t22 t23 t24 t25 t26 t27 t28 t29 t30 t31 t32 t33 t34 t35 t36 t37 t38 t39 t40 t41 t42 t43 t44 t45 t46 t47 t48 t49 t50 t51 t52 t53 t54 t55 t56 t57 t58 t59 t60 t61 t62 t63 t64 t65 t66 t67 t68 t69 t70 t71 t72 t73 t74 t75 t76 t77 t78 t79 t80 t81 t82 t83 t84 t85 t86 t87 t88 t89 t90 t91 t92 t93 t94 t95 t96 t97 t98 t99 t100 t101 t102 t103 t104 t105 t106 t107 t108 t109 t110 t111 t112 t113 t114 t115 t116 t117 t118 t119 t120 t121 t122 t123 t124 t125 t126 t127 t128 t129 t130 t131 t132 t133 t134 t135 t136 t137 t138 t139 t140 t141 t142 t143 t144 t145 t146 t147 t148 t149 t150 t151 t152 t153 t154 t155 : Value),Box W' (h + 2) 3 #[.int .i64 (R.1 : Int)] → Box W' (h + 3) 37 #[.int .i64 R.2] → Below h w0 W' → MarksOk (h + 4) W' ds → PQ .ret ⟨#[t0,t1,t2,t3,t4,t5,Value.pointer (some ⟨h + 2,0,none⟩),Value.pointer (some ⟨h + 3,0,none⟩),t8,t9,t10,t11,t12,t13,t14,t15,t16,t17,t18,t19,t20,t21,t22,t23,t24,t25,t26,t27,t28,t29,t30,t31,t32,t33,t34,t35,t36,t37,t38,t39,t40,t41,t42,t43,t44,t45,t46,t47,t48,t49,t50,t51,t52,t53,t54,t55,t56,t57,t58,t59,t60,t61,t62,t63,t64,t65,t66,t67,t68,t69,t70,t71,t72,t73,t74,t75,t76,t77,t78,t79,t80,t81,t82,t83,t84,t85,t86,t87,t88,t89,t90,t91,t92,t93,t94,t95,t96,t97,t98,t99,t100,t101,t102,t103,t104,t105,t106,t107,t108,t109,t110,t111,t112,t113,t114,t115,t116,t117,t118,t119,t120,t121,t122,t123,t124,t125,t126,t127,t128,t129,t130,t131,t132,t133,t134,t135,t136,t137,t138,t139,t140,t141,t142,t143,t144,t145,t146,t147,t148,t149,t150,t151,t152,t153,t154,t155],ds.map mk⟩ W')
    (hQe : ∀ (ds : List Nat) (W' : World) (t0 t1 t2 t3 t4 t5 t8 t9 t10 t11 t12 t13 t14 t15 t16 t17 t18 t19 t20 t21 t22 t23 t24 t25 t26 t27 t28 t29 t30 t31 t32 t33 t34 t35 t36 t37 t38 t39 t40 t41 t42 t43 t44 t45 t46 t47 t48 t49 t50 t51 t52 t53 t54 t55 t56 t57 t58 t59 t60 t61 t62 t63 t64 t65 t66 t67 t68 t69 t70 t71 t72 t73 t74 t75 t76 t77 t78 t79 t80 t81 t82 t83 t84 t85 t86 t87 t88 t89 t90 t91 t92 t93 t94 t95 t96 t97 t98 t99 t100 t101 t102 t103 t104 t105 t106 t107 t108 t109 t110 t111 t112 t113 t114 t115 t116 t117 t118 t119 t120 t121 t122 t123 t124 t125 t126 t127 t128 t129 t130 t131 t132 t133 t134 t135 t136 t137 t138 t139 t140 t141 t142 t143 t144 t145 t146 t147 t148 t149 t150 t151 t152 t153 t154 t155 : Value),R = (0,0) → CJ h gM w0 #[.int .i64 bx,.int .i64 bY,.int .i64 sl,.slice AL L.length cL,.int .i64 fx,.int .i64 fX,.int .i64 fy,.int .i64 fY,.slice AB B.length cB] pv es W' → MarksOk (h + 4) W' ds → PQ (.exit 2) ⟨#[t0,t1,t2,t3,t4,t5,Value.pointer (some ⟨h + 2,0,none⟩),Value.pointer (some ⟨h + 3,0,none⟩),t8,t9,t10,t11,t12,t13,t14,t15,t16,t17,t18,t19,t20,t21,t22,t23,t24,t25,t26,t27,t28,t29,t30,t31,t32,t33,t34,t35,t36,t37,t38,t39,t40,t41,t42,t43,t44,t45,t46,t47,t48,t49,t50,t51,t52,t53,t54,t55,t56,t57,t58,t59,t60,t61,t62,t63,t64,t65,t66,t67,t68,t69,t70,t71,t72,t73,t74,t75,t76,t77,t78,t79,t80,t81,t82,t83,t84,t85,t86,t87,t88,t89,t90,t91,t92,t93,t94,t95,t96,t97,t98,t99,t100,t101,t102,t103,t104,t105,t106,t107,t108,t109,t110,t111,t112,t113,t114,t115,t116,t117,t118,t119,t120,t121,t122,t123,t124,t125,t126,t127,t128,t129,t130,t131,t132,t133,t134,t135,t136,t137,t138,t139,t140,t141,t142,t143,t144,t145,t146,t147,t148,t149,t150,t151,t152,t153,t154,t155],ds.map mk⟩ W') :
    ∀ (m i : Nat) (ds : List Nat) (W : World) (t0 t1 t5 t8 t9 t11 t12 t13 t14 t15 t16 t17 t18 t19 t20 t21 t22 t23 t24 t25 t26 t27 t28 t29 t30 t31 t32 t33 t34 t35 t36 t37 t38 t39 t40 t41 t42 t43 t44 t45 t46 t47 t48 t49 t50 t51 t52 t53 t54 t55 t56 t57 t58 t59 t60 t61 t62 t63 t64 t65 t66 t67 t68 t69 t70 t71 t72 t73 t74 t75 t76 t77 t78 t79 t80 t81 t82 t83 t84 t85 t86 t87 t88 t89 t90 t91 t92 t93 t94 t95 t96 t97 t98 t99 t100 t101 t102 t103 t104 t105 t106 t107 t108 t109 t113 t114 t115 t116 t117 t118 t119 t120 t121 t122 t123 t124 t125 t126 t127 t128 t129 t130 t131 t132 t133 t134 t135 t136 t137 t138 t139 t140 t141 t142 t143 t144 t145 t146 t147 t148 t149 t150 t151 t152 t153 t154 t155 : Value),CJ h gM w0 #[.int .i64 bx,.int .i64 bY,.int .i64 sl,.slice AL L.length cL,.int .i64 fx,.int .i64 fX,.int .i64 fy,.int .i64 fY,.slice AB B.length cB] pv es W → MarksOk (h + 4) W ds → i ≤ xs.length → xs.length < i + m → ffE gg i (xs.length - i) = R →
      Code.roundsIn Fence.wide 6 Tryz.prog ckLoop2 PQ m ⟨#[t0,t1,Value.slice A xs.length c,Value.pointer (some ⟨h,0,none⟩),Value.pointer (some ⟨h + 1,0,none⟩),t5,Value.pointer (some ⟨h + 2,0,none⟩),Value.pointer (some ⟨h + 3,0,none⟩),t8,t9,Value.pointer (some ⟨gM + 1,0,none⟩),t11,t12,t13,t14,t15,t16,t17,t18,t19,t20,t21,t22,t23,t24,t25,t26,t27,t28,t29,t30,t31,t32,t33,t34,t35,t36,t37,t38,t39,t40,t41,t42,t43,t44,t45,t46,t47,t48,t49,t50,t51,t52,t53,t54,t55,t56,t57,t58,t59,t60,t61,t62,t63,t64,t65,t66,t67,t68,t69,t70,t71,t72,t73,t74,t75,t76,t77,t78,t79,t80,t81,t82,t83,t84,t85,t86,t87,t88,t89,t90,t91,t92,t93,t94,t95,t96,t97,t98,t99,t100,t101,t102,t103,t104,t105,t106,t107,t108,t109,Value.slice A xs.length c,Value.int .i64 (xs.length : Int),Value.int .i64 ((i : Nat) : Int),t113,t114,t115,t116,t117,t118,t119,t120,t121,t122,t123,t124,t125,t126,t127,t128,t129,t130,t131,t132,t133,t134,t135,t136,t137,t138,t139,t140,t141,t142,t143,t144,t145,t146,t147,t148,t149,t150,t151,t152,t153,t154,t155],ds.map mk⟩ W:=by
  intro m
  induction m with
  | zero =>
    intro i ds W t0 t1 t5 t8 t9 t11 t12 t13 t14 t15 t16 t17 t18 t19 t20 t21 t22 t23 t24 t25 t26 t27 t28 t29 t30 t31 t32 t33 t34 t35 t36 t37 t38 t39 t40 t41 t42 t43 t44 t45 t46 t47 t48 t49 t50 t51 t52 t53 t54 t55 t56 t57 t58 t59 t60 t61 t62 t63 t64 t65 t66 t67 t68 t69 t70 t71 t72 t73 t74 t75 t76 t77 t78 t79 t80 t81 t82 t83 t84 t85 t86 t87 t88 t89 t90 t91 t92 t93 t94 t95 t96 t97 t98 t99 t100 t101 t102 t103 t104 t105 t106 t107 t108 t109 t113 t114 t115 t116 t117 t118 t119 t120 t121 t122 t123 t124 t125 t126 t127 t128 t129 t130 t131 t132 t133 t134 t135 t136 t137 t138 t139 t140 t141 t142 t143 t144 t145 t146 t147 t148 t149 t150 t151 t152 t153 t154 t155 hI hM hil hm hr
    omega
  | succ m ih =>
    intro i ds W t0 t1 t5 t8 t9 t11 t12 t13 t14 t15 t16 t17 t18 t19 t20 t21 t22 t23 t24 t25 t26 t27 t28 t29 t30 t31 t32 t33 t34 t35 t36 t37 t38 t39 t40 t41 t42 t43 t44 t45 t46 t47 t48 t49 t50 t51 t52 t53 t54 t55 t56 t57 t58 t59 t60 t61 t62 t63 t64 t65 t66 t67 t68 t69 t70 t71 t72 t73 t74 t75 t76 t77 t78 t79 t80 t81 t82 t83 t84 t85 t86 t87 t88 t89 t90 t91 t92 t93 t94 t95 t96 t97 t98 t99 t100 t101 t102 t103 t104 t105 t106 t107 t108 t109 t113 t114 t115 t116 t117 t118 t119 t120 t121 t122 t123 t124 t125 t126 t127 t128 t129 t130 t131 t132 t133 t134 t135 t136 t137 t138 t139 t140 t141 t142 t143 t144 t145 t146 t147 t148 t149 t150 t151 t152 t153 t154 t155 hI hM hil hm hr
    rw [roundsIn_succ]
    unfold ckLoop2
    conv => arg 4;whnf
    have HZ:=Lib.hid hI.hz
    have hgM:=hI.hl
    have lS:=hI.bS.lt;have lM:=hI.bM.lt;have lK:=hI.mM.lt;have lP:=hI.bP.lt;have l0:=hI.r0.lt;have l1:=hI.r1.lt
    by_cases hlt : i < xs.length
    · obtain ⟨x,hxi⟩ : ∃ x,xs[i]? = some x:=⟨_,List.getElem?_eq_getElem hlt⟩
      have hW:=hx.below (HZ.out ▸ hI.below)
      obtain ⟨gR,oR,hA,lR,z0,z1,z2⟩:=rcCells hW hxi
      have hq3:=hx.el x (List.mem_of_getElem? hxi)
      obtain ⟨hpx,hxm⟩:=hok x (List.mem_of_getElem? hxi)
      have hG:=hgg i x hxi
      have HBD:=Lib.hid (fun (h0 : gg i ≠ 0) => show R = (i,gg i) from ffE_bad hlt hr h0)
      have HNX:=Lib.hid (fun (h : gg i = 0) => ffE_good hlt hr h)
      obtain ⟨⟨⟨ps,Q⟩,⟨AQ,cQ⟩⟩,xm⟩:=x
      dsimp only at z0 z1 z2 hq3 hpx hxm hG
      have bS:=hI.bS
      have c0:=bS.cell 0;have c1:=bS.cell 1;have c2:=bS.cell 2;have c3:=bS.cell 3;have c4:=bS.cell 4;have c5:=bS.cell 5;have c6:=bS.cell 6;have c7:=bS.cell 7;have c8:=bS.cell 8
      simp at c0 c1 c2 c3 c4 c5 c6 c7 c8
      have HI:=Lib.hid hI
      have HM:=Lib.hid hM
      have HP:=Lib.hid hpx
      have HX:=Lib.hid hxm
      have HG:=Lib.hid hG.symm
      have HQ3:=Lib.hid hq3
      clear hI hM hpx hW hq3 hxm hG hxi hr
      generalize gg i = G at *
      have hi0 : 0 ≤ (i : Int):=by omega
      have hi1 : (i : Int) < (xs.length : Int):=by omega
      have e5 : (xm == 0) = decide (xm = 0):=rfl
      generalize decide (xm = 0) = b0 at *
      subst hA
      gi_upto_region 24 with fail
      have hb0 : Below W.heap.size W (((W.alloc (.cells #[.int .i64 (i : Int)] 3)).alloc (.cells #[.int .i64 ps,.slice AQ Q.length cQ,.int .i64 xm] 98)).alloc (.cells #[.bool b0] 4)):=by exact bB0
      have I0 : CI h gM W.heap.size (W.heap.size + 1) (W.heap.size + 1 + 1) w0 #[.int .i64 bx,.int .i64 bY,.int .i64 sl,.slice AL L.length cL,.int .i64 fx,.int .i64 fX,.int .i64 fy,.int .i64 fY,.slice AB B.length cB] pv #[.int .i64 ps,.slice AQ Q.length cQ,.int .i64 xm] es i b0 (((W.alloc (.cells #[.int .i64 (i : Int)] 3)).alloc (.cells #[.int .i64 ps,.slice AQ Q.length cQ,.int .i64 xm] 98)).alloc (.cells #[.bool b0] 4)):=by
        have J:=HI.out.keep hb0
        exact ⟨J.bS,J.bP,J.r0,J.r1,J.bM,J.mM,by exact bX0,by exact bX0,by exact bX0,by omega,J.hz,J.below⟩
      have hzz0 : (((W.alloc (.cells #[.int .i64 (i : Int)] 3)).alloc (.cells #[.int .i64 ps,.slice AQ Q.length cQ,.int .i64 xm] 98)).alloc (.cells #[.bool b0] 4)).heap.size = W.heap.size + 3:=by simp
      generalize (((W.alloc (.cells #[.int .i64 (i : Int)] 3)).alloc (.cells #[.int .i64 ps,.slice AQ Q.length cQ,.int .i64 xm] 98)).alloc (.cells #[.bool b0] 4)) = W2 at *
      clear c0 c1 c2 c3 c4 c5 c6 c7 c8 bS
      have bS:=I0.bS
      have c0:=bS.cell 0;have c1:=bS.cell 1;have c2:=bS.cell 2;have c3:=bS.cell 3;have c4:=bS.cell 4;have c5:=bS.cell 5;have c6:=bS.cell 6;have c7:=bS.cell 7;have c8:=bS.cell 8
      have bX:=I0.bX
      have x0:=bX.cell 0;have x1:=bX.cell 1;have x2:=bX.cell 2
      simp at c0 c1 c2 c3 c4 c5 c6 c7 c8 x0 x1 x2
      have HI0:=Lib.hid I0
      clear I0
      gi_wp2_with (refine ⟨trivial, ?_⟩;gi_at_call 116;refine (moves_in Fence.wide _ trivial rfl _ _ rfl).mono ?_;rintro e w' ⟨rfl,rfl⟩)
      have hb1 : Below W2.heap.size W2 (W2.alloc (.cells #[.int .i64 bx,.int .i64 bY,.int .i64 sl,.slice AL L.length cL,.int .i64 fx,.int .i64 fX,.int .i64 fy,.int .i64 fY,.slice AB B.length cB,.int .i64 ps,.slice AQ Q.length cQ] 135)):=by exact bB0
      have hb : Below W.heap.size W (W2.alloc (.cells #[.int .i64 bx,.int .i64 bY,.int .i64 sl,.slice AL L.length cL,.int .i64 fx,.int .i64 fX,.int .i64 fy,.int .i64 fY,.slice AB B.length cB,.int .i64 ps,.slice AQ Q.length cQ] 135)):=by exact bB1 hb0
      have I1:=HI0.out.keep hb1
      have A1 : Box (W2.alloc (.cells #[.int .i64 bx,.int .i64 bY,.int .i64 sl,.slice AL L.length cL,.int .i64 fx,.int .i64 fX,.int .i64 fy,.int .i64 fY,.slice AB B.length cB,.int .i64 ps,.slice AQ Q.length cQ] 135)) (W.heap.size + 3) 135 #[.int .i64 bx,.int .i64 bY,.int .i64 sl,.slice AL L.length cL,.int .i64 fx,.int .i64 fX,.int .i64 fy,.int .i64 fY,.slice AB B.length cB,.int .i64 ps,.slice AQ Q.length cQ]:=by rw [← hzz0];exact Box.new _ _ _
      have hzz : (W2.alloc (.cells #[.int .i64 bx,.int .i64 bY,.int .i64 sl,.slice AL L.length cL,.int .i64 fx,.int .i64 fX,.int .i64 fy,.int .i64 fY,.slice AB B.length cB,.int .i64 ps,.slice AQ Q.length cQ] 135)).heap.size = W.heap.size + 4:=by simp;omega
      generalize (W2.alloc (.cells #[.int .i64 bx,.int .i64 bY,.int .i64 sl,.slice AL L.length cL,.int .i64 fx,.int .i64 fX,.int .i64 fy,.int .i64 fY,.slice AB B.length cB,.int .i64 ps,.slice AQ Q.length cQ] 135)) = W1 at *
      clear c0 c1 c2 c3 c4 c5 c6 c7 c8 bS bX x0 x1 x2
      refine ckrange_c h gM _ _ _ _ xs.length bx bY sl fx fX fy fY ps xm L B Q AL AB AQ _ cL cB cQ c w0 W1 _ pv es i b0 mo G (ds.map mk) _ hS HP.out I1 hs1 hs2 HQ3.out A1 HX.out hmo hmb HG.out ?qr ?qn _ _ _ _ _ _ _ _ _ _ _ _ _ _ _ _ _ _ _ _ _ _ _ _ _ _ _ _ _ _ _ _ _ _ _ _ _ _ _ _ _ _ _ _ _ _ _ _ _ _ _ _ _ _ _ _ _ _ _ _ _ _ _ _ _ _ _ _ _ _ _ _ _ _ _ _ _ _ _ _ _ _ _ _ _ _ _ _ _ _ _ _ _ _ _ _ _ _ _ _ _ _ _ _ _ _ _ _ _ _ _ _ _ _ _ _ _ _ _ _ _ _ _ _ _ _ _ _ _ _ _ _ _ _ _ _ _ _ _ _ _ _ _
      case qr =>
        intro D W' hD hG0 hb1 hb2 hb3 hk hDD t0 t1 t5 t8 t9 t11 t12 t13 t14 t15 t16 t17 t21 t22 t23 t24 t25 t26 t27 t28 t29 t30 t31 t32 t33 t34 t35 t36 t37 t38 t39 t40 t41 t42 t43 t44 t45 t46 t47 t48 t49 t50 t51 t52 t53 t54 t55 t56 t57 t58 t59 t60 t61 t62 t63 t64 t65 t66 t67 t68 t69 t70 t71 t72 t73 t74 t75 t76 t77 t78 t79 t80 t81 t82 t83 t84 t85 t86 t87 t88 t89 t90 t91 t92 t93 t94 t95 t96 t97 t98 t99 t100 t101 t102 t103 t104 t105 t106 t107 t108 t109 t113 t114 t115 t116 t117 t118 t119 t120 t121 t122 t123 t125 t126 t127 t128 t129 t130 t131 t132 t133 t134 t135 t136 t137 t138 t139 t140 t141 t142 t143 t144 t145 t146 t147 t148 t149 t150 t151 t152 t153 t154 t155
        have hR:=HBD.out hG0
        refine hQr (D :: ds) W' _ _ _ _ _ _ _ _ _ _ _ _ _ _ _ _ _ _ _ _ _ _ _ _ _ _ _ _ _ _ _ _ _ _ _ _ _ _ _ _ _ _ _ _ _ _ _ _ _ _ _ _ _ _ _ _ _ _ _ _ _ _ _ _ _ _ _ _ _ _ _ _ _ _ _ _ _ _ _ _ _ _ _ _ _ _ _ _ _ _ _ _ _ _ _ _ _ _ _ _ _ _ _ _ _ _ _ _ _ _ _ _ _ _ _ _ _ _ _ _ _ _ _ _ _ _ _ _ _ _ _ _ _ _ _ _ _ _ _ _ _ _ _ _ _ _ _ _ _ _ _ _ _ _ (by rw [hR];exact hb1) (by rw [hR];exact hb2) hb3 ((HM.out.keeps (keepsFrom_le ((below_kf hb).trans hk) (by omega))).cons (by omega) (fun hm => ?_) hDD)
        have:=HM.out.lt D hm
        omega
      case qn =>
        intro D W' bb hD I2 hGe hk hDD t0 t1 t5 t8 t9 t11 t12 t13 t14 t15 t16 t17 t21 t22 t23 t24 t25 t26 t27 t28 t29 t30 t31 t32 t33 t34 t35 t36 t37 t38 t39 t40 t41 t42 t43 t44 t45 t46 t47 t48 t49 t50 t51 t52 t53 t54 t55 t56 t57 t58 t59 t60 t61 t62 t63 t64 t65 t66 t67 t68 t69 t70 t71 t72 t73 t74 t75 t76 t77 t78 t79 t80 t81 t82 t83 t84 t85 t86 t87 t88 t89 t90 t91 t92 t93 t94 t95 t96 t97 t98 t99 t100 t101 t102 t103 t104 t105 t106 t107 t108 t109 t113 t114 t115 t116 t117 t118 t119 t120 t121 t122 t123 t125 t126 t127 t128 t129 t130 t131 t132 t133 t134 t135 t136 t137 t138 t139 t140 t141 t142 t143 t144 t145 t146 t147 t148 t149 t150 t151 t152 t153 t154 t155
        have hM2 : MarksOk (h + 4) W' (D :: ds):=(HM.out.keeps (keepsFrom_le ((below_kf hb).trans hk) (by omega))).cons (by omega) (fun hm => by have:=HM.out.lt D hm;omega) hDD
        have i0:=I2.bI.cell 0;have x0:=I2.bB.cell 0;have f0:=I2.r0.froz 0;have f1:=I2.r1.froz 0;have g0:=I2.r0.cell 0;have g1:=I2.r1.cell 0
        simp at i0 x0 g0 g1
        have r0:=I2.r0;have r1:=I2.r1;have bel:=I2.below
        have k0:=r0.lt;have k1:=r1.lt;have k2:=I2.bI.lt;have k3:=I2.bB.lt
        have HI2:=Lib.hid I2
        have HM2:=Lib.hid hM2
        have HIH:=Lib.hid ih
        clear I2 hM2 I1 A1 ih
        cases bb
        · have hG1 : G = 19:=hGe
          subst hG1
          have hR:=HBD.out (by decide)
          clear hGe HNX HBD HG
          gi_wp2_with fail
          refine hQr (D :: ds) _ _ _ _ _ _ _ _ _ _ _ _ _ _ _ _ _ _ _ _ _ _ _ _ _ _ _ _ _ _ _ _ _ _ _ _ _ _ _ _ _ _ _ _ _ _ _ _ _ _ _ _ _ _ _ _ _ _ _ _ _ _ _ _ _ _ _ _ _ _ _ _ _ _ _ _ _ _ _ _ _ _ _ _ _ _ _ _ _ _ _ _ _ _ _ _ _ _ _ _ _ _ _ _ _ _ _ _ _ _ _ _ _ _ _ _ _ _ _ _ _ _ _ _ _ _ _ _ _ _ _ _ _ _ _ _ _ _ _ _ _ _ _ _ _ _ _ _ _ _ _ _ _ _ _ (by rw [hR];exact bX0) (by rw [hR];exact bX0) (by exact bB1 bel) (HM2.out.keeps ?_)
          (repeat refine KeepsFrom.trans ?_ ((KeepsOthers.setCell _ _ _).from _))
          exact KeepsFrom.refl _ _
        · have hG1 : G = 0:=hGe
          have hN:=Lib.hid (HNX.out hG1)
          have v1 : IntKind.i64.wrap ((i : Int) + 1) = (i : Int) + 1:=IntWalk.i64_in _ (by omega)
          clear hGe HNX HBD HG hG1
          gi_wp2_with fail
          exact HIH.out (i + 1) (D :: ds) W' _ _ _ _ _ _ _ _ _ _ _ _ _ _ _ _ _ _ _ _ _ _ _ _ _ _ _ _ _ _ _ _ _ _ _ _ _ _ _ _ _ _ _ _ _ _ _ _ _ _ _ _ _ _ _ _ _ _ _ _ _ _ _ _ _ _ _ _ _ _ _ _ _ _ _ _ _ _ _ _ _ _ _ _ _ _ _ _ _ _ _ _ _ _ _ _ _ _ _ _ _ _ _ _ _ _ _ _ _ _ _ _ _ _ _ _ _ _ _ _ _ _ _ _ _ _ _ _ _ _ _ _ _ _ _ _ _ _ _ _ _ _ _ _ _ _ _ HI2.out.toJ HM2.out (by omega) (by omega) hN.out
    · have e : i = xs.length:=by omega
      subst e
      have hR : R = (0,0):=by rw [Nat.sub_self] at hr;exact hr.symm
      have HI:=Lib.hid hI
      have HM:=Lib.hid hM
      clear hI hM hr
      gi_wp2_with fail
      exact hQe ds W _ _ _ _ _ _ _ _ _ _ _ _ _ _ _ _ _ _ _ _ _ _ _ _ _ _ _ _ _ _ _ _ _ _ _ _ _ _ _ _ _ _ _ _ _ _ _ _ _ _ _ _ _ _ _ _ _ _ _ _ _ _ _ _ _ _ _ _ _ _ _ _ _ _ _ _ _ _ _ _ _ _ _ _ _ _ _ _ _ _ _ _ _ _ _ _ _ _ _ _ _ _ _ _ _ _ _ _ _ _ _ _ _ _ _ _ _ _ _ _ _ _ _ _ _ _ _ _ _ _ _ _ _ _ _ _ _ _ _ _ _ _ _ _ _ _ _ _ _ _ _ _ _ _ hR HI.out HM.out
end Go.Proofs.YtpnfgmgoafgcbaaGreat

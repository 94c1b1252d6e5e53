/-
  CheckReached (chapter 6): its first loop.
-/
import Derived.Test.YtpnfgmgoafgcbaaGreatG7
import Derived.Test.YtpnfgmgoafgcbaaGreatG6
import Derived.Test.YtpnfgmgoafgcbaaGreatRSc
set_option linter.all false
set_option linter.unusedVariables false
namespace Go.Proofs.YtpnfgmgoafgcbaaGreat
open Go.RowKit Go.Shelf
attribute [local go_sem] Oper.semAt_some
theorem CJ.put {h gM : Nat} {w0 : World} {sv pv : Array Value} {es : List (Ky × Int)} {W : World} (hI : CJ h gM w0 sv pv es W) (k : Ky) (v : Int) : CJ h gM w0 sv pv (es ++ [(k,v)]) (W.putObj gM (putK W gM k v)):=by
  obtain ⟨a,b,c,d,e,f,h1,h2,h3⟩:=hI
  exact ⟨a.put (by omega) _,b.put (by omega) _,c.put (by omega) _,d.put (by omega) _,e.put (by omega) _,f.put k v,h1,h2,below_putObj h3 (by omega) _⟩
noncomputable def ckLoop1 : Code:=(((Tryz.f51.body.map loopsOf).getD [])[0]?).getD .skip
set_option maxHeartbeats 4000000 in
set_option maxRecDepth 100000 in
theorem cloop1_c (h gM : Nat) (bx bY sl fx fX fy fY ps : Int) (L : List Lk) (B : List Bx) (Q : List Int) (AL AB AQ A : Option Addr) (cL cB cQ c : Nat) (xs : List Rc) (ys : List PM) (w0 : World) (ff : Nat → Int) (R : Nat × Int) (PQ : Exit → Act → World → Prop)
    (hS : SOk (⟨bx,bY,sl,L,(fx,fX,fy,fY),B⟩ : Sc)) (hsc : scE (⟨bx,bY,sl,L,(fx,fX,fy,fY),B⟩ : Sc) = 0) (hQl : Q.length ≤ 3) (hs1 : SlV w0 AL (L.flatMap lkV)) (hs2 : SlV w0 AB (B.flatMap bxV)) (hs3 : SlI w0 AQ Q) (hx : RcW A xs w0) (hn : xs.length ≤ 100000) (hys : ys = xs.map pmR)
    (hmm : ∀ x ∈ xs,-9223372036854775808 ≤ x.2 ∧ x.2 ≤ 9223372036854775807)
    (hff : ∀ i x,xs[i]? = some x → ff i = fstE [ownE (⟨bx,bY,sl,L,(fx,fX,fy,fY),B⟩ : Sc) x.1.1,unl (decide (i = 0) || befS (ys.getD (i - 1) pm0).1 x.1.1) 9,unl (freeP (⟨bx,bY,sl,L,(fx,fX,fy,fY),B⟩ : Sc) x.1.1) 17,unl (decide (0 ≤ x.2) && (decide (x.2 = 0) == decide (x.1.1 = (ps,Q)))) 2])
    (hnone : ∀ i x,xs[i]? = some x → (∀ j,j ≤ i → ff j = 0) → lkp (ks ys i) (kyP x.1.1) = none)
    (hQr : ∀ (W' : World) (t0 t1 t2 t3 t4 t5 t8 t9 t10 t11 t12 t13 t14 t15 t16 t17 t18 t19 t20 t21 t22 t23 t24 t25 t26 t27 t28 t29 t30 t31 t32 t33 t34 t35 t36 t37 t38 t39 t40 t41 t42 t43 t44 t45 t46 t47 t48 t49 t50 t51 t52 t53 t54 t55 t56 t57 t58 t59 t60 t61 t62 t63 t64 t65 t66 t67 t68 t69 t70 t71 t72 t73 t74 t75 t76 t77 t78 t79 t80 t81 t82 t83 t84 t85 t86 t87 t88 t89 t90 t91 t92 t93 t94 t95 t96 t97 t98 t99 t100 t101 t102 t103 t104 t105 t106 t107 t108 t109 t110 t111 t112 t113 t114 t115 t116 t117 t118 t119 t120 t121 t122 t123 t124 t125 t126 t127 t128 t129 t130 t131 t132 t133 t134 t135 t136 t137 t138 t139 t140 t141 t142 t143 t144 t145 t146 t147 t148 t149 t150 t151 t152 t153 t154 t155 : Value),Box W' (h + 2) 3 #[.int .i64 (R.1 : Int)] → Box W' (h + 3) 37 #[.int .i64 R.2] → Below h w0 W' → R.2 ≠ 0 → PQ .ret ⟨#[t0,t1,t2,t3,t4,t5,Value.pointer (some ⟨h + 2,0,none⟩),Value.pointer (some ⟨h + 3,0,none⟩),t8,t9,t10,t11,t12,t13,t14,t15,t16,t17,t18,t19,t20,t21,t22,t23,t24,t25,t26,t27,t28,t29,t30,t31,t32,t33,t34,t35,t36,t37,t38,t39,t40,t41,t42,t43,t44,t45,t46,t47,t48,t49,t50,t51,t52,t53,t54,t55,t56,t57,t58,t59,t60,t61,t62,t63,t64,t65,t66,t67,t68,t69,t70,t71,t72,t73,t74,t75,t76,t77,t78,t79,t80,t81,t82,t83,t84,t85,t86,t87,t88,t89,t90,t91,t92,t93,t94,t95,t96,t97,t98,t99,t100,t101,t102,t103,t104,t105,t106,t107,t108,t109,t110,t111,t112,t113,t114,t115,t116,t117,t118,t119,t120,t121,t122,t123,t124,t125,t126,t127,t128,t129,t130,t131,t132,t133,t134,t135,t136,t137,t138,t139,t140,t141,t142,t143,t144,t145,t146,t147,t148,t149,t150,t151,t152,t153,t154,t155],[]⟩ W')
    (hQe : ∀ (W' : World) (t0 t1 t5 t8 t9 t11 t12 t13 t14 t15 t16 t17 t18 t19 t20 t21 t22 t23 t24 t25 t26 t27 t28 t29 t30 t31 t32 t33 t34 t35 t36 t37 t38 t39 t40 t41 t42 t43 t44 t45 t46 t47 t48 t49 t50 t51 t52 t53 t54 t55 t56 t57 t58 t59 t60 t61 t62 t63 t64 t65 t66 t67 t68 t69 t70 t71 t72 t73 t74 t75 t76 t77 t78 t79 t80 t81 t82 t83 t84 t85 t86 t87 t88 t89 t90 t91 t92 t93 t94 t95 t96 t97 t98 t99 t100 t101 t102 t103 t104 t105 t106 t107 t108 t109 t110 t111 t112 t113 t114 t115 t116 t117 t118 t119 t120 t121 t122 t123 t124 t125 t126 t127 t128 t129 t130 t131 t132 t133 t134 t135 t136 t137 t138 t139 t140 t141 t142 t143 t144 t145 t146 t147 t148 t149 t150 t151 t152 t153 t154 t155 : Value),(∀ j,j < xs.length → ff j = 0) → R = (0,0) → CJ h gM w0 #[.int .i64 bx,.int .i64 bY,.int .i64 sl,.slice AL L.length cL,.int .i64 fx,.int .i64 fX,.int .i64 fy,.int .i64 fY,.slice AB B.length cB] #[.int .i64 ps,.slice AQ Q.length cQ] (ks ys xs.length) W' → PQ (.exit 0) ⟨#[t0,t1,Value.slice A xs.length c,Value.pointer (some ⟨h,0,none⟩),Value.pointer (some ⟨h + 1,0,none⟩),t5,Value.pointer (some ⟨h + 2,0,none⟩),Value.pointer (some ⟨h + 3,0,none⟩),t8,t9,Value.pointer (some ⟨gM + 1,0,none⟩),t11,t12,t13,t14,t15,t16,t17,t18,t19,t20,t21,t22,t23,t24,t25,t26,t27,t28,t29,t30,t31,t32,t33,t34,t35,t36,t37,t38,t39,t40,t41,t42,t43,t44,t45,t46,t47,t48,t49,t50,t51,t52,t53,t54,t55,t56,t57,t58,t59,t60,t61,t62,t63,t64,t65,t66,t67,t68,t69,t70,t71,t72,t73,t74,t75,t76,t77,t78,t79,t80,t81,t82,t83,t84,t85,t86,t87,t88,t89,t90,t91,t92,t93,t94,t95,t96,t97,t98,t99,t100,t101,t102,t103,t104,t105,t106,t107,t108,t109,t110,t111,t112,t113,t114,t115,t116,t117,t118,t119,t120,t121,t122,t123,t124,t125,t126,t127,t128,t129,t130,t131,t132,t133,t134,t135,t136,t137,t138,t139,t140,t141,t142,t143,t144,t145,t146,t147,t148,t149,t150,t151,t152,t153,t154,t155],[]⟩ W') :
    ∀ (m i : Nat) (W : World) (t0 t1 t5 t8 t9 t11 t12 t13 t14 t15 t16 t17 t18 t19 t20 t21 t22 t23 t24 t25 t26 t27 t28 t29 t30 t31 t32 t33 t34 t38 t39 t40 t41 t42 t43 t44 t45 t46 t47 t48 t49 t50 t51 t52 t53 t54 t55 t56 t57 t58 t59 t60 t61 t62 t63 t64 t65 t66 t67 t68 t69 t70 t71 t72 t73 t74 t75 t76 t77 t78 t79 t80 t81 t82 t83 t84 t85 t86 t87 t88 t89 t90 t91 t92 t93 t94 t95 t96 t97 t98 t99 t100 t101 t102 t103 t104 t105 t106 t107 t108 t109 t110 t111 t112 t113 t114 t115 t116 t117 t118 t119 t120 t121 t122 t123 t124 t125 t126 t127 t128 t129 t130 t131 t132 t133 t134 t135 t136 t137 t138 t139 t140 t141 t142 t143 t144 t145 t146 t147 t148 t149 t150 t151 t152 t153 t154 t155 : Value),CJ h gM w0 #[.int .i64 bx,.int .i64 bY,.int .i64 sl,.slice AL L.length cL,.int .i64 fx,.int .i64 fX,.int .i64 fy,.int .i64 fY,.slice AB B.length cB] #[.int .i64 ps,.slice AQ Q.length cQ] (ks ys i) W → i ≤ xs.length → xs.length < i + m → ffE ff i (xs.length - i) = R → (∀ j,j < i → ff j = 0) →
      Code.rounds Tryz.prog ckLoop1 PQ m ⟨#[t0,t1,Value.slice A xs.length c,Value.pointer (some ⟨h,0,none⟩),Value.pointer (some ⟨h + 1,0,none⟩),t5,Value.pointer (some ⟨h + 2,0,none⟩),Value.pointer (some ⟨h + 3,0,none⟩),t8,t9,Value.pointer (some ⟨gM + 1,0,none⟩),t11,t12,t13,t14,t15,t16,t17,t18,t19,t20,t21,t22,t23,t24,t25,t26,t27,t28,t29,t30,t31,t32,t33,t34,Value.slice A xs.length c,Value.int .i64 (xs.length : Int),Value.int .i64 ((i : Nat) : Int),t38,t39,t40,t41,t42,t43,t44,t45,t46,t47,t48,t49,t50,t51,t52,t53,t54,t55,t56,t57,t58,t59,t60,t61,t62,t63,t64,t65,t66,t67,t68,t69,t70,t71,t72,t73,t74,t75,t76,t77,t78,t79,t80,t81,t82,t83,t84,t85,t86,t87,t88,t89,t90,t91,t92,t93,t94,t95,t96,t97,t98,t99,t100,t101,t102,t103,t104,t105,t106,t107,t108,t109,t110,t111,t112,t113,t114,t115,t116,t117,t118,t119,t120,t121,t122,t123,t124,t125,t126,t127,t128,t129,t130,t131,t132,t133,t134,t135,t136,t137,t138,t139,t140,t141,t142,t143,t144,t145,t146,t147,t148,t149,t150,t151,t152,t153,t154,t155],[]⟩ W:=by
  have hlen:=hS.len
  have hlk:=hS.lk
  have hbx:=hS.bx;have hbY:=hS.bY;have hnB:=hS.nB
  dsimp only at hlen hlk hbx hbY hnB
  intro m
  induction m with
  | zero => intro i W t0 t1 t5 t8 t9 t11 t12 t13 t14 t15 t16 t17 t18 t19 t20 t21 t22 t23 t24 t25 t26 t27 t28 t29 t30 t31 t32 t33 t34 t38 t39 t40 t41 t42 t43 t44 t45 t46 t47 t48 t49 t50 t51 t52 t53 t54 t55 t56 t57 t58 t59 t60 t61 t62 t63 t64 t65 t66 t67 t68 t69 t70 t71 t72 t73 t74 t75 t76 t77 t78 t79 t80 t81 t82 t83 t84 t85 t86 t87 t88 t89 t90 t91 t92 t93 t94 t95 t96 t97 t98 t99 t100 t101 t102 t103 t104 t105 t106 t107 t108 t109 t110 t111 t112 t113 t114 t115 t116 t117 t118 t119 t120 t121 t122 t123 t124 t125 t126 t127 t128 t129 t130 t131 t132 t133 t134 t135 t136 t137 t138 t139 t140 t141 t142 t143 t144 t145 t146 t147 t148 t149 t150 t151 t152 t153 t154 t155 hI h1 h2;omega
  | succ m ih =>
    intro i W t0 t1 t5 t8 t9 t11 t12 t13 t14 t15 t16 t17 t18 t19 t20 t21 t22 t23 t24 t25 t26 t27 t28 t29 t30 t31 t32 t33 t34 t38 t39 t40 t41 t42 t43 t44 t45 t46 t47 t48 t49 t50 t51 t52 t53 t54 t55 t56 t57 t58 t59 t60 t61 t62 t63 t64 t65 t66 t67 t68 t69 t70 t71 t72 t73 t74 t75 t76 t77 t78 t79 t80 t81 t82 t83 t84 t85 t86 t87 t88 t89 t90 t91 t92 t93 t94 t95 t96 t97 t98 t99 t100 t101 t102 t103 t104 t105 t106 t107 t108 t109 t110 t111 t112 t113 t114 t115 t116 t117 t118 t119 t120 t121 t122 t123 t124 t125 t126 t127 t128 t129 t130 t131 t132 t133 t134 t135 t136 t137 t138 t139 t140 t141 t142 t143 t144 t145 t146 t147 t148 t149 t150 t151 t152 t153 t154 t155 hI hil hm hr hz
    rw [rounds_succ]
    unfold ckLoop1
    conv => arg 2;whnf
    have HZH:=Lib.hid hI.hz
    have hgM:=hI.hl
    have hbel:=hI.below
    have lS:=hI.bS.lt;have lM:=hI.bM.lt;have lK:=hI.mM.lt;have lP:=hI.bP.lt
    by_cases hlt : i < xs.length
    · obtain ⟨x,hxi⟩ : ∃ x,xs[i]? = some x:=⟨_,List.getElem?_eq_getElem hlt⟩
      have hWr:=hx.below (HZH.out ▸ hbel)
      obtain ⟨gR,oR,hA,lR,z0,z1,z2⟩:=rcCells hWr hxi
      have hq3:=hx.el x (List.mem_of_getElem? hxi)
      have hql:=hx.ln x (List.mem_of_getElem? hxi)
      have hmx:=hmm x (List.mem_of_getElem? hxi)
      have hF:=hff i x hxi
      have hN:=hnone i x hxi
      have hyi : ys[i]? = some (pmR x):=by rw [hys,List.getElem?_map,hxi];rfl
      have hkz:=ks_step hyi
      have HBD:=Lib.hid (fun (h0 : ff i ≠ 0) => show R = (i,ff i) from ffE_bad hlt hr h0)
      have HNX:=Lib.hid (fun (h : ff i = 0) => ffE_good hlt hr h)
      obtain ⟨y,hy⟩ : ∃ y,y = ys.getD (i - 1) pm0:=⟨_,rfl⟩
      have hprev : 0 < i → ∃ x',xs[i - 1]? = some x' ∧ pmR x' = y:=fun h0 => by
        refine ⟨xs[i - 1],List.getElem?_eq_getElem (by omega), ?_⟩
        rw [hy,hys]
        exact (getD_of (by rw [List.getElem?_map,List.getElem?_eq_getElem (show i - 1 < xs.length by omega)];rfl)).symm
      rw [← hy] at hF
      clear hy hyi
      obtain ⟨⟨⟨x1,xQ⟩,⟨AX,cX⟩⟩,xm⟩:=x
      dsimp only at z0 z1 z2 hq3 hql hmx hF hN
      obtain ⟨xm1,xm2⟩:=hmx
      have CPc:=Lib.hid (fun W' (hb : Below W.heap.size W W') => show Calls Tryz.prog 61 #[.agg #[.int .i64 bx,.int .i64 bY,.int .i64 sl,.slice AL L.length cL,.int .i64 fx,.int .i64 fX,.int .i64 fy,.int .i64 fY,.slice AB B.length cB],.agg #[.int .i64 x1,.slice AX xQ.length cX]] W' (fun e w' => e = .returned (.int .i64 (ownE (⟨bx,bY,sl,L,(fx,fX,fy,fY),B⟩ : Sc) (x1,xQ))) ∧ Below W'.heap.size W' w') from by
        have hb2 : Below w0.heap.size w0 W':=HZH.out ▸ hbel.trans (hb.mono (by omega))
        have h1:=checkPose_c bx bY sl fx fX fy fY x1 L B xQ AL AB AX cL cB cX W' (by omega) (by omega) (by omega) (hs1.below hb2) (hs2.below hb2) (hq3.below hb2)
        rw [cpE_own,if_neg (by simp [hsc])] at h1
        exact h1)
      have ORc:=Lib.hid (fun W' (hb : Below W.heap.size W W') => show Calls Tryz.prog 121 #[.agg #[.int .i64 x1,.slice AX xQ.length cX],.agg #[.int .i64 ps,.slice AQ Q.length cQ]] W' (fun e w' => e = .returned (.int .i64 (ordP (x1,xQ) (ps,Q))) ∧ Below W'.heap.size W' w') from by
        have hb2 : Below w0.heap.size w0 W':=HZH.out ▸ hbel.trans (hb.mono (by omega))
        refine (order_c x1 ps xQ Q AX AQ cX cQ W' (by omega) (by omega) (hq3.below hb2) (hs3.below hb2)).mono ?_
        rintro e w' ⟨rfl,rfl⟩
        exact ⟨rfl,by exact bB0⟩)
      have OPd:=Lib.hid (fun (y1 : Int) (yQ : List Int) (hyl : yQ.length ≤ 100000) AY cY W' (hy : SlI W' AY yQ) (hb : Below W.heap.size W W') => show Calls Tryz.prog 121 #[.agg #[.int .i64 x1,.slice AX xQ.length cX],.agg #[.int .i64 y1,.slice AY yQ.length cY]] W' (fun e w' => e = .returned (.int .i64 (ordP (x1,xQ) (y1,yQ))) ∧ Below W'.heap.size W' w') from by
        have hb2 : Below w0.heap.size w0 W':=HZH.out ▸ hbel.trans (hb.mono (by omega))
        refine (order_c x1 y1 xQ yQ AX AY cX cY W' (by omega) (by omega) (hq3.below hb2) hy).mono ?_
        rintro e w' ⟨rfl,rfl⟩
        exact ⟨rfl,by exact bB0⟩)
      have IFd:=Lib.hid (fun (hp : POk (⟨bx,bY,sl,L,(fx,fX,fy,fY),B⟩ : Sc) (x1,xQ)) W' (hb : Below W.heap.size W W') => by
        have hb2 : Below w0.heap.size w0 W':=HZH.out ▸ hbel.trans (hb.mono (by omega))
        have hsl:=hp.sl6 hS
        dsimp only at hsl
        exact isFree_c bx bY sl fx fX fy fY x1 L B xQ AL AB AX cL cB cX W' hp.len (by omega) (by omega) (by omega) (by omega) (by omega) (fun l h => by have:=hlk l h;omega) (hp.rng hS) (hs1.below hb2) (hs2.below hb2) (hq3.below hb2))
      have KYd:=Lib.hid (fun (hp : POk (⟨bx,bY,sl,L,(fx,fX,fy,fY),B⟩ : Sc) (x1,xQ)) W' (hb : Below W.heap.size W W') => key_c x1 xQ AX cX W' (by have:=hp.len;dsimp only at this;omega) (by have:=hp.len;dsimp only at this;omega) (hq3.below (show Below w0.heap.size w0 W' from HZH.out ▸ hbel.trans (hb.mono (by omega)))))
      have HPK:=Lib.hid (show ownE (⟨bx,bY,sl,L,(fx,fX,fy,fY),B⟩ : Sc) (x1,xQ) = 0 → POk (⟨bx,bY,sl,L,(fx,fX,fy,fY),B⟩ : Sc) (x1,xQ) from own_pok)
      have HOE:=Lib.hid (ord_eq0 (x1,xQ) (ps,Q))
      have HI:=Lib.hid hI
      have HF:=Lib.hid hF
      have HN0:=Lib.hid hN
      have HZ:=Lib.hid hz
      have HPV:=Lib.hid hprev
      have HKZ:=Lib.hid hkz
      have HWR:=Lib.hid hWr
      have HXI:=Lib.hid hxi
      have HIH:=Lib.hid ih
      clear hF hN hI hz hprev hkz hWr hxi ih hq3 hbel hr hs1 hs2 hs3 hx
      have hi0 : 0 ≤ (i : Int):=by omega
      have hi1 : (i : Int) < (xs.length : Int):=by omega
      subst hA
      generalize hown : ownE (⟨bx,bY,sl,L,(fx,fX,fy,fY),B⟩ : Sc) (x1,xQ) = ow at *
      have HOW:=Lib.hid hown
      clear hown
      generalize freeP (⟨bx,bY,sl,L,(fx,fX,fy,fY),B⟩ : Sc) (x1,xQ) = bfr at *
      generalize decide ((x1,xQ) = (ps,Q)) = bf at *
      generalize ordP (x1,xQ) (ps,Q) = o1 at *
      go_upto_region 8 with fail
      have X5 : Box (W.alloc (.cells #[.int .i64 x1,.slice AX xQ.length cX,.int .i64 xm] 98)) W.heap.size 98 #[.int .i64 x1,.slice AX xQ.length cX,.int .i64 xm]:=Box.new _ _ _
      have B5 : Below W.heap.size W (W.alloc (.cells #[.int .i64 x1,.slice AX xQ.length cX,.int .i64 xm] 98)):=by exact bB0
      generalize (W.alloc (.cells #[.int .i64 x1,.slice AX xQ.length cX,.int .i64 xm] 98)) = W5 at *
      have J5:=HI.out.keep B5
      by_cases ho : ow = 0
      case neg =>
        have e1 : (ow != 0) = true:=bneT ho
        have hfi : ff i = ow:=by rw [HF.out,fstE_cons,if_neg ho]
        have hR:=HBD.out (by rw [hfi];exact ho)
        rw [hfi] at hR
        have HO:=Lib.hid ho
        clear ho HBD HNX
        subst hR
        have bS:=J5.bS;have bP:=J5.bP;have zz0:=bS.cell 0;have zz1:=bS.cell 1;have zz2:=bS.cell 2;have zz3:=bS.cell 3;have zz4:=bS.cell 4;have zz5:=bS.cell 5;have zz6:=bS.cell 6;have zz7:=bS.cell 7;have zz8:=bS.cell 8;have zzl:=bS.lt;have xx0:=X5.cell 0;have xx1:=X5.cell 1;have xx2:=X5.cell 2;have xxl:=X5.lt;have yy0:=bP.cell 0;have yy1:=bP.cell 1;have yyl:=bP.lt;(simp at zz0 zz1 zz2 zz3 zz4 zz5 zz6 zz7 zz8 xx0 xx1 xx2 yy0 yy1);have r0:=J5.r0;have r1:=J5.r1;have lr0:=r0.lt;have lr1:=r1.lt;have bel:=J5.below
        go_wp2_with (first | (go_at_call 61;(with_reducible refine (CPc.out _ ?_).mono ?_);rotate_left;rintro e w3 ⟨rfl,hb3⟩;rotate_left;(focus (exact bB1 B5)));have q0 : Box w3 (h + 2) 3 #[.int .i64 0]:=(by exact bX1 hb3);have q1 : Box w3 (h + 3) 37 #[.int .i64 0]:=(by exact bX1 hb3);have f3:=q0.froz 0;have f4:=q1.froz 0;have g3:=q0.cell 0;have g4:=q1.cell 0;(simp at g3 g4);have m0:=q0.lt;have m1:=q1.lt | fail)
        exact hQr _ _ _ _ _ _ _ _ _ _ _ _ _ _ _ _ _ _ _ _ _ _ _ _ _ _ _ _ _ _ _ _ _ _ _ _ _ _ _ _ _ _ _ _ _ _ _ _ _ _ _ _ _ _ _ _ _ _ _ _ _ _ _ _ _ _ _ _ _ _ _ _ _ _ _ _ _ _ _ _ _ _ _ _ _ _ _ _ _ _ _ _ _ _ _ _ _ _ _ _ _ _ _ _ _ _ _ _ _ _ _ _ _ _ _ _ _ _ _ _ _ _ _ _ _ _ _ _ _ _ _ _ _ _ _ _ _ _ _ _ _ _ _ _ _ _ _ _ _ _ _ _ _ _ _ (by show Box _ (h + 2) 3 #[.int .i64 (i : Int)];exact bX0) (by show Box _ (h + 3) 37 #[.int .i64 ow];exact bX0) (by exact bB2 hb3 bel) HO.out
      case pos =>
        subst ho
        have hp:=HPK.out rfl
        have IFc:=Lib.hid (IFd.out hp)
        have KYc:=Lib.hid (KYd.out hp)
        obtain ⟨k0,k1,k2,k3,hk4⟩ : ∃ k0 k1 k2 k3,kyP (x1,xQ) = (k0,k1,k2,k3):=⟨_,_,_,_,rfl⟩
        have hkv : kyV (x1,xQ) = #[.int .i64 k0,.int .i64 k1,.int .i64 k2,.int .i64 k3]:=by
          have:=kyP_V (x1,xQ);rw [hk4] at this;exact Value.agg.inj this
        rw [hkv] at KYc
        have HK4:=Lib.hid hk4
        clear IFd KYd HPK HOW hp hkv hk4
        have bS:=J5.bS;have bP:=J5.bP;have zz0:=bS.cell 0;have zz1:=bS.cell 1;have zz2:=bS.cell 2;have zz3:=bS.cell 3;have zz4:=bS.cell 4;have zz5:=bS.cell 5;have zz6:=bS.cell 6;have zz7:=bS.cell 7;have zz8:=bS.cell 8;have zzl:=bS.lt;have xx0:=X5.cell 0;have xx1:=X5.cell 1;have xx2:=X5.cell 2;have xxl:=X5.lt;have yy0:=bP.cell 0;have yy1:=bP.cell 1;have yyl:=bP.lt;(simp at zz0 zz1 zz2 zz3 zz4 zz5 zz6 zz7 zz8 xx0 xx1 xx2 yy0 yy1);have r0:=J5.r0;have r1:=J5.r1;have lr0:=r0.lt;have lr1:=r1.lt;have bel:=J5.below
        go_upto_region 11 with (first | (go_at_call 61;(with_reducible refine (CPc.out _ ?_).mono ?_);rotate_left;rintro e w3 ⟨rfl,hb3⟩;rotate_left;(focus (exact bB1 B5))) | fail)
        have X6:=X5.below hb3 X5.lt
        have J6:=J5.keep hb3
        have B6 : Below W.heap.size W w3:=by exact bB2 hb3 B5
        clear X5 J5 B5 bS bP zz0 zz1 zz2 zz3 zz4 zz5 zz6 zz7 zz8 zzl xx0 xx1 xx2 xxl yy0 yy1 yyl r0 r1 lr0 lr1 bel hb3
        clear CPc
        have X5:=X6;have J5:=J6;have B5:=B6;clear X6 J6 B6
        generalize w3 = W5 at *
        have bS:=J5.bS;have bP:=J5.bP;have zz0:=bS.cell 0;have zz1:=bS.cell 1;have zz2:=bS.cell 2;have zz3:=bS.cell 3;have zz4:=bS.cell 4;have zz5:=bS.cell 5;have zz6:=bS.cell 6;have zz7:=bS.cell 7;have zz8:=bS.cell 8;have zzl:=bS.lt;have xx0:=X5.cell 0;have xx1:=X5.cell 1;have xx2:=X5.cell 2;have xxl:=X5.lt;have yy0:=bP.cell 0;have yy1:=bP.cell 1;have yyl:=bP.lt;(simp at zz0 zz1 zz2 zz3 zz4 zz5 zz6 zz7 zz8 xx0 xx1 xx2 yy0 yy1);have r0:=J5.r0;have r1:=J5.r1;have lr0:=r0.lt;have lr1:=r1.lt;have bel:=J5.below
        have e2:=HOE.out
        go_upto_region 12 with (first | (go_at_call 121;(with_reducible refine (ORc.out _ ?_).mono ?_);rotate_left;rintro e w4 ⟨rfl,hb4⟩;rotate_left;(focus (exact bB1 B5))) | fail)
        have X6:=X5.below hb4 X5.lt
        have J6:=J5.keep hb4
        have B6 : Below W.heap.size W w4:=by exact bB2 hb4 B5
        clear X5 J5 B5 bS bP zz0 zz1 zz2 zz3 zz4 zz5 zz6 zz7 zz8 zzl xx0 xx1 xx2 xxl yy0 yy1 yyl r0 r1 lr0 lr1 bel hb4
        clear ORc e2
        have X5:=X6;have J5:=J6;have B5:=B6;clear X6 J6 B6
        generalize w4 = W5 at *
        have bS:=J5.bS;have bP:=J5.bP;have zz0:=bS.cell 0;have zz1:=bS.cell 1;have zz2:=bS.cell 2;have zz3:=bS.cell 3;have zz4:=bS.cell 4;have zz5:=bS.cell 5;have zz6:=bS.cell 6;have zz7:=bS.cell 7;have zz8:=bS.cell 8;have zzl:=bS.lt;have xx0:=X5.cell 0;have xx1:=X5.cell 1;have xx2:=X5.cell 2;have xxl:=X5.lt;have yy0:=bP.cell 0;have yy1:=bP.cell 1;have yyl:=bP.lt;(simp at zz0 zz1 zz2 zz3 zz4 zz5 zz6 zz7 zz8 xx0 xx1 xx2 yy0 yy1);have r0:=J5.r0;have r1:=J5.r1;have lr0:=r0.lt;have lr1:=r1.lt;have bel:=J5.below
        have e5 : (xm == 0) = decide (xm = 0):=rfl
        obtain ⟨b1,hb1⟩ : ∃ b1,b1 = (decide (i = 0) || befS y.1 (x1,xQ)):=⟨_,rfl⟩
        obtain ⟨b3,hb3⟩ : ∃ b3,b3 = (decide (0 ≤ xm) && (decide (xm = 0) == bf)):=⟨_,rfl⟩
        rw [← hb1,← hb3] at HF
        generalize decide (xm = 0) = b4 at *
        have HB1:=Lib.hid hb1
        have HB3:=Lib.hid hb3
        clear hb1 hb3
        go_cut [15] from 55 to 89 (fun s15 wx => s15 = .int .i64 (fstE [unl b1 9,unl bfr 17,unl b3 2]) ∧ Below W5.heap.size W5 wx)
        case first =>
          rcases Nat.eq_zero_or_pos i with h0 | h0
          · subst h0
            have hB1 : b1 = true:=by rw [HB1.out];simp
            subst hB1
            clear OPd HPV
            by_cases hx0 : 0 ≤ xm
            · have d1 : decide (0 ≤ xm) = true:=decide_eq_true hx0
              have hB3 : b3 = (b4 == bf):=by rw [HB3.out,d1];rfl
              clear hx0 HB3
              (refine region_open kR (fun R hR => ?_);refine heldR (S:=(fun w' => Below W5.heap.size W5 w')) ?_ (fun hHeld => ?_);(focus ((try dsimp only);(((first | exact bB0 | exact bB1 hb6)))));have hO:=Lib.hid (fun w' (hSw : (fun w' => Below W5.heap.size W5 w') w') => (by (try dsimp only at hSw);(have hcc:=(bcell hSw).1;have sa0:=(hcc _ 0 zzl).trans zz0;have sa1:=(hcc _ 1 zzl).trans zz1;have sa2:=(hcc _ 2 zzl).trans zz2;have sa3:=(hcc _ 3 zzl).trans zz3;have sa4:=(hcc _ 4 zzl).trans zz4;have sa5:=(hcc _ 5 zzl).trans zz5;have sa6:=(hcc _ 6 zzl).trans zz6;have sa7:=(hcc _ 7 zzl).trans zz7;have sa8:=(hcc _ 8 zzl).trans zz8;have sb0:=(hcc _ 0 xxl).trans xx0;have sb1:=(hcc _ 1 xxl).trans xx1;have sb2:=(hcc _ 2 xxl).trans xx2);exact And.intro sa0 (And.intro sa1 (And.intro sa2 (And.intro sa3 (And.intro sa4 (And.intro sa5 (And.intro sa6 (And.intro sa7 (And.intro sa8 (And.intro sb0 (And.intro sb1 sb2))))))))))));refine rgN 0 rfl ?_;refine rgN 1 rfl ?_;refine rgN 2 rfl ?_;refine tsH (i:=3) rfl (by assumption) ?_;refine tsH (i:=4) rfl (by assumption) ?_;refine tsH (i:=5) rfl (by assumption) ?_;refine tsH (i:=6) rfl (by assumption) ?_;refine tsH (i:=7) rfl (by assumption) ?_;refine tsH (i:=8) rfl (by assumption) ?_;refine tsH (i:=9) rfl (by assumption) ?_;refine tsH (i:=10) rfl (by assumption) ?_;refine tsH (i:=11) rfl (by assumption) ?_;refine tsH (i:=12) rfl (by assumption) ?_;refine tsH (i:=13) rfl (by assumption) ?_;refine rgN 14 rfl ?_;refine rgL 16 hO rfl ?_;refine rgN 17 rfl ?_;refine rgL 18 hO rfl ?_;refine rgN 19 rfl ?_;refine rgN 22 rfl ?_;refine rgL 23 hO rfl ?_;refine rgN 24 rfl ?_;refine rgC 15 rfl (fun K hK => ?_);go_simp;((go_at_call 84;(with_reducible refine (unless_c _ _ _).mono ?_);rintro e w' ⟨rfl,rfl⟩));go_simp;refine hK.out _ _ ?_ (fun hHeld => ?_);(focus ((try dsimp only);(((first | exact bB1 hb6 | exact bB0)))));clear hK K;(try simp only [Act.put,pqs]);refine rgC 20 rfl (fun K hK => ?_);go_simp;((go_at_call 107;(with_reducible refine (IFc.out _ ?_).mono ?_);rotate_left;rintro e w6 ⟨rfl,hb6⟩;rotate_left;(focus (exact bB0))));go_simp;refine hK.out _ _ ?_ (fun hHeld => ?_);(focus ((try dsimp only);(((first | exact bB1 hb6 | exact bB0)))));clear hK K;(try simp only [Act.put,pqs]);refine rgC 21 rfl (fun K hK => ?_);go_simp;((go_at_call 84;(with_reducible refine (unless_c _ _ _).mono ?_);rintro e w' ⟨rfl,rfl⟩));go_simp;refine hK.out _ _ ?_ (fun hHeld => ?_);(focus ((try dsimp only);(((first | exact bB1 hb6 | exact bB0)))));clear hK K;(try simp only [Act.put,pqs]);refine rgN 25 rfl ?_;refine rgN 26 rfl ?_;refine rgN 27 rfl ?_;refine rgL 28 hO rfl ?_;refine rgN 29 rfl ?_;refine rgN 30 rfl ?_;refine rgN 31 rfl ?_;refine rgC 32 rfl (fun K hK => ?_);go_simp;((go_at_call 84;(with_reducible refine (unless_c _ _ _).mono ?_);rintro e w' ⟨rfl,rfl⟩));go_simp;refine hK.out _ _ ?_ (fun hHeld => ?_);(focus ((try dsimp only);(((first | exact bB1 hb6 | exact bB0)))));clear hK K;(try simp only [Act.put,pqs]);refine rgC 33 rfl (fun K hK => ?_);go_simp;refine hK.out _ _ ?_ (fun hHeld => ?_);(focus ((try dsimp only);(((first | exact bB1 hb6 | exact bB0)))));clear hK K;(try simp only [Act.put,pqs]);refine rgC 34 rfl (fun K hK => ?_);go_simp;(first | (go_at_call 83;(with_reducible refine (first3a _ _ _ _ _ _ (by simp)).mono ?_);rintro e w' ⟨rfl,rfl⟩) | (go_at_call 83;(with_reducible refine (first3d _ _ _ _ _ _ (by simp)).mono ?_);rintro e w' ⟨rfl,rfl⟩));go_simp;refine hK.out _ _ ?_ (fun hHeld => ?_);(focus ((try dsimp only);(((first | exact bB1 hb6 | exact bB0)))));clear hK K;(try simp only [Act.put,pqs]);refine rgN 35 rfl ?_;refine wpAnyH_done (Q:=fun e a w => e = Exit.normal ∧ R a w) kR ⟨rfl,hR _ _ ?_⟩ _;clear hR R)
              go_wp2
              go_meet
              exact ⟨by rw [hB3];first | rfl | (cases bf <;> cases b4 <;> rfl),by exact bB1 hb6⟩
            · have d1 : decide (0 ≤ xm) = false:=decide_eq_false hx0
              have hB3 : b3 = false:=by rw [HB3.out,d1];rfl
              clear hx0 HB3
              subst hB3
              (refine region_open kR (fun R hR => ?_);refine heldR (S:=(fun w' => Below W5.heap.size W5 w')) ?_ (fun hHeld => ?_);(focus ((try dsimp only);(((first | exact bB0 | exact bB1 hb6)))));have hO:=Lib.hid (fun w' (hSw : (fun w' => Below W5.heap.size W5 w') w') => (by (try dsimp only at hSw);(have hcc:=(bcell hSw).1;have sa0:=(hcc _ 0 zzl).trans zz0;have sa1:=(hcc _ 1 zzl).trans zz1;have sa2:=(hcc _ 2 zzl).trans zz2;have sa3:=(hcc _ 3 zzl).trans zz3;have sa4:=(hcc _ 4 zzl).trans zz4;have sa5:=(hcc _ 5 zzl).trans zz5;have sa6:=(hcc _ 6 zzl).trans zz6;have sa7:=(hcc _ 7 zzl).trans zz7;have sa8:=(hcc _ 8 zzl).trans zz8;have sb0:=(hcc _ 0 xxl).trans xx0;have sb1:=(hcc _ 1 xxl).trans xx1;have sb2:=(hcc _ 2 xxl).trans xx2);exact And.intro sa0 (And.intro sa1 (And.intro sa2 (And.intro sa3 (And.intro sa4 (And.intro sa5 (And.intro sa6 (And.intro sa7 (And.intro sa8 (And.intro sb0 (And.intro sb1 sb2))))))))))));refine rgN 0 rfl ?_;refine rgN 1 rfl ?_;refine rgN 2 rfl ?_;refine tsH (i:=3) rfl (by assumption) ?_;refine tsH (i:=4) rfl (by assumption) ?_;refine tsH (i:=5) rfl (by assumption) ?_;refine tsH (i:=6) rfl (by assumption) ?_;refine tsH (i:=7) rfl (by assumption) ?_;refine tsH (i:=8) rfl (by assumption) ?_;refine tsH (i:=9) rfl (by assumption) ?_;refine tsH (i:=10) rfl (by assumption) ?_;refine tsH (i:=11) rfl (by assumption) ?_;refine tsH (i:=12) rfl (by assumption) ?_;refine tsH (i:=13) rfl (by assumption) ?_;refine rgN 14 rfl ?_;refine rgL 16 hO rfl ?_;refine rgN 17 rfl ?_;refine rgL 18 hO rfl ?_;refine rgN 19 rfl ?_;refine rgN 22 rfl ?_;refine rgL 23 hO rfl ?_;refine rgN 24 rfl ?_;refine rgC 15 rfl (fun K hK => ?_);go_simp;((go_at_call 84;(with_reducible refine (unless_c _ _ _).mono ?_);rintro e w' ⟨rfl,rfl⟩));go_simp;refine hK.out _ _ ?_ (fun hHeld => ?_);(focus ((try dsimp only);(((first | exact bB1 hb6 | exact bB0)))));clear hK K;(try simp only [Act.put,pqs]);refine rgC 20 rfl (fun K hK => ?_);go_simp;((go_at_call 107;(with_reducible refine (IFc.out _ ?_).mono ?_);rotate_left;rintro e w6 ⟨rfl,hb6⟩;rotate_left;(focus (exact bB0))));go_simp;refine hK.out _ _ ?_ (fun hHeld => ?_);(focus ((try dsimp only);(((first | exact bB1 hb6 | exact bB0)))));clear hK K;(try simp only [Act.put,pqs]);refine rgC 21 rfl (fun K hK => ?_);go_simp;((go_at_call 84;(with_reducible refine (unless_c _ _ _).mono ?_);rintro e w' ⟨rfl,rfl⟩));go_simp;refine hK.out _ _ ?_ (fun hHeld => ?_);(focus ((try dsimp only);(((first | exact bB1 hb6 | exact bB0)))));clear hK K;(try simp only [Act.put,pqs]);refine rgN 25 rfl ?_;refine tsH (i:=26) rfl (by assumption) ?_;refine tsH (i:=27) rfl (by assumption) ?_;refine tsH (i:=28) rfl (by assumption) ?_;refine tsH (i:=29) rfl (by assumption) ?_;refine tsH (i:=30) rfl (by assumption) ?_;refine rgN 31 rfl ?_;refine rgC 32 rfl (fun K hK => ?_);go_simp;((go_at_call 84;(with_reducible refine (unless_c _ _ _).mono ?_);rintro e w' ⟨rfl,rfl⟩));go_simp;refine hK.out _ _ ?_ (fun hHeld => ?_);(focus ((try dsimp only);(((first | exact bB1 hb6 | exact bB0)))));clear hK K;(try simp only [Act.put,pqs]);refine rgC 33 rfl (fun K hK => ?_);go_simp;refine hK.out _ _ ?_ (fun hHeld => ?_);(focus ((try dsimp only);(((first | exact bB1 hb6 | exact bB0)))));clear hK K;(try simp only [Act.put,pqs]);refine rgC 34 rfl (fun K hK => ?_);go_simp;(first | (go_at_call 83;(with_reducible refine (first3a _ _ _ _ _ _ (by simp)).mono ?_);rintro e w' ⟨rfl,rfl⟩) | (go_at_call 83;(with_reducible refine (first3d _ _ _ _ _ _ (by simp)).mono ?_);rintro e w' ⟨rfl,rfl⟩));go_simp;refine hK.out _ _ ?_ (fun hHeld => ?_);(focus ((try dsimp only);(((first | exact bB1 hb6 | exact bB0)))));clear hK K;(try simp only [Act.put,pqs]);refine rgN 35 rfl ?_;refine wpAnyH_done (Q:=fun e a w => e = Exit.normal ∧ R a w) kR ⟨rfl,hR _ _ ?_⟩ _;clear hR R)
              go_wp2
              go_meet
              exact ⟨by first | rfl | simp,by exact bB1 hb6⟩
          · obtain ⟨k,rfl⟩ : ∃ k,i = k + 1:=⟨i - 1,by omega⟩
            obtain ⟨x',hx0,hy'⟩:=HPV.out h0
            have hx' : xs[k]? = some x':=by simpa using hx0
            have hW5:=HWR.out.below B5
            obtain ⟨gR',oR',hAe,lV,v0,v1,v2⟩:=rcCells hW5 hx'
            cases hAe
            have hyq:=hW5.el x' (List.mem_of_getElem? hx')
            have hyl:=hW5.ln x' (List.mem_of_getElem? hx')
            obtain ⟨⟨⟨y1,yQ⟩,⟨AY,cY⟩⟩,ym⟩:=x'
            subst hy'
            dsimp only at v0 v1 v2 hyq hyl
            have OPc:=Lib.hid (fun W' (hb : Below W5.heap.size W5 W') => OPd.out y1 yQ hyl AY cY W' (hyq.below hb) (by exact bB2 hb B5))
            have e6 : decide (0 < ordP (x1,xQ) (y1,yQ)) = b1:=by rw [HB1.out,or_of_ord];simp [pmR]
            have e3 : (((k : Int) + 1) == 0) = false:=by rw [beq_eq_false_iff_ne];omega
            have w1 : IntKind.i64.wrap (k : Int) = (k : Int):=IntWalk.i64_in _ (by omega)
            have hmx : max (0 : Int) (k : Int) = (k : Int):=by omega
            have hk0 : 0 ≤ (k : Int):=by omega
            have hk1 : (k : Int) < (xs.length : Int):=by omega
            generalize ordP (x1,xQ) (y1,yQ) = o2 at *
            clear OPd HPV HB1 hx0 hx' hW5 hyq hyl h0 v2
            by_cases hx0 : 0 ≤ xm
            · have d1 : decide (0 ≤ xm) = true:=decide_eq_true hx0
              have hB3 : b3 = (b4 == bf):=by rw [HB3.out,d1];rfl
              clear hx0 HB3
              (refine region_open kR (fun R hR => ?_);refine heldR (S:=(fun w' => Below W5.heap.size W5 w')) ?_ (fun hHeld => ?_);(focus ((try dsimp only);(((first | exact bB0 | exact bB1 hb6 | exact bB1 hb4 | exact bB2 hb6 hb4)))));have hO:=Lib.hid (fun w' (hSw : (fun w' => Below W5.heap.size W5 w') w') => (by (try dsimp only at hSw);(have hcc:=(bcell hSw).1;have sa0:=(hcc _ 0 zzl).trans zz0;have sa1:=(hcc _ 1 zzl).trans zz1;have sa2:=(hcc _ 2 zzl).trans zz2;have sa3:=(hcc _ 3 zzl).trans zz3;have sa4:=(hcc _ 4 zzl).trans zz4;have sa5:=(hcc _ 5 zzl).trans zz5;have sa6:=(hcc _ 6 zzl).trans zz6;have sa7:=(hcc _ 7 zzl).trans zz7;have sa8:=(hcc _ 8 zzl).trans zz8;have sb0:=(hcc _ 0 xxl).trans xx0;have sb1:=(hcc _ 1 xxl).trans xx1;have sb2:=(hcc _ 2 xxl).trans xx2;have sc0:=(hcc _ _ lV).trans v0;have sc1:=(hcc _ _ lV).trans v1);exact And.intro sa0 (And.intro sa1 (And.intro sa2 (And.intro sa3 (And.intro sa4 (And.intro sa5 (And.intro sa6 (And.intro sa7 (And.intro sa8 (And.intro sb0 (And.intro sb1 (And.intro sb2 (And.intro sc0 sc1))))))))))))));refine rgN 0 rfl ?_;refine rgN 1 rfl ?_;refine rgN 2 rfl ?_;refine rgN 3 rfl ?_;refine rgL 4 hO rfl ?_;refine rgN 5 rfl ?_;refine rgN 6 rfl ?_;refine rgN 7 rfl ?_;refine rgN 8 rfl ?_;refine rgN 9 rfl ?_;refine rgN 10 rfl ?_;refine rgL 11 hO rfl ?_;refine rgL 16 hO rfl ?_;refine rgN 17 rfl ?_;refine rgL 18 hO rfl ?_;refine rgN 19 rfl ?_;refine rgN 22 rfl ?_;refine rgL 23 hO rfl ?_;refine rgN 24 rfl ?_;refine rgC 12 rfl (fun K hK => ?_);go_simp;((go_at_call 121;(with_reducible refine (OPc.out _ ?_).mono ?_);rotate_left;rintro e w4 ⟨rfl,hb4⟩;rotate_left;(focus (exact bB0))));go_simp;refine hK.out _ _ ?_ (fun hHeld => ?_);(focus ((try dsimp only);(((first | exact bB2 hb6 hb4 | exact bB1 hb4 | exact bB1 hb6 | exact bB0)))));clear hK K;(try simp only [Act.put,pqs]);refine rgN 13 rfl ?_;refine rgN 14 rfl ?_;refine rgC 15 rfl (fun K hK => ?_);go_simp;((go_at_call 84;(with_reducible refine (unless_c _ _ _).mono ?_);rintro e w' ⟨rfl,rfl⟩));go_simp;refine hK.out _ _ ?_ (fun hHeld => ?_);(focus ((try dsimp only);(((first | exact bB2 hb6 hb4 | exact bB1 hb4 | exact bB1 hb6 | exact bB0)))));clear hK K;(try simp only [Act.put,pqs]);refine rgC 20 rfl (fun K hK => ?_);go_simp;((go_at_call 107;(with_reducible refine (IFc.out _ ?_).mono ?_);rotate_left;rintro e w6 ⟨rfl,hb6⟩;rotate_left;(focus (exact bB1 hb4))));go_simp;refine hK.out _ _ ?_ (fun hHeld => ?_);(focus ((try dsimp only);(((first | exact bB2 hb6 hb4 | exact bB1 hb4 | exact bB1 hb6 | exact bB0)))));clear hK K;(try simp only [Act.put,pqs]);refine rgC 21 rfl (fun K hK => ?_);go_simp;((go_at_call 84;(with_reducible refine (unless_c _ _ _).mono ?_);rintro e w' ⟨rfl,rfl⟩));go_simp;refine hK.out _ _ ?_ (fun hHeld => ?_);(focus ((try dsimp only);(((first | exact bB2 hb6 hb4 | exact bB1 hb4 | exact bB1 hb6 | exact bB0)))));clear hK K;(try simp only [Act.put,pqs]);refine rgN 25 rfl ?_;refine rgN 26 rfl ?_;refine rgN 27 rfl ?_;refine rgL 28 hO rfl ?_;refine rgN 29 rfl ?_;refine rgN 30 rfl ?_;refine rgN 31 rfl ?_;refine rgC 32 rfl (fun K hK => ?_);go_simp;((go_at_call 84;(with_reducible refine (unless_c _ _ _).mono ?_);rintro e w' ⟨rfl,rfl⟩));go_simp;refine hK.out _ _ ?_ (fun hHeld => ?_);(focus ((try dsimp only);(((first | exact bB2 hb6 hb4 | exact bB1 hb4 | exact bB1 hb6 | exact bB0)))));clear hK K;(try simp only [Act.put,pqs]);refine rgC 33 rfl (fun K hK => ?_);go_simp;refine hK.out _ _ ?_ (fun hHeld => ?_);(focus ((try dsimp only);(((first | exact bB2 hb6 hb4 | exact bB1 hb4 | exact bB1 hb6 | exact bB0)))));clear hK K;(try simp only [Act.put,pqs]);refine rgC 34 rfl (fun K hK => ?_);go_simp;(first | (go_at_call 83;(with_reducible refine (first3a _ _ _ _ _ _ (by simp)).mono ?_);rintro e w' ⟨rfl,rfl⟩) | (go_at_call 83;(with_reducible refine (first3d _ _ _ _ _ _ (by simp)).mono ?_);rintro e w' ⟨rfl,rfl⟩));go_simp;refine hK.out _ _ ?_ (fun hHeld => ?_);(focus ((try dsimp only);(((first | exact bB2 hb6 hb4 | exact bB1 hb4 | exact bB1 hb6 | exact bB0)))));clear hK K;(try simp only [Act.put,pqs]);refine rgN 35 rfl ?_;refine wpAnyH_done (Q:=fun e a w => e = Exit.normal ∧ R a w) kR ⟨rfl,hR _ _ ?_⟩ _;clear hR R)
              go_wp2
              go_meet
              exact ⟨by rw [hB3];first | rfl | (cases bf <;> cases b4 <;> rfl),by exact bB2 hb6 hb4⟩
            · have d1 : decide (0 ≤ xm) = false:=decide_eq_false hx0
              have hB3 : b3 = false:=by rw [HB3.out,d1];rfl
              clear hx0 HB3
              subst hB3
              (refine region_open kR (fun R hR => ?_);refine heldR (S:=(fun w' => Below W5.heap.size W5 w')) ?_ (fun hHeld => ?_);(focus ((try dsimp only);(((first | exact bB0 | exact bB1 hb6 | exact bB1 hb4 | exact bB2 hb6 hb4)))));have hO:=Lib.hid (fun w' (hSw : (fun w' => Below W5.heap.size W5 w') w') => (by (try dsimp only at hSw);(have hcc:=(bcell hSw).1;have sa0:=(hcc _ 0 zzl).trans zz0;have sa1:=(hcc _ 1 zzl).trans zz1;have sa2:=(hcc _ 2 zzl).trans zz2;have sa3:=(hcc _ 3 zzl).trans zz3;have sa4:=(hcc _ 4 zzl).trans zz4;have sa5:=(hcc _ 5 zzl).trans zz5;have sa6:=(hcc _ 6 zzl).trans zz6;have sa7:=(hcc _ 7 zzl).trans zz7;have sa8:=(hcc _ 8 zzl).trans zz8;have sb0:=(hcc _ 0 xxl).trans xx0;have sb1:=(hcc _ 1 xxl).trans xx1;have sb2:=(hcc _ 2 xxl).trans xx2;have sc0:=(hcc _ _ lV).trans v0;have sc1:=(hcc _ _ lV).trans v1);exact And.intro sa0 (And.intro sa1 (And.intro sa2 (And.intro sa3 (And.intro sa4 (And.intro sa5 (And.intro sa6 (And.intro sa7 (And.intro sa8 (And.intro sb0 (And.intro sb1 (And.intro sb2 (And.intro sc0 sc1))))))))))))));refine rgN 0 rfl ?_;refine rgN 1 rfl ?_;refine rgN 2 rfl ?_;refine rgN 3 rfl ?_;refine rgL 4 hO rfl ?_;refine rgN 5 rfl ?_;refine rgN 6 rfl ?_;refine rgN 7 rfl ?_;refine rgN 8 rfl ?_;refine rgN 9 rfl ?_;refine rgN 10 rfl ?_;refine rgL 11 hO rfl ?_;refine rgL 16 hO rfl ?_;refine rgN 17 rfl ?_;refine rgL 18 hO rfl ?_;refine rgN 19 rfl ?_;refine rgN 22 rfl ?_;refine rgL 23 hO rfl ?_;refine rgN 24 rfl ?_;refine rgC 12 rfl (fun K hK => ?_);go_simp;((go_at_call 121;(with_reducible refine (OPc.out _ ?_).mono ?_);rotate_left;rintro e w4 ⟨rfl,hb4⟩;rotate_left;(focus (exact bB0))));go_simp;refine hK.out _ _ ?_ (fun hHeld => ?_);(focus ((try dsimp only);(((first | exact bB2 hb6 hb4 | exact bB1 hb4 | exact bB1 hb6 | exact bB0)))));clear hK K;(try simp only [Act.put,pqs]);refine rgN 13 rfl ?_;refine rgN 14 rfl ?_;refine rgC 15 rfl (fun K hK => ?_);go_simp;((go_at_call 84;(with_reducible refine (unless_c _ _ _).mono ?_);rintro e w' ⟨rfl,rfl⟩));go_simp;refine hK.out _ _ ?_ (fun hHeld => ?_);(focus ((try dsimp only);(((first | exact bB2 hb6 hb4 | exact bB1 hb4 | exact bB1 hb6 | exact bB0)))));clear hK K;(try simp only [Act.put,pqs]);refine rgC 20 rfl (fun K hK => ?_);go_simp;((go_at_call 107;(with_reducible refine (IFc.out _ ?_).mono ?_);rotate_left;rintro e w6 ⟨rfl,hb6⟩;rotate_left;(focus (exact bB1 hb4))));go_simp;refine hK.out _ _ ?_ (fun hHeld => ?_);(focus ((try dsimp only);(((first | exact bB2 hb6 hb4 | exact bB1 hb4 | exact bB1 hb6 | exact bB0)))));clear hK K;(try simp only [Act.put,pqs]);refine rgC 21 rfl (fun K hK => ?_);go_simp;((go_at_call 84;(with_reducible refine (unless_c _ _ _).mono ?_);rintro e w' ⟨rfl,rfl⟩));go_simp;refine hK.out _ _ ?_ (fun hHeld => ?_);(focus ((try dsimp only);(((first | exact bB2 hb6 hb4 | exact bB1 hb4 | exact bB1 hb6 | exact bB0)))));clear hK K;(try simp only [Act.put,pqs]);refine rgN 25 rfl ?_;refine tsH (i:=26) rfl (by assumption) ?_;refine tsH (i:=27) rfl (by assumption) ?_;refine tsH (i:=28) rfl (by assumption) ?_;refine tsH (i:=29) rfl (by assumption) ?_;refine tsH (i:=30) rfl (by assumption) ?_;refine rgN 31 rfl ?_;refine rgC 32 rfl (fun K hK => ?_);go_simp;((go_at_call 84;(with_reducible refine (unless_c _ _ _).mono ?_);rintro e w' ⟨rfl,rfl⟩));go_simp;refine hK.out _ _ ?_ (fun hHeld => ?_);(focus ((try dsimp only);(((first | exact bB2 hb6 hb4 | exact bB1 hb4 | exact bB1 hb6 | exact bB0)))));clear hK K;(try simp only [Act.put,pqs]);refine rgC 33 rfl (fun K hK => ?_);go_simp;refine hK.out _ _ ?_ (fun hHeld => ?_);(focus ((try dsimp only);(((first | exact bB2 hb6 hb4 | exact bB1 hb4 | exact bB1 hb6 | exact bB0)))));clear hK K;(try simp only [Act.put,pqs]);refine rgC 34 rfl (fun K hK => ?_);go_simp;(first | (go_at_call 83;(with_reducible refine (first3a _ _ _ _ _ _ (by simp)).mono ?_);rintro e w' ⟨rfl,rfl⟩) | (go_at_call 83;(with_reducible refine (first3d _ _ _ _ _ _ (by simp)).mono ?_);rintro e w' ⟨rfl,rfl⟩));go_simp;refine hK.out _ _ ?_ (fun hHeld => ?_);(focus ((try dsimp only);(((first | exact bB2 hb6 hb4 | exact bB1 hb4 | exact bB1 hb6 | exact bB0)))));clear hK K;(try simp only [Act.put,pqs]);refine rgN 35 rfl ?_;refine wpAnyH_done (Q:=fun e a w => e = Exit.normal ∧ R a w) kR ⟨rfl,hR _ _ ?_⟩ _;clear hR R)
              go_wp2
              go_meet
              exact ⟨by first | rfl | simp,by exact bB2 hb6 hb4⟩
        case rest =>
          obtain ⟨rfl,hbc⟩:=hcut
          have X6:=X5.below hbc X5.lt
          have J6:=J5.keep hbc
          have B6 : Below W.heap.size W wc:=by exact bB2 hbc B5
          clear X5 J5 B5 bS bP zz0 zz1 zz2 zz3 zz4 zz5 zz6 zz7 zz8 zzl xx0 xx1 xx2 xxl yy0 yy1 yyl r0 r1 lr0 lr1 bel hbc
          have X5:=X6;have J5:=J6;have B5:=B6;clear X6 J6 B6
          clear IFc OPd HPV HB1 HB3
          generalize wc = W5 at *
          have bS:=J5.bS;have bP:=J5.bP;have zz0:=bS.cell 0;have zz1:=bS.cell 1;have zz2:=bS.cell 2;have zz3:=bS.cell 3;have zz4:=bS.cell 4;have zz5:=bS.cell 5;have zz6:=bS.cell 6;have zz7:=bS.cell 7;have zz8:=bS.cell 8;have zzl:=bS.lt;have xx0:=X5.cell 0;have xx1:=X5.cell 1;have xx2:=X5.cell 2;have xxl:=X5.lt;have yy0:=bP.cell 0;have yy1:=bP.cell 1;have yyl:=bP.lt;(simp at zz0 zz1 zz2 zz3 zz4 zz5 zz6 zz7 zz8 xx0 xx1 xx2 yy0 yy1);have r0:=J5.r0;have r1:=J5.r1;have lr0:=r0.lt;have lr1:=r1.lt;have bel:=J5.below
          have hfi : ff i = fstE [unl b1 9,unl bfr 17,unl b3 2]:=by rw [HF.out,fstE_cons,if_pos rfl]
          generalize fstE [unl b1 9,unl bfr 17,unl b3 2] = e15 at *
          by_cases h15 : e15 = 0
          case neg =>
            have e1 : (e15 != 0) = true:=bneT h15
            have hR:=HBD.out (by rw [hfi];exact h15)
            rw [hfi] at hR
            have HO:=Lib.hid h15
            clear h15 HBD HNX hfi
            subst hR
            have f3:=r0.froz 0;have f4:=r1.froz 0;have g3:=r0.cell 0;have g4:=r1.cell 0
            simp at g3 g4
            go_wp2
            exact hQr _ _ _ _ _ _ _ _ _ _ _ _ _ _ _ _ _ _ _ _ _ _ _ _ _ _ _ _ _ _ _ _ _ _ _ _ _ _ _ _ _ _ _ _ _ _ _ _ _ _ _ _ _ _ _ _ _ _ _ _ _ _ _ _ _ _ _ _ _ _ _ _ _ _ _ _ _ _ _ _ _ _ _ _ _ _ _ _ _ _ _ _ _ _ _ _ _ _ _ _ _ _ _ _ _ _ _ _ _ _ _ _ _ _ _ _ _ _ _ _ _ _ _ _ _ _ _ _ _ _ _ _ _ _ _ _ _ _ _ _ _ _ _ _ _ _ _ _ _ _ _ _ _ _ _ (by show Box _ (h + 2) 3 #[.int .i64 (i : Int)];exact bX0) (by show Box _ (h + 3) 37 #[.int .i64 e15];exact bX0) (by exact bB1 bel) HO.out
          case pos =>
            subst h15
            have hzz : ∀ j,j ≤ i → ff j = 0:=fun j hj => by
              rcases Nat.lt_or_ge j i with h1 | h1
              · exact HZ.out j h1
              · have : j = i:=by omega
                subst this
                exact hfi
            have hN1:=HN0.out hzz
            rw [HK4.out] at hN1
            have HN:=Lib.hid hN1
            have HZZ:=Lib.hid hzz
            have HNN:=Lib.hid (HNX.out hfi)
            have HJ5:=Lib.hid J5
            have KYc:=Lib.hid (fun W' (hb : Below W5.heap.size W5 W') => KYc.out W' (by exact bB2 hb B5))
            have BM:=J5.bM
            have lBM:=BM.lt
            have lKM:=J5.mM.lt
            have v1 : IntKind.i64.wrap ((i : Int) + 1) = (i : Int) + 1:=IntWalk.i64_in _ (by omega)
            clear HF HBD HNX HN0 HZ hzz hN1 hfi J5
            go_wp2
            (refine region_open kR (fun R hR => ?_);refine heldR (S:=(fun w' => Box w' (gM + 1) 161 #[.map (some gM)] ∧ Box w' W.heap.size 98 #[.int .i64 x1,.slice AX xQ.length cX,.int .i64 xm])) ?_ (fun hHeld => ?_);(focus ((try dsimp only);((refine ⟨?_, ?_⟩;(first | (exact u1.put (by omega) _) | ((first | exact bX0 | exact bX1 hb3)));(first | (exact u2.put (by omega) _) | ((first | exact bX0 | exact bX1 hb3)))))));have hO:=Lib.hid (fun w' (hSw : (fun w' => Box w' (gM + 1) 161 #[.map (some gM)] ∧ Box w' W.heap.size 98 #[.int .i64 x1,.slice AX xQ.length cX,.int .i64 xm]) w') => (by (try dsimp only at hSw);(obtain ⟨hSA,hSB⟩:=hSw;have sa0:=hSA.cell 0;have sb0:=hSB.cell 0;have sb1:=hSB.cell 1;have sb2:=hSB.cell 2;(simp at sa0 sb0 sb1 sb2));exact And.intro sa0 (And.intro sb0 (And.intro sb1 sb2))));refine rgL 0 hO rfl ?_;refine rgN 1 rfl ?_;refine rgL 2 hO rfl ?_;refine rgN 4 rfl ?_;refine rgL 5 hO rfl ?_;refine rgC 3 rfl (fun K hK => ?_);go_simp;((go_at_call 118;(with_reducible refine (KYc.out _ ?_).mono ?_);rotate_left;rintro e w3 ⟨rfl,hb3⟩;rotate_left;(focus (exact bB0));have hz3 : W5.heap.size ≤ w3.heap.size:=(by have:=hb3.size;(try simp at this);omega);have M3 : KMap w3 gM (ks ys i):=(HJ5.out.keep (show Below W5.heap.size W5 w3 from by exact bB1 hb3)).mM));go_simp;refine hK.out _ _ ?_ (fun hHeld => ?_);(focus ((try dsimp only);((refine ⟨?_, ?_⟩;(first | (exact u1.put (by omega) _) | ((first | exact bX1 hb3 | exact bX0)));(first | (exact u2.put (by omega) _) | ((first | exact bX1 hb3 | exact bX0)))))));clear hK K;(try simp only [Act.put,pqs]);refine rgC 6 rfl (fun K hK => ?_);go_simp;((have hput:=run_put_k k0 k1 k2 k3 xm w3 gM (ks ys i) M3 HN.out;have hT:=hHeld;obtain ⟨u1,u2⟩:=hT));go_simp;refine hK.out _ _ ?_ (fun hHeld => ?_);(focus ((try dsimp only);((refine ⟨?_, ?_⟩;(first | (exact u1.put (by omega) _) | ((first | exact bX1 hb3 | exact bX0)));(first | (exact u2.put (by omega) _) | ((first | exact bX1 hb3 | exact bX0)))))));clear hK K;(try simp only [Act.put,pqs]);refine wpAnyH_done (Q:=fun e a w => e = Exit.normal ∧ R a w) kR ⟨rfl,hR _ _ ?_⟩ _;clear hR R)
            have hW3 : Below W5.heap.size W5 w3:=by exact bB1 hb3
            have hJ:=(HJ5.out.keep hW3).put (k0,k1,k2,k3) xm
            rw [← HK4.out] at hJ
            have hJ2 : CJ h gM w0 #[.int .i64 bx,.int .i64 bY,.int .i64 sl,.slice AL L.length cL,.int .i64 fx,.int .i64 fX,.int .i64 fy,.int .i64 fY,.slice AB B.length cB] #[.int .i64 ps,.slice AQ Q.length cQ] (ks ys (i + 1)) (w3.putObj gM (putK w3 gM (kyP (x1,xQ)) xm)):=by rw [HKZ.out];exact hJ
            rw [HK4.out] at hJ2
            have HJ:=Lib.hid hJ2
            clear hJ hJ2 hput
            go_wp2
            exact HIH.out (i + 1) _ _ _ _ _ _ _ _ _ _ _ _ _ _ _ _ _ _ _ _ _ _ _ _ _ _ _ _ _ _ _ _ _ _ _ _ _ _ _ _ _ _ _ _ _ _ _ _ _ _ _ _ _ _ _ _ _ _ _ _ _ _ _ _ _ _ _ _ _ _ _ _ _ _ _ _ _ _ _ _ _ _ _ _ _ _ _ _ _ _ _ _ _ _ _ _ _ _ _ _ _ _ _ _ _ _ _ _ _ _ _ _ _ _ _ _ _ _ _ _ _ _ _ _ _ _ _ _ _ _ _ _ _ _ _ _ _ _ _ _ _ _ _ _ _ _ _ _ HJ.out (by omega) (by omega) HNN.out (fun j hj => HZZ.out j (by omega))
    · have e : i = xs.length:=by omega
      subst e
      have hR : R = (0,0):=by rw [Nat.sub_self] at hr;exact hr.symm
      have HI:=Lib.hid hI
      have HZ:=Lib.hid hz
      clear hI hr hz
      go_wp2
      exact hQe W _ _ _ _ _ _ _ _ _ _ _ _ _ _ _ _ _ _ _ _ _ _ _ _ _ _ _ _ _ _ _ _ _ _ _ _ _ _ _ _ _ _ _ _ _ _ _ _ _ _ _ _ _ _ _ _ _ _ _ _ _ _ _ _ _ _ _ _ _ _ _ _ _ _ _ _ _ _ _ _ _ _ _ _ _ _ _ _ _ _ _ _ _ _ _ _ _ _ _ _ _ _ _ _ _ _ _ _ _ _ _ _ _ _ _ _ _ _ _ _ _ _ _ _ _ _ _ _ _ _ _ _ _ _ _ _ _ _ _ _ _ _ _ _ _ _ _ _ _ _ HZ.out hR HI.out
end Go.Proofs.YtpnfgmgoafgcbaaGreat

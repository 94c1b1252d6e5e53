/-
  CheckReached (chapter 6), whole: it answers what the reference's answers.
-/
import Derived.Test.YtpnfgmgoafgcbaaGreatCk4
set_option linter.all false
set_option linter.unusedVariables false
namespace Go.Proofs.YtpnfgmgoafgcbaaGreat
open Go.RowKit Go.Shelf
attribute [local go_sem] Oper.semAt_some
theorem cleaves {h : Nat} {w : World} {R : Nat × Int} {X : Ending → World → Prop} {tmps : Array Value} (hp : tmps.getD 6 undef = .pointer (some ⟨h + 2,0,none⟩)) (hq : tmps.getD 7 undef = .pointer (some ⟨h + 3,0,none⟩)) (ds : List Nat) (W' : World) (hm : MarksOk (h + 4) W' ds)
    (b0 : Box W' (h + 2) 3 #[.int .i64 (R.1 : Int)]) (b1 : Box W' (h + 3) 37 #[.int .i64 R.2]) (hb : Below h w W') (hX : ∀ V,Below h w V → X (.returned (.tuple #[.int .i64 (R.1 : Int),.int .i64 R.2])) V) :
    LeavesInM Fence.wide 6 Tryz.prog Tryz.f51 tmps X (ds.map mk) .returning W':=by
  refine leaves_marks (B:=h + 4) (G:=fun W' => Box W' (h + 2) 3 #[.int .i64 (R.1 : Int)] ∧ Box W' (h + 3) 37 #[.int .i64 R.2] ∧ Below h w W') (fun V E hE hd g => ⟨g.1.put (by omega) _,g.2.1.put (by omega) _,below_putObj g.2.2 (by omega) _⟩) ds W' hm ⟨b0,b1,hb⟩ (fun V g => ⟨_,res_cc rfl hp hq (by have:=g.1.cell 0;simpa using this) (by have:=g.2.1.cell 0;simpa using this) Tryz.underlying3 rfl Tryz.underlying37 rfl,hX V g.2.2⟩)
set_option maxHeartbeats 4000000 in
set_option maxRecDepth 100000 in
theorem checkReached_c (bx bY sl fx fX fy fY ps : Int) (L : List Lk) (B : List Bx) (Q : List Int) (AL AB AQ A : Option Addr) (cL cB cQ c : Nat) (xs : List Rc) (w : World) (hL : L.length ≤ 1000) (hB : B.length ≤ 1000) (hQ : Q.length ≤ 1000)
    (hs1 : SlV w AL (L.flatMap lkV)) (hs2 : SlV w AB (B.flatMap bxV)) (hs3 : SlI w AQ Q) (hx : RcW A xs w) (hn : xs.length ≤ 100000) (hmm : ∀ x ∈ xs,-9223372036854775808 ≤ x.2 ∧ x.2 ≤ 9223372036854775807) :
    Calls Tryz.prog 51 #[.agg #[.int .i64 bx,.int .i64 bY,.int .i64 sl,.slice AL L.length cL,.int .i64 fx,.int .i64 fX,.int .i64 fy,.int .i64 fY,.slice AB B.length cB],.agg #[.int .i64 ps,.slice AQ Q.length cQ],.slice A xs.length c] w fun e w' => e = .returned (.tuple #[.int .i64 (chR (⟨bx,bY,sl,L,(fx,fX,fy,fY),B⟩ : Sc) (ps,Q) (xs.map pmR)).1,.int .i64 (chR (⟨bx,bY,sl,L,(fx,fX,fy,fY),B⟩ : Sc) (ps,Q) (xs.map pmR)).2]) ∧ Below w.heap.size w w':=by
  have FRc:=Lib.hid (fun W (h : Below w.heap.size w W) => free_c bx bY sl fx fX fy fY ps L B Q AL AB AQ cL cB cQ W (by omega) (by omega) (by omega) (hs1.below h) (hs2.below h) (hs3.below h))
  have hmk:=@run_makeMap Tryz.prog
  refine callsIn_wide.1 (callsIn_of_wp_marks (n:=6) Tryz.func51 rfl trivial ?_ rfl)
  refine wpIn_wide.2 ?_
  simp only [Tryz.ntmps51,List.size_toArray,List.length_cons,List.length_nil,Nat.reduceAdd,Nat.reduceSub,Array.replicate_succ,Array.replicate_zero,List.push_toArray,List.append_toArray,List.nil_append,List.cons_append]
  by_cases h0 : frE (⟨bx,bY,sl,L,(fx,fX,fy,fY),B⟩ : Sc) (ps,Q) = 0
  case neg =>
    have hR : chR (⟨bx,bY,sl,L,(fx,fX,fy,fY),B⟩ : Sc) (ps,Q) (xs.map pmR) = (0,frE (⟨bx,bY,sl,L,(fx,fX,fy,fY),B⟩ : Sc) (ps,Q)):=if_pos h0
    rw [hR]
    clear hR
    have x1 : (frE (⟨bx,bY,sl,L,(fx,fX,fy,fY),B⟩ : Sc) (ps,Q) != 0) = true:=bneT h0
    generalize frE (⟨bx,bY,sl,L,(fx,fX,fy,fY),B⟩ : Sc) (ps,Q) = fe at *
    go_wp2_with (first | (go_at_call 82;(with_reducible refine (FRc.out _ ?_).mono ?_);rotate_left;rintro e w2 ⟨rfl,hb2⟩;rotate_left;(focus (exact bB0));have hz2 : w.heap.size + 4 ≤ w2.heap.size:=(by have:=hb2.size;(try simp at this);omega));have q0 : Box w2 (w.heap.size + 2) 3 #[.int .i64 0]:=(by exact bX1 hb2);have q1 : Box w2 (w.heap.size + 3) 37 #[.int .i64 0]:=(by exact bX1 hb2);have f3:=q0.froz 0;have f4:=q1.froz 0;have g3:=q0.cell 0;have g4:=q1.cell 0;(simp at g3 g4);have m0:=q0.lt;have m1:=q1.lt | fail)
    exact cleaves (R:=(0,fe)) rfl rfl [] _ (MarksOk.nil _ _) (by show Box _ (w.heap.size + 2) 3 #[.int .i64 0];exact bX1 hb2) (by show Box _ (w.heap.size + 3) 37 #[.int .i64 fe];exact bX1 hb2) (by exact bB1 hb2) (fun V hV => ⟨rfl,hV⟩)
  case pos =>
    obtain ⟨hS,hp,hfr⟩:=frE_ok h0
    have hcp : cpE (⟨bx,bY,sl,L,(fx,fX,fy,fY),B⟩ : Sc) (ps,Q) = 0:=by
      have h1:=h0
      unfold frE at h1
      split at h1
      · rename_i h2;exact absurd h1 h2
      · rename_i h2;exact Decidable.of_not_not h2
    have hsc : scE (⟨bx,bY,sl,L,(fx,fX,fy,fY),B⟩ : Sc) = 0:=by
      rw [cpE_own] at hcp
      split at hcp
      · rename_i h2;exact absurd hcp h2
      · rename_i h2;exact Decidable.of_not_not h2
    have HCR:=Lib.hid (show chR (⟨bx,bY,sl,L,(fx,fX,fy,fY),B⟩ : Sc) (ps,Q) (xs.map pmR) = chR1 (⟨bx,bY,sl,L,(fx,fX,fy,fY),B⟩ : Sc) (ps,Q) (xs.map pmR) from if_neg (by simp [h0]))
    rw [h0] at FRc
    have hQ3 : Q.length ≤ 3 ∧ 0 < Q.length:=by
      have hpl:=hp.len
      have hsl:=hS.len
      dsimp only at hpl hsl
      omega
    obtain ⟨ys,hys⟩ : ∃ ys,ys = xs.map pmR:=⟨_,rfl⟩
    rw [← hys] at HCR ⊢
    have hyl : ys.length = xs.length:=by rw [hys,List.length_map]
    have hyi : ∀ (i : Nat) (x : Rc),xs[i]? = some x → ys[i]? = some (pmR x):=fun i x h => by rw [hys,List.getElem?_map,h];rfl
    have hff : ∀ (i : Nat) (x : Rc),xs[i]? = some x → rcF (⟨bx,bY,sl,L,(fx,fX,fy,fY),B⟩ : Sc) (ps,Q) ys i = fstE [ownE (⟨bx,bY,sl,L,(fx,fX,fy,fY),B⟩ : Sc) x.1.1,unl (decide (i = 0) || befS (ys.getD (i - 1) pm0).1 x.1.1) 9,unl (freeP (⟨bx,bY,sl,L,(fx,fX,fy,fY),B⟩ : Sc) x.1.1) 17,unl (decide (0 ≤ x.2) && (decide (x.2 = 0) == decide (x.1.1 = (ps,Q)))) 2]:=fun i x h => rcF_at (hyi i x h)
    have HNO:=Lib.hid (fun (i : Nat) (x : Rc) (h : xs[i]? = some x) (hz : ∀ j,j ≤ i → rcF (⟨bx,bY,sl,L,(fx,fX,fy,fY),B⟩ : Sc) (ps,Q) ys j = 0) => rc_none hS (hyi i x h) hz)
    have HMO:=Lib.hid (fun (hz : ∀ j,j < xs.length → rcF (⟨bx,bY,sl,L,(fx,fX,fy,fY),B⟩ : Sc) (ps,Q) ys j = 0) q hq => rc_mo hS (hyl ▸ hz) q hq)
    have HOK:=Lib.hid (fun (hz : ∀ j,j < xs.length → rcF (⟨bx,bY,sl,L,(fx,fX,fy,fY),B⟩ : Sc) (ps,Q) ys j = 0) (x : Rc) (hxm : x ∈ xs) => by
      obtain ⟨i,hi,e⟩:=List.getElem_of_mem hxm
      have h1:=rc_ok hz hi (hyi i x (by rw [List.getElem?_eq_getElem hi,e]))
      exact h1)
    have HGG:=Lib.hid (fun (i : Nat) (x : Rc) (h : xs[i]? = some x) => rcG_at (s:=(⟨bx,bY,sl,L,(fx,fX,fy,fY),B⟩ : Sc)) (p:=(ps,Q)) (hyi i x h))
    have H1:=Lib.hid (show (ffE (rcF (⟨bx,bY,sl,L,(fx,fX,fy,fY),B⟩ : Sc) (ps,Q) ys) 0 xs.length).2 ≠ 0 → chR1 (⟨bx,bY,sl,L,(fx,fX,fy,fY),B⟩ : Sc) (ps,Q) ys = ffE (rcF (⟨bx,bY,sl,L,(fx,fX,fy,fY),B⟩ : Sc) (ps,Q) ys) 0 xs.length from fun h => by unfold chR1;rw [hyl,if_pos h])
    have H2:=Lib.hid (show (ffE (rcF (⟨bx,bY,sl,L,(fx,fX,fy,fY),B⟩ : Sc) (ps,Q) ys) 0 xs.length).2 = 0 → chR1 (⟨bx,bY,sl,L,(fx,fX,fy,fY),B⟩ : Sc) (ps,Q) ys = if mvoP ys (ps,Q) < 0 then (0,6) else ffE (rcG (⟨bx,bY,sl,L,(fx,fX,fy,fY),B⟩ : Sc) (ps,Q) ys) 0 xs.length from fun h => by unfold chR1;rw [hyl,if_neg (by simp [h])];unfold chR2;rw [hyl])
    have HMB:=Lib.hid (fun q => (mvoP_rng (l:=ys) (q:=q) (a:=-9223372036854775808) (b:=9223372036854775807) (fun y hy => by rw [hys] at hy;obtain ⟨x,hx,rfl⟩:=List.mem_map.1 hy;exact hmm x hx) (by decide) (by decide)).2)
    rw [HCR.out]
    clear HCR hyi
    generalize chR1 (⟨bx,bY,sl,L,(fx,fX,fy,fY),B⟩ : Sc) (ps,Q) ys = R at *
    have KYd:=Lib.hid (fun W (h : Below w.heap.size w W) => key_c ps Q AQ cQ W (by omega) (by omega) (hs3.below h))
    obtain ⟨k0,k1,k2,k3,hk4⟩ : ∃ k0 k1 k2 k3,kyP (ps,Q) = (k0,k1,k2,k3):=⟨_,_,_,_,rfl⟩
    have hkv : kyV (ps,Q) = #[.int .i64 k0,.int .i64 k1,.int .i64 k2,.int .i64 k3]:=by
      have:=kyP_V (ps,Q);rw [hk4] at this;exact Value.agg.inj this
    rw [hkv] at KYd
    have HK4:=Lib.hid hk4
    have HFF:=Lib.hid hff
    have HYS:=Lib.hid hys
    have HYL:=Lib.hid hyl
    clear hkv hk4 hff hys hcp h0 hyl
    go_wp2_with (first | (go_at_call 82;(with_reducible refine (FRc.out _ ?_).mono ?_);rotate_left;rintro e w2 ⟨rfl,hb2⟩;rotate_left;(focus (exact bB0));have hz2 : w.heap.size + 4 ≤ w2.heap.size:=(by have:=hb2.size;(try simp at this);omega)) | fail)
    obtain ⟨W1,hW1⟩ : ∃ W1 : World,W1 = ((w2.alloc (.cells #[.int .i64 bx,.int .i64 bY,.int .i64 sl,.slice AL L.length cL,.int .i64 fx,.int .i64 fX,.int .i64 fy,.int .i64 fY,.slice AB B.length cB,.int .i64 ps,.slice AQ Q.length cQ] 135)).alloc (.map #[] 0)).alloc (.cells #[.map (some (w2.heap.size + 1))] 161):=⟨_,rfl⟩
    have hJ0 : CJ w.heap.size (w2.heap.size + 1) w #[.int .i64 bx,.int .i64 bY,.int .i64 sl,.slice AL L.length cL,.int .i64 fx,.int .i64 fX,.int .i64 fy,.int .i64 fY,.slice AB B.length cB] #[.int .i64 ps,.slice AQ Q.length cQ] (ks ys 0) W1:=by
      rw [hW1]
      exact ⟨by exact bX1 hb2,by exact bX1 hb2,by exact bX1 hb2,by exact bX1 hb2,by exact bX0,(KMap.madeAt _ _ (by simp)).alloc _,by omega,rfl,by exact bB1 hb2⟩
    rw [← hW1]
    clear hW1
    have HJ0:=Lib.hid hJ0
    clear hJ0
    have hgM4 : w.heap.size + 4 ≤ w2.heap.size + 1:=by omega
    generalize w2.heap.size + 1 = gM at *
    refine wp_loop_rounds (xs.length + 1) ?_
    refine cloop1_c w.heap.size gM bx bY sl fx fX fy fY ps L B Q AL AB AQ A cL cB cQ c xs ys w (rcF (⟨bx,bY,sl,L,(fx,fX,fy,fY),B⟩ : Sc) (ps,Q) ys) (ffE (rcF (⟨bx,bY,sl,L,(fx,fX,fy,fY),B⟩ : Sc) (ps,Q) ys) 0 xs.length) _ hS hsc (by omega) hs1 hs2 hs3 hx hn HYS.out hmm HFF.out HNO.out ?q1 ?q2 (xs.length + 1) 0 W1 _ _ _ _ _ _ _ _ _ _ _ _ _ _ _ _ _ _ _ _ _ _ _ _ _ _ _ _ _ _ _ _ _ _ _ _ _ _ _ _ _ _ _ _ _ _ _ _ _ _ _ _ _ _ _ _ _ _ _ _ _ _ _ _ _ _ _ _ _ _ _ _ _ _ _ _ _ _ _ _ _ _ _ _ _ _ _ _ _ _ _ _ _ _ _ _ _ _ _ _ _ _ _ _ _ _ _ _ _ _ _ _ _ _ _ _ _ _ _ _ _ _ _ _ _ _ _ _ _ _ _ _ _ _ _ _ _ _ _ _ _ _ _ _ _ _ _ HJ0.out (by omega) (by omega) rfl (by omega)
    case q1 =>
      intro W' t0 t1 t2 t3 t4 t5 t8 t9 t10 t11 t12 t13 t14 t15 t16 t17 t18 t19 t20 t21 t22 t23 t24 t25 t26 t27 t28 t29 t30 t31 t32 t33 t34 t35 t36 t37 t38 t39 t40 t41 t42 t43 t44 t45 t46 t47 t48 t49 t50 t51 t52 t53 t54 t55 t56 t57 t58 t59 t60 t61 t62 t63 t64 t65 t66 t67 t68 t69 t70 t71 t72 t73 t74 t75 t76 t77 t78 t79 t80 t81 t82 t83 t84 t85 t86 t87 t88 t89 t90 t91 t92 t93 t94 t95 t96 t97 t98 t99 t100 t101 t102 t103 t104 t105 t106 t107 t108 t109 t110 t111 t112 t113 t114 t115 t116 t117 t118 t119 t120 t121 t122 t123 t124 t125 t126 t127 t128 t129 t130 t131 t132 t133 t134 t135 t136 t137 t138 t139 t140 t141 t142 t143 t144 t145 t146 t147 t148 t149 t150 t151 t152 t153 t154 t155 b0 b1 hb hne
      have hr:=H1.out hne
      subst hr
      have HB0:=Lib.hid b0;have HB1:=Lib.hid b1;have HB:=Lib.hid hb
      clear b0 b1 hb hne H1 H2
      go_wp2
      exact cleaves rfl rfl [] W' (MarksOk.nil _ _) HB0.out HB1.out HB.out (fun V hV => ⟨rfl,hV⟩)
    case q2 =>
      intro W5 t0 t1 t5 t8 t9 t11 t12 t13 t14 t15 t16 t17 t18 t19 t20 t21 t22 t23 t24 t25 t26 t27 t28 t29 t30 t31 t32 t33 t34 t35 t36 t37 t38 t39 t40 t41 t42 t43 t44 t45 t46 t47 t48 t49 t50 t51 t52 t53 t54 t55 t56 t57 t58 t59 t60 t61 t62 t63 t64 t65 t66 t67 t68 t69 t70 t71 t72 t73 t74 t75 t76 t77 t78 t79 t80 t81 t82 t83 t84 t85 t86 t87 t88 t89 t90 t91 t92 t93 t94 t95 t96 t97 t98 t99 t100 t101 t102 t103 t104 t105 t106 t107 t108 t109 t110 t111 t112 t113 t114 t115 t116 t117 t118 t119 t120 t121 t122 t123 t124 t125 t126 t127 t128 t129 t130 t131 t132 t133 t134 t135 t136 t137 t138 t139 t140 t141 t142 t143 t144 t145 t146 t147 t148 t149 t150 t151 t152 t153 t154 t155 hz hR hJ
      have hR2:=H2.out (by rw [hR])
      have hmo:=HMO.out hz
      have hok:=HOK.out hz
      have BM:=hJ.bM;have BP:=hJ.bP;have M0:=hJ.mM
      have HJ:=Lib.hid hJ
      rw [HYL.out] at hmo
      generalize ks ys xs.length = es at *
      have hlk:=hmo (ps,Q) hp
      rw [HK4.out] at hlk
      have HMOS:=Lib.hid hmo
      have HKS:=Lib.hid hok
      have hmb:=HMB.out (ps,Q)
      have m0:=BM.cell 0;have p0:=BP.cell 0;have p1:=BP.cell 1
      simp at m0 p0 p1
      have lM:=BM.lt;have lP:=BP.lt;have lK:=M0.lt
      have KYc:=Lib.hid (fun W (h : Below W5.heap.size W5 W) => KYd.out W (by have:=HJ.out.below;exact bB2 h this))
      clear hR HMO HOK hz hok hmo H1 H2 hJ HJ0
      by_cases hm0 : mvoP ys (ps,Q) < 0
      · have HLK:=Lib.hid (hlk.trans (if_pos hm0))
        have hr : R = (0,6):=hR2.trans (if_pos hm0)
        subst hr
        clear hlk hm0 hR2
        go_wp2;(refine region_open kR (fun R hR => ?_);refine heldR (S:=(fun w' => Box w' (gM + 1) 161 #[.map (some gM)] ∧ Box w' (w.heap.size + 1) 33 #[.int .i64 ps,.slice AQ Q.length cQ] ∧ KMap w' gM es)) ?_ (fun hHeld => ?_);(focus ((try dsimp only);((refine ⟨?_, ?_, ?_⟩;((first | exact bX0 | exact bX1 hb3));((first | exact bX0 | exact bX1 hb3));(first | exact M3 | exact M0.drew | exact M0)))));have hO:=Lib.hid (fun w' (hSw : (fun w' => Box w' (gM + 1) 161 #[.map (some gM)] ∧ Box w' (w.heap.size + 1) 33 #[.int .i64 ps,.slice AQ Q.length cQ] ∧ KMap w' gM es) w') => (by (try dsimp only at hSw);(obtain ⟨hSA,hSB,hSC⟩:=hSw;have hlk:=run_look_k2 k0 k1 k2 k3 _ _ _ hSC;rw [HLK.out] at hlk;have sa0:=hSA.cell 0;have sb0:=hSB.cell 0;have sb1:=hSB.cell 1;(simp at sa0 sb0 sb1 hlk));exact And.intro hlk (And.intro sa0 (And.intro sb0 sb1))));refine rgL 0 hO rfl ?_;refine rgL 1 hO rfl ?_;refine rgC 2 rfl (fun K hK => ?_);go_simp;((go_at_call 118;(with_reducible refine (KYc.out _ ?_).mono ?_);rotate_left;rintro e w3 ⟨rfl,hb3⟩;rotate_left;(focus (exact bB0));have hz3 : W5.heap.size ≤ w3.heap.size:=(by have:=hb3.size;(try simp at this);omega);have M3 : KMap w3 gM es:=(M0.drew).below hb3 M0.lt));go_simp;refine hK.out _ _ ?_ (fun hHeld => ?_);(focus ((try dsimp only);((refine ⟨?_, ?_, ?_⟩;((first | exact bX1 hb3 | exact bX0));((first | exact bX1 hb3 | exact bX0));(first | exact M3 | exact M0.drew | exact M0)))));clear hK K;(try simp only [Act.put,pqs]);refine rgL 3 hO rfl ?_;refine rgN 4 rfl ?_;refine rgN 5 rfl ?_;refine rgN 6 rfl ?_;refine rgN 7 rfl ?_;refine rgN 8 rfl ?_;refine wpAnyH_done (Q:=fun e a w => e = Exit.normal ∧ R a w) kR ⟨rfl,hR _ _ ?_⟩ _;clear hR R)
        have J3:=HJ.out.keep (show Below W5.heap.size W5 w3 from by exact bB1 hb3)
        have r0:=J3.r0;have r1:=J3.r1;have bel:=J3.below
        have f0:=r0.froz 0;have f1:=r1.froz 0;have g0:=r0.cell 0;have g1:=r1.cell 0
        simp at g0 g1
        have l0:=r0.lt;have l1:=r1.lt
        clear J3
        go_wp2
        exact cleaves (R:=(0,6)) rfl rfl [] _ (MarksOk.nil _ _) (by show Box _ (w.heap.size + 2) 3 #[.int .i64 0];exact bX0) (by show Box _ (w.heap.size + 3) 37 #[.int .i64 6];exact bX0) (by exact bB1 bel) (fun V hV => ⟨rfl,hV⟩)
      · have HLK:=Lib.hid (hlk.trans (if_neg hm0))
        have hr:=hR2.trans (if_neg hm0)
        have HR2:=Lib.hid hr
        clear hlk hm0 hR2 hr
        go_wp2;(refine region_open kR (fun R hR => ?_);refine heldR (S:=(fun w' => Box w' (gM + 1) 161 #[.map (some gM)] ∧ Box w' (w.heap.size + 1) 33 #[.int .i64 ps,.slice AQ Q.length cQ] ∧ KMap w' gM es)) ?_ (fun hHeld => ?_);(focus ((try dsimp only);((refine ⟨?_, ?_, ?_⟩;((first | exact bX0 | exact bX1 hb3));((first | exact bX0 | exact bX1 hb3));(first | exact M3 | exact M0.drew | exact M0)))));have hO:=Lib.hid (fun w' (hSw : (fun w' => Box w' (gM + 1) 161 #[.map (some gM)] ∧ Box w' (w.heap.size + 1) 33 #[.int .i64 ps,.slice AQ Q.length cQ] ∧ KMap w' gM es) w') => (by (try dsimp only at hSw);(obtain ⟨hSA,hSB,hSC⟩:=hSw;have hlk:=run_look_k2 k0 k1 k2 k3 _ _ _ hSC;rw [HLK.out] at hlk;have sa0:=hSA.cell 0;have sb0:=hSB.cell 0;have sb1:=hSB.cell 1;(simp at sa0 sb0 sb1 hlk));exact And.intro hlk (And.intro sa0 (And.intro sb0 sb1))));refine rgL 0 hO rfl ?_;refine rgL 1 hO rfl ?_;refine rgC 2 rfl (fun K hK => ?_);go_simp;((go_at_call 118;(with_reducible refine (KYc.out _ ?_).mono ?_);rotate_left;rintro e w3 ⟨rfl,hb3⟩;rotate_left;(focus (exact bB0));have hz3 : W5.heap.size ≤ w3.heap.size:=(by have:=hb3.size;(try simp at this);omega);have M3 : KMap w3 gM es:=(M0.drew).below hb3 M0.lt));go_simp;refine hK.out _ _ ?_ (fun hHeld => ?_);(focus ((try dsimp only);((refine ⟨?_, ?_, ?_⟩;((first | exact bX1 hb3 | exact bX0));((first | exact bX1 hb3 | exact bX0));(first | exact M3 | exact M0.drew | exact M0)))));clear hK K;(try simp only [Act.put,pqs]);refine rgL 3 hO rfl ?_;refine rgN 4 rfl ?_;refine rgN 5 rfl ?_;refine rgN 6 rfl ?_;refine rgN 7 rfl ?_;refine rgN 8 rfl ?_;refine wpAnyH_done (Q:=fun e a w => e = Exit.normal ∧ R a w) kR ⟨rfl,hR _ _ ?_⟩ _;clear hR R)
        have J3:=Lib.hid (HJ.out.keep (show Below W5.heap.size W5 w3 from by exact bB1 hb3))
        go_wp2
        refine (wpIn_wide (n:=6)).1 ?_
        refine wpIn_loop_rounds (xs.length + 1) ?_
        refine cloop2_c w.heap.size gM bx bY sl fx fX fy fY L B AL AB A cL cB c xs w #[.int .i64 ps,.slice AQ Q.length cQ] es (mvoP ys) (rcG (⟨bx,bY,sl,L,(fx,fX,fy,fY),B⟩ : Sc) (ps,Q) ys) R _ hS hs1 hs2 hx hn (fun x hxm => ⟨(HKS.out x hxm).1,(HKS.out x hxm).2.1,(hmm x hxm).2⟩) HMOS.out HMB.out ?gg ?qr ?qe (xs.length + 1) 0 [] w3 _ _ _ _ _ _ _ _ _ _ _ _ _ _ _ _ _ _ _ _ _ _ _ _ _ _ _ _ _ _ _ _ _ _ _ _ _ _ _ _ _ _ _ _ _ _ _ _ _ _ _ _ _ _ _ _ _ _ _ _ _ _ _ _ _ _ _ _ _ _ _ _ _ _ _ _ _ _ _ _ _ _ _ _ _ _ _ _ _ _ _ _ _ _ _ _ _ _ _ _ _ _ _ _ _ _ _ _ _ _ _ _ _ _ _ _ _ _ _ _ _ _ _ _ _ _ _ _ _ _ _ _ _ _ _ _ _ _ _ _ _ _ _ _ _ _ _ J3.out (MarksOk.nil _ _) (by omega) (by omega) HR2.out.symm
        case gg =>
          intro i x h
          rw [HGG.out i x h]
          have h1:=(HKS.out x (List.mem_of_getElem? h)).2.2
          have h2 : decide ((pmR x).1 = (ps,Q)) = decide (x.2 = 0):=decide_eq_decide.2 h1.symm
          rw [h2]
          rfl
        case qr =>
          intro ds W' t0 t1 t2 t3 t4 t5 t8 t9 t10 t11 t12 t13 t14 t15 t16 t17 t18 t19 t20 t21 t22 t23 t24 t25 t26 t27 t28 t29 t30 t31 t32 t33 t34 t35 t36 t37 t38 t39 t40 t41 t42 t43 t44 t45 t46 t47 t48 t49 t50 t51 t52 t53 t54 t55 t56 t57 t58 t59 t60 t61 t62 t63 t64 t65 t66 t67 t68 t69 t70 t71 t72 t73 t74 t75 t76 t77 t78 t79 t80 t81 t82 t83 t84 t85 t86 t87 t88 t89 t90 t91 t92 t93 t94 t95 t96 t97 t98 t99 t100 t101 t102 t103 t104 t105 t106 t107 t108 t109 t110 t111 t112 t113 t114 t115 t116 t117 t118 t119 t120 t121 t122 t123 t124 t125 t126 t127 t128 t129 t130 t131 t132 t133 t134 t135 t136 t137 t138 t139 t140 t141 t142 t143 t144 t145 t146 t147 t148 t149 t150 t151 t152 t153 t154 t155 b0 b1 hb hM
          exact cleaves rfl rfl ds W' hM b0 b1 hb (fun V hV => ⟨rfl,hV⟩)
        case qe =>
          intro ds W' t0 t1 t2 t3 t4 t5 t8 t9 t10 t11 t12 t13 t14 t15 t16 t17 t18 t19 t20 t21 t22 t23 t24 t25 t26 t27 t28 t29 t30 t31 t32 t33 t34 t35 t36 t37 t38 t39 t40 t41 t42 t43 t44 t45 t46 t47 t48 t49 t50 t51 t52 t53 t54 t55 t56 t57 t58 t59 t60 t61 t62 t63 t64 t65 t66 t67 t68 t69 t70 t71 t72 t73 t74 t75 t76 t77 t78 t79 t80 t81 t82 t83 t84 t85 t86 t87 t88 t89 t90 t91 t92 t93 t94 t95 t96 t97 t98 t99 t100 t101 t102 t103 t104 t105 t106 t107 t108 t109 t110 t111 t112 t113 t114 t115 t116 t117 t118 t119 t120 t121 t122 t123 t124 t125 t126 t127 t128 t129 t130 t131 t132 t133 t134 t135 t136 t137 t138 t139 t140 t141 t142 t143 t144 t145 t146 t147 t148 t149 t150 t151 t152 t153 t154 t155 hR hJ hM
          subst hR
          have r0:=hJ.r0;have r1:=hJ.r1;have bel:=hJ.below
          have f0:=r0.froz 0;have f1:=r1.froz 0;have g0:=r0.cell 0;have g1:=r1.cell 0
          simp at g0 g1
          have l0:=r0.lt;have l1:=r1.lt
          have HM:=Lib.hid hM
          clear hJ hM
          go_wp2
          refine cleaves (R:=(0,0)) rfl rfl ds _ (HM.out.keeps ?_) (by show Box _ (w.heap.size + 2) 3 #[.int .i64 0];exact bX0) (by show Box _ (w.heap.size + 3) 37 #[.int .i64 0];exact bX0) (by exact bB1 bel) (fun V hV => ⟨rfl,hV⟩)
          (repeat refine KeepsFrom.trans ?_ ((KeepsOthers.setCell _ _ _).from _))
          exact KeepsFrom.refl _ _
end Go.Proofs.YtpnfgmgoafgcbaaGreat

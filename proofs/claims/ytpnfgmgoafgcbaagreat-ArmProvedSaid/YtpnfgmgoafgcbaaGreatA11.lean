/-
  The texts Rf1, Rf2 in one.
-/
import Derived.Test.YtpnfgmgoafgcbaaGreatA7
import Derived.Test.YtpnfgmgoafgcbaaGreatPt
import Derived.Deep.AppendLies
set_option linter.all false
/-
  The reached poses (chapter 6): the loop of ReachedFrom.
-/
set_option linter.unusedVariables false
namespace Go.Proofs.YtpnfgmgoafgcbaaGreat
open Go.RowKit Go.Shelf
attribute [local go_sem] Oper.semAt_some
theorem infoR : infoOk Tryz.prog 98 3 40 = true:=by kernel_rfl
/-- What the collected poses are: the first so many, each with its number, its quarters in a block of their own. -/
structure RI (V : Nat) (w6 : World) (F : Fl) (bs : List Ar) (k : Nat) (rs : List Rc) (Ao : Option Addr) (co : Nat) (W : World) : Prop where
  own : W.ownsRow V 98 3 (.slice Ao k co) k (rs.flatMap rcV)
  ps : rs.map (fun x => (x.1.1,x.2)) = (bs.take k).map (fun x => (x.1,(lkp F.1 (kyP x.1)).getD 0))
  q : ∀ x ∈ rs,SlI W x.1.2.1 x.1.1.2 ∧ ∃ b cs,x.1.2.1 = some ⟨b,0,none⟩ ∧ Box W b 3 cs
  hV : V = w6.heap.size
  below : Below V w6 W
theorem RI.len {V : Nat} {w6 : World} {F : Fl} {bs : List Ar} {k : Nat} {rs : List Rc} {Ao : Option Addr} {co : Nat} {W : World} (h : RI V w6 F bs k rs Ao co W) (hk : k ≤ bs.length) : rs.length = k:=by
  have:=congrArg List.length h.ps
  simp at this
  omega
def RfCut (W : World) (ps : Int) (Q : List Int) (s13 : Value) (wx : World) : Prop:=∃ gP gq cq,s13 = .pointer (some ⟨gP,0,none⟩) ∧ W.heap.size ≤ gP ∧ Box wx gP 33 #[.int .i64 ps,.slice (some ⟨gq,0,none⟩) Q.length cq] ∧ W.heap.size ≤ gq ∧ wx.ownsRow W.heap.size 3 1 (.slice (some ⟨gq,0,none⟩) Q.length cq) Q.length (Q.map (Value.int .i64)) ∧ Below W.heap.size W wx
noncomputable def rLoop : Code:=(((Tryz.f50.body.map loopsOf).getD [])[0]?).getD .skip
theorem kmap_og {W W' : World} {k b n sz : Nat} {e : TypeId} {es : List (Ky × Int)} {v : Value} {xs : List Value} (h : KMap W k es) (ho : W.ownsRow b e sz v n xs) (hg : W.grownBy W' v.ownBlock) : KMap W' k es:=by
  obtain ⟨l,clock,he,r⟩:=h
  refine ⟨l,clock,(hg.block k (Array.getElem?_eq_some_iff.1 he).1 fun e1 => ?_).trans he,r⟩
  rcases ho.2 with ⟨e2,_⟩ | ⟨g,cap,cur,e2,_,hh,_⟩
  · rw [e2] at e1;cases e1
  · rw [e2] at e1
    cases e1
    rw [he] at hh
    cases hh
set_option maxHeartbeats 4000000 in
set_option maxRecDepth 100000 in
theorem rrounds_c (V U gM : Nat) (bx bY sl fx fX fy fY : Int) (L : List Lk) (B : List Bx) (AL AB A : Option Addr) (cL cB c : Nat) (w6 : World) (F : Fl) (bs : List Ar) (PQ : Exit → Act → World → Prop)
    (hlen : ∀ x ∈ bs,0 < x.1.2.length ∧ x.1.2.length ≤ 3) (hl : bs.length ≤ 1000) (hM : KMap w6 gM F.1) (hrow : w6.ownsRow U 135 11 (.slice A bs.length c) bs.length (bs.flatMap (arV (⟨bx,bY,sl,L,(fx,fX,fy,fY),B⟩ : Sc) AL AB cL cB))) (hq : ∀ x ∈ bs,SlI w6 x.2.1 x.1.2)
    (hQ : ∀ (W : World) (rs : List Rc) (Ao : Option Addr) (co : Nat) (t0 t1 t2 t3 t4 t5 t6 t7 t9 t11 t12 t13 t14 t15 t16 t17 t18 t19 t20 t21 t22 t23 t24 t25 t26 t27 t28 t32 t33 t34 t35 t36 t37 t38 t39 t40 t41 t42 t43 t44 t45 t46 t47 t48 t49 t50 t51 t52 t53 t54 t55 : Value),RI V w6 F bs bs.length rs Ao co W → PQ (.exit 0) ⟨#[t0,t1,t2,t3,t4,t5,t6,t7,Value.map (some gM),t9,Value.slice Ao bs.length co,t11,t12,t13,t14,t15,t16,t17,t18,t19,t20,t21,t22,t23,t24,t25,t26,t27,t28,Value.slice A bs.length c,Value.int .i64 (bs.length : Int),Value.int .i64 (bs.length : Int),t32,t33,t34,t35,t36,t37,t38,t39,t40,t41,t42,t43,t44,t45,t46,t47,t48,t49,t50,t51,t52,t53,t54,t55],[]⟩ W) :
    ∀ (m k : Nat) (rs : List Rc) (Ao : Option Addr) (co : Nat) (W : World) (t0 t1 t2 t3 t4 t5 t6 t7 t9 t11 t12 t13 t14 t15 t16 t17 t18 t19 t20 t21 t22 t23 t24 t25 t26 t27 t28 t32 t33 t34 t35 t36 t37 t38 t39 t40 t41 t42 t43 t44 t45 t46 t47 t48 t49 t50 t51 t52 t53 t54 t55 : Value),RI V w6 F bs k rs Ao co W → k ≤ bs.length → bs.length < k + m →
      Code.rounds Tryz.prog rLoop PQ m ⟨#[t0,t1,t2,t3,t4,t5,t6,t7,Value.map (some gM),t9,Value.slice Ao k co,t11,t12,t13,t14,t15,t16,t17,t18,t19,t20,t21,t22,t23,t24,t25,t26,t27,t28,Value.slice A bs.length c,Value.int .i64 (bs.length : Int),Value.int .i64 ((k : Nat) : Int),t32,t33,t34,t35,t36,t37,t38,t39,t40,t41,t42,t43,t44,t45,t46,t47,t48,t49,t50,t51,t52,t53,t54,t55],[]⟩ W:=by
  intro m
  induction m with
  | zero => intro k rs Ao co W t0 t1 t2 t3 t4 t5 t6 t7 t9 t11 t12 t13 t14 t15 t16 t17 t18 t19 t20 t21 t22 t23 t24 t25 t26 t27 t28 t32 t33 t34 t35 t36 t37 t38 t39 t40 t41 t42 t43 t44 t45 t46 t47 t48 t49 t50 t51 t52 t53 t54 t55 hI h1 h2;omega
  | succ m ih =>
    intro k rs Ao co W t0 t1 t2 t3 t4 t5 t6 t7 t9 t11 t12 t13 t14 t15 t16 t17 t18 t19 t20 t21 t22 t23 t24 t25 t26 t27 t28 t32 t33 t34 t35 t36 t37 t38 t39 t40 t41 t42 t43 t44 t45 t46 t47 t48 t49 t50 t51 t52 t53 t54 t55 hI hk hm
    rw [rounds_succ]
    unfold rLoop
    conv => arg 2;whnf
    by_cases hlt : k < bs.length
    · obtain ⟨⟨⟨ps,Q⟩,AQ,cQ⟩,hy⟩ : ∃ y,bs[k]? = some y:=⟨_,List.getElem?_eq_getElem hlt⟩
      have hbel:=hI.below
      have hV:=hI.hV
      have hzV : V ≤ W.heap.size:=by have:=hbel.size;omega
      have R2:=own_below hrow (hV ▸ hbel)
      obtain ⟨gR,capR,hA,hgR,hgl⟩:=own_pos R2 (by omega) (by decide)
      cases hA
      have z0:=arCells R2 hy 0 (by omega);have z1:=arCells R2 hy 1 (by omega);have z2:=arCells R2 hy 2 (by omega);have z3:=arCells R2 hy 3 (by omega);have z4:=arCells R2 hy 4 (by omega);have z5:=arCells R2 hy 5 (by omega);have z6:=arCells R2 hy 6 (by omega);have z7:=arCells R2 hy 7 (by omega);have z8:=arCells R2 hy 8 (by omega);have z9:=arCells R2 hy 9 (by omega);have z10:=arCells R2 hy 10 (by omega)
      simp [arV] at z0 z1 z2 z3 z4 z5 z6 z7 z8 z9 z10
      have hm':=List.mem_of_getElem? hy
      have hql:=hlen _ hm'
      dsimp only at hql
      obtain ⟨hq1,hq3⟩:=hql
      have hsq : SlI W AQ Q:=(hq _ hm').below (hV ▸ hbel)
      have CLc:=Lib.hid (fun w' (h : Below W.heap.size W w') => clone_c Q AQ cQ w' hq1 (by omega) (hsq.below h))
      have MW:=hM.below hbel (by have:=hM.lt;omega)
      have HI:=Lib.hid hI
      have HY:=Lib.hid hy
      have hrl:=hI.len hk
      have HRL:=Lib.hid hrl
      have hrl1 : rs.length ≤ 1000:=by omega
      have hv : IntKind.i64.wrap ((k : Int) + 1) = (k : Int) + 1:=IntWalk.i64_in _ (by omega)
      have hi0 : 0 ≤ (k : Int):=by omega
      have hi1 : (k : Int) < (bs.length : Int):=by omega
      have HV:=Lib.hid hV
      clear hI hy hsq R2 hrl hV hbel
      go_upto_region 9 with fail
      have G0 : Box (W.alloc (.cells #[.int .i64 bx,.int .i64 bY,.int .i64 sl,.slice AL L.length cL,.int .i64 fx,.int .i64 fX,.int .i64 fy,.int .i64 fY,.slice AB B.length cB,.int .i64 ps,.slice AQ Q.length cQ] 135)) W.heap.size 135 #[.int .i64 bx,.int .i64 bY,.int .i64 sl,.slice AL L.length cL,.int .i64 fx,.int .i64 fX,.int .i64 fy,.int .i64 fY,.slice AB B.length cB,.int .i64 ps,.slice AQ Q.length cQ]:=Box.new _ _ _
      go_cut [13] from 35 to 42 (fun s13 wx => RfCut W ps Q s13 wx)
      case first =>
        ((focus (refine region_open kR (fun R hR => ?_);refine heldR (S:=(fun w' => Box w' W.heap.size 135 #[.int .i64 bx,.int .i64 bY,.int .i64 sl,.slice AL L.length cL,.int .i64 fx,.int .i64 fX,.int .i64 fy,.int .i64 fY,.slice AB B.length cB,.int .i64 ps,.slice AQ Q.length cQ])) ?_ (fun hHeld => ?_);(focus ((try dsimp only);(((first | exact bX0 | exact bX1 hb3)))));have hO:=Lib.hid (fun w' (hSw : (fun w' => Box w' W.heap.size 135 #[.int .i64 bx,.int .i64 bY,.int .i64 sl,.slice AL L.length cL,.int .i64 fx,.int .i64 fX,.int .i64 fy,.int .i64 fY,.slice AB B.length cB,.int .i64 ps,.slice AQ Q.length cQ]) w') => (by (try dsimp only at hSw);(have sa0:=hSw.cell 0;have sa1:=hSw.cell 1;have sa2:=hSw.cell 2;have sa3:=hSw.cell 3;have sa4:=hSw.cell 4;have sa5:=hSw.cell 5;have sa6:=hSw.cell 6;have sa7:=hSw.cell 7;have sa8:=hSw.cell 8;have sa9:=hSw.cell 9;have sa10:=hSw.cell 10;(simp at sa0 sa1 sa2 sa3 sa4 sa5 sa6 sa7 sa8 sa9 sa10));exact And.intro sa0 (And.intro sa1 (And.intro sa2 (And.intro sa3 (And.intro sa4 (And.intro sa5 (And.intro sa6 (And.intro sa7 (And.intro sa8 (And.intro sa9 sa10)))))))))));refine rgN 0 rfl ?_;refine rgN 1 rfl ?_;refine rgL 2 hO rfl ?_;refine rgN 3 rfl ?_;refine rgN 4 rfl ?_;refine rgL 5 hO rfl ?_;refine wpAnyH_ready (rs:=[6,8]) kR (by simp) ?_;(focus (refine AllReadyH.cons rfl (fun K hK => ?_) ?_;rotate_left;refine AllReadyH.cons rfl (fun K hK => ?_) ?_;rotate_left;exact AllReadyH.nil));(focus (go_simp;((go_at_call 85;(with_reducible refine (CLc.out _ ?_).mono ?_);rotate_left;rintro e w3 hC3;obtain ⟨gq,cq,rfl,hown3,hb3⟩:=hC3;rotate_left;(focus (exact bB0));have hz3 : W.heap.size + 1 ≤ w3.heap.size:=(by have:=hb3.size;(try simp at this);omega);(try (refine (fun (V3 : Box w3 (W.heap.size + 1) 33 #[.int .i64 0,.slice none 0 0]) => ?_) ?_;rotate_left;(focus (exact bX1 hb3));have v30:=V3.cell 0;have v31:=V3.cell 1;have fv3:=V3.froz;have lv3:=V3.lt;(simp at v30 v31)))));go_simp;refine hK.out _ _ ?_ (fun hHeld => ?_);(focus ((try dsimp only);(((first | exact bX1 hb3 | exact bX0)))));clear hK K;(try simp only [Act.put,pqs]);refine rgN 7 rfl ?_;refine rgC 8 rfl (fun K hK => ?_);go_simp;refine hK.out _ _ ?_ (fun hHeld => ?_);(focus ((try dsimp only);(((first | exact bX1 hb3 | exact bX0)))));clear hK K;(try simp only [Act.put,pqs])));rotate_left;(focus (go_simp;refine hK.out _ _ ?_ (fun hHeld => ?_);(focus ((try dsimp only);(((first | exact bX1 hb3 | exact bX0)))));clear hK K;(try simp only [Act.put,pqs]);refine rgC 6 rfl (fun K hK => ?_);go_simp;((go_at_call 85;(with_reducible refine (CLc.out _ ?_).mono ?_);rotate_left;rintro e w3 hC3;obtain ⟨gq,cq,rfl,hown3,hb3⟩:=hC3;rotate_left;(focus (exact bB0));have hz3 : W.heap.size + 1 ≤ w3.heap.size:=(by have:=hb3.size;(try simp at this);omega);(try (refine (fun (V3 : Box w3 (W.heap.size + 1) 33 #[.int .i64 0,.slice none 0 0]) => ?_) ?_;rotate_left;(focus (exact bX1 hb3));have v30:=V3.cell 0;have v31:=V3.cell 1;have fv3:=V3.froz;have lv3:=V3.lt;(simp at v30 v31)))));go_simp;refine hK.out _ _ ?_ (fun hHeld => ?_);(focus ((try dsimp only);(((first | exact bX1 hb3 | exact bX0)))));clear hK K;(try simp only [Act.put,pqs]);refine rgN 7 rfl ?_));rotate_left;all_goals (refine rgC 9 rfl (fun K hK => ?_);go_simp;refine hK.out _ _ ?_ (fun hHeld => ?_);(focus ((try dsimp only);(((first | exact bX1 hb3 | exact bX0)))));clear hK K;(try simp only [Act.put,pqs]);refine wpAnyH_done (Q:=fun e a w => e = Exit.normal ∧ R a w) kR ⟨rfl,hR _ _ ?_⟩ _;clear hR R;(have hg3:=(hown3.lt gq rfl).1;(simp at hg3);have ho3:=own_base (b':=W.heap.size) hown3 (by first | (simp;done) | (simp;omega));go_wp2_with fail;go_meet;refine ⟨_,gq,cq,rfl, ?_, ?_, ?_, ?_, ?_⟩;(focus (first | omega | (simp;omega)));(exact bX1 hb3);(focus omega);(focus (first | exact ho3.alloc _ | exact own_far (own_far ho3 (by show gq ≠ W.heap.size + 1;omega)) (by show gq ≠ W.heap.size + 1;omega)));(exact bB1 hb3))))))
      case rest =>
        obtain ⟨gP,gq,cq,rfl,hgP,bP,hgq,hoq,hbW⟩:=hcut
        have hp0:=bP.cell 0;have hp1:=bP.cell 1
        simp at hp0 hp1
        have lP:=bP.lt
        have hI2:=HI.out
        have hov:=hI2.own
        have hoc:=own_below hov hbW
        have Mc:=MW.below hbW MW.lt
        have hszc:=hbW.size
        obtain ⟨k0,k1,k2,k3,hk4⟩ : ∃ k0 k1 k2 k3,kyP (ps,Q) = (k0,k1,k2,k3):=⟨_,_,_,_,rfl⟩
        have hkv : kyV (ps,Q) = #[.int .i64 k0,.int .i64 k1,.int .i64 k2,.int .i64 k3]:=by
          have:=kyP_V (ps,Q);rw [hk4] at this;exact Value.agg.inj this
        have hsq : SlI wc (some ⟨gq,0,none⟩) Q:=sli_own hoq
        have KYc:=Lib.hid (fun w' (h : Below wc.heap.size wc w') => key_c ps Q (some ⟨gq,0,none⟩) cq w' hq1 hq3 (hsq.below h))
        rw [hkv] at KYc
        obtain ⟨d,hd⟩ : ∃ d,d = (lkp F.1 (k0,k1,k2,k3)).getD 0:=⟨_,rfl⟩
        have HD:=Lib.hid hd
        have HK4:=Lib.hid hk4
        obtain ⟨u0,zR,hu0,hy0,hy1,hy2,hy3⟩:=infoOk_parts infoR
        have hm1 : k + 1 ≤ maxLen:=by unfold maxLen;omega
        have hm2 : (k + 1) * 40 ≤ 140737488355328:=by omega
        have HSQ:=Lib.hid hsq
        clear hI2 hov hkv hsq hd hk4 G0 CLc
        go_wp2
        (refine region_open kR (fun R hR => ?_);refine heldR (S:=(fun w' => Box w' gP 33 #[.int .i64 ps,.slice (some ⟨gq,0,none⟩) Q.length cq] ∧ KMap w' gM F.1)) ?_ (fun hHeld => ?_);(focus ((try dsimp only);((refine ⟨?_, ?_⟩;(first | ((first | exact bX0 | exact bX1 hb4)) | exact box_og (by (first | exact bX0 | exact bX1 hb4)) (o4.alloc _) (by decide) hgrow5);(first | exact Mc.drew | exact M4 | exact M4.alloc _ | exact kmap_og (M4.alloc _) (o4.alloc _) hgrow5)))));have hO:=Lib.hid (fun w' (hSw : (fun w' => Box w' gP 33 #[.int .i64 ps,.slice (some ⟨gq,0,none⟩) Q.length cq] ∧ KMap w' gM F.1) w') => (by (try dsimp only at hSw);(obtain ⟨hSA,hSB⟩:=hSw;have hlk:=run_look_k k0 k1 k2 k3 _ _ _ hSB;rw [← HD.out] at hlk;have sa0:=hSA.cell 0;have sa1:=hSA.cell 1;(simp at sa0 sa1));exact And.intro hlk (And.intro sa0 sa1)));refine rgN 0 rfl ?_;refine rgL 1 hO rfl ?_;refine rgN 2 rfl ?_;refine rgL 3 hO rfl ?_;refine rgC 4 rfl (fun K hK => ?_);go_simp;((go_at_call 118;(with_reducible refine (KYc.out _ ?_).mono ?_);rotate_left;rintro e w4 ⟨rfl,hb4⟩;rotate_left;(focus (exact bB0));have hz4 : wc.heap.size ≤ w4.heap.size:=(by have:=hb4.size;(try simp at this);omega);have M4 : KMap w4 gM F.1:=(Mc.drew).below hb4 Mc.lt;have o4:=own_below (own_below hoc (Below.drew (Below.refl _ _))) hb4));go_simp;refine hK.out _ _ ?_ (fun hHeld => ?_);(focus ((try dsimp only);((refine ⟨?_, ?_⟩;(first | ((first | exact bX1 hb4 | exact bX0)) | exact box_og (by (first | exact bX1 hb4 | exact bX0)) (o4.alloc _) (by decide) hgrow5);(first | exact Mc.drew | exact M4 | exact M4.alloc _ | exact kmap_og (M4.alloc _) (o4.alloc _) hgrow5)))));clear hK K;(try simp only [Act.put,pqs]);refine rgL 5 hO rfl ?_;refine rgN 6 rfl ?_;refine rgC 7 rfl (fun K hK => ?_);go_simp;refine hK.out _ _ ?_ (fun hHeld => ?_);(focus ((try dsimp only);((refine ⟨?_, ?_⟩;(first | ((first | exact bX1 hb4 | exact bX0)) | exact box_og (by (first | exact bX1 hb4 | exact bX0)) (o4.alloc _) (by decide) hgrow5);(first | exact Mc.drew | exact M4 | exact M4.alloc _ | exact kmap_og (M4.alloc _) (o4.alloc _) hgrow5)))));clear hK K;(try simp only [Act.put,pqs]);refine rgC 8 rfl (fun K hK => ?_);((refine step_append_lies _ rfl _ _ 96 rfl V 98 u0 zR 3 40 Tryz.underlying96 hu0 hy0 hy1 hy2 hy3 (by decide) (.slice Ao k co) _ _ rfl (o4.alloc _) ⟨w4.heap.size,0,none⟩ 1 1 [.int .i64 ps,.slice (some ⟨gq,0,none⟩) Q.length cq,.int .i64 d] rfl rfl (cells_new w4 [.int .i64 ps,.slice (some ⟨gq,0,none⟩) Q.length cq,.int .i64 d] _) (by simp [Value.oneCell']) (by decide) hm1 hm2 (by simp;omega) _ rfl ?_;intro gN capN w5 hown5 hgrow5 hat5 hlt5));go_simp;refine hK.out _ _ ?_ (fun hHeld => ?_);(focus ((try dsimp only);((refine ⟨?_, ?_⟩;(first | ((first | exact bX1 hb4 | exact bX0)) | exact box_og (by (first | exact bX1 hb4 | exact bX0)) (o4.alloc _) (by decide) hgrow5);(first | exact Mc.drew | exact M4 | exact M4.alloc _ | exact kmap_og (M4.alloc _) (o4.alloc _) hgrow5)))));clear hK K;(try simp only [Act.put,pqs]);refine rgN 9 rfl ?_;refine wpAnyH_done (Q:=fun e a w => e = Exit.normal ∧ R a w) kR ⟨rfl,hR _ _ ?_⟩ _;clear hR R)
        have hb4w : Below W.heap.size W w4:=by exact bB2 hbW hb4
        have hb4c : Below wc.heap.size wc w4:=by exact bB1 hb4
        obtain ⟨csq,hcq⟩:=own_some hoq
        have bx5 : ∀ (b : Nat) (cs : Array Value),Box w4 b 3 cs → Box w5 b 3 cs:=fun b cs h => box_og (h.alloc (.cells #[.int .i64 ps,.slice (some ⟨gq,0,none⟩) Q.length cq,.int .i64 d] 98)) (o4.alloc _) (by decide) hgrow5
        have hq5:=bx5 gq csq (hcq.below hb4c hcq.lt)
        have hI3:=HI.out
        have hB5 : Below V w6 w5:=((hI3.below.trans (hb4w.mono hzV)).alloc (by have:=hb4w.size;omega) _).grown hgrow5 (by simp;have:=hb4w.size;omega) (fun j e => ((o4.alloc (.cells #[.int .i64 ps,.slice (some ⟨gq,0,none⟩) Q.length cq,.int .i64 d] 98)).lt j e).1)
        have HI5 : RI V w6 F bs (k + 1) (rs ++ [(((ps,Q),some ⟨gq,0,none⟩,cq),d)]) (some ⟨gN,0,none⟩) capN w5:=by
          refine ⟨by simpa [List.flatMap_append,rcV] using hown5, ?_, ?_,hI3.hV,hB5⟩
          · rw [List.map_append,hI3.ps,List.take_add_one,HY.out,List.map_append]
            simp [HD.out,HK4.out]
          · intro x hx
            rcases List.mem_append.1 hx with hx | hx
            · obtain ⟨h1,b,cs,h2,h3⟩:=hI3.q x hx
              have h5:=bx5 b cs (h3.below hb4w h3.lt)
              rw [h2] at h1 ⊢
              exact ⟨h1.same h3 h5,b,cs,rfl,h5⟩
            · have e : x = (((ps,Q),some ⟨gq,0,none⟩,cq),d):=by simpa using hx
              subst e
              exact ⟨HSQ.out.same hcq hq5,gq,csq,rfl,hq5⟩
        have HI5h:=Lib.hid HI5
        clear HI5
        go_wp2
        exact ih (k + 1) (rs ++ [(((ps,Q),some ⟨gq,0,none⟩,cq),d)]) (some ⟨gN,0,none⟩) capN w5 _ _ _ _ _ _ _ _ _ _ _ _ _ _ _ _ _ _ _ _ _ _ _ _ _ _ _ _ _ _ _ _ _ _ _ _ _ _ _ _ _ _ _ _ _ _ _ _ _ _ _ HI5h.out (by omega) (by omega)
    · have e : k = bs.length:=by omega
      subst e
      have HI:=Lib.hid hI
      have HQ:=Lib.hid hQ
      clear hI hQ
      go_wp2
      exact HQ.out _ _ _ _ _ _ _ _ _ _ _ _ _ _ _ _ _ _ _ _ _ _ _ _ _ _ _ _ _ _ _ _ _ _ _ _ _ _ _ _ _ _ _ _ _ _ _ _ _ _ _ _ _ _ _ HI.out
end Go.Proofs.YtpnfgmgoafgcbaaGreat
/-
  The reached poses (chapter 6): ReachedFrom, whole.
-/
set_option linter.unusedVariables false
namespace Go.Proofs.YtpnfgmgoafgcbaaGreat
open Go.RowKit Go.Shelf
attribute [local go_sem] Oper.semAt_some
/-- The reached poses with their numbers of moves, in order; or the error. -/
def rchL (s : Sc) (p : Ps) : List PM:=sortR ((floodP s [p]).2.map fun q => (q,(lkp (floodP s [p]).1 (kyP q)).getD 0))
def rchR (s : Sc) (p : Ps) : List PM × Int:=if frE s p ≠ 0 then ([],frE s p) else (rchL s p,0)
/-- How ReachedFrom ends. -/
def RfEnd (w : World) (R : List PM × Int) (e : Ending) (w' : World) : Prop :=
  ∃ (A : Option Addr) (c : Nat) (xs : List Rc),e = .returned (.tuple #[.slice A xs.length c,.int .i64 R.2]) ∧ xs.map (fun x => (x.1.1,x.2)) = R.1 ∧ SlV w' A (xs.flatMap rcV) ∧ (∀ x ∈ xs,SlI w' x.1.2.1 x.1.1.2) ∧ Below w.heap.size w w'
theorem flood_ne {s : Sc} {b : List Ps} (hb : b ≠ []) : (floodP s b).2 ≠ []:=by
  have : ∀ (m i : Nat) (a : Fl),a.2 ≠ [] → (flF s m i a).2 ≠ []:=by
    intro m
    induction m with
    | zero => intro i a h;exact h
    | succ m ih =>
      intro i a h
      unfold flF
      cases hx : a.2[i]? with
      | none => exact h
      | some p =>
        refine ih _ _ ?_
        have:=(fls_pre ((lkp a.1 (kyP p)).getD 0) (nbs s p) a).1
        intro e
        unfold flx at e
        rw [e] at this
        exact h (List.prefix_nil.1 this)
  exact this _ _ _ (by simpa [fl0] using hb)
set_option maxHeartbeats 4000000 in
set_option maxRecDepth 100000 in
theorem reachedFrom_c (bx bY sl fx fX fy fY ps : Int) (L : List Lk) (B : List Bx) (Q : List Int) (AL AB AQ : Option Addr) (cL cB cQ : Nat) (w : World) (hL : L.length ≤ 1000) (hB : B.length ≤ 1000) (hQ : Q.length ≤ 1000)
    (hs1 : SlV w AL (L.flatMap lkV)) (hs2 : SlV w AB (B.flatMap bxV)) (hs3 : SlI w AQ Q) :
    Calls Tryz.prog 50 #[.agg #[.int .i64 bx,.int .i64 bY,.int .i64 sl,.slice AL L.length cL,.int .i64 fx,.int .i64 fX,.int .i64 fy,.int .i64 fY,.slice AB B.length cB],.agg #[.int .i64 ps,.slice AQ Q.length cQ]] w (RfEnd w (rchR (⟨bx,bY,sl,L,(fx,fX,fy,fY),B⟩ : Sc) (ps,Q))):=by
  have FRc:=Lib.hid (fun W (h : Below w.heap.size w W) => free_c bx bY sl fx fX fy fY ps L B Q AL AB AQ cL cB cQ W (by omega) (by omega) (by omega) (hs1.below h) (hs2.below h) (hs3.below h))
  have FDd:=Lib.hid (fun (h0 : frE (⟨bx,bY,sl,L,(fx,fX,fy,fY),B⟩ : Sc) (ps,Q) = 0) W (h : Below w.heap.size w W) k (hk : k = W.heap.size) => show Calls Tryz.prog 108 #[.slice (some ⟨k,0,none⟩) 1 1] (W.alloc (.cells #[.int .i64 bx,.int .i64 bY,.int .i64 sl,.slice AL L.length cL,.int .i64 fx,.int .i64 fX,.int .i64 fy,.int .i64 fY,.slice AB B.length cB,.int .i64 ps,.slice AQ Q.length cQ] 135)) (FlEnd (⟨bx,bY,sl,L,(fx,fX,fy,fY),B⟩ : Sc) AL AB cL cB W.heap.size W (floodP (⟨bx,bY,sl,L,(fx,fX,fy,fY),B⟩ : Sc) [(ps,Q)])) from by
    subst hk
    have hS:=(frE_ok h0).1;have hp:=(frE_ok h0).2.1
    have hlen:=hS.len
    have hlp:=hp.len
    dsimp only at hlen hlp
    refine flood_c W.heap.size bx bY sl fx fX fy fY L B AL AB (some ⟨W.heap.size,0,none⟩) cL cB 1 W (W.alloc (.cells #[.int .i64 bx,.int .i64 bY,.int .i64 sl,.slice AL L.length cL,.int .i64 fx,.int .i64 fX,.int .i64 fy,.int .i64 fY,.slice AB B.length cB,.int .i64 ps,.slice AQ Q.length cQ] 135)) [((ps,Q),AQ,cQ)] hS rfl (hs1.below h) (hs2.below h) (own_of_box (Box.new W 135 #[.int .i64 bx,.int .i64 bY,.int .i64 sl,.slice AL L.length cL,.int .i64 fx,.int .i64 fX,.int .i64 fy,.int .i64 fY,.slice AB B.length cB,.int .i64 ps,.slice AQ Q.length cQ]) (Nat.le_refl _) (by show 1 ≤ maxLen;unfold maxLen;omega) rfl) ?_ ((Below.refl _ _).alloc (Nat.le_refl _) _) (by simp) (by simpa using hp)
    intro x hx
    have e : x = ((ps,Q),AQ,cQ):=by simpa using hx
    subst e
    obtain ⟨b,off,hA,hbq,_⟩:=hs3 0 Q[0] (List.getElem?_eq_getElem (by omega))
    exact ⟨(hs3.below h).alloc _,b,off,hA,.inl (by have:=h.size;omega)⟩)
  have HF:=Lib.hid (fun (h0 : frE (⟨bx,bY,sl,L,(fx,fX,fy,fY),B⟩ : Sc) (ps,Q) = 0) => show (∀ p ∈ (floodP (⟨bx,bY,sl,L,(fx,fX,fy,fY),B⟩ : Sc) [(ps,Q)]).2,0 < p.2.length ∧ p.2.length ≤ 3) ∧ (floodP (⟨bx,bY,sl,L,(fx,fX,fy,fY),B⟩ : Sc) [(ps,Q)]).2.length ≤ 1000 ∧ (floodP (⟨bx,bY,sl,L,(fx,fX,fy,fY),B⟩ : Sc) [(ps,Q)]).2 ≠ [] from by
    have hS:=(frE_ok h0).1;have hp:=(frE_ok h0).2.1
    obtain ⟨h1,_⟩:=flF_V ((alP (⟨bx,bY,sl,L,(fx,fX,fy,fY),B⟩ : Sc)).length + 1) 0 (fl0 [(ps,Q)]) (fl0_ok (s:=(⟨bx,bY,sl,L,(fx,fX,fy,fY),B⟩ : Sc)) (by simp) (by simpa using hp)) (fun e he => by
      obtain ⟨p,_,rfl⟩:=List.mem_map.1 he
      exact ⟨Int.le_refl _,by dsimp only;omega⟩)
    refine ⟨fun p hm => ?_,Nat.le_trans h1.len (alP_len hS),flood_ne (by simp)⟩
    have h2:=(h1.ok p hm).len
    have h3:=hS.len
    omega)
  have HR:=Lib.hid (show rchR (⟨bx,bY,sl,L,(fx,fX,fy,fY),B⟩ : Sc) (ps,Q) = if frE (⟨bx,bY,sl,L,(fx,fX,fy,fY),B⟩ : Sc) (ps,Q) ≠ 0 then ([],frE (⟨bx,bY,sl,L,(fx,fX,fy,fY),B⟩ : Sc) (ps,Q)) else (rchL (⟨bx,bY,sl,L,(fx,fX,fy,fY),B⟩ : Sc) (ps,Q),0) from rfl)
  have HL:=Lib.hid (show rchL (⟨bx,bY,sl,L,(fx,fX,fy,fY),B⟩ : Sc) (ps,Q) = sortR ((floodP (⟨bx,bY,sl,L,(fx,fX,fy,fY),B⟩ : Sc) [(ps,Q)]).2.map fun q => (q,(lkp (floodP (⟨bx,bY,sl,L,(fx,fX,fy,fY),B⟩ : Sc) [(ps,Q)]).1 (kyP q)).getD 0)) from rfl)
  clear hs1 hs2 hs3
  generalize floodP (⟨bx,bY,sl,L,(fx,fX,fy,fY),B⟩ : Sc) [(ps,Q)] = FP at *
  generalize frE (⟨bx,bY,sl,L,(fx,fX,fy,fY),B⟩ : Sc) (ps,Q) = r at *
  generalize rchL (⟨bx,bY,sl,L,(fx,fX,fy,fY),B⟩ : Sc) (ps,Q) = RL at *
  generalize rchR (⟨bx,bY,sl,L,(fx,fX,fy,fY),B⟩ : Sc) (ps,Q) = R at *
  go_enter Tryz.func50,Tryz.ntmps50
  go_upto_region 2 with (first | (go_at_call 82;(with_reducible refine (FRc.out _ ?_).mono ?_);rotate_left;rintro e w2 ⟨rfl,hb2⟩;rotate_left;(focus (exact bB0));have hz2 : w.heap.size + 2 ≤ w2.heap.size:=(by have:=hb2.size;(try simp at this);omega)) | fail)
  obtain ⟨W6,hW6⟩ : ∃ W6 : World,W6 = w2.alloc (.cells #[.int .i64 bx,.int .i64 bY,.int .i64 sl,.slice AL L.length cL,.int .i64 fx,.int .i64 fX,.int .i64 fy,.int .i64 fY,.slice AB B.length cB,.int .i64 ps,.slice AQ Q.length cQ] 135):=⟨_,rfl⟩
  have G0 : Box W6 w2.heap.size 135 #[.int .i64 bx,.int .i64 bY,.int .i64 sl,.slice AL L.length cL,.int .i64 fx,.int .i64 fX,.int .i64 fy,.int .i64 fY,.slice AB B.length cB,.int .i64 ps,.slice AQ Q.length cQ]:=by rw [hW6];exact Box.new _ _ _
  have G5 : Below w.heap.size w W6:=by rw [hW6];exact bB1 hb2
  rw [← hW6]
  clear hW6 hb2
  generalize w2.heap.size = gS at *
  have u0:=G0.cell 0;have u1:=G0.cell 1;have u2:=G0.cell 2;have u3:=G0.cell 3;have u4:=G0.cell 4;have u5:=G0.cell 5;have u6:=G0.cell 6;have u7:=G0.cell 7;have u8:=G0.cell 8;have u9:=G0.cell 9;have u10:=G0.cell 10
  simp at u0 u1 u2 u3 u4 u5 u6 u7 u8 u9 u10
  have l0:=G0.lt
  by_cases hr : r = 0
  · have FDc:=Lib.hid (FDd.out hr)
    have HF2:=Lib.hid (HF.out hr)
    have hR : R = (RL,0):=by rw [HR.out,if_neg (by simpa using hr)]
    have HR2:=Lib.hid hR
    clear FRc FDd HF HR hR
    subst hr
    go_wp2_with (first | (go_at_call 108;(with_reducible refine (FDc.out W6 G5 _ rfl).mono ?_);rintro e w6 hF6;obtain ⟨gM,A',c',bs',rfl,hM6,hps6,hown6,hqs6,hb6⟩:=hF6) | fail)
    have hlen : ∀ x ∈ bs',0 < x.1.2.length ∧ x.1.2.length ≤ 3:=fun x hx => HF2.out.1 _ (by rw [← hps6];exact List.mem_map_of_mem hx)
    have hbl : bs'.length ≤ 1000:=by
      have:=HF2.out.2.1
      rw [← hps6] at this
      simpa using this
    have hbn : bs' ≠ []:=by
      intro e
      have:=HF2.out.2.2
      rw [← hps6,e] at this
      exact this rfl
    have hI0 : RI w6.heap.size w6 FP bs' 0 [] none 0 w6:=⟨⟨rfl,.inl ⟨rfl,rfl⟩⟩,rfl,(fun _ h => nomatch h),rfl,Below.refl _ _⟩
    have HQs:=Lib.hid hqs6
    have HB6:=Lib.hid hb6
    have HPs:=Lib.hid hps6
    clear hqs6 hb6 hps6
    refine wp_loop_rounds (bs'.length + 1) ?_
    refine rrounds_c w6.heap.size W6.heap.size gM bx bY sl fx fX fy fY L B AL AB A' cL cB c' w6 FP bs' _ hlen hbl hM6 hown6 (fun x hx => (HQs.out x hx).1) ?q (bs'.length + 1) 0 [] none 0 w6 _ _ _ _ _ _ _ _ _ _ _ _ _ _ _ _ _ _ _ _ _ _ _ _ _ _ _ _ _ _ _ _ _ _ _ _ _ _ _ _ _ _ _ _ _ _ _ _ _ _ _ hI0 (by omega) (by omega)
    case q =>
      intro W7 rs Ao co t0 t1 t2 t3 t4 t5 t6 t7 t9 t11 t12 t13 t14 t15 t16 t17 t18 t19 t20 t21 t22 t23 t24 t25 t26 t27 t28 t32 t33 t34 t35 t36 t37 t38 t39 t40 t41 t42 t43 t44 t45 t46 t47 t48 t49 t50 t51 t52 t53 t54 t55 hI7
      have hrl:=hI7.len (Nat.le_refl _)
      have hne : rs ≠ []:=by
        rintro rfl
        simp at hrl
        exact hbn (List.length_eq_zero_iff.1 hrl.symm)
      have ho:=hI7.own
      rw [← hrl] at ho
      obtain ⟨gO,cO,hO,hgO,hgl⟩:=own_pos ho (by have:=List.length_pos_iff.2 hne;omega) (by decide)
      cases hO
      have hz7:=hI7.below.size
      obtain ⟨csO,hcO⟩:=own_some ho
      have SOc:=Lib.hid (sortR_c rs gO co w6.heap.size W7 hgO hne (by omega) ho (fun x hx => by
        obtain ⟨h1,b,cs,h2,h3⟩:=hI7.q x hx
        refine ⟨h1, ?_,fun off e => ?_⟩
        · have hm : (x.1.1,x.2) ∈ rs.map (fun x => (x.1.1,x.2)):=List.mem_map_of_mem (f:=fun x : Rc => (x.1.1,x.2)) hx
          rw [hI7.ps,List.take_length] at hm
          obtain ⟨y,hy,he⟩:=List.mem_map.1 hm
          have:=hlen y hy
          have e1 : y.1 = x.1.1:=(Prod.mk.inj he).1
          rw [← e1];omega
        · rw [h2] at e
          cases e
          exact box_ne h3 hcO (by decide) rfl))
      have HRL:=Lib.hid hrl
      have HI7:=Lib.hid hI7
      rw [hrl] at SOc
      clear hrl hI7 ho hcO
      go_wp2_with (first | (go_at_call 119;(with_reducible refine SOc.out.mono ?_);rintro e w8 hE8;obtain ⟨rfl,ys,hp8,hs8,hv8,hz8,hk8,hb8⟩:=hE8) | fail)
      have hI7:=HI7.out
      have hps : rs.map (fun x => (x.1.1,x.2)) = FP.2.map fun q => (q,(lkp FP.1 (kyP q)).getD 0):=by
        rw [hI7.ps,List.take_length,← HPs.out,List.map_map]
        rfl
      have hyl : ys.length = bs'.length:=by rw [hp8.length_eq,HRL.out]
      have hym : ys.map (fun x => (x.1.1,x.2)) = RL:=by
        rw [HL.out,← hps]
        refine sortedR_unique (f:=fun q => (lkp FP.1 (kyP q)).getD 0) _ _ ?_ ?_ ?_ (sortR_sorted _) ((hp8.map _).trans (sortR_perm _).symm)
        · intro x hx
          have hx:=(hp8.map (fun x : Rc => (x.1.1,x.2))).subset hx
          rw [hps] at hx
          obtain ⟨q,_,rfl⟩:=List.mem_map.1 hx
          rfl
        · intro x hx
          have hx:=(sortR_perm _).subset hx
          rw [hps] at hx
          obtain ⟨q,_,rfl⟩:=List.mem_map.1 hx
          rfl
        · refine List.pairwise_map.2 (hs8.imp (fun {a b} h => ?_))
          show ¬ ordP b.1.1 a.1.1 < 0
          omega
      have hq8 : ∀ x ∈ ys,SlI w8 x.1.2.1 x.1.1.2:=fun x hx => by
        obtain ⟨h1,b,cs,h2,h3⟩:=hI7.q x (hp8.subset hx)
        refine h1.sameBlock hz8 hk8 (fun off e => ?_)
        rw [h2] at e
        cases e
        obtain ⟨csO,hcO⟩:=own_some (show W7.ownsRow w6.heap.size 98 3 (.slice (some ⟨gO,0,none⟩) bs'.length co) bs'.length _ from hI7.own)
        exact box_ne h3 hcO (by decide) rfl
      have hB8 : Below w.heap.size w w8:=by
        have h1:=HB6.out
        have h2:=hI7.below
        have h3:=G5.size
        have h4:=h1.size
        exact G5.trans ((h1.mono h3).trans ((h2.mono (Nat.le_trans h3 h4)).trans (hb8.mono (Nat.le_trans h3 h4))))
      rw [← hyl]
      go_ret2
      refine ⟨some ⟨gO,0,none⟩,co,ys, ?_,by rw [HR2.out];exact hym,hv8,hq8,hB8⟩
      rw [HR2.out]
      rfl
  · have e2:=bneT hr
    have hR : R = ([],r):=by rw [HR.out,if_pos hr]
    clear FRc FDd HF HR HL hr
    subst hR
    go_wp2_with fail
    go_ret2
    exact ⟨none,0,[],rfl,rfl,(fun _ _ h => by simp at h),(fun _ h => nomatch h),by exact bB1 G5⟩
end Go.Proofs.YtpnfgmgoafgcbaaGreat

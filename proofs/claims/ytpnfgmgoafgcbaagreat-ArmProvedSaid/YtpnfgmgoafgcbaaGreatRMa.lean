/-
  May of the reference (chapter 6).
-/
import Derived.Test.YtpnfgmgoafgcbaaGreatG3
import Derived.Test.YtpnfgmgoafgcbaaGreatG2
set_option linter.all false
set_option linter.unusedVariables false
namespace Go.Proofs.YtpnfgmgoafgcbaaGreat
open Go.RowKit
attribute [local go_sem] Oper.semAt_some
theorem seg_small {a b c : Ce} (ha : (-1000 ≤ a.1 ∧ a.1 ≤ 1000) ∧ (-1000 ≤ a.2 ∧ a.2 ≤ 1000)) (hb : (-1000 ≤ b.1 ∧ b.1 ≤ 1000) ∧ (-1000 ≤ b.2 ∧ b.2 ≤ 1000)) (h : c ∈ seg a b) : (-3000 ≤ c.1 ∧ c.1 ≤ 3000) ∧ (-3000 ≤ c.2 ∧ c.2 ≤ 3000):=by
  obtain ⟨k,hk,rfl⟩:=mem_seg.1 h
  have hd : dst a b ≤ 2000:=by unfold dst;omega
  have h1 : ∀ x y : Int,cmpI x y = -1 ∨ cmpI x y = 0 ∨ cmpI x y = 1:=fun x y => by unfold cmpI;split <;> (try split) <;> simp
  have h2:=h1 b.1 a.1
  have h3:=h1 b.2 a.2
  generalize cmpI b.1 a.1 = u at *
  generalize cmpI b.2 a.2 = v at *
  refine ⟨?_, ?_⟩
  · rcases h2 with rfl | rfl | rfl <;> dsimp only <;> omega
  · rcases h3 with rfl | rfl | rfl <;> dsimp only <;> omega
theorem segs_small : ∀ (js : List Ce),Small js → ∀ c ∈ segs js,(-3000 ≤ c.1 ∧ c.1 ≤ 3000) ∧ (-3000 ≤ c.2 ∧ c.2 ≤ 3000)
  | [],_,c,h => by simp [segs] at h
  | [_],_,c,h => by simp [segs] at h
  | a :: b :: r,hs,c,h => by
    rw [segs] at h
    rcases List.mem_append.1 h with h | h
    · exact seg_small (hs a (by simp)) (hs b (by simp)) h
    · exact segs_small (b :: r) (fun x hx => hs x (by simp [List.mem_cons.1 hx])) c h
theorem swBx_small {s : Sc} {p : Ps} {m : Mv} (hS : SOk s) (hp : POk s p) (hq : POk s (mvd p m)) (hi : swI m < s.L.length) :
    (swBx s p m).1 ≤ (swBx s p m).2.1 ∧ (swBx s p m).2.2.1 ≤ (swBx s p m).2.2.2 ∧ -3000 ≤ (swBx s p m).1 ∧ (swBx s p m).2.1 ≤ 3000 ∧ -3000 ≤ (swBx s p m).2.2.1 ∧ (swBx s p m).2.2.2 ≤ 3000:=by
  have hlk:=hS.lk;have hbx:=hS.bx;have hbY:=hS.bY;have h6:=hp.sl6 hS;have h7:=hq.sl6 hS
  have j1 : Small (jts s p):=jts_small hS.len.2 (fun l h => by have:=hlk l h;omega) (by omega) (by omega) (by omega)
  have j2 : Small (jts s (mvd p m)):=jts_small hS.len.2 (fun l h => by have:=hlk l h;omega) (by omega) (by omega) (by omega)
  have hc : ∀ c ∈ clP s p (swI m) ++ clP s (mvd p m) (swI m),(-3000 ≤ c.1 ∧ c.1 ≤ 3000) ∧ (-3000 ≤ c.2 ∧ c.2 ≤ 3000):=fun c h => by
    rcases List.mem_append.1 h with h | h
    · exact segs_small _ (fun x hx => j1 x (List.mem_of_mem_drop hx)) c h
    · exact segs_small _ (fun x hx => j2 x (List.mem_of_mem_drop hx)) c h
  have ha:=hc _ (List.mem_append_left _ (clP_head hp.len hi))
  rw [swBx_app]
  generalize clP s p (swI m) ++ clP s (mvd p m) (swI m) = l at *
  generalize (jts s p).getD (swI m) (0,0) = a at *
  have F:=fun t => withP_fold l (onlyP a) t
  generalize l.foldl withP (onlyP a) = b at *
  simp only [onlyP] at F
  have f1:=((F b.1).1.1 (Int.le_refl _)).1
  have f2:=((F b.2.1).2.1.1 (Int.le_refl _)).1
  have f3:=((F b.2.2.1).2.2.1.1 (Int.le_refl _)).1
  have f4:=((F b.2.2.2).2.2.2.1 (Int.le_refl _)).1
  have g1:=(F (-3000)).1.2 ⟨by omega,fun c h => (hc c h).1.1⟩
  have g2:=(F 3000).2.1.2 ⟨by omega,fun c h => (hc c h).1.2⟩
  have g3:=(F (-3000)).2.2.1.2 ⟨by omega,fun c h => (hc c h).2.1⟩
  have g4:=(F 3000).2.2.2.2 ⟨by omega,fun c h => (hc c h).2.2⟩
  refine ⟨by omega,by omega,g1,g2,g3,g4⟩
theorem may_cases {s : Sc} {p : Ps} {m : Mv} (hp : POk s p) :
    (ownE s (mvd p m) ≠ 0 → mayP s p m = false) ∧ (ownE s (mvd p m) = 0 → POk s (mvd p m) ∧ mayP s p m = (!tkn s (swBx s p m) && freeP s (mvd p m))):=by
  have e : ownE s (mvd p m) = psE s (mvd p m):=ownE_ps (by rw [mvd_len,hp.len])
  rw [e]
  refine ⟨fun h => ?_,fun h => ⟨mvd_ok hp (by unfold mvdE;rw [h];rfl), ?_⟩⟩
  · unfold mayP mvdE;simp [h,unl]
  · unfold mayP mvdE;rw [h];rfl
set_option maxHeartbeats 8000000 in
set_option maxRecDepth 100000 in
theorem rMay_c (bx bY sl fx fX fy fY ps mj mb : Int) (L : List Lk) (B : List Bx) (Q : List Int) (AL AB AQ : Option Addr) (cL cB cQ : Nat) (w : World) (hS : SOk (⟨bx,bY,sl,L,(fx,fX,fy,fY),B⟩ : Sc)) (hp : POk (⟨bx,bY,sl,L,(fx,fX,fy,fY),B⟩ : Sc) (ps,Q)) (hm : mvE (⟨bx,bY,sl,L,(fx,fX,fy,fY),B⟩ : Sc) (mj,mb) = 0) (hs1 : SlV w AL (L.flatMap lkV)) (hs2 : SlV w AB (B.flatMap bxV)) (hs3 : SlI w AQ Q) :
    Calls Tryz.prog 90 #[.agg #[.int .i64 bx,.int .i64 bY,.int .i64 sl,.slice AL L.length cL,.int .i64 fx,.int .i64 fX,.int .i64 fy,.int .i64 fY,.slice AB B.length cB],.agg #[.int .i64 ps,.slice AQ Q.length cQ],.agg #[.int .i64 mj,.int .i64 mb]] w fun e w' => e = .returned (.bool (mayP (⟨bx,bY,sl,L,(fx,fX,fy,fY),B⟩ : Sc) (ps,Q) (mj,mb))) ∧ Below w.heap.size w w':=by
  have hlen:=hS.len
  have hnB:=hS.nB
  have hr:=hp.rng hS
  have h6:=hp.sl6 hS
  have hpl:=hp.len
  have hml : (mvd (ps,Q) (mj,mb)).2.length = L.length:=by rw [mvd_len,hpl]
  obtain ⟨hm1,hm2⟩:=mvE_ok hm
  dsimp only at hlen hnB hr h6 hpl hm1 hm2
  have MEc:=Lib.hid (fun W => rMoveErr_c bx bY sl fx fX fy fY mj mb L B AL AB cL cB W (by omega))
  have MDc:=Lib.hid (fun W (h : Below w.heap.size w W) => rMoved_c ps mj mb Q AQ cQ W (by omega) (by omega) (by omega) (by omega) (fun q h => by have:=hr q h;omega) (hs3.below h))
  have OWd:=Lib.hid (fun (P1 : Int) (P2 : List Int) (hP : P2.length = L.length) D d W (h : Below w.heap.size w W) (hv : SlI W D P2) => own_c bx bY sl fx fX fy fY P1 L B P2 AL AB D cL cB d W (by omega) (by omega) (hs1.below h) hv)
  have IFd:=Lib.hid (fun (P1 : Int) (P2 : List Int) (hP : POk (⟨bx,bY,sl,L,(fx,fX,fy,fY),B⟩ : Sc) (P1,P2)) D d W (h : Below w.heap.size w W) (hv : SlI W D P2) => rIsFree_c bx bY sl fx fX fy fY P1 L B P2 AL AB D cL cB d W hS hP (hs1.below h) (hs2.below h) hv)
  have SWd:=Lib.hid (fun (hP : POk (⟨bx,bY,sl,L,(fx,fX,fy,fY),B⟩ : Sc) (mvd (ps,Q) (mj,mb))) W (h : Below w.heap.size w W) => rSweep_c bx bY sl fx fX fy fY ps mj mb L B Q AL AB AQ cL cB cQ W hS hp hP (by omega) (by omega) (hs1.below h) (hs3.below h))
  have TKd:=Lib.hid (fun (a b : Int) W (h : Below w.heap.size w W) => rIsTaken_c bx bY sl fx fX fy fY a b L B AL AB cL cB W (by omega) (hs2.below h))
  have SMd:=Lib.hid (fun (hP : POk (⟨bx,bY,sl,L,(fx,fX,fy,fY),B⟩ : Sc) (mvd (ps,Q) (mj,mb))) => swBx_small hS hp hP (by unfold swI;dsimp only;omega))
  have TNd:=Lib.hid (fun (b : Bx) => tkn_cells (s:=(⟨bx,bY,sl,L,(fx,fX,fy,fY),B⟩ : Sc)) (b:=b) hS.B)
  obtain ⟨MC1,MC2⟩:=may_cases (m:=(mj,mb)) hp
  have MC1:=Lib.hid MC1
  have MC2:=Lib.hid MC2
  rw [hm] at MEc
  clear hs1 hs2 hs3 hr h6 hpl hS hp hm hm1 hm2
  generalize mayP (⟨bx,bY,sl,L,(fx,fX,fy,fY),B⟩ : Sc) (ps,Q) (mj,mb) = R at *
  generalize swBx (⟨bx,bY,sl,L,(fx,fX,fy,fY),B⟩ : Sc) (ps,Q) (mj,mb) = bb at *
  generalize mvd (ps,Q) (mj,mb) = P at *
  obtain ⟨P1,P2⟩:=P
  obtain ⟨x0,x1,y0,y1⟩:=bb
  dsimp only at SMd hml
  have OWc:=Lib.hid (OWd.out P1 P2 hml)
  clear OWd hml
  by_cases ho : ownE (⟨bx,bY,sl,L,(fx,fX,fy,fY),B⟩ : Sc) (P1,P2) = 0
  · obtain ⟨hP,hR⟩:=MC2.out ho
    have HR:=Lib.hid hR
    have SWc:=Lib.hid (SWd.out hP)
    have IFc:=Lib.hid (IFd.out P1 P2 hP)
    obtain ⟨s1,s2,s3,s4,s5,s6⟩:=SMd.out hP
    have TN:=Lib.hid (TNd.out (x0,x1,y0,y1) s1 s2)
    rw [ho] at OWc
    clear MC1 MC2 hP hR SWd IFd SMd TNd ho
    generalize freeP (⟨bx,bY,sl,L,(fx,fX,fy,fY),B⟩ : Sc) (P1,P2) = f at *
    generalize tkn (⟨bx,bY,sl,L,(fx,fX,fy,fY),B⟩ : Sc) (x0,x1,y0,y1) = T at *
    generalize htk : tkC (⟨bx,bY,sl,L,(fx,fX,fy,fY),B⟩ : Sc) = tk at *
    clear htk
    dsimp only at TN
    cases f
    · have HR:=Lib.hid (show R = false by rw [HR.out];simp)
      go_enter Tryz.func90,Tryz.ntmps90
      go_upto_region 1 with fail
      obtain ⟨W1,hW1⟩ : ∃ W1 : World,W1 = ((w.alloc (.cells #[.int .i64 bx,.int .i64 bY,.int .i64 sl,.slice AL L.length cL,.int .i64 fx,.int .i64 fX,.int .i64 fy,.int .i64 fY,.slice AB B.length cB] 30)).alloc (.cells #[.int .i64 ps,.slice AQ Q.length cQ] 33)).alloc (.cells #[.int .i64 mj,.int .i64 mb] 84):=⟨_,rfl⟩;have y2 : Box W1 w.heap.size 30 #[.int .i64 bx,.int .i64 bY,.int .i64 sl,.slice AL L.length cL,.int .i64 fx,.int .i64 fX,.int .i64 fy,.int .i64 fY,.slice AB B.length cB]:=(by rw [hW1];exact bX0);have y3 : Box W1 (w.heap.size + 1) 33 #[.int .i64 ps,.slice AQ Q.length cQ]:=(by rw [hW1];exact bX0);have y4 : Box W1 (w.heap.size + 1 + 1) 84 #[.int .i64 mj,.int .i64 mb]:=(by rw [hW1];exact bX0);have hBx : Below w.heap.size w W1:=(by rw [hW1];exact bB0);have hzW : w.heap.size ≤ W1.heap.size:=hBx.size;rw [← hW1];clear hW1;have zz0:=y2.cell 0;have zz1:=y2.cell 1;have zz2:=y2.cell 2;have zz3:=y2.cell 3;have zz4:=y2.cell 4;have zz5:=y2.cell 5;have zz6:=y2.cell 6;have zz7:=y2.cell 7;have zz8:=y2.cell 8;have q0:=y3.cell 0;have q1:=y3.cell 1;have r0:=y4.cell 0;have r1:=y4.cell 1;simp at zz0 zz1 zz2 zz3 zz4 zz5 zz6 zz7 zz8 q0 q1 r0 r1;have k2:=y2.lt;have k3:=y3.lt;have k4:=y4.lt
      (refine wp_region_held_drew (S:=(fun w' => Below W1.heap.size W1 w')) kR ?_ (fun hHeld => ?_);(focus ((try dsimp only);(((first | exact bB0 | exact bB1 hb2 | exact bB2 hb2 hb3 | exact bB3 hb2 hb3 hb4 | exact bB4 hb2 hb3 hb4 hb5 | exact bB5 hb6 hb5 hb4 hb3 hb2)))));have hO:=Lib.hid (fun w' (hSw : (fun w' => Below W1.heap.size W1 w') w') => (by (try dsimp only at hSw);(have hcc:=(bcell hSw).1;have sa0:=(hcc _ 0 k2).trans zz0;have sa1:=(hcc _ 1 k2).trans zz1;have sa2:=(hcc _ 2 k2).trans zz2;have sa3:=(hcc _ 3 k2).trans zz3;have sa4:=(hcc _ 4 k2).trans zz4;have sa5:=(hcc _ 5 k2).trans zz5;have sa6:=(hcc _ 6 k2).trans zz6;have sa7:=(hcc _ 7 k2).trans zz7;have sa8:=(hcc _ 8 k2).trans zz8;have sb0:=(hcc _ 0 k3).trans q0;have sb1:=(hcc _ 1 k3).trans q1;have sc0:=(hcc _ 0 k4).trans r0;have sc1:=(hcc _ 1 k4).trans r1);exact And.intro sa0 (And.intro sa1 (And.intro sa2 (And.intro sa3 (And.intro sa4 (And.intro sa5 (And.intro sa6 (And.intro sa7 (And.intro sa8 (And.intro sb0 (And.intro sb1 (And.intro sc0 sc1)))))))))))));refine rgL 0 hO rfl ?_;refine rgL 1 hO rfl ?_;refine rgC 2 rfl (fun K hK => ?_);go_simp;((go_at_call 89;(with_reducible refine (MEc.out _).mono ?_);rintro e w2 ⟨rfl,hb2⟩;have hz2 : W1.heap.size ≤ w2.heap.size:=(by have:=hb2.size;(try simp at this);omega)));go_simp;refine hK.out _ _ ?_ (fun hHeld => ?_);(focus ((try dsimp only);(((first | exact bB5 hb6 hb5 hb4 hb3 hb2 | exact bB4 hb2 hb3 hb4 hb5 | exact bB3 hb2 hb3 hb4 | exact bB2 hb2 hb3 | exact bB1 hb2 | exact bB0)))));clear hK K;(try simp only [Act.put,pqs]);refine rgN 3 rfl ?_;refine rgN 4 rfl ?_;refine rgL 5 hO rfl ?_;refine rgL 6 hO rfl ?_;refine rgL 7 hO rfl ?_;refine rgC 8 rfl (fun K hK => ?_);go_simp;((go_at_call 46;(with_reducible refine (MDc.out _ (by exact bB2 hb2 hBx)).mono ?_);rintro e w3 hE3;obtain ⟨D,d,rfl,hv3,hb3⟩:=hE3;have hz3 : w2.heap.size ≤ w3.heap.size:=(by have:=hb3.size;(try simp at this);omega)));go_simp;refine hK.out _ _ ?_ (fun hHeld => ?_);(focus ((try dsimp only);(((first | exact bB5 hb6 hb5 hb4 hb3 hb2 | exact bB4 hb2 hb3 hb4 hb5 | exact bB3 hb2 hb3 hb4 | exact bB2 hb2 hb3 | exact bB1 hb2 | exact bB0)))));clear hK K;(try simp only [Act.put,pqs]);refine rgC 9 rfl (fun K hK => ?_);go_simp;((go_at_call 111;(with_reducible refine (OWc.out D d _ (by exact bB3 hb3 hb2 hBx) (hv3.below (by exact bB0))).mono ?_);rintro e w4 ⟨rfl,hb4⟩;have hz4 : w3.heap.size ≤ w4.heap.size:=(by have:=hb4.size;(try simp at this);omega)));go_simp;refine hK.out _ _ ?_ (fun hHeld => ?_);(focus ((try dsimp only);(((first | exact bB5 hb6 hb5 hb4 hb3 hb2 | exact bB4 hb2 hb3 hb4 hb5 | exact bB3 hb2 hb3 hb4 | exact bB2 hb2 hb3 | exact bB1 hb2 | exact bB0)))));clear hK K;(try simp only [Act.put,pqs]);refine rgN 10 rfl ?_;refine rgN 11 rfl ?_;refine rgN 12 rfl ?_;refine rgL 13 hO rfl ?_;refine rgL 14 hO rfl ?_;refine rgL 15 hO rfl ?_;refine rgC 16 rfl (fun K hK => ?_);go_simp;((go_at_call 46;(with_reducible refine (MDc.out _ (by exact bB4 hb4 hb3 hb2 hBx)).mono ?_);rintro e w5 hE5;obtain ⟨D5,d5,rfl,hv5,hb5⟩:=hE5;have hz5 : w4.heap.size ≤ w5.heap.size:=(by have:=hb5.size;(try simp at this);omega)));go_simp;refine hK.out _ _ ?_ (fun hHeld => ?_);(focus ((try dsimp only);(((first | exact bB5 hb6 hb5 hb4 hb3 hb2 | exact bB4 hb2 hb3 hb4 hb5 | exact bB3 hb2 hb3 hb4 | exact bB2 hb2 hb3 | exact bB1 hb2 | exact bB0)))));clear hK K;(try simp only [Act.put,pqs]);refine rgC 17 rfl (fun K hK => ?_);go_simp;((go_at_call 64;(with_reducible refine (IFc.out D5 d5 _ (by exact bB5 hb5 hb4 hb3 hb2 hBx) (hv5.below (by exact bB0))).mono ?_);rintro e w6 ⟨rfl,hb6⟩;have hz6 : w5.heap.size ≤ w6.heap.size:=(by have:=hb6.size;(try simp at this);omega)));go_simp;refine hK.out _ _ ?_ (fun hHeld => ?_);(focus ((try dsimp only);(((first | exact bB5 hb6 hb5 hb4 hb3 hb2 | exact bB4 hb2 hb3 hb4 hb5 | exact bB3 hb2 hb3 hb4 | exact bB2 hb2 hb3 | exact bB1 hb2 | exact bB0)))));clear hK K;(try simp only [Act.put,pqs]);refine rgN 18 rfl ?_;refine rgN 19 rfl ?_;refine wpAnyH_done kR ?_ _)
      go_wp2
      go_ret
      exact ⟨ret_b HR.out.symm,by exact bB6 hb6 hb5 hb4 hb3 hb2 hBx⟩
    · have HR:=Lib.hid (show R = !T by rw [HR.out];simp)
      go_enter Tryz.func90,Tryz.ntmps90
      go_upto_region 1 with fail
      obtain ⟨W1,hW1⟩ : ∃ W1 : World,W1 = ((w.alloc (.cells #[.int .i64 bx,.int .i64 bY,.int .i64 sl,.slice AL L.length cL,.int .i64 fx,.int .i64 fX,.int .i64 fy,.int .i64 fY,.slice AB B.length cB] 30)).alloc (.cells #[.int .i64 ps,.slice AQ Q.length cQ] 33)).alloc (.cells #[.int .i64 mj,.int .i64 mb] 84):=⟨_,rfl⟩;have y2 : Box W1 w.heap.size 30 #[.int .i64 bx,.int .i64 bY,.int .i64 sl,.slice AL L.length cL,.int .i64 fx,.int .i64 fX,.int .i64 fy,.int .i64 fY,.slice AB B.length cB]:=(by rw [hW1];exact bX0);have y3 : Box W1 (w.heap.size + 1) 33 #[.int .i64 ps,.slice AQ Q.length cQ]:=(by rw [hW1];exact bX0);have y4 : Box W1 (w.heap.size + 1 + 1) 84 #[.int .i64 mj,.int .i64 mb]:=(by rw [hW1];exact bX0);have hBx : Below w.heap.size w W1:=(by rw [hW1];exact bB0);have hzW : w.heap.size ≤ W1.heap.size:=hBx.size;rw [← hW1];clear hW1;have zz0:=y2.cell 0;have zz1:=y2.cell 1;have zz2:=y2.cell 2;have zz3:=y2.cell 3;have zz4:=y2.cell 4;have zz5:=y2.cell 5;have zz6:=y2.cell 6;have zz7:=y2.cell 7;have zz8:=y2.cell 8;have q0:=y3.cell 0;have q1:=y3.cell 1;have r0:=y4.cell 0;have r1:=y4.cell 1;simp at zz0 zz1 zz2 zz3 zz4 zz5 zz6 zz7 zz8 q0 q1 r0 r1;have k2:=y2.lt;have k3:=y3.lt;have k4:=y4.lt
      (refine wp_region_held_drew (S:=(fun w' => Below W1.heap.size W1 w')) kR ?_ (fun hHeld => ?_);(focus ((try dsimp only);(((first | exact bB0 | exact bB1 hb2 | exact bB2 hb2 hb3 | exact bB3 hb2 hb3 hb4 | exact bB4 hb2 hb3 hb4 hb5 | exact bB5 hb6 hb5 hb4 hb3 hb2)))));have hO:=Lib.hid (fun w' (hSw : (fun w' => Below W1.heap.size W1 w') w') => (by (try dsimp only at hSw);(have hcc:=(bcell hSw).1;have sa0:=(hcc _ 0 k2).trans zz0;have sa1:=(hcc _ 1 k2).trans zz1;have sa2:=(hcc _ 2 k2).trans zz2;have sa3:=(hcc _ 3 k2).trans zz3;have sa4:=(hcc _ 4 k2).trans zz4;have sa5:=(hcc _ 5 k2).trans zz5;have sa6:=(hcc _ 6 k2).trans zz6;have sa7:=(hcc _ 7 k2).trans zz7;have sa8:=(hcc _ 8 k2).trans zz8;have sb0:=(hcc _ 0 k3).trans q0;have sb1:=(hcc _ 1 k3).trans q1;have sc0:=(hcc _ 0 k4).trans r0;have sc1:=(hcc _ 1 k4).trans r1);exact And.intro sa0 (And.intro sa1 (And.intro sa2 (And.intro sa3 (And.intro sa4 (And.intro sa5 (And.intro sa6 (And.intro sa7 (And.intro sa8 (And.intro sb0 (And.intro sb1 (And.intro sc0 sc1)))))))))))));refine rgL 0 hO rfl ?_;refine rgL 1 hO rfl ?_;refine rgC 2 rfl (fun K hK => ?_);go_simp;((go_at_call 89;(with_reducible refine (MEc.out _).mono ?_);rintro e w2 ⟨rfl,hb2⟩;have hz2 : W1.heap.size ≤ w2.heap.size:=(by have:=hb2.size;(try simp at this);omega)));go_simp;refine hK.out _ _ ?_ (fun hHeld => ?_);(focus ((try dsimp only);(((first | exact bB5 hb6 hb5 hb4 hb3 hb2 | exact bB4 hb2 hb3 hb4 hb5 | exact bB3 hb2 hb3 hb4 | exact bB2 hb2 hb3 | exact bB1 hb2 | exact bB0)))));clear hK K;(try simp only [Act.put,pqs]);refine rgN 3 rfl ?_;refine rgN 4 rfl ?_;refine rgL 5 hO rfl ?_;refine rgL 6 hO rfl ?_;refine rgL 7 hO rfl ?_;refine rgC 8 rfl (fun K hK => ?_);go_simp;((go_at_call 46;(with_reducible refine (MDc.out _ (by exact bB2 hb2 hBx)).mono ?_);rintro e w3 hE3;obtain ⟨D,d,rfl,hv3,hb3⟩:=hE3;have hz3 : w2.heap.size ≤ w3.heap.size:=(by have:=hb3.size;(try simp at this);omega)));go_simp;refine hK.out _ _ ?_ (fun hHeld => ?_);(focus ((try dsimp only);(((first | exact bB5 hb6 hb5 hb4 hb3 hb2 | exact bB4 hb2 hb3 hb4 hb5 | exact bB3 hb2 hb3 hb4 | exact bB2 hb2 hb3 | exact bB1 hb2 | exact bB0)))));clear hK K;(try simp only [Act.put,pqs]);refine rgC 9 rfl (fun K hK => ?_);go_simp;((go_at_call 111;(with_reducible refine (OWc.out D d _ (by exact bB3 hb3 hb2 hBx) (hv3.below (by exact bB0))).mono ?_);rintro e w4 ⟨rfl,hb4⟩;have hz4 : w3.heap.size ≤ w4.heap.size:=(by have:=hb4.size;(try simp at this);omega)));go_simp;refine hK.out _ _ ?_ (fun hHeld => ?_);(focus ((try dsimp only);(((first | exact bB5 hb6 hb5 hb4 hb3 hb2 | exact bB4 hb2 hb3 hb4 hb5 | exact bB3 hb2 hb3 hb4 | exact bB2 hb2 hb3 | exact bB1 hb2 | exact bB0)))));clear hK K;(try simp only [Act.put,pqs]);refine rgN 10 rfl ?_;refine rgN 11 rfl ?_;refine rgN 12 rfl ?_;refine rgL 13 hO rfl ?_;refine rgL 14 hO rfl ?_;refine rgL 15 hO rfl ?_;refine rgC 16 rfl (fun K hK => ?_);go_simp;((go_at_call 46;(with_reducible refine (MDc.out _ (by exact bB4 hb4 hb3 hb2 hBx)).mono ?_);rintro e w5 hE5;obtain ⟨D5,d5,rfl,hv5,hb5⟩:=hE5;have hz5 : w4.heap.size ≤ w5.heap.size:=(by have:=hb5.size;(try simp at this);omega)));go_simp;refine hK.out _ _ ?_ (fun hHeld => ?_);(focus ((try dsimp only);(((first | exact bB5 hb6 hb5 hb4 hb3 hb2 | exact bB4 hb2 hb3 hb4 hb5 | exact bB3 hb2 hb3 hb4 | exact bB2 hb2 hb3 | exact bB1 hb2 | exact bB0)))));clear hK K;(try simp only [Act.put,pqs]);refine rgC 17 rfl (fun K hK => ?_);go_simp;((go_at_call 64;(with_reducible refine (IFc.out D5 d5 _ (by exact bB5 hb5 hb4 hb3 hb2 hBx) (hv5.below (by exact bB0))).mono ?_);rintro e w6 ⟨rfl,hb6⟩;have hz6 : w5.heap.size ≤ w6.heap.size:=(by have:=hb6.size;(try simp at this);omega)));go_simp;refine hK.out _ _ ?_ (fun hHeld => ?_);(focus ((try dsimp only);(((first | exact bB5 hb6 hb5 hb4 hb3 hb2 | exact bB4 hb2 hb3 hb4 hb5 | exact bB3 hb2 hb3 hb4 | exact bB2 hb2 hb3 | exact bB1 hb2 | exact bB0)))));clear hK K;(try simp only [Act.put,pqs]);refine rgN 18 rfl ?_;refine rgN 19 rfl ?_;refine wpAnyH_done kR ?_ _)
      have hB6 : Below W1.heap.size W1 w6:=by exact bB5 hb6 hb5 hb4 hb3 hb2
      have hB0 : Below w.heap.size w w6:=by exact bB6 hb6 hb5 hb4 hb3 hb2 hBx
      have Y2:=y2.below hB6 k2;have Y3:=y3.below hB6 k3;have Y4:=y4.below hB6 k4
      clear y2 y3 y4 zz0 zz1 zz2 zz3 zz4 zz5 zz6 zz7 zz8 q0 q1 r0 r1 k2 k3 k4 hb2 hb3 hb4 hb5 hb6 hB6 hv3 hv5 MEc MDc OWc IFc
      have y2:=Y2;have y3:=Y3;have y4:=Y4
      clear Y2 Y3 Y4
      have zz0:=y2.cell 0;have zz1:=y2.cell 1;have zz2:=y2.cell 2;have zz3:=y2.cell 3;have zz4:=y2.cell 4;have zz5:=y2.cell 5;have zz6:=y2.cell 6;have zz7:=y2.cell 7;have zz8:=y2.cell 8
      have q0:=y3.cell 0;have q1:=y3.cell 1;have r0:=y4.cell 0;have r1:=y4.cell 1
      simp at zz0 zz1 zz2 zz3 zz4 zz5 zz6 zz7 zz8 q0 q1 r0 r1
      have k2:=y2.lt;have k3:=y3.lt;have k4:=y4.lt
      go_upto_region 4 with (first | (go_at_call 47;(with_reducible refine (SWc.out _ (by exact bB1 hB0)).mono ?_);rintro e w7 ⟨rfl,hb7⟩;have hz7:=hb7.size;dsimp only [bxA]) | fail)
      obtain ⟨W8,hW8⟩ : ∃ W8 : World,W8 = w7.alloc (.cells #[.int .i64 x0,.int .i64 x1,.int .i64 y0,.int .i64 y1] 27):=⟨_,rfl⟩
      have z2 : Box W8 w.heap.size 30 #[.int .i64 bx,.int .i64 bY,.int .i64 sl,.slice AL L.length cL,.int .i64 fx,.int .i64 fX,.int .i64 fy,.int .i64 fY,.slice AB B.length cB]:=by rw [hW8];exact bX1 hb7
      have z7 : Box W8 w7.heap.size 27 #[.int .i64 x0,.int .i64 x1,.int .i64 y0,.int .i64 y1]:=by rw [hW8];exact bX0
      have hB8 : Below w.heap.size w W8:=by rw [hW8];exact bB2 hb7 hB0
      rw [← hW8]
      clear hW8 y2 y3 y4 zz0 zz1 zz2 zz3 zz4 zz5 zz6 zz7 zz8 q0 q1 r0 r1 k2 k3 k4 SWc hb7 hB0
      generalize w7.heap.size = gB at *
      have a0:=z7.cell 0;have a1:=z7.cell 1;have a2:=z7.cell 2;have a3:=z7.cell 3
      simp at a0 a1 a2 a3
      have l7:=z7.lt
      go_wp2
      go_loopw [8] (fun x wr => ∃ xx : Int,x = .int .i64 xx ∧ (x0 ≤ xx ∧ xx ≤ x1 + 1) ∧ Hid (∀ x y : Int,x0 ≤ x → x < xx → y0 ≤ y → y ≤ y1 → tk (x,y) = false) ∧ Box wr w.heap.size 30 #[.int .i64 bx,.int .i64 bY,.int .i64 sl,.slice AL L.length cL,.int .i64 fx,.int .i64 fX,.int .i64 fy,.int .i64 fY,.slice AB B.length cB] ∧ Box wr gB 27 #[.int .i64 x0,.int .i64 x1,.int .i64 y0,.int .i64 y1] ∧ Below w.heap.size w wr) (fun x _ => (x1 + 1 - intOf x).toNat)
      case atStart => exact ⟨x0,rfl,⟨by omega,by omega⟩,fun x y h1 h2 => by omega,z2,z7,hB8⟩
      case round =>
        obtain ⟨xx,rfl,⟨hx1,hx2⟩,HX,hH,hG,hB⟩:=hrel
        clear a0 a1 a2 a3 l7 z2 z7
        have a0:=hG.cell 0;have a1:=hG.cell 1;have a2:=hG.cell 2;have a3:=hG.cell 3
        simp at a0 a1 a2 a3
        have lG:=hG.lt;have lH:=hH.lt
        by_cases hxx : xx ≤ x1
        · have dx : decide (xx ≤ x1) = true:=decide_eq_true hxx
          go_wp2
          go_loopw [9] (fun y wq => ∃ yy : Int,y = .int .i64 yy ∧ (y0 ≤ yy ∧ yy ≤ y1 + 1) ∧ Hid (∀ y : Int,y0 ≤ y → y < yy → tk (xx,y) = false) ∧ Box wq w.heap.size 30 #[.int .i64 bx,.int .i64 bY,.int .i64 sl,.slice AL L.length cL,.int .i64 fx,.int .i64 fX,.int .i64 fy,.int .i64 fY,.slice AB B.length cB] ∧ Box wq gB 27 #[.int .i64 x0,.int .i64 x1,.int .i64 y0,.int .i64 y1] ∧ Below w.heap.size w wq) (fun y _ => (y1 + 1 - intOf y).toNat)
          case atStart => exact ⟨y0,rfl,⟨by omega,by omega⟩,fun y h1 h2 => by omega,hH,hG,hB⟩
          case round =>
            obtain ⟨yy,rfl,⟨hy1,hy2⟩,HY,hH,hG,hB⟩:=hrel
            clear a0 a1 a2 a3 lG lH
            have a0:=hG.cell 0;have a1:=hG.cell 1;have a2:=hG.cell 2;have a3:=hG.cell 3
            simp at a0 a1 a2 a3
            have lG:=hG.lt;have lH:=hH.lt
            have zz0:=hH.cell 0;have zz1:=hH.cell 1;have zz2:=hH.cell 2;have zz3:=hH.cell 3;have zz4:=hH.cell 4;have zz5:=hH.cell 5;have zz6:=hH.cell 6;have zz7:=hH.cell 7;have zz8:=hH.cell 8
            simp at zz0 zz1 zz2 zz3 zz4 zz5 zz6 zz7 zz8
            by_cases hyy : yy ≤ y1
            · have dy : decide (yy ≤ y1) = true:=decide_eq_true hyy
              have TKc:=Lib.hid (TKd.out xx yy)
              cases g2 : tk (xx,yy)
              · rw [g2] at TKc
                go_wp2_with (first | (go_at_call 136;(with_reducible refine (TKc.out _ (by exact bB1 hB)).mono ?_);rintro e w9 ⟨rfl,hb9⟩) | fail)
                go_roundw
                case rel =>
                  refine ⟨yy + 1,by go_num,⟨by omega,by omega⟩,fun y h1 h2 => ?_,by exact bX1 hb9,by exact bX1 hb9,by exact bB2 hb9 hB⟩
                  by_cases e : y = yy
                  · rw [e];exact g2
                  · exact HY.out y h1 (by omega)
                case measure => simp [intOf];omega
              · rw [g2] at TKc
                have hR : R = false:=by rw [HR.out,TN.out.2 ⟨xx,yy,⟨hx1,hxx⟩,⟨hy1,hyy⟩,g2⟩];rfl
                have HR:=Lib.hid hR
                clear hR
                go_wp2_with (first | (go_at_call 136;(with_reducible refine (TKc.out _ (by exact bB1 hB)).mono ?_);rintro e w9 ⟨rfl,hb9⟩) | fail)
                go_ret
                exact ⟨ret_b HR.out.symm,by exact bB2 hb9 hB⟩
            · have dy : decide (yy ≤ y1) = false:=decide_eq_false hyy
              go_wp2
              go_roundw
              case rel =>
                refine ⟨xx + 1,by go_num,⟨by omega,by omega⟩,fun x y h1 h2 h3 h4 => ?_,hH,hG,hB⟩
                by_cases e : x = xx
                · rw [e];exact HY.out y h3 (by omega)
                · exact HX.out x y h1 (by omega) h3 h4
              case measure => simp [intOf];omega
        · have dx : decide (xx ≤ x1) = false:=decide_eq_false hxx
          have hR : R = true:=by
            rw [HR.out]
            cases hT : T
            · rfl
            · obtain ⟨x,y,hx,hy,ht⟩:=TN.out.1 hT
              rw [HX.out x y hx.1 (by omega) hy.1 hy.2] at ht
              cases ht
          have HR:=Lib.hid hR
          clear hR
          go_wp2
          go_ret
          exact ⟨ret_b HR.out.symm,by exact bB1 hB⟩
  · have hR:=MC1.out ho
    have HR:=Lib.hid hR
    generalize ownE (⟨bx,bY,sl,L,(fx,fX,fy,fY),B⟩ : Sc) (P1,P2) = o at *
    have e1 : (o != 0) = true:=bneT ho
    clear MC1 MC2 hR SWd IFd SMd TNd TKd ho
    go_enter Tryz.func90,Tryz.ntmps90
    go_upto_region 1 with fail
    obtain ⟨W1,hW1⟩ : ∃ W1 : World,W1 = ((w.alloc (.cells #[.int .i64 bx,.int .i64 bY,.int .i64 sl,.slice AL L.length cL,.int .i64 fx,.int .i64 fX,.int .i64 fy,.int .i64 fY,.slice AB B.length cB] 30)).alloc (.cells #[.int .i64 ps,.slice AQ Q.length cQ] 33)).alloc (.cells #[.int .i64 mj,.int .i64 mb] 84):=⟨_,rfl⟩;have y2 : Box W1 w.heap.size 30 #[.int .i64 bx,.int .i64 bY,.int .i64 sl,.slice AL L.length cL,.int .i64 fx,.int .i64 fX,.int .i64 fy,.int .i64 fY,.slice AB B.length cB]:=(by rw [hW1];exact bX0);have y3 : Box W1 (w.heap.size + 1) 33 #[.int .i64 ps,.slice AQ Q.length cQ]:=(by rw [hW1];exact bX0);have y4 : Box W1 (w.heap.size + 1 + 1) 84 #[.int .i64 mj,.int .i64 mb]:=(by rw [hW1];exact bX0);have hBx : Below w.heap.size w W1:=(by rw [hW1];exact bB0);have hzW : w.heap.size ≤ W1.heap.size:=hBx.size;rw [← hW1];clear hW1;have zz0:=y2.cell 0;have zz1:=y2.cell 1;have zz2:=y2.cell 2;have zz3:=y2.cell 3;have zz4:=y2.cell 4;have zz5:=y2.cell 5;have zz6:=y2.cell 6;have zz7:=y2.cell 7;have zz8:=y2.cell 8;have q0:=y3.cell 0;have q1:=y3.cell 1;have r0:=y4.cell 0;have r1:=y4.cell 1;simp at zz0 zz1 zz2 zz3 zz4 zz5 zz6 zz7 zz8 q0 q1 r0 r1;have k2:=y2.lt;have k3:=y3.lt;have k4:=y4.lt
    (refine wp_region_held_drew (S:=(fun w' => Below W1.heap.size W1 w')) kR ?_ (fun hHeld => ?_);(focus ((try dsimp only);(((first | exact bB0 | exact bB1 hb2 | exact bB2 hb2 hb3 | exact bB3 hb4 hb3 hb2)))));have hO:=Lib.hid (fun w' (hSw : (fun w' => Below W1.heap.size W1 w') w') => (by (try dsimp only at hSw);(have hcc:=(bcell hSw).1;have sa0:=(hcc _ 0 k2).trans zz0;have sa1:=(hcc _ 1 k2).trans zz1;have sa2:=(hcc _ 2 k2).trans zz2;have sa3:=(hcc _ 3 k2).trans zz3;have sa4:=(hcc _ 4 k2).trans zz4;have sa5:=(hcc _ 5 k2).trans zz5;have sa6:=(hcc _ 6 k2).trans zz6;have sa7:=(hcc _ 7 k2).trans zz7;have sa8:=(hcc _ 8 k2).trans zz8;have sb0:=(hcc _ 0 k3).trans q0;have sb1:=(hcc _ 1 k3).trans q1;have sc0:=(hcc _ 0 k4).trans r0;have sc1:=(hcc _ 1 k4).trans r1);exact And.intro sa0 (And.intro sa1 (And.intro sa2 (And.intro sa3 (And.intro sa4 (And.intro sa5 (And.intro sa6 (And.intro sa7 (And.intro sa8 (And.intro sb0 (And.intro sb1 (And.intro sc0 sc1)))))))))))));refine rgL 0 hO rfl ?_;refine rgL 1 hO rfl ?_;refine rgC 2 rfl (fun K hK => ?_);go_simp;((go_at_call 89;(with_reducible refine (MEc.out _).mono ?_);rintro e w2 ⟨rfl,hb2⟩;have hz2 : W1.heap.size ≤ w2.heap.size:=(by have:=hb2.size;(try simp at this);omega)));go_simp;refine hK.out _ _ ?_ (fun hHeld => ?_);(focus ((try dsimp only);(((first | exact bB3 hb4 hb3 hb2 | exact bB2 hb2 hb3 | exact bB1 hb2 | exact bB0)))));clear hK K;(try simp only [Act.put,pqs]);refine rgN 3 rfl ?_;refine rgN 4 rfl ?_;refine rgL 5 hO rfl ?_;refine rgL 6 hO rfl ?_;refine rgL 7 hO rfl ?_;refine rgC 8 rfl (fun K hK => ?_);go_simp;((go_at_call 46;(with_reducible refine (MDc.out _ (by exact bB2 hb2 hBx)).mono ?_);rintro e w3 hE3;obtain ⟨D,d,rfl,hv3,hb3⟩:=hE3;have hz3 : w2.heap.size ≤ w3.heap.size:=(by have:=hb3.size;(try simp at this);omega)));go_simp;refine hK.out _ _ ?_ (fun hHeld => ?_);(focus ((try dsimp only);(((first | exact bB3 hb4 hb3 hb2 | exact bB2 hb2 hb3 | exact bB1 hb2 | exact bB0)))));clear hK K;(try simp only [Act.put,pqs]);refine rgC 9 rfl (fun K hK => ?_);go_simp;((go_at_call 111;(with_reducible refine (OWc.out D d _ (by exact bB3 hb3 hb2 hBx) (hv3.below (by exact bB0))).mono ?_);rintro e w4 ⟨rfl,hb4⟩;have hz4 : w3.heap.size ≤ w4.heap.size:=(by have:=hb4.size;(try simp at this);omega)));go_simp;refine hK.out _ _ ?_ (fun hHeld => ?_);(focus ((try dsimp only);(((first | exact bB3 hb4 hb3 hb2 | exact bB2 hb2 hb3 | exact bB1 hb2 | exact bB0)))));clear hK K;(try simp only [Act.put,pqs]);refine rgN 10 rfl ?_;refine rgN 11 rfl ?_;refine rgN 12 rfl ?_;refine tsH (i:=13) rfl (by assumption) ?_;refine tsH (i:=14) rfl (by assumption) ?_;refine tsH (i:=15) rfl (by assumption) ?_;refine tsH (i:=16) rfl (by assumption) ?_;refine tsH (i:=17) rfl (by assumption) ?_;refine tsH (i:=18) rfl (by assumption) ?_;refine rgN 19 rfl ?_;refine wpAnyH_done kR ?_ _)
    go_wp2
    go_ret
    exact ⟨ret_b HR.out.symm,by exact bB4 hb4 hb3 hb2 hBx⟩
end Go.Proofs.YtpnfgmgoafgcbaaGreat

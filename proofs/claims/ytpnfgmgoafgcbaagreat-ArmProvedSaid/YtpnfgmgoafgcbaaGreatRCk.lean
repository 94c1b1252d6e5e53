/-
  CheckReached of the reference (chapter 6).
-/
import Derived.Test.YtpnfgmgoafgcbaaGreatG6
import Derived.Test.YtpnfgmgoafgcbaaGreatRMs
set_option linter.all false
set_option linter.unusedVariables false
namespace Go.Proofs.YtpnfgmgoafgcbaaGreat
open Go.RowKit Go.Shelf
attribute [local go_sem] Oper.semAt_some
set_option maxHeartbeats 8000000 in
set_option maxRecDepth 100000 in
theorem rCheckReached_c (bx bY sl fx fX fy fY ps : Int) (L : List Lk) (B : List Bx) (Q : List Int) (AL AB AQ : Option Addr) (cL cB cQ : Nat) (xs : List Rc) (A : Option Addr) (c : Nat) (w : World) (hL : L.length ≤ 100000) (hB0 : B.length ≤ 100000) (hQ : Q.length ≤ 100000) (hs1 : SlV w AL (L.flatMap lkV)) (hs2 : SlV w AB (B.flatMap bxV)) (hs3 : SlI w AQ Q) (hn : xs.length ≤ 100000) (hx : RcW A xs w) (hm : ∀ x ∈ xs,-9223372036854775808 ≤ x.2 ∧ x.2 ≤ 9223372036854775807) :
    Calls Tryz.prog 53 #[.agg #[.int .i64 bx,.int .i64 bY,.int .i64 sl,.slice AL L.length cL,.int .i64 fx,.int .i64 fX,.int .i64 fy,.int .i64 fY,.slice AB B.length cB],.agg #[.int .i64 ps,.slice AQ Q.length cQ],.slice A xs.length c] w fun e w' => e = .returned (.tuple #[.int .i64 (chR (⟨bx,bY,sl,L,(fx,fX,fy,fY),B⟩ : Sc) (ps,Q) (xs.map pmR)).1,.int .i64 (chR (⟨bx,bY,sl,L,(fx,fX,fy,fY),B⟩ : Sc) (ps,Q) (xs.map pmR)).2]) ∧ Below w.heap.size w w':=by
  have FRc:=Lib.hid (fun W (h : Below w.heap.size w W) => rFreeErr_c bx bY sl fx fX fy fY ps L B Q AL AB AQ cL cB cQ W hL hB0 hQ (hs1.below h) (hs2.below h) (hs3.below h))
  by_cases h0 : frE (⟨bx,bY,sl,L,(fx,fX,fy,fY),B⟩ : Sc) (ps,Q) = 0
  case neg =>
    have hR : chR (⟨bx,bY,sl,L,(fx,fX,fy,fY),B⟩ : Sc) (ps,Q) (xs.map pmR) = (0,frE (⟨bx,bY,sl,L,(fx,fX,fy,fY),B⟩ : Sc) (ps,Q)):=if_pos h0
    rw [hR]
    clear hR
    have x1 : (frE (⟨bx,bY,sl,L,(fx,fX,fy,fY),B⟩ : Sc) (ps,Q) != 0) = true:=bneT h0
    generalize frE (⟨bx,bY,sl,L,(fx,fX,fy,fY),B⟩ : Sc) (ps,Q) = R at *
    go_enter Tryz.func53,Tryz.ntmps53
    go_wp2_with (first | (go_at_call 37;(with_reducible refine (FRc.out _ (by exact bB0)).mono ?_);rintro e w3 ⟨rfl,hb3⟩) | fail)
    go_ret2
    exact ⟨rfl,by exact bB1 hb3⟩
  case pos =>
    have hR : chR (⟨bx,bY,sl,L,(fx,fX,fy,fY),B⟩ : Sc) (ps,Q) (xs.map pmR) = chR1 (⟨bx,bY,sl,L,(fx,fX,fy,fY),B⟩ : Sc) (ps,Q) (xs.map pmR):=if_neg (by simp [h0])
    rw [hR]
    clear hR
    rw [h0] at FRc
    obtain ⟨hS,hp,hfr⟩:=frE_ok h0
    have hlen:=hS.len
    dsimp only at hlen
    have OWd:=Lib.hid (fun (x1 : Int) (xQ : List Int) (hl : xQ.length ≤ 100000) AX cX W (hv : SlI W AX xQ) (h : Below w.heap.size w W) => own_c bx bY sl fx fX fy fY x1 L B xQ AL AB AX cL cB cX W hL hl (hs1.below h) hv)
    have OKd:=Lib.hid (fun (x1 : Int) (xQ : List Int) (h : ownE (⟨bx,bY,sl,L,(fx,fX,fy,fY),B⟩ : Sc) (x1,xQ) = 0) => own_pok h)
    have IFd:=Lib.hid (fun (x1 : Int) (xQ : List Int) (hx : POk (⟨bx,bY,sl,L,(fx,fX,fy,fY),B⟩ : Sc) (x1,xQ)) AX cX W (hv : SlI W AX xQ) (h : Below w.heap.size w W) => rIsFree_c bx bY sl fx fX fy fY x1 L B xQ AL AB AX cL cB cX W hS hx (hs1.below h) (hs2.below h) hv)
    have SPd:=Lib.hid (fun (x1 : Int) (xQ : List Int) (hl : xQ.length ≤ 100000) AX cX W (hv : SlI W AX xQ) (h : Below w.heap.size w W) => samePose_c x1 ps xQ Q AX AQ cX cQ W hl hQ hv (hs3.below h))
    have BEd:=Lib.hid (fun (y1 x1 : Int) (yQ xQ : List Int) (hy : yQ.length ≤ 100000) (hl : xQ.length ≤ 100000) AY AX cY cX W (hu : SlI W AY yQ) (hv : SlI W AX xQ) => rIsBefore_c y1 x1 yQ xQ AY AX cY cX W hy hl hu hv)
    have MOd:=Lib.hid (fun (pt : Int) (T : List Int) AT cT W (hT : T.length ≤ 100000) (hv : SlI W AT T) (h : Below w.heap.size w W) => rMovesOf_c xs pt T A AT c cT W hn hT (hx.below h) hv)
    have MSd:=Lib.hid (fun (p1 : Int) (Q1 : List Int) (h1 : POk (⟨bx,bY,sl,L,(fx,fX,fy,fY),B⟩ : Sc) (p1,Q1)) A c W (h : Below w.heap.size w W) (hv : SlI W A Q1) => rMoves_c bx bY sl fx fX fy fY p1 L B Q1 AL AB A cL cB c W hS h1 (hs1.below h) (hs2.below h) hv)
    have RMd:=Lib.hid (fun (p1 : Int) (Q1 : List Int) (h1 : POk (⟨bx,bY,sl,L,(fx,fX,fy,fY),B⟩ : Sc) (p1,Q1)) (mj mb : Int) (hm : (mj,mb) ∈ mvs (⟨bx,bY,sl,L,(fx,fX,fy,fY),B⟩ : Sc) (p1,Q1)) A c W (hv : SlI W A Q1) => show Calls Tryz.prog 46 #[.agg #[.int .i64 p1,.slice A Q1.length c],.agg #[.int .i64 mj,.int .i64 mb]] W (RmX (mvd (p1,Q1) (mj,mb)) W) from by
      have hr:=h1.rng hS
      have h6:=h1.sl6 hS
      have hpl:=h1.len
      have hlen:=hS.len
      obtain ⟨k1,k2,k3⟩:=mem_allM.1 (List.mem_filter.1 hm).1
      dsimp only at hr h6 hpl hlen k1 k2 k3
      exact rMovedX_c p1 mj mb Q1 A c W (by omega) (by omega) (by omega) (by omega) (fun q h => by have:=hr q h;omega) hv)
    have HML:=Lib.hid (fun (p1 : Ps) => show (mvs (⟨bx,bY,sl,L,(fx,fX,fy,fY),B⟩ : Sc) p1).length ≤ 1000 from by
      have h1 : (mvs (⟨bx,bY,sl,L,(fx,fX,fy,fY),B⟩ : Sc) p1).length ≤ (allM (⟨bx,bY,sl,L,(fx,fX,fy,fY),B⟩ : Sc)).length:=List.length_filter_le _ _
      have h2:=allM_len (⟨bx,bY,sl,L,(fx,fX,fy,fY),B⟩ : Sc)
      dsimp only at h2
      omega)
    have HMQ:=Lib.hid (fun (p1 : Ps) (h1 : POk (⟨bx,bY,sl,L,(fx,fX,fy,fY),B⟩ : Sc) p1) m => show (mvd p1 m).2.length ≤ 100000 from by
      have h2:=h1.len
      rw [mvd_len]
      dsimp only at h2
      omega)
    have HZ:=Lib.hid (fun i y (h : (xs.map pmR)[i]? = some y) => rcF_zero (s:=(⟨bx,bY,sl,L,(fx,fX,fy,fY),B⟩ : Sc)) (p:=(ps,Q)) h)
    have HA:=Lib.hid (fun i y (h : (xs.map pmR)[i]? = some y) => rcF_at (s:=(⟨bx,bY,sl,L,(fx,fX,fy,fY),B⟩ : Sc)) (p:=(ps,Q)) h)
    have HG:=Lib.hid (fun i y (h : (xs.map pmR)[i]? = some y) => rcG_at (s:=(⟨bx,bY,sl,L,(fx,fX,fy,fY),B⟩ : Sc)) (p:=(ps,Q)) h)
    have H1:=Lib.hid (show chR1 (⟨bx,bY,sl,L,(fx,fX,fy,fY),B⟩ : Sc) (ps,Q) (xs.map pmR) = if (ffE (rcF (⟨bx,bY,sl,L,(fx,fX,fy,fY),B⟩ : Sc) (ps,Q) (xs.map pmR)) 0 xs.length).2 ≠ 0 then ffE (rcF (⟨bx,bY,sl,L,(fx,fX,fy,fY),B⟩ : Sc) (ps,Q) (xs.map pmR)) 0 xs.length else chR2 (⟨bx,bY,sl,L,(fx,fX,fy,fY),B⟩ : Sc) (ps,Q) (xs.map pmR) from by unfold chR1;rw [List.length_map])
    have H2:=Lib.hid (show chR2 (⟨bx,bY,sl,L,(fx,fX,fy,fY),B⟩ : Sc) (ps,Q) (xs.map pmR) = if mvoP (xs.map pmR) (ps,Q) < 0 then (0,6) else ffE (rcG (⟨bx,bY,sl,L,(fx,fX,fy,fY),B⟩ : Sc) (ps,Q) (xs.map pmR)) 0 xs.length from by unfold chR2;rw [List.length_map])
    have HX:=Lib.hid hx
    have HM:=Lib.hid hm
    have HQ:=Lib.hid hs3
    clear hs1 hs2 hs3 hS hp hfr hx hm h0
    generalize chR1 (⟨bx,bY,sl,L,(fx,fX,fy,fY),B⟩ : Sc) (ps,Q) (xs.map pmR) = R1 at *
    generalize chR2 (⟨bx,bY,sl,L,(fx,fX,fy,fY),B⟩ : Sc) (ps,Q) (xs.map pmR) = R2 at *
    generalize hff : rcF (⟨bx,bY,sl,L,(fx,fX,fy,fY),B⟩ : Sc) (ps,Q) (xs.map pmR) = ff at *
    generalize hgg : rcG (⟨bx,bY,sl,L,(fx,fX,fy,fY),B⟩ : Sc) (ps,Q) (xs.map pmR) = gg at *
    clear hff hgg
    generalize hsc : (⟨bx,bY,sl,L,(fx,fX,fy,fY),B⟩ : Sc) = sc at *
    clear hsc
    obtain ⟨RF,hRF⟩ : ∃ RF,ffE ff 0 (xs.length - 0) = RF:=⟨_,rfl⟩
    have HRF:=Lib.hid hRF
    have H1':=Lib.hid (show R1 = if RF.2 ≠ 0 then RF else R2 from by rw [← hRF];exact H1.out)
    clear hRF H1
    go_enter Tryz.func53,Tryz.ntmps53
    go_upto_region 4 with (first | (go_at_call 37;(with_reducible refine (FRc.out _ (by exact bB0)).mono ?_);rintro e w3 ⟨rfl,hb3⟩) | fail)
    have G0 : Box w3 w.heap.size 30 #[.int .i64 bx,.int .i64 bY,.int .i64 sl,.slice AL L.length cL,.int .i64 fx,.int .i64 fX,.int .i64 fy,.int .i64 fY,.slice AB B.length cB]:=by exact bX1 hb3
    have G1 : Box w3 (w.heap.size + 1) 33 #[.int .i64 ps,.slice AQ Q.length cQ]:=by exact bX1 hb3
    have G2 : Below w.heap.size w w3:=by exact bB1 hb3
    clear hb3
    go_wp2
    go_loopw [9] (fun j wr => ∃ i : Nat,j = .int .i64 i ∧ i ≤ xs.length ∧ Hid (ffE ff i (xs.length - i) = RF) ∧ Hid (∀ k,k < i → ff k = 0) ∧ Box wr w.heap.size 30 #[.int .i64 bx,.int .i64 bY,.int .i64 sl,.slice AL L.length cL,.int .i64 fx,.int .i64 fX,.int .i64 fy,.int .i64 fY,.slice AB B.length cB] ∧ Box wr (w.heap.size + 1) 33 #[.int .i64 ps,.slice AQ Q.length cQ] ∧ Below w.heap.size w wr) (fun j _ => xs.length - (intOf j).toNat)
    case atStart => exact ⟨0,rfl,Nat.zero_le _,HRF.out,fun k h => absurd h (Nat.not_lt_zero _),G0,G1,G2⟩
    case round =>
      obtain ⟨i,rfl,hi,hR,hK,hP,hO,hB⟩:=hrel
      clear G0 G1 G2
      by_cases hlt : i < xs.length
      · obtain ⟨x,hx⟩ : ∃ x,xs[i]? = some x:=⟨_,List.getElem?_eq_getElem hlt⟩
        have hWr:=HX.out.below hB
        obtain ⟨gR,oR,rfl,lR,z0,z1,z2⟩:=rcCells hWr hx
        have hxq:=hWr.el x (List.mem_of_getElem? hx)
        have hxl:=hWr.ln x (List.mem_of_getElem? hx)
        have hxm:=HM.out x (List.mem_of_getElem? hx)
        have hyi : (xs.map pmR)[i]? = some (pmR x):=by rw [List.getElem?_map,hx];rfl
        have hzr:=HZ.out i _ hyi
        have hat:=HA.out i _ hyi
        obtain ⟨⟨⟨x1,xQ⟩,⟨AX,cX⟩⟩,xm⟩:=x
        have hzr2 : ff i = 0 ↔ ownE sc (x1,xQ) = 0 ∧ (i = 0 ∨ befS ((xs.map pmR).getD (i - 1) pm0).1 (x1,xQ) = true) ∧ freeP sc (x1,xQ) = true ∧ 0 ≤ xm ∧ (xm = 0 ↔ (x1,xQ) = (ps,Q)):=hzr
        have hat2 : ff i = fstE [ownE sc (x1,xQ),unl (decide (i = 0) || befS ((xs.map pmR).getD (i - 1) pm0).1 (x1,xQ)) 9,unl (freeP sc (x1,xQ)) 17,unl (decide (0 ≤ xm) && (decide (xm = 0) == decide ((x1,xQ) = (ps,Q)))) 2]:=hat
        have HZi:=Lib.hid hzr2
        have HAi:=Lib.hid hat2
        have HXm:=Lib.hid hxm
        dsimp only at z0 z1 z2 hxq hxl
        clear hzr hat hzr2 hat2 hxm hyi hWr
        have hR':=Lib.hid hR.out
        clear hR
        have zz0:=hP.cell 0;have zz1:=hP.cell 1;have zz2:=hP.cell 2;have zz3:=hP.cell 3;have zz4:=hP.cell 4;have zz5:=hP.cell 5;have zz6:=hP.cell 6;have zz7:=hP.cell 7;have zz8:=hP.cell 8;have zzl:=hP.lt
        simp at zz0 zz1 zz2 zz3 zz4 zz5 zz6 zz7 zz8
        have i0 : 0 ≤ (i : Int):=by omega
        have i1 : (i : Int) < (xs.length : Int):=by omega
        go_upto_region 8 with fail
        obtain ⟨W5,hW5⟩ : ∃ W5 : World,W5 = wr.alloc (.cells #[.int .i64 x1,.slice AX xQ.length cX,.int .i64 xm] 98):=⟨_,rfl⟩
        have hN5 : Box W5 wr.heap.size 98 #[.int .i64 x1,.slice AX xQ.length cX,.int .i64 xm]:=by rw [hW5];exact bX0
        have hP5 : Box W5 w.heap.size 30 #[.int .i64 bx,.int .i64 bY,.int .i64 sl,.slice AL L.length cL,.int .i64 fx,.int .i64 fX,.int .i64 fy,.int .i64 fY,.slice AB B.length cB]:=by rw [hW5];exact bX0
        have hO5 : Box W5 (w.heap.size + 1) 33 #[.int .i64 ps,.slice AQ Q.length cQ]:=by rw [hW5];exact bX0
        have hBr : Below wr.heap.size wr W5:=by rw [hW5];exact bB0
        have hB5 : Below w.heap.size w W5:=by exact bB2 hBr hB
        rw [← hW5]
        have HXQ:=Lib.hid (hxq.below hBr)
        have HXl:=Lib.hid hxl
        have HBD:=Lib.hid (fun e (h : ff i = e) (h0 : e ≠ 0) => show R1 = (i,e) from by
          have h1:=ffE_bad hlt hR'.out (by rw [h];exact h0)
          rw [h] at h1
          rw [H1'.out,h1,if_pos h0])
        clear hW5 hP hO hB hxq hxl z0 z1 z2 zz0 zz1 zz2 zz3 zz4 zz5 zz6 zz7 zz8 zzl
        have OWc:=Lib.hid (fun W (h : Below W5.heap.size W5 W) => OWd.out x1 xQ HXl.out AX cX W (HXQ.out.below h) (by exact bB2 h hB5))
        have zz0:=hP5.cell 0;have zz1:=hP5.cell 1;have zz2:=hP5.cell 2;have zz3:=hP5.cell 3;have zz4:=hP5.cell 4;have zz5:=hP5.cell 5;have zz6:=hP5.cell 6;have zz7:=hP5.cell 7;have zz8:=hP5.cell 8;have zzl:=hP5.lt
        have yy0:=hO5.cell 0;have yy1:=hO5.cell 1;have yyl:=hO5.lt
        have xx0:=hN5.cell 0;have xx1:=hN5.cell 1;have xx2:=hN5.cell 2;have xxl:=hN5.lt
        simp at zz0 zz1 zz2 zz3 zz4 zz5 zz6 zz7 zz8 yy0 yy1 xx0 xx1 xx2
        by_cases he1 : ownE sc (x1,xQ) = 0
        case neg =>
          have hf : ff i = ownE sc (x1,xQ):=by rw [HAi.out,fstE_cons,if_neg he1]
          have hr:=HBD.out _ hf he1
          have n1 : (ownE sc (x1,xQ) != 0) = true:=bneT he1
          clear hf he1
          generalize ownE sc (x1,xQ) = E at *
          subst hr
          go_wp2_with (first | (go_at_call 111;(with_reducible refine (OWc.out _ (by exact bB1 hB5)).mono ?_);rintro e w3 ⟨rfl,hb3⟩) | fail)
          go_ret2
          exact ⟨rfl,by exact bB2 hb3 hB5⟩
        case pos =>
          rw [he1] at OWc
          have hA2 : ff i = fstE [unl (decide (i = 0) || befS ((xs.map pmR).getD (i - 1) pm0).1 (x1,xQ)) 9,unl (freeP sc (x1,xQ)) 17,unl (decide (0 ≤ xm) && (decide (xm = 0) == decide ((x1,xQ) = (ps,Q)))) 2]:=by
            rw [HAi.out,fstE_cons,if_pos he1]
          have hpx:=OKd.out x1 xQ he1
          have HA2:=Lib.hid hA2
          have HE1:=Lib.hid he1
          have IFc:=Lib.hid (fun W (h : Below W5.heap.size W5 W) => IFd.out x1 xQ hpx AX cX W (HXQ.out.below h) (by exact bB2 h hB5))
          clear hA2 he1 hpx HAi
          go_upto_region 11 with (first | (go_at_call 111;(with_reducible refine (OWc.out _ (by exact bB1 hB5)).mono ?_);rintro e w3 ⟨rfl,hb3⟩) | fail)
          have hP3 : Box w3 w.heap.size 30 #[.int .i64 bx,.int .i64 bY,.int .i64 sl,.slice AL L.length cL,.int .i64 fx,.int .i64 fX,.int .i64 fy,.int .i64 fY,.slice AB B.length cB]:=by exact bX1 hb3
          have hO3 : Box w3 (w.heap.size + 1) 33 #[.int .i64 ps,.slice AQ Q.length cQ]:=by exact bX1 hb3
          have hN3 : Box w3 wr.heap.size 98 #[.int .i64 x1,.slice AX xQ.length cX,.int .i64 xm]:=by exact bX1 hb3
          have hB3 : Below w.heap.size w w3:=by exact bB2 hb3 hB5
          have HXQ3:=Lib.hid (HXQ.out.below hb3)
          have hlR : gR < w3.heap.size:=by have h1:=hb3.size;have h2:=hN3.lt;omega
          clear hb3 hB5 hP5 hO5 hN5 OWc HXQ zz0 zz1 zz2 zz3 zz4 zz5 zz6 zz7 zz8 zzl yy0 yy1 yyl xx0 xx1 xx2 xxl lR
          have lR:=hlR
          have zz0:=hP3.cell 0;have zz1:=hP3.cell 1;have zz2:=hP3.cell 2;have zz3:=hP3.cell 3;have zz4:=hP3.cell 4;have zz5:=hP3.cell 5;have zz6:=hP3.cell 6;have zz7:=hP3.cell 7;have zz8:=hP3.cell 8;have zzl:=hP3.lt
          have yy0:=hO3.cell 0;have yy1:=hO3.cell 1;have yyl:=hO3.lt
          have xx0:=hN3.cell 0;have xx1:=hN3.cell 1;have xx2:=hN3.cell 2;have xxl:=hN3.lt
          simp at zz0 zz1 zz2 zz3 zz4 zz5 zz6 zz7 zz8 yy0 yy1 xx0 xx1 xx2
          obtain ⟨b1,hb1⟩ : ∃ b1,(decide (i = 0) || befS ((xs.map pmR).getD (i - 1) pm0).1 (x1,xQ)) = b1:=⟨_,rfl⟩
          rw [hb1] at HA2
          have HB1:=Lib.hid hb1
          clear hb1
          go_cut [54] from 41 to 54 (fun s54 wx => s54 = .bool (!b1) ∧ Below w3.heap.size w3 wx)
          case first =>
            by_cases hi0 : i = 0
            · have d1 : decide ((0 : Int) < (i : Int)) = false:=decide_eq_false (by omega)
              have d2 : decide (0 < i) = false:=decide_eq_false (by omega)
              have e : true = b1:=by rw [← HB1.out];simp [hi0]
              subst e
              clear hi0 HB1
              (refine region_open kR (fun R hR => ?_);refine heldR (S:=(fun w' => Below w3.heap.size w3 w')) ?_ (fun hHeld => ?_);(focus ((try dsimp only);(((first | exact bB0 | exact bB0)))));refine rgN 0 rfl ?_;refine rgN 1 rfl ?_;refine rgN 2 rfl ?_;refine tsH (i:=3) rfl (by assumption) ?_;refine tsH (i:=4) rfl (by assumption) ?_;refine tsH (i:=5) rfl (by assumption) ?_;refine tsH (i:=6) rfl (by assumption) ?_;refine tsH (i:=7) rfl (by assumption) ?_;refine tsH (i:=8) rfl (by assumption) ?_;refine tsH (i:=9) rfl (by assumption) ?_;refine tsH (i:=10) rfl (by assumption) ?_;refine tsH (i:=11) rfl (by assumption) ?_;refine tsH (i:=12) rfl (by assumption) ?_;refine rgN 13 rfl ?_;refine wpAnyH_done (Q:=fun e a w => e = Exit.normal ∧ R a w) kR ⟨rfl,hR _ _ ?_⟩ _;clear hR R)
              go_wp2_with fail
              go_meet
              exact ⟨rfl,by exact bB0⟩
            · obtain ⟨k,rfl⟩ : ∃ k,i = k + 1:=⟨i - 1,by omega⟩
              have d1 : decide ((0 : Int) < (k : Int) + 1) = true:=decide_eq_true (by omega)
              have v1 : IntKind.i64.wrap (k : Int) = k:=IntWalk.i64_in _ (by omega)
              have k0 : 0 ≤ (k : Int):=by omega
              have k1 : (k : Int) < (xs.length : Int):=by omega
              obtain ⟨y,hy⟩ : ∃ y,xs[k]? = some y:=⟨_,List.getElem?_eq_getElem (by omega)⟩
              have hWr:=HX.out.below hB3
              obtain ⟨gR',oR',e,_,y0,y1,y2⟩:=rcCells hWr hy
              cases e
              have hyq:=hWr.el y (List.mem_of_getElem? hy)
              have hyl:=hWr.ln y (List.mem_of_getElem? hy)
              have hb1:=HB1.out
              have hgy : ((xs.map pmR).getD (k + 1 - 1) pm0).1 = y.1.1:=by
                rw [Nat.add_sub_cancel,getD_of (show (xs.map pmR)[k]? = some (pmR y) from by rw [List.getElem?_map,hy];rfl)]
                rfl
              rw [hgy,decide_eq_false (Nat.succ_ne_zero k),Bool.false_or] at hb1
              clear hgy hy hWr y2 HB1
              obtain ⟨⟨⟨z1,zQ⟩,⟨AY,cY⟩⟩,ym⟩:=y
              dsimp only at y0 y1 hyq hyl hb1
              have BEc:=Lib.hid (fun W (h : Below w3.heap.size w3 W) => BEd.out z1 x1 zQ xQ hyl HXl.out AY AX cY cX W (hyq.below h) (HXQ3.out.below h))
              rw [hb1] at BEc
              clear hyq hyl hb1
              (refine region_open kR (fun R hR => ?_);refine heldR (S:=(fun w' => Below w3.heap.size w3 w')) ?_ (fun hHeld => ?_);(focus ((try dsimp only);(((first | exact bB0 | exact bB1 hb4)))));have hO:=Lib.hid (fun w' (hSw : (fun w' => Below w3.heap.size w3 w') w') => (by (try dsimp only at hSw);(have hcc:=(bcell hSw).1;have sa0:=(hcc _ 0 xxl).trans xx0;have sa1:=(hcc _ 1 xxl).trans xx1;have sb0:=(hcc _ _ lR).trans y0;have sb1:=(hcc _ _ lR).trans y1);exact And.intro sa0 (And.intro sa1 (And.intro sb0 sb1))));refine rgN 0 rfl ?_;refine rgN 1 rfl ?_;refine rgN 2 rfl ?_;refine rgN 3 rfl ?_;refine rgN 4 rfl ?_;refine rgN 5 rfl ?_;refine rgN 6 rfl ?_;refine rgN 7 rfl ?_;refine rgL 8 hO rfl ?_;refine rgN 9 rfl ?_;refine rgL 10 hO rfl ?_;refine rgC 11 rfl (fun K hK => ?_);go_simp;((go_at_call 122;(with_reducible refine (BEc.out _ (by exact bB0)).mono ?_);rintro e w4 ⟨rfl,hb4⟩));go_simp;refine hK.out _ _ ?_ (fun hHeld => ?_);(focus ((try dsimp only);(((first | exact bB1 hb4 | exact bB0)))));clear hK K;(try simp only [Act.put,pqs]);refine rgN 12 rfl ?_;refine rgN 13 rfl ?_;refine wpAnyH_done (Q:=fun e a w => e = Exit.normal ∧ R a w) kR ⟨rfl,hR _ _ ?_⟩ _;clear hR R)
              go_wp2_with fail
              go_meet
              exact ⟨rfl,by exact bB1 hb4⟩
          case rest =>
            obtain ⟨rfl,hbw⟩:=hcut
            clear zz0 zz1 zz2 zz3 zz4 zz5 zz6 zz7 zz8 zzl yy0 yy1 yyl xx0 xx1 xx2 xxl HB1
            cases b1
            · have hr:=HBD.out 9 (by rw [HA2.out];rfl) (by decide)
              subst hr
              go_wp2
              go_ret2
              exact ⟨rfl,by exact bB2 hbw hB3⟩
            · have hA3 : ff i = fstE [unl (freeP sc (x1,xQ)) 17,unl (decide (0 ≤ xm) && (decide (xm = 0) == decide ((x1,xQ) = (ps,Q)))) 2]:=HA2.out
              have IFc:=Lib.hid (fun W (h : Below wc.heap.size wc W) => IFd.out x1 xQ (OKd.out x1 xQ HE1.out) AX cX W (HXQ3.out.below (by exact bB2 h hbw)) (by exact bB3 h hbw hB3))
              have SPc:=Lib.hid (fun W (h : Below wc.heap.size wc W) => SPd.out x1 xQ HXl.out AX cX W (HXQ3.out.below (by exact bB2 h hbw)) (by exact bB3 h hbw hB3))
              have hPw : Box wc w.heap.size 30 #[.int .i64 bx,.int .i64 bY,.int .i64 sl,.slice AL L.length cL,.int .i64 fx,.int .i64 fX,.int .i64 fy,.int .i64 fY,.slice AB B.length cB]:=hP3.below hbw hP3.lt
              have hOw : Box wc (w.heap.size + 1) 33 #[.int .i64 ps,.slice AQ Q.length cQ]:=hO3.below hbw hO3.lt
              have hNw : Box wc wr.heap.size 98 #[.int .i64 x1,.slice AX xQ.length cX,.int .i64 xm]:=hN3.below hbw hN3.lt
              have hBw : Below w.heap.size w wc:=by exact bB2 hbw hB3
              clear hP3 hO3 hN3 hB3 hbw HXQ3 HA2
              have zz0:=hPw.cell 0;have zz1:=hPw.cell 1;have zz2:=hPw.cell 2;have zz3:=hPw.cell 3;have zz4:=hPw.cell 4;have zz5:=hPw.cell 5;have zz6:=hPw.cell 6;have zz7:=hPw.cell 7;have zz8:=hPw.cell 8;have zzl:=hPw.lt
              have yy0:=hOw.cell 0;have yy1:=hOw.cell 1;have yyl:=hOw.lt
              have xx0:=hNw.cell 0;have xx1:=hNw.cell 1;have xx2:=hNw.cell 2;have xxl:=hNw.lt
              simp at zz0 zz1 zz2 zz3 zz4 zz5 zz6 zz7 zz8 yy0 yy1 xx0 xx1 xx2
              generalize freeP sc (x1,xQ) = f1 at *
              generalize decide ((x1,xQ) = (ps,Q)) = sp at *
              cases f1
              · have hr:=HBD.out 17 (by rw [hA3];rfl) (by decide)
                subst hr
                clear hA3
                go_wp2_with (first | (go_at_call 64;(with_reducible refine (IFc.out _ (by exact bB0)).mono ?_);rintro e w4 ⟨rfl,hb4⟩) | fail)
                go_ret2
                exact ⟨rfl,by exact bB2 hb4 hBw⟩
              · have hA4 : ff i = fstE [unl (decide (0 ≤ xm) && (decide (xm = 0) == sp)) 2]:=hA3
                obtain ⟨b2,hb2⟩ : ∃ b2,(decide (0 ≤ xm) && (decide (xm = 0) == sp)) = b2:=⟨_,rfl⟩
                rw [hb2] at hA4
                have HA4:=Lib.hid hA4
                have HB2:=Lib.hid hb2
                clear hb2 hA4 hA3
                go_upto_region 15 with (first | (go_at_call 64;(with_reducible refine (IFc.out _ (by exact bB0)).mono ?_);rintro e w4 ⟨rfl,hb4⟩) | fail)
                go_cut [74] from 62 to 74 (fun s74 wx => s74 = .bool (!b2) ∧ Below wc.heap.size wc wx)
                case first =>
                  by_cases hx0 : xm < 0
                  · have d1 : decide (xm < 0) = true:=decide_eq_true hx0
                    have e : false = b2:=by rw [← HB2.out,decide_eq_false (by omega)];rfl
                    subst e
                    clear HB2
                    (refine region_open kR (fun R hR => ?_);refine heldR (S:=(fun w' => Below wc.heap.size wc w')) ?_ (fun hHeld => ?_);(focus ((try dsimp only);(((first | exact bB0 | exact bB1 hb4)))));refine rgN 0 rfl ?_;refine rgT 1 ?_ rfl (fun w' hSw => ?_) ?_;rotate_left;(focus ((try dsimp only at hSw);(have hcc:=(bcell hSw).1;have sa0:=(hcc _ 0 xxl).trans xx0;have sa1:=(hcc _ 1 xxl).trans xx1;have sa2:=(hcc _ 2 xxl).trans xx2);go_simp;(try with_reducible rfl)));(try simp only [Act.put,pqs]);refine rgN 2 rfl ?_;refine rgN 3 rfl ?_;refine tsH (i:=4) rfl (by assumption) ?_;refine tsH (i:=5) rfl (by assumption) ?_;refine tsH (i:=6) rfl (by assumption) ?_;refine tsH (i:=7) rfl (by assumption) ?_;refine tsH (i:=8) rfl (by assumption) ?_;refine tsH (i:=9) rfl (by assumption) ?_;refine tsH (i:=10) rfl (by assumption) ?_;refine tsH (i:=11) rfl (by assumption) ?_;refine rgN 12 rfl ?_;refine wpAnyH_done (Q:=fun e a w => e = Exit.normal ∧ R a w) kR ⟨rfl,hR _ _ ?_⟩ _;clear hR R)
                    go_wp2_with fail
                    go_meet
                    exact ⟨rfl,by exact bB1 hb4⟩
                  · have d1 : decide (xm < 0) = false:=decide_eq_false hx0
                    have e : ((xm == 0) == sp) = b2:=by
                      rw [← HB2.out,decide_eq_true (by omega : 0 ≤ xm),Bool.true_and]
                      by_cases h : xm = 0 <;> cases sp <;> simp [h]
                    have HE:=Lib.hid e
                    clear e hx0
                    (refine region_open kR (fun R hR => ?_);refine heldR (S:=(fun w' => Below wc.heap.size wc w')) ?_ (fun hHeld => ?_);(focus ((try dsimp only);(((first | exact bB0 | exact bB1 hb6 | exact bB1 hb4 | exact bB2 hb6 hb4)))));have hO:=Lib.hid (fun w' (hSw : (fun w' => Below wc.heap.size wc w') w') => (by (try dsimp only at hSw);(have hcc:=(bcell hSw).1;have sa0:=(hcc _ 0 xxl).trans xx0;have sa1:=(hcc _ 1 xxl).trans xx1;have sa2:=(hcc _ 2 xxl).trans xx2;have sb0:=(hcc _ 0 yyl).trans yy0;have sb1:=(hcc _ 1 yyl).trans yy1);exact And.intro sa0 (And.intro sa1 (And.intro sa2 (And.intro sb0 sb1)))));refine rgN 0 rfl ?_;refine rgL 1 hO rfl ?_;refine rgN 2 rfl ?_;refine rgN 3 rfl ?_;refine rgN 4 rfl ?_;refine rgL 5 hO rfl ?_;refine rgN 6 rfl ?_;refine rgN 7 rfl ?_;refine rgL 8 hO rfl ?_;refine rgL 9 hO rfl ?_;refine rgC 10 rfl (fun K hK => ?_);go_simp;((go_at_call 21;(with_reducible refine (SPc.out _ (by exact bB1 hb4)).mono ?_);rintro e w6 ⟨rfl,hb6⟩));go_simp;refine hK.out _ _ ?_ (fun hHeld => ?_);(focus ((try dsimp only);(((first | exact bB2 hb6 hb4 | exact bB1 hb4 | exact bB1 hb6 | exact bB0)))));clear hK K;(try simp only [Act.put,pqs]);refine rgN 11 rfl ?_;refine rgN 12 rfl ?_;refine wpAnyH_done (Q:=fun e a w => e = Exit.normal ∧ R a w) kR ⟨rfl,hR _ _ ?_⟩ _;clear hR R)
                    go_wp2_with fail
                    go_meet
                    exact ⟨by rw [HE.out],by exact bB2 hb6 hb4⟩
                case rest =>
                  obtain ⟨rfl,hbw⟩:=hcut
                  clear zz0 zz1 zz2 zz3 zz4 zz5 zz6 zz7 zz8 yy0 yy1 xx0 xx1 xx2 HB2
                  cases b2
                  · have hr:=HBD.out 2 (by rw [HA4.out];rfl) (by decide)
                    subst hr
                    go_wp2
                    go_ret2
                    exact ⟨rfl,by exact bB2 hbw hBw⟩
                  · have hf : ff i = 0:=by rw [HA4.out];rfl
                    have hR2:=Lib.hid (ffE_good hlt hR'.out hf)
                    have hK2:=Lib.hid (fun k (h : k < i + 1) => show ff k = 0 from by
                      by_cases e : k = i
                      · rw [e];exact hf
                      · exact hK.out k (by omega))
                    clear hf
                    go_wp2
                    go_roundw
                    case rel => exact ⟨i + 1,by go_num,by omega,hR2.out,hK2.out,hPw.below hbw hPw.lt,hOw.below hbw hOw.lt,by exact bB2 hbw hBw⟩
                    case measure => simp [intOf];omega
      · have e : i = xs.length:=by omega
        subst e
        have hRF : RF = (0,0):=by
          have:=hR.out
          rw [Nat.sub_self] at this
          exact this.symm
        have hR1 : R1 = R2:=by rw [H1'.out,hRF];rfl
        subst hR1
        clear hR H1' hRF HRF
        have MOc:=Lib.hid (fun W (h : Below w.heap.size w W) => MOd.out ps Q AQ cQ W hQ (HQ.out.below h) h)
        have HMV:=Lib.hid (fun q => mvoP_rng (l:=xs.map pmR) (q:=q) (a:=-9223372036854775808) (b:=9223372036854775807) (fun y hy => by obtain ⟨x,hx,rfl⟩:=List.mem_map.1 hy;exact HM.out x hx) (by decide) (by decide))
        have HXB:=Lib.hid (fun x hx => (HM.out x hx).2)
        clear HM
        generalize hmo : mvoP (xs.map pmR) = mo at *
        clear hmo
        have yy0:=hO.cell 0;have yy1:=hO.cell 1;have yyl:=hO.lt
        simp at yy0 yy1
        by_cases hm0 : mo (ps,Q) < 0
        · have d1 : decide (mo (ps,Q) < 0) = true:=decide_eq_true hm0
          have hr : R1 = (0,6):=by rw [H2.out,if_pos hm0]
          subst hr
          clear H2 hm0
          generalize mo (ps,Q) = m0 at *
          go_wp2_with (first | (go_at_call 123;(with_reducible refine (MOc.out _ (by exact bB1 hB)).mono ?_);rintro e w3 ⟨rfl,hb3⟩) | fail)
          go_ret2
          exact ⟨rfl,by exact bB2 hb3 hB⟩
        · have d1 : decide (mo (ps,Q) < 0) = false:=decide_eq_false hm0
          have hr : ffE gg 0 (xs.length - 0) = R1:=by rw [H2.out,if_neg hm0];rfl
          have HR1:=Lib.hid hr
          clear H2 hm0 hr
          generalize mo (ps,Q) = m0 at *
          go_upto_region 19 with (first | (go_at_call 123;(with_reducible refine (MOc.out _ (by exact bB1 hB)).mono ?_);rintro e w3 ⟨rfl,hb3⟩) | fail)
          have G0 : Box w3 w.heap.size 30 #[.int .i64 bx,.int .i64 bY,.int .i64 sl,.slice AL L.length cL,.int .i64 fx,.int .i64 fX,.int .i64 fy,.int .i64 fY,.slice AB B.length cB]:=hP.below (by exact bB1 hb3) hP.lt
          have G1 : Box w3 (w.heap.size + 1) 33 #[.int .i64 ps,.slice AQ Q.length cQ]:=hO.below (by exact bB1 hb3) hO.lt
          have G2 : Below w.heap.size w w3:=by exact bB2 hb3 hB
          clear hb3 hP hO hB MOc yy0 yy1 yyl
          go_wp2
          go_loopw [12] (fun j wr => ∃ i : Nat,j = .int .i64 i ∧ i ≤ xs.length ∧ Hid (ffE gg i (xs.length - i) = R1) ∧ Box wr w.heap.size 30 #[.int .i64 bx,.int .i64 bY,.int .i64 sl,.slice AL L.length cL,.int .i64 fx,.int .i64 fX,.int .i64 fy,.int .i64 fY,.slice AB B.length cB] ∧ Box wr (w.heap.size + 1) 33 #[.int .i64 ps,.slice AQ Q.length cQ] ∧ Below w.heap.size w wr) (fun j _ => xs.length - (intOf j).toNat)
          case atStart => exact ⟨0,rfl,Nat.zero_le _,HR1.out,G0,G1,G2⟩
          case round =>
            obtain ⟨i,rfl,hi,hR,hP,hO,hB⟩:=hrel
            clear G0 G1 G2
            by_cases hlt : i < xs.length
            · obtain ⟨x,hx⟩ : ∃ x,xs[i]? = some x:=⟨_,List.getElem?_eq_getElem hlt⟩
              have hWr:=HX.out.below hB
              obtain ⟨gR,oR,rfl,lR,z0,z1,z2⟩:=rcCells hWr hx
              have hxq:=hWr.el x (List.mem_of_getElem? hx)
              have hxl:=hWr.ln x (List.mem_of_getElem? hx)
              have hyi : (xs.map pmR)[i]? = some (pmR x):=by rw [List.getElem?_map,hx];rfl
              have hzr:=(HZ.out i _ hyi).1 (hK.out i hlt)
              have hgi:=HG.out i _ hyi
              obtain ⟨⟨⟨x1,xQ⟩,⟨AX,cX⟩⟩,xm⟩:=x
              have hpx : POk sc (x1,xQ):=OKd.out x1 xQ hzr.1
              have hxm : 0 ≤ xm:=hzr.2.2.2.1
              have hgi2 : gg i = crG mo xm (mvd (x1,xQ)) (mvs sc (x1,xQ)) (decide ((x1,xQ) = (ps,Q))):=hgi
              dsimp only at z0 z1 z2 hxq hxl
              have HXm:=Lib.hid hxm
              have HGi:=Lib.hid hgi2
              have HBD:=Lib.hid (fun e (h : gg i = e) (h0 : e ≠ 0) => show R1 = (i,e) from by
                have h1:=ffE_bad hlt hR.out (by rw [h];exact h0)
                rw [h] at h1
                exact h1)
              have HNX:=Lib.hid (fun (h : gg i = 0) => ffE_good hlt hR.out h)
              have hxmb:=(show xm ≤ 9223372036854775807 from by
                have:=HXB.out _ (List.mem_of_getElem? hx)
                exact this)
              have MSc:=Lib.hid (fun W (h : Below wr.heap.size wr W) => MSd.out x1 xQ hpx AX cX W (by exact bB2 h hB) (hxq.below h))
              have RMe:=Lib.hid (fun (mj mb : Int) (hm : (mj,mb) ∈ mvs sc (x1,xQ)) W (h : Below wr.heap.size wr W) => RMd.out x1 xQ hpx mj mb hm AX cX W (hxq.below h))
              have HQL:=Lib.hid (fun m => HMQ.out (x1,xQ) hpx m)
              have SPc:=Lib.hid (fun W (h : Below wr.heap.size wr W) => SPd.out x1 xQ hxl AX cX W (hxq.below h) (by exact bB2 h hB))
              have HLM:=Lib.hid (HML.out (x1,xQ))
              clear hzr hgi hgi2 hyi hWr hR hx hxq hxl hpx hxm
              generalize mvs sc (x1,xQ) = M at *
              generalize decide ((x1,xQ) = (ps,Q)) = b0 at *
              generalize hnx : mvd (x1,xQ) = nx at *
              clear hnx
              generalize hG : gg i = G at *
              clear hG
              have zz0:=hP.cell 0;have zz1:=hP.cell 1;have zz2:=hP.cell 2;have zz3:=hP.cell 3;have zz4:=hP.cell 4;have zz5:=hP.cell 5;have zz6:=hP.cell 6;have zz7:=hP.cell 7;have zz8:=hP.cell 8;have zzl:=hP.lt
              have yy0:=hO.cell 0;have yy1:=hO.cell 1;have yyl:=hO.lt
              simp at zz0 zz1 zz2 zz3 zz4 zz5 zz6 zz7 zz8 yy0 yy1
              have i0 : 0 ≤ (i : Int):=by omega
              have i1 : (i : Int) < (xs.length : Int):=by omega
              have lM:=HLM.out
              go_upto_region 22 with fail
              go_cut [13] from 86 to 92 (fun s13 wx => ∃ AM cM V,s13 = .slice AM M.length cM ∧ wx.ownsRow V 84 2 (.slice AM M.length cM) M.length (M.flatMap mvV) ∧ Below wr.heap.size wr wx)
              case first =>
                (refine region_open kR (fun R hR => ?_);refine heldR (S:=(fun w' => Below wr.heap.size wr w')) ?_ (fun hHeld => ?_);(focus ((try dsimp only);(((first | exact bB0 | exact bB1 hb6)))));have hO:=Lib.hid (fun w' (hSw : (fun w' => Below wr.heap.size wr w') w') => (by (try dsimp only at hSw);(have hcc:=(bcell hSw).1;have sa0:=(hcc _ 0 zzl).trans zz0;have sa1:=(hcc _ 1 zzl).trans zz1;have sa2:=(hcc _ 2 zzl).trans zz2;have sa3:=(hcc _ 3 zzl).trans zz3;have sa4:=(hcc _ 4 zzl).trans zz4;have sa5:=(hcc _ 5 zzl).trans zz5;have sa6:=(hcc _ 6 zzl).trans zz6;have sa7:=(hcc _ 7 zzl).trans zz7;have sa8:=(hcc _ 8 zzl).trans zz8;have sb0:=(hcc _ _ lR).trans z0;have sb1:=(hcc _ _ lR).trans z1);exact And.intro sa0 (And.intro sa1 (And.intro sa2 (And.intro sa3 (And.intro sa4 (And.intro sa5 (And.intro sa6 (And.intro sa7 (And.intro sa8 (And.intro sb0 sb1)))))))))));refine rgL 0 hO rfl ?_;refine rgN 1 rfl ?_;refine rgN 2 rfl ?_;refine rgN 3 rfl ?_;refine rgN 4 rfl ?_;refine rgL 5 hO rfl ?_;refine rgC 6 rfl (fun K hK => ?_);go_simp;((go_at_call 49;(with_reducible refine (MSc.out _ (by exact bB0)).mono ?_);rintro e w6 hE6;obtain ⟨AM,cM,rfl,hoM,hb6⟩:=hE6));go_simp;refine hK.out _ _ ?_ (fun hHeld => ?_);(focus ((try dsimp only);(((first | exact bB1 hb6 | exact bB0)))));clear hK K;(try simp only [Act.put,pqs]);refine rgN 7 rfl ?_;refine wpAnyH_done (Q:=fun e a w => e = Exit.normal ∧ R a w) kR ⟨rfl,hR _ _ ?_⟩ _;clear hR R)
                go_wp2_with fail
                go_meet
                exact ⟨AM,cM,_,rfl,own_below hoM (by exact bB0),by exact bB1 hb6⟩
              case rest =>
                obtain ⟨AM,cM,V,rfl,hM,hbw⟩:=hcut
                clear zz0 zz1 zz2 zz3 zz4 zz5 zz6 zz7 zz8
                go_upto_region 23 with fail
                go_cut [14] from 93 to 99 (fun s14 wx => s14 = .bool b0 ∧ Below wr.heap.size wr wx ∧ Below wc.heap.size wc wx)
                case first =>
                  (refine region_open kR (fun R hR => ?_);refine heldR (S:=(fun w' => Below wr.heap.size wr w')) ?_ (fun hHeld => ?_);(focus ((try dsimp only);(((first | exact bB0 | exact bB1 hb6 | exact bB1 hbw | exact bB2 hb6 hbw)))));have hO:=Lib.hid (fun w' (hSw : (fun w' => Below wr.heap.size wr w') w') => (by (try dsimp only at hSw);(have hcc:=(bcell hSw).1;have sa0:=(hcc _ 0 yyl).trans yy0;have sa1:=(hcc _ 1 yyl).trans yy1;have sb0:=(hcc _ _ lR).trans z0;have sb1:=(hcc _ _ lR).trans z1);exact And.intro sa0 (And.intro sa1 (And.intro sb0 sb1))));refine rgN 0 rfl ?_;refine rgN 1 rfl ?_;refine rgN 2 rfl ?_;refine rgN 3 rfl ?_;refine rgL 4 hO rfl ?_;refine rgL 5 hO rfl ?_;refine rgC 6 rfl (fun K hK => ?_);go_simp;((go_at_call 21;(with_reducible refine (SPc.out _ (by exact bB1 hbw)).mono ?_);rintro e w6 ⟨rfl,hb6⟩));go_simp;refine hK.out _ _ ?_ (fun hHeld => ?_);(focus ((try dsimp only);(((first | exact bB2 hb6 hbw | exact bB1 hbw | exact bB1 hb6 | exact bB0)))));clear hK K;(try simp only [Act.put,pqs]);refine rgN 7 rfl ?_;refine wpAnyH_done (Q:=fun e a w => e = Exit.normal ∧ R a w) kR ⟨rfl,hR _ _ ?_⟩ _;clear hR R)
                  go_wp2_with fail
                  go_meet
                  exact ⟨rfl,by exact bB2 hb6 hbw,by exact bB1 hb6⟩
                case rest =>
                  obtain ⟨rfl,hbr,hbc⟩:=hcut
                  have hM5:=own_below hM hbc
                  have hP5:=hP.below hbr hP.lt
                  have hO5:=hO.below hbr hO.lt
                  have hB5 : Below w.heap.size w wc:=by exact bB2 hbr hB
                  have z05:=((bcell hbr).1 _ _ lR).trans z0
                  have z15:=((bcell hbr).1 _ _ lR).trans z1
                  have z25:=((bcell hbr).1 _ _ lR).trans z2
                  have lR5 : gR < wc.heap.size:=by have:=hbr.size;omega
                  have RM5:=Lib.hid (fun (mj mb : Int) (hm : (mj,mb) ∈ M) W (h : Below wc.heap.size wc W) => RMe.out mj mb hm W (by exact bB2 h hbr))
                  clear hM hP hO hB hbr hbc hbw MSc SPc RMe yy0 yy1 yyl zzl z0 z1 z2 lR
                  have z0:=z05;have z1:=z15;have z2:=z25;have lR:=lR5
                  clear z05 z15 z25 lR5
                  generalize wc = W5 at *
                  go_wp2
                  go_loopw [14,15] (fun b j wr => ∃ (bb : Bool) (k : Nat),b = .bool bb ∧ j = .int .i64 k ∧ k ≤ M.length ∧ Hid (crG mo xm nx (M.drop k) bb = G) ∧ Below W5.heap.size W5 wr) (fun _ j _ => M.length - (intOf j).toNat)
                  case atStart => exact ⟨b0,0,rfl,rfl,Nat.zero_le _,HGi.out.symm,Below.refl _ _⟩
                  case round =>
                    obtain ⟨bb,k,rfl,rfl,hk,hC,hb⟩:=hrel
                    by_cases hk2 : k < M.length
                    · obtain ⟨m,hm⟩ : ∃ m,M[k]? = some m:=⟨_,List.getElem?_eq_getElem hk2⟩
                      obtain ⟨bM,oM,rfl,lMc,m0,m1⟩:=mv_cells (slv_own (by decide) hM5) hm
                      obtain ⟨mj,mb⟩:=m
                      have hC2:=hC.out
                      rw [show M.drop k = (mj,mb) :: M.drop (k + 1) from by
                        obtain ⟨_,e⟩:=List.getElem?_eq_some_iff.1 hm
                        rw [List.drop_eq_getElem_cons hk2,e]] at hC2
                      have RMc:=Lib.hid (fun W (h : Below W5.heap.size W5 W) => RM5.out mj mb (List.mem_of_getElem? hm) W h)
                      have hql:=HQL.out (mj,mb)
                      have hnb:=HMV.out (nx (mj,mb))
                      have hc1 : mo (nx (mj,mb)) < 0 → G = 21:=fun h => by rw [← hC2];exact crG_open h
                      have hc2 : ¬ mo (nx (mj,mb)) < 0 → mo (nx (mj,mb)) - 1 > xm → G = 19:=fun h h2 => by rw [← hC2];exact crG_proof h h2
                      have hc3 : ¬ mo (nx (mj,mb)) < 0 → ¬ mo (nx (mj,mb)) - 1 > xm → crG mo xm nx (M.drop (k + 1)) (bb || decide (mo (nx (mj,mb)) = xm - 1)) = G:=fun h h2 => by rw [← hC2];exact (crG_next h h2).symm
                      have HC1:=Lib.hid hc1
                      have HC2:=Lib.hid hc2
                      have HC3:=Lib.hid hc3
                      clear hc1 hc2 hc3 hC hC2 hm
                      generalize hP1 : nx (mj,mb) = P1 at *
                      clear hP1
                      obtain ⟨q1,q2⟩:=P1
                      dsimp only at hql
                      have MOc:=Lib.hid (fun D d W (hv : SlI W D q2) (h : Below W5.heap.size W5 W) => MOd.out q1 q2 D d W hql hv (by exact bB2 h hB5))
                      have HQ2:=Lib.hid hql
                      clear hql
                      generalize mo (q1,q2) = n at *
                      have k0 : 0 ≤ (k : Int):=by omega
                      have k1 : (k : Int) < (M.length : Int):=by omega
                      go_upto_region 27 with fail
                      go_cut [16] from 106 to 117 (fun s16 wx => s16 = .int .i64 n ∧ Below W5.heap.size W5 wx)
                      case first =>
                        (refine region_open kR (fun R hR => ?_);refine heldR (S:=(fun w' => Below W5.heap.size W5 w')) ?_ (fun hHeld => ?_);(focus ((try dsimp only);(((first | exact bB0 | exact bB1 hb | exact bB2 hb hb6 | exact bB3 hb7 hb6 hb)))));have hO:=Lib.hid (fun w' (hSw : (fun w' => Below W5.heap.size W5 w') w') => (by (try dsimp only at hSw);(have hcc:=(bcell hSw).1;have sb0:=(hcc _ _ lR).trans z0;have sb1:=(hcc _ _ lR).trans z1;have sc0:=(hcc _ _ lMc).trans m0;have sc1:=(hcc _ _ lMc).trans m1);exact And.intro sb0 (And.intro sb1 (And.intro sc0 sc1))));refine rgN 0 rfl ?_;refine rgN 1 rfl ?_;refine rgN 2 rfl ?_;refine rgN 3 rfl ?_;refine rgN 4 rfl ?_;refine rgL 5 hO rfl ?_;refine rgN 6 rfl ?_;refine rgN 7 rfl ?_;refine rgN 8 rfl ?_;refine rgL 9 hO rfl ?_;refine rgC 10 rfl (fun K hK => ?_);go_simp;((go_at_call 46;(with_reducible refine (RMc.out _ (by exact bB1 hb)).mono ?_);rintro e w6 hE6;obtain ⟨D,d,rfl,hv6,hf6,hb6⟩:=hE6;clear hf6));go_simp;refine hK.out _ _ ?_ (fun hHeld => ?_);(focus ((try dsimp only);(((first | exact bB3 hb7 hb6 hb | exact bB2 hb hb6 | exact bB1 hb | exact bB0)))));clear hK K;(try simp only [Act.put,pqs]);refine rgC 11 rfl (fun K hK => ?_);go_simp;((go_at_call 123;(with_reducible refine (MOc.out D d _ (hv6.below (by exact bB0)) (by exact bB2 hb6 hb)).mono ?_);rintro e w7 ⟨rfl,hb7⟩));go_simp;refine hK.out _ _ ?_ (fun hHeld => ?_);(focus ((try dsimp only);(((first | exact bB3 hb7 hb6 hb | exact bB2 hb hb6 | exact bB1 hb | exact bB0)))));clear hK K;(try simp only [Act.put,pqs]);refine rgN 12 rfl ?_;refine wpAnyH_done (Q:=fun e a w => e = Exit.normal ∧ R a w) kR ⟨rfl,hR _ _ ?_⟩ _;clear hR R)
                        go_wp2_with fail
                        go_meet
                        exact ⟨rfl,by exact bB3 hb7 hb6 hb⟩
                      case rest =>
                        obtain ⟨rfl,hbx⟩:=hcut
                        have lR' : gR < wc.heap.size:=by have:=hbx.size;omega
                        have z2':=((bcell hbx).1 _ _ lR).trans z2
                        have hxm:=HXm.out
                        by_cases hn0 : n < 0
                        · have d1 : decide (n < 0) = true:=decide_eq_true hn0
                          have hr:=HBD.out 21 (HC1.out hn0) (by decide)
                          subst hr
                          go_wp2
                          go_ret2
                          exact ⟨rfl,by exact bB2 hbx hB5⟩
                        · have d1 : decide (n < 0) = false:=decide_eq_false hn0
                          have v1 : IntKind.i64.wrap (n - 1) = n - 1:=IntWalk.i64_in _ (by omega)
                          have v2 : IntKind.i64.wrap (xm - 1) = xm - 1:=IntWalk.i64_in _ (by omega)
                          by_cases hn1 : n - 1 > xm
                          · have d2 : decide (xm < n - 1) = true:=decide_eq_true hn1
                            have hr:=HBD.out 19 (HC2.out hn0 hn1) (by decide)
                            subst hr
                            go_wp2
                            go_ret2
                            exact ⟨rfl,by exact bB2 hbx hB5⟩
                          · have d2 : decide (xm < n - 1) = false:=decide_eq_false hn1
                            have hc4:=HC3.out hn0 hn1
                            have e4 : (n == xm - 1) = decide (n = xm - 1):=rfl
                            generalize decide (n = xm - 1) = b4 at *
                            have HC4:=Lib.hid hc4
                            clear hc4 hn0 hn1 HC1 HC2 HC3
                            cases bb
                            · go_wp2
                              go_roundw
                              case rel => exact ⟨b4,k + 1,rfl,by go_num,by omega,HC4.out,hbx⟩
                              case measure => simp [intOf];omega
                            · go_wp2
                              go_roundw
                              case rel => exact ⟨true,k + 1,rfl,by go_num,by omega,HC4.out,hbx⟩
                              case measure => simp [intOf];omega
                    · have e : k = M.length:=by omega
                      subst e
                      have hC2:=hC.out
                      rw [List.drop_length] at hC2
                      cases bb
                      · have hr:=HBD.out 19 (by rw [← hC2];rfl) (by decide)
                        subst hr
                        clear hC2
                        go_wp2
                        go_ret2
                        exact ⟨rfl,by exact bB2 hb hB5⟩
                      · have hN2:=Lib.hid (HNX.out (by rw [← hC2];rfl))
                        clear hC2
                        go_wp2
                        go_roundw
                        case rel => exact ⟨i + 1,by go_num,by omega,hN2.out,hP5.below hb hP5.lt,hO5.below hb hO5.lt,by exact bB2 hb hB5⟩
                        case measure => simp [intOf];omega
            · have e : i = xs.length:=by omega
              subst e
              have hR1 : R1 = (0,0):=by
                have:=hR.out
                rw [Nat.sub_self] at this
                exact this.symm
              subst hR1
              go_wp2
              go_ret2
              exact ⟨rfl,by exact bB1 hB⟩
end Go.Proofs.YtpnfgmgoafgcbaaGreat

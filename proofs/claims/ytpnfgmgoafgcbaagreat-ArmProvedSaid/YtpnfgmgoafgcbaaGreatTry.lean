/-
  The walk of try (chapter 6): what a move leads to, and whether it may be made.
-/
import Derived.Test.YtpnfgmgoafgcbaaGreatA6
import Derived.Test.YtpnfgmgoafgcbaaGreatFree
set_option linter.all false
set_option linter.unusedVariables false
namespace Go.Proofs.YtpnfgmgoafgcbaaGreat
open Go.RowKit Go.Shelf
attribute [local go_sem] Oper.semAt_some
/-- What try hands back. -/
def TrEnd (bx bY sl fx fX fy fY : Int) (nL nB : Nat) (AL AB : Option Addr) (cL cB : Nat) (p : Ps) (ok : Bool) (w : World) (e : Ending) (w' : World) : Prop :=
  ∃ gQ cap,e = .returned (.tuple #[.agg #[.int .i64 bx,.int .i64 bY,.int .i64 sl,.slice AL nL cL,.int .i64 fx,.int .i64 fX,.int .i64 fy,.int .i64 fY,.slice AB nB cB,.int .i64 p.1,.slice (some ⟨gQ,0,none⟩) p.2.length cap],.bool ok]) ∧ w.heap.size ≤ gQ ∧ SlI w' (some ⟨gQ,0,none⟩) p.2 ∧ (∃ cs,Box w' gQ 3 cs) ∧ Below w.heap.size w w'
set_option maxHeartbeats 4000000 in
set_option maxRecDepth 100000 in
theorem try_c (bx bY sl fx fX fy fY ps mj mb : Int) (L : List Lk) (B : List Bx) (Q : List Int) (AL AB AQ : Option Addr) (cL cB cQ : Nat) (w : World) (hS : SOk (⟨bx,bY,sl,L,(fx,fX,fy,fY),B⟩ : Sc)) (hp : POk (⟨bx,bY,sl,L,(fx,fX,fy,fY),B⟩ : Sc) (ps,Q))
    (h1 : -1 ≤ mj ∧ mj < L.length) (h2 : -1 ≤ mb ∧ mb ≤ 1) (hs1 : SlV w AL (L.flatMap lkV)) (hs2 : SlV w AB (B.flatMap bxV)) (hs3 : SlI w AQ Q) :
    Calls Tryz.prog 87 #[.agg #[.int .i64 bx,.int .i64 bY,.int .i64 sl,.slice AL L.length cL,.int .i64 fx,.int .i64 fX,.int .i64 fy,.int .i64 fY,.slice AB B.length cB,.int .i64 ps,.slice AQ Q.length cQ],.agg #[.int .i64 mj,.int .i64 mb]] w (TrEnd bx bY sl fx fX fy fY L.length B.length AL AB cL cB (mvd (ps,Q) (mj,mb)) (mayP (⟨bx,bY,sl,L,(fx,fX,fy,fY),B⟩ : Sc) (ps,Q) (mj,mb)) w):=by
  have hnB:=hS.nB;have hbx:=hS.bx;have hbY:=hS.bY;have hlen:=hS.len;have hlk:=hS.lk
  dsimp only at hnB hbx hbY hlen hlk
  have SWc:=Lib.hid (fun W (h : Below w.heap.size w W) => sweep_c bx bY sl fx fX fy fY ps mj mb L B Q AL AB AQ cL cB cQ W hS hp h1 h2 (hs1.below h) (hs3.below h))
  have HM:=Lib.hid (show mayP (⟨bx,bY,sl,L,(fx,fX,fy,fY),B⟩ : Sc) (ps,Q) (mj,mb) = (mvdE (⟨bx,bY,sl,L,(fx,fX,fy,fY),B⟩ : Sc) (ps,Q) (mj,mb) == 0 && !tkn (⟨bx,bY,sl,L,(fx,fX,fy,fY),B⟩ : Sc) (swBx (⟨bx,bY,sl,L,(fx,fX,fy,fY),B⟩ : Sc) (ps,Q) (mj,mb)) && freeP (⟨bx,bY,sl,L,(fx,fX,fy,fY),B⟩ : Sc) (mvd (ps,Q) (mj,mb))) from rfl)
  have HW:=Lib.hid (fun h : mvdE (⟨bx,bY,sl,L,(fx,fX,fy,fY),B⟩ : Sc) (ps,Q) (mj,mb) = 0 => show (swP (⟨bx,bY,sl,L,(fx,fX,fy,fY),B⟩ : Sc) (ps,Q) (mj,mb)).1 = swBx (⟨bx,bY,sl,L,(fx,fX,fy,fY),B⟩ : Sc) (ps,Q) (mj,mb) from by unfold swP;rw [if_neg (by simpa using h)])
  have TKd:=Lib.hid (fun (s1 s2 s3 s4 : Int) W (h : Below w.heap.size w W) => isTaken_c bx bY sl fx fX fy fY ps s1 s2 s3 s4 L B Q.length AL AB AQ cL cB cQ W (by omega) (hs2.below h))
  have HOK:=Lib.hid (fun h : mvdE (⟨bx,bY,sl,L,(fx,fX,fy,fY),B⟩ : Sc) (ps,Q) (mj,mb) = 0 => mvd_ok hp h)
  have HSd:=Lib.hid hS
  have FRd:=Lib.hid (fun (P1 : Int) (P2 : List Int) (hP : POk (⟨bx,bY,sl,L,(fx,fX,fy,fY),B⟩ : Sc) (P1,P2)) => fun (A : Option Addr) (c : Nat) W (h : Below w.heap.size w W) (hs : SlI W A P2) => isFree_c bx bY sl fx fX fy fY P1 L B P2 AL AB A cL cB c W hP.len (by omega) (by omega) (by omega) (by omega) (by have:=hP.sl6 hS;dsimp only at this;omega) (fun l h => by have:=hlk l h;omega) (hP.rng hS) (hs1.below h) (hs2.below h) hs)
  clear hs1 hs2 hs3 hS hp h1 h2 hnB hbx hbY hlen hlk
  generalize (swP (⟨bx,bY,sl,L,(fx,fX,fy,fY),B⟩ : Sc) (ps,Q) (mj,mb)).1 = SB0 at *
  generalize mvdE (⟨bx,bY,sl,L,(fx,fX,fy,fY),B⟩ : Sc) (ps,Q) (mj,mb) = r at *
  generalize mvd (ps,Q) (mj,mb) = P at *
  generalize swBx (⟨bx,bY,sl,L,(fx,fX,fy,fY),B⟩ : Sc) (ps,Q) (mj,mb) = SB1 at *
  generalize mayP (⟨bx,bY,sl,L,(fx,fX,fy,fY),B⟩ : Sc) (ps,Q) (mj,mb) = R at *
  obtain ⟨P1,P2⟩:=P
  obtain ⟨s1,s2,s3,s4⟩:=SB0
  have TKc:=Lib.hid (TKd.out s1 s2 s3 s4)
  clear TKd
  have HC : (r ≠ 0 ∧ R = false) ∨ (r = 0 ∧ tkn (⟨bx,bY,sl,L,(fx,fX,fy,fY),B⟩ : Sc) (s1,s2,s3,s4) = true ∧ R = false) ∨ (r = 0 ∧ tkn (⟨bx,bY,sl,L,(fx,fX,fy,fY),B⟩ : Sc) (s1,s2,s3,s4) = false ∧ R = freeP (⟨bx,bY,sl,L,(fx,fX,fy,fY),B⟩ : Sc) (P1,P2)):=by
    by_cases hr : r = 0
    · have h1:=HM.out
      rw [← HW.out hr,hr] at h1
      cases ht : tkn (⟨bx,bY,sl,L,(fx,fX,fy,fY),B⟩ : Sc) (s1,s2,s3,s4)
      · exact .inr (.inr ⟨hr,rfl,by rw [h1,ht];simp⟩)
      · exact .inr (.inl ⟨hr,rfl,by rw [h1,ht];simp⟩)
    · exact .inl ⟨hr,by rw [HM.out];simp [hr]⟩
  clear HM HW
  generalize tkn (⟨bx,bY,sl,L,(fx,fX,fy,fY),B⟩ : Sc) (s1,s2,s3,s4) = tk at *
  go_enter Tryz.func87,Tryz.ntmps87
  go_upto_region 2 with (first | (go_at_call 115;refine (SWc.out _ (by exact bB0)).mono ?_;rintro e w2 hC;obtain ⟨gQ,capQ,rfl,hgQ,hsQ,⟨csQ,hbQ⟩,hb2⟩:=hC;have hz2 : w.heap.size + 1 + 1 < w2.heap.size:=(by have:=hb2.size;(try simp at this);omega);have hgQ' : w.heap.size + 1 + 1 < gQ:=(by (try simp at hgQ);omega);dsimp only [bxA]) | fail)
  obtain ⟨W6,hW6⟩ : ∃ W6 : World,W6 = (w2.alloc (.cells #[.int .i64 s1,.int .i64 s2,.int .i64 s3,.int .i64 s4] 27)).alloc (.cells #[.int .i64 bx,.int .i64 bY,.int .i64 sl,.slice AL L.length cL,.int .i64 fx,.int .i64 fX,.int .i64 fy,.int .i64 fY,.slice AB B.length cB,.int .i64 P1,.slice (some ⟨gQ,0,none⟩) P2.length capQ] 135):=⟨_,rfl⟩
  have GQ : SlI W6 (some ⟨gQ,0,none⟩) P2:=by rw [hW6];exact (hsQ.alloc _).alloc _
  have GB : Box W6 gQ 3 csQ:=by rw [hW6];exact (hbQ.alloc _).alloc _
  have GA : Box W6 (w2.heap.size + 1) 135 #[.int .i64 bx,.int .i64 bY,.int .i64 sl,.slice AL L.length cL,.int .i64 fx,.int .i64 fX,.int .i64 fy,.int .i64 fY,.slice AB B.length cB,.int .i64 P1,.slice (some ⟨gQ,0,none⟩) P2.length capQ]:=by rw [hW6];exact bX0
  have GBB : Box W6 w.heap.size 135 #[.int .i64 bx,.int .i64 bY,.int .i64 sl,.slice AL L.length cL,.int .i64 fx,.int .i64 fX,.int .i64 fy,.int .i64 fY,.slice AB B.length cB,.int .i64 ps,.slice AQ Q.length cQ]:=by rw [hW6];exact bX1 hb2
  have GC : Box W6 w2.heap.size 27 #[.int .i64 s1,.int .i64 s2,.int .i64 s3,.int .i64 s4]:=by rw [hW6];exact bX0
  have GZ : Box W6 (w.heap.size + 1 + 1) 135 #[.int .i64 0,.int .i64 0,.int .i64 0,.slice none 0 0,.int .i64 0,.int .i64 0,.int .i64 0,.int .i64 0,.slice none 0 0,.int .i64 0,.slice none 0 0]:=by rw [hW6];exact bX1 hb2
  have G5 : Below w.heap.size w W6:=by rw [hW6];exact bB1 hb2
  rw [← hW6]
  have hz6 : w2.heap.size + 1 < W6.heap.size:=GA.lt
  clear hW6 hsQ hbQ hb2 hgQ
  generalize hgS : w2.heap.size = gS at *
  have lQ:=GB.lt;have lA:=GA.lt;have lB:=GBB.lt;have lC:=GC.lt;have lZ:=GZ.lt
  have z0:=GZ.cell 0;have z1:=GZ.cell 1;have z2:=GZ.cell 2;have z3:=GZ.cell 3;have z4:=GZ.cell 4;have z5:=GZ.cell 5;have z6:=GZ.cell 6;have z7:=GZ.cell 7;have z8:=GZ.cell 8;have z9:=GZ.cell 9;have z10:=GZ.cell 10
  have zf:=GZ.froz
  simp at z0 z1 z2 z3 z4 z5 z6 z7 z8 z9 z10
  have n1 : ¬ gS = w.heap.size + 1 + 1:=by omega
  have n2 : ¬ w.heap.size + 1 + 1 = gS:=by omega
  have n3 : ¬ gS = w.heap.size + 1:=by omega
  have n4 : ¬ w.heap.size + 1 = gS:=by omega
  rcases HC with ⟨hr,rfl⟩ | ⟨rfl,rfl,rfl⟩ | ⟨rfl,rfl,hR⟩
  · have e1:=beqF hr
    clear hr FRd TKc HOK
    ((refine wp_region_held_drew (S:=(fun w' => Box w' (gS + 1) 135 #[.int .i64 bx,.int .i64 bY,.int .i64 sl,.slice AL L.length cL,.int .i64 fx,.int .i64 fX,.int .i64 fy,.int .i64 fY,.slice AB B.length cB,.int .i64 P1,.slice (some ⟨gQ,0,none⟩) P2.length capQ] ∧ Box w' w.heap.size 135 #[.int .i64 bx,.int .i64 bY,.int .i64 sl,.slice AL L.length cL,.int .i64 fx,.int .i64 fX,.int .i64 fy,.int .i64 fY,.slice AB B.length cB,.int .i64 ps,.slice AQ Q.length cQ] ∧ Box w' gS 27 #[.int .i64 s1,.int .i64 s2,.int .i64 s3,.int .i64 s4])) kR ?_ (fun hHeld => ?_);(focus ((try dsimp only);((refine ⟨?_, ?_, ?_⟩ <;> (first | exact bX0 | exact bX0)))));refine rgT 0 ?_ rfl (fun w' hSw => ?_) ?_;rotate_left;(focus ((try dsimp only at hSw);(obtain ⟨hSA,hSB,hSC⟩:=hSw;have sa0:=hSA.cell 0;have sa1:=hSA.cell 1;have sa2:=hSA.cell 2;have sa3:=hSA.cell 3;have sa4:=hSA.cell 4;have sa5:=hSA.cell 5;have sa6:=hSA.cell 6;have sa7:=hSA.cell 7;have sa8:=hSA.cell 8;have sa9:=hSA.cell 9;have sa10:=hSA.cell 10;have sb0:=hSB.cell 0;have sb1:=hSB.cell 1;have sb2:=hSB.cell 2;have sb3:=hSB.cell 3;have sb4:=hSB.cell 4;have sb5:=hSB.cell 5;have sb6:=hSB.cell 6;have sb7:=hSB.cell 7;have sb8:=hSB.cell 8;have sb9:=hSB.cell 9;have sb10:=hSB.cell 10;have sc0:=hSC.cell 0;have sc1:=hSC.cell 1;have sc2:=hSC.cell 2;have sc3:=hSC.cell 3;(simp at sa0 sa1 sa2 sa3 sa4 sa5 sa6 sa7 sa8 sa9 sa10 sb0 sb1 sb2 sb3 sb4 sb5 sb6 sb7 sb8 sb9 sb10 sc0 sc1 sc2 sc3));go_simp;(try with_reducible rfl)));(try simp only [Act.put,pqs]);refine rgN 1 rfl ?_;refine rgN 2 rfl ?_;refine rgN 3 rfl ?_;refine tsH (i:=4) rfl (by assumption) ?_;refine tsH (i:=5) rfl (by assumption) ?_;refine tsH (i:=6) rfl (by assumption) ?_;refine tsH (i:=7) rfl (by assumption) ?_;refine rgN 8 rfl ?_;refine rgN 9 rfl ?_;refine tsH (i:=10) rfl (by assumption) ?_;refine tsH (i:=11) rfl (by assumption) ?_;refine rgN 12 rfl ?_;refine rgC 13 rfl (fun K hK => ?_);go_simp;refine hK.out _ _ ?_ (fun hHeld => ?_);(focus ((try dsimp only);((refine ⟨?_, ?_, ?_⟩ <;> (first | exact bX0 | exact bX0)))));clear hK K;(try simp only [Act.put,pqs]);refine rgN 14 rfl ?_;refine wpAnyH_done kR ?_ _))
    all_goals go_wp2
    refine bodyPost_ret (res_c2 rfl rfl (show Box _ _ 135 #[.int .i64 bx,.int .i64 bY,.int .i64 sl,.slice AL L.length cL,.int .i64 fx,.int .i64 fX,.int .i64 fy,.int .i64 fY,.slice AB B.length cB,.int .i64 P1,.slice (some ⟨gQ,0,none⟩) P2.length capQ] from ?hE) Tryz.underlying135 rfl ta_size) rfl ⟨gQ,capQ,rfl,by omega,GQ.same GB (show Box _ gQ 3 csQ from ?hS),⟨csQ, ?hX⟩, ?hB⟩
    case hE => exact bX0
    case hS => exact bX0
    case hX => exact bX0
    case hB => exact bB1 G5
  · clear FRd HOK
    ((refine wp_region_held_drew (S:=(fun w' => Box w' (gS + 1) 135 #[.int .i64 bx,.int .i64 bY,.int .i64 sl,.slice AL L.length cL,.int .i64 fx,.int .i64 fX,.int .i64 fy,.int .i64 fY,.slice AB B.length cB,.int .i64 P1,.slice (some ⟨gQ,0,none⟩) P2.length capQ] ∧ Box w' w.heap.size 135 #[.int .i64 bx,.int .i64 bY,.int .i64 sl,.slice AL L.length cL,.int .i64 fx,.int .i64 fX,.int .i64 fy,.int .i64 fY,.slice AB B.length cB,.int .i64 ps,.slice AQ Q.length cQ] ∧ Box w' gS 27 #[.int .i64 s1,.int .i64 s2,.int .i64 s3,.int .i64 s4])) kR ?_ (fun hHeld => ?_);(focus ((try dsimp only);((refine ⟨?_, ?_, ?_⟩ <;> (first | exact bX0 | exact bX1 hb5)))));have hO:=Lib.hid (fun w' (hSw : (fun w' => Box w' (gS + 1) 135 #[.int .i64 bx,.int .i64 bY,.int .i64 sl,.slice AL L.length cL,.int .i64 fx,.int .i64 fX,.int .i64 fy,.int .i64 fY,.slice AB B.length cB,.int .i64 P1,.slice (some ⟨gQ,0,none⟩) P2.length capQ] ∧ Box w' w.heap.size 135 #[.int .i64 bx,.int .i64 bY,.int .i64 sl,.slice AL L.length cL,.int .i64 fx,.int .i64 fX,.int .i64 fy,.int .i64 fY,.slice AB B.length cB,.int .i64 ps,.slice AQ Q.length cQ] ∧ Box w' gS 27 #[.int .i64 s1,.int .i64 s2,.int .i64 s3,.int .i64 s4]) w') => (by (try dsimp only at hSw);(obtain ⟨hSA,hSB,hSC⟩:=hSw;have sa0:=hSA.cell 0;have sa1:=hSA.cell 1;have sa2:=hSA.cell 2;have sa3:=hSA.cell 3;have sa4:=hSA.cell 4;have sa5:=hSA.cell 5;have sa6:=hSA.cell 6;have sa7:=hSA.cell 7;have sa8:=hSA.cell 8;have sa9:=hSA.cell 9;have sa10:=hSA.cell 10;have sb0:=hSB.cell 0;have sb1:=hSB.cell 1;have sb2:=hSB.cell 2;have sb3:=hSB.cell 3;have sb4:=hSB.cell 4;have sb5:=hSB.cell 5;have sb6:=hSB.cell 6;have sb7:=hSB.cell 7;have sb8:=hSB.cell 8;have sb9:=hSB.cell 9;have sb10:=hSB.cell 10;have sc0:=hSC.cell 0;have sc1:=hSC.cell 1;have sc2:=hSC.cell 2;have sc3:=hSC.cell 3;(simp at sa0 sa1 sa2 sa3 sa4 sa5 sa6 sa7 sa8 sa9 sa10 sb0 sb1 sb2 sb3 sb4 sb5 sb6 sb7 sb8 sb9 sb10 sc0 sc1 sc2 sc3));exact And.intro sa0 (And.intro sa1 (And.intro sa2 (And.intro sa3 (And.intro sa4 (And.intro sa5 (And.intro sa6 (And.intro sa7 (And.intro sa8 (And.intro sa9 (And.intro sa10 (And.intro sb0 (And.intro sb1 (And.intro sb2 (And.intro sb3 (And.intro sb4 (And.intro sb5 (And.intro sb6 (And.intro sb7 (And.intro sb8 (And.intro sb9 (And.intro sb10 (And.intro sc0 (And.intro sc1 (And.intro sc2 sc3))))))))))))))))))))))))));refine rgL 0 hO rfl ?_;refine rgN 1 rfl ?_;refine rgN 2 rfl ?_;refine rgN 3 rfl ?_;refine rgL 4 hO rfl ?_;refine rgL 5 hO rfl ?_;refine rgC 6 rfl (fun K hK => ?_);go_simp;((go_at_call 147;refine (TKc.out _ (by exact bB1 G5)).mono ?_;rintro e w5 ⟨rfl,hb5⟩;have hz5 : W6.heap.size ≤ w5.heap.size:=hb5.size;have hb5Z : Box w5 (w.heap.size + 1 + 1) 135 #[.int .i64 0,.int .i64 0,.int .i64 0,.slice none 0 0,.int .i64 0,.int .i64 0,.int .i64 0,.int .i64 0,.slice none 0 0,.int .i64 0,.slice none 0 0]:=(by exact bX1 hb5);have yz0:=hb5Z.cell 0;have yz1:=hb5Z.cell 1;have yz2:=hb5Z.cell 2;have yz3:=hb5Z.cell 3;have yz4:=hb5Z.cell 4;have yz5:=hb5Z.cell 5;have yz6:=hb5Z.cell 6;have yz7:=hb5Z.cell 7;have yz8:=hb5Z.cell 8;have yz9:=hb5Z.cell 9;have yz10:=hb5Z.cell 10;have yf:=hb5Z.froz;(simp at yz0 yz1 yz2 yz3 yz4 yz5 yz6 yz7 yz8 yz9 yz10);have ylZ:=hb5Z.lt));go_simp;refine hK.out _ _ ?_ (fun hHeld => ?_);(focus ((try dsimp only);((refine ⟨?_, ?_, ?_⟩ <;> (first | exact bX1 hb5 | exact bX0)))));clear hK K;(try simp only [Act.put,pqs]);refine rgN 7 rfl ?_;refine rgN 8 rfl ?_;refine rgN 9 rfl ?_;refine tsH (i:=10) rfl (by assumption) ?_;refine tsH (i:=11) rfl (by assumption) ?_;refine rgN 12 rfl ?_;refine rgC 13 rfl (fun K hK => ?_);go_simp;refine hK.out _ _ ?_ (fun hHeld => ?_);(focus ((try dsimp only);((refine ⟨?_, ?_, ?_⟩ <;> (first | exact bX1 hb5 | exact bX0)))));clear hK K;(try simp only [Act.put,pqs]);refine rgN 14 rfl ?_;refine wpAnyH_done kR ?_ _))
    all_goals go_wp2
    refine bodyPost_ret (res_c2 rfl rfl (show Box _ _ 135 #[.int .i64 bx,.int .i64 bY,.int .i64 sl,.slice AL L.length cL,.int .i64 fx,.int .i64 fX,.int .i64 fy,.int .i64 fY,.slice AB B.length cB,.int .i64 P1,.slice (some ⟨gQ,0,none⟩) P2.length capQ] from ?hE) Tryz.underlying135 rfl ta_size) rfl ⟨gQ,capQ,rfl,by omega,GQ.same GB (show Box _ gQ 3 csQ from ?hS),⟨csQ, ?hX⟩, ?hB⟩
    case hE => exact bX0
    case hS => exact bX1 hb5
    case hX => exact bX1 hb5
    case hB => exact bB2 G5 hb5
  · have FRc:=Lib.hid (FRd.out P1 P2 (HOK.out rfl) (some ⟨gQ,0,none⟩) capQ)
    clear FRd HOK
    rw [← hR] at FRc
    clear hR
    ((refine wp_region_held_drew (S:=(fun w' => Box w' (gS + 1) 135 #[.int .i64 bx,.int .i64 bY,.int .i64 sl,.slice AL L.length cL,.int .i64 fx,.int .i64 fX,.int .i64 fy,.int .i64 fY,.slice AB B.length cB,.int .i64 P1,.slice (some ⟨gQ,0,none⟩) P2.length capQ] ∧ Box w' w.heap.size 135 #[.int .i64 bx,.int .i64 bY,.int .i64 sl,.slice AL L.length cL,.int .i64 fx,.int .i64 fX,.int .i64 fy,.int .i64 fY,.slice AB B.length cB,.int .i64 ps,.slice AQ Q.length cQ] ∧ Box w' gS 27 #[.int .i64 s1,.int .i64 s2,.int .i64 s3,.int .i64 s4])) kR ?_ (fun hHeld => ?_);(focus ((try dsimp only);((refine ⟨?_, ?_, ?_⟩ <;> (first | exact bX0 | exact bX1 hb7 | exact bX1 hb5 | exact bX2 hb5 hb7)))));have hO:=Lib.hid (fun w' (hSw : (fun w' => Box w' (gS + 1) 135 #[.int .i64 bx,.int .i64 bY,.int .i64 sl,.slice AL L.length cL,.int .i64 fx,.int .i64 fX,.int .i64 fy,.int .i64 fY,.slice AB B.length cB,.int .i64 P1,.slice (some ⟨gQ,0,none⟩) P2.length capQ] ∧ Box w' w.heap.size 135 #[.int .i64 bx,.int .i64 bY,.int .i64 sl,.slice AL L.length cL,.int .i64 fx,.int .i64 fX,.int .i64 fy,.int .i64 fY,.slice AB B.length cB,.int .i64 ps,.slice AQ Q.length cQ] ∧ Box w' gS 27 #[.int .i64 s1,.int .i64 s2,.int .i64 s3,.int .i64 s4]) w') => (by (try dsimp only at hSw);(obtain ⟨hSA,hSB,hSC⟩:=hSw;have sa0:=hSA.cell 0;have sa1:=hSA.cell 1;have sa2:=hSA.cell 2;have sa3:=hSA.cell 3;have sa4:=hSA.cell 4;have sa5:=hSA.cell 5;have sa6:=hSA.cell 6;have sa7:=hSA.cell 7;have sa8:=hSA.cell 8;have sa9:=hSA.cell 9;have sa10:=hSA.cell 10;have sb0:=hSB.cell 0;have sb1:=hSB.cell 1;have sb2:=hSB.cell 2;have sb3:=hSB.cell 3;have sb4:=hSB.cell 4;have sb5:=hSB.cell 5;have sb6:=hSB.cell 6;have sb7:=hSB.cell 7;have sb8:=hSB.cell 8;have sb9:=hSB.cell 9;have sb10:=hSB.cell 10;have sc0:=hSC.cell 0;have sc1:=hSC.cell 1;have sc2:=hSC.cell 2;have sc3:=hSC.cell 3;(simp at sa0 sa1 sa2 sa3 sa4 sa5 sa6 sa7 sa8 sa9 sa10 sb0 sb1 sb2 sb3 sb4 sb5 sb6 sb7 sb8 sb9 sb10 sc0 sc1 sc2 sc3));exact And.intro sa0 (And.intro sa1 (And.intro sa2 (And.intro sa3 (And.intro sa4 (And.intro sa5 (And.intro sa6 (And.intro sa7 (And.intro sa8 (And.intro sa9 (And.intro sa10 (And.intro sb0 (And.intro sb1 (And.intro sb2 (And.intro sb3 (And.intro sb4 (And.intro sb5 (And.intro sb6 (And.intro sb7 (And.intro sb8 (And.intro sb9 (And.intro sb10 (And.intro sc0 (And.intro sc1 (And.intro sc2 sc3))))))))))))))))))))))))));refine rgL 0 hO rfl ?_;refine rgN 1 rfl ?_;refine rgN 2 rfl ?_;refine rgN 3 rfl ?_;refine rgL 4 hO rfl ?_;refine rgL 5 hO rfl ?_;refine rgC 6 rfl (fun K hK => ?_);go_simp;((go_at_call 147;refine (TKc.out _ (by exact bB1 G5)).mono ?_;rintro e w5 ⟨rfl,hb5⟩;have hz5 : W6.heap.size ≤ w5.heap.size:=hb5.size;have hb5Z : Box w5 (w.heap.size + 1 + 1) 135 #[.int .i64 0,.int .i64 0,.int .i64 0,.slice none 0 0,.int .i64 0,.int .i64 0,.int .i64 0,.int .i64 0,.slice none 0 0,.int .i64 0,.slice none 0 0]:=(by exact bX1 hb5);have yz0:=hb5Z.cell 0;have yz1:=hb5Z.cell 1;have yz2:=hb5Z.cell 2;have yz3:=hb5Z.cell 3;have yz4:=hb5Z.cell 4;have yz5:=hb5Z.cell 5;have yz6:=hb5Z.cell 6;have yz7:=hb5Z.cell 7;have yz8:=hb5Z.cell 8;have yz9:=hb5Z.cell 9;have yz10:=hb5Z.cell 10;have yf:=hb5Z.froz;(simp at yz0 yz1 yz2 yz3 yz4 yz5 yz6 yz7 yz8 yz9 yz10);have ylZ:=hb5Z.lt));go_simp;refine hK.out _ _ ?_ (fun hHeld => ?_);(focus ((try dsimp only);((refine ⟨?_, ?_, ?_⟩ <;> (first | exact bX2 hb5 hb7 | exact bX1 hb5 | exact bX1 hb7 | exact bX0)))));clear hK K;(try simp only [Act.put,pqs]);refine rgN 7 rfl ?_;refine rgN 8 rfl ?_;refine rgN 9 rfl ?_;refine rgL 10 hO rfl ?_;refine rgC 11 rfl (fun K hK => ?_);go_simp;((go_at_call 107;refine (FRc.out _ (by exact bB2 G5 hb5) ?_).mono ?_;(focus (refine SlI.below ?_ hb5;exact GQ));rintro e w7 ⟨rfl,hb7⟩;have hz7 : w5.heap.size ≤ w7.heap.size:=hb7.size;have hb7Z : Box w7 (w.heap.size + 1 + 1) 135 #[.int .i64 0,.int .i64 0,.int .i64 0,.slice none 0 0,.int .i64 0,.int .i64 0,.int .i64 0,.int .i64 0,.slice none 0 0,.int .i64 0,.slice none 0 0]:=(by exact bX1 hb7);have xz0:=hb7Z.cell 0;have xz1:=hb7Z.cell 1;have xz2:=hb7Z.cell 2;have xz3:=hb7Z.cell 3;have xz4:=hb7Z.cell 4;have xz5:=hb7Z.cell 5;have xz6:=hb7Z.cell 6;have xz7:=hb7Z.cell 7;have xz8:=hb7Z.cell 8;have xz9:=hb7Z.cell 9;have xz10:=hb7Z.cell 10;have xf:=hb7Z.froz;(simp at xz0 xz1 xz2 xz3 xz4 xz5 xz6 xz7 xz8 xz9 xz10);have xlZ:=hb7Z.lt));go_simp;refine hK.out _ _ ?_ (fun hHeld => ?_);(focus ((try dsimp only);((refine ⟨?_, ?_, ?_⟩ <;> (first | exact bX2 hb5 hb7 | exact bX1 hb5 | exact bX1 hb7 | exact bX0)))));clear hK K;(try simp only [Act.put,pqs]);refine rgN 12 rfl ?_;refine rgC 13 rfl (fun K hK => ?_);go_simp;refine hK.out _ _ ?_ (fun hHeld => ?_);(focus ((try dsimp only);((refine ⟨?_, ?_, ?_⟩ <;> (first | exact bX2 hb5 hb7 | exact bX1 hb5 | exact bX1 hb7 | exact bX0)))));clear hK K;(try simp only [Act.put,pqs]);refine rgN 14 rfl ?_;refine wpAnyH_done kR ?_ _))
    all_goals go_wp2
    refine bodyPost_ret (res_c2 rfl rfl (show Box _ _ 135 #[.int .i64 bx,.int .i64 bY,.int .i64 sl,.slice AL L.length cL,.int .i64 fx,.int .i64 fX,.int .i64 fy,.int .i64 fY,.slice AB B.length cB,.int .i64 P1,.slice (some ⟨gQ,0,none⟩) P2.length capQ] from ?hE) Tryz.underlying135 rfl ta_size) rfl ⟨gQ,capQ,rfl,by omega,GQ.same GB (show Box _ gQ 3 csQ from ?hS),⟨csQ, ?hX⟩, ?hB⟩
    case hE => exact bX0
    case hS => exact bX2 hb5 hb7
    case hX => exact bX2 hb5 hb7
    case hB => exact bB3 G5 hb5 hb7
end Go.Proofs.YtpnfgmgoafgcbaaGreat

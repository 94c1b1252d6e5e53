/-
  The chapter's examples (chapter 6): 'awake' returns true.
-/
import Derived.Test.YtpnfgmgoafgcbaaGreatA15
set_option linter.all false
set_option linter.unusedVariables false
namespace Go.Proofs.YtpnfgmgoafgcbaaGreat
open Go.RowKit
attribute [local go_sem] Oper.semAt_some
theorem aw_sweep (W : World) (AL AB AQ : Option Addr) (hs1 : SlV W AL (exS.L.flatMap lkV)) (hs2 : SlV W AB (exS.B.flatMap bxV)) (hs3 : SlI W AQ [0,0]) :
    Calls Tryz.prog 43 #[.agg #[.int .i64 0,.int .i64 0,.int .i64 1,.slice AL 2 2,.int .i64 (-1),.int .i64 4,.int .i64 (-1),.int .i64 4,.slice AB 1 1],.agg #[.int .i64 0,.slice AQ 2 2],.agg #[.int .i64 1,.int .i64 1]] W fun e w' => e = .returned (.tuple #[.agg #[.int .i64 2,.int .i64 3,.int .i64 0,.int .i64 1],.int .i64 0]) ∧ Below W.heap.size W w':=by
  have H:=sweepOf_c 0 0 1 (-1) 4 (-1) 4 0 1 1 exS.L exS.B [0,0] AL AB AQ 2 1 2 W (by decide) (by decide) (by decide) hs1 hs2 hs3
  have e : swO exS (0,[0,0]) (1,1) = ((2,3,0,1),0):=by
    have h:=aw1
    have h1 : omE exS (0,[0,0]) (1,1) = 0:=by unfold omE;rw [if_neg (by simp [h.1]),h.2.1]
    have h2 : mvdE exS (0,[0,0]) (1,1) = 0:=by decide +kernel
    unfold swO
    rw [if_neg (by simp [h1]),h.2.2,h2]
  refine H.mono ?_
  rintro e' w' ⟨rfl,hb⟩
  refine ⟨?_,hb⟩
  rw [show (⟨0,0,1,exS.L,(-1,4,-1,4),exS.B⟩ : Sc) = exS from rfl,e]
  rfl
theorem aw_path (W : World) (AL AB AQ AT : Option Addr) (hs1 : SlV W AL (exS.L.flatMap lkV)) (hs2 : SlV W AB (exS.B.flatMap bxV)) (hs3 : SlI W AQ [0,0]) (hs4 : SlI W AT [0,1]) :
    Calls Tryz.prog 34 #[.agg #[.int .i64 0,.int .i64 0,.int .i64 1,.slice AL 2 2,.int .i64 (-1),.int .i64 4,.int .i64 (-1),.int .i64 4,.slice AB 1 1],.agg #[.int .i64 0,.slice AQ 2 2],.agg #[.int .i64 1,.slice AT 2 2]] W fun e w' => ∃ (A : Option Addr) (c : Nat),e = .returned (.tuple #[.slice A 2 c,.int .i64 0]) ∧ SlV w' A ([(-1,1),(1,1)].flatMap mvV) ∧ Below W.heap.size W w':=by
  have H:=pathTo_c 0 0 1 (-1) 4 (-1) 4 0 1 exS.L exS.B [0,0] [0,1] AL AB AQ AT 2 1 2 2 W (by decide) (by decide) (by decide) (by decide) hs1 hs2 hs3 hs4
  rw [show (⟨0,0,1,exS.L,(-1,4,-1,4),exS.B⟩ : Sc) = exS from rfl,aw2] at H
  refine H.mono ?_
  rintro e' w' ⟨A,c,rfl,ho,hb⟩
  exact ⟨A,c,rfl,slv_own (by decide) ho,hb⟩
theorem aw_reach (W : World) (AL AB AQ : Option Addr) (hs1 : SlV W AL (exS.L.flatMap lkV)) (hs2 : SlV W AB (exS.B.flatMap bxV)) (hs3 : SlI W AQ [0,0]) :
    Calls Tryz.prog 50 #[.agg #[.int .i64 0,.int .i64 0,.int .i64 1,.slice AL 2 2,.int .i64 (-1),.int .i64 4,.int .i64 (-1),.int .i64 4,.slice AB 1 1],.agg #[.int .i64 0,.slice AQ 2 2]] W fun e w' => ∃ (A : Option Addr) (c : Nat),e = .returned (.tuple #[.slice A 6 c,.int .i64 0]) ∧ Below W.heap.size W w':=by
  have H:=reachedFrom_c 0 0 1 (-1) 4 (-1) 4 0 exS.L exS.B [0,0] AL AB AQ 2 1 2 W (by decide) (by decide) (by decide) hs1 hs2 hs3
  rw [show (⟨0,0,1,exS.L,(-1,4,-1,4),exS.B⟩ : Sc) = exS from rfl] at H
  refine H.mono ?_
  rintro e' w' ⟨A,c,xs,rfl,hx,_,_,hb⟩
  have hl : xs.length = 6:=by have:=congrArg List.length hx;rw [List.length_map,aw3.1] at this;exact this
  rw [aw3.2,hl]
  exact ⟨A,c,rfl,hb⟩
theorem aw_speed (W : World) : Calls Tryz.prog 79 #[.agg #[.int .i64 10,.int .i64 500,.int .i64 2],.int .i64 15] W fun e w' => e = .returned (.tuple #[.agg #[.int .i64 0,.int .i64 5],.int .i64 0]) ∧ Below W.heap.size W w':=by
  have H:=speedIn_c 10 500 2 15 W
  rw [show spO 10 500 2 15 = ((0,5),0) from by unfold spO;rw [if_neg (by simp [aw4.1]),aw4.2.1,aw4.2.2]] at H
  exact H
theorem aw_hold (W : World) (AC : Option Addr) (hs : SlV W AC (exH.C.flatMap ctV)) :
    Calls Tryz.prog 28 #[.agg #[.slice AC 2 2,.int .i64 1,.int .i64 2,.int .i64 0,.int .i64 (-2),.int .i64 0]] W fun e w' => ∃ (A : Option Addr) (c : Nat),e = .returned (.tuple #[.slice A 2 c,.int .i64 0]) ∧ SlV w' A ([(2,1),(2,-1)].flatMap ceV) ∧ Below W.heap.size W w':=by
  have H:=holdOf_c exH.C AC 2 1 2 0 (-2) 0 W (by decide) hs (by decide) (by decide)
  rw [show (⟨exH.C,1,2,(0,-2,0)⟩ : Hd) = exH from rfl,aw5] at H
  exact H
theorem aw_same (W : World) (A B : Option Addr) (c d : Nat) (h1 : SlV W A ([(-1,1),(1,1)].flatMap mvV)) (h2 : SlV W B ([(-1,1),(1,1)].flatMap mvV)) :
    Calls Tryz.prog 48 #[.slice A 2 c,.slice B 2 d] W fun e w' => e = .returned (.bool true) ∧ Below W.heap.size W w':=samePath_c [(-1,1),(1,1)] [(-1,1),(1,1)] A B c d W (by decide) (by decide) h1 h2
theorem aw_pairs (W : World) (A B : Option Addr) (c d : Nat) (h1 : SlV W A ([(2,1),(2,-1)].flatMap ceV)) (h2 : SlV W B ([(2,1),(2,-1)].flatMap ceV)) :
    Calls Tryz.prog 30 #[.slice A 2 c,.slice B 2 d] W fun e w' => e = .returned (.bool true) ∧ Below W.heap.size W w':=samePairs_c [(2,1),(2,-1)] [(2,1),(2,-1)] A B c d W (by decide) (by decide) h1 h2
theorem aw_eqb (w : World) : (binOp .eql 27 (.agg #[.int .i64 2,.int .i64 3,.int .i64 0,.int .i64 1]) (.agg #[.int .i64 2,.int .i64 3,.int .i64 0,.int .i64 1])).run Tryz.prog w = .ok (.bool true) w:=by kernel_rfl
theorem aw_eqr (w : World) : (binOp .eql 25 (.agg #[.int .i64 0,.int .i64 5]) (.agg #[.int .i64 0,.int .i64 5])).run Tryz.prog w = .ok (.bool true) w:=by kernel_rfl
attribute [local go_sem ↓] aw_eqb aw_eqr
/-- What is kept: the pose and its quarters, and all that lay before. -/
def AwK (w wx : World) : Prop:=Box wx w.heap.size 3 #[.int .i64 0,.int .i64 0] ∧ Box wx (w.heap.size + 1) 33 #[.int .i64 0,.slice (some ⟨w.heap.size,0,none⟩) 2 2] ∧ Below w.heap.size w wx
def Aw2 (w : World) (s2 s3 : Value) (wx : World) : Prop:=∃ gb,s2 = .pointer (some ⟨gb,0,none⟩) ∧ s3 = .int .i64 0 ∧ Box wx gb 27 #[.int .i64 2,.int .i64 3,.int .i64 0,.int .i64 1] ∧ AwK w wx
def Aw3 (w : World) (gb : Nat) (s4 s5 : Value) (wx : World) : Prop:=∃ A c,s4 = .slice A 2 c ∧ s5 = .int .i64 0 ∧ SlV wx A ([(-1,1),(1,1)].flatMap mvV) ∧ Box wx gb 27 #[.int .i64 2,.int .i64 3,.int .i64 0,.int .i64 1] ∧ AwK w wx
def Aw4 (w : World) (gb : Nat) (A : Option Addr) (s6 s7 : Value) (wx : World) : Prop:=∃ A6 c6,s6 = .slice A6 6 c6 ∧ s7 = .int .i64 0 ∧ SlV wx A ([(-1,1),(1,1)].flatMap mvV) ∧ Box wx gb 27 #[.int .i64 2,.int .i64 3,.int .i64 0,.int .i64 1] ∧ AwK w wx
set_option maxHeartbeats 4000000 in
set_option maxRecDepth 100000 in
theorem awake_c (w : World) : Calls Tryz.prog 14 #[] w fun e w' => e = .returned (.bool true) ∧ Below w.heap.size w w':=by
  have SCc:=Lib.hid (fun W => scene_c W)
  have SWc:=Lib.hid (fun W AL AB AQ h1 h2 h3 => aw_sweep W AL AB AQ h1 h2 h3)
  have PTc:=Lib.hid (fun W AL AB AQ AT h1 h2 h3 h4 => aw_path W AL AB AQ AT h1 h2 h3 h4)
  have RFc:=Lib.hid (fun W AL AB AQ h1 h2 h3 => aw_reach W AL AB AQ h1 h2 h3)
  go_enter Tryz.func14,Tryz.ntmps14
  go_upto_region 1 with fail
  go_cut [1] (fun s1 wx => s1 = .pointer (some ⟨w.heap.size + 1,0,none⟩) ∧ AwK w wx)
  case first =>
    go_wp2_with fail
    go_meet
    refine ⟨rfl, ?_, ?_, ?_⟩
    · exact bX0
    · exact bX0
    · exact bB0
  case rest =>
    obtain ⟨rfl,G0,G1,G5⟩:=hcut
    generalize wc = W6 at *
    have HQ:=Lib.hid (show SlI W6 (some ⟨w.heap.size,0,none⟩) [0,0] from sli_box G0 [0,0] rfl)
    have l0:=G0.lt;have l1:=G1.lt
    go_upto_region 2 with fail
    go_cut [2,3] (fun s2 s3 wx => Aw2 w s2 s3 wx)
    case first =>
      ((focus (refine wp_region_held_drew (S:=(fun w' => Box w' (w.heap.size + 1) 33 #[.int .i64 0,.slice (some ⟨w.heap.size,0,none⟩) 2 2])) kR ?_ (fun hHeld => ?_);(focus ((try dsimp only);(((first | exact bX0 | exact bX1 hb4 | exact bX1 hb3 | exact bX2 hb3 hb4)))));refine rgT 1 ?_ rfl (fun w' hSw => ?_) ?_;rotate_left;(focus ((try dsimp only at hSw);(have sa0:=hSw.cell 0;have sa1:=hSw.cell 1;(simp at sa0 sa1));go_simp;(try with_reducible rfl)));(try simp only [Act.put,pqs]);refine rgN 2 rfl ?_;refine wpAnyH_ready (rs:=[0,7]) kR (by simp) ?_;(focus (refine AllReadyH.cons rfl (fun K hK => ?_) ?_;rotate_left;refine AllReadyH.cons rfl (fun K hK => ?_) ?_;rotate_left;exact AllReadyH.nil));(focus (go_simp;((go_at_call 78;(with_reducible refine (SCc.out _).mono ?_);rintro e w3 hC3;obtain ⟨AL,AB,rfl,hl3,hx3,hb3⟩:=hC3;have hz3 : W6.heap.size ≤ w3.heap.size:=(by have:=hb3.size;(try simp at this);omega);(try (refine (fun (V3 : Box w3 W6.heap.size 27 #[.int .i64 0,.int .i64 0,.int .i64 0,.int .i64 0]) => ?_) ?_;rotate_left;(focus (exact bX1 hb3));(have v0:=V3.cell 0;have v1:=V3.cell 1;have v2:=V3.cell 2;have v3:=V3.cell 3;have v4:=V3.froz;have v5:=V3.lt;(simp at v0 v1 v2 v3))))));go_simp;refine hK.out _ _ ?_ (fun hHeld => ?_);(focus ((try dsimp only);(((first | exact bX2 hb3 hb4 | exact bX1 hb3 | exact bX1 hb4 | exact bX0)))));clear hK K;(try simp only [Act.put,pqs]);refine wpAnyH_ready (rs:=[3,7]) kR (by simp) ?_;(focus (refine AllReadyH.cons rfl (fun K hK => ?_) ?_;rotate_left;refine AllReadyH.cons rfl (fun K hK => ?_) ?_;rotate_left;exact AllReadyH.nil));(focus (go_simp;((go_at_call 43;(with_reducible refine (SWc.out _ _ _ _ (hl3.below (by exact bB0)) (hx3.below (by exact bB0)) (HQ.out.below (by exact bB1 hb3))).mono ?_);rintro e w4 hC4;obtain ⟨rfl,hb4⟩:=hC4;have hz4 : W6.heap.size ≤ w4.heap.size:=(by have:=hb4.size;(try simp at this);omega);(first | (refine (fun (V4 : Box w4 W6.heap.size 27 #[.int .i64 0,.int .i64 0,.int .i64 0,.int .i64 0]) => ?_) ?_;rotate_left;(focus (exact bX2 hb3 hb4));(have u0:=V4.cell 0;have u1:=V4.cell 1;have u2:=V4.cell 2;have u3:=V4.cell 3;have u4:=V4.froz;have u5:=V4.lt;(simp at u0 u1 u2 u3))) | (refine (fun (V4 : Box w4 w3.heap.size 27 #[.int .i64 0,.int .i64 0,.int .i64 0,.int .i64 0]) => ?_) ?_;rotate_left;(focus (exact bX1 hb4));(have u0:=V4.cell 0;have u1:=V4.cell 1;have u2:=V4.cell 2;have u3:=V4.cell 3;have u4:=V4.froz;have u5:=V4.lt;(simp at u0 u1 u2 u3))) | skip)));go_simp;refine hK.out _ _ ?_ (fun hHeld => ?_);(focus ((try dsimp only);(((first | exact bX2 hb3 hb4 | exact bX1 hb3 | exact bX1 hb4 | exact bX0)))));clear hK K;(try simp only [Act.put,pqs]);refine rgN 4 rfl ?_;refine rgN 5 rfl ?_;refine rgN 6 rfl ?_;refine rgC 7 rfl (fun K hK => ?_);go_simp;refine hK.out _ _ ?_ (fun hHeld => ?_);(focus ((try dsimp only);(((first | exact bX2 hb3 hb4 | exact bX1 hb3 | exact bX1 hb4 | exact bX0)))));clear hK K;(try simp only [Act.put,pqs])));rotate_left;(focus (go_simp;refine hK.out _ _ ?_ (fun hHeld => ?_);(focus ((try dsimp only);(((first | exact bX2 hb3 hb4 | exact bX1 hb3 | exact bX1 hb4 | exact bX0)))));clear hK K;(try simp only [Act.put,pqs]);refine rgC 3 rfl (fun K hK => ?_);go_simp;((go_at_call 43;(with_reducible refine (SWc.out _ _ _ _ (hl3.below (by exact bB0)) (hx3.below (by exact bB0)) (HQ.out.below (by exact bB1 hb3))).mono ?_);rintro e w4 hC4;obtain ⟨rfl,hb4⟩:=hC4;have hz4 : W6.heap.size ≤ w4.heap.size:=(by have:=hb4.size;(try simp at this);omega);(first | (refine (fun (V4 : Box w4 W6.heap.size 27 #[.int .i64 0,.int .i64 0,.int .i64 0,.int .i64 0]) => ?_) ?_;rotate_left;(focus (exact bX2 hb3 hb4));(have u0:=V4.cell 0;have u1:=V4.cell 1;have u2:=V4.cell 2;have u3:=V4.cell 3;have u4:=V4.froz;have u5:=V4.lt;(simp at u0 u1 u2 u3))) | (refine (fun (V4 : Box w4 w3.heap.size 27 #[.int .i64 0,.int .i64 0,.int .i64 0,.int .i64 0]) => ?_) ?_;rotate_left;(focus (exact bX1 hb4));(have u0:=V4.cell 0;have u1:=V4.cell 1;have u2:=V4.cell 2;have u3:=V4.cell 3;have u4:=V4.froz;have u5:=V4.lt;(simp at u0 u1 u2 u3))) | skip)));go_simp;refine hK.out _ _ ?_ (fun hHeld => ?_);(focus ((try dsimp only);(((first | exact bX2 hb3 hb4 | exact bX1 hb3 | exact bX1 hb4 | exact bX0)))));clear hK K;(try simp only [Act.put,pqs]);refine rgN 4 rfl ?_;refine rgN 5 rfl ?_;refine rgN 6 rfl ?_));rotate_left));rotate_left 2;(focus (go_simp;refine hK.out _ _ ?_ (fun hHeld => ?_);(focus ((try dsimp only);(((first | exact bX2 hb3 hb4 | exact bX1 hb3 | exact bX1 hb4 | exact bX0)))));clear hK K;(try simp only [Act.put,pqs]);refine rgC 0 rfl (fun K hK => ?_);go_simp;((go_at_call 78;(with_reducible refine (SCc.out _).mono ?_);rintro e w3 hC3;obtain ⟨AL,AB,rfl,hl3,hx3,hb3⟩:=hC3;have hz3 : W6.heap.size ≤ w3.heap.size:=(by have:=hb3.size;(try simp at this);omega);(try (refine (fun (V3 : Box w3 W6.heap.size 27 #[.int .i64 0,.int .i64 0,.int .i64 0,.int .i64 0]) => ?_) ?_;rotate_left;(focus (exact bX1 hb3));(have v0:=V3.cell 0;have v1:=V3.cell 1;have v2:=V3.cell 2;have v3:=V3.cell 3;have v4:=V3.froz;have v5:=V3.lt;(simp at v0 v1 v2 v3))))));go_simp;refine hK.out _ _ ?_ (fun hHeld => ?_);(focus ((try dsimp only);(((first | exact bX2 hb3 hb4 | exact bX1 hb3 | exact bX1 hb4 | exact bX0)))));clear hK K;(try simp only [Act.put,pqs]);refine rgC 3 rfl (fun K hK => ?_);go_simp;((go_at_call 43;(with_reducible refine (SWc.out _ _ _ _ (hl3.below (by exact bB0)) (hx3.below (by exact bB0)) (HQ.out.below (by exact bB1 hb3))).mono ?_);rintro e w4 hC4;obtain ⟨rfl,hb4⟩:=hC4;have hz4 : W6.heap.size ≤ w4.heap.size:=(by have:=hb4.size;(try simp at this);omega);(first | (refine (fun (V4 : Box w4 W6.heap.size 27 #[.int .i64 0,.int .i64 0,.int .i64 0,.int .i64 0]) => ?_) ?_;rotate_left;(focus (exact bX2 hb3 hb4));(have u0:=V4.cell 0;have u1:=V4.cell 1;have u2:=V4.cell 2;have u3:=V4.cell 3;have u4:=V4.froz;have u5:=V4.lt;(simp at u0 u1 u2 u3))) | (refine (fun (V4 : Box w4 w3.heap.size 27 #[.int .i64 0,.int .i64 0,.int .i64 0,.int .i64 0]) => ?_) ?_;rotate_left;(focus (exact bX1 hb4));(have u0:=V4.cell 0;have u1:=V4.cell 1;have u2:=V4.cell 2;have u3:=V4.cell 3;have u4:=V4.froz;have u5:=V4.lt;(simp at u0 u1 u2 u3))) | skip)));go_simp;refine hK.out _ _ ?_ (fun hHeld => ?_);(focus ((try dsimp only);(((first | exact bX2 hb3 hb4 | exact bX1 hb3 | exact bX1 hb4 | exact bX0)))));clear hK K;(try simp only [Act.put,pqs]);refine rgN 4 rfl ?_;refine rgN 5 rfl ?_;refine rgN 6 rfl ?_));rotate_left;all_goals (refine rgC 8 rfl (fun K hK => ?_);go_simp;refine hK.out _ _ ?_ (fun hHeld => ?_);(focus ((try dsimp only);(((first | exact bX2 hb3 hb4 | exact bX1 hb3 | exact bX1 hb4 | exact bX0)))));clear hK K;(try simp only [Act.put,pqs]);refine rgN 9 rfl ?_;refine wpAnyH_done kR ?_ _;(go_wp2_with fail;go_meet;refine ⟨_,rfl,rfl, ?_, ?_, ?_, ?_⟩;(focus (exact bX2 hb3 hb4));(focus (exact bX2 hb3 hb4));(focus (exact bX2 hb3 hb4));(focus (exact bB3 G5 hb3 hb4)))))))
    case rest =>
      clear G0 G1 G5 HQ l0 l1
      obtain ⟨gb,rfl,rfl,GB,G0,G1,G5⟩:=hcut
      generalize wc = W6 at *
      have HQ:=Lib.hid (show SlI W6 (some ⟨w.heap.size,0,none⟩) [0,0] from sli_box G0 [0,0] rfl)
      have l0:=G0.lt;have l1:=G1.lt;have lb:=GB.lt
      go_upto_region 3 with fail
      go_cut [4,5] (fun s4 s5 wx => Aw3 w gb s4 s5 wx)
      case first =>
        ((focus (refine wp_region_held_drew (S:=(fun w' => Box w' (w.heap.size + 1) 33 #[.int .i64 0,.slice (some ⟨w.heap.size,0,none⟩) 2 2])) kR ?_ (fun hHeld => ?_);(focus ((try dsimp only);(((first | exact bX0 | exact bX1 hb4 | exact bX1 hb3 | exact bX2 hb3 hb4)))));refine rgT 1 ?_ rfl (fun w' hSw => ?_) ?_;rotate_left;(focus ((try dsimp only at hSw);(have sa0:=hSw.cell 0;have sa1:=hSw.cell 1;(simp at sa0 sa1));go_simp;(try with_reducible rfl)));(try simp only [Act.put,pqs]);refine wpAnyH_ready (rs:=[0,2]) kR (by simp) ?_;(focus (refine AllReadyH.cons rfl (fun K hK => ?_) ?_;rotate_left;refine AllReadyH.cons rfl (fun K hK => ?_) ?_;rotate_left;exact AllReadyH.nil));(focus (go_simp;((go_at_call 78;(with_reducible refine (SCc.out _).mono ?_);rintro e w3 hC3;obtain ⟨AL,AB,rfl,hl3,hx3,hb3⟩:=hC3;have hz3 : W6.heap.size ≤ w3.heap.size:=(by have:=hb3.size;(try simp at this);omega);(try (refine (fun (V3 : Box w3 W6.heap.size 27 #[.int .i64 0,.int .i64 0,.int .i64 0,.int .i64 0]) => ?_) ?_;rotate_left;(focus (exact bX1 hb3));(have v0:=V3.cell 0;have v1:=V3.cell 1;have v2:=V3.cell 2;have v3:=V3.cell 3;have v4:=V3.froz;have v5:=V3.lt;(simp at v0 v1 v2 v3))))));go_simp;refine hK.out _ _ ?_ (fun hHeld => ?_);(focus ((try dsimp only);(((first | exact bX2 hb3 hb4 | exact bX1 hb3 | exact bX1 hb4 | exact bX0)))));clear hK K;(try simp only [Act.put,pqs]);refine rgC 2 rfl (fun K hK => ?_);go_simp;refine hK.out _ _ ?_ (fun hHeld => ?_);(focus ((try dsimp only);(((first | exact bX2 hb3 hb4 | exact bX1 hb3 | exact bX1 hb4 | exact bX0)))));clear hK K;(try simp only [Act.put,pqs]);refine rgN 3 rfl ?_));rotate_left;(focus (go_simp;refine hK.out _ _ ?_ (fun hHeld => ?_);(focus ((try dsimp only);(((first | exact bX2 hb3 hb4 | exact bX1 hb3 | exact bX1 hb4 | exact bX0)))));clear hK K;(try simp only [Act.put,pqs]);refine rgN 3 rfl ?_;refine rgC 0 rfl (fun K hK => ?_);go_simp;((go_at_call 78;(with_reducible refine (SCc.out _).mono ?_);rintro e w3 hC3;obtain ⟨AL,AB,rfl,hl3,hx3,hb3⟩:=hC3;have hz3 : W6.heap.size ≤ w3.heap.size:=(by have:=hb3.size;(try simp at this);omega);(try (refine (fun (V3 : Box w3 W6.heap.size 27 #[.int .i64 0,.int .i64 0,.int .i64 0,.int .i64 0]) => ?_) ?_;rotate_left;(focus (exact bX1 hb3));(have v0:=V3.cell 0;have v1:=V3.cell 1;have v2:=V3.cell 2;have v3:=V3.cell 3;have v4:=V3.froz;have v5:=V3.lt;(simp at v0 v1 v2 v3))))));go_simp;refine hK.out _ _ ?_ (fun hHeld => ?_);(focus ((try dsimp only);(((first | exact bX2 hb3 hb4 | exact bX1 hb3 | exact bX1 hb4 | exact bX0)))));clear hK K;(try simp only [Act.put,pqs])));rotate_left;all_goals (refine rgC 4 rfl (fun K hK => ?_);go_simp;((go_at_call 34;(with_reducible refine (PTc.out _ _ _ _ _ (hl3.below (by exact bB0)) (hx3.below (by exact bB0)) (HQ.out.below (by exact bB1 hb3)) (sli_box (t:=3) (cs:=#[.int .i64 0,.int .i64 1]) (by exact bX1 hb3) _ rfl)).mono ?_);rintro e w4 hC4;obtain ⟨A4,c4,rfl,hv4,hb4⟩:=hC4;have hz4 : W6.heap.size ≤ w4.heap.size:=(by have:=hb4.size;(try simp at this);omega)));go_simp;refine hK.out _ _ ?_ (fun hHeld => ?_);(focus ((try dsimp only);(((first | exact bX2 hb3 hb4 | exact bX1 hb3 | exact bX1 hb4 | exact bX0)))));clear hK K;(try simp only [Act.put,pqs]);refine rgN 5 rfl ?_;refine rgN 6 rfl ?_;refine rgN 7 rfl ?_;refine rgN 8 rfl ?_;refine rgN 9 rfl ?_;refine wpAnyH_done kR ?_ _;(go_wp2_with fail;go_meet;refine ⟨_,_,rfl,rfl,hv4.below (by exact bB0), ?_, ?_, ?_, ?_⟩;(focus (exact bX2 hb3 hb4));(focus (exact bX2 hb3 hb4));(focus (exact bX2 hb3 hb4));(focus (exact bB3 G5 hb3 hb4)))))))
      case rest =>
        clear G0 G1 G5 HQ l0 l1 lb GB
        obtain ⟨AP,cP,rfl,rfl,hP,GB,G0,G1,G5⟩:=hcut
        generalize wc = W6 at *
        have HQ:=Lib.hid (show SlI W6 (some ⟨w.heap.size,0,none⟩) [0,0] from sli_box G0 [0,0] rfl)
        have HP:=Lib.hid hP
        clear hP
        have l0:=G0.lt;have l1:=G1.lt;have lb:=GB.lt
        go_upto_region 4 with fail
        go_cut [6,7] (fun s6 s7 wx => Aw4 w gb AP s6 s7 wx)
        case first =>
          (refine wp_region_held_drew (S:=(fun w' => Box w' (w.heap.size + 1) 33 #[.int .i64 0,.slice (some ⟨w.heap.size,0,none⟩) 2 2])) kR ?_ (fun hHeld => ?_);(focus ((try dsimp only);(((first | exact bX0 | exact bX1 hb4 | exact bX1 hb3 | exact bX2 hb3 hb4)))));refine rgT 1 ?_ rfl (fun w' hSw => ?_) ?_;rotate_left;(focus ((try dsimp only at hSw);(have sa0:=hSw.cell 0;have sa1:=hSw.cell 1;(simp at sa0 sa1));go_simp;(try with_reducible rfl)));(try simp only [Act.put,pqs]);refine rgC 0 rfl (fun K hK => ?_);go_simp;((go_at_call 78;(with_reducible refine (SCc.out _).mono ?_);rintro e w3 hC3;obtain ⟨AL,AB,rfl,hl3,hx3,hb3⟩:=hC3;have hz3 : W6.heap.size ≤ w3.heap.size:=(by have:=hb3.size;(try simp at this);omega);(try (refine (fun (V3 : Box w3 W6.heap.size 27 #[.int .i64 0,.int .i64 0,.int .i64 0,.int .i64 0]) => ?_) ?_;rotate_left;(focus (exact bX1 hb3));(have v0:=V3.cell 0;have v1:=V3.cell 1;have v2:=V3.cell 2;have v3:=V3.cell 3;have v4:=V3.froz;have v5:=V3.lt;(simp at v0 v1 v2 v3))))));go_simp;refine hK.out _ _ ?_ (fun hHeld => ?_);(focus ((try dsimp only);(((first | exact bX2 hb3 hb4 | exact bX1 hb3 | exact bX1 hb4 | exact bX0)))));clear hK K;(try simp only [Act.put,pqs]);refine rgC 2 rfl (fun K hK => ?_);go_simp;((go_at_call 50;(with_reducible refine (RFc.out _ _ _ _ (hl3.below (by exact bB0)) (hx3.below (by exact bB0)) (HQ.out.below (by exact bB1 hb3))).mono ?_);rintro e w4 hC4;obtain ⟨A4,c4,rfl,hb4⟩:=hC4;have hz4 : W6.heap.size ≤ w4.heap.size:=(by have:=hb4.size;(try simp at this);omega)));go_simp;refine hK.out _ _ ?_ (fun hHeld => ?_);(focus ((try dsimp only);(((first | exact bX2 hb3 hb4 | exact bX1 hb3 | exact bX1 hb4 | exact bX0)))));clear hK K;(try simp only [Act.put,pqs]);refine rgN 3 rfl ?_;refine rgN 4 rfl ?_;refine rgN 5 rfl ?_;refine rgN 6 rfl ?_;refine rgN 7 rfl ?_;refine wpAnyH_done kR ?_ _;(go_wp2_with fail;go_meet;refine ⟨_,_,rfl,rfl,HP.out.below (by exact bB2 hb3 hb4), ?_, ?_, ?_, ?_⟩;(focus (exact bX2 hb3 hb4));(focus (exact bX2 hb3 hb4));(focus (exact bX2 hb3 hb4));(focus (exact bB3 G5 hb3 hb4))))
        case rest =>
          clear G0 G1 G5 HQ l0 l1 lb GB HP
          obtain ⟨AR,cR,rfl,rfl,hP,GB,G0,G1,G5⟩:=hcut
          generalize wc = W6 at *
          have HP:=Lib.hid hP
          clear hP
          have l0:=G0.lt;have l1:=G1.lt;have lb:=GB.lt
          have VAc:=Lib.hid (fun W => valve_c W)
          have SIc:=Lib.hid (fun W => aw_speed W)
          have HLc:=Lib.hid (fun W => hold_c W)
          have HOc:=Lib.hid (fun W AC h => aw_hold W AC h)
          go_upto_region 7 with (first | (go_at_call 80;(with_reducible refine (VAc.out _).mono ?_);rintro e w3 ⟨rfl,hb3⟩;have hz3 : W6.heap.size ≤ w3.heap.size:=(by have:=hb3.size;(try simp at this);omega)) | (go_at_call 79;(with_reducible refine (SIc.out _).mono ?_);rintro e w4 ⟨rfl,hb4⟩;have hz4 : W6.heap.size ≤ w4.heap.size:=(by have:=hb4.size;(try simp at this);omega)) | (go_at_call 81;(with_reducible refine (HLc.out _).mono ?_);rintro e w5 hC5;obtain ⟨AC,rfl,hc5,hb5⟩:=hC5;have hz5 : w4.heap.size < w5.heap.size:=(by have:=hb5.size;(try simp at this);omega)) | (go_at_call 28;(with_reducible refine (HOc.out _ _ hc5).mono ?_);rintro e w7 hC7;obtain ⟨A7,c7,rfl,hv7,hb7⟩:=hC7;have hz7 : w5.heap.size ≤ w7.heap.size:=(by have:=hb7.size;(try simp at this);omega)) | fail)
          have HP7:=Lib.hid (HP.out.below (show Below W6.heap.size W6 w7 from by exact bB4 hb3 hb4 hb5 hb7))
          have GB7 : Box w7 gb 27 #[.int .i64 2,.int .i64 3,.int .i64 0,.int .i64 1]:=by exact bX4 hb3 hb4 hb5 hb7
          have GR7 : Box w7 w4.heap.size 25 #[.int .i64 0,.int .i64 5]:=by exact bX2 hb5 hb7
          have G7 : Below w.heap.size w w7:=by exact bB5 G5 hb3 hb4 hb5 hb7
          have HV:=Lib.hid hv7
          have SMc:=Lib.hid (fun W A B c d h1 h2 => aw_same W A B c d h1 h2)
          have SRc:=Lib.hid (fun W A B c d h1 h2 => aw_pairs W A B c d h1 h2)
          clear HP G0 G1 G5 GB l0 l1 lb hb3 hb4 hb5 hb7 hz3 hz4 hz5 hz7 hc5 hv7 VAc SIc HLc HOc SCc SWc PTc RFc
          generalize w4.heap.size = gr at *
          generalize w7 = W7 at *
          have HP:=HP7
          have lb:=GB7.lt;have lr:=GR7.lt
          have ha0:=GB7.cell 0;have ha1:=GB7.cell 1;have ha2:=GB7.cell 2;have ha3:=GB7.cell 3;have hc0:=GR7.cell 0;have hc1:=GR7.cell 1
          simp at ha0 ha1 ha2 ha3 hc0 hc1
          go_wp2_with (first | (go_at_call 48;(with_reducible refine (SMc.out _ _ _ _ _ (HP.out.below (by exact bB0)) (slv_box (t:=84) (cs:=#[.int .i64 (-1),.int .i64 1,.int .i64 1,.int .i64 1]) (by exact bX0) _ rfl)).mono ?_);rintro e w8 ⟨rfl,hb8⟩;have hz8 : W7.heap.size ≤ w8.heap.size:=(by have:=hb8.size;(try simp at this);omega);have X8 : Box w8 gr 25 #[.int .i64 0,.int .i64 5]:=(by exact bX1 hb8);have e80:=X8.cell 0;have e81:=X8.cell 1;have l8:=X8.lt;(simp at e80 e81)) | (go_at_call 30;(with_reducible refine (SRc.out _ _ _ _ _ (HV.out.below (by exact bB1 hb8)) (slv_box (t:=22) (cs:=#[.int .i64 2,.int .i64 1,.int .i64 2,.int .i64 (-1)]) (by exact bX0) _ rfl)).mono ?_);rintro e w9 ⟨rfl,hb9⟩;have hz9 : W7.heap.size ≤ w9.heap.size:=(by have:=hb9.size;(try simp at this);omega)) | fail)
          go_ret
          exact ⟨rfl,by exact bB3 G7 hb8 hb9⟩
end Go.Proofs.YtpnfgmgoafgcbaaGreat

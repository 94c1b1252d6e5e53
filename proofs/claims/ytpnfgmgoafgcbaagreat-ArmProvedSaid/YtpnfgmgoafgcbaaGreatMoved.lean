/-
  The walks of moveErr and moved (chapter 6).
-/
import Derived.Test.YtpnfgmgoafgcbaaGreatPose
import Derived.Test.YtpnfgmgoafgcbaaGreatA2
import Derived.Test.YtpnfgmgoafgcbaaGreatShelf
set_option linter.all false
set_option linter.unusedVariables false
namespace Go.Proofs.YtpnfgmgoafgcbaaGreat
open Go.RowKit Go.Shelf
theorem clone_c (Q : List Int) (A : Option Addr) (c : Nat) (w : World) (h0 : 0 < Q.length) (hn : Q.length ≤ 1000) (hs : SlI w A Q) :
    Calls Tryz.prog 85 #[.slice A Q.length c] w fun e w' => ∃ g cap,e = .returned (.slice (some ⟨g,0,none⟩) Q.length cap) ∧ w'.ownsRow w.heap.size 3 1 (.slice (some ⟨g,0,none⟩) Q.length cap) Q.length (Q.map (Value.int .i64)) ∧ Below w.heap.size w w':=by
  obtain ⟨b,off,rfl,hb,_⟩:=hs 0 Q[0] (List.getElem?_eq_getElem h0)
  refine (Tryz.slices_Clone_int b off Q.length c Q w (Nat.le_refl _) (by omega) (fun j hj => ?_)).mono ?_
  · obtain ⟨b',off',e,_,hc⟩:=hs j Q[j] (List.getElem?_eq_getElem hj)
    cases e
    rw [hc];simp [List.getD_eq_getElem?_getD,hj]
  · rintro e w' ⟨v,rfl,ho,_,hB⟩
    rw [List.take_length] at ho
    obtain ⟨g,cap,rfl,_⟩:=own_pos ho h0 (by decide)
    exact ⟨g,cap,rfl,ho,hB⟩
set_option maxHeartbeats 2000000 in
set_option maxRecDepth 100000 in
theorem moveErr_c (bx bY sl fx fX fy fY ps mj mb : Int) (L : List Lk) (B : List Bx) (nQ : Nat) (AL AB AQ : Option Addr) (cL cB cQ : Nat) (w : World) (hL : L.length ≤ 1000) :
    Calls Tryz.prog 86 #[.agg #[.int .i64 bx,.int .i64 bY,.int .i64 sl,.slice AL L.length cL,.int .i64 fx,.int .i64 fX,.int .i64 fy,.int .i64 fY,.slice AB B.length cB,.int .i64 ps,.slice AQ nQ cQ],.agg #[.int .i64 mj,.int .i64 mb]] w fun e w' => e = .returned (.int .i64 (mvE (⟨bx,bY,sl,L,(fx,fX,fy,fY),B⟩ : Sc) (mj,mb))) ∧ Below w.heap.size w w':=by
  have HL:=Lib.hid (show mvE (⟨bx,bY,sl,L,(fx,fX,fy,fY),B⟩ : Sc) (mj,mb) = fstE [unl (inB mj (-1) ((L.length : Int) - 1)) 6,unl (mb == 1 || mb == -1) 2] from rfl)
  generalize mvE (⟨bx,bY,sl,L,(fx,fX,fy,fY),B⟩ : Sc) (mj,mb) = r at *
  have V:=Lib.hid (IntWalk.i64_in ((L.length : Int) - 1) (by omega))
  cases h : (mb == 1)
  · go_enter Tryz.func86,Tryz.ntmps86
    go_wp2
    ((refine wp_region_held_drew (S:=(fun w' => w'.cell? ⟨w.heap.size,3,none⟩ = some (.slice AL L.length cL) ∧ w'.cell? ⟨w.heap.size + 1,0,none⟩ = some (.int .i64 mj) ∧ w'.cell? ⟨w.heap.size + 1,1,none⟩ = some (.int .i64 mb))) kR ?_ (fun hHeld => ?_);(exact kpA);refine rgN 0 rfl ?_;refine rgN 1 rfl ?_;refine rgN 2 rfl ?_;refine rgN 3 rfl ?_;refine rgN 4 rfl ?_;refine rgN 5 rfl ?_;refine rgN 6 rfl ?_;refine rgN 9 rfl ?_;refine rgN 10 rfl ?_;refine rgN 11 rfl ?_;refine rgC 7 rfl (fun K hK => ?_);go_simp;((go_at_call 93;(with_reducible refine (within_w _ _ _ _).mono ?_);rintro e w' ⟨rfl,rfl⟩));go_simp;refine hK.out _ _ ?_ (fun hHeld => ?_);(exact kpA);clear hK K;(try simp only [Act.put,pqs]);refine rgC 8 rfl (fun K hK => ?_);go_simp;((go_at_call 84;(with_reducible refine (unless_c _ _ _).mono ?_);rintro e w' ⟨rfl,rfl⟩));go_simp;refine hK.out _ _ ?_ (fun hHeld => ?_);(exact kpA);clear hK K;(try simp only [Act.put,pqs]);refine rgN 12 rfl ?_;refine rgN 13 rfl ?_;refine rgN 14 rfl ?_;refine rgN 15 rfl ?_;refine rgN 16 rfl ?_;refine rgC 17 rfl (fun K hK => ?_);go_simp;((go_at_call 84;(with_reducible refine (unless_c _ _ _).mono ?_);rintro e w' ⟨rfl,rfl⟩));go_simp;refine hK.out _ _ ?_ (fun hHeld => ?_);(exact kpA);clear hK K;(try simp only [Act.put,pqs]);refine rgC 18 rfl (fun K hK => ?_);go_simp;refine hK.out _ _ ?_ (fun hHeld => ?_);(exact kpA);clear hK K;(try simp only [Act.put,pqs]);refine rgC 19 rfl (fun K hK => ?_);go_simp;(first | (go_at_call 83;(with_reducible refine (first2a _ _ _ _ _ (by simp)).mono ?_);rintro e w' ⟨rfl,rfl⟩) | (go_at_call 83;(with_reducible refine (first2d _ _ _ _ _ (by simp)).mono ?_);rintro e w' ⟨rfl,rfl⟩));go_simp;refine hK.out _ _ ?_ (fun hHeld => ?_);(exact kpA);clear hK K;(try simp only [Act.put,pqs]);refine rgN 20 rfl ?_;refine wpAnyH_done kR ?_ _))
    all_goals go_wp2
    all_goals go_ret
    all_goals exact ⟨ret_i (by rw [HL.out,h,V.out];simp),by exact bB0⟩
  · go_enter Tryz.func86,Tryz.ntmps86
    go_wp2
    ((refine wp_region_held_drew (S:=(fun w' => w'.cell? ⟨w.heap.size,3,none⟩ = some (.slice AL L.length cL) ∧ w'.cell? ⟨w.heap.size + 1,0,none⟩ = some (.int .i64 mj) ∧ w'.cell? ⟨w.heap.size + 1,1,none⟩ = some (.int .i64 mb))) kR ?_ (fun hHeld => ?_);(exact kpA);refine rgN 0 rfl ?_;refine rgN 1 rfl ?_;refine rgN 2 rfl ?_;refine rgN 3 rfl ?_;refine rgN 4 rfl ?_;refine rgN 5 rfl ?_;refine rgN 6 rfl ?_;refine rgN 9 rfl ?_;refine rgN 10 rfl ?_;refine rgN 11 rfl ?_;refine rgC 7 rfl (fun K hK => ?_);go_simp;((go_at_call 93;(with_reducible refine (within_w _ _ _ _).mono ?_);rintro e w' ⟨rfl,rfl⟩));go_simp;refine hK.out _ _ ?_ (fun hHeld => ?_);(exact kpA);clear hK K;(try simp only [Act.put,pqs]);refine rgC 8 rfl (fun K hK => ?_);go_simp;((go_at_call 84;(with_reducible refine (unless_c _ _ _).mono ?_);rintro e w' ⟨rfl,rfl⟩));go_simp;refine hK.out _ _ ?_ (fun hHeld => ?_);(exact kpA);clear hK K;(try simp only [Act.put,pqs]);refine rgN 12 rfl ?_;refine tsH (i:=13) rfl (by assumption) ?_;refine tsH (i:=14) rfl (by assumption) ?_;refine tsH (i:=15) rfl (by assumption) ?_;refine rgN 16 rfl ?_;refine rgC 17 rfl (fun K hK => ?_);go_simp;((go_at_call 84;(with_reducible refine (unless_c _ _ _).mono ?_);rintro e w' ⟨rfl,rfl⟩));go_simp;refine hK.out _ _ ?_ (fun hHeld => ?_);(exact kpA);clear hK K;(try simp only [Act.put,pqs]);refine rgC 18 rfl (fun K hK => ?_);go_simp;refine hK.out _ _ ?_ (fun hHeld => ?_);(exact kpA);clear hK K;(try simp only [Act.put,pqs]);refine rgC 19 rfl (fun K hK => ?_);go_simp;(first | (go_at_call 83;(with_reducible refine (first2a _ _ _ _ _ (by simp)).mono ?_);rintro e w' ⟨rfl,rfl⟩) | (go_at_call 83;(with_reducible refine (first2d _ _ _ _ _ (by simp)).mono ?_);rintro e w' ⟨rfl,rfl⟩));go_simp;refine hK.out _ _ ?_ (fun hHeld => ?_);(exact kpA);clear hK K;(try simp only [Act.put,pqs]);refine rgN 20 rfl ?_;refine wpAnyH_done kR ?_ _))
    all_goals go_wp2
    all_goals go_ret
    all_goals exact ⟨ret_i (by rw [HL.out,h,V.out];simp),by exact bB0⟩
end Go.Proofs.YtpnfgmgoafgcbaaGreat

/-
  The walk of CheckScene (chapter 6).
-/
import Derived.Test.YtpnfgmgoafgcbaaGreatA2
import Derived.Deep.DeepCutAuto
set_option linter.all false
set_option linter.unusedVariables false
namespace Go.Proofs.YtpnfgmgoafgcbaaGreat
open Go.RowKit Go.Shelf
set_option maxHeartbeats 4000000 in
set_option maxRecDepth 100000 in
theorem checkScene_c (bx bY sl fx fX fy fY : Int) (L : List Lk) (B : List Bx) (AL AB : Option Addr) (cL cB : Nat) (w : World) (hL : L.length ≤ 9223372036854775807) (hB : B.length ≤ 9223372036854775807) (hs1 : SlV w AL (L.flatMap lkV)) (hs2 : SlV w AB (B.flatMap bxV)) :
    Calls Tryz.prog 56 #[.agg #[.int .i64 bx,.int .i64 bY,.int .i64 sl,.slice AL L.length cL,.int .i64 fx,.int .i64 fX,.int .i64 fy,.int .i64 fY,.slice AB B.length cB]] w fun e w' => e = .returned (.tuple #[.int .i64 (scP (⟨bx,bY,sl,L,(fx,fX,fy,fY),B⟩ : Sc)).1,.int .i64 (scP (⟨bx,bY,sl,L,(fx,fX,fy,fY),B⟩ : Sc)).2]) ∧ Below w.heap.size w w':=by
  have EL1:=Lib.hid (fun W (h : Below w.heap.size w W) => eachLink_c L AL cL W hL (hs1.below h))
  have EB1:=Lib.hid (fun W (h : Below w.heap.size w W) => eachBox_c B AB cB W hB (hs2.below h))
  clear hs1 hs2
  have HP:=Lib.hid (show scP (⟨bx,bY,sl,L,(fx,fX,fy,fY),B⟩ : Sc) = if scE0 (⟨bx,bY,sl,L,(fx,fX,fy,fY),B⟩ : Sc) ≠ 0 then (0,scE0 (⟨bx,bY,sl,L,(fx,fX,fy,fY),B⟩ : Sc)) else if (eachE lkE L).2 ≠ 0 then eachE lkE L else if 6 < B.length then (0,8) else eachE bxE B from rfl)
  have H0:=Lib.hid (show scE0 (⟨bx,bY,sl,L,(fx,fX,fy,fY),B⟩ : Sc) = fstE [bxE (fx,fX,fy,fY),unl (inBx (fx,fX,fy,fY) (bx,bY) && inB sl 0 6) 2,unl (decide (0 < L.length)) 10,unl (decide ((L.length : Int) ≤ 3)) 8] from by unfold scE0;simp only [show decide (L.length ≤ 3) = decide ((L.length : Int) ≤ 3) from by simp;omega])
  generalize scP (⟨bx,bY,sl,L,(fx,fX,fy,fY),B⟩ : Sc) = R at *
  generalize scE0 (⟨bx,bY,sl,L,(fx,fX,fy,fY),B⟩ : Sc) = E0 at *
  generalize eachE lkE L = EL at *
  generalize eachE bxE B = EB at *
  go_enter Tryz.func56,Tryz.ntmps56
  go_upto_region 1 with fail
  go_cut [4] (fun s wx => s = .int .i64 E0 ∧ Box wx w.heap.size 30 #[.int .i64 bx,.int .i64 bY,.int .i64 sl,.slice AL L.length cL,.int .i64 fx,.int .i64 fX,.int .i64 fy,.int .i64 fY,.slice AB B.length cB] ∧ Below w.heap.size w wx)
  case first =>
    cases hi : inBx (fx,fX,fy,fY) (bx,bY)
    · rw [hi] at H0
      ((refine wp_region_held_drew (S:=(fun w' => w'.cell? ⟨w.heap.size,0,none⟩ = some (.int .i64 bx) ∧ w'.cell? ⟨w.heap.size,1,none⟩ = some (.int .i64 bY) ∧ w'.cell? ⟨w.heap.size,2,none⟩ = some (.int .i64 sl) ∧ w'.cell? ⟨w.heap.size,3,none⟩ = some (.slice AL L.length cL) ∧ w'.cell? ⟨w.heap.size,4,none⟩ = some (.int .i64 fx) ∧ w'.cell? ⟨w.heap.size,5,none⟩ = some (.int .i64 fX) ∧ w'.cell? ⟨w.heap.size,6,none⟩ = some (.int .i64 fy) ∧ w'.cell? ⟨w.heap.size,7,none⟩ = some (.int .i64 fY) ∧ w'.cell? ⟨w.heap.size,8,none⟩ = some (.slice AB B.length cB))) kR ?_ (fun hHeld => ?_);(exact kpA);refine rgN 0 rfl ?_;refine rgN 1 rfl ?_;refine rgN 3 rfl ?_;refine rgN 4 rfl ?_;refine rgN 5 rfl ?_;refine rgN 6 rfl ?_;refine rgN 14 rfl ?_;refine rgN 15 rfl ?_;refine rgN 16 rfl ?_;refine rgN 17 rfl ?_;refine rgN 19 rfl ?_;refine rgN 20 rfl ?_;refine rgN 21 rfl ?_;refine rgN 22 rfl ?_;refine rgC 2 rfl (fun K hK => ?_);go_simp;((go_at_call 124;(with_reducible refine (boxErr_c _ _ _ _ _).mono ?_);rintro e w2 ⟨rfl,hb2⟩;obtain ⟨hc2,hf2⟩:=bcell hb2;have hz2 : w.heap.size < w2.heap.size:=(by have:=hb2.size;(try simp at this);omega)));go_simp;refine hK.out _ _ ?_ (fun hHeld => ?_);(exact kpA);clear hK K;(try simp only [Act.put,pqs]);refine rgC 7 rfl (fun K hK => ?_);go_simp;((go_at_call 125;(with_reducible refine (holds_c _ _ _ _ _ _ _).mono ?_);rintro e w' ⟨rfl,rfl⟩));go_simp;refine hK.out _ _ ?_ (fun hHeld => ?_);(exact kpA);clear hK K;(try simp only [Act.put,pqs]);refine rgN 8 rfl ?_;refine tsH (i:=9) rfl (by assumption) ?_;refine tsH (i:=10) rfl (by assumption) ?_;refine tsH (i:=11) rfl (by assumption) ?_;refine rgN 12 rfl ?_;refine rgC 13 rfl (fun K hK => ?_);go_simp;((go_at_call 84;(with_reducible refine (unless_c _ _ _).mono ?_);rintro e w' ⟨rfl,rfl⟩));go_simp;refine hK.out _ _ ?_ (fun hHeld => ?_);(exact kpA);clear hK K;(try simp only [Act.put,pqs]);refine rgC 18 rfl (fun K hK => ?_);go_simp;((go_at_call 84;(with_reducible refine (unless_c _ _ _).mono ?_);rintro e w' ⟨rfl,rfl⟩));go_simp;refine hK.out _ _ ?_ (fun hHeld => ?_);(exact kpA);clear hK K;(try simp only [Act.put,pqs]);refine rgC 23 rfl (fun K hK => ?_);go_simp;((go_at_call 84;(with_reducible refine (unless_c _ _ _).mono ?_);rintro e w' ⟨rfl,rfl⟩));go_simp;refine hK.out _ _ ?_ (fun hHeld => ?_);(exact kpA);clear hK K;(try simp only [Act.put,pqs]);refine rgC 24 rfl (fun K hK => ?_);go_simp;refine hK.out _ _ ?_ (fun hHeld => ?_);(exact kpA);clear hK K;(try simp only [Act.put,pqs]);refine rgC 25 rfl (fun K hK => ?_);go_simp;(first | (go_at_call 83;(with_reducible refine (first4a _ _ _ _ _ _ _ (by simp)).mono ?_);rintro e w' ⟨rfl,rfl⟩) | (go_at_call 83;(with_reducible refine (first4d _ _ _ _ _ _ _ (by simp)).mono ?_);rintro e w' ⟨rfl,rfl⟩));go_simp;refine hK.out _ _ ?_ (fun hHeld => ?_);(exact kpA);clear hK K;(try simp only [Act.put,pqs]);refine rgN 26 rfl ?_;refine wpAnyH_done kR ?_ _))
      go_wp2_with fail
      go_meet
      exact ⟨vint (by rw [H0.out];simp),by exact bX1 hb2,by exact bB1 hb2⟩
    · rw [hi] at H0
      ((refine wp_region_held_drew (S:=(fun w' => w'.cell? ⟨w.heap.size,0,none⟩ = some (.int .i64 bx) ∧ w'.cell? ⟨w.heap.size,1,none⟩ = some (.int .i64 bY) ∧ w'.cell? ⟨w.heap.size,2,none⟩ = some (.int .i64 sl) ∧ w'.cell? ⟨w.heap.size,3,none⟩ = some (.slice AL L.length cL) ∧ w'.cell? ⟨w.heap.size,4,none⟩ = some (.int .i64 fx) ∧ w'.cell? ⟨w.heap.size,5,none⟩ = some (.int .i64 fX) ∧ w'.cell? ⟨w.heap.size,6,none⟩ = some (.int .i64 fy) ∧ w'.cell? ⟨w.heap.size,7,none⟩ = some (.int .i64 fY) ∧ w'.cell? ⟨w.heap.size,8,none⟩ = some (.slice AB B.length cB))) kR ?_ (fun hHeld => ?_);(exact kpA);refine rgN 0 rfl ?_;refine rgN 1 rfl ?_;refine rgN 3 rfl ?_;refine rgN 4 rfl ?_;refine rgN 5 rfl ?_;refine rgN 6 rfl ?_;refine rgN 14 rfl ?_;refine rgN 15 rfl ?_;refine rgN 16 rfl ?_;refine rgN 17 rfl ?_;refine rgN 19 rfl ?_;refine rgN 20 rfl ?_;refine rgN 21 rfl ?_;refine rgN 22 rfl ?_;refine rgC 2 rfl (fun K hK => ?_);go_simp;((go_at_call 124;(with_reducible refine (boxErr_c _ _ _ _ _).mono ?_);rintro e w2 ⟨rfl,hb2⟩;obtain ⟨hc2,hf2⟩:=bcell hb2;have hz2 : w.heap.size < w2.heap.size:=(by have:=hb2.size;(try simp at this);omega)));go_simp;refine hK.out _ _ ?_ (fun hHeld => ?_);(exact kpA);clear hK K;(try simp only [Act.put,pqs]);refine rgC 7 rfl (fun K hK => ?_);go_simp;((go_at_call 125;(with_reducible refine (holds_c _ _ _ _ _ _ _).mono ?_);rintro e w' ⟨rfl,rfl⟩));go_simp;refine hK.out _ _ ?_ (fun hHeld => ?_);(exact kpA);clear hK K;(try simp only [Act.put,pqs]);refine rgN 8 rfl ?_;refine rgN 9 rfl ?_;refine rgN 10 rfl ?_;refine rgC 11 rfl (fun K hK => ?_);go_simp;((go_at_call 93;(with_reducible refine (within_w _ _ _ _).mono ?_);rintro e w' ⟨rfl,rfl⟩));go_simp;refine hK.out _ _ ?_ (fun hHeld => ?_);(exact kpA);clear hK K;(try simp only [Act.put,pqs]);refine rgN 12 rfl ?_;refine rgC 13 rfl (fun K hK => ?_);go_simp;((go_at_call 84;(with_reducible refine (unless_c _ _ _).mono ?_);rintro e w' ⟨rfl,rfl⟩));go_simp;refine hK.out _ _ ?_ (fun hHeld => ?_);(exact kpA);clear hK K;(try simp only [Act.put,pqs]);refine rgC 18 rfl (fun K hK => ?_);go_simp;((go_at_call 84;(with_reducible refine (unless_c _ _ _).mono ?_);rintro e w' ⟨rfl,rfl⟩));go_simp;refine hK.out _ _ ?_ (fun hHeld => ?_);(exact kpA);clear hK K;(try simp only [Act.put,pqs]);refine rgC 23 rfl (fun K hK => ?_);go_simp;((go_at_call 84;(with_reducible refine (unless_c _ _ _).mono ?_);rintro e w' ⟨rfl,rfl⟩));go_simp;refine hK.out _ _ ?_ (fun hHeld => ?_);(exact kpA);clear hK K;(try simp only [Act.put,pqs]);refine rgC 24 rfl (fun K hK => ?_);go_simp;refine hK.out _ _ ?_ (fun hHeld => ?_);(exact kpA);clear hK K;(try simp only [Act.put,pqs]);refine rgC 25 rfl (fun K hK => ?_);go_simp;(first | (go_at_call 83;(with_reducible refine (first4a _ _ _ _ _ _ _ (by simp)).mono ?_);rintro e w' ⟨rfl,rfl⟩) | (go_at_call 83;(with_reducible refine (first4d _ _ _ _ _ _ _ (by simp)).mono ?_);rintro e w' ⟨rfl,rfl⟩));go_simp;refine hK.out _ _ ?_ (fun hHeld => ?_);(exact kpA);clear hK K;(try simp only [Act.put,pqs]);refine rgN 26 rfl ?_;refine wpAnyH_done kR ?_ _))
      go_wp2_with fail
      go_meet
      exact ⟨vint (by rw [H0.out];simp),by exact bX1 hb2,by exact bB1 hb2⟩
  case rest =>
    obtain ⟨rfl,hE,hBx⟩:=hcut
    clear H0
    have q3:=hE.cell 3;have q8:=hE.cell 8;have hlt:=hE.lt
    simp at q3 q8
    by_cases h0 : E0 = 0
    · have HP1:=Lib.hid (HP.out.trans (if_neg (by simpa using h0)))
      have e0 : (E0 != 0) = false:=bneF h0
      clear h0 HP
      by_cases h1 : EL.2 = 0
      · have e1 : (EL.2 != 0) = false:=bneF h1
        have HP2:=Lib.hid (HP1.out.trans (if_neg (by simpa using h1)))
        clear h1 HP1
        by_cases h2 : 6 < B.length
        · have HP3:=Lib.hid (HP2.out.trans (if_pos h2))
          go_wp2_with (first | (go_at_call 126;(with_reducible refine (EL1.out _ (by exact bB1 hBx)).mono ?_);rintro e w4 ⟨rfl,hb4⟩;have hz4 : w.heap.size < w4.heap.size:=(by have:=hb4.size;(try simp at this);omega);have qS : Box w4 w.heap.size 30 #[.int .i64 bx,.int .i64 bY,.int .i64 sl,.slice AL L.length cL,.int .i64 fx,.int .i64 fX,.int .i64 fy,.int .i64 fY,.slice AB B.length cB]:=(by exact bX1 hb4);have qS2:=qS.cell 3;have qS3:=qS.cell 8;(simp at qS2 qS3)) | fail)
          go_ret2
          exact ⟨ret_ii (by rw [HP3.out]) (by rw [HP3.out]),by exact bB2 hBx hb4⟩
        · have HP3:=Lib.hid (HP2.out.trans (if_neg h2))
          go_wp2_with (first | (go_at_call 126;(with_reducible refine (EL1.out _ (by exact bB1 hBx)).mono ?_);rintro e w4 ⟨rfl,hb4⟩;have hz4 : w.heap.size < w4.heap.size:=(by have:=hb4.size;(try simp at this);omega);have qS : Box w4 w.heap.size 30 #[.int .i64 bx,.int .i64 bY,.int .i64 sl,.slice AL L.length cL,.int .i64 fx,.int .i64 fX,.int .i64 fy,.int .i64 fY,.slice AB B.length cB]:=(by exact bX1 hb4);have qS2:=qS.cell 3;have qS3:=qS.cell 8;(simp at qS2 qS3)) | (go_at_call 128;(with_reducible refine (EB1.out _ (by exact bB2 hBx hb4)).mono ?_);rintro e w6 ⟨rfl,hb6⟩) | fail)
          go_ret2
          exact ⟨ret_ii (by rw [HP3.out]) (by rw [HP3.out]),by exact bB3 hBx hb4 hb6⟩
      · have e1 : (EL.2 != 0) = true:=bneT h1
        have HP2:=Lib.hid (HP1.out.trans (if_pos (by simpa using h1)))
        clear h1 HP1
        go_wp2_with (first | (go_at_call 126;(with_reducible refine (EL1.out _ (by exact bB1 hBx)).mono ?_);rintro e w4 ⟨rfl,hb4⟩;have hz4 : w.heap.size < w4.heap.size:=(by have:=hb4.size;(try simp at this);omega);have qS : Box w4 w.heap.size 30 #[.int .i64 bx,.int .i64 bY,.int .i64 sl,.slice AL L.length cL,.int .i64 fx,.int .i64 fX,.int .i64 fy,.int .i64 fY,.slice AB B.length cB]:=(by exact bX1 hb4);have qS2:=qS.cell 3;have qS3:=qS.cell 8;(simp at qS2 qS3)) | fail)
        go_ret2
        exact ⟨ret_ii (by rw [HP2.out]) (by rw [HP2.out]),by exact bB2 hBx hb4⟩
    · have HP1:=Lib.hid (HP.out.trans (if_pos (by simpa using h0)))
      have e0 : (E0 != 0) = true:=bneT h0
      clear h0 HP
      go_wp2_with fail
      go_ret2
      exact ⟨ret_ii (by rw [HP1.out]) (by rw [HP1.out]),by exact bB1 hBx⟩
end Go.Proofs.YtpnfgmgoafgcbaaGreat

/-
  The walks of poseErr, CheckPose, open (chapter 6).
-/
import Derived.Test.YtpnfgmgoafgcbaaGreatScene
set_option linter.all false
set_option linter.unusedVariables false
namespace Go.Proofs.YtpnfgmgoafgcbaaGreat
open Go.RowKit Go.Shelf
def psF : Int → List Lk → List Int → Int
  | e,l :: L,q :: Q => psF (fstE [e,unl (inLk l q) 2]) L Q
  | e,_,_ => e
theorem psF_eq : ∀ (L : List Lk) (Q : List Int) (e : Int),psF e L Q = if e ≠ 0 then e else if qsOk L Q then 0 else 2
  | [],Q,e => by cases Q <;> simp [psF,qsOk]
  | l :: L,[],e => by simp [psF,qsOk]
  | l :: L,q :: Q,e => by
    unfold psF qsOk
    rw [psF_eq L Q]
    by_cases he : e = 0
    · cases h : inLk l q <;> simp [he,fstE,unl]
    · simp [he,fstE]
theorem psE_eq (s : Sc) (p : Ps) : psE s p = psF (unl (inB p.1 0 s.sl) 2) s.L p.2:=by
  rw [psF_eq]
  unfold psE
  cases inB p.1 0 s.sl <;> simp [unl]
set_option maxHeartbeats 4000000 in
set_option maxRecDepth 100000 in
theorem poseErr_c (bx bY sl fx fX fy fY ps : Int) (L : List Lk) (B : List Bx) (Q : List Int) (AL AB AQ : Option Addr) (cL cB cQ : Nat) (w : World) (hQ : Q.length = L.length) (hL : L.length ≤ 9223372036854775807) (hs1 : SlV w AL (L.flatMap lkV)) (hs3 : SlI w AQ Q) :
    Calls Tryz.prog 134 #[.agg #[.int .i64 bx,.int .i64 bY,.int .i64 sl,.slice AL L.length cL,.int .i64 fx,.int .i64 fX,.int .i64 fy,.int .i64 fY,.slice AB B.length cB],.agg #[.int .i64 ps,.slice AQ Q.length cQ]] w fun e w' => e = .returned (.int .i64 (psE (⟨bx,bY,sl,L,(fx,fX,fy,fY),B⟩ : Sc) (ps,Q))) ∧ Below w.heap.size w w':=by
  have HP:=Lib.hid (psE_eq (⟨bx,bY,sl,L,(fx,fX,fy,fY),B⟩ : Sc) (ps,Q))
  dsimp only at HP
  generalize psE (⟨bx,bY,sl,L,(fx,fX,fy,fY),B⟩ : Sc) (ps,Q) = R at *
  have HS:=Lib.hid hs1
  have HQ:=Lib.hid hs3
  have hq:=Lib.hid hQ
  clear hs1 hs3
  have hQl : Q.length ≤ 9223372036854775807:=by omega
  clear hQ
  go_enter Tryz.func134,Tryz.ntmps134
  go_wp2_with (first | (go_at_call 93;(with_reducible refine (within_w _ _ _ _).mono ?_);rintro e w' ⟨rfl,rfl⟩) | (go_at_call 84;(with_reducible refine (unless_c _ _ _).mono ?_);rintro e w' ⟨rfl,rfl⟩) | fail)
  go_loopw [5,17] (fun e i wr => ∃ (k : Nat) (e0 : Int),k ≤ Q.length ∧ i = .int .i64 k ∧ e = .int .i64 e0 ∧ Hid (R = psF e0 (L.drop k) (Q.drop k)) ∧ Box wr w.heap.size 30 #[.int .i64 bx,.int .i64 bY,.int .i64 sl,.slice AL L.length cL,.int .i64 fx,.int .i64 fX,.int .i64 fy,.int .i64 fY,.slice AB B.length cB] ∧ Below w.heap.size w wr) (fun _ i _ => Q.length - (intOf i).toNat)
  case atStart => exact ⟨0,_,Nat.zero_le _,rfl,rfl,HP.out,by exact bX0,by exact bB0⟩
  case round =>
    obtain ⟨k,e0,hk,rfl,rfl,hf,hE,hB⟩:=hrel
    by_cases hlt : k < Q.length
    · have hkL : k < L.length:=by have:=hq.out;omega
      obtain ⟨b,off,rfl,hb,a0,a1,a2⟩:=lk_cells (HS.out.below hB) (List.getElem?_eq_getElem hkL)
      obtain ⟨b',off',rfl,hb',c0⟩:=(HQ.out.below hB) k Q[k] (List.getElem?_eq_getElem hlt)
      have HD:=Lib.hid (List.drop_eq_getElem_cons hkL)
      have HE:=Lib.hid (List.drop_eq_getElem_cons hlt)
      generalize L[k] = ev at *
      generalize Q[k] = q at *
      obtain ⟨n,lo,hi⟩:=ev
      dsimp only at a0 a1 a2
      have q3:=hE.cell 3
      simp at q3
      have i1 : (k : Int) < (L.length : Int):=by omega
      have i2 : k < L.length:=hkL
      have FE:=Lib.hid (show psF e0 ((n,lo,hi) :: L.drop (k + 1)) (q :: Q.drop (k + 1)) = psF (fstE [e0,unl (inB q lo hi) 2]) (L.drop (k + 1)) (Q.drop (k + 1)) from rfl)
      go_upto_region 5 with fail
      ((refine wp_region_held_drew (S:=(fun w' => w'.cell? ⟨w.heap.size,3,none⟩ = some (.slice (some ⟨b,off,none⟩) L.length cL) ∧ w'.cell? ⟨b,off + k * 3 + 1,none⟩ = some (.int .i64 lo) ∧ w'.cell? ⟨b,off + k * 3 + 2,none⟩ = some (.int .i64 hi))) kR ?_ (fun hHeld => ?_);(exact kpA);refine rgN 0 rfl ?_;refine rgN 1 rfl ?_;refine rgN 2 rfl ?_;refine rgN 3 rfl ?_;refine rgN 4 rfl ?_;refine rgN 5 rfl ?_;refine rgN 6 rfl ?_;refine rgN 7 rfl ?_;refine rgN 8 rfl ?_;refine rgN 9 rfl ?_;refine rgN 10 rfl ?_;refine rgN 11 rfl ?_;refine rgN 12 rfl ?_;refine rgN 13 rfl ?_;refine rgN 14 rfl ?_;refine rgN 15 rfl ?_;refine rgC 16 rfl (fun K hK => ?_);go_simp;((go_at_call 93;(with_reducible refine (within_w _ _ _ _).mono ?_);rintro e w' ⟨rfl,rfl⟩));go_simp;refine hK.out _ _ ?_ (fun hHeld => ?_);(exact kpA);clear hK K;(try simp only [Act.put,pqs]);refine rgC 17 rfl (fun K hK => ?_);go_simp;((go_at_call 84;(with_reducible refine (unless_c _ _ _).mono ?_);rintro e w' ⟨rfl,rfl⟩));go_simp;refine hK.out _ _ ?_ (fun hHeld => ?_);(exact kpA);clear hK K;(try simp only [Act.put,pqs]);refine rgC 18 rfl (fun K hK => ?_);go_simp;refine hK.out _ _ ?_ (fun hHeld => ?_);(exact kpA);clear hK K;(try simp only [Act.put,pqs]);refine rgC 19 rfl (fun K hK => ?_);go_simp;(first | (go_at_call 83;(with_reducible refine (first2a _ _ _ _ _ (by simp)).mono ?_);rintro e w' ⟨rfl,rfl⟩) | (go_at_call 83;(with_reducible refine (first2d _ _ _ _ _ (by simp)).mono ?_);rintro e w' ⟨rfl,rfl⟩));go_simp;refine hK.out _ _ ?_ (fun hHeld => ?_);(exact kpA);clear hK K;(try simp only [Act.put,pqs]);refine rgN 20 rfl ?_;refine wpAnyH_done kR ?_ _))
      go_wp2_with fail
      go_roundw
      case rel => exact ⟨k + 1,_,by omega,by go_num,rfl,by unfold Hid;rw [hf.out,HD.out,HE.out,FE.out],by exact bX0,by exact bB1 hB⟩
      case measure => simp [intOf];omega
    · go_wp2
      go_ret
      exact ⟨ret_i (by rw [hf.out,show Q.drop k = [] from List.drop_eq_nil_of_le (by omega)];cases L.drop k <;> rfl),by exact bB1 hB⟩
set_option maxHeartbeats 4000000 in
set_option maxRecDepth 100000 in
theorem checkPose_c (bx bY sl fx fX fy fY ps : Int) (L : List Lk) (B : List Bx) (Q : List Int) (AL AB AQ : Option Addr) (cL cB cQ : Nat) (w : World) (hL : L.length ≤ 9223372036854775807) (hB : B.length ≤ 9223372036854775807) (hQ : Q.length ≤ 9223372036854775807)
    (hs1 : SlV w AL (L.flatMap lkV)) (hs2 : SlV w AB (B.flatMap bxV)) (hs3 : SlI w AQ Q) :
    Calls Tryz.prog 61 #[.agg #[.int .i64 bx,.int .i64 bY,.int .i64 sl,.slice AL L.length cL,.int .i64 fx,.int .i64 fX,.int .i64 fy,.int .i64 fY,.slice AB B.length cB],.agg #[.int .i64 ps,.slice AQ Q.length cQ]] w fun e w' => e = .returned (.int .i64 (cpE (⟨bx,bY,sl,L,(fx,fX,fy,fY),B⟩ : Sc) (ps,Q))) ∧ Below w.heap.size w w':=by
  have CSc:=Lib.hid (fun W (h : Below w.heap.size w W) => checkScene_c bx bY sl fx fX fy fY L B AL AB cL cB W hL hB (hs1.below h) (hs2.below h))
  have PEc:=Lib.hid (fun hq W (h : Below w.heap.size w W) => poseErr_c bx bY sl fx fX fy fY ps L B Q AL AB AQ cL cB cQ W hq hL (hs1.below h) (hs3.below h))
  have HC:=Lib.hid (show cpE (⟨bx,bY,sl,L,(fx,fX,fy,fY),B⟩ : Sc) (ps,Q) = if fstE [(scP (⟨bx,bY,sl,L,(fx,fX,fy,fY),B⟩ : Sc)).2,unl (inB ps 0 sl) 2,unl (Q.length == L.length) 10] ≠ 0 then fstE [(scP (⟨bx,bY,sl,L,(fx,fX,fy,fY),B⟩ : Sc)).2,unl (inB ps 0 sl) 2,unl (Q.length == L.length) 10] else psE (⟨bx,bY,sl,L,(fx,fX,fy,fY),B⟩ : Sc) (ps,Q) from rfl)
  have HF:=Lib.hid (fun h : fstE [(scP (⟨bx,bY,sl,L,(fx,fX,fy,fY),B⟩ : Sc)).2,unl (inB ps 0 sl) 2,unl (Q.length == L.length) 10] = 0 => show Q.length = L.length from by
    have:=fstE_zero.1 h
    simp only [List.mem_cons,List.not_mem_nil,or_false,forall_eq_or_imp,forall_eq] at this
    simpa using (unl_zero (by decide)).1 this.2.2)
  clear hs1 hs2 hs3
  have z1 : L.length ≤ 9223372036854775807:=hL
  have NB:=Lib.hid (show ((Q.length : Int) == (L.length : Int)) = (Q.length == L.length) from by rw [Bool.eq_iff_iff];simp;omega)
  generalize cpE (⟨bx,bY,sl,L,(fx,fX,fy,fY),B⟩ : Sc) (ps,Q) = R at *
  generalize psE (⟨bx,bY,sl,L,(fx,fX,fy,fY),B⟩ : Sc) (ps,Q) = PE at *
  generalize scP (⟨bx,bY,sl,L,(fx,fX,fy,fY),B⟩ : Sc) = SP at *
  obtain ⟨si,se⟩:=SP
  dsimp only at HC HF CSc
  go_enter Tryz.func61,Tryz.ntmps61
  go_wp2_with (first | (go_at_call 56;(with_reducible refine (CSc.out _ (by exact bB0)).mono ?_);rintro e w2 ⟨rfl,hb2⟩;have hz2 : w.heap.size + 1 < w2.heap.size:=(by have:=hb2.size;(try simp at this);omega);have qS : Box w2 w.heap.size 30 #[.int .i64 bx,.int .i64 bY,.int .i64 sl,.slice AL L.length cL,.int .i64 fx,.int .i64 fX,.int .i64 fy,.int .i64 fY,.slice AB B.length cB]:=(by exact bX1 hb2);have qP : Box w2 (w.heap.size + 1) 33 #[.int .i64 ps,.slice AQ Q.length cQ]:=(by exact bX1 hb2)) | fail)
  have p0:=qS.cell 2;have p1:=qS.cell 3;have p2:=qP.cell 0;have p3:=qP.cell 1
  simp at p0 p1 p2 p3
  go_upto_region 2 with fail
  go_cut [6] (fun s wx => s = .int .i64 (fstE [se,unl (inB ps 0 sl) 2,unl (Q.length == L.length) 10]) ∧ Box wx w.heap.size 30 #[.int .i64 bx,.int .i64 bY,.int .i64 sl,.slice AL L.length cL,.int .i64 fx,.int .i64 fX,.int .i64 fy,.int .i64 fY,.slice AB B.length cB] ∧ Box wx (w.heap.size + 1) 33 #[.int .i64 ps,.slice AQ Q.length cQ] ∧ Below w.heap.size w wx)
  case first =>
    ((refine wp_region_held_drew (S:=(fun w' => w'.cell? ⟨w.heap.size,2,none⟩ = some (.int .i64 sl) ∧ w'.cell? ⟨w.heap.size,3,none⟩ = some (.slice AL L.length cL) ∧ w'.cell? ⟨w.heap.size + 1,0,none⟩ = some (.int .i64 ps) ∧ w'.cell? ⟨w.heap.size + 1,1,none⟩ = some (.slice AQ Q.length cQ))) kR ?_ (fun hHeld => ?_);(exact kpA);refine rgN 0 rfl ?_;refine rgN 1 rfl ?_;refine rgN 2 rfl ?_;refine rgN 3 rfl ?_;refine rgN 4 rfl ?_;refine rgN 7 rfl ?_;refine rgN 8 rfl ?_;refine rgN 9 rfl ?_;refine rgN 10 rfl ?_;refine rgN 11 rfl ?_;refine rgN 12 rfl ?_;refine rgN 13 rfl ?_;refine rgC 5 rfl (fun K hK => ?_);go_simp;((go_at_call 93;(with_reducible refine (within_w _ _ _ _).mono ?_);rintro e w' ⟨rfl,rfl⟩));go_simp;refine hK.out _ _ ?_ (fun hHeld => ?_);(exact kpA);clear hK K;(try simp only [Act.put,pqs]);refine rgC 6 rfl (fun K hK => ?_);go_simp;((go_at_call 84;(with_reducible refine (unless_c _ _ _).mono ?_);rintro e w' ⟨rfl,rfl⟩));go_simp;refine hK.out _ _ ?_ (fun hHeld => ?_);(exact kpA);clear hK K;(try simp only [Act.put,pqs]);refine rgC 14 rfl (fun K hK => ?_);go_simp;((go_at_call 84;(with_reducible refine (unless_c _ _ _).mono ?_);rintro e w' ⟨rfl,rfl⟩));go_simp;refine hK.out _ _ ?_ (fun hHeld => ?_);(exact kpA);clear hK K;(try simp only [Act.put,pqs]);refine rgC 15 rfl (fun K hK => ?_);go_simp;refine hK.out _ _ ?_ (fun hHeld => ?_);(exact kpA);clear hK K;(try simp only [Act.put,pqs]);refine rgC 16 rfl (fun K hK => ?_);go_simp;(first | (go_at_call 83;(with_reducible refine (first3a _ _ _ _ _ _ (by simp)).mono ?_);rintro e w' ⟨rfl,rfl⟩) | (go_at_call 83;(with_reducible refine (first3d _ _ _ _ _ _ (by simp)).mono ?_);rintro e w' ⟨rfl,rfl⟩));go_simp;refine hK.out _ _ ?_ (fun hHeld => ?_);(exact kpA);clear hK K;(try simp only [Act.put,pqs]);refine rgN 17 rfl ?_;refine wpAnyH_done kR ?_ _))
    go_wp2_with fail
    go_meet
    exact ⟨vint (by rw [NB.out]),by exact bX0,by exact bX0,by exact bB1 hb2⟩
  case rest =>
    obtain ⟨rfl,hE,hP,hBx⟩:=hcut
    have q0:=hE.lt;have q1:=hP.lt
    have r0:=hE.cell 0;have r1:=hE.cell 1;have r2:=hE.cell 2;have r3:=hE.cell 3;have r4:=hE.cell 4;have r5:=hE.cell 5;have r6:=hE.cell 6;have r7:=hE.cell 7;have r8:=hE.cell 8
    have s0:=hP.cell 0;have s1:=hP.cell 1
    simp at r0 r1 r2 r3 r4 r5 r6 r7 r8 s0 s1
    generalize fstE [se,unl (inB ps 0 sl) 2,unl (Q.length == L.length) 10] = F at *
    by_cases h0 : F = 0
    · have e0 : (F != 0) = false:=bneF h0
      have HP1:=Lib.hid (HC.out.trans (if_neg (by simpa using h0)))
      have hq:=HF.out h0
      have PEc:=Lib.hid (PEc.out hq)
      clear h0 hq HC HF
      go_wp2_with (first | (go_at_call 134;(with_reducible refine (PEc.out _ (by exact bB1 hBx)).mono ?_);rintro e w4 ⟨rfl,hb4⟩) | fail)
      go_ret
      exact ⟨ret_i (by rw [HP1.out]),by exact bB2 hBx hb4⟩
    · have e0 : (F != 0) = true:=bneT h0
      have HP1:=Lib.hid (HC.out.trans (if_pos (by simpa using h0)))
      clear h0 HC HF
      go_wp2_with fail
      go_ret
      exact ⟨ret_i (by rw [HP1.out]),by exact bB1 hBx⟩
theorem ta_size : (Tryz.prog.info? 135).map (·.size) = some 11:=by kernel_rfl
set_option maxHeartbeats 4000000 in
set_option maxRecDepth 100000 in
theorem open_c (bx bY sl fx fX fy fY ps : Int) (L : List Lk) (B : List Bx) (Q : List Int) (AL AB AQ : Option Addr) (cL cB cQ : Nat) (w : World) (hL : L.length ≤ 9223372036854775807) (hB : B.length ≤ 9223372036854775807) (hQ : Q.length ≤ 9223372036854775807)
    (hs1 : SlV w AL (L.flatMap lkV)) (hs2 : SlV w AB (B.flatMap bxV)) (hs3 : SlI w AQ Q) :
    Calls Tryz.prog 106 #[.agg #[.int .i64 bx,.int .i64 bY,.int .i64 sl,.slice AL L.length cL,.int .i64 fx,.int .i64 fX,.int .i64 fy,.int .i64 fY,.slice AB B.length cB],.agg #[.int .i64 ps,.slice AQ Q.length cQ]] w fun e w' => e = .returned (.tuple #[.agg #[.int .i64 bx,.int .i64 bY,.int .i64 sl,.slice AL L.length cL,.int .i64 fx,.int .i64 fX,.int .i64 fy,.int .i64 fY,.slice AB B.length cB,.int .i64 ps,.slice AQ Q.length cQ],.int .i64 (cpE (⟨bx,bY,sl,L,(fx,fX,fy,fY),B⟩ : Sc) (ps,Q))]) ∧ Below w.heap.size w w':=by
  have CPc:=Lib.hid (fun W (h : Below w.heap.size w W) => checkPose_c bx bY sl fx fX fy fY ps L B Q AL AB AQ cL cB cQ W hL hB hQ (hs1.below h) (hs2.below h) (hs3.below h))
  clear hs1 hs2 hs3
  generalize cpE (⟨bx,bY,sl,L,(fx,fX,fy,fY),B⟩ : Sc) (ps,Q) = R at *
  go_enter Tryz.func106,Tryz.ntmps106
  go_wp2
  ((refine wp_region_held_drew (S:=(fun w' => w'.cell? ⟨w.heap.size,0,none⟩ = some (.int .i64 bx) ∧ w'.cell? ⟨w.heap.size,1,none⟩ = some (.int .i64 bY) ∧ w'.cell? ⟨w.heap.size,2,none⟩ = some (.int .i64 sl) ∧ w'.cell? ⟨w.heap.size,3,none⟩ = some (.slice AL L.length cL) ∧ w'.cell? ⟨w.heap.size,4,none⟩ = some (.int .i64 fx) ∧ w'.cell? ⟨w.heap.size,5,none⟩ = some (.int .i64 fX) ∧ w'.cell? ⟨w.heap.size,6,none⟩ = some (.int .i64 fy) ∧ w'.cell? ⟨w.heap.size,7,none⟩ = some (.int .i64 fY) ∧ w'.cell? ⟨w.heap.size,8,none⟩ = some (.slice AB B.length cB) ∧ w'.cell? ⟨w.heap.size + 1,0,none⟩ = some (.int .i64 ps) ∧ w'.cell? ⟨w.heap.size + 1,1,none⟩ = some (.slice AQ Q.length cQ))) kR ?_ (fun hHeld => ?_);(exact kpA);refine rgN 0 rfl ?_;refine rgN 1 rfl ?_;refine rgN 2 rfl ?_;refine rgN 3 rfl ?_;refine rgN 4 rfl ?_;refine rgC 5 rfl (fun K hK => ?_);go_simp;((go_at_call 61;(with_reducible refine (CPc.out _ (by exact bB0)).mono ?_);rintro e w2 ⟨rfl,hb2⟩;have hz2 : w.heap.size + 2 < w2.heap.size:=(by have:=hb2.size;(try simp at this);omega);have qS : Box w2 w.heap.size 30 #[.int .i64 bx,.int .i64 bY,.int .i64 sl,.slice AL L.length cL,.int .i64 fx,.int .i64 fX,.int .i64 fy,.int .i64 fY,.slice AB B.length cB]:=(by exact bX1 hb2);have qP : Box w2 (w.heap.size + 1) 33 #[.int .i64 ps,.slice AQ Q.length cQ]:=(by exact bX1 hb2);have qA : Box w2 (w.heap.size + 1 + 1) 135 #[.int .i64 0,.int .i64 0,.int .i64 0,.slice none 0 0,.int .i64 0,.int .i64 0,.int .i64 0,.int .i64 0,.slice none 0 0,.int .i64 0,.slice none 0 0]:=(by exact bX1 hb2);have fA:=qA.froz;have g0:=qA.cell 0;have g1:=qA.cell 1;have g2:=qA.cell 2;have g3:=qA.cell 3;have g4:=qA.cell 4;have g5:=qA.cell 5;have g6:=qA.cell 6;have g7:=qA.cell 7;have g8:=qA.cell 8;have g9:=qA.cell 9;have g10:=qA.cell 10;have c0:=qS.cell 0;have c1:=qS.cell 1;have c2:=qS.cell 2;have c3:=qS.cell 3;have c4:=qS.cell 4;have c5:=qS.cell 5;have c6:=qS.cell 6;have c7:=qS.cell 7;have c8:=qS.cell 8;have d0:=qP.cell 0;have d1:=qP.cell 1;(simp at c0 c1 c2 c3 c4 c5 c6 c7 c8 d0 d1 g0 g1 g2 g3 g4 g5 g6 g7 g8 g9 g10)));go_simp;refine hK.out _ _ ?_ (fun hHeld => ?_);(exact kpA);clear hK K;(try simp only [Act.put,pqs]);refine rgC 6 rfl (fun K hK => ?_);go_simp;refine hK.out _ _ ?_ (fun hHeld => ?_);(exact kpA);clear hK K;(try simp only [Act.put,pqs]);refine rgN 7 rfl ?_;refine wpAnyH_done kR ?_ _))
  all_goals go_wp2
  refine bodyPost_ret (res_c2 rfl rfl (show Box _ _ 135 #[.int .i64 bx,.int .i64 bY,.int .i64 sl,.slice AL L.length cL,.int .i64 fx,.int .i64 fX,.int .i64 fy,.int .i64 fY,.slice AB B.length cB,.int .i64 ps,.slice AQ Q.length cQ] from ?hE) Tryz.underlying135 rfl ta_size) rfl ⟨rfl, ?hB⟩
  case hE => exact bX1 hb2
  case hB => exact bB1 hb2
end Go.Proofs.YtpnfgmgoafgcbaaGreat

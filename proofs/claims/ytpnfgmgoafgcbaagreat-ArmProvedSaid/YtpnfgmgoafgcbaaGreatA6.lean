/-
  The texts Sweep4, Free2, Key, KMap, Sweep5 in one.
-/
import Derived.Test.YtpnfgmgoafgcbaaGreatA5
import Derived.Test.YtpnfgmgoafgcbaaGreatMoved
import Derived.Test.YtpnfgmgoafgcbaaGreatPose
import Derived.Test.YtpnfgmgoafgcbaaGreatFree
import Derived.Laws.IdiomCopy
import Derived.RegionTactic
import Derived.ChangeAlike
import Derived.Test.YtpnfgmgoafgcbaaGreatA2
import Derived.Laws.StructEq
import Derived.LaidLaws
set_option linter.all false
/-
  The walks of sweep, whole, of openMove and of SweepOf (chapter 6).
-/
set_option linter.unusedVariables false
namespace Go.Proofs.YtpnfgmgoafgcbaaGreat
open Go.RowKit Go.Shelf
attribute [local go_sem] Oper.semAt_some
theorem qsOk_rng : ∀ {L : List Lk} {Q : List Int},qsOk L Q = true → Q.length = L.length → (∀ l ∈ L,1 ≤ l.1 ∧ l.1 ≤ 4 ∧ -2 ≤ l.2.1 ∧ l.2.1 ≤ l.2.2 ∧ l.2.2 ≤ 2) → ∀ q ∈ Q,-2 ≤ q ∧ q ≤ 2
  | _,[],_,_,_ => by simp
  | [],q :: Q,_,h,_ => by simp at h
  | l :: L,q :: Q,h,hn,hl => by
    simp only [qsOk,Bool.and_eq_true,inLk,inB,decide_eq_true_eq] at h
    have h0:=hl l (by simp)
    intro r hr
    rcases List.mem_cons.1 hr with rfl | hr
    · omega
    · exact qsOk_rng h.2 (by simpa using hn) (fun l h => hl l (by simp [h])) r hr
theorem mvd_len {p : Ps} {m : Mv} : (mvd p m).2.length = p.2.length:=by unfold mvd;split <;> simp [addAt_len]
/-- What a move leads to, where it is in order. -/
theorem mvd_ok {s : Sc} {p : Ps} {m : Mv} (hp : POk s p) (h : mvdE s p m = 0) : POk s (mvd p m):=by
  unfold mvdE at h
  rw [unl_zero (by decide)] at h
  have h:=psE_ok.1 (by simpa using h)
  exact ⟨by simpa [inB] using h.1,by rw [mvd_len,hp.len],h.2⟩
theorem POk.rng {s : Sc} {p : Ps} (hS : SOk s) (hp : POk s p) : ∀ q ∈ p.2,-2 ≤ q ∧ q ≤ 2:=qsOk_rng hp.qs hp.len hS.lk
theorem POk.sl6 {s : Sc} {p : Ps} (hS : SOk s) (hp : POk s p) : 0 ≤ p.1 ∧ p.1 ≤ 6:=by have:=hp.sl;have:=hS.sl;omega
theorem sweep_c (bx bY sl fx fX fy fY ps mj mb : Int) (L : List Lk) (B : List Bx) (Q : List Int) (AL AB AQ : Option Addr) (cL cB cQ : Nat) (w : World) (hS : SOk (⟨bx,bY,sl,L,(fx,fX,fy,fY),B⟩ : Sc)) (hp : POk (⟨bx,bY,sl,L,(fx,fX,fy,fY),B⟩ : Sc) (ps,Q))
    (h1 : -1 ≤ mj ∧ mj < L.length) (h2 : -1 ≤ mb ∧ mb ≤ 1) (hs1 : SlV w AL (L.flatMap lkV)) (hs3 : SlI w AQ Q) :
    Calls Tryz.prog 115 #[.agg #[.int .i64 bx,.int .i64 bY,.int .i64 sl,.slice AL L.length cL,.int .i64 fx,.int .i64 fX,.int .i64 fy,.int .i64 fY,.slice AB B.length cB,.int .i64 ps,.slice AQ Q.length cQ],.agg #[.int .i64 mj,.int .i64 mb]] w (SwEnd bx bY sl fx fX fy fY L.length B.length AL AB cL cB (swP (⟨bx,bY,sl,L,(fx,fX,fy,fY),B⟩ : Sc) (ps,Q) (mj,mb)).1 (mvd (ps,Q) (mj,mb)) (mvdE (⟨bx,bY,sl,L,(fx,fX,fy,fY),B⟩ : Sc) (ps,Q) (mj,mb)) w):=by
  have hbx:=hS.bx;have hbY:=hS.bY;have hlen:=hS.len;have hlk:=hS.lk
  have hq:=hp.rng hS;have hsl:=hp.sl6 hS;have hQ:=hp.len
  dsimp only at hbx hbY hlen hlk hq hsl hQ
  by_cases he : mvdE (⟨bx,bY,sl,L,(fx,fX,fy,fY),B⟩ : Sc) (ps,Q) (mj,mb) = 0
  · have ho:=mvd_ok hp he
    have hr:=ho.rng hS;have hs:=ho.sl6 hS
    have:=sweep_yes bx bY sl fx fX fy fY ps mj mb L B Q AL AB AQ cL cB cQ w hQ (by omega) (by omega) (by omega) (by omega) (fun l h => by have:=hlk l h;omega) _ rfl h1 h2 (by omega) hq (by omega) hr hs1 hs3 he
    rw [he]
    unfold swP
    rw [if_neg (by simpa using he)]
    exact this
  · have:=sweep_no bx bY sl fx fX fy fY ps mj mb L B Q AL AB AQ cL cB cQ w hQ (by omega) (by omega) h1 h2 (by omega) hq hs1 hs3 he
    unfold swP
    rw [if_pos he]
    exact this
/-- The error of a scene, a pose and a move. -/
def omE (s : Sc) (p : Ps) (m : Mv) : Int:=if cpE s p ≠ 0 then cpE s p else mvE s m
set_option maxHeartbeats 4000000 in
set_option maxRecDepth 100000 in
theorem openMove_c (bx bY sl fx fX fy fY ps mj mb : Int) (L : List Lk) (B : List Bx) (Q : List Int) (AL AB AQ : Option Addr) (cL cB cQ : Nat) (w : World) (hL : L.length ≤ 1000) (hB : B.length ≤ 9223372036854775807) (hQ : Q.length ≤ 9223372036854775807)
    (hs1 : SlV w AL (L.flatMap lkV)) (hs2 : SlV w AB (B.flatMap bxV)) (hs3 : SlI w AQ Q) :
    Calls Tryz.prog 113 #[.agg #[.int .i64 bx,.int .i64 bY,.int .i64 sl,.slice AL L.length cL,.int .i64 fx,.int .i64 fX,.int .i64 fy,.int .i64 fY,.slice AB B.length cB],.agg #[.int .i64 ps,.slice AQ Q.length cQ],.agg #[.int .i64 mj,.int .i64 mb]] w fun e w' => e = .returned (.tuple #[.agg #[.int .i64 bx,.int .i64 bY,.int .i64 sl,.slice AL L.length cL,.int .i64 fx,.int .i64 fX,.int .i64 fy,.int .i64 fY,.slice AB B.length cB,.int .i64 ps,.slice AQ Q.length cQ],.int .i64 (omE (⟨bx,bY,sl,L,(fx,fX,fy,fY),B⟩ : Sc) (ps,Q) (mj,mb))]) ∧ Below w.heap.size w w':=by
  have OPc:=Lib.hid (fun W (h : Below w.heap.size w W) => open_c bx bY sl fx fX fy fY ps L B Q AL AB AQ cL cB cQ W (by omega) hB hQ (hs1.below h) (hs2.below h) (hs3.below h))
  have MEc:=Lib.hid (fun W => moveErr_c bx bY sl fx fX fy fY ps mj mb L B Q.length AL AB AQ cL cB cQ W hL)
  have HO:=Lib.hid (show omE (⟨bx,bY,sl,L,(fx,fX,fy,fY),B⟩ : Sc) (ps,Q) (mj,mb) = if cpE (⟨bx,bY,sl,L,(fx,fX,fy,fY),B⟩ : Sc) (ps,Q) ≠ 0 then cpE (⟨bx,bY,sl,L,(fx,fX,fy,fY),B⟩ : Sc) (ps,Q) else mvE (⟨bx,bY,sl,L,(fx,fX,fy,fY),B⟩ : Sc) (mj,mb) from rfl)
  clear hs1 hs2 hs3
  generalize cpE (⟨bx,bY,sl,L,(fx,fX,fy,fY),B⟩ : Sc) (ps,Q) = r at *
  generalize mvE (⟨bx,bY,sl,L,(fx,fX,fy,fY),B⟩ : Sc) (mj,mb) = r2 at *
  generalize omE (⟨bx,bY,sl,L,(fx,fX,fy,fY),B⟩ : Sc) (ps,Q) (mj,mb) = R at *
  by_cases hr : r = 0
  · have hR : R = r2:=by rw [HO.out];simp [hr]
    subst hr hR
    clear HO
    go_enter Tryz.func113,Tryz.ntmps113
    go_wp2_with (first | (go_at_call 106;refine (OPc.out _ (by exact bB0)).mono ?_;rintro e w2 ⟨rfl,hb2⟩;have hz2 : w.heap.size + 1 + 1 + 1 < w2.heap.size:=(by have:=hb2.size;(try simp at this);omega);have z3 : Box w2 (w.heap.size + 1 + 1 + 1) 135 #[.int .i64 0,.int .i64 0,.int .i64 0,.slice none 0 0,.int .i64 0,.int .i64 0,.int .i64 0,.int .i64 0,.slice none 0 0,.int .i64 0,.slice none 0 0]:=(by exact bX1 hb2);have z2 : Box w2 (w.heap.size + 1 + 1) 84 #[.int .i64 mj,.int .i64 mb]:=(by exact bX1 hb2);have m0:=z2.cell 0;have m1:=z2.cell 1;have b0:=z3.cell 0;have b1:=z3.cell 1;have b2:=z3.cell 2;have b3:=z3.cell 3;have b4:=z3.cell 4;have b5:=z3.cell 5;have b6:=z3.cell 6;have b7:=z3.cell 7;have b8:=z3.cell 8;have b9:=z3.cell 9;have b10:=z3.cell 10;have b11:=z3.froz;(simp at m0 m1 b0 b1 b2 b3 b4 b5 b6 b7 b8 b9 b10);have hl3:=z3.lt;have hl2:=z2.lt) | fail)
    ((refine wp_region_held_drew (S:=(fun w' => w'.cell? ⟨w2.heap.size,0,none⟩ = some (.int .i64 bx) ∧ w'.cell? ⟨w2.heap.size,1,none⟩ = some (.int .i64 bY) ∧ w'.cell? ⟨w2.heap.size,2,none⟩ = some (.int .i64 sl) ∧ w'.cell? ⟨w2.heap.size,3,none⟩ = some (.slice AL L.length cL) ∧ w'.cell? ⟨w2.heap.size,4,none⟩ = some (.int .i64 fx) ∧ w'.cell? ⟨w2.heap.size,5,none⟩ = some (.int .i64 fX) ∧ w'.cell? ⟨w2.heap.size,6,none⟩ = some (.int .i64 fy) ∧ w'.cell? ⟨w2.heap.size,7,none⟩ = some (.int .i64 fY) ∧ w'.cell? ⟨w2.heap.size,8,none⟩ = some (.slice AB B.length cB) ∧ w'.cell? ⟨w2.heap.size,9,none⟩ = some (.int .i64 ps) ∧ w'.cell? ⟨w2.heap.size,10,none⟩ = some (.slice AQ Q.length cQ) ∧ w'.cell? ⟨w.heap.size + 1 + 1,0,none⟩ = some (.int .i64 mj) ∧ w'.cell? ⟨w.heap.size + 1 + 1,1,none⟩ = some (.int .i64 mb))) kR ?_ (fun hHeld => ?_);(exact kpA);refine rgN 0 rfl ?_;refine rgN 1 rfl ?_;refine rgN 2 rfl ?_;refine rgC 3 rfl (fun K hK => ?_);go_simp;((go_at_call 86;refine (MEc.out _).mono ?_;rintro e w5 ⟨rfl,hb5⟩;have hz5 : w2.heap.size < w5.heap.size:=(by have:=hb5.size;(try simp at this);omega);have y3 : Box w5 (w.heap.size + 1 + 1 + 1) 135 #[.int .i64 0,.int .i64 0,.int .i64 0,.slice none 0 0,.int .i64 0,.int .i64 0,.int .i64 0,.int .i64 0,.slice none 0 0,.int .i64 0,.slice none 0 0]:=(by exact bX1 hb5);have d0:=y3.cell 0;have d1:=y3.cell 1;have d2:=y3.cell 2;have d3:=y3.cell 3;have d4:=y3.cell 4;have d5:=y3.cell 5;have d6:=y3.cell 6;have d7:=y3.cell 7;have d8:=y3.cell 8;have d9:=y3.cell 9;have d10:=y3.cell 10;have d11:=y3.froz;have v0 : Box w5 w2.heap.size 135 #[.int .i64 bx,.int .i64 bY,.int .i64 sl,.slice AL L.length cL,.int .i64 fx,.int .i64 fX,.int .i64 fy,.int .i64 fY,.slice AB B.length cB,.int .i64 ps,.slice AQ Q.length cQ]:=(by exact bX1 hb5);have v1 : Box w5 (w.heap.size + 1 + 1) 84 #[.int .i64 mj,.int .i64 mb]:=(by exact bX1 hb5);have j0:=v1.cell 0;have j1:=v1.cell 1;have k0:=v0.cell 0;have k1:=v0.cell 1;have k2:=v0.cell 2;have k3:=v0.cell 3;have k4:=v0.cell 4;have k5:=v0.cell 5;have k6:=v0.cell 6;have k7:=v0.cell 7;have k8:=v0.cell 8;have k9:=v0.cell 9;have k10:=v0.cell 10;(simp at d0 d1 d2 d3 d4 d5 d6 d7 d8 d9 d10 j0 j1 k0 k1 k2 k3 k4 k5 k6 k7 k8 k9 k10);have q0:=v0.lt));go_simp;refine hK.out _ _ ?_ (fun hHeld => ?_);(exact kpA);clear hK K;(try simp only [Act.put,pqs]);refine rgC 4 rfl (fun K hK => ?_);go_simp;refine hK.out _ _ ?_ (fun hHeld => ?_);(exact kpA);clear hK K;(try simp only [Act.put,pqs]);refine rgN 5 rfl ?_;refine wpAnyH_done kR ?_ _))
    all_goals go_wp2
    refine bodyPost_ret (res_c2 rfl rfl (show Box _ _ 135 #[.int .i64 bx,.int .i64 bY,.int .i64 sl,.slice AL L.length cL,.int .i64 fx,.int .i64 fX,.int .i64 fy,.int .i64 fY,.slice AB B.length cB,.int .i64 ps,.slice AQ Q.length cQ] from ?hE) Tryz.underlying135 rfl ta_size) rfl ⟨rfl, ?hB⟩
    case hE => exact bX1 hb5
    case hB => exact bB2 hb2 hb5
  · have hR : R = r:=by rw [HO.out];simp [hr]
    subst hR
    have e1:=bneT hr
    clear HO hr
    go_enter Tryz.func113,Tryz.ntmps113
    go_wp2_with (first | (go_at_call 106;refine (OPc.out _ (by exact bB0)).mono ?_;rintro e w2 ⟨rfl,hb2⟩;have hz2 : w.heap.size + 1 + 1 + 1 < w2.heap.size:=(by have:=hb2.size;(try simp at this);omega);have z3 : Box w2 (w.heap.size + 1 + 1 + 1) 135 #[.int .i64 0,.int .i64 0,.int .i64 0,.slice none 0 0,.int .i64 0,.int .i64 0,.int .i64 0,.int .i64 0,.slice none 0 0,.int .i64 0,.slice none 0 0]:=(by exact bX1 hb2);have z2 : Box w2 (w.heap.size + 1 + 1) 84 #[.int .i64 mj,.int .i64 mb]:=(by exact bX1 hb2);have m0:=z2.cell 0;have m1:=z2.cell 1;have b0:=z3.cell 0;have b1:=z3.cell 1;have b2:=z3.cell 2;have b3:=z3.cell 3;have b4:=z3.cell 4;have b5:=z3.cell 5;have b6:=z3.cell 6;have b7:=z3.cell 7;have b8:=z3.cell 8;have b9:=z3.cell 9;have b10:=z3.cell 10;have b11:=z3.froz;(simp at m0 m1 b0 b1 b2 b3 b4 b5 b6 b7 b8 b9 b10);have hl3:=z3.lt;have hl2:=z2.lt) | fail)
    refine bodyPost_ret (res_c2 rfl rfl (show Box _ _ 135 #[.int .i64 bx,.int .i64 bY,.int .i64 sl,.slice AL L.length cL,.int .i64 fx,.int .i64 fX,.int .i64 fy,.int .i64 fY,.slice AB B.length cB,.int .i64 ps,.slice AQ Q.length cQ] from ?hE) Tryz.underlying135 rfl ta_size) rfl ⟨rfl, ?hB⟩
    case hE => exact bX0
    case hB => exact bB1 hb2
end Go.Proofs.YtpnfgmgoafgcbaaGreat
/-
  The walks of free and of key (chapter 6).
-/
set_option linter.unusedVariables false
namespace Go.Proofs.YtpnfgmgoafgcbaaGreat
open Go.RowKit Go.Shelf
attribute [local go_sem] Oper.semAt_some
/-- The error of a pose that is to be free. -/
def frE (s : Sc) (p : Ps) : Int:=if cpE s p ≠ 0 then cpE s p else if freeP s p then 0 else 17
theorem frE_ok {s : Sc} {p : Ps} (h : frE s p = 0) : SOk s ∧ POk s p ∧ freeP s p = true:=by
  unfold frE at h
  split at h
  · rename_i h0;exact absurd h h0
  · rename_i h0
    have:=cpE_ok (Decidable.of_not_not h0)
    cases hf : freeP s p
    · rw [hf] at h;simp at h
    · exact ⟨this.1,this.2,rfl⟩
set_option maxHeartbeats 4000000 in
set_option maxRecDepth 100000 in
theorem free_c (bx bY sl fx fX fy fY ps : Int) (L : List Lk) (B : List Bx) (Q : List Int) (AL AB AQ : Option Addr) (cL cB cQ : Nat) (w : World) (hL : L.length ≤ 1000) (hB : B.length ≤ 9223372036854775807) (hQ : Q.length ≤ 9223372036854775807)
    (hs1 : SlV w AL (L.flatMap lkV)) (hs2 : SlV w AB (B.flatMap bxV)) (hs3 : SlI w AQ Q) :
    Calls Tryz.prog 82 #[.agg #[.int .i64 bx,.int .i64 bY,.int .i64 sl,.slice AL L.length cL,.int .i64 fx,.int .i64 fX,.int .i64 fy,.int .i64 fY,.slice AB B.length cB],.agg #[.int .i64 ps,.slice AQ Q.length cQ]] w fun e w' => e = .returned (.tuple #[.agg #[.int .i64 bx,.int .i64 bY,.int .i64 sl,.slice AL L.length cL,.int .i64 fx,.int .i64 fX,.int .i64 fy,.int .i64 fY,.slice AB B.length cB,.int .i64 ps,.slice AQ Q.length cQ],.int .i64 (frE (⟨bx,bY,sl,L,(fx,fX,fy,fY),B⟩ : Sc) (ps,Q))]) ∧ Below w.heap.size w w':=by
  have OPc:=Lib.hid (fun W (h : Below w.heap.size w W) => open_c bx bY sl fx fX fy fY ps L B Q AL AB AQ cL cB cQ W (by omega) hB hQ (hs1.below h) (hs2.below h) (hs3.below h))
  have FRd:=Lib.hid (fun (h0 : cpE (⟨bx,bY,sl,L,(fx,fX,fy,fY),B⟩ : Sc) (ps,Q) = 0) => fun W (h : Below w.heap.size w W) => by
    have hS:=(cpE_ok h0).1;have hp:=(cpE_ok h0).2
    have hbx:=hS.bx;have hbY:=hS.bY;have hlen:=hS.len;have hlk:=hS.lk;have hsl:=hp.sl6 hS
    dsimp only at hbx hbY hlen hlk hsl
    exact isFree_c bx bY sl fx fX fy fY ps L B Q AL AB AQ cL cB cQ W hp.len (by omega) (by omega) (by omega) (by omega) (by omega) (fun l h => by have:=hlk l h;omega) (hp.rng hS) (hs1.below h) (hs2.below h) (hs3.below h))
  have HO:=Lib.hid (show frE (⟨bx,bY,sl,L,(fx,fX,fy,fY),B⟩ : Sc) (ps,Q) = if cpE (⟨bx,bY,sl,L,(fx,fX,fy,fY),B⟩ : Sc) (ps,Q) ≠ 0 then cpE (⟨bx,bY,sl,L,(fx,fX,fy,fY),B⟩ : Sc) (ps,Q) else if freeP (⟨bx,bY,sl,L,(fx,fX,fy,fY),B⟩ : Sc) (ps,Q) then 0 else 17 from rfl)
  clear hs1 hs2 hs3
  generalize cpE (⟨bx,bY,sl,L,(fx,fX,fy,fY),B⟩ : Sc) (ps,Q) = r at *
  generalize freeP (⟨bx,bY,sl,L,(fx,fX,fy,fY),B⟩ : Sc) (ps,Q) = f at *
  generalize frE (⟨bx,bY,sl,L,(fx,fX,fy,fY),B⟩ : Sc) (ps,Q) = R at *
  go_enter Tryz.func82,Tryz.ntmps82
  go_upto_region 2 with (first | (go_at_call 106;refine (OPc.out _ (by exact bB0)).mono ?_;rintro e w2 ⟨rfl,hb2⟩;have hz2 : w.heap.size + 1 + 1 < w2.heap.size:=(by have:=hb2.size;(try simp at this);omega)) | fail)
  obtain ⟨W6,hW6⟩ : ∃ W6 : World,W6 = w2.alloc (.cells #[.int .i64 bx,.int .i64 bY,.int .i64 sl,.slice AL L.length cL,.int .i64 fx,.int .i64 fX,.int .i64 fy,.int .i64 fY,.slice AB B.length cB,.int .i64 ps,.slice AQ Q.length cQ] 135):=⟨_,rfl⟩
  have G0 : Box W6 w2.heap.size 135 #[.int .i64 bx,.int .i64 bY,.int .i64 sl,.slice AL L.length cL,.int .i64 fx,.int .i64 fX,.int .i64 fy,.int .i64 fY,.slice AB B.length cB,.int .i64 ps,.slice AQ Q.length cQ]:=by rw [hW6];exact Box.new _ _ _
  have G1 : Box W6 (w.heap.size + 1 + 1) 135 #[.int .i64 0,.int .i64 0,.int .i64 0,.slice none 0 0,.int .i64 0,.int .i64 0,.int .i64 0,.int .i64 0,.slice none 0 0,.int .i64 0,.slice none 0 0]:=by rw [hW6];exact bX1 hb2
  have G5 : Below w.heap.size w W6:=by rw [hW6];exact bB1 hb2
  rw [← hW6]
  clear hW6 hb2
  generalize w2.heap.size = gS at *
  have a0:=G0.cell 0;have a1:=G0.cell 1;have a2:=G0.cell 2;have a3:=G0.cell 3;have a4:=G0.cell 4;have a5:=G0.cell 5;have a6:=G0.cell 6;have a7:=G0.cell 7;have a8:=G0.cell 8;have a9:=G0.cell 9;have a10:=G0.cell 10
  have z0:=G1.cell 0;have z1:=G1.cell 1;have z2:=G1.cell 2;have z3:=G1.cell 3;have z4:=G1.cell 4;have z5:=G1.cell 5;have z6:=G1.cell 6;have z7:=G1.cell 7;have z8:=G1.cell 8;have z9:=G1.cell 9;have z10:=G1.cell 10
  have zf:=G1.froz
  simp at a0 a1 a2 a3 a4 a5 a6 a7 a8 a9 a10 z0 z1 z2 z3 z4 z5 z6 z7 z8 z9 z10
  have l0:=G0.lt;have l1:=G1.lt
  by_cases hr : r = 0
  · have FRc:=Lib.hid (FRd.out hr)
    clear FRd OPc
    have hR0 : R = if f then 0 else 17:=by rw [HO.out,if_neg (by simpa using hr)]
    clear HO
    subst hr
    cases f
    · have hR : R = 17:=by simpa using hR0
      clear hR0
      subst hR
      go_wp2_with (first | (go_at_call 107;refine (FRc.out _ (by exact bB1 G5)).mono ?_;rintro e w5 ⟨rfl,hb5⟩;have hz5 : W6.heap.size ≤ w5.heap.size:=hb5.size;have V0 : Box w5 gS 135 #[.int .i64 bx,.int .i64 bY,.int .i64 sl,.slice AL L.length cL,.int .i64 fx,.int .i64 fX,.int .i64 fy,.int .i64 fY,.slice AB B.length cB,.int .i64 ps,.slice AQ Q.length cQ]:=(by exact bX1 hb5);have V1 : Box w5 (w.heap.size + 1 + 1) 135 #[.int .i64 0,.int .i64 0,.int .i64 0,.slice none 0 0,.int .i64 0,.int .i64 0,.int .i64 0,.int .i64 0,.slice none 0 0,.int .i64 0,.slice none 0 0]:=(by exact bX1 hb5);have y0:=V0.cell 0;have y1:=V0.cell 1;have y2:=V0.cell 2;have y3:=V0.cell 3;have y4:=V0.cell 4;have y5:=V0.cell 5;have y6:=V0.cell 6;have y7:=V0.cell 7;have y8:=V0.cell 8;have y9:=V0.cell 9;have y10:=V0.cell 10;have x0:=V1.cell 0;have x1:=V1.cell 1;have x2:=V1.cell 2;have x3:=V1.cell 3;have x4:=V1.cell 4;have x5:=V1.cell 5;have x6:=V1.cell 6;have x7:=V1.cell 7;have x8:=V1.cell 8;have x9:=V1.cell 9;have x10:=V1.cell 10;have xf:=V1.froz;(simp at y0 y1 y2 y3 y4 y5 y6 y7 y8 y9 y10 x0 x1 x2 x3 x4 x5 x6 x7 x8 x9 x10);have l5:=V0.lt;have l6:=V1.lt) | fail)
      refine bodyPost_ret (res_c2 rfl rfl (show Box _ _ 135 #[.int .i64 bx,.int .i64 bY,.int .i64 sl,.slice AL L.length cL,.int .i64 fx,.int .i64 fX,.int .i64 fy,.int .i64 fY,.slice AB B.length cB,.int .i64 ps,.slice AQ Q.length cQ] from ?hE) Tryz.underlying135 rfl ta_size) rfl ⟨rfl, ?hB⟩
      case hE => exact bX1 hb5
      case hB => exact bB2 G5 hb5
    · have hR : R = 0:=by simpa using hR0
      clear hR0
      subst hR
      go_wp2_with (first | (go_at_call 107;refine (FRc.out _ (by exact bB1 G5)).mono ?_;rintro e w5 ⟨rfl,hb5⟩;have hz5 : W6.heap.size ≤ w5.heap.size:=hb5.size;have V0 : Box w5 gS 135 #[.int .i64 bx,.int .i64 bY,.int .i64 sl,.slice AL L.length cL,.int .i64 fx,.int .i64 fX,.int .i64 fy,.int .i64 fY,.slice AB B.length cB,.int .i64 ps,.slice AQ Q.length cQ]:=(by exact bX1 hb5);have V1 : Box w5 (w.heap.size + 1 + 1) 135 #[.int .i64 0,.int .i64 0,.int .i64 0,.slice none 0 0,.int .i64 0,.int .i64 0,.int .i64 0,.int .i64 0,.slice none 0 0,.int .i64 0,.slice none 0 0]:=(by exact bX1 hb5);have y0:=V0.cell 0;have y1:=V0.cell 1;have y2:=V0.cell 2;have y3:=V0.cell 3;have y4:=V0.cell 4;have y5:=V0.cell 5;have y6:=V0.cell 6;have y7:=V0.cell 7;have y8:=V0.cell 8;have y9:=V0.cell 9;have y10:=V0.cell 10;have x0:=V1.cell 0;have x1:=V1.cell 1;have x2:=V1.cell 2;have x3:=V1.cell 3;have x4:=V1.cell 4;have x5:=V1.cell 5;have x6:=V1.cell 6;have x7:=V1.cell 7;have x8:=V1.cell 8;have x9:=V1.cell 9;have x10:=V1.cell 10;have xf:=V1.froz;(simp at y0 y1 y2 y3 y4 y5 y6 y7 y8 y9 y10 x0 x1 x2 x3 x4 x5 x6 x7 x8 x9 x10);have l5:=V0.lt;have l6:=V1.lt) | fail)
      refine bodyPost_ret (res_c2 rfl rfl (show Box _ _ 135 #[.int .i64 bx,.int .i64 bY,.int .i64 sl,.slice AL L.length cL,.int .i64 fx,.int .i64 fX,.int .i64 fy,.int .i64 fY,.slice AB B.length cB,.int .i64 ps,.slice AQ Q.length cQ] from ?hE) Tryz.underlying135 rfl ta_size) rfl ⟨rfl, ?hB⟩
      case hE => exact bX1 hb5
      case hB => exact bB2 G5 hb5
  · have hR : R = r:=by rw [HO.out,if_pos hr]
    subst hR
    have e1:=beqF hr
    clear FRd OPc HO hr
    go_wp2_with fail
    refine bodyPost_ret (res_c2 rfl rfl (show Box _ _ 135 #[.int .i64 bx,.int .i64 bY,.int .i64 sl,.slice AL L.length cL,.int .i64 fx,.int .i64 fX,.int .i64 fy,.int .i64 fY,.slice AB B.length cB,.int .i64 ps,.slice AQ Q.length cQ] from ?hE) Tryz.underlying135 rfl ta_size) rfl ⟨rfl, ?hB⟩
    case hE => exact bX0
    case hB => exact bB1 G5
end Go.Proofs.YtpnfgmgoafgcbaaGreat
/-
  The walk of key (chapter 6): a pose as a key.
-/
set_option linter.unusedVariables false
namespace Go.Proofs.YtpnfgmgoafgcbaaGreat
open Go.RowKit Go.Shelf
attribute [local go_sem] Oper.semAt_some
/-- The key of a pose. -/
def kyV (p : Ps) : Array Value:=#[.int .i64 p.1,.int .i64 (p.2.getD 0 0),.int .i64 (p.2.getD 1 0),.int .i64 (p.2.getD 2 0)]
theorem tk_size : (Tryz.prog.info? 179).map (·.size) = some 4:=by kernel_rfl
theorem run_copy3 (W : World) (gK : Nat) (Q : List Int) (AQ : Option Addr) (cQ : Nat) (v0 v1 v2 v3 : Value) (h0 : 0 < Q.length) (h3 : Q.length ≤ 3) (hs : SlI W AQ Q) (hK : Box W gK 179 #[v0,v1,v2,v3]) :
    (Builtin.copy_ #[31,31] 3 #[.slice (some ⟨gK,1,none⟩) 3 3,.slice AQ Q.length cQ]).run Tryz.prog W = .ok (goInt Q.length) (W.setCells gK 1 (Q.map (Value.int .i64))):=by
  obtain ⟨b,off,rfl,hb,_⟩:=hs 0 Q[0] (List.getElem?_eq_getElem h0)
  have hm : Nat.min Q.length 3 = (Q.map (Value.int .i64)).length:=by simp [Nat.min_def];omega
  have h:=run_copy_cells (P:=Tryz.prog) W 31 31 3 3 gK 1 3 3 ⟨b,off,none⟩ Q.length cQ (Q.map (Value.int .i64)) Tryz.underlying31 (by kernel_rfl) hm.symm
    (fun j v hj => ?_) (fun j hj => ?_) (fun j hj => ?_) (fun v hv => ?_)
  · simpa using h
  · rw [List.getElem?_map] at hj
    obtain ⟨u,hu,rfl⟩:=Option.map_eq_some_iff.1 hj
    obtain ⟨b',off',e,_,hc⟩:=hs j u hu
    cases e
    rw [← hc]
    by_cases h : j = 0
    · subst h;simp [Addr.add]
    · simp [Addr.add,h]
  · have : j < 3:=by simp at hj;omega
    rw [hK.cell]
    have : j = 0 ∨ j = 1 ∨ j = 2:=by omega
    rcases this with rfl | rfl | rfl <;> simp
  · exact hK.froz _
  · obtain ⟨u,_,rfl⟩:=List.mem_map.1 hv
    rfl
theorem keyed (W : World) (gK : Nat) (ps : Int) (Q : List Int) (h0 : 0 < Q.length) (h3 : Q.length ≤ 3) (hK : Box W gK 179 #[.int .i64 ps,.int .i64 0,.int .i64 0,.int .i64 0]) :
    Box (W.setCells gK 1 (Q.map (Value.int .i64))) gK 179 (kyV (ps,Q)) ∧ (∀ g t cs,g ≠ gK → Box W g t cs → Box (W.setCells gK 1 (Q.map (Value.int .i64))) g t cs) ∧ (∀ B w,B ≤ gK → Below B w W → Below B w (W.setCells gK 1 (Q.map (Value.int .i64)))):=by
  match Q,h0,h3 with
  | [a],_,_ => exact ⟨by simpa [World.setCells,kyV] using hK.set 1 (.int .i64 a),fun g t cs hne h => by simpa [World.setCells] using h.far (p:=⟨gK,1,none⟩) hne _,fun B w hB h => by simpa [World.setCells] using h.setCell (p:=⟨gK,1,none⟩) hB _⟩
  | [a,b],_,_ => exact ⟨by simpa [World.setCells,kyV] using (hK.set 1 (.int .i64 a)).set 2 (.int .i64 b),fun g t cs hne h => by simpa [World.setCells] using (h.far (p:=⟨gK,1,none⟩) hne _).far (p:=⟨gK,2,none⟩) hne _,fun B w hB h => by simpa [World.setCells] using (h.setCell (p:=⟨gK,1,none⟩) hB _).setCell (p:=⟨gK,2,none⟩) hB _⟩
  | [a,b,c],_,_ => exact ⟨by simpa [World.setCells,kyV] using ((hK.set 1 (.int .i64 a)).set 2 (.int .i64 b)).set 3 (.int .i64 c),fun g t cs hne h => by simpa [World.setCells] using ((h.far (p:=⟨gK,1,none⟩) hne _).far (p:=⟨gK,2,none⟩) hne _).far (p:=⟨gK,3,none⟩) hne _,fun B w hB h => by simpa [World.setCells] using ((h.setCell (p:=⟨gK,1,none⟩) hB _).setCell (p:=⟨gK,2,none⟩) hB _).setCell (p:=⟨gK,3,none⟩) hB _⟩
  | _ :: _ :: _ :: _ :: _,_,h => simp at h
set_option maxHeartbeats 4000000 in
set_option maxRecDepth 100000 in
theorem key_c (ps : Int) (Q : List Int) (AQ : Option Addr) (cQ : Nat) (w : World) (h0 : 0 < Q.length) (h3 : Q.length ≤ 3) (hs : SlI w AQ Q) :
    Calls Tryz.prog 118 #[.agg #[.int .i64 ps,.slice AQ Q.length cQ]] w fun e w' => e = .returned (.agg (kyV (ps,Q))) ∧ Below w.heap.size w w':=by
  have CP:=Lib.hid (fun W h => run_copy3 W (w.heap.size + 1 + 1) Q AQ cQ (.int .i64 ps) (.int .i64 0) (.int .i64 0) (.int .i64 0) h0 h3 (hs.below h))
  obtain ⟨q0,q1,q2,hk⟩ : ∃ q0 q1 q2 : Int,kyV (ps,Q) = #[.int .i64 ps,.int .i64 q0,.int .i64 q1,.int .i64 q2]:=⟨_,_,_,rfl⟩
  rw [hk]
  have HK:=Lib.hid hk
  clear hs hk
  go_enter Tryz.func118,Tryz.ntmps118
  go_upto_region 2 with fail
  obtain ⟨W6,hW6⟩ : ∃ W6 : World,W6 = ((w.alloc (.cells #[.int .i64 ps,.slice AQ Q.length cQ] 33)).alloc (.cells #[.int .i64 0,.int .i64 0,.int .i64 0,.int .i64 0] 179)).alloc (.cells #[.int .i64 ps,.int .i64 0,.int .i64 0,.int .i64 0] 179):=⟨_,rfl⟩
  have G0 : Box W6 w.heap.size 33 #[.int .i64 ps,.slice AQ Q.length cQ]:=by rw [hW6];exact bX0
  have G1 : Box W6 (w.heap.size + 1) 179 #[.int .i64 0,.int .i64 0,.int .i64 0,.int .i64 0]:=by rw [hW6];exact bX0
  have G2 : Box W6 (w.heap.size + 1 + 1) 179 #[.int .i64 ps,.int .i64 0,.int .i64 0,.int .i64 0]:=by rw [hW6];exact bX0
  have G5 : Below w.heap.size w W6:=by rw [hW6];exact bB0
  rw [← hW6]
  clear hW6
  have hcp:=CP.out W6.drew (by exact bB1 G5) G2.drew
  have a0:=G0.cell 0;have a1:=G0.cell 1
  simp at a0 a1
  have l0:=G0.lt;have l1:=G1.lt;have l2:=G2.lt
  obtain ⟨k1,k2,k3⟩:=keyed W6.drew (w.heap.size + 1 + 1) ps Q h0 h3 G2.drew
  have k4:=k2 _ _ _ (show w.heap.size + 1 ≠ w.heap.size + 1 + 1 by omega) G1.drew
  have k5:=k3 w.heap.size w (by omega) (by exact bB1 G5)
  clear k2 k3
  generalize W6.drew.setCells (w.heap.size + 1 + 1) 1 (Q.map (Value.int .i64)) = W7 at *
  rw [HK.out] at k1
  clear HK
  go_region
  clear hcp CP a0 a1 l0 l1 l2 G0 G1 G2
  have l1:=k1.lt;have l2:=k4.lt
  have c0:=k1.cell 0;have c1:=k1.cell 1;have c2:=k1.cell 2;have c3:=k1.cell 3
  have d0:=k4.cell 0;have d1:=k4.cell 1;have d2:=k4.cell 2;have d3:=k4.cell 3;have d4:=k4.froz
  simp at c0 c1 c2 c3 d0 d1 d2 d3
  go_wp2
  refine bodyPost_ret (res_c1 rfl rfl (show Box _ _ 179 #[.int .i64 ps,.int .i64 q0,.int .i64 q1,.int .i64 q2] from ?hE) Tryz.underlying179 rfl tk_size) rfl ⟨rfl, ?hB⟩
  case hE => exact bX0
  case hB => exact bB1 k5
end Go.Proofs.YtpnfgmgoafgcbaaGreat
/-
  A map from keys of poses to numbers that a call makes, in plain words, and the laws of its look-up and its store (chapter 6).
-/
set_option linter.unusedVariables false
namespace Go.Proofs.YtpnfgmgoafgcbaaGreat
open Go.RowKit Go.Shelf
abbrev Ky:=Int × Int × Int × Int
def kV (k : Ky) : Value:=.agg #[.int .i64 k.1,.int .i64 k.2.1,.int .i64 k.2.2.1,.int .i64 k.2.2.2]
def kyP (p : Ps) : Ky:=(p.1,p.2.getD 0 0,p.2.getD 1 0,p.2.getD 2 0)
theorem kyP_V (p : Ps) : Value.agg (kyV p) = kV (kyP p):=rfl
theorem run_equal_k (s t : Ky) (w : World) : (Op.equal 179 (kV s) (kV t)).run Tryz.prog w = .ok (decide (s = t)) w:=by
  obtain ⟨a,b,c,d⟩:=s
  obtain ⟨x,y,z,u⟩:=t
  unfold Op.equal
  have h : Op.maxDepth = 9998 + 1 + 1:=rfl
  rw [h]
  simp only [kV]
  rw [run_equalIn_agg w (9998 + 1) 179 _ _ (by kernel_rfl) (by kernel_rfl)]
  have e:=run_equalIn_ints 9997 51 3 [b,c,d] [y,z,u] w Tryz.underlying51 rfl rfl
  simp at e
  simp [go_sem,e]
  by_cases h1 : a = x <;> by_cases h2 : b = y <;> by_cases h3 : c = z <;> by_cases h4 : d = u <;> simp [h1,h2,h3,h4]
theorem run_check_kint (em : Bool) (n : Nat) (a : Int) (w : World) : (Instr.checkKey em (n + 1) 3 (.int .i64 a)).run Tryz.prog w = .ok () w:=by
  unfold Instr.checkKey
  simp [go_sem]
theorem run_check_karr (em : Bool) (n : Nat) (b c d : Int) (w : World) : (Instr.checkKey em (n + 1 + 1) 51 (.agg #[.int .i64 b,.int .i64 c,.int .i64 d])).run Tryz.prog w = .ok () w:=by
  unfold Instr.checkKey
  simp [go_sem]
  have hs : (sizeOf 3).run Tryz.prog w = .ok 1 w:=by kernel_rfl
  have ha : (isAgg 3).run Tryz.prog w = .ok false w:=by kernel_rfl
  rw [show List.range' 0 3 = [0,1,2] from rfl]
  simp only [List.forIn_cons,List.forIn_nil,Sem.run_bind,hs,ha,Result.andThen_ok,Sem.run_map]
  simp [go_sem,run_check_kint,hs,ha,Result.andThen]
theorem run_check_k (em : Bool) (s : Ky) (w : World) : (Instr.checkKey em 10000 179 (kV s)).run Tryz.prog w = .ok () w:=by
  obtain ⟨a,b,c,d⟩:=s
  unfold Instr.checkKey
  simp [kV,go_sem,run_check_kint em 9998,run_check_karr em 9997]
/-- The map's entries. -/
def KMap (w : World) (b : Nat) (es : List (Ky × Int)) : Prop:=∃ l clock,w.heap[b]? = some (.map l clock) ∧ l.toList.map (fun e => (e.key,e.val)) = es.map fun e => (kV e.1,Value.int .i64 e.2)
def lkp (es : List (Ky × Int)) (k : Ky) : Option Int:=(es.find? fun e => decide (k = e.1)).map (·.2)
theorem run_asking_k (s : Ky) (w : World) : ∀ (l : List MapEntry) (es : List (Ky × Int)) (i : Nat),l.map (fun e => (e.key,e.val)) = es.map (fun e => (kV e.1,Value.int .i64 e.2)) →
    (lkp es s = none ∧ (Instr.findAsking 179 (kV s) l i).run Tryz.prog w = .ok none w) ∨ (∃ v,lkp es s = some v ∧ ∃ j,(Instr.findAsking 179 (kV s) l i).run Tryz.prog w = .ok (some (j,.int .i64 v)) w)
  | [],[],i,_ => .inl ⟨rfl,by simp [Instr.findAsking]⟩
  | e :: l,x :: es,i,h => by
    simp only [List.map_cons,List.cons.injEq,Prod.mk.injEq] at h
    have he:=run_equal_k s x.1 w
    rw [← h.1.1] at he
    by_cases hs : s = x.1
    · refine .inr ⟨x.2,by simp [lkp,hs],i, ?_⟩
      unfold Instr.findAsking
      rw [decide_eq_true hs] at he
      simp [Sem.run_bind,he,h.1.2]
    · have hl : lkp (x :: es) s = lkp es s:=by simp [lkp,hs]
      rcases run_asking_k s w l es (i + 1) h.2 with ⟨h1,h2⟩ | ⟨v,h1,j,h2⟩
      · refine .inl ⟨hl.trans h1, ?_⟩
        unfold Instr.findAsking
        simp [Sem.run_bind,he,hs,h2]
      · refine .inr ⟨v,hl.trans h1,j, ?_⟩
        unfold Instr.findAsking
        simp [Sem.run_bind,he,hs,h2]
  | [],x :: es,i,h => by simp at h
  | e :: l,[],i,h => by simp at h
theorem run_findKey_k (s : Ky) (w : World) (l : List MapEntry) (es : List (Ky × Int)) (h : l.map (fun e => (e.key,e.val)) = es.map (fun e => (kV e.1,Value.int .i64 e.2))) :
    (lkp es s = none ∧ (Instr.findKey 179 (kV s) l).run Tryz.prog w = .ok none w) ∨ (∃ v,lkp es s = some v ∧ ∃ j,(Instr.findKey 179 (kV s) l).run Tryz.prog w = .ok (some (j,.int .i64 v)) w):=by
  have hA:=run_asking_k s w l es 0 h
  unfold Instr.findKey
  rw [Sem.run_bind,run_underlying Tryz.underlying179]
  cases l with
  | nil =>
    have hk : es = []:=by simpa using h.symm
    subst hk
    exact .inl ⟨rfl,by simp [Instr.findNow,Result.andThen]⟩
  | cons e l =>
    have hn : ∀ d,Instr.findNow (.struct d) (kV s) (e :: l) 0 = none:=fun d => by
      unfold Instr.findNow;simp [Instr.sameNow]
    simpa [hn,Result.andThen] using hA
theorem run_look_k (a b c d : Int) (w : World) (g : Nat) (es : List (Ky × Int)) (h : KMap w g es) :
    (Instr.lookup 161 (.map (some g)) (.agg #[.int .i64 a,.int .i64 b,.int .i64 c,.int .i64 d]) false).run Tryz.prog w = .ok (.int .i64 ((lkp es (a,b,c,d)).getD 0)) w:=by
  obtain ⟨l,clock,hb,hk⟩:=h
  have hz : (zeroValue 3).run Tryz.prog w = .ok (.int .i64 0) w:=by kernel_rfl
  have hc:=run_check_k l.isEmpty (a,b,c,d) w
  have hf:=run_findKey_k (a,b,c,d) w l.toList es hk
  simp only [kV] at hf hc
  unfold Instr.lookup
  rw [Sem.run_bind,run_underlying Tryz.underlying161]
  have hg : (getObj g).run Tryz.prog w = .ok (.map l clock) w:=by simp [getObj,Sem.run,hb]
  simp only [Result.andThen_ok,Sem.run_bind,hg,Sem.run_pure,hc]
  rcases hf with ⟨h1,h2⟩ | ⟨v,h1,j,h2⟩
  · simp [h2,hz,h1]
  · simp [h2,h1]
theorem run_look_k2 (a b c d : Int) (w : World) (g : Nat) (es : List (Ky × Int)) (h : KMap w g es) :
    (Instr.lookup 161 (.map (some g)) (.agg #[.int .i64 a,.int .i64 b,.int .i64 c,.int .i64 d]) true).run Tryz.prog w = .ok (.tuple #[.int .i64 ((lkp es (a,b,c,d)).getD 0),.bool (lkp es (a,b,c,d)).isSome]) w:=by
  obtain ⟨l,clock,hb,hk⟩:=h
  have hz : (zeroValue 3).run Tryz.prog w = .ok (.int .i64 0) w:=by kernel_rfl
  have hc:=run_check_k l.isEmpty (a,b,c,d) w
  have hf:=run_findKey_k (a,b,c,d) w l.toList es hk
  simp only [kV] at hf hc
  unfold Instr.lookup
  rw [Sem.run_bind,run_underlying Tryz.underlying161]
  have hg : (getObj g).run Tryz.prog w = .ok (.map l clock) w:=by simp [getObj,Sem.run,hb]
  simp only [Result.andThen_ok,Sem.run_bind,hg,Sem.run_pure,hc]
  rcases hf with ⟨h1,h2⟩ | ⟨v,h1,j,h2⟩
  · simp [h2,hz,h1]
  · simp [h2,h1]
/-- What a store of a new key makes of the map. -/
def putK (w : World) (g : Nat) (k : Ky) (v : Int) : Obj :=
  match w.heap[g]? with
  | some (.map es clock) => .map (es.push { key:=kV k,val:=.int .i64 v,born:=clock }) (clock + 1)
  | _ => .map #[] 0
theorem run_put_k (a b c d v : Int) (w : World) (g : Nat) (es : List (Ky × Int)) (h : KMap w g es) (hn : lkp es (a,b,c,d) = none) :
    (Instr.mapUpdate 161 (.map (some g)) (.agg #[.int .i64 a,.int .i64 b,.int .i64 c,.int .i64 d]) (.int .i64 v)).run Tryz.prog w = .ok () (w.putObj g (putK w g (a,b,c,d) v)):=by
  obtain ⟨l,clock,hb,hk⟩:=h
  unfold Instr.mapUpdate
  rw [Sem.run_bind,run_underlying Tryz.underlying161]
  have hf:=run_findKey_k (a,b,c,d) w l.toList es hk
  have hc:=run_check_k false (a,b,c,d) w
  have hg : (getObj g).run Tryz.prog w = .ok (.map l clock) w:=by simp [getObj,Sem.run,hb]
  simp only [kV] at hf hc
  simp only [Result.andThen_ok,Sem.run_bind,hg,hc]
  rcases hf with ⟨h1,h2⟩ | ⟨u,h1,j,h2⟩
  · simp only [h2,Result.andThen_ok]
    simp [setObj,Sem.run,hb,World.putObj,putK,kV]
  · rw [hn] at h1;cases h1
theorem KMap.put {w : World} {g : Nat} {es : List (Ky × Int)} (h : KMap w g es) (k : Ky) (v : Int) : KMap (w.putObj g (putK w g k v)) g (es ++ [(k,v)]):=by
  obtain ⟨l,clock,hb,hk⟩:=h
  exact ⟨l.push { key:=kV k,val:=.int .i64 v,born:=clock },clock + 1,(World.putObj_heap_same (Array.getElem?_eq_some_iff.1 hb).1).trans (by simp only [putK,hb]),by simp [hk]⟩
theorem KMap.made (w : World) : KMap (w.alloc (.map #[] 0)) w.heap.size []:=⟨#[],0,heap_alloc_new w _,rfl⟩
theorem KMap.madeAt (w : World) (g : Nat) (hg : g = w.heap.size) : KMap (w.alloc (.map #[] 0)) g []:=hg ▸ KMap.made w
theorem KMap.putOther {w : World} {b : Nat} {es : List (Ky × Int)} (h : KMap w b es) {k : Nat} (hk : b ≠ k) (o : Obj) : KMap (w.putObj k o) b es:=by
  obtain ⟨l,clock,hb,r⟩:=h
  exact ⟨l,clock,(World.putObj_heap_other hk).trans hb,r⟩
theorem KMap.setCell {w : World} {b : Nat} {es : List (Ky × Int)} (h : KMap w b es) (p : Addr) (u : Value) : KMap (w.setCell p u) b es:=by
  obtain ⟨l,clock,hb,r⟩:=h
  refine ⟨l,clock, ?_,r⟩
  simp only [World.setCell,Array.getElem?_modify,hb]
  split <;> rfl
theorem KMap.alloc {w : World} {b : Nat} {es : List (Ky × Int)} (h : KMap w b es) (o : Obj) : KMap (w.alloc o) b es:=by
  obtain ⟨l,clock,hb,r⟩:=h
  exact ⟨l,clock,(Below.heap_alloc w o b (Array.getElem?_eq_some_iff.1 hb).1).trans hb,r⟩
theorem KMap.drew {w : World} {b : Nat} {es : List (Ky × Int)} (h : KMap w b es) : KMap w.drew b es:=h
theorem KMap.lt {w : World} {b : Nat} {es : List (Ky × Int)} (h : KMap w b es) : b < w.heap.size:=by
  obtain ⟨l,clock,hb,r⟩:=h
  exact (Array.getElem?_eq_some_iff.1 hb).1
theorem KMap.below {w w' : World} {b B : Nat} {es : List (Ky × Int)} (h : KMap w b es) (hb : Below B w w') (hlt : b < B) : KMap w' b es:=by
  obtain ⟨l,clock,he,r⟩:=h
  exact ⟨l,clock,(hb.block b hlt).trans he,r⟩
theorem KMap.ne_box {w : World} {b g : Nat} {t : TypeId} {cs : Array Value} {es : List (Ky × Int)} (h : KMap w b es) (hb : Box w g t cs) : g ≠ b:=by
  rintro rfl
  obtain ⟨l,clock,he,r⟩:=h
  rw [show w.heap[g]? = _ from hb] at he
  cases he
theorem lkp_app (es es' : List (Ky × Int)) (k : Ky) : lkp (es ++ es') k = (lkp es k).or (lkp es' k):=by
  simp only [lkp,List.find?_append]
  cases es.find? (fun e => decide (k = e.1)) <;> simp
end Go.Proofs.YtpnfgmgoafgcbaaGreat
/-
  The walk of SweepOf (chapter 6).
-/
set_option linter.unusedVariables false
namespace Go.Proofs.YtpnfgmgoafgcbaaGreat
open Go.RowKit Go.Shelf
attribute [local go_sem] Oper.semAt_some
theorem res_ca {P : Program} {fn : Func} {p q : Tmp} {ty : TypeId} {tmps : Array Value} {w : World} {g : Nat} {t : TypeId} {cs : Array Value} {d : TypeDesc} (h : fn.results = #[.cell p ty,.tmp q]) (hp : tmps.getD p undef = .pointer (some ⟨g,0,none⟩)) (hg : Box w g t cs)
    (hu : P.underlying ty = some d) (hd : (match d with | .struct _ | .array _ _ => true | _ => false) = true) (hi : (P.info? ty).map (·.size) = some cs.size) : (results fn tmps).run P w = .ok (.tuple #[.agg cs,tmps.getD q undef]) w:=by
  have hp' : tmps[p]?.getD undef = .pointer (some ⟨g,0,none⟩):=by simpa using hp
  simp [results,h,hp',asAddr,run_loadVar_row w g t ty cs (0,0) d hg hu hd hi,Result.andThen]
theorem mvE_ok {s : Sc} {m : Mv} (h : mvE s m = 0) : (-1 ≤ m.1 ∧ m.1 < s.L.length) ∧ (m.2 = 1 ∨ m.2 = -1):=by
  unfold mvE at h
  rw [fstE_zero] at h
  simp [unl_zero,inB] at h
  omega
theorem omE_ok {s : Sc} {p : Ps} {m : Mv} (h : omE s p m = 0) : SOk s ∧ POk s p ∧ mvE s m = 0:=by
  unfold omE at h
  split at h
  · rename_i h0;exact absurd h h0
  · rename_i h0
    have:=cpE_ok (Decidable.of_not_not h0)
    exact ⟨this.1,this.2,h⟩
/-- What SweepOf answers. -/
def swO (s : Sc) (p : Ps) (m : Mv) : Bx × Int:=if omE s p m ≠ 0 then ((0,0,0,0),omE s p m) else ((swP s p m).1,mvdE s p m)
set_option maxHeartbeats 4000000 in
set_option maxRecDepth 100000 in
theorem sweepOf_c (bx bY sl fx fX fy fY ps mj mb : Int) (L : List Lk) (B : List Bx) (Q : List Int) (AL AB AQ : Option Addr) (cL cB cQ : Nat) (w : World) (hL : L.length ≤ 1000) (hB : B.length ≤ 9223372036854775807) (hQ : Q.length ≤ 9223372036854775807)
    (hs1 : SlV w AL (L.flatMap lkV)) (hs2 : SlV w AB (B.flatMap bxV)) (hs3 : SlI w AQ Q) :
    Calls Tryz.prog 43 #[.agg #[.int .i64 bx,.int .i64 bY,.int .i64 sl,.slice AL L.length cL,.int .i64 fx,.int .i64 fX,.int .i64 fy,.int .i64 fY,.slice AB B.length cB],.agg #[.int .i64 ps,.slice AQ Q.length cQ],.agg #[.int .i64 mj,.int .i64 mb]] w fun e w' => e = .returned (.tuple #[.agg (bxA (swO (⟨bx,bY,sl,L,(fx,fX,fy,fY),B⟩ : Sc) (ps,Q) (mj,mb)).1),.int .i64 (swO (⟨bx,bY,sl,L,(fx,fX,fy,fY),B⟩ : Sc) (ps,Q) (mj,mb)).2]) ∧ Below w.heap.size w w':=by
  have OMc:=Lib.hid (fun W (h : Below w.heap.size w W) => openMove_c bx bY sl fx fX fy fY ps mj mb L B Q AL AB AQ cL cB cQ W hL hB hQ (hs1.below h) (hs2.below h) (hs3.below h))
  have HO:=Lib.hid (show swO (⟨bx,bY,sl,L,(fx,fX,fy,fY),B⟩ : Sc) (ps,Q) (mj,mb) = if omE (⟨bx,bY,sl,L,(fx,fX,fy,fY),B⟩ : Sc) (ps,Q) (mj,mb) ≠ 0 then ((0,0,0,0),omE (⟨bx,bY,sl,L,(fx,fX,fy,fY),B⟩ : Sc) (ps,Q) (mj,mb)) else ((swP (⟨bx,bY,sl,L,(fx,fX,fy,fY),B⟩ : Sc) (ps,Q) (mj,mb)).1,mvdE (⟨bx,bY,sl,L,(fx,fX,fy,fY),B⟩ : Sc) (ps,Q) (mj,mb)) from rfl)
  have SWc:=Lib.hid (fun (h0 : omE (⟨bx,bY,sl,L,(fx,fX,fy,fY),B⟩ : Sc) (ps,Q) (mj,mb) = 0) => fun W (h : Below w.heap.size w W) => sweep_c bx bY sl fx fX fy fY ps mj mb L B Q AL AB AQ cL cB cQ W (omE_ok h0).1 (omE_ok h0).2.1 (mvE_ok (omE_ok h0).2.2).1 (by have:=(mvE_ok (omE_ok h0).2.2).2;dsimp only at this;omega) (hs1.below h) (hs3.below h))
  clear hs1 hs2 hs3
  generalize omE (⟨bx,bY,sl,L,(fx,fX,fy,fY),B⟩ : Sc) (ps,Q) (mj,mb) = r at *
  generalize (swP (⟨bx,bY,sl,L,(fx,fX,fy,fY),B⟩ : Sc) (ps,Q) (mj,mb)).1 = SB at *
  generalize mvdE (⟨bx,bY,sl,L,(fx,fX,fy,fY),B⟩ : Sc) (ps,Q) (mj,mb) = r2 at *
  generalize mvd (ps,Q) (mj,mb) = P at *
  generalize swO (⟨bx,bY,sl,L,(fx,fX,fy,fY),B⟩ : Sc) (ps,Q) (mj,mb) = R at *
  obtain ⟨P1,P2⟩:=P
  obtain ⟨s1,s2,s3,s4⟩:=SB
  obtain ⟨RB,re⟩:=R
  by_cases hr : r = 0
  · have hR : RB = (s1,s2,s3,s4) ∧ re = r2:=by have:=HO.out;rw [if_neg (by simp [hr])] at this;simpa using this
    obtain ⟨rfl,rfl⟩:=hR
    have SWd:=Lib.hid (SWc.out hr)
    clear SWc
    subst hr
    clear HO
    go_enter Tryz.func43,Tryz.ntmps43
    go_upto_region 5 with (first | (go_at_call 113;refine (OMc.out _ (by exact bB0)).mono ?_;rintro e w2 ⟨rfl,hb2⟩;have hz2 : w.heap.size + 1 + 1 + 1 < w2.heap.size:=(by have:=hb2.size;(try simp at this);omega);have z3 : Box w2 (w.heap.size + 1 + 1 + 1) 27 #[.int .i64 0,.int .i64 0,.int .i64 0,.int .i64 0]:=(by exact bX1 hb2);have z2 : Box w2 (w.heap.size + 1 + 1) 84 #[.int .i64 mj,.int .i64 mb]:=(by exact bX1 hb2);have m0:=z2.cell 0;have m1:=z2.cell 1;have b0:=z3.cell 0;have b1:=z3.cell 1;have b2:=z3.cell 2;have b3:=z3.cell 3;have b4:=z3.froz;(simp at m0 m1 b0 b1 b2 b3);have hl3:=z3.lt;have hl2:=z2.lt) | (go_at_call 115;refine (SWd.out _ (by exact bB1 hb2)).mono ?_;rintro e w5 hC;obtain ⟨gQ,capQ,rfl,hgQ,hsQ,⟨csQ,hbQ⟩,hb5⟩:=hC;have hz5 : w2.heap.size < w5.heap.size:=(by have:=hb5.size;(try simp at this);omega);have y3 : Box w5 (w.heap.size + 1 + 1 + 1) 27 #[.int .i64 0,.int .i64 0,.int .i64 0,.int .i64 0]:=(by exact bX1 hb5);have d0:=y3.cell 0;have d1:=y3.cell 1;have d2:=y3.cell 2;have d3:=y3.cell 3;have d4:=y3.froz;(simp at d0 d1 d2 d3);have hl5:=y3.lt;dsimp only [bxA]) | fail)
    obtain ⟨W6,hW6⟩ : ∃ W6 : World,W6 = (w5.alloc (.cells #[.int .i64 s1,.int .i64 s2,.int .i64 s3,.int .i64 s4] 27)).alloc (.cells #[.int .i64 bx,.int .i64 bY,.int .i64 sl,.slice AL L.length cL,.int .i64 fx,.int .i64 fX,.int .i64 fy,.int .i64 fY,.slice AB B.length cB,.int .i64 P1,.slice (some ⟨gQ,0,none⟩) P2.length capQ] 135):=⟨_,rfl⟩
    have g0 : Box W6 w5.heap.size 27 #[.int .i64 s1,.int .i64 s2,.int .i64 s3,.int .i64 s4]:=by rw [hW6];exact bX0
    have g3 : Box W6 (w.heap.size + 1 + 1 + 1) 27 #[.int .i64 0,.int .i64 0,.int .i64 0,.int .i64 0]:=by rw [hW6];exact bX0
    have g5 : Below w.heap.size w W6:=by rw [hW6];exact bB2 hb2 hb5
    rw [← hW6]
    clear hW6 b0 b1 b2 b3 b4 d0 d1 d2 d3 d4 z3
    have o0:=g0.cell 0;have o1:=g0.cell 1;have o2:=g0.cell 2;have o3:=g0.cell 3
    have d0:=g3.cell 0;have d1:=g3.cell 1;have d2:=g3.cell 2;have d3:=g3.cell 3;have d4:=g3.froz
    simp at d0 d1 d2 d3 o0 o1 o2 o3
    have l0:=g0.lt;have l3:=g3.lt
    go_wp2_with fail
    refine bodyPost_ret (res_ca rfl rfl (show Box _ _ 27 #[.int .i64 s1,.int .i64 s2,.int .i64 s3,.int .i64 s4] from ?hE) Tryz.underlying27 rfl tb_size) rfl ⟨rfl, ?hB⟩
    case hE => exact bX0
    case hB => exact bB1 g5
  · have hR : RB = (0,0,0,0) ∧ re = r:=by have:=HO.out;rw [if_pos hr] at this;simpa using this
    obtain ⟨rfl,rfl⟩:=hR
    have e1:=bneT hr
    clear HO hr SWc
    go_enter Tryz.func43,Tryz.ntmps43
    go_wp2_with (first | (go_at_call 113;refine (OMc.out _ (by exact bB0)).mono ?_;rintro e w2 ⟨rfl,hb2⟩;have hz2 : w.heap.size + 1 + 1 + 1 < w2.heap.size:=(by have:=hb2.size;(try simp at this);omega);have z3 : Box w2 (w.heap.size + 1 + 1 + 1) 27 #[.int .i64 0,.int .i64 0,.int .i64 0,.int .i64 0]:=(by exact bX1 hb2);have z2 : Box w2 (w.heap.size + 1 + 1) 84 #[.int .i64 mj,.int .i64 mb]:=(by exact bX1 hb2);have m0:=z2.cell 0;have m1:=z2.cell 1;have b0:=z3.cell 0;have b1:=z3.cell 1;have b2:=z3.cell 2;have b3:=z3.cell 3;have b4:=z3.froz;(simp at m0 m1 b0 b1 b2 b3);have hl3:=z3.lt;have hl2:=z2.lt) | fail)
    refine bodyPost_ret (res_ca rfl rfl (show Box _ _ 27 #[.int .i64 0,.int .i64 0,.int .i64 0,.int .i64 0] from ?hE) Tryz.underlying27 rfl tb_size) rfl ⟨rfl, ?hB⟩
    case hE => exact bX0
    case hB => exact bB1 hb2
end Go.Proofs.YtpnfgmgoafgcbaaGreat

/-
  CheckPath of the program (chapter 6).
-/
import Derived.Test.YtpnfgmgoafgcbaaGreatRPe
import Derived.Test.YtpnfgmgoafgcbaaGreatA6
import Derived.Test.YtpnfgmgoafgcbaaGreatTry
set_option linter.all false
set_option linter.unusedVariables false
namespace Go.Proofs.YtpnfgmgoafgcbaaGreat
open Go.RowKit
attribute [local go_sem] Oper.semAt_some
/-- What CheckPath answers. -/
def chG (s : Sc) (n : Int) (i : Nat) (p : Ps) (r : List Mv) : Ps × Int × Int:=if (pthG s i p r).2 ≠ 0 then ((0,[]),pthG s i p r) else (endP p r,n,0)
def chkP (s : Sc) (p : Ps) (r : List Mv) : Ps × Int × Int:=if (pthE s p r).2 ≠ 0 then ((0,[]),pthE s p r) else (endP p r,r.length,0)
theorem chG_m {s : Sc} {n : Int} {i : Nat} {p : Ps} {m : Mv} {r : List Mv} (h : mvE s m ≠ 0) : chG s n i p (m :: r) = (((0,[]) : Ps),(i : Int),mvE s m):=by
  unfold chG pthG
  rw [if_pos h,if_pos h]
theorem chG_f {s : Sc} {n : Int} {i : Nat} {p : Ps} {m : Mv} {r : List Mv} (h : mvE s m = 0) (h2 : mayP s p m = false) : chG s n i p (m :: r) = (((0,[]) : Ps),(i : Int),(24 : Int)):=by
  have e : pthG s i p (m :: r) = ((i : Int),(24 : Int)):=by rw [pthG,if_neg (by simp [h]),if_pos h2]
  unfold chG
  rw [e,if_pos (show ((i : Int),(24 : Int)).2 ≠ 0 from by show (24 : Int) ≠ 0;decide)]
theorem chG_t {s : Sc} {n : Int} {i : Nat} {p : Ps} {m : Mv} {r : List Mv} (h : mvE s m = 0) (h2 : mayP s p m = true) : chG s n i p (m :: r) = chG s n (i + 1) (mvd p m) r:=by
  unfold chG
  rw [show pthG s i p (m :: r) = pthG s (i + 1) (mvd p m) r by rw [pthG,if_neg (by simp [h]),if_neg (by simp [h2])]]
  rfl
/-- The block of a row of ints, where there are any, is new. -/
def newB (A : Option Addr) (n B : Nat) : Prop:=0 < n → ∀ b o,A = some ⟨b,o,none⟩ → B ≤ b
/-- How CheckPath ends. -/
def CpEnd (c : Ps × Int × Int) (w : World) (e : Ending) (w' : World) : Prop :=
  ∃ D d,e = .returned (.tuple #[.agg #[.int .i64 c.1.1,.slice D c.1.2.length d],.int .i64 c.2.1,.int .i64 c.2.2]) ∧ SlI w' D c.1.2 ∧ newB D c.1.2.length w.heap.size ∧ Below w.heap.size w w'
section
variable {W : World} {g k : Nat} {t : TypeId} {cs : Array Value} {a0 a1 a2 a3 a4 a5 a6 a7 a8 a9 a10 : Value}
theorem put11 (hs : cs.size = 11) : (((((((((((cs.setIfInBounds 0 a0).setIfInBounds 1 a1).setIfInBounds 2 a2).setIfInBounds 3 a3).setIfInBounds 4 a4).setIfInBounds 5 a5).setIfInBounds 6 a6).setIfInBounds 7 a7).setIfInBounds 8 a8).setIfInBounds 9 a9).setIfInBounds 10 a10) = #[a0,a1,a2,a3,a4,a5,a6,a7,a8,a9,a10]:=by
  apply Array.ext_getElem?
  intro i
  have h : i = 0 ∨ i = 1 ∨ i = 2 ∨ i = 3 ∨ i = 4 ∨ i = 5 ∨ i = 6 ∨ i = 7 ∨ i = 8 ∨ i = 9 ∨ i = 10 ∨ 11 ≤ i:=by omega
  rcases h with rfl | rfl | rfl | rfl | rfl | rfl | rfl | rfl | rfl | rfl | rfl | h
  all_goals first | (simp [Array.getElem?_setIfInBounds,hs];done) | (rw [Array.getElem?_eq_none (by simp [hs];omega),Array.getElem?_eq_none (by simp;omega)])
theorem put11_box (h : Box W g t cs) (hs : cs.size = 11) : Box (((((((((((W.setCell ⟨g,0,none⟩ a0).setCell ⟨g,1,none⟩ a1).setCell ⟨g,2,none⟩ a2).setCell ⟨g,3,none⟩ a3).setCell ⟨g,4,none⟩ a4).setCell ⟨g,5,none⟩ a5).setCell ⟨g,6,none⟩ a6).setCell ⟨g,7,none⟩ a7).setCell ⟨g,8,none⟩ a8).setCell ⟨g,9,none⟩ a9).setCell ⟨g,10,none⟩ a10) g t #[a0,a1,a2,a3,a4,a5,a6,a7,a8,a9,a10] :=
  bx0 ((((((((((((h.set 0 a0).set 1 a1).set 2 a2).set 3 a3).set 4 a4).set 5 a5).set 6 a6).set 7 a7).set 8 a8).set 9 a9).set 10 a10)) (put11 hs)
theorem put11_far (h : Box W k t cs) (hne : k ≠ g) : Box (((((((((((W.setCell ⟨g,0,none⟩ a0).setCell ⟨g,1,none⟩ a1).setCell ⟨g,2,none⟩ a2).setCell ⟨g,3,none⟩ a3).setCell ⟨g,4,none⟩ a4).setCell ⟨g,5,none⟩ a5).setCell ⟨g,6,none⟩ a6).setCell ⟨g,7,none⟩ a7).setCell ⟨g,8,none⟩ a8).setCell ⟨g,9,none⟩ a9).setCell ⟨g,10,none⟩ a10) k t cs:=(((((((((((h.far hne _).far hne _).far hne _).far hne _).far hne _).far hne _).far hne _).far hne _).far hne _).far hne _).far hne _)
theorem put11_below {B : Nat} {V : World} (h : Below B V W) (hg : B ≤ g) : Below B V (((((((((((W.setCell ⟨g,0,none⟩ a0).setCell ⟨g,1,none⟩ a1).setCell ⟨g,2,none⟩ a2).setCell ⟨g,3,none⟩ a3).setCell ⟨g,4,none⟩ a4).setCell ⟨g,5,none⟩ a5).setCell ⟨g,6,none⟩ a6).setCell ⟨g,7,none⟩ a7).setCell ⟨g,8,none⟩ a8).setCell ⟨g,9,none⟩ a9).setCell ⟨g,10,none⟩ a10):=(((((((((((h.setCell hg _).setCell hg _).setCell hg _).setCell hg _).setCell hg _).setCell hg _).setCell hg _).setCell hg _).setCell hg _).setCell hg _).setCell hg _)
theorem put11_sli {A : Option Addr} {xs : List Int} (h : SlI W A xs) (ho : offB A xs.length g) : SlI (((((((((((W.setCell ⟨g,0,none⟩ a0).setCell ⟨g,1,none⟩ a1).setCell ⟨g,2,none⟩ a2).setCell ⟨g,3,none⟩ a3).setCell ⟨g,4,none⟩ a4).setCell ⟨g,5,none⟩ a5).setCell ⟨g,6,none⟩ a6).setCell ⟨g,7,none⟩ a7).setCell ⟨g,8,none⟩ a8).setCell ⟨g,9,none⟩ a9).setCell ⟨g,10,none⟩ a10) A xs:=SlI.setf (SlI.setf (SlI.setf (SlI.setf (SlI.setf (SlI.setf (SlI.setf (SlI.setf (SlI.setf (SlI.setf (SlI.setf (h) ho) ho) ho) ho) ho) ho) ho) ho) ho) ho) ho
end
set_option maxHeartbeats 8000000 in
set_option maxRecDepth 100000 in
theorem checkPath_c (bx bY sl fx fX fy fY ps : Int) (L : List Lk) (B : List Bx) (Q : List Int) (path : List Mv) (AL AB AQ AP : Option Addr) (cL cB cQ cP : Nat) (w : World) (hL : L.length ≤ 1000) (hB : B.length ≤ 9223372036854775807) (hQ : Q.length ≤ 9223372036854775807) (hn : path.length ≤ 100000) (hs1 : SlV w AL (L.flatMap lkV)) (hs2 : SlV w AB (B.flatMap bxV)) (hs3 : SlI w AQ Q) (hsP : SlV w AP (path.flatMap mvV)) :
    Calls Tryz.prog 16 #[.agg #[.int .i64 bx,.int .i64 bY,.int .i64 sl,.slice AL L.length cL,.int .i64 fx,.int .i64 fX,.int .i64 fy,.int .i64 fY,.slice AB B.length cB],.agg #[.int .i64 ps,.slice AQ Q.length cQ],.slice AP path.length cP] w (CpEnd (chkP (⟨bx,bY,sl,L,(fx,fX,fy,fY),B⟩ : Sc) (ps,Q) path) w):=by
  have FRc:=Lib.hid (fun W (h : Below w.heap.size w W) => free_c bx bY sl fx fX fy fY ps L B Q AL AB AQ cL cB cQ W hL hB hQ (hs1.below h) (hs2.below h) (hs3.below h))
  have hcase : (frE (⟨bx,bY,sl,L,(fx,fX,fy,fY),B⟩ : Sc) (ps,Q) = 0 ∧ path.length ≤ 60) ∨ (chkP (⟨bx,bY,sl,L,(fx,fX,fy,fY),B⟩ : Sc) (ps,Q) path = ((0,[]),0,fstE [frE (⟨bx,bY,sl,L,(fx,fX,fy,fY),B⟩ : Sc) (ps,Q),unl (decide ((path.length : Int) ≤ 60)) 8]) ∧ fstE [frE (⟨bx,bY,sl,L,(fx,fX,fy,fY),B⟩ : Sc) (ps,Q),unl (decide ((path.length : Int) ≤ 60)) 8] ≠ 0):=by
    by_cases h0 : frE (⟨bx,bY,sl,L,(fx,fX,fy,fY),B⟩ : Sc) (ps,Q) = 0
    · by_cases h6 : 60 < path.length
      · right
        have e : fstE [frE (⟨bx,bY,sl,L,(fx,fX,fy,fY),B⟩ : Sc) (ps,Q),unl (decide ((path.length : Int) ≤ 60)) 8] = 8:=by rw [h0,decide_eq_false (by omega)];rfl
        rw [e]
        refine ⟨?_,by decide⟩
        have e2 : pthE (⟨bx,bY,sl,L,(fx,fX,fy,fY),B⟩ : Sc) (ps,Q) path = (0,8):=by unfold pthE;rw [if_neg (by simp [h0]),if_pos h6]
        unfold chkP
        rw [e2,if_pos (by decide)]
      · exact .inl ⟨h0,by omega⟩
    · right
      have e : fstE [frE (⟨bx,bY,sl,L,(fx,fX,fy,fY),B⟩ : Sc) (ps,Q),unl (decide ((path.length : Int) ≤ 60)) 8] = frE (⟨bx,bY,sl,L,(fx,fX,fy,fY),B⟩ : Sc) (ps,Q):=by simp [fstE,h0]
      rw [e]
      refine ⟨?_,h0⟩
      have e2 : pthE (⟨bx,bY,sl,L,(fx,fX,fy,fY),B⟩ : Sc) (ps,Q) path = (0,frE (⟨bx,bY,sl,L,(fx,fX,fy,fY),B⟩ : Sc) (ps,Q)):=by unfold pthE;rw [if_pos h0]
      unfold chkP
      rw [e2,if_pos h0]
  rcases hcase with ⟨h0,h60⟩ | ⟨hR,hne⟩
  · have hR : chkP (⟨bx,bY,sl,L,(fx,fX,fy,fY),B⟩ : Sc) (ps,Q) path = chG (⟨bx,bY,sl,L,(fx,fX,fy,fY),B⟩ : Sc) path.length 0 (ps,Q) (path.drop 0):=by
      have e2 : pthE (⟨bx,bY,sl,L,(fx,fX,fy,fY),B⟩ : Sc) (ps,Q) path = pthG (⟨bx,bY,sl,L,(fx,fX,fy,fY),B⟩ : Sc) 0 (ps,Q) path:=by unfold pthE;rw [if_neg (by simp [h0]),if_neg (by omega)]
      unfold chkP chG
      rw [e2];rfl
    obtain ⟨hS,hp,_⟩:=frE_ok h0
    have hlen:=hS.len
    have hpl:=hp.len
    dsimp only at hlen hpl
    have CLc:=Lib.hid (fun W (h : Below w.heap.size w W) => clone_c Q AQ cQ W (by omega) (by omega) (hs3.below h))
    have MEd:=Lib.hid (fun (pk mj mb : Int) (nQ : Nat) Ak ck W => moveErr_c bx bY sl fx fX fy fY pk mj mb L B nQ AL AB Ak cL cB ck W hL)
    have TRd:=Lib.hid (fun (pk : Int) (Qk : List Int) (mj mb : Int) (hp : POk (⟨bx,bY,sl,L,(fx,fX,fy,fY),B⟩ : Sc) (pk,Qk)) (hm : mvE (⟨bx,bY,sl,L,(fx,fX,fy,fY),B⟩ : Sc) (mj,mb) = 0) Ak ck W (h : Below w.heap.size w W) (hv : SlI W Ak Qk) => try_c bx bY sl fx fX fy fY pk mj mb L B Qk AL AB Ak cL cB ck W hS hp (mvE_ok hm).1 (by have:=(mvE_ok hm).2;dsimp only at this;omega) (hs1.below h) (hs2.below h) hv)
    have HR:=Lib.hid hR
    have HPs:=Lib.hid hp
    have HP:=Lib.hid hsP
    have HQ0:=Lib.hid (show 0 < Q.length by omega)
    have d60 : decide ((path.length : Int) ≤ 60) = true:=decide_eq_true (by omega)
    rw [h0] at FRc
    generalize chkP (⟨bx,bY,sl,L,(fx,fX,fy,fY),B⟩ : Sc) (ps,Q) path = R at *
    obtain ⟨⟨R1,R2⟩,R3,R4⟩:=R
    generalize hsc : (⟨bx,bY,sl,L,(fx,fX,fy,fY),B⟩ : Sc) = sc at *
    clear hs1 hs2 hs3 hsP h0 hR hS hp hlen hpl hsc
    go_enter Tryz.func16,Tryz.ntmps16
    go_upto_region 5 with (first | (go_at_call 82;(with_reducible refine (FRc.out _ (by exact bB0)).mono ?_);rintro e w2 ⟨rfl,hb2⟩;have hz2 : w.heap.size + 1 + 1 + 1 ≤ w2.heap.size:=(by have:=hb2.size;(try simp at this);omega)) | (go_at_call 84;(with_reducible refine (unless_c _ _ _).mono ?_);rintro e w' ⟨rfl,rfl⟩) | (go_at_call 83;(with_reducible refine (first2a _ _ _ _ _ (by simp)).mono ?_);rintro e w' ⟨rfl,rfl⟩) | (go_at_call 83;(with_reducible refine (first2d _ _ _ _ _ (by simp)).mono ?_);rintro e w' ⟨rfl,rfl⟩) | fail)
    obtain ⟨W6,hW6⟩ : ∃ W6 : World,W6 = (w2.alloc (.cells #[.int .i64 bx,.int .i64 bY,.int .i64 sl,.slice AL L.length cL,.int .i64 fx,.int .i64 fX,.int .i64 fy,.int .i64 fY,.slice AB B.length cB,.int .i64 ps,.slice AQ Q.length cQ] 135)).alloc (.cells #[.int .i64 0,.int .i64 (unl true 8)] 37):=⟨_,rfl⟩
    have y9 : Box W6 w2.heap.size 135 #[.int .i64 bx,.int .i64 bY,.int .i64 sl,.slice AL L.length cL,.int .i64 fx,.int .i64 fX,.int .i64 fy,.int .i64 fY,.slice AB B.length cB,.int .i64 ps,.slice AQ Q.length cQ]:=by rw [hW6];exact bX0
    have y6 : Box W6 (w.heap.size + 1 + 1) 33 #[.int .i64 0,.slice none 0 0]:=by rw [hW6];exact bX1 hb2
    have hBx : Below w.heap.size w W6:=by rw [hW6];exact bB1 hb2
    rw [← hW6]
    clear hW6 hb2
    generalize w2.heap.size = g9 at *
    have u10:=y9.cell 10
    simp at u10
    have l9:=y9.lt;have l6:=y6.lt
    go_wp2_with (first | (go_at_call 85;(with_reducible refine (CLc.out _ (by exact bB1 hBx)).mono ?_);rintro e w3 hE3;obtain ⟨g,cap,rfl,ho3,hb3⟩:=hE3;have hz3 : W6.heap.size ≤ w3.heap.size:=(by have:=hb3.size;(try simp at this);omega);have z9 : Box w3 g9 135 #[.int .i64 bx,.int .i64 bY,.int .i64 sl,.slice AL L.length cL,.int .i64 fx,.int .i64 fX,.int .i64 fy,.int .i64 fY,.slice AB B.length cB,.int .i64 ps,.slice AQ Q.length cQ]:=(by exact bX1 hb3);have f9:=z9.froz;have u10:=z9.cell 10;(simp at u10);have l9:=z9.lt) | fail)
    obtain ⟨W7,hW7⟩ : ∃ W7 : World,W7 = w3.setCell ⟨g9,10,none⟩ (.slice (some ⟨g,0,none⟩) Q.length cap):=⟨_,rfl⟩
    have hgl : W6.heap.size ≤ g:=by have h1:=(ho3.lt g (by simp [Value.ownBlock])).1;(try simp at h1);omega
    have Y9 : Box W7 g9 135 #[.int .i64 bx,.int .i64 bY,.int .i64 sl,.slice AL L.length cL,.int .i64 fx,.int .i64 fX,.int .i64 fy,.int .i64 fY,.slice AB B.length cB,.int .i64 ps,.slice (some ⟨g,0,none⟩) Q.length cap]:=by rw [hW7];exact bX1 hb3
    have Y6 : Box W7 (w.heap.size + 1 + 1) 33 #[.int .i64 0,.slice none 0 0]:=by rw [hW7];exact bX1 hb3
    have hB7 : Below w.heap.size w W7:=by rw [hW7];exact bB2 hb3 hBx
    have HV7:=Lib.hid (show SlI W7 (some ⟨g,0,none⟩) Q from by rw [hW7];exact SlI.setf (sli_own ho3) (fun hl b o e => by cases e;show g ≠ g9;omega))
    have o9 : offB (some ⟨g,0,none⟩) Q.length g9:=fun hl b o e => by cases e;omega
    have o6 : offB (some ⟨g,0,none⟩) Q.length (w.heap.size + 1 + 1):=fun hl b o e => by cases e;omega
    have o0 : newB (some ⟨g,0,none⟩) Q.length w.heap.size:=fun hl b o e => by cases e;have:=hBx.size;omega
    rw [← hW7]
    clear hW7 y9 y6 u10 f9 z9 l9 l6 ho3 hb3 hBx CLc FRc HQ0
    go_wp2
    go_loopw [41] (fun i wr => ∃ (k : Nat) (pk : Int) (Qk : List Int) (Ak : Option Addr) (ck : Nat),k ≤ path.length ∧ i = .int .i64 k ∧ Box wr g9 135 #[.int .i64 bx,.int .i64 bY,.int .i64 sl,.slice AL L.length cL,.int .i64 fx,.int .i64 fX,.int .i64 fy,.int .i64 fY,.slice AB B.length cB,.int .i64 pk,.slice Ak Qk.length ck] ∧ Box wr (w.heap.size + 1 + 1) 33 #[.int .i64 0,.slice none 0 0] ∧ SlI wr Ak Qk ∧ offB Ak Qk.length g9 ∧ offB Ak Qk.length (w.heap.size + 1 + 1) ∧ newB Ak Qk.length w.heap.size ∧ Hid (POk sc (pk,Qk)) ∧ Hid (((R1,R2),R3,R4) = chG sc path.length k (pk,Qk) (path.drop k)) ∧ Below w.heap.size w wr) (fun i _ => path.length - (intOf i).toNat)
    case atStart => exact ⟨0,ps,Q,some ⟨g,0,none⟩,cap,Nat.zero_le _,rfl,Y9,Y6,HV7.out,o9,o6,o0,HPs.out,HR.out,hB7⟩
    case round =>
      obtain ⟨k,pk,Qk,Ak,ck,hk,rfl,hT,h6,hv,q9,q6,q0,hpk,hRk,hB⟩:=hrel
      clear HR HPs HV7 Y9 Y6 hB7 o9 o6 o0
      have t0:=hT.cell 0;have t1:=hT.cell 1;have t2:=hT.cell 2;have t3:=hT.cell 3;have t4:=hT.cell 4;have t5:=hT.cell 5;have t6:=hT.cell 6;have t7:=hT.cell 7;have t8:=hT.cell 8;have t9:=hT.cell 9;have t10:=hT.cell 10
      simp at t0 t1 t2 t3 t4 t5 t6 t7 t8 t9 t10
      have lT:=hT.lt;have l6:=h6.lt
      by_cases hlt : k < path.length
      · obtain ⟨bP,oP,rfl,lP,m0',m1'⟩:=mv_cells (HP.out.below hB) (List.getElem?_eq_getElem hlt)
        have hR2:=hRk.out
        rw [List.drop_eq_getElem_cons hlt] at hR2
        have i1 : (k : Int) < (path.length : Int):=by omega
        generalize path[k] = m at *
        obtain ⟨mj,mb⟩:=m
        dsimp only at m0' m1'
        have MEc:=Lib.hid (fun W => MEd.out pk mj mb Qk.length Ak ck W)
        have HV:=Lib.hid hv
        clear hRk hv
        by_cases hm : mvE sc (mj,mb) = 0
        · have TRc:=Lib.hid (fun W => TRd.out pk Qk mj mb hpk.out hm Ak ck W)
          rw [hm] at MEc
          cases hy : mayP sc (pk,Qk) (mj,mb)
          · rw [chG_f hm hy] at hR2
            rw [hy] at TRc
            clear hm hy hpk MEd TRd
            generalize mvd (pk,Qk) (mj,mb) = P at *
            obtain ⟨P1,P2⟩:=P
            simp only [Prod.mk.injEq] at hR2
            obtain ⟨⟨rfl,rfl⟩,rfl,rfl⟩:=hR2
            go_wp2_with (first | (go_at_call 86;(with_reducible refine (MEc.out _).mono ?_);rintro e w3 ⟨rfl,hb3⟩;have hz3 : wr.heap.size < w3.heap.size:=(by have:=hb3.size;(try simp at this);omega);have z9 : Box w3 g9 135 #[.int .i64 bx,.int .i64 bY,.int .i64 sl,.slice AL L.length cL,.int .i64 fx,.int .i64 fX,.int .i64 fy,.int .i64 fY,.slice AB B.length cB,.int .i64 pk,.slice Ak Qk.length ck]:=(by exact bX1 hb3);have z12 : Box w3 wr.heap.size 84 #[.int .i64 mj,.int .i64 mb]:=(by exact bX1 hb3);have v0:=z9.cell 0;have v1:=z9.cell 1;have v2:=z9.cell 2;have v3:=z9.cell 3;have v4:=z9.cell 4;have v5:=z9.cell 5;have v6:=z9.cell 6;have v7:=z9.cell 7;have v8:=z9.cell 8;have v9:=z9.cell 9;have v10:=z9.cell 10;have n0:=z12.cell 0;have n1:=z12.cell 1;(simp at v0 v1 v2 v3 v4 v5 v6 v7 v8 v9 v10 n0 n1);have l9':=z9.lt;have l12:=z12.lt;have x7 : Box w3 (w.heap.size + 1 + 1) 33 #[.int .i64 0,.slice none 0 0]:=(by exact bX1 hb3);have s0:=x7.cell 0;have s1:=x7.cell 1;have sf:=x7.froz;(simp at s0 s1);have s6:=x7.lt) | (go_at_call 87;(with_reducible refine (TRc.out _ (by exact bB2 hb3 hB) (HV.out.below (by exact bB1 hb3))).mono ?_);rintro e w4 hE4;obtain ⟨gQ,capQ,rfl,hgQ,hsQ,⟨csQ,hbQ⟩,hb4⟩:=hE4;have hz4 : w3.heap.size ≤ w4.heap.size:=(by have:=hb4.size;(try simp at this);omega);have hgQ' : w3.heap.size ≤ gQ:=(by (try simp at hgQ);omega);have x9 : Box w4 g9 135 #[.int .i64 bx,.int .i64 bY,.int .i64 sl,.slice AL L.length cL,.int .i64 fx,.int .i64 fX,.int .i64 fy,.int .i64 fY,.slice AB B.length cB,.int .i64 pk,.slice Ak Qk.length ck]:=(by exact bX1 hb4);have x6 : Box w4 (w.heap.size + 1 + 1) 33 #[.int .i64 0,.slice none 0 0]:=(by exact bX2 hb3 hb4);have m0:=x9.cell 0;have m1:=x9.cell 1;have m2:=x9.cell 2;have m3:=x9.cell 3;have m4:=x9.cell 4;have m5:=x9.cell 5;have m6:=x9.cell 6;have m7:=x9.cell 7;have m8:=x9.cell 8;have m9:=x9.cell 9;have m10:=x9.cell 10;have xf:=x9.froz;have e0:=x6.cell 0;have e1:=x6.cell 1;have ef:=x6.froz;(simp at m0 m1 m2 m3 m4 m5 m6 m7 m8 m9 m10 e0 e1);have k9:=x9.lt;have k6:=x6.lt) | fail)
            refine bodyPost_ret (res_c3 rfl rfl (show Box _ _ 33 #[.int .i64 0,.slice none 0 0] from ?hE) Tryz.underlying33 rfl tps_size) rfl ⟨none,0,rfl, ?hD,(fun h => absurd h (by simp)), ?hZ⟩
            case hE => exact bX2 hb4 hb3
            case hD => exact fun j u hj => by simp at hj
            case hZ => exact bB3 hb4 hb3 hB
          · rw [chG_t hm hy] at hR2
            rw [hy] at TRc
            have PN:=Lib.hid (mayP_free hpk.out hy).1
            have RN:=Lib.hid hR2
            clear hR2 hpk hm hy MEd TRd
            generalize mvd (pk,Qk) (mj,mb) = P at *
            obtain ⟨P1,P2⟩:=P
            go_upto_region 15 with (first | (go_at_call 86;(with_reducible refine (MEc.out _).mono ?_);rintro e w3 ⟨rfl,hb3⟩;have hz3 : wr.heap.size < w3.heap.size:=(by have:=hb3.size;(try simp at this);omega);have z9 : Box w3 g9 135 #[.int .i64 bx,.int .i64 bY,.int .i64 sl,.slice AL L.length cL,.int .i64 fx,.int .i64 fX,.int .i64 fy,.int .i64 fY,.slice AB B.length cB,.int .i64 pk,.slice Ak Qk.length ck]:=(by exact bX1 hb3);have z12 : Box w3 wr.heap.size 84 #[.int .i64 mj,.int .i64 mb]:=(by exact bX1 hb3);have v0:=z9.cell 0;have v1:=z9.cell 1;have v2:=z9.cell 2;have v3:=z9.cell 3;have v4:=z9.cell 4;have v5:=z9.cell 5;have v6:=z9.cell 6;have v7:=z9.cell 7;have v8:=z9.cell 8;have v9:=z9.cell 9;have v10:=z9.cell 10;have n0:=z12.cell 0;have n1:=z12.cell 1;(simp at v0 v1 v2 v3 v4 v5 v6 v7 v8 v9 v10 n0 n1);have l9':=z9.lt;have l12:=z12.lt;have x7 : Box w3 (w.heap.size + 1 + 1) 33 #[.int .i64 0,.slice none 0 0]:=(by exact bX1 hb3);have s0:=x7.cell 0;have s1:=x7.cell 1;have sf:=x7.froz;(simp at s0 s1);have s6:=x7.lt) | (go_at_call 87;(with_reducible refine (TRc.out _ (by exact bB2 hb3 hB) (HV.out.below (by exact bB1 hb3))).mono ?_);rintro e w4 hE4;obtain ⟨gQ,capQ,rfl,hgQ,hsQ,⟨csQ,hbQ⟩,hb4⟩:=hE4;have hz4 : w3.heap.size ≤ w4.heap.size:=(by have:=hb4.size;(try simp at this);omega);have hgQ' : w3.heap.size ≤ gQ:=(by (try simp at hgQ);omega);have x9 : Box w4 g9 135 #[.int .i64 bx,.int .i64 bY,.int .i64 sl,.slice AL L.length cL,.int .i64 fx,.int .i64 fX,.int .i64 fy,.int .i64 fY,.slice AB B.length cB,.int .i64 pk,.slice Ak Qk.length ck]:=(by exact bX1 hb4);have x6 : Box w4 (w.heap.size + 1 + 1) 33 #[.int .i64 0,.slice none 0 0]:=(by exact bX2 hb3 hb4);have m0:=x9.cell 0;have m1:=x9.cell 1;have m2:=x9.cell 2;have m3:=x9.cell 3;have m4:=x9.cell 4;have m5:=x9.cell 5;have m6:=x9.cell 6;have m7:=x9.cell 7;have m8:=x9.cell 8;have m9:=x9.cell 9;have m10:=x9.cell 10;have xf:=x9.froz;have e0:=x6.cell 0;have e1:=x6.cell 1;have ef:=x6.froz;(simp at m0 m1 m2 m3 m4 m5 m6 m7 m8 m9 m10 e0 e1);have k9:=x9.lt;have k6:=x6.lt) | fail)
            obtain ⟨W8,hW8⟩ : ∃ W8 : World,W8 = w4.alloc (.cells #[.int .i64 bx,.int .i64 bY,.int .i64 sl,.slice AL L.length cL,.int .i64 fx,.int .i64 fX,.int .i64 fy,.int .i64 fY,.slice AB B.length cB,.int .i64 P1,.slice (some ⟨gQ,0,none⟩) P2.length capQ] 135):=⟨_,rfl⟩
            have z14 : Box W8 w4.heap.size 135 #[.int .i64 bx,.int .i64 bY,.int .i64 sl,.slice AL L.length cL,.int .i64 fx,.int .i64 fX,.int .i64 fy,.int .i64 fY,.slice AB B.length cB,.int .i64 P1,.slice (some ⟨gQ,0,none⟩) P2.length capQ]:=by rw [hW8];exact bX0
            have z9 : Box W8 g9 135 #[.int .i64 bx,.int .i64 bY,.int .i64 sl,.slice AL L.length cL,.int .i64 fx,.int .i64 fX,.int .i64 fy,.int .i64 fY,.slice AB B.length cB,.int .i64 pk,.slice Ak Qk.length ck]:=by rw [hW8];exact bX0
            have z6 : Box W8 (w.heap.size + 1 + 1) 33 #[.int .i64 0,.slice none 0 0]:=by rw [hW8];exact bX0
            have hB8 : Below w.heap.size w W8:=by rw [hW8];exact bB3 hb4 hb3 hB
            have hQ8 : SlI W8 (some ⟨gQ,0,none⟩) P2:=by rw [hW8];exact hsQ.alloc _
            have o9 : offB (some ⟨gQ,0,none⟩) P2.length g9:=fun hl b o e => by cases e;omega
            have o6 : offB (some ⟨gQ,0,none⟩) P2.length (w.heap.size + 1 + 1):=fun hl b o e => by cases e;omega
            have n0 : newB (some ⟨gQ,0,none⟩) P2.length w.heap.size:=fun hl b o e => by cases e;have:=hB.size;omega
            have q9 : g9 ≠ w4.heap.size:=by omega
            have q6' : w.heap.size + 1 + 1 ≠ g9:=by omega
            have qB : w.heap.size ≤ g9:=by omega
            rw [← hW8]
            clear hW8 hsQ hbQ hb4 hb3 hB x9 x6 xf m0 m1 m2 m3 m4 m5 m6 m7 m8 m9 m10 e0 e1 ef k9 k6 v0 v1 v2 v3 v4 v5 v6 v7 v8 v9 v10 l9' l12 s0 s1 sf s6 x7 hT h6 lT l6 t0 t1 t2 t3 t4 t5 t6 t7 t8 t9 t10 MEc TRc
            generalize w4.heap.size = g14 at *
            have m0:=z14.cell 0;have m1:=z14.cell 1;have m2:=z14.cell 2;have m3:=z14.cell 3;have m4:=z14.cell 4;have m5:=z14.cell 5;have m6:=z14.cell 6;have m7:=z14.cell 7;have m8:=z14.cell 8;have m9:=z14.cell 9;have m10:=z14.cell 10
            have v0:=z9.cell 0;have v1:=z9.cell 1;have v2:=z9.cell 2;have v3:=z9.cell 3;have v4:=z9.cell 4;have v5:=z9.cell 5;have v6:=z9.cell 6;have v7:=z9.cell 7;have v8:=z9.cell 8;have v9:=z9.cell 9;have v10:=z9.cell 10
            simp at m0 m1 m2 m3 m4 m5 m6 m7 m8 m9 m10 v0 v1 v2 v3 v4 v5 v6 v7 v8 v9 v10
            have l14:=z14.lt;have l9:=z9.lt
            have f9:=z9.froz
            go_wp2_with fail
            go_roundw
            case rel => exact ⟨k + 1,P1,P2,some ⟨gQ,0,none⟩,capQ,by omega,by go_num,put11_box z9 rfl,put11_far z6 q6',put11_sli hQ8 o9,o9,o6,n0,PN.out,RN.out,put11_below hB8 qB⟩
            case measure => simp [intOf];omega
        · rw [chG_m hm] at hR2
          generalize mvE sc (mj,mb) = c at *
          have e2 : (c != 0) = true:=bneT hm
          simp only [Prod.mk.injEq] at hR2
          obtain ⟨⟨rfl,rfl⟩,rfl,rfl⟩:=hR2
          have e0:=h6.cell 0;have e1:=h6.cell 1;have ef:=h6.froz
          simp at e0 e1
          clear hm hpk MEd TRd
          go_wp2_with (first | (go_at_call 86;(with_reducible refine (MEc.out _).mono ?_);rintro e w3 ⟨rfl,hb3⟩;have hz3 : wr.heap.size < w3.heap.size:=(by have:=hb3.size;(try simp at this);omega);have z9 : Box w3 g9 135 #[.int .i64 bx,.int .i64 bY,.int .i64 sl,.slice AL L.length cL,.int .i64 fx,.int .i64 fX,.int .i64 fy,.int .i64 fY,.slice AB B.length cB,.int .i64 pk,.slice Ak Qk.length ck]:=(by exact bX1 hb3);have z12 : Box w3 wr.heap.size 84 #[.int .i64 mj,.int .i64 mb]:=(by exact bX1 hb3);have v0:=z9.cell 0;have v1:=z9.cell 1;have v2:=z9.cell 2;have v3:=z9.cell 3;have v4:=z9.cell 4;have v5:=z9.cell 5;have v6:=z9.cell 6;have v7:=z9.cell 7;have v8:=z9.cell 8;have v9:=z9.cell 9;have v10:=z9.cell 10;have n0:=z12.cell 0;have n1:=z12.cell 1;(simp at v0 v1 v2 v3 v4 v5 v6 v7 v8 v9 v10 n0 n1);have l9':=z9.lt;have l12:=z12.lt;have x7 : Box w3 (w.heap.size + 1 + 1) 33 #[.int .i64 0,.slice none 0 0]:=(by exact bX1 hb3);have s0:=x7.cell 0;have s1:=x7.cell 1;have sf:=x7.froz;(simp at s0 s1);have s6:=x7.lt) | fail)
          refine bodyPost_ret (res_c3 rfl rfl (show Box _ _ 33 #[.int .i64 0,.slice none 0 0] from ?hE) Tryz.underlying33 rfl tps_size) rfl ⟨none,0,rfl, ?hD,(fun h => absurd h (by simp)), ?hZ⟩
          case hE => exact bX1 hb3
          case hD => exact fun j u hj => by simp at hj
          case hZ => exact bB2 hb3 hB
      · have e : ((R1,R2),R3,R4) = ((pk,Qk),(path.length : Int),0):=by rw [hRk.out,List.drop_eq_nil_of_le (by omega)];rfl
        simp only [Prod.mk.injEq] at e
        obtain ⟨⟨rfl,rfl⟩,rfl,rfl⟩:=e
        have e0:=h6.cell 0;have e1:=h6.cell 1;have ef:=h6.froz
        simp at e0 e1
        go_wp2
        refine bodyPost_ret (res_c3 rfl rfl (show Box _ _ 33 #[.int .i64 R1,.slice Ak R2.length ck] from ?hE) Tryz.underlying33 rfl tps_size) rfl ⟨Ak,ck,rfl, ?hD,q0, ?hZ⟩
        case hE => exact bX0
        case hD => exact SlI.setf (SlI.setf hv q6) q6
        case hZ => exact bB1 hB
  · rw [hR]
    generalize frE (⟨bx,bY,sl,L,(fx,fX,fy,fY),B⟩ : Sc) (ps,Q) = c0 at *
    have x1 : (fstE [c0,unl (decide ((path.length : Int) ≤ 60)) 8] != 0) = true:=bneT hne
    clear hR hne hs1 hs2 hs3 hsP
    go_enter Tryz.func16,Tryz.ntmps16
    go_upto_region 4 with (first | (go_at_call 82;(with_reducible refine (FRc.out _ (by exact bB0)).mono ?_);rintro e w2 ⟨rfl,hb2⟩;have hz2 : w.heap.size + 1 + 1 + 1 ≤ w2.heap.size:=(by have:=hb2.size;(try simp at this);omega)) | (go_at_call 84;(with_reducible refine (unless_c _ _ _).mono ?_);rintro e w' ⟨rfl,rfl⟩) | (go_at_call 83;(with_reducible refine (first2a _ _ _ _ _ (by simp)).mono ?_);rintro e w' ⟨rfl,rfl⟩) | (go_at_call 83;(with_reducible refine (first2d _ _ _ _ _ (by simp)).mono ?_);rintro e w' ⟨rfl,rfl⟩) | fail)
    obtain ⟨W6,hW6⟩ : ∃ W6 : World,W6 = (w2.alloc (.cells #[.int .i64 bx,.int .i64 bY,.int .i64 sl,.slice AL L.length cL,.int .i64 fx,.int .i64 fX,.int .i64 fy,.int .i64 fY,.slice AB B.length cB,.int .i64 ps,.slice AQ Q.length cQ] 135)).alloc (.cells #[.int .i64 c0,.int .i64 (unl (decide ((path.length : Int) ≤ 60)) 8)] 37):=⟨_,rfl⟩
    have y6 : Box W6 (w.heap.size + 1 + 1) 33 #[.int .i64 0,.slice none 0 0]:=by rw [hW6];exact bX1 hb2
    have hBx : Below w.heap.size w W6:=by rw [hW6];exact bB1 hb2
    rw [← hW6]
    clear hW6 hb2
    have e0:=y6.cell 0;have e1:=y6.cell 1;have ef:=y6.froz;have el:=y6.lt
    simp at e0 e1
    go_wp2
    refine bodyPost_ret (res_c3 rfl rfl (show Box _ _ 33 #[.int .i64 0,.slice none 0 0] from ?hE) Tryz.underlying33 rfl tps_size) rfl ⟨none,0,rfl, ?hD,(fun h => absurd h (by simp)), ?hZ⟩
    case hE => exact bX0
    case hD => exact fun j u hj => by simp at hj
    case hZ => exact bB1 hBx
end Go.Proofs.YtpnfgmgoafgcbaaGreat

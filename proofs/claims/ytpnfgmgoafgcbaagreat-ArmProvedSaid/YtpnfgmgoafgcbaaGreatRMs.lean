/-
  Moves of the reference (chapter 6): all moves that may be made from a free pose.
-/
import Derived.Test.YtpnfgmgoafgcbaaGreatRMa
import Derived.Test.YtpnfgmgoafgcbaaGreatMvF
set_option linter.all false
set_option linter.unusedVariables false
namespace Go.Proofs.YtpnfgmgoafgcbaaGreat
open Go.RowKit Go.Shelf
attribute [local go_sem] Oper.semAt_some
/-- The moves among the first ones. -/
def mvN (s : Sc) (p : Ps) (i : Nat) : List Mv:=((allM s).take i).filter (mayP s p)
theorem mvN_step {s : Sc} {p : Ps} {i : Nat} {m : Mv} (h : (allM s)[i]? = some m) : mvN s p (i + 1) = mvN s p i ++ (if mayP s p m then [m] else []):=by
  unfold mvN
  rw [List.take_add_one,h]
  by_cases hm : mayP s p m = true
  · simp [hm]
  · simp [hm]
theorem mvN_all (s : Sc) (p : Ps) : mvN s p (2 * (s.L.length + 1)) = mvs s p:=by
  unfold mvN mvs
  rw [List.take_of_length_le (by rw [allM_len];exact Nat.le_refl _)]
theorem mvN_len (s : Sc) (p : Ps) (i : Nat) : (mvN s p i).length ≤ 2 * (s.L.length + 1):=by
  have h:=List.length_filter_le (mayP s p) ((allM s).take i)
  have h2:=List.length_take_le' i (allM s)
  have h3:=allM_len s
  unfold mvN
  omega
theorem allM_gt (s : Sc) (k b : Nat) (hk : k ≤ s.L.length) (hb : b < 2) : (allM s)[2 * k + b]? = some ((k : Int) - 1,2 * (b : Int) - 1):=by
  unfold allM
  rw [flat2_get (fun j : Nat => ((j : Int) - 1,(-1 : Int))) (fun j : Nat => ((j : Int) - 1,(1 : Int))) _ k b hb,List.getElem?_range (by omega)]
  have : b = 0 ∨ b = 1:=by omega
  rcases this with rfl | rfl <;> simp
theorem allM_ok {s : Sc} {k b : Nat} (hk : k ≤ s.L.length) (hb : b < 2) : mvE s ((k : Int) - 1,2 * (b : Int) - 1) = 0:=by
  unfold mvE
  rw [fstE_zero]
  have : b = 0 ∨ b = 1:=by omega
  rcases this with rfl | rfl <;> simp [unl_zero,inB] <;> omega
set_option maxHeartbeats 8000000 in
set_option maxRecDepth 100000 in
theorem rMoves_c (bx bY sl fx fX fy fY ps : Int) (L : List Lk) (B : List Bx) (Q : List Int) (AL AB AQ : Option Addr) (cL cB cQ : Nat) (w : World) (hS : SOk (⟨bx,bY,sl,L,(fx,fX,fy,fY),B⟩ : Sc)) (hp : POk (⟨bx,bY,sl,L,(fx,fX,fy,fY),B⟩ : Sc) (ps,Q)) (hs1 : SlV w AL (L.flatMap lkV)) (hs2 : SlV w AB (B.flatMap bxV)) (hs3 : SlI w AQ Q) :
    Calls Tryz.prog 49 #[.agg #[.int .i64 bx,.int .i64 bY,.int .i64 sl,.slice AL L.length cL,.int .i64 fx,.int .i64 fX,.int .i64 fy,.int .i64 fY,.slice AB B.length cB],.agg #[.int .i64 ps,.slice AQ Q.length cQ]] w fun e w' => ∃ A c,e = .returned (.slice A (mvs (⟨bx,bY,sl,L,(fx,fX,fy,fY),B⟩ : Sc) (ps,Q)).length c) ∧ w'.ownsRow (w.heap.size + 2) 84 2 (.slice A (mvs (⟨bx,bY,sl,L,(fx,fX,fy,fY),B⟩ : Sc) (ps,Q)).length c) (mvs (⟨bx,bY,sl,L,(fx,fX,fy,fY),B⟩ : Sc) (ps,Q)).length ((mvs (⟨bx,bY,sl,L,(fx,fX,fy,fY),B⟩ : Sc) (ps,Q)).flatMap mvV) ∧ Below w.heap.size w w':=by
  have hlen:=hS.len
  dsimp only at hlen
  have MYd:=Lib.hid (fun (mj mb : Int) (hm : mvE (⟨bx,bY,sl,L,(fx,fX,fy,fY),B⟩ : Sc) (mj,mb) = 0) W (h : Below w.heap.size w W) => rMay_c bx bY sl fx fX fy fY ps mj mb L B Q AL AB AQ cL cB cQ W hS hp hm (hs1.below h) (hs2.below h) (hs3.below h))
  have HST:=Lib.hid (fun (k b : Nat) (hk : k ≤ L.length) (hb : b < 2) => mvN_step (p:=(ps,Q)) (allM_gt (⟨bx,bY,sl,L,(fx,fX,fy,fY),B⟩ : Sc) k b hk hb))
  have HOK:=Lib.hid (fun (k b : Nat) (hk : k ≤ L.length) (hb : b < 2) => allM_ok (s:=(⟨bx,bY,sl,L,(fx,fX,fy,fY),B⟩ : Sc)) hk hb)
  have HAL:=Lib.hid (show mvN (⟨bx,bY,sl,L,(fx,fX,fy,fY),B⟩ : Sc) (ps,Q) (2 * (L.length + 1)) = mvs (⟨bx,bY,sl,L,(fx,fX,fy,fY),B⟩ : Sc) (ps,Q) from mvN_all (⟨bx,bY,sl,L,(fx,fX,fy,fY),B⟩ : Sc) (ps,Q))
  have HLN:=Lib.hid (fun i => show (mvN (⟨bx,bY,sl,L,(fx,fX,fy,fY),B⟩ : Sc) (ps,Q) i).length ≤ 2 * (L.length + 1) from mvN_len (⟨bx,bY,sl,L,(fx,fX,fy,fY),B⟩ : Sc) (ps,Q) i)
  have HN0:=Lib.hid (show [] = mvN (⟨bx,bY,sl,L,(fx,fX,fy,fY),B⟩ : Sc) (ps,Q) (2 * 0) from by simp [mvN])
  clear hs1 hs2 hs3 hS hp
  generalize mvs (⟨bx,bY,sl,L,(fx,fX,fy,fY),B⟩ : Sc) (ps,Q) = M at *
  generalize hN : mvN (⟨bx,bY,sl,L,(fx,fX,fy,fY),B⟩ : Sc) (ps,Q) = N at *
  clear hN
  generalize hMy : mayP (⟨bx,bY,sl,L,(fx,fX,fy,fY),B⟩ : Sc) (ps,Q) = my at *
  clear hMy
  obtain ⟨u0,zM,hu0,hy0,hy1,hy2,hy3⟩:=infoOk_parts infoM
  go_enter Tryz.func49,Tryz.ntmps49
  go_wp2
  go_loopw [5,6] (fun o j wr => ∃ (k : Nat) (A : Option Addr) (c : Nat) (out : List Mv),k ≤ L.length + 1 ∧ j = .int .i64 ((k : Int) - 1) ∧ o = .slice A out.length c ∧ wr.ownsRow (w.heap.size + 2) 84 2 (.slice A out.length c) out.length (out.flatMap mvV) ∧ Hid (out = N (2 * k)) ∧ Box wr w.heap.size 30 #[.int .i64 bx,.int .i64 bY,.int .i64 sl,.slice AL L.length cL,.int .i64 fx,.int .i64 fX,.int .i64 fy,.int .i64 fY,.slice AB B.length cB] ∧ Box wr (w.heap.size + 1) 33 #[.int .i64 ps,.slice AQ Q.length cQ] ∧ Below w.heap.size w wr) (fun _ j _ => ((L.length : Int) + 1 - intOf j).toNat)
  case atStart => exact ⟨0,none,0,[],by omega,rfl,rfl,⟨by simp,.inl ⟨rfl,rfl⟩⟩,HN0.out,by exact bX0,by exact bX0,by exact bB0⟩
  case round =>
    obtain ⟨k,A,c,out,hk,rfl,rfl,hO,HO,hP,hQ,hB⟩:=hrel
    have zz0:=hP.cell 0;have zz1:=hP.cell 1;have zz2:=hP.cell 2;have zz3:=hP.cell 3;have zz4:=hP.cell 4;have zz5:=hP.cell 5;have zz6:=hP.cell 6;have zz7:=hP.cell 7;have zz8:=hP.cell 8;have zzl:=hP.lt
    simp at zz0 zz1 zz2 zz3 zz4 zz5 zz6 zz7 zz8
    by_cases hlt : k ≤ L.length
    · have d1 : decide ((k : Int) - 1 < (L.length : Int)) = true:=decide_eq_true (by omega)
      go_wp2
      go_loopw [5,7] (fun o j wr => ∃ (b : Nat) (A : Option Addr) (c : Nat) (out : List Mv),b ≤ 2 ∧ j = .int .i64 (2 * (b : Int) - 1) ∧ o = .slice A out.length c ∧ wr.ownsRow (w.heap.size + 2) 84 2 (.slice A out.length c) out.length (out.flatMap mvV) ∧ Hid (out = N (2 * k + b)) ∧ Box wr w.heap.size 30 #[.int .i64 bx,.int .i64 bY,.int .i64 sl,.slice AL L.length cL,.int .i64 fx,.int .i64 fX,.int .i64 fy,.int .i64 fY,.slice AB B.length cB] ∧ Box wr (w.heap.size + 1) 33 #[.int .i64 ps,.slice AQ Q.length cQ] ∧ Below w.heap.size w wr) (fun _ j _ => (3 - (intOf j)).toNat)
      case atStart => exact ⟨0,A,c,out,by omega,rfl,rfl,hO,HO.out,hP,hQ,hB⟩
      case round =>
        obtain ⟨b,A,c,out,hb,rfl,rfl,hO,HO,hP,hQ,hB⟩:=hrel
        clear zz0 zz1 zz2 zz3 zz4 zz5 zz6 zz7 zz8
        have zz0:=hP.cell 0;have zz1:=hP.cell 1;have zz2:=hP.cell 2;have zz3:=hP.cell 3;have zz4:=hP.cell 4;have zz5:=hP.cell 5;have zz6:=hP.cell 6;have zz7:=hP.cell 7;have zz8:=hP.cell 8;have zzl:=hP.lt
        have qq0:=hQ.cell 0;have qq1:=hQ.cell 1;have qql:=hQ.lt
        simp at zz0 zz1 zz2 zz3 zz4 zz5 zz6 zz7 zz8 qq0 qq1
        by_cases hb2 : b < 2
        · have d2 : decide (2 * (b : Int) - 1 ≤ 1) = true:=decide_eq_true (by omega)
          have MYc:=Lib.hid (fun W h => MYd.out ((k : Int) - 1) (2 * (b : Int) - 1) (HOK.out k b hlt hb2) W h)
          have hst:=HST.out k b hlt hb2
          have hln:=HLN.out (2 * k + b)
          rw [← HO.out] at hst hln
          have e3 : (2 * (b : Int) - 1) + 2 = 2 * ((b + 1 : Nat) : Int) - 1:=by omega
          have HE3:=Lib.hid e3
          clear e3
          generalize hmj : (k : Int) - 1 = mj at *
          generalize hmb : 2 * (b : Int) - 1 = mb at *
          have v1 : IntKind.i64.wrap (mb + 2) = mb + 2:=IntWalk.i64_in _ (by omega)
          cases hy : my (mj,mb)
          · rw [hy] at MYc hst
            have HS:=Lib.hid hst
            clear hst hy
            go_wp2_with (first | (go_at_call 90;(with_reducible refine (MYc.out _ (by exact bB1 hB)).mono ?_);rintro e w3 ⟨rfl,hb3⟩;have hz3 : wr.heap.size < w3.heap.size:=(by have:=hb3.size;(try simp at this);omega)) | fail)
            go_roundw
            case rel => exact ⟨b + 1,A,c,out,by omega,by rw [HE3.out],rfl,own_below (own_below hO (show Below wr.heap.size wr (wr.alloc (.cells #[.int .i64 mj,.int .i64 mb] 84)) from by exact bB0)) hb3,by unfold Hid;rw [show 2 * k + (b + 1) = 2 * k + b + 1 from rfl,HS.out];simp,by exact bX1 hb3,by exact bX1 hb3,by exact bB2 hb3 hB⟩
            case measure => simp [intOf];omega
          · rw [hy] at MYc hst
            have HS:=Lib.hid hst
            clear hst hy
            go_upto_region 10 with (first | (go_at_call 90;(with_reducible refine (MYc.out _ (by exact bB1 hB)).mono ?_);rintro e w3 ⟨rfl,hb3⟩;have hz3 : wr.heap.size < w3.heap.size:=(by have:=hb3.size;(try simp at this);omega)) | fail)
            have hO3:=own_below (own_below hO (show Below wr.heap.size wr (wr.alloc (.cells #[.int .i64 mj,.int .i64 mb] 84)) from by exact bB0)) hb3
            have hP3 : Box w3 w.heap.size 30 #[.int .i64 bx,.int .i64 bY,.int .i64 sl,.slice AL L.length cL,.int .i64 fx,.int .i64 fX,.int .i64 fy,.int .i64 fY,.slice AB B.length cB]:=by exact bX1 hb3
            have hQ3 : Box w3 (w.heap.size + 1) 33 #[.int .i64 ps,.slice AQ Q.length cQ]:=by exact bX1 hb3
            have hM3 : Box w3 wr.heap.size 84 #[.int .i64 mj,.int .i64 mb]:=by exact bX1 hb3
            have hB3 : Below w.heap.size w w3:=by exact bB2 hb3 hB
            have m30:=hM3.cell 0;have m31:=hM3.cell 1;have ml3:=hM3.lt
            have ql3:=hQ3.lt
            simp at m30 m31
            clear hO hP hQ hB hb3 zz0 zz1 zz2 zz3 zz4 zz5 zz6 zz7 zz8 qq0 qq1
            have hm1 : out.length + 1 ≤ maxLen:=by unfold maxLen;omega
            have hm2 : (out.length + 1) * 16 ≤ 140737488355328:=by omega
            go_wp2_with (at_builtin;go_must (refine wpList_append_own _ rfl _ _ 34 rfl (w.heap.size + 2) 84 u0 zM 2 16 Tryz.underlying34 hu0 hy0 hy1 hy2 hy3 (by decide) _ _ _ rfl (hO3.alloc _) ⟨w3.heap.size,0,none⟩ 1 1 [.int .i64 mj,.int .i64 mb] rfl rfl (by simpa using cell_two_new w3 (.int .i64 mj) (.int .i64 mb) 84) (by simp [Value.oneCell']) hm1 hm2 (by simp;omega) ?_);intro v' wx hown1 hgrow1 _)
            obtain ⟨g',cap',rfl,_,_⟩:=own_pos hown1 (by omega) (by decide)
            have X0:=box_og (hP3.alloc (.cells #[.int .i64 mj,.int .i64 mb] 84)) (hO3.alloc _) (by decide) hgrow1
            have X1:=box_og (hQ3.alloc (.cells #[.int .i64 mj,.int .i64 mb] 84)) (hO3.alloc _) (by decide) hgrow1
            have XB : Below w.heap.size w wx:=(hB3.alloc (by omega) _).grown hgrow1 (by simp;omega) (fun r e => by have:=(own_blk hO3 (show (Value.slice A out.length c).ownBlock = some r from e)).1;omega)
            go_wp2_with fail
            go_roundw
            case rel => exact ⟨b + 1,some ⟨g',0,none⟩,cap',out ++ [(mj,mb)],by omega,by rw [HE3.out],by simp,by simpa [mvV] using hown1,by unfold Hid;rw [show 2 * k + (b + 1) = 2 * k + b + 1 from rfl,HS.out];simp,X0,X1,XB⟩
            case measure => simp [intOf];omega
        · have d2 : decide (2 * (b : Int) - 1 ≤ 1) = false:=decide_eq_false (by omega)
          have hb3 : b = 2:=by omega
          subst hb3
          have v1 : IntKind.i64.wrap ((k : Int) - 1 + 1) = (k : Int):=by rw [show (k : Int) - 1 + 1 = k by omega];exact IntWalk.i64_in _ (by omega)
          go_wp2
          go_roundw
          case rel => exact ⟨k + 1,A,c,out,by omega,by go_num,rfl,hO,by unfold Hid;rw [HO.out];rfl,hP,hQ,hB⟩
          case measure => simp [intOf];omega
    · have d1 : decide ((k : Int) - 1 < (L.length : Int)) = false:=decide_eq_false (by omega)
      have e : k = L.length + 1:=by omega
      subst e
      have hM : out = M:=by rw [HO.out,HAL.out]
      subst hM
      go_wp2
      go_ret
      exact ⟨A,c,rfl,hO,hB⟩
end Go.Proofs.YtpnfgmgoafgcbaaGreat

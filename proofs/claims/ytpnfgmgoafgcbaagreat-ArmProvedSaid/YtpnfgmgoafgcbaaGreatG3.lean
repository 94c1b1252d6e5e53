/-
  The texts RMv, RMd, RSw in one.
-/
import Derived.Test.YtpnfgmgoafgcbaaGreatG4
import Derived.Test.YtpnfgmgoafgcbaaGreatMoved
import Derived.Test.YtpnfgmgoafgcbaaGreatRSc
import Derived.Test.YtpnfgmgoafgcbaaGreatLate
import Derived.Test.YtpnfgmgoafgcbaaGreatA6
import Derived.Test.YtpnfgmgoafgcbaaGreatG2
set_option linter.all false
/-
  MoveErr of the reference (chapter 6).
-/
set_option linter.unusedVariables false
namespace Go.Proofs.YtpnfgmgoafgcbaaGreat
open Go.RowKit
attribute [local go_sem] Oper.semAt_some
set_option maxHeartbeats 2000000 in
set_option maxRecDepth 100000 in
theorem rMoveErr_c (bx bY sl fx fX fy fY mj mb : Int) (L : List Lk) (B : List Bx) (AL AB : Option Addr) (cL cB : Nat) (w : World) (hL : L.length ≤ 1000) :
    Calls Tryz.prog 89 #[.agg #[.int .i64 bx,.int .i64 bY,.int .i64 sl,.slice AL L.length cL,.int .i64 fx,.int .i64 fX,.int .i64 fy,.int .i64 fY,.slice AB B.length cB],.agg #[.int .i64 mj,.int .i64 mb]] w fun e w' => e = .returned (.int .i64 (mvE (⟨bx,bY,sl,L,(fx,fX,fy,fY),B⟩ : Sc) (mj,mb))) ∧ Below w.heap.size w w':=by
  have HL:=Lib.hid (show mvE (⟨bx,bY,sl,L,(fx,fX,fy,fY),B⟩ : Sc) (mj,mb) = fstE [unl (inB mj (-1) ((L.length : Int) - 1)) 6,unl (mb == 1 || mb == -1) 2] from rfl)
  generalize mvE (⟨bx,bY,sl,L,(fx,fX,fy,fY),B⟩ : Sc) (mj,mb) = r at *
  have V:=IntWalk.i64_in ((L.length : Int) - 1) (by omega)
  have hc : (inB mj (-1) ((L.length : Int) - 1) = false) ∨ (inB mj (-1) ((L.length : Int) - 1) = true ∧ (mb == 1) = true) ∨ (inB mj (-1) ((L.length : Int) - 1) = true ∧ (mb == 1) = false ∧ (mb == -1) = true) ∨ (inB mj (-1) ((L.length : Int) - 1) = true ∧ (mb == 1) = false ∧ (mb == -1) = false):=by
    cases inB mj (-1) ((L.length : Int) - 1) <;> cases (mb == 1) <;> cases (mb == -1) <;> simp
  rcases hc with h | ⟨h,h2⟩ | ⟨h,h2,h3⟩ | ⟨h,h2,h3⟩
  all_goals have HH:=Lib.hid h
  · have HR:=Lib.hid (show r = 6 by rw [HL.out,h];simp [fstE,unl])
    clear HL
    go_enter Tryz.func89,Tryz.ntmps89
    go_wp2_with (first | (go_at_call 40;(with_reducible refine (within_b _ _ _ _).mono ?_);rintro e w' ⟨rfl,rfl⟩) | fail)
    go_ret
    exact ⟨ret_i HR.out.symm,by exact bB0⟩
  · have HR:=Lib.hid (show r = 0 by rw [HL.out,h,h2];simp [fstE,unl])
    have g1 : (mb != 1) = false:=by simpa [bne] using h2
    clear HL h2
    go_enter Tryz.func89,Tryz.ntmps89
    go_wp2_with (first | (go_at_call 40;(with_reducible refine (within_b _ _ _ _).mono ?_);rintro e w' ⟨rfl,rfl⟩) | fail)
    go_ret
    exact ⟨ret_i HR.out.symm,by exact bB0⟩
  · have HR:=Lib.hid (show r = 0 by rw [HL.out,h,h2,h3];simp [fstE,unl])
    have g1 : (mb != 1) = true:=by simpa [bne] using h2
    have g2 : (mb != -1) = false:=by simpa [bne] using h3
    clear HL h2 h3
    go_enter Tryz.func89,Tryz.ntmps89
    go_wp2_with (first | (go_at_call 40;(with_reducible refine (within_b _ _ _ _).mono ?_);rintro e w' ⟨rfl,rfl⟩) | fail)
    go_ret
    exact ⟨ret_i HR.out.symm,by exact bB0⟩
  · have HR:=Lib.hid (show r = 2 by rw [HL.out,h,h2,h3];simp [fstE,unl])
    have g1 : (mb != 1) = true:=by simpa [bne] using h2
    have g2 : (mb != -1) = true:=by simpa [bne] using h3
    clear HL h2 h3
    go_enter Tryz.func89,Tryz.ntmps89
    go_wp2_with (first | (go_at_call 40;(with_reducible refine (within_b _ _ _ _).mono ?_);rintro e w' ⟨rfl,rfl⟩) | fail)
    go_ret
    exact ⟨ret_i HR.out.symm,by exact bB0⟩
end Go.Proofs.YtpnfgmgoafgcbaaGreat
/-
  Moved and MovedErr of the reference (chapter 6).
-/
set_option linter.unusedVariables false
namespace Go.Proofs.YtpnfgmgoafgcbaaGreat
open Go.RowKit
attribute [local go_sem] Oper.semAt_some
/-- How Moved ends. -/
def RmEnd (p : Ps) (w : World) (e : Ending) (w' : World) : Prop :=
  ∃ D d,e = .returned (.agg #[.int .i64 p.1,.slice D p.2.length d]) ∧ SlI w' D p.2 ∧ Below w.heap.size w w'
/-- The same, and that the quarters lie in a block of their own. -/
def RmX (p : Ps) (w : World) (e : Ending) (w' : World) : Prop :=
  ∃ D d,e = .returned (.agg #[.int .i64 p.1,.slice D p.2.length d]) ∧ SlI w' D p.2 ∧ (0 < p.2.length → ∃ g cs,D = some ⟨g,0,none⟩ ∧ w.heap.size ≤ g ∧ Box w' g 3 cs) ∧ Below w.heap.size w w'
set_option maxHeartbeats 4000000 in
set_option maxRecDepth 100000 in
theorem rMovedX_c (ps mj mb : Int) (Q : List Int) (AQ : Option Addr) (cQ : Nat) (w : World) (hn : Q.length ≤ 1000) (hj : -1 ≤ mj ∧ mj < Q.length) (hb : -1 ≤ mb ∧ mb ≤ 1) (hp : -1000 ≤ ps ∧ ps ≤ 1000) (hq : ∀ q ∈ Q,-1000 ≤ q ∧ q ≤ 1000) (hs : SlI w AQ Q) :
    Calls Tryz.prog 46 #[.agg #[.int .i64 ps,.slice AQ Q.length cQ],.agg #[.int .i64 mj,.int .i64 mb]] w (RmX (mvd (ps,Q) (mj,mb)) w):=by
  have CPc:=Lib.hid (fun W (h : Below w.heap.size w W) => copyPoseX_c ps Q AQ cQ W (by omega) (hs.below h))
  have HM:=Lib.hid (show mvd (ps,Q) (mj,mb) = if mj = -1 then (ps + mb,Q) else (ps,addAt Q mj.toNat mb) from rfl)
  have HQ:=Lib.hid hq
  clear hs hq
  generalize mvd (ps,Q) (mj,mb) = P at *
  obtain ⟨P1,P2⟩:=P
  by_cases hm : mj = -1
  · obtain ⟨rfl,rfl⟩ : P1 = ps + mb ∧ Q = P2:=by have:=HM.out;rw [if_pos hm] at this;simp at this;exact ⟨this.1,this.2.symm⟩
    have e1 : (mj == -1) = true:=beqT hm
    have v1 : IntKind.i64.wrap (ps + mb) = ps + mb:=IntWalk.i64_in _ (by omega)
    clear HM hm
    go_enter Tryz.func46,Tryz.ntmps46
    go_upto_region 2 with (first | (go_at_call 18;(with_reducible refine (CPc.out _ (by exact bB0)).mono ?_);rintro e w2 hE2;obtain ⟨D,d,rfl,hv2,hf2,hb2⟩:=hE2;have HF2:=Lib.hid hf2;clear hf2;have hz2 : w.heap.size + 1 + 1 + 1 ≤ w2.heap.size:=(by have:=hb2.size;(try simp at this);omega)) | fail)
    obtain ⟨W6,hW6⟩ : ∃ W6 : World,W6 = w2.alloc (.cells #[.int .i64 ps,.slice D Q.length d] 33):=⟨_,rfl⟩
    have B5 : Box W6 w2.heap.size 33 #[.int .i64 ps,.slice D Q.length d]:=by rw [hW6];exact Box.new _ _ _
    have B3 : Box W6 (w.heap.size + 1) 84 #[.int .i64 mj,.int .i64 mb]:=by rw [hW6];exact bX1 hb2
    have B4 : Box W6 (w.heap.size + 1 + 1) 33 #[.int .i64 0,.slice none 0 0]:=by rw [hW6];exact bX1 hb2
    have hBx : Below w.heap.size w W6:=by rw [hW6];exact bB1 hb2
    have HV:=Lib.hid (show SlI W6 D Q from by rw [hW6];exact hv2.alloc _)
    have HF:=Lib.hid (show 0 < Q.length → ∃ g cs,D = some ⟨g,0,none⟩ ∧ w.heap.size + 1 + 1 < g ∧ g < w2.heap.size ∧ Box W6 g 3 cs from fun h => by
      obtain ⟨g,cs,e,hg,hbx⟩:=HF2.out h
      simp at hg
      exact ⟨g,cs,e,by omega,hbx.lt,by rw [hW6];exact hbx.alloc _⟩)
    rw [← hW6]
    clear hW6 hv2 hb2 HF2 CPc
    generalize w2.heap.size = g5 at *
    have c50:=B5.cell 0;have c51:=B5.cell 1;have f5:=B5.froz;have l5:=B5.lt
    have c30:=B3.cell 0;have c31:=B3.cell 1;have l3:=B3.lt
    have c40:=B4.cell 0;have c41:=B4.cell 1;have f4:=B4.froz;have l4:=B4.lt
    simp at c50 c51 c30 c31 c40 c41
    have n54 : g5 ≠ w.heap.size + 1 + 1:=by omega
    have n45 : w.heap.size + 1 + 1 ≠ g5:=by omega
    go_wp2
    refine bodyPost_ret (res_c1 rfl rfl (show Box _ _ 33 #[.int .i64 (ps + mb),.slice D Q.length d] from ?hE) Tryz.underlying33 rfl tps_size) rfl ⟨D,d,rfl, ?hD, ?hF, ?hZ⟩
    case hF =>
      intro hl
      obtain ⟨g,cs,rfl,hg1,hg2,hbx⟩:=HF.out hl
      exact ⟨g,cs,rfl,by omega,by exact bX0⟩
    case hE => exact bX0
    case hZ => exact bB1 hBx
    case hD =>
      repeat (refine SlI.setf ?_ (fun hl b o e => ?_);rotate_left;(focus (obtain ⟨g,cs,e1,hg1,hg2,_⟩:=HF.out hl;rw [e1] at e;(cases e);(try simp);omega)))
      exact HV.out
  · obtain ⟨rfl,rfl⟩ : ps = P1 ∧ P2 = addAt Q mj.toNat mb:=by have:=HM.out;rw [if_neg hm] at this;simp at this;exact ⟨this.1.symm,this.2⟩
    have e1 : (mj == -1) = false:=beqF hm
    have hmj : 0 ≤ mj:=by omega
    clear HM hm
    go_enter Tryz.func46,Tryz.ntmps46
    go_upto_region 2 with (first | (go_at_call 18;(with_reducible refine (CPc.out _ (by exact bB0)).mono ?_);rintro e w2 hE2;obtain ⟨D,d,rfl,hv2,hf2,hb2⟩:=hE2;have HF2:=Lib.hid hf2;clear hf2;have hz2 : w.heap.size + 1 + 1 + 1 ≤ w2.heap.size:=(by have:=hb2.size;(try simp at this);omega)) | fail)
    obtain ⟨W6,hW6⟩ : ∃ W6 : World,W6 = w2.alloc (.cells #[.int .i64 ps,.slice D Q.length d] 33):=⟨_,rfl⟩
    have B5 : Box W6 w2.heap.size 33 #[.int .i64 ps,.slice D Q.length d]:=by rw [hW6];exact Box.new _ _ _
    have B3 : Box W6 (w.heap.size + 1) 84 #[.int .i64 mj,.int .i64 mb]:=by rw [hW6];exact bX1 hb2
    have B4 : Box W6 (w.heap.size + 1 + 1) 33 #[.int .i64 0,.slice none 0 0]:=by rw [hW6];exact bX1 hb2
    have hBx : Below w.heap.size w W6:=by rw [hW6];exact bB1 hb2
    have HV:=Lib.hid (show SlI W6 D Q from by rw [hW6];exact hv2.alloc _)
    have HF:=Lib.hid (show 0 < Q.length → ∃ g cs,D = some ⟨g,0,none⟩ ∧ w.heap.size + 1 + 1 < g ∧ g < w2.heap.size ∧ Box W6 g 3 cs from fun h => by
      obtain ⟨g,cs,e,hg,hbx⟩:=HF2.out h
      simp at hg
      exact ⟨g,cs,e,by omega,hbx.lt,by rw [hW6];exact hbx.alloc _⟩)
    rw [← hW6]
    clear hW6 hv2 hb2 HF2 CPc
    generalize w2.heap.size = g5 at *
    have c50:=B5.cell 0;have c51:=B5.cell 1;have f5:=B5.froz;have l5:=B5.lt
    have c30:=B3.cell 0;have c31:=B3.cell 1;have l3:=B3.lt
    have c40:=B4.cell 0;have c41:=B4.cell 1;have f4:=B4.froz;have l4:=B4.lt
    simp at c50 c51 c30 c31 c40 c41
    have n54 : g5 ≠ w.heap.size + 1 + 1:=by omega
    have n45 : w.heap.size + 1 + 1 ≠ g5:=by omega
    have hmq : mj.toNat < Q.length:=by omega
    have hmi : mj < (Q.length : Int):=by omega
    obtain ⟨g,cs,rfl,hg1,hg2,hbg⟩:=HF.out (by omega)
    have HB:=Lib.hid (bgn_of hbg (sli_slv HV.out))
    have qb:=HQ.out _ (List.getElem_mem hmq)
    have AM:=Lib.hid (addAt_map Q mj.toNat mb hmq)
    obtain ⟨b0,o0,e0,_,q0⟩:=HV.out mj.toNat Q[mj.toNat] (List.getElem?_eq_getElem hmq)
    cases e0
    have ALn:=Lib.hid (addAt_len Q mj.toNat mb)
    generalize Q[mj.toNat] = qv at *
    have v1 : IntKind.i64.wrap (qv + mb) = qv + mb:=IntWalk.i64_in _ (by omega)
    have fg:=hbg.froz;have lg:=hbg.lt
    rw [Nat.zero_add] at q0
    have n1 : g ≠ g5:=by omega
    have n2 : g ≠ w.heap.size + 1 + 1:=by omega
    go_wp2
    (refine wp_region_late (S:=(fun w' => Below W6.heap.size W6 w')) 14 kR ?_ (fun hHeld => ?_);(focus ((try dsimp only);(((first | exact bB0 | exact bB0)))));have hO:=Lib.hid (fun w' (hSw : (fun w' => Below W6.heap.size W6 w') w') => (by (try dsimp only at hSw);(have hcc:=(bcell hSw).1;have sa0:=(hcc _ 1 l5).trans c51;have sa1:=(hcc _ 0 l3).trans c30;have sa2:=(hcc _ 1 l3).trans c31;have sa3:=(hcc _ _ lg).trans q0);exact And.intro sa0 (And.intro sa1 (And.intro sa2 sa3))));refine laN 0 rfl ?_;refine laL 1 hO rfl ?_;refine laN 2 rfl ?_;refine laL 3 hO rfl ?_;refine laN 4 rfl ?_;refine laL 5 hO rfl ?_;refine laN 6 rfl ?_;refine laL 7 hO rfl ?_;refine laN 8 rfl ?_;refine laL 9 hO rfl ?_;refine laN 10 rfl ?_;refine laL 11 hO rfl ?_;refine laN 12 rfl ?_;refine laN 13 rfl ?_;refine laD 14 rfl (fun K hK => ?_);go_simp;(skip);go_simp;refine hK.out _ _ ?_ (fun hHeld => ?_);(focus (exact trivial));clear hK K;(try simp only [Act.put,pqs]);refine wpAnyL_done kR ?_ _)
    go_wp2
    refine bodyPost_ret (res_c1 rfl rfl (show Box _ _ 33 #[.int .i64 ps,.slice (some ⟨g,0,none⟩) Q.length d] from ?hE) Tryz.underlying33 rfl tps_size) rfl ⟨some ⟨g,0,none⟩,d,by dsimp only;rw [ALn.out], ?hD, ?hF, ?hZ⟩
    case hF => exact fun _ => ⟨g,_,rfl,by omega,show Box _ g 3 (cs.setIfInBounds mj.toNat (.int .i64 (qv + mb))) from by exact bX0⟩
    case hE => exact bX0
    case hZ => exact bB1 hBx
    case hD => exact slv_sli (by rw [← AM.out];exact (HB.out.set _ _).slv (t:=3) (by exact bX0))
theorem rMoved_c (ps mj mb : Int) (Q : List Int) (AQ : Option Addr) (cQ : Nat) (w : World) (hn : Q.length ≤ 1000) (hj : -1 ≤ mj ∧ mj < Q.length) (hb : -1 ≤ mb ∧ mb ≤ 1) (hp : -1000 ≤ ps ∧ ps ≤ 1000) (hq : ∀ q ∈ Q,-1000 ≤ q ∧ q ≤ 1000) (hs : SlI w AQ Q) :
    Calls Tryz.prog 46 #[.agg #[.int .i64 ps,.slice AQ Q.length cQ],.agg #[.int .i64 mj,.int .i64 mb]] w (RmEnd (mvd (ps,Q) (mj,mb)) w) :=
  (rMovedX_c ps mj mb Q AQ cQ w hn hj hb hp hq hs).mono fun _ _ ⟨D,d,h1,h2,_,h4⟩ => ⟨D,d,h1,h2,h4⟩
theorem ownE_ps {s : Sc} {p : Ps} (h : p.2.length = s.L.length) : ownE s p = psE s p:=by
  unfold ownE psE
  rw [h]
  cases inB p.1 0 s.sl <;> cases qsOk s.L p.2 <;> simp [fstE,unl]
end Go.Proofs.YtpnfgmgoafgcbaaGreat
/-
  Sweep of the reference (chapter 6).
-/
set_option linter.unusedVariables false
namespace Go.Proofs.YtpnfgmgoafgcbaaGreat
open Go.RowKit
attribute [local go_sem] Oper.semAt_some
theorem frR_len : ∀ (js : List Ce) (L : List Lk),(∀ z ∈ L,z.1 ≤ 4) → (frR js L).length ≤ 4 * L.length
  | [],[],_ => by simp [frR]
  | [],_ :: _,_ => by simp [frR]
  | [_],[],_ => by simp [frR]
  | [_],_ :: _,_ => by simp [frR]
  | _ :: _ :: _,[],_ => by simp [frR]
  | a :: b :: js,l :: L,h => by
    have h1:=frR_len (b :: js) L (fun z hz => h z (by simp [hz]))
    have h2:=h l (by simp)
    simp only [frR,lnsR,List.length_append,List.length_map,List.length_range,List.length_cons] at h1 ⊢
    omega
theorem frP_len {s : Sc} {p : Ps} {i : Nat} (h : ∀ z ∈ s.L,z.1 ≤ 4) : (frP s p i).length ≤ 1 + 4 * s.L.length:=by
  have h1:=frR_len ((jts s p).drop i) (s.L.drop i) (fun z hz => h z (List.mem_of_mem_drop hz))
  have h2 : (s.L.drop i).length ≤ s.L.length:=by simp
  simp only [frP,List.length_cons]
  omega
theorem foldl_step {l : List Ce} {k : Nat} {c : Ce} (b : Bx) (h : l[k]? = some c) : (l.take (k + 1)).foldl withP b = withP ((l.take k).foldl withP b) c:=by
  obtain ⟨h1,h2⟩:=List.getElem?_eq_some_iff.1 h
  rw [List.take_succ_eq_append_getElem h1,List.foldl_append,h2]
  rfl
theorem max_nat (a : Int) : ((a.toNat : Nat) : Int) = max a 0:=by omega
set_option maxHeartbeats 8000000 in
set_option maxRecDepth 100000 in
theorem rSweep_c (bx bY sl fx fX fy fY ps mj mb : Int) (L : List Lk) (B : List Bx) (Q : List Int) (AL AB AQ : Option Addr) (cL cB cQ : Nat) (w : World) (hS : SOk (⟨bx,bY,sl,L,(fx,fX,fy,fY),B⟩ : Sc)) (hp : POk (⟨bx,bY,sl,L,(fx,fX,fy,fY),B⟩ : Sc) (ps,Q)) (hP : POk (⟨bx,bY,sl,L,(fx,fX,fy,fY),B⟩ : Sc) (mvd (ps,Q) (mj,mb))) (h1 : -1 ≤ mj ∧ mj < L.length) (h2 : mb = 1 ∨ mb = -1) (hs1 : SlV w AL (L.flatMap lkV)) (hs3 : SlI w AQ Q) :
    Calls Tryz.prog 47 #[.agg #[.int .i64 bx,.int .i64 bY,.int .i64 sl,.slice AL L.length cL,.int .i64 fx,.int .i64 fX,.int .i64 fy,.int .i64 fY,.slice AB B.length cB],.agg #[.int .i64 ps,.slice AQ Q.length cQ],.agg #[.int .i64 mj,.int .i64 mb]] w fun e w' => e = .returned (.agg (bxA (swBx (⟨bx,bY,sl,L,(fx,fX,fy,fY),B⟩ : Sc) (ps,Q) (mj,mb)))) ∧ Below w.heap.size w w':=by
  have hbx:=hS.bx;have hbY:=hS.bY;have hlen:=hS.len;have hlk:=hS.lk;have hsl:=hp.sl6 hS;have hsl2:=hP.sl6 hS;have hr:=hp.rng hS;have hr2:=hP.rng hS
  have hpl:=hp.len;have hpl2:=hP.len
  have HE:=Lib.hid (swBx_ref (s:=(⟨bx,bY,sl,L,(fx,fX,fy,fY),B⟩ : Sc)) (p:=(ps,Q)) (m:=(mj,mb)) (fun z h => (hlk z h).1) hpl (by unfold swI;dsimp only at hlen ⊢;omega))
  dsimp only at hbx hbY hlen hlk hsl hr hpl
  have FRc:=Lib.hid (fun W (h : Below w.heap.size w W) => from_c bx bY sl fx fX fy fY ps L B Q AL AB AQ cL cB cQ (swI (mj,mb)) W hpl hlen.2 (by unfold swI;dsimp only;omega) (by omega) (by omega) (by omega) (fun l h => by have:=hlk l h;omega) hr (fun c hc => by have:=jts_small (s:=(⟨bx,bY,sl,L,(fx,fX,fy,fY),B⟩ : Sc)) (p:=(ps,Q)) hlen.2 (fun l h => by have:=hlk l h;omega) (by dsimp only;omega) (by dsimp only;omega) (by dsimp only;omega) c hc;omega) (hs1.below h) (hs3.below h))
  have MDc:=Lib.hid (fun W (h : Below w.heap.size w W) => rMoved_c ps mj mb Q AQ cQ W (by omega) (by omega) (by omega) (by omega) (fun q h => by have:=hr q h;omega) (hs3.below h))
  have hfl : (frP (⟨bx,bY,sl,L,(fx,fX,fy,fY),B⟩ : Sc) (ps,Q) (swI (mj,mb))).length ≤ 13:=by have:=frP_len (s:=(⟨bx,bY,sl,L,(fx,fX,fy,fY),B⟩ : Sc)) (p:=(ps,Q)) (i:=swI (mj,mb)) (fun z h => (hlk z h).2.1);dsimp only at this;omega
  have hgl : (frP (⟨bx,bY,sl,L,(fx,fX,fy,fY),B⟩ : Sc) (mvd (ps,Q) (mj,mb)) (swI (mj,mb))).length ≤ 13:=by have:=frP_len (s:=(⟨bx,bY,sl,L,(fx,fX,fy,fY),B⟩ : Sc)) (p:=mvd (ps,Q) (mj,mb)) (i:=swI (mj,mb)) (fun z h => (hlk z h).2.1);dsimp only at this;omega
  have HA:=Lib.hid (show frP (⟨bx,bY,sl,L,(fx,fX,fy,fY),B⟩ : Sc) (ps,Q) (swI (mj,mb)) = (jts (⟨bx,bY,sl,L,(fx,fX,fy,fY),B⟩ : Sc) (ps,Q)).getD (swI (mj,mb)) (0,0) :: frR ((jts (⟨bx,bY,sl,L,(fx,fX,fy,fY),B⟩ : Sc) (ps,Q)).drop (swI (mj,mb))) (L.drop (swI (mj,mb))) from rfl)
  have hlb : 0 < (frP (⟨bx,bY,sl,L,(fx,fX,fy,fY),B⟩ : Sc) (mvd (ps,Q) (mj,mb)) (swI (mj,mb))).length:=by simp [frP]
  unfold swR at HE
  generalize hP0 : mvd (ps,Q) (mj,mb) = P at *
  obtain ⟨P1,P2⟩:=P
  dsimp only at hsl2 hr2 hpl2
  have FRd:=Lib.hid (fun D d W (h : Below w.heap.size w W) (hv : SlI W D P2) => from_c bx bY sl fx fX fy fY P1 L B P2 AL AB D cL cB d (swI (mj,mb)) W hpl2 hlen.2 (by unfold swI;dsimp only;omega) (by omega) (by omega) (by omega) (fun l h => by have:=hlk l h;omega) hr2 (fun c hc => by have:=jts_small (s:=(⟨bx,bY,sl,L,(fx,fX,fy,fY),B⟩ : Sc)) (p:=(P1,P2)) hlen.2 (fun l h => by have:=hlk l h;omega) (by dsimp only;omega) (by dsimp only;omega) (by dsimp only;omega) c hc;omega) (hs1.below h) hv)
  rw [show ((swI (mj,mb) : Nat) : Int) = max mj 0 from max_nat mj] at FRc FRd
  clear hs1 hs3 hbx hbY hlen hlk hsl hsl2 hr hr2 hpl hpl2 hS hp hP hP0 h1 h2
  generalize frP (⟨bx,bY,sl,L,(fx,fX,fy,fY),B⟩ : Sc) (P1,P2) (swI (mj,mb)) = cb at *
  generalize frP (⟨bx,bY,sl,L,(fx,fX,fy,fY),B⟩ : Sc) (ps,Q) (swI (mj,mb)) = ca at *
  generalize frR ((jts (⟨bx,bY,sl,L,(fx,fX,fy,fY),B⟩ : Sc) (ps,Q)).drop (swI (mj,mb))) (L.drop (swI (mj,mb))) = ct at *
  generalize (jts (⟨bx,bY,sl,L,(fx,fX,fy,fY),B⟩ : Sc) (ps,Q)).getD (swI (mj,mb)) (0,0) = ch at *
  generalize swBx (⟨bx,bY,sl,L,(fx,fX,fy,fY),B⟩ : Sc) (ps,Q) (mj,mb) = R at *
  obtain ⟨cx,cy⟩:=ch
  have hl0 : (ca ++ cb)[0]? = some (cx,cy):=by rw [HA.out];rfl
  have hm1 : ca.length + cb.length ≤ maxLen:=by unfold maxLen;omega
  have hm2 : (ca.length + cb.length) * 16 ≤ 140737488355328:=by omega
  have hfl2 : (cb.flatMap ceV).length = cb.length * 2:=flatK_len (enc:=ceV) (k:=2) (fun _ => rfl) _
  have H2:=Lib.hid (show ∀ u ∈ cb.flatMap ceV,u.oneCell' = true from fun u hu => by
    obtain ⟨r,_,hr⟩:=List.mem_flatMap.1 hu
    simp [ceV] at hr
    rcases hr with rfl | rfl <;> rfl)
  clear HA
  obtain ⟨j0,zC,hj0,hy0,hy1,hy2,hy3⟩:=infoOk_parts infoC
  go_enter Tryz.func47,Tryz.ntmps47
  go_upto_region 2 with fail
  obtain ⟨W1,hW1⟩ : ∃ W1 : World,W1 = (((w.alloc (.cells #[.int .i64 bx,.int .i64 bY,.int .i64 sl,.slice AL L.length cL,.int .i64 fx,.int .i64 fX,.int .i64 fy,.int .i64 fY,.slice AB B.length cB] 30)).alloc (.cells #[.int .i64 ps,.slice AQ Q.length cQ] 33)).alloc (.cells #[.int .i64 mj,.int .i64 mb] 84)).alloc (.cells #[.int .i64 0,.int .i64 0,.int .i64 0,.int .i64 0] 27):=⟨_,rfl⟩
  have y2 : Box W1 w.heap.size 30 #[.int .i64 bx,.int .i64 bY,.int .i64 sl,.slice AL L.length cL,.int .i64 fx,.int .i64 fX,.int .i64 fy,.int .i64 fY,.slice AB B.length cB]:=by rw [hW1];exact bX0
  have y3 : Box W1 (w.heap.size + 1) 33 #[.int .i64 ps,.slice AQ Q.length cQ]:=by rw [hW1];exact bX0
  have y4 : Box W1 (w.heap.size + 1 + 1) 84 #[.int .i64 mj,.int .i64 mb]:=by rw [hW1];exact bX0
  have y6 : Box W1 (w.heap.size + 1 + 1 + 1) 27 #[.int .i64 0,.int .i64 0,.int .i64 0,.int .i64 0]:=by rw [hW1];exact bX0
  have hBx : Below w.heap.size w W1:=by rw [hW1];exact bB0
  have hzW : w.heap.size ≤ W1.heap.size:=hBx.size
  rw [← hW1]
  clear hW1
  have zz0:=y2.cell 0;have zz1:=y2.cell 1;have zz2:=y2.cell 2;have zz3:=y2.cell 3;have zz4:=y2.cell 4;have zz5:=y2.cell 5;have zz6:=y2.cell 6;have zz7:=y2.cell 7;have zz8:=y2.cell 8
  have q0:=y3.cell 0;have q1:=y3.cell 1;have r0:=y4.cell 0;have r1:=y4.cell 1
  simp at zz0 zz1 zz2 zz3 zz4 zz5 zz6 zz7 zz8 q0 q1 r0 r1
  have k2:=y2.lt;have k3:=y3.lt;have k4:=y4.lt;have k6:=y6.lt
  (refine wp_region_held_drew (S:=(fun w' => Below W1.heap.size W1 w')) kR ?_ (fun hHeld => ?_);(focus ((try dsimp only);((first | (first | exact bB0 | exact bB1 hb3 | exact bB2 hb3 hb4 | exact bB3 hb3 hb4 hb5) | exact (Below.grown (by (first | exact bB0 | exact bB1 hb3 | exact bB2 hb3 hb4 | exact bB3 hb3 hb4 hb5)) (show World.grownBy _ w6 (some g1) from hgrow6) (by (try simp);omega) (fun r e => by have e : some g1 = some r:=e;have h0:=(ho1.lt g1 (by simp [Value.ownBlock])).1;(try simp at h0);have:=Option.some.inj e;omega))))));have hO:=Lib.hid (fun w' (hSw : (fun w' => Below W1.heap.size W1 w') w') => (by (try dsimp only at hSw);(have hcc:=(bcell hSw).1;have sa0:=(hcc _ 0 k2).trans zz0;have sa1:=(hcc _ 1 k2).trans zz1;have sa2:=(hcc _ 2 k2).trans zz2;have sa3:=(hcc _ 3 k2).trans zz3;have sa4:=(hcc _ 4 k2).trans zz4;have sa5:=(hcc _ 5 k2).trans zz5;have sa6:=(hcc _ 6 k2).trans zz6;have sa7:=(hcc _ 7 k2).trans zz7;have sa8:=(hcc _ 8 k2).trans zz8;have sb0:=(hcc _ 0 k3).trans q0;have sb1:=(hcc _ 1 k3).trans q1;have sc0:=(hcc _ 0 k4).trans r0;have sc1:=(hcc _ 1 k4).trans r1);exact And.intro sa0 (And.intro sa1 (And.intro sa2 (And.intro sa3 (And.intro sa4 (And.intro sa5 (And.intro sa6 (And.intro sa7 (And.intro sa8 (And.intro sb0 (And.intro sb1 (And.intro sc0 sc1)))))))))))));refine rgL 0 hO rfl ?_;refine rgL 1 hO rfl ?_;refine rgN 2 rfl ?_;refine rgL 4 hO rfl ?_;refine rgL 5 hO rfl ?_;refine rgL 6 hO rfl ?_;refine rgN 8 rfl ?_;refine rgC 3 rfl (fun K hK => ?_);go_simp;(first | (go_at_call 117;(with_reducible refine (FRc.out _ (by exact bB1 hBx)).mono ?_);rintro e w3 hE3;obtain ⟨g1,c1,rfl,ho1,hb3⟩:=hE3;have hz3 : W1.heap.size ≤ w3.heap.size:=(by have:=hb3.size;(try simp at this);omega)) | (go_at_call 117;(with_reducible refine (FRd.out D d _ (by exact bB3 hb4 hb3 hBx) (hv4.below (by exact bB0))).mono ?_);rintro e w5 hE5;obtain ⟨g2,c2,rfl,ho2,hb5⟩:=hE5;have hz5 : w4.heap.size ≤ w5.heap.size:=(by have:=hb5.size;(try simp at this);omega)));go_simp;refine hK.out _ _ ?_ (fun hHeld => ?_);(focus ((try dsimp only);((first | (first | exact bB3 hb3 hb4 hb5 | exact bB2 hb3 hb4 | exact bB1 hb3 | exact bB0) | exact (Below.grown (by (first | exact bB3 hb3 hb4 hb5 | exact bB2 hb3 hb4 | exact bB1 hb3 | exact bB0)) (show World.grownBy _ w6 (some g1) from hgrow6) (by (try simp);omega) (fun r e => by have e : some g1 = some r:=e;have h0:=(ho1.lt g1 (by simp [Value.ownBlock])).1;(try simp at h0);have:=Option.some.inj e;omega))))));clear hK K;(try simp only [Act.put,pqs]);refine rgC 7 rfl (fun K hK => ?_);go_simp;((go_at_call 46;(with_reducible refine (MDc.out _ (by exact bB2 hb3 hBx)).mono ?_);rintro e w4 hE4;obtain ⟨D,d,rfl,hv4,hb4⟩:=hE4;have hz4 : w3.heap.size ≤ w4.heap.size:=(by have:=hb4.size;(try simp at this);omega)));go_simp;refine hK.out _ _ ?_ (fun hHeld => ?_);(focus ((try dsimp only);((first | (first | exact bB3 hb3 hb4 hb5 | exact bB2 hb3 hb4 | exact bB1 hb3 | exact bB0) | exact (Below.grown (by (first | exact bB3 hb3 hb4 hb5 | exact bB2 hb3 hb4 | exact bB1 hb3 | exact bB0)) (show World.grownBy _ w6 (some g1) from hgrow6) (by (try simp);omega) (fun r e => by have e : some g1 = some r:=e;have h0:=(ho1.lt g1 (by simp [Value.ownBlock])).1;(try simp at h0);have:=Option.some.inj e;omega))))));clear hK K;(try simp only [Act.put,pqs]);refine rgC 9 rfl (fun K hK => ?_);go_simp;(first | (go_at_call 117;(with_reducible refine (FRc.out _ (by exact bB1 hBx)).mono ?_);rintro e w3 hE3;obtain ⟨g1,c1,rfl,ho1,hb3⟩:=hE3;have hz3 : W1.heap.size ≤ w3.heap.size:=(by have:=hb3.size;(try simp at this);omega)) | (go_at_call 117;(with_reducible refine (FRd.out D d _ (by exact bB3 hb4 hb3 hBx) (hv4.below (by exact bB0))).mono ?_);rintro e w5 hE5;obtain ⟨g2,c2,rfl,ho2,hb5⟩:=hE5;have hz5 : w4.heap.size ≤ w5.heap.size:=(by have:=hb5.size;(try simp at this);omega)));go_simp;refine hK.out _ _ ?_ (fun hHeld => ?_);(focus ((try dsimp only);((first | (first | exact bB3 hb3 hb4 hb5 | exact bB2 hb3 hb4 | exact bB1 hb3 | exact bB0) | exact (Below.grown (by (first | exact bB3 hb3 hb4 hb5 | exact bB2 hb3 hb4 | exact bB1 hb3 | exact bB0)) (show World.grownBy _ w6 (some g1) from hgrow6) (by (try simp);omega) (fun r e => by have e : some g1 = some r:=e;have h0:=(ho1.lt g1 (by simp [Value.ownBlock])).1;(try simp at h0);have:=Option.some.inj e;omega))))));clear hK K;(try simp only [Act.put,pqs]);refine rgC 10 rfl (fun K hK => ?_);((refine step_append_lies _ rfl (.tmp 17) (.tmp 23) 54 rfl w.heap.size 22 j0 zC 2 16 Tryz.underlying54 hj0 hy0 hy1 hy2 hy3 (by decide) _ _ _ rfl (own_base (own_below ho1 (by exact bB2 hb4 hb5)) hzW) ⟨g2,0,none⟩ cb.length c2 (cb.flatMap ceV) rfl hfl2 (ho2.cells (g:=g2) rfl) H2.out hlb hm1 hm2 (by have h1:=hb3.size;have h2:=hb4.size;have h3:=hb5.size;simp at h1 h2 h3 ⊢;omega) _ rfl ?_;intro g6 c6 w6 hown6 hgrow6 hat6 hlt6));go_simp;refine hK.out _ _ ?_ (fun hHeld => ?_);(focus ((try dsimp only);((first | (first | exact bB3 hb3 hb4 hb5 | exact bB2 hb3 hb4 | exact bB1 hb3 | exact bB0) | exact (Below.grown (by (first | exact bB3 hb3 hb4 hb5 | exact bB2 hb3 hb4 | exact bB1 hb3 | exact bB0)) (show World.grownBy _ w6 (some g1) from hgrow6) (by (try simp);omega) (fun r e => by have e : some g1 = some r:=e;have h0:=(ho1.lt g1 (by simp [Value.ownBlock])).1;(try simp at h0);have:=Option.some.inj e;omega))))));clear hK K;(try simp only [Act.put,pqs]);refine rgN 11 rfl ?_;refine wpAnyH_done kR ?_ _)
  have hB6 : Below W1.heap.size W1 w6:=(Below.grown (by exact bB3 hb3 hb4 hb5) (show World.grownBy _ w6 (some g1) from hgrow6) (by (try simp);omega) (fun r e => by have e : some g1 = some r:=e;have h0:=(ho1.lt g1 (by simp [Value.ownBlock])).1;(try simp at h0);have:=Option.some.inj e;omega))
  have Y6:=y6.below hB6 k6
  have hBw : Below w.heap.size w w6:=hBx.trans (hB6.mono hzW)
  have hvl : SlV w6 (some ⟨g6,0,none⟩) ((ca ++ cb).flatMap ceV):=by rw [List.flatMap_append];exact slv_own (k:=2) (by decide) hown6
  have hll : ca.length + cb.length = (ca ++ cb).length:=by simp
  have hlp : 0 < (ca ++ cb).length:=by simp;omega
  have hln : (ca ++ cb).length ≤ 26:=by simp;omega
  rw [hll]
  clear hll y2 y3 y4 y6 zz0 zz1 zz2 zz3 zz4 zz5 zz6 zz7 zz8 q0 q1 r0 r1 k2 k3 k4 k6 hb3 hb4 hb5 ho1 ho2 hv4 hown6 hgrow6 hat6 FRc FRd MDc hBx hzW hfl hgl hm1 hm2 hfl2 H2 hlb hB6
  generalize ca ++ cb = l at *
  obtain ⟨_,_,e,lJ,b0,b1⟩:=ce_cells hvl hl0
  cases e
  simp at b0 b1
  have HV:=Lib.hid hvl
  have i0 : (0 : Int) < (l.length : Int):=by omega
  have l6:=Y6.lt
  clear hvl hl0
  go_wp2
  (refine wp_region_held_drew (S:=(fun w' => Below w6.heap.size w6 w')) kR ?_ (fun hHeld => ?_);(focus ((try dsimp only);(((first | exact bB0 | exact bB0)))));have hO:=Lib.hid (fun w' (hSw : (fun w' => Below w6.heap.size w6 w') w') => (by (try dsimp only at hSw);(have hcc:=(bcell hSw).1;have sb0:=(hcc _ _ lJ).trans b0;have sb1:=(hcc _ _ lJ).trans b1);exact And.intro sb0 sb1));refine rgN 0 rfl ?_;refine rgN 1 rfl ?_;refine rgN 2 rfl ?_;refine rgL 3 hO rfl ?_;refine rgN 4 rfl ?_;refine rgN 5 rfl ?_;refine rgN 6 rfl ?_;refine rgL 7 hO rfl ?_;refine rgN 8 rfl ?_;refine rgN 9 rfl ?_;refine rgN 10 rfl ?_;refine rgN 11 rfl ?_;refine rgL 12 hO rfl ?_;refine rgN 13 rfl ?_;refine rgN 14 rfl ?_;refine rgN 15 rfl ?_;refine rgL 16 hO rfl ?_;refine rgN 17 rfl ?_;refine rgN 18 rfl ?_;refine rgC 19 rfl (fun K hK => ?_);go_simp;refine hK.out _ _ ?_ (fun hHeld => ?_);(focus ((try dsimp only);(((first | exact bB0 | exact bB0)))));clear hK K;(try simp only [Act.put,pqs]);refine rgC 20 rfl (fun K hK => ?_);go_simp;refine hK.out _ _ ?_ (fun hHeld => ?_);(focus ((try dsimp only);(((first | exact bB0 | exact bB0)))));clear hK K;(try simp only [Act.put,pqs]);refine wpAnyH_done kR ?_ _)
  go_wp2
  go_loopw [10] (fun i wr => ∃ k : Nat,k ≤ l.length ∧ i = .int .i64 k ∧ (∃ x0 x1 y0 y1 : Int,Hid ((l.take k).foldl withP (onlyP (cx,cy)) = (x0,x1,y0,y1)) ∧ Box wr w6.heap.size 27 #[.int .i64 x0,.int .i64 x1,.int .i64 y0,.int .i64 y1]) ∧ Below w6.heap.size w6 wr) (fun i _ => l.length - (intOf i).toNat)
  case atStart => exact ⟨0,Nat.zero_le _,rfl,⟨cx,cx,cy,cy,rfl,by exact bX0⟩,by exact bB0⟩
  case round =>
    obtain ⟨k,hk,rfl,⟨x0,x1,y0,y1,HF,hG⟩,hB6⟩:=hrel
    clear b0 b1 lJ i0
    have a0:=hG.cell 0;have a1:=hG.cell 1;have a2:=hG.cell 2;have a3:=hG.cell 3;have fG:=hG.froz
    simp at a0 a1 a2 a3
    have lG:=hG.lt
    have hz:=hB6.size
    by_cases hlt : k < l.length
    · obtain ⟨_,_,e,lJ,b0,b1⟩:=ce_cells (HV.out.below hB6) (List.getElem?_eq_getElem hlt)
      cases e
      have STP:=Lib.hid (foldl_step (onlyP (cx,cy)) (List.getElem?_eq_getElem hlt))
      have HK:=Lib.hid (List.getElem?_eq_getElem hlt)
      generalize l[k] = cc at *
      obtain ⟨a,b⟩:=cc
      dsimp only at b0 b1
      simp only [Nat.zero_add] at b0 b1
      have i1 : (k : Int) < (l.length : Int):=by omega
      have nG : g6 ≠ w6.heap.size:=by omega
      have nG' : w6.heap.size ≠ g6:=by omega
      go_wp2
      (refine region_open kR (fun R hR => ?_);refine lateR (S:=(fun w' => Below wr.heap.size wr w')) 20 ?_ (fun hHeld => ?_);(focus ((try dsimp only);(((first | exact bB0 | exact bB0)))));have hO:=Lib.hid (fun w' (hSw : (fun w' => Below wr.heap.size wr w') w') => (by (try dsimp only at hSw);(have hcc:=(bcell hSw).1;have sa0:=(hcc _ 0 lG).trans a0;have sa1:=(hcc _ 1 lG).trans a1;have sa2:=(hcc _ 2 lG).trans a2;have sa3:=(hcc _ 3 lG).trans a3;have sb0:=(hcc _ _ lJ).trans b0;have sb1:=(hcc _ _ lJ).trans b1);exact And.intro sa0 (And.intro sa1 (And.intro sa2 (And.intro sa3 (And.intro sb0 sb1))))));refine laN 0 rfl ?_;refine laN 1 rfl ?_;refine laL 2 hO rfl ?_;refine laN 3 rfl ?_;refine laN 4 rfl ?_;refine laN 5 rfl ?_;refine laN 6 rfl ?_;refine laL 7 hO rfl ?_;refine laN 8 rfl ?_;refine laN 9 rfl ?_;refine laN 10 rfl ?_;refine laL 11 hO rfl ?_;refine laN 12 rfl ?_;refine laN 13 rfl ?_;refine laN 14 rfl ?_;refine laN 15 rfl ?_;refine laL 16 hO rfl ?_;refine laN 17 rfl ?_;refine laN 18 rfl ?_;refine laN 19 rfl ?_;refine laD 20 rfl (fun K hK => ?_);go_simp;(skip);go_simp;refine hK.out _ _ ?_ (fun hHeld => ?_);(focus (exact trivial));clear hK K;(try simp only [Act.put,pqs]);refine wpAnyL_done (Q:=fun e a w => e = Exit.normal ∧ R a w) kR ⟨rfl,hR _ _ ?_⟩ _;clear hR R)
      obtain ⟨W7,hW7⟩ : ∃ W7 : World,W7 = ((wr.setCell ⟨w6.heap.size,0,none⟩ (.int .i64 (min x0 a))).setCell ⟨w6.heap.size,1,none⟩ (.int .i64 (max x1 a))).drew:=⟨_,rfl⟩
      have G7 : Box W7 w6.heap.size 27 #[.int .i64 (min x0 a),.int .i64 (max x1 a),.int .i64 y0,.int .i64 y1]:=by rw [hW7];exact bX0
      have hB7 : Below w6.heap.size w6 W7:=by rw [hW7];exact bB1 hB6
      rw [← hW7]
      clear hW7 hG a0 a1 a2 a3 fG lG b0 b1 lJ hB6 hz
      have a0:=G7.cell 0;have a1:=G7.cell 1;have a2:=G7.cell 2;have a3:=G7.cell 3;have fG:=G7.froz
      simp at a0 a1 a2 a3
      have lG:=G7.lt
      have hz:=hB7.size
      obtain ⟨_,_,e,lJ,b0,b1⟩:=ce_cells (HV.out.below hB7) HK.out
      cases e
      dsimp only at b0 b1
      simp only [Nat.zero_add] at b0 b1
      go_wp2
      (refine region_open kR (fun R hR => ?_);refine lateR (S:=(fun w' => Below W7.heap.size W7 w')) 20 ?_ (fun hHeld => ?_);(focus ((try dsimp only);(((first | exact bB0 | exact bB0)))));have hO:=Lib.hid (fun w' (hSw : (fun w' => Below W7.heap.size W7 w') w') => (by (try dsimp only at hSw);(have hcc:=(bcell hSw).1;have sa0:=(hcc _ 0 lG).trans a0;have sa1:=(hcc _ 1 lG).trans a1;have sa2:=(hcc _ 2 lG).trans a2;have sa3:=(hcc _ 3 lG).trans a3;have sb0:=(hcc _ _ lJ).trans b0;have sb1:=(hcc _ _ lJ).trans b1);exact And.intro sa0 (And.intro sa1 (And.intro sa2 (And.intro sa3 (And.intro sb0 sb1))))));refine laN 0 rfl ?_;refine laN 1 rfl ?_;refine laL 2 hO rfl ?_;refine laN 3 rfl ?_;refine laN 4 rfl ?_;refine laN 5 rfl ?_;refine laN 6 rfl ?_;refine laL 7 hO rfl ?_;refine laN 8 rfl ?_;refine laN 9 rfl ?_;refine laN 10 rfl ?_;refine laL 11 hO rfl ?_;refine laN 12 rfl ?_;refine laN 13 rfl ?_;refine laN 14 rfl ?_;refine laN 15 rfl ?_;refine laL 16 hO rfl ?_;refine laN 17 rfl ?_;refine laN 18 rfl ?_;refine laN 19 rfl ?_;refine laD 20 rfl (fun K hK => ?_);go_simp;(skip);go_simp;refine hK.out _ _ ?_ (fun hHeld => ?_);(focus (exact trivial));clear hK K;(try simp only [Act.put,pqs]);refine wpAnyL_done (Q:=fun e a w => e = Exit.normal ∧ R a w) kR ⟨rfl,hR _ _ ?_⟩ _;clear hR R)
      go_wp2
      go_roundw
      case rel => exact ⟨k + 1,by omega,by go_num,⟨min x0 a,max x1 a,min y0 b,max y1 b,by unfold Hid;rw [STP.out,HF.out];rfl,by exact bX0⟩,by exact bB1 hB7⟩
      case measure => simp [intOf];omega
    · have hR : R = (x0,x1,y0,y1):=by rw [HE.out,← HF.out,List.take_of_length_le (by omega)]
      subst hR
      have Y:=Y6.below hB6 l6
      have d0:=Y.cell 0;have d1:=Y.cell 1;have d2:=Y.cell 2;have d3:=Y.cell 3;have fY:=Y.froz
      simp at d0 d1 d2 d3
      have lY:=Y.lt
      go_wp2
      refine bodyPost_ret (res_c1 rfl rfl (show Box _ _ 27 #[.int .i64 x0,.int .i64 x1,.int .i64 y0,.int .i64 y1] from ?hE) Tryz.underlying27 rfl tb_size) rfl ⟨rfl, ?hB⟩
      case hE => exact bX0
      case hB => exact bB2 hB6 hBw
end Go.Proofs.YtpnfgmgoafgcbaaGreat

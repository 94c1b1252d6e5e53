/-
  Moved and MovedErr of the reference (chapter 6).
-/
import Derived.Test.YtpnfgmgoafgcbaaGreatCpyY
import Derived.Test.YtpnfgmgoafgcbaaGreatRSc
import Derived.Test.YtpnfgmgoafgcbaaGreatRMv
import Derived.Test.YtpnfgmgoafgcbaaGreatLate
import Derived.Test.YtpnfgmgoafgcbaaGreatA6
set_option linter.unusedVariables false
namespace Go.Proofs.YtpnfgmgoafgcbaaGreat
open Go.RowKit
attribute [local go_sem] Oper.semAt_some
/-- How Moved ends. -/
def RmEnd (p : Ps) (w : World) (e : Ending) (w' : World) : Prop :=
  ∃ D d, e = .returned (.agg #[.int .i64 p.1, .slice D p.2.length d]) ∧ SlI w' D p.2 ∧ Below w.heap.size w w'
/-- The same, and that the quarters lie in a block of their own. -/
def RmX (p : Ps) (w : World) (e : Ending) (w' : World) : Prop :=
  ∃ D d, e = .returned (.agg #[.int .i64 p.1, .slice D p.2.length d]) ∧ SlI w' D p.2 ∧ (0 < p.2.length → ∃ g cs, D = some ⟨g, 0, none⟩ ∧ w.heap.size ≤ g ∧ Box w' g 3 cs) ∧ Below w.heap.size w w'
set_option maxHeartbeats 4000000 in
set_option maxRecDepth 100000 in
theorem rMovedX_c (ps mj mb : Int) (Q : List Int) (AQ : Option Addr) (cQ : Nat) (w : World) (hn : Q.length ≤ 1000) (hj : -1 ≤ mj ∧ mj < Q.length) (hb : -1 ≤ mb ∧ mb ≤ 1) (hp : -1000 ≤ ps ∧ ps ≤ 1000) (hq : ∀ q ∈ Q, -1000 ≤ q ∧ q ≤ 1000) (hs : SlI w AQ Q) :
    Calls Tryz.prog 46 #[.agg #[.int .i64 ps, .slice AQ Q.length cQ], .agg #[.int .i64 mj, .int .i64 mb]] w (RmX (mvd (ps, Q) (mj, mb)) w) := by
  have CPc := Lib.hid (fun W (h : Below w.heap.size w W) => copyPoseX_c ps Q AQ cQ W (by omega) (hs.below h))
  have HM := Lib.hid (show mvd (ps, Q) (mj, mb) = if mj = -1 then (ps + mb, Q) else (ps, addAt Q mj.toNat mb) from rfl)
  have HQ := Lib.hid hq
  clear hs hq
  generalize mvd (ps, Q) (mj, mb) = P at *
  obtain ⟨P1, P2⟩ := P
  by_cases hm : mj = -1
  · obtain ⟨rfl, rfl⟩ : P1 = ps + mb ∧ Q = P2 := by have := HM.out; rw [if_pos hm] at this; simp at this; exact ⟨this.1, this.2.symm⟩
    have e1 : (mj == -1) = true := beqT hm
    have v1 : IntKind.i64.wrap (ps + mb) = ps + mb := IntWalk.i64_in _ (by omega)
    clear HM hm
    go_enter Tryz.func46, Tryz.ntmps46
    go_upto_region 2 with (first | (go_at_call 18; (with_reducible refine (CPc.out _ (by exact bB0)).mono ?_); rintro e w2 hE2; obtain ⟨D, d, rfl, hv2, hf2, hb2⟩ := hE2; have HF2 := Lib.hid hf2; clear hf2; have hz2 : w.heap.size + 1 + 1 + 1 ≤ w2.heap.size := (by have := hb2.size; (try simp at this); omega)) | fail)
    obtain ⟨W6, hW6⟩ : ∃ W6 : World, W6 = w2.alloc (.cells #[.int .i64 ps, .slice D Q.length d] 33) := ⟨_, rfl⟩
    have B5 : Box W6 w2.heap.size 33 #[.int .i64 ps, .slice D Q.length d] := by rw [hW6]; exact Box.new _ _ _
    have B3 : Box W6 (w.heap.size + 1) 84 #[.int .i64 mj, .int .i64 mb] := by rw [hW6]; exact bX1 hb2
    have B4 : Box W6 (w.heap.size + 1 + 1) 33 #[.int .i64 0, .slice none 0 0] := by rw [hW6]; exact bX1 hb2
    have hBx : Below w.heap.size w W6 := by rw [hW6]; exact bB1 hb2
    have HV := Lib.hid (show SlI W6 D Q from by rw [hW6]; exact hv2.alloc _)
    have HF := Lib.hid (show 0 < Q.length → ∃ g cs, D = some ⟨g, 0, none⟩ ∧ w.heap.size + 1 + 1 < g ∧ g < w2.heap.size ∧ Box W6 g 3 cs from fun h => by
      obtain ⟨g, cs, e, hg, hbx⟩ := HF2.out h
      simp at hg
      exact ⟨g, cs, e, by omega, hbx.lt, by rw [hW6]; exact hbx.alloc _⟩)
    rw [← hW6]
    clear hW6 hv2 hb2 HF2 CPc
    generalize w2.heap.size = g5 at *
    have c50 := B5.cell 0; have c51 := B5.cell 1; have f5 := B5.froz; have l5 := B5.lt
    have c30 := B3.cell 0; have c31 := B3.cell 1; have l3 := B3.lt
    have c40 := B4.cell 0; have c41 := B4.cell 1; have f4 := B4.froz; have l4 := B4.lt
    simp at c50 c51 c30 c31 c40 c41
    have n54 : g5 ≠ w.heap.size + 1 + 1 := by omega
    have n45 : w.heap.size + 1 + 1 ≠ g5 := by omega
    go_wp2
    refine bodyPost_ret (res_c1 rfl rfl (show Box _ _ 33 #[.int .i64 (ps + mb), .slice D Q.length d] from ?hE) Tryz.underlying33 rfl tps_size) rfl ⟨D, d, rfl, ?hD, ?hF, ?hZ⟩
    case hF =>
      intro hl
      obtain ⟨g, cs, rfl, hg1, hg2, hbx⟩ := HF.out hl
      exact ⟨g, cs, rfl, by omega, by exact bX0⟩
    case hE => exact bX0
    case hZ => exact bB1 hBx
    case hD =>
      repeat (refine SlI.setf ?_ (fun hl b o e => ?_); rotate_left; (focus (obtain ⟨g, cs, e1, hg1, hg2, _⟩ := HF.out hl; rw [e1] at e; (cases e); (try simp); omega)))
      exact HV.out
  · obtain ⟨rfl, rfl⟩ : ps = P1 ∧ P2 = addAt Q mj.toNat mb := by have := HM.out; rw [if_neg hm] at this; simp at this; exact ⟨this.1.symm, this.2⟩
    have e1 : (mj == -1) = false := beqF hm
    have hmj : 0 ≤ mj := by omega
    clear HM hm
    go_enter Tryz.func46, Tryz.ntmps46
    go_upto_region 2 with (first | (go_at_call 18; (with_reducible refine (CPc.out _ (by exact bB0)).mono ?_); rintro e w2 hE2; obtain ⟨D, d, rfl, hv2, hf2, hb2⟩ := hE2; have HF2 := Lib.hid hf2; clear hf2; have hz2 : w.heap.size + 1 + 1 + 1 ≤ w2.heap.size := (by have := hb2.size; (try simp at this); omega)) | fail)
    obtain ⟨W6, hW6⟩ : ∃ W6 : World, W6 = w2.alloc (.cells #[.int .i64 ps, .slice D Q.length d] 33) := ⟨_, rfl⟩
    have B5 : Box W6 w2.heap.size 33 #[.int .i64 ps, .slice D Q.length d] := by rw [hW6]; exact Box.new _ _ _
    have B3 : Box W6 (w.heap.size + 1) 84 #[.int .i64 mj, .int .i64 mb] := by rw [hW6]; exact bX1 hb2
    have B4 : Box W6 (w.heap.size + 1 + 1) 33 #[.int .i64 0, .slice none 0 0] := by rw [hW6]; exact bX1 hb2
    have hBx : Below w.heap.size w W6 := by rw [hW6]; exact bB1 hb2
    have HV := Lib.hid (show SlI W6 D Q from by rw [hW6]; exact hv2.alloc _)
    have HF := Lib.hid (show 0 < Q.length → ∃ g cs, D = some ⟨g, 0, none⟩ ∧ w.heap.size + 1 + 1 < g ∧ g < w2.heap.size ∧ Box W6 g 3 cs from fun h => by
      obtain ⟨g, cs, e, hg, hbx⟩ := HF2.out h
      simp at hg
      exact ⟨g, cs, e, by omega, hbx.lt, by rw [hW6]; exact hbx.alloc _⟩)
    rw [← hW6]
    clear hW6 hv2 hb2 HF2 CPc
    generalize w2.heap.size = g5 at *
    have c50 := B5.cell 0; have c51 := B5.cell 1; have f5 := B5.froz; have l5 := B5.lt
    have c30 := B3.cell 0; have c31 := B3.cell 1; have l3 := B3.lt
    have c40 := B4.cell 0; have c41 := B4.cell 1; have f4 := B4.froz; have l4 := B4.lt
    simp at c50 c51 c30 c31 c40 c41
    have n54 : g5 ≠ w.heap.size + 1 + 1 := by omega
    have n45 : w.heap.size + 1 + 1 ≠ g5 := by omega
    have hmq : mj.toNat < Q.length := by omega
    have hmi : mj < (Q.length : Int) := by omega
    obtain ⟨g, cs, rfl, hg1, hg2, hbg⟩ := HF.out (by omega)
    have HB := Lib.hid (bgn_of hbg (sli_slv HV.out))
    have qb := HQ.out _ (List.getElem_mem hmq)
    have AM := Lib.hid (addAt_map Q mj.toNat mb hmq)
    obtain ⟨b0, o0, e0, _, q0⟩ := HV.out mj.toNat Q[mj.toNat] (List.getElem?_eq_getElem hmq)
    cases e0
    have ALn := Lib.hid (addAt_len Q mj.toNat mb)
    generalize Q[mj.toNat] = qv at *
    have v1 : IntKind.i64.wrap (qv + mb) = qv + mb := IntWalk.i64_in _ (by omega)
    have fg := hbg.froz; have lg := hbg.lt
    rw [Nat.zero_add] at q0
    have n1 : g ≠ g5 := by omega
    have n2 : g ≠ w.heap.size + 1 + 1 := by omega
    go_wp2
    (refine wp_region_late (S := (fun w' => Below W6.heap.size W6 w')) 14 (by kernel_rfl) ?_ (fun hHeld => ?_); (focus ((try dsimp only); (((first | exact bB0 | exact bB0))))); refine wpAnyL_pure (i := 0) (v := ?_) rfl (by kernel_rfl) (by kernel_rfl) (by kernel_rfl) (by kernel_rfl) (fun _ _ _ h => h) (.inl ⟨by kernel_rfl, fun w' _ => ?_⟩) (by first | exact (fun _ => hHeld) | exact late_absurd (by kernel_rfl)) ?_; rotate_left; (focus (go_simp; (try with_reducible rfl))); (try simp only [Act.put, pqs]); refine wpAnyL_take (i := 1) (v := ?_) rfl (by kernel_rfl) (by kernel_rfl) (by kernel_rfl) (by kernel_rfl) (by kernel_rfl) (by kernel_rfl) (fun _ _ _ h => h) (.inl ⟨by kernel_rfl, fun w' hSw => ?_⟩) hHeld ?_; rotate_left; (focus ((try dsimp only at hSw); (have hcc := (bcell hSw).1; have sa0 := (hcc _ 1 l5).trans c51; have sa1 := (hcc _ 0 l3).trans c30; have sa2 := (hcc _ 1 l3).trans c31; have sa3 := (hcc _ _ lg).trans q0); go_simp; (try with_reducible rfl))); (try simp only [Act.put, pqs]); refine wpAnyL_pure (i := 2) (v := ?_) rfl (by kernel_rfl) (by kernel_rfl) (by kernel_rfl) (by kernel_rfl) (fun _ _ _ h => h) (.inl ⟨by kernel_rfl, fun w' _ => ?_⟩) (by first | exact (fun _ => hHeld) | exact late_absurd (by kernel_rfl)) ?_; rotate_left; (focus (go_simp; (try with_reducible rfl))); (try simp only [Act.put, pqs]); refine wpAnyL_take (i := 3) (v := ?_) rfl (by kernel_rfl) (by kernel_rfl) (by kernel_rfl) (by kernel_rfl) (by kernel_rfl) (by kernel_rfl) (fun _ _ _ h => h) (.inl ⟨by kernel_rfl, fun w' hSw => ?_⟩) hHeld ?_; rotate_left; (focus ((try dsimp only at hSw); (have hcc := (bcell hSw).1; have sa0 := (hcc _ 1 l5).trans c51; have sa1 := (hcc _ 0 l3).trans c30; have sa2 := (hcc _ 1 l3).trans c31; have sa3 := (hcc _ _ lg).trans q0); go_simp; (try with_reducible rfl))); (try simp only [Act.put, pqs]); refine wpAnyL_pure (i := 4) (v := ?_) rfl (by kernel_rfl) (by kernel_rfl) (by kernel_rfl) (by kernel_rfl) (fun _ _ _ h => h) (.inl ⟨by kernel_rfl, fun w' _ => ?_⟩) (by first | exact (fun _ => hHeld) | exact late_absurd (by kernel_rfl)) ?_; rotate_left; (focus (go_simp; (try with_reducible rfl))); (try simp only [Act.put, pqs]); refine wpAnyL_take (i := 5) (v := ?_) rfl (by kernel_rfl) (by kernel_rfl) (by kernel_rfl) (by kernel_rfl) (by kernel_rfl) (by kernel_rfl) (fun _ _ _ h => h) (.inl ⟨by kernel_rfl, fun w' hSw => ?_⟩) hHeld ?_; rotate_left; (focus ((try dsimp only at hSw); (have hcc := (bcell hSw).1; have sa0 := (hcc _ 1 l5).trans c51; have sa1 := (hcc _ 0 l3).trans c30; have sa2 := (hcc _ 1 l3).trans c31; have sa3 := (hcc _ _ lg).trans q0); go_simp; (try with_reducible rfl))); (try simp only [Act.put, pqs]); refine wpAnyL_pure (i := 6) (v := ?_) rfl (by kernel_rfl) (by kernel_rfl) (by kernel_rfl) (by kernel_rfl) (fun _ _ _ h => h) (.inl ⟨by kernel_rfl, fun w' _ => ?_⟩) (by first | exact (fun _ => hHeld) | exact late_absurd (by kernel_rfl)) ?_; rotate_left; (focus (go_simp; (try with_reducible rfl))); (try simp only [Act.put, pqs]); refine wpAnyL_take (i := 7) (v := ?_) rfl (by kernel_rfl) (by kernel_rfl) (by kernel_rfl) (by kernel_rfl) (by kernel_rfl) (by kernel_rfl) (fun _ _ _ h => h) (.inl ⟨by kernel_rfl, fun w' hSw => ?_⟩) hHeld ?_; rotate_left; (focus ((try dsimp only at hSw); (have hcc := (bcell hSw).1; have sa0 := (hcc _ 1 l5).trans c51; have sa1 := (hcc _ 0 l3).trans c30; have sa2 := (hcc _ 1 l3).trans c31; have sa3 := (hcc _ _ lg).trans q0); go_simp; (try with_reducible rfl))); (try simp only [Act.put, pqs]); refine wpAnyL_pure (i := 8) (v := ?_) rfl (by kernel_rfl) (by kernel_rfl) (by kernel_rfl) (by kernel_rfl) (fun _ _ _ h => h) (.inl ⟨by kernel_rfl, fun w' _ => ?_⟩) (by first | exact (fun _ => hHeld) | exact late_absurd (by kernel_rfl)) ?_; rotate_left; (focus (go_simp; (try with_reducible rfl))); (try simp only [Act.put, pqs]); refine wpAnyL_take (i := 9) (v := ?_) rfl (by kernel_rfl) (by kernel_rfl) (by kernel_rfl) (by kernel_rfl) (by kernel_rfl) (by kernel_rfl) (fun _ _ _ h => h) (.inl ⟨by kernel_rfl, fun w' hSw => ?_⟩) hHeld ?_; rotate_left; (focus ((try dsimp only at hSw); (have hcc := (bcell hSw).1; have sa0 := (hcc _ 1 l5).trans c51; have sa1 := (hcc _ 0 l3).trans c30; have sa2 := (hcc _ 1 l3).trans c31; have sa3 := (hcc _ _ lg).trans q0); go_simp; (try with_reducible rfl))); (try simp only [Act.put, pqs]); refine wpAnyL_pure (i := 10) (v := ?_) rfl (by kernel_rfl) (by kernel_rfl) (by kernel_rfl) (by kernel_rfl) (fun _ _ _ h => h) (.inl ⟨by kernel_rfl, fun w' _ => ?_⟩) (by first | exact (fun _ => hHeld) | exact late_absurd (by kernel_rfl)) ?_; rotate_left; (focus (go_simp; (try with_reducible rfl))); (try simp only [Act.put, pqs]); refine wpAnyL_take (i := 11) (v := ?_) rfl (by kernel_rfl) (by kernel_rfl) (by kernel_rfl) (by kernel_rfl) (by kernel_rfl) (by kernel_rfl) (fun _ _ _ h => h) (.inl ⟨by kernel_rfl, fun w' hSw => ?_⟩) hHeld ?_; rotate_left; (focus ((try dsimp only at hSw); (have hcc := (bcell hSw).1; have sa0 := (hcc _ 1 l5).trans c51; have sa1 := (hcc _ 0 l3).trans c30; have sa2 := (hcc _ 1 l3).trans c31; have sa3 := (hcc _ _ lg).trans q0); go_simp; (try with_reducible rfl))); (try simp only [Act.put, pqs]); refine wpAnyL_pure (i := 12) (v := ?_) rfl (by kernel_rfl) (by kernel_rfl) (by kernel_rfl) (by kernel_rfl) (fun _ _ _ h => h) (.inl ⟨by kernel_rfl, fun w' _ => ?_⟩) (by first | exact (fun _ => hHeld) | exact late_absurd (by kernel_rfl)) ?_; rotate_left; (focus (go_simp; (try with_reducible rfl))); (try simp only [Act.put, pqs]); refine wpAnyL_pure (i := 13) (v := ?_) rfl (by kernel_rfl) (by kernel_rfl) (by kernel_rfl) (by kernel_rfl) (fun _ _ _ h => h) (.inl ⟨by kernel_rfl, fun w' _ => ?_⟩) (by first | exact (fun _ => hHeld) | exact late_absurd (by kernel_rfl)) ?_; rotate_left; (focus (go_simp; (try with_reducible rfl))); (try simp only [Act.put, pqs]); refine wpAnyL_ready (rs := [14]) (by kernel_rfl) (by simp) ?_; refine AllReadyL.late rfl (by kernel_rfl) (fun K hK => ?_) AllReadyL.nil; go_simp; (skip); go_simp; refine hK.out _ _ ?_ (fun hHeld => ?_); (focus (exact trivial)); clear hK K; (try simp only [Act.put, pqs]); refine wpAnyL_done (by kernel_rfl) ?_ _)
    go_wp2
    refine bodyPost_ret (res_c1 rfl rfl (show Box _ _ 33 #[.int .i64 ps, .slice (some ⟨g, 0, none⟩) Q.length d] from ?hE) Tryz.underlying33 rfl tps_size) rfl ⟨some ⟨g, 0, none⟩, d, by dsimp only; rw [ALn.out], ?hD, ?hF, ?hZ⟩
    case hF => exact fun _ => ⟨g, _, rfl, by omega, show Box _ g 3 (cs.setIfInBounds mj.toNat (.int .i64 (qv + mb))) from by exact bX0⟩
    case hE => exact bX0
    case hZ => exact bB1 hBx
    case hD => exact slv_sli (by rw [← AM.out]; exact (HB.out.set _ _).slv (t := 3) (by exact bX0))

theorem rMoved_c (ps mj mb : Int) (Q : List Int) (AQ : Option Addr) (cQ : Nat) (w : World) (hn : Q.length ≤ 1000) (hj : -1 ≤ mj ∧ mj < Q.length) (hb : -1 ≤ mb ∧ mb ≤ 1) (hp : -1000 ≤ ps ∧ ps ≤ 1000) (hq : ∀ q ∈ Q, -1000 ≤ q ∧ q ≤ 1000) (hs : SlI w AQ Q) :
    Calls Tryz.prog 46 #[.agg #[.int .i64 ps, .slice AQ Q.length cQ], .agg #[.int .i64 mj, .int .i64 mb]] w (RmEnd (mvd (ps, Q) (mj, mb)) w) :=
  (rMovedX_c ps mj mb Q AQ cQ w hn hj hb hp hq hs).mono fun _ _ ⟨D, d, h1, h2, _, h4⟩ => ⟨D, d, h1, h2, h4⟩
def rmE (s : Sc) (p : Ps) (m : Mv) : Int := if omE s p m ≠ 0 then omE s p m else mvdE s p m
theorem ownE_ps {s : Sc} {p : Ps} (h : p.2.length = s.L.length) : ownE s p = psE s p := by
  unfold ownE psE
  rw [h]
  cases inB p.1 0 s.sl <;> cases qsOk s.L p.2 <;> simp [fstE, unl]
theorem rmE_own {s : Sc} {p : Ps} {m : Mv} (h0 : cpE s p = 0) (h1 : mvE s m = 0) : rmE s p m = if ownE s (mvd p m) ≠ 0 then 22 else 0 := by
  have hp := (cpE_ok h0).2
  rw [ownE_ps (by rw [mvd_len, hp.len])]
  unfold rmE omE mvdE
  rw [if_neg (by simp [h0, h1])]
  by_cases h : psE s (mvd p m) = 0
  · rw [h]; rfl
  · rw [if_pos h]; simp [unl, h]
set_option maxHeartbeats 4000000 in
set_option maxRecDepth 100000 in
theorem rMovedErr_c (bx bY sl fx fX fy fY ps mj mb : Int) (L : List Lk) (B : List Bx) (Q : List Int) (AL AB AQ : Option Addr) (cL cB cQ : Nat) (w : World) (hL : L.length ≤ 1000) (hB : B.length ≤ 100000) (hQ : Q.length ≤ 1000) (hs1 : SlV w AL (L.flatMap lkV)) (hs2 : SlV w AB (B.flatMap bxV)) (hs3 : SlI w AQ Q) :
    Calls Tryz.prog 45 #[.agg #[.int .i64 bx, .int .i64 bY, .int .i64 sl, .slice AL L.length cL, .int .i64 fx, .int .i64 fX, .int .i64 fy, .int .i64 fY, .slice AB B.length cB], .agg #[.int .i64 ps, .slice AQ Q.length cQ], .agg #[.int .i64 mj, .int .i64 mb]] w fun e w' => e = .returned (.int .i64 (rmE (⟨bx, bY, sl, L, (fx, fX, fy, fY), B⟩ : Sc) (ps, Q) (mj, mb))) ∧ Below w.heap.size w w' := by
  have PEc := Lib.hid (fun W (h : Below w.heap.size w W) => rPoseErr_c bx bY sl fx fX fy fY ps L B Q AL AB AQ cL cB cQ W (by omega) (by omega) (by omega) (hs1.below h) (hs2.below h) (hs3.below h))
  by_cases h0 : cpE (⟨bx, bY, sl, L, (fx, fX, fy, fY), B⟩ : Sc) (ps, Q) = 0
  · have MEc := Lib.hid (fun W => rMoveErr_c bx bY sl fx fX fy fY mj mb L B AL AB cL cB W (by omega))
    by_cases h1 : mvE (⟨bx, bY, sl, L, (fx, fX, fy, fY), B⟩ : Sc) (mj, mb) = 0
    · obtain ⟨hS, hp⟩ := cpE_ok h0
      obtain ⟨hm1, hm2⟩ := mvE_ok h1
      have hr := hp.rng hS
      have h6 := hp.sl6 hS
      have hpl := hp.len
      dsimp only at hm1 hm2 hr h6 hpl
      have MDc := Lib.hid (fun W (h : Below w.heap.size w W) => rMoved_c ps mj mb Q AQ cQ W (by omega) (by omega) (by omega) (by omega) (fun q h => by have := hr q h; omega) (hs3.below h))
      have HE := Lib.hid (rmE_own h0 h1)
      have hml : (mvd (ps, Q) (mj, mb)).2.length ≤ 100000 := by rw [mvd_len]; dsimp only; omega
      have OWd := Lib.hid (fun (P1 : Int) (P2 : List Int) (hP : P2.length ≤ 100000) D d W (h : Below w.heap.size w W) (hv : SlI W D P2) => own_c bx bY sl fx fX fy fY P1 L B P2 AL AB D cL cB d W (by omega) hP (hs1.below h) hv)
      rw [h0] at PEc
      rw [h1] at MEc
      clear hs1 hs2 hs3 hS hp h0 h1 hr h6 hpl
      generalize rmE (⟨bx, bY, sl, L, (fx, fX, fy, fY), B⟩ : Sc) (ps, Q) (mj, mb) = R at *
      generalize mvd (ps, Q) (mj, mb) = P at *
      obtain ⟨P1, P2⟩ := P
      have OWc := Lib.hid (OWd.out P1 P2 hml)
      clear OWd hml
      generalize ownE (⟨bx, bY, sl, L, (fx, fX, fy, fY), B⟩ : Sc) (P1, P2) = o at *
      by_cases ho : o = 0
      · have HR := Lib.hid (show R = 0 by rw [HE.out, ho]; rfl)
        subst ho
        clear HE
        go_enter Tryz.func45, Tryz.ntmps45
        go_wp2_with (first | (go_at_call 36; (with_reducible refine (PEc.out _ (by exact bB0)).mono ?_); rintro e w2 ⟨rfl, hbx⟩; have hz2 := hbx.size; (simp at hz2); have y2 : Box w2 w.heap.size 30 #[.int .i64 bx, .int .i64 bY, .int .i64 sl, .slice AL L.length cL, .int .i64 fx, .int .i64 fX, .int .i64 fy, .int .i64 fY, .slice AB B.length cB] := (by exact bX1 hbx); have y3 : Box w2 (w.heap.size + 1) 33 #[.int .i64 ps, .slice AQ Q.length cQ] := (by exact bX1 hbx); have y4 : Box w2 (w.heap.size + 1 + 1) 84 #[.int .i64 mj, .int .i64 mb] := (by exact bX1 hbx); have zz0 := y2.cell 0; have zz1 := y2.cell 1; have zz2 := y2.cell 2; have zz3 := y2.cell 3; have zz4 := y2.cell 4; have zz5 := y2.cell 5; have zz6 := y2.cell 6; have zz7 := y2.cell 7; have zz8 := y2.cell 8; have q0 := y3.cell 0; have q1 := y3.cell 1; have r0 := y4.cell 0; have r1 := y4.cell 1; (simp at zz0 zz1 zz2 zz3 zz4 zz5 zz6 zz7 zz8 q0 q1 r0 r1); have l2 := y2.lt; have l3 := y3.lt; have l4 := y4.lt; have hb2 := hbx; clear hbx) | (go_at_call 89; (with_reducible refine (MEc.out _).mono ?_); rintro e w5 ⟨rfl, hbx⟩; have hz5 := hbx.size; clear zz0 zz1 zz2 zz3 zz4 zz5 zz6 zz7 zz8 q0 q1 r0 r1; (have Y2 := y2.below hbx l2; have Y3 := y3.below hbx l3; have Y4 := y4.below hbx l4); clear y2 y3 y4 l2 l3 l4; (have y2 := Y2; have y3 := Y3; have y4 := Y4); clear Y2 Y3 Y4; have zz0 := y2.cell 0; have zz1 := y2.cell 1; have zz2 := y2.cell 2; have zz3 := y2.cell 3; have zz4 := y2.cell 4; have zz5 := y2.cell 5; have zz6 := y2.cell 6; have zz7 := y2.cell 7; have zz8 := y2.cell 8; have q0 := y3.cell 0; have q1 := y3.cell 1; have r0 := y4.cell 0; have r1 := y4.cell 1; (simp at zz0 zz1 zz2 zz3 zz4 zz5 zz6 zz7 zz8 q0 q1 r0 r1); have l2 := y2.lt; have l3 := y3.lt; have l4 := y4.lt; have hb5 := hbx; clear hbx) | fail)
        (refine wp_region_held_drew (S := (fun w' => Below w5.heap.size w5 w')) (by kernel_rfl) ?_ (fun hHeld => ?_); (focus ((try dsimp only); (((first | exact bB0 | exact bB1 hb7 | exact bB1 hb6 | exact bB2 hb6 hb7))))); refine rgT 0 ?_ rfl (fun w' hSw => ?_) ?_; rotate_left; (focus ((try dsimp only at hSw); (have hcc := (bcell hSw).1; have sa0 := (hcc _ 0 l2).trans zz0; have sa1 := (hcc _ 1 l2).trans zz1; have sa2 := (hcc _ 2 l2).trans zz2; have sa3 := (hcc _ 3 l2).trans zz3; have sa4 := (hcc _ 4 l2).trans zz4; have sa5 := (hcc _ 5 l2).trans zz5; have sa6 := (hcc _ 6 l2).trans zz6; have sa7 := (hcc _ 7 l2).trans zz7; have sa8 := (hcc _ 8 l2).trans zz8; have sb0 := (hcc _ 0 l3).trans q0; have sb1 := (hcc _ 1 l3).trans q1; have sc0 := (hcc _ 0 l4).trans r0; have sc1 := (hcc _ 1 l4).trans r1); go_simp; (try with_reducible rfl))); (try simp only [Act.put, pqs]); refine rgT 1 ?_ rfl (fun w' hSw => ?_) ?_; rotate_left; (focus ((try dsimp only at hSw); (have hcc := (bcell hSw).1; have sa0 := (hcc _ 0 l2).trans zz0; have sa1 := (hcc _ 1 l2).trans zz1; have sa2 := (hcc _ 2 l2).trans zz2; have sa3 := (hcc _ 3 l2).trans zz3; have sa4 := (hcc _ 4 l2).trans zz4; have sa5 := (hcc _ 5 l2).trans zz5; have sa6 := (hcc _ 6 l2).trans zz6; have sa7 := (hcc _ 7 l2).trans zz7; have sa8 := (hcc _ 8 l2).trans zz8; have sb0 := (hcc _ 0 l3).trans q0; have sb1 := (hcc _ 1 l3).trans q1; have sc0 := (hcc _ 0 l4).trans r0; have sc1 := (hcc _ 1 l4).trans r1); go_simp; (try with_reducible rfl))); (try simp only [Act.put, pqs]); refine rgT 2 ?_ rfl (fun w' hSw => ?_) ?_; rotate_left; (focus ((try dsimp only at hSw); (have hcc := (bcell hSw).1; have sa0 := (hcc _ 0 l2).trans zz0; have sa1 := (hcc _ 1 l2).trans zz1; have sa2 := (hcc _ 2 l2).trans zz2; have sa3 := (hcc _ 3 l2).trans zz3; have sa4 := (hcc _ 4 l2).trans zz4; have sa5 := (hcc _ 5 l2).trans zz5; have sa6 := (hcc _ 6 l2).trans zz6; have sa7 := (hcc _ 7 l2).trans zz7; have sa8 := (hcc _ 8 l2).trans zz8; have sb0 := (hcc _ 0 l3).trans q0; have sb1 := (hcc _ 1 l3).trans q1; have sc0 := (hcc _ 0 l4).trans r0; have sc1 := (hcc _ 1 l4).trans r1); go_simp; (try with_reducible rfl))); (try simp only [Act.put, pqs]); refine rgC 3 rfl (fun K hK => ?_); go_simp; ((go_at_call 46; (with_reducible refine (MDc.out _ (by exact bB2 hb5 hb2)).mono ?_); rintro e w6 hE6; obtain ⟨D, d, rfl, hv6, hb6⟩ := hE6)); go_simp; refine hK.out _ _ ?_ (fun hHeld => ?_); (focus ((try dsimp only); (((first | exact bB2 hb6 hb7 | exact bB1 hb6 | exact bB1 hb7 | exact bB0))))); clear hK K; (try simp only [Act.put, pqs]); refine rgC 4 rfl (fun K hK => ?_); go_simp; ((go_at_call 111; (with_reducible refine (OWc.out D d _ (by exact bB3 hb6 hb5 hb2) (hv6.below (by exact bB0))).mono ?_); rintro e w7 ⟨rfl, hb7⟩)); go_simp; refine hK.out _ _ ?_ (fun hHeld => ?_); (focus ((try dsimp only); (((first | exact bB2 hb6 hb7 | exact bB1 hb6 | exact bB1 hb7 | exact bB0))))); clear hK K; (try simp only [Act.put, pqs]); refine rgN 5 rfl ?_; (try simp only [Act.put, pqs]); refine wpAnyH_done (by kernel_rfl) ?_ _)
        go_wp2
        go_ret
        exact ⟨ret_i HR.out.symm, by exact bB4 hb2 hb5 hb6 hb7⟩
      · have HR := Lib.hid (show R = 22 by rw [HE.out, if_pos ho])
        have e1 : (o != 0) = true := bneT ho
        clear HE ho
        go_enter Tryz.func45, Tryz.ntmps45
        go_wp2_with (first | (go_at_call 36; (with_reducible refine (PEc.out _ (by exact bB0)).mono ?_); rintro e w2 ⟨rfl, hbx⟩; have hz2 := hbx.size; (simp at hz2); have y2 : Box w2 w.heap.size 30 #[.int .i64 bx, .int .i64 bY, .int .i64 sl, .slice AL L.length cL, .int .i64 fx, .int .i64 fX, .int .i64 fy, .int .i64 fY, .slice AB B.length cB] := (by exact bX1 hbx); have y3 : Box w2 (w.heap.size + 1) 33 #[.int .i64 ps, .slice AQ Q.length cQ] := (by exact bX1 hbx); have y4 : Box w2 (w.heap.size + 1 + 1) 84 #[.int .i64 mj, .int .i64 mb] := (by exact bX1 hbx); have zz0 := y2.cell 0; have zz1 := y2.cell 1; have zz2 := y2.cell 2; have zz3 := y2.cell 3; have zz4 := y2.cell 4; have zz5 := y2.cell 5; have zz6 := y2.cell 6; have zz7 := y2.cell 7; have zz8 := y2.cell 8; have q0 := y3.cell 0; have q1 := y3.cell 1; have r0 := y4.cell 0; have r1 := y4.cell 1; (simp at zz0 zz1 zz2 zz3 zz4 zz5 zz6 zz7 zz8 q0 q1 r0 r1); have l2 := y2.lt; have l3 := y3.lt; have l4 := y4.lt; have hb2 := hbx; clear hbx) | (go_at_call 89; (with_reducible refine (MEc.out _).mono ?_); rintro e w5 ⟨rfl, hbx⟩; have hz5 := hbx.size; clear zz0 zz1 zz2 zz3 zz4 zz5 zz6 zz7 zz8 q0 q1 r0 r1; (have Y2 := y2.below hbx l2; have Y3 := y3.below hbx l3; have Y4 := y4.below hbx l4); clear y2 y3 y4 l2 l3 l4; (have y2 := Y2; have y3 := Y3; have y4 := Y4); clear Y2 Y3 Y4; have zz0 := y2.cell 0; have zz1 := y2.cell 1; have zz2 := y2.cell 2; have zz3 := y2.cell 3; have zz4 := y2.cell 4; have zz5 := y2.cell 5; have zz6 := y2.cell 6; have zz7 := y2.cell 7; have zz8 := y2.cell 8; have q0 := y3.cell 0; have q1 := y3.cell 1; have r0 := y4.cell 0; have r1 := y4.cell 1; (simp at zz0 zz1 zz2 zz3 zz4 zz5 zz6 zz7 zz8 q0 q1 r0 r1); have l2 := y2.lt; have l3 := y3.lt; have l4 := y4.lt; have hb5 := hbx; clear hbx) | fail)
        (refine wp_region_held_drew (S := (fun w' => Below w5.heap.size w5 w')) (by kernel_rfl) ?_ (fun hHeld => ?_); (focus ((try dsimp only); (((first | exact bB0 | exact bB1 hb7 | exact bB1 hb6 | exact bB2 hb6 hb7))))); refine rgT 0 ?_ rfl (fun w' hSw => ?_) ?_; rotate_left; (focus ((try dsimp only at hSw); (have hcc := (bcell hSw).1; have sa0 := (hcc _ 0 l2).trans zz0; have sa1 := (hcc _ 1 l2).trans zz1; have sa2 := (hcc _ 2 l2).trans zz2; have sa3 := (hcc _ 3 l2).trans zz3; have sa4 := (hcc _ 4 l2).trans zz4; have sa5 := (hcc _ 5 l2).trans zz5; have sa6 := (hcc _ 6 l2).trans zz6; have sa7 := (hcc _ 7 l2).trans zz7; have sa8 := (hcc _ 8 l2).trans zz8; have sb0 := (hcc _ 0 l3).trans q0; have sb1 := (hcc _ 1 l3).trans q1; have sc0 := (hcc _ 0 l4).trans r0; have sc1 := (hcc _ 1 l4).trans r1); go_simp; (try with_reducible rfl))); (try simp only [Act.put, pqs]); refine rgT 1 ?_ rfl (fun w' hSw => ?_) ?_; rotate_left; (focus ((try dsimp only at hSw); (have hcc := (bcell hSw).1; have sa0 := (hcc _ 0 l2).trans zz0; have sa1 := (hcc _ 1 l2).trans zz1; have sa2 := (hcc _ 2 l2).trans zz2; have sa3 := (hcc _ 3 l2).trans zz3; have sa4 := (hcc _ 4 l2).trans zz4; have sa5 := (hcc _ 5 l2).trans zz5; have sa6 := (hcc _ 6 l2).trans zz6; have sa7 := (hcc _ 7 l2).trans zz7; have sa8 := (hcc _ 8 l2).trans zz8; have sb0 := (hcc _ 0 l3).trans q0; have sb1 := (hcc _ 1 l3).trans q1; have sc0 := (hcc _ 0 l4).trans r0; have sc1 := (hcc _ 1 l4).trans r1); go_simp; (try with_reducible rfl))); (try simp only [Act.put, pqs]); refine rgT 2 ?_ rfl (fun w' hSw => ?_) ?_; rotate_left; (focus ((try dsimp only at hSw); (have hcc := (bcell hSw).1; have sa0 := (hcc _ 0 l2).trans zz0; have sa1 := (hcc _ 1 l2).trans zz1; have sa2 := (hcc _ 2 l2).trans zz2; have sa3 := (hcc _ 3 l2).trans zz3; have sa4 := (hcc _ 4 l2).trans zz4; have sa5 := (hcc _ 5 l2).trans zz5; have sa6 := (hcc _ 6 l2).trans zz6; have sa7 := (hcc _ 7 l2).trans zz7; have sa8 := (hcc _ 8 l2).trans zz8; have sb0 := (hcc _ 0 l3).trans q0; have sb1 := (hcc _ 1 l3).trans q1; have sc0 := (hcc _ 0 l4).trans r0; have sc1 := (hcc _ 1 l4).trans r1); go_simp; (try with_reducible rfl))); (try simp only [Act.put, pqs]); refine rgC 3 rfl (fun K hK => ?_); go_simp; ((go_at_call 46; (with_reducible refine (MDc.out _ (by exact bB2 hb5 hb2)).mono ?_); rintro e w6 hE6; obtain ⟨D, d, rfl, hv6, hb6⟩ := hE6)); go_simp; refine hK.out _ _ ?_ (fun hHeld => ?_); (focus ((try dsimp only); (((first | exact bB2 hb6 hb7 | exact bB1 hb6 | exact bB1 hb7 | exact bB0))))); clear hK K; (try simp only [Act.put, pqs]); refine rgC 4 rfl (fun K hK => ?_); go_simp; ((go_at_call 111; (with_reducible refine (OWc.out D d _ (by exact bB3 hb6 hb5 hb2) (hv6.below (by exact bB0))).mono ?_); rintro e w7 ⟨rfl, hb7⟩)); go_simp; refine hK.out _ _ ?_ (fun hHeld => ?_); (focus ((try dsimp only); (((first | exact bB2 hb6 hb7 | exact bB1 hb6 | exact bB1 hb7 | exact bB0))))); clear hK K; (try simp only [Act.put, pqs]); refine rgN 5 rfl ?_; (try simp only [Act.put, pqs]); refine wpAnyH_done (by kernel_rfl) ?_ _)
        go_wp2
        go_ret
        exact ⟨ret_i HR.out.symm, by exact bB4 hb2 hb5 hb6 hb7⟩
    · have HR := Lib.hid (show rmE (⟨bx, bY, sl, L, (fx, fX, fy, fY), B⟩ : Sc) (ps, Q) (mj, mb) = mvE (⟨bx, bY, sl, L, (fx, fX, fy, fY), B⟩ : Sc) (mj, mb) by
        have e : omE (⟨bx, bY, sl, L, (fx, fX, fy, fY), B⟩ : Sc) (ps, Q) (mj, mb) = mvE (⟨bx, bY, sl, L, (fx, fX, fy, fY), B⟩ : Sc) (mj, mb) := by unfold omE; rw [if_neg (by simp [h0])]
        unfold rmE; rw [e, if_pos h1])
      rw [h0] at PEc
      generalize rmE (⟨bx, bY, sl, L, (fx, fX, fy, fY), B⟩ : Sc) (ps, Q) (mj, mb) = R at *
      generalize mvE (⟨bx, bY, sl, L, (fx, fX, fy, fY), B⟩ : Sc) (mj, mb) = c at *
      have e1 : (c != 0) = true := bneT h1
      clear hs1 hs2 hs3 h0 h1
      go_enter Tryz.func45, Tryz.ntmps45
      go_wp2_with (first | (go_at_call 36; (with_reducible refine (PEc.out _ (by exact bB0)).mono ?_); rintro e w2 ⟨rfl, hbx⟩; have hz2 := hbx.size; (simp at hz2); have y2 : Box w2 w.heap.size 30 #[.int .i64 bx, .int .i64 bY, .int .i64 sl, .slice AL L.length cL, .int .i64 fx, .int .i64 fX, .int .i64 fy, .int .i64 fY, .slice AB B.length cB] := (by exact bX1 hbx); have y3 : Box w2 (w.heap.size + 1) 33 #[.int .i64 ps, .slice AQ Q.length cQ] := (by exact bX1 hbx); have y4 : Box w2 (w.heap.size + 1 + 1) 84 #[.int .i64 mj, .int .i64 mb] := (by exact bX1 hbx); have zz0 := y2.cell 0; have zz1 := y2.cell 1; have zz2 := y2.cell 2; have zz3 := y2.cell 3; have zz4 := y2.cell 4; have zz5 := y2.cell 5; have zz6 := y2.cell 6; have zz7 := y2.cell 7; have zz8 := y2.cell 8; have q0 := y3.cell 0; have q1 := y3.cell 1; have r0 := y4.cell 0; have r1 := y4.cell 1; (simp at zz0 zz1 zz2 zz3 zz4 zz5 zz6 zz7 zz8 q0 q1 r0 r1); have l2 := y2.lt; have l3 := y3.lt; have l4 := y4.lt; have hb2 := hbx; clear hbx) | (go_at_call 89; (with_reducible refine (MEc.out _).mono ?_); rintro e w5 ⟨rfl, hbx⟩; have hz5 := hbx.size; clear zz0 zz1 zz2 zz3 zz4 zz5 zz6 zz7 zz8 q0 q1 r0 r1; (have Y2 := y2.below hbx l2; have Y3 := y3.below hbx l3; have Y4 := y4.below hbx l4); clear y2 y3 y4 l2 l3 l4; (have y2 := Y2; have y3 := Y3; have y4 := Y4); clear Y2 Y3 Y4; have zz0 := y2.cell 0; have zz1 := y2.cell 1; have zz2 := y2.cell 2; have zz3 := y2.cell 3; have zz4 := y2.cell 4; have zz5 := y2.cell 5; have zz6 := y2.cell 6; have zz7 := y2.cell 7; have zz8 := y2.cell 8; have q0 := y3.cell 0; have q1 := y3.cell 1; have r0 := y4.cell 0; have r1 := y4.cell 1; (simp at zz0 zz1 zz2 zz3 zz4 zz5 zz6 zz7 zz8 q0 q1 r0 r1); have l2 := y2.lt; have l3 := y3.lt; have l4 := y4.lt; have hb5 := hbx; clear hbx) | fail)
      go_ret
      exact ⟨ret_i HR.out.symm, by exact bB2 hb2 hb5⟩
  · have HR := Lib.hid (show rmE (⟨bx, bY, sl, L, (fx, fX, fy, fY), B⟩ : Sc) (ps, Q) (mj, mb) = cpE (⟨bx, bY, sl, L, (fx, fX, fy, fY), B⟩ : Sc) (ps, Q) by
      have e : omE (⟨bx, bY, sl, L, (fx, fX, fy, fY), B⟩ : Sc) (ps, Q) (mj, mb) = cpE (⟨bx, bY, sl, L, (fx, fX, fy, fY), B⟩ : Sc) (ps, Q) := by unfold omE; rw [if_pos h0]
      unfold rmE; rw [e, if_pos h0])
    generalize rmE (⟨bx, bY, sl, L, (fx, fX, fy, fY), B⟩ : Sc) (ps, Q) (mj, mb) = R at *
    generalize cpE (⟨bx, bY, sl, L, (fx, fX, fy, fY), B⟩ : Sc) (ps, Q) = c at *
    have e1 : (c != 0) = true := bneT h0
    clear hs1 hs2 hs3 h0
    go_enter Tryz.func45, Tryz.ntmps45
    go_wp2_with (first | (go_at_call 36; (with_reducible refine (PEc.out _ (by exact bB0)).mono ?_); rintro e w2 ⟨rfl, hbx⟩; have hz2 := hbx.size; (simp at hz2); have y2 : Box w2 w.heap.size 30 #[.int .i64 bx, .int .i64 bY, .int .i64 sl, .slice AL L.length cL, .int .i64 fx, .int .i64 fX, .int .i64 fy, .int .i64 fY, .slice AB B.length cB] := (by exact bX1 hbx); have y3 : Box w2 (w.heap.size + 1) 33 #[.int .i64 ps, .slice AQ Q.length cQ] := (by exact bX1 hbx); have y4 : Box w2 (w.heap.size + 1 + 1) 84 #[.int .i64 mj, .int .i64 mb] := (by exact bX1 hbx); have zz0 := y2.cell 0; have zz1 := y2.cell 1; have zz2 := y2.cell 2; have zz3 := y2.cell 3; have zz4 := y2.cell 4; have zz5 := y2.cell 5; have zz6 := y2.cell 6; have zz7 := y2.cell 7; have zz8 := y2.cell 8; have q0 := y3.cell 0; have q1 := y3.cell 1; have r0 := y4.cell 0; have r1 := y4.cell 1; (simp at zz0 zz1 zz2 zz3 zz4 zz5 zz6 zz7 zz8 q0 q1 r0 r1); have l2 := y2.lt; have l3 := y3.lt; have l4 := y4.lt; have hb2 := hbx; clear hbx) | fail)
    go_ret
    exact ⟨ret_i HR.out.symm, by exact bB1 hb2⟩

end Go.Proofs.YtpnfgmgoafgcbaaGreat

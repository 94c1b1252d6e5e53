/-
  The law ArmPoses (chapter 6): the walk.
-/
import Derived.Test.YtpnfgmgoafgcbaaGreatG7
import Derived.Test.YtpnfgmgoafgcbaaGreatG1
import Derived.Test.YtpnfgmgoafgcbaaGreatCpyS
import Derived.Test.YtpnfgmgoafgcbaaGreatG4
import Derived.Test.YtpnfgmgoafgcbaaGreatAwake
set_option linter.unusedVariables false
namespace Go.Proofs.YtpnfgmgoafgcbaaGreat
open Go.RowKit
attribute [local go_sem] Oper.semAt_some
def Po6 (W : World) (R : List Ce × Int) (s7 s8 : Value) (wx : World) : Prop :=
  ∃ A c, s7 = .slice A R.1.length c ∧ s8 = .int .i64 R.2 ∧ SlV wx A (R.1.flatMap ceV) ∧ Below W.heap.size W wx
theorem samePairs_m (xs : List Ce) (A B : Option Addr) (c d : Nat) (w : World) (hn : xs.length ≤ 100000) (hs : SlV w A (xs.flatMap ceV)) (ht : SlV w B (xs.flatMap ceV)) :
    Calls Tryz.prog 30 #[.slice A xs.length c, .slice B xs.length d] w fun e w' => e = .returned (.bool true) ∧ Below w.heap.size w w' := by
  have := samePairs_c xs xs A B c d w hn hn hs ht
  rw [decide_eq_true rfl] at this
  exact this
set_option maxHeartbeats 8000000 in
set_option maxRecDepth 100000 in
theorem armPoses_l (bx bY sl : Int) (L : List Lk) (AL : Option Addr) (cL : Nat) (fx fX fy fY : Int) (B : List Bx) (AB : Option Addr) (cB : Nat) (ps : Int) (Q : List Int) (AQ : Option Addr) (cQ : Nat) (w : World)
    (hs1 : SlV w AL (L.flatMap lkV)) (hs2 : SlV w AB (B.flatMap bxV)) (_ : L.length ≤ 9223372036854775807) (_ : B.length ≤ 9223372036854775807) (hs3 : SlI w AQ Q) (_ : Q.length ≤ 9223372036854775807) :
    Calls Tryz.prog 9 #[.agg #[.int .i64 bx, .int .i64 bY, .int .i64 sl, .slice AL L.length cL, .int .i64 fx, .int .i64 fX, .int .i64 fy, .int .i64 fY, .slice AB B.length cB], .agg #[.int .i64 ps, .slice AQ Q.length cQ]] w fun e w' => e = .returned (.bool true) ∧ Below w.heap.size w w' := by
  have AWc := Lib.hid (fun W => awake_c W)
  have FWc := Lib.hid (fun W => few_c bx bY sl fx fX fy fY ps L B Q AL AB AQ cL cB cQ W)
  cases hf : fewP (⟨bx, bY, sl, L, (fx, fX, fy, fY), B⟩ : Sc) (ps, Q)
  · rw [hf] at FWc
    clear hs1 hs2 hs3 hf
    go_enter Tryz.func9, Tryz.ntmps9
    go_wp2_with (first | (go_at_call 14; (with_reducible refine (AWc.out _).mono ?_); rintro e w1 ⟨rfl, hb1⟩; have hz1 : w.heap.size + 1 < w1.heap.size := (by have := hb1.size; (try simp at this); omega); have y1 : Box w1 w.heap.size 30 #[.int .i64 bx, .int .i64 bY, .int .i64 sl, .slice AL L.length cL, .int .i64 fx, .int .i64 fX, .int .i64 fy, .int .i64 fY, .slice AB B.length cB] := (by exact bX1 hb1); have z1 : Box w1 (w.heap.size + 1) 33 #[.int .i64 ps, .slice AQ Q.length cQ] := (by exact bX1 hb1); have p0 := y1.cell 0; have p1 := y1.cell 1; have p2 := y1.cell 2; have p3 := y1.cell 3; have p4 := y1.cell 4; have p5 := y1.cell 5; have p6 := y1.cell 6; have p7 := y1.cell 7; have p8 := y1.cell 8; have pl := y1.lt; have q0 := z1.cell 0; have q1 := z1.cell 1; have ql := z1.lt; (simp at p0 p1 p2 p3 p4 p5 p6 p7 p8 q0 q1)) | (go_at_call 15; (with_reducible refine (FWc.out _).mono ?_); rintro e w2 ⟨rfl, hb2⟩; have hz2 : w1.heap.size ≤ w2.heap.size := (by have := hb2.size; (try simp at this); omega)) | fail)
    go_ret
    exact ⟨rfl, by exact bB2 hb1 hb2⟩
  obtain ⟨f1, f2, f3⟩ := fewP_true hf
  dsimp only at f1 f2 f3
  rw [hf] at FWc
  have CSc := Lib.hid (fun W (h : Below w.heap.size w W) => copyScene_c bx bY sl fx fX fy fY L B AL AB cL cB W (by omega) (by omega) (hs1.below h) (hs2.below h))
  have CQc := Lib.hid (fun W (h : Below w.heap.size w W) => copyPose_c ps Q AQ cQ W (by omega) (hs3.below h))
  have CHc := Lib.hid (fun DL DB dL dB W h1 h2 => checkScene_c bx bY sl fx fX fy fY L B DL DB dL dB W (by omega) (by omega) h1 h2)
  have JOc := Lib.hid (fun DL DB DQ dL dB dQ W h1 h2 h3 => jointsOf_c bx bY sl fx fX fy fY ps L B Q DL DB DQ dL dB dQ W (by omega) (by omega) (by omega) h1 h2 h3)
  have CEc := Lib.hid (fun DL DB DQ dL dB dQ W h1 h2 h3 => cellsOf_c bx bY sl fx fX fy fY ps L B Q DL DB DQ dL dB dQ W (by omega) (by omega) (by omega) h1 h2 h3)
  have IFc := Lib.hid (fun DL DB DQ dL dB dQ W h1 h2 h3 => isFreeO_c bx bY sl fx fX fy fY ps L B Q DL DB DQ dL dB dQ W (by omega) (by omega) (by omega) h1 h2 h3)
  have CPc := Lib.hid (fun DL DB DQ dL dB dQ W h1 h2 h3 => checkPose_c bx bY sl fx fX fy fY ps L B Q DL DB DQ dL dB dQ W (by omega) (by omega) (by omega) h1 h2 h3)
  have RCc := Lib.hid (fun W (h : Below w.heap.size w W) => rCheckScene_c bx bY sl fx fX fy fY L B AL AB cL cB W (by omega) (by omega) (hs1.below h) (hs2.below h))
  have PEc := Lib.hid (fun W (h : Below w.heap.size w W) => rPoseErr_c bx bY sl fx fX fy fY ps L B Q AL AB AQ cL cB cQ W (by omega) (by omega) (by omega) (hs1.below h) (hs2.below h) (hs3.below h))
  have RJd := Lib.hid (fun (h0 : cpE (⟨bx, bY, sl, L, (fx, fX, fy, fY), B⟩ : Sc) (ps, Q) = 0) W (h : Below w.heap.size w W) => by
    have hS := (cpE_ok h0).1; have hp := (cpE_ok h0).2
    have hbx := hS.bx; have hbY := hS.bY; have hlen := hS.len; have hlk := hS.lk; have hsl := hp.sl6 hS
    dsimp only at hbx hbY hlen hlk hsl
    exact rJoints_c bx bY sl fx fX fy fY ps L B Q AL AB AQ cL cB cQ W hp.len (by omega) (by omega) (by omega) (by omega) (fun l h => by have := hlk l h; omega) (hp.rng hS) (hs1.below h) (hs3.below h))
  have RLd := Lib.hid (fun (h0 : cpE (⟨bx, bY, sl, L, (fx, fX, fy, fY), B⟩ : Sc) (ps, Q) = 0) W (h : Below w.heap.size w W) => rCells_c bx bY sl fx fX fy fY ps L B Q AL AB AQ cL cB cQ W (cpE_ok h0).1 (cpE_ok h0).2 (hs1.below h) (hs3.below h))
  have RFd := Lib.hid (fun (h0 : cpE (⟨bx, bY, sl, L, (fx, fX, fy, fY), B⟩ : Sc) (ps, Q) = 0) W (h : Below w.heap.size w W) => rIsFree_c bx bY sl fx fX fy fY ps L B Q AL AB AQ cL cB cQ W (cpE_ok h0).1 (cpE_ok h0).2 (hs1.below h) (hs2.below h) (hs3.below h))
  have HE := Lib.hid (fun h : cpE (⟨bx, bY, sl, L, (fx, fX, fy, fY), B⟩ : Sc) (ps, Q) ≠ 0 => show joO (⟨bx, bY, sl, L, (fx, fX, fy, fY), B⟩ : Sc) (ps, Q) = ([], cpE (⟨bx, bY, sl, L, (fx, fX, fy, fY), B⟩ : Sc) (ps, Q)) ∧ ceO (⟨bx, bY, sl, L, (fx, fX, fy, fY), B⟩ : Sc) (ps, Q) = ([], cpE (⟨bx, bY, sl, L, (fx, fX, fy, fY), B⟩ : Sc) (ps, Q)) ∧ ifO (⟨bx, bY, sl, L, (fx, fX, fy, fY), B⟩ : Sc) (ps, Q) = false from ⟨if_pos h, if_pos h, by unfold ifO; simp [h]⟩)
  have HO := Lib.hid (fun h : cpE (⟨bx, bY, sl, L, (fx, fX, fy, fY), B⟩ : Sc) (ps, Q) = 0 => show joO (⟨bx, bY, sl, L, (fx, fX, fy, fY), B⟩ : Sc) (ps, Q) = (jts (⟨bx, bY, sl, L, (fx, fX, fy, fY), B⟩ : Sc) (ps, Q), 0) ∧ ceO (⟨bx, bY, sl, L, (fx, fX, fy, fY), B⟩ : Sc) (ps, Q) = (celR (⟨bx, bY, sl, L, (fx, fX, fy, fY), B⟩ : Sc) (ps, Q), 0) ∧ ifO (⟨bx, bY, sl, L, (fx, fX, fy, fY), B⟩ : Sc) (ps, Q) = freeP (⟨bx, bY, sl, L, (fx, fX, fy, fY), B⟩ : Sc) (ps, Q) ∧ (jts (⟨bx, bY, sl, L, (fx, fX, fy, fY), B⟩ : Sc) (ps, Q)).length ≤ 100000 ∧ (celR (⟨bx, bY, sl, L, (fx, fX, fy, fY), B⟩ : Sc) (ps, Q)).length ≤ 100000 from
    ⟨if_neg (by simp [h]), if_neg (by simp [h]), by unfold ifO; simp [h], by
      have hS := (cpE_ok h).1; have hp := (cpE_ok h).2
      rw [jts_len hp.len]; have := hS.len; omega, celR_len (cpE_ok h).1⟩)
  clear hs1 hs2 hs3 hf
  generalize scP (⟨bx, bY, sl, L, (fx, fX, fy, fY), B⟩ : Sc) = S at *
  generalize joO (⟨bx, bY, sl, L, (fx, fX, fy, fY), B⟩ : Sc) (ps, Q) = RJ at *
  generalize ceO (⟨bx, bY, sl, L, (fx, fX, fy, fY), B⟩ : Sc) (ps, Q) = RC at *
  generalize ifO (⟨bx, bY, sl, L, (fx, fX, fy, fY), B⟩ : Sc) (ps, Q) = fo at *
  generalize cpE (⟨bx, bY, sl, L, (fx, fX, fy, fY), B⟩ : Sc) (ps, Q) = c at *
  generalize jts (⟨bx, bY, sl, L, (fx, fX, fy, fY), B⟩ : Sc) (ps, Q) = J at *
  generalize celR (⟨bx, bY, sl, L, (fx, fX, fy, fY), B⟩ : Sc) (ps, Q) = C at *
  generalize freeP (⟨bx, bY, sl, L, (fx, fX, fy, fY), B⟩ : Sc) (ps, Q) = fr at *
  obtain ⟨i0, e0⟩ := S
  obtain ⟨J1, J2⟩ := RJ
  obtain ⟨C1, C2⟩ := RC
  dsimp only at CHc RCc
  go_enter Tryz.func9, Tryz.ntmps9
  go_upto_region 5 with (first | (go_at_call 14; (with_reducible refine (AWc.out _).mono ?_); rintro e w1 ⟨rfl, hb1⟩; have hz1 : w.heap.size + 1 < w1.heap.size := (by have := hb1.size; (try simp at this); omega); have y1 : Box w1 w.heap.size 30 #[.int .i64 bx, .int .i64 bY, .int .i64 sl, .slice AL L.length cL, .int .i64 fx, .int .i64 fX, .int .i64 fy, .int .i64 fY, .slice AB B.length cB] := (by exact bX1 hb1); have z1 : Box w1 (w.heap.size + 1) 33 #[.int .i64 ps, .slice AQ Q.length cQ] := (by exact bX1 hb1); have p0 := y1.cell 0; have p1 := y1.cell 1; have p2 := y1.cell 2; have p3 := y1.cell 3; have p4 := y1.cell 4; have p5 := y1.cell 5; have p6 := y1.cell 6; have p7 := y1.cell 7; have p8 := y1.cell 8; have pl := y1.lt; have q0 := z1.cell 0; have q1 := z1.cell 1; have ql := z1.lt; (simp at p0 p1 p2 p3 p4 p5 p6 p7 p8 q0 q1)) | (go_at_call 15; (with_reducible refine (FWc.out _).mono ?_); rintro e w2 ⟨rfl, hb2⟩; have hz2 : w1.heap.size ≤ w2.heap.size := (by have := hb2.size; (try simp at this); omega)) | fail)
  have hP : Box w2 w.heap.size 30 #[.int .i64 bx, .int .i64 bY, .int .i64 sl, .slice AL L.length cL, .int .i64 fx, .int .i64 fX, .int .i64 fy, .int .i64 fY, .slice AB B.length cB] := by exact bX2 hb1 hb2
  have hQ : Box w2 (w.heap.size + 1) 33 #[.int .i64 ps, .slice AQ Q.length cQ] := by exact bX2 hb1 hb2
  have hB : Below w.heap.size w w2 := by exact bB2 hb1 hb2
  clear y1 z1 p0 p1 p2 p3 p4 p5 p6 p7 p8 q0 q1 pl ql hb1 hb2 hz1 hz2 AWc FWc
  generalize w2 = W5 at *
  have lP := hP.lt; have lQ := hQ.lt
  go_cut [5, 6] (fun s5 s6 wx => s5 = .int .i64 i0 ∧ s6 = .int .i64 e0 ∧ Below W5.heap.size W5 wx)
  case first =>
    (have c0 := hP.cell 0; have c1 := hP.cell 1; have c2 := hP.cell 2; have c3 := hP.cell 3; have c4 := hP.cell 4; have c5 := hP.cell 5; have c6 := hP.cell 6; have c7 := hP.cell 7; have c8 := hP.cell 8; have cl := hP.lt; have d0 := hQ.cell 0; have d1 := hQ.cell 1; have dl := hQ.lt; (simp at c0 c1 c2 c3 c4 c5 c6 c7 c8 d0 d1))
    go_wp2_with (first | (go_at_call 17; (with_reducible refine (CSc.out _ (by exact bB1 hB)).mono ?_); rintro e w3 hE3; obtain ⟨DL, dL, DB, dB, rfl, hl3, hx3, hb3⟩ := hE3; have hz3 : W5.heap.size ≤ w3.heap.size := (by have := hb3.size; (try simp at this); omega)) | (go_at_call 56; (with_reducible refine (CHc.out _ _ _ _ _ (hl3.below (by exact bB0)) (hx3.below (by exact bB0))).mono ?_); rintro e w7 ⟨rfl, hb7⟩) | fail)
    go_meet
    exact ⟨rfl, rfl, by exact bB2 hb3 hb7⟩
  case rest =>
    clear lP lQ CHc
    obtain ⟨rfl, rfl, hW⟩ := hcut
    have HP := hP.below hW hP.lt; have HQ := hQ.below hW hQ.lt; have hB' : Below w.heap.size w wc := (by exact bB2 hW hB); clear hP hQ hB; have hP := HP; have hQ := HQ; have hB := hB'; clear HP HQ hB'; clear hW; generalize wc = W5 at *; have lP := hP.lt; have lQ := hQ.lt
    go_upto_region 6 with fail
    go_cut [7, 8] (fun s7 s8 wx => Po6 W5 (J1, J2) s7 s8 wx)
    case first =>
      (refine wp_region_held_drew (S := (fun w' => Box w' w.heap.size 30 #[.int .i64 bx, .int .i64 bY, .int .i64 sl, .slice AL L.length cL, .int .i64 fx, .int .i64 fX, .int .i64 fy, .int .i64 fY, .slice AB B.length cB] ∧ Box w' (w.heap.size + 1) 33 #[.int .i64 ps, .slice AQ Q.length cQ])) (by kernel_rfl) ?_ (fun hHeld => ?_); (focus ((try dsimp only); ((refine ⟨?_, ?_⟩ <;> (first | exact bX0 | exact bX1 hb3 | exact bX2 hb3 hb4 | exact bX3 hb3 hb4 hb7))))); have hO := Lib.hid (fun w' (hSw : (fun w' => Box w' w.heap.size 30 #[.int .i64 bx, .int .i64 bY, .int .i64 sl, .slice AL L.length cL, .int .i64 fx, .int .i64 fX, .int .i64 fy, .int .i64 fY, .slice AB B.length cB] ∧ Box w' (w.heap.size + 1) 33 #[.int .i64 ps, .slice AQ Q.length cQ]) w') => (by (try dsimp only at hSw); (obtain ⟨hSA, hSB⟩ := hSw; have sa0 := hSA.cell 0; have sa1 := hSA.cell 1; have sa2 := hSA.cell 2; have sa3 := hSA.cell 3; have sa4 := hSA.cell 4; have sa5 := hSA.cell 5; have sa6 := hSA.cell 6; have sa7 := hSA.cell 7; have sa8 := hSA.cell 8; have sal := hSA.lt; have sb0 := hSB.cell 0; have sb1 := hSB.cell 1; have sbl := hSB.lt; (simp at sa0 sa1 sa2 sa3 sa4 sa5 sa6 sa7 sa8 sb0 sb1)); exact And.intro sa0 (And.intro sa1 (And.intro sa2 (And.intro sa3 (And.intro sa4 (And.intro sa5 (And.intro sa6 (And.intro sa7 (And.intro sa8 (And.intro sal (And.intro sb0 (And.intro sb1 sbl))))))))))))); refine rgL 0 hO rfl ?_; refine rgL 2 hO rfl ?_; refine rgC 1 rfl (fun K hK => ?_); go_simp; ((go_at_call 17; (with_reducible refine (CSc.out _ (by exact bB1 hB)).mono ?_); rintro e w3 hE3; obtain ⟨DL, dL, DB, dB, rfl, hl3, hx3, hb3⟩ := hE3; have hz3 : W5.heap.size ≤ w3.heap.size := (by have := hb3.size; (try simp at this); omega))); go_simp; refine hK.out _ _ ?_ (fun hHeld => ?_); (focus ((try dsimp only); ((refine ⟨?_, ?_⟩ <;> (first | exact bX3 hb3 hb4 hb7 | exact bX2 hb3 hb4 | exact bX1 hb3 | exact bX0))))); clear hK K; (try simp only [Act.put, pqs]); refine rgC 3 rfl (fun K hK => ?_); go_simp; ((go_at_call 18; (with_reducible refine (CQc.out _ (by exact bB2 hb3 hB)).mono ?_); rintro e w4 hE4; obtain ⟨DQ, dQ, rfl, hq4, hb4⟩ := hE4; have hz4 : w3.heap.size ≤ w4.heap.size := (by have := hb4.size; (try simp at this); omega))); go_simp; refine hK.out _ _ ?_ (fun hHeld => ?_); (focus ((try dsimp only); ((refine ⟨?_, ?_⟩ <;> (first | exact bX3 hb3 hb4 hb7 | exact bX2 hb3 hb4 | exact bX1 hb3 | exact bX0))))); clear hK K; (try simp only [Act.put, pqs]); refine rgC 4 rfl (fun K hK => ?_); go_simp; ((go_at_call 57; (with_reducible refine (JOc.out _ _ _ _ _ _ _ (hl3.below (by exact bB1 hb4)) (hx3.below (by exact bB1 hb4)) (hq4.below (by exact bB0))).mono ?_); rintro e w7 hE7; obtain ⟨A7, c7, rfl, hv7, hb7⟩ := hE7; have hz7 : w4.heap.size ≤ w7.heap.size := (by have := hb7.size; (try simp at this); omega))); go_simp; refine hK.out _ _ ?_ (fun hHeld => ?_); (focus ((try dsimp only); ((refine ⟨?_, ?_⟩ <;> (first | exact bX3 hb3 hb4 hb7 | exact bX2 hb3 hb4 | exact bX1 hb3 | exact bX0))))); clear hK K; (try simp only [Act.put, pqs]); refine rgN 5 rfl ?_; refine rgN 6 rfl ?_; refine rgN 7 rfl ?_; refine rgN 8 rfl ?_; refine rgN 9 rfl ?_; refine wpAnyH_done (by kernel_rfl) ?_ _; (go_wp2_with fail; go_meet; refine ⟨A7, c7, rfl, rfl, ?_, ?_⟩; (focus (exact hv7.below (by exact bB0))); (focus (exact bB3 hb3 hb4 hb7))))
    case rest =>
      clear lP lQ JOc
      obtain ⟨AJ, cJ, rfl, rfl, hVJ, hW⟩ := hcut
      dsimp only at hVJ
      have HVJ := Lib.hid hVJ
      clear hVJ
      have HP := hP.below hW hP.lt; have HQ := hQ.below hW hQ.lt; have hB' : Below w.heap.size w wc := (by exact bB2 hW hB); clear hP hQ hB; have hP := HP; have hQ := HQ; have hB := hB'; clear HP HQ hB'; clear hW; generalize wc = W5 at *; have lP := hP.lt; have lQ := hQ.lt
      go_upto_region 7 with fail
      go_cut [9, 10] (fun s7 s8 wx => Po6 W5 (C1, C2) s7 s8 wx)
      case first =>
        (refine wp_region_held_drew (S := (fun w' => Box w' w.heap.size 30 #[.int .i64 bx, .int .i64 bY, .int .i64 sl, .slice AL L.length cL, .int .i64 fx, .int .i64 fX, .int .i64 fy, .int .i64 fY, .slice AB B.length cB] ∧ Box w' (w.heap.size + 1) 33 #[.int .i64 ps, .slice AQ Q.length cQ])) (by kernel_rfl) ?_ (fun hHeld => ?_); (focus ((try dsimp only); ((refine ⟨?_, ?_⟩ <;> (first | exact bX0 | exact bX1 hb3 | exact bX2 hb3 hb4 | exact bX3 hb3 hb4 hb7))))); have hO := Lib.hid (fun w' (hSw : (fun w' => Box w' w.heap.size 30 #[.int .i64 bx, .int .i64 bY, .int .i64 sl, .slice AL L.length cL, .int .i64 fx, .int .i64 fX, .int .i64 fy, .int .i64 fY, .slice AB B.length cB] ∧ Box w' (w.heap.size + 1) 33 #[.int .i64 ps, .slice AQ Q.length cQ]) w') => (by (try dsimp only at hSw); (obtain ⟨hSA, hSB⟩ := hSw; have sa0 := hSA.cell 0; have sa1 := hSA.cell 1; have sa2 := hSA.cell 2; have sa3 := hSA.cell 3; have sa4 := hSA.cell 4; have sa5 := hSA.cell 5; have sa6 := hSA.cell 6; have sa7 := hSA.cell 7; have sa8 := hSA.cell 8; have sal := hSA.lt; have sb0 := hSB.cell 0; have sb1 := hSB.cell 1; have sbl := hSB.lt; (simp at sa0 sa1 sa2 sa3 sa4 sa5 sa6 sa7 sa8 sb0 sb1)); exact And.intro sa0 (And.intro sa1 (And.intro sa2 (And.intro sa3 (And.intro sa4 (And.intro sa5 (And.intro sa6 (And.intro sa7 (And.intro sa8 (And.intro sal (And.intro sb0 (And.intro sb1 sbl))))))))))))); refine rgL 0 hO rfl ?_; refine rgL 2 hO rfl ?_; refine rgC 1 rfl (fun K hK => ?_); go_simp; ((go_at_call 17; (with_reducible refine (CSc.out _ (by exact bB1 hB)).mono ?_); rintro e w3 hE3; obtain ⟨DL, dL, DB, dB, rfl, hl3, hx3, hb3⟩ := hE3; have hz3 : W5.heap.size ≤ w3.heap.size := (by have := hb3.size; (try simp at this); omega))); go_simp; refine hK.out _ _ ?_ (fun hHeld => ?_); (focus ((try dsimp only); ((refine ⟨?_, ?_⟩ <;> (first | exact bX3 hb3 hb4 hb7 | exact bX2 hb3 hb4 | exact bX1 hb3 | exact bX0))))); clear hK K; (try simp only [Act.put, pqs]); refine rgC 3 rfl (fun K hK => ?_); go_simp; ((go_at_call 18; (with_reducible refine (CQc.out _ (by exact bB2 hb3 hB)).mono ?_); rintro e w4 hE4; obtain ⟨DQ, dQ, rfl, hq4, hb4⟩ := hE4; have hz4 : w3.heap.size ≤ w4.heap.size := (by have := hb4.size; (try simp at this); omega))); go_simp; refine hK.out _ _ ?_ (fun hHeld => ?_); (focus ((try dsimp only); ((refine ⟨?_, ?_⟩ <;> (first | exact bX3 hb3 hb4 hb7 | exact bX2 hb3 hb4 | exact bX1 hb3 | exact bX0))))); clear hK K; (try simp only [Act.put, pqs]); refine rgC 4 rfl (fun K hK => ?_); go_simp; ((go_at_call 58; (with_reducible refine (CEc.out _ _ _ _ _ _ _ (hl3.below (by exact bB1 hb4)) (hx3.below (by exact bB1 hb4)) (hq4.below (by exact bB0))).mono ?_); rintro e w7 hE7; obtain ⟨A7, c7, rfl, hv7, hb7⟩ := hE7; have hz7 : w4.heap.size ≤ w7.heap.size := (by have := hb7.size; (try simp at this); omega))); go_simp; refine hK.out _ _ ?_ (fun hHeld => ?_); (focus ((try dsimp only); ((refine ⟨?_, ?_⟩ <;> (first | exact bX3 hb3 hb4 hb7 | exact bX2 hb3 hb4 | exact bX1 hb3 | exact bX0))))); clear hK K; (try simp only [Act.put, pqs]); refine rgN 5 rfl ?_; refine rgN 6 rfl ?_; refine rgN 7 rfl ?_; refine rgN 8 rfl ?_; refine rgN 9 rfl ?_; refine wpAnyH_done (by kernel_rfl) ?_ _; (go_wp2_with fail; go_meet; refine ⟨A7, c7, rfl, rfl, ?_, ?_⟩; (focus (exact hv7.below (by exact bB0))); (focus (exact bB3 hb3 hb4 hb7))))
      case rest =>
        clear lP lQ CEc
        obtain ⟨AC, cC, rfl, rfl, hVC, hW⟩ := hcut
        dsimp only at hVC
        have HV2 := Lib.hid (HVJ.out.below hW)
        have HVC := Lib.hid hVC
        clear hVC HVJ
        have HVJ := HV2
        clear HV2
        have HP := hP.below hW hP.lt; have HQ := hQ.below hW hQ.lt; have hB' : Below w.heap.size w wc := (by exact bB2 hW hB); clear hP hQ hB; have hP := HP; have hQ := HQ; have hB := hB'; clear HP HQ hB'; clear hW; generalize wc = W5 at *; have lP := hP.lt; have lQ := hQ.lt
        go_upto_region 8 with fail
        go_cut [11, 12] (fun s7 s8 wx => s7 = .bool fo ∧ s8 = .int .i64 c ∧ Below W5.heap.size W5 wx)
        case first =>
          (refine wp_region_held_drew (S := (fun w' => Box w' w.heap.size 30 #[.int .i64 bx, .int .i64 bY, .int .i64 sl, .slice AL L.length cL, .int .i64 fx, .int .i64 fX, .int .i64 fy, .int .i64 fY, .slice AB B.length cB] ∧ Box w' (w.heap.size + 1) 33 #[.int .i64 ps, .slice AQ Q.length cQ])) (by kernel_rfl) ?_ (fun hHeld => ?_); (focus ((try dsimp only); ((refine ⟨?_, ?_⟩ <;> (first | exact bX0 | exact bX1 hb3 | exact bX2 hb3 hb4 | exact bX3 hb3 hb4 hb7))))); have hO := Lib.hid (fun w' (hSw : (fun w' => Box w' w.heap.size 30 #[.int .i64 bx, .int .i64 bY, .int .i64 sl, .slice AL L.length cL, .int .i64 fx, .int .i64 fX, .int .i64 fy, .int .i64 fY, .slice AB B.length cB] ∧ Box w' (w.heap.size + 1) 33 #[.int .i64 ps, .slice AQ Q.length cQ]) w') => (by (try dsimp only at hSw); (obtain ⟨hSA, hSB⟩ := hSw; have sa0 := hSA.cell 0; have sa1 := hSA.cell 1; have sa2 := hSA.cell 2; have sa3 := hSA.cell 3; have sa4 := hSA.cell 4; have sa5 := hSA.cell 5; have sa6 := hSA.cell 6; have sa7 := hSA.cell 7; have sa8 := hSA.cell 8; have sal := hSA.lt; have sb0 := hSB.cell 0; have sb1 := hSB.cell 1; have sbl := hSB.lt; (simp at sa0 sa1 sa2 sa3 sa4 sa5 sa6 sa7 sa8 sb0 sb1)); exact And.intro sa0 (And.intro sa1 (And.intro sa2 (And.intro sa3 (And.intro sa4 (And.intro sa5 (And.intro sa6 (And.intro sa7 (And.intro sa8 (And.intro sal (And.intro sb0 (And.intro sb1 sbl))))))))))))); refine rgL 0 hO rfl ?_; refine rgL 2 hO rfl ?_; refine rgC 1 rfl (fun K hK => ?_); go_simp; ((go_at_call 17; (with_reducible refine (CSc.out _ (by exact bB1 hB)).mono ?_); rintro e w3 hE3; obtain ⟨DL, dL, DB, dB, rfl, hl3, hx3, hb3⟩ := hE3; have hz3 : W5.heap.size ≤ w3.heap.size := (by have := hb3.size; (try simp at this); omega))); go_simp; refine hK.out _ _ ?_ (fun hHeld => ?_); (focus ((try dsimp only); ((refine ⟨?_, ?_⟩ <;> (first | exact bX3 hb3 hb4 hb7 | exact bX2 hb3 hb4 | exact bX1 hb3 | exact bX0))))); clear hK K; (try simp only [Act.put, pqs]); refine rgC 3 rfl (fun K hK => ?_); go_simp; ((go_at_call 18; (with_reducible refine (CQc.out _ (by exact bB2 hb3 hB)).mono ?_); rintro e w4 hE4; obtain ⟨DQ, dQ, rfl, hq4, hb4⟩ := hE4; have hz4 : w3.heap.size ≤ w4.heap.size := (by have := hb4.size; (try simp at this); omega))); go_simp; refine hK.out _ _ ?_ (fun hHeld => ?_); (focus ((try dsimp only); ((refine ⟨?_, ?_⟩ <;> (first | exact bX3 hb3 hb4 hb7 | exact bX2 hb3 hb4 | exact bX1 hb3 | exact bX0))))); clear hK K; (try simp only [Act.put, pqs]); refine rgC 4 rfl (fun K hK => ?_); go_simp; ((go_at_call 59; (with_reducible refine (IFc.out _ _ _ _ _ _ _ (hl3.below (by exact bB1 hb4)) (hx3.below (by exact bB1 hb4)) (hq4.below (by exact bB0))).mono ?_); rintro e w7 ⟨rfl, hb7⟩; have hz7 : w4.heap.size ≤ w7.heap.size := (by have := hb7.size; (try simp at this); omega))); go_simp; refine hK.out _ _ ?_ (fun hHeld => ?_); (focus ((try dsimp only); ((refine ⟨?_, ?_⟩ <;> (first | exact bX3 hb3 hb4 hb7 | exact bX2 hb3 hb4 | exact bX1 hb3 | exact bX0))))); clear hK K; (try simp only [Act.put, pqs]); refine rgN 5 rfl ?_; refine rgN 6 rfl ?_; refine rgN 7 rfl ?_; refine rgN 8 rfl ?_; refine rgN 9 rfl ?_; refine wpAnyH_done (by kernel_rfl) ?_ _; (go_wp2_with fail; go_meet; refine ⟨rfl, rfl, ?_⟩; exact bB3 hb3 hb4 hb7))
        case rest =>
          clear lP lQ IFc
          obtain ⟨rfl, rfl, hW⟩ := hcut
          have HV2 := Lib.hid (HVJ.out.below hW)
          have HV3 := Lib.hid (HVC.out.below hW)
          clear HVC HVJ
          have HVJ := HV2
          have HVC := HV3
          clear HV2 HV3
          have HP := hP.below hW hP.lt; have HQ := hQ.below hW hQ.lt; have hB' : Below w.heap.size w wc := (by exact bB2 hW hB); clear hP hQ hB; have hP := HP; have hQ := HQ; have hB := hB'; clear HP HQ hB'; clear hW; generalize wc = W5 at *; have lP := hP.lt; have lQ := hQ.lt
          go_upto_region 9 with fail
          go_cut [13, 14] (fun s7 s8 wx => s7 = .int .i64 i0 ∧ s8 = .int .i64 e0 ∧ Below W5.heap.size W5 wx)
          case first =>
            (have c0 := hP.cell 0; have c1 := hP.cell 1; have c2 := hP.cell 2; have c3 := hP.cell 3; have c4 := hP.cell 4; have c5 := hP.cell 5; have c6 := hP.cell 6; have c7 := hP.cell 7; have c8 := hP.cell 8; have cl := hP.lt; have d0 := hQ.cell 0; have d1 := hQ.cell 1; have dl := hQ.lt; (simp at c0 c1 c2 c3 c4 c5 c6 c7 c8 d0 d1))
            go_wp2_with (first | (go_at_call 60; (with_reducible refine (RCc.out _ (by exact bB1 hB)).mono ?_); rintro e w3 ⟨rfl, hb3⟩) | fail)
            go_meet
            exact ⟨rfl, rfl, by exact bB1 hb3⟩
          case rest =>
            clear lP lQ RCc
            obtain ⟨rfl, rfl, hW⟩ := hcut
            have HV2 := Lib.hid (HVJ.out.below hW)
            have HV3 := Lib.hid (HVC.out.below hW)
            clear HVC HVJ
            have HVJ := HV2
            have HVC := HV3
            clear HV2 HV3
            have HP := hP.below hW hP.lt; have HQ := hQ.below hW hQ.lt; have hB' : Below w.heap.size w wc := (by exact bB2 hW hB); clear hP hQ hB; have hP := HP; have hQ := HQ; have hB := hB'; clear HP HQ hB'; clear hW; generalize wc = W5 at *; have lP := hP.lt; have lQ := hQ.lt
            go_upto_region 12 with fail
            go_cut [14] (fun s8 wx => s8 = .int .i64 c ∧ Below W5.heap.size W5 wx)
            case first =>
              (have c0 := hP.cell 0; have c1 := hP.cell 1; have c2 := hP.cell 2; have c3 := hP.cell 3; have c4 := hP.cell 4; have c5 := hP.cell 5; have c6 := hP.cell 6; have c7 := hP.cell 7; have c8 := hP.cell 8; have cl := hP.lt; have d0 := hQ.cell 0; have d1 := hQ.cell 1; have dl := hQ.lt; (simp at c0 c1 c2 c3 c4 c5 c6 c7 c8 d0 d1))
              go_wp2_with (first | (go_at_call 36; (with_reducible refine (PEc.out _ (by exact bB1 hB)).mono ?_); rintro e w3 ⟨rfl, hb3⟩) | fail)
              go_meet
              exact ⟨rfl, by exact bB1 hb3⟩
            case rest =>
              clear lP lQ PEc
              obtain ⟨rfl, hW⟩ := hcut
              have HV2 := Lib.hid (HVJ.out.below hW)
              have HV3 := Lib.hid (HVC.out.below hW)
              clear HVC HVJ
              have HVJ := HV2
              have HVC := HV3
              clear HV2 HV3
              have HP := hP.below hW hP.lt; have HQ := hQ.below hW hQ.lt; have hB' : Below w.heap.size w wc := (by exact bB2 hW hB); clear hP hQ hB; have hP := HP; have hQ := HQ; have hB := hB'; clear HP HQ hB'; clear hW; generalize wc = W5 at *; have lP := hP.lt; have lQ := hQ.lt
              go_upto_region 13 with fail
              go_cut [73] (fun s8 wx => s8 = .bool false ∧ Below W5.heap.size W5 wx)
              case first =>
                (refine wp_region_held_drew (S := (fun w' => Box w' w.heap.size 30 #[.int .i64 bx, .int .i64 bY, .int .i64 sl, .slice AL L.length cL, .int .i64 fx, .int .i64 fX, .int .i64 fy, .int .i64 fY, .slice AB B.length cB] ∧ Box w' (w.heap.size + 1) 33 #[.int .i64 ps, .slice AQ Q.length cQ])) (by kernel_rfl) ?_ (fun hHeld => ?_); (focus ((try dsimp only); ((refine ⟨?_, ?_⟩ <;> (first | exact bX0 | exact bX1 hb3 | exact bX2 hb3 hb4 | exact bX3 hb3 hb4 hb7))))); have hO := Lib.hid (fun w' (hSw : (fun w' => Box w' w.heap.size 30 #[.int .i64 bx, .int .i64 bY, .int .i64 sl, .slice AL L.length cL, .int .i64 fx, .int .i64 fX, .int .i64 fy, .int .i64 fY, .slice AB B.length cB] ∧ Box w' (w.heap.size + 1) 33 #[.int .i64 ps, .slice AQ Q.length cQ]) w') => (by (try dsimp only at hSw); (obtain ⟨hSA, hSB⟩ := hSw; have sa0 := hSA.cell 0; have sa1 := hSA.cell 1; have sa2 := hSA.cell 2; have sa3 := hSA.cell 3; have sa4 := hSA.cell 4; have sa5 := hSA.cell 5; have sa6 := hSA.cell 6; have sa7 := hSA.cell 7; have sa8 := hSA.cell 8; have sal := hSA.lt; have sb0 := hSB.cell 0; have sb1 := hSB.cell 1; have sbl := hSB.lt; (simp at sa0 sa1 sa2 sa3 sa4 sa5 sa6 sa7 sa8 sb0 sb1)); exact And.intro sa0 (And.intro sa1 (And.intro sa2 (And.intro sa3 (And.intro sa4 (And.intro sa5 (And.intro sa6 (And.intro sa7 (And.intro sa8 (And.intro sal (And.intro sb0 (And.intro sb1 sbl))))))))))))); refine rgL 0 hO rfl ?_; refine rgL 2 hO rfl ?_; refine rgN 5 rfl ?_; refine rgC 1 rfl (fun K hK => ?_); go_simp; ((go_at_call 17; (with_reducible refine (CSc.out _ (by exact bB1 hB)).mono ?_); rintro e w3 hE3; obtain ⟨DL, dL, DB, dB, rfl, hl3, hx3, hb3⟩ := hE3; have hz3 : W5.heap.size ≤ w3.heap.size := (by have := hb3.size; (try simp at this); omega))); go_simp; refine hK.out _ _ ?_ (fun hHeld => ?_); (focus ((try dsimp only); ((refine ⟨?_, ?_⟩ <;> (first | exact bX3 hb3 hb4 hb7 | exact bX2 hb3 hb4 | exact bX1 hb3 | exact bX0))))); clear hK K; (try simp only [Act.put, pqs]); refine rgC 3 rfl (fun K hK => ?_); go_simp; ((go_at_call 18; (with_reducible refine (CQc.out _ (by exact bB2 hb3 hB)).mono ?_); rintro e w4 hE4; obtain ⟨DQ, dQ, rfl, hq4, hb4⟩ := hE4; have hz4 : w3.heap.size ≤ w4.heap.size := (by have := hb4.size; (try simp at this); omega))); go_simp; refine hK.out _ _ ?_ (fun hHeld => ?_); (focus ((try dsimp only); ((refine ⟨?_, ?_⟩ <;> (first | exact bX3 hb3 hb4 hb7 | exact bX2 hb3 hb4 | exact bX1 hb3 | exact bX0))))); clear hK K; (try simp only [Act.put, pqs]); refine rgC 4 rfl (fun K hK => ?_); go_simp; ((go_at_call 61; (with_reducible refine (CPc.out _ _ _ _ _ _ _ (hl3.below (by exact bB1 hb4)) (hx3.below (by exact bB1 hb4)) (hq4.below (by exact bB0))).mono ?_); rintro e w7 ⟨rfl, hb7⟩; have hz7 : w4.heap.size ≤ w7.heap.size := (by have := hb7.size; (try simp at this); omega))); go_simp; refine hK.out _ _ ?_ (fun hHeld => ?_); (focus ((try dsimp only); ((refine ⟨?_, ?_⟩ <;> (first | exact bX3 hb3 hb4 hb7 | exact bX2 hb3 hb4 | exact bX1 hb3 | exact bX0))))); clear hK K; (try simp only [Act.put, pqs]); refine rgN 6 rfl ?_; refine wpAnyH_done (by kernel_rfl) ?_ _; (go_wp2_with fail; go_meet; refine ⟨by simp, ?_⟩; exact bB3 hb3 hb4 hb7))
              case rest =>
                clear lP lQ CPc CSc CQc
                obtain ⟨rfl, hW⟩ := hcut
                have HV2 := Lib.hid (HVJ.out.below hW)
                have HV3 := Lib.hid (HVC.out.below hW)
                clear HVC HVJ
                have HVJ := HV2
                have HVC := HV3
                clear HV2 HV3
                have HP := hP.below hW hP.lt; have HQ := hQ.below hW hQ.lt; have hB' : Below w.heap.size w wc := (by exact bB2 hW hB); clear hP hQ hB; have hP := HP; have hQ := HQ; have hB := hB'; clear HP HQ hB'; clear hW; generalize wc = W5 at *; have lP := hP.lt; have lQ := hQ.lt
                by_cases h0 : c = 0
                · obtain ⟨g1, g2, g3, g4, g5⟩ := HO.out h0
                  have RJc := Lib.hid (RJd.out h0)
                  have RLc := Lib.hid (RLd.out h0)
                  have RFc := Lib.hid (RFd.out h0)
                  clear RJd RLd RFd HE HO
                  subst h0
                  cases g1
                  cases g2
                  subst g3
                  have SJc := Lib.hid (fun A B c d W h1 h2 => samePairs_m J A B c d W g4 h1 h2)
                  have SLc := Lib.hid (fun A B c d W h1 h2 => samePairs_m C A B c d W g5 h1 h2)
                  clear g4 g5
                  (have c0 := hP.cell 0; have c1 := hP.cell 1; have c2 := hP.cell 2; have c3 := hP.cell 3; have c4 := hP.cell 4; have c5 := hP.cell 5; have c6 := hP.cell 6; have c7 := hP.cell 7; have c8 := hP.cell 8; have cl := hP.lt; have d0 := hQ.cell 0; have d1 := hQ.cell 1; have dl := hQ.lt; (simp at c0 c1 c2 c3 c4 c5 c6 c7 c8 d0 d1))
                  go_wp2_with (first | (go_at_call 62; (with_reducible refine (RJc.out _ (by exact bB1 hB)).mono ?_); rintro e w3 hE3; obtain ⟨gJ, cJ, rfl, _, _, qJ, _, hb3⟩ := hE3; have hz3 : W5.heap.size ≤ w3.heap.size := (by have := hb3.size; (try simp at this); omega)) | (go_at_call 30; (with_reducible refine (SJc.out _ _ _ _ _ (HVJ.out.below (by exact bB1 hb3)) (qJ.below (by exact bB0))).mono ?_); rintro e w4 ⟨rfl, hb4⟩; have hz4 : w3.heap.size ≤ w4.heap.size := (by have := hb4.size; (try simp at this); omega); have hB4 : Below W5.heap.size W5 w4 := (by exact bB2 hb3 hb4); have hP4 := hP.below hB4 lP; have hQ4 := hQ.below hB4 lQ; have e0 := hP4.cell 0; have e1 := hP4.cell 1; have e2 := hP4.cell 2; have e3 := hP4.cell 3; have e4 := hP4.cell 4; have e5 := hP4.cell 5; have e6 := hP4.cell 6; have e7 := hP4.cell 7; have e8 := hP4.cell 8; have el := hP4.lt; have f0 := hQ4.cell 0; have f1 := hQ4.cell 1; have fl := hQ4.lt; (simp at e0 e1 e2 e3 e4 e5 e6 e7 e8 f0 f1)) | (go_at_call 63; (with_reducible refine (RLc.out _ (by exact bB2 hB4 hB)).mono ?_); rintro e w6 hE6; obtain ⟨gL, cLL, rfl, qL, hb6⟩ := hE6; have hz6 : w4.heap.size ≤ w6.heap.size := (by have := hb6.size; (try simp at this); omega)) | (go_at_call 30; (with_reducible refine (SLc.out _ _ _ _ _ (HVC.out.below (by exact bB2 hB4 hb6)) (qL.below (by exact bB0))).mono ?_); rintro e w8 ⟨rfl, hb8⟩; have hB8 : Below W5.heap.size W5 w8 := (by exact bB3 hB4 hb6 hb8); have hP8 := hP.below hB8 lP; have hQ8 := hQ.below hB8 lQ; have g0 := hP8.cell 0; have g1 := hP8.cell 1; have g2 := hP8.cell 2; have g3 := hP8.cell 3; have g4 := hP8.cell 4; have g5 := hP8.cell 5; have g6 := hP8.cell 6; have g7 := hP8.cell 7; have g8 := hP8.cell 8; have gl := hP8.lt; have h0 := hQ8.cell 0; have h1 := hQ8.cell 1; have hl := hQ8.lt; (simp at g0 g1 g2 g3 g4 g5 g6 g7 g8 h0 h1)) | (go_at_call 64; (with_reducible refine (RFc.out _ (by exact bB2 hB8 hB)).mono ?_); rintro e w9 ⟨rfl, hb9⟩) | fail)
                  go_ret
                  exact ⟨by simp, by exact bB3 hB8 hb9 hB⟩
                · obtain ⟨g1, g2, g3⟩ := HE.out h0
                  cases g1
                  cases g2
                  subst g3
                  have x1 := bneT h0
                  clear HE HO RJd RLd RFd h0
                  go_wp2_with fail
                  go_ret
                  exact ⟨by simp, hB⟩
end Go.Proofs.YtpnfgmgoafgcbaaGreat

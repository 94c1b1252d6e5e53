/-
  The law ArmShortest (chapter 6): the walk.
-/
import Derived.Test.YtpnfgmgoafgcbaaGreatShQ
import Derived.Test.YtpnfgmgoafgcbaaGreatRPt
import Derived.Test.YtpnfgmgoafgcbaaGreatG1
import Derived.Test.YtpnfgmgoafgcbaaGreatCpyS
import Derived.Test.YtpnfgmgoafgcbaaGreatG4
import Derived.Test.YtpnfgmgoafgcbaaGreatAwake
set_option linter.unusedVariables false
namespace Go.Proofs.YtpnfgmgoafgcbaaGreat
open Go.RowKit
attribute [local go_sem] Oper.semAt_some
def Sh7 (W : World) (R : List Mv × Int) (s7 s8 : Value) (wx : World) : Prop :=
  ∃ A c, s7 = .slice A R.1.length c ∧ s8 = .int .i64 R.2 ∧ SlV wx A (R.1.flatMap mvV) ∧ Below W.heap.size W wx
def Sh12 (W : World) (F : Option (List Mv)) (s12 s13 : Value) (wx : World) : Prop :=
  ∃ A c, s12 = .slice A (F.getD []).length c ∧ s13 = .bool F.isSome ∧ SlV wx A ((F.getD []).flatMap mvV) ∧ Below W.heap.size W wx
set_option maxHeartbeats 8000000 in
set_option maxRecDepth 100000 in
theorem armShortest_l (bx bY sl : Int) (L : List Lk) (AL : Option Addr) (cL : Nat) (fx fX fy fY : Int) (B : List Bx) (AB : Option Addr) (cB : Nat) (ps : Int) (Q : List Int) (AQ : Option Addr) (cQ : Nat) (pt : Int) (T : List Int) (AT : Option Addr) (cT : Nat) (tx ty : Int) (w : World)
    (hs1 : SlV w AL (L.flatMap lkV)) (hs2 : SlV w AB (B.flatMap bxV)) (_ : L.length ≤ 9223372036854775807) (_ : B.length ≤ 9223372036854775807) (hs3 : SlI w AQ Q) (_ : Q.length ≤ 9223372036854775807) (hs4 : SlI w AT T) (_ : T.length ≤ 9223372036854775807) :
    Calls Tryz.prog 6 #[.agg #[.int .i64 bx, .int .i64 bY, .int .i64 sl, .slice AL L.length cL, .int .i64 fx, .int .i64 fX, .int .i64 fy, .int .i64 fY, .slice AB B.length cB], .agg #[.int .i64 ps, .slice AQ Q.length cQ], .agg #[.int .i64 pt, .slice AT T.length cT, .int .i64 tx, .int .i64 ty]] w fun e w' => e = .returned (.bool true) ∧ Below w.heap.size w w' := by
  have AWc := Lib.hid (fun W => awake_c W)
  have FWc := Lib.hid (fun W => few_c bx bY sl fx fX fy fY ps L B Q AL AB AQ cL cB cQ W)
  have FXc := Lib.hid (fun W => few_c bx bY sl fx fX fy fY pt L B T AL AB AT cL cB cT W)
  cases hf : fewP (⟨bx, bY, sl, L, (fx, fX, fy, fY), B⟩ : Sc) (ps, Q)
  · rw [hf] at FWc
    clear hs1 hs2 hs3 hs4 hf FXc
    go_enter Tryz.func6, Tryz.ntmps6
    go_wp2_with (first | (go_at_call 14; (with_reducible refine (AWc.out _).mono ?_); rintro e w1 ⟨rfl, hb1⟩; have hz1 : w.heap.size + 1 + 1 < w1.heap.size := (by have := hb1.size; (try simp at this); omega); have y1 : Box w1 w.heap.size 30 #[.int .i64 bx, .int .i64 bY, .int .i64 sl, .slice AL L.length cL, .int .i64 fx, .int .i64 fX, .int .i64 fy, .int .i64 fY, .slice AB B.length cB] := (by exact bX1 hb1); have z1 : Box w1 (w.heap.size + 1) 33 #[.int .i64 ps, .slice AQ Q.length cQ] := (by exact bX1 hb1); have x1 : Box w1 (w.heap.size + 1 + 1) 71 #[.int .i64 pt, .slice AT T.length cT, .int .i64 tx, .int .i64 ty] := (by exact bX1 hb1); have p := ce9 y1; have q := ce2 z1; have r := ce4 x1) | (go_at_call 15; (with_reducible refine (FWc.out _).mono ?_); rintro e w2 ⟨rfl, hb2⟩; have hz2 : w1.heap.size ≤ w2.heap.size := (by have := hb2.size; (try simp at this); omega); have y2 : Box w2 w.heap.size 30 #[.int .i64 bx, .int .i64 bY, .int .i64 sl, .slice AL L.length cL, .int .i64 fx, .int .i64 fX, .int .i64 fy, .int .i64 fY, .slice AB B.length cB] := (by exact bX1 hb2); have z2 : Box w2 (w.heap.size + 1) 33 #[.int .i64 ps, .slice AQ Q.length cQ] := (by exact bX1 hb2); have x2 : Box w2 (w.heap.size + 1 + 1) 71 #[.int .i64 pt, .slice AT T.length cT, .int .i64 tx, .int .i64 ty] := (by exact bX1 hb2); have pa := ce9 y2; have qa := ce2 z2; have ra := ce4 x2) | fail)
    go_ret
    exact ⟨rfl, by exact bB2 hb1 hb2⟩
  obtain ⟨f1, f2, f3⟩ := fewP_true hf
  dsimp only at f1 f2 f3
  rw [hf] at FWc
  cases hg : fewP (⟨bx, bY, sl, L, (fx, fX, fy, fY), B⟩ : Sc) (pt, T)
  · rw [hg] at FXc
    clear hs1 hs2 hs3 hs4 hf hg
    go_enter Tryz.func6, Tryz.ntmps6
    go_wp2_with (first | (go_at_call 14; (with_reducible refine (AWc.out _).mono ?_); rintro e w1 ⟨rfl, hb1⟩; have hz1 : w.heap.size + 1 + 1 < w1.heap.size := (by have := hb1.size; (try simp at this); omega); have y1 : Box w1 w.heap.size 30 #[.int .i64 bx, .int .i64 bY, .int .i64 sl, .slice AL L.length cL, .int .i64 fx, .int .i64 fX, .int .i64 fy, .int .i64 fY, .slice AB B.length cB] := (by exact bX1 hb1); have z1 : Box w1 (w.heap.size + 1) 33 #[.int .i64 ps, .slice AQ Q.length cQ] := (by exact bX1 hb1); have x1 : Box w1 (w.heap.size + 1 + 1) 71 #[.int .i64 pt, .slice AT T.length cT, .int .i64 tx, .int .i64 ty] := (by exact bX1 hb1); have p := ce9 y1; have q := ce2 z1; have r := ce4 x1) | (go_at_call 15; (with_reducible refine (FWc.out _).mono ?_); rintro e w2 ⟨rfl, hb2⟩; have hz2 : w1.heap.size ≤ w2.heap.size := (by have := hb2.size; (try simp at this); omega); have y2 : Box w2 w.heap.size 30 #[.int .i64 bx, .int .i64 bY, .int .i64 sl, .slice AL L.length cL, .int .i64 fx, .int .i64 fX, .int .i64 fy, .int .i64 fY, .slice AB B.length cB] := (by exact bX1 hb2); have z2 : Box w2 (w.heap.size + 1) 33 #[.int .i64 ps, .slice AQ Q.length cQ] := (by exact bX1 hb2); have x2 : Box w2 (w.heap.size + 1 + 1) 71 #[.int .i64 pt, .slice AT T.length cT, .int .i64 tx, .int .i64 ty] := (by exact bX1 hb2); have pa := ce9 y2; have qa := ce2 z2; have ra := ce4 x2) | (go_at_call 15; (with_reducible refine (FXc.out _).mono ?_); rintro e w3 ⟨rfl, hb3⟩; have hz3 : w2.heap.size ≤ w3.heap.size := (by have := hb3.size; (try simp at this); omega); have y3 : Box w3 w.heap.size 30 #[.int .i64 bx, .int .i64 bY, .int .i64 sl, .slice AL L.length cL, .int .i64 fx, .int .i64 fX, .int .i64 fy, .int .i64 fY, .slice AB B.length cB] := (by exact bX1 hb3); have z3 : Box w3 (w.heap.size + 1) 33 #[.int .i64 ps, .slice AQ Q.length cQ] := (by exact bX1 hb3); have x3 : Box w3 (w.heap.size + 1 + 1) 71 #[.int .i64 pt, .slice AT T.length cT, .int .i64 tx, .int .i64 ty] := (by exact bX1 hb3); have pb := ce9 y3; have qb := ce2 z3; have rb := ce4 x3) | fail)
    go_ret
    exact ⟨rfl, by exact bB3 hb1 hb2 hb3⟩
  obtain ⟨_, _, f4⟩ := fewP_true hg
  dsimp only at f4
  rw [hg] at FXc
  have LGc := Lib.hid (fun W (h : Below w.heap.size w W) => light_c bx bY sl fx fX fy fY L B AL AB cL cB W (by omega) (by omega) (hs1.below h) (hs2.below h))
  cases hlg : lightP (⟨bx, bY, sl, L, (fx, fX, fy, fY), B⟩ : Sc)
  · rw [hlg] at LGc
    clear hs1 hs2 hs3 hs4 hf hg hlg
    go_enter Tryz.func6, Tryz.ntmps6
    go_wp2_with (first | (go_at_call 14; (with_reducible refine (AWc.out _).mono ?_); rintro e w1 ⟨rfl, hb1⟩; have hz1 : w.heap.size + 1 + 1 < w1.heap.size := (by have := hb1.size; (try simp at this); omega); have y1 : Box w1 w.heap.size 30 #[.int .i64 bx, .int .i64 bY, .int .i64 sl, .slice AL L.length cL, .int .i64 fx, .int .i64 fX, .int .i64 fy, .int .i64 fY, .slice AB B.length cB] := (by exact bX1 hb1); have z1 : Box w1 (w.heap.size + 1) 33 #[.int .i64 ps, .slice AQ Q.length cQ] := (by exact bX1 hb1); have x1 : Box w1 (w.heap.size + 1 + 1) 71 #[.int .i64 pt, .slice AT T.length cT, .int .i64 tx, .int .i64 ty] := (by exact bX1 hb1); have p := ce9 y1; have q := ce2 z1; have r := ce4 x1) | (go_at_call 15; (with_reducible refine (FWc.out _).mono ?_); rintro e w2 ⟨rfl, hb2⟩; have hz2 : w1.heap.size ≤ w2.heap.size := (by have := hb2.size; (try simp at this); omega); have y2 : Box w2 w.heap.size 30 #[.int .i64 bx, .int .i64 bY, .int .i64 sl, .slice AL L.length cL, .int .i64 fx, .int .i64 fX, .int .i64 fy, .int .i64 fY, .slice AB B.length cB] := (by exact bX1 hb2); have z2 : Box w2 (w.heap.size + 1) 33 #[.int .i64 ps, .slice AQ Q.length cQ] := (by exact bX1 hb2); have x2 : Box w2 (w.heap.size + 1 + 1) 71 #[.int .i64 pt, .slice AT T.length cT, .int .i64 tx, .int .i64 ty] := (by exact bX1 hb2); have pa := ce9 y2; have qa := ce2 z2; have ra := ce4 x2) | (go_at_call 15; (with_reducible refine (FXc.out _).mono ?_); rintro e w3 ⟨rfl, hb3⟩; have hz3 : w2.heap.size ≤ w3.heap.size := (by have := hb3.size; (try simp at this); omega); have y3 : Box w3 w.heap.size 30 #[.int .i64 bx, .int .i64 bY, .int .i64 sl, .slice AL L.length cL, .int .i64 fx, .int .i64 fX, .int .i64 fy, .int .i64 fY, .slice AB B.length cB] := (by exact bX1 hb3); have z3 : Box w3 (w.heap.size + 1) 33 #[.int .i64 ps, .slice AQ Q.length cQ] := (by exact bX1 hb3); have x3 : Box w3 (w.heap.size + 1 + 1) 71 #[.int .i64 pt, .slice AT T.length cT, .int .i64 tx, .int .i64 ty] := (by exact bX1 hb3); have pb := ce9 y3; have qb := ce2 z3; have rb := ce4 x3) | (go_at_call 33; (with_reducible refine (LGc.out _ (by exact bB3 hb1 hb2 hb3)).mono ?_); rintro e w4 ⟨rfl, hb4⟩; have hz4 : w3.heap.size ≤ w4.heap.size := (by have := hb4.size; (try simp at this); omega)) | fail)
    go_ret
    exact ⟨rfl, by exact bB4 hb1 hb2 hb3 hb4⟩
  rw [hlg] at LGc
  have CSc := Lib.hid (fun W (h : Below w.heap.size w W) => copyScene_c bx bY sl fx fX fy fY L B AL AB cL cB W (by omega) (by omega) (hs1.below h) (hs2.below h))
  have CQc := Lib.hid (fun W (h : Below w.heap.size w W) => copyPose_c ps Q AQ cQ W (by omega) (hs3.below h))
  have CTc := Lib.hid (fun W (h : Below w.heap.size w W) => copyPose_c pt T AT cT W (by omega) (hs4.below h))
  have PTc := Lib.hid (fun DL DB DQ DT dL dB dQ dT W h1 h2 h3 h4 => pathTo_c bx bY sl fx fX fy fY ps pt L B Q T DL DB DQ DT dL dB dQ dT W (by omega) (by omega) (by omega) (by omega) h1 h2 h3 h4)
  have PCc := Lib.hid (fun DL DB DQ dL dB dQ W h1 h2 h3 => pathToCell_c bx bY sl fx fX fy fY ps tx ty L B Q DL DB DQ dL dB dQ W (by omega) (by omega) (by omega) h1 h2 h3)
  have PEc := Lib.hid (fun W (h : Below w.heap.size w W) => rPoseErr_c bx bY sl fx fX fy fY ps L B Q AL AB AQ cL cB cQ W (by omega) (by omega) (by omega) (hs1.below h) (hs2.below h) (hs3.below h))
  have PFc := Lib.hid (fun W (h : Below w.heap.size w W) => rPoseErr_c bx bY sl fx fX fy fY pt L B T AL AB AT cL cB cT W (by omega) (by omega) (by omega) (hs1.below h) (hs2.below h) (hs4.below h))
  have FEc := Lib.hid (fun W (h : Below w.heap.size w W) => rFreeErr_c bx bY sl fx fX fy fY ps L B Q AL AB AQ cL cB cQ W (by omega) (by omega) (by omega) (hs1.below h) (hs2.below h) (hs3.below h))
  have RPd := Lib.hid (fun (h0 : cpE (⟨bx, bY, sl, L, (fx, fX, fy, fY), B⟩ : Sc) (ps, Q) = 0) W (h : Below w.heap.size w W) => rPath_c bx bY sl fx fX fy fY ps pt L B Q T AL AB AQ AT cL cB cQ cT W (cpE_ok h0).1 (cpE_ok h0).2 (by omega) (hs1.below h) (hs2.below h) (hs3.below h) (hs4.below h))
  have RCd := Lib.hid (fun (h0 : cpE (⟨bx, bY, sl, L, (fx, fX, fy, fY), B⟩ : Sc) (ps, Q) = 0) W (h : Below w.heap.size w W) => rPathToCell_c bx bY sl fx fX fy fY ps tx ty L B Q AL AB AQ cL cB cQ W (cpE_ok h0).1 (cpE_ok h0).2 (hs1.below h) (hs2.below h) (hs3.below h))
  have HSP := Lib.hid (short_p (⟨bx, bY, sl, L, (fx, fX, fy, fY), B⟩ : Sc) (ps, Q) (pt, T))
  have HSC := Lib.hid (short_c (⟨bx, bY, sl, L, (fx, fX, fy, fY), B⟩ : Sc) (ps, Q) (tx, ty))
  rw [ptE_seq] at HSP
  rw [pcE_seq] at HSC
  have HL1 := Lib.hid (show (ptR (⟨bx, bY, sl, L, (fx, fX, fy, fY), B⟩ : Sc) (ps, Q) (pt, T)).1.length ≤ 100000 from ptR_len (⟨bx, bY, sl, L, (fx, fX, fy, fY), B⟩ : Sc) (ps, Q) (pt, T))
  have HL2 := Lib.hid (show (pcR (⟨bx, bY, sl, L, (fx, fX, fy, fY), B⟩ : Sc) (ps, Q) (tx, ty)).1.length ≤ 100000 from pcR_len (⟨bx, bY, sl, L, (fx, fX, fy, fY), B⟩ : Sc) (ps, Q) (tx, ty))
  clear hs1 hs2 hs3 hs4 hf hg hlg
  generalize ptR (⟨bx, bY, sl, L, (fx, fX, fy, fY), B⟩ : Sc) (ps, Q) (pt, T) = R1 at *
  generalize pcR (⟨bx, bY, sl, L, (fx, fX, fy, fY), B⟩ : Sc) (ps, Q) (tx, ty) = R2 at *
  generalize srF (⟨bx, bY, sl, L, (fx, fX, fy, fY), B⟩ : Sc) (ps, Q) (fun z => decide (z = (pt, T))) = F1 at *
  generalize srF (⟨bx, bY, sl, L, (fx, fX, fy, fY), B⟩ : Sc) (ps, Q) (fun z => decide (tipP (⟨bx, bY, sl, L, (fx, fX, fy, fY), B⟩ : Sc) z = (tx, ty))) = F2 at *
  generalize cpE (⟨bx, bY, sl, L, (fx, fX, fy, fY), B⟩ : Sc) (ps, Q) = r at *
  generalize cpE (⟨bx, bY, sl, L, (fx, fX, fy, fY), B⟩ : Sc) (pt, T) = r2 at *
  generalize frE (⟨bx, bY, sl, L, (fx, fX, fy, fY), B⟩ : Sc) (ps, Q) = fe at *
  dsimp only at HSC
  obtain ⟨P1, e1⟩ := R1
  obtain ⟨P2, e2⟩ := R2
  dsimp only at HL1 HL2
  go_enter Tryz.func6, Tryz.ntmps6
  go_upto_region 5 with (first | (go_at_call 14; (with_reducible refine (AWc.out _).mono ?_); rintro e w1 ⟨rfl, hb1⟩; have hz1 : w.heap.size + 1 + 1 < w1.heap.size := (by have := hb1.size; (try simp at this); omega); have y1 : Box w1 w.heap.size 30 #[.int .i64 bx, .int .i64 bY, .int .i64 sl, .slice AL L.length cL, .int .i64 fx, .int .i64 fX, .int .i64 fy, .int .i64 fY, .slice AB B.length cB] := (by exact bX1 hb1); have z1 : Box w1 (w.heap.size + 1) 33 #[.int .i64 ps, .slice AQ Q.length cQ] := (by exact bX1 hb1); have x1 : Box w1 (w.heap.size + 1 + 1) 71 #[.int .i64 pt, .slice AT T.length cT, .int .i64 tx, .int .i64 ty] := (by exact bX1 hb1); have p := ce9 y1; have q := ce2 z1; have r := ce4 x1) | (go_at_call 15; (with_reducible refine (FWc.out _).mono ?_); rintro e w2 ⟨rfl, hb2⟩; have hz2 : w1.heap.size ≤ w2.heap.size := (by have := hb2.size; (try simp at this); omega); have y2 : Box w2 w.heap.size 30 #[.int .i64 bx, .int .i64 bY, .int .i64 sl, .slice AL L.length cL, .int .i64 fx, .int .i64 fX, .int .i64 fy, .int .i64 fY, .slice AB B.length cB] := (by exact bX1 hb2); have z2 : Box w2 (w.heap.size + 1) 33 #[.int .i64 ps, .slice AQ Q.length cQ] := (by exact bX1 hb2); have x2 : Box w2 (w.heap.size + 1 + 1) 71 #[.int .i64 pt, .slice AT T.length cT, .int .i64 tx, .int .i64 ty] := (by exact bX1 hb2); have pa := ce9 y2; have qa := ce2 z2; have ra := ce4 x2) | (go_at_call 15; (with_reducible refine (FXc.out _).mono ?_); rintro e w3 ⟨rfl, hb3⟩; have hz3 : w2.heap.size ≤ w3.heap.size := (by have := hb3.size; (try simp at this); omega); have y3 : Box w3 w.heap.size 30 #[.int .i64 bx, .int .i64 bY, .int .i64 sl, .slice AL L.length cL, .int .i64 fx, .int .i64 fX, .int .i64 fy, .int .i64 fY, .slice AB B.length cB] := (by exact bX1 hb3); have z3 : Box w3 (w.heap.size + 1) 33 #[.int .i64 ps, .slice AQ Q.length cQ] := (by exact bX1 hb3); have x3 : Box w3 (w.heap.size + 1 + 1) 71 #[.int .i64 pt, .slice AT T.length cT, .int .i64 tx, .int .i64 ty] := (by exact bX1 hb3); have pb := ce9 y3; have qb := ce2 z3; have rb := ce4 x3) | (go_at_call 33; (with_reducible refine (LGc.out _ (by exact bB3 hb1 hb2 hb3)).mono ?_); rintro e w4 ⟨rfl, hb4⟩; have hz4 : w3.heap.size ≤ w4.heap.size := (by have := hb4.size; (try simp at this); omega)) | fail)
  have hP : Box w4 w.heap.size 30 #[.int .i64 bx, .int .i64 bY, .int .i64 sl, .slice AL L.length cL, .int .i64 fx, .int .i64 fX, .int .i64 fy, .int .i64 fY, .slice AB B.length cB] := by exact bX4 hb1 hb2 hb3 hb4
  have hQ : Box w4 (w.heap.size + 1) 33 #[.int .i64 ps, .slice AQ Q.length cQ] := by exact bX4 hb1 hb2 hb3 hb4
  have hX : Box w4 (w.heap.size + 1 + 1) 71 #[.int .i64 pt, .slice AT T.length cT, .int .i64 tx, .int .i64 ty] := by exact bX4 hb1 hb2 hb3 hb4
  have hB : Below w.heap.size w w4 := by exact bB4 hb1 hb2 hb3 hb4
  clear y1 z1 x1 p q r y2 z2 x2 pa qa ra y3 z3 x3 pb qb rb hb1 hb2 hb3 hb4 hz1 hz2 hz3 hz4 AWc FWc FXc LGc
  generalize w4 = W5 at *
  have lP := hP.lt; have lQ := hQ.lt; have lX := hX.lt
  go_cut [7, 8] (fun s7 s8 wx => Sh7 W5 (P1, e1) s7 s8 wx)
  case first =>
    (refine wp_region_held_drew (S := (fun w' => Box w' w.heap.size 30 #[.int .i64 bx, .int .i64 bY, .int .i64 sl, .slice AL L.length cL, .int .i64 fx, .int .i64 fX, .int .i64 fy, .int .i64 fY, .slice AB B.length cB] ∧ Box w' (w.heap.size + 1) 33 #[.int .i64 ps, .slice AQ Q.length cQ] ∧ Box w' (w.heap.size + 1 + 1) 71 #[.int .i64 pt, .slice AT T.length cT, .int .i64 tx, .int .i64 ty])) (by kernel_rfl) ?_ (fun hHeld => ?_); (focus ((try dsimp only); ((refine ⟨?_, ?_, ?_⟩ <;> (first | exact bX0 | exact bX1 hb3 | exact bX2 hb3 hb4 | exact bX3 hb3 hb4 hb6 | exact bX4 hb3 hb4 hb6 hb7))))); refine rgT 0 ?_ rfl (fun w' hSw => ?_) ?_; rotate_left; (focus ((try dsimp only at hSw); (obtain ⟨hSA, hSB, hSC⟩ := hSw; have c9 := ce9 hSA; have c2 := ce2 hSB; have c4 := ce4 hSC); go_simp; (try with_reducible rfl))); (try simp only [Act.put, pqs]); refine rgT 2 ?_ rfl (fun w' hSw => ?_) ?_; rotate_left; (focus ((try dsimp only at hSw); (obtain ⟨hSA, hSB, hSC⟩ := hSw; have c9 := ce9 hSA; have c2 := ce2 hSB; have c4 := ce4 hSC); go_simp; (try with_reducible rfl))); (try simp only [Act.put, pqs]); refine rgN 4 rfl ?_; (try simp only [Act.put, pqs]); refine rgT 5 ?_ rfl (fun w' hSw => ?_) ?_; rotate_left; (focus ((try dsimp only at hSw); (obtain ⟨hSA, hSB, hSC⟩ := hSw; have c9 := ce9 hSA; have c2 := ce2 hSB; have c4 := ce4 hSC); go_simp; (try with_reducible rfl))); (try simp only [Act.put, pqs]); refine rgC 1 rfl (fun K hK => ?_); go_simp; ((go_at_call 17; (with_reducible refine (CSc.out _ (by exact bB1 hB)).mono ?_); rintro e w3 hE3; obtain ⟨DL, dL, DB, dB, rfl, hl3, hx3, hb3⟩ := hE3; have hz3 : W5.heap.size ≤ w3.heap.size := (by have := hb3.size; (try simp at this); omega))); go_simp; refine hK.out _ _ ?_ (fun hHeld => ?_); (focus ((try dsimp only); ((refine ⟨?_, ?_, ?_⟩ <;> (first | exact bX4 hb3 hb4 hb6 hb7 | exact bX3 hb3 hb4 hb6 | exact bX2 hb3 hb4 | exact bX1 hb3 | exact bX0))))); clear hK K; (try simp only [Act.put, pqs]); refine rgC 3 rfl (fun K hK => ?_); go_simp; (first | (go_at_call 18; (with_reducible refine (CQc.out _ (by exact bB2 hb3 hB)).mono ?_); rintro e w4 hE4; obtain ⟨DQ, dQ, rfl, hq4, hb4⟩ := hE4; have hz4 : w3.heap.size ≤ w4.heap.size := (by have := hb4.size; (try simp at this); omega)) | (go_at_call 18; (with_reducible refine (CTc.out _ (by exact bB3 hb3 hb4 hB)).mono ?_); rintro e w6 hE6; obtain ⟨DT, dT, rfl, ht6, hb6⟩ := hE6; have hz6 : w4.heap.size ≤ w6.heap.size := (by have := hb6.size; (try simp at this); omega))); go_simp; refine hK.out _ _ ?_ (fun hHeld => ?_); (focus ((try dsimp only); ((refine ⟨?_, ?_, ?_⟩ <;> (first | exact bX4 hb3 hb4 hb6 hb7 | exact bX3 hb3 hb4 hb6 | exact bX2 hb3 hb4 | exact bX1 hb3 | exact bX0))))); clear hK K; (try simp only [Act.put, pqs]); refine rgC 6 rfl (fun K hK => ?_); go_simp; (first | (go_at_call 18; (with_reducible refine (CQc.out _ (by exact bB2 hb3 hB)).mono ?_); rintro e w4 hE4; obtain ⟨DQ, dQ, rfl, hq4, hb4⟩ := hE4; have hz4 : w3.heap.size ≤ w4.heap.size := (by have := hb4.size; (try simp at this); omega)) | (go_at_call 18; (with_reducible refine (CTc.out _ (by exact bB3 hb3 hb4 hB)).mono ?_); rintro e w6 hE6; obtain ⟨DT, dT, rfl, ht6, hb6⟩ := hE6; have hz6 : w4.heap.size ≤ w6.heap.size := (by have := hb6.size; (try simp at this); omega))); go_simp; refine hK.out _ _ ?_ (fun hHeld => ?_); (focus ((try dsimp only); ((refine ⟨?_, ?_, ?_⟩ <;> (first | exact bX4 hb3 hb4 hb6 hb7 | exact bX3 hb3 hb4 hb6 | exact bX2 hb3 hb4 | exact bX1 hb3 | exact bX0))))); clear hK K; (try simp only [Act.put, pqs]); refine rgC 7 rfl (fun K hK => ?_); go_simp; ((go_at_call 34; (with_reducible refine (PTc.out _ _ _ _ _ _ _ _ _ (hl3.below (by exact bB2 hb4 hb6)) (hx3.below (by exact bB2 hb4 hb6)) (hq4.below (by exact bB1 hb6)) (ht6.below (by exact bB0))).mono ?_); rintro e w7 hE7; obtain ⟨A7, c7, rfl, ho7, hb7⟩ := hE7)); go_simp; refine hK.out _ _ ?_ (fun hHeld => ?_); (focus ((try dsimp only); ((refine ⟨?_, ?_, ?_⟩ <;> (first | exact bX4 hb3 hb4 hb6 hb7 | exact bX3 hb3 hb4 hb6 | exact bX2 hb3 hb4 | exact bX1 hb3 | exact bX0))))); clear hK K; (try simp only [Act.put, pqs]); refine rgN 8 rfl ?_; (try simp only [Act.put, pqs]); refine rgN 9 rfl ?_; (try simp only [Act.put, pqs]); refine rgN 10 rfl ?_; (try simp only [Act.put, pqs]); refine rgN 11 rfl ?_; (try simp only [Act.put, pqs]); refine rgN 12 rfl ?_; (try simp only [Act.put, pqs]); refine wpAnyH_done (by kernel_rfl) ?_ _; (go_wp2_with fail; go_meet; refine ⟨A7, c7, rfl, rfl, ?_, ?_⟩; (focus (exact slv_own (by decide) ho7)); (focus (exact bB4 hb3 hb4 hb6 hb7))))
  case rest =>
    clear lP lQ lX PTc CTc
    obtain ⟨A1, c1, rfl, rfl, hF1, hW⟩ := hcut
    have HP := hP.below hW hP.lt; have HQ := hQ.below hW hQ.lt; have HX := hX.below hW hX.lt; have hB' : Below w.heap.size w wc := (by exact bB2 hW hB); clear hP hQ hX hB; have hP := HP; have hQ := HQ; have hX := HX; have hB := hB'; clear HP HQ HX hB'
    clear hW
    generalize wc = W5 at *
    dsimp only at hF1
    have lP := hP.lt; have lQ := hQ.lt; have lX := hX.lt
    go_upto_region 6 with fail
    go_cut [9, 10] (fun s9 s10 wx => Sh7 W5 (P2, e2) s9 s10 wx)
    case first =>
      (refine wp_region_held_drew (S := (fun w' => Box w' w.heap.size 30 #[.int .i64 bx, .int .i64 bY, .int .i64 sl, .slice AL L.length cL, .int .i64 fx, .int .i64 fX, .int .i64 fy, .int .i64 fY, .slice AB B.length cB] ∧ Box w' (w.heap.size + 1) 33 #[.int .i64 ps, .slice AQ Q.length cQ] ∧ Box w' (w.heap.size + 1 + 1) 71 #[.int .i64 pt, .slice AT T.length cT, .int .i64 tx, .int .i64 ty])) (by kernel_rfl) ?_ (fun hHeld => ?_); (focus ((try dsimp only); ((refine ⟨?_, ?_, ?_⟩ <;> (first | exact bX0 | exact bX1 hb3 | exact bX2 hb3 hb4 | exact bX3 hb3 hb4 hb7))))); refine rgT 0 ?_ rfl (fun w' hSw => ?_) ?_; rotate_left; (focus ((try dsimp only at hSw); (obtain ⟨hSA, hSB, hSC⟩ := hSw; have c9 := ce9 hSA; have c2 := ce2 hSB; have c4 := ce4 hSC); go_simp; (try with_reducible rfl))); (try simp only [Act.put, pqs]); refine rgT 2 ?_ rfl (fun w' hSw => ?_) ?_; rotate_left; (focus ((try dsimp only at hSw); (obtain ⟨hSA, hSB, hSC⟩ := hSw; have c9 := ce9 hSA; have c2 := ce2 hSB; have c4 := ce4 hSC); go_simp; (try with_reducible rfl))); (try simp only [Act.put, pqs]); refine rgN 4 rfl ?_; (try simp only [Act.put, pqs]); refine rgT 5 ?_ rfl (fun w' hSw => ?_) ?_; rotate_left; (focus ((try dsimp only at hSw); (obtain ⟨hSA, hSB, hSC⟩ := hSw; have c9 := ce9 hSA; have c2 := ce2 hSB; have c4 := ce4 hSC); go_simp; (try with_reducible rfl))); (try simp only [Act.put, pqs]); refine rgC 1 rfl (fun K hK => ?_); go_simp; ((go_at_call 17; (with_reducible refine (CSc.out _ (by exact bB1 hB)).mono ?_); rintro e w3 hE3; obtain ⟨DL, dL, DB, dB, rfl, hl3, hx3, hb3⟩ := hE3; have hz3 : W5.heap.size ≤ w3.heap.size := (by have := hb3.size; (try simp at this); omega))); go_simp; refine hK.out _ _ ?_ (fun hHeld => ?_); (focus ((try dsimp only); ((refine ⟨?_, ?_, ?_⟩ <;> (first | exact bX3 hb3 hb4 hb7 | exact bX2 hb3 hb4 | exact bX1 hb3 | exact bX0))))); clear hK K; (try simp only [Act.put, pqs]); refine rgC 3 rfl (fun K hK => ?_); go_simp; ((go_at_call 18; (with_reducible refine (CQc.out _ (by exact bB2 hb3 hB)).mono ?_); rintro e w4 hE4; obtain ⟨DQ, dQ, rfl, hq4, hb4⟩ := hE4; have hz4 : w3.heap.size ≤ w4.heap.size := (by have := hb4.size; (try simp at this); omega))); go_simp; refine hK.out _ _ ?_ (fun hHeld => ?_); (focus ((try dsimp only); ((refine ⟨?_, ?_, ?_⟩ <;> (first | exact bX3 hb3 hb4 hb7 | exact bX2 hb3 hb4 | exact bX1 hb3 | exact bX0))))); clear hK K; (try simp only [Act.put, pqs]); refine rgC 6 rfl (fun K hK => ?_); go_simp; ((go_at_call 35; (with_reducible refine (PCc.out _ _ _ _ _ _ _ (hl3.below (by exact bB1 hb4)) (hx3.below (by exact bB1 hb4)) (hq4.below (by exact bB0))).mono ?_); rintro e w7 hE7; obtain ⟨A7, c7, rfl, ho7, hb7⟩ := hE7)); go_simp; refine hK.out _ _ ?_ (fun hHeld => ?_); (focus ((try dsimp only); ((refine ⟨?_, ?_, ?_⟩ <;> (first | exact bX3 hb3 hb4 hb7 | exact bX2 hb3 hb4 | exact bX1 hb3 | exact bX0))))); clear hK K; (try simp only [Act.put, pqs]); refine rgN 7 rfl ?_; (try simp only [Act.put, pqs]); refine rgN 8 rfl ?_; (try simp only [Act.put, pqs]); refine rgN 9 rfl ?_; (try simp only [Act.put, pqs]); refine rgN 10 rfl ?_; (try simp only [Act.put, pqs]); refine rgN 11 rfl ?_; (try simp only [Act.put, pqs]); refine wpAnyH_done (by kernel_rfl) ?_ _; (go_wp2_with fail; go_meet; refine ⟨A7, c7, rfl, rfl, ?_, ?_⟩; (focus (exact slv_own (by decide) ho7)); (focus (exact bB3 hb3 hb4 hb7))))
    case rest =>
      clear lP lQ lX PCc CSc CQc
      obtain ⟨A2, c2, rfl, rfl, hF2, hW⟩ := hcut
      have hF1' := hF1.below hW
      clear hF1
      have HF1 := Lib.hid hF1'
      have HF2 := Lib.hid hF2
      clear hF1' hF2
      have HP := hP.below hW hP.lt; have HQ := hQ.below hW hQ.lt; have HX := hX.below hW hX.lt; have hB' : Below w.heap.size w wc := (by exact bB2 hW hB); clear hP hQ hX hB; have hP := HP; have hQ := HQ; have hX := HX; have hB := hB'; clear HP HQ HX hB'
      clear hW
      generalize wc = W5 at *
      go_upto_region 7 with fail
      go_cut [11] (fun s11 wx => s11 = .int .i64 r ∧ Below W5.heap.size W5 wx)
      case first =>
        (have c9 := ce9 hP; have c2 := ce2 hQ; have c4 := ce4 hX)
        go_wp2_with (first | (go_at_call 36; (with_reducible refine (PEc.out _ (by exact bB1 hB)).mono ?_); rintro e w3 ⟨rfl, hb3⟩) | fail)
        go_meet
        exact ⟨rfl, by exact bB1 hb3⟩
      case rest =>
        obtain ⟨rfl, hW⟩ := hcut
        have HF1' := Lib.hid (HF1.out.below hW); have HF2' := Lib.hid (HF2.out.below hW); have HP := hP.below hW hP.lt; have HQ := hQ.below hW hQ.lt; have HX := hX.below hW hX.lt; have hB' : Below w.heap.size w wc := (by exact bB2 hW hB); clear hP hQ hX hB; have hP := HP; have hQ := HQ; have hX := HX; have hB := hB'; clear HP HQ HX hB'; clear hW HF1 HF2; have HF1 := HF1'; have HF2 := HF2'; clear HF1' HF2'
        generalize wc = W5 at *
        go_upto_if 57 with fail
        go_cut [11] (fun s11 wx => s11 = .int .i64 (seq r r2) ∧ Below W5.heap.size W5 wx)
        case first =>
          by_cases h0 : r = 0
          · have x1 := beqT h0
            have H0 := Lib.hid h0
            clear h0
            (have c9 := ce9 hP; have c2 := ce2 hQ; have c4 := ce4 hX)
            go_wp2_with (first | (go_at_call 36; (with_reducible refine (PFc.out _ (by exact bB1 hB)).mono ?_); rintro e w3 ⟨rfl, hb3⟩) | fail)
            go_meet
            exact ⟨by rw [seq, if_pos H0.out], by exact bB1 hb3⟩
          · have x1 := beqF h0
            have H0 := Lib.hid h0
            clear h0
            go_wp2_with fail
            go_meet
            exact ⟨by rw [seq, if_neg H0.out], by exact bB0⟩
        case rest =>
          clear PFc
          obtain ⟨rfl, hW⟩ := hcut
          have HF1' := Lib.hid (HF1.out.below hW); have HF2' := Lib.hid (HF2.out.below hW); have HP := hP.below hW hP.lt; have HQ := hQ.below hW hQ.lt; have HX := hX.below hW hX.lt; have hB' : Below w.heap.size w wc := (by exact bB2 hW hB); clear hP hQ hX hB; have hP := HP; have hQ := HQ; have hX := HX; have hB := hB'; clear HP HQ HX hB'; clear hW HF1 HF2; have HF1 := HF1'; have HF2 := HF2'; clear HF1' HF2'
          generalize wc = W5 at *
          generalize hca : seq r r2 = ca at *
          have HCA := Lib.hid hca
          clear hca
          go_upto_if 63 with fail
          go_cut [11] (fun s11 wx => s11 = .int .i64 (seq ca fe) ∧ Below W5.heap.size W5 wx)
          case first =>
            by_cases h0 : ca = 0
            · have x1 := beqT h0
              have H0 := Lib.hid h0
              clear h0
              (have c9 := ce9 hP; have c2 := ce2 hQ; have c4 := ce4 hX)
              go_wp2_with (first | (go_at_call 37; (with_reducible refine (FEc.out _ (by exact bB1 hB)).mono ?_); rintro e w3 ⟨rfl, hb3⟩) | fail)
              go_meet
              exact ⟨by rw [seq, if_pos H0.out], by exact bB1 hb3⟩
            · have x1 := beqF h0
              have H0 := Lib.hid h0
              clear h0
              go_wp2_with fail
              go_meet
              exact ⟨by rw [seq, if_neg H0.out], by exact bB0⟩
          case rest =>
            obtain ⟨rfl, hW⟩ := hcut
            have HF1' := Lib.hid (HF1.out.below hW); have HF2' := Lib.hid (HF2.out.below hW); have HP := hP.below hW hP.lt; have HQ := hQ.below hW hQ.lt; have HX := hX.below hW hX.lt; have hB' : Below w.heap.size w wc := (by exact bB2 hW hB); clear hP hQ hX hB; have hP := HP; have hQ := HQ; have hX := HX; have hB := hB'; clear HP HQ HX hB'; clear hW HF1 HF2; have HF1 := HF1'; have HF2 := HF2'; clear HF1' HF2'
            generalize wc = W5 at *
            generalize hcb : seq ca fe = cb at *
            have HCB := Lib.hid hcb
            clear hcb
            go_upto_if 68 with fail
            go_cut [12, 13] (fun s12 s13 wx => Sh12 W5 (if cb = 0 then F1 else none) s12 s13 wx)
            case first =>
              by_cases h0 : cb = 0
              · have x1 := beqT h0
                have RPc := Lib.hid (RPd.out (seq_zero (HCA.out.trans (seq_zero (HCB.out.trans h0)).1)).1)
                have H0 := Lib.hid h0
                clear h0
                (have c9 := ce9 hP; have c2 := ce2 hQ; have c4 := ce4 hX)
                go_wp2_with (first | (go_at_call 38; (with_reducible refine (RPc.out _ (by exact bB1 hB)).mono ?_); rintro e w3 hE3; obtain ⟨A3, c3, rfl, hv3, hb3⟩ := hE3) | fail)
                go_meet
                rw [if_pos H0.out]
                exact ⟨A3, c3, rfl, rfl, hv3, by exact bB1 hb3⟩
              · have x1 := beqF h0
                have H0 := Lib.hid h0
                clear h0
                go_wp2_with fail
                go_meet
                rw [if_neg H0.out]
                exact ⟨none, 0, rfl, rfl, fun j u h => by simp at h, by exact bB0⟩
            case rest =>
              clear RPd HCA HCB
              obtain ⟨A3, c3, rfl, rfl, hw1, hW⟩ := hcut
              have HF1' := Lib.hid (HF1.out.below hW); have HF2' := Lib.hid (HF2.out.below hW); have HP := hP.below hW hP.lt; have HQ := hQ.below hW hQ.lt; have HX := hX.below hW hX.lt; have hB' : Below w.heap.size w wc := (by exact bB2 hW hB); clear hP hQ hX hB; have hP := HP; have hQ := HQ; have hX := HX; have hB := hB'; clear HP HQ HX hB'; clear hW HF1 HF2; have HF1 := HF1'; have HF2 := HF2'; clear HF1' HF2'
              generalize wc = W5 at *
              have HW1 := Lib.hid hw1
              clear hw1
              generalize (if cb = 0 then F1 else none) = G1 at *
              have SAc := Lib.hid (fun A D c d W h1 h2 => sameL_c P1 (G1.getD []) A D c d e1 cb G1.isSome W HL1.out h1 h2 HSP.out)
              clear HSP
              have lP := hP.lt; have lQ := hQ.lt; have lX := hX.lt
              go_upto_region 18 with (first | (go_at_call 39; (with_reducible refine (SAc.out _ _ _ _ _ (HF1.out.below (by exact bB0)) (HW1.out.below (by exact bB0))).mono ?_); rintro e w3 ⟨rfl, hb3⟩; have hz3 : W5.heap.size ≤ w3.heap.size := (by have := hb3.size; (try simp at this); omega)) | fail)
              have hW : Below W5.heap.size W5 w3 := by exact bB1 hb3
              have HP := hP.below hW hP.lt; have HQ := hQ.below hW hQ.lt; have HX := hX.below hW hX.lt; have hB' : Below w.heap.size w w3 := (by exact bB2 hW hB)
              have HF2' := Lib.hid (HF2.out.below hW)
              clear hP hQ hX hB HF1 HF2 HW1 SAc hb3 hz3 lP lQ lX hW
              have hP := HP; have hQ := HQ; have hX := HX; have hB := hB'; have HF2 := HF2'
              clear HP HQ HX hB' HF2'
              generalize w3 = W5 at *
              go_cut [11] (fun s11 wx => s11 = .int .i64 r ∧ Below W5.heap.size W5 wx)
              case first =>
                (have c9 := ce9 hP; have c2 := ce2 hQ; have c4 := ce4 hX)
                go_wp2_with (first | (go_at_call 36; (with_reducible refine (PEc.out _ (by exact bB1 hB)).mono ?_); rintro e w3 ⟨rfl, hb3⟩) | fail)
                go_meet
                exact ⟨rfl, by exact bB1 hb3⟩
              case rest =>
                clear PEc
                obtain ⟨rfl, hW⟩ := hcut
                have HF2' := Lib.hid (HF2.out.below hW); have HP := hP.below hW hP.lt; have HQ := hQ.below hW hQ.lt; have HX := hX.below hW hX.lt; have hB' : Below w.heap.size w wc := (by exact bB2 hW hB); clear hP hQ hX hB; have hP := HP; have hQ := HQ; have hX := HX; have hB := hB'; clear HP HQ HX hB'; clear hW HF2; have HF2 := HF2'; clear HF2'
                generalize wc = W5 at *
                go_upto_region 19 with fail
                go_cut [102] (fun s102 wx => s102 = .bool (decide (r = 0) && !(inB tx (-20) 20 && inB ty (-20) 20)) ∧ Below W5.heap.size W5 wx)
                case first =>
                  (have c9 := ce9 hP; have c2 := ce2 hQ; have c4 := ce4 hX)
                  by_cases h0 : r = 0
                  · have x1 := beqT h0
                    have H0 := Lib.hid h0
                    clear h0
                    cases h1 : inB tx (-20) 20
                    · go_wp2_with (first | (go_at_call 40; (with_reducible refine (within_b _ _ _ _).mono ?_); rintro e w' ⟨rfl, rfl⟩) | fail)
                      go_meet
                      exact ⟨by simp [H0.out, h1], by exact bB0⟩
                    · go_wp2_with (first | (go_at_call 40; (with_reducible refine (within_b _ _ _ _).mono ?_); rintro e w' ⟨rfl, rfl⟩) | fail)
                      go_meet
                      exact ⟨by simp [H0.out, h1], by exact bB0⟩
                  · have x1 := beqF h0
                    have H0 := Lib.hid h0
                    clear h0
                    go_wp2_with fail
                    go_meet
                    exact ⟨by simp [H0.out], by exact bB0⟩
                case rest =>
                  obtain ⟨rfl, hW⟩ := hcut
                  have HF2' := Lib.hid (HF2.out.below hW); have HP := hP.below hW hP.lt; have HQ := hQ.below hW hQ.lt; have HX := hX.below hW hX.lt; have hB' : Below w.heap.size w wc := (by exact bB2 hW hB); clear hP hQ hX hB; have hP := HP; have hQ := HQ; have hX := HX; have hB := hB'; clear HP HQ HX hB'; clear hW HF2; have HF2 := HF2'; clear HF2'
                  generalize wc = W5 at *
                  generalize (inB tx (-20) 20 && inB ty (-20) 20) = b at *
                  generalize hbc : (decide (r = 0) && !b) = bc at *
                  have HBC := Lib.hid hbc
                  clear hbc
                  go_upto_if 102 with fail
                  go_cut [11] (fun s11 wx => s11 = .int .i64 (seq r (unl b 2)) ∧ Below W5.heap.size W5 wx)
                  case first =>
                    cases bc
                    · go_wp2_with fail
                      go_meet
                      refine ⟨?_, by exact bB0⟩
                      have h := HBC.out
                      unfold seq
                      by_cases h0 : r = 0
                      · rw [if_pos h0, h0]
                        rw [decide_eq_true h0] at h
                        cases b
                        · cases h
                        · rfl
                      · rw [if_neg h0]
                    · go_wp2_with fail
                      go_meet
                      refine ⟨?_, by exact bB0⟩
                      have h := HBC.out
                      unfold seq
                      by_cases h0 : r = 0
                      · rw [if_pos h0]
                        cases b
                        · rfl
                        · rw [decide_eq_true h0] at h; cases h
                      · rw [decide_eq_false h0] at h; cases h
                  case rest =>
                    obtain ⟨rfl, hW⟩ := hcut
                    have HF2' := Lib.hid (HF2.out.below hW); have HP := hP.below hW hP.lt; have HQ := hQ.below hW hQ.lt; have HX := hX.below hW hX.lt; have hB' : Below w.heap.size w wc := (by exact bB2 hW hB); clear hP hQ hX hB; have hP := HP; have hQ := HQ; have hX := HX; have hB := hB'; clear HP HQ HX hB'; clear hW HF2; have HF2 := HF2'; clear HF2'
                    generalize wc = W5 at *
                    generalize hca : seq r (unl b 2) = ca at *
                    have HCA := Lib.hid hca
                    clear hca
                    go_upto_if 104 with fail
                    go_cut [11] (fun s11 wx => s11 = .int .i64 (seq ca fe) ∧ Below W5.heap.size W5 wx)
                    case first =>
                      by_cases h0 : ca = 0
                      · have x1 := beqT h0
                        have H0 := Lib.hid h0
                        clear h0
                        (have c9 := ce9 hP; have c2 := ce2 hQ; have c4 := ce4 hX)
                        go_wp2_with (first | (go_at_call 37; (with_reducible refine (FEc.out _ (by exact bB1 hB)).mono ?_); rintro e w3 ⟨rfl, hb3⟩) | fail)
                        go_meet
                        exact ⟨by rw [seq, if_pos H0.out], by exact bB1 hb3⟩
                      · have x1 := beqF h0
                        have H0 := Lib.hid h0
                        clear h0
                        go_wp2_with fail
                        go_meet
                        exact ⟨by rw [seq, if_neg H0.out], by exact bB0⟩
                    case rest =>
                      clear FEc
                      obtain ⟨rfl, hW⟩ := hcut
                      have HF2' := Lib.hid (HF2.out.below hW); have HP := hP.below hW hP.lt; have HQ := hQ.below hW hQ.lt; have HX := hX.below hW hX.lt; have hB' : Below w.heap.size w wc := (by exact bB2 hW hB); clear hP hQ hX hB; have hP := HP; have hQ := HQ; have hX := HX; have hB := hB'; clear HP HQ HX hB'; clear hW HF2; have HF2 := HF2'; clear HF2'
                      generalize wc = W5 at *
                      generalize hcb : seq ca fe = cb at *
                      have HCB := Lib.hid hcb
                      clear hcb
                      go_upto_if 109 with fail
                      go_cut [12, 13] (fun s12 s13 wx => Sh12 W5 (if cb = 0 then F2 else none) s12 s13 wx)
                      case first =>
                        by_cases h0 : cb = 0
                        · have x1 := beqT h0
                          have RCc := Lib.hid (RCd.out (seq_zero (HCA.out.trans (seq_zero (HCB.out.trans h0)).1)).1)
                          have H0 := Lib.hid h0
                          clear h0
                          (have c9 := ce9 hP; have c2 := ce2 hQ; have c4 := ce4 hX)
                          go_wp2_with (first | (go_at_call 41; (with_reducible refine (RCc.out _ (by exact bB1 hB)).mono ?_); rintro e w3 hE3; obtain ⟨A3, c3, rfl, hv3, hb3⟩ := hE3) | fail)
                          go_meet
                          rw [if_pos H0.out]
                          exact ⟨A3, c3, rfl, rfl, hv3, by exact bB1 hb3⟩
                        · have x1 := beqF h0
                          have H0 := Lib.hid h0
                          clear h0
                          go_wp2_with fail
                          go_meet
                          rw [if_neg H0.out]
                          exact ⟨none, 0, rfl, rfl, fun j u h => by simp at h, by exact bB0⟩
                      case rest =>
                        clear RCd HCA HCB
                        obtain ⟨A3, c3, rfl, rfl, hw1, hW⟩ := hcut
                        have HF2' := Lib.hid (HF2.out.below hW); have HP := hP.below hW hP.lt; have HQ := hQ.below hW hQ.lt; have HX := hX.below hW hX.lt; have hB' : Below w.heap.size w wc := (by exact bB2 hW hB); clear hP hQ hX hB; have hP := HP; have hQ := HQ; have hX := HX; have hB := hB'; clear HP HQ HX hB'; clear hW HF2; have HF2 := HF2'; clear HF2'
                        generalize wc = W5 at *
                        have HW1 := Lib.hid hw1
                        clear hw1
                        generalize (if cb = 0 then F2 else none) = G1 at *
                        have SBc := Lib.hid (fun A D c d W h1 h2 => sameL_c P2 (G1.getD []) A D c d e2 cb G1.isSome W HL2.out h1 h2 HSC.out)
                        clear HSC
                        go_wp2_with (first | (go_at_call 39; (with_reducible refine (SBc.out _ _ _ _ _ (HF2.out.below (by exact bB0)) (HW1.out.below (by exact bB0))).mono ?_); rintro e w3 ⟨rfl, hb3⟩) | fail)
                        go_ret
                        exact ⟨rfl, by exact bB2 hb3 hB⟩

end Go.Proofs.YtpnfgmgoafgcbaaGreat

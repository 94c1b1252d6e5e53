/-
  The law ArmReaches (chapter 6): the walk.
-/
import Derived.Test.YtpnfgmgoafgcbaaGreatCk5
import Derived.Test.YtpnfgmgoafgcbaaGreatG6
import Derived.Test.YtpnfgmgoafgcbaaGreatRCk
import Derived.Test.YtpnfgmgoafgcbaaGreatRRe
import Derived.Test.YtpnfgmgoafgcbaaGreatFrD
import Derived.Test.YtpnfgmgoafgcbaaGreatG1
import Derived.Test.YtpnfgmgoafgcbaaGreatCpyS
import Derived.Test.YtpnfgmgoafgcbaaGreatG4
import Derived.Test.YtpnfgmgoafgcbaaGreatAwake
set_option linter.unusedVariables false
namespace Go.Proofs.YtpnfgmgoafgcbaaGreat
open Go.RowKit
attribute [local go_sem] Oper.semAt_some
def Rc8 (W : World) (R : List PM × Int) (s8 s9 : Value) (wx : World) : Prop :=
  ∃ A c zs, s8 = .slice A zs.length c ∧ s9 = .int .i64 R.2 ∧ zs.map pmR = R.1 ∧ RcW A zs wx ∧ Below W.heap.size W wx
theorem same_true {args : Array Value} {W : World} {xs ys : List Rc} (h : Calls Tryz.prog 54 args W fun e w' => e = .returned (.bool (decide (xs.map pmR = ys.map pmR))) ∧ Below W.heap.size W w') (e : xs.map pmR = ys.map pmR) :
    Calls Tryz.prog 54 args W fun e w' => e = .returned (.bool true) ∧ Below W.heap.size W w' := by
  rw [decide_eq_true e] at h
  exact h
theorem rcCellsV {A : Option Addr} {xs : List Rc} {W : World} {i : Nat} {y : Rc} (h : SlV W A (xs.flatMap rcV)) (hy : xs[i]? = some y) :
    ∃ b off, A = some ⟨b, off, none⟩ ∧ b < W.heap.size ∧ W.cell? ⟨b, off + i * 3, none⟩ = some (.int .i64 y.1.1.1) ∧ W.cell? ⟨b, off + i * 3 + 1, none⟩ = some (.slice y.1.2.1 y.1.1.2.length y.1.2.2) := by
  obtain ⟨b, off, e, hb, hc⟩ := row_cells (enc := rcV) (k := 3) (fun _ => rfl) h (by omega) hy
  have c0 := hc 0 (by omega); have c1 := hc 1 (by omega)
  exact ⟨b, off, e, hb, c0, c1⟩
set_option maxHeartbeats 8000000 in
set_option maxRecDepth 100000 in
theorem armReaches_l (bx bY sl : Int) (L : List Lk) (AL : Option Addr) (cL : Nat) (fx fX fy fY : Int) (B : List Bx) (AB : Option Addr) (cB : Nat) (ps : Int) (Q : List Int) (AQ : Option Addr) (cQ : Nat) (xs : List Rc) (A : Option Addr) (c : Nat) (w : World)
    (hs1 : SlV w AL (L.flatMap lkV)) (hs2 : SlV w AB (B.flatMap bxV)) (_ : L.length ≤ 9223372036854775807) (_ : B.length ≤ 9223372036854775807) (hs3 : SlI w AQ Q) (_ : Q.length ≤ 9223372036854775807) (hs4 : SlV w A (xs.flatMap rcV)) (hxl : xs.length ≤ 9223372036854775807) (hgd : ∀ x ∈ xs, RcGood w x) :
    Calls Tryz.prog 8 #[.agg #[.int .i64 bx, .int .i64 bY, .int .i64 sl, .slice AL L.length cL, .int .i64 fx, .int .i64 fX, .int .i64 fy, .int .i64 fY, .slice AB B.length cB], .agg #[.int .i64 ps, .slice AQ Q.length cQ], .slice A xs.length c] w fun e w' => e = .returned (.bool true) ∧ Below w.heap.size w w' := by
  have AWc := Lib.hid (fun W => awake_c W)
  have FWc := Lib.hid (fun W => few_c bx bY sl fx fX fy fY ps L B Q AL AB AQ cL cB cQ W)
  cases hf : fewP (⟨bx, bY, sl, L, (fx, fX, fy, fY), B⟩ : Sc) (ps, Q)
  · rw [hf] at FWc
    clear hs1 hs2 hs3 hs4 hf hgd
    go_enter Tryz.func8, Tryz.ntmps8
    go_wp2_with (first | (go_at_call 14; (with_reducible refine (AWc.out _).mono ?_); rintro e w1 ⟨rfl, hb1⟩; have hz1 : w.heap.size + 1 < w1.heap.size := (by have := hb1.size; (try simp at this); omega); have y1 : Box w1 w.heap.size 30 #[.int .i64 bx, .int .i64 bY, .int .i64 sl, .slice AL L.length cL, .int .i64 fx, .int .i64 fX, .int .i64 fy, .int .i64 fY, .slice AB B.length cB] := (by exact bX1 hb1); have z1 : Box w1 (w.heap.size + 1) 33 #[.int .i64 ps, .slice AQ Q.length cQ] := (by exact bX1 hb1); have p := ce9 y1; have q := ce2 z1) | (go_at_call 15; (with_reducible refine (FWc.out _).mono ?_); rintro e w2 ⟨rfl, hb2⟩; have hz2 : w1.heap.size ≤ w2.heap.size := (by have := hb2.size; (try simp at this); omega); have y2 : Box w2 w.heap.size 30 #[.int .i64 bx, .int .i64 bY, .int .i64 sl, .slice AL L.length cL, .int .i64 fx, .int .i64 fX, .int .i64 fy, .int .i64 fY, .slice AB B.length cB] := (by exact bX1 hb2); have z2 : Box w2 (w.heap.size + 1) 33 #[.int .i64 ps, .slice AQ Q.length cQ] := (by exact bX1 hb2); have pa := ce9 y2; have qa := ce2 z2) | fail)
    go_ret
    exact ⟨rfl, by exact bB2 hb1 hb2⟩
  obtain ⟨f1, f2, f3⟩ := fewP_true hf
  dsimp only at f1 f2 f3
  rw [hf] at FWc
  have LGc := Lib.hid (fun W (h : Below w.heap.size w W) => light_c bx bY sl fx fX fy fY L B AL AB cL cB W (by omega) (by omega) (hs1.below h) (hs2.below h))
  cases hlg : lightP (⟨bx, bY, sl, L, (fx, fX, fy, fY), B⟩ : Sc)
  · rw [hlg] at LGc
    clear hs1 hs2 hs3 hs4 hf hlg hgd
    go_enter Tryz.func8, Tryz.ntmps8
    go_wp2_with (first | (go_at_call 14; (with_reducible refine (AWc.out _).mono ?_); rintro e w1 ⟨rfl, hb1⟩; have hz1 : w.heap.size + 1 < w1.heap.size := (by have := hb1.size; (try simp at this); omega); have y1 : Box w1 w.heap.size 30 #[.int .i64 bx, .int .i64 bY, .int .i64 sl, .slice AL L.length cL, .int .i64 fx, .int .i64 fX, .int .i64 fy, .int .i64 fY, .slice AB B.length cB] := (by exact bX1 hb1); have z1 : Box w1 (w.heap.size + 1) 33 #[.int .i64 ps, .slice AQ Q.length cQ] := (by exact bX1 hb1); have p := ce9 y1; have q := ce2 z1) | (go_at_call 15; (with_reducible refine (FWc.out _).mono ?_); rintro e w2 ⟨rfl, hb2⟩; have hz2 : w1.heap.size ≤ w2.heap.size := (by have := hb2.size; (try simp at this); omega); have y2 : Box w2 w.heap.size 30 #[.int .i64 bx, .int .i64 bY, .int .i64 sl, .slice AL L.length cL, .int .i64 fx, .int .i64 fX, .int .i64 fy, .int .i64 fY, .slice AB B.length cB] := (by exact bX1 hb2); have z2 : Box w2 (w.heap.size + 1) 33 #[.int .i64 ps, .slice AQ Q.length cQ] := (by exact bX1 hb2); have pa := ce9 y2; have qa := ce2 z2) | (go_at_call 33; (with_reducible refine (LGc.out _ (by exact bB2 hb1 hb2)).mono ?_); rintro e w3 ⟨rfl, hb3⟩; have hz3 : w2.heap.size ≤ w3.heap.size := (by have := hb3.size; (try simp at this); omega)) | fail)
    go_ret
    exact ⟨rfl, by exact bB3 hb1 hb2 hb3⟩
  rw [hlg] at LGc
  by_cases h110 : 110 < xs.length
  · have d1 : decide ((110 : Int) < (xs.length : Int)) = true := decide_eq_true (by omega)
    clear hs1 hs2 hs3 hs4 hf hlg hgd h110
    go_enter Tryz.func8, Tryz.ntmps8
    go_wp2_with (first | (go_at_call 14; (with_reducible refine (AWc.out _).mono ?_); rintro e w1 ⟨rfl, hb1⟩; have hz1 : w.heap.size + 1 < w1.heap.size := (by have := hb1.size; (try simp at this); omega); have y1 : Box w1 w.heap.size 30 #[.int .i64 bx, .int .i64 bY, .int .i64 sl, .slice AL L.length cL, .int .i64 fx, .int .i64 fX, .int .i64 fy, .int .i64 fY, .slice AB B.length cB] := (by exact bX1 hb1); have z1 : Box w1 (w.heap.size + 1) 33 #[.int .i64 ps, .slice AQ Q.length cQ] := (by exact bX1 hb1); have p := ce9 y1; have q := ce2 z1) | (go_at_call 15; (with_reducible refine (FWc.out _).mono ?_); rintro e w2 ⟨rfl, hb2⟩; have hz2 : w1.heap.size ≤ w2.heap.size := (by have := hb2.size; (try simp at this); omega); have y2 : Box w2 w.heap.size 30 #[.int .i64 bx, .int .i64 bY, .int .i64 sl, .slice AL L.length cL, .int .i64 fx, .int .i64 fX, .int .i64 fy, .int .i64 fY, .slice AB B.length cB] := (by exact bX1 hb2); have z2 : Box w2 (w.heap.size + 1) 33 #[.int .i64 ps, .slice AQ Q.length cQ] := (by exact bX1 hb2); have pa := ce9 y2; have qa := ce2 z2) | (go_at_call 33; (with_reducible refine (LGc.out _ (by exact bB2 hb1 hb2)).mono ?_); rintro e w3 ⟨rfl, hb3⟩; have hz3 : w2.heap.size ≤ w3.heap.size := (by have := hb3.size; (try simp at this); omega)) | fail)
    go_ret
    exact ⟨rfl, by exact bB3 hb1 hb2 hb3⟩
  have d1 : decide ((110 : Int) < (xs.length : Int)) = false := decide_eq_false (by omega)
  have CSc := Lib.hid (fun W (h : Below w.heap.size w W) => copyScene_c bx bY sl fx fX fy fY L B AL AB cL cB W (by omega) (by omega) (hs1.below h) (hs2.below h))
  have CQc := Lib.hid (fun W (h : Below w.heap.size w W) => copyPose_c ps Q AQ cQ W (by omega) (hs3.below h))
  have RFc := Lib.hid (fun DL DB DQ dL dB dQ W h1 h2 h3 => reachedFrom_c bx bY sl fx fX fy fY ps L B Q DL DB DQ dL dB dQ W (by omega) (by omega) (by omega) h1 h2 h3)
  have HMM := Lib.hid (fun x (hx : x ∈ xs) => (hgd x hx).2.2)
  have CKd := Lib.hid (fun DL DB DQ DX dL dB dQ dX (zs : List Rc) W (hz : zs.map pmR = xs.map pmR) h1 h2 h3 (h4 : RcW DX zs W) => show Calls Tryz.prog 51 #[.agg #[.int .i64 bx, .int .i64 bY, .int .i64 sl, .slice DL L.length dL, .int .i64 fx, .int .i64 fX, .int .i64 fy, .int .i64 fY, .slice DB B.length dB], .agg #[.int .i64 ps, .slice DQ Q.length dQ], .slice DX zs.length dX] W (fun e w' => e = .returned (.tuple #[.int .i64 (chR (⟨bx, bY, sl, L, (fx, fX, fy, fY), B⟩ : Sc) (ps, Q) (xs.map pmR)).1, .int .i64 (chR (⟨bx, bY, sl, L, (fx, fX, fy, fY), B⟩ : Sc) (ps, Q) (xs.map pmR)).2]) ∧ Below W.heap.size W w') from by
    have h5 := checkReached_c bx bY sl fx fX fy fY ps L B Q DL DB DQ DX dL dB dQ dX zs W (by omega) (by omega) (by omega) h1 h2 h3 h4 (by have := congrArg List.length hz; simp at this; omega) (fun z hz' => by
      have h6 : pmR z ∈ xs.map pmR := by rw [← hz]; exact List.mem_map_of_mem hz'
      obtain ⟨x, hx, e⟩ := List.mem_map.1 h6
      have h7 := HMM.out x hx
      have h8 : x.2 = z.2 := show (pmR x).2 = (pmR z).2 from by rw [e]
      rw [← h8]
      exact h7)
    rw [hz] at h5
    exact h5)
  have RKd := Lib.hid (fun (hx : RcW A xs w) W (h : Below w.heap.size w W) => rCheckReached_c bx bY sl fx fX fy fY ps L B Q AL AB AQ cL cB cQ xs A c W (by omega) (by omega) (by omega) (hs1.below h) (hs2.below h) (hs3.below h) (by omega) (hx.below h) (fun x hx => HMM.out x hx))
  have CRd := Lib.hid (fun (hx : RcW A xs w) W (h : Below w.heap.size w W) => copyReached_c xs A c W (by omega) (hx.below h))
  have FEc := Lib.hid (fun W (h : Below w.heap.size w W) => rFreeErr_c bx bY sl fx fX fy fY ps L B Q AL AB AQ cL cB cQ W (by omega) (by omega) (by omega) (hs1.below h) (hs2.below h) (hs3.below h))
  have RRd := Lib.hid (fun (h0 : frE (⟨bx, bY, sl, L, (fx, fX, fy, fY), B⟩ : Sc) (ps, Q) = 0) W (h : Below w.heap.size w W) => show Calls Tryz.prog 55 #[.agg #[.int .i64 bx, .int .i64 bY, .int .i64 sl, .slice AL L.length cL, .int .i64 fx, .int .i64 fX, .int .i64 fy, .int .i64 fY, .slice AB B.length cB], .agg #[.int .i64 ps, .slice AQ Q.length cQ]] W (RrEnd (rchL (⟨bx, bY, sl, L, (fx, fX, fy, fY), B⟩ : Sc) (ps, Q)) W) from by
    obtain ⟨h1, h2, h3⟩ := frE_ok h0
    have h4 := rReached_c bx bY sl fx fX fy fY ps L B Q AL AB AQ cL cB cQ W h1 h2 (hs1.below h) (hs2.below h) (hs3.below h)
    rw [rr_is h1 h2 h3] at h4
    exact h4)
  have HLN := Lib.hid (rchR_ln (s := (⟨bx, bY, sl, L, (fx, fX, fy, fY), B⟩ : Sc)) (p := (ps, Q)))
  have HLL := Lib.hid (rchR_len (s := (⟨bx, bY, sl, L, (fx, fX, fy, fY), B⟩ : Sc)) (p := (ps, Q)))
  have HR0 := Lib.hid (show frE (⟨bx, bY, sl, L, (fx, fX, fy, fY), B⟩ : Sc) (ps, Q) = 0 → rchR (⟨bx, bY, sl, L, (fx, fX, fy, fY), B⟩ : Sc) (ps, Q) = (rchL (⟨bx, bY, sl, L, (fx, fX, fy, fY), B⟩ : Sc) (ps, Q), 0) from fun h => if_neg (by simp [h]))
  have HR1 := Lib.hid (show frE (⟨bx, bY, sl, L, (fx, fX, fy, fY), B⟩ : Sc) (ps, Q) ≠ 0 → rchR (⟨bx, bY, sl, L, (fx, fX, fy, fY), B⟩ : Sc) (ps, Q) = ([], frE (⟨bx, bY, sl, L, (fx, fX, fy, fY), B⟩ : Sc) (ps, Q)) from fun h => if_pos h)
  have HS4 := Lib.hid hs4
  have HGD := Lib.hid hgd
  have FId := Lib.hid (fun (x1 : Int) (xQ : List Int) AX cX W => few_c bx bY sl fx fX fy fY x1 L B xQ AL AB AX cL cB cX W)
  have HFT := Lib.hid (fun q (h : fewP (⟨bx, bY, sl, L, (fx, fX, fy, fY), B⟩ : Sc) q = true) => show q.2.length ≤ 100000 from by have := (fewP_true h).2.2; omega)
  clear hs1 hs2 hs3 hs4 hf hlg hgd
  generalize chR (⟨bx, bY, sl, L, (fx, fX, fy, fY), B⟩ : Sc) (ps, Q) (xs.map pmR) = CH at *
  generalize frE (⟨bx, bY, sl, L, (fx, fX, fy, fY), B⟩ : Sc) (ps, Q) = fe at *
  generalize rchL (⟨bx, bY, sl, L, (fx, fX, fy, fY), B⟩ : Sc) (ps, Q) = RL at *
  generalize rchR (⟨bx, bY, sl, L, (fx, fX, fy, fY), B⟩ : Sc) (ps, Q) = R1 at *
  go_enter Tryz.func8, Tryz.ntmps8
  go_wp2_with (first | (go_at_call 14; (with_reducible refine (AWc.out _).mono ?_); rintro e w1 ⟨rfl, hb1⟩; have hz1 : w.heap.size + 1 < w1.heap.size := (by have := hb1.size; (try simp at this); omega); have y1 : Box w1 w.heap.size 30 #[.int .i64 bx, .int .i64 bY, .int .i64 sl, .slice AL L.length cL, .int .i64 fx, .int .i64 fX, .int .i64 fy, .int .i64 fY, .slice AB B.length cB] := (by exact bX1 hb1); have z1 : Box w1 (w.heap.size + 1) 33 #[.int .i64 ps, .slice AQ Q.length cQ] := (by exact bX1 hb1); have p := ce9 y1; have q := ce2 z1) | (go_at_call 15; (with_reducible refine (FWc.out _).mono ?_); rintro e w2 ⟨rfl, hb2⟩; have hz2 : w1.heap.size ≤ w2.heap.size := (by have := hb2.size; (try simp at this); omega); have y2 : Box w2 w.heap.size 30 #[.int .i64 bx, .int .i64 bY, .int .i64 sl, .slice AL L.length cL, .int .i64 fx, .int .i64 fX, .int .i64 fy, .int .i64 fY, .slice AB B.length cB] := (by exact bX1 hb2); have z2 : Box w2 (w.heap.size + 1) 33 #[.int .i64 ps, .slice AQ Q.length cQ] := (by exact bX1 hb2); have pa := ce9 y2; have qa := ce2 z2) | (go_at_call 33; (with_reducible refine (LGc.out _ (by exact bB2 hb1 hb2)).mono ?_); rintro e w3 ⟨rfl, hb3⟩; have hz3 : w2.heap.size ≤ w3.heap.size := (by have := hb3.size; (try simp at this); omega)) | fail)
  have hP : Box w3 w.heap.size 30 #[.int .i64 bx, .int .i64 bY, .int .i64 sl, .slice AL L.length cL, .int .i64 fx, .int .i64 fX, .int .i64 fy, .int .i64 fY, .slice AB B.length cB] := by exact bX3 hb1 hb2 hb3
  have hQ : Box w3 (w.heap.size + 1) 33 #[.int .i64 ps, .slice AQ Q.length cQ] := by exact bX3 hb1 hb2 hb3
  have hB : Below w.heap.size w w3 := by exact bB3 hb1 hb2 hb3
  clear y1 z1 p q y2 z2 pa qa hb1 hb2 hb3 hz1 hz2 hz3 AWc FWc LGc
  generalize w3 = W5 at *
  go_loopw [7] (fun j wr => ∃ i : Nat, j = .int .i64 i ∧ i ≤ xs.length ∧ Hid (∀ k x, k < i → xs[k]? = some x → x.1.1.2.length ≤ 100000) ∧ Box wr w.heap.size 30 #[.int .i64 bx, .int .i64 bY, .int .i64 sl, .slice AL L.length cL, .int .i64 fx, .int .i64 fX, .int .i64 fy, .int .i64 fY, .slice AB B.length cB] ∧ Box wr (w.heap.size + 1) 33 #[.int .i64 ps, .slice AQ Q.length cQ] ∧ Below w.heap.size w wr) (fun j _ => xs.length - (intOf j).toNat)
  case atStart => exact ⟨0, rfl, Nat.zero_le _, (fun _ _ h => by omega), hP, hQ, hB⟩
  case round =>
    clear hP hQ hB
    obtain ⟨i, rfl, hi, hfl, hP, hQ, hB⟩ := hrel
    have HFL := Lib.hid hfl.out
    clear hfl
    by_cases hlt : i < xs.length
    · obtain ⟨x, hx⟩ : ∃ x, xs[i]? = some x := ⟨_, List.getElem?_eq_getElem hlt⟩
      obtain ⟨gR, oR, hA, lR, z0, z1⟩ := rcCellsV (HS4.out.below hB) hx
      have HX := Lib.hid hx
      clear hx
      obtain ⟨⟨⟨x1, xQ⟩, ⟨AX, cX⟩⟩, xm⟩ := x
      dsimp only at z0 z1
      subst hA
      have FIc := Lib.hid (fun W => FId.out x1 xQ AX cX W)
      have i0 : 0 ≤ (i : Int) := by omega
      have i1 : (i : Int) < (xs.length : Int) := by omega
      have lP := hP.lt; have lQ := hQ.lt
      cases hfi : fewP (⟨bx, bY, sl, L, (fx, fX, fy, fY), B⟩ : Sc) (x1, xQ)
      · rw [hfi] at FIc
        clear hfi
        go_wp2
        (refine region_open (by kernel_rfl) (fun R hR => ?_); refine heldR (S := (fun w' => Box w' w.heap.size 30 #[.int .i64 bx, .int .i64 bY, .int .i64 sl, .slice AL L.length cL, .int .i64 fx, .int .i64 fX, .int .i64 fy, .int .i64 fY, .slice AB B.length cB] ∧ Below wr.heap.size wr w')) ?_ (fun hHeld => ?_); (focus ((try dsimp only); ((refine ⟨?_, ?_⟩; ((first | exact bX0 | exact bX1 hb4)); ((first | exact bB0 | exact bB1 hb4)))))); have hO := Lib.hid (fun w' (hSw : (fun w' => Box w' w.heap.size 30 #[.int .i64 bx, .int .i64 bY, .int .i64 sl, .slice AL L.length cL, .int .i64 fx, .int .i64 fX, .int .i64 fy, .int .i64 fY, .slice AB B.length cB] ∧ Below wr.heap.size wr w') w') => (by (try dsimp only at hSw); (obtain ⟨hSA, hSB⟩ := hSw; have c9 := ce9 hSA; have hcc := (bcell hSB).1; have sa0 := (hcc _ _ lR).trans z0; have sa1 := (hcc _ _ lR).trans z1); exact And.intro c9 (And.intro sa0 sa1))); refine rgL 0 hO rfl ?_; refine rgN 1 rfl ?_; refine rgN 2 rfl ?_; refine rgN 3 rfl ?_; refine rgN 4 rfl ?_; refine rgL 5 hO rfl ?_; refine rgC 6 rfl (fun K hK => ?_); go_simp; ((go_at_call 15; (with_reducible refine (FIc.out _).mono ?_); rintro e w4 ⟨rfl, hb4⟩)); go_simp; refine hK.out _ _ ?_ (fun hHeld => ?_); (focus ((try dsimp only); ((refine ⟨?_, ?_⟩; ((first | exact bX1 hb4 | exact bX0)); ((first | exact bB1 hb4 | exact bB0)))))); clear hK K; (try simp only [Act.put, pqs]); refine rgN 7 rfl ?_; refine wpAnyH_done (Q := fun e a w => e = Exit.normal ∧ R a w) (by kernel_rfl) ⟨rfl, hR _ _ ?_⟩ _; clear hR R)
        go_wp2
        go_ret
        exact ⟨rfl, by exact bB2 hb4 hB⟩
      · rw [hfi] at FIc
        have hle := HFT.out _ hfi
        have HLE := Lib.hid hle
        clear hfi hle
        go_wp2
        (refine region_open (by kernel_rfl) (fun R hR => ?_); refine heldR (S := (fun w' => Box w' w.heap.size 30 #[.int .i64 bx, .int .i64 bY, .int .i64 sl, .slice AL L.length cL, .int .i64 fx, .int .i64 fX, .int .i64 fy, .int .i64 fY, .slice AB B.length cB] ∧ Below wr.heap.size wr w')) ?_ (fun hHeld => ?_); (focus ((try dsimp only); ((refine ⟨?_, ?_⟩; ((first | exact bX0 | exact bX1 hb4)); ((first | exact bB0 | exact bB1 hb4)))))); have hO := Lib.hid (fun w' (hSw : (fun w' => Box w' w.heap.size 30 #[.int .i64 bx, .int .i64 bY, .int .i64 sl, .slice AL L.length cL, .int .i64 fx, .int .i64 fX, .int .i64 fy, .int .i64 fY, .slice AB B.length cB] ∧ Below wr.heap.size wr w') w') => (by (try dsimp only at hSw); (obtain ⟨hSA, hSB⟩ := hSw; have c9 := ce9 hSA; have hcc := (bcell hSB).1; have sa0 := (hcc _ _ lR).trans z0; have sa1 := (hcc _ _ lR).trans z1); exact And.intro c9 (And.intro sa0 sa1))); refine rgL 0 hO rfl ?_; refine rgN 1 rfl ?_; refine rgN 2 rfl ?_; refine rgN 3 rfl ?_; refine rgN 4 rfl ?_; refine rgL 5 hO rfl ?_; refine rgC 6 rfl (fun K hK => ?_); go_simp; ((go_at_call 15; (with_reducible refine (FIc.out _).mono ?_); rintro e w4 ⟨rfl, hb4⟩)); go_simp; refine hK.out _ _ ?_ (fun hHeld => ?_); (focus ((try dsimp only); ((refine ⟨?_, ?_⟩; ((first | exact bX1 hb4 | exact bX0)); ((first | exact bB1 hb4 | exact bB0)))))); clear hK K; (try simp only [Act.put, pqs]); refine rgN 7 rfl ?_; refine wpAnyH_done (Q := fun e a w => e = Exit.normal ∧ R a w) (by kernel_rfl) ⟨rfl, hR _ _ ?_⟩ _; clear hR R)
        go_wp2
        go_roundw
        case rel =>
          refine ⟨i + 1, by go_num, by omega, ?_, by exact bX1 hb4, by exact bX1 hb4, by exact bB2 hb4 hB⟩
          intro k x hk hx
          rcases Nat.lt_or_ge k i with h1 | h1
          · exact HFL.out k x h1 hx
          · have e : k = i := by omega
            subst e
            rw [HX.out] at hx
            cases hx
            exact HLE.out
        case measure => simp [intOf]; omega
    · have e : i = xs.length := by omega
      subst e
      have hRW : RcW A xs w := ⟨HS4.out, fun x hx => (HGD.out x hx).1, fun x hx => by
        obtain ⟨k, hk, e⟩ := List.getElem_of_mem hx
        exact HFL.out k x hk (by rw [List.getElem?_eq_getElem hk, e])⟩
      have RKc := Lib.hid (RKd.out hRW)
      have CRc := Lib.hid (CRd.out hRW)
      clear RKd CRd hRW HFL HS4 HGD HMM FId HFT
      have lP := hP.lt; have lQ := hQ.lt
      generalize wr = W5 at *
      go_upto_region 10 with fail
      go_cut [8, 9] (fun s8 s9 wx => Rc8 W5 R1 s8 s9 wx)
      case first =>
        (refine region_open (by kernel_rfl) (fun R hR => ?_); refine heldR (S := (fun w' => Box w' w.heap.size 30 #[.int .i64 bx, .int .i64 bY, .int .i64 sl, .slice AL L.length cL, .int .i64 fx, .int .i64 fX, .int .i64 fy, .int .i64 fY, .slice AB B.length cB] ∧ Box w' (w.heap.size + 1) 33 #[.int .i64 ps, .slice AQ Q.length cQ])) ?_ (fun hHeld => ?_); (focus ((try dsimp only); ((refine ⟨?_, ?_⟩ <;> (first | exact bX0 | exact bX1 hb3 | exact bX2 hb3 hb4 | exact bX3 hb3 hb4 hb7))))); have hO := Lib.hid (fun w' (hSw : (fun w' => Box w' w.heap.size 30 #[.int .i64 bx, .int .i64 bY, .int .i64 sl, .slice AL L.length cL, .int .i64 fx, .int .i64 fX, .int .i64 fy, .int .i64 fY, .slice AB B.length cB] ∧ Box w' (w.heap.size + 1) 33 #[.int .i64 ps, .slice AQ Q.length cQ]) w') => (by (try dsimp only at hSw); (obtain ⟨hSA, hSB⟩ := hSw; have c9 := ce9 hSA; have c2 := ce2 hSB); exact And.intro c9 c2)); refine rgL 0 hO rfl ?_; refine rgL 2 hO rfl ?_; refine rgC 1 rfl (fun K hK => ?_); go_simp; ((go_at_call 17; (with_reducible refine (CSc.out _ (by exact bB1 hB)).mono ?_); rintro e w3 hE3; obtain ⟨DL, dL, DB, dB, rfl, hl3, hx3, hb3⟩ := hE3; have hz3 : W5.heap.size ≤ w3.heap.size := (by have := hb3.size; (try simp at this); omega))); go_simp; refine hK.out _ _ ?_ (fun hHeld => ?_); (focus ((try dsimp only); ((refine ⟨?_, ?_⟩ <;> (first | exact bX3 hb3 hb4 hb7 | exact bX2 hb3 hb4 | exact bX1 hb3 | exact bX0))))); clear hK K; (try simp only [Act.put, pqs]); refine rgC 3 rfl (fun K hK => ?_); go_simp; ((go_at_call 18; (with_reducible refine (CQc.out _ (by exact bB2 hb3 hB)).mono ?_); rintro e w4 hE4; obtain ⟨DQ, dQ, rfl, hq4, hb4⟩ := hE4; have hz4 : w3.heap.size ≤ w4.heap.size := (by have := hb4.size; (try simp at this); omega))); go_simp; refine hK.out _ _ ?_ (fun hHeld => ?_); (focus ((try dsimp only); ((refine ⟨?_, ?_⟩ <;> (first | exact bX3 hb3 hb4 hb7 | exact bX2 hb3 hb4 | exact bX1 hb3 | exact bX0))))); clear hK K; (try simp only [Act.put, pqs]); refine rgC 4 rfl (fun K hK => ?_); go_simp; ((go_at_call 50; (with_reducible refine (RFc.out _ _ _ _ _ _ _ (hl3.below (by exact bB1 hb4)) (hx3.below (by exact bB1 hb4)) (hq4.below (by exact bB0))).mono ?_); rintro e w7 hE7; obtain ⟨A7, c7, zs, rfl, hm7, hv7, hq7, hb7⟩ := hE7)); go_simp; refine hK.out _ _ ?_ (fun hHeld => ?_); (focus ((try dsimp only); ((refine ⟨?_, ?_⟩ <;> (first | exact bX3 hb3 hb4 hb7 | exact bX2 hb3 hb4 | exact bX1 hb3 | exact bX0))))); clear hK K; (try simp only [Act.put, pqs]); refine rgN 5 rfl ?_; refine rgN 6 rfl ?_; refine rgN 7 rfl ?_; refine rgN 8 rfl ?_; refine rgN 9 rfl ?_; refine wpAnyH_done (Q := fun e a w => e = Exit.normal ∧ R a w) (by kernel_rfl) ⟨rfl, hR _ _ ?_⟩ _; clear hR R; (go_wp2_with fail; go_meet; refine ⟨A7, c7, zs, rfl, rfl, hm7, ?_, ?_⟩; (focus (exact ⟨hv7, hq7, fun x hx => HLN.out _ (by rw [← hm7]; exact List.mem_map_of_mem hx)⟩)); (focus (exact bB3 hb3 hb4 hb7))))
      case rest =>
        obtain ⟨A8, c8, zs, rfl, rfl, hm8, hw8, hW⟩ := hcut
        have HM8 := Lib.hid hm8
        have HZ := Lib.hid hw8
        have HZL := Lib.hid (show zs.length ≤ 1000 from by have := congrArg List.length hm8; have := HLL.out; simp at *; omega)
        clear hm8 hw8 lP lQ RFc
        have HP := hP.below hW hP.lt; have HQ := hQ.below hW hQ.lt; have hB' : Below w.heap.size w wc := (by exact bB2 hW hB); clear hP hQ hB; have hP := HP; have hQ := HQ; have hB := hB'; clear HP HQ hB'
        clear hW
        generalize wc = W5 at *
        have lP := hP.lt; have lQ := hQ.lt
        go_upto_region 11 with fail
        go_cut [10, 11] (fun s10 s11 wx => s10 = .int .i64 CH.1 ∧ s11 = .int .i64 CH.2 ∧ Below W5.heap.size W5 wx)
        case first =>
          (refine region_open (by kernel_rfl) (fun R hR => ?_); refine heldR (S := (fun w' => Box w' w.heap.size 30 #[.int .i64 bx, .int .i64 bY, .int .i64 sl, .slice AL L.length cL, .int .i64 fx, .int .i64 fX, .int .i64 fy, .int .i64 fY, .slice AB B.length cB] ∧ Box w' (w.heap.size + 1) 33 #[.int .i64 ps, .slice AQ Q.length cQ])) ?_ (fun hHeld => ?_); (focus ((try dsimp only); ((refine ⟨?_, ?_⟩ <;> (first | exact bX0 | exact bX1 hb3 | exact bX2 hb3 hb4 | exact bX3 hb3 hb4 hb6 | exact bX4 hb3 hb4 hb6 hb7))))); have hO := Lib.hid (fun w' (hSw : (fun w' => Box w' w.heap.size 30 #[.int .i64 bx, .int .i64 bY, .int .i64 sl, .slice AL L.length cL, .int .i64 fx, .int .i64 fX, .int .i64 fy, .int .i64 fY, .slice AB B.length cB] ∧ Box w' (w.heap.size + 1) 33 #[.int .i64 ps, .slice AQ Q.length cQ]) w') => (by (try dsimp only at hSw); (obtain ⟨hSA, hSB⟩ := hSw; have c9 := ce9 hSA; have c2 := ce2 hSB); exact And.intro c9 c2)); refine rgL 0 hO rfl ?_; refine rgL 2 hO rfl ?_; refine rgN 4 rfl ?_; refine rgC 1 rfl (fun K hK => ?_); go_simp; ((go_at_call 17; (with_reducible refine (CSc.out _ (by exact bB1 hB)).mono ?_); rintro e w3 hE3; obtain ⟨DL, dL, DB, dB, rfl, hl3, hx3, hb3⟩ := hE3; have hz3 : W5.heap.size ≤ w3.heap.size := (by have := hb3.size; (try simp at this); omega))); go_simp; refine hK.out _ _ ?_ (fun hHeld => ?_); (focus ((try dsimp only); ((refine ⟨?_, ?_⟩ <;> (first | exact bX4 hb3 hb4 hb6 hb7 | exact bX3 hb3 hb4 hb6 | exact bX2 hb3 hb4 | exact bX1 hb3 | exact bX0))))); clear hK K; (try simp only [Act.put, pqs]); refine rgC 3 rfl (fun K hK => ?_); go_simp; ((go_at_call 18; (with_reducible refine (CQc.out _ (by exact bB2 hb3 hB)).mono ?_); rintro e w4 hE4; obtain ⟨DQ, dQ, rfl, hq4, hb4⟩ := hE4; have hz4 : w3.heap.size ≤ w4.heap.size := (by have := hb4.size; (try simp at this); omega))); go_simp; refine hK.out _ _ ?_ (fun hHeld => ?_); (focus ((try dsimp only); ((refine ⟨?_, ?_⟩ <;> (first | exact bX4 hb3 hb4 hb6 hb7 | exact bX3 hb3 hb4 hb6 | exact bX2 hb3 hb4 | exact bX1 hb3 | exact bX0))))); clear hK K; (try simp only [Act.put, pqs]); refine rgC 5 rfl (fun K hK => ?_); go_simp; ((go_at_call 52; (with_reducible refine (CRc.out _ (by exact bB3 hb3 hb4 hB)).mono ?_); rintro e w6 hE6; obtain ⟨DX, dX, zs, rfl, hz6, hr6, hb6⟩ := hE6; have hy6 : w4.heap.size ≤ w6.heap.size := (by have := hb6.size; (try simp at this); omega))); go_simp; refine hK.out _ _ ?_ (fun hHeld => ?_); (focus ((try dsimp only); ((refine ⟨?_, ?_⟩ <;> (first | exact bX4 hb3 hb4 hb6 hb7 | exact bX3 hb3 hb4 hb6 | exact bX2 hb3 hb4 | exact bX1 hb3 | exact bX0))))); clear hK K; (try simp only [Act.put, pqs]); refine rgC 6 rfl (fun K hK => ?_); go_simp; ((go_at_call 51; (with_reducible refine (CKd.out _ _ _ _ _ _ _ _ zs _ hz6 (hl3.below (by exact bB2 hb4 hb6)) (hx3.below (by exact bB2 hb4 hb6)) (hq4.below (by exact bB1 hb6)) (hr6.below (by exact bB0))).mono ?_); rintro e w7 ⟨rfl, hb7⟩)); go_simp; refine hK.out _ _ ?_ (fun hHeld => ?_); (focus ((try dsimp only); ((refine ⟨?_, ?_⟩ <;> (first | exact bX4 hb3 hb4 hb6 hb7 | exact bX3 hb3 hb4 hb6 | exact bX2 hb3 hb4 | exact bX1 hb3 | exact bX0))))); clear hK K; (try simp only [Act.put, pqs]); refine rgN 7 rfl ?_; refine rgN 8 rfl ?_; refine rgN 9 rfl ?_; refine rgN 10 rfl ?_; refine rgN 11 rfl ?_; refine wpAnyH_done (Q := fun e a w => e = Exit.normal ∧ R a w) (by kernel_rfl) ⟨rfl, hR _ _ ?_⟩ _; clear hR R; (go_wp2_with fail; go_meet; refine ⟨rfl, rfl, ?_⟩; exact bB4 hb3 hb4 hb6 hb7))
        case rest =>
          obtain ⟨rfl, rfl, hW⟩ := hcut
          have HZ2 := Lib.hid (HZ.out.below hW)
          clear HZ lP lQ CKd CSc CQc CRc
          have HP := hP.below hW hP.lt; have HQ := hQ.below hW hQ.lt; have hB' : Below w.heap.size w wc := (by exact bB2 hW hB); clear hP hQ hB; have hP := HP; have hQ := HQ; have hB := hB'; clear HP HQ hB'
          clear hW
          have HZ := HZ2
          clear HZ2
          generalize wc = W5 at *
          obtain ⟨C1, C2⟩ := CH
          dsimp only at RKc
          (have c9 := ce9 hP; have c2 := ce2 hQ)
          go_upto_region 15 with (first | (go_at_call 53; (with_reducible refine (RKc.out _ (by exact bB1 hB)).mono ?_); rintro e w3 ⟨rfl, hb3⟩) | fail)
          have HP := hP.below hb3 hP.lt; have HQ := hQ.below hb3 hQ.lt; have hB' : Below w.heap.size w w3 := (by exact bB2 hb3 hB)
          have HZ2 := Lib.hid (HZ.out.below hb3)
          clear hP hQ hB HZ RKc hb3 c9 c2
          have hP := HP; have hQ := HQ; have hB := hB'; have HZ := HZ2
          clear HP HQ hB' HZ2
          generalize w3 = W5 at *
          (have c9 := ce9 hP; have c2 := ce2 hQ)
          by_cases h0 : fe = 0
          · have hr := HR0.out h0
            subst h0
            subst hr
            have HLR := Lib.hid (show RL.length ≤ 1000 from HLL.out)
            have RRc := Lib.hid (RRd.out rfl)
            clear HR0 HR1 RRd HLN HLL
            go_wp2_with (first | (go_at_call 37; (with_reducible refine (FEc.out _ (by exact bB1 hB)).mono ?_); rintro e w3 ⟨rfl, hb3⟩); have HP3 : Box w3 w.heap.size 30 #[.int .i64 bx, .int .i64 bY, .int .i64 sl, .slice AL L.length cL, .int .i64 fx, .int .i64 fX, .int .i64 fy, .int .i64 fY, .slice AB B.length cB] := (by exact bX1 hb3); have HQ3 : Box w3 (w.heap.size + 1) 33 #[.int .i64 ps, .slice AQ Q.length cQ] := (by exact bX1 hb3); have d9 := ce9 HP3; have d2 := ce2 HQ3 | (go_at_call 55; (with_reducible refine (RRc.out _ (by exact bB2 hb3 hB)).mono ?_); rintro e w4 hE4; obtain ⟨A3, c3, us, rfl, hu4, hw4, hb4⟩ := hE4; have hul : us.length ≤ 100000 := (by have := congrArg List.length hu4; have := HLR.out; simp at *; omega)) | (go_at_call 54; (with_reducible refine (same_true (sameReached_c zs us A8 A3 _ _ _ (by have := HZL.out; omega) hul (HZ.out.below (by exact bB2 hb4 hb3)) hw4) (HM8.out.trans hu4.symm)).mono ?_); rintro e w6 ⟨rfl, hb6⟩) | fail)
            go_ret
            exact ⟨rfl, by exact bB4 hb3 hb4 hb6 hB⟩
          · have hr := HR1.out h0
            subst hr
            have x1 := bneT h0
            obtain rfl : zs = [] := by simpa using HM8.out
            clear HR0 HR1 RRd HLN HLL HM8 HZ HZL h0
            go_wp2_with (first | (go_at_call 37; (with_reducible refine (FEc.out _ (by exact bB1 hB)).mono ?_); rintro e w3 ⟨rfl, hb3⟩) | fail)
            go_ret
            exact ⟨rfl, by exact bB2 hb3 hB⟩
end Go.Proofs.YtpnfgmgoafgcbaaGreat

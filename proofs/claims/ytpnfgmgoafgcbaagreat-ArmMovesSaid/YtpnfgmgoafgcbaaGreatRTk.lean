/-
  isTaken, IsFree and FreeErr of the reference (chapter 6).
-/
import Derived.Test.YtpnfgmgoafgcbaaGreatRFr
import Derived.Test.YtpnfgmgoafgcbaaGreatLate
set_option linter.unusedVariables false
namespace Go.Proofs.YtpnfgmgoafgcbaaGreat
open Go.RowKit
attribute [local go_sem] Oper.semAt_some
theorem anyB_drop {B : List Bx} {k : Nat} (f : Bx → Bool) (h : k < B.length) : (B.drop k).any f = (f B[k] || (B.drop (k + 1)).any f) := by rw [List.drop_eq_getElem_cons h]; rfl
set_option maxHeartbeats 4000000 in
set_option maxRecDepth 100000 in
theorem rIsTaken_c (bx bY sl fx fX fy fY a b : Int) (L : List Lk) (B : List Bx) (AL AB : Option Addr) (cL cB : Nat) (w : World) (hB : B.length ≤ 100000) (hs2 : SlV w AB (B.flatMap bxV)) :
    Calls Tryz.prog 136 #[.agg #[.int .i64 bx, .int .i64 bY, .int .i64 sl, .slice AL L.length cL, .int .i64 fx, .int .i64 fX, .int .i64 fy, .int .i64 fY, .slice AB B.length cB], .agg #[.int .i64 a, .int .i64 b]] w fun e w' => e = .returned (.bool (tkC (⟨bx, bY, sl, L, (fx, fX, fy, fY), B⟩ : Sc) (a, b))) ∧ Below w.heap.size w w' := by
  have HE := Lib.hid (show tkC (⟨bx, bY, sl, L, (fx, fX, fy, fY), B⟩ : Sc) (a, b) = (!inBx (fx, fX, fy, fY) (a, b) || B.any fun z => inBx z (a, b)) from rfl)
  have I0c := Lib.hid (fun W => isIn_c fx fX fy fY a b W)
  have HS := Lib.hid hs2
  clear hs2
  generalize tkC (⟨bx, bY, sl, L, (fx, fX, fy, fY), B⟩ : Sc) (a, b) = R at *
  cases g : inBx (fx, fX, fy, fY) (a, b)
  · have HR := Lib.hid (show R = true by rw [HE.out, g]; rfl)
    rw [g] at I0c
    clear HE
    go_enter Tryz.func136, Tryz.ntmps136
    go_wp2_with (first | (go_at_call 77; (with_reducible refine (I0c.out _).mono ?_); rintro e w2 ⟨rfl, hb2⟩) | fail)
    go_ret
    exact ⟨ret_b HR.out.symm, by exact bB1 hb2⟩
  · have HR := Lib.hid (show R = B.any fun z => inBx z (a, b) by rw [HE.out, g]; rfl)
    rw [g] at I0c
    clear HE
    go_enter Tryz.func136, Tryz.ntmps136
    go_wp2_with (first | (go_at_call 77; (with_reducible refine (I0c.out _).mono ?_); rintro e w2 ⟨rfl, hb2⟩) | fail)
    have hz2 := hb2.size
    simp at hz2
    go_loopw [5] (fun i wr => ∃ k : Nat, k ≤ B.length ∧ i = .int .i64 k ∧ Hid (R = (B.drop k).any fun z => inBx z (a, b)) ∧ Box wr w.heap.size 30 #[.int .i64 bx, .int .i64 bY, .int .i64 sl, .slice AL L.length cL, .int .i64 fx, .int .i64 fX, .int .i64 fy, .int .i64 fY, .slice AB B.length cB] ∧ Box wr (w.heap.size + 1) 22 #[.int .i64 a, .int .i64 b] ∧ Below w.heap.size w wr) (fun i _ => B.length - (intOf i).toNat)
    case atStart => exact ⟨0, Nat.zero_le _, rfl, HR.out, by exact bX1 hb2, by exact bX1 hb2, by exact bB1 hb2⟩
    case round =>
      obtain ⟨k, hk, rfl, hf, hH, hC, hBw⟩ := hrel
      clear HR I0c hb2 hz2
      have zz0 := hH.cell 0; have zz1 := hH.cell 1; have zz2 := hH.cell 2; have zz3 := hH.cell 3; have zz4 := hH.cell 4; have zz5 := hH.cell 5; have zz6 := hH.cell 6; have zz7 := hH.cell 7; have zz8 := hH.cell 8
      have q0 := hC.cell 0; have q1 := hC.cell 1
      simp at zz0 zz1 zz2 zz3 zz4 zz5 zz6 zz7 zz8 q0 q1
      have lH := hH.lt; have lC := hC.lt
      by_cases hlt : k < B.length
      · obtain ⟨bB, oB, rfl, hbB, c0, c1, c2, c3⟩ := bx_cells (HS.out.below hBw) (List.getElem?_eq_getElem hlt)
        have D := Lib.hid (anyB_drop (fun z => inBx z (a, b)) hlt)
        generalize B[k] = bb at *
        obtain ⟨x, X, y, Y⟩ := bb
        dsimp only at c0 c1 c2 c3
        have i1 : (k : Int) < (B.length : Int) := by omega
        have FE := Lib.hid (show R = (inBx (x, X, y, Y) (a, b) || (B.drop (k + 1)).any fun z => inBx z (a, b)) from hf.out.trans D.out)
        have I1c := Lib.hid (fun W => isIn_c x X y Y a b W)
        cases g2 : inBx (x, X, y, Y) (a, b)
        · rw [g2] at I1c
          have HR := Lib.hid (show R = (B.drop (k + 1)).any fun z => inBx z (a, b) by rw [FE.out, g2]; rfl)
          clear FE
          go_wp2
          (refine region_open (by kernel_rfl) (fun R hR => ?_); refine heldR (S := (fun w' => Below wr.heap.size wr w')) ?_ (fun hHeld => ?_); (focus ((try dsimp only); (((first | exact bB0 | exact bB1 hb3))))); refine rgN 0 rfl ?_; (try simp only [Act.put, pqs]); refine rgT 1 ?_ rfl (fun w' hSw => ?_) ?_; rotate_left; (focus ((try dsimp only at hSw); (have hcc := (bcell hSw).1; have sa0 := (hcc _ 8 lH).trans zz8; have sa1 := (hcc _ _ hbB).trans c0; have sa2 := (hcc _ _ hbB).trans c1; have sa3 := (hcc _ _ hbB).trans c2; have sa4 := (hcc _ _ hbB).trans c3; have sa5 := (hcc _ 0 lC).trans q0; have sa6 := (hcc _ 1 lC).trans q1); go_simp; (try with_reducible rfl))); (try simp only [Act.put, pqs]); refine rgN 2 rfl ?_; (try simp only [Act.put, pqs]); refine rgN 3 rfl ?_; (try simp only [Act.put, pqs]); refine rgT 4 ?_ rfl (fun w' hSw => ?_) ?_; rotate_left; (focus ((try dsimp only at hSw); (have hcc := (bcell hSw).1; have sa0 := (hcc _ 8 lH).trans zz8; have sa1 := (hcc _ _ hbB).trans c0; have sa2 := (hcc _ _ hbB).trans c1; have sa3 := (hcc _ _ hbB).trans c2; have sa4 := (hcc _ _ hbB).trans c3; have sa5 := (hcc _ 0 lC).trans q0; have sa6 := (hcc _ 1 lC).trans q1); go_simp; (try with_reducible rfl))); (try simp only [Act.put, pqs]); refine rgT 5 ?_ rfl (fun w' hSw => ?_) ?_; rotate_left; (focus ((try dsimp only at hSw); (have hcc := (bcell hSw).1; have sa0 := (hcc _ 8 lH).trans zz8; have sa1 := (hcc _ _ hbB).trans c0; have sa2 := (hcc _ _ hbB).trans c1; have sa3 := (hcc _ _ hbB).trans c2; have sa4 := (hcc _ _ hbB).trans c3; have sa5 := (hcc _ 0 lC).trans q0; have sa6 := (hcc _ 1 lC).trans q1); go_simp; (try with_reducible rfl))); (try simp only [Act.put, pqs]); refine rgC 6 rfl (fun K hK => ?_); go_simp; ((go_at_call 77; (with_reducible refine (I1c.out _).mono ?_); rintro e w3 ⟨rfl, hb3⟩)); go_simp; refine hK.out _ _ ?_ (fun hHeld => ?_); (focus ((try dsimp only); (((first | exact bB1 hb3 | exact bB0))))); clear hK K; (try simp only [Act.put, pqs]); refine wpAnyH_done (Q := fun e a w => e = Exit.normal ∧ R a w) (by kernel_rfl) ⟨rfl, hR _ _ ?_⟩ _; clear hR R)
          go_wp2
          go_roundw
          case rel => exact ⟨k + 1, by omega, by go_num, HR.out, by exact bX1 hb3, by exact bX1 hb3, by exact bB2 hb3 hBw⟩
          case measure => simp [intOf]; omega
        · rw [g2] at I1c
          have HR := Lib.hid (show R = true by rw [FE.out, g2]; rfl)
          clear FE
          go_wp2
          (refine region_open (by kernel_rfl) (fun R hR => ?_); refine heldR (S := (fun w' => Below wr.heap.size wr w')) ?_ (fun hHeld => ?_); (focus ((try dsimp only); (((first | exact bB0 | exact bB1 hb3))))); refine rgN 0 rfl ?_; (try simp only [Act.put, pqs]); refine rgT 1 ?_ rfl (fun w' hSw => ?_) ?_; rotate_left; (focus ((try dsimp only at hSw); (have hcc := (bcell hSw).1; have sa0 := (hcc _ 8 lH).trans zz8; have sa1 := (hcc _ _ hbB).trans c0; have sa2 := (hcc _ _ hbB).trans c1; have sa3 := (hcc _ _ hbB).trans c2; have sa4 := (hcc _ _ hbB).trans c3; have sa5 := (hcc _ 0 lC).trans q0; have sa6 := (hcc _ 1 lC).trans q1); go_simp; (try with_reducible rfl))); (try simp only [Act.put, pqs]); refine rgN 2 rfl ?_; (try simp only [Act.put, pqs]); refine rgN 3 rfl ?_; (try simp only [Act.put, pqs]); refine rgT 4 ?_ rfl (fun w' hSw => ?_) ?_; rotate_left; (focus ((try dsimp only at hSw); (have hcc := (bcell hSw).1; have sa0 := (hcc _ 8 lH).trans zz8; have sa1 := (hcc _ _ hbB).trans c0; have sa2 := (hcc _ _ hbB).trans c1; have sa3 := (hcc _ _ hbB).trans c2; have sa4 := (hcc _ _ hbB).trans c3; have sa5 := (hcc _ 0 lC).trans q0; have sa6 := (hcc _ 1 lC).trans q1); go_simp; (try with_reducible rfl))); (try simp only [Act.put, pqs]); refine rgT 5 ?_ rfl (fun w' hSw => ?_) ?_; rotate_left; (focus ((try dsimp only at hSw); (have hcc := (bcell hSw).1; have sa0 := (hcc _ 8 lH).trans zz8; have sa1 := (hcc _ _ hbB).trans c0; have sa2 := (hcc _ _ hbB).trans c1; have sa3 := (hcc _ _ hbB).trans c2; have sa4 := (hcc _ _ hbB).trans c3; have sa5 := (hcc _ 0 lC).trans q0; have sa6 := (hcc _ 1 lC).trans q1); go_simp; (try with_reducible rfl))); (try simp only [Act.put, pqs]); refine rgC 6 rfl (fun K hK => ?_); go_simp; ((go_at_call 77; (with_reducible refine (I1c.out _).mono ?_); rintro e w3 ⟨rfl, hb3⟩)); go_simp; refine hK.out _ _ ?_ (fun hHeld => ?_); (focus ((try dsimp only); (((first | exact bB1 hb3 | exact bB0))))); clear hK K; (try simp only [Act.put, pqs]); refine wpAnyH_done (Q := fun e a w => e = Exit.normal ∧ R a w) (by kernel_rfl) ⟨rfl, hR _ _ ?_⟩ _; clear hR R)
          go_wp2
          go_ret
          exact ⟨ret_b HR.out.symm, by exact bB2 hb3 hBw⟩
      · have HR := Lib.hid (show R = false by rw [hf.out, List.drop_eq_nil_of_le (by omega)]; rfl)
        go_wp2
        go_ret
        exact ⟨ret_b HR.out.symm, by exact bB1 hBw⟩

theorem allB_drop {l : List Ce} {k : Nat} (f : Ce → Bool) (h : k < l.length) : (l.drop k).all f = (f l[k] && (l.drop (k + 1)).all f) := by rw [List.drop_eq_getElem_cons h]; rfl
set_option maxHeartbeats 4000000 in
set_option maxRecDepth 100000 in
theorem rIsFree_c (bx bY sl fx fX fy fY ps : Int) (L : List Lk) (B : List Bx) (Q : List Int) (AL AB AQ : Option Addr) (cL cB cQ : Nat) (w : World) (hS : SOk (⟨bx, bY, sl, L, (fx, fX, fy, fY), B⟩ : Sc)) (hp : POk (⟨bx, bY, sl, L, (fx, fX, fy, fY), B⟩ : Sc) (ps, Q)) (hs1 : SlV w AL (L.flatMap lkV)) (hs2 : SlV w AB (B.flatMap bxV)) (hs3 : SlI w AQ Q) :
    Calls Tryz.prog 64 #[.agg #[.int .i64 bx, .int .i64 bY, .int .i64 sl, .slice AL L.length cL, .int .i64 fx, .int .i64 fX, .int .i64 fy, .int .i64 fY, .slice AB B.length cB], .agg #[.int .i64 ps, .slice AQ Q.length cQ]] w fun e w' => e = .returned (.bool (freeP (⟨bx, bY, sl, L, (fx, fX, fy, fY), B⟩ : Sc) (ps, Q))) ∧ Below w.heap.size w w' := by
  have hbx := hS.bx; have hbY := hS.bY; have hlen := hS.len; have hlk := hS.lk; have hsl := hp.sl6 hS; have hnB := hS.nB
  have hpl := hp.len
  dsimp only at hbx hbY hlen hlk hsl hnB hpl
  have FRc := Lib.hid (fun W (h : Below w.heap.size w W) => from_c bx bY sl fx fX fy fY ps L B Q AL AB AQ cL cB cQ 0 W hpl hlen.2 (by omega) (by omega) (by omega) (by omega) (fun l h => by have := hlk l h; omega) (hp.rng hS) (fun c hc => by have := jts_small (s := (⟨bx, bY, sl, L, (fx, fX, fy, fY), B⟩ : Sc)) (p := (ps, Q)) hlen.2 (fun l h => by have := hlk l h; omega) (by dsimp only; omega) (by dsimp only; omega) (by dsimp only; omega) c hc; omega) (hs1.below h) (hs3.below h))
  rw [show ((0 : Nat) : Int) = 0 from rfl] at FRc
  have TKd := Lib.hid (fun (a b : Int) W (h : Below w.heap.size w W) => rIsTaken_c bx bY sl fx fX fy fY a b L B AL AB cL cB W (by omega) (hs2.below h))
  have HE := Lib.hid (freeP_ref (s := (⟨bx, bY, sl, L, (fx, fX, fy, fY), B⟩ : Sc)) (p := (ps, Q)) (fun z h => (hlk z h).1) hpl (by dsimp only; omega))
  clear hs1 hs2 hs3 hbx hbY hlen hlk hsl hnB hpl hS hp
  generalize freeP (⟨bx, bY, sl, L, (fx, fX, fy, fY), B⟩ : Sc) (ps, Q) = R at *
  generalize frP (⟨bx, bY, sl, L, (fx, fX, fy, fY), B⟩ : Sc) (ps, Q) 0 = l at *
  generalize htk : tkC (⟨bx, bY, sl, L, (fx, fX, fy, fY), B⟩ : Sc) = tk at *
  clear htk
  go_enter Tryz.func64, Tryz.ntmps64
  go_wp2_with (first | (go_at_call 117; (with_reducible refine (FRc.out _ (by exact bB0)).mono ?_); rintro e w2 hE2; obtain ⟨gJ, capJ, rfl, hoJ, hb2⟩ := hE2) | fail)
  have hvJ := slv_own (k := 2) (by decide) hoJ
  have hlm : l.length ≤ 9223372036854775807 := by have := (own_cap hoJ).1; have := (own_cap hoJ).2; unfold maxLen at *; omega
  have hz2 := hb2.size
  simp at hz2
  go_loopw [6] (fun i wr => ∃ k : Nat, k ≤ l.length ∧ i = .int .i64 k ∧ Hid (R = (l.drop k).all fun c => !tk c) ∧ Box wr w.heap.size 30 #[.int .i64 bx, .int .i64 bY, .int .i64 sl, .slice AL L.length cL, .int .i64 fx, .int .i64 fX, .int .i64 fy, .int .i64 fY, .slice AB B.length cB] ∧ SlV wr (some ⟨gJ, 0, none⟩) (l.flatMap ceV) ∧ Below w.heap.size w wr) (fun i _ => l.length - (intOf i).toNat)
  case atStart => exact ⟨0, Nat.zero_le _, rfl, HE.out, by exact bX1 hb2, hvJ, by exact bB1 hb2⟩
  case round =>
    obtain ⟨k, hk, rfl, hf, hH, hv, hBw⟩ := hrel
    clear HE FRc hb2 hz2 hvJ hoJ
    have zz0 := hH.cell 0; have zz1 := hH.cell 1; have zz2 := hH.cell 2; have zz3 := hH.cell 3; have zz4 := hH.cell 4; have zz5 := hH.cell 5; have zz6 := hH.cell 6; have zz7 := hH.cell 7; have zz8 := hH.cell 8
    simp at zz0 zz1 zz2 zz3 zz4 zz5 zz6 zz7 zz8
    have lH := hH.lt
    by_cases hlt : k < l.length
    · obtain ⟨_, _, e, lJ, c0, c1⟩ := ce_cells hv (List.getElem?_eq_getElem hlt)
      cases e
      have D := Lib.hid (allB_drop (fun c => !tk c) hlt)
      generalize l[k] = cc at *
      obtain ⟨a, b⟩ := cc
      dsimp only at c0 c1
      simp only [Nat.zero_add] at c0 c1
      have i1 : (k : Int) < (l.length : Int) := by omega
      have FE := Lib.hid (show R = (!tk (a, b) && (l.drop (k + 1)).all fun c => !tk c) from hf.out.trans D.out)
      have TKc := Lib.hid (fun W (h : Below w.heap.size w W) => TKd.out a b W h)
      have HV := Lib.hid hv
      clear hf D hv TKd
      cases g2 : tk (a, b)
      · rw [g2] at TKc
        have HR := Lib.hid (show R = (l.drop (k + 1)).all fun c => !tk c by rw [FE.out, g2]; rfl)
        clear FE
        go_wp2
        (refine region_open (by kernel_rfl) (fun R hR => ?_); refine heldR (S := (fun w' => Below wr.heap.size wr w')) ?_ (fun hHeld => ?_); (focus ((try dsimp only); (((first | exact bB0 | exact bB1 hb3))))); refine rgT 0 ?_ rfl (fun w' hSw => ?_) ?_; rotate_left; (focus ((try dsimp only at hSw); (have hcc := (bcell hSw).1; have sa0 := (hcc _ 0 lH).trans zz0; have sa1 := (hcc _ 1 lH).trans zz1; have sa2 := (hcc _ 2 lH).trans zz2; have sa3 := (hcc _ 3 lH).trans zz3; have sa4 := (hcc _ 4 lH).trans zz4; have sa5 := (hcc _ 5 lH).trans zz5; have sa6 := (hcc _ 6 lH).trans zz6; have sa7 := (hcc _ 7 lH).trans zz7; have sa8 := (hcc _ 8 lH).trans zz8; have sb0 := (hcc _ _ lJ).trans c0; have sb1 := (hcc _ _ lJ).trans c1); go_simp; (try with_reducible rfl))); (try simp only [Act.put, pqs]); refine rgN 1 rfl ?_; (try simp only [Act.put, pqs]); refine rgN 2 rfl ?_; (try simp only [Act.put, pqs]); refine rgN 3 rfl ?_; (try simp only [Act.put, pqs]); refine rgT 4 ?_ rfl (fun w' hSw => ?_) ?_; rotate_left; (focus ((try dsimp only at hSw); (have hcc := (bcell hSw).1; have sa0 := (hcc _ 0 lH).trans zz0; have sa1 := (hcc _ 1 lH).trans zz1; have sa2 := (hcc _ 2 lH).trans zz2; have sa3 := (hcc _ 3 lH).trans zz3; have sa4 := (hcc _ 4 lH).trans zz4; have sa5 := (hcc _ 5 lH).trans zz5; have sa6 := (hcc _ 6 lH).trans zz6; have sa7 := (hcc _ 7 lH).trans zz7; have sa8 := (hcc _ 8 lH).trans zz8; have sb0 := (hcc _ _ lJ).trans c0; have sb1 := (hcc _ _ lJ).trans c1); go_simp; (try with_reducible rfl))); (try simp only [Act.put, pqs]); refine rgC 5 rfl (fun K hK => ?_); go_simp; ((go_at_call 136; (with_reducible refine (TKc.out _ ?_).mono ?_); rotate_left; rintro e w3 ⟨rfl, hb3⟩; rotate_left; (focus (exact bB1 hBw)))); go_simp; refine hK.out _ _ ?_ (fun hHeld => ?_); (focus ((try dsimp only); (((first | exact bB1 hb3 | exact bB0))))); clear hK K; (try simp only [Act.put, pqs]); refine wpAnyH_done (Q := fun e a w => e = Exit.normal ∧ R a w) (by kernel_rfl) ⟨rfl, hR _ _ ?_⟩ _; clear hR R)
        go_wp2
        go_roundw
        case rel => exact ⟨k + 1, by omega, by go_num, HR.out, by exact bX1 hb3, HV.out.below (by exact bB1 hb3), by exact bB2 hb3 hBw⟩
        case measure => simp [intOf]; omega
      · rw [g2] at TKc
        have HR := Lib.hid (show R = false by rw [FE.out, g2]; rfl)
        clear FE
        go_wp2
        (refine region_open (by kernel_rfl) (fun R hR => ?_); refine heldR (S := (fun w' => Below wr.heap.size wr w')) ?_ (fun hHeld => ?_); (focus ((try dsimp only); (((first | exact bB0 | exact bB1 hb3))))); refine rgT 0 ?_ rfl (fun w' hSw => ?_) ?_; rotate_left; (focus ((try dsimp only at hSw); (have hcc := (bcell hSw).1; have sa0 := (hcc _ 0 lH).trans zz0; have sa1 := (hcc _ 1 lH).trans zz1; have sa2 := (hcc _ 2 lH).trans zz2; have sa3 := (hcc _ 3 lH).trans zz3; have sa4 := (hcc _ 4 lH).trans zz4; have sa5 := (hcc _ 5 lH).trans zz5; have sa6 := (hcc _ 6 lH).trans zz6; have sa7 := (hcc _ 7 lH).trans zz7; have sa8 := (hcc _ 8 lH).trans zz8; have sb0 := (hcc _ _ lJ).trans c0; have sb1 := (hcc _ _ lJ).trans c1); go_simp; (try with_reducible rfl))); (try simp only [Act.put, pqs]); refine rgN 1 rfl ?_; (try simp only [Act.put, pqs]); refine rgN 2 rfl ?_; (try simp only [Act.put, pqs]); refine rgN 3 rfl ?_; (try simp only [Act.put, pqs]); refine rgT 4 ?_ rfl (fun w' hSw => ?_) ?_; rotate_left; (focus ((try dsimp only at hSw); (have hcc := (bcell hSw).1; have sa0 := (hcc _ 0 lH).trans zz0; have sa1 := (hcc _ 1 lH).trans zz1; have sa2 := (hcc _ 2 lH).trans zz2; have sa3 := (hcc _ 3 lH).trans zz3; have sa4 := (hcc _ 4 lH).trans zz4; have sa5 := (hcc _ 5 lH).trans zz5; have sa6 := (hcc _ 6 lH).trans zz6; have sa7 := (hcc _ 7 lH).trans zz7; have sa8 := (hcc _ 8 lH).trans zz8; have sb0 := (hcc _ _ lJ).trans c0; have sb1 := (hcc _ _ lJ).trans c1); go_simp; (try with_reducible rfl))); (try simp only [Act.put, pqs]); refine rgC 5 rfl (fun K hK => ?_); go_simp; ((go_at_call 136; (with_reducible refine (TKc.out _ ?_).mono ?_); rotate_left; rintro e w3 ⟨rfl, hb3⟩; rotate_left; (focus (exact bB1 hBw)))); go_simp; refine hK.out _ _ ?_ (fun hHeld => ?_); (focus ((try dsimp only); (((first | exact bB1 hb3 | exact bB0))))); clear hK K; (try simp only [Act.put, pqs]); refine wpAnyH_done (Q := fun e a w => e = Exit.normal ∧ R a w) (by kernel_rfl) ⟨rfl, hR _ _ ?_⟩ _; clear hR R)
        go_wp2
        go_ret
        exact ⟨ret_b HR.out.symm, by exact bB2 hb3 hBw⟩
    · have HR := Lib.hid (show R = true by rw [hf.out, List.drop_eq_nil_of_le (by omega)]; rfl)
      go_wp2
      go_ret
      exact ⟨ret_b HR.out.symm, by exact bB1 hBw⟩

set_option maxHeartbeats 4000000 in
theorem rFreeErr_c (bx bY sl fx fX fy fY ps : Int) (L : List Lk) (B : List Bx) (Q : List Int) (AL AB AQ : Option Addr) (cL cB cQ : Nat) (w : World) (hL : L.length ≤ 100000) (hB : B.length ≤ 100000) (hQ : Q.length ≤ 100000) (hs1 : SlV w AL (L.flatMap lkV)) (hs2 : SlV w AB (B.flatMap bxV)) (hs3 : SlI w AQ Q) :
    Calls Tryz.prog 37 #[.agg #[.int .i64 bx, .int .i64 bY, .int .i64 sl, .slice AL L.length cL, .int .i64 fx, .int .i64 fX, .int .i64 fy, .int .i64 fY, .slice AB B.length cB], .agg #[.int .i64 ps, .slice AQ Q.length cQ]] w fun e w' => e = .returned (.int .i64 (frE (⟨bx, bY, sl, L, (fx, fX, fy, fY), B⟩ : Sc) (ps, Q))) ∧ Below w.heap.size w w' := by
  have PEc := Lib.hid (fun W (h : Below w.heap.size w W) => rPoseErr_c bx bY sl fx fX fy fY ps L B Q AL AB AQ cL cB cQ W hL hB hQ (hs1.below h) (hs2.below h) (hs3.below h))
  by_cases h0 : cpE (⟨bx, bY, sl, L, (fx, fX, fy, fY), B⟩ : Sc) (ps, Q) = 0
  · obtain ⟨hS, hp⟩ := cpE_ok h0
    have IFc := Lib.hid (fun W (h : Below w.heap.size w W) => rIsFree_c bx bY sl fx fX fy fY ps L B Q AL AB AQ cL cB cQ W hS hp (hs1.below h) (hs2.below h) (hs3.below h))
    have HE := Lib.hid (show frE (⟨bx, bY, sl, L, (fx, fX, fy, fY), B⟩ : Sc) (ps, Q) = if freeP (⟨bx, bY, sl, L, (fx, fX, fy, fY), B⟩ : Sc) (ps, Q) then 0 else 17 by unfold frE; rw [if_neg (by simp [h0])])
    rw [h0] at PEc
    clear hs1 hs2 hs3 hS hp h0
    generalize frE (⟨bx, bY, sl, L, (fx, fX, fy, fY), B⟩ : Sc) (ps, Q) = R at *
    generalize freeP (⟨bx, bY, sl, L, (fx, fX, fy, fY), B⟩ : Sc) (ps, Q) = f at *
    cases f
    · have HR := Lib.hid (show R = 17 from HE.out)
      clear HE
      go_enter Tryz.func37, Tryz.ntmps37
      go_wp2_with (first | (go_at_call 36; (with_reducible refine (PEc.out _ (by exact bB0)).mono ?_); rintro e w2 ⟨rfl, hb2⟩; have hz2 := hb2.size; (simp at hz2); have y2 : Box w2 w.heap.size 30 #[.int .i64 bx, .int .i64 bY, .int .i64 sl, .slice AL L.length cL, .int .i64 fx, .int .i64 fX, .int .i64 fy, .int .i64 fY, .slice AB B.length cB] := (by exact bX1 hb2); have y3 : Box w2 (w.heap.size + 1) 33 #[.int .i64 ps, .slice AQ Q.length cQ] := (by exact bX1 hb2); have zz0 := y2.cell 0; have zz1 := y2.cell 1; have zz2 := y2.cell 2; have zz3 := y2.cell 3; have zz4 := y2.cell 4; have zz5 := y2.cell 5; have zz6 := y2.cell 6; have zz7 := y2.cell 7; have zz8 := y2.cell 8; have q0 := y3.cell 0; have q1 := y3.cell 1; (simp at zz0 zz1 zz2 zz3 zz4 zz5 zz6 zz7 zz8 q0 q1)) | (go_at_call 64; (with_reducible refine (IFc.out _ (by exact bB1 hb2)).mono ?_); rintro e w3 ⟨rfl, hb3⟩) | fail)
      go_ret
      exact ⟨ret_i HR.out.symm, by exact bB2 hb2 hb3⟩
    · have HR := Lib.hid (show R = 0 from HE.out)
      clear HE
      go_enter Tryz.func37, Tryz.ntmps37
      go_wp2_with (first | (go_at_call 36; (with_reducible refine (PEc.out _ (by exact bB0)).mono ?_); rintro e w2 ⟨rfl, hb2⟩; have hz2 := hb2.size; (simp at hz2); have y2 : Box w2 w.heap.size 30 #[.int .i64 bx, .int .i64 bY, .int .i64 sl, .slice AL L.length cL, .int .i64 fx, .int .i64 fX, .int .i64 fy, .int .i64 fY, .slice AB B.length cB] := (by exact bX1 hb2); have y3 : Box w2 (w.heap.size + 1) 33 #[.int .i64 ps, .slice AQ Q.length cQ] := (by exact bX1 hb2); have zz0 := y2.cell 0; have zz1 := y2.cell 1; have zz2 := y2.cell 2; have zz3 := y2.cell 3; have zz4 := y2.cell 4; have zz5 := y2.cell 5; have zz6 := y2.cell 6; have zz7 := y2.cell 7; have zz8 := y2.cell 8; have q0 := y3.cell 0; have q1 := y3.cell 1; (simp at zz0 zz1 zz2 zz3 zz4 zz5 zz6 zz7 zz8 q0 q1)) | (go_at_call 64; (with_reducible refine (IFc.out _ (by exact bB1 hb2)).mono ?_); rintro e w3 ⟨rfl, hb3⟩) | fail)
      go_ret
      exact ⟨ret_i HR.out.symm, by exact bB2 hb2 hb3⟩
  · have HR := Lib.hid (show frE (⟨bx, bY, sl, L, (fx, fX, fy, fY), B⟩ : Sc) (ps, Q) = cpE (⟨bx, bY, sl, L, (fx, fX, fy, fY), B⟩ : Sc) (ps, Q) by unfold frE; rw [if_pos h0])
    generalize frE (⟨bx, bY, sl, L, (fx, fX, fy, fY), B⟩ : Sc) (ps, Q) = R at *
    generalize cpE (⟨bx, bY, sl, L, (fx, fX, fy, fY), B⟩ : Sc) (ps, Q) = c at *
    have e1 : (c != 0) = true := bneT h0
    clear hs1 hs2 hs3 h0
    go_enter Tryz.func37, Tryz.ntmps37
    go_wp2_with (first | (go_at_call 36; (with_reducible refine (PEc.out _ (by exact bB0)).mono ?_); rintro e w2 ⟨rfl, hb2⟩; have hz2 := hb2.size; (simp at hz2); have y2 : Box w2 w.heap.size 30 #[.int .i64 bx, .int .i64 bY, .int .i64 sl, .slice AL L.length cL, .int .i64 fx, .int .i64 fX, .int .i64 fy, .int .i64 fY, .slice AB B.length cB] := (by exact bX1 hb2); have y3 : Box w2 (w.heap.size + 1) 33 #[.int .i64 ps, .slice AQ Q.length cQ] := (by exact bX1 hb2); have zz0 := y2.cell 0; have zz1 := y2.cell 1; have zz2 := y2.cell 2; have zz3 := y2.cell 3; have zz4 := y2.cell 4; have zz5 := y2.cell 5; have zz6 := y2.cell 6; have zz7 := y2.cell 7; have zz8 := y2.cell 8; have q0 := y3.cell 0; have q1 := y3.cell 1; (simp at zz0 zz1 zz2 zz3 zz4 zz5 zz6 zz7 zz8 q0 q1)) | fail)
    go_ret
    exact ⟨ret_i HR.out.symm, by exact bB1 hb2⟩

end Go.Proofs.YtpnfgmgoafgcbaaGreat

/-
  way and HoldErr of the reference (chapter 6).
-/
import Derived.Test.YtpnfgmgoafgcbaaGreatRBs
set_option linter.unusedVariables false
namespace Go.Proofs.YtpnfgmgoafgcbaaGreat
open Go.RowKit
attribute [local go_sem] Oper.semAt_some
attribute [local go_sem ↓] neq_ce'

theorem tc_size : (Tryz.prog.info? 22).map (·.size) = some 2 := by kernel_rfl
set_option maxHeartbeats 1000000 in
theorem way_at (q a b : Int) (w : World) (h : -1000 ≤ q ∧ q ≤ 1000) (h1 : dirX q = a) (h2 : dirY q = b) :
    Calls Tryz.prog 99 #[.int .i64 q] w fun e w' => e = .returned (.agg #[.int .i64 a, .int .i64 b]) ∧ Below w.heap.size w w' := by
  have h4 : q % 4 = 0 ∨ q % 4 = 1 ∨ q % 4 = 2 ∨ q % 4 = 3 := by omega
  have MC0 := Lib.hid (fun W => mod_c q 4 (by decide) (by omega) (by omega) (by decide) W)
  unfold dirX at h1
  unfold dirY at h2
  rcases h4 with e | e | e | e
  all_goals
    rw [e] at h1 h2
    have MC := MC0
    rw [e] at MC
    simp at h1 h2
    subst h1 h2
    clear MC0 e h
    go_enter Tryz.func99, Tryz.ntmps99
    go_wp2_with (first | (go_at_call 153; (with_reducible refine (MC.out _).mono ?_); rintro e w' ⟨rfl, rfl⟩) | fail)
    refine bodyPost_ret (res_c1 rfl rfl (show Box _ _ 22 #[.int .i64 _, .int .i64 _] from ?hE) Tryz.underlying22 rfl tc_size) rfl ⟨rfl, ?hB⟩
    case hE => exact bX0
    case hB => exact bB0

set_option maxHeartbeats 8000000 in
set_option maxRecDepth 100000 in
theorem rHoldErr_c (C : List Ct) (AC : Option Addr) (cC : Nat) (fn fd l0 l1 l2 : Int) (w : World) (hn : C.length ≤ 1000) (hs : SlV w AC (C.flatMap ctV)) (h1 : -9223372036854775808 ≤ fn ∧ fn ≤ 9223372036854775807) (h2 : -9223372036854775808 ≤ fd ∧ fd ≤ 9223372036854775807) :
    Calls Tryz.prog 27 #[.agg #[.slice AC C.length cC, .int .i64 fn, .int .i64 fd, .int .i64 l0, .int .i64 l1, .int .i64 l2]] w fun e w' => e = .returned (.int .i64 (hdE ⟨C, fn, fd, (l0, l1, l2)⟩)) ∧ Below w.heap.size w w' := by
  have HE := Lib.hid (show hdE ⟨C, fn, fd, (l0, l1, l2)⟩ = fstE [hdE1 C, unl (decide (0 < fd) && (eu fn fd == 1 || eu fn fd == -1)) 3, unl (inB fn 0 10 && decide (fd ≤ 10)) 2, unl (!([l0, l1, l2].any fun x => !inB x (-6) 6)) 2] from rfl)
  have HE1 := Lib.hid (show hdE1 C = if hdE0 C = 0 then (eachE ctE C).2 else hdE0 C from rfl)
  have HE0 := Lib.hid (show hdE0 C = fstE [unl (decide (0 < (C.length : Int))) 10, unl (decide ((C.length : Int) ≤ 3)) 8] from rfl)
  have HS := Lib.hid hs
  clear hs
  generalize hdE ⟨C, fn, fd, (l0, l1, l2)⟩ = R at *
  by_cases hz : C.length = 0
  · have e1 : ((C.length : Int) == 0) = true := beqT (by omega)
    have HR := Lib.hid (show R = 10 by
      have h0 : hdE0 C = 10 := by rw [HE0.out, decide_eq_false (by omega)]; rfl
      have h1 : hdE1 C = 10 := by rw [HE1.out, h0]; rfl
      rw [HE.out, h1]; rfl)
    clear HE HE1 HE0 hz
    go_enter Tryz.func27, Tryz.ntmps27
    go_wp2_with fail
    go_ret
    exact ⟨ret_i HR.out.symm, by exact bB0⟩
  · have e1 : ((C.length : Int) == 0) = false := beqF (by omega)
    by_cases hg : 3 < C.length
    · have e2 : decide (3 < (C.length : Int)) = true := decide_eq_true (by omega)
      have HR := Lib.hid (show R = 8 by
        have h0 : hdE0 C = 8 := by rw [HE0.out, decide_eq_true (by omega), decide_eq_false (by omega)]; rfl
        have h1 : hdE1 C = 8 := by rw [HE1.out, h0]; rfl
        rw [HE.out, h1]; rfl)
      clear HE HE1 HE0 hz hg
      go_enter Tryz.func27, Tryz.ntmps27
      go_wp2_with fail
      go_ret
      exact ⟨ret_i HR.out.symm, by exact bB0⟩
    · have e2 : decide (3 < (C.length : Int)) = false := decide_eq_false (by omega)
      have HE2 := Lib.hid (show R = fstE [(eachE ctE C).2, unl (decide (0 < fd) && (eu fn fd == 1 || eu fn fd == -1)) 3, unl (inB fn 0 10 && decide (fd ≤ 10)) 2, unl (!([l0, l1, l2].any fun x => !inB x (-6) 6)) 2] by
        have h0 : hdE0 C = 0 := by rw [HE0.out, decide_eq_true (by omega), decide_eq_true (by omega)]; rfl
        rw [HE.out, HE1.out, if_pos h0])
      have LWc := Lib.hid (fun W => isLowest_c fn fd W h1 h2)
      have W0c := Lib.hid (fun W => way_at 0 1 0 W (by decide) (by decide) (by decide))
      have W1c := Lib.hid (fun W => way_at 1 0 1 W (by decide) (by decide) (by decide))
      have W2c := Lib.hid (fun W => way_at 2 (-1) 0 W (by decide) (by decide) (by decide))
      have W3c := Lib.hid (fun W => way_at 3 0 (-1) W (by decide) (by decide) (by decide))
      clear HE HE1 HE0 hz
      generalize (decide (0 < fd) && (eu fn fd == 1 || eu fn fd == -1)) = lb at *
      go_enter Tryz.func27, Tryz.ntmps27
      go_wp2_with fail
      go_loopw [3] (fun i wr => ∃ k : Nat, k ≤ C.length ∧ i = .int .i64 k ∧ Hid ((eachE ctE C).2 = (eachF ctE k (C.drop k)).2) ∧ Box wr w.heap.size 53 #[.slice AC C.length cC, .int .i64 fn, .int .i64 fd, .int .i64 l0, .int .i64 l1, .int .i64 l2] ∧ Below w.heap.size w wr) (fun i _ => C.length - (intOf i).toNat)
      case atStart => exact ⟨0, Nat.zero_le _, rfl, rfl, by exact bX0, by exact bB0⟩
      case round =>
        obtain ⟨k, hk, rfl, hf, hH, hB⟩ := hrel
        have zz0 := hH.cell 0; have zz1 := hH.cell 1; have zz2 := hH.cell 2; have zz3 := hH.cell 3; have zz4 := hH.cell 4; have zz5 := hH.cell 5
        have lH := hH.lt
        simp at zz0 zz1 zz2 zz3 zz4 zz5
        by_cases hlt : k < C.length
        · obtain ⟨bC, oC, rfl, hbC, c0, c1, c2, c3, c4⟩ := ct_cells (HS.out.below hB) (List.getElem?_eq_getElem hlt)
          have D2 := Lib.hid (List.drop_eq_getElem_cons hlt)
          generalize C[k] = ct at *
          obtain ⟨⟨px, py⟩, ⟨nx, ny⟩, m⟩ := ct
          dsimp only at c0 c1 c2 c3 c4
          have i1 : (k : Int) < (C.length : Int) := by omega
          have FE := Lib.hid (show (eachE ctE C).2 = if ctE ((px, py), (nx, ny), m) = 0 then (eachF ctE (k + 1) (C.drop (k + 1))).2 else ctE ((px, py), (nx, ny), m) by
            rw [hf.out, D2.out, eachF]
            by_cases h : ctE ((px, py), (nx, ny), m) = 0
            · rw [if_pos h, if_pos h]
            · rw [if_neg h, if_neg h])
          have CE := Lib.hid (show ctE ((px, py), (nx, ny), m) = fstE [unl (inB px (-5) 5 && inB py (-5) 5 && inB m 0 6) 2, unl (sameC nx ny 1 0 || sameC nx ny (-1) 0 || sameC nx ny 0 1 || sameC nx ny 0 (-1)) 3] from rfl)
          have hc : (inB px (-5) 5 = false) ∨ (inB px (-5) 5 = true ∧ inB py (-5) 5 = false) ∨ (inB px (-5) 5 = true ∧ inB py (-5) 5 = true ∧ inB m 0 6 = false) ∨ (inB px (-5) 5 = true ∧ inB py (-5) 5 = true ∧ inB m 0 6 = true) := by
            cases inB px (-5) 5 <;> cases inB py (-5) 5 <;> cases inB m 0 6 <;> simp
          rcases hc with g1 | ⟨g1, g2⟩ | ⟨g1, g2, g3⟩ | ⟨g1, g2, g3⟩
          · have HR3 := Lib.hid (show R = 2 by
              have h0 : ctE ((px, py), (nx, ny), m) = 2 := by rw [CE.out, g1]; rfl
              rw [HE2.out, FE.out, if_neg (by rw [h0]; decide), h0]; rfl)
            clear FE CE
            go_wp2_with (first | (go_at_call 40; (with_reducible refine (within_b _ _ _ _).mono ?_); rintro e w' ⟨rfl, rfl⟩) | fail); go_ret; exact ⟨ret_i (by rw [HR3.out]), by exact bB1 hB⟩
          · have HR3 := Lib.hid (show R = 2 by
              have h0 : ctE ((px, py), (nx, ny), m) = 2 := by rw [CE.out, g1, g2]; rfl
              rw [HE2.out, FE.out, if_neg (by rw [h0]; decide), h0]; rfl)
            clear FE CE
            go_wp2_with (first | (go_at_call 40; (with_reducible refine (within_b _ _ _ _).mono ?_); rintro e w' ⟨rfl, rfl⟩) | fail); go_ret; exact ⟨ret_i (by rw [HR3.out]), by exact bB1 hB⟩
          · have HR3 := Lib.hid (show R = 2 by
              have h0 : ctE ((px, py), (nx, ny), m) = 2 := by rw [CE.out, g1, g2, g3]; rfl
              rw [HE2.out, FE.out, if_neg (by rw [h0]; decide), h0]; rfl)
            clear FE CE
            go_wp2_with (first | (go_at_call 40; (with_reducible refine (within_b _ _ _ _).mono ?_); rintro e w' ⟨rfl, rfl⟩) | fail); go_ret; exact ⟨ret_i (by rw [HR3.out]), by exact bB1 hB⟩
          · have CE2 := Lib.hid (show ctE ((px, py), (nx, ny), m) = fstE [0, unl (sameC nx ny 1 0 || sameC nx ny (-1) 0 || sameC nx ny 0 1 || sameC nx ny 0 (-1)) 3] by rw [CE.out, g1, g2, g3]; rfl)
            have hu : (sameC nx ny 1 0 = true) ∨ (sameC nx ny 1 0 = false ∧ sameC nx ny 0 1 = true) ∨ (sameC nx ny 1 0 = false ∧ sameC nx ny 0 1 = false ∧ sameC nx ny (-1) 0 = true) ∨ (sameC nx ny 1 0 = false ∧ sameC nx ny 0 1 = false ∧ sameC nx ny (-1) 0 = false ∧ sameC nx ny 0 (-1) = true) ∨ (sameC nx ny 1 0 = false ∧ sameC nx ny 0 1 = false ∧ sameC nx ny (-1) 0 = false ∧ sameC nx ny 0 (-1) = false) := by
              cases sameC nx ny 1 0 <;> cases sameC nx ny 0 1 <;> cases sameC nx ny (-1) 0 <;> cases sameC nx ny 0 (-1) <;> simp
            clear CE
            rcases hu with v1 | ⟨v1, v2⟩ | ⟨v1, v2, v3⟩ | ⟨v1, v2, v3, v4⟩ | ⟨v1, v2, v3, v4⟩
            · have HR3 := Lib.hid (show (eachE ctE C).2 = (eachF ctE (k + 1) (C.drop (k + 1))).2 by rw [FE.out, if_pos (by rw [CE2.out, v1]; rfl)])
              clear FE CE2
              as_aux_lemma =>
                go_upto_region 11 with (first | (go_at_call 40; (with_reducible refine (within_b _ _ _ _).mono ?_); rintro e w' ⟨rfl, rfl⟩) | fail); (refine region_open (by kernel_rfl) (fun R hR => ?_); refine heldR (S := (fun w' => Box w' wr.heap.size 69 #[.int .i64 px, .int .i64 py, .int .i64 nx, .int .i64 ny, .int .i64 m])) ?_ (fun hHeld => ?_); (focus ((try dsimp only); (((first | exact bX0 | exact bX1 hb6 | exact bX1 hb3 | exact bX2 hb5 hb6 | exact bX2 hb3 hb4 | exact bX3 hb4 hb5 hb6 | exact bX3 hb3 hb4 hb5 | exact bX4 hb3 hb4 hb5 hb6))))); refine rgN 0 rfl ?_; (try simp only [Act.put, pqs]); refine rgT 1 ?_ rfl (fun w' hSw => ?_) ?_; rotate_left; (focus ((try dsimp only at hSw); (have sa0 := hSw.cell 0; have sa1 := hSw.cell 1; have sa2 := hSw.cell 2; have sa3 := hSw.cell 3; have sa4 := hSw.cell 4; (simp at sa0 sa1 sa2 sa3 sa4)); go_simp; (try with_reducible rfl))); (try simp only [Act.put, pqs]); refine rgC 2 rfl (fun K hK => ?_); go_simp; ((go_at_call 99; (with_reducible refine (W0c.out _).mono ?_); rintro e w3 ⟨rfl, hb3⟩; have hz3 : wr.heap.size + 1 ≤ w3.heap.size := (by have := hb3.size; (try simp at this); omega))); go_simp; refine hK.out _ _ ?_ (fun hHeld => ?_); (focus ((try dsimp only); (((first | exact bX4 hb3 hb4 hb5 hb6 | exact bX3 hb3 hb4 hb5 | exact bX3 hb4 hb5 hb6 | exact bX2 hb3 hb4 | exact bX2 hb5 hb6 | exact bX1 hb3 | exact bX1 hb6 | exact bX0))))); clear hK K; (try simp only [Act.put, pqs]); refine rgN 3 rfl ?_; (try simp only [Act.put, pqs]); refine rgN 4 rfl ?_; (try simp only [Act.put, pqs]); refine tsH (i := 5) rfl (by assumption) ?_; (try simp only [Act.put, pqs]); refine tsH (i := 6) rfl (by assumption) ?_; (try simp only [Act.put, pqs]); refine tsH (i := 7) rfl (by assumption) ?_; (try simp only [Act.put, pqs]); refine tsH (i := 8) rfl (by assumption) ?_; (try simp only [Act.put, pqs]); refine rgN 9 rfl ?_; (try simp only [Act.put, pqs]); refine rgN 10 rfl ?_; (try simp only [Act.put, pqs]); refine tsH (i := 11) rfl (by assumption) ?_; (try simp only [Act.put, pqs]); refine tsH (i := 12) rfl (by assumption) ?_; (try simp only [Act.put, pqs]); refine tsH (i := 13) rfl (by assumption) ?_; (try simp only [Act.put, pqs]); refine tsH (i := 14) rfl (by assumption) ?_; (try simp only [Act.put, pqs]); refine rgN 15 rfl ?_; (try simp only [Act.put, pqs]); refine rgN 16 rfl ?_; (try simp only [Act.put, pqs]); refine tsH (i := 17) rfl (by assumption) ?_; (try simp only [Act.put, pqs]); refine tsH (i := 18) rfl (by assumption) ?_; (try simp only [Act.put, pqs]); refine tsH (i := 19) rfl (by assumption) ?_; (try simp only [Act.put, pqs]); refine tsH (i := 20) rfl (by assumption) ?_; (try simp only [Act.put, pqs]); refine rgN 21 rfl ?_; (try simp only [Act.put, pqs]); refine wpAnyH_done (Q := fun e a w => e = Exit.normal ∧ R a w) (by kernel_rfl) ⟨rfl, hR _ _ ?_⟩ _; clear hR R)
                go_wp2
                go_roundw
                case rel => exact ⟨k + 1, by omega, by go_num, HR3.out, by exact bX1 hb3, by exact bB2 hb3 hB⟩
                case measure => simp [intOf]; omega
            · have HR3 := Lib.hid (show (eachE ctE C).2 = (eachF ctE (k + 1) (C.drop (k + 1))).2 by rw [FE.out, if_pos (by rw [CE2.out, v2]; simp [unl, fstE])])
              clear FE CE2
              as_aux_lemma =>
                go_upto_region 11 with (first | (go_at_call 40; (with_reducible refine (within_b _ _ _ _).mono ?_); rintro e w' ⟨rfl, rfl⟩) | fail); (refine region_open (by kernel_rfl) (fun R hR => ?_); refine heldR (S := (fun w' => Box w' wr.heap.size 69 #[.int .i64 px, .int .i64 py, .int .i64 nx, .int .i64 ny, .int .i64 m])) ?_ (fun hHeld => ?_); (focus ((try dsimp only); (((first | exact bX0 | exact bX1 hb6 | exact bX1 hb3 | exact bX2 hb5 hb6 | exact bX2 hb3 hb4 | exact bX3 hb4 hb5 hb6 | exact bX3 hb3 hb4 hb5 | exact bX4 hb3 hb4 hb5 hb6))))); refine rgN 0 rfl ?_; (try simp only [Act.put, pqs]); refine rgT 1 ?_ rfl (fun w' hSw => ?_) ?_; rotate_left; (focus ((try dsimp only at hSw); (have sa0 := hSw.cell 0; have sa1 := hSw.cell 1; have sa2 := hSw.cell 2; have sa3 := hSw.cell 3; have sa4 := hSw.cell 4; (simp at sa0 sa1 sa2 sa3 sa4)); go_simp; (try with_reducible rfl))); (try simp only [Act.put, pqs]); refine rgC 2 rfl (fun K hK => ?_); go_simp; ((go_at_call 99; (with_reducible refine (W0c.out _).mono ?_); rintro e w3 ⟨rfl, hb3⟩; have hz3 : wr.heap.size + 1 ≤ w3.heap.size := (by have := hb3.size; (try simp at this); omega))); go_simp; refine hK.out _ _ ?_ (fun hHeld => ?_); (focus ((try dsimp only); (((first | exact bX4 hb3 hb4 hb5 hb6 | exact bX3 hb3 hb4 hb5 | exact bX3 hb4 hb5 hb6 | exact bX2 hb3 hb4 | exact bX2 hb5 hb6 | exact bX1 hb3 | exact bX1 hb6 | exact bX0))))); clear hK K; (try simp only [Act.put, pqs]); refine rgN 3 rfl ?_; (try simp only [Act.put, pqs]); refine rgN 4 rfl ?_; (try simp only [Act.put, pqs]); refine rgN 5 rfl ?_; (try simp only [Act.put, pqs]); refine rgT 6 ?_ rfl (fun w' hSw => ?_) ?_; rotate_left; (focus ((try dsimp only at hSw); (have sa0 := hSw.cell 0; have sa1 := hSw.cell 1; have sa2 := hSw.cell 2; have sa3 := hSw.cell 3; have sa4 := hSw.cell 4; (simp at sa0 sa1 sa2 sa3 sa4)); go_simp; (try with_reducible rfl))); (try simp only [Act.put, pqs]); refine rgC 7 rfl (fun K hK => ?_); go_simp; ((go_at_call 99; (with_reducible refine (W1c.out _).mono ?_); rintro e w4 ⟨rfl, hb4⟩; have hz4 : w3.heap.size ≤ w4.heap.size := (by have := hb4.size; (try simp at this); omega))); go_simp; refine hK.out _ _ ?_ (fun hHeld => ?_); (focus ((try dsimp only); (((first | exact bX4 hb3 hb4 hb5 hb6 | exact bX3 hb3 hb4 hb5 | exact bX3 hb4 hb5 hb6 | exact bX2 hb3 hb4 | exact bX2 hb5 hb6 | exact bX1 hb3 | exact bX1 hb6 | exact bX0))))); clear hK K; (try simp only [Act.put, pqs]); refine rgN 8 rfl ?_; (try simp only [Act.put, pqs]); refine rgN 9 rfl ?_; (try simp only [Act.put, pqs]); refine rgN 10 rfl ?_; (try simp only [Act.put, pqs]); refine tsH (i := 11) rfl (by assumption) ?_; (try simp only [Act.put, pqs]); refine tsH (i := 12) rfl (by assumption) ?_; (try simp only [Act.put, pqs]); refine tsH (i := 13) rfl (by assumption) ?_; (try simp only [Act.put, pqs]); refine tsH (i := 14) rfl (by assumption) ?_; (try simp only [Act.put, pqs]); refine rgN 15 rfl ?_; (try simp only [Act.put, pqs]); refine rgN 16 rfl ?_; (try simp only [Act.put, pqs]); refine tsH (i := 17) rfl (by assumption) ?_; (try simp only [Act.put, pqs]); refine tsH (i := 18) rfl (by assumption) ?_; (try simp only [Act.put, pqs]); refine tsH (i := 19) rfl (by assumption) ?_; (try simp only [Act.put, pqs]); refine tsH (i := 20) rfl (by assumption) ?_; (try simp only [Act.put, pqs]); refine rgN 21 rfl ?_; (try simp only [Act.put, pqs]); refine wpAnyH_done (Q := fun e a w => e = Exit.normal ∧ R a w) (by kernel_rfl) ⟨rfl, hR _ _ ?_⟩ _; clear hR R)
                go_wp2
                go_roundw
                case rel => exact ⟨k + 1, by omega, by go_num, HR3.out, by exact bX2 hb3 hb4, by exact bB3 hb3 hb4 hB⟩
                case measure => simp [intOf]; omega
            · have HR3 := Lib.hid (show (eachE ctE C).2 = (eachF ctE (k + 1) (C.drop (k + 1))).2 by rw [FE.out, if_pos (by rw [CE2.out, v3]; simp [unl, fstE])])
              clear FE CE2
              as_aux_lemma =>
                go_upto_region 11 with (first | (go_at_call 40; (with_reducible refine (within_b _ _ _ _).mono ?_); rintro e w' ⟨rfl, rfl⟩) | fail); (refine region_open (by kernel_rfl) (fun R hR => ?_); refine heldR (S := (fun w' => Box w' wr.heap.size 69 #[.int .i64 px, .int .i64 py, .int .i64 nx, .int .i64 ny, .int .i64 m])) ?_ (fun hHeld => ?_); (focus ((try dsimp only); (((first | exact bX0 | exact bX1 hb6 | exact bX1 hb3 | exact bX2 hb5 hb6 | exact bX2 hb3 hb4 | exact bX3 hb4 hb5 hb6 | exact bX3 hb3 hb4 hb5 | exact bX4 hb3 hb4 hb5 hb6))))); refine rgN 0 rfl ?_; (try simp only [Act.put, pqs]); refine rgT 1 ?_ rfl (fun w' hSw => ?_) ?_; rotate_left; (focus ((try dsimp only at hSw); (have sa0 := hSw.cell 0; have sa1 := hSw.cell 1; have sa2 := hSw.cell 2; have sa3 := hSw.cell 3; have sa4 := hSw.cell 4; (simp at sa0 sa1 sa2 sa3 sa4)); go_simp; (try with_reducible rfl))); (try simp only [Act.put, pqs]); refine rgC 2 rfl (fun K hK => ?_); go_simp; ((go_at_call 99; (with_reducible refine (W0c.out _).mono ?_); rintro e w3 ⟨rfl, hb3⟩; have hz3 : wr.heap.size + 1 ≤ w3.heap.size := (by have := hb3.size; (try simp at this); omega))); go_simp; refine hK.out _ _ ?_ (fun hHeld => ?_); (focus ((try dsimp only); (((first | exact bX4 hb3 hb4 hb5 hb6 | exact bX3 hb3 hb4 hb5 | exact bX3 hb4 hb5 hb6 | exact bX2 hb3 hb4 | exact bX2 hb5 hb6 | exact bX1 hb3 | exact bX1 hb6 | exact bX0))))); clear hK K; (try simp only [Act.put, pqs]); refine rgN 3 rfl ?_; (try simp only [Act.put, pqs]); refine rgN 4 rfl ?_; (try simp only [Act.put, pqs]); refine rgN 5 rfl ?_; (try simp only [Act.put, pqs]); refine rgT 6 ?_ rfl (fun w' hSw => ?_) ?_; rotate_left; (focus ((try dsimp only at hSw); (have sa0 := hSw.cell 0; have sa1 := hSw.cell 1; have sa2 := hSw.cell 2; have sa3 := hSw.cell 3; have sa4 := hSw.cell 4; (simp at sa0 sa1 sa2 sa3 sa4)); go_simp; (try with_reducible rfl))); (try simp only [Act.put, pqs]); refine rgC 7 rfl (fun K hK => ?_); go_simp; ((go_at_call 99; (with_reducible refine (W1c.out _).mono ?_); rintro e w4 ⟨rfl, hb4⟩; have hz4 : w3.heap.size ≤ w4.heap.size := (by have := hb4.size; (try simp at this); omega))); go_simp; refine hK.out _ _ ?_ (fun hHeld => ?_); (focus ((try dsimp only); (((first | exact bX4 hb3 hb4 hb5 hb6 | exact bX3 hb3 hb4 hb5 | exact bX3 hb4 hb5 hb6 | exact bX2 hb3 hb4 | exact bX2 hb5 hb6 | exact bX1 hb3 | exact bX1 hb6 | exact bX0))))); clear hK K; (try simp only [Act.put, pqs]); refine rgN 8 rfl ?_; (try simp only [Act.put, pqs]); refine rgN 9 rfl ?_; (try simp only [Act.put, pqs]); refine rgN 10 rfl ?_; (try simp only [Act.put, pqs]); refine rgN 11 rfl ?_; (try simp only [Act.put, pqs]); refine rgT 12 ?_ rfl (fun w' hSw => ?_) ?_; rotate_left; (focus ((try dsimp only at hSw); (have sa0 := hSw.cell 0; have sa1 := hSw.cell 1; have sa2 := hSw.cell 2; have sa3 := hSw.cell 3; have sa4 := hSw.cell 4; (simp at sa0 sa1 sa2 sa3 sa4)); go_simp; (try with_reducible rfl))); (try simp only [Act.put, pqs]); refine rgC 13 rfl (fun K hK => ?_); go_simp; ((go_at_call 99; (with_reducible refine (W2c.out _).mono ?_); rintro e w5 ⟨rfl, hb5⟩; have hz5 : w4.heap.size ≤ w5.heap.size := (by have := hb5.size; (try simp at this); omega))); go_simp; refine hK.out _ _ ?_ (fun hHeld => ?_); (focus ((try dsimp only); (((first | exact bX4 hb3 hb4 hb5 hb6 | exact bX3 hb3 hb4 hb5 | exact bX3 hb4 hb5 hb6 | exact bX2 hb3 hb4 | exact bX2 hb5 hb6 | exact bX1 hb3 | exact bX1 hb6 | exact bX0))))); clear hK K; (try simp only [Act.put, pqs]); refine rgN 14 rfl ?_; (try simp only [Act.put, pqs]); refine rgN 15 rfl ?_; (try simp only [Act.put, pqs]); refine rgN 16 rfl ?_; (try simp only [Act.put, pqs]); refine tsH (i := 17) rfl (by assumption) ?_; (try simp only [Act.put, pqs]); refine tsH (i := 18) rfl (by assumption) ?_; (try simp only [Act.put, pqs]); refine tsH (i := 19) rfl (by assumption) ?_; (try simp only [Act.put, pqs]); refine tsH (i := 20) rfl (by assumption) ?_; (try simp only [Act.put, pqs]); refine rgN 21 rfl ?_; (try simp only [Act.put, pqs]); refine wpAnyH_done (Q := fun e a w => e = Exit.normal ∧ R a w) (by kernel_rfl) ⟨rfl, hR _ _ ?_⟩ _; clear hR R)
                go_wp2
                go_roundw
                case rel => exact ⟨k + 1, by omega, by go_num, HR3.out, by exact bX3 hb3 hb4 hb5, by exact bB4 hb3 hb4 hb5 hB⟩
                case measure => simp [intOf]; omega
            · have HR3 := Lib.hid (show (eachE ctE C).2 = (eachF ctE (k + 1) (C.drop (k + 1))).2 by rw [FE.out, if_pos (by rw [CE2.out, v4]; simp [unl, fstE])])
              clear FE CE2
              as_aux_lemma =>
                go_upto_region 11 with (first | (go_at_call 40; (with_reducible refine (within_b _ _ _ _).mono ?_); rintro e w' ⟨rfl, rfl⟩) | fail); (refine region_open (by kernel_rfl) (fun R hR => ?_); refine heldR (S := (fun w' => Box w' wr.heap.size 69 #[.int .i64 px, .int .i64 py, .int .i64 nx, .int .i64 ny, .int .i64 m])) ?_ (fun hHeld => ?_); (focus ((try dsimp only); (((first | exact bX0 | exact bX1 hb6 | exact bX1 hb3 | exact bX2 hb5 hb6 | exact bX2 hb3 hb4 | exact bX3 hb4 hb5 hb6 | exact bX3 hb3 hb4 hb5 | exact bX4 hb3 hb4 hb5 hb6))))); refine rgN 0 rfl ?_; (try simp only [Act.put, pqs]); refine rgT 1 ?_ rfl (fun w' hSw => ?_) ?_; rotate_left; (focus ((try dsimp only at hSw); (have sa0 := hSw.cell 0; have sa1 := hSw.cell 1; have sa2 := hSw.cell 2; have sa3 := hSw.cell 3; have sa4 := hSw.cell 4; (simp at sa0 sa1 sa2 sa3 sa4)); go_simp; (try with_reducible rfl))); (try simp only [Act.put, pqs]); refine rgC 2 rfl (fun K hK => ?_); go_simp; ((go_at_call 99; (with_reducible refine (W0c.out _).mono ?_); rintro e w3 ⟨rfl, hb3⟩; have hz3 : wr.heap.size + 1 ≤ w3.heap.size := (by have := hb3.size; (try simp at this); omega))); go_simp; refine hK.out _ _ ?_ (fun hHeld => ?_); (focus ((try dsimp only); (((first | exact bX4 hb3 hb4 hb5 hb6 | exact bX3 hb3 hb4 hb5 | exact bX3 hb4 hb5 hb6 | exact bX2 hb3 hb4 | exact bX2 hb5 hb6 | exact bX1 hb3 | exact bX1 hb6 | exact bX0))))); clear hK K; (try simp only [Act.put, pqs]); refine rgN 3 rfl ?_; (try simp only [Act.put, pqs]); refine rgN 4 rfl ?_; (try simp only [Act.put, pqs]); refine rgN 5 rfl ?_; (try simp only [Act.put, pqs]); refine rgT 6 ?_ rfl (fun w' hSw => ?_) ?_; rotate_left; (focus ((try dsimp only at hSw); (have sa0 := hSw.cell 0; have sa1 := hSw.cell 1; have sa2 := hSw.cell 2; have sa3 := hSw.cell 3; have sa4 := hSw.cell 4; (simp at sa0 sa1 sa2 sa3 sa4)); go_simp; (try with_reducible rfl))); (try simp only [Act.put, pqs]); refine rgC 7 rfl (fun K hK => ?_); go_simp; ((go_at_call 99; (with_reducible refine (W1c.out _).mono ?_); rintro e w4 ⟨rfl, hb4⟩; have hz4 : w3.heap.size ≤ w4.heap.size := (by have := hb4.size; (try simp at this); omega))); go_simp; refine hK.out _ _ ?_ (fun hHeld => ?_); (focus ((try dsimp only); (((first | exact bX4 hb3 hb4 hb5 hb6 | exact bX3 hb3 hb4 hb5 | exact bX3 hb4 hb5 hb6 | exact bX2 hb3 hb4 | exact bX2 hb5 hb6 | exact bX1 hb3 | exact bX1 hb6 | exact bX0))))); clear hK K; (try simp only [Act.put, pqs]); refine rgN 8 rfl ?_; (try simp only [Act.put, pqs]); refine rgN 9 rfl ?_; (try simp only [Act.put, pqs]); refine rgN 10 rfl ?_; (try simp only [Act.put, pqs]); refine rgN 11 rfl ?_; (try simp only [Act.put, pqs]); refine rgT 12 ?_ rfl (fun w' hSw => ?_) ?_; rotate_left; (focus ((try dsimp only at hSw); (have sa0 := hSw.cell 0; have sa1 := hSw.cell 1; have sa2 := hSw.cell 2; have sa3 := hSw.cell 3; have sa4 := hSw.cell 4; (simp at sa0 sa1 sa2 sa3 sa4)); go_simp; (try with_reducible rfl))); (try simp only [Act.put, pqs]); refine rgC 13 rfl (fun K hK => ?_); go_simp; ((go_at_call 99; (with_reducible refine (W2c.out _).mono ?_); rintro e w5 ⟨rfl, hb5⟩; have hz5 : w4.heap.size ≤ w5.heap.size := (by have := hb5.size; (try simp at this); omega))); go_simp; refine hK.out _ _ ?_ (fun hHeld => ?_); (focus ((try dsimp only); (((first | exact bX4 hb3 hb4 hb5 hb6 | exact bX3 hb3 hb4 hb5 | exact bX3 hb4 hb5 hb6 | exact bX2 hb3 hb4 | exact bX2 hb5 hb6 | exact bX1 hb3 | exact bX1 hb6 | exact bX0))))); clear hK K; (try simp only [Act.put, pqs]); refine rgN 14 rfl ?_; (try simp only [Act.put, pqs]); refine rgN 15 rfl ?_; (try simp only [Act.put, pqs]); refine rgN 16 rfl ?_; (try simp only [Act.put, pqs]); refine rgN 17 rfl ?_; (try simp only [Act.put, pqs]); refine rgT 18 ?_ rfl (fun w' hSw => ?_) ?_; rotate_left; (focus ((try dsimp only at hSw); (have sa0 := hSw.cell 0; have sa1 := hSw.cell 1; have sa2 := hSw.cell 2; have sa3 := hSw.cell 3; have sa4 := hSw.cell 4; (simp at sa0 sa1 sa2 sa3 sa4)); go_simp; (try with_reducible rfl))); (try simp only [Act.put, pqs]); refine rgC 19 rfl (fun K hK => ?_); go_simp; ((go_at_call 99; (with_reducible refine (W3c.out _).mono ?_); rintro e w6 ⟨rfl, hb6⟩; have hz6 : w5.heap.size ≤ w6.heap.size := (by have := hb6.size; (try simp at this); omega))); go_simp; refine hK.out _ _ ?_ (fun hHeld => ?_); (focus ((try dsimp only); (((first | exact bX4 hb3 hb4 hb5 hb6 | exact bX3 hb3 hb4 hb5 | exact bX3 hb4 hb5 hb6 | exact bX2 hb3 hb4 | exact bX2 hb5 hb6 | exact bX1 hb3 | exact bX1 hb6 | exact bX0))))); clear hK K; (try simp only [Act.put, pqs]); refine rgN 20 rfl ?_; (try simp only [Act.put, pqs]); refine rgN 21 rfl ?_; (try simp only [Act.put, pqs]); refine wpAnyH_done (Q := fun e a w => e = Exit.normal ∧ R a w) (by kernel_rfl) ⟨rfl, hR _ _ ?_⟩ _; clear hR R)
                go_wp2
                go_roundw
                case rel => exact ⟨k + 1, by omega, by go_num, HR3.out, by exact bX4 hb3 hb4 hb5 hb6, by exact bB5 hb3 hb4 hb5 hb6 hB⟩
                case measure => simp [intOf]; omega
            · have HR3 := Lib.hid (show R = 3 by
                have h0 : ctE ((px, py), (nx, ny), m) = 3 := by rw [CE2.out, v1, v2, v3, v4]; rfl
                rw [HE2.out, FE.out, if_neg (by rw [h0]; decide), h0]; rfl)
              clear FE CE2
              as_aux_lemma =>
                go_upto_region 11 with (first | (go_at_call 40; (with_reducible refine (within_b _ _ _ _).mono ?_); rintro e w' ⟨rfl, rfl⟩) | fail); (refine region_open (by kernel_rfl) (fun R hR => ?_); refine heldR (S := (fun w' => Box w' wr.heap.size 69 #[.int .i64 px, .int .i64 py, .int .i64 nx, .int .i64 ny, .int .i64 m])) ?_ (fun hHeld => ?_); (focus ((try dsimp only); (((first | exact bX0 | exact bX1 hb6 | exact bX1 hb3 | exact bX2 hb5 hb6 | exact bX2 hb3 hb4 | exact bX3 hb4 hb5 hb6 | exact bX3 hb3 hb4 hb5 | exact bX4 hb3 hb4 hb5 hb6))))); refine rgN 0 rfl ?_; (try simp only [Act.put, pqs]); refine rgT 1 ?_ rfl (fun w' hSw => ?_) ?_; rotate_left; (focus ((try dsimp only at hSw); (have sa0 := hSw.cell 0; have sa1 := hSw.cell 1; have sa2 := hSw.cell 2; have sa3 := hSw.cell 3; have sa4 := hSw.cell 4; (simp at sa0 sa1 sa2 sa3 sa4)); go_simp; (try with_reducible rfl))); (try simp only [Act.put, pqs]); refine rgC 2 rfl (fun K hK => ?_); go_simp; ((go_at_call 99; (with_reducible refine (W0c.out _).mono ?_); rintro e w3 ⟨rfl, hb3⟩; have hz3 : wr.heap.size + 1 ≤ w3.heap.size := (by have := hb3.size; (try simp at this); omega))); go_simp; refine hK.out _ _ ?_ (fun hHeld => ?_); (focus ((try dsimp only); (((first | exact bX4 hb3 hb4 hb5 hb6 | exact bX3 hb3 hb4 hb5 | exact bX3 hb4 hb5 hb6 | exact bX2 hb3 hb4 | exact bX2 hb5 hb6 | exact bX1 hb3 | exact bX1 hb6 | exact bX0))))); clear hK K; (try simp only [Act.put, pqs]); refine rgN 3 rfl ?_; (try simp only [Act.put, pqs]); refine rgN 4 rfl ?_; (try simp only [Act.put, pqs]); refine rgN 5 rfl ?_; (try simp only [Act.put, pqs]); refine rgT 6 ?_ rfl (fun w' hSw => ?_) ?_; rotate_left; (focus ((try dsimp only at hSw); (have sa0 := hSw.cell 0; have sa1 := hSw.cell 1; have sa2 := hSw.cell 2; have sa3 := hSw.cell 3; have sa4 := hSw.cell 4; (simp at sa0 sa1 sa2 sa3 sa4)); go_simp; (try with_reducible rfl))); (try simp only [Act.put, pqs]); refine rgC 7 rfl (fun K hK => ?_); go_simp; ((go_at_call 99; (with_reducible refine (W1c.out _).mono ?_); rintro e w4 ⟨rfl, hb4⟩; have hz4 : w3.heap.size ≤ w4.heap.size := (by have := hb4.size; (try simp at this); omega))); go_simp; refine hK.out _ _ ?_ (fun hHeld => ?_); (focus ((try dsimp only); (((first | exact bX4 hb3 hb4 hb5 hb6 | exact bX3 hb3 hb4 hb5 | exact bX3 hb4 hb5 hb6 | exact bX2 hb3 hb4 | exact bX2 hb5 hb6 | exact bX1 hb3 | exact bX1 hb6 | exact bX0))))); clear hK K; (try simp only [Act.put, pqs]); refine rgN 8 rfl ?_; (try simp only [Act.put, pqs]); refine rgN 9 rfl ?_; (try simp only [Act.put, pqs]); refine rgN 10 rfl ?_; (try simp only [Act.put, pqs]); refine rgN 11 rfl ?_; (try simp only [Act.put, pqs]); refine rgT 12 ?_ rfl (fun w' hSw => ?_) ?_; rotate_left; (focus ((try dsimp only at hSw); (have sa0 := hSw.cell 0; have sa1 := hSw.cell 1; have sa2 := hSw.cell 2; have sa3 := hSw.cell 3; have sa4 := hSw.cell 4; (simp at sa0 sa1 sa2 sa3 sa4)); go_simp; (try with_reducible rfl))); (try simp only [Act.put, pqs]); refine rgC 13 rfl (fun K hK => ?_); go_simp; ((go_at_call 99; (with_reducible refine (W2c.out _).mono ?_); rintro e w5 ⟨rfl, hb5⟩; have hz5 : w4.heap.size ≤ w5.heap.size := (by have := hb5.size; (try simp at this); omega))); go_simp; refine hK.out _ _ ?_ (fun hHeld => ?_); (focus ((try dsimp only); (((first | exact bX4 hb3 hb4 hb5 hb6 | exact bX3 hb3 hb4 hb5 | exact bX3 hb4 hb5 hb6 | exact bX2 hb3 hb4 | exact bX2 hb5 hb6 | exact bX1 hb3 | exact bX1 hb6 | exact bX0))))); clear hK K; (try simp only [Act.put, pqs]); refine rgN 14 rfl ?_; (try simp only [Act.put, pqs]); refine rgN 15 rfl ?_; (try simp only [Act.put, pqs]); refine rgN 16 rfl ?_; (try simp only [Act.put, pqs]); refine rgN 17 rfl ?_; (try simp only [Act.put, pqs]); refine rgT 18 ?_ rfl (fun w' hSw => ?_) ?_; rotate_left; (focus ((try dsimp only at hSw); (have sa0 := hSw.cell 0; have sa1 := hSw.cell 1; have sa2 := hSw.cell 2; have sa3 := hSw.cell 3; have sa4 := hSw.cell 4; (simp at sa0 sa1 sa2 sa3 sa4)); go_simp; (try with_reducible rfl))); (try simp only [Act.put, pqs]); refine rgC 19 rfl (fun K hK => ?_); go_simp; ((go_at_call 99; (with_reducible refine (W3c.out _).mono ?_); rintro e w6 ⟨rfl, hb6⟩; have hz6 : w5.heap.size ≤ w6.heap.size := (by have := hb6.size; (try simp at this); omega))); go_simp; refine hK.out _ _ ?_ (fun hHeld => ?_); (focus ((try dsimp only); (((first | exact bX4 hb3 hb4 hb5 hb6 | exact bX3 hb3 hb4 hb5 | exact bX3 hb4 hb5 hb6 | exact bX2 hb3 hb4 | exact bX2 hb5 hb6 | exact bX1 hb3 | exact bX1 hb6 | exact bX0))))); clear hK K; (try simp only [Act.put, pqs]); refine rgN 20 rfl ?_; (try simp only [Act.put, pqs]); refine rgN 21 rfl ?_; (try simp only [Act.put, pqs]); refine wpAnyH_done (Q := fun e a w => e = Exit.normal ∧ R a w) (by kernel_rfl) ⟨rfl, hR _ _ ?_⟩ _; clear hR R)
                go_wp2
                go_ret
                exact ⟨ret_i HR3.out.symm, by exact bB5 hb3 hb4 hb5 hb6 hB⟩
        · have HE3 := Lib.hid (show R = fstE [unl lb 3, unl (inB fn 0 10 && decide (fd ≤ 10)) 2, unl (!([l0, l1, l2].any fun x => !inB x (-6) 6)) 2] by
            have h0 : (eachE ctE C).2 = 0 := by rw [hf.out, List.drop_eq_nil_of_le (by omega)]; rfl
            rw [HE2.out, h0, fstE_cons, if_pos rfl])
          clear HE2 hf W0c W1c W2c W3c
          cases lb with
          | false =>
            have HR3 := Lib.hid (show R = 3 by rw [HE3.out]; rfl)
            clear HE3
            go_wp2_with (first | (go_at_call 100; (with_reducible refine (LWc.out _).mono ?_); rintro e w3 ⟨rfl, hb3⟩; have hz3 : wr.heap.size ≤ w3.heap.size := (by have := hb3.size; (try simp at this); omega); have y3 : Box w3 w.heap.size 53 #[.slice AC C.length cC, .int .i64 fn, .int .i64 fd, .int .i64 l0, .int .i64 l1, .int .i64 l2] := (by exact bX1 hb3); have p0 := y3.cell 0; have p1 := y3.cell 1; have p2 := y3.cell 2; have p3 := y3.cell 3; have p4 := y3.cell 4; have p5 := y3.cell 5; (simp at p0 p1 p2 p3 p4 p5); have l3 := y3.lt) | fail)
            go_ret
            exact ⟨ret_i HR3.out.symm, by exact bB2 hb3 hB⟩
          | true =>
            have HE4 := Lib.hid (show R = fstE [unl (inB fn 0 10 && decide (fd ≤ 10)) 2, unl (!([l0, l1, l2].any fun x => !inB x (-6) 6)) 2] by rw [HE3.out]; rfl)
            clear HE3
            cases g1 : inB fn 0 10 with
            | false =>
              have HR3 := Lib.hid (show R = 2 by rw [HE4.out, g1]; rfl)
              clear HE4
              go_wp2_with (first | (go_at_call 100; (with_reducible refine (LWc.out _).mono ?_); rintro e w3 ⟨rfl, hb3⟩; have hz3 : wr.heap.size ≤ w3.heap.size := (by have := hb3.size; (try simp at this); omega); have y3 : Box w3 w.heap.size 53 #[.slice AC C.length cC, .int .i64 fn, .int .i64 fd, .int .i64 l0, .int .i64 l1, .int .i64 l2] := (by exact bX1 hb3); have p0 := y3.cell 0; have p1 := y3.cell 1; have p2 := y3.cell 2; have p3 := y3.cell 3; have p4 := y3.cell 4; have p5 := y3.cell 5; (simp at p0 p1 p2 p3 p4 p5); have l3 := y3.lt) | (go_at_call 40; (with_reducible refine (within_b _ _ _ _).mono ?_); rintro e w' ⟨rfl, rfl⟩) | fail)
              go_ret
              exact ⟨ret_i HR3.out.symm, by exact bB2 hb3 hB⟩
            | true =>
              by_cases g2 : fd ≤ 10
              · have e3 : decide (10 < fd) = false := decide_eq_false (by omega)
                have HE5 := Lib.hid (show R = unl (!([l0, l1, l2].any fun x => !inB x (-6) 6)) 2 by
                  rw [HE4.out, g1, decide_eq_true g2]
                  cases ([l0, l1, l2].any fun x => !inB x (-6) 6) <;> rfl)
                clear HE4 g2
                go_wp2_with (first | (go_at_call 100; (with_reducible refine (LWc.out _).mono ?_); rintro e w3 ⟨rfl, hb3⟩; have hz3 : wr.heap.size ≤ w3.heap.size := (by have := hb3.size; (try simp at this); omega); have y3 : Box w3 w.heap.size 53 #[.slice AC C.length cC, .int .i64 fn, .int .i64 fd, .int .i64 l0, .int .i64 l1, .int .i64 l2] := (by exact bX1 hb3); have p0 := y3.cell 0; have p1 := y3.cell 1; have p2 := y3.cell 2; have p3 := y3.cell 3; have p4 := y3.cell 4; have p5 := y3.cell 5; (simp at p0 p1 p2 p3 p4 p5); have l3 := y3.lt) | (go_at_call 40; (with_reducible refine (within_b _ _ _ _).mono ?_); rintro e w' ⟨rfl, rfl⟩) | fail)
                go_loopw [5] (fun i wq => ∃ k : Nat, k ≤ 3 ∧ i = .int .i64 k ∧ Hid (R = unl (!(([l0, l1, l2].drop k).any fun x => !inB x (-6) 6)) 2) ∧ Box wq w.heap.size 53 #[.slice AC C.length cC, .int .i64 fn, .int .i64 fd, .int .i64 l0, .int .i64 l1, .int .i64 l2] ∧ Below w.heap.size w wq) (fun i _ => 3 - (intOf i).toNat)
                case atStart => exact ⟨0, by omega, rfl, HE5.out, by exact bX1 hb3, by exact bB2 hb3 hB⟩
                case round =>
                  obtain ⟨q, hq, rfl, hf, hH2, hB2⟩ := hrel
                  clear HE5 hH zz0 zz1 zz2 zz3 zz4 zz5 hb3 hz3 y3 p0 p1 p2 p3 p4 p5 l3 hB
                  have zz0 := hH2.cell 0; have zz1 := hH2.cell 1; have zz2 := hH2.cell 2; have zz3 := hH2.cell 3; have zz4 := hH2.cell 4; have zz5 := hH2.cell 5
                  have lH2 := hH2.lt
                  simp at zz0 zz1 zz2 zz3 zz4 zz5
                  have hq4 : q = 0 ∨ q = 1 ∨ q = 2 ∨ q = 3 := by omega
                  rcases hq4 with rfl | rfl | rfl | rfl
                  · cases v : inB l0 (-6) 6 with
                    | false =>
                      have HR3 := Lib.hid (show R = 2 by rw [hf.out]; simp [v, unl])
                      clear hf
                      go_wp2_with (first | (go_at_call 40; (with_reducible refine (within_b _ _ _ _).mono ?_); rintro e w' ⟨rfl, rfl⟩) | fail)
                      go_ret
                      exact ⟨ret_i HR3.out.symm, by exact bB1 hB2⟩
                    | true =>
                      have HR3 := Lib.hid (show R = unl (!(([l0, l1, l2].drop 1).any fun x => !inB x (-6) 6)) 2 by rw [hf.out]; simp [v])
                      clear hf
                      go_wp2_with (first | (go_at_call 40; (with_reducible refine (within_b _ _ _ _).mono ?_); rintro e w' ⟨rfl, rfl⟩) | fail)
                      go_roundw
                      case rel => exact ⟨1, by omega, rfl, HR3.out, by exact bX0, by exact bB1 hB2⟩
                      case measure => simp [intOf]
                  · cases v : inB l1 (-6) 6 with
                    | false =>
                      have HR3 := Lib.hid (show R = 2 by rw [hf.out]; simp [v, unl])
                      clear hf
                      go_wp2_with (first | (go_at_call 40; (with_reducible refine (within_b _ _ _ _).mono ?_); rintro e w' ⟨rfl, rfl⟩) | fail)
                      go_ret
                      exact ⟨ret_i HR3.out.symm, by exact bB1 hB2⟩
                    | true =>
                      have HR3 := Lib.hid (show R = unl (!(([l0, l1, l2].drop 2).any fun x => !inB x (-6) 6)) 2 by rw [hf.out]; simp [v])
                      clear hf
                      go_wp2_with (first | (go_at_call 40; (with_reducible refine (within_b _ _ _ _).mono ?_); rintro e w' ⟨rfl, rfl⟩) | fail)
                      go_roundw
                      case rel => exact ⟨2, by omega, rfl, HR3.out, by exact bX0, by exact bB1 hB2⟩
                      case measure => simp [intOf]
                  · cases v : inB l2 (-6) 6 with
                    | false =>
                      have HR3 := Lib.hid (show R = 2 by rw [hf.out]; simp [v, unl])
                      clear hf
                      go_wp2_with (first | (go_at_call 40; (with_reducible refine (within_b _ _ _ _).mono ?_); rintro e w' ⟨rfl, rfl⟩) | fail)
                      go_ret
                      exact ⟨ret_i HR3.out.symm, by exact bB1 hB2⟩
                    | true =>
                      have HR3 := Lib.hid (show R = unl (!(([l0, l1, l2].drop 3).any fun x => !inB x (-6) 6)) 2 by rw [hf.out]; simp [v])
                      clear hf
                      go_wp2_with (first | (go_at_call 40; (with_reducible refine (within_b _ _ _ _).mono ?_); rintro e w' ⟨rfl, rfl⟩) | fail)
                      go_roundw
                      case rel => exact ⟨3, by omega, rfl, HR3.out, by exact bX0, by exact bB1 hB2⟩
                      case measure => simp [intOf]
                  · have HR3 := Lib.hid (show R = 0 by rw [hf.out]; rfl)
                    clear hf
                    go_wp2_with fail
                    go_ret
                    exact ⟨ret_i HR3.out.symm, by exact bB1 hB2⟩
              · have e3 : decide (10 < fd) = true := decide_eq_true (by omega)
                have HR3 := Lib.hid (show R = 2 by rw [HE4.out, g1, decide_eq_false g2]; rfl)
                clear HE4 g2
                go_wp2_with (first | (go_at_call 100; (with_reducible refine (LWc.out _).mono ?_); rintro e w3 ⟨rfl, hb3⟩; have hz3 : wr.heap.size ≤ w3.heap.size := (by have := hb3.size; (try simp at this); omega); have y3 : Box w3 w.heap.size 53 #[.slice AC C.length cC, .int .i64 fn, .int .i64 fd, .int .i64 l0, .int .i64 l1, .int .i64 l2] := (by exact bX1 hb3); have p0 := y3.cell 0; have p1 := y3.cell 1; have p2 := y3.cell 2; have p3 := y3.cell 3; have p4 := y3.cell 4; have p5 := y3.cell 5; (simp at p0 p1 p2 p3 p4 p5); have l3 := y3.lt) | (go_at_call 40; (with_reducible refine (within_b _ _ _ _).mono ?_); rintro e w' ⟨rfl, rfl⟩) | fail)
                go_ret
                exact ⟨ret_i HR3.out.symm, by exact bB2 hb3 hB⟩

end Go.Proofs.YtpnfgmgoafgcbaaGreat

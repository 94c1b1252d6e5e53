/-
  The law ArmHolds (chapter 6): the walk.
-/
import Derived.Test.YtpnfgmgoafgcbaaGreatRHe
import Derived.Test.YtpnfgmgoafgcbaaGreatCpy
import Derived.Test.YtpnfgmgoafgcbaaGreatChH
import Derived.Test.YtpnfgmgoafgcbaaGreatAwake
set_option linter.unusedVariables false
namespace Go.Proofs.YtpnfgmgoafgcbaaGreat
open Go.RowKit
attribute [local go_sem] Oper.semAt_some
set_option maxHeartbeats 4000000 in
theorem rHold_c (C : List Ct) (AC : Option Addr) (cC : Nat) (fn fd l0 l1 l2 : Int) (w : World) (hE : hdE ⟨C, fn, fd, (l0, l1, l2)⟩ = 0) (hs : SlV w AC (C.flatMap ctV)) :
    Calls Tryz.prog 29 #[.agg #[.slice AC C.length cC, .int .i64 fn, .int .i64 fd, .int .i64 l0, .int .i64 l1, .int .i64 l2]] w (RhEnd w (heP fn fd C (l0, l1, l2))) := by
  have hO := hdE_ok hE
  have hfd := hO.fd
  have hl := hO.l
  have hn := hO.len
  dsimp only at hfd hl hn
  have REc := Lib.hid (fun W (h : Below w.heap.size w W) => rheld_c C cC fn fd l0 l1 l2 hO.fn (by omega) hO.ct hn.2 C [] rfl AC (l0, l1, l2) W (by
      obtain ⟨x1, x2, x3⟩ := hl
      simp only [balOk] at x1 x2 x3 ⊢
      refine ⟨?_, ?_, ?_⟩ <;> simp <;> omega) (hs.below h))
  dsimp only [List.length_nil] at REc
  clear hs hO hfd hl hn hE
  generalize heP fn fd C (l0, l1, l2) = R at *
  cases R with
  | none =>
    go_enter Tryz.func29, Tryz.ntmps29
    go_wp2_with (first | (go_at_call 102; (refine (REc.out _ (by exact bB0)).mono ?_); rintro e w3 hE3; obtain ⟨hb3, rfl⟩ := hE3) | fail)
    go_ret2
    exact ⟨by exact bB1 hb3, rfl⟩
  | some L =>
    go_enter Tryz.func29, Tryz.ntmps29
    go_wp2_with (first | (go_at_call 102; (refine (REc.out _ (by exact bB0)).mono ?_); rintro e w3 hE3; obtain ⟨hb3, A3, c3, rfl, hv3, hn3⟩ := hE3) | fail)
    go_ret2
    exact ⟨by exact bB1 hb3, A3, c3, rfl, hv3, hn3⟩
set_option maxHeartbeats 8000000 in
set_option maxRecDepth 100000 in
theorem armHolds_l (C : List Ct) (AC : Option Addr) (cC : Nat) (fn fd l0 l1 l2 : Int) (F : List (Int × Int)) (A : Option Addr) (c : Nat) (w : World) (h1 : -9223372036854775808 ≤ fn ∧ fn ≤ 9223372036854775807) (h2 : -9223372036854775808 ≤ fd ∧ fd ≤ 9223372036854775807) (hs : SlV w AC (C.flatMap ctV)) (_ : C.length ≤ 9223372036854775807) (hsF : SlV w A (F.flatMap ceV)) (_ : F.length ≤ 9223372036854775807) :
    Calls Tryz.prog 4 #[.agg #[.slice AC C.length cC, .int .i64 fn, .int .i64 fd, .int .i64 l0, .int .i64 l1, .int .i64 l2], .slice A F.length c] w fun e w' => e = .returned (.bool true) ∧ Below w.heap.size w w' := by
  have AWc := Lib.hid (fun W => awake_c W)
  by_cases hc : 5 < C.length
  · have e1 : decide (5 < (C.length : Int)) = true := decide_eq_true (by omega)
    clear hs hsF
    go_enter Tryz.func4, Tryz.ntmps4
    go_wp2_with (first | (go_at_call 14; (with_reducible refine (AWc.out _).mono ?_); rintro e w1 ⟨rfl, hb1⟩; have hz1 : w.heap.size < w1.heap.size := (by have := hb1.size; (try simp at this); omega); have y1 : Box w1 w.heap.size 53 #[.slice AC C.length cC, .int .i64 fn, .int .i64 fd, .int .i64 l0, .int .i64 l1, .int .i64 l2] := (by exact bX1 hb1); have p0 := y1.cell 0; have p1 := y1.cell 1; have p2 := y1.cell 2; have p3 := y1.cell 3; have p4 := y1.cell 4; have p5 := y1.cell 5; (simp at p0 p1 p2 p3 p4 p5)) | fail)
    go_ret
    exact ⟨rfl, by exact bB1 hb1⟩
  · have e1 : decide (5 < (C.length : Int)) = false := decide_eq_false (by omega)
    by_cases hF : 5 < F.length
    · have e2 : decide (5 < (F.length : Int)) = true := decide_eq_true (by omega)
      clear hs hsF
      go_enter Tryz.func4, Tryz.ntmps4
      go_wp2_with (first | (go_at_call 14; (with_reducible refine (AWc.out _).mono ?_); rintro e w1 ⟨rfl, hb1⟩; have hz1 : w.heap.size < w1.heap.size := (by have := hb1.size; (try simp at this); omega); have y1 : Box w1 w.heap.size 53 #[.slice AC C.length cC, .int .i64 fn, .int .i64 fd, .int .i64 l0, .int .i64 l1, .int .i64 l2] := (by exact bX1 hb1); have p0 := y1.cell 0; have p1 := y1.cell 1; have p2 := y1.cell 2; have p3 := y1.cell 3; have p4 := y1.cell 4; have p5 := y1.cell 5; (simp at p0 p1 p2 p3 p4 p5)) | fail)
      go_ret
      exact ⟨rfl, by exact bB1 hb1⟩
    · have e2 : decide (5 < (F.length : Int)) = false := decide_eq_false (by omega)
      have RHc := Lib.hid (fun W (h : Below w.heap.size w W) => rHoldErr_c C AC cC fn fd l0 l1 l2 W (by omega) (hs.below h) h1 h2)
      have CHc := Lib.hid (fun W (h : Below w.heap.size w W) => copyHold_c C AC cC fn fd l0 l1 l2 W (by omega) (hs.below h))
      have HOc := Lib.hid (fun D d W (h : SlV W D (C.flatMap ctV)) => holdOf_c C D d fn fd l0 l1 l2 W (by omega) h h1 h2)
      have CPc := Lib.hid (fun W (h : Below w.heap.size w W) => copyPairs_c F A c W (by omega) (hsF.below h))
      have CKc := Lib.hid (fun D d D' d' W (h : SlV W D (C.flatMap ctV)) (h' : SlV W D' (F.flatMap ceV)) => checkHold_c C F D D' d d' fn fd l0 l1 l2 W (by omega) (by omega) h h' h1 h2)
      have FOc := Lib.hid (fun W (h : Below w.heap.size w W) => rForcesErr_c C F AC A cC c fn fd l0 l1 l2 W (by omega) (by omega) (hs.below h) (hsF.below h) h1 h2)
      have ROd := Lib.hid (fun (h0 : hdE ⟨C, fn, fd, (l0, l1, l2)⟩ = 0) W (h : Below w.heap.size w W) => rHold_c C AC cC fn fd l0 l1 l2 W h0 (hs.below h))
      have HRe := Lib.hid (show hdE ⟨C, fn, fd, (l0, l1, l2)⟩ ≠ 0 → hoR ⟨C, fn, fd, (l0, l1, l2)⟩ = ([], hdE ⟨C, fn, fd, (l0, l1, l2)⟩) from fun h => by unfold hoR; rw [if_pos h])
      have HRn := Lib.hid (show hdE ⟨C, fn, fd, (l0, l1, l2)⟩ = 0 → heP fn fd C (l0, l1, l2) = none → hoR ⟨C, fn, fd, (l0, l1, l2)⟩ = ([], 12) from fun h0 h => by unfold hoR; rw [if_neg (by simp [h0])]; simp [h])
      have HRs := Lib.hid (show hdE ⟨C, fn, fd, (l0, l1, l2)⟩ = 0 → ∀ L, heP fn fd C (l0, l1, l2) = some L → hoR ⟨C, fn, fd, (l0, l1, l2)⟩ = (L, 0) from fun h0 L h => by unfold hoR; rw [if_neg (by simp [h0])]; simp [h])
      have HLn := Lib.hid (show hdE ⟨C, fn, fd, (l0, l1, l2)⟩ = 0 → ∀ L, heP fn fd C (l0, l1, l2) = some L → L.length ≤ 3 from fun h0 L h => by have := ((held_law h0).1 L h).1; have := (hdE_ok h0).len; dsimp only at *; omega)
      clear hs hsF
      generalize chP ⟨C, fn, fd, (l0, l1, l2)⟩ F = CPF at *
      obtain ⟨chi, chc⟩ := CPF
      dsimp only at CKc FOc
      generalize hdE ⟨C, fn, fd, (l0, l1, l2)⟩ = he at *
      generalize hoR ⟨C, fn, fd, (l0, l1, l2)⟩ = R at *
      obtain ⟨R1, R2⟩ := R
      have e3 : (chc != chc) = false := bneF rfl
      have e4 : (chi != chi) = false := bneF rfl
      go_enter Tryz.func4, Tryz.ntmps4
      go_upto_region 5 with (first | (go_at_call 14; (with_reducible refine (AWc.out _).mono ?_); rintro e w1 ⟨rfl, hb1⟩; have hz1 : w.heap.size < w1.heap.size := (by have := hb1.size; (try simp at this); omega); have y1 : Box w1 w.heap.size 53 #[.slice AC C.length cC, .int .i64 fn, .int .i64 fd, .int .i64 l0, .int .i64 l1, .int .i64 l2] := (by exact bX1 hb1); have p0 := y1.cell 0; have p1 := y1.cell 1; have p2 := y1.cell 2; have p3 := y1.cell 3; have p4 := y1.cell 4; have p5 := y1.cell 5; (simp at p0 p1 p2 p3 p4 p5)) | fail)
      have hP : Box w1 w.heap.size 53 #[.slice AC C.length cC, .int .i64 fn, .int .i64 fd, .int .i64 l0, .int .i64 l1, .int .i64 l2] := y1
      have hB : Below w.heap.size w w1 := by exact bB1 hb1
      clear y1 p0 p1 p2 p3 p4 p5 hb1 hz1 AWc
      generalize w1 = W5 at *
      go_cut [5, 6] (fun s5 s6 wx => s5 = .int .i64 chi ∧ s6 = .int .i64 chc ∧ Box wx w.heap.size 53 #[.slice AC C.length cC, .int .i64 fn, .int .i64 fd, .int .i64 l0, .int .i64 l1, .int .i64 l2] ∧ Below w.heap.size w wx)
      case first =>
        (have c00 := hP.cell 0; have c01 := hP.cell 1; have c02 := hP.cell 2; have c03 := hP.cell 3; have c04 := hP.cell 4; have c05 := hP.cell 5; simp at c00 c01 c02 c03 c04 c05; have hl0 := hP.lt)
        go_wp2_with (first | (go_at_call 24; (with_reducible refine (CHc.out _ ?_).mono ?_); rotate_left; rintro e w3 hC3; obtain ⟨D3, d3, rfl, hv3, hb3⟩ := hC3; have hz3 : W5.heap.size ≤ w3.heap.size := (by have := hb3.size; (try simp at this); omega); rotate_left; (focus (exact bB1 hB))) | (go_at_call 25; (with_reducible refine (CPc.out _ ?_).mono ?_); rotate_left; rintro e w4 hC4; obtain ⟨D4, d4, rfl, hv4, hb4⟩ := hC4; have hz4 : W5.heap.size ≤ w4.heap.size := (by have := hb4.size; (try simp at this); omega); rotate_left; (focus (exact bB2 hb3 hB))) | (go_at_call 23; (with_reducible refine (CKc.out D3 d3 D4 d4 _ ?_ hv4).mono ?_); rotate_left; rintro e w6 ⟨rfl, hb6⟩; rotate_left; (focus (exact hv3.below (by exact bB1 hb4)))) | fail)
        go_meet
        exact ⟨rfl, rfl, by exact bX3 hb3 hb4 hb6, by exact bB4 hb3 hb4 hb6 hB⟩
      case rest =>
        clear hP hB CPc CKc
        obtain ⟨rfl, rfl, hP, hB⟩ := hcut
        generalize wc = W5 at *
        go_upto_region 6 with fail
        go_cut [7, 8] (fun s7 s8 wx => s7 = .int .i64 chi ∧ s8 = .int .i64 chc ∧ Box wx w.heap.size 53 #[.slice AC C.length cC, .int .i64 fn, .int .i64 fd, .int .i64 l0, .int .i64 l1, .int .i64 l2] ∧ Below w.heap.size w wx)
        case first =>
          (have c00 := hP.cell 0; have c01 := hP.cell 1; have c02 := hP.cell 2; have c03 := hP.cell 3; have c04 := hP.cell 4; have c05 := hP.cell 5; simp at c00 c01 c02 c03 c04 c05; have hl0 := hP.lt)
          go_wp2_with (first | (go_at_call 26; (with_reducible refine (FOc.out _ ?_).mono ?_); rotate_left; rintro e w3 ⟨rfl, hb3⟩; rotate_left; (focus (exact bB1 hB))) | fail)
          go_meet
          exact ⟨rfl, rfl, by exact bX1 hb3, by exact bB2 hb3 hB⟩
        case rest =>
          clear hP hB FOc
          obtain ⟨rfl, rfl, hP, hB⟩ := hcut
          generalize wc = W5 at *
          go_upto_region 9 with fail
          go_cut [8] (fun s8 wx => s8 = .int .i64 he ∧ Box wx w.heap.size 53 #[.slice AC C.length cC, .int .i64 fn, .int .i64 fd, .int .i64 l0, .int .i64 l1, .int .i64 l2] ∧ Below w.heap.size w wx)
          case first =>
            (have c00 := hP.cell 0; have c01 := hP.cell 1; have c02 := hP.cell 2; have c03 := hP.cell 3; have c04 := hP.cell 4; have c05 := hP.cell 5; simp at c00 c01 c02 c03 c04 c05; have hl0 := hP.lt)
            go_wp2_with (first | (go_at_call 27; (with_reducible refine (RHc.out _ ?_).mono ?_); rotate_left; rintro e w3 ⟨rfl, hb3⟩; rotate_left; (focus (exact bB1 hB))) | fail)
            go_meet
            exact ⟨rfl, by exact bX1 hb3, by exact bB2 hb3 hB⟩
          case rest =>
            clear hP hB RHc
            obtain ⟨rfl, hP, hB⟩ := hcut
            generalize wc = W5 at *
            by_cases h0 : he = 0 ∧ 2 < C.length
            · have x1 : (he == 0) = true := beqT h0.1
              have x2 : decide (2 < (C.length : Int)) = true := decide_eq_true (by omega)
              clear h0
              (have c00 := hP.cell 0; have c01 := hP.cell 1; have c02 := hP.cell 2; have c03 := hP.cell 3; have c04 := hP.cell 4; have c05 := hP.cell 5; simp at c00 c01 c02 c03 c04 c05; have hl0 := hP.lt)
              go_wp2_with fail
              go_ret
              exact ⟨rfl, hB⟩
            · have hcase : ((he == 0) = true ∧ decide (2 < (C.length : Int)) = false ∧ Hid (he = 0)) ∨ ((he == 0) = false ∧ Hid (he ≠ 0)) := by
                by_cases hh : he = 0
                · exact .inl ⟨beqT hh, decide_eq_false (by intro h; exact h0 ⟨hh, by omega⟩), hh⟩
                · exact .inr ⟨beqF hh, hh⟩
              clear h0
              rcases hcase with ⟨x1, x2, hh⟩ | ⟨x1, hh⟩
              case' inl =>
                have c00' := hP.cell 0
                simp at c00'
                have hl0' := hP.lt
                go_upto_region 12 with fail
                clear c00' hl0'
              case' inr => go_upto_region 12 with fail
              all_goals
                go_cut [9, 10] (fun s9 s10 wx => ∃ A9 c9, s9 = .slice A9 R1.length c9 ∧ s10 = .int .i64 R2 ∧ SlV wx A9 (R1.flatMap ceV) ∧ Box wx w.heap.size 53 #[.slice AC C.length cC, .int .i64 fn, .int .i64 fd, .int .i64 l0, .int .i64 l1, .int .i64 l2] ∧ Below w.heap.size w wx)
                case first =>
                  (have c00 := hP.cell 0; have c01 := hP.cell 1; have c02 := hP.cell 2; have c03 := hP.cell 3; have c04 := hP.cell 4; have c05 := hP.cell 5; simp at c00 c01 c02 c03 c04 c05; have hl0 := hP.lt)
                  go_wp2_with (first | (go_at_call 24; (with_reducible refine (CHc.out _ ?_).mono ?_); rotate_left; rintro e w3 hC3; obtain ⟨D3, d3, rfl, hv3, hb3⟩ := hC3; have hz3 : W5.heap.size ≤ w3.heap.size := (by have := hb3.size; (try simp at this); omega); rotate_left; (focus (exact bB1 hB))) | (go_at_call 28; (with_reducible refine (HOc.out D3 d3 _ hv3).mono ?_); rintro e w4 hE4; obtain ⟨A4, c4, rfl, hv4, hb4⟩ := hE4) | fail)
                  go_meet
                  exact ⟨A4, c4, rfl, rfl, hv4, by exact bX2 hb3 hb4, by exact bB3 hb3 hb4 hB⟩
                clear hP hB HOc CHc
                obtain ⟨A9, c9, rfl, rfl, h9, hP, hB⟩ := hcut
                generalize wc = W5 at *
                have H9 := Lib.hid h9
                clear h9
              · have x3 : (he != 0) = true := bneT hh.out
                have e5 : R1 = [] ∧ R2 = he := by simpa using HRe.out hh.out
                obtain ⟨rfl, rfl⟩ := e5
                clear HRe HRn HRs HLn ROd hh
                have x4 : (R2 == R2) = true := beqT rfl
                go_wp2_with fail
                go_ret
                exact ⟨rfl, by exact bB1 hB⟩
              · have ROc := Lib.hid (ROd.out hh.out)
                have x3 : (he != 0) = false := bneF hh.out
                clear ROd HRe
                cases hH : heP fn fd C (l0, l1, l2) with
                | none =>
                  have e5 : R1 = [] ∧ R2 = 12 := by simpa using HRn.out hh.out hH
                  obtain ⟨rfl, rfl⟩ := e5
                  rw [hH] at ROc
                  clear hH HRn HRs HLn hh
                  (have c00 := hP.cell 0; have c01 := hP.cell 1; have c02 := hP.cell 2; have c03 := hP.cell 3; have c04 := hP.cell 4; have c05 := hP.cell 5; simp at c00 c01 c02 c03 c04 c05; have hl0 := hP.lt)
                  go_wp2_with (first | (go_at_call 29; (with_reducible refine (ROc.out _ ?_).mono ?_); rotate_left; rintro e w3 hE3; obtain ⟨hb3, rfl⟩ := hE3; rotate_left; (focus (exact bB1 hB))) | fail)
                  go_ret
                  exact ⟨rfl, by exact bB2 hb3 hB⟩
                | some L =>
                  have e5 : L = R1 := by have := congrArg Prod.fst (HRs.out hh.out L hH); exact this.symm
                  have e6 : R2 = 0 := congrArg Prod.snd (HRs.out hh.out L hH)
                  subst e5 e6
                  have hL := HLn.out hh.out L hH
                  rw [hH] at ROc
                  have SPc := Lib.hid (fun W A B c d (h1 : SlV W A (L.flatMap ceV)) (h2 : SlV W B (L.flatMap ceV)) => show Calls Tryz.prog 30 #[.slice A L.length c, .slice B L.length d] W (fun e w' => e = .returned (.bool true) ∧ Below W.heap.size W w') from by
                    have := samePairs_c L L A B c d W (by omega) (by omega) h1 h2
                    rw [decide_eq_true rfl] at this
                    exact this)
                  clear hH HRn HRs HLn hh
                  (have c00 := hP.cell 0; have c01 := hP.cell 1; have c02 := hP.cell 2; have c03 := hP.cell 3; have c04 := hP.cell 4; have c05 := hP.cell 5; simp at c00 c01 c02 c03 c04 c05; have hl0 := hP.lt)
                  go_wp2_with (first | (go_at_call 29; (with_reducible refine (ROc.out _ ?_).mono ?_); rotate_left; rintro e w3 hE3; obtain ⟨hb3, A3, c3, rfl, hv3, hn3⟩ := hE3; rotate_left; (focus (exact bB1 hB))) | (go_at_call 30; (with_reducible refine (SPc.out _ _ _ _ _ (H9.out.below (by exact bB1 hb3)) (hv3.below (by exact bB0))).mono ?_); rintro e w8 ⟨rfl, hb8⟩) | fail)
                  go_ret
                  exact ⟨rfl, by exact bB3 hb3 hb8 hB⟩

end Go.Proofs.YtpnfgmgoafgcbaaGreat

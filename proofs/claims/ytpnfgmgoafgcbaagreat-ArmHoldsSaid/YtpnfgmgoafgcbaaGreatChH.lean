/-
  CheckHold (chapter 6): which forces are accepted.
-/
import Derived.Test.YtpnfgmgoafgcbaaGreatHdP
set_option linter.unusedVariables false
namespace Go.Proofs.YtpnfgmgoafgcbaaGreat
open Go.RowKit
attribute [local go_sem] Oper.semAt_some
attribute [local go_sem ↓] eql_ba
set_option maxHeartbeats 4000000 in
set_option maxRecDepth 100000 in
theorem checkHold_c (C : List Ct) (F : List (Int × Int)) (AC A : Option Addr) (cC c : Nat) (fn fd l0 l1 l2 : Int) (w : World) (hn : C.length ≤ 1000) (hF : F.length ≤ 100000) (hs : SlV w AC (C.flatMap ctV)) (hsF : SlV w A (F.flatMap ceV)) (h1 : -9223372036854775808 ≤ fn ∧ fn ≤ 9223372036854775807) (h2 : -9223372036854775808 ≤ fd ∧ fd ≤ 9223372036854775807) :
    Calls Tryz.prog 23 #[.agg #[.slice AC C.length cC, .int .i64 fn, .int .i64 fd, .int .i64 l0, .int .i64 l1, .int .i64 l2], .slice A F.length c] w fun e w' => e = .returned (.tuple #[.int .i64 (chP ⟨C, fn, fd, (l0, l1, l2)⟩ F).1, .int .i64 (chP ⟨C, fn, fd, (l0, l1, l2)⟩ F).2]) ∧ Below w.heap.size w w' := by
  have HEc := Lib.hid (fun W (h : Below w.heap.size w W) => holdErr_c C AC cC fn fd l0 l1 l2 W hn (hs.below h) h1 h2)
  have HCE := Lib.hid (show chE ⟨C, fn, fd, (l0, l1, l2)⟩ F = fstE [hdE ⟨C, fn, fd, (l0, l1, l2)⟩, unl (decide ((F.length : Int) = (C.length : Int))) 10] from rfl)
  have HR := Lib.hid (show chP ⟨C, fn, fd, (l0, l1, l2)⟩ F = if chE ⟨C, fn, fd, (l0, l1, l2)⟩ F ≠ 0 then (0, chE ⟨C, fn, fd, (l0, l1, l2)⟩ F) else chF fn fd 0 C F (l0, l1, l2) from rfl)
  have HO := Lib.hid (show chE ⟨C, fn, fd, (l0, l1, l2)⟩ F = 0 → HOk ⟨C, fn, fd, (l0, l1, l2)⟩ ∧ F.length = C.length from fun h0 => by
    unfold chE at h0
    rw [fstE_zero] at h0
    simp only [List.mem_cons, List.not_mem_nil, or_false, forall_eq_or_imp, forall_eq, unl_zero (show (10 : Int) ≠ 0 by decide), decide_eq_true_eq] at h0
    exact ⟨hdE_ok h0.1, by have := h0.2; omega⟩)
  have NB := Lib.hid (show ((F.length : Int) == (C.length : Int)) = decide ((F.length : Int) = (C.length : Int)) from by rw [Bool.eq_iff_iff]; simp)
  have HS := Lib.hid hs
  have HSF := Lib.hid hsF
  clear hs hsF
  generalize chP ⟨C, fn, fd, (l0, l1, l2)⟩ F = R at *
  generalize chE ⟨C, fn, fd, (l0, l1, l2)⟩ F = ce at *
  generalize hdE ⟨C, fn, fd, (l0, l1, l2)⟩ = he at *
  go_enter Tryz.func23, Tryz.ntmps23
  go_upto_region 1 with fail
  have G0 : Box (w.alloc (.cells #[.slice AC C.length cC, .int .i64 fn, .int .i64 fd, .int .i64 l0, .int .i64 l1, .int .i64 l2] 53)) w.heap.size 53 #[.slice AC C.length cC, .int .i64 fn, .int .i64 fd, .int .i64 l0, .int .i64 l1, .int .i64 l2] := Box.new _ _ _
  go_cut [6] (fun s6 wx => s6 = .int .i64 ce ∧ Box wx w.heap.size 53 #[.slice AC C.length cC, .int .i64 fn, .int .i64 fd, .int .i64 l0, .int .i64 l1, .int .i64 l2] ∧ Below w.heap.size w wx)
  case first =>
    (refine wp_region_held_drew (S := (fun w' => Box w' w.heap.size 53 #[.slice AC C.length cC, .int .i64 fn, .int .i64 fd, .int .i64 l0, .int .i64 l1, .int .i64 l2])) (by kernel_rfl) ?_ (fun hHeld => ?_); (focus ((try dsimp only); (((first | exact bX0 | exact bX1 hb3))))); refine rgT 0 ?_ rfl (fun w' hSw => ?_) ?_; rotate_left; (focus ((try dsimp only at hSw); (have sa0 := hSw.cell 0; have sa1 := hSw.cell 1; have sa2 := hSw.cell 2; have sa3 := hSw.cell 3; have sa4 := hSw.cell 4; have sa5 := hSw.cell 5; (simp at sa0 sa1 sa2 sa3 sa4 sa5)); go_simp; (try with_reducible rfl))); (try simp only [Act.put, pqs]); refine rgN 2 rfl ?_; (try simp only [Act.put, pqs]); refine rgN 3 rfl ?_; (try simp only [Act.put, pqs]); refine rgN 4 rfl ?_; (try simp only [Act.put, pqs]); refine rgT 5 ?_ rfl (fun w' hSw => ?_) ?_; rotate_left; (focus ((try dsimp only at hSw); (have sa0 := hSw.cell 0; have sa1 := hSw.cell 1; have sa2 := hSw.cell 2; have sa3 := hSw.cell 3; have sa4 := hSw.cell 4; have sa5 := hSw.cell 5; (simp at sa0 sa1 sa2 sa3 sa4 sa5)); go_simp; (try with_reducible rfl))); (try simp only [Act.put, pqs]); refine rgN 6 rfl ?_; (try simp only [Act.put, pqs]); refine rgN 7 rfl ?_; (try simp only [Act.put, pqs]); refine rgC 1 rfl (fun K hK => ?_); go_simp; ((go_at_call 92; (with_reducible refine (HEc.out _ ?_).mono ?_); rotate_left; rintro e w3 ⟨rfl, hb3⟩; rotate_left; (focus (exact bB0)))); go_simp; refine hK.out _ _ ?_ (fun hHeld => ?_); (focus ((try dsimp only); (((first | exact bX1 hb3 | exact bX0))))); clear hK K; (try simp only [Act.put, pqs]); refine rgC 8 rfl (fun K hK => ?_); go_simp; ((go_at_call 84; (with_reducible refine (unless_c _ _ _).mono ?_); rintro e w' ⟨rfl, rfl⟩)); go_simp; refine hK.out _ _ ?_ (fun hHeld => ?_); (focus ((try dsimp only); (((first | exact bX1 hb3 | exact bX0))))); clear hK K; (try simp only [Act.put, pqs]); refine rgC 9 rfl (fun K hK => ?_); go_simp; refine hK.out _ _ ?_ (fun hHeld => ?_); (focus ((try dsimp only); (((first | exact bX1 hb3 | exact bX0))))); clear hK K; (try simp only [Act.put, pqs]); refine rgC 10 rfl (fun K hK => ?_); go_simp; (first | (go_at_call 83; (with_reducible refine (first2a _ _ _ _ _ (by simp)).mono ?_); rintro e w' ⟨rfl, rfl⟩) | (go_at_call 83; (with_reducible refine (first2d _ _ _ _ _ (by simp)).mono ?_); rintro e w' ⟨rfl, rfl⟩)); go_simp; refine hK.out _ _ ?_ (fun hHeld => ?_); (focus ((try dsimp only); (((first | exact bX1 hb3 | exact bX0))))); clear hK K; (try simp only [Act.put, pqs]); refine rgN 11 rfl ?_; (try simp only [Act.put, pqs]); refine wpAnyH_done (by kernel_rfl) ?_ _)
    go_wp2_with fail
    go_meet
    exact ⟨vint (by rw [HCE.out]; first | rfl | rw [NB.out]), by exact bX1 hb3, by exact bB1 hb3⟩
  case rest =>
    obtain ⟨rfl, hE, hB1⟩ := hcut
    clear G0 HEc HCE
    generalize wc = W5 at *
    have zz0 := hE.cell 0; have zz1 := hE.cell 1; have zz2 := hE.cell 2; have zz3 := hE.cell 3; have zz4 := hE.cell 4; have zz5 := hE.cell 5
    have lE := hE.lt
    simp at zz0 zz1 zz2 zz3 zz4 zz5
    by_cases h0 : ce = 0
    · obtain ⟨hok, hlen⟩ := HO.out h0
      have e1 : (ce != 0) = false := bneF h0
      have HR2 := Lib.hid (show R = chF fn fd 0 C F (l0, l1, l2) by rw [HR.out, if_neg (by simp [h0])])
      have hCl := hok.len
      have hCt := Lib.hid hok.ct
      obtain ⟨hf1, hf2⟩ := hok.fn
      obtain ⟨hd1, hd2⟩ := hok.fd
      have hl6 := hok.l
      dsimp only at hCl hf1 hf2 hd1 hd2
      have HL := Lib.hid hlen
      have HB0 := Lib.hid (show balOk (10 + 200 * 0) (l0, l1, l2) by
        obtain ⟨x1, x2, x3⟩ := hl6
        simp only [balOk] at x1 x2 x3 ⊢
        refine ⟨?_, ?_, ?_⟩ <;> simp <;> omega)
      obtain ⟨hC1, hC3⟩ := hCl
      clear HR h0 hok hlen HO hl6
      go_wp2
      go_loopw [29] (fun i wr => ∃ (k : Nat) (b0 b1 b2 : Int), k ≤ F.length ∧ i = .int .i64 k ∧ Hid (R = chF fn fd k (C.drop k) (F.drop k) (b0, b1, b2)) ∧ Hid (balOk (10 + 200 * k) (b0, b1, b2)) ∧ Box wr W5.heap.size 147 #[.int .i64 b0, .int .i64 b1, .int .i64 b2] ∧ Box wr w.heap.size 53 #[.slice AC C.length cC, .int .i64 fn, .int .i64 fd, .int .i64 l0, .int .i64 l1, .int .i64 l2] ∧ Below w.heap.size w wr) (fun i _ => F.length - (intOf i).toNat)
      case atStart => exact ⟨0, l0, l1, l2, Nat.zero_le _, rfl, HR2.out, HB0.out, by exact bX0, by exact bX0, by exact bB1 hB1⟩
      case round =>
        obtain ⟨k, b0, b1, b2, hk, rfl, hf, hbal, hT, hH, hB⟩ := hrel
        clear HR2 HB0 hE zz0 zz1 zz2 zz3 zz4 zz5
        generalize W5.heap.size = gT at *
        have lT := hT.lt; have lH := hH.lt
        by_cases hlt : k < F.length
        · have hkC : k < C.length := by have := HL.out; omega
          obtain ⟨b, off, rfl, hb, a0, a1⟩ := ce_cells (HSF.out.below hB) (List.getElem?_eq_getElem hlt)
          obtain ⟨bC, oC, rfl, hbC, c0, c1, c2, c3, c4⟩ := ct_cells (HS.out.below hB) (List.getElem?_eq_getElem hkC)
          have hco := hCt.out _ (List.getElem_mem hkC)
          have D1 := Lib.hid (List.drop_eq_getElem_cons hlt)
          have D2 := Lib.hid (List.drop_eq_getElem_cons hkC)
          generalize F[k] = f at *
          generalize C[k] = ct at *
          obtain ⟨n, t⟩ := f
          obtain ⟨⟨px, py⟩, ⟨nx, ny⟩, m⟩ := ct
          obtain ⟨hp, hq, hx, hy, hm⟩ := hco
          dsimp only at a0 a1 c0 c1 c2 c3 c4 hp hq hx hy hm
          obtain ⟨hm1, hm2⟩ := hm
          have i1 : (k : Int) < (C.length : Int) := by omega
          have i2 : (k : Int) < (F.length : Int) := by omega
          have FE := Lib.hid (show R = if inB n 0 m = false then ((k : Int), 2) else if stB fn fd m n t = false then ((k : Int), 22) else chF fn fd (k + 1) (C.drop (k + 1)) (F.drop (k + 1)) (afP (b0, b1, b2) ((px, py), (nx, ny), m) n t) from by rw [hf.out, D1.out, D2.out]; rfl)
          have zz0 := hH.cell 0; have zz1 := hH.cell 1; have zz2 := hH.cell 2; have zz3 := hH.cell 3; have zz4 := hH.cell 4; have zz5 := hH.cell 5
          have v0 := hT.cell 0; have v1 := hT.cell 1; have v2 := hT.cell 2
          have fT := hT.froz
          simp at zz0 zz1 zz2 zz3 zz4 zz5 v0 v1 v2
          cases hi : inB n 0 m
          · have HR3 := Lib.hid (show R = ((k : Int), 2) by rw [FE.out, if_pos hi])
            clear FE
            go_wp2_with (first | (go_at_call 93; (with_reducible refine (within_w _ _ _ _).mono ?_); rintro e w' ⟨rfl, rfl⟩) | fail)
            go_ret2
            exact ⟨ret_ii (by rw [HR3.out]) (by rw [HR3.out]), by exact bB1 hB⟩
          · obtain ⟨hn1, hn2⟩ := inB_true.1 hi
            cases ht : inB t (-m) m
            · have HR3 := Lib.hid (show R = ((k : Int), 22) by rw [FE.out, if_neg (by simp [hi]), if_pos (by unfold stB; rw [ht]; simp)])
              clear FE
              go_wp2_with (first | (go_at_call 93; (with_reducible refine (within_w _ _ _ _).mono ?_); rintro e w' ⟨rfl, rfl⟩) | (go_at_call 94; (with_reducible refine (isSized_c _ _ _ (by omega) (by omega)).mono ?_); rintro e w' ⟨rfl, rfl⟩) | fail)
              go_ret2
              exact ⟨ret_ii (by rw [HR3.out]) (by rw [HR3.out]), by exact bB1 hB⟩
            · obtain ⟨ht1, ht2⟩ := inB_true.1 ht
              have HB2 := Lib.hid (show balOk 1000 (b0, b1, b2) by
                obtain ⟨x1, x2, x3⟩ := hbal.out
                have := hC3
                have : k < 3 := by omega
                simp only [balOk] at x1 x2 x3 ⊢
                refine ⟨?_, ?_, ?_⟩ <;> omega)
              cases hS : stB fn fd m n t
              · have HR3 := Lib.hid (show R = ((k : Int), 22) by rw [FE.out, if_neg (by simp [hi]), if_pos hS])
                have STc := Lib.hid (fun W => sticks_b hS C (some ⟨bC, oC, none⟩) cC l0 l1 l2 px py nx ny W (by omega) (by omega) (by omega) (by omega) (by omega))
                clear FE
                go_wp2_with (first | (go_at_call 93; (with_reducible refine (within_w _ _ _ _).mono ?_); rintro e w' ⟨rfl, rfl⟩) | (go_at_call 94; (with_reducible refine (isSized_c _ _ _ (by omega) (by omega)).mono ?_); rintro e w' ⟨rfl, rfl⟩) | (go_at_call 95; (refine (STc.out _).mono ?_); rintro e w3 ⟨rfl, hb3⟩; have hz3 : wr.heap.size + 1 + 1 ≤ w3.heap.size := (by have := hb3.size; (try simp at this); omega); have y3 : Box w3 gT 147 #[.int .i64 b0, .int .i64 b1, .int .i64 b2] := (by exact bX1 hb3); have y4 : Box w3 wr.heap.size 22 #[.int .i64 n, .int .i64 t] := (by exact bX1 hb3); have y8 : Box w3 (wr.heap.size + 1) 69 #[.int .i64 px, .int .i64 py, .int .i64 nx, .int .i64 ny, .int .i64 m] := (by exact bX1 hb3); have q0 := y3.cell 0; have q1 := y3.cell 1; have q2 := y3.cell 2; have p0 := y4.cell 0; have p1 := y4.cell 1; have r0 := y8.cell 0; have r1 := y8.cell 1; have r2 := y8.cell 2; have r3 := y8.cell 3; have r4 := y8.cell 4; have fq := y3.froz; have lq := y3.lt; (simp at p0 p1 q0 q1 q2 r0 r1 r2 r3 r4)) | fail)
                go_ret2
                exact ⟨ret_ii (by rw [HR3.out]) (by rw [HR3.out]), by exact bB2 hb3 hB⟩
              · have HR3 := Lib.hid (show R = chF fn fd (k + 1) (C.drop (k + 1)) (F.drop (k + 1)) (afP (b0, b1, b2) ((px, py), (nx, ny), m) n t) by rw [FE.out, if_neg (by simp [hi]), if_neg (by simp [hS])])
                have STc := Lib.hid (fun W => sticks_b hS C (some ⟨bC, oC, none⟩) cC l0 l1 l2 px py nx ny W (by omega) (by omega) (by omega) (by omega) (by omega))
                have AFc := Lib.hid (fun W => after_c b0 b1 b2 px py nx ny m n t W (by obtain ⟨x1, x2, x3⟩ := HB2.out; dsimp only at x1 x2 x3; refine ⟨?_, ?_, ?_⟩ <;> omega) (by omega) (by omega) hx hy hp hq)
                have HBN := Lib.hid (show balOk (10 + 200 * (k + 1)) (afP (b0, b1, b2) ((px, py), (nx, ny), m) n t) from afP_ok hbal.out (c := ((px, py), (nx, ny), m)) ⟨hp, hq, hx, hy, hm1, hm2⟩ (by omega) (by omega))
                clear FE
                generalize afP (b0, b1, b2) ((px, py), (nx, ny), m) n t = ap at *
                obtain ⟨z0, z1, z2⟩ := ap
                dsimp only at AFc
                go_wp2_with (first | (go_at_call 93; (with_reducible refine (within_w _ _ _ _).mono ?_); rintro e w' ⟨rfl, rfl⟩) | (go_at_call 94; (with_reducible refine (isSized_c _ _ _ (by omega) (by omega)).mono ?_); rintro e w' ⟨rfl, rfl⟩) | (go_at_call 95; (refine (STc.out _).mono ?_); rintro e w3 ⟨rfl, hb3⟩; have hz3 : wr.heap.size + 1 + 1 ≤ w3.heap.size := (by have := hb3.size; (try simp at this); omega); have y3 : Box w3 gT 147 #[.int .i64 b0, .int .i64 b1, .int .i64 b2] := (by exact bX1 hb3); have y4 : Box w3 wr.heap.size 22 #[.int .i64 n, .int .i64 t] := (by exact bX1 hb3); have y8 : Box w3 (wr.heap.size + 1) 69 #[.int .i64 px, .int .i64 py, .int .i64 nx, .int .i64 ny, .int .i64 m] := (by exact bX1 hb3); have q0 := y3.cell 0; have q1 := y3.cell 1; have q2 := y3.cell 2; have p0 := y4.cell 0; have p1 := y4.cell 1; have r0 := y8.cell 0; have r1 := y8.cell 1; have r2 := y8.cell 2; have r3 := y8.cell 3; have r4 := y8.cell 4; have fq := y3.froz; have lq := y3.lt; (simp at p0 p1 q0 q1 q2 r0 r1 r2 r3 r4)) | (go_at_call 96; (with_reducible refine (AFc.out _).mono ?_); rintro e w4 ⟨rfl, hb4⟩; have hz4 : w3.heap.size ≤ w4.heap.size := (by have := hb4.size; (try simp at this); omega); have z3 : Box w4 gT 147 #[.int .i64 b0, .int .i64 b1, .int .i64 b2] := (by exact bX1 hb4); have s0 := z3.cell 0; have s1 := z3.cell 1; have s2 := z3.cell 2; have fs := z3.froz; have ls := z3.lt; (simp at s0 s1 s2)) | fail)
                go_roundw
                case rel => exact ⟨k + 1, z0, z1, z2, by omega, by go_num, HR3.out, HBN.out, by exact bX2 hb3 hb4, by exact bX2 hb3 hb4, by exact bB3 hb3 hb4 hB⟩
                case measure => simp [intOf]; omega
        · have e : C.drop k = [] := List.drop_eq_nil_of_le (by have := HL.out; omega)
          have HR3 := Lib.hid (show R = (0, unl (sameB b0 b1 b2 0 0 0) 19) by
            rw [hf.out, e, chF]
            by_cases hz : (b0, b1, b2) = ((0 : Int), (0 : Int), (0 : Int))
            · rw [if_pos hz]; simp [sameB, hz, unl]
            · rw [if_neg hz]; simp [sameB, hz, unl]
            · intro c C f F hc; cases hc)
          have v0 := hT.cell 0; have v1 := hT.cell 1; have v2 := hT.cell 2
          simp at v0 v1 v2
          go_wp2_with (first | (go_at_call 84; (with_reducible refine (unless_c _ _ _).mono ?_); rintro e w' ⟨rfl, rfl⟩) | fail)
          go_ret2
          exact ⟨ret_ii (by rw [HR3.out]) (by rw [HR3.out]), by exact bB1 hB⟩
    · have e1 : (ce != 0) = true := bneT h0
      have HR2 := Lib.hid (show R = (0, ce) by rw [HR.out, if_pos h0])
      clear HR h0
      go_wp2_with fail
      go_ret2
      exact ⟨ret_ii (by rw [HR2.out]) (by rw [HR2.out]), by exact bB1 hB1⟩

end Go.Proofs.YtpnfgmgoafgcbaaGreat

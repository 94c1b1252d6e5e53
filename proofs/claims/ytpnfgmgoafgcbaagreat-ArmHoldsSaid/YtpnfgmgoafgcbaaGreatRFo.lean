/-
  ForcesErr of the reference (chapter 6).
-/
import Derived.Test.YtpnfgmgoafgcbaaGreatRHd
import Derived.Test.YtpnfgmgoafgcbaaGreatRAd
import Derived.Test.YtpnfgmgoafgcbaaGreatLate
set_option linter.unusedVariables false
namespace Go.Proofs.YtpnfgmgoafgcbaaGreat
open Go.RowKit
attribute [local go_sem] Oper.semAt_some
theorem ihB_st {fn fd m n t : Int} (hf : 0 ≤ fn) (hd : 0 ≤ fd) : ihB fn fd m n t = stB fn fd m n t := by
  unfold ihB stB
  rw [Bool.eq_iff_iff]
  simp only [Bool.and_eq_true, decide_eq_true_eq, inB_true]
  have e : max t (-t) * fd = max (t * fd) (-(t * fd)) := by
    by_cases h : 0 ≤ t
    · rw [Int.max_eq_left (by omega), Int.max_eq_left]
      have := Int.mul_nonneg h hd
      omega
    · rw [Int.max_eq_right (by omega), Int.max_eq_right]
      · rw [Int.neg_mul]
      · have := Int.mul_nonneg (show 0 ≤ -t by omega) hd
        rw [Int.neg_mul] at this
        omega
  rw [e]
  generalize t * fd = a
  generalize fn * n = b
  omega
theorem neq_b3 (a b c x y z : Int) (w : World) : (binOp .neq 51 (.agg #[.int .i64 a, .int .i64 b, .int .i64 c]) (.agg #[.int .i64 x, .int .i64 y, .int .i64 z])).run Tryz.prog w = .ok (.bool (!sameB a b c x y z)) w := by
  have h := run_equalIn_ints 9998 51 3 [a, b, c] [x, y, z] w Tryz.underlying51 rfl rfl
  rw [run_neq_struct, show (10000 : Nat) = 9998 + 1 + 1 from rfl]
  rw [show Value.agg #[.int .i64 a, .int .i64 b, .int .i64 c] = .agg (([a, b, c].map (Value.int .i64)).toArray) from rfl, show Value.agg #[.int .i64 x, .int .i64 y, .int .i64 z] = .agg (([x, y, z].map (Value.int .i64)).toArray) from rfl, h]
  simp [sameB]
attribute [local go_sem ↓] neq_b3
set_option maxHeartbeats 8000000 in
set_option maxRecDepth 100000 in
theorem rForcesErr_c (C : List Ct) (F : List (Int × Int)) (AC A : Option Addr) (cC c : Nat) (fn fd l0 l1 l2 : Int) (w : World) (hn : C.length ≤ 1000) (hF : F.length ≤ 100000) (hs : SlV w AC (C.flatMap ctV)) (hsF : SlV w A (F.flatMap ceV)) (h1 : -9223372036854775808 ≤ fn ∧ fn ≤ 9223372036854775807) (h2 : -9223372036854775808 ≤ fd ∧ fd ≤ 9223372036854775807) :
    Calls Tryz.prog 26 #[.agg #[.slice AC C.length cC, .int .i64 fn, .int .i64 fd, .int .i64 l0, .int .i64 l1, .int .i64 l2], .slice A F.length c] w fun e w' => e = .returned (.tuple #[.int .i64 (chP ⟨C, fn, fd, (l0, l1, l2)⟩ F).1, .int .i64 (chP ⟨C, fn, fd, (l0, l1, l2)⟩ F).2]) ∧ Below w.heap.size w w' := by
  have RHc := Lib.hid (fun W (h : Below w.heap.size w W) => rHoldErr_c C AC cC fn fd l0 l1 l2 W hn (hs.below h) h1 h2)
  have HCE := Lib.hid (show chE ⟨C, fn, fd, (l0, l1, l2)⟩ F = fstE [hdE ⟨C, fn, fd, (l0, l1, l2)⟩, unl (decide ((F.length : Int) = (C.length : Int))) 10] from rfl)
  have HR := Lib.hid (show chP ⟨C, fn, fd, (l0, l1, l2)⟩ F = if chE ⟨C, fn, fd, (l0, l1, l2)⟩ F ≠ 0 then (0, chE ⟨C, fn, fd, (l0, l1, l2)⟩ F) else chF fn fd 0 C F (l0, l1, l2) from rfl)
  have HO := Lib.hid (fun (h0 : hdE ⟨C, fn, fd, (l0, l1, l2)⟩ = 0) => hdE_ok h0)
  have HS := Lib.hid hs
  have HSF := Lib.hid hsF
  clear hs hsF
  generalize chP ⟨C, fn, fd, (l0, l1, l2)⟩ F = R at *
  generalize chE ⟨C, fn, fd, (l0, l1, l2)⟩ F = ce at *
  generalize hdE ⟨C, fn, fd, (l0, l1, l2)⟩ = he at *
  by_cases h0 : he = 0
  · have e1 : (he != 0) = false := bneF h0
    have hok := HO.out h0
    by_cases hlen : F.length = C.length
    · have e2 : ((F.length : Int) != (C.length : Int)) = false := bneF (by omega)
      have HR2 := Lib.hid (show R = chF fn fd 0 C F (l0, l1, l2) by
        have hc0 : ce = 0 := by rw [HCE.out, h0, hlen]; simp [fstE, unl]
        rw [HR.out, if_neg (by simp [hc0])])
      have hCl := hok.len
      have hCt := Lib.hid hok.ct
      obtain ⟨hf1, hf2⟩ := hok.fn
      obtain ⟨hd1, hd2⟩ := hok.fd
      have hl6 := hok.l
      dsimp only at hCl hf1 hf2 hd1 hd2
      have HL := Lib.hid hlen
      have HB0 := Lib.hid (show balOk (10 + 200 * 0) (l0, l1, l2) by
        obtain ⟨x1, x2, x3⟩ := hl6
        simp only [balOk] at x1 x2 x3 ⊢
        refine ⟨?_, ?_, ?_⟩ <;> simp <;> omega)
      obtain ⟨hC1, hC3⟩ := hCl
      clear HR h0 hok hlen HO hl6 HCE
      go_enter Tryz.func26, Tryz.ntmps26
      go_wp2_with (first | (go_at_call 27; (with_reducible refine (RHc.out _ (by exact bB0)).mono ?_); rintro e w2 ⟨rfl, hb2⟩; have hz2 : w.heap.size < w2.heap.size := (by have := hb2.size; (try simp at this); omega); have y2 : Box w2 w.heap.size 53 #[.slice AC C.length cC, .int .i64 fn, .int .i64 fd, .int .i64 l0, .int .i64 l1, .int .i64 l2] := (by exact bX1 hb2); have p0 := y2.cell 0; have p1 := y2.cell 1; have p2 := y2.cell 2; have p3 := y2.cell 3; have p4 := y2.cell 4; have p5 := y2.cell 5; (simp at p0 p1 p2 p3 p4 p5); have lw2 := y2.lt) | fail)
      go_loopw [8] (fun i wr => ∃ (k : Nat) (b0 b1 b2 : Int), k ≤ F.length ∧ i = .int .i64 k ∧ Hid (R = chF fn fd k (C.drop k) (F.drop k) (b0, b1, b2)) ∧ Hid (balOk (10 + 200 * k) (b0, b1, b2)) ∧ Box wr w2.heap.size 51 #[.int .i64 b0, .int .i64 b1, .int .i64 b2] ∧ Box wr w.heap.size 53 #[.slice AC C.length cC, .int .i64 fn, .int .i64 fd, .int .i64 l0, .int .i64 l1, .int .i64 l2] ∧ Below w.heap.size w wr) (fun i _ => F.length - (intOf i).toNat)
      case atStart => exact ⟨0, l0, l1, l2, Nat.zero_le _, rfl, HR2.out, HB0.out, by exact bX1 hb2, by exact bX1 hb2, by exact bB1 hb2⟩
      case round =>
        obtain ⟨k, b0, b1, b2, hk, rfl, hf, hbal, hT, hH, hB⟩ := hrel
        clear HR2 HB0 RHc y2 p0 p1 p2 p3 p4 p5 hb2
        generalize w2.heap.size = gT at *
        generalize wr = W6 at *
        have lT := hT.lt; have lH := hH.lt
        by_cases hlt : k < F.length
        · have hkC : k < C.length := by have := HL.out; omega
          have hck := Lib.hid (List.getElem?_eq_getElem hkC)
          have HSW := Lib.hid (HS.out.below hB)
          obtain ⟨b, off, rfl, hb, a0, a1⟩ := ce_cells (HSF.out.below hB) (List.getElem?_eq_getElem hlt)
          obtain ⟨bC, oC, rfl, hbC, c0, c1, c2, c3, c4⟩ := ct_cells (HS.out.below hB) (List.getElem?_eq_getElem hkC)
          have hco := hCt.out _ (List.getElem_mem hkC)
          have D1 := Lib.hid (List.drop_eq_getElem_cons hlt)
          have D2 := Lib.hid (List.drop_eq_getElem_cons hkC)
          generalize F[k] = f at *
          generalize C[k] = ct at *
          obtain ⟨n, t⟩ := f
          obtain ⟨⟨px, py⟩, ⟨nx, ny⟩, m⟩ := ct
          obtain ⟨hp, hq, hx, hy, hm⟩ := hco
          dsimp only at a0 a1 c0 c1 c2 c3 c4 hp hq hx hy hm
          obtain ⟨hm1, hm2⟩ := hm
          have i1 : (k : Int) < (C.length : Int) := by omega
          have i2 : (k : Int) < (F.length : Int) := by omega
          have FE := Lib.hid (show R = if inB n 0 m = false then ((k : Int), 2) else if stB fn fd m n t = false then ((k : Int), 22) else chF fn fd (k + 1) (C.drop (k + 1)) (F.drop (k + 1)) (afP (b0, b1, b2) ((px, py), (nx, ny), m) n t) from by rw [hf.out, D1.out, D2.out]; rfl)
          have zz0 := hH.cell 0; have zz1 := hH.cell 1; have zz2 := hH.cell 2; have zz3 := hH.cell 3; have zz4 := hH.cell 4; have zz5 := hH.cell 5
          have tt0 := hT.cell 0; have tt1 := hT.cell 1; have tt2 := hT.cell 2
          have fT := hT.froz
          simp at zz0 zz1 zz2 zz3 zz4 zz5 tt0 tt1 tt2
          cases hi : inB n 0 m
          · have HR3 := Lib.hid (show R = ((k : Int), 2) by rw [FE.out, if_pos hi])
            clear FE
            go_wp2
            go_quiet ((go_at_call 40; exact Calls.quiet_of_same ((within_b _ _ _ _).mono fun _ _ h => ⟨h.1, h.2.symm⟩)))
            go_wp2
            go_ret2
            exact ⟨ret_ii (by rw [HR3.out]) (by rw [HR3.out]), by exact bB1 hB⟩
          · obtain ⟨hn1, hn2⟩ := inB_true.1 hi
            cases ht : inB t (-6) 6
            · have HR3 := Lib.hid (show R = ((k : Int), 22) by
                rw [FE.out, if_neg (by simp [hi]), if_pos]
                unfold stB
                have : inB t (-m) m = false := by rw [inB_false] at ht ⊢; omega
                rw [this]; simp)
              clear FE
              go_wp2
              go_quiet ((go_at_call 40; exact Calls.quiet_of_same ((within_b _ _ _ _).mono fun _ _ h => ⟨h.1, h.2.symm⟩)))
              go_wp2
              (refine region_open (by kernel_rfl) (fun R hR => ?_); refine heldR (S := (fun w' => Below W6.heap.size W6 w')) ?_ (fun hHeld => ?_); (focus ((try dsimp only); (((first | exact bB0 | exact bB0))))); refine rgN 0 rfl ?_; (try simp only [Act.put, pqs]); refine rgN 1 rfl ?_; (try simp only [Act.put, pqs]); refine rgN 2 rfl ?_; (try simp only [Act.put, pqs]); refine rgN 3 rfl ?_; (try simp only [Act.put, pqs]); refine rgT 4 ?_ rfl (fun w' hSw => ?_) ?_; rotate_left; (focus ((try dsimp only at hSw); (have hcc := (bcell hSw).1; have sa0 := (hcc _ 0 lH).trans zz0; have sa1 := (hcc _ 1 lH).trans zz1; have sa2 := (hcc _ 2 lH).trans zz2; have sa3 := (hcc _ 3 lH).trans zz3; have sa4 := (hcc _ 4 lH).trans zz4; have sa5 := (hcc _ 5 lH).trans zz5; have sb0 := (hcc _ 0 lT).trans tt0; have sb1 := (hcc _ 1 lT).trans tt1; have sb2 := (hcc _ 2 lT).trans tt2; have sf0 := (hcc _ _ hb).trans a0; have sf1 := (hcc _ _ hb).trans a1; have sc0 := (hcc _ _ hbC).trans c0; have sc1 := (hcc _ _ hbC).trans c1; have sc2 := (hcc _ _ hbC).trans c2; have sc3 := (hcc _ _ hbC).trans c3; have sc4 := (hcc _ _ hbC).trans c4); go_simp; (try with_reducible rfl))); (try simp only [Act.put, pqs]); refine rgC 5 rfl (fun K hK => ?_); go_simp; ((go_at_call 40; (with_reducible refine (within_b _ _ _ _).mono ?_); rintro e w' ⟨rfl, rfl⟩)); go_simp; refine hK.out _ _ ?_ (fun hHeld => ?_); (focus ((try dsimp only); (((first | exact bB0 | exact bB0))))); clear hK K; (try simp only [Act.put, pqs]); refine rgN 6 rfl ?_; (try simp only [Act.put, pqs]); refine rgN 7 rfl ?_; (try simp only [Act.put, pqs]); refine tsH (i := 8) rfl (by assumption) ?_; (try simp only [Act.put, pqs]); refine tsH (i := 9) rfl (by assumption) ?_; (try simp only [Act.put, pqs]); refine tsH (i := 10) rfl (by assumption) ?_; (try simp only [Act.put, pqs]); refine tsH (i := 11) rfl (by assumption) ?_; (try simp only [Act.put, pqs]); refine tsH (i := 12) rfl (by assumption) ?_; (try simp only [Act.put, pqs]); refine tsH (i := 13) rfl (by assumption) ?_; (try simp only [Act.put, pqs]); refine tsH (i := 14) rfl (by assumption) ?_; (try simp only [Act.put, pqs]); refine tsH (i := 15) rfl (by assumption) ?_; (try simp only [Act.put, pqs]); refine tsH (i := 16) rfl (by assumption) ?_; (try simp only [Act.put, pqs]); refine tsH (i := 17) rfl (by assumption) ?_; (try simp only [Act.put, pqs]); refine tsH (i := 18) rfl (by assumption) ?_; (try simp only [Act.put, pqs]); refine tsH (i := 19) rfl (by assumption) ?_; (try simp only [Act.put, pqs]); refine tsH (i := 20) rfl (by assumption) ?_; (try simp only [Act.put, pqs]); refine tsH (i := 21) rfl (by assumption) ?_; (try simp only [Act.put, pqs]); refine rgN 22 rfl ?_; (try simp only [Act.put, pqs]); refine wpAnyH_done (Q := fun e a w => e = Exit.normal ∧ R a w) (by kernel_rfl) ⟨rfl, hR _ _ ?_⟩ _; clear hR R)
              go_wp2
              go_ret2
              exact ⟨ret_ii (by rw [HR3.out]) (by rw [HR3.out]), by exact bB1 hB⟩
            · obtain ⟨ht1, ht2⟩ := inB_true.1 ht
              have IHd := Lib.hid (fun W (h : SlV W (some ⟨bC, oC, none⟩) (C.flatMap ctV)) => isHeld_c C (some ⟨bC, oC, none⟩) cC fn fd l0 l1 l2 px py nx ny m n t k W h hck.out (by omega) (by omega) (by omega) (by omega) (by omega))
              rw [ihB_st (by omega) (by omega)] at IHd
              cases hS : stB fn fd m n t
              · have HR3 := Lib.hid (show R = ((k : Int), 22) by rw [FE.out, if_neg (by simp [hi]), if_pos hS])
                have IHc := IHd
                rw [hS] at IHc
                clear FE IHd
                go_wp2
                go_quiet ((go_at_call 40; exact Calls.quiet_of_same ((within_b _ _ _ _).mono fun _ _ h => ⟨h.1, h.2.symm⟩)))
                go_wp2
                (refine region_open (by kernel_rfl) (fun R hR => ?_); refine heldR (S := (fun w' => Below W6.heap.size W6 w')) ?_ (fun hHeld => ?_); (focus ((try dsimp only); (((first | exact bB0 | exact bB1 hb3))))); refine rgN 0 rfl ?_; (try simp only [Act.put, pqs]); refine rgN 1 rfl ?_; (try simp only [Act.put, pqs]); refine rgN 2 rfl ?_; (try simp only [Act.put, pqs]); refine rgN 3 rfl ?_; (try simp only [Act.put, pqs]); refine rgT 4 ?_ rfl (fun w' hSw => ?_) ?_; rotate_left; (focus ((try dsimp only at hSw); (have hcc := (bcell hSw).1; have sa0 := (hcc _ 0 lH).trans zz0; have sa1 := (hcc _ 1 lH).trans zz1; have sa2 := (hcc _ 2 lH).trans zz2; have sa3 := (hcc _ 3 lH).trans zz3; have sa4 := (hcc _ 4 lH).trans zz4; have sa5 := (hcc _ 5 lH).trans zz5; have sb0 := (hcc _ 0 lT).trans tt0; have sb1 := (hcc _ 1 lT).trans tt1; have sb2 := (hcc _ 2 lT).trans tt2; have sf0 := (hcc _ _ hb).trans a0; have sf1 := (hcc _ _ hb).trans a1; have sc0 := (hcc _ _ hbC).trans c0; have sc1 := (hcc _ _ hbC).trans c1; have sc2 := (hcc _ _ hbC).trans c2; have sc3 := (hcc _ _ hbC).trans c3; have sc4 := (hcc _ _ hbC).trans c4); go_simp; (try with_reducible rfl))); (try simp only [Act.put, pqs]); refine rgC 5 rfl (fun K hK => ?_); go_simp; ((go_at_call 40; (with_reducible refine (within_b _ _ _ _).mono ?_); rintro e w' ⟨rfl, rfl⟩)); go_simp; refine hK.out _ _ ?_ (fun hHeld => ?_); (focus ((try dsimp only); (((first | exact bB1 hb3 | exact bB0))))); clear hK K; (try simp only [Act.put, pqs]); refine rgN 6 rfl ?_; (try simp only [Act.put, pqs]); refine rgN 7 rfl ?_; (try simp only [Act.put, pqs]); refine rgT 8 ?_ rfl (fun w' hSw => ?_) ?_; rotate_left; (focus ((try dsimp only at hSw); (have hcc := (bcell hSw).1; have sa0 := (hcc _ 0 lH).trans zz0; have sa1 := (hcc _ 1 lH).trans zz1; have sa2 := (hcc _ 2 lH).trans zz2; have sa3 := (hcc _ 3 lH).trans zz3; have sa4 := (hcc _ 4 lH).trans zz4; have sa5 := (hcc _ 5 lH).trans zz5; have sb0 := (hcc _ 0 lT).trans tt0; have sb1 := (hcc _ 1 lT).trans tt1; have sb2 := (hcc _ 2 lT).trans tt2; have sf0 := (hcc _ _ hb).trans a0; have sf1 := (hcc _ _ hb).trans a1; have sc0 := (hcc _ _ hbC).trans c0; have sc1 := (hcc _ _ hbC).trans c1; have sc2 := (hcc _ _ hbC).trans c2; have sc3 := (hcc _ _ hbC).trans c3; have sc4 := (hcc _ _ hbC).trans c4); go_simp; (try with_reducible rfl))); (try simp only [Act.put, pqs]); refine rgN 9 rfl ?_; (try simp only [Act.put, pqs]); refine rgN 10 rfl ?_; (try simp only [Act.put, pqs]); refine rgN 11 rfl ?_; (try simp only [Act.put, pqs]); refine rgN 12 rfl ?_; (try simp only [Act.put, pqs]); refine rgN 13 rfl ?_; (try simp only [Act.put, pqs]); refine rgT 14 ?_ rfl (fun w' hSw => ?_) ?_; rotate_left; (focus ((try dsimp only at hSw); (have hcc := (bcell hSw).1; have sa0 := (hcc _ 0 lH).trans zz0; have sa1 := (hcc _ 1 lH).trans zz1; have sa2 := (hcc _ 2 lH).trans zz2; have sa3 := (hcc _ 3 lH).trans zz3; have sa4 := (hcc _ 4 lH).trans zz4; have sa5 := (hcc _ 5 lH).trans zz5; have sb0 := (hcc _ 0 lT).trans tt0; have sb1 := (hcc _ 1 lT).trans tt1; have sb2 := (hcc _ 2 lT).trans tt2; have sf0 := (hcc _ _ hb).trans a0; have sf1 := (hcc _ _ hb).trans a1; have sc0 := (hcc _ _ hbC).trans c0; have sc1 := (hcc _ _ hbC).trans c1; have sc2 := (hcc _ _ hbC).trans c2; have sc3 := (hcc _ _ hbC).trans c3; have sc4 := (hcc _ _ hbC).trans c4); go_simp; (try with_reducible rfl))); (try simp only [Act.put, pqs]); refine rgN 15 rfl ?_; (try simp only [Act.put, pqs]); refine rgN 16 rfl ?_; (try simp only [Act.put, pqs]); refine rgN 17 rfl ?_; (try simp only [Act.put, pqs]); refine rgN 18 rfl ?_; (try simp only [Act.put, pqs]); refine rgT 19 ?_ rfl (fun w' hSw => ?_) ?_; rotate_left; (focus ((try dsimp only at hSw); (have hcc := (bcell hSw).1; have sa0 := (hcc _ 0 lH).trans zz0; have sa1 := (hcc _ 1 lH).trans zz1; have sa2 := (hcc _ 2 lH).trans zz2; have sa3 := (hcc _ 3 lH).trans zz3; have sa4 := (hcc _ 4 lH).trans zz4; have sa5 := (hcc _ 5 lH).trans zz5; have sb0 := (hcc _ 0 lT).trans tt0; have sb1 := (hcc _ 1 lT).trans tt1; have sb2 := (hcc _ 2 lT).trans tt2; have sf0 := (hcc _ _ hb).trans a0; have sf1 := (hcc _ _ hb).trans a1; have sc0 := (hcc _ _ hbC).trans c0; have sc1 := (hcc _ _ hbC).trans c1; have sc2 := (hcc _ _ hbC).trans c2; have sc3 := (hcc _ _ hbC).trans c3; have sc4 := (hcc _ _ hbC).trans c4); go_simp; (try with_reducible rfl))); (try simp only [Act.put, pqs]); refine rgC 20 rfl (fun K hK => ?_); go_simp; ((go_at_call 97; (refine (IHc.out _ (HSW.out.below ?_)).mono ?_; rotate_left; rintro e w3 ⟨rfl, hb3⟩; rotate_left; (focus (exact bB0))))); go_simp; refine hK.out _ _ ?_ (fun hHeld => ?_); (focus ((try dsimp only); (((first | exact bB1 hb3 | exact bB0))))); clear hK K; (try simp only [Act.put, pqs]); refine rgN 21 rfl ?_; (try simp only [Act.put, pqs]); refine rgN 22 rfl ?_; (try simp only [Act.put, pqs]); refine wpAnyH_done (Q := fun e a w => e = Exit.normal ∧ R a w) (by kernel_rfl) ⟨rfl, hR _ _ ?_⟩ _; clear hR R)
                go_wp2
                go_ret2
                exact ⟨ret_ii (by rw [HR3.out]) (by rw [HR3.out]), by exact bB2 hb3 hB⟩
              · have HR3 := Lib.hid (show R = chF fn fd (k + 1) (C.drop (k + 1)) (F.drop (k + 1)) (afP (b0, b1, b2) ((px, py), (nx, ny), m) n t) by rw [FE.out, if_neg (by simp [hi]), if_neg (by simp [hS])])
                have IHc := IHd
                rw [hS] at IHc
                have HB2 := Lib.hid (show balOk 1000 (b0, b1, b2) by
                  obtain ⟨x1, x2, x3⟩ := hbal.out
                  have := hC3
                  have : k < 3 := by omega
                  simp only [balOk] at x1 x2 x3 ⊢
                  refine ⟨?_, ?_, ?_⟩ <;> omega)
                have ADc := Lib.hid (fun W => added_c b0 b1 b2 px py nx ny m n t W (by obtain ⟨x1, x2, x3⟩ := HB2.out; dsimp only at x1 x2 x3; refine ⟨?_, ?_, ?_⟩ <;> omega) (by omega) (by omega) hx hy hp hq)
                have HBN := Lib.hid (show balOk (10 + 200 * (k + 1)) (afP (b0, b1, b2) ((px, py), (nx, ny), m) n t) from afP_ok hbal.out (c := ((px, py), (nx, ny), m)) ⟨hp, hq, hx, hy, hm1, hm2⟩ (by omega) (by omega))
                clear FE IHd
                generalize afP (b0, b1, b2) ((px, py), (nx, ny), m) n t = ap at *
                obtain ⟨z0, z1, z2⟩ := ap
                dsimp only at ADc
                go_wp2
                go_quiet ((go_at_call 40; exact Calls.quiet_of_same ((within_b _ _ _ _).mono fun _ _ h => ⟨h.1, h.2.symm⟩)))
                go_wp2
                (refine region_open (by kernel_rfl) (fun R hR => ?_); refine heldR (S := (fun w' => Below W6.heap.size W6 w')) ?_ (fun hHeld => ?_); (focus ((try dsimp only); (((first | exact bB0 | exact bB1 hb3))))); refine rgN 0 rfl ?_; (try simp only [Act.put, pqs]); refine rgN 1 rfl ?_; (try simp only [Act.put, pqs]); refine rgN 2 rfl ?_; (try simp only [Act.put, pqs]); refine rgN 3 rfl ?_; (try simp only [Act.put, pqs]); refine rgT 4 ?_ rfl (fun w' hSw => ?_) ?_; rotate_left; (focus ((try dsimp only at hSw); (have hcc := (bcell hSw).1; have sa0 := (hcc _ 0 lH).trans zz0; have sa1 := (hcc _ 1 lH).trans zz1; have sa2 := (hcc _ 2 lH).trans zz2; have sa3 := (hcc _ 3 lH).trans zz3; have sa4 := (hcc _ 4 lH).trans zz4; have sa5 := (hcc _ 5 lH).trans zz5; have sb0 := (hcc _ 0 lT).trans tt0; have sb1 := (hcc _ 1 lT).trans tt1; have sb2 := (hcc _ 2 lT).trans tt2; have sf0 := (hcc _ _ hb).trans a0; have sf1 := (hcc _ _ hb).trans a1; have sc0 := (hcc _ _ hbC).trans c0; have sc1 := (hcc _ _ hbC).trans c1; have sc2 := (hcc _ _ hbC).trans c2; have sc3 := (hcc _ _ hbC).trans c3; have sc4 := (hcc _ _ hbC).trans c4); go_simp; (try with_reducible rfl))); (try simp only [Act.put, pqs]); refine rgC 5 rfl (fun K hK => ?_); go_simp; ((go_at_call 40; (with_reducible refine (within_b _ _ _ _).mono ?_); rintro e w' ⟨rfl, rfl⟩)); go_simp; refine hK.out _ _ ?_ (fun hHeld => ?_); (focus ((try dsimp only); (((first | exact bB1 hb3 | exact bB0))))); clear hK K; (try simp only [Act.put, pqs]); refine rgN 6 rfl ?_; (try simp only [Act.put, pqs]); refine rgN 7 rfl ?_; (try simp only [Act.put, pqs]); refine rgT 8 ?_ rfl (fun w' hSw => ?_) ?_; rotate_left; (focus ((try dsimp only at hSw); (have hcc := (bcell hSw).1; have sa0 := (hcc _ 0 lH).trans zz0; have sa1 := (hcc _ 1 lH).trans zz1; have sa2 := (hcc _ 2 lH).trans zz2; have sa3 := (hcc _ 3 lH).trans zz3; have sa4 := (hcc _ 4 lH).trans zz4; have sa5 := (hcc _ 5 lH).trans zz5; have sb0 := (hcc _ 0 lT).trans tt0; have sb1 := (hcc _ 1 lT).trans tt1; have sb2 := (hcc _ 2 lT).trans tt2; have sf0 := (hcc _ _ hb).trans a0; have sf1 := (hcc _ _ hb).trans a1; have sc0 := (hcc _ _ hbC).trans c0; have sc1 := (hcc _ _ hbC).trans c1; have sc2 := (hcc _ _ hbC).trans c2; have sc3 := (hcc _ _ hbC).trans c3; have sc4 := (hcc _ _ hbC).trans c4); go_simp; (try with_reducible rfl))); (try simp only [Act.put, pqs]); refine rgN 9 rfl ?_; (try simp only [Act.put, pqs]); refine rgN 10 rfl ?_; (try simp only [Act.put, pqs]); refine rgN 11 rfl ?_; (try simp only [Act.put, pqs]); refine rgN 12 rfl ?_; (try simp only [Act.put, pqs]); refine rgN 13 rfl ?_; (try simp only [Act.put, pqs]); refine rgT 14 ?_ rfl (fun w' hSw => ?_) ?_; rotate_left; (focus ((try dsimp only at hSw); (have hcc := (bcell hSw).1; have sa0 := (hcc _ 0 lH).trans zz0; have sa1 := (hcc _ 1 lH).trans zz1; have sa2 := (hcc _ 2 lH).trans zz2; have sa3 := (hcc _ 3 lH).trans zz3; have sa4 := (hcc _ 4 lH).trans zz4; have sa5 := (hcc _ 5 lH).trans zz5; have sb0 := (hcc _ 0 lT).trans tt0; have sb1 := (hcc _ 1 lT).trans tt1; have sb2 := (hcc _ 2 lT).trans tt2; have sf0 := (hcc _ _ hb).trans a0; have sf1 := (hcc _ _ hb).trans a1; have sc0 := (hcc _ _ hbC).trans c0; have sc1 := (hcc _ _ hbC).trans c1; have sc2 := (hcc _ _ hbC).trans c2; have sc3 := (hcc _ _ hbC).trans c3; have sc4 := (hcc _ _ hbC).trans c4); go_simp; (try with_reducible rfl))); (try simp only [Act.put, pqs]); refine rgN 15 rfl ?_; (try simp only [Act.put, pqs]); refine rgN 16 rfl ?_; (try simp only [Act.put, pqs]); refine rgN 17 rfl ?_; (try simp only [Act.put, pqs]); refine rgN 18 rfl ?_; (try simp only [Act.put, pqs]); refine rgT 19 ?_ rfl (fun w' hSw => ?_) ?_; rotate_left; (focus ((try dsimp only at hSw); (have hcc := (bcell hSw).1; have sa0 := (hcc _ 0 lH).trans zz0; have sa1 := (hcc _ 1 lH).trans zz1; have sa2 := (hcc _ 2 lH).trans zz2; have sa3 := (hcc _ 3 lH).trans zz3; have sa4 := (hcc _ 4 lH).trans zz4; have sa5 := (hcc _ 5 lH).trans zz5; have sb0 := (hcc _ 0 lT).trans tt0; have sb1 := (hcc _ 1 lT).trans tt1; have sb2 := (hcc _ 2 lT).trans tt2; have sf0 := (hcc _ _ hb).trans a0; have sf1 := (hcc _ _ hb).trans a1; have sc0 := (hcc _ _ hbC).trans c0; have sc1 := (hcc _ _ hbC).trans c1; have sc2 := (hcc _ _ hbC).trans c2; have sc3 := (hcc _ _ hbC).trans c3; have sc4 := (hcc _ _ hbC).trans c4); go_simp; (try with_reducible rfl))); (try simp only [Act.put, pqs]); refine rgC 20 rfl (fun K hK => ?_); go_simp; ((go_at_call 97; (refine (IHc.out _ (HSW.out.below ?_)).mono ?_; rotate_left; rintro e w3 ⟨rfl, hb3⟩; rotate_left; (focus (exact bB0))))); go_simp; refine hK.out _ _ ?_ (fun hHeld => ?_); (focus ((try dsimp only); (((first | exact bB1 hb3 | exact bB0))))); clear hK K; (try simp only [Act.put, pqs]); refine rgN 21 rfl ?_; (try simp only [Act.put, pqs]); refine rgN 22 rfl ?_; (try simp only [Act.put, pqs]); refine wpAnyH_done (Q := fun e a w => e = Exit.normal ∧ R a w) (by kernel_rfl) ⟨rfl, hR _ _ ?_⟩ _; clear hR R)
                go_upto_region 14 with fail
                have G3 : Below W6.heap.size W6 w3 := by exact bB1 hb3
                (refine region_open (by kernel_rfl) (fun R hR => ?_); refine lateR (S := (fun w' => Below W6.heap.size W6 w')) 11 ?_ (fun hHeld => ?_); (focus ((try dsimp only); (((first | exact bB0 | exact bB1 hb4 | exact bB1 G3 | exact bB2 G3 hb4))))); refine wpAnyL_take (i := 0) (v := ?_) rfl (by kernel_rfl) (by kernel_rfl) (by kernel_rfl) (by kernel_rfl) (by kernel_rfl) (by kernel_rfl) (fun _ _ _ h => nomatch h.1) (.inl ⟨by kernel_rfl, fun w' hSw => ?_⟩) hHeld ?_; rotate_left; (focus ((try dsimp only at hSw); (have hcc := (bcell hSw).1; have sa0 := (hcc _ 0 lH).trans zz0; have sa1 := (hcc _ 1 lH).trans zz1; have sa2 := (hcc _ 2 lH).trans zz2; have sa3 := (hcc _ 3 lH).trans zz3; have sa4 := (hcc _ 4 lH).trans zz4; have sa5 := (hcc _ 5 lH).trans zz5; have sb0 := (hcc _ 0 lT).trans tt0; have sb1 := (hcc _ 1 lT).trans tt1; have sb2 := (hcc _ 2 lT).trans tt2; have sf0 := (hcc _ _ hb).trans a0; have sf1 := (hcc _ _ hb).trans a1; have sc0 := (hcc _ _ hbC).trans c0; have sc1 := (hcc _ _ hbC).trans c1; have sc2 := (hcc _ _ hbC).trans c2; have sc3 := (hcc _ _ hbC).trans c3; have sc4 := (hcc _ _ hbC).trans c4); go_simp; (try with_reducible rfl))); (try simp only [Act.put, pqs]); refine wpAnyL_pure (i := 1) (v := ?_) rfl (by kernel_rfl) (by kernel_rfl) (by kernel_rfl) (by kernel_rfl) (fun _ _ _ h => nomatch h.1) (.inl ⟨by kernel_rfl, fun w' _ => ?_⟩) (by first | exact (fun _ => hHeld) | exact late_absurd (by kernel_rfl)) ?_; rotate_left; (focus (go_simp; (try with_reducible rfl))); (try simp only [Act.put, pqs]); refine wpAnyL_take (i := 2) (v := ?_) rfl (by kernel_rfl) (by kernel_rfl) (by kernel_rfl) (by kernel_rfl) (by kernel_rfl) (by kernel_rfl) (fun _ _ _ h => nomatch h.1) (.inl ⟨by kernel_rfl, fun w' hSw => ?_⟩) hHeld ?_; rotate_left; (focus ((try dsimp only at hSw); (have hcc := (bcell hSw).1; have sa0 := (hcc _ 0 lH).trans zz0; have sa1 := (hcc _ 1 lH).trans zz1; have sa2 := (hcc _ 2 lH).trans zz2; have sa3 := (hcc _ 3 lH).trans zz3; have sa4 := (hcc _ 4 lH).trans zz4; have sa5 := (hcc _ 5 lH).trans zz5; have sb0 := (hcc _ 0 lT).trans tt0; have sb1 := (hcc _ 1 lT).trans tt1; have sb2 := (hcc _ 2 lT).trans tt2; have sf0 := (hcc _ _ hb).trans a0; have sf1 := (hcc _ _ hb).trans a1; have sc0 := (hcc _ _ hbC).trans c0; have sc1 := (hcc _ _ hbC).trans c1; have sc2 := (hcc _ _ hbC).trans c2; have sc3 := (hcc _ _ hbC).trans c3; have sc4 := (hcc _ _ hbC).trans c4); go_simp; (try with_reducible rfl))); (try simp only [Act.put, pqs]); refine wpAnyL_pure (i := 3) (v := ?_) rfl (by kernel_rfl) (by kernel_rfl) (by kernel_rfl) (by kernel_rfl) (fun _ _ _ h => nomatch h.1) (.inl ⟨by kernel_rfl, fun w' _ => ?_⟩) (by first | exact (fun _ => hHeld) | exact late_absurd (by kernel_rfl)) ?_; rotate_left; (focus (go_simp; (try with_reducible rfl))); (try simp only [Act.put, pqs]); refine wpAnyL_pure (i := 4) (v := ?_) rfl (by kernel_rfl) (by kernel_rfl) (by kernel_rfl) (by kernel_rfl) (fun _ _ _ h => nomatch h.1) (.inl ⟨by kernel_rfl, fun w' _ => ?_⟩) (by first | exact (fun _ => hHeld) | exact late_absurd (by kernel_rfl)) ?_; rotate_left; (focus (go_simp; (try with_reducible rfl))); (try simp only [Act.put, pqs]); refine wpAnyL_take (i := 5) (v := ?_) rfl (by kernel_rfl) (by kernel_rfl) (by kernel_rfl) (by kernel_rfl) (by kernel_rfl) (by kernel_rfl) (fun _ _ _ h => nomatch h.1) (.inl ⟨by kernel_rfl, fun w' hSw => ?_⟩) hHeld ?_; rotate_left; (focus ((try dsimp only at hSw); (have hcc := (bcell hSw).1; have sa0 := (hcc _ 0 lH).trans zz0; have sa1 := (hcc _ 1 lH).trans zz1; have sa2 := (hcc _ 2 lH).trans zz2; have sa3 := (hcc _ 3 lH).trans zz3; have sa4 := (hcc _ 4 lH).trans zz4; have sa5 := (hcc _ 5 lH).trans zz5; have sb0 := (hcc _ 0 lT).trans tt0; have sb1 := (hcc _ 1 lT).trans tt1; have sb2 := (hcc _ 2 lT).trans tt2; have sf0 := (hcc _ _ hb).trans a0; have sf1 := (hcc _ _ hb).trans a1; have sc0 := (hcc _ _ hbC).trans c0; have sc1 := (hcc _ _ hbC).trans c1; have sc2 := (hcc _ _ hbC).trans c2; have sc3 := (hcc _ _ hbC).trans c3; have sc4 := (hcc _ _ hbC).trans c4); go_simp; (try with_reducible rfl))); (try simp only [Act.put, pqs]); refine wpAnyL_pure (i := 6) (v := ?_) rfl (by kernel_rfl) (by kernel_rfl) (by kernel_rfl) (by kernel_rfl) (fun _ _ _ h => nomatch h.1) (.inl ⟨by kernel_rfl, fun w' _ => ?_⟩) (by first | exact (fun _ => hHeld) | exact late_absurd (by kernel_rfl)) ?_; rotate_left; (focus (go_simp; (try with_reducible rfl))); (try simp only [Act.put, pqs]); refine wpAnyL_pure (i := 7) (v := ?_) rfl (by kernel_rfl) (by kernel_rfl) (by kernel_rfl) (by kernel_rfl) (fun _ _ _ h => nomatch h.1) (.inl ⟨by kernel_rfl, fun w' _ => ?_⟩) (by first | exact (fun _ => hHeld) | exact late_absurd (by kernel_rfl)) ?_; rotate_left; (focus (go_simp; (try with_reducible rfl))); (try simp only [Act.put, pqs]); refine wpAnyL_pure (i := 8) (v := ?_) rfl (by kernel_rfl) (by kernel_rfl) (by kernel_rfl) (by kernel_rfl) (fun _ _ _ h => nomatch h.1) (.inl ⟨by kernel_rfl, fun w' _ => ?_⟩) (by first | exact (fun _ => hHeld) | exact late_absurd (by kernel_rfl)) ?_; rotate_left; (focus (go_simp; (try with_reducible rfl))); (try simp only [Act.put, pqs]); refine wpAnyL_take (i := 9) (v := ?_) rfl (by kernel_rfl) (by kernel_rfl) (by kernel_rfl) (by kernel_rfl) (by kernel_rfl) (by kernel_rfl) (fun _ _ _ h => nomatch h.1) (.inl ⟨by kernel_rfl, fun w' hSw => ?_⟩) hHeld ?_; rotate_left; (focus ((try dsimp only at hSw); (have hcc := (bcell hSw).1; have sa0 := (hcc _ 0 lH).trans zz0; have sa1 := (hcc _ 1 lH).trans zz1; have sa2 := (hcc _ 2 lH).trans zz2; have sa3 := (hcc _ 3 lH).trans zz3; have sa4 := (hcc _ 4 lH).trans zz4; have sa5 := (hcc _ 5 lH).trans zz5; have sb0 := (hcc _ 0 lT).trans tt0; have sb1 := (hcc _ 1 lT).trans tt1; have sb2 := (hcc _ 2 lT).trans tt2; have sf0 := (hcc _ _ hb).trans a0; have sf1 := (hcc _ _ hb).trans a1; have sc0 := (hcc _ _ hbC).trans c0; have sc1 := (hcc _ _ hbC).trans c1; have sc2 := (hcc _ _ hbC).trans c2; have sc3 := (hcc _ _ hbC).trans c3; have sc4 := (hcc _ _ hbC).trans c4); go_simp; (try with_reducible rfl))); (try simp only [Act.put, pqs]); refine wpAnyL_ready (rs := [10]) (by kernel_rfl) (by simp) ?_; refine AllReadyL.cons rfl (fun K hK => ?_) AllReadyL.nil; go_simp; ((first | (go_at_call 98; (with_reducible refine (ADc.out _).mono ?_); rintro e w4 ⟨rfl, hb4⟩; have hz4 : W6.heap.size ≤ w4.heap.size := (by have := hb4.size; have := G3.size; (try simp at *); omega); have y4 : Box w4 gT 51 #[.int .i64 b0, .int .i64 b1, .int .i64 b2] := (by exact bX2 G3 hb4); have r0 := y4.cell 0; have r1 := y4.cell 1; have r2 := y4.cell 2; have fr := y4.froz; have lr := y4.lt; (simp at r0 r1 r2)) | skip)); go_simp; refine hK.out _ _ ?_ (fun hHeld => ?_); (focus ((try dsimp only); (((first | exact bB2 G3 hb4 | exact bB1 G3 | exact bB1 hb4 | exact bB0))))); clear hK K; (try simp only [Act.put, pqs]); refine wpAnyL_ready (rs := [11]) (by kernel_rfl) (by simp) ?_; refine AllReadyL.late rfl (by kernel_rfl) (fun K hK => ?_) AllReadyL.nil; go_simp; ((first | (go_at_call 98; (with_reducible refine (ADc.out _).mono ?_); rintro e w4 ⟨rfl, hb4⟩; have hz4 : W6.heap.size ≤ w4.heap.size := (by have := hb4.size; have := G3.size; (try simp at *); omega); have y4 : Box w4 gT 51 #[.int .i64 b0, .int .i64 b1, .int .i64 b2] := (by exact bX2 G3 hb4); have r0 := y4.cell 0; have r1 := y4.cell 1; have r2 := y4.cell 2; have fr := y4.froz; have lr := y4.lt; (simp at r0 r1 r2)) | skip)); go_simp; refine hK.out _ _ ?_ (fun hHeld => ?_); (focus (exact trivial)); clear hK K; (try simp only [Act.put, pqs]); refine wpAnyL_done (Q := fun e a w => e = Exit.normal ∧ R a w) (by kernel_rfl) ⟨rfl, hR _ _ ?_⟩ _; clear hR R)
                go_wp2
                go_roundw
                case rel => exact ⟨k + 1, z0, z1, z2, by omega, by go_num, HR3.out, HBN.out, by exact bX2 G3 hb4, by exact bX2 G3 hb4, by exact bB3 G3 hb4 hB⟩
                case measure => simp [intOf]; omega
        · have e : C.drop k = [] := List.drop_eq_nil_of_le (by have := HL.out; omega)
          have v0 := hT.cell 0; have v1 := hT.cell 1; have v2 := hT.cell 2
          simp at v0 v1 v2
          cases hz : sameB b0 b1 b2 0 0 0
          · have HR3 := Lib.hid (show R = (0, 19) by
              rw [hf.out, e, chF, if_neg (by simpa [sameB] using hz)]
              intro c C f F hc; cases hc)
            go_wp2
            go_ret2
            exact ⟨ret_ii (by rw [HR3.out]) (by rw [HR3.out]), by exact bB1 hB⟩
          · have HR3 := Lib.hid (show R = (0, 0) by
              rw [hf.out, e, chF, if_pos (by simpa [sameB] using hz)]
              intro c C f F hc; cases hc)
            go_wp2
            go_ret2
            exact ⟨ret_ii (by rw [HR3.out]) (by rw [HR3.out]), by exact bB1 hB⟩
    · have e2 : ((F.length : Int) != (C.length : Int)) = true := bneT (by omega)
      have HR2 := Lib.hid (show R = (0, 10) by
        have hc0 : ce = 10 := by rw [HCE.out, h0]; simp [fstE, unl]; omega
        rw [HR.out, hc0]; rfl)
      clear HR h0 HO HCE hlen
      go_enter Tryz.func26, Tryz.ntmps26
      go_wp2_with (first | (go_at_call 27; (with_reducible refine (RHc.out _ (by exact bB0)).mono ?_); rintro e w2 ⟨rfl, hb2⟩; have hz2 : w.heap.size < w2.heap.size := (by have := hb2.size; (try simp at this); omega); have y2 : Box w2 w.heap.size 53 #[.slice AC C.length cC, .int .i64 fn, .int .i64 fd, .int .i64 l0, .int .i64 l1, .int .i64 l2] := (by exact bX1 hb2); have p0 := y2.cell 0; have p1 := y2.cell 1; have p2 := y2.cell 2; have p3 := y2.cell 3; have p4 := y2.cell 4; have p5 := y2.cell 5; (simp at p0 p1 p2 p3 p4 p5); have lw2 := y2.lt) | fail)
      go_ret2
      exact ⟨ret_ii (by rw [HR2.out]) (by rw [HR2.out]), by exact bB1 hb2⟩
  · have e1 : (he != 0) = true := bneT h0
    have HR2 := Lib.hid (show R = (0, he) by
      have hc0 : ce = he := by rw [HCE.out, fstE_cons, if_neg h0]
      rw [HR.out, hc0, if_pos h0])
    clear HR h0 HO HCE
    go_enter Tryz.func26, Tryz.ntmps26
    go_wp2_with (first | (go_at_call 27; (with_reducible refine (RHc.out _ (by exact bB0)).mono ?_); rintro e w2 ⟨rfl, hb2⟩; have hz2 : w.heap.size < w2.heap.size := (by have := hb2.size; (try simp at this); omega); have y2 : Box w2 w.heap.size 53 #[.slice AC C.length cC, .int .i64 fn, .int .i64 fd, .int .i64 l0, .int .i64 l1, .int .i64 l2] := (by exact bX1 hb2); have p0 := y2.cell 0; have p1 := y2.cell 1; have p2 := y2.cell 2; have p3 := y2.cell 3; have p4 := y2.cell 4; have p5 := y2.cell 5; (simp at p0 p1 p2 p3 p4 p5); have lw2 := y2.lt) | fail)
    go_ret2
    exact ⟨ret_ii (by rw [HR2.out]) (by rw [HR2.out]), by exact bB1 hb2⟩

end Go.Proofs.YtpnfgmgoafgcbaaGreat

/-
  Gcd, IsLowest, Lowest and Before of the references' helpers (chapter 6).
-/
import Derived.Test.YtpnfgmgoafgcbaaGreatHdP
import Derived.Test.YtpnfgmgoafgcbaaGreatA15
set_option linter.unusedVariables false
namespace Go.Proofs.YtpnfgmgoafgcbaaGreat
open Go.RowKit
attribute [local go_sem] Oper.semAt_some
attribute [local go_sem ↓] neq_ce'

set_option maxHeartbeats 1000000 in
theorem gcdE_c (a b : Int) (w : World) (ha : -9223372036854775808 ≤ a ∧ a ≤ 9223372036854775807) (hb : 0 < b ∧ b ≤ 9223372036854775807) :
    Calls Tryz.prog 104 #[.int .i64 a, .int .i64 b] w fun e w' => e = .returned (.int .i64 (absI (eu a b))) ∧ Below w.heap.size w w' := by
  generalize hr : eu a b = R
  have HR := Lib.hid hr.symm
  clear hr
  go_enter Tryz.func104, Tryz.ntmps104
  go_wp2
  go_loopw [0, 1] (fun g n wr => ∃ (x y : Int), g = .int .i64 x ∧ n = .int .i64 y ∧ Hid (R = eu x y) ∧ (-9223372036854775808 ≤ x ∧ x ≤ 9223372036854775807) ∧ (-9223372036854775807 ≤ y ∧ y ≤ 9223372036854775807) ∧ (y = 0 → -9223372036854775807 ≤ x) ∧ Below w.heap.size w wr) (fun _ n _ => (intOf n).natAbs)
  case atStart => exact ⟨a, b, rfl, rfl, HR.out, ha, by omega, by omega, Below.refl _ _⟩
  case round =>
    obtain ⟨x, y, rfl, rfl, hpq, ⟨hx1, hx2⟩, ⟨hy1, hy2⟩, h0, hB2⟩ := hrel
    clear HR
    by_cases hz : y = 0
    · have hx3 := h0 hz
      have hz1 : (y != 0) = false := by simp [hz]
      have HZ := Lib.hid (show R = x by rw [hpq.out, hz]; rfl)
      clear hz h0
      go_wp2_with (go_at_call 152; (with_reducible refine (size_c _ _ (by omega) (by omega)).mono ?_); rintro e w' ⟨rfl, rfl⟩)
      go_ret
      exact ⟨ret_i (by rw [HZ.out]), hB2⟩
    · have hz1 : (y != 0) = true := by simp [hz]
      have hz2 : (y == 0) = false := by simp [hz]
      have hm : (x.tmod y).natAbs < y.natAbs := tmod_lt hz
      have HZ := Lib.hid (hpq.out.trans (eu_step hz)); clear hz h0
      go_wp2
      go_quiet (fail)
      go_wp2
      go_roundw
      case rel => exact ⟨y, x.tmod y, rfl, rfl, HZ.out, by omega, by omega, by omega, below_drewN hB2 _⟩
      case measure => simpa [intOf] using hm

set_option maxHeartbeats 1000000 in
theorem isLowest_c (fn fd : Int) (w : World) (h1 : -9223372036854775808 ≤ fn ∧ fn ≤ 9223372036854775807) (h2 : -9223372036854775808 ≤ fd ∧ fd ≤ 9223372036854775807) :
    Calls Tryz.prog 100 #[.agg #[.int .i64 fn, .int .i64 fd]] w fun e w' => e = .returned (.bool (decide (0 < fd) && (eu fn fd == 1 || eu fn fd == -1))) ∧ Below w.heap.size w w' := by
  by_cases h : 0 < fd
  · have GCc := Lib.hid (fun W => gcdE_c fn fd W h1 ⟨h, h2.2⟩)
    have d1 : decide (0 < fd) = true := decide_eq_true h
    have HR := Lib.hid (show (absI (eu fn fd) == 1) = (decide (0 < fd) && (eu fn fd == 1 || eu fn fd == -1)) from by
      rw [d1, Bool.true_and, Bool.eq_iff_iff]
      simp only [beq_iff_eq, Bool.or_eq_true]
      unfold absI
      split <;> omega)
    generalize (decide (0 < fd) && (eu fn fd == 1 || eu fn fd == -1)) = R at *
    generalize absI (eu fn fd) = g at *
    clear h
    go_enter Tryz.func100, Tryz.ntmps100
    go_wp2_with (first | (go_at_call 104; (with_reducible refine (GCc.out _).mono ?_); rintro e w3 ⟨rfl, hb3⟩) | fail)
    go_ret
    exact ⟨ret_b HR.out, by focus ((with_reducible repeat first | apply bq0 | apply bq1 | apply bq2 | apply bq3 | apply bq4 | apply bqT hb3); all_goals first | omega | (simp; first | done | omega) | (have := hb3.size; (try simp at this); first | omega | (simp; omega)))⟩
  · have d1 : decide (0 < fd) = false := decide_eq_false h
    have HR := Lib.hid (show (decide (0 < fd) && (eu fn fd == 1 || eu fn fd == -1)) = false from by rw [d1]; rfl)
    generalize (decide (0 < fd) && (eu fn fd == 1 || eu fn fd == -1)) = R at *
    go_enter Tryz.func100, Tryz.ntmps100
    go_wp2_with fail
    go_ret
    exact ⟨ret_b HR.out.symm, by focus ((with_reducible repeat first | apply bq0 | apply bq1 | apply bq2 | apply bq3 | apply bq4); all_goals first | omega | (simp; first | done | omega))⟩

theorem tf_size : (Tryz.prog.info? 50).map (·.size) = some 2 := by kernel_rfl
set_option maxHeartbeats 1000000 in
theorem lowestE_c (a b : Int) (w : World) (ha : 0 ≤ a ∧ a ≤ 10) (hb : 1 ≤ b ∧ b ≤ 10) :
    Calls Tryz.prog 32 #[.int .i64 a, .int .i64 b] w fun e w' => e = .returned (.agg #[.int .i64 (lowP a b).1, .int .i64 (lowP a b).2]) ∧ Below w.heap.size w w' := by
  have GCc := Lib.hid (fun W => gcdE_c a b W (by omega) (by omega))
  obtain ⟨l1, _, l3, l4, l5, _, _, l8, l9⟩ := low_ok ha hb
  have F := Lib.hid (show lowP a b = (a.tdiv (absI (eu a b)), b.tdiv (absI (eu a b))) from rfl)
  generalize absI (eu a b) = g at *
  generalize lowP a b = R at *
  obtain ⟨R1, R2⟩ := R
  obtain ⟨f1, f2⟩ : R1 = a.tdiv g ∧ R2 = b.tdiv g := by simpa using F.out
  dsimp only at l1 l3 l4 l5
  clear F
  have g0 : (g == 0) = false := beqF (by omega)
  have hb0 : ¬ b < 0 := by omega
  rw [f1] at l3 l4
  rw [f2] at l1 l5
  have F1 := Lib.hid f1
  have F2 := Lib.hid f2
  clear f1 f2
  generalize ht1 : a.tdiv g = q1 at *
  generalize ht2 : b.tdiv g = q2 at *
  go_enter Tryz.func32, Tryz.ntmps32
  go_upto_region 4 with (first | (go_at_call 104; (with_reducible refine (GCc.out _).mono ?_); rintro e w3 ⟨rfl, hb3⟩) | fail)
  have g1 : g ≠ 0 := by omega
  have V3 : Box w3 w.heap.size 50 #[.int .i64 0, .int .i64 0] := by focus (apply bx0; (with_reducible repeat first | assumption | apply bx1 | (apply bx2; focus (simp; done)) | apply bx3 | apply bx4 | apply bx5 | apply bx6 | apply bx7 | apply bxB (zqb := hb3)); all_goals first | omega | (simp; first | done | omega) | (have := hb3.size; (try simp at this); first | omega | (simp; omega)))
  have v30 := V3.cell 0; have v31 := V3.cell 1; have fv3 := V3.froz; have lv3 := V3.lt
  simp at v30 v31
  go_region
  all_goals go_wp2
  all_goals (try simp [Act.put])
  all_goals
    refine bodyPost_ret (res_c1 rfl rfl (show Box _ _ 50 #[.int .i64 q1, .int .i64 q2] from ?hE) Tryz.underlying50 rfl tf_size) rfl ⟨by rw [F1.out, F2.out], ?hB⟩
    case hE => focus (apply bx0; (with_reducible repeat first | assumption | apply bx1 | (apply bx2; focus (simp; done)) | apply bx3 | apply bx4 | apply bx5 | apply bx6 | apply bx7 | apply bxB (zqb := hb3)); all_goals first | omega | (simp; first | done | omega) | (have := hb3.size; (try simp at this); first | omega | (simp; omega)))
    case hB => focus ((with_reducible repeat first | apply bq0 | apply bq1 | apply bq2 | apply bq3 | apply bq4 | apply bqT hb3); all_goals first | omega | (simp; first | done | omega) | (have := hb3.size; (try simp at this); first | omega | (simp; omega)))

/-- Lexicographically smaller. -/
def befL : List Int → List Int → Bool
  | [], [] => false
  | [], _ :: _ => true
  | _ :: _, [] => false
  | x :: a, y :: b => if x ≠ y then decide (x < y) else befL a b

set_option maxHeartbeats 2000000 in
theorem before_c (xs ys : List Int) (A B : Option Addr) (c d : Nat) (w : World) (hn : xs.length ≤ 9223372036854775807) (hm : ys.length ≤ 9223372036854775807) (hs : SlI w A xs) (ht : SlI w B ys) :
    Calls Tryz.prog 103 #[.slice A xs.length c, .slice B ys.length d] w fun e w' => e = .returned (.bool (befL xs ys)) ∧ Below w.heap.size w w' := by
  generalize hR : befL xs ys = R
  have HR := Lib.hid hR.symm
  clear hR
  go_enter Tryz.func103, Tryz.ntmps103
  go_wp2
  go_loopw [5] (fun i wr => ∃ k : Nat, k ≤ xs.length ∧ k ≤ ys.length ∧ i = .int .i64 k ∧ Hid (R = befL (xs.drop k) (ys.drop k)) ∧ Below w.heap.size w wr) (fun i _ => xs.length - (intOf i).toNat)
  case atStart => exact ⟨0, Nat.zero_le _, Nat.zero_le _, rfl, HR.out, Below.refl _ _⟩
  case round =>
    obtain ⟨k, hk, hk2, rfl, hf, hB⟩ := hrel
    clear HR
    by_cases hlt : k < xs.length
    · have e1 : decide ((k : Int) < (xs.length : Int)) = true := decide_eq_true (by omega)
      have e2 : decide (k < xs.length) = true := decide_eq_true hlt
      by_cases hlt2 : k < ys.length
      · have e3 : decide ((k : Int) < (ys.length : Int)) = true := decide_eq_true (by omega)
        have e4 : decide (k < ys.length) = true := decide_eq_true hlt2
        obtain ⟨b, off, rfl, hb, hc⟩ := hs.below hB k xs[k] (List.getElem?_eq_getElem hlt)
        obtain ⟨b', off', rfl, hb', hc'⟩ := ht.below hB k ys[k] (List.getElem?_eq_getElem hlt2)
        have T1 := Lib.hid (List.drop_eq_getElem_cons hlt)
        have T2 := Lib.hid (List.drop_eq_getElem_cons hlt2)
        clear hs ht
        generalize xs[k] = x at *
        generalize ys[k] = y at *
        have G := Lib.hid (show R = if x ≠ y then decide (x < y) else befL (xs.drop (k + 1)) (ys.drop (k + 1)) from by rw [hf.out, T1.out, T2.out]; rfl)
        have i1 : (k : Int) < xs.length := by omega
        have i2 : (k : Int) < ys.length := by omega
        by_cases hxy : x = y
        · have h1 : (x != y) = false := bneF hxy
          have G2 := Lib.hid (show R = befL (xs.drop (k + 1)) (ys.drop (k + 1)) from by rw [G.out, if_neg (by simpa using hxy)])
          clear hxy
          go_wp2
          go_quiet (fail)
          go_wp2
          go_roundw
          case rel => exact ⟨k + 1, by omega, by omega, by go_num, G2.out, below_drewN hB _⟩
          case measure => simp [intOf]; omega
        · have h1 : (x != y) = true := bneT hxy
          have G2 := Lib.hid (show R = decide (x < y) from by rw [G.out, if_pos hxy])
          clear hxy
          go_wp2
          go_quiet (fail)
          go_wp2
          go_quiet (fail)
          go_wp2
          go_ret
          exact ⟨ret_b (by rw [G2.out]), below_drewN (below_drewN hB _) _⟩
      · have e3 : decide ((k : Int) < (ys.length : Int)) = false := decide_eq_false (by omega)
        have e4 : decide (k < ys.length) = false := decide_eq_false hlt2
        have G2 := Lib.hid (show R = decide ((xs.length : Int) < (ys.length : Int)) from by
          rw [hf.out, List.drop_eq_getElem_cons hlt, List.drop_eq_nil_of_le (show ys.length ≤ k by omega), decide_eq_false (by omega)]; rfl)
        go_wp2
        go_ret
        exact ⟨ret_b (by first | (rw [G2.out]; done) | (rw [G2.out]; simp)), hB⟩
    · have e1 : decide ((k : Int) < (xs.length : Int)) = false := decide_eq_false (by omega)
      have e2 : decide (k < xs.length) = false := decide_eq_false hlt
      have G2 := Lib.hid (show R = decide ((xs.length : Int) < (ys.length : Int)) from by
        rw [hf.out, List.drop_eq_nil_of_le (show xs.length ≤ k by omega)]
        by_cases h : k < ys.length
        · rw [List.drop_eq_getElem_cons h, decide_eq_true (by omega)]; rfl
        · rw [List.drop_eq_nil_of_le (show ys.length ≤ k by omega), decide_eq_false (by omega)]; rfl)
      go_wp2
      go_ret
      exact ⟨ret_b (by first | (rw [G2.out]; done) | (rw [G2.out]; simp)), hB⟩

theorem ce_sli {w : World} {b off k : Nat} {x y : Int} (hb : b < w.heap.size) (h0 : w.cell? ⟨b, off + k * 2, none⟩ = some (.int .i64 x)) (h1 : w.cell? ⟨b, off + k * 2 + 1, none⟩ = some (.int .i64 y)) : SlI w (some ⟨b, off + k * 2, none⟩) [x, y] := fun j u hj => by
  have hj2 : j < 2 := (List.getElem?_eq_some_iff.1 hj).1
  refine ⟨b, off + k * 2, rfl, hb, ?_⟩
  have : j = 0 ∨ j = 1 := by omega
  rcases this with rfl | rfl
  · obtain rfl : x = u := by simpa using hj
    exact h0
  · obtain rfl : y = u := by simpa using hj
    exact h1
set_option maxHeartbeats 2000000 in
theorem isBefore_c (xs ys : List (Int × Int)) (A B : Option Addr) (c d : Nat) (w : World) (hn : xs.length ≤ 100000) (hm : ys.length ≤ 100000) (hs : SlV w A (xs.flatMap ceV)) (ht : SlV w B (ys.flatMap ceV)) :
    Calls Tryz.prog 31 #[.slice A xs.length c, .slice B ys.length d] w fun e w' => e = .returned (.bool (befP xs ys)) ∧ Below w.heap.size w w' := by
  generalize hR : befP xs ys = R
  have HR := Lib.hid hR.symm
  clear hR
  go_enter Tryz.func31, Tryz.ntmps31
  go_wp2
  go_loopw [5] (fun i wr => ∃ k : Nat, k ≤ xs.length ∧ k ≤ ys.length ∧ i = .int .i64 k ∧ Hid (R = befP (xs.drop k) (ys.drop k)) ∧ Below w.heap.size w wr) (fun i _ => xs.length - (intOf i).toNat)
  case atStart => exact ⟨0, Nat.zero_le _, Nat.zero_le _, rfl, HR.out, Below.refl _ _⟩
  case round =>
    obtain ⟨k, hk, hk2, rfl, hf, hB⟩ := hrel
    clear HR
    by_cases hlt : k < xs.length
    · have e1 : decide ((k : Int) < (xs.length : Int)) = true := decide_eq_true (by omega)
      have e2 : decide (k < xs.length) = true := decide_eq_true hlt
      by_cases hlt2 : k < ys.length
      · have e3 : decide ((k : Int) < (ys.length : Int)) = true := decide_eq_true (by omega)
        have e4 : decide (k < ys.length) = true := decide_eq_true hlt2
        obtain ⟨b, off, rfl, hb, a0, a1⟩ := ce_cells (SlV.below hs hB) (List.getElem?_eq_getElem hlt)
        obtain ⟨b', off', rfl, hb', c0, c1⟩ := ce_cells (SlV.below ht hB) (List.getElem?_eq_getElem hlt2)
        have T1 := Lib.hid (List.drop_eq_getElem_cons hlt)
        have T2 := Lib.hid (List.drop_eq_getElem_cons hlt2)
        clear hs ht
        generalize xs[k] = x at *
        generalize ys[k] = y at *
        obtain ⟨x1, x2⟩ := x
        obtain ⟨y1, y2⟩ := y
        dsimp only at a0 a1 c0 c1
        have G := Lib.hid (show R = if (x1, x2) = (y1, y2) then befP (xs.drop (k + 1)) (ys.drop (k + 1)) else (decide (x1 < y1) || decide (x1 = y1) && decide (x2 < y2)) from by rw [hf.out, T1.out, T2.out]; rfl)
        have i1 : (k : Int) < xs.length := by omega
        have i2 : (k : Int) < ys.length := by omega
        by_cases hxy : x1 = y1 ∧ x2 = y2
        · have h1 : sameC x1 x2 y1 y2 = true := sameC_t.2 hxy
          have G2 := Lib.hid (show R = befP (xs.drop (k + 1)) (ys.drop (k + 1)) from by rw [G.out, if_pos (by rw [hxy.1, hxy.2])])
          clear hxy
          go_wp2
          go_quiet (fail)
          go_wp2
          go_roundw
          case rel => exact ⟨k + 1, by omega, by omega, by go_num, G2.out, below_drewN hB _⟩
          case measure => simp [intOf]; omega
        · have h1 : sameC x1 x2 y1 y2 = false := sameC_f.2 hxy
          have G2 := Lib.hid (show R = befL [x1, x2] [y1, y2] from by
            rw [G.out, if_neg (by simpa using hxy)]
            simp only [befL]
            by_cases e : x1 = y1
            · have : x2 ≠ y2 := fun h => hxy ⟨e, h⟩
              simp [e, this]
            · simp [e])
          have BFc := Lib.hid (fun W (h1 : SlI W (some ⟨b, off + k * 2, none⟩) [x1, x2]) (h2 : SlI W (some ⟨b', off' + k * 2, none⟩) [y1, y2]) => show Calls Tryz.prog 103 #[.slice (some ⟨b, off + k * 2, none⟩) 2 2, .slice (some ⟨b', off' + k * 2, none⟩) 2 2] W (fun e w' => e = .returned (.bool (befL [x1, x2] [y1, y2])) ∧ Below W.heap.size W w') from before_c [x1, x2] [y1, y2] (some ⟨b, off + k * 2, none⟩) (some ⟨b', off' + k * 2, none⟩) 2 2 W (by simp) (by simp) h1 h2)
          have S1 : ∀ n : Nat, SlI (wr.drewN n) (some ⟨b, off + k * 2, none⟩) [x1, x2] := fun n => ce_sli (w := wr) hb a0 a1
          have S2 : ∀ n : Nat, SlI (wr.drewN n) (some ⟨b', off' + k * 2, none⟩) [y1, y2] := fun n => ce_sli (w := wr) hb' c0 c1
          clear hxy
          go_wp2
          go_quiet (fail)
          go_wp2
          have B5 := bcell hB
          (refine region_open (by kernel_rfl) (fun R hR => ?_); refine heldR (S := (fun w' => Below wr.heap.size wr w')) ?_ (fun hHeld => ?_); (focus ((try dsimp only); ((first | exact below_drewN (below_drewN (Below.refl _ _) _) _ | (focus ((with_reducible repeat first | apply bq0 | apply bq1 | apply bq2 | apply bq3 | apply bq4 | apply bqT hb3); all_goals first | omega | (simp; first | done | omega) | (have := hb3.size; (try simp at this); first | omega | (simp; omega)))))))); refine tkH (i := 0) (v := ?_) rfl (fun w' hSw => ?_) (by assumption) ?_; rotate_left; (focus ((try dsimp only at hSw); go_simp; (try with_reducible rfl))); (try simp only [Act.put, pq1, pq2, pq3, pq4, pq5, pq6]); refine tkH (i := 1) (v := ?_) rfl (fun w' hSw => ?_) (by assumption) ?_; rotate_left; (focus ((try dsimp only at hSw); go_simp; (try with_reducible rfl))); (try simp only [Act.put, pq1, pq2, pq3, pq4, pq5, pq6]); refine tkH (i := 2) (v := ?_) rfl (fun w' hSw => ?_) (by assumption) ?_; rotate_left; (focus ((try dsimp only at hSw); go_simp; (try with_reducible rfl))); (try simp only [Act.put, pq1, pq2, pq3, pq4, pq5, pq6]); refine tkH (i := 3) (v := ?_) rfl (fun w' hSw => ?_) (by assumption) ?_; rotate_left; (focus ((try dsimp only at hSw); go_simp; (try with_reducible rfl))); (try simp only [Act.put, pq1, pq2, pq3, pq4, pq5, pq6]); refine tkH (i := 4) (v := ?_) rfl (fun w' hSw => ?_) (by assumption) ?_; rotate_left; (focus ((try dsimp only at hSw); go_simp; (try with_reducible rfl))); (try simp only [Act.put, pq1, pq2, pq3, pq4, pq5, pq6]); refine tkH (i := 5) (v := ?_) rfl (fun w' hSw => ?_) (by assumption) ?_; rotate_left; (focus ((try dsimp only at hSw); go_simp; (try with_reducible rfl))); (try simp only [Act.put, pq1, pq2, pq3, pq4, pq5, pq6]); refine tkH (i := 6) (v := ?_) rfl (fun w' hSw => ?_) (by assumption) ?_; rotate_left; (focus ((try dsimp only at hSw); go_simp; (try with_reducible rfl))); (try simp only [Act.put, pq1, pq2, pq3, pq4, pq5, pq6]); refine tkH (i := 7) (v := ?_) rfl (fun w' hSw => ?_) (by assumption) ?_; rotate_left; (focus ((try dsimp only at hSw); go_simp; (try with_reducible rfl))); (try simp only [Act.put, pq1, pq2, pq3, pq4, pq5, pq6]); refine wpAnyH_ready (rs := [8]) (by kernel_rfl) (by simp) ?_; refine AllReadyH.cons rfl (fun K hK => ?_) AllReadyH.nil; go_simp; ((go_at_call 103; (with_reducible refine (BFc.out _ (S1 _) (S2 _)).mono ?_); rintro e w3 ⟨rfl, hb3⟩)); go_simp; refine hK.out _ _ ?_ (fun hHeld => ?_); (focus ((try dsimp only); ((first | exact below_drewN (below_drewN (Below.refl _ _) _) _ | (focus ((with_reducible repeat first | apply bq0 | apply bq1 | apply bq2 | apply bq3 | apply bq4 | apply bqT hb3); all_goals first | omega | (simp; first | done | omega) | (have := hb3.size; (try simp at this); first | omega | (simp; omega)))))))); clear hK K; (try simp only [Act.put, pq1, pq2, pq3, pq4, pq5, pq6]); refine tkH (i := 9) (v := ?_) rfl (fun w' hSw => ?_) (by assumption) ?_; rotate_left; (focus ((try dsimp only at hSw); go_simp; (try with_reducible rfl))); (try simp only [Act.put, pq1, pq2, pq3, pq4, pq5, pq6]); refine wpAnyH_done (Q := fun e a w => e = Exit.normal ∧ R a w) (by kernel_rfl) ⟨rfl, hR _ _ ?_⟩ _; clear hR R)
          go_wp2
          go_ret
          exact ⟨ret_b G2.out.symm, by focus ((with_reducible repeat first | apply bq0 | apply bq1 | apply bq2 | apply bq3 | apply bq4 | apply bqT hb3 | apply bqT hB); all_goals first | omega | (simp; first | done | omega) | (have := And.intro hb3.size hB.size; (try simp at this); first | omega | (simp; omega)))⟩
      · have e3 : decide ((k : Int) < (ys.length : Int)) = false := decide_eq_false (by omega)
        have e4 : decide (k < ys.length) = false := decide_eq_false hlt2
        have G2 := Lib.hid (show R = false from by
          rw [hf.out, List.drop_eq_getElem_cons hlt, List.drop_eq_nil_of_le (show ys.length ≤ k by omega)]; rfl)
        go_wp2
        go_ret
        exact ⟨ret_b G2.out.symm, hB⟩
    · have e1 : decide ((k : Int) < (xs.length : Int)) = false := decide_eq_false (by omega)
      have e2 : decide (k < xs.length) = false := decide_eq_false hlt
      have G2 := Lib.hid (show R = false from by
        rw [hf.out, List.drop_eq_nil_of_le (show xs.length ≤ k by omega)]; rfl)
      go_wp2
      go_ret
      exact ⟨ret_b G2.out.symm, hB⟩

end Go.Proofs.YtpnfgmgoafgcbaaGreat

/-
  Valves of the reference (chapter 6): the speed for a command, the travel, the errors.
-/
import Derived.Test.YtpnfgmgoafgcbaaA15
import Derived.Test.YtpnfgmgoafgcbaaG4
import Derived.Test.YtpnfgmgoafgcbaaA4
set_option linter.unusedVariables false
namespace Go.Proofs.Ytpnfgmgoafgcbaa
open Go.RowKit Go.Shelf
attribute [local go_sem] Oper.semAt_some
set_option maxHeartbeats 2000000 in
set_option maxRecDepth 100000 in
theorem rValveErr_c (d g k : Int) (w : World) : Calls Try.prog 10 #[.agg #[.int .i64 d, .int .i64 g, .int .i64 k]] w fun e w' => e = .returned (.int .i64 (vlE d g k)) ∧ Below w.heap.size w w' := by
  have HL := Lib.hid (show vlE d g k = unl (inB d 0 100 && inB g 0 1000 && inB k 0 100) 2 from rfl)
  generalize vlE d g k = r at *
  have hc : (inB d 0 100 = false) ∨ (inB d 0 100 = true ∧ inB g 0 1000 = false) ∨ (inB d 0 100 = true ∧ inB g 0 1000 = true ∧ inB k 0 100 = false) ∨ (inB d 0 100 = true ∧ inB g 0 1000 = true ∧ inB k 0 100 = true) := by cases inB d 0 100 <;> cases inB g 0 1000 <;> cases inB k 0 100 <;> simp
  rcases hc with h | ⟨h, h2⟩ | ⟨h, h2, h3⟩ | ⟨h, h2, h3⟩
  all_goals
    go_enter Try.func10, Try.ntmps10
    go_wp2_with (first | (go_at_call 28; (with_reducible refine (within_b _ _ _ _).mono ?_); rintro e w' ⟨rfl, rfl⟩) | fail)
    go_ret
    exact ⟨ret_i (by rw [HL.out]; simp [*, unl]), by exact bB0⟩
set_option maxHeartbeats 2000000 in
theorem rCommandErr_c (n : Int) (w : World) : Calls Try.prog 11 #[.int .i64 n] w fun e w' => e = .returned (.int .i64 (cmE n)) ∧ w = w' := by
  have HL := Lib.hid (show cmE n = unl (inB n (-100) 100) 2 from rfl)
  generalize cmE n = r at *
  cases h : inB n (-100) 100
  all_goals
    go_enter Try.func11, Try.ntmps11
    go_wp2_with (first | (go_at_call 28; (with_reducible refine (within_b _ _ _ _).mono ?_); rintro e w' ⟨rfl, rfl⟩) | fail)
    go_ret
    exact ⟨ret_i (by rw [HL.out]; simp [*, unl]), rfl⟩
set_option maxHeartbeats 400000 in
theorem rFloor_c (n b : Int) (hb : 0 < b) (h1 : -9223372036854775807 ≤ n) (h2 : n ≤ 9223372036854775807) (h3 : b ≤ 9223372036854775807) (w : World) : Calls Try.prog 29 #[.int .i64 n, .int .i64 b] w fun e w' => e = .returned (.int .i64 (n / b)) ∧ w = w' := by
  have a1 := Int.tmod_lt_of_pos n hb
  have a2 : -b < n.tmod b := by have := Int.lt_tmod_of_pos n hb; omega
  have a3 : n / b = if n.tmod b < 0 then n.tdiv b - 1 else n.tdiv b := by
    rw [Int.tmod_eq_emod, Int.tdiv_eq_ediv]
    have := Int.emod_nonneg n (b := b) (by omega)
    have := Int.emod_lt_of_pos n hb
    have hs := Int.sign_eq_one_of_pos hb
    split
    · rw [if_neg (by omega)]; omega
    · rw [if_pos (by omega), hs]; omega
  have a4 : -9223372036854775807 ≤ n.tdiv b ∧ n.tdiv b ≤ 9223372036854775807 := by
    have := Int.natAbs_tdiv_le_natAbs n b
    omega
  have A3 := Lib.hid a3; clear a3
  obtain ⟨a4, a5⟩ := a4
  have hb0 : b ≠ 0 := by omega
  have hb1 : b ≠ -1 := by omega
  go_enter Try.func29, Try.ntmps29
  go_wp2
  all_goals go_ret
  all_goals exact ⟨ret_i (by rw [A3.out]; first | rw [if_pos (by assumption)] | rw [if_neg (by omega)]), rfl⟩
set_option maxHeartbeats 400000 in
theorem rCeil_c (n : Int) (h1 : -1000000000 ≤ n) (h2 : n ≤ 1000000000) (w : World) : Calls Try.prog 30 #[.int .i64 n, .int .i64 1000] w fun e w' => e = .returned (.int .i64 (-(-n / 1000))) ∧ w = w' := by
  have v1 : IntKind.i64.wrap (-n) = -n := IntWalk.i64_in _ (by omega)
  have v2 : IntKind.i64.wrap (-(-n / 1000)) = -(-n / 1000) := IntWalk.i64_in _ (by omega)
  go_enter Try.func30, Try.ntmps30
  go_wp2_with (first | (go_at_call 29; (with_reducible refine (rFloor_c _ _ (by omega) (by omega) (by omega) (by omega) _).mono ?_); rintro e w' ⟨rfl, rfl⟩) | fail)
  go_ret
  exact ⟨rfl, rfl⟩
set_option maxHeartbeats 4000000 in
set_option maxRecDepth 100000 in
theorem rSpeed_c (d g k n : Int) (w : World) (hd : 0 ≤ d ∧ d ≤ 100) (hg : 0 ≤ g ∧ g ≤ 1000) (hk : 0 ≤ k ∧ k ≤ 100) (hn : -100 ≤ n ∧ n ≤ 100) :
    Calls Try.prog 12 #[.agg #[.int .i64 d, .int .i64 g, .int .i64 k], .int .i64 n] w fun e w' => e = .returned (.agg #[.int .i64 (spL d g k n), .int .i64 (spH d g k n)]) ∧ Below w.heap.size w w' := by
  have hL : spL d g k n = g * opn d n / 1000 - k := rfl
  have hH : spH d g k n = -(-(g * opn d n) / 1000) + k := rfl
  obtain ⟨hd1, hd2⟩ := hd
  obtain ⟨hg1, hg2⟩ := hg
  obtain ⟨hk1, hk2⟩ := hk
  obtain ⟨hn1, hn2⟩ := hn
  generalize spL d g k n = rL at *
  generalize spH d g k n = rH at *
  have e1 : d < n → opn d n = n - d := fun h => by unfold opn; rw [if_pos h]
  have e2 : ¬ d < n → n < -d → opn d n = n + d := fun h h' => by unfold opn; rw [if_neg h, if_pos h']
  have e3 : ¬ d < n → ¬ n < -d → opn d n = 0 := fun h h' => by unfold opn; rw [if_neg h, if_neg h']
  by_cases h : d < n
  · rw [e1 h] at hL hH
    have hm := mul_bd hg1 hg2 (show -100 ≤ n - d by omega) (by omega)
    clear e1 e2 e3
    have h2 : ¬ n < -d := by omega
    have HL := Lib.hid hL; have HH := Lib.hid hH; clear hL hH; obtain ⟨m1, m2⟩ := hm; go_enter Try.func12, Try.ntmps12; go_upto_region 6 with fail; (obtain ⟨W6, hW6⟩ : ∃ W6 : World, W6 = (w.alloc (.cells #[.int .i64 d, .int .i64 g, .int .i64 k] 23)).alloc (.cells #[.int .i64 0, .int .i64 0] 27) := ⟨_, rfl⟩); have G0 : Box W6 w.heap.size 23 #[.int .i64 d, .int .i64 g, .int .i64 k] := (by rw [hW6]; exact bX0); have G1 : Box W6 (w.heap.size + 1) 27 #[.int .i64 0, .int .i64 0] := (by rw [hW6]; exact bX0); have G5 : Below w.heap.size w W6 := (by rw [hW6]; exact bB0); rw [← hW6]; clear hW6; have c0 := G0.cell 0; have c1 := G0.cell 1; have c2 := G0.cell 2; have d0 := G1.cell 0; have d1 := G1.cell 1; have f1 := G1.froz; (simp at c0 c1 c2 d0 d1); have l0 := G0.lt; have l1 := G1.lt; obtain ⟨m, hgo⟩ : ∃ m, g * (n - d) = m := ⟨_, rfl⟩; rw [hgo] at m1 m2 HL HH; have v0 : IntKind.i64.wrap m = m := IntWalk.i64_in _ (by omega); have v1 : IntKind.i64.wrap (1000 * k) = 1000 * k := IntWalk.i64_in _ (by omega); have v2 : IntKind.i64.wrap (m - 1000 * k) = m - 1000 * k := IntWalk.i64_in _ (by omega); have v3 : IntKind.i64.wrap (m + 1000 * k) = m + 1000 * k := IntWalk.i64_in _ (by omega); (refine wp_region_held_drew (S := (fun w' => Box w' w.heap.size 23 #[.int .i64 d, .int .i64 g, .int .i64 k])) (by kernel_rfl) ?_ (fun hHeld => ?_); (focus ((try dsimp only); ((first | exact G0.drew | ((first | exact bX0 | exact bX0)))))); have hO := Lib.hid (fun w' (hSw : (fun w' => Box w' w.heap.size 23 #[.int .i64 d, .int .i64 g, .int .i64 k]) w') => (by (try dsimp only at hSw); (have sa := hSw.cell 1; have sb := hSw.cell 2; (simp at sa sb)); exact And.intro sa sb)); refine rgN 0 rfl ?_; refine rgL 1 hO rfl ?_; refine rgN 2 rfl ?_; refine rgN 3 rfl ?_; refine rgN 4 rfl ?_; refine rgL 5 hO rfl ?_; refine rgN 6 rfl ?_; refine rgN 7 rfl ?_; refine rgN 9 rfl ?_; refine rgL 10 hO rfl ?_; refine rgN 11 rfl ?_; refine rgN 12 rfl ?_; refine rgN 13 rfl ?_; refine rgL 14 hO rfl ?_; refine rgN 15 rfl ?_; refine rgN 16 rfl ?_; refine rgC 8 rfl (fun K hK => ?_); go_simp; ((go_at_call 29; (with_reducible refine (rFloor_c _ _ (by omega) (by omega) (by omega) (by omega) _).mono ?_); rintro e w' ⟨rfl, rfl⟩)); go_simp; refine hK.out _ _ ?_ (fun hHeld => ?_); (focus ((try dsimp only); ((first | exact G0.drew | ((first | exact bX0 | exact bX0)))))); clear hK K; (try simp only [Act.put, pqs]); refine rgC 17 rfl (fun K hK => ?_); go_simp; ((go_at_call 30; (with_reducible refine (rCeil_c _ (by omega) (by omega) _).mono ?_); rintro e w' ⟨rfl, rfl⟩)); go_simp; refine hK.out _ _ ?_ (fun hHeld => ?_); (focus ((try dsimp only); ((first | exact G0.drew | ((first | exact bX0 | exact bX0)))))); clear hK K; (try simp only [Act.put, pqs]); refine rgN 18 rfl ?_; refine rgC 19 rfl (fun K hK => ?_); go_simp; refine hK.out _ _ ?_ (fun hHeld => ?_); (focus ((try dsimp only); ((first | exact G0.drew | ((first | exact bX0 | exact bX0)))))); clear hK K; (try simp only [Act.put, pqs]); refine wpAnyH_done (by kernel_rfl) ?_ _); go_wp2; refine bodyPost_ret (res_c1 rfl rfl (show Box _ _ 27 #[.int .i64 ((m - 1000 * k) / 1000), .int .i64 (-(-(m + 1000 * k) / 1000))] from ?_) Try.underlying27 rfl tr_size) rfl ⟨(by rw [HL.out, HH.out, show (m - 1000 * k) / 1000 = m / 1000 - k by omega, show -(-(m + 1000 * k) / 1000) = -(-m / 1000) + k by omega]), ?_⟩; (focus (exact bX0)); (focus (exact bB1 G5))
  · by_cases h2 : n < -d
    · rw [e2 h h2] at hL hH
      have hm := mul_bd hg1 hg2 (show -100 ≤ n + d by omega) (by omega)
      clear e1 e2 e3
      have HL := Lib.hid hL; have HH := Lib.hid hH; clear hL hH; obtain ⟨m1, m2⟩ := hm; go_enter Try.func12, Try.ntmps12; go_upto_region 6 with fail; (obtain ⟨W6, hW6⟩ : ∃ W6 : World, W6 = (w.alloc (.cells #[.int .i64 d, .int .i64 g, .int .i64 k] 23)).alloc (.cells #[.int .i64 0, .int .i64 0] 27) := ⟨_, rfl⟩); have G0 : Box W6 w.heap.size 23 #[.int .i64 d, .int .i64 g, .int .i64 k] := (by rw [hW6]; exact bX0); have G1 : Box W6 (w.heap.size + 1) 27 #[.int .i64 0, .int .i64 0] := (by rw [hW6]; exact bX0); have G5 : Below w.heap.size w W6 := (by rw [hW6]; exact bB0); rw [← hW6]; clear hW6; have c0 := G0.cell 0; have c1 := G0.cell 1; have c2 := G0.cell 2; have d0 := G1.cell 0; have d1 := G1.cell 1; have f1 := G1.froz; (simp at c0 c1 c2 d0 d1); have l0 := G0.lt; have l1 := G1.lt; obtain ⟨m, hgo⟩ : ∃ m, g * (n + d) = m := ⟨_, rfl⟩; rw [hgo] at m1 m2 HL HH; have v0 : IntKind.i64.wrap m = m := IntWalk.i64_in _ (by omega); have v1 : IntKind.i64.wrap (1000 * k) = 1000 * k := IntWalk.i64_in _ (by omega); have v2 : IntKind.i64.wrap (m - 1000 * k) = m - 1000 * k := IntWalk.i64_in _ (by omega); have v3 : IntKind.i64.wrap (m + 1000 * k) = m + 1000 * k := IntWalk.i64_in _ (by omega); (refine wp_region_held_drew (S := (fun w' => Box w' w.heap.size 23 #[.int .i64 d, .int .i64 g, .int .i64 k])) (by kernel_rfl) ?_ (fun hHeld => ?_); (focus ((try dsimp only); ((first | exact G0.drew | ((first | exact bX0 | exact bX0)))))); have hO := Lib.hid (fun w' (hSw : (fun w' => Box w' w.heap.size 23 #[.int .i64 d, .int .i64 g, .int .i64 k]) w') => (by (try dsimp only at hSw); (have sa := hSw.cell 1; have sb := hSw.cell 2; (simp at sa sb)); exact And.intro sa sb)); refine rgN 0 rfl ?_; refine rgL 1 hO rfl ?_; refine rgN 2 rfl ?_; refine rgN 3 rfl ?_; refine rgN 4 rfl ?_; refine rgL 5 hO rfl ?_; refine rgN 6 rfl ?_; refine rgN 7 rfl ?_; refine rgN 9 rfl ?_; refine rgL 10 hO rfl ?_; refine rgN 11 rfl ?_; refine rgN 12 rfl ?_; refine rgN 13 rfl ?_; refine rgL 14 hO rfl ?_; refine rgN 15 rfl ?_; refine rgN 16 rfl ?_; refine rgC 8 rfl (fun K hK => ?_); go_simp; ((go_at_call 29; (with_reducible refine (rFloor_c _ _ (by omega) (by omega) (by omega) (by omega) _).mono ?_); rintro e w' ⟨rfl, rfl⟩)); go_simp; refine hK.out _ _ ?_ (fun hHeld => ?_); (focus ((try dsimp only); ((first | exact G0.drew | ((first | exact bX0 | exact bX0)))))); clear hK K; (try simp only [Act.put, pqs]); refine rgC 17 rfl (fun K hK => ?_); go_simp; ((go_at_call 30; (with_reducible refine (rCeil_c _ (by omega) (by omega) _).mono ?_); rintro e w' ⟨rfl, rfl⟩)); go_simp; refine hK.out _ _ ?_ (fun hHeld => ?_); (focus ((try dsimp only); ((first | exact G0.drew | ((first | exact bX0 | exact bX0)))))); clear hK K; (try simp only [Act.put, pqs]); refine rgN 18 rfl ?_; refine rgC 19 rfl (fun K hK => ?_); go_simp; refine hK.out _ _ ?_ (fun hHeld => ?_); (focus ((try dsimp only); ((first | exact G0.drew | ((first | exact bX0 | exact bX0)))))); clear hK K; (try simp only [Act.put, pqs]); refine wpAnyH_done (by kernel_rfl) ?_ _); go_wp2; refine bodyPost_ret (res_c1 rfl rfl (show Box _ _ 27 #[.int .i64 ((m - 1000 * k) / 1000), .int .i64 (-(-(m + 1000 * k) / 1000))] from ?_) Try.underlying27 rfl tr_size) rfl ⟨(by rw [HL.out, HH.out, show (m - 1000 * k) / 1000 = m / 1000 - k by omega, show -(-(m + 1000 * k) / 1000) = -(-m / 1000) + k by omega]), ?_⟩; (focus (exact bX0)); (focus (exact bB1 G5))
    · rw [e3 h h2, Int.mul_zero] at hL hH
      clear e1 e2 e3
      have HL := Lib.hid hL
      have HH := Lib.hid hH
      clear hL hH
      go_enter Try.func12, Try.ntmps12
      go_upto_region 6 with fail; (obtain ⟨W6, hW6⟩ : ∃ W6 : World, W6 = (w.alloc (.cells #[.int .i64 d, .int .i64 g, .int .i64 k] 23)).alloc (.cells #[.int .i64 0, .int .i64 0] 27) := ⟨_, rfl⟩); have G0 : Box W6 w.heap.size 23 #[.int .i64 d, .int .i64 g, .int .i64 k] := (by rw [hW6]; exact bX0); have G1 : Box W6 (w.heap.size + 1) 27 #[.int .i64 0, .int .i64 0] := (by rw [hW6]; exact bX0); have G5 : Below w.heap.size w W6 := (by rw [hW6]; exact bB0); rw [← hW6]; clear hW6; have c0 := G0.cell 0; have c1 := G0.cell 1; have c2 := G0.cell 2; have d0 := G1.cell 0; have d1 := G1.cell 1; have f1 := G1.froz; (simp at c0 c1 c2 d0 d1); have l0 := G0.lt; have l1 := G1.lt
      have v0 : IntKind.i64.wrap 0 = 0 := by decide
      have v1 : IntKind.i64.wrap (1000 * k) = 1000 * k := IntWalk.i64_in _ (by omega)
      have v2 : IntKind.i64.wrap (-(1000 * k)) = -(1000 * k) := IntWalk.i64_in _ (by omega)
      (refine wp_region_held_drew (S := (fun w' => Box w' w.heap.size 23 #[.int .i64 d, .int .i64 g, .int .i64 k])) (by kernel_rfl) ?_ (fun hHeld => ?_); (focus ((try dsimp only); ((first | exact G0.drew | ((first | exact bX0 | exact bX0)))))); have hO := Lib.hid (fun w' (hSw : (fun w' => Box w' w.heap.size 23 #[.int .i64 d, .int .i64 g, .int .i64 k]) w') => (by (try dsimp only at hSw); (have sa := hSw.cell 1; have sb := hSw.cell 2; (simp at sa sb)); exact And.intro sa sb)); refine rgN 0 rfl ?_; refine rgL 1 hO rfl ?_; refine rgN 2 rfl ?_; refine rgN 3 rfl ?_; refine rgN 4 rfl ?_; refine rgL 5 hO rfl ?_; refine rgN 6 rfl ?_; refine rgN 7 rfl ?_; refine rgN 9 rfl ?_; refine rgL 10 hO rfl ?_; refine rgN 11 rfl ?_; refine rgN 12 rfl ?_; refine rgN 13 rfl ?_; refine rgL 14 hO rfl ?_; refine rgN 15 rfl ?_; refine rgN 16 rfl ?_; refine rgC 8 rfl (fun K hK => ?_); go_simp; ((go_at_call 29; (with_reducible refine (rFloor_c _ _ (by omega) (by omega) (by omega) (by omega) _).mono ?_); rintro e w' ⟨rfl, rfl⟩)); go_simp; refine hK.out _ _ ?_ (fun hHeld => ?_); (focus ((try dsimp only); ((first | exact G0.drew | ((first | exact bX0 | exact bX0)))))); clear hK K; (try simp only [Act.put, pqs]); refine rgC 17 rfl (fun K hK => ?_); go_simp; ((go_at_call 30; (with_reducible refine (rCeil_c _ (by omega) (by omega) _).mono ?_); rintro e w' ⟨rfl, rfl⟩)); go_simp; refine hK.out _ _ ?_ (fun hHeld => ?_); (focus ((try dsimp only); ((first | exact G0.drew | ((first | exact bX0 | exact bX0)))))); clear hK K; (try simp only [Act.put, pqs]); refine rgN 18 rfl ?_; refine rgC 19 rfl (fun K hK => ?_); go_simp; refine hK.out _ _ ?_ (fun hHeld => ?_); (focus ((try dsimp only); ((first | exact G0.drew | ((first | exact bX0 | exact bX0)))))); clear hK K; (try simp only [Act.put, pqs]); refine wpAnyH_done (by kernel_rfl) ?_ _)
      go_wp2
      refine bodyPost_ret (res_c1 rfl rfl (show Box _ _ 27 #[.int .i64 (-(1000 * k) / 1000), .int .i64 (-(-(1000 * k) / 1000))] from ?_) Try.underlying27 rfl tr_size) rfl ⟨by rw [HL.out, HH.out, show -(1000 * k) / 1000 = 0 / 1000 - k by omega, show -(0 / 1000 - k) = -(-0 / 1000) + k by omega], ?_⟩
      · exact bX0
      · exact bB1 G5
/-- The travel. -/
def trF (d g k : Int) : List Int → Int × Int → Int × Int
  | [], a => a
  | n :: l, a => trF d g k l (a.1 + spL d g k n, a.2 + spH d g k n)
theorem sp_bd {d g k n : Int} (hd : 0 ≤ d ∧ d ≤ 100) (hg : 0 ≤ g ∧ g ≤ 1000) (hk : 0 ≤ k ∧ k ≤ 100) (hn : -100 ≤ n ∧ n ≤ 100) : (-200 ≤ spL d g k n ∧ spL d g k n ≤ 200) ∧ (-200 ≤ spH d g k n ∧ spH d g k n ≤ 200) := by
  have ho : -100 ≤ opn d n ∧ opn d n ≤ 100 := by
    unfold opn
    split
    · omega
    · split <;> omega
  obtain ⟨h1, h2⟩ := mul_bd hg.1 hg.2 ho.1 ho.2
  unfold spL spH
  generalize g * opn d n = m at *
  omega
/-- The errors of a valve and commands. -/
def cdE (d g k : Int) (xs : List Int) : Int := if vlE d g k ≠ 0 then vlE d g k else if 30 < xs.length then 8 else (eachE cmE xs).2
theorem vlE_ok {d g k : Int} (h : vlE d g k = 0) : (0 ≤ d ∧ d ≤ 100) ∧ (0 ≤ g ∧ g ≤ 1000) ∧ (0 ≤ k ∧ k ≤ 100) := by
  unfold vlE at h
  rw [unl_zero (by decide)] at h
  simp [inB] at h
  omega
theorem cdE_ok {d g k : Int} {xs : List Int} (h : cdE d g k xs = 0) : ((0 ≤ d ∧ d ≤ 100) ∧ (0 ≤ g ∧ g ≤ 1000) ∧ (0 ≤ k ∧ k ≤ 100)) ∧ xs.length ≤ 30 ∧ ∀ n ∈ xs, -100 ≤ n ∧ n ≤ 100 := by
  unfold cdE at h
  split at h
  · rename_i h0; exact absurd h h0
  · rename_i h0
    split at h
    · cases h
    · rename_i h1
      unfold eachE at h
      rw [eachF_zero] at h
      refine ⟨vlE_ok (Decidable.of_not_not h0), by omega, fun n hn => ?_⟩
      have h2 := h n hn
      unfold cmE at h2
      rw [unl_zero (by decide)] at h2
      simpa [inB] using h2
set_option maxHeartbeats 4000000 in
set_option maxRecDepth 100000 in
theorem rCommandsErr_c (d g k : Int) (xs : List Int) (A : Option Addr) (c : Nat) (w : World) (hn : xs.length ≤ 100000) (hs : SlI w A xs) :
    Calls Try.prog 8 #[.agg #[.int .i64 d, .int .i64 g, .int .i64 k], .slice A xs.length c] w fun e w' => e = .returned (.int .i64 (cdE d g k xs)) ∧ Below w.heap.size w w' := by
  have VEc := Lib.hid (fun W => rValveErr_c d g k W)
  by_cases h0 : vlE d g k = 0
  case neg =>
    have hR : cdE d g k xs = vlE d g k := if_pos h0
    rw [hR]
    clear hR
    have x1 := bneT h0
    generalize vlE d g k = ve at *
    go_enter Try.func8, Try.ntmps8
    go_wp2_with (first | (go_at_call 10; (with_reducible refine (VEc.out _).mono ?_); rintro e w3 ⟨rfl, hb3⟩) | fail)
    go_ret
    exact ⟨rfl, by exact bB1 hb3⟩
  rw [h0] at VEc
  have h1 : cdE d g k xs = if 30 < xs.length then 8 else (eachE cmE xs).2 := if_neg (by simp [h0])
  rw [h1]
  clear h1 h0
  by_cases h2 : 30 < xs.length
  · have x1 : decide ((30 : Int) < (xs.length : Int)) = true := decide_eq_true (by omega)
    rw [if_pos h2]
    go_enter Try.func8, Try.ntmps8
    go_wp2_with (first | (go_at_call 10; (with_reducible refine (VEc.out _).mono ?_); rintro e w3 ⟨rfl, hb3⟩) | fail)
    go_ret
    exact ⟨rfl, by exact bB1 hb3⟩
  · have x1 : decide ((30 : Int) < (xs.length : Int)) = false := decide_eq_false (by omega)
    rw [if_neg h2]
    have HF := Lib.hid (show (eachE cmE xs).2 = (eachF cmE 0 (xs.drop 0)).2 from rfl)
    generalize (eachE cmE xs).2 = R at *
    have HS := Lib.hid hs
    clear hs
    go_enter Try.func8, Try.ntmps8
    go_wp2_with (first | (go_at_call 10; (with_reducible refine (VEc.out _).mono ?_); rintro e w3 ⟨rfl, hb3⟩) | fail)
    have hB3 : Below w.heap.size w w3 := by exact bB1 hb3
    clear hb3 VEc
    generalize w3 = W5 at *
    go_loopw [6] (fun j wr => ∃ i : Nat, j = .int .i64 i ∧ i ≤ xs.length ∧ Hid (R = (eachF cmE i (xs.drop i)).2) ∧ Below w.heap.size w wr) (fun j _ => xs.length - (intOf j).toNat)
    case atStart => exact ⟨0, rfl, Nat.zero_le _, HF.out, hB3⟩
    case round =>
      obtain ⟨i, rfl, hi, hR, hB⟩ := hrel
      clear HF hB3
      by_cases hlt : i < xs.length
      · obtain ⟨b, off, rfl, hb, a0⟩ := (HS.out.below hB) i xs[i] (List.getElem?_eq_getElem hlt)
        have hR2 := hR.out
        rw [List.drop_eq_getElem_cons hlt] at hR2
        have CEc := Lib.hid (fun W => rCommandErr_c xs[i] W)
        have hE : eachF cmE i (xs[i] :: xs.drop (i + 1)) = if cmE xs[i] = 0 then eachF cmE (i + 1) (xs.drop (i + 1)) else (i, cmE xs[i]) := rfl
        rw [hE] at hR2
        have HR2 := Lib.hid hR2
        clear hR hR2 hE
        generalize cmE xs[i] = ce at *
        have i0 : 0 ≤ (i : Int) := by omega
        have i1 : (i : Int) < (xs.length : Int) := by omega
        by_cases h3 : ce = 0
        · subst h3
          have HR3 := Lib.hid (show R = (eachF cmE (i + 1) (xs.drop (i + 1))).2 from by rw [HR2.out, if_pos rfl])
          clear HR2
          go_wp2_with (first | (go_at_call 11; (with_reducible refine (CEc.out _).mono ?_); rintro e w' ⟨rfl, rfl⟩) | fail)
          go_roundw
          case rel => exact ⟨i + 1, by go_num, by omega, HR3.out, hB⟩
          case measure => simp [intOf]; omega
        · have x2 := bneT h3
          have hr : R = ce := by rw [HR2.out, if_neg h3]
          subst hr
          clear HR2
          go_wp2_with (first | (go_at_call 11; (with_reducible refine (CEc.out _).mono ?_); rintro e w' ⟨rfl, rfl⟩) | fail)
          go_ret
          exact ⟨rfl, hB⟩
      · have e : i = xs.length := by omega
        subst e
        have hr : R = 0 := by rw [hR.out, List.drop_length]; rfl
        subst hr
        go_wp2_with fail
        go_ret
        exact ⟨rfl, hB⟩
def TvCut (W : World) (lo hi : Int) (s7 : Value) (wx : World) : Prop := ∃ gp, s7 = .pointer (some ⟨gp, 0, none⟩) ∧ W.heap.size ≤ gp ∧ Box wx gp 27 #[.int .i64 lo, .int .i64 hi] ∧ Below W.heap.size W wx
set_option maxHeartbeats 4000000 in
set_option maxRecDepth 100000 in
theorem rTravel_c (d g k : Int) (xs : List Int) (A : Option Addr) (c : Nat) (w : World) (hd : 0 ≤ d ∧ d ≤ 100) (hg : 0 ≤ g ∧ g ≤ 1000) (hk : 0 ≤ k ∧ k ≤ 100) (hn : xs.length ≤ 30) (hx : ∀ n ∈ xs, -100 ≤ n ∧ n ≤ 100) (hs : SlI w A xs) :
    Calls Try.prog 9 #[.agg #[.int .i64 d, .int .i64 g, .int .i64 k], .slice A xs.length c] w fun e w' => e = .returned (.agg #[.int .i64 (trF d g k xs (0, 0)).1, .int .i64 (trF d g k xs (0, 0)).2]) ∧ Below w.heap.size w w' := by
  have SPd := Lib.hid (fun (n : Int) (h : -100 ≤ n ∧ n ≤ 100) W => rSpeed_c d g k n W hd hg hk h)
  have SBd := Lib.hid (fun (n : Int) (h : -100 ≤ n ∧ n ≤ 100) => sp_bd hd hg hk h)
  have HX := Lib.hid hx
  have HS := Lib.hid hs
  have HF := Lib.hid (show trF d g k (xs.drop 0) (0, 0) = trF d g k xs (0, 0) from rfl)
  generalize trF d g k xs (0, 0) = R at *
  clear hs hx hd hg hk
  go_enter Try.func9, Try.ntmps9
  go_wp2
  go_loopw [6] (fun j wr => ∃ (i : Nat) (a b : Int), j = .int .i64 i ∧ i ≤ xs.length ∧ Hid (trF d g k (xs.drop i) (a, b) = R) ∧ (-200 * (i : Int) ≤ a ∧ a ≤ 200 * i ∧ -200 * (i : Int) ≤ b ∧ b ≤ 200 * i) ∧ Box wr w.heap.size 23 #[.int .i64 d, .int .i64 g, .int .i64 k] ∧ Box wr (w.heap.size + 1) 27 #[.int .i64 0, .int .i64 0] ∧ Box wr (w.heap.size + 2) 27 #[.int .i64 a, .int .i64 b] ∧ Below w.heap.size w wr) (fun j _ => xs.length - (intOf j).toNat)
  case atStart => exact ⟨0, 0, 0, rfl, Nat.zero_le _, HF.out, by omega, by exact bX0, by exact bX0, by exact bX0, by exact bB0⟩
  case round =>
    obtain ⟨i, a, b, rfl, hi, hR, hab, hV, hZ, hS, hB⟩ := hrel
    clear HF
    have lV := hV.lt; have lZ := hZ.lt; have lS := hS.lt
    by_cases hlt : i < xs.length
    · obtain ⟨bk, off, rfl, hb, a0⟩ := (HS.out.below hB) i xs[i] (List.getElem?_eq_getElem hlt)
      have hxi := HX.out _ (List.getElem_mem hlt)
      have SPc := Lib.hid (SPd.out _ hxi)
      have hbd := SBd.out _ hxi
      have hR2 := hR.out
      rw [List.drop_eq_getElem_cons hlt] at hR2
      have hE : trF d g k (xs[i] :: xs.drop (i + 1)) (a, b) = trF d g k (xs.drop (i + 1)) (a + spL d g k xs[i], b + spH d g k xs[i]) := rfl
      rw [hE] at hR2
      have HR2 := Lib.hid hR2
      clear hR hR2 hE hxi
      generalize spL d g k xs[i] = lo at *
      generalize spH d g k xs[i] = hi' at *
      generalize xs[i] = n at *
      obtain ⟨⟨b1, b2⟩, b3, b4⟩ := hbd
      obtain ⟨c1, c2, c3, c4⟩ := hab
      have i0 : 0 ≤ (i : Int) := by omega
      have i1 : (i : Int) < (xs.length : Int) := by omega
      have q0 := hV.cell 0; have q1 := hV.cell 1; have q2 := hV.cell 2
      simp at q0 q1 q2
      go_upto_region 5 with fail
      go_cut [7] from 14 to 19 (fun s7 wx => TvCut wr lo hi' s7 wx)
      case first =>
        ((focus (refine region_open (by kernel_rfl) (fun R hR => ?_); refine heldR (S := (fun w' => Box w' w.heap.size 23 #[.int .i64 d, .int .i64 g, .int .i64 k] ∧ w'.cell? ⟨bk, off + i, none⟩ = some (.int .i64 n))) ?_ (fun hHeld => ?_); (focus ((try dsimp only); ((refine ⟨?_, ?_⟩; ((first | exact bX0 | exact bX1 hb3)); (first | exact a0 | exact ((bcell (show Below wr.heap.size wr _ from by (first | exact bB0 | exact bB1 hb3))).1 _ _ hb).trans a0))))); refine rgT 0 ?_ rfl (fun w' hSw => ?_) ?_; rotate_left; (focus ((try dsimp only at hSw); (obtain ⟨hSA, hSB⟩ := hSw; have sa0 := hSA.cell 0; have sa1 := hSA.cell 1; have sa2 := hSA.cell 2; (simp at sa0 sa1 sa2)); go_simp; (try with_reducible rfl))); (try simp only [Act.put, pqs]); refine rgN 1 rfl ?_; refine rgN 2 rfl ?_; refine rgN 3 rfl ?_; refine rgT 4 ?_ rfl (fun w' hSw => ?_) ?_; rotate_left; (focus ((try dsimp only at hSw); (obtain ⟨hSA, hSB⟩ := hSw; have sa0 := hSA.cell 0; have sa1 := hSA.cell 1; have sa2 := hSA.cell 2; (simp at sa0 sa1 sa2)); go_simp; (try with_reducible rfl))); (try simp only [Act.put, pqs]); refine wpAnyH_ready (rs := [5, 6]) (by kernel_rfl) (by simp) ?_; (focus (refine AllReadyH.cons rfl (fun K hK => ?_) ?_; rotate_left; refine AllReadyH.cons rfl (fun K hK => ?_) ?_; rotate_left; exact AllReadyH.nil)); (focus (go_simp; ((go_at_call 12; (with_reducible refine (SPc.out _).mono ?_); rintro e w3 ⟨rfl, hb3⟩; have hz3 : wr.heap.size ≤ w3.heap.size := (by have := hb3.size; (try simp at this); omega); (try (refine (fun (V3 : Box w3 wr.heap.size 27 #[.int .i64 0, .int .i64 0]) => ?_) ?_; rotate_left; (focus (exact bX1 hb3)); have v30 := V3.cell 0; have v31 := V3.cell 1; have fv3 := V3.froz; have lv3 := V3.lt; (simp at v30 v31))))); go_simp; refine hK.out _ _ ?_ (fun hHeld => ?_); (focus ((try dsimp only); ((refine ⟨?_, ?_⟩; ((first | exact bX1 hb3 | exact bX0)); (first | exact a0 | exact ((bcell (show Below wr.heap.size wr _ from by (first | exact bB1 hb3 | exact bB0))).1 _ _ hb).trans a0))))); clear hK K; (try simp only [Act.put, pqs]); refine rgC 6 rfl (fun K hK => ?_); go_simp; refine hK.out _ _ ?_ (fun hHeld => ?_); (focus ((try dsimp only); ((refine ⟨?_, ?_⟩; ((first | exact bX1 hb3 | exact bX0)); (first | exact a0 | exact ((bcell (show Below wr.heap.size wr _ from by (first | exact bB1 hb3 | exact bB0))).1 _ _ hb).trans a0))))); clear hK K; (try simp only [Act.put, pqs]))); rotate_left; (focus (go_simp; refine hK.out _ _ ?_ (fun hHeld => ?_); (focus ((try dsimp only); ((refine ⟨?_, ?_⟩; ((first | exact bX1 hb3 | exact bX0)); (first | exact a0 | exact ((bcell (show Below wr.heap.size wr _ from by (first | exact bB1 hb3 | exact bB0))).1 _ _ hb).trans a0))))); clear hK K; (try simp only [Act.put, pqs]); refine rgC 5 rfl (fun K hK => ?_); go_simp; ((go_at_call 12; (with_reducible refine (SPc.out _).mono ?_); rintro e w3 ⟨rfl, hb3⟩; have hz3 : wr.heap.size ≤ w3.heap.size := (by have := hb3.size; (try simp at this); omega); (try (refine (fun (V3 : Box w3 wr.heap.size 27 #[.int .i64 0, .int .i64 0]) => ?_) ?_; rotate_left; (focus (exact bX1 hb3)); have v30 := V3.cell 0; have v31 := V3.cell 1; have fv3 := V3.froz; have lv3 := V3.lt; (simp at v30 v31))))); go_simp; refine hK.out _ _ ?_ (fun hHeld => ?_); (focus ((try dsimp only); ((refine ⟨?_, ?_⟩; ((first | exact bX1 hb3 | exact bX0)); (first | exact a0 | exact ((bcell (show Below wr.heap.size wr _ from by (first | exact bB1 hb3 | exact bB0))).1 _ _ hb).trans a0))))); clear hK K; (try simp only [Act.put, pqs]))); rotate_left; all_goals (refine rgC 7 rfl (fun K hK => ?_); go_simp; refine hK.out _ _ ?_ (fun hHeld => ?_); (focus ((try dsimp only); ((refine ⟨?_, ?_⟩; ((first | exact bX1 hb3 | exact bX0)); (first | exact a0 | exact ((bcell (show Below wr.heap.size wr _ from by (first | exact bB1 hb3 | exact bB0))).1 _ _ hb).trans a0))))); clear hK K; (try simp only [Act.put, pqs]); refine wpAnyH_done (Q := fun e a w => e = Exit.normal ∧ R a w) (by kernel_rfl) ⟨rfl, hR _ _ ?_⟩ _; clear hR R; (go_wp2_with fail; go_meet; refine ⟨_, rfl, ?_, ?_, ?_⟩; (focus (first | omega | (simp; omega))); (exact bX1 hb3); (exact bB1 hb3))))))
      case rest =>
        obtain ⟨gp, rfl, hgp, hP, hW⟩ := hcut
        have hV2 := hV.below hW lV
        have hZ2 := hZ.below hW lZ
        have hS2 := hS.below hW lS
        have p0 := hP.cell 0; have p1 := hP.cell 1; have r0 := hS2.cell 0; have r1 := hS2.cell 1; have fS := hS2.froz
        simp at p0 p1 r0 r1
        have lP := hP.lt; have lS2 := hS2.lt
        have v1 : IntKind.i64.wrap (a + lo) = a + lo := IntWalk.i64_in _ (by omega)
        have v2 : IntKind.i64.wrap (b + hi') = b + hi' := IntWalk.i64_in _ (by omega)
        go_wp2
        go_roundw
        case rel => exact ⟨i + 1, a + lo, b + hi', by go_num, by omega, HR2.out, by omega, by exact bX0, by exact bX0, by exact bX0, by exact bB2 hW hB⟩
        case measure => simp [intOf]; omega
    · have e : i = xs.length := by omega
      subst e
      have hr : R = (a, b) := by rw [← hR.out, List.drop_length]; rfl
      subst hr
      have r0 := hS.cell 0; have r1 := hS.cell 1; have z0 := hZ.cell 0; have z1 := hZ.cell 1; have fz := hZ.froz
      simp at r0 r1 z0 z1
      go_wp2
      refine bodyPost_ret (res_c1 rfl rfl (show Box _ _ 27 #[.int .i64 a, .int .i64 b] from ?hE) Try.underlying27 rfl tr_size) rfl ⟨rfl, ?hB⟩
      case hE => exact bX0
      case hB => exact bB1 hB
end Go.Proofs.Ytpnfgmgoafgcbaa

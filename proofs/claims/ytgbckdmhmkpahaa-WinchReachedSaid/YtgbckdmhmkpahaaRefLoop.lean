/-
  The references of loops (chapter 2): CheckLoop.
-/
import Derived.Test.YtgbckdmhmkpahaaLoops
set_option linter.unusedVariables false
namespace Go.Proofs.Ytgbckdmhmkpahaa
open Go.RowKit Go.Shelf

theorem chkL_even {T : List Int} (lo hi turn slew : Int) (h : T.length % 2 = 0) : chkL T lo hi turn slew = (0, 10) := by
  have h1 : lpE0 T.length = 10 := by
    unfold lpE0
    rw [Int.tmod_eq_emod_of_nonneg (by omega), beqF (show (T.length : Int) % 2 ≠ 1 by omega)]
    simp [unl, fstE]
  unfold chkL
  rw [h1]; rfl
theorem chkL_long {T : List Int} (lo hi turn slew : Int) (h : T.length % 2 = 1) (h' : 11 < T.length) : chkL T lo hi turn slew = (0, 8) := by
  have h1 : lpE0 T.length = 8 := by
    unfold lpE0
    rw [Int.tmod_eq_emod_of_nonneg (by omega), beqT (show (T.length : Int) % 2 = 1 by omega), decide_eq_false (by omega)]
    simp [unl, fstE]
  unfold chkL
  rw [h1]; rfl
theorem chkL_mid {T : List Int} (lo hi turn slew : Int) (h : T.length % 2 = 1) (h' : T.length ≤ 11) : chkL T lo hi turn slew = if 0 ≤ findI badC T then (findI badC T, 2) else (0, fstE [unl (ranL lo hi turn slew) 2, unl (inB 0 lo hi) 9]) := by
  have h1 : lpE0 T.length = 0 := by
    unfold lpE0
    rw [Int.tmod_eq_emod_of_nonneg (by omega), beqT (show (T.length : Int) % 2 = 1 by omega), decide_eq_true (by omega)]
    simp [unl, fstE]
  unfold chkL
  rw [h1]; rfl

set_option maxHeartbeats 2000000 in
set_option maxRecDepth 100000 in
theorem refCheckLoop_c (T : List Int) (A : Option Addr) (c : Nat) (lo hi turn slew : Int) (w : World) (hn : T.length ≤ 1000) (hs : SlI w A T) :
    Calls Try.prog 51 #[.agg #[.slice A T.length c, .int .i64 lo, .int .i64 hi, .int .i64 turn, .int .i64 slew]] w fun e w' => e = .returned (.tuple #[.int .i64 (chkL T lo hi turn slew).1, .int .i64 (chkL T lo hi turn slew).2]) ∧ Below w.heap.size w w' := by
  have mm : (T.length : Int).tmod 2 = (T.length : Int) % 2 := Int.tmod_eq_emod_of_nonneg (by omega)
  rcases Nat.mod_two_eq_zero_or_one T.length with h | h
  · have R := Lib.hid (chkL_even (T := T) lo hi turn slew h)
    have b0 : ((T.length : Int) % 2 == 0) = true := beqT (by omega)
    go_enter Try.func51, Try.ntmps51
    go_wp2
    go_ret2
    exact ⟨ret_ii (by rw [R.out]) (by rw [R.out]), by focus ((repeat first | with_reducible exact Below.refl _ _ | (with_reducible refine Below.setCell ?_ ?_ _) | (with_reducible refine Below.alloc ?_ ?_ _) | (with_reducible refine below_drewN ?_ _) | (with_reducible refine Below.drew ?_)); all_goals (first | with_reducible exact Nat.le_refl _ | omega | (simp; done) | (simp; omega) | (omega) | ((try simp); omega)))⟩
  · have b0 : ((T.length : Int) % 2 == 0) = false := beqF (by omega)
    have b1 : (T.length : Int) % 2 = 1 := by omega
    rcases Nat.lt_or_ge 11 T.length with h' | h'
    · have R := Lib.hid (chkL_long (T := T) lo hi turn slew h h')
      go_enter Try.func51, Try.ntmps51
      go_wp2
      go_ret2
      exact ⟨ret_ii (by rw [R.out]) (by rw [R.out]), by focus ((repeat first | with_reducible exact Below.refl _ _ | (with_reducible refine Below.setCell ?_ ?_ _) | (with_reducible refine Below.alloc ?_ ?_ _) | (with_reducible refine below_drewN ?_ _) | (with_reducible refine Below.drew ?_)); all_goals (first | with_reducible exact Nat.le_refl _ | omega | (simp; done) | (simp; omega) | (omega) | ((try simp); omega)))⟩
    · have R := Lib.hid (chkL_mid (T := T) lo hi turn slew h h')
      have HS := Lib.hid (hs.alloc (.cells #[.slice A T.length c, .int .i64 lo, .int .i64 hi, .int .i64 turn, .int .i64 slew] 26))
      have RL := Lib.hid (show ranL lo hi turn slew = (inB lo (-4) 4 && inB hi (-4) 4 && inB turn 0 8 && inB slew 0 20) from rfl)
      generalize chkL T lo hi turn slew = CL at *
      generalize ranL lo hi turn slew = rl at *
      go_enter Try.func51, Try.ntmps51
      go_wp2
      go_loop [4] (fun i => ∃ k : Nat, k ≤ T.length ∧ i = .int .i64 k ∧ Hid (findI badC T = findFrom badC k (T.drop k))) (fun i => T.length - (intOf i).toNat)
      case atStart => exact ⟨0, Nat.zero_le _, rfl, rfl⟩
      case round =>
        obtain ⟨k, hk, rfl, hf⟩ := hrel
        by_cases hlt : k < T.length
        · obtain ⟨b, off, rfl, hb, hc⟩ := HS.out k T[k] (List.getElem?_eq_getElem hlt)
          have HD := Lib.hid (List.drop_eq_getElem_cons hlt)
          generalize T[k] = x at *
          cases hx : inB x (-10) 10
          · have HB := Lib.hid (show badC x = true by unfold badC; rw [hx]; rfl)
            go_wp2_with (go_at_call 37; refine (within_b _ _ _ _).mono ?_; rintro e w' ⟨rfl, rfl⟩)
            go_ret2
            have e : findI badC T = k := by rw [hf.out, HD.out, findFrom, if_pos HB.out]
            exact ⟨ret_ii (by rw [R.out, e, if_pos (by omega)]) (by rw [R.out, e, if_pos (by omega)]), by focus ((repeat first | with_reducible exact Below.refl _ _ | (with_reducible refine Below.setCell ?_ ?_ _) | (with_reducible refine Below.alloc ?_ ?_ _) | (with_reducible refine below_drewN ?_ _) | (with_reducible refine Below.drew ?_)); all_goals (first | with_reducible exact Nat.le_refl _ | omega | (simp; done) | (simp; omega) | (omega) | ((try simp); omega)))⟩
          · have HB := Lib.hid (show badC x = false by unfold badC; rw [hx]; rfl)
            go_wp2_with (go_at_call 37; refine (within_b _ _ _ _).mono ?_; rintro e w' ⟨rfl, rfl⟩)
            go_round
            case rel => exact ⟨k + 1, by omega, by go_num, by unfold Hid; rw [hf.out, HD.out, findFrom, if_neg (by rw [HB.out]; simp)]; simp⟩
            case measure => simp [intOf]; omega
        · have E := Lib.hid (show findI badC T = -1 by rw [hf.out, List.drop_eq_nil_of_le (by omega)]; rfl)
          have R2 := Lib.hid (show CL = (0, fstE [unl rl 2, unl (inB 0 lo hi) 9]) by rw [R.out, E.out]; rfl)
          have hc : (inB lo (-4) 4 = false) ∨ (inB lo (-4) 4 = true ∧ inB hi (-4) 4 = false) ∨ (inB lo (-4) 4 = true ∧ inB hi (-4) 4 = true ∧ inB turn 0 8 = false) ∨ (inB lo (-4) 4 = true ∧ inB hi (-4) 4 = true ∧ inB turn 0 8 = true ∧ inB slew 0 20 = false) ∨ (inB lo (-4) 4 = true ∧ inB hi (-4) 4 = true ∧ inB turn 0 8 = true ∧ inB slew 0 20 = true) := by
            cases inB lo (-4) 4 <;> cases inB hi (-4) 4 <;> cases inB turn 0 8 <;> cases inB slew 0 20 <;> simp
          rcases hc with i1 | ⟨i1, i2⟩ | ⟨i1, i2, i3⟩ | ⟨i1, i2, i3, i4⟩ | ⟨i1, i2, i3, i4⟩
          iterate 4
            · have F := Lib.hid (show rl = false by rw [RL.out]; simp [*])
              go_wp2_with (go_at_call 37; refine (within_b _ _ _ _).mono ?_; rintro e w' ⟨rfl, rfl⟩)
              go_ret2
              exact ⟨ret_ii (by rw [R2.out]) (by rw [R2.out, F.out]; rfl), by focus ((repeat first | with_reducible exact Below.refl _ _ | (with_reducible refine Below.setCell ?_ ?_ _) | (with_reducible refine Below.alloc ?_ ?_ _) | (with_reducible refine below_drewN ?_ _) | (with_reducible refine Below.drew ?_)); all_goals (first | with_reducible exact Nat.le_refl _ | omega | (simp; done) | (simp; omega) | (omega) | ((try simp); omega)))⟩
          have F := Lib.hid (show rl = true by rw [RL.out]; simp [*])
          by_cases hl : 0 < lo
          · have G := Lib.hid (show inB 0 lo hi = false from inB_false.2 (by omega))
            have g1 : decide (0 < lo) = true := decide_eq_true hl
            go_wp2_with (go_at_call 37; refine (within_b _ _ _ _).mono ?_; rintro e w' ⟨rfl, rfl⟩)
            go_ret2
            exact ⟨ret_ii (by rw [R2.out]) (by rw [R2.out, F.out, G.out]; rfl), by focus ((repeat first | with_reducible exact Below.refl _ _ | (with_reducible refine Below.setCell ?_ ?_ _) | (with_reducible refine Below.alloc ?_ ?_ _) | (with_reducible refine below_drewN ?_ _) | (with_reducible refine Below.drew ?_)); all_goals (first | with_reducible exact Nat.le_refl _ | omega | (simp; done) | (simp; omega) | (omega) | ((try simp); omega)))⟩
          · have g1 : decide (0 < lo) = false := decide_eq_false hl
            by_cases hh : hi < 0
            · have G := Lib.hid (show inB 0 lo hi = false from inB_false.2 (by omega))
              have g2 : decide (hi < 0) = true := decide_eq_true hh
              go_wp2_with (go_at_call 37; refine (within_b _ _ _ _).mono ?_; rintro e w' ⟨rfl, rfl⟩)
              go_ret2
              exact ⟨ret_ii (by rw [R2.out]) (by rw [R2.out, F.out, G.out]; rfl), by focus ((repeat first | with_reducible exact Below.refl _ _ | (with_reducible refine Below.setCell ?_ ?_ _) | (with_reducible refine Below.alloc ?_ ?_ _) | (with_reducible refine below_drewN ?_ _) | (with_reducible refine Below.drew ?_)); all_goals (first | with_reducible exact Nat.le_refl _ | omega | (simp; done) | (simp; omega) | (omega) | ((try simp); omega)))⟩
            · have G := Lib.hid (show inB 0 lo hi = true from inB_true.2 (by omega))
              have g2 : decide (hi < 0) = false := decide_eq_false hh
              go_wp2_with (go_at_call 37; refine (within_b _ _ _ _).mono ?_; rintro e w' ⟨rfl, rfl⟩)
              go_ret2
              exact ⟨ret_ii (by rw [R2.out]) (by rw [R2.out, F.out, G.out]; rfl), by focus ((repeat first | with_reducible exact Below.refl _ _ | (with_reducible refine Below.setCell ?_ ?_ _) | (with_reducible refine Below.alloc ?_ ?_ _) | (with_reducible refine below_drewN ?_ _) | (with_reducible refine Below.drew ?_)); all_goals (first | with_reducible exact Nat.le_refl _ | omega | (simp; done) | (simp; omega) | (omega) | ((try simp); omega)))⟩

end Go.Proofs.Ytgbckdmhmkpahaa

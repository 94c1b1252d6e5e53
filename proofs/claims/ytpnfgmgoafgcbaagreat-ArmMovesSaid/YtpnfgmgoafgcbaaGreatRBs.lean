/-
  Gcd, IsLowest, Lowest and Before of the references' helpers (chapter 6).
-/
import Derived.Test.YtpnfgmgoafgcbaaGreatHdP
import Derived.Test.YtpnfgmgoafgcbaaGreatA15
set_option linter.unusedVariables false
namespace Go.Proofs.YtpnfgmgoafgcbaaGreat
open Go.RowKit
attribute [local go_sem] Oper.semAt_some
attribute [local go_sem ↓] neq_ce'

set_option maxHeartbeats 1000000 in
theorem gcdE_c (a b : Int) (w : World) (ha : -9223372036854775808 ≤ a ∧ a ≤ 9223372036854775807) (hb : 0 < b ∧ b ≤ 9223372036854775807) :
    Calls Tryz.prog 104 #[.int .i64 a, .int .i64 b] w fun e w' => e = .returned (.int .i64 (absI (eu a b))) ∧ Below w.heap.size w w' := by
  generalize hr : eu a b = R
  have HR := Lib.hid hr.symm
  clear hr
  go_enter Tryz.func104, Tryz.ntmps104
  go_wp2
  go_loopw [0, 1] (fun g n wr => ∃ (x y : Int), g = .int .i64 x ∧ n = .int .i64 y ∧ Hid (R = eu x y) ∧ (-9223372036854775808 ≤ x ∧ x ≤ 9223372036854775807) ∧ (-9223372036854775807 ≤ y ∧ y ≤ 9223372036854775807) ∧ (y = 0 → -9223372036854775807 ≤ x) ∧ Below w.heap.size w wr) (fun _ n _ => (intOf n).natAbs)
  case atStart => exact ⟨a, b, rfl, rfl, HR.out, ha, by omega, by omega, Below.refl _ _⟩
  case round =>
    obtain ⟨x, y, rfl, rfl, hpq, ⟨hx1, hx2⟩, ⟨hy1, hy2⟩, h0, hB2⟩ := hrel
    clear HR
    by_cases hz : y = 0
    · have hx3 := h0 hz
      have hz1 : (y != 0) = false := by simp [hz]
      have HZ := Lib.hid (show R = x by rw [hpq.out, hz]; rfl)
      clear hz h0
      go_wp2_with (go_at_call 152; (with_reducible refine (size_c _ _ (by omega) (by omega)).mono ?_); rintro e w' ⟨rfl, rfl⟩)
      go_ret
      exact ⟨ret_i (by rw [HZ.out]), hB2⟩
    · have hz1 : (y != 0) = true := by simp [hz]
      have hz2 : (y == 0) = false := by simp [hz]
      have hm : (x.tmod y).natAbs < y.natAbs := tmod_lt hz
      have HZ := Lib.hid (hpq.out.trans (eu_step hz)); clear hz h0
      go_wp2
      go_quiet (fail)
      go_wp2
      go_roundw
      case rel => exact ⟨y, x.tmod y, rfl, rfl, HZ.out, by omega, by omega, by omega, below_drewN hB2 _⟩
      case measure => simpa [intOf] using hm

set_option maxHeartbeats 1000000 in
theorem isLowest_c (fn fd : Int) (w : World) (h1 : -9223372036854775808 ≤ fn ∧ fn ≤ 9223372036854775807) (h2 : -9223372036854775808 ≤ fd ∧ fd ≤ 9223372036854775807) :
    Calls Tryz.prog 100 #[.agg #[.int .i64 fn, .int .i64 fd]] w fun e w' => e = .returned (.bool (decide (0 < fd) && (eu fn fd == 1 || eu fn fd == -1))) ∧ Below w.heap.size w w' := by
  by_cases h : 0 < fd
  · have GCc := Lib.hid (fun W => gcdE_c fn fd W h1 ⟨h, h2.2⟩)
    have d1 : decide (0 < fd) = true := decide_eq_true h
    have HR := Lib.hid (show (absI (eu fn fd) == 1) = (decide (0 < fd) && (eu fn fd == 1 || eu fn fd == -1)) from by
      rw [d1, Bool.true_and, Bool.eq_iff_iff]
      simp only [beq_iff_eq, Bool.or_eq_true]
      unfold absI
      split <;> omega)
    generalize (decide (0 < fd) && (eu fn fd == 1 || eu fn fd == -1)) = R at *
    generalize absI (eu fn fd) = g at *
    clear h
    go_enter Tryz.func100, Tryz.ntmps100
    go_wp2_with (first | (go_at_call 104; (with_reducible refine (GCc.out _).mono ?_); rintro e w3 ⟨rfl, hb3⟩) | fail)
    go_ret
    exact ⟨ret_b HR.out, by exact bB1 hb3⟩
  · have d1 : decide (0 < fd) = false := decide_eq_false h
    have HR := Lib.hid (show (decide (0 < fd) && (eu fn fd == 1 || eu fn fd == -1)) = false from by rw [d1]; rfl)
    generalize (decide (0 < fd) && (eu fn fd == 1 || eu fn fd == -1)) = R at *
    go_enter Tryz.func100, Tryz.ntmps100
    go_wp2_with fail
    go_ret
    exact ⟨ret_b HR.out.symm, by exact bB0⟩

end Go.Proofs.YtpnfgmgoafgcbaaGreat

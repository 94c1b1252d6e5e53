/-
  The texts Way, Tip, Few, Lgt in one.
-/
import Derived.Test.YtpnfgmgoafgcbaaGreatA3
import Derived.Test.YtpnfgmgoafgcbaaGreatA2
import Derived.Test.YtpnfgmgoafgcbaaGreatA1
import Derived.Test.YtpnfgmgoafgcbaaGreatRSc
import Derived.Test.YtpnfgmgoafgcbaaGreatA15
import Derived.Test.YtpnfgmgoafgcbaaGreatA4
set_option linter.unusedVariables false
set_option linter.unusedSimpArgs false
/-
  way of the reference (chapter 6).
-/
set_option linter.unusedVariables false
namespace Go.Proofs.YtpnfgmgoafgcbaaGreat
open Go.RowKit
attribute [local go_sem] Oper.semAt_some
attribute [local go_sem ↓] neq_ce'
theorem tc_size : (Tryz.prog.info? 22).map (·.size) = some 2 := by kernel_rfl
set_option maxHeartbeats 1000000 in
theorem way_at (q a b : Int) (w : World) (h : -1000 ≤ q ∧ q ≤ 1000) (h1 : dirX q = a) (h2 : dirY q = b) :
    Calls Tryz.prog 99 #[.int .i64 q] w fun e w' => e = .returned (.agg #[.int .i64 a, .int .i64 b]) ∧ Below w.heap.size w w' := by
  have h4 : q % 4 = 0 ∨ q % 4 = 1 ∨ q % 4 = 2 ∨ q % 4 = 3 := by omega
  have MC0 := Lib.hid (fun W => mod_c q 4 (by decide) (by omega) (by omega) (by decide) W)
  unfold dirX at h1
  unfold dirY at h2
  rcases h4 with e | e | e | e
  all_goals
    rw [e] at h1 h2
    have MC := MC0
    rw [e] at MC
    simp at h1 h2
    subst h1 h2
    clear MC0 e h
    go_enter Tryz.func99, Tryz.ntmps99
    go_wp2_with (first | (go_at_call 153; (with_reducible refine (MC.out _).mono ?_); rintro e w' ⟨rfl, rfl⟩) | fail)
    refine bodyPost_ret (res_c1 rfl rfl (show Box _ _ 22 #[.int .i64 _, .int .i64 _] from ?hE) Tryz.underlying22 rfl tc_size) rfl ⟨rfl, ?hB⟩
    case hE => exact bX0
    case hB => exact bB0
end Go.Proofs.YtpnfgmgoafgcbaaGreat
/-
  The tip of an arm (chapter 6).
-/
set_option linter.unusedVariables false
namespace Go.Proofs.YtpnfgmgoafgcbaaGreat
end Go.Proofs.YtpnfgmgoafgcbaaGreat
/-
  few (law of chapter 6): whether a scene and a pose are small.
-/
set_option linter.unusedVariables false
namespace Go.Proofs.YtpnfgmgoafgcbaaGreat
open Go.RowKit
attribute [local go_sem] Oper.semAt_some
section
variable {w : World} {g : Nat} {t : TypeId} {a0 a1 a2 a3 a4 a5 a6 a7 a8 : Value}
end
/-- Whether a scene has not many links and boxes, and a pose not many quarters. -/
def fewP (s : Sc) (p : Ps) : Bool := decide (s.L.length ≤ 5) && decide (s.B.length ≤ 8) && decide (p.2.length ≤ 5)
theorem fewP_true {s : Sc} {p : Ps} (h : fewP s p = true) : s.L.length ≤ 5 ∧ s.B.length ≤ 8 ∧ p.2.length ≤ 5 := by
  simp [fewP] at h
  omega
set_option maxHeartbeats 1000000 in
theorem few_c (bx bY sl fx fX fy fY ps : Int) (L : List Lk) (B : List Bx) (Q : List Int) (AL AB AQ : Option Addr) (cL cB cQ : Nat) (w : World) :
    Calls Tryz.prog 15 #[.agg #[.int .i64 bx, .int .i64 bY, .int .i64 sl, .slice AL L.length cL, .int .i64 fx, .int .i64 fX, .int .i64 fy, .int .i64 fY, .slice AB B.length cB], .agg #[.int .i64 ps, .slice AQ Q.length cQ]] w fun e w' => e = .returned (.bool (fewP (⟨bx, bY, sl, L, (fx, fX, fy, fY), B⟩ : Sc) (ps, Q))) ∧ Below w.heap.size w w' := by
  have HR := Lib.hid (show fewP (⟨bx, bY, sl, L, (fx, fX, fy, fY), B⟩ : Sc) (ps, Q) = (decide ((L.length : Int) ≤ 5) && decide ((B.length : Int) ≤ 8) && decide ((Q.length : Int) ≤ 5)) from by unfold fewP; dsimp only; congr 1; (congr 1); all_goals exact decide_eq_decide.2 (by omega))
  generalize fewP (⟨bx, bY, sl, L, (fx, fX, fy, fY), B⟩ : Sc) (ps, Q) = R at *
  by_cases h1 : (L.length : Int) ≤ 5
  · have d1 := decide_eq_true h1
    rw [d1] at HR
    by_cases h2 : (B.length : Int) ≤ 8
    · have d2 := decide_eq_true h2
      rw [d2] at HR
      clear h1 h2
      go_enter Tryz.func15, Tryz.ntmps15
      go_wp2
      all_goals go_ret
      all_goals exact ⟨by rw [HR.out]; first | rfl | (simp [*]; done), by exact bB0⟩
    · have d2 := decide_eq_false h2
      rw [d2] at HR
      clear h1 h2
      go_enter Tryz.func15, Tryz.ntmps15
      go_wp2
      all_goals go_ret
      all_goals exact ⟨by rw [HR.out]; first | rfl | (simp [*]; done), by exact bB0⟩
  · have d1 := decide_eq_false h1
    rw [d1] at HR
    clear h1
    go_enter Tryz.func15, Tryz.ntmps15
    go_wp2
    all_goals go_ret
    all_goals exact ⟨by rw [HR.out]; first | rfl | (simp [*]; done), by exact bB0⟩
end Go.Proofs.YtpnfgmgoafgcbaaGreat
/-
  light and same (law of chapter 6).
-/
set_option linter.unusedVariables false
namespace Go.Proofs.YtpnfgmgoafgcbaaGreat
open Go.RowKit
attribute [local go_sem] Oper.semAt_some
end Go.Proofs.YtpnfgmgoafgcbaaGreat

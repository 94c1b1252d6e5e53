/-
  few (law of chapter 6): whether a scene and a pose are small.
-/
import Derived.Test.YtpnfgmgoafgcbaaGreatA1
set_option linter.unusedVariables false
namespace Go.Proofs.YtpnfgmgoafgcbaaGreat
open Go.RowKit
attribute [local go_sem] Oper.semAt_some
/-- Whether a scene has not many links and boxes, and a pose not many quarters. -/
def fewP (s : Sc) (p : Ps) : Bool := decide (s.L.length ≤ 5) && decide (s.B.length ≤ 8) && decide (p.2.length ≤ 5)
theorem fewP_true {s : Sc} {p : Ps} (h : fewP s p = true) : s.L.length ≤ 5 ∧ s.B.length ≤ 8 ∧ p.2.length ≤ 5 := by
  simp [fewP] at h
  omega
set_option maxHeartbeats 1000000 in
theorem few_c (bx bY sl fx fX fy fY ps : Int) (L : List Lk) (B : List Bx) (Q : List Int) (AL AB AQ : Option Addr) (cL cB cQ : Nat) (w : World) :
    Calls Tryz.prog 15 #[.agg #[.int .i64 bx, .int .i64 bY, .int .i64 sl, .slice AL L.length cL, .int .i64 fx, .int .i64 fX, .int .i64 fy, .int .i64 fY, .slice AB B.length cB], .agg #[.int .i64 ps, .slice AQ Q.length cQ]] w fun e w' => e = .returned (.bool (fewP (⟨bx, bY, sl, L, (fx, fX, fy, fY), B⟩ : Sc) (ps, Q))) ∧ Below w.heap.size w w' := by
  have HR := Lib.hid (show fewP (⟨bx, bY, sl, L, (fx, fX, fy, fY), B⟩ : Sc) (ps, Q) = (decide ((L.length : Int) ≤ 5) && decide ((B.length : Int) ≤ 8) && decide ((Q.length : Int) ≤ 5)) from by unfold fewP; dsimp only; congr 1; (congr 1); all_goals exact decide_eq_decide.2 (by omega))
  generalize fewP (⟨bx, bY, sl, L, (fx, fX, fy, fY), B⟩ : Sc) (ps, Q) = R at *
  by_cases h1 : (L.length : Int) ≤ 5
  · have d1 := decide_eq_true h1
    rw [d1] at HR
    by_cases h2 : (B.length : Int) ≤ 8
    · have d2 := decide_eq_true h2
      rw [d2] at HR
      clear h1 h2
      go_enter Tryz.func15, Tryz.ntmps15
      go_wp2
      all_goals go_ret
      all_goals exact ⟨by rw [HR.out]; first | rfl | (simp [*]; done), by exact bB0⟩
    · have d2 := decide_eq_false h2
      rw [d2] at HR
      clear h1 h2
      go_enter Tryz.func15, Tryz.ntmps15
      go_wp2
      all_goals go_ret
      all_goals exact ⟨by rw [HR.out]; first | rfl | (simp [*]; done), by exact bB0⟩
  · have d1 := decide_eq_false h1
    rw [d1] at HR
    clear h1
    go_enter Tryz.func15, Tryz.ntmps15
    go_wp2
    all_goals go_ret
    all_goals exact ⟨by rw [HR.out]; first | rfl | (simp [*]; done), by exact bB0⟩

end Go.Proofs.YtpnfgmgoafgcbaaGreat

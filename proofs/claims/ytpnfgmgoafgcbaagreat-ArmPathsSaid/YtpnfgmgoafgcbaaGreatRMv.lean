/-
  MoveErr of the reference (chapter 6).
-/
import Derived.Test.YtpnfgmgoafgcbaaGreatSameP
import Derived.Test.YtpnfgmgoafgcbaaGreatMoved
set_option linter.unusedVariables false
namespace Go.Proofs.YtpnfgmgoafgcbaaGreat
open Go.RowKit
attribute [local go_sem] Oper.semAt_some
set_option maxHeartbeats 2000000 in
set_option maxRecDepth 100000 in
theorem rMoveErr_c (bx bY sl fx fX fy fY mj mb : Int) (L : List Lk) (B : List Bx) (AL AB : Option Addr) (cL cB : Nat) (w : World) (hL : L.length ≤ 1000) :
    Calls Tryz.prog 89 #[.agg #[.int .i64 bx, .int .i64 bY, .int .i64 sl, .slice AL L.length cL, .int .i64 fx, .int .i64 fX, .int .i64 fy, .int .i64 fY, .slice AB B.length cB], .agg #[.int .i64 mj, .int .i64 mb]] w fun e w' => e = .returned (.int .i64 (mvE (⟨bx, bY, sl, L, (fx, fX, fy, fY), B⟩ : Sc) (mj, mb))) ∧ Below w.heap.size w w' := by
  have HL := Lib.hid (show mvE (⟨bx, bY, sl, L, (fx, fX, fy, fY), B⟩ : Sc) (mj, mb) = fstE [unl (inB mj (-1) ((L.length : Int) - 1)) 6, unl (mb == 1 || mb == -1) 2] from rfl)
  generalize mvE (⟨bx, bY, sl, L, (fx, fX, fy, fY), B⟩ : Sc) (mj, mb) = r at *
  have V := IntWalk.i64_in ((L.length : Int) - 1) (by omega)
  have hc : (inB mj (-1) ((L.length : Int) - 1) = false) ∨ (inB mj (-1) ((L.length : Int) - 1) = true ∧ (mb == 1) = true) ∨ (inB mj (-1) ((L.length : Int) - 1) = true ∧ (mb == 1) = false ∧ (mb == -1) = true) ∨ (inB mj (-1) ((L.length : Int) - 1) = true ∧ (mb == 1) = false ∧ (mb == -1) = false) := by
    cases inB mj (-1) ((L.length : Int) - 1) <;> cases (mb == 1) <;> cases (mb == -1) <;> simp
  rcases hc with h | ⟨h, h2⟩ | ⟨h, h2, h3⟩ | ⟨h, h2, h3⟩
  all_goals have HH := Lib.hid h
  · have HR := Lib.hid (show r = 6 by rw [HL.out, h]; simp [fstE, unl])
    clear HL
    go_enter Tryz.func89, Tryz.ntmps89
    go_wp2_with (first | (go_at_call 40; (with_reducible refine (within_b _ _ _ _).mono ?_); rintro e w' ⟨rfl, rfl⟩) | fail)
    go_ret
    exact ⟨ret_i HR.out.symm, by exact bB0⟩
  · have HR := Lib.hid (show r = 0 by rw [HL.out, h, h2]; simp [fstE, unl])
    have g1 : (mb != 1) = false := by simpa [bne] using h2
    clear HL h2
    go_enter Tryz.func89, Tryz.ntmps89
    go_wp2_with (first | (go_at_call 40; (with_reducible refine (within_b _ _ _ _).mono ?_); rintro e w' ⟨rfl, rfl⟩) | fail)
    go_ret
    exact ⟨ret_i HR.out.symm, by exact bB0⟩
  · have HR := Lib.hid (show r = 0 by rw [HL.out, h, h2, h3]; simp [fstE, unl])
    have g1 : (mb != 1) = true := by simpa [bne] using h2
    have g2 : (mb != -1) = false := by simpa [bne] using h3
    clear HL h2 h3
    go_enter Tryz.func89, Tryz.ntmps89
    go_wp2_with (first | (go_at_call 40; (with_reducible refine (within_b _ _ _ _).mono ?_); rintro e w' ⟨rfl, rfl⟩) | fail)
    go_ret
    exact ⟨ret_i HR.out.symm, by exact bB0⟩
  · have HR := Lib.hid (show r = 2 by rw [HL.out, h, h2, h3]; simp [fstE, unl])
    have g1 : (mb != 1) = true := by simpa [bne] using h2
    have g2 : (mb != -1) = true := by simpa [bne] using h3
    clear HL h2 h3
    go_enter Tryz.func89, Tryz.ntmps89
    go_wp2_with (first | (go_at_call 40; (with_reducible refine (within_b _ _ _ _).mono ?_); rintro e w' ⟨rfl, rfl⟩) | fail)
    go_ret
    exact ⟨ret_i HR.out.symm, by exact bB0⟩

end Go.Proofs.YtpnfgmgoafgcbaaGreat

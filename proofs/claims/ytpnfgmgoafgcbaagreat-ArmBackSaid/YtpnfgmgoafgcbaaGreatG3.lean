/-
  The texts RMv, RMd, RSw in one.
-/
import Derived.Test.YtpnfgmgoafgcbaaGreatG4
import Derived.Test.YtpnfgmgoafgcbaaGreatMoved
import Derived.Test.YtpnfgmgoafgcbaaGreatRSc
import Derived.Test.YtpnfgmgoafgcbaaGreatLate
import Derived.Test.YtpnfgmgoafgcbaaGreatA6
import Derived.Test.YtpnfgmgoafgcbaaGreatG2
set_option linter.unusedVariables false
set_option linter.unusedSimpArgs false
/-
  MoveErr of the reference (chapter 6).
-/
set_option linter.unusedVariables false
namespace Go.Proofs.YtpnfgmgoafgcbaaGreat
open Go.RowKit
attribute [local go_sem] Oper.semAt_some
end Go.Proofs.YtpnfgmgoafgcbaaGreat
/-
  Moved and MovedErr of the reference (chapter 6).
-/
set_option linter.unusedVariables false
namespace Go.Proofs.YtpnfgmgoafgcbaaGreat
open Go.RowKit
attribute [local go_sem] Oper.semAt_some
def rmE (s : Sc) (p : Ps) (m : Mv) : Int := if omE s p m ≠ 0 then omE s p m else mvdE s p m
theorem ownE_ps {s : Sc} {p : Ps} (h : p.2.length = s.L.length) : ownE s p = psE s p := by
  unfold ownE psE
  rw [h]
  cases inB p.1 0 s.sl <;> cases qsOk s.L p.2 <;> simp [fstE, unl]
end Go.Proofs.YtpnfgmgoafgcbaaGreat
/-
  Sweep of the reference (chapter 6).
-/
set_option linter.unusedVariables false
namespace Go.Proofs.YtpnfgmgoafgcbaaGreat
open Go.RowKit
attribute [local go_sem] Oper.semAt_some
theorem frR_len : ∀ (js : List Ce) (L : List Lk), (∀ z ∈ L, z.1 ≤ 4) → (frR js L).length ≤ 4 * L.length
  | [], [], _ => by simp [frR]
  | [], _ :: _, _ => by simp [frR]
  | [_], [], _ => by simp [frR]
  | [_], _ :: _, _ => by simp [frR]
  | _ :: _ :: _, [], _ => by simp [frR]
  | a :: b :: js, l :: L, h => by
    have h1 := frR_len (b :: js) L (fun z hz => h z (by simp [hz]))
    have h2 := h l (by simp)
    simp only [frR, lnsR, List.length_append, List.length_map, List.length_range, List.length_cons] at h1 ⊢
    omega
theorem frP_len {s : Sc} {p : Ps} {i : Nat} (h : ∀ z ∈ s.L, z.1 ≤ 4) : (frP s p i).length ≤ 1 + 4 * s.L.length := by
  have h1 := frR_len ((jts s p).drop i) (s.L.drop i) (fun z hz => h z (List.mem_of_mem_drop hz))
  have h2 : (s.L.drop i).length ≤ s.L.length := by simp
  simp only [frP, List.length_cons]
  omega
end Go.Proofs.YtpnfgmgoafgcbaaGreat

/-
  The texts RMv, RMd, RSw in one.
-/
import Derived.Test.YtpnfgmgoafgcbaaGreatG4
import Derived.Test.YtpnfgmgoafgcbaaGreatMoved
import Derived.Test.YtpnfgmgoafgcbaaGreatRSc
import Derived.Test.YtpnfgmgoafgcbaaGreatLate
import Derived.Test.YtpnfgmgoafgcbaaGreatA6
import Derived.Test.YtpnfgmgoafgcbaaGreatG2
/-
  MoveErr of the reference (chapter 6).
-/
set_option linter.unusedVariables false
namespace Go.Proofs.YtpnfgmgoafgcbaaGreat
open Go.RowKit
attribute [local go_sem] Oper.semAt_some
end Go.Proofs.YtpnfgmgoafgcbaaGreat
/-
  Moved and MovedErr of the reference (chapter 6).
-/
set_option linter.unusedVariables false
namespace Go.Proofs.YtpnfgmgoafgcbaaGreat
open Go.RowKit
attribute [local go_sem] Oper.semAt_some
end Go.Proofs.YtpnfgmgoafgcbaaGreat
/-
  Sweep of the reference (chapter 6).
-/
set_option linter.unusedVariables false
namespace Go.Proofs.YtpnfgmgoafgcbaaGreat
open Go.RowKit
attribute [local go_sem] Oper.semAt_some
theorem frR_len : ∀ (js : List Ce) (L : List Lk), (∀ z ∈ L, z.1 ≤ 4) → (frR js L).length ≤ 4 * L.length
  | [], [], _ => by simp [frR]
  | [], _ :: _, _ => by simp [frR]
  | [_], [], _ => by simp [frR]
  | [_], _ :: _, _ => by simp [frR]
  | _ :: _ :: _, [], _ => by simp [frR]
  | a :: b :: js, l :: L, h => by
    have h1 := frR_len (b :: js) L (fun z hz => h z (by simp [hz]))
    have h2 := h l (by simp)
    simp only [frR, lnsR, List.length_append, List.length_map, List.length_range, List.length_cons] at h1 ⊢
    omega
theorem frP_len {s : Sc} {p : Ps} {i : Nat} (h : ∀ z ∈ s.L, z.1 ≤ 4) : (frP s p i).length ≤ 1 + 4 * s.L.length := by
  have h1 := frR_len ((jts s p).drop i) (s.L.drop i) (fun z hz => h z (List.mem_of_mem_drop hz))
  have h2 : (s.L.drop i).length ≤ s.L.length := by simp
  simp only [frP, List.length_cons]
  omega
end Go.Proofs.YtpnfgmgoafgcbaaGreat

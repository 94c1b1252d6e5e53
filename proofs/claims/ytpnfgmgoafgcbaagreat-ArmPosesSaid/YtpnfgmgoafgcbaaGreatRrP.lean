/-
  The reached poses of the reference are those that ReachedFrom finds (chapter 6), in plain words.
-/
import Derived.Test.YtpnfgmgoafgcbaaGreatShP
import Derived.Test.YtpnfgmgoafgcbaaGreatA11
import Derived.Test.YtpnfgmgoafgcbaaGreatRMo
set_option linter.unusedVariables false
namespace Go.Proofs.YtpnfgmgoafgcbaaGreat
open Go.RowKit Go.Shelf
theorem cmpI_lt0 {a b : Int} : cmpI a b < 0 ↔ a < b := by unfold cmpI; split <;> (try split) <;> omega
theorem lexC_befL : ∀ P Q : List Int, befL P Q = decide (lexC P Q < 0)
  | [], [] => rfl
  | [], _ :: _ => rfl
  | _ :: _, [] => rfl
  | a :: P, b :: Q => by
    unfold befL lexC
    by_cases h : a = b
    · rw [if_neg (by simp [h]), if_pos (cmpI_zero.2 h)]
      exact lexC_befL P Q
    · rw [if_pos h, if_neg (fun e => h (cmpI_zero.1 e))]
      simp only [cmpI_lt0]
end Go.Proofs.YtpnfgmgoafgcbaaGreat

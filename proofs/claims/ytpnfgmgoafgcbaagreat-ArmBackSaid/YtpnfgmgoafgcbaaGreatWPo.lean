/-
  The law ArmPoses (chapter 6): the walk.
-/
import Derived.Test.YtpnfgmgoafgcbaaGreatG7
import Derived.Test.YtpnfgmgoafgcbaaGreatG1
import Derived.Test.YtpnfgmgoafgcbaaGreatCpyS
import Derived.Test.YtpnfgmgoafgcbaaGreatG4
import Derived.Test.YtpnfgmgoafgcbaaGreatAwake
set_option linter.unusedVariables false
set_option linter.unusedSimpArgs false
set_option linter.unusedVariables false
namespace Go.Proofs.YtpnfgmgoafgcbaaGreat
open Go.RowKit
attribute [local go_sem] Oper.semAt_some
def Po6 (W : World) (R : List Ce × Int) (s7 s8 : Value) (wx : World) : Prop :=
  ∃ A c, s7 = .slice A R.1.length c ∧ s8 = .int .i64 R.2 ∧ SlV wx A (R.1.flatMap ceV) ∧ Below W.heap.size W wx
end Go.Proofs.YtpnfgmgoafgcbaaGreat

/-
  May of the reference (chapter 6).
-/
import Derived.Test.YtpnfgmgoafgcbaaGreatG3
import Derived.Test.YtpnfgmgoafgcbaaGreatG2
set_option linter.unusedVariables false
set_option linter.unusedSimpArgs false
set_option linter.unusedVariables false
namespace Go.Proofs.YtpnfgmgoafgcbaaGreat
open Go.RowKit
attribute [local go_sem] Oper.semAt_some
end Go.Proofs.YtpnfgmgoafgcbaaGreat

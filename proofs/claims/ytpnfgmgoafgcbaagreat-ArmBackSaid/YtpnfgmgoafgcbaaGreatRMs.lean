/-
  Moves of the reference (chapter 6): all moves that may be made from a free pose.
-/
import Derived.Test.YtpnfgmgoafgcbaaGreatRMa
import Derived.Test.YtpnfgmgoafgcbaaGreatMvF
set_option linter.unusedVariables false
set_option linter.unusedSimpArgs false
set_option linter.unusedVariables false
namespace Go.Proofs.YtpnfgmgoafgcbaaGreat
open Go.RowKit Go.Shelf
attribute [local go_sem] Oper.semAt_some
end Go.Proofs.YtpnfgmgoafgcbaaGreat

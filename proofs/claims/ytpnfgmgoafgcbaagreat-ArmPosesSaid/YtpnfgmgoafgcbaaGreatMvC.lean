/-
  Moves and their cells (chapter 6): small lemmas.
-/
import Derived.Test.YtpnfgmgoafgcbaaGreatRMa
import Derived.Test.YtpnfgmgoafgcbaaGreatA9
set_option linter.unusedVariables false
namespace Go.Proofs.YtpnfgmgoafgcbaaGreat
open Go.RowKit
end Go.Proofs.YtpnfgmgoafgcbaaGreat

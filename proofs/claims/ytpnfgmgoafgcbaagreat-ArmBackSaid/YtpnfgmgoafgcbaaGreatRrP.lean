/-
  The reached poses of the reference are those that ReachedFrom finds (chapter 6), in plain words.
-/
import Derived.Test.YtpnfgmgoafgcbaaGreatShP
import Derived.Test.YtpnfgmgoafgcbaaGreatA11
import Derived.Test.YtpnfgmgoafgcbaaGreatRMo
set_option linter.unusedVariables false
set_option linter.unusedSimpArgs false
set_option linter.unusedVariables false
namespace Go.Proofs.YtpnfgmgoafgcbaaGreat
open Go.RowKit Go.Shelf
end Go.Proofs.YtpnfgmgoafgcbaaGreat

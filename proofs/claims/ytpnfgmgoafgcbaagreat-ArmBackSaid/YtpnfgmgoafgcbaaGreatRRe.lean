/-
  Reached of the reference (chapter 6).
-/
import Derived.Test.YtpnfgmgoafgcbaaGreatRrP
import Derived.Test.YtpnfgmgoafgcbaaGreatRSe
set_option linter.unusedVariables false
set_option linter.unusedSimpArgs false
set_option linter.unusedVariables false
namespace Go.Proofs.YtpnfgmgoafgcbaaGreat
open Go.RowKit Go.Shelf
attribute [local go_sem] Oper.semAt_some
end Go.Proofs.YtpnfgmgoafgcbaaGreat

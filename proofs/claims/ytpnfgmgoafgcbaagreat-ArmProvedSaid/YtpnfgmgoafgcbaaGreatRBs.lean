/-
  Gcd, IsLowest, Lowest and Before of the references' helpers (chapter 6).
-/
import Derived.Test.YtpnfgmgoafgcbaaGreatHdP
import Derived.Test.YtpnfgmgoafgcbaaGreatA15
set_option linter.all false
set_option linter.unusedVariables false
namespace Go.Proofs.YtpnfgmgoafgcbaaGreat
open Go.RowKit
attribute [local go_sem] Oper.semAt_some
attribute [local go_sem ↓] neq_ce'
end Go.Proofs.YtpnfgmgoafgcbaaGreat

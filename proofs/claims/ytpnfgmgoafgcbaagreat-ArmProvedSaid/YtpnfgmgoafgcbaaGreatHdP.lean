/-
  Forces that hold, in plain words (chapter 6): which are accepted; the first that hold are accepted, and not behind any that are; a greater friction and greater forces keep them.
-/
import Derived.Test.YtpnfgmgoafgcbaaGreatA14
set_option linter.all false
set_option linter.unusedVariables false
namespace Go.Proofs.YtpnfgmgoafgcbaaGreat
end Go.Proofs.YtpnfgmgoafgcbaaGreat

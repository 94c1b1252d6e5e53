/-
  The reference's search and the shortest paths (chapter 6), in plain words: the path that falls along the flood's numbers is the one that the search keeps.
-/
import Derived.Test.YtpnfgmgoafgcbaaGreatA10
import Derived.Test.YtpnfgmgoafgcbaaGreatDn3
set_option linter.unusedVariables false
namespace Go.Proofs.YtpnfgmgoafgcbaaGreat
def ltm (a b : Mv) : Prop := a.1 < b.1 ∨ (a.1 = b.1 ∧ a.2 < b.2)
end Go.Proofs.YtpnfgmgoafgcbaaGreat

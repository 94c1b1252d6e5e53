/-
  PathErr and End of the reference (chapter 6).
-/
import Derived.Test.YtpnfgmgoafgcbaaGreatMvC
import Derived.Test.YtpnfgmgoafgcbaaGreatA9
set_option linter.all false
set_option linter.unusedVariables false
namespace Go.Proofs.YtpnfgmgoafgcbaaGreat
open Go.RowKit
attribute [local go_sem] Oper.semAt_some
/-- The first error of a path, and its index. -/
def pthG (s : Sc) : Nat → Ps → List Mv → Int × Int
  | _,_,[] => (0,0)
  | i,p,m :: r => if mvE s m ≠ 0 then (i,mvE s m) else if mayP s p m = false then (i,24) else pthG s (i + 1) (mvd p m) r
def pthE (s : Sc) (p : Ps) (r : List Mv) : Int × Int:=if frE s p ≠ 0 then (0,frE s p) else if 60 < r.length then (0,8) else pthG s 0 p r
def endP (p : Ps) (r : List Mv) : Ps:=r.foldl mvd p
/-- The block of a row of ints, where there are any. -/
def offB (A : Option Addr) (n g : Nat) : Prop:=0 < n → ∀ b o,A = some ⟨b,o,none⟩ → b ≠ g
end Go.Proofs.YtpnfgmgoafgcbaaGreat

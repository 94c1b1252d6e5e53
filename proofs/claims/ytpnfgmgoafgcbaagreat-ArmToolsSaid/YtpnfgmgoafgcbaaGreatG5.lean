/-
  The texts FrA, FrB, FrC in one.
-/
import Derived.Test.YtpnfgmgoafgcbaaGreatA2
import Derived.Test.YtpnfgmgoafgcbaaGreatRows
import Derived.ProofKit
import Derived.OpenShut
import Derived.ShutString
import Derived.ChangeOld
import Derived.Deep.Slices
import Derived.Deep.Fields
import Derived.ChangeSame
import Derived.Test.YtpnfgmgoafgcbaaGreatA12
set_option linter.unusedVariables false
set_option linter.unusedSimpArgs false
/-
  How arguments are opened, in plain words, for the statements' proofs: whatever consists of ints alone (structs and arrays of any depth), slices of such, and the structs of chapter 6.
-/
set_option linter.unusedVariables false
namespace Go.Proofs.YtpnfgmgoafgcbaaGreat
open Go.RowKit Go.Shelf Go.ChangeShapes Go.WideShapes Go.ChangeAt Go.Deep
theorem own_f : ownKnob Tryz.prog.godebug = none := by kernel_rfl
theorem laidOut_f : laidOutB Tryz.prog = true := by kernel_rfl
section
variable {H : Type} {enc : TypeId × Value → H} {P : Program} {w : World} {base : Nat} {spare : Nat → Bool} {held : Bool}
end
end Go.Proofs.YtpnfgmgoafgcbaaGreat
/-
  How the structs of chapter 6 are opened, in plain words, for the statements' proofs.
-/
set_option linter.unusedVariables false
namespace Go.Proofs.YtpnfgmgoafgcbaaGreat
open Go.RowKit Go.Shelf Go.ChangeShapes Go.WideShapes Go.ChangeAt Go.Deep
section
variable {H : Type} {enc : TypeId × Value → H} {w : World} {base : Nat} {spare : Nat → Bool} {held : Bool} {v : Value} {d : DataW H} {p : List MemPlace} {r : Reach} {b0 : Nat}
end
end Go.Proofs.YtpnfgmgoafgcbaaGreat
/-
  How an aim (chapter 6) is opened, in plain words, for the statement's proof.
-/
set_option linter.unusedVariables false
namespace Go.Proofs.YtpnfgmgoafgcbaaGreat
open Go.RowKit Go.Shelf Go.ChangeShapes Go.WideShapes Go.ChangeAt Go.Deep
section
variable {H : Type} {enc : TypeId × Value → H} {P : Program} {w : World} {base : Nat} {spare : Nat → Bool} {held : Bool} {v : Value} {d : DataW H} {p : List MemPlace} {r : Reach} {b0 : Nat}
end
end Go.Proofs.YtpnfgmgoafgcbaaGreat

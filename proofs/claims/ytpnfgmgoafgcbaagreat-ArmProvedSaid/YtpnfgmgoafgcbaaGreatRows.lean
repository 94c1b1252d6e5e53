/-
  No cell of these rows narrows 'for every input' (looked for: loops, veiled, ifaces, maps, wideKeys, modest, calm, conditions, laid).
  DERIVED. THE GIVEN ROWS OF THIS SEAT. 11 by the template 'for every input the law returns true; each argument reads behind the call as it read before'; 0 by the template 'total and deterministic' (their statements: YtpnfgmgoafgcbaaGreatTotals.lean).
  GIVEN WITH THE SEED: the statements are not yours to turn. If you find one false, say at which input.
  Laid BY PROGRAM, IN A SANDBOX (cutbox-rows.mjs): the forced cells as the released guide's own fill.sh prints them over the translation b213f9853463100c… (all of the seat's roots in one cut). By AI agents, Wed Nov 11 2026. No macro, syntax, notation, axiom, sorry.
-/
import Derived.Test.YtpnfgmgoafgcbaaGreatChecked
import GoSem.Claim
import GoSem.ClaimJoined
import GoSem.ClaimMapViews
import Derived.JoinedTies
import Derived.KernelRfl
namespace Go.Proofs.YtpnfgmgoafgcbaaGreat
/- THE CELL 'sum', in the pinned program and in every row, IS THE sha256 OF THE DUMP (.gsa) THAT YtpnfgmgoafgcbaaGreatProg.lean LOADS. Nothing in Lean hashes anything: it is a label: what it is worth is what the hold of that sum in a sandbox is worth. -/
noncomputable def Tryz.pinned : Pinned := { name := "ytpnfgmgoafgcbaagreat", sum := "b213f9853463100c5455b1e47d171a8626c1080e4fe8d2450964a80fbbeed1f7", checked := Tryz.checked }
namespace Rows
def none {H : Type} : Left H := { results := [], args := [] }

/-- 'moonpoollaw06.ArmPaths': WHATEVER THE INPUT: true; the input reads as it did. -/
def armPathsSpec : ChangeSpec := { name := "armPaths", fn := fun _ => fun
  | [d1, d2, d3] => { results := [.lit (.bool true)], args := [d1, d2, d3] }
  | _ => none }
def armPathsRow : OpenClaim := { program := "ytpnfgmgoafgcbaagreat", sum := "b213f9853463100c5455b1e47d171a8626c1080e4fe8d2450964a80fbbeed1f7", func := "moonpool/moonpoollaw06.ArmPaths", spec := "armPaths", unfollowed := true, recurses := true, plainKeys := false, apart := false }
def ArmPathsSaid : Prop := armPathsRow.holds Tryz.pinned (OpenSpec.ofChange armPathsSpec)

/-- ITS FALSE NEIGHBOUR: 'it returns false'. Refute it at one input. -/
def armPathsWrong : ChangeSpec := { name := "armPaths", fn := fun _ => fun
  | [d1, d2, d3] => { results := [.lit (.bool false)], args := [d1, d2, d3] }
  | _ => none }
def ArmPathsWrongFalsely : Prop := armPathsRow.holds Tryz.pinned (OpenSpec.ofChange armPathsWrong)

/-- 'moonpoollaw06.ArmHolds': WHATEVER THE INPUT: true; the input reads as it did. -/
def armHoldsSpec : ChangeSpec := { name := "armHolds", fn := fun _ => fun
  | [d1, d2] => { results := [.lit (.bool true)], args := [d1, d2] }
  | _ => none }
def armHoldsRow : OpenClaim := { program := "ytpnfgmgoafgcbaagreat", sum := "b213f9853463100c5455b1e47d171a8626c1080e4fe8d2450964a80fbbeed1f7", func := "moonpool/moonpoollaw06.ArmHolds", spec := "armHolds", unfollowed := true, recurses := true, plainKeys := false, apart := false }
def ArmHoldsSaid : Prop := armHoldsRow.holds Tryz.pinned (OpenSpec.ofChange armHoldsSpec)

/-- ITS FALSE NEIGHBOUR: 'it returns false'. Refute it at one input. -/
def armHoldsWrong : ChangeSpec := { name := "armHolds", fn := fun _ => fun
  | [d1, d2] => { results := [.lit (.bool false)], args := [d1, d2] }
  | _ => none }
def ArmHoldsWrongFalsely : Prop := armHoldsRow.holds Tryz.pinned (OpenSpec.ofChange armHoldsWrong)

/-- 'moonpoollaw06.ArmHeld': WHATEVER THE INPUT: true; the input reads as it did. -/
def armHeldSpec : ChangeSpec := { name := "armHeld", fn := fun _ => fun
  | [d1, d2] => { results := [.lit (.bool true)], args := [d1, d2] }
  | _ => none }
def armHeldRow : OpenClaim := { program := "ytpnfgmgoafgcbaagreat", sum := "b213f9853463100c5455b1e47d171a8626c1080e4fe8d2450964a80fbbeed1f7", func := "moonpool/moonpoollaw06.ArmHeld", spec := "armHeld", unfollowed := true, recurses := true, plainKeys := false, apart := false }
def ArmHeldSaid : Prop := armHeldRow.holds Tryz.pinned (OpenSpec.ofChange armHeldSpec)

/-- ITS FALSE NEIGHBOUR: 'it returns false'. Refute it at one input. -/
def armHeldWrong : ChangeSpec := { name := "armHeld", fn := fun _ => fun
  | [d1, d2] => { results := [.lit (.bool false)], args := [d1, d2] }
  | _ => none }
def ArmHeldWrongFalsely : Prop := armHeldRow.holds Tryz.pinned (OpenSpec.ofChange armHeldWrong)

/-- 'moonpoollaw06.ArmShortest': WHATEVER THE INPUT: true; the input reads as it did. -/
def armShortestSpec : ChangeSpec := { name := "armShortest", fn := fun _ => fun
  | [d1, d2, d3] => { results := [.lit (.bool true)], args := [d1, d2, d3] }
  | _ => none }
def armShortestRow : OpenClaim := { program := "ytpnfgmgoafgcbaagreat", sum := "b213f9853463100c5455b1e47d171a8626c1080e4fe8d2450964a80fbbeed1f7", func := "moonpool/moonpoollaw06.ArmShortest", spec := "armShortest", unfollowed := true, recurses := true, plainKeys := false, apart := false }
def ArmShortestSaid : Prop := armShortestRow.holds Tryz.pinned (OpenSpec.ofChange armShortestSpec)

/-- ITS FALSE NEIGHBOUR: 'it returns false'. Refute it at one input. -/
def armShortestWrong : ChangeSpec := { name := "armShortest", fn := fun _ => fun
  | [d1, d2, d3] => { results := [.lit (.bool false)], args := [d1, d2, d3] }
  | _ => none }
def ArmShortestWrongFalsely : Prop := armShortestRow.holds Tryz.pinned (OpenSpec.ofChange armShortestWrong)

/-- 'moonpoollaw06.ArmMoves': WHATEVER THE INPUT: true; the input reads as it did. -/
def armMovesSpec : ChangeSpec := { name := "armMoves", fn := fun _ => fun
  | [d1, d2, d3] => { results := [.lit (.bool true)], args := [d1, d2, d3] }
  | _ => none }
def armMovesRow : OpenClaim := { program := "ytpnfgmgoafgcbaagreat", sum := "b213f9853463100c5455b1e47d171a8626c1080e4fe8d2450964a80fbbeed1f7", func := "moonpool/moonpoollaw06.ArmMoves", spec := "armMoves", unfollowed := true, recurses := true, plainKeys := false, apart := false }
def ArmMovesSaid : Prop := armMovesRow.holds Tryz.pinned (OpenSpec.ofChange armMovesSpec)

/-- ITS FALSE NEIGHBOUR: 'it returns false'. Refute it at one input. -/
def armMovesWrong : ChangeSpec := { name := "armMoves", fn := fun _ => fun
  | [d1, d2, d3] => { results := [.lit (.bool false)], args := [d1, d2, d3] }
  | _ => none }
def ArmMovesWrongFalsely : Prop := armMovesRow.holds Tryz.pinned (OpenSpec.ofChange armMovesWrong)

/-- 'moonpoollaw06.ArmReaches': WHATEVER THE INPUT: true; the input reads as it did. -/
def armReachesSpec : ChangeSpec := { name := "armReaches", fn := fun _ => fun
  | [d1, d2, d3] => { results := [.lit (.bool true)], args := [d1, d2, d3] }
  | _ => none }
def armReachesRow : OpenClaim := { program := "ytpnfgmgoafgcbaagreat", sum := "b213f9853463100c5455b1e47d171a8626c1080e4fe8d2450964a80fbbeed1f7", func := "moonpool/moonpoollaw06.ArmReaches", spec := "armReaches", unfollowed := true, recurses := true, plainKeys := false, apart := false }
def ArmReachesSaid : Prop := armReachesRow.holds Tryz.pinned (OpenSpec.ofChange armReachesSpec)

/-- ITS FALSE NEIGHBOUR: 'it returns false'. Refute it at one input. -/
def armReachesWrong : ChangeSpec := { name := "armReaches", fn := fun _ => fun
  | [d1, d2, d3] => { results := [.lit (.bool false)], args := [d1, d2, d3] }
  | _ => none }
def ArmReachesWrongFalsely : Prop := armReachesRow.holds Tryz.pinned (OpenSpec.ofChange armReachesWrong)

/-- 'moonpoollaw06.ArmPoses': WHATEVER THE INPUT: true; the input reads as it did. -/
def armPosesSpec : ChangeSpec := { name := "armPoses", fn := fun _ => fun
  | [d1, d2] => { results := [.lit (.bool true)], args := [d1, d2] }
  | _ => none }
def armPosesRow : OpenClaim := { program := "ytpnfgmgoafgcbaagreat", sum := "b213f9853463100c5455b1e47d171a8626c1080e4fe8d2450964a80fbbeed1f7", func := "moonpool/moonpoollaw06.ArmPoses", spec := "armPoses", unfollowed := true, recurses := true, plainKeys := false, apart := false }
def ArmPosesSaid : Prop := armPosesRow.holds Tryz.pinned (OpenSpec.ofChange armPosesSpec)

/-- ITS FALSE NEIGHBOUR: 'it returns false'. Refute it at one input. -/
def armPosesWrong : ChangeSpec := { name := "armPoses", fn := fun _ => fun
  | [d1, d2] => { results := [.lit (.bool false)], args := [d1, d2] }
  | _ => none }
def ArmPosesWrongFalsely : Prop := armPosesRow.holds Tryz.pinned (OpenSpec.ofChange armPosesWrong)

/-- 'moonpoollaw06.ArmTools': WHATEVER THE INPUT: true; the input reads as it did. -/
def armToolsSpec : ChangeSpec := { name := "armTools", fn := fun _ => fun
  | [d1, d2] => { results := [.lit (.bool true)], args := [d1, d2] }
  | _ => none }
def armToolsRow : OpenClaim := { program := "ytpnfgmgoafgcbaagreat", sum := "b213f9853463100c5455b1e47d171a8626c1080e4fe8d2450964a80fbbeed1f7", func := "moonpool/moonpoollaw06.ArmTools", spec := "armTools", unfollowed := true, recurses := true, plainKeys := false, apart := false }
def ArmToolsSaid : Prop := armToolsRow.holds Tryz.pinned (OpenSpec.ofChange armToolsSpec)

/-- ITS FALSE NEIGHBOUR: 'it returns false'. Refute it at one input. -/
def armToolsWrong : ChangeSpec := { name := "armTools", fn := fun _ => fun
  | [d1, d2] => { results := [.lit (.bool false)], args := [d1, d2] }
  | _ => none }
def ArmToolsWrongFalsely : Prop := armToolsRow.holds Tryz.pinned (OpenSpec.ofChange armToolsWrong)

/-- 'moonpoollaw06.ArmProved': WHATEVER THE INPUT: true; the input reads as it did. -/
def armProvedSpec : ChangeSpec := { name := "armProved", fn := fun _ => fun
  | [d1, d2, d3] => { results := [.lit (.bool true)], args := [d1, d2, d3] }
  | _ => none }
def armProvedRow : OpenClaim := { program := "ytpnfgmgoafgcbaagreat", sum := "b213f9853463100c5455b1e47d171a8626c1080e4fe8d2450964a80fbbeed1f7", func := "moonpool/moonpoollaw06.ArmProved", spec := "armProved", unfollowed := true, recurses := true, plainKeys := false, apart := false }
def ArmProvedSaid : Prop := armProvedRow.holds Tryz.pinned (OpenSpec.ofChange armProvedSpec)

/-- ITS FALSE NEIGHBOUR: 'it returns false'. Refute it at one input. -/
def armProvedWrong : ChangeSpec := { name := "armProved", fn := fun _ => fun
  | [d1, d2, d3] => { results := [.lit (.bool false)], args := [d1, d2, d3] }
  | _ => none }
def ArmProvedWrongFalsely : Prop := armProvedRow.holds Tryz.pinned (OpenSpec.ofChange armProvedWrong)

/-- 'moonpooltop.TopArmMirrored': WHATEVER THE INPUT: true; the input reads as it did. -/
def topArmMirroredSpec : ChangeSpec := { name := "topArmMirrored", fn := fun _ => fun
  | [d1, d2, d3] => { results := [.lit (.bool true)], args := [d1, d2, d3] }
  | _ => none }
def topArmMirroredRow : OpenClaim := { program := "ytpnfgmgoafgcbaagreat", sum := "b213f9853463100c5455b1e47d171a8626c1080e4fe8d2450964a80fbbeed1f7", func := "moonpool/moonpooltop.TopArmMirrored", spec := "topArmMirrored", unfollowed := true, recurses := true, plainKeys := false, apart := false }
def TopArmMirroredSaid : Prop := topArmMirroredRow.holds Tryz.pinned (OpenSpec.ofChange topArmMirroredSpec)

/-- ITS FALSE NEIGHBOUR: 'it returns false'. Refute it at one input. -/
def topArmMirroredWrong : ChangeSpec := { name := "topArmMirrored", fn := fun _ => fun
  | [d1, d2, d3] => { results := [.lit (.bool false)], args := [d1, d2, d3] }
  | _ => none }
def TopArmMirroredWrongFalsely : Prop := topArmMirroredRow.holds Tryz.pinned (OpenSpec.ofChange topArmMirroredWrong)

/-- 'moonpoollaw06.ArmBack': WHATEVER THE INPUT: true; the input reads as it did. -/
def armBackSpec : ChangeSpec := { name := "armBack", fn := fun _ => fun
  | [d1, d2] => { results := [.lit (.bool true)], args := [d1, d2] }
  | _ => none }
def armBackRow : OpenClaim := { program := "ytpnfgmgoafgcbaagreat", sum := "b213f9853463100c5455b1e47d171a8626c1080e4fe8d2450964a80fbbeed1f7", func := "moonpool/moonpoollaw06.ArmBack", spec := "armBack", unfollowed := true, recurses := true, plainKeys := false, apart := false }
def ArmBackSaid : Prop := armBackRow.holds Tryz.pinned (OpenSpec.ofChange armBackSpec)

/-- ITS FALSE NEIGHBOUR: 'it returns false'. Refute it at one input. -/
def armBackWrong : ChangeSpec := { name := "armBack", fn := fun _ => fun
  | [d1, d2] => { results := [.lit (.bool false)], args := [d1, d2] }
  | _ => none }
def ArmBackWrongFalsely : Prop := armBackRow.holds Tryz.pinned (OpenSpec.ofChange armBackWrong)

/- THE SECOND FORM. 'bulk': how many values and letters a reading holds, each counted each time it is reached (what is shared counts as often as it is met; a slice's spare places count too). A statement '..UptoSaid' is the law's where the arguments, and the package variables that the reading takes, are together of bulk at most 1048576: NARROWER than '..Said'. Prove '..Said' where nothing that the law and all that it calls make is longer than what came in: it says more and counts as full. Else prove '..UptoSaid'. A law counts once. -/
mutual
def uptoBulk {H : Type} : DataW H → Nat
  | .lit (.string bytes) => bytes.length + 1
  | .lit _ => 1
  | .nil => 1
  | .ptr d => uptoBulk d + 1
  | .slice elems spare => uptoBulkAll elems + uptoBulkAll spare + 1
  | .agg parts => uptoBulkAll parts + 1
  | .iface _ d => uptoBulk d + 1
  | .map entries => uptoBulkEntries entries + 1
  | .held _ => 1
def uptoBulkAll {H : Type} : List (DataW H) → Nat
  | [] => 0
  | d :: r => uptoBulk d + uptoBulkAll r
def uptoBulkEntries {H : Type} : List (Lit × DataW H) → Nat
  | [] => 0
  | x :: r => uptoBulkEntry x + uptoBulkEntries r
def uptoBulkEntry {H : Type} : Lit × DataW H → Nat
  | (.string bytes, d) => bytes.length + uptoBulk d + 1
  | (_, d) => uptoBulk d + 1
 end
def uptoSmall : (H : Type) → List (DataW H) → Bool := fun _ ds => decide (uptoBulkAll ds ≤ 1048576)
def OpenSpec.upto (s : _root_.Go.ChangeSpec) : _root_.Go.OpenSpec := { _root_.Go.OpenSpec.ofChange s with cond := some uptoSmall }

/-- 'moonpoollaw06.ArmPaths', WHERE WHAT IT READS IS OF BULK AT MOST 1048576: true; the input reads as it did. -/
def armPathsUptoRow : OpenClaim := { program := "ytpnfgmgoafgcbaagreat", sum := "b213f9853463100c5455b1e47d171a8626c1080e4fe8d2450964a80fbbeed1f7", func := "moonpool/moonpoollaw06.ArmPaths", spec := "armPaths", unfollowed := true, recurses := true, plainKeys := false, apart := false, narrowed := true }
def ArmPathsUptoSaid : Prop := armPathsUptoRow.holds Tryz.pinned (OpenSpec.upto armPathsSpec)

/-- 'moonpoollaw06.ArmHolds', WHERE WHAT IT READS IS OF BULK AT MOST 1048576: true; the input reads as it did. -/
def armHoldsUptoRow : OpenClaim := { program := "ytpnfgmgoafgcbaagreat", sum := "b213f9853463100c5455b1e47d171a8626c1080e4fe8d2450964a80fbbeed1f7", func := "moonpool/moonpoollaw06.ArmHolds", spec := "armHolds", unfollowed := true, recurses := true, plainKeys := false, apart := false, narrowed := true }
def ArmHoldsUptoSaid : Prop := armHoldsUptoRow.holds Tryz.pinned (OpenSpec.upto armHoldsSpec)

/-- 'moonpoollaw06.ArmHeld', WHERE WHAT IT READS IS OF BULK AT MOST 1048576: true; the input reads as it did. -/
def armHeldUptoRow : OpenClaim := { program := "ytpnfgmgoafgcbaagreat", sum := "b213f9853463100c5455b1e47d171a8626c1080e4fe8d2450964a80fbbeed1f7", func := "moonpool/moonpoollaw06.ArmHeld", spec := "armHeld", unfollowed := true, recurses := true, plainKeys := false, apart := false, narrowed := true }
def ArmHeldUptoSaid : Prop := armHeldUptoRow.holds Tryz.pinned (OpenSpec.upto armHeldSpec)

/-- 'moonpoollaw06.ArmShortest', WHERE WHAT IT READS IS OF BULK AT MOST 1048576: true; the input reads as it did. -/
def armShortestUptoRow : OpenClaim := { program := "ytpnfgmgoafgcbaagreat", sum := "b213f9853463100c5455b1e47d171a8626c1080e4fe8d2450964a80fbbeed1f7", func := "moonpool/moonpoollaw06.ArmShortest", spec := "armShortest", unfollowed := true, recurses := true, plainKeys := false, apart := false, narrowed := true }
def ArmShortestUptoSaid : Prop := armShortestUptoRow.holds Tryz.pinned (OpenSpec.upto armShortestSpec)

/-- 'moonpoollaw06.ArmMoves', WHERE WHAT IT READS IS OF BULK AT MOST 1048576: true; the input reads as it did. -/
def armMovesUptoRow : OpenClaim := { program := "ytpnfgmgoafgcbaagreat", sum := "b213f9853463100c5455b1e47d171a8626c1080e4fe8d2450964a80fbbeed1f7", func := "moonpool/moonpoollaw06.ArmMoves", spec := "armMoves", unfollowed := true, recurses := true, plainKeys := false, apart := false, narrowed := true }
def ArmMovesUptoSaid : Prop := armMovesUptoRow.holds Tryz.pinned (OpenSpec.upto armMovesSpec)

/-- 'moonpoollaw06.ArmReaches', WHERE WHAT IT READS IS OF BULK AT MOST 1048576: true; the input reads as it did. -/
def armReachesUptoRow : OpenClaim := { program := "ytpnfgmgoafgcbaagreat", sum := "b213f9853463100c5455b1e47d171a8626c1080e4fe8d2450964a80fbbeed1f7", func := "moonpool/moonpoollaw06.ArmReaches", spec := "armReaches", unfollowed := true, recurses := true, plainKeys := false, apart := false, narrowed := true }
def ArmReachesUptoSaid : Prop := armReachesUptoRow.holds Tryz.pinned (OpenSpec.upto armReachesSpec)

/-- 'moonpoollaw06.ArmPoses', WHERE WHAT IT READS IS OF BULK AT MOST 1048576: true; the input reads as it did. -/
def armPosesUptoRow : OpenClaim := { program := "ytpnfgmgoafgcbaagreat", sum := "b213f9853463100c5455b1e47d171a8626c1080e4fe8d2450964a80fbbeed1f7", func := "moonpool/moonpoollaw06.ArmPoses", spec := "armPoses", unfollowed := true, recurses := true, plainKeys := false, apart := false, narrowed := true }
def ArmPosesUptoSaid : Prop := armPosesUptoRow.holds Tryz.pinned (OpenSpec.upto armPosesSpec)

/-- 'moonpoollaw06.ArmTools', WHERE WHAT IT READS IS OF BULK AT MOST 1048576: true; the input reads as it did. -/
def armToolsUptoRow : OpenClaim := { program := "ytpnfgmgoafgcbaagreat", sum := "b213f9853463100c5455b1e47d171a8626c1080e4fe8d2450964a80fbbeed1f7", func := "moonpool/moonpoollaw06.ArmTools", spec := "armTools", unfollowed := true, recurses := true, plainKeys := false, apart := false, narrowed := true }
def ArmToolsUptoSaid : Prop := armToolsUptoRow.holds Tryz.pinned (OpenSpec.upto armToolsSpec)

/-- 'moonpoollaw06.ArmProved', WHERE WHAT IT READS IS OF BULK AT MOST 1048576: true; the input reads as it did. -/
def armProvedUptoRow : OpenClaim := { program := "ytpnfgmgoafgcbaagreat", sum := "b213f9853463100c5455b1e47d171a8626c1080e4fe8d2450964a80fbbeed1f7", func := "moonpool/moonpoollaw06.ArmProved", spec := "armProved", unfollowed := true, recurses := true, plainKeys := false, apart := false, narrowed := true }
def ArmProvedUptoSaid : Prop := armProvedUptoRow.holds Tryz.pinned (OpenSpec.upto armProvedSpec)

/-- 'moonpooltop.TopArmMirrored', WHERE WHAT IT READS IS OF BULK AT MOST 1048576: true; the input reads as it did. -/
def topArmMirroredUptoRow : OpenClaim := { program := "ytpnfgmgoafgcbaagreat", sum := "b213f9853463100c5455b1e47d171a8626c1080e4fe8d2450964a80fbbeed1f7", func := "moonpool/moonpooltop.TopArmMirrored", spec := "topArmMirrored", unfollowed := true, recurses := true, plainKeys := false, apart := false, narrowed := true }
def TopArmMirroredUptoSaid : Prop := topArmMirroredUptoRow.holds Tryz.pinned (OpenSpec.upto topArmMirroredSpec)

/-- 'moonpoollaw06.ArmBack', WHERE WHAT IT READS IS OF BULK AT MOST 1048576: true; the input reads as it did. -/
def armBackUptoRow : OpenClaim := { program := "ytpnfgmgoafgcbaagreat", sum := "b213f9853463100c5455b1e47d171a8626c1080e4fe8d2450964a80fbbeed1f7", func := "moonpool/moonpoollaw06.ArmBack", spec := "armBack", unfollowed := true, recurses := true, plainKeys := false, apart := false, narrowed := true }
def ArmBackUptoSaid : Prop := armBackUptoRow.holds Tryz.pinned (OpenSpec.upto armBackSpec)

end Rows
end Go.Proofs.YtpnfgmgoafgcbaaGreat

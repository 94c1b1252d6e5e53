/-
  movesOf, isBefore, CopyReached and SameReached of the reference (chapter 6).
-/
import Derived.Test.YtpnfgmgoafgcbaaGreatA7
import Derived.Test.YtpnfgmgoafgcbaaGreatG4
import Derived.Test.YtpnfgmgoafgcbaaGreatRBt
import Derived.Test.YtpnfgmgoafgcbaaGreatA4
import Derived.Test.YtpnfgmgoafgcbaaGreatRSe
set_option linter.unusedVariables false
set_option linter.unusedSimpArgs false
set_option linter.unusedVariables false
namespace Go.Proofs.YtpnfgmgoafgcbaaGreat
open Go.RowKit Go.Shelf
attribute [local go_sem] Oper.semAt_some
/-- Reached poses that lie in memory. -/
structure RcW (A : Option Addr) (xs : List Rc) (W : World) : Prop where
  sl : SlV W A (xs.flatMap rcV)
  el : ∀ x ∈ xs, SlI W x.1.2.1 x.1.1.2
  ln : ∀ x ∈ xs, x.1.1.2.length ≤ 100000
theorem RcW.below {A : Option Addr} {xs : List Rc} {W W' : World} (h : RcW A xs W) (hb : Below W.heap.size W W') : RcW A xs W' := ⟨h.sl.below hb, fun x hx => (h.el x hx).below hb, h.ln⟩
/-- Copies of reached poses so far. -/
structure CrW (U : Nat) (A : Option Addr) (c : Nat) (ys : List Rc) (W : World) : Prop where
  own : W.ownsRow U 98 3 (.slice A ys.length c) ys.length (ys.flatMap rcV)
  el : ∀ y ∈ ys, SlI W y.1.2.1 y.1.1.2 ∧ (0 < y.1.1.2.length → ∃ g cs, y.1.2.1 = some ⟨g, 0, none⟩ ∧ Box W g 3 cs)
theorem CrW.below {U : Nat} {A : Option Addr} {c : Nat} {ys : List Rc} {W W' : World} (h : CrW U A c ys W) (hb : Below W.heap.size W W') : CrW U A c ys W' :=
  ⟨own_below h.own hb, fun y hy => ⟨(h.el y hy).1.below hb, fun hl => by obtain ⟨g, cs, e, hx⟩ := (h.el y hy).2 hl; exact ⟨g, cs, e, hx.below hb hx.lt⟩⟩⟩
end Go.Proofs.YtpnfgmgoafgcbaaGreat

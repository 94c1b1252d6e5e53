/-
  MovesFrom of the program (chapter 6): all moves that may be made.
-/
import Derived.Test.YtpnfgmgoafgcbaaGreatA9
import Derived.Test.YtpnfgmgoafgcbaaGreatA6
set_option linter.all false
set_option linter.unusedVariables false
namespace Go.Proofs.YtpnfgmgoafgcbaaGreat
open Go.RowKit Go.Shelf
attribute [local go_sem] Oper.semAt_some
theorem own_blk {W : World} {b k n sz : Nat} {e : TypeId} {v : Value} {xs : List Value} (h : W.ownsRow b e sz v n xs) (hk : v.ownBlock = some k) : b ≤ k ∧ ∃ cs,Box W k e cs:=by
  rcases h.2 with ⟨e2,_⟩ | ⟨g,cap,cur,e2,hg,hh,_⟩
  · rw [e2] at hk;cases hk
  · rw [e2] at hk
    have e3 : g = k:=by simpa [Value.ownBlock] using hk
    subst e3
    exact ⟨hg,cur,hh⟩
/-- The row of moves so far. -/
def MfI (Bo U : Nat) (out : List Mv) (W : World) : Prop:=∃ A c,Box W Bo 34 #[.slice A out.length c] ∧ W.ownsRow U 84 2 (.slice A out.length c) out.length (out.flatMap mvV)
theorem MfI.own {Bo U : Nat} {out : List Mv} {W W' : World} {row : Option Nat} (h : MfI Bo U out W) (hg : W.grownBy W' row) (hr : ∀ r,row = some r → ∃ o : Obj,W.heap[r]? = some o ∧ o.isCells = false) : MfI Bo U out W':=by
  obtain ⟨A,c,h1,h2⟩:=h
  exact ⟨A,c,box_row h1 hg hr,own_row h2 hg hr⟩
theorem MfI.below {Bo U : Nat} {out : List Mv} {W W' : World} (h : MfI Bo U out W) (hb : Below W.heap.size W W') : MfI Bo U out W':=by
  obtain ⟨A,c,h1,h2⟩:=h
  exact ⟨A,c,h1.below hb h1.lt,own_below h2 hb⟩
end Go.Proofs.YtpnfgmgoafgcbaaGreat

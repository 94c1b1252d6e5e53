/-
  Reached of the reference (chapter 6).
-/
import Derived.Test.YtpnfgmgoafgcbaaGreatRrP
import Derived.Test.YtpnfgmgoafgcbaaGreatRSe
set_option linter.unusedVariables false
namespace Go.Proofs.YtpnfgmgoafgcbaaGreat
open Go.RowKit Go.Shelf
attribute [local go_sem] Oper.semAt_some
theorem own_cases {W : World} {b : Nat} {e : TypeId} {sz n c : Nat} {A : Option Addr} {xs : List Value} (h : W.ownsRow b e sz (.slice A n c) n xs) : (A = none ∧ c = 0 ∧ n = 0) ∨ ∃ g, A = some ⟨g, 0, none⟩ ∧ n ≤ c := by
  rcases h.2 with ⟨h1, h2⟩ | ⟨g, cap, cur, h1, _, _, h4, _⟩
  · cases h1; exact .inl ⟨rfl, rfl, h2⟩
  · cases h1; exact .inr ⟨g, rfl, h4⟩
end Go.Proofs.YtpnfgmgoafgcbaaGreat

/-
  The reference's search and the shortest paths (chapter 6), in plain words: the path that falls along the flood's numbers is the one that the search keeps.
-/
import Derived.Test.YtpnfgmgoafgcbaaGreatA10
import Derived.Test.YtpnfgmgoafgcbaaGreatDn3
set_option linter.unusedVariables false
set_option linter.unusedSimpArgs false
set_option linter.unusedVariables false
namespace Go.Proofs.YtpnfgmgoafgcbaaGreat
def ltm (a b : Mv) : Prop := a.1 < b.1 ∨ (a.1 = b.1 ∧ a.2 < b.2)
theorem Lds.back {s : Sc} (hS : SOk s) {x z : Ps} {q : List Mv} (h : Lds (allK s) x q z) (hx : POk s x) (hf : freeP s x = true) : (∃ r, r.length = q.length ∧ Lds (allK s) z r x) ∧ POk s z ∧ freeP s z = true := by
  induction h with
  | nil => exact ⟨⟨[], rfl, Lds.nil _⟩, hx, hf⟩
  | snoc h hm ih =>
    obtain ⟨⟨r, hr, hl⟩, h1, h2⟩ := ih
    have h3 := allK_ok h1 hm
    exact ⟨⟨inv _ :: r, by simp [hr], Lds.cons (allK_back hS h1 h2 hm) hl⟩, h3.1, h3.2⟩
end Go.Proofs.YtpnfgmgoafgcbaaGreat

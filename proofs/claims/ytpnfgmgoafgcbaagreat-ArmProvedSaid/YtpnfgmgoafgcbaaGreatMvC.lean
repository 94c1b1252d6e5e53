/-
  Moves and their cells (chapter 6): small lemmas.
-/
import Derived.Test.YtpnfgmgoafgcbaaGreatRMa
import Derived.Test.YtpnfgmgoafgcbaaGreatA9
set_option linter.all false
set_option linter.unusedVariables false
namespace Go.Proofs.YtpnfgmgoafgcbaaGreat
open Go.RowKit
theorem mayP_free {s : Sc} {p : Ps} {m : Mv} (hp : POk s p) (h : mayP s p m = true) : POk s (mvd p m) ∧ freeP s (mvd p m) = true:=by
  obtain ⟨h1,h2⟩:=may_cases (m:=m) hp
  by_cases ho : ownE s (mvd p m) = 0
  · obtain ⟨h3,h4⟩:=h2 ho
    rw [h4] at h
    exact ⟨h3,by revert h;cases freeP s (mvd p m) <;> simp⟩
  · rw [h1 ho] at h;cases h
theorem mv_cells {w : World} {A : Option Addr} {xs : List Mv} (hs : SlV w A (xs.flatMap mvV)) {k : Nat} {s : Mv} (hk : xs[k]? = some s) :
    ∃ b off,A = some ⟨b,off,none⟩ ∧ b < w.heap.size ∧ w.cell? ⟨b,off + k * 2,none⟩ = some (.int .i64 s.1) ∧ w.cell? ⟨b,off + k * 2 + 1,none⟩ = some (.int .i64 s.2):=by
  obtain ⟨b,off,hA,hb,hc⟩:=row_cells (enc:=mvV) (k:=2) (fun _ => rfl) hs (by omega) hk
  exact ⟨b,off,hA,hb,hc 0 (by omega),hc 1 (by omega)⟩
end Go.Proofs.YtpnfgmgoafgcbaaGreat

/-
  Slices of structs of three ints, cell by cell; lexicographic order. Plain words for the walks of chapter 2 (winch).
-/
import Derived.Test.YtgbckdmhmkpahaaSortW
set_option linter.unusedVariables false
namespace Go.Proofs.Ytgbckdmhmkpahaa
open Go.RowKit Go.Shelf

theorem ev_cells {w : World} {A : Option Addr} {xs : List St3} (hs : SlV w A (xs.flatMap st3V)) {k : Nat} {s : St3} (hk : xs[k]? = some s) :
    ∃ b off, A = some ⟨b, off, none⟩ ∧ b < w.heap.size ∧ w.cell? ⟨b, off + k * 3, none⟩ = some (.int .i64 s.1) ∧ w.cell? ⟨b, off + k * 3 + 1, none⟩ = some (.int .i64 s.2.1) ∧ w.cell? ⟨b, off + k * 3 + 2, none⟩ = some (.int .i64 s.2.2) := by
  have f := fun r (hr : r < 3) => flatK_get (enc := st3V) (k := 3) (fun _ => rfl) xs k s r hk hr
  obtain ⟨b, off, hA, hb, c0⟩ := hs (k * 3 + 0) (.int .i64 s.1) ((f 0 (by omega)).trans rfl)
  obtain ⟨b1, o1, hA1, _, c1⟩ := hs (k * 3 + 1) (.int .i64 s.2.1) ((f 1 (by omega)).trans rfl)
  obtain ⟨b2, o2, hA2, _, c2⟩ := hs (k * 3 + 2) (.int .i64 s.2.2) ((f 2 (by omega)).trans rfl)
  obtain ⟨rfl, rfl⟩ : b = b1 ∧ off = o1 := by rw [hA] at hA1; simpa using hA1
  obtain ⟨rfl, rfl⟩ : b = b2 ∧ off = o2 := by rw [hA] at hA2; simpa using hA2
  exact ⟨b, off, hA, hb, c0, by rw [Nat.add_assoc]; exact c1, by rw [Nat.add_assoc]; exact c2⟩
theorem slv_own {w : World} {base : Nat} {e : TypeId} {A : Option Addr} {n c k : Nat} {xs : List Value} (hk : 0 < k) (h : w.ownsRow base e k (.slice A n c) n xs) : SlV w A xs := by
  intro j u hj
  have hjl : j < xs.length := (List.getElem?_eq_some_iff.1 hj).1
  rcases h.2 with ⟨e1, h0⟩ | ⟨g, cap, cur, e1, _, hh, _, _, hcs, ht⟩
  · have hl := h.1
    rw [h0] at hl; omega
  · injection e1 with e1 _ _
    subst e1
    refine ⟨g, 0, rfl, (Array.getElem?_eq_some_iff.1 hh).1, ?_⟩
    rw [Nat.zero_add, cell_of_row w g j cur e (0, 0) hh]
    rw [← ht, List.getElem?_take] at hj
    split at hj
    · simpa using hj
    · cases hj
/-- Lexicographically smaller. -/
def befL : List Int → List Int → Bool
  | [], [] => false
  | [], _ :: _ => true
  | _ :: _, [] => false
  | x :: a, y :: b => if x ≠ y then decide (x < y) else befL a b

end Go.Proofs.Ytgbckdmhmkpahaa

/-
  The law WinchEquations (chapter 2): its early ways out, and what its samples are.
-/
import Derived.Test.YtgbckdmhmkpahaaEqQ
import Derived.Test.YtgbckdmhmkpahaaRefs2
import Derived.Test.YtgbckdmhmkpahaaAwake
set_option linter.unusedVariables false
namespace Go.Proofs.Ytgbckdmhmkpahaa
open Go.RowKit Go.Shelf
def eqIn (a b f s cn : Int) : Bool := inB a (-3) 3 && inB b (-3) 3 && inB f (-100) 100 && inB s (-100) 100 && inB cn 0 20

set_option maxHeartbeats 4000000 in
set_option maxRecDepth 100000 in
theorem winchEquations_early (xs : List Int) (A : Option Addr) (c : Nat) (a b f s cn : Int) (w : World) (hn : xs.length ≤ 9223372036854775807) (h : 20 < xs.length ∨ eqIn a b f s cn = false) :
    Calls Try.prog 8 #[.slice A xs.length c, .agg #[.int .i64 a, .int .i64 b, .int .i64 f, .int .i64 s, .int .i64 cn]] w fun e w' => e = .returned (.bool true) ∧ Below w.heap.size w w' := by
  by_cases h1 : 20 < xs.length
  · have d1 : decide ((20 : Int) < (xs.length : Int)) = true := decide_eq_true (by omega)
    have d2 : decide (20 < xs.length) = true := decide_eq_true h1
    go_enter Try.func8, Try.ntmps8
    go_wp2_with (first | (go_at_call 15; refine (awake_c _).mono ?_; rintro e w1 ⟨rfl, hb1⟩; (have q : Box w1 w.heap.size 85 #[.int .i64 a, .int .i64 b, .int .i64 f, .int .i64 s, .int .i64 cn] := (by focus (apply Box.via; apply Exists.intro; apply And.intro; (repeat first | with_reducible assumption | with_reducible exact Box.new _ _ _ | ((with_reducible apply Box.newAt); focus (simp; done)) | (with_reducible apply Box.drew) | (with_reducible apply Box.drewN) | (with_reducible apply Box.set) | (with_reducible apply Box.alloc) | (with_reducible apply Box.far) | (with_reducible apply Box.below (hb := hb1))); all_goals (first | with_reducible exact Nat.le_refl _ | omega | (simp; done) | (simp; omega) | (have := hb1.size; (try simp at this); omega) | (have := hb1.size; (try simp at this); (try simp); omega))))); (have hlq := q.lt); (have c0 : w1.cell? ⟨w.heap.size, 0, none⟩ = some (.int .i64 a) := q.cell 0); (have c1 : w1.cell? ⟨w.heap.size, 1, none⟩ = some (.int .i64 b) := q.cell 1); (have c2 : w1.cell? ⟨w.heap.size, 2, none⟩ = some (.int .i64 f) := q.cell 2); (have c3 : w1.cell? ⟨w.heap.size, 3, none⟩ = some (.int .i64 s) := q.cell 3); (have c4 : w1.cell? ⟨w.heap.size, 4, none⟩ = some (.int .i64 cn) := q.cell 4)) | fail)
    go_ret
    exact ⟨rfl, by focus ((repeat first | with_reducible exact Below.refl _ _ | (with_reducible refine Below.setCell ?_ ?_ _) | (with_reducible refine Below.alloc ?_ ?_ _) | (with_reducible refine below_drewN ?_ _) | (with_reducible refine Below.drew ?_) | (with_reducible refine Below.trans ?_ (Below.mono hb1 ?_))); all_goals (first | with_reducible exact Nat.le_refl _ | omega | (simp; done) | (simp; omega) | (have := hb1.size; (try simp at this); omega) | (have := hb1.size; (try simp at this); (try simp); omega)))⟩
  · have d1 : decide ((20 : Int) < (xs.length : Int)) = false := decide_eq_false (by omega)
    have d2 : decide (20 < xs.length) = false := decide_eq_false h1
    have d3 : ¬ 20 < xs.length := h1
    have h2 := h.resolve_left h1
    have hc : (inB a (-3) 3 = false) ∨ (inB a (-3) 3 = true ∧ inB b (-3) 3 = false) ∨ (inB a (-3) 3 = true ∧ inB b (-3) 3 = true ∧ inB f (-100) 100 = false) ∨ (inB a (-3) 3 = true ∧ inB b (-3) 3 = true ∧ inB f (-100) 100 = true ∧ inB s (-100) 100 = false) ∨ (inB a (-3) 3 = true ∧ inB b (-3) 3 = true ∧ inB f (-100) 100 = true ∧ inB s (-100) 100 = true ∧ inB cn 0 20 = false) := by
      revert h2
      unfold eqIn
      cases inB a (-3) 3 <;> cases inB b (-3) 3 <;> cases inB f (-100) 100 <;> cases inB s (-100) 100 <;> cases inB cn 0 20 <;> simp
    clear h h2
    rcases hc with i1 | ⟨i1, i2⟩ | ⟨i1, i2, i3⟩ | ⟨i1, i2, i3, i4⟩ | ⟨i1, i2, i3, i4, i5⟩
    all_goals
      go_enter Try.func8, Try.ntmps8
      go_wp2_with (first | (go_at_call 15; refine (awake_c _).mono ?_; rintro e w1 ⟨rfl, hb1⟩; (have q : Box w1 w.heap.size 85 #[.int .i64 a, .int .i64 b, .int .i64 f, .int .i64 s, .int .i64 cn] := (by focus (apply Box.via; apply Exists.intro; apply And.intro; (repeat first | with_reducible assumption | with_reducible exact Box.new _ _ _ | ((with_reducible apply Box.newAt); focus (simp; done)) | (with_reducible apply Box.drew) | (with_reducible apply Box.drewN) | (with_reducible apply Box.set) | (with_reducible apply Box.alloc) | (with_reducible apply Box.far) | (with_reducible apply Box.below (hb := hb1))); all_goals (first | with_reducible exact Nat.le_refl _ | omega | (simp; done) | (simp; omega) | (have := hb1.size; (try simp at this); omega) | (have := hb1.size; (try simp at this); (try simp); omega))))); (have hlq := q.lt); (have c0 : w1.cell? ⟨w.heap.size, 0, none⟩ = some (.int .i64 a) := q.cell 0); (have c1 : w1.cell? ⟨w.heap.size, 1, none⟩ = some (.int .i64 b) := q.cell 1); (have c2 : w1.cell? ⟨w.heap.size, 2, none⟩ = some (.int .i64 f) := q.cell 2); (have c3 : w1.cell? ⟨w.heap.size, 3, none⟩ = some (.int .i64 s) := q.cell 3); (have c4 : w1.cell? ⟨w.heap.size, 4, none⟩ = some (.int .i64 cn) := q.cell 4)) | (go_at_call 37; refine (within_b _ _ _ _).mono ?_; rintro e w' ⟨rfl, rfl⟩) | fail)
      go_ret
      exact ⟨rfl, by focus ((repeat first | with_reducible exact Below.refl _ _ | (with_reducible refine Below.setCell ?_ ?_ _) | (with_reducible refine Below.alloc ?_ ?_ _) | (with_reducible refine below_drewN ?_ _) | (with_reducible refine Below.drew ?_) | (with_reducible refine Below.trans ?_ (Below.mono hb1 ?_))); all_goals (first | with_reducible exact Nat.le_refl _ | omega | (simp; done) | (simp; omega) | (have := hb1.size; (try simp at this); omega) | (have := hb1.size; (try simp at this); (try simp); omega)))⟩

/-- Samples of a recurrence. -/
def Rec (a b : Int) (L : List Int) : Prop := 2 ≤ L.length ∧ L.length ≤ 20 ∧ (∀ x ∈ L, -100 ≤ x ∧ x ≤ 100) ∧ ∀ t, t + 2 < L.length → L.getD (t + 2) 0 = a * L.getD (t + 1) 0 + b * L.getD t 0
theorem rec_two {a b f s : Int} (hf : -100 ≤ f ∧ f ≤ 100) (hs : -100 ≤ s ∧ s ≤ 100) : Rec a b [f, s] := by
  refine ⟨by simp, by simp, ?_, fun t h => absurd h (by simp)⟩
  intro x hx
  simp at hx
  rcases hx with rfl | rfl
  · exact hf
  · exact hs
theorem rec_more {a b n : Int} {L : List Int} (h : Rec a b L) (hl : L.length < 20) (hn : -100 ≤ n ∧ n ≤ 100) (e : n = a * L.getD (L.length - 1) 0 + b * L.getD (L.length - 2) 0) : Rec a b (L ++ [n]) := by
  obtain ⟨h1, h2, h3, h4⟩ := h
  refine ⟨by simp; omega, by simp; omega, ?_, ?_⟩
  · intro x hx
    simp at hx
    rcases hx with hx | rfl
    · exact h3 x hx
    · exact hn
  · intro t ht
    have hg : ∀ i, i < L.length → (L ++ [n]).getD i 0 = L.getD i 0 := fun i hi => by
      rw [List.getD_eq_getElem?_getD, List.getD_eq_getElem?_getD, List.getElem?_append_left hi]
    simp at ht
    by_cases h5 : t + 2 < L.length
    · rw [hg _ h5, hg _ (by omega), hg _ (by omega)]; exact h4 t h5
    · have e1 : t + 2 = L.length := by omega
      have e2 : (L ++ [n]).getD (t + 2) 0 = n := by
        rw [List.getD_eq_getElem?_getD, List.getElem?_append_right (by omega), e1]; simp
      rw [e2, hg _ (by omega), hg _ (by omega), e, show L.length - 1 = t + 1 by omega, show L.length - 2 = t by omega]
/-- A slice of two elements, made of a literal. -/
theorem own_two (w : World) (t : TypeId) (u v : Value) : (w.alloc (.cells #[u, v] t)).ownsRow w.heap.size t 1 (.slice (some ⟨w.heap.size, 0, none⟩) 2 2) 2 [u, v] :=
  ⟨rfl, .inr ⟨w.heap.size, 2, #[u, v], rfl, Nat.le_refl _, heap_alloc_new w _, Nat.le_refl _, by unfold maxLen; omega, by simp, rfl⟩⟩
def lenV : Value → Nat
  | .slice _ n _ => n
  | _ => 0

end Go.Proofs.Ytgbckdmhmkpahaa

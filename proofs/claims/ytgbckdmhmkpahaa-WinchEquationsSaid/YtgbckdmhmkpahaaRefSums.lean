/-
  The references of predictors (chapter 2): sum, determinant, Predictor, Residual, ProofErr.
-/
import Derived.Test.YtgbckdmhmkpahaaRefs
import Derived.Test.YtgbckdmhmkpahaaPred4
import Derived.BigQuiet
set_option linter.unusedVariables false
namespace Go.Proofs.Ytgbckdmhmkpahaa
open Go.RowKit Go.Shelf

set_option maxHeartbeats 2000000 in
theorem refSum_c (xs : List Int) (A : Option Addr) (c a b : Nat) (w : World) (hn : xs.length ≤ 20) (h2 : 2 ≤ xs.length) (hx : ∀ x ∈ xs, -100 ≤ x ∧ x ≤ 100) (ha : a ≤ 2) (hb : b ≤ 2) (hs : SlI w A xs) :
    Calls Try.prog 103 #[.slice A xs.length c, .int .i64 (a : Int), .int .i64 (b : Int)] w fun e w' => e = .returned (.int .i64 (sm xs a b)) ∧ Below w.heap.size w w' := by
  go_enter Try.func103, Try.ntmps103
  go_wp2
  go_loopw [7, 8] (fun n i wr => ∃ k : Nat, k + 2 ≤ xs.length ∧ n = .int .i64 (sumTo xs a b k) ∧ i = .int .i64 ((k + 2 : Nat) : Int) ∧ Below w.heap.size w wr) (fun _ i _ => xs.length - (intOf i).toNat)
  case atStart => exact ⟨0, h2, rfl, rfl, Below.refl _ _⟩
  case round =>
    obtain ⟨k, hk, rfl, rfl, hB⟩ := hrel
    by_cases hlt : k + 2 < xs.length
    · obtain ⟨p, hp⟩ : ∃ p, p + a = k + 2 := ⟨k + 2 - a, by omega⟩
      obtain ⟨q, hq⟩ : ∃ q, q + b = k + 2 := ⟨k + 2 - b, by omega⟩
      have hp1 : p < xs.length := by omega
      have hq1 : q < xs.length := by omega
      obtain ⟨g, off, rfl, hg, hc0⟩ := (hs.below hB) p xs[p] (List.getElem?_eq_getElem hp1)
      obtain ⟨b', off', he, _, hc1⟩ := (hs.below hB) q xs[q] (List.getElem?_eq_getElem hq1)
      obtain ⟨rfl, rfl⟩ : g = b' ∧ off = off' := by simpa using he
      have m0 := hx _ (List.getElem_mem hp1)
      have m1 := hx _ (List.getElem_mem hq1)
      have mm := mul_le_sq m0 m1
      have S := sumTo_small hx a b k
      have F := Lib.hid (show sumTo xs a b (k + 1) = sumTo xs a b k + xs[p] * xs[q] from by
        have e1 : k + 2 - a = p := by omega
        have e2 : k + 2 - b = q := by omega
        simp only [sumTo]
        rw [e1, e2, List.getD_eq_getElem?_getD, List.getD_eq_getElem?_getD, List.getElem?_eq_getElem hp1, List.getElem?_eq_getElem hq1]; rfl)
      generalize xs[p] = x at *
      generalize xs[q] = y at *
      generalize sumTo xs a b k = s at *
      have v1 : IntKind.i64.wrap ((k : Int) + 2 - (a : Int)) = (p : Int) := by rw [show (k : Int) + 2 - (a : Int) = (p : Int) by omega]; exact IntWalk.i64_in _ (by omega)
      have v2 : IntKind.i64.wrap ((k : Int) + 2 - (b : Int)) = (q : Int) := by rw [show (k : Int) + 2 - (b : Int) = (q : Int) by omega]; exact IntWalk.i64_in _ (by omega)
      have v3 : IntKind.i64.wrap (x * y) = x * y := IntWalk.i64_in _ (by omega)
      have v4 : IntKind.i64.wrap (s + x * y) = s + x * y := IntWalk.i64_in _ (by omega)
      have v5 : (p : Int) < xs.length := by omega
      have v6 : (q : Int) < xs.length := by omega
      have v7 : (k : Int) + 2 < xs.length := by omega
      go_wp2
      go_quiet (fail)
      go_wp2
      go_roundw
      case rel => exact ⟨k + 1, by omega, by rw [F.out], by go_num, below_drewN hB _⟩
      case measure => simp [intOf]; omega
    · obtain rfl : k = xs.length - 2 := by omega
      go_wp2
      go_ret
      exact ⟨ret_i (by rfl), hB⟩

end Go.Proofs.Ytgbckdmhmkpahaa

/-
  The walks of PredictorOf, ResidualOf, fraction, predictorErr (chapter 2).
-/
import Derived.Test.YtgbckdmhmkpahaaPred
set_option linter.unusedVariables false
namespace Go.Proofs.Ytgbckdmhmkpahaa
open Go.RowKit Go.Shelf

theorem tdiv_bd (a : Int) (g : Nat) : -(a.natAbs : Int) ≤ a.tdiv g ∧ a.tdiv g ≤ a.natAbs := by
  have h : (a.tdiv g).natAbs = a.natAbs / g := by rw [Int.natAbs_tdiv]; rfl
  have := Nat.div_le_self a.natAbs g
  omega
theorem gcdL3 (a b d : Int) : gcdL [a, b, d] = Nat.gcd (Nat.gcd a.natAbs b.natAbs) d.natAbs := by simp [gcdL]
theorem gcdL2 (a b : Int) : gcdL [a, b] = Nat.gcd a.natAbs b.natAbs := by simp [gcdL]
theorem gcdL3_pos (a b d : Int) (h : d ≠ 0) : 0 < gcdL [a, b, d] := by rw [gcdL3]; exact Nat.gcd_pos_of_pos_right _ (by omega)
theorem gcdL2_pos (a b : Int) (h : b ≠ 0) : 0 < gcdL [a, b] := by rw [gcdL2]; exact Nat.gcd_pos_of_pos_right _ (by omega)
theorem frac_size : (Try.prog.info? 47).map (·.size) = some 2 := by kernel_rfl
theorem pred_size : (Try.prog.info? 45).map (·.size) = some 3 := by kernel_rfl

theorem divisor3_c (x y z : Int) (b : Nat) (w : World) (hx : x.natAbs ≤ 9223372036854775807) (hy : y.natAbs ≤ 9223372036854775807) (hz : z.natAbs ≤ 9223372036854775807)
    (hb : b < w.heap.size) (h0 : w.cell? ⟨b, 0, none⟩ = some (.int .i64 x)) (h1 : w.cell? ⟨b, 1, none⟩ = some (.int .i64 y)) (h2 : w.cell? ⟨b, 2, none⟩ = some (.int .i64 z)) :
    Calls Try.prog 101 #[.slice (some ⟨b, 0, none⟩) 3 3] w fun e w' => e = .returned (.int .i64 (gcdL [x, y, z] : Nat)) ∧ Below w.heap.size w w' :=
  divisor_c [x, y, z] _ 3 _ (by simp) (sli3 hb h0 h1 h2) (by intro u hu; simp at hu; rcases hu with rfl | rfl | rfl <;> assumption)
theorem divisor2_c (x y : Int) (b : Nat) (w : World) (hx : x.natAbs ≤ 9223372036854775807) (hy : y.natAbs ≤ 9223372036854775807)
    (hb : b < w.heap.size) (h0 : w.cell? ⟨b, 0, none⟩ = some (.int .i64 x)) (h1 : w.cell? ⟨b, 1, none⟩ = some (.int .i64 y)) :
    Calls Try.prog 101 #[.slice (some ⟨b, 0, none⟩) 2 2] w fun e w' => e = .returned (.int .i64 (gcdL [x, y] : Nat)) ∧ Below w.heap.size w w' :=
  divisor_c [x, y] _ 2 _ (by simp) (sli2 hb h0 h1) (by intro u hu; simp at hu; rcases hu with rfl | rfl <;> assumption)

/-- A quotient in lowest terms. -/
def frP (a b : Int) : Int × Int := (a.tdiv (gcdL [a, b] : Nat), b.tdiv (gcdL [a, b] : Nat))

set_option maxHeartbeats 1000000 in
theorem fraction_c (a b : Int) (w : World) (ha : a.natAbs ≤ 9223372036854775807) (hb : b.natAbs ≤ 9223372036854775807) (h0 : b ≠ 0) :
    Calls Try.prog 87 #[.int .i64 a, .int .i64 b] w fun e w' => e = .returned (.agg #[.int .i64 (frP a b).1, .int .i64 (frP a b).2]) ∧ Below w.heap.size w w' := by
  have gp := gcdL2_pos a b h0
  have t1 := tdiv_bd a (gcdL [a, b]); have t2 := tdiv_bd b (gcdL [a, b])
  have gl : gcdL [a, b] ≤ 9223372036854775807 := by rw [gcdL2]; exact Nat.le_trans (Nat.gcd_le_right _ (by omega)) hb
  have G := Lib.hid (fun k W => divisor2_c a b k W ha hb)
  have F := Lib.hid (show frP a b = (a.tdiv (gcdL [a, b] : Nat), b.tdiv (gcdL [a, b] : Nat)) from rfl)
  generalize gcdL [a, b] = g at *
  have g0 : ((g : Int) == 0) = false := beqF (by omega)
  generalize ht1 : a.tdiv g = q1 at *
  generalize ht2 : b.tdiv g = q2 at *
  go_enter Try.func87, Try.ntmps87
  go_wp2_with (go_at_call 101; refine (G.out _ _ (by simp [go_sem]) (by simp [go_sem]) (by simp [go_sem])).mono ?_; rintro e w1 ⟨rfl, hb1⟩; obtain ⟨hc1, hf1⟩ := bcell hb1; have hz1 : w.heap.size < w1.heap.size := by have := hb1.size; (try simp at this); omega)
  go_region
  all_goals go_wp2
  all_goals (try simp [Act.put])
  all_goals
    refine bodyPost_ret (res_c1 rfl rfl (show Box _ _ 47 #[.int .i64 q1, .int .i64 q2] from ?hE) Try.underlying47 rfl frac_size) rfl ⟨by rw [F.out], ?hB⟩
    case hE => focus (apply Box.via; apply Exists.intro; apply And.intro; (repeat first | with_reducible assumption | with_reducible exact Box.new _ _ _ | ((with_reducible apply Box.newAt); focus (simp; done)) | (with_reducible apply Box.drew) | (with_reducible apply Box.drewN) | (with_reducible apply Box.set) | (with_reducible apply Box.alloc) | (with_reducible apply Box.far) | (with_reducible apply Box.below (hb := hb1))); all_goals (first | with_reducible exact Nat.le_refl _ | omega | (simp; done) | (simp; omega) | (have := hb1.size; (try simp at this); omega) | (have := hb1.size; (try simp at this); (try simp); omega)))
    case hB => focus ((repeat first | with_reducible exact Below.refl _ _ | (with_reducible refine Below.setCell ?_ ?_ _) | (with_reducible refine Below.alloc ?_ ?_ _) | (with_reducible refine below_drewN ?_ _) | (with_reducible refine Below.drew ?_) | (with_reducible refine Below.trans ?_ (Below.mono hb1 ?_))); all_goals (first | with_reducible exact Nat.le_refl _ | omega | (simp; done) | (simp; omega) | (have := hb1.size; (try simp at this); omega) | (have := hb1.size; (try simp at this); (try simp); omega)))

end Go.Proofs.Ytgbckdmhmkpahaa

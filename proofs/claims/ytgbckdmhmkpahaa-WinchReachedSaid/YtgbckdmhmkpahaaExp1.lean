/-
  The small references of the search (chapter 2): all, number, Before, find.
-/
import Derived.Test.YtgbckdmhmkpahaaRefStep
import Derived.Test.YtgbckdmhmkpahaaSortW
set_option linter.unusedVariables false
namespace Go.Proofs.Ytgbckdmhmkpahaa
open Go.RowKit Go.Shelf

/-- A state's number, and how many there are. -/
def numS (bd lo hi : Int) (s : St3) : Int := ((s.1 + bd) * 21 + s.2.1 + 10) * (hi - lo + 1) + s.2.2 - lo
def allN (n lo hi : Int) : Int := n * 21 * (hi - lo + 1)
theorem mul_bd {x h : Int} (hx : -100000 ≤ x ∧ x ≤ 100000) (hh : 1 ≤ h ∧ h ≤ 9) : -900000 ≤ x * h ∧ x * h ≤ 900000 := by
  rcases (by omega : h = 1 ∨ h = 2 ∨ h = 3 ∨ h = 4 ∨ h = 5 ∨ h = 6 ∨ h = 7 ∨ h = 8 ∨ h = 9) with rfl | rfl | rfl | rfl | rfl | rfl | rfl | rfl | rfl <;> omega

set_option maxHeartbeats 400000 in
theorem all_c (T : List Int) (A : Option Addr) (c : Nat) (lo hi turn slew : Int) (w : World) (hT : T.length ≤ 1000) (h1 : -4 ≤ lo ∧ lo ≤ 0) (h2 : 0 ≤ hi ∧ hi ≤ 4) :
    Calls Try.prog 120 #[.agg #[.slice A T.length c, .int .i64 lo, .int .i64 hi, .int .i64 turn, .int .i64 slew]] w fun e w' => e = .returned (.int .i64 (allN T.length lo hi)) ∧ Below w.heap.size w w' := by
  have hm := mul_bd (x := (T.length : Int) * 21) (h := hi - lo + 1) (by omega) (by omega)
  have v1 : IntKind.i64.wrap ((T.length : Int) * 21 * (hi - lo + 1)) = (T.length : Int) * 21 * (hi - lo + 1) := IntWalk.i64_in _ (by omega)
  go_enter Try.func120, Try.ntmps120
  go_wp2_with fail
  go_ret
  exact ⟨ret_i rfl, by focus ((repeat first | with_reducible exact Below.refl _ _ | (with_reducible refine Below.setCell ?_ ?_ _) | (with_reducible refine Below.alloc ?_ ?_ _) | (with_reducible refine below_drewN ?_ _) | (with_reducible refine Below.drew ?_)); all_goals (first | with_reducible exact Nat.le_refl _ | omega | (simp; done) | (simp; omega) | (omega) | ((try simp); omega)))⟩

set_option maxHeartbeats 2000000 in
theorem number_c (T : List Int) (A : Option Addr) (c : Nat) (lo hi turn slew err cmd hv : Int) (w : World) (hT : T.length ≤ 1000) (h1 : -4 ≤ lo ∧ lo ≤ 0) (h2 : 0 ≤ hi ∧ hi ≤ 4) (h3 : -1000 ≤ err ∧ err ≤ 1000) (h4 : -1000 ≤ cmd ∧ cmd ≤ 1000) (h5 : -1000 ≤ hv ∧ hv ≤ 1000) :
    Calls Try.prog 121 #[.agg #[.slice A T.length c, .int .i64 lo, .int .i64 hi, .int .i64 turn, .int .i64 slew], .agg #[.int .i64 err, .int .i64 cmd, .int .i64 hv]] w fun e w' => e = .returned (.int .i64 (numS (T.length / 2 : Nat) lo hi (err, cmd, hv))) ∧ Below w.heap.size w w' := by
  have BC := Lib.hid (fun W => refBound_c T A c lo hi turn slew W hT)
  generalize hbd : T.length / 2 = bd at *
  have hbd1 : bd ≤ 500 := by omega
  have HB := Lib.hid hbd
  clear hbd
  obtain ⟨HH, hHH⟩ : ∃ HH, hi - lo + 1 = HH := ⟨_, rfl⟩
  have hm := mul_bd (x := (err + (bd : Int)) * 21 + cmd + 10) (h := HH) (by omega) (by omega)
  have R := Lib.hid (show numS (bd : Int) lo hi (err, cmd, hv) = ((err + (bd : Int)) * 21 + cmd + 10) * HH + hv - lo from by rw [← hHH]; rfl)
  have hh := Lib.hid hHH
  have b1 : 1 ≤ HH ∧ HH ≤ 9 := by omega
  have v0 : IntKind.i64.wrap (hi - lo + 1) = HH := by rw [IntWalk.i64_in _ (by omega), hHH]
  have v1 : IntKind.i64.wrap (err + (bd : Int)) = err + bd := IntWalk.i64_in _ (by omega)
  have v2 : IntKind.i64.wrap ((err + (bd : Int)) * 21) = (err + bd) * 21 := IntWalk.i64_in _ (by omega)
  have v3 : IntKind.i64.wrap ((err + (bd : Int)) * 21 + cmd) = (err + bd) * 21 + cmd := IntWalk.i64_in _ (by omega)
  have v4 : IntKind.i64.wrap ((err + (bd : Int)) * 21 + cmd + 10) = (err + bd) * 21 + cmd + 10 := IntWalk.i64_in _ (by omega)
  have v5 : IntKind.i64.wrap (((err + (bd : Int)) * 21 + cmd + 10) * HH) = ((err + bd) * 21 + cmd + 10) * HH := IntWalk.i64_in _ (by omega)
  have v6 : IntKind.i64.wrap (((err + (bd : Int)) * 21 + cmd + 10) * HH + hv) = ((err + bd) * 21 + cmd + 10) * HH + hv := IntWalk.i64_in _ (by omega)
  have v7 : IntKind.i64.wrap (((err + (bd : Int)) * 21 + cmd + 10) * HH + hv - lo) = ((err + bd) * 21 + cmd + 10) * HH + hv - lo := IntWalk.i64_in _ (by omega)
  have v8 : IntKind.i64.wrap (hi - lo) = hi - lo := IntWalk.i64_in _ (by omega)
  clear hHH hm
  generalize numS (bd : Int) lo hi (err, cmd, hv) = NN at *
  go_enter Try.func121, Try.ntmps121
  go_upto_region 1 with fail
  have q0 : Box ((w.alloc (.cells #[.slice A T.length c, .int .i64 lo, .int .i64 hi, .int .i64 turn, .int .i64 slew] 26)).alloc (.cells #[.int .i64 err, .int .i64 cmd, .int .i64 hv] 42)) w.heap.size 26 #[.slice A T.length c, .int .i64 lo, .int .i64 hi, .int .i64 turn, .int .i64 slew] := by focus (apply Box.via; apply Exists.intro; apply And.intro; (repeat first | with_reducible assumption | with_reducible exact Box.new _ _ _ | ((with_reducible apply Box.newAt); focus (simp; done)) | (with_reducible apply Box.drew) | (with_reducible apply Box.drewN) | (with_reducible apply Box.set) | (with_reducible apply Box.alloc) | (with_reducible apply Box.far)); all_goals (first | with_reducible exact Nat.le_refl _ | omega | (simp; done) | (simp; omega) | (omega) | ((try simp); omega)))
  have q1 : Box ((w.alloc (.cells #[.slice A T.length c, .int .i64 lo, .int .i64 hi, .int .i64 turn, .int .i64 slew] 26)).alloc (.cells #[.int .i64 err, .int .i64 cmd, .int .i64 hv] 42)) (w.heap.size + 1) 42 #[.int .i64 err, .int .i64 cmd, .int .i64 hv] := by focus (apply Box.via; apply Exists.intro; apply And.intro; (repeat first | with_reducible assumption | with_reducible exact Box.new _ _ _ | ((with_reducible apply Box.newAt); focus (simp; done)) | (with_reducible apply Box.drew) | (with_reducible apply Box.drewN) | (with_reducible apply Box.set) | (with_reducible apply Box.alloc) | (with_reducible apply Box.far)); all_goals (first | with_reducible exact Nat.le_refl _ | omega | (simp; done) | (simp; omega) | (omega) | ((try simp); omega)))
  have hB0 : Below w.heap.size w ((w.alloc (.cells #[.slice A T.length c, .int .i64 lo, .int .i64 hi, .int .i64 turn, .int .i64 slew] 26)).alloc (.cells #[.int .i64 err, .int .i64 cmd, .int .i64 hv] 42)) := by focus ((repeat first | with_reducible exact Below.refl _ _ | (with_reducible refine Below.setCell ?_ ?_ _) | (with_reducible refine Below.alloc ?_ ?_ _) | (with_reducible refine below_drewN ?_ _) | (with_reducible refine Below.drew ?_)); all_goals (first | with_reducible exact Nat.le_refl _ | omega | (simp; done) | (simp; omega) | (omega) | ((try simp); omega)))
  generalize ((w.alloc (.cells #[.slice A T.length c, .int .i64 lo, .int .i64 hi, .int .i64 turn, .int .i64 slew] 26)).alloc (.cells #[.int .i64 err, .int .i64 cmd, .int .i64 hv] 42)) = W0 at q0 q1 hB0 ⊢
  have c00 := q0.cell 0; have c01 := q0.cell 1; have c02 := q0.cell 2; have c03 := q0.cell 3; have c04 := q0.cell 4
  have c10 := q1.cell 0; have c11 := q1.cell 1; have c12 := q1.cell 2
  simp at c00 c01 c02 c03 c04 c10 c11 c12
  have hl0 := q0.lt; have hl1 := q1.lt
  go_cut [5, 6] (fun s5 s6 wx => s5 = .int .i64 21 ∧ s6 = .int .i64 HH ∧ Box wx w.heap.size 26 #[.slice A T.length c, .int .i64 lo, .int .i64 hi, .int .i64 turn, .int .i64 slew] ∧ Box wx (w.heap.size + 1) 42 #[.int .i64 err, .int .i64 cmd, .int .i64 hv] ∧ Below w.heap.size w wx)
  case first =>
    go_quiet (fail)
    go_wp2_with fail
    go_meet
    refine ⟨rfl, by simp, ?_, ?_, ?_⟩
    all_goals first | (focus (apply Box.via; apply Exists.intro; apply And.intro; (repeat first | with_reducible assumption | with_reducible exact Box.new _ _ _ | ((with_reducible apply Box.newAt); focus (simp; done)) | (with_reducible apply Box.drew) | (with_reducible apply Box.drewN) | (with_reducible apply Box.set) | (with_reducible apply Box.alloc) | (with_reducible apply Box.far)); all_goals (first | with_reducible exact Nat.le_refl _ | omega | (simp; done) | (simp; omega) | (omega) | ((try simp); omega)))) | (focus ((repeat first | with_reducible exact Below.refl _ _ | (with_reducible refine Below.setCell ?_ ?_ _) | (with_reducible refine Below.alloc ?_ ?_ _) | (with_reducible refine below_drewN ?_ _) | (with_reducible refine Below.drew ?_) | (with_reducible refine Below.trans ?_ (Below.mono hB0 ?_))); all_goals (first | with_reducible exact Nat.le_refl _ | omega | (simp; done) | (simp; omega) | (have := hB0.size; (try simp at this); omega) | (have := hB0.size; (try simp at this); (try simp); omega))))
  case rest =>
    obtain ⟨rfl, rfl, q0, q1, hB⟩ := hcut
    clear c00 c01 c02 c03 c04 c10 c11 c12 hB0 hl0 hl1
    generalize wc = W0 at *
    have c00 := q0.cell 0; have c01 := q0.cell 1; have c02 := q0.cell 2; have c03 := q0.cell 3; have c04 := q0.cell 4
    have c10 := q1.cell 0; have c11 := q1.cell 1; have c12 := q1.cell 2
    simp at c00 c01 c02 c03 c04 c10 c11 c12
    have hl0 := q0.lt; have hl1 := q1.lt
    go_upto_region 2 with fail
    go_region_held3 (fun w' => w'.cell? ⟨w.heap.size, 0, none⟩ = some (.slice A T.length c) ∧ w'.cell? ⟨w.heap.size, 1, none⟩ = some (.int .i64 lo) ∧ w'.cell? ⟨w.heap.size, 2, none⟩ = some (.int .i64 hi) ∧ w'.cell? ⟨w.heap.size, 3, none⟩ = some (.int .i64 turn) ∧ w'.cell? ⟨w.heap.size, 4, none⟩ = some (.int .i64 slew) ∧ w'.cell? ⟨w.heap.size + 1, 0, none⟩ = some (.int .i64 err) ∧ w'.cell? ⟨w.heap.size + 1, 1, none⟩ = some (.int .i64 cmd) ∧ w'.cell? ⟨w.heap.size + 1, 2, none⟩ = some (.int .i64 hv)) (go_keep) (first | (go_at_call 108; refine (BC.out _).mono ?_; rintro e w1 ⟨rfl, hb1⟩; have hz1 : W0.heap.size ≤ w1.heap.size := (by have := hb1.size; (try simp at this); omega); have k0 := ((hb1).cell (p := ⟨w.heap.size, 0, none⟩) (by simp; omega)).trans (show _ = some (Value.slice A T.length c) from by simp [go_sem, *]); have k1 := ((hb1).cell (p := ⟨w.heap.size, 1, none⟩) (by simp; omega)).trans (show _ = some (Value.int .i64 lo) from by simp [go_sem, *]); have k2 := ((hb1).cell (p := ⟨w.heap.size, 2, none⟩) (by simp; omega)).trans (show _ = some (Value.int .i64 hi) from by simp [go_sem, *]); have k3 := ((hb1).cell (p := ⟨w.heap.size, 3, none⟩) (by simp; omega)).trans (show _ = some (Value.int .i64 turn) from by simp [go_sem, *]); have k4 := ((hb1).cell (p := ⟨w.heap.size, 4, none⟩) (by simp; omega)).trans (show _ = some (Value.int .i64 slew) from by simp [go_sem, *]); have k5 := ((hb1).cell (p := ⟨w.heap.size + 1, 0, none⟩) (by simp; omega)).trans (show _ = some (Value.int .i64 err) from by simp [go_sem, *]); have k6 := ((hb1).cell (p := ⟨w.heap.size + 1, 1, none⟩) (by simp; omega)).trans (show _ = some (Value.int .i64 cmd) from by simp [go_sem, *]); have k7 := ((hb1).cell (p := ⟨w.heap.size + 1, 2, none⟩) (by simp; omega)).trans (show _ = some (Value.int .i64 hv) from by simp [go_sem, *])) | fail)
    all_goals go_wp2_with fail
    all_goals go_ret
    all_goals exact ⟨ret_i (by rw [R.out]), by focus ((repeat first | with_reducible exact Below.refl _ _ | (with_reducible refine Below.setCell ?_ ?_ _) | (with_reducible refine Below.alloc ?_ ?_ _) | (with_reducible refine below_drewN ?_ _) | (with_reducible refine Below.drew ?_) | (with_reducible refine Below.trans ?_ (Below.mono hb1 ?_)) | (with_reducible refine Below.trans ?_ (Below.mono hB ?_))); all_goals (first | with_reducible exact Nat.le_refl _ | omega | (simp; done) | (simp; omega) | (have := hb1.size; (try simp at this); have := hB.size; (try simp at this); omega) | (have := hb1.size; (try simp at this); have := hB.size; (try simp at this); (try simp); omega)))⟩

set_option maxHeartbeats 1000000 in
theorem refBefore_c (a b d x y z : Int) (w : World) : Calls Try.prog 122 #[.agg #[.int .i64 a, .int .i64 b, .int .i64 d], .agg #[.int .i64 x, .int .i64 y, .int .i64 z]] w fun e w' => e = .returned (.bool (ltS (a, b, d) (x, y, z))) ∧ Below w.heap.size w w' := by
  by_cases h1 : a = x
  · subst h1
    have e1 : (a != a) = false := bneF rfl
    by_cases h2 : b = y
    · subst h2
      have e2 : (b != b) = false := bneF rfl
      have R := Lib.hid (show ltS (a, b, d) (a, b, z) = decide (d < z) from by simp [ltS])
      go_enter Try.func122, Try.ntmps122
      go_wp2
      all_goals go_ret
      all_goals exact ⟨ret_b (by rw [R.out]), by focus ((repeat first | with_reducible exact Below.refl _ _ | (with_reducible refine Below.setCell ?_ ?_ _) | (with_reducible refine Below.alloc ?_ ?_ _) | (with_reducible refine below_drewN ?_ _) | (with_reducible refine Below.drew ?_)); all_goals (first | with_reducible exact Nat.le_refl _ | omega | (simp; done) | (simp; omega) | (omega) | ((try simp); omega)))⟩
    · have e2 : (b != y) = true := bneT h2
      have R := Lib.hid (show ltS (a, b, d) (a, y, z) = decide (b < y) from by simp [ltS, h2])
      clear h2
      go_enter Try.func122, Try.ntmps122
      go_wp2
      all_goals go_ret
      all_goals exact ⟨ret_b (by rw [R.out]), by focus ((repeat first | with_reducible exact Below.refl _ _ | (with_reducible refine Below.setCell ?_ ?_ _) | (with_reducible refine Below.alloc ?_ ?_ _) | (with_reducible refine below_drewN ?_ _) | (with_reducible refine Below.drew ?_)); all_goals (first | with_reducible exact Nat.le_refl _ | omega | (simp; done) | (simp; omega) | (omega) | ((try simp); omega)))⟩
  · have e1 : (a != x) = true := bneT h1
    have R := Lib.hid (show ltS (a, b, d) (x, y, z) = decide (a < x) from by simp [ltS, h1])
    clear h1
    go_enter Try.func122, Try.ntmps122
    go_wp2
    all_goals go_ret
    all_goals exact ⟨ret_b (by rw [R.out]), by focus ((repeat first | with_reducible exact Below.refl _ _ | (with_reducible refine Below.setCell ?_ ?_ _) | (with_reducible refine Below.alloc ?_ ?_ _) | (with_reducible refine below_drewN ?_ _) | (with_reducible refine Below.drew ?_)); all_goals (first | with_reducible exact Nat.le_refl _ | omega | (simp; done) | (simp; omega) | (omega) | ((try simp); omega)))⟩

end Go.Proofs.Ytgbckdmhmkpahaa

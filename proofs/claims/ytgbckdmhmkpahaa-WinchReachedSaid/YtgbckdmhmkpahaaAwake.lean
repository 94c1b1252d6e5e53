/-
  The chapter's examples (chapter 2): 'awake' returns true.
-/
import Derived.Test.YtgbckdmhmkpahaaInts
import Derived.Test.YtgbckdmhmkpahaaReachedBy
import Derived.Test.YtgbckdmhmkpahaaProf2
import Derived.Test.YtgbckdmhmkpahaaPred5
import Derived.Test.YtgbckdmhmkpahaaEq
set_option linter.unusedVariables false
namespace Go.Proofs.Ytgbckdmhmkpahaa
open Go.RowKit Go.Shelf

def exT : List Int := [-2, -1, 0, 1, 2]
theorem ex_pred : opE [1, 1, 2, 3, 4] = 0 ∧ prV [1, 1, 2, 3, 4] = (3, 2, 3) := by decide +kernel
theorem ex_prof : prfE 3 1 10 = 0 ∧ prfL 3 1 10 = [1, 2, 3, 2, 1, 1] := by decide +kernel
theorem ex_loop : (chkL exT (-1) 1 1 2).2 = 0 ∧ (chkL exT (-1) 1 1 0).2 = 0 := by decide +kernel
theorem ex_reach : reachL exT (-1) 1 1 2 = [(-1, -1, -1), (-1, 0, -1), (0, -1, 0), (0, 0, 0), (0, 1, 0), (1, 0, 1), (1, 1, 1)] := by decide +kernel
theorem ex_broken : (found exT (-1) 1 1 0).2 = some [-1, -1, -1] := by decide +kernel

theorem aw_pred (k : Nat) (w : World) (h : SlI w (some ⟨k, 0, none⟩) [1, 1, 2, 3, 4]) :
    Calls Try.prog 40 #[.slice (some ⟨k, 0, none⟩) 5 5] w fun e w' => e = .returned (.tuple #[.agg #[.int .i64 3, .int .i64 2, .int .i64 3], .int .i64 0]) ∧ Below w.heap.size w w' := by
  have H := predictorOf_yes [1, 1, 2, 3, 4] (some ⟨k, 0, none⟩) 5 w h ex_pred.1
  rw [ex_pred.2] at H
  exact H
theorem aw_prof (w : World) : Calls Try.prog 30 #[.agg #[.int .i64 3, .int .i64 1], .int .i64 10] w fun e w' => ∃ g cap, e = .returned (.tuple #[.slice (some ⟨g, 0, none⟩) 6 cap, .int .i64 0]) ∧ SlI w' (some ⟨g, 0, none⟩) [1, 2, 3, 2, 1, 1] ∧ Below w.heap.size w w' := by
  refine (profileFor_yes 3 1 10 w ex_prof.1).mono ?_
  rintro e w' ⟨v, rfl, ho, hb⟩
  rw [ex_prof.2] at ho
  obtain ⟨g, cap, rfl, _, _⟩ := own_pos ho (by decide) (by decide)
  exact ⟨g, cap, rfl, sli_own ho, hb⟩
theorem aw_reach (g : Nat) (w : World) (h : SlI w (some ⟨g, 0, none⟩) [-2, -1, 0, 1, 2]) :
    Calls Try.prog 22 #[.agg #[.slice (some ⟨g, 0, none⟩) 5 5, .int .i64 (-1), .int .i64 1, .int .i64 1, .int .i64 2]] w fun e w' => ∃ g' cap, e = .returned (.tuple #[.slice (some ⟨g', 0, none⟩) 7 cap, .int .i64 0]) ∧ (w'.cell? ⟨g', 0, none⟩ = some (.int .i64 (-1)) ∧ w'.cell? ⟨g', 1, none⟩ = some (.int .i64 (-1)) ∧ w'.cell? ⟨g', 2, none⟩ = some (.int .i64 (-1)) ∧ g' < w'.heap.size) ∧ Below w.heap.size w w' := by
  refine (reachedBy_yes exT (some ⟨g, 0, none⟩) 5 (-1) 1 1 2 w h ex_loop.1).mono ?_
  rintro e w' ⟨g', cap, rfl, hs, hb⟩
  rw [ex_reach] at hs ⊢
  obtain ⟨b, o, e1, hlt, c0⟩ := hs 0 (.int .i64 (-1)) rfl
  obtain ⟨_, _, e2, _, c1⟩ := hs 1 (.int .i64 (-1)) rfl
  obtain ⟨_, _, e3, _, c2⟩ := hs 2 (.int .i64 (-1)) rfl
  cases e1; cases e2; cases e3
  exact ⟨g', cap, rfl, ⟨by simpa using c0, by simpa using c1, by simpa using c2, hlt⟩, hb⟩
theorem aw_broken (g2 : Nat) (w : World) (h : SlI w (some ⟨g2, 0, none⟩) [-2, -1, 0, 1, 2]) :
    Calls Try.prog 21 #[.agg #[.slice (some ⟨g2, 0, none⟩) 5 5, .int .i64 (-1), .int .i64 1, .int .i64 1, .int .i64 0]] w fun e w' => ∃ g' cap, e = .returned (.tuple #[.slice (some ⟨g', 0, none⟩) 3 cap, .int .i64 0]) ∧ SlI w' (some ⟨g', 0, none⟩) [-1, -1, -1] ∧ Below w.heap.size w w' := by
  refine (brokenBy_yes exT (some ⟨g2, 0, none⟩) 5 (-1) 1 1 0 w h ex_loop.2).mono ?_
  rintro e w' ⟨v, rfl, hs, hb⟩
  rw [ex_broken] at hs ⊢
  obtain ⟨⟨g', cap, rfl⟩, ho⟩ := hs
  exact ⟨g', cap, rfl, sli_own ho, hb⟩
theorem aw_ints (xs ys : List Int) (A B : Option Addr) (n m c d : Nat) (w : World) (hn : xs.length = n) (hm : ys.length = m) (hle : n ≤ 100) (hle' : m ≤ 100) (hs : SlI w A xs) (ht : SlI w B ys) :
    Calls Try.prog 35 #[.slice A n c, .slice B m d] w fun e w' => e = .returned (.bool (decide (xs = ys))) ∧ Below w.heap.size w w' := by
  subst hn; subst hm
  exact ints_c xs ys A B c d w (by omega) (by omega) hs ht
attribute [local go_sem] eql_pr eql_st

set_option maxHeartbeats 4000000 in
set_option maxRecDepth 100000 in
theorem awake_c (w : World) : Calls Try.prog 15 #[] w fun e w' => e = .returned (.bool true) ∧ Below w.heap.size w w' := by
  go_enter Try.func15, Try.ntmps15
  go_wp2_with fail
  refine (aw_pred w.heap.size _ (sli_new w [1, 1, 2, 3, 4] 3)).mono ?_
  rintro e w1 ⟨rfl, hb1⟩
  have hB1 : Below w.heap.size w w1 := by focus ((repeat first | with_reducible exact Below.refl _ _ | (with_reducible refine Below.setCell ?_ ?_ _) | (with_reducible refine Below.alloc ?_ ?_ _) | (with_reducible refine below_drewN ?_ _) | (with_reducible refine Below.drew ?_) | (with_reducible refine Below.trans ?_ (Below.mono hb1 ?_))); all_goals (first | with_reducible exact Nat.le_refl _ | omega | (simp; done) | (simp; omega) | (have := hb1.size; (try simp at this); omega) | (have := hb1.size; (try simp at this); (try simp); omega)))
  have zz1 := hB1.size
  clear hb1
  go_wp2_with fail
  refine (aw_prof _).mono ?_
  rintro e w2 ⟨gp, cp, rfl, hP, hb2⟩
  have hX2 : Box w2 w1.heap.size 45 #[.int .i64 3, .int .i64 2, .int .i64 3] := by focus (apply Box.via; apply Exists.intro; apply And.intro; (repeat first | with_reducible assumption | with_reducible exact Box.new _ _ _ | ((with_reducible apply Box.newAt); focus (simp; done)) | (with_reducible apply Box.drew) | (with_reducible apply Box.drewN) | (with_reducible apply Box.set) | (with_reducible apply Box.alloc) | (with_reducible apply Box.far) | (with_reducible apply Box.below (hb := hb2))); all_goals (first | with_reducible exact Nat.le_refl _ | omega | (simp; done) | (simp; omega) | (have := hb2.size; (try simp at this); omega) | (have := hb2.size; (try simp at this); (try simp); omega)))
  have hB2 : Below w.heap.size w w2 := by focus ((repeat first | with_reducible exact Below.refl _ _ | (with_reducible refine Below.setCell ?_ ?_ _) | (with_reducible refine Below.alloc ?_ ?_ _) | (with_reducible refine below_drewN ?_ _) | (with_reducible refine Below.drew ?_) | (with_reducible refine Below.trans ?_ (Below.mono hb2 ?_)) | (with_reducible refine Below.trans ?_ (Below.mono hB1 ?_))); all_goals (first | with_reducible exact Nat.le_refl _ | omega | (simp; done) | (simp; omega) | (have := hb2.size; (try simp at this); have := hB1.size; (try simp at this); omega) | (have := hb2.size; (try simp at this); have := hB1.size; (try simp at this); (try simp); omega)))
  have zz2 := hB2.size
  clear hb2
  go_wp2_with fail
  refine (Loop_c _).mono ?_
  rintro e w3 ⟨gl, rfl, hL, hb3⟩
  have hP3 := hP.below hb3
  have hX3 := hX2.below hb3 hX2.lt
  have hB3 : Below w.heap.size w w3 := by focus ((repeat first | with_reducible exact Below.refl _ _ | (with_reducible refine Below.setCell ?_ ?_ _) | (with_reducible refine Below.alloc ?_ ?_ _) | (with_reducible refine below_drewN ?_ _) | (with_reducible refine Below.drew ?_) | (with_reducible refine Below.trans ?_ (Below.mono hb3 ?_)) | (with_reducible refine Below.trans ?_ (Below.mono hB2 ?_))); all_goals (first | with_reducible exact Nat.le_refl _ | omega | (simp; done) | (simp; omega) | (have := hb3.size; (try simp at this); have := hB2.size; (try simp at this); omega) | (have := hb3.size; (try simp at this); have := hB2.size; (try simp at this); (try simp); omega)))
  have zz3 := hB3.size
  clear hb3 hP hX2
  go_wp2_with fail
  refine (aw_reach gl _ hL).mono ?_
  rintro e w4 ⟨gr, cr, rfl, ⟨r0, r1, r2, hlr⟩, hb4⟩
  have hP4 := hP3.below hb4
  have hX4 := hX3.below hb4 hX3.lt
  have hB4 : Below w.heap.size w w4 := by focus ((repeat first | with_reducible exact Below.refl _ _ | (with_reducible refine Below.setCell ?_ ?_ _) | (with_reducible refine Below.alloc ?_ ?_ _) | (with_reducible refine below_drewN ?_ _) | (with_reducible refine Below.drew ?_) | (with_reducible refine Below.trans ?_ (Below.mono hb4 ?_)) | (with_reducible refine Below.trans ?_ (Below.mono hB3 ?_))); all_goals (first | with_reducible exact Nat.le_refl _ | omega | (simp; done) | (simp; omega) | (have := hb4.size; (try simp at this); have := hB3.size; (try simp at this); omega) | (have := hb4.size; (try simp at this); have := hB3.size; (try simp at this); (try simp); omega)))
  have zz4 := hB4.size
  clear hb4 hP3 hX3 hL
  go_wp2_with fail
  refine (Loop_c _).mono ?_
  rintro e w5 ⟨gm, rfl, hM, hb5⟩
  have hP5 := hP4.below hb5
  have hX5 := hX4.below hb5 hX4.lt
  have q0 := (hb5.cell (p := ⟨gr, 0, none⟩) hlr).trans r0
  have q1 := (hb5.cell (p := ⟨gr, 1, none⟩) hlr).trans r1
  have q2 := (hb5.cell (p := ⟨gr, 2, none⟩) hlr).trans r2
  have hlr5 : gr < w5.heap.size := Nat.lt_of_lt_of_le hlr hb5.size
  have hB5 : Below w.heap.size w w5 := by focus ((repeat first | with_reducible exact Below.refl _ _ | (with_reducible refine Below.setCell ?_ ?_ _) | (with_reducible refine Below.alloc ?_ ?_ _) | (with_reducible refine below_drewN ?_ _) | (with_reducible refine Below.drew ?_) | (with_reducible refine Below.trans ?_ (Below.mono hb5 ?_)) | (with_reducible refine Below.trans ?_ (Below.mono hB4 ?_))); all_goals (first | with_reducible exact Nat.le_refl _ | omega | (simp; done) | (simp; omega) | (have := hb5.size; (try simp at this); have := hB4.size; (try simp at this); omega) | (have := hb5.size; (try simp at this); have := hB4.size; (try simp at this); (try simp); omega)))
  have zz5 := hB5.size
  clear hb5 hP4 hX4 r0 r1 r2 hlr
  go_wp2_with fail
  refine (aw_broken gm _ (hM.alloc _)).mono ?_
  rintro e w6 ⟨gb, cb, rfl, hK, hb6⟩
  have hb6' : Below w5.heap.size w5 w6 := by focus ((repeat first | with_reducible exact Below.refl _ _ | (with_reducible refine Below.setCell ?_ ?_ _) | (with_reducible refine Below.alloc ?_ ?_ _) | (with_reducible refine below_drewN ?_ _) | (with_reducible refine Below.drew ?_) | (with_reducible refine Below.trans ?_ (Below.mono hb6 ?_))); all_goals (first | with_reducible exact Nat.le_refl _ | omega | (simp; done) | (simp; omega) | (have := hb6.size; (try simp at this); omega) | (have := hb6.size; (try simp at this); (try simp); omega)))
  have hP6 := hP5.below hb6'
  have hX6 := hX5.below hb6' hX5.lt
  have p0 := (hb6'.cell (p := ⟨gr, 0, none⟩) hlr5).trans q0
  have p1 := (hb6'.cell (p := ⟨gr, 1, none⟩) hlr5).trans q1
  have p2 := (hb6'.cell (p := ⟨gr, 2, none⟩) hlr5).trans q2
  have hB6 : Below w.heap.size w w6 := by focus ((repeat first | with_reducible exact Below.refl _ _ | (with_reducible refine Below.setCell ?_ ?_ _) | (with_reducible refine Below.alloc ?_ ?_ _) | (with_reducible refine below_drewN ?_ _) | (with_reducible refine Below.drew ?_) | (with_reducible refine Below.trans ?_ (Below.mono hb6' ?_)) | (with_reducible refine Below.trans ?_ (Below.mono hB5 ?_))); all_goals (first | with_reducible exact Nat.le_refl _ | omega | (simp; done) | (simp; omega) | (have := hb6'.size; (try simp at this); have := hB5.size; (try simp at this); omega) | (have := hb6'.size; (try simp at this); have := hB5.size; (try simp at this); (try simp); omega)))
  have zz6 := hB6.size
  have c0 := hX6.cell 0; have c1 := hX6.cell 1; have c2 := hX6.cell 2
  simp at c0 c1 c2
  have hlr6 : gr < w6.heap.size := Nat.lt_of_lt_of_le hlr5 hb6'.size
  clear hb6 hb6' hP5 hX5 q0 q1 q2 hM
  have HP := Lib.hid hP6; have HK := Lib.hid hK
  clear hP6 hK
  go_wp2_with fail
  refine (aw_ints [1, 2, 3, 2, 1, 1] [1, 2, 3, 2, 1, 1] _ _ 6 6 _ _ _ rfl rfl (by decide) (by decide) (HP.out.alloc _) (sli_new w6 [1, 2, 3, 2, 1, 1] 3)).mono ?_
  rintro e w7 ⟨rfl, hb7⟩
  have hb7' : Below w6.heap.size w6 w7 := by focus ((repeat first | with_reducible exact Below.refl _ _ | (with_reducible refine Below.setCell ?_ ?_ _) | (with_reducible refine Below.alloc ?_ ?_ _) | (with_reducible refine below_drewN ?_ _) | (with_reducible refine Below.drew ?_) | (with_reducible refine Below.trans ?_ (Below.mono hb7 ?_))); all_goals (first | with_reducible exact Nat.le_refl _ | omega | (simp; done) | (simp; omega) | (have := hb7.size; (try simp at this); omega) | (have := hb7.size; (try simp at this); (try simp); omega)))
  have s0 := (hb7'.cell (p := ⟨gr, 0, none⟩) hlr6).trans p0
  have s1 := (hb7'.cell (p := ⟨gr, 1, none⟩) hlr6).trans p1
  have s2 := (hb7'.cell (p := ⟨gr, 2, none⟩) hlr6).trans p2
  have hK7 := Lib.hid (HK.out.below hb7')
  have hB7 : Below w.heap.size w w7 := by focus ((repeat first | with_reducible exact Below.refl _ _ | (with_reducible refine Below.setCell ?_ ?_ _) | (with_reducible refine Below.alloc ?_ ?_ _) | (with_reducible refine below_drewN ?_ _) | (with_reducible refine Below.drew ?_) | (with_reducible refine Below.trans ?_ (Below.mono hb7' ?_)) | (with_reducible refine Below.trans ?_ (Below.mono hB6 ?_))); all_goals (first | with_reducible exact Nat.le_refl _ | omega | (simp; done) | (simp; omega) | (have := hb7'.size; (try simp at this); have := hB6.size; (try simp at this); omega) | (have := hb7'.size; (try simp at this); have := hB6.size; (try simp at this); (try simp); omega)))
  have zz7 := hB7.size
  clear hb7 hb7' p0 p1 p2 hX6 c0 c1 c2
  go_wp2_with fail
  refine (aw_ints [-1, -1, -1] [-1, -1, -1] _ _ 3 3 _ _ _ rfl rfl (by decide) (by decide) (hK7.out.alloc _) (sli_new w7 [-1, -1, -1] 3)).mono ?_
  rintro e w8 ⟨rfl, hb8⟩
  go_wp2_with fail
  go_ret
  exact ⟨rfl, by focus ((repeat first | with_reducible exact Below.refl _ _ | (with_reducible refine Below.setCell ?_ ?_ _) | (with_reducible refine Below.alloc ?_ ?_ _) | (with_reducible refine below_drewN ?_ _) | (with_reducible refine Below.drew ?_) | (with_reducible refine Below.trans ?_ (Below.mono hb8 ?_)) | (with_reducible refine Below.trans ?_ (Below.mono hB7 ?_))); all_goals (first | with_reducible exact Nat.le_refl _ | omega | (simp; done) | (simp; omega) | (have := hb8.size; (try simp at this); have := hB7.size; (try simp at this); omega) | (have := hb8.size; (try simp at this); have := hB7.size; (try simp at this); (try simp); omega)))⟩

end Go.Proofs.Ytgbckdmhmkpahaa

/-
  The law WinchSmaller (chapter 2): the walk.
-/
import Derived.Test.YtgbckdmhmkpahaaSmall
import Derived.Test.YtgbckdmhmkpahaaRefLoop
import Derived.Test.YtgbckdmhmkpahaaSame
import Derived.Test.YtgbckdmhmkpahaaAwake
import Derived.Deep.DeepCutAuto
set_option linter.unusedVariables false
namespace Go.Proofs.Ytgbckdmhmkpahaa
open Go.RowKit Go.Shelf
attribute [local go_sem ↓] eqlO_st neqO_st

set_option maxHeartbeats 1000000 in
theorem refLoopErr_c (T : List Int) (A : Option Addr) (c : Nat) (lo hi turn slew : Int) (w : World) (hn : T.length ≤ 1000) (hs : SlI w A T) :
    Calls Try.prog 17 #[.agg #[.slice A T.length c, .int .i64 lo, .int .i64 hi, .int .i64 turn, .int .i64 slew]] w fun e w' => e = .returned (.int .i64 (chkL T lo hi turn slew).2) ∧ Below w.heap.size w w' := by
  have H := Lib.hid (fun W h => refCheckLoop_c T A c lo hi turn slew W hn h)
  have HS := Lib.hid hs
  clear hn hs
  generalize chkL T lo hi turn slew = CS at *
  go_enter Try.func17, Try.ntmps17
  go_wp2_with (go_at_call 51; refine (H.out _ (SlI.below HS.out (by focus ((repeat first | with_reducible exact Below.refl _ _ | (with_reducible refine Below.setCell ?_ ?_ _) | (with_reducible refine Below.alloc ?_ ?_ _) | (with_reducible refine below_drewN ?_ _) | (with_reducible refine Below.drew ?_)); all_goals (first | with_reducible exact Nat.le_refl _ | omega | (simp; done) | (simp; omega) | (omega) | ((try simp); omega)))))).mono ?_; rintro e w' ⟨rfl, hb⟩)
  go_ret
  exact ⟨rfl, by focus ((repeat first | with_reducible exact Below.refl _ _ | (with_reducible refine Below.setCell ?_ ?_ _) | (with_reducible refine Below.alloc ?_ ?_ _) | (with_reducible refine below_drewN ?_ _) | (with_reducible refine Below.drew ?_) | (with_reducible refine Below.trans ?_ (Below.mono hb ?_))); all_goals (first | with_reducible exact Nat.le_refl _ | omega | (simp; done) | (simp; omega) | (have := hb.size; (try simp at this); omega) | (have := hb.size; (try simp at this); (try simp); omega)))⟩

set_option maxHeartbeats 8000000 in
set_option maxRecDepth 100000 in
theorem winchSmaller_in (T : List Int) (A : Option Addr) (c : Nat) (lo hi turn slew x0 x1 x2 : Int) (w : World) (hk : (chkL T lo hi turn slew).2 = 0) (hT : SlI w A T) (hx : ∀ x ∈ [x0, x1, x2], -9223372036854775808 ≤ x ∧ x ≤ 9223372036854775807) :
    Calls Try.prog 3 #[.agg #[.slice A T.length c, .int .i64 lo, .int .i64 hi, .int .i64 turn, .int .i64 slew], .agg #[.int .i64 x0, .int .i64 x1, .int .i64 x2]] w fun e w' => e = .returned (.bool true) ∧ Below w.heap.size w w' := by
  obtain ⟨k1, k2, k3, k4, k5, k6, k7⟩ := chkL_ok hk
  have HS := Lib.hid hT
  have y0 := hx x0 (by simp); have y1 := hx x1 (by simp); have y2 := hx x2 (by simp)
  have m0 := Int.emod_nonneg x0 (b := 1 - lo) (by omega); have m1 := Int.emod_lt_of_pos x0 (b := 1 - lo) (by omega)
  have m2 := Int.emod_nonneg x1 (b := hi + 1) (by omega); have m3 := Int.emod_lt_of_pos x1 (b := hi + 1) (by omega)
  have m4 := Int.emod_nonneg x2 (b := turn + 1) (by omega); have m5 := Int.emod_lt_of_pos x2 (b := turn + 1) (by omega)
  obtain ⟨p0, hp0⟩ : ∃ p, x0 % (1 - lo) = p := ⟨_, rfl⟩
  obtain ⟨p1, hp1⟩ : ∃ p, x1 % (hi + 1) = p := ⟨_, rfl⟩
  obtain ⟨p2, hp2⟩ : ∃ p, x2 % (turn + 1) = p := ⟨_, rfl⟩
  rw [hp0] at m0 m1; rw [hp1] at m2 m3; rw [hp2] at m4 m5
  have hk' := chkL_less hk (lo' := -p0) (hi' := p1) (turn' := p2) (by omega) (by omega) (by omega) (by omega) (by omega) (by omega)
  have LE := Lib.hid (fun W h => refLoopErr_c T A c lo hi turn slew W (by omega) h)
  have CL := Lib.hid (fun W h => copyLoop_c T A c lo hi turn slew W (by omega) h)
  have CS := Lib.hid (fun D d W h => copyLoop_c T D d (-p0) p1 p2 slew W (by omega) h)
  have HO := Lib.hid (fun D d W h => holds_yes T D d lo hi turn slew W h hk)
  have HP := Lib.hid (fun D d W h => holds_yes T D d (-p0) p1 p2 slew W h hk')
  have BO := Lib.hid (fun D d W h => brokenBy_yes T D d lo hi turn slew W h hk)
  have BP := Lib.hid (fun D d W h => brokenBy_yes T D d (-p0) p1 p2 slew W h hk')
  have RO := Lib.hid (fun D d W h => reachedBy_yes T D d lo hi turn slew W h hk)
  have RP := Lib.hid (fun D d W h => reachedBy_yes T D d (-p0) p1 p2 slew W h hk')
  have SUB := Lib.hid (small_sub hk (lo' := -p0) (hi' := p1) (turn' := p2) (by omega) (by omega) (by omega) (by omega) (by omega) (by omega))
  have FS := Lib.hid (fun t ht => small_ok hk (lo' := -p0) (hi' := p1) (turn' := p2) (by omega) (by omega) (by omega) (by omega) (by omega) (by omega) (t := t) ht)
  have hln : (reachL T lo hi turn slew).length ≤ 2079 := by
    obtain ⟨hF, _⟩ := foundOk (turn := turn) (slew := slew) k1 k2 k3 k4.1 k5 k6
    have := hF.length k1 k5.1 k6.2
    unfold reachL
    rw [(sortS_perm _).length_eq, List.length_map]; exact this
  have hle := SUB.out.length_le
  have e0 : ((chkL T lo hi turn slew).2 != 0) = false := bneF hk
  clear hk hk' hT hx k3
  generalize chkL T lo hi turn slew = CC at *
  obtain ⟨ci, ce⟩ := CC
  dsimp only at LE e0
  generalize reachL T lo hi turn slew = SL at *
  generalize reachL T (-p0) p1 p2 slew = TL at *
  generalize found T lo hi turn slew = FL at *
  generalize found T (-p0) p1 p2 slew = FM at *
  obtain ⟨al, seaL⟩ := FL
  obtain ⟨am, seaM⟩ := FM
  dsimp only at HO HP BO BP FS
  have d1 : decide ((T.length : Int) ≤ 13) = true := decide_eq_true (by omega)
  go_enter Try.func3, Try.ntmps3
  go_upto_region 5 with (first | (go_at_call 15; refine (awake_c _).mono ?_; rintro e w1 ⟨rfl, hb1⟩; (have q0 : Box w1 w.heap.size 26 #[.slice A T.length c, .int .i64 lo, .int .i64 hi, .int .i64 turn, .int .i64 slew] := (by focus (apply Box.via; apply Exists.intro; apply And.intro; (repeat first | with_reducible assumption | with_reducible exact Box.new _ _ _ | ((with_reducible apply Box.newAt); focus (simp; done)) | (with_reducible apply Box.drew) | (with_reducible apply Box.drewN) | (with_reducible apply Box.set) | (with_reducible apply Box.alloc) | (with_reducible apply Box.far) | (with_reducible apply Box.below (hb := hb1))); all_goals (first | with_reducible exact Nat.le_refl _ | omega | (simp; done) | (simp; omega) | (have := hb1.size; (try simp at this); omega) | (have := hb1.size; (try simp at this); (try simp); omega))))); (have q1 : Box w1 (w.heap.size + 1) 27 #[.int .i64 x0, .int .i64 x1, .int .i64 x2] := (by focus (apply Box.via; apply Exists.intro; apply And.intro; (repeat first | with_reducible assumption | with_reducible exact Box.new _ _ _ | ((with_reducible apply Box.newAt); focus (simp; done)) | (with_reducible apply Box.drew) | (with_reducible apply Box.drewN) | (with_reducible apply Box.set) | (with_reducible apply Box.alloc) | (with_reducible apply Box.far) | (with_reducible apply Box.below (hb := hb1))); all_goals (first | with_reducible exact Nat.le_refl _ | omega | (simp; done) | (simp; omega) | (have := hb1.size; (try simp at this); omega) | (have := hb1.size; (try simp at this); (try simp); omega))))); (have c00 : (w1).cell? ⟨w.heap.size, 0, none⟩ = some (.slice A T.length c) := q0.cell 0); (have c01 : (w1).cell? ⟨w.heap.size, 1, none⟩ = some (.int .i64 lo) := q0.cell 1); (have c02 : (w1).cell? ⟨w.heap.size, 2, none⟩ = some (.int .i64 hi) := q0.cell 2); (have c03 : (w1).cell? ⟨w.heap.size, 3, none⟩ = some (.int .i64 turn) := q0.cell 3); (have c04 : (w1).cell? ⟨w.heap.size, 4, none⟩ = some (.int .i64 slew) := q0.cell 4); (have hl0 := q0.lt); (have hl1 := q1.lt)) | (go_at_call 16; refine (few_c T A c lo hi turn slew _).mono ?_; rintro e w2 ⟨rfl, hb2⟩; (have q0 : Box w2 w.heap.size 26 #[.slice A T.length c, .int .i64 lo, .int .i64 hi, .int .i64 turn, .int .i64 slew] := (by focus (apply Box.via; apply Exists.intro; apply And.intro; (repeat first | with_reducible assumption | with_reducible exact Box.new _ _ _ | ((with_reducible apply Box.newAt); focus (simp; done)) | (with_reducible apply Box.drew) | (with_reducible apply Box.drewN) | (with_reducible apply Box.set) | (with_reducible apply Box.alloc) | (with_reducible apply Box.far) | (with_reducible apply Box.below (hb := hb2))); all_goals (first | with_reducible exact Nat.le_refl _ | omega | (simp; done) | (simp; omega) | (have := hb2.size; (try simp at this); omega) | (have := hb2.size; (try simp at this); (try simp); omega))))); (have q1 : Box w2 (w.heap.size + 1) 27 #[.int .i64 x0, .int .i64 x1, .int .i64 x2] := (by focus (apply Box.via; apply Exists.intro; apply And.intro; (repeat first | with_reducible assumption | with_reducible exact Box.new _ _ _ | ((with_reducible apply Box.newAt); focus (simp; done)) | (with_reducible apply Box.drew) | (with_reducible apply Box.drewN) | (with_reducible apply Box.set) | (with_reducible apply Box.alloc) | (with_reducible apply Box.far) | (with_reducible apply Box.below (hb := hb2))); all_goals (first | with_reducible exact Nat.le_refl _ | omega | (simp; done) | (simp; omega) | (have := hb2.size; (try simp at this); omega) | (have := hb2.size; (try simp at this); (try simp); omega))))); (have c00 : (w2).cell? ⟨w.heap.size, 0, none⟩ = some (.slice A T.length c) := q0.cell 0); (have c01 : (w2).cell? ⟨w.heap.size, 1, none⟩ = some (.int .i64 lo) := q0.cell 1); (have c02 : (w2).cell? ⟨w.heap.size, 2, none⟩ = some (.int .i64 hi) := q0.cell 2); (have c03 : (w2).cell? ⟨w.heap.size, 3, none⟩ = some (.int .i64 turn) := q0.cell 3); (have c04 : (w2).cell? ⟨w.heap.size, 4, none⟩ = some (.int .i64 slew) := q0.cell 4); (have hl0 := q0.lt); (have hl1 := q1.lt)) | (go_at_call 17; refine (LE.out _ (SlI.below HS.out (by focus ((repeat first | with_reducible exact Below.refl _ _ | (with_reducible refine Below.setCell ?_ ?_ _) | (with_reducible refine Below.alloc ?_ ?_ _) | (with_reducible refine below_drewN ?_ _) | (with_reducible refine Below.drew ?_) | (with_reducible refine Below.trans ?_ (Below.mono hb2 ?_)) | (with_reducible refine Below.trans ?_ (Below.mono hb1 ?_))); all_goals (first | with_reducible exact Nat.le_refl _ | omega | (simp; done) | (simp; omega) | (have := hb2.size; (try simp at this); have := hb1.size; (try simp at this); omega) | (have := hb2.size; (try simp at this); have := hb1.size; (try simp at this); (try simp); omega)))))).mono ?_; rintro e w3 ⟨rfl, hb3⟩) | fail)
  have hl0 := q0.lt; have hl1 := q1.lt
  have q0 : Box w3 w.heap.size 26 #[.slice A T.length c, .int .i64 lo, .int .i64 hi, .int .i64 turn, .int .i64 slew] := by focus (apply Box.via; apply Exists.intro; apply And.intro; (repeat first | with_reducible assumption | with_reducible exact Box.new _ _ _ | ((with_reducible apply Box.newAt); focus (simp; done)) | (with_reducible apply Box.drew) | (with_reducible apply Box.drewN) | (with_reducible apply Box.set) | (with_reducible apply Box.alloc) | (with_reducible apply Box.far) | (with_reducible apply Box.below (hb := hb3))); all_goals (first | with_reducible exact Nat.le_refl _ | omega | (simp; done) | (simp; omega) | (have := hb3.size; (try simp at this); omega) | (have := hb3.size; (try simp at this); (try simp); omega)))
  have q1 : Box w3 (w.heap.size + 1) 27 #[.int .i64 x0, .int .i64 x1, .int .i64 x2] := by focus (apply Box.via; apply Exists.intro; apply And.intro; (repeat first | with_reducible assumption | with_reducible exact Box.new _ _ _ | ((with_reducible apply Box.newAt); focus (simp; done)) | (with_reducible apply Box.drew) | (with_reducible apply Box.drewN) | (with_reducible apply Box.set) | (with_reducible apply Box.alloc) | (with_reducible apply Box.far) | (with_reducible apply Box.below (hb := hb3))); all_goals (first | with_reducible exact Nat.le_refl _ | omega | (simp; done) | (simp; omega) | (have := hb3.size; (try simp at this); omega) | (have := hb3.size; (try simp at this); (try simp); omega)))
  have hB : Below w.heap.size w w3 := by focus ((repeat first | with_reducible exact Below.refl _ _ | (with_reducible refine Below.setCell ?_ ?_ _) | (with_reducible refine Below.alloc ?_ ?_ _) | (with_reducible refine below_drewN ?_ _) | (with_reducible refine Below.drew ?_) | (with_reducible refine Below.trans ?_ (Below.mono hb3 ?_)) | (with_reducible refine Below.trans ?_ (Below.mono hb2 ?_)) | (with_reducible refine Below.trans ?_ (Below.mono hb1 ?_))); all_goals (first | with_reducible exact Nat.le_refl _ | omega | (simp; done) | (simp; omega) | (have := hb3.size; (try simp at this); have := hb2.size; (try simp at this); have := hb1.size; (try simp at this); omega) | (have := hb3.size; (try simp at this); have := hb2.size; (try simp at this); have := hb1.size; (try simp at this); (try simp); omega)))
  clear hb1 hb2 hb3 c00 c01 c02 c03 c04 hl0 hl1
  generalize w3 = W5 at *
  go_cut [5] (fun s5 wx => ∃ (g b o d : Nat), s5 = .pointer (some ⟨g, 0, none⟩) ∧ w.heap.size + 1 < g ∧ b < g ∧ Box wx g 26 #[.slice (some ⟨b, o, none⟩) T.length d, .int .i64 lo, .int .i64 hi, .int .i64 turn, .int .i64 slew] ∧ SlI wx (some ⟨b, o, none⟩) T ∧ Box wx w.heap.size 26 #[.slice A T.length c, .int .i64 lo, .int .i64 hi, .int .i64 turn, .int .i64 slew] ∧ Box wx (w.heap.size + 1) 27 #[.int .i64 x0, .int .i64 x1, .int .i64 x2] ∧ Below w.heap.size w wx)
  case first => as_aux_lemma =>
    (have c00 : (W5).cell? ⟨w.heap.size, 0, none⟩ = some (.slice A T.length c) := q0.cell 0); (have c01 : (W5).cell? ⟨w.heap.size, 1, none⟩ = some (.int .i64 lo) := q0.cell 1); (have c02 : (W5).cell? ⟨w.heap.size, 2, none⟩ = some (.int .i64 hi) := q0.cell 2); (have c03 : (W5).cell? ⟨w.heap.size, 3, none⟩ = some (.int .i64 turn) := q0.cell 3); (have c04 : (W5).cell? ⟨w.heap.size, 4, none⟩ = some (.int .i64 slew) := q0.cell 4); (have hl0 := q0.lt)
    have hl1 := q1.lt
    go_wp2_with (first | (go_at_call 18; refine (CL.out _ (SlI.below HS.out (by focus ((repeat first | with_reducible exact Below.refl _ _ | (with_reducible refine Below.setCell ?_ ?_ _) | (with_reducible refine Below.alloc ?_ ?_ _) | (with_reducible refine below_drewN ?_ _) | (with_reducible refine Below.drew ?_) | (with_reducible refine Below.trans ?_ (Below.mono hB ?_))); all_goals (first | with_reducible exact Nat.le_refl _ | omega | (simp; done) | (simp; omega) | (have := hB.size; (try simp at this); omega) | (have := hB.size; (try simp at this); (try simp); omega)))))).mono ?_; rintro e w2 ⟨D2, d2, rfl, hD2, hb2⟩) | fail)
    go_meet
    have hz2 : W5.heap.size ≤ w2.heap.size := by have := hb2.size; omega
    obtain ⟨b, o, rfl, hbD, _⟩ := hD2 0 _ (List.getElem?_eq_getElem (show 0 < T.length by omega))
    refine ⟨_, b, o, d2, rfl, by omega, hbD, ?_, ?_, ?_, ?_, ?_⟩
    rotate_left
    · repeat (first | exact hD2.alloc _ | (refine SlI.set ?_ (fun _ b' o' e' => ?_)))
      all_goals (cases e'; (try simp); omega)
    all_goals first | (focus (apply Box.via; apply Exists.intro; apply And.intro; (repeat first | with_reducible assumption | with_reducible exact Box.new _ _ _ | ((with_reducible apply Box.newAt); focus (simp; done)) | (with_reducible apply Box.drew) | (with_reducible apply Box.drewN) | (with_reducible apply Box.set) | (with_reducible apply Box.alloc) | (with_reducible apply Box.far) | (with_reducible apply Box.below (hb := hb2))); all_goals (first | with_reducible exact Nat.le_refl _ | omega | (simp; done) | (simp; omega) | (have := hb2.size; (try simp at this); omega) | (have := hb2.size; (try simp at this); (try simp); omega)))) | (focus ((repeat first | with_reducible exact Below.refl _ _ | (with_reducible refine Below.setCell ?_ ?_ _) | (with_reducible refine Below.alloc ?_ ?_ _) | (with_reducible refine below_drewN ?_ _) | (with_reducible refine Below.drew ?_) | (with_reducible refine Below.trans ?_ (Below.mono hb2 ?_)) | (with_reducible refine Below.trans ?_ (Below.mono hB ?_))); all_goals (first | with_reducible exact Nat.le_refl _ | omega | (simp; done) | (simp; omega) | (have := hb2.size; (try simp at this); have := hB.size; (try simp at this); omega) | (have := hb2.size; (try simp at this); have := hB.size; (try simp at this); (try simp); omega))))
  case rest =>
    obtain ⟨g, b, o, d, rfl, hg1, hbg, hG, hD, q0', q1', hB'⟩ := hcut
    clear q0 q1 hB
    have q0 := q0'; have q1 := q1'; have hB := hB'
    clear q0' q1' hB'
    generalize wc = W5 at *
    have v0 : IntKind.i64.wrap (1 - lo) = 1 - lo := IntWalk.i64_in _ (by omega)
    have v1 : IntKind.i64.wrap (hi + 1) = hi + 1 := IntWalk.i64_in _ (by omega)
    have v2 : IntKind.i64.wrap (turn + 1) = turn + 1 := IntWalk.i64_in _ (by omega)
    have v3 : IntKind.i64.wrap (-p0) = -p0 := IntWalk.i64_in _ (by omega)
    go_upto_region 6 with fail
    go_cut [] (fun wx => Box wx g 26 #[.slice (some ⟨b, o, none⟩) T.length d, .int .i64 (-p0), .int .i64 p1, .int .i64 turn, .int .i64 slew] ∧ SlI wx (some ⟨b, o, none⟩) T ∧ Box wx w.heap.size 26 #[.slice A T.length c, .int .i64 lo, .int .i64 hi, .int .i64 turn, .int .i64 slew] ∧ Box wx (w.heap.size + 1) 27 #[.int .i64 x0, .int .i64 x1, .int .i64 x2] ∧ Below w.heap.size w wx)
    case first => as_aux_lemma =>
      (have c00 : (W5).cell? ⟨w.heap.size, 0, none⟩ = some (.slice A T.length c) := q0.cell 0); (have c01 : (W5).cell? ⟨w.heap.size, 1, none⟩ = some (.int .i64 lo) := q0.cell 1); (have c02 : (W5).cell? ⟨w.heap.size, 2, none⟩ = some (.int .i64 hi) := q0.cell 2); (have c03 : (W5).cell? ⟨w.heap.size, 3, none⟩ = some (.int .i64 turn) := q0.cell 3); (have c04 : (W5).cell? ⟨w.heap.size, 4, none⟩ = some (.int .i64 slew) := q0.cell 4); (have hl0 := q0.lt)
      have c10 := q1.cell 0; have c11 := q1.cell 1; have hl1 := q1.lt
      simp at c10 c11
      (have z0 := hG.cell 0; have z1 := hG.cell 1; have z2 := hG.cell 2; have z3 := hG.cell 3; have z4 := hG.cell 4; simp at z0 z1 z2 z3 z4; have hlg := hG.lt)
      have f1 := hG.froz 1; have f2 := hG.froz 2
      have n1 : w.heap.size ≠ g := by omega
      have n2 : g ≠ w.heap.size := by omega
      have n3 : w.heap.size + 1 ≠ g := by omega
      have n4 : g ≠ w.heap.size + 1 := by omega
      go_region_held3 (fun w' => w'.cell? ⟨w.heap.size, 1, none⟩ = some (.int .i64 lo) ∧ w'.cell? ⟨w.heap.size, 2, none⟩ = some (.int .i64 hi) ∧ w'.cell? ⟨w.heap.size + 1, 0, none⟩ = some (.int .i64 x0) ∧ w'.cell? ⟨w.heap.size + 1, 1, none⟩ = some (.int .i64 x1)) (go_keep) (first | (go_at_call 19; refine (mod_c _ _ (by omega) (by omega) (by omega) (by omega) _).mono ?_; rintro e w' ⟨rfl, rfl⟩) | fail)
      all_goals (as_aux_lemma => (
        go_wp2_with fail
        go_meet
        refine ⟨?_, ?_, ?_, ?_, ?_⟩
        rotate_left
        · repeat (first | exact hD | (refine SlI.set ?_ (fun _ b' o' e' => ?_)))
          all_goals (cases e'; (try simp); omega)
        all_goals first | (focus (apply Box.via; apply Exists.intro; apply And.intro; (repeat first | with_reducible assumption | with_reducible exact Box.new _ _ _ | ((with_reducible apply Box.newAt); focus (simp; done)) | (with_reducible apply Box.drew) | (with_reducible apply Box.drewN) | (with_reducible apply Box.set) | (with_reducible apply Box.alloc) | (with_reducible apply Box.far)); all_goals (first | with_reducible exact Nat.le_refl _ | omega | (simp; done) | (simp; omega) | (omega) | ((try simp); omega)))) | (focus ((repeat first | with_reducible exact Below.refl _ _ | (with_reducible refine Below.setCell ?_ ?_ _) | (with_reducible refine Below.alloc ?_ ?_ _) | (with_reducible refine below_drewN ?_ _) | (with_reducible refine Below.drew ?_) | (with_reducible refine Below.trans ?_ (Below.mono hB ?_))); all_goals (first | with_reducible exact Nat.le_refl _ | omega | (simp; done) | (simp; omega) | (have := hB.size; (try simp at this); omega) | (have := hB.size; (try simp at this); (try simp); omega))))))
    case rest =>
      obtain ⟨hG', hD', q0', q1', hB'⟩ := hcut
      clear q1
      have q1 := q1'
      clear q1'
      (clear hG hD q0 hB; have hG := hG'; have hD := hD'; have q0 := q0'; have hB := hB'; clear hG' hD' q0' hB'; generalize wc = W5 at *)
      go_upto_region 7 with fail
      go_cut [] (fun wx => Box wx g 26 #[.slice (some ⟨b, o, none⟩) T.length d, .int .i64 (-p0), .int .i64 p1, .int .i64 p2, .int .i64 slew] ∧ SlI wx (some ⟨b, o, none⟩) T ∧ Box wx w.heap.size 26 #[.slice A T.length c, .int .i64 lo, .int .i64 hi, .int .i64 turn, .int .i64 slew] ∧ Below w.heap.size w wx)
      case first => as_aux_lemma =>
        (have c00 : (W5).cell? ⟨w.heap.size, 0, none⟩ = some (.slice A T.length c) := q0.cell 0); (have c01 : (W5).cell? ⟨w.heap.size, 1, none⟩ = some (.int .i64 lo) := q0.cell 1); (have c02 : (W5).cell? ⟨w.heap.size, 2, none⟩ = some (.int .i64 hi) := q0.cell 2); (have c03 : (W5).cell? ⟨w.heap.size, 3, none⟩ = some (.int .i64 turn) := q0.cell 3); (have c04 : (W5).cell? ⟨w.heap.size, 4, none⟩ = some (.int .i64 slew) := q0.cell 4); (have hl0 := q0.lt)
        have c12 := q1.cell 2; have hl1 := q1.lt
        simp at c12
        (have z0 := hG.cell 0; have z1 := hG.cell 1; have z2 := hG.cell 2; have z3 := hG.cell 3; have z4 := hG.cell 4; simp at z0 z1 z2 z3 z4; have hlg := hG.lt)
        have f3 := hG.froz 3
        have n1 : w.heap.size ≠ g := by omega
        have n2 : g ≠ w.heap.size := by omega
        go_wp2_with (first | (go_at_call 19; refine (mod_c _ _ (by omega) (by omega) (by omega) (by omega) _).mono ?_; rintro e w' ⟨rfl, rfl⟩) | fail)
        go_meet
        refine ⟨?_, ?_, ?_, ?_⟩
        rotate_left
        · repeat (first | exact hD | (refine SlI.set ?_ (fun _ b' o' e' => ?_)))
          all_goals (cases e'; (try simp); omega)
        all_goals first | (focus (apply Box.via; apply Exists.intro; apply And.intro; (repeat first | with_reducible assumption | with_reducible exact Box.new _ _ _ | ((with_reducible apply Box.newAt); focus (simp; done)) | (with_reducible apply Box.drew) | (with_reducible apply Box.drewN) | (with_reducible apply Box.set) | (with_reducible apply Box.alloc) | (with_reducible apply Box.far)); all_goals (first | with_reducible exact Nat.le_refl _ | omega | (simp; done) | (simp; omega) | (omega) | ((try simp); omega)))) | (focus ((repeat first | with_reducible exact Below.refl _ _ | (with_reducible refine Below.setCell ?_ ?_ _) | (with_reducible refine Below.alloc ?_ ?_ _) | (with_reducible refine below_drewN ?_ _) | (with_reducible refine Below.drew ?_) | (with_reducible refine Below.trans ?_ (Below.mono hB ?_))); all_goals (first | with_reducible exact Nat.le_refl _ | omega | (simp; done) | (simp; omega) | (have := hB.size; (try simp at this); omega) | (have := hB.size; (try simp at this); (try simp); omega))))
      case rest =>
        clear q1
        obtain ⟨hG', hD', q0', hB'⟩ := hcut
        (clear hG hD q0 hB; have hG := hG'; have hD := hD'; have q0 := q0'; have hB := hB'; clear hG' hD' q0' hB'; generalize wc = W5 at *)
        clear v0 v1 v2 v3 hp0 hp1 hp2
        obtain ⟨hl, hhl⟩ : ∃ hl, hldB seaL = hl := ⟨_, rfl⟩
        obtain ⟨hm, hhm⟩ : ∃ hm, hldB seaM = hm := ⟨_, rfl⟩
        rw [hhl] at HO; rw [hhm] at HP
        go_upto_region 8 with fail
        go_cut [6, 7] (fun s6 s7 wx => s6 = .bool hl ∧ s7 = .int .i64 0 ∧ Box wx g 26 #[.slice (some ⟨b, o, none⟩) T.length d, .int .i64 (-p0), .int .i64 p1, .int .i64 p2, .int .i64 slew] ∧ SlI wx (some ⟨b, o, none⟩) T ∧ Box wx w.heap.size 26 #[.slice A T.length c, .int .i64 lo, .int .i64 hi, .int .i64 turn, .int .i64 slew] ∧ Below w.heap.size w wx)
        case first => as_aux_lemma =>
          (have c00 : (W5).cell? ⟨w.heap.size, 0, none⟩ = some (.slice A T.length c) := q0.cell 0); (have c01 : (W5).cell? ⟨w.heap.size, 1, none⟩ = some (.int .i64 lo) := q0.cell 1); (have c02 : (W5).cell? ⟨w.heap.size, 2, none⟩ = some (.int .i64 hi) := q0.cell 2); (have c03 : (W5).cell? ⟨w.heap.size, 3, none⟩ = some (.int .i64 turn) := q0.cell 3); (have c04 : (W5).cell? ⟨w.heap.size, 4, none⟩ = some (.int .i64 slew) := q0.cell 4); (have hl0 := q0.lt)
          have hlg := hG.lt
          go_wp2_with (first | (go_at_call 18; refine (CL.out _ (SlI.below HS.out (by focus ((repeat first | with_reducible exact Below.refl _ _ | (with_reducible refine Below.setCell ?_ ?_ _) | (with_reducible refine Below.alloc ?_ ?_ _) | (with_reducible refine below_drewN ?_ _) | (with_reducible refine Below.drew ?_) | (with_reducible refine Below.trans ?_ (Below.mono hB ?_))); all_goals (first | with_reducible exact Nat.le_refl _ | omega | (simp; done) | (simp; omega) | (have := hB.size; (try simp at this); omega) | (have := hB.size; (try simp at this); (try simp); omega)))))).mono ?_; rintro e w2 ⟨D2, d2, rfl, hD2, hb2⟩) | (go_at_call 20; refine (HO.out _ _ _ (SlI.below hD2 (by focus ((repeat first | with_reducible exact Below.refl _ _ | (with_reducible refine Below.setCell ?_ ?_ _) | (with_reducible refine Below.alloc ?_ ?_ _) | (with_reducible refine below_drewN ?_ _) | (with_reducible refine Below.drew ?_)); all_goals (first | with_reducible exact Nat.le_refl _ | omega | (simp; done) | (simp; omega) | (omega) | ((try simp); omega)))))).mono ?_; rintro e w3 ⟨rfl, hb3⟩) | fail)
          go_meet
          refine ⟨rfl, rfl, ?_, SlI.below hD (by focus ((repeat first | with_reducible exact Below.refl _ _ | (with_reducible refine Below.setCell ?_ ?_ _) | (with_reducible refine Below.alloc ?_ ?_ _) | (with_reducible refine below_drewN ?_ _) | (with_reducible refine Below.drew ?_) | (with_reducible refine Below.trans ?_ (Below.mono hb2 ?_)) | (with_reducible refine Below.trans ?_ (Below.mono hb3 ?_))); all_goals (first | with_reducible exact Nat.le_refl _ | omega | (simp; done) | (simp; omega) | (have := hb2.size; (try simp at this); have := hb3.size; (try simp at this); omega) | (have := hb2.size; (try simp at this); have := hb3.size; (try simp at this); (try simp); omega)))), ?_, ?_⟩
          all_goals first | (focus (apply Box.via; apply Exists.intro; apply And.intro; (repeat first | with_reducible assumption | with_reducible exact Box.new _ _ _ | ((with_reducible apply Box.newAt); focus (simp; done)) | (with_reducible apply Box.drew) | (with_reducible apply Box.drewN) | (with_reducible apply Box.set) | (with_reducible apply Box.alloc) | (with_reducible apply Box.far) | (with_reducible apply Box.below (hb := hb2)) | (with_reducible apply Box.below (hb := hb3))); all_goals (first | with_reducible exact Nat.le_refl _ | omega | (simp; done) | (simp; omega) | (have := hb2.size; (try simp at this); have := hb3.size; (try simp at this); omega) | (have := hb2.size; (try simp at this); have := hb3.size; (try simp at this); (try simp); omega)))) | (focus ((repeat first | with_reducible exact Below.refl _ _ | (with_reducible refine Below.setCell ?_ ?_ _) | (with_reducible refine Below.alloc ?_ ?_ _) | (with_reducible refine below_drewN ?_ _) | (with_reducible refine Below.drew ?_) | (with_reducible refine Below.trans ?_ (Below.mono hb2 ?_)) | (with_reducible refine Below.trans ?_ (Below.mono hb3 ?_)) | (with_reducible refine Below.trans ?_ (Below.mono hB ?_))); all_goals (first | with_reducible exact Nat.le_refl _ | omega | (simp; done) | (simp; omega) | (have := hb2.size; (try simp at this); have := hb3.size; (try simp at this); have := hB.size; (try simp at this); omega) | (have := hb2.size; (try simp at this); have := hb3.size; (try simp at this); have := hB.size; (try simp at this); (try simp); omega))))
        case rest =>
          obtain ⟨rfl, rfl, hG', hD', q0', hB'⟩ := hcut
          (clear hG hD q0 hB; have hG := hG'; have hD := hD'; have q0 := q0'; have hB := hB'; clear hG' hD' q0' hB'; generalize wc = W5 at *)
          go_upto_region 9 with fail
          go_cut [8, 9] (fun s8 s9 wx => s8 = .bool hm ∧ s9 = .int .i64 0 ∧ Box wx g 26 #[.slice (some ⟨b, o, none⟩) T.length d, .int .i64 (-p0), .int .i64 p1, .int .i64 p2, .int .i64 slew] ∧ SlI wx (some ⟨b, o, none⟩) T ∧ Box wx w.heap.size 26 #[.slice A T.length c, .int .i64 lo, .int .i64 hi, .int .i64 turn, .int .i64 slew] ∧ Below w.heap.size w wx)
          case first => as_aux_lemma =>
            (have z0 := hG.cell 0; have z1 := hG.cell 1; have z2 := hG.cell 2; have z3 := hG.cell 3; have z4 := hG.cell 4; simp at z0 z1 z2 z3 z4; have hlg := hG.lt)
            have hl0 := q0.lt
            go_wp2_with (first | (go_at_call 18; refine (CS.out _ _ _ (SlI.below hD (by focus ((repeat first | with_reducible exact Below.refl _ _ | (with_reducible refine Below.setCell ?_ ?_ _) | (with_reducible refine Below.alloc ?_ ?_ _) | (with_reducible refine below_drewN ?_ _) | (with_reducible refine Below.drew ?_)); all_goals (first | with_reducible exact Nat.le_refl _ | omega | (simp; done) | (simp; omega) | (omega) | ((try simp); omega)))))).mono ?_; rintro e w2 ⟨D2, d2, rfl, hD2, hb2⟩) | (go_at_call 20; refine (HP.out _ _ _ (SlI.below hD2 (by focus ((repeat first | with_reducible exact Below.refl _ _ | (with_reducible refine Below.setCell ?_ ?_ _) | (with_reducible refine Below.alloc ?_ ?_ _) | (with_reducible refine below_drewN ?_ _) | (with_reducible refine Below.drew ?_)); all_goals (first | with_reducible exact Nat.le_refl _ | omega | (simp; done) | (simp; omega) | (omega) | ((try simp); omega)))))).mono ?_; rintro e w3 ⟨rfl, hb3⟩) | fail)
            go_meet
            refine ⟨rfl, rfl, ?_, SlI.below hD (by focus ((repeat first | with_reducible exact Below.refl _ _ | (with_reducible refine Below.setCell ?_ ?_ _) | (with_reducible refine Below.alloc ?_ ?_ _) | (with_reducible refine below_drewN ?_ _) | (with_reducible refine Below.drew ?_) | (with_reducible refine Below.trans ?_ (Below.mono hb2 ?_)) | (with_reducible refine Below.trans ?_ (Below.mono hb3 ?_))); all_goals (first | with_reducible exact Nat.le_refl _ | omega | (simp; done) | (simp; omega) | (have := hb2.size; (try simp at this); have := hb3.size; (try simp at this); omega) | (have := hb2.size; (try simp at this); have := hb3.size; (try simp at this); (try simp); omega)))), ?_, ?_⟩
            all_goals first | (focus (apply Box.via; apply Exists.intro; apply And.intro; (repeat first | with_reducible assumption | with_reducible exact Box.new _ _ _ | ((with_reducible apply Box.newAt); focus (simp; done)) | (with_reducible apply Box.drew) | (with_reducible apply Box.drewN) | (with_reducible apply Box.set) | (with_reducible apply Box.alloc) | (with_reducible apply Box.far) | (with_reducible apply Box.below (hb := hb2)) | (with_reducible apply Box.below (hb := hb3))); all_goals (first | with_reducible exact Nat.le_refl _ | omega | (simp; done) | (simp; omega) | (have := hb2.size; (try simp at this); have := hb3.size; (try simp at this); omega) | (have := hb2.size; (try simp at this); have := hb3.size; (try simp at this); (try simp); omega)))) | (focus ((repeat first | with_reducible exact Below.refl _ _ | (with_reducible refine Below.setCell ?_ ?_ _) | (with_reducible refine Below.alloc ?_ ?_ _) | (with_reducible refine below_drewN ?_ _) | (with_reducible refine Below.drew ?_) | (with_reducible refine Below.trans ?_ (Below.mono hb2 ?_)) | (with_reducible refine Below.trans ?_ (Below.mono hb3 ?_)) | (with_reducible refine Below.trans ?_ (Below.mono hB ?_))); all_goals (first | with_reducible exact Nat.le_refl _ | omega | (simp; done) | (simp; omega) | (have := hb2.size; (try simp at this); have := hb3.size; (try simp at this); have := hB.size; (try simp at this); omega) | (have := hb2.size; (try simp at this); have := hb3.size; (try simp at this); have := hB.size; (try simp at this); (try simp); omega))))
          case rest =>
            obtain ⟨rfl, rfl, hG', hD', q0', hB'⟩ := hcut
            (clear hG hD q0 hB; have hG := hG'; have hD := hD'; have q0 := q0'; have hB := hB'; clear hG' hD' q0' hB'; generalize wc = W5 at *)
            clear HO HP
            cases seaM with
            | some t =>
              obtain ⟨s, hs, hlen⟩ := FS.out t rfl
              subst hs
              obtain rfl : hl = false := hhl.symm
              obtain rfl : hm = false := hhm.symm
              have BO := Lib.hid (show ∀ D d W, SlI W D T → Calls Try.prog 21 #[.agg #[.slice D T.length d, .int .i64 lo, .int .i64 hi, .int .i64 turn, .int .i64 slew]] W (fun e w' => ∃ v, e = .returned (.tuple #[v, .int .i64 0]) ∧ SeaV w' W.heap.size v (some s) ∧ Below W.heap.size W w') from BO.out)
              have BP := Lib.hid (show ∀ D d W, SlI W D T → Calls Try.prog 21 #[.agg #[.slice D T.length d, .int .i64 (-p0), .int .i64 p1, .int .i64 p2, .int .i64 slew]] W (fun e w' => ∃ v, e = .returned (.tuple #[v, .int .i64 0]) ∧ SeaV w' W.heap.size v (some t) ∧ Below W.heap.size W w') from BP.out)
              clear FS hhl hhm SUB
              have e1 : decide ((s.length : Int) ≤ (t.length : Int)) = true := decide_eq_true (by omega)
              go_upto_region 13 with fail
              go_cut [10, 11] (fun s10 s11 wx => ∃ gs caps, s10 = .slice (some ⟨gs, 0, none⟩) s.length caps ∧ s11 = .int .i64 0 ∧ Box wx g 26 #[.slice (some ⟨b, o, none⟩) T.length d, .int .i64 (-p0), .int .i64 p1, .int .i64 p2, .int .i64 slew] ∧ SlI wx (some ⟨b, o, none⟩) T ∧ Box wx w.heap.size 26 #[.slice A T.length c, .int .i64 lo, .int .i64 hi, .int .i64 turn, .int .i64 slew] ∧ Below w.heap.size w wx)
              case first => as_aux_lemma =>
                (have c00 : (W5).cell? ⟨w.heap.size, 0, none⟩ = some (.slice A T.length c) := q0.cell 0); (have c01 : (W5).cell? ⟨w.heap.size, 1, none⟩ = some (.int .i64 lo) := q0.cell 1); (have c02 : (W5).cell? ⟨w.heap.size, 2, none⟩ = some (.int .i64 hi) := q0.cell 2); (have c03 : (W5).cell? ⟨w.heap.size, 3, none⟩ = some (.int .i64 turn) := q0.cell 3); (have c04 : (W5).cell? ⟨w.heap.size, 4, none⟩ = some (.int .i64 slew) := q0.cell 4); (have hl0 := q0.lt)
                have hlg := hG.lt
                go_wp2_with (first | (go_at_call 18; refine (CL.out _ (SlI.below HS.out (by focus ((repeat first | with_reducible exact Below.refl _ _ | (with_reducible refine Below.setCell ?_ ?_ _) | (with_reducible refine Below.alloc ?_ ?_ _) | (with_reducible refine below_drewN ?_ _) | (with_reducible refine Below.drew ?_) | (with_reducible refine Below.trans ?_ (Below.mono hB ?_))); all_goals (first | with_reducible exact Nat.le_refl _ | omega | (simp; done) | (simp; omega) | (have := hB.size; (try simp at this); omega) | (have := hB.size; (try simp at this); (try simp); omega)))))).mono ?_; rintro e w2 ⟨D2, d2, rfl, hD2, hb2⟩) | (go_at_call 21; refine (BO.out _ _ _ (SlI.below hD2 (by focus ((repeat first | with_reducible exact Below.refl _ _ | (with_reducible refine Below.setCell ?_ ?_ _) | (with_reducible refine Below.alloc ?_ ?_ _) | (with_reducible refine below_drewN ?_ _) | (with_reducible refine Below.drew ?_)); all_goals (first | with_reducible exact Nat.le_refl _ | omega | (simp; done) | (simp; omega) | (omega) | ((try simp); omega)))))).mono ?_; rintro e w3 ⟨_, rfl, ⟨⟨gs, caps, rfl⟩, _⟩, hb3⟩) | fail)
                go_meet
                refine ⟨_, _, rfl, rfl, ?_, SlI.below hD (by focus ((repeat first | with_reducible exact Below.refl _ _ | (with_reducible refine Below.setCell ?_ ?_ _) | (with_reducible refine Below.alloc ?_ ?_ _) | (with_reducible refine below_drewN ?_ _) | (with_reducible refine Below.drew ?_) | (with_reducible refine Below.trans ?_ (Below.mono hb2 ?_)) | (with_reducible refine Below.trans ?_ (Below.mono hb3 ?_))); all_goals (first | with_reducible exact Nat.le_refl _ | omega | (simp; done) | (simp; omega) | (have := hb2.size; (try simp at this); have := hb3.size; (try simp at this); omega) | (have := hb2.size; (try simp at this); have := hb3.size; (try simp at this); (try simp); omega)))), ?_, ?_⟩
                all_goals first | (focus (apply Box.via; apply Exists.intro; apply And.intro; (repeat first | with_reducible assumption | with_reducible exact Box.new _ _ _ | ((with_reducible apply Box.newAt); focus (simp; done)) | (with_reducible apply Box.drew) | (with_reducible apply Box.drewN) | (with_reducible apply Box.set) | (with_reducible apply Box.alloc) | (with_reducible apply Box.far) | (with_reducible apply Box.below (hb := hb2)) | (with_reducible apply Box.below (hb := hb3))); all_goals (first | with_reducible exact Nat.le_refl _ | omega | (simp; done) | (simp; omega) | (have := hb2.size; (try simp at this); have := hb3.size; (try simp at this); omega) | (have := hb2.size; (try simp at this); have := hb3.size; (try simp at this); (try simp); omega)))) | (focus ((repeat first | with_reducible exact Below.refl _ _ | (with_reducible refine Below.setCell ?_ ?_ _) | (with_reducible refine Below.alloc ?_ ?_ _) | (with_reducible refine below_drewN ?_ _) | (with_reducible refine Below.drew ?_) | (with_reducible refine Below.trans ?_ (Below.mono hb2 ?_)) | (with_reducible refine Below.trans ?_ (Below.mono hb3 ?_)) | (with_reducible refine Below.trans ?_ (Below.mono hB ?_))); all_goals (first | with_reducible exact Nat.le_refl _ | omega | (simp; done) | (simp; omega) | (have := hb2.size; (try simp at this); have := hb3.size; (try simp at this); have := hB.size; (try simp at this); omega) | (have := hb2.size; (try simp at this); have := hb3.size; (try simp at this); have := hB.size; (try simp at this); (try simp); omega))))
              case rest =>
                obtain ⟨gs, caps, rfl, rfl, hG', hD', q0', hB'⟩ := hcut
                (clear hG hD q0 hB; have hG := hG'; have hD := hD'; have q0 := q0'; have hB := hB'; clear hG' hD' q0' hB'; generalize wc = W5 at *)
                (have z0 := hG.cell 0; have z1 := hG.cell 1; have z2 := hG.cell 2; have z3 := hG.cell 3; have z4 := hG.cell 4; simp at z0 z1 z2 z3 z4; have hlg := hG.lt)
                have hl0 := q0.lt
                go_wp2_with (first | (go_at_call 21; refine (BP.out _ _ _ (SlI.below hD (by focus ((repeat first | with_reducible exact Below.refl _ _ | (with_reducible refine Below.setCell ?_ ?_ _) | (with_reducible refine Below.alloc ?_ ?_ _) | (with_reducible refine below_drewN ?_ _) | (with_reducible refine Below.drew ?_)); all_goals (first | with_reducible exact Nat.le_refl _ | omega | (simp; done) | (simp; omega) | (omega) | ((try simp); omega)))))).mono ?_; rintro e w3 ⟨_, rfl, ⟨⟨gt, capt, rfl⟩, _⟩, hb3⟩) | fail)
                go_ret
                exact ⟨rfl, by focus ((repeat first | with_reducible exact Below.refl _ _ | (with_reducible refine Below.setCell ?_ ?_ _) | (with_reducible refine Below.alloc ?_ ?_ _) | (with_reducible refine below_drewN ?_ _) | (with_reducible refine Below.drew ?_) | (with_reducible refine Below.trans ?_ (Below.mono hb3 ?_)) | (with_reducible refine Below.trans ?_ (Below.mono hB ?_))); all_goals (first | with_reducible exact Nat.le_refl _ | omega | (simp; done) | (simp; omega) | (have := hb3.size; (try simp at this); have := hB.size; (try simp at this); omega) | (have := hb3.size; (try simp at this); have := hB.size; (try simp at this); (try simp); omega)))⟩
            | none =>
              obtain rfl : hm = true := hhm.symm
              clear FS hhl hhm BO BP
              go_upto_region 10 with fail
              go_cut [80] (fun s80 wx => s80 = .bool false ∧ Box wx g 26 #[.slice (some ⟨b, o, none⟩) T.length d, .int .i64 (-p0), .int .i64 p1, .int .i64 p2, .int .i64 slew] ∧ SlI wx (some ⟨b, o, none⟩) T ∧ Box wx w.heap.size 26 #[.slice A T.length c, .int .i64 lo, .int .i64 hi, .int .i64 turn, .int .i64 slew] ∧ Below w.heap.size w wx)
              case first => as_aux_lemma =>
                cases hl
                all_goals
                  go_wp2_with fail
                  go_meet
                  exact ⟨rfl, hG, hD, q0, hB⟩
              case rest =>
                obtain ⟨rfl, hG', hD', q0', hB'⟩ := hcut
                (clear hG hD q0 hB; have hG := hG'; have hD := hD'; have q0 := q0'; have hB := hB'; clear hG' hD' q0' hB'; generalize wc = W5 at *)
                go_upto_region 16 with fail
                go_cut [14, 15] (fun s14 s15 wx => ∃ g1 cap1, s14 = .slice (some ⟨g1, 0, none⟩) SL.length cap1 ∧ s15 = .int .i64 0 ∧ SlV wx (some ⟨g1, 0, none⟩) (SL.flatMap st3V) ∧ Box wx g 26 #[.slice (some ⟨b, o, none⟩) T.length d, .int .i64 (-p0), .int .i64 p1, .int .i64 p2, .int .i64 slew] ∧ SlI wx (some ⟨b, o, none⟩) T ∧ Box wx w.heap.size 26 #[.slice A T.length c, .int .i64 lo, .int .i64 hi, .int .i64 turn, .int .i64 slew] ∧ Below w.heap.size w wx)
                case first => as_aux_lemma =>
                  (have c00 : (W5).cell? ⟨w.heap.size, 0, none⟩ = some (.slice A T.length c) := q0.cell 0); (have c01 : (W5).cell? ⟨w.heap.size, 1, none⟩ = some (.int .i64 lo) := q0.cell 1); (have c02 : (W5).cell? ⟨w.heap.size, 2, none⟩ = some (.int .i64 hi) := q0.cell 2); (have c03 : (W5).cell? ⟨w.heap.size, 3, none⟩ = some (.int .i64 turn) := q0.cell 3); (have c04 : (W5).cell? ⟨w.heap.size, 4, none⟩ = some (.int .i64 slew) := q0.cell 4); (have hl0 := q0.lt)
                  have hlg := hG.lt
                  go_wp2_with (first | (go_at_call 18; refine (CL.out _ (SlI.below HS.out (by focus ((repeat first | with_reducible exact Below.refl _ _ | (with_reducible refine Below.setCell ?_ ?_ _) | (with_reducible refine Below.alloc ?_ ?_ _) | (with_reducible refine below_drewN ?_ _) | (with_reducible refine Below.drew ?_) | (with_reducible refine Below.trans ?_ (Below.mono hB ?_))); all_goals (first | with_reducible exact Nat.le_refl _ | omega | (simp; done) | (simp; omega) | (have := hB.size; (try simp at this); omega) | (have := hB.size; (try simp at this); (try simp); omega)))))).mono ?_; rintro e w2 ⟨D2, d2, rfl, hD2, hb2⟩) | (go_at_call 22; refine (RO.out _ _ _ (SlI.below hD2 (by focus ((repeat first | with_reducible exact Below.refl _ _ | (with_reducible refine Below.setCell ?_ ?_ _) | (with_reducible refine Below.alloc ?_ ?_ _) | (with_reducible refine below_drewN ?_ _) | (with_reducible refine Below.drew ?_)); all_goals (first | with_reducible exact Nat.le_refl _ | omega | (simp; done) | (simp; omega) | (omega) | ((try simp); omega)))))).mono ?_; rintro e w3 ⟨g1, cap1, rfl, hS1, hb3⟩) | fail)
                  go_meet
                  refine ⟨_, _, rfl, rfl, hS1, ?_, SlI.below hD (by focus ((repeat first | with_reducible exact Below.refl _ _ | (with_reducible refine Below.setCell ?_ ?_ _) | (with_reducible refine Below.alloc ?_ ?_ _) | (with_reducible refine below_drewN ?_ _) | (with_reducible refine Below.drew ?_) | (with_reducible refine Below.trans ?_ (Below.mono hb2 ?_)) | (with_reducible refine Below.trans ?_ (Below.mono hb3 ?_))); all_goals (first | with_reducible exact Nat.le_refl _ | omega | (simp; done) | (simp; omega) | (have := hb2.size; (try simp at this); have := hb3.size; (try simp at this); omega) | (have := hb2.size; (try simp at this); have := hb3.size; (try simp at this); (try simp); omega)))), ?_, ?_⟩
                  all_goals first | (focus (apply Box.via; apply Exists.intro; apply And.intro; (repeat first | with_reducible assumption | with_reducible exact Box.new _ _ _ | ((with_reducible apply Box.newAt); focus (simp; done)) | (with_reducible apply Box.drew) | (with_reducible apply Box.drewN) | (with_reducible apply Box.set) | (with_reducible apply Box.alloc) | (with_reducible apply Box.far) | (with_reducible apply Box.below (hb := hb2)) | (with_reducible apply Box.below (hb := hb3))); all_goals (first | with_reducible exact Nat.le_refl _ | omega | (simp; done) | (simp; omega) | (have := hb2.size; (try simp at this); have := hb3.size; (try simp at this); omega) | (have := hb2.size; (try simp at this); have := hb3.size; (try simp at this); (try simp); omega)))) | (focus ((repeat first | with_reducible exact Below.refl _ _ | (with_reducible refine Below.setCell ?_ ?_ _) | (with_reducible refine Below.alloc ?_ ?_ _) | (with_reducible refine below_drewN ?_ _) | (with_reducible refine Below.drew ?_) | (with_reducible refine Below.trans ?_ (Below.mono hb2 ?_)) | (with_reducible refine Below.trans ?_ (Below.mono hb3 ?_)) | (with_reducible refine Below.trans ?_ (Below.mono hB ?_))); all_goals (first | with_reducible exact Nat.le_refl _ | omega | (simp; done) | (simp; omega) | (have := hb2.size; (try simp at this); have := hb3.size; (try simp at this); have := hB.size; (try simp at this); omega) | (have := hb2.size; (try simp at this); have := hb3.size; (try simp at this); have := hB.size; (try simp at this); (try simp); omega))))
                case rest =>
                  obtain ⟨g1, cap1, rfl, rfl, hS1, hG', hD', q0', hB'⟩ := hcut
                  (clear hG hD q0 hB; have hG := hG'; have hD := hD'; have q0 := q0'; have hB := hB'; clear hG' hD' q0' hB'; generalize wc = W5 at *)
                  go_upto_region 17 with fail
                  go_cut [16, 17] (fun s16 s17 wx => ∃ g2 cap2, s16 = .slice (some ⟨g2, 0, none⟩) TL.length cap2 ∧ s17 = .int .i64 0 ∧ SlV wx (some ⟨g1, 0, none⟩) (SL.flatMap st3V) ∧ SlV wx (some ⟨g2, 0, none⟩) (TL.flatMap st3V) ∧ Below w.heap.size w wx)
                  case first => as_aux_lemma =>
                    (have z0 := hG.cell 0; have z1 := hG.cell 1; have z2 := hG.cell 2; have z3 := hG.cell 3; have z4 := hG.cell 4; simp at z0 z1 z2 z3 z4; have hlg := hG.lt)
                    have hl0 := q0.lt
                    go_wp2_with (first | (go_at_call 22; refine (RP.out _ _ _ (SlI.below hD (by focus ((repeat first | with_reducible exact Below.refl _ _ | (with_reducible refine Below.setCell ?_ ?_ _) | (with_reducible refine Below.alloc ?_ ?_ _) | (with_reducible refine below_drewN ?_ _) | (with_reducible refine Below.drew ?_)); all_goals (first | with_reducible exact Nat.le_refl _ | omega | (simp; done) | (simp; omega) | (omega) | ((try simp); omega)))))).mono ?_; rintro e w3 ⟨g2, cap2, rfl, hS2, hb3⟩) | fail)
                    go_meet
                    refine ⟨_, _, rfl, rfl, SlV.below hS1 (by focus ((repeat first | with_reducible exact Below.refl _ _ | (with_reducible refine Below.setCell ?_ ?_ _) | (with_reducible refine Below.alloc ?_ ?_ _) | (with_reducible refine below_drewN ?_ _) | (with_reducible refine Below.drew ?_) | (with_reducible refine Below.trans ?_ (Below.mono hb3 ?_))); all_goals (first | with_reducible exact Nat.le_refl _ | omega | (simp; done) | (simp; omega) | (have := hb3.size; (try simp at this); omega) | (have := hb3.size; (try simp at this); (try simp); omega)))), hS2, ?_⟩
                    all_goals first | (focus (apply Box.via; apply Exists.intro; apply And.intro; (repeat first | with_reducible assumption | with_reducible exact Box.new _ _ _ | ((with_reducible apply Box.newAt); focus (simp; done)) | (with_reducible apply Box.drew) | (with_reducible apply Box.drewN) | (with_reducible apply Box.set) | (with_reducible apply Box.alloc) | (with_reducible apply Box.far) | (with_reducible apply Box.below (hb := hb3))); all_goals (first | with_reducible exact Nat.le_refl _ | omega | (simp; done) | (simp; omega) | (have := hb3.size; (try simp at this); omega) | (have := hb3.size; (try simp at this); (try simp); omega)))) | (focus ((repeat first | with_reducible exact Below.refl _ _ | (with_reducible refine Below.setCell ?_ ?_ _) | (with_reducible refine Below.alloc ?_ ?_ _) | (with_reducible refine below_drewN ?_ _) | (with_reducible refine Below.drew ?_) | (with_reducible refine Below.trans ?_ (Below.mono hb3 ?_)) | (with_reducible refine Below.trans ?_ (Below.mono hB ?_))); all_goals (first | with_reducible exact Nat.le_refl _ | omega | (simp; done) | (simp; omega) | (have := hb3.size; (try simp at this); have := hB.size; (try simp at this); omega) | (have := hb3.size; (try simp at this); have := hB.size; (try simp at this); (try simp); omega))))
                  case rest =>
                    obtain ⟨g2, cap2, rfl, rfl, hS1', hS2, hB'⟩ := hcut
                    clear hS1 hG hD q0 hB
                    have hB := hB'; have hS1 := Lib.hid hS1'; have hS2 := Lib.hid hS2
                    clear hB' hS1'
                    generalize wc = W5 at *
                    go_wp2_with fail
                    go_loopw [18, 19] (fun kv iv wr => ∃ k i : Nat, k ≤ SL.length ∧ i ≤ TL.length ∧ kv = .int .i64 k ∧ iv = .int .i64 i ∧ Hid ((TL.drop i).Sublist (SL.drop k)) ∧ Below W5.heap.size W5 wr) (fun _ iv _ => TL.length - (intOf iv).toNat)
                    case atStart => exact ⟨0, 0, Nat.zero_le _, Nat.zero_le _, rfl, rfl, by unfold Hid; simpa using SUB.out, Below.refl _ _⟩
                    case round => as_aux_lemma =>
                      obtain ⟨k, i, hk, hi', rfl, rfl, hf, hBr⟩ := hrel
                      by_cases hlt : i < TL.length
                      · have hlt' : (i : Int) < (TL.length : Int) := by omega
                        go_wp2_with fail
                        go_loopw [18] (fun kv wr => ∃ k : Nat, k ≤ SL.length ∧ kv = .int .i64 k ∧ Hid ((TL.drop i).Sublist (SL.drop k)) ∧ Below W5.heap.size W5 wr) (fun kv _ => SL.length - (intOf kv).toNat)
                        case atStart => exact ⟨k, hk, rfl, hf, hBr⟩
                        case round =>
                          clear hf hBr hk
                          obtain ⟨k, hk, rfl, hf, hBr⟩ := hrel
                          have hks : k < SL.length := by
                            rcases Nat.lt_or_ge k SL.length with h | h
                            · exact h
                            · have h2 := hf.out
                              rw [List.drop_eq_nil_of_le h, List.sublist_nil] at h2
                              have h3 := congrArg List.length h2
                              simp at h3
                              omega
                          obtain ⟨b1, o1, eb1, hbb, a0, a1, a2⟩ := ev_cells (SlV.below hS1.out hBr) (List.getElem?_eq_getElem hks)
                          obtain ⟨b2, o2, eb2, hbc, f0, f1, f2⟩ := ev_cells (SlV.below hS2.out hBr) (List.getElem?_eq_getElem hlt)
                          cases eb1; cases eb2
                          have D1 := Lib.hid (List.drop_eq_getElem_cons (l := SL) hks)
                          have D2 := Lib.hid (List.drop_eq_getElem_cons (l := TL) hlt)
                          generalize hx : SL[k] = x at *
                          generalize hy : TL[i] = y at *
                          clear hx hy
                          have hks' : (k : Int) < (SL.length : Int) := by omega
                          have hke : ((k : Int) == (SL.length : Int)) = false := beqF (by omega)
                          obtain ⟨x1, x2, x3⟩ := x
                          obtain ⟨y1, y2, y3⟩ := y
                          dsimp only at a0 a1 a2 f0 f1 f2
                          simp only [Nat.zero_add] at a0 a1 a2 f0 f1 f2
                          by_cases hxy : x1 = y1 ∧ x2 = y2 ∧ x3 = y3
                          · have h1 : same3 x1 x2 x3 y1 y2 y3 = true := same3_t.2 hxy
                            clear hxy
                            go_wp2_with fail
                            go_quiet (fail)
                            go_wp2_with fail
                            go_roundw
                            case rel => exact ⟨k, i + 1, hk, by omega, rfl, by go_num, by unfold Hid; have h2 := hf.out; rw [D2.out] at h2; exact (List.sublist_cons_self _ _).trans h2, below_drewN hBr _⟩
                            case measure => simp [intOf]; omega
                          · have h1 : same3 x1 x2 x3 y1 y2 y3 = false := same3_f.2 hxy
                            have HXY := Lib.hid hxy
                            clear hxy
                            go_wp2_with fail
                            go_quiet (fail)
                            go_wp2_with fail
                            go_roundw
                            case rel =>
                              refine ⟨k + 1, by omega, by go_num, ?_, below_drewN hBr _⟩
                              unfold Hid
                              have h2 := hf.out
                              rw [D1.out, D2.out] at h2
                              rw [D2.out]
                              cases h2 with
                              | cons _ h3 => exact h3
                              | cons_cons _ _ => exact absurd ⟨rfl, rfl, rfl⟩ HXY.out
                            case measure => simp [intOf]; omega
                      · have hlt' : ¬ (i : Int) < (TL.length : Int) := by omega
                        go_wp2_with fail
                        go_ret
                        exact ⟨rfl, by focus ((repeat first | with_reducible exact Below.refl _ _ | (with_reducible refine Below.setCell ?_ ?_ _) | (with_reducible refine Below.alloc ?_ ?_ _) | (with_reducible refine below_drewN ?_ _) | (with_reducible refine Below.drew ?_) | (with_reducible refine Below.trans ?_ (Below.mono hBr ?_)) | (with_reducible refine Below.trans ?_ (Below.mono hB ?_))); all_goals (first | with_reducible exact Nat.le_refl _ | omega | (simp; done) | (simp; omega) | (have := hBr.size; (try simp at this); have := hB.size; (try simp at this); omega) | (have := hBr.size; (try simp at this); have := hB.size; (try simp at this); (try simp); omega)))⟩

set_option maxHeartbeats 1000000 in
theorem winchSmaller_early (T : List Int) (A : Option Addr) (c : Nat) (lo hi turn slew x0 x1 x2 : Int) (w : World) (hn : T.length ≤ 9223372036854775807) (hT : SlI w A T) (h : 13 < T.length ∨ (chkL T lo hi turn slew).2 ≠ 0) :
    Calls Try.prog 3 #[.agg #[.slice A T.length c, .int .i64 lo, .int .i64 hi, .int .i64 turn, .int .i64 slew], .agg #[.int .i64 x0, .int .i64 x1, .int .i64 x2]] w fun e w' => e = .returned (.bool true) ∧ Below w.heap.size w w' := by
  by_cases h1 : 13 < T.length
  · have d1 : decide ((T.length : Int) ≤ 13) = false := decide_eq_false (by omega)
    go_enter Try.func3, Try.ntmps3
    go_wp2_with (first | (go_at_call 15; refine (awake_c _).mono ?_; rintro e w1 ⟨rfl, hb1⟩; (have q0 : Box w1 w.heap.size 26 #[.slice A T.length c, .int .i64 lo, .int .i64 hi, .int .i64 turn, .int .i64 slew] := (by focus (apply Box.via; apply Exists.intro; apply And.intro; (repeat first | with_reducible assumption | with_reducible exact Box.new _ _ _ | ((with_reducible apply Box.newAt); focus (simp; done)) | (with_reducible apply Box.drew) | (with_reducible apply Box.drewN) | (with_reducible apply Box.set) | (with_reducible apply Box.alloc) | (with_reducible apply Box.far) | (with_reducible apply Box.below (hb := hb1))); all_goals (first | with_reducible exact Nat.le_refl _ | omega | (simp; done) | (simp; omega) | (have := hb1.size; (try simp at this); omega) | (have := hb1.size; (try simp at this); (try simp); omega))))); (have q1 : Box w1 (w.heap.size + 1) 27 #[.int .i64 x0, .int .i64 x1, .int .i64 x2] := (by focus (apply Box.via; apply Exists.intro; apply And.intro; (repeat first | with_reducible assumption | with_reducible exact Box.new _ _ _ | ((with_reducible apply Box.newAt); focus (simp; done)) | (with_reducible apply Box.drew) | (with_reducible apply Box.drewN) | (with_reducible apply Box.set) | (with_reducible apply Box.alloc) | (with_reducible apply Box.far) | (with_reducible apply Box.below (hb := hb1))); all_goals (first | with_reducible exact Nat.le_refl _ | omega | (simp; done) | (simp; omega) | (have := hb1.size; (try simp at this); omega) | (have := hb1.size; (try simp at this); (try simp); omega))))); (have c00 : (w1).cell? ⟨w.heap.size, 0, none⟩ = some (.slice A T.length c) := q0.cell 0); (have c01 : (w1).cell? ⟨w.heap.size, 1, none⟩ = some (.int .i64 lo) := q0.cell 1); (have c02 : (w1).cell? ⟨w.heap.size, 2, none⟩ = some (.int .i64 hi) := q0.cell 2); (have c03 : (w1).cell? ⟨w.heap.size, 3, none⟩ = some (.int .i64 turn) := q0.cell 3); (have c04 : (w1).cell? ⟨w.heap.size, 4, none⟩ = some (.int .i64 slew) := q0.cell 4); (have hl0 := q0.lt); (have hl1 := q1.lt)) | (go_at_call 16; refine (few_c T A c lo hi turn slew _).mono ?_; rintro e w2 ⟨rfl, hb2⟩) | fail)
    go_ret
    exact ⟨rfl, by focus ((repeat first | with_reducible exact Below.refl _ _ | (with_reducible refine Below.setCell ?_ ?_ _) | (with_reducible refine Below.alloc ?_ ?_ _) | (with_reducible refine below_drewN ?_ _) | (with_reducible refine Below.drew ?_) | (with_reducible refine Below.trans ?_ (Below.mono hb2 ?_)) | (with_reducible refine Below.trans ?_ (Below.mono hb1 ?_))); all_goals (first | with_reducible exact Nat.le_refl _ | omega | (simp; done) | (simp; omega) | (have := hb2.size; (try simp at this); have := hb1.size; (try simp at this); omega) | (have := hb2.size; (try simp at this); have := hb1.size; (try simp at this); (try simp); omega)))⟩
  · have HS := Lib.hid hT
    have LE := Lib.hid (fun W h => refLoopErr_c T A c lo hi turn slew W (by omega) h)
    have d1 : decide ((T.length : Int) ≤ 13) = true := decide_eq_true (by omega)
    have h2 := h.resolve_left h1
    have e0 : ((chkL T lo hi turn slew).2 != 0) = true := bneT h2
    clear h h2 hT
    generalize chkL T lo hi turn slew = CC at *
    obtain ⟨ci, ce⟩ := CC
    dsimp only at LE e0
    go_enter Try.func3, Try.ntmps3
    go_wp2_with (first | (go_at_call 15; refine (awake_c _).mono ?_; rintro e w1 ⟨rfl, hb1⟩; (have q0 : Box w1 w.heap.size 26 #[.slice A T.length c, .int .i64 lo, .int .i64 hi, .int .i64 turn, .int .i64 slew] := (by focus (apply Box.via; apply Exists.intro; apply And.intro; (repeat first | with_reducible assumption | with_reducible exact Box.new _ _ _ | ((with_reducible apply Box.newAt); focus (simp; done)) | (with_reducible apply Box.drew) | (with_reducible apply Box.drewN) | (with_reducible apply Box.set) | (with_reducible apply Box.alloc) | (with_reducible apply Box.far) | (with_reducible apply Box.below (hb := hb1))); all_goals (first | with_reducible exact Nat.le_refl _ | omega | (simp; done) | (simp; omega) | (have := hb1.size; (try simp at this); omega) | (have := hb1.size; (try simp at this); (try simp); omega))))); (have q1 : Box w1 (w.heap.size + 1) 27 #[.int .i64 x0, .int .i64 x1, .int .i64 x2] := (by focus (apply Box.via; apply Exists.intro; apply And.intro; (repeat first | with_reducible assumption | with_reducible exact Box.new _ _ _ | ((with_reducible apply Box.newAt); focus (simp; done)) | (with_reducible apply Box.drew) | (with_reducible apply Box.drewN) | (with_reducible apply Box.set) | (with_reducible apply Box.alloc) | (with_reducible apply Box.far) | (with_reducible apply Box.below (hb := hb1))); all_goals (first | with_reducible exact Nat.le_refl _ | omega | (simp; done) | (simp; omega) | (have := hb1.size; (try simp at this); omega) | (have := hb1.size; (try simp at this); (try simp); omega))))); (have c00 : (w1).cell? ⟨w.heap.size, 0, none⟩ = some (.slice A T.length c) := q0.cell 0); (have c01 : (w1).cell? ⟨w.heap.size, 1, none⟩ = some (.int .i64 lo) := q0.cell 1); (have c02 : (w1).cell? ⟨w.heap.size, 2, none⟩ = some (.int .i64 hi) := q0.cell 2); (have c03 : (w1).cell? ⟨w.heap.size, 3, none⟩ = some (.int .i64 turn) := q0.cell 3); (have c04 : (w1).cell? ⟨w.heap.size, 4, none⟩ = some (.int .i64 slew) := q0.cell 4); (have hl0 := q0.lt); (have hl1 := q1.lt)) | (go_at_call 16; refine (few_c T A c lo hi turn slew _).mono ?_; rintro e w2 ⟨rfl, hb2⟩; (have q0 : Box w2 w.heap.size 26 #[.slice A T.length c, .int .i64 lo, .int .i64 hi, .int .i64 turn, .int .i64 slew] := (by focus (apply Box.via; apply Exists.intro; apply And.intro; (repeat first | with_reducible assumption | with_reducible exact Box.new _ _ _ | ((with_reducible apply Box.newAt); focus (simp; done)) | (with_reducible apply Box.drew) | (with_reducible apply Box.drewN) | (with_reducible apply Box.set) | (with_reducible apply Box.alloc) | (with_reducible apply Box.far) | (with_reducible apply Box.below (hb := hb2))); all_goals (first | with_reducible exact Nat.le_refl _ | omega | (simp; done) | (simp; omega) | (have := hb2.size; (try simp at this); omega) | (have := hb2.size; (try simp at this); (try simp); omega))))); (have q1 : Box w2 (w.heap.size + 1) 27 #[.int .i64 x0, .int .i64 x1, .int .i64 x2] := (by focus (apply Box.via; apply Exists.intro; apply And.intro; (repeat first | with_reducible assumption | with_reducible exact Box.new _ _ _ | ((with_reducible apply Box.newAt); focus (simp; done)) | (with_reducible apply Box.drew) | (with_reducible apply Box.drewN) | (with_reducible apply Box.set) | (with_reducible apply Box.alloc) | (with_reducible apply Box.far) | (with_reducible apply Box.below (hb := hb2))); all_goals (first | with_reducible exact Nat.le_refl _ | omega | (simp; done) | (simp; omega) | (have := hb2.size; (try simp at this); omega) | (have := hb2.size; (try simp at this); (try simp); omega))))); (have c00 : (w2).cell? ⟨w.heap.size, 0, none⟩ = some (.slice A T.length c) := q0.cell 0); (have c01 : (w2).cell? ⟨w.heap.size, 1, none⟩ = some (.int .i64 lo) := q0.cell 1); (have c02 : (w2).cell? ⟨w.heap.size, 2, none⟩ = some (.int .i64 hi) := q0.cell 2); (have c03 : (w2).cell? ⟨w.heap.size, 3, none⟩ = some (.int .i64 turn) := q0.cell 3); (have c04 : (w2).cell? ⟨w.heap.size, 4, none⟩ = some (.int .i64 slew) := q0.cell 4); (have hl0 := q0.lt); (have hl1 := q1.lt)) | (go_at_call 17; refine (LE.out _ (SlI.below HS.out (by focus ((repeat first | with_reducible exact Below.refl _ _ | (with_reducible refine Below.setCell ?_ ?_ _) | (with_reducible refine Below.alloc ?_ ?_ _) | (with_reducible refine below_drewN ?_ _) | (with_reducible refine Below.drew ?_) | (with_reducible refine Below.trans ?_ (Below.mono hb2 ?_)) | (with_reducible refine Below.trans ?_ (Below.mono hb1 ?_))); all_goals (first | with_reducible exact Nat.le_refl _ | omega | (simp; done) | (simp; omega) | (have := hb2.size; (try simp at this); have := hb1.size; (try simp at this); omega) | (have := hb2.size; (try simp at this); have := hb1.size; (try simp at this); (try simp); omega)))))).mono ?_; rintro e w3 ⟨rfl, hb3⟩) | fail)
    go_ret
    exact ⟨rfl, by focus ((repeat first | with_reducible exact Below.refl _ _ | (with_reducible refine Below.setCell ?_ ?_ _) | (with_reducible refine Below.alloc ?_ ?_ _) | (with_reducible refine below_drewN ?_ _) | (with_reducible refine Below.drew ?_) | (with_reducible refine Below.trans ?_ (Below.mono hb3 ?_)) | (with_reducible refine Below.trans ?_ (Below.mono hb2 ?_)) | (with_reducible refine Below.trans ?_ (Below.mono hb1 ?_))); all_goals (first | with_reducible exact Nat.le_refl _ | omega | (simp; done) | (simp; omega) | (have := hb3.size; (try simp at this); have := hb2.size; (try simp at this); have := hb1.size; (try simp at this); omega) | (have := hb3.size; (try simp at this); have := hb2.size; (try simp at this); have := hb1.size; (try simp at this); (try simp); omega)))⟩

theorem winchSmaller_l (T : List Int) (A : Option Addr) (c : Nat) (lo hi turn slew x0 x1 x2 : Int) (w : World) (hn : T.length ≤ 9223372036854775807) (hT : SlI w A T) (hx : ∀ x ∈ [x0, x1, x2], -9223372036854775808 ≤ x ∧ x ≤ 9223372036854775807) :
    Calls Try.prog 3 #[.agg #[.slice A T.length c, .int .i64 lo, .int .i64 hi, .int .i64 turn, .int .i64 slew], .agg #[.int .i64 x0, .int .i64 x1, .int .i64 x2]] w fun e w' => e = .returned (.bool true) ∧ Below w.heap.size w w' := by
  by_cases h1 : 13 < T.length
  · exact winchSmaller_early T A c lo hi turn slew x0 x1 x2 w hn hT (.inl h1)
  · by_cases h2 : (chkL T lo hi turn slew).2 = 0
    · exact winchSmaller_in T A c lo hi turn slew x0 x1 x2 w h2 hT hx
    · exact winchSmaller_early T A c lo hi turn slew x0 x1 x2 w hn hT (.inr h2)

end Go.Proofs.Ytgbckdmhmkpahaa

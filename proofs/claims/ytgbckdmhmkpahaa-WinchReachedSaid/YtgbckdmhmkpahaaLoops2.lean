/-
  The walks of openLoop, Holds, BrokenBy, order (chapter 2).
-/
import Derived.Test.YtgbckdmhmkpahaaLoops
import Derived.Test.YtgbckdmhmkpahaaReachD
import Derived.Test.YtgbckdmhmkpahaaPred2
set_option linter.unusedVariables false
namespace Go.Proofs.Ytgbckdmhmkpahaa
open Go.RowKit Go.Shelf
attribute [local go_sem] run_eqlNil run_neqNil

theorem loop_size : (Try.prog.info? 139).map (·.size) = some 5 := by kernel_rfl

set_option maxHeartbeats 2000000 in
theorem openLoop_c (T : List Int) (A : Option Addr) (c : Nat) (lo hi turn slew : Int) (w : World) (hn : T.length ≤ 1000) (hs : SlI w A T) :
    Calls Try.prog 79 #[.agg #[.slice A T.length c, .int .i64 lo, .int .i64 hi, .int .i64 turn, .int .i64 slew]] w fun e w' => e = .returned (.tuple #[.agg #[.slice A T.length c, .int .i64 lo, .int .i64 hi, .int .i64 turn, .int .i64 slew], .int .i64 (chkL T lo hi turn slew).2]) ∧ Below w.heap.size w w' := by
  have C := Lib.hid (fun W h => checkLoop_c T A c lo hi turn slew W hn h)
  have HS := Lib.hid ((hs.alloc (.cells #[.slice A T.length c, .int .i64 lo, .int .i64 hi, .int .i64 turn, .int .i64 slew] 26)).alloc (.cells #[.slice none 0 0, .int .i64 0, .int .i64 0, .int .i64 0, .int .i64 0] 139))
  clear hs
  generalize chkL T lo hi turn slew = CL at *
  go_enter Try.func79, Try.ntmps79
  go_wp2_with (go_at_call 48; refine (C.out _ HS.out).mono ?_; rintro e w1 ⟨rfl, hb1⟩; obtain ⟨hc1, hf1⟩ := bcell hb1; have hz1 : w.heap.size + 1 < w1.heap.size := (by have := hb1.size; (try simp at this); omega); have hz2 : w.heap.size < w1.heap.size := by omega)
  refine bodyPost_ret (res_c2 rfl rfl (show Box _ _ 139 #[.slice A T.length c, .int .i64 lo, .int .i64 hi, .int .i64 turn, .int .i64 slew] from ?hE) Try.underlying139 rfl loop_size) rfl ⟨rfl, ?hB⟩
  case hE => focus (apply Box.via; apply Exists.intro; apply And.intro; (repeat first | with_reducible assumption | with_reducible exact Box.new _ _ _ | ((with_reducible apply Box.newAt); focus (simp; done)) | (with_reducible apply Box.drew) | (with_reducible apply Box.drewN) | (with_reducible apply Box.set) | (with_reducible apply Box.alloc) | (with_reducible apply Box.far) | (with_reducible apply Box.below (hb := hb1))); all_goals (first | with_reducible exact Nat.le_refl _ | omega | (simp; done) | (simp; omega) | (have := hb1.size; (try simp at this); omega) | (have := hb1.size; (try simp at this); (try simp); omega)))
  case hB => focus ((repeat first | with_reducible exact Below.refl _ _ | (with_reducible refine Below.setCell ?_ ?_ _) | (with_reducible refine Below.alloc ?_ ?_ _) | (with_reducible refine below_drewN ?_ _) | (with_reducible refine Below.drew ?_) | (with_reducible refine Below.trans ?_ (Below.mono hb1 ?_))); all_goals (first | with_reducible exact Nat.le_refl _ | omega | (simp; done) | (simp; omega) | (have := hb1.size; (try simp at this); omega) | (have := hb1.size; (try simp at this); (try simp); omega)))

theorem fst2_z {a b : Int} (h : fstE [a, b] = 0) : a = 0 ∧ b = 0 := by
  rw [fst2] at h
  by_cases ha : a = 0
  · rw [if_pos ha] at h; exact ⟨ha, h⟩
  · rw [if_neg ha] at h; exact absurd h ha
def brkE (o : Option (List Int)) : Int := if o.isSome then 0 else 12
def hldB (o : Option (List Int)) : Bool := o.isNone
/-- What a valid loop is. -/
theorem chkL_ok {T : List Int} {lo hi turn slew : Int} (h : (chkL T lo hi turn slew).2 = 0) : T.length ≤ 11 ∧ T.length % 2 = 1 ∧ (∀ y ∈ T, -10 ≤ y ∧ y ≤ 10) ∧ (0 ≤ slew ∧ slew ≤ 20) ∧ (-4 ≤ lo ∧ lo ≤ 0) ∧ (0 ≤ hi ∧ hi ≤ 4) ∧ (0 ≤ turn ∧ turn ≤ 8) := by
  unfold chkL at h
  split at h
  · rename_i h1; exact absurd h h1
  · rename_i h1
    split at h
    · simp at h
    · rename_i h2
      obtain ⟨a, b⟩ := fst2_z (show lpE0 T.length = 0 by simpa using h1)
      obtain ⟨u, v⟩ := fst2_z (show fstE [unl (ranL lo hi turn slew) 2, unl (inB 0 lo hi) 9] = 0 from h)
      rw [unl_ne _ _ (by omega)] at a b u v
      have a' : (T.length : Int).tmod 2 = 1 := by simpa using a
      rw [Int.tmod_eq_emod_of_nonneg (by omega)] at a'
      have b' : (T.length : Int) ≤ 11 := by simpa using b
      simp only [ranL, Bool.and_eq_true] at u
      obtain ⟨⟨⟨u1, u2⟩, u3⟩, u4⟩ := u
      have u1 := inB_true.1 u1; have u2 := inB_true.1 u2; have u3 := inB_true.1 u3; have u4 := inB_true.1 u4
      have v := inB_true.1 v
      refine ⟨by omega, by omega, fun y hy => ?_, by omega, by omega, by omega, by omega⟩
      have := findFrom_neg badC T 0 (by omega) (by unfold findI at h2; omega) y hy
      simpa [badC, inB] using this

set_option maxHeartbeats 2000000 in
theorem brokenBy_no (T : List Int) (A : Option Addr) (c : Nat) (lo hi turn slew : Int) (w : World) (hn : T.length ≤ 1000) (hs : SlI w A T) (he : (chkL T lo hi turn slew).2 ≠ 0) :
    Calls Try.prog 21 #[.agg #[.slice A T.length c, .int .i64 lo, .int .i64 hi, .int .i64 turn, .int .i64 slew]] w fun e w' => e = .returned (.tuple #[.slice none 0 0, .int .i64 (chkL T lo hi turn slew).2]) ∧ Below w.heap.size w w' := by
  have C := Lib.hid (fun W h => openLoop_c T A c lo hi turn slew W hn h)
  have HS := Lib.hid (hs.alloc (.cells #[.slice A T.length c, .int .i64 lo, .int .i64 hi, .int .i64 turn, .int .i64 slew] 26))
  have e1 := bneT he
  clear hs he
  generalize chkL T lo hi turn slew = CL at *
  go_enter Try.func21, Try.ntmps21
  go_wp2_with (go_at_call 79; refine (C.out _ HS.out).mono ?_; rintro e w1 ⟨rfl, hb1⟩; obtain ⟨hc1, hf1⟩ := bcell hb1; have hz1 : w.heap.size < w1.heap.size := by have := hb1.size; (try simp at this); omega)
  go_ret2
  exact ⟨rfl, by focus ((repeat first | with_reducible exact Below.refl _ _ | (with_reducible refine Below.setCell ?_ ?_ _) | (with_reducible refine Below.alloc ?_ ?_ _) | (with_reducible refine below_drewN ?_ _) | (with_reducible refine Below.drew ?_) | (with_reducible refine Below.trans ?_ (Below.mono hb1 ?_))); all_goals (first | with_reducible exact Nat.le_refl _ | omega | (simp; done) | (simp; omega) | (have := hb1.size; (try simp at this); omega) | (have := hb1.size; (try simp at this); (try simp); omega)))⟩

set_option maxHeartbeats 2000000 in
theorem brokenBy_yes (T : List Int) (A : Option Addr) (c : Nat) (lo hi turn slew : Int) (w : World) (hs : SlI w A T) (he : (chkL T lo hi turn slew).2 = 0) :
    Calls Try.prog 21 #[.agg #[.slice A T.length c, .int .i64 lo, .int .i64 hi, .int .i64 turn, .int .i64 slew]] w fun e w' => ∃ v, e = .returned (.tuple #[v, .int .i64 (brkE (found T lo hi turn slew).2)]) ∧ SeaV w' w.heap.size v (found T lo hi turn slew).2 ∧ Below w.heap.size w w' := by
  obtain ⟨k1, k2, k3, k4, k5, k6, k7⟩ := chkL_ok he
  have C := Lib.hid (fun W h => openLoop_c T A c lo hi turn slew W (by omega) h)
  have R := Lib.hid (fun W h => reached_c T A c lo hi turn slew W k1 k2 h k3 k4 k5 k6 k7)
  have HS := Lib.hid (hs.alloc (.cells #[.slice A T.length c, .int .i64 lo, .int .i64 hi, .int .i64 turn, .int .i64 slew] 26))
  have e1 := bneF he
  clear hs he k3 k2
  generalize chkL T lo hi turn slew = CL at *
  generalize found T lo hi turn slew = F at *
  go_enter Try.func21, Try.ntmps21
  go_wp2_with (go_at_call 79; refine (C.out _ HS.out).mono ?_; rintro e w1 ⟨rfl, hb1⟩; obtain ⟨hc1, hf1⟩ := bcell hb1; have hz1 : w.heap.size < w1.heap.size := by have := hb1.size; (try simp at this); omega)
  go_wp2_with fail
  refine (R.out _ ((HS.out.below hb1).alloc _)).mono ?_
  rintro e w2 ⟨vA, vS, rfl, hA, hSea, hb2⟩
  clear hA
  have hz2 : w.heap.size < w2.heap.size := by have := hb2.size; (try simp at this); omega
  have hSea' : SeaV w2 w.heap.size vS F.2 := by
    cases hF : F.2 with
    | none => rw [hF] at hSea; exact hSea
    | some L => rw [hF] at hSea; exact ⟨hSea.1, own_base hSea.2 (by simp; omega)⟩
  clear hSea
  have HX := Lib.hid hSea'
  cases hF : F.2 with
  | none =>
    rw [hF] at hSea'
    have e2 : vS = .slice none 0 0 := hSea'
    subst e2
    have HF := Lib.hid hF
    clear hF hSea'
    go_wp2_with (first | (go_at_call 81; refine (unless_c _ _ _).mono ?_; rintro e w' ⟨rfl, rfl⟩) | fail)
    go_ret2
    exact ⟨_, ret_t2 rfl (vint (by rw [HF.out]; rfl)), HX.out, by focus ((repeat first | with_reducible exact Below.refl _ _ | (with_reducible refine Below.setCell ?_ ?_ _) | (with_reducible refine Below.alloc ?_ ?_ _) | (with_reducible refine below_drewN ?_ _) | (with_reducible refine Below.drew ?_) | (with_reducible refine Below.trans ?_ (Below.mono hb1 ?_)) | (with_reducible refine Below.trans ?_ (Below.mono hb2 ?_))); all_goals (first | with_reducible exact Nat.le_refl _ | omega | (simp; done) | (simp; omega) | (have := hb1.size; (try simp at this); have := hb2.size; (try simp at this); omega) | (have := hb1.size; (try simp at this); have := hb2.size; (try simp at this); (try simp); omega)))⟩
  | some L =>
    rw [hF] at hSea'
    obtain ⟨⟨g, cap, e2⟩, _⟩ := hSea'
    subst e2
    have HF := Lib.hid hF
    clear hF
    go_wp2_with (first | (go_at_call 81; refine (unless_c _ _ _).mono ?_; rintro e w' ⟨rfl, rfl⟩) | fail)
    go_ret2
    exact ⟨_, ret_t2 rfl (vint (by rw [HF.out]; rfl)), HX.out, by focus ((repeat first | with_reducible exact Below.refl _ _ | (with_reducible refine Below.setCell ?_ ?_ _) | (with_reducible refine Below.alloc ?_ ?_ _) | (with_reducible refine below_drewN ?_ _) | (with_reducible refine Below.drew ?_) | (with_reducible refine Below.trans ?_ (Below.mono hb1 ?_)) | (with_reducible refine Below.trans ?_ (Below.mono hb2 ?_))); all_goals (first | with_reducible exact Nat.le_refl _ | omega | (simp; done) | (simp; omega) | (have := hb1.size; (try simp at this); have := hb2.size; (try simp at this); omega) | (have := hb1.size; (try simp at this); have := hb2.size; (try simp at this); (try simp); omega)))⟩

set_option maxHeartbeats 2000000 in
theorem holds_no (T : List Int) (A : Option Addr) (c : Nat) (lo hi turn slew : Int) (w : World) (hn : T.length ≤ 1000) (hs : SlI w A T) (he : (chkL T lo hi turn slew).2 ≠ 0) :
    Calls Try.prog 20 #[.agg #[.slice A T.length c, .int .i64 lo, .int .i64 hi, .int .i64 turn, .int .i64 slew]] w fun e w' => e = .returned (.tuple #[.bool false, .int .i64 (chkL T lo hi turn slew).2]) ∧ Below w.heap.size w w' := by
  have C := Lib.hid (fun W h => openLoop_c T A c lo hi turn slew W hn h)
  have HS := Lib.hid (hs.alloc (.cells #[.slice A T.length c, .int .i64 lo, .int .i64 hi, .int .i64 turn, .int .i64 slew] 26))
  have e1 := bneT he
  clear hs he
  generalize chkL T lo hi turn slew = CL at *
  go_enter Try.func20, Try.ntmps20
  go_wp2_with (go_at_call 79; refine (C.out _ HS.out).mono ?_; rintro e w1 ⟨rfl, hb1⟩; obtain ⟨hc1, hf1⟩ := bcell hb1; have hz1 : w.heap.size < w1.heap.size := by have := hb1.size; (try simp at this); omega)
  go_ret2
  exact ⟨rfl, by focus ((repeat first | with_reducible exact Below.refl _ _ | (with_reducible refine Below.setCell ?_ ?_ _) | (with_reducible refine Below.alloc ?_ ?_ _) | (with_reducible refine below_drewN ?_ _) | (with_reducible refine Below.drew ?_) | (with_reducible refine Below.trans ?_ (Below.mono hb1 ?_))); all_goals (first | with_reducible exact Nat.le_refl _ | omega | (simp; done) | (simp; omega) | (have := hb1.size; (try simp at this); omega) | (have := hb1.size; (try simp at this); (try simp); omega)))⟩

set_option maxHeartbeats 2000000 in
theorem holds_yes (T : List Int) (A : Option Addr) (c : Nat) (lo hi turn slew : Int) (w : World) (hs : SlI w A T) (he : (chkL T lo hi turn slew).2 = 0) :
    Calls Try.prog 20 #[.agg #[.slice A T.length c, .int .i64 lo, .int .i64 hi, .int .i64 turn, .int .i64 slew]] w fun e w' => e = .returned (.tuple #[.bool (hldB (found T lo hi turn slew).2), .int .i64 0]) ∧ Below w.heap.size w w' := by
  obtain ⟨k1, k2, k3, k4, k5, k6, k7⟩ := chkL_ok he
  have C := Lib.hid (fun W h => openLoop_c T A c lo hi turn slew W (by omega) h)
  have R := Lib.hid (fun W h => reached_c T A c lo hi turn slew W k1 k2 h k3 k4 k5 k6 k7)
  have HS := Lib.hid (hs.alloc (.cells #[.slice A T.length c, .int .i64 lo, .int .i64 hi, .int .i64 turn, .int .i64 slew] 26))
  have e1 := bneF he
  clear hs he k3 k2
  generalize chkL T lo hi turn slew = CL at *
  generalize found T lo hi turn slew = F at *
  go_enter Try.func20, Try.ntmps20
  go_wp2_with (go_at_call 79; refine (C.out _ HS.out).mono ?_; rintro e w1 ⟨rfl, hb1⟩; obtain ⟨hc1, hf1⟩ := bcell hb1; have hz1 : w.heap.size < w1.heap.size := by have := hb1.size; (try simp at this); omega)
  go_wp2_with fail
  refine (R.out _ ((HS.out.below hb1).alloc _)).mono ?_
  rintro e w2 ⟨vA, vS, rfl, hA, hSea, hb2⟩
  clear hA
  have hz2 : w.heap.size < w2.heap.size := by have := hb2.size; (try simp at this); omega
  cases hF : F.2 with
  | none =>
    rw [hF] at hSea
    have e2 : vS = .slice none 0 0 := hSea
    subst e2
    have HF := Lib.hid hF
    clear hF hSea
    go_wp2
    go_ret2
    exact ⟨ret_t2 (vbool (by rw [HF.out]; rfl)) rfl, by focus ((repeat first | with_reducible exact Below.refl _ _ | (with_reducible refine Below.setCell ?_ ?_ _) | (with_reducible refine Below.alloc ?_ ?_ _) | (with_reducible refine below_drewN ?_ _) | (with_reducible refine Below.drew ?_) | (with_reducible refine Below.trans ?_ (Below.mono hb1 ?_)) | (with_reducible refine Below.trans ?_ (Below.mono hb2 ?_))); all_goals (first | with_reducible exact Nat.le_refl _ | omega | (simp; done) | (simp; omega) | (have := hb1.size; (try simp at this); have := hb2.size; (try simp at this); omega) | (have := hb1.size; (try simp at this); have := hb2.size; (try simp at this); (try simp); omega)))⟩
  | some L =>
    rw [hF] at hSea
    obtain ⟨⟨g, cap, e2⟩, _⟩ := hSea
    subst e2
    have HF := Lib.hid hF
    clear hF
    go_wp2
    go_ret2
    exact ⟨ret_t2 (vbool (by rw [HF.out]; rfl)) rfl, by focus ((repeat first | with_reducible exact Below.refl _ _ | (with_reducible refine Below.setCell ?_ ?_ _) | (with_reducible refine Below.alloc ?_ ?_ _) | (with_reducible refine below_drewN ?_ _) | (with_reducible refine Below.drew ?_) | (with_reducible refine Below.trans ?_ (Below.mono hb1 ?_)) | (with_reducible refine Below.trans ?_ (Below.mono hb2 ?_))); all_goals (first | with_reducible exact Nat.le_refl _ | omega | (simp; done) | (simp; omega) | (have := hb1.size; (try simp at this); have := hb2.size; (try simp at this); omega) | (have := hb1.size; (try simp at this); have := hb2.size; (try simp at this); (try simp); omega)))⟩

end Go.Proofs.Ytgbckdmhmkpahaa

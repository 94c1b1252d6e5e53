/-
  The law WinchProfiles (chapter 2): the walk.
-/
import Derived.Test.YtgbckdmhmkpahaaRefProf3
import Derived.Test.YtgbckdmhmkpahaaProfP
import Derived.Test.YtgbckdmhmkpahaaRefs
import Derived.Test.YtgbckdmhmkpahaaInts
import Derived.Test.YtgbckdmhmkpahaaAwake
set_option linter.unusedVariables false
namespace Go.Proofs.Ytgbckdmhmkpahaa
open Go.RowKit Go.Shelf

theorem profileFor_c (sp st d : Int) (w : World) :
    Calls Try.prog 30 #[.agg #[.int .i64 sp, .int .i64 st], .int .i64 d] w fun e w' => ∃ D cap, e = .returned (.tuple #[.slice D (prfL sp st d).length cap, .int .i64 (prfE sp st d)]) ∧ SlI w' D (prfL sp st d) ∧ Below w.heap.size w w' := by
  by_cases h : prfE sp st d = 0
  · refine (profileFor_yes sp st d w h).mono ?_
    rintro e w' ⟨v, rfl, hown, hb⟩
    rw [h]
    rcases hown.2 with ⟨rfl, h0⟩ | ⟨g, cap, cur, rfl, _⟩
    · refine ⟨none, 0, by rw [h0], ?_, hb⟩
      rw [List.eq_nil_of_length_eq_zero h0]; exact SlI.nil _ _
    · exact ⟨_, cap, rfl, sli_own hown, hb⟩
  · refine (profileFor_no sp st d w h).mono ?_
    rintro e w' ⟨rfl, hb⟩
    have e1 : prfL sp st d = [] := by unfold prfL; rw [if_pos h]
    exact ⟨none, 0, by rw [e1]; rfl, by rw [e1]; exact SlI.nil _ _, hb⟩
theorem refProfile_s (sp st d : Int) (n : Nat) (w : World) (h1 : 0 ≤ sp ∧ sp ≤ 100) (h2 : 0 ≤ st ∧ st ≤ 100) (h3 : 0 ≤ d ∧ d ≤ 10000) (hn3 : n ≤ 200) :
    Calls Try.prog 36 #[.agg #[.int .i64 sp, .int .i64 st], .int .i64 d, .int .i64 n] w fun e w' => ∃ D cap, e = .returned (.slice D (refProfP sp st n 0 d).length cap) ∧ SlI w' D (refProfP sp st n 0 d) ∧ Below w.heap.size w w' := by
  refine (refProfile_c sp st d n w h1 h2 h3 hn3).mono ?_
  rintro e w' ⟨v, rfl, hown, hb⟩
  rcases hown.2 with ⟨rfl, h0⟩ | ⟨g, cap, cur, rfl, _⟩
  · refine ⟨none, 0, by rw [h0], ?_, hb⟩
    rw [List.eq_nil_of_length_eq_zero h0]; exact SlI.nil _ _
  · exact ⟨_, cap, rfl, sli_own hown, hb⟩
theorem refProf_len (sp st : Int) : ∀ (n : Nat) (l d : Int), (refProfP sp st n l d).length = n
  | 0, _, _ => rfl
  | n + 1, l, d => by simp [refProfP, refProf_len sp st n]

set_option maxHeartbeats 8000000 in
set_option maxRecDepth 100000 in
theorem winchProfiles_in (sp st : Int) (xs : List Int) (A : Option Addr) (c : Nat) (d : Int) (w : World) (hn : xs.length ≤ 202) (hs : SlI w A xs) :
    Calls Try.prog 5 #[.agg #[.int .i64 sp, .int .i64 st], .slice A xs.length c, .int .i64 d] w fun e w' => e = .returned (.bool true) ∧ Below w.heap.size w w' := by
  have HS := Lib.hid hs
  have CI := Lib.hid (fun W h => copyInts_c xs A c W (by omega) h)
  have CK := Lib.hid (fun A c W h => checkProfile_c sp st xs A c W h)
  have TF := Lib.hid (fun W => TicksFor_c sp st d W)
  have PF := Lib.hid (fun W => profileFor_c sp st d W)
  have RL := Lib.hid (fun W => refLimitsErr_c sp st W)
  have RD := Lib.hid (fun W => refDistanceErr_c d W)
  have RE := Lib.hid (fun hl W h => refProfileErr_c sp st xs A c W (limE_ok hl).1 (limE_ok hl).2 (by omega) h)
  have RT := Lib.hid (fun hl W => refTicks_c sp st d W (by have := limE_ok (sp := sp) (st := st) hl; omega) (by have := limE_ok (sp := sp) (st := st) hl; omega))
  have RP := Lib.hid (fun hl hd n hn W => refProfile_s sp st d n W (by have := limE_ok (sp := sp) (st := st) hl; omega) (by have := limE_ok (sp := sp) (st := st) hl; omega) (dstE_ok hd) hn)
  have F1 := Lib.hid (show limE sp st ≠ 0 → cpfP sp st xs = (0, limE sp st) ∧ tksP sp st d = (0, limE sp st) ∧ prfE sp st d = limE sp st ∧ prfL sp st d = [] from fun h => by
    have e1 : cpf0 sp st xs = limE sp st := by unfold cpf0; rw [fst2, if_neg h]
    have e2 : tkE sp st d = limE sp st := by unfold tkE; rw [fst2, if_neg h]
    have e3 : tksP sp st d = (0, limE sp st) := by unfold tksP; rw [e2, if_pos h]
    have e4 : prfE sp st d = limE sp st := by unfold prfE; rw [e3]
    exact ⟨by unfold cpfP; rw [e1, if_pos h], e3, e4, by unfold prfL; rw [e4, if_pos h]⟩)
  have F2 := Lib.hid (show limE sp st = 0 → prfErrP sp st xs = cpfP sp st xs from fun h => by
    unfold prfErrP cpfP cpf0
    rw [fst2, if_pos h]
    by_cases hl : 200 < xs.length
    · rw [if_pos hl, decide_eq_false (by omega)]; rfl
    · rw [if_neg hl, decide_eq_true (by omega)]; rfl)
  have F3 := Lib.hid (show limE sp st = 0 → dstE d ≠ 0 → tksP sp st d = (0, dstE d) ∧ prfE sp st d = dstE d ∧ prfL sp st d = [] from fun h h2 => by
    have e2 : tkE sp st d = dstE d := by unfold tkE; rw [fst2, if_pos h]
    have e3 : tksP sp st d = (0, dstE d) := by unfold tksP; rw [e2, if_pos h2]
    have e4 : prfE sp st d = dstE d := by unfold prfE; rw [e3]
    exact ⟨e3, e4, by unfold prfL; rw [e4, if_pos h2]⟩)
  have T0 : limE sp st = 0 → dstE d = 0 → tksP sp st d = tickP sp st d := fun h h2 => by
    have e2 : tkE sp st d = 0 := by unfold tkE; rw [fst2, if_pos h, h2]
    unfold tksP; rw [if_neg (by simpa using e2)]
  have F4 := Lib.hid (show limE sp st = 0 → dstE d = 0 → (refTickP sp st d).2 = false → tksP sp st d = (0, 8) ∧ prfE sp st d = 8 ∧ prfL sp st d = [] from fun h h2 h3 => by
    have e1 : (tickP sp st d).2 ≠ 0 := by
      intro h4; unfold refTickP at h3; rw [if_pos h4] at h3; cases h3
    have e2 : tickP sp st d = (0, 8) := (tickFrom_b sp st d 201 0).resolve_left e1
    have e3 : prfE sp st d = 8 := by unfold prfE; rw [T0 h h2, e2]
    exact ⟨by rw [T0 h h2, e2], e3, by unfold prfL; rw [e3]; rfl⟩)
  have F5 := Lib.hid (show limE sp st = 0 → dstE d = 0 → (refTickP sp st d).2 = true → ∃ n : Nat, n ≤ 200 ∧ tksP sp st d = ((n : Int), 0) ∧ prfE sp st d = 0 ∧ (refTickP sp st d).1 = (n : Int) ∧ prfL sp st d = refProfP sp st n 0 d from fun h h2 h3 => by
    have e1 : (tickP sp st d).2 = 0 := by
      by_cases h4 : (tickP sp st d).2 = 0
      · exact h4
      · unfold refTickP at h3; rw [if_neg h4] at h3; cases h3
    obtain ⟨n, hn1, hn2⟩ := tickFrom_ok sp st d 201 0 e1
    obtain ⟨n', hn3, hn4⟩ := tickFrom_far sp st d 201 0 e1
    have hnn : n' = n := by have := hn3.symm.trans hn1; omega
    subst hnn
    have l := limE_ok h
    have dd := dstE_ok h2
    have e2 : tksP sp st d = ((n' : Int), 0) := by rw [T0 h h2]; exact Prod.ext hn1 e1
    have e3 : prfE sp st d = 0 := by unfold prfE; rw [e2]
    refine ⟨n', by omega, e2, e3, ?_, ?_⟩
    · unfold refTickP; rw [if_pos e1]; exact hn1
    · unfold prfL
      rw [if_neg (by simpa using e3), e2]
      exact prof_eq (by omega) (by omega) n' 0 d (by omega) (by omega) dd.1 hn4)
  clear hs T0
  generalize cpfP sp st xs = CC at *
  generalize tksP sp st d = TT at *
  generalize prfE sp st d = pe at *
  generalize prfL sp st d = PL at *
  generalize prfErrP sp st xs = EE at *
  generalize refTickP sp st d = RR at *
  generalize limE sp st = le at *
  generalize dstE d = de at *
  obtain ⟨cm, cc⟩ := CC
  obtain ⟨tt, te⟩ := TT
  obtain ⟨em, ee⟩ := EE
  obtain ⟨rt, rb⟩ := RR
  dsimp only at CK TF RE RT F1 F2 F3 F4 F5
  have d2 : decide ((202 : Int) < (xs.length : Int)) = false := decide_eq_false (by omega)
  have d3 : decide (202 < xs.length) = false := decide_eq_false (by omega)
  have d5 : ¬ 202 < xs.length := by omega
  go_enter Try.func5, Try.ntmps5
  go_upto_region 5 with (first | (go_at_call 15; refine (awake_c _).mono ?_; rintro e w1 ⟨rfl, hb1⟩) | fail)
  have hP : Box w1 w.heap.size 56 #[.int .i64 sp, .int .i64 st] := by focus (apply Box.via; apply Exists.intro; apply And.intro; (repeat first | with_reducible assumption | with_reducible exact Box.new _ _ _ | ((with_reducible apply Box.newAt); focus (simp; done)) | (with_reducible apply Box.drew) | (with_reducible apply Box.drewN) | (with_reducible apply Box.set) | (with_reducible apply Box.alloc) | (with_reducible apply Box.far) | (with_reducible apply Box.below (hb := hb1))); all_goals (first | with_reducible exact Nat.le_refl _ | omega | (simp; done) | (simp; omega) | (have := hb1.size; (try simp at this); omega) | (have := hb1.size; (try simp at this); (try simp); omega)))
  have hB : Below w.heap.size w w1 := by focus ((repeat first | with_reducible exact Below.refl _ _ | (with_reducible refine Below.setCell ?_ ?_ _) | (with_reducible refine Below.alloc ?_ ?_ _) | (with_reducible refine below_drewN ?_ _) | (with_reducible refine Below.drew ?_) | (with_reducible refine Below.trans ?_ (Below.mono hb1 ?_))); all_goals (first | with_reducible exact Nat.le_refl _ | omega | (simp; done) | (simp; omega) | (have := hb1.size; (try simp at this); omega) | (have := hb1.size; (try simp at this); (try simp); omega)))
  clear hb1
  generalize w1 = W5 at *
  go_cut [7, 8] (fun s7 s8 wx => s7 = .int .i64 cm ∧ s8 = .int .i64 cc ∧ Box wx w.heap.size 56 #[.int .i64 sp, .int .i64 st] ∧ Below w.heap.size w wx)
  case first =>
    (have c00 := hP.cell 0; have c01 := hP.cell 1; simp at c00 c01; have hl0 := hP.lt)
    go_region_held3 (fun w' => w'.cell? ⟨w.heap.size, 0, none⟩ = some (.int .i64 sp) ∧ w'.cell? ⟨w.heap.size, 1, none⟩ = some (.int .i64 st)) (go_keep) (first | (go_at_call 24; refine (CI.out _ (SlI.below HS.out (by focus ((repeat first | with_reducible exact Below.refl _ _ | (with_reducible refine Below.setCell ?_ ?_ _) | (with_reducible refine Below.alloc ?_ ?_ _) | (with_reducible refine below_drewN ?_ _) | (with_reducible refine Below.drew ?_) | (with_reducible refine Below.trans ?_ (Below.mono hB ?_))); all_goals (first | with_reducible exact Nat.le_refl _ | omega | (simp; done) | (simp; omega) | (have := hB.size; (try simp at this); omega) | (have := hB.size; (try simp at this); (try simp); omega)))))).mono ?_; rintro e w2 ⟨D, d', rfl, hD, hb2⟩; have hz2 : W5.heap.size ≤ w2.heap.size := (by have := hb2.size; (try simp at this); omega); have k0 := ((hb2).cell (p := ⟨w.heap.size, 0, none⟩) (by simp; omega)).trans (show _ = some (Value.int .i64 sp) from by simp [go_sem, *]); have k1 := ((hb2).cell (p := ⟨w.heap.size, 1, none⟩) (by simp; omega)).trans (show _ = some (Value.int .i64 st) from by simp [go_sem, *])) | (go_at_call 28; refine (CK.out _ _ _ (SlI.below hD (by focus ((repeat first | with_reducible exact Below.refl _ _ | (with_reducible refine Below.setCell ?_ ?_ _) | (with_reducible refine Below.alloc ?_ ?_ _) | (with_reducible refine below_drewN ?_ _) | (with_reducible refine Below.drew ?_)); all_goals (first | with_reducible exact Nat.le_refl _ | omega | (simp; done) | (simp; omega) | (omega) | ((try simp); omega)))))).mono ?_; rintro e w3 ⟨rfl, hb3⟩; have hz3 : w2.heap.size ≤ w3.heap.size := (by have := hb3.size; (try simp at this); omega); have k10 := ((hb3).cell (p := ⟨w.heap.size, 0, none⟩) (by simp; omega)).trans (show _ = some (Value.int .i64 sp) from by simp [go_sem, *]); have k11 := ((hb3).cell (p := ⟨w.heap.size, 1, none⟩) (by simp; omega)).trans (show _ = some (Value.int .i64 st) from by simp [go_sem, *])) | fail)
    all_goals go_wp2_with fail
    all_goals go_meet
    all_goals refine ⟨rfl, rfl, ?_, ?_⟩
    all_goals first | (focus (apply Box.via; apply Exists.intro; apply And.intro; (repeat first | with_reducible assumption | with_reducible exact Box.new _ _ _ | ((with_reducible apply Box.newAt); focus (simp; done)) | (with_reducible apply Box.drew) | (with_reducible apply Box.drewN) | (with_reducible apply Box.set) | (with_reducible apply Box.alloc) | (with_reducible apply Box.far) | (with_reducible apply Box.below (hb := hb2)) | (with_reducible apply Box.below (hb := hb3))); all_goals (first | with_reducible exact Nat.le_refl _ | omega | (simp; done) | (simp; omega) | (have := hb2.size; (try simp at this); have := hb3.size; (try simp at this); omega) | (have := hb2.size; (try simp at this); have := hb3.size; (try simp at this); (try simp); omega)))) | (focus ((repeat first | with_reducible exact Below.refl _ _ | (with_reducible refine Below.setCell ?_ ?_ _) | (with_reducible refine Below.alloc ?_ ?_ _) | (with_reducible refine below_drewN ?_ _) | (with_reducible refine Below.drew ?_) | (with_reducible refine Below.trans ?_ (Below.mono hb2 ?_)) | (with_reducible refine Below.trans ?_ (Below.mono hb3 ?_)) | (with_reducible refine Below.trans ?_ (Below.mono hB ?_))); all_goals (first | with_reducible exact Nat.le_refl _ | omega | (simp; done) | (simp; omega) | (have := hb2.size; (try simp at this); have := hb3.size; (try simp at this); have := hB.size; (try simp at this); omega) | (have := hb2.size; (try simp at this); have := hb3.size; (try simp at this); have := hB.size; (try simp at this); (try simp); omega))))
  case rest =>
    clear hP hB
    obtain ⟨rfl, rfl, hP, hB⟩ := hcut
    generalize wc = W5 at *
    go_upto_region 6 with fail
    go_cut [9, 10] (fun s9 s10 wx => s9 = .int .i64 tt ∧ s10 = .int .i64 te ∧ Box wx w.heap.size 56 #[.int .i64 sp, .int .i64 st] ∧ Below w.heap.size w wx)
    case first =>
      (have c00 := hP.cell 0; have c01 := hP.cell 1; simp at c00 c01; have hl0 := hP.lt)
      go_wp2_with (first | (go_at_call 29; refine (TF.out _).mono ?_; rintro e w2 ⟨rfl, hb2⟩) | fail)
      go_meet
      refine ⟨rfl, rfl, ?_, ?_⟩
      all_goals first | (focus (apply Box.via; apply Exists.intro; apply And.intro; (repeat first | with_reducible assumption | with_reducible exact Box.new _ _ _ | ((with_reducible apply Box.newAt); focus (simp; done)) | (with_reducible apply Box.drew) | (with_reducible apply Box.drewN) | (with_reducible apply Box.set) | (with_reducible apply Box.alloc) | (with_reducible apply Box.far) | (with_reducible apply Box.below (hb := hb2))); all_goals (first | with_reducible exact Nat.le_refl _ | omega | (simp; done) | (simp; omega) | (have := hb2.size; (try simp at this); omega) | (have := hb2.size; (try simp at this); (try simp); omega)))) | (focus ((repeat first | with_reducible exact Below.refl _ _ | (with_reducible refine Below.setCell ?_ ?_ _) | (with_reducible refine Below.alloc ?_ ?_ _) | (with_reducible refine below_drewN ?_ _) | (with_reducible refine Below.drew ?_) | (with_reducible refine Below.trans ?_ (Below.mono hb2 ?_)) | (with_reducible refine Below.trans ?_ (Below.mono hB ?_))); all_goals (first | with_reducible exact Nat.le_refl _ | omega | (simp; done) | (simp; omega) | (have := hb2.size; (try simp at this); have := hB.size; (try simp at this); omega) | (have := hb2.size; (try simp at this); have := hB.size; (try simp at this); (try simp); omega))))
    case rest =>
      clear hP hB
      obtain ⟨rfl, rfl, hP, hB⟩ := hcut
      generalize wc = W5 at *
      go_upto_region 7 with fail
      go_cut [11, 12] (fun s11 s12 wx => ∃ G cap4, s11 = .slice G PL.length cap4 ∧ s12 = .int .i64 pe ∧ SlI wx G PL ∧ Box wx w.heap.size 56 #[.int .i64 sp, .int .i64 st] ∧ Below w.heap.size w wx)
      case first =>
        (have c00 := hP.cell 0; have c01 := hP.cell 1; simp at c00 c01; have hl0 := hP.lt)
        go_wp2_with (first | (go_at_call 30; refine (PF.out _).mono ?_; rintro e w2 ⟨G, cap4, rfl, hG4, hb2⟩) | fail)
        go_meet
        refine ⟨_, _, rfl, rfl, hG4, ?_, ?_⟩
        all_goals first | (focus (apply Box.via; apply Exists.intro; apply And.intro; (repeat first | with_reducible assumption | with_reducible exact Box.new _ _ _ | ((with_reducible apply Box.newAt); focus (simp; done)) | (with_reducible apply Box.drew) | (with_reducible apply Box.drewN) | (with_reducible apply Box.set) | (with_reducible apply Box.alloc) | (with_reducible apply Box.far) | (with_reducible apply Box.below (hb := hb2))); all_goals (first | with_reducible exact Nat.le_refl _ | omega | (simp; done) | (simp; omega) | (have := hb2.size; (try simp at this); omega) | (have := hb2.size; (try simp at this); (try simp); omega)))) | (focus ((repeat first | with_reducible exact Below.refl _ _ | (with_reducible refine Below.setCell ?_ ?_ _) | (with_reducible refine Below.alloc ?_ ?_ _) | (with_reducible refine below_drewN ?_ _) | (with_reducible refine Below.drew ?_) | (with_reducible refine Below.trans ?_ (Below.mono hb2 ?_)) | (with_reducible refine Below.trans ?_ (Below.mono hB ?_))); all_goals (first | with_reducible exact Nat.le_refl _ | omega | (simp; done) | (simp; omega) | (have := hb2.size; (try simp at this); have := hB.size; (try simp at this); omega) | (have := hb2.size; (try simp at this); have := hB.size; (try simp at this); (try simp); omega))))
      case rest =>
        clear hP hB
        obtain ⟨G, cap4, rfl, rfl, hG4, hP, hB⟩ := hcut
        generalize wc = W5 at *
        have HG := Lib.hid hG4
        clear hG4
        go_upto_region 8 with fail
        go_cut [13] (fun s13 wx => s13 = .int .i64 le ∧ SlI wx G PL ∧ Box wx w.heap.size 56 #[.int .i64 sp, .int .i64 st] ∧ Below w.heap.size w wx)
        case first =>
          (have c00 := hP.cell 0; have c01 := hP.cell 1; simp at c00 c01; have hl0 := hP.lt)
          go_wp2_with (first | (go_at_call 31; refine (RL.out _).mono ?_; rintro e w2 ⟨rfl, hb2⟩) | fail)
          go_meet
          refine ⟨rfl, SlI.below HG.out (by focus ((repeat first | with_reducible exact Below.refl _ _ | (with_reducible refine Below.setCell ?_ ?_ _) | (with_reducible refine Below.alloc ?_ ?_ _) | (with_reducible refine below_drewN ?_ _) | (with_reducible refine Below.drew ?_) | (with_reducible refine Below.trans ?_ (Below.mono hb2 ?_))); all_goals (first | with_reducible exact Nat.le_refl _ | omega | (simp; done) | (simp; omega) | (have := hb2.size; (try simp at this); omega) | (have := hb2.size; (try simp at this); (try simp); omega)))), ?_, ?_⟩
          all_goals first | (focus (apply Box.via; apply Exists.intro; apply And.intro; (repeat first | with_reducible assumption | with_reducible exact Box.new _ _ _ | ((with_reducible apply Box.newAt); focus (simp; done)) | (with_reducible apply Box.drew) | (with_reducible apply Box.drewN) | (with_reducible apply Box.set) | (with_reducible apply Box.alloc) | (with_reducible apply Box.far) | (with_reducible apply Box.below (hb := hb2))); all_goals (first | with_reducible exact Nat.le_refl _ | omega | (simp; done) | (simp; omega) | (have := hb2.size; (try simp at this); omega) | (have := hb2.size; (try simp at this); (try simp); omega)))) | (focus ((repeat first | with_reducible exact Below.refl _ _ | (with_reducible refine Below.setCell ?_ ?_ _) | (with_reducible refine Below.alloc ?_ ?_ _) | (with_reducible refine below_drewN ?_ _) | (with_reducible refine Below.drew ?_) | (with_reducible refine Below.trans ?_ (Below.mono hb2 ?_)) | (with_reducible refine Below.trans ?_ (Below.mono hB ?_))); all_goals (first | with_reducible exact Nat.le_refl _ | omega | (simp; done) | (simp; omega) | (have := hb2.size; (try simp at this); have := hB.size; (try simp at this); omega) | (have := hb2.size; (try simp at this); have := hB.size; (try simp at this); (try simp); omega))))
        case rest =>
          clear hP hB HG
          obtain ⟨rfl, hG4, hP, hB⟩ := hcut
          generalize wc = W5 at *
          have HG := Lib.hid hG4
          clear hG4
          by_cases hle : le = 0
          · subst hle
            obtain ⟨rfl, rfl⟩ : em = cm ∧ ee = cc := by simpa using F2.out rfl
            have G3 := Lib.hid (F3.out rfl); have G4 := Lib.hid (F4.out rfl); have G5 := Lib.hid (F5.out rfl); have RE' := Lib.hid (RE.out rfl); have RT' := Lib.hid (RT.out rfl); have RP' := Lib.hid (RP.out rfl)
            clear F1 F2 F3 F4 F5 RE RT RP
            go_upto_region 11 with fail
            go_cut [14, 15] (fun s14 s15 wx => s14 = .int .i64 em ∧ s15 = .int .i64 ee ∧ SlI wx G PL ∧ Box wx w.heap.size 56 #[.int .i64 sp, .int .i64 st] ∧ Below w.heap.size w wx)
            case first =>
              (have c00 := hP.cell 0; have c01 := hP.cell 1; simp at c00 c01; have hl0 := hP.lt)
              go_wp2_with (first | (go_at_call 32; refine (RE'.out _ (SlI.below HS.out (by focus ((repeat first | with_reducible exact Below.refl _ _ | (with_reducible refine Below.setCell ?_ ?_ _) | (with_reducible refine Below.alloc ?_ ?_ _) | (with_reducible refine below_drewN ?_ _) | (with_reducible refine Below.drew ?_) | (with_reducible refine Below.trans ?_ (Below.mono hB ?_))); all_goals (first | with_reducible exact Nat.le_refl _ | omega | (simp; done) | (simp; omega) | (have := hB.size; (try simp at this); omega) | (have := hB.size; (try simp at this); (try simp); omega)))))).mono ?_; rintro e w2 ⟨rfl, hb2⟩) | fail)
              go_meet
              refine ⟨rfl, rfl, SlI.below HG.out (by focus ((repeat first | with_reducible exact Below.refl _ _ | (with_reducible refine Below.setCell ?_ ?_ _) | (with_reducible refine Below.alloc ?_ ?_ _) | (with_reducible refine below_drewN ?_ _) | (with_reducible refine Below.drew ?_) | (with_reducible refine Below.trans ?_ (Below.mono hb2 ?_))); all_goals (first | with_reducible exact Nat.le_refl _ | omega | (simp; done) | (simp; omega) | (have := hb2.size; (try simp at this); omega) | (have := hb2.size; (try simp at this); (try simp); omega)))), ?_, ?_⟩
              all_goals first | (focus (apply Box.via; apply Exists.intro; apply And.intro; (repeat first | with_reducible assumption | with_reducible exact Box.new _ _ _ | ((with_reducible apply Box.newAt); focus (simp; done)) | (with_reducible apply Box.drew) | (with_reducible apply Box.drewN) | (with_reducible apply Box.set) | (with_reducible apply Box.alloc) | (with_reducible apply Box.far) | (with_reducible apply Box.below (hb := hb2))); all_goals (first | with_reducible exact Nat.le_refl _ | omega | (simp; done) | (simp; omega) | (have := hb2.size; (try simp at this); omega) | (have := hb2.size; (try simp at this); (try simp); omega)))) | (focus ((repeat first | with_reducible exact Below.refl _ _ | (with_reducible refine Below.setCell ?_ ?_ _) | (with_reducible refine Below.alloc ?_ ?_ _) | (with_reducible refine below_drewN ?_ _) | (with_reducible refine Below.drew ?_) | (with_reducible refine Below.trans ?_ (Below.mono hb2 ?_)) | (with_reducible refine Below.trans ?_ (Below.mono hB ?_))); all_goals (first | with_reducible exact Nat.le_refl _ | omega | (simp; done) | (simp; omega) | (have := hb2.size; (try simp at this); have := hB.size; (try simp at this); omega) | (have := hb2.size; (try simp at this); have := hB.size; (try simp at this); (try simp); omega))))
            case rest =>
              clear hP hB HG
              obtain ⟨rfl, rfl, hG4, hP, hB⟩ := hcut
              generalize wc = W5 at *
              have HG := Lib.hid hG4
              clear hG4
              by_cases hde : de = 0
              · subst hde
                have G4' := Lib.hid (G4.out rfl); have G5' := Lib.hid (G5.out rfl); have RP'' := Lib.hid (RP'.out rfl)
                clear G3 G4 G5 RP'
                go_upto_region 17 with (first | (go_at_call 33; refine (RD.out _).mono ?_; rintro e w' ⟨rfl, rfl⟩) | fail)
                go_cut [16, 17] (fun s16 s17 wx => s16 = .int .i64 rt ∧ s17 = .bool rb ∧ SlI wx G PL ∧ Box wx w.heap.size 56 #[.int .i64 sp, .int .i64 st] ∧ Below w.heap.size w wx)
                case first =>
                  (have c00 := hP.cell 0; have c01 := hP.cell 1; simp at c00 c01; have hl0 := hP.lt)
                  go_wp2_with (first | (go_at_call 34; refine (RT'.out _).mono ?_; rintro e w2 ⟨rfl, hb2⟩) | fail)
                  go_meet
                  refine ⟨rfl, rfl, SlI.below HG.out (by focus ((repeat first | with_reducible exact Below.refl _ _ | (with_reducible refine Below.setCell ?_ ?_ _) | (with_reducible refine Below.alloc ?_ ?_ _) | (with_reducible refine below_drewN ?_ _) | (with_reducible refine Below.drew ?_) | (with_reducible refine Below.trans ?_ (Below.mono hb2 ?_))); all_goals (first | with_reducible exact Nat.le_refl _ | omega | (simp; done) | (simp; omega) | (have := hb2.size; (try simp at this); omega) | (have := hb2.size; (try simp at this); (try simp); omega)))), ?_, ?_⟩
                  all_goals first | (focus (apply Box.via; apply Exists.intro; apply And.intro; (repeat first | with_reducible assumption | with_reducible exact Box.new _ _ _ | ((with_reducible apply Box.newAt); focus (simp; done)) | (with_reducible apply Box.drew) | (with_reducible apply Box.drewN) | (with_reducible apply Box.set) | (with_reducible apply Box.alloc) | (with_reducible apply Box.far) | (with_reducible apply Box.below (hb := hb2))); all_goals (first | with_reducible exact Nat.le_refl _ | omega | (simp; done) | (simp; omega) | (have := hb2.size; (try simp at this); omega) | (have := hb2.size; (try simp at this); (try simp); omega)))) | (focus ((repeat first | with_reducible exact Below.refl _ _ | (with_reducible refine Below.setCell ?_ ?_ _) | (with_reducible refine Below.alloc ?_ ?_ _) | (with_reducible refine below_drewN ?_ _) | (with_reducible refine Below.drew ?_) | (with_reducible refine Below.trans ?_ (Below.mono hb2 ?_)) | (with_reducible refine Below.trans ?_ (Below.mono hB ?_))); all_goals (first | with_reducible exact Nat.le_refl _ | omega | (simp; done) | (simp; omega) | (have := hb2.size; (try simp at this); have := hB.size; (try simp at this); omega) | (have := hb2.size; (try simp at this); have := hB.size; (try simp at this); (try simp); omega))))
                case rest =>
                  clear hP hB HG
                  obtain ⟨rfl, rfl, hG4, hP, hB⟩ := hcut
                  generalize wc = W5 at *
                  have HG := Lib.hid hG4
                  clear hG4
                  (have c00 := hP.cell 0; have c01 := hP.cell 1; simp at c00 c01; have hl0 := hP.lt)
                  cases rb with
                  | false =>
                    obtain ⟨g1, g2, g3⟩ := G4'.out rfl
                    obtain ⟨a3, a4⟩ : tt = 0 ∧ te = 8 := by simpa using g1
                    have e3 : (te == 8) = true := beqT a4
                    have e4 : (pe == 8) = true := beqT g2
                    have e6 : (tt == 0) = true := beqT a3
                    have e7 : ((PL.length : Int) == 0) = true := by rw [g3]; rfl
                    clear a3 a4 g1 g2 g3
                    go_wp2_with fail
                    go_ret
                    exact ⟨rfl, hB⟩
                  | true =>
                    obtain ⟨n, g0, g1, g2, g3, g4⟩ := G5'.out rfl
                    obtain ⟨a3, a4⟩ : tt = (n : Int) ∧ te = 0 := by simpa using g1
                    have e3 : (te == 0) = true := beqT a4
                    have e4 : (pe == 0) = true := beqT g2
                    have HR := Lib.hid (RP''.out n g0)
                    have hlp : PL.length = n := by rw [g4]; exact refProf_len sp st n 0 d
                    subst g3
                    have e6 : (tt == (n : Int)) = true := beqT a3
                    rw [← g4] at HR
                    have hl1 : PL.length ≤ 9223372036854775807 := by omega
                    clear a3 a4 g1 g2 g4 hlp
                    go_wp2_with (first | (go_at_call 36; refine (HR.out _).mono ?_; rintro e w2 ⟨D2, cap2, rfl, hD2, hb2⟩) | (go_at_call 35; refine (ints_c PL PL _ _ _ _ _ hl1 hl1 (SlI.below HG.out (by focus ((repeat first | with_reducible exact Below.refl _ _ | (with_reducible refine Below.setCell ?_ ?_ _) | (with_reducible refine Below.alloc ?_ ?_ _) | (with_reducible refine below_drewN ?_ _) | (with_reducible refine Below.drew ?_) | (with_reducible refine Below.trans ?_ (Below.mono hb2 ?_))); all_goals (first | with_reducible exact Nat.le_refl _ | omega | (simp; done) | (simp; omega) | (have := hb2.size; (try simp at this); omega) | (have := hb2.size; (try simp at this); (try simp); omega))))) (SlI.below hD2 (by focus ((repeat first | with_reducible exact Below.refl _ _ | (with_reducible refine Below.setCell ?_ ?_ _) | (with_reducible refine Below.alloc ?_ ?_ _) | (with_reducible refine below_drewN ?_ _) | (with_reducible refine Below.drew ?_)); all_goals (first | with_reducible exact Nat.le_refl _ | omega | (simp; done) | (simp; omega) | (omega) | ((try simp); omega)))))).mono ?_; rintro e w3 ⟨rfl, hb3⟩) | fail)
                    go_ret
                    exact ⟨rfl, by focus ((repeat first | with_reducible exact Below.refl _ _ | (with_reducible refine Below.setCell ?_ ?_ _) | (with_reducible refine Below.alloc ?_ ?_ _) | (with_reducible refine below_drewN ?_ _) | (with_reducible refine Below.drew ?_) | (with_reducible refine Below.trans ?_ (Below.mono hb3 ?_)) | (with_reducible refine Below.trans ?_ (Below.mono hb2 ?_)) | (with_reducible refine Below.trans ?_ (Below.mono hB ?_))); all_goals (first | with_reducible exact Nat.le_refl _ | omega | (simp; done) | (simp; omega) | (have := hb3.size; (try simp at this); have := hb2.size; (try simp at this); have := hB.size; (try simp at this); omega) | (have := hb3.size; (try simp at this); have := hb2.size; (try simp at this); have := hB.size; (try simp at this); (try simp); omega)))⟩
              · have e1 : (de != 0) = true := bneT hde
                obtain ⟨g1, g2, g3⟩ := G3.out hde
                obtain ⟨a3, a4⟩ : tt = 0 ∧ te = de := by simpa using g1
                have e3 : (te == de) = true := beqT a4
                have e4 : (pe == de) = true := beqT g2
                have e6 : (tt == 0) = true := beqT a3
                have e7 : ((PL.length : Int) == 0) = true := by rw [g3]; rfl
                clear a3 a4 g1 g2 g3 hde
                go_wp2_with (first | (go_at_call 33; refine (RD.out _).mono ?_; rintro e w' ⟨rfl, rfl⟩) | fail)
                go_ret
                exact ⟨rfl, by focus ((repeat first | with_reducible exact Below.refl _ _ | (with_reducible refine Below.setCell ?_ ?_ _) | (with_reducible refine Below.alloc ?_ ?_ _) | (with_reducible refine below_drewN ?_ _) | (with_reducible refine Below.drew ?_) | (with_reducible refine Below.trans ?_ (Below.mono hB ?_))); all_goals (first | with_reducible exact Nat.le_refl _ | omega | (simp; done) | (simp; omega) | (have := hB.size; (try simp at this); omega) | (have := hB.size; (try simp at this); (try simp); omega)))⟩
          · have e1 : (le != 0) = true := bneT hle
            obtain ⟨g1, g2, g3, g4⟩ := F1.out hle
            obtain ⟨a1, a2⟩ : cm = 0 ∧ cc = le := by simpa using g1
            obtain ⟨a3, a4⟩ : tt = 0 ∧ te = le := by simpa using g2
            have e2 : (cc == le) = true := beqT a2
            have e3 : (te == le) = true := beqT a4
            have e4 : (pe == le) = true := beqT g3
            have e5 : (cm == 0) = true := beqT a1
            have e6 : (tt == 0) = true := beqT a3
            have e7 : ((PL.length : Int) == 0) = true := by rw [g4]; rfl
            clear a1 a2 a3 a4 g1 g2 g3 g4 hle
            go_wp2_with fail
            go_ret
            exact ⟨rfl, by focus ((repeat first | with_reducible exact Below.refl _ _ | (with_reducible refine Below.setCell ?_ ?_ _) | (with_reducible refine Below.alloc ?_ ?_ _) | (with_reducible refine below_drewN ?_ _) | (with_reducible refine Below.drew ?_) | (with_reducible refine Below.trans ?_ (Below.mono hB ?_))); all_goals (first | with_reducible exact Nat.le_refl _ | omega | (simp; done) | (simp; omega) | (have := hB.size; (try simp at this); omega) | (have := hB.size; (try simp at this); (try simp); omega)))⟩

set_option maxHeartbeats 400000 in
theorem winchProfiles_long (sp st : Int) (xs : List Int) (A : Option Addr) (c : Nat) (d : Int) (w : World) (hn : 202 < xs.length) (hm : xs.length ≤ 9223372036854775807) :
    Calls Try.prog 5 #[.agg #[.int .i64 sp, .int .i64 st], .slice A xs.length c, .int .i64 d] w fun e w' => e = .returned (.bool true) ∧ Below w.heap.size w w' := by
  go_enter Try.func5, Try.ntmps5
  go_wp2_with (go_at_call 15; refine (awake_c _).mono ?_; rintro e w1 ⟨rfl, hb1⟩)
  go_ret
  exact ⟨rfl, by focus ((repeat first | with_reducible exact Below.refl _ _ | (with_reducible refine Below.setCell ?_ ?_ _) | (with_reducible refine Below.alloc ?_ ?_ _) | (with_reducible refine below_drewN ?_ _) | (with_reducible refine Below.drew ?_) | (with_reducible refine Below.trans ?_ (Below.mono hb1 ?_))); all_goals (first | with_reducible exact Nat.le_refl _ | omega | (simp; done) | (simp; omega) | (have := hb1.size; (try simp at this); omega) | (have := hb1.size; (try simp at this); (try simp); omega)))⟩

theorem winchProfiles_l (sp st : Int) (xs : List Int) (A : Option Addr) (c : Nat) (d : Int) (w : World) (_ : ∀ x ∈ [sp, st], -9223372036854775808 ≤ x ∧ x ≤ 9223372036854775807) (hm : xs.length ≤ 9223372036854775807) (hs : SlI w A xs) (_ : -9223372036854775808 ≤ d ∧ d ≤ 9223372036854775807) :
    Calls Try.prog 5 #[.agg #[.int .i64 sp, .int .i64 st], .slice A xs.length c, .int .i64 d] w fun e w' => e = .returned (.bool true) ∧ Below w.heap.size w w' := by
  by_cases h : 202 < xs.length
  · exact winchProfiles_long sp st xs A c d w h hm
  · exact winchProfiles_in sp st xs A c d w (by omega) hs

end Go.Proofs.Ytgbckdmhmkpahaa

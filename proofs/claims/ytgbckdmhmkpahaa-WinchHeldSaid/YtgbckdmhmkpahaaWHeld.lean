/-
  The law WinchHeld (chapter 2): the walk.
-/
import Derived.Test.YtgbckdmhmkpahaaHld1
import Derived.Test.YtgbckdmhmkpahaaCls7
import Derived.Test.YtgbckdmhmkpahaaRefLoop
import Derived.Test.YtgbckdmhmkpahaaNextIn
import Derived.Test.YtgbckdmhmkpahaaSame
import Derived.Test.YtgbckdmhmkpahaaAwake
import Derived.Deep.DeepCutAuto
import Derived.Deep.CutBlock
set_option linter.unusedVariables false
namespace Go.Proofs.Ytgbckdmhmkpahaa
open Go.RowKit Go.Shelf
attribute [local go_sem ↓] eqlO_st neqO_st

set_option maxHeartbeats 1000000 in
theorem refLoopErr_h (T : List Int) (A : Option Addr) (c : Nat) (lo hi turn slew : Int) (w : World) (hn : T.length ≤ 1000) (hs : SlI w A T) :
    Calls Try.prog 17 #[.agg #[.slice A T.length c, .int .i64 lo, .int .i64 hi, .int .i64 turn, .int .i64 slew]] w fun e w' => e = .returned (.int .i64 (chkL T lo hi turn slew).2) ∧ Below w.heap.size w w' := by
  have H := Lib.hid (fun W h => refCheckLoop_c T A c lo hi turn slew W hn h)
  have HS := Lib.hid hs
  clear hn hs
  generalize chkL T lo hi turn slew = CS at *
  go_enter Try.func17, Try.ntmps17
  go_wp2_with (go_at_call 51; refine (H.out _ (SlI.below HS.out (by focus ((repeat first | with_reducible exact Below.refl _ _ | (with_reducible refine Below.setCell ?_ ?_ _) | (with_reducible refine Below.alloc ?_ ?_ _) | (with_reducible refine below_drewN ?_ _) | (with_reducible refine Below.drew ?_)); all_goals (first | with_reducible exact Nat.le_refl _ | omega | (simp; done) | (simp; omega) | (omega) | ((try simp); omega)))))).mono ?_; rintro e w' ⟨rfl, hb⟩)
  go_ret
  exact ⟨rfl, by focus ((repeat first | with_reducible exact Below.refl _ _ | (with_reducible refine Below.setCell ?_ ?_ _) | (with_reducible refine Below.alloc ?_ ?_ _) | (with_reducible refine below_drewN ?_ _) | (with_reducible refine Below.drew ?_) | (with_reducible refine Below.trans ?_ (Below.mono hb ?_))); all_goals (first | with_reducible exact Nat.le_refl _ | omega | (simp; done) | (simp; omega) | (have := hb.size; (try simp at this); omega) | (have := hb.size; (try simp at this); (try simp); omega)))⟩

/-- BrokenBy at a loop that is valid: the sea, or nothing. -/
theorem brokenBy_h (T : List Int) (A : Option Addr) (c : Nat) (lo hi turn slew : Int) (w : World) (hs : SlI w A T) (he : (chkL T lo hi turn slew).2 = 0) :
    Calls Try.prog 21 #[.agg #[.slice A T.length c, .int .i64 lo, .int .i64 hi, .int .i64 turn, .int .i64 slew]] w fun e w' => ∃ G cap, ((found T lo hi turn slew).2.getD []).length ≤ cap ∧ e = .returned (.tuple #[.slice G ((found T lo hi turn slew).2.getD []).length cap, .int .i64 (brkE (found T lo hi turn slew).2)]) ∧ SlI w' G ((found T lo hi turn slew).2.getD []) ∧ Below w.heap.size w w' := by
  refine (brokenBy_yes T A c lo hi turn slew w hs he).mono ?_
  rintro e w' ⟨v, rfl, hv, hb⟩
  cases hf : (found T lo hi turn slew).2 with
  | none =>
    rw [hf] at hv
    have hv : v = .slice none 0 0 := hv
    subst hv
    exact ⟨none, 0, Nat.le_refl _, rfl, SlI.nil _ _, hb⟩
  | some L =>
    rw [hf] at hv
    obtain ⟨⟨g, cap, rfl⟩, ho⟩ := hv
    refine ⟨_, cap, ?_, rfl, sli_own ho, hb⟩
    rcases ho.2 with ⟨e, _⟩ | ⟨_, _, _, e, _, _, hc, _⟩
    · cases e
    · cases e; exact hc

set_option maxHeartbeats 8000000 in
set_option maxRecDepth 100000 in
theorem winchHeld_in (T : List Int) (A : Option Addr) (c : Nat) (lo hi turn slew : Int) (hs : List Int) (B : Option Addr) (d : Nat) (w : World) (hk : (chkL T lo hi turn slew).2 = 0) (hm : hs.length ≤ 60) (hd : hs.length ≤ d) (hT : SlI w A T) (hH : SlI w B hs) :
    Calls Try.prog 14 #[.agg #[.slice A T.length c, .int .i64 lo, .int .i64 hi, .int .i64 turn, .int .i64 slew], .slice B hs.length d] w fun e w' => e = .returned (.bool true) ∧ Below w.heap.size w w' := by
  obtain ⟨k1, k2, k3, k4, k5, k6, k7⟩ := chkL_ok hk
  have HS := Lib.hid hT
  have HH := Lib.hid hH
  have LE := Lib.hid (fun W h => refLoopErr_h T A c lo hi turn slew W (by omega) h)
  have CL := Lib.hid (fun W h => copyLoop_c T A c lo hi turn slew W (by omega) h)
  have RO := Lib.hid (fun D d W h => reachedBy_yes T D d lo hi turn slew W h hk)
  have HO := Lib.hid (fun D d W h => holds_yes T D d lo hi turn slew W h hk)
  have BO := Lib.hid (fun D d W h => brokenBy_h T D d lo hi turn slew W h hk)
  have hln : (reachL T lo hi turn slew).length ≤ 2079 := by
    obtain ⟨hF, _⟩ := foundOk (turn := turn) (slew := slew) k1 k2 k3 k4.1 k5 k6
    have := hF.length k1 k5.1 k6.2
    unfold reachL
    rw [(sortS_perm _).length_eq, List.length_map]; exact this
  have CS := Lib.hid (fun D d W h => copyStates_c (reachL T lo hi turn slew) D d W (by omega) h)
  have CC := Lib.hid (fun D d E f W h h' => checkClosed_c T D d lo hi turn slew (reachL T lo hi turn slew) E f W (by omega) h h' (by omega))
  have CR := cls_reached hk
  have NI := Lib.hid (fun (D : Option Addr) (d : Nat) (a b e : Int) (h : Int) W h' => nextIn_c T D d lo hi turn slew a b e h W (by omega) h')
  have NR := Lib.hid (fun p s hl h => nxt_reached hk (p := p) (s := s) hl h)
  have LM := Lib.hid (fun p s hl => (reachL_mem hk s).2 ⟨p, hl⟩)
  have LV := Lib.hid (fun s hs => (reachL_v hk (s := s) hs).2)
  have RN := Lib.hid (fun (hs' : List Int) (h60 : hs'.length ≤ 60) D d E f W h h' => runOf_yes T D d lo hi turn slew hs' E f W h h' hk h60)
  have FN := Lib.hid (fun hn p => found_none hk hn p)
  have FS := Lib.hid (fun L hs => found_some hk (L := L) hs)
  have e0 : ((chkL T lo hi turn slew).2 != 0) = false := bneF hk
  clear hk hT hH k3
  generalize clsP T lo hi turn slew (reachL T lo hi turn slew) = CP at *
  generalize chkL T lo hi turn slew = CH at *
  generalize reachL T lo hi turn slew = SL at *
  generalize found T lo hi turn slew = FL at *
  obtain ⟨ch, ce⟩ := CH
  obtain ⟨cp, ck⟩ := CP
  obtain ⟨al, sea⟩ := FL
  dsimp only at LE e0 HO BO CC CR FN FS
  subst CR
  have d1 : decide ((T.length : Int) ≤ 13) = true := decide_eq_true (by omega)
  have d2 : decide ((60 : Int) < (hs.length : Int)) = false := decide_eq_false (by omega)
  have d3 : decide (60 < hs.length) = false := decide_eq_false (by omega)
  go_enter Try.func14, Try.ntmps14
  go_upto_region 5 with (first | (go_at_call 15; refine (awake_c _).mono ?_; rintro e w1 ⟨rfl, hb1⟩; (have q0 : Box w1 w.heap.size 26 #[.slice A T.length c, .int .i64 lo, .int .i64 hi, .int .i64 turn, .int .i64 slew] := (by focus (apply Box.via; apply Exists.intro; apply And.intro; (repeat first | with_reducible assumption | with_reducible exact Box.new _ _ _ | ((with_reducible apply Box.newAt); focus (simp; done)) | (with_reducible apply Box.drew) | (with_reducible apply Box.drewN) | (with_reducible apply Box.set) | (with_reducible apply Box.alloc) | (with_reducible apply Box.far) | (with_reducible apply Box.below (hb := hb1))); all_goals (first | with_reducible exact Nat.le_refl _ | omega | (simp; done) | (simp; omega) | (have := hb1.size; (try simp at this); omega) | (have := hb1.size; (try simp at this); (try simp); omega))))); (have c00 : (w1).cell? ⟨w.heap.size, 0, none⟩ = some (.slice A T.length c) := q0.cell 0); (have c01 : (w1).cell? ⟨w.heap.size, 1, none⟩ = some (.int .i64 lo) := q0.cell 1); (have c02 : (w1).cell? ⟨w.heap.size, 2, none⟩ = some (.int .i64 hi) := q0.cell 2); (have c03 : (w1).cell? ⟨w.heap.size, 3, none⟩ = some (.int .i64 turn) := q0.cell 3); (have c04 : (w1).cell? ⟨w.heap.size, 4, none⟩ = some (.int .i64 slew) := q0.cell 4); (have hl0 := q0.lt)) | (go_at_call 16; refine (few_c T A c lo hi turn slew _).mono ?_; rintro e w2 ⟨rfl, hb2⟩; (have q0 : Box w2 w.heap.size 26 #[.slice A T.length c, .int .i64 lo, .int .i64 hi, .int .i64 turn, .int .i64 slew] := (by focus (apply Box.via; apply Exists.intro; apply And.intro; (repeat first | with_reducible assumption | with_reducible exact Box.new _ _ _ | ((with_reducible apply Box.newAt); focus (simp; done)) | (with_reducible apply Box.drew) | (with_reducible apply Box.drewN) | (with_reducible apply Box.set) | (with_reducible apply Box.alloc) | (with_reducible apply Box.far) | (with_reducible apply Box.below (hb := hb2))); all_goals (first | with_reducible exact Nat.le_refl _ | omega | (simp; done) | (simp; omega) | (have := hb2.size; (try simp at this); omega) | (have := hb2.size; (try simp at this); (try simp); omega))))); (have c00 : (w2).cell? ⟨w.heap.size, 0, none⟩ = some (.slice A T.length c) := q0.cell 0); (have c01 : (w2).cell? ⟨w.heap.size, 1, none⟩ = some (.int .i64 lo) := q0.cell 1); (have c02 : (w2).cell? ⟨w.heap.size, 2, none⟩ = some (.int .i64 hi) := q0.cell 2); (have c03 : (w2).cell? ⟨w.heap.size, 3, none⟩ = some (.int .i64 turn) := q0.cell 3); (have c04 : (w2).cell? ⟨w.heap.size, 4, none⟩ = some (.int .i64 slew) := q0.cell 4); (have hl0 := q0.lt)) | (go_at_call 17; refine (LE.out _ (SlI.below HS.out (by focus ((repeat first | with_reducible exact Below.refl _ _ | (with_reducible refine Below.setCell ?_ ?_ _) | (with_reducible refine Below.alloc ?_ ?_ _) | (with_reducible refine below_drewN ?_ _) | (with_reducible refine Below.drew ?_) | (with_reducible refine Below.trans ?_ (Below.mono hb2 ?_)) | (with_reducible refine Below.trans ?_ (Below.mono hb1 ?_))); all_goals (first | with_reducible exact Nat.le_refl _ | omega | (simp; done) | (simp; omega) | (have := hb2.size; (try simp at this); have := hb1.size; (try simp at this); omega) | (have := hb2.size; (try simp at this); have := hb1.size; (try simp at this); (try simp); omega)))))).mono ?_; rintro e w3 ⟨rfl, hb3⟩) | fail)
  have q0 : Box w3 w.heap.size 26 #[.slice A T.length c, .int .i64 lo, .int .i64 hi, .int .i64 turn, .int .i64 slew] := by focus (apply Box.via; apply Exists.intro; apply And.intro; (repeat first | with_reducible assumption | with_reducible exact Box.new _ _ _ | ((with_reducible apply Box.newAt); focus (simp; done)) | (with_reducible apply Box.drew) | (with_reducible apply Box.drewN) | (with_reducible apply Box.set) | (with_reducible apply Box.alloc) | (with_reducible apply Box.far) | (with_reducible apply Box.below (hb := hb3))); all_goals (first | with_reducible exact Nat.le_refl _ | omega | (simp; done) | (simp; omega) | (have := hb3.size; (try simp at this); omega) | (have := hb3.size; (try simp at this); (try simp); omega)))
  have hB : Below w.heap.size w w3 := by focus ((repeat first | with_reducible exact Below.refl _ _ | (with_reducible refine Below.setCell ?_ ?_ _) | (with_reducible refine Below.alloc ?_ ?_ _) | (with_reducible refine below_drewN ?_ _) | (with_reducible refine Below.drew ?_) | (with_reducible refine Below.trans ?_ (Below.mono hb3 ?_)) | (with_reducible refine Below.trans ?_ (Below.mono hb2 ?_)) | (with_reducible refine Below.trans ?_ (Below.mono hb1 ?_))); all_goals (first | with_reducible exact Nat.le_refl _ | omega | (simp; done) | (simp; omega) | (have := hb3.size; (try simp at this); have := hb2.size; (try simp at this); have := hb1.size; (try simp at this); omega) | (have := hb3.size; (try simp at this); have := hb2.size; (try simp at this); have := hb1.size; (try simp at this); (try simp); omega)))
  clear hb1 hb2 hb3 c00 c01 c02 c03 c04 hl0
  generalize w3 = W5 at *
  obtain ⟨hl, hhl⟩ : ∃ hl, hldB sea = hl := ⟨_, rfl⟩
  obtain ⟨be, hbe⟩ : ∃ be, brkE sea = be := ⟨_, rfl⟩
  obtain ⟨hc, hhc⟩ : ∃ hc : Int, (if sea.isNone = true then (0 : Int) else 22) = hc := ⟨_, rfl⟩
  obtain ⟨b, hb⟩ : ∃ b, sea.getD [] = b := ⟨_, rfl⟩
  rw [hhl] at HO; rw [hbe, hb] at BO; rw [hhc] at CC
  go_cut [5, 6] (fun s5 s6 wx => ∃ g1 cap1, s5 = .slice (some ⟨g1, 0, none⟩) SL.length cap1 ∧ s6 = .int .i64 0 ∧ SlV wx (some ⟨g1, 0, none⟩) (SL.flatMap st3V) ∧ Box wx w.heap.size 26 #[.slice A T.length c, .int .i64 lo, .int .i64 hi, .int .i64 turn, .int .i64 slew] ∧ Below w.heap.size w wx)
  case first => as_aux_lemma =>
    (have c00 : (W5).cell? ⟨w.heap.size, 0, none⟩ = some (.slice A T.length c) := q0.cell 0); (have c01 : (W5).cell? ⟨w.heap.size, 1, none⟩ = some (.int .i64 lo) := q0.cell 1); (have c02 : (W5).cell? ⟨w.heap.size, 2, none⟩ = some (.int .i64 hi) := q0.cell 2); (have c03 : (W5).cell? ⟨w.heap.size, 3, none⟩ = some (.int .i64 turn) := q0.cell 3); (have c04 : (W5).cell? ⟨w.heap.size, 4, none⟩ = some (.int .i64 slew) := q0.cell 4); (have hl0 := q0.lt)
    go_wp2_with (first | (go_at_call 18; refine (CL.out _ (SlI.below HS.out (by focus ((repeat first | with_reducible exact Below.refl _ _ | (with_reducible refine Below.setCell ?_ ?_ _) | (with_reducible refine Below.alloc ?_ ?_ _) | (with_reducible refine below_drewN ?_ _) | (with_reducible refine Below.drew ?_) | (with_reducible refine Below.trans ?_ (Below.mono hB ?_))); all_goals (first | with_reducible exact Nat.le_refl _ | omega | (simp; done) | (simp; omega) | (have := hB.size; (try simp at this); omega) | (have := hB.size; (try simp at this); (try simp); omega)))))).mono ?_; rintro e w2 ⟨D2, d2, rfl, hD2, hb2⟩) | (go_at_call 22; refine (RO.out _ _ _ (SlI.below hD2 (by focus ((repeat first | with_reducible exact Below.refl _ _ | (with_reducible refine Below.setCell ?_ ?_ _) | (with_reducible refine Below.alloc ?_ ?_ _) | (with_reducible refine below_drewN ?_ _) | (with_reducible refine Below.drew ?_)); all_goals (first | with_reducible exact Nat.le_refl _ | omega | (simp; done) | (simp; omega) | (omega) | ((try simp); omega)))))).mono ?_; rintro e w3 ⟨g1, cap1, rfl, hS1, hb3⟩) | fail)
    go_meet
    refine ⟨_, _, rfl, rfl, hS1, ?_, ?_⟩
    all_goals first | (focus (apply Box.via; apply Exists.intro; apply And.intro; (repeat first | with_reducible assumption | with_reducible exact Box.new _ _ _ | ((with_reducible apply Box.newAt); focus (simp; done)) | (with_reducible apply Box.drew) | (with_reducible apply Box.drewN) | (with_reducible apply Box.set) | (with_reducible apply Box.alloc) | (with_reducible apply Box.far) | (with_reducible apply Box.below (hb := hb2)) | (with_reducible apply Box.below (hb := hb3))); all_goals (first | with_reducible exact Nat.le_refl _ | omega | (simp; done) | (simp; omega) | (have := hb2.size; (try simp at this); have := hb3.size; (try simp at this); omega) | (have := hb2.size; (try simp at this); have := hb3.size; (try simp at this); (try simp); omega)))) | (focus ((repeat first | with_reducible exact Below.refl _ _ | (with_reducible refine Below.setCell ?_ ?_ _) | (with_reducible refine Below.alloc ?_ ?_ _) | (with_reducible refine below_drewN ?_ _) | (with_reducible refine Below.drew ?_) | (with_reducible refine Below.trans ?_ (Below.mono hb2 ?_)) | (with_reducible refine Below.trans ?_ (Below.mono hb3 ?_)) | (with_reducible refine Below.trans ?_ (Below.mono hB ?_))); all_goals (first | with_reducible exact Nat.le_refl _ | omega | (simp; done) | (simp; omega) | (have := hb2.size; (try simp at this); have := hb3.size; (try simp at this); have := hB.size; (try simp at this); omega) | (have := hb2.size; (try simp at this); have := hb3.size; (try simp at this); have := hB.size; (try simp at this); (try simp); omega))))
  case rest =>
    obtain ⟨g1, cap1, rfl, rfl, hS, q0', hB'⟩ := hcut
    (clear q0 hB; have q0 := q0'; have hB := hB'; clear q0' hB'; generalize wc = W5 at *)
    go_upto_region 6 with fail
    go_cut [7, 8] (fun s7 s8 wx => s7 = .bool hl ∧ s8 = .int .i64 0 ∧ SlV wx (some ⟨g1, 0, none⟩) (SL.flatMap st3V) ∧ Box wx w.heap.size 26 #[.slice A T.length c, .int .i64 lo, .int .i64 hi, .int .i64 turn, .int .i64 slew] ∧ Below w.heap.size w wx)
    case first => as_aux_lemma =>
      (have c00 : (W5).cell? ⟨w.heap.size, 0, none⟩ = some (.slice A T.length c) := q0.cell 0); (have c01 : (W5).cell? ⟨w.heap.size, 1, none⟩ = some (.int .i64 lo) := q0.cell 1); (have c02 : (W5).cell? ⟨w.heap.size, 2, none⟩ = some (.int .i64 hi) := q0.cell 2); (have c03 : (W5).cell? ⟨w.heap.size, 3, none⟩ = some (.int .i64 turn) := q0.cell 3); (have c04 : (W5).cell? ⟨w.heap.size, 4, none⟩ = some (.int .i64 slew) := q0.cell 4); (have hl0 := q0.lt)
      go_wp2_with (first | (go_at_call 18; refine (CL.out _ (SlI.below HS.out (by focus ((repeat first | with_reducible exact Below.refl _ _ | (with_reducible refine Below.setCell ?_ ?_ _) | (with_reducible refine Below.alloc ?_ ?_ _) | (with_reducible refine below_drewN ?_ _) | (with_reducible refine Below.drew ?_) | (with_reducible refine Below.trans ?_ (Below.mono hB ?_))); all_goals (first | with_reducible exact Nat.le_refl _ | omega | (simp; done) | (simp; omega) | (have := hB.size; (try simp at this); omega) | (have := hB.size; (try simp at this); (try simp); omega)))))).mono ?_; rintro e w2 ⟨D2, d2, rfl, hD2, hb2⟩) | (go_at_call 20; refine (HO.out _ _ _ (SlI.below hD2 (by focus ((repeat first | with_reducible exact Below.refl _ _ | (with_reducible refine Below.setCell ?_ ?_ _) | (with_reducible refine Below.alloc ?_ ?_ _) | (with_reducible refine below_drewN ?_ _) | (with_reducible refine Below.drew ?_)); all_goals (first | with_reducible exact Nat.le_refl _ | omega | (simp; done) | (simp; omega) | (omega) | ((try simp); omega)))))).mono ?_; rintro e w3 ⟨rfl, hb3⟩) | fail)
      go_meet
      refine ⟨rfl, rfl, SlV.below hS (by focus ((repeat first | with_reducible exact Below.refl _ _ | (with_reducible refine Below.setCell ?_ ?_ _) | (with_reducible refine Below.alloc ?_ ?_ _) | (with_reducible refine below_drewN ?_ _) | (with_reducible refine Below.drew ?_) | (with_reducible refine Below.trans ?_ (Below.mono hb2 ?_)) | (with_reducible refine Below.trans ?_ (Below.mono hb3 ?_))); all_goals (first | with_reducible exact Nat.le_refl _ | omega | (simp; done) | (simp; omega) | (have := hb2.size; (try simp at this); have := hb3.size; (try simp at this); omega) | (have := hb2.size; (try simp at this); have := hb3.size; (try simp at this); (try simp); omega)))), ?_, ?_⟩
      all_goals first | (focus (apply Box.via; apply Exists.intro; apply And.intro; (repeat first | with_reducible assumption | with_reducible exact Box.new _ _ _ | ((with_reducible apply Box.newAt); focus (simp; done)) | (with_reducible apply Box.drew) | (with_reducible apply Box.drewN) | (with_reducible apply Box.set) | (with_reducible apply Box.alloc) | (with_reducible apply Box.far) | (with_reducible apply Box.below (hb := hb2)) | (with_reducible apply Box.below (hb := hb3))); all_goals (first | with_reducible exact Nat.le_refl _ | omega | (simp; done) | (simp; omega) | (have := hb2.size; (try simp at this); have := hb3.size; (try simp at this); omega) | (have := hb2.size; (try simp at this); have := hb3.size; (try simp at this); (try simp); omega)))) | (focus ((repeat first | with_reducible exact Below.refl _ _ | (with_reducible refine Below.setCell ?_ ?_ _) | (with_reducible refine Below.alloc ?_ ?_ _) | (with_reducible refine below_drewN ?_ _) | (with_reducible refine Below.drew ?_) | (with_reducible refine Below.trans ?_ (Below.mono hb2 ?_)) | (with_reducible refine Below.trans ?_ (Below.mono hb3 ?_)) | (with_reducible refine Below.trans ?_ (Below.mono hB ?_))); all_goals (first | with_reducible exact Nat.le_refl _ | omega | (simp; done) | (simp; omega) | (have := hb2.size; (try simp at this); have := hb3.size; (try simp at this); have := hB.size; (try simp at this); omega) | (have := hb2.size; (try simp at this); have := hb3.size; (try simp at this); have := hB.size; (try simp at this); (try simp); omega))))
    case rest =>
      clear hS
      obtain ⟨rfl, rfl, hS, q0', hB'⟩ := hcut
      (clear q0 hB; have q0 := q0'; have hB := hB'; clear q0' hB'; generalize wc = W5 at *)
      go_upto_region 7 with fail
      go_cut [9, 10] (fun s9 s10 wx => ∃ G capb, b.length ≤ capb ∧ s9 = .slice G b.length capb ∧ s10 = .int .i64 be ∧ SlI wx G b ∧ SlV wx (some ⟨g1, 0, none⟩) (SL.flatMap st3V) ∧ Box wx w.heap.size 26 #[.slice A T.length c, .int .i64 lo, .int .i64 hi, .int .i64 turn, .int .i64 slew] ∧ Below w.heap.size w wx)
      case first => as_aux_lemma =>
        (have c00 : (W5).cell? ⟨w.heap.size, 0, none⟩ = some (.slice A T.length c) := q0.cell 0); (have c01 : (W5).cell? ⟨w.heap.size, 1, none⟩ = some (.int .i64 lo) := q0.cell 1); (have c02 : (W5).cell? ⟨w.heap.size, 2, none⟩ = some (.int .i64 hi) := q0.cell 2); (have c03 : (W5).cell? ⟨w.heap.size, 3, none⟩ = some (.int .i64 turn) := q0.cell 3); (have c04 : (W5).cell? ⟨w.heap.size, 4, none⟩ = some (.int .i64 slew) := q0.cell 4); (have hl0 := q0.lt)
        go_wp2_with (first | (go_at_call 18; refine (CL.out _ (SlI.below HS.out (by focus ((repeat first | with_reducible exact Below.refl _ _ | (with_reducible refine Below.setCell ?_ ?_ _) | (with_reducible refine Below.alloc ?_ ?_ _) | (with_reducible refine below_drewN ?_ _) | (with_reducible refine Below.drew ?_) | (with_reducible refine Below.trans ?_ (Below.mono hB ?_))); all_goals (first | with_reducible exact Nat.le_refl _ | omega | (simp; done) | (simp; omega) | (have := hB.size; (try simp at this); omega) | (have := hB.size; (try simp at this); (try simp); omega)))))).mono ?_; rintro e w2 ⟨D2, d2, rfl, hD2, hb2⟩) | (go_at_call 21; refine (BO.out _ _ _ (SlI.below hD2 (by focus ((repeat first | with_reducible exact Below.refl _ _ | (with_reducible refine Below.setCell ?_ ?_ _) | (with_reducible refine Below.alloc ?_ ?_ _) | (with_reducible refine below_drewN ?_ _) | (with_reducible refine Below.drew ?_)); all_goals (first | with_reducible exact Nat.le_refl _ | omega | (simp; done) | (simp; omega) | (omega) | ((try simp); omega)))))).mono ?_; rintro e w3 ⟨G, cap3, hcap3, rfl, hG3, hb3⟩) | fail)
        go_meet
        refine ⟨_, _, hcap3, rfl, rfl, hG3, SlV.below hS (by focus ((repeat first | with_reducible exact Below.refl _ _ | (with_reducible refine Below.setCell ?_ ?_ _) | (with_reducible refine Below.alloc ?_ ?_ _) | (with_reducible refine below_drewN ?_ _) | (with_reducible refine Below.drew ?_) | (with_reducible refine Below.trans ?_ (Below.mono hb2 ?_)) | (with_reducible refine Below.trans ?_ (Below.mono hb3 ?_))); all_goals (first | with_reducible exact Nat.le_refl _ | omega | (simp; done) | (simp; omega) | (have := hb2.size; (try simp at this); have := hb3.size; (try simp at this); omega) | (have := hb2.size; (try simp at this); have := hb3.size; (try simp at this); (try simp); omega)))), ?_, ?_⟩
        all_goals first | (focus (apply Box.via; apply Exists.intro; apply And.intro; (repeat first | with_reducible assumption | with_reducible exact Box.new _ _ _ | ((with_reducible apply Box.newAt); focus (simp; done)) | (with_reducible apply Box.drew) | (with_reducible apply Box.drewN) | (with_reducible apply Box.set) | (with_reducible apply Box.alloc) | (with_reducible apply Box.far) | (with_reducible apply Box.below (hb := hb2)) | (with_reducible apply Box.below (hb := hb3))); all_goals (first | with_reducible exact Nat.le_refl _ | omega | (simp; done) | (simp; omega) | (have := hb2.size; (try simp at this); have := hb3.size; (try simp at this); omega) | (have := hb2.size; (try simp at this); have := hb3.size; (try simp at this); (try simp); omega)))) | (focus ((repeat first | with_reducible exact Below.refl _ _ | (with_reducible refine Below.setCell ?_ ?_ _) | (with_reducible refine Below.alloc ?_ ?_ _) | (with_reducible refine below_drewN ?_ _) | (with_reducible refine Below.drew ?_) | (with_reducible refine Below.trans ?_ (Below.mono hb2 ?_)) | (with_reducible refine Below.trans ?_ (Below.mono hb3 ?_)) | (with_reducible refine Below.trans ?_ (Below.mono hB ?_))); all_goals (first | with_reducible exact Nat.le_refl _ | omega | (simp; done) | (simp; omega) | (have := hb2.size; (try simp at this); have := hb3.size; (try simp at this); have := hB.size; (try simp at this); omega) | (have := hb2.size; (try simp at this); have := hb3.size; (try simp at this); have := hB.size; (try simp at this); (try simp); omega))))
      case rest =>
        clear hS
        obtain ⟨G, capb, hcapb, rfl, rfl, hG, hS, q0', hB'⟩ := hcut
        (clear q0 hB; have q0 := q0'; have hB := hB'; clear q0' hB'; generalize wc = W5 at *)
        go_upto_region 8 with fail
        go_cut [12] (fun s12 wx => s12 = .int .i64 hc ∧ SlI wx G b ∧ SlV wx (some ⟨g1, 0, none⟩) (SL.flatMap st3V) ∧ Box wx w.heap.size 26 #[.slice A T.length c, .int .i64 lo, .int .i64 hi, .int .i64 turn, .int .i64 slew] ∧ Below w.heap.size w wx)
        case first => as_aux_lemma =>
          (have c00 : (W5).cell? ⟨w.heap.size, 0, none⟩ = some (.slice A T.length c) := q0.cell 0); (have c01 : (W5).cell? ⟨w.heap.size, 1, none⟩ = some (.int .i64 lo) := q0.cell 1); (have c02 : (W5).cell? ⟨w.heap.size, 2, none⟩ = some (.int .i64 hi) := q0.cell 2); (have c03 : (W5).cell? ⟨w.heap.size, 3, none⟩ = some (.int .i64 turn) := q0.cell 3); (have c04 : (W5).cell? ⟨w.heap.size, 4, none⟩ = some (.int .i64 slew) := q0.cell 4); (have hl0 := q0.lt)
          go_wp2_with (first | (go_at_call 18; refine (CL.out _ (SlI.below HS.out (by focus ((repeat first | with_reducible exact Below.refl _ _ | (with_reducible refine Below.setCell ?_ ?_ _) | (with_reducible refine Below.alloc ?_ ?_ _) | (with_reducible refine below_drewN ?_ _) | (with_reducible refine Below.drew ?_) | (with_reducible refine Below.trans ?_ (Below.mono hB ?_))); all_goals (first | with_reducible exact Nat.le_refl _ | omega | (simp; done) | (simp; omega) | (have := hB.size; (try simp at this); omega) | (have := hB.size; (try simp at this); (try simp); omega)))))).mono ?_; rintro e w2 ⟨D2, d2, rfl, hD2, hb2⟩) | (go_at_call 66; refine (CS.out _ _ _ (SlV.below hS (by focus ((repeat first | with_reducible exact Below.refl _ _ | (with_reducible refine Below.setCell ?_ ?_ _) | (with_reducible refine Below.alloc ?_ ?_ _) | (with_reducible refine below_drewN ?_ _) | (with_reducible refine Below.drew ?_) | (with_reducible refine Below.trans ?_ (Below.mono hb2 ?_))); all_goals (first | with_reducible exact Nat.le_refl _ | omega | (simp; done) | (simp; omega) | (have := hb2.size; (try simp at this); omega) | (have := hb2.size; (try simp at this); (try simp); omega)))))).mono ?_; rintro e w3 ⟨D3, d3, rfl, hD3, hb3⟩) | (go_at_call 65; refine (CC.out _ _ _ _ _ (SlI.below hD2 (by focus ((repeat first | with_reducible exact Below.refl _ _ | (with_reducible refine Below.setCell ?_ ?_ _) | (with_reducible refine Below.alloc ?_ ?_ _) | (with_reducible refine below_drewN ?_ _) | (with_reducible refine Below.drew ?_) | (with_reducible refine Below.trans ?_ (Below.mono hb3 ?_))); all_goals (first | with_reducible exact Nat.le_refl _ | omega | (simp; done) | (simp; omega) | (have := hb3.size; (try simp at this); omega) | (have := hb3.size; (try simp at this); (try simp); omega))))) (SlV.below hD3 (by focus ((repeat first | with_reducible exact Below.refl _ _ | (with_reducible refine Below.setCell ?_ ?_ _) | (with_reducible refine Below.alloc ?_ ?_ _) | (with_reducible refine below_drewN ?_ _) | (with_reducible refine Below.drew ?_)); all_goals (first | with_reducible exact Nat.le_refl _ | omega | (simp; done) | (simp; omega) | (omega) | ((try simp); omega)))))).mono ?_; rintro e w4 ⟨rfl, hb4⟩) | fail)
          go_meet
          refine ⟨rfl, SlI.below hG (by focus ((repeat first | with_reducible exact Below.refl _ _ | (with_reducible refine Below.setCell ?_ ?_ _) | (with_reducible refine Below.alloc ?_ ?_ _) | (with_reducible refine below_drewN ?_ _) | (with_reducible refine Below.drew ?_) | (with_reducible refine Below.trans ?_ (Below.mono hb2 ?_)) | (with_reducible refine Below.trans ?_ (Below.mono hb3 ?_)) | (with_reducible refine Below.trans ?_ (Below.mono hb4 ?_))); all_goals (first | with_reducible exact Nat.le_refl _ | omega | (simp; done) | (simp; omega) | (have := hb2.size; (try simp at this); have := hb3.size; (try simp at this); have := hb4.size; (try simp at this); omega) | (have := hb2.size; (try simp at this); have := hb3.size; (try simp at this); have := hb4.size; (try simp at this); (try simp); omega)))), SlV.below hS (by focus ((repeat first | with_reducible exact Below.refl _ _ | (with_reducible refine Below.setCell ?_ ?_ _) | (with_reducible refine Below.alloc ?_ ?_ _) | (with_reducible refine below_drewN ?_ _) | (with_reducible refine Below.drew ?_) | (with_reducible refine Below.trans ?_ (Below.mono hb2 ?_)) | (with_reducible refine Below.trans ?_ (Below.mono hb3 ?_)) | (with_reducible refine Below.trans ?_ (Below.mono hb4 ?_))); all_goals (first | with_reducible exact Nat.le_refl _ | omega | (simp; done) | (simp; omega) | (have := hb2.size; (try simp at this); have := hb3.size; (try simp at this); have := hb4.size; (try simp at this); omega) | (have := hb2.size; (try simp at this); have := hb3.size; (try simp at this); have := hb4.size; (try simp at this); (try simp); omega)))), ?_, ?_⟩
          all_goals first | (focus (apply Box.via; apply Exists.intro; apply And.intro; (repeat first | with_reducible assumption | with_reducible exact Box.new _ _ _ | ((with_reducible apply Box.newAt); focus (simp; done)) | (with_reducible apply Box.drew) | (with_reducible apply Box.drewN) | (with_reducible apply Box.set) | (with_reducible apply Box.alloc) | (with_reducible apply Box.far) | (with_reducible apply Box.below (hb := hb2)) | (with_reducible apply Box.below (hb := hb3)) | (with_reducible apply Box.below (hb := hb4))); all_goals (first | with_reducible exact Nat.le_refl _ | omega | (simp; done) | (simp; omega) | (have := hb2.size; (try simp at this); have := hb3.size; (try simp at this); have := hb4.size; (try simp at this); omega) | (have := hb2.size; (try simp at this); have := hb3.size; (try simp at this); have := hb4.size; (try simp at this); (try simp); omega)))) | (focus ((repeat first | with_reducible exact Below.refl _ _ | (with_reducible refine Below.setCell ?_ ?_ _) | (with_reducible refine Below.alloc ?_ ?_ _) | (with_reducible refine below_drewN ?_ _) | (with_reducible refine Below.drew ?_) | (with_reducible refine Below.trans ?_ (Below.mono hb2 ?_)) | (with_reducible refine Below.trans ?_ (Below.mono hb3 ?_)) | (with_reducible refine Below.trans ?_ (Below.mono hb4 ?_)) | (with_reducible refine Below.trans ?_ (Below.mono hB ?_))); all_goals (first | with_reducible exact Nat.le_refl _ | omega | (simp; done) | (simp; omega) | (have := hb2.size; (try simp at this); have := hb3.size; (try simp at this); have := hb4.size; (try simp at this); have := hB.size; (try simp at this); omega) | (have := hb2.size; (try simp at this); have := hb3.size; (try simp at this); have := hb4.size; (try simp at this); have := hB.size; (try simp at this); (try simp); omega))))
        case rest =>
          clear hS hG
          obtain ⟨rfl, hG, hS, q0', hB'⟩ := hcut
          (clear q0 hB; have q0 := q0'; have hB := hB'; clear q0' hB'; generalize wc = W5 at *)
          go_upto_region 9 with fail
          go_cut [96] (fun s96 wx => s96 = .bool false ∧ wx = W5)
          case first => as_aux_lemma =>
            cases sea with
            | none =>
              obtain rfl : hl = true := hhl.symm
              obtain rfl : be = 12 := hbe.symm
              obtain rfl : hc = 0 := hhc.symm
              go_wp2_with fail
              go_meet
              exact ⟨rfl, rfl⟩
            | some L =>
              obtain rfl : hl = false := hhl.symm
              obtain rfl : be = 0 := hbe.symm
              obtain rfl : hc = 22 := hhc.symm
              go_wp2_with fail
              go_meet
              exact ⟨rfl, rfl⟩
          case rest =>
            obtain ⟨rfl, rfl⟩ := hcut
            clear RO HO BO CS CC LE hbe hhc
            go_upto_block 0 with fail
            go_cut [] (fun wx => SlI wx G b ∧ Box wx w.heap.size 26 #[.slice A T.length c, .int .i64 lo, .int .i64 hi, .int .i64 turn, .int .i64 slew] ∧ Below w.heap.size w wx)
            case first => as_aux_lemma =>
              have z0 : Hid (Leads T lo hi turn slew (hs.take 0) (0, 0, 0)) := .nil
              generalize wc = W5 at *
              go_wp2_with fail
              go_loopw [14] (fun iv wr => ∃ (k : Nat) (x1 x2 x3 : Int), k ≤ hs.length ∧ iv = .int .i64 k ∧ Hid (Leads T lo hi turn slew (hs.take k) (x1, x2, x3)) ∧ Box wr W5.heap.size 42 #[.int .i64 x1, .int .i64 x2, .int .i64 x3] ∧ Below W5.heap.size W5 wr) (fun iv _ => hs.length - (intOf iv).toNat)
              case atStart => exact ⟨0, 0, 0, 0, Nat.zero_le _, rfl, z0, by focus (apply Box.via; apply Exists.intro; apply And.intro; (repeat first | with_reducible assumption | with_reducible exact Box.new _ _ _ | ((with_reducible apply Box.newAt); focus (simp; done)) | (with_reducible apply Box.drew) | (with_reducible apply Box.drewN) | (with_reducible apply Box.set) | (with_reducible apply Box.alloc) | (with_reducible apply Box.far)); all_goals (first | with_reducible exact Nat.le_refl _ | omega | (simp; done) | (simp; omega) | (omega) | ((try simp); omega))), by focus ((repeat first | with_reducible exact Below.refl _ _ | (with_reducible refine Below.setCell ?_ ?_ _) | (with_reducible refine Below.alloc ?_ ?_ _) | (with_reducible refine below_drewN ?_ _) | (with_reducible refine Below.drew ?_)); all_goals (first | with_reducible exact Nat.le_refl _ | omega | (simp; done) | (simp; omega) | (omega) | ((try simp); omega)))⟩
              case round =>
                obtain ⟨k, x1, x2, x3, hk, rfl, hL, hX, hW⟩ := hrel
                have hBr := hB.trans (hW.mono (by have := hB.size; omega))
                have lq := q0.lt
                by_cases hlt : k < hs.length
                · obtain ⟨bh, oh, rfl, hbh, hch⟩ := (SlI.below HH.out hBr) k _ (List.getElem?_eq_getElem hlt)
                  have hT1 : hs.take (k + 1) = hs.take k ++ [hs[k]] := by rw [List.take_succ_eq_append_getElem hlt]
                  generalize hs[k] = h at *
                  have H1 := Lib.hid (show (stpP T lo hi turn slew (x1, x2, x3) h).2 = 0 → Leads T lo hi turn slew (hs.take (k + 1)) (stpP T lo hi turn slew (x1, x2, x3) h).1 from fun e => by rw [hT1]; exact leads_next hL.out e)
                  have H2 := Lib.hid (show (stpP T lo hi turn slew (x1, x2, x3) h).2 = 22 → Breaks T lo hi turn slew (hs.take (k + 1)) from fun e => by rw [hT1]; exact leads_break hL.out e)
                  have NX0 := fun D d => NI.out D d x1 x2 x3 h
                  rw [NR.out _ _ hL.out h] at NX0
                  have NX := Lib.hid NX0
                  clear NX0
                  have HV := Lib.hid (LV.out _ (LM.out _ _ hL.out))
                  clear hT1 NI NR hL
                  generalize stpP T lo hi turn slew (x1, x2, x3) h = NP at *
                  obtain ⟨⟨n1, n2, n3⟩, ne⟩ := NP
                  dsimp only at H1 H2 NX
                  have hlt' : (k : Int) < (hs.length : Int) := by omega
                  have hG' := SlI.below hG hW
                  have hS' := SlV.below hS hW
                  have hq := q0.below hW lq
                  clear hG hS q0 hB
                  have hX0 := hX.cell 0; have hX1 := hX.cell 1; have hX2 := hX.cell 2
                  simp at hX0 hX1 hX2
                  have lX := hX.lt
                  clear lq
                  go_upto_region 15 with fail
                  go_cut [15, 16] (fun s15 s16 wx => ∃ f, s15 = .pointer (some ⟨f, 0, none⟩) ∧ s16 = .int .i64 ne ∧ Box wx f 42 #[.int .i64 n1, .int .i64 n2, .int .i64 n3] ∧ wr.heap.size ≤ f ∧ Below wr.heap.size wr wx)
                  case first => as_aux_lemma =>
                    have c00 := hq.cell 0; have c01 := hq.cell 1; have c02 := hq.cell 2; have c03 := hq.cell 3; have c04 := hq.cell 4
                    simp at c00 c01 c02 c03 c04
                    have lq := hq.lt
                    have : w.heap.size ≠ wr.heap.size := (by omega); have : wr.heap.size ≠ w.heap.size := (by omega)
                    have : W5.heap.size ≠ wr.heap.size := (by omega); have : wr.heap.size ≠ W5.heap.size := (by omega)
                    have : bh ≠ wr.heap.size := (by omega); have : wr.heap.size ≠ bh := (by omega)
                    go_region_held3 (fun w' => w'.cell? ⟨w.heap.size, 0, none⟩ = some (.slice A T.length c) ∧ w'.cell? ⟨w.heap.size, 1, none⟩ = some (.int .i64 lo) ∧ w'.cell? ⟨w.heap.size, 2, none⟩ = some (.int .i64 hi) ∧ w'.cell? ⟨w.heap.size, 3, none⟩ = some (.int .i64 turn) ∧ w'.cell? ⟨w.heap.size, 4, none⟩ = some (.int .i64 slew) ∧ w'.cell? ⟨W5.heap.size, 0, none⟩ = some (.int .i64 x1) ∧ w'.cell? ⟨W5.heap.size, 1, none⟩ = some (.int .i64 x2) ∧ w'.cell? ⟨W5.heap.size, 2, none⟩ = some (.int .i64 x3) ∧ w'.cell? ⟨bh, oh + k, none⟩ = some (.int .i64 h)) (go_keep) (first | (go_at_call 18; refine (CL.out _ (SlI.below HS.out (by focus ((repeat first | with_reducible exact Below.refl _ _ | (with_reducible refine Below.setCell ?_ ?_ _) | (with_reducible refine Below.alloc ?_ ?_ _) | (with_reducible refine below_drewN ?_ _) | (with_reducible refine Below.drew ?_) | (with_reducible refine Below.trans ?_ (Below.mono hBr ?_))); all_goals (first | with_reducible exact Nat.le_refl _ | omega | (simp; done) | (simp; omega) | (have := hBr.size; (try simp at this); omega) | (have := hBr.size; (try simp at this); (try simp); omega)))))).mono ?_; rintro e w2 ⟨D, d', rfl, hD, hb2⟩; have hz2 : wr.heap.size ≤ w2.heap.size := (by have := hb2.size; (try simp at this); omega); have : w.heap.size ≠ w2.heap.size := (by omega); have : w2.heap.size ≠ w.heap.size := (by omega); have : W5.heap.size ≠ w2.heap.size := (by omega); have : w2.heap.size ≠ W5.heap.size := (by omega); have : bh ≠ w2.heap.size := (by omega); have : w2.heap.size ≠ bh := (by omega); have k0 := ((hb2).cell (p := ⟨w.heap.size, 0, none⟩) (by simp; omega)).trans (show _ = some (Value.slice A T.length c) from by simp [go_sem, *]); have k1 := ((hb2).cell (p := ⟨w.heap.size, 1, none⟩) (by simp; omega)).trans (show _ = some (Value.int .i64 lo) from by simp [go_sem, *]); have k2 := ((hb2).cell (p := ⟨w.heap.size, 2, none⟩) (by simp; omega)).trans (show _ = some (Value.int .i64 hi) from by simp [go_sem, *]); have k3 := ((hb2).cell (p := ⟨w.heap.size, 3, none⟩) (by simp; omega)).trans (show _ = some (Value.int .i64 turn) from by simp [go_sem, *]); have k4 := ((hb2).cell (p := ⟨w.heap.size, 4, none⟩) (by simp; omega)).trans (show _ = some (Value.int .i64 slew) from by simp [go_sem, *]); have k5 := ((hb2).cell (p := ⟨W5.heap.size, 0, none⟩) (by simp; omega)).trans (show _ = some (Value.int .i64 x1) from by simp [go_sem, *]); have k6 := ((hb2).cell (p := ⟨W5.heap.size, 1, none⟩) (by simp; omega)).trans (show _ = some (Value.int .i64 x2) from by simp [go_sem, *]); have k7 := ((hb2).cell (p := ⟨W5.heap.size, 2, none⟩) (by simp; omega)).trans (show _ = some (Value.int .i64 x3) from by simp [go_sem, *]); have k8 := ((hb2).cell (p := ⟨bh, oh + k, none⟩) (by simp; omega)).trans (show _ = some (Value.int .i64 h) from by simp [go_sem, *]); (first | (refine (have bx : Box w2 (wr.heap.size) 42 #[.int .i64 0, .int .i64 0, .int .i64 0] := ?_; ?_); (focus (apply Box.via; apply Exists.intro; apply And.intro; (repeat first | with_reducible assumption | with_reducible exact Box.new _ _ _ | ((with_reducible apply Box.newAt); focus (simp; done)) | (with_reducible apply Box.drew) | (with_reducible apply Box.drewN) | (with_reducible apply Box.set) | (with_reducible apply Box.alloc) | (with_reducible apply Box.far) | (with_reducible apply Box.below (hb := hb2))); all_goals (first | with_reducible exact Nat.le_refl _ | omega | (simp; done) | (simp; omega) | (have := hb2.size; (try simp at this); omega) | (have := hb2.size; (try simp at this); (try simp); omega)))); have := bx.lt; have : (w2).cell? ⟨wr.heap.size, 0, none⟩ = some (.int .i64 0) := bx.cell 0; have : (w2).cell? ⟨wr.heap.size, 1, none⟩ = some (.int .i64 0) := bx.cell 1; have : (w2).cell? ⟨wr.heap.size, 2, none⟩ = some (.int .i64 0) := bx.cell 2; have : ∀ o, (w2).frozen? ⟨wr.heap.size, o, none⟩ = false := bx.froz) | skip)) | (go_at_call 49; refine (NX.out _ _ _ (SlI.below hD (by focus ((repeat first | with_reducible exact Below.refl _ _ | (with_reducible refine Below.setCell ?_ ?_ _) | (with_reducible refine Below.alloc ?_ ?_ _) | (with_reducible refine below_drewN ?_ _) | (with_reducible refine Below.drew ?_)); all_goals (first | with_reducible exact Nat.le_refl _ | omega | (simp; done) | (simp; omega) | (omega) | ((try simp); omega)))))).mono ?_; rintro e w3 ⟨rfl, hb3⟩; have hz3 : w2.heap.size ≤ w3.heap.size := (by have := hb3.size; (try simp at this); omega); have : w.heap.size ≠ w3.heap.size := (by omega); have : w3.heap.size ≠ w.heap.size := (by omega); have : W5.heap.size ≠ w3.heap.size := (by omega); have : w3.heap.size ≠ W5.heap.size := (by omega); have : bh ≠ w3.heap.size := (by omega); have : w3.heap.size ≠ bh := (by omega); have k0 := ((hb3).cell (p := ⟨w.heap.size, 0, none⟩) (by simp; omega)).trans (show _ = some (Value.slice A T.length c) from by simp [go_sem, *]); have k1 := ((hb3).cell (p := ⟨w.heap.size, 1, none⟩) (by simp; omega)).trans (show _ = some (Value.int .i64 lo) from by simp [go_sem, *]); have k2 := ((hb3).cell (p := ⟨w.heap.size, 2, none⟩) (by simp; omega)).trans (show _ = some (Value.int .i64 hi) from by simp [go_sem, *]); have k3 := ((hb3).cell (p := ⟨w.heap.size, 3, none⟩) (by simp; omega)).trans (show _ = some (Value.int .i64 turn) from by simp [go_sem, *]); have k4 := ((hb3).cell (p := ⟨w.heap.size, 4, none⟩) (by simp; omega)).trans (show _ = some (Value.int .i64 slew) from by simp [go_sem, *]); have k5 := ((hb3).cell (p := ⟨W5.heap.size, 0, none⟩) (by simp; omega)).trans (show _ = some (Value.int .i64 x1) from by simp [go_sem, *]); have k6 := ((hb3).cell (p := ⟨W5.heap.size, 1, none⟩) (by simp; omega)).trans (show _ = some (Value.int .i64 x2) from by simp [go_sem, *]); have k7 := ((hb3).cell (p := ⟨W5.heap.size, 2, none⟩) (by simp; omega)).trans (show _ = some (Value.int .i64 x3) from by simp [go_sem, *]); have k8 := ((hb3).cell (p := ⟨bh, oh + k, none⟩) (by simp; omega)).trans (show _ = some (Value.int .i64 h) from by simp [go_sem, *]); (first | (refine (have bx : Box w3 (wr.heap.size) 42 #[.int .i64 0, .int .i64 0, .int .i64 0] := ?_; ?_); (focus (apply Box.via; apply Exists.intro; apply And.intro; (repeat first | with_reducible assumption | with_reducible exact Box.new _ _ _ | ((with_reducible apply Box.newAt); focus (simp; done)) | (with_reducible apply Box.drew) | (with_reducible apply Box.drewN) | (with_reducible apply Box.set) | (with_reducible apply Box.alloc) | (with_reducible apply Box.far) | (with_reducible apply Box.below (hb := hb3))); all_goals (first | with_reducible exact Nat.le_refl _ | omega | (simp; done) | (simp; omega) | (have := hb3.size; (try simp at this); omega) | (have := hb3.size; (try simp at this); (try simp); omega)))); have := bx.lt; have : (w3).cell? ⟨wr.heap.size, 0, none⟩ = some (.int .i64 0) := bx.cell 0; have : (w3).cell? ⟨wr.heap.size, 1, none⟩ = some (.int .i64 0) := bx.cell 1; have : (w3).cell? ⟨wr.heap.size, 2, none⟩ = some (.int .i64 0) := bx.cell 2; have : ∀ o, (w3).frozen? ⟨wr.heap.size, o, none⟩ = false := bx.froz) | (refine (have bx : Box w3 (w2.heap.size) 42 #[.int .i64 0, .int .i64 0, .int .i64 0] := ?_; ?_); (focus (apply Box.via; apply Exists.intro; apply And.intro; (repeat first | with_reducible assumption | with_reducible exact Box.new _ _ _ | ((with_reducible apply Box.newAt); focus (simp; done)) | (with_reducible apply Box.drew) | (with_reducible apply Box.drewN) | (with_reducible apply Box.set) | (with_reducible apply Box.alloc) | (with_reducible apply Box.far) | (with_reducible apply Box.below (hb := hb3))); all_goals (first | with_reducible exact Nat.le_refl _ | omega | (simp; done) | (simp; omega) | (have := hb3.size; (try simp at this); omega) | (have := hb3.size; (try simp at this); (try simp); omega)))); have := bx.lt; have : (w3).cell? ⟨w2.heap.size, 0, none⟩ = some (.int .i64 0) := bx.cell 0; have : (w3).cell? ⟨w2.heap.size, 1, none⟩ = some (.int .i64 0) := bx.cell 1; have : (w3).cell? ⟨w2.heap.size, 2, none⟩ = some (.int .i64 0) := bx.cell 2; have : ∀ o, (w3).frozen? ⟨w2.heap.size, o, none⟩ = false := bx.froz) | skip)) | fail)
                    all_goals go_wp2_with fail
                    all_goals go_meet
                    all_goals refine ⟨_, rfl, rfl, ?_, ?_, ?_⟩
                    all_goals first | (focus (apply Box.via; apply Exists.intro; apply And.intro; (repeat first | with_reducible assumption | with_reducible exact Box.new _ _ _ | ((with_reducible apply Box.newAt); focus (simp; done)) | (with_reducible apply Box.drew) | (with_reducible apply Box.drewN) | (with_reducible apply Box.set) | (with_reducible apply Box.alloc) | (with_reducible apply Box.far) | (with_reducible apply Box.below (hb := hb2)) | (with_reducible apply Box.below (hb := hb3))); all_goals (first | with_reducible exact Nat.le_refl _ | omega | (simp; done) | (simp; omega) | (have := hb2.size; (try simp at this); have := hb3.size; (try simp at this); omega) | (have := hb2.size; (try simp at this); have := hb3.size; (try simp at this); (try simp); omega)))) | (focus ((repeat first | with_reducible exact Below.refl _ _ | (with_reducible refine Below.setCell ?_ ?_ _) | (with_reducible refine Below.alloc ?_ ?_ _) | (with_reducible refine below_drewN ?_ _) | (with_reducible refine Below.drew ?_) | (with_reducible refine Below.trans ?_ (Below.mono hb2 ?_)) | (with_reducible refine Below.trans ?_ (Below.mono hb3 ?_))); all_goals (first | with_reducible exact Nat.le_refl _ | omega | (simp; done) | (simp; omega) | (have := hb2.size; (try simp at this); have := hb3.size; (try simp at this); omega) | (have := hb2.size; (try simp at this); have := hb3.size; (try simp at this); (try simp); omega)))) | (first | omega | (simp; omega))
                  case rest =>
                    obtain ⟨f, rfl, rfl, hF, hff, hC⟩ := hcut
                    have hWC := hW.trans (hC.mono (by have := hW.size; omega))
                    have hBC := hBr.trans (hC.mono (by have := hBr.size; omega))
                    have hGC := SlI.below hG' hC
                    have hSC := SlV.below hS' hC
                    have hqC := hq.below hC hq.lt
                    have hXC := hX.below hC lX
                    clear hG' hS' hq hX hX0 hX1 hX2 lX hch hbh NX hBr hW hC
                    generalize wc = W7 at *
                    by_cases h22 : ne = 22
                    · subst h22
                      obtain ⟨L, hL⟩ : ∃ L, sea = some L := by
                        cases sea with
                        | none => exact absurd (H2.out rfl) (FN.out rfl _)
                        | some L => exact ⟨L, rfl⟩
                      subst hL
                      obtain rfl : L = b := hb
                      obtain rfl : hl = false := hhl.symm
                      have hown := (FS.out _ rfl).2 _ (H2.out rfl)
                      obtain ⟨_, z2⟩ := sle_own hown
                      have hlen : (hs.take (k + 1)).length = k + 1 := by rw [List.length_take]; omega
                      have hle := hown.len
                      rw [hlen] at z2 hle
                      have hOwn : SlI W7 (some ⟨bh, oh, none⟩) (hs.take (k + 1)) := fun j u hj => by
                        rw [List.getElem?_take] at hj
                        split at hj
                        · exact (SlI.below HH.out hBC) j u hj
                        · cases hj
                      have HO := Lib.hid hOwn
                      have HGC := Lib.hid hGC
                      have hle' : (L.length : Int) ≤ (k : Int) + 1 := by omega
                      have hkd : (k : Int) + 1 ≤ (d : Int) := by omega
                      have v1 : IntKind.i64.wrap ((k : Int) + 1) = (k : Int) + 1 := IntWalk.i64_in _ (by omega)
                      have BF0 := fun W => before_c (hs.take (k + 1)) L (some ⟨bh, oh, none⟩) G d capb W (by omega) (by omega)
                      rw [hlen] at BF0
                      have BF := Lib.hid BF0
                      have hLl := Lib.hid hlen
                      clear BF0 hOwn hGC hown H1 H2 FN FS hlen hle hXC hqC hSC
                      by_cases hlt2 : L.length < k + 1
                      · have hlt3 : (L.length : Int) < (k : Int) + 1 := by omega
                        clear z2
                        go_wp2_with fail
                        go_ret
                        exact ⟨rfl, by focus ((repeat first | with_reducible exact Below.refl _ _ | (with_reducible refine Below.setCell ?_ ?_ _) | (with_reducible refine Below.alloc ?_ ?_ _) | (with_reducible refine below_drewN ?_ _) | (with_reducible refine Below.drew ?_) | (with_reducible refine Below.trans ?_ (Below.mono hBC ?_))); all_goals (first | with_reducible exact Nat.le_refl _ | omega | (simp; done) | (simp; omega) | (have := hBC.size; (try simp at this); omega) | (have := hBC.size; (try simp at this); (try simp); omega)))⟩
                      · have hlt3 : ¬ (L.length : Int) < (k : Int) + 1 := by omega
                        have Z2 := z2 (by omega)
                        rw [Z2] at BF
                        clear z2 Z2
                        go_wp2_with (first | (go_at_call 38; refine (BF.out _ HO.out HGC.out).mono ?_; rintro e w4 ⟨rfl, hb4⟩) | fail)
                        go_ret
                        exact ⟨rfl, by focus ((repeat first | with_reducible exact Below.refl _ _ | (with_reducible refine Below.setCell ?_ ?_ _) | (with_reducible refine Below.alloc ?_ ?_ _) | (with_reducible refine below_drewN ?_ _) | (with_reducible refine Below.drew ?_) | (with_reducible refine Below.trans ?_ (Below.mono hb4 ?_)) | (with_reducible refine Below.trans ?_ (Below.mono hBC ?_))); all_goals (first | with_reducible exact Nat.le_refl _ | omega | (simp; done) | (simp; omega) | (have := hb4.size; (try simp at this); have := hBC.size; (try simp at this); omega) | (have := hb4.size; (try simp at this); have := hBC.size; (try simp at this); (try simp); omega)))⟩
                    · have e22 := beqF h22
                      by_cases h0 : ne = 0
                      · subst h0
                        have hL1 := Lib.hid (H1.out rfl)
                        have hmem := LM.out _ _ hL1.out
                        have hvv := LV.out _ hmem
                        obtain ⟨v1, v2, v3, v4, v5, v6⟩ := hvv
                        dsimp only at v1 v2
                        have z1 : Hid ((n1, n2, n3) ∈ SL.drop 0) := by unfold Hid; simpa using hmem
                        clear H1 H2 hmem FN FS e22 h22
                        have f0 := hF.cell 0; have f1 := hF.cell 1; have f2 := hF.cell 2
                        simp at f0 f1 f2
                        have lF := hF.lt
                        have hSC' := Lib.hid hSC
                        clear hSC
                        go_wp2_with fail
                        go_loopw [18] (fun jv wr2 => ∃ j : Nat, jv = .int .i64 j ∧ Hid ((n1, n2, n3) ∈ SL.drop j) ∧ Below W7.heap.size W7 wr2) (fun jv _ => SL.length - (intOf jv).toNat)
                        case atStart => exact ⟨0, rfl, z1, Below.refl _ _⟩
                        case round =>
                          obtain ⟨j, rfl, hin, hR⟩ := hrel
                          have hjs : j < SL.length := by
                            rcases Nat.lt_or_ge j SL.length with h | h
                            · exact h
                            · have h2 := hin.out
                              rw [List.drop_eq_nil_of_le h] at h2
                              cases h2
                          obtain ⟨b1, o1, eb1, hbb, a0, a1, a2⟩ := ev_cells (SlV.below hSC'.out hR) (List.getElem?_eq_getElem hjs)
                          cases eb1
                          have D1 := Lib.hid (List.drop_eq_getElem_cons (l := SL) hjs)
                          generalize SL[j] = x at *
                          obtain ⟨y1, y2, y3⟩ := x
                          dsimp only at a0 a1 a2
                          simp only [Nat.zero_add] at a0 a1 a2
                          have hks' : (j : Int) < (SL.length : Int) := by omega
                          have hke : ((j : Int) == (SL.length : Int)) = false := beqF (by omega)
                          have hkd : decide ((j : Int) < (SL.length : Int)) = true := decide_eq_true hks'
                          have hF' := hF.below hR lF
                          have hq' := hqC.below hR hqC.lt
                          have hX' := hXC.below hR hXC.lt
                          clear f0 f1 f2
                          have f0 := hF'.cell 0; have f1 := hF'.cell 1; have f2 := hF'.cell 2
                          simp at f0 f1 f2
                          have lF' := hF'.lt
                          by_cases hxy : y1 = n1 ∧ y2 = n2 ∧ y3 = n3
                          · have h1 : same3 y1 y2 y3 n1 n2 n3 = true := same3_t.2 hxy
                            clear hxy
                            go_wp2_with fail
                            go_quiet (fail)
                            go_wp2_with fail
                            have hF8 := hF'.drewN nq; have hq8 := hq'.drewN nq; have hX8 := hX'.drewN nq
                            have hB8 := hBC.trans ((below_drewN hR nq).mono hBC.size)
                            have hG8 := SlI.below hGC (below_drewN hR nq)
                            have hW8 := hWC.trans ((below_drewN hR nq).mono hWC.size)
                            clear f0 f1 f2 a0 a1 a2
                            generalize World.drewN _ nq = W8 at hF8 hq8 hX8 hB8 hG8 hW8 ⊢
                            have f0 := hF8.cell 0; have f1 := hF8.cell 1; have f2 := hF8.cell 2
                            have g0 := hq8.cell 0
                            have x0 := hX8.cell 0; have x1 := hX8.cell 1; have x2 := hX8.cell 2; have xf := hX8.froz
                            simp at f0 f1 f2 g0 x0 x1 x2
                            have m1 := hF8.lt; have m2 := hq8.lt; have m3 := hX8.lt
                            have hsz : absI n1 ≤ ((T.length : Int)) / 2 := by unfold absI; split <;> omega
                            have hsd : decide ((T.length : Int) / 2 < absI n1) = false := decide_eq_false (by omega)
                            have SZ := Lib.hid (fun W => size_c n1 W (by omega) (by omega))
                            generalize absI n1 = an at *
                            go_quiet ((go_at_call 77; exact Calls.quiet_of_same ((SZ.out _).mono fun _ _ h => ⟨h.1, h.2.symm⟩)))
                            go_wp2_with fail
                            go_roundw
                            case rel => exact ⟨k + 1, n1, n2, n3, by omega, by go_num, hL1, by focus (apply Box.via; apply Exists.intro; apply And.intro; (repeat first | with_reducible assumption | with_reducible exact Box.new _ _ _ | ((with_reducible apply Box.newAt); focus (simp; done)) | (with_reducible apply Box.drew) | (with_reducible apply Box.drewN) | (with_reducible apply Box.set) | (with_reducible apply Box.alloc) | (with_reducible apply Box.far)); all_goals (first | with_reducible exact Nat.le_refl _ | omega | (simp; done) | (simp; omega) | (omega) | ((try simp); omega))), by focus ((repeat first | with_reducible exact Below.refl _ _ | (with_reducible refine Below.setCell ?_ ?_ _) | (with_reducible refine Below.alloc ?_ ?_ _) | (with_reducible refine below_drewN ?_ _) | (with_reducible refine Below.drew ?_) | (with_reducible refine Below.trans ?_ (Below.mono hW8 ?_))); all_goals (first | with_reducible exact Nat.le_refl _ | omega | (simp; done) | (simp; omega) | (have := hW8.size; (try simp at this); omega) | (have := hW8.size; (try simp at this); (try simp); omega)))⟩
                            case measure => simp [intOf]; omega
                          · have h1 : same3 y1 y2 y3 n1 n2 n3 = false := same3_f.2 hxy
                            have HXY := Lib.hid hxy
                            clear hxy
                            go_wp2_with fail
                            go_quiet (fail)
                            go_wp2_with fail
                            go_roundw
                            case rel =>
                              refine ⟨j + 1, by go_num, ?_, below_drewN hR _⟩
                              unfold Hid
                              have h2 := hin.out
                              rw [D1.out] at h2
                              rcases List.mem_cons.1 h2 with h3 | h3
                              · cases h3; exact absurd ⟨rfl, rfl, rfl⟩ HXY.out
                              · exact h3
                            case measure => simp [intOf]; omega
                      · have e0 := bneT h0
                        clear H1 H2
                        go_wp2_with fail
                        go_meet
                        exact ⟨hGC, hqC, hBC⟩
                · have hg : SlI wr G b := SlI.below hG hW
                  have hq : Box wr w.heap.size 26 #[.slice A T.length c, .int .i64 lo, .int .i64 hi, .int .i64 turn, .int .i64 slew] := q0.below hW lq
                  go_wp2_with fail
                  go_meet
                  exact ⟨hg, hq, hBr⟩
            case rest =>
              obtain ⟨hG', q0', hB'⟩ := hcut
              clear hG hS
              have hG := hG'
              clear hG'
              (clear q0 hB; have q0 := q0'; have hB := hB'; clear q0' hB'; generalize wc = W5 at *)
              cases sea with
              | none =>
                obtain rfl : hl = true := hhl.symm
                go_wp2_with fail
                go_ret
                exact ⟨rfl, by focus ((repeat first | with_reducible exact Below.refl _ _ | (with_reducible refine Below.setCell ?_ ?_ _) | (with_reducible refine Below.alloc ?_ ?_ _) | (with_reducible refine below_drewN ?_ _) | (with_reducible refine Below.drew ?_) | (with_reducible refine Below.trans ?_ (Below.mono hB ?_))); all_goals (first | with_reducible exact Nat.le_refl _ | omega | (simp; done) | (simp; omega) | (have := hB.size; (try simp at this); omega) | (have := hB.size; (try simp at this); (try simp); omega)))⟩
              | some L =>
                obtain rfl : hl = false := hhl.symm
                obtain rfl : L = b := hb
                clear hhl
                by_cases h60 : 60 < L.length
                · have hd : decide ((60 : Int) < (L.length : Int)) = true := decide_eq_true (by omega)
                  go_wp2_with fail
                  go_ret
                  exact ⟨rfl, by focus ((repeat first | with_reducible exact Below.refl _ _ | (with_reducible refine Below.setCell ?_ ?_ _) | (with_reducible refine Below.alloc ?_ ?_ _) | (with_reducible refine below_drewN ?_ _) | (with_reducible refine Below.drew ?_) | (with_reducible refine Below.trans ?_ (Below.mono hB ?_))); all_goals (first | with_reducible exact Nat.le_refl _ | omega | (simp; done) | (simp; omega) | (have := hB.size; (try simp at this); omega) | (have := hB.size; (try simp at this); (try simp); omega)))⟩
                · have hd6 : decide ((60 : Int) < (L.length : Int)) = false := decide_eq_false (by omega)
                  obtain ⟨⟨q, s, h, hLq, hlead, hmay, hw⟩, _⟩ := FS.out L rfl
                  obtain ⟨Ls, hrun, hlen, hlast⟩ := leads_run hlead
                  have hbr := breaks_run hlead hmay hw
                  rw [← hLq] at hbr
                  have hstp := stp_of (T := T) (slew := slew) hmay
                  rw [if_pos hw] at hstp
                  have hnl : L.length = q.length + 1 := by rw [hLq]; simp
                  have hgq : SlI W5 G q := fun j u hj => hG j u (by rw [hLq, List.getElem?_append_left (List.getElem?_eq_some_iff.1 hj).1]; exact hj)
                  have hgh : L[q.length]? = some h := by rw [hLq]; simp
                  have CI1 := fun W => copyInts_c q G capb W (by omega)
                  have CI2 := fun W => copyInts_c L G capb W (by omega)
                  have RU1 := fun D d E f W h h' => RN.out q (by omega) D d E f W h h'
                  have RU2 := fun D d E f W h h' => RN.out L (by omega) D d E f W h h'
                  rw [hrun] at RU1
                  dsimp only at RU1
                  rw [hlen] at RU1
                  have NX0 := fun D d => NI.out D d s.1 s.2.1 s.2.2 h
                  rw [show ((s.1, s.2.1, s.2.2) : St3) = s from rfl, NR.out _ _ hlead h, hstp] at NX0
                  obtain ⟨bg, og, rfl, hbg, hcg⟩ := hG _ _ hgh
                  have hLs : Ls[q.length]? = some s := by
                    rw [List.getLast?_eq_getElem?, hlen] at hlast
                    simpa using hlast
                  obtain ⟨s1, s2, s3⟩ := s
                  rw [hnl] at CI2 RU2 hd6 hcapb
                  generalize runA T lo hi turn slew (0, 0, 0) [(0, 0, 0)] L = RB at *
                  obtain ⟨rb, re⟩ := RB
                  dsimp only at hbr RU2 NX0
                  subst hbr
                  have HG := Lib.hid hG; have HQ := Lib.hid hgq; have HLs := Lib.hid hLs
                  have hn9 : q.length ≤ 59 := by omega
                  rw [hnl]
                  clear hG hgq hLq hlead hmay hw hlen hlast hstp hrun hgh hLs FS FN LM LV NI NR RN h60 hnl
                  generalize hqn : q.length = n at *
                  clear hqn
                  have C1 := Lib.hid CI1; have C2 := Lib.hid CI2; have U1 := Lib.hid RU1; have U2 := Lib.hid RU2; have NX := Lib.hid NX0
                  clear CI1 CI2 RU1 RU2 NX0
                  have HB5 := Lib.hid hB
                  go_upto_region 31 with fail
                  go_cut [20, 21] (fun s20 s21 wx => ∃ E capE, s20 = .slice E (n + 1) capE ∧ s21 = .int .i64 0 ∧ SlV wx E (Ls.flatMap st3V) ∧ Box wx w.heap.size 26 #[.slice A T.length c, .int .i64 lo, .int .i64 hi, .int .i64 turn, .int .i64 slew] ∧ Below W5.heap.size W5 wx)
                  case first => as_aux_lemma =>
                    (have c00 : (W5).cell? ⟨w.heap.size, 0, none⟩ = some (.slice A T.length c) := q0.cell 0); (have c01 : (W5).cell? ⟨w.heap.size, 1, none⟩ = some (.int .i64 lo) := q0.cell 1); (have c02 : (W5).cell? ⟨w.heap.size, 2, none⟩ = some (.int .i64 hi) := q0.cell 2); (have c03 : (W5).cell? ⟨w.heap.size, 3, none⟩ = some (.int .i64 turn) := q0.cell 3); (have c04 : (W5).cell? ⟨w.heap.size, 4, none⟩ = some (.int .i64 slew) := q0.cell 4); (have hl0 := q0.lt)
                    have hnc : (n : Int) ≤ (capb : Int) := by omega
                    go_region_held3 (fun w' => w'.cell? ⟨w.heap.size, 0, none⟩ = some (.slice A T.length c) ∧ w'.cell? ⟨w.heap.size, 1, none⟩ = some (.int .i64 lo) ∧ w'.cell? ⟨w.heap.size, 2, none⟩ = some (.int .i64 hi) ∧ w'.cell? ⟨w.heap.size, 3, none⟩ = some (.int .i64 turn) ∧ w'.cell? ⟨w.heap.size, 4, none⟩ = some (.int .i64 slew)) (go_keep) (first | (go_at_call 18; refine (CL.out _ (SlI.below HS.out (by focus ((repeat first | with_reducible exact Below.refl _ _ | (with_reducible refine Below.setCell ?_ ?_ _) | (with_reducible refine Below.alloc ?_ ?_ _) | (with_reducible refine below_drewN ?_ _) | (with_reducible refine Below.drew ?_) | (with_reducible refine Below.trans ?_ (Below.mono hB ?_))); all_goals (first | with_reducible exact Nat.le_refl _ | omega | (simp; done) | (simp; omega) | (have := hB.size; (try simp at this); omega) | (have := hB.size; (try simp at this); (try simp); omega)))))).mono ?_; rintro e w2 ⟨D2, d2, rfl, hD2, hb2⟩; have hz2 : W5.heap.size ≤ w2.heap.size := (by have := hb2.size; (try simp at this); omega); have k0 := ((hb2).cell (p := ⟨w.heap.size, 0, none⟩) (by simp; omega)).trans (show _ = some (Value.slice A T.length c) from by simp [go_sem, *]); have k1 := ((hb2).cell (p := ⟨w.heap.size, 1, none⟩) (by simp; omega)).trans (show _ = some (Value.int .i64 lo) from by simp [go_sem, *]); have k2 := ((hb2).cell (p := ⟨w.heap.size, 2, none⟩) (by simp; omega)).trans (show _ = some (Value.int .i64 hi) from by simp [go_sem, *]); have k3 := ((hb2).cell (p := ⟨w.heap.size, 3, none⟩) (by simp; omega)).trans (show _ = some (Value.int .i64 turn) from by simp [go_sem, *]); have k4 := ((hb2).cell (p := ⟨w.heap.size, 4, none⟩) (by simp; omega)).trans (show _ = some (Value.int .i64 slew) from by simp [go_sem, *])) | (go_at_call 24; refine (C1.out _ (SlI.below HQ.out (by focus ((repeat first | with_reducible exact Below.refl _ _ | (with_reducible refine Below.setCell ?_ ?_ _) | (with_reducible refine Below.alloc ?_ ?_ _) | (with_reducible refine below_drewN ?_ _) | (with_reducible refine Below.drew ?_) | (with_reducible refine Below.trans ?_ (Below.mono hb2 ?_))); all_goals (first | with_reducible exact Nat.le_refl _ | omega | (simp; done) | (simp; omega) | (have := hb2.size; (try simp at this); omega) | (have := hb2.size; (try simp at this); (try simp); omega)))))).mono ?_; rintro e w3 ⟨F, f3, rfl, hF3, hb3⟩; have hz3 : w2.heap.size ≤ w3.heap.size := (by have := hb3.size; (try simp at this); omega); have k0 := ((hb3).cell (p := ⟨w.heap.size, 0, none⟩) (by simp; omega)).trans (show _ = some (Value.slice A T.length c) from by simp [go_sem, *]); have k1 := ((hb3).cell (p := ⟨w.heap.size, 1, none⟩) (by simp; omega)).trans (show _ = some (Value.int .i64 lo) from by simp [go_sem, *]); have k2 := ((hb3).cell (p := ⟨w.heap.size, 2, none⟩) (by simp; omega)).trans (show _ = some (Value.int .i64 hi) from by simp [go_sem, *]); have k3 := ((hb3).cell (p := ⟨w.heap.size, 3, none⟩) (by simp; omega)).trans (show _ = some (Value.int .i64 turn) from by simp [go_sem, *]); have k4 := ((hb3).cell (p := ⟨w.heap.size, 4, none⟩) (by simp; omega)).trans (show _ = some (Value.int .i64 slew) from by simp [go_sem, *])) | (go_at_call 50; refine (U1.out _ _ _ _ _ (SlI.below hD2 (by focus ((repeat first | with_reducible exact Below.refl _ _ | (with_reducible refine Below.setCell ?_ ?_ _) | (with_reducible refine Below.alloc ?_ ?_ _) | (with_reducible refine below_drewN ?_ _) | (with_reducible refine Below.drew ?_) | (with_reducible refine Below.trans ?_ (Below.mono hb3 ?_))); all_goals (first | with_reducible exact Nat.le_refl _ | omega | (simp; done) | (simp; omega) | (have := hb3.size; (try simp at this); omega) | (have := hb3.size; (try simp at this); (try simp); omega))))) (SlI.below hF3 (by focus ((repeat first | with_reducible exact Below.refl _ _ | (with_reducible refine Below.setCell ?_ ?_ _) | (with_reducible refine Below.alloc ?_ ?_ _) | (with_reducible refine below_drewN ?_ _) | (with_reducible refine Below.drew ?_)); all_goals (first | with_reducible exact Nat.le_refl _ | omega | (simp; done) | (simp; omega) | (omega) | ((try simp); omega)))))).mono ?_; rintro e w4 ⟨E, capE, rfl, hE4, hb4⟩; have hz4 : w3.heap.size ≤ w4.heap.size := (by have := hb4.size; (try simp at this); omega); have k0 := ((hb4).cell (p := ⟨w.heap.size, 0, none⟩) (by simp; omega)).trans (show _ = some (Value.slice A T.length c) from by simp [go_sem, *]); have k1 := ((hb4).cell (p := ⟨w.heap.size, 1, none⟩) (by simp; omega)).trans (show _ = some (Value.int .i64 lo) from by simp [go_sem, *]); have k2 := ((hb4).cell (p := ⟨w.heap.size, 2, none⟩) (by simp; omega)).trans (show _ = some (Value.int .i64 hi) from by simp [go_sem, *]); have k3 := ((hb4).cell (p := ⟨w.heap.size, 3, none⟩) (by simp; omega)).trans (show _ = some (Value.int .i64 turn) from by simp [go_sem, *]); have k4 := ((hb4).cell (p := ⟨w.heap.size, 4, none⟩) (by simp; omega)).trans (show _ = some (Value.int .i64 slew) from by simp [go_sem, *])) | fail)
                    all_goals go_wp2_with fail
                    all_goals go_meet
                    all_goals refine ⟨_, _, rfl, rfl, hE4, ?_, ?_⟩
                    all_goals first | (focus (apply Box.via; apply Exists.intro; apply And.intro; (repeat first | with_reducible assumption | with_reducible exact Box.new _ _ _ | ((with_reducible apply Box.newAt); focus (simp; done)) | (with_reducible apply Box.drew) | (with_reducible apply Box.drewN) | (with_reducible apply Box.set) | (with_reducible apply Box.alloc) | (with_reducible apply Box.far) | (with_reducible apply Box.below (hb := hb2)) | (with_reducible apply Box.below (hb := hb3)) | (with_reducible apply Box.below (hb := hb4))); all_goals (first | with_reducible exact Nat.le_refl _ | omega | (simp; done) | (simp; omega) | (have := hb2.size; (try simp at this); have := hb3.size; (try simp at this); have := hb4.size; (try simp at this); omega) | (have := hb2.size; (try simp at this); have := hb3.size; (try simp at this); have := hb4.size; (try simp at this); (try simp); omega)))) | (focus ((repeat first | with_reducible exact Below.refl _ _ | (with_reducible refine Below.setCell ?_ ?_ _) | (with_reducible refine Below.alloc ?_ ?_ _) | (with_reducible refine below_drewN ?_ _) | (with_reducible refine Below.drew ?_) | (with_reducible refine Below.trans ?_ (Below.mono hb2 ?_)) | (with_reducible refine Below.trans ?_ (Below.mono hb3 ?_)) | (with_reducible refine Below.trans ?_ (Below.mono hb4 ?_))); all_goals (first | with_reducible exact Nat.le_refl _ | omega | (simp; done) | (simp; omega) | (have := hb2.size; (try simp at this); have := hb3.size; (try simp at this); have := hb4.size; (try simp at this); omega) | (have := hb2.size; (try simp at this); have := hb3.size; (try simp at this); have := hb4.size; (try simp at this); (try simp); omega))))
                  case rest =>
                    obtain ⟨E, capE, rfl, rfl, hE, hq, hW⟩ := hcut
                    have hBW := hB.trans (hW.mono (by have := hB.size; omega))
                    clear q0 hB
                    have q0 := hq; have hB := hBW
                    clear hq hBW
                    generalize wc = W6 at *
                    go_upto_region 32 with fail
                    go_cut [23] (fun s23 wx => s23 = .int .i64 22 ∧ SlV wx E (Ls.flatMap st3V) ∧ Box wx w.heap.size 26 #[.slice A T.length c, .int .i64 lo, .int .i64 hi, .int .i64 turn, .int .i64 slew] ∧ Below W5.heap.size W5 wx)
                    case first => as_aux_lemma =>
                      (have c00 : (W6).cell? ⟨w.heap.size, 0, none⟩ = some (.slice A T.length c) := q0.cell 0); (have c01 : (W6).cell? ⟨w.heap.size, 1, none⟩ = some (.int .i64 lo) := q0.cell 1); (have c02 : (W6).cell? ⟨w.heap.size, 2, none⟩ = some (.int .i64 hi) := q0.cell 2); (have c03 : (W6).cell? ⟨w.heap.size, 3, none⟩ = some (.int .i64 turn) := q0.cell 3); (have c04 : (W6).cell? ⟨w.heap.size, 4, none⟩ = some (.int .i64 slew) := q0.cell 4); (have hl0 := q0.lt)
                      go_wp2_with (first | (go_at_call 18; refine (CL.out _ (SlI.below HS.out (by focus ((repeat first | with_reducible exact Below.refl _ _ | (with_reducible refine Below.setCell ?_ ?_ _) | (with_reducible refine Below.alloc ?_ ?_ _) | (with_reducible refine below_drewN ?_ _) | (with_reducible refine Below.drew ?_) | (with_reducible refine Below.trans ?_ (Below.mono hB ?_))); all_goals (first | with_reducible exact Nat.le_refl _ | omega | (simp; done) | (simp; omega) | (have := hB.size; (try simp at this); omega) | (have := hB.size; (try simp at this); (try simp); omega)))))).mono ?_; rintro e w2 ⟨D2, d2, rfl, hD2, hb2⟩) | (go_at_call 24; refine (C2.out _ (SlI.below HG.out (by focus ((repeat first | with_reducible exact Below.refl _ _ | (with_reducible refine Below.setCell ?_ ?_ _) | (with_reducible refine Below.alloc ?_ ?_ _) | (with_reducible refine below_drewN ?_ _) | (with_reducible refine Below.drew ?_) | (with_reducible refine Below.trans ?_ (Below.mono hb2 ?_)) | (with_reducible refine Below.trans ?_ (Below.mono hW ?_))); all_goals (first | with_reducible exact Nat.le_refl _ | omega | (simp; done) | (simp; omega) | (have := hb2.size; (try simp at this); have := hW.size; (try simp at this); omega) | (have := hb2.size; (try simp at this); have := hW.size; (try simp at this); (try simp); omega)))))).mono ?_; rintro e w3 ⟨F, f3, rfl, hF3, hb3⟩) | (go_at_call 50; refine (U2.out _ _ _ _ _ (SlI.below hD2 (by focus ((repeat first | with_reducible exact Below.refl _ _ | (with_reducible refine Below.setCell ?_ ?_ _) | (with_reducible refine Below.alloc ?_ ?_ _) | (with_reducible refine below_drewN ?_ _) | (with_reducible refine Below.drew ?_) | (with_reducible refine Below.trans ?_ (Below.mono hb3 ?_))); all_goals (first | with_reducible exact Nat.le_refl _ | omega | (simp; done) | (simp; omega) | (have := hb3.size; (try simp at this); omega) | (have := hb3.size; (try simp at this); (try simp); omega))))) (SlI.below hF3 (by focus ((repeat first | with_reducible exact Below.refl _ _ | (with_reducible refine Below.setCell ?_ ?_ _) | (with_reducible refine Below.alloc ?_ ?_ _) | (with_reducible refine below_drewN ?_ _) | (with_reducible refine Below.drew ?_)); all_goals (first | with_reducible exact Nat.le_refl _ | omega | (simp; done) | (simp; omega) | (omega) | ((try simp); omega)))))).mono ?_; rintro e w4 ⟨E2, capE2, rfl, hE42, hb4⟩) | fail)
                      go_meet
                      refine ⟨rfl, SlV.below hE (by focus ((repeat first | with_reducible exact Below.refl _ _ | (with_reducible refine Below.setCell ?_ ?_ _) | (with_reducible refine Below.alloc ?_ ?_ _) | (with_reducible refine below_drewN ?_ _) | (with_reducible refine Below.drew ?_) | (with_reducible refine Below.trans ?_ (Below.mono hb2 ?_)) | (with_reducible refine Below.trans ?_ (Below.mono hb3 ?_)) | (with_reducible refine Below.trans ?_ (Below.mono hb4 ?_))); all_goals (first | with_reducible exact Nat.le_refl _ | omega | (simp; done) | (simp; omega) | (have := hb2.size; (try simp at this); have := hb3.size; (try simp at this); have := hb4.size; (try simp at this); omega) | (have := hb2.size; (try simp at this); have := hb3.size; (try simp at this); have := hb4.size; (try simp at this); (try simp); omega)))), ?_, ?_⟩
                      all_goals first | (focus (apply Box.via; apply Exists.intro; apply And.intro; (repeat first | with_reducible assumption | with_reducible exact Box.new _ _ _ | ((with_reducible apply Box.newAt); focus (simp; done)) | (with_reducible apply Box.drew) | (with_reducible apply Box.drewN) | (with_reducible apply Box.set) | (with_reducible apply Box.alloc) | (with_reducible apply Box.far) | (with_reducible apply Box.below (hb := hb2)) | (with_reducible apply Box.below (hb := hb3)) | (with_reducible apply Box.below (hb := hb4))); all_goals (first | with_reducible exact Nat.le_refl _ | omega | (simp; done) | (simp; omega) | (have := hb2.size; (try simp at this); have := hb3.size; (try simp at this); have := hb4.size; (try simp at this); omega) | (have := hb2.size; (try simp at this); have := hb3.size; (try simp at this); have := hb4.size; (try simp at this); (try simp); omega)))) | (focus ((repeat first | with_reducible exact Below.refl _ _ | (with_reducible refine Below.setCell ?_ ?_ _) | (with_reducible refine Below.alloc ?_ ?_ _) | (with_reducible refine below_drewN ?_ _) | (with_reducible refine Below.drew ?_) | (with_reducible refine Below.trans ?_ (Below.mono hb2 ?_)) | (with_reducible refine Below.trans ?_ (Below.mono hb3 ?_)) | (with_reducible refine Below.trans ?_ (Below.mono hb4 ?_)) | (with_reducible refine Below.trans ?_ (Below.mono hW ?_))); all_goals (first | with_reducible exact Nat.le_refl _ | omega | (simp; done) | (simp; omega) | (have := hb2.size; (try simp at this); have := hb3.size; (try simp at this); have := hb4.size; (try simp at this); have := hW.size; (try simp at this); omega) | (have := hb2.size; (try simp at this); have := hb3.size; (try simp at this); have := hb4.size; (try simp at this); have := hW.size; (try simp at this); (try simp); omega))))
                    case rest =>
                      clear hE hW
                      obtain ⟨rfl, hE, hq, hW⟩ := hcut
                      clear q0 hB
                      have q0 := hq
                      clear hq
                      generalize wc = W7 at *
                      have hBr := HB5.out.trans (hW.mono HB5.out.size)
                      obtain ⟨br, ofr, rfl, hbr, a0, a1, a2⟩ := ev_cells hE HLs.out
                      have hcg7 := (hW.cell (p := ⟨bg, og + n, none⟩) hbg).trans hcg
                      have hbg7 : bg < W7.heap.size := Nat.lt_of_lt_of_le hbg hW.size
                      dsimp only at a0 a1 a2
                      clear hcg hbg
                      go_upto_region 35 with fail
                      go_cut [25] (fun s25 wx => s25 = .int .i64 22 ∧ Below W7.heap.size W7 wx)
                      case first => as_aux_lemma =>
                        have c00 := q0.cell 0; have c01 := q0.cell 1; have c02 := q0.cell 2; have c03 := q0.cell 3; have c04 := q0.cell 4
                        simp at c00 c01 c02 c03 c04
                        have lq := q0.lt
                        have hn1 : (n : Int) < (n : Int) + 1 := by omega
                        have : w.heap.size ≠ W7.heap.size := (by omega); have : W7.heap.size ≠ w.heap.size := (by omega)
                        have : br ≠ W7.heap.size := (by omega); have : W7.heap.size ≠ br := (by omega)
                        have : bg ≠ W7.heap.size := (by omega); have : W7.heap.size ≠ bg := (by omega)
                        go_region_held3 (fun w' => w'.cell? ⟨w.heap.size, 0, none⟩ = some (.slice A T.length c) ∧ w'.cell? ⟨w.heap.size, 1, none⟩ = some (.int .i64 lo) ∧ w'.cell? ⟨w.heap.size, 2, none⟩ = some (.int .i64 hi) ∧ w'.cell? ⟨w.heap.size, 3, none⟩ = some (.int .i64 turn) ∧ w'.cell? ⟨w.heap.size, 4, none⟩ = some (.int .i64 slew) ∧ w'.cell? ⟨br, ofr + n * 3, none⟩ = some (.int .i64 s1) ∧ w'.cell? ⟨br, ofr + n * 3 + 1, none⟩ = some (.int .i64 s2) ∧ w'.cell? ⟨br, ofr + n * 3 + 2, none⟩ = some (.int .i64 s3) ∧ w'.cell? ⟨bg, og + n, none⟩ = some (.int .i64 h)) (go_keep) (first | (go_at_call 18; refine (CL.out _ (SlI.below HS.out (by focus ((repeat first | with_reducible exact Below.refl _ _ | (with_reducible refine Below.setCell ?_ ?_ _) | (with_reducible refine Below.alloc ?_ ?_ _) | (with_reducible refine below_drewN ?_ _) | (with_reducible refine Below.drew ?_) | (with_reducible refine Below.trans ?_ (Below.mono hBr ?_))); all_goals (first | with_reducible exact Nat.le_refl _ | omega | (simp; done) | (simp; omega) | (have := hBr.size; (try simp at this); omega) | (have := hBr.size; (try simp at this); (try simp); omega)))))).mono ?_; rintro e w2 ⟨D, d', rfl, hD, hb2⟩; have hz2 : W7.heap.size ≤ w2.heap.size := (by have := hb2.size; (try simp at this); omega); have : w.heap.size ≠ w2.heap.size := (by omega); have : w2.heap.size ≠ w.heap.size := (by omega); have : br ≠ w2.heap.size := (by omega); have : w2.heap.size ≠ br := (by omega); have : bg ≠ w2.heap.size := (by omega); have : w2.heap.size ≠ bg := (by omega); have k0 := ((hb2).cell (p := ⟨w.heap.size, 0, none⟩) (by simp; omega)).trans (show _ = some (Value.slice A T.length c) from by simp [go_sem, *]); have k1 := ((hb2).cell (p := ⟨w.heap.size, 1, none⟩) (by simp; omega)).trans (show _ = some (Value.int .i64 lo) from by simp [go_sem, *]); have k2 := ((hb2).cell (p := ⟨w.heap.size, 2, none⟩) (by simp; omega)).trans (show _ = some (Value.int .i64 hi) from by simp [go_sem, *]); have k3 := ((hb2).cell (p := ⟨w.heap.size, 3, none⟩) (by simp; omega)).trans (show _ = some (Value.int .i64 turn) from by simp [go_sem, *]); have k4 := ((hb2).cell (p := ⟨w.heap.size, 4, none⟩) (by simp; omega)).trans (show _ = some (Value.int .i64 slew) from by simp [go_sem, *]); have k5 := ((hb2).cell (p := ⟨br, ofr + n * 3, none⟩) (by simp; omega)).trans (show _ = some (Value.int .i64 s1) from by simp [go_sem, *]); have k6 := ((hb2).cell (p := ⟨br, ofr + n * 3 + 1, none⟩) (by simp; omega)).trans (show _ = some (Value.int .i64 s2) from by simp [go_sem, *]); have k7 := ((hb2).cell (p := ⟨br, ofr + n * 3 + 2, none⟩) (by simp; omega)).trans (show _ = some (Value.int .i64 s3) from by simp [go_sem, *]); have k8 := ((hb2).cell (p := ⟨bg, og + n, none⟩) (by simp; omega)).trans (show _ = some (Value.int .i64 h) from by simp [go_sem, *]); (first | (refine (have bx : Box w2 (W7.heap.size) 42 #[.int .i64 0, .int .i64 0, .int .i64 0] := ?_; ?_); (focus (apply Box.via; apply Exists.intro; apply And.intro; (repeat first | with_reducible assumption | with_reducible exact Box.new _ _ _ | ((with_reducible apply Box.newAt); focus (simp; done)) | (with_reducible apply Box.drew) | (with_reducible apply Box.drewN) | (with_reducible apply Box.set) | (with_reducible apply Box.alloc) | (with_reducible apply Box.far) | (with_reducible apply Box.below (hb := hb2))); all_goals (first | with_reducible exact Nat.le_refl _ | omega | (simp; done) | (simp; omega) | (have := hb2.size; (try simp at this); omega) | (have := hb2.size; (try simp at this); (try simp); omega)))); have := bx.lt; have : (w2).cell? ⟨W7.heap.size, 0, none⟩ = some (.int .i64 0) := bx.cell 0; have : (w2).cell? ⟨W7.heap.size, 1, none⟩ = some (.int .i64 0) := bx.cell 1; have : (w2).cell? ⟨W7.heap.size, 2, none⟩ = some (.int .i64 0) := bx.cell 2; have : ∀ o, (w2).frozen? ⟨W7.heap.size, o, none⟩ = false := bx.froz) | skip)) | (go_at_call 49; refine (NX.out _ _ _ (SlI.below hD (by focus ((repeat first | with_reducible exact Below.refl _ _ | (with_reducible refine Below.setCell ?_ ?_ _) | (with_reducible refine Below.alloc ?_ ?_ _) | (with_reducible refine below_drewN ?_ _) | (with_reducible refine Below.drew ?_)); all_goals (first | with_reducible exact Nat.le_refl _ | omega | (simp; done) | (simp; omega) | (omega) | ((try simp); omega)))))).mono ?_; rintro e w3 ⟨rfl, hb3⟩; have hz3 : w2.heap.size ≤ w3.heap.size := (by have := hb3.size; (try simp at this); omega); have : w.heap.size ≠ w3.heap.size := (by omega); have : w3.heap.size ≠ w.heap.size := (by omega); have : br ≠ w3.heap.size := (by omega); have : w3.heap.size ≠ br := (by omega); have : bg ≠ w3.heap.size := (by omega); have : w3.heap.size ≠ bg := (by omega); have k0 := ((hb3).cell (p := ⟨w.heap.size, 0, none⟩) (by simp; omega)).trans (show _ = some (Value.slice A T.length c) from by simp [go_sem, *]); have k1 := ((hb3).cell (p := ⟨w.heap.size, 1, none⟩) (by simp; omega)).trans (show _ = some (Value.int .i64 lo) from by simp [go_sem, *]); have k2 := ((hb3).cell (p := ⟨w.heap.size, 2, none⟩) (by simp; omega)).trans (show _ = some (Value.int .i64 hi) from by simp [go_sem, *]); have k3 := ((hb3).cell (p := ⟨w.heap.size, 3, none⟩) (by simp; omega)).trans (show _ = some (Value.int .i64 turn) from by simp [go_sem, *]); have k4 := ((hb3).cell (p := ⟨w.heap.size, 4, none⟩) (by simp; omega)).trans (show _ = some (Value.int .i64 slew) from by simp [go_sem, *]); have k5 := ((hb3).cell (p := ⟨br, ofr + n * 3, none⟩) (by simp; omega)).trans (show _ = some (Value.int .i64 s1) from by simp [go_sem, *]); have k6 := ((hb3).cell (p := ⟨br, ofr + n * 3 + 1, none⟩) (by simp; omega)).trans (show _ = some (Value.int .i64 s2) from by simp [go_sem, *]); have k7 := ((hb3).cell (p := ⟨br, ofr + n * 3 + 2, none⟩) (by simp; omega)).trans (show _ = some (Value.int .i64 s3) from by simp [go_sem, *]); have k8 := ((hb3).cell (p := ⟨bg, og + n, none⟩) (by simp; omega)).trans (show _ = some (Value.int .i64 h) from by simp [go_sem, *]); (first | (refine (have bx : Box w3 (W7.heap.size) 42 #[.int .i64 0, .int .i64 0, .int .i64 0] := ?_; ?_); (focus (apply Box.via; apply Exists.intro; apply And.intro; (repeat first | with_reducible assumption | with_reducible exact Box.new _ _ _ | ((with_reducible apply Box.newAt); focus (simp; done)) | (with_reducible apply Box.drew) | (with_reducible apply Box.drewN) | (with_reducible apply Box.set) | (with_reducible apply Box.alloc) | (with_reducible apply Box.far) | (with_reducible apply Box.below (hb := hb3))); all_goals (first | with_reducible exact Nat.le_refl _ | omega | (simp; done) | (simp; omega) | (have := hb3.size; (try simp at this); omega) | (have := hb3.size; (try simp at this); (try simp); omega)))); have := bx.lt; have : (w3).cell? ⟨W7.heap.size, 0, none⟩ = some (.int .i64 0) := bx.cell 0; have : (w3).cell? ⟨W7.heap.size, 1, none⟩ = some (.int .i64 0) := bx.cell 1; have : (w3).cell? ⟨W7.heap.size, 2, none⟩ = some (.int .i64 0) := bx.cell 2; have : ∀ o, (w3).frozen? ⟨W7.heap.size, o, none⟩ = false := bx.froz) | (refine (have bx : Box w3 (w2.heap.size) 42 #[.int .i64 0, .int .i64 0, .int .i64 0] := ?_; ?_); (focus (apply Box.via; apply Exists.intro; apply And.intro; (repeat first | with_reducible assumption | with_reducible exact Box.new _ _ _ | ((with_reducible apply Box.newAt); focus (simp; done)) | (with_reducible apply Box.drew) | (with_reducible apply Box.drewN) | (with_reducible apply Box.set) | (with_reducible apply Box.alloc) | (with_reducible apply Box.far) | (with_reducible apply Box.below (hb := hb3))); all_goals (first | with_reducible exact Nat.le_refl _ | omega | (simp; done) | (simp; omega) | (have := hb3.size; (try simp at this); omega) | (have := hb3.size; (try simp at this); (try simp); omega)))); have := bx.lt; have : (w3).cell? ⟨w2.heap.size, 0, none⟩ = some (.int .i64 0) := bx.cell 0; have : (w3).cell? ⟨w2.heap.size, 1, none⟩ = some (.int .i64 0) := bx.cell 1; have : (w3).cell? ⟨w2.heap.size, 2, none⟩ = some (.int .i64 0) := bx.cell 2; have : ∀ o, (w3).frozen? ⟨w2.heap.size, o, none⟩ = false := bx.froz) | skip)) | fail)
                        all_goals go_wp2_with fail
                        all_goals go_meet
                        all_goals refine ⟨rfl, ?_⟩
                        all_goals (focus ((repeat first | with_reducible exact Below.refl _ _ | (with_reducible refine Below.setCell ?_ ?_ _) | (with_reducible refine Below.alloc ?_ ?_ _) | (with_reducible refine below_drewN ?_ _) | (with_reducible refine Below.drew ?_) | (with_reducible refine Below.trans ?_ (Below.mono hb2 ?_)) | (with_reducible refine Below.trans ?_ (Below.mono hb3 ?_))); all_goals (first | with_reducible exact Nat.le_refl _ | omega | (simp; done) | (simp; omega) | (have := hb2.size; (try simp at this); have := hb3.size; (try simp at this); omega) | (have := hb2.size; (try simp at this); have := hb3.size; (try simp at this); (try simp); omega))))
                      case rest =>
                        obtain ⟨rfl, hC⟩ := hcut
                        go_wp2_with fail
                        go_ret
                        exact ⟨rfl, by focus ((repeat first | with_reducible exact Below.refl _ _ | (with_reducible refine Below.setCell ?_ ?_ _) | (with_reducible refine Below.alloc ?_ ?_ _) | (with_reducible refine below_drewN ?_ _) | (with_reducible refine Below.drew ?_) | (with_reducible refine Below.trans ?_ (Below.mono hC ?_)) | (with_reducible refine Below.trans ?_ (Below.mono hBr ?_))); all_goals (first | with_reducible exact Nat.le_refl _ | omega | (simp; done) | (simp; omega) | (have := hC.size; (try simp at this); have := hBr.size; (try simp at this); omega) | (have := hC.size; (try simp at this); have := hBr.size; (try simp at this); (try simp); omega)))⟩

set_option maxHeartbeats 1000000 in
set_option maxRecDepth 100000 in
theorem winchHeld_early (T : List Int) (A : Option Addr) (c : Nat) (lo hi turn slew : Int) (hs : List Int) (B : Option Addr) (d : Nat) (w : World) (hn : T.length ≤ 9223372036854775807) (hm : hs.length ≤ 9223372036854775807) (hT : SlI w A T) (h : 13 < T.length ∨ 60 < hs.length ∨ (chkL T lo hi turn slew).2 ≠ 0) :
    Calls Try.prog 14 #[.agg #[.slice A T.length c, .int .i64 lo, .int .i64 hi, .int .i64 turn, .int .i64 slew], .slice B hs.length d] w fun e w' => e = .returned (.bool true) ∧ Below w.heap.size w w' := by
  by_cases h1 : 13 < T.length
  · have d1 : decide ((T.length : Int) ≤ 13) = false := decide_eq_false (by omega)
    go_enter Try.func14, Try.ntmps14
    go_wp2_with (first | (go_at_call 15; refine (awake_c _).mono ?_; rintro e w1 ⟨rfl, hb1⟩; (have q0 : Box w1 w.heap.size 26 #[.slice A T.length c, .int .i64 lo, .int .i64 hi, .int .i64 turn, .int .i64 slew] := (by focus (apply Box.via; apply Exists.intro; apply And.intro; (repeat first | with_reducible assumption | with_reducible exact Box.new _ _ _ | ((with_reducible apply Box.newAt); focus (simp; done)) | (with_reducible apply Box.drew) | (with_reducible apply Box.drewN) | (with_reducible apply Box.set) | (with_reducible apply Box.alloc) | (with_reducible apply Box.far) | (with_reducible apply Box.below (hb := hb1))); all_goals (first | with_reducible exact Nat.le_refl _ | omega | (simp; done) | (simp; omega) | (have := hb1.size; (try simp at this); omega) | (have := hb1.size; (try simp at this); (try simp); omega))))); (have c00 : (w1).cell? ⟨w.heap.size, 0, none⟩ = some (.slice A T.length c) := q0.cell 0); (have c01 : (w1).cell? ⟨w.heap.size, 1, none⟩ = some (.int .i64 lo) := q0.cell 1); (have c02 : (w1).cell? ⟨w.heap.size, 2, none⟩ = some (.int .i64 hi) := q0.cell 2); (have c03 : (w1).cell? ⟨w.heap.size, 3, none⟩ = some (.int .i64 turn) := q0.cell 3); (have c04 : (w1).cell? ⟨w.heap.size, 4, none⟩ = some (.int .i64 slew) := q0.cell 4); (have hl0 := q0.lt)) | (go_at_call 16; refine (few_c T A c lo hi turn slew _).mono ?_; rintro e w2 ⟨rfl, hb2⟩) | fail)
    go_ret
    exact ⟨rfl, by focus ((repeat first | with_reducible exact Below.refl _ _ | (with_reducible refine Below.setCell ?_ ?_ _) | (with_reducible refine Below.alloc ?_ ?_ _) | (with_reducible refine below_drewN ?_ _) | (with_reducible refine Below.drew ?_) | (with_reducible refine Below.trans ?_ (Below.mono hb2 ?_)) | (with_reducible refine Below.trans ?_ (Below.mono hb1 ?_))); all_goals (first | with_reducible exact Nat.le_refl _ | omega | (simp; done) | (simp; omega) | (have := hb2.size; (try simp at this); have := hb1.size; (try simp at this); omega) | (have := hb2.size; (try simp at this); have := hb1.size; (try simp at this); (try simp); omega)))⟩
  · have d1 : decide ((T.length : Int) ≤ 13) = true := decide_eq_true (by omega)
    by_cases h2 : 60 < hs.length
    · have d2 : decide ((60 : Int) < (hs.length : Int)) = true := decide_eq_true (by omega)
      have d3 : decide (60 < hs.length) = true := decide_eq_true h2
      go_enter Try.func14, Try.ntmps14
      go_wp2_with (first | (go_at_call 15; refine (awake_c _).mono ?_; rintro e w1 ⟨rfl, hb1⟩; (have q0 : Box w1 w.heap.size 26 #[.slice A T.length c, .int .i64 lo, .int .i64 hi, .int .i64 turn, .int .i64 slew] := (by focus (apply Box.via; apply Exists.intro; apply And.intro; (repeat first | with_reducible assumption | with_reducible exact Box.new _ _ _ | ((with_reducible apply Box.newAt); focus (simp; done)) | (with_reducible apply Box.drew) | (with_reducible apply Box.drewN) | (with_reducible apply Box.set) | (with_reducible apply Box.alloc) | (with_reducible apply Box.far) | (with_reducible apply Box.below (hb := hb1))); all_goals (first | with_reducible exact Nat.le_refl _ | omega | (simp; done) | (simp; omega) | (have := hb1.size; (try simp at this); omega) | (have := hb1.size; (try simp at this); (try simp); omega))))); (have c00 : (w1).cell? ⟨w.heap.size, 0, none⟩ = some (.slice A T.length c) := q0.cell 0); (have c01 : (w1).cell? ⟨w.heap.size, 1, none⟩ = some (.int .i64 lo) := q0.cell 1); (have c02 : (w1).cell? ⟨w.heap.size, 2, none⟩ = some (.int .i64 hi) := q0.cell 2); (have c03 : (w1).cell? ⟨w.heap.size, 3, none⟩ = some (.int .i64 turn) := q0.cell 3); (have c04 : (w1).cell? ⟨w.heap.size, 4, none⟩ = some (.int .i64 slew) := q0.cell 4); (have hl0 := q0.lt)) | (go_at_call 16; refine (few_c T A c lo hi turn slew _).mono ?_; rintro e w2 ⟨rfl, hb2⟩) | fail)
      go_ret
      exact ⟨rfl, by focus ((repeat first | with_reducible exact Below.refl _ _ | (with_reducible refine Below.setCell ?_ ?_ _) | (with_reducible refine Below.alloc ?_ ?_ _) | (with_reducible refine below_drewN ?_ _) | (with_reducible refine Below.drew ?_) | (with_reducible refine Below.trans ?_ (Below.mono hb2 ?_)) | (with_reducible refine Below.trans ?_ (Below.mono hb1 ?_))); all_goals (first | with_reducible exact Nat.le_refl _ | omega | (simp; done) | (simp; omega) | (have := hb2.size; (try simp at this); have := hb1.size; (try simp at this); omega) | (have := hb2.size; (try simp at this); have := hb1.size; (try simp at this); (try simp); omega)))⟩
    · have d2 : decide ((60 : Int) < (hs.length : Int)) = false := decide_eq_false (by omega)
      have d3 : decide (60 < hs.length) = false := decide_eq_false h2
      have HS := Lib.hid hT
      have LE := Lib.hid (fun W h => refLoopErr_h T A c lo hi turn slew W (by omega) h)
      have h3 := (h.resolve_left h1).resolve_left h2
      have e0 : ((chkL T lo hi turn slew).2 != 0) = true := bneT h3
      clear h h3 hT
      generalize chkL T lo hi turn slew = CC at *
      obtain ⟨ci, ce⟩ := CC
      dsimp only at LE e0
      go_enter Try.func14, Try.ntmps14
      go_wp2_with (first | (go_at_call 15; refine (awake_c _).mono ?_; rintro e w1 ⟨rfl, hb1⟩; (have q0 : Box w1 w.heap.size 26 #[.slice A T.length c, .int .i64 lo, .int .i64 hi, .int .i64 turn, .int .i64 slew] := (by focus (apply Box.via; apply Exists.intro; apply And.intro; (repeat first | with_reducible assumption | with_reducible exact Box.new _ _ _ | ((with_reducible apply Box.newAt); focus (simp; done)) | (with_reducible apply Box.drew) | (with_reducible apply Box.drewN) | (with_reducible apply Box.set) | (with_reducible apply Box.alloc) | (with_reducible apply Box.far) | (with_reducible apply Box.below (hb := hb1))); all_goals (first | with_reducible exact Nat.le_refl _ | omega | (simp; done) | (simp; omega) | (have := hb1.size; (try simp at this); omega) | (have := hb1.size; (try simp at this); (try simp); omega))))); (have c00 : (w1).cell? ⟨w.heap.size, 0, none⟩ = some (.slice A T.length c) := q0.cell 0); (have c01 : (w1).cell? ⟨w.heap.size, 1, none⟩ = some (.int .i64 lo) := q0.cell 1); (have c02 : (w1).cell? ⟨w.heap.size, 2, none⟩ = some (.int .i64 hi) := q0.cell 2); (have c03 : (w1).cell? ⟨w.heap.size, 3, none⟩ = some (.int .i64 turn) := q0.cell 3); (have c04 : (w1).cell? ⟨w.heap.size, 4, none⟩ = some (.int .i64 slew) := q0.cell 4); (have hl0 := q0.lt)) | (go_at_call 16; refine (few_c T A c lo hi turn slew _).mono ?_; rintro e w2 ⟨rfl, hb2⟩; (have q0 : Box w2 w.heap.size 26 #[.slice A T.length c, .int .i64 lo, .int .i64 hi, .int .i64 turn, .int .i64 slew] := (by focus (apply Box.via; apply Exists.intro; apply And.intro; (repeat first | with_reducible assumption | with_reducible exact Box.new _ _ _ | ((with_reducible apply Box.newAt); focus (simp; done)) | (with_reducible apply Box.drew) | (with_reducible apply Box.drewN) | (with_reducible apply Box.set) | (with_reducible apply Box.alloc) | (with_reducible apply Box.far) | (with_reducible apply Box.below (hb := hb2))); all_goals (first | with_reducible exact Nat.le_refl _ | omega | (simp; done) | (simp; omega) | (have := hb2.size; (try simp at this); omega) | (have := hb2.size; (try simp at this); (try simp); omega))))); (have c00 : (w2).cell? ⟨w.heap.size, 0, none⟩ = some (.slice A T.length c) := q0.cell 0); (have c01 : (w2).cell? ⟨w.heap.size, 1, none⟩ = some (.int .i64 lo) := q0.cell 1); (have c02 : (w2).cell? ⟨w.heap.size, 2, none⟩ = some (.int .i64 hi) := q0.cell 2); (have c03 : (w2).cell? ⟨w.heap.size, 3, none⟩ = some (.int .i64 turn) := q0.cell 3); (have c04 : (w2).cell? ⟨w.heap.size, 4, none⟩ = some (.int .i64 slew) := q0.cell 4); (have hl0 := q0.lt)) | (go_at_call 17; refine (LE.out _ (SlI.below HS.out (by focus ((repeat first | with_reducible exact Below.refl _ _ | (with_reducible refine Below.setCell ?_ ?_ _) | (with_reducible refine Below.alloc ?_ ?_ _) | (with_reducible refine below_drewN ?_ _) | (with_reducible refine Below.drew ?_) | (with_reducible refine Below.trans ?_ (Below.mono hb2 ?_)) | (with_reducible refine Below.trans ?_ (Below.mono hb1 ?_))); all_goals (first | with_reducible exact Nat.le_refl _ | omega | (simp; done) | (simp; omega) | (have := hb2.size; (try simp at this); have := hb1.size; (try simp at this); omega) | (have := hb2.size; (try simp at this); have := hb1.size; (try simp at this); (try simp); omega)))))).mono ?_; rintro e w3 ⟨rfl, hb3⟩) | fail)
      go_ret
      exact ⟨rfl, by focus ((repeat first | with_reducible exact Below.refl _ _ | (with_reducible refine Below.setCell ?_ ?_ _) | (with_reducible refine Below.alloc ?_ ?_ _) | (with_reducible refine below_drewN ?_ _) | (with_reducible refine Below.drew ?_) | (with_reducible refine Below.trans ?_ (Below.mono hb3 ?_)) | (with_reducible refine Below.trans ?_ (Below.mono hb2 ?_)) | (with_reducible refine Below.trans ?_ (Below.mono hb1 ?_))); all_goals (first | with_reducible exact Nat.le_refl _ | omega | (simp; done) | (simp; omega) | (have := hb3.size; (try simp at this); have := hb2.size; (try simp at this); have := hb1.size; (try simp at this); omega) | (have := hb3.size; (try simp at this); have := hb2.size; (try simp at this); have := hb1.size; (try simp at this); (try simp); omega)))⟩

theorem winchHeld_l (T : List Int) (A : Option Addr) (c : Nat) (lo hi turn slew : Int) (hs : List Int) (B : Option Addr) (d : Nat) (w : World) (hn : T.length ≤ 9223372036854775807) (hT : SlI w A T) (hm : hs.length ≤ 9223372036854775807) (hH : SlI w B hs) (hd : hs.length ≤ d) :
    Calls Try.prog 14 #[.agg #[.slice A T.length c, .int .i64 lo, .int .i64 hi, .int .i64 turn, .int .i64 slew], .slice B hs.length d] w fun e w' => e = .returned (.bool true) ∧ Below w.heap.size w w' := by
  by_cases h : 13 < T.length ∨ 60 < hs.length ∨ (chkL T lo hi turn slew).2 ≠ 0
  · exact winchHeld_early T A c lo hi turn slew hs B d w hn hm hT h
  · exact winchHeld_in T A c lo hi turn slew hs B d w (by omega) (by omega) hd hT hH

end Go.Proofs.Ytgbckdmhmkpahaa

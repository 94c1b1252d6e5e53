/-
  The law WinchFewest (chapter 2): the walk.
-/
import Derived.Test.YtgbckdmhmkpahaaFewQ
import Derived.Test.YtgbckdmhmkpahaaBefore
import Derived.Test.YtgbckdmhmkpahaaWProf
set_option linter.unusedVariables false
namespace Go.Proofs.Ytgbckdmhmkpahaa
open Go.RowKit Go.Shelf

set_option maxHeartbeats 8000000 in
set_option maxRecDepth 100000 in
theorem winchFewest_early (sp st : Int) (xs : List Int) (A : Option Addr) (c : Nat) (d ls : Int) (w : World) (hn : xs.length ≤ 9223372036854775807) (h : 200 < xs.length ∨ limE sp st ≠ 0 ∨ dstE d ≠ 0 ∨ inB ls 0 d = false) :
    Calls Try.prog 6 #[.agg #[.int .i64 sp, .int .i64 st], .slice A xs.length c, .agg #[.int .i64 d, .int .i64 ls]] w fun e w' => e = .returned (.bool true) ∧ Below w.heap.size w w' := by
  by_cases h1 : 200 < xs.length
  · have d1 : decide ((200 : Int) < (xs.length : Int)) = true := decide_eq_true (by omega)
    have d2 : decide (200 < xs.length) = true := decide_eq_true h1
    (go_enter Try.func6, Try.ntmps6; go_upto_region 3 with (first | (go_at_call 15; refine (awake_c _).mono ?_; rintro e w1 ⟨rfl, hb1⟩) | fail); (have hP : Box w1 w.heap.size 56 #[.int .i64 sp, .int .i64 st] := (by focus (apply Box.via; apply Exists.intro; apply And.intro; (repeat first | with_reducible assumption | with_reducible exact Box.new _ _ _ | ((with_reducible apply Box.newAt); focus (simp; done)) | (with_reducible apply Box.drew) | (with_reducible apply Box.drewN) | (with_reducible apply Box.set) | (with_reducible apply Box.alloc) | (with_reducible apply Box.far) | (with_reducible apply Box.below (hb := hb1))); all_goals (first | with_reducible exact Nat.le_refl _ | omega | (simp; done) | (simp; omega) | (have := hb1.size; (try simp at this); omega) | (have := hb1.size; (try simp at this); (try simp); omega))))); (have hY : Box w1 (w.heap.size + 1) 70 #[.int .i64 d, .int .i64 ls] := (by focus (apply Box.via; apply Exists.intro; apply And.intro; (repeat first | with_reducible assumption | with_reducible exact Box.new _ _ _ | ((with_reducible apply Box.newAt); focus (simp; done)) | (with_reducible apply Box.drew) | (with_reducible apply Box.drewN) | (with_reducible apply Box.set) | (with_reducible apply Box.alloc) | (with_reducible apply Box.far) | (with_reducible apply Box.below (hb := hb1))); all_goals (first | with_reducible exact Nat.le_refl _ | omega | (simp; done) | (simp; omega) | (have := hb1.size; (try simp at this); omega) | (have := hb1.size; (try simp at this); (try simp); omega))))); (have hB : Below w.heap.size w w1 := (by focus ((repeat first | with_reducible exact Below.refl _ _ | (with_reducible refine Below.setCell ?_ ?_ _) | (with_reducible refine Below.alloc ?_ ?_ _) | (with_reducible refine below_drewN ?_ _) | (with_reducible refine Below.drew ?_) | (with_reducible refine Below.trans ?_ (Below.mono hb1 ?_))); all_goals (first | with_reducible exact Nat.le_refl _ | omega | (simp; done) | (simp; omega) | (have := hb1.size; (try simp at this); omega) | (have := hb1.size; (try simp at this); (try simp); omega))))); clear hb1; generalize w1 = W5 at *; (have y0 := hY.cell 0); (have y1 := hY.cell 1); simp at y0 y1; go_region_held3 (fun w' => w'.cell? ⟨w.heap.size + 1, 0, none⟩ = some (.int .i64 d) ∧ w'.cell? ⟨w.heap.size + 1, 1, none⟩ = some (.int .i64 ls)) (go_keep) (fail); clear y0 y1)
    (have c00 := hP.cell 0; have c01 := hP.cell 1; simp at c00 c01; have hl0 := hP.lt)
    go_wp2_with fail
    go_ret
    exact ⟨rfl, by focus ((repeat first | with_reducible exact Below.refl _ _ | (with_reducible refine Below.setCell ?_ ?_ _) | (with_reducible refine Below.alloc ?_ ?_ _) | (with_reducible refine below_drewN ?_ _) | (with_reducible refine Below.drew ?_) | (with_reducible refine Below.trans ?_ (Below.mono hB ?_))); all_goals (first | with_reducible exact Nat.le_refl _ | omega | (simp; done) | (simp; omega) | (have := hB.size; (try simp at this); omega) | (have := hB.size; (try simp at this); (try simp); omega)))⟩
  · have d1 : decide ((200 : Int) < (xs.length : Int)) = false := decide_eq_false (by omega)
    have d2 : decide (200 < xs.length) = false := decide_eq_false h1
    have d3 : ¬ 200 < xs.length := h1
    have h := h.resolve_left h1
    have RLc := Lib.hid (fun W => refLimitsErr_c sp st W)
    have RDc := Lib.hid (fun W => refDistanceErr_c d W)
    generalize limE sp st = le at *
    generalize dstE d = de at *
    by_cases h2 : le = 0
    · have e2 : (le != 0) = false := bneF h2
      have h := h.resolve_left (by simpa using h2)
      by_cases h3 : de = 0
      · have e3 : (de != 0) = false := bneF h3
        have h4 := h.resolve_left (by simpa using h3)
        clear h h2 h3
        (go_enter Try.func6, Try.ntmps6; go_upto_region 3 with (first | (go_at_call 15; refine (awake_c _).mono ?_; rintro e w1 ⟨rfl, hb1⟩) | fail); (have hP : Box w1 w.heap.size 56 #[.int .i64 sp, .int .i64 st] := (by focus (apply Box.via; apply Exists.intro; apply And.intro; (repeat first | with_reducible assumption | with_reducible exact Box.new _ _ _ | ((with_reducible apply Box.newAt); focus (simp; done)) | (with_reducible apply Box.drew) | (with_reducible apply Box.drewN) | (with_reducible apply Box.set) | (with_reducible apply Box.alloc) | (with_reducible apply Box.far) | (with_reducible apply Box.below (hb := hb1))); all_goals (first | with_reducible exact Nat.le_refl _ | omega | (simp; done) | (simp; omega) | (have := hb1.size; (try simp at this); omega) | (have := hb1.size; (try simp at this); (try simp); omega))))); (have hY : Box w1 (w.heap.size + 1) 70 #[.int .i64 d, .int .i64 ls] := (by focus (apply Box.via; apply Exists.intro; apply And.intro; (repeat first | with_reducible assumption | with_reducible exact Box.new _ _ _ | ((with_reducible apply Box.newAt); focus (simp; done)) | (with_reducible apply Box.drew) | (with_reducible apply Box.drewN) | (with_reducible apply Box.set) | (with_reducible apply Box.alloc) | (with_reducible apply Box.far) | (with_reducible apply Box.below (hb := hb1))); all_goals (first | with_reducible exact Nat.le_refl _ | omega | (simp; done) | (simp; omega) | (have := hb1.size; (try simp at this); omega) | (have := hb1.size; (try simp at this); (try simp); omega))))); (have hB : Below w.heap.size w w1 := (by focus ((repeat first | with_reducible exact Below.refl _ _ | (with_reducible refine Below.setCell ?_ ?_ _) | (with_reducible refine Below.alloc ?_ ?_ _) | (with_reducible refine below_drewN ?_ _) | (with_reducible refine Below.drew ?_) | (with_reducible refine Below.trans ?_ (Below.mono hb1 ?_))); all_goals (first | with_reducible exact Nat.le_refl _ | omega | (simp; done) | (simp; omega) | (have := hb1.size; (try simp at this); omega) | (have := hb1.size; (try simp at this); (try simp); omega))))); clear hb1; generalize w1 = W5 at *; (have y0 := hY.cell 0); (have y1 := hY.cell 1); simp at y0 y1; go_region_held3 (fun w' => w'.cell? ⟨w.heap.size + 1, 0, none⟩ = some (.int .i64 d) ∧ w'.cell? ⟨w.heap.size + 1, 1, none⟩ = some (.int .i64 ls)) (go_keep) (fail); clear y0 y1)
        (have c00 := hP.cell 0; have c01 := hP.cell 1; simp at c00 c01; have hl0 := hP.lt)
        go_wp2_with (first | (go_at_call 31; refine (RLc.out _).mono ?_; rintro e w2 ⟨rfl, hb2⟩) | (go_at_call 33; refine (RDc.out _).mono ?_; rintro e w' ⟨rfl, rfl⟩) | (go_at_call 37; refine (within_b _ _ _ _).mono ?_; rintro e w' ⟨rfl, rfl⟩) | fail)
        go_ret
        exact ⟨rfl, by focus ((repeat first | with_reducible exact Below.refl _ _ | (with_reducible refine Below.setCell ?_ ?_ _) | (with_reducible refine Below.alloc ?_ ?_ _) | (with_reducible refine below_drewN ?_ _) | (with_reducible refine Below.drew ?_) | (with_reducible refine Below.trans ?_ (Below.mono hb2 ?_)) | (with_reducible refine Below.trans ?_ (Below.mono hB ?_))); all_goals (first | with_reducible exact Nat.le_refl _ | omega | (simp; done) | (simp; omega) | (have := hb2.size; (try simp at this); have := hB.size; (try simp at this); omega) | (have := hb2.size; (try simp at this); have := hB.size; (try simp at this); (try simp); omega)))⟩
      · have e3 : (de != 0) = true := bneT h3
        clear h h2 h3
        (go_enter Try.func6, Try.ntmps6; go_upto_region 3 with (first | (go_at_call 15; refine (awake_c _).mono ?_; rintro e w1 ⟨rfl, hb1⟩) | fail); (have hP : Box w1 w.heap.size 56 #[.int .i64 sp, .int .i64 st] := (by focus (apply Box.via; apply Exists.intro; apply And.intro; (repeat first | with_reducible assumption | with_reducible exact Box.new _ _ _ | ((with_reducible apply Box.newAt); focus (simp; done)) | (with_reducible apply Box.drew) | (with_reducible apply Box.drewN) | (with_reducible apply Box.set) | (with_reducible apply Box.alloc) | (with_reducible apply Box.far) | (with_reducible apply Box.below (hb := hb1))); all_goals (first | with_reducible exact Nat.le_refl _ | omega | (simp; done) | (simp; omega) | (have := hb1.size; (try simp at this); omega) | (have := hb1.size; (try simp at this); (try simp); omega))))); (have hY : Box w1 (w.heap.size + 1) 70 #[.int .i64 d, .int .i64 ls] := (by focus (apply Box.via; apply Exists.intro; apply And.intro; (repeat first | with_reducible assumption | with_reducible exact Box.new _ _ _ | ((with_reducible apply Box.newAt); focus (simp; done)) | (with_reducible apply Box.drew) | (with_reducible apply Box.drewN) | (with_reducible apply Box.set) | (with_reducible apply Box.alloc) | (with_reducible apply Box.far) | (with_reducible apply Box.below (hb := hb1))); all_goals (first | with_reducible exact Nat.le_refl _ | omega | (simp; done) | (simp; omega) | (have := hb1.size; (try simp at this); omega) | (have := hb1.size; (try simp at this); (try simp); omega))))); (have hB : Below w.heap.size w w1 := (by focus ((repeat first | with_reducible exact Below.refl _ _ | (with_reducible refine Below.setCell ?_ ?_ _) | (with_reducible refine Below.alloc ?_ ?_ _) | (with_reducible refine below_drewN ?_ _) | (with_reducible refine Below.drew ?_) | (with_reducible refine Below.trans ?_ (Below.mono hb1 ?_))); all_goals (first | with_reducible exact Nat.le_refl _ | omega | (simp; done) | (simp; omega) | (have := hb1.size; (try simp at this); omega) | (have := hb1.size; (try simp at this); (try simp); omega))))); clear hb1; generalize w1 = W5 at *; (have y0 := hY.cell 0); (have y1 := hY.cell 1); simp at y0 y1; go_region_held3 (fun w' => w'.cell? ⟨w.heap.size + 1, 0, none⟩ = some (.int .i64 d) ∧ w'.cell? ⟨w.heap.size + 1, 1, none⟩ = some (.int .i64 ls)) (go_keep) (fail); clear y0 y1)
        (have c00 := hP.cell 0; have c01 := hP.cell 1; simp at c00 c01; have hl0 := hP.lt)
        go_wp2_with (first | (go_at_call 31; refine (RLc.out _).mono ?_; rintro e w2 ⟨rfl, hb2⟩) | (go_at_call 33; refine (RDc.out _).mono ?_; rintro e w' ⟨rfl, rfl⟩) | fail)
        go_ret
        exact ⟨rfl, by focus ((repeat first | with_reducible exact Below.refl _ _ | (with_reducible refine Below.setCell ?_ ?_ _) | (with_reducible refine Below.alloc ?_ ?_ _) | (with_reducible refine below_drewN ?_ _) | (with_reducible refine Below.drew ?_) | (with_reducible refine Below.trans ?_ (Below.mono hb2 ?_)) | (with_reducible refine Below.trans ?_ (Below.mono hB ?_))); all_goals (first | with_reducible exact Nat.le_refl _ | omega | (simp; done) | (simp; omega) | (have := hb2.size; (try simp at this); have := hB.size; (try simp at this); omega) | (have := hb2.size; (try simp at this); have := hB.size; (try simp at this); (try simp); omega)))⟩
    · have e2 : (le != 0) = true := bneT h2
      clear h h2
      (go_enter Try.func6, Try.ntmps6; go_upto_region 3 with (first | (go_at_call 15; refine (awake_c _).mono ?_; rintro e w1 ⟨rfl, hb1⟩) | fail); (have hP : Box w1 w.heap.size 56 #[.int .i64 sp, .int .i64 st] := (by focus (apply Box.via; apply Exists.intro; apply And.intro; (repeat first | with_reducible assumption | with_reducible exact Box.new _ _ _ | ((with_reducible apply Box.newAt); focus (simp; done)) | (with_reducible apply Box.drew) | (with_reducible apply Box.drewN) | (with_reducible apply Box.set) | (with_reducible apply Box.alloc) | (with_reducible apply Box.far) | (with_reducible apply Box.below (hb := hb1))); all_goals (first | with_reducible exact Nat.le_refl _ | omega | (simp; done) | (simp; omega) | (have := hb1.size; (try simp at this); omega) | (have := hb1.size; (try simp at this); (try simp); omega))))); (have hY : Box w1 (w.heap.size + 1) 70 #[.int .i64 d, .int .i64 ls] := (by focus (apply Box.via; apply Exists.intro; apply And.intro; (repeat first | with_reducible assumption | with_reducible exact Box.new _ _ _ | ((with_reducible apply Box.newAt); focus (simp; done)) | (with_reducible apply Box.drew) | (with_reducible apply Box.drewN) | (with_reducible apply Box.set) | (with_reducible apply Box.alloc) | (with_reducible apply Box.far) | (with_reducible apply Box.below (hb := hb1))); all_goals (first | with_reducible exact Nat.le_refl _ | omega | (simp; done) | (simp; omega) | (have := hb1.size; (try simp at this); omega) | (have := hb1.size; (try simp at this); (try simp); omega))))); (have hB : Below w.heap.size w w1 := (by focus ((repeat first | with_reducible exact Below.refl _ _ | (with_reducible refine Below.setCell ?_ ?_ _) | (with_reducible refine Below.alloc ?_ ?_ _) | (with_reducible refine below_drewN ?_ _) | (with_reducible refine Below.drew ?_) | (with_reducible refine Below.trans ?_ (Below.mono hb1 ?_))); all_goals (first | with_reducible exact Nat.le_refl _ | omega | (simp; done) | (simp; omega) | (have := hb1.size; (try simp at this); omega) | (have := hb1.size; (try simp at this); (try simp); omega))))); clear hb1; generalize w1 = W5 at *; (have y0 := hY.cell 0); (have y1 := hY.cell 1); simp at y0 y1; go_region_held3 (fun w' => w'.cell? ⟨w.heap.size + 1, 0, none⟩ = some (.int .i64 d) ∧ w'.cell? ⟨w.heap.size + 1, 1, none⟩ = some (.int .i64 ls)) (go_keep) (fail); clear y0 y1)
      (have c00 := hP.cell 0; have c01 := hP.cell 1; simp at c00 c01; have hl0 := hP.lt)
      go_wp2_with (first | (go_at_call 31; refine (RLc.out _).mono ?_; rintro e w2 ⟨rfl, hb2⟩) | fail)
      go_ret
      exact ⟨rfl, by focus ((repeat first | with_reducible exact Below.refl _ _ | (with_reducible refine Below.setCell ?_ ?_ _) | (with_reducible refine Below.alloc ?_ ?_ _) | (with_reducible refine below_drewN ?_ _) | (with_reducible refine Below.drew ?_) | (with_reducible refine Below.trans ?_ (Below.mono hb2 ?_)) | (with_reducible refine Below.trans ?_ (Below.mono hB ?_))); all_goals (first | with_reducible exact Nat.le_refl _ | omega | (simp; done) | (simp; omega) | (have := hb2.size; (try simp at this); have := hB.size; (try simp at this); omega) | (have := hb2.size; (try simp at this); have := hB.size; (try simp at this); (try simp); omega)))⟩

set_option maxHeartbeats 8000000 in
set_option maxRecDepth 100000 in
theorem winchFewest_in (sp st : Int) (xs : List Int) (A : Option Addr) (c : Nat) (d ls : Int) (w : World) (hn : xs.length ≤ 200) (hl : limE sp st = 0) (hd : dstE d = 0) (hi : inB ls 0 d = true) (hs : SlI w A xs) :
    Calls Try.prog 6 #[.agg #[.int .i64 sp, .int .i64 st], .slice A xs.length c, .agg #[.int .i64 d, .int .i64 ls]] w fun e w' => e = .returned (.bool true) ∧ Below w.heap.size w w' := by
  have HS := Lib.hid hs
  have CI := Lib.hid (fun W h => copyInts_c xs A c W (by omega) h)
  have CK := Lib.hid (fun A c W h => checkProfile_c sp st xs A c W h)
  have hls := inB_true.1 hi
  have lims := limE_ok hl
  have TF := Lib.hid (fun W => TicksFor_c sp st d W)
  have TL := Lib.hid (fun W => TicksFor_c sp st ls W)
  have TM0 : ∀ (a b : Int) (W : World), a = min 100 (sp + 1) → b = min 100 (st + 1) → Calls Try.prog 29 #[.agg #[.int .i64 a, .int .i64 b], .int .i64 d] W fun e w' => e = .returned (.tuple #[.int .i64 (tksP (min 100 (sp + 1)) (min 100 (st + 1)) d).1, .int .i64 (tksP (min 100 (sp + 1)) (min 100 (st + 1)) d).2]) ∧ Below W.heap.size W w' := by
    rintro a b W rfl rfl; exact TicksFor_c _ _ d W
  have TM := Lib.hid TM0
  clear TM0
  have PF := Lib.hid (fun W => profileFor_c sp st d W)
  have TN := Lib.hid (fun W => TicksFor_c sp st (cpfP sp st xs).1 W)
  have PN := Lib.hid (fun W => profileFor_c sp st (cpfP sp st xs).1 W)
  have KG := Lib.hid (fun A c W h => checkProfile_c sp st (prfL sp st d) A c W h)
  have CG0 := Lib.hid (fun (hq : (prfL sp st d).length ≤ 200) A c W h => copyInts_c (prfL sp st d) A c W (by omega) h)
  have RLc := Lib.hid (fun W => refLimitsErr_c sp st W)
  have RDc := Lib.hid (fun W => refDistanceErr_c d W)
  have FA := Lib.hid (few_A (sp := sp) (st := st) hl hd)
  have FB := Lib.hid (fun h0 => few_B (sp := sp) (st := st) (ls := ls) hl hd hls.1 hls.2 h0)
  have FC := Lib.hid (fun (hx : (cpfP sp st xs).2 = 0) hN => few_C (sp := sp) (st := st) (N := (cpfP sp st xs).1) (xs := xs) hl (Prod.ext rfl hx) hN)
  have FD := Lib.hid (show prfE sp st (cpfP sp st xs).1 = (tksP sp st (cpfP sp st xs).1).2 from rfl)
  rw [hl] at RLc
  rw [hd] at RDc
  clear hs hl hd
  have BF := Lib.hid (fun A B c d W h1 h2 h3 h4 => before_c (prfL sp st (cpfP sp st xs).1) xs A B c d W h1 h2 h3 h4)
  generalize befL (prfL sp st (cpfP sp st xs).1) xs = bf at *
  generalize tksP sp st (cpfP sp st xs).1 = NN at *
  generalize prfE sp st (cpfP sp st xs).1 = be at *
  generalize prfL sp st (cpfP sp st xs).1 = BL at *
  generalize cpfP sp st xs = CC at *
  generalize cpfP sp st (prfL sp st d) = KK at *
  generalize tksP (min 100 (sp + 1)) (min 100 (st + 1)) d = VV at *
  generalize tksP sp st ls = UU at *
  generalize tksP sp st d = TT at *
  generalize prfE sp st d = pe at *
  generalize prfL sp st d = PL at *
  obtain ⟨nt, ne⟩ := NN
  obtain ⟨cm, cc⟩ := CC
  obtain ⟨km, kc⟩ := KK
  obtain ⟨vv, ve⟩ := VV
  obtain ⟨uu, ue⟩ := UU
  obtain ⟨tt, te⟩ := TT
  dsimp only at CK TF TL TM TN KG FA FB FC FD
  have d1 : decide ((200 : Int) < (xs.length : Int)) = false := decide_eq_false (by omega)
  have d2 : decide (200 < xs.length) = false := decide_eq_false (by omega)
  have d3 : ¬ 200 < xs.length := by omega
  (go_enter Try.func6, Try.ntmps6; go_upto_region 3 with (first | (go_at_call 15; refine (awake_c _).mono ?_; rintro e w1 ⟨rfl, hb1⟩) | fail); (have hP : Box w1 w.heap.size 56 #[.int .i64 sp, .int .i64 st] := (by focus (apply Box.via; apply Exists.intro; apply And.intro; (repeat first | with_reducible assumption | with_reducible exact Box.new _ _ _ | ((with_reducible apply Box.newAt); focus (simp; done)) | (with_reducible apply Box.drew) | (with_reducible apply Box.drewN) | (with_reducible apply Box.set) | (with_reducible apply Box.alloc) | (with_reducible apply Box.far) | (with_reducible apply Box.below (hb := hb1))); all_goals (first | with_reducible exact Nat.le_refl _ | omega | (simp; done) | (simp; omega) | (have := hb1.size; (try simp at this); omega) | (have := hb1.size; (try simp at this); (try simp); omega))))); (have hY : Box w1 (w.heap.size + 1) 70 #[.int .i64 d, .int .i64 ls] := (by focus (apply Box.via; apply Exists.intro; apply And.intro; (repeat first | with_reducible assumption | with_reducible exact Box.new _ _ _ | ((with_reducible apply Box.newAt); focus (simp; done)) | (with_reducible apply Box.drew) | (with_reducible apply Box.drewN) | (with_reducible apply Box.set) | (with_reducible apply Box.alloc) | (with_reducible apply Box.far) | (with_reducible apply Box.below (hb := hb1))); all_goals (first | with_reducible exact Nat.le_refl _ | omega | (simp; done) | (simp; omega) | (have := hb1.size; (try simp at this); omega) | (have := hb1.size; (try simp at this); (try simp); omega))))); (have hB : Below w.heap.size w w1 := (by focus ((repeat first | with_reducible exact Below.refl _ _ | (with_reducible refine Below.setCell ?_ ?_ _) | (with_reducible refine Below.alloc ?_ ?_ _) | (with_reducible refine below_drewN ?_ _) | (with_reducible refine Below.drew ?_) | (with_reducible refine Below.trans ?_ (Below.mono hb1 ?_))); all_goals (first | with_reducible exact Nat.le_refl _ | omega | (simp; done) | (simp; omega) | (have := hb1.size; (try simp at this); omega) | (have := hb1.size; (try simp at this); (try simp); omega))))); clear hb1; generalize w1 = W5 at *; (have y0 := hY.cell 0); (have y1 := hY.cell 1); simp at y0 y1; go_region_held3 (fun w' => w'.cell? ⟨w.heap.size + 1, 0, none⟩ = some (.int .i64 d) ∧ w'.cell? ⟨w.heap.size + 1, 1, none⟩ = some (.int .i64 ls)) (go_keep) (fail); clear y0 y1)
  (have c00 := hP.cell 0; have c01 := hP.cell 1; simp at c00 c01; have hl0 := hP.lt)
  go_upto_region 6 with (first | (go_at_call 31; refine (RLc.out _).mono ?_; rintro e w2 ⟨rfl, hb2⟩) | (go_at_call 33; refine (RDc.out _).mono ?_; rintro e w' ⟨rfl, rfl⟩) | (go_at_call 37; refine (within_b _ _ _ _).mono ?_; rintro e w' ⟨rfl, rfl⟩) | fail)
  clear c00 c01
  have hl1 := hY.lt
  have hP' : Box w2 w.heap.size 56 #[.int .i64 sp, .int .i64 st] := by focus (apply Box.via; apply Exists.intro; apply And.intro; (repeat first | with_reducible assumption | with_reducible exact Box.new _ _ _ | ((with_reducible apply Box.newAt); focus (simp; done)) | (with_reducible apply Box.drew) | (with_reducible apply Box.drewN) | (with_reducible apply Box.set) | (with_reducible apply Box.alloc) | (with_reducible apply Box.far) | (with_reducible apply Box.below (hb := hb2))); all_goals (first | with_reducible exact Nat.le_refl _ | omega | (simp; done) | (simp; omega) | (have := hb2.size; (try simp at this); omega) | (have := hb2.size; (try simp at this); (try simp); omega)))
  have hB' : Below w.heap.size w w2 := by focus ((repeat first | with_reducible exact Below.refl _ _ | (with_reducible refine Below.setCell ?_ ?_ _) | (with_reducible refine Below.alloc ?_ ?_ _) | (with_reducible refine below_drewN ?_ _) | (with_reducible refine Below.drew ?_) | (with_reducible refine Below.trans ?_ (Below.mono hb2 ?_)) | (with_reducible refine Below.trans ?_ (Below.mono hB ?_))); all_goals (first | with_reducible exact Nat.le_refl _ | omega | (simp; done) | (simp; omega) | (have := hb2.size; (try simp at this); have := hB.size; (try simp at this); omega) | (have := hb2.size; (try simp at this); have := hB.size; (try simp at this); (try simp); omega)))
  clear hP hB hb2 hl0 hl1 hY
  have hP := hP'; have hB := hB'
  clear hP' hB'
  generalize w2 = W5 at *
  go_cut [9, 10] (fun s9 s10 wx => s9 = .int .i64 tt ∧ s10 = .int .i64 te ∧ Box wx w.heap.size 56 #[.int .i64 sp, .int .i64 st] ∧ Below w.heap.size w wx)
  case first =>
    (have c00 := hP.cell 0; have c01 := hP.cell 1; simp at c00 c01; have hl0 := hP.lt)
    go_wp2_with (first | (go_at_call 29; refine (TF.out _).mono ?_; rintro e w2 ⟨rfl, hb2⟩) | fail)
    go_meet
    refine ⟨rfl, rfl, ?_, ?_⟩
    all_goals first | (focus (apply Box.via; apply Exists.intro; apply And.intro; (repeat first | with_reducible assumption | with_reducible exact Box.new _ _ _ | ((with_reducible apply Box.newAt); focus (simp; done)) | (with_reducible apply Box.drew) | (with_reducible apply Box.drewN) | (with_reducible apply Box.set) | (with_reducible apply Box.alloc) | (with_reducible apply Box.far) | (with_reducible apply Box.below (hb := hb2))); all_goals (first | with_reducible exact Nat.le_refl _ | omega | (simp; done) | (simp; omega) | (have := hb2.size; (try simp at this); omega) | (have := hb2.size; (try simp at this); (try simp); omega)))) | (focus ((repeat first | with_reducible exact Below.refl _ _ | (with_reducible refine Below.setCell ?_ ?_ _) | (with_reducible refine Below.alloc ?_ ?_ _) | (with_reducible refine below_drewN ?_ _) | (with_reducible refine Below.drew ?_) | (with_reducible refine Below.trans ?_ (Below.mono hb2 ?_)) | (with_reducible refine Below.trans ?_ (Below.mono hB ?_))); all_goals (first | with_reducible exact Nat.le_refl _ | omega | (simp; done) | (simp; omega) | (have := hb2.size; (try simp at this); have := hB.size; (try simp at this); omega) | (have := hb2.size; (try simp at this); have := hB.size; (try simp at this); (try simp); omega))))
  case rest =>
    clear hP hB
    obtain ⟨rfl, rfl, hP, hB⟩ := hcut
    generalize wc = W5 at *
    go_upto_region 7 with fail
    go_cut [11, 12] (fun s11 s12 wx => ∃ G cap4, s11 = .slice G PL.length cap4 ∧ s12 = .int .i64 pe ∧ SlI wx G PL ∧ Box wx w.heap.size 56 #[.int .i64 sp, .int .i64 st] ∧ Below w.heap.size w wx)
    case first =>
      (have c00 := hP.cell 0; have c01 := hP.cell 1; simp at c00 c01; have hl0 := hP.lt)
      go_wp2_with (first | (go_at_call 30; refine (PF.out _).mono ?_; rintro e w2 ⟨G, cap4, rfl, hG4, hb2⟩) | fail)
      go_meet
      refine ⟨_, _, rfl, rfl, hG4, ?_, ?_⟩
      all_goals first | (focus (apply Box.via; apply Exists.intro; apply And.intro; (repeat first | with_reducible assumption | with_reducible exact Box.new _ _ _ | ((with_reducible apply Box.newAt); focus (simp; done)) | (with_reducible apply Box.drew) | (with_reducible apply Box.drewN) | (with_reducible apply Box.set) | (with_reducible apply Box.alloc) | (with_reducible apply Box.far) | (with_reducible apply Box.below (hb := hb2))); all_goals (first | with_reducible exact Nat.le_refl _ | omega | (simp; done) | (simp; omega) | (have := hb2.size; (try simp at this); omega) | (have := hb2.size; (try simp at this); (try simp); omega)))) | (focus ((repeat first | with_reducible exact Below.refl _ _ | (with_reducible refine Below.setCell ?_ ?_ _) | (with_reducible refine Below.alloc ?_ ?_ _) | (with_reducible refine below_drewN ?_ _) | (with_reducible refine Below.drew ?_) | (with_reducible refine Below.trans ?_ (Below.mono hb2 ?_)) | (with_reducible refine Below.trans ?_ (Below.mono hB ?_))); all_goals (first | with_reducible exact Nat.le_refl _ | omega | (simp; done) | (simp; omega) | (have := hb2.size; (try simp at this); have := hB.size; (try simp at this); omega) | (have := hb2.size; (try simp at this); have := hB.size; (try simp at this); (try simp); omega))))
    case rest =>
      clear hP hB
      obtain ⟨G, cap4, rfl, rfl, hG4, hP, hB⟩ := hcut
      generalize wc = W5 at *
      have HG := Lib.hid hG4
      clear hG4
      obtain ⟨fa1, fa2⟩ := FA.out
      have x1 : (te != pe) = false := bneF fa1.symm
      by_cases hte : te = 0
      case' pos =>
        obtain ⟨b1, b2, b3, b4, b5, b6, b7⟩ := FB.out hte
        have CG := Lib.hid (CG0.out b7)
        obtain ⟨rfl, rfl⟩ : km = d ∧ kc = 0 := by simpa using b1
        subst b3 b5 hte
        have x2 : ((PL.length : Int) != tt) = false := bneF b2
        have x3 : decide (tt < uu) = false := decide_eq_false (by omega)
        have x4 : decide (tt < vv) = false := decide_eq_false (by omega)
        clear b1 b2 b4 b6 b7 fa1 fa2 FA FB CG0
        go_upto_region 11 with fail
        go_cut [13, 14] (fun s13 s14 wx => s13 = .int .i64 km ∧ s14 = .int .i64 0 ∧ Box wx w.heap.size 56 #[.int .i64 sp, .int .i64 st] ∧ Below w.heap.size w wx)
        case first =>
          (have c00 := hP.cell 0; have c01 := hP.cell 1; simp at c00 c01; have hl0 := hP.lt)
          go_region_held3 (fun w' => w'.cell? ⟨w.heap.size, 0, none⟩ = some (.int .i64 sp) ∧ w'.cell? ⟨w.heap.size, 1, none⟩ = some (.int .i64 st)) (go_keep) (first | (go_at_call 24; refine (CG.out _ _ _ (SlI.below HG.out (by focus ((repeat first | with_reducible exact Below.refl _ _ | (with_reducible refine Below.setCell ?_ ?_ _) | (with_reducible refine Below.alloc ?_ ?_ _) | (with_reducible refine below_drewN ?_ _) | (with_reducible refine Below.drew ?_)); all_goals (first | with_reducible exact Nat.le_refl _ | omega | (simp; done) | (simp; omega) | (omega) | ((try simp); omega)))))).mono ?_; rintro e w2 ⟨D, d', rfl, hD, hb2⟩; have hz2 : W5.heap.size ≤ w2.heap.size := (by have := hb2.size; (try simp at this); omega); have k0 := ((hb2).cell (p := ⟨w.heap.size, 0, none⟩) (by simp; omega)).trans (show _ = some (Value.int .i64 sp) from by simp [go_sem, *]); have k1 := ((hb2).cell (p := ⟨w.heap.size, 1, none⟩) (by simp; omega)).trans (show _ = some (Value.int .i64 st) from by simp [go_sem, *])) | (go_at_call 28; refine (KG.out _ _ _ (SlI.below hD (by focus ((repeat first | with_reducible exact Below.refl _ _ | (with_reducible refine Below.setCell ?_ ?_ _) | (with_reducible refine Below.alloc ?_ ?_ _) | (with_reducible refine below_drewN ?_ _) | (with_reducible refine Below.drew ?_)); all_goals (first | with_reducible exact Nat.le_refl _ | omega | (simp; done) | (simp; omega) | (omega) | ((try simp); omega)))))).mono ?_; rintro e w3 ⟨rfl, hb3⟩; have hz3 : w2.heap.size ≤ w3.heap.size := (by have := hb3.size; (try simp at this); omega); have k10 := ((hb3).cell (p := ⟨w.heap.size, 0, none⟩) (by simp; omega)).trans (show _ = some (Value.int .i64 sp) from by simp [go_sem, *]); have k11 := ((hb3).cell (p := ⟨w.heap.size, 1, none⟩) (by simp; omega)).trans (show _ = some (Value.int .i64 st) from by simp [go_sem, *])) | fail)
          all_goals go_wp2_with fail
          all_goals go_meet
          all_goals refine ⟨rfl, rfl, ?_, ?_⟩
          all_goals first | (focus (apply Box.via; apply Exists.intro; apply And.intro; (repeat first | with_reducible assumption | with_reducible exact Box.new _ _ _ | ((with_reducible apply Box.newAt); focus (simp; done)) | (with_reducible apply Box.drew) | (with_reducible apply Box.drewN) | (with_reducible apply Box.set) | (with_reducible apply Box.alloc) | (with_reducible apply Box.far) | (with_reducible apply Box.below (hb := hb2)) | (with_reducible apply Box.below (hb := hb3))); all_goals (first | with_reducible exact Nat.le_refl _ | omega | (simp; done) | (simp; omega) | (have := hb2.size; (try simp at this); have := hb3.size; (try simp at this); omega) | (have := hb2.size; (try simp at this); have := hb3.size; (try simp at this); (try simp); omega)))) | (focus ((repeat first | with_reducible exact Below.refl _ _ | (with_reducible refine Below.setCell ?_ ?_ _) | (with_reducible refine Below.alloc ?_ ?_ _) | (with_reducible refine below_drewN ?_ _) | (with_reducible refine Below.drew ?_) | (with_reducible refine Below.trans ?_ (Below.mono hb2 ?_)) | (with_reducible refine Below.trans ?_ (Below.mono hb3 ?_)) | (with_reducible refine Below.trans ?_ (Below.mono hB ?_))); all_goals (first | with_reducible exact Nat.le_refl _ | omega | (simp; done) | (simp; omega) | (have := hb2.size; (try simp at this); have := hb3.size; (try simp at this); have := hB.size; (try simp at this); omega) | (have := hb2.size; (try simp at this); have := hb3.size; (try simp at this); have := hB.size; (try simp at this); (try simp); omega))))
        clear hP hB HG
        obtain ⟨rfl, rfl, hP, hB⟩ := hcut
        generalize wc = W5 at *
        go_upto_region 12 with fail
        go_cut [15, 16] (fun s15 s16 wx => s15 = .int .i64 uu ∧ s16 = .int .i64 0 ∧ Box wx w.heap.size 56 #[.int .i64 sp, .int .i64 st] ∧ Below w.heap.size w wx)
        case first =>
          (have c00 := hP.cell 0; have c01 := hP.cell 1; simp at c00 c01; have hl0 := hP.lt)
          go_wp2_with (first | (go_at_call 29; refine (TL.out _).mono ?_; rintro e w2 ⟨rfl, hb2⟩) | fail)
          go_meet
          refine ⟨rfl, rfl, ?_, ?_⟩
          all_goals first | (focus (apply Box.via; apply Exists.intro; apply And.intro; (repeat first | with_reducible assumption | with_reducible exact Box.new _ _ _ | ((with_reducible apply Box.newAt); focus (simp; done)) | (with_reducible apply Box.drew) | (with_reducible apply Box.drewN) | (with_reducible apply Box.set) | (with_reducible apply Box.alloc) | (with_reducible apply Box.far) | (with_reducible apply Box.below (hb := hb2))); all_goals (first | with_reducible exact Nat.le_refl _ | omega | (simp; done) | (simp; omega) | (have := hb2.size; (try simp at this); omega) | (have := hb2.size; (try simp at this); (try simp); omega)))) | (focus ((repeat first | with_reducible exact Below.refl _ _ | (with_reducible refine Below.setCell ?_ ?_ _) | (with_reducible refine Below.alloc ?_ ?_ _) | (with_reducible refine below_drewN ?_ _) | (with_reducible refine Below.drew ?_) | (with_reducible refine Below.trans ?_ (Below.mono hb2 ?_)) | (with_reducible refine Below.trans ?_ (Below.mono hB ?_))); all_goals (first | with_reducible exact Nat.le_refl _ | omega | (simp; done) | (simp; omega) | (have := hb2.size; (try simp at this); have := hB.size; (try simp at this); omega) | (have := hb2.size; (try simp at this); have := hB.size; (try simp at this); (try simp); omega))))
        clear hP hB
        obtain ⟨rfl, rfl, hP, hB⟩ := hcut
        generalize wc = W5 at *
        go_upto_region 13 with fail
        go_cut [17, 18] (fun s17 s18 wx => s17 = .int .i64 vv ∧ s18 = .int .i64 0 ∧ Box wx w.heap.size 56 #[.int .i64 sp, .int .i64 st] ∧ Below w.heap.size w wx)
        case first =>
          (have c00 := hP.cell 0; have c01 := hP.cell 1; simp at c00 c01; have hl0 := hP.lt)
          have v1 : IntKind.i64.wrap (sp + 1) = sp + 1 := IntWalk.i64_in _ (by omega)
          have v2 : IntKind.i64.wrap (st + 1) = st + 1 := IntWalk.i64_in _ (by omega)
          go_wp2_with (first | (go_at_call 29; refine (TM.out _ _ _ (by omega) (by omega)).mono ?_; rintro e w2 ⟨rfl, hb2⟩) | fail)
          all_goals go_meet
          all_goals refine ⟨rfl, rfl, ?_, ?_⟩
          all_goals first | (focus (apply Box.via; apply Exists.intro; apply And.intro; (repeat first | with_reducible assumption | with_reducible exact Box.new _ _ _ | ((with_reducible apply Box.newAt); focus (simp; done)) | (with_reducible apply Box.drew) | (with_reducible apply Box.drewN) | (with_reducible apply Box.set) | (with_reducible apply Box.alloc) | (with_reducible apply Box.far) | (with_reducible apply Box.below (hb := hb2))); all_goals (first | with_reducible exact Nat.le_refl _ | omega | (simp; done) | (simp; omega) | (have := hb2.size; (try simp at this); omega) | (have := hb2.size; (try simp at this); (try simp); omega)))) | (focus ((repeat first | with_reducible exact Below.refl _ _ | (with_reducible refine Below.setCell ?_ ?_ _) | (with_reducible refine Below.alloc ?_ ?_ _) | (with_reducible refine below_drewN ?_ _) | (with_reducible refine Below.drew ?_) | (with_reducible refine Below.trans ?_ (Below.mono hb2 ?_)) | (with_reducible refine Below.trans ?_ (Below.mono hB ?_))); all_goals (first | with_reducible exact Nat.le_refl _ | omega | (simp; done) | (simp; omega) | (have := hb2.size; (try simp at this); have := hB.size; (try simp at this); omega) | (have := hb2.size; (try simp at this); have := hB.size; (try simp at this); (try simp); omega))))
        clear hP hB
        obtain ⟨rfl, rfl, hP, hB⟩ := hcut
        generalize wc = W5 at *
        go_upto_region 16 with fail
      case' neg =>
        have x2 : (te == 0) = false := beqF hte
        have x3 : (te != 0) = true := bneT hte
        have x4 : (te != 8) = false := bneF (fa2.resolve_left hte)
        clear fa1 fa2 FA FB CG0 hte HG
        go_upto_region 16 with fail
      all_goals
        go_cut [19, 20] (fun s19 s20 wx => s19 = .int .i64 cm ∧ s20 = .int .i64 cc ∧ Box wx w.heap.size 56 #[.int .i64 sp, .int .i64 st] ∧ Below w.heap.size w wx)
        case first =>
          (have c00 := hP.cell 0; have c01 := hP.cell 1; simp at c00 c01; have hl0 := hP.lt)
          go_region_held3 (fun w' => w'.cell? ⟨w.heap.size, 0, none⟩ = some (.int .i64 sp) ∧ w'.cell? ⟨w.heap.size, 1, none⟩ = some (.int .i64 st)) (go_keep) (first | (go_at_call 24; refine (CI.out _ (SlI.below HS.out (by focus ((repeat first | with_reducible exact Below.refl _ _ | (with_reducible refine Below.setCell ?_ ?_ _) | (with_reducible refine Below.alloc ?_ ?_ _) | (with_reducible refine below_drewN ?_ _) | (with_reducible refine Below.drew ?_) | (with_reducible refine Below.trans ?_ (Below.mono hB ?_))); all_goals (first | with_reducible exact Nat.le_refl _ | omega | (simp; done) | (simp; omega) | (have := hB.size; (try simp at this); omega) | (have := hB.size; (try simp at this); (try simp); omega)))))).mono ?_; rintro e w2 ⟨D, d', rfl, hD, hb2⟩; have hz2 : W5.heap.size ≤ w2.heap.size := (by have := hb2.size; (try simp at this); omega); have k0 := ((hb2).cell (p := ⟨w.heap.size, 0, none⟩) (by simp; omega)).trans (show _ = some (Value.int .i64 sp) from by simp [go_sem, *]); have k1 := ((hb2).cell (p := ⟨w.heap.size, 1, none⟩) (by simp; omega)).trans (show _ = some (Value.int .i64 st) from by simp [go_sem, *])) | (go_at_call 28; refine (CK.out _ _ _ (SlI.below hD (by focus ((repeat first | with_reducible exact Below.refl _ _ | (with_reducible refine Below.setCell ?_ ?_ _) | (with_reducible refine Below.alloc ?_ ?_ _) | (with_reducible refine below_drewN ?_ _) | (with_reducible refine Below.drew ?_)); all_goals (first | with_reducible exact Nat.le_refl _ | omega | (simp; done) | (simp; omega) | (omega) | ((try simp); omega)))))).mono ?_; rintro e w3 ⟨rfl, hb3⟩; have hz3 : w2.heap.size ≤ w3.heap.size := (by have := hb3.size; (try simp at this); omega); have k10 := ((hb3).cell (p := ⟨w.heap.size, 0, none⟩) (by simp; omega)).trans (show _ = some (Value.int .i64 sp) from by simp [go_sem, *]); have k11 := ((hb3).cell (p := ⟨w.heap.size, 1, none⟩) (by simp; omega)).trans (show _ = some (Value.int .i64 st) from by simp [go_sem, *])) | fail)
          all_goals go_wp2_with fail
          all_goals go_meet
          all_goals refine ⟨rfl, rfl, ?_, ?_⟩
          all_goals first | (focus (apply Box.via; apply Exists.intro; apply And.intro; (repeat first | with_reducible assumption | with_reducible exact Box.new _ _ _ | ((with_reducible apply Box.newAt); focus (simp; done)) | (with_reducible apply Box.drew) | (with_reducible apply Box.drewN) | (with_reducible apply Box.set) | (with_reducible apply Box.alloc) | (with_reducible apply Box.far) | (with_reducible apply Box.below (hb := hb2)) | (with_reducible apply Box.below (hb := hb3))); all_goals (first | with_reducible exact Nat.le_refl _ | omega | (simp; done) | (simp; omega) | (have := hb2.size; (try simp at this); have := hb3.size; (try simp at this); omega) | (have := hb2.size; (try simp at this); have := hb3.size; (try simp at this); (try simp); omega)))) | (focus ((repeat first | with_reducible exact Below.refl _ _ | (with_reducible refine Below.setCell ?_ ?_ _) | (with_reducible refine Below.alloc ?_ ?_ _) | (with_reducible refine below_drewN ?_ _) | (with_reducible refine Below.drew ?_) | (with_reducible refine Below.trans ?_ (Below.mono hb2 ?_)) | (with_reducible refine Below.trans ?_ (Below.mono hb3 ?_)) | (with_reducible refine Below.trans ?_ (Below.mono hB ?_))); all_goals (first | with_reducible exact Nat.le_refl _ | omega | (simp; done) | (simp; omega) | (have := hb2.size; (try simp at this); have := hb3.size; (try simp at this); have := hB.size; (try simp at this); omega) | (have := hb2.size; (try simp at this); have := hb3.size; (try simp at this); have := hB.size; (try simp at this); (try simp); omega))))
        clear hP hB
        obtain ⟨rfl, rfl, hP, hB⟩ := hcut
        generalize wc = W5 at *
        by_cases hcc : cc = 0
        · subst hcc
          by_cases hcm : cm ≤ 10000
          · have z2 : decide (10000 < cm) = false := decide_eq_false (by omega)
            obtain ⟨f1, f2, f3, f4, f5⟩ := FC.out rfl hcm
            have HF4 := Lib.hid f4
            have fd := FD.out
            have z3 : (ne != 0) = false := bneF f2
            have z4 : (be != 0) = false := bneF (by omega)
            have z5 : decide ((xs.length : Int) < nt) = false := decide_eq_false (by omega)
            clear f4 fd FC FD f1 f2
            go_upto_region 19 with fail
            go_cut [21, 22] (fun s21 s22 wx => s21 = .int .i64 nt ∧ s22 = .int .i64 ne ∧ Box wx w.heap.size 56 #[.int .i64 sp, .int .i64 st] ∧ Below w.heap.size w wx)
            case first =>
              (have c00 := hP.cell 0; have c01 := hP.cell 1; simp at c00 c01; have hl0 := hP.lt)
              go_wp2_with (first | (go_at_call 29; refine (TN.out _).mono ?_; rintro e w2 ⟨rfl, hb2⟩) | fail)
              go_meet
              refine ⟨rfl, rfl, ?_, ?_⟩
              all_goals first | (focus (apply Box.via; apply Exists.intro; apply And.intro; (repeat first | with_reducible assumption | with_reducible exact Box.new _ _ _ | ((with_reducible apply Box.newAt); focus (simp; done)) | (with_reducible apply Box.drew) | (with_reducible apply Box.drewN) | (with_reducible apply Box.set) | (with_reducible apply Box.alloc) | (with_reducible apply Box.far) | (with_reducible apply Box.below (hb := hb2))); all_goals (first | with_reducible exact Nat.le_refl _ | omega | (simp; done) | (simp; omega) | (have := hb2.size; (try simp at this); omega) | (have := hb2.size; (try simp at this); (try simp); omega)))) | (focus ((repeat first | with_reducible exact Below.refl _ _ | (with_reducible refine Below.setCell ?_ ?_ _) | (with_reducible refine Below.alloc ?_ ?_ _) | (with_reducible refine below_drewN ?_ _) | (with_reducible refine Below.drew ?_) | (with_reducible refine Below.trans ?_ (Below.mono hb2 ?_)) | (with_reducible refine Below.trans ?_ (Below.mono hB ?_))); all_goals (first | with_reducible exact Nat.le_refl _ | omega | (simp; done) | (simp; omega) | (have := hb2.size; (try simp at this); have := hB.size; (try simp at this); omega) | (have := hb2.size; (try simp at this); have := hB.size; (try simp at this); (try simp); omega))))
            clear hP hB
            obtain ⟨rfl, rfl, hP, hB⟩ := hcut
            generalize wc = W5 at *
            go_upto_region 20 with fail
            go_cut [23, 24] (fun s23 s24 wx => ∃ F cap5, s23 = .slice F BL.length cap5 ∧ s24 = .int .i64 be ∧ SlI wx F BL ∧ Box wx w.heap.size 56 #[.int .i64 sp, .int .i64 st] ∧ Below w.heap.size w wx)
            case first =>
              (have c00 := hP.cell 0; have c01 := hP.cell 1; simp at c00 c01; have hl0 := hP.lt)
              go_wp2_with (first | (go_at_call 30; refine (PN.out _).mono ?_; rintro e w2 ⟨F, cap5, rfl, hF5, hb2⟩) | fail)
              go_meet
              refine ⟨_, _, rfl, rfl, hF5, ?_, ?_⟩
              all_goals first | (focus (apply Box.via; apply Exists.intro; apply And.intro; (repeat first | with_reducible assumption | with_reducible exact Box.new _ _ _ | ((with_reducible apply Box.newAt); focus (simp; done)) | (with_reducible apply Box.drew) | (with_reducible apply Box.drewN) | (with_reducible apply Box.set) | (with_reducible apply Box.alloc) | (with_reducible apply Box.far) | (with_reducible apply Box.below (hb := hb2))); all_goals (first | with_reducible exact Nat.le_refl _ | omega | (simp; done) | (simp; omega) | (have := hb2.size; (try simp at this); omega) | (have := hb2.size; (try simp at this); (try simp); omega)))) | (focus ((repeat first | with_reducible exact Below.refl _ _ | (with_reducible refine Below.setCell ?_ ?_ _) | (with_reducible refine Below.alloc ?_ ?_ _) | (with_reducible refine below_drewN ?_ _) | (with_reducible refine Below.drew ?_) | (with_reducible refine Below.trans ?_ (Below.mono hb2 ?_)) | (with_reducible refine Below.trans ?_ (Below.mono hB ?_))); all_goals (first | with_reducible exact Nat.le_refl _ | omega | (simp; done) | (simp; omega) | (have := hb2.size; (try simp at this); have := hB.size; (try simp at this); omega) | (have := hb2.size; (try simp at this); have := hB.size; (try simp at this); (try simp); omega))))
            clear hP hB
            obtain ⟨F, cap5, rfl, rfl, hF5, hP, hB⟩ := hcut
            generalize wc = W5 at *
            have HFF := Lib.hid hF5
            clear hF5
            by_cases hlt : nt < xs.length
            · have z6 : decide (nt < (xs.length : Int)) = true := decide_eq_true hlt
              go_wp2_with fail
              go_ret
              exact ⟨rfl, hB⟩
            · have z6 : decide (nt < (xs.length : Int)) = false := decide_eq_false hlt
              have hbf := HF4.out (by omega)
              have BF' := Lib.hid BF.out
              rw [hbf] at BF'
              clear f3 hcm hlt hbf BF
              go_wp2_with (first | (go_at_call 38; refine (BF'.out _ _ _ _ _ (by omega) (by omega) HFF.out (SlI.below HS.out (by focus ((repeat first | with_reducible exact Below.refl _ _ | (with_reducible refine Below.setCell ?_ ?_ _) | (with_reducible refine Below.alloc ?_ ?_ _) | (with_reducible refine below_drewN ?_ _) | (with_reducible refine Below.drew ?_) | (with_reducible refine Below.trans ?_ (Below.mono hB ?_))); all_goals (first | with_reducible exact Nat.le_refl _ | omega | (simp; done) | (simp; omega) | (have := hB.size; (try simp at this); omega) | (have := hB.size; (try simp at this); (try simp); omega)))))).mono ?_; rintro e w3 ⟨rfl, hb3⟩) | fail)
              go_ret
              exact ⟨rfl, by focus ((repeat first | with_reducible exact Below.refl _ _ | (with_reducible refine Below.setCell ?_ ?_ _) | (with_reducible refine Below.alloc ?_ ?_ _) | (with_reducible refine below_drewN ?_ _) | (with_reducible refine Below.drew ?_) | (with_reducible refine Below.trans ?_ (Below.mono hb3 ?_)) | (with_reducible refine Below.trans ?_ (Below.mono hB ?_))); all_goals (first | with_reducible exact Nat.le_refl _ | omega | (simp; done) | (simp; omega) | (have := hb3.size; (try simp at this); have := hB.size; (try simp at this); omega) | (have := hb3.size; (try simp at this); have := hB.size; (try simp at this); (try simp); omega)))⟩
          · have z2 : decide (10000 < cm) = true := decide_eq_true (by omega)
            go_wp2_with fail
            go_ret
            exact ⟨rfl, hB⟩
        · have z1 : (cc != 0) = true := bneT hcc
          go_wp2_with fail
          go_ret
          exact ⟨rfl, hB⟩

theorem winchFewest_l (sp st : Int) (xs : List Int) (A : Option Addr) (c : Nat) (d ls : Int) (w : World) (_ : ∀ x ∈ [sp, st], -9223372036854775808 ≤ x ∧ x ≤ 9223372036854775807) (hm : xs.length ≤ 9223372036854775807) (hs : SlI w A xs) (_ : ∀ x ∈ [d, ls], -9223372036854775808 ≤ x ∧ x ≤ 9223372036854775807) :
    Calls Try.prog 6 #[.agg #[.int .i64 sp, .int .i64 st], .slice A xs.length c, .agg #[.int .i64 d, .int .i64 ls]] w fun e w' => e = .returned (.bool true) ∧ Below w.heap.size w w' := by
  by_cases h : 200 < xs.length ∨ limE sp st ≠ 0 ∨ dstE d ≠ 0 ∨ inB ls 0 d = false
  · exact winchFewest_early sp st xs A c d ls w hm h
  · have h1 : ¬ 200 < xs.length := fun a => h (.inl a)
    have h2 : limE sp st = 0 := Decidable.byContradiction fun a => h (.inr (.inl a))
    have h3 : dstE d = 0 := Decidable.byContradiction fun a => h (.inr (.inr (.inl a)))
    have h4 : inB ls 0 d = true := by
      cases hb : inB ls 0 d
      · exact absurd (.inr (.inr (.inr hb))) h
      · rfl
    exact winchFewest_in sp st xs A c d ls w (by omega) h2 h3 h4 hs

end Go.Proofs.Ytgbckdmhmkpahaa

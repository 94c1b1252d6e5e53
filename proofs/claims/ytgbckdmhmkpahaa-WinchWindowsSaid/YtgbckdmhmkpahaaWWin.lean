/-
  The law WinchWindows (chapter 2): the walk.
-/
import Derived.Test.YtgbckdmhmkpahaaWin4
import Derived.Test.YtgbckdmhmkpahaaWin6
import Derived.Test.YtgbckdmhmkpahaaWin7
import Derived.Test.YtgbckdmhmkpahaaAwake
import Derived.Deep.DeepCutAuto
set_option linter.unusedVariables false
namespace Go.Proofs.Ytgbckdmhmkpahaa
open Go.RowKit Go.Shelf

def ffO (b : Bool) (P : Option Int) : Int × Int := if b then (match P with
  | some k => (k, 0)
  | none => (0, 12)) else (0, 2)
theorem winL_len (q : Rg → Bool) (len : Int) (l : List Rg) : (winL q len l).length ≤ l.length := by
  unfold winL
  refine Nat.le_trans (List.length_filter_le _ _) ?_
  rw [List.length_reverse]
  have : ∀ n, (runsR q l n).length ≤ n := by
    intro n
    induction n with
    | zero => simp [runsR]
    | succ n ih =>
      unfold runsR
      cases l[n]? with
      | none => exact Nat.le_trans ih (Nat.le_succ _)
      | some r =>
        simp only
        unfold rstep
        split
        · cases hR : runsR q l n with
          | nil => simp
          | cons v o =>
            rw [hR] at ih
            simp only
            split
            · simp at ih ⊢; omega
            · simp at ih ⊢; omega
        · omega
  exact this l.length
theorem insB_of {q q' : Rg → Bool} {len : Int} {l : List Rg} (h : ∀ r ∈ l, q r = true → q' r = true) : insB (winL q len l) (winL q' len l) = true := by
  unfold insB
  rw [List.all_eq_true]
  intro x hx
  obtain ⟨v, hv, v1, v2⟩ := winL_in h hx
  rw [List.any_eq_true]
  exact ⟨v, hv, by unfold inR; simp [v1, v2]⟩
theorem calmE_more {l : List Rg} {lim len : Int} (h : calmE l lim len = 0) : calmE l (min 1000 (lim + 3)) len = 0 := by
  obtain ⟨k1, k2, k3, k4⟩ := calmE_ok h
  unfold calmE at h ⊢
  rw [if_neg (by omega)] at h ⊢
  by_cases h2 : cErrL l = 0
  · rw [if_neg (by simpa using h2)]
    rw [inB_true.2 (show 0 ≤ min 1000 (lim + 3) ∧ min 1000 (lim + 3) ≤ 1000 by omega), inB_true.2 k4]
    rfl
  · rw [if_pos h2] at h; exact absurd h h2

set_option maxHeartbeats 8000000 in
set_option maxRecDepth 100000 in
theorem winchWindows_in (l : List Rg) (A : Option Addr) (c : Nat) (lim len tick : Int) (w : World) (hn : l.length ≤ 62) (hs : SlV w A (l.flatMap rgV)) :
    Calls Try.prog 10 #[.slice A l.length c, .agg #[.int .i64 lim, .int .i64 len], .int .i64 tick] w fun e w' => e = .returned (.bool true) ∧ Below w.heap.size w w' := by
  have HS := Lib.hid hs
  have CP := Lib.hid (fun W h => copyRanges_c l A c W (by omega) h)
  have WI := Lib.hid (fun A c W h => windowsIn_c l A c lim len W (by omega) h)
  have PI := Lib.hid (fun A c W h => possibleIn_c l A c lim len W (by omega) h)
  have FF := Lib.hid (fun A c W h => firstFrom_c l A c lim len tick W (by omega) h)
  have CE := Lib.hid (fun W h => refCalmErr_c l A c lim len W (by omega) h)
  have d1 : decide ((62 : Int) < (l.length : Int)) = false := decide_eq_false (by omega)
  by_cases he : calmE l lim len = 0
  · obtain ⟨k1, k2, k3, k4⟩ := calmE_ok he
    have hm : ∀ r ∈ l, calmB lim r = true → mayB lim r = true := fun r hr h => by
      have := calmB_t.1 h; have := k2 r hr
      exact mayB_t.2 (by omega)
    have hV1 : winL (refQ false lim) len l = winL (calmB lim) len l := winL_congr len (fun r _ => by unfold refQ; simp)
    have hV2 : winL (refQ true lim) len l = winL (mayB lim) len l := winL_congr len (fun r hr => by
      unfold refQ
      cases h : calmB lim r
      · simp
      · rw [hm r hr h]; rfl)
    have he2 := calmE_more he
    obtain ⟨lm, hlm⟩ : ∃ lm, min 1000 (lim + 3) = lm := ⟨_, rfl⟩
    have hI1 : insB (winL (calmB lim) len l) (winL (mayB lim) len l) = true := insB_of hm
    have hI2 : insB (winL (calmB lim) len l) (winL (calmB lm) len l) = true := insB_of (fun r hr h => by
      have := calmB_t.1 h
      exact calmB_t.2 (by omega))
    rw [hlm] at he2
    have g1 := winL_len (calmB lim) len l; have g2 := winL_len (mayB lim) len l; have g3 := winL_len (calmB lm) len l
    have CP' := CP
    have RW1 := Lib.hid (fun W h => refWindows_c false l A c lim len W he h)
    have RW2 := Lib.hid (fun W h => refWindows_c true l A c lim len W he h)
    rw [hV1] at RW1; rw [hV2] at RW2
    have WM := Lib.hid (fun A c W h => windowsIn_c l A c lm len W (by omega) h)
    rw [show wnsP calmB l lm len = (winL (calmB lm) len l, 0) from if_neg (by simpa using he2)] at WM
    rw [show wnsP calmB l lim len = (winL (calmB lim) len l, 0) from if_neg (by simpa using he)] at WI
    rw [show wnsP mayB l lim len = (winL (mayB lim) len l, 0) from if_neg (by simpa using he)] at PI
    have hFF : ffP l lim len tick = ffO (inB tick 0 60) (firstR (calmB lim) l len 100 tick) := by
      unfold ffP ffE ffO
      rw [he, fst2, if_pos rfl]
      cases h : inB tick 0 60
      · rfl
      · have ht := inB_true.1 h
        rw [if_neg (by simp [unl]), first_eq ht.1 k4.1 (f := 100) (by omega)]
        rfl
    have RF := Lib.hid (fun (ht : inB tick 0 60 = true) W h => refFirst_c l A c lim len tick W he (inB_true.1 ht) h)
    obtain ⟨P, hP⟩ : ∃ P, firstR (calmB lim) l len 100 tick = P := ⟨_, rfl⟩
    rw [hP] at hFF RF
    rw [hFF] at FF
    rw [he] at CE
    generalize winL (calmB lim) len l = W1 at *
    generalize winL (mayB lim) len l = W2 at *
    generalize winL (calmB lm) len l = W3 at *
    have RG1 := Lib.hid (fun A B c d W h h' => show Calls Try.prog 61 #[.slice A W1.length c, .slice B W1.length d] W (fun e w' => e = .returned (.bool true) ∧ Below W.heap.size W w') from by have := ranges_c W1 W1 A B c d W (by omega) (by omega) h h'; rw [decide_eq_true rfl] at this; exact this)
    have RG2 := Lib.hid (fun A B c d W h h' => show Calls Try.prog 61 #[.slice A W2.length c, .slice B W2.length d] W (fun e w' => e = .returned (.bool true) ∧ Below W.heap.size W w') from by have := ranges_c W2 W2 A B c d W (by omega) (by omega) h h'; rw [decide_eq_true rfl] at this; exact this)
    have IN1 := Lib.hid (fun A B c d W h h' => show Calls Try.prog 63 #[.slice A W1.length c, .slice B W2.length d] W (fun e w' => e = .returned (.bool true) ∧ Below W.heap.size W w') from by have := inside_c W1 W2 A B c d W (by omega) (by omega) h h'; rw [hI1] at this; exact this)
    have IN2 := Lib.hid (fun A B c d W h h' => show Calls Try.prog 63 #[.slice A W1.length c, .slice B W3.length d] W (fun e w' => e = .returned (.bool true) ∧ Below W.heap.size W w') from by have := inside_c W1 W3 A B c d W (by omega) (by omega) h h'; rw [hI2] at this; exact this)
    dsimp only at WI PI WM
    have v1 : IntKind.i64.wrap (lim + 3) = lim + 3 := IntWalk.i64_in _ (by omega)
    clear he he2 hm hV1 hV2 hI1 hI2 hFF hP k2
    go_enter Try.func10, Try.ntmps10
    go_upto_region 5 with (first | (go_at_call 15; refine (awake_c _).mono ?_; rintro e w1 ⟨rfl, hb1⟩) | fail)
    have q : Box w1 w.heap.size 102 #[.int .i64 lim, .int .i64 len] := by focus (apply Box.via; apply Exists.intro; apply And.intro; (repeat first | with_reducible assumption | with_reducible exact Box.new _ _ _ | ((with_reducible apply Box.newAt); focus (simp; done)) | (with_reducible apply Box.drew) | (with_reducible apply Box.drewN) | (with_reducible apply Box.set) | (with_reducible apply Box.alloc) | (with_reducible apply Box.far) | (with_reducible apply Box.below (hb := hb1))); all_goals (first | with_reducible exact Nat.le_refl _ | omega | (simp; done) | (simp; omega) | (have := hb1.size; (try simp at this); omega) | (have := hb1.size; (try simp at this); (try simp); omega)))
    have hB : Below w.heap.size w w1 := by focus ((repeat first | with_reducible exact Below.refl _ _ | (with_reducible refine Below.setCell ?_ ?_ _) | (with_reducible refine Below.alloc ?_ ?_ _) | (with_reducible refine below_drewN ?_ _) | (with_reducible refine Below.drew ?_) | (with_reducible refine Below.trans ?_ (Below.mono hb1 ?_))); all_goals (first | with_reducible exact Nat.le_refl _ | omega | (simp; done) | (simp; omega) | (have := hb1.size; (try simp at this); omega) | (have := hb1.size; (try simp at this); (try simp); omega)))
    clear hb1
    generalize w1 = W5 at *
    go_cut [7, 8] (fun s7 s8 wx => ∃ D cap, s7 = .slice D W1.length cap ∧ s8 = .int .i64 0 ∧ SlV wx D (W1.flatMap rgV) ∧ Box wx w.heap.size 102 #[.int .i64 lim, .int .i64 len] ∧ Below w.heap.size w wx)
    case first => as_aux_lemma =>
      have hlq := q.lt
      have c0 := q.cell 0; have c1 := q.cell 1
      simp at c0 c1
      go_region_held3 (fun w' => w'.cell? ⟨w.heap.size, 0, none⟩ = some (.int .i64 lim) ∧ w'.cell? ⟨w.heap.size, 1, none⟩ = some (.int .i64 len)) (go_keep) (first | (go_at_call 57; refine (CP.out _ (SlV.below HS.out (by focus ((repeat first | with_reducible exact Below.refl _ _ | (with_reducible refine Below.setCell ?_ ?_ _) | (with_reducible refine Below.alloc ?_ ?_ _) | (with_reducible refine below_drewN ?_ _) | (with_reducible refine Below.drew ?_) | (with_reducible refine Below.trans ?_ (Below.mono hB ?_))); all_goals (first | with_reducible exact Nat.le_refl _ | omega | (simp; done) | (simp; omega) | (have := hB.size; (try simp at this); omega) | (have := hB.size; (try simp at this); (try simp); omega)))))).mono ?_; rintro e w2 ⟨D9, d9, rfl, hD9, hb2⟩; have hz2 : W5.heap.size ≤ w2.heap.size := (by have := hb2.size; (try simp at this); omega); have k0 := ((hb2).cell (p := ⟨w.heap.size, 0, none⟩) (by simp; omega)).trans (show _ = some (Value.int .i64 lim) from by simp [go_sem, *]); have k1 := ((hb2).cell (p := ⟨w.heap.size, 1, none⟩) (by simp; omega)).trans (show _ = some (Value.int .i64 len) from by simp [go_sem, *])) | (go_at_call 56; refine (WI.out _ _ _ (SlV.below hD9 (by focus ((repeat first | with_reducible exact Below.refl _ _ | (with_reducible refine Below.setCell ?_ ?_ _) | (with_reducible refine Below.alloc ?_ ?_ _) | (with_reducible refine below_drewN ?_ _) | (with_reducible refine Below.drew ?_)); all_goals (first | with_reducible exact Nat.le_refl _ | omega | (simp; done) | (simp; omega) | (omega) | ((try simp); omega)))))).mono ?_; rintro e w3 ⟨D, cap, rfl, hD, hb3⟩; have hz3 : w2.heap.size ≤ w3.heap.size := (by have := hb3.size; (try simp at this); omega); have k2 := ((hb3).cell (p := ⟨w.heap.size, 0, none⟩) (by simp; omega)).trans (show _ = some (Value.int .i64 lim) from by simp [go_sem, *]); have k3 := ((hb3).cell (p := ⟨w.heap.size, 1, none⟩) (by simp; omega)).trans (show _ = some (Value.int .i64 len) from by simp [go_sem, *])) | fail)
      all_goals (as_aux_lemma => (
        go_wp2_with fail
        go_meet
        refine ⟨D, cap, rfl, rfl, SlV.below hD (by focus ((repeat first | with_reducible exact Below.refl _ _ | (with_reducible refine Below.setCell ?_ ?_ _) | (with_reducible refine Below.alloc ?_ ?_ _) | (with_reducible refine below_drewN ?_ _) | (with_reducible refine Below.drew ?_)); all_goals (first | with_reducible exact Nat.le_refl _ | omega | (simp; done) | (simp; omega) | (omega) | ((try simp); omega)))), ?_, ?_⟩
        all_goals first | (focus (apply Box.via; apply Exists.intro; apply And.intro; (repeat first | with_reducible assumption | with_reducible exact Box.new _ _ _ | ((with_reducible apply Box.newAt); focus (simp; done)) | (with_reducible apply Box.drew) | (with_reducible apply Box.drewN) | (with_reducible apply Box.set) | (with_reducible apply Box.alloc) | (with_reducible apply Box.far) | (with_reducible apply Box.below (hb := hb2)) | (with_reducible apply Box.below (hb := hb3))); all_goals (first | with_reducible exact Nat.le_refl _ | omega | (simp; done) | (simp; omega) | (have := hb2.size; (try simp at this); have := hb3.size; (try simp at this); omega) | (have := hb2.size; (try simp at this); have := hb3.size; (try simp at this); (try simp); omega)))) | (focus ((repeat first | with_reducible exact Below.refl _ _ | (with_reducible refine Below.setCell ?_ ?_ _) | (with_reducible refine Below.alloc ?_ ?_ _) | (with_reducible refine below_drewN ?_ _) | (with_reducible refine Below.drew ?_) | (with_reducible refine Below.trans ?_ (Below.mono hb2 ?_)) | (with_reducible refine Below.trans ?_ (Below.mono hb3 ?_)) | (with_reducible refine Below.trans ?_ (Below.mono hB ?_))); all_goals (first | with_reducible exact Nat.le_refl _ | omega | (simp; done) | (simp; omega) | (have := hb2.size; (try simp at this); have := hb3.size; (try simp at this); have := hB.size; (try simp at this); omega) | (have := hb2.size; (try simp at this); have := hb3.size; (try simp at this); have := hB.size; (try simp at this); (try simp); omega))))))
    case rest =>
      obtain ⟨D1, cap1, rfl, rfl, hD1, q', hB'⟩ := hcut
      clear q hB
      have q := q'; have hB := hB'
      clear q' hB'
      generalize wc = W5 at *
      go_upto_region 6 with fail
      go_cut [9, 10] (fun s9 s10 wx => ∃ D cap, s9 = .slice D W2.length cap ∧ s10 = .int .i64 0 ∧ SlV wx D (W2.flatMap rgV) ∧ SlV wx D1 (W1.flatMap rgV) ∧ Box wx w.heap.size 102 #[.int .i64 lim, .int .i64 len] ∧ Below w.heap.size w wx)
      case first => as_aux_lemma =>
        have hD1 := Lib.hid hD1
        have hlq := q.lt
        have c0 := q.cell 0; have c1 := q.cell 1
        simp at c0 c1
        go_region_held3 (fun w' => w'.cell? ⟨w.heap.size, 0, none⟩ = some (.int .i64 lim) ∧ w'.cell? ⟨w.heap.size, 1, none⟩ = some (.int .i64 len)) (go_keep) (first | (go_at_call 57; refine (CP.out _ (SlV.below HS.out (by focus ((repeat first | with_reducible exact Below.refl _ _ | (with_reducible refine Below.setCell ?_ ?_ _) | (with_reducible refine Below.alloc ?_ ?_ _) | (with_reducible refine below_drewN ?_ _) | (with_reducible refine Below.drew ?_) | (with_reducible refine Below.trans ?_ (Below.mono hB ?_))); all_goals (first | with_reducible exact Nat.le_refl _ | omega | (simp; done) | (simp; omega) | (have := hB.size; (try simp at this); omega) | (have := hB.size; (try simp at this); (try simp); omega)))))).mono ?_; rintro e w2 ⟨D9, d9, rfl, hD9, hb2⟩; have hz2 : W5.heap.size ≤ w2.heap.size := (by have := hb2.size; (try simp at this); omega); have k0 := ((hb2).cell (p := ⟨w.heap.size, 0, none⟩) (by simp; omega)).trans (show _ = some (Value.int .i64 lim) from by simp [go_sem, *]); have k1 := ((hb2).cell (p := ⟨w.heap.size, 1, none⟩) (by simp; omega)).trans (show _ = some (Value.int .i64 len) from by simp [go_sem, *])) | (go_at_call 58; refine (PI.out _ _ _ (SlV.below hD9 (by focus ((repeat first | with_reducible exact Below.refl _ _ | (with_reducible refine Below.setCell ?_ ?_ _) | (with_reducible refine Below.alloc ?_ ?_ _) | (with_reducible refine below_drewN ?_ _) | (with_reducible refine Below.drew ?_)); all_goals (first | with_reducible exact Nat.le_refl _ | omega | (simp; done) | (simp; omega) | (omega) | ((try simp); omega)))))).mono ?_; rintro e w3 ⟨D, cap, rfl, hD, hb3⟩; have hz3 : w2.heap.size ≤ w3.heap.size := (by have := hb3.size; (try simp at this); omega); have k2 := ((hb3).cell (p := ⟨w.heap.size, 0, none⟩) (by simp; omega)).trans (show _ = some (Value.int .i64 lim) from by simp [go_sem, *]); have k3 := ((hb3).cell (p := ⟨w.heap.size, 1, none⟩) (by simp; omega)).trans (show _ = some (Value.int .i64 len) from by simp [go_sem, *])) | fail)
        all_goals (as_aux_lemma => (
          go_wp2_with fail
          go_meet
          refine ⟨D, cap, rfl, rfl, SlV.below hD (by focus ((repeat first | with_reducible exact Below.refl _ _ | (with_reducible refine Below.setCell ?_ ?_ _) | (with_reducible refine Below.alloc ?_ ?_ _) | (with_reducible refine below_drewN ?_ _) | (with_reducible refine Below.drew ?_)); all_goals (first | with_reducible exact Nat.le_refl _ | omega | (simp; done) | (simp; omega) | (omega) | ((try simp); omega)))), SlV.below hD1.out (by focus ((repeat first | with_reducible exact Below.refl _ _ | (with_reducible refine Below.setCell ?_ ?_ _) | (with_reducible refine Below.alloc ?_ ?_ _) | (with_reducible refine below_drewN ?_ _) | (with_reducible refine Below.drew ?_) | (with_reducible refine Below.trans ?_ (Below.mono hb2 ?_)) | (with_reducible refine Below.trans ?_ (Below.mono hb3 ?_))); all_goals (first | with_reducible exact Nat.le_refl _ | omega | (simp; done) | (simp; omega) | (have := hb2.size; (try simp at this); have := hb3.size; (try simp at this); omega) | (have := hb2.size; (try simp at this); have := hb3.size; (try simp at this); (try simp); omega)))), ?_, ?_⟩
          all_goals first | (focus (apply Box.via; apply Exists.intro; apply And.intro; (repeat first | with_reducible assumption | with_reducible exact Box.new _ _ _ | ((with_reducible apply Box.newAt); focus (simp; done)) | (with_reducible apply Box.drew) | (with_reducible apply Box.drewN) | (with_reducible apply Box.set) | (with_reducible apply Box.alloc) | (with_reducible apply Box.far) | (with_reducible apply Box.below (hb := hb2)) | (with_reducible apply Box.below (hb := hb3))); all_goals (first | with_reducible exact Nat.le_refl _ | omega | (simp; done) | (simp; omega) | (have := hb2.size; (try simp at this); have := hb3.size; (try simp at this); omega) | (have := hb2.size; (try simp at this); have := hb3.size; (try simp at this); (try simp); omega)))) | (focus ((repeat first | with_reducible exact Below.refl _ _ | (with_reducible refine Below.setCell ?_ ?_ _) | (with_reducible refine Below.alloc ?_ ?_ _) | (with_reducible refine below_drewN ?_ _) | (with_reducible refine Below.drew ?_) | (with_reducible refine Below.trans ?_ (Below.mono hb2 ?_)) | (with_reducible refine Below.trans ?_ (Below.mono hb3 ?_)) | (with_reducible refine Below.trans ?_ (Below.mono hB ?_))); all_goals (first | with_reducible exact Nat.le_refl _ | omega | (simp; done) | (simp; omega) | (have := hb2.size; (try simp at this); have := hb3.size; (try simp at this); have := hB.size; (try simp at this); omega) | (have := hb2.size; (try simp at this); have := hb3.size; (try simp at this); have := hB.size; (try simp at this); (try simp); omega))))))
      case rest =>
        obtain ⟨D2, cap2, rfl, rfl, hD2, hD1', q', hB'⟩ := hcut
        clear q hB hD1
        have q := q'; have hB := hB'; have hD1 := hD1'
        clear q' hB' hD1'
        generalize wc = W5 at *
        go_upto_region 7 with fail
        obtain ⟨FP, hFP⟩ : ∃ FP, ffO (inB tick 0 60) P = FP := ⟨_, rfl⟩
        rw [hFP] at FF
        obtain ⟨ft, fe⟩ := FP
        dsimp only at FF
        have hFP := Lib.hid hFP
        go_cut [11, 12] (fun s11 s12 wx => s11 = .int .i64 ft ∧ s12 = .int .i64 fe ∧ SlV wx D2 (W2.flatMap rgV) ∧ SlV wx D1 (W1.flatMap rgV) ∧ Box wx w.heap.size 102 #[.int .i64 lim, .int .i64 len] ∧ Below w.heap.size w wx)
        case first => as_aux_lemma =>
          have hD1 := Lib.hid hD1; have hD2 := Lib.hid hD2
          have hlq := q.lt
          have c0 := q.cell 0; have c1 := q.cell 1
          simp at c0 c1
          go_region_held3 (fun w' => w'.cell? ⟨w.heap.size, 0, none⟩ = some (.int .i64 lim) ∧ w'.cell? ⟨w.heap.size, 1, none⟩ = some (.int .i64 len)) (go_keep) (first | (go_at_call 57; refine (CP.out _ (SlV.below HS.out (by focus ((repeat first | with_reducible exact Below.refl _ _ | (with_reducible refine Below.setCell ?_ ?_ _) | (with_reducible refine Below.alloc ?_ ?_ _) | (with_reducible refine below_drewN ?_ _) | (with_reducible refine Below.drew ?_) | (with_reducible refine Below.trans ?_ (Below.mono hB ?_))); all_goals (first | with_reducible exact Nat.le_refl _ | omega | (simp; done) | (simp; omega) | (have := hB.size; (try simp at this); omega) | (have := hB.size; (try simp at this); (try simp); omega)))))).mono ?_; rintro e w2 ⟨D9, d9, rfl, hD9, hb2⟩; have hz2 : W5.heap.size ≤ w2.heap.size := (by have := hb2.size; (try simp at this); omega); have k0 := ((hb2).cell (p := ⟨w.heap.size, 0, none⟩) (by simp; omega)).trans (show _ = some (Value.int .i64 lim) from by simp [go_sem, *]); have k1 := ((hb2).cell (p := ⟨w.heap.size, 1, none⟩) (by simp; omega)).trans (show _ = some (Value.int .i64 len) from by simp [go_sem, *])) | (go_at_call 59; refine (FF.out _ _ _ (SlV.below hD9 (by focus ((repeat first | with_reducible exact Below.refl _ _ | (with_reducible refine Below.setCell ?_ ?_ _) | (with_reducible refine Below.alloc ?_ ?_ _) | (with_reducible refine below_drewN ?_ _) | (with_reducible refine Below.drew ?_)); all_goals (first | with_reducible exact Nat.le_refl _ | omega | (simp; done) | (simp; omega) | (omega) | ((try simp); omega)))))).mono ?_; rintro e w3 ⟨rfl, hb3⟩; have hz3 : w2.heap.size ≤ w3.heap.size := (by have := hb3.size; (try simp at this); omega); have k2 := ((hb3).cell (p := ⟨w.heap.size, 0, none⟩) (by simp; omega)).trans (show _ = some (Value.int .i64 lim) from by simp [go_sem, *]); have k3 := ((hb3).cell (p := ⟨w.heap.size, 1, none⟩) (by simp; omega)).trans (show _ = some (Value.int .i64 len) from by simp [go_sem, *])) | fail)
          all_goals (as_aux_lemma => (
            go_wp2_with fail
            go_meet
            refine ⟨rfl, rfl, SlV.below hD2.out (by focus ((repeat first | with_reducible exact Below.refl _ _ | (with_reducible refine Below.setCell ?_ ?_ _) | (with_reducible refine Below.alloc ?_ ?_ _) | (with_reducible refine below_drewN ?_ _) | (with_reducible refine Below.drew ?_) | (with_reducible refine Below.trans ?_ (Below.mono hb2 ?_)) | (with_reducible refine Below.trans ?_ (Below.mono hb3 ?_))); all_goals (first | with_reducible exact Nat.le_refl _ | omega | (simp; done) | (simp; omega) | (have := hb2.size; (try simp at this); have := hb3.size; (try simp at this); omega) | (have := hb2.size; (try simp at this); have := hb3.size; (try simp at this); (try simp); omega)))), SlV.below hD1.out (by focus ((repeat first | with_reducible exact Below.refl _ _ | (with_reducible refine Below.setCell ?_ ?_ _) | (with_reducible refine Below.alloc ?_ ?_ _) | (with_reducible refine below_drewN ?_ _) | (with_reducible refine Below.drew ?_) | (with_reducible refine Below.trans ?_ (Below.mono hb2 ?_)) | (with_reducible refine Below.trans ?_ (Below.mono hb3 ?_))); all_goals (first | with_reducible exact Nat.le_refl _ | omega | (simp; done) | (simp; omega) | (have := hb2.size; (try simp at this); have := hb3.size; (try simp at this); omega) | (have := hb2.size; (try simp at this); have := hb3.size; (try simp at this); (try simp); omega)))), ?_, ?_⟩
            all_goals first | (focus (apply Box.via; apply Exists.intro; apply And.intro; (repeat first | with_reducible assumption | with_reducible exact Box.new _ _ _ | ((with_reducible apply Box.newAt); focus (simp; done)) | (with_reducible apply Box.drew) | (with_reducible apply Box.drewN) | (with_reducible apply Box.set) | (with_reducible apply Box.alloc) | (with_reducible apply Box.far) | (with_reducible apply Box.below (hb := hb2)) | (with_reducible apply Box.below (hb := hb3))); all_goals (first | with_reducible exact Nat.le_refl _ | omega | (simp; done) | (simp; omega) | (have := hb2.size; (try simp at this); have := hb3.size; (try simp at this); omega) | (have := hb2.size; (try simp at this); have := hb3.size; (try simp at this); (try simp); omega)))) | (focus ((repeat first | with_reducible exact Below.refl _ _ | (with_reducible refine Below.setCell ?_ ?_ _) | (with_reducible refine Below.alloc ?_ ?_ _) | (with_reducible refine below_drewN ?_ _) | (with_reducible refine Below.drew ?_) | (with_reducible refine Below.trans ?_ (Below.mono hb2 ?_)) | (with_reducible refine Below.trans ?_ (Below.mono hb3 ?_)) | (with_reducible refine Below.trans ?_ (Below.mono hB ?_))); all_goals (first | with_reducible exact Nat.le_refl _ | omega | (simp; done) | (simp; omega) | (have := hb2.size; (try simp at this); have := hb3.size; (try simp at this); have := hB.size; (try simp at this); omega) | (have := hb2.size; (try simp at this); have := hb3.size; (try simp at this); have := hB.size; (try simp at this); (try simp); omega))))))
        case rest =>
          obtain ⟨rfl, rfl, hD2', hD1', q', hB'⟩ := hcut
          clear q hB hD1 hD2
          have q := q'; have hB := hB'; have hD1 := Lib.hid hD1'; have hD2 := Lib.hid hD2'
          clear q' hB' hD1' hD2'
          generalize wc = W5 at *
          have hlq := q.lt
          have c0 := q.cell 0; have c1 := q.cell 1
          simp at c0 c1
          have hBc := Below.refl W5.heap.size W5
          go_upto_region 13 with (first | (go_at_call 60; refine (CE.out _ (SlV.below HS.out (by focus ((repeat first | with_reducible exact Below.refl _ _ | (with_reducible refine Below.setCell ?_ ?_ _) | (with_reducible refine Below.alloc ?_ ?_ _) | (with_reducible refine below_drewN ?_ _) | (with_reducible refine Below.drew ?_) | (with_reducible refine Below.trans ?_ (Below.mono hB ?_))); all_goals (first | with_reducible exact Nat.le_refl _ | omega | (simp; done) | (simp; omega) | (have := hB.size; (try simp at this); omega) | (have := hB.size; (try simp at this); (try simp); omega)))))).mono ?_; rintro e w9 ⟨rfl, hb9⟩; (have hBc : Below W5.heap.size W5 w9 := (by focus ((repeat first | with_reducible exact Below.refl _ _ | (with_reducible refine Below.setCell ?_ ?_ _) | (with_reducible refine Below.alloc ?_ ?_ _) | (with_reducible refine below_drewN ?_ _) | (with_reducible refine Below.drew ?_) | (with_reducible refine Below.trans ?_ (Below.mono hb9 ?_)) | (with_reducible refine Below.trans ?_ (Below.mono hBc ?_))); all_goals (first | with_reducible exact Nat.le_refl _ | omega | (simp; done) | (simp; omega) | (have := hb9.size; (try simp at this); have := hBc.size; (try simp at this); omega) | (have := hb9.size; (try simp at this); have := hBc.size; (try simp at this); (try simp); omega))))); (have c0 : w9.cell? ⟨w.heap.size, 0, none⟩ = some (.int .i64 lim) := (q.below hBc hlq).cell 0); (have c1 : w9.cell? ⟨w.heap.size, 1, none⟩ = some (.int .i64 len) := (q.below hBc hlq).cell 1)) | (go_at_call 62; (with_reducible refine (RW1.out _ (SlV.below HS.out (by focus ((repeat first | with_reducible exact Below.refl _ _ | (with_reducible refine Below.setCell ?_ ?_ _) | (with_reducible refine Below.alloc ?_ ?_ _) | (with_reducible refine below_drewN ?_ _) | (with_reducible refine Below.drew ?_) | (with_reducible refine Below.trans ?_ (Below.mono hBc ?_)) | (with_reducible refine Below.trans ?_ (Below.mono hB ?_))); all_goals (first | with_reducible exact Nat.le_refl _ | omega | (simp; done) | (simp; omega) | (have := hBc.size; (try simp at this); have := hB.size; (try simp at this); omega) | (have := hBc.size; (try simp at this); have := hB.size; (try simp at this); (try simp); omega)))))).mono ?_); rintro e w9 ⟨D3, cap3, rfl, hD3, hb9⟩; (have hBc : Below W5.heap.size W5 w9 := (by focus ((repeat first | with_reducible exact Below.refl _ _ | (with_reducible refine Below.setCell ?_ ?_ _) | (with_reducible refine Below.alloc ?_ ?_ _) | (with_reducible refine below_drewN ?_ _) | (with_reducible refine Below.drew ?_) | (with_reducible refine Below.trans ?_ (Below.mono hb9 ?_)) | (with_reducible refine Below.trans ?_ (Below.mono hBc ?_))); all_goals (first | with_reducible exact Nat.le_refl _ | omega | (simp; done) | (simp; omega) | (have := hb9.size; (try simp at this); have := hBc.size; (try simp at this); omega) | (have := hb9.size; (try simp at this); have := hBc.size; (try simp at this); (try simp); omega))))); (have c0 : w9.cell? ⟨w.heap.size, 0, none⟩ = some (.int .i64 lim) := (q.below hBc hlq).cell 0); (have c1 : w9.cell? ⟨w.heap.size, 1, none⟩ = some (.int .i64 len) := (q.below hBc hlq).cell 1)) | (go_at_call 62; (with_reducible refine (RW2.out _ (SlV.below HS.out (by focus ((repeat first | with_reducible exact Below.refl _ _ | (with_reducible refine Below.setCell ?_ ?_ _) | (with_reducible refine Below.alloc ?_ ?_ _) | (with_reducible refine below_drewN ?_ _) | (with_reducible refine Below.drew ?_) | (with_reducible refine Below.trans ?_ (Below.mono hBc ?_)) | (with_reducible refine Below.trans ?_ (Below.mono hB ?_))); all_goals (first | with_reducible exact Nat.le_refl _ | omega | (simp; done) | (simp; omega) | (have := hBc.size; (try simp at this); have := hB.size; (try simp at this); omega) | (have := hBc.size; (try simp at this); have := hB.size; (try simp at this); (try simp); omega)))))).mono ?_); rintro e w9 ⟨D3, cap3, rfl, hD3, hb9⟩; (have hBc : Below W5.heap.size W5 w9 := (by focus ((repeat first | with_reducible exact Below.refl _ _ | (with_reducible refine Below.setCell ?_ ?_ _) | (with_reducible refine Below.alloc ?_ ?_ _) | (with_reducible refine below_drewN ?_ _) | (with_reducible refine Below.drew ?_) | (with_reducible refine Below.trans ?_ (Below.mono hb9 ?_)) | (with_reducible refine Below.trans ?_ (Below.mono hBc ?_))); all_goals (first | with_reducible exact Nat.le_refl _ | omega | (simp; done) | (simp; omega) | (have := hb9.size; (try simp at this); have := hBc.size; (try simp at this); omega) | (have := hb9.size; (try simp at this); have := hBc.size; (try simp at this); (try simp); omega))))); (have c0 : w9.cell? ⟨w.heap.size, 0, none⟩ = some (.int .i64 lim) := (q.below hBc hlq).cell 0); (have c1 : w9.cell? ⟨w.heap.size, 1, none⟩ = some (.int .i64 len) := (q.below hBc hlq).cell 1)) | (go_at_call 61; (with_reducible refine (RG1.out _ _ _ _ _ (SlV.below hD1.out (by focus ((repeat first | with_reducible exact Below.refl _ _ | (with_reducible refine Below.setCell ?_ ?_ _) | (with_reducible refine Below.alloc ?_ ?_ _) | (with_reducible refine below_drewN ?_ _) | (with_reducible refine Below.drew ?_) | (with_reducible refine Below.trans ?_ (Below.mono hBc ?_))); all_goals (first | with_reducible exact Nat.le_refl _ | omega | (simp; done) | (simp; omega) | (have := hBc.size; (try simp at this); omega) | (have := hBc.size; (try simp at this); (try simp); omega))))) hD3).mono ?_); rintro e w9 ⟨rfl, hb9⟩; (have hBc : Below W5.heap.size W5 w9 := (by focus ((repeat first | with_reducible exact Below.refl _ _ | (with_reducible refine Below.setCell ?_ ?_ _) | (with_reducible refine Below.alloc ?_ ?_ _) | (with_reducible refine below_drewN ?_ _) | (with_reducible refine Below.drew ?_) | (with_reducible refine Below.trans ?_ (Below.mono hb9 ?_)) | (with_reducible refine Below.trans ?_ (Below.mono hBc ?_))); all_goals (first | with_reducible exact Nat.le_refl _ | omega | (simp; done) | (simp; omega) | (have := hb9.size; (try simp at this); have := hBc.size; (try simp at this); omega) | (have := hb9.size; (try simp at this); have := hBc.size; (try simp at this); (try simp); omega))))); (have c0 : w9.cell? ⟨w.heap.size, 0, none⟩ = some (.int .i64 lim) := (q.below hBc hlq).cell 0); (have c1 : w9.cell? ⟨w.heap.size, 1, none⟩ = some (.int .i64 len) := (q.below hBc hlq).cell 1)) | (go_at_call 61; (with_reducible refine (RG2.out _ _ _ _ _ (SlV.below hD2.out (by focus ((repeat first | with_reducible exact Below.refl _ _ | (with_reducible refine Below.setCell ?_ ?_ _) | (with_reducible refine Below.alloc ?_ ?_ _) | (with_reducible refine below_drewN ?_ _) | (with_reducible refine Below.drew ?_) | (with_reducible refine Below.trans ?_ (Below.mono hBc ?_))); all_goals (first | with_reducible exact Nat.le_refl _ | omega | (simp; done) | (simp; omega) | (have := hBc.size; (try simp at this); omega) | (have := hBc.size; (try simp at this); (try simp); omega))))) hD3).mono ?_); rintro e w9 ⟨rfl, hb9⟩; (have hBc : Below W5.heap.size W5 w9 := (by focus ((repeat first | with_reducible exact Below.refl _ _ | (with_reducible refine Below.setCell ?_ ?_ _) | (with_reducible refine Below.alloc ?_ ?_ _) | (with_reducible refine below_drewN ?_ _) | (with_reducible refine Below.drew ?_) | (with_reducible refine Below.trans ?_ (Below.mono hb9 ?_)) | (with_reducible refine Below.trans ?_ (Below.mono hBc ?_))); all_goals (first | with_reducible exact Nat.le_refl _ | omega | (simp; done) | (simp; omega) | (have := hb9.size; (try simp at this); have := hBc.size; (try simp at this); omega) | (have := hb9.size; (try simp at this); have := hBc.size; (try simp at this); (try simp); omega))))); (have c0 : w9.cell? ⟨w.heap.size, 0, none⟩ = some (.int .i64 lim) := (q.below hBc hlq).cell 0); (have c1 : w9.cell? ⟨w.heap.size, 1, none⟩ = some (.int .i64 len) := (q.below hBc hlq).cell 1)) | (go_at_call 63; (with_reducible refine (IN1.out _ _ _ _ _ (SlV.below hD1.out (by focus ((repeat first | with_reducible exact Below.refl _ _ | (with_reducible refine Below.setCell ?_ ?_ _) | (with_reducible refine Below.alloc ?_ ?_ _) | (with_reducible refine below_drewN ?_ _) | (with_reducible refine Below.drew ?_) | (with_reducible refine Below.trans ?_ (Below.mono hBc ?_))); all_goals (first | with_reducible exact Nat.le_refl _ | omega | (simp; done) | (simp; omega) | (have := hBc.size; (try simp at this); omega) | (have := hBc.size; (try simp at this); (try simp); omega))))) (SlV.below hD2.out (by focus ((repeat first | with_reducible exact Below.refl _ _ | (with_reducible refine Below.setCell ?_ ?_ _) | (with_reducible refine Below.alloc ?_ ?_ _) | (with_reducible refine below_drewN ?_ _) | (with_reducible refine Below.drew ?_) | (with_reducible refine Below.trans ?_ (Below.mono hBc ?_))); all_goals (first | with_reducible exact Nat.le_refl _ | omega | (simp; done) | (simp; omega) | (have := hBc.size; (try simp at this); omega) | (have := hBc.size; (try simp at this); (try simp); omega)))))).mono ?_); rintro e w9 ⟨rfl, hb9⟩; (have hBc : Below W5.heap.size W5 w9 := (by focus ((repeat first | with_reducible exact Below.refl _ _ | (with_reducible refine Below.setCell ?_ ?_ _) | (with_reducible refine Below.alloc ?_ ?_ _) | (with_reducible refine below_drewN ?_ _) | (with_reducible refine Below.drew ?_) | (with_reducible refine Below.trans ?_ (Below.mono hb9 ?_)) | (with_reducible refine Below.trans ?_ (Below.mono hBc ?_))); all_goals (first | with_reducible exact Nat.le_refl _ | omega | (simp; done) | (simp; omega) | (have := hb9.size; (try simp at this); have := hBc.size; (try simp at this); omega) | (have := hb9.size; (try simp at this); have := hBc.size; (try simp at this); (try simp); omega))))); (have c0 : w9.cell? ⟨w.heap.size, 0, none⟩ = some (.int .i64 lim) := (q.below hBc hlq).cell 0); (have c1 : w9.cell? ⟨w.heap.size, 1, none⟩ = some (.int .i64 len) := (q.below hBc hlq).cell 1)) | fail)
          have q9 : Box w9 w.heap.size 102 #[.int .i64 lim, .int .i64 len] := q.below hBc hlq
          have hB9 : Below w.heap.size w w9 := by focus ((repeat first | with_reducible exact Below.refl _ _ | (with_reducible refine Below.setCell ?_ ?_ _) | (with_reducible refine Below.alloc ?_ ?_ _) | (with_reducible refine below_drewN ?_ _) | (with_reducible refine Below.drew ?_) | (with_reducible refine Below.trans ?_ (Below.mono hBc ?_)) | (with_reducible refine Below.trans ?_ (Below.mono hB ?_))); all_goals (first | with_reducible exact Nat.le_refl _ | omega | (simp; done) | (simp; omega) | (have := hBc.size; (try simp at this); have := hB.size; (try simp at this); omega) | (have := hBc.size; (try simp at this); have := hB.size; (try simp at this); (try simp); omega)))
          have hD9 : SlV w9 D1 (W1.flatMap rgV) := SlV.below hD1.out (by focus ((repeat first | with_reducible exact Below.refl _ _ | (with_reducible refine Below.setCell ?_ ?_ _) | (with_reducible refine Below.alloc ?_ ?_ _) | (with_reducible refine below_drewN ?_ _) | (with_reducible refine Below.drew ?_) | (with_reducible refine Below.trans ?_ (Below.mono hBc ?_))); all_goals (first | with_reducible exact Nat.le_refl _ | omega | (simp; done) | (simp; omega) | (have := hBc.size; (try simp at this); omega) | (have := hBc.size; (try simp at this); (try simp); omega))))
          clear q hB hD1 hD2 hBc c0 c1 hlq CP WI PI FF RW1 RW2 RG1 RG2 IN1 CE
          have q := q9; have hB := hB9; have hD1 := hD9
          clear q9 hB9 hD9
          generalize w9 = W5 at *
          have CP := CP'
          go_upto_if 106 with (go_at_call 37; refine (within_b _ _ _ _).mono ?_; rintro e w' ⟨rfl, rfl⟩)
          go_cut [] (fun wx => SlV wx D1 (W1.flatMap rgV) ∧ Box wx w.heap.size 102 #[.int .i64 lim, .int .i64 len] ∧ Below w.heap.size w wx)
          case first => as_aux_lemma =>
            have hlq := q.lt
            have c0 := q.cell 0; have c1 := q.cell 1
            simp at c0 c1
            have hF := hFP.out
            cases ht : inB tick 0 60
            · rw [ht] at hF
              obtain ⟨rfl, rfl⟩ : ft = 0 ∧ fe = 2 := by simpa [ffO, eq_comm] using hF
              clear hF hFP
              go_wp2_with fail
              go_meet
              exact ⟨hD1, q, hB⟩
            · rw [ht] at hF
              have RF := Lib.hid (RF.out ht)
              cases P with
              | none =>
                obtain ⟨rfl, rfl⟩ : ft = 0 ∧ fe = 12 := by simpa [ffO, eq_comm] using hF
                have RF := Lib.hid (fun W h => show Calls Try.prog 64 #[.slice A l.length c, .agg #[.int .i64 lim, .int .i64 len], .int .i64 tick] W (fun e w' => e = .returned (.tuple #[.int .i64 0, .bool false]) ∧ Below W.heap.size W w') from RF.out W h)
                clear hF hFP
                go_wp2_with (first | (go_at_call 64; refine (RF.out _ (SlV.below HS.out (by focus ((repeat first | with_reducible exact Below.refl _ _ | (with_reducible refine Below.setCell ?_ ?_ _) | (with_reducible refine Below.alloc ?_ ?_ _) | (with_reducible refine below_drewN ?_ _) | (with_reducible refine Below.drew ?_) | (with_reducible refine Below.trans ?_ (Below.mono hB ?_))); all_goals (first | with_reducible exact Nat.le_refl _ | omega | (simp; done) | (simp; omega) | (have := hB.size; (try simp at this); omega) | (have := hB.size; (try simp at this); (try simp); omega)))))).mono ?_; rintro e w9 ⟨rfl, hb9⟩) | fail)
                go_meet
                refine ⟨SlV.below hD1 (by focus ((repeat first | with_reducible exact Below.refl _ _ | (with_reducible refine Below.setCell ?_ ?_ _) | (with_reducible refine Below.alloc ?_ ?_ _) | (with_reducible refine below_drewN ?_ _) | (with_reducible refine Below.drew ?_) | (with_reducible refine Below.trans ?_ (Below.mono hb9 ?_))); all_goals (first | with_reducible exact Nat.le_refl _ | omega | (simp; done) | (simp; omega) | (have := hb9.size; (try simp at this); omega) | (have := hb9.size; (try simp at this); (try simp); omega)))), ?_, ?_⟩
                all_goals first | (focus (apply Box.via; apply Exists.intro; apply And.intro; (repeat first | with_reducible assumption | with_reducible exact Box.new _ _ _ | ((with_reducible apply Box.newAt); focus (simp; done)) | (with_reducible apply Box.drew) | (with_reducible apply Box.drewN) | (with_reducible apply Box.set) | (with_reducible apply Box.alloc) | (with_reducible apply Box.far) | (with_reducible apply Box.below (hb := hb9))); all_goals (first | with_reducible exact Nat.le_refl _ | omega | (simp; done) | (simp; omega) | (have := hb9.size; (try simp at this); omega) | (have := hb9.size; (try simp at this); (try simp); omega)))) | (focus ((repeat first | with_reducible exact Below.refl _ _ | (with_reducible refine Below.setCell ?_ ?_ _) | (with_reducible refine Below.alloc ?_ ?_ _) | (with_reducible refine below_drewN ?_ _) | (with_reducible refine Below.drew ?_) | (with_reducible refine Below.trans ?_ (Below.mono hb9 ?_)) | (with_reducible refine Below.trans ?_ (Below.mono hB ?_))); all_goals (first | with_reducible exact Nat.le_refl _ | omega | (simp; done) | (simp; omega) | (have := hb9.size; (try simp at this); have := hB.size; (try simp at this); omega) | (have := hb9.size; (try simp at this); have := hB.size; (try simp at this); (try simp); omega))))
              | some k =>
                obtain ⟨rfl, rfl⟩ : ft = k ∧ fe = 0 := by simpa [ffO, eq_comm] using hF
                have RF := Lib.hid (fun W h => show Calls Try.prog 64 #[.slice A l.length c, .agg #[.int .i64 lim, .int .i64 len], .int .i64 tick] W (fun e w' => e = .returned (.tuple #[.int .i64 ft, .bool true]) ∧ Below W.heap.size W w') from RF.out W h)
                clear hF hFP
                go_wp2_with (first | (go_at_call 64; refine (RF.out _ (SlV.below HS.out (by focus ((repeat first | with_reducible exact Below.refl _ _ | (with_reducible refine Below.setCell ?_ ?_ _) | (with_reducible refine Below.alloc ?_ ?_ _) | (with_reducible refine below_drewN ?_ _) | (with_reducible refine Below.drew ?_) | (with_reducible refine Below.trans ?_ (Below.mono hB ?_))); all_goals (first | with_reducible exact Nat.le_refl _ | omega | (simp; done) | (simp; omega) | (have := hB.size; (try simp at this); omega) | (have := hB.size; (try simp at this); (try simp); omega)))))).mono ?_; rintro e w9 ⟨rfl, hb9⟩) | fail)
                go_meet
                refine ⟨SlV.below hD1 (by focus ((repeat first | with_reducible exact Below.refl _ _ | (with_reducible refine Below.setCell ?_ ?_ _) | (with_reducible refine Below.alloc ?_ ?_ _) | (with_reducible refine below_drewN ?_ _) | (with_reducible refine Below.drew ?_) | (with_reducible refine Below.trans ?_ (Below.mono hb9 ?_))); all_goals (first | with_reducible exact Nat.le_refl _ | omega | (simp; done) | (simp; omega) | (have := hb9.size; (try simp at this); omega) | (have := hb9.size; (try simp at this); (try simp); omega)))), ?_, ?_⟩
                all_goals first | (focus (apply Box.via; apply Exists.intro; apply And.intro; (repeat first | with_reducible assumption | with_reducible exact Box.new _ _ _ | ((with_reducible apply Box.newAt); focus (simp; done)) | (with_reducible apply Box.drew) | (with_reducible apply Box.drewN) | (with_reducible apply Box.set) | (with_reducible apply Box.alloc) | (with_reducible apply Box.far) | (with_reducible apply Box.below (hb := hb9))); all_goals (first | with_reducible exact Nat.le_refl _ | omega | (simp; done) | (simp; omega) | (have := hb9.size; (try simp at this); omega) | (have := hb9.size; (try simp at this); (try simp); omega)))) | (focus ((repeat first | with_reducible exact Below.refl _ _ | (with_reducible refine Below.setCell ?_ ?_ _) | (with_reducible refine Below.alloc ?_ ?_ _) | (with_reducible refine below_drewN ?_ _) | (with_reducible refine Below.drew ?_) | (with_reducible refine Below.trans ?_ (Below.mono hb9 ?_)) | (with_reducible refine Below.trans ?_ (Below.mono hB ?_))); all_goals (first | with_reducible exact Nat.le_refl _ | omega | (simp; done) | (simp; omega) | (have := hb9.size; (try simp at this); have := hB.size; (try simp at this); omega) | (have := hb9.size; (try simp at this); have := hB.size; (try simp at this); (try simp); omega))))
          case rest =>
            obtain ⟨hD1', q', hB'⟩ := hcut
            clear q hB hD1 RF hFP
            have q := q'; have hB := hB'; have hD1 := hD1'
            clear q' hB' hD1'
            generalize wc = W5 at *
            go_upto_region 19 with fail
            go_cut [16] (fun s16 wx => ∃ g, s16 = .pointer (some ⟨g, 0, none⟩) ∧ w.heap.size ≤ g ∧ Box wx g 102 #[.int .i64 lim, .int .i64 len] ∧ (∀ j u, (W1.flatMap rgV)[j]? = some u → ∃ b o, D1 = some ⟨b, o, none⟩ ∧ b < g ∧ wx.cell? ⟨b, o + j, none⟩ = some u) ∧ Box wx w.heap.size 102 #[.int .i64 lim, .int .i64 len] ∧ Below w.heap.size w wx ∧ w.heap.size < g)
            case first => as_aux_lemma =>
              have hlq := q.lt
              have c0 := q.cell 0; have c1 := q.cell 1
              simp at c0 c1
              have hsz := hB.size
              have hD1 := Lib.hid hD1
              go_wp2_with fail
              go_meet
              refine ⟨_, rfl, hsz, ?_, ?_, ?_, ?_, hlq⟩
              rotate_left
              · intro j u hj
                obtain ⟨b, o, e1, e2, e3⟩ := hD1.out j u hj
                exact ⟨b, o, e1, e2, Lib.cell?_alloc_some _ e3⟩
              all_goals first | (focus (apply Box.via; apply Exists.intro; apply And.intro; (repeat first | with_reducible assumption | with_reducible exact Box.new _ _ _ | ((with_reducible apply Box.newAt); focus (simp; done)) | (with_reducible apply Box.drew) | (with_reducible apply Box.drewN) | (with_reducible apply Box.set) | (with_reducible apply Box.alloc) | (with_reducible apply Box.far)); all_goals (first | with_reducible exact Nat.le_refl _ | omega | (simp; done) | (simp; omega) | (omega) | ((try simp); omega)))) | (focus ((repeat first | with_reducible exact Below.refl _ _ | (with_reducible refine Below.setCell ?_ ?_ _) | (with_reducible refine Below.alloc ?_ ?_ _) | (with_reducible refine below_drewN ?_ _) | (with_reducible refine Below.drew ?_) | (with_reducible refine Below.trans ?_ (Below.mono hB ?_))); all_goals (first | with_reducible exact Nat.le_refl _ | omega | (simp; done) | (simp; omega) | (have := hB.size; (try simp at this); omega) | (have := hB.size; (try simp at this); (try simp); omega))))
            case rest =>
              obtain ⟨g, rfl, hwg, hG, hD1', q', hB', hwg2⟩ := hcut
              clear q hB hD1
              have q := q'; have hB := hB'; have hD1 := Lib.hid hD1'
              clear q' hB' hD1'
              generalize wc = W5 at *
              go_upto_region 20 with fail
              go_cut [] (fun wx => Box wx g 102 #[.int .i64 lm, .int .i64 len] ∧ SlV wx D1 (W1.flatMap rgV) ∧ Below w.heap.size w wx)
              case first => as_aux_lemma =>
                have hlq := q.lt; have hlg := hG.lt
                have c0 := q.cell 0; have c1 := q.cell 1
                have z0 := hG.cell 0; have z1 := hG.cell 1; have z2 := hG.froz 0
                simp at c0 c1 z0 z1
                have hne : w.heap.size ≠ g := by omega
                go_wp2_with fail
                go_meet
                refine ⟨?_, ?_, ?_⟩
                rotate_left
                · intro j u hj
                  obtain ⟨b, o, e1, e2, e3⟩ := hD1.out j u hj
                  refine ⟨b, o, e1, by simp; omega, ?_⟩
                  rw [World.cell?_setCell_far _ _ _ _ (by simp; omega)]
                  exact e3
                all_goals first | (focus (apply Box.via; apply Exists.intro; apply And.intro; (repeat first | with_reducible assumption | with_reducible exact Box.new _ _ _ | ((with_reducible apply Box.newAt); focus (simp; done)) | (with_reducible apply Box.drew) | (with_reducible apply Box.drewN) | (with_reducible apply Box.set) | (with_reducible apply Box.alloc) | (with_reducible apply Box.far)); all_goals (first | with_reducible exact Nat.le_refl _ | omega | (simp; done) | (simp; omega) | (omega) | ((try simp); omega)))) | (focus ((repeat first | with_reducible exact Below.refl _ _ | (with_reducible refine Below.setCell ?_ ?_ _) | (with_reducible refine Below.alloc ?_ ?_ _) | (with_reducible refine below_drewN ?_ _) | (with_reducible refine Below.drew ?_) | (with_reducible refine Below.trans ?_ (Below.mono hB ?_))); all_goals (first | with_reducible exact Nat.le_refl _ | omega | (simp; done) | (simp; omega) | (have := hB.size; (try simp at this); omega) | (have := hB.size; (try simp at this); (try simp); omega))))
              case rest =>
                obtain ⟨hG', hD1', hB'⟩ := hcut
                clear q hB hD1 hG
                have hG := hG'; have hB := hB'; have hD1 := Lib.hid hD1'
                clear hG' hB' hD1'
                generalize wc = W5 at *
                go_upto_region 21 with fail
                go_cut [17, 18] (fun s17 s18 wx => ∃ D cap, s17 = .slice D W3.length cap ∧ s18 = .int .i64 0 ∧ SlV wx D (W3.flatMap rgV) ∧ SlV wx D1 (W1.flatMap rgV) ∧ Below w.heap.size w wx)
                case first => as_aux_lemma =>
                  have hlg := hG.lt
                  have z0 := hG.cell 0; have z1 := hG.cell 1
                  simp at z0 z1
                  go_region_held3 (fun w' => w'.cell? ⟨g, 0, none⟩ = some (.int .i64 lm) ∧ w'.cell? ⟨g, 1, none⟩ = some (.int .i64 len)) (go_keep) (first | (go_at_call 57; refine (CP.out _ (SlV.below HS.out (by focus ((repeat first | with_reducible exact Below.refl _ _ | (with_reducible refine Below.setCell ?_ ?_ _) | (with_reducible refine Below.alloc ?_ ?_ _) | (with_reducible refine below_drewN ?_ _) | (with_reducible refine Below.drew ?_) | (with_reducible refine Below.trans ?_ (Below.mono hB ?_))); all_goals (first | with_reducible exact Nat.le_refl _ | omega | (simp; done) | (simp; omega) | (have := hB.size; (try simp at this); omega) | (have := hB.size; (try simp at this); (try simp); omega)))))).mono ?_; rintro e w2 ⟨D9, d9, rfl, hD9, hb2⟩; have hz2 : W5.heap.size ≤ w2.heap.size := (by have := hb2.size; (try simp at this); omega); have k0 := ((hb2).cell (p := ⟨g, 0, none⟩) (by simp; omega)).trans (show _ = some (Value.int .i64 lm) from by simp [go_sem, *]); have k1 := ((hb2).cell (p := ⟨g, 1, none⟩) (by simp; omega)).trans (show _ = some (Value.int .i64 len) from by simp [go_sem, *])) | (go_at_call 56; refine (WM.out _ _ _ (SlV.below hD9 (by focus ((repeat first | with_reducible exact Below.refl _ _ | (with_reducible refine Below.setCell ?_ ?_ _) | (with_reducible refine Below.alloc ?_ ?_ _) | (with_reducible refine below_drewN ?_ _) | (with_reducible refine Below.drew ?_)); all_goals (first | with_reducible exact Nat.le_refl _ | omega | (simp; done) | (simp; omega) | (omega) | ((try simp); omega)))))).mono ?_; rintro e w3 ⟨D, cap, rfl, hD, hb3⟩; have hz3 : w2.heap.size ≤ w3.heap.size := (by have := hb3.size; (try simp at this); omega); have k2 := ((hb3).cell (p := ⟨g, 0, none⟩) (by simp; omega)).trans (show _ = some (Value.int .i64 lm) from by simp [go_sem, *]); have k3 := ((hb3).cell (p := ⟨g, 1, none⟩) (by simp; omega)).trans (show _ = some (Value.int .i64 len) from by simp [go_sem, *])) | fail)
                  all_goals (as_aux_lemma => (
                    go_wp2_with fail
                    go_meet
                    refine ⟨D, cap, rfl, rfl, SlV.below hD (by focus ((repeat first | with_reducible exact Below.refl _ _ | (with_reducible refine Below.setCell ?_ ?_ _) | (with_reducible refine Below.alloc ?_ ?_ _) | (with_reducible refine below_drewN ?_ _) | (with_reducible refine Below.drew ?_)); all_goals (first | with_reducible exact Nat.le_refl _ | omega | (simp; done) | (simp; omega) | (omega) | ((try simp); omega)))), SlV.below hD1.out (by focus ((repeat first | with_reducible exact Below.refl _ _ | (with_reducible refine Below.setCell ?_ ?_ _) | (with_reducible refine Below.alloc ?_ ?_ _) | (with_reducible refine below_drewN ?_ _) | (with_reducible refine Below.drew ?_) | (with_reducible refine Below.trans ?_ (Below.mono hb2 ?_)) | (with_reducible refine Below.trans ?_ (Below.mono hb3 ?_))); all_goals (first | with_reducible exact Nat.le_refl _ | omega | (simp; done) | (simp; omega) | (have := hb2.size; (try simp at this); have := hb3.size; (try simp at this); omega) | (have := hb2.size; (try simp at this); have := hb3.size; (try simp at this); (try simp); omega)))), ?_⟩
                    all_goals first | (focus ((repeat first | with_reducible exact Below.refl _ _ | (with_reducible refine Below.setCell ?_ ?_ _) | (with_reducible refine Below.alloc ?_ ?_ _) | (with_reducible refine below_drewN ?_ _) | (with_reducible refine Below.drew ?_) | (with_reducible refine Below.trans ?_ (Below.mono hb2 ?_)) | (with_reducible refine Below.trans ?_ (Below.mono hb3 ?_)) | (with_reducible refine Below.trans ?_ (Below.mono hB ?_))); all_goals (first | with_reducible exact Nat.le_refl _ | omega | (simp; done) | (simp; omega) | (have := hb2.size; (try simp at this); have := hb3.size; (try simp at this); have := hB.size; (try simp at this); omega) | (have := hb2.size; (try simp at this); have := hb3.size; (try simp at this); have := hB.size; (try simp at this); (try simp); omega))))))
                case rest =>
                  obtain ⟨D5, cap5, rfl, rfl, hD5, hD1', hB'⟩ := hcut
                  clear hB hD1 hG
                  have hB := hB'; have hD1 := Lib.hid hD1'; have hD5 := Lib.hid hD5
                  clear hB' hD1'
                  generalize wc = W5 at *
                  go_wp2_with (first | (go_at_call 63; refine (IN2.out _ _ _ _ _ (SlV.below hD1.out (by focus ((repeat first | with_reducible exact Below.refl _ _ | (with_reducible refine Below.setCell ?_ ?_ _) | (with_reducible refine Below.alloc ?_ ?_ _) | (with_reducible refine below_drewN ?_ _) | (with_reducible refine Below.drew ?_)); all_goals (first | with_reducible exact Nat.le_refl _ | omega | (simp; done) | (simp; omega) | (omega) | ((try simp); omega))))) (SlV.below hD5.out (by focus ((repeat first | with_reducible exact Below.refl _ _ | (with_reducible refine Below.setCell ?_ ?_ _) | (with_reducible refine Below.alloc ?_ ?_ _) | (with_reducible refine below_drewN ?_ _) | (with_reducible refine Below.drew ?_)); all_goals (first | with_reducible exact Nat.le_refl _ | omega | (simp; done) | (simp; omega) | (omega) | ((try simp); omega)))))).mono ?_; rintro e w9 ⟨rfl, hb9⟩) | fail)
                  go_ret
                  exact ⟨rfl, by focus ((repeat first | with_reducible exact Below.refl _ _ | (with_reducible refine Below.setCell ?_ ?_ _) | (with_reducible refine Below.alloc ?_ ?_ _) | (with_reducible refine below_drewN ?_ _) | (with_reducible refine Below.drew ?_) | (with_reducible refine Below.trans ?_ (Below.mono hb9 ?_)) | (with_reducible refine Below.trans ?_ (Below.mono hB ?_))); all_goals (first | with_reducible exact Nat.le_refl _ | omega | (simp; done) | (simp; omega) | (have := hb9.size; (try simp at this); have := hB.size; (try simp at this); omega) | (have := hb9.size; (try simp at this); have := hB.size; (try simp at this); (try simp); omega)))⟩
  · have hW := Lib.hid he
    have hFF : ffP l lim len tick = (0, calmE l lim len) := by
      unfold ffP ffE
      rw [fst2, if_neg he, if_pos he]
    rw [show wnsP calmB l lim len = ([], calmE l lim len) from if_pos he] at WI
    rw [show wnsP mayB l lim len = ([], calmE l lim len) from if_pos he] at PI
    rw [hFF] at FF
    have e1 : (calmE l lim len != 0) = true := bneT he
    clear he hFF hW
    generalize calmE l lim len = ce at *
    obtain ⟨W1, hW1⟩ : ∃ W1 : List Rg, ([] : List Rg) = W1 := ⟨_, rfl⟩
    dsimp only at WI PI FF
    rw [hW1] at WI PI
    have hW1 := Lib.hid hW1
    go_enter Try.func10, Try.ntmps10
    go_upto_region 5 with (first | (go_at_call 15; refine (awake_c _).mono ?_; rintro e w1 ⟨rfl, hb1⟩) | fail)
    have q : Box w1 w.heap.size 102 #[.int .i64 lim, .int .i64 len] := by focus (apply Box.via; apply Exists.intro; apply And.intro; (repeat first | with_reducible assumption | with_reducible exact Box.new _ _ _ | ((with_reducible apply Box.newAt); focus (simp; done)) | (with_reducible apply Box.drew) | (with_reducible apply Box.drewN) | (with_reducible apply Box.set) | (with_reducible apply Box.alloc) | (with_reducible apply Box.far) | (with_reducible apply Box.below (hb := hb1))); all_goals (first | with_reducible exact Nat.le_refl _ | omega | (simp; done) | (simp; omega) | (have := hb1.size; (try simp at this); omega) | (have := hb1.size; (try simp at this); (try simp); omega)))
    have hB : Below w.heap.size w w1 := by focus ((repeat first | with_reducible exact Below.refl _ _ | (with_reducible refine Below.setCell ?_ ?_ _) | (with_reducible refine Below.alloc ?_ ?_ _) | (with_reducible refine below_drewN ?_ _) | (with_reducible refine Below.drew ?_) | (with_reducible refine Below.trans ?_ (Below.mono hb1 ?_))); all_goals (first | with_reducible exact Nat.le_refl _ | omega | (simp; done) | (simp; omega) | (have := hb1.size; (try simp at this); omega) | (have := hb1.size; (try simp at this); (try simp); omega)))
    clear hb1
    generalize w1 = W5 at *
    go_cut [7, 8] (fun s7 s8 wx => ∃ D cap, s7 = .slice D W1.length cap ∧ s8 = .int .i64 ce ∧ SlV wx D (W1.flatMap rgV) ∧ Box wx w.heap.size 102 #[.int .i64 lim, .int .i64 len] ∧ Below w.heap.size w wx)
    case first => as_aux_lemma =>
      have hlq := q.lt
      have c0 := q.cell 0; have c1 := q.cell 1
      simp at c0 c1
      go_region_held3 (fun w' => w'.cell? ⟨w.heap.size, 0, none⟩ = some (.int .i64 lim) ∧ w'.cell? ⟨w.heap.size, 1, none⟩ = some (.int .i64 len)) (go_keep) (first | (go_at_call 57; refine (CP.out _ (SlV.below HS.out (by focus ((repeat first | with_reducible exact Below.refl _ _ | (with_reducible refine Below.setCell ?_ ?_ _) | (with_reducible refine Below.alloc ?_ ?_ _) | (with_reducible refine below_drewN ?_ _) | (with_reducible refine Below.drew ?_) | (with_reducible refine Below.trans ?_ (Below.mono hB ?_))); all_goals (first | with_reducible exact Nat.le_refl _ | omega | (simp; done) | (simp; omega) | (have := hB.size; (try simp at this); omega) | (have := hB.size; (try simp at this); (try simp); omega)))))).mono ?_; rintro e w2 ⟨D9, d9, rfl, hD9, hb2⟩; have hz2 : W5.heap.size ≤ w2.heap.size := (by have := hb2.size; (try simp at this); omega); have k0 := ((hb2).cell (p := ⟨w.heap.size, 0, none⟩) (by simp; omega)).trans (show _ = some (Value.int .i64 lim) from by simp [go_sem, *]); have k1 := ((hb2).cell (p := ⟨w.heap.size, 1, none⟩) (by simp; omega)).trans (show _ = some (Value.int .i64 len) from by simp [go_sem, *])) | (go_at_call 56; refine (WI.out _ _ _ (SlV.below hD9 (by focus ((repeat first | with_reducible exact Below.refl _ _ | (with_reducible refine Below.setCell ?_ ?_ _) | (with_reducible refine Below.alloc ?_ ?_ _) | (with_reducible refine below_drewN ?_ _) | (with_reducible refine Below.drew ?_)); all_goals (first | with_reducible exact Nat.le_refl _ | omega | (simp; done) | (simp; omega) | (omega) | ((try simp); omega)))))).mono ?_; rintro e w3 ⟨D, cap, rfl, hD, hb3⟩; have hz3 : w2.heap.size ≤ w3.heap.size := (by have := hb3.size; (try simp at this); omega); have k2 := ((hb3).cell (p := ⟨w.heap.size, 0, none⟩) (by simp; omega)).trans (show _ = some (Value.int .i64 lim) from by simp [go_sem, *]); have k3 := ((hb3).cell (p := ⟨w.heap.size, 1, none⟩) (by simp; omega)).trans (show _ = some (Value.int .i64 len) from by simp [go_sem, *])) | fail)
      all_goals (as_aux_lemma => (
        go_wp2_with fail
        go_meet
        refine ⟨D, cap, rfl, rfl, SlV.below hD (by focus ((repeat first | with_reducible exact Below.refl _ _ | (with_reducible refine Below.setCell ?_ ?_ _) | (with_reducible refine Below.alloc ?_ ?_ _) | (with_reducible refine below_drewN ?_ _) | (with_reducible refine Below.drew ?_)); all_goals (first | with_reducible exact Nat.le_refl _ | omega | (simp; done) | (simp; omega) | (omega) | ((try simp); omega)))), ?_, ?_⟩
        all_goals first | (focus (apply Box.via; apply Exists.intro; apply And.intro; (repeat first | with_reducible assumption | with_reducible exact Box.new _ _ _ | ((with_reducible apply Box.newAt); focus (simp; done)) | (with_reducible apply Box.drew) | (with_reducible apply Box.drewN) | (with_reducible apply Box.set) | (with_reducible apply Box.alloc) | (with_reducible apply Box.far) | (with_reducible apply Box.below (hb := hb2)) | (with_reducible apply Box.below (hb := hb3))); all_goals (first | with_reducible exact Nat.le_refl _ | omega | (simp; done) | (simp; omega) | (have := hb2.size; (try simp at this); have := hb3.size; (try simp at this); omega) | (have := hb2.size; (try simp at this); have := hb3.size; (try simp at this); (try simp); omega)))) | (focus ((repeat first | with_reducible exact Below.refl _ _ | (with_reducible refine Below.setCell ?_ ?_ _) | (with_reducible refine Below.alloc ?_ ?_ _) | (with_reducible refine below_drewN ?_ _) | (with_reducible refine Below.drew ?_) | (with_reducible refine Below.trans ?_ (Below.mono hb2 ?_)) | (with_reducible refine Below.trans ?_ (Below.mono hb3 ?_)) | (with_reducible refine Below.trans ?_ (Below.mono hB ?_))); all_goals (first | with_reducible exact Nat.le_refl _ | omega | (simp; done) | (simp; omega) | (have := hb2.size; (try simp at this); have := hb3.size; (try simp at this); have := hB.size; (try simp at this); omega) | (have := hb2.size; (try simp at this); have := hb3.size; (try simp at this); have := hB.size; (try simp at this); (try simp); omega))))))
    case rest =>
      obtain ⟨D1, cap1, rfl, rfl, hD1, q', hB'⟩ := hcut
      clear q hB
      have q := q'; have hB := hB'
      clear q' hB'
      generalize wc = W5 at *
      go_upto_region 6 with fail
      go_cut [9, 10] (fun s9 s10 wx => ∃ D cap, s9 = .slice D W1.length cap ∧ s10 = .int .i64 ce ∧ SlV wx D (W1.flatMap rgV) ∧ SlV wx D1 (W1.flatMap rgV) ∧ Box wx w.heap.size 102 #[.int .i64 lim, .int .i64 len] ∧ Below w.heap.size w wx)
      case first => as_aux_lemma =>
        have hD1 := Lib.hid hD1
        have hlq := q.lt
        have c0 := q.cell 0; have c1 := q.cell 1
        simp at c0 c1
        go_region_held3 (fun w' => w'.cell? ⟨w.heap.size, 0, none⟩ = some (.int .i64 lim) ∧ w'.cell? ⟨w.heap.size, 1, none⟩ = some (.int .i64 len)) (go_keep) (first | (go_at_call 57; refine (CP.out _ (SlV.below HS.out (by focus ((repeat first | with_reducible exact Below.refl _ _ | (with_reducible refine Below.setCell ?_ ?_ _) | (with_reducible refine Below.alloc ?_ ?_ _) | (with_reducible refine below_drewN ?_ _) | (with_reducible refine Below.drew ?_) | (with_reducible refine Below.trans ?_ (Below.mono hB ?_))); all_goals (first | with_reducible exact Nat.le_refl _ | omega | (simp; done) | (simp; omega) | (have := hB.size; (try simp at this); omega) | (have := hB.size; (try simp at this); (try simp); omega)))))).mono ?_; rintro e w2 ⟨D9, d9, rfl, hD9, hb2⟩; have hz2 : W5.heap.size ≤ w2.heap.size := (by have := hb2.size; (try simp at this); omega); have k0 := ((hb2).cell (p := ⟨w.heap.size, 0, none⟩) (by simp; omega)).trans (show _ = some (Value.int .i64 lim) from by simp [go_sem, *]); have k1 := ((hb2).cell (p := ⟨w.heap.size, 1, none⟩) (by simp; omega)).trans (show _ = some (Value.int .i64 len) from by simp [go_sem, *])) | (go_at_call 58; refine (PI.out _ _ _ (SlV.below hD9 (by focus ((repeat first | with_reducible exact Below.refl _ _ | (with_reducible refine Below.setCell ?_ ?_ _) | (with_reducible refine Below.alloc ?_ ?_ _) | (with_reducible refine below_drewN ?_ _) | (with_reducible refine Below.drew ?_)); all_goals (first | with_reducible exact Nat.le_refl _ | omega | (simp; done) | (simp; omega) | (omega) | ((try simp); omega)))))).mono ?_; rintro e w3 ⟨D, cap, rfl, hD, hb3⟩; have hz3 : w2.heap.size ≤ w3.heap.size := (by have := hb3.size; (try simp at this); omega); have k2 := ((hb3).cell (p := ⟨w.heap.size, 0, none⟩) (by simp; omega)).trans (show _ = some (Value.int .i64 lim) from by simp [go_sem, *]); have k3 := ((hb3).cell (p := ⟨w.heap.size, 1, none⟩) (by simp; omega)).trans (show _ = some (Value.int .i64 len) from by simp [go_sem, *])) | fail)
        all_goals (as_aux_lemma => (
          go_wp2_with fail
          go_meet
          refine ⟨D, cap, rfl, rfl, SlV.below hD (by focus ((repeat first | with_reducible exact Below.refl _ _ | (with_reducible refine Below.setCell ?_ ?_ _) | (with_reducible refine Below.alloc ?_ ?_ _) | (with_reducible refine below_drewN ?_ _) | (with_reducible refine Below.drew ?_)); all_goals (first | with_reducible exact Nat.le_refl _ | omega | (simp; done) | (simp; omega) | (omega) | ((try simp); omega)))), SlV.below hD1.out (by focus ((repeat first | with_reducible exact Below.refl _ _ | (with_reducible refine Below.setCell ?_ ?_ _) | (with_reducible refine Below.alloc ?_ ?_ _) | (with_reducible refine below_drewN ?_ _) | (with_reducible refine Below.drew ?_) | (with_reducible refine Below.trans ?_ (Below.mono hb2 ?_)) | (with_reducible refine Below.trans ?_ (Below.mono hb3 ?_))); all_goals (first | with_reducible exact Nat.le_refl _ | omega | (simp; done) | (simp; omega) | (have := hb2.size; (try simp at this); have := hb3.size; (try simp at this); omega) | (have := hb2.size; (try simp at this); have := hb3.size; (try simp at this); (try simp); omega)))), ?_, ?_⟩
          all_goals first | (focus (apply Box.via; apply Exists.intro; apply And.intro; (repeat first | with_reducible assumption | with_reducible exact Box.new _ _ _ | ((with_reducible apply Box.newAt); focus (simp; done)) | (with_reducible apply Box.drew) | (with_reducible apply Box.drewN) | (with_reducible apply Box.set) | (with_reducible apply Box.alloc) | (with_reducible apply Box.far) | (with_reducible apply Box.below (hb := hb2)) | (with_reducible apply Box.below (hb := hb3))); all_goals (first | with_reducible exact Nat.le_refl _ | omega | (simp; done) | (simp; omega) | (have := hb2.size; (try simp at this); have := hb3.size; (try simp at this); omega) | (have := hb2.size; (try simp at this); have := hb3.size; (try simp at this); (try simp); omega)))) | (focus ((repeat first | with_reducible exact Below.refl _ _ | (with_reducible refine Below.setCell ?_ ?_ _) | (with_reducible refine Below.alloc ?_ ?_ _) | (with_reducible refine below_drewN ?_ _) | (with_reducible refine Below.drew ?_) | (with_reducible refine Below.trans ?_ (Below.mono hb2 ?_)) | (with_reducible refine Below.trans ?_ (Below.mono hb3 ?_)) | (with_reducible refine Below.trans ?_ (Below.mono hB ?_))); all_goals (first | with_reducible exact Nat.le_refl _ | omega | (simp; done) | (simp; omega) | (have := hb2.size; (try simp at this); have := hb3.size; (try simp at this); have := hB.size; (try simp at this); omega) | (have := hb2.size; (try simp at this); have := hb3.size; (try simp at this); have := hB.size; (try simp at this); (try simp); omega))))))
      case rest =>
        obtain ⟨D2, cap2, rfl, rfl, hD2, hD1', q', hB'⟩ := hcut
        clear q hB hD1
        have q := q'; have hB := hB'; have hD1 := hD1'
        clear q' hB' hD1'
        generalize wc = W5 at *
        go_upto_region 7 with fail
        go_cut [11, 12] (fun s11 s12 wx => s11 = .int .i64 0 ∧ s12 = .int .i64 ce ∧ SlV wx D2 (W1.flatMap rgV) ∧ SlV wx D1 (W1.flatMap rgV) ∧ Box wx w.heap.size 102 #[.int .i64 lim, .int .i64 len] ∧ Below w.heap.size w wx)
        case first => as_aux_lemma =>
          have hD1 := Lib.hid hD1; have hD2 := Lib.hid hD2
          have hlq := q.lt
          have c0 := q.cell 0; have c1 := q.cell 1
          simp at c0 c1
          go_region_held3 (fun w' => w'.cell? ⟨w.heap.size, 0, none⟩ = some (.int .i64 lim) ∧ w'.cell? ⟨w.heap.size, 1, none⟩ = some (.int .i64 len)) (go_keep) (first | (go_at_call 57; refine (CP.out _ (SlV.below HS.out (by focus ((repeat first | with_reducible exact Below.refl _ _ | (with_reducible refine Below.setCell ?_ ?_ _) | (with_reducible refine Below.alloc ?_ ?_ _) | (with_reducible refine below_drewN ?_ _) | (with_reducible refine Below.drew ?_) | (with_reducible refine Below.trans ?_ (Below.mono hB ?_))); all_goals (first | with_reducible exact Nat.le_refl _ | omega | (simp; done) | (simp; omega) | (have := hB.size; (try simp at this); omega) | (have := hB.size; (try simp at this); (try simp); omega)))))).mono ?_; rintro e w2 ⟨D9, d9, rfl, hD9, hb2⟩; have hz2 : W5.heap.size ≤ w2.heap.size := (by have := hb2.size; (try simp at this); omega); have k0 := ((hb2).cell (p := ⟨w.heap.size, 0, none⟩) (by simp; omega)).trans (show _ = some (Value.int .i64 lim) from by simp [go_sem, *]); have k1 := ((hb2).cell (p := ⟨w.heap.size, 1, none⟩) (by simp; omega)).trans (show _ = some (Value.int .i64 len) from by simp [go_sem, *])) | (go_at_call 59; refine (FF.out _ _ _ (SlV.below hD9 (by focus ((repeat first | with_reducible exact Below.refl _ _ | (with_reducible refine Below.setCell ?_ ?_ _) | (with_reducible refine Below.alloc ?_ ?_ _) | (with_reducible refine below_drewN ?_ _) | (with_reducible refine Below.drew ?_)); all_goals (first | with_reducible exact Nat.le_refl _ | omega | (simp; done) | (simp; omega) | (omega) | ((try simp); omega)))))).mono ?_; rintro e w3 ⟨rfl, hb3⟩; have hz3 : w2.heap.size ≤ w3.heap.size := (by have := hb3.size; (try simp at this); omega); have k2 := ((hb3).cell (p := ⟨w.heap.size, 0, none⟩) (by simp; omega)).trans (show _ = some (Value.int .i64 lim) from by simp [go_sem, *]); have k3 := ((hb3).cell (p := ⟨w.heap.size, 1, none⟩) (by simp; omega)).trans (show _ = some (Value.int .i64 len) from by simp [go_sem, *])) | fail)
          all_goals (as_aux_lemma => (
            go_wp2_with fail
            go_meet
            refine ⟨rfl, rfl, SlV.below hD2.out (by focus ((repeat first | with_reducible exact Below.refl _ _ | (with_reducible refine Below.setCell ?_ ?_ _) | (with_reducible refine Below.alloc ?_ ?_ _) | (with_reducible refine below_drewN ?_ _) | (with_reducible refine Below.drew ?_) | (with_reducible refine Below.trans ?_ (Below.mono hb2 ?_)) | (with_reducible refine Below.trans ?_ (Below.mono hb3 ?_))); all_goals (first | with_reducible exact Nat.le_refl _ | omega | (simp; done) | (simp; omega) | (have := hb2.size; (try simp at this); have := hb3.size; (try simp at this); omega) | (have := hb2.size; (try simp at this); have := hb3.size; (try simp at this); (try simp); omega)))), SlV.below hD1.out (by focus ((repeat first | with_reducible exact Below.refl _ _ | (with_reducible refine Below.setCell ?_ ?_ _) | (with_reducible refine Below.alloc ?_ ?_ _) | (with_reducible refine below_drewN ?_ _) | (with_reducible refine Below.drew ?_) | (with_reducible refine Below.trans ?_ (Below.mono hb2 ?_)) | (with_reducible refine Below.trans ?_ (Below.mono hb3 ?_))); all_goals (first | with_reducible exact Nat.le_refl _ | omega | (simp; done) | (simp; omega) | (have := hb2.size; (try simp at this); have := hb3.size; (try simp at this); omega) | (have := hb2.size; (try simp at this); have := hb3.size; (try simp at this); (try simp); omega)))), ?_, ?_⟩
            all_goals first | (focus (apply Box.via; apply Exists.intro; apply And.intro; (repeat first | with_reducible assumption | with_reducible exact Box.new _ _ _ | ((with_reducible apply Box.newAt); focus (simp; done)) | (with_reducible apply Box.drew) | (with_reducible apply Box.drewN) | (with_reducible apply Box.set) | (with_reducible apply Box.alloc) | (with_reducible apply Box.far) | (with_reducible apply Box.below (hb := hb2)) | (with_reducible apply Box.below (hb := hb3))); all_goals (first | with_reducible exact Nat.le_refl _ | omega | (simp; done) | (simp; omega) | (have := hb2.size; (try simp at this); have := hb3.size; (try simp at this); omega) | (have := hb2.size; (try simp at this); have := hb3.size; (try simp at this); (try simp); omega)))) | (focus ((repeat first | with_reducible exact Below.refl _ _ | (with_reducible refine Below.setCell ?_ ?_ _) | (with_reducible refine Below.alloc ?_ ?_ _) | (with_reducible refine below_drewN ?_ _) | (with_reducible refine Below.drew ?_) | (with_reducible refine Below.trans ?_ (Below.mono hb2 ?_)) | (with_reducible refine Below.trans ?_ (Below.mono hb3 ?_)) | (with_reducible refine Below.trans ?_ (Below.mono hB ?_))); all_goals (first | with_reducible exact Nat.le_refl _ | omega | (simp; done) | (simp; omega) | (have := hb2.size; (try simp at this); have := hb3.size; (try simp at this); have := hB.size; (try simp at this); omega) | (have := hb2.size; (try simp at this); have := hb3.size; (try simp at this); have := hB.size; (try simp at this); (try simp); omega))))))
        case rest =>
          obtain ⟨rfl, rfl, hD2', hD1', q', hB'⟩ := hcut
          clear q hB hD1 hD2
          have q := q'; have hB := hB'; have hD1 := Lib.hid hD1'; have hD2 := Lib.hid hD2'
          clear q' hB' hD1' hD2'
          generalize wc = W5 at *
          have hlq := q.lt
          have c0 := q.cell 0; have c1 := q.cell 1
          simp at c0 c1
          have hBc := Below.refl W5.heap.size W5
          have hW := hW1.out
          subst hW
          go_wp2_with (first | (go_at_call 60; refine (CE.out _ (SlV.below HS.out (by focus ((repeat first | with_reducible exact Below.refl _ _ | (with_reducible refine Below.setCell ?_ ?_ _) | (with_reducible refine Below.alloc ?_ ?_ _) | (with_reducible refine below_drewN ?_ _) | (with_reducible refine Below.drew ?_) | (with_reducible refine Below.trans ?_ (Below.mono hB ?_))); all_goals (first | with_reducible exact Nat.le_refl _ | omega | (simp; done) | (simp; omega) | (have := hB.size; (try simp at this); omega) | (have := hB.size; (try simp at this); (try simp); omega)))))).mono ?_; rintro e w9 ⟨rfl, hb9⟩; (have hBc : Below W5.heap.size W5 w9 := (by focus ((repeat first | with_reducible exact Below.refl _ _ | (with_reducible refine Below.setCell ?_ ?_ _) | (with_reducible refine Below.alloc ?_ ?_ _) | (with_reducible refine below_drewN ?_ _) | (with_reducible refine Below.drew ?_) | (with_reducible refine Below.trans ?_ (Below.mono hb9 ?_)) | (with_reducible refine Below.trans ?_ (Below.mono hBc ?_))); all_goals (first | with_reducible exact Nat.le_refl _ | omega | (simp; done) | (simp; omega) | (have := hb9.size; (try simp at this); have := hBc.size; (try simp at this); omega) | (have := hb9.size; (try simp at this); have := hBc.size; (try simp at this); (try simp); omega))))); (have c0 : w9.cell? ⟨w.heap.size, 0, none⟩ = some (.int .i64 lim) := (q.below hBc hlq).cell 0); (have c1 : w9.cell? ⟨w.heap.size, 1, none⟩ = some (.int .i64 len) := (q.below hBc hlq).cell 1)) | fail)
          go_ret
          exact ⟨rfl, by focus ((repeat first | with_reducible exact Below.refl _ _ | (with_reducible refine Below.setCell ?_ ?_ _) | (with_reducible refine Below.alloc ?_ ?_ _) | (with_reducible refine below_drewN ?_ _) | (with_reducible refine Below.drew ?_) | (with_reducible refine Below.trans ?_ (Below.mono hBc ?_)) | (with_reducible refine Below.trans ?_ (Below.mono hB ?_))); all_goals (first | with_reducible exact Nat.le_refl _ | omega | (simp; done) | (simp; omega) | (have := hBc.size; (try simp at this); have := hB.size; (try simp at this); omega) | (have := hBc.size; (try simp at this); have := hB.size; (try simp at this); (try simp); omega)))⟩

set_option maxHeartbeats 400000 in
theorem winchWindows_long (l : List Rg) (A : Option Addr) (c : Nat) (lim len tick : Int) (w : World) (hn : 62 < l.length) (hm : l.length ≤ 9223372036854775807) :
    Calls Try.prog 10 #[.slice A l.length c, .agg #[.int .i64 lim, .int .i64 len], .int .i64 tick] w fun e w' => e = .returned (.bool true) ∧ Below w.heap.size w w' := by
  have d1 : decide ((62 : Int) < (l.length : Int)) = true := decide_eq_true (by omega)
  go_enter Try.func10, Try.ntmps10
  go_wp2_with (go_at_call 15; refine (awake_c _).mono ?_; rintro e w1 ⟨rfl, hb1⟩)
  go_ret
  exact ⟨rfl, by focus ((repeat first | with_reducible exact Below.refl _ _ | (with_reducible refine Below.setCell ?_ ?_ _) | (with_reducible refine Below.alloc ?_ ?_ _) | (with_reducible refine below_drewN ?_ _) | (with_reducible refine Below.drew ?_) | (with_reducible refine Below.trans ?_ (Below.mono hb1 ?_))); all_goals (first | with_reducible exact Nat.le_refl _ | omega | (simp; done) | (simp; omega) | (have := hb1.size; (try simp at this); omega) | (have := hb1.size; (try simp at this); (try simp); omega)))⟩

theorem winchWindows_l (l : List Rg) (A : Option Addr) (c : Nat) (lim len tick : Int) (w : World) (hm : l.length ≤ 9223372036854775807) (hs : SlV w A (l.flatMap rgV)) (_ : ∀ x ∈ [lim, len], -9223372036854775808 ≤ x ∧ x ≤ 9223372036854775807) (_ : -9223372036854775808 ≤ tick ∧ tick ≤ 9223372036854775807) :
    Calls Try.prog 10 #[.slice A l.length c, .agg #[.int .i64 lim, .int .i64 len], .int .i64 tick] w fun e w' => e = .returned (.bool true) ∧ Below w.heap.size w w' := by
  by_cases h : 62 < l.length
  · exact winchWindows_long l A c lim len tick w h hm
  · exact winchWindows_in l A c lim len tick w (by omega) hs

end Go.Proofs.Ytgbckdmhmkpahaa

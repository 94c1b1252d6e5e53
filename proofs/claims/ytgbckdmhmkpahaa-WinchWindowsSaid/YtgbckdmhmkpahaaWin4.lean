/-
  Windows of forecasts (chapter 2): WindowsIn, PossibleIn, FirstFrom.
-/
import Derived.Test.YtgbckdmhmkpahaaWin3
set_option linter.unusedVariables false
namespace Go.Proofs.Ytgbckdmhmkpahaa
open Go.RowKit Go.Shelf

def wnsP (q : Int → Rg → Bool) (l : List Rg) (lim len : Int) : List Rg × Int := if calmE l lim len ≠ 0 then ([], calmE l lim len) else (winL (q lim) len l, 0)
set_option maxHeartbeats 1000000 in
theorem windowsIn_c (l : List Rg) (A : Option Addr) (c : Nat) (lim len : Int) (w : World) (hn : l.length ≤ 9223372036854775807) (hs : SlV w A (l.flatMap rgV)) :
    Calls Try.prog 56 #[.slice A l.length c, .agg #[.int .i64 lim, .int .i64 len]] w fun e w' => ∃ D cap, e = .returned (.tuple #[.slice D (wnsP calmB l lim len).1.length cap, .int .i64 (wnsP calmB l lim len).2]) ∧ SlV w' D ((wnsP calmB l lim len).1.flatMap rgV) ∧ Below w.heap.size w w' := by
  by_cases he : calmE l lim len = 0
  · obtain ⟨k1, k2, k3, k4⟩ := calmE_ok he
    have WY := Lib.hid (fun W h => windows_yes 111 (calmB lim) l A c lim len W (enters_of Try.func111 (by kernel_rfl) rfl) (fun a b W => isCalm_c a b lim W k3) h he)
    have hs := Lib.hid hs
    rw [show wnsP calmB l lim len = (winL (calmB lim) len l, 0) from if_neg (by simpa using he)]
    generalize winL (calmB lim) len l = R at *
    clear he k2
    go_enter Try.func56, Try.ntmps56
    go_wp2_with (first | (go_at_call 110; refine (WY.out _ (SlV.below hs.out (by focus ((repeat first | with_reducible exact Below.refl _ _ | (with_reducible refine Below.setCell ?_ ?_ _) | (with_reducible refine Below.alloc ?_ ?_ _) | (with_reducible refine below_drewN ?_ _) | (with_reducible refine Below.drew ?_)); all_goals (first | with_reducible exact Nat.le_refl _ | omega | (simp; done) | (simp; omega) | (omega) | ((try simp); omega)))))).mono ?_; rintro e w1 ⟨D, cap, rfl, hD, hb1⟩) | fail)
    go_ret2
    exact ⟨D, cap, rfl, hD, by focus ((repeat first | with_reducible exact Below.refl _ _ | (with_reducible refine Below.setCell ?_ ?_ _) | (with_reducible refine Below.alloc ?_ ?_ _) | (with_reducible refine below_drewN ?_ _) | (with_reducible refine Below.drew ?_) | (with_reducible refine Below.trans ?_ (Below.mono hb1 ?_))); all_goals (first | with_reducible exact Nat.le_refl _ | omega | (simp; done) | (simp; omega) | (have := hb1.size; (try simp at this); omega) | (have := hb1.size; (try simp at this); (try simp); omega)))⟩
  · have WN := Lib.hid (fun W h => windows_no 111 l A c lim len W hn h he)
    have hs := Lib.hid hs
    rw [show wnsP calmB l lim len = ([], calmE l lim len) from if_pos he]
    clear he
    generalize calmE l lim len = ce at *
    go_enter Try.func56, Try.ntmps56
    go_wp2_with (first | (go_at_call 110; refine (WN.out _ (SlV.below hs.out (by focus ((repeat first | with_reducible exact Below.refl _ _ | (with_reducible refine Below.setCell ?_ ?_ _) | (with_reducible refine Below.alloc ?_ ?_ _) | (with_reducible refine below_drewN ?_ _) | (with_reducible refine Below.drew ?_)); all_goals (first | with_reducible exact Nat.le_refl _ | omega | (simp; done) | (simp; omega) | (omega) | ((try simp); omega)))))).mono ?_; rintro e w1 ⟨rfl, hb1⟩) | fail)
    go_ret2
    exact ⟨none, 0, rfl, fun j u hj => by simp at hj, by focus ((repeat first | with_reducible exact Below.refl _ _ | (with_reducible refine Below.setCell ?_ ?_ _) | (with_reducible refine Below.alloc ?_ ?_ _) | (with_reducible refine below_drewN ?_ _) | (with_reducible refine Below.drew ?_) | (with_reducible refine Below.trans ?_ (Below.mono hb1 ?_))); all_goals (first | with_reducible exact Nat.le_refl _ | omega | (simp; done) | (simp; omega) | (have := hb1.size; (try simp at this); omega) | (have := hb1.size; (try simp at this); (try simp); omega)))⟩
set_option maxHeartbeats 1000000 in
theorem possibleIn_c (l : List Rg) (A : Option Addr) (c : Nat) (lim len : Int) (w : World) (hn : l.length ≤ 9223372036854775807) (hs : SlV w A (l.flatMap rgV)) :
    Calls Try.prog 58 #[.slice A l.length c, .agg #[.int .i64 lim, .int .i64 len]] w fun e w' => ∃ D cap, e = .returned (.tuple #[.slice D (wnsP mayB l lim len).1.length cap, .int .i64 (wnsP mayB l lim len).2]) ∧ SlV w' D ((wnsP mayB l lim len).1.flatMap rgV) ∧ Below w.heap.size w w' := by
  by_cases he : calmE l lim len = 0
  · obtain ⟨k1, k2, k3, k4⟩ := calmE_ok he
    have WY := Lib.hid (fun W h => windows_yes 112 (mayB lim) l A c lim len W (enters_of Try.func112 (by kernel_rfl) rfl) (fun a b W => mayBeCalm_c a b lim W k3) h he)
    have hs := Lib.hid hs
    rw [show wnsP mayB l lim len = (winL (mayB lim) len l, 0) from if_neg (by simpa using he)]
    generalize winL (mayB lim) len l = R at *
    clear he k2
    go_enter Try.func58, Try.ntmps58
    go_wp2_with (first | (go_at_call 110; refine (WY.out _ (SlV.below hs.out (by focus ((repeat first | with_reducible exact Below.refl _ _ | (with_reducible refine Below.setCell ?_ ?_ _) | (with_reducible refine Below.alloc ?_ ?_ _) | (with_reducible refine below_drewN ?_ _) | (with_reducible refine Below.drew ?_)); all_goals (first | with_reducible exact Nat.le_refl _ | omega | (simp; done) | (simp; omega) | (omega) | ((try simp); omega)))))).mono ?_; rintro e w1 ⟨D, cap, rfl, hD, hb1⟩) | fail)
    go_ret2
    exact ⟨D, cap, rfl, hD, by focus ((repeat first | with_reducible exact Below.refl _ _ | (with_reducible refine Below.setCell ?_ ?_ _) | (with_reducible refine Below.alloc ?_ ?_ _) | (with_reducible refine below_drewN ?_ _) | (with_reducible refine Below.drew ?_) | (with_reducible refine Below.trans ?_ (Below.mono hb1 ?_))); all_goals (first | with_reducible exact Nat.le_refl _ | omega | (simp; done) | (simp; omega) | (have := hb1.size; (try simp at this); omega) | (have := hb1.size; (try simp at this); (try simp); omega)))⟩
  · have WN := Lib.hid (fun W h => windows_no 112 l A c lim len W hn h he)
    have hs := Lib.hid hs
    rw [show wnsP mayB l lim len = ([], calmE l lim len) from if_pos he]
    clear he
    generalize calmE l lim len = ce at *
    go_enter Try.func58, Try.ntmps58
    go_wp2_with (first | (go_at_call 110; refine (WN.out _ (SlV.below hs.out (by focus ((repeat first | with_reducible exact Below.refl _ _ | (with_reducible refine Below.setCell ?_ ?_ _) | (with_reducible refine Below.alloc ?_ ?_ _) | (with_reducible refine below_drewN ?_ _) | (with_reducible refine Below.drew ?_)); all_goals (first | with_reducible exact Nat.le_refl _ | omega | (simp; done) | (simp; omega) | (omega) | ((try simp); omega)))))).mono ?_; rintro e w1 ⟨rfl, hb1⟩) | fail)
    go_ret2
    exact ⟨none, 0, rfl, fun j u hj => by simp at hj, by focus ((repeat first | with_reducible exact Below.refl _ _ | (with_reducible refine Below.setCell ?_ ?_ _) | (with_reducible refine Below.alloc ?_ ?_ _) | (with_reducible refine below_drewN ?_ _) | (with_reducible refine Below.drew ?_) | (with_reducible refine Below.trans ?_ (Below.mono hb1 ?_))); all_goals (first | with_reducible exact Nat.le_refl _ | omega | (simp; done) | (simp; omega) | (have := hb1.size; (try simp at this); omega) | (have := hb1.size; (try simp at this); (try simp); omega)))⟩

/-- What FirstFrom answers. -/
def ffE (l : List Rg) (lim len tick : Int) : Int := fstE [calmE l lim len, unl (inB tick 0 60) 2]
def ffP (l : List Rg) (lim len tick : Int) : Int × Int := if ffE l lim len tick ≠ 0 then (0, ffE l lim len tick) else firstW tick len (winL (calmB lim) len l)
theorem wnsP_e (q : Int → Rg → Bool) (l : List Rg) (lim len : Int) : (wnsP q l lim len).2 = calmE l lim len := by
  unfold wnsP
  by_cases h : calmE l lim len = 0
  · rw [if_neg (by simpa using h), h]
  · rw [if_pos h]
set_option maxHeartbeats 2000000 in
set_option maxRecDepth 100000 in
theorem firstFrom_c (l : List Rg) (A : Option Addr) (c : Nat) (lim len tick : Int) (w : World) (hn : l.length ≤ 9223372036854775807) (hs : SlV w A (l.flatMap rgV)) :
    Calls Try.prog 59 #[.slice A l.length c, .agg #[.int .i64 lim, .int .i64 len], .int .i64 tick] w fun e w' => e = .returned (.tuple #[.int .i64 (ffP l lim len tick).1, .int .i64 (ffP l lim len tick).2]) ∧ Below w.heap.size w w' := by
  have WI := Lib.hid (fun W h => windowsIn_c l A c lim len W hn h)
  have WE := wnsP_e calmB l lim len
  by_cases he : ffE l lim len tick = 0
  · have h2 : calmE l lim len = 0 ∧ unl (inB tick 0 60) 2 = 0 := by
      unfold ffE at he
      rw [fst2] at he
      by_cases ha : calmE l lim len = 0
      · rw [if_pos ha] at he; exact ⟨ha, he⟩
      · rw [if_neg ha] at he; exact absurd he ha
    obtain ⟨h2, h3⟩ := h2
    obtain ⟨k1, k2, k3, k4⟩ := calmE_ok h2
    have ht := inB_true.1 ((unl_ne _ 2 (by decide)).1 h3)
    have hb : ∀ r ∈ winL (calmB lim) len l, 0 ≤ r.1 ∧ r.1 ≤ 100 ∧ 0 ≤ r.2 ∧ r.2 ≤ 100 := fun r hr => by
      have := (runsR_ok (calmB lim) l l.length (Nat.le_refl _)).2 r (mem_winL.1 hr).1
      omega
    have hP := Lib.hid (show ffP l lim len tick = firstW tick len (winL (calmB lim) len l) from if_neg (by simpa using he))
    have e1 : (fstE [0, unl (inB tick 0 60) 2] != 0) = false := bneF (by rw [h3]; rfl)
    have hlen : (winL (calmB lim) len l).length ≤ 100000 := by
      unfold winL
      refine Nat.le_trans (List.length_filter_le _ _) ?_
      rw [List.length_reverse]
      have : ∀ n, (runsR (calmB lim) l n).length ≤ n := by
        intro n
        induction n with
        | zero => simp [runsR]
        | succ n ih =>
          unfold runsR
          cases l[n]? with
          | none => exact Nat.le_trans ih (Nat.le_succ _)
          | some r =>
            simp only
            unfold rstep
            split
            · cases hR : runsR (calmB lim) l n with
              | nil => simp
              | cons v o =>
                rw [hR] at ih
                simp only
                split
                · simp at ih ⊢; omega
                · simp at ih ⊢; omega
            · omega
      have := this l.length
      omega
    rw [show wnsP calmB l lim len = (winL (calmB lim) len l, 0) from if_neg (by simpa using h2)] at WI
    have hs := Lib.hid hs
    have hb := Lib.hid hb
    clear he h2 h3 WE k2
    generalize ffP l lim len tick = PP at *
    generalize winL (calmB lim) len l = R at *
    dsimp only at WI
    go_enter Try.func59, Try.ntmps59
    go_wp2_with (first | (go_at_call 56; refine (WI.out _ (SlV.below hs.out (by focus ((repeat first | with_reducible exact Below.refl _ _ | (with_reducible refine Below.setCell ?_ ?_ _) | (with_reducible refine Below.alloc ?_ ?_ _) | (with_reducible refine below_drewN ?_ _) | (with_reducible refine Below.drew ?_)); all_goals (first | with_reducible exact Nat.le_refl _ | omega | (simp; done) | (simp; omega) | (omega) | ((try simp); omega)))))).mono ?_; rintro e w1 ⟨D, cap, rfl, hD, hb1⟩) | (go_at_call 81; refine (unless_c _ _ _).mono ?_; rintro e w' ⟨rfl, rfl⟩) | (go_at_call 91; refine (within_w _ _ _ _).mono ?_; rintro e w' ⟨rfl, rfl⟩) | (go_at_call 84; (with_reducible refine (first2a _ _ _ _ _ (by simp)).mono ?_); rintro e w' ⟨rfl, rfl⟩) | fail)
    go_loopw [30] (fun i wr => ∃ k : Nat, k ≤ R.length ∧ i = .int .i64 (k : Int) ∧ Hid (PP = firstW tick len (R.drop k)) ∧ SlV wr D (R.flatMap rgV) ∧ Box wr w.heap.size 102 #[.int .i64 lim, .int .i64 len] ∧ Below w.heap.size w wr) (fun i _ => R.length - (intOf i).toNat)
    case atStart => exact ⟨0, Nat.zero_le _, rfl, hP, SlV.below hD (by focus ((repeat first | with_reducible exact Below.refl _ _ | (with_reducible refine Below.setCell ?_ ?_ _) | (with_reducible refine Below.alloc ?_ ?_ _) | (with_reducible refine below_drewN ?_ _) | (with_reducible refine Below.drew ?_)); all_goals (first | with_reducible exact Nat.le_refl _ | omega | (simp; done) | (simp; omega) | (omega) | ((try simp); omega)))), by focus (apply Box.via; apply Exists.intro; apply And.intro; (repeat first | with_reducible assumption | with_reducible exact Box.new _ _ _ | ((with_reducible apply Box.newAt); focus (simp; done)) | (with_reducible apply Box.drew) | (with_reducible apply Box.drewN) | (with_reducible apply Box.set) | (with_reducible apply Box.alloc) | (with_reducible apply Box.far) | (with_reducible apply Box.below (hb := hb1))); all_goals (first | with_reducible exact Nat.le_refl _ | omega | (simp; done) | (simp; omega) | (have := hb1.size; (try simp at this); omega) | (have := hb1.size; (try simp at this); (try simp); omega))), by focus ((repeat first | with_reducible exact Below.refl _ _ | (with_reducible refine Below.setCell ?_ ?_ _) | (with_reducible refine Below.alloc ?_ ?_ _) | (with_reducible refine below_drewN ?_ _) | (with_reducible refine Below.drew ?_) | (with_reducible refine Below.trans ?_ (Below.mono hb1 ?_))); all_goals (first | with_reducible exact Nat.le_refl _ | omega | (simp; done) | (simp; omega) | (have := hb1.size; (try simp at this); omega) | (have := hb1.size; (try simp at this); (try simp); omega)))⟩
    case round =>
      clear hD
      obtain ⟨k, hk, rfl, hf, hD, q, hB⟩ := hrel
      have hlq := q.lt
      have c0 := q.cell 0; have c1 := q.cell 1
      simp at c0 c1
      by_cases hlt : k < R.length
      · obtain ⟨bb, off, rfl, hbb, a0, a1⟩ := rg_cells hD (List.getElem?_eq_getElem hlt)
        have hbk := hb.out _ (List.getElem_mem hlt)
        have D1 := Lib.hid (List.drop_eq_getElem_cons (l := R) hlt)
        generalize R[k] = r at *
        obtain ⟨a, b⟩ := r
        dsimp only at a0 a1 hbk
        have hlt' : (k : Int) < (R.length : Int) := by omega
        have HF := Lib.hid (show firstW tick len ((a, b) :: R.drop (k + 1)) = if len ≤ b - max tick a + 1 then (max tick a, 0) else firstW tick len (R.drop (k + 1)) from rfl)
        have v1 : IntKind.i64.wrap (b - max tick a) = b - max tick a := IntWalk.i64_in _ (by omega)
        have v2 : IntKind.i64.wrap (b - max tick a + 1) = b - max tick a + 1 := IntWalk.i64_in _ (by omega)
        by_cases hc : len ≤ b - max tick a + 1
        · have e2 : decide (len ≤ b - max tick a + 1) = true := decide_eq_true hc
          have HZ := Lib.hid (show PP = (max tick a, 0) by rw [hf.out, D1.out, HF.out, if_pos hc])
          clear hf HF
          go_wp2_with fail
          go_ret2
          exact ⟨ret_ii (by rw [HZ.out]) (by rw [HZ.out]), by focus ((repeat first | with_reducible exact Below.refl _ _ | (with_reducible refine Below.setCell ?_ ?_ _) | (with_reducible refine Below.alloc ?_ ?_ _) | (with_reducible refine below_drewN ?_ _) | (with_reducible refine Below.drew ?_) | (with_reducible refine Below.trans ?_ (Below.mono hB ?_))); all_goals (first | with_reducible exact Nat.le_refl _ | omega | (simp; done) | (simp; omega) | (have := hB.size; (try simp at this); omega) | (have := hB.size; (try simp at this); (try simp); omega)))⟩
        · have e2 : decide (len ≤ b - max tick a + 1) = false := decide_eq_false hc
          have HZ := Lib.hid (show PP = firstW tick len (R.drop (k + 1)) by rw [hf.out, D1.out, HF.out, if_neg hc])
          clear hf HF
          go_wp2_with fail
          go_roundw
          case rel => exact ⟨k + 1, by omega, by go_num, HZ, SlV.below hD (by focus ((repeat first | with_reducible exact Below.refl _ _ | (with_reducible refine Below.setCell ?_ ?_ _) | (with_reducible refine Below.alloc ?_ ?_ _) | (with_reducible refine below_drewN ?_ _) | (with_reducible refine Below.drew ?_)); all_goals (first | with_reducible exact Nat.le_refl _ | omega | (simp; done) | (simp; omega) | (omega) | ((try simp); omega)))), by focus (apply Box.via; apply Exists.intro; apply And.intro; (repeat first | with_reducible assumption | with_reducible exact Box.new _ _ _ | ((with_reducible apply Box.newAt); focus (simp; done)) | (with_reducible apply Box.drew) | (with_reducible apply Box.drewN) | (with_reducible apply Box.set) | (with_reducible apply Box.alloc) | (with_reducible apply Box.far)); all_goals (first | with_reducible exact Nat.le_refl _ | omega | (simp; done) | (simp; omega) | (omega) | ((try simp); omega))), by focus ((repeat first | with_reducible exact Below.refl _ _ | (with_reducible refine Below.setCell ?_ ?_ _) | (with_reducible refine Below.alloc ?_ ?_ _) | (with_reducible refine below_drewN ?_ _) | (with_reducible refine Below.drew ?_) | (with_reducible refine Below.trans ?_ (Below.mono hB ?_))); all_goals (first | with_reducible exact Nat.le_refl _ | omega | (simp; done) | (simp; omega) | (have := hB.size; (try simp at this); omega) | (have := hB.size; (try simp at this); (try simp); omega)))⟩
          case measure => simp [intOf]; omega
      · obtain rfl : k = R.length := by omega
        have HZ := Lib.hid (show PP = (0, 12) by rw [hf.out, List.drop_length]; rfl)
        go_wp2_with fail
        go_ret2
        exact ⟨ret_ii (by rw [HZ.out]) (by rw [HZ.out]), hB⟩
  · have hP := Lib.hid (show ffP l lim len tick = (0, ffE l lim len tick) from if_pos he)
    have hE := Lib.hid (show ffE l lim len tick = fstE [(wnsP calmB l lim len).2, unl (inB tick 0 60) 2] from by rw [WE]; rfl)
    have e1 : (fstE [(wnsP calmB l lim len).2, unl (inB tick 0 60) 2] != 0) = true := bneT (by rw [← hE.out]; exact he)
    have hs := Lib.hid hs
    clear he WE
    generalize ffP l lim len tick = PP at *
    generalize ffE l lim len tick = fe at *
    generalize wnsP calmB l lim len = WP at *
    obtain ⟨R, re⟩ := WP
    dsimp only at WI hE e1
    go_enter Try.func59, Try.ntmps59
    go_wp2_with (first | (go_at_call 56; refine (WI.out _ (SlV.below hs.out (by focus ((repeat first | with_reducible exact Below.refl _ _ | (with_reducible refine Below.setCell ?_ ?_ _) | (with_reducible refine Below.alloc ?_ ?_ _) | (with_reducible refine below_drewN ?_ _) | (with_reducible refine Below.drew ?_)); all_goals (first | with_reducible exact Nat.le_refl _ | omega | (simp; done) | (simp; omega) | (omega) | ((try simp); omega)))))).mono ?_; rintro e w1 ⟨D, cap, rfl, hD, hb1⟩) | (go_at_call 81; refine (unless_c _ _ _).mono ?_; rintro e w' ⟨rfl, rfl⟩) | (go_at_call 91; refine (within_w _ _ _ _).mono ?_; rintro e w' ⟨rfl, rfl⟩) | (go_at_call 84; (with_reducible refine (first2a _ _ _ _ _ (by simp)).mono ?_); rintro e w' ⟨rfl, rfl⟩) | fail)
    go_ret2
    exact ⟨ret_ii (by rw [hP.out]) (by rw [hP.out, hE.out]), by focus ((repeat first | with_reducible exact Below.refl _ _ | (with_reducible refine Below.setCell ?_ ?_ _) | (with_reducible refine Below.alloc ?_ ?_ _) | (with_reducible refine below_drewN ?_ _) | (with_reducible refine Below.drew ?_) | (with_reducible refine Below.trans ?_ (Below.mono hb1 ?_))); all_goals (first | with_reducible exact Nat.le_refl _ | omega | (simp; done) | (simp; omega) | (have := hb1.size; (try simp at this); omega) | (have := hb1.size; (try simp at this); (try simp); omega)))⟩

end Go.Proofs.Ytgbckdmhmkpahaa

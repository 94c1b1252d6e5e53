/-
  Windows of forecasts (chapter 2): calmErr, isCalm, mayBeCalm, the references CalmErr, IsCalm, MayCalm.
-/
import Derived.Test.YtgbckdmhmkpahaaWinP
import Derived.Test.YtgbckdmhmkpahaaLoops
import Derived.Test.YtgbckdmhmkpahaaSortW
set_option linter.unusedVariables false
namespace Go.Proofs.Ytgbckdmhmkpahaa
open Go.RowKit Go.Shelf

/-- What calmErr answers. -/
def cErr1 (r : Rg) : Int := fstE [unl (inB r.1 (-1000) 1000 && inB r.2 (-1000) 1000) 2, unl (decide (r.1 ≤ r.2)) 9]
def cErrL : List Rg → Int
  | [] => 0
  | r :: l => if cErr1 r ≠ 0 then cErr1 r else cErrL l
def calmE (l : List Rg) (lim len : Int) : Int := if 60 < l.length then 8 else if cErrL l ≠ 0 then cErrL l else unl (inB lim 0 1000 && inB len 1 60) 2
theorem cErrL_ok : ∀ {l : List Rg}, cErrL l = 0 → ∀ r ∈ l, (-1000 ≤ r.1 ∧ r.1 ≤ 1000) ∧ (-1000 ≤ r.2 ∧ r.2 ≤ 1000) ∧ r.1 ≤ r.2
  | [], _, r, hr => by simp at hr
  | x :: l, h, r, hr => by
    unfold cErrL at h
    by_cases hx : cErr1 x = 0
    · rw [if_neg (by simpa using hx)] at h
      rcases List.mem_cons.1 hr with rfl | hr
      · obtain ⟨a, b⟩ := fst2_z' hx
        have a' := (unl_ne _ 2 (by decide)).1 a
        have b' := (unl_ne _ 9 (by decide)).1 b
        simp only [Bool.and_eq_true] at a'
        exact ⟨inB_true.1 a'.1, inB_true.1 a'.2, by simpa using b'⟩
      · exact cErrL_ok h r hr
    · rw [if_pos hx] at h; exact absurd h hx
where
  fst2_z' {a b : Int} (h : fstE [a, b] = 0) : a = 0 ∧ b = 0 := by
    rw [fst2] at h
    by_cases ha : a = 0
    · rw [if_pos ha] at h; exact ⟨ha, h⟩
    · rw [if_neg ha] at h; exact absurd h ha
theorem calmE_ok {l : List Rg} {lim len : Int} (h : calmE l lim len = 0) : l.length ≤ 60 ∧ (∀ r ∈ l, (-1000 ≤ r.1 ∧ r.1 ≤ 1000) ∧ (-1000 ≤ r.2 ∧ r.2 ≤ 1000) ∧ r.1 ≤ r.2) ∧ (0 ≤ lim ∧ lim ≤ 1000) ∧ (1 ≤ len ∧ len ≤ 60) := by
  unfold calmE at h
  by_cases h1 : 60 < l.length
  · rw [if_pos h1] at h; exact absurd h (by decide)
  · rw [if_neg h1] at h
    by_cases h2 : cErrL l = 0
    · rw [if_neg (by simpa using h2)] at h
      have h3 := (unl_ne _ 2 (by decide)).1 h
      simp only [Bool.and_eq_true] at h3
      exact ⟨by omega, cErrL_ok h2, inB_true.1 h3.1, inB_true.1 h3.2⟩
    · rw [if_pos h2] at h; exact absurd h h2

/-- The cells of a list of ranges. -/
theorem rg_cells {w : World} {A : Option Addr} {l : List Rg} (hs : SlV w A (l.flatMap rgV)) {k : Nat} {s : Rg} (hk : l[k]? = some s) :
    ∃ b off, A = some ⟨b, off, none⟩ ∧ b < w.heap.size ∧ w.cell? ⟨b, off + k * 2, none⟩ = some (.int .i64 s.1) ∧ w.cell? ⟨b, off + k * 2 + 1, none⟩ = some (.int .i64 s.2) := by
  have f := fun r (hr : r < 2) => flatK_get (enc := rgV) (k := 2) (fun _ => rfl) l k s r hk hr
  obtain ⟨b, off, hA, hb, c0⟩ := hs (k * 2 + 0) (.int .i64 s.1) ((f 0 (by omega)).trans rfl)
  obtain ⟨b1, o1, hA1, _, c1⟩ := hs (k * 2 + 1) (.int .i64 s.2) ((f 1 (by omega)).trans rfl)
  obtain ⟨rfl, rfl⟩ : b = b1 ∧ off = o1 := by rw [hA] at hA1; simpa using hA1
  exact ⟨b, off, hA, hb, c0, c1⟩

set_option maxHeartbeats 1000000 in
theorem isCalm_c (a b lim : Int) (w : World) (hl : 0 ≤ lim ∧ lim ≤ 1000) :
    Calls Try.prog 111 #[.agg #[.int .i64 a, .int .i64 b], .int .i64 lim] w fun e w' => e = .returned (.bool (calmB lim (a, b))) ∧ Below w.heap.size w w' := by
  have HB := Lib.hid (show calmB lim (a, b) = (decide (-lim ≤ a) && decide (b ≤ lim)) from rfl)
  generalize calmB lim (a, b) = r at *
  have v : IntKind.i64.wrap (-lim) = -lim := IntWalk.i64_in _ (by omega)
  by_cases h : -lim ≤ a
  all_goals
    go_enter Try.func111, Try.ntmps111
    go_wp2
    all_goals go_ret
    all_goals exact ⟨ret_b (by rw [HB.out]; first | (simp [h]; done) | (simp [h]; omega) | (simp; intros; omega)), by focus ((repeat first | with_reducible exact Below.refl _ _ | (with_reducible refine Below.setCell ?_ ?_ _) | (with_reducible refine Below.alloc ?_ ?_ _) | (with_reducible refine below_drewN ?_ _) | (with_reducible refine Below.drew ?_)); all_goals (first | with_reducible exact Nat.le_refl _ | omega | (simp; done) | (simp; omega) | (omega) | ((try simp); omega)))⟩
set_option maxHeartbeats 1000000 in
theorem mayBeCalm_c (a b lim : Int) (w : World) (hl : 0 ≤ lim ∧ lim ≤ 1000) :
    Calls Try.prog 112 #[.agg #[.int .i64 a, .int .i64 b], .int .i64 lim] w fun e w' => e = .returned (.bool (mayB lim (a, b))) ∧ Below w.heap.size w w' := by
  have HB := Lib.hid (show mayB lim (a, b) = (decide (a ≤ lim) && decide (-lim ≤ b)) from rfl)
  generalize mayB lim (a, b) = r at *
  have v : IntKind.i64.wrap (-lim) = -lim := IntWalk.i64_in _ (by omega)
  by_cases h : a ≤ lim
  all_goals
    go_enter Try.func112, Try.ntmps112
    go_wp2
    all_goals go_ret
    all_goals exact ⟨ret_b (by rw [HB.out]; first | (simp [h]; done) | (simp [h]; omega) | (simp; intros; omega)), by focus ((repeat first | with_reducible exact Below.refl _ _ | (with_reducible refine Below.setCell ?_ ?_ _) | (with_reducible refine Below.alloc ?_ ?_ _) | (with_reducible refine below_drewN ?_ _) | (with_reducible refine Below.drew ?_)); all_goals (first | with_reducible exact Nat.le_refl _ | omega | (simp; done) | (simp; omega) | (omega) | ((try simp); omega)))⟩

set_option maxHeartbeats 4000000 in
set_option maxRecDepth 100000 in
theorem calmErr_c (l : List Rg) (A : Option Addr) (c : Nat) (lim len : Int) (w : World) (hn : l.length ≤ 9223372036854775807) (hs : SlV w A (l.flatMap rgV)) :
    Calls Try.prog 144 #[.slice A l.length c, .agg #[.int .i64 lim, .int .i64 len]] w fun e w' => e = .returned (.int .i64 (calmE l lim len)) ∧ Below w.heap.size w w' := by
  by_cases h60 : 60 < l.length
  · have HE := Lib.hid (show calmE l lim len = 8 from if_pos h60)
    have d1 : decide ((60 : Int) < (l.length : Int)) = true := decide_eq_true (by omega)
    clear hs
    generalize calmE l lim len = ce at *
    go_enter Try.func144, Try.ntmps144
    go_wp2
    go_ret
    exact ⟨ret_i (by rw [HE.out]), by focus ((repeat first | with_reducible exact Below.refl _ _ | (with_reducible refine Below.setCell ?_ ?_ _) | (with_reducible refine Below.alloc ?_ ?_ _) | (with_reducible refine below_drewN ?_ _) | (with_reducible refine Below.drew ?_)); all_goals (first | with_reducible exact Nat.le_refl _ | omega | (simp; done) | (simp; omega) | (omega) | ((try simp); omega)))⟩
  · have HE := Lib.hid (show calmE l lim len = if cErrL l ≠ 0 then cErrL l else unl (inB lim 0 1000 && inB len 1 60) 2 from if_neg h60)
    have d1 : decide ((60 : Int) < (l.length : Int)) = false := decide_eq_false (by omega)
    have hs := Lib.hid hs
    generalize calmE l lim len = ce at *
    go_enter Try.func144, Try.ntmps144
    go_wp2_with fail
    go_loopw [14] (fun i wr => ∃ k : Nat, k ≤ l.length ∧ i = .int .i64 k ∧ Hid (cErrL l = cErrL (l.drop k)) ∧ Box wr w.heap.size 102 #[.int .i64 lim, .int .i64 len] ∧ Below w.heap.size w wr) (fun i _ => l.length - (intOf i).toNat)
    case atStart => exact ⟨0, Nat.zero_le _, rfl, rfl, by focus (apply Box.via; apply Exists.intro; apply And.intro; (repeat first | with_reducible assumption | with_reducible exact Box.new _ _ _ | ((with_reducible apply Box.newAt); focus (simp; done)) | (with_reducible apply Box.drew) | (with_reducible apply Box.drewN) | (with_reducible apply Box.set) | (with_reducible apply Box.alloc) | (with_reducible apply Box.far)); all_goals (first | with_reducible exact Nat.le_refl _ | omega | (simp; done) | (simp; omega) | (omega) | ((try simp); omega))), by focus ((repeat first | with_reducible exact Below.refl _ _ | (with_reducible refine Below.setCell ?_ ?_ _) | (with_reducible refine Below.alloc ?_ ?_ _) | (with_reducible refine below_drewN ?_ _) | (with_reducible refine Below.drew ?_)); all_goals (first | with_reducible exact Nat.le_refl _ | omega | (simp; done) | (simp; omega) | (omega) | ((try simp); omega)))⟩
    case round =>
      obtain ⟨k, hk, rfl, hf, q, hB⟩ := hrel
      by_cases hlt : k < l.length
      · obtain ⟨bb, off, rfl, hbb, a0, a1⟩ := rg_cells (SlV.below hs.out hB) (List.getElem?_eq_getElem hlt)
        have D := Lib.hid (List.drop_eq_getElem_cons (l := l) hlt)
        generalize l[k] = r at *
        obtain ⟨a, b⟩ := r
        dsimp only at a0 a1
        have hlt' : (k : Int) < (l.length : Int) := by omega
        have hlq := q.lt
        have HF := Lib.hid (show cErrL ((a, b) :: l.drop (k + 1)) = if cErr1 (a, b) ≠ 0 then cErr1 (a, b) else cErrL (l.drop (k + 1)) from rfl)
        cases h1 : inB a (-1000) 1000
        · have HX := Lib.hid (show cErr1 (a, b) = fstE [unl false 2, unl (decide (a ≤ b)) 9] by unfold cErr1; rw [h1]; rfl)
          have e1 : (fstE [unl false 2, unl (decide (a ≤ b)) 9] != 0) = true := by simp [fst2, unl]
          have HZ := Lib.hid (show cErr1 (a, b) ≠ 0 by rw [HX.out]; simp [fst2, unl])
          generalize cErr1 (a, b) = ca at *
          go_upto_region 7 with (first | (go_at_call 81; refine (unless_c _ _ _).mono ?_; rintro e w' ⟨rfl, rfl⟩) | (go_at_call 91; refine (within_w _ _ _ _).mono ?_; rintro e w' ⟨rfl, rfl⟩) | (go_at_call 92; refine (isSized_c _ _ _ (by omega) (by omega)).mono ?_; rintro e w' ⟨rfl, rfl⟩) | fail)
          go_region_held3 (fun w' => w'.cell? ⟨wr.heap.size, 0, none⟩ = some (.int .i64 a) ∧ w'.cell? ⟨wr.heap.size, 1, none⟩ = some (.int .i64 b)) (go_keep) (first | (go_at_call 81; refine (unless_c _ _ _).mono ?_; rintro e w' ⟨rfl, rfl⟩) | (go_at_call 91; refine (within_w _ _ _ _).mono ?_; rintro e w' ⟨rfl, rfl⟩) | (go_at_call 92; refine (isSized_c _ _ _ (by omega) (by omega)).mono ?_; rintro e w' ⟨rfl, rfl⟩) | (go_at_call 84; (with_reducible refine (first2a _ _ _ _ _ (by simp)).mono ?_); rintro e w' ⟨rfl, rfl⟩) | (go_at_call 84; (with_reducible refine (first2d _ _ _ _ _ (by simp)).mono ?_); rintro e w' ⟨rfl, rfl⟩) | (go_at_call 84; (with_reducible refine (first2dd _ _ _ _ _ (by simp)).mono ?_); rintro e w' ⟨rfl, rfl⟩) | fail)
          all_goals go_wp2_with fail
          all_goals go_ret
          all_goals exact ⟨ret_i (by rw [HE.out, hf.out, D.out, HF.out, if_pos HZ.out, if_pos HZ.out, HX.out]), by focus ((repeat first | with_reducible exact Below.refl _ _ | (with_reducible refine Below.setCell ?_ ?_ _) | (with_reducible refine Below.alloc ?_ ?_ _) | (with_reducible refine below_drewN ?_ _) | (with_reducible refine Below.drew ?_) | (with_reducible refine Below.trans ?_ (Below.mono hB ?_))); all_goals (first | with_reducible exact Nat.le_refl _ | omega | (simp; done) | (simp; omega) | (have := hB.size; (try simp at this); omega) | (have := hB.size; (try simp at this); (try simp); omega)))⟩
        · have HX := Lib.hid (show cErr1 (a, b) = fstE [unl (inB b (-1000) 1000) 2, unl (decide (a ≤ b)) 9] by unfold cErr1; rw [h1]; rfl)
          generalize cErr1 (a, b) = ca at *
          go_upto_region 7 with (first | (go_at_call 81; refine (unless_c _ _ _).mono ?_; rintro e w' ⟨rfl, rfl⟩) | (go_at_call 91; refine (within_w _ _ _ _).mono ?_; rintro e w' ⟨rfl, rfl⟩) | (go_at_call 92; refine (isSized_c _ _ _ (by omega) (by omega)).mono ?_; rintro e w' ⟨rfl, rfl⟩) | fail)
          generalize inB b (-1000) 1000 = ib at *
          by_cases hz : fstE [unl ib 2, unl (decide (a ≤ b)) 9] = 0
          · have e1 : (fstE [unl ib 2, unl (decide (a ≤ b)) 9] != 0) = false := bneF hz
            have HZ := Lib.hid (show ¬ ca ≠ 0 by rw [HX.out, hz]; simp)
            clear hz
            go_region_held3 (fun w' => w'.cell? ⟨wr.heap.size, 0, none⟩ = some (.int .i64 a) ∧ w'.cell? ⟨wr.heap.size, 1, none⟩ = some (.int .i64 b)) (go_keep) (first | (go_at_call 81; refine (unless_c _ _ _).mono ?_; rintro e w' ⟨rfl, rfl⟩) | (go_at_call 91; refine (within_w _ _ _ _).mono ?_; rintro e w' ⟨rfl, rfl⟩) | (go_at_call 92; refine (isSized_c _ _ _ (by omega) (by omega)).mono ?_; rintro e w' ⟨rfl, rfl⟩) | (go_at_call 84; (with_reducible refine (first2a _ _ _ _ _ (by simp)).mono ?_); rintro e w' ⟨rfl, rfl⟩) | (go_at_call 84; (with_reducible refine (first2d _ _ _ _ _ (by simp)).mono ?_); rintro e w' ⟨rfl, rfl⟩) | (go_at_call 84; (with_reducible refine (first2dd _ _ _ _ _ (by simp)).mono ?_); rintro e w' ⟨rfl, rfl⟩) | fail)
            all_goals go_wp2_with fail
            all_goals go_roundw
            case' rel => refine ⟨k + 1, by omega, by go_num, by unfold Hid; rw [hf.out, D.out, HF.out, if_neg HZ.out], ?_, ?_⟩
            all_goals first | (focus (apply Box.via; apply Exists.intro; apply And.intro; (repeat first | with_reducible assumption | with_reducible exact Box.new _ _ _ | ((with_reducible apply Box.newAt); focus (simp; done)) | (with_reducible apply Box.drew) | (with_reducible apply Box.drewN) | (with_reducible apply Box.set) | (with_reducible apply Box.alloc) | (with_reducible apply Box.far)); all_goals (first | with_reducible exact Nat.le_refl _ | omega | (simp; done) | (simp; omega) | (omega) | ((try simp); omega)))) | (focus ((repeat first | with_reducible exact Below.refl _ _ | (with_reducible refine Below.setCell ?_ ?_ _) | (with_reducible refine Below.alloc ?_ ?_ _) | (with_reducible refine below_drewN ?_ _) | (with_reducible refine Below.drew ?_) | (with_reducible refine Below.trans ?_ (Below.mono hB ?_))); all_goals (first | with_reducible exact Nat.le_refl _ | omega | (simp; done) | (simp; omega) | (have := hB.size; (try simp at this); omega) | (have := hB.size; (try simp at this); (try simp); omega)))) | (simp [intOf]; omega)
          · have e1 : (fstE [unl ib 2, unl (decide (a ≤ b)) 9] != 0) = true := bneT hz
            have HZ := Lib.hid (show ca ≠ 0 by rw [HX.out]; exact hz)
            clear hz
            go_region_held3 (fun w' => w'.cell? ⟨wr.heap.size, 0, none⟩ = some (.int .i64 a) ∧ w'.cell? ⟨wr.heap.size, 1, none⟩ = some (.int .i64 b)) (go_keep) (first | (go_at_call 81; refine (unless_c _ _ _).mono ?_; rintro e w' ⟨rfl, rfl⟩) | (go_at_call 91; refine (within_w _ _ _ _).mono ?_; rintro e w' ⟨rfl, rfl⟩) | (go_at_call 92; refine (isSized_c _ _ _ (by omega) (by omega)).mono ?_; rintro e w' ⟨rfl, rfl⟩) | (go_at_call 84; (with_reducible refine (first2a _ _ _ _ _ (by simp)).mono ?_); rintro e w' ⟨rfl, rfl⟩) | (go_at_call 84; (with_reducible refine (first2d _ _ _ _ _ (by simp)).mono ?_); rintro e w' ⟨rfl, rfl⟩) | (go_at_call 84; (with_reducible refine (first2dd _ _ _ _ _ (by simp)).mono ?_); rintro e w' ⟨rfl, rfl⟩) | fail)
            all_goals go_wp2_with fail
            all_goals go_ret
            all_goals exact ⟨ret_i (by rw [HE.out, hf.out, D.out, HF.out, if_pos HZ.out, if_pos HZ.out, HX.out]), by focus ((repeat first | with_reducible exact Below.refl _ _ | (with_reducible refine Below.setCell ?_ ?_ _) | (with_reducible refine Below.alloc ?_ ?_ _) | (with_reducible refine below_drewN ?_ _) | (with_reducible refine Below.drew ?_) | (with_reducible refine Below.trans ?_ (Below.mono hB ?_))); all_goals (first | with_reducible exact Nat.le_refl _ | omega | (simp; done) | (simp; omega) | (have := hB.size; (try simp at this); omega) | (have := hB.size; (try simp at this); (try simp); omega)))⟩
      · obtain rfl : k = l.length := by omega
        have HZ := Lib.hid (show cErrL l = 0 by rw [hf.out, List.drop_length]; rfl)
        (have c0 := q.cell 0; have c1 := q.cell 1; simp at c0 c1; have hlq := q.lt)
        cases h1 : inB lim 0 1000
        all_goals
          go_wp2_with (first | (go_at_call 81; refine (unless_c _ _ _).mono ?_; rintro e w' ⟨rfl, rfl⟩) | (go_at_call 91; refine (within_w _ _ _ _).mono ?_; rintro e w' ⟨rfl, rfl⟩) | (go_at_call 92; refine (isSized_c _ _ _ (by omega) (by omega)).mono ?_; rintro e w' ⟨rfl, rfl⟩) | fail)
          go_ret
          exact ⟨ret_i (by rw [HE.out, HZ.out]; simp [h1]), by focus ((repeat first | with_reducible exact Below.refl _ _ | (with_reducible refine Below.setCell ?_ ?_ _) | (with_reducible refine Below.alloc ?_ ?_ _) | (with_reducible refine below_drewN ?_ _) | (with_reducible refine Below.drew ?_) | (with_reducible refine Below.trans ?_ (Below.mono hB ?_))); all_goals (first | with_reducible exact Nat.le_refl _ | omega | (simp; done) | (simp; omega) | (have := hB.size; (try simp at this); omega) | (have := hB.size; (try simp at this); (try simp); omega)))⟩

end Go.Proofs.Ytgbckdmhmkpahaa

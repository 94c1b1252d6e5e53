/-
  The reference's search (chapter 2): the walk of 'explored'.
-/
import Derived.Test.YtgbckdmhmkpahaaExp2
set_option linter.unusedVariables false
namespace Go.Proofs.Ytgbckdmhmkpahaa
open Go.RowKit Go.Shelf

def brkX : Option (Nat × Int) → Int × Int
  | none => (-1, 0)
  | some x => ((x.1 : Int), x.2)
/-- What the search has found, with its blocks. -/
def MS (T : List Int) (A : Option Addr) (c : Nat) (lo hi turn slew : Int) (N : Nat) (w : World) (X : FoundX) (g7 c7 g8 c8 g9 c9 gs : Nat) (W : World) : Prop :=
  MX T A c lo hi turn slew w.heap.size N w (X.1.map fun s => s.1) (X.1.map fun s => s.2.1) (X.1.map fun s => s.2.2) (X.1.map fun s => numS (T.length / 2 : Nat) lo hi s.1) g7 c7 g8 c8 g9 c9 gs W
theorem infoB4 : (Try.prog.info? 4).map (fun i => (i.zero, i.size, i.bytes)) = some (some (.bool false), 1, 1) := by kernel_rfl

theorem found0 {T : List Int} {lo hi : Int} (hodd : T.length % 2 = 1) (h5 : -4 ≤ lo ∧ lo ≤ 0) (h6 : 0 ≤ hi ∧ hi ≤ 4) : OkF T lo hi (toF ([((0, 0, 0), -1, 0)], none)) ∧ True := by
  refine ⟨⟨by simp [toF], ?_, ?_⟩, trivial⟩
  · intro s hs
    simp [toF] at hs
    subst hs
    dsimp only
    omega
  · intro j s hs
    match j, hs with
    | 0, hs =>
      simp [toF] at hs
      subst hs
      dsimp only
      omega
def brkN (X : FoundX) (i : Nat) (h : Int) : FoundX :=
  match X.2 with
  | none => (X.1, some (i, h))
  | some _ => X
theorem stepX_at {T : List Int} {slew h : Int} {X : FoundX} {i : Nat} {x1 x2 x3 bf hh : Int} (hs : X.1[i]? = some ((x1, x2, x3), bf, hh)) : stepX T slew i X h = if nxW T slew x1 x2 h = true then (if goS T slew (x1, x2, x3) h ∈ (X.1.map fun s => s.1) then X else (X.1 ++ [(goS T slew (x1, x2, x3) h, (i : Int), h)], X.2)) else brkN X i h := by
  unfold stepX brkN
  rw [hs]
  rfl
def ExpEnd (T : List Int) (lo hi turn slew : Int) (w : World) (e : Ending) (w' : World) : Prop :=
  ∃ (X : FoundX) (g7 c7 g8 c8 g9 c9 : Nat), e = .returned (.tuple #[.slice (some ⟨g7, 0, none⟩) X.1.length c7, .slice (some ⟨g8, 0, none⟩) X.1.length c8, .slice (some ⟨g9, 0, none⟩) X.1.length c9, .int .i64 (brkX X.2).1, .int .i64 (brkX X.2).2]) ∧ toF X = found T lo hi turn slew ∧ XOk X ∧
      SlV w' (some ⟨g7, 0, none⟩) ((X.1.map fun s => s.1).flatMap st3V) ∧ SlI w' (some ⟨g8, 0, none⟩) (X.1.map fun s => s.2.1) ∧ SlI w' (some ⟨g9, 0, none⟩) (X.1.map fun s => s.2.2) ∧ Below w.heap.size w w'

set_option maxHeartbeats 8000000 in
set_option maxRecDepth 100000 in
theorem explored_c (T : List Int) (A : Option Addr) (c : Nat) (lo hi turn slew : Int) (w : World) (hs : SlI w A T) (he : (chkL T lo hi turn slew).2 = 0) :
    Calls Try.prog 119 #[.agg #[.slice A T.length c, .int .i64 lo, .int .i64 hi, .int .i64 turn, .int .i64 slew]] w (ExpEnd T lo hi turn slew w) := by
  obtain ⟨k1, k2, k3, k4, k5, k6, k7⟩ := chkL_ok he
  have HS := Lib.hid hs
  have K3 := Lib.hid k3
  obtain ⟨N, hN⟩ : ∃ N : Nat, allN T.length lo hi = N := ⟨(allN T.length lo hi).toNat, by have := mul_bd (x := (T.length : Int) * 21) (h := hi - lo + 1) (by omega) (by omega); have h2 := num_rng k2 k5 k6 (st0_v (T := T) k5 k6); omega⟩
  have hN2 : (N : Int) ≤ 900000 := by rw [← hN]; exact (mul_bd (x := (T.length : Int) * 21) (h := hi - lo + 1) (by omega) (by omega)).2
  have hN3 : N ≤ 900000 := by omega
  have AL0 := fun W => all_c T A c lo hi turn slew W (by omega) k5 k6
  rw [hN] at AL0
  have AL := Lib.hid AL0
  have HN := Lib.hid hN
  have NU := Lib.hid (fun (a b e : Int) (hv : StV T lo hi (a, b, e)) W => number_c T A c lo hi turn slew a b e W (by omega) k5 k6 (by have := hv.1; have := hv.2.1; dsimp only at *; omega) (by have := hv.2.2.1; have := hv.2.2.2.1; dsimp only at *; omega) (by have := hv.2.2.2.2.1; have := hv.2.2.2.2.2; dsimp only at *; omega))
  obtain ⟨ib, hib, hzb, hsb, hbb⟩ := info_parts infoB4
  clear AL0 hs k3 hN he
  go_enter Try.func119, Try.ntmps119
  go_upto_region 4 with (first | (go_at_call 120; refine (AL.out _).mono ?_; rintro e w1 ⟨rfl, hb1⟩; (have hz1 : w.heap.size + 3 < w1.heap.size := (by have := hb1.size; (try simp at this); omega))) | (at_make; refine wpList_make_full _ rfl _ _ 181 rfl (w.heap.size + 1) 4 ib (.bool false) 1 Try.underlying181 hib hzb hsb .i64 .i64 _ _ N rfl rfl rfl rfl (by rw [hbb]; omega) (by unfold maxLen; omega) (by omega) ?_; intro w2 hown2 hgrow2) | fail)
  have hbm : Below w1.heap.size w1 w2 := (Below.refl _ w1).grown hgrow2 (Nat.le_refl _) (fun k e => nomatch e)
  have hB : Below w.heap.size w w2 := by focus ((repeat first | with_reducible exact Below.refl _ _ | (with_reducible refine Below.setCell ?_ ?_ _) | (with_reducible refine Below.alloc ?_ ?_ _) | (with_reducible refine below_drewN ?_ _) | (with_reducible refine Below.drew ?_) | (with_reducible refine Below.trans ?_ (Below.mono hb1 ?_)) | (with_reducible refine Below.trans ?_ (Below.mono hbm ?_))); all_goals (first | with_reducible exact Nat.le_refl _ | omega | (simp; done) | (simp; omega) | (have := hb1.size; (try simp at this); have := hbm.size; (try simp at this); omega) | (have := hb1.size; (try simp at this); have := hbm.size; (try simp at this); (try simp); omega)))
  have b0 : Box w2 w.heap.size 26 #[.slice A T.length c, .int .i64 lo, .int .i64 hi, .int .i64 turn, .int .i64 slew] := by focus (apply Box.via; apply Exists.intro; apply And.intro; (repeat first | with_reducible assumption | with_reducible exact Box.new _ _ _ | ((with_reducible apply Box.newAt); focus (simp; done)) | (with_reducible apply Box.drew) | (with_reducible apply Box.drewN) | (with_reducible apply Box.set) | (with_reducible apply Box.alloc) | (with_reducible apply Box.far) | (with_reducible apply Box.below (hb := hb1)) | (with_reducible apply Box.below (hb := hbm))); all_goals (first | with_reducible exact Nat.le_refl _ | omega | (simp; done) | (simp; omega) | (have := hb1.size; (try simp at this); have := hbm.size; (try simp at this); omega) | (have := hb1.size; (try simp at this); have := hbm.size; (try simp at this); (try simp); omega)))
  have b1 : Box w2 (w.heap.size + 1) 42 #[.int .i64 0, .int .i64 0, .int .i64 0] := by focus (apply Box.via; apply Exists.intro; apply And.intro; (repeat first | with_reducible assumption | with_reducible exact Box.new _ _ _ | ((with_reducible apply Box.newAt); focus (simp; done)) | (with_reducible apply Box.drew) | (with_reducible apply Box.drewN) | (with_reducible apply Box.set) | (with_reducible apply Box.alloc) | (with_reducible apply Box.far) | (with_reducible apply Box.below (hb := hb1)) | (with_reducible apply Box.below (hb := hbm))); all_goals (first | with_reducible exact Nat.le_refl _ | omega | (simp; done) | (simp; omega) | (have := hb1.size; (try simp at this); have := hbm.size; (try simp at this); omega) | (have := hb1.size; (try simp at this); have := hbm.size; (try simp at this); (try simp); omega)))
  have b2 : Box w2 (w.heap.size + 2) 3 #[.int .i64 (-1)] := by focus (apply Box.via; apply Exists.intro; apply And.intro; (repeat first | with_reducible assumption | with_reducible exact Box.new _ _ _ | ((with_reducible apply Box.newAt); focus (simp; done)) | (with_reducible apply Box.drew) | (with_reducible apply Box.drewN) | (with_reducible apply Box.set) | (with_reducible apply Box.alloc) | (with_reducible apply Box.far) | (with_reducible apply Box.below (hb := hb1)) | (with_reducible apply Box.below (hb := hbm))); all_goals (first | with_reducible exact Nat.le_refl _ | omega | (simp; done) | (simp; omega) | (have := hb1.size; (try simp at this); have := hbm.size; (try simp at this); omega) | (have := hb1.size; (try simp at this); have := hbm.size; (try simp at this); (try simp); omega)))
  have b3 : Box w2 (w.heap.size + 3) 3 #[.int .i64 0] := by focus (apply Box.via; apply Exists.intro; apply And.intro; (repeat first | with_reducible assumption | with_reducible exact Box.new _ _ _ | ((with_reducible apply Box.newAt); focus (simp; done)) | (with_reducible apply Box.drew) | (with_reducible apply Box.drewN) | (with_reducible apply Box.set) | (with_reducible apply Box.alloc) | (with_reducible apply Box.far) | (with_reducible apply Box.below (hb := hb1)) | (with_reducible apply Box.below (hb := hbm))); all_goals (first | with_reducible exact Nat.le_refl _ | omega | (simp; done) | (simp; omega) | (have := hb1.size; (try simp at this); have := hbm.size; (try simp at this); omega) | (have := hb1.size; (try simp at this); have := hbm.size; (try simp at this); (try simp); omega)))
  have bs : Box w2 w1.heap.size 4 (marks N []).toArray := by
    have := own_box hown2
    rw [show (Value.bool false).cells = #[Value.bool false] from rfl, toList_madeCells_one, Nat.mul_one] at this
    rw [show marks N [] = List.replicate N (Value.bool false) from by simp [marks, List.map_const']]
    exact this
  have hgs : w.heap.size + 3 < w1.heap.size := hz1
  have M0 : MX T A c lo hi turn slew w.heap.size N w [(0, 0, 0)] [-1] [0] [] (w.heap.size + 1) 1 (w.heap.size + 2) 1 (w.heap.size + 3) 1 w1.heap.size w2 :=
    ⟨b0, own_of_box b1 (Nat.le_refl _) (by unfold maxLen; simp) rfl, own_of_box b2 (by omega) (by unfold maxLen; simp) rfl, own_of_box b3 (by omega) (by unfold maxLen; simp) rfl, bs, by omega, hB⟩
  clear hb1 hbm hown2 hgrow2 b2 b3 AL hib hzb hsb hbb hz1
  generalize w1.heap.size = gs at *
  obtain ⟨hv0, hk0⟩ : StV T lo hi (0, 0, 0) ∧ ∃ kk : Nat, numS (T.length / 2 : Nat) lo hi (0, 0, 0) = kk := ⟨st0_v k5 k6, _, (Int.toNat_of_nonneg (num_rng k2 k5 k6 (st0_v (T := T) k5 k6)).1).symm⟩
  obtain ⟨kk, hk0⟩ := hk0
  have hk0N : kk < N := by have h2 := (num_rng k2 k5 k6 hv0).2; rw [hk0, HN.out] at h2; omega
  have NU0 := NU.out 0 0 0 hv0
  rw [hk0] at NU0
  have N0 := Lib.hid NU0
  have HK0 := Lib.hid hk0
  clear NU0 hk0
  have M1 := M0.mark hk0N
  have c00 := b0.cell 0; have c01 := b0.cell 1; have c02 := b0.cell 2; have c03 := b0.cell 3; have c04 := b0.cell 4
  have a0 := b1.cell 0; have a1 := b1.cell 1; have a2 := b1.cell 2
  simp at c00 c01 c02 c03 c04 a0 a1 a2
  have l0 := b0.lt; have l1 := b1.lt; have lg := bs.lt
  have y0 : w2.cell? ⟨gs, kk, none⟩ = some (.bool false) := by have := bs.cell kk; simpa [marks_get hk0N] using this
  have yf := bs.froz
  have : w.heap.size ≠ gs := (by omega); have : gs ≠ w.heap.size := (by omega)
  have : w.heap.size + 1 ≠ gs := (by omega); have : gs ≠ w.heap.size + 1 := (by omega)
  go_cut [] (fun wx => MX T A c lo hi turn slew w.heap.size N w [(0, 0, 0)] [-1] [0] [(kk : Int)] (w.heap.size + 1) 1 (w.heap.size + 2) 1 (w.heap.size + 3) 1 gs wx)
  case first => as_aux_lemma =>
    go_region_held3 (fun w' => w'.cell? ⟨w.heap.size, 0, none⟩ = some (.slice A T.length c) ∧ w'.cell? ⟨w.heap.size, 1, none⟩ = some (.int .i64 lo) ∧ w'.cell? ⟨w.heap.size, 2, none⟩ = some (.int .i64 hi) ∧ w'.cell? ⟨w.heap.size, 3, none⟩ = some (.int .i64 turn) ∧ w'.cell? ⟨w.heap.size, 4, none⟩ = some (.int .i64 slew) ∧ w'.cell? ⟨w.heap.size + 1, 0, none⟩ = some (.int .i64 0) ∧ w'.cell? ⟨w.heap.size + 1, 1, none⟩ = some (.int .i64 0) ∧ w'.cell? ⟨w.heap.size + 1, 2, none⟩ = some (.int .i64 0)) (go_keep) (first | (go_at_call 121; refine (N0.out _).mono ?_; rintro e w3 ⟨rfl, hb3⟩; (have hz3 : w2.heap.size ≤ w3.heap.size := (by have := hb3.size; (try simp at this); omega)); have k0 := ((hb3).cell (p := ⟨w.heap.size, 0, none⟩) (by simp; omega)).trans (show _ = some (Value.slice A T.length c) from by simp [go_sem, *]); have k1 := ((hb3).cell (p := ⟨w.heap.size, 1, none⟩) (by simp; omega)).trans (show _ = some (Value.int .i64 lo) from by simp [go_sem, *]); have k2 := ((hb3).cell (p := ⟨w.heap.size, 2, none⟩) (by simp; omega)).trans (show _ = some (Value.int .i64 hi) from by simp [go_sem, *]); have k3 := ((hb3).cell (p := ⟨w.heap.size, 3, none⟩) (by simp; omega)).trans (show _ = some (Value.int .i64 turn) from by simp [go_sem, *]); have k4 := ((hb3).cell (p := ⟨w.heap.size, 4, none⟩) (by simp; omega)).trans (show _ = some (Value.int .i64 slew) from by simp [go_sem, *]); have k5 := ((hb3).cell (p := ⟨w.heap.size + 1, 0, none⟩) (by simp; omega)).trans (show _ = some (Value.int .i64 0) from by simp [go_sem, *]); have k6 := ((hb3).cell (p := ⟨w.heap.size + 1, 1, none⟩) (by simp; omega)).trans (show _ = some (Value.int .i64 0) from by simp [go_sem, *]); have k7 := ((hb3).cell (p := ⟨w.heap.size + 1, 2, none⟩) (by simp; omega)).trans (show _ = some (Value.int .i64 0) from by simp [go_sem, *]); have k8 := ((hb3).cell (p := ⟨gs, kk, none⟩) (by simp; omega)).trans (show _ = some (Value.bool false) from by simp [go_sem, *]); (have yf3 : ∀ o, w3.frozen? ⟨gs, o, none⟩ = false := (fun o => (hb3.frozen (p := ⟨gs, o, none⟩) (by simp; omega)).trans (yf o))); (have hlg3 : gs < w3.heap.size := by omega)) | fail)
    all_goals go_wp2_with fail
    all_goals go_meet
    all_goals exact (M0.keep (by focus ((repeat first | with_reducible exact Below.refl _ _ | (with_reducible refine Below.setCell ?_ ?_ _) | (with_reducible refine Below.alloc ?_ ?_ _) | (with_reducible refine below_drewN ?_ _) | (with_reducible refine Below.drew ?_) | (with_reducible refine Below.trans ?_ (Below.mono hb3 ?_))); all_goals (first | with_reducible exact Nat.le_refl _ | omega | (simp; done) | (simp; omega) | (have := hb3.size; (try simp at this); omega) | (have := hb3.size; (try simp at this); (try simp); omega))))).mark hk0N
  case rest =>
    have S0 : MS T A c lo hi turn slew N w ([((0, 0, 0), -1, 0)], none) (w.heap.size + 1) 1 (w.heap.size + 2) 1 (w.heap.size + 3) 1 gs wc := by
      unfold MS
      have := hcut
      rw [← HK0.out] at this
      exact this
    obtain ⟨hF0, _⟩ := found0 (T := T) k2 k5 k6
    have hr0 : Hid (rounds T lo hi turn slew (2080 - 0) 0 (toF ([((0, 0, 0), -1, 0)], none)) = found T lo hi turn slew) := rfl
    have hx0 : Hid (XOk ([((0, 0, 0), -1, 0)], none)) := fun x h => nomatch h
    have hf0 := Lib.hid hF0
    clear hcut M0 M1 c00 c01 c02 c03 c04 a0 a1 a2 y0 yf b0 b1 bs l0 l1 lg N0 HK0 hF0 hB hv0 hk0N
    clear kk hgs
    generalize wc = W0 at *
    go_wp2_with fail
    go_loopw [7, 8, 9, 11, 12, 13] (fun v7 v8 v9 v11 v12 v13 wr => ∃ (X : FoundX) (i g7 c7 g8 c8 g9 c9 : Nat), v7 = .slice (some ⟨g7, 0, none⟩) X.1.length c7 ∧ v8 = .slice (some ⟨g8, 0, none⟩) X.1.length c8 ∧ v9 = .slice (some ⟨g9, 0, none⟩) X.1.length c9 ∧ v11 = .int .i64 (brkX X.2).1 ∧ v12 = .int .i64 (brkX X.2).2 ∧ v13 = .int .i64 (i : Int) ∧ i ≤ X.1.length ∧ Hid (rounds T lo hi turn slew (2080 - i) i (toF X) = found T lo hi turn slew) ∧ Hid (OkF T lo hi (toF X)) ∧ Hid (XOk X) ∧ MS T A c lo hi turn slew N w X g7 c7 g8 c8 g9 c9 gs wr) (fun _ _ _ _ _ v13 _ => 2080 - (intOf v13).toNat)
    case atStart => exact ⟨([((0, 0, 0), -1, 0)], none), 0, _, _, _, _, _, _, rfl, rfl, rfl, rfl, rfl, rfl, Nat.zero_le _, hr0, hf0, hx0, S0⟩
    case round =>
      clear S0 hf0 hx0 hr0
      obtain ⟨X, i, g7, c7, g8, c8, g9, c9, rfl, rfl, rfl, rfl, rfl, rfl, hiX, hr, hf, hx, hM⟩ := hrel
      have hM' := hM
      obtain ⟨b0, o7, o8, o9, bs, hne, hB⟩ := hM'
      have h2079 : X.1.length ≤ 2079 := hf.out.length k1 k5.1 k6.2
      have c00 := b0.cell 0; have c01 := b0.cell 1; have c02 := b0.cell 2; have c03 := b0.cell 3; have c04 := b0.cell 4
      simp at c00 c01 c02 c03 c04
      have l0 := b0.lt
      by_cases hlt : i < X.1.length
      · have hsi := List.getElem?_eq_getElem hlt
        have hv := hf.out.box _ (List.getElem_mem hlt)
        have HSI := Lib.hid hsi
        have h7 : (X.1.map fun s => s.1)[i]? = some X.1[i].1 := by simp [hsi]
        obtain ⟨b7, off7, e7, hb7, a0, a1, a2⟩ := ev_cells (slv_own (k := 3) (by decide) o7) h7
        have e7' : g7 = b7 ∧ 0 = off7 := by simpa using e7
        obtain ⟨rfl, rfl⟩ := e7'
        obtain ⟨j, hj⟩ : ∃ j, 2080 - i = j + 1 := ⟨2079 - i, by omega⟩
        have hr1 := hr.out
        rw [hj, rounds, if_pos (show i < (toF X).1.length from hlt)] at hr1
        have HR := Lib.hid hr1
        have HJ := Lib.hid hj
        clear hr hr1 hj h7 hsi e7
        generalize X.1[i] = s at *
        obtain ⟨⟨x1, x2, x3⟩, bf, hh⟩ := s
        dsimp only at a0 a1 a2 hv
        have hlt' : (i : Int) < (X.1.length : Int) := by omega
        have w1 : IntKind.i64.wrap (x3 - turn) = x3 - turn := IntWalk.i64_in _ (by omega)
        have w2 : IntKind.i64.wrap (x3 + turn) = x3 + turn := IntWalk.i64_in _ (by omega)
        obtain ⟨a, ha⟩ : ∃ a, hvA lo turn x3 = a := ⟨_, rfl⟩
        obtain ⟨b, hb⟩ : ∃ b, hvB hi turn x3 = b := ⟨_, rfl⟩
        simp only [Nat.zero_add] at a0 a1 a2
        go_upto_region 9 with fail
        go_cut [14] (fun s14 wx => s14 = .int .i64 a ∧ Below wr.heap.size wr wx)
        case first =>
          go_quiet (fail)
          go_wp2_with fail
          go_meet
          exact ⟨vint (by rw [← ha]; unfold hvA; omega), below_drewN (Below.refl _ _) _⟩
        case rest =>
          obtain ⟨rfl, hbC⟩ := hcut
          have hM1 := hM.keep hbC
          have ha1 : lo ≤ a ∧ x3 - turn ≤ a ∧ (a ≤ lo ∨ a ≤ x3 - turn) := by rw [← ha]; unfold hvA; omega
          have hb1 : b ≤ hi ∧ b ≤ x3 + turn ∧ (hi ≤ b ∨ x3 + turn ≤ b) := by rw [← hb]; unfold hvB; omega
          have hl0 : hvsOf lo hi turn (x1, x2, x3) = hvL a (b - a + 1).toNat := by unfold hvsOf; rw [ha, hb]
          obtain ⟨F1, hF1⟩ : ∃ F1, roundH T lo hi turn slew i (toF X) = F1 := ⟨_, rfl⟩
          have hrd : roundH T lo hi turn slew i (toF X) = ((hvL a (b - a + 1).toNat).drop 0).foldl (stepH T slew i) (toF X) := by
            unfold roundH
            rw [show (toF X).1[i]? = some ((x1, x2, x3), bf, hh) from HSI.out]
            dsimp only
            rw [ha, hb]; rfl
          have hr2 : Hid (((hvL a (b - a + 1).toNat).drop 0).foldl (stepH T slew i) (toF X) = F1) := hrd.symm.trans hF1
          rw [hF1] at HR
          clear hM b0 o7 o8 o9 bs hne hB c00 c01 c02 c03 c04 a0 a1 a2 l0 w1 ha hb hl0 hF1 hrd hbC hb7 hlt'
          generalize wc = W1 at *
          go_wp2_with fail
          go_loopw [7, 8, 9, 11, 12, 14] (fun v7 v8 v9 v11 v12 v14 wr => ∃ (X : FoundX) (m g7 c7 g8 c8 g9 c9 : Nat), v7 = .slice (some ⟨g7, 0, none⟩) X.1.length c7 ∧ v8 = .slice (some ⟨g8, 0, none⟩) X.1.length c8 ∧ v9 = .slice (some ⟨g9, 0, none⟩) X.1.length c9 ∧ v11 = .int .i64 (brkX X.2).1 ∧ v12 = .int .i64 (brkX X.2).2 ∧ v14 = .int .i64 (a + (m : Int)) ∧ m ≤ (b - a + 1).toNat ∧ i < X.1.length ∧ Hid (X.1[i]? = some ((x1, x2, x3), bf, hh)) ∧ Hid (((hvL a (b - a + 1).toNat).drop m).foldl (stepH T slew i) (toF X) = F1) ∧ Hid (OkF T lo hi (toF X)) ∧ Hid (XOk X) ∧ MS T A c lo hi turn slew N w X g7 c7 g8 c8 g9 c9 gs wr) (fun _ _ _ _ _ v14 _ => (b + 1 - intOf v14).toNat)
          case atStart => exact ⟨X, 0, g7, c7, g8, c8, g9, c9, rfl, rfl, rfl, rfl, rfl, by simp, Nat.zero_le _, hlt, HSI, hr2, hf, hx, hM1⟩
          case round =>
            clear hM1 hr2 hf hx HSI h2079 hlt hiX
            obtain ⟨X, m, g7, c7, g8, c8, g9, c9, rfl, rfl, rfl, rfl, rfl, rfl, hm, hlt, HSI, hr, hf, hx, hM⟩ := hrel
            have hM' := hM
            obtain ⟨b0, o7, o8, o9, bs, hne, hB⟩ := hM'
            have h2079 : X.1.length ≤ 2079 := hf.out.length k1 k5.1 k6.2
            have c00 := b0.cell 0; have c01 := b0.cell 1; have c02 := b0.cell 2; have c03 := b0.cell 3; have c04 := b0.cell 4
            simp at c00 c01 c02 c03 c04
            have l0 := b0.lt
            have h7 : (X.1.map fun s => s.1)[i]? = some (x1, x2, x3) := by rw [List.getElem?_map, HSI.out]; rfl
            obtain ⟨b7, off7, e7, hb7, a0, a1, a2⟩ := ev_cells (slv_own (k := 3) (by decide) o7) h7
            have e7' : g7 = b7 ∧ 0 = off7 := by simpa using e7
            obtain ⟨rfl, rfl⟩ := e7'
            clear h7 e7
            simp only [Nat.zero_add] at a0 a1 a2
            have hlt' : (i : Int) < (X.1.length : Int) := by omega
            by_cases hle : a + (m : Int) ≤ b
            · go_upto_region 10 with fail
              go_cut [62] (fun s62 wx => s62 = .bool true ∧ Below wr.heap.size wr wx)
              case first =>
                go_quiet (fail)
                all_goals go_wp2_with fail
                all_goals go_meet
                all_goals exact ⟨vbool (decide_eq_true (by omega)), below_drewN (Below.refl _ _) _⟩
              case rest =>
                obtain ⟨rfl, hbC⟩ := hcut
                have hM2 := hM.keep hbC
                obtain ⟨h, hh'⟩ : ∃ h, a + (m : Int) = h := ⟨_, rfl⟩
                have hmc : m < (b - a + 1).toNat := by omega
                have hdr : (hvL a (b - a + 1).toNat).drop m = h :: (hvL a (b - a + 1).toNat).drop (m + 1) := by
                  rw [List.drop_eq_getElem_cons (by rw [hvL_len]; exact hmc)]
                  congr 1
                  simp only [hvL, List.getElem_map, List.getElem_range]
                  exact hh'
                have hst := stepX_F (T := T) (slew := slew) (i := i) (h := h) hf.out.ear hx.out
                have hok := hf.out.step (slew := slew) (i := i) (x := h) K3.out k4.1 k2 (by omega) (by omega) hlt
                rw [← hst.1] at hok
                have hr3 : ((hvL a (b - a + 1).toNat).drop (m + 1)).foldl (stepH T slew i) (toF (stepX T slew i X h)) = F1 := by
                  rw [hst.1, ← hr.out, hdr]; rfl
                have HX := Lib.hid (hst.2 hlt)
                have HO := Lib.hid hok
                have HR3 := Lib.hid hr3
                have HSX := Lib.hid (stepX_at (T := T) (slew := slew) (h := h) HSI.out)
                have HNV := Lib.hid (show nxW T slew x1 x2 h = true → StV T lo hi (goS T slew (x1, x2, x3) h) from fun hw => by
                  have h3' := inB_true.1 (show inB (nxE T slew x1 x2 h) (-(T.length / 2 : Nat)) (T.length / 2 : Nat) = true by simpa [nxW] using hw)
                  have hb' := nxC_box (T := T) (slew := slew) (e := x1) (cmd := x2) K3.out k4.1 (by omega) (by omega) (by omega) (by omega)
                  exact ⟨h3'.1, h3'.2, hb'.1, hb'.2, by show lo ≤ h; omega, by show h ≤ hi; omega⟩)
                have NX := Lib.hid (fun W h' => refNext_c T A c lo hi turn slew x1 x2 x3 h W (by omega) h' (fun y hy => by have := K3.out y hy; omega) (by omega) (by omega) (by omega) (by omega) (by omega) (by omega))
                have HG := Lib.hid (show goS T slew (x1, x2, x3) h = (nxE T slew x1 x2 h, nxC T slew x1 x2, h) from rfl)
                have hcells := Lib.hid (fun s (hs : s ∈ X.1) => (show StV T lo hi s.1 from by have := hf.out.box s hs; exact ⟨by omega, by omega, by omega, by omega, by omega, by omega⟩))
                have hHE : h ≤ b ∧ a ≤ h := by omega
                rw [HG.out] at HSX HNV
                clear hst hok hr3 hdr hr hf hx HG hM b0 o7 o8 o9 bs hne hB c00 c01 c02 c03 c04 a0 a1 a2 l0 hbC hb7
                generalize nxE T slew x1 x2 h = n1 at *
                generalize nxC T slew x1 x2 = n2 at *
                generalize nxW T slew x1 x2 h = nW at *
                generalize stepX T slew i X h = X' at *
                rw [hh']
                generalize wc = W2 at *
                have hM' := hM2
                obtain ⟨b0, o7, o8, o9, bs, hne, hB⟩ := hM'
                have c00 := b0.cell 0; have c01 := b0.cell 1; have c02 := b0.cell 2; have c03 := b0.cell 3; have c04 := b0.cell 4
                simp at c00 c01 c02 c03 c04
                have l0 := b0.lt
                have h7 : (X.1.map fun s => s.1)[i]? = some (x1, x2, x3) := by rw [List.getElem?_map, HSI.out]; rfl
                obtain ⟨b7, off7, e7, hb7, a0, a1, a2⟩ := ev_cells (slv_own (k := 3) (by decide) o7) h7
                have e7' : g7 = b7 ∧ 0 = off7 := by simpa using e7
                obtain ⟨rfl, rfl⟩ := e7'
                clear h7 e7
                simp only [Nat.zero_add] at a0 a1 a2
                go_upto_region 12 with fail
                go_cut [15, 16] (fun s15 s16 wx => ∃ f, s15 = .pointer (some ⟨f, 0, none⟩) ∧ s16 = .bool nW ∧ Box wx f 42 #[.int .i64 n1, .int .i64 n2, .int .i64 h] ∧ Below W2.heap.size W2 wx)
                case first => as_aux_lemma =>
                  have : w.heap.size ≠ W2.heap.size := (by omega); have : W2.heap.size ≠ w.heap.size := (by omega)
                  have : g7 ≠ W2.heap.size := (by omega); have : W2.heap.size ≠ g7 := (by omega)
                  go_region_held3 (fun w' => w'.cell? ⟨w.heap.size, 0, none⟩ = some (.slice A T.length c) ∧ w'.cell? ⟨w.heap.size, 1, none⟩ = some (.int .i64 lo) ∧ w'.cell? ⟨w.heap.size, 2, none⟩ = some (.int .i64 hi) ∧ w'.cell? ⟨w.heap.size, 3, none⟩ = some (.int .i64 turn) ∧ w'.cell? ⟨w.heap.size, 4, none⟩ = some (.int .i64 slew) ∧ w'.cell? ⟨g7, i * 3, none⟩ = some (.int .i64 x1) ∧ w'.cell? ⟨g7, i * 3 + 1, none⟩ = some (.int .i64 x2) ∧ w'.cell? ⟨g7, i * 3 + 2, none⟩ = some (.int .i64 x3)) (go_keep) (first | (go_at_call 109; refine (NX.out _ (SlI.below HS.out (by focus ((repeat first | with_reducible exact Below.refl _ _ | (with_reducible refine Below.setCell ?_ ?_ _) | (with_reducible refine Below.alloc ?_ ?_ _) | (with_reducible refine below_drewN ?_ _) | (with_reducible refine Below.drew ?_) | (with_reducible refine Below.trans ?_ (Below.mono hB ?_))); all_goals (first | with_reducible exact Nat.le_refl _ | omega | (simp; done) | (simp; omega) | (have := hB.size; (try simp at this); omega) | (have := hB.size; (try simp at this); (try simp); omega)))))).mono ?_; rintro e w3 ⟨rfl, hb2⟩; have hz2 : W2.heap.size ≤ w3.heap.size := (by have := hb2.size; (try simp at this); omega); have : w.heap.size ≠ w3.heap.size := (by omega); have : w3.heap.size ≠ w.heap.size := (by omega); have : g7 ≠ w3.heap.size := (by omega); have : w3.heap.size ≠ g7 := (by omega); have k0 := ((hb2).cell (p := ⟨w.heap.size, 0, none⟩) (by simp; omega)).trans (show _ = some (Value.slice A T.length c) from by simp [go_sem, *]); have k1 := ((hb2).cell (p := ⟨w.heap.size, 1, none⟩) (by simp; omega)).trans (show _ = some (Value.int .i64 lo) from by simp [go_sem, *]); have k2 := ((hb2).cell (p := ⟨w.heap.size, 2, none⟩) (by simp; omega)).trans (show _ = some (Value.int .i64 hi) from by simp [go_sem, *]); have k3 := ((hb2).cell (p := ⟨w.heap.size, 3, none⟩) (by simp; omega)).trans (show _ = some (Value.int .i64 turn) from by simp [go_sem, *]); have k4 := ((hb2).cell (p := ⟨w.heap.size, 4, none⟩) (by simp; omega)).trans (show _ = some (Value.int .i64 slew) from by simp [go_sem, *]); have k5 := ((hb2).cell (p := ⟨g7, i * 3, none⟩) (by simp; omega)).trans (show _ = some (Value.int .i64 x1) from by simp [go_sem, *]); have k6 := ((hb2).cell (p := ⟨g7, i * 3 + 1, none⟩) (by simp; omega)).trans (show _ = some (Value.int .i64 x2) from by simp [go_sem, *]); have k7 := ((hb2).cell (p := ⟨g7, i * 3 + 2, none⟩) (by simp; omega)).trans (show _ = some (Value.int .i64 x3) from by simp [go_sem, *]); (first | (refine (have bx : Box w3 (W2.heap.size) 42 #[.int .i64 0, .int .i64 0, .int .i64 0] := ?_; ?_); (focus (apply Box.via; apply Exists.intro; apply And.intro; (repeat first | with_reducible assumption | with_reducible exact Box.new _ _ _ | ((with_reducible apply Box.newAt); focus (simp; done)) | (with_reducible apply Box.drew) | (with_reducible apply Box.drewN) | (with_reducible apply Box.set) | (with_reducible apply Box.alloc) | (with_reducible apply Box.far) | (with_reducible apply Box.below (hb := hb2))); all_goals (first | with_reducible exact Nat.le_refl _ | omega | (simp; done) | (simp; omega) | (have := hb2.size; (try simp at this); omega) | (have := hb2.size; (try simp at this); (try simp); omega)))); have := bx.lt; have : (w3).cell? ⟨W2.heap.size, 0, none⟩ = some (.int .i64 0) := bx.cell 0; have : (w3).cell? ⟨W2.heap.size, 1, none⟩ = some (.int .i64 0) := bx.cell 1; have : (w3).cell? ⟨W2.heap.size, 2, none⟩ = some (.int .i64 0) := bx.cell 2; have : ∀ o, (w3).frozen? ⟨W2.heap.size, o, none⟩ = false := bx.froz) | skip)) | fail)
                  all_goals go_wp2_with fail
                  all_goals go_meet
                  all_goals refine ⟨_, rfl, rfl, ?_, ?_⟩
                  all_goals first | (focus (apply Box.via; apply Exists.intro; apply And.intro; (repeat first | with_reducible assumption | with_reducible exact Box.new _ _ _ | ((with_reducible apply Box.newAt); focus (simp; done)) | (with_reducible apply Box.drew) | (with_reducible apply Box.drewN) | (with_reducible apply Box.set) | (with_reducible apply Box.alloc) | (with_reducible apply Box.far) | (with_reducible apply Box.below (hb := hb2))); all_goals (first | with_reducible exact Nat.le_refl _ | omega | (simp; done) | (simp; omega) | (have := hb2.size; (try simp at this); omega) | (have := hb2.size; (try simp at this); (try simp); omega)))) | (focus ((repeat first | with_reducible exact Below.refl _ _ | (with_reducible refine Below.setCell ?_ ?_ _) | (with_reducible refine Below.alloc ?_ ?_ _) | (with_reducible refine below_drewN ?_ _) | (with_reducible refine Below.drew ?_) | (with_reducible refine Below.trans ?_ (Below.mono hb2 ?_))); all_goals (first | with_reducible exact Nat.le_refl _ | omega | (simp; done) | (simp; omega) | (have := hb2.size; (try simp at this); omega) | (have := hb2.size; (try simp at this); (try simp); omega))))
                case rest =>
                  obtain ⟨f, rfl, rfl, hF, hC⟩ := hcut
                  have hM3 := hM2.keep hC
                  clear hM2 b0 o7 o8 o9 bs hne hB c00 c01 c02 c03 c04 a0 a1 a2 l0 hC hb7 NX
                  generalize wc = W3 at *
                  obtain ⟨p1, hp1⟩ : ∃ p1, (brkX X.2).1 = p1 := ⟨_, rfl⟩
                  obtain ⟨p2, hp2⟩ : ∃ p2, (brkX X.2).2 = p2 := ⟨_, rfl⟩
                  rw [hp1, hp2]
                  have P1 := Lib.hid hp1; have P2 := Lib.hid hp2
                  clear hp1 hp2
                  cases nW with
                  | false =>
                    have hsx : X' = brkN X i h := by have := HSX.out; simpa using this
                    have HSX2 := Lib.hid hsx
                    clear hsx HSX HNV hcells
                    cases ho : X.2 with
                    | none =>
                      have q1 : p1 = -1 := by rw [← P1.out, ho]; rfl
                      have hx' : X' = (X.1, some (i, h)) := by rw [HSX2.out]; unfold brkN; rw [ho]
                      subst hx'
                      subst q1
                      clear ho P1 P2 HSX2
                      go_wp2_with fail
                      go_roundw
                      case rel => exact ⟨(X.1, some (i, h)), m + 1, g7, c7, g8, c8, g9, c9, rfl, rfl, rfl, rfl, rfl, vint (by omega), by omega, hlt, HSI, HR3, HO, HX, hM3⟩
                      case measure => simp [intOf]; omega
                    | some y =>
                      have q1 : ¬ p1 < 0 := by rw [← P1.out, ho]; unfold brkX; dsimp only; omega
                      have hx' : X' = X := by rw [HSX2.out]; unfold brkN; rw [ho]
                      subst hx'
                      clear ho HSX2
                      go_wp2_with fail
                      go_roundw
                      case rel => exact ⟨X', m + 1, g7, c7, g8, c8, g9, c9, rfl, rfl, rfl, vint P1.out.symm, vint P2.out.symm, vint (by omega), by omega, hlt, HSI, HR3, HO, HX, hM3⟩
                      case measure => simp [intOf]; omega
                  | true =>
                    have hnv := HNV.out rfl
                    obtain ⟨hg0, hg1⟩ := num_rng k2 k5 k6 hnv
                    obtain ⟨kk, hkk⟩ : ∃ kk : Nat, numS (T.length / 2 : Nat) lo hi (n1, n2, h) = kk := ⟨_, (Int.toNat_of_nonneg hg0).symm⟩
                    have hkN : kk < N := by rw [hkk, HN.out] at hg1; omega
                    have hin : ((kk : Int) ∈ (X.1.map fun s => numS (T.length / 2 : Nat) lo hi s.1)) ↔ (n1, n2, h) ∈ (X.1.map fun s => s.1) := by
                      constructor
                      · intro hm'
                        obtain ⟨s, hs, he⟩ := List.mem_map.1 hm'
                        exact List.mem_map.2 ⟨s, hs, num_inj k5 k6 (hcells.out s hs) hnv (he.trans hkk.symm)⟩
                      · intro hm'
                        obtain ⟨s, hs, he⟩ := List.mem_map.1 hm'
                        exact List.mem_map.2 ⟨s, hs, by rw [he]; exact hkk⟩
                    have NU1 := NU.out n1 n2 h hnv
                    rw [hkk] at NU1
                    have N1 := Lib.hid NU1
                    have HK := Lib.hid hkk
                    obtain ⟨b0, o7, o8, o9, bs, hne, hB⟩ := id hM3
                    have y0 : W3.cell? ⟨gs, kk, none⟩ = some (.bool (decide ((kk : Int) ∈ (X.1.map fun s => numS (T.length / 2 : Nat) lo hi s.1)))) := by have := bs.cell kk; simpa [marks_get hkN] using this
                    have c00 := b0.cell 0; have c01 := b0.cell 1; have c02 := b0.cell 2; have c03 := b0.cell 3; have c04 := b0.cell 4
                    have f0 := hF.cell 0; have f1 := hF.cell 1; have f2 := hF.cell 2
                    simp at c00 c01 c02 c03 c04 f0 f1 f2
                    have l0 := b0.lt; have lF := hF.lt; have lg := bs.lt
                    have hkN' : (kk : Int) < (N : Int) := by omega
                    have hsx : X' = if (n1, n2, h) ∈ (X.1.map fun s => s.1) then X else (X.1 ++ [((n1, n2, h), (i : Int), h)], X.2) := by have := HSX.out; simpa using this
                    clear NU1 hkk hg0 hg1 HSX
                    by_cases hmem : (n1, n2, h) ∈ (X.1.map fun s => s.1)
                    · rw [if_pos hmem] at hsx
                      rw [decide_eq_true (hin.2 hmem)] at y0
                      subst hsx
                      clear hin hmem hnv HNV hcells
                      go_wp2_with (first | (go_at_call 121; refine (N1.out _).mono ?_; rintro e w4 ⟨rfl, hb4⟩; obtain ⟨hc4, hf4⟩ := bcell hb4) | fail)
                      go_roundw
                      case rel => exact ⟨X', m + 1, g7, c7, g8, c8, g9, c9, rfl, rfl, rfl, vint P1.out.symm, vint P2.out.symm, vint (by omega), by omega, hlt, HSI, HR3, HO, HX, hM3.keep (by focus ((repeat first | with_reducible exact Below.refl _ _ | (with_reducible refine Below.setCell ?_ ?_ _) | (with_reducible refine Below.alloc ?_ ?_ _) | (with_reducible refine below_drewN ?_ _) | (with_reducible refine Below.drew ?_) | (with_reducible refine Below.trans ?_ (Below.mono hb4 ?_))); all_goals (first | with_reducible exact Nat.le_refl _ | omega | (simp; done) | (simp; omega) | (have := hb4.size; (try simp at this); omega) | (have := hb4.size; (try simp at this); (try simp); omega))))⟩
                      case measure => simp [intOf]; omega
                    · rw [if_neg hmem] at hsx
                      rw [decide_eq_false (fun e => hmem (hin.1 e))] at y0
                      subst hsx
                      clear hin hmem hnv HNV hcells
                      go_upto_region 17 with (first | (go_at_call 121; refine (N1.out _).mono ?_; rintro e w4 ⟨rfl, hb4⟩; obtain ⟨hc4, hf4⟩ := bcell hb4) | fail)
                      have hM4 := hM3.keep hb4
                      have hF4 := hF.below hb4 lF
                      have y1 := (hb4.cell (p := ⟨gs, kk, none⟩) lg).trans y0
                      clear hM3 hF y0 b0 o7 o8 o9 bs hne hB c00 c01 c02 c03 c04 f0 f1 f2 l0 lF lg hc4 hf4 hb4
                      generalize w4 = W4 at *
                      obtain ⟨b0, o7, o8, o9, bs, hne, hB⟩ := id hM4
                      have c00 := b0.cell 0; have c01 := b0.cell 1; have c02 := b0.cell 2; have c03 := b0.cell 3; have c04 := b0.cell 4
                      have f0 := hF4.cell 0; have f1 := hF4.cell 1; have f2 := hF4.cell 2
                      simp at c00 c01 c02 c03 c04 f0 f1 f2
                      have l0 := b0.lt; have lF := hF4.lt; have lg := bs.lt
                      have yf := bs.froz
                      go_upto_region 18 with (first | (go_at_call 121; refine (N1.out _).mono ?_; rintro e w4 ⟨rfl, hb4⟩; obtain ⟨hc4, hf4⟩ := bcell hb4) | fail)
                      have M5 := (hM4.keep hb4).mark hkN
                      have hfg : f ≠ gs := by
                        rintro rfl
                        have := (show W4.heap[f]? = _ from hF4).symm.trans (show W4.heap[f]? = _ from bs)
                        simp at this
                      have hF5 : Box (w4.setCell ⟨gs, kk, none⟩ (.bool true)) f 42 #[.int .i64 n1, .int .i64 n2, .int .i64 h] := (hF4.below hb4 lF).far hfg _
                      clear hM4 hF4 y1 b0 o7 o8 o9 bs hne hB c00 c01 c02 c03 c04 f0 f1 f2 l0 lF lg hc4 hf4 hb4 yf
                      generalize w4.setCell ⟨gs, kk, none⟩ (.bool true) = W5 at *
                      obtain ⟨b0, o7, o8, o9, bs, hne, hB⟩ := id M5
                      have f0 := hF5.cell 0; have f1 := hF5.cell 1; have f2 := hF5.cell 2
                      simp at f0 f1 f2
                      have lF := hF5.lt
                      have o7' : W5.ownsRow (w.heap.size + 1) 42 3 (.slice (some ⟨g7, 0, none⟩) X.1.length c7) X.1.length ((X.1.map fun s => s.1).flatMap st3V) := by simpa using o7
                      have o8' : W5.ownsRow (w.heap.size + 1) 3 1 (.slice (some ⟨g8, 0, none⟩) X.1.length c8) X.1.length ((X.1.map fun s => s.2.1).map (Value.int .i64)) := by simpa using o8
                      have o9' : W5.ownsRow (w.heap.size + 1) 3 1 (.slice (some ⟨g9, 0, none⟩) X.1.length c9) X.1.length ((X.1.map fun s => s.2.2).map (Value.int .i64)) := by simpa using o9
                      obtain ⟨t7, _⟩ := own_lt o7'; obtain ⟨t8, _⟩ := own_lt o8'; obtain ⟨t9, _⟩ := own_lt o9'
                      obtain ⟨j0, zS, hj0, hy0, hy1, hy2, hy3⟩ := infoOk_parts info_St
                      obtain ⟨i0, hi0, hz0, hz1, hz2⟩ := info_parts info_Int
                      have hnews := Lib.hid (cell_three_new W5 (.int .i64 n1) (.int .i64 n2) (.int .i64 h) 42)
                      have hm1 : X.1.length + 1 ≤ maxLen := by unfold maxLen; omega
                      have hm2 : (X.1.length + 1) * 24 ≤ 140737488355328 := by omega
                      have hm3 : (X.1.length + 1) * 8 ≤ 140737488355328 := by omega
                      have hs0 : w.heap.size + 1 ≤ W5.heap.size := by omega
                      clear b0 o7 o8 o9 bs hB
                      go_wp2_with (first | (at_builtin; refine wpList_append_lies _ rfl (.tmp 93) (.tmp 95) 38 rfl (w.heap.size + 1) 42 j0 zS 3 24 Try.underlying38 hj0 hy0 hy1 hy2 hy3 (by decide) _ _ _ rfl (o7'.alloc _) ⟨W5.heap.size, 0, none⟩ 1 1 [.int .i64 n1, .int .i64 n2, .int .i64 h] rfl rfl hnews.out (by simp [Value.oneCell']) (by decide) hm1 hm2 (by simp; omega) _ rfl ?_; intro g7' c7' w6 p7 q7 e7 r7; have s6 := q7.size; simp at s6; have o8b := own_gr (k := g7) (o8'.alloc _) q7 (by omega); have o9b := own_gr (k := g7) (o9'.alloc _) q7 (by omega)) | (at_builtin; refine wpList_append_lies _ rfl (.tmp 97) (.tmp 99) 22 rfl (w.heap.size + 1) 3 i0 (.int .i64 0) 1 8 Try.underlying22 hi0 hz0 hz1 hz2 rfl (by decide) _ _ _ rfl (o8b.alloc _) ⟨w6.heap.size, 0, none⟩ 1 1 [.int .i64 (i : Int)] rfl rfl (cell_one_new _ _ _) (by simp [Value.oneCell']) (by decide) hm1 hm3 (by simp; omega) _ rfl ?_; intro g8' c8' w7 p8 q8 e8 r8; have s7 := q8.size; simp at s7; have o9c := own_gr (k := g8) (o9b.alloc _) q8 (by omega)) | (at_builtin; refine wpList_append_lies _ rfl (.tmp 101) (.tmp 103) 22 rfl (w.heap.size + 1) 3 i0 (.int .i64 0) 1 8 Try.underlying22 hi0 hz0 hz1 hz2 rfl (by decide) _ _ _ rfl (o9c.alloc _) ⟨w7.heap.size, 0, none⟩ 1 1 [.int .i64 h] rfl rfl (cell_one_new _ _ _) (by simp [Value.oneCell']) (by decide) hm1 hm3 (by simp; omega) _ rfl ?_; intro g9' c9' w8 p9 q9 e9 r9) | fail)
                      have M8 := MX.more (n := (n1, n2, h)) (i := (i : Int)) (x := h) M5 (g7' := g7') (c7' := c7') (by simpa [st3V] using p7) q7 (e7.imp (fun e => Option.some.inj (show some g7 = some g7' from e)) id) (g8' := g8') (c8' := c8') (by simpa using p8) q8 (e8.imp (fun e => Option.some.inj (show some g8 = some g8' from e)) id) (g9' := g9') (c9' := c9') (by simpa using p9) q9 (e9.imp (fun e => Option.some.inj (show some g9 = some g9' from e)) id)
                      have M9 := Lib.hid M8
                      clear M8
                      go_roundw
                      case rel =>
                        refine ⟨(X.1 ++ [((n1, n2, h), (i : Int), h)], X.2), m + 1, g7', c7', g8', c8', g9', c9', by simp, by simp, by simp, vint P1.out.symm, vint P2.out.symm, vint (by omega), by omega, by simp; omega, ?_, HR3, HO, HX, ?_⟩
                        · unfold Hid; rw [List.getElem?_append_left hlt]; exact HSI.out
                        · unfold MS
                          have := M9.out
                          rw [← HK.out] at this
                          simpa using this
                      case measure => simp [intOf]; omega
            · go_upto_region 10 with fail
              go_cut [62] (fun s62 wx => s62 = .bool false ∧ Below wr.heap.size wr wx)
              case first =>
                go_quiet (fail)
                all_goals go_wp2_with fail
                all_goals go_meet
                all_goals exact ⟨vbool (decide_eq_false (by omega)), below_drewN (Below.refl _ _) _⟩
              case rest =>
                obtain ⟨rfl, hbC⟩ := hcut
                have hM2 := hM.keep hbC
                have hend : toF X = F1 := by
                  have := hr.out
                  rw [List.drop_eq_nil_of_le (by rw [hvL_len]; omega)] at this
                  exact this
                have HR2 : Hid (rounds T lo hi turn slew (2080 - (i + 1)) (i + 1) (toF X) = found T lo hi turn slew) := by
                  unfold Hid
                  rw [hend, show 2080 - (i + 1) = j from by have := HJ.out; omega]
                  exact HR.out
                clear hr hend hM b0 o7 o8 o9 bs hne hB c00 c01 c02 c03 c04 a0 a1 a2
                go_wp2_with fail
                go_roundw
                case rel => exact ⟨X, i + 1, g7, c7, g8, c8, g9, c9, rfl, rfl, rfl, rfl, rfl, by go_num, by omega, HR2, hf, hx, hM2⟩
                case measure => simp [intOf]; omega
      · obtain rfl : i = X.1.length := by omega
        have hend : toF X = found T lo hi turn slew := by
          rw [← hr.out]
          cases 2080 - X.1.length with
          | zero => rfl
          | succ m => rw [rounds, if_neg (by simp [toF])]
        have HE := Lib.hid hend
        clear hend hr
        go_wp2_with fail
        refine bodyPost_ret (v := .tuple #[.slice (some ⟨g7, 0, none⟩) X.1.length c7, .slice (some ⟨g8, 0, none⟩) X.1.length c8, .slice (some ⟨g9, 0, none⟩) X.1.length c9, .int .i64 (brkX X.2).1, .int .i64 (brkX X.2).2]) (by simp [results, Try.f119]) rfl ?_
        exact ⟨X, g7, c7, g8, c8, g9, c9, rfl, HE.out, hx.out, slv_own (k := 3) (by decide) (by simpa using o7), sli_own (by simpa using o8), sli_own (by simpa using o9), hB⟩

end Go.Proofs.Ytgbckdmhmkpahaa

/-
  Windows of forecasts (chapter 2): the reference First; inside.
-/
import Derived.Test.YtgbckdmhmkpahaaWin5
set_option linter.unusedVariables false
namespace Go.Proofs.Ytgbckdmhmkpahaa
open Go.RowKit Go.Shelf

def frP2 : Option Int → Int × Bool
  | some k => (k, true)
  | none => (0, false)
theorem take_succ_all {q : Rg → Bool} {l : List Rg} {n j : Nat} {r : Rg} (h : l[n + j]? = some r) : ((l.drop n).take (j + 1)).all q = (((l.drop n).take j).all q && q r) := by
  have h1 : (l.drop n)[j]? = some r := by rw [List.getElem?_drop]; exact h
  rw [List.take_add_one, h1, List.all_append]
  simp
set_option maxHeartbeats 4000000 in
set_option maxRecDepth 100000 in
theorem refFirst_c (l : List Rg) (A : Option Addr) (c : Nat) (lim len tick : Int) (w : World) (he : calmE l lim len = 0) (ht : 0 ≤ tick ∧ tick ≤ 60) (hs : SlV w A (l.flatMap rgV)) :
    Calls Try.prog 64 #[.slice A l.length c, .agg #[.int .i64 lim, .int .i64 len], .int .i64 tick] w fun e w' => e = .returned (.tuple #[.int .i64 (frP2 (firstR (calmB lim) l len 100 tick)).1, .bool (frP2 (firstR (calmB lim) l len 100 tick)).2]) ∧ Below w.heap.size w w' := by
  obtain ⟨k1, k2, k3, k4⟩ := calmE_ok he
  have hs := Lib.hid hs
  obtain ⟨P, hP⟩ : ∃ P, firstR (calmB lim) l len 100 tick = P := ⟨_, rfl⟩
  rw [hP]
  have hP := Lib.hid hP
  clear he k2
  go_enter Try.func64, Try.ntmps64
  go_upto_region 1 with fail
  have q : Box (w.alloc (.cells #[.int .i64 lim, .int .i64 len] 102)) w.heap.size 102 #[.int .i64 lim, .int .i64 len] := Box.new _ _ _
  have hB : Below w.heap.size w (w.alloc (.cells #[.int .i64 lim, .int .i64 len] 102)) := by focus ((repeat first | with_reducible exact Below.refl _ _ | (with_reducible refine Below.setCell ?_ ?_ _) | (with_reducible refine Below.alloc ?_ ?_ _) | (with_reducible refine below_drewN ?_ _) | (with_reducible refine Below.drew ?_)); all_goals (first | with_reducible exact Nat.le_refl _ | omega | (simp; done) | (simp; omega) | (omega) | ((try simp); omega)))
  generalize w.alloc (.cells #[.int .i64 lim, .int .i64 len] 102) = W5 at *
  go_wp2_with fail
  go_loopw [8] (fun i wr => ∃ (n f : Nat), i = .int .i64 (n : Int) ∧ n ≤ 161 ∧ l.length + 1 ≤ n + f ∧ f ≤ 100 ∧ Hid (firstR (calmB lim) l len f (n : Int) = P) ∧ Box wr w.heap.size 102 #[.int .i64 lim, .int .i64 len] ∧ Below w.heap.size w wr) (fun i _ => 200 - (intOf i).toNat)
  case atStart => exact ⟨tick.toNat, 100, by rw [show (tick.toNat : Int) = tick by omega], by omega, by omega, Nat.le_refl _, by rw [show (tick.toNat : Int) = tick by omega]; exact hP, q, hB⟩
  case round =>
    clear q hB
    obtain ⟨n, f, rfl, hn, hf, hf2, hr, q, hB⟩ := hrel
    have hlq := q.lt
    have c0 := q.cell 0; have c1 := q.cell 1
    simp at c0 c1
    have v1 : IntKind.i64.wrap ((n : Int) + len) = (n : Int) + len := IntWalk.i64_in _ (by omega)
    by_cases hc : (n : Int) + len ≤ (l.length : Int)
    · have e1 : decide ((n : Int) + len ≤ (l.length : Int)) = true := decide_eq_true hc
      obtain ⟨f, rfl⟩ : ∃ f', f = f' + 1 := ⟨f - 1, by omega⟩
      have HR := Lib.hid (show (if ((l.drop n).take len.toNat).all (calmB lim) then some (n : Int) else firstR (calmB lim) l len f ((n : Int) + 1)) = P from by
        have := hr.out
        unfold firstR at this
        rw [if_pos hc] at this
        exact this)
      go_wp2_with fail
      go_loopw [9, 10] (fun cv kv wr => ∃ kk : Nat, n ≤ kk ∧ (kk : Int) ≤ (n : Int) + len ∧ kv = .int .i64 (kk : Int) ∧ cv = .bool (((l.drop n).take (kk - n)).all (calmB lim)) ∧ Box wr w.heap.size 102 #[.int .i64 lim, .int .i64 len] ∧ Below w.heap.size w wr) (fun _ kv _ => 500 - (intOf kv).toNat)
      case atStart => exact ⟨n, Nat.le_refl _, by omega, rfl, by simp, q, hB⟩
      case round =>
        clear q hB c0 c1 hlq
        obtain ⟨kk, hnk, hj, rfl, rfl, q, hB⟩ := hrel
        have hlq := q.lt
        have c0 := q.cell 0; have c1 := q.cell 1
        simp at c0 c1
        by_cases hjl : (kk : Int) < (n : Int) + len
        · have e2 : decide ((kk : Int) < (n : Int) + len) = true := decide_eq_true (by omega)
          have hkl : kk < l.length := by omega
          obtain ⟨bb, off, rfl, hbb, a0, a1⟩ := rg_cells (SlV.below hs.out hB) (List.getElem?_eq_getElem hkl)
          have HA := Lib.hid (take_succ_all (q := calmB lim) (l := l) (n := n) (j := kk - n) (r := l[kk]) (by rw [show n + (kk - n) = kk by omega]; exact List.getElem?_eq_getElem hkl))
          rw [show kk - n + 1 = kk + 1 - n by omega] at HA
          generalize l[kk] = r at *
          obtain ⟨a, b⟩ := r
          dsimp only at a0 a1
          have e3 : (kk : Int) < (l.length : Int) := by omega
          have IC := Lib.hid (fun W => refIsCalm_c a b lim W k3)
          cases hq : ((l.drop n).take (kk - n)).all (calmB lim)
          · rw [hq] at HA
            clear hq
            go_upto_region 8 with fail
            (refine wp_region_held_drew (S := (fun w' => w'.cell? ⟨w.heap.size, 0, none⟩ = some (.int .i64 lim))) (by kernel_rfl) ?_ (fun hHeld => ?_); (focus ((try dsimp only); go_keep)); refine wpAnyH_take (i := 0) (v := ?_) rfl (by kernel_rfl) (by kernel_rfl) (by kernel_rfl) (fun _ _ _ h => h) (.inl ⟨by kernel_rfl, fun w' hSw => ?_⟩) (by assumption) ?_; rotate_left; (focus ((try dsimp only at hSw); go_simp; (try with_reducible rfl))); (try simp only [Act.put, List.getElem_toArray, List.getElem_cons_zero, List.setIfInBounds_toArray, List.set_cons_zero, List.set_cons_succ]); refine wpAnyH_take (i := 1) (v := ?_) rfl (by kernel_rfl) (by kernel_rfl) (by kernel_rfl) (fun _ _ _ h => h) (.inl ⟨by kernel_rfl, fun w' hSw => ?_⟩) (by assumption) ?_; rotate_left; (focus ((try dsimp only at hSw); go_simp; (try with_reducible rfl))); (try simp only [Act.put, List.getElem_toArray, List.getElem_cons_succ, List.getElem_cons_zero, List.setIfInBounds_toArray, List.set_cons_zero, List.set_cons_succ]); refine wpAnyH_take (i := 2) (v := undef) rfl (by kernel_rfl) (by kernel_rfl) (by kernel_rfl) (fun _ _ _ h => h) (.inr ⟨by kernel_rfl, rfl⟩) (by assumption) ?_; (try simp only [Act.put, List.getElem_toArray, List.getElem_cons_succ, List.getElem_cons_zero, List.setIfInBounds_toArray, List.set_cons_zero, List.set_cons_succ]); refine wpAnyH_take (i := 3) (v := undef) rfl (by kernel_rfl) (by kernel_rfl) (by kernel_rfl) (fun _ _ _ h => h) (.inr ⟨by kernel_rfl, rfl⟩) (by assumption) ?_; (try simp only [Act.put, List.getElem_toArray, List.getElem_cons_succ, List.getElem_cons_zero, List.setIfInBounds_toArray, List.set_cons_zero, List.set_cons_succ]); refine wpAnyH_take (i := 4) (v := undef) rfl (by kernel_rfl) (by kernel_rfl) (by kernel_rfl) (fun _ _ _ h => h) (.inr ⟨by kernel_rfl, rfl⟩) (by assumption) ?_; (try simp only [Act.put, List.getElem_toArray, List.getElem_cons_succ, List.getElem_cons_zero, List.setIfInBounds_toArray, List.set_cons_zero, List.set_cons_succ]); refine wpAnyH_take (i := 5) (v := undef) rfl (by kernel_rfl) (by kernel_rfl) (by kernel_rfl) (fun _ _ _ h => h) (.inr ⟨by kernel_rfl, rfl⟩) (by assumption) ?_; (try simp only [Act.put, List.getElem_toArray, List.getElem_cons_succ, List.getElem_cons_zero, List.setIfInBounds_toArray, List.set_cons_zero, List.set_cons_succ]); refine wpAnyH_take (i := 6) (v := undef) rfl (by kernel_rfl) (by kernel_rfl) (by kernel_rfl) (fun _ _ _ h => h) (.inr ⟨by kernel_rfl, rfl⟩) (by assumption) ?_; (try simp only [Act.put, List.getElem_toArray, List.getElem_cons_succ, List.getElem_cons_zero, List.setIfInBounds_toArray, List.set_cons_zero, List.set_cons_succ]); refine wpAnyH_take (i := 7) (v := undef) rfl (by kernel_rfl) (by kernel_rfl) (by kernel_rfl) (fun _ _ _ h => h) (.inr ⟨by kernel_rfl, rfl⟩) (by assumption) ?_; (try simp only [Act.put, List.getElem_toArray, List.getElem_cons_succ, List.getElem_cons_zero, List.setIfInBounds_toArray, List.set_cons_zero, List.set_cons_succ]); refine wpAnyH_take (i := 8) (v := undef) rfl (by kernel_rfl) (by kernel_rfl) (by kernel_rfl) (fun _ _ _ h => h) (.inr ⟨by kernel_rfl, rfl⟩) (by assumption) ?_; (try simp only [Act.put, List.getElem_toArray, List.getElem_cons_succ, List.getElem_cons_zero, List.setIfInBounds_toArray, List.set_cons_zero, List.set_cons_succ]); refine wpAnyH_take (i := 9) (v := ?_) rfl (by kernel_rfl) (by kernel_rfl) (by kernel_rfl) (fun _ _ _ h => h) (.inl ⟨by kernel_rfl, fun w' hSw => ?_⟩) (by assumption) ?_; rotate_left; (focus ((try dsimp only at hSw); go_simp; (try with_reducible rfl))); (try simp only [Act.put, List.getElem_toArray, List.getElem_cons_succ, List.getElem_cons_zero, List.setIfInBounds_toArray, List.set_cons_zero, List.set_cons_succ]); refine wpAnyH_take (i := 10) (v := ?_) rfl (by kernel_rfl) (by kernel_rfl) (by kernel_rfl) (fun _ _ _ h => h) (.inl ⟨by kernel_rfl, fun w' hSw => ?_⟩) (by assumption) ?_; rotate_left; (focus ((try dsimp only at hSw); go_simp; (try with_reducible rfl))); (try simp only [Act.put, List.getElem_toArray, List.getElem_cons_succ, List.getElem_cons_zero, List.setIfInBounds_toArray, List.set_cons_zero, List.set_cons_succ]); refine wpAnyH_done (by kernel_rfl) ?_ _)
            go_wp2_with fail
            go_roundw
            case' rel => refine ⟨kk + 1, by omega, by omega, by go_num, ?_, ?_, ?_⟩
            all_goals first | (rw [HA.out]; simp; done) | (focus (apply Box.via; apply Exists.intro; apply And.intro; (repeat first | with_reducible assumption | with_reducible exact Box.new _ _ _ | ((with_reducible apply Box.newAt); focus (simp; done)) | (with_reducible apply Box.drew) | (with_reducible apply Box.drewN) | (with_reducible apply Box.set) | (with_reducible apply Box.alloc) | (with_reducible apply Box.far)); all_goals (first | with_reducible exact Nat.le_refl _ | omega | (simp; done) | (simp; omega) | (omega) | ((try simp); omega)))) | (focus ((repeat first | with_reducible exact Below.refl _ _ | (with_reducible refine Below.setCell ?_ ?_ _) | (with_reducible refine Below.alloc ?_ ?_ _) | (with_reducible refine below_drewN ?_ _) | (with_reducible refine Below.drew ?_) | (with_reducible refine Below.trans ?_ (Below.mono hB ?_))); all_goals (first | with_reducible exact Nat.le_refl _ | omega | (simp; done) | (simp; omega) | (have := hB.size; (try simp at this); omega) | (have := hB.size; (try simp at this); (try simp); omega)))) | (simp [intOf]; omega)
          · rw [hq] at HA
            clear hq
            go_upto_region 8 with fail
            (refine wp_region_held_drew (S := (fun w' => w'.cell? ⟨bb, off + kk * 2, none⟩ = some (.int .i64 a) ∧ w'.cell? ⟨bb, off + kk * 2 + 1, none⟩ = some (.int .i64 b) ∧ w'.cell? ⟨w.heap.size, 0, none⟩ = some (.int .i64 lim))) (by kernel_rfl) ?_ (fun hHeld => ?_); (focus ((try dsimp only); go_keep)); refine wpAnyH_take (i := 0) (v := ?_) rfl (by kernel_rfl) (by kernel_rfl) (by kernel_rfl) (fun _ _ _ h => h) (.inl ⟨by kernel_rfl, fun w' hSw => ?_⟩) (by assumption) ?_; rotate_left; (focus ((try dsimp only at hSw); go_simp; (try with_reducible rfl))); (try simp only [Act.put, List.getElem_toArray, List.getElem_cons_zero, List.setIfInBounds_toArray, List.set_cons_zero, List.set_cons_succ]); refine wpAnyH_take (i := 1) (v := ?_) rfl (by kernel_rfl) (by kernel_rfl) (by kernel_rfl) (fun _ _ _ h => h) (.inl ⟨by kernel_rfl, fun w' hSw => ?_⟩) (by assumption) ?_; rotate_left; (focus ((try dsimp only at hSw); go_simp; (try with_reducible rfl))); (try simp only [Act.put, List.getElem_toArray, List.getElem_cons_succ, List.getElem_cons_zero, List.setIfInBounds_toArray, List.set_cons_zero, List.set_cons_succ]); refine wpAnyH_take (i := 2) (v := ?_) rfl (by kernel_rfl) (by kernel_rfl) (by kernel_rfl) (fun _ _ _ h => h) (.inl ⟨by kernel_rfl, fun w' hSw => ?_⟩) (by assumption) ?_; rotate_left; (focus ((try dsimp only at hSw); go_simp; (try with_reducible rfl))); (try simp only [Act.put, List.getElem_toArray, List.getElem_cons_succ, List.getElem_cons_zero, List.setIfInBounds_toArray, List.set_cons_zero, List.set_cons_succ]); refine wpAnyH_take (i := 3) (v := ?_) rfl (by kernel_rfl) (by kernel_rfl) (by kernel_rfl) (fun _ _ _ h => h) (.inl ⟨by kernel_rfl, fun w' hSw => ?_⟩) (by assumption) ?_; rotate_left; (focus ((try dsimp only at hSw); go_simp; (try with_reducible rfl))); (try simp only [Act.put, List.getElem_toArray, List.getElem_cons_succ, List.getElem_cons_zero, List.setIfInBounds_toArray, List.set_cons_zero, List.set_cons_succ]); refine wpAnyH_take (i := 4) (v := ?_) rfl (by kernel_rfl) (by kernel_rfl) (by kernel_rfl) (fun _ _ _ h => h) (.inl ⟨by kernel_rfl, fun w' hSw => ?_⟩) (by assumption) ?_; rotate_left; (focus ((try dsimp only at hSw); go_simp; (try with_reducible rfl))); (try simp only [Act.put, List.getElem_toArray, List.getElem_cons_succ, List.getElem_cons_zero, List.setIfInBounds_toArray, List.set_cons_zero, List.set_cons_succ]); refine wpAnyH_take (i := 5) (v := ?_) rfl (by kernel_rfl) (by kernel_rfl) (by kernel_rfl) (fun _ _ _ h => h) (.inl ⟨by kernel_rfl, fun w' hSw => ?_⟩) (by assumption) ?_; rotate_left; (focus ((try dsimp only at hSw); go_simp; (try with_reducible rfl))); (try simp only [Act.put, List.getElem_toArray, List.getElem_cons_succ, List.getElem_cons_zero, List.setIfInBounds_toArray, List.set_cons_zero, List.set_cons_succ]); refine wpAnyH_take (i := 6) (v := ?_) rfl (by kernel_rfl) (by kernel_rfl) (by kernel_rfl) (fun _ _ _ h => h) (.inl ⟨by kernel_rfl, fun w' hSw => ?_⟩) (by assumption) ?_; rotate_left; (focus ((try dsimp only at hSw); go_simp; (try with_reducible rfl))); (try simp only [Act.put, List.getElem_toArray, List.getElem_cons_succ, List.getElem_cons_zero, List.setIfInBounds_toArray, List.set_cons_zero, List.set_cons_succ]); refine wpAnyH_take (i := 7) (v := ?_) rfl (by kernel_rfl) (by kernel_rfl) (by kernel_rfl) (fun _ _ _ h => h) (.inl ⟨by kernel_rfl, fun w' hSw => ?_⟩) (by assumption) ?_; rotate_left; (focus ((try dsimp only at hSw); go_simp; (try with_reducible rfl))); (try simp only [Act.put, List.getElem_toArray, List.getElem_cons_succ, List.getElem_cons_zero, List.setIfInBounds_toArray, List.set_cons_zero, List.set_cons_succ]); refine wpAnyH_ready (rs := [8]) (by kernel_rfl) (by simp) ?_; refine AllReadyH.cons rfl (fun K hK => ?_) AllReadyH.nil; go_simp; ((go_at_call 113; refine (IC.out _).mono ?_; rintro e w2 ⟨rfl, hb2⟩; have hz2 : wr.heap.size ≤ w2.heap.size := (by have := hb2.size; (try simp at this); omega); have k1 := ((hb2).cell (p := ⟨bb, off + kk * 2, none⟩) (by simp; omega)).trans (show _ = some (Value.int .i64 a) from by simp [go_sem, *]); have k2 := ((hb2).cell (p := ⟨bb, off + kk * 2 + 1, none⟩) (by simp; omega)).trans (show _ = some (Value.int .i64 b) from by simp [go_sem, *]); have k3 := ((hb2).cell (p := ⟨w.heap.size, 0, none⟩) (by simp; omega)).trans (show _ = some (Value.int .i64 lim) from by simp [go_sem, *]))); go_simp; refine hK.out _ _ ?_ (fun hHeld => ?_); (focus ((try dsimp only); go_keep)); clear hK K; (try simp only [Act.put, List.getElem_toArray, List.getElem_cons_succ, List.getElem_cons_zero, List.setIfInBounds_toArray, List.set_cons_zero, List.set_cons_succ]); refine wpAnyH_take (i := 9) (v := ?_) rfl (by kernel_rfl) (by kernel_rfl) (by kernel_rfl) (fun _ _ _ h => h) (.inl ⟨by kernel_rfl, fun w' hSw => ?_⟩) (by assumption) ?_; rotate_left; (focus ((try dsimp only at hSw); go_simp; (try with_reducible rfl))); (try simp only [Act.put, List.getElem_toArray, List.getElem_cons_succ, List.getElem_cons_zero, List.setIfInBounds_toArray, List.set_cons_zero, List.set_cons_succ]); refine wpAnyH_take (i := 10) (v := ?_) rfl (by kernel_rfl) (by kernel_rfl) (by kernel_rfl) (fun _ _ _ h => h) (.inl ⟨by kernel_rfl, fun w' hSw => ?_⟩) (by assumption) ?_; rotate_left; (focus ((try dsimp only at hSw); go_simp; (try with_reducible rfl))); (try simp only [Act.put, List.getElem_toArray, List.getElem_cons_succ, List.getElem_cons_zero, List.setIfInBounds_toArray, List.set_cons_zero, List.set_cons_succ]); refine wpAnyH_done (by kernel_rfl) ?_ _)
            go_wp2_with fail
            go_roundw
            case' rel => refine ⟨kk + 1, by omega, by omega, by go_num, ?_, ?_, ?_⟩
            all_goals first | (rw [HA.out]; simp; done) | (focus (apply Box.via; apply Exists.intro; apply And.intro; (repeat first | with_reducible assumption | with_reducible exact Box.new _ _ _ | ((with_reducible apply Box.newAt); focus (simp; done)) | (with_reducible apply Box.drew) | (with_reducible apply Box.drewN) | (with_reducible apply Box.set) | (with_reducible apply Box.alloc) | (with_reducible apply Box.far) | (with_reducible apply Box.below (hb := hb2))); all_goals (first | with_reducible exact Nat.le_refl _ | omega | (simp; done) | (simp; omega) | (have := hb2.size; (try simp at this); omega) | (have := hb2.size; (try simp at this); (try simp); omega)))) | (focus ((repeat first | with_reducible exact Below.refl _ _ | (with_reducible refine Below.setCell ?_ ?_ _) | (with_reducible refine Below.alloc ?_ ?_ _) | (with_reducible refine below_drewN ?_ _) | (with_reducible refine Below.drew ?_) | (with_reducible refine Below.trans ?_ (Below.mono hb2 ?_)) | (with_reducible refine Below.trans ?_ (Below.mono hB ?_))); all_goals (first | with_reducible exact Nat.le_refl _ | omega | (simp; done) | (simp; omega) | (have := hb2.size; (try simp at this); have := hB.size; (try simp at this); omega) | (have := hb2.size; (try simp at this); have := hB.size; (try simp at this); (try simp); omega)))) | (simp [intOf]; omega)
        · have e2 : decide ((kk : Int) < (n : Int) + len) = false := decide_eq_false (by omega)
          rw [show len.toNat = kk - n by omega] at HR
          cases hq : ((l.drop n).take (kk - n)).all (calmB lim)
          · have HZ := Lib.hid (show firstR (calmB lim) l len f ((n : Int) + 1) = P by have := HR.out; rw [hq] at this; exact this)
            clear hq HR hr
            go_wp2_with fail
            go_roundw
            case rel => exact ⟨n + 1, f, by go_num, by omega, by omega, by omega, by unfold Hid; have := HZ.out; rwa [show ((n + 1 : Nat) : Int) = (n : Int) + 1 by omega], q, hB⟩
            case measure => simp [intOf]; omega
          · have HZ := Lib.hid (show some (n : Int) = P by have := HR.out; rw [hq] at this; exact this)
            clear hq HR hr
            go_wp2_with fail
            go_ret2
            exact ⟨by rw [← HZ.out]; rfl, hB⟩
    · have e1 : decide ((n : Int) + len ≤ (l.length : Int)) = false := decide_eq_false hc
      have HZ := Lib.hid (show none = P by
        have := hr.out
        cases f with
        | zero => exact this
        | succ f => unfold firstR at this; rw [if_neg hc] at this; exact this)
      clear hr
      go_wp2_with fail
      go_ret2
      exact ⟨by rw [← HZ.out]; rfl, hB⟩

/-- Whether each range of a list lies in one of another. -/
def inR (x y : Rg) : Bool := decide (y.1 ≤ x.1) && decide (x.2 ≤ y.2)
def insB (xs ys : List Rg) : Bool := xs.all fun x => ys.any (inR x)
set_option maxHeartbeats 4000000 in
set_option maxRecDepth 100000 in
theorem inside_c (xs ys : List Rg) (A B : Option Addr) (c d : Nat) (w : World) (hn : xs.length ≤ 100000) (hm : ys.length ≤ 100000) (hs : SlV w A (xs.flatMap rgV)) (ht : SlV w B (ys.flatMap rgV)) :
    Calls Try.prog 63 #[.slice A xs.length c, .slice B ys.length d] w fun e w' => e = .returned (.bool (insB xs ys)) ∧ Below w.heap.size w w' := by
  have hs := Lib.hid hs; have ht := Lib.hid ht
  have HP := Lib.hid (show insB xs ys = xs.all (fun x => ys.any (inR x)) from rfl)
  generalize insB xs ys = P at *
  go_enter Try.func63, Try.ntmps63
  go_wp2_with fail
  go_loopw [5] (fun i wr => ∃ k : Nat, k ≤ xs.length ∧ i = .int .i64 (k : Int) ∧ Hid (P = (xs.drop k).all (fun x => ys.any (inR x))) ∧ Below w.heap.size w wr) (fun i _ => xs.length - (intOf i).toNat)
  case atStart => exact ⟨0, Nat.zero_le _, rfl, HP, Below.refl _ _⟩
  case round =>
    obtain ⟨k, hk, rfl, hf, hB⟩ := hrel
    by_cases hlt : k < xs.length
    · obtain ⟨b1, o1, rfl, hb1, a0, a1⟩ := rg_cells hs.out (List.getElem?_eq_getElem hlt)
      have D := Lib.hid (List.drop_eq_getElem_cons (l := xs) hlt)
      generalize xs[k] = x at *
      obtain ⟨x1, x2⟩ := x
      dsimp only at a0 a1
      have hlt' : (k : Int) < (xs.length : Int) := by omega
      go_wp2_with fail
      go_loopw [6, 7] (fun fv iv wr => ∃ j : Nat, j ≤ ys.length ∧ iv = .int .i64 (j : Int) ∧ fv = .bool ((ys.take j).any (inR (x1, x2))) ∧ Below w.heap.size w wr) (fun _ iv _ => ys.length - (intOf iv).toNat)
      case atStart => exact ⟨0, Nat.zero_le _, rfl, by simp, hB⟩
      case round =>
        clear hB
        obtain ⟨j, hj, rfl, rfl, hB⟩ := hrel
        by_cases hjl : j < ys.length
        · obtain ⟨b2, o2, rfl, hb2, f0, f1⟩ := rg_cells (SlV.below ht.out hB) (List.getElem?_eq_getElem hjl)
          have g0 : wr.cell? ⟨b1, o1 + k * 2, none⟩ = some (.int .i64 x1) := (hB.cell (p := ⟨b1, _, none⟩) hb1).trans a0
          have g1 : wr.cell? ⟨b1, o1 + k * 2 + 1, none⟩ = some (.int .i64 x2) := (hB.cell (p := ⟨b1, _, none⟩) hb1).trans a1
          have T1 := Lib.hid (List.take_succ_eq_append_getElem (l := ys) hjl)
          generalize ys[j] = y at *
          obtain ⟨y1, y2⟩ := y
          dsimp only at f0 f1
          have hjl' : (j : Int) < (ys.length : Int) := by omega
          have HV := Lib.hid (show (ys.take (j + 1)).any (inR (x1, x2)) = ((ys.take j).any (inR (x1, x2)) || (decide (y1 ≤ x1) && decide (x2 ≤ y2))) by rw [T1.out, List.any_append]; simp [inR])
          cases hq : (ys.take j).any (inR (x1, x2))
          · rw [hq] at HV
            clear hq
            by_cases h1 : y1 ≤ x1
            · have e1 : decide (y1 ≤ x1) = true := decide_eq_true h1
              go_wp2_with fail
              go_quiet (fail)
              go_wp2_with fail
              go_roundw
              case rel => exact ⟨j + 1, by omega, by go_num, by rw [HV.out, e1]; simp, below_drewN hB _⟩
              case measure => simp [intOf]; omega
            · have e1 : decide (y1 ≤ x1) = false := decide_eq_false h1
              go_wp2_with fail
              go_quiet (fail)
              go_wp2_with fail
              go_roundw
              case rel => exact ⟨j + 1, by omega, by go_num, by rw [HV.out, e1]; simp, below_drewN hB _⟩
              case measure => simp [intOf]; omega
          · rw [hq] at HV
            clear hq
            go_wp2_with fail
            go_quiet (fail)
            go_wp2_with fail
            go_roundw
            case rel => exact ⟨j + 1, by omega, by go_num, by rw [HV.out]; simp, below_drewN hB _⟩
            case measure => simp [intOf]; omega
        · obtain rfl : j = ys.length := by omega
          rw [List.take_length]
          have hjl' : ¬ (ys.length : Int) < (ys.length : Int) := by omega
          cases hq : ys.any (inR (x1, x2))
          · have HZ := Lib.hid (show P = false by rw [hf.out, D.out, List.all_cons, hq]; rfl)
            clear hq
            go_wp2_with fail
            go_ret
            exact ⟨ret_b (by rw [HZ.out]), hB⟩
          · have HZ := Lib.hid (show P = (xs.drop (k + 1)).all (fun x => ys.any (inR x)) by rw [hf.out, D.out, List.all_cons, hq]; rfl)
            clear hq
            go_wp2_with fail
            go_roundw
            case rel => exact ⟨k + 1, by omega, by go_num, HZ, hB⟩
            case measure => simp [intOf]; omega
    · obtain rfl : k = xs.length := by omega
      have HZ := Lib.hid (show P = true by rw [hf.out, List.drop_length]; rfl)
      have hlt' : ¬ (xs.length : Int) < (xs.length : Int) := by omega
      go_wp2_with fail
      go_ret
      exact ⟨ret_b (by rw [HZ.out]), hB⟩

end Go.Proofs.Ytgbckdmhmkpahaa

/-
  The reference of CheckProfile (chapter 2): ProfileErr.
-/
import Derived.Test.YtgbckdmhmkpahaaChkProf
set_option linter.unusedVariables false
namespace Go.Proofs.Ytgbckdmhmkpahaa
open Go.RowKit Go.Shelf

def prfErrP (sp st : Int) (xs : List Int) : Int × Int := if 200 < xs.length then (0, 8) else chkFrom sp st 0 0 0 xs

set_option maxHeartbeats 4000000 in
set_option maxRecDepth 100000 in
theorem refProfileErr_c (sp st : Int) (xs : List Int) (A : Option Addr) (c : Nat) (w : World) (i1 : 1 ≤ sp ∧ sp ≤ 100) (i2 : 1 ≤ st ∧ st ≤ 100) (hn : xs.length ≤ 100000) (hs : SlI w A xs) :
    Calls Try.prog 32 #[.agg #[.int .i64 sp, .int .i64 st], .slice A xs.length c] w fun e w' => e = .returned (.tuple #[.int .i64 (prfErrP sp st xs).1, .int .i64 (prfErrP sp st xs).2]) ∧ Below w.heap.size w w' := by
  by_cases hlen : 200 < xs.length
  · have R := Lib.hid (show prfErrP sp st xs = (0, 8) from if_pos hlen)
    have d1 : decide ((200 : Int) < (xs.length : Int)) = true := decide_eq_true (by omega)
    have d2 : decide (200 < xs.length) = true := decide_eq_true hlen
    go_enter Try.func32, Try.ntmps32
    go_wp2_with fail
    go_ret2
    exact ⟨ret_ii (by rw [R.out]) (by rw [R.out]), by focus ((repeat first | with_reducible exact Below.refl _ _ | (with_reducible refine Below.setCell ?_ ?_ _) | (with_reducible refine Below.alloc ?_ ?_ _) | (with_reducible refine below_drewN ?_ _) | (with_reducible refine Below.drew ?_)); all_goals (first | with_reducible exact Nat.le_refl _ | omega | (simp; done) | (simp; omega) | (omega) | ((try simp); omega)))⟩
  · have d1 : decide ((200 : Int) < (xs.length : Int)) = false := decide_eq_false (by omega)
    have d2 : decide (200 < xs.length) = false := decide_eq_false hlen
    have hR0 : prfErrP sp st xs = chkFrom sp st 0 0 0 xs := if_neg hlen
    have HS := Lib.hid hs
    generalize prfErrP sp st xs = R at *
    have HR := Lib.hid hR0
    clear hR0 hs
    have hle : xs.length ≤ 200 := by omega
    go_enter Try.func32, Try.ntmps32
    go_wp2_with fail
    go_loopw [6, 7, 8] (fun su la i wr => ∃ (k : Nat) (last sum : Int), k ≤ xs.length ∧ la = .int .i64 last ∧ su = .int .i64 sum ∧ i = .int .i64 (k : Int) ∧ Hid (R = chkFrom sp st last sum k (xs.drop k)) ∧ 0 ≤ last ∧ last ≤ 100 ∧ 0 ≤ sum ∧ sum ≤ 100 * (k : Int) ∧ Box wr w.heap.size 56 #[.int .i64 sp, .int .i64 st] ∧ Below w.heap.size w wr) (fun _ _ i _ => xs.length - (intOf i).toNat)
    case atStart => exact ⟨0, 0, 0, Nat.zero_le _, rfl, rfl, rfl, HR.out, by omega, by omega, by omega, by omega, Box.new _ _ _, by focus ((repeat first | with_reducible exact Below.refl _ _ | (with_reducible refine Below.setCell ?_ ?_ _) | (with_reducible refine Below.alloc ?_ ?_ _) | (with_reducible refine below_drewN ?_ _) | (with_reducible refine Below.drew ?_)); all_goals (first | with_reducible exact Nat.le_refl _ | omega | (simp; done) | (simp; omega) | (omega) | ((try simp); omega)))⟩
    case round =>
      obtain ⟨k, last, sum, hk, rfl, rfl, rfl, hf, l1, l2, s1, s2, hX', hB'⟩ := hrel
      clear HR
      have c0 := hX'.cell 0; have c1 := hX'.cell 1
      simp at c0 c1
      have hl := hX'.lt
      by_cases hlt : k < xs.length
      · obtain ⟨b, off, rfl, hb, hc⟩ := (SlI.below HS.out hB') k _ (List.getElem?_eq_getElem hlt)
        have HD := Lib.hid (List.drop_eq_getElem_cons hlt)
        generalize xs[k] = v at *
        have G := Lib.hid (show R = if inB v 0 sp = false then ((k : Int), 2) else if inB (v - last) (-st) st = false then ((k : Int), 22) else chkFrom sp st v (sum + v) ((k : Int) + 1) (xs.drop (k + 1)) from by rw [hf.out, HD.out]; rfl)
        have i0 : (k : Int) < xs.length := by omega
        cases h1 : inB v 0 sp with
        | false =>
          have R1 := Lib.hid (show R = ((k : Int), 2) from by rw [G.out, if_pos h1])
          go_upto_region 7 with fail
          go_region_held3 (fun w' => w'.cell? ⟨w.heap.size, 0, none⟩ = some (.int .i64 sp) ∧ w'.cell? ⟨w.heap.size, 1, none⟩ = some (.int .i64 st) ∧ w'.cell? ⟨b, off + k, none⟩ = some (.int .i64 v)) (go_keep) (first | (go_at_call 37; refine (within_b _ _ _ _).mono ?_; rintro e w' ⟨rfl, rfl⟩) | fail)
          all_goals go_wp2_with fail
          all_goals go_ret2
          all_goals exact ⟨ret_ii (by rw [R1.out]) (by rw [R1.out]), by focus ((repeat first | with_reducible exact Below.refl _ _ | (with_reducible refine Below.setCell ?_ ?_ _) | (with_reducible refine Below.alloc ?_ ?_ _) | (with_reducible refine below_drewN ?_ _) | (with_reducible refine Below.drew ?_) | (with_reducible refine Below.trans ?_ (Below.mono hB' ?_))); all_goals (first | with_reducible exact Nat.le_refl _ | omega | (simp; done) | (simp; omega) | (have := hB'.size; (try simp at this); omega) | (have := hB'.size; (try simp at this); (try simp); omega)))⟩
        | true =>
          have j1 := inB_true.1 h1
          have w1 : IntKind.i64.wrap (v - last) = v - last := IntWalk.i64_in _ (by omega)
          have w2 : IntKind.i64.wrap (sum + v) = sum + v := IntWalk.i64_in _ (by omega)
          cases h2 : inB (v - last) (-st) st with
          | false =>
            have R1 := Lib.hid (show R = ((k : Int), 22) from by rw [G.out, if_neg (by simp [h1]), if_pos h2])
            have e1 : decide (st < absI (v - last)) = true := decide_eq_true (by
              by_cases hq : st < absI (v - last)
              · exact hq
              · have := (absI_in' (d := v - last) (t := st) (by omega)).2 hq
                rw [h2] at this; cases this)
            go_upto_region 7 with fail
            go_region_held3 (fun w' => w'.cell? ⟨w.heap.size, 0, none⟩ = some (.int .i64 sp) ∧ w'.cell? ⟨w.heap.size, 1, none⟩ = some (.int .i64 st) ∧ w'.cell? ⟨b, off + k, none⟩ = some (.int .i64 v)) (go_keep) (first | (go_at_call 37; refine (within_b _ _ _ _).mono ?_; rintro e w' ⟨rfl, rfl⟩) | fail)
            all_goals go_upto_region 9 with fail
            all_goals go_region_held3 (fun w' => w'.cell? ⟨w.heap.size, 0, none⟩ = some (.int .i64 sp) ∧ w'.cell? ⟨w.heap.size, 1, none⟩ = some (.int .i64 st) ∧ w'.cell? ⟨b, off + k, none⟩ = some (.int .i64 v)) (go_keep) (first | (go_at_call 77; refine (size_c _ _ (by omega) (by omega)).mono ?_; rintro e w' ⟨rfl, rfl⟩) | fail)
            all_goals go_wp2_with fail
            all_goals go_ret2
            all_goals exact ⟨ret_ii (by rw [R1.out]) (by rw [R1.out]), by focus ((repeat first | with_reducible exact Below.refl _ _ | (with_reducible refine Below.setCell ?_ ?_ _) | (with_reducible refine Below.alloc ?_ ?_ _) | (with_reducible refine below_drewN ?_ _) | (with_reducible refine Below.drew ?_) | (with_reducible refine Below.trans ?_ (Below.mono hB' ?_))); all_goals (first | with_reducible exact Nat.le_refl _ | omega | (simp; done) | (simp; omega) | (have := hB'.size; (try simp at this); omega) | (have := hB'.size; (try simp at this); (try simp); omega)))⟩
          | true =>
            have R1 := Lib.hid (show R = chkFrom sp st v (sum + v) ((k : Int) + 1) (xs.drop (k + 1)) from by rw [G.out, if_neg (by simp [h1]), if_neg (by simp [h2])])
            have e1 : decide (st < absI (v - last)) = false := decide_eq_false ((absI_in' (by omega)).1 h2)
            go_upto_region 7 with fail
            go_region_held3 (fun w' => w'.cell? ⟨w.heap.size, 0, none⟩ = some (.int .i64 sp) ∧ w'.cell? ⟨w.heap.size, 1, none⟩ = some (.int .i64 st) ∧ w'.cell? ⟨b, off + k, none⟩ = some (.int .i64 v)) (go_keep) (first | (go_at_call 37; refine (within_b _ _ _ _).mono ?_; rintro e w' ⟨rfl, rfl⟩) | fail)
            all_goals go_upto_region 9 with fail
            all_goals go_region_held3 (fun w' => w'.cell? ⟨w.heap.size, 0, none⟩ = some (.int .i64 sp) ∧ w'.cell? ⟨w.heap.size, 1, none⟩ = some (.int .i64 st) ∧ w'.cell? ⟨b, off + k, none⟩ = some (.int .i64 v)) (go_keep) (first | (go_at_call 77; refine (size_c _ _ (by omega) (by omega)).mono ?_; rintro e w' ⟨rfl, rfl⟩) | fail)
            all_goals go_upto_region 11 with fail
            all_goals go_quiet (fail)
            all_goals go_wp2_with fail
            all_goals go_roundw
            case rel => exact ⟨k + 1, v, sum + v, by omega, rfl, rfl, by go_num, by unfold Hid; rw [R1.out]; push_cast; rfl, by omega, by omega, by omega, by omega, by focus (apply Box.via; apply Exists.intro; apply And.intro; (repeat first | with_reducible assumption | with_reducible exact Box.new _ _ _ | ((with_reducible apply Box.newAt); focus (simp; done)) | (with_reducible apply Box.drew) | (with_reducible apply Box.drewN) | (with_reducible apply Box.set) | (with_reducible apply Box.alloc) | (with_reducible apply Box.far)); all_goals (first | with_reducible exact Nat.le_refl _ | omega | (simp; done) | (simp; omega) | (omega) | ((try simp); omega))), by focus ((repeat first | with_reducible exact Below.refl _ _ | (with_reducible refine Below.setCell ?_ ?_ _) | (with_reducible refine Below.alloc ?_ ?_ _) | (with_reducible refine below_drewN ?_ _) | (with_reducible refine Below.drew ?_) | (with_reducible refine Below.trans ?_ (Below.mono hB' ?_))); all_goals (first | with_reducible exact Nat.le_refl _ | omega | (simp; done) | (simp; omega) | (have := hB'.size; (try simp at this); omega) | (have := hB'.size; (try simp at this); (try simp); omega)))⟩
            case measure => (simp [intOf]; try omega)
      · have G := Lib.hid (show R = if st < last then ((k : Int) - 1, 21) else (sum, 0) from by rw [hf.out, List.drop_eq_nil_of_le (by omega)]; rfl)
        have hkl : (xs.length : Int) = k := by omega
        have w1 : IntKind.i64.wrap ((xs.length : Int) - 1) = (xs.length : Int) - 1 := IntWalk.i64_in _ (by omega)
        have HK := Lib.hid hkl
        clear hkl
        by_cases hst : st < last
        · have e1 : decide (st < last) = true := decide_eq_true hst
          have R1 := Lib.hid (show R = ((k : Int) - 1, 21) from by rw [G.out, if_pos hst])
          go_wp2_with fail
          go_ret2
          exact ⟨ret_ii (by rw [R1.out, HK.out]) (by rw [R1.out]), hB'⟩
        · have e1 : decide (st < last) = false := decide_eq_false hst
          have R1 := Lib.hid (show R = (sum, 0) from by rw [G.out, if_neg hst])
          go_wp2_with fail
          go_ret2
          exact ⟨ret_ii (by rw [R1.out]) (by rw [R1.out]), hB'⟩

end Go.Proofs.Ytgbckdmhmkpahaa

/-
  The walks of CheckProfile and of its reference (chapter 2).
-/
import Derived.Test.YtgbckdmhmkpahaaRefProf2
import Derived.Test.YtgbckdmhmkpahaaLoops
import Derived.Test.YtgbckdmhmkpahaaPred
import Derived.BigQuiet
set_option linter.unusedVariables false
namespace Go.Proofs.Ytgbckdmhmkpahaa
open Go.RowKit Go.Shelf

/-- What CheckProfile answers of a profile of few ticks. -/
def chkFrom (sp st : Int) : Int → Int → Int → List Int → Int × Int
  | last, sum, i, [] => if st < last then (i - 1, 21) else (sum, 0)
  | last, sum, i, v :: l => if inB v 0 sp = false then (i, 2) else if inB (v - last) (-st) st = false then (i, 22) else chkFrom sp st v (sum + v) (i + 1) l
def cpf0 (sp st : Int) (xs : List Int) : Int := fstE [limE sp st, unl (decide ((xs.length : Int) ≤ 200)) 8]
def cpfP (sp st : Int) (xs : List Int) : Int × Int := if cpf0 sp st xs ≠ 0 then (0, cpf0 sp st xs) else chkFrom sp st 0 0 0 xs
theorem absI_in' {d t : Int} (h : 0 ≤ t) : inB d (-t) t = true ↔ ¬ t < absI d := by
  rw [inB_true]
  unfold absI
  split <;> omega

set_option maxHeartbeats 2000000 in
set_option maxRecDepth 100000 in
theorem checkProfile_no (sp st : Int) (xs : List Int) (A : Option Addr) (c : Nat) (w : World) (he : cpf0 sp st xs ≠ 0) :
    Calls Try.prog 28 #[.agg #[.int .i64 sp, .int .i64 st], .slice A xs.length c] w fun e w' => e = .returned (.tuple #[.int .i64 0, .int .i64 (cpf0 sp st xs)]) ∧ Below w.heap.size w w' := by
  have e1 := bneT he
  have F := Lib.hid (show cpf0 sp st xs = fstE [limE sp st, unl (decide ((xs.length : Int) ≤ 200)) 8] from rfl)
  rw [F.out] at e1
  clear he
  generalize cpf0 sp st xs = E at *
  go_enter Try.func28, Try.ntmps28
  go_wp2_with (first | (go_at_call 90; refine (limitsErr_c _ _ _).mono ?_; rintro e w1 ⟨rfl, hb1⟩; (have q : Box w1 w.heap.size 56 #[.int .i64 sp, .int .i64 st] := (by focus (apply Box.via; apply Exists.intro; apply And.intro; (repeat first | with_reducible assumption | with_reducible exact Box.new _ _ _ | ((with_reducible apply Box.newAt); focus (simp; done)) | (with_reducible apply Box.drew) | (with_reducible apply Box.drewN) | (with_reducible apply Box.set) | (with_reducible apply Box.alloc) | (with_reducible apply Box.far) | (with_reducible apply Box.below (hb := hb1))); all_goals (first | with_reducible exact Nat.le_refl _ | omega | (simp; done) | (simp; omega) | (have := hb1.size; (try simp at this); omega) | (have := hb1.size; (try simp at this); (try simp); omega))))); (have hB1 : Below w.heap.size w w1 := (by focus ((repeat first | with_reducible exact Below.refl _ _ | (with_reducible refine Below.setCell ?_ ?_ _) | (with_reducible refine Below.alloc ?_ ?_ _) | (with_reducible refine below_drewN ?_ _) | (with_reducible refine Below.drew ?_) | (with_reducible refine Below.trans ?_ (Below.mono hb1 ?_))); all_goals (first | with_reducible exact Nat.le_refl _ | omega | (simp; done) | (simp; omega) | (have := hb1.size; (try simp at this); omega) | (have := hb1.size; (try simp at this); (try simp); omega))))); (have hlq := q.lt)) | (go_at_call 81; refine (unless_c _ _ _).mono ?_; rintro e w' ⟨rfl, rfl⟩) | (go_at_call 84; refine (first2a _ _ _ _ _ (by simp)).mono ?_; rintro e w' ⟨rfl, rfl⟩) | (go_at_call 84; refine (first2d _ _ _ _ _ (by simp)).mono ?_; rintro e w' ⟨rfl, rfl⟩) | (go_at_call 84; refine (first2dd _ _ _ _ _ (by simp)).mono ?_; rintro e w' ⟨rfl, rfl⟩) | fail)
  go_ret2
  exact ⟨ret_t2 rfl (vint (by rw [F.out])), by focus ((repeat first | with_reducible exact Below.refl _ _ | (with_reducible refine Below.setCell ?_ ?_ _) | (with_reducible refine Below.alloc ?_ ?_ _) | (with_reducible refine below_drewN ?_ _) | (with_reducible refine Below.drew ?_) | (with_reducible refine Below.trans ?_ (Below.mono hb1 ?_))); all_goals (first | with_reducible exact Nat.le_refl _ | omega | (simp; done) | (simp; omega) | (have := hb1.size; (try simp at this); omega) | (have := hb1.size; (try simp at this); (try simp); omega)))⟩

set_option maxHeartbeats 4000000 in
set_option maxRecDepth 100000 in
theorem checkProfile_yes (sp st : Int) (xs : List Int) (A : Option Addr) (c : Nat) (w : World) (hs : SlI w A xs) (he : cpf0 sp st xs = 0) :
    Calls Try.prog 28 #[.agg #[.int .i64 sp, .int .i64 st], .slice A xs.length c] w fun e w' => e = .returned (.tuple #[.int .i64 (chkFrom sp st 0 0 0 xs).1, .int .i64 (chkFrom sp st 0 0 0 xs).2]) ∧ Below w.heap.size w w' := by
  have F := Lib.hid (show cpf0 sp st xs = fstE [limE sp st, unl (decide ((xs.length : Int) ≤ 200)) 8] from rfl)
  have hlim : limE sp st = 0 := by
    by_cases h : limE sp st = 0
    · exact h
    · have e := F.out; rw [fst2, if_neg h, he] at e; exact absurd e.symm h
  obtain ⟨i1, i2⟩ := limE_ok hlim
  have hlen : xs.length ≤ 200 := by
    have e := F.out
    rw [fst2, if_pos hlim, he] at e
    by_cases h : (xs.length : Int) ≤ 200
    · omega
    · rw [decide_eq_false h] at e; cases e
  have E0 := Lib.hid (show fstE [limE sp st, unl (decide ((xs.length : Int) ≤ 200)) 8] = 0 from by rw [← F.out]; exact he)
  have L := Lib.hid (fun W => limitsErr_c sp st W)
  have HS := Lib.hid hs
  generalize hR : chkFrom sp st 0 0 0 xs = R
  have HR := Lib.hid hR.symm
  clear hR he F hlim hs
  generalize limE sp st = LEv at *
  go_enter Try.func28, Try.ntmps28
  go_upto_region 1 with fail
  go_cut [6] (fun s wx => s = .int .i64 0 ∧ Box wx w.heap.size 56 #[.int .i64 sp, .int .i64 st] ∧ Below w.heap.size w wx)
  case first =>
    go_wp2_with (first | (go_at_call 90; refine (L.out _).mono ?_; rintro e w1 ⟨rfl, hb1⟩; (have hlq : w.heap.size < w1.heap.size := (by have := hb1.size; (try simp at this); omega))) | (go_at_call 81; refine (unless_c _ _ _).mono ?_; rintro e w' ⟨rfl, rfl⟩) | (go_at_call 84; refine (first2a _ _ _ _ _ (by simp)).mono ?_; rintro e w' ⟨rfl, rfl⟩) | (go_at_call 84; refine (first2d _ _ _ _ _ (by simp)).mono ?_; rintro e w' ⟨rfl, rfl⟩) | (go_at_call 84; refine (first2dd _ _ _ _ _ (by simp)).mono ?_; rintro e w' ⟨rfl, rfl⟩) | fail)
    go_meet
    refine ⟨vint E0.out, ?_, ?_⟩
    all_goals first | (focus (apply Box.via; apply Exists.intro; apply And.intro; (repeat first | with_reducible assumption | with_reducible exact Box.new _ _ _ | ((with_reducible apply Box.newAt); focus (simp; done)) | (with_reducible apply Box.drew) | (with_reducible apply Box.drewN) | (with_reducible apply Box.set) | (with_reducible apply Box.alloc) | (with_reducible apply Box.far) | (with_reducible apply Box.below (hb := hb1))); all_goals (first | with_reducible exact Nat.le_refl _ | omega | (simp; done) | (simp; omega) | (have := hb1.size; (try simp at this); omega) | (have := hb1.size; (try simp at this); (try simp); omega)))) | (focus ((repeat first | with_reducible exact Below.refl _ _ | (with_reducible refine Below.setCell ?_ ?_ _) | (with_reducible refine Below.alloc ?_ ?_ _) | (with_reducible refine below_drewN ?_ _) | (with_reducible refine Below.drew ?_) | (with_reducible refine Below.trans ?_ (Below.mono hb1 ?_))); all_goals (first | with_reducible exact Nat.le_refl _ | omega | (simp; done) | (simp; omega) | (have := hb1.size; (try simp at this); omega) | (have := hb1.size; (try simp at this); (try simp); omega))))
  case rest =>
    obtain ⟨rfl, hX, hB⟩ := hcut
    clear E0 L
    go_wp2_with fail
    go_loopw [7, 8, 25] (fun la su i wr => ∃ (k : Nat) (last sum : Int), k ≤ xs.length ∧ la = .int .i64 last ∧ su = .int .i64 sum ∧ i = .int .i64 (k : Int) ∧ Hid (R = chkFrom sp st last sum k (xs.drop k)) ∧ 0 ≤ last ∧ last ≤ 100 ∧ 0 ≤ sum ∧ sum ≤ 100 * (k : Int) ∧ Box wr w.heap.size 56 #[.int .i64 sp, .int .i64 st] ∧ Below w.heap.size w wr) (fun _ _ i _ => xs.length - (intOf i).toNat)
    case atStart => exact ⟨0, 0, 0, Nat.zero_le _, rfl, rfl, rfl, HR.out, by omega, by omega, by omega, by omega, hX, hB⟩
    case round =>
      obtain ⟨k, last, sum, hk, rfl, rfl, rfl, hf, l1, l2, s1, s2, hX', hB'⟩ := hrel
      clear hX hB HR
      have c0 := hX'.cell 0; have c1 := hX'.cell 1
      simp at c0 c1
      have hl := hX'.lt
      by_cases hlt : k < xs.length
      · obtain ⟨b, off, rfl, hb, hc⟩ := (SlI.below HS.out hB') k _ (List.getElem?_eq_getElem hlt)
        have HD := Lib.hid (List.drop_eq_getElem_cons hlt)
        generalize xs[k] = v at *
        have G := Lib.hid (show R = if inB v 0 sp = false then ((k : Int), 2) else if inB (v - last) (-st) st = false then ((k : Int), 22) else chkFrom sp st v (sum + v) ((k : Int) + 1) (xs.drop (k + 1)) from by rw [hf.out, HD.out]; rfl)
        have i0 : (k : Int) < xs.length := by omega
        have hne : w.heap.size ≠ wr.heap.size := by omega
        have hne' : wr.heap.size ≠ w.heap.size := by omega
        cases h1 : inB v 0 sp with
        | false =>
          have R1 := Lib.hid (show R = ((k : Int), 2) from by rw [G.out, if_pos h1])
          have e1 : ∀ x, fstE [unl false 2, x] = 2 := fun x => rfl
          go_upto_region 8 with fail
          go_region_held3 (fun w' => w'.cell? ⟨w.heap.size, 0, none⟩ = some (.int .i64 sp) ∧ w'.cell? ⟨w.heap.size, 1, none⟩ = some (.int .i64 st)) (go_keep) (first | (go_at_call 91; refine (within_w _ _ _ _).mono ?_; rintro e w' ⟨rfl, rfl⟩) | (go_at_call 81; refine (unless_c _ _ _).mono ?_; rintro e w' ⟨rfl, rfl⟩) | (go_at_call 92; refine (isSized_c _ _ _ (by omega) (by omega)).mono ?_; rintro e w' ⟨rfl, rfl⟩) | (go_at_call 84; refine (first2a _ _ _ _ _ (by simp)).mono ?_; rintro e w' ⟨rfl, rfl⟩) | (go_at_call 84; refine (first2d _ _ _ _ _ (by simp)).mono ?_; rintro e w' ⟨rfl, rfl⟩) | (go_at_call 84; refine (first2dd _ _ _ _ _ (by simp)).mono ?_; rintro e w' ⟨rfl, rfl⟩) | fail)
          all_goals go_wp2_with fail
          all_goals go_ret2
          all_goals exact ⟨ret_ii (by rw [R1.out]) (by rw [R1.out]), by focus ((repeat first | with_reducible exact Below.refl _ _ | (with_reducible refine Below.setCell ?_ ?_ _) | (with_reducible refine Below.alloc ?_ ?_ _) | (with_reducible refine below_drewN ?_ _) | (with_reducible refine Below.drew ?_) | (with_reducible refine Below.trans ?_ (Below.mono hB' ?_))); all_goals (first | with_reducible exact Nat.le_refl _ | omega | (simp; done) | (simp; omega) | (have := hB'.size; (try simp at this); omega) | (have := hB'.size; (try simp at this); (try simp); omega)))⟩
        | true =>
          have j1 := inB_true.1 h1
          have w1 : IntKind.i64.wrap (v - last) = v - last := IntWalk.i64_in _ (by omega)
          have w2 : IntKind.i64.wrap (sum + v) = sum + v := IntWalk.i64_in _ (by omega)
          cases h2 : inB (v - last) (-st) st with
          | false =>
            have R1 := Lib.hid (show R = ((k : Int), 22) from by rw [G.out, if_neg (by simp [h1]), if_pos h2])
            have e1 : fstE [unl true 2, unl false 22] = 22 := rfl
            go_upto_region 8 with fail
            go_region_held3 (fun w' => w'.cell? ⟨w.heap.size, 0, none⟩ = some (.int .i64 sp) ∧ w'.cell? ⟨w.heap.size, 1, none⟩ = some (.int .i64 st)) (go_keep) (first | (go_at_call 91; refine (within_w _ _ _ _).mono ?_; rintro e w' ⟨rfl, rfl⟩) | (go_at_call 81; refine (unless_c _ _ _).mono ?_; rintro e w' ⟨rfl, rfl⟩) | (go_at_call 92; refine (isSized_c _ _ _ (by omega) (by omega)).mono ?_; rintro e w' ⟨rfl, rfl⟩) | (go_at_call 84; refine (first2a _ _ _ _ _ (by simp)).mono ?_; rintro e w' ⟨rfl, rfl⟩) | (go_at_call 84; refine (first2d _ _ _ _ _ (by simp)).mono ?_; rintro e w' ⟨rfl, rfl⟩) | (go_at_call 84; refine (first2dd _ _ _ _ _ (by simp)).mono ?_; rintro e w' ⟨rfl, rfl⟩) | fail)
            all_goals go_wp2_with fail
            all_goals go_ret2
            all_goals exact ⟨ret_ii (by rw [R1.out]) (by rw [R1.out]), by focus ((repeat first | with_reducible exact Below.refl _ _ | (with_reducible refine Below.setCell ?_ ?_ _) | (with_reducible refine Below.alloc ?_ ?_ _) | (with_reducible refine below_drewN ?_ _) | (with_reducible refine Below.drew ?_) | (with_reducible refine Below.trans ?_ (Below.mono hB' ?_))); all_goals (first | with_reducible exact Nat.le_refl _ | omega | (simp; done) | (simp; omega) | (have := hB'.size; (try simp at this); omega) | (have := hB'.size; (try simp at this); (try simp); omega)))⟩
          | true =>
            have R1 := Lib.hid (show R = chkFrom sp st v (sum + v) ((k : Int) + 1) (xs.drop (k + 1)) from by rw [G.out, if_neg (by simp [h1]), if_neg (by simp [h2])])
            have e1 : fstE [unl true 2, unl true 22] = 0 := rfl
            go_upto_region 8 with fail
            go_region_held3 (fun w' => w'.cell? ⟨w.heap.size, 0, none⟩ = some (.int .i64 sp) ∧ w'.cell? ⟨w.heap.size, 1, none⟩ = some (.int .i64 st)) (go_keep) (first | (go_at_call 91; refine (within_w _ _ _ _).mono ?_; rintro e w' ⟨rfl, rfl⟩) | (go_at_call 81; refine (unless_c _ _ _).mono ?_; rintro e w' ⟨rfl, rfl⟩) | (go_at_call 92; refine (isSized_c _ _ _ (by omega) (by omega)).mono ?_; rintro e w' ⟨rfl, rfl⟩) | (go_at_call 84; refine (first2a _ _ _ _ _ (by simp)).mono ?_; rintro e w' ⟨rfl, rfl⟩) | (go_at_call 84; refine (first2d _ _ _ _ _ (by simp)).mono ?_; rintro e w' ⟨rfl, rfl⟩) | (go_at_call 84; refine (first2dd _ _ _ _ _ (by simp)).mono ?_; rintro e w' ⟨rfl, rfl⟩) | fail)
            all_goals go_wp2_with fail
            all_goals go_roundw
            case rel => exact ⟨k + 1, v, sum + v, by omega, rfl, rfl, by go_num, by unfold Hid; rw [R1.out]; push_cast; rfl, by omega, by omega, by omega, by omega, by focus (apply Box.via; apply Exists.intro; apply And.intro; (repeat first | with_reducible assumption | with_reducible exact Box.new _ _ _ | ((with_reducible apply Box.newAt); focus (simp; done)) | (with_reducible apply Box.drew) | (with_reducible apply Box.drewN) | (with_reducible apply Box.set) | (with_reducible apply Box.alloc) | (with_reducible apply Box.far)); all_goals (first | with_reducible exact Nat.le_refl _ | omega | (simp; done) | (simp; omega) | (omega) | ((try simp); omega))), by focus ((repeat first | with_reducible exact Below.refl _ _ | (with_reducible refine Below.setCell ?_ ?_ _) | (with_reducible refine Below.alloc ?_ ?_ _) | (with_reducible refine below_drewN ?_ _) | (with_reducible refine Below.drew ?_) | (with_reducible refine Below.trans ?_ (Below.mono hB' ?_))); all_goals (first | with_reducible exact Nat.le_refl _ | omega | (simp; done) | (simp; omega) | (have := hB'.size; (try simp at this); omega) | (have := hB'.size; (try simp at this); (try simp); omega)))⟩
            case measure => (simp [intOf]; try omega)
      · have G := Lib.hid (show R = if st < last then ((k : Int) - 1, 21) else (sum, 0) from by rw [hf.out, List.drop_eq_nil_of_le (by omega)]; rfl)
        have hkl : (xs.length : Int) = k := by omega
        have w1 : IntKind.i64.wrap ((xs.length : Int) - 1) = (xs.length : Int) - 1 := IntWalk.i64_in _ (by omega)
        have HK := Lib.hid hkl
        clear hkl
        by_cases hst : st < last
        · have e1 : decide (st < last) = true := decide_eq_true hst
          have R1 := Lib.hid (show R = ((k : Int) - 1, 21) from by rw [G.out, if_pos hst])
          go_wp2_with fail
          go_ret2
          exact ⟨ret_ii (by rw [R1.out, HK.out]) (by rw [R1.out]), hB'⟩
        · have e1 : decide (st < last) = false := decide_eq_false hst
          have R1 := Lib.hid (show R = (sum, 0) from by rw [G.out, if_neg hst])
          go_wp2_with fail
          go_ret2
          exact ⟨ret_ii (by rw [R1.out]) (by rw [R1.out]), hB'⟩

theorem checkProfile_c (sp st : Int) (xs : List Int) (A : Option Addr) (c : Nat) (w : World) (hs : SlI w A xs) :
    Calls Try.prog 28 #[.agg #[.int .i64 sp, .int .i64 st], .slice A xs.length c] w fun e w' => e = .returned (.tuple #[.int .i64 (cpfP sp st xs).1, .int .i64 (cpfP sp st xs).2]) ∧ Below w.heap.size w w' := by
  by_cases h : cpf0 sp st xs = 0
  · rw [show cpfP sp st xs = chkFrom sp st 0 0 0 xs from if_neg (by simpa using h)]; exact checkProfile_yes sp st xs A c w hs h
  · rw [show cpfP sp st xs = (0, cpf0 sp st xs) from if_pos h]; exact checkProfile_no sp st xs A c w h

end Go.Proofs.Ytgbckdmhmkpahaa

/-
  The law WinchNext (chapter 2): the walk.
-/
import Derived.Test.YtgbckdmhmkpahaaRefs2
import Derived.Test.YtgbckdmhmkpahaaAwake
import Derived.Deep.DeepCutAuto
import Derived.Deep.RegionHeld3
set_option linter.unusedVariables false
namespace Go.Proofs.Ytgbckdmhmkpahaa
open Go.RowKit Go.Shelf
attribute [local go_sem ↓] eqlO_pr neqO_pr eqlO_fr neqO_fr

theorem Box.viaNew {w1 w2 : World} {t : TypeId} {cs : Array Value} (hb : Below (w1.alloc (.cells cs t)).heap.size (w1.alloc (.cells cs t)) w2) : Box w2 w1.heap.size t cs := (Box.new w1 t cs).below hb (by simp)
theorem Box.viaNewD {w1 w2 : World} {t : TypeId} {cs : Array Value} (hb : Below ((w1.alloc (.cells cs t)).drew).heap.size (w1.alloc (.cells cs t)).drew w2) : Box w2 w1.heap.size t cs := ((Box.new w1 t cs).drew).below hb (Box.new w1 t cs).lt
theorem Box.viaOld {w1 w2 : World} {g : Nat} {t : TypeId} {cs : Array Value} (h : Box w1 g t cs) (hb : Below w1.heap.size w1 w2) : Box w2 g t cs := h.below hb h.lt
theorem Box.viaOldD {w1 w2 : World} {g : Nat} {t : TypeId} {cs : Array Value} (h : Box w1 g t cs) (hb : Below w1.drew.heap.size w1.drew w2) : Box w2 g t cs := h.drew.below hb h.lt

set_option maxHeartbeats 4000000 in
set_option maxRecDepth 100000 in
theorem winchNext_no (xs : List Int) (A : Option Addr) (c : Nat) (a b d : Int) (w : World) (hn : xs.length ≤ 22) (hs : SlI w A xs) (he : nxtE xs a b d ≠ 0) :
    Calls Try.prog 4 #[.agg #[.int .i64 a, .int .i64 b, .int .i64 d], .slice A xs.length c] w fun e w' => e = .returned (.bool true) ∧ Below w.heap.size w w' := by
  have E := Lib.hid (show nxtE xs a b d = fstE [prdE a b d, (chkS xs).2] from rfl)
  have N := Lib.hid (fun B dd W h => nextBy_no xs B dd a b d W (by omega) h he)
  have C := Lib.hid (fun W h => copyInts_c xs A c W (by omega) h)
  have P := Lib.hid (fun W => refPredictorErr_c a b d W)
  have S := Lib.hid (fun W h => refSamplesErr_c xs A c W (by omega) h)
  have HE := Lib.hid he
  clear he
  generalize nxtE xs a b d = en at *
  generalize prdE a b d = pe at *
  generalize (chkS xs).2 = ce at *
  go_enter Try.func4, Try.ntmps4
  go_upto_region 5 with (go_at_call 15; refine (awake_c _).mono ?_; rintro e w1 ⟨rfl, hb1⟩)
  go_cut [5, 6] (fun s5 s6 wx => ∃ g, s5 = .pointer (some ⟨g, 0, none⟩) ∧ s6 = .int .i64 en ∧ Box wx g 47 #[.int .i64 0, .int .i64 0] ∧ Box wx w.heap.size 45 #[.int .i64 a, .int .i64 b, .int .i64 d] ∧ Below w.heap.size w wx)
  case first =>
    have q1 : Box w1 w.heap.size 45 #[.int .i64 a, .int .i64 b, .int .i64 d] := by focus (apply Box.via; apply Exists.intro; apply And.intro; (repeat first | with_reducible assumption | with_reducible exact Box.new _ _ _ | ((with_reducible apply Box.newAt); focus (simp; done)) | (with_reducible apply Box.drew) | (with_reducible apply Box.drewN) | (with_reducible apply Box.set) | (with_reducible apply Box.alloc) | (with_reducible apply Box.far) | (with_reducible apply Box.below (hb := hb1))); all_goals (first | with_reducible exact Nat.le_refl _ | omega | (simp; done) | (simp; omega) | (have := hb1.size; (try simp at this); omega) | (have := hb1.size; (try simp at this); (try simp); omega)))
    have c0 := q1.cell 0; have c1 := q1.cell 1; have c2 := q1.cell 2
    simp at c0 c1 c2
    have hl := q1.lt
    have hB1 : Below w.heap.size w w1 := by focus ((repeat first | with_reducible exact Below.refl _ _ | (with_reducible refine Below.setCell ?_ ?_ _) | (with_reducible refine Below.alloc ?_ ?_ _) | (with_reducible refine below_drewN ?_ _) | (with_reducible refine Below.drew ?_) | (with_reducible refine Below.trans ?_ (Below.mono hb1 ?_))); all_goals (first | with_reducible exact Nat.le_refl _ | omega | (simp; done) | (simp; omega) | (have := hb1.size; (try simp at this); omega) | (have := hb1.size; (try simp at this); (try simp); omega)))
    have zz1 := hB1.size
    have HS1 := Lib.hid (hs.below hB1)
    clear hs
    go_region_held3 (fun w' => w'.cell? ⟨w.heap.size, 0, none⟩ = some (.int .i64 a) ∧ w'.cell? ⟨w.heap.size, 1, none⟩ = some (.int .i64 b) ∧ w'.cell? ⟨w.heap.size, 2, none⟩ = some (.int .i64 d)) (go_keep)
      (first | (go_at_call 24; refine (C.out _ (SlI.below HS1.out (by focus ((repeat first | with_reducible exact Below.refl _ _ | (with_reducible refine Below.setCell ?_ ?_ _) | (with_reducible refine Below.alloc ?_ ?_ _) | (with_reducible refine below_drewN ?_ _) | (with_reducible refine Below.drew ?_)); all_goals (first | with_reducible exact Nat.le_refl _ | omega | (simp; done) | (simp; omega) | (omega) | ((try simp); omega)))))).mono ?_; rintro e w2 ⟨B, dd, rfl, hsB, hb2⟩; have hz2 : w.heap.size < w2.heap.size := (by have := hb2.size; (try simp at this); omega); have k20 := ((hb2).cell (p := ⟨w.heap.size, 0, none⟩) (by simp; omega)).trans (show _ = some (Value.int .i64 a) from by simp [go_sem, *]); have k21 := ((hb2).cell (p := ⟨w.heap.size, 1, none⟩) (by simp; omega)).trans (show _ = some (Value.int .i64 b) from by simp [go_sem, *]); have k22 := ((hb2).cell (p := ⟨w.heap.size, 2, none⟩) (by simp; omega)).trans (show _ = some (Value.int .i64 d) from by simp [go_sem, *]); (first | (have bx : Box w2 w1.heap.size 47 #[.int .i64 0, .int .i64 0] := Box.viaNewD hb2; have nc0 : (w2).cell? ⟨(w1).heap.size, 0, none⟩ = some (.int .i64 0) := bx.cell 0; have nc1 : (w2).cell? ⟨(w1).heap.size, 1, none⟩ = some (.int .i64 0) := bx.cell 1; have nf : ∀ o, (w2).frozen? ⟨(w1).heap.size, o, none⟩ = false := bx.froz) | (have bx : Box w2 w1.heap.size 47 #[.int .i64 0, .int .i64 0] := Box.viaNew hb2; have nc0 : (w2).cell? ⟨(w1).heap.size, 0, none⟩ = some (.int .i64 0) := bx.cell 0; have nc1 : (w2).cell? ⟨(w1).heap.size, 1, none⟩ = some (.int .i64 0) := bx.cell 1; have nf : ∀ o, (w2).frozen? ⟨(w1).heap.size, o, none⟩ = false := bx.froz) | skip); have : w.heap.size ≠ w1.heap.size := (by omega); have : w1.heap.size ≠ w.heap.size := (by omega); have : w.heap.size ≠ w2.heap.size := (by omega); have : w2.heap.size ≠ w.heap.size := (by omega)) | (go_at_call 23; refine (N.out _ _ _ (SlI.below hsB (by focus ((repeat first | with_reducible exact Below.refl _ _ | (with_reducible refine Below.setCell ?_ ?_ _) | (with_reducible refine Below.alloc ?_ ?_ _) | (with_reducible refine below_drewN ?_ _) | (with_reducible refine Below.drew ?_)); all_goals (first | with_reducible exact Nat.le_refl _ | omega | (simp; done) | (simp; omega) | (omega) | ((try simp); omega)))))).mono ?_; rintro e w3 ⟨rfl, hb3⟩; have hz3 : w.heap.size < w3.heap.size := (by have := hb3.size; (try simp at this); omega); have k30 := ((hb3).cell (p := ⟨w.heap.size, 0, none⟩) (by simp; omega)).trans (show _ = some (Value.int .i64 a) from by simp [go_sem, *]); have k31 := ((hb3).cell (p := ⟨w.heap.size, 1, none⟩) (by simp; omega)).trans (show _ = some (Value.int .i64 b) from by simp [go_sem, *]); have k32 := ((hb3).cell (p := ⟨w.heap.size, 2, none⟩) (by simp; omega)).trans (show _ = some (Value.int .i64 d) from by simp [go_sem, *]); (first | (have bx : Box w3 w1.heap.size 47 #[.int .i64 0, .int .i64 0] := Box.viaOldD bx hb3; have nc0 : (w3).cell? ⟨(w1).heap.size, 0, none⟩ = some (.int .i64 0) := bx.cell 0; have nc1 : (w3).cell? ⟨(w1).heap.size, 1, none⟩ = some (.int .i64 0) := bx.cell 1; have nf : ∀ o, (w3).frozen? ⟨(w1).heap.size, o, none⟩ = false := bx.froz) | (have bx : Box w3 w1.heap.size 47 #[.int .i64 0, .int .i64 0] := Box.viaOld bx hb3; have nc0 : (w3).cell? ⟨(w1).heap.size, 0, none⟩ = some (.int .i64 0) := bx.cell 0; have nc1 : (w3).cell? ⟨(w1).heap.size, 1, none⟩ = some (.int .i64 0) := bx.cell 1; have nf : ∀ o, (w3).frozen? ⟨(w1).heap.size, o, none⟩ = false := bx.froz) | (have bx : Box w3 w2.heap.size 47 #[.int .i64 0, .int .i64 0] := Box.viaNewD hb3; have nc0 : (w3).cell? ⟨(w2).heap.size, 0, none⟩ = some (.int .i64 0) := bx.cell 0; have nc1 : (w3).cell? ⟨(w2).heap.size, 1, none⟩ = some (.int .i64 0) := bx.cell 1; have nf : ∀ o, (w3).frozen? ⟨(w2).heap.size, o, none⟩ = false := bx.froz) | (have bx : Box w3 w2.heap.size 47 #[.int .i64 0, .int .i64 0] := Box.viaNew hb3; have nc0 : (w3).cell? ⟨(w2).heap.size, 0, none⟩ = some (.int .i64 0) := bx.cell 0; have nc1 : (w3).cell? ⟨(w2).heap.size, 1, none⟩ = some (.int .i64 0) := bx.cell 1; have nf : ∀ o, (w3).frozen? ⟨(w2).heap.size, o, none⟩ = false := bx.froz) | skip); have : w.heap.size ≠ w3.heap.size := (by omega); have : w3.heap.size ≠ w.heap.size := (by omega)) | fail)
    all_goals go_wp2_with fail
    all_goals go_meet
    all_goals
      refine ⟨_, rfl, rfl, ?hX, ?hP, ?hB⟩
      case hX => focus (apply Box.via; apply Exists.intro; apply And.intro; (repeat first | with_reducible assumption | with_reducible exact Box.new _ _ _ | ((with_reducible apply Box.newAt); focus (simp; done)) | (with_reducible apply Box.drew) | (with_reducible apply Box.drewN) | (with_reducible apply Box.set) | (with_reducible apply Box.alloc) | (with_reducible apply Box.far) | (with_reducible apply Box.below (hb := hb2)) | (with_reducible apply Box.below (hb := hb3))); all_goals (first | with_reducible exact Nat.le_refl _ | omega | (simp; done) | (simp; omega) | (have := hb2.size; (try simp at this); have := hb3.size; (try simp at this); omega) | (have := hb2.size; (try simp at this); have := hb3.size; (try simp at this); (try simp); omega)))
      case hP => focus (apply Box.via; apply Exists.intro; apply And.intro; (repeat first | with_reducible assumption | with_reducible exact Box.new _ _ _ | ((with_reducible apply Box.newAt); focus (simp; done)) | (with_reducible apply Box.drew) | (with_reducible apply Box.drewN) | (with_reducible apply Box.set) | (with_reducible apply Box.alloc) | (with_reducible apply Box.far) | (with_reducible apply Box.below (hb := hb2)) | (with_reducible apply Box.below (hb := hb3))); all_goals (first | with_reducible exact Nat.le_refl _ | omega | (simp; done) | (simp; omega) | (have := hb2.size; (try simp at this); have := hb3.size; (try simp at this); omega) | (have := hb2.size; (try simp at this); have := hb3.size; (try simp at this); (try simp); omega)))
      case hB => focus ((repeat first | with_reducible exact Below.refl _ _ | (with_reducible refine Below.setCell ?_ ?_ _) | (with_reducible refine Below.alloc ?_ ?_ _) | (with_reducible refine below_drewN ?_ _) | (with_reducible refine Below.drew ?_) | (with_reducible refine Below.trans ?_ (Below.mono hb2 ?_)) | (with_reducible refine Below.trans ?_ (Below.mono hb3 ?_)) | (with_reducible refine Below.trans ?_ (Below.mono hB1 ?_))); all_goals (first | with_reducible exact Nat.le_refl _ | omega | (simp; done) | (simp; omega) | (have := hb2.size; (try simp at this); have := hb3.size; (try simp at this); have := hB1.size; (try simp at this); omega) | (have := hb2.size; (try simp at this); have := hb3.size; (try simp at this); have := hB1.size; (try simp at this); (try simp); omega)))
  case rest =>
    obtain ⟨g, rfl, rfl, hX, hP, hB⟩ := hcut
    have c0 := hX.cell 0; have c1 := hX.cell 1
    have p0 := hP.cell 0; have p1 := hP.cell 1; have p2 := hP.cell 2
    simp at c0 c1 p0 p1 p2
    have hl := hX.lt; have hl2 := hP.lt
    have s0 : same2 0 0 0 0 = true := rfl
    have HS1 := Lib.hid (hs.below hB)
    have zz := hB.size
    clear hs
    by_cases hpe : pe = 0
    · have hce := E.out
      rw [fst2, if_pos hpe] at hce
      have t1 : (pe == 0) = true := beqT hpe
      have t2 : (ce != 0) = true := bneT (by rw [← hce]; exact HE.out)
      have t3 : (en == ce) = true := beqT hce
      clear hpe hce
      go_wp2_with (first | (go_at_call 25; refine (P.out _).mono ?_; rintro e w4 ⟨rfl, hb4⟩; obtain ⟨hc4, hf4⟩ := bcell hb4; have hz4 : g < w4.heap.size := (by have := hb4.size; omega)) | (go_at_call 26; refine (S.out _ (SlI.below HS1.out (by focus ((repeat first | with_reducible exact Below.refl _ _ | (with_reducible refine Below.setCell ?_ ?_ _) | (with_reducible refine Below.alloc ?_ ?_ _) | (with_reducible refine below_drewN ?_ _) | (with_reducible refine Below.drew ?_) | (with_reducible refine Below.trans ?_ (Below.mono hb4 ?_))); all_goals (first | with_reducible exact Nat.le_refl _ | omega | (simp; done) | (simp; omega) | (have := hb4.size; (try simp at this); omega) | (have := hb4.size; (try simp at this); (try simp); omega)))))).mono ?_; rintro e w5 ⟨rfl, hb5⟩; obtain ⟨hc5, hf5⟩ := bcell hb5) | fail)
      go_ret
      exact ⟨rfl, by focus ((repeat first | with_reducible exact Below.refl _ _ | (with_reducible refine Below.setCell ?_ ?_ _) | (with_reducible refine Below.alloc ?_ ?_ _) | (with_reducible refine below_drewN ?_ _) | (with_reducible refine Below.drew ?_) | (with_reducible refine Below.trans ?_ (Below.mono hb4 ?_)) | (with_reducible refine Below.trans ?_ (Below.mono hb5 ?_)) | (with_reducible refine Below.trans ?_ (Below.mono hB ?_))); all_goals (first | with_reducible exact Nat.le_refl _ | omega | (simp; done) | (simp; omega) | (have := hb4.size; (try simp at this); have := hb5.size; (try simp at this); have := hB.size; (try simp at this); omega) | (have := hb4.size; (try simp at this); have := hb5.size; (try simp at this); have := hB.size; (try simp at this); (try simp); omega)))⟩
    · have hce := E.out
      rw [fst2, if_neg hpe] at hce
      have t1 : (pe == 0) = false := beqF hpe
      have t2 : (pe != 0) = true := bneT hpe
      have t3 : (en == pe) = true := beqT hce
      clear hpe hce
      go_wp2_with (first | (go_at_call 25; refine (P.out _).mono ?_; rintro e w4 ⟨rfl, hb4⟩; obtain ⟨hc4, hf4⟩ := bcell hb4) | fail)
      go_ret
      exact ⟨rfl, by focus ((repeat first | with_reducible exact Below.refl _ _ | (with_reducible refine Below.setCell ?_ ?_ _) | (with_reducible refine Below.alloc ?_ ?_ _) | (with_reducible refine below_drewN ?_ _) | (with_reducible refine Below.drew ?_) | (with_reducible refine Below.trans ?_ (Below.mono hb4 ?_)) | (with_reducible refine Below.trans ?_ (Below.mono hB ?_))); all_goals (first | with_reducible exact Nat.le_refl _ | omega | (simp; done) | (simp; omega) | (have := hb4.size; (try simp at this); have := hB.size; (try simp at this); omega) | (have := hb4.size; (try simp at this); have := hB.size; (try simp at this); (try simp); omega)))⟩

set_option maxHeartbeats 4000000 in
set_option maxRecDepth 100000 in
theorem winchNext_yes (xs : List Int) (A : Option Addr) (c : Nat) (a b d : Int) (w : World) (hn : xs.length ≤ 22) (hs : SlI w A xs) (he : nxtE xs a b d = 0) :
    Calls Try.prog 4 #[.agg #[.int .i64 a, .int .i64 b, .int .i64 d], .slice A xs.length c] w fun e w' => e = .returned (.bool true) ∧ Below w.heap.size w w' := by
  have hpk : prdE a b d = 0 ∧ (chkS xs).2 = 0 := by
    rw [nxtE, fst2] at he
    by_cases h : prdE a b d = 0
    · rw [if_pos h] at he; exact ⟨h, he⟩
    · rw [if_neg h] at he; exact absurd he h
  have N := Lib.hid (fun B dd W h => nextBy_yes xs B dd a b d W h he)
  have C := Lib.hid (fun W h => copyInts_c xs A c W (by omega) h)
  have P := Lib.hid (fun W => refPredictorErr_c a b d W)
  have S := Lib.hid (fun W h => refSamplesErr_c xs A c W (by omega) h)
  have AF := Lib.hid (fun W h => after_c xs A c a b d W h hpk.1 hpk.2)
  rw [hpk.1] at P
  rw [hpk.2] at S
  clear he hpk
  generalize frP (nxtN xs a b) d = fr at *
  obtain ⟨x1, x2⟩ := fr
  dsimp only at N AF
  go_enter Try.func4, Try.ntmps4
  go_upto_region 5 with (go_at_call 15; refine (awake_c _).mono ?_; rintro e w1 ⟨rfl, hb1⟩)
  go_cut [5, 6] (fun s5 s6 wx => ∃ g, s5 = .pointer (some ⟨g, 0, none⟩) ∧ s6 = .int .i64 0 ∧ Box wx g 47 #[.int .i64 x1, .int .i64 x2] ∧ Box wx w.heap.size 45 #[.int .i64 a, .int .i64 b, .int .i64 d] ∧ Below w.heap.size w wx)
  case first =>
    have q1 : Box w1 w.heap.size 45 #[.int .i64 a, .int .i64 b, .int .i64 d] := by focus (apply Box.via; apply Exists.intro; apply And.intro; (repeat first | with_reducible assumption | with_reducible exact Box.new _ _ _ | ((with_reducible apply Box.newAt); focus (simp; done)) | (with_reducible apply Box.drew) | (with_reducible apply Box.drewN) | (with_reducible apply Box.set) | (with_reducible apply Box.alloc) | (with_reducible apply Box.far) | (with_reducible apply Box.below (hb := hb1))); all_goals (first | with_reducible exact Nat.le_refl _ | omega | (simp; done) | (simp; omega) | (have := hb1.size; (try simp at this); omega) | (have := hb1.size; (try simp at this); (try simp); omega)))
    have c0 := q1.cell 0; have c1 := q1.cell 1; have c2 := q1.cell 2
    simp at c0 c1 c2
    have hl := q1.lt
    have hB1 : Below w.heap.size w w1 := by focus ((repeat first | with_reducible exact Below.refl _ _ | (with_reducible refine Below.setCell ?_ ?_ _) | (with_reducible refine Below.alloc ?_ ?_ _) | (with_reducible refine below_drewN ?_ _) | (with_reducible refine Below.drew ?_) | (with_reducible refine Below.trans ?_ (Below.mono hb1 ?_))); all_goals (first | with_reducible exact Nat.le_refl _ | omega | (simp; done) | (simp; omega) | (have := hb1.size; (try simp at this); omega) | (have := hb1.size; (try simp at this); (try simp); omega)))
    have zz1 := hB1.size
    have HS1 := Lib.hid (hs.below hB1)
    clear hs
    go_region_held3 (fun w' => w'.cell? ⟨w.heap.size, 0, none⟩ = some (.int .i64 a) ∧ w'.cell? ⟨w.heap.size, 1, none⟩ = some (.int .i64 b) ∧ w'.cell? ⟨w.heap.size, 2, none⟩ = some (.int .i64 d)) (go_keep)
      (first | (go_at_call 24; refine (C.out _ (SlI.below HS1.out (by focus ((repeat first | with_reducible exact Below.refl _ _ | (with_reducible refine Below.setCell ?_ ?_ _) | (with_reducible refine Below.alloc ?_ ?_ _) | (with_reducible refine below_drewN ?_ _) | (with_reducible refine Below.drew ?_)); all_goals (first | with_reducible exact Nat.le_refl _ | omega | (simp; done) | (simp; omega) | (omega) | ((try simp); omega)))))).mono ?_; rintro e w2 ⟨B, dd, rfl, hsB, hb2⟩; have hz2 : w.heap.size < w2.heap.size := (by have := hb2.size; (try simp at this); omega); have k20 := ((hb2).cell (p := ⟨w.heap.size, 0, none⟩) (by simp; omega)).trans (show _ = some (Value.int .i64 a) from by simp [go_sem, *]); have k21 := ((hb2).cell (p := ⟨w.heap.size, 1, none⟩) (by simp; omega)).trans (show _ = some (Value.int .i64 b) from by simp [go_sem, *]); have k22 := ((hb2).cell (p := ⟨w.heap.size, 2, none⟩) (by simp; omega)).trans (show _ = some (Value.int .i64 d) from by simp [go_sem, *]); (first | (have bx : Box w2 w1.heap.size 47 #[.int .i64 0, .int .i64 0] := Box.viaNewD hb2; have nc0 : (w2).cell? ⟨(w1).heap.size, 0, none⟩ = some (.int .i64 0) := bx.cell 0; have nc1 : (w2).cell? ⟨(w1).heap.size, 1, none⟩ = some (.int .i64 0) := bx.cell 1; have nf : ∀ o, (w2).frozen? ⟨(w1).heap.size, o, none⟩ = false := bx.froz) | (have bx : Box w2 w1.heap.size 47 #[.int .i64 0, .int .i64 0] := Box.viaNew hb2; have nc0 : (w2).cell? ⟨(w1).heap.size, 0, none⟩ = some (.int .i64 0) := bx.cell 0; have nc1 : (w2).cell? ⟨(w1).heap.size, 1, none⟩ = some (.int .i64 0) := bx.cell 1; have nf : ∀ o, (w2).frozen? ⟨(w1).heap.size, o, none⟩ = false := bx.froz) | skip); have : w.heap.size ≠ w1.heap.size := (by omega); have : w1.heap.size ≠ w.heap.size := (by omega); have : w.heap.size ≠ w2.heap.size := (by omega); have : w2.heap.size ≠ w.heap.size := (by omega)) | (go_at_call 23; refine (N.out _ _ _ (SlI.below hsB (by focus ((repeat first | with_reducible exact Below.refl _ _ | (with_reducible refine Below.setCell ?_ ?_ _) | (with_reducible refine Below.alloc ?_ ?_ _) | (with_reducible refine below_drewN ?_ _) | (with_reducible refine Below.drew ?_)); all_goals (first | with_reducible exact Nat.le_refl _ | omega | (simp; done) | (simp; omega) | (omega) | ((try simp); omega)))))).mono ?_; rintro e w3 ⟨rfl, hb3⟩; have hz3 : w.heap.size < w3.heap.size := (by have := hb3.size; (try simp at this); omega); have k30 := ((hb3).cell (p := ⟨w.heap.size, 0, none⟩) (by simp; omega)).trans (show _ = some (Value.int .i64 a) from by simp [go_sem, *]); have k31 := ((hb3).cell (p := ⟨w.heap.size, 1, none⟩) (by simp; omega)).trans (show _ = some (Value.int .i64 b) from by simp [go_sem, *]); have k32 := ((hb3).cell (p := ⟨w.heap.size, 2, none⟩) (by simp; omega)).trans (show _ = some (Value.int .i64 d) from by simp [go_sem, *]); (first | (have bx : Box w3 w1.heap.size 47 #[.int .i64 0, .int .i64 0] := Box.viaOldD bx hb3; have nc0 : (w3).cell? ⟨(w1).heap.size, 0, none⟩ = some (.int .i64 0) := bx.cell 0; have nc1 : (w3).cell? ⟨(w1).heap.size, 1, none⟩ = some (.int .i64 0) := bx.cell 1; have nf : ∀ o, (w3).frozen? ⟨(w1).heap.size, o, none⟩ = false := bx.froz) | (have bx : Box w3 w1.heap.size 47 #[.int .i64 0, .int .i64 0] := Box.viaOld bx hb3; have nc0 : (w3).cell? ⟨(w1).heap.size, 0, none⟩ = some (.int .i64 0) := bx.cell 0; have nc1 : (w3).cell? ⟨(w1).heap.size, 1, none⟩ = some (.int .i64 0) := bx.cell 1; have nf : ∀ o, (w3).frozen? ⟨(w1).heap.size, o, none⟩ = false := bx.froz) | (have bx : Box w3 w2.heap.size 47 #[.int .i64 0, .int .i64 0] := Box.viaNewD hb3; have nc0 : (w3).cell? ⟨(w2).heap.size, 0, none⟩ = some (.int .i64 0) := bx.cell 0; have nc1 : (w3).cell? ⟨(w2).heap.size, 1, none⟩ = some (.int .i64 0) := bx.cell 1; have nf : ∀ o, (w3).frozen? ⟨(w2).heap.size, o, none⟩ = false := bx.froz) | (have bx : Box w3 w2.heap.size 47 #[.int .i64 0, .int .i64 0] := Box.viaNew hb3; have nc0 : (w3).cell? ⟨(w2).heap.size, 0, none⟩ = some (.int .i64 0) := bx.cell 0; have nc1 : (w3).cell? ⟨(w2).heap.size, 1, none⟩ = some (.int .i64 0) := bx.cell 1; have nf : ∀ o, (w3).frozen? ⟨(w2).heap.size, o, none⟩ = false := bx.froz) | skip); have : w.heap.size ≠ w3.heap.size := (by omega); have : w3.heap.size ≠ w.heap.size := (by omega)) | fail)
    all_goals go_wp2_with fail
    all_goals go_meet
    all_goals
      refine ⟨_, rfl, rfl, ?hX, ?hP, ?hB⟩
      case hX => focus (apply Box.via; apply Exists.intro; apply And.intro; (repeat first | with_reducible assumption | with_reducible exact Box.new _ _ _ | ((with_reducible apply Box.newAt); focus (simp; done)) | (with_reducible apply Box.drew) | (with_reducible apply Box.drewN) | (with_reducible apply Box.set) | (with_reducible apply Box.alloc) | (with_reducible apply Box.far) | (with_reducible apply Box.below (hb := hb2)) | (with_reducible apply Box.below (hb := hb3))); all_goals (first | with_reducible exact Nat.le_refl _ | omega | (simp; done) | (simp; omega) | (have := hb2.size; (try simp at this); have := hb3.size; (try simp at this); omega) | (have := hb2.size; (try simp at this); have := hb3.size; (try simp at this); (try simp); omega)))
      case hP => focus (apply Box.via; apply Exists.intro; apply And.intro; (repeat first | with_reducible assumption | with_reducible exact Box.new _ _ _ | ((with_reducible apply Box.newAt); focus (simp; done)) | (with_reducible apply Box.drew) | (with_reducible apply Box.drewN) | (with_reducible apply Box.set) | (with_reducible apply Box.alloc) | (with_reducible apply Box.far) | (with_reducible apply Box.below (hb := hb2)) | (with_reducible apply Box.below (hb := hb3))); all_goals (first | with_reducible exact Nat.le_refl _ | omega | (simp; done) | (simp; omega) | (have := hb2.size; (try simp at this); have := hb3.size; (try simp at this); omega) | (have := hb2.size; (try simp at this); have := hb3.size; (try simp at this); (try simp); omega)))
      case hB => focus ((repeat first | with_reducible exact Below.refl _ _ | (with_reducible refine Below.setCell ?_ ?_ _) | (with_reducible refine Below.alloc ?_ ?_ _) | (with_reducible refine below_drewN ?_ _) | (with_reducible refine Below.drew ?_) | (with_reducible refine Below.trans ?_ (Below.mono hb2 ?_)) | (with_reducible refine Below.trans ?_ (Below.mono hb3 ?_)) | (with_reducible refine Below.trans ?_ (Below.mono hB1 ?_))); all_goals (first | with_reducible exact Nat.le_refl _ | omega | (simp; done) | (simp; omega) | (have := hb2.size; (try simp at this); have := hb3.size; (try simp at this); have := hB1.size; (try simp at this); omega) | (have := hb2.size; (try simp at this); have := hb3.size; (try simp at this); have := hB1.size; (try simp at this); (try simp); omega)))
  case rest =>
    obtain ⟨g, rfl, rfl, hX, hP, hB⟩ := hcut
    have c0 := hX.cell 0; have c1 := hX.cell 1
    have p0 := hP.cell 0; have p1 := hP.cell 1; have p2 := hP.cell 2
    simp at c0 c1 p0 p1 p2
    have hl := hX.lt; have hl2 := hP.lt
    have s0 : same2 x1 x2 x1 x2 = true := same2_t.2 ⟨rfl, rfl⟩
    have HS1 := Lib.hid (hs.below hB)
    have zz := hB.size
    clear hs
    go_wp2_with (first | (go_at_call 25; refine (P.out _).mono ?_; rintro e w4 ⟨rfl, hb4⟩; obtain ⟨hc4, hf4⟩ := bcell hb4; have hz4 : g < w4.heap.size := (by have := hb4.size; omega); have hz5 : w.heap.size < w4.heap.size := (by have := hb4.size; omega)) | (go_at_call 26; refine (S.out _ (SlI.below HS1.out (by focus ((repeat first | with_reducible exact Below.refl _ _ | (with_reducible refine Below.setCell ?_ ?_ _) | (with_reducible refine Below.alloc ?_ ?_ _) | (with_reducible refine below_drewN ?_ _) | (with_reducible refine Below.drew ?_) | (with_reducible refine Below.trans ?_ (Below.mono hb4 ?_))); all_goals (first | with_reducible exact Nat.le_refl _ | omega | (simp; done) | (simp; omega) | (have := hb4.size; (try simp at this); omega) | (have := hb4.size; (try simp at this); (try simp); omega)))))).mono ?_; rintro e w5 ⟨rfl, hb5⟩; obtain ⟨hc5, hf5⟩ := bcell hb5; have hz6 : g < w5.heap.size := (by have := hb5.size; omega); have hz7 : w.heap.size < w5.heap.size := (by have := hb5.size; omega)) | fail)
    have hX5 := (hX.below hb4 hl).below hb5 (by omega)
    have hP5 := (hP.below hb4 hl2).below hb5 (by omega)
    have HS5 := Lib.hid ((HS1.out.below hb4).below hb5)
    have hB5 : Below w.heap.size w w5 := by focus ((repeat first | with_reducible exact Below.refl _ _ | (with_reducible refine Below.setCell ?_ ?_ _) | (with_reducible refine Below.alloc ?_ ?_ _) | (with_reducible refine below_drewN ?_ _) | (with_reducible refine Below.drew ?_) | (with_reducible refine Below.trans ?_ (Below.mono hb4 ?_)) | (with_reducible refine Below.trans ?_ (Below.mono hb5 ?_)) | (with_reducible refine Below.trans ?_ (Below.mono hB ?_))); all_goals (first | with_reducible exact Nat.le_refl _ | omega | (simp; done) | (simp; omega) | (have := hb4.size; (try simp at this); have := hb5.size; (try simp at this); have := hB.size; (try simp at this); omega) | (have := hb4.size; (try simp at this); have := hb5.size; (try simp at this); have := hB.size; (try simp at this); (try simp); omega)))
    clear hc4 hf4 hc5 hf5 c0 c1 p0 p1 p2 hX hP hb4 hb5
    have c0 := hX5.cell 0; have c1 := hX5.cell 1
    have p0 := hP5.cell 0; have p1 := hP5.cell 1; have p2 := hP5.cell 2
    simp at c0 c1 p0 p1 p2
    go_region_held3 (fun w' => w'.cell? ⟨w.heap.size, 0, none⟩ = some (.int .i64 a) ∧ w'.cell? ⟨w.heap.size, 1, none⟩ = some (.int .i64 b) ∧ w'.cell? ⟨w.heap.size, 2, none⟩ = some (.int .i64 d) ∧ w'.cell? ⟨g, 0, none⟩ = some (.int .i64 x1) ∧ w'.cell? ⟨g, 1, none⟩ = some (.int .i64 x2)) (go_keep)
      (first | (go_at_call 27; refine (AF.out _ (SlI.below HS5.out (by focus ((repeat first | with_reducible exact Below.refl _ _ | (with_reducible refine Below.setCell ?_ ?_ _) | (with_reducible refine Below.alloc ?_ ?_ _) | (with_reducible refine below_drewN ?_ _) | (with_reducible refine Below.drew ?_)); all_goals (first | with_reducible exact Nat.le_refl _ | omega | (simp; done) | (simp; omega) | (omega) | ((try simp); omega)))))).mono ?_; rintro e w6 ⟨rfl, hb6⟩; have k20 := ((hb6).cell (p := ⟨w.heap.size, 0, none⟩) (by simp; omega)).trans (show _ = some (Value.int .i64 a) from by simp [go_sem, *]); have k21 := ((hb6).cell (p := ⟨w.heap.size, 1, none⟩) (by simp; omega)).trans (show _ = some (Value.int .i64 b) from by simp [go_sem, *]); have k22 := ((hb6).cell (p := ⟨w.heap.size, 2, none⟩) (by simp; omega)).trans (show _ = some (Value.int .i64 d) from by simp [go_sem, *]); have kg0 := (hb6.cell (p := ⟨g, 0, none⟩) (by simp; omega)).trans (show _ = some (Value.int .i64 x1) from by simp [go_sem, *]); have kg1 := (hb6.cell (p := ⟨g, 1, none⟩) (by simp; omega)).trans (show _ = some (Value.int .i64 x2) from by simp [go_sem, *])) | fail)
    all_goals go_wp2
    all_goals go_ret
    all_goals exact ⟨rfl, by focus ((repeat first | with_reducible exact Below.refl _ _ | (with_reducible refine Below.setCell ?_ ?_ _) | (with_reducible refine Below.alloc ?_ ?_ _) | (with_reducible refine below_drewN ?_ _) | (with_reducible refine Below.drew ?_) | (with_reducible refine Below.trans ?_ (Below.mono hb6 ?_)) | (with_reducible refine Below.trans ?_ (Below.mono hB5 ?_))); all_goals (first | with_reducible exact Nat.le_refl _ | omega | (simp; done) | (simp; omega) | (have := hb6.size; (try simp at this); have := hB5.size; (try simp at this); omega) | (have := hb6.size; (try simp at this); have := hB5.size; (try simp at this); (try simp); omega)))⟩

set_option maxHeartbeats 400000 in
theorem winchNext_long (xs : List Int) (A : Option Addr) (c : Nat) (a b d : Int) (w : World) (hn : 22 < xs.length) (hm : xs.length ≤ 9223372036854775807) :
    Calls Try.prog 4 #[.agg #[.int .i64 a, .int .i64 b, .int .i64 d], .slice A xs.length c] w fun e w' => e = .returned (.bool true) ∧ Below w.heap.size w w' := by
  go_enter Try.func4, Try.ntmps4
  go_wp2_with (go_at_call 15; refine (awake_c _).mono ?_; rintro e w1 ⟨rfl, hb1⟩)
  go_ret
  exact ⟨rfl, by focus ((repeat first | with_reducible exact Below.refl _ _ | (with_reducible refine Below.setCell ?_ ?_ _) | (with_reducible refine Below.alloc ?_ ?_ _) | (with_reducible refine below_drewN ?_ _) | (with_reducible refine Below.drew ?_) | (with_reducible refine Below.trans ?_ (Below.mono hb1 ?_))); all_goals (first | with_reducible exact Nat.le_refl _ | omega | (simp; done) | (simp; omega) | (have := hb1.size; (try simp at this); omega) | (have := hb1.size; (try simp at this); (try simp); omega)))⟩

theorem winchNext_w (xs : List Int) (A : Option Addr) (c : Nat) (a b d : Int) (w : World) (hm : xs.length ≤ 9223372036854775807) (hs : SlI w A xs) :
    Calls Try.prog 4 #[.agg #[.int .i64 a, .int .i64 b, .int .i64 d], .slice A xs.length c] w fun e w' => e = .returned (.bool true) ∧ Below w.heap.size w w' := by
  by_cases hl : 22 < xs.length
  · exact winchNext_long xs A c a b d w hl hm
  · by_cases he : nxtE xs a b d = 0
    · exact winchNext_yes xs A c a b d w (by omega) hs he
    · exact winchNext_no xs A c a b d w (by omega) hs he

theorem winchNext_l (a b d : Int) (xs : List Int) (A : Option Addr) (c : Nat) (w : World) (_ : ∀ x ∈ [a, b, d], -9223372036854775808 ≤ x ∧ x ≤ 9223372036854775807) (hm : xs.length ≤ 9223372036854775807) (hs : SlI w A xs) :
    Calls Try.prog 4 #[.agg #[.int .i64 a, .int .i64 b, .int .i64 d], .slice A xs.length c] w fun e w' => e = .returned (.bool true) ∧ Below w.heap.size w w' := winchNext_w xs A c a b d w hm hs

end Go.Proofs.Ytgbckdmhmkpahaa

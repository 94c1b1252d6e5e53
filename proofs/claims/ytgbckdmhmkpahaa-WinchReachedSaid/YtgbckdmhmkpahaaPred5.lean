/-
  The walks of NextBy (chapter 2).
-/
import Derived.Test.YtgbckdmhmkpahaaPred4
set_option linter.unusedVariables false
namespace Go.Proofs.Ytgbckdmhmkpahaa
open Go.RowKit Go.Shelf

/-- What NextBy answers. -/
def nxtN (xs : List Int) (a b : Int) : Int := a * xs.getD (xs.length - 1) 0 + b * xs.getD (xs.length - 2) 0
def nxtE (xs : List Int) (a b d : Int) : Int := fstE [prdE a b d, (chkS xs).2]

set_option maxHeartbeats 2000000 in
theorem nextBy_no (xs : List Int) (A : Option Addr) (c : Nat) (a b d : Int) (w : World) (hn : xs.length ≤ 9223372036854775807) (hs : SlI w A xs) (he : nxtE xs a b d ≠ 0) :
    Calls Try.prog 23 #[.agg #[.int .i64 a, .int .i64 b, .int .i64 d], .slice A xs.length c] w fun e w' => e = .returned (.tuple #[.agg #[.int .i64 0, .int .i64 0], .int .i64 (nxtE xs a b d)]) ∧ Below w.heap.size w w' := by
  have H := Lib.hid (fun W h => samplesErr_c xs A c W hn h)
  have G := Lib.hid (fun W => predictorErr_c a b d W)
  have F := Lib.hid (show nxtE xs a b d = fstE [prdE a b d, (chkS xs).2] from rfl)
  have e1 : (nxtE xs a b d != 0) = true := bneT he
  have e2 := F.out.symm
  clear hn he
  generalize nxtE xs a b d = E at *
  go_enter Try.func23, Try.ntmps23
  go_wp2_with (first | (go_at_call 85; refine (G.out _).mono ?_; rintro e w1 ⟨rfl, hb1⟩; obtain ⟨hc1, hf1⟩ := bcell hb1; have hy1 : w.heap.size + 1 < w1.heap.size := (by have := hb1.size; (try simp at this); omega); have hz1 : w.heap.size < w1.heap.size := by omega) | (go_at_call 86; refine (H.out _ (SlI.below hs (by focus ((repeat first | with_reducible exact Below.refl _ _ | (with_reducible refine Below.setCell ?_ ?_ _) | (with_reducible refine Below.alloc ?_ ?_ _) | (with_reducible refine below_drewN ?_ _) | (with_reducible refine Below.drew ?_) | (with_reducible refine Below.trans ?_ (Below.mono hb1 ?_))); all_goals (first | with_reducible exact Nat.le_refl _ | omega | (simp; done) | (simp; omega) | (have := hb1.size; (try simp at this); omega) | (have := hb1.size; (try simp at this); (try simp); omega)))))).mono ?_; rintro e w2 ⟨rfl, hb2⟩; obtain ⟨hc2, hf2⟩ := bcell hb2; have hy2 : w.heap.size + 1 < w2.heap.size := (by have := hb2.size; (try simp at this); omega); have hz2 : w.heap.size < w2.heap.size := by omega) | (go_at_call 84; refine (first2_c _ _ _ _).mono ?_; rintro e w' ⟨rfl, rfl⟩))
  all_goals
    refine bodyPost_ret (res_c2 rfl rfl (show Box _ _ 47 #[.int .i64 0, .int .i64 0] from ?hE) Try.underlying47 rfl frac_size) rfl ⟨rfl, ?hB⟩
    case hE => focus (apply Box.via; apply Exists.intro; apply And.intro; (repeat first | with_reducible assumption | with_reducible exact Box.new _ _ _ | ((with_reducible apply Box.newAt); focus (simp; done)) | (with_reducible apply Box.drew) | (with_reducible apply Box.drewN) | (with_reducible apply Box.set) | (with_reducible apply Box.alloc) | (with_reducible apply Box.far) | (with_reducible apply Box.below (hb := hb1)) | (with_reducible apply Box.below (hb := hb2))); all_goals (first | with_reducible exact Nat.le_refl _ | omega | (simp; done) | (simp; omega) | (have := hb1.size; (try simp at this); have := hb2.size; (try simp at this); omega) | (have := hb1.size; (try simp at this); have := hb2.size; (try simp at this); (try simp); omega)))
    case hB => focus ((repeat first | with_reducible exact Below.refl _ _ | (with_reducible refine Below.setCell ?_ ?_ _) | (with_reducible refine Below.alloc ?_ ?_ _) | (with_reducible refine below_drewN ?_ _) | (with_reducible refine Below.drew ?_) | (with_reducible refine Below.trans ?_ (Below.mono hb1 ?_)) | (with_reducible refine Below.trans ?_ (Below.mono hb2 ?_))); all_goals (first | with_reducible exact Nat.le_refl _ | omega | (simp; done) | (simp; omega) | (have := hb1.size; (try simp at this); have := hb2.size; (try simp at this); omega) | (have := hb1.size; (try simp at this); have := hb2.size; (try simp at this); (try simp); omega)))

theorem prod5_bd {x y : Int} (hx : -1000000000000 ≤ x ∧ x ≤ 1000000000000) (hy : -100 ≤ y ∧ y ≤ 100) : -100000000000000 ≤ x * y ∧ x * y ≤ 100000000000000 := by
  have h1 : (x * y).natAbs ≤ 1000000000000 * 100 := by rw [Int.natAbs_mul]; exact Nat.mul_le_mul (by omega) (by omega)
  omega

set_option maxHeartbeats 2000000 in
set_option maxRecDepth 100000 in
theorem nextBy_yes (xs : List Int) (A : Option Addr) (c : Nat) (a b d : Int) (w : World) (hs : SlI w A xs) (he : nxtE xs a b d = 0) :
    Calls Try.prog 23 #[.agg #[.int .i64 a, .int .i64 b, .int .i64 d], .slice A xs.length c] w fun e w' => e = .returned (.tuple #[.agg #[.int .i64 (frP (nxtN xs a b) d).1, .int .i64 (frP (nxtN xs a b) d).2], .int .i64 0]) ∧ Below w.heap.size w w' := by
  rw [nxtE, fst2] at he
  have hp : prdE a b d = 0 := by
    by_cases h : prdE a b d = 0
    · exact h
    · rw [if_neg h] at he; exact he
  have hk : (chkS xs).2 = 0 := by rw [if_pos hp] at he; exact he
  clear he
  obtain ⟨l4, l20, hx⟩ := chkS_ok hk
  obtain ⟨i1, i2, i3, _⟩ := prdE_ok hp
  obtain ⟨bb, off, rfl, hb, hc1'⟩ := hs (xs.length - 1) xs[xs.length - 1] (List.getElem?_eq_getElem (by omega))
  obtain ⟨b', off', hh, _, hc2'⟩ := hs (xs.length - 2) xs[xs.length - 2] (List.getElem?_eq_getElem (by omega))
  obtain ⟨rfl, rfl⟩ : bb = b' ∧ off = off' := by simpa using hh
  have m1 := hx _ (List.getElem_mem (show xs.length - 1 < xs.length by omega))
  have m2 := hx _ (List.getElem_mem (show xs.length - 2 < xs.length by omega))
  have H := Lib.hid (fun W h => samplesErr_c xs (some ⟨bb, off, none⟩) c W (by omega) h)
  have G := Lib.hid (fun W => predictorErr_c a b d W)
  have f0 : fstE [0, 0] = 0 := rfl
  have N := Lib.hid (show nxtN xs a b = a * xs[xs.length - 1] + b * xs[xs.length - 2] by unfold nxtN; simp [show xs.length - 1 < xs.length by omega, show xs.length - 2 < xs.length by omega])
  have n1 : ((xs.length : Int) - 1).toNat = xs.length - 1 := by omega
  have n3 : ((xs.length : Int) - 1) < xs.length := by omega
  have n4 : ((xs.length : Int) - 2) < xs.length := by omega
  have n5 : (1 : Int) ≤ xs.length := by omega
  have n6 : (2 : Int) ≤ xs.length := by omega
  have n2 : ((xs.length : Int) - 2).toNat = xs.length - 2 := by omega
  clear hx
  generalize xs[xs.length - 1] = x at *
  generalize xs[xs.length - 2] = y at *
  have p1 := prod5_bd i2 m1; have p2 := prod5_bd i3 m2
  have K := Lib.hid (fun W => fraction_c (a * x + b * y) d W (by omega) (by omega) (by omega))
  rw [N.out]
  go_enter Try.func23, Try.ntmps23
  go_wp2_with (first | (go_at_call 85; refine (G.out _).mono ?_; rintro e w1 ⟨rfl, hb1⟩; obtain ⟨hc1, hf1⟩ := bcell hb1; have hy1 : w.heap.size + 1 < w1.heap.size := (by have := hb1.size; (try simp at this); omega); have hz1 : w.heap.size < w1.heap.size := by omega) | (go_at_call 86; refine (H.out _ (SlI.below hs (by focus ((repeat first | with_reducible exact Below.refl _ _ | (with_reducible refine Below.setCell ?_ ?_ _) | (with_reducible refine Below.alloc ?_ ?_ _) | (with_reducible refine below_drewN ?_ _) | (with_reducible refine Below.drew ?_) | (with_reducible refine Below.trans ?_ (Below.mono hb1 ?_))); all_goals (first | with_reducible exact Nat.le_refl _ | omega | (simp; done) | (simp; omega) | (have := hb1.size; (try simp at this); omega) | (have := hb1.size; (try simp at this); (try simp); omega)))))).mono ?_; rintro e w2 ⟨rfl, hb2⟩; obtain ⟨hc2, hf2⟩ := bcell hb2; have hy2 : w.heap.size + 1 < w2.heap.size := (by have := hb2.size; (try simp at this); omega); have hz2 : w.heap.size < w2.heap.size := by omega) | (go_at_call 84; refine (first2_c _ _ _ _).mono ?_; rintro e w' ⟨rfl, rfl⟩))
  have hb0 : bb < w1.heap.size := by omega
  have hbp : bb < w.heap.size + 1 := by omega
  have hbq : bb < w.heap.size + 1 + 1 := by omega
  have hb00 : bb < w2.heap.size := by have := hb2.size; omega
  have v1 : IntKind.i64.wrap ((xs.length : Int) - 1) = (xs.length : Int) - 1 := IntWalk.i64_in _ (by omega)
  have v2 : IntKind.i64.wrap ((xs.length : Int) - 2) = (xs.length : Int) - 2 := IntWalk.i64_in _ (by omega)
  have v3 : IntKind.i64.wrap (a * x) = a * x := IntWalk.i64_in _ (by omega)
  have v4 : IntKind.i64.wrap (b * y) = b * y := IntWalk.i64_in _ (by omega)
  have v5 : IntKind.i64.wrap (a * x + b * y) = a * x + b * y := IntWalk.i64_in _ (by omega)
  have v6 : (0 : Int) ≤ (xs.length : Int) - 1 := by omega
  have v7 : (0 : Int) ≤ (xs.length : Int) - 2 := by omega
  (refine still_tail 19 mixed (by kernel_rfl) ?_; simp only [List.take_succ_cons, List.take_zero, List.drop_succ_cons, List.drop_zero]; (repeat still_step); refine wpStill_nil ?_; change wpList _ _ _ _ _ _)
  go_wp2_with (go_at_call 87; refine (K.out _).mono ?_; rintro e w3 ⟨rfl, hb3⟩; obtain ⟨hc3, hf3⟩ := bcell hb3; have hy3 : w.heap.size + 1 < w3.heap.size := (by have := hb3.size; (try simp at this); omega); have hz3 : w.heap.size < w3.heap.size := by omega)
  refine bodyPost_ret (res_c2 rfl rfl (show Box _ _ 47 #[.int .i64 (frP (a * x + b * y) d).1, .int .i64 (frP (a * x + b * y) d).2] from ?hE) Try.underlying47 rfl frac_size) rfl ⟨rfl, ?hB⟩
  case hE => focus (apply Box.via; apply Exists.intro; apply And.intro; (repeat first | with_reducible assumption | with_reducible exact Box.new _ _ _ | ((with_reducible apply Box.newAt); focus (simp; done)) | (with_reducible apply Box.drew) | (with_reducible apply Box.drewN) | (with_reducible apply Box.set) | (with_reducible apply Box.alloc) | (with_reducible apply Box.far) | (with_reducible apply Box.below (hb := hb1)) | (with_reducible apply Box.below (hb := hb2)) | (with_reducible apply Box.below (hb := hb3))); all_goals (first | with_reducible exact Nat.le_refl _ | omega | (simp; done) | (simp; omega) | (have := hb1.size; (try simp at this); have := hb2.size; (try simp at this); have := hb3.size; (try simp at this); omega) | (have := hb1.size; (try simp at this); have := hb2.size; (try simp at this); have := hb3.size; (try simp at this); (try simp); omega)))
  case hB => focus ((repeat first | with_reducible exact Below.refl _ _ | (with_reducible refine Below.setCell ?_ ?_ _) | (with_reducible refine Below.alloc ?_ ?_ _) | (with_reducible refine below_drewN ?_ _) | (with_reducible refine Below.drew ?_) | (with_reducible refine Below.trans ?_ (Below.mono hb1 ?_)) | (with_reducible refine Below.trans ?_ (Below.mono hb2 ?_)) | (with_reducible refine Below.trans ?_ (Below.mono hb3 ?_))); all_goals (first | with_reducible exact Nat.le_refl _ | omega | (simp; done) | (simp; omega) | (have := hb1.size; (try simp at this); have := hb2.size; (try simp at this); have := hb3.size; (try simp at this); omega) | (have := hb1.size; (try simp at this); have := hb2.size; (try simp at this); have := hb3.size; (try simp at this); (try simp); omega)))

end Go.Proofs.Ytgbckdmhmkpahaa

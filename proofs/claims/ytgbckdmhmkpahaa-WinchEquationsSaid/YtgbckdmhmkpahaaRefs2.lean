/-
  The references of samples (chapter 2): CheckSamples, SamplesErr, After.
-/
import Derived.Test.YtgbckdmhmkpahaaRefs
import Derived.Test.YtgbckdmhmkpahaaPred5
set_option linter.unusedVariables false
namespace Go.Proofs.Ytgbckdmhmkpahaa
open Go.RowKit Go.Shelf

theorem chkS_short {xs : List Int} (h : xs.length < 4) : chkS xs = (0, 10) := by
  have h1 : decide (4 ≤ (xs.length : Int)) = false := by simp; omega
  unfold chkS
  rw [h1]
  simp [unl, fstE]
theorem chkS_long {xs : List Int} (h : 20 < xs.length) : chkS xs = (0, 8) := by
  have h1 : decide (4 ≤ (xs.length : Int)) = true := by simp; omega
  have h2 : decide ((xs.length : Int) ≤ 20) = false := by simp; omega
  unfold chkS
  rw [h1, h2]
  simp [unl, fstE]
theorem chkS_mid {xs : List Int} (h : 4 ≤ xs.length) (h' : xs.length ≤ 20) : chkS xs = if 0 ≤ findI badS xs then (findI badS xs, 2) else (0, 0) := by
  have h1 : decide (4 ≤ (xs.length : Int)) = true := by simp; omega
  have h2 : decide ((xs.length : Int) ≤ 20) = true := by simp; omega
  unfold chkS
  rw [h1, h2]
  simp [unl, fstE]

set_option maxHeartbeats 1000000 in
theorem refCheckSamples_c (xs : List Int) (A : Option Addr) (c : Nat) (w : World) (hn : xs.length ≤ 100000) (hs : SlI w A xs) :
    Calls Try.prog 43 #[.slice A xs.length c] w fun e w' => e = .returned (.tuple #[.int .i64 (chkS xs).1, .int .i64 (chkS xs).2]) ∧ Below w.heap.size w w' := by
  rcases Nat.lt_or_ge xs.length 4 with h | h
  · have R := Lib.hid (chkS_short h)
    go_enter Try.func43, Try.ntmps43
    go_wp2
    go_ret2
    exact ⟨ret_ii (by rw [R.out]) (by rw [R.out]), Below.refl _ _⟩
  · rcases Nat.lt_or_ge 20 xs.length with h' | h'
    · have R := Lib.hid (chkS_long h')
      go_enter Try.func43, Try.ntmps43
      go_wp2
      go_ret2
      exact ⟨ret_ii (by rw [R.out]) (by rw [R.out]), Below.refl _ _⟩
    · have R := Lib.hid (chkS_mid h h')
      generalize chkS xs = CS at *
      go_enter Try.func43, Try.ntmps43
      go_wp2
      go_loop [4] (fun i => ∃ k : Nat, k ≤ xs.length ∧ i = .int .i64 k ∧ Hid (findI badS xs = findFrom badS k (xs.drop k))) (fun i => xs.length - (intOf i).toNat)
      case atStart => exact ⟨0, Nat.zero_le _, rfl, rfl⟩
      case round =>
        obtain ⟨k, hk, rfl, hf⟩ := hrel
        by_cases hlt : k < xs.length
        · obtain ⟨b, off, rfl, hb, hc⟩ := hs k xs[k] (List.getElem?_eq_getElem hlt)
          have HD := Lib.hid (List.drop_eq_getElem_cons hlt)
          generalize xs[k] = x at *
          cases hx : inB x (-100) 100
          · have HB := Lib.hid (show badS x = true by unfold badS; rw [hx]; rfl)
            go_wp2_with (go_at_call 37; refine (within_b _ _ _ _).mono ?_; rintro e w' ⟨rfl, rfl⟩)
            go_ret2
            have e : findI badS xs = k := by rw [hf.out, HD.out, findFrom, if_pos HB.out]
            exact ⟨ret_ii (by rw [R.out, e, if_pos (by omega)]) (by rw [R.out, e, if_pos (by omega)]), Below.refl _ _⟩
          · have HB := Lib.hid (show badS x = false by unfold badS; rw [hx]; rfl)
            go_wp2_with (go_at_call 37; refine (within_b _ _ _ _).mono ?_; rintro e w' ⟨rfl, rfl⟩)
            go_round
            case rel => exact ⟨k + 1, by omega, by go_num, by unfold Hid; rw [hf.out, HD.out, findFrom, if_neg (by rw [HB.out]; simp)]; simp⟩
            case measure => simp [intOf]; omega
        · have e : findI badS xs = -1 := by rw [hf.out, List.drop_eq_nil_of_le (by omega)]; rfl
          have E := Lib.hid e
          clear e
          go_wp2
          go_ret2
          exact ⟨ret_ii (by rw [R.out, E.out]; rfl) (by rw [R.out, E.out]; rfl), Below.refl _ _⟩

set_option maxHeartbeats 400000 in
theorem refSamplesErr_c (xs : List Int) (A : Option Addr) (c : Nat) (w : World) (hn : xs.length ≤ 100000) (hs : SlI w A xs) :
    Calls Try.prog 26 #[.slice A xs.length c] w fun e w' => e = .returned (.int .i64 (chkS xs).2) ∧ Below w.heap.size w w' := by
  have H := Lib.hid (refCheckSamples_c xs A c w hn hs)
  clear hn hs
  generalize chkS xs = CS at *
  go_enter Try.func26, Try.ntmps26
  go_wp2_with (go_at_call 43; refine H.out.mono ?_; rintro e w' ⟨rfl, hb⟩)
  go_ret
  exact ⟨rfl, by assumption⟩

set_option maxHeartbeats 2000000 in
set_option maxRecDepth 100000 in
theorem after_c (xs : List Int) (A : Option Addr) (c : Nat) (a b d : Int) (w : World) (hs : SlI w A xs) (hp : prdE a b d = 0) (hk : (chkS xs).2 = 0) :
    Calls Try.prog 27 #[.agg #[.int .i64 a, .int .i64 b, .int .i64 d], .slice A xs.length c] w fun e w' => e = .returned (.agg #[.int .i64 (frP (nxtN xs a b) d).1, .int .i64 (frP (nxtN xs a b) d).2]) ∧ Below w.heap.size w w' := by
  obtain ⟨l4, l20, hx⟩ := chkS_ok hk
  obtain ⟨i1, i2, i3, _⟩ := prdE_ok hp
  obtain ⟨bb, off, rfl, hb, hc1'⟩ := hs (xs.length - 1) xs[xs.length - 1] (List.getElem?_eq_getElem (by omega))
  obtain ⟨b', off', hh, _, hc2'⟩ := hs (xs.length - 2) xs[xs.length - 2] (List.getElem?_eq_getElem (by omega))
  obtain ⟨rfl, rfl⟩ : bb = b' ∧ off = off' := by simpa using hh
  have m1 := hx _ (List.getElem_mem (show xs.length - 1 < xs.length by omega))
  have m2 := hx _ (List.getElem_mem (show xs.length - 2 < xs.length by omega))
  have N := Lib.hid (show nxtN xs a b = a * xs[xs.length - 1] + b * xs[xs.length - 2] by unfold nxtN; simp [show xs.length - 1 < xs.length by omega, show xs.length - 2 < xs.length by omega])
  have n1 : ((xs.length : Int) - 1).toNat = xs.length - 1 := by omega
  have n3 : ((xs.length : Int) - 1) < xs.length := by omega
  have n4 : ((xs.length : Int) - 2) < xs.length := by omega
  have n5 : (1 : Int) ≤ xs.length := by omega
  have n6 : (2 : Int) ≤ xs.length := by omega
  have n2 : ((xs.length : Int) - 2).toNat = xs.length - 2 := by omega
  clear hx hs hp hk
  generalize xs[xs.length - 1] = x at *
  generalize xs[xs.length - 2] = y at *
  have p1 := prod5_bd i2 m1; have p2 := prod5_bd i3 m2
  have K := Lib.hid (fun W => lowest_c (a * x + b * y) d W (by omega) (by omega) (by omega))
  rw [N.out]
  go_enter Try.func27, Try.ntmps27
  go_wp2
  have hbp : bb < w.heap.size + 1 := by omega
  have hbq : bb < w.heap.size + 1 + 1 := by omega
  have v1 : IntKind.i64.wrap ((xs.length : Int) - 1) = (xs.length : Int) - 1 := IntWalk.i64_in _ (by omega)
  have v2 : IntKind.i64.wrap ((xs.length : Int) - 2) = (xs.length : Int) - 2 := IntWalk.i64_in _ (by omega)
  have v3 : IntKind.i64.wrap (a * x) = a * x := IntWalk.i64_in _ (by omega)
  have v4 : IntKind.i64.wrap (b * y) = b * y := IntWalk.i64_in _ (by omega)
  have v5 : IntKind.i64.wrap (a * x + b * y) = a * x + b * y := IntWalk.i64_in _ (by omega)
  have v6 : (0 : Int) ≤ (xs.length : Int) - 1 := by omega
  have v7 : (0 : Int) ≤ (xs.length : Int) - 2 := by omega
  (refine still_tail 19 mixed (by kernel_rfl) ?_; simp only [List.take_succ_cons, List.take_zero, List.drop_succ_cons, List.drop_zero]; (repeat still_step); refine wpStill_nil ?_; change wpList _ _ _ _ _ _)
  go_wp2_with (go_at_call 89; refine (K.out _).mono ?_; rintro e w3 ⟨rfl, hb3⟩; obtain ⟨hc3, hf3⟩ := bcell hb3; have hz3 : w.heap.size < w3.heap.size := by have := hb3.size; (try simp at this); omega)
  refine bodyPost_ret (res_c1 rfl rfl (show Box _ _ 47 #[.int .i64 (frP (a * x + b * y) d).1, .int .i64 (frP (a * x + b * y) d).2] from ?hE) Try.underlying47 rfl frac_size) rfl ⟨rfl, ?hB⟩
  case hE => focus (apply Box.via; apply Exists.intro; apply And.intro; (repeat first | with_reducible assumption | with_reducible exact Box.new _ _ _ | ((with_reducible apply Box.newAt); focus (simp; done)) | (with_reducible apply Box.drew) | (with_reducible apply Box.drewN) | (with_reducible apply Box.set) | (with_reducible apply Box.alloc) | (with_reducible apply Box.far) | (with_reducible apply Box.below (hb := hb3))); all_goals (first | with_reducible exact Nat.le_refl _ | omega | (simp; done) | (simp; omega) | (have := hb3.size; (try simp at this); omega) | (have := hb3.size; (try simp at this); (try simp); omega)))
  case hB => focus ((repeat first | with_reducible exact Below.refl _ _ | (with_reducible refine Below.setCell ?_ ?_ _) | (with_reducible refine Below.alloc ?_ ?_ _) | (with_reducible refine below_drewN ?_ _) | (with_reducible refine Below.drew ?_) | (with_reducible refine Below.trans ?_ (Below.mono hb3 ?_))); all_goals (first | with_reducible exact Nat.le_refl _ | omega | (simp; done) | (simp; omega) | (have := hb3.size; (try simp at this); omega) | (have := hb3.size; (try simp at this); (try simp); omega)))

end Go.Proofs.Ytgbckdmhmkpahaa

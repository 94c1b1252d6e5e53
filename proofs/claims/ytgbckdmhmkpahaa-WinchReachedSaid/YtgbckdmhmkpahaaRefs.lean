/-
  Small functions of the references (CopyInts, Gcd, Lowest, CheckSamples, PredictorErr, After).
-/
import Derived.Test.YtgbckdmhmkpahaaInts
import Derived.Test.YtgbckdmhmkpahaaEq
import Derived.Test.YtgbckdmhmkpahaaPred4
import Derived.Deep.RegionHeld3
set_option linter.unusedVariables false
namespace Go.Proofs.Ytgbckdmhmkpahaa
open Go.RowKit Go.Shelf
attribute [local go_sem ↓] eqlO_pr neqO_pr eqlO_fr neqO_fr

theorem info_Int : (Try.prog.info? 3).map (fun i => (i.zero, i.size, i.bytes)) = some (some (.int .i64 0), 1, 8) := by kernel_rfl
theorem own_empty (w : World) (t : TypeId) : (w.alloc (.cells #[] t)).ownsRow w.heap.size t 1 (.slice (some ⟨w.heap.size, 0, none⟩) 0 0) 0 [] :=
  ⟨rfl, .inr ⟨w.heap.size, 0, #[], rfl, Nat.le_refl _, heap_alloc_new w _, Nat.le_refl _, by unfold maxLen; omega, rfl, rfl⟩⟩

set_option maxHeartbeats 1000000 in
theorem copyInts_c (xs : List Int) (A : Option Addr) (c : Nat) (w : World) (hn : xs.length ≤ 100000) (hs : SlI w A xs) :
    Calls Try.prog 24 #[.slice A xs.length c] w fun e w' => ∃ B d, e = .returned (.slice B xs.length d) ∧ SlI w' B xs ∧ Below w.heap.size w w' := by
  obtain ⟨i0, hi0, hz0, hz1, hz2⟩ := info_parts info_Int
  have hm1 : 0 + xs.length ≤ maxLen := by unfold maxLen; omega
  have hm2 : (0 + xs.length) * 8 ≤ 140737488355328 := by omega
  have ho := own_empty w 3
  cases A with
  | none =>
    have hx : xs = [] := by
      cases xs with
      | nil => rfl
      | cons x l => obtain ⟨b, o, e, _⟩ := hs 0 x rfl; cases e
    subst hx
    go_enter Try.func24, Try.ntmps24
    go_wp2
    all_goals go_ret
    all_goals exact ⟨_, _, rfl, SlI.nil _ _, by focus ((repeat first | with_reducible exact Below.refl _ _ | (with_reducible refine Below.setCell ?_ ?_ _) | (with_reducible refine Below.alloc ?_ ?_ _) | (with_reducible refine below_drewN ?_ _) | (with_reducible refine Below.drew ?_)); all_goals (first | with_reducible exact Nat.le_refl _ | omega | (simp; done) | (simp; omega) | (omega) | ((try simp); omega)))⟩
  | some a =>
    have hcells : ∀ j u, (xs.map (Value.int .i64))[j]? = some u → (w.alloc (.cells #[] 3)).cell? (a.add j) = some u := fun j u hj => by
      rw [List.getElem?_map] at hj
      cases hx : xs[j]? with
      | none => rw [hx] at hj; cases hj
      | some x =>
        rw [hx] at hj
        obtain ⟨b, o, e, hb, hc⟩ := hs.alloc (.cells #[] 3) j x hx
        cases e
        have hu : Value.int .i64 x = u := by simpa using hj
        subst hu
        have e : (⟨b, o, none⟩ : Addr).add j = ⟨b, o + j, none⟩ := by unfold Addr.add; split <;> simp [*]
        rw [e]; exact hc
    have HC := Lib.hid hcells
    clear hcells
    have h1 : ∀ u ∈ xs.map (Value.int .i64), u.oneCell' = true := by simp [Value.oneCell']
    have H1 := Lib.hid h1
    clear h1 hs
    go_enter Try.func24, Try.ntmps24
    go_wp2_with (at_builtin; go_must (refine wpList_append_own _ rfl _ _ 22 rfl w.heap.size 3 i0 (.int .i64 0) 1 8 Try.underlying22 hi0 hz0 hz1 hz2 rfl (by decide) _ _ _ rfl ho a xs.length c (xs.map (Value.int .i64)) rfl (by simp) HC.out H1.out hm1 hm2 (by simp) ?_); intro v' wx hown1 hgrow1 _)
    have hB1 : Below w.heap.size w wx := ((Below.refl _ w).alloc (Nat.le_refl _) _).grown hgrow1 (by simp) (fun k e => by have e : some w.heap.size = some k := e; injection e with e; omega)
    have hown2 : wx.ownsRow w.heap.size 3 1 v' xs.length (xs.map (Value.int .i64)) := by simpa using hown1
    rcases hown2.2 with ⟨rfl, h0⟩ | ⟨g, cap, cur, rfl, _⟩
    · go_ret
      exact ⟨_, _, by rw [h0]; rfl, sli_own (n := xs.length) (c := 0) (by rw [h0]; rw [h0] at hown2; exact hown2), hB1⟩
    · go_ret
      exact ⟨_, _, rfl, sli_own hown2, hB1⟩

set_option maxHeartbeats 1000000 in
theorem gcd_c (a b : Int) (w : World) (ha : a.natAbs ≤ 9223372036854775807) (hb : b.natAbs ≤ 9223372036854775807) :
    Calls Try.prog 138 #[.int .i64 a, .int .i64 b] w fun e w' => e = .returned (.int .i64 (Nat.gcd a.natAbs b.natAbs : Nat)) ∧ Below w.heap.size w w' := by
  go_enter Try.func138, Try.ntmps138
  go_wp2
  go_loopw [0, 1] (fun g n wr => ∃ (p q : Int), g = .int .i64 p ∧ n = .int .i64 q ∧ Hid (Nat.gcd p.natAbs q.natAbs = Nat.gcd a.natAbs b.natAbs) ∧ -9223372036854775807 ≤ p ∧ p ≤ 9223372036854775807 ∧ -9223372036854775807 ≤ q ∧ q ≤ 9223372036854775807 ∧ Below w.heap.size w wr) (fun _ n _ => (intOf n).natAbs)
  case atStart => exact ⟨a, b, rfl, rfl, rfl, by omega, by omega, by omega, by omega, Below.refl _ _⟩
  case round =>
    obtain ⟨p, q, rfl, rfl, hpq, hp1, hp2, hq1, hq2, hB2⟩ := hrel
    by_cases hz : q = 0
    · have hz1 : (q != 0) = false := by simp [hz]
      have HZ := Lib.hid hz; clear hz
      go_wp2_with (go_at_call 77; refine (size_c _ _ (by omega) (by omega)).mono ?_; rintro e w' ⟨rfl, rfl⟩)
      go_ret
      refine ⟨ret_i ?_, hB2⟩
      have := hpq.out
      rw [HZ.out] at this
      rw [← this]
      simp [absI]
      omega
    · have hz1 : (q != 0) = true := by simp [hz]
      have hz2 : (q == 0) = false := by simp [hz]
      have hm : (p.tmod q).natAbs < q.natAbs := by rw [Int.natAbs_tmod]; exact Nat.mod_lt _ (by omega)
      have HZ := Lib.hid hz; clear hz
      go_wp2
      go_quiet (fail)
      go_wp2
      go_roundw
      case rel => exact ⟨q, p.tmod q, rfl, rfl, by unfold Hid; rw [← hpq.out]; exact gcd_tmod p q, by omega, by omega, by omega, by omega, below_drewN hB2 _⟩
      case measure => simpa [intOf] using hm

set_option maxHeartbeats 1000000 in
theorem lowest_c (a b : Int) (w : World) (ha : a.natAbs ≤ 9223372036854775807) (hb : b.natAbs ≤ 9223372036854775807) (h0 : 0 < b) :
    Calls Try.prog 89 #[.int .i64 a, .int .i64 b] w fun e w' => e = .returned (.agg #[.int .i64 (frP a b).1, .int .i64 (frP a b).2]) ∧ Below w.heap.size w w' := by
  have gp := gcdL2_pos a b (by omega)
  have t1 := tdiv_bd a (gcdL [a, b]); have t2 := tdiv_bd b (gcdL [a, b])
  have gl : gcdL [a, b] ≤ 9223372036854775807 := by rw [gcdL2]; exact Nat.le_trans (Nat.gcd_le_right _ (by omega)) hb
  have G := Lib.hid (fun W => gcd_c a b W ha hb)
  have F := Lib.hid (show frP a b = (a.tdiv (gcdL [a, b] : Nat), b.tdiv (gcdL [a, b] : Nat)) from rfl)
  rw [← gcdL2] at G
  generalize gcdL [a, b] = g at *
  have g0 : ((g : Int) == 0) = false := beqF (by omega)
  have hb0 : ¬ b < 0 := by omega
  generalize ht1 : a.tdiv g = q1 at *
  generalize ht2 : b.tdiv g = q2 at *
  go_enter Try.func89, Try.ntmps89
  go_wp2_with (go_at_call 138; refine (G.out _).mono ?_; rintro e w1 ⟨rfl, hb1⟩; obtain ⟨hc1, hf1⟩ := bcell hb1; have hz1 : w.heap.size < w1.heap.size := by have := hb1.size; (try simp at this); omega)
  go_region
  all_goals go_wp2
  all_goals (try simp [Act.put])
  all_goals
    refine bodyPost_ret (res_c1 rfl rfl (show Box _ _ 47 #[.int .i64 q1, .int .i64 q2] from ?hE) Try.underlying47 rfl frac_size) rfl ⟨by rw [F.out], ?hB⟩
    case hE => focus (apply Box.via; apply Exists.intro; apply And.intro; (repeat first | with_reducible assumption | with_reducible exact Box.new _ _ _ | ((with_reducible apply Box.newAt); focus (simp; done)) | (with_reducible apply Box.drew) | (with_reducible apply Box.drewN) | (with_reducible apply Box.set) | (with_reducible apply Box.alloc) | (with_reducible apply Box.far) | (with_reducible apply Box.below (hb := hb1))); all_goals (first | with_reducible exact Nat.le_refl _ | omega | (simp; done) | (simp; omega) | (have := hb1.size; (try simp at this); omega) | (have := hb1.size; (try simp at this); (try simp); omega)))
    case hB => focus ((repeat first | with_reducible exact Below.refl _ _ | (with_reducible refine Below.setCell ?_ ?_ _) | (with_reducible refine Below.alloc ?_ ?_ _) | (with_reducible refine below_drewN ?_ _) | (with_reducible refine Below.drew ?_) | (with_reducible refine Below.trans ?_ (Below.mono hb1 ?_))); all_goals (first | with_reducible exact Nat.le_refl _ | omega | (simp; done) | (simp; omega) | (have := hb1.size; (try simp at this); omega) | (have := hb1.size; (try simp at this); (try simp); omega)))

/-- A predictor in lowest terms. -/
def loP (a b d : Int) : Int × Int × Int := (a.tdiv (gcdL [a, b, d] : Nat), b.tdiv (gcdL [a, b, d] : Nat), d.tdiv (gcdL [a, b, d] : Nat))
set_option maxHeartbeats 1000000 in
theorem refLowest_c (a b d : Int) (w : World) (ha : a.natAbs ≤ 9223372036854775807) (hb : b.natAbs ≤ 9223372036854775807) (hd : d.natAbs ≤ 9223372036854775807) (h0 : 0 < d) :
    Calls Try.prog 88 #[.int .i64 a, .int .i64 b, .int .i64 d] w fun e w' => e = .returned (.agg #[.int .i64 (loP a b d).1, .int .i64 (loP a b d).2.1, .int .i64 (loP a b d).2.2]) ∧ Below w.heap.size w w' := by
  have gp := gcdL3_pos a b d (by omega)
  have t1 := tdiv_bd a (gcdL [a, b, d]); have t2 := tdiv_bd b (gcdL [a, b, d]); have t3 := tdiv_bd d (gcdL [a, b, d])
  have gl : gcdL [a, b, d] ≤ 9223372036854775807 := by rw [gcdL3]; exact Nat.le_trans (Nat.gcd_le_right _ (by omega)) (by omega)
  have gl2 : Nat.gcd a.natAbs b.natAbs ≤ 9223372036854775807 := by
    rcases Nat.eq_zero_or_pos a.natAbs with h | h
    · rw [h, Nat.gcd_zero_left]; exact hb
    · exact Nat.le_trans (Nat.gcd_le_left _ h) ha
  have G1 := Lib.hid (fun W => gcd_c a b W ha hb)
  have G2 := Lib.hid (fun W => gcd_c (Nat.gcd a.natAbs b.natAbs : Nat) d W (by omega) hd)
  have F := Lib.hid (show loP a b d = (a.tdiv (gcdL [a, b, d] : Nat), b.tdiv (gcdL [a, b, d] : Nat), d.tdiv (gcdL [a, b, d] : Nat)) from rfl)
  rw [Int.natAbs_natCast, ← gcdL3] at G2
  generalize gcdL [a, b, d] = g at *
  generalize Nat.gcd a.natAbs b.natAbs = g2 at *
  have g0 : ((g : Int) == 0) = false := beqF (by omega)
  have hb0 : ¬ d < 0 := by omega
  generalize ht1 : a.tdiv g = q1 at *
  generalize ht2 : b.tdiv g = q2 at *
  generalize ht3 : d.tdiv g = q3 at *
  go_enter Try.func88, Try.ntmps88
  go_wp2_with fail
  refine (G1.out _).mono ?_
  rintro e w1 ⟨rfl, hb1⟩; obtain ⟨hc1, hf1⟩ := bcell hb1; have hz1 : w.heap.size < w1.heap.size := by have := hb1.size; (try simp at this); omega
  go_wp2_with fail
  refine (G2.out _).mono ?_
  rintro e w2 ⟨rfl, hb2⟩; obtain ⟨hc2, hf2⟩ := bcell hb2; have hz2 : w.heap.size < w2.heap.size := by have := hb2.size; (try simp at this); omega
  go_wp2
  go_region
  all_goals go_wp2
  all_goals (try simp [Act.put])
  all_goals
    refine bodyPost_ret (res_c1 rfl rfl (show Box _ _ 45 #[.int .i64 q1, .int .i64 q2, .int .i64 q3] from ?hE) Try.underlying45 rfl pred_size) rfl ⟨by rw [F.out], ?hB⟩
    case hE => focus (apply Box.via; apply Exists.intro; apply And.intro; (repeat first | with_reducible assumption | with_reducible exact Box.new _ _ _ | ((with_reducible apply Box.newAt); focus (simp; done)) | (with_reducible apply Box.drew) | (with_reducible apply Box.drewN) | (with_reducible apply Box.set) | (with_reducible apply Box.alloc) | (with_reducible apply Box.far) | (with_reducible apply Box.below (hb := hb1)) | (with_reducible apply Box.below (hb := hb2))); all_goals (first | with_reducible exact Nat.le_refl _ | omega | (simp; done) | (simp; omega) | (have := hb1.size; (try simp at this); have := hb2.size; (try simp at this); omega) | (have := hb1.size; (try simp at this); have := hb2.size; (try simp at this); (try simp); omega)))
    case hB => focus ((repeat first | with_reducible exact Below.refl _ _ | (with_reducible refine Below.setCell ?_ ?_ _) | (with_reducible refine Below.alloc ?_ ?_ _) | (with_reducible refine below_drewN ?_ _) | (with_reducible refine Below.drew ?_) | (with_reducible refine Below.trans ?_ (Below.mono hb1 ?_)) | (with_reducible refine Below.trans ?_ (Below.mono hb2 ?_))); all_goals (first | with_reducible exact Nat.le_refl _ | omega | (simp; done) | (simp; omega) | (have := hb1.size; (try simp at this); have := hb2.size; (try simp at this); omega) | (have := hb1.size; (try simp at this); have := hb2.size; (try simp at this); (try simp); omega)))

theorem loP_one {a b d : Int} (h0 : 0 < d) : loP a b d = (a, b, d) ↔ gcdL [a, b, d] = 1 := by
  have gp := gcdL3_pos a b d (by omega)
  constructor
  · intro h
    have h3 : d.tdiv (gcdL [a, b, d] : Nat) = d := congrArg (·.2.2) h
    have hd : ((gcdL [a, b, d] : Nat) : Int) ∣ d := by rw [gcdL3]; exact Int.ofNat_dvd_left.2 (Nat.gcd_dvd_right _ _)
    have h4 := Int.tdiv_mul_cancel hd
    rw [h3] at h4
    have : ((gcdL [a, b, d] : Nat) : Int) = 1 := by
      have h5 : d * (gcdL [a, b, d] : Nat) = d * 1 := by rw [h4, Int.mul_one]
      exact Int.eq_of_mul_eq_mul_left (by omega) h5
    omega
  · intro h
    unfold loP
    rw [h]
    simp

set_option maxHeartbeats 2000000 in
theorem refPredictorErr_c (a b d : Int) (w : World) :
    Calls Try.prog 25 #[.agg #[.int .i64 a, .int .i64 b, .int .i64 d]] w fun e w' => e = .returned (.int .i64 (prdE a b d)) ∧ Below w.heap.size w w' := by
  by_cases hb : prdBad a b d = true
  · have E := Lib.hid (show prdE a b d = 2 from if_pos hb)
    have hc : (inB d 1 1000000000000 = false) ∨ (inB d 1 1000000000000 = true ∧ inB a (-1000000000000) 1000000000000 = false) ∨ (inB d 1 1000000000000 = true ∧ inB a (-1000000000000) 1000000000000 = true ∧ inB b (-1000000000000) 1000000000000 = false) := by
      revert hb
      unfold prdBad
      cases inB d 1 1000000000000 <;> cases inB a (-1000000000000) 1000000000000 <;> cases inB b (-1000000000000) 1000000000000 <;> simp
    clear hb
    rcases hc with i1 | ⟨i1, i2⟩ | ⟨i1, i2, i3⟩
    all_goals
      go_enter Try.func25, Try.ntmps25
      go_wp2_with (go_at_call 37; refine (within_b _ _ _ _).mono ?_; rintro e w' ⟨rfl, rfl⟩)
      go_ret
      exact ⟨ret_i E.out.symm, by focus ((repeat first | with_reducible exact Below.refl _ _ | (with_reducible refine Below.setCell ?_ ?_ _) | (with_reducible refine Below.alloc ?_ ?_ _) | (with_reducible refine below_drewN ?_ _) | (with_reducible refine Below.drew ?_)); all_goals (first | with_reducible exact Nat.le_refl _ | omega | (simp; done) | (simp; omega) | (omega) | ((try simp); omega)))⟩
  · have E := Lib.hid (show prdE a b d = unl (((gcdL [a, b, d] : Nat) : Int) == 1) 3 from if_neg hb)
    have hc : inB d 1 1000000000000 = true ∧ inB a (-1000000000000) 1000000000000 = true ∧ inB b (-1000000000000) 1000000000000 = true := by
      revert hb
      unfold prdBad
      cases inB d 1 1000000000000 <;> cases inB a (-1000000000000) 1000000000000 <;> cases inB b (-1000000000000) 1000000000000 <;> simp
    clear hb
    obtain ⟨i1, i2, i3⟩ := hc
    have j1 := inB_true.1 i1; have j2 := inB_true.1 i2; have j3 := inB_true.1 i3
    have L := Lib.hid (fun W => refLowest_c a b d W (by omega) (by omega) (by omega) (by omega))
    have LO := Lib.hid (loP_one (a := a) (b := b) (d := d) (by omega))
    generalize loP a b d = q at *
    obtain ⟨q1, q2, q3⟩ := q
    dsimp only at L
    by_cases hg : gcdL [a, b, d] = 1
    · have e1 : same3 q1 q2 q3 a b d = true := same3_t.2 (by have := LO.out.2 hg; simpa using this)
      have HG := Lib.hid hg; clear hg
      go_enter Try.func25, Try.ntmps25
      go_wp2_with (go_at_call 37; refine (within_b _ _ _ _).mono ?_; rintro e w' ⟨rfl, rfl⟩)
      go_region_held3 (fun w' => w'.cell? ⟨w.heap.size, 0, none⟩ = some (.int .i64 a) ∧ w'.cell? ⟨w.heap.size, 1, none⟩ = some (.int .i64 b) ∧ w'.cell? ⟨w.heap.size, 2, none⟩ = some (.int .i64 d)) (go_keep) (first | (go_at_call 88; refine (L.out _).mono ?_; rintro e w1 ⟨rfl, hb1⟩; obtain ⟨hc1, hf1⟩ := bcell hb1) | fail)
      go_wp2
      go_ret
      exact ⟨ret_i (by rw [E.out, HG.out]; rfl), by focus ((repeat first | with_reducible exact Below.refl _ _ | (with_reducible refine Below.setCell ?_ ?_ _) | (with_reducible refine Below.alloc ?_ ?_ _) | (with_reducible refine below_drewN ?_ _) | (with_reducible refine Below.drew ?_) | (with_reducible refine Below.trans ?_ (Below.mono hb1 ?_))); all_goals (first | with_reducible exact Nat.le_refl _ | omega | (simp; done) | (simp; omega) | (have := hb1.size; (try simp at this); omega) | (have := hb1.size; (try simp at this); (try simp); omega)))⟩
    · have e1 : same3 q1 q2 q3 a b d = false := same3_f.2 (fun e => hg (LO.out.1 (by rw [e.1, e.2.1, e.2.2])))
      have e2 := Lib.hid (show (((gcdL [a, b, d] : Nat) : Int) == 1) = false from beqF (by omega))
      clear hg
      go_enter Try.func25, Try.ntmps25
      go_wp2_with (go_at_call 37; refine (within_b _ _ _ _).mono ?_; rintro e w' ⟨rfl, rfl⟩)
      go_region_held3 (fun w' => w'.cell? ⟨w.heap.size, 0, none⟩ = some (.int .i64 a) ∧ w'.cell? ⟨w.heap.size, 1, none⟩ = some (.int .i64 b) ∧ w'.cell? ⟨w.heap.size, 2, none⟩ = some (.int .i64 d)) (go_keep) (first | (go_at_call 88; refine (L.out _).mono ?_; rintro e w1 ⟨rfl, hb1⟩; obtain ⟨hc1, hf1⟩ := bcell hb1) | fail)
      go_wp2
      go_ret
      exact ⟨ret_i (by rw [E.out, e2.out]; rfl), by focus ((repeat first | with_reducible exact Below.refl _ _ | (with_reducible refine Below.setCell ?_ ?_ _) | (with_reducible refine Below.alloc ?_ ?_ _) | (with_reducible refine below_drewN ?_ _) | (with_reducible refine Below.drew ?_) | (with_reducible refine Below.trans ?_ (Below.mono hb1 ?_))); all_goals (first | with_reducible exact Nat.le_refl _ | omega | (simp; done) | (simp; omega) | (have := hb1.size; (try simp at this); omega) | (have := hb1.size; (try simp at this); (try simp); omega)))⟩

end Go.Proofs.Ytgbckdmhmkpahaa

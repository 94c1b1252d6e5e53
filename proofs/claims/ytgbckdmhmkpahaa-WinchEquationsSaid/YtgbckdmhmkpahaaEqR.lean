/-
  The law WinchEquations (chapter 2): plain facts for the walk.
-/
import Derived.Test.YtgbckdmhmkpahaaWEq
set_option linter.unusedVariables false
namespace Go.Proofs.Ytgbckdmhmkpahaa
open Go.RowKit Go.Shelf

theorem findFrom_all {p : Int → Bool} : ∀ (xs : List Int) (i : Int), (∀ x ∈ xs, p x = false) → findFrom p i xs = -1
  | [], _, _ => rfl
  | x :: l, i, h => by
    unfold findFrom
    rw [h x (by simp)]
    exact findFrom_all l (i + 1) (fun y hy => h y (by simp [hy]))
theorem chkS_fine {xs : List Int} (h4 : 4 ≤ xs.length) (h20 : xs.length ≤ 20) (h : ∀ x ∈ xs, -100 ≤ x ∧ x ≤ 100) : (chkS xs).2 = 0 := by
  have e1 : decide (4 ≤ (xs.length : Int)) = true := decide_eq_true (by omega)
  have e2 : decide ((xs.length : Int) ≤ 20) = true := decide_eq_true (by omega)
  have e3 : findI badS xs = -1 := findFrom_all xs 0 (fun x hx => by unfold badS; rw [inB_true.2 (h x hx)]; rfl)
  unfold chkS
  rw [e1, e2, e3]
  rfl
theorem frP_one (n : Int) : frP n 1 = (n, 1) := by
  unfold frP
  rw [gcdL2]
  simp
theorem coef_ok {a b : Int} (ha : -3 ≤ a ∧ a ≤ 3) (hb : -3 ≤ b ∧ b ≤ 3) : prdE a b 1 = 0 := by
  unfold prdE prdBad
  rw [inB_true.2 (show (1 : Int) ≤ 1 ∧ (1 : Int) ≤ 1000000000000 by omega), inB_true.2 (show (-1000000000000 : Int) ≤ a ∧ a ≤ 1000000000000 by omega), inB_true.2 (show (-1000000000000 : Int) ≤ b ∧ b ≤ 1000000000000 by omega), gcdL3]
  simp [unl]
theorem own_det0 {xs : List Int} (h : (chkS xs).2 = 0) (h2 : detS xs = 0) : pofP xs = ((0, 0, 0), 11) ∧ rofP xs = ((0, 0), 11) := by
  have e1 : opE xs = 11 := by unfold opE; rw [if_neg (by simpa using h), bneF h2]; rfl
  refine ⟨?_, ?_⟩
  · unfold pofP; rw [e1, if_pos (by decide)]
  · unfold rofP; rw [e1, if_pos (by decide)]
theorem own_det1 {xs : List Int} (h : (chkS xs).2 = 0) (h2 : detS xs ≠ 0) : pofP xs = (prV xs, 0) ∧ rofP xs = (frP (resN xs) (detS xs), 0) := by
  have e1 : opE xs = 0 := by unfold opE; rw [if_neg (by simpa using h), bneT h2]; rfl
  refine ⟨?_, ?_⟩
  · unfold pofP; rw [e1, if_neg (by decide)]
  · unfold rofP; rw [e1, if_neg (by decide)]
theorem rec_chk {a b : Int} {L : List Int} (h : Rec a b L) (h4 : 4 ≤ L.length) : (chkS L).2 = 0 := chkS_fine h4 h.2.1 h.2.2.1
theorem rec_own {a b : Int} {L : List Int} (h : Rec a b L) (h4 : 4 ≤ L.length) (hd : detS L ≠ 0) : pofP L = ((a, b, 1), 0) ∧ rofP L = ((0, 1), 0) := by
  obtain ⟨e1, e2⟩ := own_det1 (rec_chk h h4) hd
  obtain ⟨e3, e4⟩ := exact_pred h.1 h.2.2.2 hd
  rw [e1, e2, e3, e4]; exact ⟨rfl, rfl⟩
/-- What the law asks of the next height. -/
theorem next_own (a b : Int) (L : List Int) (A : Option Addr) (c : Nat) (W : World) (ha : -3 ≤ a ∧ a ≤ 3) (hb : -3 ≤ b ∧ b ≤ 3) (h : Rec a b L) (h4 : 4 ≤ L.length) (hs : SlI W A L) :
    Calls Try.prog 23 #[.agg #[.int .i64 a, .int .i64 b, .int .i64 1], .slice A L.length c] W fun e w' => e = .returned (.tuple #[.agg #[.int .i64 (nxtN L a b), .int .i64 1], .int .i64 0]) ∧ Below W.heap.size W w' := by
  have e : nxtE L a b 1 = 0 := by unfold nxtE; rw [fst2, if_pos (coef_ok ha hb)]; exact rec_chk h h4
  have := nextBy_yes L A c a b 1 W hs e
  rw [frP_one] at this
  exact this

theorem frP_den {xs : List Int} (hk : (chkS xs).2 = 0) (hd : detS xs ≠ 0) : (frP (resN xs) (detS xs)).2 ≤ 40000000000 := by
  obtain ⟨l4, l20, hx⟩ := chkS_ok hk
  have b11 := sum_bd ⟨l20, hx⟩ 1 1; have b12 := sum_bd ⟨l20, hx⟩ 1 2; have b22 := sum_bd ⟨l20, hx⟩ 2 2
  have p1 := prod_bd b11 b22; have p2 := prod_bd b12 b12
  have hD : detS xs = sm xs 1 1 * sm xs 2 2 - sm xs 1 2 * sm xs 1 2 := rfl
  have hq := sq_nonneg' (sm xs 1 2)
  have hd0 := det_nonneg xs
  have := tdiv_bd (detS xs) (gcdL [resN xs, detS xs])
  unfold frP
  dsimp only
  omega
theorem resAt_bd {xs : List Int} {a b : Int} (ha : -3 ≤ a ∧ a ≤ 3) (hb : -3 ≤ b ∧ b ≤ 3) (hx : ∀ x ∈ xs, -100 ≤ x ∧ x ≤ 100) {t : Nat} (ht : t + 2 < xs.length) : -700 ≤ resAt xs a b t ∧ resAt xs a b t ≤ 700 := by
  have h0 := hx _ (List.getElem_mem (show t + 2 < xs.length by omega))
  have h1 := hx _ (List.getElem_mem (show t + 1 < xs.length by omega))
  have h2 := hx _ (List.getElem_mem (show t < xs.length by omega))
  have m1 := mul_le_sq (x := a) (y := xs[t + 1]) (by omega) h1
  have m2 := mul_le_sq (x := b) (y := xs[t]) (by omega) h2
  have n1 : (a * xs[t + 1]).natAbs ≤ 3 * 100 := by rw [Int.natAbs_mul]; exact Nat.mul_le_mul (by omega) (by omega)
  have n2 : (b * xs[t]).natAbs ≤ 3 * 100 := by rw [Int.natAbs_mul]; exact Nat.mul_le_mul (by omega) (by omega)
  unfold resAt
  rw [List.getD_eq_getElem?_getD, List.getD_eq_getElem?_getD, List.getD_eq_getElem?_getD, List.getElem?_eq_getElem (by omega), List.getElem?_eq_getElem (by omega), List.getElem?_eq_getElem (by omega)]
  simp only [Option.getD_some]
  omega
theorem sq700 {x : Int} (h : -700 ≤ x ∧ x ≤ 700) : 0 ≤ x * x ∧ x * x ≤ 490000 := by
  have h1 : (x * x).natAbs ≤ 700 * 700 := by rw [Int.natAbs_mul]; exact Nat.mul_le_mul (by omega) (by omega)
  have := sq_nonneg' x
  omega
theorem sqTo_bd {xs : List Int} {a b : Int} (ha : -3 ≤ a ∧ a ≤ 3) (hb : -3 ≤ b ∧ b ≤ 3) (hx : ∀ x ∈ xs, -100 ≤ x ∧ x ≤ 100) : ∀ n, n + 2 ≤ xs.length → 0 ≤ sqTo xs a b n ∧ sqTo xs a b n ≤ n * 490000
  | 0, _ => by simp [sqTo]
  | n + 1, hn => by
    have ih := sqTo_bd ha hb hx n (by omega)
    have h := sq700 (resAt_bd ha hb hx (t := n) (by omega))
    simp only [sqTo]
    omega
/-- What the law asks of the given samples. -/
def eqOk (xs : List Int) (a b : Int) : Prop :=
  (chkS xs).2 = 0 → (detS xs = 0 → pofP xs = ((0, 0, 0), 11)) ∧ (detS xs ≠ 0 → ∃ A B D N M : Int, pofP xs = ((A, B, D), 0) ∧ rofP xs = ((N, M), 0) ∧ chkP xs A B D = (0, 0) ∧ (1 ≤ D ∧ D ≤ 1000000000000) ∧ (-1000000000000 ≤ A ∧ A ≤ 1000000000000) ∧ (-1000000000000 ≤ B ∧ B ≤ 1000000000000) ∧ 0 ≤ N ∧ (1 ≤ M ∧ M ≤ 40000000000) ∧ N ≤ M * sqTo xs a b (xs.length - 2) ∧ (prdE (A + 1) B D = 0 → (chkP xs (A + 1) B D).2 = 19) ∧ (prdE A (B - 1) D = 0 → (chkP xs A (B - 1) D).2 = 19))
theorem eq_ok (xs : List Int) (a b : Int) : eqOk xs a b := by
  intro hk
  refine ⟨fun hd => (own_det0 hk hd).1, fun hd => ?_⟩
  obtain ⟨e1, e2⟩ := own_det1 hk hd
  obtain ⟨b1, b2, b3⟩ := prV_bd hk hd
  obtain ⟨f1, f2, f3⟩ := frP_num hd a b
  refine ⟨(prV xs).1, (prV xs).2.1, (prV xs).2.2, (frP (resN xs) (detS xs)).1, (frP (resN xs) (detS xs)).2, e1, e2, (chk_own hk hd).2, b1, b2, b3, f1, ⟨f2, frP_den hk hd⟩, f3, fun h => chk_oth hk hd _ _ h (.inl ⟨rfl, rfl⟩), fun h => chk_oth hk hd _ _ h (.inr ⟨rfl, rfl⟩)⟩

end Go.Proofs.Ytgbckdmhmkpahaa

/-
  Windows of forecasts (chapter 2), in plain words: the largest ranges of neighbouring ticks for which something is so.
-/
import Derived.Test.YtgbckdmhmkpahaaPred5
set_option linter.unusedVariables false
namespace Go.Proofs.Ytgbckdmhmkpahaa

abbrev Rg := Int × Int
def rgV (r : Rg) : List Value := [.int .i64 r.1, .int .i64 r.2]
/-- Whether a forecast is calm, or may be. -/
def calmB (lim : Int) (r : Rg) : Bool := decide (-lim ≤ r.1) && decide (r.2 ≤ lim)
def mayB (lim : Int) (r : Rg) : Bool := decide (r.1 ≤ lim) && decide (-lim ≤ r.2)
theorem calmB_t {lim : Int} {r : Rg} : calmB lim r = true ↔ -lim ≤ r.1 ∧ r.2 ≤ lim := by simp [calmB]
theorem mayB_t {lim : Int} {r : Rg} : mayB lim r = true ↔ r.1 ≤ lim ∧ -lim ≤ r.2 := by simp [mayB]
/-- The ranges, the last one first, one tick further. -/
def rstep (q : Rg → Bool) (o : List Rg) (t : Int) (r : Rg) : List Rg :=
  if q r then (match o with
    | w :: o' => if w.2 = t - 1 then (w.1, t) :: o' else (t, t) :: w :: o'
    | [] => [(t, t)])
  else o
def runsR (q : Rg → Bool) (l : List Rg) : Nat → List Rg
  | 0 => []
  | n + 1 => match l[n]? with
    | some r => rstep q (runsR q l n) n r
    | none => runsR q l n
def longB (len : Int) (w : Rg) : Bool := decide (len ≤ w.2 - w.1 + 1)
/-- All windows. -/
def winL (q : Rg → Bool) (len : Int) (l : List Rg) : List Rg := ((runsR q l l.length).reverse).filter (longB len)

theorem runsR_succ {q : Rg → Bool} {l : List Rg} {n : Nat} {r : Rg} (h : l[n]? = some r) : runsR q l (n + 1) = rstep q (runsR q l n) n r := by
  conv => lhs; unfold runsR
  rw [h]
theorem rstep_no {q : Rg → Bool} {o : List Rg} {t : Int} {r : Rg} (h : q r = false) : rstep q o t r = o := by unfold rstep; rw [h]; rfl
theorem rstep_more {q : Rg → Bool} {o : List Rg} {w : Rg} {t : Int} {r : Rg} (h : q r = true) (hw : w.2 = t - 1) : rstep q (w :: o) t r = (w.1, t) :: o := by unfold rstep; rw [if_pos h]; simp only; rw [if_pos hw]
theorem rstep_new {q : Rg → Bool} {o : List Rg} {t : Int} {r : Rg} (h : q r = true) (hw : ∀ w o', o = w :: o' → w.2 ≠ t - 1) : rstep q o t r = (t, t) :: o := by
  unfold rstep
  rw [if_pos h]
  cases o with
  | nil => rfl
  | cons w o' => simp only; rw [if_neg (hw w o' rfl)]
theorem runsR_congr {q q' : Rg → Bool} {l : List Rg} (h : ∀ r ∈ l, q r = q' r) : ∀ n, runsR q l n = runsR q' l n
  | 0 => rfl
  | n + 1 => by
    unfold runsR
    cases hl : l[n]? with
    | none => exact runsR_congr h n
    | some r =>
      have := h r (List.mem_of_getElem? hl)
      simp only
      unfold rstep
      rw [runsR_congr h n, this]
theorem winL_congr {q q' : Rg → Bool} {l : List Rg} (len : Int) (h : ∀ r ∈ l, q r = q' r) : winL q len l = winL q' len l := by unfold winL; rw [runsR_congr h]

def OnR (q : Rg → Bool) (l : List Rg) (a b : Int) : Prop := ∀ t : Nat, a ≤ t → (t : Int) ≤ b → ∃ r, l[t]? = some r ∧ q r = true
theorem runsR_ok (q : Rg → Bool) (l : List Rg) : ∀ n, n ≤ l.length → (runsR q l n).Pairwise (fun x y => y.2 + 1 < x.1) ∧ ∀ w ∈ runsR q l n, 0 ≤ w.1 ∧ w.1 ≤ w.2 ∧ w.2 < n ∧ OnR q l w.1 w.2
  | 0, _ => ⟨List.Pairwise.nil, fun w hw => by simp [runsR] at hw⟩
  | n + 1, hn => by
    obtain ⟨h1, h2⟩ := runsR_ok q l n (by omega)
    have hg : l[n]? = some l[n] := List.getElem?_eq_getElem (by omega)
    rw [runsR_succ hg]
    generalize l[n] = r at *
    cases hq : q r with
    | false =>
      rw [rstep_no hq]
      exact ⟨h1, fun w hw => by obtain ⟨a, b, c, d⟩ := h2 w hw; exact ⟨a, b, by omega, d⟩⟩
    | true =>
      have one : OnR q l n n := fun t a b => ⟨r, by rw [show t = n by omega]; exact hg, hq⟩
      cases ho : runsR q l n with
      | nil =>
        rw [rstep_new hq (by intro w o' e; cases e)]
        refine ⟨by simp, fun w hw => ?_⟩
        simp at hw; subst hw
        exact ⟨by simp, Int.le_refl _, by simp; omega, one⟩
      | cons w o =>
        rw [ho] at h1 h2
        have h1' := List.pairwise_cons.1 h1
        obtain ⟨a, b, c, d⟩ := h2 w (by simp)
        by_cases hw : w.2 = (n : Int) - 1
        · rw [rstep_more hq hw]
          refine ⟨List.pairwise_cons.2 ⟨fun y hy => h1'.1 y hy, h1'.2⟩, fun v hv => ?_⟩
          rcases List.mem_cons.1 hv with rfl | hv
          · refine ⟨a, by dsimp only; omega, by dsimp only; omega, fun t ht1 ht2 => ?_⟩
            dsimp only at ht1 ht2
            by_cases ht : (t : Int) = n
            · exact one t (by omega) (by omega)
            · exact d t ht1 (by omega)
          · obtain ⟨a', b', c', d'⟩ := h2 v (by simp [hv])
            exact ⟨a', b', by omega, d'⟩
        · rw [rstep_new hq (by intro w' o' e; cases e; exact hw)]
          refine ⟨List.pairwise_cons.2 ⟨fun y hy => ?_, h1⟩, fun v hv => ?_⟩
          · dsimp only
            rcases List.mem_cons.1 hy with rfl | hy
            · omega
            · have := h1'.1 y hy; omega
          · rcases List.mem_cons.1 hv with rfl | hv
            · exact ⟨by simp, Int.le_refl _, by simp; omega, one⟩
            · obtain ⟨a', b', c', d'⟩ := h2 v hv
              exact ⟨a', b', by omega, d'⟩
/-- Each range of ticks for which it is so lies in one of them. -/
theorem runsR_cover (q : Rg → Bool) (l : List Rg) : ∀ n, n ≤ l.length → ∀ a b : Nat, a ≤ b → b < n → OnR q l a b → ∃ w ∈ runsR q l n, w.1 ≤ a ∧ (b : Int) ≤ w.2
  | 0, _, a, b, _, h, _ => by omega
  | n + 1, hn, a, b, hab, hb, hO => by
    obtain ⟨h1, h2⟩ := runsR_ok q l n (by omega)
    have hg : l[n]? = some l[n] := List.getElem?_eq_getElem (by omega)
    rw [runsR_succ hg]
    by_cases hbn : b < n
    · obtain ⟨w, hw, w1, w2⟩ := runsR_cover q l n (by omega) a b hab hbn hO
      cases hq : q l[n] with
      | false => rw [rstep_no hq]; exact ⟨w, hw, w1, w2⟩
      | true =>
        cases ho : runsR q l n with
        | nil => rw [ho] at hw; simp at hw
        | cons v o =>
          rw [ho] at hw
          by_cases hv : v.2 = (n : Int) - 1
          · rw [rstep_more hq hv]
            rcases List.mem_cons.1 hw with rfl | hw
            · exact ⟨_, List.mem_cons_self, w1, by dsimp only; omega⟩
            · exact ⟨w, by simp [hw], w1, w2⟩
          · rw [rstep_new hq (by intro w' o' e; cases e; exact hv)]
            exact ⟨w, List.mem_cons_of_mem _ hw, w1, w2⟩
    · obtain rfl : b = n := by omega
      obtain ⟨r, hr, hq⟩ := hO b (by omega) (Int.le_refl _)
      rw [hg] at hr
      have hq : q l[b] = true := by cases hr; exact hq
      by_cases hab' : a = b
      · subst hab'
        cases ho : runsR q l a with
        | nil => rw [rstep_new hq (by intro w o' e; cases e)]; exact ⟨_, List.mem_cons_self, Int.le_refl _, Int.le_refl _⟩
        | cons v o =>
          obtain ⟨c1, c2, c3, _⟩ := h2 v (by rw [ho]; simp)
          by_cases hv : v.2 = (a : Int) - 1
          · rw [rstep_more hq hv]; exact ⟨_, List.mem_cons_self, by dsimp only; omega, Int.le_refl _⟩
          · rw [rstep_new hq (by intro w' o' e; cases e; exact hv)]; exact ⟨_, List.mem_cons_self, Int.le_refl _, Int.le_refl _⟩
      · obtain ⟨w, hw, w1, w2⟩ := runsR_cover q l b (by omega) a (b - 1) (by omega) (by omega) (fun t h1 h2 => hO t h1 (by omega))
        obtain ⟨c1, c2, c3, _⟩ := h2 w hw
        cases ho : runsR q l b with
        | nil => rw [ho] at hw; simp at hw
        | cons v o =>
          rw [ho] at hw h1 h2
          have h1' := List.pairwise_cons.1 h1
          rcases List.mem_cons.1 hw with rfl | hw
          · rw [rstep_more hq (by omega)]
            exact ⟨_, List.mem_cons_self, w1, Int.le_refl _⟩
          · have := h1'.1 w hw
            obtain ⟨d1, d2, d3, _⟩ := h2 v (by simp)
            omega

theorem mem_winL {q : Rg → Bool} {len : Int} {l : List Rg} {w : Rg} : w ∈ winL q len l ↔ w ∈ runsR q l l.length ∧ longB len w = true := by
  unfold winL; rw [List.mem_filter, List.mem_reverse]
/-- More calm, larger windows. -/
theorem winL_in {q q' : Rg → Bool} {len : Int} {l : List Rg} (h : ∀ r ∈ l, q r = true → q' r = true) {w : Rg} (hw : w ∈ winL q len l) : ∃ v ∈ winL q' len l, v.1 ≤ w.1 ∧ w.2 ≤ v.2 := by
  obtain ⟨h1, h2⟩ := mem_winL.1 hw
  obtain ⟨a, b, c, d⟩ := (runsR_ok q l l.length (Nat.le_refl _)).2 w h1
  obtain ⟨v, hv, v1, v2⟩ := runsR_cover q' l l.length (Nat.le_refl _) w.1.toNat w.2.toNat (by omega) (by omega) (fun t e1 e2 => by
    obtain ⟨r, hr, hq⟩ := d t (by omega) (by omega)
    exact ⟨r, hr, h r (List.mem_of_getElem? hr) hq⟩)
  refine ⟨v, mem_winL.2 ⟨hv, ?_⟩, by omega, by omega⟩
  unfold longB at h2 ⊢
  simp only [decide_eq_true_eq] at h2 ⊢
  omega
theorem winL_sorted (q : Rg → Bool) (len : Int) (l : List Rg) : (winL q len l).Pairwise (fun x y => x.2 + 1 < y.1) := by
  unfold winL
  exact (List.pairwise_reverse.2 (runsR_ok q l l.length (Nat.le_refl _)).1).filter _
/-- The first tick from one on from which on so many ticks are calm. -/
def firstW (tick len : Int) : List Rg → Int × Int
  | [] => (0, 12)
  | w :: l => if len ≤ w.2 - max tick w.1 + 1 then (max tick w.1, 0) else firstW tick len l
def firstR (q : Rg → Bool) (l : List Rg) (len : Int) : Nat → Int → Option Int
  | 0, _ => none
  | f + 1, i => if i + len ≤ l.length then (if ((l.drop i.toNat).take len.toNat).all q then some i else firstR q l len f (i + 1)) else none
theorem all_on {q : Rg → Bool} {l : List Rg} {i len : Int} (h0 : 0 ≤ i) (h1 : 1 ≤ len) (h2 : i + len ≤ l.length) : ((l.drop i.toNat).take len.toNat).all q = true ↔ OnR q l i (i + len - 1) := by
  rw [List.all_eq_true]
  constructor
  · intro h t a b
    have ht : t < l.length := by omega
    refine ⟨l[t], List.getElem?_eq_getElem ht, h _ ?_⟩
    rw [List.mem_iff_getElem?]
    refine ⟨t - i.toNat, ?_⟩
    rw [List.getElem?_take, if_pos (by omega), List.getElem?_drop, show i.toNat + (t - i.toNat) = t by omega]
    exact List.getElem?_eq_getElem ht
  · intro h x hx
    obtain ⟨k, hk⟩ := List.mem_iff_getElem?.1 hx
    rw [List.getElem?_take] at hk
    split at hk
    · rename_i hlt
      rw [List.getElem?_drop] at hk
      obtain ⟨r, hr, hq⟩ := h (i.toNat + k) (by omega) (by omega)
      rw [hk] at hr; cases hr
      exact hq
    · cases hk
theorem firstR_none {q : Rg → Bool} {l : List Rg} {len : Int} : ∀ (f : Nat) (i : Int), (l.length : Int) + 1 ≤ i + f → firstR q l len f i = none → 0 ≤ i → 1 ≤ len → ∀ j, i ≤ j → j + len ≤ l.length → ¬ OnR q l j (j + len - 1)
  | 0, i, hf, _, _, h1, j, a, b => by omega
  | f + 1, i, hf, h, h0, h1, j, a, b => by
    unfold firstR at h
    by_cases hc : i + len ≤ l.length
    · rw [if_pos hc] at h
      split at h
      · cases h
      · rename_i hn
        by_cases hj : j = i
        · subst hj; intro ho; exact hn ((all_on h0 h1 hc).2 ho)
        · exact firstR_none f (i + 1) (by omega) h (by omega) h1 j (by omega) b
    · omega
theorem firstR_some {q : Rg → Bool} {l : List Rg} {len : Int} : ∀ (f : Nat) (i : Int) (k : Int), firstR q l len f i = some k → 0 ≤ i → 1 ≤ len → i ≤ k ∧ k + len ≤ l.length ∧ OnR q l k (k + len - 1) ∧ ∀ j, i ≤ j → j < k → ¬ OnR q l j (j + len - 1)
  | 0, i, k, h, _, _ => by cases h
  | f + 1, i, k, h, h0, h1 => by
    unfold firstR at h
    by_cases hc : i + len ≤ l.length
    · rw [if_pos hc] at h
      split at h
      · rename_i hn
        cases h
        exact ⟨Int.le_refl _, hc, (all_on h0 h1 hc).1 hn, fun j a b => by omega⟩
      · rename_i hn
        obtain ⟨a, b, c, d⟩ := firstR_some f (i + 1) k h (by omega) h1
        refine ⟨by omega, b, c, fun j e1 e2 ho => ?_⟩
        by_cases hj : j = i
        · subst hj; exact hn ((all_on h0 h1 hc).2 ho)
        · exact d j (by omega) e2 ho
    · rw [if_neg hc] at h; cases h
theorem firstW_spec {tick len : Int} : ∀ (l : List Rg), l.Pairwise (fun x y => x.2 + 1 < y.1) → (∀ w ∈ l, w.1 ≤ w.2) → ((firstW tick len l = (0, 12) ∧ ∀ w ∈ l, ¬ len ≤ w.2 - max tick w.1 + 1) ∨ ∃ w ∈ l, firstW tick len l = (max tick w.1, 0) ∧ len ≤ w.2 - max tick w.1 + 1 ∧ ∀ v ∈ l, len ≤ v.2 - max tick v.1 + 1 → w.1 ≤ v.1)
  | [], _, _ => .inl ⟨rfl, fun w hw => by simp at hw⟩
  | w :: l, hp, hv => by
    have hp' := List.pairwise_cons.1 hp
    unfold firstW
    by_cases h : len ≤ w.2 - max tick w.1 + 1
    · rw [if_pos h]
      refine .inr ⟨w, by simp, rfl, h, fun v hv' _ => ?_⟩
      rcases List.mem_cons.1 hv' with rfl | hv'
      · exact Int.le_refl _
      · have := hp'.1 v hv'; have := hv w (by simp); omega
    · rw [if_neg h]
      rcases firstW_spec l hp'.2 (fun v hv' => hv v (by simp [hv'])) with ⟨e, a⟩ | ⟨v, hv1, e, a, b⟩
      · refine .inl ⟨e, fun v hv' => ?_⟩
        rcases List.mem_cons.1 hv' with rfl | hv'
        · exact h
        · exact a v hv'
      · refine .inr ⟨v, by simp [hv1], e, a, fun u hu hu' => ?_⟩
        rcases List.mem_cons.1 hu with rfl | hu
        · exact absurd hu' h
        · exact b u hu hu'
/-- The first tick: both ways. -/
theorem first_eq {q : Rg → Bool} {l : List Rg} {tick len : Int} {f : Nat} (h0 : 0 ≤ tick) (h1 : 1 ≤ len) (hf : (l.length : Int) + 1 ≤ tick + f) : firstW tick len (winL q len l) = match firstR q l len f tick with
    | some k => (k, 0)
    | none => (0, 12) := by
  have hok := fun w (hw : w ∈ winL q len l) => (runsR_ok q l l.length (Nat.le_refl _)).2 w (mem_winL.1 hw).1
  have cov : ∀ j, tick ≤ j → j + len ≤ l.length → OnR q l j (j + len - 1) → ∃ v ∈ winL q len l, v.1 ≤ j ∧ j + len - 1 ≤ v.2 := fun j a b c => by
    obtain ⟨v, hv, v1, v2⟩ := runsR_cover q l l.length (Nat.le_refl _) j.toNat (j + len - 1).toNat (by omega) (by omega) (fun t e1 e2 => c t (by omega) (by omega))
    refine ⟨v, mem_winL.2 ⟨hv, ?_⟩, by omega, by omega⟩
    unfold longB
    simp only [decide_eq_true_eq]
    omega
  rcases firstW_spec (tick := tick) (len := len) _ (winL_sorted q len l) (fun w hw => (hok w hw).2.1) with ⟨e, a⟩ | ⟨w, hw, e, a, b⟩
  · rw [e]
    cases hr : firstR q l len f tick with
    | none => rfl
    | some k =>
      obtain ⟨c1, c2, c3, _⟩ := firstR_some f tick k hr h0 h1
      obtain ⟨v, hv, v1, v2⟩ := cov k c1 c2 c3
      have := a v hv
      omega
  · rw [e]
    obtain ⟨o1, o2, o3, o4⟩ := hok w hw
    have hon : OnR q l (max tick w.1) (max tick w.1 + len - 1) := fun t e1 e2 => o4 t (by omega) (by omega)
    cases hr : firstR q l len f tick with
    | none => exact absurd hon (firstR_none f tick hf hr h0 h1 _ (by omega) (by omega))
    | some k =>
      obtain ⟨c1, c2, c3, c4⟩ := firstR_some f tick k hr h0 h1
      obtain ⟨v, hv, v1, v2⟩ := cov k c1 c2 c3
      have h3 := b v hv (by omega)
      have h4 : ¬ max tick w.1 < k := fun h => c4 _ (by omega) h hon
      have : k = max tick w.1 := by omega
      rw [this]

/-- What the reference's walk keeps: from a tick on whose neighbour ahead is not calm. -/
theorem runsR_block {q : Rg → Bool} {l : List Rg} {i : Nat} (hi : ∀ w ∈ runsR q l i, w.2 + 1 < (i : Int)) : ∀ m, i + m ≤ l.length → OnR q l i ((i : Int) + m - 1) → runsR q l (i + m) = if m = 0 then runsR q l i else ((i : Int), (i : Int) + m - 1) :: runsR q l i
  | 0, _, _ => by simp
  | m + 1, hm, hO => by
    have ih := runsR_block hi m (by omega) (fun t a b => hO t a (by omega))
    obtain ⟨r, hr, hq⟩ := hO (i + m) (by omega) (by omega)
    rw [show i + (m + 1) = (i + m) + 1 by omega, runsR_succ hr, ih, if_neg (show ¬ m + 1 = 0 by omega)]
    by_cases h0 : m = 0
    · subst h0
      rw [if_pos rfl, rstep_new hq]
      · simp
      · intro w o' e h
        have := hi w (by rw [e]; simp)
        simp at h
        omega
    · rw [if_neg h0, rstep_more hq (by dsimp only; omega)]
      simp
      omega

end Go.Proofs.Ytgbckdmhmkpahaa

/-
  Forces that hold, in plain words (chapter 6): which are accepted; the first that hold are accepted, and not behind any that are; a greater friction and greater forces keep them.
-/
import Derived.Test.YtpnfgmgoafgcbaaGreatA14
set_option linter.unusedVariables false
namespace Go.Proofs.YtpnfgmgoafgcbaaGreat

/-- Whether forces hold, contact by contact, with an index. -/
def chF (fn fd : Int) : Nat → List Ct → List (Int × Int) → Int × Int × Int → Int × Int
  | i, c :: C, f :: F, b => if inB f.1 0 c.2.2 = false then ((i : Int), 2) else if stB fn fd c.2.2 f.1 f.2 = false then ((i : Int), 22) else chF fn fd (i + 1) C F (afP b c f.1 f.2)
  | _, _, _, b => if b = (0, 0, 0) then (0, 0) else (0, 19)
def chE (h : Hd) (F : List (Int × Int)) : Int := fstE [hdE h, unl (decide ((F.length : Int) = (h.C.length : Int))) 10]
def chP (h : Hd) (F : List (Int × Int)) : Int × Int := if chE h F ≠ 0 then (0, chE h F) else chF h.fn h.fd 0 h.C F h.l
/-- Whether forces come before others. -/
def befP : List (Int × Int) → List (Int × Int) → Bool
  | a :: A, b :: B => if a = b then befP A B else (decide (a.1 < b.1) || decide (a.1 = b.1) && decide (a.2 < b.2))
  | _, _ => false

theorem frF_none {α : Type} {f : Int → Option α} : ∀ {k : Nat} {n : Int}, frF f k n = none ↔ ∀ i : Int, n ≤ i → i < n + k → f i = none
  | 0, n => by simp [frF]; intro i h1 h2; omega
  | k + 1, n => by
    rw [frF, Option.or_eq_none_iff, frF_none]
    constructor
    · rintro ⟨h0, h⟩ i h1 h2
      by_cases e : i = n
      · rw [e]; exact h0
      · exact h i (by omega) (by omega)
    · intro h
      exact ⟨h n (by omega) (by omega), fun i h1 h2 => h i (by omega) (by omega)⟩
theorem frF_some {α : Type} {f : Int → Option α} {x : α} : ∀ {k : Nat} {n : Int}, frF f k n = some x → ∃ i : Int, n ≤ i ∧ i < n + k ∧ f i = some x ∧ ∀ j : Int, n ≤ j → j < i → f j = none
  | 0, n, h => by simp [frF] at h
  | k + 1, n, h => by
    rw [frF] at h
    cases h0 : f n with
    | some y =>
      rw [h0] at h
      simp at h
      subst h
      exact ⟨n, by omega, by omega, h0, fun j h1 h2 => by omega⟩
    | none =>
      rw [h0] at h
      simp at h
      obtain ⟨i, h1, h2, h3, h4⟩ := frF_some h
      refine ⟨i, by omega, by omega, h3, fun j h5 h6 => ?_⟩
      by_cases e : j = n
      · rw [e]; exact h0
      · exact h4 j (by omega) h6

theorem befP_refl : ∀ L : List (Int × Int), befP L L = false
  | [] => rfl
  | a :: L => by simp [befP, befP_refl L]
/-- What is found holds, by the same friction and by one that keeps all that the contacts keep. -/
theorem heP_ok (fn fd fn' fd' : Int) : ∀ (C C' : List Ct) (b : Int × Int × Int) (L : List (Int × Int)) (i : Nat), (∀ c ∈ C, 0 ≤ c.2.2) →
    C'.length = C.length → (∀ (k : Nat) (c c' : Ct), C[k]? = some c → C'[k]? = some c' → c'.1 = c.1 ∧ c'.2.1 = c.2.1 ∧ c.2.2 ≤ c'.2.2 ∧ ∀ n t : Int, 0 ≤ n → n ≤ c.2.2 → stB fn fd c.2.2 n t = true → stB fn' fd' c'.2.2 n t = true) →
    heP fn fd C b = some L → L.length = C.length ∧ chF fn' fd' i C' L b = (0, 0)
  | [], [], b, L, i, _, _, _, h => by
    unfold heP at h
    by_cases hb : b = (0, 0, 0)
    · rw [if_pos hb] at h
      simp at h
      subst h
      exact ⟨rfl, by unfold chF; rw [if_pos hb]⟩
    · rw [if_neg hb] at h; cases h
  | [], c' :: C', b, L, i, _, hl, _, _ => by simp at hl
  | c :: C, [], b, L, i, _, hl, _, _ => by simp at hl
  | c :: C, c' :: C', b, L, i, hm, hl, hk, h => by
    have hm0 := hm c (by simp)
    unfold heP at h
    obtain ⟨n, h1, h2, h3, _⟩ := frF_some h
    obtain ⟨t, h4, h5, h6, _⟩ := frF_some h3
    by_cases hs : stB fn fd c.2.2 n t = true
    · rw [if_pos hs] at h6
      cases hr : heP fn fd C (afP b c n t) with
      | none => rw [hr] at h6; cases h6
      | some L' =>
        rw [hr] at h6
        simp at h6
        subst h6
        obtain ⟨e1, e2, e3, e4⟩ := hk 0 c c' rfl rfl
        have ea : afP b c n t = afP b c' n t := by unfold afP; rw [e1, e2]
        obtain ⟨i1, i2⟩ := heP_ok fn fd fn' fd' C C' (afP b c n t) L' (i + 1) (fun x hx => hm x (by simp [hx])) (by simpa using hl) (fun k x x' hx hx' => hk (k + 1) x x' (by simpa using hx) (by simpa using hx')) hr
        refine ⟨by simp [i1], ?_⟩
        unfold chF
        have q1 : inB n 0 c'.2.2 = true := by rw [inB_true]; omega
        have q2 := e4 n t (by omega) (by omega) hs
        dsimp only
        rw [if_neg (by simp [q1]), if_neg (by simp [q2]), ← ea]
        exact i2
    · rw [if_neg hs] at h6; cases h6
/-- Forces that hold are not before the first that hold. -/
theorem chF_bef (fn fd : Int) : ∀ (C : List Ct) (F : List (Int × Int)) (b : Int × Int × Int) (i : Nat), F.length = C.length → (chF fn fd i C F b).2 = 0 →
    chF fn fd i C F b = (0, 0) ∧ ∃ L, heP fn fd C b = some L ∧ befP F L = false
  | [], [], b, i, _, h => by
    unfold chF at h ⊢
    by_cases hb : b = (0, 0, 0)
    · rw [if_pos hb]; exact ⟨rfl, [], by unfold heP; rw [if_pos hb], rfl⟩
    · rw [if_neg hb] at h; simp at h
  | [], f :: F, b, i, hl, _ => by simp at hl
  | c :: C, [], b, i, hl, _ => by simp at hl
  | c :: C, (n, t) :: F, b, i, hl, h => by
    unfold chF at h ⊢
    dsimp only at h ⊢
    by_cases h1 : inB n 0 c.2.2 = false
    · rw [if_pos h1] at h; simp at h
    rw [if_neg h1] at h ⊢
    by_cases h2 : stB fn fd c.2.2 n t = false
    · rw [if_pos h2] at h; simp at h
    rw [if_neg h2] at h ⊢
    obtain ⟨e, L', hL, hB⟩ := chF_bef fn fd C F (afP b c n t) (i + 1) (by simpa using hl) h
    refine ⟨e, ?_⟩
    have h1 : inB n 0 c.2.2 = true := by simpa using h1
    have h2 : stB fn fd c.2.2 n t = true := by simpa using h2
    have g1 := inB_true.1 h1
    have g2 : -c.2.2 ≤ t ∧ t ≤ c.2.2 := by
      unfold stB at h2
      simp only [Bool.and_eq_true] at h2
      exact inB_true.1 h2.2
    unfold heP
    generalize hg : (fun n => frF (fun t => if stB fn fd c.2.2 n t then (heP fn fd C (afP b c n t)).map fun L => (n, t) :: L else none) (2 * c.2.2.toNat + 1) (-c.2.2)) = g
    have hgn : g n = frF (fun t => if stB fn fd c.2.2 n t then (heP fn fd C (afP b c n t)).map fun L => (n, t) :: L else none) (2 * c.2.2.toNat + 1) (-c.2.2) := by rw [← hg]
    have hin : ∃ (t0 : Int) (L0 : List (Int × Int)), g n = some ((n, t0) :: L0) ∧ (t0 < t ∨ t0 = t ∧ L0 = L') := by
      cases hr : g n with
      | none =>
        rw [hgn, frF_none] at hr
        have := hr t (by omega) (by omega)
        rw [if_pos h2, hL] at this
        cases this
      | some x =>
        rw [hgn] at hr
        obtain ⟨t0, k1, k2, k3, k4⟩ := frF_some hr
        by_cases hs : stB fn fd c.2.2 n t0 = true
        · rw [if_pos hs] at k3
          cases hr0 : heP fn fd C (afP b c n t0) with
          | none => rw [hr0] at k3; cases k3
          | some L0 =>
            rw [hr0] at k3
            simp at k3
            refine ⟨t0, L0, by rw [k3], ?_⟩
            by_cases hlt : t0 < t
            · exact .inl hlt
            · right
              have : t0 = t := by
                by_cases hgt : t < t0
                · have := k4 t (by omega) hgt
                  rw [if_pos h2, hL] at this
                  cases this
                · omega
              subst this
              rw [hL] at hr0
              exact ⟨rfl, (Option.some.inj hr0).symm⟩
        · rw [if_neg hs] at k3; cases k3
    obtain ⟨t0, L0, hn0, hcmp⟩ := hin
    cases hr : frF g (c.2.2.toNat + 1) 0 with
    | none =>
      rw [frF_none] at hr
      have := hr n (by omega) (by omega)
      rw [hn0] at this
      cases this
    | some x =>
      refine ⟨x, rfl, ?_⟩
      obtain ⟨n0, k1, k2, k3, k4⟩ := frF_some hr
      by_cases hlt : n < n0
      · have := k4 n (by omega) hlt
        rw [hn0] at this
        cases this
      by_cases he : n0 = n
      · subst he
        rw [hn0] at k3
        obtain rfl := Option.some.inj k3
        rcases hcmp with hlt2 | ⟨rfl, rfl⟩
        · unfold befP
          rw [if_neg (by intro e; have := congrArg Prod.snd e; simp at this; omega)]
          simp
          omega
        · unfold befP
          rw [if_pos rfl]
          exact hB
      · rw [← hg] at k3
        obtain ⟨t1, q1, q2, q3, _⟩ := frF_some k3
        by_cases hs : stB fn fd c.2.2 n0 t1 = true
        · rw [if_pos hs] at q3
          cases hr0 : heP fn fd C (afP b c n0 t1) with
          | none => rw [hr0] at q3; cases q3
          | some L1 =>
            rw [hr0] at q3
            simp at q3
            subst q3
            unfold befP
            rw [if_neg (by intro e; have := congrArg Prod.fst e; simp at this; omega)]
            simp
            omega
        · rw [if_neg hs] at q3; cases q3

/-- The friction in lowest terms, a little greater. -/
def lowP (n d : Int) : Int × Int := (n.tdiv (absI (eu n d)), d.tdiv (absI (eu n d)))
theorem low_all : ∀ n ∈ List.range 11, ∀ d ∈ List.range 10,
    (0 < (lowP n (d + 1)).2 ∧ (eu (lowP n (d + 1)).1 (lowP n (d + 1)).2 = 1 ∨ eu (lowP n (d + 1)).1 (lowP n (d + 1)).2 = -1) ∧ 0 ≤ (lowP n (d + 1)).1 ∧ (lowP n (d + 1)).1 ≤ 10 ∧ (lowP n (d + 1)).2 ≤ 10 ∧ (lowP n (d + 1)).1 * absI (eu n (d + 1)) = n ∧ (lowP n (d + 1)).2 * absI (eu n (d + 1)) = d + 1 ∧ 0 < absI (eu n (d + 1)) ∧ absI (eu n (d + 1)) ≤ 10) := by decide +kernel
theorem low_ok {n d : Int} (hn : 0 ≤ n ∧ n ≤ 10) (hd : 1 ≤ d ∧ d ≤ 10) :
    0 < (lowP n d).2 ∧ (eu (lowP n d).1 (lowP n d).2 = 1 ∨ eu (lowP n d).1 (lowP n d).2 = -1) ∧ 0 ≤ (lowP n d).1 ∧ (lowP n d).1 ≤ 10 ∧ (lowP n d).2 ≤ 10 ∧ (lowP n d).1 * absI (eu n d) = n ∧ (lowP n d).2 * absI (eu n d) = d ∧ 0 < absI (eu n d) ∧ absI (eu n d) ≤ 10 := by
  have h := low_all n.toNat (by simp; omega) (d - 1).toNat (by simp; omega)
  rw [show ((n.toNat : Nat) : Int) = n by omega, show (((d - 1).toNat : Nat) : Int) + 1 = d by omega] at h
  exact h
theorem stB_more {fn fd m n t m' : Int} (hf : 0 ≤ fn ∧ fn ≤ 10) (hd : 1 ≤ fd ∧ fd ≤ 10) (hn : 0 ≤ n) (hm : m ≤ m') (h : stB fn fd m n t = true) : stB (lowP (min 10 (fn + 1)) fd).1 (lowP (min 10 (fn + 1)) fd).2 m' n t = true := by
  obtain ⟨l1, _, l3, l4, l5, l6, l7, l8, _⟩ := low_ok (n := min 10 (fn + 1)) (d := fd) (by omega) hd
  generalize absI (eu (min 10 (fn + 1)) fd) = g at *
  generalize lowP (min 10 (fn + 1)) fd = q at *
  obtain ⟨a, b⟩ := q
  dsimp only at l1 l3 l4 l5 l6 l7 ⊢
  unfold stB at h ⊢
  simp only [Bool.and_eq_true] at h ⊢
  rw [inB_true, inB_true] at h
  rw [inB_true, inB_true]
  obtain ⟨⟨h1, h2⟩, h3, h4⟩ := h
  have k1 : fn * n ≤ (a * g) * n := by rw [l6]; exact Int.mul_le_mul_of_nonneg_right (by omega) hn
  have k2 : (a * g) * n = (a * n) * g := by grind
  have k3 : t * fd = (t * b) * g := by rw [← l7]; grind
  refine ⟨⟨?_, ?_⟩, by omega, by omega⟩
  · exact Int.le_of_mul_le_mul_right (show -(a * n) * g ≤ (t * b) * g by rw [← k3, Int.neg_mul, ← k2]; omega) l8
  · exact Int.le_of_mul_le_mul_right (show (t * b) * g ≤ (a * n) * g by rw [← k3, ← k2]; omega) l8
/-- A hold with a greater friction, and with greater forces that are permitted. -/
def moreH (h : Hd) : Hd := ⟨h.C.map fun c => (c.1, c.2.1, min 6 (c.2.2 + 1)), (lowP (min 10 (h.fn + 1)) h.fd).1, (lowP (min 10 (h.fn + 1)) h.fd).2, h.l⟩
theorem ctE_iff {c : Ct} : ctE c = 0 ↔ ((-5 ≤ c.1.1 ∧ c.1.1 ≤ 5) ∧ (-5 ≤ c.1.2 ∧ c.1.2 ≤ 5) ∧ (0 ≤ c.2.2 ∧ c.2.2 ≤ 6)) ∧ unitB c.2.1.1 c.2.1.2 = true := by
  unfold ctE
  rw [fstE_zero]
  simp only [List.mem_cons, List.not_mem_nil, or_false, forall_eq_or_imp, forall_eq, unl_zero (show (2 : Int) ≠ 0 by decide), unl_zero (show (3 : Int) ≠ 0 by decide), Bool.and_eq_true, inB_true]
  constructor
  · rintro ⟨⟨⟨a, b⟩, c⟩, d⟩; exact ⟨⟨a, b, c⟩, d⟩
  · rintro ⟨⟨a, b, c⟩, d⟩; exact ⟨⟨⟨a, b⟩, c⟩, d⟩
theorem hdE_iff {h : Hd} : hdE h = 0 ↔ (1 ≤ h.C.length ∧ h.C.length ≤ 3 ∧ ∀ c ∈ h.C, ctE c = 0) ∧ (0 < h.fd ∧ (eu h.fn h.fd = 1 ∨ eu h.fn h.fd = -1)) ∧ (0 ≤ h.fn ∧ h.fn ≤ 10 ∧ h.fd ≤ 10) ∧ oddB h.l = false := by
  unfold hdE
  rw [fstE_zero]
  simp only [List.mem_cons, List.not_mem_nil, or_false, forall_eq_or_imp, forall_eq, unl_zero (show (2 : Int) ≠ 0 by decide), unl_zero (show (3 : Int) ≠ 0 by decide), Bool.and_eq_true, Bool.or_eq_true, inB_true, decide_eq_true_eq, beq_iff_eq, Bool.not_eq_true']
  have e : hdE1 h.C = 0 ↔ (1 ≤ h.C.length ∧ h.C.length ≤ 3 ∧ ∀ c ∈ h.C, ctE c = 0) := by
    unfold hdE1
    by_cases h0 : hdE0 h.C = 0
    · rw [if_pos h0]
      unfold eachE
      rw [eachF_zero]
      unfold hdE0 at h0
      rw [fstE_zero] at h0
      simp only [List.mem_cons, List.not_mem_nil, or_false, forall_eq_or_imp, forall_eq, unl_zero (show (10 : Int) ≠ 0 by decide), unl_zero (show (8 : Int) ≠ 0 by decide), decide_eq_true_eq] at h0
      exact ⟨fun k => ⟨by omega, by omega, k⟩, fun k => k.2.2⟩
    · rw [if_neg h0]
      constructor
      · intro k; exact absurd k h0
      · rintro ⟨k1, k2, _⟩
        exfalso
        apply h0
        unfold hdE0
        rw [fstE_zero]
        simp only [List.mem_cons, List.not_mem_nil, or_false, forall_eq_or_imp, forall_eq, unl_zero (show (10 : Int) ≠ 0 by decide), unl_zero (show (8 : Int) ≠ 0 by decide), decide_eq_true_eq]
        omega
  rw [e]
  constructor
  · rintro ⟨a, b, ⟨c, d⟩, f⟩; exact ⟨a, b, ⟨c.1, c.2, d⟩, f⟩
  · rintro ⟨a, b, c, f⟩; exact ⟨a, b, ⟨⟨c.1, c.2.1⟩, c.2.2⟩, f⟩
theorem more_ok {h : Hd} (hE : hdE h = 0) : hdE (moreH h) = 0 := by
  have hO := hdE_ok hE
  rw [hdE_iff] at hE ⊢
  obtain ⟨⟨a1, a2, a3⟩, b, c, d⟩ := hE
  obtain ⟨l1, l2, l3, l4, l5, _⟩ := low_ok (n := min 10 (h.fn + 1)) (d := h.fd) (by have := hO.fn; omega) hO.fd
  refine ⟨⟨by simpa [moreH] using a1, by simpa [moreH] using a2, ?_⟩, ⟨l1, l2⟩, ⟨l3, l4, l5⟩, d⟩
  intro x hx
  simp only [moreH, List.mem_map] at hx
  obtain ⟨y, hy, rfl⟩ := hx
  have := ctE_iff.1 (a3 y hy)
  rw [ctE_iff]
  dsimp only
  exact ⟨⟨this.1.1, this.1.2.1, by omega⟩, this.2⟩
/-- The law of holds that are valid: what is found is accepted, with more friction and force, too; no accepted forces are before it. -/
theorem held_law {h : Hd} (hE : hdE h = 0) :
    (∀ L, heP h.fn h.fd h.C h.l = some L → L.length = h.C.length ∧ chP h L = (0, 0) ∧ chP (moreH h) L = (0, 0)) ∧
    (∀ F, (chP h F).2 = 0 → chP h F = (0, 0) ∧ ∃ L, heP h.fn h.fd h.C h.l = some L ∧ befP F L = false) := by
  have hO := hdE_ok hE
  constructor
  · intro L hL
    have hm : ∀ c ∈ h.C, 0 ≤ c.2.2 := fun c hc => (hO.ct c hc).2.2.2.2.1
    obtain ⟨k1, k2⟩ := heP_ok h.fn h.fd h.fn h.fd h.C h.C h.l L 0 hm rfl (fun k c c' e e' => by rw [e] at e'; obtain rfl := Option.some.inj e'; exact ⟨rfl, rfl, Int.le_refl _, fun _ _ _ _ x => x⟩) hL
    obtain ⟨_, k3⟩ := heP_ok h.fn h.fd (moreH h).fn (moreH h).fd h.C (moreH h).C h.l L 0 hm (by simp [moreH]) (fun k c c' e e' => by
      simp only [moreH, List.getElem?_map, e, Option.map_some, Option.some.injEq] at e'
      subst e'
      have hc := hO.ct c (List.mem_of_getElem? e)
      have hc6 := hc.2.2.2.2
      dsimp only
      exact ⟨rfl, rfl, by omega, fun n t h1 _ h3 => stB_more hO.fn hO.fd h1 (by omega) h3⟩) hL
    have e1 : chE h L = 0 := by unfold chE; rw [hE, k1]; simp [fstE, unl]
    have e2 : chE (moreH h) L = 0 := by unfold chE; rw [more_ok hE, k1]; simp [fstE, unl, moreH]
    refine ⟨k1, ?_, ?_⟩
    · unfold chP; rw [if_neg (by simp [e1])]; exact k2
    · unfold chP; rw [if_neg (by simp [e2])]; exact k3
  · intro F hF
    unfold chP at hF ⊢
    by_cases e1 : chE h F = 0
    · rw [if_neg (by simp [e1])] at hF ⊢
      have hl : F.length = h.C.length := by
        unfold chE at e1
        rw [fstE_zero] at e1
        simp only [List.mem_cons, List.not_mem_nil, or_false, forall_eq_or_imp, forall_eq, unl_zero (show (10 : Int) ≠ 0 by decide), decide_eq_true_eq] at e1
        omega
      exact chF_bef h.fn h.fd h.C F h.l 0 hl hF
    · rw [if_pos e1] at hF
      exact absurd hF e1

end Go.Proofs.YtpnfgmgoafgcbaaGreat

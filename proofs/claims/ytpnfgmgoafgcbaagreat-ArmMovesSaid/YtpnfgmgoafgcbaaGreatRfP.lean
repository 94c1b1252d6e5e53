/-
  The reference's words for cells, free poses, sweeps and moves (chapter 6), in plain words: they are those of the program.
-/
import Derived.Test.YtpnfgmgoafgcbaaGreatA4
import Derived.Test.YtpnfgmgoafgcbaaGreatA8
set_option linter.unusedVariables false
namespace Go.Proofs.YtpnfgmgoafgcbaaGreat

/-- The k-th cell from a joint on towards the next one. -/
def linR (a b : Ce) (n : Int) (k : Int) : Ce := (a.1 + (k * (b.1 - a.1)).tdiv n, a.2 + (k * (b.2 - a.2)).tdiv n)
def lnsR (a b : Ce) (n : Int) (m : Nat) : List Ce := (List.range m).map fun (k : Nat) => linR a b n ((k : Int) + 1)
def frR : List Ce → List Lk → List Ce
  | a :: b :: r, l :: L => lnsR a b l.1 l.1.toNat ++ frR (b :: r) L
  | _, _ => []
/-- All cells of the links from a joint on, this joint too. -/
def frP (s : Sc) (p : Ps) (i : Nat) : List Ce := (jts s p).getD i (0, 0) :: frR ((jts s p).drop i) (s.L.drop i)

theorem tdiv_lin (k n d : Int) (hn : 1 ≤ n) : (k * (n * d)).tdiv n = k * d := by
  rw [show k * (n * d) = n * (k * d) by grind]
  exact Int.mul_tdiv_cancel_left _ (by omega)
theorem mem_seg {a b c : Ce} : c ∈ seg a b ↔ ∃ k : Nat, k ≤ dst a b ∧ c = (a.1 + k * cmpI b.1 a.1, a.2 + k * cmpI b.2 a.2) := by
  simp only [seg, segN, List.mem_map, List.mem_range]
  constructor
  · rintro ⟨k, h, rfl⟩; exact ⟨k, by omega, rfl⟩
  · rintro ⟨k, h, rfl⟩; exact ⟨k, by omega, rfl⟩
theorem cmp_lin (x n d : Int) (hn : 1 ≤ n) (hd : d = -1 ∨ d = 0 ∨ d = 1) : cmpI (x + n * d) x = d := by
  unfold cmpI
  rcases hd with rfl | rfl | rfl
  · rw [if_pos (by omega)]
  · rw [if_neg (by omega), if_neg (by omega)]
  · rw [if_neg (by omega), if_pos (by omega)]
theorem dir_cases (t : Int) : (dirX t = -1 ∨ dirX t = 0 ∨ dirX t = 1) ∧ (dirY t = -1 ∨ dirY t = 0 ∨ dirY t = 1) ∧ (dirX t = 0 ∧ dirY t ≠ 0 ∨ dirY t = 0 ∧ dirX t ≠ 0) := by
  unfold dirX dirY
  have h4 : t % 4 = 0 ∨ t % 4 = 1 ∨ t % 4 = 2 ∨ t % 4 = 3 := by omega
  rcases h4 with e | e | e | e <;> rw [e] <;> simp
theorem dst_lin (x y n t : Int) (hn : 1 ≤ n) : dst (x, y) (x + n * dirX t, y + n * dirY t) = n.toNat := by
  obtain ⟨h1, h2, h3⟩ := dir_cases t
  unfold dst
  dsimp only
  generalize dirX t = a at *
  generalize dirY t = b at *
  rcases h1 with rfl | rfl | rfl <;> rcases h2 with rfl | rfl | rfl <;> simp at h3 ⊢ <;> omega
theorem frF_mem : ∀ (L : List Lk) (Q : List Int) (x y t : Int) (l : Lk) (q : Int), (∀ z ∈ l :: L, 1 ≤ z.1) → Q.length = L.length →
    ∀ c, c ∈ (x, y) :: frR ((x, y) :: jtsF x y t (l :: L) (q :: Q)) (l :: L) ↔ c ∈ segs ((x, y) :: jtsF x y t (l :: L) (q :: Q)) := by
  intro L
  induction L with
  | nil =>
    intro Q x y t l q hl hQ c
    obtain rfl : Q = [] := List.eq_nil_of_length_eq_zero (by simpa using hQ)
    have hn := hl l (by simp)
    obtain ⟨d1, d2, _⟩ := dir_cases (t + q)
    simp only [jtsF, frR, segs, List.append_nil, List.mem_cons, lnsR, List.mem_map, List.mem_range, mem_seg, linR]
    rw [dst_lin x y l.1 (t + q) hn]
    rw [cmp_lin x _ _ hn d1, cmp_lin y _ _ hn d2]
    constructor
    · rintro (rfl | ⟨k, hk, rfl⟩)
      · exact ⟨0, by omega, by simp⟩
      · refine ⟨k + 1, by omega, ?_⟩
        rw [show x + l.1 * dirX (t + q) - x = l.1 * dirX (t + q) by omega, show y + l.1 * dirY (t + q) - y = l.1 * dirY (t + q) by omega, tdiv_lin _ _ _ hn, tdiv_lin _ _ _ hn]
        simp
    · rintro ⟨k, hk, rfl⟩
      cases k with
      | zero => left; simp
      | succ k =>
        right
        refine ⟨k, by omega, ?_⟩
        rw [show x + l.1 * dirX (t + q) - x = l.1 * dirX (t + q) by omega, show y + l.1 * dirY (t + q) - y = l.1 * dirY (t + q) by omega, tdiv_lin _ _ _ hn, tdiv_lin _ _ _ hn]
        simp
  | cons l2 L ih =>
    intro Q x y t l q hl hQ c
    obtain ⟨q2, Q2, rfl⟩ : ∃ q2 Q2, Q = q2 :: Q2 := by
      cases Q with
      | nil => simp at hQ
      | cons q2 Q2 => exact ⟨q2, Q2, rfl⟩
    have hn := hl l (by simp)
    obtain ⟨d1, d2, _⟩ := dir_cases (t + q)
    have IH := ih Q2 (x + l.1 * dirX (t + q)) (y + l.1 * dirY (t + q)) (t + q) l2 q2 (fun z hz => hl z (List.mem_cons_of_mem _ hz)) (by simpa using hQ) c
    have e : jtsF x y t (l :: l2 :: L) (q :: q2 :: Q2) = (x + l.1 * dirX (t + q), y + l.1 * dirY (t + q)) :: jtsF (x + l.1 * dirX (t + q)) (y + l.1 * dirY (t + q)) (t + q) (l2 :: L) (q2 :: Q2) := rfl
    rw [e]
    generalize hJ : jtsF (x + l.1 * dirX (t + q)) (y + l.1 * dirY (t + q)) (t + q) (l2 :: L) (q2 :: Q2) = J at *
    have e2 : frR ((x, y) :: (x + l.1 * dirX (t + q), y + l.1 * dirY (t + q)) :: J) (l :: l2 :: L) = lnsR (x, y) (x + l.1 * dirX (t + q), y + l.1 * dirY (t + q)) l.1 l.1.toNat ++ frR ((x + l.1 * dirX (t + q), y + l.1 * dirY (t + q)) :: J) (l2 :: L) := rfl
    have e3 : segs ((x, y) :: (x + l.1 * dirX (t + q), y + l.1 * dirY (t + q)) :: J) = seg (x, y) (x + l.1 * dirX (t + q), y + l.1 * dirY (t + q)) ++ segs ((x + l.1 * dirX (t + q), y + l.1 * dirY (t + q)) :: J) := rfl
    rw [e2, e3, List.mem_append, ← IH]
    simp only [List.mem_cons, List.mem_append, lnsR, List.mem_map, List.mem_range, mem_seg, linR]
    rw [dst_lin x y l.1 (t + q) hn]
    rw [cmp_lin x _ _ hn d1, cmp_lin y _ _ hn d2]
    have eX : ∀ k : Int, (k * (x + l.1 * dirX (t + q) - x)).tdiv l.1 = k * dirX (t + q) := fun k => by
      rw [show x + l.1 * dirX (t + q) - x = l.1 * dirX (t + q) by omega, tdiv_lin _ _ _ hn]
    have eY : ∀ k : Int, (k * (y + l.1 * dirY (t + q) - y)).tdiv l.1 = k * dirY (t + q) := fun k => by
      rw [show y + l.1 * dirY (t + q) - y = l.1 * dirY (t + q) by omega, tdiv_lin _ _ _ hn]
    constructor
    · rintro (rfl | ⟨k, hk, rfl⟩ | h)
      · exact .inl ⟨0, by omega, by simp⟩
      · refine .inl ⟨k + 1, by omega, ?_⟩
        rw [eX, eY]
        simp
      · exact .inr (.inr h)
    · rintro (⟨k, hk, rfl⟩ | h | h)
      · cases k with
        | zero => left; simp
        | succ k =>
          right; left
          refine ⟨k, by omega, ?_⟩
          rw [eX, eY]
          simp
      · right; left
        subst h
        refine ⟨l.1.toNat - 1, by omega, ?_⟩
        rw [eX, eY]
        rw [show (((l.1.toNat - 1 : Nat) : Int) + 1) = l.1 by omega]
      · exact .inr (.inr h)
theorem jtsF_drop : ∀ (i : Nat) (L : List Lk) (Q : List Int) (x y t : Int), i ≤ L.length → Q.length = L.length →
    ∃ x' y' t', ((x, y) :: jtsF x y t L Q).drop i = (x', y') :: jtsF x' y' t' (L.drop i) (Q.drop i)
  | 0, L, Q, x, y, t, _, _ => ⟨x, y, t, by simp⟩
  | i + 1, [], Q, x, y, t, h, _ => by simp at h
  | i + 1, l :: L, [], x, y, t, _, h => by simp at h
  | i + 1, l :: L, q :: Q, x, y, t, h, hQ => by
    obtain ⟨x', y', t', e⟩ := jtsF_drop i L Q (x + l.1 * dirX (t + q)) (y + l.1 * dirY (t + q)) (t + q) (by simpa using h) (by simpa using hQ)
    exact ⟨x', y', t', by simp only [jtsF, List.drop_succ_cons]; exact e⟩
/-- The cells of the reference are those of the program. -/
theorem mem_frP {s : Sc} {p : Ps} {i : Nat} (hl : ∀ z ∈ s.L, 1 ≤ z.1) (hp : p.2.length = s.L.length) (hi : i < s.L.length) (c : Ce) : c ∈ frP s p i ↔ c ∈ clP s p i := by
  unfold frP clP
  obtain ⟨x, y, t, e⟩ := jtsF_drop i s.L p.2 (s.bx + p.1) s.bY 0 (by omega) hp
  have e' : (jts s p).drop i = (x, y) :: jtsF x y t (s.L.drop i) (p.2.drop i) := e
  have eg : (jts s p).getD i (0, 0) = (x, y) := by
    have := congrArg (fun l => l[0]?) e'
    simp only [List.getElem?_drop, Nat.add_zero, List.getElem?_cons_zero] at this
    rw [List.getD_eq_getElem?_getD, this]; rfl
  rw [eg, e']
  obtain ⟨l, L, hL⟩ : ∃ l L, s.L.drop i = l :: L := ⟨_, _, List.drop_eq_getElem_cons hi⟩
  obtain ⟨q, Q, hQ⟩ : ∃ q Q, p.2.drop i = q :: Q := ⟨_, _, List.drop_eq_getElem_cons (show i < p.2.length by omega)⟩
  rw [hL, hQ]
  refine frF_mem L Q x y t l q (fun z hz => hl z ?_) ?_ c
  · rw [← hL] at hz; exact List.mem_of_mem_drop hz
  · have h1 := congrArg List.length hL
    have h2 := congrArg List.length hQ
    simp at h1 h2
    omega

/-- Whether a cell is taken, in the reference's words. -/
def tkC (s : Sc) (c : Ce) : Bool := !inBx s.F c || s.B.any fun b => inBx b c
theorem meet_only (b : Bx) (c : Ce) : meetB b (onlyP c) = inBx b c := by
  unfold meetB onlyP inBx inB
  rw [Bool.eq_iff_iff]
  simp only [Bool.and_eq_true, decide_eq_true_eq]
  omega
theorem tkn_only (s : Sc) (c : Ce) : tkn s (onlyP c) = tkC s c := by
  unfold tkn tkC
  have e : (onlyP c).1 = c.1 ∧ (onlyP c).2.1 = c.1 ∧ (onlyP c).2.2.1 = c.2 ∧ (onlyP c).2.2.2 = c.2 := ⟨rfl, rfl, rfl, rfl⟩
  rw [e.1, e.2.1, e.2.2.1, e.2.2.2, Bool.and_self]
  congr 1
  induction s.B with
  | nil => rfl
  | cons b l ih => simp only [List.any_cons, ih, meet_only]
theorem freeP_ref {s : Sc} {p : Ps} (hl : ∀ z ∈ s.L, 1 ≤ z.1) (hp : p.2.length = s.L.length) (hi : 0 < s.L.length) : freeP s p = (frP s p 0).all fun c => !tkC s c := by
  rw [Bool.eq_iff_iff]
  simp only [freeP, List.all_eq_true]
  constructor
  · intro h c hc
    have := h c ((mem_frP hl hp hi c).1 hc)
    rwa [tkn_only] at this
  · intro h c hc
    have := h c ((mem_frP hl hp hi c).2 hc)
    rwa [← tkn_only] at this
/-- The box round cells, from the first on. -/
def swR (s : Sc) (p : Ps) (m : Mv) : Bx := (frP s p (swI m) ++ frP s (mvd p m) (swI m)).foldl withP (onlyP ((jts s p).getD (swI m) (0, 0)))
theorem swBx_ref {s : Sc} {p : Ps} {m : Mv} (hl : ∀ z ∈ s.L, 1 ≤ z.1) (hp : p.2.length = s.L.length) (hi : swI m < s.L.length) : swBx s p m = swR s p m := by
  rw [swBx_app]
  unfold swR
  have hq : (mvd p m).2.length = s.L.length := by rw [mvd_len, hp]
  refine box_ext ?_ ?_ (fun c => ?_)
  · exact List.mem_append_left _ (clP_head hp hi)
  · exact List.mem_append_left _ (by unfold frP; simp)
  · simp only [List.mem_append, mem_frP hl hp hi c, mem_frP hl hq hi c]
/-- A box is taken exactly if one of its cells is. -/
theorem tkn_cells {s : Sc} {b : Bx} (hB : ∀ x ∈ s.B, bxE x = 0) (h1 : b.1 ≤ b.2.1) (h2 : b.2.2.1 ≤ b.2.2.2) : tkn s b = true ↔ ∃ x y : Int, (b.1 ≤ x ∧ x ≤ b.2.1) ∧ (b.2.2.1 ≤ y ∧ y ≤ b.2.2.2) ∧ tkC s (x, y) = true := by
  obtain ⟨x0, x1, y0, y1⟩ := b
  dsimp only at h1 h2 ⊢
  unfold tkn tkC
  simp only [Bool.or_eq_true, Bool.not_eq_true', List.any_eq_true]
  constructor
  · rintro (h | ⟨z, hz, hm⟩)
    · have : inBx s.F (x0, y0) = false ∨ inBx s.F (x1, y1) = false := by
        cases h0 : inBx s.F (x0, y0)
        · exact .inl rfl
        · rw [h0] at h; exact .inr (by simpa using h)
      rcases this with h | h
      · exact ⟨x0, y0, by omega, by omega, .inl h⟩
      · exact ⟨x1, y1, by omega, by omega, .inl h⟩
    · have hb := bxE_ok.1 (hB z hz)
      obtain ⟨a, A, c, C⟩ := z
      simp only [meetB, Bool.and_eq_true, decide_eq_true_eq] at hm
      dsimp only at hb
      refine ⟨max a x0, max c y0, by omega, by omega, .inr ⟨_, hz, ?_⟩⟩
      simp only [inBx, inB, Bool.and_eq_true, decide_eq_true_eq]
      omega
  · rintro ⟨x, y, hx, hy, h | ⟨z, hz, hm⟩⟩
    · left
      simp only [inBx, inB] at h ⊢
      rw [← Bool.not_eq_true] at h ⊢
      simp only [Bool.and_eq_true, decide_eq_true_eq] at h ⊢
      omega
    · right
      refine ⟨z, hz, ?_⟩
      simp only [inBx, inB, Bool.and_eq_true, decide_eq_true_eq] at hm
      simp only [meetB, Bool.and_eq_true, decide_eq_true_eq]
      omega

end Go.Proofs.YtpnfgmgoafgcbaaGreat

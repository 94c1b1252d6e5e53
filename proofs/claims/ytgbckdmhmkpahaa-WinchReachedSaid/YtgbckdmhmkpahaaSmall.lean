/-
  Smaller seas (chapter 2), in plain words.
-/
import Derived.Test.YtgbckdmhmkpahaaBfs
set_option linter.unusedVariables false
namespace Go.Proofs.Ytgbckdmhmkpahaa

theorem chkL_less {T : List Int} {lo hi turn slew lo' hi' turn' : Int} (h : (chkL T lo hi turn slew).2 = 0) (h1 : lo ≤ lo') (h2 : lo' ≤ 0) (h3 : 0 ≤ hi') (h4 : hi' ≤ hi) (h5 : 0 ≤ turn') (h6 : turn' ≤ turn) : (chkL T lo' hi' turn' slew).2 = 0 := by
  obtain ⟨k1, k2, k3, k4, k5, k6, k7⟩ := chkL_ok h
  unfold chkL at h ⊢
  by_cases a1 : lpE0 T.length ≠ 0
  · rw [if_pos a1] at h; exact absurd h a1
  · rw [if_neg a1] at h ⊢
    by_cases a2 : 0 ≤ findI badC T
    · rw [if_pos a2] at h; simp at h
    · rw [if_neg a2]
      have e1 : ranL lo' hi' turn' slew = true := by
        unfold ranL
        rw [inB_true.2 (show -4 ≤ lo' ∧ lo' ≤ 4 by omega), inB_true.2 (show -4 ≤ hi' ∧ hi' ≤ 4 by omega), inB_true.2 (show 0 ≤ turn' ∧ turn' ≤ 8 by omega), inB_true.2 (show 0 ≤ slew ∧ slew ≤ 20 by omega)]
        rfl
      rw [e1, inB_true.2 (show lo' ≤ 0 ∧ 0 ≤ hi' by omega)]
      rfl

/-- Strictly in order. -/
theorem strict_of : ∀ {l : List St3}, SortedS l → l.Nodup → l.Pairwise fun a b => ltS a b = true
  | [], _, _ => List.Pairwise.nil
  | x :: l, h, n => by
    rw [List.nodup_cons] at n
    have h' := List.pairwise_cons.1 h
    refine List.pairwise_cons.2 ⟨fun y hy => ?_, strict_of h'.2 n.2⟩
    cases hq : ltS x y
    · exact absurd (ltS_total hq (h'.1 y hy)) (fun e => n.1 (e ▸ hy))
    · rfl
theorem ltS_irr (x : St3) : ltS x x = false := by rw [← Bool.not_eq_true, ltS_iff]; omega
theorem strict_sub : ∀ (s t : List St3), (s.Pairwise fun a b => ltS a b = true) → (t.Pairwise fun a b => ltS a b = true) → (∀ x ∈ t, x ∈ s) → t.Sublist s
  | [], t, _, _, h => by
    cases t with
    | nil => exact List.Sublist.slnil
    | cons x t => exact absurd (h x (by simp)) (by simp)
  | a :: s, [], _, _, _ => List.nil_sublist _
  | a :: s, b :: t, hs, ht, h => by
    have hs' := List.pairwise_cons.1 hs
    have ht' := List.pairwise_cons.1 ht
    by_cases e : b = a
    · subst e
      refine List.Sublist.cons_cons _ (strict_sub s t hs'.2 ht'.2 (fun x hx => ?_))
      rcases List.mem_cons.1 (h x (by simp [hx])) with rfl | h1
      · have := ht'.1 x hx; rw [ltS_irr] at this; cases this
      · exact h1
    · refine List.Sublist.cons _ (strict_sub s (b :: t) hs'.2 ht (fun x hx => ?_))
      have hb : b ∈ s := by
        rcases List.mem_cons.1 (h b (by simp)) with h1 | h1
        · exact absurd h1 e
        · exact h1
      rcases List.mem_cons.1 (h x hx) with rfl | h1
      · rcases List.mem_cons.1 hx with rfl | h2
        · exact absurd rfl e
        · have h3 := ht'.1 x h2
          have h4 := hs'.1 b hb
          rw [ltS_iff] at h3 h4
          omega
      · exact h1
theorem reachL_strict {T : List Int} {lo hi turn slew : Int} (hk : (chkL T lo hi turn slew).2 = 0) : (reachL T lo hi turn slew).Pairwise fun a b => ltS a b = true := by
  obtain ⟨k1, k2, k3, k4, k5, k6, k7⟩ := chkL_ok hk
  obtain ⟨hF, _⟩ := foundOk (turn := turn) (slew := slew) k1 k2 k3 k4.1 k5 k6
  exact strict_of (sortS_sorted _) ((sortS_perm _).nodup_iff.2 hF.nod)
theorem reachL_mem {T : List Int} {lo hi turn slew : Int} (hk : (chkL T lo hi turn slew).2 = 0) (s : St3) : s ∈ reachL T lo hi turn slew ↔ ∃ p, Leads T lo hi turn slew p s := by
  unfold reachL
  rw [(sortS_perm _).mem_iff]
  exact found_mem hk s
theorem small_sub {T : List Int} {lo hi turn slew lo' hi' turn' : Int} (hk : (chkL T lo hi turn slew).2 = 0) (h1 : lo ≤ lo') (h2 : lo' ≤ 0) (h3 : 0 ≤ hi') (h4 : hi' ≤ hi) (h5 : 0 ≤ turn') (h6 : turn' ≤ turn) : (reachL T lo' hi' turn' slew).Sublist (reachL T lo hi turn slew) := by
  have hk' := chkL_less hk h1 h2 h3 h4 h5 h6
  refine strict_sub _ _ (reachL_strict hk) (reachL_strict hk') (fun x hx => ?_)
  obtain ⟨p, hp⟩ := (reachL_mem hk' x).1 hx
  exact (reachL_mem hk x).2 ⟨p, hp.more h1 h4 h6⟩
/-- What the law asks. -/
theorem small_ok {T : List Int} {lo hi turn slew lo' hi' turn' : Int} (hk : (chkL T lo hi turn slew).2 = 0) (h1 : lo ≤ lo') (h2 : lo' ≤ 0) (h3 : 0 ≤ hi') (h4 : hi' ≤ hi) (h5 : 0 ≤ turn') (h6 : turn' ≤ turn) {t : List Int} (ht : (found T lo' hi' turn' slew).2 = some t) : ∃ s, (found T lo hi turn slew).2 = some s ∧ s.length ≤ t.length := by
  have hk' := chkL_less hk h1 h2 h3 h4 h5 h6
  have hb := ((found_some hk' ht).1).more h1 h4 h6
  cases hs : (found T lo hi turn slew).2 with
  | none => exact absurd hb (found_none hk hs t)
  | some s => exact ⟨s, rfl, ((found_some hk hs).2 t hb).len⟩

end Go.Proofs.Ytgbckdmhmkpahaa

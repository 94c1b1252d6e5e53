/-
  The law WinchHeld (chapter 2): plain facts, and the reference CopyStates.
-/
import Derived.Test.YtgbckdmhmkpahaaSmall
import Derived.Test.YtgbckdmhmkpahaaStepP
import Derived.Test.YtgbckdmhmkpahaaRunOf
import Derived.Test.YtgbckdmhmkpahaaBefore
set_option linter.unusedVariables false
namespace Go.Proofs.Ytgbckdmhmkpahaa
open Go.RowKit Go.Shelf

theorem own_empty3 (w : World) (t : TypeId) (k : Nat) : (w.alloc (.cells #[] t)).ownsRow w.heap.size t k (.slice (some ⟨w.heap.size, 0, none⟩) 0 0) 0 [] :=
  ⟨by simp, .inr ⟨w.heap.size, 0, #[], rfl, Nat.le_refl _, heap_alloc_new w _, Nat.le_refl _, by unfold maxLen; omega, by simp, by simp⟩⟩
set_option maxHeartbeats 1000000 in
theorem copyStates_c (xs : List St3) (A : Option Addr) (c : Nat) (w : World) (hn : xs.length ≤ 100000) (hs : SlV w A (xs.flatMap st3V)) :
    Calls Try.prog 66 #[.slice A xs.length c] w fun e w' => ∃ B d, e = .returned (.slice B xs.length d) ∧ SlV w' B (xs.flatMap st3V) ∧ Below w.heap.size w w' := by
  obtain ⟨j0, zS, hj0, hy0, hy1, hy2, hy3⟩ := infoOk_parts info_St
  have hm1 : 0 + xs.length ≤ maxLen := by unfold maxLen; omega
  have hm2 : (0 + xs.length) * 24 ≤ 140737488355328 := by omega
  have ho := own_empty3 w 42 3
  cases A with
  | none =>
    have hx : xs = [] := by
      cases xs with
      | nil => rfl
      | cons x l => obtain ⟨b, o, e, _⟩ := hs 0 _ rfl; cases e
    subst hx
    go_enter Try.func66, Try.ntmps66
    go_wp2
    all_goals go_ret
    all_goals exact ⟨_, _, rfl, fun j u hj => by simp at hj, by focus ((repeat first | with_reducible exact Below.refl _ _ | (with_reducible refine Below.setCell ?_ ?_ _) | (with_reducible refine Below.alloc ?_ ?_ _) | (with_reducible refine below_drewN ?_ _) | (with_reducible refine Below.drew ?_)); all_goals (first | with_reducible exact Nat.le_refl _ | omega | (simp; done) | (simp; omega) | (omega) | ((try simp); omega)))⟩
  | some a =>
    have hcells : ∀ j u, (xs.flatMap st3V)[j]? = some u → (w.alloc (.cells #[] 42)).cell? (a.add j) = some u := fun j u hj => by
      obtain ⟨b, o, e, hb, hc⟩ := hs j u hj
      cases e
      have e : (⟨b, o, none⟩ : Addr).add j = ⟨b, o + j, none⟩ := by unfold Addr.add; split <;> simp [*]
      rw [e]; exact Lib.cell?_alloc_some _ hc
    have HC := Lib.hid hcells
    clear hcells
    have h1 : ∀ u ∈ xs.flatMap st3V, u.oneCell' = true := fun u hu => by
      obtain ⟨r, _, hr⟩ := List.mem_flatMap.1 hu
      simp [st3V] at hr
      rcases hr with rfl | rfl | rfl <;> rfl
    have H1 := Lib.hid h1
    have hfl : (xs.flatMap st3V).length = xs.length * 3 := flatK_len (enc := st3V) (k := 3) (fun _ => rfl) xs
    clear h1 hs
    go_enter Try.func66, Try.ntmps66
    go_wp2_with (at_builtin; go_must (refine wpList_append_own _ rfl _ _ 38 rfl w.heap.size 42 j0 zS 3 24 Try.underlying38 hj0 hy0 hy1 hy2 hy3 (by decide) _ _ _ rfl ho a xs.length c (xs.flatMap st3V) rfl hfl HC.out H1.out hm1 hm2 (by simp) ?_); intro v' wx hown1 hgrow1 _)
    have hB1 : Below w.heap.size w wx := ((Below.refl _ w).alloc (Nat.le_refl _) _).grown hgrow1 (by simp) (fun k e => by have e : some w.heap.size = some k := e; injection e with e; omega)
    have hown2 : wx.ownsRow w.heap.size 42 3 v' xs.length (xs.flatMap st3V) := by simpa using hown1
    rcases hown2.2 with ⟨rfl, h0⟩ | ⟨g, cap, cur, rfl, _⟩
    · go_ret
      exact ⟨_, _, by rw [h0]; rfl, slv_own (n := xs.length) (c := 0) (k := 3) (by decide) (by rw [h0]; rw [h0] at hown2; exact hown2), hB1⟩
    · go_ret
      exact ⟨_, _, rfl, slv_own (k := 3) (by decide) hown2, hB1⟩


theorem befL_lexB : ∀ (a b : List Int), befL a b = lexB a b
  | [], [] => rfl
  | [], _ :: _ => rfl
  | _ :: _, [] => rfl
  | x :: a, y :: b => by unfold befL lexB; rw [befL_lexB a b]
/-- A sea that breaks the loop is no better than the shortest one. -/
theorem sle_own {b own : List Int} (h : SLe b own) : decide ((own.length : Int) ≥ (b.length : Int)) = true ∧ (b.length = own.length → befL own b = false) := by
  have hl := h.len
  refine ⟨decide_eq_true (by omega), fun e => ?_⟩
  rw [befL_lexB]
  rcases h with h | rfl
  · rcases h with h | ⟨_, h⟩
    · omega
    · cases hq : lexB own b
      · rfl
      · have := lexB_trans h hq; rw [lexB_self] at this; cases this
  · exact lexB_self _

theorem stp_may {T : List Int} {lo hi turn slew : Int} {s : St3} {h : Int} (he : (stpP T lo hi turn slew s h).2 = 0 ∨ (stpP T lo hi turn slew s h).2 = 22) : mayH lo hi turn s h ∧ ((stpP T lo hi turn slew s h).2 = 0 → nxW T slew s.1 s.2.1 h = true ∧ (stpP T lo hi turn slew s h).1 = goS T slew s h) ∧ ((stpP T lo hi turn slew s h).2 = 22 → nxW T slew s.1 s.2.1 h = false) := by
  unfold stpP at *
  by_cases h1 : inB h lo hi = false
  · rw [if_pos h1] at he; simp at he
  · rw [if_neg h1] at he ⊢
    by_cases h2 : inB (h - s.2.2) (-turn) turn = false
    · rw [if_pos h2] at he; simp at he
    · rw [if_neg h2] at he ⊢
      have h1' := inB_true.1 (by simpa using h1); have h2' := inB_true.1 (by simpa using h2)
      refine ⟨by unfold mayH hvA hvB; omega, ?_, ?_⟩
      · intro h0
        by_cases h3 : nxW T slew s.1 s.2.1 h = false
        · rw [if_pos h3] at h0; simp at h0
        · rw [if_neg h3]; exact ⟨by simpa using h3, rfl⟩
      · intro h0
        by_cases h3 : nxW T slew s.1 s.2.1 h = false
        · exact h3
        · rw [if_neg h3] at h0; simp at h0
theorem stp_of {T : List Int} {lo hi turn slew : Int} {s : St3} {h : Int} (hm : mayH lo hi turn s h) : stpP T lo hi turn slew s h = if nxW T slew s.1 s.2.1 h = false then ((0, 0, 0), 22) else (goS T slew s h, 0) := by
  unfold mayH hvA hvB at hm
  unfold stpP
  rw [if_neg (by rw [inB_true.2 (by omega)]; decide), if_neg (by rw [inB_true.2 (by omega)]; decide)]
  rfl
theorem leads_next {T : List Int} {lo hi turn slew : Int} {p : List Int} {s : St3} {h : Int} (hl : Leads T lo hi turn slew p s) (he : (stpP T lo hi turn slew s h).2 = 0) : Leads T lo hi turn slew (p ++ [h]) (stpP T lo hi turn slew s h).1 := by
  obtain ⟨h1, h2, _⟩ := stp_may (.inl he)
  rw [(h2 he).2]
  exact .snoc hl h1 (h2 he).1
theorem leads_break {T : List Int} {lo hi turn slew : Int} {p : List Int} {s : St3} {h : Int} (hl : Leads T lo hi turn slew p s) (he : (stpP T lo hi turn slew s h).2 = 22) : Breaks T lo hi turn slew (p ++ [h]) := by
  obtain ⟨h1, _, h3⟩ := stp_may (.inr he)
  exact ⟨p, s, h, rfl, hl, h1, h3 he⟩
theorem reachL_v {T : List Int} {lo hi turn slew : Int} (hk : (chkL T lo hi turn slew).2 = 0) {s : St3} (hs : s ∈ reachL T lo hi turn slew) : stE T lo hi s = 0 ∧ StV T lo hi s := by
  obtain ⟨k1, k2, k3, k4, k5, k6, k7⟩ := chkL_ok hk
  obtain ⟨hF, hpos⟩ := foundOk (turn := turn) (slew := slew) k1 k2 k3 k4.1 k5 k6
  obtain ⟨r, hr, rfl⟩ := List.mem_map.1 ((sortS_perm _).mem_iff.1 hs)
  have h2 := hF.box r hr
  have h0 : stE T lo hi r.1 = 0 := by
    unfold stE
    rw [inB_true.2 (show -((T.length / 2 : Nat) : Int) ≤ r.1.1 ∧ r.1.1 ≤ ((T.length / 2 : Nat) : Int) by omega), inB_true.2 (show -10 ≤ r.1.2.1 ∧ r.1.2.1 ≤ 10 by omega), inB_true.2 (show lo ≤ r.1.2.2 ∧ r.1.2.2 ≤ hi by omega)]
    rfl
  exact ⟨h0, stE_v h0⟩
theorem nxt_reached {T : List Int} {lo hi turn slew : Int} (hk : (chkL T lo hi turn slew).2 = 0) {p : List Int} {s : St3} (hl : Leads T lo hi turn slew p s) (h : Int) : nxtP T lo hi turn slew s h = stpP T lo hi turn slew s h := by
  have := (reachL_v hk ((reachL_mem hk s).2 ⟨p, hl⟩)).1
  unfold nxtP
  rw [if_neg (by simpa using hk), if_neg (by simpa using this)]
theorem runA_app {T : List Int} {lo hi turn slew : Int} (r : List Int) : ∀ (p : List Int) (s : St3) (out L : List St3) (z : St3), out.getLast? = some s → runA T lo hi turn slew s out p = (L, 0) → L.getLast? = some z → runA T lo hi turn slew s out (p ++ r) = runA T lo hi turn slew z L r
  | [], s, out, L, z, ho, hr, hz => by
    have hr' : (out, (0 : Int)) = (L, 0) := hr
    cases hr'
    rw [ho] at hz; cases hz
    rfl
  | h :: p, s, out, L, z, ho, hr, hz => by
    rw [List.cons_append]
    by_cases he : (stpP T lo hi turn slew s h).2 = 0
    · rw [runA_ok he] at hr ⊢
      exact runA_app r p _ _ L z (by simp) hr hz
    · rw [runA_no he] at hr
      exact absurd (congrArg Prod.snd hr) he
/-- The run of a sea that leads to a state. -/
theorem leads_run {T : List Int} {lo hi turn slew : Int} {p : List Int} {s : St3} (hl : Leads T lo hi turn slew p s) : ∃ L, runA T lo hi turn slew (0, 0, 0) [(0, 0, 0)] p = (L, 0) ∧ L.length = p.length + 1 ∧ L.getLast? = some s := by
  induction hl with
  | nil => exact ⟨[(0, 0, 0)], rfl, rfl, rfl⟩
  | @snoc p s h hl hm hw ih =>
    obtain ⟨L, h1, h2, h3⟩ := ih
    have hs := stp_of (T := T) (slew := slew) hm
    rw [if_neg (by rw [hw]; decide)] at hs
    refine ⟨L ++ [goS T slew s h], ?_, by simp [h2], by simp⟩
    rw [runA_app [h] p _ _ L s rfl h1 h3, runA_ok (by rw [hs]), hs]
    rfl
theorem breaks_run {T : List Int} {lo hi turn slew : Int} {p : List Int} {s : St3} {h : Int} (hl : Leads T lo hi turn slew p s) (hm : mayH lo hi turn s h) (hw : nxW T slew s.1 s.2.1 h = false) : (runA T lo hi turn slew (0, 0, 0) [(0, 0, 0)] (p ++ [h])).2 = 22 := by
  obtain ⟨L, h1, h2, h3⟩ := leads_run hl
  have hs := stp_of (T := T) (slew := slew) hm
  rw [if_pos hw] at hs
  rw [runA_app [h] p _ _ L s rfl h1 h3, runA_no (by rw [hs]; decide), hs]

end Go.Proofs.Ytgbckdmhmkpahaa

/-
  The shortest paths (chapter 6): what the program and the reference answer, in plain words.
-/
import Derived.Test.YtpnfgmgoafgcbaaGreatShP
import Derived.Test.YtpnfgmgoafgcbaaGreatPtC
set_option linter.unusedVariables false
namespace Go.Proofs.YtpnfgmgoafgcbaaGreat

/-- What same wants of an answer. -/
def okSame (R : List Mv × Int) (W : Option (List Mv)) (c : Int) : Prop :=
  (c ≠ 0 ∧ R.2 = c ∧ R.1 = []) ∨ (c = 0 ∧ W.isSome = false ∧ R.2 = 12 ∧ R.1 = []) ∨ (c = 0 ∧ W.isSome = true ∧ R.2 = 0 ∧ R.1 = W.getD [])
def seq (a b : Int) : Int := if a = 0 then b else a
theorem seq_zero {a b : Int} (h : seq a b = 0) : a = 0 ∧ b = 0 := by
  unfold seq at h
  by_cases h0 : a = 0
  · rw [if_pos h0] at h; exact ⟨h0, h⟩
  · rw [if_neg h0] at h; exact absurd h h0
theorem ptE_seq (s : Sc) (p q : Ps) : ptE s p q = seq (seq (cpE s p) (cpE s q)) (frE s p) := by
  unfold ptE frE seq
  by_cases h : cpE s p = 0
  · by_cases h2 : cpE s q = 0
    · simp [h, h2]
    · simp [h, h2]
  · simp [h]
theorem pcE_seq (s : Sc) (p : Ps) (c : Ce) : pcE s p c = seq (seq (cpE s p) (unl (inB c.1 (-20) 20 && inB c.2 (-20) 20) 2)) (frE s p) := by
  unfold pcE pcE0 frE seq
  by_cases h : cpE s p = 0
  · rw [h]
    cases inB c.1 (-20) 20 && inB c.2 (-20) 20
    · simp [fstE, unl]
    · simp [fstE, unl]
  · simp [fstE, h]
theorem okSame_dn {R : List Mv × Int} {F : Option (List Mv)} (h : R = (match F with | some c => (c, 0) | none => ([], 12))) : okSame R F 0 := by
  cases F with
  | none => exact .inr (.inl ⟨rfl, rfl, by rw [h], by rw [h]⟩)
  | some c => exact .inr (.inr ⟨rfl, rfl, by rw [h], by rw [h]; rfl⟩)
theorem short_p (s : Sc) (p q : Ps) : okSame (ptR s p q) (if ptE s p q = 0 then srF s p (fun z => decide (z = q)) else none) (ptE s p q) := by
  by_cases h : ptE s p q = 0
  · have h1 : cpE s p = 0 := by
      unfold ptE at h
      by_cases h1 : cpE s p = 0
      · exact h1
      · rw [if_pos h1] at h; exact absurd h h1
    have h2 : cpE s q = 0 := by
      unfold ptE at h
      rw [if_neg (by simp [h1])] at h
      by_cases h2 : cpE s q = 0
      · exact h2
      · rw [if_pos h2] at h; exact absurd h h2
    have h3 : freeP s p = true := by
      unfold ptE at h
      rw [if_neg (by simp [h1]), if_neg (by simp [h2])] at h
      cases hf : freeP s p
      · rw [hf] at h; cases h
      · rfl
    obtain ⟨hS, hp⟩ := cpE_ok h1
    have hq := (cpE_ok h2).2
    rw [if_pos h, h]
    refine okSame_dn ?_
    unfold ptR
    rw [if_neg (by simp [h])]
    cases hf : freeP s q
    · rw [if_neg (by simp)]
      have e : srF s p (fun z => decide (z = q)) = none := by
        unfold srF
        cases hF : (srP s p).find? (fun x => decide (x.1 = q)) with
        | none => rfl
        | some x =>
          have hx := List.find?_some (p := fun x : Ps × List Mv => decide (x.1 = q)) hF
          have := ((srP_r hp h3).ok x (List.mem_of_find?_eq_some hF)).2.1
          rw [of_decide_eq_true hx, hf] at this
          cases this
      rw [e]
    · rw [if_pos rfl]
      exact short_is hS hp h3 (by simpa using ⟨hq, hf⟩) (by simp) (by simp) (fun _ z _ hz => by simpa using hz)
  · rw [if_neg h]
    refine .inl ⟨h, ?_, ?_⟩ <;> (unfold ptR; rw [if_pos h])
theorem short_c (s : Sc) (p : Ps) (c : Ce) : okSame (pcR s p c) (if pcE s p c = 0 then srF s p (fun z => decide (tipP s z = c)) else none) (pcE s p c) := by
  by_cases h : pcE s p c = 0
  · have h0 : pcE0 s p c = 0 := by
      unfold pcE at h
      by_cases h1 : pcE0 s p c = 0
      · exact h1
      · rw [if_pos h1] at h; exact absurd h h1
    have h1 := pcE0_zero h0
    have h3 : freeP s p = true := by
      unfold pcE at h
      rw [if_neg (by simp [h0])] at h
      cases hf : freeP s p
      · rw [hf] at h; cases h
      · rfl
    obtain ⟨hS, hp⟩ := cpE_ok h1
    obtain ⟨L, hL⟩ := flood_r (b0 := [p]) hS (by simp) (by simpa using ⟨hp, h3⟩)
    have e2 : (floodP s [p]).2 = L.map (·.1) := by rw [hL.eq]; rfl
    rw [if_pos h, h]
    refine okSame_dn ?_
    unfold pcR
    rw [if_neg (by simp [h])]
    unfold endsP
    refine short_is hS hp h3 (fun b hb => ?_) ?_ (fun b hb => (List.mem_filter.1 hb).2) (fun q z hq hz => List.mem_filter.2 ⟨?_, hz⟩)
    · have hb := (List.mem_filter.1 hb).1
      rw [e2] at hb
      obtain ⟨x, hx, rfl⟩ := List.mem_map.1 hb
      exact ⟨(hL.ok x hx).1, (hL.ok x hx).2.1⟩
    · exact List.Nodup.sublist List.filter_sublist (by rw [e2]; exact hL.nd)
    · obtain ⟨d, hd, _⟩ := hL.all p (by simp) q z hq
      rw [e2]
      exact List.mem_map_of_mem (f := (·.1)) hd
  · rw [if_neg h]
    refine .inl ⟨h, ?_, ?_⟩ <;> (unfold pcR; rw [if_pos h])

theorem dnP_le (s : Sc) (es : List (Ky × Int)) : ∀ (n : Nat) (p : Ps), (dnP s es n p).length ≤ n
  | 0, _ => Nat.le_refl _
  | n + 1, p => by
    unfold dnP
    split
    · have := dnP_le s es n
      simp only [List.length_cons]
      exact Nat.succ_le_succ (this _)
    · simp
theorem dnR_le {s : Sc} {b : List Ps} (hS : SOk s) (hn : b.Nodup) (hb : ∀ p ∈ b, POk s p) (p : Ps) : (dnR s (floodP s b).1 p).1.length ≤ 100000 := by
  unfold dnR
  split
  · simp
  · rename_i d hd
    have h1 := flood_v hS hn hb _ _ hd
    have h2 := dnP_le s (floodP s b).1 d.toNat p
    dsimp only
    omega
theorem ptR_len (s : Sc) (p q : Ps) : (ptR s p q).1.length ≤ 100000 := by
  unfold ptR
  by_cases h : ptE s p q = 0
  · rw [if_neg (by simp [h])]
    have h2 : cpE s q = 0 := by
      unfold ptE at h
      by_cases h1 : cpE s p = 0
      · rw [if_neg (by simp [h1])] at h
        by_cases h2 : cpE s q = 0
        · exact h2
        · rw [if_pos h2] at h; exact absurd h h2
      · rw [if_pos h1] at h; exact absurd h h1
    obtain ⟨hS, hq⟩ := cpE_ok h2
    split
    · exact dnR_le hS (by simp) (by simpa using hq) p
    · simp
  · rw [if_pos h]; simp
theorem pcR_len (s : Sc) (p : Ps) (c : Ce) : (pcR s p c).1.length ≤ 100000 := by
  unfold pcR
  by_cases h : pcE s p c = 0
  · rw [if_neg (by simp [h])]
    have h0 : pcE0 s p c = 0 := by
      unfold pcE at h
      by_cases h1 : pcE0 s p c = 0
      · exact h1
      · rw [if_pos h1] at h; exact absurd h h1
    have h1 := pcE0_zero h0
    have h3 : freeP s p = true := by
      unfold pcE at h
      rw [if_neg (by simp [h0])] at h
      cases hf : freeP s p
      · rw [hf] at h; cases h
      · rfl
    obtain ⟨hS, hp⟩ := cpE_ok h1
    obtain ⟨L, hL⟩ := flood_r (b0 := [p]) hS (by simp) (by simpa using ⟨hp, h3⟩)
    have e2 : (floodP s [p]).2 = L.map (·.1) := by rw [hL.eq]; rfl
    refine dnR_le hS (List.Nodup.sublist List.filter_sublist (by rw [e2]; exact hL.nd)) (fun b hb => ?_) p
    have hb := (List.mem_filter.1 hb).1
    rw [e2] at hb
    obtain ⟨x, hx, rfl⟩ := List.mem_map.1 hb
    exact (hL.ok x hx).1
  · rw [if_pos h]; simp

end Go.Proofs.YtpnfgmgoafgcbaaGreat

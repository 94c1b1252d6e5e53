/-
  What both CheckReached answer (chapter 6), in plain words.
  The reached poses of the reference are those that ReachedFrom finds (chapter 6), in plain words.
  The map of CheckReached holds what the reference looks up in the list (chapter 6), in plain words.
  What the first loop of CheckReached leaves behind (chapter 6), in plain words.
  The list of reached poses (chapter 6), in plain words.
-/
import Derived.Test.YtpnfgmgoafgcbaaGreatRMo
import Derived.Test.YtpnfgmgoafgcbaaGreatShP
import Derived.Test.YtpnfgmgoafgcbaaGreatA11
set_option linter.unusedVariables false
namespace Go.Proofs.YtpnfgmgoafgcbaaGreat
open Go.RowKit Go.Shelf
/-- The first of k indices from i on at which f is not 0, with f's answer; (0, 0): there is none. -/
def ffE (f : Nat → Int) : Nat → Nat → Nat × Int
  | _, 0 => (0, 0)
  | i, k + 1 => if f i ≠ 0 then (i, f i) else ffE f (i + 1) k
theorem ffE_step {f : Nat → Int} {i n : Nat} (h : i < n) : ffE f i (n - i) = if f i ≠ 0 then (i, f i) else ffE f (i + 1) (n - (i + 1)) := by
  obtain ⟨k, e⟩ : ∃ k, n - i = k + 1 := ⟨n - i - 1, by omega⟩
  rw [e, show n - (i + 1) = k by omega]
  rfl
theorem ffE_bad {f : Nat → Int} {i n : Nat} {R : Nat × Int} (h : i < n) (hR : ffE f i (n - i) = R) (h0 : f i ≠ 0) : R = (i, f i) := by
  rw [ffE_step h, if_pos h0] at hR
  exact hR.symm
theorem ffE_good {f : Nat → Int} {i n : Nat} {R : Nat × Int} (h : i < n) (hR : ffE f i (n - i) = R) (h0 : f i = 0) : ffE f (i + 1) (n - (i + 1)) = R := by
  rw [ffE_step h, if_neg (by simp [h0])] at hR
  exact hR
def pm0 : PM := ((0, []), 0)
/-- The error of the reached pose i in itself. -/
def rcF (s : Sc) (p : Ps) (ys : List PM) (i : Nat) : Int :=
  fstE [ownE s (ys.getD i pm0).1, unl (decide (i = 0) || befS (ys.getD (i - 1) pm0).1 (ys.getD i pm0).1) 9, unl (freeP s (ys.getD i pm0).1) 17,
    unl (decide (0 ≤ (ys.getD i pm0).2) && (decide ((ys.getD i pm0).2 = 0) == decide ((ys.getD i pm0).1 = p))) 2]
/-- The error of a pose with its moves: mo: the moves of a pose, z: its own. -/
def crG (mo : Ps → Int) (z : Int) (nx : Mv → Ps) : List Mv → Bool → Int
  | [], b => if b then 0 else 19
  | m :: ms, b => if mo (nx m) < 0 then 21 else if mo (nx m) - 1 > z then 19 else crG mo z nx ms (b || decide (mo (nx m) = z - 1))
def rcG (s : Sc) (p : Ps) (ys : List PM) (i : Nat) : Int :=
  crG (mvoP ys) (ys.getD i pm0).2 (mvd (ys.getD i pm0).1) (mvs s (ys.getD i pm0).1) (decide ((ys.getD i pm0).1 = p))
def chR2 (s : Sc) (p : Ps) (ys : List PM) : Nat × Int := if mvoP ys p < 0 then (0, 6) else ffE (rcG s p ys) 0 ys.length
def chR1 (s : Sc) (p : Ps) (ys : List PM) : Nat × Int := if (ffE (rcF s p ys) 0 ys.length).2 ≠ 0 then ffE (rcF s p ys) 0 ys.length else chR2 s p ys
def chR (s : Sc) (p : Ps) (ys : List PM) : Nat × Int := if frE s p ≠ 0 then (0, frE s p) else chR1 s p ys
theorem getD_of {ys : List PM} {i : Nat} {y : PM} (h : ys[i]? = some y) : ys.getD i pm0 = y := by simp [List.getD, h]
theorem rcF_at {s : Sc} {p : Ps} {ys : List PM} {i : Nat} {y : PM} (h : ys[i]? = some y) :
    rcF s p ys i = fstE [ownE s y.1, unl (decide (i = 0) || befS (ys.getD (i - 1) pm0).1 y.1) 9, unl (freeP s y.1) 17, unl (decide (0 ≤ y.2) && (decide (y.2 = 0) == decide (y.1 = p))) 2] := by
  unfold rcF; rw [getD_of h]
theorem rcF_zero {s : Sc} {p : Ps} {ys : List PM} {i : Nat} {y : PM} (h : ys[i]? = some y) :
    rcF s p ys i = 0 ↔ ownE s y.1 = 0 ∧ (i = 0 ∨ befS (ys.getD (i - 1) pm0).1 y.1 = true) ∧ freeP s y.1 = true ∧ 0 ≤ y.2 ∧ (y.2 = 0 ↔ y.1 = p) := by
  rw [rcF_at h, fstE_zero]
  have e : (decide (y.2 = 0) == decide (y.1 = p)) = true ↔ (y.2 = 0 ↔ y.1 = p) := by
    by_cases h1 : y.2 = 0 <;> by_cases h2 : y.1 = p <;> simp [h1, h2]
  have u : ∀ {b : Bool} {e : Int}, e ≠ 0 → (unl b e = 0 ↔ b = true) := fun h => unl_zero h
  simp only [List.mem_cons, List.not_mem_nil, or_false, forall_eq_or_imp, forall_eq, u (show (9 : Int) ≠ 0 by decide), u (show (17 : Int) ≠ 0 by decide), u (show (2 : Int) ≠ 0 by decide), Bool.or_eq_true, Bool.and_eq_true, decide_eq_true_eq, e]
theorem rcG_at {s : Sc} {p : Ps} {ys : List PM} {i : Nat} {y : PM} (h : ys[i]? = some y) : rcG s p ys i = crG (mvoP ys) y.2 (mvd y.1) (mvs s y.1) (decide (y.1 = p)) := by
  unfold rcG; rw [getD_of h]
theorem own_pok {s : Sc} {p : Ps} (h : ownE s p = 0) : POk s p := by
  unfold ownE at h
  rw [fstE_zero] at h
  simp only [List.mem_cons, List.not_mem_nil, or_false, forall_eq_or_imp, forall_eq] at h
  obtain ⟨a, b, c⟩ := h
  rw [unl_zero (by decide)] at a b c
  exact ⟨by simpa [inB] using a, by simpa using b, c⟩
theorem mvoP_rng {l : List PM} {q : Ps} {a b : Int} (h : ∀ x ∈ l, a ≤ x.2 ∧ x.2 ≤ b) (ha : a ≤ -1) (hb : -1 ≤ b) : a ≤ mvoP l q ∧ mvoP l q ≤ b := by
  unfold mvoP
  cases hf : l.find? fun x => decide (x.1 = q) with
  | none => exact ⟨ha, hb⟩
  | some y => exact h y (List.mem_of_find?_eq_some hf)
theorem crG_open {mo : Ps → Int} {z : Int} {nx : Mv → Ps} {m : Mv} {ms : List Mv} {b : Bool} (h : mo (nx m) < 0) : crG mo z nx (m :: ms) b = 21 := if_pos h
theorem crG_proof {mo : Ps → Int} {z : Int} {nx : Mv → Ps} {m : Mv} {ms : List Mv} {b : Bool} (h : ¬ mo (nx m) < 0) (h2 : mo (nx m) - 1 > z) : crG mo z nx (m :: ms) b = 19 := by
  unfold crG; rw [if_neg h, if_pos h2]
theorem crG_next {mo : Ps → Int} {z : Int} {nx : Mv → Ps} {m : Mv} {ms : List Mv} {b : Bool} (h : ¬ mo (nx m) < 0) (h2 : ¬ mo (nx m) - 1 > z) : crG mo z nx (m :: ms) b = crG mo z nx ms (b || decide (mo (nx m) = z - 1)) := by
  conv => lhs; unfold crG
  rw [if_neg h, if_neg h2]
end Go.Proofs.YtpnfgmgoafgcbaaGreat
set_option linter.unusedVariables false
namespace Go.Proofs.YtpnfgmgoafgcbaaGreat
open Go.RowKit Go.Shelf
theorem nodup_of_map {α β : Type} {f : α → β} {l : List α} (h : (l.map f).Nodup) : l.Nodup := List.Pairwise.of_map f (fun _ _ h e => h (congrArg f e)) h
theorem nodup_snd {α β : Type} {L : List (α × β)} (h : (L.map (·.1)).Nodup) {q : α} {c d : β} (hc : (q, c) ∈ L) (hd : (q, d) ∈ L) : c = d := by
  obtain ⟨i, hi, e1⟩ := List.getElem_of_mem hc
  obtain ⟨j, hj, e2⟩ := List.getElem_of_mem hd
  have hij : i = j := (List.getElem?_inj (l := L.map (·.1)) (by simpa using hi) h).1 (by simp [hi, hj, e1, e2])
  subst hij
  rw [e1] at e2
  exact congrArg Prod.snd e2
theorem ltP_len {a b : List Mv} (h : ltP a b) : a.length ≤ b.length := by
  rcases h with h | ⟨h, _⟩ <;> omega
theorem cmpI_lt0 {a b : Int} : cmpI a b < 0 ↔ a < b := by unfold cmpI; split <;> (try split) <;> omega
theorem lexC_befL : ∀ P Q : List Int, befL P Q = decide (lexC P Q < 0)
  | [], [] => rfl
  | [], _ :: _ => rfl
  | _ :: _, [] => rfl
  | a :: P, b :: Q => by
    unfold befL lexC
    by_cases h : a = b
    · rw [if_neg (by simp [h]), if_pos (cmpI_zero.2 h)]
      exact lexC_befL P Q
    · rw [if_pos h, if_neg (fun e => h (cmpI_zero.1 e))]
      simp only [cmpI_lt0]
theorem befS_ordP (p q : Ps) : befS p q = decide (ordP p q < 0) := by
  unfold befS ordP
  by_cases h : p.1 = q.1
  · rw [if_pos h, fstE_cons, if_pos (cmpI_zero.2 h), fstE_cons, lexC_befL]
    by_cases h0 : lexC p.2 q.2 = 0
    · rw [if_pos h0, h0]; rfl
    · rw [if_neg h0]
  · rw [if_neg h, fstE_cons, if_neg (fun e => h (cmpI_zero.1 e))]
    simp only [cmpI_lt0]
/-- How many of the first poses come before one. -/
def atP (p : Ps) : List PM → Nat
  | [] => 0
  | y :: l => if befS y.1 p then atP p l + 1 else 0
theorem atP_le (p : Ps) : ∀ l, atP p l ≤ l.length
  | [] => Nat.le_refl _
  | y :: l => by
    unfold atP
    have := atP_le p l
    split <;> simp <;> omega
theorem insR_at (x : PM) : ∀ l, insR x l = l.take (atP x.1 l) ++ [x] ++ l.drop (atP x.1 l)
  | [] => rfl
  | y :: l => by
    unfold insR atP
    rw [befS_ordP]
    by_cases h : ordP y.1 x.1 < 0
    · rw [if_pos h, if_pos (by simpa using h), insR_at x l]; rfl
    · rw [if_neg h, if_neg (by simpa using h)]; rfl
theorem atP_get {p : Ps} : ∀ {l : List PM} {k : Nat}, k < atP p l → ∃ y, l[k]? = some y ∧ befS y.1 p = true
  | [], k, h => by simp [atP] at h
  | y :: l, k, h => by
    unfold atP at h
    split at h
    · rename_i hb
      cases k with
      | zero => exact ⟨y, rfl, hb⟩
      | succ k => exact atP_get (l := l) (k := k) (by omega)
    · omega
theorem atP_stop {p : Ps} : ∀ {l : List PM} {y : PM}, l[atP p l]? = some y → befS y.1 p = false
  | [], y, h => by simp at h
  | z :: l, y, h => by
    unfold atP at h
    split at h
    · exact atP_stop (l := l) (by simpa using h)
    · rename_i hb
      have : z = y := by simpa using h
      rw [← this]
      simpa using hb
/-- Reached of the reference. -/
def rrP (L : List (Ps × List Mv)) : List PM := L.foldl (fun ys x => insR (x.1, (x.2.length : Int)) ys) []
theorem rrP_fold : ∀ (L : List (Ps × List Mv)) (ys : List PM), SortedR ys → SortedR (L.foldl (fun ys x => insR (x.1, (x.2.length : Int)) ys) ys) ∧ (L.foldl (fun ys x => insR (x.1, (x.2.length : Int)) ys) ys).Perm (L.map (fun x => (x.1, (x.2.length : Int))) ++ ys)
  | [], ys, h => ⟨h, List.Perm.refl _⟩
  | x :: L, ys, h => by
    obtain ⟨h1, h2⟩ := rrP_fold L (insR (x.1, (x.2.length : Int)) ys) (insR_sorted _ _ h)
    refine ⟨h1, h2.trans ?_⟩
    exact ((insR_perm _ ys).append_left _).trans List.perm_middle
theorem rr_is {s : Sc} {p : Ps} (hS : SOk s) (hp : POk s p) (hf : freeP s p = true) : rrP (srP s p) = rchL s p := by
  obtain ⟨L, hL⟩ := flood_r (b0 := [p]) hS (by simp) (fun q hq => by have : q = p := by simpa using hq
                                                                     subst this; exact ⟨hp, hf⟩)
  have hs := srP_r hp hf
  obtain ⟨h1, h2⟩ := rrP_fold (srP s p) [] List.Pairwise.nil
  rw [List.append_nil] at h2
  -- the numbers of both
  have k1 : ∀ q c, (q, c) ∈ (srP s p).map (fun x => (x.1, (x.2.length : Int))) ↔ (q, c) ∈ L := by
    intro q c
    constructor
    · intro h
      obtain ⟨x, hx, e⟩ := List.mem_map.1 h
      obtain ⟨x1, x2⟩ := x
      have e1 : x1 = q := congrArg Prod.fst e
      have e2 : (x2.length : Int) = c := congrArg Prod.snd e
      subst e1; subst e2
      obtain ⟨_, _, hl⟩ := hs.ok _ hx
      obtain ⟨d, hd, hdl⟩ := hL.all p (by simp) x2 x1 hl
      obtain ⟨_, _, b, hb, r, hr, hrl⟩ := hL.ok _ hd
      have hb : b = p := by simpa using hb
      subst hb
      dsimp only at hr hrl
      obtain ⟨c', hc', hle⟩ := hs.all r x1 hr
      have e3 : c' = x2 := nodup_snd hs.nd hc' hx
      subst e3
      have hlen : c'.length ≤ r.length := by
        rcases hle with h | h
        · exact ltP_len h
        · rw [h]; exact Nat.le_refl _
      have : d = (c'.length : Int) := by omega
      rw [← this]; exact hd
    · intro h
      obtain ⟨_, _, b, hb, r, hr, hrl⟩ := hL.ok _ h
      have hb : b = p := by simpa using hb
      subst hb
      dsimp only at hr hrl
      obtain ⟨c', hc', hle⟩ := hs.all r q hr
      obtain ⟨_, _, hl⟩ := hs.ok _ hc'
      dsimp only at hl
      obtain ⟨d, hd, hdl⟩ := hL.all b (by simp) c' q hl
      have e : c = d := hL.one h hd
      have hlen : c'.length ≤ r.length := by
        rcases hle with h | h
        · exact ltP_len h
        · rw [h]; exact Nat.le_refl _
      exact List.mem_map.2 ⟨(q, c'), hc', by rw [show (c'.length : Int) = c by omega]⟩
  have hfl : (floodP s [p]).2.map (fun q => (q, (lkp (floodP s [p]).1 (kyP q)).getD 0)) = L := by
    rw [show (floodP s [p]).2 = L.map (·.1) from by rw [hL.eq]; rfl, List.map_map]
    conv => rhs; rw [← List.map_id L]
    refine List.map_congr_left fun x hx => ?_
    have := (hL.lk hS (hL.ok x hx).1 x.2).2 hx
    simp [this]
  have hn1 : ((srP s p).map (fun x => (x.1, (x.2.length : Int)))).Nodup := by
    have := hs.nd
    rw [show (srP s p).map (·.1) = ((srP s p).map (fun x => (x.1, (x.2.length : Int)))).map (·.1) from by rw [List.map_map]; rfl] at this
    exact nodup_of_map this
  have hn2 : L.Nodup := nodup_of_map hL.nd
  have hperm : ((srP s p).map (fun x => (x.1, (x.2.length : Int)))).Perm L := (List.perm_ext_iff_of_nodup hn1 hn2).2 fun x => k1 x.1 x.2
  unfold rchL
  rw [hfl]
  have hm : ∀ x ∈ L, x.2 = (fun q => (lkp (floodP s [p]).1 (kyP q)).getD 0) x.1 := fun x hx => by
    have := (hL.lk hS (hL.ok x hx).1 x.2).2 hx
    simp [this]
  exact sortedR_unique (f := fun q => (lkp (floodP s [p]).1 (kyP q)).getD 0) (rrP (srP s p)) (sortR L) (fun x hx => hm x (hperm.subset (h2.subset hx))) (fun x hx => hm x ((sortR_perm L).subset hx)) h1 (sortR_sorted L) (h2.trans (hperm.trans (sortR_perm L).symm))
end Go.Proofs.YtpnfgmgoafgcbaaGreat
set_option linter.unusedVariables false
namespace Go.Proofs.YtpnfgmgoafgcbaaGreat
open Go.RowKit Go.Shelf
theorem lkp_mvo {s : Sc} (hS : SOk s) {q : Ps} (hq : POk s q) {ys : List PM} (hy : ∀ x ∈ ys, POk s x.1) (hn : (ys.map (·.1)).Nodup) (h0 : ∀ x ∈ ys, 0 ≤ x.2) :
    lkp (entF ys).1 (kyP q) = if mvoP ys q < 0 then none else some (mvoP ys q) := by
  unfold mvoP
  cases hf : ys.find? fun x => decide (x.1 = q) with
  | none =>
    rw [if_pos (by simp [mvoF])]
    have h := lkp_ent_none hS hq hy
    cases hl : lkp (entF ys).1 (kyP q) with
    | none => rfl
    | some c =>
      rw [hl] at h
      obtain ⟨x, hx, e⟩ := List.mem_map.1 (h.1 rfl)
      have := List.find?_eq_none.1 hf x hx
      simp [e] at this
  | some y =>
    have hm := List.mem_of_find?_eq_some hf
    have hb := List.find?_some hf
    have e : y.1 = q := by simpa using hb
    have h1 := h0 y hm
    rw [if_neg (by show ¬ y.2 < 0; omega)]
    exact (lkp_ent hS hq hy hn y.2).2 (by rw [← e]; exact hm)
/-- Sorted strictly: the first ones have other poses. -/
theorem befS_irr (p : Ps) : befS p p = false := by
  rw [befS_ordP, decide_eq_false]
  have := ordP_zero.2 (rfl : p = p)
  omega
theorem befS_trans {p q r : Ps} (h1 : befS p q = true) (h2 : befS q r = true) : befS p r = true := by
  rw [befS_ordP] at *
  simp only [decide_eq_true_eq] at *
  exact ordP_tr h1 h2
/-- Each of the first i poses comes before the pose i when each comes before the next. -/
theorem bef_all {ys : List PM} : ∀ {i : Nat} {x : PM}, ys[i]? = some x → (∀ k, k < i → befS (ys.getD k pm0).1 (ys.getD (k + 1) pm0).1 = true) → ∀ k y, k < i → ys[k]? = some y → befS y.1 x.1 = true
  | 0, x, _, _, k, y, hk, _ => by omega
  | i + 1, x, hx, h, k, y, hk, hy => by
    have hi : i < ys.length := by have := (List.getElem?_eq_some_iff.1 hx).1; omega
    have hz : ys[i]? = some ys[i] := List.getElem?_eq_getElem hi
    have h1 := h i (by omega)
    rw [getD_of hz, getD_of hx] at h1
    by_cases e : k = i
    · subst e
      rw [hy] at hz
      cases hz
      exact h1
    · exact befS_trans (bef_all hz (fun k hk => h k (by omega)) k y (by omega) hy) h1
end Go.Proofs.YtpnfgmgoafgcbaaGreat
set_option linter.unusedVariables false
namespace Go.Proofs.YtpnfgmgoafgcbaaGreat
open Go.RowKit Go.Shelf
/-- The map's entries of the first so many. -/
def ks (ys : List PM) (k : Nat) : List (Ky × Int) := (ys.take k).map fun x => (kyP x.1, x.2)
theorem ks_step {ys : List PM} {k : Nat} {y : PM} (h : ys[k]? = some y) : ks ys (k + 1) = ks ys k ++ [(kyP y.1, y.2)] := by
  unfold ks
  rw [List.take_add_one, h]
  simp
theorem ks_all (ys : List PM) : ks ys ys.length = (entF ys).1 := by
  unfold ks entF
  rw [List.take_length]
theorem or_of_ord (p q : Ps) : decide (0 < ordP p q) = befS q p := by
  rw [befS_ordP, ordP_neg]
  simp
theorem ord_eq0 (p q : Ps) : (ordP p q == 0) = decide (p = q) := by
  rw [Bool.eq_iff_iff]
  simp [ordP_zero]
theorem rc_bef {s : Sc} {p : Ps} {ys : List PM} {i : Nat} {x : PM} (h : ys[i]? = some x) (hz : ∀ j, j ≤ i → rcF s p ys j = 0) : ∀ k y, k < i → ys[k]? = some y → befS y.1 x.1 = true := by
  refine bef_all h (fun k hk => ?_)
  have hi : i < ys.length := (List.getElem?_eq_some_iff.1 h).1
  have h1 : ys[k + 1]? = some ys[k + 1] := List.getElem?_eq_getElem (by omega)
  have h2 := (rcF_zero h1).1 (hz (k + 1) (by omega))
  rw [getD_of h1]
  rcases h2.2.1 with h3 | h3
  · omega
  · simpa using h3
theorem rc_ok {s : Sc} {p : Ps} {ys : List PM} {n : Nat} (hz : ∀ j, j < n → rcF s p ys j = 0) {k : Nat} {y : PM} (hk : k < n) (h : ys[k]? = some y) : POk s y.1 ∧ 0 ≤ y.2 ∧ (y.2 = 0 ↔ y.1 = p) := by
  have h2 := (rcF_zero h).1 (hz k hk)
  exact ⟨own_pok h2.1, h2.2.2.2.1, h2.2.2.2.2⟩
theorem rc_none {s : Sc} {p : Ps} {ys : List PM} {i : Nat} {x : PM} (hS : SOk s) (h : ys[i]? = some x) (hz : ∀ j, j ≤ i → rcF s p ys j = 0) : lkp (ks ys i) (kyP x.1) = none := by
  refine lkp_none.2 fun hc => ?_
  simp only [ks, List.map_map, List.mem_map, Function.comp] at hc
  obtain ⟨y, hy, he⟩ := hc
  obtain ⟨j, hj, hjx⟩ := List.getElem_of_mem hy
  simp only [List.length_take] at hj
  have hj1 : ys[j]? = some y := by
    rw [List.getElem_take] at hjx
    rw [List.getElem?_eq_getElem (by omega), hjx]
  have hxp := (rc_ok (n := i + 1) (fun j hj => hz j (by omega)) (by omega) h).1
  have hyp := (rc_ok (n := i + 1) (fun j hj => hz j (by omega)) (show j < i + 1 by omega) hj1).1
  have e : y.1 = x.1 := kyP_inj hS hyp hxp he
  have hb := rc_bef h hz j y (by omega) hj1
  rw [e, befS_irr] at hb
  cases hb
theorem rc_nodup {s : Sc} {p : Ps} {ys : List PM} (hz : ∀ j, j < ys.length → rcF s p ys j = 0) : (ys.map (·.1)).Nodup := by
  refine List.pairwise_iff_getElem.2 fun i j hi hj hij => ?_
  simp only [List.length_map] at hi hj
  rw [List.getElem_map, List.getElem_map]
  intro e
  have hb := rc_bef (List.getElem?_eq_getElem hj) (fun k hk => hz k (by omega)) i ys[i] hij (List.getElem?_eq_getElem hi)
  rw [e, befS_irr] at hb
  cases hb
theorem rc_mo {s : Sc} {p : Ps} {ys : List PM} (hS : SOk s) (hz : ∀ j, j < ys.length → rcF s p ys j = 0) (q : Ps) (hq : POk s q) : lkp (ks ys ys.length) (kyP q) = if mvoP ys q < 0 then none else some (mvoP ys q) := by
  rw [ks_all]
  refine lkp_mvo hS hq (fun y hy => ?_) (rc_nodup hz) (fun y hy => ?_)
  · obtain ⟨j, hj, rfl⟩ := List.getElem_of_mem hy
    exact (rc_ok hz hj (List.getElem?_eq_getElem hj)).1
  · obtain ⟨j, hj, rfl⟩ := List.getElem_of_mem hy
    exact (rc_ok hz hj (List.getElem?_eq_getElem hj)).2.1
end Go.Proofs.YtpnfgmgoafgcbaaGreat
set_option linter.unusedVariables false
namespace Go.Proofs.YtpnfgmgoafgcbaaGreat
open Go.RowKit Go.Shelf
theorem rch_r {s : Sc} {p : Ps} (hS : SOk s) (hp : POk s p) (hf : freeP s p = true) : ∃ L, FlR s [p] L ∧ (rchL s p).Perm L := by
  obtain ⟨L, hL⟩ := flood_r (b0 := [p]) hS (by simp) (fun q hq => by
    have : q = p := by simpa using hq
    subst this
    exact ⟨hp, hf⟩)
  refine ⟨L, hL, ?_⟩
  have e : (floodP s [p]).2.map (fun q => (q, (lkp (floodP s [p]).1 (kyP q)).getD 0)) = L := by
    rw [hL.eq]
    show (L.map (·.1)).map _ = L
    rw [List.map_map]
    conv => rhs; rw [← List.map_id L]
    refine List.map_congr_left fun x hx => ?_
    have h1 := (lkp_ent hS (hL.ok x hx).1 (fun y hy => (hL.ok y hy).1) hL.nd x.2).2 hx
    show (x.1, (lkp (entF L).1 (kyP x.1)).getD 0) = x
    rw [h1]
    rfl
  unfold rchL
  rw [e]
  exact sortR_perm L
theorem rchR_ln {s : Sc} {p : Ps} : ∀ y ∈ (rchR s p).1, y.1.2.length ≤ 100000 := by
  intro y hy
  unfold rchR at hy
  split at hy
  · cases hy
  · rename_i h0
    obtain ⟨hS, hp, hf⟩ := frE_ok (Decidable.of_not_not h0)
    obtain ⟨L, hL, hperm⟩ := rch_r hS hp hf
    have h1 := (hL.ok y (hperm.subset hy)).1.len
    have h2 := hS.len
    omega
theorem rchR_len {s : Sc} {p : Ps} : (rchR s p).1.length ≤ 1000 := by
  unfold rchR
  split
  · simp
  · rename_i h0
    obtain ⟨hS, hp, hf⟩ := frE_ok (Decidable.of_not_not h0)
    obtain ⟨L, hL, hperm⟩ := rch_r hS hp hf
    show (rchL s p).length ≤ 1000
    rw [hperm.length_eq]
    have h1 := alP_len hS
    have h2 := nodup_le (L.map (·.1)) (alP s) hL.nd (fun q hq => by
      obtain ⟨x, hx, rfl⟩ := List.mem_map.1 hq
      exact mem_alP (hL.ok x hx).1)
    simp at h2
    omega
end Go.Proofs.YtpnfgmgoafgcbaaGreat

/-
  Closed sets of states (chapter 2): the closure of CheckClosed; what CheckClosed answers, in plain words, at the reached states.
-/
import Derived.Test.YtgbckdmhmkpahaaCls1
import Derived.Test.YtgbckdmhmkpahaaStepP
set_option linter.unusedVariables false
namespace Go.Proofs.Ytgbckdmhmkpahaa
open Go.RowKit Go.Shelf

set_option maxHeartbeats 1000000 in
theorem has_c (xs : List St3) (A : Option Addr) (c B : Nat) (t1 t2 t3 : Int) (w : World) (hn : xs.length ≤ 100000) (hs : SlV w A (xs.flatMap st3V)) (hp : xs.Pairwise fun a b => ltS a b = true) (q : Box w B 38 #[.slice A xs.length c]) :
    Calls Try.prog 115 #[.agg #[.int .i64 t1, .int .i64 t2, .int .i64 t3], .pointer (some ⟨B, 0, none⟩)] w fun e w' => e = .returned (.bool (decide ((t1, t2, t3) ∈ xs))) ∧ Below w.heap.size w w' := by
  have BS := Lib.hid (fun W h => bsearch_c xs A c t1 t2 t3 W hn h hp)
  have hs := Lib.hid hs
  obtain ⟨R, hR⟩ : ∃ R, decide ((t1, t2, t3) ∈ xs) = R := ⟨_, rfl⟩
  rw [hR] at BS ⊢
  have c0 := q.cell 0
  simp at c0
  have hlq := q.lt
  go_enter Try.func115, Try.ntmps115
  go_wp2_with (first | (go_at_call 116; refine (BS.out _ (SlV.below hs.out (by focus ((repeat first | with_reducible exact Below.refl _ _ | (with_reducible refine Below.setCell ?_ ?_ _) | (with_reducible refine Below.alloc ?_ ?_ _) | (with_reducible refine below_drewN ?_ _) | (with_reducible refine Below.drew ?_)); all_goals (first | with_reducible exact Nat.le_refl _ | omega | (simp; done) | (simp; omega) | (omega) | ((try simp); omega)))))).mono ?_; rintro e w1 ⟨i, rfl, hb1⟩) | fail)
  go_ret
  exact ⟨rfl, by focus ((repeat first | with_reducible exact Below.refl _ _ | (with_reducible refine Below.setCell ?_ ?_ _) | (with_reducible refine Below.alloc ?_ ?_ _) | (with_reducible refine below_drewN ?_ _) | (with_reducible refine Below.drew ?_) | (with_reducible refine Below.trans ?_ (Below.mono hb1 ?_))); all_goals (first | with_reducible exact Nat.le_refl _ | omega | (simp; done) | (simp; omega) | (have := hb1.size; (try simp at this); omega) | (have := hb1.size; (try simp at this); (try simp); omega)))⟩

def prevOk : Option St3 → St3 → Bool
  | none, _ => true
  | some r, s => ltS r s
/-- What CheckClosed answers. -/
def chkO (T : List Int) (lo hi : Int) : Option St3 → Int → List St3 → Int × Int
  | _, _, [] => (0, 0)
  | p, i, s :: l => if fstE [stE T lo hi s, unl (prevOk p s) 9] ≠ 0 then (i, fstE [stE T lo hi s, unl (prevOk p s) 9]) else chkO T lo hi (some s) (i + 1) l
def hvsOf (lo hi turn : Int) (s : St3) : List Int := hvL (hvA lo turn s.2.2) (hvB hi turn s.2.2 - hvA lo turn s.2.2 + 1).toNat
def stepsE (T : List Int) (lo hi turn slew : Int) (xs : List St3) (s : St3) : Int :=
  if (hvsOf lo hi turn s).any (fun h => !nxW T slew s.1 s.2.1 h) then 22 else if (hvsOf lo hi turn s).any (fun h => !decide (goS T slew s h ∈ xs)) then 21 else 0
def chkN (T : List Int) (lo hi turn slew : Int) (xs : List St3) : Int → List St3 → Int × Int
  | _, [] => (0, 0)
  | i, s :: l => if stepsE T lo hi turn slew xs s ≠ 0 then (i, stepsE T lo hi turn slew xs s) else chkN T lo hi turn slew xs (i + 1) l
def clsP (T : List Int) (lo hi turn slew : Int) (xs : List St3) : Int × Int :=
  if (chkL T lo hi turn slew).2 ≠ 0 then (0, (chkL T lo hi turn slew).2)
  else if (chkO T lo hi none 0 xs).2 ≠ 0 then chkO T lo hi none 0 xs
  else if (0, 0, 0) ∈ xs then chkN T lo hi turn slew xs 0 xs else (0, 6)

theorem mem_hvsOf {lo hi turn : Int} {s : St3} {h : Int} : h ∈ hvsOf lo hi turn s ↔ mayH lo hi turn s h := by
  unfold hvsOf hvL mayH
  simp only [List.mem_map, List.mem_range]
  constructor
  · rintro ⟨k, hk, rfl⟩; omega
  · rintro ⟨h1, h2⟩; exact ⟨(h - hvA lo turn s.2.2).toNat, by omega, by omega⟩
theorem chkO_ok {T : List Int} {lo hi : Int} : ∀ (l : List St3) (p : Option St3) (i : Int), (∀ s ∈ l, stE T lo hi s = 0) → (l.Pairwise fun a b => ltS a b = true) → (∀ r, p = some r → ∀ s ∈ l, ltS r s = true) → chkO T lo hi p i l = (0, 0)
  | [], _, _, _, _, _ => by unfold chkO; rfl
  | s :: l, p, i, h1, h2, h3 => by
    have h2' := List.pairwise_cons.1 h2
    have e : fstE [stE T lo hi s, unl (prevOk p s) 9] = 0 := by
      rw [fst2, if_pos (h1 s (by simp))]
      cases p with
      | none => rfl
      | some r => rw [show prevOk (some r) s = ltS r s from rfl, h3 r rfl s (by simp)]; rfl
    unfold chkO
    rw [if_neg (by simpa using e)]
    exact chkO_ok l (some s) (i + 1) (fun r hr => h1 r (by simp [hr])) h2'.2 (fun r hr s' hs' => by cases hr; exact h2'.1 s' hs')
theorem chkN_ok {T : List Int} {lo hi turn slew : Int} {xs : List St3} : ∀ (l : List St3) (i : Int), (∀ s ∈ l, stepsE T lo hi turn slew xs s = 0) → chkN T lo hi turn slew xs i l = (0, 0)
  | [], _, _ => rfl
  | s :: l, i, h => by
    unfold chkN
    rw [if_neg (by simpa using h s (by simp))]
    exact chkN_ok l (i + 1) (fun r hr => h r (by simp [hr]))
theorem chkN_bad {T : List Int} {lo hi turn slew : Int} {xs : List St3} : ∀ (l : List St3) (i : Int), (∀ s ∈ l, stepsE T lo hi turn slew xs s = 0 ∨ stepsE T lo hi turn slew xs s = 22) → (∃ s ∈ l, stepsE T lo hi turn slew xs s = 22) → (chkN T lo hi turn slew xs i l).2 = 22
  | [], _, _, ⟨s, hs, _⟩ => by simp at hs
  | s :: l, i, h, hb => by
    unfold chkN
    rcases h s (by simp) with h0 | h0
    · rw [if_neg (by simpa using h0)]
      obtain ⟨r, hr, hr2⟩ := hb
      rcases List.mem_cons.1 hr with rfl | hr
      · rw [h0] at hr2; cases hr2
      · exact chkN_bad l (i + 1) (fun r hr => h r (by simp [hr])) ⟨r, hr, hr2⟩
    · rw [h0, if_pos (by decide)]
/-- At the reached states: closed if the loop holds; else it breaks. -/
theorem cls_reached {T : List Int} {lo hi turn slew : Int} (hk : (chkL T lo hi turn slew).2 = 0) : (clsP T lo hi turn slew (reachL T lo hi turn slew)).2 = if (found T lo hi turn slew).2.isNone then 0 else 22 := by
  obtain ⟨k1, k2, k3, k4, k5, k6, k7⟩ := chkL_ok hk
  obtain ⟨hF, hpos⟩ := foundOk (turn := turn) (slew := slew) k1 k2 k3 k4.1 k5 k6
  have hst : ∀ s ∈ reachL T lo hi turn slew, stE T lo hi s = 0 := fun s hs => by
    have h1 := (sortS_perm _).mem_iff.1 hs
    obtain ⟨r, hr, rfl⟩ := List.mem_map.1 h1
    have h2 := hF.box r hr
    unfold stE
    rw [inB_true.2 (show -((T.length / 2 : Nat) : Int) ≤ r.1.1 ∧ r.1.1 ≤ ((T.length / 2 : Nat) : Int) by omega), inB_true.2 (show -10 ≤ r.1.2.1 ∧ r.1.2.1 ≤ 10 by omega), inB_true.2 (show lo ≤ r.1.2.2 ∧ r.1.2.2 ≤ hi by omega)]
    rfl
  have hO := chkO_ok (T := T) (lo := lo) (hi := hi) (reachL T lo hi turn slew) none 0 hst (reachL_strict hk) (fun r hr => by cases hr)
  have h0 : (0, 0, 0) ∈ reachL T lo hi turn slew := (reachL_mem hk _).2 ⟨[], .nil⟩
  unfold clsP
  rw [if_neg (by simpa using hk), if_neg (by rw [hO]; simp), if_pos h0]
  have hcl : ∀ s ∈ reachL T lo hi turn slew, stepsE T lo hi turn slew (reachL T lo hi turn slew) s = if (hvsOf lo hi turn s).any (fun h => !nxW T slew s.1 s.2.1 h) then 22 else 0 := fun s hs => by
    unfold stepsE
    by_cases hb : (hvsOf lo hi turn s).any (fun h => !nxW T slew s.1 s.2.1 h) = true
    · rw [if_pos hb, if_pos hb]
    · rw [if_neg hb, if_neg hb, if_neg]
      intro ha
      obtain ⟨h, hh, hx⟩ := List.any_eq_true.1 ha
      obtain ⟨p, hp⟩ := (reachL_mem hk s).1 hs
      have hw : nxW T slew s.1 s.2.1 h = true := by
        cases hq : nxW T slew s.1 s.2.1 h
        · exact absurd (List.any_eq_true.2 ⟨h, hh, by rw [hq]; rfl⟩) hb
        · rfl
      have := (reachL_mem hk _).2 ⟨_, Leads.snoc hp (mem_hvsOf.1 hh) hw⟩
      simp [this] at hx
  cases hf : (found T lo hi turn slew).2 with
  | none =>
    rw [chkN_ok]
    · rfl
    · intro s hs
      rw [hcl s hs, if_neg]
      intro ha
      obtain ⟨h, hh, hx⟩ := List.any_eq_true.1 ha
      obtain ⟨p, hp⟩ := (reachL_mem hk s).1 hs
      exact found_none hk hf _ ⟨p, s, h, rfl, hp, mem_hvsOf.1 hh, by simpa using hx⟩
  | some L =>
    obtain ⟨⟨p, s, h, _, hl, hm, hw⟩, _⟩ := found_some hk hf
    refine chkN_bad _ _ (fun r hr => ?_) ⟨s, (reachL_mem hk s).2 ⟨p, hl⟩, ?_⟩
    · rw [hcl r hr]; split
      · exact .inr rfl
      · exact .inl rfl
    · rw [hcl s ((reachL_mem hk s).2 ⟨p, hl⟩), if_pos]
      exact List.any_eq_true.2 ⟨h, mem_hvsOf.2 hm, by rw [hw]; rfl⟩

end Go.Proofs.Ytgbckdmhmkpahaa

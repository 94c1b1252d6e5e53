/-
  The walk of ReachedBy (chapter 2).
-/
import Derived.Test.YtgbckdmhmkpahaaLoops2
import Derived.Test.YtgbckdmhmkpahaaSortW
set_option linter.unusedVariables false
namespace Go.Proofs.Ytgbckdmhmkpahaa
open Go.RowKit Go.Shelf

theorem info_St : infoOk Try.prog 42 3 24 = true := by kernel_rfl
theorem cell_three_new (w : World) (a b c : Value) (t : TypeId) : ∀ j u, [a, b, c][j]? = some u → (w.alloc (.cells #[a, b, c] t)).cell? ((⟨w.heap.size, 0, none⟩ : Addr).add j) = some u := by
  intro j u h
  have h1 := (Box.new w t #[a, b, c]).cell j
  by_cases hj : j = 0
  · subst hj
    have h2 : a = u := by simpa using h
    subst h2
    simp [Addr.add]
  · simp only [Addr.add, Nat.zero_add, if_neg hj]
    rw [h1, ← h]
    simp

theorem flat_take {α : Type} (f : α → List Value) (l : List α) (k : Nat) (x : α) (h : l[k]? = some x) : (l.take (k + 1)).flatMap f = (l.take k).flatMap f ++ f x := by
  rw [List.take_add_one, h]
  simp

theorem foundOk {T : List Int} {lo hi turn slew : Int} (h1 : T.length ≤ 11) (h2 : T.length % 2 = 1) (h3 : ∀ y ∈ T, -10 ≤ y ∧ y ≤ 10) (h4 : 0 ≤ slew) (h5 : -4 ≤ lo ∧ lo ≤ 0) (h6 : 0 ≤ hi ∧ hi ≤ 4) :
    OkF T lo hi (found T lo hi turn slew) ∧ 0 < (found T lo hi turn slew).1.length := by
  have go : ∀ (m i : Nat) (st : Found), OkF T lo hi st → OkF T lo hi (rounds T lo hi turn slew m i st) ∧ st.1.length ≤ (rounds T lo hi turn slew m i st).1.length := by
    intro m
    induction m with
    | zero => intro i st h; exact ⟨h, Nat.le_refl _⟩
    | succ m ih =>
      intro i st h
      unfold rounds
      split
      · rename_i hlt
        obtain ⟨a, b⟩ := roundH_ok (lo := lo) (hi := hi) (turn := turn) (slew := slew) (List.getElem?_eq_getElem hlt) h h2 h3 h4
        obtain ⟨c, d⟩ := ih (i + 1) _ a
        exact ⟨c, Nat.le_trans b d⟩
      · exact ⟨h, Nat.le_refl _⟩
  have h0 : OkF T lo hi ([((0, 0, 0), -1, 0)], none) := by
    refine ⟨by simp, ?_, ?_⟩
    · intro s hs
      simp at hs
      subst hs
      dsimp only
      omega
    · intro j s hs
      match j, hs with
      | 0, hs =>
        simp at hs
        subst hs
        dsimp only
        omega
  obtain ⟨a, b⟩ := go 2080 0 _ h0
  exact ⟨a, b⟩

set_option maxHeartbeats 2000000 in
theorem reachedBy_no (T : List Int) (A : Option Addr) (c : Nat) (lo hi turn slew : Int) (w : World) (hn : T.length ≤ 1000) (hs : SlI w A T) (he : (chkL T lo hi turn slew).2 ≠ 0) :
    Calls Try.prog 22 #[.agg #[.slice A T.length c, .int .i64 lo, .int .i64 hi, .int .i64 turn, .int .i64 slew]] w fun e w' => e = .returned (.tuple #[.slice none 0 0, .int .i64 (chkL T lo hi turn slew).2]) ∧ Below w.heap.size w w' := by
  have C := Lib.hid (fun W h => openLoop_c T A c lo hi turn slew W hn h)
  have HS := Lib.hid (hs.alloc (.cells #[.slice A T.length c, .int .i64 lo, .int .i64 hi, .int .i64 turn, .int .i64 slew] 26))
  have e1 := bneT he
  clear hs he
  generalize chkL T lo hi turn slew = CL at *
  go_enter Try.func22, Try.ntmps22
  go_wp2_with (go_at_call 79; refine (C.out _ HS.out).mono ?_; rintro e w1 ⟨rfl, hb1⟩; obtain ⟨hc1, hf1⟩ := bcell hb1; have hz1 : w.heap.size < w1.heap.size := by have := hb1.size; (try simp at this); omega)
  go_ret2
  exact ⟨rfl, by focus ((repeat first | with_reducible exact Below.refl _ _ | (with_reducible refine Below.setCell ?_ ?_ _) | (with_reducible refine Below.alloc ?_ ?_ _) | (with_reducible refine below_drewN ?_ _) | (with_reducible refine Below.drew ?_) | (with_reducible refine Below.trans ?_ (Below.mono hb1 ?_))); all_goals (first | with_reducible exact Nat.le_refl _ | omega | (simp; done) | (simp; omega) | (have := hb1.size; (try simp at this); omega) | (have := hb1.size; (try simp at this); (try simp); omega)))⟩

/-- All reached states, in order. -/
def reachL (T : List Int) (lo hi turn slew : Int) : List St3 := sortS ((found T lo hi turn slew).1.map (·.1))

set_option maxHeartbeats 4000000 in
set_option maxRecDepth 100000 in
theorem reachedBy_yes (T : List Int) (A : Option Addr) (c : Nat) (lo hi turn slew : Int) (w : World) (hs : SlI w A T) (he : (chkL T lo hi turn slew).2 = 0) :
    Calls Try.prog 22 #[.agg #[.slice A T.length c, .int .i64 lo, .int .i64 hi, .int .i64 turn, .int .i64 slew]] w fun e w' => ∃ g cap, e = .returned (.tuple #[.slice (some ⟨g, 0, none⟩) (reachL T lo hi turn slew).length cap, .int .i64 0]) ∧ SlV w' (some ⟨g, 0, none⟩) ((reachL T lo hi turn slew).flatMap st3V) ∧ Below w.heap.size w w' := by
  obtain ⟨k1, k2, k3, k4, k5, k6, k7⟩ := chkL_ok he
  obtain ⟨j0, zS, hj0, hy0, hy1, hy2, hy3⟩ := infoOk_parts info_St
  obtain ⟨hF, hpos⟩ := foundOk (turn := turn) (slew := slew) k1 k2 k3 k4.1 k5 k6
  have hlen := hF.length k1 k5.1 k6.2
  have C := Lib.hid (fun W h => openLoop_c T A c lo hi turn slew W (by omega) h)
  have R := Lib.hid (fun W h => reached_c T A c lo hi turn slew W k1 k2 h k3 k4 k5 k6 k7)
  have HS := Lib.hid (hs.alloc (.cells #[.slice A T.length c, .int .i64 lo, .int .i64 hi, .int .i64 turn, .int .i64 slew] 26))
  have RL := Lib.hid (show reachL T lo hi turn slew = sortS ((found T lo hi turn slew).1.map (·.1)) from rfl)
  have e1 := bneF he
  clear hs he k3 k2 hF
  generalize chkL T lo hi turn slew = CL at *
  generalize reachL T lo hi turn slew = L at *
  generalize found T lo hi turn slew = F at *
  obtain ⟨all, sea⟩ := F
  dsimp only at hpos hlen R RL
  have RLn := Lib.hid (show L.length = all.length by rw [RL.out, (sortS_perm _).length_eq, List.length_map])
  go_enter Try.func22, Try.ntmps22
  go_wp2_with (go_at_call 79; refine (C.out _ HS.out).mono ?_; rintro e w1 ⟨rfl, hb1⟩; obtain ⟨hc1, hf1⟩ := bcell hb1; have hz1 : w.heap.size < w1.heap.size := by have := hb1.size; (try simp at this); omega)
  go_wp2_with fail
  refine (R.out _ ((HS.out.below hb1).alloc _)).mono ?_
  rintro e w2 ⟨vA, vS, rfl, hA, hSea, hb2⟩
  clear hSea
  have hz2 : w.heap.size < w2.heap.size := by have := hb2.size; (try simp at this); omega
  have hB2 : Below w.heap.size w w2 := by focus ((repeat first | with_reducible exact Below.refl _ _ | (with_reducible refine Below.setCell ?_ ?_ _) | (with_reducible refine Below.alloc ?_ ?_ _) | (with_reducible refine below_drewN ?_ _) | (with_reducible refine Below.drew ?_) | (with_reducible refine Below.trans ?_ (Below.mono hb1 ?_)) | (with_reducible refine Below.trans ?_ (Below.mono hb2 ?_))); all_goals (first | with_reducible exact Nat.le_refl _ | omega | (simp; done) | (simp; omega) | (have := hb1.size; (try simp at this); have := hb2.size; (try simp at this); omega) | (have := hb1.size; (try simp at this); have := hb2.size; (try simp at this); (try simp); omega)))
  rcases hA.2 with ⟨_, h0⟩ | ⟨gA, capA, curA, rfl, _, hh, _⟩
  · omega
  have hAt := AllAt.of_own hA
  have hgA : gA < w2.heap.size := (Array.getElem?_eq_some_iff.1 hh).1
  clear hA hh hc1 hf1 hb1 hb2
  go_wp2_with fail
  go_loopw [8, 26] (fun o i wr => ∃ k : Nat, k ≤ all.length ∧ i = .int .i64 k ∧ wr.ownsRow w2.heap.size 42 3 o k ((all.take k).flatMap fun s => st3V s.1) ∧ Below w2.heap.size w2 wr) (fun _ i _ => all.length - (intOf i).toNat)
  case atStart => exact ⟨0, Nat.zero_le _, rfl, World.ownsRow_nil _ _ _ _, Below.refl _ _⟩
  case round =>
    obtain ⟨k, hk, rfl, hown, hB⟩ := hrel
    by_cases hlt : k < all.length
    · have hgt : all[k]? = some all[k] := List.getElem?_eq_getElem hlt
      obtain ⟨a0, a1, a2, a3, a4⟩ := (hAt.below hB hgA) k _ hgt
      have FT := Lib.hid (flat_take (fun s => st3V s.1) all k _ hgt)
      generalize all[k] = s at *
      have HG := Lib.hid hgt
      clear hgt
      have hm1 : k + 1 ≤ maxLen := by unfold maxLen; omega
      have hm2 : (k + 1) * 24 ≤ 140737488355328 := by omega
      have hsz := hB.size
      have hsz' : w2.heap.size ≤ ((wr.alloc (.cells #[.int .i64 s.1.1, .int .i64 s.1.2.1, .int .i64 s.1.2.2, .int .i64 s.2.1, .int .i64 s.2.2] 147)).alloc (.cells #[.int .i64 s.1.1, .int .i64 s.1.2.1, .int .i64 s.1.2.2] 42)).heap.size := by simp; omega
      have hnews := Lib.hid (cell_three_new (wr.alloc (.cells #[.int .i64 s.1.1, .int .i64 s.1.2.1, .int .i64 s.1.2.2, .int .i64 s.2.1, .int .i64 s.2.2] 147)) (.int .i64 s.1.1) (.int .i64 s.1.2.1) (.int .i64 s.1.2.2) 42)
      go_wp2_with (at_builtin; go_must (refine wpList_append_own _ rfl _ _ 38 rfl w2.heap.size 42 j0 zS 3 24 Try.underlying38 hj0 hy0 hy1 hy2 hy3 (by decide) _ _ _ rfl ((hown.alloc _).alloc _) ⟨wr.heap.size + 1, 0, none⟩ 1 1 [.int .i64 s.1.1, .int .i64 s.1.2.1, .int .i64 s.1.2.2] rfl rfl (by simpa using hnews.out) (by simp [Value.oneCell']) hm1 hm2 hsz' ?_); intro v' wx hown1 hgrow1 _)
      have hB1 : Below w2.heap.size w2 wx := ((hB.alloc hsz _).alloc (by simp; omega) _).grown hgrow1 hsz' (fun k e => (hown.lt k e).1)
      go_roundw
      case rel => exact ⟨k + 1, by omega, by go_num, by rw [FT.out]; exact hown1, hB1⟩
      case measure => simp [intOf] <;> omega
    · obtain rfl : k = all.length := by omega
      rcases hown.2 with ⟨_, h0⟩ | ⟨g, cap, cur, rfl, hg, hhg, _⟩
      · omega
      have hD : (all.map (·.1)).toArray.size = all.length := by simp
      have hown' : wr.ownsRow w2.heap.size 42 3 (.slice (some ⟨g, 0, none⟩) (all.map (·.1)).toArray.size cap) (all.map (·.1)).toArray.size ((all.map (·.1)).toArray.toList.flatMap st3V) := by
        rw [hD]
        have e : (all.map (·.1)).toArray.toList.flatMap st3V = (all.take all.length).flatMap fun s => st3V s.1 := by
          rw [List.take_length]; simp [List.flatMap_map]
        rw [e]
        exact hown
      have SC := Lib.hid (sort_c (all.map (·.1)).toArray g cap w2.heap.size wr hg (by rw [hD]; omega) hown')
      rw [hD] at SC
      clear hown hown' hD hhg
      go_wp2_with fail
      refine SC.out.mono ?_
      rintro e w3 ⟨rfl, hSl, hb3⟩
      go_wp2
      go_ret2
      have e2 : sortS (all.map (·.1)).toArray.toList = L := by rw [RL.out]
      rw [e2] at hSl
      exact ⟨g, cap, ret_t2 (by rw [RLn.out]; rfl) rfl, hSl, hB2.trans ((hB.trans hb3).mono (by omega))⟩

end Go.Proofs.Ytgbckdmhmkpahaa

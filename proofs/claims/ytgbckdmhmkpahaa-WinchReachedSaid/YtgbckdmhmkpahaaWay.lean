/-
  The heaves that lead to a state (chapter 2): the walk of 'way'.
-/
import Derived.Test.YtgbckdmhmkpahaaBase
import Derived.Test.YtgbckdmhmkpahaaShelf
import Derived.Shelf.Slices.Cells
set_option linter.unusedVariables false
namespace Go.Proofs.Ytgbckdmhmkpahaa
open Go.RowKit Go.Shelf

/-- How a state was reached first: the state, the index of the one before, the heave. -/
abbrev Seen := (Int × Int × Int) × Int × Int
def seenV (s : Seen) : List Value := [.int .i64 s.1.1, .int .i64 s.1.2.1, .int .i64 s.1.2.2, .int .i64 s.2.1, .int .i64 s.2.2]
/-- The cells of a list of such. -/
def AllAt (w : World) (g : Nat) (all : List Seen) : Prop := ∀ j s, all[j]? = some s → w.cell? ⟨g, j * 5, none⟩ = some (.int .i64 s.1.1) ∧ w.cell? ⟨g, j * 5 + 1, none⟩ = some (.int .i64 s.1.2.1) ∧ w.cell? ⟨g, j * 5 + 2, none⟩ = some (.int .i64 s.1.2.2) ∧ w.cell? ⟨g, j * 5 + 3, none⟩ = some (.int .i64 s.2.1) ∧ w.cell? ⟨g, j * 5 + 4, none⟩ = some (.int .i64 s.2.2)
theorem flat_get : ∀ (all : List Seen) (j : Nat) (s : Seen) (r : Nat), all[j]? = some s → r < 5 → (all.flatMap seenV)[j * 5 + r]? = (seenV s)[r]?
  | [], j, s, r, h, _ => by simp at h
  | x :: l, 0, s, r, h, hr => by
    simp at h; subst h
    rw [List.flatMap_cons, List.getElem?_append_left (by simp [seenV]; omega)]; simp
  | x :: l, j + 1, s, r, h, hr => by
    rw [List.flatMap_cons, List.getElem?_append_right (by simp [seenV]; omega)]
    have := flat_get l j s r (by simpa using h) hr
    rw [← this]; congr 1; simp [seenV]; omega
theorem flat_len : ∀ all : List Seen, (all.flatMap seenV).length = all.length * 5
  | [] => rfl
  | x :: l => by rw [List.flatMap_cons, List.length_append, flat_len l]; simp [seenV]; omega
theorem AllAt.of_own {w : World} {base : Nat} {e : TypeId} {g cap : Nat} {all : List Seen} (h : w.ownsRow base e 5 (.slice (some ⟨g, 0, none⟩) all.length cap) all.length (all.flatMap seenV)) : AllAt w g all := fun j s hj => by
  have hl : j < all.length := (List.getElem?_eq_some_iff.1 hj).1
  have c : ∀ r, r < 5 → w.cell? ⟨g, j * 5 + r, none⟩ = (seenV s)[r]? := fun r hr => (h.cellAt (j * 5 + r) (by omega)).trans (flat_get all j s r hj hr)
  exact ⟨c 0 (by omega), c 1 (by omega), c 2 (by omega), c 3 (by omega), c 4 (by omega)⟩
theorem AllAt.below {w w' : World} {g B : Nat} {all : List Seen} (h : AllAt w g all) (hb : Below B w w') (hg : g < B) : AllAt w' g all := fun j s hj => by
  obtain ⟨a, b, c, d, e⟩ := h j s hj
  exact ⟨(hb.cell (p := ⟨g, _, none⟩) hg).trans a, (hb.cell (p := ⟨g, _, none⟩) hg).trans b, (hb.cell (p := ⟨g, _, none⟩) hg).trans c, (hb.cell (p := ⟨g, _, none⟩) hg).trans d, (hb.cell (p := ⟨g, _, none⟩) hg).trans e⟩

/-- The heaves back from a state, the last one first. -/
def wayR (all : List Seen) : Nat → Nat → List Int
  | 0, _ => []
  | f + 1, i => match all[i]? with
    | none => []
    | some s => if 0 ≤ s.2.1 then s.2.2 :: wayR all f s.2.1.toNat else []
def wayL (all : List Seen) (i : Nat) : List Int := (wayR all (i + 1) i).reverse
/-- Each state is reached from an earlier one. -/
def Earlier (all : List Seen) : Prop := ∀ (j : Nat) (s : Seen), all[j]? = some s → s.2.1 < j ∧ -1 ≤ s.2.1
theorem wayR_fuel {all : List Seen} (h : Earlier all) : ∀ (i f : Nat), i < f → wayR all f i = wayR all (i + 1) i := by
  intro i
  induction i using Nat.strongRecOn with
  | _ i ih =>
    intro f hf
    cases f with
    | zero => omega
    | succ f =>
      unfold wayR
      cases hs : all[i]? with
      | none => rfl
      | some s =>
        have he := h i s hs
        by_cases h0 : 0 ≤ s.2.1
        · simp only [h0, if_true]
          rw [ih s.2.1.toNat (by omega) f (by omega), ih s.2.1.toNat (by omega) i (by omega)]
        · simp [h0]

/-- A block of another element type is no row that has grown. -/
theorem Box.grown {w w' : World} {g : Nat} {t : TypeId} {cs : Array Value} {base : Nat} {e : TypeId} {sz : Nat} {v : Value} {n : Nat} {xs : List Value} (h : Box w g t cs) (ho : w.ownsRow base e sz v n xs) (hne : t ≠ e) (hg : w.grownBy w' v.ownBlock) : Box w' g t cs := by
  refine (hg.block g h.lt fun he => ?_).trans h
  rcases ho.2 with ⟨rfl, _⟩ | ⟨k, cap, cur, rfl, _, hh, _⟩
  · simp [Value.ownBlock] at he
  · simp only [Value.ownBlock, Option.some.injEq] at he
    subst he
    rw [show w.heap[g]? = _ from h] at hh
    cases hh
    exact hne rfl
/-- A row of the call's own, its n cells written over. -/
theorem own_put {base : Nat} {e : TypeId} {g cap n : Nat} : ∀ (vs : List Value) (o : Nat) (w : World) (xs : List Value), w.ownsRow base e 1 (.slice (some ⟨g, 0, none⟩) n cap) n xs → o + vs.length = n →
    (w.setCells g o vs).ownsRow base e 1 (.slice (some ⟨g, 0, none⟩) n cap) n (xs.take o ++ vs)
  | [], o, w, xs, h, ho => by
    have := h.1
    simp only [World.setCells, List.append_nil]
    rw [List.take_of_length_le (by simp at ho; omega)]; exact h
  | v :: vs, o, w, xs, h, ho => by
    have hl := h.1
    have := own_put vs (o + 1) _ _ (h.stored o v).1 (by simp at ho; omega)
    simp only [World.setCells]
    have h2 : o < xs.length := by simp at ho; omega
    have e1 : (xs.set o v).take (o + 1) ++ vs = xs.take o ++ v :: vs := by
      have e0 : (xs.set o v).take (o + 1) = xs.take o ++ [v] := by
        apply List.ext_getElem?
        intro j
        simp only [List.getElem?_take, List.getElem?_set, List.getElem?_append, List.length_take]
        grind
      rw [e0]; simp
    rw [← e1]; exact this

theorem below_put {B g : Nat} {a : World} (hg : B ≤ g) : ∀ (vs : List Value) (o : Nat) (w : World), Below B a w → Below B a (w.setCells g o vs)
  | [], _, _, h => h
  | v :: vs, o, w, h => below_put hg vs (o + 1) _ (h.setCell (p := ⟨g, o, none⟩) hg v)
theorem own_below {W W' : World} {b : Nat} {e : TypeId} {sz : Nat} {v : Value} {n : Nat} {xs : List Value} (h : W.ownsRow b e sz v n xs) (hb : Below W.heap.size W W') : W'.ownsRow b e sz v n xs := by
  refine ⟨h.1, ?_⟩
  rcases h.2 with h2 | ⟨g, cap, cur, hv, hg, hh, r⟩
  · exact .inl h2
  · exact .inr ⟨g, cap, cur, hv, hg, (hb.block g (Array.getElem?_eq_some_iff.1 hh).1).trans hh, r⟩
theorem A.infoI : (Try.prog.info? 3).map (fun i => (i.zero, i.size, i.bytes)) = some (some (.int .i64 0), 1, 8) := by kernel_rfl

set_option maxHeartbeats 1000000 in
set_option maxRecDepth 100000 in
theorem way_c (all : List Seen) (g cap : Nat) (i : Nat) (w : World) (hi : i < all.length) (hA : AllAt w g all) (hE : Earlier all) (hg : g < w.heap.size) (hlen : all.length ≤ 1000000) :
    Calls Try.prog 133 #[.slice (some ⟨g, 0, none⟩) all.length cap, .int .i64 i] w fun e w' => ∃ v, e = .returned v ∧ w'.ownsRow w.heap.size 3 1 v (wayL all i).length ((wayL all i).map (Value.int .i64)) ∧ Below w.heap.size w w' := by
  obtain ⟨i0, hi0, hz0, hz1, hz2⟩ := info_parts A.infoI
  go_enter Try.func133, Try.ntmps133
  go_wp2
  go_loopw [1, 5] (fun p v wr => ∃ (k : Nat) (acc : List Int), k < all.length ∧ k + acc.length ≤ i ∧ p = .int .i64 k ∧ Hid (wayR all (i + 1) i = acc ++ wayR all (k + 1) k) ∧ wr.ownsRow w.heap.size 3 1 v acc.length (acc.map (Value.int .i64)) ∧ Below w.heap.size w wr)
    (fun p _ _ => (intOf p).toNat)
  case atStart => exact ⟨i, [], hi, by simp, rfl, rfl, World.ownsRow_nil _ _ _ _, Below.refl _ _⟩
  case round =>
    obtain ⟨k, acc, hk, hka, rfl, hw, hown, hB⟩ := hrel
    obtain ⟨_, _, _, o3, _⟩ := hA k all[k] (List.getElem?_eq_getElem hk)
    obtain ⟨_, _, _, c3, c4⟩ := (hA.below hB hg) k all[k] (List.getElem?_eq_getElem hk)
    have O3 := Lib.hid o3; clear o3
    have he := hE k all[k] (List.getElem?_eq_getElem hk)
    have hu : wayR all (k + 1) k = if 0 ≤ all[k].2.1 then all[k].2.2 :: wayR all k all[k].2.1.toNat else [] := by
      rw [wayR, List.getElem?_eq_getElem hk]
    have HU := Lib.hid hu
    clear hu hA
    have HE := Lib.hid hE; clear hE
    have HF := Lib.hid (fun j hj => wayR_fuel HE.out j k hj)
    generalize all[k] = s at *
    obtain ⟨s0, bf, hv⟩ := s
    dsimp only at c3 c4 he HU HF O3
    by_cases h0 : 0 ≤ bf
    · obtain ⟨b, rfl⟩ := Int.eq_ofNat_of_zero_le h0
      have hm1 : acc.length + 1 ≤ maxLen := by unfold maxLen; omega
      have hm2 : (acc.length + 1) * 8 ≤ 140737488355328 := by omega
      have hsz := hB.size
      have hsz' : w.heap.size ≤ (wr.alloc (.cells #[.int .i64 hv] 3)).heap.size := by simp; omega
      go_wp2_with (at_builtin; go_must (refine wpList_append_own _ rfl _ _ 22 rfl w.heap.size 3 i0 (.int .i64 0) 1 8 Try.underlying22 hi0 hz0 hz1 hz2 rfl (by decide) _ _ _ rfl (hown.alloc _) ⟨wr.heap.size, 0, none⟩ 1 1 [.int .i64 hv] rfl rfl (cell_one_new _ _ _) (by simp [Value.oneCell']) hm1 hm2 hsz' ?_); intro v' w1 hown1 hgrow1 _; have hB1 : Below w.heap.size w w1 := (hB.alloc hsz _).grown hgrow1 hsz' (fun k e => (hown.lt k e).1); have d3 := (hB1.cell (p := ⟨g, k * 5 + 3, none⟩) hg).trans O3.out)
      go_roundw
      case rel =>
        refine ⟨b, acc ++ [hv], by omega, by simp; omega, rfl, ?_, by simpa using hown1, hB1⟩
        unfold Hid
        rw [hw.out, HU.out, if_pos h0, List.append_assoc]
        simp only [Int.toNat_natCast, List.cons_append, List.nil_append]
        rw [HF.out b (by omega)]
      case measure => simp [intOf]; omega
    · have hr : wayR all (i + 1) i = acc := by rw [hw.out, HU.out, if_neg h0, List.append_nil]
      have HR := Lib.hid hr
      clear hr
      rcases hown.2 with ⟨rfl, hl⟩ | ⟨g', cap', cur, rfl, hbg, _⟩
      · have ha : acc = [] := by simpa using hl
        subst ha
        go_wp2_with (go_at_call 148; refine (Try.slices_Reverse_int_empty _ _ _).mono ?_; rintro e w' ⟨rfl, rfl⟩)
        go_ret
        have hz : wayL all i = [] := by unfold wayL; rw [HR.out]; rfl
        exact ⟨_, rfl, by rw [hz]; exact World.ownsRow_nil _ _ _ _, hB⟩
      · have hcell : ∀ j, j < acc.length → wr.cell? ⟨g', 0 + j, none⟩ = some (.int .i64 (acc.getD j 0)) := fun j hj => by
          rw [Nat.zero_add, hown.cellAt j (by omega)]
          simp [hj]
        have hfz : ∀ j, j < acc.length → wr.frozen? ⟨g', 0 + j, none⟩ = false := fun j _ => hown.frozenAt _
        have RC := Lib.hid (Any.slices_Reverse_int_cells Try.lays112 g' 0 acc.length cap' acc wr (Nat.le_refl _) (by omega) hcell hfz)
        clear hcell hfz
        have HO := Lib.hid hown; clear hown
        go_wp2_with fail
        refine RC.out.mono ?_
        rintro e w' ⟨rfl, q, rfl⟩
        go_wp2
        go_ret
        have hz : wayL all i = acc.reverse := by unfold wayL; rw [HR.out]
        refine ⟨_, rfl, ?_, below_put hbg _ _ _ (below_drewN hB q)⟩
        have h1 := own_put ((acc.take acc.length).reverse.map (Value.int .i64)) 0 (wr.drewN q) _ HO.out (by simp)
        rw [hz]
        simpa using h1

end Go.Proofs.Ytgbckdmhmkpahaa

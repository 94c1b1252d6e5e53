/-
  The reached states of a loop (chapter 2): the walk of 'reached', whole.
-/
import Derived.Test.YtgbckdmhmkpahaaReachC
set_option linter.unusedVariables false
namespace Go.Proofs.Ytgbckdmhmkpahaa
open Go.RowKit Go.Shelf
attribute [local go_sem] Oper.semAt_some
attribute [local go_sem] run_eqlNil run_neqNil

/-- What 'reached' finds. -/
def found (T : List Int) (lo hi turn slew : Int) : Found := rounds T lo hi turn slew 2080 0 ([((0, 0, 0), -1, 0)], none)
/-- A sea's value. -/
def SeaV (W : World) (base : Nat) (v : Value) : Option (List Int) → Prop
  | none => v = .slice none 0 0
  | some L => (∃ g cap, v = .slice (some ⟨g, 0, none⟩) L.length cap) ∧ W.ownsRow base 3 1 v L.length (L.map (Value.int .i64))

theorem leaves_marks {fn : Func} {tmps : Array Value} {R : Ending → World → Prop} {n0 : Nat} : ∀ (ds : List Nat) (W : World), MarksOk n0 W ds →
    (∀ W', W.heap.size ≤ W'.heap.size → W'.os = W.os → W'.tape = W.tape → W'.output = W.output → (∀ k o, W.heap[k]? = some o → (k < n0 + 6 ∨ o.isCells = true ∨ ∃ es c, o = .map es c) → W'.heap[k]? = some o) → ∃ v, (results fn tmps).run Try.prog W' = .ok v W' ∧ R (.returned v) W') →
    LeavesInM Fence.wide 6 Try.prog fn tmps R (ds.map mk) .returning W
  | [], W, _, h => h W (Nat.le_refl _) rfl rfl rfl (fun _ _ h _ => h)
  | D :: ds, W, hM, h => by
    have hD := (hM.2 D (by simp)).2
    have hge := (hM.2 D (by simp)).1
    refine ⟨by simp, .inl ⟨D, _, rfl, run_takeDeferred hD, ?_⟩⟩
    have hnd := List.nodup_cons.1 hM.1
    refine leaves_marks ds _ ⟨hnd.2, fun E hE => ⟨(hM.2 E (by simp [hE])).1, ?_⟩⟩ ?_
    · rw [World.putObj_heap_other (by rintro rfl; exact hnd.1 hE)]
      exact (hM.2 E (by simp [hE])).2
    · intro W' hs ho ht hu hk
      refine h W' (by simpa [World.putObj] using hs) ho ht hu (fun k o hko hor => hk k o ?_ hor)
      rw [World.putObj_heap_other]
      · exact hko
      · rintro rfl
        rw [hD] at hko
        cases hko
        rcases hor with h1 | h1 | ⟨_, _, h1⟩
        · omega
        · cases h1
        · cases h1

theorem own_keep {W W' : World} {b : Nat} {e : TypeId} {sz : Nat} {v : Value} {n : Nat} {xs : List Value} (h : W.ownsRow b e sz v n xs) (hk : ∀ (g : Nat) (o : Obj), W.heap[g]? = some o → o.isCells = true → W'.heap[g]? = some o) : W'.ownsRow b e sz v n xs := by
  refine ⟨h.1, ?_⟩
  rcases h.2 with h2 | ⟨g, cap, cur, rfl, hg, hb, r⟩
  · exact .inl h2
  · exact .inr ⟨g, cap, cur, rfl, hg, hk g _ hb rfl, r⟩
theorem own_of_box {w : World} {base g : Nat} {e : TypeId} {size n : Nat} {cs : Array Value} (h : Box w g e cs) (hb : base ≤ g) (hn : n ≤ maxLen) (hs : cs.size = n * size) : w.ownsRow base e size (.slice (some ⟨g, 0, none⟩) n n) n cs.toList :=
  ⟨by simp [hs], .inr ⟨g, n, cs, rfl, hb, h, Nat.le_refl _, hn, hs, by rw [← hs]; exact List.take_of_length_le (by simp)⟩⟩

set_option maxHeartbeats 4000000 in
set_option maxRecDepth 100000 in
theorem reached_c (T : List Int) (A : Option Addr) (c : Nat) (lo hi turn slew : Int) (w : World)
    (hT : T.length ≤ 11) (hodd : T.length % 2 = 1) (hs : SlI w A T) (hx : ∀ y ∈ T, -10 ≤ y ∧ y ≤ 10) (h1 : 0 ≤ slew ∧ slew ≤ 20) (h2 : -4 ≤ lo ∧ lo ≤ 0) (h3 : 0 ≤ hi ∧ hi ≤ 4) (h4 : 0 ≤ turn ∧ turn ≤ 8) :
    Calls Try.prog 80 #[.agg #[.slice A T.length c, .int .i64 lo, .int .i64 hi, .int .i64 turn, .int .i64 slew]] w fun e w' => ∃ vA vS, e = .returned (.tuple #[vA, vS]) ∧ w'.ownsRow w.heap.size 147 5 vA (found T lo hi turn slew).1.length ((found T lo hi turn slew).1.flatMap seenV) ∧ SeaV w' w.heap.size vS (found T lo hi turn slew).2 ∧ Below w.heap.size w w' := by
  refine callsIn_wide.1 (callsIn_of_wp_marks (n := 6) Try.func80 rfl trivial ?_ rfl)
  simp only [Try.ntmps80, List.size_toArray, List.length_cons, List.length_nil, Nat.reduceAdd, Nat.reduceSub, Array.replicate_succ, Array.replicate_zero, List.push_toArray, List.append_toArray, List.nil_append, List.cons_append]
  have hmm := @run_makeMap Try.prog
  have hp := run_put_st 0 0 0 ((((w.alloc (.cells #[.slice A T.length c, .int .i64 lo, .int .i64 hi, .int .i64 turn, .int .i64 slew] 139)).alloc (.cells #[.int .i64 0, .int .i64 0, .int .i64 0, .int .i64 (-1), .int .i64 0] 147)).alloc (.cells #[.slice (some ⟨w.heap.size + 1, 0, none⟩) 1 1] 142)).alloc (.map #[] 0)) (w.heap.size + 1 + 1 + 1) [] (StMap.madeAt _ _ (by simp)) (by simp)
  gi_upto_region 4 with fail
  gi_wp2_with (refine wpIn_loop_rounds 2080 ?_; go_must (refine outer_c T A c lo hi turn slew w.heap.size w (found T lo hi turn slew) _ hT hodd hs hx h1 h2 h3 h4 rfl ?hQ 2080 0 ([((0, 0, 0), -1, 0)], none) (w.heap.size + 6) [] _ _ _ _ _ _ _ _ _ _ _ _ _ _ _ _ _ _ _ _ _ _ _ _ _ _ _ _ _ _ _ _ _ _ _ _ _ _ _ _ _ _ _ _ _ _ _ _ _ _ _ _ _ _ _ _ _ _ _ _ _ _ _ _ _ _ _ _ _ _ ?hI ?hF (by simp) ⟨List.nodup_nil, fun _ h => nomatch h⟩ (by simp) (by omega) rfl))
  case hI =>
    clear hp hmm
    have b0 := Box.new w 139 #[.slice A T.length c, .int .i64 lo, .int .i64 hi, .int .i64 turn, .int .i64 slew]
    generalize hw1 : w.alloc (.cells #[.slice A T.length c, .int .i64 lo, .int .i64 hi, .int .i64 turn, .int .i64 slew] 139) = w1 at b0 ⊢
    have z1 : w1.heap.size = w.heap.size + 1 := by rw [← hw1]; simp
    have hB1 : Below w.heap.size w w1 := by rw [← hw1]; focus ((repeat first | with_reducible exact Below.refl _ _ | (with_reducible refine Below.setCell ?_ ?_ _) | (with_reducible refine Below.alloc ?_ ?_ _) | (with_reducible refine below_drewN ?_ _) | (with_reducible refine Below.drew ?_)); all_goals (first | with_reducible exact Nat.le_refl _ | omega | (simp; done) | (simp; omega) | (omega) | ((try simp); omega)))
    clear hw1
    have b1 := Box.newAt w1 147 #[.int .i64 0, .int .i64 0, .int .i64 0, .int .i64 (-1), .int .i64 0] (w.heap.size + 1) z1.symm
    replace b0 := b0.alloc (.cells #[.int .i64 0, .int .i64 0, .int .i64 0, .int .i64 (-1), .int .i64 0] 147)
    have hB2 : Below w.heap.size w (w1.alloc (.cells #[.int .i64 0, .int .i64 0, .int .i64 0, .int .i64 (-1), .int .i64 0] 147)) := hB1.alloc hB1.size _
    generalize hw2 : w1.alloc (.cells #[.int .i64 0, .int .i64 0, .int .i64 0, .int .i64 (-1), .int .i64 0] 147) = w2 at b0 b1 hB2 ⊢
    have z2 : w2.heap.size = w.heap.size + 2 := by rw [← hw2]; simp [z1]
    clear hw2 hB1
    have b2 := Box.newAt w2 142 #[.slice (some ⟨w.heap.size + 1, 0, none⟩) 1 1] (w.heap.size + 2) z2.symm
    replace b0 := b0.alloc (.cells #[.slice (some ⟨w.heap.size + 1, 0, none⟩) 1 1] 142)
    replace b1 := b1.alloc (.cells #[.slice (some ⟨w.heap.size + 1, 0, none⟩) 1 1] 142)
    have hB3 := hB2.alloc hB2.size (.cells #[.slice (some ⟨w.heap.size + 1, 0, none⟩) 1 1] 142)
    generalize hw3 : w2.alloc (.cells #[.slice (some ⟨w.heap.size + 1, 0, none⟩) 1 1] 142) = w3 at b0 b1 b2 hB3 ⊢
    have z3 : w3.heap.size = w.heap.size + 3 := by rw [← hw3]; simp [z2]
    clear hw3 hB2
    have m := StMap.madeAt w3 (w.heap.size + 3) z3.symm
    replace b0 := b0.alloc (.map #[] 0)
    replace b1 := b1.alloc (.map #[] 0)
    replace b2 := b2.alloc (.map #[] 0)
    have hB4 := hB3.alloc hB3.size (.map #[] 0)
    have z4 : (w3.alloc (.map #[] 0)).heap.size = w.heap.size + 4 := by simp [z3]
    generalize w3.alloc (.map #[] 0) = w4 at b0 b1 b2 m hB4 z4 ⊢
    clear hB3
    have m5 := m.put (0, 0, 0)
    have e3 : w.heap.size + 1 + 1 + 1 = w.heap.size + 3 := rfl
    rw [e3]
    generalize putSt w4 (w.heap.size + 3) (0, 0, 0) = o at m5 ⊢
    replace b0 := b0.put (b := w.heap.size + 3) (by omega) o
    replace b1 := b1.put (b := w.heap.size + 3) (by omega) o
    replace b2 := b2.put (b := w.heap.size + 3) (by omega) o
    have hB5 := below_putObj hB4 (g := w.heap.size + 3) (by omega) o
    have z5 : (w4.putObj (w.heap.size + 3) o).heap.size = w.heap.size + 4 := by simpa [World.putObj] using z4
    generalize w4.putObj (w.heap.size + 3) o = w5 at b0 b1 b2 m5 hB5 z5 ⊢
    clear hB4 m
    have b4 := Box.newAt w5 192 #[.map (some (w.heap.size + 3))] (w.heap.size + 4) z5.symm
    replace b0 := b0.alloc (.cells #[.map (some (w.heap.size + 3))] 192)
    replace b1 := b1.alloc (.cells #[.map (some (w.heap.size + 3))] 192)
    replace b2 := b2.alloc (.cells #[.map (some (w.heap.size + 3))] 192)
    replace m5 := m5.alloc (.cells #[.map (some (w.heap.size + 3))] 192)
    have hB6 := hB5.alloc hB5.size (.cells #[.map (some (w.heap.size + 3))] 192)
    have z6 : (w5.alloc (.cells #[.map (some (w.heap.size + 3))] 192)).heap.size = w.heap.size + 5 := by simp [z5]
    generalize w5.alloc (.cells #[.map (some (w.heap.size + 3))] 192) = w6 at b0 b1 b2 b4 m5 hB6 z6 ⊢
    clear hB5
    have b5 := Box.newAt w6 22 #[.slice none 0 0] (w.heap.size + 5) z6.symm
    replace b0 := b0.alloc (.cells #[.slice none 0 0] 22)
    replace b1 := b1.alloc (.cells #[.slice none 0 0] 22)
    replace b2 := b2.alloc (.cells #[.slice none 0 0] 22)
    replace b4 := b4.alloc (.cells #[.slice none 0 0] 22)
    replace m5 := m5.alloc (.cells #[.slice none 0 0] 22)
    have hB7 := hB6.alloc hB6.size (.cells #[.slice none 0 0] 22)
    have z7 : (w6.alloc (.cells #[.slice none 0 0] 22)).heap.size = w.heap.size + 6 := by simp [z6]
    generalize w6.alloc (.cells #[.slice none 0 0] 22) = w7 at b0 b1 b2 b4 b5 m5 hB7 z7 ⊢
    clear hB6
    have b6 := Box.newAt w7 3 #[.int .i64 0] (w.heap.size + 6) z7.symm
    refine ⟨b0.alloc _, ⟨_, b2.alloc _, ?_⟩, b4.alloc _, m5.alloc _, ⟨_, b5.alloc _, rfl⟩, b6, Nat.le_refl _, hB7.alloc hB7.size _⟩
    exact own_of_box (b1.alloc _) (Nat.le_refl _) (by unfold maxLen; omega) rfl
  case hF =>
    refine ⟨by simp, ?_, ?_⟩
    · intro s hs
      simp at hs
      subst hs
      dsimp only
      omega
    · intro j s hs
      match j, hs with
      | 0, hs =>
        simp at hs
        subst hs
        dsimp only
        omega
  case hQ =>
    clear hp hmm
    intro i Bi ds W t0 t2 t3 t8 t9 t10 t11 t12 t13 t14 t15 t16 t17 t18 t19 t20 t21 t22 t23 t24 t25 t26 t27 t28 t29 t30 t31 t32 t33 t34 t35 t36 t37 t38 t39 t40 t41 t42 t43 t44 t45 t46 t47 t48 t49 t50 t51 t52 t53 t54 t55 t56 t57 t58 t59 t60 t61 t62 t63 t64 t65 t66 t67 t68 t69 t70 t71 t72 t73 hI hM hne
    obtain ⟨b0, ⟨vA, bA, oA⟩, bM, mM, ⟨vS, bS, oS⟩, bI, hBi, hB⟩ := hI
    have cA := bA.cell 0; have cS := bS.cell 0
    simp at cA cS
    gi_wp2_with fail
    gi_region
    gi_wp2_with fail
    refine leaves_marks ds W.drew hM ?_
    intro W' hz ho ht hu hk
    have hcells : ∀ (g : Nat) (o : Obj), W.heap[g]? = some o → o.isCells = true → W'.heap[g]? = some o := fun g o h1 h2 => hk g o h1 (.inr (.inl h2))
    refine ⟨.tuple #[vA, vS], by simp [results, Try.results80, go_sem], vA, vS, rfl, own_base (own_keep oA hcells) (Nat.le_succ _), ?_, ?_⟩
    · cases he : (found T lo hi turn slew).2 with
      | none => rw [he] at oS; exact oS
      | some L =>
        rw [he] at oS
        obtain ⟨g, cap, e, _, o⟩ := oS
        exact ⟨⟨g, cap, e⟩, own_base (own_keep o hcells) (Nat.le_succ _)⟩
    · refine ⟨ho.trans hB.os, ht.trans hB.tape, hu.trans hB.output, Nat.le_trans hB.size hz, fun k hkl => ?_⟩
      have e := hB.block k hkl
      rw [← e]
      have hlt : k < W.heap.size := Nat.lt_of_lt_of_le hkl hB.size
      have hs : W.heap[k]? = some W.heap[k] := Array.getElem?_eq_getElem hlt
      rw [hs]
      exact hk k _ hs (.inl (by omega))

end Go.Proofs.Ytgbckdmhmkpahaa

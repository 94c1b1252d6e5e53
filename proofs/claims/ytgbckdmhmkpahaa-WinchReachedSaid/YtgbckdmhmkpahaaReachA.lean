/-
  The reached states of a loop (chapter 2): one round of the loop over heaves in the walk of 'reached'.
-/
import Derived.Test.YtgbckdmhmkpahaaLoop
import Derived.Test.YtgbckdmhmkpahaaMap
import Derived.Test.YtgbckdmhmkpahaaHeaves
import Derived.Test.YtgbckdmhmkpahaaWay
import Derived.Sort.CutIn
import Derived.Test.YtgbckdmhmkpahaaRound
import Derived.Laws.Cover3
set_option linter.unusedVariables false
namespace Go.Proofs.Ytgbckdmhmkpahaa
open Go.RowKit Go.Shelf
attribute [local go_sem] Oper.semAt_some

theorem run_nilInts (a : Option Addr) (n c : Nat) (w : World) : (Op.equal 22 (.slice a n c) (.slice none 0 0)).run Try.prog w = .ok a.isNone w := run_equal_slice_nil w 22 3 a n c Try.underlying22
theorem run_eqlNil (a : Option Addr) (n c : Nat) (w : World) : (binOp .eql 22 (.slice a n c) (.slice none 0 0)).run Try.prog w = .ok (.bool a.isNone) w := by
  simp [binOp, go_sem, run_nilInts]
theorem run_neqNil (a : Option Addr) (n c : Nat) (w : World) : (binOp .neq 22 (.slice a n c) (.slice none 0 0)).run Try.prog w = .ok (.bool (!a.isNone)) w := by
  simp [binOp, go_sem, run_nilInts]
attribute [local go_sem] run_eqlNil run_neqNil
/-- A type's size and bytes, and that its zero has as many cells. -/
def infoOk (P : Program) (t : TypeId) (size bytes : Nat) : Bool :=
  match P.info? t with
  | some i => (match i.zero with
    | some z => z.cells.size == size
    | none => false) && i.size == size && i.bytes == bytes
  | none => false
theorem infoOk_parts {P : Program} {t : TypeId} {size bytes : Nat} (h : infoOk P t size bytes = true) : ∃ i z, P.info? t = some i ∧ i.zero = some z ∧ i.size = size ∧ i.bytes = bytes ∧ z.cells.size = size := by
  unfold infoOk at h
  cases hi : P.info? t with
  | none => simp [hi] at h
  | some i =>
    simp only [hi] at h
    cases hz : i.zero with
    | none => simp [hz] at h
    | some z =>
      simp only [hz, Bool.and_eq_true, beq_iff_eq] at h
      exact ⟨i, z, rfl, hz, h.1.2, h.2, h.1.1⟩
theorem A.infoN : infoOk Try.prog 147 5 40 = true := by kernel_rfl
theorem StMap.same {w w' : World} {b : Nat} {ks : List St} (h : StMap w b ks) (e : w'.heap[b]? = w.heap[b]?) : StMap w' b ks := by
  obtain ⟨es, cl, hb, r⟩ := h
  exact ⟨es, cl, e.trans hb, r⟩
theorem cell_five_new (w : World) (a b c d e : Value) (t : TypeId) : ∀ j u, [a, b, c, d, e][j]? = some u → (w.alloc (.cells #[a, b, c, d, e] t)).cell? ((⟨w.heap.size, 0, none⟩ : Addr).add j) = some u := by
  intro j u h
  have h1 := (Box.new w t #[a, b, c, d, e]).cell j
  by_cases hj : j = 0
  · subst hj
    have h2 : a = u := by simpa using h
    subst h2
    simp [Addr.add]
  · simp only [Addr.add, Nat.zero_add, if_neg hj]
    rw [h1, ← h]
    simp
def firstRange : Code → Option Code
  | .rangeFunc _ _ _ b => some b
  | .loop c => firstRange c
  | .seq a b => match firstRange a with
    | some c => some c
    | none => firstRange b
  | .block _ c => firstRange c
  | .scope c => firstRange c
  | .cond _ a b => match firstRange a with
    | some c => some c
    | none => firstRange b
  | _ => none
noncomputable def rBody : Code := (Try.f80.body.bind firstRange).getD .skip

theorem wayR_le {all : List Seen} (h : Earlier all) : ∀ (f i : Nat), (wayR all f i).length ≤ i
  | 0, i => by simp [wayR]
  | f + 1, i => by
    rw [wayR]
    cases hs : all[i]? with
    | none => simp
    | some s =>
      have h1 := (h i s hs).1
      by_cases h0 : 0 ≤ s.2.1
      · have := wayR_le h f s.2.1.toNat
        simp [h0]; omega
      · simp [h0]
theorem wayL_le {all : List Seen} (h : Earlier all) (i : Nat) : (wayL all i).length ≤ i := by
  unfold wayL; simp; exact wayR_le h _ _
/-- What the walk has found so far: the states, and the sea that breaks the loop. -/
abbrev Found := List Seen × Option (List Int)
def stepH (T : List Int) (slew : Int) (i : Nat) (st : Found) (h : Int) : Found :=
  match st.1[i]? with
  | none => st
  | some s =>
    if nxW T slew s.1.1 s.1.2.1 h then
      (if (nxE T slew s.1.1 s.1.2.1 h, nxC T slew s.1.1 s.1.2.1, h) ∈ st.1.map (·.1) then st
       else (st.1 ++ [((nxE T slew s.1.1 s.1.2.1 h, nxC T slew s.1.1 s.1.2.1, h), (i : Int), h)], st.2))
    else
      match st.2 with
      | none => (st.1, some (wayL st.1 i ++ [h]))
      | some _ => st

def SeaOk (W : World) (n0 Bi : Nat) (v : Value) : Option (List Int) → Prop
  | none => v = .slice none 0 0
  | some L => ∃ g cap, v = .slice (some ⟨g, 0, none⟩) L.length cap ∧ g ≠ Bi ∧ W.ownsRow (n0 + 1) 3 1 v L.length (L.map (Value.int .i64))

/-- What the blocks of 'reached' hold. -/
structure RI (T : List Int) (A : Option Addr) (c : Nat) (lo hi turn slew : Int) (n0 Bi : Nat) (w0 : World) (i : Nat) (st : Found) (W : World) : Prop where
  box0 : Box W n0 139 #[.slice A T.length c, .int .i64 lo, .int .i64 hi, .int .i64 turn, .int .i64 slew]
  rowA : ∃ vA, Box W (n0 + 2) 142 #[vA] ∧ W.ownsRow (n0 + 1) 147 5 vA st.1.length (st.1.flatMap seenV)
  boxM : Box W (n0 + 4) 192 #[.map (some (n0 + 3))]
  mapM : StMap W (n0 + 3) (st.1.map (·.1))
  rowS : ∃ vS, Box W (n0 + 5) 22 #[vS] ∧ SeaOk W n0 Bi vS st.2
  boxI : Box W Bi 3 #[.int .i64 i]
  hBi : n0 + 6 ≤ Bi
  below : Below n0 w0 W

theorem SeaOk.below {W W' : World} {n0 Bi : Nat} {v : Value} {o : Option (List Int)} (h : SeaOk W n0 Bi v o) (hb : Below W.heap.size W W') : SeaOk W' n0 Bi v o := by
  cases o with
  | none => exact h
  | some L =>
    obtain ⟨g, cap, rfl, hg, ho⟩ := h
    exact ⟨g, cap, rfl, hg, ho.kept (row := none) ⟨hb.os, hb.tape, hb.output, hb.size, fun k hk _ => hb.block k hk⟩ (.inr (by simp [Value.ownBlock]))⟩
theorem RI.keep {T : List Int} {A : Option Addr} {c : Nat} {lo hi turn slew : Int} {n0 Bi : Nat} {w0 : World} {i : Nat} {st : Found} {W W' : World} (h : RI T A c lo hi turn slew n0 Bi w0 i st W) (hb : Below W.heap.size W W') : RI T A c lo hi turn slew n0 Bi w0 i st W' := by
  obtain ⟨b0, ⟨vA, bA, oA⟩, bM, mM, ⟨vS, bS, oS⟩, bI, hBi, hB⟩ := h
  exact ⟨b0.below hb b0.lt, ⟨vA, bA.below hb bA.lt, own_below oA hb⟩, bM.below hb bM.lt, mM.below hb (by obtain ⟨_, _, e, _⟩ := mM; exact (Array.getElem?_eq_some_iff.1 e).1), ⟨vS, bS.below hb bS.lt, oS.below hb⟩, bI.below hb bI.lt, hBi, hB.trans (hb.mono (by have := b0.lt; omega))⟩

/-- A round turns the blocks of the states, of the map, of the sea alone. -/
def RStep (n0 : Nat) (W W' : World) : Prop := W.heap.size ≤ W'.heap.size ∧ ∀ k, k < W.heap.size → k ≠ n0 + 2 → k ≠ n0 + 3 → k ≠ n0 + 5 → (∀ cs f, W.heap[k]? ≠ some (.cells cs 147 f)) → W'.heap[k]? = W.heap[k]?
theorem RStep.of_below {n0 : Nat} {W W' : World} (hb : Below W.heap.size W W') : RStep n0 W W' := ⟨hb.size, fun k hk _ _ _ _ => hb.block k hk⟩
theorem RStep.trans {n0 : Nat} {X Y Z : World} (h : RStep n0 X Y) (k : RStep n0 Y Z) : RStep n0 X Z :=
  ⟨Nat.le_trans h.1 k.1, fun j hj h2 h3 h5 hn => by
    have e := h.2 j hj h2 h3 h5 hn
    exact (k.2 j (Nat.lt_of_lt_of_le hj h.1) h2 h3 h5 (by rw [e]; exact hn)).trans e⟩
theorem RStep.setCell {n0 : Nat} (W : World) (p : Addr) (u : Value) (hp : p.block = n0 + 2 ∨ p.block = n0 + 5) : RStep n0 W (W.setCell p u) :=
  ⟨by simp [World.setCell], fun k _ h2 _ h5 _ => Below.heap_setCell W p u k (by rintro rfl; omega)⟩
theorem RStep.putObj {n0 : Nat} (W : World) (o : Obj) : RStep n0 W (W.putObj (n0 + 3) o) :=
  ⟨by simp [World.putObj], fun k _ _ h3 _ _ => World.putObj_heap_other h3⟩
theorem RStep.grown {n0 : Nat} {W W' : World} {row : Option Nat} (hg : W.grownBy W' row) (hr : ∀ g, row = some g → ∃ cs f, W.heap[g]? = some (.cells cs 147 f)) : RStep n0 W W' :=
  ⟨hg.size, fun k hk _ _ _ hn => hg.block k hk (fun e => by obtain ⟨cs, f, hh⟩ := hr k e.symm; exact hn cs f hh)⟩

theorem own_same {W W' : World} {b : Nat} {e : TypeId} {sz : Nat} {v : Value} {n : Nat} {xs : List Value} (h : W.ownsRow b e sz v n xs) (hh : ∀ g, v.ownBlock = some g → W'.heap[g]? = W.heap[g]?) : W'.ownsRow b e sz v n xs := by
  refine ⟨h.1, ?_⟩
  rcases h.2 with h2 | ⟨g, cap, cur, rfl, hg, hb, r⟩
  · exact .inl h2
  · exact .inr ⟨g, cap, cur, rfl, hg, (hh g rfl).trans hb, r⟩
theorem own_pos {W : World} {b : Nat} {e : TypeId} {sz : Nat} {v : Value} {n : Nat} {xs : List Value} (h : W.ownsRow b e sz v n xs) (hn : 0 < n) (hs : 0 < sz) : ∃ g cap, v = .slice (some ⟨g, 0, none⟩) n cap ∧ b ≤ g ∧ g < W.heap.size := by
  have hl := h.1
  rcases h.2 with ⟨_, hz⟩ | ⟨g, cap, cur, rfl, hg, hh, _⟩
  · subst hz
    simp at hl
    rcases hl with hl | hl <;> omega
  · exact ⟨g, cap, rfl, hg, (Array.getElem?_eq_some_iff.1 hh).1⟩
theorem own_base {W : World} {b b' : Nat} {e : TypeId} {sz : Nat} {v : Value} {n : Nat} {xs : List Value} (h : W.ownsRow b e sz v n xs) (hb : b' ≤ b) : W.ownsRow b' e sz v n xs := by
  refine ⟨h.1, ?_⟩
  rcases h.2 with h2 | ⟨g, cap, cur, rfl, hg, r⟩
  · exact .inl h2
  · exact .inr ⟨g, cap, cur, rfl, Nat.le_trans hb hg, r⟩
theorem own_ne {W : World} {b : Nat} {e : TypeId} {sz : Nat} {v : Value} {n : Nat} {xs : List Value} (h : W.ownsRow b e sz v n xs) {k : Nat} {o : Option Obj} (hk : W.heap[k]? = o) (hne : ∀ cs f, o ≠ some (.cells cs e f)) : ∀ g, v.ownBlock = some g → g ≠ k := by
  intro g hg e1
  subst e1
  rcases h.2 with ⟨rfl, _⟩ | ⟨k, cap, cur, rfl, _, hh, _⟩
  · simp [Value.ownBlock] at hg
  · simp only [Value.ownBlock, Option.some.injEq] at hg
    subst hg
    rw [hh] at hk
    exact hne _ _ hk.symm
theorem own_setCell {W : World} {b : Nat} {e : TypeId} {sz : Nat} {v : Value} {n : Nat} {xs : List Value} (h : W.ownsRow b e sz v n xs) {k : Nat} {t : TypeId} {cs : Array Value} (hk : Box W k t cs) (hne : t ≠ e) (u : Value) : (W.setCell ⟨k, 0, none⟩ u).ownsRow b e sz v n xs :=
  own_same h fun g hg => Below.heap_setCell W ⟨k, 0, none⟩ u g (fun e1 => own_ne h (show W.heap[k]? = _ from hk) (by rintro _ _ ⟨⟩; exact hne rfl) g hg e1)
theorem RI.sea {T : List Int} {A : Option Addr} {c : Nat} {lo hi turn slew : Int} {n0 Bi : Nat} {w0 : World} {i : Nat} {st : Found} {W : World} (h : RI T A c lo hi turn slew n0 Bi w0 i st W) (v : Value) (o : Option (List Int)) (hv : SeaOk W n0 Bi v o) : RI T A c lo hi turn slew n0 Bi w0 i (st.1, o) (W.setCell ⟨n0 + 5, 0, none⟩ v) := by
  obtain ⟨b0, ⟨vA, bA, oA⟩, bM, mM, ⟨vS, bS, oS⟩, bI, hBi, hB⟩ := h
  have l0 := b0.lt; have l2 := bA.lt; have l4 := bM.lt; have l5 := bS.lt; have lI := bI.lt
  refine ⟨by focus (apply Box.via; apply Exists.intro; apply And.intro; (repeat first | with_reducible assumption | with_reducible exact Box.new _ _ _ | ((with_reducible apply Box.newAt); focus (simp; done)) | (with_reducible apply Box.drew) | (with_reducible apply Box.drewN) | (with_reducible apply Box.set) | (with_reducible apply Box.alloc) | (with_reducible apply Box.far)); all_goals (first | with_reducible exact Nat.le_refl _ | omega | (simp; done) | (simp; omega) | (omega) | ((try simp); omega))), ⟨vA, by focus (apply Box.via; apply Exists.intro; apply And.intro; (repeat first | with_reducible assumption | with_reducible exact Box.new _ _ _ | ((with_reducible apply Box.newAt); focus (simp; done)) | (with_reducible apply Box.drew) | (with_reducible apply Box.drewN) | (with_reducible apply Box.set) | (with_reducible apply Box.alloc) | (with_reducible apply Box.far)); all_goals (first | with_reducible exact Nat.le_refl _ | omega | (simp; done) | (simp; omega) | (omega) | ((try simp); omega))), own_setCell oA bS (by decide) v⟩, by focus (apply Box.via; apply Exists.intro; apply And.intro; (repeat first | with_reducible assumption | with_reducible exact Box.new _ _ _ | ((with_reducible apply Box.newAt); focus (simp; done)) | (with_reducible apply Box.drew) | (with_reducible apply Box.drewN) | (with_reducible apply Box.set) | (with_reducible apply Box.alloc) | (with_reducible apply Box.far)); all_goals (first | with_reducible exact Nat.le_refl _ | omega | (simp; done) | (simp; omega) | (omega) | ((try simp); omega))), mM.setCell _ _, ⟨v, by focus (apply Box.via; apply Exists.intro; apply And.intro; (repeat first | with_reducible assumption | with_reducible exact Box.new _ _ _ | ((with_reducible apply Box.newAt); focus (simp; done)) | (with_reducible apply Box.drew) | (with_reducible apply Box.drewN) | (with_reducible apply Box.set) | (with_reducible apply Box.alloc) | (with_reducible apply Box.far)); all_goals (first | with_reducible exact Nat.le_refl _ | omega | (simp; done) | (simp; omega) | (omega) | ((try simp); omega))), ?_⟩, by focus (apply Box.via; apply Exists.intro; apply And.intro; (repeat first | with_reducible assumption | with_reducible exact Box.new _ _ _ | ((with_reducible apply Box.newAt); focus (simp; done)) | (with_reducible apply Box.drew) | (with_reducible apply Box.drewN) | (with_reducible apply Box.set) | (with_reducible apply Box.alloc) | (with_reducible apply Box.far)); all_goals (first | with_reducible exact Nat.le_refl _ | omega | (simp; done) | (simp; omega) | (omega) | ((try simp); omega))), hBi, hB.setCell (p := ⟨n0 + 5, 0, none⟩) (by show n0 ≤ n0 + 5; omega) _⟩
  cases o with
  | none => exact hv
  | some L =>
    obtain ⟨g, cap, rfl, hg, ho⟩ := hv
    exact ⟨g, cap, rfl, hg, own_setCell ho bS (by decide) _⟩

theorem cell_putObj {W : World} {b k : Nat} (o : Obj) (h : k ≠ b) (j : Nat) : (W.putObj b o).cell? ⟨k, j, none⟩ = W.cell? ⟨k, j, none⟩ := by
  have := World.putObj_heap_other (w := W) (o := o) h
  simp only [World.cell?, this]
theorem froz_putObj {W : World} {b k : Nat} (o : Obj) (h : k ≠ b) (j : Nat) : (W.putObj b o).frozen? ⟨k, j, none⟩ = W.frozen? ⟨k, j, none⟩ := by
  have := World.putObj_heap_other (w := W) (o := o) h
  simp only [World.frozen?, this]
theorem Box.put {W : World} {b g : Nat} {t : TypeId} {cs : Array Value} (h : Box W g t cs) (hb : g ≠ b) (o : Obj) : Box (W.putObj b o) g t cs := (World.putObj_heap_other hb).trans h
theorem below_putObj {B g : Nat} {a w : World} (h : Below B a w) (hg : B ≤ g) (o : Obj) : Below B a (w.putObj g o) :=
  ⟨h.os, h.tape, h.output, by simpa [World.putObj] using h.size, fun k hk => (World.putObj_heap_other (by omega)).trans (h.block k hk)⟩
theorem RI.found {T : List Int} {A : Option Addr} {c : Nat} {lo hi turn slew : Int} {n0 Bi : Nat} {w0 : World} {i : Nat} {st : Found} {W W' : World} (h : RI T A c lo hi turn slew n0 Bi w0 i st W) (s : Seen)
    (hH : ∀ k, k < W.heap.size → k ≠ n0 + 3 → k ≠ n0 + 2 → (∀ cs f, W.heap[k]? ≠ some (.cells cs 147 f)) → W'.heap[k]? = W.heap[k]?)
    (hA : ∃ vA, Box W' (n0 + 2) 142 #[vA] ∧ W'.ownsRow (n0 + 1) 147 5 vA (st.1.length + 1) (st.1.flatMap seenV ++ seenV s))
    (hM : StMap W' (n0 + 3) (st.1.map (·.1) ++ [s.1])) (hB : Below n0 w0 W') : RI T A c lo hi turn slew n0 Bi w0 i (st.1 ++ [s], st.2) W' := by
  obtain ⟨b0, ⟨vA0, bA0, _⟩, bM, mM, ⟨vS, bS, oS⟩, bI, hBi, _⟩ := h
  have l0 := b0.lt; have l4 := bM.lt; have l5 := bS.lt; have lI := bI.lt
  obtain ⟨vA, bA', oA'⟩ := hA
  have hbox : ∀ {g : Nat} {t : TypeId} {cs : Array Value}, Box W g t cs → t ≠ 147 → g ≠ n0 + 3 → g ≠ n0 + 2 → Box W' g t cs := fun hb ht h3 h2 =>
    (hH _ hb.lt h3 h2 (fun cs f e => by rw [show W.heap[_]? = _ from hb] at e; cases e; exact ht rfl)).trans hb
  refine ⟨hbox b0 (by decide) (by omega) (by omega), ⟨vA, bA', by simpa using oA'⟩, hbox bM (by decide) (by omega) (by omega), by simpa using hM, ⟨vS, hbox bS (by decide) (by omega) (by omega), ?_⟩, hbox bI (by decide) (by omega) (by omega), hBi, hB⟩
  cases ho : st.2 with
  | none => rw [ho] at oS; exact oS
  | some L =>
    rw [ho] at oS
    obtain ⟨g, cap, rfl, hg, o⟩ := oS
    refine ⟨g, cap, rfl, hg, own_same o fun g' hg' => ?_⟩
    rcases o.2 with ⟨e, _⟩ | ⟨k, cap', cur, e, _, hh, _⟩
    · cases e
    · cases e
      simp only [Value.ownBlock, Option.some.injEq] at hg'
      subst hg'
      refine hH _ (Array.getElem?_eq_some_iff.1 hh).1 ?_ ?_ ?_
      · rintro rfl
        obtain ⟨_, _, hm, _⟩ := mM
        rw [hm] at hh; cases hh
      · rintro rfl
        rw [show W.heap[_]? = _ from bA0] at hh; cases hh
      · intro cs f e2
        rw [hh] at e2; cases e2

set_option maxHeartbeats 20000000 in
set_option maxRecDepth 100000 in
theorem round_c (T : List Int) (A : Option Addr) (c : Nat) (lo hi turn slew : Int) (n0 Bi i l m : Nat) (w0 W : World) (st : Found) (x : Int) (s : Seen) (Q : Exit → Act → World → Prop)
    (t0 t2 t3 t9 t10 t11 t12 t13 t14 t15 t16 t17 t18 t19 t20 t21 t22 t23 t24 t25 t26 t27 t28 t29 t30 t31 t32 t33 t34 t35 t36 t37 t38 t39 t40 t41 t42 t43 t44 t45 t46 t47 t48 t49 t50 t51 t52 t53 t54 t55 t56 t57 t58 t59 t60 t61 t62 t63 t64 t65 t66 t67 t68 t69 t70 t71 t72 t73 : Value)
    (hT : T.length ≤ 1000) (hs : SlI w0 A T) (hx : ∀ y ∈ T, -1000 ≤ y ∧ y ≤ 1000) (h1 : -1000 ≤ slew ∧ slew ≤ 1000) (h3 : -1000 ≤ x ∧ x ≤ 1000)
    (hn0 : w0.heap.size = n0) (hI : RI T A c lo hi turn slew n0 Bi w0 i st W) (hsi : st.1[i]? = some s) (h2 : -1000 ≤ s.1.2.1 ∧ s.1.2.1 ≤ 1000) (h4 : 0 ≤ s.1.1 + (T.length / 2 : Nat)) (h5 : s.1.1 + (T.length / 2 : Nat) < T.length)
    (hE : Earlier st.1) (hlen : st.1.length ≤ 1000000)
    (hQ : ∀ a' W', RStep n0 W W' → RI T A c lo hi turn slew n0 Bi w0 i (stepH T slew i st x) W' → Q .normal a' W') :
    rBody.wpIn (Fence.wide.inRound l) m Try.prog Q ⟨#[t0, Value.pointer (some ⟨n0, 0, none⟩), t2, t3, Value.pointer (some ⟨n0 + 2, 0, none⟩), Value.pointer (some ⟨n0 + 4, 0, none⟩), Value.pointer (some ⟨n0 + 5, 0, none⟩), Value.pointer (some ⟨Bi, 0, none⟩), Value.int .i64 x, t9, t10, t11, t12, t13, t14, t15, t16, t17, t18, t19, t20, t21, t22, t23, t24, t25, t26, t27, t28, t29, t30, t31, t32, t33, t34, t35, t36, t37, t38, t39, t40, t41, t42, t43, t44, t45, t46, t47, t48, t49, t50, t51, t52, t53, t54, t55, t56, t57, t58, t59, t60, t61, t62, t63, t64, t65, t66, t67, t68, t69, t70, t71, t72, t73], []⟩ W := by
  obtain ⟨⟨er, cm, hv⟩, bf, hh⟩ := s
  dsimp only at h2 h4 h5
  conv => arg 4; whnf
  dsimp only
  have hq := hI
  obtain ⟨b0, ⟨vA, bA, oA⟩, bM, mM, ⟨vS, bS, oS⟩, bI, hBi, hB⟩ := hq
  have hil : i < st.1.length := (List.getElem?_eq_some_iff.1 hsi).1
  rcases oA.2 with ⟨_, hz⟩ | ⟨gA, capA, curA, rfl, hgA, hhA, hcapA, _⟩
  · omega
  obtain ⟨a0, a1, a2, a3, a4⟩ := AllAt.of_own oA i _ hsi
  dsimp only at a0 a1 a2 a3 a4
  have c00 := b0.cell 0; have c01 := b0.cell 1; have c02 := b0.cell 2; have c03 := b0.cell 3; have c04 := b0.cell 4
  have cA := bA.cell 0; have cM := bM.cell 0; have cS := bS.cell 0; have cI := bI.cell 0
  simp at c00 c01 c02 c03 c04 cA cM cS cI
  have N := Lib.hid (fun V hV => next_c T A c lo hi turn slew er cm hv x V hT hV hx h1 h2 h3 h4 h5)
  have hSl : SlI W A T := hs.below (by rw [hn0]; exact hB)
  have hmx := mixed
  have l0 := b0.lt; have l2 := bA.lt; have l4 := bM.lt; have l5 := bS.lt; have lI := bI.lt
  have lA : gA < W.heap.size := (Array.getElem?_eq_some_iff.1 hhA).1
  have hw1 : ∀ g, Fence.wide.fn g := fun _ => trivial
  have hw2 : Fence.wide.depth.isSome = false := rfl
  gi_upto_region 9 with fail
  gi_cut [9, 10] from 30 (fun s9 s10 wx => ∃ Bs : Nat, s9 = .pointer (some ⟨Bs, 0, none⟩) ∧ s10 = .bool (nxW T slew er cm x) ∧ Box wx Bs 42 #[.int .i64 (nxE T slew er cm x), .int .i64 (nxC T slew er cm), .int .i64 x] ∧ Below W.heap.size W wx)
  case first =>
    refine region_inRound (fun W' => Below W.heap.size W W') rfl (by kernel_rfl) ?_ (show Below _ W W.drew from by focus ((repeat first | with_reducible exact Below.refl _ _ | (with_reducible refine Below.setCell ?_ ?_ _) | (with_reducible refine Below.alloc ?_ ?_ _) | (with_reducible refine below_drewN ?_ _) | (with_reducible refine Below.drew ?_)); all_goals (first | with_reducible exact Nat.le_refl _ | omega | (simp; done) | (simp; omega) | (omega) | ((try simp); omega))))
    intro R hR hS0
    refine wpAnyH_take (i := 0) rfl (by kernel_rfl) (by kernel_rfl) (by kernel_rfl) (fun _ _ _ h => nomatch h.1) (v := .agg #[.slice A T.length c, .int .i64 lo, .int .i64 hi, .int .i64 turn, .int .i64 slew]) (.inl ⟨by kernel_rfl, fun w' hS => ?y0⟩) hS0 ?_
    case y0 => obtain ⟨hc', hf'⟩ := bcell hS; go_simp
    refine wpAnyH_take (i := 1) rfl (by kernel_rfl) (by kernel_rfl) (by kernel_rfl) (fun _ _ _ h => nomatch h.1) (v := ?v1) (.inl ⟨by kernel_rfl, fun w' hS => ?y1⟩) hS0 ?_
    case y1 => obtain ⟨hc', hf'⟩ := bcell hS; go_simp; exact rfl
    refine wpAnyH_take (i := 2) rfl (by kernel_rfl) (by kernel_rfl) (by kernel_rfl) (fun _ _ _ h => nomatch h.1) (v := ?v2) (.inl ⟨by kernel_rfl, fun w' hS => ?y2⟩) hS0 ?_
    case y2 => obtain ⟨hc', hf'⟩ := bcell hS; go_simp; exact rfl
    refine wpAnyH_take (i := 3) rfl (by kernel_rfl) (by kernel_rfl) (by kernel_rfl) (fun _ _ _ h => nomatch h.1) (v := ?v3) (.inl ⟨by kernel_rfl, fun w' hS => ?y3⟩) hS0 ?_
    case y3 => obtain ⟨hc', hf'⟩ := bcell hS; go_simp; exact rfl
    refine wpAnyH_take (i := 4) rfl (by kernel_rfl) (by kernel_rfl) (by kernel_rfl) (fun _ _ _ h => nomatch h.1) (v := ?v4) (.inl ⟨by kernel_rfl, fun w' hS => ?y4⟩) hS0 ?_
    case y4 => obtain ⟨hc', hf'⟩ := bcell hS; go_simp; exact rfl
    refine wpAnyH_take (i := 5) rfl (by kernel_rfl) (by kernel_rfl) (by kernel_rfl) (fun _ _ _ h => nomatch h.1) (v := ?v5) (.inl ⟨by kernel_rfl, fun w' hS => ?y5⟩) hS0 ?_
    case y5 => obtain ⟨hc', hf'⟩ := bcell hS; go_simp; exact rfl
    refine wpAnyH_take (i := 6) rfl (by kernel_rfl) (by kernel_rfl) (by kernel_rfl) (fun _ _ _ h => nomatch h.1) (v := ?v6) (.inl ⟨by kernel_rfl, fun w' hS => ?y6⟩) hS0 ?_
    case y6 => obtain ⟨hc', hf'⟩ := bcell hS; go_simp; exact rfl
    refine wpAnyH_all (rs := [7, 11]) (by kernel_rfl) (by simp) ?_
    intro i hi
    simp only [List.mem_cons, List.not_mem_nil, or_false] at hi
    rcases hi with rfl | rfl
    · refine wpOp_run rfl (by kernel_rfl) ?_
      intro K hK
      go_simp
      go_at_call 118
      refine (N.out _ (hSl.below (by focus ((repeat first | with_reducible exact Below.refl _ _ | (with_reducible refine Below.setCell ?_ ?_ _) | (with_reducible refine Below.alloc ?_ ?_ _) | (with_reducible refine below_drewN ?_ _) | (with_reducible refine Below.drew ?_)); all_goals (first | with_reducible exact Nat.le_refl _ | omega | (simp; done) | (simp; omega) | (omega) | ((try simp); omega)))))).mono ?_
      rintro e w1 ⟨rfl, hb1⟩
      obtain ⟨hc1, hf1⟩ := bcell hb1
      have hz1 : W.heap.size ≤ w1.heap.size := (by have := hb1.size; (try simp at this); omega)
      have hS1 : Below W.heap.size W w1 := by focus ((repeat first | with_reducible exact Below.refl _ _ | (with_reducible refine Below.setCell ?_ ?_ _) | (with_reducible refine Below.alloc ?_ ?_ _) | (with_reducible refine below_drewN ?_ _) | (with_reducible refine Below.drew ?_) | (with_reducible refine Below.trans ?_ (Below.mono hb1 ?_))); all_goals (first | with_reducible exact Nat.le_refl _ | omega | (simp; done) | (simp; omega) | (have := hb1.size; (try simp at this); omega) | (have := hb1.size; (try simp at this); (try simp); omega)))
      go_simp
      refine hK _ _ ⟨hS1, ?_⟩
      clear hK K
      refine wpAnyH_take (i := 8) rfl (by kernel_rfl) (by kernel_rfl) (by kernel_rfl) (fun _ _ _ h => nomatch h.1) (v := ?v8) (.inl ⟨by kernel_rfl, fun w' hS => ?y8⟩) hS1 ?_
      case y8 => obtain ⟨hc', hf'⟩ := bcell hS; go_simp; exact rfl
      refine wpAnyH_take (i := 9) rfl (by kernel_rfl) (by kernel_rfl) (by kernel_rfl) (fun _ _ _ h => nomatch h.1) (v := ?v9) (.inl ⟨by kernel_rfl, fun w' hS => ?y9⟩) hS1 ?_
      case y9 => obtain ⟨hc', hf'⟩ := bcell hS; go_simp; exact rfl
      refine wpAnyH_take (i := 10) rfl (by kernel_rfl) (by kernel_rfl) (by kernel_rfl) (fun _ _ _ h => nomatch h.1) (v := ?v10) (.inl ⟨by kernel_rfl, fun w' hS => ?y10⟩) hS1 ?_
      case y10 => obtain ⟨hc', hf'⟩ := bcell hS; go_simp; exact rfl
      refine wpAnyH_all (rs := [11]) (by kernel_rfl) (by simp) ?_
      intro i hi
      simp only [List.mem_cons, List.not_mem_nil, or_false] at hi
      subst hi
      refine wpOp_run rfl (by kernel_rfl) ?_
      intro K hK
      go_simp
      refine hK _ _ ⟨by focus ((repeat first | with_reducible exact Below.refl _ _ | (with_reducible refine Below.setCell ?_ ?_ _) | (with_reducible refine Below.alloc ?_ ?_ _) | (with_reducible refine below_drewN ?_ _) | (with_reducible refine Below.drew ?_) | (with_reducible refine Below.trans ?_ (Below.mono hb1 ?_))); all_goals (first | with_reducible exact Nat.le_refl _ | omega | (simp; done) | (simp; omega) | (have := hb1.size; (try simp at this); omega) | (have := hb1.size; (try simp at this); (try simp); omega))), ?_⟩
      clear hK K
      refine wpAnyH_all (rs := [12]) (by kernel_rfl) (by simp) ?_
      intro i hi
      simp only [List.mem_cons, List.not_mem_nil, or_false] at hi
      subst hi
      refine wpOp_run rfl (by kernel_rfl) ?_
      intro K hK
      go_simp
      refine hK _ _ (and_use (by focus ((repeat first | with_reducible exact Below.refl _ _ | (with_reducible refine Below.setCell ?_ ?_ _) | (with_reducible refine Below.alloc ?_ ?_ _) | (with_reducible refine below_drewN ?_ _) | (with_reducible refine Below.drew ?_) | (with_reducible refine Below.trans ?_ (Below.mono hb1 ?_))); all_goals (first | with_reducible exact Nat.le_refl _ | omega | (simp; done) | (simp; omega) | (have := hb1.size; (try simp at this); omega) | (have := hb1.size; (try simp at this); (try simp); omega)))) (fun hS2 => ?_))
      clear hK K
      refine wpAnyH_take (i := 13) rfl (by kernel_rfl) (by kernel_rfl) (by kernel_rfl) (fun _ _ _ h => nomatch h.1) (v := ?v13) (.inl ⟨by kernel_rfl, fun w' hS => ?y13⟩) hS2 ?_
      case y13 => obtain ⟨hc', hf'⟩ := bcell hS; go_simp; exact rfl
      refine wpAnyH_done (by kernel_rfl) ⟨rfl, hR _ _ ?_⟩ _
      go_simp
      gi_wp2_with fail
      gi_meet
      exact ⟨_, rfl, rfl, by focus (apply Box.via; apply Exists.intro; apply And.intro; (repeat first | with_reducible assumption | with_reducible exact Box.new _ _ _ | ((with_reducible apply Box.newAt); focus (simp; done)) | (with_reducible apply Box.drew) | (with_reducible apply Box.drewN) | (with_reducible apply Box.set) | (with_reducible apply Box.alloc) | (with_reducible apply Box.far) | (with_reducible apply Box.below (hb := hb1))); all_goals (first | with_reducible exact Nat.le_refl _ | omega | (simp; done) | (simp; omega) | (have := hb1.size; (try simp at this); omega) | (have := hb1.size; (try simp at this); (try simp); omega))), by focus ((repeat first | with_reducible exact Below.refl _ _ | (with_reducible refine Below.setCell ?_ ?_ _) | (with_reducible refine Below.alloc ?_ ?_ _) | (with_reducible refine below_drewN ?_ _) | (with_reducible refine Below.drew ?_) | (with_reducible refine Below.trans ?_ (Below.mono hb1 ?_))); all_goals (first | with_reducible exact Nat.le_refl _ | omega | (simp; done) | (simp; omega) | (have := hb1.size; (try simp at this); omega) | (have := hb1.size; (try simp at this); (try simp); omega)))⟩
    · refine wpOp_run rfl (by kernel_rfl) ?_
      intro K hK
      go_simp
      refine hK _ _ (and_use (by focus ((repeat first | with_reducible exact Below.refl _ _ | (with_reducible refine Below.setCell ?_ ?_ _) | (with_reducible refine Below.alloc ?_ ?_ _) | (with_reducible refine below_drewN ?_ _) | (with_reducible refine Below.drew ?_)); all_goals (first | with_reducible exact Nat.le_refl _ | omega | (simp; done) | (simp; omega) | (omega) | ((try simp); omega)))) (fun hS0 => ?_))
      clear hK K
      refine wpAnyH_all (rs := [7]) (by kernel_rfl) (by simp) ?_
      intro i hi
      simp only [List.mem_cons, List.not_mem_nil, or_false] at hi
      subst hi
      refine wpOp_run rfl (by kernel_rfl) ?_
      intro K hK
      go_simp
      go_at_call 118
      refine (N.out _ (hSl.below (by focus ((repeat first | with_reducible exact Below.refl _ _ | (with_reducible refine Below.setCell ?_ ?_ _) | (with_reducible refine Below.alloc ?_ ?_ _) | (with_reducible refine below_drewN ?_ _) | (with_reducible refine Below.drew ?_)); all_goals (first | with_reducible exact Nat.le_refl _ | omega | (simp; done) | (simp; omega) | (omega) | ((try simp); omega)))))).mono ?_
      rintro e w1 ⟨rfl, hb1⟩
      obtain ⟨hc1, hf1⟩ := bcell hb1
      have hz1 : W.heap.size ≤ w1.heap.size := (by have := hb1.size; (try simp at this); omega)
      have hS1 : Below W.heap.size W w1 := by focus ((repeat first | with_reducible exact Below.refl _ _ | (with_reducible refine Below.setCell ?_ ?_ _) | (with_reducible refine Below.alloc ?_ ?_ _) | (with_reducible refine below_drewN ?_ _) | (with_reducible refine Below.drew ?_) | (with_reducible refine Below.trans ?_ (Below.mono hb1 ?_))); all_goals (first | with_reducible exact Nat.le_refl _ | omega | (simp; done) | (simp; omega) | (have := hb1.size; (try simp at this); omega) | (have := hb1.size; (try simp at this); (try simp); omega)))
      go_simp
      refine hK _ _ ⟨hS1, ?_⟩
      clear hK K
      refine wpAnyH_take (i := 8) rfl (by kernel_rfl) (by kernel_rfl) (by kernel_rfl) (fun _ _ _ h => nomatch h.1) (v := ?v8b) (.inl ⟨by kernel_rfl, fun w' hS => ?y8b⟩) hS1 ?_
      case y8b => obtain ⟨hc', hf'⟩ := bcell hS; go_simp; exact rfl
      refine wpAnyH_take (i := 9) rfl (by kernel_rfl) (by kernel_rfl) (by kernel_rfl) (fun _ _ _ h => nomatch h.1) (v := ?v9b) (.inl ⟨by kernel_rfl, fun w' hS => ?y9b⟩) hS1 ?_
      case y9b => obtain ⟨hc', hf'⟩ := bcell hS; go_simp; exact rfl
      refine wpAnyH_take (i := 10) rfl (by kernel_rfl) (by kernel_rfl) (by kernel_rfl) (fun _ _ _ h => nomatch h.1) (v := ?v10b) (.inl ⟨by kernel_rfl, fun w' hS => ?y10b⟩) hS1 ?_
      case y10b => obtain ⟨hc', hf'⟩ := bcell hS; go_simp; exact rfl
      refine wpAnyH_all (rs := [12]) (by kernel_rfl) (by simp) ?_
      intro i hi
      simp only [List.mem_cons, List.not_mem_nil, or_false] at hi
      subst hi
      refine wpOp_run rfl (by kernel_rfl) ?_
      intro K hK
      go_simp
      refine hK _ _ (and_use (by focus ((repeat first | with_reducible exact Below.refl _ _ | (with_reducible refine Below.setCell ?_ ?_ _) | (with_reducible refine Below.alloc ?_ ?_ _) | (with_reducible refine below_drewN ?_ _) | (with_reducible refine Below.drew ?_) | (with_reducible refine Below.trans ?_ (Below.mono hb1 ?_))); all_goals (first | with_reducible exact Nat.le_refl _ | omega | (simp; done) | (simp; omega) | (have := hb1.size; (try simp at this); omega) | (have := hb1.size; (try simp at this); (try simp); omega)))) (fun hS2 => ?_))
      clear hK K
      refine wpAnyH_take (i := 13) rfl (by kernel_rfl) (by kernel_rfl) (by kernel_rfl) (fun _ _ _ h => nomatch h.1) (v := ?v13b) (.inl ⟨by kernel_rfl, fun w' hS => ?y13b⟩) hS2 ?_
      case y13b => obtain ⟨hc', hf'⟩ := bcell hS; go_simp; exact rfl
      refine wpAnyH_done (by kernel_rfl) ⟨rfl, hR _ _ ?_⟩ _
      go_simp
      gi_wp2_with fail
      gi_meet
      exact ⟨_, rfl, rfl, by focus (apply Box.via; apply Exists.intro; apply And.intro; (repeat first | with_reducible assumption | with_reducible exact Box.new _ _ _ | ((with_reducible apply Box.newAt); focus (simp; done)) | (with_reducible apply Box.drew) | (with_reducible apply Box.drewN) | (with_reducible apply Box.set) | (with_reducible apply Box.alloc) | (with_reducible apply Box.far) | (with_reducible apply Box.below (hb := hb1))); all_goals (first | with_reducible exact Nat.le_refl _ | omega | (simp; done) | (simp; omega) | (have := hb1.size; (try simp at this); omega) | (have := hb1.size; (try simp at this); (try simp); omega))), by focus ((repeat first | with_reducible exact Below.refl _ _ | (with_reducible refine Below.setCell ?_ ?_ _) | (with_reducible refine Below.alloc ?_ ?_ _) | (with_reducible refine below_drewN ?_ _) | (with_reducible refine Below.drew ?_) | (with_reducible refine Below.trans ?_ (Below.mono hb1 ?_))); all_goals (first | with_reducible exact Nat.le_refl _ | omega | (simp; done) | (simp; omega) | (have := hb1.size; (try simp at this); omega) | (have := hb1.size; (try simp at this); (try simp); omega)))⟩
  case rest =>
    obtain ⟨Bs, rfl, rfl, bB, hbW⟩ := hcut
    have hI' := hI.keep hbW
    have hI2 := hI'
    have hR0 := RStep.of_below (n0 := n0) hbW
    have hzW : W.heap.size ≤ wc.heap.size := hbW.size
    clear N hSl a0 a1 a2 a3 a4 c00 c01 c02 c03 c04 cA cM cS cI oA oS bA bM mM bS bI
    obtain ⟨b0, ⟨vA, bA, oA⟩, bM, mM, ⟨vS, bS, oS⟩, bI, _, hB'⟩ := hI'
    rcases oA.2 with ⟨_, hz⟩ | ⟨gA, capA, curA, rfl, hgA, hhA, hcapA, _⟩
    · omega
    have cA := bA.cell 0; have cM := bM.cell 0; have cS := bS.cell 0; have cI := bI.cell 0
    have l0' := b0.lt; have l2' := bA.lt; have l4' := bM.lt; have l5' := bS.lt; have lI' := bI.lt; have lB' := bB.lt
    have fA := bA.froz 0; have fS := bS.froz 0
    have cB0 := bB.cell 0; have cB1 := bB.cell 1; have cB2 := bB.cell 2
    simp at cA cM cS cI cB0 cB1 cB2
    cases hw : nxW T slew er cm x with
    | false =>
      cases hst : st.2 with
      | none =>
        rw [hst] at oS
        have oS' : vS = .slice none 0 0 := oS
        subst oS'
        have hAA := AllAt.of_own oA
        have hlA : gA < wc.heap.size := (Array.getElem?_eq_some_iff.1 hhA).1
        have WC := Lib.hid (fun V hV hV2 => way_c st.1 gA capA i V hil hV hE hV2 hlen)
        have hwl : (wayL st.1 i).length ≤ i := wayL_le hE i
        have hm1 : (wayL st.1 i).length + 1 ≤ maxLen := by unfold maxLen; omega
        have hm2 : ((wayL st.1 i).length + 1) * 8 ≤ 140737488355328 := by omega
        obtain ⟨i0, hi0, hz0, hz1, hz2⟩ := info_parts _root_.Go.Proofs.Ytgbckdmhmkpahaa.A.infoI
        gi_wp2_with (first
          | (gi_at_call 133; go_loud (refine (CallsIn.inRound l (callsIn_wide.2 (WC.out _ (hAA.below (by focus ((repeat first | with_reducible exact Below.refl _ _ | (with_reducible refine Below.setCell ?_ ?_ _) | (with_reducible refine Below.alloc ?_ ?_ _) | (with_reducible refine below_drewN ?_ _) | (with_reducible refine Below.drew ?_)); all_goals (first | with_reducible exact Nat.le_refl _ | omega | (simp; done) | (simp; omega) | (omega) | ((try simp); omega)))) hlA) (by first | omega | (simp; omega))))).mono ?_); rintro e w1 ⟨vW, rfl, hown, hb1⟩; obtain ⟨hc1, hf1⟩ := bcell hb1)
          | (gi_at_builtin; refine wpListIn_append_own _ rfl _ _ 22 rfl wc.heap.size 3 i0 (.int .i64 0) 1 8 Try.underlying22 hi0 hz0 hz1 hz2 rfl (by decide) _ _ _ rfl (hown.alloc _) ⟨w1.heap.size, 0, none⟩ 1 1 [.int .i64 x] rfl rfl (cell_one_new _ _ _) (by simp [Value.oneCell']) hm1 hm2 (by have := hb1.size; simp at this ⊢; omega) ?_; intro v' w2 hown2 hgrow2 hnil; obtain ⟨gN, capN, rfl, hgN, _⟩ := own_pos hown2 (by omega) (by omega); have hz1 : wc.heap.size ≤ w1.heap.size := (by have := hb1.size; (try simp at this); omega); have hB1 : Below wc.heap.size wc w1 := (by focus ((repeat first | with_reducible exact Below.refl _ _ | (with_reducible refine Below.setCell ?_ ?_ _) | (with_reducible refine Below.alloc ?_ ?_ _) | (with_reducible refine below_drewN ?_ _) | (with_reducible refine Below.drew ?_) | (with_reducible refine Below.trans ?_ (Below.mono hb1 ?_))); all_goals (first | with_reducible exact Nat.le_refl _ | omega | (simp; done) | (simp; omega) | (have := hb1.size; (try simp at this); omega) | (have := hb1.size; (try simp at this); (try simp); omega)))); have hB2 : Below wc.heap.size wc w2 := (hB1.alloc hz1 _).grown hgrow2 (by simp; omega) (fun k e => (hown.lt k e).1); obtain ⟨hc2, hf2⟩ := bcell hB2))
        have hSO : SeaOk w2 n0 Bi (.slice (some ⟨gN, 0, none⟩) ((wayL st.1 i).length + 1) capN) (some (wayL st.1 i ++ [x])) :=
          ⟨gN, capN, by simp, by omega, by simpa using own_base hown2 (show n0 + 1 ≤ wc.heap.size by omega)⟩
        refine hQ _ _ (hR0.trans ((RStep.of_below hB2).trans (RStep.setCell _ ⟨n0 + 5, 0, none⟩ _ (.inr rfl)))) ?_
        have : stepH T slew i st x = (st.1, some (wayL st.1 i ++ [x])) := by simp [stepH, hsi, hw, hst]
        rw [this]; exact (hI2.keep hB2).sea _ _ hSO
      | some L =>
        rw [hst] at oS
        obtain ⟨gS, capS, rfl, hgS, oS⟩ := oS
        gi_wp2_with fail
        refine hQ _ _ hR0 ?_
        have : stepH T slew i st x = st := by simp [stepH, hsi, hw, hst]
        rw [this]; exact hI2
    | true =>
      have hlk := run_look_st (nxE T slew er cm x) (nxC T slew er cm) x wc (n0 + 3) _ mM
      by_cases hk : (nxE T slew er cm x, nxC T slew er cm, x) ∈ st.1.map (·.1)
      · rw [decide_eq_true hk] at hlk
        gi_wp2_with fail
        refine hQ _ _ hR0 ?_
        have : stepH T slew i st x = st := by simp only [stepH, hsi, hw, if_true, if_pos hk]
        rw [this]; exact hI2
      · have hput := run_put_st (nxE T slew er cm x) (nxC T slew er cm) x wc (n0 + 3) _ mM hk
        rw [decide_eq_false hk] at hlk
        generalize hsO : putSt wc (n0 + 3) (nxE T slew er cm x, nxC T slew er cm, x) = newM at hput
        obtain ⟨j0, zN, hj0, hy0, hy1, hy2, hy3⟩ := infoOk_parts _root_.Go.Proofs.Ytgbckdmhmkpahaa.A.infoN
        have hm1 : st.1.length + 1 ≤ maxLen := by unfold maxLen; omega
        have hm2 : (st.1.length + 1) * 40 ≤ 140737488355328 := by omega
        have lM' : n0 + 3 < wc.heap.size := by obtain ⟨_, _, e, _⟩ := mM; exact (Array.getElem?_eq_some_iff.1 e).1
        have gM : gA ≠ n0 + 3 := by rintro rfl; obtain ⟨_, _, hm, _⟩ := mM; rw [hm] at hhA; cases hhA
        have gB : Bs ≠ n0 + 3 := by rintro rfl; obtain ⟨_, _, hm, _⟩ := mM; rw [show wc.heap[_]? = _ from bB] at hm; cases hm
        have g2 : gA ≠ n0 + 2 := by rintro rfl; rw [show wc.heap[_]? = _ from bA] at hhA; cases hhA
        have oM := own_same (W' := wc.putObj (n0 + 3) newM) oA (fun g hg => World.putObj_heap_other (by simp only [Value.ownBlock, Option.some.injEq] at hg; omega))
        have bAM := bA.put (b := n0 + 3) (by omega) newM
        have qA := bAM.cell 0; have qB0 := (bB.put (b := n0 + 3) (by omega) newM).cell 0; have qB1 := (bB.put (b := n0 + 3) (by omega) newM).cell 1; have qB2 := (bB.put (b := n0 + 3) (by omega) newM).cell 2
        have qI := (bI.put (b := n0 + 3) (by omega) newM).cell 0
        simp at qA qB0 qB1 qB2 qI
        gi_upto_region 14 with fail
        gi_wp2_with (gi_at_builtin; go_loud (refine wpListIn_append_own _ rfl _ _ 142 rfl (n0 + 1) 147 j0 _ 5 40 Try.underlying142 hj0 hy0 hy1 hy2 hy3 (by decide) _ _ _ rfl (oM.alloc _) ⟨wc.heap.size, 0, none⟩ 1 1 [.int .i64 (nxE T slew er cm x), .int .i64 (nxC T slew er cm), .int .i64 x, .int .i64 i, .int .i64 x] rfl rfl (by simpa using cell_five_new (wc.putObj (n0 + 3) newM) _ _ _ _ _ _) (by simp [Value.oneCell']) hm1 hm2 (by simp; omega) ?_); intro v' w2 hown2 hgrow2 hnil; obtain ⟨gN, capN, rfl, hgN, _⟩ := own_pos hown2 (by omega) (by omega); have bA2 := (bAM.alloc (.cells #[.int .i64 (nxE T slew er cm x), .int .i64 (nxC T slew er cm), .int .i64 x, .int .i64 i, .int .i64 x] 147)).grown (oM.alloc _) (by decide) hgrow2; have cA2 := bA2.cell 0; have fA2 := bA2.froz 0; (simp at cA2))
        have hHH : ∀ k, k < wc.heap.size → (k ≠ n0 + 3 → (wc.putObj (n0 + 3) newM).heap[k]? = wc.heap[k]?) ∧ (k ≠ n0 + 2 → (∀ cs f, wc.heap[k]? ≠ some (.cells cs 147 f)) → (w2.setCell ⟨n0 + 2, 0, none⟩ (.slice (some ⟨gN, 0, none⟩) (st.1.length + 1) capN)).heap[k]? = (wc.putObj (n0 + 3) newM).heap[k]?) := fun k hk =>
          ⟨fun h3 => World.putObj_heap_other h3, fun h2 hn => (Below.heap_setCell w2 ⟨n0 + 2, 0, none⟩ _ k h2).trans ((hgrow2.block k (by simp; omega) (by
            intro e
            have e' : some k = some gA := e
            cases e'
            exact hn _ _ hhA)).trans (Below.heap_alloc _ _ k (by simpa using hk)))⟩
        have hH : ∀ k, k < wc.heap.size → k ≠ n0 + 3 → k ≠ n0 + 2 → (∀ cs f, wc.heap[k]? ≠ some (.cells cs 147 f)) → (w2.setCell ⟨n0 + 2, 0, none⟩ (.slice (some ⟨gN, 0, none⟩) (st.1.length + 1) capN)).heap[k]? = wc.heap[k]? :=
          fun k hk h3 h2 hn => ((hHH k hk).2 h2 hn).trans ((hHH k hk).1 h3)
        have hsz : wc.heap.size ≤ (w2.setCell ⟨n0 + 2, 0, none⟩ (.slice (some ⟨gN, 0, none⟩) (st.1.length + 1) capN)).heap.size := by
          have := hgrow2.size
          simp at this ⊢
          omega
        have hMM := mM.put (nxE T slew er cm x, nxC T slew er cm, x)
        rw [hsO] at hMM
        refine hQ _ _ (hR0.trans ⟨hsz, fun k hk h2 h3 _ hn => hH k hk h3 h2 hn⟩) ?_
        have hst : stepH T slew i st x = (st.1 ++ [((nxE T slew er cm x, nxC T slew er cm, x), (i : Int), x)], st.2) := by simp only [stepH, hsi, hw, if_true, if_neg hk]
        rw [hst]
        refine hI2.found _ hH ⟨_, (bA2.set 0 _).congr (by simp), own_setCell hown2 bA2 (by decide) _⟩ (hMM.same ((hHH _ lM').2 (by omega) ?_)) (Below.setCell (p := ⟨n0 + 2, 0, none⟩) (((below_putObj hB' (by omega) newM).alloc (by simp; omega) _).grown hgrow2 (by simp; omega) (fun k e => by have := (oM.lt k e).1; omega)) (by show n0 ≤ n0 + 2; omega) _)
        intro cs f e
        obtain ⟨_, _, hm, _⟩ := mM
        rw [hm] at e; cases e

end Go.Proofs.Ytgbckdmhmkpahaa

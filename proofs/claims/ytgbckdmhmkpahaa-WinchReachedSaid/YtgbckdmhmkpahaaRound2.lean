/-
  A region inside a round of a loop over a function, walked by the held laws: the start as outside of rounds. Blocks that a piece of code leaves as they are. Results that lie in cells. No condition beyond these.
-/
import Derived.Test.YtgbckdmhmkpahaaRound
import Derived.Test.YtgbckdmhmkpahaaBase
import Derived.RangeFuncNested
set_option linter.unusedVariables false
namespace Go.Proofs.Ytgbckdmhmkpahaa
open Go.RowKit

theorem region_round {l m id : Nat} {P : Program} {ops : Array Oper} {Q : Exit → Act → World → Prop} {a : Act} {w : World} (hm : P.follows .mixedOrders = true) (hd : noDefer ops = true)
    (h : ∀ R : Act → World → Prop, (∀ a w, Q .normal a w → R a w) → wpAny P .any ops (fun e a w => e = .normal ∧ R a w) ops.size (Array.replicate ops.size false) a w.drew) : (Code.region id ops true).wpIn (Fence.wide.inRound l) m P Q a w := by
  refine wpIn_mono (Q := fun e a w => e = .normal ∧ Q .normal a w) (wpIn_region_any hm (wpAnyIn_of_wpAny ?_ (noDefer_spec hd) _ _ _ _ (h _ (fun _ _ h => h)))) ?_
  · rintro ⟨_, _, h, _⟩
    cases h
  · rintro e a w ⟨rfl, h⟩
    exact h
theorem region_open {id : Nat} {P : Program} {ops : Array Oper} {Q : Exit → Act → World → Prop} {a : Act} {w : World} (hm : P.follows .mixedOrders = true)
    (h : ∀ R : Act → World → Prop, (∀ a w, Q .normal a w → R a w) → wpAny P .any ops (fun e a w => e = .normal ∧ R a w) ops.size (Array.replicate ops.size false) a w.drew) : (Code.region id ops true).wp P Q a w := by
  refine wp_mono (Q := fun e a w => e = .normal ∧ Q .normal a w) (wp_region_any hm (h _ (fun _ _ h => h))) ?_
  rintro e a w ⟨rfl, h⟩
  exact h
theorem heldR {P : Program} {ops : Array Oper} {S : World → Prop} {R : Act → World → Prop} {a : Act} {w : World} (hS : S w)
    (h : S w → wpAnyH P .any ops (fun e a w => e = .normal ∧ R a w) S ops.size (Array.replicate ops.size false) a w) : wpAny P .any ops (fun e a w => e = .normal ∧ R a w) ops.size (Array.replicate ops.size false) a w :=
  wpAny_of_held _ _ _ _ (h hS)

/-- Old blocks other than those of 'bad' are as they were. -/
def Steps1 (bad : Nat → Prop) (W W' : World) : Prop := W.heap.size ≤ W'.heap.size ∧ ∀ k, k < W.heap.size → ¬ bad k → W'.heap[k]? = W.heap[k]?
theorem Steps1.of_below {bad : Nat → Prop} {W W' : World} (hb : Below W.heap.size W W') : Steps1 bad W W' := ⟨hb.size, fun k hk _ => hb.block k hk⟩
theorem Steps1.refl (bad : Nat → Prop) (W : World) : Steps1 bad W W := ⟨Nat.le_refl _, fun _ _ _ => rfl⟩
theorem Steps1.trans {bad : Nat → Prop} {X Y Z : World} (h : Steps1 bad X Y) (k : Steps1 bad Y Z) : Steps1 bad X Z :=
  ⟨Nat.le_trans h.1 k.1, fun j hj hn => (k.2 j (Nat.lt_of_lt_of_le hj h.1) hn).trans (h.2 j hj hn)⟩
theorem Steps1.setCell {bad : Nat → Prop} {W W' : World} (h : Steps1 bad W W') {p : Addr} (u : Value) (hp : bad p.block) : Steps1 bad W (W'.setCell p u) :=
  ⟨by simpa [World.setCell] using h.1, fun k hk hn => (Below.heap_setCell W' p u k (by rintro rfl; exact hn hp)).trans (h.2 k hk hn)⟩
theorem Steps1.alloc {bad : Nat → Prop} {W W' : World} (h : Steps1 bad W W') (o : Obj) : Steps1 bad W (W'.alloc o) :=
  ⟨by simp; have := h.1; omega, fun k hk hn => (Below.heap_alloc W' o k (Nat.lt_of_lt_of_le hk h.1)).trans (h.2 k hk hn)⟩
theorem Steps1.box {bad : Nat → Prop} {W W' : World} (h : Steps1 bad W W') {g : Nat} {t : TypeId} {cs : Array Value} (hb : Box W g t cs) (hn : ¬ bad g) : Box W' g t cs := (h.2 g hb.lt hn).trans hb
theorem Steps1.keeps {bad : Nat → Prop} {W W' : World} (h : Steps1 bad W W') {B : Nat} (hc : ∀ k, bad k → k < B) : KeepsFrom B W W' :=
  ⟨h.1, fun k o hB hk _ => (h.2 k (Array.getElem?_eq_some_iff.1 hk).1 (fun hb => by have := hc k hb; omega)).trans hk⟩

/-- Results that lie in cells. -/
theorem run_loadVar_one {P : Program} {ty : TypeId} {w : World} {g : Nat} {v : Value} {d : TypeDesc} (hu : P.underlying ty = some d) (hd : (match d with | .struct _ | .array _ _ => true | _ => false) = false) (hc : w.cell? ⟨g, 0, none⟩ = some v) : (loadVar ty ⟨g, 0, none⟩).run P w = .ok v w := by
  have hagg : (isAgg ty).run P w = .ok false w := by
    unfold isAgg
    rw [Sem.run_bind, run_underlying hu w]
    cases d <;> simp_all
  simp [loadVar, Sem.run_bind, hagg, go_sem, hc]
theorem res_cc {P : Program} {fn : Func} {p q : Tmp} {ty tz : TypeId} {tmps : Array Value} {w : World} {g g' : Nat} {u v : Value} {d d' : TypeDesc} (h : fn.results = #[.cell p ty, .cell q tz]) (hp : tmps.getD p undef = .pointer (some ⟨g, 0, none⟩)) (hq : tmps.getD q undef = .pointer (some ⟨g', 0, none⟩))
    (hg : w.cell? ⟨g, 0, none⟩ = some u) (hg' : w.cell? ⟨g', 0, none⟩ = some v) (hu : P.underlying ty = some d) (hd : (match d with | .struct _ | .array _ _ => true | _ => false) = false) (hu' : P.underlying tz = some d') (hd' : (match d' with | .struct _ | .array _ _ => true | _ => false) = false) : (results fn tmps).run P w = .ok (.tuple #[u, v]) w := by
  have hp' : tmps[p]?.getD undef = .pointer (some ⟨g, 0, none⟩) := by simpa using hp
  have hq' : tmps[q]?.getD undef = .pointer (some ⟨g', 0, none⟩) := by simpa using hq
  simp [results, h, hp', hq', asAddr, run_loadVar_one hu hd hg, run_loadVar_one hu' hd' hg']

end Go.Proofs.Ytgbckdmhmkpahaa

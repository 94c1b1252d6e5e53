/-
  A region inside a round of a loop over a function, which draws its order and defers nothing, is walked by the laws that hold outside of rounds. No condition beyond these.
-/
import Derived.OrdersHeld
import Derived.OrdersIn
import Derived.RangeFuncCalls
import Derived.TacticsIn
set_option linter.unusedVariables false
namespace Go.Proofs.Ytgbckdmhmkpahaa

theorem rowsIn_wide' {n : Nat} {P : Program} {row : String} {args : Array Value} {w : World} {R : Value → World → Prop} (h : Rows P row args w R) : RowsIn Fence.wide n P row args w R :=
  fun c cs _ => let ⟨v, w', r, s⟩ := h c cs; ⟨v, w', r, stepsIn_wide.2 s⟩

theorem wpOpIn_of_wpOp {l m : Nat} {P : Program} {ops : Array Oper} {Q : Exit → Act → World → Prop} (hQ : ¬ LetsOut Q) (hd : ∀ (i : Nat) o, ops[i]? = some o → ∀ c, o.op ≠ .defer c)
    {i : Nat} {K : Act → World → Prop} {a : Act} {w : World} (h : wpOp P ops Q i K a w) : wpOpIn (Fence.wide.inRound l) m P ops Q i K a w := by
  unfold wpOp at h
  unfold wpOpIn
  split
  · rename_i ho; simpa only [ho] using h
  · rename_i o ho
    simp only [ho] at h
    split
    · rename_i hw
      simp only [hw, if_true] at h
      have h := h.resolve_right (fun k => hQ k.2)
      unfold Oper.wp at h
      unfold Oper.wpIn
      refine ⟨fun _ _ => trivial, ?_⟩
      rw [show (Fence.wide.inRound l).round = some l from rfl, Oper.semAt_some l _ o (hd _ _ ho)]
      generalize (execOp a.eval o).run P w = r at *
      cases r with
      | ok x w' =>
        cases x <;> simp only [Oper.upon] at h <;> simp only [Oper.uponIn]
        case value => exact h
        case skip => exact h
        case defer => exact h
        case enter => exact ⟨fun h => by simp [Fence.wide] at h, CallsIn.inRound l (callsIn_wide.2 h)⟩
        case row => exact ⟨fun h => by simp [Fence.wide] at h, rowsIn_wide' h⟩
      | halt x w' => cases x <;> simp only [Oper.upon] at h <;> simp only [Oper.uponIn]; exact h
    · rename_i hw
      simp only [hw] at h
      exact ⟨fun _ _ => trivial, h⟩

theorem wpAnyIn_of_wpAny {l m : Nat} {P : Program} {md : Region.Mode} {ops : Array Oper} {Q : Exit → Act → World → Prop} (hQ : ¬ LetsOut Q) (hd : ∀ (i : Nat) o, ops[i]? = some o → ∀ c, o.op ≠ .defer c) :
    ∀ (fuel : Nat) (listed : Array Bool) (a : Act) (w : World), wpAny P md ops Q fuel listed a w → wpAnyIn (Fence.wide.inRound l) m P md ops Q fuel listed a w
  | 0, _, _, _, h => h
  | fuel + 1, _, _, _, h => ⟨h.1, fun i hi => wpOpIn_mono (fun a' w' h' => wpAnyIn_of_wpAny hQ hd fuel _ a' w' h') (wpOpIn_of_wpOp hQ hd (h.2 i hi))⟩

/-- No operation defers. -/
def noDefer (ops : Array Oper) : Bool := ops.toList.all fun o => match o.op with
  | .defer _ => false
  | _ => true
theorem noDefer_spec {ops : Array Oper} (h : noDefer ops = true) : ∀ (i : Nat) o, ops[i]? = some o → ∀ c, o.op ≠ .defer c := by
  intro i o ho c hc
  have hm : o ∈ ops.toList := by
    rw [← Array.getElem?_toList] at ho
    exact List.mem_of_getElem? ho
  have := List.all_eq_true.1 h o hm
  rw [hc] at this
  cases this

/-- A region in a round, from the held walk, the end being the normal one. -/
theorem region_inRound {l m id : Nat} {P : Program} {ops : Array Oper} {Q : Exit → Act → World → Prop} (S : World → Prop) {a : Act} {w : World} (hm : P.follows .mixedOrders = true) (hd : noDefer ops = true)
    (h : ∀ R : Act → World → Prop, (∀ a w, Q .normal a w → R a w) → S { w with drawn := w.drawn + 1 } → wpAnyH P .any ops (fun e a w => e = .normal ∧ R a w) S ops.size (Array.replicate ops.size false) a { w with drawn := w.drawn + 1 })
    (hS : S { w with drawn := w.drawn + 1 }) : (Code.region id ops true).wpIn (Fence.wide.inRound l) m P Q a w := by
  refine wpIn_mono (Q := fun e a w => e = .normal ∧ Q .normal a w) (wpIn_region_any hm (wpAnyIn_of_wpAny ?_ (noDefer_spec hd) _ _ _ _ (wpAny_of_held _ _ _ _ (h _ (fun _ _ h => h) hS)))) ?_
  · rintro ⟨_, _, h, _⟩
    cases h
  · rintro e a w ⟨rfl, h⟩
    exact h

/-- The same outside of rounds. -/
theorem region_wide {m id : Nat} {P : Program} {ops : Array Oper} {Q : Exit → Act → World → Prop} (S : World → Prop) {a : Act} {w : World} (hm : P.follows .mixedOrders = true)
    (h : ∀ R : Act → World → Prop, (∀ a w, Q .normal a w → R a w) → S { w with drawn := w.drawn + 1 } → wpAnyH P .any ops (fun e a w => e = .normal ∧ R a w) S ops.size (Array.replicate ops.size false) a { w with drawn := w.drawn + 1 })
    (hS : S { w with drawn := w.drawn + 1 }) : (Code.region id ops true).wpIn Fence.wide m P Q a w := by
  refine wpIn_mono (Q := fun e a w => e = .normal ∧ Q .normal a w) (wpIn_wide.2 (wp_region_held hm (h _ (fun _ _ h => h) hS))) ?_
  rintro e a w ⟨rfl, h⟩
  exact h

/-- An operation that comes up is carried out; what follows stands behind a variable. -/
theorem wpOp_run {P : Program} {ops : Array Oper} {Q : Exit → Act → World → Prop} {i : Nat} {K : Act → World → Prop} {a : Act} {w : World} {o : Oper} (hi : ops[i]? = some o) (hw : Region.wanted o (yielded ops a.tmps) = true)
    (h : ∀ K' : Act → World → Prop, (∀ a w, K a w → K' a w) → o.wp P a w K' Q) : wpOp P ops Q i K a w := by
  unfold wpOp
  simp only [hi, hw, if_true]
  exact .inl (h K fun _ _ h => h)

theorem and_use {a b : Prop} (h : a) (k : a → b) : a ∧ b := ⟨h, k h⟩

end Go.Proofs.Ytgbckdmhmkpahaa

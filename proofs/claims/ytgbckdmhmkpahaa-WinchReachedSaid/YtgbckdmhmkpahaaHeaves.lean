/-
  The iterator over the heaves that may follow a state (chapter 2): its maker, and its contract for every loop body that keeps the two captured variables.
-/
import Derived.Test.YtgbckdmhmkpahaaBase
import Derived.RangeFuncNested
import Derived.RangeFuncBound
import Derived.RangeFuncCalls
import Derived.RangeFuncLeaves
import Derived.Shelf.RegionOpen
import Derived.OwnWalkIn
import Derived.TacticsInMore
import Derived.LoopNIn
import Derived.LoopIn
set_option linter.unusedVariables false
namespace Go.Proofs.Ytgbckdmhmkpahaa
open Go.RowKit Go.Shelf
attribute [local go_sem] Oper.semAt_some

set_option maxHeartbeats 400000 in
theorem heaves_in (F : Fence) (n : Nat) (hF : F.fn 117) (hro : F.round = none) (A : Option Addr) (L c : Nat) (lo hi turn slew err cmd hv : Int) (w : World) :
    CallsIn F n Try.prog 117 #[.agg #[.slice A L c, .int .i64 lo, .int .i64 hi, .int .i64 turn, .int .i64 slew], .agg #[.int .i64 err, .int .i64 cmd, .int .i64 hv]] w fun e w' => e = .returned (.func (.func 147) #[] #[.pointer (some ⟨w.heap.size, 0, none⟩), .pointer (some ⟨w.heap.size + 1, 0, none⟩)]) ∧ (w.alloc (.cells #[.slice A L c, .int .i64 lo, .int .i64 hi, .int .i64 turn, .int .i64 slew] 139)).alloc (.cells #[.int .i64 err, .int .i64 cmd, .int .i64 hv] 42) = w' := by
  refine callsIn_of_wp Try.func117 rfl hF ?_ hro
  simp only [Try.ntmps117, List.size_toArray, List.length_cons, List.length_nil, Nat.reduceAdd, Nat.reduceSub, Array.replicate_succ, Array.replicate_zero, List.push_toArray, List.append_toArray, List.nil_append, List.cons_append]
  gi_wp2
  go_ret
  exact ⟨rfl, rfl⟩

/-- A heave from a to b. -/
abbrev HvR (a b : Int) := {x : Int // a ≤ x ∧ x ≤ b}
def hvs {a b : Int} : List (HvR a b) → List Int
  | [] => []
  | x :: l => x.1 :: hvs l
theorem hvs_snoc {a b : Int} (l : List (HvR a b)) (x : HvR a b) : hvs (l ++ [x]) = hvs l ++ [x.1] := by
  induction l with
  | nil => rfl
  | cons y l ih => simp [hvs, ih]
theorem hvs_len {a b : Int} (l : List (HvR a b)) : (hvs l).length = l.length := by
  induction l with
  | nil => rfl
  | cons y l ih => simp [hvs, ih]
/-- k heaves from a on. -/
def hvL (a : Int) (k : Nat) : List Int := (List.range k).map fun (i : Nat) => a + (i : Int)
theorem hvL_succ (a : Int) (k : Nat) : hvL a (k + 1) = hvL a k ++ [a + k] := by simp [hvL, List.range_succ]
theorem hvL_len (a : Int) (k : Nat) : (hvL a k).length = k := by simp [hvL]

def keepBox (g : Nat) (c1 c2 : Array Value) (t1 t2 : TypeId) (W W' : World) : Prop := (Box W g t1 c1 → Box W' g t1 c1) ∧ (Box W (g + 1) t2 c2 → Box W' (g + 1) t2 c2)

set_option maxHeartbeats 1000000 in
theorem heaves1_in (F : Fence) (n : Nat) (hF : F.fn 147) (hro : F.round = none) (hn : 1 ≤ n) (l g : Nat) (A : Option Addr) (L c : Nat) (lo hi turn slew err cmd hv a b : Int)
    (ha : a = max lo (hv - turn)) (hb : b = min hi (hv + turn)) (h1 : -1000 ≤ lo ∧ lo ≤ 1000) (h2 : -1000 ≤ hi ∧ hi ≤ 1000) (h3 : -1000 ≤ turn ∧ turn ≤ 1000) (h4 : -1000 ≤ hv ∧ hv ≤ 1000)
    (J Jx : List (HvR a b) → World → Prop)
    (hY : ∀ pre x W, J pre W → pre.length < (b - a + 1).toNat → YieldAt F (n - 1) Try.prog l #[.int .i64 x.1] W fun e W' =>
      (e = .returned (.bool true) ∧ J (pre ++ [x]) W' ∧ keepBox g #[.slice A L c, .int .i64 lo, .int .i64 hi, .int .i64 turn, .int .i64 slew] #[.int .i64 err, .int .i64 cmd, .int .i64 hv] 139 42 W W') ∨ (e = .returned (.bool false) ∧ Jx (pre ++ [x]) W'))
    (W : World) (hb1 : Box W g 139 #[.slice A L c, .int .i64 lo, .int .i64 hi, .int .i64 turn, .int .i64 slew]) (hb2 : Box W (g + 1) 42 #[.int .i64 err, .int .i64 cmd, .int .i64 hv]) (h0 : J [] W) :
    CallsIn F n Try.prog 147 #[.func (.yield l) #[] #[], .pointer (some ⟨g, 0, none⟩), .pointer (some ⟨g + 1, 0, none⟩)] W fun e W' => (∃ v, e = .returned v) ∧
      ((∃ ys : List (HvR a b), hvs ys = hvL a (b - a + 1).toNat ∧ J ys W') ∨ (∃ pre, pre.length ≤ (b - a + 1).toNat ∧ Jx pre W')) := by
  have HA := Lib.hid ha
  have k1 : lo ≤ a := by omega
  have k2 : hv - turn ≤ a := by omega
  have k3 : a ≤ lo ∨ a ≤ hv - turn := by omega
  have k4 : b ≤ hi := by omega
  have k5 : b ≤ hv + turn := by omega
  have k6 : hi ≤ b ∨ hv + turn ≤ b := by omega
  clear ha hb
  have q00 := hb1.cell 0; have q01 := hb1.cell 1; have q02 := hb1.cell 2; have q03 := hb1.cell 3; have q04 := hb1.cell 4
  have q10 := hb2.cell 0; have q11 := hb2.cell 1; have q12 := hb2.cell 2
  simp at q00 q01 q02 q03 q04 q10 q11 q12
  refine callsIn_of_wp Try.func147 rfl hF ?_ hro
  simp only [Try.ntmps147, List.size_toArray, List.length_cons, List.length_nil, Nat.reduceAdd, Nat.reduceSub, Array.replicate_succ, Array.replicate_zero, List.push_toArray, List.append_toArray, List.nil_append, List.cons_append]
  gi_wp2
  all_goals
    gi_loopw [4] (fun p wr => ∃ pre : List (HvR a b), p = .int .i64 (a + (pre.length : Int)) ∧ (pre.length : Int) ≤ max (b - a + 1) 0 ∧ Hid (hvs pre = hvL a pre.length) ∧ Box wr g 139 #[.slice A L c, .int .i64 lo, .int .i64 hi, .int .i64 turn, .int .i64 slew] ∧ Box wr (g + 1) 42 #[.int .i64 err, .int .i64 cmd, .int .i64 hv] ∧ J pre wr)
      (fun p _ => (b + 1 - intOf p).toNat)
    case atStart => exact ⟨[], by first | (rw [show a = lo from by omega]; simp) | (rw [show a = hv - turn from by omega]; simp), by simp; omega, rfl, hb1, hb2, h0⟩
    case round =>
      obtain ⟨pre, rfl, hle, hm, c1, c2, hJ⟩ := hrel
      have r00 := c1.cell 0; have r01 := c1.cell 1; have r02 := c1.cell 2; have r03 := c1.cell 3; have r04 := c1.cell 4
      have r10 := c2.cell 0; have r11 := c2.cell 1; have r12 := c2.cell 2
      simp at r00 r01 r02 r03 r04 r10 r11 r12
      clear q00 q01 q02 q03 q04 q10 q11 q12
      generalize hk : pre.length = k at *
      have HK := Lib.hid hk; clear hk
      by_cases hlt : a + (k : Int) ≤ b
      · obtain ⟨fn, tmps, assign, body, hy, hR⟩ := hY pre ⟨a + k, by omega, hlt⟩ wr hJ (by have := HK.out; omega)
        dsimp only at hy
        clear hY
        gi_wp2
        all_goals
          refine hR.mono ?_
          rintro e W3 (⟨rfl, hJ3, hk3⟩ | ⟨rfl, hJx3⟩)
          · gi_wp2
            go_roundw
            case rel => exact ⟨pre ++ [⟨a + k, by omega, hlt⟩], by simp [HK.out]; try omega, by simp [HK.out]; omega, by unfold Hid; rw [hvs_snoc, List.length_append, HK.out]; simp only [List.length_cons, List.length_nil, Nat.zero_add]; rw [hvL_succ, ← hm.out], hk3.1 c1, hk3.2 c2, hJ3⟩
            case measure => simp [intOf]; omega
          · gi_wp2
            refine bodyPost_ret (results_none rfl _ _ _) rfl ?_
            exact ⟨⟨_, rfl⟩, .inr ⟨_, by simp [HK.out]; omega, hJx3⟩⟩
      · clear hY
        gi_wp2
        all_goals
          go_end0
          exact ⟨⟨_, rfl⟩, .inl ⟨pre, by rw [hm.out, show (b - a + 1).toNat = k from by omega], hJ⟩⟩

end Go.Proofs.Ytgbckdmhmkpahaa

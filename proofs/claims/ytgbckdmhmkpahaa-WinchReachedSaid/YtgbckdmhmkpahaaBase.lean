/-
  Plain words for the walks of chapter 2 (winch): slices that read as lists, small functions, and the contracts of the smallest functions.
-/
import Derived.Test.YtgbckdmhmkpahaaProg
import Derived.WalkKit
import Derived.WalkSpells
import Derived.WalkLawsBesides
import Derived.Lib.Hide
import Derived.Deep.QuietTactic
import Derived.BigQuiet
import Derived.Deep.RegionWith
import Derived.StillTailTactics
import Derived.Shelf.Abstract
set_option linter.unusedVariables false
namespace Go.Proofs.Ytgbckdmhmkpahaa
open Go.RowKit

/-- A slice whose cells are one word each reads as a list of words. -/
def SlV (w : World) (A : Option Addr) (xs : List Value) : Prop :=
  ∀ j u, xs[j]? = some u → ∃ b off, A = some ⟨b, off, none⟩ ∧ b < w.heap.size ∧ w.cell? ⟨b, off + j, none⟩ = some u
def SlI (w : World) (A : Option Addr) (xs : List Int) : Prop :=
  ∀ j u, xs[j]? = some u → ∃ b off, A = some ⟨b, off, none⟩ ∧ b < w.heap.size ∧ w.cell? ⟨b, off + j, none⟩ = some (.int .i64 u)

theorem SlI.below {w w' : World} {A : Option Addr} {xs : List Int} (h : SlI w A xs) (hb : Below w.heap.size w w') : SlI w' A xs := fun j u hj => by
  obtain ⟨b, off, hA, hlt, hc⟩ := h j u hj
  exact ⟨b, off, hA, Nat.lt_of_lt_of_le hlt hb.size, (hb.cell (p := ⟨b, off + j, none⟩) hlt).trans hc⟩
theorem SlI.alloc {w : World} {A : Option Addr} {xs : List Int} (h : SlI w A xs) (o : Obj) : SlI (w.alloc o) A xs := h.below ((Below.refl _ _).alloc (Nat.le_refl _) o)
theorem SlI.nil (w : World) (A : Option Addr) : SlI w A [] := fun j u h => by simp at h
theorem SlV.below {w w' : World} {A : Option Addr} {xs : List Value} (h : SlV w A xs) (hb : Below w.heap.size w w') : SlV w' A xs := fun j u hj => by
  obtain ⟨b, off, hA, hlt, hc⟩ := h j u hj
  exact ⟨b, off, hA, Nat.lt_of_lt_of_le hlt hb.size, (hb.cell (p := ⟨b, off + j, none⟩) hlt).trans hc⟩

theorem bcell {W w1 : World} (hb : Below W.heap.size W w1) : (∀ b o, b < W.heap.size → w1.cell? ⟨b, o, none⟩ = W.cell? ⟨b, o, none⟩) ∧ (∀ b o, b < W.heap.size → w1.frozen? ⟨b, o, none⟩ = W.frozen? ⟨b, o, none⟩) :=
  ⟨fun b o h => hb.cell (p := ⟨b, o, none⟩) h, fun b o h => hb.frozen (p := ⟨b, o, none⟩) h⟩

theorem ret_b {a b : Bool} (h : a = b) : Ending.returned (.bool a) = .returned (.bool b) := by rw [h]
theorem ret_i {k : IntKind} {a b : Int} (h : a = b) : Ending.returned (.int k a) = .returned (.int k b) := by rw [h]

theorem ret_t2 {a b c d : Value} (h : a = c) (k : b = d) : Ending.returned (.tuple #[a, b]) = .returned (.tuple #[c, d]) := by rw [h, k]
theorem ret_t3 {a b c d e f : Value} (h : a = d) (k : b = e) (l : c = f) : Ending.returned (.tuple #[a, b, c]) = .returned (.tuple #[d, e, f]) := by rw [h, k, l]
theorem ret_ii {k l : IntKind} {a b c d : Int} (h : a = c) (h' : b = d) : Ending.returned (.tuple #[.int k a, .int l b]) = .returned (.tuple #[.int k c, .int l d]) := by rw [h, h']
theorem beqF {a b : Int} (h : a ≠ b) : (a == b) = false := by simpa using h
theorem beqT {a b : Int} (h : a = b) : (a == b) = true := by simpa using h
theorem bneF {a b : Int} (h : a = b) : (a != b) = false := by simpa using h
theorem bneT {a b : Int} (h : a ≠ b) : (a != b) = true := by simpa using h
theorem vint {k : IntKind} {a b : Int} (h : a = b) : Value.int k a = .int k b := by rw [h]
theorem vbool {a b : Bool} (h : a = b) : Value.bool a = .bool b := by rw [h]
theorem below_drewN {B : Nat} {a w : World} (h : Below B a w) (n : Nat) : Below B a (w.drewN n) := ⟨h.os, h.tape, h.output, h.size, h.block⟩

/-- A slice literal of ints: cells of a new block. -/
theorem sli_new (w : World) (xs : List Int) (t : TypeId) : SlI (w.alloc (.cells ((xs.map (Value.int .i64)).toArray) t)) (some ⟨w.heap.size, 0, none⟩) xs := fun j u hj => by
  refine ⟨w.heap.size, 0, rfl, by simp, ?_⟩
  have h := heap_alloc_new w (.cells ((xs.map (Value.int .i64)).toArray) t)
  simp only [World.cell?, h]
  simp [hj]

/-- Block g holds exactly the cells cs, none of them frozen. -/
def Box (w : World) (g : Nat) (t : TypeId) (cs : Array Value) : Prop := w.heap[g]? = some (.cells cs t (0, 0))
section
variable {w w' : World} {g : Nat} {t : TypeId} {cs : Array Value}
theorem Box.lt (h : Box w g t cs) : g < w.heap.size := (Array.getElem?_eq_some_iff.1 h).1
theorem Box.cell (h : Box w g t cs) (i : Nat) : w.cell? ⟨g, i, none⟩ = cs[i]? := by unfold Box at h; simp [World.cell?, h]
theorem Box.froz (h : Box w g t cs) (i : Nat) : w.frozen? ⟨g, i, none⟩ = false := by unfold Box at h; simp [World.frozen?, h]
theorem Box.new (w : World) (t : TypeId) (cs : Array Value) : Box (w.alloc (.cells cs t)) w.heap.size t cs := heap_alloc_new w _
theorem Box.new2 (w : World) (o : Obj) (t : TypeId) (cs : Array Value) : Box ((w.alloc o).alloc (.cells cs t)) (w.heap.size + 1) t cs := by
  have h := Box.new (w.alloc o) t cs
  rwa [World.size_alloc] at h
theorem Box.newAt (w : World) (t : TypeId) (cs : Array Value) (g : Nat) (hg : g = w.heap.size) : Box (w.alloc (.cells cs t)) g t cs := hg ▸ Box.new w t cs
theorem Box.alloc (h : Box w g t cs) (o : Obj) : Box (w.alloc o) g t cs := (Below.heap_alloc w o g h.lt).trans h
theorem Box.drewN (h : Box w g t cs) (n : Nat) : Box (w.drewN n) g t cs := h
theorem Box.drew (h : Box w g t cs) : Box w.drew g t cs := h
theorem Box.set (h : Box w g t cs) (i : Nat) (u : Value) : Box (w.setCell ⟨g, i, none⟩ u) g t (cs.setIfInBounds i u) := by
  unfold Box at h ⊢; simp [World.setCell, Array.getElem?_modify, h]
theorem Box.far (h : Box w g t cs) {p : Addr} (hp : g ≠ p.block) (u : Value) : Box (w.setCell p u) g t cs := (Below.heap_setCell w p u g hp).trans h
theorem Box.congr {cs' : Array Value} (h : Box w g t cs) (e : cs = cs') : Box w g t cs' := e ▸ h
theorem Box.via {cs' : Array Value} (h : ∃ cs, Box w g t cs ∧ cs = cs') : Box w g t cs' := by obtain ⟨cs, hb, rfl⟩ := h; exact hb
theorem Box.below {B : Nat} (h : Box w g t cs) (hb : Below B w w') (hg : g < B) : Box w' g t cs := (hb.block g hg).trans h
end

/-- A region that draws its order: n operations that leave the world alone, then a tail in one order. -/
theorem still_tail {P : Program} {id : Nat} {Q : Exit → Act → World → Prop} {a : Act} {w : World} {l : List Oper} (n : Nat) (hm : P.follows .mixedOrders = true) (hB : Region.lexTailB .any l.toArray n = true)
    (h : wpStill P l.toArray w.drew (fun a' => wpList P l.toArray Q (l.drop n) a' w.drew) (l.take n) a) : (Code.region id l.toArray true).wp P Q a w := wp_region_still_tail n hm hB h
theorem mixed : Try.prog.follows .mixedOrders = true := by kernel_rfl

/-- Results of which the first lies in memory. -/
theorem res_c1 {P : Program} {fn : Func} {p : Tmp} {ty t : TypeId} {tmps : Array Value} {w : World} {g : Nat} {cs : Array Value} {d : TypeDesc} (h : fn.results = #[.cell p ty]) (hp : tmps.getD p undef = .pointer (some ⟨g, 0, none⟩)) (hg : Box w g t cs)
    (hu : P.underlying ty = some d) (hd : (match d with | .struct _ | .array _ _ => true | _ => false) = true) (hi : (P.info? ty).map (·.size) = some cs.size) : (results fn tmps).run P w = .ok (.agg cs) w :=
  results_cell_row h tmps w g t cs (0, 0) d hp hg hu hd hi
theorem res_c2 {P : Program} {fn : Func} {p u : Tmp} {ty t : TypeId} {tmps : Array Value} {w : World} {g : Nat} {cs : Array Value} {d : TypeDesc} (h : fn.results = #[.cell p ty, .tmp u]) (hp : tmps.getD p undef = .pointer (some ⟨g, 0, none⟩)) (hg : Box w g t cs)
    (hu : P.underlying ty = some d) (hd : (match d with | .struct _ | .array _ _ => true | _ => false) = true) (hi : (P.info? ty).map (·.size) = some cs.size) : (results fn tmps).run P w = .ok (.tuple #[.agg cs, tmps.getD u undef]) w := by
  rw [results_cell_tmp h, hp]
  simp [asAddr, run_loadVar_row w g t ty cs (0, 0) d hg hu hd hi, Result.andThen]
theorem res_c3 {P : Program} {fn : Func} {p u v : Tmp} {ty t : TypeId} {tmps : Array Value} {w : World} {g : Nat} {cs : Array Value} {d : TypeDesc} (h : fn.results = #[.cell p ty, .tmp u, .tmp v]) (hp : tmps.getD p undef = .pointer (some ⟨g, 0, none⟩)) (hg : Box w g t cs)
    (hu : P.underlying ty = some d) (hd : (match d with | .struct _ | .array _ _ => true | _ => false) = true) (hi : (P.info? ty).map (·.size) = some cs.size) : (results fn tmps).run P w = .ok (.tuple #[.agg cs, tmps.getD u undef, tmps.getD v undef]) w := by
  have hp' : tmps[p]?.getD undef = .pointer (some ⟨g, 0, none⟩) := by simpa using hp
  simp [results, h, hp', asAddr, run_loadVar_row w g t ty cs (0, 0) d hg hu hd hi]

def inB (n lo hi : Int) : Bool := decide (lo ≤ n) && decide (n ≤ hi)
theorem inB_true {n lo hi : Int} : inB n lo hi = true ↔ lo ≤ n ∧ n ≤ hi := by simp [inB]
theorem inB_false {n lo hi : Int} : inB n lo hi = false ↔ ¬ (lo ≤ n ∧ n ≤ hi) := by simp [inB]
def unl (b : Bool) (e : Int) : Int := if b then 0 else e
def fstE : List Int → Int
  | [] => 0
  | e :: l => if e = 0 then fstE l else e
def absI (n : Int) : Int := if n < 0 then -n else n
def findFrom (p : Int → Bool) (i : Int) : List Int → Int
  | [] => -1
  | x :: l => if p x then i else findFrom p (i + 1) l
def findI (p : Int → Bool) (xs : List Int) : Int := findFrom p 0 xs

set_option maxHeartbeats 400000 in
theorem within_b (n lo hi : Int) (w : World) : Calls Try.prog 37 #[.int .i64 n, .int .i64 lo, .int .i64 hi] w fun e w' => e = .returned (.bool (inB n lo hi)) ∧ w = w' := by
  go_enter Try.func37, Try.ntmps37
  go_wp2
  all_goals go_ret
  all_goals exact ⟨ret_b (by simp [inB, *]; try omega), rfl⟩

set_option maxHeartbeats 400000 in
theorem within_w (n lo hi : Int) (w : World) : Calls Try.prog 91 #[.int .i64 n, .int .i64 lo, .int .i64 hi] w fun e w' => e = .returned (.bool (inB n lo hi)) ∧ w = w' := by
  go_enter Try.func91, Try.ntmps91
  go_wp2
  all_goals go_ret
  all_goals exact ⟨ret_b (by simp [inB, *]; try omega), rfl⟩

set_option maxHeartbeats 400000 in
theorem isSized_c (n m : Int) (w : World) (h0 : 0 ≤ m) (h1 : m ≤ 9223372036854775807) : Calls Try.prog 92 #[.int .i64 n, .int .i64 m] w fun e w' => e = .returned (.bool (inB n (-m) m)) ∧ w = w' := by
  go_enter Try.func92, Try.ntmps92
  go_wp2_with (go_at_call 91; refine (within_w _ _ _ _).mono ?_; rintro e w' ⟨rfl, rfl⟩)
  all_goals go_ret
  all_goals exact ⟨rfl, rfl⟩

set_option maxHeartbeats 400000 in
theorem unless_c (b : Bool) (e : Int) (w : World) : Calls Try.prog 81 #[.bool b, .int .i64 e] w fun r w' => r = .returned (.int .i64 (unl b e)) ∧ w = w' := by
  go_enter Try.func81, Try.ntmps81
  go_wp2
  all_goals go_ret
  all_goals exact ⟨ret_i (by simp [unl, *]), rfl⟩

set_option maxHeartbeats 400000 in
theorem first_c (xs : List Int) (A : Option Addr) (c : Nat) (w : World) (hn : xs.length ≤ 9223372036854775807) (hs : SlI w A xs) :
    Calls Try.prog 84 #[.slice A xs.length c] w fun r w' => r = .returned (.int .i64 (fstE xs)) ∧ w = w' := by
  go_enter Try.func84, Try.ntmps84
  go_wp2
  go_loop [7] (fun i => ∃ k : Nat, k ≤ xs.length ∧ i = .int .i64 k ∧ Hid (fstE xs = fstE (xs.drop k))) (fun i => xs.length - (intOf i).toNat)
  case atStart => exact ⟨0, Nat.zero_le _, rfl, rfl⟩
  case round =>
    obtain ⟨k, hk, rfl, hf⟩ := hrel
    by_cases hlt : k < xs.length
    · obtain ⟨b, off, rfl, hb, hc⟩ := hs k xs[k] (List.getElem?_eq_getElem hlt)
      have HD := Lib.hid (List.drop_eq_getElem_cons hlt)
      by_cases hz : xs[k] = 0
      · have hz1 : (xs[k] == 0) = true := by simpa using hz
        have HZ := Lib.hid hz; clear hz
        go_wp2
        go_round
        case rel => exact ⟨k + 1, by omega, by go_num, by unfold Hid; rw [hf.out, HD.out, fstE, if_pos HZ.out]⟩
        case measure => simp [intOf]; omega
      · have hz1 : (xs[k] == 0) = false := by simpa using hz
        have HZ := Lib.hid hz; clear hz
        go_wp2
        go_ret
        exact ⟨ret_i (by rw [hf.out, HD.out, fstE, if_neg HZ.out]), rfl⟩
    · go_wp2
      go_ret
      exact ⟨ret_i (by rw [hf.out, List.drop_eq_nil_of_le (by omega)]; rfl), rfl⟩

set_option maxHeartbeats 400000 in
theorem size_c (n : Int) (w : World) (h1 : -9223372036854775807 ≤ n) (h2 : n ≤ 9223372036854775807) : Calls Try.prog 77 #[.int .i64 n] w fun e w' => e = .returned (.int .i64 (absI n)) ∧ w = w' := by
  go_enter Try.func77, Try.ntmps77
  go_wp2
  all_goals go_ret
  all_goals exact ⟨ret_i (by simp [absI]; omega), rfl⟩

set_option maxHeartbeats 400000 in
theorem mod_c (n b : Int) (hb : 0 < b) (h1 : -9223372036854775808 ≤ n) (h2 : n ≤ 9223372036854775807) (h3 : b ≤ 9223372036854775807) (w : World) : Calls Try.prog 19 #[.int .i64 n, .int .i64 b] w fun e w' => e = .returned (.int .i64 (n % b)) ∧ w = w' := by
  have a1 := Int.tmod_lt_of_pos n hb
  have a2 : -b < n.tmod b := by have := Int.lt_tmod_of_pos n hb; omega
  have a3 : n % b = if n.tmod b < 0 then n.tmod b + b else n.tmod b := by
    rw [Int.tmod_eq_emod]
    have := Int.emod_nonneg n (b := b) (by omega)
    have := Int.emod_lt_of_pos n hb
    split <;> split <;> omega
  have A3 := Lib.hid a3; clear a3
  go_enter Try.func19, Try.ntmps19
  go_wp2
  all_goals go_ret
  all_goals exact ⟨ret_i (by rw [A3.out]; first | rw [if_pos (by assumption)] | rw [if_neg (by omega)]), rfl⟩

end Go.Proofs.Ytgbckdmhmkpahaa

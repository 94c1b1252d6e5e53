/-
  A set of strings in a map that a call makes, and names, in plain words (chapter 6: tools).
-/
import Derived.Test.YtpnfgmgoafgcbaaGreatA6
import Derived.Laws.IdiomStrings
set_option linter.unusedVariables false
set_option linter.unusedSimpArgs false
set_option linter.unusedVariables false
namespace Go.Proofs.YtpnfgmgoafgcbaaGreat
open Go.RowKit Go.Shelf
def SMap (w : World) (b : Nat) (es : List ByteArray) : Prop := ∃ l clock, w.heap[b]? = some (.map l clock) ∧ l.toList.map (fun e => (e.key, e.val)) = es.map fun e => (Value.string e, Value.bool true)
theorem beq_b1 {a b : ByteArray} (h : (a == b) = true) : a = b := by
  obtain ⟨x⟩ := a; obtain ⟨y⟩ := b
  have h2 : (x == y) = true := h
  rw [beq_iff_eq.1 h2]
theorem beq_b2 (a : ByteArray) : (a == a) = true := by
  obtain ⟨x⟩ := a
  show (x == x) = true
  exact beq_self_eq_true x
/-- Whether two strings are the same; whether a list has a string. -/
def sameS (a b : ByteArray) : Bool := a.toList == b.toList
theorem sameS_t {a b : ByteArray} : sameS a b = true ↔ a = b := Lib.bytes_beq_iff a b
theorem sameS_f {a b : ByteArray} : sameS a b = false ↔ a ≠ b := Lib.bytes_beq_false_iff a b
def hasS (es : List ByteArray) (s : ByteArray) : Bool := es.any (fun e => sameS e s)
theorem hasS_t {es : List ByteArray} {s : ByteArray} : hasS es s = true ↔ s ∈ es := by
  unfold hasS
  rw [List.any_eq_true]
  exact ⟨fun ⟨x, hx, h⟩ => by rw [← sameS_t.1 h]; exact hx, fun h => ⟨s, h, sameS_t.2 rfl⟩⟩
theorem hasS_f {es : List ByteArray} {s : ByteArray} : hasS es s = false ↔ s ∉ es := by
  rw [← hasS_t]; cases hasS es s <;> simp
theorem find_now_s (s : ByteArray) : ∀ (l : List MapEntry) (es : List ByteArray) (i : Nat), l.map (fun e => (e.key, e.val)) = es.map (fun e => (Value.string e, Value.bool true)) →
    (s ∉ es ∧ Instr.findNow .string (.string s) l i = some none) ∨ (s ∈ es ∧ ∃ j, Instr.findNow .string (.string s) l i = some (some (j, .bool true)))
  | [], [], i, _ => .inl ⟨by simp, rfl⟩
  | e :: l, x :: es, i, h => by
    simp only [List.map_cons, List.cons.injEq, Prod.mk.injEq] at h
    unfold Instr.findNow
    rw [h.1.1, h.1.2]
    by_cases hs : s = x
    · refine .inr ⟨by simp [hs], i, ?_⟩
      simp [Instr.sameNow, hs, beq_b2]
    · have hb : (s == x) = false := by cases h0 : (s == x) with
        | false => rfl
        | true => exact absurd (beq_b1 h0) hs
      rcases find_now_s s l es (i + 1) h.2 with ⟨h1, h2⟩ | ⟨h1, j, h2⟩
      · refine .inl ⟨by simp [hs, h1], ?_⟩
        simp [Instr.sameNow, hb, h2]
      · refine .inr ⟨by simp [h1], j, ?_⟩
        simp [Instr.sameNow, hb, h2]
  | [], x :: es, i, h => by simp at h
  | e :: l, [], i, h => by simp at h
theorem run_findKey_s (s : ByteArray) (w : World) (l : List MapEntry) (es : List ByteArray) (h : l.map (fun e => (e.key, e.val)) = es.map (fun e => (Value.string e, Value.bool true))) :
    (s ∉ es ∧ (Instr.findKey 9 (.string s) l).run Tryz.prog w = .ok none w) ∨ (s ∈ es ∧ ∃ j, (Instr.findKey 9 (.string s) l).run Tryz.prog w = .ok (some (j, .bool true)) w) := by
  unfold Instr.findKey
  rw [Sem.run_bind, run_underlying Tryz.underlying9]
  rcases find_now_s s l es 0 h with ⟨h1, h2⟩ | ⟨h1, j, h2⟩
  · exact .inl ⟨h1, by simp [h2, Result.andThen]⟩
  · exact .inr ⟨h1, j, by simp [h2, Result.andThen]⟩
theorem run_check_s (em : Bool) (s : ByteArray) (w : World) : (Instr.checkKey em 10000 9 (.string s)).run Tryz.prog w = .ok () w := by
  unfold Instr.checkKey
  simp [go_sem]
theorem run_look_s (s : ByteArray) (w : World) (g : Nat) (es : List ByteArray) (h : SMap w g es) :
    (Instr.lookup 226 (.map (some g)) (.string s) false).run Tryz.prog w = .ok (.bool (hasS es s)) w := by
  obtain ⟨l, clock, hb, hk⟩ := h
  have hz : (zeroValue 4).run Tryz.prog w = .ok (.bool false) w := by kernel_rfl
  have hc := run_check_s l.isEmpty s w
  have hf := run_findKey_s s w l.toList es hk
  unfold Instr.lookup
  rw [Sem.run_bind, run_underlying Tryz.underlying226]
  have hg : (getObj g).run Tryz.prog w = .ok (.map l clock) w := by simp [getObj, Sem.run, hb]
  simp only [Result.andThen_ok, Sem.run_bind, hg, Sem.run_pure, hc]
  rcases hf with ⟨h1, h2⟩ | ⟨h1, j, h2⟩
  · simp [h2, hz, hasS_f.2 h1]
  · simp [h2, hasS_t.2 h1]
/-- What a store of a new string makes of the map. -/
def putS (w : World) (g : Nat) (s : ByteArray) : Obj :=
  match w.heap[g]? with
  | some (.map es clock) => .map (es.push { key := .string s, val := .bool true, born := clock }) (clock + 1)
  | _ => .map #[] 0
theorem run_put_s (s : ByteArray) (w : World) (g : Nat) (es : List ByteArray) (h : SMap w g es) (hn : s ∉ es) :
    (Instr.mapUpdate 226 (.map (some g)) (.string s) (.bool true)).run Tryz.prog w = .ok () (w.putObj g (putS w g s)) := by
  obtain ⟨l, clock, hb, hk⟩ := h
  unfold Instr.mapUpdate
  rw [Sem.run_bind, run_underlying Tryz.underlying226]
  have hf := run_findKey_s s w l.toList es hk
  have hc := run_check_s false s w
  have hg : (getObj g).run Tryz.prog w = .ok (.map l clock) w := by simp [getObj, Sem.run, hb]
  simp only [Result.andThen_ok, Sem.run_bind, hg, hc]
  rcases hf with ⟨h1, h2⟩ | ⟨h1, j, h2⟩
  · simp only [h2, Result.andThen_ok]
    simp [setObj, Sem.run, hb, World.putObj, putS]
  · exact absurd h1 hn
theorem SMap.put {w : World} {g : Nat} {es : List ByteArray} (h : SMap w g es) (s : ByteArray) : SMap (w.putObj g (putS w g s)) g (es ++ [s]) := by
  obtain ⟨l, clock, hb, hk⟩ := h
  exact ⟨l.push { key := .string s, val := .bool true, born := clock }, clock + 1, (World.putObj_heap_same (Array.getElem?_eq_some_iff.1 hb).1).trans (by simp only [putS, hb]), by simp [hk]⟩
theorem SMap.made (w : World) : SMap (w.alloc (.map #[] 0)) w.heap.size [] := ⟨#[], 0, heap_alloc_new w _, rfl⟩
theorem SMap.lt {w : World} {b : Nat} {es : List ByteArray} (h : SMap w b es) : b < w.heap.size := by
  obtain ⟨l, clock, hb, r⟩ := h
  exact (Array.getElem?_eq_some_iff.1 hb).1
theorem SMap.below {w w' : World} {b B : Nat} {es : List ByteArray} (h : SMap w b es) (hb : Below B w w') (hlt : b < B) : SMap w' b es := by
  obtain ⟨l, clock, he, r⟩ := h
  exact ⟨l, clock, (hb.block b hlt).trans he, r⟩
theorem SMap.alloc {w : World} {b : Nat} {es : List ByteArray} (h : SMap w b es) (o : Obj) : SMap (w.alloc o) b es := by
  obtain ⟨l, clock, hb, r⟩ := h
  exact ⟨l, clock, (Below.heap_alloc w o b (Array.getElem?_eq_some_iff.1 hb).1).trans hb, r⟩
/-- Names: a letter, then letters, digits and '-'; 1 to 12 bytes. -/
def byN (s : ByteArray) (i : Nat) : Nat := (s.data.toList.getD i 0).toNat
def ltB (c : Nat) : Bool := (decide (97 ≤ c) && decide (c ≤ 122)) || (decide (65 ≤ c) && decide (c ≤ 90))
def chB (i c : Nat) : Bool := ltB c || (!(decide (i = 0)) && (decide (c = 45) || (decide (48 ≤ c) && decide (c ≤ 57))))
def nmB (s : ByteArray) : Bool := (List.range s.size).all (fun i => chB i (byN s i)) && (decide (1 ≤ s.size) && decide (s.size ≤ 12))
theorem byN_lt (s : ByteArray) (i : Nat) : byN s i < 256 := by unfold byN; exact UInt8.toNat_lt _
theorem byN_get (s : ByteArray) (i : Nat) (h : i < s.size) : (s[i]'h).toNat = byN s i := by
  obtain ⟨⟨l⟩⟩ := s
  have hl : i < l.length := h
  have e : (ByteArray.mk ⟨l⟩)[i]'h = l.getD i 0 := by
    simp only [List.getD, List.getElem?_eq_getElem hl, Option.getD_some]
    rfl
  rw [e]; rfl
/-- A list of strings, by its cells. -/
def SlS (w : World) (A : Option Addr) (xs : List ByteArray) : Prop := ∀ k s, xs[k]? = some s → ∃ b o, A = some ⟨b, o, none⟩ ∧ b < w.heap.size ∧ w.cell? ⟨b, o + k, none⟩ = some (.string s)
theorem SlS.below {w w' : World} {A : Option Addr} {xs : List ByteArray} (h : SlS w A xs) (hb : Below w.heap.size w w') : SlS w' A xs := fun k s hk => by
  obtain ⟨b, o, e, hl, hc⟩ := h k s hk
  exact ⟨b, o, e, Nat.lt_of_lt_of_le hl hb.size, (hb.cell (p := ⟨b, o + k, none⟩) hl).trans hc⟩
theorem sls_slv {w : World} {A : Option Addr} {xs : List ByteArray} : SlS w A xs ↔ SlV w A (xs.map Value.string) := by
  constructor
  · intro h j u hj
    rw [List.getElem?_map] at hj
    cases hx : xs[j]? with
    | none => rw [hx] at hj; cases hj
    | some s => rw [hx] at hj; cases hj; exact h j s hx
  · intro h k s hk
    exact h k _ (by rw [List.getElem?_map, hk]; rfl)
theorem SlS.take {w : World} {A : Option Addr} {xs : List ByteArray} (h : SlS w A xs) (n : Nat) : SlS w A (xs.take n) := fun k s hk => h k s (by
  rw [List.getElem?_take] at hk
  split at hk
  · exact hk
  · cases hk)
end Go.Proofs.YtpnfgmgoafgcbaaGreat

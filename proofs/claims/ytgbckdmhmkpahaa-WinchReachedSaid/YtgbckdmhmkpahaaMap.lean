/-
  A set of states: a map from states to bool that a call makes, in plain words, and the laws of its look-up and its store.
-/
import Derived.Test.YtgbckdmhmkpahaaBase
import Derived.Laws.StructEq
import Derived.LaidLaws
import Derived.RangeFuncNested
set_option linter.unusedVariables false
namespace Go.Proofs.Ytgbckdmhmkpahaa
open Go.RowKit Go.Shelf

/-- A state of a loop: error, command, heave. -/
abbrev St := Int × Int × Int
def stV (s : St) : Value := .agg #[.int .i64 s.1, .int .i64 s.2.1, .int .i64 s.2.2]

theorem run_equal_st (s t : St) (w : World) : (Op.equal 42 (stV s) (stV t)).run Try.prog w = .ok (decide (s = t)) w := by
  obtain ⟨a, b, c⟩ := s
  obtain ⟨x, y, z⟩ := t
  unfold Op.equal
  have h : Op.maxDepth = 9999 + 1 := rfl
  rw [h]
  simp only [stV]
  rw [run_equalIn_agg w 9999 42 _ _ (by kernel_rfl) (by kernel_rfl)]
  simp [go_sem]
  by_cases h1 : a = x <;> by_cases h2 : b = y <;> by_cases h3 : c = z <;> simp [h1, h2, h3]

theorem run_check_int (em : Bool) (n : Nat) (a : Int) (w : World) : (Instr.checkKey em (n + 1) 3 (.int .i64 a)).run Try.prog w = .ok () w := by
  unfold Instr.checkKey
  simp [go_sem]
theorem run_check_st (em : Bool) (s : St) (w : World) : (Instr.checkKey em 10000 42 (stV s)).run Try.prog w = .ok () w := by
  obtain ⟨a, b, c⟩ := s
  unfold Instr.checkKey
  simp [stV, go_sem, run_check_int em 9998]

/-- The entries of a set of states. -/
def StMap (w : World) (b : Nat) (ks : List St) : Prop := ∃ es clock, w.heap[b]? = some (.map es clock) ∧ es.toList.map (·.key) = ks.map stV ∧ ∀ e ∈ es, e.val = .bool true

theorem run_asking (s : St) (w : World) : ∀ (es : List MapEntry) (ks : List St) (i : Nat), es.map (·.key) = ks.map stV → (∀ e ∈ es, e.val = .bool true) →
    (s ∉ ks ∧ (Instr.findAsking 42 (stV s) es i).run Try.prog w = .ok none w) ∨ (s ∈ ks ∧ ∃ j, (Instr.findAsking 42 (stV s) es i).run Try.prog w = .ok (some (j, .bool true)) w)
  | [], [], i, _, _ => .inl ⟨by simp, by simp [Instr.findAsking]⟩
  | e :: es, k :: ks, i, h, hv => by
    simp only [List.map_cons, List.cons.injEq] at h
    have he := run_equal_st s k w
    rw [← h.1] at he
    by_cases hs : s = k
    · subst hs
      refine .inr ⟨by simp, i, ?_⟩
      unfold Instr.findAsking
      simp [Sem.run_bind, he, hv e (by simp)]
    · rcases run_asking s w es ks (i + 1) h.2 (fun x hx => hv x (by simp [hx])) with ⟨h1, h2⟩ | ⟨h1, j, h2⟩
      · refine .inl ⟨by simp [hs, h1], ?_⟩
        unfold Instr.findAsking
        simp [Sem.run_bind, he, hs, h2]
      · refine .inr ⟨by simp [h1], j, ?_⟩
        unfold Instr.findAsking
        simp [Sem.run_bind, he, hs, h2]
  | [], k :: ks, i, h, _ => by simp at h
  | e :: es, [], i, h, _ => by simp at h

theorem run_findKey_st (s : St) (w : World) (es : List MapEntry) (ks : List St) (h : es.map (·.key) = ks.map stV) (hv : ∀ e ∈ es, e.val = .bool true) :
    (s ∉ ks ∧ (Instr.findKey 42 (stV s) es).run Try.prog w = .ok none w) ∨ (s ∈ ks ∧ ∃ j, (Instr.findKey 42 (stV s) es).run Try.prog w = .ok (some (j, .bool true)) w) := by
  have hA := run_asking s w es ks 0 h hv
  unfold Instr.findKey
  rw [Sem.run_bind, run_underlying Try.underlying42]
  cases es with
  | nil => 
    have hk : ks = [] := by simpa using h.symm
    subst hk
    exact .inl ⟨by simp, by simp [Instr.findNow, Result.andThen]⟩
  | cons e es =>
    have hn : ∀ d, Instr.findNow (.struct d) (stV s) (e :: es) 0 = none := fun d => by
      unfold Instr.findNow; simp [Instr.sameNow]
    simpa [hn, Result.andThen] using hA

theorem run_lookup_st (s : St) (w : World) (b : Nat) (ks : List St) (h : StMap w b ks) :
    (Instr.lookup 192 (.map (some b)) (stV s) false).run Try.prog w = .ok (.bool (decide (s ∈ ks))) w := by
  obtain ⟨es, clock, hb, hk, hv⟩ := h
  have hz : (zeroValue 4).run Try.prog w = .ok (.bool false) w := by kernel_rfl
  unfold Instr.lookup
  rw [Sem.run_bind, run_underlying Try.underlying192]
  have hf := run_findKey_st s w es.toList ks hk (by simpa using hv)
  have hg : (getObj b).run Try.prog w = .ok (.map es clock) w := by simp [getObj, Sem.run, hb]
  simp only [Result.andThen_ok, Sem.run_bind, hg, Sem.run_pure, run_check_st]
  rcases hf with ⟨h1, h2⟩ | ⟨h1, j, h2⟩
  · simp [h2, hz, h1]
  · simp [h2, h1]

theorem run_update_st (s : St) (w : World) (b : Nat) (ks : List St) (h : StMap w b ks) (hn : s ∉ ks) :
    ∃ o, (Instr.mapUpdate 192 (.map (some b)) (stV s) (.bool true)).run Try.prog w = .ok () (w.putObj b o) ∧ StMap (w.putObj b o) b (ks ++ [s]) := by
  obtain ⟨es, clock, hb, hk, hv⟩ := h
  refine ⟨.map (es.push { key := (stV s), val := .bool true, born := clock }) (clock + 1), ?_, ?_⟩
  · unfold Instr.mapUpdate
    rw [Sem.run_bind, run_underlying Try.underlying192]
    have hf := run_findKey_st s w es.toList ks hk (by simpa using hv)
    have hg : (getObj b).run Try.prog w = .ok (.map es clock) w := by simp [getObj, Sem.run, hb]
    simp only [Result.andThen_ok, Sem.run_bind, hg, run_check_st]
    rcases hf with ⟨h1, h2⟩ | ⟨h1, j, h2⟩
    · simp only [h2, Result.andThen_ok]
      simp [setObj, Sem.run, hb, World.putObj]
    · exact absurd h1 hn
  · refine ⟨_, _, World.putObj_heap_same (Array.getElem?_eq_some_iff.1 hb).1, by simp [hk], fun e he => ?_⟩
    rcases Array.mem_push.1 he with he | rfl
    · exact hv e he
    · rfl

/-- What a store of a new state makes of the map. -/
def putSt (w : World) (b : Nat) (s : St) : Obj :=
  match w.heap[b]? with
  | some (.map es clock) => .map (es.push { key := stV s, val := .bool true, born := clock }) (clock + 1)
  | _ => .map #[] 0
theorem run_put_st (x y z : Int) (w : World) (b : Nat) (ks : List St) (h : StMap w b ks) (hn : (x, y, z) ∉ ks) :
    (Instr.mapUpdate 192 (.map (some b)) (.agg #[.int .i64 x, .int .i64 y, .int .i64 z]) (.bool true)).run Try.prog w = .ok () (w.putObj b (putSt w b (x, y, z))) := by
  obtain ⟨es, clock, hb, hk, hv⟩ := h
  unfold Instr.mapUpdate
  rw [Sem.run_bind, run_underlying Try.underlying192]
  have hf := run_findKey_st (x, y, z) w es.toList ks hk (by simpa using hv)
  have hc := run_check_st false (x, y, z) w
  have hg : (getObj b).run Try.prog w = .ok (.map es clock) w := by simp [getObj, Sem.run, hb]
  simp only [stV] at hf hc
  simp only [Result.andThen_ok, Sem.run_bind, hg, hc]
  rcases hf with ⟨h1, h2⟩ | ⟨h1, j, h2⟩
  · simp only [h2, Result.andThen_ok]
    simp [setObj, Sem.run, hb, World.putObj, putSt, stV]
  · exact absurd h1 hn
theorem StMap.put {w : World} {b : Nat} {ks : List St} (h : StMap w b ks) (s : St) : StMap (w.putObj b (putSt w b s)) b (ks ++ [s]) := by
  obtain ⟨es, clock, hb, hk, hv⟩ := h
  refine ⟨es.push { key := stV s, val := .bool true, born := clock }, clock + 1, (World.putObj_heap_same (Array.getElem?_eq_some_iff.1 hb).1).trans (by simp only [putSt, hb]), by simp [hk], fun e he => ?_⟩
  rcases Array.mem_push.1 he with he | rfl
  · exact hv e he
  · rfl
theorem run_look_st (x y z : Int) (w : World) (b : Nat) (ks : List St) (h : StMap w b ks) :
    (Instr.lookup 192 (.map (some b)) (.agg #[.int .i64 x, .int .i64 y, .int .i64 z]) false).run Try.prog w = .ok (.bool (decide ((x, y, z) ∈ ks))) w :=
  run_lookup_st (x, y, z) w b ks h
theorem StMap.made (w : World) : StMap (w.alloc (.map #[] 0)) w.heap.size [] := ⟨#[], 0, heap_alloc_new w _, rfl, by simp⟩

theorem StMap.madeAt (w : World) (g : Nat) (hg : g = w.heap.size) : StMap (w.alloc (.map #[] 0)) g [] := hg ▸ StMap.made w
theorem StMap.putOther {w : World} {b : Nat} {ks : List St} (h : StMap w b ks) {k : Nat} (hk : b ≠ k) (o : Obj) : StMap (w.putObj k o) b ks := by
  obtain ⟨es, clock, hb, r⟩ := h
  exact ⟨es, clock, (World.putObj_heap_other hk).trans hb, r⟩
theorem StMap.setCell {w : World} {b : Nat} {ks : List St} (h : StMap w b ks) (p : Addr) (u : Value) : StMap (w.setCell p u) b ks := by
  obtain ⟨es, clock, hb, r⟩ := h
  refine ⟨es, clock, ?_, r⟩
  simp only [World.setCell, Array.getElem?_modify, hb]
  split <;> rfl
theorem StMap.alloc {w : World} {b : Nat} {ks : List St} (h : StMap w b ks) (o : Obj) : StMap (w.alloc o) b ks := by
  obtain ⟨es, clock, hb, r⟩ := h
  exact ⟨es, clock, (Below.heap_alloc w o b (Array.getElem?_eq_some_iff.1 hb).1).trans hb, r⟩
theorem StMap.below {w w' : World} {b B : Nat} {ks : List St} (h : StMap w b ks) (hb : Below B w w') (hlt : b < B) : StMap w' b ks := by
  obtain ⟨es, clock, he, r⟩ := h
  exact ⟨es, clock, (hb.block b hlt).trans he, r⟩
theorem StMap.drew {w : World} {b : Nat} {ks : List St} (h : StMap w b ks) : StMap w.drew b ks := h

end Go.Proofs.Ytgbckdmhmkpahaa

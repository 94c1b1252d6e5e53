/-
  The reference's search (chapter 2): the walk of 'explored'.
-/
import Derived.Test.YtgbckdmhmkpahaaExpP
import Derived.Test.YtgbckdmhmkpahaaRefNext
import Derived.Deep.AppendLies
import Derived.Deep.DeepCutAuto
import Derived.Deep.CutBlock
set_option linter.unusedVariables false
namespace Go.Proofs.Ytgbckdmhmkpahaa
open Go.RowKit Go.Shelf

theorem own_gr {W W' : World} {b : Nat} {e : TypeId} {sz : Nat} {g n c k : Nat} {xs : List Value} (h : W.ownsRow b e sz (.slice (some ⟨g, 0, none⟩) n c) n xs) (hg : W.grownBy W' (some k)) (hne : g ≠ k) : W'.ownsRow b e sz (.slice (some ⟨g, 0, none⟩) n c) n xs :=
  own_same h fun j hj => by
    have e1 : g = j := by simpa [Value.ownBlock] using hj
    subst e1
    rcases h.2 with ⟨e2, _⟩ | ⟨_, _, _, e2, _, hh, _⟩
    · cases e2
    · cases e2
      exact hg.block g (Array.getElem?_eq_some_iff.1 hh).1 (fun e => by injection e with e; omega)
theorem own_setF {W : World} {b : Nat} {e : TypeId} {sz : Nat} {g n c : Nat} {xs : List Value} (h : W.ownsRow b e sz (.slice (some ⟨g, 0, none⟩) n c) n xs) {p : Addr} (hne : g ≠ p.block) (u : Value) : (W.setCell p u).ownsRow b e sz (.slice (some ⟨g, 0, none⟩) n c) n xs :=
  own_same h fun j hj => by
    have e1 : g = j := by simpa [Value.ownBlock] using hj
    subst e1
    exact Below.heap_setCell W p u _ hne
theorem box_gr {w w' : World} {g b : Nat} {t : TypeId} {cs : Array Value} (h : Box w g t cs) (hg : w.grownBy w' (some b)) (hne : g ≠ b) : Box w' g t cs := (hg.block g h.lt (fun e => hne (by injection e))).trans h
theorem own_lt {W : World} {b : Nat} {e : TypeId} {sz : Nat} {g n c : Nat} {xs : List Value} (h : W.ownsRow b e sz (.slice (some ⟨g, 0, none⟩) n c) n xs) : g < W.heap.size ∧ b ≤ g := by
  rcases h.2 with ⟨e2, _⟩ | ⟨_, _, _, e2, hb, hh, _⟩
  · cases e2
  · cases e2; exact ⟨(Array.getElem?_eq_some_iff.1 hh).1, hb⟩
theorem own_box {W : World} {b : Nat} {e : TypeId} {g n : Nat} {xs : List Value} (h : W.ownsRow b e 1 (.slice (some ⟨g, 0, none⟩) n n) n xs) : Box W g e xs.toArray := by
  rcases h.2 with ⟨e2, _⟩ | ⟨_, _, cur, e2, hb, hh, _, _, hcs, ht⟩
  · cases e2
  · cases e2
    have : xs.toArray = cur := by rw [← ht, List.take_of_length_le (by simp; omega)]
    rw [this]; exact hh

/-- What the blocks of 'explored' hold. -/
structure MX (T : List Int) (A : Option Addr) (c : Nat) (lo hi turn slew : Int) (n0 N : Nat) (w0 : World) (l7 : List St3) (l8 l9 L : List Int) (g7 c7 g8 c8 g9 c9 gs : Nat) (W : World) : Prop where
  bl : Box W n0 26 #[.slice A T.length c, .int .i64 lo, .int .i64 hi, .int .i64 turn, .int .i64 slew]
  o7 : W.ownsRow (n0 + 1) 42 3 (.slice (some ⟨g7, 0, none⟩) l7.length c7) l7.length (l7.flatMap st3V)
  o8 : W.ownsRow (n0 + 1) 3 1 (.slice (some ⟨g8, 0, none⟩) l8.length c8) l8.length (l8.map (Value.int .i64))
  o9 : W.ownsRow (n0 + 1) 3 1 (.slice (some ⟨g9, 0, none⟩) l9.length c9) l9.length (l9.map (Value.int .i64))
  bs : Box W gs 4 (marks N L).toArray
  hn : n0 < gs ∧ g7 ≠ g8 ∧ g7 ≠ g9 ∧ g8 ≠ g9 ∧ g7 ≠ gs ∧ g8 ≠ gs ∧ g9 ≠ gs
  be : Below n0 w0 W
theorem MX.keep {T : List Int} {A : Option Addr} {c : Nat} {lo hi turn slew : Int} {n0 N : Nat} {w0 : World} {l7 : List St3} {l8 l9 L : List Int} {g7 c7 g8 c8 g9 c9 gs : Nat} {W W' : World} (h : MX T A c lo hi turn slew n0 N w0 l7 l8 l9 L g7 c7 g8 c8 g9 c9 gs W) (hb : Below W.heap.size W W') : MX T A c lo hi turn slew n0 N w0 l7 l8 l9 L g7 c7 g8 c8 g9 c9 gs W' :=
  ⟨h.bl.below hb h.bl.lt, own_below h.o7 hb, own_below h.o8 hb, own_below h.o9 hb, h.bs.below hb h.bs.lt, h.hn, h.be.trans (hb.mono (by have := h.bl.lt; omega))⟩
/-- A mark. -/
theorem MX.mark {T : List Int} {A : Option Addr} {c : Nat} {lo hi turn slew : Int} {n0 N : Nat} {w0 : World} {l7 : List St3} {l8 l9 L : List Int} {g7 c7 g8 c8 g9 c9 gs : Nat} {W : World} (h : MX T A c lo hi turn slew n0 N w0 l7 l8 l9 L g7 c7 g8 c8 g9 c9 gs W) {k : Nat} (hk : k < N) : MX T A c lo hi turn slew n0 N w0 l7 l8 l9 (L ++ [(k : Int)]) g7 c7 g8 c8 g9 c9 gs (W.setCell ⟨gs, k, none⟩ (.bool true)) := by
  obtain ⟨bl, o7, o8, o9, bs, hn, be⟩ := h
  refine ⟨bl.far (by show n0 ≠ gs; omega) _, own_setF o7 (p := ⟨gs, k, none⟩) (by show g7 ≠ gs; omega) _, own_setF o8 (p := ⟨gs, k, none⟩) (by show g8 ≠ gs; omega) _, own_setF o9 (p := ⟨gs, k, none⟩) (by show g9 ≠ gs; omega) _, ?_, hn, be.setCell (p := ⟨gs, k, none⟩) (by show n0 ≤ gs; omega) _⟩
  rw [← marks_set hk]
  exact bs.set k _
/-- One element more in each of the three lists. -/
theorem MX.more {T : List Int} {A : Option Addr} {c : Nat} {lo hi turn slew : Int} {n0 N : Nat} {w0 : World} {l7 : List St3} {l8 l9 L : List Int} {g7 c7 g8 c8 g9 c9 gs g7' c7' g8' c8' g9' c9' : Nat} {W w1 w2 w3 : World} {n : St3} {i x : Int} {u1 u2 u3 : Obj} (h : MX T A c lo hi turn slew n0 N w0 l7 l8 l9 L g7 c7 g8 c8 g9 c9 gs W)
    (p7 : w1.ownsRow (n0 + 1) 42 3 (.slice (some ⟨g7', 0, none⟩) (l7.length + 1) c7') (l7.length + 1) (l7.flatMap st3V ++ st3V n)) (q7 : (W.alloc u1).grownBy w1 (some g7)) (e7 : g7 = g7' ∨ g7' = (W.alloc u1).heap.size)
    (p8 : w2.ownsRow (n0 + 1) 3 1 (.slice (some ⟨g8', 0, none⟩) (l8.length + 1) c8') (l8.length + 1) (l8.map (Value.int .i64) ++ [.int .i64 i])) (q8 : (w1.alloc u2).grownBy w2 (some g8)) (e8 : g8 = g8' ∨ g8' = (w1.alloc u2).heap.size)
    (p9 : w3.ownsRow (n0 + 1) 3 1 (.slice (some ⟨g9', 0, none⟩) (l9.length + 1) c9') (l9.length + 1) (l9.map (Value.int .i64) ++ [.int .i64 x])) (q9 : (w2.alloc u3).grownBy w3 (some g9)) (e9 : g9 = g9' ∨ g9' = (w2.alloc u3).heap.size) :
    MX T A c lo hi turn slew n0 N w0 (l7 ++ [n]) (l8 ++ [i]) (l9 ++ [x]) L g7' c7' g8' c8' g9' c9' gs w3 := by
  obtain ⟨bl, o7, o8, o9, bs, hn, be⟩ := h
  obtain ⟨t7, b7⟩ := own_lt o7; obtain ⟨t8, b8⟩ := own_lt o8; obtain ⟨t9, b9⟩ := own_lt o9
  have s1 := q7.size; have s2 := q8.size; have s3 := q9.size
  have ll := bl.lt; have ls := bs.lt
  have r7 := (own_lt p7).1; have r8 := (own_lt p8).1
  have z0 := be.size
  simp at s1 s2 s3 e7 e8 e9
  refine ⟨?_, ?_, ?_, ?_, ?_, by omega, ?_⟩
  · exact box_gr ((box_gr ((box_gr (bl.alloc u1) q7 (by omega)).alloc u2) q8 (by omega)).alloc u3) q9 (by omega)
  · have := own_gr ((own_gr (p7.alloc u2) q8 (by omega)).alloc u3) q9 (by omega)
    simpa [List.flatMap_append] using this
  · have := own_gr (p8.alloc u3) q9 (by omega)
    simpa using this
  · simpa using p9
  · exact box_gr ((box_gr ((box_gr (bs.alloc u1) q7 (by omega)).alloc u2) q8 (by omega)).alloc u3) q9 (by omega)
  · refine ((((((be.alloc (by omega) u1).grown q7 (by first | omega | (simp; omega)) (fun k e => by injection e with e; omega)).alloc (by first | omega | (simp; omega)) u2).grown q8 (by first | omega | (simp; omega)) (fun k e => by injection e with e; omega)).alloc (by first | omega | (simp; omega)) u3).grown q9 (by first | omega | (simp; omega)) (fun k e => by injection e with e; omega))

end Go.Proofs.Ytgbckdmhmkpahaa

/-
  The walk of a latch's event (chapter 2).
-/
import Derived.Test.YtgbckdmhmkpahaaLatch
set_option linter.unusedVariables false
namespace Go.Proofs.Ytgbckdmhmkpahaa
open Go.RowKit Go.Shelf

abbrev LSt := Bool × Int × Int
/-- The next state of a latch after an event, and an error. -/
def stepL (lim hold : Int) (s : LSt) (e : Int × Int × Int) : LSt × Int :=
  if e.2.1 = 0 then ((s.1, e.2.2, if lim < e.2.2 then -1 else if s.2.2 < 0 then e.1 else s.2.2), 0)
  else if (e.2.1 == 2) = s.1 then ((false, 0, 0), 20)
  else if s.2.2 < 0 ∨ e.1 - s.2.2 < hold then ((false, 0, 0), 24)
  else (((e.2.1 == 2), s.2.1, s.2.2), 0)

/-- All blocks but g are as they were. -/
structure Keep (g : Nat) (w w' : World) : Prop where
  os : w'.os = w.os
  tape : w'.tape = w.tape
  output : w'.output = w.output
  size : w.heap.size ≤ w'.heap.size
  block : ∀ k, k < w.heap.size → k ≠ g → w'.heap[k]? = w.heap[k]?
theorem Keep.box {g h : Nat} {w w' : World} {t : TypeId} {cs : Array Value} (k : Keep g w w') (hb : Box w h t cs) (hne : h ≠ g) : Box w' h t cs := (k.block h hb.lt hne).trans hb
theorem Keep.below {g B : Nat} {a w w' : World} (k : Keep g w w') (hb : Below B a w) (hg : B ≤ g) (hlt : g < w.heap.size) : Below B a w' :=
  ⟨k.os.trans hb.os, k.tape.trans hb.tape, k.output.trans hb.output, Nat.le_trans hb.size k.size, fun i hi => (k.block i (by omega) (by omega)).trans (hb.block i hi)⟩
theorem Keep.of_below {g : Nat} {w w' : World} (hb : Below w.heap.size w w') : Keep g w w' := ⟨hb.os, hb.tape, hb.output, hb.size, fun k hk _ => hb.block k hk⟩
theorem Keep.setCell {g : Nat} {a w : World} (k : Keep g a w) (o : Nat) (u : Value) : Keep g a (w.setCell ⟨g, o, none⟩ u) :=
  ⟨k.os, k.tape, k.output, by simpa [World.setCell] using k.size, fun i hi hne => (Below.heap_setCell w ⟨g, o, none⟩ u i hne).trans (k.block i hi hne)⟩
theorem Keep.drewN {g : Nat} {a w : World} (k : Keep g a w) (n : Nat) : Keep g a (w.drewN n) := ⟨k.os, k.tape, k.output, k.size, k.block⟩

theorem Keep.refl (g : Nat) (w : World) : Keep g w w := ⟨rfl, rfl, rfl, Nat.le_refl _, fun _ _ _ => rfl⟩
theorem Keep.drew {g : Nat} {a w : World} (k : Keep g a w) : Keep g a w.drew := ⟨k.os, k.tape, k.output, k.size, k.block⟩
theorem Keep.alloc {g : Nat} {a w : World} (k : Keep g a w) (o : Obj) : Keep g a (w.alloc o) :=
  ⟨k.os, k.tape, k.output, by have := k.size; simp; omega, fun i hi hne => (Below.heap_alloc w o i (Nat.lt_of_lt_of_le hi k.size)).trans (k.block i hi hne)⟩

/-- What the latch's state is behind an event. -/
def evSt (lim hold : Int) (s : LSt) (e : Int × Int × Int) : LSt := if (stepL lim hold s e).2 = 0 then (stepL lim hold s e).1 else s
/-- A latch with its state, in a block. -/
def LBox (w : World) (g : Nat) (lim hold : Int) (s : LSt) : Prop := Box w g 189 #[.int .i64 lim, .int .i64 hold, .bool s.1, .int .i64 s.2.1, .int .i64 s.2.2]

set_option maxHeartbeats 4000000 in
set_option maxRecDepth 100000 in
theorem event_c (lim hold : Int) (cl : Bool) (ld sn at' kd vl : Int) (g : Nat) (w : World) (hb : LBox w g lim hold (cl, ld, sn)) (h1 : -1 ≤ sn ∧ sn ≤ 1000000000000) (h2 : 0 ≤ at' ∧ at' ≤ 1000000000000) :
    Calls Try.prog 127 #[.pointer (some ⟨g, 0, none⟩), .agg #[.int .i64 at', .int .i64 kd, .int .i64 vl]] w fun e w' => e = .returned (.int .i64 (stepL lim hold (cl, ld, sn) (at', kd, vl)).2) ∧
      LBox w' g lim hold (evSt lim hold (cl, ld, sn) (at', kd, vl)) ∧ Keep g w w' := by
  have q := hb
  unfold LBox at q
  have c0 := q.cell 0; have c1 := q.cell 1; have c2 := q.cell 2; have c3 := q.cell 3; have c4 := q.cell 4
  have qf := q.froz
  simp at c0 c1 c2 c3 c4
  have hl := q.lt
  have Q := Lib.hid q
  clear q hb
  have ES := Lib.hid (show evSt lim hold (cl, ld, sn) (at', kd, vl) = if (stepL lim hold (cl, ld, sn) (at', kd, vl)).2 = 0 then (stepL lim hold (cl, ld, sn) (at', kd, vl)).1 else (cl, ld, sn) from rfl)
  generalize evSt lim hold (cl, ld, sn) (at', kd, vl) = es at *
  by_cases hk : kd = 0
  · have e0 : (kd == 0) = true := beqT hk
    have R := Lib.hid (show stepL lim hold (cl, ld, sn) (at', kd, vl) = ((cl, vl, if lim < vl then -1 else if sn < 0 then at' else sn), 0) from if_pos hk)
    clear hk
    by_cases h3 : lim < vl
    · rw [if_pos h3] at R
      generalize stepL lim hold (cl, ld, sn) (at', kd, vl) = r at *
      go_enter Try.func127, Try.ntmps127
      go_wp2
      go_quiet (fail)
      go_wp2
      go_ret
      refine ⟨ret_i (by rw [R.out]), ?_, ?_⟩
      · rw [ES.out, R.out, if_pos rfl]; unfold LBox; have q := Q.out; focus (apply Box.via; apply Exists.intro; apply And.intro; (repeat first | with_reducible assumption | with_reducible exact Box.new _ _ _ | ((with_reducible apply Box.newAt); focus (simp; done)) | (with_reducible apply Box.drew) | (with_reducible apply Box.drewN) | (with_reducible apply Box.set) | (with_reducible apply Box.alloc) | (with_reducible apply Box.far)); all_goals (first | with_reducible exact Nat.le_refl _ | omega | (simp; done) | (simp; omega) | (omega) | ((try simp); omega)))
      · (repeat first | with_reducible exact Keep.refl _ _ | (with_reducible refine Keep.setCell ?_ _ _) | (with_reducible refine Keep.drewN ?_ _) | (with_reducible refine Keep.alloc ?_ _) | (with_reducible refine Keep.drew ?_))
    · rw [if_neg h3] at R
      by_cases h4 : sn < 0
      · rw [if_pos h4] at R
        generalize stepL lim hold (cl, ld, sn) (at', kd, vl) = r at *
        go_enter Try.func127, Try.ntmps127
        go_wp2
        go_quiet (fail)
        go_wp2
        go_ret
        refine ⟨ret_i (by rw [R.out]), ?_, ?_⟩
        · rw [ES.out, R.out, if_pos rfl]; unfold LBox; have q := Q.out; focus (apply Box.via; apply Exists.intro; apply And.intro; (repeat first | with_reducible assumption | with_reducible exact Box.new _ _ _ | ((with_reducible apply Box.newAt); focus (simp; done)) | (with_reducible apply Box.drew) | (with_reducible apply Box.drewN) | (with_reducible apply Box.set) | (with_reducible apply Box.alloc) | (with_reducible apply Box.far)); all_goals (first | with_reducible exact Nat.le_refl _ | omega | (simp; done) | (simp; omega) | (omega) | ((try simp); omega)))
        · (repeat first | with_reducible exact Keep.refl _ _ | (with_reducible refine Keep.setCell ?_ _ _) | (with_reducible refine Keep.drewN ?_ _) | (with_reducible refine Keep.alloc ?_ _) | (with_reducible refine Keep.drew ?_))
      · rw [if_neg h4] at R
        generalize stepL lim hold (cl, ld, sn) (at', kd, vl) = r at *
        go_enter Try.func127, Try.ntmps127
        go_wp2
        go_quiet (fail)
        go_wp2
        go_ret
        refine ⟨ret_i (by rw [R.out]), ?_, ?_⟩
        · rw [ES.out, R.out, if_pos rfl]; unfold LBox; have q := Q.out; focus (apply Box.via; apply Exists.intro; apply And.intro; (repeat first | with_reducible assumption | with_reducible exact Box.new _ _ _ | ((with_reducible apply Box.newAt); focus (simp; done)) | (with_reducible apply Box.drew) | (with_reducible apply Box.drewN) | (with_reducible apply Box.set) | (with_reducible apply Box.alloc) | (with_reducible apply Box.far)); all_goals (first | with_reducible exact Nat.le_refl _ | omega | (simp; done) | (simp; omega) | (omega) | ((try simp); omega)))
        · (repeat first | with_reducible exact Keep.refl _ _ | (with_reducible refine Keep.setCell ?_ _ _) | (with_reducible refine Keep.drewN ?_ _) | (with_reducible refine Keep.alloc ?_ _) | (with_reducible refine Keep.drew ?_))
  · have e0 : (kd == 0) = false := beqF hk
    by_cases h3 : (kd == 2) = cl
    · have R := Lib.hid (show stepL lim hold (cl, ld, sn) (at', kd, vl) = ((false, 0, 0), 20) by unfold stepL; rw [if_neg hk, if_pos h3])
      have h3' : ((kd == 2) == cl) = true := by simpa using h3
      have H3 := Lib.hid h3
      clear hk h3
      generalize stepL lim hold (cl, ld, sn) (at', kd, vl) = r at *
      go_enter Try.func127, Try.ntmps127
      go_wp2
      go_ret
      refine ⟨ret_i (by rw [R.out]), ?_, ?_⟩
      · rw [ES.out, R.out, if_neg (by decide)]; unfold LBox; have q := Q.out; focus (apply Box.via; apply Exists.intro; apply And.intro; (repeat first | with_reducible assumption | with_reducible exact Box.new _ _ _ | ((with_reducible apply Box.newAt); focus (simp; done)) | (with_reducible apply Box.drew) | (with_reducible apply Box.drewN) | (with_reducible apply Box.set) | (with_reducible apply Box.alloc) | (with_reducible apply Box.far)); all_goals (first | with_reducible exact Nat.le_refl _ | omega | (simp; done) | (simp; omega) | (omega) | ((try simp); omega)))
      · (repeat first | with_reducible exact Keep.refl _ _ | (with_reducible refine Keep.setCell ?_ _ _) | (with_reducible refine Keep.drewN ?_ _) | (with_reducible refine Keep.alloc ?_ _) | (with_reducible refine Keep.drew ?_))
    · have h3' : ((kd == 2) == cl) = false := by simpa using h3
      have hd : (sn < 0) ∨ (0 ≤ sn ∧ at' - sn < hold) ∨ (0 ≤ sn ∧ hold ≤ at' - sn) := by omega
      rcases hd with h4 | ⟨h4, h5⟩ | ⟨h4, h5⟩
      · have R := Lib.hid (show stepL lim hold (cl, ld, sn) (at', kd, vl) = ((false, 0, 0), 24) by unfold stepL; rw [if_neg hk, if_neg h3, if_pos (.inl h4)])
        clear hk h3
        have d4 : decide (sn < 0) = true := decide_eq_true h4
        generalize stepL lim hold (cl, ld, sn) (at', kd, vl) = r at *
        go_enter Try.func127, Try.ntmps127
        go_wp2
        go_quiet (fail)
        go_wp2
        go_ret
        refine ⟨ret_i (by rw [R.out]), ?_, ?_⟩
        · rw [ES.out, R.out, if_neg (by decide)]; unfold LBox; have q := Q.out; focus (apply Box.via; apply Exists.intro; apply And.intro; (repeat first | with_reducible assumption | with_reducible exact Box.new _ _ _ | ((with_reducible apply Box.newAt); focus (simp; done)) | (with_reducible apply Box.drew) | (with_reducible apply Box.drewN) | (with_reducible apply Box.set) | (with_reducible apply Box.alloc) | (with_reducible apply Box.far)); all_goals (first | with_reducible exact Nat.le_refl _ | omega | (simp; done) | (simp; omega) | (omega) | ((try simp); omega)))
        · (repeat first | with_reducible exact Keep.refl _ _ | (with_reducible refine Keep.setCell ?_ _ _) | (with_reducible refine Keep.drewN ?_ _) | (with_reducible refine Keep.alloc ?_ _) | (with_reducible refine Keep.drew ?_))
      · have R := Lib.hid (show stepL lim hold (cl, ld, sn) (at', kd, vl) = ((false, 0, 0), 24) by unfold stepL; rw [if_neg hk, if_neg h3, if_pos (.inr h5)])
        clear hk h3
        have d4 : decide (sn < 0) = false := decide_eq_false (by omega)
        generalize stepL lim hold (cl, ld, sn) (at', kd, vl) = r at *
        go_enter Try.func127, Try.ntmps127
        go_wp2
        go_quiet (fail)
        go_wp2
        go_ret
        refine ⟨ret_i (by rw [R.out]), ?_, ?_⟩
        · rw [ES.out, R.out, if_neg (by decide)]; unfold LBox; have q := Q.out; focus (apply Box.via; apply Exists.intro; apply And.intro; (repeat first | with_reducible assumption | with_reducible exact Box.new _ _ _ | ((with_reducible apply Box.newAt); focus (simp; done)) | (with_reducible apply Box.drew) | (with_reducible apply Box.drewN) | (with_reducible apply Box.set) | (with_reducible apply Box.alloc) | (with_reducible apply Box.far)); all_goals (first | with_reducible exact Nat.le_refl _ | omega | (simp; done) | (simp; omega) | (omega) | ((try simp); omega)))
        · (repeat first | with_reducible exact Keep.refl _ _ | (with_reducible refine Keep.setCell ?_ _ _) | (with_reducible refine Keep.drewN ?_ _) | (with_reducible refine Keep.alloc ?_ _) | (with_reducible refine Keep.drew ?_))
      · have R := Lib.hid (show stepL lim hold (cl, ld, sn) (at', kd, vl) = (((kd == 2), ld, sn), 0) by unfold stepL; rw [if_neg hk, if_neg h3, if_neg (show ¬ (sn < 0 ∨ at' - sn < hold) by omega)])
        clear hk h3
        have d4 : decide (sn < 0) = false := decide_eq_false (by omega)
        generalize stepL lim hold (cl, ld, sn) (at', kd, vl) = r at *
        go_enter Try.func127, Try.ntmps127
        go_wp2
        go_quiet (fail)
        go_wp2
        go_ret
        refine ⟨ret_i (by rw [R.out]), ?_, ?_⟩
        · rw [ES.out, R.out, if_pos rfl]; unfold LBox; have q := Q.out; focus (apply Box.via; apply Exists.intro; apply And.intro; (repeat first | with_reducible assumption | with_reducible exact Box.new _ _ _ | ((with_reducible apply Box.newAt); focus (simp; done)) | (with_reducible apply Box.drew) | (with_reducible apply Box.drewN) | (with_reducible apply Box.set) | (with_reducible apply Box.alloc) | (with_reducible apply Box.far)); all_goals (first | with_reducible exact Nat.le_refl _ | omega | (simp; done) | (simp; omega) | (omega) | ((try simp); omega)))
        · (repeat first | with_reducible exact Keep.refl _ _ | (with_reducible refine Keep.setCell ?_ _ _) | (with_reducible refine Keep.drewN ?_ _) | (with_reducible refine Keep.alloc ?_ _) | (with_reducible refine Keep.drew ?_))

end Go.Proofs.Ytgbckdmhmkpahaa

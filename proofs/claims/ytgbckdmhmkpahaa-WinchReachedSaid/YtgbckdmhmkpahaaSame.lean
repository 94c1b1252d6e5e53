/-
  Small functions of the references of loops (chapter 2): CopyLoop, SameStates, few.
-/
import Derived.Test.YtgbckdmhmkpahaaRefs
import Derived.Test.YtgbckdmhmkpahaaEq
import Derived.Test.YtgbckdmhmkpahaaEv
import Derived.BigQuiet
set_option linter.unusedVariables false
namespace Go.Proofs.Ytgbckdmhmkpahaa
open Go.RowKit Go.Shelf
attribute [local go_sem ↓] eqlO_st neqO_st

set_option maxHeartbeats 1000000 in
theorem copyInts_o (xs : List Int) (A : Option Addr) (c : Nat) (w : World) (hn : xs.length ≤ 100000) (hs : SlI w A xs) :
    Calls Try.prog 24 #[.slice A xs.length c] w fun e w' => ∃ B d, e = .returned (.slice B xs.length d) ∧ SlI w' B xs ∧ (0 < xs.length → ∀ b o, B = some ⟨b, o, none⟩ → w.heap.size ≤ b) ∧ Below w.heap.size w w' := by
  obtain ⟨i0, hi0, hz0, hz1, hz2⟩ := info_parts info_Int
  have hm1 : 0 + xs.length ≤ maxLen := by unfold maxLen; omega
  have hm2 : (0 + xs.length) * 8 ≤ 140737488355328 := by omega
  have ho := own_empty w 3
  cases A with
  | none =>
    have hx : xs = [] := by
      cases xs with
      | nil => rfl
      | cons x l => obtain ⟨b, o, e, _⟩ := hs 0 x rfl; cases e
    subst hx
    go_enter Try.func24, Try.ntmps24
    go_wp2
    all_goals go_ret
    all_goals exact ⟨_, _, rfl, SlI.nil _ _, fun h => absurd h (by simp), by focus ((repeat first | with_reducible exact Below.refl _ _ | (with_reducible refine Below.setCell ?_ ?_ _) | (with_reducible refine Below.alloc ?_ ?_ _) | (with_reducible refine below_drewN ?_ _) | (with_reducible refine Below.drew ?_)); all_goals (first | with_reducible exact Nat.le_refl _ | omega | (simp; done) | (simp; omega) | (omega) | ((try simp); omega)))⟩
  | some a =>
    have hcells : ∀ j u, (xs.map (Value.int .i64))[j]? = some u → (w.alloc (.cells #[] 3)).cell? (a.add j) = some u := fun j u hj => by
      rw [List.getElem?_map] at hj
      cases hx : xs[j]? with
      | none => rw [hx] at hj; cases hj
      | some x =>
        rw [hx] at hj
        obtain ⟨b, o, e, hb, hc⟩ := hs.alloc (.cells #[] 3) j x hx
        cases e
        have hu : Value.int .i64 x = u := by simpa using hj
        subst hu
        have e : (⟨b, o, none⟩ : Addr).add j = ⟨b, o + j, none⟩ := by unfold Addr.add; split <;> simp [*]
        rw [e]; exact hc
    have HC := Lib.hid hcells
    clear hcells
    have h1 : ∀ u ∈ xs.map (Value.int .i64), u.oneCell' = true := by simp [Value.oneCell']
    have H1 := Lib.hid h1
    clear h1 hs
    go_enter Try.func24, Try.ntmps24
    go_wp2_with (at_builtin; go_must (refine wpList_append_own _ rfl _ _ 22 rfl w.heap.size 3 i0 (.int .i64 0) 1 8 Try.underlying22 hi0 hz0 hz1 hz2 rfl (by decide) _ _ _ rfl ho a xs.length c (xs.map (Value.int .i64)) rfl (by simp) HC.out H1.out hm1 hm2 (by simp) ?_); intro v' wx hown1 hgrow1 _)
    have hB1 : Below w.heap.size w wx := ((Below.refl _ w).alloc (Nat.le_refl _) _).grown hgrow1 (by simp) (fun k e => by have e : some w.heap.size = some k := e; injection e with e; omega)
    have hown2 : wx.ownsRow w.heap.size 3 1 v' xs.length (xs.map (Value.int .i64)) := by simpa using hown1
    rcases hown2.2 with ⟨rfl, h0⟩ | ⟨g, cap, cur, rfl, hgw, _⟩
    · go_ret
      exact ⟨_, _, by rw [h0]; rfl, sli_own (n := xs.length) (c := 0) (by rw [h0]; rw [h0] at hown2; exact hown2), fun h => absurd h (by omega), hB1⟩
    · go_ret
      exact ⟨_, _, rfl, sli_own hown2, fun _ b o e => (by injection e with e; injection e with e; omega), hB1⟩

theorem SlI.set {w : World} {A : Option Addr} {xs : List Int} {p : Addr} {u : Value} (h : SlI w A xs) (hp : 0 < xs.length → ∀ b o, A = some ⟨b, o, none⟩ → b ≠ p.block) : SlI (w.setCell p u) A xs := fun j v hj => by
  obtain ⟨b, o, hA, hb, hc⟩ := h j v hj
  have hl : 0 < xs.length := by have := (List.getElem?_eq_some_iff.1 hj).1; omega
  refine ⟨b, o, hA, by simpa using hb, ?_⟩
  rw [World.cell?_of_block (w := w) (Below.heap_setCell w p u b (hp hl b o hA))]
  exact hc

theorem wloop_size : (Try.prog.info? 26).map (·.size) = some 5 := by kernel_rfl

set_option maxHeartbeats 1000000 in
theorem few_c (T : List Int) (A : Option Addr) (c : Nat) (lo hi turn slew : Int) (w : World) :
    Calls Try.prog 16 #[.agg #[.slice A T.length c, .int .i64 lo, .int .i64 hi, .int .i64 turn, .int .i64 slew]] w fun e w' => e = .returned (.bool (decide ((T.length : Int) ≤ 13))) ∧ Below w.heap.size w w' := by
  go_enter Try.func16, Try.ntmps16
  go_wp2
  go_ret
  exact ⟨rfl, by focus ((repeat first | with_reducible exact Below.refl _ _ | (with_reducible refine Below.setCell ?_ ?_ _) | (with_reducible refine Below.alloc ?_ ?_ _) | (with_reducible refine below_drewN ?_ _) | (with_reducible refine Below.drew ?_)); all_goals (first | with_reducible exact Nat.le_refl _ | omega | (simp; done) | (simp; omega) | (omega) | ((try simp); omega)))⟩

set_option maxHeartbeats 1000000 in
theorem copyLoop_c (T : List Int) (A : Option Addr) (c : Nat) (lo hi turn slew : Int) (w : World) (hn : T.length ≤ 100000) (hs : SlI w A T) :
    Calls Try.prog 18 #[.agg #[.slice A T.length c, .int .i64 lo, .int .i64 hi, .int .i64 turn, .int .i64 slew]] w fun e w' => ∃ D d, e = .returned (.agg #[.slice D T.length d, .int .i64 lo, .int .i64 hi, .int .i64 turn, .int .i64 slew]) ∧ SlI w' D T ∧ Below w.heap.size w w' := by
  have C := Lib.hid (fun W h => copyInts_o T A c W hn h)
  have HS := Lib.hid hs
  clear hs
  go_enter Try.func18, Try.ntmps18
  go_wp2_with (first | (go_at_call 24; refine (C.out _ (SlI.below HS.out (by focus ((repeat first | with_reducible exact Below.refl _ _ | (with_reducible refine Below.setCell ?_ ?_ _) | (with_reducible refine Below.alloc ?_ ?_ _) | (with_reducible refine below_drewN ?_ _) | (with_reducible refine Below.drew ?_)); all_goals (first | with_reducible exact Nat.le_refl _ | omega | (simp; done) | (simp; omega) | (omega) | ((try simp); omega)))))).mono ?_; rintro e w1 ⟨D, d, rfl, hD, hfresh, hb1⟩; (have q0 : Box w1 w.heap.size 26 #[.slice A T.length c, .int .i64 lo, .int .i64 hi, .int .i64 turn, .int .i64 slew] := (by focus (apply Box.via; apply Exists.intro; apply And.intro; (repeat first | with_reducible assumption | with_reducible exact Box.new _ _ _ | ((with_reducible apply Box.newAt); focus (simp; done)) | (with_reducible apply Box.drew) | (with_reducible apply Box.drewN) | (with_reducible apply Box.set) | (with_reducible apply Box.alloc) | (with_reducible apply Box.far) | (with_reducible apply Box.below (hb := hb1))); all_goals (first | with_reducible exact Nat.le_refl _ | omega | (simp; done) | (simp; omega) | (have := hb1.size; (try simp at this); omega) | (have := hb1.size; (try simp at this); (try simp); omega))))); (have q1 : Box w1 (w.heap.size + 1) 26 #[.slice none 0 0, .int .i64 0, .int .i64 0, .int .i64 0, .int .i64 0] := (by focus (apply Box.via; apply Exists.intro; apply And.intro; (repeat first | with_reducible assumption | with_reducible exact Box.new _ _ _ | ((with_reducible apply Box.newAt); focus (simp; done)) | (with_reducible apply Box.drew) | (with_reducible apply Box.drewN) | (with_reducible apply Box.set) | (with_reducible apply Box.alloc) | (with_reducible apply Box.far) | (with_reducible apply Box.below (hb := hb1))); all_goals (first | with_reducible exact Nat.le_refl _ | omega | (simp; done) | (simp; omega) | (have := hb1.size; (try simp at this); omega) | (have := hb1.size; (try simp at this); (try simp); omega))))); (have hl0 := q0.lt); (have hl1 := q1.lt); (have c00 : w1.cell? ⟨w.heap.size, 0, none⟩ = some (.slice A T.length c) := q0.cell 0); (have c01 : w1.cell? ⟨w.heap.size, 1, none⟩ = some (.int .i64 lo) := q0.cell 1); (have c02 : w1.cell? ⟨w.heap.size, 2, none⟩ = some (.int .i64 hi) := q0.cell 2); (have c03 : w1.cell? ⟨w.heap.size, 3, none⟩ = some (.int .i64 turn) := q0.cell 3); (have c04 : w1.cell? ⟨w.heap.size, 4, none⟩ = some (.int .i64 slew) := q0.cell 4); (have f0 := q0.froz); (have c10 : w1.cell? ⟨w.heap.size + 1, 0, none⟩ = some (.slice none 0 0) := q1.cell 0); (have c11 : w1.cell? ⟨w.heap.size + 1, 1, none⟩ = some (.int .i64 0) := q1.cell 1); (have c12 : w1.cell? ⟨w.heap.size + 1, 2, none⟩ = some (.int .i64 0) := q1.cell 2); (have c13 : w1.cell? ⟨w.heap.size + 1, 3, none⟩ = some (.int .i64 0) := q1.cell 3); (have c14 : w1.cell? ⟨w.heap.size + 1, 4, none⟩ = some (.int .i64 0) := q1.cell 4); (have f1 := q1.froz)) | fail)
  refine bodyPost_ret (res_c1 rfl rfl (show Box _ _ 26 #[.slice D T.length d, .int .i64 lo, .int .i64 hi, .int .i64 turn, .int .i64 slew] from ?hE) Try.underlying26 rfl wloop_size) rfl ⟨D, d, rfl, ?hD, ?hB⟩
  case hE => focus (apply Box.via; apply Exists.intro; apply And.intro; (repeat first | with_reducible assumption | with_reducible exact Box.new _ _ _ | ((with_reducible apply Box.newAt); focus (simp; done)) | (with_reducible apply Box.drew) | (with_reducible apply Box.drewN) | (with_reducible apply Box.set) | (with_reducible apply Box.alloc) | (with_reducible apply Box.far) | (with_reducible apply Box.below (hb := hb1))); all_goals (first | with_reducible exact Nat.le_refl _ | omega | (simp; done) | (simp; omega) | (have := hb1.size; (try simp at this); omega) | (have := hb1.size; (try simp at this); (try simp); omega)))
  case hB => focus ((repeat first | with_reducible exact Below.refl _ _ | (with_reducible refine Below.setCell ?_ ?_ _) | (with_reducible refine Below.alloc ?_ ?_ _) | (with_reducible refine below_drewN ?_ _) | (with_reducible refine Below.drew ?_) | (with_reducible refine Below.trans ?_ (Below.mono hb1 ?_))); all_goals (first | with_reducible exact Nat.le_refl _ | omega | (simp; done) | (simp; omega) | (have := hb1.size; (try simp at this); omega) | (have := hb1.size; (try simp at this); (try simp); omega)))
  case hD =>
    simp only [World.size_alloc] at hfresh
    refine SlI.set (SlI.set (SlI.set (SlI.set (SlI.set (SlI.set hD ?_) ?_) ?_) ?_) ?_) ?_
    all_goals (intro hl b o e; have := hfresh hl b o e; (try simp); omega)

set_option maxHeartbeats 1000000 in
theorem sameStates_c (xs ys : List St3) (A B : Option Addr) (c d : Nat) (w : World) (hn : xs.length ≤ 100000) (hm : ys.length ≤ 100000) (hs : SlV w A (xs.flatMap st3V)) (ht : SlV w B (ys.flatMap st3V)) :
    Calls Try.prog 55 #[.slice A xs.length c, .slice B ys.length d] w fun e w' => e = .returned (.bool (decide (xs = ys))) ∧ Below w.heap.size w w' := by
  by_cases hl : xs.length = ys.length
  · have hl1 : ((xs.length : Int) != (ys.length : Int)) = false := by simp [hl]
    have HL := Lib.hid hl
    have hle : xs.length ≤ ys.length := by omega
    have hle' : ys.length ≤ xs.length := by omega
    clear hl
    go_enter Try.func55, Try.ntmps55
    go_wp2
    go_loopw [5] (fun i wr => ∃ k : Nat, k ≤ xs.length ∧ i = .int .i64 k ∧ Hid (xs.take k = ys.take k) ∧ Below w.heap.size w wr) (fun i _ => xs.length - (intOf i).toNat)
    case atStart => exact ⟨0, Nat.zero_le _, rfl, rfl, Below.refl _ _⟩
    case round =>
      obtain ⟨k, hk, rfl, hf, hB⟩ := hrel
      by_cases hlt : k < xs.length
      · have hky : k < ys.length := by omega
        obtain ⟨b, off, rfl, hb, a0, a1, a2⟩ := ev_cells (SlV.below hs hB) (List.getElem?_eq_getElem hlt)
        obtain ⟨b', off', rfl, hb', c0, c1, c2⟩ := ev_cells (SlV.below ht hB) (List.getElem?_eq_getElem hky)
        have T1 := Lib.hid (List.take_succ_eq_append_getElem (l := xs) hlt)
        have T2 := Lib.hid (List.take_succ_eq_append_getElem (l := ys) hky)
        have G1 := Lib.hid (List.getElem?_eq_getElem (l := xs) hlt)
        have G2 := Lib.hid (List.getElem?_eq_getElem (l := ys) hky)
        have HS := Lib.hid hs; have HT := Lib.hid ht
        clear hs ht
        generalize hx : xs[k] = x at *
        generalize hy : ys[k] = y at *
        clear hx hy
        obtain ⟨x1, x2, x3⟩ := x
        obtain ⟨y1, y2, y3⟩ := y
        dsimp only at a0 a1 a2 c0 c1 c2
        by_cases hxy : x1 = y1 ∧ x2 = y2 ∧ x3 = y3
        · have h1 : same3 x1 x2 x3 y1 y2 y3 = true := same3_t.2 hxy
          have HXY := Lib.hid hxy
          clear hxy
          go_wp2
          go_quiet (fail)
          go_wp2
          go_roundw
          case rel => exact ⟨k + 1, by omega, by go_num, by unfold Hid; rw [T1.out, T2.out, hf.out, HXY.out.1, HXY.out.2.1, HXY.out.2.2], below_drewN hB _⟩
          case measure => simp [intOf]; omega
        · have h1 : same3 x1 x2 x3 y1 y2 y3 = false := same3_f.2 hxy
          have HXY := Lib.hid hxy
          clear hxy
          go_wp2
          go_quiet (fail)
          go_wp2
          go_ret
          refine ⟨ret_b ?_, below_drewN hB _⟩
          refine (decide_eq_false fun e => HXY.out ?_).symm
          have := G1.out; rw [e, G2.out] at this
          simpa [eq_comm] using this
      · obtain rfl : k = xs.length := by omega
        have HE := Lib.hid (show xs = ys by
          have := hf.out
          rw [List.take_length, HL.out, List.take_length] at this
          exact this)
        go_wp2
        go_ret
        exact ⟨ret_b (decide_eq_true HE.out).symm, hB⟩
  · have hl1 : ((xs.length : Int) != (ys.length : Int)) = true := bneT (by omega)
    have HL := Lib.hid (show xs ≠ ys from fun e => hl (by rw [e]))
    clear hl hs ht
    go_enter Try.func55, Try.ntmps55
    go_wp2
    go_ret
    exact ⟨ret_b (decide_eq_false HL.out).symm, Below.refl _ _⟩

end Go.Proofs.Ytgbckdmhmkpahaa

/-
  Small functions of the references' base (Ints, CopyInts, Gcd, Lowest) and the chapter's example loop.
-/
import Derived.Test.YtgbckdmhmkpahaaSamples
import Derived.Test.YtgbckdmhmkpahaaPred2
import Derived.Maps.AppendAt
import Derived.Deep.RegionLaw
import Derived.Deep.AppendLies
set_option linter.unusedVariables false
namespace Go.Proofs.Ytgbckdmhmkpahaa
open Go.RowKit Go.Shelf

set_option maxHeartbeats 1000000 in
theorem ints_c (xs ys : List Int) (A B : Option Addr) (c d : Nat) (w : World) (hn : xs.length ≤ 9223372036854775807) (hm : ys.length ≤ 9223372036854775807) (hs : SlI w A xs) (ht : SlI w B ys) :
    Calls Try.prog 35 #[.slice A xs.length c, .slice B ys.length d] w fun e w' => e = .returned (.bool (decide (xs = ys))) ∧ Below w.heap.size w w' := by
  by_cases hl : xs.length = ys.length
  · have hl1 : ((xs.length : Int) != (ys.length : Int)) = false := by simp [hl]
    have HL := Lib.hid hl
    have hle : xs.length ≤ ys.length := by omega
    have hle' : ys.length ≤ xs.length := by omega
    clear hl
    go_enter Try.func35, Try.ntmps35
    go_wp2
    go_loopw [5] (fun i wr => ∃ k : Nat, k ≤ xs.length ∧ i = .int .i64 k ∧ Hid (xs.take k = ys.take k) ∧ Below w.heap.size w wr) (fun i _ => xs.length - (intOf i).toNat)
    case atStart => exact ⟨0, Nat.zero_le _, rfl, rfl, Below.refl _ _⟩
    case round =>
      obtain ⟨k, hk, rfl, hf, hB⟩ := hrel
      by_cases hlt : k < xs.length
      · obtain ⟨b, off, rfl, hb, hc⟩ := hs.below hB k xs[k] (List.getElem?_eq_getElem hlt)
        obtain ⟨b', off', rfl, hb', hc'⟩ := ht.below hB k (ys[k]'(by omega)) (List.getElem?_eq_getElem (by omega))
        have hky : k < ys.length := by omega
        have T1 := Lib.hid (List.take_succ_eq_append_getElem (l := xs) hlt)
        have T2 := Lib.hid (List.take_succ_eq_append_getElem (l := ys) hky)
        have G1 := Lib.hid (List.getElem?_eq_getElem (l := xs) hlt)
        have G2 := Lib.hid (List.getElem?_eq_getElem (l := ys) hky)
        have HS := Lib.hid hs; have HT := Lib.hid ht
        clear hs ht
        generalize hx : xs[k] = x at *
        generalize hy : ys[k] = y at *
        clear hx hy
        by_cases hxy : x = y
        · have h1 : (x != y) = false := bneF hxy
          have HXY := Lib.hid hxy
          clear hxy
          go_wp2
          go_quiet (fail)
          go_wp2
          go_roundw
          case rel => exact ⟨k + 1, by omega, by go_num, by unfold Hid; rw [T1.out, T2.out, hf.out, HXY.out], below_drewN hB _⟩
          case measure => simp [intOf]; omega
        · have h1 : (x != y) = true := bneT hxy
          have HXY := Lib.hid hxy
          clear hxy
          go_wp2
          go_quiet (fail)
          go_wp2
          go_ret
          refine ⟨ret_b ?_, below_drewN hB _⟩
          refine (decide_eq_false fun e => HXY.out ?_).symm
          have := G1.out; rw [e, G2.out] at this
          exact (Option.some.inj this).symm
      · obtain rfl : k = xs.length := by omega
        have HE := Lib.hid (show xs = ys by
          have := hf.out
          rw [List.take_length, HL.out, List.take_length] at this
          exact this)
        go_wp2
        go_ret
        exact ⟨ret_b (decide_eq_true HE.out).symm, hB⟩
  · have hl1 : ((xs.length : Int) != (ys.length : Int)) = true := bneT (by omega)
    have HL := Lib.hid (show xs ≠ ys from fun e => hl (by rw [e]))
    clear hl hs ht
    go_enter Try.func35, Try.ntmps35
    go_wp2
    go_ret
    exact ⟨ret_b (decide_eq_false HL.out).symm, Below.refl _ _⟩

theorem sli_box {w : World} {g : Nat} {t : TypeId} {xs : List Int} (h : Box w g t ((xs.map (Value.int .i64)).toArray)) : SlI w (some ⟨g, 0, none⟩) xs := fun j u hj => by
  refine ⟨g, 0, rfl, h.lt, ?_⟩
  rw [Nat.zero_add, h.cell j]
  simp [hj]
theorem wl_size : (Try.prog.info? 26).map (·.size) = some 5 := by kernel_rfl
set_option maxHeartbeats 400000 in
theorem Loop_c (w : World) : Calls Try.prog 78 #[] w fun e w' => ∃ g, e = .returned (.agg #[.slice (some ⟨g, 0, none⟩) 5 5, .int .i64 (-1), .int .i64 1, .int .i64 1, .int .i64 2]) ∧ SlI w' (some ⟨g, 0, none⟩) [-2, -1, 0, 1, 2] ∧ Below w.heap.size w w' := by
  go_enter Try.func78, Try.ntmps78
  go_wp2
  refine bodyPost_ret (res_c1 rfl rfl (show Box _ _ 26 #[.slice (some ⟨w.heap.size + 1, 0, none⟩) 5 5, .int .i64 (-1), .int .i64 1, .int .i64 1, .int .i64 2] from ?hE) Try.underlying26 rfl wl_size) rfl ⟨_, rfl, ?hS, ?hB⟩
  case hE => focus (apply Box.via; apply Exists.intro; apply And.intro; (repeat first | with_reducible assumption | with_reducible exact Box.new _ _ _ | ((with_reducible apply Box.newAt); focus (simp; done)) | (with_reducible apply Box.drew) | (with_reducible apply Box.drewN) | (with_reducible apply Box.set) | (with_reducible apply Box.alloc) | (with_reducible apply Box.far)); all_goals (first | with_reducible exact Nat.le_refl _ | omega | (simp; done) | (simp; omega) | (omega) | ((try simp); omega)))
  case hS =>
    refine sli_box (xs := [-2, -1, 0, 1, 2]) (t := 3) (show Box _ _ 3 #[.int .i64 (-2), .int .i64 (-1), .int .i64 0, .int .i64 1, .int .i64 2] from ?hX)
    case hX => focus (apply Box.via; apply Exists.intro; apply And.intro; (repeat first | with_reducible assumption | with_reducible exact Box.new _ _ _ | ((with_reducible apply Box.newAt); focus (simp; done)) | (with_reducible apply Box.drew) | (with_reducible apply Box.drewN) | (with_reducible apply Box.set) | (with_reducible apply Box.alloc) | (with_reducible apply Box.far)); all_goals (first | with_reducible exact Nat.le_refl _ | omega | (simp; done) | (simp; omega) | (omega) | ((try simp); omega)))
  case hB => focus ((repeat first | with_reducible exact Below.refl _ _ | (with_reducible refine Below.setCell ?_ ?_ _) | (with_reducible refine Below.alloc ?_ ?_ _) | (with_reducible refine below_drewN ?_ _) | (with_reducible refine Below.drew ?_)); all_goals (first | with_reducible exact Nat.le_refl _ | omega | (simp; done) | (simp; omega) | (omega) | ((try simp); omega)))

/-- A copy of a slice of ints. -/
theorem sli_own {w : World} {base : Nat} {e : TypeId} {A : Option Addr} {n c : Nat} {xs : List Int} (h : w.ownsRow base e 1 (.slice A n c) n (xs.map (Value.int .i64))) : SlI w A xs := by
  intro j u hj
  rcases h.2 with ⟨e1, h0⟩ | ⟨g, cap, cur, e1, _, hh, _⟩
  · have hl := h.1
    subst h0
    simp at hl
    subst hl
    simp at hj
  · injection e1 with e1 _ _
    subst e1
    refine ⟨g, 0, rfl, (Array.getElem?_eq_some_iff.1 hh).1, ?_⟩
    have hjl : j < xs.length := (List.getElem?_eq_some_iff.1 hj).1
    have hl := h.1
    have := h.cellAt j (by simp at hl; omega)
    rw [Nat.zero_add, this, List.getElem?_map, hj]; rfl

end Go.Proofs.Ytgbckdmhmkpahaa

/-
  Ints and SamePose (chapter 6's reference).
-/
import Derived.Test.YtpnfgmgoafgcbaaGreatCpyP
import Derived.BigQuiet
set_option linter.unusedVariables false
namespace Go.Proofs.YtpnfgmgoafgcbaaGreat
open Go.RowKit
attribute [local go_sem] Oper.semAt_some

set_option maxHeartbeats 1000000 in
theorem ints_c (xs ys : List Int) (A B : Option Addr) (c d : Nat) (w : World) (hn : xs.length ≤ 9223372036854775807) (hm : ys.length ≤ 9223372036854775807) (hs : SlI w A xs) (ht : SlI w B ys) :
    Calls Tryz.prog 91 #[.slice A xs.length c, .slice B ys.length d] w fun e w' => e = .returned (.bool (decide (xs = ys))) ∧ Below w.heap.size w w' := by
  by_cases hl : xs.length = ys.length
  · have hl1 : ((xs.length : Int) != (ys.length : Int)) = false := by simp [hl]
    have HL := Lib.hid hl
    have hle : xs.length ≤ ys.length := by omega
    have hle' : ys.length ≤ xs.length := by omega
    clear hl
    go_enter Tryz.func91, Tryz.ntmps91
    go_wp2
    go_loopw [5] (fun i wr => ∃ k : Nat, k ≤ xs.length ∧ i = .int .i64 k ∧ Hid (xs.take k = ys.take k) ∧ Below w.heap.size w wr) (fun i _ => xs.length - (intOf i).toNat)
    case atStart => exact ⟨0, Nat.zero_le _, rfl, rfl, Below.refl _ _⟩
    case round =>
      obtain ⟨k, hk, rfl, hf, hB⟩ := hrel
      by_cases hlt : k < xs.length
      · obtain ⟨b, off, rfl, hb, hc⟩ := hs.below hB k xs[k] (List.getElem?_eq_getElem hlt)
        obtain ⟨b', off', rfl, hb', hc'⟩ := ht.below hB k (ys[k]'(by omega)) (List.getElem?_eq_getElem (by omega))
        have hky : k < ys.length := by omega
        have T1 := Lib.hid (List.take_succ_eq_append_getElem (l := xs) hlt)
        have T2 := Lib.hid (List.take_succ_eq_append_getElem (l := ys) hky)
        have G1 := Lib.hid (List.getElem?_eq_getElem (l := xs) hlt)
        have G2 := Lib.hid (List.getElem?_eq_getElem (l := ys) hky)
        have HS := Lib.hid hs; have HT := Lib.hid ht
        clear hs ht
        generalize hx : xs[k] = x at *
        generalize hy : ys[k] = y at *
        clear hx hy
        by_cases hxy : x = y
        · have h1 : (x != y) = false := bneF hxy
          have HXY := Lib.hid hxy
          clear hxy
          go_wp2
          go_quiet (fail)
          go_wp2
          go_roundw
          case rel => exact ⟨k + 1, by omega, by go_num, by unfold Hid; rw [T1.out, T2.out, hf.out, HXY.out], below_drewN hB _⟩
          case measure => simp [intOf]; omega
        · have h1 : (x != y) = true := bneT hxy
          have HXY := Lib.hid hxy
          clear hxy
          go_wp2
          go_quiet (fail)
          go_wp2
          go_ret
          refine ⟨ret_b ?_, below_drewN hB _⟩
          refine (decide_eq_false fun e => HXY.out ?_).symm
          have := G1.out; rw [e, G2.out] at this
          exact (Option.some.inj this).symm
      · obtain rfl : k = xs.length := by omega
        have HE := Lib.hid (show xs = ys by
          have := hf.out
          rw [List.take_length, HL.out, List.take_length] at this
          exact this)
        go_wp2
        go_ret
        exact ⟨ret_b (decide_eq_true HE.out).symm, hB⟩
  · have hl1 : ((xs.length : Int) != (ys.length : Int)) = true := bneT (by omega)
    have HL := Lib.hid (show xs ≠ ys from fun e => hl (by rw [e]))
    clear hl hs ht
    go_enter Tryz.func91, Tryz.ntmps91
    go_wp2
    go_ret
    exact ⟨ret_b (decide_eq_false HL.out).symm, Below.refl _ _⟩

set_option maxHeartbeats 1000000 in
theorem samePose_c (ps pt : Int) (Q T : List Int) (AQ AT : Option Addr) (cQ cT : Nat) (w : World) (hn : Q.length ≤ 100000) (hm : T.length ≤ 100000) (hs : SlI w AQ Q) (ht : SlI w AT T) :
    Calls Tryz.prog 21 #[.agg #[.int .i64 ps, .slice AQ Q.length cQ], .agg #[.int .i64 pt, .slice AT T.length cT]] w fun e w' => e = .returned (.bool (decide ((ps, Q) = (pt, T)))) ∧ Below w.heap.size w w' := by
  have INc := Lib.hid (fun W (h : Below w.heap.size w W) => ints_c Q T AQ AT cQ cT W (by omega) (by omega) (hs.below h) (ht.below h))
  clear hs ht
  have HR := Lib.hid (show decide ((ps, Q) = (pt, T)) = (decide (ps = pt) && decide (Q = T)) from by simp)
  generalize decide ((ps, Q) = (pt, T)) = R at *
  generalize decide (Q = T) = r at *
  by_cases h : ps = pt
  · have h1 : (ps == pt) = true := beqT h
    have HR2 := Lib.hid (show R = r by rw [HR.out]; simp [h])
    clear HR h
    go_enter Tryz.func21, Tryz.ntmps21
    go_wp2_with (first | (go_at_call 91; (with_reducible refine (INc.out _ (by exact bB0)).mono ?_); rintro e w3 ⟨rfl, hb3⟩) | fail)
    go_ret
    exact ⟨ret_b HR2.out.symm, by exact bB1 hb3⟩
  · have h1 : (ps == pt) = false := beqF h
    have HR2 := Lib.hid (show R = false by rw [HR.out]; simp [h])
    clear HR h
    go_enter Tryz.func21, Tryz.ntmps21
    go_wp2_with fail
    go_ret
    exact ⟨ret_b HR2.out.symm, by exact bB0⟩

end Go.Proofs.YtpnfgmgoafgcbaaGreat

/-
  Lowest and Before of the references' helpers (chapter 6).
-/
import Derived.Test.YtpnfgmgoafgcbaaGreatRBs
set_option linter.all false
set_option linter.unusedVariables false
namespace Go.Proofs.YtpnfgmgoafgcbaaGreat
open Go.RowKit
attribute [local go_sem] Oper.semAt_some
attribute [local go_sem ↓] neq_ce'
/-- Lexicographically smaller. -/
def befL : List Int → List Int → Bool
  | [],[] => false
  | [],_ :: _ => true
  | _ :: _,[] => false
  | x :: a,y :: b => if x ≠ y then decide (x < y) else befL a b
set_option maxHeartbeats 2000000 in
theorem before_c (xs ys : List Int) (A B : Option Addr) (c d : Nat) (w : World) (hn : xs.length ≤ 9223372036854775807) (hm : ys.length ≤ 9223372036854775807) (hs : SlI w A xs) (ht : SlI w B ys) :
    Calls Tryz.prog 103 #[.slice A xs.length c,.slice B ys.length d] w fun e w' => e = .returned (.bool (befL xs ys)) ∧ Below w.heap.size w w':=by
  generalize hR : befL xs ys = R
  have HR:=Lib.hid hR.symm
  clear hR
  go_enter Tryz.func103,Tryz.ntmps103
  go_wp2
  go_loopw [5] (fun i wr => ∃ k : Nat,k ≤ xs.length ∧ k ≤ ys.length ∧ i = .int .i64 k ∧ Hid (R = befL (xs.drop k) (ys.drop k)) ∧ Below w.heap.size w wr) (fun i _ => xs.length - (intOf i).toNat)
  case atStart => exact ⟨0,Nat.zero_le _,Nat.zero_le _,rfl,HR.out,Below.refl _ _⟩
  case round =>
    obtain ⟨k,hk,hk2,rfl,hf,hB⟩:=hrel
    clear HR
    by_cases hlt : k < xs.length
    · have e1 : decide ((k : Int) < (xs.length : Int)) = true:=decide_eq_true (by omega)
      have e2 : decide (k < xs.length) = true:=decide_eq_true hlt
      by_cases hlt2 : k < ys.length
      · have e3 : decide ((k : Int) < (ys.length : Int)) = true:=decide_eq_true (by omega)
        have e4 : decide (k < ys.length) = true:=decide_eq_true hlt2
        obtain ⟨b,off,rfl,hb,hc⟩:=hs.below hB k xs[k] (List.getElem?_eq_getElem hlt)
        obtain ⟨b',off',rfl,hb',hc'⟩:=ht.below hB k ys[k] (List.getElem?_eq_getElem hlt2)
        have T1:=Lib.hid (List.drop_eq_getElem_cons hlt)
        have T2:=Lib.hid (List.drop_eq_getElem_cons hlt2)
        clear hs ht
        generalize xs[k] = x at *
        generalize ys[k] = y at *
        have G:=Lib.hid (show R = if x ≠ y then decide (x < y) else befL (xs.drop (k + 1)) (ys.drop (k + 1)) from by rw [hf.out,T1.out,T2.out];rfl)
        have i1 : (k : Int) < xs.length:=by omega
        have i2 : (k : Int) < ys.length:=by omega
        by_cases hxy : x = y
        · have h1 : (x != y) = false:=bneF hxy
          have G2:=Lib.hid (show R = befL (xs.drop (k + 1)) (ys.drop (k + 1)) from by rw [G.out,if_neg (by simpa using hxy)])
          clear hxy
          go_wp2
          go_quiet (fail)
          go_wp2
          go_roundw
          case rel => exact ⟨k + 1,by omega,by omega,by go_num,G2.out,below_drewN hB _⟩
          case measure => simp [intOf];omega
        · have h1 : (x != y) = true:=bneT hxy
          have G2:=Lib.hid (show R = decide (x < y) from by rw [G.out,if_pos hxy])
          clear hxy
          go_wp2
          go_quiet (fail)
          go_wp2
          go_quiet (fail)
          go_wp2
          go_ret
          exact ⟨ret_b (by rw [G2.out]),below_drewN (below_drewN hB _) _⟩
      · have e3 : decide ((k : Int) < (ys.length : Int)) = false:=decide_eq_false (by omega)
        have e4 : decide (k < ys.length) = false:=decide_eq_false hlt2
        have G2:=Lib.hid (show R = decide ((xs.length : Int) < (ys.length : Int)) from by
          rw [hf.out,List.drop_eq_getElem_cons hlt,List.drop_eq_nil_of_le (show ys.length ≤ k by omega),decide_eq_false (by omega)];rfl)
        go_wp2
        go_ret
        exact ⟨ret_b (by first | (rw [G2.out];done) | (rw [G2.out];simp)),hB⟩
    · have e1 : decide ((k : Int) < (xs.length : Int)) = false:=decide_eq_false (by omega)
      have e2 : decide (k < xs.length) = false:=decide_eq_false hlt
      have G2:=Lib.hid (show R = decide ((xs.length : Int) < (ys.length : Int)) from by
        rw [hf.out,List.drop_eq_nil_of_le (show xs.length ≤ k by omega)]
        by_cases h : k < ys.length
        · rw [List.drop_eq_getElem_cons h,decide_eq_true (by omega)];rfl
        · rw [List.drop_eq_nil_of_le (show ys.length ≤ k by omega),decide_eq_false (by omega)];rfl)
      go_wp2
      go_ret
      exact ⟨ret_b (by first | (rw [G2.out];done) | (rw [G2.out];simp)),hB⟩
end Go.Proofs.YtpnfgmgoafgcbaaGreat

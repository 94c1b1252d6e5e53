/-
  Closed sets of states (chapter 2): CheckClosed at a loop that is not valid.
-/
import Derived.Test.YtgbckdmhmkpahaaCls2
import Derived.Test.YtgbckdmhmkpahaaLoops2
import Derived.Test.YtgbckdmhmkpahaaRound2
set_option linter.unusedVariables false
namespace Go.Proofs.Ytgbckdmhmkpahaa
open Go.RowKit Go.Shelf


set_option maxHeartbeats 1000000 in
theorem checkClosed_no (T : List Int) (A : Option Addr) (c : Nat) (lo hi turn slew : Int) (xs : List St3) (B : Option Addr) (d : Nat) (w : World) (hn : T.length ≤ 1000) (hs : SlI w A T) (he : (chkL T lo hi turn slew).2 ≠ 0) :
    Calls Try.prog 65 #[.agg #[.slice A T.length c, .int .i64 lo, .int .i64 hi, .int .i64 turn, .int .i64 slew], .slice B xs.length d] w fun e w' => e = .returned (.tuple #[.int .i64 0, .int .i64 (chkL T lo hi turn slew).2]) ∧ Below w.heap.size w w' := by
  have C := Lib.hid (fun W h => openLoop_c T A c lo hi turn slew W hn h)
  have HS := Lib.hid hs
  have e1 := bneT he
  clear hs he
  generalize chkL T lo hi turn slew = CL at *
  go_enter Try.func65, Try.ntmps65
  go_upto_region 2 with (first | (go_at_call 79; refine (C.out _ (SlI.below HS.out (by focus ((repeat first | with_reducible exact Below.refl _ _ | (with_reducible refine Below.setCell ?_ ?_ _) | (with_reducible refine Below.alloc ?_ ?_ _) | (with_reducible refine below_drewN ?_ _) | (with_reducible refine Below.drew ?_)); all_goals (first | with_reducible exact Nat.le_refl _ | omega | (simp; done) | (simp; omega) | (omega) | ((try simp); omega)))))).mono ?_; rintro e w1 ⟨rfl, hb1⟩; obtain ⟨hc1, hf1⟩ := bcell hb1; have hz3 : w.heap.size + 1 + 1 + 1 < w1.heap.size := (by have := hb1.size; (try simp at this); omega)) | fail)
  have q2 : Box (w1.alloc (.cells #[.slice A T.length c, .int .i64 lo, .int .i64 hi, .int .i64 turn, .int .i64 slew] 139)) (w.heap.size + 1 + 1) 3 #[.int .i64 0] := by focus (apply Box.via; apply Exists.intro; apply And.intro; (repeat first | with_reducible assumption | with_reducible exact Box.new _ _ _ | ((with_reducible apply Box.newAt); focus (simp; done)) | (with_reducible apply Box.drew) | (with_reducible apply Box.drewN) | (with_reducible apply Box.set) | (with_reducible apply Box.alloc) | (with_reducible apply Box.far) | (with_reducible apply Box.below (hb := hb1))); all_goals (first | with_reducible exact Nat.le_refl _ | omega | (simp; done) | (simp; omega) | (have := hb1.size; (try simp at this); omega) | (have := hb1.size; (try simp at this); (try simp); omega)))
  have q3 : Box (w1.alloc (.cells #[.slice A T.length c, .int .i64 lo, .int .i64 hi, .int .i64 turn, .int .i64 slew] 139)) (w.heap.size + 1 + 1 + 1) 33 #[.int .i64 0] := by focus (apply Box.via; apply Exists.intro; apply And.intro; (repeat first | with_reducible assumption | with_reducible exact Box.new _ _ _ | ((with_reducible apply Box.newAt); focus (simp; done)) | (with_reducible apply Box.drew) | (with_reducible apply Box.drewN) | (with_reducible apply Box.set) | (with_reducible apply Box.alloc) | (with_reducible apply Box.far) | (with_reducible apply Box.below (hb := hb1))); all_goals (first | with_reducible exact Nat.le_refl _ | omega | (simp; done) | (simp; omega) | (have := hb1.size; (try simp at this); omega) | (have := hb1.size; (try simp at this); (try simp); omega)))
  have hB : Below w.heap.size w (w1.alloc (.cells #[.slice A T.length c, .int .i64 lo, .int .i64 hi, .int .i64 turn, .int .i64 slew] 139)) := by focus ((repeat first | with_reducible exact Below.refl _ _ | (with_reducible refine Below.setCell ?_ ?_ _) | (with_reducible refine Below.alloc ?_ ?_ _) | (with_reducible refine below_drewN ?_ _) | (with_reducible refine Below.drew ?_) | (with_reducible refine Below.trans ?_ (Below.mono hb1 ?_))); all_goals (first | with_reducible exact Nat.le_refl _ | omega | (simp; done) | (simp; omega) | (have := hb1.size; (try simp at this); omega) | (have := hb1.size; (try simp at this); (try simp); omega)))
  clear hb1 hc1 hf1
  generalize w1.alloc (.cells #[.slice A T.length c, .int .i64 lo, .int .i64 hi, .int .i64 turn, .int .i64 slew] 139) = W1 at q2 q3 hB ⊢
  have c2 := q2.cell 0; have c3 := q3.cell 0; have f2 := q2.froz; have f3 := q3.froz
  simp at c2 c3
  have l2 := q2.lt; have l3 := q3.lt
  go_wp2_with fail
  refine bodyPost_ret (res_cc rfl rfl rfl (show _ = some (Value.int .i64 0) from ?r1) (show _ = some (Value.int .i64 CL.2) from ?r2) Try.underlying3 rfl Try.underlying33 rfl) rfl ⟨rfl, ?hB⟩
  case r1 => go_simp
  case r2 => go_simp
  case hB => focus ((repeat first | with_reducible exact Below.refl _ _ | (with_reducible refine Below.setCell ?_ ?_ _) | (with_reducible refine Below.alloc ?_ ?_ _) | (with_reducible refine below_drewN ?_ _) | (with_reducible refine Below.drew ?_) | (with_reducible refine Below.trans ?_ (Below.mono hB ?_))); all_goals (first | with_reducible exact Nat.le_refl _ | omega | (simp; done) | (simp; omega) | (have := hB.size; (try simp at this); omega) | (have := hB.size; (try simp at this); (try simp); omega)))

end Go.Proofs.Ytgbckdmhmkpahaa

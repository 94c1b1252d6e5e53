/-
  The walks of a loop's parts (chapter 2): bound, next.
-/
import Derived.Test.YtgbckdmhmkpahaaSamples
import Derived.Deep.DeepCutAuto
set_option linter.unusedVariables false
namespace Go.Proofs.Ytgbckdmhmkpahaa
open Go.RowKit Go.Shelf

set_option maxHeartbeats 400000 in
theorem bound_c (T : List Int) (A : Option Addr) (c : Nat) (lo hi turn slew : Int) (w : World) (hT : T.length ≤ 1000) :
    Calls Try.prog 143 #[.agg #[.slice A T.length c, .int .i64 lo, .int .i64 hi, .int .i64 turn, .int .i64 slew]] w fun e w' => e = .returned (.int .i64 ((T.length / 2 : Nat) : Int)) ∧ Below w.heap.size w w' := by
  go_enter Try.func143, Try.ntmps143
  go_wp2
  go_ret
  exact ⟨ret_i (by omega), by focus ((repeat first | with_reducible exact Below.refl _ _ | (with_reducible refine Below.setCell ?_ ?_ _) | (with_reducible refine Below.alloc ?_ ?_ _) | (with_reducible refine below_drewN ?_ _) | (with_reducible refine Below.drew ?_)); all_goals (first | with_reducible exact Nat.le_refl _ | omega | (simp; done) | (simp; omega) | (omega) | ((try simp); omega)))⟩

/-- The command, and the next error, of a loop's state after a heave. -/
def nxC (T : List Int) (slew err cmd : Int) : Int := min (max (T.getD (err + (T.length / 2 : Nat)).toNat 0) (cmd - slew)) (cmd + slew)
def nxE (T : List Int) (slew err cmd h : Int) : Int := err + h - nxC T slew err cmd
def nxW (T : List Int) (slew err cmd h : Int) : Bool := inB (nxE T slew err cmd h) (-(T.length / 2 : Nat)) (T.length / 2 : Nat)

theorem ws_size : (Try.prog.info? 42).map (·.size) = some 3 := by kernel_rfl

set_option maxHeartbeats 4000000 in
theorem next_c (T : List Int) (A : Option Addr) (c : Nat) (lo hi turn slew err cmd hv hh : Int) (w : World) (hT : T.length ≤ 1000) (hs : SlI w A T)
    (hx : ∀ x ∈ T, -1000 ≤ x ∧ x ≤ 1000) (h1 : -1000 ≤ slew ∧ slew ≤ 1000) (h2 : -1000 ≤ cmd ∧ cmd ≤ 1000) (h3 : -1000 ≤ hh ∧ hh ≤ 1000) (h4 : 0 ≤ err + (T.length / 2 : Nat)) (h5 : err + (T.length / 2 : Nat) < T.length) :
    Calls Try.prog 118 #[.agg #[.slice A T.length c, .int .i64 lo, .int .i64 hi, .int .i64 turn, .int .i64 slew], .agg #[.int .i64 err, .int .i64 cmd, .int .i64 hv], .int .i64 hh] w fun e w' =>
      e = .returned (.tuple #[.agg #[.int .i64 (nxE T slew err cmd hh), .int .i64 (nxC T slew err cmd), .int .i64 hh], .bool (nxW T slew err cmd hh)]) ∧ Below w.heap.size w w' := by
  have hi0 : (err + (T.length / 2 : Nat)).toNat < T.length := by omega
  obtain ⟨bb, off, rfl, hb, hc0⟩ := hs _ _ (List.getElem?_eq_getElem hi0)
  have m := hx _ (List.getElem_mem hi0)
  have BC := Lib.hid (fun W => bound_c T (some ⟨bb, off, none⟩) c lo hi turn slew W hT)
  have hC : nxC T slew err cmd = min (max T[(err + (T.length / 2 : Nat)).toNat] (cmd - slew)) (cmd + slew) := by unfold nxC; rw [List.getD_eq_getElem?_getD, List.getElem?_eq_getElem hi0]; rfl
  have HC := Lib.hid hC
  have cb : -2000 ≤ nxC T slew err cmd ∧ nxC T slew err cmd ≤ 2000 := by omega
  have HE := Lib.hid (show nxE T slew err cmd hh = err + hh - nxC T slew err cmd from rfl)
  have HW := Lib.hid (show nxW T slew err cmd hh = inB (nxE T slew err cmd hh) (-(T.length / 2 : Nat)) (T.length / 2 : Nat) from rfl)
  clear hC hx
  generalize nxW T slew err cmd hh = W at *
  generalize nxE T slew err cmd hh = E at *
  generalize nxC T slew err cmd = C at *
  generalize hx0 : T[(err + (T.length / 2 : Nat)).toNat] = x at *
  clear hx0
  generalize hbd : T.length / 2 = bd at *
  have hbd1 : bd ≤ 500 := by omega
  have HB := Lib.hid hbd
  clear hbd
  go_enter Try.func118, Try.ntmps118
  go_wp2
  go_upto_region 1 with fail
  go_cut [8] (fun s wx => s = .int .i64 x ∧ Below (w.heap.size + 3) (((w.alloc (.cells #[.slice (some ⟨bb, off, none⟩) T.length c, .int .i64 lo, .int .i64 hi, .int .i64 turn, .int .i64 slew] 139)).alloc (.cells #[.int .i64 err, .int .i64 cmd, .int .i64 hv] 42)).alloc (.cells #[.int .i64 0, .int .i64 0, .int .i64 0] 42)) wx)
  case first =>
    have hbp : bb < w.heap.size + 1 := by omega
    have hbq : bb < w.heap.size + 1 + 1 := by omega
    have hbr : bb < w.heap.size + 1 + 1 + 1 := by omega
    have v1 : IntKind.i64.wrap (err + (bd : Int)) = err + (bd : Int) := IntWalk.i64_in _ (by omega)
    have v2 : (err + (bd : Int)) < T.length := by omega
    go_region_with (go_at_call 143; refine (BC.out _).mono ?_; rintro e w1 ⟨rfl, hb1⟩; obtain ⟨hc1, hf1⟩ := bcell hb1; have hz1 : w.heap.size + 1 + 1 < w1.heap.size := (by have := hb1.size; (try simp at this); omega); have hz2 : w.heap.size + 1 < w1.heap.size := (by omega); have hz3 : w.heap.size < w1.heap.size := (by omega); have hbs : bb < w1.heap.size := by omega)
    all_goals (go_wp2_with fail; go_meet; exact ⟨rfl, by focus ((repeat first | with_reducible exact Below.refl _ _ | (with_reducible refine Below.setCell ?_ ?_ _) | (with_reducible refine Below.alloc ?_ ?_ _) | (with_reducible refine below_drewN ?_ _) | (with_reducible refine Below.drew ?_) | (with_reducible refine Below.trans ?_ (Below.mono hb1 ?_))); all_goals (first | with_reducible exact Nat.le_refl _ | omega | (simp; done) | (simp; omega) | (have := hb1.size; (try simp at this); omega) | (have := hb1.size; (try simp at this); (try simp); omega)))⟩)
  case rest =>
    obtain ⟨rfl, hB⟩ := hcut
    have q0 : Box wc w.heap.size 139 #[.slice (some ⟨bb, off, none⟩) T.length c, .int .i64 lo, .int .i64 hi, .int .i64 turn, .int .i64 slew] := by focus (apply Box.via; apply Exists.intro; apply And.intro; (repeat first | with_reducible assumption | with_reducible exact Box.new _ _ _ | ((with_reducible apply Box.newAt); focus (simp; done)) | (with_reducible apply Box.drew) | (with_reducible apply Box.drewN) | (with_reducible apply Box.set) | (with_reducible apply Box.alloc) | (with_reducible apply Box.far) | (with_reducible apply Box.below (hb := hB))); all_goals (first | with_reducible exact Nat.le_refl _ | omega | (simp; done) | (simp; omega) | (have := hB.size; (try simp at this); omega) | (have := hB.size; (try simp at this); (try simp); omega)))
    have q1 : Box wc (w.heap.size + 1) 42 #[.int .i64 err, .int .i64 cmd, .int .i64 hv] := by focus (apply Box.via; apply Exists.intro; apply And.intro; (repeat first | with_reducible assumption | with_reducible exact Box.new _ _ _ | ((with_reducible apply Box.newAt); focus (simp; done)) | (with_reducible apply Box.drew) | (with_reducible apply Box.drewN) | (with_reducible apply Box.set) | (with_reducible apply Box.alloc) | (with_reducible apply Box.far) | (with_reducible apply Box.below (hb := hB))); all_goals (first | with_reducible exact Nat.le_refl _ | omega | (simp; done) | (simp; omega) | (have := hB.size; (try simp at this); omega) | (have := hB.size; (try simp at this); (try simp); omega)))
    have q2 : Box wc (w.heap.size + 1 + 1) 42 #[.int .i64 0, .int .i64 0, .int .i64 0] := by focus (apply Box.via; apply Exists.intro; apply And.intro; (repeat first | with_reducible assumption | with_reducible exact Box.new _ _ _ | ((with_reducible apply Box.newAt); focus (simp; done)) | (with_reducible apply Box.drew) | (with_reducible apply Box.drewN) | (with_reducible apply Box.set) | (with_reducible apply Box.alloc) | (with_reducible apply Box.far) | (with_reducible apply Box.below (hb := hB))); all_goals (first | with_reducible exact Nat.le_refl _ | omega | (simp; done) | (simp; omega) | (have := hB.size; (try simp at this); omega) | (have := hB.size; (try simp at this); (try simp); omega)))
    have c00 := q0.cell 0; have c01 := q0.cell 1; have c02 := q0.cell 2; have c03 := q0.cell 3; have c04 := q0.cell 4; have f0 := q0.froz
    have c10 := q1.cell 0; have c11 := q1.cell 1; have c12 := q1.cell 2; have f1 := q1.froz
    have c20 := q2.cell 0; have c21 := q2.cell 1; have c22 := q2.cell 2; have f2 := q2.froz
    simp at c00 c01 c02 c03 c04 c10 c11 c12 c20 c21 c22
    clear q0 q1
    have hl0 := q2.lt
    have hl1 : w.heap.size + 1 < wc.heap.size := by omega
    have hl2 : w.heap.size < wc.heap.size := by omega
    go_upto_region 2 with fail
    go_cut [9] (fun s wx => s = .int .i64 C ∧ wx = wc)
    case first =>
      go_wp2_with fail
      all_goals (go_meet; refine ⟨?_, rfl⟩)
      all_goals exact vint (by have := HC.out; omega)
    case rest =>
      obtain ⟨rfl, rfl⟩ := hcut
      go_wp2_with fail
      go_region_with (first | (go_at_call 143; refine (BC.out _).mono ?_; rintro e w1 ⟨rfl, hb1⟩; obtain ⟨hc1, hf1⟩ := bcell hb1; have hz1 : w.heap.size + 1 + 1 < w1.heap.size := (by have := hb1.size; (try simp at this); omega); have hz2 : w.heap.size + 1 < w1.heap.size := (by omega); have hz3 : w.heap.size < w1.heap.size := (by omega); have hz4 : wc.heap.size < w1.heap.size := (by have := hb1.size; (try simp at this); omega)) | (go_at_call 92; refine (isSized_c _ _ _ (by omega) (by omega)).mono ?_; rintro e w' ⟨rfl, rfl⟩))
      all_goals go_wp2
      all_goals (try simp [Act.put])
      all_goals
        refine bodyPost_ret (res_c2 rfl rfl (show Box _ _ 42 #[.int .i64 (err + hh - C), .int .i64 C, .int .i64 hh] from ?hE) Try.underlying42 rfl ws_size) rfl ⟨ret_t2 (by rw [HE.out]) (by rw [HW.out, HE.out]; rfl), ?hB⟩
        case hE => focus (apply Box.via; apply Exists.intro; apply And.intro; (repeat first | with_reducible assumption | with_reducible exact Box.new _ _ _ | ((with_reducible apply Box.newAt); focus (simp; done)) | (with_reducible apply Box.drew) | (with_reducible apply Box.drewN) | (with_reducible apply Box.set) | (with_reducible apply Box.alloc) | (with_reducible apply Box.far) | (with_reducible apply Box.below (hb := hb1))); all_goals (first | with_reducible exact Nat.le_refl _ | omega | (simp; done) | (simp; omega) | (have := hb1.size; (try simp at this); omega) | (have := hb1.size; (try simp at this); (try simp); omega)))
        case hB => focus ((repeat first | with_reducible exact Below.refl _ _ | (with_reducible refine Below.setCell ?_ ?_ _) | (with_reducible refine Below.alloc ?_ ?_ _) | (with_reducible refine below_drewN ?_ _) | (with_reducible refine Below.drew ?_) | (with_reducible refine Below.trans ?_ (Below.mono hb1 ?_)) | (with_reducible refine Below.trans ?_ (Below.mono hB ?_))); all_goals (first | with_reducible exact Nat.le_refl _ | omega | (simp; done) | (simp; omega) | (have := hb1.size; (try simp at this); have := hB.size; (try simp at this); omega) | (have := hb1.size; (try simp at this); have := hB.size; (try simp at this); (try simp); omega)))

end Go.Proofs.Ytgbckdmhmkpahaa

/-
  Size and isHeld of the reference (chapter 6).
-/
import Derived.Test.YtpnfgmgoafgcbaaGreatMoved
import Derived.Test.YtpnfgmgoafgcbaaGreatA13
set_option linter.unusedVariables false
namespace Go.Proofs.YtpnfgmgoafgcbaaGreat
open Go.RowKit
attribute [local go_sem] Oper.semAt_some
set_option maxHeartbeats 400000 in
theorem bSize_c (n : Int) (w : World) (h1 : -1000000 ≤ n) (h2 : n ≤ 1000000) : Calls Tryz.prog 152 #[.int .i64 n] w fun e w' => e = .returned (.int .i64 (max n (-n))) ∧ w = w' := by
  have V := IntWalk.i64_in (-n) (by omega)
  go_enter Tryz.func152, Tryz.ntmps152
  go_wp2
  all_goals go_ret
  all_goals exact ⟨ret_i (by omega), rfl⟩
/-- Whether t is permitted for n, in the reference's words. -/
def ihB (fn fd m n t : Int) : Bool := decide (max t (-t) * fd ≤ fn * n) && decide (max t (-t) ≤ m)
set_option maxHeartbeats 2000000 in
set_option maxRecDepth 100000 in
theorem isHeld_c (C : List Ct) (AC : Option Addr) (cC : Nat) (fn fd l0 l1 l2 px py nx ny m n t : Int) (k : Nat) (w : World) (hs : SlV w AC (C.flatMap ctV)) (hk : C[k]? = some ((px, py), (nx, ny), m)) (hl : C.length ≤ 1000) (hn : 0 ≤ n ∧ n ≤ 1000) (ht : -1000 ≤ t ∧ t ≤ 1000) (hf : 0 ≤ fn ∧ fn ≤ 1000) (hd : -1000 ≤ fd ∧ fd ≤ 1000) :
    Calls Tryz.prog 97 #[.agg #[.slice AC C.length cC, .int .i64 fn, .int .i64 fd, .int .i64 l0, .int .i64 l1, .int .i64 l2], .int .i64 k, .int .i64 n, .int .i64 t] w fun e w' => e = .returned (.bool (ihB fn fd m n t)) ∧ Below w.heap.size w w' := by
  obtain ⟨cb, co, rfl, hcb, _, _, _, _, hc4⟩ := ct_cells hs hk
  have hkl : k < C.length := (List.getElem?_eq_some_iff.1 hk).1
  have m1 := mulB (a := max t (-t)) (b := fd) 1000 1000 (by omega) (by omega)
  have m2 := mulB (a := fn) (b := n) 1000 1000 (by omega) (by omega)
  have v1 : IntKind.i64.wrap (max t (-t) * fd) = max t (-t) * fd := IntWalk.i64_in _ (by omega)
  have v2 : IntKind.i64.wrap (fn * n) = fn * n := IntWalk.i64_in _ (by omega)
  have HS := Lib.hid (show ihB fn fd m n t = (decide (max t (-t) * fd ≤ fn * n) && decide (max t (-t) ≤ m)) from rfl)
  have hk0 : (0 : Int) ≤ (k : Int) := by omega
  have hk1 : (k : Int) < (C.length : Int) := by omega
  dsimp only at hc4
  clear hs hk
  generalize ihB fn fd m n t = R at *
  cases h : decide (max t (-t) * fd ≤ fn * n)
  · have HR := Lib.hid (show R = false by rw [HS.out, h]; rfl)
    go_enter Tryz.func97, Tryz.ntmps97
    go_upto_region 1 with fail
    have G0 : Box (w.alloc (.cells #[.slice (some ⟨cb, co, none⟩) C.length cC, .int .i64 fn, .int .i64 fd, .int .i64 l0, .int .i64 l1, .int .i64 l2] 53)) w.heap.size 53 #[.slice (some ⟨cb, co, none⟩) C.length cC, .int .i64 fn, .int .i64 fd, .int .i64 l0, .int .i64 l1, .int .i64 l2] := Box.new _ _ _
    have G1 : (w.alloc (.cells #[.slice (some ⟨cb, co, none⟩) C.length cC, .int .i64 fn, .int .i64 fd, .int .i64 l0, .int .i64 l1, .int .i64 l2] 53)).cell? ⟨cb, co + k * 5 + 4, none⟩ = some (.int .i64 m) := ((bcell ((Below.refl _ w).alloc (Nat.le_refl _) _)).1 cb _ hcb).trans hc4
    (refine wp_region_held_drew (S := (fun w' => Box w' w.heap.size 53 #[.slice (some ⟨cb, co, none⟩) C.length cC, .int .i64 fn, .int .i64 fd, .int .i64 l0, .int .i64 l1, .int .i64 l2] ∧ w'.cell? ⟨cb, co + k * 5 + 4, none⟩ = some (.int .i64 m))) (by kernel_rfl) ?_ (fun hHeld => ?_); (focus ((try dsimp only); ((first | exact ⟨G0, G1⟩ | exact hHeld)))); refine rgN 0 rfl ?_; (try simp only [Act.put, pqs]); refine rgN 2 rfl ?_; (try simp only [Act.put, pqs]); refine rgN 3 rfl ?_; (try simp only [Act.put, pqs]); refine rgT 4 ?_ rfl (fun w' hSw => ?_) ?_; rotate_left; (focus ((try dsimp only at hSw); (obtain ⟨hSA, hSB⟩ := hSw; have sa0 := hSA.cell 0; have sa1 := hSA.cell 1; have sa2 := hSA.cell 2; (simp at sa0 sa1 sa2)); go_simp; (try with_reducible rfl))); (try simp only [Act.put, pqs]); refine rgN 6 rfl ?_; (try simp only [Act.put, pqs]); refine rgN 7 rfl ?_; (try simp only [Act.put, pqs]); refine rgT 8 ?_ rfl (fun w' hSw => ?_) ?_; rotate_left; (focus ((try dsimp only at hSw); (obtain ⟨hSA, hSB⟩ := hSw; have sa0 := hSA.cell 0; have sa1 := hSA.cell 1; have sa2 := hSA.cell 2; (simp at sa0 sa1 sa2)); go_simp; (try with_reducible rfl))); (try simp only [Act.put, pqs]); refine rgN 9 rfl ?_; (try simp only [Act.put, pqs]); refine rgN 10 rfl ?_; (try simp only [Act.put, pqs]); refine rgC 1 rfl (fun K hK => ?_); go_simp; ((go_at_call 152; (with_reducible refine (bSize_c _ _ (by omega) (by omega)).mono ?_); rintro e w' ⟨rfl, rfl⟩)); go_simp; refine hK.out _ _ ?_ (fun hHeld => ?_); (focus ((try dsimp only); ((first | exact ⟨G0, G1⟩ | exact hHeld)))); clear hK K; (try simp only [Act.put, pqs]); refine rgN 5 rfl ?_; (try simp only [Act.put, pqs]); refine rgN 11 rfl ?_; (try simp only [Act.put, pqs]); refine rgN 12 rfl ?_; (try simp only [Act.put, pqs]); refine tsH (i := 13) rfl (by assumption) ?_; (try simp only [Act.put, pqs]); refine tsH (i := 14) rfl (by assumption) ?_; (try simp only [Act.put, pqs]); refine tsH (i := 15) rfl (by assumption) ?_; (try simp only [Act.put, pqs]); refine tsH (i := 16) rfl (by assumption) ?_; (try simp only [Act.put, pqs]); refine tsH (i := 17) rfl (by assumption) ?_; (try simp only [Act.put, pqs]); refine tsH (i := 18) rfl (by assumption) ?_; (try simp only [Act.put, pqs]); refine tsH (i := 19) rfl (by assumption) ?_; (try simp only [Act.put, pqs]); refine tsH (i := 20) rfl (by assumption) ?_; (try simp only [Act.put, pqs]); refine tsH (i := 21) rfl (by assumption) ?_; (try simp only [Act.put, pqs]); refine rgN 22 rfl ?_; (try simp only [Act.put, pqs]); refine rgN 23 rfl ?_; (try simp only [Act.put, pqs]); refine wpAnyH_done (by kernel_rfl) ?_ _)
    go_wp2
    go_ret
    exact ⟨ret_b HR.out.symm, by exact bB0⟩
  · have HR := Lib.hid (show R = decide (max t (-t) ≤ m) by rw [HS.out, h]; rfl)
    go_enter Tryz.func97, Tryz.ntmps97
    go_upto_region 1 with fail
    have G0 : Box (w.alloc (.cells #[.slice (some ⟨cb, co, none⟩) C.length cC, .int .i64 fn, .int .i64 fd, .int .i64 l0, .int .i64 l1, .int .i64 l2] 53)) w.heap.size 53 #[.slice (some ⟨cb, co, none⟩) C.length cC, .int .i64 fn, .int .i64 fd, .int .i64 l0, .int .i64 l1, .int .i64 l2] := Box.new _ _ _
    have G1 : (w.alloc (.cells #[.slice (some ⟨cb, co, none⟩) C.length cC, .int .i64 fn, .int .i64 fd, .int .i64 l0, .int .i64 l1, .int .i64 l2] 53)).cell? ⟨cb, co + k * 5 + 4, none⟩ = some (.int .i64 m) := ((bcell ((Below.refl _ w).alloc (Nat.le_refl _) _)).1 cb _ hcb).trans hc4
    (refine wp_region_held_drew (S := (fun w' => Box w' w.heap.size 53 #[.slice (some ⟨cb, co, none⟩) C.length cC, .int .i64 fn, .int .i64 fd, .int .i64 l0, .int .i64 l1, .int .i64 l2] ∧ w'.cell? ⟨cb, co + k * 5 + 4, none⟩ = some (.int .i64 m))) (by kernel_rfl) ?_ (fun hHeld => ?_); (focus ((try dsimp only); ((first | exact ⟨G0, G1⟩ | exact hHeld)))); refine rgN 0 rfl ?_; (try simp only [Act.put, pqs]); refine rgN 2 rfl ?_; (try simp only [Act.put, pqs]); refine rgN 3 rfl ?_; (try simp only [Act.put, pqs]); refine rgT 4 ?_ rfl (fun w' hSw => ?_) ?_; rotate_left; (focus ((try dsimp only at hSw); (obtain ⟨hSA, hSB⟩ := hSw; have sa0 := hSA.cell 0; have sa1 := hSA.cell 1; have sa2 := hSA.cell 2; (simp at sa0 sa1 sa2)); go_simp; (try with_reducible rfl))); (try simp only [Act.put, pqs]); refine rgN 6 rfl ?_; (try simp only [Act.put, pqs]); refine rgN 7 rfl ?_; (try simp only [Act.put, pqs]); refine rgT 8 ?_ rfl (fun w' hSw => ?_) ?_; rotate_left; (focus ((try dsimp only at hSw); (obtain ⟨hSA, hSB⟩ := hSw; have sa0 := hSA.cell 0; have sa1 := hSA.cell 1; have sa2 := hSA.cell 2; (simp at sa0 sa1 sa2)); go_simp; (try with_reducible rfl))); (try simp only [Act.put, pqs]); refine rgN 9 rfl ?_; (try simp only [Act.put, pqs]); refine rgN 10 rfl ?_; (try simp only [Act.put, pqs]); refine rgC 1 rfl (fun K hK => ?_); go_simp; ((go_at_call 152; (with_reducible refine (bSize_c _ _ (by omega) (by omega)).mono ?_); rintro e w' ⟨rfl, rfl⟩)); go_simp; refine hK.out _ _ ?_ (fun hHeld => ?_); (focus ((try dsimp only); ((first | exact ⟨G0, G1⟩ | exact hHeld)))); clear hK K; (try simp only [Act.put, pqs]); refine rgN 5 rfl ?_; (try simp only [Act.put, pqs]); refine rgN 11 rfl ?_; (try simp only [Act.put, pqs]); refine rgN 12 rfl ?_; (try simp only [Act.put, pqs]); refine rgN 13 rfl ?_; (try simp only [Act.put, pqs]); refine rgN 15 rfl ?_; (try simp only [Act.put, pqs]); refine rgT 16 ?_ rfl (fun w' hSw => ?_) ?_; rotate_left; (focus ((try dsimp only at hSw); (obtain ⟨hSA, hSB⟩ := hSw; have sa0 := hSA.cell 0; have sa1 := hSA.cell 1; have sa2 := hSA.cell 2; (simp at sa0 sa1 sa2)); go_simp; (try with_reducible rfl))); (try simp only [Act.put, pqs]); refine rgN 17 rfl ?_; (try simp only [Act.put, pqs]); refine rgN 18 rfl ?_; (try simp only [Act.put, pqs]); refine rgN 19 rfl ?_; (try simp only [Act.put, pqs]); refine rgT 20 ?_ rfl (fun w' hSw => ?_) ?_; rotate_left; (focus ((try dsimp only at hSw); (obtain ⟨hSA, hSB⟩ := hSw; have sa0 := hSA.cell 0; have sa1 := hSA.cell 1; have sa2 := hSA.cell 2; (simp at sa0 sa1 sa2)); go_simp; (try with_reducible rfl))); (try simp only [Act.put, pqs]); refine rgC 14 rfl (fun K hK => ?_); go_simp; ((go_at_call 152; (with_reducible refine (bSize_c _ _ (by omega) (by omega)).mono ?_); rintro e w' ⟨rfl, rfl⟩)); go_simp; refine hK.out _ _ ?_ (fun hHeld => ?_); (focus ((try dsimp only); ((first | exact ⟨G0, G1⟩ | exact hHeld)))); clear hK K; (try simp only [Act.put, pqs]); refine rgN 21 rfl ?_; (try simp only [Act.put, pqs]); refine rgN 22 rfl ?_; (try simp only [Act.put, pqs]); refine rgN 23 rfl ?_; (try simp only [Act.put, pqs]); refine wpAnyH_done (by kernel_rfl) ?_ _)
    go_wp2
    go_ret
    exact ⟨ret_b HR.out.symm, by exact bB0⟩

end Go.Proofs.YtpnfgmgoafgcbaaGreat

/-
  CopyPose and SamePose (chapter 6's reference).
-/
import Derived.Test.YtpnfgmgoafgcbaaGreatCpy
import Derived.Test.YtpnfgmgoafgcbaaGreatA15
import Derived.Deep.RegionHeld3
set_option linter.unusedVariables false
namespace Go.Proofs.YtpnfgmgoafgcbaaGreat
open Go.RowKit
attribute [local go_sem] Oper.semAt_some
theorem SlI.setf {w : World} {A : Option Addr} {xs : List Int} {p : Addr} {u : Value} (h : SlI w A xs) (hp : 0 < xs.length → ∀ b o, A = some ⟨b, o, none⟩ → b ≠ p.block) : SlI (w.setCell p u) A xs :=
  slv_sli ((sli_slv h).setf (fun hl => hp (by simpa using hl)))
theorem tps_size : (Tryz.prog.info? 33).map (·.size) = some 2 := by kernel_rfl
set_option maxHeartbeats 2000000 in
set_option maxRecDepth 100000 in
theorem copyPose_c (ps : Int) (Q : List Int) (AQ : Option Addr) (cQ : Nat) (w : World) (hn : Q.length ≤ 100000) (hs : SlI w AQ Q) :
    Calls Tryz.prog 18 #[.agg #[.int .i64 ps, .slice AQ Q.length cQ]] w fun e w' => ∃ D d, e = .returned (.agg #[.int .i64 ps, .slice D Q.length d]) ∧ SlI w' D Q ∧ Below w.heap.size w w' := by
  have CIc := Lib.hid (fun W (h : Below w.heap.size w W) => copyInts_c Q AQ cQ W hn (hs.below h))
  clear hs
  go_enter Tryz.func18, Tryz.ntmps18
  go_upto_region 1 with fail
  have G0 : Box ((w.alloc (.cells #[.int .i64 ps, .slice AQ Q.length cQ] 33)).alloc (.cells #[.int .i64 0, .slice none 0 0] 33)) w.heap.size 33 #[.int .i64 ps, .slice AQ Q.length cQ] := by exact bX0
  (refine wp_region_held_drew (S := (fun w' => Box w' w.heap.size 33 #[.int .i64 ps, .slice AQ Q.length cQ])) (by kernel_rfl) ?_ (fun hHeld => ?_); (focus ((try dsimp only); (((first | exact bX0 | exact bX1 hb3))))); refine rgN 0 rfl ?_; (try simp only [Act.put, pqs]); refine rgT 1 ?_ rfl (fun w' hSw => ?_) ?_; rotate_left; (focus ((try dsimp only at hSw); (have sa0 := hSw.cell 0; have sa1 := hSw.cell 1; (simp at sa0 sa1)); go_simp; (try with_reducible rfl))); (try simp only [Act.put, pqs]); refine rgN 2 rfl ?_; (try simp only [Act.put, pqs]); refine rgT 3 ?_ rfl (fun w' hSw => ?_) ?_; rotate_left; (focus ((try dsimp only at hSw); (have sa0 := hSw.cell 0; have sa1 := hSw.cell 1; (simp at sa0 sa1)); go_simp; (try with_reducible rfl))); (try simp only [Act.put, pqs]); refine rgC 4 rfl (fun K hK => ?_); go_simp; ((go_at_call 88; (with_reducible refine (CIc.out _ (by exact bB0)).mono ?_); rintro e w3 hC3; obtain ⟨D, d, rfl, hv3, hf3, hb3⟩ := hC3; have hz3 : w.heap.size + 1 + 1 ≤ w3.heap.size := (by have := hb3.size; (try simp at this); omega); have V3 : Box w3 (w.heap.size + 1) 33 #[.int .i64 0, .slice none 0 0] := (by exact bX1 hb3); have v30 := V3.cell 0; have v31 := V3.cell 1; have fv3 := V3.froz; have lv3 := V3.lt; (simp at v30 v31))); go_simp; refine hK.out _ _ ?_ (fun hHeld => ?_); (focus ((try dsimp only); (((first | exact bX1 hb3 | exact bX0))))); clear hK K; (try simp only [Act.put, pqs]); refine rgN 5 rfl ?_; (try simp only [Act.put, pqs]); refine rgC 6 rfl (fun K hK => ?_); go_simp; refine hK.out _ _ ?_ (fun hHeld => ?_); (focus ((try dsimp only); (((first | exact bX1 hb3 | exact bX0))))); clear hK K; (try simp only [Act.put, pqs]); refine wpAnyH_done (by kernel_rfl) ?_ _)
  go_wp2
  refine bodyPost_ret (res_c1 rfl rfl (show Box _ _ 33 #[.int .i64 ps, .slice D Q.length d] from ?hE) Tryz.underlying33 rfl tps_size) rfl ⟨D, d, rfl, ?hD, ?hB⟩
  case hE => exact bX1 hb3
  case hB => exact bB1 hb3
  case hD =>
    repeat (refine SlI.setf ?_ (fun hl b o e => ?_); rotate_left; (focus (have := hf3 hl b o e; (try simp at this); (try simp); omega)))
    exact hv3

end Go.Proofs.YtpnfgmgoafgcbaaGreat

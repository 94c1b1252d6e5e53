/-
  A copied pose lies in a block of its own (chapter 6's reference).
-/
import Derived.Test.YtpnfgmgoafgcbaaGreatCpyX
import Derived.Test.YtpnfgmgoafgcbaaGreatCpyP
set_option linter.unusedVariables false
namespace Go.Proofs.YtpnfgmgoafgcbaaGreat
open Go.RowKit
attribute [local go_sem] Oper.semAt_some
/-- A row begins so. -/
def Bgn (cs : Array Value) (xs : List Value) : Prop := ∀ (j : Nat) (u : Value), xs[j]? = some u → cs[j]? = some u
theorem Bgn.set {cs : Array Value} {xs : List Value} (h : Bgn cs xs) (i : Nat) (v : Value) : Bgn (cs.setIfInBounds i v) (xs.set i v) := fun j u hj => by
  rw [List.getElem?_set] at hj
  rw [Array.getElem?_setIfInBounds]
  by_cases e : i = j
  · subst e
    by_cases hi : i < xs.length
    · simp [hi] at hj
      subst hj
      have h2 := h i xs[i] (List.getElem?_eq_getElem hi)
      have h3 := (Array.getElem?_eq_some_iff.1 h2).1
      simp [h3]
    · simp [hi] at hj
  · simp [e] at hj ⊢
    exact h j u hj
theorem Bgn.slv {w : World} {g : Nat} {t : TypeId} {cs : Array Value} {xs : List Value} (h : Bgn cs xs) (hb : Box w g t cs) : SlV w (some ⟨g, 0, none⟩) xs := fun j u hj => ⟨g, 0, rfl, hb.lt, by rw [hb.cell, Nat.zero_add]; exact h j u hj⟩
theorem bgn_of {w : World} {g : Nat} {t : TypeId} {cs : Array Value} {xs : List Value} (hb : Box w g t cs) (h : SlV w (some ⟨g, 0, none⟩) xs) : Bgn cs xs := fun j u hj => by
  obtain ⟨b, o, e, _, hc⟩ := h j u hj
  cases e
  rw [hb.cell, Nat.zero_add] at hc
  exact hc
set_option maxHeartbeats 1000000 in
theorem copyIntsX_c (xs : List Int) (A : Option Addr) (c : Nat) (w : World) (hn : xs.length ≤ 100000) (hs : SlI w A xs) :
    Calls Tryz.prog 88 #[.slice A xs.length c] w fun e w' => ∃ B d, e = .returned (.slice B xs.length d) ∧ SlI w' B xs ∧ (0 < xs.length → ∃ g cs, B = some ⟨g, 0, none⟩ ∧ w.heap.size ≤ g ∧ Box w' g 3 cs) ∧ Below w.heap.size w w' := by
  obtain ⟨i0, z0, hi0, hz0, hz1, hz2, hz3⟩ := infoOk_parts infoInt
  have hm1 : xs.length ≤ maxLen := by unfold maxLen; omega
  have hm2 : xs.length * 8 ≤ 140737488355328 := by omega
  have HS := Lib.hid (sli_slv hs)
  clear hs
  go_enter Tryz.func88, Tryz.ntmps88
  go_wp2_with (at_builtin; go_must (refine wpList_copyX rfl _ _ 31 rfl 3 i0 z0 1 8 Tryz.underlying31 hi0 hz0 hz1 hz2 hz3 (by decide) _ rfl A xs.length c (xs.map (Value.int .i64)) rfl (by simp) (HS.out.below (by exact bB0)) hm1 hm2 ?_); intro B2 c2 wx hv2 hf2 hb2; have HF2 := Lib.hid hf2; clear hf2)
  go_ret
  refine ⟨_, _, rfl, slv_sli hv2, fun hl => ?_, by exact bB1 hb2⟩
  obtain ⟨g, cs, e, hg, hbx⟩ := HF2.out hl
  simp at hg
  exact ⟨g, cs, e, by omega, hbx⟩
set_option maxHeartbeats 2000000 in
set_option maxRecDepth 100000 in
theorem copyPoseX_c (ps : Int) (Q : List Int) (AQ : Option Addr) (cQ : Nat) (w : World) (hn : Q.length ≤ 100000) (hs : SlI w AQ Q) :
    Calls Tryz.prog 18 #[.agg #[.int .i64 ps, .slice AQ Q.length cQ]] w fun e w' => ∃ D d, e = .returned (.agg #[.int .i64 ps, .slice D Q.length d]) ∧ SlI w' D Q ∧ (0 < Q.length → ∃ g cs, D = some ⟨g, 0, none⟩ ∧ w.heap.size ≤ g ∧ Box w' g 3 cs) ∧ Below w.heap.size w w' := by
  have CIc := Lib.hid (fun W (h : Below w.heap.size w W) => copyIntsX_c Q AQ cQ W hn (hs.below h))
  clear hs
  go_enter Tryz.func18, Tryz.ntmps18
  go_upto_region 1 with fail
  have G0 : Box ((w.alloc (.cells #[.int .i64 ps, .slice AQ Q.length cQ] 33)).alloc (.cells #[.int .i64 0, .slice none 0 0] 33)) w.heap.size 33 #[.int .i64 ps, .slice AQ Q.length cQ] := by exact bX0
  (refine wp_region_held_drew (S := (fun w' => Box w' w.heap.size 33 #[.int .i64 ps, .slice AQ Q.length cQ])) (by kernel_rfl) ?_ (fun hHeld => ?_); (focus ((try dsimp only); (((first | exact bX0 | exact bX1 hb3))))); refine rgN 0 rfl ?_; (try simp only [Act.put, pqs]); refine rgT 1 ?_ rfl (fun w' hSw => ?_) ?_; rotate_left; (focus ((try dsimp only at hSw); (have sa0 := hSw.cell 0; have sa1 := hSw.cell 1; (simp at sa0 sa1)); go_simp; (try with_reducible rfl))); (try simp only [Act.put, pqs]); refine rgN 2 rfl ?_; (try simp only [Act.put, pqs]); refine rgT 3 ?_ rfl (fun w' hSw => ?_) ?_; rotate_left; (focus ((try dsimp only at hSw); (have sa0 := hSw.cell 0; have sa1 := hSw.cell 1; (simp at sa0 sa1)); go_simp; (try with_reducible rfl))); (try simp only [Act.put, pqs]); refine rgC 4 rfl (fun K hK => ?_); go_simp; ((go_at_call 88; (with_reducible refine (CIc.out _ (by exact bB0)).mono ?_); rintro e w3 hC3; obtain ⟨D, d, rfl, hv3, hf3, hb3⟩ := hC3; have HF3 := Lib.hid hf3; clear hf3; have hz3 : w.heap.size + 1 + 1 ≤ w3.heap.size := (by have := hb3.size; (try simp at this); omega); have V3 : Box w3 (w.heap.size + 1) 33 #[.int .i64 0, .slice none 0 0] := (by exact bX1 hb3); have v30 := V3.cell 0; have v31 := V3.cell 1; have fv3 := V3.froz; have lv3 := V3.lt; (simp at v30 v31))); go_simp; refine hK.out _ _ ?_ (fun hHeld => ?_); (focus ((try dsimp only); (((first | exact bX1 hb3 | exact bX0))))); clear hK K; (try simp only [Act.put, pqs]); refine rgN 5 rfl ?_; (try simp only [Act.put, pqs]); refine rgC 6 rfl (fun K hK => ?_); go_simp; refine hK.out _ _ ?_ (fun hHeld => ?_); (focus ((try dsimp only); (((first | exact bX1 hb3 | exact bX0))))); clear hK K; (try simp only [Act.put, pqs]); refine wpAnyH_done (by kernel_rfl) ?_ _)
  go_wp2
  refine bodyPost_ret (res_c1 rfl rfl (show Box _ _ 33 #[.int .i64 ps, .slice D Q.length d] from ?hE) Tryz.underlying33 rfl tps_size) rfl ⟨D, d, rfl, ?hD, ?hF, ?hZ⟩
  case hE => exact bX1 hb3
  case hZ => exact bB1 hb3
  case hF =>
    intro h0
    obtain ⟨g, cs, e, hg, hbx⟩ := HF3.out h0
    simp at hg
    exact ⟨g, cs, e, by omega, by exact bX0⟩
  case hD =>
    repeat (refine SlI.setf ?_ (fun hl b o e => ?_); rotate_left; (focus (obtain ⟨g, cs, e1, hg, hbx⟩ := HF3.out hl; rw [e1] at e; (cases e); (simp at hg); (try simp); omega)))
    exact hv3

end Go.Proofs.YtpnfgmgoafgcbaaGreat

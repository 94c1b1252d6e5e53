/-
  The errors of lists of names (chapter 6: tools): namesErr of the reference, toolsErr of package arm.
-/
import Derived.Test.YtpnfgmgoafgcbaaGreatNms2
import Derived.Test.YtpnfgmgoafgcbaaGreatA4
set_option linter.unusedVariables false
set_option linter.unusedSimpArgs false
set_option linter.unusedVariables false
namespace Go.Proofs.YtpnfgmgoafgcbaaGreat
open Go.RowKit Go.Shelf
attribute [local go_sem] Oper.semAt_some
/-- The error of a list of names: each is a name, and none comes twice. -/
def nmF : List ByteArray → List ByteArray → Int
  | _, [] => 0
  | d, s :: r => if nmB s = false then 4 else if hasS d s = true then 23 else nmF (d ++ [s]) r
def nmE (xs : List ByteArray) : Int := nmF [] xs
theorem nmF_at {xs : List ByteArray} {k : Nat} {s : ByteArray} (h : xs[k]? = some s) : nmF (xs.take k) (xs.drop k) = if nmB s = false then 4 else if hasS (xs.take k) s = true then 23 else nmF (xs.take (k + 1)) (xs.drop (k + 1)) := by
  obtain ⟨hk, e⟩ := List.getElem?_eq_some_iff.1 h
  rw [List.drop_eq_getElem_cons hk, e, nmF, List.take_add_one, h]
  rfl
set_option maxHeartbeats 4000000 in
theorem namesErr_c (xs : List ByteArray) (A : Option Addr) (c : Nat) (w : World) (hn : xs.length ≤ 100000) (hcp : xs.length ≤ c) (hs : SlS w A xs) :
    Calls Tryz.prog 141 #[.slice A xs.length c] w fun e w' => e = .returned (.int .i64 (nmE xs)) ∧ Below w.heap.size w w' := by
  have HS := Lib.hid hs
  clear hs
  go_enter Tryz.func141, Tryz.ntmps141
  go_wp2
  go_loopw [3] (fun j wr => ∃ k : Nat, j = .int .i64 k ∧ k ≤ xs.length ∧ Hid (nmE xs = nmF (xs.take k) (xs.drop k)) ∧ Below w.heap.size w wr) (fun j _ => xs.length - (intOf j).toNat)
  case atStart => exact ⟨0, rfl, Nat.zero_le _, rfl, Below.refl _ _⟩
  case round =>
    obtain ⟨k, rfl, hk, hf, hB⟩ := hrel
    by_cases hlt : k < xs.length
    · obtain ⟨x, hx⟩ : ∃ x, xs[k]? = some x := ⟨_, List.getElem?_eq_getElem hlt⟩
      have hS2 := HS.out.below hB
      obtain ⟨b, o, rfl, hb, hc⟩ := sls_at hS2 hx
      have hst := nmF_at hx
      have htl : (xs.take k).length = k := by rw [List.length_take]; omega
      have k0 : 0 ≤ (k : Int) := by omega
      have k1 : (k : Int) < (xs.length : Int) := by omega
      have kc : k ≤ c := by omega
      cases hq : nmB x
      · have hR : nmE xs = 4 := by rw [hf.out, hst, if_pos hq]
        clear hst hx hf hS2
        go_wp2_with (first | (go_at_call 168; (with_reducible refine (isName_r _ _).mono ?_); rintro e w' ⟨rfl, hw⟩; have hw2 := hw.symm; clear hw; subst hw2) | fail)
        go_ret
        exact ⟨ret_i hR.symm, hB⟩
      · rw [if_neg (by simp [hq])] at hst
        have HTc := Lib.hid (fun W (h : Below wr.heap.size wr W) => show Calls Tryz.prog 142 #[.slice (some ⟨b, o, none⟩) k c, .string x] W (fun e w' => e = .returned (.bool (hasS (xs.take k) x)) ∧ w' = W) from by
          have h5 := hasText_c (xs.take k) (some ⟨b, o, none⟩) c x W (by omega) ((hS2.below h).take k)
          rw [htl] at h5
          exact h5)
        cases hh : hasS (xs.take k) x
        · rw [if_neg (by simp [hh])] at hst
          rw [hh] at HTc
          have HF := Lib.hid (hf.out.trans hst)
          clear hst hx hf hS2 htl
          go_upto_region 6 with (first | (go_at_call 168; (with_reducible refine (isName_r _ _).mono ?_); rintro e w' ⟨rfl, hw⟩; have hw2 := hw.symm; clear hw; subst hw2) | fail)
          (refine region_open (by kernel_rfl) (fun R hR => ?_); refine heldR (S := (fun w' => Below wr.heap.size wr w')) ?_ (fun hHeld => ?_); (focus ((try dsimp only); (((first | exact bB0 | exact bB0))))); refine rgN 0 rfl ?_; refine rgN 1 rfl ?_; refine rgN 2 rfl ?_; refine rgN 3 rfl ?_; refine rgN 4 rfl ?_; refine rgN 5 rfl ?_; refine rgT 6 ?_ rfl (fun w' hSw => ?_) ?_; rotate_left; (focus ((try dsimp only at hSw); (have sa := ((bcell hSw).1 _ _ hb).trans hc); go_simp; (try with_reducible rfl))); (try simp only [Act.put, pqs]); refine rgC 7 rfl (fun K hK => ?_); go_simp; ((go_at_call 142; (with_reducible refine (HTc.out _ (by exact bB0)).mono ?_); rintro e w3 ⟨rfl, hw⟩; have hw2 := hw.symm; clear hw; subst hw2)); go_simp; refine hK.out _ _ ?_ (fun hHeld => ?_); (focus ((try dsimp only); (((first | exact bB0 | exact bB0))))); clear hK K; (try simp only [Act.put, pqs]); refine wpAnyH_done (Q := fun e a w => e = Exit.normal ∧ R a w) (by kernel_rfl) ⟨rfl, hR _ _ ?_⟩ _; clear hR R)
          go_wp2
          go_roundw
          case rel => exact ⟨k + 1, by go_num, by omega, HF, by exact bB1 hB⟩
          case measure => simp [intOf]; omega
        · rw [if_pos hh] at hst
          rw [hh] at HTc
          have hR : nmE xs = 23 := hf.out.trans hst
          clear hst hx hf hS2 htl
          go_upto_region 6 with (first | (go_at_call 168; (with_reducible refine (isName_r _ _).mono ?_); rintro e w' ⟨rfl, hw⟩; have hw2 := hw.symm; clear hw; subst hw2) | fail)
          (refine region_open (by kernel_rfl) (fun R hR => ?_); refine heldR (S := (fun w' => Below wr.heap.size wr w')) ?_ (fun hHeld => ?_); (focus ((try dsimp only); (((first | exact bB0 | exact bB0))))); refine rgN 0 rfl ?_; refine rgN 1 rfl ?_; refine rgN 2 rfl ?_; refine rgN 3 rfl ?_; refine rgN 4 rfl ?_; refine rgN 5 rfl ?_; refine rgT 6 ?_ rfl (fun w' hSw => ?_) ?_; rotate_left; (focus ((try dsimp only at hSw); (have sa := ((bcell hSw).1 _ _ hb).trans hc); go_simp; (try with_reducible rfl))); (try simp only [Act.put, pqs]); refine rgC 7 rfl (fun K hK => ?_); go_simp; ((go_at_call 142; (with_reducible refine (HTc.out _ (by exact bB0)).mono ?_); rintro e w3 ⟨rfl, hw⟩; have hw2 := hw.symm; clear hw; subst hw2)); go_simp; refine hK.out _ _ ?_ (fun hHeld => ?_); (focus ((try dsimp only); (((first | exact bB0 | exact bB0))))); clear hK K; (try simp only [Act.put, pqs]); refine wpAnyH_done (Q := fun e a w => e = Exit.normal ∧ R a w) (by kernel_rfl) ⟨rfl, hR _ _ ?_⟩ _; clear hR R)
          go_wp2
          go_ret
          exact ⟨ret_i hR.symm, by exact bB1 hB⟩
    · obtain rfl : k = xs.length := by omega
      have hR : nmE xs = 0 := by rw [hf.out, List.drop_length]; rfl
      clear hf
      go_wp2
      go_ret
      exact ⟨ret_i hR.symm, hB⟩
set_option maxHeartbeats 4000000 in
theorem toolsErr_c (xs : List ByteArray) (A : Option Addr) (c : Nat) (w : World) (hn : xs.length ≤ 100000) (hs : SlS w A xs) (hsz : ∀ s ∈ xs, s.size ≤ 9223372036854775807) :
    Calls Tryz.prog 137 #[.slice A xs.length c] w fun e w' => e = .returned (.int .i64 (nmE xs)) ∧ Below w.heap.size w w' := by
  have HS := Lib.hid hs
  have HZ := Lib.hid hsz
  clear hs hsz
  have hmm := @run_makeMap Tryz.prog
  go_enter Tryz.func137, Tryz.ntmps137
  go_wp2
  have hM0 : SMap (w.alloc (.map #[] 0)) w.heap.size [] := SMap.made w
  have hB0 : Below w.heap.size w (w.alloc (.map #[] 0)) := (Below.refl _ _).alloc (Nat.le_refl _) _
  generalize w.alloc (.map #[] 0) = W0 at *
  clear hmm
  go_loopw [10] (fun j wr => ∃ k : Nat, j = .int .i64 k ∧ k ≤ xs.length ∧ Hid (nmE xs = nmF (xs.take k) (xs.drop k)) ∧ SMap wr w.heap.size (xs.take k) ∧ Below w.heap.size w wr) (fun j _ => xs.length - (intOf j).toNat)
  case atStart => exact ⟨0, rfl, Nat.zero_le _, rfl, hM0, hB0⟩
  case round =>
    clear hM0 hB0
    obtain ⟨k, rfl, hk, hf, hM, hB⟩ := hrel
    by_cases hlt : k < xs.length
    · obtain ⟨x, hx⟩ : ∃ x, xs[k]? = some x := ⟨_, List.getElem?_eq_getElem hlt⟩
      have hxn := HZ.out x (List.mem_of_getElem? hx)
      obtain ⟨b, o, hA, hb, hc⟩ := sls_at (HS.out.below hB) hx
      obtain ⟨b', o', hA', hbw, hcw⟩ := sls_at HS.out hx
      rw [hA] at hA'
      cases hA'
      have hst := nmF_at hx
      have htk : xs.take (k + 1) = xs.take k ++ [x] := by rw [List.take_add_one, hx]; rfl
      have k0 : 0 ≤ (k : Int) := by omega
      have k1 : (k : Int) < (xs.length : Int) := by omega
      have lM := hM.lt
      subst hA
      have HTK := Lib.hid htk
      have HST := Lib.hid hst
      clear hst htk hx
      go_upto_region 5 with fail
      (refine region_open (by kernel_rfl) (fun R hR => ?_); refine heldR (S := (fun w' => Below w.heap.size w w' ∧ SMap w' w.heap.size (xs.take k))) ?_ (fun hHeld => ?_); (focus ((try dsimp only); ((refine ⟨?_, ?_⟩; (focus ((first | exact bB0 | exact bB1 hb3 | exact bB1 hB | exact bB2 hb3 hB))); (focus (exact hM.below (show Below wr.heap.size wr _ from by (first | exact bB0 | exact bB1 hb3)) lM)))))); refine rgN 0 rfl ?_; refine rgN 3 rfl ?_; refine rgN 4 rfl ?_; refine rgT 5 ?_ rfl (fun w' hSw => ?_) ?_; rotate_left; (focus ((try dsimp only at hSw); (obtain ⟨hSA, hSB⟩ := hSw; have hlk := run_look_s x _ _ _ hSB); go_simp; (try with_reducible rfl))); (try simp only [Act.put, pqs]); refine rgN 6 rfl ?_; refine rgC 1 rfl (fun K hK => ?_); go_simp; ((go_at_call 167; (with_reducible refine (isName_c _ _ hxn).mono ?_); rintro e w3 ⟨rfl, hb3⟩; have hz3 : wr.heap.size ≤ w3.heap.size := (by have := hb3.size; (try simp at this); omega))); go_simp; refine hK.out _ _ ?_ (fun hHeld => ?_); (focus ((try dsimp only); ((refine ⟨?_, ?_⟩; (focus ((first | exact bB2 hb3 hB | exact bB1 hB | exact bB1 hb3 | exact bB0))); (focus (exact hM.below (show Below wr.heap.size wr _ from by (first | exact bB1 hb3 | exact bB0)) lM)))))); clear hK K; (try simp only [Act.put, pqs]); refine rgC 2 rfl (fun K hK => ?_); go_simp; ((go_at_call 84; (with_reducible refine (unless_c _ _ _).mono ?_); rintro e w' ⟨rfl, rfl⟩)); go_simp; refine hK.out _ _ ?_ (fun hHeld => ?_); (focus ((try dsimp only); ((refine ⟨?_, ?_⟩; (focus ((first | exact bB2 hb3 hB | exact bB1 hB | exact bB1 hb3 | exact bB0))); (focus (exact hM.below (show Below wr.heap.size wr _ from by (first | exact bB1 hb3 | exact bB0)) lM)))))); clear hK K; (try simp only [Act.put, pqs]); refine rgC 7 rfl (fun K hK => ?_); go_simp; ((go_at_call 84; (with_reducible refine (unless_c _ _ _).mono ?_); rintro e w' ⟨rfl, rfl⟩)); go_simp; refine hK.out _ _ ?_ (fun hHeld => ?_); (focus ((try dsimp only); ((refine ⟨?_, ?_⟩; (focus ((first | exact bB2 hb3 hB | exact bB1 hB | exact bB1 hb3 | exact bB0))); (focus (exact hM.below (show Below wr.heap.size wr _ from by (first | exact bB1 hb3 | exact bB0)) lM)))))); clear hK K; (try simp only [Act.put, pqs]); refine rgC 8 rfl (fun K hK => ?_); go_simp; refine hK.out _ _ ?_ (fun hHeld => ?_); (focus ((try dsimp only); ((refine ⟨?_, ?_⟩; (focus ((first | exact bB2 hb3 hB | exact bB1 hB | exact bB1 hb3 | exact bB0))); (focus (exact hM.below (show Below wr.heap.size wr _ from by (first | exact bB1 hb3 | exact bB0)) lM)))))); clear hK K; (try simp only [Act.put, pqs]); refine rgC 9 rfl (fun K hK => ?_); go_simp; (first | (go_at_call 83; (with_reducible refine (first2a _ _ _ _ _ (by simp)).mono ?_); rintro e w' ⟨rfl, rfl⟩) | (go_at_call 83; (with_reducible refine (first2d _ _ _ _ _ (by simp)).mono ?_); rintro e w' ⟨rfl, rfl⟩)); go_simp; refine hK.out _ _ ?_ (fun hHeld => ?_); (focus ((try dsimp only); ((refine ⟨?_, ?_⟩; (focus ((first | exact bB2 hb3 hB | exact bB1 hB | exact bB1 hb3 | exact bB0))); (focus (exact hM.below (show Below wr.heap.size wr _ from by (first | exact bB1 hb3 | exact bB0)) lM)))))); clear hK K; (try simp only [Act.put, pqs]); refine rgN 10 rfl ?_; refine wpAnyH_done (Q := fun e a w => e = Exit.normal ∧ R a w) (by kernel_rfl) ⟨rfl, hR _ _ ?_⟩ _; clear hR R)
      have hE : fstE [unl (nmB x) 4, unl (!hasS (xs.take k) x) 23] = if nmB x = false then 4 else if hasS (xs.take k) x = true then 23 else 0 := by
        cases nmB x <;> cases hasS (xs.take k) x <;> simp [fstE, unl]
      have hBx : Below w.heap.size w (w3.alloc (Obj.cells #[Value.int IntKind.i64 (unl (nmB x) 4), Value.int IntKind.i64 (unl (!hasS (List.take k xs) x) 23)] 37)) := by exact bB2 hb3 hB
      have hMx : SMap (w3.alloc (Obj.cells #[Value.int IntKind.i64 (unl (nmB x) 4), Value.int IntKind.i64 (unl (!hasS (List.take k xs) x) 23)] 37)) w.heap.size (xs.take k) := hM.below (show Below wr.heap.size wr _ from by exact bB1 hb3) lM
      generalize (w3.alloc (Obj.cells #[Value.int IntKind.i64 (unl (nmB x) 4), Value.int IntKind.i64 (unl (!hasS (List.take k xs) x) 23)] 37)) = W5 at *
      generalize fstE [unl (nmB x) 4, unl (!hasS (List.take k xs) x) 23] = e at *
      have hst := HST.out
      have HFX := Lib.hid hf.out
      clear hf HST hb3 hz3 hM lM hb hc hcw hbw
      by_cases he : e = 0
      · have hq : nmB x = true := by
          cases h1 : nmB x with
          | true => rfl
          | false => rw [h1, if_pos rfl] at hE; omega
        have hh : hasS (xs.take k) x = false := by
          cases h1 : hasS (xs.take k) x with
          | false => rfl
          | true => rw [h1, if_neg (by simp [hq]), if_pos rfl] at hE; omega
        rw [if_neg (by simp [hq]), if_neg (by simp [hh])] at hst
        have HF2 := Lib.hid (HFX.out.trans hst)
        have hput := run_put_s x W5 w.heap.size (xs.take k) hMx (hasS_f.1 hh)
        have hM2 := hMx.put x
        rw [← HTK.out] at hM2
        have hB2 : Below w.heap.size w (W5.putObj w.heap.size (putS W5 w.heap.size x)) := below_putObj hBx (Nat.le_refl _) _
        have HM2 := Lib.hid hM2
        subst he
        clear hst hE hq hh hMx hM2 HTK HFX
        go_wp2
        go_roundw
        case rel => exact ⟨k + 1, by go_num, by omega, HF2, HM2.out, hB2⟩
        case measure => simp [intOf]; omega
      · have hR : nmE xs = e := by
          rw [HFX.out, hst, hE]
          split
          · rfl
          · split
            · rfl
            · rename_i h1 h2; exact absurd (by rw [hE, if_neg h1, if_neg h2]) he
        have x1 : (e != 0) = true := bneT he
        clear hst hE he hMx HTK HFX
        go_wp2
        go_ret
        exact ⟨ret_i hR.symm, hBx⟩
    · obtain rfl : k = xs.length := by omega
      have hR : nmE xs = 0 := by rw [hf.out, List.drop_length]; rfl
      clear hf
      go_wp2
      go_ret
      exact ⟨ret_i hR.symm, hB⟩
end Go.Proofs.YtpnfgmgoafgcbaaGreat

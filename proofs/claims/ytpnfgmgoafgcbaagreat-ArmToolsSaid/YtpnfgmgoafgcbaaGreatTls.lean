/-
  Copies and comparisons of lists of strings, and the reference's ToolsErr (chapter 6: tools).
-/
import Derived.Test.YtpnfgmgoafgcbaaGreatNms3
import Derived.Test.YtpnfgmgoafgcbaaGreatCpyS
set_option linter.unusedVariables false
set_option linter.unusedSimpArgs false
set_option linter.unusedVariables false
namespace Go.Proofs.YtpnfgmgoafgcbaaGreat
open Go.RowKit Go.Shelf
attribute [local go_sem] Oper.semAt_some
theorem own_setS {w : World} {base : Nat} {e : TypeId} {sz n cap g j : Nat} {xs : List Value} {u : Value} (h : w.ownsRow base e sz (.slice (some ⟨g, 0, none⟩) n cap) n xs) : (w.setCell ⟨g, j, none⟩ u).ownsRow base e sz (.slice (some ⟨g, 0, none⟩) n cap) n (xs.set j u) := by
  refine ⟨by rw [List.length_set]; exact h.1, ?_⟩
  rcases h.2 with ⟨h1, _⟩ | ⟨g', cap', cur, h1, h2, h3, h4, h5, h6, h7⟩
  · cases h1
  · injection h1 with h1 h1b h1c
    injection h1 with h1
    injection h1 with h1 _ _
    subst h1 h1c
    have hB : Box w g e cur := h3
    refine .inr ⟨g, cap, cur.setIfInBounds j u, rfl, h2, hB.set j u, h4, h5, by rw [Array.size_setIfInBounds]; exact h6, ?_⟩
    rw [Array.toList_setIfInBounds, List.take_set, h7]
theorem own_blkS {W : World} {b k n sz : Nat} {e : TypeId} {v : Value} {xs : List Value} (h : W.ownsRow b e sz v n xs) (hk : v.ownBlock = some k) : b ≤ k ∧ ∃ cs, Box W k e cs := by
  rcases h.2 with ⟨e2, _⟩ | ⟨g, cap, cur, e2, hg, hh, _⟩
  · rw [e2] at hk; cases hk
  · rw [e2] at hk
    have e3 : g = k := by simpa [Value.ownBlock] using hk
    subst e3
    exact ⟨hg, cur, hh⟩
theorem own_ogS {W W' : World} {b n sz b2 n2 sz2 : Nat} {e e2 : TypeId} {v v2 : Value} {xs xs2 : List Value} (h : W.ownsRow b e sz v n xs) (ho : W.ownsRow b2 e2 sz2 v2 n2 xs2) (ht : e ≠ e2) (hg : W.grownBy W' v2.ownBlock) : W'.ownsRow b e sz v n xs := own_same h fun g hg' => by
  obtain ⟨_, cs, hcs⟩ := own_blkS h hg'
  exact (box_og hcs ho ht hg).trans (show W.heap[g]? = _ from hcs).symm
theorem infoStr : infoOk Tryz.prog 9 1 16 = true := by kernel_rfl
theorem copyTexts_c (xs : List ByteArray) (A : Option Addr) (c : Nat) (w : World) (hn : xs.length ≤ 100000) (hs : SlS w A xs) :
    Calls Tryz.prog 66 #[.slice A xs.length c] w fun e w' => ∃ B d, e = .returned (.slice B xs.length d) ∧ w'.ownsRow w.heap.size 9 1 (.slice B xs.length d) xs.length (xs.map Value.string) ∧ Below w.heap.size w w' := by
  obtain ⟨i0, z0, hi0, hz0, hz1, hz2, hz3⟩ := infoOk_parts infoStr
  have hm1 : xs.length ≤ maxLen := by unfold maxLen; omega
  have hm2 : xs.length * 16 ≤ 140737488355328 := by omega
  have HS := Lib.hid (sls_slv.1 hs)
  clear hs
  go_enter Tryz.func66, Tryz.ntmps66
  go_wp2_with (at_builtin; go_must (refine wpList_plain rfl fun _ hK => wp_copyO _ _ 114 rfl 9 i0 z0 1 16 Tryz.underlying114 hi0 hz0 hz1 hz2 hz3 (by decide) w.heap.size _ rfl (by exact bX0) (by first | omega | simp) A xs.length c (xs.map Value.string) rfl (by simp) (HS.out.below (by exact bB0)) hm1 hm2 fun B2 c2 wx hv2 hf2 hb2 => hK _ _ ?_))
  go_ret
  exact ⟨_, _, rfl, hv2, by exact bB1 hb2⟩
theorem sls_own {w : World} {base n c : Nat} {A : Option Addr} {xs : List ByteArray} (h : w.ownsRow base 9 1 (.slice A n c) n (xs.map Value.string)) : SlS w A xs := sls_slv.2 (slv_own (by decide) h)
theorem texts_c (xs ys : List ByteArray) (A B : Option Addr) (c d : Nat) (w : World) (hn : xs.length ≤ 100000) (hm : ys.length ≤ 100000) (hs : SlS w A xs) (ht : SlS w B ys) (he : xs = ys) :
    Calls Tryz.prog 69 #[.slice A xs.length c, .slice B ys.length d] w fun e w' => e = .returned (.bool true) ∧ Below w.heap.size w w' := by
  subst he
  have HS := Lib.hid hs
  have HT := Lib.hid ht
  clear hs ht
  go_enter Tryz.func69, Tryz.ntmps69
  go_wp2
  go_loopw [5] (fun j wr => ∃ k : Nat, j = .int .i64 k ∧ k ≤ xs.length ∧ Below w.heap.size w wr) (fun j _ => xs.length - (intOf j).toNat)
  case atStart => exact ⟨0, rfl, Nat.zero_le _, Below.refl _ _⟩
  case round =>
    obtain ⟨k, rfl, hk, hB⟩ := hrel
    by_cases hlt : k < xs.length
    · obtain ⟨x, hx⟩ : ∃ x, xs[k]? = some x := ⟨_, List.getElem?_eq_getElem hlt⟩
      obtain ⟨b, o, hA, hb, hc⟩ := sls_at (HS.out.below hB) hx
      obtain ⟨b', o', hA', hb', hc'⟩ := sls_at (HT.out.below hB) hx
      subst hA hA'
      have hq : (x.toList == x.toList) = true := sameS_t.2 rfl
      have k0 : 0 ≤ (k : Int) := by omega
      have k1 : (k : Int) < (xs.length : Int) := by omega
      clear hx
      go_wp2
      (refine region_open (by kernel_rfl) (fun R hR => ?_); refine heldR (S := (fun w' => Below wr.heap.size wr w')) ?_ (fun hHeld => ?_); (focus ((try dsimp only); (((first | exact bB0 | exact bB0))))); have hO := Lib.hid (fun w' (hSw : (fun w' => Below wr.heap.size wr w') w') => (by (try dsimp only at hSw); (have hcc := (bcell hSw).1; have sa := (hcc _ _ hb).trans hc; have sb := (hcc _ _ hb').trans hc'); exact And.intro sa sb)); refine rgN 0 rfl ?_; refine rgN 1 rfl ?_; refine rgN 2 rfl ?_; refine rgL 3 hO rfl ?_; refine rgN 4 rfl ?_; refine rgN 5 rfl ?_; refine rgN 6 rfl ?_; refine rgL 7 hO rfl ?_; refine rgN 8 rfl ?_; refine wpAnyH_done (Q := fun e a w => e = Exit.normal ∧ R a w) (by kernel_rfl) ⟨rfl, hR _ _ ?_⟩ _; clear hR R)
      go_wp2
      go_roundw
      case rel => exact ⟨k + 1, by go_num, by omega, by exact bB1 hB⟩
      case measure => simp [intOf]; omega
    · obtain rfl : k = xs.length := by omega
      go_wp2
      go_ret
      exact ⟨rfl, hB⟩
/-- The error of the tools of two racks. -/
def tlE (xs ys : List ByteArray) : Int :=
  if 8 < xs.length ∨ 8 < ys.length then 8 else if xs.length ≠ ys.length then 10 else if nmE xs ≠ 0 then nmE xs else if nmE ys ≠ 0 then nmE ys else if ys.all (hasS xs) then 0 else 6
set_option maxHeartbeats 4000000 in
theorem toolsRef_c (xs ys : List ByteArray) (A B : Option Addr) (c d : Nat) (w : World) (hn : xs.length ≤ 9223372036854775807) (hm : ys.length ≤ 9223372036854775807) (hcp : xs.length ≤ c) (hcq : ys.length ≤ d) (hs : SlS w A xs) (ht : SlS w B ys) :
    Calls Tryz.prog 67 #[.slice A xs.length c, .slice B ys.length d] w fun e w' => e = .returned (.int .i64 (tlE xs ys)) ∧ Below w.heap.size w w' := by
  by_cases h1 : 8 < xs.length
  · have b1 : decide ((8 : Int) < (xs.length : Int)) = true := decide_eq_true (by omega)
    have hR : tlE xs ys = 8 := by unfold tlE; rw [if_pos (.inl h1)]
    rw [hR]
    go_enter Tryz.func67, Tryz.ntmps67
    go_wp2
    go_ret
    exact ⟨rfl, Below.refl _ _⟩
  have b1 : decide ((8 : Int) < (xs.length : Int)) = false := decide_eq_false (by omega)
  by_cases h2 : 8 < ys.length
  · have b2 : decide ((8 : Int) < (ys.length : Int)) = true := decide_eq_true (by omega)
    have hR : tlE xs ys = 8 := by unfold tlE; rw [if_pos (.inr h2)]
    rw [hR]
    go_enter Tryz.func67, Tryz.ntmps67
    go_wp2
    go_ret
    exact ⟨rfl, Below.refl _ _⟩
  have b2 : decide ((8 : Int) < (ys.length : Int)) = false := decide_eq_false (by omega)
  have hR0 : tlE xs ys = if xs.length ≠ ys.length then 10 else if nmE xs ≠ 0 then nmE xs else if nmE ys ≠ 0 then nmE ys else if ys.all (hasS xs) then 0 else 6 := by unfold tlE; rw [if_neg (by omega)]
  by_cases h3 : xs.length = ys.length
  case neg =>
    have b3 : ((xs.length : Int) != (ys.length : Int)) = true := bneT (by omega)
    have hR : tlE xs ys = 10 := by rw [hR0, if_pos h3]
    rw [hR]
    go_enter Tryz.func67, Tryz.ntmps67
    go_wp2
    go_ret
    exact ⟨rfl, Below.refl _ _⟩
  have b3 : ((xs.length : Int) != (ys.length : Int)) = false := bneF (by omega)
  rw [if_neg (by simp [h3])] at hR0
  clear h3
  have NEc := Lib.hid (fun W (h : Below w.heap.size w W) => namesErr_c xs A c W (by omega) hcp (hs.below h))
  by_cases h4 : nmE xs = 0
  case neg =>
    have hR : tlE xs ys = nmE xs := by rw [hR0, if_pos h4]
    rw [hR]
    generalize nmE xs = e1 at *
    have b4 : (e1 != 0) = true := bneT h4
    clear h4 hR hR0
    go_enter Tryz.func67, Tryz.ntmps67
    go_wp2_with (first | (go_at_call 141; (with_reducible refine (NEc.out _ (by exact bB0)).mono ?_); rintro e w1 ⟨rfl, hb1⟩) | fail)
    go_ret
    exact ⟨rfl, hb1⟩
  rw [if_neg (by simp [h4])] at hR0
  rw [h4] at NEc
  have NFc := Lib.hid (fun W (h : Below w.heap.size w W) => namesErr_c ys B d W (by omega) hcq (ht.below h))
  by_cases h5 : nmE ys = 0
  case neg =>
    have hR : tlE xs ys = nmE ys := by rw [hR0, if_pos h5]
    rw [hR]
    generalize nmE ys = e1 at *
    have b4 : (e1 != 0) = true := bneT h5
    clear h5 hR hR0 h4
    go_enter Tryz.func67, Tryz.ntmps67
    go_wp2_with (first | (go_at_call 141; (with_reducible refine (NEc.out _ (by exact bB0)).mono ?_); rintro e w1 ⟨rfl, hb1⟩) | (go_at_call 141; (with_reducible refine (NFc.out _ (by exact bB1 hb1)).mono ?_); rintro e w2 ⟨rfl, hb2⟩) | fail)
    go_ret
    exact ⟨rfl, by exact bB2 hb1 hb2⟩
  rw [if_neg (by simp [h5])] at hR0
  rw [h5] at NFc
  have HR := Lib.hid hR0
  have HS := Lib.hid hs
  have HT := Lib.hid ht
  clear hs ht h4 h5 hR0
  generalize tlE xs ys = R at *
  go_enter Tryz.func67, Tryz.ntmps67
  go_wp2_with (first | (go_at_call 141; (with_reducible refine (NEc.out _ (by exact bB0)).mono ?_); rintro e w1 ⟨rfl, hb1⟩) | (go_at_call 141; (with_reducible refine (NFc.out _ (by exact bB1 hb1)).mono ?_); rintro e w2 ⟨rfl, hb2⟩) | fail)
  have hB2 : Below w.heap.size w w2 := by exact bB2 hb1 hb2
  clear hb1 hb2
  go_loopw [7] (fun j wr => ∃ k : Nat, j = .int .i64 k ∧ k ≤ ys.length ∧ Hid ((ys.take k).all (hasS xs) = true) ∧ Below w.heap.size w wr) (fun j _ => ys.length - (intOf j).toNat)
  case atStart => exact ⟨0, rfl, Nat.zero_le _, rfl, hB2⟩
  case round =>
    clear hB2
    obtain ⟨k, rfl, hk, hf, hB⟩ := hrel
    by_cases hlt : k < ys.length
    · obtain ⟨x, hx⟩ : ∃ x, ys[k]? = some x := ⟨_, List.getElem?_eq_getElem hlt⟩
      obtain ⟨b, o, rfl, hb, hc⟩ := sls_at (HT.out.below hB) hx
      have HTc := Lib.hid (hasText_c xs A c x wr (by omega) (HS.out.below hB))
      have k0 : 0 ≤ (k : Int) := by omega
      have k1 : (k : Int) < (ys.length : Int) := by omega
      cases hq : hasS xs x
      · rw [hq] at HTc
        have hR : R = 6 := by rw [HR.out, if_neg (by simp only [Bool.not_eq_true]; rw [List.all_eq_false]; exact ⟨x, List.mem_of_getElem? hx, by simp [hq]⟩)]
        clear hx hf hq
        go_wp2_with (first | (go_at_call 142; (with_reducible refine (HTc.out).mono ?_); rintro e w3 ⟨rfl, hw⟩; have hw2 := hw.symm; clear hw; subst hw2) | fail)
        go_ret
        exact ⟨ret_i hR.symm, hB⟩
      · rw [hq] at HTc
        have HF := Lib.hid (show (ys.take (k + 1)).all (hasS xs) = true from by rw [List.take_add_one, hx, List.all_append, hf.out]; simp [hq])
        clear hx hf hq
        go_wp2_with (first | (go_at_call 142; (with_reducible refine (HTc.out).mono ?_); rintro e w3 ⟨rfl, hw⟩; have hw2 := hw.symm; clear hw; subst hw2) | fail)
        go_roundw
        case rel => exact ⟨k + 1, by go_num, by omega, HF, hB⟩
        case measure => simp [intOf]; omega
    · obtain rfl : k = ys.length := by omega
      have hf2 := hf.out
      rw [List.take_length] at hf2
      have hR : R = 0 := by rw [HR.out, if_pos hf2]
      clear hf hf2
      go_wp2
      go_ret
      exact ⟨ret_i hR.symm, hB⟩
end Go.Proofs.YtpnfgmgoafgcbaaGreat

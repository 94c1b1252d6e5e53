/-
  The reference's Swaps (chapter 6: tools).
-/
import Derived.Test.YtpnfgmgoafgcbaaGreatSwp
import Derived.Test.YtpnfgmgoafgcbaaGreatTls
import Derived.Test.YtpnfgmgoafgcbaaGreatLate
set_option linter.unusedVariables false
set_option linter.unusedSimpArgs false
set_option linter.unusedVariables false
namespace Go.Proofs.YtpnfgmgoafgcbaaGreat
open Go.RowKit Go.Shelf
attribute [local go_sem] Oper.semAt_some
theorem own_cellS {w : World} {base n c : Nat} {A : Option Addr} {l : List ByteArray} (h : w.ownsRow base 9 1 (.slice A n c) n (l.map Value.string)) {k : Nat} {s : ByteArray} (hk : l[k]? = some s) :
    ∃ g, A = some ⟨g, 0, none⟩ ∧ base ≤ g ∧ ∃ cs, Box w g 9 cs ∧ cs[k]? = some (.string s) := by
  have hl := (List.getElem?_eq_some_iff.1 hk).1
  have hn := h.1
  rw [List.length_map] at hn
  rcases h.2 with ⟨_, h0⟩ | ⟨g, cap, cur, e, hb, hh, h4, h5, h6, h7⟩
  · omega
  · injection e with e1 e2 e3
    refine ⟨g, e1, hb, cur, hh, ?_⟩
    have h8 : (cur.toList.take (n * 1))[k]? = (l.map Value.string)[k]? := by rw [h7]
    rw [List.getElem?_map, hk, List.getElem?_take, if_pos (by omega), Array.getElem?_toList] at h8
    exact h8
theorem own_swp {w : World} {base n c g i k : Nat} {l : List ByteArray} {x y : ByteArray} (h : w.ownsRow base 9 1 (.slice (some ⟨g, 0, none⟩) n c) n (l.map Value.string)) (hi : l[i]? = some x) (hk : l[k]? = some y) :
    ((w.setCell ⟨g, i, none⟩ (.string y)).setCell ⟨g, k, none⟩ (.string x)).ownsRow base 9 1 (.slice (some ⟨g, 0, none⟩) n c) n ((swp l i k).map Value.string) := by
  have h1 := own_setS (j := k) (u := .string x) (own_setS (j := i) (u := .string y) h)
  have e : ((l.map Value.string).set i (.string y)).set k (.string x) = (swp l i k).map Value.string := by
    unfold swp
    rw [List.map_set, List.map_set, List.getD_eq_getElem?_getD, List.getD_eq_getElem?_getD, hi, hk]
    rfl
  rw [← e]; exact h1
/-- The state inside the reference's inner loop. -/
def wnI2 (want : List ByteArray) (st : List ByteArray × List Ce) (s : ByteArray) (i k : Nat) : List ByteArray × List Ce := if i < idxN st.1 s ∧ idxN st.1 s < k then wnS want st i else st
theorem wnI2_len (want : List ByteArray) (st : List ByteArray × List Ce) (s : ByteArray) (i k : Nat) : (wnI2 want st s i k).2.length ≤ st.2.length + 1 := by
  unfold wnI2
  split
  · exact wnS_len want st i
  · omega
theorem wnI2_first {want : List ByteArray} {st : List ByteArray × List Ce} {s : ByteArray} {i : Nat} : wnI2 want st s i (i + 1) = st := by unfold wnI2; rw [if_neg (by omega)]
theorem wnI2_last {rack want : List ByteArray} {st : List ByteArray × List Ce} {s : ByteArray} {i : Nat} (h : WnI rack want i st) (hw : NoTwo want) (hs : want[i]? = some s) : wnI2 want st s i want.length = wnS want st i := by
  obtain ⟨h1, h2, h3, h4⟩ := wnI_idx h hw hs
  unfold wnI2
  split
  · rfl
  · rename_i h5
    unfold wnS
    rw [h4, if_pos (by omega)]
theorem wnI2_step {rack want : List ByteArray} {st : List ByteArray × List Ce} {s : ByteArray} {i k : Nat} (h : WnI rack want i st) (hw : NoTwo want) (hs : want[i]? = some s) (hk : i < k) (hkn : k < want.length) :
    ((wnI2 want st s i k).1[i]? = some s ∧ wnI2 want st s i (k + 1) = wnI2 want st s i k) ∨
    (∃ x y, (wnI2 want st s i k).1[i]? = some x ∧ x ≠ s ∧ (wnI2 want st s i k).1[k]? = some y ∧ y ≠ s ∧ wnI2 want st s i (k + 1) = wnI2 want st s i k) ∨
    (∃ x, (wnI2 want st s i k).1[i]? = some x ∧ x ≠ s ∧ (wnI2 want st s i k).1[k]? = some s ∧ wnI2 want st s i (k + 1) = (swp (wnI2 want st s i k).1 i k, (wnI2 want st s i k).2 ++ [((i : Int), (k : Int))])) := by
  obtain ⟨h1, h2, h3, h4⟩ := wnI_idx h hw hs
  have hl := h.len
  unfold wnI2
  by_cases ha : i < idxN st.1 s
  · by_cases hb : idxN st.1 s < k
    · left
      rw [if_pos ⟨ha, hb⟩, if_pos ⟨ha, by omega⟩]
      refine ⟨?_, rfl⟩
      unfold wnS
      rw [h4, if_neg (by omega)]
      dsimp only
      rw [swp_at (by omega) (by omega), if_neg (by omega), if_pos rfl, h2]
    · right
      obtain ⟨x, hx⟩ : ∃ x, st.1[i]? = some x := ⟨_, List.getElem?_eq_getElem (by omega)⟩
      have hxs : x ≠ s := fun e => by
        rw [e] at hx
        have := h.two _ _ s hx h2
        omega
      rw [if_neg (by omega)]
      by_cases hc : idxN st.1 s = k
      · right
        refine ⟨x, hx, hxs, by rw [← hc]; exact h2, ?_⟩
        rw [if_pos ⟨ha, by omega⟩]
        unfold wnS
        rw [h4, if_neg (by omega), hc]
      · left
        obtain ⟨y, hy⟩ : ∃ y, st.1[k]? = some y := ⟨_, List.getElem?_eq_getElem (by omega)⟩
        refine ⟨x, y, hx, hxs, hy, fun e => ?_, ?_⟩
        · rw [e] at hy
          have := h.two _ _ s hy h2
          omega
        · rw [if_neg (by omega)]
  · left
    rw [if_neg (by omega), if_neg (by omega)]
    exact ⟨by rw [← h2]; congr 1; omega, rfl⟩
set_option maxHeartbeats 8000000 in
set_option maxRecDepth 100000 in
theorem swaps_c (xs ys : List ByteArray) (A B : Option Addr) (c d : Nat) (w : World) (hl : xs.length = ys.length) (hn : ys.length ≤ 8) (hx : NoTwo xs) (hy : NoTwo ys) (hxy : ∀ s ∈ ys, s ∈ xs) (hs : SlS w A xs) (ht : SlS w B ys) :
    Calls Tryz.prog 68 #[.slice A ys.length c, .slice B ys.length d] w fun e w' => ∃ D e', e = .returned (.slice D (wnR xs ys ys.length).2.length e') ∧ SlV w' D ((wnR xs ys ys.length).2.flatMap ceV) ∧ Below w.heap.size w w' := by
  have HT := Lib.hid ht
  have HI := Lib.hid (fun n h => wnI_run hl hx hy hxy n h)
  have CTc := Lib.hid (fun W (h : Below w.heap.size w W) => show Calls Tryz.prog 66 #[.slice A ys.length c] W (fun e w' => ∃ B d, e = .returned (.slice B ys.length d) ∧ w'.ownsRow W.heap.size 9 1 (.slice B ys.length d) ys.length (xs.map Value.string) ∧ Below W.heap.size W w') from by
    have h5 := copyTexts_c xs A c W (by omega) (hs.below h)
    rw [hl] at h5
    exact h5)
  have HY := Lib.hid hy
  clear hs ht hl hx hy hxy
  obtain ⟨u0, zC, hu0, hy0, hy1, hy2, hy3⟩ := infoOk_parts infoC
  go_enter Tryz.func68, Tryz.ntmps68
  go_wp2_with (first | (go_at_call 66; (with_reducible refine (CTc.out _ (by exact bB0)).mono ?_); rintro e w3 hE3; obtain ⟨BR, dR, rfl, hr3, hb3⟩ := hE3) | fail)
  generalize w3 = W5 at *
  clear CTc
  go_loopw [6, 7] (fun out j wr => ∃ (i : Nat) (D : Option Addr) (d : Nat), out = .slice D (wnR xs ys i).2.length d ∧ j = .int .i64 i ∧ i ≤ ys.length ∧ wr.ownsRow w.heap.size 9 1 (.slice BR ys.length dR) ys.length ((wnR xs ys i).1.map Value.string) ∧ wr.ownsRow w.heap.size 22 2 (.slice D (wnR xs ys i).2.length d) (wnR xs ys i).2.length ((wnR xs ys i).2.flatMap ceV) ∧ Below w.heap.size w wr) (fun _ j _ => ys.length - (intOf j).toNat)
  case atStart => exact ⟨0, none, 0, rfl, rfl, Nat.zero_le _, hr3, ⟨rfl, .inl ⟨rfl, rfl⟩⟩, hb3⟩
  case round =>
    clear hr3 hb3
    obtain ⟨i, D, d', rfl, rfl, hi, hr, ho, hB⟩ := hrel
    by_cases hlt : i < ys.length
    · obtain ⟨s, hsy⟩ : ∃ s, ys[i]? = some s := ⟨_, List.getElem?_eq_getElem hlt⟩
      have HS := HI.out i hi
      have HST := Lib.hid (fun k (h1 : i < k) (h2 : k < ys.length) => wnI2_step HS HY.out hsy h1 h2)
      have HLN := Lib.hid (fun k => show (wnI2 ys (wnR xs ys i) s i k).2.length ≤ i + 1 from by have h1 := wnI2_len ys (wnR xs ys i) s i k; have h2 := wnR_len xs ys i; omega)
      have HLA := Lib.hid ((wnI2_last HS HY.out hsy).trans (wnR_step xs ys i).symm)
      have hF : wnI2 ys (wnR xs ys i) s i (i + 1) = wnR xs ys i := wnI2_first
      have HSY := Lib.hid hsy
      have i0 : 0 ≤ (i : Int) := by omega
      have i1 : (i : Int) < (ys.length : Int) := by omega
      have HRX := Lib.hid (show wr.ownsRow w.heap.size 9 1 (.slice BR ys.length dR) ys.length ((wnI2 ys (wnR xs ys i) s i (i + 1)).1.map Value.string) from by rw [hF]; exact hr)
      have HOX := Lib.hid (show wr.ownsRow w.heap.size 22 2 (.slice D (wnI2 ys (wnR xs ys i) s i (i + 1)).2.length d') (wnI2 ys (wnR xs ys i) s i (i + 1)).2.length ((wnI2 ys (wnR xs ys i) s i (i + 1)).2.flatMap ceV) from by rw [hF]; exact ho)
      rw [← hF]
      clear HS hsy hF hr ho
      generalize hgs : wnI2 ys (wnR xs ys i) s i = ST at *
      clear hgs
      go_wp2
      go_loopw [6, 8] (fun out j wq => ∃ (k : Nat) (D : Option Addr) (d : Nat), out = .slice D (ST k).2.length d ∧ j = .int .i64 k ∧ (i < k ∧ k ≤ ys.length) ∧ wq.ownsRow w.heap.size 9 1 (.slice BR ys.length dR) ys.length ((ST k).1.map Value.string) ∧ wq.ownsRow w.heap.size 22 2 (.slice D (ST k).2.length d) (ST k).2.length ((ST k).2.flatMap ceV) ∧ Below w.heap.size w wq) (fun _ j _ => ys.length - (intOf j).toNat)
      case atStart => exact ⟨i + 1, D, d', rfl, by go_num, ⟨by omega, by omega⟩, HRX.out, HOX.out, hB⟩
      case round =>
        clear HRX HOX hB
        obtain ⟨k, D, d', rfl, rfl, ⟨hik, hk⟩, hr, ho, hB⟩ := hrel
        by_cases hkl : k < ys.length
        · have k0 : 0 ≤ (k : Int) := by omega
          have k1 : (k : Int) < (ys.length : Int) := by omega
          obtain ⟨gb, ob, hBe, hb, hcw⟩ := sls_at (HT.out.below hB) HSY.out
          have h3 := HST.out k hik hkl
          have hpl := HLN.out k
          obtain ⟨S1, hS1⟩ : ∃ S1, S1 = ST (k + 1) := ⟨_, rfl⟩
          have HS1 := Lib.hid hS1
          rw [← hS1] at h3
          clear hS1 HST HLA HI HY HT HSY HLN
          generalize ST k = S0 at *
          obtain ⟨r, P⟩ := S0
          dsimp only at hr ho h3 hpl ⊢
          subst hBe
          rcases h3 with ⟨hxi, hS⟩ | ⟨x, y, hxi, hxs, hyk, hys, hS⟩ | ⟨x, hxi, hxs, hyk, hS⟩
          · subst hS
            obtain ⟨gR, hBR, hge, cs, hbx, hci⟩ := own_cellS hr hxi
            subst hBR
            have lg := hbx.lt
            have ci := (hbx.cell i).trans hci
            have hq : (s.toList == s.toList) = true := sameS_t.2 rfl
            have HR := Lib.hid hr; have HO := Lib.hid ho
            clear hxi hci hbx hr ho
            go_wp2
            (refine region_open (by kernel_rfl) (fun R hR => ?_); refine heldR (S := (fun w' => Below wr.heap.size wr w')) ?_ (fun hHeld => ?_); (focus ((try dsimp only); (((first | exact bB0 | exact bB0))))); have hO := Lib.hid (fun w' (hSw : (fun w' => Below wr.heap.size wr w') w') => (by (try dsimp only at hSw); (have hcc := (bcell hSw).1; have sa := (hcc _ _ lg).trans ci; have sb := (hcc _ _ hb).trans hcw); exact And.intro sa sb)); refine rgN 0 rfl ?_; refine rgN 1 rfl ?_; refine rgN 2 rfl ?_; refine rgL 3 hO rfl ?_; refine rgN 4 rfl ?_; refine rgN 5 rfl ?_; refine rgN 6 rfl ?_; refine rgL 7 hO rfl ?_; refine rgN 8 rfl ?_; refine rgN 9 rfl ?_; refine tsH (i := 10) rfl (by assumption) ?_; refine tsH (i := 11) rfl (by assumption) ?_; refine tsH (i := 12) rfl (by assumption) ?_; refine tsH (i := 13) rfl (by assumption) ?_; refine tsH (i := 14) rfl (by assumption) ?_; refine tsH (i := 15) rfl (by assumption) ?_; refine tsH (i := 16) rfl (by assumption) ?_; refine tsH (i := 17) rfl (by assumption) ?_; refine tsH (i := 18) rfl (by assumption) ?_; refine rgN 19 rfl ?_; refine wpAnyH_done (Q := fun e a w => e = Exit.normal ∧ R a w) (by kernel_rfl) ⟨rfl, hR _ _ ?_⟩ _; clear hR R)
            go_wp2
            go_roundw
            case rel => exact ⟨k + 1, D, d', by rw [← HS1.out], by go_num, ⟨by omega, by omega⟩, by rw [← HS1.out]; exact own_below HR.out (by exact bB0), by rw [← HS1.out]; exact own_below HO.out (by exact bB0), by exact bB1 hB⟩
            case measure => simp [intOf]; omega
          · subst hS
            obtain ⟨gR, hBR, hge, cs, hbx, hci⟩ := own_cellS hr hxi
            obtain ⟨gR2, hBR2, _, cs2, hbx2, hck⟩ := own_cellS hr hyk
            subst hBR
            cases hBR2
            have lg := hbx.lt
            have ci := (hbx.cell i).trans hci
            have ck := (hbx2.cell k).trans hck
            have hq : (x.toList == s.toList) = false := sameS_f.2 hxs
            have hq2 : (y.toList == s.toList) = false := sameS_f.2 hys
            have HR := Lib.hid hr; have HO := Lib.hid ho
            clear hxi hyk hci hck hbx hbx2 hxs hys hr ho
            go_wp2
            (refine region_open (by kernel_rfl) (fun R hR => ?_); refine heldR (S := (fun w' => Below wr.heap.size wr w')) ?_ (fun hHeld => ?_); (focus ((try dsimp only); (((first | exact bB0 | exact bB0))))); have hO := Lib.hid (fun w' (hSw : (fun w' => Below wr.heap.size wr w') w') => (by (try dsimp only at hSw); (have hcc := (bcell hSw).1; have sa := (hcc _ _ lg).trans ci; have sb := (hcc _ _ hb).trans hcw; have sc := (hcc _ _ lg).trans ck); exact And.intro sa (And.intro sb sc))); refine rgN 0 rfl ?_; refine rgN 1 rfl ?_; refine rgN 2 rfl ?_; refine rgL 3 hO rfl ?_; refine rgN 4 rfl ?_; refine rgN 5 rfl ?_; refine rgN 6 rfl ?_; refine rgL 7 hO rfl ?_; refine rgN 8 rfl ?_; refine rgN 9 rfl ?_; refine rgN 10 rfl ?_; refine rgN 11 rfl ?_; refine rgN 12 rfl ?_; refine rgL 13 hO rfl ?_; refine rgN 14 rfl ?_; refine rgN 15 rfl ?_; refine rgN 16 rfl ?_; refine rgL 17 hO rfl ?_; refine rgN 18 rfl ?_; refine rgN 19 rfl ?_; refine wpAnyH_done (Q := fun e a w => e = Exit.normal ∧ R a w) (by kernel_rfl) ⟨rfl, hR _ _ ?_⟩ _; clear hR R)
            go_wp2
            go_roundw
            case rel => exact ⟨k + 1, D, d', by rw [← HS1.out], by go_num, ⟨by omega, by omega⟩, by rw [← HS1.out]; exact own_below HR.out (by exact bB0), by rw [← HS1.out]; exact own_below HO.out (by exact bB0), by exact bB1 hB⟩
            case measure => simp [intOf]; omega
          · subst hS
            obtain ⟨gR, hBR, hge, cs, hbx, hci⟩ := own_cellS hr hxi
            obtain ⟨gR2, hBR2, _, cs2, hbx2, hck⟩ := own_cellS hr hyk
            subst hBR
            cases hBR2
            have lg := hbx.lt
            have ci := (hbx.cell i).trans hci
            have ck := (hbx2.cell k).trans hck
            have cf := hbx.froz
            have hq : (x.toList == s.toList) = false := sameS_f.2 hxs
            have hq2 : (s.toList == s.toList) = true := sameS_t.2 rfl
            have HSW := Lib.hid (own_swp hr hxi hyk)
            have HO := Lib.hid ho
            have HNB := Lib.hid (own_blkT ho hbx (by decide))
            clear hxi hyk hci hck hbx hbx2 hxs hr ho
            go_wp2
            (refine region_open (by kernel_rfl) (fun R hR => ?_); refine heldR (S := (fun w' => Below wr.heap.size wr w')) ?_ (fun hHeld => ?_); (focus ((try dsimp only); (((first | exact bB0 | exact bB0))))); have hO := Lib.hid (fun w' (hSw : (fun w' => Below wr.heap.size wr w') w') => (by (try dsimp only at hSw); (have hcc := (bcell hSw).1; have sa := (hcc _ _ lg).trans ci; have sb := (hcc _ _ hb).trans hcw; have sc := (hcc _ _ lg).trans ck); exact And.intro sa (And.intro sb sc))); refine rgN 0 rfl ?_; refine rgN 1 rfl ?_; refine rgN 2 rfl ?_; refine rgL 3 hO rfl ?_; refine rgN 4 rfl ?_; refine rgN 5 rfl ?_; refine rgN 6 rfl ?_; refine rgL 7 hO rfl ?_; refine rgN 8 rfl ?_; refine rgN 9 rfl ?_; refine rgN 10 rfl ?_; refine rgN 11 rfl ?_; refine rgN 12 rfl ?_; refine rgL 13 hO rfl ?_; refine rgN 14 rfl ?_; refine rgN 15 rfl ?_; refine rgN 16 rfl ?_; refine rgL 17 hO rfl ?_; refine rgN 18 rfl ?_; refine rgN 19 rfl ?_; refine wpAnyH_done (Q := fun e a w => e = Exit.normal ∧ R a w) (by kernel_rfl) ⟨rfl, hR _ _ ?_⟩ _; clear hR R)
            have nik : i ≠ k := by omega
            have nki : k ≠ i := by omega
            go_wp2
            (refine region_open (by kernel_rfl) (fun R hR => ?_); refine lateR (S := (fun w' => Below wr.heap.size wr w')) 13 ?_ (fun hHeld => ?_); (focus ((try dsimp only); (((first | exact bB0 | exact bB0))))); have hO := Lib.hid (fun w' (hSw : (fun w' => Below wr.heap.size wr w') w') => (by (try dsimp only at hSw); (have hcc := (bcell hSw).1; have hcf := (bcell hSw).2; have sa := (hcc _ _ lg).trans ci; have sc := (hcc _ _ lg).trans ck; have sf := (hcf _ i lg).trans (cf i); have sg := (hcf _ k lg).trans (cf k)); exact And.intro hcf (And.intro sa (And.intro sc (And.intro sf sg))))); refine laN 0 rfl ?_; refine laN 1 rfl ?_; refine laN 2 rfl ?_; refine laN 3 rfl ?_; refine laN 4 rfl ?_; refine laN 5 rfl ?_; refine laN 6 rfl ?_; refine laL 7 hO rfl ?_; refine laN 8 rfl ?_; refine laN 9 rfl ?_; refine laN 10 rfl ?_; refine laL 11 hO rfl ?_; refine laN 12 rfl ?_; refine laD 13 rfl (fun K hK => ?_); go_simp; (skip); go_simp; refine hK.out _ _ ?_ (fun hHeld => ?_); (focus (exact trivial)); clear hK K; (try simp only [Act.put, pqs]); refine laN 14 rfl ?_; refine laD 15 rfl (fun K hK => ?_); go_simp; (skip); go_simp; refine hK.out _ _ ?_ (fun hHeld => ?_); (focus (exact trivial)); clear hK K; (try simp only [Act.put, pqs]); refine wpAnyL_done (Q := fun e a w => e = Exit.normal ∧ R a w) (by kernel_rfl) ⟨rfl, hR _ _ ?_⟩ _; clear hR R)
            have hm1 : P.length + 1 ≤ maxLen := by unfold maxLen; omega
            have hm2 : (P.length + 1) * 16 ≤ 140737488355328 := by omega
            have ho9 : (((wr.setCell ⟨gR, i, none⟩ (Value.string s)).setCell ⟨gR, k, none⟩ (Value.string x)).drew.drew).ownsRow w.heap.size 22 2 (.slice D P.length d') P.length (P.flatMap ceV) :=
              own_below (own_setf (own_setf HO.out HNB.out) HNB.out) (Below.drew (Below.drew (Below.refl _ _)))
            have hr9 : (((wr.setCell ⟨gR, i, none⟩ (Value.string s)).setCell ⟨gR, k, none⟩ (Value.string x)).drew.drew).ownsRow w.heap.size 9 1 (.slice (some ⟨gR, 0, none⟩) ys.length dR) ys.length ((swp r i k).map Value.string) :=
              own_below HSW.out (Below.drew (Below.drew (Below.refl _ _)))
            have hB9 : Below w.heap.size w (((wr.setCell ⟨gR, i, none⟩ (Value.string s)).setCell ⟨gR, k, none⟩ (Value.string x)).drew.drew) := Below.drew (Below.drew (Below.setCell (p := ⟨gR, k, none⟩) (Below.setCell (p := ⟨gR, i, none⟩) hB hge _) hge _))
            generalize (((wr.setCell ⟨gR, i, none⟩ (Value.string s)).setCell ⟨gR, k, none⟩ (Value.string x)).drew.drew) = W9 at *
            have hz9 := hB9.size
            clear HO HSW HNB hq hq2 cf ci ck hcw hb lg
            go_wp2_with (at_builtin; go_must (refine wpList_append_own_at _ rfl _ _ 54 rfl w.heap.size 22 u0 zC 2 16 Tryz.underlying54 hu0 hy0 hy1 hy2 hy3 (by decide) _ _ _ rfl (ho9.alloc _) ⟨W9.heap.size, 0, none⟩ 1 1 [.int .i64 i, .int .i64 k] rfl rfl (cells_new W9 [.int .i64 i, .int .i64 k] _) (by simp [Value.oneCell']) hm1 hm2 (by simp; omega) ?_); intro v' wx hown1 hgrow1 _ hblk; obtain ⟨gN, capN, rfl, hgN, hgN2⟩ := own_pos hown1 (by omega) (by decide))
            have hbx : Below w.heap.size w wx := (hB9.alloc hz9 _).grown hgrow1 (by simp; omega) (fun k e => ((ho9.alloc (.cells #[.int .i64 i, .int .i64 k] 22)).lt k e).1)
            have hrx := own_ogS (hr9.alloc (.cells #[.int .i64 i, .int .i64 k] 22)) (ho9.alloc _) (by decide) hgrow1
            have HRX := Lib.hid hrx
            have hls : P.flatMap ceV ++ [Value.int .i64 i, Value.int .i64 k] = (P ++ [((i : Int), (k : Int))]).flatMap ceV := by rw [List.flatMap_append]; rfl
            rw [hls] at hown1
            have HOX := Lib.hid hown1
            clear hown1 hgrow1 hblk ho9 hr9 hrx hls
            go_roundw
            case rel => exact ⟨k + 1, some ⟨gN, 0, none⟩, capN, by rw [← HS1.out]; simp, by go_num, ⟨by omega, by omega⟩, by rw [← HS1.out]; exact HRX.out, by rw [← HS1.out]; simpa using HOX.out, hbx⟩
            case measure => simp [intOf]; omega
        · have e : k = ys.length := by omega
          subst e
          rw [HLA.out] at hr ho ⊢
          have e5 : decide ((ys.length : Int) < (ys.length : Int)) = false := decide_eq_false (by omega)
          have HR2 := Lib.hid hr; have HO2 := Lib.hid ho
          clear hr ho
          go_wp2
          go_roundw
          case rel => exact ⟨i + 1, D, d', rfl, by go_num, by omega, HR2.out, HO2.out, hB⟩
          case measure => simp [intOf]; omega
    · have e : i = ys.length := by omega
      subst e
      have HO2 := Lib.hid (slv_own (by decide) ho)
      clear hr ho
      go_wp2
      go_ret
      exact ⟨D, d', rfl, HO2.out, hB⟩
end Go.Proofs.YtpnfgmgoafgcbaaGreat

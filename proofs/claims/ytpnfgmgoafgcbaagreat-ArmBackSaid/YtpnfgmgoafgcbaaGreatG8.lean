/-
  There and back (chapter 6), in plain words: what follows of a move that may be made.
  hasMove and swept of the law (chapter 6).
-/
import Derived.Test.YtpnfgmgoafgcbaaGreatG7
import Derived.Test.YtpnfgmgoafgcbaaGreatMvO
import Derived.Test.YtpnfgmgoafgcbaaGreatG3
import Derived.Test.YtpnfgmgoafgcbaaGreatA8
import Derived.Test.YtpnfgmgoafgcbaaGreatA15
set_option linter.unusedVariables false
set_option linter.unusedSimpArgs false
set_option linter.unusedVariables false
namespace Go.Proofs.YtpnfgmgoafgcbaaGreat
theorem cpE_of {s : Sc} {p q : Ps} (h0 : cpE s p = 0) (hq : POk s q) : cpE s q = 0 := by
  rw [cpE_own] at h0 ⊢
  split at h0
  · rename_i h; exact absurd h0 h
  · rename_i h
    rw [if_neg h, ownE_ps hq.len]
    exact psE_ok.2 ⟨inB_true.2 hq.sl, hq.qs⟩
theorem moO_okB {s : Sc} {p : Ps} {m : Mv} (h : rmE s p m = 0) : moO s p m = (mvd p m, 0) ∧ swO s p m = (swBx s p m, 0) := by
  unfold rmE at h
  by_cases h1 : omE s p m = 0
  · rw [if_neg (by simp [h1])] at h
    exact ⟨by unfold moO; rw [if_neg (by simp [h1]), if_neg (by simp [h])], by unfold swO; rw [if_neg (by simp [h1]), h]; unfold swP; rw [if_neg (by simp [h])]⟩
  · rw [if_pos h1] at h; exact absurd h h1
theorem mvE_all {s : Sc} {m : Mv} (hm : m ∈ allM s) : mvE s m = 0 := by
  have h := mem_allM.1 hm
  have h1 : inB m.1 (-1) (s.L.length - 1) = true := inB_true.2 (by omega)
  have h2 : (m.2 == 1 || m.2 == -1) = true := by rcases h.2.2 with e | e <;> simp [e]
  unfold mvE
  rw [h1, h2]
  rfl
theorem mem_mvs {s : Sc} {p : Ps} {m : Mv} : m ∈ mvs s p ↔ m ∈ allM s ∧ mayP s p m = true := by simp [mvs]
theorem rmE_may {s : Sc} {p : Ps} {m : Mv} (h0 : cpE s p = 0) (h : m ∈ mvs s p) : rmE s p m = 0 := by
  obtain ⟨h1, h2⟩ := mem_mvs.1 h
  simp only [mayP, Bool.and_eq_true, beq_iff_eq] at h2
  have ho : omE s p m = 0 := by unfold omE; rw [if_neg (by simp [h0]), mvE_all h1]
  unfold rmE
  rw [if_neg (by simp [ho]), h2.1.1]
/-- A cell of a line of joints lies ahead of a joint, or behind it. -/
theorem mem_segs : ∀ {js : List Ce} {i : Nat} {c : Ce}, i < js.length → (c ∈ segs js ↔ c ∈ segs (js.take (i + 1)) ∨ c ∈ segs (js.drop i))
  | [], i, c, h => by simp at h
  | a :: r, 0, c, _ => by simp [segs]
  | [a], i + 1, c, h => by simp at h
  | a :: b :: r, i + 1, c, h => by
    have ih := mem_segs (js := b :: r) (i := i) (c := c) (by simpa using h)
    have e1 : (a :: b :: r).take (i + 1 + 1) = a :: b :: (r.take i) := by rw [List.take_succ_cons, List.take_succ_cons]
    have e2 : (b :: r).take (i + 1) = b :: r.take i := by rw [List.take_succ_cons]
    rw [e1, List.drop_succ_cons, segs, segs, List.mem_append, List.mem_append, ih, e2, or_assoc]
theorem jtsF_addAt : ∀ (L : List Lk) (Q : List Int) (x y t b : Int) (i : Nat), ((x, y) :: jtsF x y t L (addAt Q i b)).take (i + 1) = ((x, y) :: jtsF x y t L Q).take (i + 1)
  | L, Q, x, y, t, b, 0 => by simp
  | [], Q, x, y, t, b, i + 1 => by simp [jtsF]
  | l :: L, [], x, y, t, b, i + 1 => by simp [addAt]
  | l :: L, q :: Q, x, y, t, b, i + 1 => by
    simp only [addAt, jtsF]
    rw [List.take_succ_cons, jtsF_addAt L Q _ _ _ b i, ← List.take_succ_cons]
theorem jts_mvd {s : Sc} {p : Ps} {m : Mv} (hm : m.1 ≠ -1) : (jts s (mvd p m)).take (swI m + 1) = (jts s p).take (swI m + 1) := by
  unfold jts mvd swI
  rw [if_neg hm]
  exact jtsF_addAt _ _ _ _ _ _ _
/-- What a move changes lies behind its joint. -/
theorem moved_cells {s : Sc} {p : Ps} {m : Mv} (hp : p.2.length = s.L.length) (hq : (mvd p m).2.length = s.L.length) (hi : swI m < s.L.length) (hm : -1 ≤ m.1) {c : Ce} (h1 : c ∈ clP s p 0) (h2 : c ∉ clP s (mvd p m) 0) : c ∈ clP s p (swI m) := by
  by_cases hs : m.1 = -1
  · have : swI m = 0 := by unfold swI; omega
    rw [this]; exact h1
  · have lp := jts_len (s := s) (p := p) hp
    have lq := jts_len (s := s) (p := mvd p m) hq
    have h1 : c ∈ segs (jts s p) := h1
    have h2 : c ∉ segs (jts s (mvd p m)) := h2
    rw [mem_segs (i := swI m) (by omega)] at h1 h2
    rw [jts_mvd hs] at h2
    rcases h1 with h | h
    · exact absurd (.inl h) h2
    · exact h
theorem fold_in {l : List Ce} {b : Bx} {c : Ce} (h : c ∈ l) : inBx (l.foldl withP b) c = true := by
  have F := withP_fold l b
  unfold inBx
  rw [Bool.and_eq_true, inB_true, inB_true]
  exact ⟨⟨((F _).1.1 (Int.le_refl _)).2 c h, ((F _).2.1.1 (Int.le_refl _)).2 c h⟩, ((F _).2.2.1.1 (Int.le_refl _)).2 c h, ((F _).2.2.2.1 (Int.le_refl _)).2 c h⟩
theorem swBx_in {s : Sc} {p : Ps} {m : Mv} {c : Ce} (h : c ∈ clP s p (swI m) ∨ c ∈ clP s (mvd p m) (swI m)) : inBx (swBx s p m) c = true := by
  rw [swBx_app]
  exact fold_in (List.mem_append.2 h)
theorem swBx_ord {s : Sc} {p : Ps} {m : Mv} (hp : POk s p) (hi : swI m < s.L.length) : (swBx s p m).1 ≤ (swBx s p m).2.1 ∧ (swBx s p m).2.2.1 ≤ (swBx s p m).2.2.2 := by
  have h := swBx_in (.inl (clP_head (p := p) hp.len hi)) (s := s) (m := m)
  unfold inBx at h
  rw [Bool.and_eq_true, inB_true, inB_true] at h
  omega
/-- Whether all cells of a list that another one lacks lie in a box. -/
def sweptP (l o : List Ce) (b : Bx) : Bool := l.all fun c => o.contains c || inBx b c
/-- All that the law asks of a move that may be made. -/
structure Back (s : Sc) (p : Ps) (m : Mv) : Prop where
  mo : moO s p m = (mvd p m, 0)
  sw : swO s p m = (swBx s p m, 0)
  cp : cpE s (mvd p m) = 0
  bx : bxE (swBx s p m) = 0
  fr : ifO s (mvd p m) = true
  fe : frE s (mvd p m) = 0
  op : inv m ∈ mvs s (mvd p m)
  bk : moO s (mvd p m) (inv m) = (p, 0)
  s1 : sweptP (celR s p) (celR s (mvd p m)) (swBx s p m) = true
  s2 : sweptP (celR s (mvd p m)) (celR s p) (swBx s p m) = true
  mt : ∀ b ∈ s.B, meetB b (swBx s p m) = false
  f1 : inBx s.F ((swBx s p m).1, (swBx s p m).2.2.1) = true
  f2 : inBx s.F ((swBx s p m).2.1, (swBx s p m).2.2.2) = true
theorem mem_celR {s : Sc} {p : Ps} (hS : SOk s) (hp : POk s p) {c : Ce} : c ∈ celR s p ↔ c ∈ clP s p 0 := by
  have := (foldl_insC (l := frP s p 0) (o := []) List.Pairwise.nil).2 c
  rw [show celR s p = (frP s p 0).foldl insC [] from rfl, this, mem_frP (fun z hz => (hS.lk z hz).1) hp.len hS.len.1]
  simp
theorem swept_is {s : Sc} {p : Ps} {m : Mv} (hS : SOk s) (hp : POk s p) (hq : POk s (mvd p m)) (hi : swI m < s.L.length) (hm : -1 ≤ m.1) : sweptP (celR s p) (celR s (mvd p m)) (swBx s p m) = true := by
  refine List.all_eq_true.2 fun c hc => ?_
  rw [Bool.or_eq_true]
  by_cases h : c ∈ celR s (mvd p m)
  · exact .inl (by simpa using h)
  · right
    rw [mem_celR hS hq] at h
    exact swBx_in (.inl (moved_cells hp.len hq.len hi hm ((mem_celR hS hp).1 hc) h))
theorem back {s : Sc} {p : Ps} {m : Mv} (h0 : frE s p = 0) (h : m ∈ mvs s p) : Back s p m := by
  obtain ⟨hS, hp, hf⟩ := frE_ok h0
  have hc : cpE s p = 0 := by
    unfold frE at h0
    split at h0
    · rename_i h; exact absurd h0 h
    · rename_i h; exact Decidable.of_not_not h
  obtain ⟨ha, hy⟩ := mem_mvs.1 h
  have hk : (m, mvd p m) ∈ allK s p := mem_allK.2 ⟨ha, hy, rfl⟩
  obtain ⟨hq, hfq⟩ := allK_ok hp hk
  obtain ⟨b1, b2, b3⟩ := mem_allK.1 (allK_back hS hp hf hk)
  have hcq := cpE_of hc hq
  have hr := moO_okB (rmE_may hc h)
  have hopp : inv m ∈ mvs s (mvd p m) := mem_mvs.2 ⟨b1, b2⟩
  have hr2 := moO_okB (rmE_may hcq hopp)
  have hi := swI_lt hS ha
  have hm := (mem_allM.1 ha).1
  simp only [mayP, Bool.and_eq_true, Bool.not_eq_true', beq_iff_eq] at hy
  have ht := hy.1.2
  simp only [tkn, Bool.or_eq_false_iff, Bool.not_eq_false', Bool.and_eq_true] at ht
  have hord := swBx_ord (m := m) hp hi
  have hF := bxE_ok.1 hS.F
  have ht1 := ht.1.1
  have ht2 := ht.1.2
  unfold inBx at ht1 ht2
  rw [Bool.and_eq_true, inB_true, inB_true] at ht1 ht2
  dsimp only at ht1 ht2
  exact {
    mo := hr.1
    sw := hr.2
    cp := hcq
    bx := bxE_ok.2 (by omega)
    fr := by unfold ifO; simp [hcq, hfq]
    fe := by unfold frE; simp [hcq, hfq]
    op := hopp
    bk := by rw [hr2.1, mvd_back]
    s1 := swept_is hS hp hq hi hm
    s2 := by
      have := swept_is (p := mvd p m) (m := inv m) hS hq (by rw [mvd_back]; exact hp) hi hm
      rwa [mvd_back, swBx_back hS hp hq ha] at this
    mt := fun b hb => by simpa using List.any_eq_false.1 ht.2 b hb
    f1 := ht.1.1
    f2 := ht.1.2 }
end Go.Proofs.YtpnfgmgoafgcbaaGreat
set_option linter.unusedVariables false
namespace Go.Proofs.YtpnfgmgoafgcbaaGreat
open Go.RowKit
attribute [local go_sem] Oper.semAt_some
attribute [local go_sem ↓] eql_ce' neq_ce' eql_mv
theorem hasMove_c (xs : List Mv) (A : Option Addr) (c : Nat) (mj mb : Int) (w : World) (hn : xs.length ≤ 100000) (hs : SlV w A (xs.flatMap mvV)) :
    Calls Tryz.prog 75 #[.slice A xs.length c, .agg #[.int .i64 mj, .int .i64 mb]] w fun e w' => e = .returned (.bool (xs.contains (mj, mb))) ∧ Below w.heap.size w w' := by
  go_enter Tryz.func75, Tryz.ntmps75
  go_wp2
  obtain ⟨W5, hW5⟩ : ∃ W5 : World, W5 = w.alloc (.cells #[.int .i64 mj, .int .i64 mb] 84) := ⟨_, rfl⟩
  have hC : Box W5 w.heap.size 84 #[.int .i64 mj, .int .i64 mb] := by rw [hW5]; exact bX0
  have hB0 : Below w.heap.size w W5 := by rw [hW5]; exact bB0
  rw [← hW5]
  clear hW5
  have hlC := hC.lt
  have hs5 := hs.below hB0
  clear hs
  go_loopw [5] (fun i wr => ∃ k : Nat, k ≤ xs.length ∧ i = .int .i64 k ∧ Hid ((xs.take k).contains (mj, mb) = false) ∧ Below W5.heap.size W5 wr) (fun i _ => xs.length - (intOf i).toNat)
  case atStart => exact ⟨0, Nat.zero_le _, rfl, rfl, Below.refl _ _⟩
  case round =>
    obtain ⟨k, hk, rfl, hf, hB⟩ := hrel
    by_cases hlt : k < xs.length
    · obtain ⟨b, off, rfl, hb, a0, a1⟩ := ce_cells (SlV.below hs5 hB) (List.getElem?_eq_getElem hlt)
      have hCr := hC.below hB hlC
      have z0 := hCr.cell 0; have z1 := hCr.cell 1
      simp at z0 z1
      have T1 := Lib.hid (List.take_succ_eq_append_getElem (l := xs) hlt)
      have G1 := Lib.hid (List.getElem_mem hlt)
      generalize xs[k] = x at *
      obtain ⟨x1, x2⟩ := x
      dsimp only at a0 a1
      by_cases hxy : x1 = mj ∧ x2 = mb
      · have h1 : sameC x1 x2 mj mb = true := sameC_t.2 hxy
        obtain ⟨rfl, rfl⟩ := hxy
        have hR : xs.contains (x1, x2) = true := by simpa using G1.out
        have HR := Lib.hid hR
        clear hR G1 T1 hf hs5
        go_wp2
        go_quiet (fail)
        go_wp2
        go_ret
        exact ⟨by rw [HR.out] <;> rfl, below_drewN (by exact bB2 hB hB0) _⟩
      · have h1 : sameC x1 x2 mj mb = false := sameC_f.2 hxy
        have HK := Lib.hid (show (xs.take (k + 1)).contains (mj, mb) = false by
          rw [T1.out, List.contains_append, hf.out]
          simp only [Bool.false_or, List.contains_cons, List.contains_nil, Bool.or_false, beq_eq_false_iff_ne, ne_eq, Prod.mk.injEq]
          rintro ⟨e1, e2⟩
          exact hxy ⟨e1.symm, e2.symm⟩)
        clear hxy G1 T1 hf
        go_wp2
        go_quiet (fail)
        go_wp2
        go_roundw
        case rel => exact ⟨k + 1, by omega, by go_num, HK.out, below_drewN hB _⟩
        case measure => simp [intOf]; omega
    · obtain rfl : k = xs.length := by omega
      have hR := hf.out
      rw [List.take_length] at hR
      have HR := Lib.hid hR
      clear hR hf
      go_wp2
      go_ret
      exact ⟨by rw [HR.out] <;> rfl, by exact bB2 hB hB0⟩
set_option maxHeartbeats 4000000 in
set_option maxRecDepth 100000 in
theorem swept_c (xs ys : List Ce) (A D : Option Addr) (c d : Nat) (x0 x1 y0 y1 : Int) (w : World) (hn : xs.length ≤ 100000) (hm : ys.length ≤ 100000) (hs : SlV w A (xs.flatMap ceV)) (ht : SlV w D (ys.flatMap ceV)) :
    Calls Tryz.prog 76 #[.slice A xs.length c, .slice D ys.length d, .agg #[.int .i64 x0, .int .i64 x1, .int .i64 y0, .int .i64 y1]] w fun e w' => e = .returned (.bool (sweptP xs ys (x0, x1, y0, y1))) ∧ Below w.heap.size w w' := by
  have HP := Lib.hid (show sweptP xs ys (x0, x1, y0, y1) = xs.all fun c => ys.contains c || inBx (x0, x1, y0, y1) c from rfl)
  generalize sweptP xs ys (x0, x1, y0, y1) = R at *
  go_enter Tryz.func76, Tryz.ntmps76
  go_wp2
  obtain ⟨W5, hW5⟩ : ∃ W5 : World, W5 = w.alloc (.cells #[.int .i64 x0, .int .i64 x1, .int .i64 y0, .int .i64 y1] 27) := ⟨_, rfl⟩
  have hC : Box W5 w.heap.size 27 #[.int .i64 x0, .int .i64 x1, .int .i64 y0, .int .i64 y1] := by rw [hW5]; exact bX0
  have hB0 : Below w.heap.size w W5 := by rw [hW5]; exact bB0
  rw [← hW5]
  clear hW5
  have hlC := hC.lt
  have hs5 := hs.below hB0
  have ht5 := ht.below hB0
  clear hs ht
  have HS := Lib.hid hs5; have HT := Lib.hid ht5
  clear hs5 ht5
  go_loopw [7] (fun i wr => ∃ k : Nat, k ≤ xs.length ∧ i = .int .i64 k ∧ Hid (R = (xs.drop k).all fun c => ys.contains c || inBx (x0, x1, y0, y1) c) ∧ Below W5.heap.size W5 wr) (fun i _ => xs.length - (intOf i).toNat)
  case atStart => exact ⟨0, Nat.zero_le _, rfl, HP.out, Below.refl _ _⟩
  case round =>
    clear HP
    obtain ⟨k, hk, rfl, hf, hB⟩ := hrel
    by_cases hlt : k < xs.length
    · have hCr := hC.below hB hlC
      obtain ⟨b, off, rfl, hb, a0, a1⟩ := ce_cells (SlV.below HS.out hB) (List.getElem?_eq_getElem hlt)
      have D1 := List.drop_eq_getElem_cons (l := xs) hlt
      have hf2 : R = ((ys.contains xs[k] || inBx (x0, x1, y0, y1) xs[k]) && (xs.drop (k + 1)).all fun c => ys.contains c || inBx (x0, x1, y0, y1) c) := by rw [hf.out, D1]; rfl
      have HF2 := Lib.hid hf2
      clear hf hf2 D1
      generalize xs[k] = x at *
      obtain ⟨p1, p2⟩ := x
      dsimp only at a0 a1
      have k0 : 0 ≤ (k : Int) := by omega
      have k1 : (k : Int) < (xs.length : Int) := by omega
      have hTr := HT.out.below hB
      generalize wr = W6 at *
      have lC := hCr.lt
      go_wp2
      go_loopw [8, 9] (fun kn j wr => ∃ i : Nat, kn = .bool ((ys.take i).contains (p1, p2)) ∧ j = .int .i64 i ∧ i ≤ ys.length ∧ Below W6.heap.size W6 wr) (fun _ j _ => ys.length - (intOf j).toNat)
      case atStart => exact ⟨0, rfl, rfl, Nat.zero_le _, Below.refl _ _⟩
      case round =>
        obtain ⟨i, rfl, rfl, hi, hbi⟩ := hrel
        by_cases hli : i < ys.length
        · obtain ⟨b2, off2, rfl, hb2, c0, c1⟩ := ce_cells (hTr.below hbi) (List.getElem?_eq_getElem hli)
          have T1 := Lib.hid (List.take_succ_eq_append_getElem (l := ys) hli)
          generalize ys[i] = y at *
          obtain ⟨q1, q2⟩ := y
          dsimp only at c0 c1
          have d0 := ((bcell hbi).1 _ _ hb).trans a0
          have d1 := ((bcell hbi).1 _ _ hb).trans a1
          have hbw : b < wr.heap.size := by have := hbi.size; omega
          have hst := (show (ys.take (i + 1)).contains (p1, p2) = ((ys.take i).contains (p1, p2) || sameC q1 q2 p1 p2) by
            rw [T1.out, List.contains_append]
            congr 1
            simp only [List.contains_cons, List.contains_nil, Bool.or_false, sameC]
            by_cases h : (p1, p2) = ((q1, q2) : Ce)
            · rw [h]; simp
            · rw [decide_eq_false (fun e => h e.symm)]; simpa using h)
          obtain ⟨kn1, hk1e⟩ : ∃ kn1, kn1 = (ys.take (i + 1)).contains (p1, p2) := ⟨_, rfl⟩
          rw [← hk1e] at hst
          have HE1 := Lib.hid hk1e
          have HST := Lib.hid hst
          clear hst hk1e T1
          generalize (ys.take i).contains (p1, p2) = kn at *
          have i0 : 0 ≤ (i : Int) := by omega
          have i1 : (i : Int) < (ys.length : Int) := by omega
          cases kn
          case true =>
            have hm1 : kn1 = true := by rw [HST.out]; rfl
            subst hm1
            clear HST
            go_wp2
            (refine region_open (by kernel_rfl) (fun R hR => ?_); refine heldR (S := (fun w' => Below wr.heap.size wr w')) ?_ (fun hHeld => ?_); (focus ((try dsimp only); (((first | exact bB0 | exact bB0))))); refine rgN 0 rfl ?_; refine rgN 1 rfl ?_; refine tsH (i := 2) rfl (by assumption) ?_; refine tsH (i := 3) rfl (by assumption) ?_; refine tsH (i := 4) rfl (by assumption) ?_; refine tsH (i := 5) rfl (by assumption) ?_; refine tsH (i := 6) rfl (by assumption) ?_; refine tsH (i := 7) rfl (by assumption) ?_; refine tsH (i := 8) rfl (by assumption) ?_; refine tsH (i := 9) rfl (by assumption) ?_; refine tsH (i := 10) rfl (by assumption) ?_; refine rgN 11 rfl ?_; refine rgN 12 rfl ?_; refine wpAnyH_done (Q := fun e a w => e = Exit.normal ∧ R a w) (by kernel_rfl) ⟨rfl, hR _ _ ?_⟩ _; clear hR R)
            go_wp2
            go_roundw
            case rel => exact ⟨i + 1, by rw [← HE1.out], by go_num, by omega, by exact bB1 hbi⟩
            case measure => simp [intOf]; omega
          case false =>
            obtain ⟨sm, hsm⟩ : ∃ sm, sameC q1 q2 p1 p2 = sm := ⟨_, rfl⟩
            have hm1 : kn1 = sm := by rw [HST.out, hsm]; rfl
            subst hm1
            clear HST
            go_wp2
            (refine region_open (by kernel_rfl) (fun R hR => ?_); refine heldR (S := (fun w' => Below wr.heap.size wr w')) ?_ (fun hHeld => ?_); (focus ((try dsimp only); (((first | exact bB0 | exact bB0))))); have hO := Lib.hid (fun w' (hSw : (fun w' => Below wr.heap.size wr w') w') => (by (try dsimp only at hSw); (have hcc := (bcell hSw).1; have sa0 := (hcc _ _ hb2).trans c0; have sa1 := (hcc _ _ hb2).trans c1; have sd0 := (hcc _ _ hbw).trans d0; have sd1 := (hcc _ _ hbw).trans d1); exact And.intro sa0 (And.intro sa1 (And.intro sd0 sd1)))); refine rgN 0 rfl ?_; refine rgN 1 rfl ?_; refine rgN 2 rfl ?_; refine rgN 3 rfl ?_; refine rgN 4 rfl ?_; refine rgL 5 hO rfl ?_; refine rgN 6 rfl ?_; refine rgN 7 rfl ?_; refine rgN 8 rfl ?_; refine rgL 9 hO rfl ?_; refine rgN 10 rfl ?_; refine rgN 11 rfl ?_; refine rgN 12 rfl ?_; refine wpAnyH_done (Q := fun e a w => e = Exit.normal ∧ R a w) (by kernel_rfl) ⟨rfl, hR _ _ ?_⟩ _; clear hR R)
            go_wp2
            go_roundw
            case rel => exact ⟨i + 1, by rw [← HE1.out], by go_num, by omega, by exact bB1 hbi⟩
            case measure => simp [intOf]; omega
        · obtain rfl : i = ys.length := by omega
          rw [List.take_length]
          have hF := HF2.out
          have hC7 := hCr.below hbi lC
          have l7 := hC7.lt
          have d0 := ((bcell hbi).1 _ _ hb).trans a0
          have d1 := ((bcell hbi).1 _ _ hb).trans a1
          have hbw : b < wr.heap.size := by have := hbi.size; omega
          have z0 := hC7.cell 0; have z1 := hC7.cell 1; have z2 := hC7.cell 2; have z3 := hC7.cell 3
          simp at z0 z1 z2 z3
          have hbw5 : Below W5.heap.size W5 wr := by exact bB2 hbi hB
          clear HF2 hTr hCr a0 a1
          have ISc := Lib.hid (fun W => isIn_c x0 x1 y0 y1 p1 p2 W)
          generalize ys.contains (p1, p2) = kn at *
          generalize inBx (x0, x1, y0, y1) (p1, p2) = ib at *
          have HF := Lib.hid hF
          clear hF hb
          cases kn
          case true =>
            have hF3 := HF.out
            simp only [Bool.true_or, Bool.true_and] at hF3
            have HF3 := Lib.hid hF3
            clear HF hF3
            go_wp2
            (refine region_open (by kernel_rfl) (fun R hR => ?_); refine heldR (S := (fun w' => Below wr.heap.size wr w')) ?_ (fun hHeld => ?_); (focus ((try dsimp only); (((first | exact bB0 | exact bB0))))); refine rgN 0 rfl ?_; refine rgN 1 rfl ?_; refine rgN 2 rfl ?_; refine tsH (i := 3) rfl (by assumption) ?_; refine tsH (i := 4) rfl (by assumption) ?_; refine tsH (i := 5) rfl (by assumption) ?_; refine tsH (i := 6) rfl (by assumption) ?_; refine tsH (i := 7) rfl (by assumption) ?_; refine tsH (i := 8) rfl (by assumption) ?_; refine tsH (i := 9) rfl (by assumption) ?_; refine rgN 10 rfl ?_; refine wpAnyH_done (Q := fun e a w => e = Exit.normal ∧ R a w) (by kernel_rfl) ⟨rfl, hR _ _ ?_⟩ _; clear hR R)
            go_wp2
            go_roundw
            case rel => exact ⟨k + 1, by omega, by go_num, HF3.out, by exact bB1 hbw5⟩
            case measure => simp [intOf]; omega
          case false =>
            cases ib
            case true =>
              have hF3 := HF.out
              simp only [Bool.or_true, Bool.true_and] at hF3
              have HF3 := Lib.hid hF3
              clear HF hF3
              go_wp2
              (refine region_open (by kernel_rfl) (fun R hR => ?_); refine heldR (S := (fun w' => Below wr.heap.size wr w')) ?_ (fun hHeld => ?_); (focus ((try dsimp only); (((first | exact bB0 | exact bB1 hb4))))); have hO := Lib.hid (fun w' (hSw : (fun w' => Below wr.heap.size wr w') w') => (by (try dsimp only at hSw); (have hcc := (bcell hSw).1; have sd0 := (hcc _ _ hbw).trans d0; have sd1 := (hcc _ _ hbw).trans d1; have sz0 := (hcc _ _ l7).trans z0; have sz1 := (hcc _ _ l7).trans z1; have sz2 := (hcc _ _ l7).trans z2; have sz3 := (hcc _ _ l7).trans z3); exact And.intro sd0 (And.intro sd1 (And.intro sz0 (And.intro sz1 (And.intro sz2 sz3)))))); refine rgN 0 rfl ?_; refine rgN 1 rfl ?_; refine rgN 2 rfl ?_; refine rgL 3 hO rfl ?_; refine rgN 4 rfl ?_; refine rgN 5 rfl ?_; refine rgN 6 rfl ?_; refine rgL 7 hO rfl ?_; refine rgC 8 rfl (fun K hK => ?_); go_simp; ((go_at_call 77; (with_reducible refine (ISc.out _).mono ?_); rintro e w4 ⟨rfl, hb4⟩)); go_simp; refine hK.out _ _ ?_ (fun hHeld => ?_); (focus ((try dsimp only); (((first | exact bB1 hb4 | exact bB0))))); clear hK K; (try simp only [Act.put, pqs]); refine rgN 9 rfl ?_; refine rgN 10 rfl ?_; refine wpAnyH_done (Q := fun e a w => e = Exit.normal ∧ R a w) (by kernel_rfl) ⟨rfl, hR _ _ ?_⟩ _; clear hR R)
              have hb5 : Below wr.heap.size wr w4 := by exact bB1 hb4
              go_wp2
              go_roundw
              case rel => exact ⟨k + 1, by omega, by go_num, HF3.out, by exact bB2 hb5 hbw5⟩
              case measure => simp [intOf]; omega
            case false =>
              have hF3 := HF.out
              simp only [Bool.or_false, Bool.false_and] at hF3
              subst hF3
              clear HF
              go_wp2
              (refine region_open (by kernel_rfl) (fun R hR => ?_); refine heldR (S := (fun w' => Below wr.heap.size wr w')) ?_ (fun hHeld => ?_); (focus ((try dsimp only); (((first | exact bB0 | exact bB1 hb4))))); have hO := Lib.hid (fun w' (hSw : (fun w' => Below wr.heap.size wr w') w') => (by (try dsimp only at hSw); (have hcc := (bcell hSw).1; have sd0 := (hcc _ _ hbw).trans d0; have sd1 := (hcc _ _ hbw).trans d1; have sz0 := (hcc _ _ l7).trans z0; have sz1 := (hcc _ _ l7).trans z1; have sz2 := (hcc _ _ l7).trans z2; have sz3 := (hcc _ _ l7).trans z3); exact And.intro sd0 (And.intro sd1 (And.intro sz0 (And.intro sz1 (And.intro sz2 sz3)))))); refine rgN 0 rfl ?_; refine rgN 1 rfl ?_; refine rgN 2 rfl ?_; refine rgL 3 hO rfl ?_; refine rgN 4 rfl ?_; refine rgN 5 rfl ?_; refine rgN 6 rfl ?_; refine rgL 7 hO rfl ?_; refine rgC 8 rfl (fun K hK => ?_); go_simp; ((go_at_call 77; (with_reducible refine (ISc.out _).mono ?_); rintro e w4 ⟨rfl, hb4⟩)); go_simp; refine hK.out _ _ ?_ (fun hHeld => ?_); (focus ((try dsimp only); (((first | exact bB1 hb4 | exact bB0))))); clear hK K; (try simp only [Act.put, pqs]); refine rgN 9 rfl ?_; refine rgN 10 rfl ?_; refine wpAnyH_done (Q := fun e a w => e = Exit.normal ∧ R a w) (by kernel_rfl) ⟨rfl, hR _ _ ?_⟩ _; clear hR R)
              have hb5 : Below wr.heap.size wr w4 := by exact bB1 hb4
              go_wp2
              go_ret
              exact ⟨rfl, by exact bB3 hb5 hbw5 hB0⟩
    · obtain rfl : k = xs.length := by omega
      have hR := hf.out
      rw [List.drop_length] at hR
      have hR : R = true := hR
      subst hR
      clear hf
      go_wp2
      go_ret
      exact ⟨rfl, by exact bB2 hB hB0⟩
end Go.Proofs.YtpnfgmgoafgcbaaGreat

/-
  slices.AppendSeq and slices.Collect over the cells of an arm (chapter 6): a slice of the call's own holds all cells, one after the other.
  slices.SortFunc and slices.SortedFunc over cells (chapter 6).
  slices.Compact over cells (chapter 6).
-/
import Derived.Test.YtpnfgmgoafgcbaaGreatMvF
import Derived.Test.YtpnfgmgoafgcbaaGreatA7
import Derived.Test.YtpnfgmgoafgcbaaGreatA15
set_option linter.unusedVariables false
set_option linter.unusedSimpArgs false
set_option linter.unusedVariables false
namespace Go.Proofs.YtpnfgmgoafgcbaaGreat
open Go.RowKit Go.Shelf
attribute [local go_sem] Oper.semAt_some
/-- The row of cells so far, in the box Bo. -/
def CaI (Bo U : Nat) (out : List Ce) (W : World) : Prop := ∃ A c, Box W Bo 54 #[.slice A out.length c] ∧ W.ownsRow U 22 2 (.slice A out.length c) out.length (out.flatMap ceV)
theorem CaI.own {Bo U : Nat} {out : List Ce} {W W' : World} {row : Option Nat} (h : CaI Bo U out W) (hg : W.grownBy W' row) (hr : ∀ r, row = some r → ∃ o : Obj, W.heap[r]? = some o ∧ o.isCells = false) : CaI Bo U out W' := by
  obtain ⟨A, c, h1, h2⟩ := h
  exact ⟨A, c, box_row h1 hg hr, own_row h2 hg hr⟩
theorem CaI.below {Bo U : Nat} {out : List Ce} {W W' : World} (h : CaI Bo U out W) (hb : Below W.heap.size W W') : CaI Bo U out W' := by
  obtain ⟨A, c, h1, h2⟩ := h
  exact ⟨A, c, h1.below hb h1.lt, own_below h2 hb⟩
/-- The block of the row is the round's own. -/
def ExR (Bo : Nat) (W : World) (k : Nat) : Prop := rowB Bo W = some k
theorem exR_keep {Bo n0 : Nat} (h : Bo < n0) : ExK (ExR Bo) n0 := fun A B row k h0 hg hr e => by
  unfold ExR at *
  rw [← e]
  exact (rowB_same (hg.block Bo (by omega) (fun e => by have := hr Bo e.symm; omega))).symm
/-- How AppendSeq and Collect end. -/
def ApEnd (tot : List Ce) (w : World) (e : Ending) (w' : World) : Prop :=
  ∃ A c, e = .returned (.slice A tot.length c) ∧ w'.ownsRow w.heap.size 22 2 (.slice A tot.length c) tot.length (tot.flatMap ceV) ∧ Below w.heap.size w w'
theorem seg_len (a b : Ce) : (seg a b).length = dst a b + 1 := by simp [seg, segN]
theorem segs_len : ∀ {js : List Ce}, Small js → (segs js).length ≤ 2001 * js.length
  | [], _ => by simp [segs]
  | [_], _ => by simp [segs]
  | a :: b :: r, h => by
    have ha := h a (by simp)
    have hb := h b (by simp)
    have ih := segs_len (js := b :: r) (fun c hc => h c (List.mem_cons_of_mem _ hc))
    have hd : dst a b ≤ 2000 := by simp only [dst]; omega
    simp only [segs, List.length_append, seg_len, List.length_cons] at *
    omega
theorem clP_len {s : Sc} {p : Ps} (hQ : p.2.length = s.L.length) (hL : s.L.length ≤ 3) (hl : ∀ l ∈ s.L, 1 ≤ l.1 ∧ l.1 ≤ 4) (h1 : -100 ≤ s.bx ∧ s.bx ≤ 100) (h2 : -100 ≤ s.bY ∧ s.bY ≤ 100) (h3 : -100 ≤ p.1 ∧ p.1 ≤ 100) : (clP s p 0).length ≤ 10000 := by
  have h4 := segs_len (jts_small (s := s) (p := p) hL hl h1 h2 h3)
  have h5 := jts_len (s := s) (p := p) hQ
  have h6 : clP s p 0 = segs (jts s p) := rfl
  rw [h6]
  omega
theorem ca_ex {Bo U n c k : Nat} {A : Option Addr} {xs : List Value} {W : World} (R1 : Box W Bo 54 #[.slice A n c]) (R2 : W.ownsRow U 22 2 (.slice A n c) n xs) (hk : (Value.slice A n c).ownBlock = some k) : ExR Bo W k := by
  rcases R2.2 with ⟨e2, _⟩ | ⟨g, cap, cur, e2, _⟩
  · rw [e2] at hk; cases hk
  · rw [e2] at hk
    have e3 : g = k := by simpa [Value.ownBlock] using hk
    subst e3
    cases e2
    exact rowB_box R1
set_option maxHeartbeats 4000000 in
set_option maxRecDepth 100000 in
theorem appSeq_c (gA : Nat) (bx bY sl fx fX fy fY ps : Int) (L : List Lk) (B : List Bx) (Q : List Int) (AL AB AQ : Option Addr) (cL cB cQ : Nat) (w : World) (hQ : Q.length = L.length) (hL : L.length ≤ 3)
    (hb1 : -100 ≤ bx ∧ bx ≤ 100) (hb2 : -100 ≤ bY ∧ bY ≤ 100) (hb3 : -100 ≤ ps ∧ ps ≤ 100) (hl : ∀ l ∈ L, 1 ≤ l.1 ∧ l.1 ≤ 4) (hq : ∀ q ∈ Q, -2 ≤ q ∧ q ≤ 2) (hs1 : SlV w AL (L.flatMap lkV)) (hs3 : SlI w AQ Q)
    (hA : Box w gA 135 #[.int .i64 bx, .int .i64 bY, .int .i64 sl, .slice AL L.length cL, .int .i64 fx, .int .i64 fX, .int .i64 fy, .int .i64 fY, .slice AB B.length cB, .int .i64 ps, .slice AQ Q.length cQ]) (hF : Box w (gA + 1) 3 #[.int .i64 0]) :
    Calls Tryz.prog 185 #[.slice none 0 0, .func (.func 165) #[] #[.pointer (some ⟨gA, 0, none⟩), .pointer (some ⟨gA + 1, 0, none⟩)]] w (ApEnd (clP (⟨bx, bY, sl, L, (fx, fX, fy, fY), B⟩ : Sc) (ps, Q) 0) w) := by
  have hlen : (clP (⟨bx, bY, sl, L, (fx, fX, fy, fY), B⟩ : Sc) (ps, Q) 0).length ≤ 10000 := clP_len (s := (⟨bx, bY, sl, L, (fx, fX, fy, fY), B⟩ : Sc)) (p := (ps, Q)) hQ hL hl hb1 hb2 hb3
  have HS := Lib.hid (fun W (h : Below w.heap.size w W) (hW : w.heap.size < W.heap.size) => fun hA hF hE hfr => cells1_seqX (ExR w.heap.size) (6 - 1) gA 0 bx bY sl fx fX fy fY ps L B Q AL AB AQ cL cB cQ W (by omega) hQ hL (by omega) hb1 hb2 hb3 hl hq (hs1.below h) (hs3.below h) hA hF hE hfr)
  generalize clP (⟨bx, bY, sl, L, (fx, fX, fy, fY), B⟩ : Sc) (ps, Q) 0 = tot at *
  have lA := hA.lt; have lF := hF.lt
  clear hs1 hs3
  refine callsIn_wide.1 (callsIn_of_wp_marks (n := 6) Tryz.func185 rfl trivial ?_ rfl)
  simp only [Tryz.ntmps185, List.size_toArray, List.length_cons, List.length_nil, Nat.reduceAdd, Nat.reduceSub, Array.replicate_succ, Array.replicate_zero, List.push_toArray, List.append_toArray, List.nil_append, List.cons_append]
  gi_wp2_with fail
  obtain ⟨W1, hW1⟩ : ∃ W1 : World, W1 = w.alloc (.cells #[.slice none 0 0] 54) := ⟨_, rfl⟩
  have b0 : Box W1 w.heap.size 54 #[.slice none 0 0] := by rw [hW1]; exact bX0
  have hB0 : Below w.heap.size w W1 := by rw [hW1]; exact bB0
  have hz1 := b0.lt
  have bA : Box W1 gA 135 #[.int .i64 bx, .int .i64 bY, .int .i64 sl, .slice AL L.length cL, .int .i64 fx, .int .i64 fX, .int .i64 fy, .int .i64 fY, .slice AB B.length cB, .int .i64 ps, .slice AQ Q.length cQ] := hA.below hB0 lA
  have bF : Box W1 (gA + 1) 3 #[.int .i64 ((0 : Nat) : Int)] := hF.below hB0 lF
  rw [← hW1]
  clear hW1
  have hfr1 : ∀ k, W1.heap.size ≤ k → ¬ ExR w.heap.size W1 k := fun k _ e => by
    have := b0.cell 0
    simp at this
    simp [ExR, rowB, this] at e
  have hseq := HS.out W1 hB0 hz1 bA bF (exR_keep hz1) hfr1
  refine wpIn_rangeFunc_G (gf := 165) (lb := #[.pointer (some ⟨gA, 0, none⟩), .pointer (some ⟨gA + 1, 0, none⟩)]) rfl (by omega) rfl trivial (enters_of Tryz.func165 (by kernel_rfl) rfl) hseq ?Sk ?Kt ?Kb (Below.refl _ _) (fun _ => rfl)
    (fun pre W => pre <+: tot ∧ CaI w.heap.size W1.heap.size pre W ∧ Below w.heap.size w W ∧ W1.heap.size ≤ W.heap.size)
    (fun _ _ _ => False) ?I (fun _ _ _ _ _ h => h.elim) ?IS ⟨List.nil_prefix, ⟨none, 0, b0, by simp, .inl ⟨rfl, rfl⟩⟩, hB0, Nat.le_refl _⟩
    (fun pre x a' W => pre ++ [x] <+: tot ∧ ∃ Bx, W1.heap.size ≤ Bx ∧ Box W Bx 22 #[.int .i64 x.1, .int .i64 x.2] ∧ a' = ⟨#[Value.slice none 0 0, Value.func (.func 165) #[] #[.pointer (some ⟨gA, 0, none⟩), .pointer (some ⟨gA + 1, 0, none⟩)], Value.pointer (some ⟨w.heap.size, 0, none⟩), undef, Value.slice none 0 0, Value.pointer (some ⟨Bx, 0, none⟩), Value.func (.func 165) #[] #[.pointer (some ⟨gA, 0, none⟩), .pointer (some ⟨gA + 1, 0, none⟩)], Value.agg #[.int .i64 x.1, .int .i64 x.2], undef, undef, undef, undef, undef], []⟩) ?Ax ?assign ?body ?done (fun _ _ _ _ _ _ h => h.elim)
  case Sk =>
    rintro A B' k o ⟨g, hg0, _, ⟨t, cs, hb0⟩, hg⟩ hk ho hc
    exact (hg.block k (Array.getElem?_eq_some_iff.1 ho).1 (fun e => by cases e; rw [show A.heap[k]? = _ from hb0] at ho; cases ho; cases hc)).trans ho
  case Kt => exact fun h1 h2 => ⟨fun k cs t hk hn h => by obtain ⟨k1, k2⟩ := h1.1 k cs t hk hn h; exact h2.1 k cs t hk k2 k1, fun h => h2.2 (h1.2 h)⟩
  case Kb =>
    intro W k o o' hk ho hc hw'
    have e0 : ∀ j, ExR w.heap.size (W.putObj k o') j → ExR w.heap.size W j := fun j e => by
      unfold ExR at *; rw [← e]; exact (rowB_same (World.putObj_heap_other (by omega))).symm
    exact ⟨fun j cs t _ hn h => ⟨h.put (by rintro rfl; rw [show W.heap[j]? = _ from h] at ho; cases ho; cases hc) o', fun e => hn (e0 _ e)⟩, fun h j hj e => h j (by simpa [World.putObj] using hj) (e0 _ e)⟩
  case I =>
    rintro pre A B' row ⟨h1, h2, h4, h5⟩ hg hr
    exact ⟨h1, h2.own hg (fun r e => (hr r e).2), h4.grown hg h4.size (fun r e => by have := (hr r e).1; omega), Nat.le_trans h5 hg.size⟩
  case IS =>
    rintro pre A B' ⟨g, hg0, hx, ⟨t, cs, hb0⟩, hg⟩ ⟨h1, ⟨A0, c0, R1, R2⟩, h4, h5⟩
    exact ⟨h1, ⟨A0, c0, box_keep R1 hg (by intro e; cases e; omega), own_same R2 (fun k hk => hg.block k (by obtain ⟨_, cs, hcs⟩ := own_blk R2 hk; exact hcs.lt) (fun e => by cases e; exact hx (ca_ex R1 R2 hk)))⟩, h4.grown hg h4.size (fun r e => by cases e; omega), Nat.le_trans h5 hg.size⟩
  case Ax =>
    rintro pre x a' _ A B' row ⟨hp, Bx, h2, h3, h4⟩ hg hr
    exact ⟨hp, Bx, h2, box_keep h3 hg (row_ne h3 (fun r e => (hr r e).2)), h4⟩
  case assign =>
    rintro l1 pre x W K ⟨h1, h2, h4, h5⟩ hp hK
    gi_wp2
    have hb : Below W.heap.size W (W.alloc (.cells #[.int .i64 x.1, .int .i64 x.2] 22)) := by exact bB0
    have hlt : w.heap.size < W.heap.size := by omega
    have e0 : ∀ j, ExR w.heap.size (W.alloc (.cells #[.int .i64 x.1, .int .i64 x.2] 22)) j → ExR w.heap.size W j := fun j e => by
      unfold ExR at *; rw [← e]; exact (rowB_same (hb.block _ hlt)).symm
    exact hK _ _ (below_kf hb) ⟨fun k cs t _ hn h => ⟨h.below hb h.lt, fun e => hn (e0 _ e)⟩, fun h j hj e => h j (by simp at hj; omega) (e0 _ e)⟩ ⟨h1, h2.below hb, h4.trans (hb.mono (by omega)), by simp; omega⟩ ⟨hp, W.heap.size, h5, by exact bX0, rfl⟩
  case body =>
    rintro l1 out x a' W hlw ⟨h1, ⟨A, c, R1, R2⟩, hB1, hz2⟩ ⟨hpx, gm, hgm, hm, rfl⟩
    obtain ⟨x1, x2⟩ := x
    dsimp only at hm
    have hol : out.length + 1 ≤ 10000 := by
      have h := hpx.length_le
      simp at h
      omega
    have r0 := R1.cell 0
    have m0 := hm.cell 0; have m1 := hm.cell 1
    simp only [List.getElem?_toArray, List.getElem?_cons_zero, List.getElem?_cons_succ] at r0 m0 m1
    have lR := R1.lt; have lm := hm.lt
    obtain ⟨u0, zM, hu0, hy0, hy1, hy2, hy3⟩ := infoOk_parts infoC
    have hm1 : out.length + 1 ≤ maxLen := by unfold maxLen; omega
    have hm2 : (out.length + 1) * 16 ≤ 140737488355328 := by omega
    gi_wp2_with (gi_at_builtin; go_loud (refine wpListIn_append_own_at _ rfl _ _ 54 rfl W1.heap.size 22 u0 _ 2 16 Tryz.underlying54 hu0 hy0 hy1 hy2 hy3 (by decide) _ _ _ rfl (R2.alloc _) ⟨W.heap.size, 0, none⟩ 1 1 [.int .i64 x1, .int .i64 x2] rfl rfl (cells_new W [.int .i64 x1, .int .i64 x2] _) (by simp [Value.oneCell']) hm1 hm2 (by simp; omega) ?_); go_loud (intro v' w8 hown8 hgrow8 hnil hblk); go_loud (obtain ⟨gN, capN, rfl, hgN, hgN2⟩ := own_pos hown8 (by omega) (by omega)); go_loud (have R8 := box_og (R1.alloc (.cells #[.int .i64 x1, .int .i64 x2] 22)) (R2.alloc _) (by decide) hgrow8; have r8 := R8.cell 0; have f8 := R8.froz 0; have l8 := R8.lt); (simp only [List.getElem?_toArray, List.getElem?_cons_zero] at r8))
    obtain ⟨csN, hcN⟩ := own_some hown8
    have nNO : gN ≠ w.heap.size := box_ne hcN R8 (by decide)
    have ho := own_far (p := ⟨w.heap.size, 0, none⟩) (u := .slice (some ⟨gN, 0, none⟩) (out.length + 1) capN) hown8 nNO
    have hB8 : Below w.heap.size w (w8.setCell ⟨w.heap.size, 0, none⟩ (.slice (some ⟨gN, 0, none⟩) (out.length + 1) capN)) :=
      Below.setCell (p := ⟨w.heap.size, 0, none⟩) ((hB1.alloc (by omega) _).grown hgrow8 (by simp; omega) (fun k e => by have := (own_blk R2 (show (Value.slice A out.length c).ownBlock = some k from e)).1; omega)) (Nat.le_refl _) _
    have same : ∀ k, k < W.heap.size → k ≠ w.heap.size → (Value.slice A out.length c).ownBlock ≠ some k → (w8.setCell ⟨w.heap.size, 0, none⟩ (.slice (some ⟨gN, 0, none⟩) (out.length + 1) capN)).heap[k]? = W.heap[k]? := fun k hk h2 h3 =>
      (Below.heap_setCell w8 ⟨w.heap.size, 0, none⟩ _ k h2).trans ((hgrow8.block k (by simp; omega) (fun e => h3 (by first | exact e | exact e.symm))).trans (Below.heap_alloc W _ k hk))
    have hsz : W.heap.size ≤ (w8.setCell ⟨w.heap.size, 0, none⟩ (.slice (some ⟨gN, 0, none⟩) (out.length + 1) capN)).heap.size := by have := hgrow8.size; simp at this; simp; omega
    have kf : KeepsFrom W1.heap.size W (w8.setCell ⟨w.heap.size, 0, none⟩ (.slice (some ⟨gN, 0, none⟩) (out.length + 1) capN)) := by
      refine ⟨hsz, fun k o _ hk hc => ?_⟩
      have hkl : k < W.heap.size := (Array.getElem?_eq_some_iff.1 hk).1
      refine (same k hkl (fun e => ?_) (fun e => ?_)).trans hk
      · subst e
        rw [show W.heap[w.heap.size]? = _ from R1] at hk
        cases hk; cases hc
      · obtain ⟨_, cs, hcs⟩ := own_blk R2 e
        rw [show W.heap[k]? = _ from hcs] at hk
        cases hk; cases hc
    have R9 : Box (w8.setCell ⟨w.heap.size, 0, none⟩ (.slice (some ⟨gN, 0, none⟩) (out.length + 1) capN)) w.heap.size 54 #[.slice (some ⟨gN, 0, none⟩) (out.length + 1) capN] := (R8.set 0 _).congr (by simp)
    have hrw := rowB_box R9
    have hbk : ∀ k, ExR w.heap.size (w8.setCell ⟨w.heap.size, 0, none⟩ (.slice (some ⟨gN, 0, none⟩) (out.length + 1) capN)) k → k < W.heap.size → ExR w.heap.size W k := fun k e hk => by
      unfold ExR at e
      rw [hrw] at e
      have e := Option.some.inj e
      subst e
      rcases hblk with h | h
      · exact ca_ex R1 R2 (h.symm.trans rfl)
      · have : gN = W.heap.size + 1 := by simpa [Value.ownBlock] using h
        omega
    refine ⟨kf, ⟨fun k cs t hk hn h => ⟨?_, fun e => hn (hbk k e h.lt)⟩, fun h k hk e => ?_⟩, hpx, ⟨some ⟨gN, 0, none⟩, capN, ?_, ?_⟩, hB8, by omega⟩
    · exact (same k h.lt (by omega) (fun e => hn (ca_ex R1 R2 e))).trans h
    · unfold ExR at e
      rw [hrw] at e
      have e := Option.some.inj e
      subst e
      simp at hk
      omega
    · rw [List.length_append]
      exact R9
    · rw [List.length_append]
      simpa [List.flatMap_append, ceV] using ho
  case done =>
    rintro D xs W' hD rfl ⟨_, ⟨A, c, R1, R2⟩, h4, _⟩ hDD
    have r0 := R1.cell 0
    simp at r0
    have lR := R1.lt
    gi_wp2
    refine leaves_marks (B := W1.heap.size) (G := fun W'' => W''.ownsRow W1.heap.size 22 2 (.slice A xs.length c) xs.length (xs.flatMap ceV) ∧ Below w.heap.size w W'') ?gKeep [D] _ ⟨by simp, fun E hE => ?_⟩ ⟨R2, h4⟩ (fun V h => ⟨_, results_tmp rfl _ _ _, A, c, rfl, own_base h.1 (by omega), h.2⟩)
    · rintro V E hE hd ⟨g1, g2⟩
      have hg := grownBy_putObj' V E (.deferred none)
      have hr : ∀ r, some E = some r → ∃ o : Obj, V.heap[r]? = some o ∧ o.isCells = false := fun r e => by cases e; exact ⟨_, hd, rfl⟩
      exact ⟨own_row g1 hg hr, below_putObj g2 (by omega) _⟩
    · have : E = D := by simpa using hE
      subst this
      exact ⟨hD, hDD⟩
theorem collect_c (gA : Nat) (bx bY sl fx fX fy fY ps : Int) (L : List Lk) (B : List Bx) (Q : List Int) (AL AB AQ : Option Addr) (cL cB cQ : Nat) (w : World) (hQ : Q.length = L.length) (hL : L.length ≤ 3)
    (hb1 : -100 ≤ bx ∧ bx ≤ 100) (hb2 : -100 ≤ bY ∧ bY ≤ 100) (hb3 : -100 ≤ ps ∧ ps ≤ 100) (hl : ∀ l ∈ L, 1 ≤ l.1 ∧ l.1 ≤ 4) (hq : ∀ q ∈ Q, -2 ≤ q ∧ q ≤ 2) (hs1 : SlV w AL (L.flatMap lkV)) (hs3 : SlI w AQ Q)
    (hA : Box w gA 135 #[.int .i64 bx, .int .i64 bY, .int .i64 sl, .slice AL L.length cL, .int .i64 fx, .int .i64 fX, .int .i64 fy, .int .i64 fY, .slice AB B.length cB, .int .i64 ps, .slice AQ Q.length cQ]) (hF : Box w (gA + 1) 3 #[.int .i64 0]) :
    Calls Tryz.prog 163 #[.func (.func 165) #[] #[.pointer (some ⟨gA, 0, none⟩), .pointer (some ⟨gA + 1, 0, none⟩)]] w (ApEnd (clP (⟨bx, bY, sl, L, (fx, fX, fy, fY), B⟩ : Sc) (ps, Q) 0) w) := by
  have AP := Lib.hid (appSeq_c gA bx bY sl fx fX fy fY ps L B Q AL AB AQ cL cB cQ w hQ hL hb1 hb2 hb3 hl hq hs1 hs3 hA hF)
  generalize clP (⟨bx, bY, sl, L, (fx, fX, fy, fY), B⟩ : Sc) (ps, Q) 0 = tot at *
  clear hs1 hs3 hQ
  go_enter Tryz.func163, Tryz.ntmps163
  go_wp2_with (first | (go_at_call 185; (with_reducible refine AP.out.mono ?_); rintro e w5 hE5; obtain ⟨A, c, rfl, ho5, hb5⟩ := hE5) | fail)
  go_ret
  exact ⟨A, c, rfl, ho5, hb5⟩
end Go.Proofs.YtpnfgmgoafgcbaaGreat
set_option linter.unusedVariables false
namespace Go.Proofs.YtpnfgmgoafgcbaaGreat
open Go.RowKit Go.Shelf Go.Sort
attribute [local go_sem] Oper.semAt_some
/-- The order of cells. -/
def cmpC (x y : Ce) : Int := lexC [x.1, x.2] [y.1, y.2]
theorem sli_two {w : World} {g : Nat} {t : TypeId} {a b : Int} (h : Box w g t #[.int .i64 a, .int .i64 b]) : SlI w (some ⟨g, 0, none⟩) [a, b] := fun j u hj => by
  have c0 := h.cell 0; have c1 := h.cell 1
  simp at c0 c1
  rcases j with _ | _ | j
  · simp at hj; subst hj; exact ⟨g, 0, rfl, h.lt, c0⟩
  · simp at hj; subst hj; exact ⟨g, 0, rfl, h.lt, c1⟩
  · simp at hj
theorem grow2 (w : World) (a b : Obj) : ((w.alloc a).alloc b).drew = Sort.grow (w.drewN 1) #[a, b] := by
  rw [alloc_eq_grow w a, grow_alloc, grow_drew]; rfl
set_option maxHeartbeats 2000000 in
theorem cmpC_c (x y : Ce) (w : World) : Calls Tryz.prog 131 #[.agg (ceV x).toArray, .agg (ceV y).toArray] w (CmpEnd w (cmpC x y)) := by
  obtain ⟨x1, x2⟩ := x
  obtain ⟨y1, y2⟩ := y
  have SCc := Lib.hid (fun W (h1 : Box W w.heap.size 22 #[.int .i64 x1, .int .i64 x2]) (h2 : Box W (w.heap.size + 1) 22 #[.int .i64 y1, .int .i64 y2]) => show Calls Tryz.prog 132 #[.slice (some ⟨w.heap.size, 0, none⟩) 2 2, .slice (some ⟨w.heap.size + 1, 0, none⟩) 2 2] W (fun e w' => e = .returned (.int .i64 (lexC [x1, x2] [y1, y2])) ∧ W = w') from slicesCompare_c [x1, x2] [y1, y2] _ _ 2 2 W (by simp) (by simp) (sli_two h1) (sli_two h2))
  have HR := Lib.hid (show cmpC (x1, x2) (y1, y2) = lexC [x1, x2] [y1, y2] from rfl)
  generalize cmpC (x1, x2) (y1, y2) = r at *
  generalize lexC [x1, x2] [y1, y2] = r' at *
  dsimp only [ceV]
  go_enter Tryz.func131, Tryz.ntmps131
  go_wp2
  go_region_held3 (fun w' => w'.cell? ⟨w.heap.size, 0, none⟩ = some (.int .i64 x1) ∧ w'.cell? ⟨w.heap.size, 1, none⟩ = some (.int .i64 x2) ∧ w'.cell? ⟨w.heap.size + 1, 0, none⟩ = some (.int .i64 y1) ∧ w'.cell? ⟨w.heap.size + 1, 1, none⟩ = some (.int .i64 y2)) (go_keep)
    (first | (go_at_call 132; (with_reducible refine (SCc.out _ ?_ ?_).mono ?_); rotate_left; rotate_left; rintro e w' ⟨rfl, rfl⟩; rotate_left; (focus (exact bX0)); (focus (exact bX0))) | fail)
  all_goals go_wp2
  all_goals go_ret
  all_goals exact ⟨by have e := HR.out; subst e; rfl, 1, _, grow2 w _ _⟩
theorem box_sort {α : Type} [Inhabited α] {enc : α → List Value} {k m g : Nat} {w : World} {dk : Array α} {os : Array Obj} {t : TypeId} {cs : Array Value} (h : Box w g t cs) : ∃ cs', Box (sortWorldK enc k w g 0 m dk os) g t cs' ∧ cs'.size = cs.size := by
  have hl := h.lt
  refine ⟨Go.Sort.putCells id 0 (flatK enc k dk) cs, ?_, by simp [Go.Sort.putCells]⟩
  show (sortWorldK enc k w g 0 m dk os).heap[g]? = _
  have e1 : (putRowK enc k (Sort.ahead w m) g 0 dk).heap[g]? = some (.cells (Go.Sort.putCells id 0 (flatK enc k dk) cs) t (0, 0)) := by
    have h2 : (Sort.ahead w m).heap[g]? = some (.cells cs t (0, 0)) := h
    obtain ⟨hl2, hk⟩ := Array.getElem?_eq_some_iff.1 h2
    show ((Sort.ahead w m).heap.modify g _)[g]? = _
    rw [Array.getElem?_eq_getElem (by rw [Array.size_modify]; exact hl2), Array.getElem_modify_self, hk]
    rfl
  simp only [sortWorldK, grow]
  rw [Array.getElem?_append_left (Array.getElem?_eq_some_iff.1 e1).1]
  exact e1
theorem lexC_le_tr {p q r : List Int} (h1 : ¬ lexC q p < 0) (h2 : ¬ lexC r q < 0) : ¬ lexC r p < 0 := by
  intro h
  rw [lexC_neg p q] at h1
  rw [lexC_neg q r] at h2
  by_cases e1 : lexC p q = 0
  · rw [lexC_zero.1 e1] at h
    rw [lexC_neg q r] at h
    omega
  · by_cases e2 : lexC q r = 0
    · rw [← lexC_zero.1 e2, lexC_neg p q] at h
      omega
    · have := lexC_tr (show lexC p q < 0 by omega) (show lexC q r < 0 by omega)
      rw [lexC_neg p r] at h
      omega
/-- A row that holds values, in a block of the call's own. -/
theorem own_of {W : World} {base g n cap size : Nat} {e : TypeId} {cs : Array Value} {xs : List Value} (hB : Box W g e cs) (hg : base ≤ g) (h1 : n ≤ cap) (h2 : cap ≤ maxLen) (h3 : cs.size = cap * size) (hx : xs.length = n * size) (hc : SlV W (some ⟨g, 0, none⟩) xs) : W.ownsRow base e size (.slice (some ⟨g, 0, none⟩) n cap) n xs := by
  refine ⟨hx, .inr ⟨g, cap, cs, rfl, hg, hB, h1, h2, h3, ?_⟩⟩
  have hle : n * size ≤ cap * size := Nat.mul_le_mul_right _ h1
  apply List.ext_getElem?
  intro j
  by_cases hj : j < xs.length
  · obtain ⟨b, o, e1, _, e2⟩ := hc j _ (List.getElem?_eq_getElem hj)
    cases e1
    rw [hB.cell] at e2
    rw [List.getElem?_take_of_lt (by omega), Array.getElem?_toList]
    rw [Nat.zero_add] at e2
    rw [e2, List.getElem?_eq_getElem hj]
  · rw [List.getElem?_eq_none (by simp; omega), List.getElem?_eq_none (by omega)]
/-- How the sort of cells ends. -/
def SoEnd (w : World) (base : Nat) (xs : List Ce) (v : Value) (w' : World) : Prop :=
  ∃ ys : List Ce, ys.Perm xs ∧ ys.Pairwise (fun a b => ¬ cmpC b a < 0) ∧ w'.ownsRow base 22 2 v ys.length (ys.flatMap ceV) ∧ RowKit.Below base w w'
theorem sortC_c (xs : List Ce) (g cap base : Nat) (w : World) (hg : base ≤ g) (hne : xs ≠ []) (hl : xs.length ≤ 100000) (h : w.ownsRow base 22 2 (.slice (some ⟨g, 0, none⟩) xs.length cap) xs.length (xs.flatMap ceV)) :
    Calls Tryz.prog 164 #[.slice (some ⟨g, 0, none⟩) xs.length cap, .func (.func 131) #[] #[]] w (fun e w' => e = .returned (.tuple #[]) ∧ SoEnd w base xs (.slice (some ⟨g, 0, none⟩) xs.length cap) w') := by
  obtain ⟨cs, hB⟩ := own_some h
  have hgl := hB.lt
  letI : Inhabited Ce := ⟨(0, 0)⟩
  have hlen : ∀ x : Ce, (ceV x).length = 2 := fun _ => rfl
  have hds : xs.toArray.size = xs.length := List.size_toArray
  have h0 := h
  rw [← hds, show xs.flatMap ceV = xs.toArray.toList.flatMap ceV from by simp] at h
  have hH : HoldsK ceV 2 w g 0 xs.toArray := holdsK_own hlen (by omega) h
  have hO : SWO (ltOf cmpC) := by
    refine ⟨fun x => ?_, fun x y z h1 h2 => ?_, fun x y z h1 h2 => ?_⟩
    · simp [ltOf, cmpC, lexC_zero.2 rfl]
    · simp only [ltOf, decide_eq_true_eq] at *
      exact lexC_tr h1 h2
    · simp only [ltOf, decide_eq_false_iff_not] at *
      exact lexC_le_tr h2 h1
  rw [← hds]
  refine (Tryz.slices_SortFunc 2 Tryz.isAgg22 Tryz.sizeOf22 ceV hlen (fun x v hv => by simp [ceV] at hv; rcases hv with rfl | rfl <;> rfl) cmpC hO 131 #[] g 0 cap xs.toArray w (enters_of Tryz.func131 (by kernel_rfl) rfl) (fun m os dk _ x y => cmpC_c x y _) hH hgl (by simp; omega)).mono ?_
  rintro e w' ⟨rfl, d', n, os, hp, hs, rfl⟩
  have hS := sortWorld_same (enc := ceV) (k := 2) (w := w) (blk := g) (m := n) (dk := d') (os := os)
  obtain ⟨cs', hB', hcs⟩ := box_sort (enc := ceV) (k := 2) (m := n) (dk := d') (os := os) hB
  obtain ⟨hz, _, hp⟩ := hp
  have e1 : (d'.extract 0 xs.toArray.size).toList = d'.toList := by rw [← hz]; simp
  have e2 : (xs.toArray.extract 0 xs.toArray.size).toList = xs := by simp
  rw [e1, e2] at hp
  have hcap : xs.length ≤ cap ∧ cap ≤ maxLen ∧ cs.size = cap * 2 := by
    rcases h0.2 with ⟨e, _⟩ | ⟨g', cap', cur, e, _, hh, q1, q2, q3, _⟩
    · cases e
    · cases e
      have : cur = cs := by
        have := hh.symm.trans (show w.heap[g]? = _ from hB)
        cases this; rfl
      subst this
      exact ⟨q1, q2, q3⟩
  have hln : d'.toList.length = xs.length := hp.length_eq
  refine ⟨rfl, d'.toList, hp, ?_, ?_, ?_⟩
  · rw [List.pairwise_iff_getElem]
    intro i j hi hj hij
    have hi' : i < d'.size := by simpa using hi
    have hj' : j < d'.size := by simpa using hj
    have := hs i j (Nat.zero_le _) hij (by omega)
    rw [getElem!_pos d' j hj', getElem!_pos d' i hi'] at this
    simpa [ltOf] using this
  · rw [hds, hln]
    refine own_of hB' hg hcap.1 hcap.2.1 (by rw [hcs]; exact hcap.2.2) (by rw [flatK_len (enc := ceV) (k := 2) hlen, hln]) ?_
    refine SlV.of_holdsK hlen (by omega) ?_ hB'.lt
    exact holdsK_grow ceV 2 _ os g 0 d' (by simpa [putRowK, putRow, mapBlock, Sort.ahead] using hgl) (holdsK_putRowK ceV 2 _ g 0 xs.toArray d' (holdsK_ahead ceV 2 _ _ g 0 xs.toArray hH) hz)
  · have hb : RowKit.Below base w (putRowK ceV 2 (Sort.ahead w n) g 0 d') := below_putK (Below.refl _ _) hg
    refine hb.trans ⟨rfl, rfl, rfl, by simp [sortWorldK, grow], fun k hk => ?_⟩
    have hk' : k < (putRowK ceV 2 (Sort.ahead w n) g 0 d').heap.size := by have := hb.size; omega
    simp only [sortWorldK, grow]
    rw [Array.getElem?_append_left hk']
/-- How SortedFunc over the cells of an arm ends. -/
def SfEnd (tot : List Ce) (w : World) (e : Ending) (w' : World) : Prop :=
  ∃ (A : Option Addr) (c : Nat) (ys : List Ce), e = .returned (.slice A ys.length c) ∧ ys.Perm tot ∧ ys.Pairwise (fun a b => ¬ cmpC b a < 0) ∧ w'.ownsRow w.heap.size 22 2 (.slice A ys.length c) ys.length (ys.flatMap ceV) ∧ RowKit.Below w.heap.size w w'
set_option maxHeartbeats 2000000 in
theorem sorted_c (gA : Nat) (bx bY sl fx fX fy fY ps : Int) (L : List Lk) (B : List Bx) (Q : List Int) (AL AB AQ : Option Addr) (cL cB cQ : Nat) (w : World) (hQ : Q.length = L.length) (hL : L.length ≤ 3) (hne : clP (⟨bx, bY, sl, L, (fx, fX, fy, fY), B⟩ : Sc) (ps, Q) 0 ≠ [])
    (hb1 : -100 ≤ bx ∧ bx ≤ 100) (hb2 : -100 ≤ bY ∧ bY ≤ 100) (hb3 : -100 ≤ ps ∧ ps ≤ 100) (hl : ∀ l ∈ L, 1 ≤ l.1 ∧ l.1 ≤ 4) (hq : ∀ q ∈ Q, -2 ≤ q ∧ q ≤ 2) (hs1 : SlV w AL (L.flatMap lkV)) (hs3 : SlI w AQ Q)
    (hA : Box w gA 135 #[.int .i64 bx, .int .i64 bY, .int .i64 sl, .slice AL L.length cL, .int .i64 fx, .int .i64 fX, .int .i64 fy, .int .i64 fY, .slice AB B.length cB, .int .i64 ps, .slice AQ Q.length cQ]) (hF : Box w (gA + 1) 3 #[.int .i64 0]) :
    Calls Tryz.prog 129 #[.func (.func 165) #[] #[.pointer (some ⟨gA, 0, none⟩), .pointer (some ⟨gA + 1, 0, none⟩)], .func (.func 131) #[] #[]] w (SfEnd (clP (⟨bx, bY, sl, L, (fx, fX, fy, fY), B⟩ : Sc) (ps, Q) 0) w) := by
  have AP := Lib.hid (collect_c gA bx bY sl fx fX fy fY ps L B Q AL AB AQ cL cB cQ w hQ hL hb1 hb2 hb3 hl hq hs1 hs3 hA hF)
  have hlen := clP_len (s := (⟨bx, bY, sl, L, (fx, fX, fy, fY), B⟩ : Sc)) (p := (ps, Q)) hQ hL hl hb1 hb2 hb3
  generalize clP (⟨bx, bY, sl, L, (fx, fX, fy, fY), B⟩ : Sc) (ps, Q) 0 = tot at *
  clear hs1 hs3 hQ
  have hpos : 0 < tot.length := List.length_pos_iff.2 hne
  have HNE := Lib.hid hne
  clear hne
  go_enter Tryz.func129, Tryz.ntmps129
  go_upto_region 2 with (first | (go_at_call 163; (with_reducible refine AP.out.mono ?_); rintro e w5 hE5; obtain ⟨A, c, rfl, ho5, hb5⟩ := hE5) | fail)
  obtain ⟨g, cap, hv, hg, hgl⟩ := own_pos ho5 hpos (by decide)
  cases hv
  have SO := Lib.hid (sortC_c tot g c w.heap.size w5 hg HNE.out (by omega) ho5)
  clear ho5
  go_wp2_with (first | (go_at_call 164; (with_reducible refine SO.out.mono ?_); rintro e w6 ⟨rfl, hE6⟩) | fail)
  go_ret
  obtain ⟨ys, hp, hs, ho, hb⟩ := hE6
  have hln := hp.length_eq
  refine ⟨some ⟨g, 0, none⟩, c, ys, by rw [hln]; rfl, hp, hs, by rw [hln] at ho ⊢; exact ho, hb5.trans hb⟩
end Go.Proofs.YtpnfgmgoafgcbaaGreat
set_option linter.unusedVariables false
namespace Go.Proofs.YtpnfgmgoafgcbaaGreat
open Go.RowKit Go.Shelf
attribute [local go_sem] Oper.semAt_some
attribute [local go_sem ↓] eql_ce' neq_ce'
/-- The first k values without those that are as the one before. -/
def cpl (L : List Ce) : Nat → List Ce
  | 0 => []
  | k + 1 => cpl L k ++ (if k = 0 ∨ L[k]? ≠ L[k - 1]? then L[k]?.toList else [])
theorem cpl_new {L : List Ce} {k : Nat} {x : Ce} (hx : L[k]? = some x) (h : k = 0 ∨ L[k]? ≠ L[k - 1]?) : cpl L (k + 1) = cpl L k ++ [x] := by simp only [cpl]; rw [if_pos h, hx]; rfl
theorem cpl_old {L : List Ce} {k : Nat} (hk : k ≠ 0) (h : L[k]? = L[k - 1]?) : cpl L (k + 1) = cpl L k := by simp only [cpl]; rw [if_neg (by simp [hk, h])]; simp
/-- An array holds values from a place on. -/
def InA (cu : Array Value) (off : Nat) (xs : List Value) : Prop := ∀ t u, xs[t]? = some u → cu[off + t]? = some u
theorem InA.put {cu : Array Value} {off m : Nat} {xs : List Value} {u : Value} (h : InA cu off xs) (hm : m < off ∨ off + xs.length ≤ m) : InA (cu.setIfInBounds m u) off xs := fun t v ht => by
  have hl : t < xs.length := (List.getElem?_eq_some_iff.1 ht).1
  rw [Array.getElem?_setIfInBounds_ne (by omega)]
  exact h t v ht
theorem InA.two {cu : Array Value} {xs : List Value} {a b : Value} (h : InA cu 0 xs) (hs : xs.length + 1 < cu.size) : InA ((cu.setIfInBounds xs.length a).setIfInBounds (xs.length + 1) b) 0 (xs ++ [a, b]) := fun t v ht => by
  rcases Nat.lt_or_ge t xs.length with h1 | h1
  · rw [List.getElem?_append_left h1] at ht
    have := ((h.put (u := a) (m := xs.length) (.inr (by omega))).put (u := b) (m := xs.length + 1) (.inr (by omega))) t v ht
    exact this
  · rw [List.getElem?_append_right h1] at ht
    have h2 : t - xs.length = 0 ∨ t - xs.length = 1 := by
      have := (List.getElem?_eq_some_iff.1 ht).1
      simp at this; omega
    rcases h2 with h2 | h2
    · rw [h2] at ht
      have e : 0 + t = xs.length := by omega
      rw [e, Array.getElem?_setIfInBounds_ne (by omega), Array.getElem?_setIfInBounds_self_of_lt (by omega)]
      simpa using ht
    · rw [h2] at ht
      have e : 0 + t = xs.length + 1 := by omega
      rw [e, Array.getElem?_setIfInBounds_self_of_lt (by simp; omega)]
      simpa using ht
theorem slv_boxA {w : World} {g off : Nat} {t : TypeId} {cu : Array Value} {xs : List Value} (h : Box w g t cu) (hi : InA cu off xs) : SlV w (some ⟨g, off, none⟩) xs := fun j u hj => ⟨g, off, rfl, h.lt, (h.cell _).trans (hi j u hj)⟩
theorem Below.setCellsA {base g : Nat} {w0 : World} : ∀ (vs : List Value) (o : Nat) (w : World), Below base w0 w → base ≤ g → Below base w0 (w.setCells g o vs)
  | [], _, _, h, _ => h
  | v :: r, o, w, h, hb => Below.setCellsA r (o + 1) _ (Below.setCell h hb v) hb
theorem run_clear_ce (w : World) (g n m c : Nat) (hm : 0 < m) (hc : ∀ j, j < m * 2 → (w.cell? ⟨g, n + j, none⟩).isSome = true) (hf : ∀ o, w.frozen? ⟨g, o, none⟩ = false) :
    ∃ L : List Value, ∀ ty, (Builtin.clear_ #[54] ty #[.slice (some ⟨g, n, none⟩) m c]).run Tryz.prog w = .ok (.tuple #[]) (w.setCells g n L) := by
  refine ⟨(Builtin.zeroCells #[.int .i64 0, .int .i64 0] m).toList, fun ty => ?_⟩
  have hst := run_storeCells_cells (P := Tryz.prog) g n (Builtin.zeroCells #[.int .i64 0, .int .i64 0] m).toList 0 w (fun j hj => by
      simp [Builtin.zeroCells] at hj
      exact hc j hj) (fun j _ => hf _) (fun v hv => by
      simp [Builtin.zeroCells] at hv
      obtain ⟨i, _, rfl⟩ := hv
      rcases (show i % 2 = 0 ∨ i % 2 = 1 by omega) with h | h <;> rw [h] <;> rfl)
  simp only [Nat.add_zero] at hst
  obtain ⟨m, rfl⟩ : ∃ k, m = k + 1 := ⟨m - 1, by omega⟩
  have hz : (Value.agg #[.int .i64 0, .int .i64 0]).cells = #[.int .i64 0, .int .i64 0] := by simp [Value.cells]
  simp [Builtin.clear_, run_underlying Tryz.underlying54, Tryz.zeroValue22, hz, hst]
theorem flat2 (xs : List Ce) : (xs.flatMap ceV).length = xs.length * 2 := flatK_len (enc := ceV) (k := 2) (fun _ => rfl) xs
theorem inA_at {cu : Array Value} {off i : Nat} {xs : List Ce} {a b : Int} (h : InA cu (off * 2) (xs.flatMap ceV)) (hi : xs[i]? = some (a, b)) : cu[(off + i) * 2]? = some (.int .i64 a) ∧ cu[(off + i) * 2 + 1]? = some (.int .i64 b) := by
  have h0 := flatK_get (enc := ceV) (k := 2) (fun _ => rfl) xs i (a, b) 0 hi (by decide)
  have h1 := flatK_get (enc := ceV) (k := 2) (fun _ => rfl) xs i (a, b) 1 hi (by decide)
  have k0 := h _ _ h0
  have k1 := h _ _ h1
  rw [show off * 2 + (i * 2 + 0) = (off + i) * 2 by omega] at k0
  rw [show off * 2 + (i * 2 + 1) = (off + i) * 2 + 1 by omega] at k1
  exact ⟨k0, k1⟩
theorem inA_drop {cu : Array Value} {off i : Nat} {xs : List Ce} (h : InA cu (off * 2) (xs.flatMap ceV)) : InA cu ((off + i) * 2) ((xs.drop i).flatMap ceV) := fun t u ht => by
  by_cases hi : i ≤ xs.length
  · have e : xs.flatMap ceV = (xs.take i).flatMap ceV ++ (xs.drop i).flatMap ceV := by rw [← List.flatMap_append, List.take_append_drop]
    have hl : ((xs.take i).flatMap ceV).length = i * 2 := by rw [flat2, List.length_take, Nat.min_eq_left hi]
    have := h (i * 2 + t) u (by rw [e, List.getElem?_append_right (by omega), hl, Nat.add_sub_cancel_left]; exact ht)
    rwa [show off * 2 + (i * 2 + t) = (off + i) * 2 + t by omega] at this
  · rw [List.drop_eq_nil_of_le (by omega)] at ht
    simp at ht
/-- How Compact ends. -/
def CptEnd (L : List Ce) (base : Nat) (w : World) (e : Ending) (w' : World) : Prop := ∃ A c, e = .returned (.slice A (cpl L L.length).length c) ∧ SlV w' A ((cpl L L.length).flatMap ceV) ∧ Below base w w'
set_option maxHeartbeats 4000000 in
set_option maxRecDepth 100000 in
theorem compact_c (L : List Ce) (g cap base : Nat) (w : World) (hl : L.length ≤ 100000) (hne : L ≠ []) (ho : w.ownsRow base 22 2 (.slice (some ⟨g, 0, none⟩) L.length cap) L.length (L.flatMap ceV)) :
    Calls Tryz.prog 133 #[.slice (some ⟨g, 0, none⟩) L.length cap] w (CptEnd L base w) := by
  rcases ho.2 with ⟨e, _⟩ | ⟨g', cap', cur, e, hbg, hh, hc1, hc2, hc3, hc4⟩
  · cases e
  cases e
  have hIn : InA cur (0 * 2) (L.flatMap ceV) := fun t u ht => by
    rw [← hc4] at ht
    rw [List.getElem?_take] at ht
    split at ht
    · simpa using ht
    · cases ht
  have hG : Box w g 22 cur := hh
  clear ho hh hc4
  have hpos : 0 < L.length := List.length_pos_iff.2 hne
  have HIn := Lib.hid hIn
  have hgl := hG.lt
  clear hIn hne
  by_cases h2 : L.length < 2
  · have h2' : (L.length : Int) < 2 := by omega
    have HL := Lib.hid (show cpl L L.length = L by
      match L, hpos, h2 with
      | [x], _, _ => simp [cpl])
    clear h2
    go_enter Tryz.func133, Tryz.ntmps133
    go_wp2_with fail
    go_ret
    exact ⟨some ⟨g, 0, none⟩, cap, by rw [HL.out]; rfl, by rw [HL.out]; exact slv_boxA hG (by simpa using HIn.out), Below.refl _ _⟩
  · have h2' : ¬ (L.length : Int) < 2 := by omega
    have HL1 := Lib.hid (show cpl L 1 = L.take 1 by
      match L, hpos with
      | x :: r, _ => simp [cpl])
    go_enter Tryz.func133, Tryz.ntmps133
    go_wp2_with fail
    go_loopw [3] (fun kv wr => ∃ k : Nat, kv = .int .i64 (k : Int) ∧ 1 ≤ k ∧ k ≤ L.length ∧ Hid (cpl L k = L.take k) ∧ Below w.heap.size w wr) (fun kv _ => L.length - (intOf kv).toNat)
    case atStart => exact ⟨1, by go_num, by omega, by omega, HL1, Below.refl _ _⟩
    case round =>
      obtain ⟨k, rfl, hk1, hk, hf, hB⟩ := hrel
      have hG1 := hG.below hB hgl
      by_cases hlt : k < L.length
      · have ea := List.getElem?_eq_getElem hlt
        have eb := List.getElem?_eq_getElem (show k - 1 < L.length by omega)
        have HA := Lib.hid ea; have HB := Lib.hid eb
        have T1 := Lib.hid (List.take_succ_eq_append_getElem (l := L) hlt)
        generalize L[k] = a at *
        generalize L[k - 1] = b at *
        obtain ⟨a1, a2⟩ := a
        obtain ⟨b1, b2⟩ := b
        obtain ⟨p0, p1⟩ := inA_at HIn.out ea
        obtain ⟨q0, q1⟩ := inA_at HIn.out eb
        have a0 := (hG1.cell _).trans p0; have a1' := (hG1.cell _).trans p1
        have b0 := (hG1.cell _).trans q0; have b1' := (hG1.cell _).trans q1
        rw [Nat.zero_add] at a0 a1' b0 b1'
        clear ea eb p0 p1 q0 q1
        have l1 : (k : Int) < (L.length : Int) := by omega
        have l2 : (0 : Int) ≤ (k : Int) - 1 := by omega
        have l3 : (k : Int) - 1 < (L.length : Int) := by omega
        have l4 : ((k : Int) - 1).toNat = k - 1 := by omega
        have l5 : IntKind.i64.wrap ((k : Int) - 1) = (k : Int) - 1 := IntWalk.i64_in _ (by omega)
        by_cases hab : a1 = b1 ∧ a2 = b2
        · have h1 : sameC a1 a2 b1 b2 = true := sameC_t.2 hab
          have HAB := Lib.hid hab
          clear hab
          generalize wr = W6 at *
          have HK0 := Lib.hid (show cpl L (k + 1) = L.take k by rw [cpl_old (by omega) (by rw [HA.out, HB.out, HAB.out.1, HAB.out.2]), hf.out])
          have hI1 : InA cur (0 * 2) ((L.take k).flatMap ceV) := fun t u ht => HIn.out t u (by
            have e : L.flatMap ceV = (L.take k).flatMap ceV ++ (L.drop k).flatMap ceV := by rw [← List.flatMap_append, List.take_append_drop]
            rw [e, List.getElem?_append_left (List.getElem?_eq_some_iff.1 ht).1]; exact ht)
          have hI2 : InA cur ((0 + k) * 2) ((L.drop k).flatMap ceV) := inA_drop HIn.out
          rw [Nat.zero_add] at hI2
          have HI1 := Lib.hid hI1
          have HI2 := Lib.hid hI2
          have hkn : (L.take k).length = k := by rw [List.length_take]; omega
          have hck : ¬ cap = k := by omega
          have hkc : k ≤ cap := by omega
          clear hI1 hI2 hf HA HB T1 HIn HAB
          go_wp2
          go_quiet (fail)
          go_wp2
          go_loopw [3, 5] (fun kv jv wq => ∃ (j : Nat) (K : List Ce) (cu : Array Value), kv = .int .i64 (K.length : Int) ∧ jv = .int .i64 (j : Int) ∧ 1 ≤ j ∧ j ≤ L.length - k ∧ Hid (cpl L (k + j) = K) ∧ K.length + 1 ≤ k + j ∧ Box wq g 22 cu ∧ cu.size = cap * 2 ∧ Hid (InA cu (0 * 2) (K.flatMap ceV)) ∧ Hid (InA cu ((k + j - 1) * 2) ((L.drop (k + j - 1)).flatMap ceV)) ∧ Below base w wq) (fun _ jv _ => L.length - k - (intOf jv).toNat)
          case atStart => exact ⟨1, L.take k, cur, by rw [hkn], by go_num, by omega, by omega, HK0.out, by omega, hG1.drewN _, hc3, HI1.out, by rw [Nat.add_sub_cancel]; exact HI2.out, below_drewN (hB.mono (by omega)) _⟩
          case round =>
            clear hG hG1 HI1 HI2 HK0 hkn a0 a1' b0 b1' hgl hB
            obtain ⟨j, K, cu, rfl, rfl, hj1, hj, hK, hKl, hG, hcs, hI1, hI2, hB⟩ := hrel
            have hGl := hG.lt
            have hf4 := hG.froz
            by_cases hlj : j < L.length - k
            · have hlt2 : k + j < L.length := by omega
              have ea := List.getElem?_eq_getElem hlt2
              have eb := List.getElem?_eq_getElem (show k + j - 1 < L.length by omega)
              have HA := Lib.hid ea; have HB := Lib.hid eb
              generalize L[k + j] = a at *
              generalize L[k + j - 1] = b at *
              obtain ⟨x1, x2⟩ := a
              obtain ⟨y1, y2⟩ := b
              have ea2 : (L.drop (k + j - 1))[1]? = some (x1, x2) := by rw [List.getElem?_drop, show k + j - 1 + 1 = k + j by omega]; exact HA.out
              have eb2 : (L.drop (k + j - 1))[0]? = some (y1, y2) := by rw [List.getElem?_drop, Nat.add_zero]; exact HB.out
              obtain ⟨p0, p1⟩ := inA_at hI2.out ea2
              obtain ⟨q0, q1⟩ := inA_at hI2.out eb2
              rw [show (k + j - 1 + 1) * 2 = k * 2 + j * 2 by omega] at p0 p1
              rw [show (k + j - 1 + 0) * 2 = k * 2 + (j - 1) * 2 by omega] at q0 q1
              have a0 := (hG.cell _).trans p0; have a1' := (hG.cell _).trans p1
              have b0 := (hG.cell _).trans q0; have b1' := (hG.cell _).trans q1
              have hI3 : InA cu ((k + (j + 1) - 1) * 2) ((L.drop (k + (j + 1) - 1)).flatMap ceV) := by
                have := inA_drop (i := 1) hI2.out
                rw [List.drop_drop] at this
                rw [show k + (j + 1) - 1 = k + j - 1 + 1 by omega]
                exact this
              have HI3 := Lib.hid hI3
              clear ea eb ea2 eb2 p0 p1 q0 q1 hI3 hI2
              have l1 : (j : Int) < ((L.length - k : Nat) : Int) := by omega
              have l1' : (j : Int) < (L.length : Int) - (k : Int) := by omega
              have l2 : (0 : Int) ≤ (j : Int) - 1 := by omega
              have l3 : (j : Int) - 1 < ((L.length - k : Nat) : Int) := by omega
              have l4 : ((j : Int) - 1).toNat = j - 1 := by omega
              have l5 : IntKind.i64.wrap ((j : Int) - 1) = (j : Int) - 1 := IntWalk.i64_in _ (by omega)
              by_cases hab : x1 = y1 ∧ x2 = y2
              · have h1 : sameC x1 x2 y1 y2 = true := sameC_t.2 hab
                have HK1 := Lib.hid (show cpl L (k + (j + 1)) = K by rw [← Nat.add_assoc, cpl_old (by omega) (by rw [HA.out, HB.out, hab.1, hab.2]), hK.out])
                clear hab HA HB hK
                go_wp2
                go_quiet (fail)
                go_wp2
                go_roundw
                case rel => exact ⟨j + 1, K, cu, rfl, by go_num, by omega, by omega, HK1.out, by omega, hG.drewN _, hcs, hI1, HI3.out, below_drewN hB _⟩
                case measure => simp [intOf]; omega
              · have h1 : sameC x1 x2 y1 y2 = false := sameC_f.2 hab
                have HK1 := Lib.hid (show cpl L (k + (j + 1)) = K ++ [(x1, x2)] by rw [← Nat.add_assoc, cpl_new HA.out (.inr (by rw [HA.out, HB.out]; intro e; apply hab; simpa using e)), hK.out])
                clear hab HA HB hK
                obtain ⟨u0, hu0⟩ : ∃ u, cu[K.length * 2]? = some u := ⟨_, Array.getElem?_eq_getElem (show K.length * 2 < cu.size by omega)⟩
                obtain ⟨u1, hu1⟩ : ∃ u, cu[K.length * 2 + 1]? = some u := ⟨_, Array.getElem?_eq_getElem (show K.length * 2 + 1 < cu.size by omega)⟩
                have m2 := (hG.cell _).trans hu0
                have m3 := (hG.cell _).trans hu1
                have hKn : (K.length : Int) < (L.length : Int) := by omega
                have hKf := flat2 K
                have HI4 := Lib.hid (by have := hI1.out; rw [Nat.zero_mul] at this; have := this.two (a := .int .i64 x1) (b := .int .i64 x2) (by rw [hKf]; omega); rwa [hKf] at this)
                have HI5 := Lib.hid ((HI3.out.put (m := K.length * 2) (u := .int .i64 x1) (.inl (by omega))).put (m := K.length * 2 + 1) (u := .int .i64 x2) (.inl (by omega)))
                have HE := Lib.hid (show (K ++ [(x1, x2)]).flatMap ceV = K.flatMap ceV ++ [.int .i64 x1, .int .i64 x2] by rw [List.flatMap_append]; rfl)
                clear hI1 HI3 hKf
                go_wp2
                go_quiet (fail)
                go_wp2
                go_roundw
                case rel =>
                  refine ⟨j + 1, K ++ [(x1, x2)], (cu.setIfInBounds (K.length * 2) (.int .i64 x1)).setIfInBounds (K.length * 2 + 1) (.int .i64 x2), by simp, by go_num, by omega, by omega, HK1.out, by (first | (simp; done) | (simp; omega)), ((hG.drewN _).set _ _).set _ _, by simp [hcs], by rw [HE.out, Nat.zero_mul]; exact HI4.out, HI5.out, ?_⟩
                  exact bB1 hB
                case measure => simp [intOf]; omega
            · obtain rfl : j = L.length - k := by omega
              have hkj : k + (L.length - k) = L.length := by omega
              have HF := Lib.hid (show cpl L L.length = K by rw [← hK.out, hkj])
              obtain ⟨Z, hcl⟩ := run_clear_ce wr g (K.length * 2) (L.length - K.length) (cap - K.length) (by omega) (fun t ht => by rw [hG.cell, Array.getElem?_eq_getElem (by omega)]; rfl) hG.froz
              have HS := Lib.hid (slv_boxA hG (by have := hI1.out; rwa [Nat.zero_mul] at this))
              have hKf := flat2 K
              have g1 : K.length ≤ L.length := by omega
              have g2 : K.length ≤ cap := by omega
              have g3 : ¬ cap = K.length := by omega
              clear hI1 hI2 hK
              go_wp2
              go_ret
              refine ⟨some ⟨g, 0, none⟩, cap, ?_, ?_, Below.setCellsA _ _ _ hB hbg⟩
              · rw [HF.out]; rfl
              · rw [HF.out]
                intro t u ht
                obtain ⟨b', o', e1, e2, e3⟩ := HS.out t u ht
                cases e1
                refine ⟨g, 0, rfl, ?_, ?_⟩
                · exact Nat.lt_of_lt_of_le e2 (Below.setCellsA (base := 0) (w0 := wr) Z (K.length * 2) wr (Below.refl _ _) (Nat.zero_le _)).size
                · rw [World.cell?_setCells_out]
                  · exact e3
                  · intro _ _
                    have := (List.getElem?_eq_some_iff.1 ht).1
                    left; simp; omega
        · have h1 : sameC a1 a2 b1 b2 = false := sameC_f.2 hab
          have HAB := Lib.hid hab
          clear hab
          go_wp2
          go_quiet (fail)
          go_wp2
          go_roundw
          case rel => exact ⟨k + 1, by go_num, by omega, by omega, by unfold Hid; rw [cpl_new HA.out (.inr (by rw [HA.out, HB.out]; intro e; apply HAB.out; simpa using e)), T1.out, hf.out], below_drewN hB _⟩
          case measure => simp [intOf]; omega
      · obtain rfl : k = L.length := by omega
        go_wp2
        go_ret
        exact ⟨some ⟨g, 0, none⟩, cap, by rw [hf.out, List.take_length]; rfl, by rw [hf.out, List.take_length]; exact slv_boxA hG1 (by simpa using HIn.out), hB.mono (by omega)⟩
end Go.Proofs.YtpnfgmgoafgcbaaGreat

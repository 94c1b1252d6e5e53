/-
  MovesFrom of the program (chapter 6): all moves that may be made.
-/
import Derived.Test.YtpnfgmgoafgcbaaGreatA9
import Derived.Test.YtpnfgmgoafgcbaaGreatA6
set_option linter.unusedVariables false
set_option linter.unusedSimpArgs false
set_option linter.unusedVariables false
namespace Go.Proofs.YtpnfgmgoafgcbaaGreat
open Go.RowKit Go.Shelf
attribute [local go_sem] Oper.semAt_some
/-- What MovesFrom answers. -/
def mfO (s : Sc) (p : Ps) : List Mv × Int := if frE s p ≠ 0 then ([], frE s p) else (mvs s p, 0)
/-- How MovesFrom ends. -/
def MfEnd (R : List Mv × Int) (w : World) (e : Ending) (w' : World) : Prop :=
  ∃ A c, e = .returned (.tuple #[.slice A R.1.length c, .int .i64 R.2]) ∧ SlV w' A (R.1.flatMap mvV) ∧ Below w.heap.size w w'
noncomputable def mRange : Code := (Tryz.f44.body.bind firstRange).getD .skip
theorem own_blk {W : World} {b k n sz : Nat} {e : TypeId} {v : Value} {xs : List Value} (h : W.ownsRow b e sz v n xs) (hk : v.ownBlock = some k) : b ≤ k ∧ ∃ cs, Box W k e cs := by
  rcases h.2 with ⟨e2, _⟩ | ⟨g, cap, cur, e2, hg, hh, _⟩
  · rw [e2] at hk; cases hk
  · rw [e2] at hk
    have e3 : g = k := by simpa [Value.ownBlock] using hk
    subst e3
    exact ⟨hg, cur, hh⟩
/-- The row of moves so far. -/
def MfI (Bo U : Nat) (out : List Mv) (W : World) : Prop := ∃ A c, Box W Bo 34 #[.slice A out.length c] ∧ W.ownsRow U 84 2 (.slice A out.length c) out.length (out.flatMap mvV)
theorem MfI.own {Bo U : Nat} {out : List Mv} {W W' : World} {row : Option Nat} (h : MfI Bo U out W) (hg : W.grownBy W' row) (hr : ∀ r, row = some r → ∃ o : Obj, W.heap[r]? = some o ∧ o.isCells = false) : MfI Bo U out W' := by
  obtain ⟨A, c, h1, h2⟩ := h
  exact ⟨A, c, box_row h1 hg hr, own_row h2 hg hr⟩
theorem MfI.below {Bo U : Nat} {out : List Mv} {W W' : World} (h : MfI Bo U out W) (hb : Below W.heap.size W W') : MfI Bo U out W' := by
  obtain ⟨A, c, h1, h2⟩ := h
  exact ⟨A, c, h1.below hb h1.lt, own_below h2 hb⟩
set_option maxHeartbeats 4000000 in
set_option maxRecDepth 100000 in
theorem mrange_c (gA Bo U : Nat) (bx bY sl fx fX fy fY ps : Int) (L : List Lk) (B : List Bx) (Q : List Int) (AL AB AQ : Option Addr) (cL cB cQ : Nat) (w0 W0 : World) (ds : List Deferred) (PQ : Exit → Act → World → Prop)
    (hS : SOk (⟨bx, bY, sl, L, (fx, fX, fy, fY), B⟩ : Sc)) (hp : POk (⟨bx, bY, sl, L, (fx, fX, fy, fY), B⟩ : Sc) (ps, Q)) (hU : U = W0.heap.size) (hs1 : SlV w0 AL (L.flatMap lkV)) (hs2 : SlV w0 AB (B.flatMap bxV)) (hs3 : SlI w0 AQ Q) (hb : Below w0.heap.size w0 W0) (hA : Box W0 gA 135 #[.int .i64 bx, .int .i64 bY, .int .i64 sl, .slice AL L.length cL, .int .i64 fx, .int .i64 fX, .int .i64 fy, .int .i64 fY, .slice AB B.length cB, .int .i64 ps, .slice AQ Q.length cQ]) (hI : MfI Bo U [] W0) (hBo : w0.heap.size ≤ Bo)
    (hQ : ∀ (D : Nat) (W' : World), U ≤ D → MfI Bo U (mvs (⟨bx, bY, sl, L, (fx, fX, fy, fY), B⟩ : Sc) (ps, Q)) W' → Below w0.heap.size w0 W' → W'.heap[D]? = some (.deferred (some [])) → ∀ (t0 t1 t2 t3 t4 t5 t6 t7 t9 t10 t11 t12 t13 t14 t15 t16 t17 t18 t19 t21 t22 t23 t24 t25 t26 t27 : Value), PQ .normal ⟨#[t0, t1, t2, t3, t4, t5, t6, t7, Value.pointer (some ⟨Bo, 0, none⟩), t9, t10, t11, t12, t13, t14, t15, t16, t17, t18, t19, Value.func (.func 157) #[] #[.pointer (some ⟨gA, 0, none⟩)], t21, t22, t23, t24, t25, t26, t27], mk D :: ds⟩ W')
    (t0 t1 t2 t3 t4 t5 t6 t7 t9 t10 t11 t12 t13 t14 t15 t16 t17 t18 t19 t21 t22 t23 t24 t25 t26 t27 : Value) : mRange.wpIn Fence.wide 6 Tryz.prog PQ ⟨#[t0, t1, t2, t3, t4, t5, t6, t7, Value.pointer (some ⟨Bo, 0, none⟩), t9, t10, t11, t12, t13, t14, t15, t16, t17, t18, t19, Value.func (.func 157) #[] #[.pointer (some ⟨gA, 0, none⟩)], t21, t22, t23, t24, t25, t26, t27], ds⟩ W0 := by
  subst hU
  have hsz0 := hb.size
  have lA := hA.lt
  have lBo : Bo < W0.heap.size := by obtain ⟨A, c, h1, _⟩ := hI; exact h1.lt
  have hlen : (mvs (⟨bx, bY, sl, L, (fx, fX, fy, fY), B⟩ : Sc) (ps, Q)).length ≤ 100000 := by
    have h1 : (mvs (⟨bx, bY, sl, L, (fx, fX, fy, fY), B⟩ : Sc) (ps, Q)).length ≤ (allM (⟨bx, bY, sl, L, (fx, fX, fy, fY), B⟩ : Sc)).length := List.length_filter_le _ _
    have h2 := allM_len (⟨bx, bY, sl, L, (fx, fX, fy, fY), B⟩ : Sc)
    have h3 := hS.len
    omega
  have hak : (allK (⟨bx, bY, sl, L, (fx, fX, fy, fY), B⟩ : Sc) (ps, Q)).map (·.1) = mvs (⟨bx, bY, sl, L, (fx, fX, fy, fY), B⟩ : Sc) (ps, Q) := by unfold allK; rw [List.map_map]; exact List.map_id _
  have hseq := moves1_seq 5 gA bx bY sl fx fX fy fY ps L B Q AL AB AQ cL cB cQ W0 (by omega) hS hp (hs1.below hb) (hs2.below hb) (hs3.below hb) hA
  generalize mvs (⟨bx, bY, sl, L, (fx, fX, fy, fY), B⟩ : Sc) (ps, Q) = M at *
  unfold mRange
  conv => arg 4; whnf
  refine wpIn_rangeFunc_G (gf := 157) (lb := #[.pointer (some ⟨gA, 0, none⟩)]) rfl (by omega) rfl trivial (enters_of Tryz.func157 (by kernel_rfl) rfl) hseq ?Sk ?Kt ?Kb (Below.refl _ _) (fun _ => rfl)
    (fun pre W => pre.map kyM <+: allK (⟨bx, bY, sl, L, (fx, fX, fy, fY), B⟩ : Sc) (ps, Q) ∧ MfI Bo W0.heap.size (pre.map (·.1)) W ∧ Box W gA 135 #[.int .i64 bx, .int .i64 bY, .int .i64 sl, .slice AL L.length cL, .int .i64 fx, .int .i64 fX, .int .i64 fy, .int .i64 fY, .slice AB B.length cB, .int .i64 ps, .slice AQ Q.length cQ] ∧ Below w0.heap.size w0 W ∧ W0.heap.size ≤ W.heap.size)
    (fun _ _ _ => False) ?I (fun _ _ _ _ _ h => h.elim) (fun _ _ _ h => h.elim) ⟨List.nil_prefix, hI, hA, hb, Nat.le_refl _⟩
    (fun pre x a' W => pre.map kyM ++ [kyM x] <+: allK (⟨bx, bY, sl, L, (fx, fX, fy, fY), B⟩ : Sc) (ps, Q) ∧ ∃ gm, W0.heap.size ≤ gm ∧ Box W gm 84 #[.int .i64 x.1.1, .int .i64 x.1.2] ∧ a' = ⟨#[t0, t1, t2, t3, t4, t5, t6, t7, Value.pointer (some ⟨Bo, 0, none⟩), Value.pointer (some ⟨gm, 0, none⟩), t10, t11, t12, t13, t14, t15, t16, t17, t18, t19, Value.func (.func 157) #[] #[.pointer (some ⟨gA, 0, none⟩)], Value.agg #[.int .i64 x.1.1, .int .i64 x.1.2], Value.agg #[.int .i64 bx, .int .i64 bY, .int .i64 sl, .slice AL L.length cL, .int .i64 fx, .int .i64 fX, .int .i64 fy, .int .i64 fY, .slice AB B.length cB, .int .i64 x.2.1.1, .slice (some ⟨x.2.2.1, 0, none⟩) x.2.1.2.length x.2.2.2], t23, t24, t25, t26, t27], []⟩) ?Ax ?assign ?body ?done (fun _ _ _ _ _ _ h => h.elim)
  case Sk => exact fun _ _ _ _ h => h.elim
  case Kt => exact fun h k => ⟨fun b => k.a (h.a b), fun b => k.s1 (h.s1 b), fun b => k.s2 (h.s2 b), fun b => k.s3 (h.s3 b)⟩
  case Kb =>
    intro W l o o' _ ho hc _
    have hg := grownBy_putObj' W l o'
    have hr : ∀ r, some l = some r → ∃ o : Obj, W.heap[r]? = some o ∧ o.isCells = false := fun r e => by cases e; exact ⟨o, ho, hc⟩
    exact ⟨fun b => box_row b hg hr, fun b => b.own hg hr, fun b => b.own hg hr, fun b => b.own hg hr⟩
  case I =>
    rintro pre A B' row ⟨h1, h2, h3, h4, h5⟩ hg hr
    have hr' : ∀ r, row = some r → ∃ o : Obj, A.heap[r]? = some o ∧ o.isCells = false := fun r e => (hr r e).2
    exact ⟨h1, h2.own hg hr', box_row h3 hg hr', h4.grown hg h4.size (fun r e => by have := (hr r e).1; omega), Nat.le_trans h5 hg.size⟩
  case Ax =>
    rintro pre x a' _ A B' row ⟨h1, gm, h5, h7, h9⟩ hg hr
    have hr' : ∀ r, row = some r → ∃ o : Obj, A.heap[r]? = some o ∧ o.isCells = false := fun r e => (hr r e).2
    exact ⟨h1, gm, h5, box_row h7 hg hr', h9⟩
  case assign =>
    rintro l1 pre x W K ⟨h1, h2, h3, h4, h5⟩ ⟨hpx, _, _, _⟩ hK
    gi_wp2
    have hb : Below W.heap.size W (W.alloc (.cells #[.int .i64 x.1.1, .int .i64 x.1.2] 84)) := by exact bB0
    exact hK _ _ (below_kf hb) ⟨fun b => b.below hb b.lt, fun b => b.below hb, fun b => b.below hb, fun b => b.below hb⟩ ⟨h1, h2.below hb, h3.below hb h3.lt, h4.trans (hb.mono (by omega)), by simp; omega⟩ ⟨hpx, W.heap.size, h5, by exact bX0, rfl⟩
  case body =>
    rintro l1 pre x a' W hlw ⟨h1, ⟨A, c, R1, R2⟩, hA1, hB1, hz1⟩ ⟨hpx, gm, hgm, hm, rfl⟩
    obtain ⟨⟨mj, mb⟩, ⟨P1, P2⟩, gQ, capQ⟩ := x
    dsimp only at hm
    have hol : (pre.map (·.1)).length + 1 ≤ 100000 := by
      have h := hpx.length_le
      have h2 := congrArg List.length hak
      simp at h h2
      simp
      omega
    have r0 := R1.cell 0
    have m0 := hm.cell 0; have m1 := hm.cell 1
    simp only [List.getElem?_toArray, List.getElem?_cons_zero, List.getElem?_cons_succ] at r0 m0 m1
    have lR := R1.lt; have lm := hm.lt
    obtain ⟨u0, zM, hu0, hy0, hy1, hy2, hy3⟩ := infoOk_parts infoM
    generalize hout : pre.map (·.1) = out at *
    have hm1 : out.length + 1 ≤ maxLen := by unfold maxLen; omega
    have hm2 : (out.length + 1) * 16 ≤ 140737488355328 := by omega
    gi_wp2_with (gi_at_builtin; go_loud (refine wpListIn_append_own_at _ rfl _ _ 34 rfl W0.heap.size 84 u0 _ 2 16 Tryz.underlying34 hu0 hy0 hy1 hy2 hy3 (by decide) _ _ _ rfl (R2.alloc _) ⟨W.heap.size, 0, none⟩ 1 1 [.int .i64 mj, .int .i64 mb] rfl rfl (cells_new W [.int .i64 mj, .int .i64 mb] _) (by simp [Value.oneCell']) hm1 hm2 (by simp; omega) ?_); go_loud (intro v' w8 hown8 hgrow8 hnil hblk); go_loud (obtain ⟨gN, capN, rfl, hgN, hgN2⟩ := own_pos hown8 (by omega) (by omega)); go_loud (have R8 := box_og (R1.alloc (.cells #[.int .i64 mj, .int .i64 mb] 84)) (R2.alloc _) (by decide) hgrow8; have A8 := box_og (hA1.alloc (.cells #[.int .i64 mj, .int .i64 mb] 84)) (R2.alloc _) (by decide) hgrow8; have r8 := R8.cell 0; have f8 := R8.froz 0; have l8 := R8.lt); (simp only [List.getElem?_toArray, List.getElem?_cons_zero, List.getElem?_cons_succ] at r8))
    obtain ⟨csN, hcN⟩ := own_some hown8
    have nNO : gN ≠ Bo := box_ne hcN R8 (by decide)
    have nAO : gA ≠ Bo := box_ne A8 R8 (by decide)
    have ho := own_far (p := ⟨Bo, 0, none⟩) (u := .slice (some ⟨gN, 0, none⟩) (out.length + 1) capN) hown8 nNO
    have hB8 : Below w0.heap.size w0 (w8.setCell ⟨Bo, 0, none⟩ (.slice (some ⟨gN, 0, none⟩) (out.length + 1) capN)) :=
      Below.setCell (p := ⟨Bo, 0, none⟩) ((hB1.alloc (by omega) _).grown hgrow8 (by simp; omega) (fun k e => by have := (own_blk R2 (show (Value.slice A out.length c).ownBlock = some k from e)).1; omega)) hBo _
    have kf : KeepsFrom W0.heap.size W (w8.setCell ⟨Bo, 0, none⟩ (.slice (some ⟨gN, 0, none⟩) (out.length + 1) capN)) := by
      refine ⟨by have := hgrow8.size; simp at this; simp; omega, fun k o _ hk hc => ?_⟩
      have hkl : k < W.heap.size := (Array.getElem?_eq_some_iff.1 hk).1
      have e1 : (W.alloc (.cells #[.int .i64 mj, .int .i64 mb] 84)).heap[k]? = some o := (Below.heap_alloc W _ k hkl).trans hk
      have e2 : w8.heap[k]? = some o := (hgrow8.block k (by simp; omega) (fun e => by
        obtain ⟨_, cs, hcs⟩ := own_blk R2 (show (Value.slice A out.length c).ownBlock = some k from by first | exact e | exact e.symm)
        rw [show W.heap[k]? = _ from hcs] at hk
        cases hk; cases hc)).trans e1
      exact (Below.heap_setCell w8 ⟨Bo, 0, none⟩ _ k (fun e => by
        have e : k = Bo := e
        subst e
        rw [show W.heap[k]? = _ from R1] at hk
        cases hk; cases hc)).trans e2
    have A9 : Box (w8.setCell ⟨Bo, 0, none⟩ (.slice (some ⟨gN, 0, none⟩) (out.length + 1) capN)) gA 135 #[.int .i64 bx, .int .i64 bY, .int .i64 sl, .slice AL L.length cL, .int .i64 fx, .int .i64 fX, .int .i64 fy, .int .i64 fY, .slice AB B.length cB, .int .i64 ps, .slice AQ Q.length cQ] := A8.far nAO _
    refine ⟨kf, ⟨fun _ => A9, fun _ => hs1.below hB8, fun _ => hs2.below hB8, fun _ => hs3.below hB8⟩, by rw [List.map_append]; exact hpx, ⟨some ⟨gN, 0, none⟩, capN, ?_, ?_⟩, A9, hB8, by have := kf.size; omega⟩
    · rw [List.map_append, hout, List.length_append]
      exact (R8.set 0 _).congr (by simp)
    · rw [List.map_append, hout, List.length_append]
      simpa [List.flatMap_append, mvV] using ho
  case done =>
    rintro D xs W' hD hxs ⟨_, h2, _, h4, _⟩ hDD
    have e : xs.map (·.1) = M := by rw [← hak, ← hxs, List.map_map]; rfl
    rw [e] at h2
    exact hQ D W' (by omega) h2 h4 hDD _ _ _ _ _ _ _ _ _ _ _ _ _ _ _ _ _ _ _ _ _ _ _ _ _ _
set_option maxHeartbeats 4000000 in
set_option maxRecDepth 100000 in
theorem movesFrom_c (bx bY sl fx fX fy fY ps : Int) (L : List Lk) (B : List Bx) (Q : List Int) (AL AB AQ : Option Addr) (cL cB cQ : Nat) (w : World) (hL : L.length ≤ 1000) (hB : B.length ≤ 9223372036854775807) (hQ : Q.length ≤ 9223372036854775807)
    (hs1 : SlV w AL (L.flatMap lkV)) (hs2 : SlV w AB (B.flatMap bxV)) (hs3 : SlI w AQ Q) :
    Calls Tryz.prog 44 #[.agg #[.int .i64 bx, .int .i64 bY, .int .i64 sl, .slice AL L.length cL, .int .i64 fx, .int .i64 fX, .int .i64 fy, .int .i64 fY, .slice AB B.length cB], .agg #[.int .i64 ps, .slice AQ Q.length cQ]] w (MfEnd (mfO (⟨bx, bY, sl, L, (fx, fX, fy, fY), B⟩ : Sc) (ps, Q)) w) := by
  have FRc := Lib.hid (fun W (h : Below w.heap.size w W) => free_c bx bY sl fx fX fy fY ps L B Q AL AB AQ cL cB cQ W hL hB hQ (hs1.below h) (hs2.below h) (hs3.below h))
  by_cases h0 : frE (⟨bx, bY, sl, L, (fx, fX, fy, fY), B⟩ : Sc) (ps, Q) = 0
  · have hR : mfO (⟨bx, bY, sl, L, (fx, fX, fy, fY), B⟩ : Sc) (ps, Q) = (mvs (⟨bx, bY, sl, L, (fx, fX, fy, fY), B⟩ : Sc) (ps, Q), 0) := by unfold mfO; rw [if_neg (by simp [h0])]
    rw [hR]
    obtain ⟨hS, hp, _⟩ := frE_ok h0
    rw [h0] at FRc
    refine callsIn_wide.1 (callsIn_of_wp_marks (n := 6) Tryz.func44 rfl trivial ?_ rfl)
    simp only [Tryz.ntmps44, List.size_toArray, List.length_cons, List.length_nil, Nat.reduceAdd, Nat.reduceSub, Array.replicate_succ, Array.replicate_zero, List.push_toArray, List.append_toArray, List.nil_append, List.cons_append]
    gi_wp2_with (first | (refine ⟨trivial, ?_⟩; gi_at_call 82; refine (callsIn_wide.2 (FRc.out _ (by exact bB0))).mono ?_; rintro e w2 ⟨rfl, hb2⟩; have hz2 : w.heap.size + 1 < w2.heap.size := (by have := hb2.size; (try simp at this); omega)) | (refine ⟨trivial, ?_⟩; gi_at_call 116; refine (moves_in Fence.wide _ trivial rfl _ _ rfl).mono ?_; rintro e w3 ⟨rfl, rfl⟩) | fail)
    obtain ⟨W0, hW0⟩ : ∃ W0 : World, W0 = ((w2.alloc (.cells #[.int .i64 bx, .int .i64 bY, .int .i64 sl, .slice AL L.length cL, .int .i64 fx, .int .i64 fX, .int .i64 fy, .int .i64 fY, .slice AB B.length cB, .int .i64 ps, .slice AQ Q.length cQ] 135)).alloc (.cells #[.slice none 0 0] 34)).alloc (.cells #[.int .i64 bx, .int .i64 bY, .int .i64 sl, .slice AL L.length cL, .int .i64 fx, .int .i64 fX, .int .i64 fy, .int .i64 fY, .slice AB B.length cB, .int .i64 ps, .slice AQ Q.length cQ] 135) := ⟨_, rfl⟩
    have hA : Box W0 (w2.heap.size + 1 + 1) 135 #[.int .i64 bx, .int .i64 bY, .int .i64 sl, .slice AL L.length cL, .int .i64 fx, .int .i64 fX, .int .i64 fy, .int .i64 fY, .slice AB B.length cB, .int .i64 ps, .slice AQ Q.length cQ] := by rw [hW0]; exact bX0
    have hO : Box W0 (w2.heap.size + 1) 34 #[.slice none 0 0] := by rw [hW0]; exact bX0
    have hB0 : Below w.heap.size w W0 := by rw [hW0]; exact bB1 hb2
    rw [← hW0]
    clear hW0
    refine mrange_c (w2.heap.size + 1 + 1) (w2.heap.size + 1) W0.heap.size bx bY sl fx fX fy fY ps L B Q AL AB AQ cL cB cQ w W0 [] _ hS hp rfl hs1 hs2 hs3 hB0 hA ⟨none, 0, hO, by simp, .inl ⟨rfl, rfl⟩⟩ (by have := hb2.size; (try simp at this); omega) ?q1 _ _ _ _ _ _ _ _ _ _ _ _ _ _ _ _ _ _ _ _ _ _ _ _ _ _
    case q1 =>
      intro D W' hD ⟨A, c, R1, R2⟩ hB' hDD t0 t1 t2 t3 t4 t5 t6 t7 t9 t10 t11 t12 t13 t14 t15 t16 t17 t18 t19 t21 t22 t23 t24 t25 t26 t27
      have r0 := R1.cell 0
      simp at r0
      have lR := R1.lt
      gi_wp2
      refine leaves_marks (B := W0.heap.size) (G := fun W'' => W''.ownsRow W0.heap.size 84 2 (.slice A (mvs (⟨bx, bY, sl, L, (fx, fX, fy, fY), B⟩ : Sc) (ps, Q)).length c) (mvs (⟨bx, bY, sl, L, (fx, fX, fy, fY), B⟩ : Sc) (ps, Q)).length ((mvs (⟨bx, bY, sl, L, (fx, fX, fy, fY), B⟩ : Sc) (ps, Q)).flatMap mvV) ∧ Below w.heap.size w W'') ?gKeep [D] _ ⟨by simp, fun E hE => ?_⟩ ⟨R2, hB'⟩ (fun V h => ⟨_, results_tmp2 rfl _ _ _, A, c, rfl, slv_own (by decide) h.1, h.2⟩)
      · rintro V E hE hd ⟨g1, g2⟩
        have hg := grownBy_putObj' V E (.deferred none)
        have hr : ∀ r, some E = some r → ∃ o : Obj, V.heap[r]? = some o ∧ o.isCells = false := fun r e => by cases e; exact ⟨_, hd, rfl⟩
        exact ⟨own_row g1 hg hr, below_putObj g2 (by have := hB0.size; omega) _⟩
      · have : E = D := by simpa using hE
        subst this
        exact ⟨hD, hDD⟩
  · have hR : mfO (⟨bx, bY, sl, L, (fx, fX, fy, fY), B⟩ : Sc) (ps, Q) = ([], frE (⟨bx, bY, sl, L, (fx, fX, fy, fY), B⟩ : Sc) (ps, Q)) := by unfold mfO; rw [if_pos h0]
    rw [hR]
    have e1 := bneT h0
    generalize frE (⟨bx, bY, sl, L, (fx, fX, fy, fY), B⟩ : Sc) (ps, Q) = c0 at *
    clear hs1 hs2 hs3 hR h0
    refine callsIn_wide.1 (callsIn_of_wp_marks (n := 6) Tryz.func44 rfl trivial ?_ rfl)
    refine wpIn_wide.2 ?_
    simp only [Tryz.ntmps44, List.size_toArray, List.length_cons, List.length_nil, Nat.reduceAdd, Nat.reduceSub, Array.replicate_succ, Array.replicate_zero, List.push_toArray, List.append_toArray, List.nil_append, List.cons_append]
    go_wp2_with (first | (go_at_call 82; (with_reducible refine (FRc.out _ (by exact bB0)).mono ?_); rintro e w2 ⟨rfl, hb2⟩; have hz2 : w.heap.size + 1 < w2.heap.size := (by have := hb2.size; (try simp at this); omega)) | fail)
    refine leaves_marks (B := w.heap.size) (G := fun W'' => Below w.heap.size w W'') (fun V E hE hd h => below_putObj h hE _) [] _ (MarksOk.nil _ _) (show Below w.heap.size w _ from by exact bB1 hb2) (fun V h => ⟨_, results_tmp2 rfl _ _ _, none, 0, rfl, (fun j u h => by simp at h), h⟩)
end Go.Proofs.YtpnfgmgoafgcbaaGreat

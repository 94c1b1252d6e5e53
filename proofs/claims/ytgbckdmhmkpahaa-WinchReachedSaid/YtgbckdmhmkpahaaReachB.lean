/-
  The reached states of a loop (chapter 2): the loop over the heaves that may follow one state, in the walk of 'reached'.
-/
import Derived.Test.YtgbckdmhmkpahaaReachP
set_option linter.unusedVariables false
namespace Go.Proofs.Ytgbckdmhmkpahaa
open Go.RowKit Go.Shelf
attribute [local go_sem] Oper.semAt_some
attribute [local go_sem] run_eqlNil run_neqNil

def firstRangeC : Code → Option Code
  | .rangeFunc a b c d => some (.rangeFunc a b c d)
  | .loop c => firstRangeC c
  | .seq a b => match firstRangeC a with
    | some c => some c
    | none => firstRangeC b
  | .block _ c => firstRangeC c
  | .scope c => firstRangeC c
  | .cond _ a b => match firstRangeC a with
    | some c => some c
    | none => firstRangeC b
  | _ => none
noncomputable def rRange : Code := (Try.f80.body.bind firstRangeC).getD .skip

theorem own_row {W W' : World} {b : Nat} {e : TypeId} {sz : Nat} {v : Value} {n : Nat} {xs : List Value} {row : Option Nat} (h : W.ownsRow b e sz v n xs) (hg : W.grownBy W' row)
    (hr : ∀ r, row = some r → ∃ o : Obj, W.heap[r]? = some o ∧ o.isCells = false) : W'.ownsRow b e sz v n xs := by
  refine own_same h fun g hg' => ?_
  rcases h.2 with ⟨rfl, _⟩ | ⟨k, cap, cur, rfl, _, hh, _⟩
  · simp [Value.ownBlock] at hg'
  · simp only [Value.ownBlock, Option.some.injEq] at hg'
    subst hg'
    refine hg.block _ (Array.getElem?_eq_some_iff.1 hh).1 fun e => ?_
    obtain ⟨o, ho, hc⟩ := hr _ e.symm
    rw [hh] at ho; cases ho; cases hc
theorem box_row {W W' : World} {g : Nat} {t : TypeId} {cs : Array Value} {row : Option Nat} (h : Box W g t cs) (hg : W.grownBy W' row)
    (hr : ∀ r, row = some r → ∃ o : Obj, W.heap[r]? = some o ∧ o.isCells = false) : Box W' g t cs :=
  (hg.block g h.lt fun e => by
    obtain ⟨o, ho, hc⟩ := hr _ e.symm
    rw [show W.heap[g]? = _ from h] at ho; cases ho; cases hc).trans h
theorem RI.own {T : List Int} {A : Option Addr} {c : Nat} {lo hi turn slew : Int} {n0 Bi : Nat} {w0 : World} {i : Nat} {st : Found} {W W' : World} {B : Nat} {row : Option Nat} (h : RI T A c lo hi turn slew n0 Bi w0 i st W) (hg : W.grownBy W' row)
    (hr : ∀ r, row = some r → B ≤ r ∧ ∃ o : Obj, W.heap[r]? = some o ∧ o.isCells = false) (hB : n0 + 6 ≤ B) : RI T A c lo hi turn slew n0 Bi w0 i st W' := by
  have hr' : ∀ r, row = some r → ∃ o : Obj, W.heap[r]? = some o ∧ o.isCells = false := fun r e => (hr r e).2
  obtain ⟨b0, ⟨vA, bA, oA⟩, bM, mM, ⟨vS, bS, oS⟩, bI, hBi, hBl⟩ := h
  have l0 := b0.lt
  refine ⟨box_row b0 hg hr', ⟨vA, box_row bA hg hr', own_row oA hg hr'⟩, box_row bM hg hr', ?_, ⟨vS, box_row bS hg hr', ?_⟩, box_row bI hg hr', hBi, hBl.grown hg (by omega) (fun k e => by have := (hr k e).1; omega)⟩
  · refine mM.same (hg.block _ ?_ fun e => ?_)
    · obtain ⟨_, _, e, _⟩ := mM; exact (Array.getElem?_eq_some_iff.1 e).1
    · have := (hr _ e.symm).1; omega
  · cases ho : st.2 with
    | none => rw [ho] at oS; exact oS
    | some L =>
      rw [ho] at oS
      obtain ⟨g, cap, rfl, hg', o⟩ := oS
      exact ⟨g, cap, rfl, hg', own_row o hg hr'⟩

theorem RStep.row {n0 B : Nat} {X Y Z : World} {row : Option Nat} (h : RStep n0 X Y) (hg : Y.grownBy Z row) (hB : X.heap.size ≤ B) (hr : ∀ r, row = some r → B ≤ r) : RStep n0 X Z :=
  ⟨Nat.le_trans h.1 hg.size, fun k hk h2 h3 h5 hn => (hg.block k (Nat.lt_of_lt_of_le hk h.1) (fun e => by have := hr _ e.symm; omega)).trans (h.2 k hk h2 h3 h5 hn)⟩

set_option maxHeartbeats 4000000 in
set_option maxRecDepth 100000 in
theorem inner_c (T : List Int) (A : Option Addr) (c : Nat) (lo hi turn slew : Int) (n0 Bi i gB : Nat) (w0 W : World) (st : Found) (s : Seen) (ds : List Deferred) (Q : Exit → Act → World → Prop)
    (t0 t2 t3 t8 t9 t10 t11 t12 t13 t14 t15 t16 t17 t18 t19 t20 t21 t22 t23 t24 t25 t26 t27 t29 t30 t31 t32 t33 t34 t35 t36 t37 t38 t39 t40 t41 t42 t43 t44 t45 t46 t47 t48 t49 t50 t51 t52 t53 t54 t55 t56 t57 t58 t59 t60 t61 t62 t63 t64 t65 t66 t67 t68 t69 t70 t71 t72 t73 : Value)
    (hT : T.length ≤ 11) (hodd : T.length % 2 = 1) (hs : SlI w0 A T) (hx : ∀ y ∈ T, -10 ≤ y ∧ y ≤ 10) (h1 : 0 ≤ slew ∧ slew ≤ 20) (h2 : -4 ≤ lo ∧ lo ≤ 0) (h3 : 0 ≤ hi ∧ hi ≤ 4) (h4 : 0 ≤ turn ∧ turn ≤ 8)
    (hn0 : w0.heap.size = n0) (hI : RI T A c lo hi turn slew n0 Bi w0 i st W) (hF : OkF T lo hi st) (hsi : st.1[i]? = some s)
    (hb1 : Box W gB 139 #[.slice A T.length c, .int .i64 lo, .int .i64 hi, .int .i64 turn, .int .i64 slew]) (hb2 : Box W (gB + 1) 42 #[.int .i64 s.1.1, .int .i64 s.1.2.1, .int .i64 s.1.2.2]) (hgB : n0 + 6 ≤ gB)
    (hQ : ∀ D W', W.heap.size ≤ D → RStep n0 W W' → RI T A c lo hi turn slew n0 Bi w0 i (roundH T lo hi turn slew i st) W' → W'.heap[D]? = some (.deferred (some [])) → Q .normal ⟨#[t0, Value.pointer (some ⟨n0, 0, none⟩), t2, t3, Value.pointer (some ⟨n0 + 2, 0, none⟩), Value.pointer (some ⟨n0 + 4, 0, none⟩), Value.pointer (some ⟨n0 + 5, 0, none⟩), Value.pointer (some ⟨Bi, 0, none⟩), t8, t9, t10, t11, t12, t13, t14, t15, t16, t17, t18, t19, t20, t21, t22, t23, t24, t25, t26, t27, Value.func (.func 147) #[] #[.pointer (some ⟨gB, 0, none⟩), .pointer (some ⟨gB + 1, 0, none⟩)], t29, t30, t31, t32, t33, t34, t35, t36, t37, t38, t39, t40, t41, t42, t43, t44, t45, t46, t47, t48, t49, t50, t51, t52, t53, t54, t55, t56, t57, t58, t59, t60, t61, t62, t63, t64, t65, t66, t67, t68, t69, t70, t71, t72, t73], { target := .collected D, args := #[] } :: ds⟩ W') :
    rRange.wpIn Fence.wide 6 Try.prog Q ⟨#[t0, Value.pointer (some ⟨n0, 0, none⟩), t2, t3, Value.pointer (some ⟨n0 + 2, 0, none⟩), Value.pointer (some ⟨n0 + 4, 0, none⟩), Value.pointer (some ⟨n0 + 5, 0, none⟩), Value.pointer (some ⟨Bi, 0, none⟩), t8, t9, t10, t11, t12, t13, t14, t15, t16, t17, t18, t19, t20, t21, t22, t23, t24, t25, t26, t27, Value.func (.func 147) #[] #[.pointer (some ⟨gB, 0, none⟩), .pointer (some ⟨gB + 1, 0, none⟩)], t29, t30, t31, t32, t33, t34, t35, t36, t37, t38, t39, t40, t41, t42, t43, t44, t45, t46, t47, t48, t49, t50, t51, t52, t53, t54, t55, t56, t57, t58, t59, t60, t61, t62, t63, t64, t65, t66, t67, t68, t69, t70, t71, t72, t73], ds⟩ W := by
  have hlt : i < st.1.length := (List.getElem?_eq_some_iff.1 hsi).1
  have hbx := hF.box s (List.mem_of_getElem? hsi)
  have lB := hb1.lt
  have hfold : ∀ l : List Int, (∀ x ∈ l, lo ≤ x ∧ x ≤ hi) → OkF T lo hi (l.foldl (stepH T slew i) st) ∧ (l.foldl (stepH T slew i) st).1[i]? = some s := fun l hl => by
    obtain ⟨a, b, d⟩ := OkF.fold (slew := slew) (i := i) hx h1.1 hodd l st hF hlt hl
    exact ⟨a, (d i hlt).trans hsi⟩
  have hvs_in : ∀ l : List (HvR (hvA lo turn s.1.2.2) (hvB hi turn s.1.2.2)), ∀ x ∈ hvs l, lo ≤ x ∧ x ≤ hi := fun l => by
    induction l with
    | nil => intro x hx; cases hx
    | cons y l ih =>
      intro x hx
      simp only [hvs, List.mem_cons] at hx
      rcases hx with rfl | hx
      · have := y.2
        unfold hvA hvB at this
        omega
      · exact ih x hx
  unfold rRange
  conv => arg 4; whnf
  refine wpIn_rangeFunc_ownG (α := HvR (hvA lo turn s.1.2.2) (hvB hi turn s.1.2.2)) (gf := 147) (lb := #[.pointer (some ⟨gB, 0, none⟩), .pointer (some ⟨gB + 1, 0, none⟩)]) (encs := fun x => #[.int .i64 x.1])
    (Kp := keepBox gB #[.slice A T.length c, .int .i64 lo, .int .i64 hi, .int .i64 turn, .int .i64 slew] #[.int .i64 s.1.1, .int .i64 s.1.2.1, .int .i64 s.1.2.2] 139 42) (S := fun xs => hvs xs = hvL (hvA lo turn s.1.2.2) (hvB hi turn s.1.2.2 - hvA lo turn s.1.2.2 + 1).toNat) (Sp := fun pre => pre.length ≤ (hvB hi turn s.1.2.2 - hvA lo turn s.1.2.2 + 1).toNat)
    (N := (hvB hi turn s.1.2.2 - hvA lo turn s.1.2.2 + 1).toNat) (w0 := W)
    rfl (by decide) rfl trivial (fun _ _ => rfl) ?seq ?kt ?kb (Below.refl _ _) (fun _ => rfl)
    (fun pre X => RI T A c lo hi turn slew n0 Bi w0 i ((hvs pre).foldl (stepH T slew i) st) X ∧ RStep n0 W X) (fun _ _ _ => False) ?own (fun _ _ _ _ _ h => h.elim) ⟨hI, RStep.of_below (Below.refl _ _)⟩ (fun x => ⟨#[t0, Value.pointer (some ⟨n0, 0, none⟩), t2, t3, Value.pointer (some ⟨n0 + 2, 0, none⟩), Value.pointer (some ⟨n0 + 4, 0, none⟩), Value.pointer (some ⟨n0 + 5, 0, none⟩), Value.pointer (some ⟨Bi, 0, none⟩), Value.int .i64 x.1, t9, t10, t11, t12, t13, t14, t15, t16, t17, t18, t19, t20, t21, t22, t23, t24, t25, t26, t27, Value.func (.func 147) #[] #[.pointer (some ⟨gB, 0, none⟩), .pointer (some ⟨gB + 1, 0, none⟩)], Value.int .i64 x.1, t30, t31, t32, t33, t34, t35, t36, t37, t38, t39, t40, t41, t42, t43, t44, t45, t46, t47, t48, t49, t50, t51, t52, t53, t54, t55, t56, t57, t58, t59, t60, t61, t62, t63, t64, t65, t66, t67, t68, t69, t70, t71, t72, t73], []⟩) ?assign ?body ?done (fun _ _ _ _ _ _ h => h.elim)
  case seq =>
    intro l J Jx W1 hB _ _ hY hJ
    exact heaves1_in Fence.wide (6 - 1) trivial rfl (by decide) l gB A T.length c lo hi turn slew s.1.1 s.1.2.1 s.1.2.2 _ _ rfl rfl (by omega) (by omega) (by omega) (by omega) J Jx hY W1 (hb1.below hB hb1.lt) (hb2.below hB hb2.lt) hJ
  case kt => exact fun h k => ⟨fun b => k.1 (h.1 b), fun b => k.2 (h.2 b)⟩
  case kb =>
    intro X l o o' _ ho hc _
    have hne : ∀ {g : Nat} {t : TypeId} {cs : Array Value}, Box X g t cs → g ≠ l := fun b e => by
      subst e
      rw [show X.heap[_]? = _ from b] at ho; cases ho; cases hc
    exact ⟨fun b => b.put (hne b) o', fun b => b.put (hne b) o'⟩
  case own =>
    rintro pre X X' row ⟨hRI, hRS⟩ hg hr
    exact ⟨hRI.own hg hr (by omega), hRS.row hg (Nat.le_refl _) (fun r e => (hr r e).1)⟩
  case assign =>
    intro l x X K hK
    gi_wp2_with fail
    exact hK
  case body =>
    rintro l pre x X ⟨hRI, hRS⟩ hpre
    obtain ⟨hF', hs'⟩ := hfold (hvs pre) (hvs_in pre)
    have hlen := hF'.length hT h2.1 h3.2
    have hxx := x.2
    unfold hvA hvB at hxx
    refine round_c T A c lo hi turn slew n0 Bi i l _ w0 X _ x.1 s _ t0 t2 t3 t9 t10 t11 t12 t13 t14 t15 t16 t17 t18 t19 t20 t21 t22 t23 t24 t25 t26 t27 (Value.func (.func 147) #[] #[.pointer (some ⟨gB, 0, none⟩), .pointer (some ⟨gB + 1, 0, none⟩)]) (Value.int .i64 x.1) t30 t31 t32 t33 t34 t35 t36 t37 t38 t39 t40 t41 t42 t43 t44 t45 t46 t47 t48 t49 t50 t51 t52 t53 t54 t55 t56 t57 t58 t59 t60 t61 t62 t63 t64 t65 t66 t67 t68 t69 t70 t71 t72 t73 (by omega) hs (fun y hy => by have := hx y hy; omega) (by omega) (by omega) hn0 hRI hs' (by omega) hbx.1 hbx.2.1 hF'.ear (by omega) ?_
    intro a' W' hR hR2
    refine ⟨⟨hR.1, fun k o hB hk ho => (hR.2 k (Array.getElem?_eq_some_iff.1 hk).1 (by omega) (by omega) (by omega) (fun cs f e => by rw [hk] at e; cases e; cases ho)).trans hk⟩, ⟨fun b => ?_, fun b => ?_⟩, ?_⟩
    · exact (hR.2 gB b.lt (by omega) (by omega) (by omega) (fun cs f e => by rw [show X.heap[_]? = _ from b] at e; cases e)).trans b
    · exact (hR.2 (gB + 1) b.lt (by omega) (by omega) (by omega) (fun cs f e => by rw [show X.heap[_]? = _ from b] at e; cases e)).trans b
    · have e : (hvs (pre ++ [x])).foldl (stepH T slew i) st = stepH T slew i ((hvs pre).foldl (stepH T slew i) st) x.1 := by rw [hvs_snoc, List.foldl_append]; rfl
      refine ⟨?_, hRS.trans hR⟩
      rw [e]
      exact hR2
  case done =>
    rintro D xs W' hD hS ⟨hRI, hRS⟩ hDD
    refine hQ D W' hD hRS ?_ hDD
    have : roundH T lo hi turn slew i st = (hvs xs).foldl (stepH T slew i) st := by rw [hS]; simp only [roundH, hsi]
    rw [this]
    exact hRI

end Go.Proofs.Ytgbckdmhmkpahaa

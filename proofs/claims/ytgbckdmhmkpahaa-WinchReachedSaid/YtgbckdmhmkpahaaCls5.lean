/-
  Closed sets of states (chapter 2): the loop over the heaves that may follow one state, in the walk of CheckClosed.
-/
import Derived.Test.YtgbckdmhmkpahaaCls4
set_option linter.unusedVariables false
namespace Go.Proofs.Ytgbckdmhmkpahaa
open Go.RowKit Go.Shelf
attribute [local go_sem] Oper.semAt_some

noncomputable def cRange : Code := (Try.f65.body.bind firstRangeC).getD .skip

def eAcc (T : List Int) (slew : Int) (xs : List St3) (s : St3) (hs : List Int) : Int := if hs.any (fun h => !decide (goS T slew s h ∈ xs)) then 21 else 0
theorem eAcc_snoc (T : List Int) (slew : Int) (xs : List St3) (s : St3) (hs : List Int) (h : Int) : fstE [eAcc T slew xs s hs, unl (decide (goS T slew s h ∈ xs)) 21] = eAcc T slew xs s (hs ++ [h]) := by
  rw [fst2]
  unfold eAcc
  rw [List.any_append]
  cases hs.any (fun h => !decide (goS T slew s h ∈ xs)) <;> cases hd : decide (goS T slew s h ∈ xs) <;> simp [unl, hd]
theorem Steps1.row {bad : Nat → Prop} {W W' W'' : World} {row : Option Nat} (h : Steps1 bad W W') (hg : W'.grownBy W'' row) (hr : ∀ r, row = some r → W.heap.size ≤ r) : Steps1 bad W W'' :=
  ⟨Nat.le_trans h.1 hg.size, fun k hk hn => (hg.block k (Nat.lt_of_lt_of_le hk h.1) (fun e => by have := hr _ e.symm; omega)).trans (h.2 k hk hn)⟩
theorem CI.row {T : List Int} {A : Option Addr} {c : Nat} {lo hi turn slew : Int} {L : Nat} {B : Option Addr} {d : Nat} {n0 Bx Bh : Nat} {w0 W W' : World} {row : Option Nat} (h : CI T A c lo hi turn slew L B d n0 Bx Bh w0 W) (hg : W.grownBy W' row)
    (hr : ∀ r, row = some r → n0 ≤ r ∧ ∃ o : Obj, W.heap[r]? = some o ∧ o.isCells = false) : CI T A c lo hi turn slew L B d n0 Bx Bh w0 W' := by
  have hr' : ∀ r, row = some r → ∃ o : Obj, W.heap[r]? = some o ∧ o.isCells = false := fun r e => (hr r e).2
  exact ⟨box_row h.b1 hg hr', box_row h.b2 hg hr', box_row h.b3 hg hr', box_row h.bx hg hr', box_row h.bh hg hr', h.hx, h.hh, h.bl.grown hg (by have := h.b1.lt; omega) (fun k e => (hr k e).1)⟩

set_option maxHeartbeats 4000000 in
set_option maxRecDepth 100000 in
theorem cinner_c (T : List Int) (A : Option Addr) (c : Nat) (lo hi turn slew : Int) (xs : List St3) (B : Option Addr) (d : Nat) (n0 Bx Bh Bi Bs Be gB : Nat) (w0 W : World) (i : Int) (s : St3) (ds : List Deferred) (Q : Exit → Act → World → Prop)
    (t0 t1 t2 t7 t8 t9 t10 t15 t16 t17 t18 t19 t20 t21 t22 t23 t24 t25 t26 t27 t28 t29 t30 t31 t32 t33 t34 t35 t36 t37 t38 t39 t40 t41 t42 t43 t44 t45 t46 t47 t48 t49 t50 t51 t52 t53 t54 t55 t56 t57 t58 t59 t60 t61 t62 t63 t64 t65 t66 t67 t68 t69 t70 t72 t73 t74 t75 t76 t77 t78 t79 t80 t81 t82 t83 t84 t85 t86 t87 t88 t89 t90 t91 t92 t93 t94 : Value)
    (hT : T.length ≤ 1000) (hs : SlI w0 A T) (hv : SlV w0 B (xs.flatMap st3V)) (hn : xs.length ≤ 100000) (hp : xs.Pairwise fun a b => ltS a b = true)
    (hx : ∀ y ∈ T, -10 ≤ y ∧ y ≤ 10) (h1 : 0 ≤ slew ∧ slew ≤ 20) (h2 : -4 ≤ lo ∧ lo ≤ 0) (h3 : 0 ≤ hi ∧ hi ≤ 4) (h4 : 0 ≤ turn ∧ turn ≤ 8) (hodd : T.length % 2 = 1) (hst : StV T lo hi s)
    (hn0 : w0.heap.size = n0) (hI : CI T A c lo hi turn slew xs.length B d n0 Bx Bh w0 W)
    (bi : Box W Bi 3 #[.int .i64 i]) (bs : Box W Bs 42 #[.int .i64 s.1, .int .i64 s.2.1, .int .i64 s.2.2]) (be : Box W Be 33 #[.int .i64 0]) (hBi : n0 + 3 < Bi) (hBs : n0 + 3 < Bs) (hBe : n0 + 3 < Be) (hne : Be ≠ Bx ∧ Be ≠ Bh ∧ Be ≠ Bi ∧ Be ≠ Bs ∧ Be ≠ gB ∧ Be ≠ gB + 1)
    (hb1 : Box W gB 139 #[.slice A T.length c, .int .i64 lo, .int .i64 hi, .int .i64 turn, .int .i64 slew]) (hb2 : Box W (gB + 1) 42 #[.int .i64 s.1, .int .i64 s.2.1, .int .i64 s.2.2]) (hgB : n0 + 3 < gB)
    (hQ1 : ∀ D W', W.heap.size ≤ D → Steps1 (fun k => k = Be) W W' → CI T A c lo hi turn slew xs.length B d n0 Bx Bh w0 W' → Box W' Bi 3 #[.int .i64 i] → Box W' Be 33 #[.int .i64 (stepsE T lo hi turn slew xs s)] → stepsE T lo hi turn slew xs s ≠ 22 → W'.heap[D]? = some (.deferred (some [])) → Q .normal ⟨#[t0, t1, t2, Value.pointer (some ⟨n0 + 1, 0, none⟩), Value.pointer (some ⟨n0 + 2, 0, none⟩), Value.pointer (some ⟨n0 + 3, 0, none⟩), Value.pointer (some ⟨Bx, 0, none⟩), t7, t8, t9, t10, Value.pointer (some ⟨Bh, 0, none⟩), Value.pointer (some ⟨Bi, 0, none⟩), Value.pointer (some ⟨Bs, 0, none⟩), Value.pointer (some ⟨Be, 0, none⟩), t15, t16, t17, t18, t19, t20, t21, t22, t23, t24, t25, t26, t27, t28, t29, t30, t31, t32, t33, t34, t35, t36, t37, t38, t39, t40, t41, t42, t43, t44, t45, t46, t47, t48, t49, t50, t51, t52, t53, t54, t55, t56, t57, t58, t59, t60, t61, t62, t63, t64, t65, t66, t67, t68, t69, t70, Value.func (.func 147) #[] #[.pointer (some ⟨gB, 0, none⟩), .pointer (some ⟨gB + 1, 0, none⟩)], t72, t73, t74, t75, t76, t77, t78, t79, t80, t81, t82, t83, t84, t85, t86, t87, t88, t89, t90, t91, t92, t93, t94], { target := .collected D, args := #[] } :: ds⟩ W')
    (hQ2 : ∀ D W', W.heap.size ≤ D → Steps1 (fun k => k = n0 + 2 ∨ k = n0 + 3 ∨ k = Be) W W' → Below n0 w0 W' → Box W' (n0 + 2) 3 #[.int .i64 i] → Box W' (n0 + 3) 33 #[.int .i64 22] → stepsE T lo hi turn slew xs s = 22 → W'.heap[D]? = some (.deferred (some [])) → Q .ret ⟨#[t0, t1, t2, Value.pointer (some ⟨n0 + 1, 0, none⟩), Value.pointer (some ⟨n0 + 2, 0, none⟩), Value.pointer (some ⟨n0 + 3, 0, none⟩), Value.pointer (some ⟨Bx, 0, none⟩), t7, t8, t9, t10, Value.pointer (some ⟨Bh, 0, none⟩), Value.pointer (some ⟨Bi, 0, none⟩), Value.pointer (some ⟨Bs, 0, none⟩), Value.pointer (some ⟨Be, 0, none⟩), t15, t16, t17, t18, t19, t20, t21, t22, t23, t24, t25, t26, t27, t28, t29, t30, t31, t32, t33, t34, t35, t36, t37, t38, t39, t40, t41, t42, t43, t44, t45, t46, t47, t48, t49, t50, t51, t52, t53, t54, t55, t56, t57, t58, t59, t60, t61, t62, t63, t64, t65, t66, t67, t68, t69, t70, Value.func (.func 147) #[] #[.pointer (some ⟨gB, 0, none⟩), .pointer (some ⟨gB + 1, 0, none⟩)], t72, t73, t74, t75, t76, t77, t78, t79, t80, t81, t82, t83, t84, t85, t86, t87, t88, t89, t90, t91, t92, t93, t94], { target := .collected D, args := #[] } :: ds⟩ W') :
    cRange.wpIn Fence.wide 6 Try.prog Q ⟨#[t0, t1, t2, Value.pointer (some ⟨n0 + 1, 0, none⟩), Value.pointer (some ⟨n0 + 2, 0, none⟩), Value.pointer (some ⟨n0 + 3, 0, none⟩), Value.pointer (some ⟨Bx, 0, none⟩), t7, t8, t9, t10, Value.pointer (some ⟨Bh, 0, none⟩), Value.pointer (some ⟨Bi, 0, none⟩), Value.pointer (some ⟨Bs, 0, none⟩), Value.pointer (some ⟨Be, 0, none⟩), t15, t16, t17, t18, t19, t20, t21, t22, t23, t24, t25, t26, t27, t28, t29, t30, t31, t32, t33, t34, t35, t36, t37, t38, t39, t40, t41, t42, t43, t44, t45, t46, t47, t48, t49, t50, t51, t52, t53, t54, t55, t56, t57, t58, t59, t60, t61, t62, t63, t64, t65, t66, t67, t68, t69, t70, Value.func (.func 147) #[] #[.pointer (some ⟨gB, 0, none⟩), .pointer (some ⟨gB + 1, 0, none⟩)], t72, t73, t74, t75, t76, t77, t78, t79, t80, t81, t82, t83, t84, t85, t86, t87, t88, t89, t90, t91, t92, t93, t94], ds⟩ W := by
  have hlen : (T.length / 2 : Nat) + (T.length / 2 : Nat) < T.length := by omega
  obtain ⟨s1, s2, s3, s4, s5, s6⟩ := hst
  unfold cRange
  conv => arg 4; whnf
  refine wpIn_rangeFunc_ownG (α := HvR (hvA lo turn s.2.2) (hvB hi turn s.2.2)) (gf := 147) (lb := #[.pointer (some ⟨gB, 0, none⟩), .pointer (some ⟨gB + 1, 0, none⟩)]) (encs := fun x => #[.int .i64 x.1])
    (Kp := keepBox gB #[.slice A T.length c, .int .i64 lo, .int .i64 hi, .int .i64 turn, .int .i64 slew] #[.int .i64 s.1, .int .i64 s.2.1, .int .i64 s.2.2] 139 42) (S := fun ys => hvs ys = hvL (hvA lo turn s.2.2) (hvB hi turn s.2.2 - hvA lo turn s.2.2 + 1).toNat) (Sp := fun pre => pre.length ≤ (hvB hi turn s.2.2 - hvA lo turn s.2.2 + 1).toNat)
    (N := (hvB hi turn s.2.2 - hvA lo turn s.2.2 + 1).toNat) (w0 := W)
    rfl (by decide) rfl trivial (fun _ _ => rfl) ?seq ?kt ?kb (Below.refl _ _) (fun _ => rfl)
    (fun pre X => CI T A c lo hi turn slew xs.length B d n0 Bx Bh w0 X ∧ Box X Bi 3 #[.int .i64 i] ∧ Box X Bs 42 #[.int .i64 s.1, .int .i64 s.2.1, .int .i64 s.2.2] ∧ Box X Be 33 #[.int .i64 (eAcc T slew xs s (hvs pre))] ∧ (∀ h ∈ hvs pre, nxW T slew s.1 s.2.1 h = true) ∧ Steps1 (fun k => k = Be) W X)
    (fun cd pre X => cd = .ret ∧ (∃ h ∈ hvs pre, nxW T slew s.1 s.2.1 h = false) ∧ Box X (n0 + 2) 3 #[.int .i64 i] ∧ Box X (n0 + 3) 33 #[.int .i64 22] ∧ Below n0 w0 X ∧ Steps1 (fun k => k = n0 + 2 ∨ k = n0 + 3 ∨ k = Be) W X) ?own ?ownx
    ⟨hI, bi, bs, be, fun h hh => by simp [hvs] at hh, Steps1.refl _ _⟩ (fun x => ⟨#[t0, t1, t2, Value.pointer (some ⟨n0 + 1, 0, none⟩), Value.pointer (some ⟨n0 + 2, 0, none⟩), Value.pointer (some ⟨n0 + 3, 0, none⟩), Value.pointer (some ⟨Bx, 0, none⟩), t7, t8, t9, t10, Value.pointer (some ⟨Bh, 0, none⟩), Value.pointer (some ⟨Bi, 0, none⟩), Value.pointer (some ⟨Bs, 0, none⟩), Value.pointer (some ⟨Be, 0, none⟩), Value.int .i64 x.1, t16, t17, t18, t19, t20, t21, t22, t23, t24, t25, t26, t27, t28, t29, t30, t31, t32, t33, t34, t35, t36, t37, t38, t39, t40, t41, t42, t43, t44, t45, t46, t47, t48, t49, t50, t51, t52, t53, t54, t55, t56, t57, t58, t59, t60, t61, t62, t63, t64, t65, t66, t67, t68, t69, t70, Value.func (.func 147) #[] #[.pointer (some ⟨gB, 0, none⟩), .pointer (some ⟨gB + 1, 0, none⟩)], Value.int .i64 x.1, t73, t74, t75, t76, t77, t78, t79, t80, t81, t82, t83, t84, t85, t86, t87, t88, t89, t90, t91, t92, t93, t94], []⟩) ?assign ?body ?done ?stop
  case seq =>
    intro l J Jx W1 hB _ _ hY hJ
    exact heaves1_in Fence.wide (6 - 1) trivial rfl (by decide) l gB A T.length c lo hi turn slew s.1 s.2.1 s.2.2 _ _ rfl rfl (by omega) (by omega) (by omega) (by omega) J Jx hY W1 (hb1.below hB hb1.lt) (hb2.below hB hb2.lt) hJ
  case kt => exact fun h k => ⟨fun b => k.1 (h.1 b), fun b => k.2 (h.2 b)⟩
  case kb =>
    intro X l o o' _ ho hc _
    have hne : ∀ {g : Nat} {t : TypeId} {cs : Array Value}, Box X g t cs → g ≠ l := fun b e => by
      subst e
      rw [show X.heap[_]? = _ from b] at ho; cases ho; cases hc
    exact ⟨fun b => b.put (hne b) o', fun b => b.put (hne b) o'⟩
  case own =>
    rintro pre X X' row ⟨hC, p1, p2, p3, p4, p5⟩ hg hr
    have hr' : ∀ r, row = some r → ∃ o : Obj, X.heap[r]? = some o ∧ o.isCells = false := fun r e => (hr r e).2
    exact ⟨hC.row hg (fun r e => ⟨by have := (hr r e).1; have := hI.b1.lt; omega, (hr r e).2⟩), box_row p1 hg hr', box_row p2 hg hr', box_row p3 hg hr', p4, p5.row hg (fun r e => (hr r e).1)⟩
  case ownx =>
    rintro cd pre X X' row ⟨q1, q2, p1, p2, p3, p4⟩ hg hr
    have hr' : ∀ r, row = some r → ∃ o : Obj, X.heap[r]? = some o ∧ o.isCells = false := fun r e => (hr r e).2
    exact ⟨q1, q2, box_row p1 hg hr', box_row p2 hg hr', p3.grown hg (by have := p3.size; omega) (fun k e => by have := (hr k e).1; have := hI.b1.lt; omega), p4.row hg (fun r e => (hr r e).1)⟩
  case assign =>
    intro l x W K hK
    gi_wp2_with fail
    exact hK
  case body =>
    rintro l pre x X ⟨hC, p1, p2, p3, p4, p5⟩ hpre
    have hxx := x.2
    unfold hvA hvB at hxx
    have e : hvs (pre ++ [x]) = hvs pre ++ [x.1] := hvs_snoc pre x
    have lB := be.lt
    have lR := hI.b3.lt
    refine cround_c T A c lo hi turn slew xs B d n0 Bx Bh Bi Bs Be l _ w0 X x.1 i _ s _ t0 t1 t2 t7 t8 t9 t10 t16 t17 t18 t19 t20 t21 t22 t23 t24 t25 t26 t27 t28 t29 t30 t31 t32 t33 t34 t35 t36 t37 t38 t39 t40 t41 t42 t43 t44 t45 t46 t47 t48 t49 t50 t51 t52 t53 t54 t55 t56 t57 t58 t59 t60 t61 t62 t63 t64 t65 t66 t67 t68 t69 t70 (Value.func (.func 147) #[] #[.pointer (some ⟨gB, 0, none⟩), .pointer (some ⟨gB + 1, 0, none⟩)]) (Value.int .i64 x.1) t73 t74 t75 t76 t77 t78 t79 t80 t81 t82 t83 t84 t85 t86 t87 t88 t89 t90 t91 t92 t93 t94 (by omega) hs hv hn hp (fun y hy => by have := hx y hy; omega) (by omega) (by omega) (by omega) (by omega) (by omega) hn0 hC p1 p2 p3 hBi hBs hBe hne.1 hne.2.1 ?_ ?_
    · intro a' W' hw hS hB' hb
      rw [eAcc_snoc] at hb
      refine ⟨hS.keeps (fun k hk => by cases hk; omega), ⟨fun b => hS.box b (by omega), fun b => hS.box b (by omega)⟩, hC.steps hS hB' (by omega) (by omega) (by omega) (by omega) (by omega), hS.box p1 (by omega), hS.box p2 (by omega), ?_, ?_, p5.trans hS⟩
      · rw [e]; exact hb
      · intro h hh
        rw [e] at hh
        rcases List.mem_append.1 hh with hh | hh
        · exact p4 h hh
        · simp at hh; subst hh; exact hw
    · intro a' W' hw hS hB' hb hb'
      refine ⟨hS.keeps (fun k hk => by omega), rfl, ⟨x.1, by rw [e]; simp, hw⟩, hb, hb', hB', ?_⟩
      exact Steps1.trans ⟨p5.1, fun k hk hn => p5.2 k hk (by omega)⟩ ⟨hS.1, fun k hk hn => hS.2 k hk (by omega)⟩
  case done =>
    rintro D ys W' hD hS ⟨hC, p1, p2, p3, p4, p5⟩ hDD
    have hN : (hvsOf lo hi turn s).any (fun h => !nxW T slew s.1 s.2.1 h) = false := by
      rw [Bool.eq_false_iff]
      intro ha
      obtain ⟨h, hh, hw⟩ := List.any_eq_true.1 ha
      rw [p4 h (by rw [hS]; exact hh)] at hw
      cases hw
    have hE : stepsE T lo hi turn slew xs s = eAcc T slew xs s (hvs ys) := by
      unfold stepsE eAcc
      rw [if_neg (by rw [hN]; decide), hS]
      rfl
    refine hQ1 D W' hD p5 hC p1 (by rw [hE]; exact p3) ?_ hDD
    rw [hE]; unfold eAcc; split <;> decide
  case stop =>
    rintro D cd pre W' hD _ ⟨rfl, ⟨h, hh, hw⟩, p1, p2, p3, p4⟩ hDD
    refine wpIn_ret (hQ2 D W' hD p4 p3 p1 p2 ?_ hDD)
    unfold stepsE
    rw [if_pos]
    refine List.any_eq_true.2 ⟨h, ?_, by rw [hw]; rfl⟩
    have hb : ∀ l : List (HvR (hvA lo turn s.2.2) (hvB hi turn s.2.2)), ∀ y ∈ hvs l, hvA lo turn s.2.2 ≤ y ∧ y ≤ hvB hi turn s.2.2 := fun l => by
      induction l with
      | nil => intro y hy; cases hy
      | cons z l ih =>
        intro y hy
        simp only [hvs, List.mem_cons] at hy
        rcases hy with rfl | hy
        · exact z.2
        · exact ih y hy
    exact mem_hvsOf.2 (hb pre h hh)

end Go.Proofs.Ytgbckdmhmkpahaa

/-
  Closed sets of states (chapter 2): the second loop over the states, in the walk of CheckClosed.
-/
import Derived.Test.YtgbckdmhmkpahaaCls5
set_option linter.unusedVariables false
namespace Go.Proofs.Ytgbckdmhmkpahaa
open Go.RowKit Go.Shelf
attribute [local go_sem] Oper.semAt_some

def allLoops : Code → List Code
  | .loop c => [c]
  | .seq a b => allLoops a ++ allLoops b
  | .block _ c => allLoops c
  | .scope c => allLoops c
  | _ => []
noncomputable def cLoop : Code := ((Try.f65.body.map allLoops).getD []).getD 1 .skip

theorem chkN_z {T : List Int} {lo hi turn slew : Int} {xs : List St3} {i : Nat} {s : St3} {l : List St3} (h : stepsE T lo hi turn slew xs s = 0) : chkN T lo hi turn slew xs ((i + 1 : Nat) : Int) l = chkN T lo hi turn slew xs i (s :: l) := by
  conv => rhs; unfold chkN
  rw [if_neg (by rw [h]; decide)]; rfl
theorem MarksOk.steps1 {n0 : Nat} {W W' : World} {ds : List Nat} {bad : Nat → Prop} (h : MarksOk n0 W ds) (hS : Steps1 bad W W') (hb : ∀ k, bad k → ∃ o : Obj, W.heap[k]? = some o ∧ o.isCells = true) : MarksOk n0 W' ds :=
  ⟨h.1, fun D hD => ⟨(h.2 D hD).1, (hS.2 D (h.lt hD) (fun hk => by obtain ⟨o, ho, hc⟩ := hb D hk; rw [(h.2 D hD).2] at ho; cases ho; cases hc)).trans (h.2 D hD).2⟩⟩
theorem MarksOk.cons {n0 : Nat} {W : World} {ds : List Nat} {D : Nat} (h : MarksOk n0 W ds) (hn : D ∉ ds) (h0 : n0 + 6 ≤ D) (hD : W.heap[D]? = some (.deferred (some []))) : MarksOk n0 W (D :: ds) :=
  ⟨List.nodup_cons.2 ⟨hn, h.1⟩, fun E hE => by rcases List.mem_cons.1 hE with rfl | hE; (focus exact ⟨h0, hD⟩); exact h.2 E hE⟩

set_option maxHeartbeats 4000000 in
set_option maxRecDepth 100000 in
theorem cout_c (T : List Int) (A : Option Addr) (c : Nat) (lo hi turn slew : Int) (xs : List St3) (B : Option Addr) (d : Nat) (n0 Bx Bh : Nat) (w0 : World) (R : Int × Int) (Q : Exit → Act → World → Prop)
    (hT : T.length ≤ 1000) (hs : SlI w0 A T) (hv : SlV w0 B (xs.flatMap st3V)) (hn : xs.length ≤ 100000) (hp : xs.Pairwise fun a b => ltS a b = true)
    (hx : ∀ y ∈ T, -10 ≤ y ∧ y ≤ 10) (h1 : 0 ≤ slew ∧ slew ≤ 20) (h2 : -4 ≤ lo ∧ lo ≤ 0) (h3 : 0 ≤ hi ∧ hi ≤ 4) (h4 : 0 ≤ turn ∧ turn ≤ 8) (hodd : T.length % 2 = 1) (hst : ∀ s ∈ xs, StV T lo hi s)
    (hn0 : w0.heap.size = n0)
    (hQ1 : ∀ (i : Nat) (ds : List Nat) (W : World) (t0 t1 t2 t7 t8 t9 t10 t12 t13 t14 t15 t16 t17 t18 t19 t20 t21 t22 t23 t24 t25 t26 t27 t28 t29 t30 t31 t32 t33 t34 t35 t36 t37 t38 t39 t40 t41 t42 t43 t44 t45 t46 t47 t48 t49 t50 t51 t52 t53 t54 t55 t56 t57 t58 t59 t60 t61 t65 t66 t67 t68 t69 t70 t71 t72 t73 t74 t75 t76 t77 t78 t79 t80 t81 t82 t83 t84 t85 t86 t87 t88 t89 t90 t91 t92 t93 t94 : Value), R = (0, 0) → CI T A c lo hi turn slew xs.length B d n0 Bx Bh w0 W → MarksOk n0 W ds → Q (.exit 2) ⟨#[t0, t1, t2, Value.pointer (some ⟨n0 + 1, 0, none⟩), Value.pointer (some ⟨n0 + 2, 0, none⟩), Value.pointer (some ⟨n0 + 3, 0, none⟩), Value.pointer (some ⟨Bx, 0, none⟩), t7, t8, t9, t10, Value.pointer (some ⟨Bh, 0, none⟩), t12, t13, t14, t15, t16, t17, t18, t19, t20, t21, t22, t23, t24, t25, t26, t27, t28, t29, t30, t31, t32, t33, t34, t35, t36, t37, t38, t39, t40, t41, t42, t43, t44, t45, t46, t47, t48, t49, t50, t51, t52, t53, t54, t55, t56, t57, t58, t59, t60, t61, Value.slice B xs.length d, Value.int .i64 xs.length, Value.int .i64 (i : Int), t65, t66, t67, t68, t69, t70, t71, t72, t73, t74, t75, t76, t77, t78, t79, t80, t81, t82, t83, t84, t85, t86, t87, t88, t89, t90, t91, t92, t93, t94], ds.map mk⟩ W)
    (hQ2 : ∀ (ds : List Nat) (W : World) (t0 t1 t2 t7 t8 t9 t10 t12 t13 t14 t15 t16 t17 t18 t19 t20 t21 t22 t23 t24 t25 t26 t27 t28 t29 t30 t31 t32 t33 t34 t35 t36 t37 t38 t39 t40 t41 t42 t43 t44 t45 t46 t47 t48 t49 t50 t51 t52 t53 t54 t55 t56 t57 t58 t59 t60 t61 t62 t63 t64 t65 t66 t67 t68 t69 t70 t71 t72 t73 t74 t75 t76 t77 t78 t79 t80 t81 t82 t83 t84 t85 t86 t87 t88 t89 t90 t91 t92 t93 t94 : Value), Below n0 w0 W → Box W (n0 + 2) 3 #[.int .i64 R.1] → Box W (n0 + 3) 33 #[.int .i64 R.2] → MarksOk n0 W ds → Q .ret ⟨#[t0, t1, t2, Value.pointer (some ⟨n0 + 1, 0, none⟩), Value.pointer (some ⟨n0 + 2, 0, none⟩), Value.pointer (some ⟨n0 + 3, 0, none⟩), Value.pointer (some ⟨Bx, 0, none⟩), t7, t8, t9, t10, Value.pointer (some ⟨Bh, 0, none⟩), t12, t13, t14, t15, t16, t17, t18, t19, t20, t21, t22, t23, t24, t25, t26, t27, t28, t29, t30, t31, t32, t33, t34, t35, t36, t37, t38, t39, t40, t41, t42, t43, t44, t45, t46, t47, t48, t49, t50, t51, t52, t53, t54, t55, t56, t57, t58, t59, t60, t61, t62, t63, t64, t65, t66, t67, t68, t69, t70, t71, t72, t73, t74, t75, t76, t77, t78, t79, t80, t81, t82, t83, t84, t85, t86, t87, t88, t89, t90, t91, t92, t93, t94], ds.map mk⟩ W) :
    ∀ (m i : Nat) (ds : List Nat) (W : World) (t0 t1 t2 t7 t8 t9 t10 t12 t13 t14 t15 t16 t17 t18 t19 t20 t21 t22 t23 t24 t25 t26 t27 t28 t29 t30 t31 t32 t33 t34 t35 t36 t37 t38 t39 t40 t41 t42 t43 t44 t45 t46 t47 t48 t49 t50 t51 t52 t53 t54 t55 t56 t57 t58 t59 t60 t61 t65 t66 t67 t68 t69 t70 t71 t72 t73 t74 t75 t76 t77 t78 t79 t80 t81 t82 t83 t84 t85 t86 t87 t88 t89 t90 t91 t92 t93 t94 : Value), CI T A c lo hi turn slew xs.length B d n0 Bx Bh w0 W → n0 + 6 ≤ W.heap.size → MarksOk n0 W ds → i ≤ xs.length → xs.length < i + m → chkN T lo hi turn slew xs i (xs.drop i) = R →
      Code.roundsIn Fence.wide 6 Try.prog cLoop Q m ⟨#[t0, t1, t2, Value.pointer (some ⟨n0 + 1, 0, none⟩), Value.pointer (some ⟨n0 + 2, 0, none⟩), Value.pointer (some ⟨n0 + 3, 0, none⟩), Value.pointer (some ⟨Bx, 0, none⟩), t7, t8, t9, t10, Value.pointer (some ⟨Bh, 0, none⟩), t12, t13, t14, t15, t16, t17, t18, t19, t20, t21, t22, t23, t24, t25, t26, t27, t28, t29, t30, t31, t32, t33, t34, t35, t36, t37, t38, t39, t40, t41, t42, t43, t44, t45, t46, t47, t48, t49, t50, t51, t52, t53, t54, t55, t56, t57, t58, t59, t60, t61, Value.slice B xs.length d, Value.int .i64 xs.length, Value.int .i64 (i : Int), t65, t66, t67, t68, t69, t70, t71, t72, t73, t74, t75, t76, t77, t78, t79, t80, t81, t82, t83, t84, t85, t86, t87, t88, t89, t90, t91, t92, t93, t94], ds.map mk⟩ W := by
  intro m
  induction m with
  | zero =>
    intro i ds W t0 t1 t2 t7 t8 t9 t10 t12 t13 t14 t15 t16 t17 t18 t19 t20 t21 t22 t23 t24 t25 t26 t27 t28 t29 t30 t31 t32 t33 t34 t35 t36 t37 t38 t39 t40 t41 t42 t43 t44 t45 t46 t47 t48 t49 t50 t51 t52 t53 t54 t55 t56 t57 t58 t59 t60 t61 t65 t66 t67 t68 t69 t70 t71 t72 t73 t74 t75 t76 t77 t78 t79 t80 t81 t82 t83 t84 t85 t86 t87 t88 t89 t90 t91 t92 t93 t94 hI hsz hM hil hm hr
    omega
  | succ m ih =>
    intro i ds W t0 t1 t2 t7 t8 t9 t10 t12 t13 t14 t15 t16 t17 t18 t19 t20 t21 t22 t23 t24 t25 t26 t27 t28 t29 t30 t31 t32 t33 t34 t35 t36 t37 t38 t39 t40 t41 t42 t43 t44 t45 t46 t47 t48 t49 t50 t51 t52 t53 t54 t55 t56 t57 t58 t59 t60 t61 t65 t66 t67 t68 t69 t70 t71 t72 t73 t74 t75 t76 t77 t78 t79 t80 t81 t82 t83 t84 t85 t86 t87 t88 t89 t90 t91 t92 t93 t94 hI hsz hM hil hm hr
    rw [roundsIn_succ]
    unfold cLoop
    conv => arg 4; whnf
    have hq := hI
    obtain ⟨b1, b2, b3, bx, bh, hhx, hhh, hB⟩ := hq
    have l1 := b1.lt; have l2 := b2.lt; have l3 := b3.lt; have lx := bx.lt; have lh := bh.lt
    have cx0 := bx.cell 0; have cx1 := bx.cell 1; have cx2 := bx.cell 2; have cx3 := bx.cell 3; have cx4 := bx.cell 4
    simp at cx0 cx1 cx2 cx3 cx4
    have hmx := mixed
    have hw1 : ∀ g, Fence.wide.fn g := fun _ => trivial
    have hw2 : Fence.wide.depth.isSome = false := rfl
    by_cases hlt : i < xs.length
    · have hD := List.drop_eq_getElem_cons hlt
      have hsi := hst _ (List.getElem_mem hlt)
      have hcc := SlV.below hv (show Below w0.heap.size w0 W from by rw [hn0]; exact hB)
      obtain ⟨bb, off, rfl, hbb, a0, a1, a2⟩ := ev_cells hcc (List.getElem?_eq_getElem hlt)
      rw [hD] at hr
      clear hcc hD
      generalize xs[i] = s at *
      obtain ⟨s1, s2, s3⟩ := s
      dsimp only at a0 a1 a2
      have hlt' : (i : Int) < (xs.length : Int) := by omega
      gi_upto_region 18 with fail
      have hbW : Below W.heap.size W (((W.alloc (.cells #[.int .i64 (i : Int)] 3)).alloc (.cells #[.int .i64 s1, .int .i64 s2, .int .i64 s3] 42)).alloc (.cells #[.int .i64 0] 33)) := by focus ((repeat first | with_reducible exact Below.refl _ _ | (with_reducible refine Below.setCell ?_ ?_ _) | (with_reducible refine Below.alloc ?_ ?_ _) | (with_reducible refine below_drewN ?_ _) | (with_reducible refine Below.drew ?_)); all_goals (first | with_reducible exact Nat.le_refl _ | omega | (simp; done) | (simp; omega) | (omega) | ((try simp); omega)))
      have qi : Box (((W.alloc (.cells #[.int .i64 (i : Int)] 3)).alloc (.cells #[.int .i64 s1, .int .i64 s2, .int .i64 s3] 42)).alloc (.cells #[.int .i64 0] 33)) W.heap.size 3 #[.int .i64 (i : Int)] := by focus (apply Box.via; apply Exists.intro; apply And.intro; (repeat first | with_reducible assumption | with_reducible exact Box.new _ _ _ | ((with_reducible apply Box.newAt); focus (simp; done)) | (with_reducible apply Box.drew) | (with_reducible apply Box.drewN) | (with_reducible apply Box.set) | (with_reducible apply Box.alloc) | (with_reducible apply Box.far)); all_goals (first | with_reducible exact Nat.le_refl _ | omega | (simp; done) | (simp; omega) | (omega) | ((try simp); omega)))
      have qs : Box (((W.alloc (.cells #[.int .i64 (i : Int)] 3)).alloc (.cells #[.int .i64 s1, .int .i64 s2, .int .i64 s3] 42)).alloc (.cells #[.int .i64 0] 33)) (W.heap.size + 1) 42 #[.int .i64 s1, .int .i64 s2, .int .i64 s3] := by focus (apply Box.via; apply Exists.intro; apply And.intro; (repeat first | with_reducible assumption | with_reducible exact Box.new _ _ _ | ((with_reducible apply Box.newAt); focus (simp; done)) | (with_reducible apply Box.drew) | (with_reducible apply Box.drewN) | (with_reducible apply Box.set) | (with_reducible apply Box.alloc) | (with_reducible apply Box.far)); all_goals (first | with_reducible exact Nat.le_refl _ | omega | (simp; done) | (simp; omega) | (omega) | ((try simp); omega)))
      have qe : Box (((W.alloc (.cells #[.int .i64 (i : Int)] 3)).alloc (.cells #[.int .i64 s1, .int .i64 s2, .int .i64 s3] 42)).alloc (.cells #[.int .i64 0] 33)) (W.heap.size + 1 + 1) 33 #[.int .i64 0] := by focus (apply Box.via; apply Exists.intro; apply And.intro; (repeat first | with_reducible assumption | with_reducible exact Box.new _ _ _ | ((with_reducible apply Box.newAt); focus (simp; done)) | (with_reducible apply Box.drew) | (with_reducible apply Box.drewN) | (with_reducible apply Box.set) | (with_reducible apply Box.alloc) | (with_reducible apply Box.far)); all_goals (first | with_reducible exact Nat.le_refl _ | omega | (simp; done) | (simp; omega) | (omega) | ((try simp); omega)))
      have hz3 : W.heap.size + 3 ≤ (((W.alloc (.cells #[.int .i64 (i : Int)] 3)).alloc (.cells #[.int .i64 s1, .int .i64 s2, .int .i64 s3] 42)).alloc (.cells #[.int .i64 0] 33)).heap.size := by simp
      generalize (((W.alloc (.cells #[.int .i64 (i : Int)] 3)).alloc (.cells #[.int .i64 s1, .int .i64 s2, .int .i64 s3] 42)).alloc (.cells #[.int .i64 0] 33)) = W3 at hbW qi qs qe hz3 ⊢
      have hC3 := hI.steps (bad := fun _ => False) (Steps1.of_below hbW) (hB.trans (hbW.mono (by omega))) id id id id id
      replace bx := hC3.bx
      clear cx0 cx1 cx2 cx3 cx4 a0 a1 a2
      have cx0 := bx.cell 0; have cx1 := bx.cell 1; have cx2 := bx.cell 2; have cx3 := bx.cell 3; have cx4 := bx.cell 4
      have a0 := qs.cell 0; have a1 := qs.cell 1; have a2 := qs.cell 2
      simp at cx0 cx1 cx2 cx3 cx4 a0 a1 a2
      have hM3 := hM.step (RStep.of_below (W' := W3) hbW)
      gi_wp2_with (first | (gi_at_call 117; refine (heaves_in Fence.wide (6 - 1) trivial rfl A T.length c lo hi turn slew s1 s2 s3 _).mono ?_; rintro e w1 ⟨rfl, rfl⟩) | fail)
      have hbY : Below W3.heap.size W3 ((W3.alloc (.cells #[.slice A T.length c, .int .i64 lo, .int .i64 hi, .int .i64 turn, .int .i64 slew] 139)).alloc (.cells #[.int .i64 s1, .int .i64 s2, .int .i64 s3] 42)) := by focus ((repeat first | with_reducible exact Below.refl _ _ | (with_reducible refine Below.setCell ?_ ?_ _) | (with_reducible refine Below.alloc ?_ ?_ _) | (with_reducible refine below_drewN ?_ _) | (with_reducible refine Below.drew ?_)); all_goals (first | with_reducible exact Nat.le_refl _ | omega | (simp; done) | (simp; omega) | (omega) | ((try simp); omega)))
      have y1 : Box ((W3.alloc (.cells #[.slice A T.length c, .int .i64 lo, .int .i64 hi, .int .i64 turn, .int .i64 slew] 139)).alloc (.cells #[.int .i64 s1, .int .i64 s2, .int .i64 s3] 42)) W3.heap.size 139 #[.slice A T.length c, .int .i64 lo, .int .i64 hi, .int .i64 turn, .int .i64 slew] := by focus (apply Box.via; apply Exists.intro; apply And.intro; (repeat first | with_reducible assumption | with_reducible exact Box.new _ _ _ | ((with_reducible apply Box.newAt); focus (simp; done)) | (with_reducible apply Box.drew) | (with_reducible apply Box.drewN) | (with_reducible apply Box.set) | (with_reducible apply Box.alloc) | (with_reducible apply Box.far)); all_goals (first | with_reducible exact Nat.le_refl _ | omega | (simp; done) | (simp; omega) | (omega) | ((try simp); omega)))
      have y2 : Box ((W3.alloc (.cells #[.slice A T.length c, .int .i64 lo, .int .i64 hi, .int .i64 turn, .int .i64 slew] 139)).alloc (.cells #[.int .i64 s1, .int .i64 s2, .int .i64 s3] 42)) (W3.heap.size + 1) 42 #[.int .i64 s1, .int .i64 s2, .int .i64 s3] := by focus (apply Box.via; apply Exists.intro; apply And.intro; (repeat first | with_reducible assumption | with_reducible exact Box.new _ _ _ | ((with_reducible apply Box.newAt); focus (simp; done)) | (with_reducible apply Box.drew) | (with_reducible apply Box.drewN) | (with_reducible apply Box.set) | (with_reducible apply Box.alloc) | (with_reducible apply Box.far)); all_goals (first | with_reducible exact Nat.le_refl _ | omega | (simp; done) | (simp; omega) | (omega) | ((try simp); omega)))
      have hz4 : W3.heap.size + 2 ≤ ((W3.alloc (.cells #[.slice A T.length c, .int .i64 lo, .int .i64 hi, .int .i64 turn, .int .i64 slew] 139)).alloc (.cells #[.int .i64 s1, .int .i64 s2, .int .i64 s3] 42)).heap.size := by simp
      generalize ((W3.alloc (.cells #[.slice A T.length c, .int .i64 lo, .int .i64 hi, .int .i64 turn, .int .i64 slew] 139)).alloc (.cells #[.int .i64 s1, .int .i64 s2, .int .i64 s3] 42)) = W4 at hbY y1 y2 hz4 ⊢
      have hC4 := hC3.steps (bad := fun _ => False) (Steps1.of_below hbY) (hC3.bl.trans (hbY.mono (by omega))) id id id id id
      replace qi := qi.below hbY qi.lt
      replace qs := qs.below hbY qs.lt
      replace qe := qe.below hbY qe.lt
      have hM4 := hM3.step (RStep.of_below (W' := W4) hbY)
      have hlM : ∀ D ∈ ds, D < W4.heap.size := fun D hD => hM4.lt hD
      refine cinner_c T A c lo hi turn slew xs (some ⟨bb, off, none⟩) d n0 Bx Bh W.heap.size (W.heap.size + 1) (W.heap.size + 1 + 1) W3.heap.size w0 W4 i (s1, s2, s3) (ds.map mk) _ _ _ _ _ _ _ _ _ _ _ _ _ _ _ _ _ _ _ _ _ _ _ _ _ _ _ _ _ _ _ _ _ _ _ _ _ _ _ _ _ _ _ _ _ _ _ _ _ _ _ _ _ _ _ _ _ _ _ _ _ _ _ _ _ _ _ _ _ _ _ _ _ _ _ _ _ _ _ _ _ _ _ _ _ _ _ hT hs hv hn hp hx h1 h2 h3 h4 hodd hsi hn0 hC4 qi qs qe (by omega) (by omega) (by omega) (by omega) y1 y2 (by omega) ?q1 ?q2
      case q2 =>
        intro D W' hD hS hB' p1 p2 hE hDD
        have hRR : R = ((i : Int), 22) := by rw [← hr]; unfold chkN; rw [if_pos (by rw [hE]; decide), hE]
        refine hQ2 (D :: ds) W' _ _ _ _ _ _ _ _ _ _ _ _ _ _ _ _ _ _ _ _ _ _ _ _ _ _ _ _ _ _ _ _ _ _ _ _ _ _ _ _ _ _ _ _ _ _ _ _ _ _ _ _ _ _ _ _ _ _ _ _ _ _ _ _ _ _ _ _ _ _ _ _ _ _ _ _ _ _ _ _ _ _ _ _ _ _ _ _ _ _ hB' (by rw [hRR]; exact p1) (by rw [hRR]; exact p2) ?_
        refine MarksOk.cons (hM4.steps1 hS ?_) (fun hh => by have := hlM D hh; omega) (by omega) hDD
        rintro k (rfl | rfl | rfl)
        · exact ⟨_, hC4.b2, rfl⟩
        · exact ⟨_, hC4.b3, rfl⟩
        · exact ⟨_, qe, rfl⟩
      case q1 =>
        intro D W' hD hS hC' p1 p2 hE hDD
        have hM' : MarksOk n0 W' (D :: ds) := MarksOk.cons (hM4.steps1 hS (fun k hk => by subst hk; exact ⟨_, qe, rfl⟩)) (fun hh => by have := hlM D hh; omega) (by omega) hDD
        have hzW : n0 + 6 ≤ W'.heap.size := by have := hS.1; omega
        clear hC4 hC3 hM3 hM4 hbY hbW y1 y2 qi qs qe bx cx0 cx1 cx2 cx3 cx4 a0 a1 a2
        have c1 := p1.cell 0; have c2 := p2.cell 0
        have r2 := hC'.b2.cell 0; have r3 := hC'.b3.cell 0; have f2 := hC'.b2.froz; have f3 := hC'.b3.froz
        have m2 := hC'.b2.lt; have m3 := hC'.b3.lt
        simp at c1 c2 r2 r3
        by_cases h0 : stepsE T lo hi turn slew xs (s1, s2, s3) = 0
        · have hRR : chkN T lo hi turn slew xs ((i + 1 : Nat) : Int) (xs.drop (i + 1)) = R := by rw [← hr, chkN_z h0]
          rw [h0] at c2
          clear hE h0 p2 hr
          gi_wp2_with fail
          exact ih (i + 1) (D :: ds) W' _ _ _ _ _ _ _ _ _ _ _ _ _ _ _ _ _ _ _ _ _ _ _ _ _ _ _ _ _ _ _ _ _ _ _ _ _ _ _ _ _ _ _ _ _ _ _ _ _ _ _ _ _ _ _ _ _ _ _ _ _ _ _ _ _ _ _ _ _ _ _ _ _ _ _ _ _ _ _ _ _ _ _ _ _ _ _ hC' hzW hM' (by omega) (by omega) hRR
        · have hRR := Lib.hid (show R = ((i : Int), stepsE T lo hi turn slew xs (s1, s2, s3)) by rw [← hr]; unfold chkN; rw [if_pos h0])
          have e1 := bneT h0
          clear hr h0 hE p2
          generalize stepsE T lo hi turn slew xs (s1, s2, s3) = SE at *
          gi_wp2_with fail
          gi_region
          all_goals gi_wp2_with fail
          have hBl := hC'.bl
          have g2 := hC'.b2
          have g3 := hC'.b3
          all_goals
            refine hQ2 (D :: ds) _ _ _ _ _ _ _ _ _ _ _ _ _ _ _ _ _ _ _ _ _ _ _ _ _ _ _ _ _ _ _ _ _ _ _ _ _ _ _ _ _ _ _ _ _ _ _ _ _ _ _ _ _ _ _ _ _ _ _ _ _ _ _ _ _ _ _ _ _ _ _ _ _ _ _ _ _ _ _ _ _ _ _ _ _ _ _ _ _ _ _ (by focus ((repeat first | with_reducible exact Below.refl _ _ | (with_reducible refine Below.setCell ?_ ?_ _) | (with_reducible refine Below.alloc ?_ ?_ _) | (with_reducible refine below_drewN ?_ _) | (with_reducible refine Below.drew ?_) | (with_reducible refine Below.trans ?_ (Below.mono hBl ?_))); all_goals (first | with_reducible exact Nat.le_refl _ | omega | (simp; done) | (simp; omega) | (have := hBl.size; (try simp at this); omega) | (have := hBl.size; (try simp at this); (try simp); omega)))) (by rw [hRR.out]; focus (apply Box.via; apply Exists.intro; apply And.intro; (repeat first | with_reducible assumption | with_reducible exact Box.new _ _ _ | ((with_reducible apply Box.newAt); focus (simp; done)) | (with_reducible apply Box.drew) | (with_reducible apply Box.drewN) | (with_reducible apply Box.set) | (with_reducible apply Box.alloc) | (with_reducible apply Box.far)); all_goals (first | with_reducible exact Nat.le_refl _ | omega | (simp; done) | (simp; omega) | (omega) | ((try simp); omega)))) (by rw [hRR.out]; focus (apply Box.via; apply Exists.intro; apply And.intro; (repeat first | with_reducible assumption | with_reducible exact Box.new _ _ _ | ((with_reducible apply Box.newAt); focus (simp; done)) | (with_reducible apply Box.drew) | (with_reducible apply Box.drewN) | (with_reducible apply Box.set) | (with_reducible apply Box.alloc) | (with_reducible apply Box.far)); all_goals (first | with_reducible exact Nat.le_refl _ | omega | (simp; done) | (simp; omega) | (omega) | ((try simp); omega)))) ?_
            have hbad : ∀ k, k = n0 + 2 ∨ k = n0 + 3 → ∃ o : Obj, W'.heap[k]? = some o ∧ o.isCells = true := by
              rintro k (rfl | rfl)
              · exact ⟨_, g2, rfl⟩
              · exact ⟨_, g3, rfl⟩
            first
              | exact hM'.steps1 (((Steps1.refl (fun k => k = n0 + 2 ∨ k = n0 + 3) W').setCell (p := ⟨n0 + 2, 0, none⟩) _ (.inl rfl)).setCell (p := ⟨n0 + 3, 0, none⟩) _ (.inr rfl)) hbad
              | exact hM'.steps1 (((Steps1.refl (fun k => k = n0 + 2 ∨ k = n0 + 3) W').setCell (p := ⟨n0 + 3, 0, none⟩) _ (.inr rfl)).setCell (p := ⟨n0 + 2, 0, none⟩) _ (.inl rfl)) hbad
    · gi_wp2_with fail
      exact hQ1 i ds W _ _ _ _ _ _ _ _ _ _ _ _ _ _ _ _ _ _ _ _ _ _ _ _ _ _ _ _ _ _ _ _ _ _ _ _ _ _ _ _ _ _ _ _ _ _ _ _ _ _ _ _ _ _ _ _ _ _ _ _ _ _ _ _ _ _ _ _ _ _ _ _ _ _ _ _ _ _ _ _ _ _ _ _ _ _ _ (by rw [← hr, List.drop_eq_nil_of_le (by omega)]; rfl) hI hM

end Go.Proofs.Ytgbckdmhmkpahaa

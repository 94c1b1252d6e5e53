/-
  The reached states of a loop (chapter 2): the loop over the states, in the walk of 'reached'.
-/
import Derived.Test.YtgbckdmhmkpahaaReachB
set_option linter.unusedVariables false
namespace Go.Proofs.Ytgbckdmhmkpahaa
open Go.RowKit Go.Shelf
attribute [local go_sem] Oper.semAt_some
attribute [local go_sem] run_eqlNil run_neqNil

def firstLoop : Code → Option Code
  | .loop c => some c
  | .seq a b => match firstLoop a with
    | some c => some c
    | none => firstLoop b
  | .block _ c => firstLoop c
  | .scope c => firstLoop c
  | _ => none
noncomputable def rLoop : Code := (Try.f80.body.bind firstLoop).getD .skip

theorem RI.next {T : List Int} {A : Option Addr} {c : Nat} {lo hi turn slew : Int} {n0 Bi Bi' : Nat} {w0 : World} {i i' : Nat} {st : Found} {W W' : World} (h : RI T A c lo hi turn slew n0 Bi w0 i st W) (hb : Below W.heap.size W W')
    (hB : W.heap.size ≤ Bi') (hbox : Box W' Bi' 3 #[.int .i64 i']) : RI T A c lo hi turn slew n0 Bi' w0 i' st W' := by
  obtain ⟨b0, rA, bM, mM, ⟨vS, bS, oS⟩, _, _, hBl⟩ := h.keep hb
  have l5 := h.box0.lt
  have l6 := h.boxI.lt
  have l7 := h.hBi
  refine ⟨b0, rA, bM, mM, ⟨vS, bS, ?_⟩, hbox, by omega, hBl⟩
  obtain ⟨_, _, _, _, ⟨vS', bS', oS'⟩, _, _, _⟩ := h
  have e : vS = vS' := by
    have := (show W'.heap[n0 + 5]? = some _ from bS).symm.trans (show W'.heap[n0 + 5]? = some _ from bS'.below hb bS'.lt)
    simpa using this
  subst e
  cases ho : st.2 with
  | none => rw [ho] at oS; exact oS
  | some L =>
    rw [ho] at oS oS'
    obtain ⟨g, cap, rfl, _, o⟩ := oS'
    obtain ⟨g', cap', e, _, o'⟩ := oS
    cases e
    refine ⟨g, cap, rfl, ?_, o'⟩
    rcases o.2 with ⟨e, _⟩ | ⟨k, _, _, e, _, hh, _⟩
    · cases e
    · cases e
      have := (Array.getElem?_eq_some_iff.1 hh).1
      omega

def mk (D : Nat) : Deferred := { target := .collected D, args := #[] }
/-- The blocks that collect the rounds' deferred calls. -/
def MarksOk (n0 : Nat) (W : World) (ds : List Nat) : Prop := ds.Nodup ∧ ∀ D ∈ ds, n0 + 6 ≤ D ∧ W.heap[D]? = some (.deferred (some []))
theorem MarksOk.step {n0 : Nat} {W W' : World} {ds : List Nat} (h : MarksOk n0 W ds) (hR : RStep n0 W W') : MarksOk n0 W' ds :=
  ⟨h.1, fun D hD => ⟨(h.2 D hD).1, (hR.2 D (Array.getElem?_eq_some_iff.1 (h.2 D hD).2).1 (by have := (h.2 D hD).1; omega) (by have := (h.2 D hD).1; omega) (by have := (h.2 D hD).1; omega)
    (fun cs f e => by rw [(h.2 D hD).2] at e; cases e)).trans (h.2 D hD).2⟩⟩
theorem MarksOk.lt {n0 : Nat} {W : World} {ds : List Nat} (h : MarksOk n0 W ds) {D : Nat} (hD : D ∈ ds) : D < W.heap.size := (Array.getElem?_eq_some_iff.1 (h.2 D hD).2).1

theorem roundH_ok {T : List Int} {lo hi turn slew : Int} {i : Nat} {st : Found} {s : Seen} (hsi : st.1[i]? = some s) (hF : OkF T lo hi st) (hodd : T.length % 2 = 1) (hx : ∀ y ∈ T, -10 ≤ y ∧ y ≤ 10) (h1 : 0 ≤ slew) :
    OkF T lo hi (roundH T lo hi turn slew i st) ∧ st.1.length ≤ (roundH T lo hi turn slew i st).1.length := by
  have hlt : i < st.1.length := (List.getElem?_eq_some_iff.1 hsi).1
  obtain ⟨a, b, _⟩ := OkF.fold (slew := slew) (i := i) hx h1 hodd (hvL (hvA lo turn s.1.2.2) (hvB hi turn s.1.2.2 - hvA lo turn s.1.2.2 + 1).toNat) st hF hlt (fun x hx => by
    simp only [hvL, List.mem_map, List.mem_range] at hx
    obtain ⟨k, hk, rfl⟩ := hx
    unfold hvA hvB at *
    omega)
  have e : roundH T lo hi turn slew i st = (hvL (hvA lo turn s.1.2.2) (hvB hi turn s.1.2.2 - hvA lo turn s.1.2.2 + 1).toNat).foldl (stepH T slew i) st := by simp only [roundH, hsi]
  rw [e]
  exact ⟨a, b⟩

set_option maxHeartbeats 4000000 in
set_option maxRecDepth 100000 in
theorem outer_c (T : List Int) (A : Option Addr) (c : Nat) (lo hi turn slew : Int) (n0 : Nat) (w0 : World) (F : Found) (Q : Exit → Act → World → Prop)
    (hT : T.length ≤ 11) (hodd : T.length % 2 = 1) (hs : SlI w0 A T) (hx : ∀ y ∈ T, -10 ≤ y ∧ y ≤ 10) (h1 : 0 ≤ slew ∧ slew ≤ 20) (h2 : -4 ≤ lo ∧ lo ≤ 0) (h3 : 0 ≤ hi ∧ hi ≤ 4) (h4 : 0 ≤ turn ∧ turn ≤ 8)
    (hn0 : w0.heap.size = n0)
    (hQ : ∀ (i Bi : Nat) (ds : List Nat) (W : World) (t0 t2 t3 t8 t9 t10 t11 t12 t13 t14 t15 t16 t17 t18 t19 t20 t21 t22 t23 t24 t25 t26 t27 t28 t29 t30 t31 t32 t33 t34 t35 t36 t37 t38 t39 t40 t41 t42 t43 t44 t45 t46 t47 t48 t49 t50 t51 t52 t53 t54 t55 t56 t57 t58 t59 t60 t61 t62 t63 t64 t65 t66 t67 t68 t69 t70 t71 t72 t73 : Value), RI T A c lo hi turn slew n0 Bi w0 i F W → MarksOk n0 W ds → F.1 ≠ [] → Q (.exit 0) ⟨#[t0, Value.pointer (some ⟨n0, 0, none⟩), t2, t3, Value.pointer (some ⟨n0 + 2, 0, none⟩), Value.pointer (some ⟨n0 + 4, 0, none⟩), Value.pointer (some ⟨n0 + 5, 0, none⟩), Value.pointer (some ⟨Bi, 0, none⟩), t8, t9, t10, t11, t12, t13, t14, t15, t16, t17, t18, t19, t20, t21, t22, t23, t24, t25, t26, t27, t28, t29, t30, t31, t32, t33, t34, t35, t36, t37, t38, t39, t40, t41, t42, t43, t44, t45, t46, t47, t48, t49, t50, t51, t52, t53, t54, t55, t56, t57, t58, t59, t60, t61, t62, t63, t64, t65, t66, t67, t68, t69, t70, t71, t72, t73], ds.map mk⟩ W) :
    ∀ (m i : Nat) (st : Found) (Bi : Nat) (ds : List Nat) (W : World) (t0 t2 t3 t8 t9 t10 t11 t12 t13 t14 t15 t16 t17 t18 t19 t20 t21 t22 t23 t24 t25 t26 t27 t28 t29 t30 t31 t32 t33 t34 t35 t36 t37 t38 t39 t40 t41 t42 t43 t44 t45 t46 t47 t48 t49 t50 t51 t52 t53 t54 t55 t56 t57 t58 t59 t60 t61 t62 t63 t64 t65 t66 t67 t68 t69 t70 t71 t72 t73 : Value), RI T A c lo hi turn slew n0 Bi w0 i st W → OkF T lo hi st → st.1 ≠ [] → MarksOk n0 W ds → i ≤ st.1.length → 2079 < i + m → rounds T lo hi turn slew m i st = F →
      Code.roundsIn Fence.wide 6 Try.prog rLoop Q m ⟨#[t0, Value.pointer (some ⟨n0, 0, none⟩), t2, t3, Value.pointer (some ⟨n0 + 2, 0, none⟩), Value.pointer (some ⟨n0 + 4, 0, none⟩), Value.pointer (some ⟨n0 + 5, 0, none⟩), Value.pointer (some ⟨Bi, 0, none⟩), t8, t9, t10, t11, t12, t13, t14, t15, t16, t17, t18, t19, t20, t21, t22, t23, t24, t25, t26, t27, t28, t29, t30, t31, t32, t33, t34, t35, t36, t37, t38, t39, t40, t41, t42, t43, t44, t45, t46, t47, t48, t49, t50, t51, t52, t53, t54, t55, t56, t57, t58, t59, t60, t61, t62, t63, t64, t65, t66, t67, t68, t69, t70, t71, t72, t73], ds.map mk⟩ W := by
  intro m
  induction m with
  | zero =>
    intro i st Bi ds W t0 t2 t3 t8 t9 t10 t11 t12 t13 t14 t15 t16 t17 t18 t19 t20 t21 t22 t23 t24 t25 t26 t27 t28 t29 t30 t31 t32 t33 t34 t35 t36 t37 t38 t39 t40 t41 t42 t43 t44 t45 t46 t47 t48 t49 t50 t51 t52 t53 t54 t55 t56 t57 t58 t59 t60 t61 t62 t63 t64 t65 t66 t67 t68 t69 t70 t71 t72 t73 hI hF hne hM hil hm hr
    have := hF.length hT h2.1 h3.2
    omega
  | succ m ih =>
    intro i st Bi ds W t0 t2 t3 t8 t9 t10 t11 t12 t13 t14 t15 t16 t17 t18 t19 t20 t21 t22 t23 t24 t25 t26 t27 t28 t29 t30 t31 t32 t33 t34 t35 t36 t37 t38 t39 t40 t41 t42 t43 t44 t45 t46 t47 t48 t49 t50 t51 t52 t53 t54 t55 t56 t57 t58 t59 t60 t61 t62 t63 t64 t65 t66 t67 t68 t69 t70 t71 t72 t73 hI hF hne hM hil hm hr
    rw [roundsIn_succ]
    unfold rLoop
    conv => arg 4; whnf
    have hlen := hF.length hT h2.1 h3.2
    have hq := hI
    obtain ⟨b0, ⟨vA, bA, oA⟩, bM, mM, ⟨vS, bS, oS⟩, bI, hBi, hB⟩ := hq
    have hpos : 0 < st.1.length := List.length_pos_iff.2 hne
    rcases oA.2 with ⟨_, hz⟩ | ⟨gA, capA, curA, rfl, hgA, hhA, hcapA, _⟩
    · omega
    have cA := bA.cell 0; have cI := bI.cell 0
    have c00 := b0.cell 0; have c01 := b0.cell 1; have c02 := b0.cell 2; have c03 := b0.cell 3; have c04 := b0.cell 4
    simp at cA cI c00 c01 c02 c03 c04
    by_cases hlt : i < st.1.length
    · have hsi : st.1[i]? = some st.1[i] := List.getElem?_eq_getElem hlt
      obtain ⟨a0, a1, a2, a3, a4⟩ := AllAt.of_own oA i _ hsi
      rw [rounds, if_pos hlt] at hr
      gi_upto_region 7 with fail
      have l0 := b0.lt; have l2 := bA.lt; have lI := bI.lt
      have lA : gA < W.heap.size := (Array.getElem?_eq_some_iff.1 hhA).1
      refine region_wide (fun W' => Below W.heap.size W W') rfl ?_ (show Below _ W W.drew from by focus ((repeat first | with_reducible exact Below.refl _ _ | (with_reducible refine Below.setCell ?_ ?_ _) | (with_reducible refine Below.alloc ?_ ?_ _) | (with_reducible refine below_drewN ?_ _) | (with_reducible refine Below.drew ?_)); all_goals (first | with_reducible exact Nat.le_refl _ | omega | (simp; done) | (simp; omega) | (omega) | ((try simp); omega))))
      intro R hR hS0
      refine wpAnyH_take (i := 0) rfl (by kernel_rfl) (by kernel_rfl) (by kernel_rfl) (fun _ _ _ h => nomatch h.1) (v := .agg #[.slice A T.length c, .int .i64 lo, .int .i64 hi, .int .i64 turn, .int .i64 slew]) (.inl ⟨by kernel_rfl, fun w' hS => ?y0⟩) hS0 ?_
      case y0 => obtain ⟨hc', hf'⟩ := bcell hS; go_simp
      refine wpAnyH_take (i := 1) rfl (by kernel_rfl) (by kernel_rfl) (by kernel_rfl) (fun _ _ _ h => nomatch h.1) (v := ?v1) (.inl ⟨by kernel_rfl, fun w' hS => ?y1⟩) hS0 ?_
      case y1 => obtain ⟨hc', hf'⟩ := bcell hS; go_simp; exact rfl
      refine wpAnyH_take (i := 2) rfl (by kernel_rfl) (by kernel_rfl) (by kernel_rfl) (fun _ _ _ h => nomatch h.1) (v := ?v2) (.inl ⟨by kernel_rfl, fun w' hS => ?y2⟩) hS0 ?_
      case y2 => obtain ⟨hc', hf'⟩ := bcell hS; go_simp; exact rfl
      refine wpAnyH_take (i := 3) rfl (by kernel_rfl) (by kernel_rfl) (by kernel_rfl) (fun _ _ _ h => nomatch h.1) (v := ?v3) (.inl ⟨by kernel_rfl, fun w' hS => ?y3⟩) hS0 ?_
      case y3 => obtain ⟨hc', hf'⟩ := bcell hS; go_simp; exact rfl
      refine wpAnyH_take (i := 4) rfl (by kernel_rfl) (by kernel_rfl) (by kernel_rfl) (fun _ _ _ h => nomatch h.1) (v := ?v4) (.inl ⟨by kernel_rfl, fun w' hS => ?y4⟩) hS0 ?_
      case y4 => obtain ⟨hc', hf'⟩ := bcell hS; go_simp; exact rfl
      refine wpAnyH_take (i := 5) rfl (by kernel_rfl) (by kernel_rfl) (by kernel_rfl) (fun _ _ _ h => nomatch h.1) (v := ?v5) (.inl ⟨by kernel_rfl, fun w' hS => ?y5⟩) hS0 ?_
      case y5 => obtain ⟨hc', hf'⟩ := bcell hS; go_simp; exact rfl
      refine wpAnyH_all (rs := [6]) (by kernel_rfl) (by simp) ?_
      intro j hj
      simp only [List.mem_cons, List.not_mem_nil, or_false] at hj
      subst hj
      refine wpOp_run rfl (by kernel_rfl) ?_
      intro K hK
      go_simp
      go_at_call 117
      refine (callsIn_wide.1 (heaves_in Fence.wide 0 trivial rfl A T.length c lo hi turn slew st.1[i].1.1 st.1[i].1.2.1 st.1[i].1.2.2 _)).mono ?_
      rintro e w1 ⟨rfl, rfl⟩
      go_simp
      refine hK _ _ ⟨by focus ((repeat first | with_reducible exact Below.refl _ _ | (with_reducible refine Below.setCell ?_ ?_ _) | (with_reducible refine Below.alloc ?_ ?_ _) | (with_reducible refine below_drewN ?_ _) | (with_reducible refine Below.drew ?_)); all_goals (first | with_reducible exact Nat.le_refl _ | omega | (simp; done) | (simp; omega) | (omega) | ((try simp); omega))), ?_⟩
      clear hK K
      refine wpAnyH_done (by kernel_rfl) ⟨rfl, hR _ _ ?_⟩ _
      clear hR R
      gi_wp2_with fail
      have hbx := hF.box _ (List.mem_of_getElem? hsi)
      refine inner_c T A c lo hi turn slew n0 Bi i W.heap.size w0 _ st st.1[i] (ds.map mk) _ _ _ _ _ _ _ _ _ _ _ _ _ _ _ _ _ _ _ _ _ _ _ _ _ _ _ _ _ _ _ _ _ _ _ _ _ _ _ _ _ _ _ _ _ _ _ _ _ _ _ _ _ _ _ _ _ _ _ _ _ _ _ _ _ _ _ _ _ hT hodd hs hx h1 h2 h3 h4 hn0 (hI.keep ?hb) hF hsi ?b1 ?b2 (by omega) ?q
      case hb => focus ((repeat first | with_reducible exact Below.refl _ _ | (with_reducible refine Below.setCell ?_ ?_ _) | (with_reducible refine Below.alloc ?_ ?_ _) | (with_reducible refine below_drewN ?_ _) | (with_reducible refine Below.drew ?_)); all_goals (first | with_reducible exact Nat.le_refl _ | omega | (simp; done) | (simp; omega) | (omega) | ((try simp); omega)))
      case b1 => focus (apply Box.via; apply Exists.intro; apply And.intro; (repeat first | with_reducible assumption | with_reducible exact Box.new _ _ _ | ((with_reducible apply Box.newAt); focus (simp; done)) | (with_reducible apply Box.drew) | (with_reducible apply Box.drewN) | (with_reducible apply Box.set) | (with_reducible apply Box.alloc) | (with_reducible apply Box.far)); all_goals (first | with_reducible exact Nat.le_refl _ | omega | (simp; done) | (simp; omega) | (omega) | ((try simp); omega)))
      case b2 => focus (apply Box.via; apply Exists.intro; apply And.intro; (repeat first | with_reducible assumption | with_reducible exact Box.new _ _ _ | ((with_reducible apply Box.newAt); focus (simp; done)) | (with_reducible apply Box.drew) | (with_reducible apply Box.drewN) | (with_reducible apply Box.set) | (with_reducible apply Box.alloc) | (with_reducible apply Box.far)); all_goals (first | with_reducible exact Nat.le_refl _ | omega | (simp; done) | (simp; omega) | (omega) | ((try simp); omega)))
      case q =>
        intro D W' hD hR2 hI' hDD
        have cI' := hI'.boxI.cell 0
        have lI' := hI'.boxI.lt
        simp at cI'
        gi_wp2_with fail
        have hbW : Below W'.heap.size W' (W'.alloc (.cells #[.int .i64 (i + 1)] 3)) := by focus ((repeat first | with_reducible exact Below.refl _ _ | (with_reducible refine Below.setCell ?_ ?_ _) | (with_reducible refine Below.alloc ?_ ?_ _) | (with_reducible refine below_drewN ?_ _) | (with_reducible refine Below.drew ?_)); all_goals (first | with_reducible exact Nat.le_refl _ | omega | (simp; done) | (simp; omega) | (omega) | ((try simp); omega)))
        obtain ⟨hF', hle⟩ := roundH_ok (turn := turn) hsi hF hodd hx h1.1
        refine ih (i + 1) _ W'.heap.size (D :: ds) _ _ _ _ _ _ _ _ _ _ _ _ _ _ _ _ _ _ _ _ _ _ _ _ _ _ _ _ _ _ _ _ _ _ _ _ _ _ _ _ _ _ _ _ _ _ _ _ _ _ _ _ _ _ _ _ _ _ _ _ _ _ _ _ _ _ _ _ _ _ (hI'.next (i' := i + 1) hbW (Nat.le_refl _) (Box.new W' 3 _)) hF' ?ne ?marks (by omega) (by omega) hr
        case ne => intro e; have h0 := congrArg List.length e; simp only [List.length_nil] at h0; omega
        case marks =>
          have hM' := (hM.step (RStep.of_below (W' := _) (show Below W.heap.size W _ from ?hbb))).step (hR2.trans (RStep.of_below hbW))
          case hbb => focus ((repeat first | with_reducible exact Below.refl _ _ | (with_reducible refine Below.setCell ?_ ?_ _) | (with_reducible refine Below.alloc ?_ ?_ _) | (with_reducible refine below_drewN ?_ _) | (with_reducible refine Below.drew ?_)); all_goals (first | with_reducible exact Nat.le_refl _ | omega | (simp; done) | (simp; omega) | (omega) | ((try simp); omega)))
          have lD := (Array.getElem?_eq_some_iff.1 hDD).1
          simp at hD
          refine ⟨List.nodup_cons.2 ⟨fun h => ?_, hM'.1⟩, fun E hE => ?_⟩
          · have := hM.lt h
            omega
          · rcases List.mem_cons.1 hE with rfl | hE
            · exact ⟨by omega, (hbW.block _ lD).trans hDD⟩
            · exact hM'.2 E hE
    · have e : st = F := by rw [rounds, if_neg hlt] at hr; exact hr
      subst e
      gi_wp2_with fail
      exact hQ _ _ _ _ _ _ _ _ _ _ _ _ _ _ _ _ _ _ _ _ _ _ _ _ _ _ _ _ _ _ _ _ _ _ _ _ _ _ _ _ _ _ _ _ _ _ _ _ _ _ _ _ _ _ _ _ _ _ _ _ _ _ _ _ _ _ _ _ _ _ _ _ _ hI hM hne

end Go.Proofs.Ytgbckdmhmkpahaa

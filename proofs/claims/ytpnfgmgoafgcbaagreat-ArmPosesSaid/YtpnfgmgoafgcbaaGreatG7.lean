/-
  The reference's cells of a pose, ascending (chapter 6).
  The cells of a pose in their order (chapter 6), in plain words: what the sort and Compact leave is what the reference inserts.
  JointsOf, CellsOf and IsFree of the program (chapter 6).
  The reference's cells of a pose (chapter 6).
-/
import Derived.Test.YtpnfgmgoafgcbaaGreatG6
import Derived.Test.YtpnfgmgoafgcbaaGreatRRe
import Derived.Test.YtpnfgmgoafgcbaaGreatG2
set_option linter.unusedVariables false
namespace Go.Proofs.YtpnfgmgoafgcbaaGreat
open Go.RowKit Go.Shelf
attribute [local go_sem] Oper.semAt_some
attribute [local go_sem ↓] eql_ce' neq_ce'
/-- How many cells lie before a cell; ascending cells with a further one. -/
def atC (p : Ce) : List Ce → Nat
  | [] => 0
  | x :: r => if cmpC x p < 0 then atC p r + 1 else 0
def insC (l : List Ce) (p : Ce) : List Ce := if l[atC p l]? = some p then l else l.take (atC p l) ++ [p] ++ l.drop (atC p l)
theorem atC_le (p : Ce) : ∀ l, atC p l ≤ l.length
  | [] => Nat.le_refl _
  | x :: r => by
    have := atC_le p r
    simp only [atC]
    split <;> simp <;> omega
theorem atC_get {p : Ce} : ∀ {l : List Ce} {k : Nat}, k < atC p l → ∃ x, l[k]? = some x ∧ cmpC x p < 0
  | [], _, h => by simp [atC] at h
  | x :: r, k, h => by
    simp only [atC] at h
    split at h
    · rename_i hx
      cases k with
      | zero => exact ⟨x, rfl, hx⟩
      | succ k => exact atC_get (l := r) (by omega)
    · omega
theorem atC_stop {p : Ce} : ∀ {l : List Ce} {x : Ce}, l[atC p l]? = some x → ¬ cmpC x p < 0
  | [], _, h => by simp at h
  | y :: r, x, h => by
    simp only [atC] at h
    split at h
    · exact atC_stop (l := r) (by simpa using h)
    · rename_i hx
      simp at h
      exact h ▸ hx
theorem befL_cmpC (x p : Ce) : befL [x.1, x.2] [p.1, p.2] = decide (cmpC x p < 0) := by
  unfold cmpC
  rw [lexC_befL]
theorem one_ceV (xs : List Ce) : ∀ u ∈ xs.flatMap ceV, u.oneCell' = true := fun u hu => by
  obtain ⟨m, _, hm⟩ := List.mem_flatMap.1 hu
  simp [ceV] at hm
  rcases hm with rfl | rfl <;> rfl
theorem slv_takeC {w : World} {A : Option Addr} {xs : List Ce} (h : SlV w A (xs.flatMap ceV)) (k : Nat) : SlV w A ((xs.take k).flatMap ceV) := by
  refine fun j u hj => h j u ?_
  have e : xs.flatMap ceV = (xs.take k).flatMap ceV ++ (xs.drop k).flatMap ceV := by rw [← List.flatMap_append, List.take_append_drop]
  rw [e, List.getElem?_append_left (List.getElem?_eq_some_iff.1 hj).1]
  exact hj
/-- How inserted ends. -/
def InEnd (R : List Ce) (base : Nat) (w : World) (e : Ending) (w' : World) : Prop := ∃ A c, e = .returned (.slice A R.length c) ∧ w'.ownsRow base 22 2 (.slice A R.length c) R.length (R.flatMap ceV) ∧ Below w.heap.size w w'
theorem sli_at {w : World} {g off : Nat} {a b : Int} (hg : g < w.heap.size) (c0 : w.cell? ⟨g, off, none⟩ = some (.int .i64 a)) (c1 : w.cell? ⟨g, off + 1, none⟩ = some (.int .i64 b)) : SlI w (some ⟨g, off, none⟩) [a, b] := fun j u hj => by
  rcases j with _ | _ | j
  · simp at hj; subst hj; exact ⟨g, off, rfl, hg, c0⟩
  · simp at hj; subst hj; exact ⟨g, off, rfl, hg, c1⟩
  · simp at hj
set_option maxHeartbeats 4000000 in
set_option maxRecDepth 100000 in
theorem inserted_c (xs : List Ce) (A : Option Addr) (cA base : Nat) (c1 c2 : Int) (w : World) (hn : xs.length ≤ 100000) (hbs : base ≤ w.heap.size) (ho : w.ownsRow base 22 2 (.slice A xs.length cA) xs.length (xs.flatMap ceV)) :
    Calls Tryz.prog 135 #[.slice A xs.length cA, .agg #[.int .i64 c1, .int .i64 c2]] w (InEnd (insC xs (c1, c2)) base w) := by
  have hR : insC xs (c1, c2) = if xs[atC (c1, c2) xs]? = some (c1, c2) then xs else xs.take (atC (c1, c2) xs) ++ [(c1, c2)] ++ xs.drop (atC (c1, c2) xs) := rfl
  generalize insC xs (c1, c2) = R at *
  have hatl := atC_le (c1, c2) xs
  have HLo := Lib.hid (fun k (h : k < atC (c1, c2) xs) => atC_get (l := xs) (p := (c1, c2)) h)
  have HHi := Lib.hid (fun y (h : xs[atC (c1, c2) xs]? = some y) => atC_stop (l := xs) (p := (c1, c2)) h)
  generalize atC (c1, c2) xs = at0 at *
  have HR := Lib.hid hR
  clear hR
  obtain ⟨u0, zC, hu0, hy0, hy1, hy2, hy3⟩ := infoOk_parts infoC
  have hOs := slv_own (by decide) ho
  go_enter Tryz.func135, Tryz.ntmps135
  go_wp2
  obtain ⟨W5, hW5⟩ : ∃ W5 : World, W5 = w.alloc (.cells #[.int .i64 c1, .int .i64 c2] 22) := ⟨_, rfl⟩
  have hC : Box W5 w.heap.size 22 #[.int .i64 c1, .int .i64 c2] := by rw [hW5]; exact bX0
  have hB0 : Below w.heap.size w W5 := by rw [hW5]; exact bB0
  rw [← hW5]
  clear hW5
  have hlC := hC.lt
  go_loopw [5] (fun a wr => ∃ k : Nat, a = .int .i64 k ∧ k ≤ at0 ∧ Below W5.heap.size W5 wr) (fun a _ => xs.length - (intOf a).toNat)
  case atStart => exact ⟨0, rfl, Nat.zero_le _, Below.refl _ _⟩
  case round =>
    obtain ⟨k, rfl, hk, hb⟩ := hrel
    go_upto_region 2 with fail
    have hbw : Below w.heap.size w wr := by exact bB2 hb hB0
    have hOr := hOs.below hbw
    have hoR := own_below ho hbw
    have hCr := hC.below hb hlC
    have hz6 := hbw.size
    clear hOs ho hC hB0
    generalize wr = W6 at *
    have lC := hCr.lt
    have z0 := hCr.cell 0; have z1 := hCr.cell 1
    simp at z0 z1
    obtain ⟨b1, hb1⟩ : ∃ b1, decide (k < at0) = b1 := ⟨_, rfl⟩
    have HB1 := Lib.hid hb1
    clear hb1
    go_cut [18] from 7 to 18 (fun s18 wx => s18 = .bool b1 ∧ Below W6.heap.size W6 wx)
    case first =>
      by_cases hke : k < xs.length
      · obtain ⟨y, hy⟩ : ∃ y, xs[k]? = some y := ⟨_, List.getElem?_eq_getElem hke⟩
        obtain ⟨gY, oY, e, lY, hcY⟩ := row_cells (enc := ceV) (k := 2) (fun _ => rfl) hOr (by omega) hy
        have y0 : W6.cell? ⟨gY, oY + k * 2, none⟩ = some (.int .i64 y.1) := by exact hcY 0 (by omega)
        have y1 : W6.cell? ⟨gY, oY + k * 2 + 1, none⟩ = some (.int .i64 y.2) := by exact hcY 1 (by omega)
        have hbb : befL [y.1, y.2] [c1, c2] = decide (k < at0) := by
          rw [show befL [y.1, y.2] [c1, c2] = _ from befL_cmpC y (c1, c2)]
          by_cases h : k < at0
          · obtain ⟨z, hz, hzb⟩ := HLo.out k h
            rw [hy] at hz
            cases hz
            rw [decide_eq_true h, decide_eq_true hzb]
          · have e2 : k = at0 := by omega
            subst e2
            rw [decide_eq_false h, decide_eq_false (by have := HHi.out _ hy; omega)]
        subst e
        clear hy hcY HLo HHi HR
        obtain ⟨p1, p2⟩ := y
        dsimp only at y0 y1 hbb
        have BEc := Lib.hid (fun W (h : Below W6.heap.size W6 W) => show Calls Tryz.prog 103 #[.slice (some ⟨gY, oY + k * 2, none⟩) 2 2, .slice (some ⟨w.heap.size, 0, none⟩) 2 2] W (fun e w' => e = .returned (.bool (befL [p1, p2] [c1, c2])) ∧ Below W.heap.size W w') from before_c [p1, p2] [c1, c2] (some ⟨gY, oY + k * 2, none⟩) (some ⟨w.heap.size, 0, none⟩) 2 2 W (by simp) (by simp) ((sli_at lY y0 y1).below h) ((sli_two hCr).below h))
        rw [hbb, HB1.out] at BEc
        clear hbb HB1
        have k0 : 0 ≤ (k : Int) := by omega
        have k1 : (k : Int) < (xs.length : Int) := by omega
        (refine region_open (by kernel_rfl) (fun R hR => ?_); refine heldR (S := (fun w' => Below W6.heap.size W6 w')) ?_ (fun hHeld => ?_); (focus ((try dsimp only); (((first | exact bB0 | exact bB1 hb4))))); refine rgN 0 rfl ?_; refine rgN 1 rfl ?_; refine rgN 2 rfl ?_; refine rgN 3 rfl ?_; refine rgN 4 rfl ?_; refine rgN 5 rfl ?_; refine rgN 6 rfl ?_; refine rgN 7 rfl ?_; refine rgN 8 rfl ?_; refine rgN 9 rfl ?_; refine rgC 10 rfl (fun K hK => ?_); go_simp; ((go_at_call 103; (with_reducible refine (BEc.out _ (by exact bB0)).mono ?_); rintro e w4 ⟨rfl, hb4⟩)); go_simp; refine hK.out _ _ ?_ (fun hHeld => ?_); (focus ((try dsimp only); (((first | exact bB1 hb4 | exact bB0))))); clear hK K; (try simp only [Act.put, pqs]); refine rgN 11 rfl ?_; refine wpAnyH_done (Q := fun e a w => e = Exit.normal ∧ R a w) (by kernel_rfl) ⟨rfl, hR _ _ ?_⟩ _; clear hR R)
        go_wp2_with fail
        go_meet
        exact ⟨rfl, by exact bB1 hb4⟩
      · have d1 : decide ((k : Int) < (xs.length : Int)) = false := decide_eq_false (by omega)
        have e : false = b1 := by rw [← HB1.out]; exact (decide_eq_false (by omega)).symm
        subst e
        clear HB1 HLo HHi HR
        (refine region_open (by kernel_rfl) (fun R hR => ?_); refine heldR (S := (fun w' => Below W6.heap.size W6 w')) ?_ (fun hHeld => ?_); (focus ((try dsimp only); (((first | exact bB0 | exact bB0))))); refine rgN 0 rfl ?_; refine rgN 1 rfl ?_; refine rgN 2 rfl ?_; refine rgN 3 rfl ?_; refine rgN 4 rfl ?_; refine tsH (i := 5) rfl (by assumption) ?_; refine tsH (i := 6) rfl (by assumption) ?_; refine tsH (i := 7) rfl (by assumption) ?_; refine tsH (i := 8) rfl (by assumption) ?_; refine tsH (i := 9) rfl (by assumption) ?_; refine tsH (i := 10) rfl (by assumption) ?_; refine rgN 11 rfl ?_; refine wpAnyH_done (Q := fun e a w => e = Exit.normal ∧ R a w) (by kernel_rfl) ⟨rfl, hR _ _ ?_⟩ _; clear hR R)
        go_wp2_with fail
        go_meet
        exact ⟨rfl, by exact bB0⟩
    case rest =>
      obtain ⟨rfl, hbx⟩ := hcut
      by_cases hka : k < at0
      · have e : true = b1 := by rw [← HB1.out]; exact (decide_eq_true hka).symm
        subst e
        go_wp2
        go_roundw
        case rel => exact ⟨k + 1, by go_num, by omega, by exact bB2 hbx hb⟩
        case measure => simp [intOf]; omega
      · have e : k = at0 := by omega
        subst e
        have e : false = b1 := by rw [← HB1.out]; exact (decide_eq_false hka).symm
        subst e
        clear hka HLo HHi HB1
        have hO7 := own_below hoR hbx
        have hB7 : Below w.heap.size w wc := by exact bB2 hbx hbw
        have hC7 := hCr.below hbx lC
        have hz7 := hB7.size
        clear hOr hoR hbx z0 z1 lC hCr hbw hz6
        go_upto_region 4 with fail
        generalize wc = W7 at *
        have lC := hC7.lt
        have z0 := hC7.cell 0; have z1 := hC7.cell 1
        simp at z0 z1
        have hOs := slv_own (by decide) hO7
        obtain ⟨b2, hb2⟩ : ∃ b2, decide (xs[k]? = some (c1, c2)) = b2 := ⟨_, rfl⟩
        have HB2 := Lib.hid hb2
        clear hb2
        go_cut [32] from 21 to 32 (fun s32 wx => s32 = .bool b2 ∧ Below W7.heap.size W7 wx)
        case first =>
          by_cases hke : k < xs.length
          · obtain ⟨y, hy⟩ : ∃ y, xs[k]? = some y := ⟨_, List.getElem?_eq_getElem hke⟩
            obtain ⟨gY, oY, e, lY, hcY⟩ := row_cells (enc := ceV) (k := 2) (fun _ => rfl) hOs (by omega) hy
            have y0 : W7.cell? ⟨gY, oY + k * 2, none⟩ = some (.int .i64 y.1) := by exact hcY 0 (by omega)
            have y1 : W7.cell? ⟨gY, oY + k * 2 + 1, none⟩ = some (.int .i64 y.2) := by exact hcY 1 (by omega)
            subst e
            obtain ⟨p1, p2⟩ := y
            dsimp only at y0 y1
            have h1 : sameC p1 p2 c1 c2 = b2 := by
              rw [← HB2.out, hy]
              unfold sameC
              exact decide_eq_decide.2 (by simp)
            clear hy hcY HR HB2 hOs hO7
            have k0 : 0 ≤ (k : Int) := by omega
            have k1 : (k : Int) < (xs.length : Int) := by omega
            (refine region_open (by kernel_rfl) (fun R hR => ?_); refine heldR (S := (fun w' => Below W7.heap.size W7 w')) ?_ (fun hHeld => ?_); (focus ((try dsimp only); (((first | exact bB0 | exact bB0))))); have hO := Lib.hid (fun w' (hSw : (fun w' => Below W7.heap.size W7 w') w') => (by (try dsimp only at hSw); (have hcc := (bcell hSw).1; have sa0 := (hcc _ _ lY).trans y0; have sa1 := (hcc _ _ lY).trans y1; have sc0 := (hcc _ _ lC).trans z0; have sc1 := (hcc _ _ lC).trans z1); exact And.intro sa0 (And.intro sa1 (And.intro sc0 sc1)))); refine rgN 0 rfl ?_; refine rgN 1 rfl ?_; refine rgN 2 rfl ?_; refine rgN 3 rfl ?_; refine rgN 4 rfl ?_; refine rgN 5 rfl ?_; refine rgN 6 rfl ?_; refine rgN 7 rfl ?_; refine rgL 8 hO rfl ?_; refine rgL 9 hO rfl ?_; refine rgN 10 rfl ?_; refine rgN 11 rfl ?_; refine wpAnyH_done (Q := fun e a w => e = Exit.normal ∧ R a w) (by kernel_rfl) ⟨rfl, hR _ _ ?_⟩ _; clear hR R)
            go_wp2_with fail
            go_meet
            exact ⟨rfl, by exact bB0⟩
          · have d1 : decide ((k : Int) < (xs.length : Int)) = false := decide_eq_false (by omega)
            have e : false = b2 := by rw [← HB2.out, List.getElem?_eq_none (by omega)]; rfl
            subst e
            clear HB2 HR
            (refine region_open (by kernel_rfl) (fun R hR => ?_); refine heldR (S := (fun w' => Below W7.heap.size W7 w')) ?_ (fun hHeld => ?_); (focus ((try dsimp only); (((first | exact bB0 | exact bB0))))); refine rgN 0 rfl ?_; refine rgN 1 rfl ?_; refine rgN 2 rfl ?_; refine rgN 3 rfl ?_; refine rgN 4 rfl ?_; refine tsH (i := 5) rfl (by assumption) ?_; refine tsH (i := 6) rfl (by assumption) ?_; refine tsH (i := 7) rfl (by assumption) ?_; refine tsH (i := 8) rfl (by assumption) ?_; refine tsH (i := 9) rfl (by assumption) ?_; refine tsH (i := 10) rfl (by assumption) ?_; refine rgN 11 rfl ?_; refine wpAnyH_done (Q := fun e a w => e = Exit.normal ∧ R a w) (by kernel_rfl) ⟨rfl, hR _ _ ?_⟩ _; clear hR R)
            go_wp2_with fail
            go_meet
            exact ⟨rfl, by exact bB0⟩
        case rest =>
          obtain ⟨rfl, hbx⟩ := hcut
          have hO9 := own_below hO7 hbx
          have hB9 : Below w.heap.size w wc := by exact bB2 hbx hB7
          have hC9 := hC7.below hbx lC
          have hz9 := hB9.size
          clear hOs hO7 hbx z0 z1 lC hC7 hB7 hz7
          generalize wc = W7 at *
          have lC := hC9.lt
          have z0 := hC9.cell 0; have z1 := hC9.cell 1
          simp at z0 z1
          cases b2
          case true =>
            have hin := of_decide_eq_true HB2.out
            have hR := HR.out
            rw [if_pos hin] at hR
            clear HB2 HR hin
            subst hR
            go_wp2
            go_ret
            exact ⟨A, cA, rfl, hO9, hB9⟩
          case false =>
            have hin := of_decide_eq_false HB2.out
            have hR := HR.out
            rw [if_neg hin] at hR
            clear HB2 HR hin
            have HR := Lib.hid hR
            have hLR : R.length = xs.length + 1 := by rw [hR]; simp; omega
            have HLR := Lib.hid hLR
            have HVR := Lib.hid (show R.flatMap ceV = ((xs.take k).flatMap ceV ++ [.int .i64 c1, .int .i64 c2]) ++ (xs.drop k).flatMap ceV by rw [hR, List.flatMap_append, List.flatMap_append]; rfl)
            clear hR hLR
            go_upto_region 6 with fail
            go_cut [6] from 34 to 38 (fun s6 wx => ∃ A9 c9, s6 = .slice A9 k c9 ∧ wx.ownsRow W7.heap.size 22 2 (.slice A9 k c9) k ((xs.take k).flatMap ceV) ∧ Below W7.heap.size W7 wx)
            case first =>
              have OW : (W7.alloc (.cells #[] 22)).ownsRow W7.heap.size 22 2 (.slice (some ⟨W7.heap.size, 0, none⟩) 0 0) 0 [] := by simpa using own_of_box (Box.new W7 22 #[]) (Nat.le_refl _) (n := 0) (by decide) rfl
              have k0 : 0 ≤ (k : Int) := by omega
              have k1 : (k : Int) ≤ (xs.length : Int) := by omega
              rcases own_cases hO9 with ⟨e1, e2, e3⟩ | ⟨gA, e1, hcap⟩
              · subst e1; subst e2
                have e4 : k = 0 := by omega
                subst e4
                obtain rfl : xs = [] := List.eq_nil_of_length_eq_zero e3
                clear e3
                go_wp2_with (at_builtin; go_must (refine wpList_append_own_none rfl _ _ 54 rfl W7.heap.size 22 u0 2 Tryz.underlying54 hu0 _ 0 [] rfl OW rfl ?_))
                go_meet
                exact ⟨some ⟨W7.heap.size, 0, none⟩, 0, rfl, OW, by exact bB0⟩
              · subst e1
                have HCP := Lib.hid (slv_add (SlV.below (slv_takeC (slv_own (by decide) hO9) k) (show Below W7.heap.size W7 (W7.alloc (.cells #[] 22)) from by exact bB0)) ⟨gA, 0, none⟩ rfl)
                have HOC := Lib.hid (one_ceV (xs.take k))
                have HLF := Lib.hid (show ((xs.take k).flatMap ceV).length = k * 2 from by rw [len_flat (enc := ceV) (k := 2) (fun _ => rfl), List.length_take, Nat.min_eq_left hatl])
                have hm1 : 0 + k ≤ maxLen := by unfold maxLen; omega
                have hm2 : (0 + k) * 16 ≤ 140737488355328 := by omega
                have k2 : (k : Int) ≤ (cA : Int) := by omega
                have k3 : k ≤ cA := by omega
                go_wp2_with (at_builtin; go_must (refine wpList_append_own _ rfl _ _ 54 rfl W7.heap.size 22 u0 zC 2 16 Tryz.underlying54 hu0 hy0 hy1 hy2 hy3 (by decide) _ 0 [] rfl OW ⟨gA, 0, none⟩ k cA ((xs.take k).flatMap ceV) rfl HLF.out HCP.out HOC.out hm1 hm2 (by simp) ?_); intro v' wx hown1 hgrow1 _)
                obtain ⟨A9, c9, rfl⟩ := own_shape hown1
                go_meet
                exact ⟨A9, c9, by simp, by simpa using hown1, (show Below W7.heap.size W7 (W7.alloc (.cells #[] 22)) from by exact bB0).grown hgrow1 (by simp) (fun r e => by have e : some W7.heap.size = some r := e; cases e; exact Nat.le_refl _)⟩
            case rest =>
              obtain ⟨A9, c9, rfl, hM9, hb9⟩ := hcut
              have hCx := hC9.below hb9 lC
              have hO8 := own_below hO9 hb9
              clear z0 z1 lC hC9
              generalize wc = W8 at *
              have lC := hCx.lt
              have z0 := hCx.cell 0; have z1 := hCx.cell 1
              simp at z0 z1
              have hm1 : k + 1 ≤ maxLen := by unfold maxLen; omega
              have hm2 : (k + 1) * 16 ≤ 140737488355328 := by omega
              have hzb := hb9.size
              go_upto_region 7 with fail
              go_cut [6] from 39 to 42 (fun s6 wx => ∃ A9 c9, s6 = .slice A9 (k + 1) c9 ∧ wx.ownsRow W7.heap.size 22 2 (.slice A9 (k + 1) c9) (k + 1) ((xs.take k).flatMap ceV ++ [.int .i64 c1, .int .i64 c2]) ∧ Below W7.heap.size W7 wx)
              case first =>
                clear hO8 hO9 HR HLR HVR
                go_wp2_with (at_builtin; go_must (refine wpList_append_own _ rfl _ _ 54 rfl W7.heap.size 22 u0 zC 2 16 Tryz.underlying54 hu0 hy0 hy1 hy2 hy3 (by decide) _ k _ rfl (hM9.alloc _) ⟨W8.heap.size, 0, none⟩ 1 1 [.int .i64 c1, .int .i64 c2] rfl rfl (cells_new W8 [.int .i64 c1, .int .i64 c2] _) (by simp [Value.oneCell']) hm1 hm2 (by simp; omega) ?_); intro v' wx hown1 hgrow1 _)
                obtain ⟨A8, c8, rfl⟩ := own_shape hown1
                go_meet
                exact ⟨A8, c8, rfl, hown1, (show Below W7.heap.size W7 (W8.alloc (.cells #[.int .i64 c1, .int .i64 c2] 22)) from by exact bB1 hb9).grown hgrow1 (by simp; omega) (fun r e => (own_blk hM9 (show (Value.slice A9 k c9).ownBlock = some r from e)).1)⟩
              case rest =>
                clear hM9 hb9 hzb z0 z1 lC hCx
                obtain ⟨AM, cM, rfl, hM9, hbN⟩ := hcut
                have hOx := own_below hO9 hbN
                clear hO8
                generalize wc = W9 at *
                have hpos : 0 < k + 1 := Nat.succ_pos k
                obtain ⟨gM, cM', e, hgM, hgM2⟩ := own_pos hM9 hpos (by decide)
                cases e
                have k0 : 0 ≤ (k : Int) := by omega
                have k1 : (k : Int) ≤ (xs.length : Int) := by omega
                have HM9 := Lib.hid hM9
                clear hM9
                have hbs9 : base ≤ W7.heap.size := by omega
                have hzN := hbN.size
                rcases own_cases hOx with ⟨e1, e2, e3⟩ | ⟨gA, e1, hcap⟩
                · subst e1; subst e2
                  have e4 : k = 0 := by omega
                  subst e4
                  obtain rfl : xs = [] := List.eq_nil_of_length_eq_zero e3
                  clear e3
                  have hV0 : R.flatMap ceV = [] ++ [.int .i64 c1, .int .i64 c2] := by rw [HVR.out]; simp
                  have hL0 : R.length = 1 := HLR.out
                  have HL0 := Lib.hid hL0
                  have HV0 := Lib.hid hV0
                  clear hV0 hL0 HVR HLR HR
                  go_wp2_with (at_builtin; go_must (refine wpList_append_own_none rfl _ _ 54 rfl W7.heap.size 22 u0 2 Tryz.underlying54 hu0 _ 1 _ rfl HM9.out rfl ?_))
                  go_ret
                  exact ⟨some ⟨gM, 0, none⟩, cM, by rw [HL0.out] <;> rfl, by rw [HL0.out, HV0.out]; exact own_base HM9.out (by omega), by exact bB2 hbN hB9⟩
                · subst e1
                  have hHC : ∀ j u, ((xs.drop k).flatMap ceV)[j]? = some u → W9.cell? ((⟨gA, k * 2, none⟩ : Addr).add j) = some u := fun j u hj => by
                    have h1 := slv_add (slv_own (by decide) hOx) ⟨gA, 0, none⟩ rfl (k * 2 + j) u (by
                      have e : xs.flatMap ceV = (xs.take k).flatMap ceV ++ (xs.drop k).flatMap ceV := by rw [← List.flatMap_append, List.take_append_drop]
                      have el : ((xs.take k).flatMap ceV).length = k * 2 := by rw [len_flat (enc := ceV) (k := 2) (fun _ => rfl), List.length_take, Nat.min_eq_left hatl]
                      rw [e, List.getElem?_append_right (by rw [el]; omega), el, Nat.add_sub_cancel_left]
                      exact hj)
                    rw [show (⟨gA, k * 2, none⟩ : Addr).add j = (⟨gA, 0, none⟩ : Addr).add (k * 2 + j) from by by_cases h : j = 0 <;> by_cases h2 : k = 0 <;> simp [Addr.add, h, h2] <;> omega]
                    exact h1
                  obtain ⟨AD, hAD, hAC⟩ : ∃ AD : Addr, (if cA = k then some (⟨gA, 0, none⟩ : Addr) else some ⟨gA, k * 2, none⟩) = some AD ∧ ∀ j u, ((xs.drop k).flatMap ceV)[j]? = some u → W9.cell? (AD.add j) = some u := by
                    by_cases hck : cA = k
                    · refine ⟨⟨gA, 0, none⟩, if_pos hck, fun j u hj => ?_⟩
                      rw [List.drop_eq_nil_of_le (by omega)] at hj
                      simp at hj
                    · exact ⟨⟨gA, k * 2, none⟩, if_neg hck, hHC⟩
                  have HCP := Lib.hid hAC
                  clear hAC
                  have HOC := Lib.hid (one_ceV (xs.drop k))
                  have HLF := Lib.hid (show ((xs.drop k).flatMap ceV).length = (xs.length - k) * 2 from by rw [len_flat (enc := ceV) (k := 2) (fun _ => rfl), List.length_drop])
                  have hm1 : (k + 1) + (xs.length - k) ≤ maxLen := by unfold maxLen; omega
                  have hm2 : ((k + 1) + (xs.length - k)) * 16 ≤ 140737488355328 := by omega
                  have k2 : (k : Int) ≤ (cA : Int) := by omega
                  have k3 : k ≤ cA := by omega
                  have k4 : k + 1 + (xs.length - k) = xs.length + 1 := by omega
                  have HK4 := Lib.hid k4
                  clear hHC k4 HR
                  go_wp2_with (at_builtin; go_must (refine wpList_append_own _ rfl _ _ 54 rfl W7.heap.size 22 u0 zC 2 16 Tryz.underlying54 hu0 hy0 hy1 hy2 hy3 (by decide) _ (k + 1) _ rfl HM9.out AD (xs.length - k) (cA - k) ((xs.drop k).flatMap ceV) rfl HLF.out HCP.out HOC.out hm1 hm2 (by first | omega | (simp; done) | (simp; omega)) ?_); intro v' wx hown1 hgrow1 _)
                  obtain ⟨gN, cN, rfl, _, _⟩ := own_pos hown1 (by omega) (by decide)
                  have hBx : Below W7.heap.size W7 wx := hbN.grown hgrow1 (by have := hbN.size; omega) (fun r e => by have e : some gM = some r := e; cases e; exact hgM)
                  rw [HK4.out, ← HVR.out] at hown1
                  have HOx := Lib.hid hown1
                  clear hown1
                  go_wp2_with fail
                  go_ret
                  exact ⟨some ⟨gN, 0, none⟩, cN, by rw [HLR.out, HK4.out] <;> rfl, by rw [HLR.out]; exact own_base HOx.out (by omega), by exact bB2 hBx hB9⟩
end Go.Proofs.YtpnfgmgoafgcbaaGreat
set_option linter.unusedVariables false
namespace Go.Proofs.YtpnfgmgoafgcbaaGreat
abbrev SrtC (l : List Ce) : Prop := l.Pairwise (fun a b => cmpC a b < 0)
theorem cmpC_zero {x y : Ce} : cmpC x y = 0 ↔ x = y := by
  obtain ⟨a, b⟩ := x; obtain ⟨c, d⟩ := y
  unfold cmpC
  rw [lexC_zero]
  simp
theorem cmpC_neg (x y : Ce) : cmpC y x = -cmpC x y := lexC_neg _ _
theorem cmpC_tr {x y z : Ce} (h1 : cmpC x y < 0) (h2 : cmpC y z < 0) : cmpC x z < 0 := lexC_tr h1 h2
theorem insC_nil (p : Ce) : insC [] p = [p] := by simp [insC, atC]
theorem insC_cons (x : Ce) (r : List Ce) (p : Ce) : insC (x :: r) p = if cmpC x p < 0 then x :: insC r p else if x = p then x :: r else p :: x :: r := by
  unfold insC
  simp only [atC]
  split
  · simp only [List.getElem?_cons_succ, List.take_succ_cons, List.drop_succ_cons]
    split <;> rfl
  · simp only [List.getElem?_cons_zero, Option.some.injEq, List.take_zero, List.drop_zero]
    split <;> rfl
theorem mem_insC {c p : Ce} : ∀ {l : List Ce}, c ∈ insC l p ↔ c = p ∨ c ∈ l
  | [] => by simp [insC_nil]
  | x :: r => by
    rw [insC_cons]
    split
    · rw [List.mem_cons, mem_insC (l := r), List.mem_cons]
      constructor
      · rintro (h | h | h) <;> simp [h]
      · rintro (h | h | h) <;> simp [h]
    · split
      · rename_i h; subst h
        simp
      · simp
theorem srt_insC {p : Ce} : ∀ {l : List Ce}, SrtC l → SrtC (insC l p)
  | [], _ => by rw [insC_nil]; exact List.pairwise_singleton _ _
  | x :: r, h => by
    have h' := List.pairwise_cons.1 h
    rw [insC_cons]
    split
    · rename_i hx
      refine List.pairwise_cons.2 ⟨fun y hy => ?_, srt_insC h'.2⟩
      rcases mem_insC.1 hy with rfl | hy
      · exact hx
      · exact h'.1 y hy
    · rename_i hx
      split
      · exact h
      · rename_i hne
        have hpx : cmpC p x < 0 := by
          rw [cmpC_neg x p]
          have : cmpC x p ≠ 0 := fun e => hne (cmpC_zero.1 e)
          omega
        refine List.pairwise_cons.2 ⟨fun y hy => ?_, h⟩
        rcases List.mem_cons.1 hy with rfl | hy
        · exact hpx
        · exact cmpC_tr hpx (h'.1 y hy)
theorem foldl_insC {l : List Ce} : ∀ {o : List Ce}, SrtC o → SrtC (l.foldl insC o) ∧ ∀ c, c ∈ l.foldl insC o ↔ c ∈ o ∨ c ∈ l := by
  induction l with
  | nil => intro o h; exact ⟨h, by simp⟩
  | cons x r ih =>
    intro o h
    obtain ⟨h1, h2⟩ := ih (o := insC o x) (srt_insC h)
    refine ⟨h1, fun c => ?_⟩
    rw [List.foldl_cons, h2, mem_insC, List.mem_cons]
    constructor
    · rintro ((h | h) | h) <;> simp [h]
    · rintro (h | h | h) <;> simp [h]
theorem mem_cpl {L : List Ce} {c : Ce} : ∀ k, c ∈ cpl L k ↔ ∃ i, i < k ∧ L[i]? = some c
  | 0 => by simp [cpl]
  | k + 1 => by
    simp only [cpl, List.mem_append, mem_cpl k]
    constructor
    · rintro (⟨i, h1, h2⟩ | h)
      · exact ⟨i, by omega, h2⟩
      · split at h
        · exact ⟨k, by omega, by simpa using h⟩
        · simp at h
    · rintro ⟨i, h1, h2⟩
      by_cases hi : i < k
      · exact .inl ⟨i, hi, h2⟩
      · obtain rfl : i = k := by omega
        by_cases hc : i = 0 ∨ L[i]? ≠ L[i - 1]?
        · right; rw [if_pos hc]; simpa using h2
        · left
          simp only [not_or, Decidable.not_not] at hc
          exact ⟨i - 1, by omega, by rw [← hc.2]; exact h2⟩
theorem srt_cpl {L : List Ce} (hL : L.Pairwise (fun a b => ¬ cmpC b a < 0)) : ∀ k, SrtC (cpl L k)
  | 0 => List.Pairwise.nil
  | k + 1 => by
    have ih := srt_cpl hL k
    simp only [cpl]
    split
    · rename_i hc
      cases hx : L[k]? with
      | none => simpa using ih
      | some x =>
        refine List.pairwise_append.2 ⟨ih, by simp, fun a ha b hb => ?_⟩
        obtain rfl : b = x := by simpa using hb
        obtain ⟨i, hi, ha⟩ := (mem_cpl k).1 ha
        have hk0 : k ≠ 0 := by omega
        have hne : L[k]? ≠ L[k - 1]? := by
          rcases hc with h | h
          · exact absurd h hk0
          · exact h
        have hkl := (List.getElem?_eq_some_iff.1 hx).1
        have hw := List.pairwise_iff_getElem.1 hL
        have hy : L[k - 1]? = some L[k - 1] := List.getElem?_eq_getElem (by omega)
        have e1 : L[k] = b := by rw [List.getElem?_eq_getElem hkl] at hx; exact Option.some.inj hx
        have h1 := hw (k - 1) k (by omega) hkl (by omega)
        rw [e1] at h1
        have h2 : cmpC L[k - 1] b < 0 := by
          rw [cmpC_neg b]
          have : cmpC b L[k - 1] ≠ 0 := fun e => hne (by rw [hx, hy, cmpC_zero.1 e])
          omega
        have hil := (List.getElem?_eq_some_iff.1 ha).1
        have e2 : L[i] = a := by rw [List.getElem?_eq_getElem hil] at ha; exact Option.some.inj ha
        by_cases hik : i = k - 1
        · subst hik; rw [← e2]; exact h2
        · have h3 := hw i (k - 1) hil (by omega) (by omega)
          rw [e2] at h3
          by_cases h4 : cmpC L[k - 1] a = 0
          · rw [← cmpC_zero.1 h4]; exact h2
          · refine cmpC_tr (y := L[k - 1]) ?_ h2
            rw [cmpC_neg (L[k - 1]) a]
            omega
    · simpa using ih
theorem srt_unique {l m : List Ce} (hl : SrtC l) (hm : SrtC m) (h : ∀ c, c ∈ l ↔ c ∈ m) : l = m := by
  have irr : ∀ a : Ce, ¬ cmpC a a < 0 := fun a => by rw [cmpC_zero.2 rfl]; omega
  have nd : ∀ {l : List Ce}, SrtC l → l.Nodup := fun h => h.imp (fun {a b} h e => by subst e; exact irr _ h)
  refine ((List.perm_ext_iff_of_nodup (nd hl) (nd hm)).2 (fun {c} => h c)).eq_of_pairwise (fun a b _ _ h1 h2 => ?_) hl hm
  exact absurd (cmpC_tr h1 h2) (irr a)
/-- What the program finds is what the reference finds. -/
theorem cells_is {ys tot fl : List Ce} (hp : ys.Perm tot) (hs : ys.Pairwise (fun a b => ¬ cmpC b a < 0)) (hm : ∀ c, c ∈ fl ↔ c ∈ tot) : cpl ys ys.length = fl.foldl insC [] := by
  obtain ⟨h1, h2⟩ := foldl_insC (l := fl) (o := []) List.Pairwise.nil
  refine srt_unique (srt_cpl hs _) h1 fun c => ?_
  rw [mem_cpl, h2, hm, ← hp.mem_iff]
  constructor
  · rintro ⟨i, _, h⟩
    exact .inr (List.mem_of_getElem? h)
  · rintro (h | h)
    · simp at h
    · obtain ⟨i, hi⟩ := List.getElem?_of_mem h
      exact ⟨i, (List.getElem?_eq_some_iff.1 hi).1, hi⟩
end Go.Proofs.YtpnfgmgoafgcbaaGreat
set_option linter.unusedVariables false
namespace Go.Proofs.YtpnfgmgoafgcbaaGreat
open Go.RowKit Go.Shelf
attribute [local go_sem] Oper.semAt_some
/-- Cells, or an error. -/
def CeO (R : List Ce × Int) (w : World) (e : Ending) (w' : World) : Prop := ∃ A c, e = .returned (.tuple #[.slice A R.1.length c, .int .i64 R.2]) ∧ SlV w' A (R.1.flatMap ceV) ∧ Below w.heap.size w w'
def joO (s : Sc) (p : Ps) : List Ce × Int := if cpE s p ≠ 0 then ([], cpE s p) else (jts s p, 0)
set_option maxHeartbeats 4000000 in
set_option maxRecDepth 100000 in
theorem jointsOf_c (bx bY sl fx fX fy fY ps : Int) (L : List Lk) (B : List Bx) (Q : List Int) (AL AB AQ : Option Addr) (cL cB cQ : Nat) (w : World) (hL : L.length ≤ 1000) (hB : B.length ≤ 9223372036854775807) (hQ : Q.length ≤ 9223372036854775807)
    (hs1 : SlV w AL (L.flatMap lkV)) (hs2 : SlV w AB (B.flatMap bxV)) (hs3 : SlI w AQ Q) :
    Calls Tryz.prog 57 #[.agg #[.int .i64 bx, .int .i64 bY, .int .i64 sl, .slice AL L.length cL, .int .i64 fx, .int .i64 fX, .int .i64 fy, .int .i64 fY, .slice AB B.length cB], .agg #[.int .i64 ps, .slice AQ Q.length cQ]] w (CeO (joO (⟨bx, bY, sl, L, (fx, fX, fy, fY), B⟩ : Sc) (ps, Q)) w) := by
  have OPc := Lib.hid (fun W (h : Below w.heap.size w W) => open_c bx bY sl fx fX fy fY ps L B Q AL AB AQ cL cB cQ W (by omega) hB hQ (hs1.below h) (hs2.below h) (hs3.below h))
  have JOd := Lib.hid (fun (h0 : cpE (⟨bx, bY, sl, L, (fx, fX, fy, fY), B⟩ : Sc) (ps, Q) = 0) => fun W (h : Below w.heap.size w W) => by
    have hS := (cpE_ok h0).1; have hp := (cpE_ok h0).2
    have hbx := hS.bx; have hbY := hS.bY; have hlen := hS.len; have hlk := hS.lk; have hsl := hp.sl6 hS
    dsimp only at hbx hbY hlen hlk hsl
    exact joints_c bx bY sl fx fX fy fY ps L B Q AL AB AQ cL cB cQ W hp.len (by omega) (by omega) (by omega) (by omega) (fun l h => by have := hlk l h; omega) (hp.rng hS) (hs1.below h) (hs3.below h))
  have HO := Lib.hid (show joO (⟨bx, bY, sl, L, (fx, fX, fy, fY), B⟩ : Sc) (ps, Q) = if cpE (⟨bx, bY, sl, L, (fx, fX, fy, fY), B⟩ : Sc) (ps, Q) ≠ 0 then ([], cpE (⟨bx, bY, sl, L, (fx, fX, fy, fY), B⟩ : Sc) (ps, Q)) else (jts (⟨bx, bY, sl, L, (fx, fX, fy, fY), B⟩ : Sc) (ps, Q), 0) from rfl)
  clear hs1 hs2 hs3
  generalize cpE (⟨bx, bY, sl, L, (fx, fX, fy, fY), B⟩ : Sc) (ps, Q) = r at *
  generalize jts (⟨bx, bY, sl, L, (fx, fX, fy, fY), B⟩ : Sc) (ps, Q) = J at *
  generalize joO (⟨bx, bY, sl, L, (fx, fX, fy, fY), B⟩ : Sc) (ps, Q) = R at *
  go_enter Tryz.func57, Tryz.ntmps57
  go_upto_region 2 with (first | (go_at_call 106; refine (OPc.out _ (by exact bB0)).mono ?_; rintro e w2 ⟨rfl, hb2⟩; have hz2 : w.heap.size + 1 < w2.heap.size := (by have := hb2.size; (try simp at this); omega)) | fail)
  obtain ⟨W6, hW6⟩ : ∃ W6 : World, W6 = w2.alloc (.cells #[.int .i64 bx, .int .i64 bY, .int .i64 sl, .slice AL L.length cL, .int .i64 fx, .int .i64 fX, .int .i64 fy, .int .i64 fY, .slice AB B.length cB, .int .i64 ps, .slice AQ Q.length cQ] 135) := ⟨_, rfl⟩
  have G0 : Box W6 w2.heap.size 135 #[.int .i64 bx, .int .i64 bY, .int .i64 sl, .slice AL L.length cL, .int .i64 fx, .int .i64 fX, .int .i64 fy, .int .i64 fY, .slice AB B.length cB, .int .i64 ps, .slice AQ Q.length cQ] := (by rw [hW6]; exact Box.new _ _ _); have G5 : Below w.heap.size w W6 := (by rw [hW6]; exact bB1 hb2); (rw [← hW6]); clear hW6 hb2; generalize w2.heap.size = gS at *; have a0 := G0.cell 0; have a1 := G0.cell 1; have a2 := G0.cell 2; have a3 := G0.cell 3; have a4 := G0.cell 4; have a5 := G0.cell 5; have a6 := G0.cell 6; have a7 := G0.cell 7; have a8 := G0.cell 8; have a9 := G0.cell 9; have a10 := G0.cell 10; (simp at a0 a1 a2 a3 a4 a5 a6 a7 a8 a9 a10); have l0 := G0.lt
  by_cases hr : r = 0
  · have JOc := Lib.hid (JOd.out hr)
    clear JOd OPc
    have hR := HO.out
    rw [if_neg (by simpa using hr)] at hR
    clear HO
    subst hr
    subst hR
    go_wp2_with (first | (go_at_call 110; refine (JOc.out _ (by exact bB1 G5)).mono ?_; rintro e w5 hE5; obtain ⟨gJ, cJ, rfl, _, _, q3, _, hb5⟩ := hE5) | fail)
    go_ret2
    exact ⟨_, _, rfl, q3, by exact bB2 G5 hb5⟩
  · have hR := HO.out
    rw [if_pos hr] at hR
    subst hR
    have e1 := bneT hr
    clear JOd OPc HO hr
    go_wp2_with fail
    go_ret2
    exact ⟨none, 0, rfl, fun j u h => by simp at h, G5⟩
def celR (s : Sc) (p : Ps) : List Ce := (frP s p 0).foldl insC []
def ceO (s : Sc) (p : Ps) : List Ce × Int := if cpE s p ≠ 0 then ([], cpE s p) else (celR s p, 0)
theorem clP_ne {s : Sc} {p : Ps} (hS : SOk s) (hp : POk s p) : clP s p 0 ≠ [] := by
  have h1 := jts_len (s := s) (p := p) hp.len
  have h2 := hS.len.1
  show segs (jts s p) ≠ []
  match h3 : jts s p, h1 with
  | a :: b :: r, _ =>
    intro e
    have := congrArg List.length e
    simp [segs, seg_len] at this
  | [a], h1 => rw [List.length_singleton] at h1; omega
  | [], h1 => simp at h1
set_option maxHeartbeats 4000000 in
set_option maxRecDepth 100000 in
theorem cellsOf_c (bx bY sl fx fX fy fY ps : Int) (L : List Lk) (B : List Bx) (Q : List Int) (AL AB AQ : Option Addr) (cL cB cQ : Nat) (w : World) (hL : L.length ≤ 1000) (hB : B.length ≤ 9223372036854775807) (hQ : Q.length ≤ 9223372036854775807)
    (hs1 : SlV w AL (L.flatMap lkV)) (hs2 : SlV w AB (B.flatMap bxV)) (hs3 : SlI w AQ Q) :
    Calls Tryz.prog 58 #[.agg #[.int .i64 bx, .int .i64 bY, .int .i64 sl, .slice AL L.length cL, .int .i64 fx, .int .i64 fX, .int .i64 fy, .int .i64 fY, .slice AB B.length cB], .agg #[.int .i64 ps, .slice AQ Q.length cQ]] w (CeO (ceO (⟨bx, bY, sl, L, (fx, fX, fy, fY), B⟩ : Sc) (ps, Q)) w) := by
  have OPc := Lib.hid (fun W (h : Below w.heap.size w W) => open_c bx bY sl fx fX fy fY ps L B Q AL AB AQ cL cB cQ W (by omega) hB hQ (hs1.below h) (hs2.below h) (hs3.below h))
  have SOd := Lib.hid (fun (h0 : cpE (⟨bx, bY, sl, L, (fx, fX, fy, fY), B⟩ : Sc) (ps, Q) = 0) => fun W (h : Below w.heap.size w W) gA hA hF => by
    have hS := (cpE_ok h0).1; have hp := (cpE_ok h0).2
    have hne := clP_ne hS hp
    have hbx := hS.bx; have hbY := hS.bY; have hlen := hS.len; have hlk := hS.lk; have hsl := hp.sl6 hS
    dsimp only at hbx hbY hlen hlk hsl
    exact sorted_c gA bx bY sl fx fX fy fY ps L B Q AL AB AQ cL cB cQ W hp.len (by omega) hne (by omega) (by omega) (by omega) (fun l h => by have := hlk l h; omega) (hp.rng hS) (hs1.below h) (hs3.below h) hA hF)
  have HO := Lib.hid (show ceO (⟨bx, bY, sl, L, (fx, fX, fy, fY), B⟩ : Sc) (ps, Q) = if cpE (⟨bx, bY, sl, L, (fx, fX, fy, fY), B⟩ : Sc) (ps, Q) ≠ 0 then ([], cpE (⟨bx, bY, sl, L, (fx, fX, fy, fY), B⟩ : Sc) (ps, Q)) else (celR (⟨bx, bY, sl, L, (fx, fX, fy, fY), B⟩ : Sc) (ps, Q), 0) from rfl)
  have HC := Lib.hid (fun (h0 : cpE (⟨bx, bY, sl, L, (fx, fX, fy, fY), B⟩ : Sc) (ps, Q) = 0) (ys : List Ce) (k1 : ys.Perm (clP (⟨bx, bY, sl, L, (fx, fX, fy, fY), B⟩ : Sc) (ps, Q) 0)) (k2 : ys.Pairwise (fun a b => ¬ cmpC b a < 0)) => show cpl ys ys.length = celR (⟨bx, bY, sl, L, (fx, fX, fy, fY), B⟩ : Sc) (ps, Q) ∧ ys ≠ [] ∧ ys.length ≤ 10000 from by
    have hS := (cpE_ok h0).1; have hp := (cpE_ok h0).2
    have hne := clP_ne hS hp
    have hbx := hS.bx; have hbY := hS.bY; have hlen := hS.len; have hlk := hS.lk; have hsl := hp.sl6 hS
    have h3 := clP_len (s := (⟨bx, bY, sl, L, (fx, fX, fy, fY), B⟩ : Sc)) (p := (ps, Q)) hp.len hlen.2 (fun l h => by have := hlk l h; omega) (by dsimp only at *; omega) (by dsimp only at *; omega) (by dsimp only at *; omega)
    refine ⟨cells_is k1 k2 (mem_frP (fun z hz => (hlk z hz).1) hp.len hlen.1), fun e => hne ?_, by rw [k1.length_eq]; exact h3⟩
    subst e
    exact k1.symm.eq_nil)
  clear hs1 hs2 hs3
  generalize cpE (⟨bx, bY, sl, L, (fx, fX, fy, fY), B⟩ : Sc) (ps, Q) = r at *
  generalize celR (⟨bx, bY, sl, L, (fx, fX, fy, fY), B⟩ : Sc) (ps, Q) = J at *
  generalize clP (⟨bx, bY, sl, L, (fx, fX, fy, fY), B⟩ : Sc) (ps, Q) 0 = tot at *
  generalize ceO (⟨bx, bY, sl, L, (fx, fX, fy, fY), B⟩ : Sc) (ps, Q) = R at *
  go_enter Tryz.func58, Tryz.ntmps58
  go_upto_region 2 with (first | (go_at_call 106; refine (OPc.out _ (by exact bB0)).mono ?_; rintro e w2 ⟨rfl, hb2⟩; have hz2 : w.heap.size + 1 < w2.heap.size := (by have := hb2.size; (try simp at this); omega)) | fail)
  obtain ⟨W6, hW6⟩ : ∃ W6 : World, W6 = w2.alloc (.cells #[.int .i64 bx, .int .i64 bY, .int .i64 sl, .slice AL L.length cL, .int .i64 fx, .int .i64 fX, .int .i64 fy, .int .i64 fY, .slice AB B.length cB, .int .i64 ps, .slice AQ Q.length cQ] 135) := ⟨_, rfl⟩
  have G0 : Box W6 w2.heap.size 135 #[.int .i64 bx, .int .i64 bY, .int .i64 sl, .slice AL L.length cL, .int .i64 fx, .int .i64 fX, .int .i64 fy, .int .i64 fY, .slice AB B.length cB, .int .i64 ps, .slice AQ Q.length cQ] := (by rw [hW6]; exact Box.new _ _ _); have G5 : Below w.heap.size w W6 := (by rw [hW6]; exact bB1 hb2); (rw [← hW6]); clear hW6 hb2; generalize w2.heap.size = gS at *; have a0 := G0.cell 0; have a1 := G0.cell 1; have a2 := G0.cell 2; have a3 := G0.cell 3; have a4 := G0.cell 4; have a5 := G0.cell 5; have a6 := G0.cell 6; have a7 := G0.cell 7; have a8 := G0.cell 8; have a9 := G0.cell 9; have a10 := G0.cell 10; (simp at a0 a1 a2 a3 a4 a5 a6 a7 a8 a9 a10); have l0 := G0.lt
  by_cases hr : r = 0
  · have SOc := Lib.hid (SOd.out hr)
    have HCc := Lib.hid (HC.out hr)
    clear SOd OPc HC
    have hR := HO.out
    rw [if_neg (by simpa using hr)] at hR
    clear HO
    subst hr
    subst hR
    go_upto_region 5 with (first | (go_at_call 130; refine (callsIn_wide.1 (cells_in Fence.wide 0 trivial rfl _ _ _ _ _ _ _ _ _ _ _ _ _ _ _ _ _ _ _)).mono ?_; rintro e w3 ⟨rfl, rfl⟩) | (go_at_call 129; (with_reducible refine (SOc.out _ ?_ W6.heap.size ?_ ?_).mono ?_); rotate_left; rotate_left; rotate_left; rintro e w5 hE5; obtain ⟨A, cY, ys, rfl, hp5, hs5, ho5, hb5⟩ := hE5; rotate_left; (focus (exact bB1 G5)); (focus (exact bX0)); (focus (exact bX0))) | fail)
    obtain ⟨q1, q2, q3⟩ := HCc.out ys hp5 hs5
    obtain ⟨g, cg, e5, hg, hgl⟩ := own_pos ho5 (List.length_pos_iff.2 q2) (by decide)
    cases e5
    have CPc := Lib.hid (compact_c ys g cY _ w5 (by omega) q2 ho5)
    have HQ := Lib.hid q1
    have HB5 : Below w.heap.size w w5 := by exact bB2 G5 hb5
    have hbz := hb5.size
    clear hp5 hs5 ho5 hb5 q1 q2 q3 HCc
    go_wp2_with (first | (go_at_call 133; (with_reducible refine CPc.out.mono ?_); rintro e w7 hE7; obtain ⟨A7, c7, rfl, hv7, hb7⟩ := hE7) | fail)
    go_ret2
    rw [HQ.out] at hv7 ⊢
    exact ⟨_, _, rfl, hv7, HB5.trans (hb7.mono (by have := G5.size; simp; omega))⟩
  · have hR := HO.out
    rw [if_pos hr] at hR
    subst hR
    have e1 := bneT hr
    clear SOd OPc HO hr HC
    go_wp2_with fail
    go_ret2
    exact ⟨none, 0, rfl, fun j u h => by simp at h, G5⟩
def ifO (s : Sc) (p : Ps) : Bool := decide (cpE s p = 0) && freeP s p
set_option maxHeartbeats 4000000 in
set_option maxRecDepth 100000 in
theorem isFreeO_c (bx bY sl fx fX fy fY ps : Int) (L : List Lk) (B : List Bx) (Q : List Int) (AL AB AQ : Option Addr) (cL cB cQ : Nat) (w : World) (hL : L.length ≤ 1000) (hB : B.length ≤ 9223372036854775807) (hQ : Q.length ≤ 9223372036854775807)
    (hs1 : SlV w AL (L.flatMap lkV)) (hs2 : SlV w AB (B.flatMap bxV)) (hs3 : SlI w AQ Q) :
    Calls Tryz.prog 59 #[.agg #[.int .i64 bx, .int .i64 bY, .int .i64 sl, .slice AL L.length cL, .int .i64 fx, .int .i64 fX, .int .i64 fy, .int .i64 fY, .slice AB B.length cB], .agg #[.int .i64 ps, .slice AQ Q.length cQ]] w fun e w' => e = .returned (.tuple #[.bool (ifO (⟨bx, bY, sl, L, (fx, fX, fy, fY), B⟩ : Sc) (ps, Q)), .int .i64 (cpE (⟨bx, bY, sl, L, (fx, fX, fy, fY), B⟩ : Sc) (ps, Q))]) ∧ Below w.heap.size w w' := by
  have OPc := Lib.hid (fun W (h : Below w.heap.size w W) => open_c bx bY sl fx fX fy fY ps L B Q AL AB AQ cL cB cQ W (by omega) hB hQ (hs1.below h) (hs2.below h) (hs3.below h))
  have FRd := Lib.hid (fun (h0 : cpE (⟨bx, bY, sl, L, (fx, fX, fy, fY), B⟩ : Sc) (ps, Q) = 0) => fun W (h : Below w.heap.size w W) => by
    have hS := (cpE_ok h0).1; have hp := (cpE_ok h0).2
    have hbx := hS.bx; have hbY := hS.bY; have hlen := hS.len; have hlk := hS.lk; have hsl := hp.sl6 hS
    dsimp only at hbx hbY hlen hlk hsl
    exact isFree_c bx bY sl fx fX fy fY ps L B Q AL AB AQ cL cB cQ W hp.len (by omega) (by omega) (by omega) (by omega) (by omega) (fun l h => by have := hlk l h; omega) (hp.rng hS) (hs1.below h) (hs2.below h) (hs3.below h))
  have HO := Lib.hid (show ifO (⟨bx, bY, sl, L, (fx, fX, fy, fY), B⟩ : Sc) (ps, Q) = (decide (cpE (⟨bx, bY, sl, L, (fx, fX, fy, fY), B⟩ : Sc) (ps, Q) = 0) && freeP (⟨bx, bY, sl, L, (fx, fX, fy, fY), B⟩ : Sc) (ps, Q)) from rfl)
  clear hs1 hs2 hs3
  generalize cpE (⟨bx, bY, sl, L, (fx, fX, fy, fY), B⟩ : Sc) (ps, Q) = r at *
  generalize freeP (⟨bx, bY, sl, L, (fx, fX, fy, fY), B⟩ : Sc) (ps, Q) = f at *
  generalize ifO (⟨bx, bY, sl, L, (fx, fX, fy, fY), B⟩ : Sc) (ps, Q) = R at *
  go_enter Tryz.func59, Tryz.ntmps59
  go_upto_region 2 with (first | (go_at_call 106; refine (OPc.out _ (by exact bB0)).mono ?_; rintro e w2 ⟨rfl, hb2⟩; have hz2 : w.heap.size + 1 < w2.heap.size := (by have := hb2.size; (try simp at this); omega)) | fail)
  obtain ⟨W6, hW6⟩ : ∃ W6 : World, W6 = w2.alloc (.cells #[.int .i64 bx, .int .i64 bY, .int .i64 sl, .slice AL L.length cL, .int .i64 fx, .int .i64 fX, .int .i64 fy, .int .i64 fY, .slice AB B.length cB, .int .i64 ps, .slice AQ Q.length cQ] 135) := ⟨_, rfl⟩
  have G0 : Box W6 w2.heap.size 135 #[.int .i64 bx, .int .i64 bY, .int .i64 sl, .slice AL L.length cL, .int .i64 fx, .int .i64 fX, .int .i64 fy, .int .i64 fY, .slice AB B.length cB, .int .i64 ps, .slice AQ Q.length cQ] := (by rw [hW6]; exact Box.new _ _ _); have G5 : Below w.heap.size w W6 := (by rw [hW6]; exact bB1 hb2); (rw [← hW6]); clear hW6 hb2; generalize w2.heap.size = gS at *; have a0 := G0.cell 0; have a1 := G0.cell 1; have a2 := G0.cell 2; have a3 := G0.cell 3; have a4 := G0.cell 4; have a5 := G0.cell 5; have a6 := G0.cell 6; have a7 := G0.cell 7; have a8 := G0.cell 8; have a9 := G0.cell 9; have a10 := G0.cell 10; (simp at a0 a1 a2 a3 a4 a5 a6 a7 a8 a9 a10); have l0 := G0.lt
  by_cases hr : r = 0
  · have FRc := Lib.hid (FRd.out hr)
    clear FRd OPc
    have hR : R = f := by rw [HO.out]; simp [hr]
    clear HO
    subst hr
    subst hR
    go_wp2_with (first | (go_at_call 107; refine (FRc.out _ (by exact bB1 G5)).mono ?_; rintro e w5 ⟨rfl, hb5⟩) | fail)
    go_ret2
    exact ⟨rfl, by exact bB2 G5 hb5⟩
  · have hR : R = false := by rw [HO.out]; simp [hr]
    subst hR
    have e1 := beqF hr
    clear FRd OPc HO hr
    go_wp2_with fail
    go_ret2
    exact ⟨rfl, G5⟩
end Go.Proofs.YtpnfgmgoafgcbaaGreat
set_option linter.unusedVariables false
namespace Go.Proofs.YtpnfgmgoafgcbaaGreat
open Go.RowKit Go.Shelf
attribute [local go_sem] Oper.semAt_some
theorem insC_len (l : List Ce) (p : Ce) : (insC l p).length ≤ l.length + 1 := by
  have := atC_le p l
  unfold insC
  split
  · omega
  · simp; omega
theorem foldl_insC_len : ∀ (l o : List Ce), (l.foldl insC o).length ≤ o.length + l.length
  | [], o => by simp
  | x :: r, o => by
    have h1 := foldl_insC_len r (insC o x)
    have h2 := insC_len o x
    rw [List.foldl_cons, List.length_cons]
    omega
theorem celR_len {s : Sc} {p : Ps} (hS : SOk s) : (celR s p).length ≤ 100000 := by
  have h1 := foldl_insC_len (frP s p 0) []
  have h2 := frP_len (s := s) (p := p) (i := 0) (fun z h => by have := hS.lk z h; omega)
  have h3 := hS.len
  have h4 : celR s p = (frP s p 0).foldl insC [] := rfl
  rw [h4]
  simp at h1
  omega
/-- How Cells ends. -/
def ClEnd (R : List Ce) (w : World) (e : Ending) (w' : World) : Prop := ∃ A c, e = .returned (.slice A R.length c) ∧ SlV w' A (R.flatMap ceV) ∧ Below w.heap.size w w'
set_option maxHeartbeats 4000000 in
set_option maxRecDepth 100000 in
theorem rCells_c (bx bY sl fx fX fy fY ps : Int) (L : List Lk) (B : List Bx) (Q : List Int) (AL AB AQ : Option Addr) (cL cB cQ : Nat) (w : World) (hS : SOk (⟨bx, bY, sl, L, (fx, fX, fy, fY), B⟩ : Sc)) (hp : POk (⟨bx, bY, sl, L, (fx, fX, fy, fY), B⟩ : Sc) (ps, Q)) (hs1 : SlV w AL (L.flatMap lkV)) (hs3 : SlI w AQ Q) :
    Calls Tryz.prog 63 #[.agg #[.int .i64 bx, .int .i64 bY, .int .i64 sl, .slice AL L.length cL, .int .i64 fx, .int .i64 fX, .int .i64 fy, .int .i64 fY, .slice AB B.length cB], .agg #[.int .i64 ps, .slice AQ Q.length cQ]] w (ClEnd (celR (⟨bx, bY, sl, L, (fx, fX, fy, fY), B⟩ : Sc) (ps, Q)) w) := by
  have hbx := hS.bx; have hbY := hS.bY; have hlen := hS.len; have hlk := hS.lk; have hsl := hp.sl6 hS; have hnB := hS.nB
  have hpl := hp.len
  have hfl := frP_len (s := (⟨bx, bY, sl, L, (fx, fX, fy, fY), B⟩ : Sc)) (p := (ps, Q)) (i := 0) (fun z h => by have := hS.lk z h; omega)
  dsimp only at hbx hbY hlen hlk hsl hnB hpl hfl
  have FRc := Lib.hid (fun W (h : Below w.heap.size w W) => from_c bx bY sl fx fX fy fY ps L B Q AL AB AQ cL cB cQ 0 W hpl hlen.2 (by omega) (by omega) (by omega) (by omega) (fun l h => by have := hlk l h; omega) (hp.rng hS) (fun c hc => by have := jts_small (s := (⟨bx, bY, sl, L, (fx, fX, fy, fY), B⟩ : Sc)) (p := (ps, Q)) hlen.2 (fun l h => by have := hlk l h; omega) (by dsimp only; omega) (by dsimp only; omega) (by dsimp only; omega) c hc; omega) (hs1.below h) (hs3.below h))
  rw [show ((0 : Nat) : Int) = 0 from rfl] at FRc
  have HR := Lib.hid (show celR (⟨bx, bY, sl, L, (fx, fX, fy, fY), B⟩ : Sc) (ps, Q) = (frP (⟨bx, bY, sl, L, (fx, fX, fy, fY), B⟩ : Sc) (ps, Q) 0).foldl insC [] from rfl)
  have hfl2 : (frP (⟨bx, bY, sl, L, (fx, fX, fy, fY), B⟩ : Sc) (ps, Q) 0).length ≤ 100 := by omega
  clear hs1 hs3 hbx hbY hlen hlk hsl hnB hpl hS hp hfl
  generalize celR (⟨bx, bY, sl, L, (fx, fX, fy, fY), B⟩ : Sc) (ps, Q) = R at *
  generalize frP (⟨bx, bY, sl, L, (fx, fX, fy, fY), B⟩ : Sc) (ps, Q) 0 = l at *
  go_enter Tryz.func63, Tryz.ntmps63
  go_wp2_with (first | (go_at_call 117; (with_reducible refine (FRc.out _ (by exact bB0)).mono ?_); rintro e w2 hE2; obtain ⟨gJ, cJ, rfl, hoJ, hb2⟩ := hE2) | fail)
  have hvJ := slv_own (k := 2) (by decide) hoJ
  have hB2 : Below w.heap.size w w2 := by exact bB1 hb2
  have hz2 := hB2.size
  clear hoJ hb2 FRc
  generalize w2 = W5 at *
  go_loopw [6, 7] (fun o j wr => ∃ (k : Nat) (A : Option Addr) (c : Nat) (os : List Ce), o = .slice A os.length c ∧ j = .int .i64 k ∧ k ≤ l.length ∧ os.length ≤ k ∧ Hid (os = (l.take k).foldl insC []) ∧ wr.ownsRow W5.heap.size 22 2 (.slice A os.length c) os.length (os.flatMap ceV) ∧ Below W5.heap.size W5 wr) (fun _ j _ => l.length - (intOf j).toNat)
  case atStart => exact ⟨0, none, 0, [], rfl, rfl, Nat.zero_le _, Nat.le_refl _, rfl, ⟨rfl, .inl ⟨rfl, rfl⟩⟩, Below.refl _ _⟩
  case round =>
    obtain ⟨k, A, c, os, rfl, rfl, hk, hol, hos, hO, hB⟩ := hrel
    by_cases hlt : k < l.length
    · obtain ⟨_, _, e, lJ, c0, c1⟩ := ce_cells (hvJ.below hB) (List.getElem?_eq_getElem hlt)
      cases e
      have T1 := Lib.hid (List.take_succ_eq_append_getElem (l := l) hlt)
      generalize l[k] = cc at *
      obtain ⟨a, b⟩ := cc
      dsimp only at c0 c1
      simp only [Nat.zero_add] at c0 c1
      have i1 : (k : Int) < (l.length : Int) := by omega
      have INc := Lib.hid (inserted_c os A c W5.heap.size a b wr (by omega) hB.size hO)
      have hn1 : insC os (a, b) = (l.take (k + 1)).foldl insC [] := by rw [T1.out, List.foldl_append, ← hos.out]; rfl
      have hn2 := insC_len os (a, b)
      generalize insC os (a, b) = ns at *
      have HN := Lib.hid hn1
      clear hn1 hos hO T1
      go_wp2_with (first | (go_at_call 135; (with_reducible refine (INc.out).mono ?_); rintro e w3 hE3; obtain ⟨A3, c3, rfl, ho3, hb3⟩ := hE3) | fail)
      go_roundw
      case rel => exact ⟨k + 1, A3, c3, ns, rfl, by go_num, by omega, by omega, HN.out, ho3, by exact bB2 hb3 hB⟩
      case measure => simp [intOf]; omega
    · obtain rfl : k = l.length := by omega
      have hR : R = os := by rw [HR.out, hos.out, List.take_length]
      subst hR
      go_wp2
      go_ret
      exact ⟨A, c, rfl, slv_own (by decide) hO, by exact bB2 hB hB2⟩
end Go.Proofs.YtpnfgmgoafgcbaaGreat

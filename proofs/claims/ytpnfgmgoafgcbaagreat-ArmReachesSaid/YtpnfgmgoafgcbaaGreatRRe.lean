/-
  Reached of the reference (chapter 6).
-/
import Derived.Test.YtpnfgmgoafgcbaaGreatG6
import Derived.Test.YtpnfgmgoafgcbaaGreatRSe
set_option linter.unusedVariables false
namespace Go.Proofs.YtpnfgmgoafgcbaaGreat
open Go.RowKit Go.Shelf
attribute [local go_sem] Oper.semAt_some
theorem own_cases {W : World} {b : Nat} {e : TypeId} {sz n c : Nat} {A : Option Addr} {xs : List Value} (h : W.ownsRow b e sz (.slice A n c) n xs) : (A = none ∧ c = 0 ∧ n = 0) ∨ ∃ g, A = some ⟨g, 0, none⟩ ∧ n ≤ c := by
  rcases h.2 with ⟨h1, h2⟩ | ⟨g, cap, cur, h1, _, _, h4, _⟩
  · cases h1; exact .inl ⟨rfl, rfl, h2⟩
  · cases h1; exact .inr ⟨g, rfl, h4⟩
theorem one_rcV (xs : List Rc) : ∀ u ∈ xs.flatMap rcV, u.oneCell' = true := fun u hu => by
  obtain ⟨m, _, hm⟩ := List.mem_flatMap.1 hu
  simp [rcV] at hm
  rcases hm with rfl | rfl | rfl <;> rfl
theorem slv_take {w : World} {A : Option Addr} {xs : List Rc} (h : SlV w A (xs.flatMap rcV)) (k : Nat) : SlV w A ((xs.take k).flatMap rcV) := by
  refine fun j u hj => h j u ?_
  have e : xs.flatMap rcV = (xs.take k).flatMap rcV ++ (xs.drop k).flatMap rcV := by rw [← List.flatMap_append, List.take_append_drop]
  rw [e, List.getElem?_append_left (List.getElem?_eq_some_iff.1 hj).1]
  exact hj
/-- How Reached ends. -/
def RrEnd (R : List PM) (w : World) (e : Ending) (w' : World) : Prop :=
  ∃ (A : Option Addr) (c : Nat) (ys : List Rc), e = .returned (.slice A ys.length c) ∧ ys.map pmR = R ∧ RcW A ys w' ∧ Below w.heap.size w w'
set_option maxHeartbeats 8000000 in
set_option maxRecDepth 100000 in
theorem rReached_c (bx bY sl fx fX fy fY ps : Int) (L : List Lk) (B : List Bx) (Q : List Int) (AL AB AQ : Option Addr) (cL cB cQ : Nat) (w : World) (hS : SOk (⟨bx, bY, sl, L, (fx, fX, fy, fY), B⟩ : Sc)) (hp : POk (⟨bx, bY, sl, L, (fx, fX, fy, fY), B⟩ : Sc) (ps, Q)) (hs1 : SlV w AL (L.flatMap lkV)) (hs2 : SlV w AB (B.flatMap bxV)) (hs3 : SlI w AQ Q) :
    Calls Tryz.prog 55 #[.agg #[.int .i64 bx, .int .i64 bY, .int .i64 sl, .slice AL L.length cL, .int .i64 fx, .int .i64 fX, .int .i64 fy, .int .i64 fY, .slice AB B.length cB], .agg #[.int .i64 ps, .slice AQ Q.length cQ]] w (RrEnd (rrP (srP (⟨bx, bY, sl, L, (fx, fX, fy, fY), B⟩ : Sc) (ps, Q))) w) := by
  have SEc := Lib.hid (fun W (h : Below w.heap.size w W) => rSearch_c bx bY sl fx fX fy fY ps L B Q AL AB AQ cL cB cQ W hS hp (hs1.below h) (hs2.below h) (hs3.below h))
  have BEd := Lib.hid (fun (y1 x1 : Int) (yQ xQ : List Int) (hy : yQ.length ≤ 100000) (hl : xQ.length ≤ 100000) AY AX cY cX W (hu : SlI W AY yQ) (hv : SlI W AX xQ) => rIsBefore_c y1 x1 yQ xQ AY AX cY cX W hy hl hu hv)
  have hlen := hS.len
  dsimp only at hlen
  have hN := alP_len hS
  have HLN := Lib.hid (fun (q : Ps) (h : POk (⟨bx, bY, sl, L, (fx, fX, fy, fY), B⟩ : Sc) q) => show q.2.length ≤ 100000 from by have := h.len; dsimp only at this; omega)
  have HRR := Lib.hid (fun (R : List (Ps × List Mv)) (h : R = srP (⟨bx, bY, sl, L, (fx, fX, fy, fY), B⟩ : Sc) (ps, Q)) => show rrP R = rrP (srP (⟨bx, bY, sl, L, (fx, fX, fy, fY), B⟩ : Sc) (ps, Q)) from by rw [h])
  clear hs1 hs2 hs3 hS hp
  generalize rrP (srP (⟨bx, bY, sl, L, (fx, fX, fy, fY), B⟩ : Sc) (ps, Q)) = R at *
  generalize srP (⟨bx, bY, sl, L, (fx, fX, fy, fY), B⟩ : Sc) (ps, Q) = SR at *
  generalize hsc : (⟨bx, bY, sl, L, (fx, fX, fy, fY), B⟩ : Sc) = sc at *
  clear hsc
  obtain ⟨u0, zR, hu0, hy0, hy1, hy2, hy3⟩ := infoOk_parts infoRd
  go_enter Tryz.func55, Tryz.ntmps55
  go_upto_region 2 with (first | (go_at_call 112; (with_reducible refine (SEc.out _ (by exact bB0)).mono ?_); rintro e w3 hE3; obtain ⟨AS, cS, bs, rfl, hW3, hbs, hb3⟩ := hE3) | fail)
  have G2 : Below w.heap.size w w3 := by exact bB1 hb3
  have hRR := HRR.out _ hbs
  have hSl : bs.length ≤ 1000 := by have := hW3.inv.len; rw [List.length_map] at this; omega
  have HW := Lib.hid hW3
  have HRF := Lib.hid hRR
  clear hb3 hW3 hbs HRR SEc hRR
  generalize w3 = W5 at *
  go_wp2
  go_loopw [6, 7] (fun o j wr => ∃ (i : Nat) (A : Option Addr) (c : Nat) (ys : List Rc), o = .slice A ys.length c ∧ j = .int .i64 i ∧ i ≤ bs.length ∧ ys.length = i ∧ wr.ownsRow W5.heap.size 98 3 (.slice A ys.length c) ys.length (ys.flatMap rcV) ∧ Hid (∀ y ∈ ys, SlI W5 y.1.2.1 y.1.1.2 ∧ y.1.1.2.length ≤ 100000) ∧ Hid (ys.map pmR = rrP ((bs.take i).map (·.1))) ∧ Below W5.heap.size W5 wr) (fun _ j _ => bs.length - (intOf j).toNat)
  case atStart => exact ⟨0, none, 0, [], rfl, rfl, Nat.zero_le _, rfl, ⟨rfl, .inl ⟨rfl, rfl⟩⟩, (fun y hy => nomatch hy), rfl, Below.refl _ _⟩
  case round =>
    obtain ⟨i, A, c, ys, rfl, rfl, hi, hyl, hO, hE, hYS, hB⟩ := hrel
    have HYL := Lib.hid hyl
    have hyl2 : ys.length ≤ 1000 := by omega
    clear hyl
    by_cases hlt : i < bs.length
    · obtain ⟨x, hx⟩ : ∃ x, bs[i]? = some x := ⟨_, List.getElem?_eq_getElem hlt⟩
      obtain ⟨gR, rfl, lR, z0, z1, z2⟩ := seCells HW.out hx
      have hxe := (HW.out.el x (List.mem_of_getElem? hx)).q
      have hxl := HLN.out x.1.1 (HW.out.inv.ok x.1 (List.mem_map_of_mem (List.mem_of_getElem? hx)))
      have hxp : x.1.2.length ≤ 1000 := by
        have := HW.out.inv.ln i x.1 (by rw [List.getElem?_map, hx]; rfl)
        omega
      have hnx : rrP ((bs.take (i + 1)).map (·.1)) = insR (x.1.1, (x.1.2.length : Int)) (ys.map pmR) := by
        rw [List.take_add_one, hx, List.map_append, hYS.out]
        simp [rrP, List.foldl_append]
      obtain ⟨⟨⟨x1, xQ⟩, xP⟩, ⟨AX, cX⟩, AP, cP⟩ := x
      dsimp only at z0 z1 z2 hxe hxl hxp hnx
      rw [insR_at] at hnx
      have HNX := Lib.hid hnx
      have HXE := Lib.hid hxe
      have hz0 := ((bcell hB).1 _ _ lR).trans z0
      have hz1 := ((bcell hB).1 _ _ lR).trans z1
      have hz2 := ((bcell hB).1 _ _ lR).trans z2
      have lR' : gR < wr.heap.size := by have := hB.size; omega
      clear hnx hxe z0 z1 z2 hx lR
      have z0 := hz0; have z1 := hz1; have z2 := hz2; have lR := lR'
      clear hz0 hz1 hz2 lR'
      generalize hat : atP (x1, xQ) (ys.map pmR) = at0 at *
      have hatl : at0 ≤ ys.length := by have := atP_le (x1, xQ) (ys.map pmR); rw [List.length_map] at this; omega
      have HLo := Lib.hid (fun k (h : k < at0) => atP_get (l := ys.map pmR) (p := (x1, xQ)) (by rw [hat]; exact h))
      have HHi := Lib.hid (fun y (h : (ys.map pmR)[at0]? = some y) => atP_stop (l := ys.map pmR) (p := (x1, xQ)) (by rw [hat]; exact h))
      clear hat
      have i0 : 0 ≤ (i : Int) := by omega
      have i1 : (i : Int) < (bs.length : Int) := by omega
      have hOs := slv_own (by decide) hO
      generalize wr = W6 at *
      go_wp2
      go_loopw [8] (fun a wr => ∃ k : Nat, a = .int .i64 k ∧ k ≤ at0 ∧ Below W6.heap.size W6 wr) (fun a _ => ys.length - (intOf a).toNat)
      case atStart => exact ⟨0, rfl, Nat.zero_le _, Below.refl _ _⟩
      case round =>
        obtain ⟨k, rfl, hk, hb⟩ := hrel
        go_upto_region 7 with fail
        obtain ⟨b1, hb1⟩ : ∃ b1, decide (k < at0) = b1 := ⟨_, rfl⟩
        have HB1 := Lib.hid hb1
        clear hb1
        go_cut [35] from 19 to 35 (fun s35 wx => s35 = .bool b1 ∧ Below W6.heap.size W6 wx)
        case first =>
          by_cases hke : k < ys.length
          · obtain ⟨y, hy⟩ : ∃ y, ys[k]? = some y := ⟨_, List.getElem?_eq_getElem hke⟩
            obtain ⟨gY, oY, e, lY, hcY⟩ := row_cells (enc := rcV) (k := 3) (fun _ => rfl) hOs (by omega) hy
            have y0 : W6.cell? ⟨gY, oY + k * 3, none⟩ = some (.int .i64 y.1.1.1) := by exact hcY 0 (by omega)
            have y1 : W6.cell? ⟨gY, oY + k * 3 + 1, none⟩ = some (.slice y.1.2.1 y.1.1.2.length y.1.2.2) := by exact hcY 1 (by omega)
            have hey := hE.out y (List.mem_of_getElem? hy)
            have hmy : (ys.map pmR)[k]? = some (pmR y) := by rw [List.getElem?_map, hy]; rfl
            have hbb : befS y.1.1 (x1, xQ) = decide (k < at0) := by
              by_cases h : k < at0
              · obtain ⟨z, hz, hzb⟩ := HLo.out k h
                rw [hmy] at hz
                cases hz
                rw [decide_eq_true h]; exact hzb
              · have e2 : k = at0 := by omega
                subst e2
                rw [decide_eq_false h]; exact HHi.out _ hmy
            subst e
            clear hy hcY hmy HLo HHi
            obtain ⟨⟨⟨z1', zQ⟩, ⟨AY, cY⟩⟩, ym⟩ := y
            dsimp only at y0 y1 hey hbb
            have BEc := Lib.hid (fun W (h : Below W6.heap.size W6 W) => BEd.out z1' x1 zQ xQ hey.2 hxl AY AX cY cX W (hey.1.below (by exact bB2 h hB)) (HXE.out.below (by exact bB2 h hB)))
            rw [hbb, HB1.out] at BEc
            clear hey hbb HB1
            have k0 : 0 ≤ (k : Int) := by omega
            have k1 : (k : Int) < (ys.length : Int) := by omega
            (refine region_open (by kernel_rfl) (fun R hR => ?_); refine heldR (S := (fun w' => Below W6.heap.size W6 w')) ?_ (fun hHeld => ?_); (focus ((try dsimp only); (((first | exact bB0 | exact bB1 hb4 | exact bB1 hb | exact bB2 hb4 hb))))); have hO := Lib.hid (fun w' (hSw : (fun w' => Below W6.heap.size W6 w') w') => (by (try dsimp only at hSw); (have hcc := (bcell hSw).1; have sa0 := (hcc _ _ lR).trans z0; have sa1 := (hcc _ _ lR).trans z1; have sb0 := (hcc _ _ lY).trans y0; have sb1 := (hcc _ _ lY).trans y1); exact And.intro sa0 (And.intro sa1 (And.intro sb0 sb1)))); refine rgN 0 rfl ?_; refine rgN 1 rfl ?_; refine rgN 2 rfl ?_; refine rgN 3 rfl ?_; refine rgN 4 rfl ?_; refine rgN 5 rfl ?_; refine rgN 6 rfl ?_; refine rgN 7 rfl ?_; refine rgN 8 rfl ?_; refine rgL 9 hO rfl ?_; refine rgN 10 rfl ?_; refine rgN 11 rfl ?_; refine rgN 12 rfl ?_; refine rgN 13 rfl ?_; refine rgL 14 hO rfl ?_; refine rgC 15 rfl (fun K hK => ?_); go_simp; ((go_at_call 122; (with_reducible refine (BEc.out _ (by exact bB1 hb)).mono ?_); rintro e w4 ⟨rfl, hb4⟩)); go_simp; refine hK.out _ _ ?_ (fun hHeld => ?_); (focus ((try dsimp only); (((first | exact bB2 hb4 hb | exact bB1 hb | exact bB1 hb4 | exact bB0))))); clear hK K; (try simp only [Act.put, pqs]); refine rgN 16 rfl ?_; refine wpAnyH_done (Q := fun e a w => e = Exit.normal ∧ R a w) (by kernel_rfl) ⟨rfl, hR _ _ ?_⟩ _; clear hR R)
            go_wp2_with fail
            go_meet
            exact ⟨rfl, by exact bB2 hb4 hb⟩
          · have d1 : decide ((k : Int) < (ys.length : Int)) = false := decide_eq_false (by omega)
            have d2 : decide (k < ys.length) = false := decide_eq_false hke
            have e : false = b1 := by rw [← HB1.out]; exact (decide_eq_false (by omega)).symm
            subst e
            clear HB1 HLo HHi
            (refine region_open (by kernel_rfl) (fun R hR => ?_); refine heldR (S := (fun w' => Below W6.heap.size W6 w')) ?_ (fun hHeld => ?_); (focus ((try dsimp only); (((first | exact bB0 | exact bB1 hb))))); refine rgN 0 rfl ?_; refine rgN 1 rfl ?_; refine rgN 2 rfl ?_; refine rgN 3 rfl ?_; refine rgN 4 rfl ?_; refine tsH (i := 5) rfl (by assumption) ?_; refine tsH (i := 6) rfl (by assumption) ?_; refine tsH (i := 7) rfl (by assumption) ?_; refine tsH (i := 8) rfl (by assumption) ?_; refine tsH (i := 9) rfl (by assumption) ?_; refine tsH (i := 10) rfl (by assumption) ?_; refine tsH (i := 11) rfl (by assumption) ?_; refine tsH (i := 12) rfl (by assumption) ?_; refine tsH (i := 13) rfl (by assumption) ?_; refine tsH (i := 14) rfl (by assumption) ?_; refine tsH (i := 15) rfl (by assumption) ?_; refine rgN 16 rfl ?_; refine wpAnyH_done (Q := fun e a w => e = Exit.normal ∧ R a w) (by kernel_rfl) ⟨rfl, hR _ _ ?_⟩ _; clear hR R)
            go_wp2_with fail
            go_meet
            exact ⟨rfl, by exact bB1 hb⟩
        case rest =>
          obtain ⟨rfl, hbx⟩ := hcut
          by_cases hka : k < at0
          · have e : true = b1 := by rw [← HB1.out]; exact (decide_eq_true hka).symm
            subst e
            go_wp2
            go_roundw
            case rel => exact ⟨k + 1, by go_num, by omega, hbx⟩
            case measure => simp [intOf]; omega
          · have e : k = at0 := by omega
            subst e
            have e : false = b1 := by rw [← HB1.out]; exact (decide_eq_false hka).symm
            subst e
            clear hka HLo HHi HB1
            go_upto_region 9 with fail
            have hO7 := own_below hO hbx
            have hB7 : Below W5.heap.size W5 wc := by exact bB2 hbx hB
            have z07 := ((bcell hbx).1 _ _ lR).trans z0
            have z17 := ((bcell hbx).1 _ _ lR).trans z1
            have z27 := ((bcell hbx).1 _ _ lR).trans z2
            have lR7 : gR < wc.heap.size := by have := hbx.size; omega
            clear hOs hO hB hbx z0 z1 z2 lR hb
            generalize wc = W7 at *
            have HE7 := Lib.hid hO7
            have HE77 := Lib.hid hO7
            go_cut [9] from 38 to 42 (fun s9 wx => ∃ A9 c9, s9 = .slice A9 k c9 ∧ wx.ownsRow W7.heap.size 98 3 (.slice A9 k c9) k ((ys.take k).flatMap rcV) ∧ Below W7.heap.size W7 wx)
            case first =>
              have OW : (W7.alloc (.cells #[] 98)).ownsRow W7.heap.size 98 3 (.slice (some ⟨W7.heap.size, 0, none⟩) 0 0) 0 [] := by simpa using own_of_box (Box.new W7 98 #[]) (Nat.le_refl _) (n := 0) (by decide) rfl
              have k0 : 0 ≤ (k : Int) := by omega
              have k1 : (k : Int) ≤ (ys.length : Int) := by omega
              rcases own_cases hO7 with ⟨e1, e2, e3⟩ | ⟨gA, e1, hcap⟩
              · subst e1; subst e2
                have e4 : k = 0 := by omega
                subst e4
                obtain rfl : ys = [] := List.eq_nil_of_length_eq_zero e3
                clear e3
                go_wp2_with (at_builtin; go_must (refine wpList_append_own_none rfl _ _ 96 rfl W7.heap.size 98 u0 3 Tryz.underlying96 hu0 _ 0 [] rfl OW rfl ?_))
                go_meet
                exact ⟨some ⟨W7.heap.size, 0, none⟩, 0, rfl, OW, by exact bB0⟩
              · subst e1
                have HCP := Lib.hid (slv_add (SlV.below (slv_take (slv_own (by decide) hO7) k) (show Below W7.heap.size W7 (W7.alloc (.cells #[] 98)) from by exact bB0)) ⟨gA, 0, none⟩ rfl)
                have HOC := Lib.hid (one_rcV (ys.take k))
                have HLF := Lib.hid (show ((ys.take k).flatMap rcV).length = k * 3 from by rw [len_flat (enc := rcV) (k := 3) (fun _ => rfl), List.length_take, Nat.min_eq_left hatl])
                have hm1 : 0 + k ≤ maxLen := by unfold maxLen; omega
                have hm2 : (0 + k) * 40 ≤ 140737488355328 := by omega
                have k2 : (k : Int) ≤ (c : Int) := by omega
                have k3 : k ≤ c := by omega
                go_wp2_with (at_builtin; go_must (refine wpList_append_own _ rfl _ _ 96 rfl W7.heap.size 98 u0 zR 3 40 Tryz.underlying96 hu0 hy0 hy1 hy2 hy3 (by decide) _ 0 [] rfl OW ⟨gA, 0, none⟩ k c ((ys.take k).flatMap rcV) rfl HLF.out HCP.out HOC.out hm1 hm2 (by simp) ?_); intro v' wx hown1 hgrow1 _)
                obtain ⟨A9, c9, rfl⟩ := own_shape hown1
                go_meet
                exact ⟨A9, c9, by simp, by simpa using hown1, (show Below W7.heap.size W7 (W7.alloc (.cells #[] 98)) from by exact bB0).grown hgrow1 (by simp) (fun r e => by have e : some W7.heap.size = some r := e; cases e; exact Nat.le_refl _)⟩
            case rest =>
              obtain ⟨A9, c9, rfl, hM9, hb9⟩ := hcut
              generalize wc = W8 at *
              have o8 : W8.drew.ownsRow W7.heap.size 98 3 (.slice A9 k c9) k ((ys.take k).flatMap rcV) := own_below hM9 (Below.drew (Below.refl _ _))
              have hm1 : k + 1 ≤ maxLen := by unfold maxLen; omega
              have hm2 : (k + 1) * 40 ≤ 140737488355328 := by omega
              have hz9 := hb9.size
              go_upto_region 10 with fail
              go_cut [9] from 43 to 57 (fun s9 wx => ∃ A9 c9, s9 = .slice A9 (k + 1) c9 ∧ wx.ownsRow W7.heap.size 98 3 (.slice A9 (k + 1) c9) (k + 1) ((ys.take k).flatMap rcV ++ [.int .i64 x1, .slice AX xQ.length cX, .int .i64 (xP.length : Int)]) ∧ Below W7.heap.size W7 wx)
              case first =>
                (refine region_open (by kernel_rfl) (fun R hR => ?_); refine heldR (S := (fun w' => Below W7.heap.size W7 w')) ?_ (fun hHeld => ?_); (focus ((try dsimp only); ((first | ((first | exact bB0 | exact bB1 hb9)) | exact hB5)))); have hO := Lib.hid (fun w' (hSw : (fun w' => Below W7.heap.size W7 w') w') => (by (try dsimp only at hSw); (have hcc := (bcell hSw).1; have sa0 := (hcc _ _ lR7).trans z07; have sa1 := (hcc _ _ lR7).trans z17; have sa2 := (hcc _ _ lR7).trans z27); exact And.intro sa0 (And.intro sa1 sa2))); refine rgN 0 rfl ?_; refine rgN 1 rfl ?_; refine rgN 2 rfl ?_; refine rgN 3 rfl ?_; refine rgN 4 rfl ?_; refine rgL 5 hO rfl ?_; refine rgN 6 rfl ?_; refine rgN 7 rfl ?_; refine rgN 8 rfl ?_; refine rgN 9 rfl ?_; refine rgL 10 hO rfl ?_; refine rgN 11 rfl ?_; refine rgN 12 rfl ?_; refine rgC 13 rfl (fun K hK => ?_); go_simp; ((first | (refine step_append_lies _ rfl _ _ 96 rfl W7.heap.size 98 u0 zR 3 40 Tryz.underlying96 hu0 hy0 hy1 hy2 hy3 (by decide) (.slice A9 k c9) _ _ rfl (o8.alloc _) ⟨W8.heap.size, 0, none⟩ 1 1 [.int .i64 x1, .slice AX xQ.length cX, .int .i64 (xP.length : Int)] rfl rfl (cells_new W8.drew [.int .i64 x1, .slice AX xQ.length cX, .int .i64 (xP.length : Int)] _) (by simp [Value.oneCell']) (by decide) hm1 hm2 (by simp; omega) _ rfl ?_; intro gN capN w5 hown5 hgrow5 hat5 hlt5; have hB5 : Below W7.heap.size W7 w5 := (show Below W7.heap.size W7 (W8.drew.alloc (.cells #[.int .i64 x1, .slice AX xQ.length cX, .int .i64 (xP.length : Int)] 98)) from by exact bB1 hb9).grown hgrow5 (by simp; omega) (fun r e => (own_blk o8 (show (Value.slice A9 k c9).ownBlock = some r from e)).1)) | skip)); go_simp; refine hK.out _ _ ?_ (fun hHeld => ?_); (focus ((try dsimp only); ((first | ((first | exact bB1 hb9 | exact bB0)) | exact hB5)))); clear hK K; (try simp only [Act.put, pqs]); refine rgC 14 rfl (fun K hK => ?_); ((first | (refine step_append_lies _ rfl _ _ 96 rfl W7.heap.size 98 u0 zR 3 40 Tryz.underlying96 hu0 hy0 hy1 hy2 hy3 (by decide) (.slice A9 k c9) _ _ rfl (o8.alloc _) ⟨W8.heap.size, 0, none⟩ 1 1 [.int .i64 x1, .slice AX xQ.length cX, .int .i64 (xP.length : Int)] rfl rfl (cells_new W8.drew [.int .i64 x1, .slice AX xQ.length cX, .int .i64 (xP.length : Int)] _) (by simp [Value.oneCell']) (by decide) hm1 hm2 (by simp; omega) _ rfl ?_; intro gN capN w5 hown5 hgrow5 hat5 hlt5; have hB5 : Below W7.heap.size W7 w5 := (show Below W7.heap.size W7 (W8.drew.alloc (.cells #[.int .i64 x1, .slice AX xQ.length cX, .int .i64 (xP.length : Int)] 98)) from by exact bB1 hb9).grown hgrow5 (by simp; omega) (fun r e => (own_blk o8 (show (Value.slice A9 k c9).ownBlock = some r from e)).1)) | skip)); go_simp; refine hK.out _ _ ?_ (fun hHeld => ?_); (focus ((try dsimp only); ((first | ((first | exact bB1 hb9 | exact bB0)) | exact hB5)))); clear hK K; (try simp only [Act.put, pqs]); refine rgN 15 rfl ?_; refine wpAnyH_done (Q := fun e a w => e = Exit.normal ∧ R a w) (by kernel_rfl) ⟨rfl, hR _ _ ?_⟩ _; clear hR R)
                go_wp2_with fail
                go_meet
                exact ⟨some ⟨gN, 0, none⟩, capN, by first | rfl | simp, by simpa using hown5, hB5⟩
              case rest =>
                clear hM9 o8 hb9 hz9
                obtain ⟨AM, cM, rfl, hM9, hb9⟩ := hcut
                generalize wc = W9 at *
                have hO9 := own_below hO7 hb9
                have hpos : 0 < k + 1 := Nat.succ_pos k
                obtain ⟨gM, cM', e, hgM, hgM2⟩ := own_pos hM9 hpos (by decide)
                cases e
                have hEn : ∀ y ∈ ys.take k ++ [((((x1, xQ), (AX, cX)), (xP.length : Int)) : Rc)] ++ ys.drop k, SlI W5 y.1.2.1 y.1.1.2 ∧ y.1.1.2.length ≤ 100000 := fun y hy => by
                  rcases List.mem_append.1 hy with hy | hy
                  · rcases List.mem_append.1 hy with hy | hy
                    · exact hE.out y (List.mem_of_mem_take hy)
                    · have e : y = (((x1, xQ), (AX, cX)), (xP.length : Int)) := by simpa using hy
                      subst e
                      exact ⟨HXE.out, hxl⟩
                  · exact hE.out y (List.mem_of_mem_drop hy)
                have hNn : (ys.take k ++ [((((x1, xQ), (AX, cX)), (xP.length : Int)) : Rc)] ++ ys.drop k).map pmR = rrP ((bs.take (i + 1)).map (·.1)) := by
                  rw [HNX.out, List.map_append, List.map_append, List.map_take, List.map_drop]; rfl
                have hLn : (ys.take k ++ [((((x1, xQ), (AX, cX)), (xP.length : Int)) : Rc)] ++ ys.drop k).length = ys.length + 1 := by
                  rw [List.length_append, List.length_append, List.length_take, List.length_drop, Nat.min_eq_left hatl, List.length_singleton]; omega
                have hVn : (ys.take k ++ [((((x1, xQ), (AX, cX)), (xP.length : Int)) : Rc)] ++ ys.drop k).flatMap rcV = ((ys.take k).flatMap rcV ++ [.int .i64 x1, .slice AX xQ.length cX, .int .i64 (xP.length : Int)]) ++ (ys.drop k).flatMap rcV := by
                  rw [List.flatMap_append, List.flatMap_append]; rfl
                generalize hNY : ys.take k ++ [((((x1, xQ), (AX, cX)), (xP.length : Int)) : Rc)] ++ ys.drop k = ny at *
                have HEn := Lib.hid hEn
                have HNn := Lib.hid hNn
                have HLn := Lib.hid hLn
                have HVn := Lib.hid hVn
                have HM9 := Lib.hid hM9
                have HO9 := Lib.hid hO9
                have hz7 := hB7.size
                have HYl := HYL.out
                clear hEn hNn hLn hVn hNY hM9 hO9 hO7 HE7
                have k0 : 0 ≤ (k : Int) := by omega
                have k1 : (k : Int) ≤ (ys.length : Int) := by omega
                have HYL2 := Lib.hid HYl
                clear HYl
                rcases own_cases HO9.out with ⟨e1, e2, e3⟩ | ⟨gA, e1, hcap⟩
                · subst e1; subst e2
                  have e4 : k = 0 := by omega
                  subst e4
                  obtain rfl : ys = [] := List.eq_nil_of_length_eq_zero e3
                  clear e3
                  have hV0 : ny.flatMap rcV = [] ++ [.int .i64 x1, .slice AX xQ.length cX, .int .i64 (xP.length : Int)] := by rw [HVn.out]; simp
                  go_wp2_with (at_builtin; go_must (refine wpList_append_own_none rfl _ _ 96 rfl W7.heap.size 98 u0 3 Tryz.underlying96 hu0 _ 1 _ rfl HM9.out rfl ?_))
                  go_roundw
                  case rel => exact ⟨i + 1, some ⟨gM, 0, none⟩, cM, ny, by rw [HLn.out] <;> rfl, by go_num, by omega, by rw [HLn.out, ← HYL2.out] <;> rfl, by rw [HLn.out, hV0]; exact own_base HM9.out (by omega), HEn.out, HNn.out, by exact bB2 hb9 hB7⟩
                  case measure => simp [intOf]; omega
                · subst e1
                  have hHC : ∀ j u, ((ys.drop k).flatMap rcV)[j]? = some u → W9.cell? ((⟨gA, k * 3, none⟩ : Addr).add j) = some u := fun j u hj => by
                    have h1 := slv_add (slv_own (by decide) HO9.out) ⟨gA, 0, none⟩ rfl (k * 3 + j) u (by
                      have e : ys.flatMap rcV = (ys.take k).flatMap rcV ++ (ys.drop k).flatMap rcV := by rw [← List.flatMap_append, List.take_append_drop]
                      have el : ((ys.take k).flatMap rcV).length = k * 3 := by rw [len_flat (enc := rcV) (k := 3) (fun _ => rfl), List.length_take, Nat.min_eq_left hatl]
                      rw [e, List.getElem?_append_right (by rw [el]; omega), el, Nat.add_sub_cancel_left]
                      exact hj)
                    rw [show (⟨gA, k * 3, none⟩ : Addr).add j = (⟨gA, 0, none⟩ : Addr).add (k * 3 + j) from by by_cases h : j = 0 <;> by_cases h2 : k = 0 <;> simp [Addr.add, h, h2] <;> omega]
                    exact h1
                  obtain ⟨AD, hAD, hAB, hAC⟩ : ∃ AD : Addr, (if c = k then some (⟨gA, 0, none⟩ : Addr) else some ⟨gA, k * 3, none⟩) = some AD ∧ AD.block = gA ∧ ∀ j u, ((ys.drop k).flatMap rcV)[j]? = some u → W9.cell? (AD.add j) = some u := by
                    by_cases hck : c = k
                    · refine ⟨⟨gA, 0, none⟩, if_pos hck, rfl, fun j u hj => ?_⟩
                      rw [List.drop_eq_nil_of_le (by omega)] at hj
                      simp at hj
                    · exact ⟨⟨gA, k * 3, none⟩, if_neg hck, rfl, hHC⟩
                  have HCP := Lib.hid hAC
                  clear hAC
                  have HOC := Lib.hid (one_rcV (ys.drop k))
                  have HLF := Lib.hid (show ((ys.drop k).flatMap rcV).length = (ys.length - k) * 3 from by rw [len_flat (enc := rcV) (k := 3) (fun _ => rfl), List.length_drop])
                  have hm1 : (k + 1) + (ys.length - k) ≤ maxLen := by unfold maxLen; omega
                  have hm2 : ((k + 1) + (ys.length - k)) * 40 ≤ 140737488355328 := by omega
                  have k2 : (k : Int) ≤ (c : Int) := by omega
                  have k3 : k ≤ c := by omega
                  have k4 : k + 1 + (ys.length - k) = ys.length + 1 := by omega
                  have HK4 := Lib.hid k4
                  have hne : AD.block ≠ gM := fun e => by
                    rw [hAB] at e
                    have h1 := (HE77.out.lt gA rfl).2
                    omega
                  clear hHC k4
                  go_wp2_with (at_builtin; go_must (refine wpList_append_own _ rfl _ _ 96 rfl W7.heap.size 98 u0 zR 3 40 Tryz.underlying96 hu0 hy0 hy1 hy2 hy3 (by decide) _ (k + 1) _ rfl HM9.out AD (ys.length - k) (c - k) ((ys.drop k).flatMap rcV) rfl HLF.out HCP.out HOC.out hm1 hm2 (by first | omega | (simp; done) | (simp; omega)) ?_); intro v' wx hown1 hgrow1 _)
                  obtain ⟨gN, cN, rfl, _, _⟩ := own_pos hown1 (by omega) (by decide)
                  have hBx : Below W7.heap.size W7 wx := hb9.grown hgrow1 (by have := hb9.size; omega) (fun r e => by have e : some gM = some r := e; cases e; exact hgM)
                  rw [HK4.out, ← HVn.out] at hown1
                  have HOx := Lib.hid hown1
                  clear hown1
                  go_wp2_with fail
                  go_roundw
                  case rel => exact ⟨i + 1, some ⟨gN, 0, none⟩, cN, ny, by rw [HLn.out, HK4.out], by go_num, by omega, by rw [HLn.out, ← HYL2.out], by rw [HLn.out]; exact own_base HOx.out (by omega), HEn.out, HNn.out, by exact bB2 hBx hB7⟩
                  case measure => simp [intOf]; omega
    · have e : i = bs.length := by omega
      subst e
      have hYs := hYS.out
      rw [List.take_length, HRF.out] at hYs
      go_wp2
      go_ret
      exact ⟨A, c, ys, rfl, hYs, ⟨slv_own (by decide) hO, fun y hy => (hE.out y hy).1.below hB, fun y hy => (hE.out y hy).2⟩, by exact bB2 hB G2⟩
end Go.Proofs.YtpnfgmgoafgcbaaGreat

/-
  Windows of forecasts (chapter 2): the references IsCalm, MayCalm, CalmErr; base.Ranges, base.CopyRanges; inside.
-/
import Derived.Test.YtgbckdmhmkpahaaWin3
import Derived.Test.YtgbckdmhmkpahaaSame
import Derived.Test.YtgbckdmhmkpahaaCopy
set_option linter.unusedVariables false
namespace Go.Proofs.Ytgbckdmhmkpahaa
open Go.RowKit Go.Shelf
attribute [local go_sem ↓] eqlO_rg neqO_rg

set_option maxHeartbeats 1000000 in
theorem refIsCalm_c (a b lim : Int) (w : World) (hl : 0 ≤ lim ∧ lim ≤ 1000) :
    Calls Try.prog 113 #[.agg #[.int .i64 a, .int .i64 b], .int .i64 lim] w fun e w' => e = .returned (.bool (calmB lim (a, b))) ∧ Below w.heap.size w w' := by
  have HB := Lib.hid (show calmB lim (a, b) = (decide (-lim ≤ a) && decide (b ≤ lim)) from rfl)
  generalize calmB lim (a, b) = r at *
  have v : IntKind.i64.wrap (-lim) = -lim := IntWalk.i64_in _ (by omega)
  by_cases h : -lim ≤ a
  all_goals
    go_enter Try.func113, Try.ntmps113
    go_wp2
    all_goals go_ret
    all_goals exact ⟨ret_b (by rw [HB.out]; first | (simp [h]; done) | (simp [h]; omega) | (simp; intros; omega)), by focus ((repeat first | with_reducible exact Below.refl _ _ | (with_reducible refine Below.setCell ?_ ?_ _) | (with_reducible refine Below.alloc ?_ ?_ _) | (with_reducible refine below_drewN ?_ _) | (with_reducible refine Below.drew ?_)); all_goals (first | with_reducible exact Nat.le_refl _ | omega | (simp; done) | (simp; omega) | (omega) | ((try simp); omega)))⟩
set_option maxHeartbeats 1000000 in
theorem refMayCalm_c (a b lim : Int) (w : World) (hl : 0 ≤ lim ∧ lim ≤ 1000) :
    Calls Try.prog 114 #[.agg #[.int .i64 a, .int .i64 b], .int .i64 lim] w fun e w' => e = .returned (.bool (mayB lim (a, b))) ∧ Below w.heap.size w w' := by
  have HB := Lib.hid (show mayB lim (a, b) = (decide (a ≤ lim) && decide (-lim ≤ b)) from rfl)
  generalize mayB lim (a, b) = r at *
  have v : IntKind.i64.wrap (-lim) = -lim := IntWalk.i64_in _ (by omega)
  by_cases h : a ≤ lim
  all_goals
    go_enter Try.func114, Try.ntmps114
    go_wp2
    all_goals go_ret
    all_goals exact ⟨ret_b (by rw [HB.out]; first | (simp [h]; done) | (simp [h]; omega) | (simp; intros; omega)), by focus ((repeat first | with_reducible exact Below.refl _ _ | (with_reducible refine Below.setCell ?_ ?_ _) | (with_reducible refine Below.alloc ?_ ?_ _) | (with_reducible refine below_drewN ?_ _) | (with_reducible refine Below.drew ?_)); all_goals (first | with_reducible exact Nat.le_refl _ | omega | (simp; done) | (simp; omega) | (omega) | ((try simp); omega)))⟩

set_option maxHeartbeats 2000000 in
set_option maxRecDepth 100000 in
theorem refCalmErr_c (l : List Rg) (A : Option Addr) (c : Nat) (lim len : Int) (w : World) (hn : l.length ≤ 9223372036854775807) (hs : SlV w A (l.flatMap rgV)) :
    Calls Try.prog 60 #[.slice A l.length c, .agg #[.int .i64 lim, .int .i64 len]] w fun e w' => e = .returned (.int .i64 (calmE l lim len)) ∧ Below w.heap.size w w' := by
  by_cases h60 : 60 < l.length
  · have HE := Lib.hid (show calmE l lim len = 8 from if_pos h60)
    have d1 : decide ((60 : Int) < (l.length : Int)) = true := decide_eq_true (by omega)
    clear hs
    generalize calmE l lim len = ce at *
    go_enter Try.func60, Try.ntmps60
    go_wp2
    go_ret
    exact ⟨ret_i (by rw [HE.out]), by focus ((repeat first | with_reducible exact Below.refl _ _ | (with_reducible refine Below.setCell ?_ ?_ _) | (with_reducible refine Below.alloc ?_ ?_ _) | (with_reducible refine below_drewN ?_ _) | (with_reducible refine Below.drew ?_)); all_goals (first | with_reducible exact Nat.le_refl _ | omega | (simp; done) | (simp; omega) | (omega) | ((try simp); omega)))⟩
  · have HE := Lib.hid (show calmE l lim len = if cErrL l ≠ 0 then cErrL l else unl (inB lim 0 1000 && inB len 1 60) 2 from if_neg h60)
    have d1 : decide ((60 : Int) < (l.length : Int)) = false := decide_eq_false (by omega)
    have hs := Lib.hid hs
    generalize calmE l lim len = ce at *
    go_enter Try.func60, Try.ntmps60
    go_wp2_with fail
    go_loopw [6] (fun i wr => ∃ k : Nat, k ≤ l.length ∧ i = .int .i64 k ∧ Hid (cErrL l = cErrL (l.drop k)) ∧ Box wr w.heap.size 102 #[.int .i64 lim, .int .i64 len] ∧ Below w.heap.size w wr) (fun i _ => l.length - (intOf i).toNat)
    case atStart => exact ⟨0, Nat.zero_le _, rfl, rfl, by focus (apply Box.via; apply Exists.intro; apply And.intro; (repeat first | with_reducible assumption | with_reducible exact Box.new _ _ _ | ((with_reducible apply Box.newAt); focus (simp; done)) | (with_reducible apply Box.drew) | (with_reducible apply Box.drewN) | (with_reducible apply Box.set) | (with_reducible apply Box.alloc) | (with_reducible apply Box.far)); all_goals (first | with_reducible exact Nat.le_refl _ | omega | (simp; done) | (simp; omega) | (omega) | ((try simp); omega))), by focus ((repeat first | with_reducible exact Below.refl _ _ | (with_reducible refine Below.setCell ?_ ?_ _) | (with_reducible refine Below.alloc ?_ ?_ _) | (with_reducible refine below_drewN ?_ _) | (with_reducible refine Below.drew ?_)); all_goals (first | with_reducible exact Nat.le_refl _ | omega | (simp; done) | (simp; omega) | (omega) | ((try simp); omega)))⟩
    case round =>
      obtain ⟨k, hk, rfl, hf, q, hB⟩ := hrel
      by_cases hlt : k < l.length
      · obtain ⟨bb, off, rfl, hbb, a0, a1⟩ := rg_cells (SlV.below hs.out hB) (List.getElem?_eq_getElem hlt)
        have D := Lib.hid (List.drop_eq_getElem_cons (l := l) hlt)
        generalize l[k] = r at *
        obtain ⟨a, b⟩ := r
        dsimp only at a0 a1
        have hlt' : (k : Int) < (l.length : Int) := by omega
        have HF := Lib.hid (show cErrL ((a, b) :: l.drop (k + 1)) = if cErr1 (a, b) ≠ 0 then cErr1 (a, b) else cErrL (l.drop (k + 1)) from rfl)
        cases h1 : inB a (-1000) 1000
        · have HX := Lib.hid (show cErr1 (a, b) = 2 by unfold cErr1; rw [h1]; simp [fst2, unl])
          clear d1
          go_wp2_with (first | (go_at_call 37; refine (within_b _ _ _ _).mono ?_; rintro e w' ⟨rfl, rfl⟩) | fail)
          go_ret
          exact ⟨ret_i (by rw [HE.out, hf.out, D.out, HF.out, HX.out]; rfl), by focus ((repeat first | with_reducible exact Below.refl _ _ | (with_reducible refine Below.setCell ?_ ?_ _) | (with_reducible refine Below.alloc ?_ ?_ _) | (with_reducible refine below_drewN ?_ _) | (with_reducible refine Below.drew ?_) | (with_reducible refine Below.trans ?_ (Below.mono hB ?_))); all_goals (first | with_reducible exact Nat.le_refl _ | omega | (simp; done) | (simp; omega) | (have := hB.size; (try simp at this); omega) | (have := hB.size; (try simp at this); (try simp); omega)))⟩
        · cases h2 : inB b (-1000) 1000
          · have HX := Lib.hid (show cErr1 (a, b) = 2 by unfold cErr1; rw [h1, h2]; simp [fst2, unl])
            clear d1
            go_wp2_with (first | (go_at_call 37; refine (within_b _ _ _ _).mono ?_; rintro e w' ⟨rfl, rfl⟩) | fail)
            go_ret
            exact ⟨ret_i (by rw [HE.out, hf.out, D.out, HF.out, HX.out]; rfl), by focus ((repeat first | with_reducible exact Below.refl _ _ | (with_reducible refine Below.setCell ?_ ?_ _) | (with_reducible refine Below.alloc ?_ ?_ _) | (with_reducible refine below_drewN ?_ _) | (with_reducible refine Below.drew ?_) | (with_reducible refine Below.trans ?_ (Below.mono hB ?_))); all_goals (first | with_reducible exact Nat.le_refl _ | omega | (simp; done) | (simp; omega) | (have := hB.size; (try simp at this); omega) | (have := hB.size; (try simp at this); (try simp); omega)))⟩
          · by_cases h3 : b < a
            · have HX := Lib.hid (show cErr1 (a, b) = 9 by unfold cErr1; rw [h1, h2]; simp [fst2, unl, decide_eq_false (show ¬ a ≤ b by omega)])
              have e3 : decide (b < a) = true := decide_eq_true h3
              go_wp2_with (first | (go_at_call 37; refine (within_b _ _ _ _).mono ?_; rintro e w' ⟨rfl, rfl⟩) | fail)
              go_quiet (fail)
              go_wp2_with fail
              go_ret
              exact ⟨ret_i (by rw [HE.out, hf.out, D.out, HF.out, HX.out]; rfl), by focus ((repeat first | with_reducible exact Below.refl _ _ | (with_reducible refine Below.setCell ?_ ?_ _) | (with_reducible refine Below.alloc ?_ ?_ _) | (with_reducible refine below_drewN ?_ _) | (with_reducible refine Below.drew ?_) | (with_reducible refine Below.trans ?_ (Below.mono hB ?_))); all_goals (first | with_reducible exact Nat.le_refl _ | omega | (simp; done) | (simp; omega) | (have := hB.size; (try simp at this); omega) | (have := hB.size; (try simp at this); (try simp); omega)))⟩
            · have HX := Lib.hid (show cErr1 (a, b) = 0 by unfold cErr1; rw [h1, h2]; simp [fst2, unl, decide_eq_true (show a ≤ b by omega)])
              have e3 : decide (b < a) = false := decide_eq_false h3
              go_wp2_with (first | (go_at_call 37; refine (within_b _ _ _ _).mono ?_; rintro e w' ⟨rfl, rfl⟩) | fail)
              go_quiet (fail)
              go_wp2_with fail
              go_roundw
              case rel => exact ⟨k + 1, by omega, by go_num, by unfold Hid; rw [hf.out, D.out, HF.out, HX.out]; rfl, q, below_drewN hB _⟩
              case measure => simp [intOf]; omega
      · obtain rfl : k = l.length := by omega
        have HZ := Lib.hid (show cErrL l = 0 by rw [hf.out, List.drop_length]; rfl)
        have c0 := q.cell 0; have c1 := q.cell 1; simp at c0 c1; have hlq := q.lt
        cases h1 : inB lim 0 1000
        · go_wp2_with (first | (go_at_call 37; refine (within_b _ _ _ _).mono ?_; rintro e w' ⟨rfl, rfl⟩) | fail)
          go_ret
          exact ⟨ret_i (by rw [HE.out, HZ.out]; simp [h1, unl]), by focus ((repeat first | with_reducible exact Below.refl _ _ | (with_reducible refine Below.setCell ?_ ?_ _) | (with_reducible refine Below.alloc ?_ ?_ _) | (with_reducible refine below_drewN ?_ _) | (with_reducible refine Below.drew ?_) | (with_reducible refine Below.trans ?_ (Below.mono hB ?_))); all_goals (first | with_reducible exact Nat.le_refl _ | omega | (simp; done) | (simp; omega) | (have := hB.size; (try simp at this); omega) | (have := hB.size; (try simp at this); (try simp); omega)))⟩
        · cases h2 : inB len 1 60
          all_goals
            go_wp2_with (first | (go_at_call 37; refine (within_b _ _ _ _).mono ?_; rintro e w' ⟨rfl, rfl⟩) | fail)
            go_ret
            exact ⟨ret_i (by rw [HE.out, HZ.out]; simp [h1, h2, unl]), by focus ((repeat first | with_reducible exact Below.refl _ _ | (with_reducible refine Below.setCell ?_ ?_ _) | (with_reducible refine Below.alloc ?_ ?_ _) | (with_reducible refine below_drewN ?_ _) | (with_reducible refine Below.drew ?_) | (with_reducible refine Below.trans ?_ (Below.mono hB ?_))); all_goals (first | with_reducible exact Nat.le_refl _ | omega | (simp; done) | (simp; omega) | (have := hB.size; (try simp at this); omega) | (have := hB.size; (try simp at this); (try simp); omega)))⟩

set_option maxHeartbeats 1000000 in
theorem ranges_c (xs ys : List Rg) (A B : Option Addr) (c d : Nat) (w : World) (hn : xs.length ≤ 100000) (hm : ys.length ≤ 100000) (hs : SlV w A (xs.flatMap rgV)) (ht : SlV w B (ys.flatMap rgV)) :
    Calls Try.prog 61 #[.slice A xs.length c, .slice B ys.length d] w fun e w' => e = .returned (.bool (decide (xs = ys))) ∧ Below w.heap.size w w' := by
  by_cases hl : xs.length = ys.length
  · have hl1 : ((xs.length : Int) != (ys.length : Int)) = false := by simp [hl]
    have HL := Lib.hid hl
    have hle : xs.length ≤ ys.length := by omega
    have hle' : ys.length ≤ xs.length := by omega
    clear hl
    go_enter Try.func61, Try.ntmps61
    go_wp2
    go_loopw [5] (fun i wr => ∃ k : Nat, k ≤ xs.length ∧ i = .int .i64 k ∧ Hid (xs.take k = ys.take k) ∧ Below w.heap.size w wr) (fun i _ => xs.length - (intOf i).toNat)
    case atStart => exact ⟨0, Nat.zero_le _, rfl, rfl, Below.refl _ _⟩
    case round =>
      obtain ⟨k, hk, rfl, hf, hB⟩ := hrel
      by_cases hlt : k < xs.length
      · have hky : k < ys.length := by omega
        obtain ⟨b, off, rfl, hb, a0, a1⟩ := rg_cells (SlV.below hs hB) (List.getElem?_eq_getElem hlt)
        obtain ⟨b', off', rfl, hb', c0, c1⟩ := rg_cells (SlV.below ht hB) (List.getElem?_eq_getElem hky)
        have T1 := Lib.hid (List.take_succ_eq_append_getElem (l := xs) hlt)
        have T2 := Lib.hid (List.take_succ_eq_append_getElem (l := ys) hky)
        have G1 := Lib.hid (List.getElem?_eq_getElem (l := xs) hlt)
        have G2 := Lib.hid (List.getElem?_eq_getElem (l := ys) hky)
        have HS := Lib.hid hs; have HT := Lib.hid ht
        clear hs ht
        generalize hx : xs[k] = x at *
        generalize hy : ys[k] = y at *
        clear hx hy
        obtain ⟨x1, x2⟩ := x
        obtain ⟨y1, y2⟩ := y
        dsimp only at a0 a1 c0 c1
        by_cases hxy : x1 = y1 ∧ x2 = y2
        · have h1 : same2 x1 x2 y1 y2 = true := same2_t.2 hxy
          have HXY := Lib.hid hxy
          clear hxy
          go_wp2
          go_quiet (fail)
          go_wp2
          go_roundw
          case rel => exact ⟨k + 1, by omega, by go_num, by unfold Hid; rw [T1.out, T2.out, hf.out, HXY.out.1, HXY.out.2], below_drewN hB _⟩
          case measure => simp [intOf]; omega
        · have h1 : same2 x1 x2 y1 y2 = false := same2_f.2 hxy
          have HXY := Lib.hid hxy
          clear hxy
          go_wp2
          go_quiet (fail)
          go_wp2
          go_ret
          refine ⟨ret_b ?_, below_drewN hB _⟩
          refine (decide_eq_false fun e => HXY.out ?_).symm
          have := G1.out; rw [e, G2.out] at this
          simpa [eq_comm] using this
      · obtain rfl : k = xs.length := by omega
        have HE := Lib.hid (show xs = ys by
          have := hf.out
          rw [List.take_length, HL.out, List.take_length] at this
          exact this)
        go_wp2
        go_ret
        exact ⟨ret_b (decide_eq_true HE.out).symm, hB⟩
  · have hl1 : ((xs.length : Int) != (ys.length : Int)) = true := bneT (by omega)
    have HL := Lib.hid (show xs ≠ ys from fun e => hl (by rw [e]))
    clear hl hs ht
    go_enter Try.func61, Try.ntmps61
    go_wp2
    go_ret
    exact ⟨ret_b (decide_eq_false HL.out).symm, Below.refl _ _⟩

theorem own_emptyK (w : World) (t : TypeId) (k : Nat) : (w.alloc (.cells #[] t)).ownsRow w.heap.size t k (.slice (some ⟨w.heap.size, 0, none⟩) 0 0) 0 [] :=
  ⟨by simp, .inr ⟨w.heap.size, 0, #[], rfl, Nat.le_refl _, heap_alloc_new w _, Nat.le_refl _, by unfold maxLen; omega, by simp, by simp⟩⟩
set_option maxHeartbeats 1000000 in
theorem copyRanges_c (xs : List Rg) (A : Option Addr) (c : Nat) (w : World) (hn : xs.length ≤ 100000) (hs : SlV w A (xs.flatMap rgV)) :
    Calls Try.prog 57 #[.slice A xs.length c] w fun e w' => ∃ B d, e = .returned (.slice B xs.length d) ∧ SlV w' B (xs.flatMap rgV) ∧ Below w.heap.size w w' := by
  obtain ⟨j0, zS, hj0, hy0, hy1, hy2, hy3⟩ := infoOk_parts info_Rg
  have hm1 : 0 + xs.length ≤ maxLen := by unfold maxLen; omega
  have hm2 : (0 + xs.length) * 16 ≤ 140737488355328 := by omega
  have ho := own_emptyK w 24 2
  cases A with
  | none =>
    have hx : xs = [] := by
      cases xs with
      | nil => rfl
      | cons x l => obtain ⟨b, o, e, _⟩ := hs 0 _ rfl; cases e
    subst hx
    go_enter Try.func57, Try.ntmps57
    go_wp2
    all_goals go_ret
    all_goals exact ⟨_, _, rfl, fun j u hj => by simp at hj, by focus ((repeat first | with_reducible exact Below.refl _ _ | (with_reducible refine Below.setCell ?_ ?_ _) | (with_reducible refine Below.alloc ?_ ?_ _) | (with_reducible refine below_drewN ?_ _) | (with_reducible refine Below.drew ?_)); all_goals (first | with_reducible exact Nat.le_refl _ | omega | (simp; done) | (simp; omega) | (omega) | ((try simp); omega)))⟩
  | some a =>
    have hcells : ∀ j u, (xs.flatMap rgV)[j]? = some u → (w.alloc (.cells #[] 24)).cell? (a.add j) = some u := fun j u hj => by
      obtain ⟨b, o, e, hb, hc⟩ := hs j u hj
      cases e
      have e : (⟨b, o, none⟩ : Addr).add j = ⟨b, o + j, none⟩ := by unfold Addr.add; split <;> simp [*]
      rw [e]; exact Lib.cell?_alloc_some _ hc
    have HC := Lib.hid hcells
    clear hcells
    have h1 : ∀ u ∈ xs.flatMap rgV, u.oneCell' = true := fun u hu => by
      obtain ⟨r, _, hr⟩ := List.mem_flatMap.1 hu
      simp [rgV] at hr
      rcases hr with rfl | rfl <;> rfl
    have H1 := Lib.hid h1
    have hfl : (xs.flatMap rgV).length = xs.length * 2 := flatK_len (enc := rgV) (k := 2) (fun _ => rfl) xs
    clear h1 hs
    go_enter Try.func57, Try.ntmps57
    go_wp2_with (at_builtin; go_must (refine wpList_append_own _ rfl _ _ 100 rfl w.heap.size 24 j0 zS 2 16 Try.underlying100 hj0 hy0 hy1 hy2 hy3 (by decide) _ _ _ rfl ho a xs.length c (xs.flatMap rgV) rfl hfl HC.out H1.out hm1 hm2 (by simp) ?_); intro v' wx hown1 hgrow1 _)
    have hB1 : Below w.heap.size w wx := ((Below.refl _ w).alloc (Nat.le_refl _) _).grown hgrow1 (by simp) (fun k e => by have e : some w.heap.size = some k := e; injection e with e; omega)
    have hown2 : wx.ownsRow w.heap.size 24 2 v' xs.length (xs.flatMap rgV) := by simpa using hown1
    rcases hown2.2 with ⟨rfl, h0⟩ | ⟨g, cap, cur, rfl, _⟩
    · go_ret
      exact ⟨_, _, by rw [h0]; rfl, slv_own (n := xs.length) (c := 0) (k := 2) (by decide) (by rw [h0]; rw [h0] at hown2; exact hown2), hB1⟩
    · go_ret
      exact ⟨_, _, rfl, slv_own (k := 2) (by decide) hown2, hB1⟩

end Go.Proofs.Ytgbckdmhmkpahaa

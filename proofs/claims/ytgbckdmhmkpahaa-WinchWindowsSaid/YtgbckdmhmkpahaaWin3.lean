/-
  Windows of forecasts (chapter 2): the walk of windows, WindowsIn, PossibleIn.
-/
import Derived.Test.YtgbckdmhmkpahaaWin2
import Derived.Test.YtgbckdmhmkpahaaReachedBy
import Derived.Test.YtgbckdmhmkpahaaInts
set_option linter.unusedVariables false
namespace Go.Proofs.Ytgbckdmhmkpahaa
open Go.RowKit Go.Shelf

theorem info_Rg : infoOk Try.prog 24 2 16 = true := by kernel_rfl
theorem cell_two_new (w : World) (a b : Value) (t : TypeId) : ∀ j u, [a, b][j]? = some u → (w.alloc (.cells #[a, b] t)).cell? ((⟨w.heap.size, 0, none⟩ : Addr).add j) = some u := by
  intro j u h
  have h1 := (Box.new w t #[a, b]).cell j
  by_cases hj : j = 0
  · subst hj
    have h2 : a = u := by simpa using h
    subst h2
    simp [Addr.add]
  · simp only [Addr.add, Nat.zero_add, if_neg hj]
    rw [h1, ← h]
    simp
theorem own_shape {W : World} {b : Nat} {e : TypeId} {sz : Nat} {v : Value} {n : Nat} {xs : List Value} (h : W.ownsRow b e sz v n xs) : ∃ X cap, v = .slice X n cap := by
  rcases h.2 with ⟨h1, h2⟩ | ⟨g, cap, cur, h1, _⟩
  · exact ⟨none, 0, by rw [h1, h2]⟩
  · exact ⟨_, _, h1⟩
/-- One cell of a row is written. -/
theorem own_set {W : World} {b g cap n m sz : Nat} {e : TypeId} {xs : List Value} {u : Value} (h : W.ownsRow b e sz (.slice (some ⟨g, 0, none⟩) n cap) n xs) (hm : m < n * sz) : (W.setCell ⟨g, m, none⟩ u).ownsRow b e sz (.slice (some ⟨g, 0, none⟩) n cap) n (xs.set m u) := by
  refine ⟨by rw [List.length_set]; exact h.1, ?_⟩
  rcases h.2 with ⟨h1, _⟩ | ⟨g', cap', cur, h1, h2, h3, h4, h5, h6, h7⟩
  · cases h1
  · cases h1
    refine .inr ⟨g, cap, cur.setIfInBounds m u, rfl, h2, (show Box W g e cur from h3).set m u, h4, h5, by simpa using h6, ?_⟩
    rw [Array.toList_setIfInBounds, ← h7, List.take_set]

set_option maxHeartbeats 1000000 in
theorem windows_no (gq : Nat) (l : List Rg) (A : Option Addr) (c : Nat) (lim len : Int) (w : World) (hn : l.length ≤ 9223372036854775807) (hs : SlV w A (l.flatMap rgV)) (he : calmE l lim len ≠ 0) :
    Calls Try.prog 110 #[.slice A l.length c, .agg #[.int .i64 lim, .int .i64 len], .func (.func gq) #[] #[]] w fun e w' => e = .returned (.tuple #[.slice none 0 0, .int .i64 (calmE l lim len)]) ∧ Below w.heap.size w w' := by
  have CE := Lib.hid (fun W h => calmErr_c l A c lim len W hn h)
  have e1 := bneT he
  have hs := Lib.hid hs
  clear he
  generalize calmE l lim len = ce at *
  go_enter Try.func110, Try.ntmps110
  go_wp2_with (first | (go_at_call 144; refine (CE.out _ (SlV.below hs.out (by focus ((repeat first | with_reducible exact Below.refl _ _ | (with_reducible refine Below.setCell ?_ ?_ _) | (with_reducible refine Below.alloc ?_ ?_ _) | (with_reducible refine below_drewN ?_ _) | (with_reducible refine Below.drew ?_)); all_goals (first | with_reducible exact Nat.le_refl _ | omega | (simp; done) | (simp; omega) | (omega) | ((try simp); omega)))))).mono ?_; rintro e w1 ⟨rfl, hb1⟩) | fail)
  go_ret2
  exact ⟨rfl, by focus ((repeat first | with_reducible exact Below.refl _ _ | (with_reducible refine Below.setCell ?_ ?_ _) | (with_reducible refine Below.alloc ?_ ?_ _) | (with_reducible refine below_drewN ?_ _) | (with_reducible refine Below.drew ?_) | (with_reducible refine Below.trans ?_ (Below.mono hb1 ?_))); all_goals (first | with_reducible exact Nat.le_refl _ | omega | (simp; done) | (simp; omega) | (have := hb1.size; (try simp at this); omega) | (have := hb1.size; (try simp at this); (try simp); omega)))⟩

set_option maxHeartbeats 4000000 in
set_option maxRecDepth 100000 in
theorem windows_yes (gq : Nat) (qq : Rg → Bool) (l : List Rg) (A : Option Addr) (c : Nat) (lim len : Int) (w : World) (eg : ∀ args w, (callFunc gq args).run Try.prog w = .ok (.enter gq args) w)
    (hq : ∀ (a b : Int) W, Calls Try.prog gq #[.agg #[.int .i64 a, .int .i64 b], .int .i64 lim] W fun e w' => e = .returned (.bool (qq (a, b))) ∧ Below W.heap.size W w')
    (hs : SlV w A (l.flatMap rgV)) (he : calmE l lim len = 0) :
    Calls Try.prog 110 #[.slice A l.length c, .agg #[.int .i64 lim, .int .i64 len], .func (.func gq) #[] #[]] w fun e w' => ∃ D cap, e = .returned (.tuple #[.slice D (winL qq len l).length cap, .int .i64 0]) ∧ SlV w' D ((winL qq len l).flatMap rgV) ∧ Below w.heap.size w w' := by
  obtain ⟨k1, k2, k3, k4⟩ := calmE_ok he
  obtain ⟨j0, zS, hj0, hy0, hy1, hy2, hy3⟩ := infoOk_parts info_Rg
  have CE := Lib.hid (fun W h => calmErr_c l A c lim len W (by omega) h)
  rw [he] at CE
  have hs := Lib.hid hs
  have HQ := Lib.hid hq
  clear he hq
  go_enter Try.func110, Try.ntmps110
  go_upto_region 4 with (first | (go_at_call 144; refine (CE.out _ (SlV.below hs.out (by focus ((repeat first | with_reducible exact Below.refl _ _ | (with_reducible refine Below.setCell ?_ ?_ _) | (with_reducible refine Below.alloc ?_ ?_ _) | (with_reducible refine below_drewN ?_ _) | (with_reducible refine Below.drew ?_)); all_goals (first | with_reducible exact Nat.le_refl _ | omega | (simp; done) | (simp; omega) | (omega) | ((try simp); omega)))))).mono ?_; rintro e w1 ⟨rfl, hb1⟩) | fail)
  have q : Box w1 w.heap.size 102 #[.int .i64 lim, .int .i64 len] := by focus (apply Box.via; apply Exists.intro; apply And.intro; (repeat first | with_reducible assumption | with_reducible exact Box.new _ _ _ | ((with_reducible apply Box.newAt); focus (simp; done)) | (with_reducible apply Box.drew) | (with_reducible apply Box.drewN) | (with_reducible apply Box.set) | (with_reducible apply Box.alloc) | (with_reducible apply Box.far) | (with_reducible apply Box.below (hb := hb1))); all_goals (first | with_reducible exact Nat.le_refl _ | omega | (simp; done) | (simp; omega) | (have := hb1.size; (try simp at this); omega) | (have := hb1.size; (try simp at this); (try simp); omega)))
  have hB : Below w.heap.size w w1 := by focus ((repeat first | with_reducible exact Below.refl _ _ | (with_reducible refine Below.setCell ?_ ?_ _) | (with_reducible refine Below.alloc ?_ ?_ _) | (with_reducible refine below_drewN ?_ _) | (with_reducible refine Below.drew ?_) | (with_reducible refine Below.trans ?_ (Below.mono hb1 ?_))); all_goals (first | with_reducible exact Nat.le_refl _ | omega | (simp; done) | (simp; omega) | (have := hb1.size; (try simp at this); omega) | (have := hb1.size; (try simp at this); (try simp); omega)))
  clear hb1
  generalize w1 = W5 at *
  have hW5 := hB.size
  have hlq0 := q.lt
  go_wp2_with fail
  go_loopw [9, 21] (fun v i wr => ∃ (k : Nat) (R : List Rg) (X : Option Addr) (cap : Nat), Hid (runsR qq l k = R) ∧ R.length ≤ k ∧ k ≤ l.length ∧ v = .slice X R.length cap ∧ i = .int .i64 (k : Int) ∧ wr.ownsRow W5.heap.size 24 2 (.slice X R.length cap) R.length (R.reverse.flatMap rgV) ∧ W5.heap.size ≤ wr.heap.size ∧ Box wr w.heap.size 102 #[.int .i64 lim, .int .i64 len] ∧ Below w.heap.size w wr) (fun _ i _ => l.length - (intOf i).toNat)
  case atStart => exact ⟨0, [], none, 0, rfl, Nat.le_refl _, Nat.zero_le _, rfl, rfl, ⟨rfl, .inl ⟨rfl, rfl⟩⟩, Nat.le_refl _, q, hB⟩
  case round =>
    clear q hB
    obtain ⟨k, R, X, cap, hR, hRk, hk, rfl, rfl, hown, hz, q, hB⟩ := hrel
    have hlq := q.lt
    have c0 := q.cell 0; have c1 := q.cell 1
    simp at c0 c1
    by_cases hlt : k < l.length
    · obtain ⟨bb, off, rfl, hbb, a0, a1⟩ := rg_cells (SlV.below hs.out hB) (List.getElem?_eq_getElem hlt)
      have G1 := Lib.hid (runsR_succ (q := qq) (List.getElem?_eq_getElem (l := l) hlt))
      generalize l[k] = r at *
      obtain ⟨a, b⟩ := r
      dsimp only at a0 a1
      have hlt' : (k : Int) < (l.length : Int) := by omega
      cases hqb : qq (a, b)
      · have HQ := Lib.hid (fun W => show Calls Try.prog gq #[.agg #[.int .i64 a, .int .i64 b], .int .i64 lim] W (fun e w' => e = .returned (.bool false) ∧ Below W.heap.size W w') from by rw [← hqb]; exact HQ.out a b W)
        have HR := Lib.hid (show runsR qq l (k + 1) = R by rw [G1.out, rstep_no hqb]; exact hR.out)
        clear hqb
        go_wp2_with (first | (go_at_fn gq; refine (HQ.out _).mono ?_; rintro e w2 ⟨rfl, hb2⟩; (have hown2 := own_below (World.ownsRow.alloc hown (.cells #[.int .i64 a, .int .i64 b] 24)) hb2); (have hz2 : wr.heap.size < w2.heap.size := (by have := hb2.size; simp at this; omega)); (have q2 : Box w2 w.heap.size 102 #[.int .i64 lim, .int .i64 len] := (by focus (apply Box.via; apply Exists.intro; apply And.intro; (repeat first | with_reducible assumption | with_reducible exact Box.new _ _ _ | ((with_reducible apply Box.newAt); focus (simp; done)) | (with_reducible apply Box.drew) | (with_reducible apply Box.drewN) | (with_reducible apply Box.set) | (with_reducible apply Box.alloc) | (with_reducible apply Box.far) | (with_reducible apply Box.below (hb := hb2))); all_goals (first | with_reducible exact Nat.le_refl _ | omega | (simp; done) | (simp; omega) | (have := hb2.size; (try simp at this); omega) | (have := hb2.size; (try simp at this); (try simp); omega))))); (have hB2 : Below w.heap.size w w2 := (by focus ((repeat first | with_reducible exact Below.refl _ _ | (with_reducible refine Below.setCell ?_ ?_ _) | (with_reducible refine Below.alloc ?_ ?_ _) | (with_reducible refine below_drewN ?_ _) | (with_reducible refine Below.drew ?_) | (with_reducible refine Below.trans ?_ (Below.mono hb2 ?_)) | (with_reducible refine Below.trans ?_ (Below.mono hB ?_))); all_goals (first | with_reducible exact Nat.le_refl _ | omega | (simp; done) | (simp; omega) | (have := hb2.size; (try simp at this); have := hB.size; (try simp at this); omega) | (have := hb2.size; (try simp at this); have := hB.size; (try simp at this); (try simp); omega)))))) | fail)
        go_roundw
        case rel => exact ⟨k + 1, R, X, cap, HR, by omega, by omega, rfl, by go_num, hown2, by omega, q2, hB2⟩
        case measure => simp [intOf]; omega
      · have HQ := Lib.hid (fun W => show Calls Try.prog gq #[.agg #[.int .i64 a, .int .i64 b], .int .i64 lim] W (fun e w' => e = .returned (.bool true) ∧ Below W.heap.size W w') from by rw [← hqb]; exact HQ.out a b W)
        have hm1 : R.length + 1 ≤ maxLen := by unfold maxLen; omega
        have hm2 : (R.length + 1) * 16 ≤ 140737488355328 := by omega
        have hsz' := Lib.hid (fun (w2 : World) (h : wr.heap.size < w2.heap.size) => show W5.heap.size ≤ (w2.alloc (.cells #[.int .i64 (k : Int), .int .i64 (k : Int)] 24)).heap.size from by simp; omega)
        cases R with
        | nil =>
          have HR := Lib.hid (show runsR qq l (k + 1) = [((k : Int), (k : Int))] by rw [G1.out, hR.out, rstep_new hqb (by intro w o' e; cases e)])
          simp only [List.length_nil, List.reverse_nil, List.flatMap_nil] at hown hm1 hm2 hRk ⊢
          clear hqb
          go_wp2_with (first | (go_at_fn gq; refine (HQ.out _).mono ?_; rintro e w2 ⟨rfl, hb2⟩; (have hown2 := own_below (World.ownsRow.alloc hown (.cells #[.int .i64 a, .int .i64 b] 24)) hb2); (have hz2 : wr.heap.size < w2.heap.size := (by have := hb2.size; simp at this; omega)); (have q2 : Box w2 w.heap.size 102 #[.int .i64 lim, .int .i64 len] := (by focus (apply Box.via; apply Exists.intro; apply And.intro; (repeat first | with_reducible assumption | with_reducible exact Box.new _ _ _ | ((with_reducible apply Box.newAt); focus (simp; done)) | (with_reducible apply Box.drew) | (with_reducible apply Box.drewN) | (with_reducible apply Box.set) | (with_reducible apply Box.alloc) | (with_reducible apply Box.far) | (with_reducible apply Box.below (hb := hb2))); all_goals (first | with_reducible exact Nat.le_refl _ | omega | (simp; done) | (simp; omega) | (have := hb2.size; (try simp at this); omega) | (have := hb2.size; (try simp at this); (try simp); omega))))); (have hB2 : Below w.heap.size w w2 := (by focus ((repeat first | with_reducible exact Below.refl _ _ | (with_reducible refine Below.setCell ?_ ?_ _) | (with_reducible refine Below.alloc ?_ ?_ _) | (with_reducible refine below_drewN ?_ _) | (with_reducible refine Below.drew ?_) | (with_reducible refine Below.trans ?_ (Below.mono hb2 ?_)) | (with_reducible refine Below.trans ?_ (Below.mono hB ?_))); all_goals (first | with_reducible exact Nat.le_refl _ | omega | (simp; done) | (simp; omega) | (have := hb2.size; (try simp at this); have := hB.size; (try simp at this); omega) | (have := hb2.size; (try simp at this); have := hB.size; (try simp at this); (try simp); omega)))))) | (at_builtin; go_must (refine wpList_append_own _ rfl _ _ 100 rfl W5.heap.size 24 j0 zS 2 16 Try.underlying100 hj0 hy0 hy1 hy2 hy3 (by decide) _ _ _ rfl (hown2.alloc _) ⟨w2.heap.size, 0, none⟩ 1 1 [.int .i64 (k : Int), .int .i64 (k : Int)] rfl rfl (cell_two_new _ _ _ _) (by simp [Value.oneCell']) hm1 hm2 (hsz'.out w2 hz2) ?_); intro v' wx hown1 hgrow1 _) | fail)
          go_roundw
          case rel => (obtain ⟨X', cap', rfl⟩ := own_shape hown1; refine ⟨k + 1, [((k : Int), (k : Int))], X', cap', HR, by (first | (simp; done) | (simp; omega) | omega), by omega, rfl, by go_num, by simpa [rgV] using hown1, Nat.le_trans (hsz'.out w2 hz2) hgrow1.size, Box.grown (q2.alloc _) (hown2.alloc _) (by decide) hgrow1, (hB2.alloc hB2.size _).grown hgrow1 (Nat.le_trans hW5 (hsz'.out w2 hz2)) (fun k e => Nat.le_trans hW5 (hown2.lt k e).1)⟩)
          case measure => simp [intOf]; omega
        | cons v o =>
          obtain ⟨v1, v2⟩ := v
          simp only [List.length_cons] at hown hm1 hm2 hRk ⊢
          rcases hown.2 with ⟨_, h0⟩ | ⟨g, cap', cur, hX, hgb, hh, hcc1, hcc2, hcs, htk⟩
          · omega
          cases hX
          have hgw : Box wr g 24 cur := hh
          have hgl := hgw.lt
          have hxl : (o.reverse.flatMap rgV).length = o.length * 2 := by rw [flatK_len (enc := rgV) (k := 2) (fun _ => rfl), List.length_reverse]
          have hxe : ((v1, v2) :: o).reverse.flatMap rgV = o.reverse.flatMap rgV ++ [.int .i64 v1, .int .i64 v2] := by rw [List.reverse_cons, List.flatMap_append]; rfl
          have hcu : cur[o.length * 2 + 1]? = some (.int .i64 v2) := by
            have h1 : (cur.toList.take ((o.length + 1) * 2))[o.length * 2 + 1]? = some (.int .i64 v2) := by
              rw [htk, hxe, List.getElem?_append_right (by omega), hxl, Nat.add_sub_cancel_left]; rfl
            rw [List.getElem?_take, if_pos (by omega)] at h1
            simpa using h1
          have b1 : IntKind.i64.wrap ((k : Int) - 1) = (k : Int) - 1 := IntWalk.i64_in _ (by omega)
          have b2 : IntKind.i64.wrap ((o.length : Int) + 1 - 1) = (o.length : Int) := by rw [show (o.length : Int) + 1 - 1 = (o.length : Int) by omega]; exact IntWalk.i64_in _ (by omega)
          have b3 : (o.length : Int) < (o.length : Int) + 1 := by omega
          have b4 : (0 : Int) < (o.length : Int) + 1 := by omega
          by_cases hv : v2 = (k : Int) - 1
          · have e1 : (v2 == (k : Int) - 1) = true := beqT hv
            have HR := Lib.hid (show runsR qq l (k + 1) = (v1, (k : Int)) :: o by rw [G1.out, hR.out, rstep_more hqb hv])
            have HS := Lib.hid (show (((v1, v2) :: o).reverse.flatMap rgV).set (o.length * 2 + 1) (.int .i64 (k : Int)) = ((v1, (k : Int)) :: o).reverse.flatMap rgV by
              rw [hxe, List.set_append_right _ _ (by omega), hxl, Nat.add_sub_cancel_left, List.reverse_cons, List.flatMap_append]; rfl)
            have hgB : g ≠ w.heap.size := by
              have := hW5; have := hlq0; omega
            clear hqb hv
            go_wp2_with (first | (go_at_fn gq; refine (HQ.out _).mono ?_; rintro e w2 ⟨rfl, hb2⟩; (have hown2 := own_below (World.ownsRow.alloc hown (.cells #[.int .i64 a, .int .i64 b] 24)) hb2); (have hz2 : wr.heap.size < w2.heap.size := (by have := hb2.size; simp at this; omega)); (have q2 : Box w2 w.heap.size 102 #[.int .i64 lim, .int .i64 len] := (by focus (apply Box.via; apply Exists.intro; apply And.intro; (repeat first | with_reducible assumption | with_reducible exact Box.new _ _ _ | ((with_reducible apply Box.newAt); focus (simp; done)) | (with_reducible apply Box.drew) | (with_reducible apply Box.drewN) | (with_reducible apply Box.set) | (with_reducible apply Box.alloc) | (with_reducible apply Box.far) | (with_reducible apply Box.below (hb := hb2))); all_goals (first | with_reducible exact Nat.le_refl _ | omega | (simp; done) | (simp; omega) | (have := hb2.size; (try simp at this); omega) | (have := hb2.size; (try simp at this); (try simp); omega))))); (have hB2 : Below w.heap.size w w2 := (by focus ((repeat first | with_reducible exact Below.refl _ _ | (with_reducible refine Below.setCell ?_ ?_ _) | (with_reducible refine Below.alloc ?_ ?_ _) | (with_reducible refine below_drewN ?_ _) | (with_reducible refine Below.drew ?_) | (with_reducible refine Below.trans ?_ (Below.mono hb2 ?_)) | (with_reducible refine Below.trans ?_ (Below.mono hB ?_))); all_goals (first | with_reducible exact Nat.le_refl _ | omega | (simp; done) | (simp; omega) | (have := hb2.size; (try simp at this); have := hB.size; (try simp at this); omega) | (have := hb2.size; (try simp at this); have := hB.size; (try simp at this); (try simp); omega))))); (have hg2 : Box w2 g 24 cur := (by focus (apply Box.via; apply Exists.intro; apply And.intro; (repeat first | with_reducible assumption | with_reducible exact Box.new _ _ _ | ((with_reducible apply Box.newAt); focus (simp; done)) | (with_reducible apply Box.drew) | (with_reducible apply Box.drewN) | (with_reducible apply Box.set) | (with_reducible apply Box.alloc) | (with_reducible apply Box.far) | (with_reducible apply Box.below (hb := hb2))); all_goals (first | with_reducible exact Nat.le_refl _ | omega | (simp; done) | (simp; omega) | (have := hb2.size; (try simp at this); omega) | (have := hb2.size; (try simp at this); (try simp); omega))))); (have m0 : w2.cell? ⟨g, o.length * 2 + 1, none⟩ = some (.int .i64 v2) := (hg2.cell _).trans hcu); (have m1 : ∀ i, w2.frozen? ⟨g, i, none⟩ = false := hg2.froz)) | fail)
            go_roundw
            case rel =>
              refine ⟨k + 1, (v1, (k : Int)) :: o, some ⟨g, 0, none⟩, cap, HR, by simp; omega, by omega, rfl, by go_num, ?_, by simp; omega, Box.far q2 (Ne.symm hgB) _, Below.setCell hB2 (Nat.le_trans hW5 hgb) _⟩
              rw [← HS.out]
              exact own_set hown2 (by first | omega | (simp only [List.length_cons]; omega) | (simp; omega))
            case measure => simp [intOf]; omega
          · have e1 : (v2 == (k : Int) - 1) = false := beqF hv
            have HR := Lib.hid (show runsR qq l (k + 1) = ((k : Int), (k : Int)) :: (v1, v2) :: o by rw [G1.out, hR.out, rstep_new hqb (by intro w o' e; cases e; exact hv)])
            clear hqb hv
            go_wp2_with (first | (go_at_fn gq; refine (HQ.out _).mono ?_; rintro e w2 ⟨rfl, hb2⟩; (have hown2 := own_below (World.ownsRow.alloc hown (.cells #[.int .i64 a, .int .i64 b] 24)) hb2); (have hz2 : wr.heap.size < w2.heap.size := (by have := hb2.size; simp at this; omega)); (have q2 : Box w2 w.heap.size 102 #[.int .i64 lim, .int .i64 len] := (by focus (apply Box.via; apply Exists.intro; apply And.intro; (repeat first | with_reducible assumption | with_reducible exact Box.new _ _ _ | ((with_reducible apply Box.newAt); focus (simp; done)) | (with_reducible apply Box.drew) | (with_reducible apply Box.drewN) | (with_reducible apply Box.set) | (with_reducible apply Box.alloc) | (with_reducible apply Box.far) | (with_reducible apply Box.below (hb := hb2))); all_goals (first | with_reducible exact Nat.le_refl _ | omega | (simp; done) | (simp; omega) | (have := hb2.size; (try simp at this); omega) | (have := hb2.size; (try simp at this); (try simp); omega))))); (have hB2 : Below w.heap.size w w2 := (by focus ((repeat first | with_reducible exact Below.refl _ _ | (with_reducible refine Below.setCell ?_ ?_ _) | (with_reducible refine Below.alloc ?_ ?_ _) | (with_reducible refine below_drewN ?_ _) | (with_reducible refine Below.drew ?_) | (with_reducible refine Below.trans ?_ (Below.mono hb2 ?_)) | (with_reducible refine Below.trans ?_ (Below.mono hB ?_))); all_goals (first | with_reducible exact Nat.le_refl _ | omega | (simp; done) | (simp; omega) | (have := hb2.size; (try simp at this); have := hB.size; (try simp at this); omega) | (have := hb2.size; (try simp at this); have := hB.size; (try simp at this); (try simp); omega))))); (have hg2 : Box w2 g 24 cur := (by focus (apply Box.via; apply Exists.intro; apply And.intro; (repeat first | with_reducible assumption | with_reducible exact Box.new _ _ _ | ((with_reducible apply Box.newAt); focus (simp; done)) | (with_reducible apply Box.drew) | (with_reducible apply Box.drewN) | (with_reducible apply Box.set) | (with_reducible apply Box.alloc) | (with_reducible apply Box.far) | (with_reducible apply Box.below (hb := hb2))); all_goals (first | with_reducible exact Nat.le_refl _ | omega | (simp; done) | (simp; omega) | (have := hb2.size; (try simp at this); omega) | (have := hb2.size; (try simp at this); (try simp); omega))))); (have m0 : w2.cell? ⟨g, o.length * 2 + 1, none⟩ = some (.int .i64 v2) := (hg2.cell _).trans hcu); (have m1 : ∀ i, w2.frozen? ⟨g, i, none⟩ = false := hg2.froz)) | (at_builtin; go_must (refine wpList_append_own _ rfl _ _ 100 rfl W5.heap.size 24 j0 zS 2 16 Try.underlying100 hj0 hy0 hy1 hy2 hy3 (by decide) _ _ _ rfl (hown2.alloc _) ⟨w2.heap.size, 0, none⟩ 1 1 [.int .i64 (k : Int), .int .i64 (k : Int)] rfl rfl (cell_two_new _ _ _ _) (by simp [Value.oneCell']) hm1 hm2 (hsz'.out w2 hz2) ?_); intro v' wx hown1 hgrow1 _) | fail)
            go_roundw
            case rel => (obtain ⟨X', cap', rfl⟩ := own_shape hown1; refine ⟨k + 1, ((k : Int), (k : Int)) :: (v1, v2) :: o, X', cap', HR, by (first | (simp; done) | (simp; omega) | omega), by omega, rfl, by go_num, by simpa [rgV] using hown1, Nat.le_trans (hsz'.out w2 hz2) hgrow1.size, Box.grown (q2.alloc _) (hown2.alloc _) (by decide) hgrow1, (hB2.alloc hB2.size _).grown hgrow1 (Nat.le_trans hW5 (hsz'.out w2 hz2)) (fun k e => Nat.le_trans hW5 (hown2.lt k e).1)⟩)
            case measure => simp [intOf]; omega
    · obtain rfl : k = l.length := by omega
      have hWL := Lib.hid (show R.reverse.filter (longB len) = winL qq len l by unfold winL; rw [hR.out])
      have DF := Lib.hid (deleteFuncR_c R.reverse (.slice X R.length cap) lim len w.heap.size W5.heap.size wr (by rw [List.length_reverse]; omega) (by rw [List.length_reverse]; exact hown) q hz (fun r hr => by
        have := (runsR_ok qq l l.length (Nat.le_refl _)).2 r (by rw [hR.out]; exact List.mem_reverse.1 hr)
        omega))
      rw [hWL.out] at DF
      clear hown
      go_wp2_with (first | (go_at_call 145; refine (DF.out).mono ?_; rintro e w3 ⟨D, cap', rfl, hD, hb3⟩) | fail)
      go_ret2
      exact ⟨D, cap', rfl, hD, by focus ((repeat first | with_reducible exact Below.refl _ _ | (with_reducible refine Below.setCell ?_ ?_ _) | (with_reducible refine Below.alloc ?_ ?_ _) | (with_reducible refine below_drewN ?_ _) | (with_reducible refine Below.drew ?_) | (with_reducible refine Below.trans ?_ (Below.mono hb3 ?_)) | (with_reducible refine Below.trans ?_ (Below.mono hB ?_))); all_goals (first | with_reducible exact Nat.le_refl _ | omega | (simp; done) | (simp; omega) | (have := hb3.size; (try simp at this); have := hB.size; (try simp at this); omega) | (have := hb3.size; (try simp at this); have := hB.size; (try simp at this); (try simp); omega)))⟩

end Go.Proofs.Ytgbckdmhmkpahaa

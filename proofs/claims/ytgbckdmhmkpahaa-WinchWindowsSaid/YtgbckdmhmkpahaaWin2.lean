/-
  Windows of forecasts (chapter 2): the closure of windows, slices.IndexFunc and slices.DeleteFunc at ranges.
-/
import Derived.Test.YtgbckdmhmkpahaaWin1
import Derived.Test.YtgbckdmhmkpahaaWay
set_option linter.unusedVariables false
namespace Go.Proofs.Ytgbckdmhmkpahaa
open Go.RowKit Go.Shelf

set_option maxHeartbeats 1000000 in
theorem windows1_c (a b lim len : Int) (B : Nat) (W : World) (q : Box W B 102 #[.int .i64 lim, .int .i64 len]) (h1 : -100000 ≤ a ∧ a ≤ 100000) (h2 : -100000 ≤ b ∧ b ≤ 100000) :
    Calls Try.prog 146 #[.agg #[.int .i64 a, .int .i64 b], .pointer (some ⟨B, 0, none⟩)] W fun e w' => e = .returned (.bool (!longB len (a, b))) ∧ Below W.heap.size W w' := by
  have HB := Lib.hid (show (!longB len (a, b)) = decide (b - a + 1 < len) by unfold longB; rw [← decide_not]; exact decide_eq_decide.2 (by dsimp only; omega))
  generalize (!longB len (a, b)) = r at *
  have c0 := q.cell 0; have c1 := q.cell 1
  simp at c0 c1
  have hlq := q.lt
  have v1 : IntKind.i64.wrap (b - a) = b - a := IntWalk.i64_in _ (by omega)
  have v2 : IntKind.i64.wrap (b - a + 1) = b - a + 1 := IntWalk.i64_in _ (by omega)
  go_enter Try.func146, Try.ntmps146
  go_wp2
  go_ret
  exact ⟨ret_b (by rw [HB.out]), by focus ((repeat first | with_reducible exact Below.refl _ _ | (with_reducible refine Below.setCell ?_ ?_ _) | (with_reducible refine Below.alloc ?_ ?_ _) | (with_reducible refine below_drewN ?_ _) | (with_reducible refine Below.drew ?_)); all_goals (first | with_reducible exact Nat.le_refl _ | omega | (simp; done) | (simp; omega) | (omega) | ((try simp); omega)))⟩

set_option maxHeartbeats 2000000 in
set_option maxRecDepth 100000 in
theorem indexFuncR_c (l : List Rg) (A : Option Addr) (c : Nat) (lim len : Int) (B : Nat) (w : World) (hn : l.length ≤ 9223372036854775807) (hs : SlV w A (l.flatMap rgV)) (q : Box w B 102 #[.int .i64 lim, .int .i64 len]) (hbd : ∀ r ∈ l, (-100000 ≤ r.1 ∧ r.1 ≤ 100000) ∧ (-100000 ≤ r.2 ∧ r.2 ≤ 100000)) :
    Calls Try.prog 160 #[.slice A l.length c, .func (.func 146) #[] #[.pointer (some ⟨B, 0, none⟩)]] w fun e w' => ∃ r : Int, e = .returned (.int .i64 r) ∧ ((r = -1 ∧ ∀ x ∈ l, longB len x = true) ∨ ∃ k : Nat, r = (k : Int) ∧ (∃ x, l[k]? = some x ∧ longB len x = false) ∧ ∀ x ∈ l.take k, longB len x = true) ∧ Below w.heap.size w w' := by
  have hs := Lib.hid hs
  have hbd := Lib.hid hbd
  go_enter Try.func160, Try.ntmps160
  go_wp2_with fail
  go_loopw [8] (fun i wr => ∃ k : Nat, k ≤ l.length ∧ i = .int .i64 k ∧ Hid (∀ x ∈ l.take k, longB len x = true) ∧ Box wr B 102 #[.int .i64 lim, .int .i64 len] ∧ Below w.heap.size w wr) (fun i _ => l.length - (intOf i).toNat)
  case atStart => exact ⟨0, Nat.zero_le _, rfl, by unfold Hid; simp, q, Below.refl _ _⟩
  case round =>
    clear q
    obtain ⟨k, hk, rfl, hf, q, hB⟩ := hrel
    have hlq := q.lt
    by_cases hlt : k < l.length
    · obtain ⟨bb, off, rfl, hbb, a0, a1⟩ := rg_cells (SlV.below hs.out hB) (List.getElem?_eq_getElem hlt)
      have hbk := hbd.out _ (List.getElem_mem hlt)
      have T1 := Lib.hid (List.take_succ_eq_append_getElem (l := l) hlt)
      have G1 := Lib.hid (List.getElem?_eq_getElem (l := l) hlt)
      generalize l[k] = r at *
      obtain ⟨a, b⟩ := r
      dsimp only at a0 a1 hbk
      have hlt' : (k : Int) < (l.length : Int) := by omega
      have CC := Lib.hid (fun W h => windows1_c a b lim len B W h hbk.1 hbk.2)
      cases hz : longB len (a, b)
      · rw [hz] at CC
        have HZ := Lib.hid hz
        clear hz
        go_wp2_with (first | (go_at_call 146; refine (CC.out _ (by focus (apply Box.via; apply Exists.intro; apply And.intro; (repeat first | with_reducible assumption | with_reducible exact Box.new _ _ _ | ((with_reducible apply Box.newAt); focus (simp; done)) | (with_reducible apply Box.drew) | (with_reducible apply Box.drewN) | (with_reducible apply Box.set) | (with_reducible apply Box.alloc) | (with_reducible apply Box.far)); all_goals (first | with_reducible exact Nat.le_refl _ | omega | (simp; done) | (simp; omega) | (omega) | ((try simp); omega))))).mono ?_; rintro e w2 ⟨rfl, hb2⟩) | fail)
        go_ret
        exact ⟨_, rfl, .inr ⟨k, rfl, ⟨_, G1.out, HZ.out⟩, hf.out⟩, by focus ((repeat first | with_reducible exact Below.refl _ _ | (with_reducible refine Below.setCell ?_ ?_ _) | (with_reducible refine Below.alloc ?_ ?_ _) | (with_reducible refine below_drewN ?_ _) | (with_reducible refine Below.drew ?_) | (with_reducible refine Below.trans ?_ (Below.mono hb2 ?_)) | (with_reducible refine Below.trans ?_ (Below.mono hB ?_))); all_goals (first | with_reducible exact Nat.le_refl _ | omega | (simp; done) | (simp; omega) | (have := hb2.size; (try simp at this); have := hB.size; (try simp at this); omega) | (have := hb2.size; (try simp at this); have := hB.size; (try simp at this); (try simp); omega)))⟩
      · rw [hz] at CC
        have HZ := Lib.hid hz
        clear hz
        go_wp2_with (first | (go_at_call 146; refine (CC.out _ (by focus (apply Box.via; apply Exists.intro; apply And.intro; (repeat first | with_reducible assumption | with_reducible exact Box.new _ _ _ | ((with_reducible apply Box.newAt); focus (simp; done)) | (with_reducible apply Box.drew) | (with_reducible apply Box.drewN) | (with_reducible apply Box.set) | (with_reducible apply Box.alloc) | (with_reducible apply Box.far)); all_goals (first | with_reducible exact Nat.le_refl _ | omega | (simp; done) | (simp; omega) | (omega) | ((try simp); omega))))).mono ?_; rintro e w2 ⟨rfl, hb2⟩) | fail)
        go_roundw
        case rel =>
          refine ⟨k + 1, by omega, by go_num, ?_, by focus (apply Box.via; apply Exists.intro; apply And.intro; (repeat first | with_reducible assumption | with_reducible exact Box.new _ _ _ | ((with_reducible apply Box.newAt); focus (simp; done)) | (with_reducible apply Box.drew) | (with_reducible apply Box.drewN) | (with_reducible apply Box.set) | (with_reducible apply Box.alloc) | (with_reducible apply Box.far) | (with_reducible apply Box.below (hb := hb2))); all_goals (first | with_reducible exact Nat.le_refl _ | omega | (simp; done) | (simp; omega) | (have := hb2.size; (try simp at this); omega) | (have := hb2.size; (try simp at this); (try simp); omega))), by focus ((repeat first | with_reducible exact Below.refl _ _ | (with_reducible refine Below.setCell ?_ ?_ _) | (with_reducible refine Below.alloc ?_ ?_ _) | (with_reducible refine below_drewN ?_ _) | (with_reducible refine Below.drew ?_) | (with_reducible refine Below.trans ?_ (Below.mono hb2 ?_)) | (with_reducible refine Below.trans ?_ (Below.mono hB ?_))); all_goals (first | with_reducible exact Nat.le_refl _ | omega | (simp; done) | (simp; omega) | (have := hb2.size; (try simp at this); have := hB.size; (try simp at this); omega) | (have := hb2.size; (try simp at this); have := hB.size; (try simp at this); (try simp); omega)))⟩
          unfold Hid
          rw [T1.out]
          intro x hx
          rcases List.mem_append.1 hx with hx | hx
          · exact hf.out x hx
          · simp at hx; rw [hx]; exact HZ.out
        case measure => simp [intOf]; omega
    · obtain rfl : k = l.length := by omega
      go_wp2_with fail
      go_ret
      exact ⟨_, rfl, .inl ⟨rfl, fun x hx => hf.out x (by rw [List.take_length]; exact hx)⟩, hB⟩

/-- An array holds values from a place on. -/
def InA (cu : Array Value) (off : Nat) (xs : List Value) : Prop := ∀ t u, xs[t]? = some u → cu[off + t]? = some u
theorem InA.put {cu : Array Value} {off m : Nat} {xs : List Value} {u : Value} (h : InA cu off xs) (hm : m < off ∨ off + xs.length ≤ m) : InA (cu.setIfInBounds m u) off xs := fun t v ht => by
  have hl : t < xs.length := (List.getElem?_eq_some_iff.1 ht).1
  rw [Array.getElem?_setIfInBounds_ne (by omega)]
  exact h t v ht
theorem InA.two {cu : Array Value} {xs : List Value} {a b : Value} (h : InA cu 0 xs) (hs : xs.length + 1 < cu.size) : InA ((cu.setIfInBounds xs.length a).setIfInBounds (xs.length + 1) b) 0 (xs ++ [a, b]) := fun t v ht => by
  rcases Nat.lt_or_ge t xs.length with h1 | h1
  · rw [List.getElem?_append_left h1] at ht
    have := ((h.put (u := a) (m := xs.length) (.inr (by omega))).put (u := b) (m := xs.length + 1) (.inr (by omega))) t v ht
    exact this
  · rw [List.getElem?_append_right h1] at ht
    have h2 : t - xs.length = 0 ∨ t - xs.length = 1 := by
      have := (List.getElem?_eq_some_iff.1 ht).1
      simp at this; omega
    rcases h2 with h2 | h2
    · rw [h2] at ht
      have e : 0 + t = xs.length := by omega
      rw [e, Array.getElem?_setIfInBounds_ne (by omega), Array.getElem?_setIfInBounds_self_of_lt (by omega)]
      simpa using ht
    · rw [h2] at ht
      have e : 0 + t = xs.length + 1 := by omega
      rw [e, Array.getElem?_setIfInBounds_self_of_lt (by simp; omega)]
      simpa using ht
theorem slv_box {w : World} {g off : Nat} {t : TypeId} {cu : Array Value} {xs : List Value} (h : Box w g t cu) (hi : InA cu off xs) : SlV w (some ⟨g, off, none⟩) xs := fun j u hj => ⟨g, off, rfl, h.lt, (h.cell _).trans (hi j u hj)⟩
theorem Below.setCells {base g : Nat} {w0 : World} : ∀ (vs : List Value) (o : Nat) (w : World), Below base w0 w → base ≤ g → Below base w0 (w.setCells g o vs)
  | [], _, _, h, _ => h
  | v :: r, o, w, h, hb => Below.setCells r (o + 1) _ (Below.setCell h hb v) hb
theorem run_clear_rg (w : World) (g n m c : Nat) (hm : 0 < m) (hc : ∀ j, j < m * 2 → (w.cell? ⟨g, n + j, none⟩).isSome = true) (hf : ∀ o, w.frozen? ⟨g, o, none⟩ = false) :
    ∃ L : List Value, ∀ ty, (Builtin.clear_ #[100] ty #[.slice (some ⟨g, n, none⟩) m c]).run Try.prog w = .ok (.tuple #[]) (w.setCells g n L) := by
  refine ⟨(Builtin.zeroCells #[.int .i64 0, .int .i64 0] m).toList, fun ty => ?_⟩
  have hst := run_storeCells_cells (P := Try.prog) g n (Builtin.zeroCells #[.int .i64 0, .int .i64 0] m).toList 0 w (fun j hj => by
      simp [Builtin.zeroCells] at hj
      exact hc j hj) (fun j _ => hf _) (fun v hv => by
      simp [Builtin.zeroCells] at hv
      obtain ⟨i, _, rfl⟩ := hv
      rcases (show i % 2 = 0 ∨ i % 2 = 1 by omega) with h | h <;> rw [h] <;> rfl)
  simp only [Nat.add_zero] at hst
  obtain ⟨m, rfl⟩ : ∃ k, m = k + 1 := ⟨m - 1, by omega⟩
  have hz : (Value.agg #[.int .i64 0, .int .i64 0]).cells = #[.int .i64 0, .int .i64 0] := by simp [Value.cells]
  simp [Builtin.clear_, run_underlying Try.underlying100, Try.zeroValue24, hz, hst]

theorem first_bad {p : Rg → Bool} : ∀ (l : List Rg), (¬ ∀ x ∈ l, p x = true) → ∃ k x, l[k]? = some x ∧ p x = false ∧ ∀ y ∈ l.take k, p y = true
  | [], h => absurd (fun x hx => by simp at hx) h
  | x :: l, h => by
    cases hx : p x with
    | false => exact ⟨0, x, rfl, hx, fun y hy => by simp at hy⟩
    | true =>
      obtain ⟨k, y, h1, h2, h3⟩ := first_bad l (fun h4 => h (fun z hz => by
        rcases List.mem_cons.1 hz with rfl | hz
        · exact hx
        · exact h4 z hz))
      refine ⟨k + 1, y, by simpa using h1, h2, fun z hz => ?_⟩
      rw [List.take_succ_cons] at hz
      rcases List.mem_cons.1 hz with rfl | hz
      · exact hx
      · exact h3 z hz
theorem bad_one {p : Rg → Bool} {l : List Rg} {k k' : Nat} {x x' : Rg} (h1 : l[k]? = some x) (h2 : p x = false) (h3 : ∀ y ∈ l.take k, p y = true) (g1 : l[k']? = some x') (g2 : p x' = false) (g3 : ∀ y ∈ l.take k', p y = true) : k = k' := by
  rcases Nat.lt_trichotomy k k' with h | h | h
  · have := g3 x (List.mem_of_getElem? (i := k) (by rw [List.getElem?_take, if_pos h]; exact h1))
    rw [h2] at this; cases this
  · exact h
  · have := h3 x' (List.mem_of_getElem? (i := k') (by rw [List.getElem?_take, if_pos h]; exact g1))
    rw [g2] at this; cases this
set_option maxHeartbeats 4000000 in
set_option maxRecDepth 100000 in
theorem deleteFuncR_c (l : List Rg) (v : Value) (lim len : Int) (B base : Nat) (w : World) (hn : l.length ≤ 100000) (ho : w.ownsRow base 24 2 v l.length (l.flatMap rgV)) (q : Box w B 102 #[.int .i64 lim, .int .i64 len]) (hbs : base ≤ w.heap.size) (hbd : ∀ r ∈ l, (-100000 ≤ r.1 ∧ r.1 ≤ 100000) ∧ (-100000 ≤ r.2 ∧ r.2 ≤ 100000)) :
    Calls Try.prog 145 #[v, .func (.func 146) #[] #[.pointer (some ⟨B, 0, none⟩)]] w fun e w' => ∃ A cap, e = .returned (.slice A (l.filter (longB len)).length cap) ∧ SlV w' A ((l.filter (longB len)).flatMap rgV) ∧ Below base w w' := by
  rcases ho.2 with ⟨rfl, h0⟩ | ⟨g, cap, cur, rfl, hbg, hh, hc1, hc2, hc3, hc4⟩
  · obtain rfl : l = [] := List.eq_nil_of_length_eq_zero h0
    have IF := Lib.hid (show Calls Try.prog 160 #[.slice none ([] : List Rg).length 0, .func (.func 146) #[] #[.pointer (some ⟨B, 0, none⟩)]] w (fun e w' => e = .returned (.int .i64 (-1)) ∧ Below w.heap.size w w') from (indexFuncR_c [] none 0 lim len B w (by simp) (fun j u hj => by simp at hj) q (by simp)).mono <| by
      rintro e w' ⟨r, h1, h2, h3⟩
      rcases h2 with ⟨rfl, _⟩ | ⟨k, _, ⟨x, hx, _⟩, _⟩
      · exact ⟨h1, h3⟩
      · simp at hx)
    clear ho hbd
    go_enter Try.func145, Try.ntmps145
    go_wp2_with (first | (go_at_call 160; refine IF.out.mono ?_; rintro e w2 ⟨rfl, hb2⟩) | fail)
    go_ret
    exact ⟨none, 0, rfl, fun j u hj => by simp at hj, hb2.mono hbs⟩
  · have hIn : InA cur 0 (l.flatMap rgV) := fun t u ht => by
      rw [← hc4] at ht
      have hl := (List.getElem?_eq_some_iff.1 ht).1
      rw [List.getElem?_take] at ht
      split at ht
      · simpa using ht
      · cases ht
    have hG : Box w g 24 cur := hh
    have IF0 := indexFuncR_c l (some ⟨g, 0, none⟩) cap lim len B w (by omega) (slv_box hG hIn) q hbd
    have hgB : g ≠ B := by
      rintro rfl
      have := (show some (Obj.cells cur 24) = some (Obj.cells #[.int .i64 lim, .int .i64 len] 102) from hh.symm.trans q)
      simp at this
    by_cases hall : ∀ x ∈ l, longB len x = true
    · have IF := Lib.hid (show Calls Try.prog 160 #[.slice (some ⟨g, 0, none⟩) l.length cap, .func (.func 146) #[] #[.pointer (some ⟨B, 0, none⟩)]] w (fun e w' => e = .returned (.int .i64 (-1)) ∧ Below w.heap.size w w') from IF0.mono <| by
        rintro e w' ⟨r, h1, h2, h3⟩
        rcases h2 with ⟨rfl, _⟩ | ⟨k, _, ⟨x, hx, hx2⟩, _⟩
        · exact ⟨h1, h3⟩
        · rw [hall x (List.mem_of_getElem? hx)] at hx2; cases hx2)
      have HF := Lib.hid (show l.filter (longB len) = l from List.filter_eq_self.2 hall)
      clear IF0 hall ho hbd hc4
      have hIn := Lib.hid hIn
      have hGl := hG.lt
      go_enter Try.func145, Try.ntmps145
      go_wp2_with (first | (go_at_call 160; refine IF.out.mono ?_; rintro e w2 ⟨rfl, hb2⟩) | fail)
      go_ret
      refine ⟨some ⟨g, 0, none⟩, cap, ?_, ?_, hb2.mono hbs⟩
      · rw [HF.out]; rfl
      · rw [HF.out]; exact slv_box (hG.below hb2 hGl) hIn.out
    · obtain ⟨k, x0, hk1, hk2, hk3⟩ := first_bad l hall
      have hkl : k < l.length := (List.getElem?_eq_some_iff.1 hk1).1
      have IF := Lib.hid (show Calls Try.prog 160 #[.slice (some ⟨g, 0, none⟩) l.length cap, .func (.func 146) #[] #[.pointer (some ⟨B, 0, none⟩)]] w (fun e w' => e = .returned (.int .i64 (k : Int)) ∧ Below w.heap.size w w') from IF0.mono <| by
        rintro e w' ⟨r, h1, h2, h3⟩
        rcases h2 with ⟨_, h4⟩ | ⟨k', rfl, ⟨x, hx, hx2⟩, h4⟩
        · exact absurd h4 hall
        · rw [bad_one hk1 hk2 hk3 hx hx2 h4]; exact ⟨h1, h3⟩)
      have HK0 : (l.take (k + 1)).filter (longB len) = l.take k := by
        rw [List.take_succ_eq_append_getElem hkl, List.filter_append, List.filter_eq_self.2 hk3]
        have : l[k] = x0 := (List.getElem?_eq_some_iff.1 hk1).2
        rw [this]
        simp [hk2]
      have hkn : (l.take k).length = k := by rw [List.length_take]; omega
      have hIn1 : InA cur 0 ((l.take k).flatMap rgV) := fun t u ht => by
        refine hIn t u ?_
        have h1 : l.flatMap rgV = (l.take k).flatMap rgV ++ (l.drop k).flatMap rgV := by rw [← List.flatMap_append, List.take_append_drop]
        rw [h1, List.getElem?_append_left (List.getElem?_eq_some_iff.1 ht).1]; exact ht
      have hIn2 : InA cur ((k + 1) * 2) ((l.drop (k + 1)).flatMap rgV) := fun t u ht => by
        have h1 : l.flatMap rgV = (l.take (k + 1)).flatMap rgV ++ (l.drop (k + 1)).flatMap rgV := by rw [← List.flatMap_append, List.take_append_drop]
        have h2 : ((l.take (k + 1)).flatMap rgV).length = (k + 1) * 2 := by rw [flatK_len (enc := rgV) (k := 2) (fun _ => rfl), List.length_take, Nat.min_eq_left (by omega)]
        have := hIn ((k + 1) * 2 + t) u (by rw [h1, List.getElem?_append_right (by omega), h2, Nat.add_sub_cancel_left]; exact ht)
        rwa [Nat.zero_add] at this
      have hbd := Lib.hid hbd
      clear IF0 hall ho hc4 hIn hk1 hk2 hk3 hh
      have hIn1 := Lib.hid hIn1; have hIn2 := Lib.hid hIn2
      have hGl := hG.lt; have hql := q.lt
      have hkm : ((k : Int) == -1) = false := beqF (by omega)
      go_enter Try.func145, Try.ntmps145
      go_wp2_with (first | (go_at_call 160; refine IF.out.mono ?_; rintro e w2 ⟨rfl, hb2⟩) | fail)
      go_loopw [5, 6] (fun iv jv wr => ∃ (j : Nat) (cu : Array Value) (K : List Rg), Hid ((l.take j).filter (longB len) = K) ∧ j ≤ l.length ∧ jv = .int .i64 (j : Int) ∧ iv = .int .i64 (K.length : Int) ∧ K.length < j ∧ Box wr g 24 cu ∧ cu.size = cap * 2 ∧ Hid (InA cu 0 (K.flatMap rgV)) ∧ Hid (InA cu (j * 2) ((l.drop j).flatMap rgV)) ∧ Box wr B 102 #[.int .i64 lim, .int .i64 len] ∧ Below base w wr) (fun _ jv _ => l.length - (intOf jv).toNat)
      case atStart => exact ⟨k + 1, cur, l.take k, HK0, by omega, by go_num, by rw [hkn], by omega, hG.below hb2 hGl, hc3, hIn1, hIn2, q.below hb2 hql, hb2.mono hbs⟩
      case round =>
        clear hG q hIn1 hIn2 hGl hql hb2 HK0 hkn IF
        obtain ⟨j, cu, K, hK, hj, rfl, rfl, hKj, hG, hcs, hIn1, hIn2, q, hB⟩ := hrel
        have hGl := hG.lt; have hql := q.lt
        have hcap : j ≤ cap := by omega
        by_cases hlt : j < l.length
        · have D := Lib.hid (List.drop_eq_getElem_cons (l := l) hlt)
          have T1 := Lib.hid (List.take_succ_eq_append_getElem (l := l) hlt)
          have hbk := hbd.out _ (List.getElem_mem hlt)
          generalize l[j] = r at *
          obtain ⟨a, b⟩ := r
          dsimp only at hbk
          have a0 : wr.cell? ⟨g, j * 2, none⟩ = some (.int .i64 a) := (hG.cell _).trans (hIn2.out 0 _ (by rw [D.out]; rfl))
          have a1 : wr.cell? ⟨g, j * 2 + 1, none⟩ = some (.int .i64 b) := (hG.cell _).trans (hIn2.out 1 _ (by rw [D.out]; rfl))
          obtain ⟨u0, hu0⟩ : ∃ u, cu[K.length * 2]? = some u := ⟨_, Array.getElem?_eq_getElem (show K.length * 2 < cu.size by omega)⟩
          obtain ⟨u1, hu1⟩ : ∃ u, cu[K.length * 2 + 1]? = some u := ⟨_, Array.getElem?_eq_getElem (show K.length * 2 + 1 < cu.size by omega)⟩
          have hlt' : (j : Int) < (l.length : Int) := by omega
          have hlk' : (K.length : Int) < (l.length : Int) := by omega
          have CC := Lib.hid (fun W h => windows1_c a b lim len B W h hbk.1 hbk.2)
          have hKl : (K.flatMap rgV).length = K.length * 2 := flatK_len (enc := rgV) (k := 2) (fun _ => rfl) K
          have hIn3 : InA cu ((j + 1) * 2) ((l.drop (j + 1)).flatMap rgV) := fun t u ht => by
            have := hIn2.out (t + 2) u (by rw [D.out]; simpa [rgV] using ht)
            rwa [show j * 2 + (t + 2) = (j + 1) * 2 + t by omega] at this
          have hIn3 := Lib.hid hIn3
          cases hz : longB len (a, b)
          · have HF := Lib.hid (show (l.take (j + 1)).filter (longB len) = K by rw [T1.out, List.filter_append, hK.out]; simp [hz])
            rw [hz] at CC
            clear hz
            go_wp2_with (first | (go_at_call 146; refine (CC.out _ (by focus (apply Box.via; apply Exists.intro; apply And.intro; (repeat first | with_reducible assumption | with_reducible exact Box.new _ _ _ | ((with_reducible apply Box.newAt); focus (simp; done)) | (with_reducible apply Box.drew) | (with_reducible apply Box.drewN) | (with_reducible apply Box.set) | (with_reducible apply Box.alloc) | (with_reducible apply Box.far)); all_goals (first | with_reducible exact Nat.le_refl _ | omega | (simp; done) | (simp; omega) | (omega) | ((try simp); omega))))).mono ?_; rintro e w2 ⟨rfl, hb2⟩) | fail)
            go_roundw
            case rel => exact ⟨j + 1, cu, K, HF, by omega, by go_num, rfl, by omega, by focus (apply Box.via; apply Exists.intro; apply And.intro; (repeat first | with_reducible assumption | with_reducible exact Box.new _ _ _ | ((with_reducible apply Box.newAt); focus (simp; done)) | (with_reducible apply Box.drew) | (with_reducible apply Box.drewN) | (with_reducible apply Box.set) | (with_reducible apply Box.alloc) | (with_reducible apply Box.far) | (with_reducible apply Box.below (hb := hb2))); all_goals (first | with_reducible exact Nat.le_refl _ | omega | (simp; done) | (simp; omega) | (have := hb2.size; (try simp at this); omega) | (have := hb2.size; (try simp at this); (try simp); omega))), hcs, hIn1, hIn3, by focus (apply Box.via; apply Exists.intro; apply And.intro; (repeat first | with_reducible assumption | with_reducible exact Box.new _ _ _ | ((with_reducible apply Box.newAt); focus (simp; done)) | (with_reducible apply Box.drew) | (with_reducible apply Box.drewN) | (with_reducible apply Box.set) | (with_reducible apply Box.alloc) | (with_reducible apply Box.far) | (with_reducible apply Box.below (hb := hb2))); all_goals (first | with_reducible exact Nat.le_refl _ | omega | (simp; done) | (simp; omega) | (have := hb2.size; (try simp at this); omega) | (have := hb2.size; (try simp at this); (try simp); omega))), by focus ((repeat first | with_reducible exact Below.refl _ _ | (with_reducible refine Below.setCell ?_ ?_ _) | (with_reducible refine Below.alloc ?_ ?_ _) | (with_reducible refine below_drewN ?_ _) | (with_reducible refine Below.drew ?_) | (with_reducible refine Below.trans ?_ (Below.mono hb2 ?_)) | (with_reducible refine Below.trans ?_ (Below.mono hB ?_))); all_goals (first | with_reducible exact Nat.le_refl _ | omega | (simp; done) | (simp; omega) | (have := hb2.size; (try simp at this); have := hB.size; (try simp at this); omega) | (have := hb2.size; (try simp at this); have := hB.size; (try simp at this); (try simp); omega)))⟩
            case measure => simp [intOf]; omega
          · have HF := Lib.hid (show (l.take (j + 1)).filter (longB len) = K ++ [(a, b)] by rw [T1.out, List.filter_append, hK.out]; simp [hz])
            rw [hz] at CC
            clear hz
            have hgn : g ≠ wr.heap.size := by omega
            have hIn4 := Lib.hid (hIn1.out.two (a := .int .i64 a) (b := .int .i64 b) (by omega))
            have hIn5 := Lib.hid ((hIn3.out.put (m := K.length * 2) (u := .int .i64 a) (.inl (by omega))).put (m := K.length * 2 + 1) (u := .int .i64 b) (.inl (by omega)))
            rw [hKl] at hIn4
            have HE := Lib.hid (show (K ++ [(a, b)]).flatMap rgV = K.flatMap rgV ++ [.int .i64 a, .int .i64 b] by rw [List.flatMap_append]; rfl)
            go_wp2_with (first | (go_at_call 146; refine (CC.out _ (by focus (apply Box.via; apply Exists.intro; apply And.intro; (repeat first | with_reducible assumption | with_reducible exact Box.new _ _ _ | ((with_reducible apply Box.newAt); focus (simp; done)) | (with_reducible apply Box.drew) | (with_reducible apply Box.drewN) | (with_reducible apply Box.set) | (with_reducible apply Box.alloc) | (with_reducible apply Box.far)); all_goals (first | with_reducible exact Nat.le_refl _ | omega | (simp; done) | (simp; omega) | (omega) | ((try simp); omega))))).mono ?_; rintro e w2 ⟨rfl, hb2⟩; (have hG2 : Box w2 g 24 cu := (by focus (apply Box.via; apply Exists.intro; apply And.intro; (repeat first | with_reducible assumption | with_reducible exact Box.new _ _ _ | ((with_reducible apply Box.newAt); focus (simp; done)) | (with_reducible apply Box.drew) | (with_reducible apply Box.drewN) | (with_reducible apply Box.set) | (with_reducible apply Box.alloc) | (with_reducible apply Box.far) | (with_reducible apply Box.below (hb := hb2))); all_goals (first | with_reducible exact Nat.le_refl _ | omega | (simp; done) | (simp; omega) | (have := hb2.size; (try simp at this); omega) | (have := hb2.size; (try simp at this); (try simp); omega))))); (have hN2 : Box w2 wr.heap.size 24 #[.int .i64 a, .int .i64 b] := (by focus (apply Box.via; apply Exists.intro; apply And.intro; (repeat first | with_reducible assumption | with_reducible exact Box.new _ _ _ | ((with_reducible apply Box.newAt); focus (simp; done)) | (with_reducible apply Box.drew) | (with_reducible apply Box.drewN) | (with_reducible apply Box.set) | (with_reducible apply Box.alloc) | (with_reducible apply Box.far) | (with_reducible apply Box.below (hb := hb2))); all_goals (first | with_reducible exact Nat.le_refl _ | omega | (simp; done) | (simp; omega) | (have := hb2.size; (try simp at this); omega) | (have := hb2.size; (try simp at this); (try simp); omega))))); (have m0 : w2.cell? ⟨wr.heap.size, 0, none⟩ = some (.int .i64 a) := hN2.cell 0); (have m1 : w2.cell? ⟨wr.heap.size, 1, none⟩ = some (.int .i64 b) := hN2.cell 1); (have m2 : w2.cell? ⟨g, K.length * 2, none⟩ = some u0 := (hG2.cell _).trans hu0); (have m3 : w2.cell? ⟨g, K.length * 2 + 1, none⟩ = some u1 := (hG2.cell _).trans hu1); (have m4 : ∀ o, w2.frozen? ⟨g, o, none⟩ = false := hG2.froz); (have hlt2 := hG2.lt); (have hln2 := hN2.lt)) | fail)
            go_roundw
            case rel =>
              refine ⟨j + 1, (cu.setIfInBounds (K.length * 2) (.int .i64 a)).setIfInBounds (K.length * 2 + 1) (.int .i64 b), K ++ [(a, b)], HF, by omega, by go_num, by simp, by (simp <;> omega), (hG2.set _ _).set _ _, by simp [hcs], by rw [HE.out]; exact hIn4, hIn5, ?_, ?_⟩
              · have hq2 : Box w2 B 102 #[.int .i64 lim, .int .i64 len] := by focus (apply Box.via; apply Exists.intro; apply And.intro; (repeat first | with_reducible assumption | with_reducible exact Box.new _ _ _ | ((with_reducible apply Box.newAt); focus (simp; done)) | (with_reducible apply Box.drew) | (with_reducible apply Box.drewN) | (with_reducible apply Box.set) | (with_reducible apply Box.alloc) | (with_reducible apply Box.far) | (with_reducible apply Box.below (hb := hb2))); all_goals (first | with_reducible exact Nat.le_refl _ | omega | (simp; done) | (simp; omega) | (have := hb2.size; (try simp at this); omega) | (have := hb2.size; (try simp at this); (try simp); omega)))
                exact Box.far (Box.far hq2 (Ne.symm hgB) _) (Ne.symm hgB) _
              · focus ((repeat first | with_reducible exact Below.refl _ _ | (with_reducible refine Below.setCell ?_ ?_ _) | (with_reducible refine Below.alloc ?_ ?_ _) | (with_reducible refine below_drewN ?_ _) | (with_reducible refine Below.drew ?_) | (with_reducible refine Below.trans ?_ (Below.mono hb2 ?_)) | (with_reducible refine Below.trans ?_ (Below.mono hB ?_))); all_goals (first | with_reducible exact Nat.le_refl _ | omega | (simp; done) | (simp; omega) | (have := hb2.size; (try simp at this); have := hB.size; (try simp at this); omega) | (have := hb2.size; (try simp at this); have := hB.size; (try simp at this); (try simp); omega)))
            case measure => simp [intOf]; omega
        · obtain rfl : j = l.length := by omega
          have HF := Lib.hid (show l.filter (longB len) = K by rw [← hK.out, List.take_length])
          obtain ⟨L, hcl⟩ := run_clear_rg wr g (K.length * 2) (l.length - K.length) (cap - K.length) (by omega) (fun t ht => by rw [hG.cell, Array.getElem?_eq_getElem (by omega)]; rfl) hG.froz
          have hS := Lib.hid (slv_box hG hIn1.out)
          have hKl : (K.flatMap rgV).length = K.length * 2 := flatK_len (enc := rgV) (k := 2) (fun _ => rfl) K
          have g1 : K.length ≤ l.length := by omega
          have g2 : K.length ≤ cap := by omega
          go_wp2_with fail
          go_ret
          refine ⟨some ⟨g, 0, none⟩, cap, ?_, ?_, Below.setCells _ _ _ hB hbg⟩
          · rw [HF.out]; rfl
          · rw [HF.out]
            intro t u ht
            obtain ⟨b', o', e1, e2, e3⟩ := hS.out t u ht
            cases e1
            refine ⟨g, 0, rfl, ?_, ?_⟩
            · exact Nat.lt_of_lt_of_le e2 (Below.setCells (base := 0) (w0 := wr) L (K.length * 2) wr (Below.refl _ _) (Nat.zero_le _)).size
            · rw [World.cell?_setCells_out]
              · exact e3
              · intro _ _
                have := (List.getElem?_eq_some_iff.1 ht).1
                left; simp; omega

end Go.Proofs.Ytgbckdmhmkpahaa

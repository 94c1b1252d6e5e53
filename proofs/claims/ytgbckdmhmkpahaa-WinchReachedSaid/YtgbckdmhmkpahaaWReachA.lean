/-
  WReachA: the texts Rch1, Rch2, Cle1, Cle2, WReach in one.
-/
import Derived.Test.YtgbckdmhmkpahaaExp3
import Derived.Test.YtgbckdmhmkpahaaCls7
import Derived.Test.YtgbckdmhmkpahaaSame
import Derived.Test.YtgbckdmhmkpahaaRefLoop
import Derived.Test.YtgbckdmhmkpahaaInts
import Derived.Test.YtgbckdmhmkpahaaAwake
import Derived.Deep.DeepCutAuto
import Derived.Deep.CutBlock
/-
  The references Holds and Broken (chapter 2).
-/
set_option linter.unusedVariables false
namespace Go.Proofs.Ytgbckdmhmkpahaa
open Go.RowKit Go.Shelf

theorem brk_F {T : List Int} {lo hi turn slew : Int} {X : FoundX} (h : toF X = found T lo hi turn slew) : ((found T lo hi turn slew).2 = none ↔ X.2 = none) ∧ decide ((brkX X.2).1 < 0) = hldB (found T lo hi turn slew).2 := by
  rw [← h]
  unfold toF hldB
  cases X.2 with
  | none => exact ⟨by simp, rfl⟩
  | some x => exact ⟨by simp, decide_eq_false (show ¬ ((x.1 : Int) < 0) by omega)⟩

set_option maxHeartbeats 1000000 in
theorem refHolds_c (T : List Int) (A : Option Addr) (c : Nat) (lo hi turn slew : Int) (w : World) (hs : SlI w A T) (he : (chkL T lo hi turn slew).2 = 0) :
    Calls Try.prog 69 #[.agg #[.slice A T.length c, .int .i64 lo, .int .i64 hi, .int .i64 turn, .int .i64 slew]] w fun e w' => e = .returned (.bool (hldB (found T lo hi turn slew).2)) ∧ Below w.heap.size w w' := by
  have EX := Lib.hid (fun W h => explored_c T A c lo hi turn slew W h he)
  have HS := Lib.hid hs
  clear hs
  go_enter Try.func69, Try.ntmps69
  go_upto_region 2 with (first | (go_at_call 119; refine (EX.out _ (SlI.below HS.out (by focus ((repeat first | with_reducible exact Below.refl _ _ | (with_reducible refine Below.setCell ?_ ?_ _) | (with_reducible refine Below.alloc ?_ ?_ _) | (with_reducible refine below_drewN ?_ _) | (with_reducible refine Below.drew ?_)); all_goals (first | with_reducible exact Nat.le_refl _ | omega | (simp; done) | (simp; omega) | (omega) | ((try simp); omega)))))).mono ?_; rintro e w1 ⟨X, g7, c7, g8, c8, g9, c9, rfl, hX, hok, h7, h8, h9, hb1⟩) | fail)
  have HR := Lib.hid (brk_F hX).2
  clear hX h7 h8 h9 hok
  go_wp2_with fail
  go_ret
  exact ⟨ret_b HR.out, by focus ((repeat first | with_reducible exact Below.refl _ _ | (with_reducible refine Below.setCell ?_ ?_ _) | (with_reducible refine Below.alloc ?_ ?_ _) | (with_reducible refine below_drewN ?_ _) | (with_reducible refine Below.drew ?_) | (with_reducible refine Below.trans ?_ (Below.mono hb1 ?_))); all_goals (first | with_reducible exact Nat.le_refl _ | omega | (simp; done) | (simp; omega) | (have := hb1.size; (try simp at this); omega) | (have := hb1.size; (try simp at this); (try simp); omega)))⟩

def BrkEnd (o : Option (List Int)) (w : World) (e : Ending) (w' : World) : Prop :=
  ∃ D cap, e = .returned (.tuple #[.slice D (o.getD []).length cap, .bool o.isSome]) ∧ SlI w' D (o.getD []) ∧ Below w.heap.size w w'

set_option maxHeartbeats 4000000 in
set_option maxRecDepth 100000 in
theorem refBroken_c (T : List Int) (A : Option Addr) (c : Nat) (lo hi turn slew : Int) (w : World) (hs : SlI w A T) (he : (chkL T lo hi turn slew).2 = 0) :
    Calls Try.prog 67 #[.agg #[.slice A T.length c, .int .i64 lo, .int .i64 hi, .int .i64 turn, .int .i64 slew]] w (BrkEnd (found T lo hi turn slew).2 w) := by
  obtain ⟨k1, k2, k3, k4, k5, k6, k7⟩ := chkL_ok he
  obtain ⟨hF, _⟩ := foundOk (turn := turn) (slew := slew) k1 k2 k3 k4.1 k5 k6
  have h2079 := hF.length k1 k5.1 k6.2
  have hE := hF.ear
  have EX := Lib.hid (fun W h => explored_c T A c lo hi turn slew W h he)
  have HS := Lib.hid hs
  obtain ⟨⟨al, sea⟩, hFL⟩ : ∃ FL, found T lo hi turn slew = FL := ⟨_, rfl⟩
  have HX := Lib.hid (fun X (h : toF X = found T lo hi turn slew) => (show X.1 = al ∧ X.2.map (fun x => wayL X.1 x.1 ++ [x.2]) = sea from by rw [hFL] at h; exact ⟨congrArg Prod.fst h, congrArg Prod.snd h⟩))
  rw [hFL] at h2079 hE ⊢
  dsimp only at h2079 hE ⊢
  clear hs he k3 hF hFL
  go_enter Try.func67, Try.ntmps67
  go_upto_region 2 with (first | (go_at_call 119; refine (EX.out _ (SlI.below HS.out (by focus ((repeat first | with_reducible exact Below.refl _ _ | (with_reducible refine Below.setCell ?_ ?_ _) | (with_reducible refine Below.alloc ?_ ?_ _) | (with_reducible refine below_drewN ?_ _) | (with_reducible refine Below.drew ?_)); all_goals (first | with_reducible exact Nat.le_refl _ | omega | (simp; done) | (simp; omega) | (omega) | ((try simp); omega)))))).mono ?_; rintro e w1 ⟨X, g7, c7, g8, c8, g9, c9, rfl, hX, hok, h7, h8, h9, hb1⟩) | fail)
  obtain ⟨x1, x2⟩ := HX.out X hX
  obtain ⟨Xl, Xo⟩ := X
  dsimp only at x1 x2 h7 h8 h9
  subst x1
  have hBw : Below w.heap.size w w1 := by focus ((repeat first | with_reducible exact Below.refl _ _ | (with_reducible refine Below.setCell ?_ ?_ _) | (with_reducible refine Below.alloc ?_ ?_ _) | (with_reducible refine below_drewN ?_ _) | (with_reducible refine Below.drew ?_) | (with_reducible refine Below.trans ?_ (Below.mono hb1 ?_))); all_goals (first | with_reducible exact Nat.le_refl _ | omega | (simp; done) | (simp; omega) | (have := hb1.size; (try simp at this); omega) | (have := hb1.size; (try simp at this); (try simp); omega)))
  clear hX HX hb1 h7
  generalize w1 = W1 at *
  cases Xo with
  | none =>
    have hx2 : sea = none := x2.symm
    subst hx2
    clear x2 hok h8 h9
    have e1 : (brkX none).1 < 0 := by decide
    go_wp2_with fail
    go_ret2
    exact ⟨none, 0, rfl, SlI.nil _ _, hBw⟩
  | some x =>
    obtain ⟨j, h⟩ := x
    have hx2 : sea = some (wayL Xl j ++ [h]) := x2.symm
    subst hx2
    have hj : j < Xl.length := hok _ rfl
    have e1 : (brkX (some (j, h))).1 = (j : Int) := rfl
    have e2 : (brkX (some (j, h))).2 = h := rfl
    clear x2 hok
    obtain ⟨L, hL⟩ : ∃ L, wayL Xl j ++ [h] = L := ⟨_, rfl⟩
    dsimp only
    rw [e1, e2]
    have HL := Lib.hid hL
    clear hL e1 e2
    have H8 := Lib.hid h8; have H9 := Lib.hid h9
    clear h8 h9
    go_wp2_with fail
    go_loopw [9, 10] (fun v9 v10 wr => ∃ (i D n cap : Nat) (out : List Int), v9 = .slice (some ⟨D, 0, none⟩) n cap ∧ v10 = .int .i64 (i : Int) ∧ n = out.length ∧ 0 < out.length ∧ out.length + i ≤ 2080 ∧ i < Xl.length ∧ Hid (wayL Xl i ++ out = L) ∧ SlI wr (some ⟨D, 0, none⟩) out ∧ Below W1.heap.size W1 wr) (fun _ v10 _ => (intOf v10).toNat)
    case atStart => exact ⟨j, W1.heap.size, 1, 1, [h], rfl, rfl, rfl, by simp, by simp; omega, hj, HL, sli_new W1 [h] 3, by focus ((repeat first | with_reducible exact Below.refl _ _ | (with_reducible refine Below.setCell ?_ ?_ _) | (with_reducible refine Below.alloc ?_ ?_ _) | (with_reducible refine below_drewN ?_ _) | (with_reducible refine Below.drew ?_)); all_goals (first | with_reducible exact Nat.le_refl _ | omega | (simp; done) | (simp; omega) | (omega) | ((try simp); omega)))⟩
    case round =>
      obtain ⟨i, D, n, cap, out, rfl, rfl, rfl, h0, hle, hi', hf, hD, hW⟩ := hrel
      have hsi := List.getElem?_eq_getElem hi'
      have hEs := hE i _ hsi
      obtain ⟨b8, o8, e8, hb8, a8⟩ := (SlI.below H8.out hW) i _ (show (Xl.map fun s => s.2.1)[i]? = some Xl[i].2.1 by simp [hsi])
      obtain ⟨b9, o9, e9, hb9, a9⟩ := (SlI.below H9.out hW) i _ (show (Xl.map fun s => s.2.2)[i]? = some Xl[i].2.2 by simp [hsi])
      cases e8; cases e9
      have W0 := Lib.hid (fun (hz : Xl[i].2.1 = -1) => wayL_zero hsi hz)
      have WN := Lib.hid (fun (m : Nat) (hz : Xl[i].2.1 = (m : Int)) => wayL_next hE hsi hz)
      clear hsi
      generalize Xl[i] = s at *
      obtain ⟨st, bf, hv⟩ := s
      dsimp only at a8 a9 hEs W0 WN
      simp only [Nat.zero_add] at a8 a9
      have hlt' : (i : Int) < (Xl.length : Int) := by omega
      have hBr := hBw.trans (hW.mono hBw.size)
      by_cases hb : 0 ≤ bf
      · obtain ⟨m, rfl⟩ : ∃ m : Nat, bf = (m : Int) := ⟨bf.toNat, by omega⟩
        have hd : decide ((m : Int) ≥ 0) = true := decide_eq_true (by omega)
        have HN := Lib.hid (WN.out m rfl)
        obtain ⟨bD, oD, eD, hbD, _⟩ := hD 0 _ (List.getElem?_eq_getElem h0)
        cases eD
        have hnews : ∀ j u, (out.map (Value.int .i64))[j]? = some u → (wr.alloc (.cells #[.int .i64 hv] 3)).cell? ((⟨D, 0, none⟩ : Addr).add j) = some u := fun j u hj => by
          rw [List.getElem?_map, Option.map_eq_some_iff] at hj
          obtain ⟨x, hx, rfl⟩ := hj
          obtain ⟨b5, o5, e5, hb5, c5⟩ := (hD.alloc (.cells #[.int .i64 hv] 3)) j x hx
          cases e5
          have e : (⟨D, 0, none⟩ : Addr).add j = ⟨D, 0 + j, none⟩ := by unfold Addr.add; split <;> simp [*]
          rw [e]; exact c5
        have HC := Lib.hid hnews
        have H1 := Lib.hid (show ∀ u ∈ out.map (Value.int .i64), u.oneCell' = true from fun u hu => by obtain ⟨x, _, rfl⟩ := List.mem_map.1 hu; rfl)
        obtain ⟨i0, hi0, hz0, hz1, hz2⟩ := info_parts info_Int
        have hm1 : 1 + out.length ≤ maxLen := by unfold maxLen; omega
        have hm2 : (1 + out.length) * 8 ≤ 140737488355328 := by omega
        have ho := own_of_box (base := wr.heap.size) (size := 1) (n := 1) (Box.new wr 3 #[.int .i64 hv]) (Nat.le_refl _) (by unfold maxLen; simp) rfl
        clear hnews hD WN W0 hb
        go_wp2_with (first | (at_builtin; go_must (refine wpList_append_own _ rfl _ _ 22 rfl wr.heap.size 3 i0 (.int .i64 0) 1 8 Try.underlying22 hi0 hz0 hz1 hz2 rfl (by decide) _ _ _ rfl ho ⟨D, 0, none⟩ out.length cap (out.map (Value.int .i64)) rfl (by simp) HC.out H1.out hm1 hm2 (by simp) ?_); intro v' wx hown1 hgrow1 _; (have hB1 : Below wr.heap.size wr wx := ((Below.refl _ wr).alloc (Nat.le_refl _) _).grown hgrow1 (by simp) (fun k e => by have e : some wr.heap.size = some k := e; injection e with e; omega)); (have b8' := (hB1.cell (p := ⟨g8, i, none⟩) hb8).trans a8); obtain ⟨D', cap', rfl, _, _⟩ := own_pos hown1 (by omega) (by decide)) | fail)
        go_roundw
        case rel => exact ⟨m, D', 1 + out.length, cap', hv :: out, rfl, rfl, by simp; omega, by simp, by simp; omega, by omega, by unfold Hid; rw [← hf.out, HN.out, List.append_assoc]; rfl, sli_own (by simpa [Nat.add_comm] using hown1), hW.trans (hB1.mono hW.size)⟩
        case measure => simp [intOf]; omega
      · have hz : bf = -1 := by omega
        subst hz
        have HN := Lib.hid (W0.out rfl)
        clear WN W0
        go_wp2_with fail
        go_ret2
        have e1 : wayL Xl j ++ [h] = out := by rw [HL.out, ← hf.out, HN.out]; rfl
        rw [e1]
        exact ⟨some ⟨D, 0, none⟩, cap, rfl, hD, hBr⟩

end Go.Proofs.Ytgbckdmhmkpahaa

/-
  The reference Reached (chapter 2).
-/
set_option linter.unusedVariables false
namespace Go.Proofs.Ytgbckdmhmkpahaa
open Go.RowKit Go.Shelf



/-- The states whose numbers below k are marked, in order. -/
def outN (bd lo hi : Int) (L : List Int) (k : Nat) : List St3 := ((List.range k).filter fun (n : Nat) => decide ((n : Int) ∈ L)).map fun (n : Nat) => decS bd lo hi n
theorem outN_succ {bd lo hi : Int} {L : List Int} {k : Nat} : outN bd lo hi L (k + 1) = if (k : Int) ∈ L then outN bd lo hi L k ++ [decS bd lo hi k] else outN bd lo hi L k := by
  unfold outN
  rw [List.range_succ, List.filter_append, List.map_append]
  by_cases h : (k : Int) ∈ L <;> simp [h]
theorem outN_len {bd lo hi : Int} {L : List Int} (k : Nat) : (outN bd lo hi L k).length ≤ k := by
  unfold outN
  rw [List.length_map]
  exact Nat.le_trans (List.length_filter_le _ _) (by simp)
theorem outN_all {T : List Int} {lo hi turn slew : Int} (hk : (chkL T lo hi turn slew).2 = 0) {N : Nat} (hN : allN T.length lo hi = N) {X : FoundX} (hX : toF X = found T lo hi turn slew) : outN (T.length / 2 : Nat) lo hi ((X.1.map fun s => s.1).map (fun s => numS (T.length / 2 : Nat) lo hi s)) N = reachL T lo hi turn slew := by
  obtain ⟨k1, k2, k3, k4, k5, k6, k7⟩ := chkL_ok hk
  have hmem : ∀ s, s ∈ (X.1.map fun s => s.1) ↔ s ∈ reachL T lo hi turn slew := fun s => by
    have e : X.1 = (found T lo hi turn slew).1 := by rw [← hX]; rfl
    unfold reachL
    rw [(sortS_perm _).mem_iff, e]
  have hv : ∀ s ∈ reachL T lo hi turn slew, StV T lo hi s := fun s hs => by
    obtain ⟨hF, _⟩ := foundOk (turn := turn) (slew := slew) k1 k2 k3 k4.1 k5 k6
    obtain ⟨r, hr, rfl⟩ := List.mem_map.1 ((sortS_perm _).mem_iff.1 hs)
    have := hF.box r hr
    exact ⟨by omega, by omega, by omega, by omega, by omega, by omega⟩
  have hd : ∀ n : Nat, n < N → StV T lo hi (decS (T.length / 2 : Nat) lo hi n) ∧ numS (T.length / 2 : Nat) lo hi (decS (T.length / 2 : Nat) lo hi n) = n := fun n hn => dec_num k2 k5 k6 (by omega) (by rw [hN]; omega)
  have hst : (outN (T.length / 2 : Nat) lo hi ((X.1.map fun s => s.1).map (fun s => numS (T.length / 2 : Nat) lo hi s)) N).Pairwise fun a b => ltS a b = true := by
    unfold outN
    rw [List.pairwise_map]
    have h1 : (List.range N).Pairwise (· < ·) := List.pairwise_lt_range
    refine List.Pairwise.imp_of_mem (fun {a b} ha hb hab => ?_) (h1.sublist (List.filter_sublist))
    have ha' := List.mem_range.1 (List.mem_filter.1 ha).1
    have hb' := List.mem_range.1 (List.mem_filter.1 hb).1
    exact (num_lt k5 k6 (hd a ha').1 (hd b hb').1).1 (by rw [(hd a ha').2, (hd b hb').2]; omega)
  have hm2 : ∀ s, s ∈ outN (T.length / 2 : Nat) lo hi ((X.1.map fun s => s.1).map (fun s => numS (T.length / 2 : Nat) lo hi s)) N ↔ s ∈ reachL T lo hi turn slew := fun s => by
    unfold outN
    constructor
    · intro h
      obtain ⟨n, hn, rfl⟩ := List.mem_map.1 h
      obtain ⟨h1, h2⟩ := List.mem_filter.1 hn
      obtain ⟨t, ht, he⟩ := List.mem_map.1 (of_decide_eq_true h2)
      have h3 := (hmem t).1 ht
      have h4 := hd n (List.mem_range.1 h1)
      rw [num_inj k5 k6 h4.1 (hv t h3) (h4.2.trans he.symm)]
      exact h3
    · intro h
      have hvs := hv s h
      obtain ⟨r1, r2⟩ := num_rng k2 k5 k6 hvs
      obtain ⟨n, hn⟩ : ∃ n : Nat, numS (T.length / 2 : Nat) lo hi s = n := ⟨_, (Int.toNat_of_nonneg r1).symm⟩
      have hnN : n < N := by rw [hn, hN] at r2; omega
      have h4 := hd n hnN
      refine List.mem_map.2 ⟨n, List.mem_filter.2 ⟨List.mem_range.2 hnN, decide_eq_true (List.mem_map.2 ⟨s, (hmem s).2 h, hn⟩)⟩, ?_⟩
      exact num_inj k5 k6 h4.1 hvs (h4.2.trans hn.symm)
  have s1 := strict_sub _ _ hst (reachL_strict hk) (fun x hx => (hm2 x).2 hx)
  have s2 := strict_sub _ _ (reachL_strict hk) hst (fun x hx => (hm2 x).1 hx)
  exact s2.eq_of_length (Nat.le_antisymm s2.length_le s1.length_le)

def RchEnd (l : List St3) (w : World) (e : Ending) (w' : World) : Prop := ∃ D cap, e = .returned (.slice D l.length cap) ∧ SlV w' D (l.flatMap st3V) ∧ Below w.heap.size w w'
set_option maxHeartbeats 8000000 in
set_option maxRecDepth 100000 in
theorem refReached_c (T : List Int) (A : Option Addr) (c : Nat) (lo hi turn slew : Int) (w : World) (hs : SlI w A T) (he : (chkL T lo hi turn slew).2 = 0) :
    Calls Try.prog 68 #[.agg #[.slice A T.length c, .int .i64 lo, .int .i64 hi, .int .i64 turn, .int .i64 slew]] w (RchEnd (reachL T lo hi turn slew) w) := by
  obtain ⟨k1, k2, k3, k4, k5, k6, k7⟩ := chkL_ok he
  have EX := Lib.hid (fun W h => explored_c T A c lo hi turn slew W h he)
  have HS := Lib.hid hs
  obtain ⟨N, hN⟩ : ∃ N : Nat, allN T.length lo hi = N := ⟨(allN T.length lo hi).toNat, by have := mul_bd (x := (T.length : Int) * 21) (h := hi - lo + 1) (by omega) (by omega); have h2 := num_rng k2 k5 k6 (st0_v (T := T) k5 k6); omega⟩
  have hN2 : (N : Int) ≤ 900000 := by rw [← hN]; exact (mul_bd (x := (T.length : Int) * 21) (h := hi - lo + 1) (by omega) (by omega)).2
  have hN3 : N ≤ 900000 := by omega
  have AL0 := fun W => all_c T A c lo hi turn slew W (by omega) k5 k6
  rw [hN] at AL0
  have AL := Lib.hid AL0
  have HN := Lib.hid hN
  have OA := Lib.hid (fun X h => outN_all he hN (X := X) h)
  have NU := Lib.hid (fun (a b e : Int) (hv : StV T lo hi (a, b, e)) W => number_c T A c lo hi turn slew a b e W (by omega) k5 k6 (by have := hv.1; have := hv.2.1; dsimp only at *; omega) (by have := hv.2.2.1; have := hv.2.2.2.1; dsimp only at *; omega) (by have := hv.2.2.2.2.1; have := hv.2.2.2.2.2; dsimp only at *; omega))
  have VV := Lib.hid (fun X (h : toF X = found T lo hi turn slew) => (show X.1.length ≤ 2079 ∧ ∀ s ∈ X.1, StV T lo hi s.1 from by
    obtain ⟨hF, _⟩ := foundOk (turn := turn) (slew := slew) k1 k2 k3 k4.1 k5 k6
    rw [← h] at hF
    exact ⟨hF.length k1 k5.1 k6.2, fun s hs => by have := hF.box s hs; exact ⟨by omega, by omega, by omega, by omega, by omega, by omega⟩⟩))
  have BC := Lib.hid (fun W => refBound_c T A c lo hi turn slew W (by omega))
  obtain ⟨ib, hib, hzb, hsb, hbb⟩ := info_parts infoB4
  clear AL0 hs k3 hN he
  go_enter Try.func68, Try.ntmps68
  go_upto_region 3 with (first | (go_at_call 119; refine (EX.out _ (SlI.below HS.out (by focus ((repeat first | with_reducible exact Below.refl _ _ | (with_reducible refine Below.setCell ?_ ?_ _) | (with_reducible refine Below.alloc ?_ ?_ _) | (with_reducible refine below_drewN ?_ _) | (with_reducible refine Below.drew ?_)); all_goals (first | with_reducible exact Nat.le_refl _ | omega | (simp; done) | (simp; omega) | (omega) | ((try simp); omega)))))).mono ?_; rintro e w1 ⟨X, g7, c7, g8, c8, g9, c9, rfl, hX, hok, h7, h8, h9, hb1⟩; (have hz1 : w.heap.size < w1.heap.size := (by have := hb1.size; (try simp at this); omega)); obtain ⟨hc1, hf1⟩ := bcell hb1) | (go_at_call 120; refine (AL.out _).mono ?_; rintro e w2 ⟨rfl, hb2⟩; (have hz2 : w1.heap.size ≤ w2.heap.size := (by have := hb2.size; (try simp at this); omega))) | (at_make; refine wpList_make_full _ rfl _ _ 181 rfl (w.heap.size + 1) 4 ib (.bool false) 1 Try.underlying181 hib hzb hsb .i64 .i64 _ _ N rfl rfl rfl rfl (by rw [hbb]; omega) (by unfold maxLen; omega) (by omega) ?_; intro w3 hown3 hgrow3) | fail)
  have hbm : Below w2.heap.size w2 w3 := (Below.refl _ w2).grown hgrow3 (Nat.le_refl _) (fun k e => nomatch e)
  have hB : Below w.heap.size w w3 := by focus ((repeat first | with_reducible exact Below.refl _ _ | (with_reducible refine Below.setCell ?_ ?_ _) | (with_reducible refine Below.alloc ?_ ?_ _) | (with_reducible refine below_drewN ?_ _) | (with_reducible refine Below.drew ?_) | (with_reducible refine Below.trans ?_ (Below.mono hb1 ?_)) | (with_reducible refine Below.trans ?_ (Below.mono hb2 ?_)) | (with_reducible refine Below.trans ?_ (Below.mono hbm ?_))); all_goals (first | with_reducible exact Nat.le_refl _ | omega | (simp; done) | (simp; omega) | (have := hb1.size; (try simp at this); have := hb2.size; (try simp at this); have := hbm.size; (try simp at this); omega) | (have := hb1.size; (try simp at this); have := hb2.size; (try simp at this); have := hbm.size; (try simp at this); (try simp); omega)))
  have b0 : Box w3 w.heap.size 26 #[.slice A T.length c, .int .i64 lo, .int .i64 hi, .int .i64 turn, .int .i64 slew] := by focus (apply Box.via; apply Exists.intro; apply And.intro; (repeat first | with_reducible assumption | with_reducible exact Box.new _ _ _ | ((with_reducible apply Box.newAt); focus (simp; done)) | (with_reducible apply Box.drew) | (with_reducible apply Box.drewN) | (with_reducible apply Box.set) | (with_reducible apply Box.alloc) | (with_reducible apply Box.far) | (with_reducible apply Box.below (hb := hb1)) | (with_reducible apply Box.below (hb := hb2)) | (with_reducible apply Box.below (hb := hbm))); all_goals (first | with_reducible exact Nat.le_refl _ | omega | (simp; done) | (simp; omega) | (have := hb1.size; (try simp at this); have := hb2.size; (try simp at this); have := hbm.size; (try simp at this); omega) | (have := hb1.size; (try simp at this); have := hb2.size; (try simp at this); have := hbm.size; (try simp at this); (try simp); omega)))
  have bs : Box w3 w2.heap.size 4 (marks N []).toArray := by
    have := own_box hown3
    rw [show (Value.bool false).cells = #[Value.bool false] from rfl, toList_madeCells_one, Nat.mul_one] at this
    rw [show marks N [] = List.replicate N (Value.bool false) from by simp [marks, List.map_const']]
    exact this
  obtain ⟨v1, v2⟩ := VV.out X hX
  have OX := Lib.hid (OA.out X hX)
  have H7 := Lib.hid (SlV.below h7 hb2)
  have HV := Lib.hid v2
  have hbs : w.heap.size < w2.heap.size := by omega
  clear VV OA hX hok h7 h8 h9 hb1 hb2 hc1 hf1 hz1 hz2 v2 hown3 hgrow3 AL hib hzb hsb hbb EX
  obtain ⟨gs, hgs⟩ : ∃ gs, w2.heap.size = gs := ⟨_, rfl⟩
  have HGS := Lib.hid hgs
  rw [hgs] at hbm bs hbs ⊢
  have m0 : ((X.1.map fun s => s.1).take 0).map (fun s => numS (T.length / 2 : Nat) lo hi s) = [] := rfl
  have bs0 : Hid (Box w3 gs 4 (marks N (((X.1.map fun s => s.1).take 0).map (fun s => numS (T.length / 2 : Nat) lo hi s))).toArray) := bs
  clear hgs m0 bs
  go_wp2_with fail
  go_loopw [9] (fun v9 wr => ∃ i : Nat, v9 = .int .i64 (i : Int) ∧ i ≤ X.1.length ∧ Hid (Box wr gs 4 (marks N (((X.1.map fun s => s.1).take i).map (fun s => numS (T.length / 2 : Nat) lo hi s))).toArray) ∧ Box wr w.heap.size 26 #[.slice A T.length c, .int .i64 lo, .int .i64 hi, .int .i64 turn, .int .i64 slew] ∧ Below gs w2 wr ∧ Below w.heap.size w wr) (fun v9 _ => X.1.length - (intOf v9).toNat)
  case atStart => exact ⟨0, rfl, Nat.zero_le _, bs0, b0, hbm, hB⟩
  case round =>
    clear bs0 b0 hbm hB
    obtain ⟨i, rfl, hi', hbx, b0, hbm, hB⟩ := hrel
    have h7r := SlV.below H7.out (by rw [HGS.out]; exact hbm)
    have c00 := b0.cell 0; have c01 := b0.cell 1; have c02 := b0.cell 2; have c03 := b0.cell 3; have c04 := b0.cell 4
    simp at c00 c01 c02 c03 c04
    have l0 := b0.lt; have lg := hbx.out.lt
    by_cases hlt : i < X.1.length
    · have hsi := List.getElem?_eq_getElem hlt
      have hv := HV.out _ (List.getElem_mem hlt)
      have h7i : (X.1.map fun s => s.1)[i]? = some X.1[i].1 := by simp [hsi]
      obtain ⟨b7, off7, e7, hb7, a0, a1, a2⟩ := ev_cells h7r h7i
      have e7' : g7 = b7 ∧ 0 = off7 := by simpa using e7
      obtain ⟨rfl, rfl⟩ := e7'
      have htk : ((X.1.map fun s => s.1).take (i + 1)).map (fun s => numS (T.length / 2 : Nat) lo hi s) = ((X.1.map fun s => s.1).take i).map (fun s => numS (T.length / 2 : Nat) lo hi s) ++ [numS (T.length / 2 : Nat) lo hi X.1[i].1] := by
        rw [List.take_add_one, h7i]; simp
      have HTK := Lib.hid htk
      obtain ⟨b8, o8, e8, hb8, _⟩ := ev_cells H7.out h7i
      have e8' : g7 = b8 ∧ 0 = o8 := by simpa using e8
      have hgb : g7 < gs := by rw [e8'.1, ← HGS.out]; exact hb8
      clear e8 e8' hb8
      clear htk h7i e7 hsi
      generalize X.1[i] = s at *
      obtain ⟨⟨x1, x2, x3⟩, bf, hh⟩ := s
      dsimp only at a0 a1 a2 hv
      simp only [Nat.zero_add] at a0 a1 a2
      have hlt' : (i : Int) < (X.1.length : Int) := by omega
      obtain ⟨r1, r2⟩ := num_rng k2 k5 k6 hv
      obtain ⟨kk, hkk⟩ : ∃ kk : Nat, numS (T.length / 2 : Nat) lo hi (x1, x2, x3) = kk := ⟨_, (Int.toNat_of_nonneg r1).symm⟩
      have hkN : kk < N := by rw [hkk, HN.out] at r2; omega
      have NU1 := NU.out x1 x2 x3 hv
      rw [hkk] at NU1
      have N1 := Lib.hid NU1
      have HK := Lib.hid hkk
      clear NU1 hkk r1 r2 hv
      have y0 : wr.cell? ⟨gs, kk, none⟩ = some (.bool (decide ((kk : Int) ∈ ((X.1.map fun s => s.1).take i).map (fun s => numS (T.length / 2 : Nat) lo hi s)))) := by have := hbx.out.cell kk; simpa [marks_get hkN] using this
      have yf := hbx.out.froz
      have hkN' : (kk : Int) < (N : Int) := by omega
      generalize decide ((kk : Int) ∈ ((X.1.map fun s => s.1).take i).map (fun s => numS (T.length / 2 : Nat) lo hi s)) = y at *
      have : w.heap.size ≠ gs := (by omega); have : gs ≠ w.heap.size := (by omega)
      have : g7 ≠ gs := (by omega); have : gs ≠ g7 := (by omega)
      go_upto_region 6 with fail
      go_region_held3 (fun w' => w'.cell? ⟨w.heap.size, 0, none⟩ = some (.slice A T.length c) ∧ w'.cell? ⟨w.heap.size, 1, none⟩ = some (.int .i64 lo) ∧ w'.cell? ⟨w.heap.size, 2, none⟩ = some (.int .i64 hi) ∧ w'.cell? ⟨w.heap.size, 3, none⟩ = some (.int .i64 turn) ∧ w'.cell? ⟨w.heap.size, 4, none⟩ = some (.int .i64 slew) ∧ w'.cell? ⟨g7, i * 3, none⟩ = some (.int .i64 x1) ∧ w'.cell? ⟨g7, i * 3 + 1, none⟩ = some (.int .i64 x2) ∧ w'.cell? ⟨g7, i * 3 + 2, none⟩ = some (.int .i64 x3)) (go_keep) (first | (go_at_call 121; refine (N1.out _).mono ?_; rintro e w4 ⟨rfl, hb4⟩; (have hz4 : wr.heap.size ≤ w4.heap.size := (by have := hb4.size; (try simp at this); omega)); have k0 := ((hb4).cell (p := ⟨w.heap.size, 0, none⟩) (by simp; omega)).trans (show _ = some (Value.slice A T.length c) from by simp [go_sem, *]); have k1 := ((hb4).cell (p := ⟨w.heap.size, 1, none⟩) (by simp; omega)).trans (show _ = some (Value.int .i64 lo) from by simp [go_sem, *]); have k2 := ((hb4).cell (p := ⟨w.heap.size, 2, none⟩) (by simp; omega)).trans (show _ = some (Value.int .i64 hi) from by simp [go_sem, *]); have k3 := ((hb4).cell (p := ⟨w.heap.size, 3, none⟩) (by simp; omega)).trans (show _ = some (Value.int .i64 turn) from by simp [go_sem, *]); have k4 := ((hb4).cell (p := ⟨w.heap.size, 4, none⟩) (by simp; omega)).trans (show _ = some (Value.int .i64 slew) from by simp [go_sem, *]); have k5 := ((hb4).cell (p := ⟨g7, i * 3, none⟩) (by simp; omega)).trans (show _ = some (Value.int .i64 x1) from by simp [go_sem, *]); have k6 := ((hb4).cell (p := ⟨g7, i * 3 + 1, none⟩) (by simp; omega)).trans (show _ = some (Value.int .i64 x2) from by simp [go_sem, *]); have k7 := ((hb4).cell (p := ⟨g7, i * 3 + 2, none⟩) (by simp; omega)).trans (show _ = some (Value.int .i64 x3) from by simp [go_sem, *]); have k8 := ((hb4).cell (p := ⟨gs, kk, none⟩) (by simp; omega)).trans (show _ = some (Value.bool y) from by simp [go_sem, *]); (have yf4 : ∀ o, w4.frozen? ⟨gs, o, none⟩ = false := (fun o => (hb4.frozen (p := ⟨gs, o, none⟩) (by simp; omega)).trans (yf o))); (have hlg4 : gs < w4.heap.size := by omega)) | fail)
      all_goals go_wp2_with fail
      all_goals go_roundw
      case' rel => refine ⟨i + 1, by go_num, by omega, ?_, ?_, ?_, ?_⟩
      all_goals first | (unfold Hid; rw [HTK.out, HK.out, ← marks_set hkN]; exact ((Box.drew hbx.out).below hb4 (by simp; omega)).set kk _) | (focus (apply Box.via; apply Exists.intro; apply And.intro; (repeat first | with_reducible assumption | with_reducible exact Box.new _ _ _ | ((with_reducible apply Box.newAt); focus (simp; done)) | (with_reducible apply Box.drew) | (with_reducible apply Box.drewN) | (with_reducible apply Box.set) | (with_reducible apply Box.alloc) | (with_reducible apply Box.far) | (with_reducible apply Box.below (hb := hb4))); all_goals (first | with_reducible exact Nat.le_refl _ | omega | (simp; done) | (simp; omega) | (have := hb4.size; (try simp at this); omega) | (have := hb4.size; (try simp at this); (try simp); omega)))) | (focus ((repeat first | with_reducible exact Below.refl _ _ | (with_reducible refine Below.setCell ?_ ?_ _) | (with_reducible refine Below.alloc ?_ ?_ _) | (with_reducible refine below_drewN ?_ _) | (with_reducible refine Below.drew ?_) | (with_reducible refine Below.trans ?_ (Below.mono hb4 ?_)) | (with_reducible refine Below.trans ?_ (Below.mono hbm ?_))); all_goals (first | with_reducible exact Nat.le_refl _ | omega | (simp; done) | (simp; omega) | (have := hb4.size; (try simp at this); have := hbm.size; (try simp at this); omega) | (have := hb4.size; (try simp at this); have := hbm.size; (try simp at this); (try simp); omega)))) | (focus ((repeat first | with_reducible exact Below.refl _ _ | (with_reducible refine Below.setCell ?_ ?_ _) | (with_reducible refine Below.alloc ?_ ?_ _) | (with_reducible refine below_drewN ?_ _) | (with_reducible refine Below.drew ?_) | (with_reducible refine Below.trans ?_ (Below.mono hb4 ?_)) | (with_reducible refine Below.trans ?_ (Below.mono hB ?_))); all_goals (first | with_reducible exact Nat.le_refl _ | omega | (simp; done) | (simp; omega) | (have := hb4.size; (try simp at this); have := hB.size; (try simp at this); omega) | (have := hb4.size; (try simp at this); have := hB.size; (try simp at this); (try simp); omega)))) | (simp [intOf]; omega)
    · obtain rfl : i = X.1.length := by omega
      rw [show ((X.1.map fun s => s.1).take X.1.length) = (X.1.map fun s => s.1) from List.take_of_length_le (by simp)] at hbx
      obtain ⟨W2, rfl⟩ : ∃ W2 : World, W2 = wr := ⟨_, rfl⟩
      obtain ⟨H, hH⟩ : ∃ H, hi - lo + 1 = H := ⟨_, rfl⟩
      obtain ⟨L, hL⟩ : ∃ L, (X.1.map fun s => s.1).map (fun s => numS (T.length / 2 : Nat) lo hi s) = L := ⟨_, rfl⟩
      rw [hL] at hbx OX
      obtain ⟨bd, hbd⟩ : ∃ bd, T.length / 2 = bd := ⟨_, rfl⟩
      have BC1 := BC.out
      rw [hbd] at OX BC1
      have BC2 := Lib.hid BC1
      have hbd5 : bd ≤ 5 := by omega
      have hH9 : 1 ≤ H ∧ H ≤ 9 := by omega
      have HD := Lib.hid (show ∀ n : Int, decS bd lo hi n = (n / H / 21 - bd, n / H % 21 - 10, n % H + lo) from fun n => by unfold decS; rw [hH])
      have o0 : W2.ownsRow W2.heap.size 42 3 (.slice none 0 0) (outN bd lo hi L 0).length ((outN bd lo hi L 0).flatMap st3V) := World.ownsRow_nil _ _ _ _
      clear hi' hlt hL hbd BC BC1 NU HV H7 h7r hbm
      go_wp2_with fail
      go_loopw [10, 13] (fun v10 v13 wr => ∃ k : Nat, v13 = .int .i64 (k : Int) ∧ k ≤ N ∧ wr.ownsRow W2.heap.size 42 3 v10 (outN bd lo hi L k).length ((outN bd lo hi L k).flatMap st3V) ∧ Below W2.heap.size W2 wr) (fun _ v13 _ => N - (intOf v13).toNat)
      case atStart => exact ⟨0, rfl, Nat.zero_le _, o0, Below.refl _ _⟩
      case round =>
        clear c00 c01 c02 c03 c04 o0
        obtain ⟨k, rfl, hk, hown, hW⟩ := hrel
        have hbx' := hbx.out.below hW lg
        have b0' := b0.below hW l0
        have hBr := hB.trans (hW.mono (by omega))
        have ol := outN_len (bd := bd) (lo := lo) (hi := hi) (L := L) k
        by_cases hlt : k < N
        · have y0 : wr.cell? ⟨gs, k, none⟩ = some (.bool (decide ((k : Int) ∈ L))) := by have := hbx'.cell k; simpa [marks_get hlt] using this
          have hkN' : (k : Int) < (N : Int) := by omega
          have lg' := hbx'.lt; have l0' := b0'.lt
          have c00 := b0'.cell 0; have c01 := b0'.cell 1; have c02 := b0'.cell 2; have c03 := b0'.cell 3; have c04 := b0'.cell 4
          simp at c00 c01 c02 c03 c04
          by_cases hm : (k : Int) ∈ L
          · rw [decide_eq_true hm] at y0
            have HO := Lib.hid (show outN bd lo hi L (k + 1) = outN bd lo hi L k ++ [decS bd lo hi k] from by rw [outN_succ, if_pos hm])
            clear hm
            have q0 : 0 ≤ (k : Int) / H := Int.ediv_nonneg (by omega) (by omega)
            have q1 : (k : Int) / H ≤ k := Int.ediv_le_self _ (by omega)
            have r0 : 0 ≤ (k : Int) % H := Int.emod_nonneg _ (by omega)
            have r1 : (k : Int) % H < H := Int.emod_lt_of_pos _ (by omega)
            have u1 : (k : Int).tdiv H = (k : Int) / H := Int.tdiv_eq_ediv_of_nonneg (by omega)
            have u2 : (k : Int).tmod H = (k : Int) % H := Int.tmod_eq_emod_of_nonneg (by omega)
            have HDk := Lib.hid (HD.out k)
            clear HD
            generalize (k : Int) / H = q at *
            generalize (k : Int) % H = r at *
            have u3 : q.tdiv 21 = q / 21 := Int.tdiv_eq_ediv_of_nonneg (by omega)
            have u4 : q.tmod 21 = q % 21 := Int.tmod_eq_emod_of_nonneg (by omega)
            have q2 : 0 ≤ q / 21 ∧ q / 21 ≤ 900000 := by omega
            have q3 : 0 ≤ q % 21 ∧ q % 21 < 21 := by omega
            generalize q / 21 = qa at *
            generalize q % 21 = qb at *
            have s1 : IntKind.i64.wrap (qa - (bd : Int)) = qa - bd := IntWalk.i64_in _ (by omega)
            have s2 : IntKind.i64.wrap (qb - 10) = qb - 10 := IntWalk.i64_in _ (by omega)
            have s3 : IntKind.i64.wrap (r + lo) = r + lo := IntWalk.i64_in _ (by omega)
            have s4 : IntKind.i64.wrap q = q := IntWalk.i64_in _ (by omega)
            have s5 : IntKind.i64.wrap qa = qa := IntWalk.i64_in _ (by omega)
            have hH0 : (H == 0) = false := beqF (by omega)
            have hHn : ¬ H = 0 := by omega
            obtain ⟨j0, zS, hj0, hy0, hy1, hy2, hy3⟩ := infoOk_parts info_St
            have hm1 : (outN bd lo hi L k).length + 1 ≤ maxLen := by unfold maxLen; omega
            have hm2 : ((outN bd lo hi L k).length + 1) * 24 ≤ 140737488355328 := by omega
            have hWs := hW.size
            go_upto_region 14 with fail
            go_region_held3 (fun w' => w'.cell? ⟨w.heap.size, 0, none⟩ = some (.slice A T.length c) ∧ w'.cell? ⟨w.heap.size, 1, none⟩ = some (.int .i64 lo) ∧ w'.cell? ⟨w.heap.size, 2, none⟩ = some (.int .i64 hi) ∧ w'.cell? ⟨w.heap.size, 3, none⟩ = some (.int .i64 turn) ∧ w'.cell? ⟨w.heap.size, 4, none⟩ = some (.int .i64 slew)) (go_keep) (first | (go_at_call 108; refine (BC2.out _).mono ?_; rintro e w4 ⟨rfl, hb4⟩; (have hz4 : wr.heap.size ≤ w4.heap.size := (by have := hb4.size; (try simp at this); omega)); have k0 := ((hb4).cell (p := ⟨w.heap.size, 0, none⟩) (by simp; omega)).trans (show _ = some (Value.slice A T.length c) from by simp [go_sem, *]); have k1 := ((hb4).cell (p := ⟨w.heap.size, 1, none⟩) (by simp; omega)).trans (show _ = some (Value.int .i64 lo) from by simp [go_sem, *]); have k2 := ((hb4).cell (p := ⟨w.heap.size, 2, none⟩) (by simp; omega)).trans (show _ = some (Value.int .i64 hi) from by simp [go_sem, *]); have k3 := ((hb4).cell (p := ⟨w.heap.size, 3, none⟩) (by simp; omega)).trans (show _ = some (Value.int .i64 turn) from by simp [go_sem, *]); have k4 := ((hb4).cell (p := ⟨w.heap.size, 4, none⟩) (by simp; omega)).trans (show _ = some (Value.int .i64 slew) from by simp [go_sem, *]); (have hown4 := own_below hown (show Below wr.heap.size wr w4 from by focus ((repeat first | with_reducible exact Below.refl _ _ | (with_reducible refine Below.setCell ?_ ?_ _) | (with_reducible refine Below.alloc ?_ ?_ _) | (with_reducible refine below_drewN ?_ _) | (with_reducible refine Below.drew ?_) | (with_reducible refine Below.trans ?_ (Below.mono hb4 ?_))); all_goals (first | with_reducible exact Nat.le_refl _ | omega | (simp; done) | (simp; omega) | (have := hb4.size; (try simp at this); omega) | (have := hb4.size; (try simp at this); (try simp); omega))))); (have b04 := b0'.below (show Below wr.heap.size wr w4 from by focus ((repeat first | with_reducible exact Below.refl _ _ | (with_reducible refine Below.setCell ?_ ?_ _) | (with_reducible refine Below.alloc ?_ ?_ _) | (with_reducible refine below_drewN ?_ _) | (with_reducible refine Below.drew ?_) | (with_reducible refine Below.trans ?_ (Below.mono hb4 ?_))); all_goals (first | with_reducible exact Nat.le_refl _ | omega | (simp; done) | (simp; omega) | (have := hb4.size; (try simp at this); omega) | (have := hb4.size; (try simp at this); (try simp); omega)))) l0'); (have hnews := Lib.hid (cell_three_new w4 (.int .i64 (qa - bd)) (.int .i64 (qb - 10)) (.int .i64 (r + lo)) 42)); (have hbas : W2.heap.size ≤ w4.heap.size + 1 := by omega); (have hWb := hW.trans (show Below W2.heap.size wr w4 from by focus ((repeat first | with_reducible exact Below.refl _ _ | (with_reducible refine Below.setCell ?_ ?_ _) | (with_reducible refine Below.alloc ?_ ?_ _) | (with_reducible refine below_drewN ?_ _) | (with_reducible refine Below.drew ?_) | (with_reducible refine Below.trans ?_ (Below.mono hb4 ?_))); all_goals (first | with_reducible exact Nat.le_refl _ | omega | (simp; done) | (simp; omega) | (have := hb4.size; (try simp at this); omega) | (have := hb4.size; (try simp at this); (try simp); omega)))))) | (refine step_append_lies _ rfl (.tmp 57) (.tmp 80) 38 rfl W2.heap.size 42 j0 zS 3 24 Try.underlying38 hj0 hy0 hy1 hy2 hy3 (by decide) _ _ _ rfl (hown4.alloc _) ⟨w4.heap.size, 0, none⟩ 1 1 [.int .i64 (qa - bd), .int .i64 (qb - 10), .int .i64 (r + lo)] rfl rfl hnews.out (by simp [Value.oneCell']) (by decide) hm1 hm2 (by simp; omega) _ rfl ?_; intro g' cap' w5 hown5 hgrow5 hat5 hlt5; (have hW5 : Below W2.heap.size W2 w5 := (hWb.alloc hWb.size _).grown hgrow5 (by simp; omega) (fun k e => (hown4.lt k e).1)); (have b05 : Box w5 w.heap.size 26 #[.slice A T.length c, .int .i64 lo, .int .i64 hi, .int .i64 turn, .int .i64 slew] := b0.below hW5 l0); (have : w5.cell? ⟨w.heap.size, 0, none⟩ = some (.slice A T.length c) := b05.cell 0); (have : w5.cell? ⟨w.heap.size, 1, none⟩ = some (.int .i64 lo) := b05.cell 1); (have : w5.cell? ⟨w.heap.size, 2, none⟩ = some (.int .i64 hi) := b05.cell 2); (have : w5.cell? ⟨w.heap.size, 3, none⟩ = some (.int .i64 turn) := b05.cell 3); (have : w5.cell? ⟨w.heap.size, 4, none⟩ = some (.int .i64 slew) := b05.cell 4)) | fail)
            all_goals (as_aux_lemma => (
              go_wp2_with fail
              go_roundw
              case rel => exact ⟨k + 1, by go_num, by omega, by rw [HO.out, HDk.out]; simpa [List.flatMap_append, st3V] using hown5, hW5⟩
              case measure => simp [intOf]; omega))
          · rw [decide_eq_false hm] at y0
            have HO := Lib.hid (show outN bd lo hi L (k + 1) = outN bd lo hi L k from by rw [outN_succ, if_neg hm])
            clear hm
            go_wp2_with fail
            go_roundw
            case rel => exact ⟨k + 1, by go_num, by omega, by rw [HO.out]; exact hown, hW⟩
            case measure => simp [intOf]; omega
        · obtain rfl : k = N := by omega
          rw [OX.out] at hown
          rcases hown.2 with ⟨rfl, h0⟩ | ⟨g, cap, cur, rfl, _⟩
          · have H0 := Lib.hid h0
            clear h0
            go_wp2_with fail
            go_ret
            exact ⟨none, 0, by rw [H0.out]; rfl, slv_own (n := (reachL T lo hi turn slew).length) (c := 0) (k := 3) (by decide) (by rw [H0.out] at hown ⊢; exact hown), hBr⟩
          · go_wp2_with fail
            go_ret
            exact ⟨_, cap, rfl, slv_own (k := 3) (by decide) hown, hBr⟩

end Go.Proofs.Ytgbckdmhmkpahaa

/-
  The reference of closed sets of states (chapter 2): find.
-/
set_option linter.unusedVariables false
namespace Go.Proofs.Ytgbckdmhmkpahaa
open Go.RowKit Go.Shelf
attribute [local go_sem ↓] eqlO_st neqO_st

def FindEnd (xs : List St3) (s : St3) (w : World) (e : Ending) (w' : World) : Prop := ∃ f : Int, e = .returned (.int .i64 f) ∧ decide (f < 0) = !decide (s ∈ xs) ∧ Below w.heap.size w w'
set_option maxHeartbeats 2000000 in
theorem refFind_c (xs : List St3) (A : Option Addr) (c : Nat) (y1 y2 y3 : Int) (w : World) (hn : xs.length ≤ 100000) (hs : SlV w A (xs.flatMap st3V)) :
    Calls Try.prog 123 #[.slice A xs.length c, .agg #[.int .i64 y1, .int .i64 y2, .int .i64 y3]] w (FindEnd xs (y1, y2, y3) w) := by
  have HS := Lib.hid hs
  have z0 : Hid ((y1, y2, y3) ∉ xs.take 0) := by unfold Hid; simp
  clear hs
  go_enter Try.func123, Try.ntmps123
  go_wp2_with fail
  go_loopw [5] (fun v5 wr => ∃ k : Nat, v5 = .int .i64 (k : Int) ∧ k ≤ xs.length ∧ Hid ((y1, y2, y3) ∉ xs.take k) ∧ Box wr w.heap.size 42 #[.int .i64 y1, .int .i64 y2, .int .i64 y3] ∧ Below w.heap.size w wr) (fun v5 _ => xs.length - (intOf v5).toNat)
  case atStart => exact ⟨0, rfl, Nat.zero_le _, z0, by focus (apply Box.via; apply Exists.intro; apply And.intro; (repeat first | with_reducible assumption | with_reducible exact Box.new _ _ _ | ((with_reducible apply Box.newAt); focus (simp; done)) | (with_reducible apply Box.drew) | (with_reducible apply Box.drewN) | (with_reducible apply Box.set) | (with_reducible apply Box.alloc) | (with_reducible apply Box.far)); all_goals (first | with_reducible exact Nat.le_refl _ | omega | (simp; done) | (simp; omega) | (omega) | ((try simp); omega))), by focus ((repeat first | with_reducible exact Below.refl _ _ | (with_reducible refine Below.setCell ?_ ?_ _) | (with_reducible refine Below.alloc ?_ ?_ _) | (with_reducible refine below_drewN ?_ _) | (with_reducible refine Below.drew ?_)); all_goals (first | with_reducible exact Nat.le_refl _ | omega | (simp; done) | (simp; omega) | (omega) | ((try simp); omega)))⟩
  case round =>
    obtain ⟨k, rfl, hk, hz, q, hB⟩ := hrel
    have c0 := q.cell 0; have c1 := q.cell 1; have c2 := q.cell 2
    simp at c0 c1 c2
    have lq := q.lt
    by_cases hlt : k < xs.length
    · obtain ⟨b1, o1, rfl, hbb, a0, a1, a2⟩ := ev_cells (SlV.below HS.out hB) (List.getElem?_eq_getElem hlt)
      have hT := Lib.hid (show xs.take (k + 1) = xs.take k ++ [xs[k]] from by rw [List.take_add_one, List.getElem?_eq_getElem hlt]; rfl)
      have hM := Lib.hid (List.getElem_mem hlt)
      generalize xs[k] = x at *
      obtain ⟨x1, x2, x3⟩ := x
      dsimp only at a0 a1 a2
      have hlt' : (k : Int) < (xs.length : Int) := by omega
      by_cases hxy : x1 = y1 ∧ x2 = y2 ∧ x3 = y3
      · have h1 : same3 x1 x2 x3 y1 y2 y3 = true := same3_t.2 hxy
        have hm : (y1, y2, y3) ∈ xs := by obtain ⟨rfl, rfl, rfl⟩ := hxy; exact hM.out
        have HM := Lib.hid hm
        clear hxy hm
        go_upto_region 4 with fail
        go_quiet (fail)
        go_wp2_with fail
        go_ret
        exact ⟨k, rfl, by rw [decide_eq_true HM.out]; exact decide_eq_false (by omega), below_drewN hB _⟩
      · have h1 : same3 x1 x2 x3 y1 y2 y3 = false := same3_f.2 hxy
        have HM : Hid ((y1, y2, y3) ∉ xs.take (k + 1)) := by
          unfold Hid
          rw [hT.out, List.mem_append]
          rintro (h | h)
          · exact hz.out h
          · simp at h; exact hxy ⟨h.1.symm, h.2.1.symm, h.2.2.symm⟩
        clear hxy
        go_upto_region 4 with fail
        go_quiet (fail)
        go_wp2_with fail
        go_roundw
        case rel => exact ⟨k + 1, by go_num, by omega, HM, q.drewN _, below_drewN hB _⟩
        case measure => simp [intOf]; omega
    · have hm : (y1, y2, y3) ∉ xs := by have := hz.out; rwa [List.take_of_length_le (by omega)] at this
      have HM := Lib.hid hm
      clear hm
      go_wp2_with fail
      go_ret
      exact ⟨-1, rfl, by rw [decide_eq_false HM.out]; rfl, hB⟩

end Go.Proofs.Ytgbckdmhmkpahaa

/-
  The reference of closed sets of states (chapter 2): ClosedErr at a valid loop.
-/
set_option linter.unusedVariables false
namespace Go.Proofs.Ytgbckdmhmkpahaa
open Go.RowKit Go.Shelf


set_option maxHeartbeats 8000000 in
set_option maxRecDepth 100000 in
theorem closedErr_c (T : List Int) (A : Option Addr) (c : Nat) (lo hi turn slew : Int) (xs : List St3) (B : Option Addr) (d : Nat) (w : World) (hs : SlI w A T) (hv : SlV w B (xs.flatMap st3V)) (hn : xs.length ≤ 100000) (he : (chkL T lo hi turn slew).2 = 0) :
    Calls Try.prog 70 #[.agg #[.slice A T.length c, .int .i64 lo, .int .i64 hi, .int .i64 turn, .int .i64 slew], .slice B xs.length d] w fun e w' => e = .returned (.tuple #[.int .i64 (clsP T lo hi turn slew xs).1, .int .i64 (clsP T lo hi turn slew xs).2]) ∧ Below w.heap.size w w' := by
  obtain ⟨k1, k2, k3, k4, k5, k6, k7⟩ := chkL_ok he
  have HS := Lib.hid hs
  have HV := Lib.hid hv
  have K3 := Lib.hid k3
  have hP : clsP T lo hi turn slew xs = if (chkO T lo hi none 0 xs).2 ≠ 0 then chkO T lo hi none 0 xs
      else if (0, 0, 0) ∈ xs then chkN T lo hi turn slew xs 0 xs else (0, 6) := by unfold clsP; rw [if_neg (by simpa using he)]
  have HP := Lib.hid hP
  obtain ⟨N, hN⟩ : ∃ N : Nat, allN T.length lo hi = N := ⟨(allN T.length lo hi).toNat, by have := mul_bd (x := (T.length : Int) * 21) (h := hi - lo + 1) (by omega) (by omega); have h2 := num_rng k2 k5 k6 (st0_v (T := T) k5 k6); omega⟩
  have hN2 : (N : Int) ≤ 900000 := by rw [← hN]; exact (mul_bd (x := (T.length : Int) * 21) (h := hi - lo + 1) (by omega) (by omega)).2
  have hN3 : N ≤ 900000 := by omega
  have AL0 := fun W => all_c T A c lo hi turn slew W (by omega) k5 k6
  rw [hN] at AL0
  have AL := Lib.hid AL0
  have HN := Lib.hid hN
  have NU := Lib.hid (fun (a b e : Int) (hv : StV T lo hi (a, b, e)) W => number_c T A c lo hi turn slew a b e W (by omega) k5 k6 (by have := hv.1; have := hv.2.1; dsimp only at *; omega) (by have := hv.2.2.1; have := hv.2.2.2.1; dsimp only at *; omega) (by have := hv.2.2.2.2.1; have := hv.2.2.2.2.2; dsimp only at *; omega))
  have SE := Lib.hid (fun a b e W => refStateErr_c T A c lo hi turn slew a b e W (by omega))
  obtain ⟨ib, hib, hzb, hsb, hbb⟩ := info_parts infoB4
  clear AL0 hs hv k3 hN he hP
  generalize clsP T lo hi turn slew xs = PP at *
  go_enter Try.func70, Try.ntmps70
  go_upto_region 2 with (first | (go_at_call 120; refine (AL.out _).mono ?_; rintro e w2 ⟨rfl, hb2⟩) | (at_make; refine wpList_make_full _ rfl _ _ 181 rfl 0 4 ib (.bool false) 1 Try.underlying181 hib hzb hsb .i64 .i64 _ _ N rfl rfl rfl rfl (by rw [hbb]; omega) (by unfold maxLen; omega) (Nat.zero_le _) ?_; intro w3 hown3 hgrow3) | fail)
  have hz2 : w.heap.size < w2.heap.size := by have := hb2.size; (try simp at this); omega
  have hbm : Below w2.heap.size w2 w3 := (Below.refl _ w2).grown hgrow3 (Nat.le_refl _) (fun k e => nomatch e)
  have hB : Below w.heap.size w w3 := by focus ((repeat first | with_reducible exact Below.refl _ _ | (with_reducible refine Below.setCell ?_ ?_ _) | (with_reducible refine Below.alloc ?_ ?_ _) | (with_reducible refine below_drewN ?_ _) | (with_reducible refine Below.drew ?_) | (with_reducible refine Below.trans ?_ (Below.mono hb2 ?_)) | (with_reducible refine Below.trans ?_ (Below.mono hbm ?_))); all_goals (first | with_reducible exact Nat.le_refl _ | omega | (simp; done) | (simp; omega) | (have := hb2.size; (try simp at this); have := hbm.size; (try simp at this); omega) | (have := hb2.size; (try simp at this); have := hbm.size; (try simp at this); (try simp); omega)))
  have b0 : Box w3 w.heap.size 26 #[.slice A T.length c, .int .i64 lo, .int .i64 hi, .int .i64 turn, .int .i64 slew] := by focus (apply Box.via; apply Exists.intro; apply And.intro; (repeat first | with_reducible assumption | with_reducible exact Box.new _ _ _ | ((with_reducible apply Box.newAt); focus (simp; done)) | (with_reducible apply Box.drew) | (with_reducible apply Box.drewN) | (with_reducible apply Box.set) | (with_reducible apply Box.alloc) | (with_reducible apply Box.far) | (with_reducible apply Box.below (hb := hb2)) | (with_reducible apply Box.below (hb := hbm))); all_goals (first | with_reducible exact Nat.le_refl _ | omega | (simp; done) | (simp; omega) | (have := hb2.size; (try simp at this); have := hbm.size; (try simp at this); omega) | (have := hb2.size; (try simp at this); have := hbm.size; (try simp at this); (try simp); omega)))
  have bs : Box w3 w2.heap.size 4 (marks N []).toArray := by
    have := own_box hown3
    rw [show (Value.bool false).cells = #[Value.bool false] from rfl, toList_madeCells_one, Nat.mul_one] at this
    rw [show marks N [] = List.replicate N (Value.bool false) from by simp [marks, List.map_const']]
    exact this
  have hgw : w.heap.size < w2.heap.size := hz2
  generalize w2.heap.size = gs at *
  have bs0 : Hid (Box w3 gs 4 (marks N ((xs.take 0).map (fun s => numS (T.length / 2 : Nat) lo hi s))).toArray) := bs
  have z0 : Hid (chkO T lo hi (prevAt xs 0) ((0 : Nat) : Int) (xs.drop 0) = chkO T lo hi none 0 xs) := rfl
  clear hb2 hbm hown3 hgrow3 AL hib hzb hsb hbb bs
  generalize w3 = W3 at *
  go_wp2_with fail
  go_loopw [7] (fun v7 wr => ∃ k : Nat, v7 = .int .i64 (k : Int) ∧ k ≤ xs.length ∧ Hid (chkO T lo hi (prevAt xs k) k (xs.drop k) = chkO T lo hi none 0 xs) ∧ Hid (Box wr gs 4 (marks N ((xs.take k).map (fun s => numS (T.length / 2 : Nat) lo hi s))).toArray) ∧ Box wr w.heap.size 26 #[.slice A T.length c, .int .i64 lo, .int .i64 hi, .int .i64 turn, .int .i64 slew] ∧ Below w.heap.size w wr) (fun v7 _ => xs.length - (intOf v7).toNat)
  case atStart => exact ⟨0, rfl, Nat.zero_le _, z0, bs0, b0, hB⟩
  case round =>
    clear z0 bs0 b0 hB
    obtain ⟨k, rfl, hk, hf, hbx, b0, hB⟩ := hrel
    have c00 := b0.cell 0; have c01 := b0.cell 1; have c02 := b0.cell 2; have c03 := b0.cell 3; have c04 := b0.cell 4
    simp at c00 c01 c02 c03 c04
    have l0 := b0.lt; have lg := hbx.out.lt
    by_cases hlt : k < xs.length
    · obtain ⟨bb, off, rfl, hbb, a0, a1, a2⟩ := ev_cells (SlV.below HV.out hB) (List.getElem?_eq_getElem hlt)
      obtain ⟨_, _, eB, hbw, _⟩ := ev_cells HV.out (List.getElem?_eq_getElem hlt)
      cases eB
      have hD := List.drop_eq_getElem_cons hlt
      have hf1 := hf.out
      rw [hD] at hf1
      have HF := Lib.hid hf1
      have HX := Lib.hid (List.getElem?_eq_getElem hlt)
      have hT := Lib.hid (show xs.take (k + 1) = xs.take k ++ [xs[k]] from by rw [List.take_add_one, List.getElem?_eq_getElem hlt]; rfl)
      clear hf hf1 hD
      generalize xs[k] = s at *
      obtain ⟨x1, x2, x3⟩ := s
      dsimp only at a0 a1 a2
      have hlt' : (k : Int) < (xs.length : Int) := by omega
      obtain ⟨se, hse⟩ : ∃ se, stE T lo hi (x1, x2, x3) = se := ⟨_, rfl⟩
      have SE1 := SE.out x1 x2 x3
      rw [hse] at SE1
      have SE2 := Lib.hid SE1
      have HSE := Lib.hid hse
      clear SE1 hse
      go_upto_region 5 with fail
      go_cut [8] (fun s8 wx => s8 = .int .i64 se ∧ Below wr.heap.size wr wx)
      case first => as_aux_lemma =>
        go_region_held3 (fun w' => w'.cell? ⟨w.heap.size, 0, none⟩ = some (.slice A T.length c) ∧ w'.cell? ⟨w.heap.size, 1, none⟩ = some (.int .i64 lo) ∧ w'.cell? ⟨w.heap.size, 2, none⟩ = some (.int .i64 hi) ∧ w'.cell? ⟨w.heap.size, 3, none⟩ = some (.int .i64 turn) ∧ w'.cell? ⟨w.heap.size, 4, none⟩ = some (.int .i64 slew) ∧ w'.cell? ⟨bb, off + k * 3, none⟩ = some (.int .i64 x1) ∧ w'.cell? ⟨bb, off + k * 3 + 1, none⟩ = some (.int .i64 x2) ∧ w'.cell? ⟨bb, off + k * 3 + 2, none⟩ = some (.int .i64 x3)) (go_keep) (first | (go_at_call 52; refine (SE2.out _).mono ?_; rintro e w4 ⟨rfl, hb4⟩; (have hz4 : wr.heap.size ≤ w4.heap.size := (by have := hb4.size; (try simp at this); omega)); have k0 := ((hb4).cell (p := ⟨w.heap.size, 0, none⟩) (by simp; omega)).trans (show _ = some (Value.slice A T.length c) from by simp [go_sem, *]); have k1 := ((hb4).cell (p := ⟨w.heap.size, 1, none⟩) (by simp; omega)).trans (show _ = some (Value.int .i64 lo) from by simp [go_sem, *]); have k2 := ((hb4).cell (p := ⟨w.heap.size, 2, none⟩) (by simp; omega)).trans (show _ = some (Value.int .i64 hi) from by simp [go_sem, *]); have k3 := ((hb4).cell (p := ⟨w.heap.size, 3, none⟩) (by simp; omega)).trans (show _ = some (Value.int .i64 turn) from by simp [go_sem, *]); have k4 := ((hb4).cell (p := ⟨w.heap.size, 4, none⟩) (by simp; omega)).trans (show _ = some (Value.int .i64 slew) from by simp [go_sem, *]); have k5 := ((hb4).cell (p := ⟨bb, off + k * 3, none⟩) (by simp; omega)).trans (show _ = some (Value.int .i64 x1) from by simp [go_sem, *]); have k6 := ((hb4).cell (p := ⟨bb, off + k * 3 + 1, none⟩) (by simp; omega)).trans (show _ = some (Value.int .i64 x2) from by simp [go_sem, *]); have k7 := ((hb4).cell (p := ⟨bb, off + k * 3 + 2, none⟩) (by simp; omega)).trans (show _ = some (Value.int .i64 x3) from by simp [go_sem, *])) | fail)
        all_goals go_wp2_with fail
        all_goals go_meet
        all_goals exact ⟨rfl, by focus ((repeat first | with_reducible exact Below.refl _ _ | (with_reducible refine Below.setCell ?_ ?_ _) | (with_reducible refine Below.alloc ?_ ?_ _) | (with_reducible refine below_drewN ?_ _) | (with_reducible refine Below.drew ?_) | (with_reducible refine Below.trans ?_ (Below.mono hb4 ?_))); all_goals (first | with_reducible exact Nat.le_refl _ | omega | (simp; done) | (simp; omega) | (have := hb4.size; (try simp at this); omega) | (have := hb4.size; (try simp at this); (try simp); omega)))⟩
      case rest =>
        obtain ⟨rfl, hC⟩ := hcut
        have hb0 := b0.below hC l0
        have hbx' := hbx.out.below hC lg
        have hBC := hB.trans (hC.mono (by have := hB.size; omega))
        have hcc := ev_cells (SlV.below HV.out hBC) HX.out
        obtain ⟨_, _, eB, hbb', a0', a1', a2'⟩ := hcc
        cases eB
        clear b0 hbx hB c00 c01 c02 c03 c04 a0 a1 a2 l0 lg hbb hC SE2
        dsimp only at a0' a1' a2'
        generalize wc = W4 at *
        by_cases h0 : se = 0
        · subst h0
          obtain ⟨lt, hlt2⟩ : ∃ lt, prevOk (prevAt xs k) (x1, x2, x3) = lt := ⟨_, rfl⟩
          have HL := Lib.hid hlt2
          clear hlt2
          go_upto_region 8 with fail
          go_cut [47] (fun s47 wx => s47 = .bool (!lt) ∧ Below W4.heap.size W4 wx)
          case first => as_aux_lemma =>
            by_cases hk0 : k = 0
            · subst hk0
              have hd : decide ((0 : Int) < ((0 : Nat) : Int)) = false := rfl
              obtain rfl : lt = true := HL.out.symm
              go_quiet (fail)
              go_wp2_with fail
              go_meet
              exact ⟨rfl, below_drewN (Below.refl _ _) _⟩
            · obtain ⟨j, rfl⟩ : ∃ j, k = j + 1 := ⟨k - 1, by omega⟩
              have hj : j < xs.length := by omega
              obtain ⟨_, _, eB, hbb2, p0, p1, p2⟩ := ev_cells (SlV.below HV.out hBC) (List.getElem?_eq_getElem hj)
              cases eB
              have hL := HL.out
              rw [show prevAt xs (j + 1) = xs[j]? from rfl, List.getElem?_eq_getElem hj] at hL
              clear HL HX HF hT
              generalize xs[j] = r at *
              obtain ⟨r1, r2, r3⟩ := r
              dsimp only at p0 p1 p2
              have BF0 := fun W => refBefore_c r1 r2 r3 x1 x2 x3 W
              rw [show ltS (r1, r2, r3) (x1, x2, x3) = lt from hL] at BF0
              have BF := Lib.hid BF0
              clear BF0 hL hk0
              have v1 : IntKind.i64.wrap (j : Int) = j := IntWalk.i64_in _ (by omega)
              have v3 : (j : Int) < (xs.length : Int) := by omega
              have v4 : (j : Int) + 1 < (xs.length : Int) := by omega
              have hgt : decide ((0 : Int) < (j : Int) + 1) = true := decide_eq_true (by omega)
              have hgt2 : (0 : Int) < (j : Int) + 1 := by omega
              have v5 : (0 : Int) ≤ (j : Int) + 1 := by omega
              have v6 : j + 1 < xs.length := by omega
              have v7 : (0 : Int) ≤ ((j + 1 : Nat) : Int) := by omega
              have v8 : ((j + 1 : Nat) : Int) < (xs.length : Int) := by omega
              go_region_held3 (fun w' => w'.cell? ⟨bb, off + (j + 1) * 3, none⟩ = some (.int .i64 x1) ∧ w'.cell? ⟨bb, off + (j + 1) * 3 + 1, none⟩ = some (.int .i64 x2) ∧ w'.cell? ⟨bb, off + (j + 1) * 3 + 2, none⟩ = some (.int .i64 x3) ∧ w'.cell? ⟨bb, off + j * 3, none⟩ = some (.int .i64 r1) ∧ w'.cell? ⟨bb, off + j * 3 + 1, none⟩ = some (.int .i64 r2) ∧ w'.cell? ⟨bb, off + j * 3 + 2, none⟩ = some (.int .i64 r3)) (go_keep) (first | (go_at_call 122; refine (BF.out _).mono ?_; rintro e w5 ⟨rfl, hb5⟩; (have hz5 : W4.heap.size ≤ w5.heap.size := (by have := hb5.size; (try simp at this); omega)); have k0 := ((hb5).cell (p := ⟨bb, off + j * 3, none⟩) (by simp; omega)).trans (show _ = some (Value.int .i64 r1) from by simp [go_sem, *]); have k1 := ((hb5).cell (p := ⟨bb, off + j * 3 + 1, none⟩) (by simp; omega)).trans (show _ = some (Value.int .i64 r2) from by simp [go_sem, *]); have k2 := ((hb5).cell (p := ⟨bb, off + j * 3 + 2, none⟩) (by simp; omega)).trans (show _ = some (Value.int .i64 r3) from by simp [go_sem, *]); (have y5 := (hb5.cell (p := ⟨bb, off + (j + 1) * 3, none⟩) (by simp; omega)).trans (show _ = some (Value.int .i64 x1) from by simp [go_sem, *])); (have y6 := (hb5.cell (p := ⟨bb, off + (j + 1) * 3 + 1, none⟩) (by simp; omega)).trans (show _ = some (Value.int .i64 x2) from by simp [go_sem, *])); (have y7 := (hb5.cell (p := ⟨bb, off + (j + 1) * 3 + 2, none⟩) (by simp; omega)).trans (show _ = some (Value.int .i64 x3) from by simp [go_sem, *]))) | fail)
              all_goals go_wp2_with fail
              all_goals go_meet
              all_goals exact ⟨rfl, by focus ((repeat first | with_reducible exact Below.refl _ _ | (with_reducible refine Below.setCell ?_ ?_ _) | (with_reducible refine Below.alloc ?_ ?_ _) | (with_reducible refine below_drewN ?_ _) | (with_reducible refine Below.drew ?_) | (with_reducible refine Below.trans ?_ (Below.mono hb5 ?_))); all_goals (first | with_reducible exact Nat.le_refl _ | omega | (simp; done) | (simp; omega) | (have := hb5.size; (try simp at this); omega) | (have := hb5.size; (try simp at this); (try simp); omega)))⟩
          case rest =>
            obtain ⟨rfl, hC⟩ := hcut
            have b1 := hb0.below hC hb0.lt
            have bx1 := hbx'.below hC hbx'.lt
            have hB1 := hBC.trans (hC.mono (by have := hBC.size; omega))
            have hcc := ev_cells (SlV.below HV.out hB1) HX.out
            obtain ⟨_, _, eB, hb1', a0, a1, a2⟩ := hcc
            cases eB
            clear hb0 hbx' hBC a0' a1' a2' hbb' hC
            dsimp only at a0 a1 a2
            generalize wc = W5 at *
            cases lt with
            | false =>
              have hR : PP = ((k : Int), 9) := by
                have e1 : fstE [stE T lo hi (x1, x2, x3), unl (prevOk (prevAt xs k) (x1, x2, x3)) 9] = 9 := by rw [HSE.out, HL.out]; rfl
                have h1 : chkO T lo hi none 0 xs = ((k : Int), 9) := by
                  rw [← HF.out]; unfold chkO; rw [e1, if_pos (by decide)]
                rw [HP.out, h1, if_pos (by simp)]
              subst hR
              clear HF HX hT HSE HP HL
              go_wp2_with fail
              go_ret2
              exact ⟨rfl, hB1⟩
            | true =>
              have hv : StV T lo hi (x1, x2, x3) := stE_v HSE.out
              obtain ⟨r1, r2⟩ := num_rng k2 k5 k6 hv
              obtain ⟨kk, hkk⟩ : ∃ kk : Nat, numS (T.length / 2 : Nat) lo hi (x1, x2, x3) = kk := ⟨_, (Int.toNat_of_nonneg r1).symm⟩
              have hkN : kk < N := by rw [hkk, HN.out] at r2; omega
              have NU1 := NU.out x1 x2 x3 hv
              rw [hkk] at NU1
              have N1 := Lib.hid NU1
              have HK := Lib.hid hkk
              have HF2 := Lib.hid (show chkO T lo hi (prevAt xs (k + 1)) ((k + 1 : Nat) : Int) (xs.drop (k + 1)) = chkO T lo hi none 0 xs from by
                rw [← HF.out, ← chkO_z (p := prevAt xs k) (by rw [HSE.out, HL.out]; rfl), show prevAt xs (k + 1) = xs[k]? from rfl, HX.out])
              have c00 := b1.cell 0; have c01 := b1.cell 1; have c02 := b1.cell 2; have c03 := b1.cell 3; have c04 := b1.cell 4
              simp at c00 c01 c02 c03 c04
              have l0 := b1.lt; have lg := bx1.lt
              have y0 : W5.cell? ⟨gs, kk, none⟩ = some (.bool (decide ((kk : Int) ∈ (xs.take k).map (fun s => numS (T.length / 2 : Nat) lo hi s)))) := by have := bx1.cell kk; simpa [marks_get hkN] using this
              have yf := bx1.froz
              have hkN' : (kk : Int) < (N : Int) := by omega
              generalize decide ((kk : Int) ∈ (xs.take k).map (fun s => numS (T.length / 2 : Nat) lo hi s)) = y at *
              have hbg : bb ≠ gs := by omega
              have hbg2 : gs ≠ bb := by omega
              have : w.heap.size ≠ gs := (by omega); have : gs ≠ w.heap.size := (by omega)
              clear NU1 hkk r1 r2 hv HF HL HSE
              go_upto_region 10 with fail
              go_region_held3 (fun w' => w'.cell? ⟨w.heap.size, 0, none⟩ = some (.slice A T.length c) ∧ w'.cell? ⟨w.heap.size, 1, none⟩ = some (.int .i64 lo) ∧ w'.cell? ⟨w.heap.size, 2, none⟩ = some (.int .i64 hi) ∧ w'.cell? ⟨w.heap.size, 3, none⟩ = some (.int .i64 turn) ∧ w'.cell? ⟨w.heap.size, 4, none⟩ = some (.int .i64 slew) ∧ w'.cell? ⟨bb, off + k * 3, none⟩ = some (.int .i64 x1) ∧ w'.cell? ⟨bb, off + k * 3 + 1, none⟩ = some (.int .i64 x2) ∧ w'.cell? ⟨bb, off + k * 3 + 2, none⟩ = some (.int .i64 x3)) (go_keep) (first | (go_at_call 121; refine (N1.out _).mono ?_; rintro e w4 ⟨rfl, hb4⟩; (have hz4 : W5.heap.size ≤ w4.heap.size := (by have := hb4.size; (try simp at this); omega)); have k0 := ((hb4).cell (p := ⟨w.heap.size, 0, none⟩) (by simp; omega)).trans (show _ = some (Value.slice A T.length c) from by simp [go_sem, *]); have k1 := ((hb4).cell (p := ⟨w.heap.size, 1, none⟩) (by simp; omega)).trans (show _ = some (Value.int .i64 lo) from by simp [go_sem, *]); have k2 := ((hb4).cell (p := ⟨w.heap.size, 2, none⟩) (by simp; omega)).trans (show _ = some (Value.int .i64 hi) from by simp [go_sem, *]); have k3 := ((hb4).cell (p := ⟨w.heap.size, 3, none⟩) (by simp; omega)).trans (show _ = some (Value.int .i64 turn) from by simp [go_sem, *]); have k4 := ((hb4).cell (p := ⟨w.heap.size, 4, none⟩) (by simp; omega)).trans (show _ = some (Value.int .i64 slew) from by simp [go_sem, *]); have k5 := ((hb4).cell (p := ⟨bb, off + k * 3, none⟩) (by simp; omega)).trans (show _ = some (Value.int .i64 x1) from by simp [go_sem, *]); have k6 := ((hb4).cell (p := ⟨bb, off + k * 3 + 1, none⟩) (by simp; omega)).trans (show _ = some (Value.int .i64 x2) from by simp [go_sem, *]); have k7 := ((hb4).cell (p := ⟨bb, off + k * 3 + 2, none⟩) (by simp; omega)).trans (show _ = some (Value.int .i64 x3) from by simp [go_sem, *]); (have k8 := (hb4.cell (p := ⟨gs, kk, none⟩) (by simp; omega)).trans (show _ = some (Value.bool y) from by simp [go_sem, *])); (have yf4 : ∀ o, w4.frozen? ⟨gs, o, none⟩ = false := (fun o => (hb4.frozen (p := ⟨gs, o, none⟩) (by simp; omega)).trans (yf o))); (have hlg4 : gs < w4.heap.size := by omega)) | fail)
              all_goals go_wp2_with fail
              all_goals go_roundw
              case' rel => refine ⟨k + 1, by go_num, by omega, HF2, ?_, ?_, ?_⟩
              all_goals first | (unfold Hid; rw [hT.out, List.map_append, List.map_cons, List.map_nil, HK.out, ← marks_set hkN]; exact ((Box.drew bx1).below hb4 (by simp; omega)).set kk _) | (focus (apply Box.via; apply Exists.intro; apply And.intro; (repeat first | with_reducible assumption | with_reducible exact Box.new _ _ _ | ((with_reducible apply Box.newAt); focus (simp; done)) | (with_reducible apply Box.drew) | (with_reducible apply Box.drewN) | (with_reducible apply Box.set) | (with_reducible apply Box.alloc) | (with_reducible apply Box.far) | (with_reducible apply Box.below (hb := hb4))); all_goals (first | with_reducible exact Nat.le_refl _ | omega | (simp; done) | (simp; omega) | (have := hb4.size; (try simp at this); omega) | (have := hb4.size; (try simp at this); (try simp); omega)))) | (focus ((repeat first | with_reducible exact Below.refl _ _ | (with_reducible refine Below.setCell ?_ ?_ _) | (with_reducible refine Below.alloc ?_ ?_ _) | (with_reducible refine below_drewN ?_ _) | (with_reducible refine Below.drew ?_) | (with_reducible refine Below.trans ?_ (Below.mono hb4 ?_)) | (with_reducible refine Below.trans ?_ (Below.mono hB1 ?_))); all_goals (first | with_reducible exact Nat.le_refl _ | omega | (simp; done) | (simp; omega) | (have := hb4.size; (try simp at this); have := hB1.size; (try simp at this); omega) | (have := hb4.size; (try simp at this); have := hB1.size; (try simp at this); (try simp); omega)))) | (simp [intOf]; omega)
        · have e0 := bneT h0
          have hR : PP = ((k : Int), se) := by
            have h1 : chkO T lo hi none 0 xs = ((k : Int), se) := by
              have e1 : fstE [stE T lo hi (x1, x2, x3), unl (prevOk (prevAt xs k) (x1, x2, x3)) 9] = se := by rw [HSE.out, fst2, if_neg h0]
              rw [← HF.out]; unfold chkO; rw [e1, if_pos h0]
            rw [HP.out, h1, if_pos h0]
          subst hR
          clear HF HX hT HSE HP h0
          go_wp2_with fail
          go_ret2
          exact ⟨rfl, hBC⟩
    · obtain rfl : k = xs.length := by omega
      have hO : chkO T lo hi none 0 xs = (0, 0) := by rw [← hf.out, List.drop_length]; unfold chkO; rfl
      obtain ⟨hst, hpw, _⟩ := chkO_sound xs none 0 (by rw [hO])
      have HP2 : Hid (PP = if (0, 0, 0) ∈ xs then chkN T lo hi turn slew xs 0 xs else (0, 6)) := by unfold Hid; rw [HP.out, hO]; rfl
      have HT := Lib.hid (fun s (h : s ∈ xs) => stE_v (hst s h))
      rw [List.take_of_length_le (Nat.le_refl _)] at hbx
      have FD := Lib.hid (fun W h => refFind_c xs B d 0 0 0 W hn h)
      clear hf hO hst hpw HP c00 c01 c02 c03 c04
      have hmm : ((0, 0, 0) ∈ xs) ∨ ((0, 0, 0) ∉ xs) := Classical.em _
      rcases hmm with hm | hm
      · have hR : PP = chkN T lo hi turn slew xs 0 xs := by rw [HP2.out, if_pos hm]
        have HM := Lib.hid hm
        subst hR
        clear hm HP2
        go_upto_region 13 with (first | (go_at_call 123; refine (FD.out _ (SlV.below HV.out hB)).mono ?_; rintro e w5 ⟨f, rfl, hfd, hb5⟩; (have hfd2 : decide (f < 0) = false := (by rw [hfd, decide_eq_true HM.out]; rfl)); clear hfd) | fail)
        have b1 := b0.below hb5 l0
        have bx1 := hbx.out.below hb5 lg
        have hB1 := hB.trans (hb5.mono (by have := hB.size; omega))
        have z1 : Hid (chkN T lo hi turn slew xs ((0 : Nat) : Int) (xs.drop 0) = chkN T lo hi turn slew xs 0 xs) := rfl
        clear b0 hbx hB l0 lg FD hfd2 HM hk hlt hb5
        generalize w5 = W6 at *
        go_wp2_with fail
        go_loopw [9] (fun v9 wr => ∃ k : Nat, v9 = .int .i64 (k : Int) ∧ k ≤ xs.length ∧ Hid (chkN T lo hi turn slew xs k (xs.drop k) = chkN T lo hi turn slew xs 0 xs) ∧ Below W6.heap.size W6 wr) (fun v9 _ => xs.length - (intOf v9).toNat)
        case atStart => exact ⟨0, rfl, Nat.zero_le _, z1, Below.refl _ _⟩
        case round =>
          clear z1
          obtain ⟨k, rfl, hk, hf, hW⟩ := hrel
          have b0 := b1.below hW b1.lt
          have hB := hB1.trans (hW.mono (by have := hB1.size; omega))
          have c00 := b0.cell 0; have c01 := b0.cell 1; have c02 := b0.cell 2; have c03 := b0.cell 3; have c04 := b0.cell 4
          simp at c00 c01 c02 c03 c04
          have l0 := b0.lt
          by_cases hlt : k < xs.length
          · obtain ⟨bb, off, rfl, hbb, a0, a1, a2⟩ := ev_cells (SlV.below HV.out hB) (List.getElem?_eq_getElem hlt)
            have hv := HT.out _ (List.getElem_mem hlt)
            have hf1 := hf.out
            rw [List.drop_eq_getElem_cons hlt] at hf1
            have HF := Lib.hid hf1
            have HX := Lib.hid (List.getElem?_eq_getElem hlt)
            clear hf hf1
            generalize xs[k] = s at *
            obtain ⟨x1, x2, x3⟩ := s
            obtain ⟨q1, q2, q3, q4, q5, q6⟩ := hv
            dsimp only at a0 a1 a2 q1 q2 q3 q4 q5 q6
            have hlt' : (k : Int) < (xs.length : Int) := by omega
            have w1' : IntKind.i64.wrap (x3 - turn) = x3 - turn := IntWalk.i64_in _ (by omega)
            have w2' : IntKind.i64.wrap (x3 + turn) = x3 + turn := IntWalk.i64_in _ (by omega)
            obtain ⟨a, ha⟩ : ∃ a, hvA lo turn x3 = a := ⟨_, rfl⟩
            obtain ⟨b, hb⟩ : ∃ b, hvB hi turn x3 = b := ⟨_, rfl⟩
            go_upto_region 17 with fail
            go_cut [11] (fun s11 wx => s11 = .int .i64 a ∧ Below wr.heap.size wr wx)
            case first => as_aux_lemma =>
              go_quiet (fail)
              go_wp2_with fail
              go_meet
              exact ⟨vint (by rw [← ha]; unfold hvA; omega), below_drewN (Below.refl _ _) _⟩
            case rest =>
              obtain ⟨rfl, hC⟩ := hcut
              have ha1 : lo ≤ a ∧ x3 - turn ≤ a ∧ (a ≤ lo ∨ a ≤ x3 - turn) := by rw [← ha]; unfold hvA; omega
              have hb1 : b ≤ hi ∧ b ≤ x3 + turn ∧ (hi ≤ b ∨ x3 + turn ≤ b) := by rw [← hb]; unfold hvB; omega
              have HVS := Lib.hid (show hvsOf lo hi turn (x1, x2, x3) = hvL a (b - a + 1).toNat from by unfold hvsOf; rw [ha, hb])
              have hW1 := hW.trans (hC.mono (by have := hW.size; omega))
              have z2 : Hid (∀ h ∈ (hvL a (b - a + 1).toNat).take 0, nxW T slew x1 x2 h = true) := by unfold Hid; simp
              clear ha hb w1' c00 c01 c02 c03 c04 a0 a1 a2 l0 hbb hW hB b0 hC
              generalize wc = W7 at *
              go_wp2_with fail
              go_loopw [10, 11] (fun v10 v11 wr => ∃ m : Nat, v10 = .bool (((hvL a (b - a + 1).toNat).take m).any fun h => !decide (goS T slew (x1, x2, x3) h ∈ xs)) ∧ v11 = .int .i64 (a + (m : Int)) ∧ m ≤ (b - a + 1).toNat ∧ Hid (∀ h ∈ (hvL a (b - a + 1).toNat).take m, nxW T slew x1 x2 h = true) ∧ Below W6.heap.size W6 wr) (fun _ v11 _ => (b + 1 - intOf v11).toNat)
              case atStart => exact ⟨0, by simp, by simp, Nat.zero_le _, z2, hW1⟩
              case round =>
                clear z2 hW1
                obtain ⟨m, rfl, rfl, hm, hall, hW⟩ := hrel
                have b0 := b1.below hW b1.lt
                have hB := hB1.trans (hW.mono (by have := hB1.size; omega))
                obtain ⟨_, _, eB, hbb, a0, a1, a2⟩ := ev_cells (SlV.below HV.out hB) HX.out
                cases eB
                dsimp only at a0 a1 a2
                have c00 := b0.cell 0; have c01 := b0.cell 1; have c02 := b0.cell 2; have c03 := b0.cell 3; have c04 := b0.cell 4
                simp at c00 c01 c02 c03 c04
                have l0 := b0.lt
                obtain ⟨y, hy⟩ : ∃ y, (((hvL a (b - a + 1).toNat).take m).any fun h => !decide (goS T slew (x1, x2, x3) h ∈ xs)) = y := ⟨_, rfl⟩
                rw [hy]
                have HY := Lib.hid hy
                clear hy
                by_cases hle : a + (m : Int) ≤ b
                · go_upto_region 18 with fail
                  go_cut [92] (fun s92 wx => s92 = .bool true ∧ Below wr.heap.size wr wx)
                  case first => as_aux_lemma =>
                    go_quiet (fail)
                    all_goals go_wp2_with fail
                    all_goals go_meet
                    all_goals exact ⟨vbool (decide_eq_true (by omega)), below_drewN (Below.refl _ _) _⟩
                  case rest =>
                    obtain ⟨rfl, hC⟩ := hcut
                    have hW2 := hW.trans (hC.mono (by have := hW.size; omega))
                    clear b0 hB a0 a1 a2 c00 c01 c02 c03 c04 l0 hbb hC hW
                    generalize wc = W8 at *
                    have b0 := b1.below hW2 b1.lt
                    have hB := hB1.trans (hW2.mono (by have := hB1.size; omega))
                    obtain ⟨_, _, eB, hbb, a0, a1, a2⟩ := ev_cells (SlV.below HV.out hB) HX.out
                    cases eB
                    dsimp only at a0 a1 a2
                    have c00 := b0.cell 0; have c01 := b0.cell 1; have c02 := b0.cell 2; have c03 := b0.cell 3; have c04 := b0.cell 4
                    simp at c00 c01 c02 c03 c04
                    have l0 := b0.lt
                    obtain ⟨h, hh'⟩ : ∃ h, a + (m : Int) = h := ⟨_, rfl⟩
                    have hmc : m < (b - a + 1).toNat := by omega
                    have htk : (hvL a (b - a + 1).toNat).take (m + 1) = (hvL a (b - a + 1).toNat).take m ++ [h] := by
                      rw [List.take_add_one, List.getElem?_eq_getElem (by rw [hvL_len]; exact hmc)]
                      congr 1
                      simp only [hvL, List.getElem_map, List.getElem_range, Option.toList_some]
                      rw [hh']
                    have hmem : h ∈ hvsOf lo hi turn (x1, x2, x3) := by
                      rw [HVS.out, ← List.take_append_drop (m + 1) (hvL a (b - a + 1).toNat), htk]; simp
                    have HTK := Lib.hid htk
                    have HME := Lib.hid hmem
                    have NX := Lib.hid (fun W h' => refNext_c T A c lo hi turn slew x1 x2 x3 h W (by omega) h' (fun y hy => by have := K3.out y hy; omega) (by omega) (by omega) (by omega) (by omega) (by omega) (by omega))
                    have HG := Lib.hid (show goS T slew (x1, x2, x3) h = (nxE T slew x1 x2 h, nxC T slew x1 x2, h) from rfl)
                    have HNW := Lib.hid (show ∃ v, nxW T slew x1 x2 h = v from ⟨_, rfl⟩)
                    have HNV := Lib.hid (show nxW T slew x1 x2 h = true → StV T lo hi (goS T slew (x1, x2, x3) h) from fun hw => by
                      have h3' := inB_true.1 (show inB (nxE T slew x1 x2 h) (-(T.length / 2 : Nat)) (T.length / 2 : Nat) = true by simpa [nxW] using hw)
                      have hb' := nxC_box (T := T) (slew := slew) (e := x1) (cmd := x2) K3.out k4.1 (by omega) (by omega) (by omega) (by omega)
                      exact ⟨h3'.1, h3'.2, hb'.1, hb'.2, by show lo ≤ h; omega, by show h ≤ hi; omega⟩)
                    have HS22 := Lib.hid (show nxW T slew x1 x2 h = false → chkN T lo hi turn slew xs 0 xs = ((k : Int), 22) from fun hw => by
                      have e : stepsE T lo hi turn slew xs (x1, x2, x3) = 22 := by
                        unfold stepsE; rw [if_pos (List.any_eq_true.2 ⟨h, hmem, by rw [hw]; rfl⟩)]
                      rw [← HF.out]; unfold chkN; rw [e, if_pos (by decide)])
                    have HAL := Lib.hid (show nxW T slew x1 x2 h = true → ∀ g ∈ (hvL a (b - a + 1).toNat).take (m + 1), nxW T slew x1 x2 g = true from fun hw g hg => by
                      rw [htk, List.mem_append] at hg
                      rcases hg with hg | hg
                      · exact hall.out g hg
                      · simp at hg; rw [hg]; exact hw)
                    obtain ⟨gS, hgS⟩ : ∃ gS, goS T slew (x1, x2, x3) h = gS := ⟨_, rfl⟩
                    rw [HG.out] at HNV
                    have HGS := Lib.hid (show goS T slew (x1, x2, x3) h = (nxE T slew x1 x2 h, nxC T slew x1 x2, h) from rfl)
                    clear htk hmem hall HG HNW hgS
                    obtain ⟨n1, hn1⟩ : ∃ n1, nxE T slew x1 x2 h = n1 := ⟨_, rfl⟩
                    obtain ⟨n2, hn2⟩ : ∃ n2, nxC T slew x1 x2 = n2 := ⟨_, rfl⟩
                    obtain ⟨nW, hnW⟩ : ∃ nW, nxW T slew x1 x2 h = nW := ⟨_, rfl⟩
                    rw [hn1, hn2] at HNV HGS NX
                    rw [hnW] at HNV NX HS22 HAL
                    rw [hh']
                    clear hn1 hn2 hnW
                    have hHE : h ≤ b ∧ a ≤ h := by omega
                    go_upto_region 20 with fail
                    go_cut [12, 13] (fun s12 s13 wx => ∃ f, s12 = .pointer (some ⟨f, 0, none⟩) ∧ s13 = .bool nW ∧ Box wx f 42 #[.int .i64 n1, .int .i64 n2, .int .i64 h] ∧ Below W8.heap.size W8 wx)
                    case first => as_aux_lemma =>
                      have : w.heap.size ≠ W8.heap.size := (by omega); have : W8.heap.size ≠ w.heap.size := (by omega)
                      have : bb ≠ W8.heap.size := (by omega); have : W8.heap.size ≠ bb := (by omega)
                      go_region_held3 (fun w' => w'.cell? ⟨w.heap.size, 0, none⟩ = some (.slice A T.length c) ∧ w'.cell? ⟨w.heap.size, 1, none⟩ = some (.int .i64 lo) ∧ w'.cell? ⟨w.heap.size, 2, none⟩ = some (.int .i64 hi) ∧ w'.cell? ⟨w.heap.size, 3, none⟩ = some (.int .i64 turn) ∧ w'.cell? ⟨w.heap.size, 4, none⟩ = some (.int .i64 slew) ∧ w'.cell? ⟨bb, off + k * 3, none⟩ = some (.int .i64 x1) ∧ w'.cell? ⟨bb, off + k * 3 + 1, none⟩ = some (.int .i64 x2) ∧ w'.cell? ⟨bb, off + k * 3 + 2, none⟩ = some (.int .i64 x3)) (go_keep) (first | (go_at_call 109; refine (NX.out _ (SlI.below HS.out (by focus ((repeat first | with_reducible exact Below.refl _ _ | (with_reducible refine Below.setCell ?_ ?_ _) | (with_reducible refine Below.alloc ?_ ?_ _) | (with_reducible refine below_drewN ?_ _) | (with_reducible refine Below.drew ?_) | (with_reducible refine Below.trans ?_ (Below.mono hB ?_))); all_goals (first | with_reducible exact Nat.le_refl _ | omega | (simp; done) | (simp; omega) | (have := hB.size; (try simp at this); omega) | (have := hB.size; (try simp at this); (try simp); omega)))))).mono ?_; rintro e w3 ⟨rfl, hb2⟩; have hz2 : W8.heap.size ≤ w3.heap.size := (by have := hb2.size; (try simp at this); omega); have : w.heap.size ≠ w3.heap.size := (by omega); have : w3.heap.size ≠ w.heap.size := (by omega); have : bb ≠ w3.heap.size := (by omega); have : w3.heap.size ≠ bb := (by omega); have k0 := ((hb2).cell (p := ⟨w.heap.size, 0, none⟩) (by simp; omega)).trans (show _ = some (Value.slice A T.length c) from by simp [go_sem, *]); have k1 := ((hb2).cell (p := ⟨w.heap.size, 1, none⟩) (by simp; omega)).trans (show _ = some (Value.int .i64 lo) from by simp [go_sem, *]); have k2 := ((hb2).cell (p := ⟨w.heap.size, 2, none⟩) (by simp; omega)).trans (show _ = some (Value.int .i64 hi) from by simp [go_sem, *]); have k3 := ((hb2).cell (p := ⟨w.heap.size, 3, none⟩) (by simp; omega)).trans (show _ = some (Value.int .i64 turn) from by simp [go_sem, *]); have k4 := ((hb2).cell (p := ⟨w.heap.size, 4, none⟩) (by simp; omega)).trans (show _ = some (Value.int .i64 slew) from by simp [go_sem, *]); have k5 := ((hb2).cell (p := ⟨bb, off + k * 3, none⟩) (by simp; omega)).trans (show _ = some (Value.int .i64 x1) from by simp [go_sem, *]); have k6 := ((hb2).cell (p := ⟨bb, off + k * 3 + 1, none⟩) (by simp; omega)).trans (show _ = some (Value.int .i64 x2) from by simp [go_sem, *]); have k7 := ((hb2).cell (p := ⟨bb, off + k * 3 + 2, none⟩) (by simp; omega)).trans (show _ = some (Value.int .i64 x3) from by simp [go_sem, *]); (first | (refine (have bx : Box w3 (W8.heap.size) 42 #[.int .i64 0, .int .i64 0, .int .i64 0] := ?_; ?_); (focus (apply Box.via; apply Exists.intro; apply And.intro; (repeat first | with_reducible assumption | with_reducible exact Box.new _ _ _ | ((with_reducible apply Box.newAt); focus (simp; done)) | (with_reducible apply Box.drew) | (with_reducible apply Box.drewN) | (with_reducible apply Box.set) | (with_reducible apply Box.alloc) | (with_reducible apply Box.far) | (with_reducible apply Box.below (hb := hb2))); all_goals (first | with_reducible exact Nat.le_refl _ | omega | (simp; done) | (simp; omega) | (have := hb2.size; (try simp at this); omega) | (have := hb2.size; (try simp at this); (try simp); omega)))); have := bx.lt; have : (w3).cell? ⟨W8.heap.size, 0, none⟩ = some (.int .i64 0) := bx.cell 0; have : (w3).cell? ⟨W8.heap.size, 1, none⟩ = some (.int .i64 0) := bx.cell 1; have : (w3).cell? ⟨W8.heap.size, 2, none⟩ = some (.int .i64 0) := bx.cell 2; have : ∀ o, (w3).frozen? ⟨W8.heap.size, o, none⟩ = false := bx.froz) | skip)) | fail)
                      all_goals go_wp2_with fail
                      all_goals go_meet
                      all_goals refine ⟨_, rfl, rfl, ?_, ?_⟩
                      all_goals first | (focus (apply Box.via; apply Exists.intro; apply And.intro; (repeat first | with_reducible assumption | with_reducible exact Box.new _ _ _ | ((with_reducible apply Box.newAt); focus (simp; done)) | (with_reducible apply Box.drew) | (with_reducible apply Box.drewN) | (with_reducible apply Box.set) | (with_reducible apply Box.alloc) | (with_reducible apply Box.far) | (with_reducible apply Box.below (hb := hb2))); all_goals (first | with_reducible exact Nat.le_refl _ | omega | (simp; done) | (simp; omega) | (have := hb2.size; (try simp at this); omega) | (have := hb2.size; (try simp at this); (try simp); omega)))) | (focus ((repeat first | with_reducible exact Below.refl _ _ | (with_reducible refine Below.setCell ?_ ?_ _) | (with_reducible refine Below.alloc ?_ ?_ _) | (with_reducible refine below_drewN ?_ _) | (with_reducible refine Below.drew ?_) | (with_reducible refine Below.trans ?_ (Below.mono hb2 ?_))); all_goals (first | with_reducible exact Nat.le_refl _ | omega | (simp; done) | (simp; omega) | (have := hb2.size; (try simp at this); omega) | (have := hb2.size; (try simp at this); (try simp); omega))))
                    case rest =>
                      obtain ⟨f, rfl, rfl, hF, hC⟩ := hcut
                      have hW3 := hW2.trans (hC.mono (by have := hW2.size; omega))
                      clear b0 hB a0 a1 a2 c00 c01 c02 c03 c04 l0 hbb hC hW2 NX
                      generalize wc = W9 at *
                      have b9 := b1.below hW3 b1.lt
                      have bx9 := bx1.below hW3 bx1.lt
                      have hB9 := hB1.trans (hW3.mono (by have := hB1.size; omega))
                      cases nW with
                      | false =>
                        have HR := Lib.hid (HS22.out rfl)
                        clear HS22 HAL HNV HGS HTK HY HF
                        go_wp2_with fail
                        go_ret2
                        exact ⟨ret_ii (by rw [HR.out]) (by rw [HR.out]), hB9⟩
                      | true =>
                        have HA := Lib.hid (HAL.out rfl)
                        cases y with
                        | true =>
                          have HY2 := Lib.hid (show ((hvL a (b - a + 1).toNat).take (m + 1)).any (fun h => !decide (goS T slew (x1, x2, x3) h ∈ xs)) = true from by rw [HTK.out, List.any_append, HY.out]; rfl)
                          clear HS22 HAL HNV HGS HTK HY
                          go_wp2_with fail
                          go_roundw
                          case rel => exact ⟨m + 1, vbool HY2.out.symm, vint (by omega), by omega, HA, hW3⟩
                          case measure => simp [intOf]; omega
                        | false =>
                          have hnv := HNV.out rfl
                          obtain ⟨hg0, hg1⟩ := num_rng k2 k5 k6 hnv
                          obtain ⟨kk, hkk⟩ : ∃ kk : Nat, numS (T.length / 2 : Nat) lo hi (n1, n2, h) = kk := ⟨_, (Int.toNat_of_nonneg hg0).symm⟩
                          have hkN : kk < N := by rw [hkk, HN.out] at hg1; omega
                          have hin : ((kk : Int) ∈ xs.map (fun s => numS (T.length / 2 : Nat) lo hi s)) ↔ (n1, n2, h) ∈ xs := by
                            constructor
                            · intro hm'
                              obtain ⟨s, hs, he⟩ := List.mem_map.1 hm'
                              rw [← num_inj k5 k6 (HT.out s hs) hnv (he.trans hkk.symm)]; exact hs
                            · intro hm'
                              exact List.mem_map.2 ⟨_, hm', hkk⟩
                          have NU1 := NU.out n1 n2 h hnv
                          rw [hkk] at NU1
                          have N1 := Lib.hid NU1
                          have HY2 := Lib.hid (show ((hvL a (b - a + 1).toNat).take (m + 1)).any (fun h => !decide (goS T slew (x1, x2, x3) h ∈ xs)) = !decide ((kk : Int) ∈ xs.map (fun s => numS (T.length / 2 : Nat) lo hi s)) from by
                            
                            have h9 : (goS T slew (x1, x2, x3) h ∈ xs) ↔ ((kk : Int) ∈ xs.map (fun s => numS (T.length / 2 : Nat) lo hi s)) := by rw [HGS.out]; exact hin.symm
                            rw [HTK.out, List.any_append, HY.out]
                            simp only [List.any_cons, List.any_nil, Bool.or_false, Bool.false_or]
                            rw [decide_eq_decide.2 h9])
                          have y0 : W9.cell? ⟨gs, kk, none⟩ = some (.bool (decide ((kk : Int) ∈ xs.map (fun s => numS (T.length / 2 : Nat) lo hi s)))) := by have := bx9.cell kk; simpa [marks_get hkN] using this
                          have c00 := b9.cell 0; have c01 := b9.cell 1; have c02 := b9.cell 2; have c03 := b9.cell 3; have c04 := b9.cell 4
                          have f0 := hF.cell 0; have f1 := hF.cell 1; have f2 := hF.cell 2
                          simp at c00 c01 c02 c03 c04 f0 f1 f2
                          have l0 := b9.lt; have lF := hF.lt; have lg := bx9.lt
                          have hkN' : (kk : Int) < (N : Int) := by omega
                          generalize decide ((kk : Int) ∈ xs.map (fun s => numS (T.length / 2 : Nat) lo hi s)) = dd at *
                          clear HS22 HAL HNV HGS HTK HY NU1 hkk hg0 hg1 hin hnv bx9
                          go_wp2_with (first | (go_at_call 121; refine (N1.out _).mono ?_; rintro e w4 ⟨rfl, hb4⟩; obtain ⟨hc4, hf4⟩ := bcell hb4) | fail)
                          go_roundw
                          case rel => exact ⟨m + 1, vbool HY2.out.symm, vint (by omega), by omega, HA, hW3.trans (hb4.mono (by have := hW3.size; omega))⟩
                          case measure => simp [intOf]; omega
                · go_upto_region 18 with fail
                  go_cut [92] (fun s92 wx => s92 = .bool false ∧ Below wr.heap.size wr wx)
                  case first => as_aux_lemma =>
                    go_quiet (fail)
                    all_goals go_wp2_with fail
                    all_goals go_meet
                    all_goals exact ⟨vbool (decide_eq_false (by omega)), below_drewN (Below.refl _ _) _⟩
                  case rest =>
                    obtain ⟨rfl, hC⟩ := hcut
                    have hW2 := hW.trans (hC.mono (by have := hW.size; omega))
                    have hB2 := hB.trans (hC.mono (by have := hB.size; omega))
                    have hfull : (hvL a (b - a + 1).toNat).take m = hvsOf lo hi turn (x1, x2, x3) := by rw [HVS.out]; exact List.take_of_length_le (by rw [hvL_len]; omega)
                    have hE : stepsE T lo hi turn slew xs (x1, x2, x3) = if y = true then 21 else 0 := by
                      unfold stepsE
                      rw [if_neg, ← hfull, HY.out]
                      intro h22
                      obtain ⟨g, hg, hw⟩ := List.any_eq_true.1 h22
                      rw [hall.out g (by rw [hfull]; exact hg)] at hw
                      cases hw
                    have HE := Lib.hid hE
                    clear hE hfull hall HY b0 hB a0 a1 a2 c00 c01 c02 c03 c04 l0 hbb
                    generalize wc = W8 at *
                    cases y with
                    | true =>
                      have hR : chkN T lo hi turn slew xs 0 xs = ((k : Int), 21) := by
                        rw [← HF.out]; unfold chkN; rw [HE.out, if_pos rfl, if_pos (by decide)]
                      have HR := Lib.hid hR
                      clear hR HE HF
                      go_wp2_with fail
                      go_ret2
                      exact ⟨ret_ii (by rw [HR.out]) (by rw [HR.out]), hB2⟩
                    | false =>
                      have HR := Lib.hid (show chkN T lo hi turn slew xs ((k + 1 : Nat) : Int) (xs.drop (k + 1)) = chkN T lo hi turn slew xs 0 xs from by
                        rw [← HF.out, chkN_z (by rw [HE.out]; rfl)])
                      clear HE HF
                      go_wp2_with fail
                      go_roundw
                      case rel => exact ⟨k + 1, by go_num, by omega, HR, hW2⟩
                      case measure => simp [intOf]; omega
          · obtain rfl : k = xs.length := by omega
            have hR : chkN T lo hi turn slew xs 0 xs = (0, 0) := by rw [← hf.out, List.drop_length]; rfl
            have HR := Lib.hid hR
            clear hR hf
            go_wp2_with fail
            go_ret2
            exact ⟨ret_ii (by rw [HR.out]) (by rw [HR.out]), hB⟩
      · have hR : PP = (0, 6) := by rw [HP2.out, if_neg hm]
        have HM := Lib.hid hm
        subst hR
        clear hm HP2
        go_wp2_with (first | (go_at_call 123; refine (FD.out _ (SlV.below HV.out hB)).mono ?_; rintro e w5 ⟨f, rfl, hfd, hb5⟩; (have hfd2 : decide (f < 0) = true := (by rw [hfd, decide_eq_false HM.out]; rfl)); clear hfd) | fail)
        go_ret2
        exact ⟨rfl, by focus ((repeat first | with_reducible exact Below.refl _ _ | (with_reducible refine Below.setCell ?_ ?_ _) | (with_reducible refine Below.alloc ?_ ?_ _) | (with_reducible refine below_drewN ?_ _) | (with_reducible refine Below.drew ?_) | (with_reducible refine Below.trans ?_ (Below.mono hb5 ?_)) | (with_reducible refine Below.trans ?_ (Below.mono hB ?_))); all_goals (first | with_reducible exact Nat.le_refl _ | omega | (simp; done) | (simp; omega) | (have := hb5.size; (try simp at this); have := hB.size; (try simp at this); omega) | (have := hb5.size; (try simp at this); have := hB.size; (try simp at this); (try simp); omega)))⟩

end Go.Proofs.Ytgbckdmhmkpahaa

/-
  The law WinchReached (chapter 2): the walk.
-/
set_option linter.unusedVariables false
namespace Go.Proofs.Ytgbckdmhmkpahaa
open Go.RowKit Go.Shelf

theorem own_empty3r (w : World) (t : TypeId) (k : Nat) : (w.alloc (.cells #[] t)).ownsRow w.heap.size t k (.slice (some ⟨w.heap.size, 0, none⟩) 0 0) 0 [] :=
  ⟨by simp, .inr ⟨w.heap.size, 0, #[], rfl, Nat.le_refl _, heap_alloc_new w _, Nat.le_refl _, by unfold maxLen; omega, by simp, by simp⟩⟩
set_option maxHeartbeats 1000000 in
theorem copyStates_r (xs : List St3) (A : Option Addr) (c : Nat) (w : World) (hn : xs.length ≤ 100000) (hs : SlV w A (xs.flatMap st3V)) :
    Calls Try.prog 66 #[.slice A xs.length c] w fun e w' => ∃ B d, e = .returned (.slice B xs.length d) ∧ SlV w' B (xs.flatMap st3V) ∧ Below w.heap.size w w' := by
  obtain ⟨j0, zS, hj0, hy0, hy1, hy2, hy3⟩ := infoOk_parts info_St
  have hm1 : 0 + xs.length ≤ maxLen := by unfold maxLen; omega
  have hm2 : (0 + xs.length) * 24 ≤ 140737488355328 := by omega
  have ho := own_empty3r w 42 3
  cases A with
  | none =>
    have hx : xs = [] := by
      cases xs with
      | nil => rfl
      | cons x l => obtain ⟨b, o, e, _⟩ := hs 0 _ rfl; cases e
    subst hx
    go_enter Try.func66, Try.ntmps66
    go_wp2
    all_goals go_ret
    all_goals exact ⟨_, _, rfl, fun j u hj => by simp at hj, by focus ((repeat first | with_reducible exact Below.refl _ _ | (with_reducible refine Below.setCell ?_ ?_ _) | (with_reducible refine Below.alloc ?_ ?_ _) | (with_reducible refine below_drewN ?_ _) | (with_reducible refine Below.drew ?_)); all_goals (first | with_reducible exact Nat.le_refl _ | omega | (simp; done) | (simp; omega) | (omega) | ((try simp); omega)))⟩
  | some a =>
    have hcells : ∀ j u, (xs.flatMap st3V)[j]? = some u → (w.alloc (.cells #[] 42)).cell? (a.add j) = some u := fun j u hj => by
      obtain ⟨b, o, e, hb, hc⟩ := hs j u hj
      cases e
      have e : (⟨b, o, none⟩ : Addr).add j = ⟨b, o + j, none⟩ := by unfold Addr.add; split <;> simp [*]
      rw [e]; exact Lib.cell?_alloc_some _ hc
    have HC := Lib.hid hcells
    clear hcells
    have h1 : ∀ u ∈ xs.flatMap st3V, u.oneCell' = true := fun u hu => by
      obtain ⟨r, _, hr⟩ := List.mem_flatMap.1 hu
      simp [st3V] at hr
      rcases hr with rfl | rfl | rfl <;> rfl
    have H1 := Lib.hid h1
    have hfl : (xs.flatMap st3V).length = xs.length * 3 := flatK_len (enc := st3V) (k := 3) (fun _ => rfl) xs
    clear h1 hs
    go_enter Try.func66, Try.ntmps66
    go_wp2_with (at_builtin; go_must (refine wpList_append_own _ rfl _ _ 38 rfl w.heap.size 42 j0 zS 3 24 Try.underlying38 hj0 hy0 hy1 hy2 hy3 (by decide) _ _ _ rfl ho a xs.length c (xs.flatMap st3V) rfl hfl HC.out H1.out hm1 hm2 (by simp) ?_); intro v' wx hown1 hgrow1 _)
    have hB1 : Below w.heap.size w wx := ((Below.refl _ w).alloc (Nat.le_refl _) _).grown hgrow1 (by simp) (fun k e => by have e : some w.heap.size = some k := e; injection e with e; omega)
    have hown2 : wx.ownsRow w.heap.size 42 3 v' xs.length (xs.flatMap st3V) := by simpa using hown1
    rcases hown2.2 with ⟨rfl, h0⟩ | ⟨g, cap, cur, rfl, _⟩
    · go_ret
      exact ⟨_, _, by rw [h0]; rfl, slv_own (n := xs.length) (c := 0) (k := 3) (by decide) (by rw [h0]; rw [h0] at hown2; exact hown2), hB1⟩
    · go_ret
      exact ⟨_, _, rfl, slv_own (k := 3) (by decide) hown2, hB1⟩



set_option maxHeartbeats 1000000 in
theorem refLoopErr_r (T : List Int) (A : Option Addr) (c : Nat) (lo hi turn slew : Int) (w : World) (hn : T.length ≤ 1000) (hs : SlI w A T) :
    Calls Try.prog 17 #[.agg #[.slice A T.length c, .int .i64 lo, .int .i64 hi, .int .i64 turn, .int .i64 slew]] w fun e w' => e = .returned (.int .i64 (chkL T lo hi turn slew).2) ∧ Below w.heap.size w w' := by
  have H := Lib.hid (fun W h => refCheckLoop_c T A c lo hi turn slew W hn h)
  have HS := Lib.hid hs
  clear hn hs
  generalize chkL T lo hi turn slew = CS at *
  go_enter Try.func17, Try.ntmps17
  go_wp2_with (go_at_call 51; refine (H.out _ (SlI.below HS.out (by focus ((repeat first | with_reducible exact Below.refl _ _ | (with_reducible refine Below.setCell ?_ ?_ _) | (with_reducible refine Below.alloc ?_ ?_ _) | (with_reducible refine below_drewN ?_ _) | (with_reducible refine Below.drew ?_)); all_goals (first | with_reducible exact Nat.le_refl _ | omega | (simp; done) | (simp; omega) | (omega) | ((try simp); omega)))))).mono ?_; rintro e w' ⟨rfl, hb⟩)
  go_ret
  exact ⟨rfl, by focus ((repeat first | with_reducible exact Below.refl _ _ | (with_reducible refine Below.setCell ?_ ?_ _) | (with_reducible refine Below.alloc ?_ ?_ _) | (with_reducible refine below_drewN ?_ _) | (with_reducible refine Below.drew ?_) | (with_reducible refine Below.trans ?_ (Below.mono hb ?_))); all_goals (first | with_reducible exact Nat.le_refl _ | omega | (simp; done) | (simp; omega) | (have := hb.size; (try simp at this); omega) | (have := hb.size; (try simp at this); (try simp); omega)))⟩

/-- BrokenBy at a loop that is valid: the sea, or nothing. -/
theorem brokenBy_r (T : List Int) (A : Option Addr) (c : Nat) (lo hi turn slew : Int) (w : World) (hs : SlI w A T) (he : (chkL T lo hi turn slew).2 = 0) :
    Calls Try.prog 21 #[.agg #[.slice A T.length c, .int .i64 lo, .int .i64 hi, .int .i64 turn, .int .i64 slew]] w fun e w' => ∃ G cap, ((found T lo hi turn slew).2.getD []).length ≤ 9223372036854775807 ∧ e = .returned (.tuple #[.slice G ((found T lo hi turn slew).2.getD []).length cap, .int .i64 (brkE (found T lo hi turn slew).2)]) ∧ SlI w' G ((found T lo hi turn slew).2.getD []) ∧ Below w.heap.size w w' := by
  refine (brokenBy_yes T A c lo hi turn slew w hs he).mono ?_
  rintro e w' ⟨v, rfl, hv, hb⟩
  cases hf : (found T lo hi turn slew).2 with
  | none =>
    rw [hf] at hv
    have hv : v = .slice none 0 0 := hv
    subst hv
    exact ⟨none, 0, by simp, rfl, SlI.nil _ _, hb⟩
  | some L =>
    rw [hf] at hv
    obtain ⟨⟨g, cap, rfl⟩, ho⟩ := hv
    refine ⟨_, cap, ?_, rfl, sli_own ho, hb⟩
    rcases ho.2 with ⟨e, _⟩ | ⟨_, _, _, e, _, _, hc, hc2, _⟩
    · cases e
    · cases e; have : maxLen ≤ 9223372036854775807 := by unfold maxLen; omega
      exact Nat.le_trans hc (Nat.le_trans hc2 this)

set_option maxHeartbeats 8000000 in
set_option maxRecDepth 100000 in
theorem winchReached_in (T : List Int) (A : Option Addr) (c : Nat) (lo hi turn slew : Int) (xs : List St3) (B : Option Addr) (d : Nat) (w : World) (hk : (chkL T lo hi turn slew).2 = 0) (hm : xs.length ≤ 2100) (hT : SlI w A T) (hH : SlV w B (xs.flatMap st3V)) :
    Calls Try.prog 11 #[.agg #[.slice A T.length c, .int .i64 lo, .int .i64 hi, .int .i64 turn, .int .i64 slew], .slice B xs.length d] w fun e w' => e = .returned (.bool true) ∧ Below w.heap.size w w' := by
  obtain ⟨k1, k2, k3, k4, k5, k6, k7⟩ := chkL_ok hk
  have HS := Lib.hid hT
  have HV := Lib.hid hH
  have hln : (reachL T lo hi turn slew).length ≤ 2079 := by
    obtain ⟨hF, _⟩ := foundOk (turn := turn) (slew := slew) k1 k2 k3 k4.1 k5 k6
    have := hF.length k1 k5.1 k6.2
    unfold reachL
    rw [(sortS_perm _).length_eq, List.length_map]; exact this
  have LE0 := fun W h => refLoopErr_r T A c lo hi turn slew W (by omega) h
  rw [hk] at LE0
  have LE := Lib.hid LE0
  have CL := Lib.hid (fun W h => copyLoop_c T A c lo hi turn slew W (by omega) h)
  have RO := Lib.hid (fun D d W h => reachedBy_yes T D d lo hi turn slew W h hk)
  have HO := Lib.hid (fun D d W h => holds_yes T D d lo hi turn slew W h hk)
  have BO := Lib.hid (fun D d W h => brokenBy_r T D d lo hi turn slew W h hk)
  have CS := Lib.hid (fun W h => copyStates_r xs B d W (by omega) h)
  have CC := Lib.hid (fun D d E f W h h' => checkClosed_c T D d lo hi turn slew xs E f W (by omega) h h' (by omega))
  have CE := Lib.hid (fun W h h' => closedErr_c T A c lo hi turn slew xs B d W h h' (by omega) hk)
  have RH := Lib.hid (fun W h => refHolds_c T A c lo hi turn slew W h hk)
  have RR := Lib.hid (fun W h => refReached_c T A c lo hi turn slew W h hk)
  have BR := Lib.hid (fun W h => show Calls Try.prog 67 #[.agg #[.slice A T.length c, .int .i64 lo, .int .i64 hi, .int .i64 turn, .int .i64 slew]] W (fun e w' => ∃ D cap, e = .returned (.tuple #[.slice D ((found T lo hi turn slew).2.getD []).length cap, .bool (found T lo hi turn slew).2.isSome]) ∧ SlI w' D ((found T lo hi turn slew).2.getD []) ∧ Below W.heap.size W w') from refBroken_c T A c lo hi turn slew W h hk)
  have SS0 := fun (D E : Option Addr) (d f : Nat) W h h' => sameStates_c (reachL T lo hi turn slew) (reachL T lo hi turn slew) D E d f W (by omega) (by omega) h h'
  rw [show decide (reachL T lo hi turn slew = reachL T lo hi turn slew) = true from decide_eq_true rfl] at SS0
  have SS := Lib.hid SS0
  have IS0 := fun (D E : Option Addr) (d f : Nat) (hbl : ((found T lo hi turn slew).2.getD []).length ≤ 9223372036854775807) W h h' => ints_c ((found T lo hi turn slew).2.getD []) ((found T lo hi turn slew).2.getD []) D E d f W hbl hbl h h'
  rw [show decide ((found T lo hi turn slew).2.getD [] = (found T lo hi turn slew).2.getD []) = true from decide_eq_true rfl] at IS0
  have IS := Lib.hid IS0
  clear LE0 SS0 IS0 hk hT hH k3
  generalize clsP T lo hi turn slew xs = CP at *
  generalize reachL T lo hi turn slew = SL at *
  generalize found T lo hi turn slew = FL at *
  obtain ⟨cp, ck⟩ := CP
  obtain ⟨al, sea⟩ := FL
  dsimp only at HO BO CC CE RH BR IS
  have d1 : decide ((T.length : Int) ≤ 13) = true := decide_eq_true (by omega)
  have d2 : decide ((2100 : Int) < (xs.length : Int)) = false := decide_eq_false (by omega)
  have d3 : decide (2100 < xs.length) = false := decide_eq_false (by omega)
  obtain ⟨hl, hhl⟩ : ∃ hl, hldB sea = hl := ⟨_, rfl⟩
  obtain ⟨be, hbe⟩ : ∃ be, brkE sea = be := ⟨_, rfl⟩
  obtain ⟨ok, hok⟩ : ∃ ok, sea.isSome = ok := ⟨_, rfl⟩
  obtain ⟨b, hb⟩ : ∃ b, sea.getD [] = b := ⟨_, rfl⟩
  rw [hhl] at HO RH; rw [hbe, hb] at BO; rw [hb, hok] at BR; rw [hb] at IS
  go_enter Try.func11, Try.ntmps11
  go_upto_region 5 with (first | (go_at_call 15; refine (awake_c _).mono ?_; rintro e w1 ⟨rfl, hb1⟩; (have q0 : Box w1 w.heap.size 26 #[.slice A T.length c, .int .i64 lo, .int .i64 hi, .int .i64 turn, .int .i64 slew] := (by focus (apply Box.via; apply Exists.intro; apply And.intro; (repeat first | with_reducible assumption | with_reducible exact Box.new _ _ _ | ((with_reducible apply Box.newAt); focus (simp; done)) | (with_reducible apply Box.drew) | (with_reducible apply Box.drewN) | (with_reducible apply Box.set) | (with_reducible apply Box.alloc) | (with_reducible apply Box.far) | (with_reducible apply Box.below (hb := hb1))); all_goals (first | with_reducible exact Nat.le_refl _ | omega | (simp; done) | (simp; omega) | (have := hb1.size; (try simp at this); omega) | (have := hb1.size; (try simp at this); (try simp); omega))))); (have c00 : (w1).cell? ⟨w.heap.size, 0, none⟩ = some (.slice A T.length c) := q0.cell 0); (have c01 : (w1).cell? ⟨w.heap.size, 1, none⟩ = some (.int .i64 lo) := q0.cell 1); (have c02 : (w1).cell? ⟨w.heap.size, 2, none⟩ = some (.int .i64 hi) := q0.cell 2); (have c03 : (w1).cell? ⟨w.heap.size, 3, none⟩ = some (.int .i64 turn) := q0.cell 3); (have c04 : (w1).cell? ⟨w.heap.size, 4, none⟩ = some (.int .i64 slew) := q0.cell 4); (have hl0 := q0.lt)) | (go_at_call 16; refine (few_c T A c lo hi turn slew _).mono ?_; rintro e w2 ⟨rfl, hb2⟩; (have q0 : Box w2 w.heap.size 26 #[.slice A T.length c, .int .i64 lo, .int .i64 hi, .int .i64 turn, .int .i64 slew] := (by focus (apply Box.via; apply Exists.intro; apply And.intro; (repeat first | with_reducible assumption | with_reducible exact Box.new _ _ _ | ((with_reducible apply Box.newAt); focus (simp; done)) | (with_reducible apply Box.drew) | (with_reducible apply Box.drewN) | (with_reducible apply Box.set) | (with_reducible apply Box.alloc) | (with_reducible apply Box.far) | (with_reducible apply Box.below (hb := hb2))); all_goals (first | with_reducible exact Nat.le_refl _ | omega | (simp; done) | (simp; omega) | (have := hb2.size; (try simp at this); omega) | (have := hb2.size; (try simp at this); (try simp); omega))))); (have c00 : (w2).cell? ⟨w.heap.size, 0, none⟩ = some (.slice A T.length c) := q0.cell 0); (have c01 : (w2).cell? ⟨w.heap.size, 1, none⟩ = some (.int .i64 lo) := q0.cell 1); (have c02 : (w2).cell? ⟨w.heap.size, 2, none⟩ = some (.int .i64 hi) := q0.cell 2); (have c03 : (w2).cell? ⟨w.heap.size, 3, none⟩ = some (.int .i64 turn) := q0.cell 3); (have c04 : (w2).cell? ⟨w.heap.size, 4, none⟩ = some (.int .i64 slew) := q0.cell 4); (have hl0 := q0.lt)) | fail)
  have hB : Below w.heap.size w w2 := by focus ((repeat first | with_reducible exact Below.refl _ _ | (with_reducible refine Below.setCell ?_ ?_ _) | (with_reducible refine Below.alloc ?_ ?_ _) | (with_reducible refine below_drewN ?_ _) | (with_reducible refine Below.drew ?_) | (with_reducible refine Below.trans ?_ (Below.mono hb2 ?_)) | (with_reducible refine Below.trans ?_ (Below.mono hb1 ?_))); all_goals (first | with_reducible exact Nat.le_refl _ | omega | (simp; done) | (simp; omega) | (have := hb2.size; (try simp at this); have := hb1.size; (try simp at this); omega) | (have := hb2.size; (try simp at this); have := hb1.size; (try simp at this); (try simp); omega)))
  clear hb1 hb2 c00 c01 c02 c03 c04 hl0
  generalize w2 = W5 at *
  go_cut [5, 6] (fun s5 s6 wx => ∃ g1 cap1, s5 = .slice (some ⟨g1, 0, none⟩) SL.length cap1 ∧ s6 = .int .i64 0 ∧ SlV wx (some ⟨g1, 0, none⟩) (SL.flatMap st3V) ∧ Box wx w.heap.size 26 #[.slice A T.length c, .int .i64 lo, .int .i64 hi, .int .i64 turn, .int .i64 slew] ∧ Below w.heap.size w wx)
  case first => as_aux_lemma =>
    (have c00 : (W5).cell? ⟨w.heap.size, 0, none⟩ = some (.slice A T.length c) := q0.cell 0); (have c01 : (W5).cell? ⟨w.heap.size, 1, none⟩ = some (.int .i64 lo) := q0.cell 1); (have c02 : (W5).cell? ⟨w.heap.size, 2, none⟩ = some (.int .i64 hi) := q0.cell 2); (have c03 : (W5).cell? ⟨w.heap.size, 3, none⟩ = some (.int .i64 turn) := q0.cell 3); (have c04 : (W5).cell? ⟨w.heap.size, 4, none⟩ = some (.int .i64 slew) := q0.cell 4); (have hl0 := q0.lt)
    go_wp2_with (first | (go_at_call 18; refine (CL.out _ (SlI.below HS.out (by focus ((repeat first | with_reducible exact Below.refl _ _ | (with_reducible refine Below.setCell ?_ ?_ _) | (with_reducible refine Below.alloc ?_ ?_ _) | (with_reducible refine below_drewN ?_ _) | (with_reducible refine Below.drew ?_) | (with_reducible refine Below.trans ?_ (Below.mono hB ?_))); all_goals (first | with_reducible exact Nat.le_refl _ | omega | (simp; done) | (simp; omega) | (have := hB.size; (try simp at this); omega) | (have := hB.size; (try simp at this); (try simp); omega)))))).mono ?_; rintro e w2 ⟨D2, d2, rfl, hD2, hb2⟩) | (go_at_call 22; refine (RO.out _ _ _ (SlI.below hD2 (by focus ((repeat first | with_reducible exact Below.refl _ _ | (with_reducible refine Below.setCell ?_ ?_ _) | (with_reducible refine Below.alloc ?_ ?_ _) | (with_reducible refine below_drewN ?_ _) | (with_reducible refine Below.drew ?_)); all_goals (first | with_reducible exact Nat.le_refl _ | omega | (simp; done) | (simp; omega) | (omega) | ((try simp); omega)))))).mono ?_; rintro e w3 ⟨g1, cap1, rfl, hS1, hb3⟩) | fail)
    go_meet
    refine ⟨_, _, rfl, rfl, hS1, ?_, ?_⟩
    all_goals first | (focus (apply Box.via; apply Exists.intro; apply And.intro; (repeat first | with_reducible assumption | with_reducible exact Box.new _ _ _ | ((with_reducible apply Box.newAt); focus (simp; done)) | (with_reducible apply Box.drew) | (with_reducible apply Box.drewN) | (with_reducible apply Box.set) | (with_reducible apply Box.alloc) | (with_reducible apply Box.far) | (with_reducible apply Box.below (hb := hb2)) | (with_reducible apply Box.below (hb := hb3))); all_goals (first | with_reducible exact Nat.le_refl _ | omega | (simp; done) | (simp; omega) | (have := hb2.size; (try simp at this); have := hb3.size; (try simp at this); omega) | (have := hb2.size; (try simp at this); have := hb3.size; (try simp at this); (try simp); omega)))) | (focus ((repeat first | with_reducible exact Below.refl _ _ | (with_reducible refine Below.setCell ?_ ?_ _) | (with_reducible refine Below.alloc ?_ ?_ _) | (with_reducible refine below_drewN ?_ _) | (with_reducible refine Below.drew ?_) | (with_reducible refine Below.trans ?_ (Below.mono hb2 ?_)) | (with_reducible refine Below.trans ?_ (Below.mono hb3 ?_)) | (with_reducible refine Below.trans ?_ (Below.mono hB ?_))); all_goals (first | with_reducible exact Nat.le_refl _ | omega | (simp; done) | (simp; omega) | (have := hb2.size; (try simp at this); have := hb3.size; (try simp at this); have := hB.size; (try simp at this); omega) | (have := hb2.size; (try simp at this); have := hb3.size; (try simp at this); have := hB.size; (try simp at this); (try simp); omega))))
  case rest =>
    obtain ⟨g1, cap1, rfl, rfl, hS, q0', hB'⟩ := hcut
    (clear q0 hB; have q0 := q0'; have hB := hB'; clear q0' hB'; generalize wc = W5 at *)
    go_upto_region 6 with fail
    go_cut [7, 8] (fun s7 s8 wx => s7 = .bool hl ∧ s8 = .int .i64 0 ∧ SlV wx (some ⟨g1, 0, none⟩) (SL.flatMap st3V) ∧ Box wx w.heap.size 26 #[.slice A T.length c, .int .i64 lo, .int .i64 hi, .int .i64 turn, .int .i64 slew] ∧ Below w.heap.size w wx)
    case first => as_aux_lemma =>
      (have c00 : (W5).cell? ⟨w.heap.size, 0, none⟩ = some (.slice A T.length c) := q0.cell 0); (have c01 : (W5).cell? ⟨w.heap.size, 1, none⟩ = some (.int .i64 lo) := q0.cell 1); (have c02 : (W5).cell? ⟨w.heap.size, 2, none⟩ = some (.int .i64 hi) := q0.cell 2); (have c03 : (W5).cell? ⟨w.heap.size, 3, none⟩ = some (.int .i64 turn) := q0.cell 3); (have c04 : (W5).cell? ⟨w.heap.size, 4, none⟩ = some (.int .i64 slew) := q0.cell 4); (have hl0 := q0.lt)
      go_wp2_with (first | (go_at_call 18; refine (CL.out _ (SlI.below HS.out (by focus ((repeat first | with_reducible exact Below.refl _ _ | (with_reducible refine Below.setCell ?_ ?_ _) | (with_reducible refine Below.alloc ?_ ?_ _) | (with_reducible refine below_drewN ?_ _) | (with_reducible refine Below.drew ?_) | (with_reducible refine Below.trans ?_ (Below.mono hB ?_))); all_goals (first | with_reducible exact Nat.le_refl _ | omega | (simp; done) | (simp; omega) | (have := hB.size; (try simp at this); omega) | (have := hB.size; (try simp at this); (try simp); omega)))))).mono ?_; rintro e w2 ⟨D2, d2, rfl, hD2, hb2⟩) | (go_at_call 20; refine (HO.out _ _ _ (SlI.below hD2 (by focus ((repeat first | with_reducible exact Below.refl _ _ | (with_reducible refine Below.setCell ?_ ?_ _) | (with_reducible refine Below.alloc ?_ ?_ _) | (with_reducible refine below_drewN ?_ _) | (with_reducible refine Below.drew ?_)); all_goals (first | with_reducible exact Nat.le_refl _ | omega | (simp; done) | (simp; omega) | (omega) | ((try simp); omega)))))).mono ?_; rintro e w3 ⟨rfl, hb3⟩) | fail)
      go_meet
      refine ⟨rfl, rfl, SlV.below hS (by focus ((repeat first | with_reducible exact Below.refl _ _ | (with_reducible refine Below.setCell ?_ ?_ _) | (with_reducible refine Below.alloc ?_ ?_ _) | (with_reducible refine below_drewN ?_ _) | (with_reducible refine Below.drew ?_) | (with_reducible refine Below.trans ?_ (Below.mono hb2 ?_)) | (with_reducible refine Below.trans ?_ (Below.mono hb3 ?_))); all_goals (first | with_reducible exact Nat.le_refl _ | omega | (simp; done) | (simp; omega) | (have := hb2.size; (try simp at this); have := hb3.size; (try simp at this); omega) | (have := hb2.size; (try simp at this); have := hb3.size; (try simp at this); (try simp); omega)))), ?_, ?_⟩
      all_goals first | (focus (apply Box.via; apply Exists.intro; apply And.intro; (repeat first | with_reducible assumption | with_reducible exact Box.new _ _ _ | ((with_reducible apply Box.newAt); focus (simp; done)) | (with_reducible apply Box.drew) | (with_reducible apply Box.drewN) | (with_reducible apply Box.set) | (with_reducible apply Box.alloc) | (with_reducible apply Box.far) | (with_reducible apply Box.below (hb := hb2)) | (with_reducible apply Box.below (hb := hb3))); all_goals (first | with_reducible exact Nat.le_refl _ | omega | (simp; done) | (simp; omega) | (have := hb2.size; (try simp at this); have := hb3.size; (try simp at this); omega) | (have := hb2.size; (try simp at this); have := hb3.size; (try simp at this); (try simp); omega)))) | (focus ((repeat first | with_reducible exact Below.refl _ _ | (with_reducible refine Below.setCell ?_ ?_ _) | (with_reducible refine Below.alloc ?_ ?_ _) | (with_reducible refine below_drewN ?_ _) | (with_reducible refine Below.drew ?_) | (with_reducible refine Below.trans ?_ (Below.mono hb2 ?_)) | (with_reducible refine Below.trans ?_ (Below.mono hb3 ?_)) | (with_reducible refine Below.trans ?_ (Below.mono hB ?_))); all_goals (first | with_reducible exact Nat.le_refl _ | omega | (simp; done) | (simp; omega) | (have := hb2.size; (try simp at this); have := hb3.size; (try simp at this); have := hB.size; (try simp at this); omega) | (have := hb2.size; (try simp at this); have := hb3.size; (try simp at this); have := hB.size; (try simp at this); (try simp); omega))))
    case rest =>
      clear hS
      obtain ⟨rfl, rfl, hS, q0', hB'⟩ := hcut
      (clear q0 hB; have q0 := q0'; have hB := hB'; clear q0' hB'; generalize wc = W5 at *)
      go_upto_region 7 with fail
      go_cut [9, 10] (fun s9 s10 wx => ∃ G capb, b.length ≤ 9223372036854775807 ∧ s9 = .slice G b.length capb ∧ s10 = .int .i64 be ∧ SlI wx G b ∧ SlV wx (some ⟨g1, 0, none⟩) (SL.flatMap st3V) ∧ Box wx w.heap.size 26 #[.slice A T.length c, .int .i64 lo, .int .i64 hi, .int .i64 turn, .int .i64 slew] ∧ Below w.heap.size w wx)
      case first => as_aux_lemma =>
        (have c00 : (W5).cell? ⟨w.heap.size, 0, none⟩ = some (.slice A T.length c) := q0.cell 0); (have c01 : (W5).cell? ⟨w.heap.size, 1, none⟩ = some (.int .i64 lo) := q0.cell 1); (have c02 : (W5).cell? ⟨w.heap.size, 2, none⟩ = some (.int .i64 hi) := q0.cell 2); (have c03 : (W5).cell? ⟨w.heap.size, 3, none⟩ = some (.int .i64 turn) := q0.cell 3); (have c04 : (W5).cell? ⟨w.heap.size, 4, none⟩ = some (.int .i64 slew) := q0.cell 4); (have hl0 := q0.lt)
        go_wp2_with (first | (go_at_call 18; refine (CL.out _ (SlI.below HS.out (by focus ((repeat first | with_reducible exact Below.refl _ _ | (with_reducible refine Below.setCell ?_ ?_ _) | (with_reducible refine Below.alloc ?_ ?_ _) | (with_reducible refine below_drewN ?_ _) | (with_reducible refine Below.drew ?_) | (with_reducible refine Below.trans ?_ (Below.mono hB ?_))); all_goals (first | with_reducible exact Nat.le_refl _ | omega | (simp; done) | (simp; omega) | (have := hB.size; (try simp at this); omega) | (have := hB.size; (try simp at this); (try simp); omega)))))).mono ?_; rintro e w2 ⟨D2, d2, rfl, hD2, hb2⟩) | (go_at_call 21; refine (BO.out _ _ _ (SlI.below hD2 (by focus ((repeat first | with_reducible exact Below.refl _ _ | (with_reducible refine Below.setCell ?_ ?_ _) | (with_reducible refine Below.alloc ?_ ?_ _) | (with_reducible refine below_drewN ?_ _) | (with_reducible refine Below.drew ?_)); all_goals (first | with_reducible exact Nat.le_refl _ | omega | (simp; done) | (simp; omega) | (omega) | ((try simp); omega)))))).mono ?_; rintro e w3 ⟨G, cap3, hcap3, rfl, hG3, hb3⟩) | fail)
        go_meet
        refine ⟨_, _, hcap3, rfl, rfl, hG3, SlV.below hS (by focus ((repeat first | with_reducible exact Below.refl _ _ | (with_reducible refine Below.setCell ?_ ?_ _) | (with_reducible refine Below.alloc ?_ ?_ _) | (with_reducible refine below_drewN ?_ _) | (with_reducible refine Below.drew ?_) | (with_reducible refine Below.trans ?_ (Below.mono hb2 ?_)) | (with_reducible refine Below.trans ?_ (Below.mono hb3 ?_))); all_goals (first | with_reducible exact Nat.le_refl _ | omega | (simp; done) | (simp; omega) | (have := hb2.size; (try simp at this); have := hb3.size; (try simp at this); omega) | (have := hb2.size; (try simp at this); have := hb3.size; (try simp at this); (try simp); omega)))), ?_, ?_⟩
        all_goals first | (focus (apply Box.via; apply Exists.intro; apply And.intro; (repeat first | with_reducible assumption | with_reducible exact Box.new _ _ _ | ((with_reducible apply Box.newAt); focus (simp; done)) | (with_reducible apply Box.drew) | (with_reducible apply Box.drewN) | (with_reducible apply Box.set) | (with_reducible apply Box.alloc) | (with_reducible apply Box.far) | (with_reducible apply Box.below (hb := hb2)) | (with_reducible apply Box.below (hb := hb3))); all_goals (first | with_reducible exact Nat.le_refl _ | omega | (simp; done) | (simp; omega) | (have := hb2.size; (try simp at this); have := hb3.size; (try simp at this); omega) | (have := hb2.size; (try simp at this); have := hb3.size; (try simp at this); (try simp); omega)))) | (focus ((repeat first | with_reducible exact Below.refl _ _ | (with_reducible refine Below.setCell ?_ ?_ _) | (with_reducible refine Below.alloc ?_ ?_ _) | (with_reducible refine below_drewN ?_ _) | (with_reducible refine Below.drew ?_) | (with_reducible refine Below.trans ?_ (Below.mono hb2 ?_)) | (with_reducible refine Below.trans ?_ (Below.mono hb3 ?_)) | (with_reducible refine Below.trans ?_ (Below.mono hB ?_))); all_goals (first | with_reducible exact Nat.le_refl _ | omega | (simp; done) | (simp; omega) | (have := hb2.size; (try simp at this); have := hb3.size; (try simp at this); have := hB.size; (try simp at this); omega) | (have := hb2.size; (try simp at this); have := hb3.size; (try simp at this); have := hB.size; (try simp at this); (try simp); omega))))
      case rest =>
        clear hS
        obtain ⟨G, capb, hbl, rfl, rfl, hG, hS, q0', hB'⟩ := hcut
        (clear q0 hB; have q0 := q0'; have hB := hB'; clear q0' hB'; generalize wc = W5 at *)
        go_upto_region 8 with fail
        go_cut [11, 12] (fun s11 s12 wx => s11 = .int .i64 cp ∧ s12 = .int .i64 ck ∧ SlI wx G b ∧ SlV wx (some ⟨g1, 0, none⟩) (SL.flatMap st3V) ∧ Box wx w.heap.size 26 #[.slice A T.length c, .int .i64 lo, .int .i64 hi, .int .i64 turn, .int .i64 slew] ∧ Below w.heap.size w wx)
        case first => as_aux_lemma =>
          (have c00 : (W5).cell? ⟨w.heap.size, 0, none⟩ = some (.slice A T.length c) := q0.cell 0); (have c01 : (W5).cell? ⟨w.heap.size, 1, none⟩ = some (.int .i64 lo) := q0.cell 1); (have c02 : (W5).cell? ⟨w.heap.size, 2, none⟩ = some (.int .i64 hi) := q0.cell 2); (have c03 : (W5).cell? ⟨w.heap.size, 3, none⟩ = some (.int .i64 turn) := q0.cell 3); (have c04 : (W5).cell? ⟨w.heap.size, 4, none⟩ = some (.int .i64 slew) := q0.cell 4); (have hl0 := q0.lt)
          go_wp2_with (first | (go_at_call 18; refine (CL.out _ (SlI.below HS.out (by focus ((repeat first | with_reducible exact Below.refl _ _ | (with_reducible refine Below.setCell ?_ ?_ _) | (with_reducible refine Below.alloc ?_ ?_ _) | (with_reducible refine below_drewN ?_ _) | (with_reducible refine Below.drew ?_) | (with_reducible refine Below.trans ?_ (Below.mono hB ?_))); all_goals (first | with_reducible exact Nat.le_refl _ | omega | (simp; done) | (simp; omega) | (have := hB.size; (try simp at this); omega) | (have := hB.size; (try simp at this); (try simp); omega)))))).mono ?_; rintro e w2 ⟨D2, d2, rfl, hD2, hb2⟩) | (go_at_call 66; refine (CS.out _ (SlV.below HV.out (by focus ((repeat first | with_reducible exact Below.refl _ _ | (with_reducible refine Below.setCell ?_ ?_ _) | (with_reducible refine Below.alloc ?_ ?_ _) | (with_reducible refine below_drewN ?_ _) | (with_reducible refine Below.drew ?_) | (with_reducible refine Below.trans ?_ (Below.mono hb2 ?_)) | (with_reducible refine Below.trans ?_ (Below.mono hB ?_))); all_goals (first | with_reducible exact Nat.le_refl _ | omega | (simp; done) | (simp; omega) | (have := hb2.size; (try simp at this); have := hB.size; (try simp at this); omega) | (have := hb2.size; (try simp at this); have := hB.size; (try simp at this); (try simp); omega)))))).mono ?_; rintro e w3 ⟨D3, d3, rfl, hD3, hb3⟩) | (go_at_call 65; refine (CC.out _ _ _ _ _ (SlI.below hD2 (by focus ((repeat first | with_reducible exact Below.refl _ _ | (with_reducible refine Below.setCell ?_ ?_ _) | (with_reducible refine Below.alloc ?_ ?_ _) | (with_reducible refine below_drewN ?_ _) | (with_reducible refine Below.drew ?_) | (with_reducible refine Below.trans ?_ (Below.mono hb3 ?_))); all_goals (first | with_reducible exact Nat.le_refl _ | omega | (simp; done) | (simp; omega) | (have := hb3.size; (try simp at this); omega) | (have := hb3.size; (try simp at this); (try simp); omega))))) (SlV.below hD3 (by focus ((repeat first | with_reducible exact Below.refl _ _ | (with_reducible refine Below.setCell ?_ ?_ _) | (with_reducible refine Below.alloc ?_ ?_ _) | (with_reducible refine below_drewN ?_ _) | (with_reducible refine Below.drew ?_)); all_goals (first | with_reducible exact Nat.le_refl _ | omega | (simp; done) | (simp; omega) | (omega) | ((try simp); omega)))))).mono ?_; rintro e w4 ⟨rfl, hb4⟩) | fail)
          go_meet
          refine ⟨rfl, rfl, SlI.below hG (by focus ((repeat first | with_reducible exact Below.refl _ _ | (with_reducible refine Below.setCell ?_ ?_ _) | (with_reducible refine Below.alloc ?_ ?_ _) | (with_reducible refine below_drewN ?_ _) | (with_reducible refine Below.drew ?_) | (with_reducible refine Below.trans ?_ (Below.mono hb2 ?_)) | (with_reducible refine Below.trans ?_ (Below.mono hb3 ?_)) | (with_reducible refine Below.trans ?_ (Below.mono hb4 ?_))); all_goals (first | with_reducible exact Nat.le_refl _ | omega | (simp; done) | (simp; omega) | (have := hb2.size; (try simp at this); have := hb3.size; (try simp at this); have := hb4.size; (try simp at this); omega) | (have := hb2.size; (try simp at this); have := hb3.size; (try simp at this); have := hb4.size; (try simp at this); (try simp); omega)))), SlV.below hS (by focus ((repeat first | with_reducible exact Below.refl _ _ | (with_reducible refine Below.setCell ?_ ?_ _) | (with_reducible refine Below.alloc ?_ ?_ _) | (with_reducible refine below_drewN ?_ _) | (with_reducible refine Below.drew ?_) | (with_reducible refine Below.trans ?_ (Below.mono hb2 ?_)) | (with_reducible refine Below.trans ?_ (Below.mono hb3 ?_)) | (with_reducible refine Below.trans ?_ (Below.mono hb4 ?_))); all_goals (first | with_reducible exact Nat.le_refl _ | omega | (simp; done) | (simp; omega) | (have := hb2.size; (try simp at this); have := hb3.size; (try simp at this); have := hb4.size; (try simp at this); omega) | (have := hb2.size; (try simp at this); have := hb3.size; (try simp at this); have := hb4.size; (try simp at this); (try simp); omega)))), ?_, ?_⟩
          all_goals first | (focus (apply Box.via; apply Exists.intro; apply And.intro; (repeat first | with_reducible assumption | with_reducible exact Box.new _ _ _ | ((with_reducible apply Box.newAt); focus (simp; done)) | (with_reducible apply Box.drew) | (with_reducible apply Box.drewN) | (with_reducible apply Box.set) | (with_reducible apply Box.alloc) | (with_reducible apply Box.far) | (with_reducible apply Box.below (hb := hb2)) | (with_reducible apply Box.below (hb := hb3)) | (with_reducible apply Box.below (hb := hb4))); all_goals (first | with_reducible exact Nat.le_refl _ | omega | (simp; done) | (simp; omega) | (have := hb2.size; (try simp at this); have := hb3.size; (try simp at this); have := hb4.size; (try simp at this); omega) | (have := hb2.size; (try simp at this); have := hb3.size; (try simp at this); have := hb4.size; (try simp at this); (try simp); omega)))) | (focus ((repeat first | with_reducible exact Below.refl _ _ | (with_reducible refine Below.setCell ?_ ?_ _) | (with_reducible refine Below.alloc ?_ ?_ _) | (with_reducible refine below_drewN ?_ _) | (with_reducible refine Below.drew ?_) | (with_reducible refine Below.trans ?_ (Below.mono hb2 ?_)) | (with_reducible refine Below.trans ?_ (Below.mono hb3 ?_)) | (with_reducible refine Below.trans ?_ (Below.mono hb4 ?_)) | (with_reducible refine Below.trans ?_ (Below.mono hB ?_))); all_goals (first | with_reducible exact Nat.le_refl _ | omega | (simp; done) | (simp; omega) | (have := hb2.size; (try simp at this); have := hb3.size; (try simp at this); have := hb4.size; (try simp at this); have := hB.size; (try simp at this); omega) | (have := hb2.size; (try simp at this); have := hb3.size; (try simp at this); have := hb4.size; (try simp at this); have := hB.size; (try simp at this); (try simp); omega))))
        case rest =>
          clear hG hS
          obtain ⟨rfl, rfl, hG, hS, q0', hB'⟩ := hcut
          (clear q0 hB; have q0 := q0'; have hB := hB'; clear q0' hB'; generalize wc = W5 at *)
          go_upto_region 9 with fail
          go_cut [13] (fun s13 wx => s13 = .int .i64 0 ∧ SlI wx G b ∧ SlV wx (some ⟨g1, 0, none⟩) (SL.flatMap st3V) ∧ Box wx w.heap.size 26 #[.slice A T.length c, .int .i64 lo, .int .i64 hi, .int .i64 turn, .int .i64 slew] ∧ Below w.heap.size w wx)
          case first => as_aux_lemma =>
            (have c00 : (W5).cell? ⟨w.heap.size, 0, none⟩ = some (.slice A T.length c) := q0.cell 0); (have c01 : (W5).cell? ⟨w.heap.size, 1, none⟩ = some (.int .i64 lo) := q0.cell 1); (have c02 : (W5).cell? ⟨w.heap.size, 2, none⟩ = some (.int .i64 hi) := q0.cell 2); (have c03 : (W5).cell? ⟨w.heap.size, 3, none⟩ = some (.int .i64 turn) := q0.cell 3); (have c04 : (W5).cell? ⟨w.heap.size, 4, none⟩ = some (.int .i64 slew) := q0.cell 4); (have hl0 := q0.lt)
            go_wp2_with (first | (go_at_call 17; refine (LE.out _ (SlI.below HS.out (by focus ((repeat first | with_reducible exact Below.refl _ _ | (with_reducible refine Below.setCell ?_ ?_ _) | (with_reducible refine Below.alloc ?_ ?_ _) | (with_reducible refine below_drewN ?_ _) | (with_reducible refine Below.drew ?_) | (with_reducible refine Below.trans ?_ (Below.mono hB ?_))); all_goals (first | with_reducible exact Nat.le_refl _ | omega | (simp; done) | (simp; omega) | (have := hB.size; (try simp at this); omega) | (have := hB.size; (try simp at this); (try simp); omega)))))).mono ?_; rintro e w2 ⟨rfl, hb2⟩) | fail)
            go_meet
            refine ⟨rfl, SlI.below hG (by focus ((repeat first | with_reducible exact Below.refl _ _ | (with_reducible refine Below.setCell ?_ ?_ _) | (with_reducible refine Below.alloc ?_ ?_ _) | (with_reducible refine below_drewN ?_ _) | (with_reducible refine Below.drew ?_) | (with_reducible refine Below.trans ?_ (Below.mono hb2 ?_))); all_goals (first | with_reducible exact Nat.le_refl _ | omega | (simp; done) | (simp; omega) | (have := hb2.size; (try simp at this); omega) | (have := hb2.size; (try simp at this); (try simp); omega)))), SlV.below hS (by focus ((repeat first | with_reducible exact Below.refl _ _ | (with_reducible refine Below.setCell ?_ ?_ _) | (with_reducible refine Below.alloc ?_ ?_ _) | (with_reducible refine below_drewN ?_ _) | (with_reducible refine Below.drew ?_) | (with_reducible refine Below.trans ?_ (Below.mono hb2 ?_))); all_goals (first | with_reducible exact Nat.le_refl _ | omega | (simp; done) | (simp; omega) | (have := hb2.size; (try simp at this); omega) | (have := hb2.size; (try simp at this); (try simp); omega)))), ?_, ?_⟩
            all_goals first | (focus (apply Box.via; apply Exists.intro; apply And.intro; (repeat first | with_reducible assumption | with_reducible exact Box.new _ _ _ | ((with_reducible apply Box.newAt); focus (simp; done)) | (with_reducible apply Box.drew) | (with_reducible apply Box.drewN) | (with_reducible apply Box.set) | (with_reducible apply Box.alloc) | (with_reducible apply Box.far) | (with_reducible apply Box.below (hb := hb2))); all_goals (first | with_reducible exact Nat.le_refl _ | omega | (simp; done) | (simp; omega) | (have := hb2.size; (try simp at this); omega) | (have := hb2.size; (try simp at this); (try simp); omega)))) | (focus ((repeat first | with_reducible exact Below.refl _ _ | (with_reducible refine Below.setCell ?_ ?_ _) | (with_reducible refine Below.alloc ?_ ?_ _) | (with_reducible refine below_drewN ?_ _) | (with_reducible refine Below.drew ?_) | (with_reducible refine Below.trans ?_ (Below.mono hb2 ?_)) | (with_reducible refine Below.trans ?_ (Below.mono hB ?_))); all_goals (first | with_reducible exact Nat.le_refl _ | omega | (simp; done) | (simp; omega) | (have := hb2.size; (try simp at this); have := hB.size; (try simp at this); omega) | (have := hb2.size; (try simp at this); have := hB.size; (try simp at this); (try simp); omega))))
          case rest =>
            clear hG hS
            obtain ⟨rfl, hG, hS, q0', hB'⟩ := hcut
            (clear q0 hB; have q0 := q0'; have hB := hB'; clear q0' hB'; generalize wc = W5 at *)
            go_upto_region 12 with fail
            go_cut [14, 15] (fun s14 s15 wx => ∃ D2 d2, s14 = .slice D2 b.length d2 ∧ s15 = .bool ok ∧ SlI wx D2 b ∧ SlI wx G b ∧ SlV wx (some ⟨g1, 0, none⟩) (SL.flatMap st3V) ∧ Box wx w.heap.size 26 #[.slice A T.length c, .int .i64 lo, .int .i64 hi, .int .i64 turn, .int .i64 slew] ∧ Below w.heap.size w wx)
            case first => as_aux_lemma =>
              (have c00 : (W5).cell? ⟨w.heap.size, 0, none⟩ = some (.slice A T.length c) := q0.cell 0); (have c01 : (W5).cell? ⟨w.heap.size, 1, none⟩ = some (.int .i64 lo) := q0.cell 1); (have c02 : (W5).cell? ⟨w.heap.size, 2, none⟩ = some (.int .i64 hi) := q0.cell 2); (have c03 : (W5).cell? ⟨w.heap.size, 3, none⟩ = some (.int .i64 turn) := q0.cell 3); (have c04 : (W5).cell? ⟨w.heap.size, 4, none⟩ = some (.int .i64 slew) := q0.cell 4); (have hl0 := q0.lt)
              go_wp2_with (first | (go_at_call 67; refine (BR.out _ (SlI.below HS.out (by focus ((repeat first | with_reducible exact Below.refl _ _ | (with_reducible refine Below.setCell ?_ ?_ _) | (with_reducible refine Below.alloc ?_ ?_ _) | (with_reducible refine below_drewN ?_ _) | (with_reducible refine Below.drew ?_) | (with_reducible refine Below.trans ?_ (Below.mono hB ?_))); all_goals (first | with_reducible exact Nat.le_refl _ | omega | (simp; done) | (simp; omega) | (have := hB.size; (try simp at this); omega) | (have := hB.size; (try simp at this); (try simp); omega)))))).mono ?_; rintro e w2 ⟨D2, d2, rfl, hD2, hb2⟩) | fail)
              go_meet
              refine ⟨_, _, rfl, rfl, hD2, SlI.below hG (by focus ((repeat first | with_reducible exact Below.refl _ _ | (with_reducible refine Below.setCell ?_ ?_ _) | (with_reducible refine Below.alloc ?_ ?_ _) | (with_reducible refine below_drewN ?_ _) | (with_reducible refine Below.drew ?_) | (with_reducible refine Below.trans ?_ (Below.mono hb2 ?_))); all_goals (first | with_reducible exact Nat.le_refl _ | omega | (simp; done) | (simp; omega) | (have := hb2.size; (try simp at this); omega) | (have := hb2.size; (try simp at this); (try simp); omega)))), SlV.below hS (by focus ((repeat first | with_reducible exact Below.refl _ _ | (with_reducible refine Below.setCell ?_ ?_ _) | (with_reducible refine Below.alloc ?_ ?_ _) | (with_reducible refine below_drewN ?_ _) | (with_reducible refine Below.drew ?_) | (with_reducible refine Below.trans ?_ (Below.mono hb2 ?_))); all_goals (first | with_reducible exact Nat.le_refl _ | omega | (simp; done) | (simp; omega) | (have := hb2.size; (try simp at this); omega) | (have := hb2.size; (try simp at this); (try simp); omega)))), ?_, ?_⟩
              all_goals first | (focus (apply Box.via; apply Exists.intro; apply And.intro; (repeat first | with_reducible assumption | with_reducible exact Box.new _ _ _ | ((with_reducible apply Box.newAt); focus (simp; done)) | (with_reducible apply Box.drew) | (with_reducible apply Box.drewN) | (with_reducible apply Box.set) | (with_reducible apply Box.alloc) | (with_reducible apply Box.far) | (with_reducible apply Box.below (hb := hb2))); all_goals (first | with_reducible exact Nat.le_refl _ | omega | (simp; done) | (simp; omega) | (have := hb2.size; (try simp at this); omega) | (have := hb2.size; (try simp at this); (try simp); omega)))) | (focus ((repeat first | with_reducible exact Below.refl _ _ | (with_reducible refine Below.setCell ?_ ?_ _) | (with_reducible refine Below.alloc ?_ ?_ _) | (with_reducible refine below_drewN ?_ _) | (with_reducible refine Below.drew ?_) | (with_reducible refine Below.trans ?_ (Below.mono hb2 ?_)) | (with_reducible refine Below.trans ?_ (Below.mono hB ?_))); all_goals (first | with_reducible exact Nat.le_refl _ | omega | (simp; done) | (simp; omega) | (have := hb2.size; (try simp at this); have := hB.size; (try simp at this); omega) | (have := hb2.size; (try simp at this); have := hB.size; (try simp at this); (try simp); omega))))
            case rest =>
              clear hG hS
              obtain ⟨F, capf, rfl, rfl, hF, hG, hS, q0', hB'⟩ := hcut
              (clear q0 hB; have q0 := q0'; have hB := hB'; clear q0' hB'; generalize wc = W5 at *)
              clear CL RO HO BO CS CC LE BR
              (have c00 : (W5).cell? ⟨w.heap.size, 0, none⟩ = some (.slice A T.length c) := q0.cell 0); (have c01 : (W5).cell? ⟨w.heap.size, 1, none⟩ = some (.int .i64 lo) := q0.cell 1); (have c02 : (W5).cell? ⟨w.heap.size, 2, none⟩ = some (.int .i64 hi) := q0.cell 2); (have c03 : (W5).cell? ⟨w.heap.size, 3, none⟩ = some (.int .i64 turn) := q0.cell 3); (have c04 : (W5).cell? ⟨w.heap.size, 4, none⟩ = some (.int .i64 slew) := q0.cell 4); (have hl0 := q0.lt)
              cases sea with
              | none =>
                obtain rfl : hl = true := hhl.symm
                obtain rfl : be = 12 := hbe.symm
                obtain rfl : ok = false := hok.symm
                obtain rfl : b = [] := hb.symm
                go_wp2_with (first | (go_at_call 68; refine (RR.out _ (SlI.below HS.out (by focus ((repeat first | with_reducible exact Below.refl _ _ | (with_reducible refine Below.setCell ?_ ?_ _) | (with_reducible refine Below.alloc ?_ ?_ _) | (with_reducible refine below_drewN ?_ _) | (with_reducible refine Below.drew ?_) | (with_reducible refine Below.trans ?_ (Below.mono hB ?_))); all_goals (first | with_reducible exact Nat.le_refl _ | omega | (simp; done) | (simp; omega) | (have := hB.size; (try simp at this); omega) | (have := hB.size; (try simp at this); (try simp); omega)))))).mono ?_; rintro e w2 ⟨D2, d2, rfl, hD2, hb2⟩; (have hz2 : W5.heap.size ≤ w2.heap.size := (by have := hb2.size; (try simp at this); omega))) | (go_at_call 55; refine (SS.out _ _ _ _ _ (SlV.below hS (by focus ((repeat first | with_reducible exact Below.refl _ _ | (with_reducible refine Below.setCell ?_ ?_ _) | (with_reducible refine Below.alloc ?_ ?_ _) | (with_reducible refine below_drewN ?_ _) | (with_reducible refine Below.drew ?_) | (with_reducible refine Below.trans ?_ (Below.mono hb2 ?_))); all_goals (first | with_reducible exact Nat.le_refl _ | omega | (simp; done) | (simp; omega) | (have := hb2.size; (try simp at this); omega) | (have := hb2.size; (try simp at this); (try simp); omega))))) (SlV.below hD2 (by focus ((repeat first | with_reducible exact Below.refl _ _ | (with_reducible refine Below.setCell ?_ ?_ _) | (with_reducible refine Below.alloc ?_ ?_ _) | (with_reducible refine below_drewN ?_ _) | (with_reducible refine Below.drew ?_)); all_goals (first | with_reducible exact Nat.le_refl _ | omega | (simp; done) | (simp; omega) | (omega) | ((try simp); omega)))))).mono ?_; rintro e w3 ⟨rfl, hb3⟩; (have hz3 : w2.heap.size ≤ w3.heap.size := (by have := hb3.size; (try simp at this); omega)); (have q0 : Box w3 w.heap.size 26 #[.slice A T.length c, .int .i64 lo, .int .i64 hi, .int .i64 turn, .int .i64 slew] := (by focus (apply Box.via; apply Exists.intro; apply And.intro; (repeat first | with_reducible assumption | with_reducible exact Box.new _ _ _ | ((with_reducible apply Box.newAt); focus (simp; done)) | (with_reducible apply Box.drew) | (with_reducible apply Box.drewN) | (with_reducible apply Box.set) | (with_reducible apply Box.alloc) | (with_reducible apply Box.far) | (with_reducible apply Box.below (hb := hb2)) | (with_reducible apply Box.below (hb := hb3))); all_goals (first | with_reducible exact Nat.le_refl _ | omega | (simp; done) | (simp; omega) | (have := hb2.size; (try simp at this); have := hb3.size; (try simp at this); omega) | (have := hb2.size; (try simp at this); have := hb3.size; (try simp at this); (try simp); omega))))); (have c00 : (w3).cell? ⟨w.heap.size, 0, none⟩ = some (.slice A T.length c) := q0.cell 0); (have c01 : (w3).cell? ⟨w.heap.size, 1, none⟩ = some (.int .i64 lo) := q0.cell 1); (have c02 : (w3).cell? ⟨w.heap.size, 2, none⟩ = some (.int .i64 hi) := q0.cell 2); (have c03 : (w3).cell? ⟨w.heap.size, 3, none⟩ = some (.int .i64 turn) := q0.cell 3); (have c04 : (w3).cell? ⟨w.heap.size, 4, none⟩ = some (.int .i64 slew) := q0.cell 4); (have hl0 := q0.lt)) | (go_at_call 69; refine (RH.out _ (SlI.below HS.out (by focus ((repeat first | with_reducible exact Below.refl _ _ | (with_reducible refine Below.setCell ?_ ?_ _) | (with_reducible refine Below.alloc ?_ ?_ _) | (with_reducible refine below_drewN ?_ _) | (with_reducible refine Below.drew ?_) | (with_reducible refine Below.trans ?_ (Below.mono hb3 ?_)) | (with_reducible refine Below.trans ?_ (Below.mono hb2 ?_)) | (with_reducible refine Below.trans ?_ (Below.mono hB ?_))); all_goals (first | with_reducible exact Nat.le_refl _ | omega | (simp; done) | (simp; omega) | (have := hb3.size; (try simp at this); have := hb2.size; (try simp at this); have := hB.size; (try simp at this); omega) | (have := hb3.size; (try simp at this); have := hb2.size; (try simp at this); have := hB.size; (try simp at this); (try simp); omega)))))).mono ?_; rintro e w4 ⟨rfl, hb4⟩; (have hB4 : Below w.heap.size w w4 := (by focus ((repeat first | with_reducible exact Below.refl _ _ | (with_reducible refine Below.setCell ?_ ?_ _) | (with_reducible refine Below.alloc ?_ ?_ _) | (with_reducible refine below_drewN ?_ _) | (with_reducible refine Below.drew ?_) | (with_reducible refine Below.trans ?_ (Below.mono hb4 ?_)) | (with_reducible refine Below.trans ?_ (Below.mono hb3 ?_)) | (with_reducible refine Below.trans ?_ (Below.mono hb2 ?_)) | (with_reducible refine Below.trans ?_ (Below.mono hB ?_))); all_goals (first | with_reducible exact Nat.le_refl _ | omega | (simp; done) | (simp; omega) | (have := hb4.size; (try simp at this); have := hb3.size; (try simp at this); have := hb2.size; (try simp at this); have := hB.size; (try simp at this); omega) | (have := hb4.size; (try simp at this); have := hb3.size; (try simp at this); have := hb2.size; (try simp at this); have := hB.size; (try simp at this); (try simp); omega))))); (have hz4 : w3.heap.size ≤ w4.heap.size := (by have := hb4.size; (try simp at this); omega)); (have q0 : Box w4 w.heap.size 26 #[.slice A T.length c, .int .i64 lo, .int .i64 hi, .int .i64 turn, .int .i64 slew] := (by focus (apply Box.via; apply Exists.intro; apply And.intro; (repeat first | with_reducible assumption | with_reducible exact Box.new _ _ _ | ((with_reducible apply Box.newAt); focus (simp; done)) | (with_reducible apply Box.drew) | (with_reducible apply Box.drewN) | (with_reducible apply Box.set) | (with_reducible apply Box.alloc) | (with_reducible apply Box.far) | (with_reducible apply Box.below (hb := hb4))); all_goals (first | with_reducible exact Nat.le_refl _ | omega | (simp; done) | (simp; omega) | (have := hb4.size; (try simp at this); omega) | (have := hb4.size; (try simp at this); (try simp); omega))))); (have c00 : (w4).cell? ⟨w.heap.size, 0, none⟩ = some (.slice A T.length c) := q0.cell 0); (have c01 : (w4).cell? ⟨w.heap.size, 1, none⟩ = some (.int .i64 lo) := q0.cell 1); (have c02 : (w4).cell? ⟨w.heap.size, 2, none⟩ = some (.int .i64 hi) := q0.cell 2); (have c03 : (w4).cell? ⟨w.heap.size, 3, none⟩ = some (.int .i64 turn) := q0.cell 3); (have c04 : (w4).cell? ⟨w.heap.size, 4, none⟩ = some (.int .i64 slew) := q0.cell 4); (have hl0 := q0.lt)) | (go_at_call 70; refine (CE.out _ (SlI.below HS.out (by focus ((repeat first | with_reducible exact Below.refl _ _ | (with_reducible refine Below.setCell ?_ ?_ _) | (with_reducible refine Below.alloc ?_ ?_ _) | (with_reducible refine below_drewN ?_ _) | (with_reducible refine Below.drew ?_) | (with_reducible refine Below.trans ?_ (Below.mono hB4 ?_))); all_goals (first | with_reducible exact Nat.le_refl _ | omega | (simp; done) | (simp; omega) | (have := hB4.size; (try simp at this); omega) | (have := hB4.size; (try simp at this); (try simp); omega))))) (SlV.below HV.out (by focus ((repeat first | with_reducible exact Below.refl _ _ | (with_reducible refine Below.setCell ?_ ?_ _) | (with_reducible refine Below.alloc ?_ ?_ _) | (with_reducible refine below_drewN ?_ _) | (with_reducible refine Below.drew ?_) | (with_reducible refine Below.trans ?_ (Below.mono hB4 ?_))); all_goals (first | with_reducible exact Nat.le_refl _ | omega | (simp; done) | (simp; omega) | (have := hB4.size; (try simp at this); omega) | (have := hB4.size; (try simp at this); (try simp); omega)))))).mono ?_; rintro e w6 ⟨rfl, hb6⟩) | fail)
                go_ret
                exact ⟨rfl, by focus ((repeat first | with_reducible exact Below.refl _ _ | (with_reducible refine Below.setCell ?_ ?_ _) | (with_reducible refine Below.alloc ?_ ?_ _) | (with_reducible refine below_drewN ?_ _) | (with_reducible refine Below.drew ?_) | (with_reducible refine Below.trans ?_ (Below.mono hb6 ?_)) | (with_reducible refine Below.trans ?_ (Below.mono hB4 ?_))); all_goals (first | with_reducible exact Nat.le_refl _ | omega | (simp; done) | (simp; omega) | (have := hb6.size; (try simp at this); have := hB4.size; (try simp at this); omega) | (have := hb6.size; (try simp at this); have := hB4.size; (try simp at this); (try simp); omega)))⟩
              | some L =>
                obtain rfl : hl = false := hhl.symm
                obtain rfl : be = 0 := hbe.symm
                obtain rfl : ok = true := hok.symm
                go_wp2_with (first | (go_at_call 68; refine (RR.out _ (SlI.below HS.out (by focus ((repeat first | with_reducible exact Below.refl _ _ | (with_reducible refine Below.setCell ?_ ?_ _) | (with_reducible refine Below.alloc ?_ ?_ _) | (with_reducible refine below_drewN ?_ _) | (with_reducible refine Below.drew ?_) | (with_reducible refine Below.trans ?_ (Below.mono hB ?_))); all_goals (first | with_reducible exact Nat.le_refl _ | omega | (simp; done) | (simp; omega) | (have := hB.size; (try simp at this); omega) | (have := hB.size; (try simp at this); (try simp); omega)))))).mono ?_; rintro e w2 ⟨D2, d2, rfl, hD2, hb2⟩; (have hz2 : W5.heap.size ≤ w2.heap.size := (by have := hb2.size; (try simp at this); omega))) | (go_at_call 55; refine (SS.out _ _ _ _ _ (SlV.below hS (by focus ((repeat first | with_reducible exact Below.refl _ _ | (with_reducible refine Below.setCell ?_ ?_ _) | (with_reducible refine Below.alloc ?_ ?_ _) | (with_reducible refine below_drewN ?_ _) | (with_reducible refine Below.drew ?_) | (with_reducible refine Below.trans ?_ (Below.mono hb2 ?_))); all_goals (first | with_reducible exact Nat.le_refl _ | omega | (simp; done) | (simp; omega) | (have := hb2.size; (try simp at this); omega) | (have := hb2.size; (try simp at this); (try simp); omega))))) (SlV.below hD2 (by focus ((repeat first | with_reducible exact Below.refl _ _ | (with_reducible refine Below.setCell ?_ ?_ _) | (with_reducible refine Below.alloc ?_ ?_ _) | (with_reducible refine below_drewN ?_ _) | (with_reducible refine Below.drew ?_)); all_goals (first | with_reducible exact Nat.le_refl _ | omega | (simp; done) | (simp; omega) | (omega) | ((try simp); omega)))))).mono ?_; rintro e w3 ⟨rfl, hb3⟩; (have hz3 : w2.heap.size ≤ w3.heap.size := (by have := hb3.size; (try simp at this); omega)); (have q0 : Box w3 w.heap.size 26 #[.slice A T.length c, .int .i64 lo, .int .i64 hi, .int .i64 turn, .int .i64 slew] := (by focus (apply Box.via; apply Exists.intro; apply And.intro; (repeat first | with_reducible assumption | with_reducible exact Box.new _ _ _ | ((with_reducible apply Box.newAt); focus (simp; done)) | (with_reducible apply Box.drew) | (with_reducible apply Box.drewN) | (with_reducible apply Box.set) | (with_reducible apply Box.alloc) | (with_reducible apply Box.far) | (with_reducible apply Box.below (hb := hb2)) | (with_reducible apply Box.below (hb := hb3))); all_goals (first | with_reducible exact Nat.le_refl _ | omega | (simp; done) | (simp; omega) | (have := hb2.size; (try simp at this); have := hb3.size; (try simp at this); omega) | (have := hb2.size; (try simp at this); have := hb3.size; (try simp at this); (try simp); omega))))); (have c00 : (w3).cell? ⟨w.heap.size, 0, none⟩ = some (.slice A T.length c) := q0.cell 0); (have c01 : (w3).cell? ⟨w.heap.size, 1, none⟩ = some (.int .i64 lo) := q0.cell 1); (have c02 : (w3).cell? ⟨w.heap.size, 2, none⟩ = some (.int .i64 hi) := q0.cell 2); (have c03 : (w3).cell? ⟨w.heap.size, 3, none⟩ = some (.int .i64 turn) := q0.cell 3); (have c04 : (w3).cell? ⟨w.heap.size, 4, none⟩ = some (.int .i64 slew) := q0.cell 4); (have hl0 := q0.lt)) | (go_at_call 69; refine (RH.out _ (SlI.below HS.out (by focus ((repeat first | with_reducible exact Below.refl _ _ | (with_reducible refine Below.setCell ?_ ?_ _) | (with_reducible refine Below.alloc ?_ ?_ _) | (with_reducible refine below_drewN ?_ _) | (with_reducible refine Below.drew ?_) | (with_reducible refine Below.trans ?_ (Below.mono hb3 ?_)) | (with_reducible refine Below.trans ?_ (Below.mono hb2 ?_)) | (with_reducible refine Below.trans ?_ (Below.mono hB ?_))); all_goals (first | with_reducible exact Nat.le_refl _ | omega | (simp; done) | (simp; omega) | (have := hb3.size; (try simp at this); have := hb2.size; (try simp at this); have := hB.size; (try simp at this); omega) | (have := hb3.size; (try simp at this); have := hb2.size; (try simp at this); have := hB.size; (try simp at this); (try simp); omega)))))).mono ?_; rintro e w4 ⟨rfl, hb4⟩; (have hB4 : Below w.heap.size w w4 := (by focus ((repeat first | with_reducible exact Below.refl _ _ | (with_reducible refine Below.setCell ?_ ?_ _) | (with_reducible refine Below.alloc ?_ ?_ _) | (with_reducible refine below_drewN ?_ _) | (with_reducible refine Below.drew ?_) | (with_reducible refine Below.trans ?_ (Below.mono hb4 ?_)) | (with_reducible refine Below.trans ?_ (Below.mono hb3 ?_)) | (with_reducible refine Below.trans ?_ (Below.mono hb2 ?_)) | (with_reducible refine Below.trans ?_ (Below.mono hB ?_))); all_goals (first | with_reducible exact Nat.le_refl _ | omega | (simp; done) | (simp; omega) | (have := hb4.size; (try simp at this); have := hb3.size; (try simp at this); have := hb2.size; (try simp at this); have := hB.size; (try simp at this); omega) | (have := hb4.size; (try simp at this); have := hb3.size; (try simp at this); have := hb2.size; (try simp at this); have := hB.size; (try simp at this); (try simp); omega))))); (have hz4 : w3.heap.size ≤ w4.heap.size := (by have := hb4.size; (try simp at this); omega)); (have q0 : Box w4 w.heap.size 26 #[.slice A T.length c, .int .i64 lo, .int .i64 hi, .int .i64 turn, .int .i64 slew] := (by focus (apply Box.via; apply Exists.intro; apply And.intro; (repeat first | with_reducible assumption | with_reducible exact Box.new _ _ _ | ((with_reducible apply Box.newAt); focus (simp; done)) | (with_reducible apply Box.drew) | (with_reducible apply Box.drewN) | (with_reducible apply Box.set) | (with_reducible apply Box.alloc) | (with_reducible apply Box.far) | (with_reducible apply Box.below (hb := hb4))); all_goals (first | with_reducible exact Nat.le_refl _ | omega | (simp; done) | (simp; omega) | (have := hb4.size; (try simp at this); omega) | (have := hb4.size; (try simp at this); (try simp); omega))))); (have c00 : (w4).cell? ⟨w.heap.size, 0, none⟩ = some (.slice A T.length c) := q0.cell 0); (have c01 : (w4).cell? ⟨w.heap.size, 1, none⟩ = some (.int .i64 lo) := q0.cell 1); (have c02 : (w4).cell? ⟨w.heap.size, 2, none⟩ = some (.int .i64 hi) := q0.cell 2); (have c03 : (w4).cell? ⟨w.heap.size, 3, none⟩ = some (.int .i64 turn) := q0.cell 3); (have c04 : (w4).cell? ⟨w.heap.size, 4, none⟩ = some (.int .i64 slew) := q0.cell 4); (have hl0 := q0.lt)) | (go_at_call 35; refine (IS.out _ _ _ _ hbl _ (SlI.below hG (by focus ((repeat first | with_reducible exact Below.refl _ _ | (with_reducible refine Below.setCell ?_ ?_ _) | (with_reducible refine Below.alloc ?_ ?_ _) | (with_reducible refine below_drewN ?_ _) | (with_reducible refine Below.drew ?_) | (with_reducible refine Below.trans ?_ (Below.mono hb2 ?_)) | (with_reducible refine Below.trans ?_ (Below.mono hb3 ?_)) | (with_reducible refine Below.trans ?_ (Below.mono hb4 ?_))); all_goals (first | with_reducible exact Nat.le_refl _ | omega | (simp; done) | (simp; omega) | (have := hb2.size; (try simp at this); have := hb3.size; (try simp at this); have := hb4.size; (try simp at this); omega) | (have := hb2.size; (try simp at this); have := hb3.size; (try simp at this); have := hb4.size; (try simp at this); (try simp); omega))))) (SlI.below hF (by focus ((repeat first | with_reducible exact Below.refl _ _ | (with_reducible refine Below.setCell ?_ ?_ _) | (with_reducible refine Below.alloc ?_ ?_ _) | (with_reducible refine below_drewN ?_ _) | (with_reducible refine Below.drew ?_) | (with_reducible refine Below.trans ?_ (Below.mono hb2 ?_)) | (with_reducible refine Below.trans ?_ (Below.mono hb3 ?_)) | (with_reducible refine Below.trans ?_ (Below.mono hb4 ?_))); all_goals (first | with_reducible exact Nat.le_refl _ | omega | (simp; done) | (simp; omega) | (have := hb2.size; (try simp at this); have := hb3.size; (try simp at this); have := hb4.size; (try simp at this); omega) | (have := hb2.size; (try simp at this); have := hb3.size; (try simp at this); have := hb4.size; (try simp at this); (try simp); omega)))))).mono ?_; rintro e w5 ⟨rfl, hb5⟩; (have hB5 : Below w.heap.size w w5 := (by focus ((repeat first | with_reducible exact Below.refl _ _ | (with_reducible refine Below.setCell ?_ ?_ _) | (with_reducible refine Below.alloc ?_ ?_ _) | (with_reducible refine below_drewN ?_ _) | (with_reducible refine Below.drew ?_) | (with_reducible refine Below.trans ?_ (Below.mono hb5 ?_)) | (with_reducible refine Below.trans ?_ (Below.mono hB4 ?_))); all_goals (first | with_reducible exact Nat.le_refl _ | omega | (simp; done) | (simp; omega) | (have := hb5.size; (try simp at this); have := hB4.size; (try simp at this); omega) | (have := hb5.size; (try simp at this); have := hB4.size; (try simp at this); (try simp); omega))))); (have hz5 : w4.heap.size ≤ w5.heap.size := (by have := hb5.size; (try simp at this); omega)); (have q0 : Box w5 w.heap.size 26 #[.slice A T.length c, .int .i64 lo, .int .i64 hi, .int .i64 turn, .int .i64 slew] := (by focus (apply Box.via; apply Exists.intro; apply And.intro; (repeat first | with_reducible assumption | with_reducible exact Box.new _ _ _ | ((with_reducible apply Box.newAt); focus (simp; done)) | (with_reducible apply Box.drew) | (with_reducible apply Box.drewN) | (with_reducible apply Box.set) | (with_reducible apply Box.alloc) | (with_reducible apply Box.far) | (with_reducible apply Box.below (hb := hb5))); all_goals (first | with_reducible exact Nat.le_refl _ | omega | (simp; done) | (simp; omega) | (have := hb5.size; (try simp at this); omega) | (have := hb5.size; (try simp at this); (try simp); omega))))); (have c00 : (w5).cell? ⟨w.heap.size, 0, none⟩ = some (.slice A T.length c) := q0.cell 0); (have c01 : (w5).cell? ⟨w.heap.size, 1, none⟩ = some (.int .i64 lo) := q0.cell 1); (have c02 : (w5).cell? ⟨w.heap.size, 2, none⟩ = some (.int .i64 hi) := q0.cell 2); (have c03 : (w5).cell? ⟨w.heap.size, 3, none⟩ = some (.int .i64 turn) := q0.cell 3); (have c04 : (w5).cell? ⟨w.heap.size, 4, none⟩ = some (.int .i64 slew) := q0.cell 4); (have hl0 := q0.lt)) | (go_at_call 70; refine (CE.out _ (SlI.below HS.out (by focus ((repeat first | with_reducible exact Below.refl _ _ | (with_reducible refine Below.setCell ?_ ?_ _) | (with_reducible refine Below.alloc ?_ ?_ _) | (with_reducible refine below_drewN ?_ _) | (with_reducible refine Below.drew ?_) | (with_reducible refine Below.trans ?_ (Below.mono hB5 ?_))); all_goals (first | with_reducible exact Nat.le_refl _ | omega | (simp; done) | (simp; omega) | (have := hB5.size; (try simp at this); omega) | (have := hB5.size; (try simp at this); (try simp); omega))))) (SlV.below HV.out (by focus ((repeat first | with_reducible exact Below.refl _ _ | (with_reducible refine Below.setCell ?_ ?_ _) | (with_reducible refine Below.alloc ?_ ?_ _) | (with_reducible refine below_drewN ?_ _) | (with_reducible refine Below.drew ?_) | (with_reducible refine Below.trans ?_ (Below.mono hB5 ?_))); all_goals (first | with_reducible exact Nat.le_refl _ | omega | (simp; done) | (simp; omega) | (have := hB5.size; (try simp at this); omega) | (have := hB5.size; (try simp at this); (try simp); omega)))))).mono ?_; rintro e w6 ⟨rfl, hb6⟩) | fail)
                go_ret
                exact ⟨rfl, by focus ((repeat first | with_reducible exact Below.refl _ _ | (with_reducible refine Below.setCell ?_ ?_ _) | (with_reducible refine Below.alloc ?_ ?_ _) | (with_reducible refine below_drewN ?_ _) | (with_reducible refine Below.drew ?_) | (with_reducible refine Below.trans ?_ (Below.mono hb6 ?_)) | (with_reducible refine Below.trans ?_ (Below.mono hB5 ?_))); all_goals (first | with_reducible exact Nat.le_refl _ | omega | (simp; done) | (simp; omega) | (have := hb6.size; (try simp at this); have := hB5.size; (try simp at this); omega) | (have := hb6.size; (try simp at this); have := hB5.size; (try simp at this); (try simp); omega)))⟩

set_option maxHeartbeats 4000000 in
set_option maxRecDepth 100000 in
theorem winchReached_no (T : List Int) (A : Option Addr) (c : Nat) (lo hi turn slew : Int) (xs : List St3) (B : Option Addr) (d : Nat) (w : World) (hk : (chkL T lo hi turn slew).2 ≠ 0) (hn : T.length ≤ 13) (hm : xs.length ≤ 2100) (hT : SlI w A T) (hH : SlV w B (xs.flatMap st3V)) :
    Calls Try.prog 11 #[.agg #[.slice A T.length c, .int .i64 lo, .int .i64 hi, .int .i64 turn, .int .i64 slew], .slice B xs.length d] w fun e w' => e = .returned (.bool true) ∧ Below w.heap.size w w' := by
  have HS := Lib.hid hT
  have HV := Lib.hid hH
  have LE := Lib.hid (fun W h => refLoopErr_r T A c lo hi turn slew W (by omega) h)
  have CL := Lib.hid (fun W h => copyLoop_c T A c lo hi turn slew W (by omega) h)
  have RO := Lib.hid (fun D d W h => reachedBy_no T D d lo hi turn slew W (by omega) h hk)
  have HO := Lib.hid (fun D d W h => holds_no T D d lo hi turn slew W (by omega) h hk)
  have BO := Lib.hid (fun D d W h => brokenBy_no T D d lo hi turn slew W (by omega) h hk)
  have CS := Lib.hid (fun W h => copyStates_r xs B d W (by omega) h)
  have CC0 := fun D d E f W h h' => checkClosed_c T D d lo hi turn slew xs E f W (by omega) h h' (by omega)
  rw [show clsP T lo hi turn slew xs = (0, (chkL T lo hi turn slew).2) from by unfold clsP; rw [if_pos hk]] at CC0
  have CC := Lib.hid CC0
  have e0 : ((chkL T lo hi turn slew).2 != 0) = true := bneT hk
  clear hk hT hH CC0
  generalize chkL T lo hi turn slew = CH at *
  obtain ⟨ch, ce⟩ := CH
  dsimp only at LE e0 RO HO BO CC
  have d1 : decide ((T.length : Int) ≤ 13) = true := decide_eq_true (by omega)
  have d2 : decide ((2100 : Int) < (xs.length : Int)) = false := decide_eq_false (by omega)
  have d3 : decide (2100 < xs.length) = false := decide_eq_false (by omega)
  go_enter Try.func11, Try.ntmps11
  go_upto_region 5 with (first | (go_at_call 15; refine (awake_c _).mono ?_; rintro e w1 ⟨rfl, hb1⟩; (have q0 : Box w1 w.heap.size 26 #[.slice A T.length c, .int .i64 lo, .int .i64 hi, .int .i64 turn, .int .i64 slew] := (by focus (apply Box.via; apply Exists.intro; apply And.intro; (repeat first | with_reducible assumption | with_reducible exact Box.new _ _ _ | ((with_reducible apply Box.newAt); focus (simp; done)) | (with_reducible apply Box.drew) | (with_reducible apply Box.drewN) | (with_reducible apply Box.set) | (with_reducible apply Box.alloc) | (with_reducible apply Box.far) | (with_reducible apply Box.below (hb := hb1))); all_goals (first | with_reducible exact Nat.le_refl _ | omega | (simp; done) | (simp; omega) | (have := hb1.size; (try simp at this); omega) | (have := hb1.size; (try simp at this); (try simp); omega))))); (have c00 : (w1).cell? ⟨w.heap.size, 0, none⟩ = some (.slice A T.length c) := q0.cell 0); (have c01 : (w1).cell? ⟨w.heap.size, 1, none⟩ = some (.int .i64 lo) := q0.cell 1); (have c02 : (w1).cell? ⟨w.heap.size, 2, none⟩ = some (.int .i64 hi) := q0.cell 2); (have c03 : (w1).cell? ⟨w.heap.size, 3, none⟩ = some (.int .i64 turn) := q0.cell 3); (have c04 : (w1).cell? ⟨w.heap.size, 4, none⟩ = some (.int .i64 slew) := q0.cell 4); (have hl0 := q0.lt)) | (go_at_call 16; refine (few_c T A c lo hi turn slew _).mono ?_; rintro e w2 ⟨rfl, hb2⟩; (have q0 : Box w2 w.heap.size 26 #[.slice A T.length c, .int .i64 lo, .int .i64 hi, .int .i64 turn, .int .i64 slew] := (by focus (apply Box.via; apply Exists.intro; apply And.intro; (repeat first | with_reducible assumption | with_reducible exact Box.new _ _ _ | ((with_reducible apply Box.newAt); focus (simp; done)) | (with_reducible apply Box.drew) | (with_reducible apply Box.drewN) | (with_reducible apply Box.set) | (with_reducible apply Box.alloc) | (with_reducible apply Box.far) | (with_reducible apply Box.below (hb := hb2))); all_goals (first | with_reducible exact Nat.le_refl _ | omega | (simp; done) | (simp; omega) | (have := hb2.size; (try simp at this); omega) | (have := hb2.size; (try simp at this); (try simp); omega))))); (have c00 : (w2).cell? ⟨w.heap.size, 0, none⟩ = some (.slice A T.length c) := q0.cell 0); (have c01 : (w2).cell? ⟨w.heap.size, 1, none⟩ = some (.int .i64 lo) := q0.cell 1); (have c02 : (w2).cell? ⟨w.heap.size, 2, none⟩ = some (.int .i64 hi) := q0.cell 2); (have c03 : (w2).cell? ⟨w.heap.size, 3, none⟩ = some (.int .i64 turn) := q0.cell 3); (have c04 : (w2).cell? ⟨w.heap.size, 4, none⟩ = some (.int .i64 slew) := q0.cell 4); (have hl0 := q0.lt)) | fail)
  have hB : Below w.heap.size w w2 := by focus ((repeat first | with_reducible exact Below.refl _ _ | (with_reducible refine Below.setCell ?_ ?_ _) | (with_reducible refine Below.alloc ?_ ?_ _) | (with_reducible refine below_drewN ?_ _) | (with_reducible refine Below.drew ?_) | (with_reducible refine Below.trans ?_ (Below.mono hb2 ?_)) | (with_reducible refine Below.trans ?_ (Below.mono hb1 ?_))); all_goals (first | with_reducible exact Nat.le_refl _ | omega | (simp; done) | (simp; omega) | (have := hb2.size; (try simp at this); have := hb1.size; (try simp at this); omega) | (have := hb2.size; (try simp at this); have := hb1.size; (try simp at this); (try simp); omega)))
  clear hb1 hb2 c00 c01 c02 c03 c04 hl0
  generalize w2 = W5 at *
  go_cut [5, 6] (fun s5 s6 wx => s5 = .slice none 0 0 ∧ s6 = .int .i64 ce ∧ Box wx w.heap.size 26 #[.slice A T.length c, .int .i64 lo, .int .i64 hi, .int .i64 turn, .int .i64 slew] ∧ Below w.heap.size w wx)
  case first => as_aux_lemma =>
    (have c00 : (W5).cell? ⟨w.heap.size, 0, none⟩ = some (.slice A T.length c) := q0.cell 0); (have c01 : (W5).cell? ⟨w.heap.size, 1, none⟩ = some (.int .i64 lo) := q0.cell 1); (have c02 : (W5).cell? ⟨w.heap.size, 2, none⟩ = some (.int .i64 hi) := q0.cell 2); (have c03 : (W5).cell? ⟨w.heap.size, 3, none⟩ = some (.int .i64 turn) := q0.cell 3); (have c04 : (W5).cell? ⟨w.heap.size, 4, none⟩ = some (.int .i64 slew) := q0.cell 4); (have hl0 := q0.lt)
    go_wp2_with (first | (go_at_call 18; refine (CL.out _ (SlI.below HS.out (by focus ((repeat first | with_reducible exact Below.refl _ _ | (with_reducible refine Below.setCell ?_ ?_ _) | (with_reducible refine Below.alloc ?_ ?_ _) | (with_reducible refine below_drewN ?_ _) | (with_reducible refine Below.drew ?_) | (with_reducible refine Below.trans ?_ (Below.mono hB ?_))); all_goals (first | with_reducible exact Nat.le_refl _ | omega | (simp; done) | (simp; omega) | (have := hB.size; (try simp at this); omega) | (have := hB.size; (try simp at this); (try simp); omega)))))).mono ?_; rintro e w2 ⟨D2, d2, rfl, hD2, hb2⟩) | (go_at_call 22; refine (RO.out _ _ _ (SlI.below hD2 (by focus ((repeat first | with_reducible exact Below.refl _ _ | (with_reducible refine Below.setCell ?_ ?_ _) | (with_reducible refine Below.alloc ?_ ?_ _) | (with_reducible refine below_drewN ?_ _) | (with_reducible refine Below.drew ?_)); all_goals (first | with_reducible exact Nat.le_refl _ | omega | (simp; done) | (simp; omega) | (omega) | ((try simp); omega)))))).mono ?_; rintro e w3 ⟨rfl, hb3⟩) | fail)
    go_meet
    refine ⟨rfl, rfl, ?_, ?_⟩
    all_goals first | (focus (apply Box.via; apply Exists.intro; apply And.intro; (repeat first | with_reducible assumption | with_reducible exact Box.new _ _ _ | ((with_reducible apply Box.newAt); focus (simp; done)) | (with_reducible apply Box.drew) | (with_reducible apply Box.drewN) | (with_reducible apply Box.set) | (with_reducible apply Box.alloc) | (with_reducible apply Box.far) | (with_reducible apply Box.below (hb := hb2)) | (with_reducible apply Box.below (hb := hb3))); all_goals (first | with_reducible exact Nat.le_refl _ | omega | (simp; done) | (simp; omega) | (have := hb2.size; (try simp at this); have := hb3.size; (try simp at this); omega) | (have := hb2.size; (try simp at this); have := hb3.size; (try simp at this); (try simp); omega)))) | (focus ((repeat first | with_reducible exact Below.refl _ _ | (with_reducible refine Below.setCell ?_ ?_ _) | (with_reducible refine Below.alloc ?_ ?_ _) | (with_reducible refine below_drewN ?_ _) | (with_reducible refine Below.drew ?_) | (with_reducible refine Below.trans ?_ (Below.mono hb2 ?_)) | (with_reducible refine Below.trans ?_ (Below.mono hb3 ?_)) | (with_reducible refine Below.trans ?_ (Below.mono hB ?_))); all_goals (first | with_reducible exact Nat.le_refl _ | omega | (simp; done) | (simp; omega) | (have := hb2.size; (try simp at this); have := hb3.size; (try simp at this); have := hB.size; (try simp at this); omega) | (have := hb2.size; (try simp at this); have := hb3.size; (try simp at this); have := hB.size; (try simp at this); (try simp); omega))))
  case rest =>
    obtain ⟨rfl, rfl, q0', hB'⟩ := hcut
    (clear q0 hB; have q0 := q0'; have hB := hB'; clear q0' hB'; generalize wc = W5 at *)
    go_upto_region 6 with fail
    go_cut [7, 8] (fun s7 s8 wx => s7 = .bool false ∧ s8 = .int .i64 ce ∧ Box wx w.heap.size 26 #[.slice A T.length c, .int .i64 lo, .int .i64 hi, .int .i64 turn, .int .i64 slew] ∧ Below w.heap.size w wx)
    case first => as_aux_lemma =>
      (have c00 : (W5).cell? ⟨w.heap.size, 0, none⟩ = some (.slice A T.length c) := q0.cell 0); (have c01 : (W5).cell? ⟨w.heap.size, 1, none⟩ = some (.int .i64 lo) := q0.cell 1); (have c02 : (W5).cell? ⟨w.heap.size, 2, none⟩ = some (.int .i64 hi) := q0.cell 2); (have c03 : (W5).cell? ⟨w.heap.size, 3, none⟩ = some (.int .i64 turn) := q0.cell 3); (have c04 : (W5).cell? ⟨w.heap.size, 4, none⟩ = some (.int .i64 slew) := q0.cell 4); (have hl0 := q0.lt)
      go_wp2_with (first | (go_at_call 18; refine (CL.out _ (SlI.below HS.out (by focus ((repeat first | with_reducible exact Below.refl _ _ | (with_reducible refine Below.setCell ?_ ?_ _) | (with_reducible refine Below.alloc ?_ ?_ _) | (with_reducible refine below_drewN ?_ _) | (with_reducible refine Below.drew ?_) | (with_reducible refine Below.trans ?_ (Below.mono hB ?_))); all_goals (first | with_reducible exact Nat.le_refl _ | omega | (simp; done) | (simp; omega) | (have := hB.size; (try simp at this); omega) | (have := hB.size; (try simp at this); (try simp); omega)))))).mono ?_; rintro e w2 ⟨D2, d2, rfl, hD2, hb2⟩) | (go_at_call 20; refine (HO.out _ _ _ (SlI.below hD2 (by focus ((repeat first | with_reducible exact Below.refl _ _ | (with_reducible refine Below.setCell ?_ ?_ _) | (with_reducible refine Below.alloc ?_ ?_ _) | (with_reducible refine below_drewN ?_ _) | (with_reducible refine Below.drew ?_)); all_goals (first | with_reducible exact Nat.le_refl _ | omega | (simp; done) | (simp; omega) | (omega) | ((try simp); omega)))))).mono ?_; rintro e w3 ⟨rfl, hb3⟩) | fail)
      go_meet
      refine ⟨rfl, rfl, ?_, ?_⟩
      all_goals first | (focus (apply Box.via; apply Exists.intro; apply And.intro; (repeat first | with_reducible assumption | with_reducible exact Box.new _ _ _ | ((with_reducible apply Box.newAt); focus (simp; done)) | (with_reducible apply Box.drew) | (with_reducible apply Box.drewN) | (with_reducible apply Box.set) | (with_reducible apply Box.alloc) | (with_reducible apply Box.far) | (with_reducible apply Box.below (hb := hb2)) | (with_reducible apply Box.below (hb := hb3))); all_goals (first | with_reducible exact Nat.le_refl _ | omega | (simp; done) | (simp; omega) | (have := hb2.size; (try simp at this); have := hb3.size; (try simp at this); omega) | (have := hb2.size; (try simp at this); have := hb3.size; (try simp at this); (try simp); omega)))) | (focus ((repeat first | with_reducible exact Below.refl _ _ | (with_reducible refine Below.setCell ?_ ?_ _) | (with_reducible refine Below.alloc ?_ ?_ _) | (with_reducible refine below_drewN ?_ _) | (with_reducible refine Below.drew ?_) | (with_reducible refine Below.trans ?_ (Below.mono hb2 ?_)) | (with_reducible refine Below.trans ?_ (Below.mono hb3 ?_)) | (with_reducible refine Below.trans ?_ (Below.mono hB ?_))); all_goals (first | with_reducible exact Nat.le_refl _ | omega | (simp; done) | (simp; omega) | (have := hb2.size; (try simp at this); have := hb3.size; (try simp at this); have := hB.size; (try simp at this); omega) | (have := hb2.size; (try simp at this); have := hb3.size; (try simp at this); have := hB.size; (try simp at this); (try simp); omega))))
    case rest =>
      obtain ⟨rfl, rfl, q0', hB'⟩ := hcut
      (clear q0 hB; have q0 := q0'; have hB := hB'; clear q0' hB'; generalize wc = W5 at *)
      go_upto_region 7 with fail
      go_cut [9, 10] (fun s9 s10 wx => s9 = .slice none 0 0 ∧ s10 = .int .i64 ce ∧ Box wx w.heap.size 26 #[.slice A T.length c, .int .i64 lo, .int .i64 hi, .int .i64 turn, .int .i64 slew] ∧ Below w.heap.size w wx)
      case first => as_aux_lemma =>
        (have c00 : (W5).cell? ⟨w.heap.size, 0, none⟩ = some (.slice A T.length c) := q0.cell 0); (have c01 : (W5).cell? ⟨w.heap.size, 1, none⟩ = some (.int .i64 lo) := q0.cell 1); (have c02 : (W5).cell? ⟨w.heap.size, 2, none⟩ = some (.int .i64 hi) := q0.cell 2); (have c03 : (W5).cell? ⟨w.heap.size, 3, none⟩ = some (.int .i64 turn) := q0.cell 3); (have c04 : (W5).cell? ⟨w.heap.size, 4, none⟩ = some (.int .i64 slew) := q0.cell 4); (have hl0 := q0.lt)
        go_wp2_with (first | (go_at_call 18; refine (CL.out _ (SlI.below HS.out (by focus ((repeat first | with_reducible exact Below.refl _ _ | (with_reducible refine Below.setCell ?_ ?_ _) | (with_reducible refine Below.alloc ?_ ?_ _) | (with_reducible refine below_drewN ?_ _) | (with_reducible refine Below.drew ?_) | (with_reducible refine Below.trans ?_ (Below.mono hB ?_))); all_goals (first | with_reducible exact Nat.le_refl _ | omega | (simp; done) | (simp; omega) | (have := hB.size; (try simp at this); omega) | (have := hB.size; (try simp at this); (try simp); omega)))))).mono ?_; rintro e w2 ⟨D2, d2, rfl, hD2, hb2⟩) | (go_at_call 21; refine (BO.out _ _ _ (SlI.below hD2 (by focus ((repeat first | with_reducible exact Below.refl _ _ | (with_reducible refine Below.setCell ?_ ?_ _) | (with_reducible refine Below.alloc ?_ ?_ _) | (with_reducible refine below_drewN ?_ _) | (with_reducible refine Below.drew ?_)); all_goals (first | with_reducible exact Nat.le_refl _ | omega | (simp; done) | (simp; omega) | (omega) | ((try simp); omega)))))).mono ?_; rintro e w3 ⟨rfl, hb3⟩) | fail)
        go_meet
        refine ⟨rfl, rfl, ?_, ?_⟩
        all_goals first | (focus (apply Box.via; apply Exists.intro; apply And.intro; (repeat first | with_reducible assumption | with_reducible exact Box.new _ _ _ | ((with_reducible apply Box.newAt); focus (simp; done)) | (with_reducible apply Box.drew) | (with_reducible apply Box.drewN) | (with_reducible apply Box.set) | (with_reducible apply Box.alloc) | (with_reducible apply Box.far) | (with_reducible apply Box.below (hb := hb2)) | (with_reducible apply Box.below (hb := hb3))); all_goals (first | with_reducible exact Nat.le_refl _ | omega | (simp; done) | (simp; omega) | (have := hb2.size; (try simp at this); have := hb3.size; (try simp at this); omega) | (have := hb2.size; (try simp at this); have := hb3.size; (try simp at this); (try simp); omega)))) | (focus ((repeat first | with_reducible exact Below.refl _ _ | (with_reducible refine Below.setCell ?_ ?_ _) | (with_reducible refine Below.alloc ?_ ?_ _) | (with_reducible refine below_drewN ?_ _) | (with_reducible refine Below.drew ?_) | (with_reducible refine Below.trans ?_ (Below.mono hb2 ?_)) | (with_reducible refine Below.trans ?_ (Below.mono hb3 ?_)) | (with_reducible refine Below.trans ?_ (Below.mono hB ?_))); all_goals (first | with_reducible exact Nat.le_refl _ | omega | (simp; done) | (simp; omega) | (have := hb2.size; (try simp at this); have := hb3.size; (try simp at this); have := hB.size; (try simp at this); omega) | (have := hb2.size; (try simp at this); have := hb3.size; (try simp at this); have := hB.size; (try simp at this); (try simp); omega))))
      case rest =>
        obtain ⟨rfl, rfl, q0', hB'⟩ := hcut
        (clear q0 hB; have q0 := q0'; have hB := hB'; clear q0' hB'; generalize wc = W5 at *)
        go_upto_region 8 with fail
        go_cut [11, 12] (fun s11 s12 wx => s11 = .int .i64 0 ∧ s12 = .int .i64 ce ∧ Box wx w.heap.size 26 #[.slice A T.length c, .int .i64 lo, .int .i64 hi, .int .i64 turn, .int .i64 slew] ∧ Below w.heap.size w wx)
        case first => as_aux_lemma =>
          (have c00 : (W5).cell? ⟨w.heap.size, 0, none⟩ = some (.slice A T.length c) := q0.cell 0); (have c01 : (W5).cell? ⟨w.heap.size, 1, none⟩ = some (.int .i64 lo) := q0.cell 1); (have c02 : (W5).cell? ⟨w.heap.size, 2, none⟩ = some (.int .i64 hi) := q0.cell 2); (have c03 : (W5).cell? ⟨w.heap.size, 3, none⟩ = some (.int .i64 turn) := q0.cell 3); (have c04 : (W5).cell? ⟨w.heap.size, 4, none⟩ = some (.int .i64 slew) := q0.cell 4); (have hl0 := q0.lt)
          go_wp2_with (first | (go_at_call 18; refine (CL.out _ (SlI.below HS.out (by focus ((repeat first | with_reducible exact Below.refl _ _ | (with_reducible refine Below.setCell ?_ ?_ _) | (with_reducible refine Below.alloc ?_ ?_ _) | (with_reducible refine below_drewN ?_ _) | (with_reducible refine Below.drew ?_) | (with_reducible refine Below.trans ?_ (Below.mono hB ?_))); all_goals (first | with_reducible exact Nat.le_refl _ | omega | (simp; done) | (simp; omega) | (have := hB.size; (try simp at this); omega) | (have := hB.size; (try simp at this); (try simp); omega)))))).mono ?_; rintro e w2 ⟨D2, d2, rfl, hD2, hb2⟩) | (go_at_call 66; refine (CS.out _ (SlV.below HV.out (by focus ((repeat first | with_reducible exact Below.refl _ _ | (with_reducible refine Below.setCell ?_ ?_ _) | (with_reducible refine Below.alloc ?_ ?_ _) | (with_reducible refine below_drewN ?_ _) | (with_reducible refine Below.drew ?_) | (with_reducible refine Below.trans ?_ (Below.mono hb2 ?_)) | (with_reducible refine Below.trans ?_ (Below.mono hB ?_))); all_goals (first | with_reducible exact Nat.le_refl _ | omega | (simp; done) | (simp; omega) | (have := hb2.size; (try simp at this); have := hB.size; (try simp at this); omega) | (have := hb2.size; (try simp at this); have := hB.size; (try simp at this); (try simp); omega)))))).mono ?_; rintro e w3 ⟨D3, d3, rfl, hD3, hb3⟩) | (go_at_call 65; refine (CC.out _ _ _ _ _ (SlI.below hD2 (by focus ((repeat first | with_reducible exact Below.refl _ _ | (with_reducible refine Below.setCell ?_ ?_ _) | (with_reducible refine Below.alloc ?_ ?_ _) | (with_reducible refine below_drewN ?_ _) | (with_reducible refine Below.drew ?_) | (with_reducible refine Below.trans ?_ (Below.mono hb3 ?_))); all_goals (first | with_reducible exact Nat.le_refl _ | omega | (simp; done) | (simp; omega) | (have := hb3.size; (try simp at this); omega) | (have := hb3.size; (try simp at this); (try simp); omega))))) (SlV.below hD3 (by focus ((repeat first | with_reducible exact Below.refl _ _ | (with_reducible refine Below.setCell ?_ ?_ _) | (with_reducible refine Below.alloc ?_ ?_ _) | (with_reducible refine below_drewN ?_ _) | (with_reducible refine Below.drew ?_)); all_goals (first | with_reducible exact Nat.le_refl _ | omega | (simp; done) | (simp; omega) | (omega) | ((try simp); omega)))))).mono ?_; rintro e w4 ⟨rfl, hb4⟩) | fail)
          go_meet
          refine ⟨rfl, rfl, ?_, ?_⟩
          all_goals first | (focus (apply Box.via; apply Exists.intro; apply And.intro; (repeat first | with_reducible assumption | with_reducible exact Box.new _ _ _ | ((with_reducible apply Box.newAt); focus (simp; done)) | (with_reducible apply Box.drew) | (with_reducible apply Box.drewN) | (with_reducible apply Box.set) | (with_reducible apply Box.alloc) | (with_reducible apply Box.far) | (with_reducible apply Box.below (hb := hb2)) | (with_reducible apply Box.below (hb := hb3)) | (with_reducible apply Box.below (hb := hb4))); all_goals (first | with_reducible exact Nat.le_refl _ | omega | (simp; done) | (simp; omega) | (have := hb2.size; (try simp at this); have := hb3.size; (try simp at this); have := hb4.size; (try simp at this); omega) | (have := hb2.size; (try simp at this); have := hb3.size; (try simp at this); have := hb4.size; (try simp at this); (try simp); omega)))) | (focus ((repeat first | with_reducible exact Below.refl _ _ | (with_reducible refine Below.setCell ?_ ?_ _) | (with_reducible refine Below.alloc ?_ ?_ _) | (with_reducible refine below_drewN ?_ _) | (with_reducible refine Below.drew ?_) | (with_reducible refine Below.trans ?_ (Below.mono hb2 ?_)) | (with_reducible refine Below.trans ?_ (Below.mono hb3 ?_)) | (with_reducible refine Below.trans ?_ (Below.mono hb4 ?_)) | (with_reducible refine Below.trans ?_ (Below.mono hB ?_))); all_goals (first | with_reducible exact Nat.le_refl _ | omega | (simp; done) | (simp; omega) | (have := hb2.size; (try simp at this); have := hb3.size; (try simp at this); have := hb4.size; (try simp at this); have := hB.size; (try simp at this); omega) | (have := hb2.size; (try simp at this); have := hb3.size; (try simp at this); have := hb4.size; (try simp at this); have := hB.size; (try simp at this); (try simp); omega))))
        case rest =>
          obtain ⟨rfl, rfl, q0', hB'⟩ := hcut
          (clear q0 hB; have q0 := q0'; have hB := hB'; clear q0' hB'; generalize wc = W5 at *)
          (have c00 : (W5).cell? ⟨w.heap.size, 0, none⟩ = some (.slice A T.length c) := q0.cell 0); (have c01 : (W5).cell? ⟨w.heap.size, 1, none⟩ = some (.int .i64 lo) := q0.cell 1); (have c02 : (W5).cell? ⟨w.heap.size, 2, none⟩ = some (.int .i64 hi) := q0.cell 2); (have c03 : (W5).cell? ⟨w.heap.size, 3, none⟩ = some (.int .i64 turn) := q0.cell 3); (have c04 : (W5).cell? ⟨w.heap.size, 4, none⟩ = some (.int .i64 slew) := q0.cell 4); (have hl0 := q0.lt)
          go_wp2_with (first | (go_at_call 17; refine (LE.out _ (SlI.below HS.out (by focus ((repeat first | with_reducible exact Below.refl _ _ | (with_reducible refine Below.setCell ?_ ?_ _) | (with_reducible refine Below.alloc ?_ ?_ _) | (with_reducible refine below_drewN ?_ _) | (with_reducible refine Below.drew ?_) | (with_reducible refine Below.trans ?_ (Below.mono hB ?_))); all_goals (first | with_reducible exact Nat.le_refl _ | omega | (simp; done) | (simp; omega) | (have := hB.size; (try simp at this); omega) | (have := hB.size; (try simp at this); (try simp); omega)))))).mono ?_; rintro e w2 ⟨rfl, hb2⟩) | fail)
          go_ret
          exact ⟨rfl, by focus ((repeat first | with_reducible exact Below.refl _ _ | (with_reducible refine Below.setCell ?_ ?_ _) | (with_reducible refine Below.alloc ?_ ?_ _) | (with_reducible refine below_drewN ?_ _) | (with_reducible refine Below.drew ?_) | (with_reducible refine Below.trans ?_ (Below.mono hb2 ?_)) | (with_reducible refine Below.trans ?_ (Below.mono hB ?_))); all_goals (first | with_reducible exact Nat.le_refl _ | omega | (simp; done) | (simp; omega) | (have := hb2.size; (try simp at this); have := hB.size; (try simp at this); omega) | (have := hb2.size; (try simp at this); have := hB.size; (try simp at this); (try simp); omega)))⟩

set_option maxHeartbeats 1000000 in
set_option maxRecDepth 100000 in
theorem winchReached_early (T : List Int) (A : Option Addr) (c : Nat) (lo hi turn slew : Int) (xs : List St3) (B : Option Addr) (d : Nat) (w : World) (hn : T.length ≤ 9223372036854775807) (hm : xs.length ≤ 9223372036854775807) (h : 13 < T.length ∨ 2100 < xs.length) :
    Calls Try.prog 11 #[.agg #[.slice A T.length c, .int .i64 lo, .int .i64 hi, .int .i64 turn, .int .i64 slew], .slice B xs.length d] w fun e w' => e = .returned (.bool true) ∧ Below w.heap.size w w' := by
  by_cases h1 : 13 < T.length
  · have d1 : decide ((T.length : Int) ≤ 13) = false := decide_eq_false (by omega)
    go_enter Try.func11, Try.ntmps11
    go_wp2_with (first | (go_at_call 15; refine (awake_c _).mono ?_; rintro e w1 ⟨rfl, hb1⟩; (have q0 : Box w1 w.heap.size 26 #[.slice A T.length c, .int .i64 lo, .int .i64 hi, .int .i64 turn, .int .i64 slew] := (by focus (apply Box.via; apply Exists.intro; apply And.intro; (repeat first | with_reducible assumption | with_reducible exact Box.new _ _ _ | ((with_reducible apply Box.newAt); focus (simp; done)) | (with_reducible apply Box.drew) | (with_reducible apply Box.drewN) | (with_reducible apply Box.set) | (with_reducible apply Box.alloc) | (with_reducible apply Box.far) | (with_reducible apply Box.below (hb := hb1))); all_goals (first | with_reducible exact Nat.le_refl _ | omega | (simp; done) | (simp; omega) | (have := hb1.size; (try simp at this); omega) | (have := hb1.size; (try simp at this); (try simp); omega))))); (have c00 : (w1).cell? ⟨w.heap.size, 0, none⟩ = some (.slice A T.length c) := q0.cell 0); (have c01 : (w1).cell? ⟨w.heap.size, 1, none⟩ = some (.int .i64 lo) := q0.cell 1); (have c02 : (w1).cell? ⟨w.heap.size, 2, none⟩ = some (.int .i64 hi) := q0.cell 2); (have c03 : (w1).cell? ⟨w.heap.size, 3, none⟩ = some (.int .i64 turn) := q0.cell 3); (have c04 : (w1).cell? ⟨w.heap.size, 4, none⟩ = some (.int .i64 slew) := q0.cell 4); (have hl0 := q0.lt)) | (go_at_call 16; refine (few_c T A c lo hi turn slew _).mono ?_; rintro e w2 ⟨rfl, hb2⟩) | fail)
    go_ret
    exact ⟨rfl, by focus ((repeat first | with_reducible exact Below.refl _ _ | (with_reducible refine Below.setCell ?_ ?_ _) | (with_reducible refine Below.alloc ?_ ?_ _) | (with_reducible refine below_drewN ?_ _) | (with_reducible refine Below.drew ?_) | (with_reducible refine Below.trans ?_ (Below.mono hb2 ?_)) | (with_reducible refine Below.trans ?_ (Below.mono hb1 ?_))); all_goals (first | with_reducible exact Nat.le_refl _ | omega | (simp; done) | (simp; omega) | (have := hb2.size; (try simp at this); have := hb1.size; (try simp at this); omega) | (have := hb2.size; (try simp at this); have := hb1.size; (try simp at this); (try simp); omega)))⟩
  · have h2 := h.resolve_left h1
    have d1 : decide ((T.length : Int) ≤ 13) = true := decide_eq_true (by omega)
    have d2 : decide ((2100 : Int) < (xs.length : Int)) = true := decide_eq_true (by omega)
    have d3 : decide (2100 < xs.length) = true := decide_eq_true h2
    go_enter Try.func11, Try.ntmps11
    go_wp2_with (first | (go_at_call 15; refine (awake_c _).mono ?_; rintro e w1 ⟨rfl, hb1⟩; (have q0 : Box w1 w.heap.size 26 #[.slice A T.length c, .int .i64 lo, .int .i64 hi, .int .i64 turn, .int .i64 slew] := (by focus (apply Box.via; apply Exists.intro; apply And.intro; (repeat first | with_reducible assumption | with_reducible exact Box.new _ _ _ | ((with_reducible apply Box.newAt); focus (simp; done)) | (with_reducible apply Box.drew) | (with_reducible apply Box.drewN) | (with_reducible apply Box.set) | (with_reducible apply Box.alloc) | (with_reducible apply Box.far) | (with_reducible apply Box.below (hb := hb1))); all_goals (first | with_reducible exact Nat.le_refl _ | omega | (simp; done) | (simp; omega) | (have := hb1.size; (try simp at this); omega) | (have := hb1.size; (try simp at this); (try simp); omega))))); (have c00 : (w1).cell? ⟨w.heap.size, 0, none⟩ = some (.slice A T.length c) := q0.cell 0); (have c01 : (w1).cell? ⟨w.heap.size, 1, none⟩ = some (.int .i64 lo) := q0.cell 1); (have c02 : (w1).cell? ⟨w.heap.size, 2, none⟩ = some (.int .i64 hi) := q0.cell 2); (have c03 : (w1).cell? ⟨w.heap.size, 3, none⟩ = some (.int .i64 turn) := q0.cell 3); (have c04 : (w1).cell? ⟨w.heap.size, 4, none⟩ = some (.int .i64 slew) := q0.cell 4); (have hl0 := q0.lt)) | (go_at_call 16; refine (few_c T A c lo hi turn slew _).mono ?_; rintro e w2 ⟨rfl, hb2⟩) | fail)
    go_ret
    exact ⟨rfl, by focus ((repeat first | with_reducible exact Below.refl _ _ | (with_reducible refine Below.setCell ?_ ?_ _) | (with_reducible refine Below.alloc ?_ ?_ _) | (with_reducible refine below_drewN ?_ _) | (with_reducible refine Below.drew ?_) | (with_reducible refine Below.trans ?_ (Below.mono hb2 ?_)) | (with_reducible refine Below.trans ?_ (Below.mono hb1 ?_))); all_goals (first | with_reducible exact Nat.le_refl _ | omega | (simp; done) | (simp; omega) | (have := hb2.size; (try simp at this); have := hb1.size; (try simp at this); omega) | (have := hb2.size; (try simp at this); have := hb1.size; (try simp at this); (try simp); omega)))⟩

theorem winchReached_l (T : List Int) (A : Option Addr) (c : Nat) (lo hi turn slew : Int) (xs : List St3) (B : Option Addr) (d : Nat) (w : World) (hn : T.length ≤ 9223372036854775807) (hT : SlI w A T) (hm : xs.length ≤ 9223372036854775807) (hH : SlV w B (xs.flatMap st3V)) :
    Calls Try.prog 11 #[.agg #[.slice A T.length c, .int .i64 lo, .int .i64 hi, .int .i64 turn, .int .i64 slew], .slice B xs.length d] w fun e w' => e = .returned (.bool true) ∧ Below w.heap.size w w' := by
  by_cases h : 13 < T.length ∨ 2100 < xs.length
  · exact winchReached_early T A c lo hi turn slew xs B d w hn hm h
  · by_cases hk : (chkL T lo hi turn slew).2 = 0
    · exact winchReached_in T A c lo hi turn slew xs B d w hk (by omega) hT hH
    · exact winchReached_no T A c lo hi turn slew xs B d w hk (by omega) (by omega) hT hH

end Go.Proofs.Ytgbckdmhmkpahaa

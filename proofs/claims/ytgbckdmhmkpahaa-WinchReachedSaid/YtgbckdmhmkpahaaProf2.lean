/-
  The walk of the program's ProfileFor (chapter 2).
-/
import Derived.Test.YtgbckdmhmkpahaaProf
import Derived.Test.YtgbckdmhmkpahaaWay
import Derived.Deep.DeepCutAuto
set_option linter.unusedVariables false
namespace Go.Proofs.Ytgbckdmhmkpahaa
open Go.RowKit Go.Shelf

/-- The greatest speed, from v down, after which the rest is not too little. -/
def vFind (st d : Int) (left : Nat) : Nat → Nat
  | 0 => 0
  | v + 1 => if d - ((v : Int) + 1) < nearTo st ((v : Int) + 1) left then vFind st d left v else v + 1
def vTop (sp st last : Int) (n : Nat) : Nat := (min sp (min (last + st) (((n : Int) + 1) * st))).toNat
def profP (sp st : Int) : Nat → Int → Int → List Int
  | 0, _, _ => []
  | n + 1, last, d => (vFind st d n (vTop sp st last n) : Int) :: profP sp st n (vFind st d n (vTop sp st last n)) (d - vFind st d n (vTop sp st last n))
theorem vFind_le (st d : Int) (left : Nat) : ∀ v, vFind st d left v ≤ v
  | 0 => Nat.le_refl _
  | v + 1 => by
    unfold vFind
    split
    · exact Nat.le_trans (vFind_le st d left v) (Nat.le_succ v)
    · exact Nat.le_refl _
theorem tickFrom_ok (sp st d : Int) : ∀ (f k : Nat), (tickFrom sp st d f k).2 = 0 → ∃ n : Nat, (tickFrom sp st d f k).1 = n ∧ n < k + f
  | 0, k, h => by simp [tickFrom] at h
  | f + 1, k, h => by
    unfold tickFrom at h ⊢
    split
    · exact ⟨k, rfl, by omega⟩
    · rename_i h1
      rw [if_neg h1] at h
      obtain ⟨n, h2, h3⟩ := tickFrom_ok sp st d f (k + 1) h
      exact ⟨n, h2, by omega⟩
/-- What ProfileFor answers. -/
def prfE (sp st d : Int) : Int := (tksP sp st d).2
def prfL (sp st d : Int) : List Int := if prfE sp st d ≠ 0 then [] else profP sp st (tksP sp st d).1.toNat 0 d

set_option maxHeartbeats 2000000 in
set_option maxRecDepth 100000 in
theorem profileFor_no (sp st d : Int) (w : World) (he : prfE sp st d ≠ 0) :
    Calls Try.prog 30 #[.agg #[.int .i64 sp, .int .i64 st], .int .i64 d] w fun e w' => e = .returned (.tuple #[.slice none 0 0, .int .i64 (prfE sp st d)]) ∧ Below w.heap.size w w' := by
  have F := Lib.hid (show tkE sp st d = fstE [limE sp st, dstE d] from rfl)
  by_cases hk : tkE sp st d = 0
  · have R := Lib.hid (show prfE sp st d = (tickP sp st d).2 by unfold prfE tksP; rw [if_neg (by simpa using hk)])
    obtain ⟨k1, k2⟩ := tkE_ok hk
    obtain ⟨i1, i2⟩ := limE_ok k1
    have G := Lib.hid (fun W => ticksFor_c sp st d W (by omega) (by omega))
    have f0 : fstE [limE sp st, dstE d] = 0 := by rw [← F.out]; exact hk
    have f1 : ((tickP sp st d).2 != 0) = true := bneT (by rw [← R.out]; exact he)
    clear he k1 k2
    go_enter Try.func30, Try.ntmps30
    go_wp2_with (first | (go_at_call 90; refine (limitsErr_c _ _ _).mono ?_; rintro e w1 ⟨rfl, hb1⟩; obtain ⟨hc1, hf1⟩ := bcell hb1; have hz1 : w.heap.size < w1.heap.size := by have := hb1.size; (try simp at this); omega) | (go_at_call 93; refine (distanceErr_c _ _).mono ?_; rintro e w' ⟨rfl, rfl⟩) | (go_at_call 84; refine (first2_c _ _ _ _).mono ?_; rintro e w' ⟨rfl, rfl⟩) | (go_at_call 94; refine (G.out _).mono ?_; rintro e w2 ⟨rfl, hb2⟩; obtain ⟨hc2, hf2⟩ := bcell hb2; have hz2 : w.heap.size < w2.heap.size := by have := hb2.size; (try simp at this); omega))
    go_ret2
    exact ⟨ret_t2 rfl (vint (by rw [R.out])), by focus ((repeat first | with_reducible exact Below.refl _ _ | (with_reducible refine Below.setCell ?_ ?_ _) | (with_reducible refine Below.alloc ?_ ?_ _) | (with_reducible refine below_drewN ?_ _) | (with_reducible refine Below.drew ?_) | (with_reducible refine Below.trans ?_ (Below.mono hb1 ?_)) | (with_reducible refine Below.trans ?_ (Below.mono hb2 ?_))); all_goals (first | with_reducible exact Nat.le_refl _ | omega | (simp; done) | (simp; omega) | (have := hb1.size; (try simp at this); have := hb2.size; (try simp at this); omega) | (have := hb1.size; (try simp at this); have := hb2.size; (try simp at this); (try simp); omega)))⟩
  · have R := Lib.hid (show prfE sp st d = tkE sp st d by unfold prfE tksP; rw [if_pos hk])
    have f1 : (fstE [limE sp st, dstE d] != 0) = true := bneT (by rw [← F.out]; exact hk)
    clear he hk
    go_enter Try.func30, Try.ntmps30
    go_wp2_with (first | (go_at_call 90; refine (limitsErr_c _ _ _).mono ?_; rintro e w1 ⟨rfl, hb1⟩; obtain ⟨hc1, hf1⟩ := bcell hb1; have hz1 : w.heap.size < w1.heap.size := by have := hb1.size; (try simp at this); omega) | (go_at_call 93; refine (distanceErr_c _ _).mono ?_; rintro e w' ⟨rfl, rfl⟩) | (go_at_call 84; refine (first2_c _ _ _ _).mono ?_; rintro e w' ⟨rfl, rfl⟩))
    go_ret2
    exact ⟨ret_t2 rfl (vint (by rw [R.out, F.out])), by focus ((repeat first | with_reducible exact Below.refl _ _ | (with_reducible refine Below.setCell ?_ ?_ _) | (with_reducible refine Below.alloc ?_ ?_ _) | (with_reducible refine below_drewN ?_ _) | (with_reducible refine Below.drew ?_) | (with_reducible refine Below.trans ?_ (Below.mono hb1 ?_))); all_goals (first | with_reducible exact Nat.le_refl _ | omega | (simp; done) | (simp; omega) | (have := hb1.size; (try simp at this); omega) | (have := hb1.size; (try simp at this); (try simp); omega)))⟩

theorem vTop_bd {sp st last : Int} {n : Nat} (h1 : 0 ≤ sp ∧ sp ≤ 100) : vTop sp st last n ≤ 100 := by unfold vTop; omega

set_option maxHeartbeats 4000000 in
set_option maxRecDepth 100000 in
theorem profileFor_yes (sp st d : Int) (w : World) (he : prfE sp st d = 0) :
    Calls Try.prog 30 #[.agg #[.int .i64 sp, .int .i64 st], .int .i64 d] w fun e w' => ∃ v, e = .returned (.tuple #[v, .int .i64 0]) ∧ w'.ownsRow w.heap.size 3 1 v (prfL sp st d).length ((prfL sp st d).map (Value.int .i64)) ∧ Below w.heap.size w w' := by
  obtain ⟨i0, hi0, hz0, hz1, hz2⟩ := info_parts A.infoI
  have F := Lib.hid (show tkE sp st d = fstE [limE sp st, dstE d] from rfl)
  have hk : tkE sp st d = 0 := by
    by_cases h : tkE sp st d = 0
    · exact h
    · have : prfE sp st d = tkE sp st d := by unfold prfE tksP; rw [if_pos h]
      rw [this] at he; exact he
  have e1 : tksP sp st d = tickP sp st d := by unfold tksP; rw [if_neg (by simpa using hk)]
  obtain ⟨k1, k2⟩ := tkE_ok hk
  obtain ⟨i1, i2⟩ := limE_ok k1
  have i3 := dstE_ok k2
  have G := Lib.hid (fun W => ticksFor_c sp st d W (by omega) (by omega))
  have f0 : fstE [limE sp st, dstE d] = 0 := by rw [← F.out]; exact hk
  have e2 : (tickP sp st d).2 = 0 := by rw [← e1]; exact he
  obtain ⟨n, hn, hn2⟩ := tickFrom_ok sp st d 201 0 e2
  have hn' : (tickP sp st d).1 = (n : Int) := hn
  have PL : prfL sp st d = profP sp st n 0 d := by unfold prfL; rw [if_neg (by simpa using he), e1, hn']; rfl
  have P := Lib.hid PL
  clear PL e1 he k1 k2 hk hn
  generalize prfL sp st d = L at *
  have hn3 : n ≤ 200 := by omega
  clear hn2
  go_enter Try.func30, Try.ntmps30
  go_wp2_with (first | (go_at_call 90; refine (limitsErr_c _ _ _).mono ?_; rintro e w1 ⟨rfl, hb1⟩; obtain ⟨hc1, hf1⟩ := bcell hb1; have hz1 : w.heap.size < w1.heap.size := by have := hb1.size; (try simp at this); omega) | (go_at_call 93; refine (distanceErr_c _ _).mono ?_; rintro e w' ⟨rfl, rfl⟩) | (go_at_call 84; refine (first2_c _ _ _ _).mono ?_; rintro e w' ⟨rfl, rfl⟩) | (go_at_call 94; refine (G.out _).mono ?_; rintro e w2 ⟨rfl, hb2⟩; obtain ⟨hc2, hf2⟩ := bcell hb2; have hz2 : w.heap.size < w2.heap.size := by have := hb2.size; (try simp at this); omega))
  have hB2 : Below w.heap.size w w2 := by focus ((repeat first | with_reducible exact Below.refl _ _ | (with_reducible refine Below.setCell ?_ ?_ _) | (with_reducible refine Below.alloc ?_ ?_ _) | (with_reducible refine below_drewN ?_ _) | (with_reducible refine Below.drew ?_) | (with_reducible refine Below.trans ?_ (Below.mono hb1 ?_)) | (with_reducible refine Below.trans ?_ (Below.mono hb2 ?_))); all_goals (first | with_reducible exact Nat.le_refl _ | omega | (simp; done) | (simp; omega) | (have := hb1.size; (try simp at this); have := hb2.size; (try simp at this); omega) | (have := hb1.size; (try simp at this); have := hb2.size; (try simp at this); (try simp); omega)))
  have hX2 : Box w2 w.heap.size 56 #[.int .i64 sp, .int .i64 st] := by focus (apply Box.via; apply Exists.intro; apply And.intro; (repeat first | with_reducible assumption | with_reducible exact Box.new _ _ _ | ((with_reducible apply Box.newAt); focus (simp; done)) | (with_reducible apply Box.drew) | (with_reducible apply Box.drewN) | (with_reducible apply Box.set) | (with_reducible apply Box.alloc) | (with_reducible apply Box.far) | (with_reducible apply Box.below (hb := hb1)) | (with_reducible apply Box.below (hb := hb2))); all_goals (first | with_reducible exact Nat.le_refl _ | omega | (simp; done) | (simp; omega) | (have := hb1.size; (try simp at this); have := hb2.size; (try simp at this); omega) | (have := hb1.size; (try simp at this); have := hb2.size; (try simp at this); (try simp); omega)))
  clear hc1 hc2 hf1 hf2
  go_loopw [1, 9, 10, 11] (fun dd out la le wr => ∃ (m : Nat) (acc : List Int) (last d' : Int), m ≤ n ∧ acc.length + m = n ∧ le = .int .i64 ((m : Int) - 1) ∧ la = .int .i64 last ∧ dd = .int .i64 d' ∧ Hid (L = acc ++ profP sp st m last d') ∧ 0 ≤ last ∧ last ≤ 100 ∧ d' ≤ 10000 ∧ -(100 * (200 - (m : Int))) ≤ d' ∧
      wr.ownsRow w.heap.size 3 1 out acc.length (acc.map (Value.int .i64)) ∧ Box wr w.heap.size 56 #[.int .i64 sp, .int .i64 st] ∧ Below w.heap.size w wr) (fun _ _ _ le _ => (intOf le + 1).toNat)
  case atStart => exact ⟨n, [], 0, d, Nat.le_refl _, by simp, rfl, rfl, rfl, P.out, by omega, by omega, by omega, by omega, World.ownsRow_nil _ _ _ _, hX2, hB2⟩
  case round =>
    obtain ⟨m, acc, last, d', hm, hlen, rfl, rfl, rfl, hL, l1, l2, d1, d2, hown, hX, hB⟩ := hrel
    have c0 := hX.cell 0; have c1 := hX.cell 1
    simp at c0 c1
    have hl := hX.lt
    clear P hX2 hB2 hz1 hz2
    have P' := Lib.hid hL.out
    cases m with
    | zero =>
      have e := hL.out
      simp only [profP, List.append_nil] at e
      have HE := Lib.hid e; clear e
      go_wp2
      go_ret2
      exact ⟨_, rfl, by rw [HE.out]; exact hown, hB⟩
    | succ m =>
      have hm3 : m ≤ 199 := by omega
      have q1 : ((m + 1 : Nat) : Int) - 1 = (m : Int) := by omega
      have mb := mulb (x := (m : Int) + 1) (by omega) (show 0 ≤ st ∧ st ≤ 100 by omega)
      have vb := vTop_bd (sp := sp) (st := st) (last := last) (n := m) (by omega)
      have VT := Lib.hid (show (vTop sp st last m : Int) = min sp (min (last + st) (((m : Int) + 1) * st)) by unfold vTop; omega)
      have PU := Lib.hid (show profP sp st (m + 1) last d' = (vFind st d' m (vTop sp st last m) : Int) :: profP sp st m (vFind st d' m (vTop sp st last m)) (d' - vFind st d' m (vTop sp st last m)) from rfl)
      rw [q1]
      clear q1
      generalize hv : vTop sp st last m = top at *
      clear hv hL
      have hL := P'.out
      generalize profP sp st (m + 1) last d' = tailL at *
      have HL := Lib.hid hL
      clear hL
      go_upto_region 12 with fail
      go_cut [12] (fun s wx => s = .int .i64 (top : Int) ∧ wx = wr)
      case first =>
        go_wp2_with fail
        all_goals (go_meet; refine ⟨?_, rfl⟩)
        all_goals exact vint (by have := VT.out; omega)
      case rest =>
        obtain ⟨rfl, rfl⟩ := hcut
        have htop : top ≤ 100 := vb
        go_wp2_with fail
        obtain ⟨wo, rfl⟩ : ∃ wo : World, wo = wc := ⟨_, rfl⟩
        go_loopw [12] (fun v wq => ∃ u : Nat, v = .int .i64 u ∧ u ≤ 100 ∧ Hid (vFind st d' m top = vFind st d' m u) ∧ Box wq w.heap.size 56 #[.int .i64 sp, .int .i64 st] ∧ Below w.heap.size w wq ∧ wq.ownsRow w.heap.size 3 1 u9 acc.length (acc.map (Value.int .i64))) (fun v _ => (intOf v).toNat)
        case atStart => exact ⟨top, rfl, htop, rfl, hX, hB, hown⟩
        case round =>
          obtain ⟨u, rfl, hu, hvf, hXq, hBq, hoq⟩ := hrel
          have r0 := hXq.cell 0; have r1 := hXq.cell 1
          simp at r0 r1
          have hlq := hXq.lt
          clear c0 c1
          cases u with
          | zero =>
            have EV := Lib.hid (show vFind st d' m top = 0 from hvf.out)
            have hm1 : acc.length + 1 ≤ maxLen := by unfold maxLen; omega
            have hm2 : (acc.length + 1) * 8 ≤ 140737488355328 := by omega
            have hsz := hBq.size
            have hsz' : w.heap.size ≤ (wr.alloc (.cells #[.int .i64 0] 3)).heap.size := by simp; omega
            go_wp2_with (at_builtin; refine wpList_append_own _ rfl _ _ 22 rfl w.heap.size 3 i0 (.int .i64 0) 1 8 Try.underlying22 hi0 hz0 hz1 hz2 rfl (by decide) _ _ _ rfl (hoq.alloc _) ⟨wr.heap.size, 0, none⟩ 1 1 [.int .i64 (0)] rfl rfl (cell_one_new _ _ _) (by simp [Value.oneCell']) hm1 hm2 hsz' ?_; intro v' wx hown1 hgrow1 _)
            have hB1 : Below w.heap.size w wx := (hBq.alloc hsz _).grown hgrow1 hsz' (fun k e => (hoq.lt k e).1)
            go_roundw
            case rel =>
              refine ⟨m, acc ++ [0], 0, d', by omega, by simp <;> omega, by go_num, rfl, rfl, ?_, by omega, by omega, by omega, by omega, by simpa using hown1, (hXq.alloc _).grown (hoq.alloc _) (by decide) hgrow1, hB1⟩
              unfold Hid
              rw [HL.out, PU.out, EV.out]
              simp
            case measure => simp [intOf] <;> omega
          | succ u =>
            have N := Lib.hid (fun W => nearest_c sp st ((u : Int) + 1) m W (by omega) (by omega) (by omega))
            have UV := Lib.hid (show vFind st d' m (u + 1) = if d' - ((u : Int) + 1) < nearTo st ((u : Int) + 1) m then vFind st d' m u else u + 1 from rfl)
            have nb := nearTo_bd (st := st) (fr := (u : Int) + 1) (by omega) (by omega) m (by omega)
            generalize nearTo st ((u : Int) + 1) m = nr at *
            by_cases hgo : d' - ((u : Int) + 1) < nr
            · have EV := Lib.hid (show vFind st d' m top = vFind st d' m u by rw [hvf.out, UV.out, if_pos hgo])
              go_wp2_with (go_at_call 95; refine (N.out _).mono ?_; rintro e w3 ⟨rfl, hb3⟩)
              go_roundw
              case rel => exact ⟨u, by go_num, by omega, EV.out, hXq.below hb3 hlq, by focus ((repeat first | with_reducible exact Below.refl _ _ | (with_reducible refine Below.setCell ?_ ?_ _) | (with_reducible refine Below.alloc ?_ ?_ _) | (with_reducible refine below_drewN ?_ _) | (with_reducible refine Below.drew ?_) | (with_reducible refine Below.trans ?_ (Below.mono hb3 ?_)) | (with_reducible refine Below.trans ?_ (Below.mono hBq ?_))); all_goals (first | with_reducible exact Nat.le_refl _ | omega | (simp; done) | (simp; omega) | (have := hb3.size; (try simp at this); have := hBq.size; (try simp at this); omega) | (have := hb3.size; (try simp at this); have := hBq.size; (try simp at this); (try simp); omega))), own_below hoq hb3⟩
              case measure => simp [intOf] <;> omega
            · have EV := Lib.hid (show vFind st d' m top = u + 1 by rw [hvf.out, UV.out, if_neg hgo])
              have hm1 : acc.length + 1 ≤ maxLen := by unfold maxLen; omega
              have hm2 : (acc.length + 1) * 8 ≤ 140737488355328 := by omega
              go_wp2_with (first | (go_at_call 95; refine (N.out _).mono ?_; rintro e w3 ⟨rfl, hb3⟩; have hoq3 := own_below hoq hb3; have hB3 : Below w.heap.size w w3 := (by focus ((repeat first | with_reducible exact Below.refl _ _ | (with_reducible refine Below.setCell ?_ ?_ _) | (with_reducible refine Below.alloc ?_ ?_ _) | (with_reducible refine below_drewN ?_ _) | (with_reducible refine Below.drew ?_) | (with_reducible refine Below.trans ?_ (Below.mono hb3 ?_)) | (with_reducible refine Below.trans ?_ (Below.mono hBq ?_))); all_goals (first | with_reducible exact Nat.le_refl _ | omega | (simp; done) | (simp; omega) | (have := hb3.size; (try simp at this); have := hBq.size; (try simp at this); omega) | (have := hb3.size; (try simp at this); have := hBq.size; (try simp at this); (try simp); omega)))); have hX3 := hXq.below hb3 hlq; have hsz := hB3.size; have hsz' : w.heap.size ≤ (w3.alloc (.cells #[.int .i64 ((u : Int) + 1)] 3)).heap.size := (by simp; omega)) | (at_builtin; refine wpList_append_own _ rfl _ _ 22 rfl w.heap.size 3 i0 (.int .i64 0) 1 8 Try.underlying22 hi0 hz0 hz1 hz2 rfl (by decide) _ _ _ rfl (hoq3.alloc _) ⟨w3.heap.size, 0, none⟩ 1 1 [.int .i64 (↑u + 1)] rfl rfl (cell_one_new _ _ _) (by simp [Value.oneCell']) hm1 hm2 hsz' ?_; intro v' wx hown1 hgrow1 _))
              have hB1 : Below w.heap.size w wx := (hB3.alloc hsz _).grown hgrow1 hsz' (fun k e => (hoq3.lt k e).1)
              go_roundw
              case rel =>
                refine ⟨m, acc ++ [(u : Int) + 1], (u : Int) + 1, d' - ((u : Int) + 1), by omega, by simp <;> omega, by go_num, rfl, rfl, ?_, by omega, by omega, by omega, by omega, by simpa using hown1, (hX3.alloc _).grown (hoq3.alloc _) (by decide) hgrow1, hB1⟩
                unfold Hid
                rw [HL.out, PU.out, EV.out]
                simp
              case measure => simp [intOf] <;> omega

end Go.Proofs.Ytgbckdmhmkpahaa

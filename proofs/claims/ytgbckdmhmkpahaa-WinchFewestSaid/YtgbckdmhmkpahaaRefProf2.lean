/-
  The references of profiles (chapter 2): fits, Profile.
-/
import Derived.Test.YtgbckdmhmkpahaaRefProf
set_option linter.unusedVariables false
namespace Go.Proofs.Ytgbckdmhmkpahaa
open Go.RowKit Go.Shelf

def fitP (sp st v : Int) (n : Nat) (rest : Int) : Bool := decide (v ≤ st * ((n : Int) + 1)) && decide (nearTo st v n ≤ rest) && decide (rest ≤ farTo sp st v n n)

set_option maxHeartbeats 2000000 in
set_option maxRecDepth 100000 in
theorem refFits_c (sp st v : Int) (n : Nat) (rest : Int) (w : World) (h1 : 0 ≤ sp ∧ sp ≤ 100) (h2 : 0 ≤ st ∧ st ≤ 100) (h3 : 0 ≤ v ∧ v ≤ 100) (h4 : (n : Int) ≤ 200) :
    Calls Try.prog 97 #[.agg #[.int .i64 sp, .int .i64 st], .int .i64 v, .int .i64 n, .int .i64 rest] w fun e w' => e = .returned (.bool (fitP sp st v n rest)) ∧ Below w.heap.size w w' := by
  have a1 := mulb (x := (n : Int) + 1) (by omega) h2
  rw [Int.mul_comm] at a1
  have R := Lib.hid (show fitP sp st v n rest = (decide (v ≤ st * ((n : Int) + 1)) && decide (nearTo st v n ≤ rest) && decide (rest ≤ farTo sp st v n n)) from rfl)
  generalize fitP sp st v n rest = FP at *
  by_cases g1 : v ≤ st * ((n : Int) + 1)
  · have e1 : decide (v ≤ st * ((n : Int) + 1)) = true := decide_eq_true g1
    by_cases g2 : nearTo st v n ≤ rest
    · have e2 : decide (nearTo st v n ≤ rest) = true := decide_eq_true g2
      go_enter Try.func97, Try.ntmps97
      go_wp2_with (first | (go_at_call 141; refine (refShortest_c sp st v n _ h2 h3 (by omega)).mono ?_; rintro e w1 ⟨rfl, hb1⟩; (have q : Box w1 w.heap.size 56 #[.int .i64 sp, .int .i64 st] := (by focus (apply Box.via; apply Exists.intro; apply And.intro; (repeat first | with_reducible assumption | with_reducible exact Box.new _ _ _ | ((with_reducible apply Box.newAt); focus (simp; done)) | (with_reducible apply Box.drew) | (with_reducible apply Box.drewN) | (with_reducible apply Box.set) | (with_reducible apply Box.alloc) | (with_reducible apply Box.far) | (with_reducible apply Box.below (hb := hb1))); all_goals (first | with_reducible exact Nat.le_refl _ | omega | (simp; done) | (simp; omega) | (have := hb1.size; (try simp at this); omega) | (have := hb1.size; (try simp at this); (try simp); omega))))); (have hq := q.lt); (have : w1.cell? ⟨w.heap.size, 0, none⟩ = some (.int .i64 sp) := q.cell 0); (have : w1.cell? ⟨w.heap.size, 1, none⟩ = some (.int .i64 st) := q.cell 1); have hB1 : Below w.heap.size w w1 := (by focus ((repeat first | with_reducible exact Below.refl _ _ | (with_reducible refine Below.setCell ?_ ?_ _) | (with_reducible refine Below.alloc ?_ ?_ _) | (with_reducible refine below_drewN ?_ _) | (with_reducible refine Below.drew ?_) | (with_reducible refine Below.trans ?_ (Below.mono hb1 ?_))); all_goals (first | with_reducible exact Nat.le_refl _ | omega | (simp; done) | (simp; omega) | (have := hb1.size; (try simp at this); omega) | (have := hb1.size; (try simp at this); (try simp); omega))))) | (go_at_call 96; refine (refFarthest_c sp st v n _ h1 h2 h3 (by omega)).mono ?_; rintro e w2 ⟨rfl, hb2⟩) | fail)
      all_goals go_ret
      all_goals exact ⟨ret_b (by rw [R.out]; simp [*]), by focus ((repeat first | with_reducible exact Below.refl _ _ | (with_reducible refine Below.setCell ?_ ?_ _) | (with_reducible refine Below.alloc ?_ ?_ _) | (with_reducible refine below_drewN ?_ _) | (with_reducible refine Below.drew ?_) | (with_reducible refine Below.trans ?_ (Below.mono hb2 ?_)) | (with_reducible refine Below.trans ?_ (Below.mono hB1 ?_))); all_goals (first | with_reducible exact Nat.le_refl _ | omega | (simp; done) | (simp; omega) | (have := hb2.size; (try simp at this); have := hB1.size; (try simp at this); omega) | (have := hb2.size; (try simp at this); have := hB1.size; (try simp at this); (try simp); omega)))⟩
    · have e2 : decide (nearTo st v n ≤ rest) = false := decide_eq_false g2
      go_enter Try.func97, Try.ntmps97
      go_wp2_with (first | (go_at_call 141; refine (refShortest_c sp st v n _ h2 h3 (by omega)).mono ?_; rintro e w1 ⟨rfl, hb1⟩; (have q : Box w1 w.heap.size 56 #[.int .i64 sp, .int .i64 st] := (by focus (apply Box.via; apply Exists.intro; apply And.intro; (repeat first | with_reducible assumption | with_reducible exact Box.new _ _ _ | ((with_reducible apply Box.newAt); focus (simp; done)) | (with_reducible apply Box.drew) | (with_reducible apply Box.drewN) | (with_reducible apply Box.set) | (with_reducible apply Box.alloc) | (with_reducible apply Box.far) | (with_reducible apply Box.below (hb := hb1))); all_goals (first | with_reducible exact Nat.le_refl _ | omega | (simp; done) | (simp; omega) | (have := hb1.size; (try simp at this); omega) | (have := hb1.size; (try simp at this); (try simp); omega))))); (have hq := q.lt); (have : w1.cell? ⟨w.heap.size, 0, none⟩ = some (.int .i64 sp) := q.cell 0); (have : w1.cell? ⟨w.heap.size, 1, none⟩ = some (.int .i64 st) := q.cell 1); have hB1 : Below w.heap.size w w1 := (by focus ((repeat first | with_reducible exact Below.refl _ _ | (with_reducible refine Below.setCell ?_ ?_ _) | (with_reducible refine Below.alloc ?_ ?_ _) | (with_reducible refine below_drewN ?_ _) | (with_reducible refine Below.drew ?_) | (with_reducible refine Below.trans ?_ (Below.mono hb1 ?_))); all_goals (first | with_reducible exact Nat.le_refl _ | omega | (simp; done) | (simp; omega) | (have := hb1.size; (try simp at this); omega) | (have := hb1.size; (try simp at this); (try simp); omega))))) | fail)
      go_ret
      exact ⟨ret_b (by rw [R.out]; simp [*]), hB1⟩
  · have e1 : decide (v ≤ st * ((n : Int) + 1)) = false := decide_eq_false g1
    go_enter Try.func97, Try.ntmps97
    go_wp2_with fail
    go_ret
    exact ⟨ret_b (by rw [R.out]; simp [*]), by focus ((repeat first | with_reducible exact Below.refl _ _ | (with_reducible refine Below.setCell ?_ ?_ _) | (with_reducible refine Below.alloc ?_ ?_ _) | (with_reducible refine below_drewN ?_ _) | (with_reducible refine Below.drew ?_)); all_goals (first | with_reducible exact Nat.le_refl _ | omega | (simp; done) | (simp; omega) | (omega) | ((try simp); omega)))⟩

/-- The greatest speed, from v down, after which the rest can be had. -/
def fFind (sp st d : Int) (left : Nat) : Nat → Nat
  | 0 => 0
  | v + 1 => if fitP sp st ((v : Int) + 1) left (d - ((v : Int) + 1)) then v + 1 else fFind sp st d left v
def fTop (sp st last : Int) : Nat := (min sp (last + st)).toNat
def refProfP (sp st : Int) : Nat → Int → Int → List Int
  | 0, _, _ => []
  | n + 1, last, d => (fFind sp st d n (fTop sp st last) : Int) :: refProfP sp st n (fFind sp st d n (fTop sp st last)) (d - fFind sp st d n (fTop sp st last))
theorem fTop_bd {sp st last : Int} (h1 : 0 ≤ sp ∧ sp ≤ 100) : fTop sp st last ≤ 100 := by unfold fTop; omega

set_option maxHeartbeats 4000000 in
set_option maxRecDepth 100000 in
theorem refProfile_c (sp st d : Int) (n : Nat) (w : World) (h1 : 0 ≤ sp ∧ sp ≤ 100) (h2 : 0 ≤ st ∧ st ≤ 100) (h3 : 0 ≤ d ∧ d ≤ 10000) (hn3 : n ≤ 200) :
    Calls Try.prog 36 #[.agg #[.int .i64 sp, .int .i64 st], .int .i64 d, .int .i64 n] w fun e w' => ∃ v, e = .returned v ∧ w'.ownsRow w.heap.size 3 1 v (refProfP sp st n 0 d).length ((refProfP sp st n 0 d).map (Value.int .i64)) ∧ Below w.heap.size w w' := by
  obtain ⟨i0, hi0, hz0, hz1, hz2⟩ := info_parts A.infoI
  generalize hL : refProfP sp st n 0 d = L
  have P := Lib.hid hL.symm
  clear hL
  have v0 : IntKind.i64.wrap ((n : Int) - 1) = (n : Int) - 1 := IntWalk.i64_in _ (by omega)
  go_enter Try.func36, Try.ntmps36
  go_wp2
  go_loopw [1, 7, 8, 9] (fun dd out la le wr => ∃ (m : Nat) (acc : List Int) (last d' : Int), m ≤ n ∧ acc.length + m = n ∧ le = .int .i64 ((m : Int) - 1) ∧ la = .int .i64 last ∧ dd = .int .i64 d' ∧ Hid (L = acc ++ refProfP sp st m last d') ∧ 0 ≤ last ∧ last ≤ 100 ∧ d' ≤ 10000 ∧ -(100 * (200 - (m : Int))) ≤ d' ∧
      wr.ownsRow w.heap.size 3 1 out acc.length (acc.map (Value.int .i64)) ∧ Box wr w.heap.size 56 #[.int .i64 sp, .int .i64 st] ∧ Below w.heap.size w wr) (fun _ _ _ le _ => (intOf le + 1).toNat)
  case atStart => exact ⟨n, [], 0, d, Nat.le_refl _, by simp, rfl, rfl, rfl, P.out, by omega, by omega, by omega, by omega, World.ownsRow_nil _ _ _ _, Box.new _ _ _, by focus ((repeat first | with_reducible exact Below.refl _ _ | (with_reducible refine Below.setCell ?_ ?_ _) | (with_reducible refine Below.alloc ?_ ?_ _) | (with_reducible refine below_drewN ?_ _) | (with_reducible refine Below.drew ?_)); all_goals (first | with_reducible exact Nat.le_refl _ | omega | (simp; done) | (simp; omega) | (omega) | ((try simp); omega)))⟩
  case round =>
    obtain ⟨m, acc, last, d', hm, hlen, rfl, rfl, rfl, hL, l1, l2, d1, d2, hown, hX, hB⟩ := hrel
    have c0 := hX.cell 0; have c1 := hX.cell 1
    simp at c0 c1
    have hl := hX.lt
    clear P
    have P' := Lib.hid hL.out
    cases m with
    | zero =>
      have e := hL.out
      simp only [refProfP, List.append_nil] at e
      have HE := Lib.hid e; clear e
      go_wp2
      go_ret
      exact ⟨_, rfl, by rw [HE.out]; exact hown, hB⟩
    | succ m =>
      have hm3 : m ≤ 199 := by omega
      have q1 : ((m + 1 : Nat) : Int) - 1 = (m : Int) := by omega
      have vb := fTop_bd (sp := sp) (st := st) (last := last) (by omega)
      have VT := Lib.hid (show (fTop sp st last : Int) = min sp (last + st) by unfold fTop; omega)
      have PU := Lib.hid (show refProfP sp st (m + 1) last d' = (fFind sp st d' m (fTop sp st last) : Int) :: refProfP sp st m (fFind sp st d' m (fTop sp st last)) (d' - fFind sp st d' m (fTop sp st last)) from rfl)
      rw [q1]
      clear q1
      generalize hv : fTop sp st last = top at *
      clear hv hL
      have hL := P'.out
      generalize refProfP sp st (m + 1) last d' = tailL at *
      have HL := Lib.hid hL
      clear hL
      go_upto_region 6 with fail
      go_cut [10] (fun s wx => s = .int .i64 (top : Int) ∧ wx = wr)
      case first =>
        go_wp2_with fail
        all_goals (go_meet; refine ⟨?_, rfl⟩)
        all_goals exact vint (by have := VT.out; omega)
      case rest =>
        obtain ⟨rfl, rfl⟩ := hcut
        have htop : top ≤ 100 := vb
        go_wp2_with fail
        go_loopw [10] (fun v wq => ∃ u : Nat, v = .int .i64 u ∧ u ≤ 100 ∧ Hid (fFind sp st d' m top = fFind sp st d' m u) ∧ Box wq w.heap.size 56 #[.int .i64 sp, .int .i64 st] ∧ Below w.heap.size w wq ∧ wq.ownsRow w.heap.size 3 1 u7 acc.length (acc.map (Value.int .i64))) (fun v _ => (intOf v).toNat)
        case atStart => exact ⟨top, rfl, htop, rfl, hX, hB, hown⟩
        case round =>
          obtain ⟨u, rfl, hu, hvf, hXq, hBq, hoq⟩ := hrel
          have r0 := hXq.cell 0; have r1 := hXq.cell 1
          simp at r0 r1
          have hlq := hXq.lt
          clear c0 c1
          cases u with
          | zero =>
            have EV := Lib.hid (show fFind sp st d' m top = 0 from hvf.out)
            have hm1 : acc.length + 1 ≤ maxLen := by unfold maxLen; omega
            have hm2 : (acc.length + 1) * 8 ≤ 140737488355328 := by omega
            have hsz := hBq.size
            have hsz' : w.heap.size ≤ (wr.alloc (.cells #[.int .i64 0] 3)).heap.size := by simp; omega
            go_wp2_with (at_builtin; refine wpList_append_own _ rfl _ _ 22 rfl w.heap.size 3 i0 (.int .i64 0) 1 8 Try.underlying22 hi0 hz0 hz1 hz2 rfl (by decide) _ _ _ rfl (hoq.alloc _) ⟨wr.heap.size, 0, none⟩ 1 1 [.int .i64 (0)] rfl rfl (cell_one_new _ _ _) (by simp [Value.oneCell']) hm1 hm2 hsz' ?_; intro v' wx hown1 hgrow1 _)
            have hB1 : Below w.heap.size w wx := (hBq.alloc hsz _).grown hgrow1 hsz' (fun k e => (hoq.lt k e).1)
            go_roundw
            case rel =>
              refine ⟨m, acc ++ [0], 0, d', by omega, by simp <;> omega, by go_num, rfl, rfl, ?_, by omega, by omega, by omega, by omega, by simpa using hown1, (hXq.alloc _).grown (hoq.alloc _) (by decide) hgrow1, hB1⟩
              unfold Hid
              rw [HL.out, PU.out, EV.out]
              simp
            case measure => simp [intOf] <;> omega
          | succ u =>
            have N := Lib.hid (fun W => refFits_c sp st ((u : Int) + 1) m (d' - ((u : Int) + 1)) W h1 h2 (by omega) (by omega))
            have UV := Lib.hid (show fFind sp st d' m (u + 1) = if fitP sp st ((u : Int) + 1) m (d' - ((u : Int) + 1)) then u + 1 else fFind sp st d' m u from rfl)
            cases hb : fitP sp st ((u : Int) + 1) m (d' - ((u : Int) + 1)) with
            | false =>
              have EV := Lib.hid (show fFind sp st d' m top = fFind sp st d' m u by rw [hvf.out, UV.out, if_neg (by simp [hb])])
              rw [hb] at N
              clear hb
              go_wp2_with (go_at_call 97; refine (N.out _).mono ?_; rintro e w3 ⟨rfl, hb3⟩)
              go_roundw
              case rel => exact ⟨u, by go_num, by omega, EV.out, hXq.below hb3 hlq, by focus ((repeat first | with_reducible exact Below.refl _ _ | (with_reducible refine Below.setCell ?_ ?_ _) | (with_reducible refine Below.alloc ?_ ?_ _) | (with_reducible refine below_drewN ?_ _) | (with_reducible refine Below.drew ?_) | (with_reducible refine Below.trans ?_ (Below.mono hb3 ?_)) | (with_reducible refine Below.trans ?_ (Below.mono hBq ?_))); all_goals (first | with_reducible exact Nat.le_refl _ | omega | (simp; done) | (simp; omega) | (have := hb3.size; (try simp at this); have := hBq.size; (try simp at this); omega) | (have := hb3.size; (try simp at this); have := hBq.size; (try simp at this); (try simp); omega))), own_below hoq hb3⟩
              case measure => simp [intOf] <;> omega
            | true =>
              have EV := Lib.hid (show fFind sp st d' m top = u + 1 by rw [hvf.out, UV.out, if_pos hb])
              rw [hb] at N
              clear hb
              have hm1 : acc.length + 1 ≤ maxLen := by unfold maxLen; omega
              have hm2 : (acc.length + 1) * 8 ≤ 140737488355328 := by omega
              go_wp2_with (first | (go_at_call 97; refine (N.out _).mono ?_; rintro e w3 ⟨rfl, hb3⟩; have hoq3 := own_below hoq hb3; have hB3 : Below w.heap.size w w3 := (by focus ((repeat first | with_reducible exact Below.refl _ _ | (with_reducible refine Below.setCell ?_ ?_ _) | (with_reducible refine Below.alloc ?_ ?_ _) | (with_reducible refine below_drewN ?_ _) | (with_reducible refine Below.drew ?_) | (with_reducible refine Below.trans ?_ (Below.mono hb3 ?_)) | (with_reducible refine Below.trans ?_ (Below.mono hBq ?_))); all_goals (first | with_reducible exact Nat.le_refl _ | omega | (simp; done) | (simp; omega) | (have := hb3.size; (try simp at this); have := hBq.size; (try simp at this); omega) | (have := hb3.size; (try simp at this); have := hBq.size; (try simp at this); (try simp); omega)))); have hX3 := hXq.below hb3 hlq; have hsz := hB3.size; have hsz' : w.heap.size ≤ (w3.alloc (.cells #[.int .i64 ((u : Int) + 1)] 3)).heap.size := (by simp; omega)) | (at_builtin; refine wpList_append_own _ rfl _ _ 22 rfl w.heap.size 3 i0 (.int .i64 0) 1 8 Try.underlying22 hi0 hz0 hz1 hz2 rfl (by decide) _ _ _ rfl (hoq3.alloc _) ⟨w3.heap.size, 0, none⟩ 1 1 [.int .i64 (↑u + 1)] rfl rfl (cell_one_new _ _ _) (by simp [Value.oneCell']) hm1 hm2 hsz' ?_; intro v' wx hown1 hgrow1 _))
              have hB1 : Below w.heap.size w wx := (hB3.alloc hsz _).grown hgrow1 hsz' (fun k e => (hoq3.lt k e).1)
              go_roundw
              case rel =>
                refine ⟨m, acc ++ [(u : Int) + 1], (u : Int) + 1, d' - ((u : Int) + 1), by omega, by simp <;> omega, by go_num, rfl, rfl, ?_, by omega, by omega, by omega, by omega, by simpa using hown1, (hX3.alloc _).grown (hoq3.alloc _) (by decide) hgrow1, hB1⟩
                unfold Hid
                rw [HL.out, PU.out, EV.out]
                simp
              case measure => simp [intOf] <;> omega

end Go.Proofs.Ytgbckdmhmkpahaa

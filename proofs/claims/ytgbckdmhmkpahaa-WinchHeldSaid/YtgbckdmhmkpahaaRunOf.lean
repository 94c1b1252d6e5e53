/-
  The walk of RunOf (chapter 2).
-/
import Derived.Test.YtgbckdmhmkpahaaNextIn
import Derived.Test.YtgbckdmhmkpahaaEv
import Derived.Deep.DeepCutAuto
set_option linter.unusedVariables false
namespace Go.Proofs.Ytgbckdmhmkpahaa
open Go.RowKit Go.Shelf

/-- What RunOf answers. -/
def runP (T : List Int) (lo hi turn slew : Int) (hs : List Int) : List St3 × Int :=
  if (chkL T lo hi turn slew).2 ≠ 0 then ([], (chkL T lo hi turn slew).2)
  else if 60 < hs.length then ([], 8)
  else runA T lo hi turn slew (0, 0, 0) [(0, 0, 0)] hs

/-- A slice of one element, made of a literal. -/
theorem own_one (w : World) (t : TypeId) (cs : Array Value) (k : Nat) (hk : cs.size = k) : (w.alloc (.cells cs t)).ownsRow w.heap.size t k (.slice (some ⟨w.heap.size, 0, none⟩) 1 1) 1 cs.toList := by
  refine ⟨by simp [hk], .inr ⟨w.heap.size, 1, cs, rfl, Nat.le_refl _, heap_alloc_new w _, Nat.le_refl _, by unfold maxLen; omega, by omega, ?_⟩⟩
  rw [Nat.one_mul, ← hk, List.take_of_length_le (by simp)]

set_option maxHeartbeats 2000000 in
set_option maxRecDepth 100000 in
theorem runOf_no (T : List Int) (A : Option Addr) (c : Nat) (lo hi turn slew : Int) (hs : List Int) (B : Option Addr) (d : Nat) (w : World) (hn : T.length ≤ 1000) (hm : hs.length ≤ 100000) (hT : SlI w A T) (h : (chkL T lo hi turn slew).2 ≠ 0 ∨ 60 < hs.length) :
    Calls Try.prog 50 #[.agg #[.slice A T.length c, .int .i64 lo, .int .i64 hi, .int .i64 turn, .int .i64 slew], .slice B hs.length d] w fun e w' => e = .returned (.tuple #[.slice none 0 0, .int .i64 (runP T lo hi turn slew hs).2]) ∧ Below w.heap.size w w' := by
  have C := Lib.hid (fun W h => openLoop_c T A c lo hi turn slew W hn h)
  have HS := Lib.hid hT
  have E := Lib.hid (show (runP T lo hi turn slew hs).2 = fstE [(chkL T lo hi turn slew).2, unl (decide ((hs.length : Int) ≤ 60)) 8] from by
    unfold runP
    by_cases he : (chkL T lo hi turn slew).2 = 0
    · rw [if_neg (by simpa using he), he]
      have h2 := h.resolve_left (by simpa using he)
      rw [if_pos h2, decide_eq_false (by omega)]
      rfl
    · rw [if_pos he, fst2, if_neg he])
  have e2 := Lib.hid (show (runP T lo hi turn slew hs).2 ≠ 0 from by
    unfold runP
    by_cases he : (chkL T lo hi turn slew).2 = 0
    · rw [if_neg (by simpa using he), if_pos (h.resolve_left (by simpa using he))]; decide
    · rw [if_pos he]; exact he)
  generalize (runP T lo hi turn slew hs).2 = re at *
  have e1 := bneT (show fstE [(chkL T lo hi turn slew).2, unl (decide ((hs.length : Int) ≤ 60)) 8] ≠ 0 from by rw [← E.out]; exact e2.out)
  clear hT h
  generalize (chkL T lo hi turn slew).2 = ce at *
  go_enter Try.func50, Try.ntmps50
  go_wp2_with (first | (go_at_call 79; refine (C.out _ (SlI.below HS.out (by focus ((repeat first | with_reducible exact Below.refl _ _ | (with_reducible refine Below.setCell ?_ ?_ _) | (with_reducible refine Below.alloc ?_ ?_ _) | (with_reducible refine below_drewN ?_ _) | (with_reducible refine Below.drew ?_)); all_goals (first | with_reducible exact Nat.le_refl _ | omega | (simp; done) | (simp; omega) | (omega) | ((try simp); omega)))))).mono ?_; rintro e w1 ⟨rfl, hb1⟩; obtain ⟨hc1, hf1⟩ := bcell hb1; have hz3 : w.heap.size < w1.heap.size := (by have := hb1.size; (try simp at this); omega)) | (go_at_call 81; refine (unless_c _ _ _).mono ?_; rintro e w' ⟨rfl, rfl⟩) | (go_at_call 84; refine (first2a _ _ _ _ _ (by simp)).mono ?_; rintro e w' ⟨rfl, rfl⟩) | fail)
  go_ret2
  exact ⟨ret_t2 rfl (vint (by rw [E.out])), by focus ((repeat first | with_reducible exact Below.refl _ _ | (with_reducible refine Below.setCell ?_ ?_ _) | (with_reducible refine Below.alloc ?_ ?_ _) | (with_reducible refine below_drewN ?_ _) | (with_reducible refine Below.drew ?_) | (with_reducible refine Below.trans ?_ (Below.mono hb1 ?_))); all_goals (first | with_reducible exact Nat.le_refl _ | omega | (simp; done) | (simp; omega) | (have := hb1.size; (try simp at this); omega) | (have := hb1.size; (try simp at this); (try simp); omega)))⟩


set_option maxHeartbeats 4000000 in
set_option maxRecDepth 100000 in
theorem runOf_yes (T : List Int) (A : Option Addr) (c : Nat) (lo hi turn slew : Int) (hs : List Int) (B : Option Addr) (d : Nat) (w : World) (hT : SlI w A T) (hH : SlI w B hs) (he : (chkL T lo hi turn slew).2 = 0) (hm : hs.length ≤ 60) :
    Calls Try.prog 50 #[.agg #[.slice A T.length c, .int .i64 lo, .int .i64 hi, .int .i64 turn, .int .i64 slew], .slice B hs.length d] w fun e w' => ∃ D cap, e = .returned (.tuple #[.slice D (runA T lo hi turn slew (0, 0, 0) [(0, 0, 0)] hs).1.length cap, .int .i64 (runA T lo hi turn slew (0, 0, 0) [(0, 0, 0)] hs).2]) ∧ SlV w' D ((runA T lo hi turn slew (0, 0, 0) [(0, 0, 0)] hs).1.flatMap st3V) ∧ Below w.heap.size w w' := by
  obtain ⟨k1, k2, k3, k4, k5, k6, k7⟩ := chkL_ok he
  obtain ⟨j0, zS, hj0, hy0, hy1, hy2, hy3⟩ := infoOk_parts info_St
  have C := Lib.hid (fun W h => openLoop_c T A c lo hi turn slew W (by omega) h)
  rw [he] at C
  have SC := Lib.hid (fun s1 s2 s3 h W h' hv => step_c T A c lo hi turn slew s1 s2 s3 h W h' he hv)
  have HS := Lib.hid hT
  have HH := Lib.hid hH
  have SV := Lib.hid (fun (s : St3) (h : Int) (hv : StV T lo hi s) => stp_v (turn := turn) (h := h) hv k3 k4.1 k2)
  have S0 := Lib.hid (st0_v (T := T) k5 k6)
  have d0 : decide ((hs.length : Int) ≤ 60) = true := decide_eq_true (by omega)
  have d1 : ((hs.length : Int) ≤ 60) := by omega
  have d2 : hs.length ≤ 60 := hm
  have f0 : fstE [0, unl true 8] = 0 := rfl
  clear k3 he hT hH
  generalize hR : runA T lo hi turn slew (0, 0, 0) [(0, 0, 0)] hs = R at *
  have HR := Lib.hid hR
  clear hR
  go_enter Try.func50, Try.ntmps50
  go_upto_region 2 with (first | (go_at_call 79; refine (C.out _ (SlI.below HS.out (by focus ((repeat first | with_reducible exact Below.refl _ _ | (with_reducible refine Below.setCell ?_ ?_ _) | (with_reducible refine Below.alloc ?_ ?_ _) | (with_reducible refine below_drewN ?_ _) | (with_reducible refine Below.drew ?_)); all_goals (first | with_reducible exact Nat.le_refl _ | omega | (simp; done) | (simp; omega) | (omega) | ((try simp); omega)))))).mono ?_; rintro e w1 ⟨rfl, hb1⟩; obtain ⟨hc1, hf1⟩ := bcell hb1; have hz3 : w.heap.size < w1.heap.size := (by have := hb1.size; (try simp at this); omega)) | fail)
  have q0 : Box (w1.alloc (.cells #[.slice A T.length c, .int .i64 lo, .int .i64 hi, .int .i64 turn, .int .i64 slew] 139)) w1.heap.size 139 #[.slice A T.length c, .int .i64 lo, .int .i64 hi, .int .i64 turn, .int .i64 slew] := by focus (apply Box.via; apply Exists.intro; apply And.intro; (repeat first | with_reducible assumption | with_reducible exact Box.new _ _ _ | ((with_reducible apply Box.newAt); focus (simp; done)) | (with_reducible apply Box.drew) | (with_reducible apply Box.drewN) | (with_reducible apply Box.set) | (with_reducible apply Box.alloc) | (with_reducible apply Box.far)); all_goals (first | with_reducible exact Nat.le_refl _ | omega | (simp; done) | (simp; omega) | (omega) | ((try simp); omega)))
  have hB0 : Below w.heap.size w (w1.alloc (.cells #[.slice A T.length c, .int .i64 lo, .int .i64 hi, .int .i64 turn, .int .i64 slew] 139)) := by focus ((repeat first | with_reducible exact Below.refl _ _ | (with_reducible refine Below.setCell ?_ ?_ _) | (with_reducible refine Below.alloc ?_ ?_ _) | (with_reducible refine below_drewN ?_ _) | (with_reducible refine Below.drew ?_) | (with_reducible refine Below.trans ?_ (Below.mono hb1 ?_))); all_goals (first | with_reducible exact Nat.le_refl _ | omega | (simp; done) | (simp; omega) | (have := hb1.size; (try simp at this); omega) | (have := hb1.size; (try simp at this); (try simp); omega)))
  clear hb1 hc1 hf1
  generalize w1.alloc (.cells #[.slice A T.length c, .int .i64 lo, .int .i64 hi, .int .i64 turn, .int .i64 slew] 139) = W1 at q0 hB0 ⊢
  generalize w1.heap.size = g at *
  have hlg := q0.lt
  go_cut [7] (fun s7 wx => s7 = .int .i64 0 ∧ Box wx g 139 #[.slice A T.length c, .int .i64 lo, .int .i64 hi, .int .i64 turn, .int .i64 slew] ∧ Below w.heap.size w wx)
  case first =>
    go_wp2_with (first | (go_at_call 81; refine (unless_c _ _ _).mono ?_; rintro e w' ⟨rfl, rfl⟩) | (go_at_call 84; refine (first2a _ _ _ _ _ (by simp)).mono ?_; rintro e w' ⟨rfl, rfl⟩) | fail)
    go_meet
    refine ⟨rfl, ?_, ?_⟩
    all_goals first | (focus (apply Box.via; apply Exists.intro; apply And.intro; (repeat first | with_reducible assumption | with_reducible exact Box.new _ _ _ | ((with_reducible apply Box.newAt); focus (simp; done)) | (with_reducible apply Box.drew) | (with_reducible apply Box.drewN) | (with_reducible apply Box.set) | (with_reducible apply Box.alloc) | (with_reducible apply Box.far)); all_goals (first | with_reducible exact Nat.le_refl _ | omega | (simp; done) | (simp; omega) | (omega) | ((try simp); omega)))) | (focus ((repeat first | with_reducible exact Below.refl _ _ | (with_reducible refine Below.setCell ?_ ?_ _) | (with_reducible refine Below.alloc ?_ ?_ _) | (with_reducible refine below_drewN ?_ _) | (with_reducible refine Below.drew ?_) | (with_reducible refine Below.trans ?_ (Below.mono hB0 ?_))); all_goals (first | with_reducible exact Nat.le_refl _ | omega | (simp; done) | (simp; omega) | (have := hB0.size; (try simp at this); omega) | (have := hB0.size; (try simp at this); (try simp); omega))))
  case rest =>
    obtain ⟨rfl, hG, hB⟩ := hcut
    clear q0 hB0 hlg
    generalize wc = W5 at *
    go_wp2_with fail
    go_loopw [8, 32] (fun o i wr => ∃ (k : Nat) (out : List St3) (s : St3), k ≤ hs.length ∧ i = .int .i64 k ∧ out.length = k + 1 ∧ out[k]? = some s ∧ Hid (StV T lo hi s) ∧ Hid (runA T lo hi turn slew s out (hs.drop k) = R) ∧ wr.ownsRow W5.heap.size 42 3 o (k + 1) (out.flatMap st3V) ∧ Below W5.heap.size W5 wr) (fun _ i _ => hs.length - (intOf i).toNat)
    case atStart => exact ⟨0, [(0, 0, 0)], (0, 0, 0), Nat.zero_le _, rfl, rfl, rfl, S0.out, HR.out, own_one W5 42 #[.int .i64 0, .int .i64 0, .int .i64 0] 3 rfl, (Below.refl _ _).alloc (Nat.le_refl _) _⟩
    case round =>
      obtain ⟨k, out, s, hk, rfl, hol, hos, hv, hrun, hown, hB'⟩ := hrel
      have hsz := hB'.size
      have hBw : Below w.heap.size w wr := hB.trans (hB'.mono hB.size)
      have HW := Lib.hid (SlI.below HS.out hBw)
      rcases hown.2 with ⟨_, h0⟩ | ⟨b, cap, cur, rfl, hgb, hhb, _⟩
      · omega
      by_cases hlt : k < hs.length
      · obtain ⟨bh, oh, rfl, hbh, hch⟩ := (SlI.below HH.out hBw) k _ (List.getElem?_eq_getElem hlt)
        have hd := List.drop_eq_getElem_cons hlt
        have hrun' := hrun.out
        rw [hd] at hrun'
        generalize hs[k] = h at *
        obtain ⟨b', off', eA, hlb, a0, a1, a2⟩ := ev_cells (slv_own (by decide) hown) hos
        obtain ⟨rfl, rfl⟩ : b = b' ∧ off' = 0 := by simpa [eq_comm] using eA
        simp only [Nat.zero_add] at a0 a1 a2
        obtain ⟨s1, s2, s3⟩ := s
        dsimp only at a0 a1 a2
        have P := Lib.hid (fun W h' => SC.out s1 s2 s3 h W h' hv.out)
        have hS := Lib.hid (SV.out (s1, s2, s3) h hv.out)
        have hR1 := Lib.hid (fun he' => (runA_ok (T := T) (lo := lo) (hi := hi) (turn := turn) (slew := slew) (s := (s1, s2, s3)) (out := out) (h := h) (hs := hs.drop (k + 1)) he').symm.trans hrun')
        have hR2 := Lib.hid (fun he' => (runA_no (T := T) (lo := lo) (hi := hi) (turn := turn) (slew := slew) (s := (s1, s2, s3)) (out := out) (h := h) (hs := hs.drop (k + 1)) he').symm.trans hrun')
        clear hrun hrun' hd SV SC
        generalize stpP T lo hi turn slew (s1, s2, s3) h = Rs at *
        obtain ⟨⟨r1, r2, r3⟩, re⟩ := Rs
        dsimp only at P hS hR1 hR2
        have i1 : (k : Int) < hs.length := by omega
        have i2 : (k : Int) < (k : Int) + 1 := by omega
        have i3 : k < k + 1 := by omega
        go_upto_region 9 with fail
        go_cut [11, 12] (fun s11 s12 wx => ∃ f, s11 = .pointer (some ⟨f, 0, none⟩) ∧ s12 = .int .i64 re ∧ Box wx f 42 #[.int .i64 r1, .int .i64 r2, .int .i64 r3] ∧ Below wr.heap.size wr wx)
        case first =>
          have hlg5 := hG.lt
          have hG' : Box wr g 139 #[.slice A T.length c, .int .i64 lo, .int .i64 hi, .int .i64 turn, .int .i64 slew] := by focus (apply Box.via; apply Exists.intro; apply And.intro; (repeat first | with_reducible assumption | with_reducible exact Box.new _ _ _ | ((with_reducible apply Box.newAt); focus (simp; done)) | (with_reducible apply Box.drew) | (with_reducible apply Box.drewN) | (with_reducible apply Box.set) | (with_reducible apply Box.alloc) | (with_reducible apply Box.far) | (with_reducible apply Box.below (hb := hB'))); all_goals (first | with_reducible exact Nat.le_refl _ | omega | (simp; done) | (simp; omega) | (have := hB'.size; (try simp at this); omega) | (have := hB'.size; (try simp at this); (try simp); omega)))
          have c00 := hG'.cell 0; have c01 := hG'.cell 1; have c02 := hG'.cell 2; have c03 := hG'.cell 3; have c04 := hG'.cell 4
          simp at c00 c01 c02 c03 c04
          have hlg := hG'.lt
          have : g ≠ wr.heap.size := (by omega); have : wr.heap.size ≠ g := (by omega)
          have : b ≠ wr.heap.size := (by omega); have : wr.heap.size ≠ b := (by omega)
          go_region_held3 (fun w' => w'.cell? ⟨g, 0, none⟩ = some (.slice A T.length c) ∧ w'.cell? ⟨g, 1, none⟩ = some (.int .i64 lo) ∧ w'.cell? ⟨g, 2, none⟩ = some (.int .i64 hi) ∧ w'.cell? ⟨g, 3, none⟩ = some (.int .i64 turn) ∧ w'.cell? ⟨g, 4, none⟩ = some (.int .i64 slew) ∧ w'.cell? ⟨b, k * 3, none⟩ = some (.int .i64 s1) ∧ w'.cell? ⟨b, k * 3 + 1, none⟩ = some (.int .i64 s2) ∧ w'.cell? ⟨b, k * 3 + 2, none⟩ = some (.int .i64 s3)) (go_keep) (first | (go_at_call 107; refine (P.out _ (SlI.below HW.out (by focus ((repeat first | with_reducible exact Below.refl _ _ | (with_reducible refine Below.setCell ?_ ?_ _) | (with_reducible refine Below.alloc ?_ ?_ _) | (with_reducible refine below_drewN ?_ _) | (with_reducible refine Below.drew ?_)); all_goals (first | with_reducible exact Nat.le_refl _ | omega | (simp; done) | (simp; omega) | (omega) | ((try simp); omega)))))).mono ?_; rintro e w2 ⟨rfl, hb2⟩; have hz2 : wr.heap.size ≤ w2.heap.size := (by have := hb2.size; (try simp at this); omega); have : g ≠ w2.heap.size := (by omega); have : w2.heap.size ≠ g := (by omega); have : b ≠ w2.heap.size := (by omega); have : w2.heap.size ≠ b := (by omega); have k0 := ((hb2).cell (p := ⟨g, 0, none⟩) (by simp; omega)).trans (show _ = some (Value.slice A T.length c) from by simp [go_sem, *]); have k1 := ((hb2).cell (p := ⟨g, 1, none⟩) (by simp; omega)).trans (show _ = some (Value.int .i64 lo) from by simp [go_sem, *]); have k2 := ((hb2).cell (p := ⟨g, 2, none⟩) (by simp; omega)).trans (show _ = some (Value.int .i64 hi) from by simp [go_sem, *]); have k3 := ((hb2).cell (p := ⟨g, 3, none⟩) (by simp; omega)).trans (show _ = some (Value.int .i64 turn) from by simp [go_sem, *]); have k4 := ((hb2).cell (p := ⟨g, 4, none⟩) (by simp; omega)).trans (show _ = some (Value.int .i64 slew) from by simp [go_sem, *]); have k5 := ((hb2).cell (p := ⟨b, k * 3, none⟩) (by simp; omega)).trans (show _ = some (Value.int .i64 s1) from by simp [go_sem, *]); have k6 := ((hb2).cell (p := ⟨b, k * 3 + 1, none⟩) (by simp; omega)).trans (show _ = some (Value.int .i64 s2) from by simp [go_sem, *]); have k7 := ((hb2).cell (p := ⟨b, k * 3 + 2, none⟩) (by simp; omega)).trans (show _ = some (Value.int .i64 s3) from by simp [go_sem, *]); (first | (refine (have bx : Box w2 (wr.heap.size) 42 #[.int .i64 0, .int .i64 0, .int .i64 0] := ?_; ?_); (focus (apply Box.via; apply Exists.intro; apply And.intro; (repeat first | with_reducible assumption | with_reducible exact Box.new _ _ _ | ((with_reducible apply Box.newAt); focus (simp; done)) | (with_reducible apply Box.drew) | (with_reducible apply Box.drewN) | (with_reducible apply Box.set) | (with_reducible apply Box.alloc) | (with_reducible apply Box.far) | (with_reducible apply Box.below (hb := hb2))); all_goals (first | with_reducible exact Nat.le_refl _ | omega | (simp; done) | (simp; omega) | (have := hb2.size; (try simp at this); omega) | (have := hb2.size; (try simp at this); (try simp); omega)))); have := bx.lt; have : (w2).cell? ⟨wr.heap.size, 0, none⟩ = some (.int .i64 0) := bx.cell 0; have : (w2).cell? ⟨wr.heap.size, 1, none⟩ = some (.int .i64 0) := bx.cell 1; have : (w2).cell? ⟨wr.heap.size, 2, none⟩ = some (.int .i64 0) := bx.cell 2; have : ∀ o, (w2).frozen? ⟨wr.heap.size, o, none⟩ = false := bx.froz) | skip)) | fail)
          all_goals go_wp2_with fail
          all_goals go_meet
          all_goals refine ⟨_, rfl, rfl, ?_, ?_⟩
          all_goals first | (focus (apply Box.via; apply Exists.intro; apply And.intro; (repeat first | with_reducible assumption | with_reducible exact Box.new _ _ _ | ((with_reducible apply Box.newAt); focus (simp; done)) | (with_reducible apply Box.drew) | (with_reducible apply Box.drewN) | (with_reducible apply Box.set) | (with_reducible apply Box.alloc) | (with_reducible apply Box.far) | (with_reducible apply Box.below (hb := hb2))); all_goals (first | with_reducible exact Nat.le_refl _ | omega | (simp; done) | (simp; omega) | (have := hb2.size; (try simp at this); omega) | (have := hb2.size; (try simp at this); (try simp); omega)))) | (focus ((repeat first | with_reducible exact Below.refl _ _ | (with_reducible refine Below.setCell ?_ ?_ _) | (with_reducible refine Below.alloc ?_ ?_ _) | (with_reducible refine below_drewN ?_ _) | (with_reducible refine Below.drew ?_) | (with_reducible refine Below.trans ?_ (Below.mono hb2 ?_))); all_goals (first | with_reducible exact Nat.le_refl _ | omega | (simp; done) | (simp; omega) | (have := hb2.size; (try simp at this); omega) | (have := hb2.size; (try simp at this); (try simp); omega))))
        case rest =>
          obtain ⟨f, rfl, rfl, hF, hB9⟩ := hcut
          have x0 := hF.cell 0; have x1 := hF.cell 1; have x2 := hF.cell 2
          simp at x0 x1 x2
          have hlf := hF.lt
          have hB9' : Below W5.heap.size W5 wc := hB'.trans (hB9.mono hsz)
          by_cases hre : re = 0
          · have e1 : (re != 0) = false := bneF hre
            have hown9 := own_below hown hB9
            have hnews := Lib.hid (cell_three_new wc (.int .i64 r1) (.int .i64 r2) (.int .i64 r3) 42)
            have hm1 : (k + 1) + 1 ≤ maxLen := by unfold maxLen; omega
            have hm2 : ((k + 1) + 1) * 24 ≤ 140737488355328 := by omega
            have hsz' : W5.heap.size ≤ (wc.alloc (.cells #[.int .i64 r1, .int .i64 r2, .int .i64 r3] 42)).heap.size := by have := hB9'.size; simp; omega
            go_wp2_with (at_builtin; go_must (refine wpList_append_own _ rfl _ _ 38 rfl W5.heap.size 42 j0 zS 3 24 Try.underlying38 hj0 hy0 hy1 hy2 hy3 (by decide) _ _ _ rfl (hown9.alloc _) ⟨wc.heap.size, 0, none⟩ 1 1 [.int .i64 r1, .int .i64 r2, .int .i64 r3] rfl rfl (by simpa using hnews.out) (by simp [Value.oneCell']) hm1 hm2 hsz' ?_); intro v' wx hown1 hgrow1 _)
            have hB1 : Below W5.heap.size W5 wx := (hB9'.alloc hB9'.size _).grown hgrow1 hsz' (fun k e => (hown9.lt k e).1)
            go_roundw
            case rel => exact ⟨k + 1, out ++ [(r1, r2, r3)], (r1, r2, r3), by omega, by go_num, by simp [hol], by rw [List.getElem?_append_right (by omega), hol]; simp, hS.out hre, hR1.out hre, by rw [List.flatMap_append]; exact hown1, hB1⟩
            case measure => simp [intOf]; omega
          · have e1 : (re != 0) = true := bneT hre
            obtain rfl := (hR2.out hre)
            go_wp2_with fail
            go_ret2
            exact ⟨none, ⟨0, rfl⟩, fun j u hj => by simp at hj, by focus ((repeat first | with_reducible exact Below.refl _ _ | (with_reducible refine Below.setCell ?_ ?_ _) | (with_reducible refine Below.alloc ?_ ?_ _) | (with_reducible refine below_drewN ?_ _) | (with_reducible refine Below.drew ?_) | (with_reducible refine Below.trans ?_ (Below.mono hB9 ?_)) | (with_reducible refine Below.trans ?_ (Below.mono hBw ?_))); all_goals (first | with_reducible exact Nat.le_refl _ | omega | (simp; done) | (simp; omega) | (have := hB9.size; (try simp at this); have := hBw.size; (try simp at this); omega) | (have := hB9.size; (try simp at this); have := hBw.size; (try simp at this); (try simp); omega)))⟩
      · have hRR : (out, (0 : Int)) = R := by
          have h1 := hrun.out
          rw [List.drop_eq_nil_of_le (by omega)] at h1
          exact h1
        subst hRR
        have hko := Lib.hid hol
        clear hol
        go_wp2_with fail
        go_ret2
        exact ⟨some ⟨b, 0, none⟩, ⟨cap, ret_t2 (by rw [hko.out]; rfl) rfl⟩, slv_own (by decide) hown, hBw⟩

theorem runOf_c (T : List Int) (A : Option Addr) (c : Nat) (lo hi turn slew : Int) (hs : List Int) (B : Option Addr) (d : Nat) (w : World) (hn : T.length ≤ 1000) (hm : hs.length ≤ 100000) (hT : SlI w A T) (hH : SlI w B hs) :
    Calls Try.prog 50 #[.agg #[.slice A T.length c, .int .i64 lo, .int .i64 hi, .int .i64 turn, .int .i64 slew], .slice B hs.length d] w fun e w' => ∃ D cap, e = .returned (.tuple #[.slice D (runP T lo hi turn slew hs).1.length cap, .int .i64 (runP T lo hi turn slew hs).2]) ∧ SlV w' D ((runP T lo hi turn slew hs).1.flatMap st3V) ∧ Below w.heap.size w w' := by
  by_cases he : (chkL T lo hi turn slew).2 = 0
  · by_cases hl : 60 < hs.length
    · refine (runOf_no T A c lo hi turn slew hs B d w hn hm hT (.inr hl)).mono ?_
      rintro e w' ⟨rfl, hb⟩
      have e1 : (runP T lo hi turn slew hs).1 = [] := by unfold runP; rw [if_neg (by simpa using he), if_pos hl]
      exact ⟨none, 0, by rw [e1]; rfl, by rw [e1]; exact fun j u hj => by simp at hj, hb⟩
    · have e1 : runP T lo hi turn slew hs = runA T lo hi turn slew (0, 0, 0) [(0, 0, 0)] hs := by unfold runP; rw [if_neg (by simpa using he), if_neg hl]
      rw [e1]
      exact runOf_yes T A c lo hi turn slew hs B d w hT hH he (by omega)
  · refine (runOf_no T A c lo hi turn slew hs B d w hn hm hT (.inl he)).mono ?_
    rintro e w' ⟨rfl, hb⟩
    have e1 : (runP T lo hi turn slew hs).1 = [] := by unfold runP; rw [if_pos he]
    exact ⟨none, 0, by rw [e1]; rfl, by rw [e1]; exact fun j u hj => by simp at hj, hb⟩

end Go.Proofs.Ytgbckdmhmkpahaa

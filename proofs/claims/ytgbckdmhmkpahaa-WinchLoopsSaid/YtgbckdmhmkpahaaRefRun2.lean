/-
  The reference of runs (chapter 2): Run.
-/
import Derived.Test.YtgbckdmhmkpahaaRefRun
import Derived.Deep.AppendLies
set_option linter.unusedVariables false
namespace Go.Proofs.Ytgbckdmhmkpahaa
open Go.RowKit Go.Shelf

theorem Box.grown' {w w' : World} {g b : Nat} {t : TypeId} {cs : Array Value} (h : Box w g t cs) (hg : w.grownBy w' (some b)) (hne : g ≠ b) : Box w' g t cs := (hg.block g h.lt (fun e => hne (by injection e))).trans h
theorem own_set {w : World} {base : Nat} {e : TypeId} {sz n cap b : Nat} {xs : List Value} {p : Addr} {u : Value} (h : w.ownsRow base e sz (.slice (some ⟨b, 0, none⟩) n cap) n xs) (hne : b ≠ p.block) : (w.setCell p u).ownsRow base e sz (.slice (some ⟨b, 0, none⟩) n cap) n xs := by
  refine ⟨h.1, ?_⟩
  rcases h.2 with ⟨h2, _⟩ | ⟨g, cap', cur, hv, hg, hh, r⟩
  · cases h2
  · have hgb : g = b := by injection hv with hv; injection hv with hv; injection hv with hv; exact hv.symm
    exact .inr ⟨g, cap', cur, hv, hg, (Below.heap_setCell w p u g (by rw [hgb]; exact hne)).trans hh, r⟩
theorem own_drew {w : World} {base : Nat} {e : TypeId} {sz n : Nat} {v : Value} {xs : List Value} (h : w.ownsRow base e sz v n xs) : w.drew.ownsRow base e sz v n xs := h


set_option maxHeartbeats 4000000 in
set_option maxRecDepth 100000 in
theorem refRun_c (T : List Int) (A : Option Addr) (c : Nat) (lo hi turn slew : Int) (hs : List Int) (B : Option Addr) (d : Nat) (w : World) (hT : SlI w A T) (hH : SlI w B hs) (he : (chkL T lo hi turn slew).2 = 0) (hm : hs.length ≤ 60) :
    Calls Try.prog 54 #[.agg #[.slice A T.length c, .int .i64 lo, .int .i64 hi, .int .i64 turn, .int .i64 slew], .slice B hs.length d] w fun e w' => ∃ D cap, e = .returned (.tuple #[.slice D (runA T lo hi turn slew (0, 0, 0) [(0, 0, 0)] hs).1.length cap, .int .i64 (runA T lo hi turn slew (0, 0, 0) [(0, 0, 0)] hs).2]) ∧ SlV w' D ((runA T lo hi turn slew (0, 0, 0) [(0, 0, 0)] hs).1.flatMap st3V) ∧ Below w.heap.size w w' := by
  obtain ⟨k1, k2, k3, k4, k5, k6, k7⟩ := chkL_ok he
  obtain ⟨j0, zS, hj0, hy0, hy1, hy2, hy3⟩ := infoOk_parts info_St
  have SC := Lib.hid (fun s1 s2 s3 h W h' hv => refStep_c T A c lo hi turn slew s1 s2 s3 h W h' he hv)
  have HS := Lib.hid hT
  have HH := Lib.hid hH
  have SV := Lib.hid (fun (s : St3) (h : Int) (hv : StV T lo hi s) => stp_v (turn := turn) (h := h) hv k3 k4.1 k2)
  have S0 := Lib.hid (st0_v (T := T) k5 k6)
  clear k3 he hT hH
  generalize hR : runA T lo hi turn slew (0, 0, 0) [(0, 0, 0)] hs = R at *
  have HR := Lib.hid hR
  clear hR
  go_enter Try.func54, Try.ntmps54
  go_upto_region 1 with fail
  go_cut [6] (fun s6 wx => s6 = .pointer (some ⟨w.heap.size + 1, 0, none⟩) ∧ Box wx w.heap.size 26 #[.slice A T.length c, .int .i64 lo, .int .i64 hi, .int .i64 turn, .int .i64 slew] ∧ Box wx (w.heap.size + 1) 42 #[.int .i64 0, .int .i64 0, .int .i64 0] ∧ Below w.heap.size w wx)
  case first =>
    go_wp2_with fail
    go_meet
    refine ⟨rfl, ?_, ?_, ?_⟩
    all_goals first | (focus (apply Box.via; apply Exists.intro; apply And.intro; (repeat first | with_reducible assumption | with_reducible exact Box.new _ _ _ | ((with_reducible apply Box.newAt); focus (simp; done)) | (with_reducible apply Box.drew) | (with_reducible apply Box.drewN) | (with_reducible apply Box.set) | (with_reducible apply Box.alloc) | (with_reducible apply Box.far)); all_goals (first | with_reducible exact Nat.le_refl _ | omega | (simp; done) | (simp; omega) | (omega) | ((try simp); omega)))) | (focus ((repeat first | with_reducible exact Below.refl _ _ | (with_reducible refine Below.setCell ?_ ?_ _) | (with_reducible refine Below.alloc ?_ ?_ _) | (with_reducible refine below_drewN ?_ _) | (with_reducible refine Below.drew ?_)); all_goals (first | with_reducible exact Nat.le_refl _ | omega | (simp; done) | (simp; omega) | (omega) | ((try simp); omega))))
  case rest =>
    obtain ⟨rfl, hG, hQ, hB⟩ := hcut
    generalize wc = W5 at *
    have z0 := hQ.cell 0; have z1 := hQ.cell 1; have z2 := hQ.cell 2
    simp at z0 z1 z2
    have hq5 := hQ.lt
    go_wp2_with fail
    obtain ⟨H, hH⟩ : ∃ H, H = W5.heap.size := ⟨_, rfl⟩
    go_loopw [7, 8] (fun o i wr => ∃ (k : Nat) (out : List St3) (s : St3), k ≤ hs.length ∧ i = .int .i64 k ∧ out.length = k + 1 ∧ Hid (StV T lo hi s) ∧ Hid (runA T lo hi turn slew s out (hs.drop k) = R) ∧ wr.ownsRow H 42 3 o (k + 1) (out.flatMap st3V) ∧ Box wr w.heap.size 26 #[.slice A T.length c, .int .i64 lo, .int .i64 hi, .int .i64 turn, .int .i64 slew] ∧ Box wr (w.heap.size + 1) 42 #[.int .i64 s.1, .int .i64 s.2.1, .int .i64 s.2.2] ∧ H ≤ wr.heap.size ∧ Below w.heap.size w wr) (fun _ i _ => hs.length - (intOf i).toNat)
    case atStart => exact ⟨0, [(0, 0, 0)], (0, 0, 0), Nat.zero_le _, rfl, rfl, S0.out, HR.out, hH ▸ own_one W5 42 #[.int .i64 0, .int .i64 0, .int .i64 0] 3 rfl, hG.alloc _, hQ.alloc _, by simp; omega, hB.alloc (by omega) _⟩
    case round =>
      obtain ⟨k, out, s, hk, rfl, hol, hv, hrun, hown, hG', hQ', hHr, hBw⟩ := hrel
      clear hG hQ hB z0 z1 z2
      have HW := Lib.hid (SlI.below HS.out hBw)
      rcases hown.2 with ⟨_, h0⟩ | ⟨b, cap, cur, rfl, hgb, hhb, _⟩
      · omega
      by_cases hlt : k < hs.length
      · obtain ⟨bh, oh, rfl, hbh, hch⟩ := (SlI.below HH.out hBw) k _ (List.getElem?_eq_getElem hlt)
        have hd := List.drop_eq_getElem_cons hlt
        have hrun' := hrun.out
        rw [hd] at hrun'
        generalize hs[k] = h at *
        obtain ⟨s1, s2, s3⟩ := s
        dsimp only at hQ'
        have P := Lib.hid (fun W h' => SC.out s1 s2 s3 h W h' hv.out)
        have hS := Lib.hid (SV.out (s1, s2, s3) h hv.out)
        have hR1 := Lib.hid (fun he' => (runA_ok (T := T) (lo := lo) (hi := hi) (turn := turn) (slew := slew) (s := (s1, s2, s3)) (out := out) (h := h) (hs := hs.drop (k + 1)) he').symm.trans hrun')
        have hR2 := Lib.hid (fun he' => (runA_no (T := T) (lo := lo) (hi := hi) (turn := turn) (slew := slew) (s := (s1, s2, s3)) (out := out) (h := h) (hs := hs.drop (k + 1)) he').symm.trans hrun')
        clear hrun hrun' hd SV SC
        generalize stpP T lo hi turn slew (s1, s2, s3) h = Rs at *
        obtain ⟨⟨r1, r2, r3⟩, re⟩ := Rs
        dsimp only at P hS hR1 hR2
        have i1 : (k : Int) < hs.length := by omega
        have hlb : b < wr.heap.size := (Array.getElem?_eq_some_iff.1 hhb).1
        go_upto_region 6 with fail
        go_cut [9, 10] (fun s9 s10 wx => ∃ f, s9 = .pointer (some ⟨f, 0, none⟩) ∧ s10 = .int .i64 re ∧ Box wx f 42 #[.int .i64 r1, .int .i64 r2, .int .i64 r3] ∧ wr.heap.size ≤ f ∧ Below wr.heap.size wr wx)
        case first =>
          have c00 := hG'.cell 0; have c01 := hG'.cell 1; have c02 := hG'.cell 2; have c03 := hG'.cell 3; have c04 := hG'.cell 4
          have c10 := hQ'.cell 0; have c11 := hQ'.cell 1; have c12 := hQ'.cell 2
          simp at c00 c01 c02 c03 c04 c10 c11 c12
          have hlg := hG'.lt; have hlq := hQ'.lt
          have : w.heap.size ≠ wr.heap.size := (by omega); have : wr.heap.size ≠ w.heap.size := (by omega)
          have : w.heap.size + 1 ≠ wr.heap.size := (by omega); have : wr.heap.size ≠ w.heap.size + 1 := (by omega)
          have : bh ≠ wr.heap.size := (by omega); have : wr.heap.size ≠ bh := (by omega)
          go_region_held3 (fun w' => w'.cell? ⟨w.heap.size, 0, none⟩ = some (.slice A T.length c) ∧ w'.cell? ⟨w.heap.size, 1, none⟩ = some (.int .i64 lo) ∧ w'.cell? ⟨w.heap.size, 2, none⟩ = some (.int .i64 hi) ∧ w'.cell? ⟨w.heap.size, 3, none⟩ = some (.int .i64 turn) ∧ w'.cell? ⟨w.heap.size, 4, none⟩ = some (.int .i64 slew) ∧ w'.cell? ⟨w.heap.size + 1, 0, none⟩ = some (.int .i64 s1) ∧ w'.cell? ⟨w.heap.size + 1, 1, none⟩ = some (.int .i64 s2) ∧ w'.cell? ⟨w.heap.size + 1, 2, none⟩ = some (.int .i64 s3) ∧ w'.cell? ⟨bh, oh + k, none⟩ = some (.int .i64 h)) (go_keep) (first | (go_at_call 53; refine (P.out _ (SlI.below HW.out (by focus ((repeat first | with_reducible exact Below.refl _ _ | (with_reducible refine Below.setCell ?_ ?_ _) | (with_reducible refine Below.alloc ?_ ?_ _) | (with_reducible refine below_drewN ?_ _) | (with_reducible refine Below.drew ?_)); all_goals (first | with_reducible exact Nat.le_refl _ | omega | (simp; done) | (simp; omega) | (omega) | ((try simp); omega)))))).mono ?_; rintro e w2 ⟨rfl, hb2⟩; have hz2 : wr.heap.size ≤ w2.heap.size := (by have := hb2.size; (try simp at this); omega); have : w.heap.size ≠ w2.heap.size := (by omega); have : w2.heap.size ≠ w.heap.size := (by omega); have : w.heap.size + 1 ≠ w2.heap.size := (by omega); have : w2.heap.size ≠ w.heap.size + 1 := (by omega); have : bh ≠ w2.heap.size := (by omega); have : w2.heap.size ≠ bh := (by omega); have k0 := ((hb2).cell (p := ⟨w.heap.size, 0, none⟩) (by simp; omega)).trans (show _ = some (Value.slice A T.length c) from by simp [go_sem, *]); have k1 := ((hb2).cell (p := ⟨w.heap.size, 1, none⟩) (by simp; omega)).trans (show _ = some (Value.int .i64 lo) from by simp [go_sem, *]); have k2 := ((hb2).cell (p := ⟨w.heap.size, 2, none⟩) (by simp; omega)).trans (show _ = some (Value.int .i64 hi) from by simp [go_sem, *]); have k3 := ((hb2).cell (p := ⟨w.heap.size, 3, none⟩) (by simp; omega)).trans (show _ = some (Value.int .i64 turn) from by simp [go_sem, *]); have k4 := ((hb2).cell (p := ⟨w.heap.size, 4, none⟩) (by simp; omega)).trans (show _ = some (Value.int .i64 slew) from by simp [go_sem, *]); have k5 := ((hb2).cell (p := ⟨w.heap.size + 1, 0, none⟩) (by simp; omega)).trans (show _ = some (Value.int .i64 s1) from by simp [go_sem, *]); have k6 := ((hb2).cell (p := ⟨w.heap.size + 1, 1, none⟩) (by simp; omega)).trans (show _ = some (Value.int .i64 s2) from by simp [go_sem, *]); have k7 := ((hb2).cell (p := ⟨w.heap.size + 1, 2, none⟩) (by simp; omega)).trans (show _ = some (Value.int .i64 s3) from by simp [go_sem, *]); have k8 := ((hb2).cell (p := ⟨bh, oh + k, none⟩) (by simp; omega)).trans (show _ = some (Value.int .i64 h) from by simp [go_sem, *]); (first | (refine (have bx : Box w2 (wr.heap.size) 42 #[.int .i64 0, .int .i64 0, .int .i64 0] := ?_; ?_); (focus (apply Box.via; apply Exists.intro; apply And.intro; (repeat first | with_reducible assumption | with_reducible exact Box.new _ _ _ | ((with_reducible apply Box.newAt); focus (simp; done)) | (with_reducible apply Box.drew) | (with_reducible apply Box.drewN) | (with_reducible apply Box.set) | (with_reducible apply Box.alloc) | (with_reducible apply Box.far) | (with_reducible apply Box.below (hb := hb2))); all_goals (first | with_reducible exact Nat.le_refl _ | omega | (simp; done) | (simp; omega) | (have := hb2.size; (try simp at this); omega) | (have := hb2.size; (try simp at this); (try simp); omega)))); have := bx.lt; have : (w2).cell? ⟨wr.heap.size, 0, none⟩ = some (.int .i64 0) := bx.cell 0; have : (w2).cell? ⟨wr.heap.size, 1, none⟩ = some (.int .i64 0) := bx.cell 1; have : (w2).cell? ⟨wr.heap.size, 2, none⟩ = some (.int .i64 0) := bx.cell 2; have : ∀ o, (w2).frozen? ⟨wr.heap.size, o, none⟩ = false := bx.froz) | skip)) | fail)
          all_goals go_wp2_with fail
          all_goals go_meet
          all_goals refine ⟨_, rfl, rfl, ?_, ?_, ?_⟩
          all_goals first | (focus (apply Box.via; apply Exists.intro; apply And.intro; (repeat first | with_reducible assumption | with_reducible exact Box.new _ _ _ | ((with_reducible apply Box.newAt); focus (simp; done)) | (with_reducible apply Box.drew) | (with_reducible apply Box.drewN) | (with_reducible apply Box.set) | (with_reducible apply Box.alloc) | (with_reducible apply Box.far) | (with_reducible apply Box.below (hb := hb2))); all_goals (first | with_reducible exact Nat.le_refl _ | omega | (simp; done) | (simp; omega) | (have := hb2.size; (try simp at this); omega) | (have := hb2.size; (try simp at this); (try simp); omega)))) | (focus ((repeat first | with_reducible exact Below.refl _ _ | (with_reducible refine Below.setCell ?_ ?_ _) | (with_reducible refine Below.alloc ?_ ?_ _) | (with_reducible refine below_drewN ?_ _) | (with_reducible refine Below.drew ?_) | (with_reducible refine Below.trans ?_ (Below.mono hb2 ?_))); all_goals (first | with_reducible exact Nat.le_refl _ | omega | (simp; done) | (simp; omega) | (have := hb2.size; (try simp at this); omega) | (have := hb2.size; (try simp at this); (try simp); omega))))
        case rest =>
          obtain ⟨f, rfl, rfl, hF, hfw, hB9'⟩ := hcut
          have x0 := hF.cell 0; have x1 := hF.cell 1; have x2 := hF.cell 2
          simp at x0 x1 x2
          have hlf := hF.lt
          have hlg := hG'.lt; have hlq := hQ'.lt
          have hG9 := hG'.below hB9' hlg
          have hQ9 := hQ'.below hB9' hlq
          have hB9 : Below w.heap.size w wc := hBw.trans (hB9'.mono hBw.size)
          have hs9 := hB9'.size
          by_cases hre : re = 0
          · have e1 : (re != 0) = false := bneF hre
            have hown9 := own_below hown hB9'
            go_upto_region 9 with fail
            generalize wc = W9 at *
            have hnews := Lib.hid (cell_three_new W9.drew (.int .i64 r1) (.int .i64 r2) (.int .i64 r3) 42)
            have hm1 : (k + 1) + 1 ≤ maxLen := by unfold maxLen; omega
            have hm2 : ((k + 1) + 1) * 24 ≤ 140737488355328 := by omega
            have hsz' : H ≤ (W9.drew.alloc (.cells #[.int .i64 r1, .int .i64 r2, .int .i64 r3] 42)).heap.size := by simp; omega
            have : f ≠ W9.heap.size := (by omega); have : W9.heap.size ≠ f := (by omega)
            have : f ≠ w.heap.size + 1 := (by omega); have : w.heap.size + 1 ≠ f := (by omega)
            go_region_held3 (fun w' => w'.cell? ⟨f, 0, none⟩ = some (.int .i64 r1) ∧ w'.cell? ⟨f, 1, none⟩ = some (.int .i64 r2) ∧ w'.cell? ⟨f, 2, none⟩ = some (.int .i64 r3)) (simp (maxDischargeDepth := 9) [*, World.cell?_alloc_some, World.cell?_setCell_far]) (first | (refine step_append_lies _ rfl _ _ 38 rfl H 42 j0 zS 3 24 Try.underlying38 hj0 hy0 hy1 hy2 hy3 (by decide) (.slice (some ⟨b, 0, none⟩) (k + 1) cap) _ _ rfl ((own_drew hown9).alloc _) ⟨W9.heap.size, 0, none⟩ 1 1 [.int .i64 r1, .int .i64 r2, .int .i64 r3] rfl rfl hnews.out (by simp [Value.oneCell']) (by decide) hm1 hm2 hsz' _ rfl ?_; intro g' cap' w5 hown1 hgrow hat hlt5; (have p9 : Box w5 f 42 #[.int .i64 r1, .int .i64 r2, .int .i64 r3] := Box.grown' (b := b) (((hF.drew).alloc _)) hgrow (by omega)); (have pq : Box w5 (w.heap.size + 1) 42 #[.int .i64 s1, .int .i64 s2, .int .i64 s3] := Box.grown' (b := b) (((hQ9.drew).alloc _)) hgrow (by omega)); (have pg : Box w5 w.heap.size 26 #[.slice A T.length c, .int .i64 lo, .int .i64 hi, .int .i64 turn, .int .i64 slew] := Box.grown' (b := b) (((hG9.drew).alloc _)) hgrow (by omega)); (have : w5.cell? ⟨f, 0, none⟩ = some (.int .i64 r1) := p9.cell 0); (have : w5.cell? ⟨f, 1, none⟩ = some (.int .i64 r2) := p9.cell 1); (have : w5.cell? ⟨f, 2, none⟩ = some (.int .i64 r3) := p9.cell 2); (have : w5.cell? ⟨w.heap.size + 1, 0, none⟩ = some (.int .i64 s1) := pq.cell 0); (have : w5.cell? ⟨w.heap.size + 1, 1, none⟩ = some (.int .i64 s2) := pq.cell 1); (have : w5.cell? ⟨w.heap.size + 1, 2, none⟩ = some (.int .i64 s3) := pq.cell 2); (have : ∀ o, w5.frozen? ⟨w.heap.size + 1, o, none⟩ = false := pq.froz); (have hB5 : Below w.heap.size w w5 := ((hB9.drew).alloc hB9.size _).grown hgrow (Nat.le_trans (by omega) hsz') (fun k e => Nat.le_trans (by omega) (hown9.lt k e).1)); (have hs6 : H ≤ w5.heap.size := Nat.le_trans hsz' hgrow.size); (have hgne : g' ≠ w.heap.size + 1 := hat.elim (fun e => (by have h2 : b = g' := (by simpa [Value.ownBlock] using e); omega)) (fun e => (by have h2 : (W9.alloc (.cells #[.int .i64 r1, .int .i64 r2, .int .i64 r3] 42)).heap.size = g' := e.symm; simp at h2; omega)))) | fail)
            go_wp2_with fail
            go_roundw
            case rel =>
              refine ⟨k + 1, out ++ [(r1, r2, r3)], (r1, r2, r3), by omega, by go_num, by simp [hol], hS.out hre, hR1.out hre, ?_, ?_, ?_, ?_, ?_⟩
              · rw [List.flatMap_append]
                refine own_set (own_set (own_set hown1 ?_) ?_) ?_
                all_goals exact hgne
              · focus (apply Box.via; apply Exists.intro; apply And.intro; (repeat first | with_reducible assumption | with_reducible exact Box.new _ _ _ | ((with_reducible apply Box.newAt); focus (simp; done)) | (with_reducible apply Box.drew) | (with_reducible apply Box.drewN) | (with_reducible apply Box.set) | (with_reducible apply Box.alloc) | (with_reducible apply Box.far)); all_goals (first | with_reducible exact Nat.le_refl _ | omega | (simp; done) | (simp; omega) | (omega) | ((try simp); omega)))
              · focus (apply Box.via; apply Exists.intro; apply And.intro; (repeat first | with_reducible assumption | with_reducible exact Box.new _ _ _ | ((with_reducible apply Box.newAt); focus (simp; done)) | (with_reducible apply Box.drew) | (with_reducible apply Box.drewN) | (with_reducible apply Box.set) | (with_reducible apply Box.alloc) | (with_reducible apply Box.far)); all_goals (first | with_reducible exact Nat.le_refl _ | omega | (simp; done) | (simp; omega) | (omega) | ((try simp); omega)))
              · simp; omega
              · focus ((repeat first | with_reducible exact Below.refl _ _ | (with_reducible refine Below.setCell ?_ ?_ _) | (with_reducible refine Below.alloc ?_ ?_ _) | (with_reducible refine below_drewN ?_ _) | (with_reducible refine Below.drew ?_) | (with_reducible refine Below.trans ?_ (Below.mono hB5 ?_))); all_goals (first | with_reducible exact Nat.le_refl _ | omega | (simp; done) | (simp; omega) | (have := hB5.size; (try simp at this); omega) | (have := hB5.size; (try simp at this); (try simp); omega)))
            case measure => simp [intOf]; omega
          · have e1 : (re != 0) = true := bneT hre
            obtain rfl := (hR2.out hre)
            go_wp2_with fail
            go_ret2
            exact ⟨none, ⟨0, rfl⟩, fun j u hj => by simp at hj, hB9⟩
      · have hRR : (out, (0 : Int)) = R := by
          have h1 := hrun.out
          rw [List.drop_eq_nil_of_le (by omega)] at h1
          exact h1
        subst hRR
        have hko := Lib.hid hol
        clear hol
        go_wp2_with fail
        go_ret2
        exact ⟨some ⟨b, 0, none⟩, ⟨cap, ret_t2 (by rw [hko.out]; rfl) rfl⟩, slv_own (by decide) hown, hBw⟩

end Go.Proofs.Ytgbckdmhmkpahaa

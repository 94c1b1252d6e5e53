/-
  The law WinchEquations (chapter 2): the walk (under way).
-/
import Derived.Test.YtgbckdmhmkpahaaEqR
import Derived.Test.YtgbckdmhmkpahaaInts
import Derived.Deep.DeepCutAuto
import Derived.Deep.AppendLies
import Derived.Deep.CutBlock
set_option linter.unusedVariables false
namespace Go.Proofs.Ytgbckdmhmkpahaa
open Go.RowKit Go.Shelf
attribute [local go_sem ↓] eqlO_pr neqO_pr eqlO_fr neqO_fr

theorem Box.vn {w1 w2 : World} {t : TypeId} {cs : Array Value} (hb : Below (w1.alloc (.cells cs t)).heap.size (w1.alloc (.cells cs t)) w2) : Box w2 w1.heap.size t cs := (Box.new w1 t cs).below hb (by simp)
theorem Box.vnD {w1 w2 : World} {t : TypeId} {cs : Array Value} (hb : Below ((w1.alloc (.cells cs t)).drew).heap.size (w1.alloc (.cells cs t)).drew w2) : Box w2 w1.heap.size t cs := ((Box.new w1 t cs).drew).below hb (Box.new w1 t cs).lt
theorem Box.vo {w1 w2 : World} {g : Nat} {t : TypeId} {cs : Array Value} (h : Box w1 g t cs) (hb : Below w1.heap.size w1 w2) : Box w2 g t cs := h.below hb h.lt

set_option maxHeartbeats 8000000 in
set_option maxRecDepth 100000 in
theorem winchEquations_in (xs : List Int) (A : Option Addr) (c : Nat) (a b f s cn : Int) (w : World) (hn : xs.length ≤ 20) (hi : eqIn a b f s cn = true) (hs : SlI w A xs) :
    Calls Try.prog 8 #[.slice A xs.length c, .agg #[.int .i64 a, .int .i64 b, .int .i64 f, .int .i64 s, .int .i64 cn]] w fun e w' => e = .returned (.bool true) ∧ Below w.heap.size w w' := by
  obtain ⟨i0, hi0, hz0, hz1, hz2⟩ := info_parts info_Int
  have HS := Lib.hid hs
  have hI : inB a (-3) 3 = true ∧ inB b (-3) 3 = true ∧ inB f (-100) 100 = true ∧ inB s (-100) 100 = true ∧ inB cn 0 20 = true := by
    revert hi
    unfold eqIn
    cases inB a (-3) 3 <;> cases inB b (-3) 3 <;> cases inB f (-100) 100 <;> cases inB s (-100) 100 <;> cases inB cn 0 20 <;> simp
  obtain ⟨i1, i2, i3, i4, i5⟩ := hI
  have j1 := inB_true.1 i1; have j2 := inB_true.1 i2; have j3 := inB_true.1 i3; have j4 := inB_true.1 i4; have j5 := inB_true.1 i5
  have d1 : decide ((20 : Int) < (xs.length : Int)) = false := decide_eq_false (by omega)
  have d2 : decide (20 < xs.length) = false := decide_eq_false (by omega)
  have d3 : ¬ 20 < xs.length := by omega
  clear hi hs
  go_enter Try.func8, Try.ntmps8
  go_upto_region 5 with (first | (go_at_call 15; refine (awake_c _).mono ?_; rintro e w1 ⟨rfl, hb1⟩; (have q : Box w1 w.heap.size 85 #[.int .i64 a, .int .i64 b, .int .i64 f, .int .i64 s, .int .i64 cn] := (by focus (apply Box.via; apply Exists.intro; apply And.intro; (repeat first | with_reducible assumption | with_reducible exact Box.new _ _ _ | ((with_reducible apply Box.newAt); focus (simp; done)) | (with_reducible apply Box.drew) | (with_reducible apply Box.drewN) | (with_reducible apply Box.set) | (with_reducible apply Box.alloc) | (with_reducible apply Box.far) | (with_reducible apply Box.below (hb := hb1))); all_goals (first | with_reducible exact Nat.le_refl _ | omega | (simp; done) | (simp; omega) | (have := hb1.size; (try simp at this); omega) | (have := hb1.size; (try simp at this); (try simp); omega))))); (have hlq := q.lt); (have c0 : w1.cell? ⟨w.heap.size, 0, none⟩ = some (.int .i64 a) := q.cell 0); (have c1 : w1.cell? ⟨w.heap.size, 1, none⟩ = some (.int .i64 b) := q.cell 1); (have c2 : w1.cell? ⟨w.heap.size, 2, none⟩ = some (.int .i64 f) := q.cell 2); (have c3 : w1.cell? ⟨w.heap.size, 3, none⟩ = some (.int .i64 s) := q.cell 3); (have c4 : w1.cell? ⟨w.heap.size, 4, none⟩ = some (.int .i64 cn) := q.cell 4)) | (go_at_call 37; refine (within_b _ _ _ _).mono ?_; rintro e w' ⟨rfl, rfl⟩) | fail)
  have hB : Below w.heap.size w w1 := by focus ((repeat first | with_reducible exact Below.refl _ _ | (with_reducible refine Below.setCell ?_ ?_ _) | (with_reducible refine Below.alloc ?_ ?_ _) | (with_reducible refine below_drewN ?_ _) | (with_reducible refine Below.drew ?_) | (with_reducible refine Below.trans ?_ (Below.mono hb1 ?_))); all_goals (first | with_reducible exact Nat.le_refl _ | omega | (simp; done) | (simp; omega) | (have := hb1.size; (try simp at this); omega) | (have := hb1.size; (try simp at this); (try simp); omega)))
  clear hb1
  generalize w1 = W5 at *
  have hsz0 := hB.size
  clear i1 i2 i3 i4 i5 d1 d2 d3
  go_upto_block 0 with fail
  go_cut [5] (fun s5 wx => ∃ (L : List Int) (g cap : Nat), s5 = .slice (some ⟨g, 0, none⟩) L.length cap ∧ Hid (Rec a b L) ∧ SlI wx (some ⟨g, 0, none⟩) L ∧ Box wx w.heap.size 85 #[.int .i64 a, .int .i64 b, .int .i64 f, .int .i64 s, .int .i64 cn] ∧ Below w.heap.size w wx)
  case first => as_aux_lemma =>
    go_wp2_with fail
    go_loopw [5, 6] (fun o n wr => ∃ L : List Int, Hid (Rec a b L) ∧ wr.ownsRow W5.heap.size 3 1 o L.length (L.map (Value.int .i64)) ∧ W5.heap.size ≤ wr.heap.size ∧ Box wr w.heap.size 85 #[.int .i64 a, .int .i64 b, .int .i64 f, .int .i64 s, .int .i64 cn] ∧ Below w.heap.size w wr) (fun o _ _ => 21 - lenV o)
    case atStart => exact ⟨[f, s], rec_two j3 j4, own_two W5 3 _ _, by simp, q.alloc _, hB.alloc hsz0 _⟩
    case round =>
      obtain ⟨L, hrec, hown, hsz, hq, hB'⟩ := hrel
      have hl2 := hrec.out.1; have hl20 := hrec.out.2.1; have hbd := hrec.out.2.2.1
      rcases hown.2 with ⟨_, h0⟩ | ⟨g, cap, cur, rfl, hgb, hhb, _⟩
      · omega
      have HL := Lib.hid (sli_own hown)
      have c0 := hq.cell 0; have c1 := hq.cell 1; have c2 := hq.cell 2; have c3 := hq.cell 3; have c4 := hq.cell 4
      simp at c0 c1 c2 c3 c4
      have hlq' := hq.lt
      by_cases hlt : (L.length : Int) < cn
      · have e1 : decide ((L.length : Int) < cn) = true := decide_eq_true hlt
        obtain ⟨g1, o1, eg1, _, hx⟩ := HL.out (L.length - 1) _ (List.getElem?_eq_getElem (by omega))
        obtain ⟨g2, o2, eg2, _, hy⟩ := HL.out (L.length - 2) _ (List.getElem?_eq_getElem (by omega))
        obtain ⟨rfl, rfl⟩ : g = g1 ∧ o1 = 0 := by simpa [eq_comm] using eg1
        obtain ⟨rfl, rfl⟩ : g = g2 ∧ o2 = 0 := by simpa [eq_comm] using eg2
        simp only [Nat.zero_add] at hx hy
        have bx := hbd _ (List.getElem_mem (show L.length - 1 < L.length by omega))
        have by' := hbd _ (List.getElem_mem (show L.length - 2 < L.length by omega))
        have E := Lib.hid (show a * L[L.length - 1]'(by omega) + b * L[L.length - 2]'(by omega) = a * L.getD (L.length - 1) 0 + b * L.getD (L.length - 2) 0 from by
          rw [List.getD_eq_getElem?_getD, List.getD_eq_getElem?_getD, List.getElem?_eq_getElem (by omega), List.getElem?_eq_getElem (by omega)]; rfl)
        generalize L[L.length - 1]'(by omega) = x at *
        generalize L[L.length - 2]'(by omega) = y at *
        have m1 := mul_le_sq (x := a) (y := x) (by omega) bx
        have m2 := mul_le_sq (x := b) (y := y) (by omega) by'
        have v1 : IntKind.i64.wrap (a * x) = a * x := IntWalk.i64_in _ (by omega)
        have v2 : IntKind.i64.wrap (b * y) = b * y := IntWalk.i64_in _ (by omega)
        have v3 : IntKind.i64.wrap (a * x + b * y) = a * x + b * y := IntWalk.i64_in _ (by omega)
        have v4 : IntKind.i64.wrap ((L.length : Int) - 1) = (L.length : Int) - 1 := IntWalk.i64_in _ (by omega)
        have v5 : IntKind.i64.wrap ((L.length : Int) - 2) = (L.length : Int) - 2 := IntWalk.i64_in _ (by omega)
        have n1 : ((L.length : Int) - 1).toNat = L.length - 1 := by omega
        have n2 : ((L.length : Int) - 2).toNat = L.length - 2 := by omega
        have n3 : ((L.length : Int) - 1) < L.length := by omega
        have n4 : ((L.length : Int) - 2) < L.length := by omega
        have n5 : (0 : Int) ≤ (L.length : Int) - 1 := by omega
        have n6 : (0 : Int) ≤ (L.length : Int) - 2 := by omega
        have n7 : (1 : Int) ≤ L.length := by omega
        have n8 : (2 : Int) ≤ L.length := by omega
        have n9 : 1 ≤ L.length := by omega
        go_upto_region 7 with fail
        go_quiet (fail)
        generalize a * x + b * y = nn at *
        clear hx hy eg1 eg2 m1 m2 v1 v2 bx by'
        cases hw : inB nn (-100) 100 with
        | true =>
          have jw := inB_true.1 hw
          have hm1 : L.length + 1 ≤ maxLen := by unfold maxLen; omega
          have hm2 : (L.length + 1) * 8 ≤ 140737488355328 := by omega
          have hsz' : W5.heap.size ≤ (wr.alloc (.cells #[.int .i64 nn] 3)).heap.size := by simp; omega
          go_wp2_with (first | (go_at_call 37; refine (within_b _ _ _ _).mono ?_; rintro e w' ⟨rfl, rfl⟩) | (at_builtin; refine wpList_append_lies _ rfl _ _ 22 rfl W5.heap.size 3 i0 (.int .i64 0) 1 8 Try.underlying22 hi0 hz0 hz1 hz2 rfl (by decide) (.slice (some ⟨g, 0, none⟩) L.length cap) L.length (L.map (Value.int .i64)) rfl (World.ownsRow.alloc (show World.ownsRow _ _ _ _ _ _ _ from hown) _) ⟨wr.heap.size, 0, none⟩ 1 1 [.int .i64 nn] rfl rfl (cell_one_new _ _ _) (by simp [Value.oneCell']) (by decide) hm1 hm2 hsz' _ rfl ?_; intro g' cap' wx hown1 hgrow1 hat1 hlt1) | fail)
          go_roundw
          case rel =>
            refine ⟨L ++ [nn], rec_more hrec.out (by omega) jw E.out, by simpa using hown1, ?_, ?_, ?_⟩
            · have := hgrow1.size
              have h2 : wr.heap.size ≤ (wr.alloc (.cells #[.int .i64 nn] 3)).heap.size := by simp
              exact Nat.le_trans hsz (Nat.le_trans h2 this)
            · exact Box.grown (Box.alloc (w := wr.drewN nq) (show Box (wr.drewN nq) _ _ _ from hq) _) (World.ownsRow.alloc (show World.ownsRow (wr.drewN nq) _ _ _ _ _ _ from hown) _) (by decide) hgrow1
            · exact ((below_drewN hB' _).alloc (show _ ≤ _ from hB'.size) _).grown hgrow1 (Nat.le_trans hsz0 hsz') (fun k e => Nat.le_trans hsz0 (hown.lt k e).1)
          case measure => simp [lenV]; omega
        | false =>
          go_wp2_with (first | (go_at_call 37; refine (within_b _ _ _ _).mono ?_; rintro e w' ⟨rfl, rfl⟩) | fail)
          go_meet
          exact ⟨L, g, cap, rfl, hrec, HL.out, hq, below_drewN hB' _⟩
      · have e1 : decide ((L.length : Int) < cn) = false := decide_eq_false hlt
        go_wp2_with fail
        go_meet
        exact ⟨L, g, cap, rfl, hrec, HL.out, hq, hB'⟩
  case rest =>
    clear q hB c0 c1 c2 c3 c4 hlq hsz0
    obtain ⟨L, g, cap, rfl, hrec, hL, q, hB⟩ := hcut
    generalize wc = W5 at *
    have hL := Lib.hid hL
    go_upto_if 100 with fail
    go_cut [] (fun wx => Box wx w.heap.size 85 #[.int .i64 a, .int .i64 b, .int .i64 f, .int .i64 s, .int .i64 cn] ∧ Below w.heap.size w wx)
    case first => as_aux_lemma =>
      by_cases h4 : 4 ≤ L.length
      · have e4 : decide ((4 : Int) ≤ (L.length : Int)) = true := decide_eq_true (by omega)
        have hl20 := hrec.out.2.1; have hbd := Lib.hid hrec.out.2.2.1
        have CI := Lib.hid (fun W h => copyInts_c L (some ⟨g, 0, none⟩) cap W (by omega) h)
        have PO := Lib.hid (fun A c W h => predictorOf_c L A c W (by omega) h)
        have RO := Lib.hid (fun A c W h => residualOf_c L A c W (by omega) h)
        have NB := Lib.hid (fun A c W h => next_own a b L A c W j1 j2 hrec.out h4 h)
        have F0 := Lib.hid (fun hd => own_det0 (xs := L) (rec_chk hrec.out h4) hd)
        have F1 := Lib.hid (fun hd => rec_own hrec.out h4 hd)
        have NX := Lib.hid (show nxtN L a b = a * L[L.length - 1]'(by omega) + b * L[L.length - 2]'(by omega) by unfold nxtN; simp [show L.length - 1 < L.length by omega, show L.length - 2 < L.length by omega])
        generalize nxtN L a b = nx at *
        generalize pofP L = QQ at *
        generalize rofP L = RR at *
        generalize detS L = dt at *
        obtain ⟨⟨q1, q2, q3⟩, fe⟩ := QQ
        obtain ⟨⟨r1, r2⟩, ge⟩ := RR
        dsimp only at PO RO F0 F1
        have HS := hL
        (have c0 := q.cell 0; have c1 := q.cell 1; have c2 := q.cell 2; have c3 := q.cell 3; have c4 := q.cell 4; simp at c0 c1 c2 c3 c4; have hlq := q.lt)
        go_upto_region 11 with fail
        go_cut [7, 8] (fun s7 s8 wx => ∃ p, s7 = .pointer (some ⟨p, 0, none⟩) ∧ s8 = .int .i64 fe ∧ Box wx p 45 #[.int .i64 q1, .int .i64 q2, .int .i64 q3] ∧ SlI wx (some ⟨g, 0, none⟩) L ∧ Box wx w.heap.size 85 #[.int .i64 a, .int .i64 b, .int .i64 f, .int .i64 s, .int .i64 cn] ∧ Below w.heap.size w wx)
        case first => as_aux_lemma =>
          go_wp2_with (first | (go_at_call 24; refine (CI.out _ (SlI.below HS.out (by focus ((repeat first | with_reducible exact Below.refl _ _ | (with_reducible refine Below.setCell ?_ ?_ _) | (with_reducible refine Below.alloc ?_ ?_ _) | (with_reducible refine below_drewN ?_ _) | (with_reducible refine Below.drew ?_)); all_goals (first | with_reducible exact Nat.le_refl _ | omega | (simp; done) | (simp; omega) | (omega) | ((try simp); omega)))))).mono ?_; rintro e w2 ⟨D, d', rfl, hD, hb2⟩) | (go_at_call 40; refine (PO.out _ _ _ (SlI.below hD (by focus ((repeat first | with_reducible exact Below.refl _ _ | (with_reducible refine Below.setCell ?_ ?_ _) | (with_reducible refine Below.alloc ?_ ?_ _) | (with_reducible refine below_drewN ?_ _) | (with_reducible refine Below.drew ?_)); all_goals (first | with_reducible exact Nat.le_refl _ | omega | (simp; done) | (simp; omega) | (omega) | ((try simp); omega)))))).mono ?_; rintro e w3 ⟨rfl, hb3⟩) | fail)
          go_meet
          refine ⟨_, rfl, rfl, ?_, SlI.below hL.out (by focus ((repeat first | with_reducible exact Below.refl _ _ | (with_reducible refine Below.setCell ?_ ?_ _) | (with_reducible refine Below.alloc ?_ ?_ _) | (with_reducible refine below_drewN ?_ _) | (with_reducible refine Below.drew ?_) | (with_reducible refine Below.trans ?_ (Below.mono hb2 ?_)) | (with_reducible refine Below.trans ?_ (Below.mono hb3 ?_))); all_goals (first | with_reducible exact Nat.le_refl _ | omega | (simp; done) | (simp; omega) | (have := hb2.size; (try simp at this); have := hb3.size; (try simp at this); omega) | (have := hb2.size; (try simp at this); have := hb3.size; (try simp at this); (try simp); omega)))), ?_, ?_⟩
          all_goals first | (focus (apply Box.via; apply Exists.intro; apply And.intro; (repeat first | with_reducible assumption | with_reducible exact Box.new _ _ _ | ((with_reducible apply Box.newAt); focus (simp; done)) | (with_reducible apply Box.drew) | (with_reducible apply Box.drewN) | (with_reducible apply Box.set) | (with_reducible apply Box.alloc) | (with_reducible apply Box.far) | (with_reducible apply Box.below (hb := hb2)) | (with_reducible apply Box.below (hb := hb3))); all_goals (first | with_reducible exact Nat.le_refl _ | omega | (simp; done) | (simp; omega) | (have := hb2.size; (try simp at this); have := hb3.size; (try simp at this); omega) | (have := hb2.size; (try simp at this); have := hb3.size; (try simp at this); (try simp); omega)))) | (focus ((repeat first | with_reducible exact Below.refl _ _ | (with_reducible refine Below.setCell ?_ ?_ _) | (with_reducible refine Below.alloc ?_ ?_ _) | (with_reducible refine below_drewN ?_ _) | (with_reducible refine Below.drew ?_) | (with_reducible refine Below.trans ?_ (Below.mono hb2 ?_)) | (with_reducible refine Below.trans ?_ (Below.mono hb3 ?_)) | (with_reducible refine Below.trans ?_ (Below.mono hB ?_))); all_goals (first | with_reducible exact Nat.le_refl _ | omega | (simp; done) | (simp; omega) | (have := hb2.size; (try simp at this); have := hb3.size; (try simp at this); have := hB.size; (try simp at this); omega) | (have := hb2.size; (try simp at this); have := hb3.size; (try simp at this); have := hB.size; (try simp at this); (try simp); omega))))
        case rest =>
          clear q hB c0 c1 c2 c3 c4 hlq hL HS
          obtain ⟨p, rfl, rfl, hP, HS, q, hB⟩ := hcut
          have HS := Lib.hid HS
          generalize wc = W5 at *
          go_upto_region 12 with fail
          go_cut [9, 10] (fun s9 s10 wx => ∃ fp, s9 = .pointer (some ⟨fp, 0, none⟩) ∧ s10 = .int .i64 ge ∧ Box wx fp 47 #[.int .i64 r1, .int .i64 r2] ∧ Box wx p 45 #[.int .i64 q1, .int .i64 q2, .int .i64 q3] ∧ SlI wx (some ⟨g, 0, none⟩) L ∧ Box wx w.heap.size 85 #[.int .i64 a, .int .i64 b, .int .i64 f, .int .i64 s, .int .i64 cn] ∧ Below w.heap.size w wx)
          case first => as_aux_lemma =>
            have hlp := hP.lt; have hlq := q.lt
            go_wp2_with (first | (go_at_call 24; refine (CI.out _ (SlI.below HS.out (by focus ((repeat first | with_reducible exact Below.refl _ _ | (with_reducible refine Below.setCell ?_ ?_ _) | (with_reducible refine Below.alloc ?_ ?_ _) | (with_reducible refine below_drewN ?_ _) | (with_reducible refine Below.drew ?_)); all_goals (first | with_reducible exact Nat.le_refl _ | omega | (simp; done) | (simp; omega) | (omega) | ((try simp); omega)))))).mono ?_; rintro e w2 ⟨D, d', rfl, hD, hb2⟩) | (go_at_call 41; refine (RO.out _ _ _ (SlI.below hD (by focus ((repeat first | with_reducible exact Below.refl _ _ | (with_reducible refine Below.setCell ?_ ?_ _) | (with_reducible refine Below.alloc ?_ ?_ _) | (with_reducible refine below_drewN ?_ _) | (with_reducible refine Below.drew ?_)); all_goals (first | with_reducible exact Nat.le_refl _ | omega | (simp; done) | (simp; omega) | (omega) | ((try simp); omega)))))).mono ?_; rintro e w3 ⟨rfl, hb3⟩) | fail)
            go_meet
            refine ⟨_, rfl, rfl, ?_, ?_, SlI.below HS.out (by focus ((repeat first | with_reducible exact Below.refl _ _ | (with_reducible refine Below.setCell ?_ ?_ _) | (with_reducible refine Below.alloc ?_ ?_ _) | (with_reducible refine below_drewN ?_ _) | (with_reducible refine Below.drew ?_) | (with_reducible refine Below.trans ?_ (Below.mono hb2 ?_)) | (with_reducible refine Below.trans ?_ (Below.mono hb3 ?_))); all_goals (first | with_reducible exact Nat.le_refl _ | omega | (simp; done) | (simp; omega) | (have := hb2.size; (try simp at this); have := hb3.size; (try simp at this); omega) | (have := hb2.size; (try simp at this); have := hb3.size; (try simp at this); (try simp); omega)))), ?_, ?_⟩
            all_goals first | (focus (apply Box.via; apply Exists.intro; apply And.intro; (repeat first | with_reducible assumption | with_reducible exact Box.new _ _ _ | ((with_reducible apply Box.newAt); focus (simp; done)) | (with_reducible apply Box.drew) | (with_reducible apply Box.drewN) | (with_reducible apply Box.set) | (with_reducible apply Box.alloc) | (with_reducible apply Box.far) | (with_reducible apply Box.below (hb := hb2)) | (with_reducible apply Box.below (hb := hb3))); all_goals (first | with_reducible exact Nat.le_refl _ | omega | (simp; done) | (simp; omega) | (have := hb2.size; (try simp at this); have := hb3.size; (try simp at this); omega) | (have := hb2.size; (try simp at this); have := hb3.size; (try simp at this); (try simp); omega)))) | (focus ((repeat first | with_reducible exact Below.refl _ _ | (with_reducible refine Below.setCell ?_ ?_ _) | (with_reducible refine Below.alloc ?_ ?_ _) | (with_reducible refine below_drewN ?_ _) | (with_reducible refine Below.drew ?_) | (with_reducible refine Below.trans ?_ (Below.mono hb2 ?_)) | (with_reducible refine Below.trans ?_ (Below.mono hb3 ?_)) | (with_reducible refine Below.trans ?_ (Below.mono hB ?_))); all_goals (first | with_reducible exact Nat.le_refl _ | omega | (simp; done) | (simp; omega) | (have := hb2.size; (try simp at this); have := hb3.size; (try simp at this); have := hB.size; (try simp at this); omega) | (have := hb2.size; (try simp at this); have := hb3.size; (try simp at this); have := hB.size; (try simp at this); (try simp); omega))))
          case rest => as_aux_lemma =>
            clear q hB HS
            obtain ⟨fp, rfl, rfl, hR, hP', HS, q, hB⟩ := hcut
            clear hP
            have hP := hP'
            clear hP'
            have HS := Lib.hid HS
            generalize wc = W5 at *
            have hlp := hP.lt; have hlf := hR.lt
            have x0 := hP.cell 0; have x1 := hP.cell 1; have x2 := hP.cell 2; have y0 := hR.cell 0; have y1 := hR.cell 1
            simp at x0 x1 x2 y0 y1
            (have c0 := q.cell 0; have c1 := q.cell 1; have c2 := q.cell 2; have c3 := q.cell 3; have c4 := q.cell 4; simp at c0 c1 c2 c3 c4; have hlq := q.lt)
            by_cases hd : dt = 0
            · as_aux_lemma =>
              obtain ⟨g1, g2⟩ := F0.out hd
              obtain ⟨⟨a1, a2, a3⟩, a4⟩ : (q1 = 0 ∧ q2 = 0 ∧ q3 = 0) ∧ fe = 11 := by simpa using g1
              obtain ⟨⟨a5, a6⟩, a7⟩ : (r1 = 0 ∧ r2 = 0) ∧ ge = 11 := by simpa using g2
              have e1 : (fe != ge) = false := bneF (by omega)
              have e2 : (fe != 0) = true := bneT (by omega)
              have e3 : (fe != 11) = false := bneF a4
              have e5 : (fe == 0) = false := beqF (by omega)
              clear a1 a2 a3 a4 a5 a6 a7 g1 g2 hd F0 F1
              go_wp2_with fail
              go_meet
              exact ⟨q, hB⟩
            · as_aux_lemma =>
              obtain ⟨g1, g2⟩ := F1.out hd
              obtain ⟨⟨a1, a2, a3⟩, a4⟩ : (q1 = a ∧ q2 = b ∧ q3 = 1) ∧ fe = 0 := by simpa using g1
              obtain ⟨⟨a5, a6⟩, a7⟩ : (r1 = 0 ∧ r2 = 1) ∧ ge = 0 := by simpa using g2
              have e1 : (fe != ge) = false := bneF (by omega)
              have e2 : (fe != 0) = false := bneF a4
              have e5 : (fe == 0) = true := beqT a4
              have s1 : same3 q1 q2 q3 a b 1 = true := same3_t.2 ⟨a1, a2, a3⟩
              have s2 : same2 r1 r2 0 1 = true := same2_t.2 ⟨a5, a6⟩
              have NB' := Lib.hid (fun A c W h => show Calls Try.prog 23 #[.agg #[.int .i64 q1, .int .i64 q2, .int .i64 q3], .slice A L.length c] W (fun e w' => e = .returned (.tuple #[.agg #[.int .i64 nx, .int .i64 1], .int .i64 0]) ∧ Below W.heap.size W w') from (by rw [a1, a2, a3]; exact NB.out A c W h))
              clear a1 a2 a3 a4 a5 a6 a7 g1 g2 hd F0 F1 NB
              have NB := NB'
              clear NB'
              go_upto_region 17 with fail
              go_cut [12, 13] (fun s12 s13 wx => ∃ z, s12 = .pointer (some ⟨z, 0, none⟩) ∧ s13 = .int .i64 0 ∧ Box wx z 47 #[.int .i64 nx, .int .i64 1] ∧ SlI wx (some ⟨g, 0, none⟩) L ∧ Box wx w.heap.size 85 #[.int .i64 a, .int .i64 b, .int .i64 f, .int .i64 s, .int .i64 cn] ∧ Below w.heap.size w wx)
              case first => as_aux_lemma =>
                go_region_held3 (fun w' => w'.cell? ⟨p, 0, none⟩ = some (.int .i64 q1) ∧ w'.cell? ⟨p, 1, none⟩ = some (.int .i64 q2) ∧ w'.cell? ⟨p, 2, none⟩ = some (.int .i64 q3)) (go_keep) (first | (go_at_call 24; refine (CI.out _ (SlI.below HS.out (by focus ((repeat first | with_reducible exact Below.refl _ _ | (with_reducible refine Below.setCell ?_ ?_ _) | (with_reducible refine Below.alloc ?_ ?_ _) | (with_reducible refine below_drewN ?_ _) | (with_reducible refine Below.drew ?_)); all_goals (first | with_reducible exact Nat.le_refl _ | omega | (simp; done) | (simp; omega) | (omega) | ((try simp); omega)))))).mono ?_; rintro e w2 ⟨D, d', rfl, hD, hb2⟩; have hz2 : W5.heap.size ≤ w2.heap.size := (by have := hb2.size; (try simp at this); omega); have k0 := ((hb2).cell (p := ⟨p, 0, none⟩) (by simp; omega)).trans (show _ = some (Value.int .i64 q1) from by simp [go_sem, *]); have k1 := ((hb2).cell (p := ⟨p, 1, none⟩) (by simp; omega)).trans (show _ = some (Value.int .i64 q2) from by simp [go_sem, *]); have k2 := ((hb2).cell (p := ⟨p, 2, none⟩) (by simp; omega)).trans (show _ = some (Value.int .i64 q3) from by simp [go_sem, *]); (try (have : p ≠ W5.heap.size := (by omega))); (try (have : W5.heap.size ≠ p := (by omega))); (try (have : p ≠ w2.heap.size := (by omega))); (try (have : w2.heap.size ≠ p := (by omega))); (first | ((refine (have bx : Box w2 (W5.heap.size) 47 #[.int .i64 0, .int .i64 0] := ?_; ?_); (focus (apply Box.via; apply Exists.intro; apply And.intro; (repeat first | with_reducible assumption | with_reducible exact Box.new _ _ _ | ((with_reducible apply Box.newAt); focus (simp; done)) | (with_reducible apply Box.drew) | (with_reducible apply Box.drewN) | (with_reducible apply Box.set) | (with_reducible apply Box.alloc) | (with_reducible apply Box.far) | (with_reducible apply Box.below (hb := hb2))); all_goals (first | with_reducible exact Nat.le_refl _ | omega | (simp; done) | (simp; omega) | (have := hb2.size; (try simp at this); omega) | (have := hb2.size; (try simp at this); (try simp); omega)))); have := bx.lt; have : (w2).cell? ⟨W5.heap.size, 0, none⟩ = some (.int .i64 0) := bx.cell 0; have : (w2).cell? ⟨W5.heap.size, 1, none⟩ = some (.int .i64 0) := bx.cell 1; have : ∀ o, (w2).frozen? ⟨W5.heap.size, o, none⟩ = false := bx.froz)) | skip)) | (go_at_call 23; refine (NB.out _ _ _ (SlI.below hD (by focus ((repeat first | with_reducible exact Below.refl _ _ | (with_reducible refine Below.setCell ?_ ?_ _) | (with_reducible refine Below.alloc ?_ ?_ _) | (with_reducible refine below_drewN ?_ _) | (with_reducible refine Below.drew ?_)); all_goals (first | with_reducible exact Nat.le_refl _ | omega | (simp; done) | (simp; omega) | (omega) | ((try simp); omega)))))).mono ?_; rintro e w3 ⟨rfl, hb3⟩; have hz3 : w2.heap.size ≤ w3.heap.size := (by have := hb3.size; (try simp at this); omega); have k3 := ((hb3).cell (p := ⟨p, 0, none⟩) (by simp; omega)).trans (show _ = some (Value.int .i64 q1) from by simp [go_sem, *]); have k4 := ((hb3).cell (p := ⟨p, 1, none⟩) (by simp; omega)).trans (show _ = some (Value.int .i64 q2) from by simp [go_sem, *]); have k5 := ((hb3).cell (p := ⟨p, 2, none⟩) (by simp; omega)).trans (show _ = some (Value.int .i64 q3) from by simp [go_sem, *]); (try (have : p ≠ w3.heap.size := (by omega))); (try (have : w3.heap.size ≠ p := (by omega))); (try (have : w2.heap.size ≠ W5.heap.size := (by omega))); (try (have : W5.heap.size ≠ w2.heap.size := (by omega))); (first | ((refine (have bx : Box w3 (w2.heap.size) 47 #[.int .i64 0, .int .i64 0] := ?_; ?_); (focus (apply Box.via; apply Exists.intro; apply And.intro; (repeat first | with_reducible assumption | with_reducible exact Box.new _ _ _ | ((with_reducible apply Box.newAt); focus (simp; done)) | (with_reducible apply Box.drew) | (with_reducible apply Box.drewN) | (with_reducible apply Box.set) | (with_reducible apply Box.alloc) | (with_reducible apply Box.far) | (with_reducible apply Box.below (hb := hb3))); all_goals (first | with_reducible exact Nat.le_refl _ | omega | (simp; done) | (simp; omega) | (have := hb3.size; (try simp at this); omega) | (have := hb3.size; (try simp at this); (try simp); omega)))); have := bx.lt; have : (w3).cell? ⟨w2.heap.size, 0, none⟩ = some (.int .i64 0) := bx.cell 0; have : (w3).cell? ⟨w2.heap.size, 1, none⟩ = some (.int .i64 0) := bx.cell 1; have : ∀ o, (w3).frozen? ⟨w2.heap.size, o, none⟩ = false := bx.froz)) | ((refine (have bx : Box w3 (W5.heap.size) 47 #[.int .i64 0, .int .i64 0] := ?_; ?_); (focus (apply Box.via; apply Exists.intro; apply And.intro; (repeat first | with_reducible assumption | with_reducible exact Box.new _ _ _ | ((with_reducible apply Box.newAt); focus (simp; done)) | (with_reducible apply Box.drew) | (with_reducible apply Box.drewN) | (with_reducible apply Box.set) | (with_reducible apply Box.alloc) | (with_reducible apply Box.far) | (with_reducible apply Box.below (hb := hb3))); all_goals (first | with_reducible exact Nat.le_refl _ | omega | (simp; done) | (simp; omega) | (have := hb3.size; (try simp at this); omega) | (have := hb3.size; (try simp at this); (try simp); omega)))); have := bx.lt; have : (w3).cell? ⟨W5.heap.size, 0, none⟩ = some (.int .i64 0) := bx.cell 0; have : (w3).cell? ⟨W5.heap.size, 1, none⟩ = some (.int .i64 0) := bx.cell 1; have : ∀ o, (w3).frozen? ⟨W5.heap.size, o, none⟩ = false := bx.froz)) | skip)) | fail)
                all_goals (as_aux_lemma => (
                  go_wp2_with fail
                  go_meet
                  refine ⟨_, rfl, rfl, ?_, SlI.below HS.out (by focus ((repeat first | with_reducible exact Below.refl _ _ | (with_reducible refine Below.setCell ?_ ?_ _) | (with_reducible refine Below.alloc ?_ ?_ _) | (with_reducible refine below_drewN ?_ _) | (with_reducible refine Below.drew ?_) | (with_reducible refine Below.trans ?_ (Below.mono hb2 ?_)) | (with_reducible refine Below.trans ?_ (Below.mono hb3 ?_))); all_goals (first | with_reducible exact Nat.le_refl _ | omega | (simp; done) | (simp; omega) | (have := hb2.size; (try simp at this); have := hb3.size; (try simp at this); omega) | (have := hb2.size; (try simp at this); have := hb3.size; (try simp at this); (try simp); omega)))), ?_, ?_⟩
                  all_goals first | (focus (apply Box.via; apply Exists.intro; apply And.intro; (repeat first | with_reducible assumption | with_reducible exact Box.new _ _ _ | ((with_reducible apply Box.newAt); focus (simp; done)) | (with_reducible apply Box.drew) | (with_reducible apply Box.drewN) | (with_reducible apply Box.set) | (with_reducible apply Box.alloc) | (with_reducible apply Box.far) | (with_reducible apply Box.below (hb := hb2)) | (with_reducible apply Box.below (hb := hb3))); all_goals (first | with_reducible exact Nat.le_refl _ | omega | (simp; done) | (simp; omega) | (have := hb2.size; (try simp at this); have := hb3.size; (try simp at this); omega) | (have := hb2.size; (try simp at this); have := hb3.size; (try simp at this); (try simp); omega)))) | (focus ((repeat first | with_reducible exact Below.refl _ _ | (with_reducible refine Below.setCell ?_ ?_ _) | (with_reducible refine Below.alloc ?_ ?_ _) | (with_reducible refine below_drewN ?_ _) | (with_reducible refine Below.drew ?_) | (with_reducible refine Below.trans ?_ (Below.mono hb2 ?_)) | (with_reducible refine Below.trans ?_ (Below.mono hb3 ?_)) | (with_reducible refine Below.trans ?_ (Below.mono hB ?_))); all_goals (first | with_reducible exact Nat.le_refl _ | omega | (simp; done) | (simp; omega) | (have := hb2.size; (try simp at this); have := hb3.size; (try simp at this); have := hB.size; (try simp at this); omega) | (have := hb2.size; (try simp at this); have := hb3.size; (try simp at this); have := hB.size; (try simp at this); (try simp); omega))))))
              case rest => as_aux_lemma =>
                clear q hB c0 c1 c2 c3 c4 x0 x1 x2 y0 y1 hlq hlp hlf hP hR HS CI PO RO NB
                obtain ⟨z, rfl, rfl, hZ, HS, q, hB⟩ := hcut
                generalize wc = W5 at *
                have hlz := hZ.lt
                have z0 := hZ.cell 0; have z1 := hZ.cell 1
                simp at z0 z1
                (have c0 := q.cell 0; have c1 := q.cell 1; have c2 := q.cell 2; have c3 := q.cell 3; have c4 := q.cell 4; simp at c0 c1 c2 c3 c4; have hlq := q.lt)
                clear s1 s2
                obtain ⟨g1, o1, eg1, _, hx⟩ := HS (L.length - 1) _ (List.getElem?_eq_getElem (by omega))
                obtain ⟨g2, o2, eg2, _, hy⟩ := HS (L.length - 2) _ (List.getElem?_eq_getElem (by omega))
                obtain ⟨rfl, rfl⟩ : g = g1 ∧ o1 = 0 := by simpa [eq_comm] using eg1
                obtain ⟨rfl, rfl⟩ : g = g2 ∧ o2 = 0 := by simpa [eq_comm] using eg2
                simp only [Nat.zero_add] at hx hy
                have bx := hbd.out _ (List.getElem_mem (show L.length - 1 < L.length by omega))
                have by' := hbd.out _ (List.getElem_mem (show L.length - 2 < L.length by omega))
                have NX := NX.out
                generalize L[L.length - 1]'(by omega) = x at *
                generalize L[L.length - 2]'(by omega) = y at *
                have m1 := mul_le_sq (x := a) (y := x) (by omega) bx
                have m2 := mul_le_sq (x := b) (y := y) (by omega) by'
                have v1 : IntKind.i64.wrap (a * x) = a * x := IntWalk.i64_in _ (by omega)
                have v2 : IntKind.i64.wrap (b * y) = b * y := IntWalk.i64_in _ (by omega)
                have v3 : IntKind.i64.wrap (a * x + b * y) = a * x + b * y := IntWalk.i64_in _ (by omega)
                have v4 : IntKind.i64.wrap ((L.length : Int) - 1) = (L.length : Int) - 1 := IntWalk.i64_in _ (by omega)
                have v5 : IntKind.i64.wrap ((L.length : Int) - 2) = (L.length : Int) - 2 := IntWalk.i64_in _ (by omega)
                have n1 : ((L.length : Int) - 1).toNat = L.length - 1 := by omega
                have n2 : ((L.length : Int) - 2).toNat = L.length - 2 := by omega
                have n3 : ((L.length : Int) - 1) < L.length := by omega
                have n4 : ((L.length : Int) - 2) < L.length := by omega
                have n5 : (0 : Int) ≤ (L.length : Int) - 1 := by omega
                have n6 : (0 : Int) ≤ (L.length : Int) - 2 := by omega
                have n7 : (1 : Int) ≤ L.length := by omega
                have n8 : (2 : Int) ≤ L.length := by omega
                have n9 : 1 ≤ L.length := by omega
                have s3 : same2 nx 1 (a * x + b * y) 1 = true := same2_t.2 ⟨NX, rfl⟩
                clear NX
                go_upto_region 18 with fail
                go_quiet (fail)
                go_wp2_with fail
                go_meet
                exact ⟨q, below_drewN hB _⟩
      · have e4 : decide ((4 : Int) ≤ (L.length : Int)) = false := decide_eq_false (by omega)
        go_wp2_with fail
        go_meet
        exact ⟨q, hB⟩
    case rest =>
      clear q hB hL hrec
      obtain ⟨q, hB⟩ := hcut
      generalize wc = W5 at *
      have SE := Lib.hid (fun W h => refSamplesErr_c xs A c W (by omega) h)
      by_cases hk : (chkS xs).2 = 0
      · have e1 : ((chkS xs).2 != 0) = false := bneF hk
        obtain ⟨l4, l20, hx⟩ := chkS_ok hk
        have hx := Lib.hid hx
        have hE := eq_ok xs a b hk
        have CI := Lib.hid (fun W h => copyInts_c xs A c W (by omega) h)
        have PO := Lib.hid (fun A c W h => predictorOf_c xs A c W (by omega) h)
        go_upto_region 22 with (first | (go_at_call 26; refine (SE.out _ (SlI.below HS.out (by focus ((repeat first | with_reducible exact Below.refl _ _ | (with_reducible refine Below.setCell ?_ ?_ _) | (with_reducible refine Below.alloc ?_ ?_ _) | (with_reducible refine below_drewN ?_ _) | (with_reducible refine Below.drew ?_) | (with_reducible refine Below.trans ?_ (Below.mono hB ?_))); all_goals (first | with_reducible exact Nat.le_refl _ | omega | (simp; done) | (simp; omega) | (have := hB.size; (try simp at this); omega) | (have := hB.size; (try simp at this); (try simp); omega)))))).mono ?_; rintro e w2 ⟨rfl, hb2⟩) | fail)
        have hlq := q.lt; have hsz := hB.size
        have q : Box w2 w.heap.size 85 #[.int .i64 a, .int .i64 b, .int .i64 f, .int .i64 s, .int .i64 cn] := by focus (apply Box.via; apply Exists.intro; apply And.intro; (repeat first | with_reducible assumption | with_reducible exact Box.new _ _ _ | ((with_reducible apply Box.newAt); focus (simp; done)) | (with_reducible apply Box.drew) | (with_reducible apply Box.drewN) | (with_reducible apply Box.set) | (with_reducible apply Box.alloc) | (with_reducible apply Box.far) | (with_reducible apply Box.below (hb := hb2))); all_goals (first | with_reducible exact Nat.le_refl _ | omega | (simp; done) | (simp; omega) | (have := hb2.size; (try simp at this); omega) | (have := hb2.size; (try simp at this); (try simp); omega)))
        have hB : Below w.heap.size w w2 := by focus ((repeat first | with_reducible exact Below.refl _ _ | (with_reducible refine Below.setCell ?_ ?_ _) | (with_reducible refine Below.alloc ?_ ?_ _) | (with_reducible refine below_drewN ?_ _) | (with_reducible refine Below.drew ?_) | (with_reducible refine Below.trans ?_ (Below.mono hb2 ?_)) | (with_reducible refine Below.trans ?_ (Below.mono hB ?_))); all_goals (first | with_reducible exact Nat.le_refl _ | omega | (simp; done) | (simp; omega) | (have := hb2.size; (try simp at this); have := hB.size; (try simp at this); omega) | (have := hb2.size; (try simp at this); have := hB.size; (try simp at this); (try simp); omega)))
        clear hb2 hlq hsz
        generalize w2 = W5 at *
        clear e1
        by_cases hd : detS xs = 0
        · have hp := hE.1 hd
          clear hE
          generalize pofP xs = QQ at *
          subst hp
          dsimp only at PO
          have hlq := q.lt
          go_wp2_with (first | (go_at_call 24; refine (CI.out _ (SlI.below HS.out (by focus ((repeat first | with_reducible exact Below.refl _ _ | (with_reducible refine Below.setCell ?_ ?_ _) | (with_reducible refine Below.alloc ?_ ?_ _) | (with_reducible refine below_drewN ?_ _) | (with_reducible refine Below.drew ?_) | (with_reducible refine Below.trans ?_ (Below.mono hB ?_))); all_goals (first | with_reducible exact Nat.le_refl _ | omega | (simp; done) | (simp; omega) | (have := hB.size; (try simp at this); omega) | (have := hB.size; (try simp at this); (try simp); omega)))))).mono ?_; rintro e w2 ⟨D, d', rfl, hD, hb2⟩) | (go_at_call 40; refine (PO.out _ _ _ (SlI.below hD (by focus ((repeat first | with_reducible exact Below.refl _ _ | (with_reducible refine Below.setCell ?_ ?_ _) | (with_reducible refine Below.alloc ?_ ?_ _) | (with_reducible refine below_drewN ?_ _) | (with_reducible refine Below.drew ?_)); all_goals (first | with_reducible exact Nat.le_refl _ | omega | (simp; done) | (simp; omega) | (omega) | ((try simp); omega)))))).mono ?_; rintro e w3 ⟨rfl, hb3⟩) | fail)
          go_ret
          exact ⟨rfl, by focus ((repeat first | with_reducible exact Below.refl _ _ | (with_reducible refine Below.setCell ?_ ?_ _) | (with_reducible refine Below.alloc ?_ ?_ _) | (with_reducible refine below_drewN ?_ _) | (with_reducible refine Below.drew ?_) | (with_reducible refine Below.trans ?_ (Below.mono hb2 ?_)) | (with_reducible refine Below.trans ?_ (Below.mono hb3 ?_)) | (with_reducible refine Below.trans ?_ (Below.mono hB ?_))); all_goals (first | with_reducible exact Nat.le_refl _ | omega | (simp; done) | (simp; omega) | (have := hb2.size; (try simp at this); have := hb3.size; (try simp at this); have := hB.size; (try simp at this); omega) | (have := hb2.size; (try simp at this); have := hb3.size; (try simp at this); have := hB.size; (try simp at this); (try simp); omega)))⟩
        · obtain ⟨ua, ub, ud, n1, n2, hp, hr, hc, hu3, hu1, hu2, hn1, hn2, hle, hq1, hq2⟩ := hE.2 hd
          clear hE hd
          have RO := Lib.hid (fun A c W h => residualOf_c xs A c W (by omega) h)
          have CK0 := Lib.hid (fun A c W h => show Calls Try.prog 42 #[.slice A xs.length c, .agg #[.int .i64 ua, .int .i64 ub, .int .i64 ud]] W (fun e w' => e = .returned (.tuple #[.int .i64 0, .int .i64 0]) ∧ Below W.heap.size W w') from (by have := checkPredictor_c xs A c ua ub ud W (by omega) h; rw [hc] at this; exact this))
          have CK := Lib.hid (fun a b d A c W h => checkPredictor_c xs A c a b d W (by omega) h)
          have PE := Lib.hid (fun a b d W => refPredictorErr_c a b d W)
          have hq1 := Lib.hid hq1; have hq2 := Lib.hid hq2
          clear hc
          generalize pofP xs = QQ at *
          subst hp
          generalize rofP xs = RR at *
          subst hr
          dsimp only at PO RO
          go_cut [14, 15] (fun s14 s15 wx => ∃ p, s14 = .pointer (some ⟨p, 0, none⟩) ∧ s15 = .int .i64 0 ∧ Box wx p 45 #[.int .i64 ua, .int .i64 ub, .int .i64 ud] ∧ Box wx w.heap.size 85 #[.int .i64 a, .int .i64 b, .int .i64 f, .int .i64 s, .int .i64 cn] ∧ Below w.heap.size w wx)
          case first => as_aux_lemma =>
            have hlq := q.lt
            go_wp2_with (first | (go_at_call 24; refine (CI.out _ (SlI.below HS.out (by focus ((repeat first | with_reducible exact Below.refl _ _ | (with_reducible refine Below.setCell ?_ ?_ _) | (with_reducible refine Below.alloc ?_ ?_ _) | (with_reducible refine below_drewN ?_ _) | (with_reducible refine Below.drew ?_) | (with_reducible refine Below.trans ?_ (Below.mono hB ?_))); all_goals (first | with_reducible exact Nat.le_refl _ | omega | (simp; done) | (simp; omega) | (have := hB.size; (try simp at this); omega) | (have := hB.size; (try simp at this); (try simp); omega)))))).mono ?_; rintro e w2 ⟨D, d', rfl, hD, hb2⟩) | (go_at_call 40; refine (PO.out _ _ _ (SlI.below hD (by focus ((repeat first | with_reducible exact Below.refl _ _ | (with_reducible refine Below.setCell ?_ ?_ _) | (with_reducible refine Below.alloc ?_ ?_ _) | (with_reducible refine below_drewN ?_ _) | (with_reducible refine Below.drew ?_)); all_goals (first | with_reducible exact Nat.le_refl _ | omega | (simp; done) | (simp; omega) | (omega) | ((try simp); omega)))))).mono ?_; rintro e w3 ⟨rfl, hb3⟩) | fail)
            go_meet
            refine ⟨_, rfl, rfl, ?_, ?_, ?_⟩
            all_goals first | (focus (apply Box.via; apply Exists.intro; apply And.intro; (repeat first | with_reducible assumption | with_reducible exact Box.new _ _ _ | ((with_reducible apply Box.newAt); focus (simp; done)) | (with_reducible apply Box.drew) | (with_reducible apply Box.drewN) | (with_reducible apply Box.set) | (with_reducible apply Box.alloc) | (with_reducible apply Box.far) | (with_reducible apply Box.below (hb := hb2)) | (with_reducible apply Box.below (hb := hb3))); all_goals (first | with_reducible exact Nat.le_refl _ | omega | (simp; done) | (simp; omega) | (have := hb2.size; (try simp at this); have := hb3.size; (try simp at this); omega) | (have := hb2.size; (try simp at this); have := hb3.size; (try simp at this); (try simp); omega)))) | (focus ((repeat first | with_reducible exact Below.refl _ _ | (with_reducible refine Below.setCell ?_ ?_ _) | (with_reducible refine Below.alloc ?_ ?_ _) | (with_reducible refine below_drewN ?_ _) | (with_reducible refine Below.drew ?_) | (with_reducible refine Below.trans ?_ (Below.mono hb2 ?_)) | (with_reducible refine Below.trans ?_ (Below.mono hb3 ?_)) | (with_reducible refine Below.trans ?_ (Below.mono hB ?_))); all_goals (first | with_reducible exact Nat.le_refl _ | omega | (simp; done) | (simp; omega) | (have := hb2.size; (try simp at this); have := hb3.size; (try simp at this); have := hB.size; (try simp at this); omega) | (have := hb2.size; (try simp at this); have := hb3.size; (try simp at this); have := hB.size; (try simp at this); (try simp); omega))))
          case rest =>
            clear q hB
            obtain ⟨p, rfl, rfl, hP, q, hB⟩ := hcut
            generalize wc = W5 at *
            go_upto_region 25 with fail
            go_cut [16, 17] (fun s16 s17 wx => ∃ z, s16 = .pointer (some ⟨z, 0, none⟩) ∧ s17 = .int .i64 0 ∧ Box wx z 47 #[.int .i64 n1, .int .i64 n2] ∧ Box wx p 45 #[.int .i64 ua, .int .i64 ub, .int .i64 ud] ∧ Box wx w.heap.size 85 #[.int .i64 a, .int .i64 b, .int .i64 f, .int .i64 s, .int .i64 cn] ∧ Below w.heap.size w wx)
            case first => as_aux_lemma =>
              have hlp := hP.lt; have hlq := q.lt
              go_wp2_with (first | (go_at_call 24; refine (CI.out _ (SlI.below HS.out (by focus ((repeat first | with_reducible exact Below.refl _ _ | (with_reducible refine Below.setCell ?_ ?_ _) | (with_reducible refine Below.alloc ?_ ?_ _) | (with_reducible refine below_drewN ?_ _) | (with_reducible refine Below.drew ?_) | (with_reducible refine Below.trans ?_ (Below.mono hB ?_))); all_goals (first | with_reducible exact Nat.le_refl _ | omega | (simp; done) | (simp; omega) | (have := hB.size; (try simp at this); omega) | (have := hB.size; (try simp at this); (try simp); omega)))))).mono ?_; rintro e w2 ⟨D, d', rfl, hD, hb2⟩) | (go_at_call 41; refine (RO.out _ _ _ (SlI.below hD (by focus ((repeat first | with_reducible exact Below.refl _ _ | (with_reducible refine Below.setCell ?_ ?_ _) | (with_reducible refine Below.alloc ?_ ?_ _) | (with_reducible refine below_drewN ?_ _) | (with_reducible refine Below.drew ?_)); all_goals (first | with_reducible exact Nat.le_refl _ | omega | (simp; done) | (simp; omega) | (omega) | ((try simp); omega)))))).mono ?_; rintro e w3 ⟨rfl, hb3⟩) | fail)
              go_meet
              refine ⟨_, rfl, rfl, ?_, ?_, ?_, ?_⟩
              all_goals first | (focus (apply Box.via; apply Exists.intro; apply And.intro; (repeat first | with_reducible assumption | with_reducible exact Box.new _ _ _ | ((with_reducible apply Box.newAt); focus (simp; done)) | (with_reducible apply Box.drew) | (with_reducible apply Box.drewN) | (with_reducible apply Box.set) | (with_reducible apply Box.alloc) | (with_reducible apply Box.far) | (with_reducible apply Box.below (hb := hb2)) | (with_reducible apply Box.below (hb := hb3))); all_goals (first | with_reducible exact Nat.le_refl _ | omega | (simp; done) | (simp; omega) | (have := hb2.size; (try simp at this); have := hb3.size; (try simp at this); omega) | (have := hb2.size; (try simp at this); have := hb3.size; (try simp at this); (try simp); omega)))) | (focus ((repeat first | with_reducible exact Below.refl _ _ | (with_reducible refine Below.setCell ?_ ?_ _) | (with_reducible refine Below.alloc ?_ ?_ _) | (with_reducible refine below_drewN ?_ _) | (with_reducible refine Below.drew ?_) | (with_reducible refine Below.trans ?_ (Below.mono hb2 ?_)) | (with_reducible refine Below.trans ?_ (Below.mono hb3 ?_)) | (with_reducible refine Below.trans ?_ (Below.mono hB ?_))); all_goals (first | with_reducible exact Nat.le_refl _ | omega | (simp; done) | (simp; omega) | (have := hb2.size; (try simp at this); have := hb3.size; (try simp at this); have := hB.size; (try simp at this); omega) | (have := hb2.size; (try simp at this); have := hb3.size; (try simp at this); have := hB.size; (try simp at this); (try simp); omega))))
            case rest =>
              obtain ⟨z, rfl, rfl, hZ, hP', q', hB'⟩ := hcut
              clear q hB hP
              have hP := hP'; have q := q'; have hB := hB'
              clear hP' q' hB'
              generalize wc = W5 at *
              go_upto_region 26 with fail
              go_cut [18, 19] (fun s18 s19 wx => s18 = .int .i64 0 ∧ s19 = .int .i64 0 ∧ Box wx z 47 #[.int .i64 n1, .int .i64 n2] ∧ Box wx p 45 #[.int .i64 ua, .int .i64 ub, .int .i64 ud] ∧ Box wx w.heap.size 85 #[.int .i64 a, .int .i64 b, .int .i64 f, .int .i64 s, .int .i64 cn] ∧ Below w.heap.size w wx)
              case first => as_aux_lemma =>
                have hlp := hP.lt; have hlq := q.lt; have hlz := hZ.lt
                have x0 := hP.cell 0; have x1 := hP.cell 1; have x2 := hP.cell 2
                simp at x0 x1 x2
                go_region_held3 (fun w' => w'.cell? ⟨p, 0, none⟩ = some (.int .i64 ua) ∧ w'.cell? ⟨p, 1, none⟩ = some (.int .i64 ub) ∧ w'.cell? ⟨p, 2, none⟩ = some (.int .i64 ud)) (go_keep) (first | (go_at_call 24; refine (CI.out _ (SlI.below HS.out (by focus ((repeat first | with_reducible exact Below.refl _ _ | (with_reducible refine Below.setCell ?_ ?_ _) | (with_reducible refine Below.alloc ?_ ?_ _) | (with_reducible refine below_drewN ?_ _) | (with_reducible refine Below.drew ?_) | (with_reducible refine Below.trans ?_ (Below.mono hB ?_))); all_goals (first | with_reducible exact Nat.le_refl _ | omega | (simp; done) | (simp; omega) | (have := hB.size; (try simp at this); omega) | (have := hB.size; (try simp at this); (try simp); omega)))))).mono ?_; rintro e w2 ⟨D, d', rfl, hD, hb2⟩; have hz2 : W5.heap.size ≤ w2.heap.size := (by have := hb2.size; (try simp at this); omega); have k0 := ((hb2).cell (p := ⟨p, 0, none⟩) (by simp; omega)).trans (show _ = some (Value.int .i64 ua) from by simp [go_sem, *]); have k1 := ((hb2).cell (p := ⟨p, 1, none⟩) (by simp; omega)).trans (show _ = some (Value.int .i64 ub) from by simp [go_sem, *]); have k2 := ((hb2).cell (p := ⟨p, 2, none⟩) (by simp; omega)).trans (show _ = some (Value.int .i64 ud) from by simp [go_sem, *])) | (go_at_call 42; refine (CK0.out _ _ _ (SlI.below hD (by focus ((repeat first | with_reducible exact Below.refl _ _ | (with_reducible refine Below.setCell ?_ ?_ _) | (with_reducible refine Below.alloc ?_ ?_ _) | (with_reducible refine below_drewN ?_ _) | (with_reducible refine Below.drew ?_)); all_goals (first | with_reducible exact Nat.le_refl _ | omega | (simp; done) | (simp; omega) | (omega) | ((try simp); omega)))))).mono ?_; rintro e w3 ⟨rfl, hb3⟩; have hz3 : w2.heap.size ≤ w3.heap.size := (by have := hb3.size; (try simp at this); omega); have k10 := ((hb3).cell (p := ⟨p, 0, none⟩) (by simp; omega)).trans (show _ = some (Value.int .i64 ua) from by simp [go_sem, *]); have k11 := ((hb3).cell (p := ⟨p, 1, none⟩) (by simp; omega)).trans (show _ = some (Value.int .i64 ub) from by simp [go_sem, *]); have k12 := ((hb3).cell (p := ⟨p, 2, none⟩) (by simp; omega)).trans (show _ = some (Value.int .i64 ud) from by simp [go_sem, *])) | fail)
                all_goals go_wp2_with fail
                all_goals go_meet
                all_goals refine ⟨rfl, rfl, ?_, ?_, ?_, ?_⟩
                all_goals first | (focus (apply Box.via; apply Exists.intro; apply And.intro; (repeat first | with_reducible assumption | with_reducible exact Box.new _ _ _ | ((with_reducible apply Box.newAt); focus (simp; done)) | (with_reducible apply Box.drew) | (with_reducible apply Box.drewN) | (with_reducible apply Box.set) | (with_reducible apply Box.alloc) | (with_reducible apply Box.far) | (with_reducible apply Box.below (hb := hb2)) | (with_reducible apply Box.below (hb := hb3))); all_goals (first | with_reducible exact Nat.le_refl _ | omega | (simp; done) | (simp; omega) | (have := hb2.size; (try simp at this); have := hb3.size; (try simp at this); omega) | (have := hb2.size; (try simp at this); have := hb3.size; (try simp at this); (try simp); omega)))) | (focus ((repeat first | with_reducible exact Below.refl _ _ | (with_reducible refine Below.setCell ?_ ?_ _) | (with_reducible refine Below.alloc ?_ ?_ _) | (with_reducible refine below_drewN ?_ _) | (with_reducible refine Below.drew ?_) | (with_reducible refine Below.trans ?_ (Below.mono hb2 ?_)) | (with_reducible refine Below.trans ?_ (Below.mono hb3 ?_)) | (with_reducible refine Below.trans ?_ (Below.mono hB ?_))); all_goals (first | with_reducible exact Nat.le_refl _ | omega | (simp; done) | (simp; omega) | (have := hb2.size; (try simp at this); have := hb3.size; (try simp at this); have := hB.size; (try simp at this); omega) | (have := hb2.size; (try simp at this); have := hb3.size; (try simp at this); have := hB.size; (try simp at this); (try simp); omega))))
              case rest =>
                obtain ⟨rfl, rfl, hZ', hP', q', hB'⟩ := hcut
                clear q hB hP hZ
                have hP := hP'; have q := q'; have hB := hB'; have hZ := hZ'
                clear hP' q' hB' hZ' CK0 PO RO SE
                generalize wc = W5 at *
                have hlp := hP.lt; have hlz := hZ.lt
                have x0 := hP.cell 0; have x1 := hP.cell 1; have x2 := hP.cell 2; have y0 := hZ.cell 0; have y1 := hZ.cell 1
                simp at x0 x1 x2 y0 y1
                (have c0 := q.cell 0; have c1 := q.cell 1; have c2 := q.cell 2; have c3 := q.cell 3; have c4 := q.cell 4; simp at c0 c1 c2 c3 c4; have hlq := q.lt)
                have t1 : decide (n2 < 1) = false := decide_eq_false (by omega)
                have t2 : decide (n1 < 0) = false := decide_eq_false (by omega)
                have t3 : decide (ud < 1) = false := decide_eq_false (by omega)
                have t4 : decide ((1000000000000 : Int) < ud) = false := decide_eq_false (by omega)
                go_wp2_with fail
                go_loopw [20, 21, 22] (fun sq i nn wr => ∃ k : Nat, k + 2 ≤ xs.length ∧ sq = .int .i64 (sqTo xs a b k) ∧ i = .int .i64 ((k + 2 : Nat) : Int) ∧ Box wr z 47 #[.int .i64 n1, .int .i64 n2] ∧ Box wr p 45 #[.int .i64 ua, .int .i64 ub, .int .i64 ud] ∧ Box wr w.heap.size 85 #[.int .i64 a, .int .i64 b, .int .i64 f, .int .i64 s, .int .i64 cn] ∧ Below w.heap.size w wr) (fun _ i _ _ => xs.length - (intOf i).toNat)
                case atStart => exact ⟨0, by omega, rfl, rfl, hZ, hP, q, hB⟩
                case round => as_aux_lemma =>
                  clear q hB hP hZ hlp hlz x0 x1 x2 y0 y1 c0 c1 c2 c3 c4 hlq
                  obtain ⟨k, hk2, rfl, rfl, hZ, hP, q, hB⟩ := hrel
                  have hlp := hP.lt; have hlz := hZ.lt
                  have x0 := hP.cell 0; have x1 := hP.cell 1; have x2 := hP.cell 2; have y0 := hZ.cell 0; have y1 := hZ.cell 1
                  simp at x0 x1 x2 y0 y1
                  (have c0 := q.cell 0; have c1 := q.cell 1; have c2 := q.cell 2; have c3 := q.cell 3; have c4 := q.cell 4; simp at c0 c1 c2 c3 c4; have hlq := q.lt)
                  have S := sqTo_bd j1 j2 hx.out k hk2
                  by_cases hlt : k + 2 < xs.length
                  · obtain ⟨g0, o0, rfl, _, w0⟩ := (SlI.below HS.out hB) (k + 2) _ (List.getElem?_eq_getElem hlt)
                    obtain ⟨g1, o1, eg1, _, w1⟩ := (SlI.below HS.out hB) (k + 1) _ (List.getElem?_eq_getElem (by omega))
                    obtain ⟨g2, o2, eg2, _, w2⟩ := (SlI.below HS.out hB) k _ (List.getElem?_eq_getElem (by omega))
                    obtain ⟨rfl, rfl⟩ : g0 = g1 ∧ o0 = o1 := by simpa using eg1
                    obtain ⟨rfl, rfl⟩ : g0 = g2 ∧ o0 = o2 := by simpa using eg2
                    have b0 := hx.out _ (List.getElem_mem (show k + 2 < xs.length by omega))
                    have b1 := hx.out _ (List.getElem_mem (show k + 1 < xs.length by omega))
                    have b2 := hx.out _ (List.getElem_mem (show k < xs.length by omega))
                    have R7 := resAt_bd j1 j2 hx.out (t := k) hlt
                    have S7 := sq700 R7
                    have F := Lib.hid (show sqTo xs a b (k + 1) = sqTo xs a b k + resAt xs a b k * resAt xs a b k from rfl)
                    have G : resAt xs a b k = xs[k + 2]'(by omega) - a * xs[k + 1]'(by omega) - b * xs[k]'(by omega) := by
                      unfold resAt
                      rw [List.getD_eq_getElem?_getD, List.getD_eq_getElem?_getD, List.getD_eq_getElem?_getD, List.getElem?_eq_getElem (by omega), List.getElem?_eq_getElem (by omega), List.getElem?_eq_getElem (by omega)]; rfl
                    rw [G] at R7 S7 F
                    clear G
                    generalize xs[k + 2]'(by omega) = x at *
                    generalize xs[k + 1]'(by omega) = y at *
                    generalize xs[k]'(by omega) = v at *
                    generalize sqTo xs a b k = ss at *
                    have m1 := mul_le_sq (x := a) (y := y) (by omega) b1
                    have m2 := mul_le_sq (x := b) (y := v) (by omega) b2
                    have v1 : IntKind.i64.wrap (a * y) = a * y := IntWalk.i64_in _ (by omega)
                    have v2 : IntKind.i64.wrap (b * v) = b * v := IntWalk.i64_in _ (by omega)
                    have v3 : IntKind.i64.wrap (x - a * y) = x - a * y := IntWalk.i64_in _ (by omega)
                    have v4 : IntKind.i64.wrap (x - a * y - b * v) = x - a * y - b * v := IntWalk.i64_in _ (by omega)
                    have v5 : IntKind.i64.wrap ((x - a * y - b * v) * (x - a * y - b * v)) = (x - a * y - b * v) * (x - a * y - b * v) := IntWalk.i64_in _ (by omega)
                    have v6 : IntKind.i64.wrap (ss + (x - a * y - b * v) * (x - a * y - b * v)) = ss + (x - a * y - b * v) * (x - a * y - b * v) := IntWalk.i64_in _ (by omega)
                    have v7 : IntKind.i64.wrap ((k : Int) + 2 - 1) = (k : Int) + 1 := by rw [show (k : Int) + 2 - 1 = (k : Int) + 1 by omega]; exact IntWalk.i64_in _ (by omega)
                    have v8 : IntKind.i64.wrap ((k : Int) + 2 - 2) = (k : Int) := by rw [show (k : Int) + 2 - 2 = (k : Int) by omega]; exact IntWalk.i64_in _ (by omega)
                    have n5 : (k : Int) + 2 < xs.length := by omega
                    have n6 : (k : Int) + 1 < xs.length := by omega
                    have n7 : (k : Int) < xs.length := by omega
                    have n8 : ((k : Int) + 1).toNat = k + 1 := by omega
                    have n9 : ((k : Int) + 2).toNat = k + 2 := by omega
                    go_wp2_with fail
                    go_quiet (fail)
                    go_wp2_with fail
                    go_roundw
                    case rel => exact ⟨k + 1, by omega, by rw [F.out], by go_num, hZ, hP, q, below_drewN hB _⟩
                    case measure => simp [intOf]; omega
                  · obtain rfl : k = xs.length - 2 := by omega
                    clear hZ
                    generalize sqTo xs a b (xs.length - 2) = ss at *
                    have S9 : 0 ≤ ss ∧ ss ≤ 8820000 := by omega
                    have mm : n2 * ss ≤ 40000000000 * 8820000 := Int.mul_le_mul hn2.2 S9.2 S9.1 (by omega)
                    have CMP := Lib.hid (fun W => baseCompare_c n1 n2 ss 1 W (by omega) (by omega) (by omega) (by omega))
                    have hcm : decide ((0 : Int) < cmpI (n1 * 1) (ss * n2)) = false := by
                      have : n1 * 1 ≤ ss * n2 := by rw [Int.mul_one, Int.mul_comm]; exact hle
                      unfold cmpI
                      by_cases h1 : n1 * 1 < ss * n2
                      · rw [if_pos h1]; rfl
                      · rw [if_neg h1, if_neg (by omega)]; rfl
                    generalize cmpI (n1 * 1) (ss * n2) = cm at *
                    clear mm S9 S hle t1 t2
                    go_wp2_with (first | (go_at_call 47; refine (CMP.out _).mono ?_; rintro e w' ⟨rfl, rfl⟩) | fail)
                    go_loopw [23, 24, 25, 26] (fun kv s24 s25 s26 wr => ∃ kk : Nat, kk ≤ 2 ∧ kv = .int .i64 (kk : Int) ∧ Box wr p 45 #[.int .i64 ua, .int .i64 ub, .int .i64 ud] ∧ Below w.heap.size w wr) (fun kv _ _ _ _ => 2 - (intOf kv).toNat)
                    case atStart => exact ⟨0, by omega, rfl, hP, hB⟩
                    case round => as_aux_lemma =>
                      clear q hB hP hlp hlz x0 x1 x2 y0 y1 c0 c1 c2 c3 c4 hlq
                      obtain ⟨kk, hkk, rfl, hP, hB⟩ := hrel
                      by_cases hlt : kk < 2
                      · have e1 : decide ((kk : Int) < 2) = true := decide_eq_true (by omega)
                        go_upto_region 40 with fail
                        go_cut [24] from 273 to 299 (fun s24 wx => ∃ g, s24 = .pointer (some ⟨g, 0, none⟩) ∧ p < g ∧ w.heap.size ≤ g ∧ Box wx g 45 #[.int .i64 ua, .int .i64 ub, .int .i64 ud] ∧ Box wx p 45 #[.int .i64 ua, .int .i64 ub, .int .i64 ud] ∧ Below w.heap.size w wx)
                        case first => as_aux_lemma =>
                          have hlp := hP.lt; have hsz := hB.size
                          have x0 := hP.cell 0; have x1 := hP.cell 1; have x2 := hP.cell 2
                          simp at x0 x1 x2
                          go_wp2_with fail
                          go_meet
                          refine ⟨_, rfl, by omega, by omega, ?_, ?_, ?_⟩
                          all_goals first | (focus (apply Box.via; apply Exists.intro; apply And.intro; (repeat first | with_reducible assumption | with_reducible exact Box.new _ _ _ | ((with_reducible apply Box.newAt); focus (simp; done)) | (with_reducible apply Box.drew) | (with_reducible apply Box.drewN) | (with_reducible apply Box.set) | (with_reducible apply Box.alloc) | (with_reducible apply Box.far)); all_goals (first | with_reducible exact Nat.le_refl _ | omega | (simp; done) | (simp; omega) | (omega) | ((try simp); omega)))) | (focus ((repeat first | with_reducible exact Below.refl _ _ | (with_reducible refine Below.setCell ?_ ?_ _) | (with_reducible refine Below.alloc ?_ ?_ _) | (with_reducible refine below_drewN ?_ _) | (with_reducible refine Below.drew ?_) | (with_reducible refine Below.trans ?_ (Below.mono hB ?_))); all_goals (first | with_reducible exact Nat.le_refl _ | omega | (simp; done) | (simp; omega) | (have := hB.size; (try simp at this); omega) | (have := hB.size; (try simp at this); (try simp); omega))))
                        case rest =>
                          obtain ⟨g, rfl, hpg, hwg, hG, hP', hB'⟩ := hcut
                          clear hP hB
                          have hP := hP'; have hB := hB'
                          clear hP' hB'
                          generalize wc = W5 at *
                          go_upto_if 279 with fail
                          go_cut [] from 273 to 299 (fun wx => ∃ c1 c2 : Int, Hid (prdE c1 c2 ud = 0 → (chkP xs c1 c2 ud).2 = 19) ∧ Box wx g 45 #[.int .i64 c1, .int .i64 c2, .int .i64 ud] ∧ Box wx p 45 #[.int .i64 ua, .int .i64 ub, .int .i64 ud] ∧ Below w.heap.size w wx)
                          case first => as_aux_lemma =>
                            have hlg := hG.lt
                            have z0 := hG.cell 0; have z1 := hG.cell 1; have z2 := hG.cell 2
                            have z3 := hG.froz 0; have z4 := hG.froz 1
                            simp at z0 z1 z2
                            have v1 : IntKind.i64.wrap (ua + 1) = ua + 1 := IntWalk.i64_in _ (by omega)
                            have v2 : IntKind.i64.wrap (ub - 1) = ub - 1 := IntWalk.i64_in _ (by omega)
                            have hne : p ≠ g := by omega
                            by_cases h0 : kk = 0
                            · have e2 : ((kk : Int) == 0) = true := beqT (by omega)
                              clear h0
                              go_wp2_with fail
                              go_meet
                              refine ⟨ua + 1, ub, hq1, ?_, ?_, ?_⟩
                              all_goals first | (focus (apply Box.via; apply Exists.intro; apply And.intro; (repeat first | with_reducible assumption | with_reducible exact Box.new _ _ _ | ((with_reducible apply Box.newAt); focus (simp; done)) | (with_reducible apply Box.drew) | (with_reducible apply Box.drewN) | (with_reducible apply Box.set) | (with_reducible apply Box.alloc) | (with_reducible apply Box.far)); all_goals (first | with_reducible exact Nat.le_refl _ | omega | (simp; done) | (simp; omega) | (omega) | ((try simp); omega)))) | (focus ((repeat first | with_reducible exact Below.refl _ _ | (with_reducible refine Below.setCell ?_ ?_ _) | (with_reducible refine Below.alloc ?_ ?_ _) | (with_reducible refine below_drewN ?_ _) | (with_reducible refine Below.drew ?_) | (with_reducible refine Below.trans ?_ (Below.mono hB ?_))); all_goals (first | with_reducible exact Nat.le_refl _ | omega | (simp; done) | (simp; omega) | (have := hB.size; (try simp at this); omega) | (have := hB.size; (try simp at this); (try simp); omega))))
                            · have e2 : ((kk : Int) == 0) = false := beqF (by omega)
                              go_wp2_with fail
                              go_meet
                              refine ⟨ua, ub - 1, hq2, ?_, ?_, ?_⟩
                              all_goals first | (focus (apply Box.via; apply Exists.intro; apply And.intro; (repeat first | with_reducible assumption | with_reducible exact Box.new _ _ _ | ((with_reducible apply Box.newAt); focus (simp; done)) | (with_reducible apply Box.drew) | (with_reducible apply Box.drewN) | (with_reducible apply Box.set) | (with_reducible apply Box.alloc) | (with_reducible apply Box.far)); all_goals (first | with_reducible exact Nat.le_refl _ | omega | (simp; done) | (simp; omega) | (omega) | ((try simp); omega)))) | (focus ((repeat first | with_reducible exact Below.refl _ _ | (with_reducible refine Below.setCell ?_ ?_ _) | (with_reducible refine Below.alloc ?_ ?_ _) | (with_reducible refine below_drewN ?_ _) | (with_reducible refine Below.drew ?_) | (with_reducible refine Below.trans ?_ (Below.mono hB ?_))); all_goals (first | with_reducible exact Nat.le_refl _ | omega | (simp; done) | (simp; omega) | (have := hB.size; (try simp at this); omega) | (have := hB.size; (try simp at this); (try simp); omega))))
                          case rest =>
                            obtain ⟨o1, o2, h19, hG', hP', hB'⟩ := hcut
                            clear hP hB hG
                            have hP := hP'; have hB := hB'; have hG := hG'
                            clear hP' hB' hG'
                            generalize wc = W5 at *
                            have hlg := hG.lt
                            have z0 := hG.cell 0; have z1 := hG.cell 1; have z2 := hG.cell 2
                            simp at z0 z1 z2
                            by_cases hz : prdE o1 o2 ud = 0
                            · have e2 : (prdE o1 o2 ud != 0) = false := bneF hz
                              have hh := h19.out hz
                              clear h19 hz
                              have CK := Lib.hid (fun A c W h => CK.out o1 o2 ud A c W h)
                              have PE := Lib.hid (fun W => PE.out o1 o2 ud W)
                              generalize prdE o1 o2 ud = pe at *
                              generalize chkP xs o1 o2 ud = CC at *
                              obtain ⟨ci, ce⟩ := CC
                              dsimp only at CK hh
                              have e3 : (ce != 19) = false := bneF hh
                              clear hh
                              go_upto_region 45 with (first | (go_at_call 25; refine (PE.out _).mono ?_; rintro e w4 ⟨rfl, hb4⟩) | fail)
                              have hG : Box w4 g 45 #[.int .i64 o1, .int .i64 o2, .int .i64 ud] := by focus (apply Box.via; apply Exists.intro; apply And.intro; (repeat first | with_reducible assumption | with_reducible exact Box.new _ _ _ | ((with_reducible apply Box.newAt); focus (simp; done)) | (with_reducible apply Box.drew) | (with_reducible apply Box.drewN) | (with_reducible apply Box.set) | (with_reducible apply Box.alloc) | (with_reducible apply Box.far) | (with_reducible apply Box.below (hb := hb4))); all_goals (first | with_reducible exact Nat.le_refl _ | omega | (simp; done) | (simp; omega) | (have := hb4.size; (try simp at this); omega) | (have := hb4.size; (try simp at this); (try simp); omega)))
                              have hP : Box w4 p 45 #[.int .i64 ua, .int .i64 ub, .int .i64 ud] := by focus (apply Box.via; apply Exists.intro; apply And.intro; (repeat first | with_reducible assumption | with_reducible exact Box.new _ _ _ | ((with_reducible apply Box.newAt); focus (simp; done)) | (with_reducible apply Box.drew) | (with_reducible apply Box.drewN) | (with_reducible apply Box.set) | (with_reducible apply Box.alloc) | (with_reducible apply Box.far) | (with_reducible apply Box.below (hb := hb4))); all_goals (first | with_reducible exact Nat.le_refl _ | omega | (simp; done) | (simp; omega) | (have := hb4.size; (try simp at this); omega) | (have := hb4.size; (try simp at this); (try simp); omega)))
                              have hB : Below w.heap.size w w4 := by focus ((repeat first | with_reducible exact Below.refl _ _ | (with_reducible refine Below.setCell ?_ ?_ _) | (with_reducible refine Below.alloc ?_ ?_ _) | (with_reducible refine below_drewN ?_ _) | (with_reducible refine Below.drew ?_) | (with_reducible refine Below.trans ?_ (Below.mono hb4 ?_)) | (with_reducible refine Below.trans ?_ (Below.mono hB ?_))); all_goals (first | with_reducible exact Nat.le_refl _ | omega | (simp; done) | (simp; omega) | (have := hb4.size; (try simp at this); have := hB.size; (try simp at this); omega) | (have := hb4.size; (try simp at this); have := hB.size; (try simp at this); (try simp); omega)))
                              clear hb4 z0 z1 z2 hlg
                              generalize w4 = W5 at *
                              have hlg := hG.lt; have hlp := hP.lt
                              have z0 := hG.cell 0; have z1 := hG.cell 1; have z2 := hG.cell 2
                              simp at z0 z1 z2
                              go_region_held3 (fun w' => w'.cell? ⟨g, 0, none⟩ = some (.int .i64 o1) ∧ w'.cell? ⟨g, 1, none⟩ = some (.int .i64 o2) ∧ w'.cell? ⟨g, 2, none⟩ = some (.int .i64 ud)) (go_keep) (first | (go_at_call 24; refine (CI.out _ (SlI.below HS.out (by focus ((repeat first | with_reducible exact Below.refl _ _ | (with_reducible refine Below.setCell ?_ ?_ _) | (with_reducible refine Below.alloc ?_ ?_ _) | (with_reducible refine below_drewN ?_ _) | (with_reducible refine Below.drew ?_) | (with_reducible refine Below.trans ?_ (Below.mono hB ?_))); all_goals (first | with_reducible exact Nat.le_refl _ | omega | (simp; done) | (simp; omega) | (have := hB.size; (try simp at this); omega) | (have := hB.size; (try simp at this); (try simp); omega)))))).mono ?_; rintro e w2 ⟨D, d', rfl, hD, hb2⟩; have hz2 : W5.heap.size ≤ w2.heap.size := (by have := hb2.size; (try simp at this); omega); have k0 := ((hb2).cell (p := ⟨g, 0, none⟩) (by simp; omega)).trans (show _ = some (Value.int .i64 o1) from by simp [go_sem, *]); have k1 := ((hb2).cell (p := ⟨g, 1, none⟩) (by simp; omega)).trans (show _ = some (Value.int .i64 o2) from by simp [go_sem, *]); have k2 := ((hb2).cell (p := ⟨g, 2, none⟩) (by simp; omega)).trans (show _ = some (Value.int .i64 ud) from by simp [go_sem, *])) | (go_at_call 42; refine (CK.out _ _ _ (SlI.below hD (by focus ((repeat first | with_reducible exact Below.refl _ _ | (with_reducible refine Below.setCell ?_ ?_ _) | (with_reducible refine Below.alloc ?_ ?_ _) | (with_reducible refine below_drewN ?_ _) | (with_reducible refine Below.drew ?_)); all_goals (first | with_reducible exact Nat.le_refl _ | omega | (simp; done) | (simp; omega) | (omega) | ((try simp); omega)))))).mono ?_; rintro e w3 ⟨rfl, hb3⟩; have hz3 : w2.heap.size ≤ w3.heap.size := (by have := hb3.size; (try simp at this); omega); have k10 := ((hb3).cell (p := ⟨g, 0, none⟩) (by simp; omega)).trans (show _ = some (Value.int .i64 o1) from by simp [go_sem, *]); have k11 := ((hb3).cell (p := ⟨g, 1, none⟩) (by simp; omega)).trans (show _ = some (Value.int .i64 o2) from by simp [go_sem, *]); have k12 := ((hb3).cell (p := ⟨g, 2, none⟩) (by simp; omega)).trans (show _ = some (Value.int .i64 ud) from by simp [go_sem, *])) | fail)
                              all_goals go_wp2_with fail
                              all_goals go_roundw
                              case' rel => refine ⟨kk + 1, by omega, by go_num, ?_, ?_⟩
                              all_goals first | (focus (apply Box.via; apply Exists.intro; apply And.intro; (repeat first | with_reducible assumption | with_reducible exact Box.new _ _ _ | ((with_reducible apply Box.newAt); focus (simp; done)) | (with_reducible apply Box.drew) | (with_reducible apply Box.drewN) | (with_reducible apply Box.set) | (with_reducible apply Box.alloc) | (with_reducible apply Box.far) | (with_reducible apply Box.below (hb := hb2)) | (with_reducible apply Box.below (hb := hb3))); all_goals (first | with_reducible exact Nat.le_refl _ | omega | (simp; done) | (simp; omega) | (have := hb2.size; (try simp at this); have := hb3.size; (try simp at this); omega) | (have := hb2.size; (try simp at this); have := hb3.size; (try simp at this); (try simp); omega)))) | (focus ((repeat first | with_reducible exact Below.refl _ _ | (with_reducible refine Below.setCell ?_ ?_ _) | (with_reducible refine Below.alloc ?_ ?_ _) | (with_reducible refine below_drewN ?_ _) | (with_reducible refine Below.drew ?_) | (with_reducible refine Below.trans ?_ (Below.mono hb2 ?_)) | (with_reducible refine Below.trans ?_ (Below.mono hb3 ?_)) | (with_reducible refine Below.trans ?_ (Below.mono hB ?_))); all_goals (first | with_reducible exact Nat.le_refl _ | omega | (simp; done) | (simp; omega) | (have := hb2.size; (try simp at this); have := hb3.size; (try simp at this); have := hB.size; (try simp at this); omega) | (have := hb2.size; (try simp at this); have := hb3.size; (try simp at this); have := hB.size; (try simp at this); (try simp); omega)))) | (simp [intOf]; omega)
                            · have e2 : (prdE o1 o2 ud != 0) = true := bneT hz
                              have PE := Lib.hid (fun W => PE.out o1 o2 ud W)
                              clear hz h19
                              generalize prdE o1 o2 ud = pe at *
                              go_wp2_with (first | (go_at_call 25; refine (PE.out _).mono ?_; rintro e w4 ⟨rfl, hb4⟩) | fail)
                              go_roundw
                              case' rel => refine ⟨kk + 1, by omega, by go_num, ?_, ?_⟩
                              all_goals first | (focus (apply Box.via; apply Exists.intro; apply And.intro; (repeat first | with_reducible assumption | with_reducible exact Box.new _ _ _ | ((with_reducible apply Box.newAt); focus (simp; done)) | (with_reducible apply Box.drew) | (with_reducible apply Box.drewN) | (with_reducible apply Box.set) | (with_reducible apply Box.alloc) | (with_reducible apply Box.far) | (with_reducible apply Box.below (hb := hb4))); all_goals (first | with_reducible exact Nat.le_refl _ | omega | (simp; done) | (simp; omega) | (have := hb4.size; (try simp at this); omega) | (have := hb4.size; (try simp at this); (try simp); omega)))) | (focus ((repeat first | with_reducible exact Below.refl _ _ | (with_reducible refine Below.setCell ?_ ?_ _) | (with_reducible refine Below.alloc ?_ ?_ _) | (with_reducible refine below_drewN ?_ _) | (with_reducible refine Below.drew ?_) | (with_reducible refine Below.trans ?_ (Below.mono hb4 ?_)) | (with_reducible refine Below.trans ?_ (Below.mono hB ?_))); all_goals (first | with_reducible exact Nat.le_refl _ | omega | (simp; done) | (simp; omega) | (have := hb4.size; (try simp at this); have := hB.size; (try simp at this); omega) | (have := hb4.size; (try simp at this); have := hB.size; (try simp at this); (try simp); omega)))) | (simp [intOf]; omega)
                      · have e1 : decide ((kk : Int) < 2) = false := decide_eq_false (by omega)
                        go_wp2_with fail
                        go_ret
                        exact ⟨rfl, hB⟩
      · have e1 : ((chkS xs).2 != 0) = true := bneT hk
        go_wp2_with (first | (go_at_call 26; refine (SE.out _ (SlI.below HS.out (by focus ((repeat first | with_reducible exact Below.refl _ _ | (with_reducible refine Below.setCell ?_ ?_ _) | (with_reducible refine Below.alloc ?_ ?_ _) | (with_reducible refine below_drewN ?_ _) | (with_reducible refine Below.drew ?_) | (with_reducible refine Below.trans ?_ (Below.mono hB ?_))); all_goals (first | with_reducible exact Nat.le_refl _ | omega | (simp; done) | (simp; omega) | (have := hB.size; (try simp at this); omega) | (have := hB.size; (try simp at this); (try simp); omega)))))).mono ?_; rintro e w2 ⟨rfl, hb2⟩) | fail)
        go_ret
        exact ⟨rfl, by focus ((repeat first | with_reducible exact Below.refl _ _ | (with_reducible refine Below.setCell ?_ ?_ _) | (with_reducible refine Below.alloc ?_ ?_ _) | (with_reducible refine below_drewN ?_ _) | (with_reducible refine Below.drew ?_) | (with_reducible refine Below.trans ?_ (Below.mono hb2 ?_)) | (with_reducible refine Below.trans ?_ (Below.mono hB ?_))); all_goals (first | with_reducible exact Nat.le_refl _ | omega | (simp; done) | (simp; omega) | (have := hb2.size; (try simp at this); have := hB.size; (try simp at this); omega) | (have := hb2.size; (try simp at this); have := hB.size; (try simp at this); (try simp); omega)))⟩

theorem winchEquations_l (xs : List Int) (A : Option Addr) (c : Nat) (a b f s cn : Int) (w : World) (hm : xs.length ≤ 9223372036854775807) (hs : SlI w A xs) (_ : ∀ x ∈ [a, b, f, s, cn], -9223372036854775808 ≤ x ∧ x ≤ 9223372036854775807) :
    Calls Try.prog 8 #[.slice A xs.length c, .agg #[.int .i64 a, .int .i64 b, .int .i64 f, .int .i64 s, .int .i64 cn]] w fun e w' => e = .returned (.bool true) ∧ Below w.heap.size w w' := by
  by_cases h : 20 < xs.length ∨ eqIn a b f s cn = false
  · exact winchEquations_early xs A c a b f s cn w hm h
  · have h1 : xs.length ≤ 20 := by
      rcases Nat.lt_or_ge 20 xs.length with h2 | h2
      · exact absurd (.inl h2) h
      · exact h2
    have h2 : eqIn a b f s cn = true := by
      cases hq : eqIn a b f s cn
      · exact absurd (.inr hq) h
      · rfl
    exact winchEquations_in xs A c a b f s cn w h1 h2 hs

end Go.Proofs.Ytgbckdmhmkpahaa

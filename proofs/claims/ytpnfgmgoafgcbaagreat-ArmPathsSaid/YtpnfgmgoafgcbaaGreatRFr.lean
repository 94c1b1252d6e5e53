/-
  from of the reference (chapter 6): all cells of the links from a joint on.
-/
import Derived.Test.YtpnfgmgoafgcbaaGreatRJt
import Derived.Test.YtpnfgmgoafgcbaaGreatRfP
import Derived.Test.YtpnfgmgoafgcbaaGreatA13
set_option linter.unusedVariables false
namespace Go.Proofs.YtpnfgmgoafgcbaaGreat
open Go.RowKit
attribute [local go_sem] Oper.semAt_some
/-- The cells of a link from the k-th on. -/
def lnsK (a b : Ce) (n k : Int) (m : Nat) : List Ce := (List.range m).map fun (j : Nat) => linR a b n (k + j)
theorem lnsK_step (a b : Ce) (n k : Int) (m : Nat) : lnsK a b n k (m + 1) = linR a b n k :: lnsK a b n (k + 1) m := by
  unfold lnsK
  rw [List.range_succ_eq_map, List.map_cons, List.map_map]
  congr 1
  · simp
  · apply List.map_congr_left
    intro j _
    simp only [Function.comp, Nat.succ_eq_add_one]
    congr 1
    omega
theorem lnsR_K (a b : Ce) (n : Int) (m : Nat) : lnsR a b n m = lnsK a b n 1 m := by
  unfold lnsR lnsK
  apply List.map_congr_left
  intro j _
  congr 1
  omega
theorem frR_step {js : List Ce} {L : List Lk} {q : Nat} {a b : Ce} {l : Lk} (ha : js[q]? = some a) (hb : js[q + 1]? = some b) (hl : L[q]? = some l) : frR (js.drop q) (L.drop q) = lnsK a b l.1 1 l.1.toNat ++ frR (js.drop (q + 1)) (L.drop (q + 1)) := by
  have h1 := (List.getElem?_eq_some_iff.1 ha)
  have h2 := (List.getElem?_eq_some_iff.1 hb)
  have h3 := (List.getElem?_eq_some_iff.1 hl)
  obtain ⟨i1, rfl⟩ := h1
  obtain ⟨i2, rfl⟩ := h2
  obtain ⟨i3, rfl⟩ := h3
  rw [List.drop_eq_getElem_cons i1, List.drop_eq_getElem_cons i3, List.drop_eq_getElem_cons i2, frR, lnsR_K]
theorem frR_end {js : List Ce} {L : List Lk} {q : Nat} (h : L.length ≤ q) : frR (js.drop q) (L.drop q) = [] := by
  rw [List.drop_eq_nil_of_le h]
  cases js.drop q with
  | nil => rfl
  | cons a l => cases l <;> rfl

/-- How from ends. -/
def FrmEnd (l : List Ce) (w : World) (e : Ending) (w' : World) : Prop := ∃ g cap, e = .returned (.slice (some ⟨g, 0, none⟩) l.length cap) ∧ w'.ownsRow w.heap.size 22 2 (.slice (some ⟨g, 0, none⟩) l.length cap) l.length (l.flatMap ceV) ∧ Below w.heap.size w w'
theorem st_cell {bad : Nat → Prop} {W W' : World} {b o : Nat} (h : Steps1 bad W W') (hlt : b < W.heap.size) (hn : ¬ bad b) : W'.cell? ⟨b, o, none⟩ = W.cell? ⟨b, o, none⟩ := World.cell?_of_block (h.2 b hlt hn)
theorem st_drew {bad : Nat → Prop} {W X : World} (h : Steps1 bad W X) : Steps1 bad W X.drew := ⟨h.1, h.2⟩
theorem st_grown {W X Y : World} {g : Nat} (h : Steps1 (· = g) W X) (hg : X.grownBy Y (some g)) : Steps1 (· = g) W Y :=
  ⟨Nat.le_trans h.1 hg.size, fun k hk hn => (hg.block k (Nat.lt_of_lt_of_le hk h.1) (fun e => hn (by injection e))).trans (h.2 k hk hn)⟩
set_option maxHeartbeats 8000000 in
set_option maxRecDepth 100000 in
theorem from_c (bx bY sl fx fX fy fY ps : Int) (L : List Lk) (B : List Bx) (Q : List Int) (AL AB AQ : Option Addr) (cL cB cQ : Nat) (jn : Nat) (w : World) (hQ : Q.length = L.length) (hL : L.length ≤ 3) (hjn : jn ≤ L.length)
    (hb1 : -1000 ≤ bx ∧ bx ≤ 1000) (hb2 : -1000 ≤ bY ∧ bY ≤ 1000) (hb3 : -1000 ≤ ps ∧ ps ≤ 1000) (hl : ∀ l ∈ L, 1 ≤ l.1 ∧ l.1 ≤ 4) (hq : ∀ q ∈ Q, -2 ≤ q ∧ q ≤ 2) (hJ : ∀ c ∈ jts (⟨bx, bY, sl, L, (fx, fX, fy, fY), B⟩ : Sc) (ps, Q), (-3000 ≤ c.1 ∧ c.1 ≤ 3000) ∧ (-3000 ≤ c.2 ∧ c.2 ≤ 3000)) (hs1 : SlV w AL (L.flatMap lkV)) (hs3 : SlI w AQ Q) :
    Calls Tryz.prog 117 #[.agg #[.int .i64 bx, .int .i64 bY, .int .i64 sl, .slice AL L.length cL, .int .i64 fx, .int .i64 fX, .int .i64 fy, .int .i64 fY, .slice AB B.length cB], .agg #[.int .i64 ps, .slice AQ Q.length cQ], .int .i64 jn] w (FrmEnd (frP (⟨bx, bY, sl, L, (fx, fX, fy, fY), B⟩ : Sc) (ps, Q) jn) w) := by
  have JOc := Lib.hid (fun W (h : Below w.heap.size w W) => rJoints_c bx bY sl fx fX fy fY ps L B Q AL AB AQ cL cB cQ W hQ hL hb1 hb2 hb3 hl hq (hs1.below h) (hs3.below h))
  have HP := Lib.hid (show frP (⟨bx, bY, sl, L, (fx, fX, fy, fY), B⟩ : Sc) (ps, Q) jn = (jts (⟨bx, bY, sl, L, (fx, fX, fy, fY), B⟩ : Sc) (ps, Q)).getD jn (0, 0) :: frR ((jts (⟨bx, bY, sl, L, (fx, fX, fy, fY), B⟩ : Sc) (ps, Q)).drop jn) (L.drop jn) from rfl)
  have HN := Lib.hid (show (jts (⟨bx, bY, sl, L, (fx, fX, fy, fY), B⟩ : Sc) (ps, Q)).length = L.length + 1 by rw [jts_len (s := (⟨bx, bY, sl, L, (fx, fX, fy, fY), B⟩ : Sc)) (p := (ps, Q)) hQ])
  have HS := Lib.hid hs1
  have HL := Lib.hid hl
  have HJ := Lib.hid hJ
  generalize frP (⟨bx, bY, sl, L, (fx, fX, fy, fY), B⟩ : Sc) (ps, Q) jn = R at *
  generalize jts (⟨bx, bY, sl, L, (fx, fX, fy, fY), B⟩ : Sc) (ps, Q) = js at *
  clear hs1 hs3 hQ hl hq hJ
  obtain ⟨j0, zC, hj0, hy0, hy1, hy2, hy3⟩ := infoOk_parts infoC
  have hjl : jn < js.length := by have := HN.out; omega
  go_enter Tryz.func117, Tryz.ntmps117
  go_upto_region 2 with (first | (go_at_call 62; (with_reducible refine (JOc.out _ (by exact bB0)).mono ?_); rintro e w2 hE2; obtain ⟨gJ, capJ, rfl, hgJ, hgJ2, hvJ, hbJ, hb2⟩ := hE2) | fail)
  have hz2 := hb2.size
  simp at hz2
  have hSB : Box w2 w.heap.size 30 #[.int .i64 bx, .int .i64 bY, .int .i64 sl, .slice AL L.length cL, .int .i64 fx, .int .i64 fX, .int .i64 fy, .int .i64 fY, .slice AB B.length cB] := by exact bX1 hb2
  have hBw : Below w.heap.size w w2 := by exact bB1 hb2
  have HV := Lib.hid hvJ
  obtain ⟨_, _, e, _, ja0, ja1⟩ := ce_cells hvJ (List.getElem?_eq_getElem hjl)
  cases e
  have hjli : (jn : Int) < (js.length : Int) := by omega
  generalize hja : js[jn] = aj at *
  obtain ⟨ax, ay⟩ := aj
  have HPa := Lib.hid (show R = (ax, ay) :: frR (js.drop jn) (L.drop jn) by rw [HP.out, List.getD_eq_getElem?_getD, List.getElem?_eq_getElem hjl, hja]; rfl)
  dsimp only at ja0 ja1
  simp only [Nat.zero_add] at ja0 ja1
  clear hvJ hja HP
  generalize hU : w2.heap.size = U at *
  go_wp2
  have OWN0 := Lib.hid (show (w2.alloc (.cells #[.int .i64 ax, .int .i64 ay] 22)).ownsRow U 22 2 (.slice (some ⟨U, 0, none⟩) 1 1) 1 ([(ax, ay)].flatMap ceV) from by
    subst hU
    have := World.ownsRow_lit (base := w2.heap.size) (e := 22) (size := 2) w2 #[.int .i64 ax, .int .i64 ay] 1 (by simp) (by decide) rfl
    simpa [ceV] using this)
  go_loopw [8, 9] (fun v i wr => ∃ (q : Nat) (D : List Ce) (g cap : Nat), jn ≤ q ∧ q ≤ L.length ∧ i = .int .i64 q ∧ v = .slice (some ⟨g, 0, none⟩) D.length cap ∧ (1 ≤ D.length ∧ D.length ≤ 1 + 4 * q) ∧ Hid (R = D ++ frR (js.drop q) (L.drop q)) ∧ Hid (wr.ownsRow U 22 2 (.slice (some ⟨g, 0, none⟩) D.length cap) D.length (D.flatMap ceV)) ∧ Below U w2 wr) (fun _ i _ => L.length - (intOf i).toNat)
  case atStart => exact ⟨jn, [(ax, ay)], U, 1, Nat.le_refl _, hjn, rfl, rfl, ⟨by simp, by simp⟩, HPa.out, OWN0.out, by subst hU; exact bB0⟩
  case round =>
    obtain ⟨q, D, g, cap, hq0, hq1, rfl, rfl, ⟨hD1, hD2⟩, hf, hown, hBU⟩ := hrel
    clear OWN0 HPa ja0 ja1
    have hz0 := hBU.size
    have hS := hSB.below (w' := wr) (B := U) hBU (by omega)
    have s3 := hS.cell 3
    have lS := hS.lt
    simp at s3
    by_cases hlt : q < L.length
    · have hq2 : q < js.length := by have := HN.out; omega
      have hq3 : q + 1 < js.length := by have := HN.out; omega
      obtain ⟨bL, oL, rfl, hbL0, k0', _, _⟩ := lk_cells (HS.out.below hBw) (List.getElem?_eq_getElem hlt)
      have k0 := (hBU.cell (p := ⟨bL, _, none⟩) (by simpa [hU] using hbL0)).trans k0'
      have ln := HL.out _ (List.getElem_mem hlt)
      obtain ⟨_, _, e1, _, ja0', ja1'⟩ := ce_cells HV.out (List.getElem?_eq_getElem hq2)
      cases e1
      obtain ⟨_, _, e2, _, jb0', jb1'⟩ := ce_cells HV.out (List.getElem?_eq_getElem hq3)
      cases e2
      have ja0 := (hBU.cell (p := ⟨gJ, _, none⟩) (by simpa [hU] using hgJ2)).trans ja0'
      have ja1 := (hBU.cell (p := ⟨gJ, _, none⟩) (by simpa [hU] using hgJ2)).trans ja1'
      have jb0 := (hBU.cell (p := ⟨gJ, _, none⟩) (by simpa [hU] using hgJ2)).trans jb0'
      have jb1 := (hBU.cell (p := ⟨gJ, _, none⟩) (by simpa [hU] using hgJ2)).trans jb1'
      have bA := HJ.out _ (List.getElem_mem hq2)
      have bB := HJ.out _ (List.getElem_mem hq3)
      have ST := Lib.hid (frR_step (List.getElem?_eq_getElem hq2) (List.getElem?_eq_getElem hq3) (List.getElem?_eq_getElem hlt))
      generalize L[q] = lk at *
      generalize js[q] = ca at *
      generalize js[q + 1] = cb at *
      obtain ⟨n, lo, hi⟩ := lk
      obtain ⟨xa, ya⟩ := ca
      obtain ⟨xb, yb⟩ := cb
      dsimp only at k0 k0' ln ja0' ja1' jb0' jb1' bA bB
      simp only [Nat.zero_add] at ja0' ja1' jb0' jb1'
      clear ja0 ja1 jb0 jb1
      have hlo := hown.out.lt g (by simp [Value.ownBlock])
      go_wp2
      go_loopw [8, 10] (fun v kk wq => ∃ (k : Int) (E : List Ce) (g2 cap2 : Nat), kk = .int .i64 k ∧ (1 ≤ k ∧ k ≤ n + 1) ∧ v = .slice (some ⟨g2, 0, none⟩) E.length cap2 ∧ (1 ≤ E.length ∧ (E.length : Int) ≤ 1 + 4 * q + (k - 1)) ∧ Hid (R = E ++ (lnsK (xa, ya) (xb, yb) n k (n + 1 - k).toNat ++ frR (js.drop (q + 1)) (L.drop (q + 1)))) ∧ Hid (wq.ownsRow U 22 2 (.slice (some ⟨g2, 0, none⟩) E.length cap2) E.length (E.flatMap ceV)) ∧ Below U w2 wq) (fun _ kk _ => (n + 1 - intOf kk).toNat)
      case atStart => exact ⟨1, D, g, cap, rfl, by omega, rfl, ⟨hD1, by omega⟩, by unfold Hid; rw [hf.out, ST.out, show (n + 1 - 1).toNat = n.toNat by omega], hown.out, hBU⟩
      case round =>
        obtain ⟨k, E, g2, cap2, rfl, ⟨hk1, hk2⟩, rfl, ⟨hE1, hE2⟩, hg, hown2, hBV⟩ := hrel
        clear hf hown s3 lS hS k0 hlo
        have hz1 := hBV.size
        have hS := hSB.below (w' := wr) (B := U) hBV (by omega)
        have s3 := hS.cell 3
        have lS := hS.lt
        simp at s3
        have k0 := (hBV.cell (p := ⟨bL, _, none⟩) (by simpa [hU] using hbL0)).trans k0'
        have ja0 := (hBV.cell (p := ⟨gJ, _, none⟩) (by simpa [hU] using hgJ2)).trans ja0'
        have ja1 := (hBV.cell (p := ⟨gJ, _, none⟩) (by simpa [hU] using hgJ2)).trans ja1'
        have jb0 := (hBV.cell (p := ⟨gJ, _, none⟩) (by simpa [hU] using hgJ2)).trans jb0'
        have jb1 := (hBV.cell (p := ⟨gJ, _, none⟩) (by simpa [hU] using hgJ2)).trans jb1'
        have hlo := hown2.out.lt g2 (by simp [Value.ownBlock])
        have hbL : bL < wr.heap.size := by omega
        have lJ : gJ < wr.heap.size := by omega
        have nS : ¬ w.heap.size = g2 := by omega
        have nL : ¬ bL = g2 := by omega
        have nJ : ¬ gJ = g2 := by omega
        have m4 : (q : Int) < (L.length : Int) := by omega
        by_cases hkn : k ≤ n
        · have dle : decide (k ≤ n) = true := decide_eq_true hkn
          have b1 := mulB (a := k) (b := xb - xa) 5 6000 (by omega) (by omega)
          have b2 := mulB (a := k) (b := yb - ya) 5 6000 (by omega) (by omega)
          have b3 := Int.natAbs_tdiv_le_natAbs (k * (xb - xa)) n
          have b4 := Int.natAbs_tdiv_le_natAbs (k * (yb - ya)) n
          have STP := Lib.hid (show R = (E ++ [linR (xa, ya) (xb, yb) n k]) ++ (lnsK (xa, ya) (xb, yb) n (k + 1) (n + 1 - (k + 1)).toNat ++ frR (js.drop (q + 1)) (L.drop (q + 1))) by
            rw [hg.out, show (n + 1 - k).toNat = (n + 1 - (k + 1)).toNat + 1 by omega, lnsK_step]; simp)
          have LR := Lib.hid (show linR (xa, ya) (xb, yb) n k = (xa + (k * (xb - xa)).tdiv n, ya + (k * (yb - ya)).tdiv n) from rfl)
          have v1 : IntKind.i64.wrap (xb - xa) = xb - xa := IntWalk.i64_in _ (by omega)
          have v2 : IntKind.i64.wrap (yb - ya) = yb - ya := IntWalk.i64_in _ (by omega)
          have v3 : IntKind.i64.wrap (k * (xb - xa)) = k * (xb - xa) := IntWalk.i64_in _ (by omega)
          have v4 : IntKind.i64.wrap (k * (yb - ya)) = k * (yb - ya) := IntWalk.i64_in _ (by omega)
          have n0 : n ≠ 0 := by omega
          have n0b : (n == 0) = false := beqF n0
          have v5 : IntKind.i64.wrap ((k * (xb - xa)).tdiv n) = (k * (xb - xa)).tdiv n := IntWalk.i64_in _ (by omega)
          have v6 : IntKind.i64.wrap ((k * (yb - ya)).tdiv n) = (k * (yb - ya)).tdiv n := IntWalk.i64_in _ (by omega)
          have v7 : IntKind.i64.wrap (xa + (k * (xb - xa)).tdiv n) = xa + (k * (xb - xa)).tdiv n := IntWalk.i64_in _ (by omega)
          have v8 : IntKind.i64.wrap (ya + (k * (yb - ya)).tdiv n) = ya + (k * (yb - ya)).tdiv n := IntWalk.i64_in _ (by omega)
          have v9 : IntKind.i64.wrap ((q : Int) + 1) = (q : Int) + 1 := IntWalk.i64_in _ (by omega)
          have m1 : (q : Int) < (js.length : Int) := by omega
          have m2 : (q : Int) + 1 < (js.length : Int) := by omega
          have m3 : 0 ≤ (q : Int) + 1 := by omega
          have hm1 : E.length + 1 ≤ maxLen := by unfold maxLen; omega
          have hm2 : (E.length + 1) * 16 ≤ 140737488355328 := by omega
          have OWND := hown2
          clear hg b1 b2 b3 b4
          have hSTP := Lib.hid (show R = (E ++ [(xa + (k * (xb - xa)).tdiv n, ya + (k * (yb - ya)).tdiv n)]) ++ (lnsK (xa, ya) (xb, yb) n (k + 1) (n + 1 - (k + 1)).toNat ++ frR (js.drop (q + 1)) (L.drop (q + 1))) by rw [STP.out, LR.out])
          clear STP LR ST
          go_wp2
          (refine region_open (by kernel_rfl) (fun R hR => ?_); refine heldR (S := (fun w' => Steps1 (· = g2) wr w')) ?_ (fun hHeld => ?_); (focus ((try dsimp only); ((first | exact Steps1.refl _ _ | exact (Steps1.refl _ _).alloc _ | exact st_drew ((Steps1.refl _ _).alloc _) | exact st_grown (st_drew ((Steps1.refl _ wr).alloc _)) (show World.grownBy _ w5 (some g2) from hgrow5))))); refine rgN 0 rfl ?_; (try simp only [Act.put, pqs]); refine rgN 1 rfl ?_; (try simp only [Act.put, pqs]); refine rgN 2 rfl ?_; (try simp only [Act.put, pqs]); refine rgN 3 rfl ?_; (try simp only [Act.put, pqs]); refine rgN 4 rfl ?_; (try simp only [Act.put, pqs]); refine rgT 5 ?_ rfl (fun w' hSw => ?_) ?_; rotate_left; (focus ((try dsimp only at hSw); (have sa0 := (st_cell hSw lS nS).trans s3; have sa1 := (st_cell hSw hbL nL).trans k0; have sa2 := (st_cell hSw lJ nJ).trans ja0; have sa3 := (st_cell hSw lJ nJ).trans ja1; have sa4 := (st_cell hSw lJ nJ).trans jb0; have sa5 := (st_cell hSw lJ nJ).trans jb1); go_simp; (try with_reducible rfl))); (try simp only [Act.put, pqs]); refine rgN 6 rfl ?_; (try simp only [Act.put, pqs]); refine rgN 7 rfl ?_; (try simp only [Act.put, pqs]); refine rgN 8 rfl ?_; (try simp only [Act.put, pqs]); refine rgN 9 rfl ?_; (try simp only [Act.put, pqs]); refine rgN 10 rfl ?_; (try simp only [Act.put, pqs]); refine rgN 11 rfl ?_; (try simp only [Act.put, pqs]); refine rgT 12 ?_ rfl (fun w' hSw => ?_) ?_; rotate_left; (focus ((try dsimp only at hSw); (have sa0 := (st_cell hSw lS nS).trans s3; have sa1 := (st_cell hSw hbL nL).trans k0; have sa2 := (st_cell hSw lJ nJ).trans ja0; have sa3 := (st_cell hSw lJ nJ).trans ja1; have sa4 := (st_cell hSw lJ nJ).trans jb0; have sa5 := (st_cell hSw lJ nJ).trans jb1); go_simp; (try with_reducible rfl))); (try simp only [Act.put, pqs]); refine rgN 13 rfl ?_; (try simp only [Act.put, pqs]); refine rgN 14 rfl ?_; (try simp only [Act.put, pqs]); refine rgN 15 rfl ?_; (try simp only [Act.put, pqs]); refine rgN 16 rfl ?_; (try simp only [Act.put, pqs]); refine rgT 17 ?_ rfl (fun w' hSw => ?_) ?_; rotate_left; (focus ((try dsimp only at hSw); (have sa0 := (st_cell hSw lS nS).trans s3; have sa1 := (st_cell hSw hbL nL).trans k0; have sa2 := (st_cell hSw lJ nJ).trans ja0; have sa3 := (st_cell hSw lJ nJ).trans ja1; have sa4 := (st_cell hSw lJ nJ).trans jb0; have sa5 := (st_cell hSw lJ nJ).trans jb1); go_simp; (try with_reducible rfl))); (try simp only [Act.put, pqs]); refine rgN 18 rfl ?_; (try simp only [Act.put, pqs]); refine rgN 19 rfl ?_; (try simp only [Act.put, pqs]); refine rgN 20 rfl ?_; (try simp only [Act.put, pqs]); refine rgT 21 ?_ rfl (fun w' hSw => ?_) ?_; rotate_left; (focus ((try dsimp only at hSw); (have sa0 := (st_cell hSw lS nS).trans s3; have sa1 := (st_cell hSw hbL nL).trans k0; have sa2 := (st_cell hSw lJ nJ).trans ja0; have sa3 := (st_cell hSw lJ nJ).trans ja1; have sa4 := (st_cell hSw lJ nJ).trans jb0; have sa5 := (st_cell hSw lJ nJ).trans jb1); go_simp; (try with_reducible rfl))); (try simp only [Act.put, pqs]); refine rgN 22 rfl ?_; (try simp only [Act.put, pqs]); refine rgN 23 rfl ?_; (try simp only [Act.put, pqs]); refine rgN 24 rfl ?_; (try simp only [Act.put, pqs]); refine rgT 25 ?_ rfl (fun w' hSw => ?_) ?_; rotate_left; (focus ((try dsimp only at hSw); (have sa0 := (st_cell hSw lS nS).trans s3; have sa1 := (st_cell hSw hbL nL).trans k0; have sa2 := (st_cell hSw lJ nJ).trans ja0; have sa3 := (st_cell hSw lJ nJ).trans ja1; have sa4 := (st_cell hSw lJ nJ).trans jb0; have sa5 := (st_cell hSw lJ nJ).trans jb1); go_simp; (try with_reducible rfl))); (try simp only [Act.put, pqs]); refine rgN 26 rfl ?_; (try simp only [Act.put, pqs]); refine rgN 27 rfl ?_; (try simp only [Act.put, pqs]); refine rgN 28 rfl ?_; (try simp only [Act.put, pqs]); refine rgN 29 rfl ?_; (try simp only [Act.put, pqs]); refine rgN 30 rfl ?_; (try simp only [Act.put, pqs]); refine rgN 31 rfl ?_; (try simp only [Act.put, pqs]); refine rgT 32 ?_ rfl (fun w' hSw => ?_) ?_; rotate_left; (focus ((try dsimp only at hSw); (have sa0 := (st_cell hSw lS nS).trans s3; have sa1 := (st_cell hSw hbL nL).trans k0; have sa2 := (st_cell hSw lJ nJ).trans ja0; have sa3 := (st_cell hSw lJ nJ).trans ja1; have sa4 := (st_cell hSw lJ nJ).trans jb0; have sa5 := (st_cell hSw lJ nJ).trans jb1); go_simp; (try with_reducible rfl))); (try simp only [Act.put, pqs]); refine rgN 33 rfl ?_; (try simp only [Act.put, pqs]); refine rgN 34 rfl ?_; (try simp only [Act.put, pqs]); refine rgN 35 rfl ?_; (try simp only [Act.put, pqs]); refine rgN 36 rfl ?_; (try simp only [Act.put, pqs]); refine rgN 37 rfl ?_; (try simp only [Act.put, pqs]); refine rgN 38 rfl ?_; (try simp only [Act.put, pqs]); refine rgT 39 ?_ rfl (fun w' hSw => ?_) ?_; rotate_left; (focus ((try dsimp only at hSw); (have sa0 := (st_cell hSw lS nS).trans s3; have sa1 := (st_cell hSw hbL nL).trans k0; have sa2 := (st_cell hSw lJ nJ).trans ja0; have sa3 := (st_cell hSw lJ nJ).trans ja1; have sa4 := (st_cell hSw lJ nJ).trans jb0; have sa5 := (st_cell hSw lJ nJ).trans jb1); go_simp; (try with_reducible rfl))); (try simp only [Act.put, pqs]); refine rgN 40 rfl ?_; (try simp only [Act.put, pqs]); refine rgN 41 rfl ?_; (try simp only [Act.put, pqs]); refine rgN 42 rfl ?_; (try simp only [Act.put, pqs]); refine rgN 43 rfl ?_; (try simp only [Act.put, pqs]); refine rgT 44 ?_ rfl (fun w' hSw => ?_) ?_; rotate_left; (focus ((try dsimp only at hSw); (have sa0 := (st_cell hSw lS nS).trans s3; have sa1 := (st_cell hSw hbL nL).trans k0; have sa2 := (st_cell hSw lJ nJ).trans ja0; have sa3 := (st_cell hSw lJ nJ).trans ja1; have sa4 := (st_cell hSw lJ nJ).trans jb0; have sa5 := (st_cell hSw lJ nJ).trans jb1); go_simp; (try with_reducible rfl))); (try simp only [Act.put, pqs]); refine rgN 45 rfl ?_; (try simp only [Act.put, pqs]); refine rgN 46 rfl ?_; (try simp only [Act.put, pqs]); refine rgN 47 rfl ?_; (try simp only [Act.put, pqs]); refine rgT 48 ?_ rfl (fun w' hSw => ?_) ?_; rotate_left; (focus ((try dsimp only at hSw); (have sa0 := (st_cell hSw lS nS).trans s3; have sa1 := (st_cell hSw hbL nL).trans k0; have sa2 := (st_cell hSw lJ nJ).trans ja0; have sa3 := (st_cell hSw lJ nJ).trans ja1; have sa4 := (st_cell hSw lJ nJ).trans jb0; have sa5 := (st_cell hSw lJ nJ).trans jb1); go_simp; (try with_reducible rfl))); (try simp only [Act.put, pqs]); refine rgN 49 rfl ?_; (try simp only [Act.put, pqs]); refine rgN 50 rfl ?_; (try simp only [Act.put, pqs]); refine rgN 51 rfl ?_; (try simp only [Act.put, pqs]); refine rgT 52 ?_ rfl (fun w' hSw => ?_) ?_; rotate_left; (focus ((try dsimp only at hSw); (have sa0 := (st_cell hSw lS nS).trans s3; have sa1 := (st_cell hSw hbL nL).trans k0; have sa2 := (st_cell hSw lJ nJ).trans ja0; have sa3 := (st_cell hSw lJ nJ).trans ja1; have sa4 := (st_cell hSw lJ nJ).trans jb0; have sa5 := (st_cell hSw lJ nJ).trans jb1); go_simp; (try with_reducible rfl))); (try simp only [Act.put, pqs]); refine rgN 53 rfl ?_; (try simp only [Act.put, pqs]); refine rgN 54 rfl ?_; (try simp only [Act.put, pqs]); refine rgN 55 rfl ?_; (try simp only [Act.put, pqs]); refine rgC 56 rfl (fun K hK => ?_); go_simp; ((first | (refine step_append_lies _ rfl (.tmp 37) (.tmp 93) 54 rfl U 22 j0 zC 2 16 Tryz.underlying54 hj0 hy0 hy1 hy2 hy3 (by decide) _ _ _ rfl ((OWND.out).alloc _) ⟨wr.heap.size, 0, none⟩ 1 1 [.int .i64 (xa + (k * (xb - xa)).tdiv n), .int .i64 (ya + (k * (yb - ya)).tdiv n)] rfl rfl (by simpa using cell_two_new wr (.int .i64 (xa + (k * (xb - xa)).tdiv n)) (.int .i64 (ya + (k * (yb - ya)).tdiv n)) 22) (by simp [Value.oneCell']) (by decide) hm1 hm2 (by simp; omega) _ rfl ?_; intro g5 cap5 w5 hown5 hgrow5 hat5 hlt5) | skip)); go_simp; refine hK.out _ _ ?_ (fun hHeld => ?_); (focus ((try dsimp only); ((first | exact Steps1.refl _ _ | exact (Steps1.refl _ _).alloc _ | exact st_drew ((Steps1.refl _ _).alloc _) | exact st_grown (st_drew ((Steps1.refl _ wr).alloc _)) (show World.grownBy _ w5 (some g2) from hgrow5))))); clear hK K; (try simp only [Act.put, pqs]); refine rgC 57 rfl (fun K hK => ?_); ((first | (refine step_append_lies _ rfl (.tmp 37) (.tmp 93) 54 rfl U 22 j0 zC 2 16 Tryz.underlying54 hj0 hy0 hy1 hy2 hy3 (by decide) _ _ _ rfl ((OWND.out).alloc _) ⟨wr.heap.size, 0, none⟩ 1 1 [.int .i64 (xa + (k * (xb - xa)).tdiv n), .int .i64 (ya + (k * (yb - ya)).tdiv n)] rfl rfl (by simpa using cell_two_new wr (.int .i64 (xa + (k * (xb - xa)).tdiv n)) (.int .i64 (ya + (k * (yb - ya)).tdiv n)) 22) (by simp [Value.oneCell']) (by decide) hm1 hm2 (by simp; omega) _ rfl ?_; intro g5 cap5 w5 hown5 hgrow5 hat5 hlt5) | skip)); go_simp; refine hK.out _ _ ?_ (fun hHeld => ?_); (focus ((try dsimp only); ((first | exact Steps1.refl _ _ | exact (Steps1.refl _ _).alloc _ | exact st_drew ((Steps1.refl _ _).alloc _) | exact st_grown (st_drew ((Steps1.refl _ wr).alloc _)) (show World.grownBy _ w5 (some g2) from hgrow5))))); clear hK K; (try simp only [Act.put, pqs]); refine rgN 58 rfl ?_; (try simp only [Act.put, pqs]); refine wpAnyH_done (Q := fun e a w => e = Exit.normal ∧ R a w) (by kernel_rfl) ⟨rfl, hR _ _ ?_⟩ _; clear hR R)
          go_wp2
          go_roundw
          case rel =>
            refine ⟨k + 1, E ++ [(xa + (k * (xb - xa)).tdiv n, ya + (k * (yb - ya)).tdiv n)], g5, cap5, by go_num, by omega, by simp, ⟨by simp, by simp; omega⟩, hSTP.out, ?_, ?_⟩
            · unfold Hid
              simpa [List.flatMap_append, ceV] using hown5
            · exact (show Below U w2 ((wr.alloc (.cells #[.int .i64 (xa + (k * (xb - xa)).tdiv n), .int .i64 (ya + (k * (yb - ya)).tdiv n)] 22)).drew) from by exact bB1 hBV).grown (show World.grownBy _ w5 (some g2) from hgrow5) (by simp; omega) (fun j e => by have := Option.some.inj e; omega)
          case measure => simp [intOf]; omega
        · have dle : decide (k ≤ n) = false := decide_eq_false hkn
          have hR : R = E ++ frR (js.drop (q + 1)) (L.drop (q + 1)) := by rw [hg.out, show (n + 1 - k).toNat = 0 by omega]; rfl
          have HR := Lib.hid hR
          clear hR hg
          go_wp2
          go_roundw
          case rel => exact ⟨q + 1, E, g2, cap2, by omega, by omega, by go_num, rfl, ⟨hE1, by omega⟩, HR.out, hown2.out, hBV⟩
          case measure => simp [intOf]; omega
    · have hR : R = D := by rw [hf.out, frR_end (by omega)]; simp
      go_wp2
      go_ret
      subst hR
      exact ⟨g, cap, rfl, own_base hown.out (by omega), by exact bB2 hBU hBw⟩

end Go.Proofs.YtpnfgmgoafgcbaaGreat

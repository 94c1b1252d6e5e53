/-
  Joints of the reference (chapter 6).
-/
import Derived.Test.YtpnfgmgoafgcbaaGreatRHd
import Derived.Test.YtpnfgmgoafgcbaaGreatRSc
import Derived.Deep.AppendLies
import Derived.Test.YtpnfgmgoafgcbaaGreatLate
set_option linter.unusedVariables false
namespace Go.Proofs.YtpnfgmgoafgcbaaGreat
open Go.RowKit
attribute [local go_sem] Oper.semAt_some
theorem jtsF_sum (n a b q x y T : Int) (L : List Lk) (Q : List Int) : jtsF x y T ((n, a, b) :: L) (q :: Q) = (x + n * dirX (T + q), y + n * dirY (T + q)) :: jtsF (x + n * dirX (T + q)) (y + n * dirY (T + q)) (T + q) L Q := rfl
set_option maxHeartbeats 4000000 in
set_option maxRecDepth 100000 in
theorem rJoints_c (bx bY sl fx fX fy fY ps : Int) (L : List Lk) (B : List Bx) (Q : List Int) (AL AB AQ : Option Addr) (cL cB cQ : Nat) (w : World) (hQ : Q.length = L.length) (hL : L.length ≤ 3)
    (hb1 : -1000 ≤ bx ∧ bx ≤ 1000) (hb2 : -1000 ≤ bY ∧ bY ≤ 1000) (hb3 : -1000 ≤ ps ∧ ps ≤ 1000) (hl : ∀ l ∈ L, 1 ≤ l.1 ∧ l.1 ≤ 4) (hq : ∀ q ∈ Q, -2 ≤ q ∧ q ≤ 2) (hs1 : SlV w AL (L.flatMap lkV)) (hs3 : SlI w AQ Q) :
    Calls Tryz.prog 62 #[.agg #[.int .i64 bx, .int .i64 bY, .int .i64 sl, .slice AL L.length cL, .int .i64 fx, .int .i64 fX, .int .i64 fy, .int .i64 fY, .slice AB B.length cB], .agg #[.int .i64 ps, .slice AQ Q.length cQ]] w (CesEnd (jts (⟨bx, bY, sl, L, (fx, fX, fy, fY), B⟩ : Sc) (ps, Q)) w) := by
  have HP := Lib.hid (show jts (⟨bx, bY, sl, L, (fx, fX, fy, fY), B⟩ : Sc) (ps, Q) = (bx + ps, bY) :: jtsF (bx + ps) bY 0 L Q from rfl)
  have HN := Lib.hid (show (jts (⟨bx, bY, sl, L, (fx, fX, fy, fY), B⟩ : Sc) (ps, Q)).length = Q.length + 1 by rw [jts_len (s := (⟨bx, bY, sl, L, (fx, fX, fy, fY), B⟩ : Sc)) (p := (ps, Q)) hQ, hQ])
  generalize jts (⟨bx, bY, sl, L, (fx, fX, fy, fY), B⟩ : Sc) (ps, Q) = R at *
  have HS := Lib.hid hs1
  have HQ := Lib.hid hs3
  have hqL := Lib.hid hQ
  have hQ3 : Q.length ≤ 3 := by omega
  have HL := Lib.hid hl
  have HqQ := Lib.hid hq
  clear hs1 hs3 hQ hl hq
  obtain ⟨j0, zC, hj0, hy0, hy1, hy2, hy3⟩ := infoOk_parts infoC
  go_enter Tryz.func62, Tryz.ntmps62
  go_wp2
  obtain ⟨W5, hW5⟩ : ∃ W5 : World, W5 = (((w.alloc (.cells #[.int .i64 bx, .int .i64 bY, .int .i64 sl, .slice AL L.length cL, .int .i64 fx, .int .i64 fX, .int .i64 fy, .int .i64 fY, .slice AB B.length cB] 30)).alloc (.cells #[.int .i64 ps, .slice AQ Q.length cQ] 33)).alloc (.cells #[.int .i64 (bx + ps), .int .i64 bY] 22)).alloc (.cells #[.int .i64 (bx + ps), .int .i64 bY] 22) := ⟨_, rfl⟩
  have a0 : Box W5 w.heap.size 30 #[.int .i64 bx, .int .i64 bY, .int .i64 sl, .slice AL L.length cL, .int .i64 fx, .int .i64 fX, .int .i64 fy, .int .i64 fY, .slice AB B.length cB] := by rw [hW5]; exact bX0
  have a1 : Box W5 (w.heap.size + 1) 33 #[.int .i64 ps, .slice AQ Q.length cQ] := by rw [hW5]; exact bX0
  have a3 : Box W5 (w.heap.size + 1 + 1) 22 #[.int .i64 (bx + ps), .int .i64 bY] := by rw [hW5]; exact bX0
  have a2 : W5.ownsRow w.heap.size 22 2 (.slice (some ⟨w.heap.size + 1 + 1 + 1, 0, none⟩) 1 1) 1 ([(bx + ps, bY)].flatMap ceV) := by
    rw [hW5]
    have := World.ownsRow_lit (base := w.heap.size) (e := 22) (size := 2) (((w.alloc (.cells #[.int .i64 bx, .int .i64 bY, .int .i64 sl, .slice AL L.length cL, .int .i64 fx, .int .i64 fX, .int .i64 fy, .int .i64 fY, .slice AB B.length cB] 30)).alloc (.cells #[.int .i64 ps, .slice AQ Q.length cQ] 33)).alloc (.cells #[.int .i64 (bx + ps), .int .i64 bY] 22)) #[.int .i64 (bx + ps), .int .i64 bY] 1 (by simp; omega) (by decide) rfl
    simpa [ceV] using this
  have hB0 : Below w.heap.size w W5 := by rw [hW5]; exact bB0
  rw [← hW5]
  clear hW5
  have hz0 : w.heap.size + 1 + 1 < W5.heap.size := a3.lt
  go_loopw [6, 7, 8] (fun v t i wr => ∃ (k : Nat) (x y T : Int) (D : List Ce) (g cap : Nat), k ≤ Q.length ∧ i = .int .i64 k ∧ t = .int .i64 T ∧ v = .slice (some ⟨g, 0, none⟩) (k + 1) cap ∧ D.length = k + 1 ∧ Hid (R = D ++ jtsF x y T (L.drop k) (Q.drop k)) ∧ (-2 * (k : Int) ≤ T ∧ T ≤ 2 * (k : Int)) ∧ (-2000 - 4 * (k : Int) ≤ x ∧ x ≤ 2000 + 4 * (k : Int)) ∧ (-1000 - 4 * (k : Int) ≤ y ∧ y ≤ 1000 + 4 * (k : Int)) ∧
    wr.ownsRow w.heap.size 22 2 (.slice (some ⟨g, 0, none⟩) (k + 1) cap) (k + 1) (D.flatMap ceV) ∧ g ≠ w.heap.size ∧ g ≠ w.heap.size + 1 ∧ g ≠ w.heap.size + 1 + 1 ∧ Box wr w.heap.size 30 #[.int .i64 bx, .int .i64 bY, .int .i64 sl, .slice AL L.length cL, .int .i64 fx, .int .i64 fX, .int .i64 fy, .int .i64 fY, .slice AB B.length cB] ∧ Box wr (w.heap.size + 1) 33 #[.int .i64 ps, .slice AQ Q.length cQ] ∧ Box wr (w.heap.size + 1 + 1) 22 #[.int .i64 x, .int .i64 y] ∧ Below w.heap.size w wr) (fun _ _ i _ => Q.length - (intOf i).toNat)
  case atStart => exact ⟨0, bx + ps, bY, 0, [(bx + ps, bY)], w.heap.size + 1 + 1 + 1, 1, Nat.zero_le _, rfl, rfl, rfl, rfl, by rw [HP.out]; rfl, by omega, by omega, by omega, a2, by omega, by omega, by omega, a0, a1, a3, hB0⟩
  case round =>
    obtain ⟨k, x, y, T, D, g, cap, hk, rfl, rfl, rfl, hD, hf, hT0, hx, hy, own, n0, n1, n3, b0, b1, b3, hB⟩ := hrel
    clear a0 a1 a2 a3 hB0
    by_cases hlt : k < Q.length
    · have hkL : k < L.length := by have := hqL.out; omega
      obtain ⟨b, off, rfl, hb, k0, _, _⟩ := lk_cells (HS.out.below hB) (List.getElem?_eq_getElem hkL)
      obtain ⟨b', off', rfl, hb', c0⟩ := (HQ.out.below hB) k Q[k] (List.getElem?_eq_getElem hlt)
      have ln := HL.out _ (List.getElem_mem hkL)
      have qn := HqQ.out _ (List.getElem_mem hlt)
      have HD := Lib.hid (List.drop_eq_getElem_cons hkL)
      have HE := Lib.hid (List.drop_eq_getElem_cons hlt)
      generalize L[k] = ev at *
      generalize Q[k] = q at *
      obtain ⟨n, lo, hi⟩ := ev
      dsimp only at k0 ln
      have FE := Lib.hid (jtsF_sum n lo hi q x y T (L.drop (k + 1)) (Q.drop (k + 1)))
      have s3 := b0.cell 3; have p1 := b1.cell 1
      simp at s3 p1
      have ls0 := b0.lt; have ls1 := b1.lt; have ls3 := b3.lt
      have m3 : (k : Int) < (Q.length : Int) := by omega
      have m4 : (k : Int) < (L.length : Int) := by omega
      have db := dir_bd (T + q)
      have WYc := Lib.hid (fun W => way_at (T + q) (dirX (T + q)) (dirY (T + q)) W (by omega) rfl rfl)
      generalize dirX (T + q) = dx at *
      generalize dirY (T + q) = dy at *
      have pb : (-4 ≤ n * dx ∧ n * dx ≤ 4) ∧ (-4 ≤ n * dy ∧ n * dy ≤ 4) := by
        have h1 : dx = -1 ∨ dx = 0 ∨ dx = 1 := by omega
        have h2 : dy = -1 ∨ dy = 0 ∨ dy = 1 := by omega
        rcases h1 with rfl | rfl | rfl <;> rcases h2 with rfl | rfl | rfl <;> omega
      have v1 : IntKind.i64.wrap (n * dx) = n * dx := IntWalk.i64_in _ (by omega)
      have v2 : IntKind.i64.wrap (n * dy) = n * dy := IntWalk.i64_in _ (by omega)
      have v3 : IntKind.i64.wrap (x + n * dx) = x + n * dx := IntWalk.i64_in _ (by omega)
      have v4 : IntKind.i64.wrap (y + n * dy) = y + n * dy := IntWalk.i64_in _ (by omega)
      have lg := (own.lt g (by simp [Value.ownBlock])).2
      go_upto_region 9 with (first | (go_at_call 99; (with_reducible refine (WYc.out _).mono ?_); rintro e w3 ⟨rfl, hb3⟩) | fail)
      have hz3 := hb3.size
      obtain ⟨W6, hW6⟩ : ∃ W6 : World, W6 = w3.alloc (.cells #[.int .i64 dx, .int .i64 dy] 22) := ⟨_, rfl⟩
      have B0 : Box W6 w.heap.size 30 #[.int .i64 bx, .int .i64 bY, .int .i64 sl, .slice (some ⟨b, off, none⟩) L.length cL, .int .i64 fx, .int .i64 fX, .int .i64 fy, .int .i64 fY, .slice AB B.length cB] := by rw [hW6]; exact bX1 hb3
      have B1 : Box W6 (w.heap.size + 1) 33 #[.int .i64 ps, .slice (some ⟨b', off', none⟩) Q.length cQ] := by rw [hW6]; exact bX1 hb3
      have B3 : Box W6 (w.heap.size + 1 + 1) 22 #[.int .i64 x, .int .i64 y] := by rw [hW6]; exact bX1 hb3
      have B9 : Box W6 w3.heap.size 22 #[.int .i64 dx, .int .i64 dy] := by rw [hW6]; exact Box.new _ _ _
      have hBx : Below wr.heap.size wr W6 := by rw [hW6]; exact bB1 hb3
      have own5 := own_below own hBx
      have K0 := ((bcell hBx).1 _ _ hb).trans k0
      have n9 : w.heap.size + 1 + 1 ≠ w3.heap.size := by omega
      have ng9 : g ≠ w3.heap.size := by omega
      rw [← hW6]
      clear hW6 b0 b1 b3 own k0 c0 s3 p1 WYc
      generalize w3.heap.size = g9 at *
      have s3 := B0.cell 3; have x0 := B3.cell 0; have x1 := B3.cell 1; have fxx := B3.froz; have y0 := B9.cell 0; have y1 := B9.cell 1
      have l9 := B9.lt; have hz6 := hBx.size
      simp at s3 x0 x1 y0 y1
      have ls6 := B0.lt; have lx6 := B3.lt; have lb6 : b < W6.heap.size := by omega
      (refine region_open (by kernel_rfl) (fun R hR => ?_); refine lateR (S := (fun w' => Below W6.heap.size W6 w')) 25 ?_ (fun hHeld => ?_); (focus ((try dsimp only); (((first | exact bB0 | exact bB0))))); refine wpAnyL_pure (i := 0) (v := ?_) rfl (by kernel_rfl) (by kernel_rfl) (by kernel_rfl) (by kernel_rfl) (fun _ _ _ h => nomatch h.1) (.inl ⟨by kernel_rfl, fun w' _ => ?_⟩) (by first | exact (fun _ => hHeld) | exact late_absurd (by kernel_rfl)) ?_; rotate_left; (focus (go_simp; (try with_reducible rfl))); (try simp only [Act.put, pqs]); refine wpAnyL_take (i := 1) (v := ?_) rfl (by kernel_rfl) (by kernel_rfl) (by kernel_rfl) (by kernel_rfl) (by kernel_rfl) (by kernel_rfl) (fun _ _ _ h => nomatch h.1) (.inl ⟨by kernel_rfl, fun w' hSw => ?_⟩) hHeld ?_; rotate_left; (focus ((try dsimp only at hSw); (have hcc := (bcell hSw).1; have sa0 := (hcc _ 3 ls6).trans s3; have sa1 := (hcc _ 0 lx6).trans x0; have sa2 := (hcc _ 1 lx6).trans x1; have sa3 := (hcc _ 0 l9).trans y0; have sa4 := (hcc _ 1 l9).trans y1; have sa5 := (hcc _ _ lb6).trans K0); go_simp; (try with_reducible rfl))); (try simp only [Act.put, pqs]); refine wpAnyL_pure (i := 2) (v := ?_) rfl (by kernel_rfl) (by kernel_rfl) (by kernel_rfl) (by kernel_rfl) (fun _ _ _ h => nomatch h.1) (.inl ⟨by kernel_rfl, fun w' _ => ?_⟩) (by first | exact (fun _ => hHeld) | exact late_absurd (by kernel_rfl)) ?_; rotate_left; (focus (go_simp; (try with_reducible rfl))); (try simp only [Act.put, pqs]); refine wpAnyL_take (i := 3) (v := ?_) rfl (by kernel_rfl) (by kernel_rfl) (by kernel_rfl) (by kernel_rfl) (by kernel_rfl) (by kernel_rfl) (fun _ _ _ h => nomatch h.1) (.inl ⟨by kernel_rfl, fun w' hSw => ?_⟩) hHeld ?_; rotate_left; (focus ((try dsimp only at hSw); (have hcc := (bcell hSw).1; have sa0 := (hcc _ 3 ls6).trans s3; have sa1 := (hcc _ 0 lx6).trans x0; have sa2 := (hcc _ 1 lx6).trans x1; have sa3 := (hcc _ 0 l9).trans y0; have sa4 := (hcc _ 1 l9).trans y1; have sa5 := (hcc _ _ lb6).trans K0); go_simp; (try with_reducible rfl))); (try simp only [Act.put, pqs]); refine wpAnyL_pure (i := 4) (v := ?_) rfl (by kernel_rfl) (by kernel_rfl) (by kernel_rfl) (by kernel_rfl) (fun _ _ _ h => nomatch h.1) (.inl ⟨by kernel_rfl, fun w' _ => ?_⟩) (by first | exact (fun _ => hHeld) | exact late_absurd (by kernel_rfl)) ?_; rotate_left; (focus (go_simp; (try with_reducible rfl))); (try simp only [Act.put, pqs]); refine wpAnyL_pure (i := 5) (v := ?_) rfl (by kernel_rfl) (by kernel_rfl) (by kernel_rfl) (by kernel_rfl) (fun _ _ _ h => nomatch h.1) (.inl ⟨by kernel_rfl, fun w' _ => ?_⟩) (by first | exact (fun _ => hHeld) | exact late_absurd (by kernel_rfl)) ?_; rotate_left; (focus (go_simp; (try with_reducible rfl))); (try simp only [Act.put, pqs]); refine wpAnyL_pure (i := 6) (v := ?_) rfl (by kernel_rfl) (by kernel_rfl) (by kernel_rfl) (by kernel_rfl) (fun _ _ _ h => nomatch h.1) (.inl ⟨by kernel_rfl, fun w' _ => ?_⟩) (by first | exact (fun _ => hHeld) | exact late_absurd (by kernel_rfl)) ?_; rotate_left; (focus (go_simp; (try with_reducible rfl))); (try simp only [Act.put, pqs]); refine wpAnyL_take (i := 7) (v := ?_) rfl (by kernel_rfl) (by kernel_rfl) (by kernel_rfl) (by kernel_rfl) (by kernel_rfl) (by kernel_rfl) (fun _ _ _ h => nomatch h.1) (.inl ⟨by kernel_rfl, fun w' hSw => ?_⟩) hHeld ?_; rotate_left; (focus ((try dsimp only at hSw); (have hcc := (bcell hSw).1; have sa0 := (hcc _ 3 ls6).trans s3; have sa1 := (hcc _ 0 lx6).trans x0; have sa2 := (hcc _ 1 lx6).trans x1; have sa3 := (hcc _ 0 l9).trans y0; have sa4 := (hcc _ 1 l9).trans y1; have sa5 := (hcc _ _ lb6).trans K0); go_simp; (try with_reducible rfl))); (try simp only [Act.put, pqs]); refine wpAnyL_pure (i := 8) (v := ?_) rfl (by kernel_rfl) (by kernel_rfl) (by kernel_rfl) (by kernel_rfl) (fun _ _ _ h => nomatch h.1) (.inl ⟨by kernel_rfl, fun w' _ => ?_⟩) (by first | exact (fun _ => hHeld) | exact late_absurd (by kernel_rfl)) ?_; rotate_left; (focus (go_simp; (try with_reducible rfl))); (try simp only [Act.put, pqs]); refine wpAnyL_take (i := 9) (v := ?_) rfl (by kernel_rfl) (by kernel_rfl) (by kernel_rfl) (by kernel_rfl) (by kernel_rfl) (by kernel_rfl) (fun _ _ _ h => nomatch h.1) (.inl ⟨by kernel_rfl, fun w' hSw => ?_⟩) hHeld ?_; rotate_left; (focus ((try dsimp only at hSw); (have hcc := (bcell hSw).1; have sa0 := (hcc _ 3 ls6).trans s3; have sa1 := (hcc _ 0 lx6).trans x0; have sa2 := (hcc _ 1 lx6).trans x1; have sa3 := (hcc _ 0 l9).trans y0; have sa4 := (hcc _ 1 l9).trans y1; have sa5 := (hcc _ _ lb6).trans K0); go_simp; (try with_reducible rfl))); (try simp only [Act.put, pqs]); refine wpAnyL_pure (i := 10) (v := ?_) rfl (by kernel_rfl) (by kernel_rfl) (by kernel_rfl) (by kernel_rfl) (fun _ _ _ h => nomatch h.1) (.inl ⟨by kernel_rfl, fun w' _ => ?_⟩) (by first | exact (fun _ => hHeld) | exact late_absurd (by kernel_rfl)) ?_; rotate_left; (focus (go_simp; (try with_reducible rfl))); (try simp only [Act.put, pqs]); refine wpAnyL_pure (i := 11) (v := ?_) rfl (by kernel_rfl) (by kernel_rfl) (by kernel_rfl) (by kernel_rfl) (fun _ _ _ h => nomatch h.1) (.inl ⟨by kernel_rfl, fun w' _ => ?_⟩) (by first | exact (fun _ => hHeld) | exact late_absurd (by kernel_rfl)) ?_; rotate_left; (focus (go_simp; (try with_reducible rfl))); (try simp only [Act.put, pqs]); refine wpAnyL_pure (i := 12) (v := ?_) rfl (by kernel_rfl) (by kernel_rfl) (by kernel_rfl) (by kernel_rfl) (fun _ _ _ h => nomatch h.1) (.inl ⟨by kernel_rfl, fun w' _ => ?_⟩) (by first | exact (fun _ => hHeld) | exact late_absurd (by kernel_rfl)) ?_; rotate_left; (focus (go_simp; (try with_reducible rfl))); (try simp only [Act.put, pqs]); refine wpAnyL_take (i := 13) (v := ?_) rfl (by kernel_rfl) (by kernel_rfl) (by kernel_rfl) (by kernel_rfl) (by kernel_rfl) (by kernel_rfl) (fun _ _ _ h => nomatch h.1) (.inl ⟨by kernel_rfl, fun w' hSw => ?_⟩) hHeld ?_; rotate_left; (focus ((try dsimp only at hSw); (have hcc := (bcell hSw).1; have sa0 := (hcc _ 3 ls6).trans s3; have sa1 := (hcc _ 0 lx6).trans x0; have sa2 := (hcc _ 1 lx6).trans x1; have sa3 := (hcc _ 0 l9).trans y0; have sa4 := (hcc _ 1 l9).trans y1; have sa5 := (hcc _ _ lb6).trans K0); go_simp; (try with_reducible rfl))); (try simp only [Act.put, pqs]); refine wpAnyL_pure (i := 14) (v := ?_) rfl (by kernel_rfl) (by kernel_rfl) (by kernel_rfl) (by kernel_rfl) (fun _ _ _ h => nomatch h.1) (.inl ⟨by kernel_rfl, fun w' _ => ?_⟩) (by first | exact (fun _ => hHeld) | exact late_absurd (by kernel_rfl)) ?_; rotate_left; (focus (go_simp; (try with_reducible rfl))); (try simp only [Act.put, pqs]); refine wpAnyL_take (i := 15) (v := ?_) rfl (by kernel_rfl) (by kernel_rfl) (by kernel_rfl) (by kernel_rfl) (by kernel_rfl) (by kernel_rfl) (fun _ _ _ h => nomatch h.1) (.inl ⟨by kernel_rfl, fun w' hSw => ?_⟩) hHeld ?_; rotate_left; (focus ((try dsimp only at hSw); (have hcc := (bcell hSw).1; have sa0 := (hcc _ 3 ls6).trans s3; have sa1 := (hcc _ 0 lx6).trans x0; have sa2 := (hcc _ 1 lx6).trans x1; have sa3 := (hcc _ 0 l9).trans y0; have sa4 := (hcc _ 1 l9).trans y1; have sa5 := (hcc _ _ lb6).trans K0); go_simp; (try with_reducible rfl))); (try simp only [Act.put, pqs]); refine wpAnyL_pure (i := 16) (v := ?_) rfl (by kernel_rfl) (by kernel_rfl) (by kernel_rfl) (by kernel_rfl) (fun _ _ _ h => nomatch h.1) (.inl ⟨by kernel_rfl, fun w' _ => ?_⟩) (by first | exact (fun _ => hHeld) | exact late_absurd (by kernel_rfl)) ?_; rotate_left; (focus (go_simp; (try with_reducible rfl))); (try simp only [Act.put, pqs]); refine wpAnyL_pure (i := 17) (v := ?_) rfl (by kernel_rfl) (by kernel_rfl) (by kernel_rfl) (by kernel_rfl) (fun _ _ _ h => nomatch h.1) (.inl ⟨by kernel_rfl, fun w' _ => ?_⟩) (by first | exact (fun _ => hHeld) | exact late_absurd (by kernel_rfl)) ?_; rotate_left; (focus (go_simp; (try with_reducible rfl))); (try simp only [Act.put, pqs]); refine wpAnyL_pure (i := 18) (v := ?_) rfl (by kernel_rfl) (by kernel_rfl) (by kernel_rfl) (by kernel_rfl) (fun _ _ _ h => nomatch h.1) (.inl ⟨by kernel_rfl, fun w' _ => ?_⟩) (by first | exact (fun _ => hHeld) | exact late_absurd (by kernel_rfl)) ?_; rotate_left; (focus (go_simp; (try with_reducible rfl))); (try simp only [Act.put, pqs]); refine wpAnyL_take (i := 19) (v := ?_) rfl (by kernel_rfl) (by kernel_rfl) (by kernel_rfl) (by kernel_rfl) (by kernel_rfl) (by kernel_rfl) (fun _ _ _ h => nomatch h.1) (.inl ⟨by kernel_rfl, fun w' hSw => ?_⟩) hHeld ?_; rotate_left; (focus ((try dsimp only at hSw); (have hcc := (bcell hSw).1; have sa0 := (hcc _ 3 ls6).trans s3; have sa1 := (hcc _ 0 lx6).trans x0; have sa2 := (hcc _ 1 lx6).trans x1; have sa3 := (hcc _ 0 l9).trans y0; have sa4 := (hcc _ 1 l9).trans y1; have sa5 := (hcc _ _ lb6).trans K0); go_simp; (try with_reducible rfl))); (try simp only [Act.put, pqs]); refine wpAnyL_pure (i := 20) (v := ?_) rfl (by kernel_rfl) (by kernel_rfl) (by kernel_rfl) (by kernel_rfl) (fun _ _ _ h => nomatch h.1) (.inl ⟨by kernel_rfl, fun w' _ => ?_⟩) (by first | exact (fun _ => hHeld) | exact late_absurd (by kernel_rfl)) ?_; rotate_left; (focus (go_simp; (try with_reducible rfl))); (try simp only [Act.put, pqs]); refine wpAnyL_take (i := 21) (v := ?_) rfl (by kernel_rfl) (by kernel_rfl) (by kernel_rfl) (by kernel_rfl) (by kernel_rfl) (by kernel_rfl) (fun _ _ _ h => nomatch h.1) (.inl ⟨by kernel_rfl, fun w' hSw => ?_⟩) hHeld ?_; rotate_left; (focus ((try dsimp only at hSw); (have hcc := (bcell hSw).1; have sa0 := (hcc _ 3 ls6).trans s3; have sa1 := (hcc _ 0 lx6).trans x0; have sa2 := (hcc _ 1 lx6).trans x1; have sa3 := (hcc _ 0 l9).trans y0; have sa4 := (hcc _ 1 l9).trans y1; have sa5 := (hcc _ _ lb6).trans K0); go_simp; (try with_reducible rfl))); (try simp only [Act.put, pqs]); refine wpAnyL_pure (i := 22) (v := ?_) rfl (by kernel_rfl) (by kernel_rfl) (by kernel_rfl) (by kernel_rfl) (fun _ _ _ h => nomatch h.1) (.inl ⟨by kernel_rfl, fun w' _ => ?_⟩) (by first | exact (fun _ => hHeld) | exact late_absurd (by kernel_rfl)) ?_; rotate_left; (focus (go_simp; (try with_reducible rfl))); (try simp only [Act.put, pqs]); refine wpAnyL_pure (i := 23) (v := ?_) rfl (by kernel_rfl) (by kernel_rfl) (by kernel_rfl) (by kernel_rfl) (fun _ _ _ h => nomatch h.1) (.inl ⟨by kernel_rfl, fun w' _ => ?_⟩) (by first | exact (fun _ => hHeld) | exact late_absurd (by kernel_rfl)) ?_; rotate_left; (focus (go_simp; (try with_reducible rfl))); (try simp only [Act.put, pqs]); refine wpAnyL_pure (i := 24) (v := ?_) rfl (by kernel_rfl) (by kernel_rfl) (by kernel_rfl) (by kernel_rfl) (fun _ _ _ h => nomatch h.1) (.inl ⟨by kernel_rfl, fun w' _ => ?_⟩) (by first | exact (fun _ => hHeld) | exact late_absurd (by kernel_rfl)) ?_; rotate_left; (focus (go_simp; (try with_reducible rfl))); (try simp only [Act.put, pqs]); refine wpAnyL_ready (rs := [25]) (by kernel_rfl) (by simp) ?_; refine AllReadyL.late rfl (by kernel_rfl) (fun K hK => ?_) AllReadyL.nil; go_simp; (skip); go_simp; refine hK.out _ _ ?_ (fun hHeld => ?_); (focus (exact trivial)); clear hK K; (try simp only [Act.put, pqs]); refine wpAnyL_done (Q := fun e a w => e = Exit.normal ∧ R a w) (by kernel_rfl) ⟨rfl, hR _ _ ?_⟩ _; clear hR R)
      obtain ⟨W7, hW7⟩ : ∃ W7 : World, W7 = ((W6.setCell ⟨w.heap.size + 1 + 1, 0, none⟩ (.int .i64 (x + n * dx))).setCell ⟨w.heap.size + 1 + 1, 1, none⟩ (.int .i64 (y + n * dy))).drew := ⟨_, rfl⟩
      have C0 : Box W7 w.heap.size 30 #[.int .i64 bx, .int .i64 bY, .int .i64 sl, .slice (some ⟨b, off, none⟩) L.length cL, .int .i64 fx, .int .i64 fX, .int .i64 fy, .int .i64 fY, .slice AB B.length cB] := by rw [hW7]; exact bX0
      have C1 : Box W7 (w.heap.size + 1) 33 #[.int .i64 ps, .slice (some ⟨b', off', none⟩) Q.length cQ] := by rw [hW7]; exact bX0
      have C3 : Box W7 (w.heap.size + 1 + 1) 22 #[.int .i64 (x + n * dx), .int .i64 (y + n * dy)] := by rw [hW7]; exact bX0
      have hBy : Below w.heap.size w W7 := by rw [hW7]; exact bB2 hBx hB
      have own7 : W7.ownsRow w.heap.size 22 2 (.slice (some ⟨g, 0, none⟩) (k + 1) cap) (k + 1) (D.flatMap ceV) := by
        rw [hW7]
        exact own_same (own_far (own_far own5 (p := ⟨w.heap.size + 1 + 1, 0, none⟩) (u := .int .i64 (x + n * dx)) n3) (p := ⟨w.heap.size + 1 + 1, 1, none⟩) (u := .int .i64 (y + n * dy)) n3) (fun g _ => rfl)
      rw [← hW7]
      clear hW7 B0 B1 B3 B9 own5 s3 x0 x1 fxx y0 y1 l9 K0 hBx hb3
      have c30 := C3.cell 0; have c31 := C3.cell 1
      simp at c30 c31
      have k0 := C0.lt; have k1 := C1.lt; have k3 := C3.lt
      have hm1 : k + 1 + 1 ≤ maxLen := by unfold maxLen; omega
      have hm2 : (k + 1 + 1) * 16 ≤ 140737488355328 := by omega
      have hbW : w.heap.size ≤ W7.heap.size := hBy.size
      go_wp2_with (at_builtin; go_must (refine wpList_append_own _ rfl _ _ 54 rfl w.heap.size 22 j0 zC 2 16 Tryz.underlying54 hj0 hy0 hy1 hy2 hy3 (by decide) _ _ _ rfl (own7.alloc _) ⟨W7.heap.size, 0, none⟩ 1 1 [.int .i64 (x + n * dx), .int .i64 (y + n * dy)] rfl rfl (by simpa using cell_two_new W7 (.int .i64 (x + n * dx)) (.int .i64 (y + n * dy)) 22) (by simp [Value.oneCell']) hm1 hm2 (by simp; omega) ?_); intro v' wx hown1 hgrow1 _)
      have V0 : Box (W7.alloc (.cells #[.int .i64 (x + n * dx), .int .i64 (y + n * dy)] 22)) w.heap.size 30 #[.int .i64 bx, .int .i64 bY, .int .i64 sl, .slice (some ⟨b, off, none⟩) L.length cL, .int .i64 fx, .int .i64 fX, .int .i64 fy, .int .i64 fY, .slice AB B.length cB] := by exact bX0
      have V1 : Box (W7.alloc (.cells #[.int .i64 (x + n * dx), .int .i64 (y + n * dy)] 22)) (w.heap.size + 1) 33 #[.int .i64 ps, .slice (some ⟨b', off', none⟩) Q.length cQ] := by exact bX0
      have V3 : Box (W7.alloc (.cells #[.int .i64 (x + n * dx), .int .i64 (y + n * dy)] 22)) (w.heap.size + 1 + 1) 22 #[.int .i64 (x + n * dx), .int .i64 (y + n * dy)] := by exact bX0
      have VB : Below w.heap.size w (W7.alloc (.cells #[.int .i64 (x + n * dx), .int .i64 (y + n * dy)] 22)) := by exact bB1 hBy
      have XB := VB.grown hgrow1 (by simp; omega) (fun r e => by have e : some g = some r := e; have := (own7.lt g (by simp [Value.ownBlock])).1; have := Option.some.inj e; omega)
      have X0 := V0.grow hgrow1 n0
      have X1 := V1.grow hgrow1 n1
      have X3 := V3.grow hgrow1 n3
      obtain ⟨g', cap', rfl, _, _⟩ := own_pos hown1 (by omega) (by decide)
      have N0 := own_apart hown1 X0 (.inl (by decide))
      have N1 := own_apart hown1 X1 (.inl (by decide))
      have N3 := own_apart hown1 X3 (.inr (by show 2 < _; omega))
      go_wp2_with fail
      go_roundw
      case rel => exact ⟨k + 1, x + n * dx, y + n * dy, T + q, D ++ [(x + n * dx, y + n * dy)], g', cap', by omega, by go_num, rfl, rfl, by simp; omega, by unfold Hid; rw [hf.out, HD.out, HE.out, FE.out]; simp, by omega, by omega, by omega, by simpa [ceV] using hown1, N0, N1, N3, X0, X1, X3, XB⟩
      case measure => simp [intOf]; omega
    · have s3 := b0.cell 3
      have ls0 := b0.lt
      have hlL : ¬ (k : Int) < (L.length : Int) := by have := hqL.out; omega
      simp at s3
      go_wp2
      go_ret
      have e : Q.drop k = [] := List.drop_eq_nil_of_le (by omega)
      have hR : R = D := by rw [hf.out, e]; cases L.drop k <;> simp [jtsF]
      subst hR
      rw [← hD] at own
      have hl := own.lt g (by simp [Value.ownBlock])
      refine ⟨g, cap, congrArg Ending.returned (show Value.slice (some ⟨g, 0, none⟩) (k + 1) cap = .slice (some ⟨g, 0, none⟩) R.length cap by rw [hD]), hl.1, hl.2, slv_own (by decide) own, own_some own, hB⟩

end Go.Proofs.YtpnfgmgoafgcbaaGreat

/-
  The shortest path to a cell (chapter 6): PathToCell of the program.
-/
import Derived.Test.YtpnfgmgoafgcbaaGreatPt
import Derived.Test.YtpnfgmgoafgcbaaGreatG1
import Derived.Test.YtpnfgmgoafgcbaaGreatMvF
set_option linter.unusedVariables false
namespace Go.Proofs.YtpnfgmgoafgcbaaGreat
open Go.RowKit Go.Shelf
attribute [local go_sem] Oper.semAt_some
attribute [local go_sem ↓] eql_ce'
/-- What PathToCell answers. -/
def pcE0 (s : Sc) (p : Ps) (c : Ce) : Int := fstE [cpE s p, unl (inB c.1 (-20) 20 && inB c.2 (-20) 20) 2]
def pcE (s : Sc) (p : Ps) (c : Ce) : Int := if pcE0 s p c ≠ 0 then pcE0 s p c else if freeP s p then 0 else 17
def endsP (s : Sc) (p : Ps) (c : Ce) : List Ps := (floodP s [p]).2.filter fun z => decide (tipP s z = c)
def pcR (s : Sc) (p : Ps) (c : Ce) : List Mv × Int := if pcE s p c ≠ 0 then ([], pcE s p c) else dnR s (floodP s (endsP s p c)).1 p
theorem pcE0_zero {s : Sc} {p : Ps} {c : Ce} (h : pcE0 s p c = 0) : cpE s p = 0 := by
  unfold pcE0 at h
  exact fstE_zero.1 h _ (by simp)
set_option maxHeartbeats 4000000 in
set_option maxRecDepth 100000 in
theorem pathToCell_c (bx bY sl fx fX fy fY ps tx ty : Int) (L : List Lk) (B : List Bx) (Q : List Int) (AL AB AQ : Option Addr) (cL cB cQ : Nat) (w : World) (hL : L.length ≤ 1000) (hB : B.length ≤ 1000) (hQ : Q.length ≤ 1000)
    (hs1 : SlV w AL (L.flatMap lkV)) (hs2 : SlV w AB (B.flatMap bxV)) (hs3 : SlI w AQ Q) :
    Calls Tryz.prog 35 #[.agg #[.int .i64 bx, .int .i64 bY, .int .i64 sl, .slice AL L.length cL, .int .i64 fx, .int .i64 fX, .int .i64 fy, .int .i64 fY, .slice AB B.length cB], .agg #[.int .i64 ps, .slice AQ Q.length cQ], .agg #[.int .i64 tx, .int .i64 ty]] w (DnEnd w (pcR (⟨bx, bY, sl, L, (fx, fX, fy, fY), B⟩ : Sc) (ps, Q) (tx, ty))) := by
  have OPc := Lib.hid (fun W (h : Below w.heap.size w W) => open_c bx bY sl fx fX fy fY ps L B Q AL AB AQ cL cB cQ W (by omega) (by omega) (by omega) (hs1.below h) (hs2.below h) (hs3.below h))
  have FAd := Lib.hid (fun (h0 : cpE (⟨bx, bY, sl, L, (fx, fX, fy, fY), B⟩ : Sc) (ps, Q) = 0) W (h : Below w.heap.size w W) => free_of h0 bx bY sl fx fX fy fY ps L B Q AL AB AQ cL cB cQ W rfl rfl (hs1.below h) (hs2.below h) (hs3.below h))
  have HE0 := Lib.hid (show pcE0 (⟨bx, bY, sl, L, (fx, fX, fy, fY), B⟩ : Sc) (ps, Q) (tx, ty) = fstE [cpE (⟨bx, bY, sl, L, (fx, fX, fy, fY), B⟩ : Sc) (ps, Q), unl (inB tx (-20) 20 && inB ty (-20) 20) 2] from rfl)
  have HEz := Lib.hid (fun h : pcE0 (⟨bx, bY, sl, L, (fx, fX, fy, fY), B⟩ : Sc) (ps, Q) (tx, ty) = 0 => pcE0_zero h)
  have HE := Lib.hid (show pcE (⟨bx, bY, sl, L, (fx, fX, fy, fY), B⟩ : Sc) (ps, Q) (tx, ty) = if pcE0 (⟨bx, bY, sl, L, (fx, fX, fy, fY), B⟩ : Sc) (ps, Q) (tx, ty) ≠ 0 then pcE0 (⟨bx, bY, sl, L, (fx, fX, fy, fY), B⟩ : Sc) (ps, Q) (tx, ty) else if freeP (⟨bx, bY, sl, L, (fx, fX, fy, fY), B⟩ : Sc) (ps, Q) then 0 else 17 from rfl)
  have HR := Lib.hid (show pcR (⟨bx, bY, sl, L, (fx, fX, fy, fY), B⟩ : Sc) (ps, Q) (tx, ty) = if pcE (⟨bx, bY, sl, L, (fx, fX, fy, fY), B⟩ : Sc) (ps, Q) (tx, ty) ≠ 0 then ([], pcE (⟨bx, bY, sl, L, (fx, fX, fy, fY), B⟩ : Sc) (ps, Q) (tx, ty)) else dnR (⟨bx, bY, sl, L, (fx, fX, fy, fY), B⟩ : Sc) (floodP (⟨bx, bY, sl, L, (fx, fX, fy, fY), B⟩ : Sc) (endsP (⟨bx, bY, sl, L, (fx, fX, fy, fY), B⟩ : Sc) (ps, Q) (tx, ty))).1 (ps, Q) from rfl)
  generalize pcE (⟨bx, bY, sl, L, (fx, fX, fy, fY), B⟩ : Sc) (ps, Q) (tx, ty) = E at *
  generalize pcR (⟨bx, bY, sl, L, (fx, fX, fy, fY), B⟩ : Sc) (ps, Q) (tx, ty) = R at *
  generalize hE0 : pcE0 (⟨bx, bY, sl, L, (fx, fX, fy, fY), B⟩ : Sc) (ps, Q) (tx, ty) = E0 at *
  clear hE0
  generalize hr : cpE (⟨bx, bY, sl, L, (fx, fX, fy, fY), B⟩ : Sc) (ps, Q) = r at *
  have HC := Lib.hid hr
  clear hr
  generalize hs1b : inB tx (-20) 20 = s1 at *
  generalize hs2b : inB ty (-20) 20 = s2 at *
  go_enter Tryz.func35, Tryz.ntmps35
  go_upto_region 2 with (first | (go_at_call 106; (with_reducible refine (OPc.out _ ?_).mono ?_); rotate_left; rintro e w2 ⟨rfl, hb2⟩; rotate_left; (focus (exact bB0)); have hz2 : w.heap.size + 3 ≤ w2.heap.size := (by have := hb2.size; (try simp at this); omega)) | fail)
  obtain ⟨W6, hW6⟩ : ∃ W6 : World, W6 = w2.alloc (.cells #[.int .i64 bx, .int .i64 bY, .int .i64 sl, .slice AL L.length cL, .int .i64 fx, .int .i64 fX, .int .i64 fy, .int .i64 fY, .slice AB B.length cB, .int .i64 ps, .slice AQ Q.length cQ] 135) := ⟨_, rfl⟩
  have G0 : Box W6 w2.heap.size 135 #[.int .i64 bx, .int .i64 bY, .int .i64 sl, .slice AL L.length cL, .int .i64 fx, .int .i64 fX, .int .i64 fy, .int .i64 fY, .slice AB B.length cB, .int .i64 ps, .slice AQ Q.length cQ] := by rw [hW6]; exact Box.new _ _ _
  have G2 : Box W6 (w.heap.size + 1 + 1) 22 #[.int .i64 tx, .int .i64 ty] := by rw [hW6]; exact bX1 hb2
  have G5 : Below w.heap.size w W6 := by rw [hW6]; exact bB1 hb2
  rw [← hW6]
  clear hW6 hb2
  generalize w2.heap.size = gS at *
  go_cut [9] (fun s9 wx => s9 = .int .i64 E0 ∧ Box wx gS 135 #[.int .i64 bx, .int .i64 bY, .int .i64 sl, .slice AL L.length cL, .int .i64 fx, .int .i64 fX, .int .i64 fy, .int .i64 fY, .slice AB B.length cB, .int .i64 ps, .slice AQ Q.length cQ] ∧ Box wx (w.heap.size + 1 + 1) 22 #[.int .i64 tx, .int .i64 ty] ∧ Below W6.heap.size W6 wx)
  case first =>
    have v0 := G2.cell 0; have v1 := G2.cell 1
    simp at v0 v1
    have l0 := G0.lt; have l2 := G2.lt
    cases s1
    · go_wp2_with (first | (go_at_call 94; (with_reducible refine (isSized_c _ _ _ (by decide) (by decide)).mono ?_); rintro e w' ⟨rfl, rfl⟩) | (go_at_call 84; (with_reducible refine (unless_c _ _ _).mono ?_); rintro e w' ⟨rfl, rfl⟩) | (go_at_call 83; (with_reducible refine (first2a _ _ _ _ _ (by simp)).mono ?_); rintro e w' ⟨rfl, rfl⟩) | (go_at_call 83; (with_reducible refine (first2d _ _ _ _ _ (by simp)).mono ?_); rintro e w' ⟨rfl, rfl⟩) | fail)
      go_meet
      exact ⟨by rw [HE0.out]; rfl, by exact bX0, by exact bX0, by exact bB0⟩
    · go_wp2_with (first | (go_at_call 94; (with_reducible refine (isSized_c _ _ _ (by decide) (by decide)).mono ?_); rintro e w' ⟨rfl, rfl⟩) | (go_at_call 84; (with_reducible refine (unless_c _ _ _).mono ?_); rintro e w' ⟨rfl, rfl⟩) | (go_at_call 83; (with_reducible refine (first2a _ _ _ _ _ (by simp)).mono ?_); rintro e w' ⟨rfl, rfl⟩) | (go_at_call 83; (with_reducible refine (first2d _ _ _ _ _ (by simp)).mono ?_); rintro e w' ⟨rfl, rfl⟩) | fail)
      go_meet
      exact ⟨by rw [HE0.out]; rfl, by exact bX0, by exact bX0, by exact bB0⟩
  case rest =>
    obtain ⟨rfl, hG0, hG2, hW⟩ := hcut
    have hB' : Below w.heap.size w wc := by exact bB2 hW G5
    clear G0 G2 G5 hW OPc HE0 hs1b hs2b
    have G0 := hG0; have G2 := hG2; have G5 := hB'
    clear hG0 hG2 hB'
    generalize wc = W6 at *
    have l0 := G0.lt; have l2 := G2.lt
    have u0 := G0.cell 0; have u1 := G0.cell 1; have u2 := G0.cell 2; have u3 := G0.cell 3; have u4 := G0.cell 4; have u5 := G0.cell 5; have u6 := G0.cell 6; have u7 := G0.cell 7; have u8 := G0.cell 8; have u9 := G0.cell 9; have u10 := G0.cell 10
    simp at u0 u1 u2 u3 u4 u5 u6 u7 u8 u9 u10
    by_cases hE0 : E0 = 0
    · have hr0 := HEz.out hE0
      have FAc := Lib.hid (FAd.out hr0)
      have hcp : cpE (⟨bx, bY, sl, L, (fx, fX, fy, fY), B⟩ : Sc) (ps, Q) = 0 := by rw [HC.out, hr0]
      subst hE0
      clear hr0 HEz FAd HC
      generalize hfa : freeP (⟨bx, bY, sl, L, (fx, fX, fy, fY), B⟩ : Sc) (ps, Q) = fa at *
      cases fa
      · have hE : E = 17 := by rw [HE.out]; rfl
        have hR : R = ([], 17) := by rw [HR.out, if_pos (by omega), hE]
        clear hE HE HR hs1 hs2 hs3 hfa
        subst hR
        go_wp2_with (first | (go_at_call 107; (with_reducible refine (FAc.out _ ?_).mono ?_); rotate_left; rintro e w5 ⟨rfl, hb5⟩; rotate_left; (focus (exact bB1 G5)); have hz5 : W6.heap.size ≤ w5.heap.size := (by have := hb5.size; (try simp at this); omega); have I0 : Box w5 gS 135 #[.int .i64 bx, .int .i64 bY, .int .i64 sl, .slice AL L.length cL, .int .i64 fx, .int .i64 fX, .int .i64 fy, .int .i64 fY, .slice AB B.length cB, .int .i64 ps, .slice AQ Q.length cQ] := (by exact bX1 hb5); have I1 : Box w5 (w.heap.size + 1 + 1) 22 #[.int .i64 tx, .int .i64 ty] := (by exact bX1 hb5); have f0 := I0.cell 0; have f1 := I0.cell 1; have f2 := I0.cell 2; have f3 := I0.cell 3; have f4 := I0.cell 4; have f5 := I0.cell 5; have f6 := I0.cell 6; have f7 := I0.cell 7; have f8 := I0.cell 8; have f9 := I0.cell 9; have f10 := I0.cell 10; (simp at f0 f1 f2 f3 f4 f5 f6 f7 f8 f9 f10); have hB5 : Below w.heap.size w w5 := (by exact bB2 G5 hb5); have fl0 := I0.lt; have fl1 := I1.lt) | fail)
        go_ret2
        exact ⟨none, 0, rfl, ⟨rfl, .inl ⟨rfl, rfl⟩⟩, by exact bB1 hB5⟩
      · have hE : E = 0 := by rw [HE.out]; rfl
        have hR : R = dnR (⟨bx, bY, sl, L, (fx, fX, fy, fY), B⟩ : Sc) (floodP (⟨bx, bY, sl, L, (fx, fX, fy, fY), B⟩ : Sc) (endsP (⟨bx, bY, sl, L, (fx, fX, fy, fY), B⟩ : Sc) (ps, Q) (tx, ty))).1 (ps, Q) := by rw [HR.out, if_neg (by omega)]
        have hS := (cpE_ok hcp).1; have hp := (cpE_ok hcp).2
        have hlen := hS.len
        have hlp := hp.len
        dsimp only at hlen hlp
        have FDc := Lib.hid (fun W (h : Below w.heap.size w W) k (hk : k = W.heap.size) => show Calls Tryz.prog 108 #[.slice (some ⟨k, 0, none⟩) 1 1] (W.alloc (.cells #[.int .i64 bx, .int .i64 bY, .int .i64 sl, .slice AL L.length cL, .int .i64 fx, .int .i64 fX, .int .i64 fy, .int .i64 fY, .slice AB B.length cB, .int .i64 ps, .slice AQ Q.length cQ] 135)) (FlEnd (⟨bx, bY, sl, L, (fx, fX, fy, fY), B⟩ : Sc) AL AB cL cB W.heap.size W (floodP (⟨bx, bY, sl, L, (fx, fX, fy, fY), B⟩ : Sc) [(ps, Q)])) from by
          subst hk
          refine flood_c W.heap.size bx bY sl fx fX fy fY L B AL AB (some ⟨W.heap.size, 0, none⟩) cL cB 1 W (W.alloc (.cells #[.int .i64 bx, .int .i64 bY, .int .i64 sl, .slice AL L.length cL, .int .i64 fx, .int .i64 fX, .int .i64 fy, .int .i64 fY, .slice AB B.length cB, .int .i64 ps, .slice AQ Q.length cQ] 135)) [((ps, Q), AQ, cQ)] hS rfl (hs1.below h) (hs2.below h) (own_of_box (Box.new W 135 #[.int .i64 bx, .int .i64 bY, .int .i64 sl, .slice AL L.length cL, .int .i64 fx, .int .i64 fX, .int .i64 fy, .int .i64 fY, .slice AB B.length cB, .int .i64 ps, .slice AQ Q.length cQ]) (Nat.le_refl _) (by show 1 ≤ maxLen; unfold maxLen; omega) rfl) ?_ ((Below.refl _ _).alloc (Nat.le_refl _) _) (by simp) (by simpa using hp)
          intro x hx
          have e : x = ((ps, Q), AQ, cQ) := by simpa using hx
          subst e
          obtain ⟨b, off, hA, hbq, _⟩ := hs3 0 Q[0] (List.getElem?_eq_getElem (by omega))
          exact ⟨(hs3.below h).alloc _, b, off, hA, .inl (by have := h.size; omega)⟩)
        have JTd := Lib.hid (fun (x1 : Int) (xQ : List Int) (hx : POk (⟨bx, bY, sl, L, (fx, fX, fy, fY), B⟩ : Sc) (x1, xQ)) A c W (h : Below w.heap.size w W) (hv : SlI W A xQ) => show Calls Tryz.prog 110 #[.agg #[.int .i64 bx, .int .i64 bY, .int .i64 sl, .slice AL L.length cL, .int .i64 fx, .int .i64 fX, .int .i64 fy, .int .i64 fY, .slice AB B.length cB, .int .i64 x1, .slice A xQ.length c]] W (CesEnd (jts (⟨bx, bY, sl, L, (fx, fX, fy, fY), B⟩ : Sc) (x1, xQ)) W) from by
          have hbx := hS.bx; have hbY := hS.bY; have hlk := hS.lk; have hsl := hx.sl6 hS; have hr := hx.rng hS
          dsimp only at hbx hbY hlk hsl hr
          exact joints_c bx bY sl fx fX fy fY x1 L B xQ AL AB A cL cB c W hx.len (by omega) (by omega) (by omega) (by omega) (fun l h => by have := hlk l h; omega) hr (hs1.below h) hv)
        have JLd := Lib.hid (fun (z : Ps) (hz : POk (⟨bx, bY, sl, L, (fx, fX, fy, fY), B⟩ : Sc) z) => show ∃ k, (jts (⟨bx, bY, sl, L, (fx, fX, fy, fY), B⟩ : Sc) z).length = k + 1 ∧ k ≤ 3 from ⟨L.length, by rw [jts_len (s := (⟨bx, bY, sl, L, (fx, fX, fy, fY), B⟩ : Sc)) (p := z) hz.len], by omega⟩)
        have FLR := Lib.hid (flood_r (b0 := [(ps, Q)]) hS (by simp) (by simpa using ⟨hp, hfa⟩))
        have HDef := Lib.hid (show endsP (⟨bx, bY, sl, L, (fx, fX, fy, fY), B⟩ : Sc) (ps, Q) (tx, ty) = (floodP (⟨bx, bY, sl, L, (fx, fX, fy, fY), B⟩ : Sc) [(ps, Q)]).2.filter (fun z => decide (tipP (⟨bx, bY, sl, L, (fx, fX, fy, fY), B⟩ : Sc) z = (tx, ty))) from rfl)
        clear hE HE HR hlp
        go_upto_region 9 with (first | (go_at_call 107; (with_reducible refine (FAc.out _ ?_).mono ?_); rotate_left; rintro e w5 ⟨rfl, hb5⟩; rotate_left; (focus (exact bB1 G5)); have hz5 : W6.heap.size ≤ w5.heap.size := (by have := hb5.size; (try simp at this); omega); have I0 : Box w5 gS 135 #[.int .i64 bx, .int .i64 bY, .int .i64 sl, .slice AL L.length cL, .int .i64 fx, .int .i64 fX, .int .i64 fy, .int .i64 fY, .slice AB B.length cB, .int .i64 ps, .slice AQ Q.length cQ] := (by exact bX1 hb5); have I1 : Box w5 (w.heap.size + 1 + 1) 22 #[.int .i64 tx, .int .i64 ty] := (by exact bX1 hb5); have f0 := I0.cell 0; have f1 := I0.cell 1; have f2 := I0.cell 2; have f3 := I0.cell 3; have f4 := I0.cell 4; have f5 := I0.cell 5; have f6 := I0.cell 6; have f7 := I0.cell 7; have f8 := I0.cell 8; have f9 := I0.cell 9; have f10 := I0.cell 10; (simp at f0 f1 f2 f3 f4 f5 f6 f7 f8 f9 f10); have hB5 : Below w.heap.size w w5 := (by exact bB2 G5 hb5); have fl0 := I0.lt; have fl1 := I1.lt) | (go_at_call 108; (with_reducible refine (FDc.out w5 hB5 _ rfl).mono ?_); rintro e w6 hF6; obtain ⟨gM, A', c', bs, rfl, hM6, hbs, hrow, hqs, hb6⟩ := hF6; have hz6 := hb6.size) | fail)
        have hAl : (alP (⟨bx, bY, sl, L, (fx, fX, fy, fY), B⟩ : Sc)).length ≤ 1000 := alP_len hS
        have hbl : bs.length ≤ 1000 := by
          obtain ⟨LL, hLL⟩ := FLR.out
          have h1 := congrArg List.length hbs
          rw [hLL.eq] at h1
          have h2 := nodup_le (LL.map (·.1)) (alP (⟨bx, bY, sl, L, (fx, fX, fy, fY), B⟩ : Sc)) hLL.nd (fun p hp => by obtain ⟨x, hx, rfl⟩ := List.mem_map.1 hp; exact mem_alP (hLL.ok x hx).1)
          simp [entF] at h1 h2
          omega
        have hbo : ∀ x ∈ bs, POk (⟨bx, bY, sl, L, (fx, fX, fy, fY), B⟩ : Sc) x.1 ∧ freeP (⟨bx, bY, sl, L, (fx, fX, fy, fY), B⟩ : Sc) x.1 = true := fun x hx => by
          obtain ⟨LL, hLL⟩ := FLR.out
          have h1 : x.1 ∈ (floodP (⟨bx, bY, sl, L, (fx, fX, fy, fY), B⟩ : Sc) [(ps, Q)]).2 := by rw [← hbs]; exact List.mem_map_of_mem hx
          rw [hLL.eq] at h1
          obtain ⟨y, hy, e⟩ := List.mem_map.1 h1
          rw [← e]
          exact ⟨(hLL.ok y hy).1, (hLL.ok y hy).2.1⟩
        have hbn : (bs.map (·.1)).Nodup := by
          obtain ⟨LL, hLL⟩ := FLR.out
          rw [hbs, hLL.eq]
          exact hLL.nd
        have F0 : Box w6 gS 135 #[.int .i64 bx, .int .i64 bY, .int .i64 sl, .slice AL L.length cL, .int .i64 fx, .int .i64 fX, .int .i64 fy, .int .i64 fY, .slice AB B.length cB, .int .i64 ps, .slice AQ Q.length cQ] := by exact bX1 hb6
        have F1 : Box w6 (w.heap.size + 1 + 1) 22 #[.int .i64 tx, .int .i64 ty] := by exact bX1 hb6
        have B6 : Below w.heap.size w w6 := by exact bB2 hB5 hb6
        have hV0 : ∀ x ∈ bs, ∃ b off, x.2.1 = some ⟨b, off, none⟩ ∧ b < w6.heap.size := fun x hx => by
          obtain ⟨_, b, off, e, h2⟩ := hqs x hx
          refine ⟨b, off, e, ?_⟩
          rcases h2 with h2 | ⟨cs, h2⟩
          · omega
          · exact h2.lt
        have hqv : ∀ x ∈ bs, SlI w6 x.2.1 x.1.2 := fun x hx => (hqs x hx).1
        have HRow := Lib.hid hrow
        have HQ7 := Lib.hid hqv
        have HV0 := Lib.hid hV0
        have HBO := Lib.hid hbo
        have HBN := Lib.hid hbn
        have HBS := Lib.hid hbs
        have HS := Lib.hid hS
        have HCP := Lib.hid hcp
        have HFA := Lib.hid hfa
        have HS1 := Lib.hid (hs1.below B6)
        have HS2 := Lib.hid (hs2.below B6)
        have HS3 := Lib.hid (hs3.below B6)
        have HS1w := Lib.hid hs1
        obtain ⟨V, hV⟩ : ∃ V, V = w6.heap.size := ⟨_, rfl⟩
        have hVw : w.heap.size ≤ V := by have := B6.size; omega
        obtain ⟨q0, zA, hq0, hya, hyb, hyc, hyd⟩ := infoOk_parts infoA
        clear hrow hqv hV0 hbo hbn hbs hS hp hcp hfa hs1 hs2 hs3 hqs hb6 hM6 FDc FAc FLR hb5 hz5 I0 I1 f0 f1 f2 f3 f4 f5 f6 f7 f8 f9 f10 fl0 fl1 hB5 G0 G2 G5 l0 l2 u0 u1 u2 u3 u4 u5 u6 u7 u8 u9 u10 hz6 hAl
        generalize w6 = W7 at *
        have lF0 := F0.lt; have lF1 := F1.lt
        go_wp2
        go_loopw [12, 54] (fun o j wr => ∃ (i : Nat) (Ae : Option Addr) (ce : Nat) (es : List Ar), i ≤ bs.length ∧ j = .int .i64 i ∧ o = .slice Ae es.length ce ∧ wr.ownsRow V 135 11 (.slice Ae es.length ce) es.length (es.flatMap (arV (⟨bx, bY, sl, L, (fx, fX, fy, fY), B⟩ : Sc) AL AB cL cB)) ∧ Hid (es = (bs.take i).filter fun x => decide (tipP (⟨bx, bY, sl, L, (fx, fX, fy, fY), B⟩ : Sc) x.1 = (tx, ty))) ∧ Below V W7 wr) (fun _ j _ => bs.length - (intOf j).toNat)
        case atStart => exact ⟨0, none, 0, [], Nat.zero_le _, rfl, rfl, ⟨rfl, .inl ⟨rfl, rfl⟩⟩, rfl, Below.refl _ _⟩
        case round =>
          obtain ⟨i, Ae, ce, es, hi, rfl, rfl, hO, hes, hb⟩ := hrel
          have hb' : Below W7.heap.size W7 wr := hV ▸ hb
          have hbw : Below w.heap.size w wr := B6.trans (hb'.mono (by omega))
          have hbs7 := hb'.size
          have hel : es.length ≤ i := by
            rw [hes.out]
            exact Nat.le_trans (List.length_filter_le _ _) (List.length_take_le _ _)
          by_cases hlt : i < bs.length
          · obtain ⟨⟨⟨x1, xQ⟩, AX, cX⟩, hx⟩ : ∃ x, bs[i]? = some x := ⟨_, List.getElem?_eq_getElem hlt⟩
            have R2 := own_below HRow.out hb'
            obtain ⟨gR, capR, e, hgR, hgl⟩ := own_pos R2 (by omega) (by decide)
            cases e
            have z0 := arCells R2 hx 0 (by omega); have z1 := arCells R2 hx 1 (by omega); have z2 := arCells R2 hx 2 (by omega); have z3 := arCells R2 hx 3 (by omega); have z4 := arCells R2 hx 4 (by omega); have z5 := arCells R2 hx 5 (by omega); have z6 := arCells R2 hx 6 (by omega); have z7 := arCells R2 hx 7 (by omega); have z8 := arCells R2 hx 8 (by omega); have z9 := arCells R2 hx 9 (by omega); have z10 := arCells R2 hx 10 (by omega)
            simp [arV] at z0 z1 z2 z3 z4 z5 z6 z7 z8 z9 z10
            have hxm := List.mem_of_getElem? hx
            have hxo := (HBO.out _ hxm).1
            have hxq := (HQ7.out _ hxm).below hb'
            dsimp only at hxo hxq
            obtain ⟨k, hk, hk3⟩ := JLd.out (x1, xQ) hxo
            have htip := tip_get hk
            have HXQ := Lib.hid hxq
            have JTc := Lib.hid (fun W (h : Below wr.heap.size wr W) => JTd.out x1 xQ hxo AX cX W (hbw.trans (h.mono hbw.size)) (HXQ.out.below h))
            have hstep : ∀ b : Bool, decide (tipP (⟨bx, bY, sl, L, (fx, fX, fy, fY), B⟩ : Sc) (x1, xQ) = (tx, ty)) = b → (bs.take (i + 1)).filter (fun x => decide (tipP (⟨bx, bY, sl, L, (fx, fX, fy, fY), B⟩ : Sc) x.1 = (tx, ty))) = es ++ (if b then [((x1, xQ), AX, cX)] else []) := fun b hb => by
              rw [List.take_add_one, hx, List.filter_append, ← hes.out]
              cases b
              · simpa using hb
              · simpa using hb
            have HST := Lib.hid hstep
            have HX := Lib.hid hx
            have hTC := Lib.hid (sameC_tip (t := tipP (⟨bx, bY, sl, L, (fx, fX, fy, fY), B⟩ : Sc) (x1, xQ)) (a := tx) (b := ty))
            generalize tipP (⟨bx, bY, sl, L, (fx, fX, fy, fY), B⟩ : Sc) (x1, xQ) = tip at *
            obtain ⟨t1, t2⟩ := tip
            generalize jts (⟨bx, bY, sl, L, (fx, fX, fy, fY), B⟩ : Sc) (x1, xQ) = J at *
            have HTP := Lib.hid htip
            have HJK := Lib.hid hk
            have HHB := Lib.hid hb
            have HO := Lib.hid hO
            have HES := Lib.hid hes.out
            have i0 : 0 ≤ (i : Int) := by omega
            have i1 : (i : Int) < (bs.length : Int) := by omega
            have v1 : IntKind.i64.wrap ((i : Int) + 1) = (i : Int) + 1 := IntWalk.i64_in _ (by omega)
            clear hx hxo hxq hstep htip hk R2 hb hO hes
            go_upto_region 13 with (first | (go_at_call 110; (with_reducible refine (JTc.out _ (by exact bB0)).mono ?_); rintro e w3 hE3; obtain ⟨gJ, cJ, rfl, hgJ, hlJ, hvJ, hxJ, hb3⟩ := hE3; rw [HJK.out]; have hz3 : wr.heap.size + 1 ≤ w3.heap.size := (by have := hb3.size; (try simp at this); omega)) | fail)
            have bX : Box w3 wr.heap.size 135 #[.int .i64 bx, .int .i64 bY, .int .i64 sl, .slice AL L.length cL, .int .i64 fx, .int .i64 fX, .int .i64 fy, .int .i64 fY, .slice AB B.length cB, .int .i64 x1, .slice AX xQ.length cX] := by exact bX1 hb3
            have hbX : Below wr.heap.size wr w3 := by exact bB1 hb3
            have hb7 : Below W7.heap.size W7 w3 := by exact bB2 hb3 hb'
            have hB3 : Below w.heap.size w w3 := hbw.trans (hbX.mono hbw.size)
            obtain ⟨bJ, oJ, e, lJ3, hc⟩ := row_cells (enc := ceV) (k := 2) (fun _ => rfl) hvJ (by omega) HTP.out
            cases e
            have j0 := hc 0 (by omega); have j1 := hc 1 (by omega)
            simp [ceV] at j0 j1
            have F13 := F1.below hb7 lF1
            have n0 := F13.cell 0; have n1 := F13.cell 1; have lN3 := F13.lt
            simp at n0 n1
            have O3 := own_below HO.out hbX
            have HV3 : Below V W7 w3 := HHB.out.trans (hbX.mono (by omega))
            have hv1 : IntKind.i64.wrap ((k : Int) + 1 - 1) = (k : Int) := by rw [Int.add_sub_cancel]; exact IntWalk.i64_in _ (by omega)
            have hv2 : IntKind.i64.wrap (k : Int) = (k : Int) := IntWalk.i64_in _ (by omega)
            have k0 : 0 ≤ (k : Int) := by omega
            have k1 : (k : Int) < (k : Int) + 1 := by omega
            have hz7 := hb7.size
            clear hc hvJ hxJ hgJ hb3 JTc hlJ F13 HO HHB z0 z1 z2 z3 z4 z5 z6 z7 z8 z9 z10 hbX hb' hbw hb7
            generalize hgx : wr.heap.size = gx at *
            clear hgx
            have y0 := bX.cell 0; have y1 := bX.cell 1; have y2 := bX.cell 2; have y3 := bX.cell 3; have y4 := bX.cell 4; have y5 := bX.cell 5; have y6 := bX.cell 6; have y7 := bX.cell 7; have y8 := bX.cell 8; have y9 := bX.cell 9; have y10 := bX.cell 10
            simp at y0 y1 y2 y3 y4 y5 y6 y7 y8 y9 y10
            have lX := bX.lt
            cases hd : sameC t1 t2 tx ty
            · have hes2 := HST.out false (by rw [hTC.out]; exact hd)
              have HE2 := Lib.hid hes2
              clear hes2
              go_wp2
              (refine region_open (by kernel_rfl) (fun R hR => ?_); refine heldR (S := (fun w' => Below w3.heap.size w3 w')) ?_ (fun hHeld => ?_); (focus ((try dsimp only); (((first | exact bB0 | exact bB0))))); refine rgN 0 rfl ?_; (try simp only [Act.put, pqs]); refine rgN 1 rfl ?_; (try simp only [Act.put, pqs]); refine rgN 2 rfl ?_; (try simp only [Act.put, pqs]); refine rgN 3 rfl ?_; (try simp only [Act.put, pqs]); refine rgN 4 rfl ?_; (try simp only [Act.put, pqs]); refine rgT 5 ?_ rfl (fun w' hSw => ?_) ?_; rotate_left; (focus ((try dsimp only at hSw); (have hcc := (bcell hSw).1; have sa0 := (hcc _ 0 lN3).trans n0; have sa1 := (hcc _ 1 lN3).trans n1; have sb0 := (hcc _ _ lJ3).trans j0; have sb1 := (hcc _ _ lJ3).trans j1); go_simp; (try with_reducible rfl))); (try simp only [Act.put, pqs]); refine rgT 6 ?_ rfl (fun w' hSw => ?_) ?_; rotate_left; (focus ((try dsimp only at hSw); (have hcc := (bcell hSw).1; have sa0 := (hcc _ 0 lN3).trans n0; have sa1 := (hcc _ 1 lN3).trans n1; have sb0 := (hcc _ _ lJ3).trans j0; have sb1 := (hcc _ _ lJ3).trans j1); go_simp; (try with_reducible rfl))); (try simp only [Act.put, pqs]); refine rgN 7 rfl ?_; (try simp only [Act.put, pqs]); refine wpAnyH_done (Q := fun e a w => e = Exit.normal ∧ R a w) (by kernel_rfl) ⟨rfl, hR _ _ ?_⟩ _; clear hR R)
              go_wp2
              go_roundw
              case rel => exact ⟨i + 1, Ae, ce, es, by omega, by go_num, rfl, own_below O3 (Below.drew (Below.refl _ _)), by unfold Hid; rw [HE2.out]; simp, by exact bB1 HV3⟩
              case measure => simp [intOf]; omega
            · have hes2 := HST.out true (by rw [hTC.out]; exact hd)
              have HE2 := Lib.hid hes2
              clear hes2
              go_wp2
              (refine region_open (by kernel_rfl) (fun R hR => ?_); refine heldR (S := (fun w' => Below w3.heap.size w3 w')) ?_ (fun hHeld => ?_); (focus ((try dsimp only); (((first | exact bB0 | exact bB0))))); refine rgN 0 rfl ?_; (try simp only [Act.put, pqs]); refine rgN 1 rfl ?_; (try simp only [Act.put, pqs]); refine rgN 2 rfl ?_; (try simp only [Act.put, pqs]); refine rgN 3 rfl ?_; (try simp only [Act.put, pqs]); refine rgN 4 rfl ?_; (try simp only [Act.put, pqs]); refine rgT 5 ?_ rfl (fun w' hSw => ?_) ?_; rotate_left; (focus ((try dsimp only at hSw); (have hcc := (bcell hSw).1; have sa0 := (hcc _ 0 lN3).trans n0; have sa1 := (hcc _ 1 lN3).trans n1; have sb0 := (hcc _ _ lJ3).trans j0; have sb1 := (hcc _ _ lJ3).trans j1); go_simp; (try with_reducible rfl))); (try simp only [Act.put, pqs]); refine rgT 6 ?_ rfl (fun w' hSw => ?_) ?_; rotate_left; (focus ((try dsimp only at hSw); (have hcc := (bcell hSw).1; have sa0 := (hcc _ 0 lN3).trans n0; have sa1 := (hcc _ 1 lN3).trans n1; have sb0 := (hcc _ _ lJ3).trans j0; have sb1 := (hcc _ _ lJ3).trans j1); go_simp; (try with_reducible rfl))); (try simp only [Act.put, pqs]); refine rgN 7 rfl ?_; (try simp only [Act.put, pqs]); refine wpAnyH_done (Q := fun e a w => e = Exit.normal ∧ R a w) (by kernel_rfl) ⟨rfl, hR _ _ ?_⟩ _; clear hR R)
              have hm1 : es.length + 1 ≤ maxLen := by unfold maxLen; omega
              have hm2 : (es.length + 1) * 136 ≤ 140737488355328 := by omega
              have O3d := own_below O3 (Below.drew (Below.refl (w3.heap.size) w3))
              have bXd : Box w3.drew gx 135 #[.int .i64 bx, .int .i64 bY, .int .i64 sl, .slice AL L.length cL, .int .i64 fx, .int .i64 fX, .int .i64 fy, .int .i64 fY, .slice AB B.length cB, .int .i64 x1, .slice AX xQ.length cX] := bX
              have hzV : V ≤ w3.heap.size := by omega
              go_wp2_with (at_builtin; go_must (refine wpList_append_own _ rfl _ _ 162 rfl V 135 q0 zA 11 136 Tryz.underlying162 hq0 hya hyb hyc hyd (by decide) _ _ _ rfl (O3d.alloc _) ⟨w3.heap.size, 0, none⟩ 1 1 [.int .i64 bx, .int .i64 bY, .int .i64 sl, .slice AL L.length cL, .int .i64 fx, .int .i64 fX, .int .i64 fy, .int .i64 fY, .slice AB B.length cB, .int .i64 x1, .slice AX xQ.length cX] rfl rfl (cells_new w3.drew [.int .i64 bx, .int .i64 bY, .int .i64 sl, .slice AL L.length cL, .int .i64 fx, .int .i64 fX, .int .i64 fy, .int .i64 fY, .slice AB B.length cB, .int .i64 x1, .slice AX xQ.length cX] _) (by simp [Value.oneCell']) hm1 hm2 (by simp; omega) ?_); intro v' wx hown1 hgrow1 _)
              obtain ⟨gN, capN, rfl, hgN, hgN2⟩ := own_pos hown1 (by omega) (by decide)
              have HBx : Below V W7 wx := (Below.alloc (Below.drew HV3) (by simp; omega) _).grown hgrow1 (by simp; omega) (fun r e => (own_blk O3d (show (Value.slice Ae es.length ce).ownBlock = some r from e)).1)
              have hownN : wx.ownsRow V 135 11 (.slice (some ⟨gN, 0, none⟩) (es.length + 1) capN) (es.length + 1) ((es ++ [((x1, xQ), AX, cX)]).flatMap (arV (⟨bx, bY, sl, L, (fx, fX, fy, fY), B⟩ : Sc) AL AB cL cB)) := by simpa [arV] using hown1
              go_wp2_with fail
              go_roundw
              case rel => exact ⟨i + 1, some ⟨gN, 0, none⟩, capN, es ++ [((x1, xQ), AX, cX)], by omega, by go_num, by simp, by simpa using hownN, by unfold Hid; rw [HE2.out]; rfl, HBx⟩
              case measure => simp [intOf]; omega
          · have e : i = bs.length := by omega
            subst e
            have hes2 : es = bs.filter fun x => decide (tipP (⟨bx, bY, sl, L, (fx, fX, fy, fY), B⟩ : Sc) x.1 = (tx, ty)) := by rw [hes.out, List.take_length]
            have hmap : es.map (·.1) = endsP (⟨bx, bY, sl, L, (fx, fX, fy, fY), B⟩ : Sc) (ps, Q) (tx, ty) := by
              rw [HDef.out, ← HBS.out, hes2, List.filter_map]
              rfl
            have hen : (endsP (⟨bx, bY, sl, L, (fx, fX, fy, fY), B⟩ : Sc) (ps, Q) (tx, ty)).Nodup := by
              rw [← hmap, hes2]
              exact HBN.out.sublist ((List.filter_sublist (l := bs)).map _)
            have heo : ∀ x ∈ es, POk (⟨bx, bY, sl, L, (fx, fX, fy, fY), B⟩ : Sc) x.1 ∧ freeP (⟨bx, bY, sl, L, (fx, fX, fy, fY), B⟩ : Sc) x.1 = true := fun x hx => by
              rw [hes2] at hx
              exact HBO.out x (List.mem_filter.1 hx).1
            have heo2 : ∀ z ∈ endsP (⟨bx, bY, sl, L, (fx, fX, fy, fY), B⟩ : Sc) (ps, Q) (tx, ty), POk (⟨bx, bY, sl, L, (fx, fX, fy, fY), B⟩ : Sc) z ∧ freeP (⟨bx, bY, sl, L, (fx, fX, fy, fY), B⟩ : Sc) z = true := fun z hz => by
              rw [← hmap] at hz
              obtain ⟨x, hx, rfl⟩ := List.mem_map.1 hz
              exact heo x hx
            have hqe : ∀ x ∈ es, QOk V x wr := fun x hx => by
              rw [hes2] at hx
              have hx := (List.mem_filter.1 hx).1
              obtain ⟨b, off, e, h2⟩ := HV0.out x hx
              exact ⟨(HQ7.out x hx).below hb', b, off, e, .inl (by omega)⟩
            have FEc := flood_c V bx bY sl fx fX fy fY L B AL AB Ae cL cB ce W7 wr es HS.out hV HS1.out HS2.out hO hqe hb (by rw [hmap]; exact hen) (fun x hx => (heo x hx).1)
            rw [hmap] at FEc
            have FEc := Lib.hid FEc
            have DDc := Lib.hid (fun W gM (h : Below V W7 W) (hM : KMap W gM (floodP (⟨bx, bY, sl, L, (fx, fX, fy, fY), B⟩ : Sc) (endsP (⟨bx, bY, sl, L, (fx, fX, fy, fY), B⟩ : Sc) (ps, Q) (tx, ty))).1) => show Calls Tryz.prog 109 #[.agg #[.int .i64 bx, .int .i64 bY, .int .i64 sl, .slice AL L.length cL, .int .i64 fx, .int .i64 fX, .int .i64 fy, .int .i64 fY, .slice AB B.length cB, .int .i64 ps, .slice AQ Q.length cQ], .map (some gM)] W (DnEnd W (dnR (⟨bx, bY, sl, L, (fx, fX, fy, fY), B⟩ : Sc) (floodP (⟨bx, bY, sl, L, (fx, fX, fy, fY), B⟩ : Sc) (endsP (⟨bx, bY, sl, L, (fx, fX, fy, fY), B⟩ : Sc) (ps, Q) (tx, ty))).1 (ps, Q))) from
              downhill_c gM bx bY sl fx fX fy fY ps L B Q AL AB AQ cL cB cQ W _ HS.out (cpE_ok HCP.out).2 HFA.out (HS1.out.below (hV ▸ h)) (HS2.out.below (hV ▸ h)) (HS3.out.below (hV ▸ h)) hM (flood_hill HS.out hen heo2) (flood_v HS.out hen (fun z hz => (heo2 z hz).1)))
            have HF0 := Lib.hid (fun W (h : Below V W7 W) => F0.below (hV ▸ h) lF0)
            have HVW := Lib.hid hV
            clear hes hes2 hmap hen heo heo2 hqe hO hV
            have HRR := Lib.hid hR
            clear hR
            generalize floodP (⟨bx, bY, sl, L, (fx, fX, fy, fY), B⟩ : Sc) (endsP (⟨bx, bY, sl, L, (fx, fX, fy, fY), B⟩ : Sc) (ps, Q) (tx, ty)) = FP at *
            go_wp2_with (first | (go_at_call 108; (with_reducible refine FEc.out.mono ?_); rintro e w7 hF7; obtain ⟨gM7, A7, c7, bs7, rfl, hM7, _, _, _, hb8⟩ := hF7; have K0 := HF0.out w7 hb8; have k0 := K0.cell 0; have k1 := K0.cell 1; have k2 := K0.cell 2; have k3 := K0.cell 3; have k4 := K0.cell 4; have k5 := K0.cell 5; have k6 := K0.cell 6; have k7 := K0.cell 7; have k8 := K0.cell 8; have k9 := K0.cell 9; have k10 := K0.cell 10; (simp at k0 k1 k2 k3 k4 k5 k6 k7 k8 k9 k10); have kl := K0.lt) | (go_at_call 109; (with_reducible refine (DDc.out w7 _ hb8 hM7).mono ?_); rintro e w8 hD8; obtain ⟨A8, c8, rfl, ho8, hb9⟩ := hD8) | fail)
            go_ret2
            rw [HRR.out]
            exact ⟨A8, c8, rfl, own_base ho8 (by have := B6.size; have := HVW.out; have := hb8.size; omega), B6.trans ((hb8.trans (hb9.mono (by have := hb8.size; have := HVW.out; omega))).mono hVw)⟩
    · have hE : E = E0 := by rw [HE.out, if_pos hE0]
      have hR : R = ([], E0) := by rw [HR.out, hE, if_pos hE0]
      have e1 := beqF hE0
      have e2 := bneT hE0
      clear hE HE HR hs1 hs2 hs3 hE0 FAd HEz HC
      subst hR
      go_wp2_with fail
      go_ret2
      exact ⟨none, 0, rfl, ⟨rfl, .inl ⟨rfl, rfl⟩⟩, by exact bB1 G5⟩

end Go.Proofs.YtpnfgmgoafgcbaaGreat

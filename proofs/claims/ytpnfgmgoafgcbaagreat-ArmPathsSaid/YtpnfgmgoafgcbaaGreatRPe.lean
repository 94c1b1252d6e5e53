/-
  PathErr and End of the reference (chapter 6).
-/
import Derived.Test.YtpnfgmgoafgcbaaGreatRMa
import Derived.Test.YtpnfgmgoafgcbaaGreatA9
set_option linter.unusedVariables false
namespace Go.Proofs.YtpnfgmgoafgcbaaGreat
open Go.RowKit
attribute [local go_sem] Oper.semAt_some
/-- The first error of a path, and its index. -/
def pthG (s : Sc) : Nat → Ps → List Mv → Int × Int
  | _, _, [] => (0, 0)
  | i, p, m :: r => if mvE s m ≠ 0 then (i, mvE s m) else if mayP s p m = false then (i, 24) else pthG s (i + 1) (mvd p m) r
def pthE (s : Sc) (p : Ps) (r : List Mv) : Int × Int := if frE s p ≠ 0 then (0, frE s p) else if 60 < r.length then (0, 8) else pthG s 0 p r
def endP (p : Ps) (r : List Mv) : Ps := r.foldl mvd p
theorem mayP_free {s : Sc} {p : Ps} {m : Mv} (hp : POk s p) (h : mayP s p m = true) : POk s (mvd p m) ∧ freeP s (mvd p m) = true := by
  obtain ⟨h1, h2⟩ := may_cases (m := m) hp
  by_cases ho : ownE s (mvd p m) = 0
  · obtain ⟨h3, h4⟩ := h2 ho
    rw [h4] at h
    exact ⟨h3, by revert h; cases freeP s (mvd p m) <;> simp⟩
  · rw [h1 ho] at h; cases h
theorem mv_cells {w : World} {A : Option Addr} {xs : List Mv} (hs : SlV w A (xs.flatMap mvV)) {k : Nat} {s : Mv} (hk : xs[k]? = some s) :
    ∃ b off, A = some ⟨b, off, none⟩ ∧ b < w.heap.size ∧ w.cell? ⟨b, off + k * 2, none⟩ = some (.int .i64 s.1) ∧ w.cell? ⟨b, off + k * 2 + 1, none⟩ = some (.int .i64 s.2) := by
  obtain ⟨b, off, hA, hb, hc⟩ := row_cells (enc := mvV) (k := 2) (fun _ => rfl) hs (by omega) hk
  exact ⟨b, off, hA, hb, hc 0 (by omega), hc 1 (by omega)⟩
/-- The block of a row of ints, where there are any. -/
def offB (A : Option Addr) (n g : Nat) : Prop := 0 < n → ∀ b o, A = some ⟨b, o, none⟩ → b ≠ g
theorem offB_old {w : World} {A : Option Addr} {xs : List Int} {g : Nat} (h : SlI w A xs) (hg : w.heap.size ≤ g) : offB A xs.length g := fun hl b o e => by
  obtain ⟨b', o', e', hb, _⟩ := h 0 xs[0] (List.getElem?_eq_getElem hl)
  rw [e'] at e
  cases e
  omega
theorem offB_new {A : Option Addr} {n g b : Nat} {w : World} (h : 0 < n → ∃ r cs, A = some ⟨r, 0, none⟩ ∧ b ≤ r ∧ Box w r 3 cs) (hg : g < b) : offB A n g := fun hl b o e => by
  obtain ⟨r, cs, e', hr, _⟩ := h hl
  rw [e'] at e
  cases e
  omega
theorem pthG_cons {s : Sc} {i : Nat} {p : Ps} {m : Mv} {r : List Mv} (h : (pthG s i p (m :: r)).2 = 0) : mvE s m = 0 ∧ mayP s p m = true ∧ (pthG s (i + 1) (mvd p m) r).2 = 0 := by
  unfold pthG at h
  by_cases h1 : mvE s m = 0
  · rw [if_neg (by simp [h1])] at h
    cases h2 : mayP s p m
    · rw [if_pos h2] at h; cases h
    · rw [if_neg (by simp [h2])] at h; exact ⟨h1, rfl, h⟩
  · rw [if_pos h1] at h; exact absurd h h1
set_option maxHeartbeats 8000000 in
set_option maxRecDepth 100000 in
theorem rEnd_c (s : Sc) (ps : Int) (Q : List Int) (path : List Mv) (AQ AP : Option Addr) (cQ cP : Nat) (w : World) (hS : SOk s) (hp : POk s (ps, Q)) (hn : path.length ≤ 1000) (hG : (pthG s 0 (ps, Q) path).2 = 0) (hs3 : SlI w AQ Q) (hsP : SlV w AP (path.flatMap mvV)) :
    Calls Tryz.prog 22 #[.agg #[.int .i64 ps, .slice AQ Q.length cQ], .slice AP path.length cP] w (RmEnd (endP (ps, Q) path) w) := by
  have HP := Lib.hid hsP
  have HQ := Lib.hid hs3
  have MDd := Lib.hid (fun (pk : Int) (Qk : List Int) (mj mb : Int) (hp : POk s (pk, Qk)) (hm : mvE s (mj, mb) = 0) Ak ck W (h : SlI W Ak Qk) => show Calls Tryz.prog 46 #[.agg #[.int .i64 pk, .slice Ak Qk.length ck], .agg #[.int .i64 mj, .int .i64 mb]] W (RmX (mvd (pk, Qk) (mj, mb)) W) from by
    have hr := hp.rng hS
    have h6 := hp.sl6 hS
    have hpl := hp.len
    have hlen := hS.len
    obtain ⟨hm1, hm2⟩ := mvE_ok hm
    dsimp only at hr h6 hpl hm1 hm2
    exact rMovedX_c pk mj mb Qk Ak ck W (by omega) (by omega) (by omega) (by omega) (fun q h => by have := hr q h; omega) h)
  have HR := Lib.hid (show endP (ps, Q) path = endP (ps, Q) (path.drop 0) from rfl)
  have HS := Lib.hid hS
  have HPs := Lib.hid hp
  have HG0 := Lib.hid hG
  generalize endP (ps, Q) path = R at *
  obtain ⟨R1, R2⟩ := R
  clear hsP hs3 hp hS hG
  go_enter Tryz.func22, Tryz.ntmps22
  go_wp2
  go_loopw [5] (fun i wr => ∃ (k : Nat) (pk : Int) (Qk : List Int) (Ak : Option Addr) (ck : Nat), k ≤ path.length ∧ i = .int .i64 k ∧ Box wr w.heap.size 33 #[.int .i64 pk, .slice Ak Qk.length ck] ∧ Box wr (w.heap.size + 1) 33 #[.int .i64 0, .slice none 0 0] ∧ SlI wr Ak Qk ∧ offB Ak Qk.length w.heap.size ∧ offB Ak Qk.length (w.heap.size + 1) ∧ Hid (POk s (pk, Qk)) ∧ Hid ((pthG s k (pk, Qk) (path.drop k)).2 = 0) ∧ Hid ((R1, R2) = endP (pk, Qk) (path.drop k)) ∧ Below w.heap.size w wr) (fun i _ => path.length - (intOf i).toNat)
  case atStart => exact ⟨0, ps, Q, AQ, cQ, Nat.zero_le _, rfl, by exact bX0, by exact bX0, HQ.out.below (by exact bB0), offB_old HQ.out (by omega), offB_old HQ.out (by omega), HPs.out, HG0.out, HR.out, by exact bB0⟩
  case round =>
    obtain ⟨k, pk, Qk, Ak, ck, hk, rfl, hT, hZ, hv, ho1, ho2, hpk, hGk, hRk, hB⟩ := hrel
    clear HR HPs HG0
    have t0 := hT.cell 0; have t1 := hT.cell 1; have lT := hT.lt; have lZ := hZ.lt
    simp at t0 t1
    by_cases hlt : k < path.length
    · obtain ⟨bP, oP, rfl, lP, m0, m1⟩ := mv_cells (HP.out.below hB) (List.getElem?_eq_getElem hlt)
      have hG2 := hGk.out
      have hR2 := hRk.out
      rw [List.drop_eq_getElem_cons hlt] at hG2 hR2
      have i1 : (k : Int) < (path.length : Int) := by omega
      generalize path[k] = m at *
      obtain ⟨mj, mb⟩ := m
      dsimp only at m0 m1
      obtain ⟨g1, g2, g3⟩ := pthG_cons hG2
      have MDc := Lib.hid (fun W (h : SlI W Ak Qk) => MDd.out pk Qk mj mb hpk.out g1 Ak ck W h)
      have PN := Lib.hid (mayP_free hpk.out g2).1
      have GN := Lib.hid g3
      have RN := Lib.hid (show (R1, R2) = endP (mvd (pk, Qk) (mj, mb)) (path.drop (k + 1)) from hR2)
      have HV := Lib.hid hv
      clear hG2 hR2 hpk hGk hRk g1 g2 g3 hv
      generalize mvd (pk, Qk) (mj, mb) = P at *
      obtain ⟨P1, P2⟩ := P
      go_wp2
      (refine region_open (by kernel_rfl) (fun R hR => ?_); refine lateR (S := (fun w' => Below wr.heap.size wr w')) 6 ?_ (fun hHeld => ?_); (focus ((try dsimp only); (((first | exact bB0 | exact bB1 hb3))))); refine wpAnyL_take (i := 0) (v := ?_) rfl (by kernel_rfl) (by kernel_rfl) (by kernel_rfl) (by kernel_rfl) (by kernel_rfl) (by kernel_rfl) (fun _ _ _ h => nomatch h.1) (.inl ⟨by kernel_rfl, fun w' hSw => ?_⟩) hHeld ?_; rotate_left; (focus ((try dsimp only at hSw); (have hcc := (bcell hSw).1; have sa0 := (hcc _ 0 lT).trans t0; have sa1 := (hcc _ 1 lT).trans t1; have sb0 := (hcc _ _ lP).trans m0; have sb1 := (hcc _ _ lP).trans m1); go_simp; (try with_reducible rfl))); (try simp only [Act.put, pqs]); refine wpAnyL_pure (i := 1) (v := ?_) rfl (by kernel_rfl) (by kernel_rfl) (by kernel_rfl) (by kernel_rfl) (fun _ _ _ h => nomatch h.1) (.inl ⟨by kernel_rfl, fun w' _ => ?_⟩) (by first | exact (fun _ => hHeld) | exact late_absurd (by kernel_rfl)) ?_; rotate_left; (focus (go_simp; (try with_reducible rfl))); (try simp only [Act.put, pqs]); refine wpAnyL_pure (i := 2) (v := ?_) rfl (by kernel_rfl) (by kernel_rfl) (by kernel_rfl) (by kernel_rfl) (fun _ _ _ h => nomatch h.1) (.inl ⟨by kernel_rfl, fun w' _ => ?_⟩) (by first | exact (fun _ => hHeld) | exact late_absurd (by kernel_rfl)) ?_; rotate_left; (focus (go_simp; (try with_reducible rfl))); (try simp only [Act.put, pqs]); refine wpAnyL_pure (i := 3) (v := ?_) rfl (by kernel_rfl) (by kernel_rfl) (by kernel_rfl) (by kernel_rfl) (fun _ _ _ h => nomatch h.1) (.inl ⟨by kernel_rfl, fun w' _ => ?_⟩) (by first | exact (fun _ => hHeld) | exact late_absurd (by kernel_rfl)) ?_; rotate_left; (focus (go_simp; (try with_reducible rfl))); (try simp only [Act.put, pqs]); refine wpAnyL_take (i := 4) (v := ?_) rfl (by kernel_rfl) (by kernel_rfl) (by kernel_rfl) (by kernel_rfl) (by kernel_rfl) (by kernel_rfl) (fun _ _ _ h => nomatch h.1) (.inl ⟨by kernel_rfl, fun w' hSw => ?_⟩) hHeld ?_; rotate_left; (focus ((try dsimp only at hSw); (have hcc := (bcell hSw).1; have sa0 := (hcc _ 0 lT).trans t0; have sa1 := (hcc _ 1 lT).trans t1; have sb0 := (hcc _ _ lP).trans m0; have sb1 := (hcc _ _ lP).trans m1); go_simp; (try with_reducible rfl))); (try simp only [Act.put, pqs]); refine wpAnyL_ready (rs := [5]) (by kernel_rfl) (by simp) ?_; refine AllReadyL.cons rfl (fun K hK => ?_) AllReadyL.nil; go_simp; ((first | (go_at_call 46; (with_reducible refine (MDc.out _ (HV.out.below (by exact bB0))).mono ?_); rintro e w3 hE3; obtain ⟨D, d, rfl, hv3, hf3, hb3⟩ := hE3; have hz3 : wr.heap.size ≤ w3.heap.size := (by have := hb3.size; (try simp at this); omega); have hf4 := Lib.hid (show 0 < P2.length → ∃ g cs, D = some ⟨g, 0, none⟩ ∧ wr.heap.size ≤ g ∧ Box w3 g 3 cs from fun h => (by obtain ⟨g, cs, e, hg, hx⟩ := hf3 h; exact ⟨g, cs, e, by (try simp at hg); omega, hx⟩)); clear hf3; have zB : Box w3 w.heap.size 33 #[.int .i64 pk, .slice Ak Qk.length ck] := (by exact bX1 hb3); have fz := zB.froz; have lz := zB.lt; have d0 := zB.cell 0; have d1 := zB.cell 1; (simp at d0 d1)) | skip)); go_simp; refine hK.out _ _ ?_ (fun hHeld => ?_); (focus ((try dsimp only); (((first | exact bB1 hb3 | exact bB0))))); clear hK K; (try simp only [Act.put, pqs]); refine wpAnyL_ready (rs := [6]) (by kernel_rfl) (by simp) ?_; refine AllReadyL.late rfl (by kernel_rfl) (fun K hK => ?_) AllReadyL.nil; go_simp; ((first | (go_at_call 46; (with_reducible refine (MDc.out _ (HV.out.below (by exact bB0))).mono ?_); rintro e w3 hE3; obtain ⟨D, d, rfl, hv3, hf3, hb3⟩ := hE3; have hz3 : wr.heap.size ≤ w3.heap.size := (by have := hb3.size; (try simp at this); omega); have hf4 := Lib.hid (show 0 < P2.length → ∃ g cs, D = some ⟨g, 0, none⟩ ∧ wr.heap.size ≤ g ∧ Box w3 g 3 cs from fun h => (by obtain ⟨g, cs, e, hg, hx⟩ := hf3 h; exact ⟨g, cs, e, by (try simp at hg); omega, hx⟩)); clear hf3; have zB : Box w3 w.heap.size 33 #[.int .i64 pk, .slice Ak Qk.length ck] := (by exact bX1 hb3); have fz := zB.froz; have lz := zB.lt; have d0 := zB.cell 0; have d1 := zB.cell 1; (simp at d0 d1)) | skip)); go_simp; refine hK.out _ _ ?_ (fun hHeld => ?_); (focus (exact trivial)); clear hK K; (try simp only [Act.put, pqs]); refine wpAnyL_done (Q := fun e a w => e = Exit.normal ∧ R a w) (by kernel_rfl) ⟨rfl, hR _ _ ?_⟩ _; clear hR R)
      go_wp2
      go_roundw
      case rel =>
        have o1 : offB D P2.length w.heap.size := offB_new hf4.out (by omega)
        have o2 : offB D P2.length (w.heap.size + 1) := offB_new hf4.out (by omega)
        exact ⟨k + 1, P1, P2, D, d, by omega, by go_num, by exact bX1 hb3, by exact bX1 hb3, SlI.setf (SlI.setf hv3 o1) o1, o1, o2, PN.out, GN.out, RN.out, by exact bB2 hb3 hB⟩
      case measure => simp [intOf]; omega
    · have e : (R1, R2) = (pk, Qk) := by rw [hRk.out, List.drop_eq_nil_of_le (by omega)]; rfl
      cases e
      have d0 := hZ.cell 0; have d1 := hZ.cell 1; have fz := hZ.froz
      simp at d0 d1
      go_wp2
      refine bodyPost_ret (res_c1 rfl rfl (show Box _ _ 33 #[.int .i64 R1, .slice Ak R2.length ck] from ?hE) Tryz.underlying33 rfl tps_size) rfl ⟨Ak, ck, rfl, ?hD, ?hZ⟩
      case hE => exact bX0
      case hD => exact SlI.setf (SlI.setf hv ho2) ho2
      case hZ => exact bB1 hB

set_option maxHeartbeats 8000000 in
set_option maxRecDepth 100000 in
theorem rPathErr_c (bx bY sl fx fX fy fY ps : Int) (L : List Lk) (B : List Bx) (Q : List Int) (path : List Mv) (AL AB AQ AP : Option Addr) (cL cB cQ cP : Nat) (w : World) (hL : L.length ≤ 100000) (hB : B.length ≤ 100000) (hQ : Q.length ≤ 100000) (hn : path.length ≤ 100000) (hs1 : SlV w AL (L.flatMap lkV)) (hs2 : SlV w AB (B.flatMap bxV)) (hs3 : SlI w AQ Q) (hsP : SlV w AP (path.flatMap mvV)) :
    Calls Tryz.prog 20 #[.agg #[.int .i64 bx, .int .i64 bY, .int .i64 sl, .slice AL L.length cL, .int .i64 fx, .int .i64 fX, .int .i64 fy, .int .i64 fY, .slice AB B.length cB], .agg #[.int .i64 ps, .slice AQ Q.length cQ], .slice AP path.length cP] w fun e w' => e = .returned (.tuple #[.int .i64 (pthE (⟨bx, bY, sl, L, (fx, fX, fy, fY), B⟩ : Sc) (ps, Q) path).1, .int .i64 (pthE (⟨bx, bY, sl, L, (fx, fX, fy, fY), B⟩ : Sc) (ps, Q) path).2]) ∧ Below w.heap.size w w' := by
  have FEc := Lib.hid (fun W (h : Below w.heap.size w W) => rFreeErr_c bx bY sl fx fX fy fY ps L B Q AL AB AQ cL cB cQ W hL hB hQ (hs1.below h) (hs2.below h) (hs3.below h))
  by_cases h0 : frE (⟨bx, bY, sl, L, (fx, fX, fy, fY), B⟩ : Sc) (ps, Q) = 0
  · by_cases h60 : 60 < path.length
    · have e1 : decide (60 < (path.length : Int)) = true := decide_eq_true (by omega)
      have hR : pthE (⟨bx, bY, sl, L, (fx, fX, fy, fY), B⟩ : Sc) (ps, Q) path = (0, 8) := by unfold pthE; rw [if_neg (by simp [h0]), if_pos h60]
      rw [hR]
      rw [h0] at FEc
      clear hs1 hs2 hs3 hsP h0 hR
      go_enter Tryz.func20, Tryz.ntmps20
      go_wp2_with (first | (go_at_call 37; (with_reducible refine (FEc.out _ (by exact bB0)).mono ?_); rintro e w2 ⟨rfl, hb2⟩; have hz2 : w.heap.size + 1 + 1 ≤ w2.heap.size := (by have := hb2.size; (try simp at this); omega)) | fail)
      go_ret2
      exact ⟨rfl, by exact bB1 hb2⟩
    · have e1 : decide (60 < (path.length : Int)) = false := decide_eq_false (by omega)
      have hR : pthE (⟨bx, bY, sl, L, (fx, fX, fy, fY), B⟩ : Sc) (ps, Q) path = pthG (⟨bx, bY, sl, L, (fx, fX, fy, fY), B⟩ : Sc) 0 (ps, Q) (path.drop 0) := by unfold pthE; rw [if_neg (by simp [h0]), if_neg h60]; rfl
      obtain ⟨hS, hp, _⟩ := frE_ok h0
      have hlen := hS.len
      have MEd := Lib.hid (fun (mj mb : Int) W => rMoveErr_c bx bY sl fx fX fy fY mj mb L B AL AB cL cB W (by dsimp only at hlen; omega))
      have MYd := Lib.hid (fun (pk : Int) (Qk : List Int) (mj mb : Int) (hp : POk (⟨bx, bY, sl, L, (fx, fX, fy, fY), B⟩ : Sc) (pk, Qk)) (hm : mvE (⟨bx, bY, sl, L, (fx, fX, fy, fY), B⟩ : Sc) (mj, mb) = 0) Ak ck W (h : Below w.heap.size w W) (hv : SlI W Ak Qk) => rMay_c bx bY sl fx fX fy fY pk mj mb L B Qk AL AB Ak cL cB ck W hS hp hm (hs1.below h) (hs2.below h) hv)
      have MDd := Lib.hid (fun (pk : Int) (Qk : List Int) (mj mb : Int) (hp : POk (⟨bx, bY, sl, L, (fx, fX, fy, fY), B⟩ : Sc) (pk, Qk)) (hm : mvE (⟨bx, bY, sl, L, (fx, fX, fy, fY), B⟩ : Sc) (mj, mb) = 0) Ak ck W (h : SlI W Ak Qk) => show Calls Tryz.prog 46 #[.agg #[.int .i64 pk, .slice Ak Qk.length ck], .agg #[.int .i64 mj, .int .i64 mb]] W (RmX (mvd (pk, Qk) (mj, mb)) W) from by
        have hr := hp.rng hS
        have h6 := hp.sl6 hS
        have hpl := hp.len
        obtain ⟨hm1, hm2⟩ := mvE_ok hm
        dsimp only at hr h6 hpl hm1 hm2 hlen
        exact rMovedX_c pk mj mb Qk Ak ck W (by omega) (by omega) (by omega) (by omega) (fun q h => by have := hr q h; omega) h)
      have HR := Lib.hid hR
      have HPs := Lib.hid hp
      have HQ := Lib.hid hs3
      have HP := Lib.hid hsP
      rw [h0] at FEc
      generalize pthE (⟨bx, bY, sl, L, (fx, fX, fy, fY), B⟩ : Sc) (ps, Q) path = R at *
      obtain ⟨R1, R2⟩ := R
      dsimp only at hlen
      have hSc := Lib.hid hS
      generalize hsc : (⟨bx, bY, sl, L, (fx, fX, fy, fY), B⟩ : Sc) = sc at *
      clear hs1 hs2 hs3 hsP h0 hR hS hp hlen h60 hsc
      go_enter Tryz.func20, Tryz.ntmps20
      go_wp2_with (first | (go_at_call 37; (with_reducible refine (FEc.out _ (by exact bB0)).mono ?_); rintro e w2 ⟨rfl, hb2⟩; have hz2 : w.heap.size + 1 + 1 ≤ w2.heap.size := (by have := hb2.size; (try simp at this); omega)) | fail)
      go_loopw [9] (fun i wr => ∃ (k : Nat) (pk : Int) (Qk : List Int) (Ak : Option Addr) (ck : Nat), k ≤ path.length ∧ i = .int .i64 k ∧ Box wr w.heap.size 30 #[.int .i64 bx, .int .i64 bY, .int .i64 sl, .slice AL L.length cL, .int .i64 fx, .int .i64 fX, .int .i64 fy, .int .i64 fY, .slice AB B.length cB] ∧ Box wr (w.heap.size + 1) 33 #[.int .i64 pk, .slice Ak Qk.length ck] ∧ SlI wr Ak Qk ∧ offB Ak Qk.length (w.heap.size + 1) ∧ Hid (POk sc (pk, Qk)) ∧ Hid ((R1, R2) = pthG sc k (pk, Qk) (path.drop k)) ∧ Below w.heap.size w wr) (fun i _ => path.length - (intOf i).toNat)
      case atStart => exact ⟨0, ps, Q, AQ, cQ, Nat.zero_le _, rfl, by exact bX1 hb2, by exact bX1 hb2, HQ.out.below (by exact bB1 hb2), offB_old HQ.out (by omega), HPs.out, HR.out, by exact bB1 hb2⟩
      case round =>
        obtain ⟨k, pk, Qk, Ak, ck, hk, rfl, hH, hT, hv, ho1, hpk, hRk, hB⟩ := hrel
        clear HR HPs FEc hb2 hz2
        have zz0 := hH.cell 0; have zz1 := hH.cell 1; have zz2 := hH.cell 2; have zz3 := hH.cell 3; have zz4 := hH.cell 4; have zz5 := hH.cell 5; have zz6 := hH.cell 6; have zz7 := hH.cell 7; have zz8 := hH.cell 8
        have t0 := hT.cell 0; have t1 := hT.cell 1; have lT := hT.lt; have lH := hH.lt
        simp at t0 t1 zz0 zz1 zz2 zz3 zz4 zz5 zz6 zz7 zz8
        by_cases hlt : k < path.length
        · obtain ⟨bP, oP, rfl, lP, m0, m1⟩ := mv_cells (HP.out.below hB) (List.getElem?_eq_getElem hlt)
          have hR2 := hRk.out
          rw [List.drop_eq_getElem_cons hlt, pthG] at hR2
          have i1 : (k : Int) < (path.length : Int) := by omega
          generalize path[k] = m at *
          obtain ⟨mj, mb⟩ := m
          dsimp only at m0 m1
          have MEc := Lib.hid (MEd.out mj mb)
          have HV := Lib.hid hv
          clear hRk hv
          by_cases hm : mvE sc (mj, mb) = 0
          · have MYc := Lib.hid (fun W => MYd.out pk Qk mj mb hpk.out hm Ak ck W)
            rw [if_neg (by simp [hm])] at hR2
            rw [hm] at MEc
            cases hy : mayP sc (pk, Qk) (mj, mb)
            · rw [if_pos hy] at hR2
              rw [hy] at MYc
              cases hR2
              clear hm hy hpk MDd MEd MYd
              go_wp2
              (refine region_open (by kernel_rfl) (fun R hR => ?_); refine heldR (S := (fun w' => Below wr.heap.size wr w')) ?_ (fun hHeld => ?_); (focus ((try dsimp only); (((first | exact bB0 | exact bB1 hb3))))); refine rgT 0 ?_ rfl (fun w' hSw => ?_) ?_; rotate_left; (focus ((try dsimp only at hSw); (have hcc := (bcell hSw).1; have sa0 := (hcc _ 0 lH).trans zz0; have sa1 := (hcc _ 1 lH).trans zz1; have sa2 := (hcc _ 2 lH).trans zz2; have sa3 := (hcc _ 3 lH).trans zz3; have sa4 := (hcc _ 4 lH).trans zz4; have sa5 := (hcc _ 5 lH).trans zz5; have sa6 := (hcc _ 6 lH).trans zz6; have sa7 := (hcc _ 7 lH).trans zz7; have sa8 := (hcc _ 8 lH).trans zz8; have sb0 := (hcc _ 0 lT).trans t0; have sb1 := (hcc _ 1 lT).trans t1; have sc0 := (hcc _ _ lP).trans m0; have sc1 := (hcc _ _ lP).trans m1); go_simp; (try with_reducible rfl))); (try simp only [Act.put, pqs]); refine rgN 1 rfl ?_; (try simp only [Act.put, pqs]); refine rgN 2 rfl ?_; (try simp only [Act.put, pqs]); refine rgN 3 rfl ?_; (try simp only [Act.put, pqs]); refine rgT 4 ?_ rfl (fun w' hSw => ?_) ?_; rotate_left; (focus ((try dsimp only at hSw); (have hcc := (bcell hSw).1; have sa0 := (hcc _ 0 lH).trans zz0; have sa1 := (hcc _ 1 lH).trans zz1; have sa2 := (hcc _ 2 lH).trans zz2; have sa3 := (hcc _ 3 lH).trans zz3; have sa4 := (hcc _ 4 lH).trans zz4; have sa5 := (hcc _ 5 lH).trans zz5; have sa6 := (hcc _ 6 lH).trans zz6; have sa7 := (hcc _ 7 lH).trans zz7; have sa8 := (hcc _ 8 lH).trans zz8; have sb0 := (hcc _ 0 lT).trans t0; have sb1 := (hcc _ 1 lT).trans t1; have sc0 := (hcc _ _ lP).trans m0; have sc1 := (hcc _ _ lP).trans m1); go_simp; (try with_reducible rfl))); (try simp only [Act.put, pqs]); refine rgC 5 rfl (fun K hK => ?_); go_simp; ((go_at_call 89; (with_reducible refine (MEc.out _).mono ?_); rintro e w3 ⟨rfl, hb3⟩; have hz3 : wr.heap.size ≤ w3.heap.size := (by have := hb3.size; (try simp at this); omega))); go_simp; refine hK.out _ _ ?_ (fun hHeld => ?_); (focus ((try dsimp only); (((first | exact bB1 hb3 | exact bB0))))); clear hK K; (try simp only [Act.put, pqs]); refine rgN 6 rfl ?_; (try simp only [Act.put, pqs]); refine wpAnyH_done (Q := fun e a w => e = Exit.normal ∧ R a w) (by kernel_rfl) ⟨rfl, hR _ _ ?_⟩ _; clear hR R)
              go_wp2
              (refine region_open (by kernel_rfl) (fun R hR => ?_); refine heldR (S := (fun w' => Below wr.heap.size wr w')) ?_ (fun hHeld => ?_); (focus ((try dsimp only); (((first | exact bB0 | exact bB1 hb4 | exact bB1 hb3 | exact bB2 hb3 hb4))))); refine rgT 0 ?_ rfl (fun w' hSw => ?_) ?_; rotate_left; (focus ((try dsimp only at hSw); (have hcc := (bcell hSw).1; have sa0 := (hcc _ 0 lH).trans zz0; have sa1 := (hcc _ 1 lH).trans zz1; have sa2 := (hcc _ 2 lH).trans zz2; have sa3 := (hcc _ 3 lH).trans zz3; have sa4 := (hcc _ 4 lH).trans zz4; have sa5 := (hcc _ 5 lH).trans zz5; have sa6 := (hcc _ 6 lH).trans zz6; have sa7 := (hcc _ 7 lH).trans zz7; have sa8 := (hcc _ 8 lH).trans zz8; have sb0 := (hcc _ 0 lT).trans t0; have sb1 := (hcc _ 1 lT).trans t1; have sc0 := (hcc _ _ lP).trans m0; have sc1 := (hcc _ _ lP).trans m1); go_simp; (try with_reducible rfl))); (try simp only [Act.put, pqs]); refine rgT 1 ?_ rfl (fun w' hSw => ?_) ?_; rotate_left; (focus ((try dsimp only at hSw); (have hcc := (bcell hSw).1; have sa0 := (hcc _ 0 lH).trans zz0; have sa1 := (hcc _ 1 lH).trans zz1; have sa2 := (hcc _ 2 lH).trans zz2; have sa3 := (hcc _ 3 lH).trans zz3; have sa4 := (hcc _ 4 lH).trans zz4; have sa5 := (hcc _ 5 lH).trans zz5; have sa6 := (hcc _ 6 lH).trans zz6; have sa7 := (hcc _ 7 lH).trans zz7; have sa8 := (hcc _ 8 lH).trans zz8; have sb0 := (hcc _ 0 lT).trans t0; have sb1 := (hcc _ 1 lT).trans t1; have sc0 := (hcc _ _ lP).trans m0; have sc1 := (hcc _ _ lP).trans m1); go_simp; (try with_reducible rfl))); (try simp only [Act.put, pqs]); refine rgN 2 rfl ?_; (try simp only [Act.put, pqs]); refine rgN 3 rfl ?_; (try simp only [Act.put, pqs]); refine rgN 4 rfl ?_; (try simp only [Act.put, pqs]); refine rgT 5 ?_ rfl (fun w' hSw => ?_) ?_; rotate_left; (focus ((try dsimp only at hSw); (have hcc := (bcell hSw).1; have sa0 := (hcc _ 0 lH).trans zz0; have sa1 := (hcc _ 1 lH).trans zz1; have sa2 := (hcc _ 2 lH).trans zz2; have sa3 := (hcc _ 3 lH).trans zz3; have sa4 := (hcc _ 4 lH).trans zz4; have sa5 := (hcc _ 5 lH).trans zz5; have sa6 := (hcc _ 6 lH).trans zz6; have sa7 := (hcc _ 7 lH).trans zz7; have sa8 := (hcc _ 8 lH).trans zz8; have sb0 := (hcc _ 0 lT).trans t0; have sb1 := (hcc _ 1 lT).trans t1; have sc0 := (hcc _ _ lP).trans m0; have sc1 := (hcc _ _ lP).trans m1); go_simp; (try with_reducible rfl))); (try simp only [Act.put, pqs]); refine rgC 6 rfl (fun K hK => ?_); go_simp; ((go_at_call 90; (with_reducible refine (MYc.out _ (by exact bB2 hb3 hB) (HV.out.below (by exact bB1 hb3))).mono ?_); rintro e w4 ⟨rfl, hb4⟩; have hz4 : w3.heap.size ≤ w4.heap.size := (by have := hb4.size; (try simp at this); omega))); go_simp; refine hK.out _ _ ?_ (fun hHeld => ?_); (focus ((try dsimp only); (((first | exact bB2 hb3 hb4 | exact bB1 hb3 | exact bB1 hb4 | exact bB0))))); clear hK K; (try simp only [Act.put, pqs]); refine rgN 7 rfl ?_; (try simp only [Act.put, pqs]); refine wpAnyH_done (Q := fun e a w => e = Exit.normal ∧ R a w) (by kernel_rfl) ⟨rfl, hR _ _ ?_⟩ _; clear hR R)
              go_wp2
              go_ret2
              exact ⟨rfl, by exact bB3 hb4 hb3 hB⟩
            · rw [if_neg (by simp [hy])] at hR2
              rw [hy] at MYc
              have MDc := Lib.hid (fun W (h : SlI W Ak Qk) => MDd.out pk Qk mj mb hpk.out hm Ak ck W h)
              have PN := Lib.hid (mayP_free hpk.out hy).1
              have RN := Lib.hid hR2
              clear hR2 hpk hm hy
              generalize mvd (pk, Qk) (mj, mb) = P at *
              obtain ⟨P1, P2⟩ := P
              go_wp2
              (refine region_open (by kernel_rfl) (fun R hR => ?_); refine heldR (S := (fun w' => Below wr.heap.size wr w')) ?_ (fun hHeld => ?_); (focus ((try dsimp only); (((first | exact bB0 | exact bB1 hb3))))); refine rgT 0 ?_ rfl (fun w' hSw => ?_) ?_; rotate_left; (focus ((try dsimp only at hSw); (have hcc := (bcell hSw).1; have sa0 := (hcc _ 0 lH).trans zz0; have sa1 := (hcc _ 1 lH).trans zz1; have sa2 := (hcc _ 2 lH).trans zz2; have sa3 := (hcc _ 3 lH).trans zz3; have sa4 := (hcc _ 4 lH).trans zz4; have sa5 := (hcc _ 5 lH).trans zz5; have sa6 := (hcc _ 6 lH).trans zz6; have sa7 := (hcc _ 7 lH).trans zz7; have sa8 := (hcc _ 8 lH).trans zz8; have sb0 := (hcc _ 0 lT).trans t0; have sb1 := (hcc _ 1 lT).trans t1; have sc0 := (hcc _ _ lP).trans m0; have sc1 := (hcc _ _ lP).trans m1); go_simp; (try with_reducible rfl))); (try simp only [Act.put, pqs]); refine rgN 1 rfl ?_; (try simp only [Act.put, pqs]); refine rgN 2 rfl ?_; (try simp only [Act.put, pqs]); refine rgN 3 rfl ?_; (try simp only [Act.put, pqs]); refine rgT 4 ?_ rfl (fun w' hSw => ?_) ?_; rotate_left; (focus ((try dsimp only at hSw); (have hcc := (bcell hSw).1; have sa0 := (hcc _ 0 lH).trans zz0; have sa1 := (hcc _ 1 lH).trans zz1; have sa2 := (hcc _ 2 lH).trans zz2; have sa3 := (hcc _ 3 lH).trans zz3; have sa4 := (hcc _ 4 lH).trans zz4; have sa5 := (hcc _ 5 lH).trans zz5; have sa6 := (hcc _ 6 lH).trans zz6; have sa7 := (hcc _ 7 lH).trans zz7; have sa8 := (hcc _ 8 lH).trans zz8; have sb0 := (hcc _ 0 lT).trans t0; have sb1 := (hcc _ 1 lT).trans t1; have sc0 := (hcc _ _ lP).trans m0; have sc1 := (hcc _ _ lP).trans m1); go_simp; (try with_reducible rfl))); (try simp only [Act.put, pqs]); refine rgC 5 rfl (fun K hK => ?_); go_simp; ((go_at_call 89; (with_reducible refine (MEc.out _).mono ?_); rintro e w3 ⟨rfl, hb3⟩; have hz3 : wr.heap.size ≤ w3.heap.size := (by have := hb3.size; (try simp at this); omega))); go_simp; refine hK.out _ _ ?_ (fun hHeld => ?_); (focus ((try dsimp only); (((first | exact bB1 hb3 | exact bB0))))); clear hK K; (try simp only [Act.put, pqs]); refine rgN 6 rfl ?_; (try simp only [Act.put, pqs]); refine wpAnyH_done (Q := fun e a w => e = Exit.normal ∧ R a w) (by kernel_rfl) ⟨rfl, hR _ _ ?_⟩ _; clear hR R)
              go_wp2
              (refine region_open (by kernel_rfl) (fun R hR => ?_); refine heldR (S := (fun w' => Below wr.heap.size wr w')) ?_ (fun hHeld => ?_); (focus ((try dsimp only); (((first | exact bB0 | exact bB1 hb4 | exact bB1 hb3 | exact bB2 hb3 hb4))))); refine rgT 0 ?_ rfl (fun w' hSw => ?_) ?_; rotate_left; (focus ((try dsimp only at hSw); (have hcc := (bcell hSw).1; have sa0 := (hcc _ 0 lH).trans zz0; have sa1 := (hcc _ 1 lH).trans zz1; have sa2 := (hcc _ 2 lH).trans zz2; have sa3 := (hcc _ 3 lH).trans zz3; have sa4 := (hcc _ 4 lH).trans zz4; have sa5 := (hcc _ 5 lH).trans zz5; have sa6 := (hcc _ 6 lH).trans zz6; have sa7 := (hcc _ 7 lH).trans zz7; have sa8 := (hcc _ 8 lH).trans zz8; have sb0 := (hcc _ 0 lT).trans t0; have sb1 := (hcc _ 1 lT).trans t1; have sc0 := (hcc _ _ lP).trans m0; have sc1 := (hcc _ _ lP).trans m1); go_simp; (try with_reducible rfl))); (try simp only [Act.put, pqs]); refine rgT 1 ?_ rfl (fun w' hSw => ?_) ?_; rotate_left; (focus ((try dsimp only at hSw); (have hcc := (bcell hSw).1; have sa0 := (hcc _ 0 lH).trans zz0; have sa1 := (hcc _ 1 lH).trans zz1; have sa2 := (hcc _ 2 lH).trans zz2; have sa3 := (hcc _ 3 lH).trans zz3; have sa4 := (hcc _ 4 lH).trans zz4; have sa5 := (hcc _ 5 lH).trans zz5; have sa6 := (hcc _ 6 lH).trans zz6; have sa7 := (hcc _ 7 lH).trans zz7; have sa8 := (hcc _ 8 lH).trans zz8; have sb0 := (hcc _ 0 lT).trans t0; have sb1 := (hcc _ 1 lT).trans t1; have sc0 := (hcc _ _ lP).trans m0; have sc1 := (hcc _ _ lP).trans m1); go_simp; (try with_reducible rfl))); (try simp only [Act.put, pqs]); refine rgN 2 rfl ?_; (try simp only [Act.put, pqs]); refine rgN 3 rfl ?_; (try simp only [Act.put, pqs]); refine rgN 4 rfl ?_; (try simp only [Act.put, pqs]); refine rgT 5 ?_ rfl (fun w' hSw => ?_) ?_; rotate_left; (focus ((try dsimp only at hSw); (have hcc := (bcell hSw).1; have sa0 := (hcc _ 0 lH).trans zz0; have sa1 := (hcc _ 1 lH).trans zz1; have sa2 := (hcc _ 2 lH).trans zz2; have sa3 := (hcc _ 3 lH).trans zz3; have sa4 := (hcc _ 4 lH).trans zz4; have sa5 := (hcc _ 5 lH).trans zz5; have sa6 := (hcc _ 6 lH).trans zz6; have sa7 := (hcc _ 7 lH).trans zz7; have sa8 := (hcc _ 8 lH).trans zz8; have sb0 := (hcc _ 0 lT).trans t0; have sb1 := (hcc _ 1 lT).trans t1; have sc0 := (hcc _ _ lP).trans m0; have sc1 := (hcc _ _ lP).trans m1); go_simp; (try with_reducible rfl))); (try simp only [Act.put, pqs]); refine rgC 6 rfl (fun K hK => ?_); go_simp; ((go_at_call 90; (with_reducible refine (MYc.out _ (by exact bB2 hb3 hB) (HV.out.below (by exact bB1 hb3))).mono ?_); rintro e w4 ⟨rfl, hb4⟩; have hz4 : w3.heap.size ≤ w4.heap.size := (by have := hb4.size; (try simp at this); omega))); go_simp; refine hK.out _ _ ?_ (fun hHeld => ?_); (focus ((try dsimp only); (((first | exact bB2 hb3 hb4 | exact bB1 hb3 | exact bB1 hb4 | exact bB0))))); clear hK K; (try simp only [Act.put, pqs]); refine rgN 7 rfl ?_; (try simp only [Act.put, pqs]); refine wpAnyH_done (Q := fun e a w => e = Exit.normal ∧ R a w) (by kernel_rfl) ⟨rfl, hR _ _ ?_⟩ _; clear hR R)
              go_wp2
              (refine region_open (by kernel_rfl) (fun R hR => ?_); refine lateR (S := (fun w' => Below wr.heap.size wr w')) 6 ?_ (fun hHeld => ?_); (focus ((try dsimp only); (((first | exact bB0 | exact bB1 hb5 | exact bB1 hb3 | exact bB2 hb4 hb5 | exact bB2 hb3 hb4 | exact bB3 hb3 hb4 hb5))))); refine wpAnyL_take (i := 0) (v := ?_) rfl (by kernel_rfl) (by kernel_rfl) (by kernel_rfl) (by kernel_rfl) (by kernel_rfl) (by kernel_rfl) (fun _ _ _ h => nomatch h.1) (.inl ⟨by kernel_rfl, fun w' hSw => ?_⟩) hHeld ?_; rotate_left; (focus ((try dsimp only at hSw); (have hcc := (bcell hSw).1; have sa0 := (hcc _ 0 lH).trans zz0; have sa1 := (hcc _ 1 lH).trans zz1; have sa2 := (hcc _ 2 lH).trans zz2; have sa3 := (hcc _ 3 lH).trans zz3; have sa4 := (hcc _ 4 lH).trans zz4; have sa5 := (hcc _ 5 lH).trans zz5; have sa6 := (hcc _ 6 lH).trans zz6; have sa7 := (hcc _ 7 lH).trans zz7; have sa8 := (hcc _ 8 lH).trans zz8; have sb0 := (hcc _ 0 lT).trans t0; have sb1 := (hcc _ 1 lT).trans t1; have sc0 := (hcc _ _ lP).trans m0; have sc1 := (hcc _ _ lP).trans m1); go_simp; (try with_reducible rfl))); (try simp only [Act.put, pqs]); refine wpAnyL_pure (i := 1) (v := ?_) rfl (by kernel_rfl) (by kernel_rfl) (by kernel_rfl) (by kernel_rfl) (fun _ _ _ h => nomatch h.1) (.inl ⟨by kernel_rfl, fun w' _ => ?_⟩) (by first | exact (fun _ => hHeld) | exact late_absurd (by kernel_rfl)) ?_; rotate_left; (focus (go_simp; (try with_reducible rfl))); (try simp only [Act.put, pqs]); refine wpAnyL_pure (i := 2) (v := ?_) rfl (by kernel_rfl) (by kernel_rfl) (by kernel_rfl) (by kernel_rfl) (fun _ _ _ h => nomatch h.1) (.inl ⟨by kernel_rfl, fun w' _ => ?_⟩) (by first | exact (fun _ => hHeld) | exact late_absurd (by kernel_rfl)) ?_; rotate_left; (focus (go_simp; (try with_reducible rfl))); (try simp only [Act.put, pqs]); refine wpAnyL_pure (i := 3) (v := ?_) rfl (by kernel_rfl) (by kernel_rfl) (by kernel_rfl) (by kernel_rfl) (fun _ _ _ h => nomatch h.1) (.inl ⟨by kernel_rfl, fun w' _ => ?_⟩) (by first | exact (fun _ => hHeld) | exact late_absurd (by kernel_rfl)) ?_; rotate_left; (focus (go_simp; (try with_reducible rfl))); (try simp only [Act.put, pqs]); refine wpAnyL_take (i := 4) (v := ?_) rfl (by kernel_rfl) (by kernel_rfl) (by kernel_rfl) (by kernel_rfl) (by kernel_rfl) (by kernel_rfl) (fun _ _ _ h => nomatch h.1) (.inl ⟨by kernel_rfl, fun w' hSw => ?_⟩) hHeld ?_; rotate_left; (focus ((try dsimp only at hSw); (have hcc := (bcell hSw).1; have sa0 := (hcc _ 0 lH).trans zz0; have sa1 := (hcc _ 1 lH).trans zz1; have sa2 := (hcc _ 2 lH).trans zz2; have sa3 := (hcc _ 3 lH).trans zz3; have sa4 := (hcc _ 4 lH).trans zz4; have sa5 := (hcc _ 5 lH).trans zz5; have sa6 := (hcc _ 6 lH).trans zz6; have sa7 := (hcc _ 7 lH).trans zz7; have sa8 := (hcc _ 8 lH).trans zz8; have sb0 := (hcc _ 0 lT).trans t0; have sb1 := (hcc _ 1 lT).trans t1; have sc0 := (hcc _ _ lP).trans m0; have sc1 := (hcc _ _ lP).trans m1); go_simp; (try with_reducible rfl))); (try simp only [Act.put, pqs]); refine wpAnyL_ready (rs := [5]) (by kernel_rfl) (by simp) ?_; refine AllReadyL.cons rfl (fun K hK => ?_) AllReadyL.nil; go_simp; ((first | (go_at_call 46; (with_reducible refine (MDc.out _ (HV.out.below (by exact bB2 hb3 hb4))).mono ?_); rintro e w5 hE5; obtain ⟨D, d, rfl, hv5, hf5, hb5⟩ := hE5; have hz5 : w4.heap.size ≤ w5.heap.size := (by have := hb5.size; (try simp at this); omega); have hf6 := Lib.hid (show 0 < P2.length → ∃ g cs, D = some ⟨g, 0, none⟩ ∧ w4.heap.size ≤ g ∧ Box w5 g 3 cs from fun h => (by obtain ⟨g, cs, e, hg, hx⟩ := hf5 h; exact ⟨g, cs, e, by (try simp at hg); omega, hx⟩)); clear hf5; have zB : Box w5 (w.heap.size + 1) 33 #[.int .i64 pk, .slice Ak Qk.length ck] := (by exact bX3 hb3 hb4 hb5); have fz := zB.froz; have lz := zB.lt; have d0 := zB.cell 0; have d1 := zB.cell 1; (simp at d0 d1)) | skip)); go_simp; refine hK.out _ _ ?_ (fun hHeld => ?_); (focus ((try dsimp only); (((first | exact bB3 hb3 hb4 hb5 | exact bB2 hb3 hb4 | exact bB2 hb4 hb5 | exact bB1 hb3 | exact bB1 hb5 | exact bB0))))); clear hK K; (try simp only [Act.put, pqs]); refine wpAnyL_ready (rs := [6]) (by kernel_rfl) (by simp) ?_; refine AllReadyL.late rfl (by kernel_rfl) (fun K hK => ?_) AllReadyL.nil; go_simp; ((first | (go_at_call 46; (with_reducible refine (MDc.out _ (HV.out.below (by exact bB2 hb3 hb4))).mono ?_); rintro e w5 hE5; obtain ⟨D, d, rfl, hv5, hf5, hb5⟩ := hE5; have hz5 : w4.heap.size ≤ w5.heap.size := (by have := hb5.size; (try simp at this); omega); have hf6 := Lib.hid (show 0 < P2.length → ∃ g cs, D = some ⟨g, 0, none⟩ ∧ w4.heap.size ≤ g ∧ Box w5 g 3 cs from fun h => (by obtain ⟨g, cs, e, hg, hx⟩ := hf5 h; exact ⟨g, cs, e, by (try simp at hg); omega, hx⟩)); clear hf5; have zB : Box w5 (w.heap.size + 1) 33 #[.int .i64 pk, .slice Ak Qk.length ck] := (by exact bX3 hb3 hb4 hb5); have fz := zB.froz; have lz := zB.lt; have d0 := zB.cell 0; have d1 := zB.cell 1; (simp at d0 d1)) | skip)); go_simp; refine hK.out _ _ ?_ (fun hHeld => ?_); (focus (exact trivial)); clear hK K; (try simp only [Act.put, pqs]); refine wpAnyL_done (Q := fun e a w => e = Exit.normal ∧ R a w) (by kernel_rfl) ⟨rfl, hR _ _ ?_⟩ _; clear hR R)
              go_wp2
              go_roundw
              case rel =>
                have o1 : offB D P2.length (w.heap.size + 1) := offB_new hf6.out (by omega)
                exact ⟨k + 1, P1, P2, D, d, by omega, by go_num, by exact bX3 hb3 hb4 hb5, by exact bX3 hb3 hb4 hb5, SlI.setf (SlI.setf hv5 o1) o1, o1, PN.out, RN.out, by exact bB4 hb3 hb4 hb5 hB⟩
              case measure => simp [intOf]; omega
          · rw [if_pos hm] at hR2
            generalize mvE sc (mj, mb) = c at *
            have e2 : (c != 0) = true := bneT hm
            cases hR2
            clear hm hpk MDd MEd MYd
            go_wp2
            (refine region_open (by kernel_rfl) (fun R hR => ?_); refine heldR (S := (fun w' => Below wr.heap.size wr w')) ?_ (fun hHeld => ?_); (focus ((try dsimp only); (((first | exact bB0 | exact bB1 hb3))))); refine rgT 0 ?_ rfl (fun w' hSw => ?_) ?_; rotate_left; (focus ((try dsimp only at hSw); (have hcc := (bcell hSw).1; have sa0 := (hcc _ 0 lH).trans zz0; have sa1 := (hcc _ 1 lH).trans zz1; have sa2 := (hcc _ 2 lH).trans zz2; have sa3 := (hcc _ 3 lH).trans zz3; have sa4 := (hcc _ 4 lH).trans zz4; have sa5 := (hcc _ 5 lH).trans zz5; have sa6 := (hcc _ 6 lH).trans zz6; have sa7 := (hcc _ 7 lH).trans zz7; have sa8 := (hcc _ 8 lH).trans zz8; have sb0 := (hcc _ 0 lT).trans t0; have sb1 := (hcc _ 1 lT).trans t1; have sc0 := (hcc _ _ lP).trans m0; have sc1 := (hcc _ _ lP).trans m1); go_simp; (try with_reducible rfl))); (try simp only [Act.put, pqs]); refine rgN 1 rfl ?_; (try simp only [Act.put, pqs]); refine rgN 2 rfl ?_; (try simp only [Act.put, pqs]); refine rgN 3 rfl ?_; (try simp only [Act.put, pqs]); refine rgT 4 ?_ rfl (fun w' hSw => ?_) ?_; rotate_left; (focus ((try dsimp only at hSw); (have hcc := (bcell hSw).1; have sa0 := (hcc _ 0 lH).trans zz0; have sa1 := (hcc _ 1 lH).trans zz1; have sa2 := (hcc _ 2 lH).trans zz2; have sa3 := (hcc _ 3 lH).trans zz3; have sa4 := (hcc _ 4 lH).trans zz4; have sa5 := (hcc _ 5 lH).trans zz5; have sa6 := (hcc _ 6 lH).trans zz6; have sa7 := (hcc _ 7 lH).trans zz7; have sa8 := (hcc _ 8 lH).trans zz8; have sb0 := (hcc _ 0 lT).trans t0; have sb1 := (hcc _ 1 lT).trans t1; have sc0 := (hcc _ _ lP).trans m0; have sc1 := (hcc _ _ lP).trans m1); go_simp; (try with_reducible rfl))); (try simp only [Act.put, pqs]); refine rgC 5 rfl (fun K hK => ?_); go_simp; ((go_at_call 89; (with_reducible refine (MEc.out _).mono ?_); rintro e w3 ⟨rfl, hb3⟩; have hz3 : wr.heap.size ≤ w3.heap.size := (by have := hb3.size; (try simp at this); omega))); go_simp; refine hK.out _ _ ?_ (fun hHeld => ?_); (focus ((try dsimp only); (((first | exact bB1 hb3 | exact bB0))))); clear hK K; (try simp only [Act.put, pqs]); refine rgN 6 rfl ?_; (try simp only [Act.put, pqs]); refine wpAnyH_done (Q := fun e a w => e = Exit.normal ∧ R a w) (by kernel_rfl) ⟨rfl, hR _ _ ?_⟩ _; clear hR R)
            go_wp2
            go_ret2
            exact ⟨rfl, by exact bB2 hb3 hB⟩
        · have e : (R1, R2) = (0, 0) := by rw [hRk.out, List.drop_eq_nil_of_le (by omega)]; rfl
          cases e
          go_wp2
          go_ret2
          exact ⟨rfl, by exact bB1 hB⟩
  · have hR : pthE (⟨bx, bY, sl, L, (fx, fX, fy, fY), B⟩ : Sc) (ps, Q) path = (0, frE (⟨bx, bY, sl, L, (fx, fX, fy, fY), B⟩ : Sc) (ps, Q)) := by unfold pthE; rw [if_pos h0]
    rw [hR]
    generalize frE (⟨bx, bY, sl, L, (fx, fX, fy, fY), B⟩ : Sc) (ps, Q) = c at *
    have e1 : (c != 0) = true := bneT h0
    clear hs1 hs2 hs3 hsP h0 hR
    go_enter Tryz.func20, Tryz.ntmps20
    go_wp2_with (first | (go_at_call 37; (with_reducible refine (FEc.out _ (by exact bB0)).mono ?_); rintro e w2 ⟨rfl, hb2⟩; have hz2 : w.heap.size + 1 + 1 ≤ w2.heap.size := (by have := hb2.size; (try simp at this); omega)) | fail)
    go_ret2
    exact ⟨rfl, by exact bB1 hb2⟩

end Go.Proofs.YtpnfgmgoafgcbaaGreat

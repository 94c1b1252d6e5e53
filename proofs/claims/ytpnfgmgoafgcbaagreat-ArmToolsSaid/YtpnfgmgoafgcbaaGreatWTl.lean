/-
  The law ArmTools (chapter 6): the walk.
-/
import Derived.Test.YtpnfgmgoafgcbaaGreatSwF
import Derived.Test.YtpnfgmgoafgcbaaGreatA15
import Derived.Test.YtpnfgmgoafgcbaaGreatAwake
set_option linter.unusedVariables false
set_option linter.unusedSimpArgs false
set_option linter.unusedVariables false
namespace Go.Proofs.YtpnfgmgoafgcbaaGreat
open Go.RowKit Go.Shelf
attribute [local go_sem] Oper.semAt_some
theorem wnA_len (l : List ByteArray) : ∀ P : List Ce, (wnA l P).length = l.length := by
  intro P
  unfold wnA
  induction P generalizing l with
  | nil => rfl
  | cons p r ih => rw [List.foldl_cons, ih, swp_len]
theorem wnA_step {l : List ByteArray} {P : List Ce} {x : Nat} {p : Ce} (h : P[x]? = some p) : wnA l (P.take (x + 1)) = swp (wnA l (P.take x)) p.1.toNat p.2.toNat := by
  unfold wnA
  rw [List.take_add_one, h, List.foldl_append]
  rfl
/-- The smaller place of the exchange before. -/
def lstP (P : List Ce) : Nat → Int
  | 0 => -1
  | x + 1 => (P.getD x (0, 0)).1
theorem lstP_step {P : List Ce} {x : Nat} {p : Ce} (h : P[x]? = some p) : lstP P (x + 1) = p.1 := by
  show (P.getD x (0, 0)).1 = p.1
  rw [List.getD_eq_getElem?_getD, h]; rfl
theorem wn_place {rack want : List ByteArray} {n x : Nat} {st : List ByteArray × List Ce} {p : Ce} (h : WnI rack want n st) (hn : n ≤ want.length) (hp : st.2[x]? = some p) :
    ∃ a b : Nat, p = ((a : Int), (b : Int)) ∧ a < b ∧ b < want.length ∧ lstP st.2 x < (a : Int) ∧ -1 ≤ lstP st.2 x := by
  obtain ⟨⟨h1, h2, h3, h4⟩, _⟩ := h.ok x p hp
  refine ⟨p.1.toNat, p.2.toNat, ?_, by omega, by omega, ?_, ?_⟩
  · obtain ⟨a, b⟩ := p
    dsimp only at h1 h3 ⊢
    rw [Int.toNat_of_nonneg h1, Int.toNat_of_nonneg (by omega)]
  · cases x with
    | zero => show (-1 : Int) < _; omega
    | succ y =>
      have hy : y < st.2.length := by have := (List.getElem?_eq_some_iff.1 hp).1; omega
      have hq := List.getElem?_eq_getElem hy
      have h6 := (h.ok y _ hq).2 p hp
      rw [lstP_step hq]
      omega
  · cases x with
    | zero => show (-1 : Int) ≤ -1; omega
    | succ y =>
      have hy : y < st.2.length := by have := (List.getElem?_eq_some_iff.1 hp).1; omega
      have hq := List.getElem?_eq_getElem hy
      have h6 := (h.ok y _ hq).1.1
      rw [lstP_step hq]
      omega
set_option maxHeartbeats 8000000 in
set_option maxRecDepth 100000 in
theorem armTools_l (xs ys : List ByteArray) (A B : Option Addr) (c d : Nat) (w : World)
    (hs : SlS w A xs) (_ : xs.length ≤ 9223372036854775807) (hcp : xs.length ≤ c) (hzx : ∀ s ∈ xs, s.size ≤ 9223372036854775807) (ht : SlS w B ys) (_ : ys.length ≤ 9223372036854775807) (hcq : ys.length ≤ d) (hzy : ∀ s ∈ ys, s.size ≤ 9223372036854775807) :
    Calls Tryz.prog 10 #[.slice A xs.length c, .slice B ys.length d] w fun e w' => e = .returned (.bool true) ∧ Below w.heap.size w w' := by
  have AWc := Lib.hid (fun W => awake_c W)
  by_cases m1 : xs.length ≤ 10
  case neg =>
    have b1 : decide ((10 : Int) < (xs.length : Int)) = true := decide_eq_true (by omega)
    clear hs ht hzx hzy
    go_enter Tryz.func10, Tryz.ntmps10
    go_wp2_with (first | (go_at_call 14; (with_reducible refine (AWc.out _).mono ?_); rintro e w1 ⟨rfl, hb1⟩; have hz1 : w.heap.size ≤ w1.heap.size := (by have := hb1.size; (try simp at this); omega)) | fail)
    go_ret
    exact ⟨rfl, by exact bB1 hb1⟩
  have b1 : decide ((10 : Int) < (xs.length : Int)) = false := decide_eq_false (by omega)
  by_cases m2 : ys.length ≤ 10
  case neg =>
    have b2 : decide ((10 : Int) < (ys.length : Int)) = true := decide_eq_true (by omega)
    clear hs ht hzx hzy
    go_enter Tryz.func10, Tryz.ntmps10
    go_wp2_with (first | (go_at_call 14; (with_reducible refine (AWc.out _).mono ?_); rintro e w1 ⟨rfl, hb1⟩; have hz1 : w.heap.size ≤ w1.heap.size := (by have := hb1.size; (try simp at this); omega)) | fail)
    go_ret
    exact ⟨rfl, by exact bB1 hb1⟩
  have b2 : decide ((10 : Int) < (ys.length : Int)) = false := decide_eq_false (by omega)
  have CTx := Lib.hid (fun W (h : Below w.heap.size w W) => copyTexts_c xs A c W (by omega) (hs.below h))
  have CTy := Lib.hid (fun W (h : Below w.heap.size w W) => copyTexts_c ys B d W (by omega) (ht.below h))
  have SFc := Lib.hid (fun X x Y y W k1 k2 => swapsFor_c xs ys X Y x y W (by omega) (by omega) hzx hzy k1 k2)
  have TRc := Lib.hid (fun W (h : Below w.heap.size w W) => toolsRef_c xs ys A B c d W (by omega) (by omega) hcp hcq (hs.below h) (ht.below h))
  by_cases h0 : tlE xs ys = 0
  case neg =>
    have hP : sfP xs ys = [] := if_neg h0
    rw [hP] at SFc
    generalize tlE xs ys = er at *
    have b3 : (er != 0) = true := bneT h0
    clear hs ht hzx hzy h0 hP
    go_enter Tryz.func10, Tryz.ntmps10
    go_wp2_with (first | (go_at_call 14; (with_reducible refine (AWc.out _).mono ?_); rintro e w1 ⟨rfl, hb1⟩; have hz1 : w.heap.size ≤ w1.heap.size := (by have := hb1.size; (try simp at this); omega)) | (go_at_call 66; (with_reducible refine (CTx.out _ (by exact bB1 hb1)).mono ?_); rintro e w3 hE3; obtain ⟨BX, dX, rfl, hrx, hb3⟩ := hE3; have hz3 : w1.heap.size ≤ w3.heap.size := (by have := hb3.size; (try simp at this); omega)) | (go_at_call 66; (with_reducible refine (CTy.out _ (by exact bB2 hb1 hb3)).mono ?_); rintro e w4 hE4; obtain ⟨BY, dY, rfl, hry, hb4⟩ := hE4; have hz4 : w3.heap.size ≤ w4.heap.size := (by have := hb4.size; (try simp at this); omega)) | (go_at_call 65; (with_reducible refine (SFc.out _ _ _ _ _ ((sls_own hrx).below (by exact bB1 hb4)) ((sls_own hry).below (by exact bB0))).mono ?_); rintro e w5 hE5; obtain ⟨D5, d5, rfl, hv5, hb5⟩ := hE5; have hz5 : w4.heap.size ≤ w5.heap.size := (by have := hb5.size; (try simp at this); omega)) | (go_at_call 67; (with_reducible refine (TRc.out _ (by exact bB4 hb1 hb3 hb4 hb5)).mono ?_); rintro e w6 ⟨rfl, hb6⟩) | fail)
    go_ret
    exact ⟨by simp, by exact bB5 hb1 hb3 hb4 hb5 hb6⟩
  obtain ⟨hl, hn8, hx2, hy2, hxy⟩ := tlE_ok h0
  have hP : sfP xs ys = (wnR xs ys ys.length).2 := if_pos h0
  have hI := wnI_run hl hx2 hy2 hxy ys.length (Nat.le_refl _)
  have hE := wnI_end hI
  have hplen := wnR_len xs ys ys.length
  have SWc := Lib.hid (fun W (h : Below w.heap.size w W) => show Calls Tryz.prog 68 #[.slice A xs.length c, .slice B ys.length d] W (fun e w' => ∃ D e', e = .returned (.slice D (wnR xs ys ys.length).2.length e') ∧ SlV w' D ((wnR xs ys ys.length).2.flatMap ceV) ∧ Below W.heap.size W w') from by
    have h5 := swaps_c xs ys A B c d W hl hn8 hx2 hy2 hxy (hs.below h) (ht.below h)
    rw [show (Value.slice A ys.length c) = Value.slice A xs.length c from by rw [hl]] at h5
    exact h5)
  have HAP := Lib.hid (show wnA xs (wnR xs ys ys.length).2 = ys from hI.ap.trans hE)
  have HPL := Lib.hid (fun (x : Nat) (p : Ce) (hp : (wnR xs ys ys.length).2[x]? = some p) => wn_place hI (Nat.le_refl _) hp)
  have HL := Lib.hid hl
  have HT := Lib.hid ht
  rw [hP, h0] at SFc
  rw [h0] at TRc
  clear hs ht hzx hzy h0 hP hI hE hl hx2 hy2 hxy
  generalize (wnR xs ys ys.length).2 = P at *
  go_enter Tryz.func10, Tryz.ntmps10
  go_upto_region 9 with (first | (go_at_call 14; (with_reducible refine (AWc.out _).mono ?_); rintro e w1 ⟨rfl, hb1⟩; have hz1 : w.heap.size ≤ w1.heap.size := (by have := hb1.size; (try simp at this); omega)) | (go_at_call 66; (with_reducible refine (CTx.out _ (by exact bB1 hb1)).mono ?_); rintro e w3 hE3; obtain ⟨BX, dX, rfl, hrx, hb3⟩ := hE3; have hz3 : w1.heap.size ≤ w3.heap.size := (by have := hb3.size; (try simp at this); omega)) | (go_at_call 66; (with_reducible refine (CTy.out _ (by exact bB2 hb1 hb3)).mono ?_); rintro e w4 hE4; obtain ⟨BY, dY, rfl, hry, hb4⟩ := hE4; have hz4 : w3.heap.size ≤ w4.heap.size := (by have := hb4.size; (try simp at this); omega)) | (go_at_call 65; (with_reducible refine (SFc.out _ _ _ _ _ ((sls_own hrx).below (by exact bB1 hb4)) ((sls_own hry).below (by exact bB0))).mono ?_); rintro e w5 hE5; obtain ⟨D5, d5, rfl, hv5, hb5⟩ := hE5; have hz5 : w4.heap.size ≤ w5.heap.size := (by have := hb5.size; (try simp at this); omega)) | (go_at_call 67; (with_reducible refine (TRc.out _ (by exact bB4 hb1 hb3 hb4 hb5)).mono ?_); rintro e w6 ⟨rfl, hb6⟩) | fail)
  have hB : Below w.heap.size w w6 := by exact bB5 hb1 hb3 hb4 hb5 hb6
  have SPc := Lib.hid (fun D3 d3 W (k1 : Below w6.heap.size w6 W) (k2 : SlV W D3 (P.flatMap ceV)) => show Calls Tryz.prog 30 #[.slice D5 P.length d5, .slice D3 P.length d3] W (fun e w' => e = .returned (.bool true) ∧ Below W.heap.size W w') from by
    have h5 := samePairs_c P P D5 D3 d5 d3 W (by omega) (by omega) ((hv5.below hb6).below k1) k2
    rw [decide_eq_true rfl] at h5
    exact h5)
  have HV := Lib.hid (hv5.below hb6)
  clear hb1 hb3 hb4 hb5 hb6 hz1 hz3 hz4 hz5 hrx hry hv5 AWc CTy SFc TRc
  generalize w6 = W5 at *
  go_wp2_with (first | (go_at_call 68; (with_reducible refine (SWc.out _ (by exact bB1 hB)).mono ?_); rintro e w3 hE3; obtain ⟨D3, d3, rfl, hv3, hb3⟩ := hE3) | (go_at_call 30; (with_reducible refine (SPc.out _ _ _ (by exact bB1 hb3) (hv3.below (by exact bB0))).mono ?_); rintro e w4 ⟨rfl, hb4⟩) | (go_at_call 66; (with_reducible refine (CTx.out _ (by exact bB3 hb3 hb4 hB)).mono ?_); rintro e w6 hE6; obtain ⟨BR, dR, rfl, hr6, hb6⟩ := hE6) | fail)
  have hr0 := own_base (b' := W5.heap.size) hr6 (show W5.heap.size ≤ w4.heap.size from by have h1 := hb3.size; have h2 := hb4.size; (try simp at h1); (try simp at h2); omega)
  have hW : Below W5.heap.size W5 w6 := by exact bB3 hb6 hb3 hb4
  clear hb3 hb4 hb6 hv3 hr6 SPc SWc CTx
  generalize w6 = W7 at *
  go_loopw [9, 10] (fun la j wr => ∃ x : Nat, la = .int .i64 (lstP P x) ∧ j = .int .i64 x ∧ x ≤ P.length ∧ wr.ownsRow W5.heap.size 9 1 (.slice BR xs.length dR) xs.length ((wnA xs (P.take x)).map Value.string) ∧ Below W5.heap.size W5 wr) (fun _ j _ => P.length - (intOf j).toNat)
  case atStart => exact ⟨0, rfl, rfl, Nat.zero_le _, hr0, hW⟩
  case round =>
    clear hr0 hW
    obtain ⟨x, rfl, rfl, hx, hr, hb⟩ := hrel
    by_cases hlt : x < P.length
    · obtain ⟨p, hp⟩ : ∃ p, P[x]? = some p := ⟨_, List.getElem?_eq_getElem hlt⟩
      obtain ⟨gP, oP, hA, lP, z0, z1⟩ := ce_cells (HV.out.below hb) hp
      obtain ⟨gP2, oP2, hA2, lP5, _, _⟩ := ce_cells HV.out hp
      rw [hA] at hA2
      cases hA2
      have hls := lstP_step hp
      have hst := wnA_step (l := xs) hp
      obtain ⟨a, b, rfl, hab, hbn, hla, hlb⟩ := HPL.out x p hp
      dsimp only at z0 z1 hls hst
      rw [Int.toNat_natCast, Int.toNat_natCast] at hst
      have hwl := wnA_len xs (P.take x)
      have hal : a < xs.length := by have := HL.out; omega
      have hbl : b < xs.length := by have := HL.out; omega
      obtain ⟨sa, hsa⟩ : ∃ s, (wnA xs (P.take x))[a]? = some s := ⟨_, List.getElem?_eq_getElem (by omega)⟩
      obtain ⟨sb, hsb⟩ : ∃ s, (wnA xs (P.take x))[b]? = some s := ⟨_, List.getElem?_eq_getElem (by omega)⟩
      obtain ⟨gR, hBR, hge, cs, hbx, hca⟩ := own_cellS hr hsa
      obtain ⟨gR2, hBR2, _, cs2, hbx2, hcb⟩ := own_cellS hr hsb
      subst hBR
      cases hBR2
      subst hA
      have lg := hbx.lt
      have ca := (hbx.cell a).trans hca
      have cb := (hbx2.cell b).trans hcb
      have cf := hbx.froz
      have HSW := Lib.hid (own_swp hr hsa hsb)
      have HLS := Lib.hid hls
      have HST := Lib.hid hst
      have nRP : gR ≠ gP := by omega
      have nPR : gP ≠ gR := by omega
      have nab : a ≠ b := by omega
      have nba : b ≠ a := by omega
      have i0 : 0 ≤ (x : Int) := by omega
      have i1 : (x : Int) < (P.length : Int) := by omega
      have a0 : 0 ≤ (a : Int) := by omega
      have a1 : (a : Int) < (xs.length : Int) := by omega
      have c0 : 0 ≤ (b : Int) := by omega
      have c1 : (b : Int) < (xs.length : Int) := by omega
      clear hp hls hst hwl hsa hsb hca hcb hbx hbx2 hr HPL HAP
      generalize lstP P x = la at *
      have v1 : IntKind.i64.wrap (la + 1) = la + 1 := IntWalk.i64_in _ (by omega)
      have v2 : IntKind.i64.wrap ((xs.length : Int) - 1) = (xs.length : Int) - 1 := IntWalk.i64_in _ (by omega)
      have v3 : IntKind.i64.wrap ((a : Int) + 1) = (a : Int) + 1 := IntWalk.i64_in _ (by omega)
      have r1 : inB (a : Int) (la + 1) ((xs.length : Int) - 1) = true := inB_true.2 ⟨by omega, by omega⟩
      have r2 : inB (b : Int) ((a : Int) + 1) ((xs.length : Int) - 1) = true := inB_true.2 ⟨by omega, by omega⟩
      go_upto_region 16 with fail
      (refine region_open (by kernel_rfl) (fun R hR => ?_); refine heldR (S := (fun w' => Below wr.heap.size wr w')) ?_ (fun hHeld => ?_); (focus ((try dsimp only); (((first | exact bB0 | exact bB0))))); have hO := Lib.hid (fun w' (hSw : (fun w' => Below wr.heap.size wr w') w') => (by (try dsimp only at hSw); (have hcc := (bcell hSw).1; have s0 := (hcc _ _ lP).trans z0; have s1 := (hcc _ _ lP).trans z1); exact And.intro s0 s1)); refine rgN 0 rfl ?_; refine rgN 1 rfl ?_; refine rgN 2 rfl ?_; refine rgN 3 rfl ?_; refine rgL 4 hO rfl ?_; refine rgN 5 rfl ?_; refine rgN 6 rfl ?_; refine rgN 7 rfl ?_; refine rgN 8 rfl ?_; refine rgN 9 rfl ?_; refine rgC 10 rfl (fun K hK => ?_); go_simp; ((go_at_call 40; (with_reducible refine (within_b _ _ _ _).mono ?_); rintro e w' ⟨rfl, hw⟩; subst hw)); go_simp; refine hK.out _ _ ?_ (fun hHeld => ?_); (focus ((try dsimp only); (((first | exact bB0 | exact bB0))))); clear hK K; (try simp only [Act.put, pqs]); refine rgN 11 rfl ?_; refine rgN 12 rfl ?_; refine rgN 13 rfl ?_; refine rgN 14 rfl ?_; refine rgN 15 rfl ?_; refine rgN 16 rfl ?_; refine rgL 17 hO rfl ?_; refine rgN 18 rfl ?_; refine rgN 19 rfl ?_; refine rgN 20 rfl ?_; refine rgN 21 rfl ?_; refine rgL 22 hO rfl ?_; refine rgN 23 rfl ?_; refine rgN 24 rfl ?_; refine rgN 25 rfl ?_; refine rgN 26 rfl ?_; refine rgC 27 rfl (fun K hK => ?_); go_simp; ((go_at_call 40; (with_reducible refine (within_b _ _ _ _).mono ?_); rintro e w' ⟨rfl, hw⟩; subst hw)); go_simp; refine hK.out _ _ ?_ (fun hHeld => ?_); (focus ((try dsimp only); (((first | exact bB0 | exact bB0))))); clear hK K; (try simp only [Act.put, pqs]); refine rgN 28 rfl ?_; refine rgN 29 rfl ?_; refine wpAnyH_done (Q := fun e a w => e = Exit.normal ∧ R a w) (by kernel_rfl) ⟨rfl, hR _ _ ?_⟩ _; clear hR R)
      go_upto_region 19 with fail
      (refine region_open (by kernel_rfl) (fun R hR => ?_); refine heldR (S := (fun w' => Below wr.heap.size wr w')) ?_ (fun hHeld => ?_); (focus ((try dsimp only); (((first | exact bB0 | exact bB0))))); have hO := Lib.hid (fun w' (hSw : (fun w' => Below wr.heap.size wr w') w') => (by (try dsimp only at hSw); (have hcc := (bcell hSw).1; have s0 := (hcc _ _ lP).trans z0; have s1 := (hcc _ _ lP).trans z1; have s2 := (hcc _ _ lg).trans ca; have s3 := (hcc _ _ lg).trans cb); exact And.intro s0 (And.intro s1 (And.intro s2 s3)))); refine rgN 0 rfl ?_; refine rgN 1 rfl ?_; refine rgN 2 rfl ?_; refine rgN 3 rfl ?_; refine rgN 4 rfl ?_; refine rgL 5 hO rfl ?_; refine rgN 6 rfl ?_; refine rgL 7 hO rfl ?_; refine rgN 8 rfl ?_; refine rgN 9 rfl ?_; refine rgN 10 rfl ?_; refine rgN 11 rfl ?_; refine rgN 12 rfl ?_; refine rgL 13 hO rfl ?_; refine rgN 14 rfl ?_; refine rgL 15 hO rfl ?_; refine rgN 16 rfl ?_; refine rgN 17 rfl ?_; refine wpAnyH_done (Q := fun e a w => e = Exit.normal ∧ R a w) (by kernel_rfl) ⟨rfl, hR _ _ ?_⟩ _; clear hR R)
      go_wp2
      (refine region_open (by kernel_rfl) (fun R hR => ?_); refine lateR (S := (fun w' => Below wr.heap.size wr w')) 15 ?_ (fun hHeld => ?_); (focus ((try dsimp only); (((first | exact bB0 | exact bB0))))); have hO := Lib.hid (fun w' (hSw : (fun w' => Below wr.heap.size wr w') w') => (by (try dsimp only at hSw); (have hcc := (bcell hSw).1; have hcf := (bcell hSw).2; have s0 := (hcc _ _ lP).trans z0; have s1 := (hcc _ _ lP).trans z1; have s2 := (hcc _ _ lg).trans ca; have s3 := (hcc _ _ lg).trans cb; have s4 := (hcf _ a lg).trans (cf a); have s5 := (hcf _ b lg).trans (cf b)); exact And.intro hcf (And.intro s0 (And.intro s1 (And.intro s2 (And.intro s3 (And.intro s4 s5))))))); refine laN 0 rfl ?_; refine laN 1 rfl ?_; refine laN 2 rfl ?_; refine laN 3 rfl ?_; refine laN 4 rfl ?_; refine laL 5 hO rfl ?_; refine laN 6 rfl ?_; refine laN 7 rfl ?_; refine laN 8 rfl ?_; refine laN 9 rfl ?_; refine laN 10 rfl ?_; refine laL 11 hO rfl ?_; refine laN 12 rfl ?_; refine laN 13 rfl ?_; refine laN 14 rfl ?_; refine laD 15 rfl (fun K hK => ?_); go_simp; (skip); go_simp; refine hK.out _ _ ?_ (fun hHeld => ?_); (focus (exact trivial)); clear hK K; (try simp only [Act.put, pqs]); refine laN 16 rfl ?_; refine laD 17 rfl (fun K hK => ?_); go_simp; (skip); go_simp; refine hK.out _ _ ?_ (fun hHeld => ?_); (focus (exact trivial)); clear hK K; (try simp only [Act.put, pqs]); refine wpAnyL_done (Q := fun e a w => e = Exit.normal ∧ R a w) (by kernel_rfl) ⟨rfl, hR _ _ ?_⟩ _; clear hR R)
      have hr9 : (((wr.setCell ⟨gR, a, none⟩ (Value.string sb)).setCell ⟨gR, b, none⟩ (Value.string sa)).drew.drew.drew).ownsRow W5.heap.size 9 1 (.slice (some ⟨gR, 0, none⟩) xs.length dR) xs.length ((wnA xs (P.take (x + 1))).map Value.string) := by
        rw [HST.out]
        exact own_below HSW.out (Below.drew (Below.drew (Below.drew (Below.refl _ _))))
      have hb9 : Below W5.heap.size W5 (((wr.setCell ⟨gR, a, none⟩ (Value.string sb)).setCell ⟨gR, b, none⟩ (Value.string sa)).drew.drew.drew) := Below.drew (Below.drew (Below.drew (Below.setCell (p := ⟨gR, b, none⟩) (Below.setCell (p := ⟨gR, a, none⟩) hb hge _) hge _)))
      have HR9 := Lib.hid hr9
      clear hr9 HSW HST
      generalize (((wr.setCell ⟨gR, a, none⟩ (Value.string sb)).setCell ⟨gR, b, none⟩ (Value.string sa)).drew.drew.drew) = W9 at *
      go_wp2
      go_roundw
      case rel => exact ⟨x + 1, by rw [HLS.out], by go_num, by omega, HR9.out, hb9⟩
      case measure => simp [intOf]; omega
    · have e : x = P.length := by omega
      subst e
      rw [List.take_length, HAP.out] at hr
      have TXc := Lib.hid (show Calls Tryz.prog 69 #[.slice BR xs.length dR, .slice B ys.length d] wr (fun e w' => e = .returned (.bool true) ∧ Below wr.heap.size wr w') from by
        have h5 := texts_c ys ys BR B dR d wr (by omega) (by omega) (sls_own hr) (HT.out.below (show Below w.heap.size w wr from by exact bB2 hb hB)) rfl
        rw [show (Value.slice BR ys.length dR) = Value.slice BR xs.length dR from by rw [HL.out]] at h5
        exact h5)
      clear hr
      go_wp2_with (first | (go_at_call 69; (with_reducible refine (TXc.out).mono ?_); rintro e w8 ⟨rfl, hb8⟩) | fail)
      go_ret
      exact ⟨rfl, by exact bB3 hb8 hb hB⟩
end Go.Proofs.YtpnfgmgoafgcbaaGreat

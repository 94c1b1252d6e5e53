/-
  The law ArmValves (chapter 6): the walk.
-/
import Derived.Test.YtpnfgmgoafgcbaaTvl
import Derived.Test.YtpnfgmgoafgcbaaAwake
set_option linter.unusedVariables false
namespace Go.Proofs.Ytpnfgmgoafgcbaa
open Go.RowKit
attribute [local go_sem] Oper.semAt_some
attribute [local go_sem ↓] eql_rg neq_rg
theorem opn_mono {d n m : Int} (hd : 0 ≤ d) (h : n ≤ m) : opn d n ≤ opn d m := by
  unfold opn
  repeat' split
  all_goals omega
theorem opn_neg {d n : Int} (hd : 0 ≤ d) : opn d (-n) = -opn d n := by
  unfold opn
  repeat' split
  all_goals omega
theorem sp_mono {d g k n m : Int} (hd : 0 ≤ d) (hg : 0 ≤ g) (h : n ≤ m) : spL d g k n ≤ spL d g k m ∧ spH d g k n ≤ spH d g k m := by
  have h1 := Int.mul_le_mul_of_nonneg_left (opn_mono hd h) hg
  unfold spL spH
  generalize g * opn d n = a at *
  generalize g * opn d m = b at *
  omega
theorem sp_neg {d g k n : Int} (hd : 0 ≤ d) : spL d g k (-n) = -spH d g k n ∧ spH d g k (-n) = -spL d g k n := by
  unfold spL spH
  rw [opn_neg hd, Int.mul_neg]
  generalize g * opn d n = a at *
  omega
theorem siE_min {d g k n : Int} (h : siE d g k n = 0) : siE d g k (min 100 (n + 1)) = 0 ∧ siE d g k (-n) = 0 := by
  obtain ⟨_, _, _, h1, h2⟩ := siE_ok h
  have hv : vlE d g k = 0 := by
    unfold siE at h
    rw [fstE_zero] at h
    exact h _ (by simp)
  have key : ∀ m : Int, -100 ≤ m → m ≤ 100 → siE d g k m = 0 := fun m a b => by
    unfold siE
    rw [fstE_zero]
    simp only [List.mem_cons, List.not_mem_nil, or_false, forall_eq_or_imp, forall_eq]
    refine ⟨hv, ?_⟩
    unfold cmE
    rw [unl_zero (by decide), inB_true]
    omega
  exact ⟨key _ (by omega) (by omega), key _ (by omega) (by omega)⟩
theorem sameC_self (a b : Int) : sameC a b a b = true := by simp [sameC]
def VaCut (W : World) (R : (Int × Int) × Int) (s9 s10 : Value) (wx : World) : Prop := ∃ gp, s9 = .pointer (some ⟨gp, 0, none⟩) ∧ s10 = .int .i64 R.2 ∧ W.heap.size ≤ gp ∧ Box wx gp 27 #[.int .i64 R.1.1, .int .i64 R.1.2] ∧ Below W.heap.size W wx
set_option maxHeartbeats 8000000 in
set_option maxRecDepth 100000 in
theorem armValves_l (d g k n : Int) (xs : List Int) (A : Option Addr) (c : Nat) (w : World) (_ : -9223372036854775808 ≤ d ∧ d ≤ 9223372036854775807) (_ : -9223372036854775808 ≤ g ∧ g ≤ 9223372036854775807) (_ : -9223372036854775808 ≤ k ∧ k ≤ 9223372036854775807) (hn64 : -9223372036854775808 ≤ n ∧ n ≤ 9223372036854775807) (hs : SlI w A xs) (hxl : xs.length ≤ 9223372036854775807) :
    Calls Try.prog 3 #[.agg #[.int .i64 d, .int .i64 g, .int .i64 k], .int .i64 n, .slice A xs.length c] w fun e w' => e = .returned (.bool true) ∧ Below w.heap.size w w' := by
  have AWc := Lib.hid (fun W => awake_c W)
  by_cases h32 : 32 < xs.length
  · have d1 : decide ((32 : Int) < (xs.length : Int)) = true := decide_eq_true (by omega)
    clear hs
    go_enter Try.func3, Try.ntmps3
    go_wp2_with (first | (go_at_call 4; (with_reducible refine (AWc.out _).mono ?_); rintro e w1 ⟨rfl, hb1⟩; have hz1 : w.heap.size < w1.heap.size := (by have := hb1.size; (try simp at this); omega); have V1 : Box w1 w.heap.size 23 #[.int .i64 d, .int .i64 g, .int .i64 k] := (by exact bX1 hb1); have p0 := V1.cell 0; have p1 := V1.cell 1; have p2 := V1.cell 2; (simp at p0 p1 p2)) | fail)
    go_ret
    exact ⟨rfl, by exact bB1 hb1⟩
  have d1 : decide ((32 : Int) < (xs.length : Int)) = false := decide_eq_false (by omega)
  have SIc := Lib.hid (fun W => speedIn_c d g k n W)
  have CIc := Lib.hid (fun W (h : Below w.heap.size w W) => copyInts_c xs A c W (by omega) (hs.below h))
  have TVc := Lib.hid (fun DX dX W h => travelIn_c d g k xs DX dX W (by omega) h)
  have CDc := Lib.hid (fun W (h : Below w.heap.size w W) => rCommandsErr_c d g k xs A c W (by omega) (hs.below h))
  have TRd := Lib.hid (fun (h0 : cdE d g k xs = 0) W (h : Below w.heap.size w W) => rTravel_c d g k xs A c W (cdE_ok h0).1.1 (cdE_ok h0).1.2.1 (cdE_ok h0).1.2.2 (cdE_ok h0).2.1 (cdE_ok h0).2.2 (hs.below h))
  have VEc := Lib.hid (fun W => rValveErr_c d g k W)
  have CEc := Lib.hid (fun W => rCommandErr_c n W)
  have SPd := Lib.hid (fun (h0 : siE d g k n = 0) W => rSpeed_c d g k n W (siE_ok h0).1 (siE_ok h0).2.1 (siE_ok h0).2.2.1 (siE_ok h0).2.2.2)
  have SGc := Lib.hid (fun W => speedIn_c d g k (min 100 (n + 1)) W)
  have SOc := Lib.hid (fun W => speedIn_c d g k (-n) W)
  have HT := Lib.hid (show tvO d g k xs = if cdE d g k xs ≠ 0 then ((0, 0), cdE d g k xs) else (trF d g k xs (0, 0), 0) from rfl)
  have HS0 := Lib.hid (show spO d g k n = if siE d g k n ≠ 0 then ((0, 0), siE d g k n) else ((spL d g k n, spH d g k n), 0) from rfl)
  have HSE := Lib.hid (show siE d g k n = fstE [vlE d g k, cmE n] from rfl)
  have HG := Lib.hid (fun (h0 : siE d g k n = 0) => show spO d g k (min 100 (n + 1)) = ((spL d g k (min 100 (n + 1)), spH d g k (min 100 (n + 1))), 0) from if_neg (by simp [(siE_min h0).1]))
  have HN := Lib.hid (fun (h0 : siE d g k n = 0) => show spO d g k (-n) = ((-spH d g k n, -spL d g k n), 0) from by
    have h1 := sp_neg (g := g) (k := k) (n := n) (siE_ok h0).1.1
    rw [← h1.1, ← h1.2]
    exact if_neg (by simp [(siE_min h0).2]))
  have HM := Lib.hid (fun (h0 : siE d g k n = 0) => sp_mono (k := k) (siE_ok h0).1.1 (siE_ok h0).2.1.1 (show n ≤ min 100 (n + 1) from by have := (siE_ok h0).2.2.2; omega))
  have HBD := Lib.hid (fun (h0 : siE d g k n = 0) => sp_bd (siE_ok h0).1 (siE_ok h0).2.1 (siE_ok h0).2.2.1 (siE_ok h0).2.2.2)
  have HNB := Lib.hid (fun (h0 : siE d g k n = 0) => (siE_ok h0).2.2.2)
  clear hs
  generalize tvO d g k xs = TO at *
  generalize trF d g k xs (0, 0) = TF at *
  generalize cdE d g k xs = ce at *
  generalize siE d g k n = se at *
  generalize vlE d g k = ve at *
  generalize cmE n = me at *
  generalize spO d g k n = SO at *
  generalize spO d g k (min 100 (n + 1)) = SG at *
  generalize spO d g k (-n) = SN at *
  generalize spL d g k n = lo at *
  generalize spH d g k n = hi at *
  generalize spL d g k (min 100 (n + 1)) = glo at *
  generalize spH d g k (min 100 (n + 1)) = ghi at *
  obtain ⟨⟨S1, S2⟩, S3⟩ := SO
  obtain ⟨⟨T1, T2⟩, T3⟩ := TO
  dsimp only at SIc TVc
  go_enter Try.func3, Try.ntmps3
  go_upto_region 6 with (first | (go_at_call 4; (with_reducible refine (AWc.out _).mono ?_); rintro e w1 ⟨rfl, hb1⟩; have hz1 : w.heap.size < w1.heap.size := (by have := hb1.size; (try simp at this); omega); have V1 : Box w1 w.heap.size 23 #[.int .i64 d, .int .i64 g, .int .i64 k] := (by exact bX1 hb1); have p0 := V1.cell 0; have p1 := V1.cell 1; have p2 := V1.cell 2; (simp at p0 p1 p2)) | (go_at_call 5; (with_reducible refine (SIc.out _).mono ?_); rintro e w2 ⟨rfl, hb2⟩) | fail)
  have hV : Box (w2.alloc (.cells #[.int .i64 S1, .int .i64 S2] 27)) w.heap.size 23 #[.int .i64 d, .int .i64 g, .int .i64 k] := by exact bX2 hb1 hb2
  have hS : Box (w2.alloc (.cells #[.int .i64 S1, .int .i64 S2] 27)) w2.heap.size 27 #[.int .i64 S1, .int .i64 S2] := Box.new _ _ _
  have hB : Below w.heap.size w (w2.alloc (.cells #[.int .i64 S1, .int .i64 S2] 27)) := by exact bB2 hb1 hb2
  have hg2 : w.heap.size < w2.heap.size := by have h1 := hb1.size; have h2 := hb2.size; simp at h1; omega
  clear hb1 hb2 hz1 V1 p0 p1 p2 AWc SIc
  generalize (w2.alloc (.cells #[.int .i64 S1, .int .i64 S2] 27)) = W5 at *
  generalize w2.heap.size = gS at *
  have lV := hV.lt; have lS := hS.lt
  go_cut [9, 10] (fun s9 s10 wx => VaCut W5 ((T1, T2), T3) s9 s10 wx)
  case first =>
    ((focus (refine wp_region_held_drew (S := (fun w' => Box w' w.heap.size 23 #[.int .i64 d, .int .i64 g, .int .i64 k])) (by kernel_rfl) ?_ (fun hHeld => ?_); (focus ((try dsimp only); (((first | exact bX0 | exact bX1 hb4 | exact bX1 hb3 | exact bX2 hb3 hb4))))); refine rgT 0 ?_ rfl (fun w' hSw => ?_) ?_; rotate_left; (focus ((try dsimp only at hSw); (have sa0 := hSw.cell 0; have sa1 := hSw.cell 1; have sa2 := hSw.cell 2; (simp at sa0 sa1 sa2)); go_simp; (try with_reducible rfl))); (try simp only [Act.put, pqs]); refine rgN 1 rfl ?_; refine wpAnyH_ready (rs := [2, 7]) (by kernel_rfl) (by simp) ?_; (focus (refine AllReadyH.cons rfl (fun K hK => ?_) ?_; rotate_left; refine AllReadyH.cons rfl (fun K hK => ?_) ?_; rotate_left; exact AllReadyH.nil)); (focus (go_simp; ((go_at_call 7; (with_reducible refine (CIc.out _ (by exact bB1 hB)).mono ?_); rintro e w3 hE3; obtain ⟨DX, dX, rfl, hx3, _, hb3⟩ := hE3; have hz3 : W5.heap.size ≤ w3.heap.size := (by have := hb3.size; (try simp at this); omega); (try (refine (fun (V3 : Box w3 W5.heap.size 27 #[.int .i64 0, .int .i64 0]) => ?_) ?_; rotate_left; (focus (exact bX1 hb3)))))); go_simp; refine hK.out _ _ ?_ (fun hHeld => ?_); (focus ((try dsimp only); (((first | exact bX2 hb3 hb4 | exact bX1 hb3 | exact bX1 hb4 | exact bX0))))); clear hK K; (try simp only [Act.put, pqs]); refine wpAnyH_ready (rs := [3, 7]) (by kernel_rfl) (by simp) ?_; (focus (refine AllReadyH.cons rfl (fun K hK => ?_) ?_; rotate_left; refine AllReadyH.cons rfl (fun K hK => ?_) ?_; rotate_left; exact AllReadyH.nil)); (focus (go_simp; ((go_at_call 6; (with_reducible refine (TVc.out _ _ _ (hx3.below (by exact bB0))).mono ?_); rintro e w4 ⟨rfl, hb4⟩; have hz4 : w3.heap.size ≤ w4.heap.size := (by have := hb4.size; (try simp at this); omega); (try (refine (fun (V4 : Box w4 W5.heap.size 27 #[.int .i64 0, .int .i64 0]) => ?_) ?_; rotate_left; (focus (exact bX2 hb3 hb4)); have v40 := V4.cell 0; have v41 := V4.cell 1; have fv4 := V4.froz; have lv4 := V4.lt; (simp at v40 v41))); (try (refine (fun (V4 : Box w4 w3.heap.size 27 #[.int .i64 0, .int .i64 0]) => ?_) ?_; rotate_left; (focus (exact bX1 hb4)); have v40 := V4.cell 0; have v41 := V4.cell 1; have fv4 := V4.froz; have lv4 := V4.lt; (simp at v40 v41))))); go_simp; refine hK.out _ _ ?_ (fun hHeld => ?_); (focus ((try dsimp only); (((first | exact bX2 hb3 hb4 | exact bX1 hb3 | exact bX1 hb4 | exact bX0))))); clear hK K; (try simp only [Act.put, pqs]); refine rgN 4 rfl ?_; refine rgN 5 rfl ?_; refine rgN 6 rfl ?_; refine rgC 7 rfl (fun K hK => ?_); go_simp; refine hK.out _ _ ?_ (fun hHeld => ?_); (focus ((try dsimp only); (((first | exact bX2 hb3 hb4 | exact bX1 hb3 | exact bX1 hb4 | exact bX0))))); clear hK K; (try simp only [Act.put, pqs]))); rotate_left; (focus (go_simp; refine hK.out _ _ ?_ (fun hHeld => ?_); (focus ((try dsimp only); (((first | exact bX2 hb3 hb4 | exact bX1 hb3 | exact bX1 hb4 | exact bX0))))); clear hK K; (try simp only [Act.put, pqs]); refine rgC 3 rfl (fun K hK => ?_); go_simp; ((go_at_call 6; (with_reducible refine (TVc.out _ _ _ (hx3.below (by exact bB0))).mono ?_); rintro e w4 ⟨rfl, hb4⟩; have hz4 : w3.heap.size ≤ w4.heap.size := (by have := hb4.size; (try simp at this); omega); (try (refine (fun (V4 : Box w4 W5.heap.size 27 #[.int .i64 0, .int .i64 0]) => ?_) ?_; rotate_left; (focus (exact bX2 hb3 hb4)); have v40 := V4.cell 0; have v41 := V4.cell 1; have fv4 := V4.froz; have lv4 := V4.lt; (simp at v40 v41))); (try (refine (fun (V4 : Box w4 w3.heap.size 27 #[.int .i64 0, .int .i64 0]) => ?_) ?_; rotate_left; (focus (exact bX1 hb4)); have v40 := V4.cell 0; have v41 := V4.cell 1; have fv4 := V4.froz; have lv4 := V4.lt; (simp at v40 v41))))); go_simp; refine hK.out _ _ ?_ (fun hHeld => ?_); (focus ((try dsimp only); (((first | exact bX2 hb3 hb4 | exact bX1 hb3 | exact bX1 hb4 | exact bX0))))); clear hK K; (try simp only [Act.put, pqs]); refine rgN 4 rfl ?_; refine rgN 5 rfl ?_; refine rgN 6 rfl ?_)); rotate_left)); rotate_left 2; (focus (go_simp; refine hK.out _ _ ?_ (fun hHeld => ?_); (focus ((try dsimp only); (((first | exact bX2 hb3 hb4 | exact bX1 hb3 | exact bX1 hb4 | exact bX0))))); clear hK K; (try simp only [Act.put, pqs]); refine rgC 2 rfl (fun K hK => ?_); go_simp; ((go_at_call 7; (with_reducible refine (CIc.out _ (by exact bB1 hB)).mono ?_); rintro e w3 hE3; obtain ⟨DX, dX, rfl, hx3, _, hb3⟩ := hE3; have hz3 : W5.heap.size ≤ w3.heap.size := (by have := hb3.size; (try simp at this); omega); (try (refine (fun (V3 : Box w3 W5.heap.size 27 #[.int .i64 0, .int .i64 0]) => ?_) ?_; rotate_left; (focus (exact bX1 hb3)))))); go_simp; refine hK.out _ _ ?_ (fun hHeld => ?_); (focus ((try dsimp only); (((first | exact bX2 hb3 hb4 | exact bX1 hb3 | exact bX1 hb4 | exact bX0))))); clear hK K; (try simp only [Act.put, pqs]); refine rgC 3 rfl (fun K hK => ?_); go_simp; ((go_at_call 6; (with_reducible refine (TVc.out _ _ _ (hx3.below (by exact bB0))).mono ?_); rintro e w4 ⟨rfl, hb4⟩; have hz4 : w3.heap.size ≤ w4.heap.size := (by have := hb4.size; (try simp at this); omega); (try (refine (fun (V4 : Box w4 W5.heap.size 27 #[.int .i64 0, .int .i64 0]) => ?_) ?_; rotate_left; (focus (exact bX2 hb3 hb4)); have v40 := V4.cell 0; have v41 := V4.cell 1; have fv4 := V4.froz; have lv4 := V4.lt; (simp at v40 v41))); (try (refine (fun (V4 : Box w4 w3.heap.size 27 #[.int .i64 0, .int .i64 0]) => ?_) ?_; rotate_left; (focus (exact bX1 hb4)); have v40 := V4.cell 0; have v41 := V4.cell 1; have fv4 := V4.froz; have lv4 := V4.lt; (simp at v40 v41))))); go_simp; refine hK.out _ _ ?_ (fun hHeld => ?_); (focus ((try dsimp only); (((first | exact bX2 hb3 hb4 | exact bX1 hb3 | exact bX1 hb4 | exact bX0))))); clear hK K; (try simp only [Act.put, pqs]); refine rgN 4 rfl ?_; refine rgN 5 rfl ?_; refine rgN 6 rfl ?_)); rotate_left; all_goals (refine rgC 8 rfl (fun K hK => ?_); go_simp; refine hK.out _ _ ?_ (fun hHeld => ?_); (focus ((try dsimp only); (((first | exact bX2 hb3 hb4 | exact bX1 hb3 | exact bX1 hb4 | exact bX0))))); clear hK K; (try simp only [Act.put, pqs]); refine rgN 9 rfl ?_; refine wpAnyH_done (by kernel_rfl) ?_ _; (go_wp2_with fail; go_meet; refine ⟨_, rfl, rfl, ?_, ?_, ?_⟩; (focus (first | omega | (simp; omega))); (exact bX2 hb3 hb4); (exact bB2 hb3 hb4))))))
  case rest =>
    obtain ⟨gT, rfl, rfl, hgT, hT, hW⟩ := hcut
    dsimp only at hT
    have hV2 := hV.below hW lV; have hS2 := hS.below hW lS; have hB2 : Below w.heap.size w wc := (by exact bB2 hW hB)
    clear hV hS hB lV lS CIc TVc
    have hV := hV2; have hS := hS2; have hB := hB2
    clear hV2 hS2 hB2 hW
    generalize wc = W5 at *
    have lV := hV.lt; have lS := hS.lt; have p0 := hV.cell 0; have p1 := hV.cell 1; have p2 := hV.cell 2; have s0 := hS.cell 0; have s1 := hS.cell 1; (simp at p0 p1 p2 s0 s1)
    go_upto_region 8 with (first | (go_at_call 8; (with_reducible refine (CDc.out _ (by exact bB1 hB)).mono ?_); rintro e w3 ⟨rfl, hb3⟩) | fail)
    have HV := hV.below hb3 lV; have HS := hS.below hb3 lS; have HT2 := hT.below hb3 hT.lt; have hB' : Below w.heap.size w w3 := (by exact bB2 hb3 hB); clear hV hS hT hB lV lS p0 p1 p2 s0 s1; have hV := HV; have hS := HS; have hT := HT2; have hB := hB'; clear HV HS HT2 hB'
    clear hb3 CDc
    generalize w3 = W5 at *
    have lV := hV.lt; have lS := hS.lt; have p0 := hV.cell 0; have p1 := hV.cell 1; have p2 := hV.cell 2; have s0 := hS.cell 0; have s1 := hS.cell 1; (simp at p0 p1 p2 s0 s1)
    have t0 := hT.cell 0; have t1 := hT.cell 1; have lT := hT.lt
    simp at t0 t1
    go_cut [64] from 38 to 64 (fun s64 wx => s64 = .bool false ∧ Below W5.heap.size W5 wx)
    case first =>
      by_cases h0 : ce = 0
      · have hT0 := HT.out
        rw [if_neg (by simp [h0])] at hT0
        have TRc := Lib.hid (TRd.out h0)
        subst h0
        obtain ⟨F1, F2⟩ := TF
        obtain ⟨⟨rfl, rfl⟩, rfl⟩ : (T1 = F1 ∧ T2 = F2) ∧ T3 = 0 := by simpa using hT0
        have hsc := sameC_self T1 T2
        clear hT0 TRd HT
        dsimp only at TRc
        (refine wp_region_held_drew (S := (fun w' => Box w' w.heap.size 23 #[.int .i64 d, .int .i64 g, .int .i64 k] ∧ Box w' gT 27 #[.int .i64 T1, .int .i64 T2])) (by kernel_rfl) ?_ (fun hHeld => ?_); (focus ((try dsimp only); ((refine ⟨?_, ?_⟩ <;> (first | exact bX0 | exact bX1 hb4))))); have hO := Lib.hid (fun w' (hSw : (fun w' => Box w' w.heap.size 23 #[.int .i64 d, .int .i64 g, .int .i64 k] ∧ Box w' gT 27 #[.int .i64 T1, .int .i64 T2]) w') => (by (try dsimp only at hSw); (obtain ⟨hSA, hSB⟩ := hSw; have sa0 := hSA.cell 0; have sa1 := hSA.cell 1; have sa2 := hSA.cell 2; have sb0 := hSB.cell 0; have sb1 := hSB.cell 1; (simp at sa0 sa1 sa2 sb0 sb1)); exact And.intro sa0 (And.intro sa1 (And.intro sa2 (And.intro sb0 sb1))))); refine rgN 0 rfl ?_; refine rgN 1 rfl ?_; refine rgN 2 rfl ?_; refine tsH (i := 3) rfl (by assumption) ?_; refine tsH (i := 4) rfl (by assumption) ?_; refine tsH (i := 5) rfl (by assumption) ?_; refine tsH (i := 6) rfl (by assumption) ?_; refine tsH (i := 7) rfl (by assumption) ?_; refine tsH (i := 8) rfl (by assumption) ?_; refine tsH (i := 9) rfl (by assumption) ?_; refine tsH (i := 10) rfl (by assumption) ?_; refine rgN 11 rfl ?_; refine rgN 12 rfl ?_; refine rgN 13 rfl ?_; refine rgN 14 rfl ?_; refine rgN 15 rfl ?_; refine rgN 16 rfl ?_; refine rgN 17 rfl ?_; refine rgN 18 rfl ?_; refine rgL 19 hO rfl ?_; refine rgL 20 hO rfl ?_; refine rgN 21 rfl ?_; refine rgC 22 rfl (fun K hK => ?_); go_simp; ((go_at_call 9; (with_reducible refine (TRc.out _ (by exact bB1 hB)).mono ?_); rintro e w4 ⟨rfl, hb4⟩)); go_simp; refine hK.out _ _ ?_ (fun hHeld => ?_); (focus ((try dsimp only); ((refine ⟨?_, ?_⟩ <;> (first | exact bX1 hb4 | exact bX0))))); clear hK K; (try simp only [Act.put, pqs]); refine rgN 23 rfl ?_; refine rgN 24 rfl ?_; refine rgN 25 rfl ?_; refine rgN 26 rfl ?_; refine wpAnyH_done (by kernel_rfl) ?_ _)
        go_wp2_with fail
        go_meet
        exact ⟨rfl, by exact bB1 hb4⟩
      · have hT0 := HT.out
        rw [if_pos h0] at hT0
        obtain ⟨⟨rfl, rfl⟩, rfl⟩ : (T1 = 0 ∧ T2 = 0) ∧ T3 = ce := by simpa using hT0
        have hsc := sameC_self 0 0
        have x1 := bneT h0
        have x2 := beqF h0
        clear hT0 TRd HT
        (refine wp_region_held_drew (S := (fun w' => Box w' gT 27 #[.int .i64 0, .int .i64 0])) (by kernel_rfl) ?_ (fun hHeld => ?_); (focus ((try dsimp only); (((first | exact bX0 | exact bX0))))); refine rgN 0 rfl ?_; refine rgN 1 rfl ?_; refine rgN 2 rfl ?_; refine rgN 3 rfl ?_; refine rgN 4 rfl ?_; refine rgN 5 rfl ?_; refine rgN 6 rfl ?_; refine rgT 7 ?_ rfl (fun w' hSw => ?_) ?_; rotate_left; (focus ((try dsimp only at hSw); (have sb0 := hSw.cell 0; have sb1 := hSw.cell 1; (simp at sb0 sb1)); go_simp; (try with_reducible rfl))); (try simp only [Act.put, pqs]); refine rgN 8 rfl ?_; refine rgN 9 rfl ?_; refine rgN 10 rfl ?_; refine rgN 11 rfl ?_; refine rgN 12 rfl ?_; refine rgN 13 rfl ?_; refine rgN 14 rfl ?_; refine rgN 15 rfl ?_; refine tsH (i := 16) rfl (by assumption) ?_; refine tsH (i := 17) rfl (by assumption) ?_; refine tsH (i := 18) rfl (by assumption) ?_; refine tsH (i := 19) rfl (by assumption) ?_; refine tsH (i := 20) rfl (by assumption) ?_; refine tsH (i := 21) rfl (by assumption) ?_; refine tsH (i := 22) rfl (by assumption) ?_; refine tsH (i := 23) rfl (by assumption) ?_; refine tsH (i := 24) rfl (by assumption) ?_; refine rgN 25 rfl ?_; refine rgN 26 rfl ?_; refine wpAnyH_done (by kernel_rfl) ?_ _)
        go_wp2_with fail
        go_meet
        exact ⟨rfl, by exact bB0⟩
    case rest =>
      obtain ⟨rfl, hW⟩ := hcut
      have HV := hV.below hW lV; have HS := hS.below hW lS; have hB' : Below w.heap.size w wc := (by exact bB2 hW hB); clear hV hS hT hB lV lS p0 p1 p2 s0 s1; have hV := HV; have hS := HS; have hB := hB'; clear HV HS hB'
      clear hW HT TRd t0 t1 lT
      generalize wc = W5 at *
      have lV := hV.lt; have lS := hS.lt; have p0 := hV.cell 0; have p1 := hV.cell 1; have p2 := hV.cell 2; have s0 := hS.cell 0; have s1 := hS.cell 1; (simp at p0 p1 p2 s0 s1)
      by_cases hv : ve = 0
      case neg =>
        have hse : se = ve := by rw [HSE.out, fstE_cons, if_neg hv]
        have hs0 := HS0.out
        rw [if_pos (by rw [hse]; exact hv), hse] at hs0
        obtain ⟨⟨rfl, rfl⟩, rfl⟩ : (S1 = 0 ∧ S2 = 0) ∧ S3 = ve := by simpa using hs0
        have hsc := sameC_self 0 0
        have x1 := bneT hv; have x2 := beqF hv
        clear hs0 HS0 hse HSE HG HN HM HBD HNB SPd CEc SGc SOc hv
        go_wp2_with (first | (go_at_call 10; (with_reducible refine (VEc.out _).mono ?_); rintro e w3 ⟨rfl, hb3⟩); have S3 : Box w3 gS 27 #[.int .i64 0, .int .i64 0] := (by exact bX1 hb3); have s30 := S3.cell 0; have s31 := S3.cell 1; (simp at s30 s31) | fail)
        go_ret
        exact ⟨rfl, by exact bB2 hb3 hB⟩
      case pos =>
        have hse : se = me := by rw [HSE.out, fstE_cons, if_pos hv, fstE_cons]; split <;> simp_all [fstE]
        subst hv
        by_cases hm : me = 0
        case neg =>
          have hs0 := HS0.out
          rw [if_pos (by rw [hse]; exact hm), hse] at hs0
          obtain ⟨⟨rfl, rfl⟩, rfl⟩ : (S1 = 0 ∧ S2 = 0) ∧ S3 = me := by simpa using hs0
          have hsc := sameC_self 0 0
          have x1 := bneT hm
          clear hs0 HS0 hse HSE HG HN HM HBD HNB SPd SGc SOc hm
          go_wp2_with (first | (go_at_call 10; (with_reducible refine (VEc.out _).mono ?_); rintro e w3 ⟨rfl, hb3⟩); have S3 : Box w3 gS 27 #[.int .i64 0, .int .i64 0] := (by exact bX1 hb3); have s30 := S3.cell 0; have s31 := S3.cell 1; (simp at s30 s31) | (go_at_call 11; (with_reducible refine (CEc.out _).mono ?_); rintro e w' ⟨rfl, rfl⟩) | fail)
          go_ret
          exact ⟨rfl, by exact bB2 hb3 hB⟩
        case pos =>
          have h0 : se = 0 := hse.trans hm
          subst hm
          have hs0 := HS0.out
          rw [if_neg (by simp [h0])] at hs0
          obtain ⟨⟨rfl, rfl⟩, rfl⟩ : (S1 = lo ∧ S2 = hi) ∧ S3 = 0 := by simpa using hs0
          have hG := HG.out h0; have hN := HN.out h0
          obtain ⟨hm1, hm2⟩ := HM.out h0
          obtain ⟨⟨b1, b2⟩, b3, b4⟩ := HBD.out h0
          obtain ⟨n1, n2⟩ := HNB.out h0
          subst hG hN
          have SPc := Lib.hid (SPd.out h0)
          clear hs0 HS0 hse HSE HG HN HM HBD HNB SPd h0
          dsimp only at SGc SOc
          have hsc := sameC_self S1 S2
          have hsn := sameC_self (-S2) (-S1)
          have g1 : decide (S1 ≤ glo) = true := decide_eq_true hm1
          have g2 : decide (S2 ≤ ghi) = true := decide_eq_true hm2
          have v1 : IntKind.i64.wrap (n + 1) = n + 1 := IntWalk.i64_in _ (by omega)
          have v2 : IntKind.i64.wrap (-n) = -n := IntWalk.i64_in _ (by omega)
          have v3 : IntKind.i64.wrap (-S1) = -S1 := IntWalk.i64_in _ (by omega)
          have v4 : IntKind.i64.wrap (-S2) = -S2 := IntWalk.i64_in _ (by omega)
          go_upto_region 15 with (first | (go_at_call 10; (with_reducible refine (VEc.out _).mono ?_); rintro e w3 ⟨rfl, hb3⟩) | (go_at_call 11; (with_reducible refine (CEc.out _).mono ?_); rintro e w' ⟨rfl, rfl⟩) | fail)
          have HV := hV.below hb3 hV.lt; have HS := hS.below hb3 hS.lt; have hB' : Below w.heap.size w w3 := (by exact bB2 hb3 hB)
          clear hV hS hB hb3 VEc CEc lV lS p0 p1 p2 s0 s1
          have hV := HV; have hS := HS; have hB := hB'
          clear HV HS hB'
          generalize w3 = W5 at *
          have lV := hV.lt; have lS := hS.lt
          go_cut [89] from 81 to 89 (fun s89 wx => s89 = .bool false ∧ Below W5.heap.size W5 wx)
          case first =>
            (refine wp_region_held_drew (S := (fun w' => Box w' w.heap.size 23 #[.int .i64 d, .int .i64 g, .int .i64 k] ∧ Box w' gS 27 #[.int .i64 S1, .int .i64 S2])) (by kernel_rfl) ?_ (fun hHeld => ?_); (focus ((try dsimp only); ((refine ⟨?_, ?_⟩ <;> (first | exact bX0 | exact bX1 hb4))))); have hO := Lib.hid (fun w' (hSw : (fun w' => Box w' w.heap.size 23 #[.int .i64 d, .int .i64 g, .int .i64 k] ∧ Box w' gS 27 #[.int .i64 S1, .int .i64 S2]) w') => (by (try dsimp only at hSw); (obtain ⟨hSA, hSB⟩ := hSw; have sa0 := hSA.cell 0; have sa1 := hSA.cell 1; have sa2 := hSA.cell 2; have sb0 := hSB.cell 0; have sb1 := hSB.cell 1; (simp at sa0 sa1 sa2 sb0 sb1)); exact And.intro sa0 (And.intro sa1 (And.intro sa2 (And.intro sb0 sb1))))); refine rgN 0 rfl ?_; refine rgN 1 rfl ?_; refine rgN 2 rfl ?_; refine rgL 3 hO rfl ?_; refine rgL 4 hO rfl ?_; refine rgN 5 rfl ?_; refine rgC 6 rfl (fun K hK => ?_); go_simp; ((go_at_call 12; (with_reducible refine (SPc.out _).mono ?_); rintro e w4 ⟨rfl, hb4⟩)); go_simp; refine hK.out _ _ ?_ (fun hHeld => ?_); (focus ((try dsimp only); ((refine ⟨?_, ?_⟩ <;> (first | exact bX1 hb4 | exact bX0))))); clear hK K; (try simp only [Act.put, pqs]); refine rgN 7 rfl ?_; refine rgN 8 rfl ?_; refine wpAnyH_done (by kernel_rfl) ?_ _)
            go_wp2_with fail
            go_meet
            exact ⟨rfl, by exact bB1 hb4⟩
          case rest =>
            obtain ⟨rfl, hW⟩ := hcut
            have HV := hV.below hW lV; have HS := hS.below hW lS; have hB' : Below w.heap.size w wc := (by exact bB2 hW hB)
            clear hV hS hB hW lV lS SPc
            have hV := HV; have hS := HS; have hB := hB'
            clear HV HS hB'
            generalize wc = W5 at *
            have lV := hV.lt; have lS := hS.lt; have p0 := hV.cell 0; have p1 := hV.cell 1; have p2 := hV.cell 2; have s0 := hS.cell 0; have s1 := hS.cell 1; (simp at p0 p1 p2 s0 s1)
            go_upto_region 18 with (first | (go_at_call 5; (with_reducible refine (SGc.out _).mono ?_); rintro e w3 ⟨rfl, hb3⟩) | fail)
            obtain ⟨W6, hW6⟩ : ∃ W6 : World, W6 = w3.alloc (.cells #[.int .i64 glo, .int .i64 ghi] 27) := ⟨_, rfl⟩
            have HV : Box W6 w.heap.size 23 #[.int .i64 d, .int .i64 g, .int .i64 k] := by rw [hW6]; exact bX1 hb3
            have HS : Box W6 gS 27 #[.int .i64 S1, .int .i64 S2] := by rw [hW6]; exact bX1 hb3
            have hG : Box W6 w3.heap.size 27 #[.int .i64 glo, .int .i64 ghi] := by rw [hW6]; exact Box.new _ _ _
            have hB' : Below w.heap.size w W6 := by rw [hW6]; exact bB2 hb3 hB
            rw [← hW6]
            clear hW6 hV hS hB hb3 lV lS p0 p1 p2 s0 s1 SGc
            have hV := HV; have hS := HS; have hB := hB'
            clear HV HS hB'
            generalize w3.heap.size = gG at *
            generalize W6 = W5 at *
            have lV := hV.lt; have lS := hS.lt; have p0 := hV.cell 0; have p1 := hV.cell 1; have p2 := hV.cell 2; have s0 := hS.cell 0; have s1 := hS.cell 1; (simp at p0 p1 p2 s0 s1)
            have lG := hG.lt
            go_upto_region 19 with (first | (go_at_call 5; (with_reducible refine (SOc.out _).mono ?_); rintro e w3 ⟨rfl, hb3⟩) | fail)
            obtain ⟨W6, hW6⟩ : ∃ W6 : World, W6 = w3.alloc (.cells #[.int .i64 (-S2), .int .i64 (-S1)] 27) := ⟨_, rfl⟩
            have HS : Box W6 gS 27 #[.int .i64 S1, .int .i64 S2] := by rw [hW6]; exact bX1 hb3
            have HG : Box W6 gG 27 #[.int .i64 glo, .int .i64 ghi] := by rw [hW6]; exact bX1 hb3
            have hO : Box W6 w3.heap.size 27 #[.int .i64 (-S2), .int .i64 (-S1)] := by rw [hW6]; exact Box.new _ _ _
            have hB' : Below w.heap.size w W6 := by rw [hW6]; exact bB2 hb3 hB
            rw [← hW6]
            clear hW6 hV hS hG hB hb3 lV lS lG p0 p1 p2 s0 s1 SOc
            have s0 := HS.cell 0; have s1 := HS.cell 1; have q0 := HG.cell 0; have q1 := HG.cell 1; have r0 := hO.cell 0; have r1 := hO.cell 1
            simp at s0 s1 q0 q1 r0 r1
            have l0 := HS.lt; have l1 := HG.lt; have l2 := hO.lt
            generalize w3.heap.size = gO at *
            generalize W6 = W5 at *
            go_wp2_with fail
            go_ret
            exact ⟨rfl, hB'⟩
end Go.Proofs.Ytpnfgmgoafgcbaa

/-
  The law ArmHeld (chapter 6): the walk.
-/
import Derived.Test.YtpnfgmgoafgcbaaGreatRHd
import Derived.Test.YtpnfgmgoafgcbaaGreatChH
import Derived.Test.YtpnfgmgoafgcbaaGreatCpyX
import Derived.Test.YtpnfgmgoafgcbaaGreatAwake
import Derived.Test.YtpnfgmgoafgcbaaGreatLate
set_option linter.unusedVariables false
namespace Go.Proofs.YtpnfgmgoafgcbaaGreat
open Go.RowKit
attribute [local go_sem] Oper.semAt_some
/-- A contact with a greater force that is permitted. -/
def upC (c : Ct) : Ct := (c.1, c.2.1, min 6 (c.2.2 + 1))
/-- The first contacts turned. -/
def upK (C : List Ct) (k : Nat) : List Ct := (C.take k).map upC ++ C.drop k
theorem upK_set {C : List Ct} {k : Nat} {c : Ct} (h : C[k]? = some c) : (upK C (k + 1)).flatMap ctV = ((upK C k).flatMap ctV).set (k * 5 + 4) (.int .i64 (min 6 (c.2.2 + 1))) := by
  have hl : k < C.length := (List.getElem?_eq_some_iff.1 h).1
  have e0 : C[k] = c := (List.getElem?_eq_some_iff.1 h).2
  have e1 : upK C k = (C.take k).map upC ++ c :: C.drop (k + 1) := by unfold upK; rw [List.drop_eq_getElem_cons hl, e0]
  have e2 : upK C (k + 1) = (C.take k).map upC ++ upC c :: C.drop (k + 1) := by unfold upK; rw [List.take_succ_eq_append_getElem hl, e0]; simp
  have e3 : (((C.take k).map upC).flatMap ctV).length = k * 5 := by rw [flatK_len (enc := ctV) (k := 5) (fun _ => rfl)]; simp; omega
  rw [e1, e2, List.flatMap_append, List.flatMap_append, List.flatMap_cons, List.flatMap_cons, List.set_append_right _ _ (by omega), e3]
  congr 1
  rw [show k * 5 + 4 - k * 5 = 4 by omega]
  rfl
theorem upK_all (C : List Ct) : upK C C.length = C.map upC := by simp [upK]
/-- A row begins so. -/
def Beg (cs : Array Value) (xs : List Value) : Prop := ∀ (j : Nat) (u : Value), xs[j]? = some u → cs[j]? = some u
theorem Beg.set {cs : Array Value} {xs : List Value} (h : Beg cs xs) (i : Nat) (v : Value) : Beg (cs.setIfInBounds i v) (xs.set i v) := fun j u hj => by
  rw [List.getElem?_set] at hj
  rw [Array.getElem?_setIfInBounds]
  by_cases e : i = j
  · subst e
    by_cases hi : i < xs.length
    · simp [hi] at hj
      subst hj
      have h2 := h i xs[i] (List.getElem?_eq_getElem hi)
      have h3 := (Array.getElem?_eq_some_iff.1 h2).1
      simp [h3]
    · simp [hi] at hj
  · simp [e] at hj ⊢
    exact h j u hj
theorem Beg.slv {w : World} {g : Nat} {t : TypeId} {cs : Array Value} {xs : List Value} (h : Beg cs xs) (hb : Box w g t cs) : SlV w (some ⟨g, 0, none⟩) xs := fun j u hj => ⟨g, 0, rfl, hb.lt, by rw [hb.cell, Nat.zero_add]; exact h j u hj⟩
theorem beg_of {w : World} {g : Nat} {t : TypeId} {cs : Array Value} {xs : List Value} (hb : Box w g t cs) (h : SlV w (some ⟨g, 0, none⟩) xs) : Beg cs xs := fun j u hj => by
  obtain ⟨b, o, e, _, hc⟩ := h j u hj
  cases e
  rw [hb.cell, Nat.zero_add] at hc
  exact hc

set_option maxHeartbeats 4000000 in
set_option maxRecDepth 100000 in
theorem armHeld_early (C : List Ct) (F : List (Int × Int)) (AC A : Option Addr) (cC c : Nat) (fn fd l0 l1 l2 : Int) (w : World) (hs : SlV w AC (C.flatMap ctV)) (h1 : -9223372036854775808 ≤ fn ∧ fn ≤ 9223372036854775807) (h2 : -9223372036854775808 ≤ fd ∧ fd ≤ 9223372036854775807)
    (h : 2 < C.length ∨ hdE ⟨C, fn, fd, (l0, l1, l2)⟩ ≠ 0 ∨ 2 < F.length) :
    Calls Tryz.prog 5 #[.agg #[.slice AC C.length cC, .int .i64 fn, .int .i64 fd, .int .i64 l0, .int .i64 l1, .int .i64 l2], .slice A F.length c] w fun e w' => e = .returned (.bool true) ∧ Below w.heap.size w w' := by
  have AWc := Lib.hid (fun W => awake_c W)
  by_cases hc : 2 < C.length
  · have e1 : decide (2 < (C.length : Int)) = true := decide_eq_true (by omega)
    clear h
    go_enter Tryz.func5, Tryz.ntmps5
    go_wp2_with (first | (go_at_call 14; (with_reducible refine (AWc.out _).mono ?_); rintro e w1 ⟨rfl, hb1⟩; have hz1 : w.heap.size < w1.heap.size := (by have := hb1.size; (try simp at this); omega); have y1 : Box w1 w.heap.size 53 #[.slice AC C.length cC, .int .i64 fn, .int .i64 fd, .int .i64 l0, .int .i64 l1, .int .i64 l2] := (by focus (apply bx0; (with_reducible repeat first | assumption | apply bx1 | (apply bx2; focus (simp; done)) | apply bx3 | apply bx4 | apply bx5 | apply bx6 | apply bx7 | apply bxB (zqb := hb1)); all_goals first | omega | (simp; first | done | omega) | (have := hb1.size; (try simp at this); first | omega | (simp; omega)))); have p0 := y1.cell 0; have p1 := y1.cell 1; have p2 := y1.cell 2; have p3 := y1.cell 3; have p4 := y1.cell 4; have p5 := y1.cell 5; (simp at p0 p1 p2 p3 p4 p5)) | fail)
    go_ret
    exact ⟨rfl, by focus ((with_reducible repeat first | apply bq0 | apply bq1 | apply bq2 | apply bq3 | apply bq4 | apply bqT hb1); all_goals first | omega | (simp; first | done | omega) | (have := hb1.size; (try simp at this); first | omega | (simp; omega)))⟩
  · have e1 : decide (2 < (C.length : Int)) = false := decide_eq_false (by omega)
    have h := h.resolve_left hc
    have RHc := Lib.hid (fun W (h : Below w.heap.size w W) => rHoldErr_c C AC cC fn fd l0 l1 l2 W (by omega) (hs.below h) h1 h2)
    clear hs
    generalize hdE ⟨C, fn, fd, (l0, l1, l2)⟩ = he at *
    by_cases h0 : he = 0
    · have e2 : (he != 0) = false := bneF h0
      have hF := h.resolve_left (by simpa using h0)
      have e3 : decide (2 < (F.length : Int)) = true := decide_eq_true (by omega)
      clear h h0
      go_enter Tryz.func5, Tryz.ntmps5
      go_wp2_with (first | (go_at_call 14; (with_reducible refine (AWc.out _).mono ?_); rintro e w1 ⟨rfl, hb1⟩; have hz1 : w.heap.size < w1.heap.size := (by have := hb1.size; (try simp at this); omega); have y1 : Box w1 w.heap.size 53 #[.slice AC C.length cC, .int .i64 fn, .int .i64 fd, .int .i64 l0, .int .i64 l1, .int .i64 l2] := (by focus (apply bx0; (with_reducible repeat first | assumption | apply bx1 | (apply bx2; focus (simp; done)) | apply bx3 | apply bx4 | apply bx5 | apply bx6 | apply bx7 | apply bxB (zqb := hb1)); all_goals first | omega | (simp; first | done | omega) | (have := hb1.size; (try simp at this); first | omega | (simp; omega)))); have p0 := y1.cell 0; have p1 := y1.cell 1; have p2 := y1.cell 2; have p3 := y1.cell 3; have p4 := y1.cell 4; have p5 := y1.cell 5; (simp at p0 p1 p2 p3 p4 p5)) | (go_at_call 27; (with_reducible refine (RHc.out _ (by focus ((with_reducible repeat first | apply bq0 | apply bq1 | apply bq2 | apply bq3 | apply bq4 | apply bqT hb1); all_goals first | omega | (simp; first | done | omega) | (have := hb1.size; (try simp at this); first | omega | (simp; omega))))).mono ?_); rintro e w2 ⟨rfl, hb2⟩; have hz2 : w1.heap.size ≤ w2.heap.size := (by have := hb2.size; (try simp at this); omega); have y2 : Box w2 w.heap.size 53 #[.slice AC C.length cC, .int .i64 fn, .int .i64 fd, .int .i64 l0, .int .i64 l1, .int .i64 l2] := (by focus (apply bx0; (with_reducible repeat first | assumption | apply bx1 | (apply bx2; focus (simp; done)) | apply bx3 | apply bx4 | apply bx5 | apply bx6 | apply bx7 | apply bxB (zqb := hb2)); all_goals first | omega | (simp; first | done | omega) | (have := hb2.size; (try simp at this); first | omega | (simp; omega)))); have qq0 := y2.cell 0; have qq1 := y2.cell 1; have qq2 := y2.cell 2; have qq3 := y2.cell 3; have qq4 := y2.cell 4; have qq5 := y2.cell 5; (simp at qq0 qq1 qq2 qq3 qq4 qq5); have lw2 := y2.lt) | fail)
      go_ret
      exact ⟨rfl, by focus ((with_reducible repeat first | apply bq0 | apply bq1 | apply bq2 | apply bq3 | apply bq4 | apply bqT hb1 | apply bqT hb2); all_goals first | omega | (simp; first | done | omega) | (have := And.intro hb1.size hb2.size; (try simp at this); first | omega | (simp; omega)))⟩
    · have e2 : (he != 0) = true := bneT h0
      clear h h0
      go_enter Tryz.func5, Tryz.ntmps5
      go_wp2_with (first | (go_at_call 14; (with_reducible refine (AWc.out _).mono ?_); rintro e w1 ⟨rfl, hb1⟩; have hz1 : w.heap.size < w1.heap.size := (by have := hb1.size; (try simp at this); omega); have y1 : Box w1 w.heap.size 53 #[.slice AC C.length cC, .int .i64 fn, .int .i64 fd, .int .i64 l0, .int .i64 l1, .int .i64 l2] := (by focus (apply bx0; (with_reducible repeat first | assumption | apply bx1 | (apply bx2; focus (simp; done)) | apply bx3 | apply bx4 | apply bx5 | apply bx6 | apply bx7 | apply bxB (zqb := hb1)); all_goals first | omega | (simp; first | done | omega) | (have := hb1.size; (try simp at this); first | omega | (simp; omega)))); have p0 := y1.cell 0; have p1 := y1.cell 1; have p2 := y1.cell 2; have p3 := y1.cell 3; have p4 := y1.cell 4; have p5 := y1.cell 5; (simp at p0 p1 p2 p3 p4 p5)) | (go_at_call 27; (with_reducible refine (RHc.out _ (by focus ((with_reducible repeat first | apply bq0 | apply bq1 | apply bq2 | apply bq3 | apply bq4 | apply bqT hb1); all_goals first | omega | (simp; first | done | omega) | (have := hb1.size; (try simp at this); first | omega | (simp; omega))))).mono ?_); rintro e w2 ⟨rfl, hb2⟩; have hz2 : w1.heap.size ≤ w2.heap.size := (by have := hb2.size; (try simp at this); omega); have y2 : Box w2 w.heap.size 53 #[.slice AC C.length cC, .int .i64 fn, .int .i64 fd, .int .i64 l0, .int .i64 l1, .int .i64 l2] := (by focus (apply bx0; (with_reducible repeat first | assumption | apply bx1 | (apply bx2; focus (simp; done)) | apply bx3 | apply bx4 | apply bx5 | apply bx6 | apply bx7 | apply bxB (zqb := hb2)); all_goals first | omega | (simp; first | done | omega) | (have := hb2.size; (try simp at this); first | omega | (simp; omega)))); have qq0 := y2.cell 0; have qq1 := y2.cell 1; have qq2 := y2.cell 2; have qq3 := y2.cell 3; have qq4 := y2.cell 4; have qq5 := y2.cell 5; (simp at qq0 qq1 qq2 qq3 qq4 qq5); have lw2 := y2.lt) | fail)
      go_ret
      exact ⟨rfl, by focus ((with_reducible repeat first | apply bq0 | apply bq1 | apply bq2 | apply bq3 | apply bq4 | apply bqT hb1 | apply bqT hb2); all_goals first | omega | (simp; first | done | omega) | (have := And.intro hb1.size hb2.size; (try simp at this); first | omega | (simp; omega)))⟩

set_option maxHeartbeats 8000000 in
set_option maxRecDepth 100000 in
theorem armHeld_in (C : List Ct) (F : List (Int × Int)) (AC A : Option Addr) (cC c : Nat) (fn fd l0 l1 l2 : Int) (w : World) (hs : SlV w AC (C.flatMap ctV)) (hsF : SlV w A (F.flatMap ceV)) (h1 : -9223372036854775808 ≤ fn ∧ fn ≤ 9223372036854775807) (h2 : -9223372036854775808 ≤ fd ∧ fd ≤ 9223372036854775807)
    (hC : C.length ≤ 2) (hE : hdE ⟨C, fn, fd, (l0, l1, l2)⟩ = 0) (hF : F.length ≤ 2) :
    Calls Tryz.prog 5 #[.agg #[.slice AC C.length cC, .int .i64 fn, .int .i64 fd, .int .i64 l0, .int .i64 l1, .int .i64 l2], .slice A F.length c] w fun e w' => e = .returned (.bool true) ∧ Below w.heap.size w w' := by
  have AWc := Lib.hid (fun W => awake_c W)
  have RHc := Lib.hid (fun W (h : Below w.heap.size w W) => show Calls Tryz.prog 27 #[.agg #[.slice AC C.length cC, .int .i64 fn, .int .i64 fd, .int .i64 l0, .int .i64 l1, .int .i64 l2]] W (fun e w' => e = .returned (.int .i64 0) ∧ Below W.heap.size W w') from hE ▸ rHoldErr_c C AC cC fn fd l0 l1 l2 W (by omega) (hs.below h) h1 h2)
  have CHc := Lib.hid (fun W (h : Below w.heap.size w W) => copyHold_c C AC cC fn fd l0 l1 l2 W (by omega) (hs.below h))
  have CXc := Lib.hid (fun W (h : Below w.heap.size w W) => copyHoldX_c C AC cC fn fd l0 l1 l2 W (by omega) (hs.below h))
  have HOc := Lib.hid (fun D d W (h : SlV W D (C.flatMap ctV)) => holdOf_c C D d fn fd l0 l1 l2 W (by omega) h h1 h2)
  have CPc := Lib.hid (fun W (h : Below w.heap.size w W) => copyPairs_c F A c W (by omega) (hsF.below h))
  have CKc := Lib.hid (fun D d D' d' W (h : SlV W D (C.flatMap ctV)) (h' : SlV W D' (F.flatMap ceV)) => checkHold_c C F D D' d d' fn fd l0 l1 l2 W (by omega) (by omega) h h' h1 h2)
  have HL := held_law hE
  have HOk := hdE_ok hE
  have HRn := Lib.hid (show heP fn fd C (l0, l1, l2) = none → hoR ⟨C, fn, fd, (l0, l1, l2)⟩ = ([], 12) from fun h => by unfold hoR; rw [if_neg (by simp [hE])]; simp [h])
  have HRs := Lib.hid (show ∀ L, heP fn fd C (l0, l1, l2) = some L → hoR ⟨C, fn, fd, (l0, l1, l2)⟩ = (L, 0) from fun L h => by unfold hoR; rw [if_neg (by simp [hE])]; simp [h])
  have hfn := HOk.fn
  have hfd := HOk.fd
  have hCl := HOk.len
  have hct := Lib.hid HOk.ct
  dsimp only at hfn hfd hCl HL
  have LOc := Lib.hid (fun W => lowestE_c (min 10 (fn + 1)) fd W (by omega) hfd)
  have HMo := Lib.hid (show moreH ⟨C, fn, fd, (l0, l1, l2)⟩ = ⟨C.map upC, (lowP (min 10 (fn + 1)) fd).1, (lowP (min 10 (fn + 1)) fd).2, (l0, l1, l2)⟩ from rfl)
  have lowb := low_ok (n := min 10 (fn + 1)) (d := fd) (by omega) hfd
  generalize lowP (min 10 (fn + 1)) fd = LP at *
  obtain ⟨q1, q2⟩ := LP
  dsimp only at LOc HMo lowb
  have hq1 : 0 ≤ q1 ∧ q1 ≤ 10 := by omega
  have hq2 : 0 ≤ q2 ∧ q2 ≤ 10 := by omega
  have d1 : decide (2 < (C.length : Int)) = false := decide_eq_false (by omega)
  have d2 : decide (2 < (F.length : Int)) = false := decide_eq_false (by omega)
  obtain ⟨HL1, HL2⟩ := HL
  have HL2 := Lib.hid (HL2 F)
  have HS := Lib.hid hs
  have HSF := Lib.hid hsF
  clear hs hsF hE HOk lowb
  generalize hcp : chP ⟨C, fn, fd, (l0, l1, l2)⟩ F = CPF at *
  clear hcp
  obtain ⟨chi, chc⟩ := CPF
  dsimp only at HL2 CKc
  go_enter Tryz.func5, Tryz.ntmps5
  go_upto_region 5 with (first | (go_at_call 14; (with_reducible refine (AWc.out _).mono ?_); rintro e w1 ⟨rfl, hb1⟩; have hz1 : w.heap.size < w1.heap.size := (by have := hb1.size; (try simp at this); omega); have y1 : Box w1 w.heap.size 53 #[.slice AC C.length cC, .int .i64 fn, .int .i64 fd, .int .i64 l0, .int .i64 l1, .int .i64 l2] := (by focus (apply bx0; (with_reducible repeat first | assumption | apply bx1 | (apply bx2; focus (simp; done)) | apply bx3 | apply bx4 | apply bx5 | apply bx6 | apply bx7 | apply bxB (zqb := hb1)); all_goals first | omega | (simp; first | done | omega) | (have := hb1.size; (try simp at this); first | omega | (simp; omega)))); have p0 := y1.cell 0; have p1 := y1.cell 1; have p2 := y1.cell 2; have p3 := y1.cell 3; have p4 := y1.cell 4; have p5 := y1.cell 5; (simp at p0 p1 p2 p3 p4 p5)) | (go_at_call 27; (with_reducible refine (RHc.out _ (by focus ((with_reducible repeat first | apply bq0 | apply bq1 | apply bq2 | apply bq3 | apply bq4 | apply bqT hb1); all_goals first | omega | (simp; first | done | omega) | (have := hb1.size; (try simp at this); first | omega | (simp; omega))))).mono ?_); rintro e w2 ⟨rfl, hb2⟩; have hz2 : w1.heap.size ≤ w2.heap.size := (by have := hb2.size; (try simp at this); omega); have y2 : Box w2 w.heap.size 53 #[.slice AC C.length cC, .int .i64 fn, .int .i64 fd, .int .i64 l0, .int .i64 l1, .int .i64 l2] := (by focus (apply bx0; (with_reducible repeat first | assumption | apply bx1 | (apply bx2; focus (simp; done)) | apply bx3 | apply bx4 | apply bx5 | apply bx6 | apply bx7 | apply bxB (zqb := hb2)); all_goals first | omega | (simp; first | done | omega) | (have := hb2.size; (try simp at this); first | omega | (simp; omega)))); have qq0 := y2.cell 0; have qq1 := y2.cell 1; have qq2 := y2.cell 2; have qq3 := y2.cell 3; have qq4 := y2.cell 4; have qq5 := y2.cell 5; (simp at qq0 qq1 qq2 qq3 qq4 qq5); have lw2 := y2.lt) | fail)
  have hP : Box w2 w.heap.size 53 #[.slice AC C.length cC, .int .i64 fn, .int .i64 fd, .int .i64 l0, .int .i64 l1, .int .i64 l2] := y2
  have hB : Below w.heap.size w w2 := by focus ((with_reducible repeat first | apply bq0 | apply bq1 | apply bq2 | apply bq3 | apply bq4 | apply bqT hb1 | apply bqT hb2); all_goals first | omega | (simp; first | done | omega) | (have := And.intro hb1.size hb2.size; (try simp at this); first | omega | (simp; omega)))
  clear y1 y2 p0 p1 p2 p3 p4 p5 qq0 qq1 qq2 qq3 qq4 qq5 hb1 hb2 hz1 hz2 lw2 AWc RHc
  generalize w2 = W5 at *
  generalize hoR ⟨C, fn, fd, (l0, l1, l2)⟩ = R at *
  obtain ⟨R1, R2⟩ := R
  (try dsimp only at HRn HRs)
  go_cut [5, 6] (fun s5 s6 wx => ∃ A5 c5, s5 = .slice A5 R1.length c5 ∧ s6 = .int .i64 R2 ∧ SlV wx A5 (R1.flatMap ceV) ∧ Box wx w.heap.size 53 #[.slice AC C.length cC, .int .i64 fn, .int .i64 fd, .int .i64 l0, .int .i64 l1, .int .i64 l2] ∧ Below w.heap.size w wx)
  case first =>
    (have c00 := hP.cell 0; have c01 := hP.cell 1; have c02 := hP.cell 2; have c03 := hP.cell 3; have c04 := hP.cell 4; have c05 := hP.cell 5; simp at c00 c01 c02 c03 c04 c05; have hl0 := hP.lt)
    go_wp2_with (first | (go_at_call 24; (with_reducible refine (CHc.out _ ?_).mono ?_); rotate_left; rintro e w3 hC3; obtain ⟨D3, d3, rfl, hv3, hb3⟩ := hC3; have hz3 : W5.heap.size ≤ w3.heap.size := (by have := hb3.size; (try simp at this); omega); rotate_left; (focus (focus ((with_reducible repeat first | apply bq0 | apply bq1 | apply bq2 | apply bq3 | apply bq4 | apply bqT hB); all_goals first | omega | (simp; first | done | omega) | (have := hB.size; (try simp at this); first | omega | (simp; omega)))))) | (go_at_call 28; (with_reducible refine (HOc.out D3 d3 _ hv3).mono ?_); rintro e w4 hE4; obtain ⟨A4, c4, rfl, hv4, hb4⟩ := hE4) | fail)
    go_meet
    exact ⟨A4, c4, rfl, rfl, hv4, by focus (apply bx0; (with_reducible repeat first | assumption | apply bx1 | (apply bx2; focus (simp; done)) | apply bx3 | apply bx4 | apply bx5 | apply bx6 | apply bx7 | apply bxB (zqb := hb3) | apply bxB (zqb := hb4)); all_goals first | omega | (simp; first | done | omega) | (have := And.intro hb3.size hb4.size; (try simp at this); first | omega | (simp; omega))), by focus ((with_reducible repeat first | apply bq0 | apply bq1 | apply bq2 | apply bq3 | apply bq4 | apply bqT hb3 | apply bqT hb4 | apply bqT hB); all_goals first | omega | (simp; first | done | omega) | (have := And.intro hb3.size (And.intro hb4.size hB.size); (try simp at this); first | omega | (simp; omega)))⟩
  case rest =>
    clear hP hB HOc
    obtain ⟨A5, c5, rfl, rfl, h5, hP, hB⟩ := hcut
    generalize wc = W5 at *
    have H5 := Lib.hid h5
    clear h5
    go_upto_region 6 with fail
    go_cut [7, 8] (fun s7 s8 wx => s7 = .int .i64 chi ∧ s8 = .int .i64 chc ∧ SlV wx A5 (R1.flatMap ceV) ∧ Box wx w.heap.size 53 #[.slice AC C.length cC, .int .i64 fn, .int .i64 fd, .int .i64 l0, .int .i64 l1, .int .i64 l2] ∧ Below w.heap.size w wx)
    case first =>
      (have c00 := hP.cell 0; have c01 := hP.cell 1; have c02 := hP.cell 2; have c03 := hP.cell 3; have c04 := hP.cell 4; have c05 := hP.cell 5; simp at c00 c01 c02 c03 c04 c05; have hl0 := hP.lt)
      go_wp2_with (first | (go_at_call 24; (with_reducible refine (CHc.out _ ?_).mono ?_); rotate_left; rintro e w3 hC3; obtain ⟨D3, d3, rfl, hv3, hb3⟩ := hC3; have hz3 : W5.heap.size ≤ w3.heap.size := (by have := hb3.size; (try simp at this); omega); rotate_left; (focus (focus ((with_reducible repeat first | apply bq0 | apply bq1 | apply bq2 | apply bq3 | apply bq4 | apply bqT hB); all_goals first | omega | (simp; first | done | omega) | (have := hB.size; (try simp at this); first | omega | (simp; omega)))))) | (go_at_call 25; (with_reducible refine (CPc.out _ ?_).mono ?_); rotate_left; rintro e w4 hC4; obtain ⟨D4, d4, rfl, hv4, hb4⟩ := hC4; have hz4 : W5.heap.size ≤ w4.heap.size := (by have := hb4.size; (try simp at this); omega); rotate_left; (focus (focus ((with_reducible repeat first | apply bq0 | apply bq1 | apply bq2 | apply bq3 | apply bq4 | apply bqT hb3 | apply bqT hB); all_goals first | omega | (simp; first | done | omega) | (have := And.intro hb3.size hB.size; (try simp at this); first | omega | (simp; omega)))))) | (go_at_call 23; (with_reducible refine (CKc.out D3 d3 D4 d4 _ ?_ hv4).mono ?_); rotate_left; rintro e w6 ⟨rfl, hb6⟩; rotate_left; (focus (exact hv3.below (by focus ((with_reducible repeat first | apply bq0 | apply bq1 | apply bq2 | apply bq3 | apply bq4 | apply bqT hb4); all_goals first | omega | (simp; first | done | omega) | (have := hb4.size; (try simp at this); first | omega | (simp; omega))))))) | fail)
      go_meet
      exact ⟨rfl, rfl, H5.out.below (by focus ((with_reducible repeat first | apply bq0 | apply bq1 | apply bq2 | apply bq3 | apply bq4 | apply bqT hb3 | apply bqT hb4 | apply bqT hb6); all_goals first | omega | (simp; first | done | omega) | (have := And.intro hb3.size (And.intro hb4.size hb6.size); (try simp at this); first | omega | (simp; omega)))), by focus (apply bx0; (with_reducible repeat first | assumption | apply bx1 | (apply bx2; focus (simp; done)) | apply bx3 | apply bx4 | apply bx5 | apply bx6 | apply bx7 | apply bxB (zqb := hb3) | apply bxB (zqb := hb4) | apply bxB (zqb := hb6)); all_goals first | omega | (simp; first | done | omega) | (have := And.intro hb3.size (And.intro hb4.size hb6.size); (try simp at this); first | omega | (simp; omega))), by focus ((with_reducible repeat first | apply bq0 | apply bq1 | apply bq2 | apply bq3 | apply bq4 | apply bqT hb3 | apply bqT hb4 | apply bqT hb6 | apply bqT hB); all_goals first | omega | (simp; first | done | omega) | (have := And.intro hb3.size (And.intro hb4.size (And.intro hb6.size hB.size)); (try simp at this); first | omega | (simp; omega)))⟩
    case rest =>
      clear hP hB H5 CPc CKc
      obtain ⟨rfl, rfl, h5, hP, hB⟩ := hcut
      generalize wc = W5 at *
      have H5 := Lib.hid h5
      clear h5
      cases hH : heP fn fd C (l0, l1, l2) with
      | none =>
        have e1 : R1 = [] ∧ R2 = 12 := by simpa using HRn.out hH
        obtain ⟨rfl, rfl⟩ := e1
        have hcc : chc ≠ 0 := fun h => by
          obtain ⟨_, L, hL, _⟩ := HL2.out h
          rw [hH] at hL
          cases hL
        have x1 : (chc != 0) = true := bneT hcc
        clear hcc hH
        go_wp2
        go_ret
        exact ⟨rfl, by focus ((with_reducible repeat first | apply bq0 | apply bq1 | apply bq2 | apply bq3 | apply bq4 | apply bqT hB); all_goals first | omega | (simp; first | done | omega) | (have := hB.size; (try simp at this); first | omega | (simp; omega)))⟩
      | some L =>
        have e1 : L = R1 := by have := congrArg Prod.fst (HRs.out L hH); exact this.symm
        have e2 : R2 = 0 := congrArg Prod.snd (HRs.out L hH)
        subst e1 e2
        obtain ⟨hLl, hk1, hk2⟩ := HL1 L hH
        have HK1 := Lib.hid hk1
        have HK2 := Lib.hid hk2
        have HF := Lib.hid (show chc = 0 → chi = 0 ∧ befP F L = false from fun h => by
          obtain ⟨ha, L', hL', hb⟩ := HL2.out h
          rw [hH] at hL'
          obtain rfl := Option.some.inj hL'
          exact ⟨congrArg Prod.fst ha, hb⟩)
        have BFc := Lib.hid (fun W (h : Below w.heap.size w W) (h' : Below W5.heap.size W5 W) => isBefore_c F L A A5 c c5 W (by omega) (by omega) (HSF.out.below h) (H5.out.below h'))
        have hL2 : L.length ≤ 2 := by omega
        clear hk1 hk2 HRn HRs HL1 HL2 hH hLl
        go_upto_region 9 with fail
        go_cut [63] (fun s63 wx => s63 = .bool false ∧ SlV wx A5 (L.flatMap ceV) ∧ Box wx w.heap.size 53 #[.slice AC C.length cC, .int .i64 fn, .int .i64 fd, .int .i64 l0, .int .i64 l1, .int .i64 l2] ∧ Below w.heap.size w wx)
        case first =>
          by_cases hc0 : chc = 0
          · obtain ⟨hi0, hbf⟩ := HF.out hc0
            have x1 : (chc == 0) = true := beqT hc0
            have x2 : (chi != 0) = false := bneF hi0
            rw [hbf] at BFc
            clear hc0 hi0 hbf
            have hlP0 := hP.lt
            go_wp2_with (first | (go_at_call 31; (with_reducible refine (BFc.out _ (by focus ((with_reducible repeat first | apply bq0 | apply bq1 | apply bq2 | apply bq3 | apply bq4 | apply bqT hB); all_goals first | omega | (simp; first | done | omega) | (have := hB.size; (try simp at this); first | omega | (simp; omega)))) (by focus ((with_reducible repeat first | apply bq0 | apply bq1 | apply bq2 | apply bq3 | apply bq4); all_goals first | omega | (simp; first | done | omega)))).mono ?_); rintro e w3 ⟨rfl, hb3⟩) | fail)
            go_meet
            exact ⟨rfl, H5.out.below (by focus ((with_reducible repeat first | apply bq0 | apply bq1 | apply bq2 | apply bq3 | apply bq4 | apply bqT hb3); all_goals first | omega | (simp; first | done | omega) | (have := hb3.size; (try simp at this); first | omega | (simp; omega)))), by focus (apply bx0; (with_reducible repeat first | assumption | apply bx1 | (apply bx2; focus (simp; done)) | apply bx3 | apply bx4 | apply bx5 | apply bx6 | apply bx7 | apply bxB (zqb := hb3)); all_goals first | omega | (simp; first | done | omega) | (have := hb3.size; (try simp at this); first | omega | (simp; omega))), by focus ((with_reducible repeat first | apply bq0 | apply bq1 | apply bq2 | apply bq3 | apply bq4 | apply bqT hb3 | apply bqT hB); all_goals first | omega | (simp; first | done | omega) | (have := And.intro hb3.size hB.size; (try simp at this); first | omega | (simp; omega)))⟩
          · have x1 : (chc == 0) = false := beqF hc0
            clear hc0
            go_wp2_with fail
            go_meet
            exact ⟨rfl, H5.out, hP, hB⟩
        case rest =>
          clear hP hB H5 BFc HF
          obtain ⟨rfl, h5, hP, hB⟩ := hcut
          generalize wc = W5 at *
          have H5 := Lib.hid h5
          have HP := Lib.hid hP
          have hlP := hP.lt
          clear h5
          go_upto_region 11 with fail
          go_cut [9] (fun s9 wx => ∃ gM gD dD cs, s9 = .pointer (some ⟨gM, 0, none⟩) ∧ Box wx gM 53 #[.slice (some ⟨gD, 0, none⟩) C.length dD, .int .i64 fn, .int .i64 fd, .int .i64 l0, .int .i64 l1, .int .i64 l2] ∧ Box wx gD 69 cs ∧ Hid (Beg cs (C.flatMap ctV)) ∧ W5.heap.size ≤ gD ∧ W5.heap.size ≤ gM ∧ Below W5.heap.size W5 wx)
          case first =>
            (have c00 := hP.cell 0; have c01 := hP.cell 1; have c02 := hP.cell 2; have c03 := hP.cell 3; have c04 := hP.cell 4; have c05 := hP.cell 5; simp at c00 c01 c02 c03 c04 c05; have hl0 := hP.lt)
            go_wp2_with (first | (go_at_call 24; (with_reducible refine (CXc.out _ ?_).mono ?_); rotate_left; rintro e w3 hC3; obtain ⟨D3, d3, rfl, hv3, hf3, hb3⟩ := hC3; have hz3 : W5.heap.size ≤ w3.heap.size := (by have := hb3.size; (try simp at this); omega); rotate_left; (focus (focus ((with_reducible repeat first | apply bq0 | apply bq1 | apply bq2 | apply bq3 | apply bq4 | apply bqT hB); all_goals first | omega | (simp; first | done | omega) | (have := hB.size; (try simp at this); first | omega | (simp; omega)))))) | fail)
            go_meet
            obtain ⟨g, cs, rfl, hg, hbx⟩ := hf3 (by omega)
            exact ⟨_, g, d3, cs, rfl, by focus (apply bx0; (with_reducible repeat first | assumption | apply bx1 | (apply bx2; focus (simp; done)) | apply bx3 | apply bx4 | apply bx5 | apply bx6 | apply bx7); all_goals first | omega | (simp; first | done | omega)), by focus (apply bx0; (with_reducible repeat first | assumption | apply bx1 | (apply bx2; focus (simp; done)) | apply bx3 | apply bx4 | apply bx5 | apply bx6 | apply bx7); all_goals first | omega | (simp; first | done | omega)), beg_of hbx hv3, by omega, by omega, by focus ((with_reducible repeat first | apply bq0 | apply bq1 | apply bq2 | apply bq3 | apply bq4 | apply bqT hb3); all_goals first | omega | (simp; first | done | omega) | (have := hb3.size; (try simp at this); first | omega | (simp; omega)))⟩
          case rest =>
            obtain ⟨gM, gD, dD, cs, rfl, hM, hD, hbeg, hgD, hgM, hBW⟩ := hcut
            generalize wc = W6 at *
            clear hP
            have hP := HP.out.below hBW hlP
            have nMD : gM ≠ gD := box_ne hM hD (by decide)
            go_upto_region 12 with fail
            go_cut [] (fun wx => Box wx gM 53 #[.slice (some ⟨gD, 0, none⟩) C.length dD, .int .i64 q1, .int .i64 q2, .int .i64 l0, .int .i64 l1, .int .i64 l2] ∧ Box wx gD 69 cs ∧ Below W5.heap.size W5 wx)
            case first =>
              (have c00 := hP.cell 0; have c01 := hP.cell 1; have c02 := hP.cell 2; have c03 := hP.cell 3; have c04 := hP.cell 4; have c05 := hP.cell 5; simp at c00 c01 c02 c03 c04 c05; have hl0 := hP.lt)
              have v1 : IntKind.i64.wrap (fn + 1) = fn + 1 := IntWalk.i64_in _ (by omega)
              have hlM := hM.lt; have hlD := hD.lt
              go_wp2_with (first | (go_at_call 32; (with_reducible refine (LOc.out _).mono ?_); rintro e w3 ⟨rfl, hb3⟩; have hz3 : W6.heap.size ≤ w3.heap.size := (by have := hb3.size; (try simp at this); omega); have yM : Box w3 gM 53 #[.slice (some ⟨gD, 0, none⟩) C.length dD, .int .i64 fn, .int .i64 fd, .int .i64 l0, .int .i64 l1, .int .i64 l2] := (by focus (apply bx0; (with_reducible repeat first | assumption | apply bx1 | (apply bx2; focus (simp; done)) | apply bx3 | apply bx4 | apply bx5 | apply bx6 | apply bx7 | apply bxB (zqb := hb3)); all_goals first | omega | (simp; first | done | omega) | (have := hb3.size; (try simp at this); first | omega | (simp; omega)))); have r0 := yM.cell 0; have r1 := yM.cell 1; have r2 := yM.cell 2; have r3 := yM.cell 3; have r4 := yM.cell 4; have r5 := yM.cell 5; have fM := yM.froz; have lM := yM.lt; (simp at r0 r1 r2 r3 r4 r5)) | fail)
              go_meet
              exact ⟨by focus (apply bx0; (with_reducible repeat first | assumption | apply bx1 | (apply bx2; focus (simp; done)) | apply bx3 | apply bx4 | apply bx5 | apply bx6 | apply bx7 | apply bxB (zqb := hb3)); all_goals first | omega | (simp; first | done | omega) | (have := hb3.size; (try simp at this); first | omega | (simp; omega))), by focus (apply bx0; (with_reducible repeat first | assumption | apply bx1 | (apply bx2; focus (simp; done)) | apply bx3 | apply bx4 | apply bx5 | apply bx6 | apply bx7 | apply bxB (zqb := hb3)); all_goals first | omega | (simp; first | done | omega) | (have := hb3.size; (try simp at this); first | omega | (simp; omega))), by focus ((with_reducible repeat first | apply bq0 | apply bq1 | apply bq2 | apply bq3 | apply bq4 | apply bqT hb3 | apply bqT hBW); all_goals first | omega | (simp; first | done | omega) | (have := And.intro hb3.size hBW.size; (try simp at this); first | omega | (simp; omega)))⟩
            case rest =>
              clear hM hD hBW hP
              obtain ⟨hM, hD, hBW⟩ := hcut
              generalize wc = W7 at *
              clear LOc
              go_wp2
              go_loopw [10] (fun i wr => ∃ (k : Nat) (cs : Array Value), k ≤ C.length ∧ i = .int .i64 k ∧ Box wr gM 53 #[.slice (some ⟨gD, 0, none⟩) C.length dD, .int .i64 q1, .int .i64 q2, .int .i64 l0, .int .i64 l1, .int .i64 l2] ∧ Box wr gD 69 cs ∧ Hid (Beg cs ((upK C k).flatMap ctV)) ∧ Below W5.heap.size W5 wr) (fun i _ => C.length - (intOf i).toNat)
              case atStart => exact ⟨0, cs, Nat.zero_le _, rfl, hM, hD, hbeg.out, hBW⟩
              case round =>
                obtain ⟨k, cs', hk, rfl, hM2, hD2, hbeg2, hBW2⟩ := hrel
                clear hM hD hBW hbeg
                have hP := HP.out.below hBW2 hlP
                have lM := hM2.lt; have lD := hD2.lt; have lP := hP.lt
                have m0 := hM2.cell 0; have c00 := hP.cell 0
                have fD := hD2.froz
                simp at m0 c00
                by_cases hlt : k < C.length
                · have CC := Lib.hid (List.getElem?_eq_getElem hlt)
                  obtain ⟨bC, oC, rfl, hbC, _, _, _, _, k4⟩ := ct_cells ((HS.out.below hB).below hBW2) (List.getElem?_eq_getElem hlt)
                  have hco := hct.out _ (List.getElem_mem hlt)
                  generalize C[k] = ct at *
                  obtain ⟨⟨px, py⟩, ⟨nx, ny⟩, m⟩ := ct
                  obtain ⟨_, _, _, _, hm⟩ := hco
                  dsimp only at k4 hm
                  obtain ⟨hm1, hm2⟩ := hm
                  have KD : ∃ u, wr.cell? ⟨gD, k * 5 + 4, none⟩ = some u := by
                    have hl : k * 5 + 4 < ((upK C k).flatMap ctV).length := by rw [flatK_len (enc := ctV) (k := 5) (fun _ => rfl)]; simp [upK]; omega
                    exact ⟨_, by rw [hD2.cell]; exact hbeg2.out _ _ (List.getElem?_eq_getElem hl)⟩
                  obtain ⟨u4, KD⟩ := KD
                  have SET := Lib.hid (upK_set CC.out)
                  have v1 : IntKind.i64.wrap (m + 1) = m + 1 := IntWalk.i64_in _ (by omega)
                  have i1 : (k : Int) < (C.length : Int) := by omega
                  clear CC
                  go_wp2
                  (refine region_open (by kernel_rfl) (fun R hR => ?_); refine lateR (S := (fun w' => Below wr.heap.size wr w')) 13 ?_ (fun hHeld => ?_); (focus ((try dsimp only); ((focus ((with_reducible repeat first | apply bq0 | apply bq1 | apply bq2 | apply bq3 | apply bq4); all_goals first | omega | (simp; first | done | omega)))))); refine wpAnyL_pure (i := 0) (v := ?_) rfl (by kernel_rfl) (by kernel_rfl) (by kernel_rfl) (by kernel_rfl) (fun _ _ _ h => nomatch h.1) (.inl ⟨by kernel_rfl, fun w' _ => ?_⟩) (by first | exact (fun _ => hHeld) | exact late_absurd (by kernel_rfl)) ?_; rotate_left; (focus (go_simp; (try with_reducible rfl))); (try simp only [Act.put, pq1, pq2, pq3, pq4, pq5, pq6]); refine wpAnyL_take (i := 1) (v := ?_) rfl (by kernel_rfl) (by kernel_rfl) (by kernel_rfl) (by kernel_rfl) (by kernel_rfl) (by kernel_rfl) (fun _ _ _ h => nomatch h.1) (.inl ⟨by kernel_rfl, fun w' hSw => ?_⟩) hHeld ?_; rotate_left; (focus ((try dsimp only at hSw); (have hcc := (bcell hSw).1; have sa0 := (hcc _ 0 lM).trans m0; have sa1 := (hcc _ 0 lP).trans c00; have sa2 := (hcc _ _ hbC).trans k4); go_simp; (try with_reducible rfl))); (try simp only [Act.put, pq1, pq2, pq3, pq4, pq5, pq6]); refine wpAnyL_pure (i := 2) (v := ?_) rfl (by kernel_rfl) (by kernel_rfl) (by kernel_rfl) (by kernel_rfl) (fun _ _ _ h => nomatch h.1) (.inl ⟨by kernel_rfl, fun w' _ => ?_⟩) (by first | exact (fun _ => hHeld) | exact late_absurd (by kernel_rfl)) ?_; rotate_left; (focus (go_simp; (try with_reducible rfl))); (try simp only [Act.put, pq1, pq2, pq3, pq4, pq5, pq6]); refine wpAnyL_pure (i := 3) (v := ?_) rfl (by kernel_rfl) (by kernel_rfl) (by kernel_rfl) (by kernel_rfl) (fun _ _ _ h => nomatch h.1) (.inl ⟨by kernel_rfl, fun w' _ => ?_⟩) (by first | exact (fun _ => hHeld) | exact late_absurd (by kernel_rfl)) ?_; rotate_left; (focus (go_simp; (try with_reducible rfl))); (try simp only [Act.put, pq1, pq2, pq3, pq4, pq5, pq6]); refine wpAnyL_take (i := 4) (v := ?_) rfl (by kernel_rfl) (by kernel_rfl) (by kernel_rfl) (by kernel_rfl) (by kernel_rfl) (by kernel_rfl) (fun _ _ _ h => nomatch h.1) (.inl ⟨by kernel_rfl, fun w' hSw => ?_⟩) hHeld ?_; rotate_left; (focus ((try dsimp only at hSw); (have hcc := (bcell hSw).1; have sa0 := (hcc _ 0 lM).trans m0; have sa1 := (hcc _ 0 lP).trans c00; have sa2 := (hcc _ _ hbC).trans k4); go_simp; (try with_reducible rfl))); (try simp only [Act.put, pq1, pq2, pq3, pq4, pq5, pq6]); refine wpAnyL_pure (i := 5) (v := ?_) rfl (by kernel_rfl) (by kernel_rfl) (by kernel_rfl) (by kernel_rfl) (fun _ _ _ h => nomatch h.1) (.inl ⟨by kernel_rfl, fun w' _ => ?_⟩) (by first | exact (fun _ => hHeld) | exact late_absurd (by kernel_rfl)) ?_; rotate_left; (focus (go_simp; (try with_reducible rfl))); (try simp only [Act.put, pq1, pq2, pq3, pq4, pq5, pq6]); refine wpAnyL_pure (i := 6) (v := ?_) rfl (by kernel_rfl) (by kernel_rfl) (by kernel_rfl) (by kernel_rfl) (fun _ _ _ h => nomatch h.1) (.inl ⟨by kernel_rfl, fun w' _ => ?_⟩) (by first | exact (fun _ => hHeld) | exact late_absurd (by kernel_rfl)) ?_; rotate_left; (focus (go_simp; (try with_reducible rfl))); (try simp only [Act.put, pq1, pq2, pq3, pq4, pq5, pq6]); refine wpAnyL_pure (i := 7) (v := ?_) rfl (by kernel_rfl) (by kernel_rfl) (by kernel_rfl) (by kernel_rfl) (fun _ _ _ h => nomatch h.1) (.inl ⟨by kernel_rfl, fun w' _ => ?_⟩) (by first | exact (fun _ => hHeld) | exact late_absurd (by kernel_rfl)) ?_; rotate_left; (focus (go_simp; (try with_reducible rfl))); (try simp only [Act.put, pq1, pq2, pq3, pq4, pq5, pq6]); refine wpAnyL_take (i := 8) (v := ?_) rfl (by kernel_rfl) (by kernel_rfl) (by kernel_rfl) (by kernel_rfl) (by kernel_rfl) (by kernel_rfl) (fun _ _ _ h => nomatch h.1) (.inl ⟨by kernel_rfl, fun w' hSw => ?_⟩) hHeld ?_; rotate_left; (focus ((try dsimp only at hSw); (have hcc := (bcell hSw).1; have sa0 := (hcc _ 0 lM).trans m0; have sa1 := (hcc _ 0 lP).trans c00; have sa2 := (hcc _ _ hbC).trans k4); go_simp; (try with_reducible rfl))); (try simp only [Act.put, pq1, pq2, pq3, pq4, pq5, pq6]); refine wpAnyL_pure (i := 9) (v := ?_) rfl (by kernel_rfl) (by kernel_rfl) (by kernel_rfl) (by kernel_rfl) (fun _ _ _ h => nomatch h.1) (.inl ⟨by kernel_rfl, fun w' _ => ?_⟩) (by first | exact (fun _ => hHeld) | exact late_absurd (by kernel_rfl)) ?_; rotate_left; (focus (go_simp; (try with_reducible rfl))); (try simp only [Act.put, pq1, pq2, pq3, pq4, pq5, pq6]); refine wpAnyL_pure (i := 10) (v := ?_) rfl (by kernel_rfl) (by kernel_rfl) (by kernel_rfl) (by kernel_rfl) (fun _ _ _ h => nomatch h.1) (.inl ⟨by kernel_rfl, fun w' _ => ?_⟩) (by first | exact (fun _ => hHeld) | exact late_absurd (by kernel_rfl)) ?_; rotate_left; (focus (go_simp; (try with_reducible rfl))); (try simp only [Act.put, pq1, pq2, pq3, pq4, pq5, pq6]); refine wpAnyL_pure (i := 11) (v := ?_) rfl (by kernel_rfl) (by kernel_rfl) (by kernel_rfl) (by kernel_rfl) (fun _ _ _ h => nomatch h.1) (.inl ⟨by kernel_rfl, fun w' _ => ?_⟩) (by first | exact (fun _ => hHeld) | exact late_absurd (by kernel_rfl)) ?_; rotate_left; (focus (go_simp; (try with_reducible rfl))); (try simp only [Act.put, pq1, pq2, pq3, pq4, pq5, pq6]); refine wpAnyL_pure (i := 12) (v := ?_) rfl (by kernel_rfl) (by kernel_rfl) (by kernel_rfl) (by kernel_rfl) (fun _ _ _ h => nomatch h.1) (.inl ⟨by kernel_rfl, fun w' _ => ?_⟩) (by first | exact (fun _ => hHeld) | exact late_absurd (by kernel_rfl)) ?_; rotate_left; (focus (go_simp; (try with_reducible rfl))); (try simp only [Act.put, pq1, pq2, pq3, pq4, pq5, pq6]); refine wpAnyL_ready (rs := [13]) (by kernel_rfl) (by simp) ?_; refine AllReadyL.late rfl (by kernel_rfl) (fun K hK => ?_) AllReadyL.nil; go_simp; (skip); go_simp; refine hK.out _ _ ?_ (fun hHeld => ?_); (focus (exact trivial)); clear hK K; (try simp only [Act.put, pq1, pq2, pq3, pq4, pq5, pq6]); refine wpAnyL_done (Q := fun e a w => e = Exit.normal ∧ R a w) (by kernel_rfl) ⟨rfl, hR _ _ ?_⟩ _; clear hR R)
                  go_wp2
                  go_roundw
                  case rel =>
                    refine ⟨k + 1, cs'.setIfInBounds (k * 5 + 4) (.int .i64 (min 6 (m + 1))), by omega, by go_num, by focus (apply bx0; (with_reducible repeat first | assumption | apply bx1 | (apply bx2; focus (simp; done)) | apply bx3 | apply bx4 | apply bx5 | apply bx6 | apply bx7); all_goals first | omega | (simp; first | done | omega)), by focus (apply bx0; (with_reducible repeat first | assumption | apply bx1 | (apply bx2; focus (simp; done)) | apply bx3 | apply bx4 | apply bx5 | apply bx6 | apply bx7); all_goals first | omega | (simp; first | done | omega)), ?_, by focus ((with_reducible repeat first | apply bq0 | apply bq1 | apply bq2 | apply bq3 | apply bq4 | apply bqT hBW2); all_goals first | omega | (simp; first | done | omega) | (have := hBW2.size; (try simp at this); first | omega | (simp; omega)))⟩
                    unfold Hid
                    rw [SET.out]
                    exact hbeg2.out.set _ _
                  case measure => simp [intOf]; omega
                · obtain rfl : k = C.length := by omega
                  have hv := hbeg2.out
                  rw [upK_all] at hv
                  have hvM := hv.slv hD2
                  have HVM := Lib.hid hvM
                  have KLc := Lib.hid (fun D d D' d' W (h : SlV W D (C.flatMap ctV)) (h' : SlV W D' (L.flatMap ceV)) => show Calls Tryz.prog 23 #[.agg #[.slice D C.length d, .int .i64 fn, .int .i64 fd, .int .i64 l0, .int .i64 l1, .int .i64 l2], .slice D' L.length d'] W (fun e w' => e = .returned (.tuple #[.int .i64 0, .int .i64 0]) ∧ Below W.heap.size W w') from by
                    have := checkHold_c C L D D' d d' fn fd l0 l1 l2 W (by omega) (by omega) h h' h1 h2
                    rw [HK1.out] at this
                    exact this)
                  have MOc := Lib.hid (fun D' d' W (h : SlV W (some ⟨gD, 0, none⟩) ((C.map upC).flatMap ctV)) (h' : SlV W D' (L.flatMap ceV)) => show Calls Tryz.prog 23 #[.agg #[.slice (some ⟨gD, 0, none⟩) C.length dD, .int .i64 q1, .int .i64 q2, .int .i64 l0, .int .i64 l1, .int .i64 l2], .slice D' L.length d'] W (fun e w' => e = .returned (.tuple #[.int .i64 0, .int .i64 0]) ∧ Below W.heap.size W w') from by
                    have := checkHold_c (C.map upC) L (some ⟨gD, 0, none⟩) D' dD d' q1 q2 l0 l1 l2 W (by simp; omega) (by omega) h h' (by omega) (by omega)
                    rw [List.length_map, ← HMo.out, HK2.out] at this
                    exact this)
                  have CLc := Lib.hid (fun W (h : Below W5.heap.size W5 W) => copyPairs_c L A5 c5 W (by omega) (H5.out.below h))
                  clear hv hvM hbeg2 HK1 HK2 HMo fD
                  generalize wr = W8 at *
                  have hz8 := hBW2.size
                  have c0 := hP.cell 0; have c1 := hP.cell 1; have c2 := hP.cell 2; have c3 := hP.cell 3; have c4 := hP.cell 4; have c5 := hP.cell 5
                  simp at c0 c1 c2 c3 c4 c5
                  go_upto_region 18 with (first | (go_at_call 24; (with_reducible refine (CHc.out _ ?_).mono ?_); rotate_left; rintro e w3 hC3; obtain ⟨D3, d3, rfl, hv3, hb3⟩ := hC3; have hz3 : W8.heap.size ≤ w3.heap.size := (by have := hb3.size; (try simp at this); omega); rotate_left; (focus (focus ((with_reducible repeat first | apply bq0 | apply bq1 | apply bq2 | apply bq3 | apply bq4 | apply bqT hBW2 | apply bqT hB); all_goals first | omega | (simp; first | done | omega) | (have := And.intro hBW2.size hB.size; (try simp at this); first | omega | (simp; omega)))))) | (go_at_call 25; (with_reducible refine (CLc.out _ ?_).mono ?_); rotate_left; rintro e w4 hC4; obtain ⟨D4, d4, rfl, hv4, hb4⟩ := hC4; have hz4 : w3.heap.size ≤ w4.heap.size := (by have := hb4.size; (try simp at this); omega); rotate_left; (focus (focus ((with_reducible repeat first | apply bq0 | apply bq1 | apply bq2 | apply bq3 | apply bq4 | apply bqT hb3 | apply bqT hBW2); all_goals first | omega | (simp; first | done | omega) | (have := And.intro hb3.size hBW2.size; (try simp at this); first | omega | (simp; omega)))))) | (go_at_call 23; (with_reducible refine (KLc.out D3 d3 D4 d4 _ ?_ hv4).mono ?_); rotate_left; rintro e w6 ⟨rfl, hb6⟩; have hz6 : w4.heap.size ≤ w6.heap.size := (by have := hb6.size; (try simp at this); omega); rotate_left; (focus (exact hv3.below (by focus ((with_reducible repeat first | apply bq0 | apply bq1 | apply bq2 | apply bq3 | apply bq4 | apply bqT hb4); all_goals first | omega | (simp; first | done | omega) | (have := hb4.size; (try simp at this); first | omega | (simp; omega))))))) | fail)
                  have hM6 : Box w6 gM 53 #[.slice (some ⟨gD, 0, none⟩) C.length dD, .int .i64 q1, .int .i64 q2, .int .i64 l0, .int .i64 l1, .int .i64 l2] := by focus (apply bx0; (with_reducible repeat first | assumption | apply bx1 | (apply bx2; focus (simp; done)) | apply bx3 | apply bx4 | apply bx5 | apply bx6 | apply bx7 | apply bxB (zqb := hb3) | apply bxB (zqb := hb4) | apply bxB (zqb := hb6)); all_goals first | omega | (simp; first | done | omega) | (have := And.intro hb3.size (And.intro hb4.size hb6.size); (try simp at this); first | omega | (simp; omega)))
                  have lM6 := hM6.lt
                  (refine region_open (by kernel_rfl) (fun R hR => ?_); refine heldR (S := (fun w' => Box w' gM 53 #[.slice (some ⟨gD, 0, none⟩) C.length dD, .int .i64 q1, .int .i64 q2, .int .i64 l0, .int .i64 l1, .int .i64 l2])) ?_ (fun hHeld => ?_); (focus ((try dsimp only); ((focus (apply bx0; (with_reducible repeat first | assumption | apply bx1 | (apply bx2; focus (simp; done)) | apply bx3 | apply bx4 | apply bx5 | apply bx6 | apply bx7 | apply bxB (zqb := hb7) | apply bxB (zqb := hb8)); all_goals first | omega | (simp; first | done | omega) | (have := And.intro hb7.size hb8.size; (try simp at this); first | omega | (simp; omega))))))); refine tkH (i := 0) (v := ?_) rfl (fun w' hSw => ?_) (by assumption) ?_; rotate_left; (focus ((try dsimp only at hSw); (have sa0 := hSw.cell 0; have sa1 := hSw.cell 1; have sa2 := hSw.cell 2; have sa3 := hSw.cell 3; have sa4 := hSw.cell 4; have sa5 := hSw.cell 5; (simp at sa0 sa1 sa2 sa3 sa4 sa5)); go_simp; (try with_reducible rfl))); (try simp only [Act.put, pq1, pq2, pq3, pq4, pq5, pq6]); refine tkH (i := 1) (v := ?_) rfl (fun w' hSw => ?_) (by assumption) ?_; rotate_left; (focus ((try dsimp only at hSw); go_simp; (try with_reducible rfl))); (try simp only [Act.put, pq1, pq2, pq3, pq4, pq5, pq6]); refine wpAnyH_ready (rs := [2]) (by kernel_rfl) (by simp) ?_; refine AllReadyH.cons rfl (fun K hK => ?_) AllReadyH.nil; go_simp; ((go_at_call 25; (with_reducible refine (CLc.out _ ?_).mono ?_); rotate_left; rintro e w7 hC7; obtain ⟨D7, d7, rfl, hv7, hb7⟩ := hC7; have hz7 : w6.heap.size ≤ w7.heap.size := (by have := hb7.size; (try simp at this); omega); rotate_left; (focus (focus ((with_reducible repeat first | apply bq0 | apply bq1 | apply bq2 | apply bq3 | apply bq4 | apply bqT hb3 | apply bqT hb4 | apply bqT hb6 | apply bqT hBW2); all_goals first | omega | (simp; first | done | omega) | (have := And.intro hb3.size (And.intro hb4.size (And.intro hb6.size hBW2.size)); (try simp at this); first | omega | (simp; omega))))))); go_simp; refine hK.out _ _ ?_ (fun hHeld => ?_); (focus ((try dsimp only); ((focus (apply bx0; (with_reducible repeat first | assumption | apply bx1 | (apply bx2; focus (simp; done)) | apply bx3 | apply bx4 | apply bx5 | apply bx6 | apply bx7 | apply bxB (zqb := hb7) | apply bxB (zqb := hb8)); all_goals first | omega | (simp; first | done | omega) | (have := And.intro hb7.size hb8.size; (try simp at this); first | omega | (simp; omega))))))); clear hK K; (try simp only [Act.put, pq1, pq2, pq3, pq4, pq5, pq6]); refine wpAnyH_ready (rs := [3]) (by kernel_rfl) (by simp) ?_; refine AllReadyH.cons rfl (fun K hK => ?_) AllReadyH.nil; go_simp; ((go_at_call 23; (with_reducible refine (MOc.out D7 d7 _ ?_ hv7).mono ?_); rotate_left; rintro e w8 ⟨rfl, hb8⟩; rotate_left; (focus (exact HVM.out.below (by focus ((with_reducible repeat first | apply bq0 | apply bq1 | apply bq2 | apply bq3 | apply bq4 | apply bqT hb3 | apply bqT hb4 | apply bqT hb6 | apply bqT hb7); all_goals first | omega | (simp; first | done | omega) | (have := And.intro hb3.size (And.intro hb4.size (And.intro hb6.size hb7.size)); (try simp at this); first | omega | (simp; omega)))))))); go_simp; refine hK.out _ _ ?_ (fun hHeld => ?_); (focus ((try dsimp only); ((focus (apply bx0; (with_reducible repeat first | assumption | apply bx1 | (apply bx2; focus (simp; done)) | apply bx3 | apply bx4 | apply bx5 | apply bx6 | apply bx7 | apply bxB (zqb := hb7) | apply bxB (zqb := hb8)); all_goals first | omega | (simp; first | done | omega) | (have := And.intro hb7.size hb8.size; (try simp at this); first | omega | (simp; omega))))))); clear hK K; (try simp only [Act.put, pq1, pq2, pq3, pq4, pq5, pq6]); refine tkH (i := 4) (v := ?_) rfl (fun w' hSw => ?_) (by assumption) ?_; rotate_left; (focus ((try dsimp only at hSw); go_simp; (try with_reducible rfl))); (try simp only [Act.put, pq1, pq2, pq3, pq4, pq5, pq6]); refine tkH (i := 5) (v := ?_) rfl (fun w' hSw => ?_) (by assumption) ?_; rotate_left; (focus ((try dsimp only at hSw); go_simp; (try with_reducible rfl))); (try simp only [Act.put, pq1, pq2, pq3, pq4, pq5, pq6]); refine tkH (i := 6) (v := ?_) rfl (fun w' hSw => ?_) (by assumption) ?_; rotate_left; (focus ((try dsimp only at hSw); go_simp; (try with_reducible rfl))); (try simp only [Act.put, pq1, pq2, pq3, pq4, pq5, pq6]); refine tkH (i := 7) (v := ?_) rfl (fun w' hSw => ?_) (by assumption) ?_; rotate_left; (focus ((try dsimp only at hSw); go_simp; (try with_reducible rfl))); (try simp only [Act.put, pq1, pq2, pq3, pq4, pq5, pq6]); refine tkH (i := 8) (v := ?_) rfl (fun w' hSw => ?_) (by assumption) ?_; rotate_left; (focus ((try dsimp only at hSw); go_simp; (try with_reducible rfl))); (try simp only [Act.put, pq1, pq2, pq3, pq4, pq5, pq6]); refine wpAnyH_done (Q := fun e a w => e = Exit.normal ∧ R a w) (by kernel_rfl) ⟨rfl, hR _ _ ?_⟩ _; clear hR R)
                  go_wp2
                  go_ret
                  exact ⟨rfl, by focus ((with_reducible repeat first | apply bq0 | apply bq1 | apply bq2 | apply bq3 | apply bq4 | apply bqT hb3 | apply bqT hb4 | apply bqT hb6 | apply bqT hb7 | apply bqT hb8 | apply bqT hBW2 | apply bqT hB); all_goals first | omega | (simp; first | done | omega) | (have := And.intro hb3.size (And.intro hb4.size (And.intro hb6.size (And.intro hb7.size (And.intro hb8.size (And.intro hBW2.size hB.size))))); (try simp at this); first | omega | (simp; omega)))⟩

theorem armHeld_l (C : List Ct) (AC : Option Addr) (cC : Nat) (fn fd l0 l1 l2 : Int) (F : List (Int × Int)) (A : Option Addr) (c : Nat) (w : World) (h1 : -9223372036854775808 ≤ fn ∧ fn ≤ 9223372036854775807) (h2 : -9223372036854775808 ≤ fd ∧ fd ≤ 9223372036854775807) (hs : SlV w AC (C.flatMap ctV)) (_ : C.length ≤ 9223372036854775807) (hsF : SlV w A (F.flatMap ceV)) (_ : F.length ≤ 9223372036854775807) :
    Calls Tryz.prog 5 #[.agg #[.slice AC C.length cC, .int .i64 fn, .int .i64 fd, .int .i64 l0, .int .i64 l1, .int .i64 l2], .slice A F.length c] w fun e w' => e = .returned (.bool true) ∧ Below w.heap.size w w' := by
  by_cases h : 2 < C.length ∨ hdE ⟨C, fn, fd, (l0, l1, l2)⟩ ≠ 0 ∨ 2 < F.length
  · exact armHeld_early C F AC A cC c fn fd l0 l1 l2 w hs h1 h2 h
  · have a1 : ¬ 2 < C.length := fun a => h (.inl a)
    have a2 : hdE ⟨C, fn, fd, (l0, l1, l2)⟩ = 0 := Decidable.byContradiction fun a => h (.inr (.inl a))
    have a3 : ¬ 2 < F.length := fun a => h (.inr (.inr a))
    exact armHeld_in C F AC A cC c fn fd l0 l1 l2 w hs hsF h1 h2 (by omega) a2 (by omega)

end Go.Proofs.YtpnfgmgoafgcbaaGreat

/-
  TravelIn (chapter 6): the travel for commands.
-/
import Derived.Test.YtpnfgmgoafgcbaaRVl
set_option linter.unusedVariables false
namespace Go.Proofs.Ytpnfgmgoafgcbaa
open Go.RowKit Go.Shelf
attribute [local go_sem] Oper.semAt_some
set_option maxHeartbeats 1000000 in
theorem eachInt_c (xs : List Int) (A : Option Addr) (c : Nat) (w : World) (hn : xs.length ≤ 9223372036854775807) (hs : SlI w A xs) :
    Calls Try.prog 27 #[.slice A xs.length c, .func (.func 24) #[] #[]] w fun e w' => e = .returned (.tuple #[.int .i64 (eachE cmE xs).1, .int .i64 (eachE cmE xs).2]) ∧ w = w' := by
  have HS := Lib.hid hs
  have HF := Lib.hid (show eachE cmE xs = eachF cmE 0 (xs.drop 0) from rfl)
  generalize eachE cmE xs = R at *
  clear hs
  go_enter Try.func27, Try.ntmps27
  go_wp2
  go_loop [11] (fun j => ∃ i : Nat, i ≤ xs.length ∧ j = .int .i64 i ∧ Hid (R = eachF cmE i (xs.drop i))) (fun j => xs.length - (intOf j).toNat)
  case atStart => exact ⟨0, Nat.zero_le _, rfl, HF.out⟩
  case round =>
    obtain ⟨i, hi, rfl, hR⟩ := hrel
    clear HF
    by_cases hlt : i < xs.length
    · obtain ⟨b, off, rfl, hb, a0⟩ := HS.out i xs[i] (List.getElem?_eq_getElem hlt)
      have hR2 := hR.out
      rw [List.drop_eq_getElem_cons hlt] at hR2
      have CEc := Lib.hid (fun W => commandErr_c xs[i] W)
      have hE : eachF cmE i (xs[i] :: xs.drop (i + 1)) = if cmE xs[i] = 0 then eachF cmE (i + 1) (xs.drop (i + 1)) else (i, cmE xs[i]) := rfl
      rw [hE] at hR2
      have HR2 := Lib.hid hR2
      clear hR hR2 hE
      generalize cmE xs[i] = ce at *
      have i0 : 0 ≤ (i : Int) := by omega
      have i1 : (i : Int) < (xs.length : Int) := by omega
      by_cases h3 : ce = 0
      · subst h3
        have HR3 := Lib.hid (show R = eachF cmE (i + 1) (xs.drop (i + 1)) from by rw [HR2.out, if_pos rfl])
        clear HR2
        go_wp2_with (first | (go_at_call 24; (with_reducible refine (CEc.out _).mono ?_); rintro e w' ⟨rfl, rfl⟩) | fail)
        go_round
        case rel => exact ⟨i + 1, by omega, by go_num, HR3.out⟩
        case measure => simp [intOf]; omega
      · have x2 := bneT h3
        have hr : R = ((i : Int), ce) := by rw [HR2.out, if_neg h3]
        subst hr
        clear HR2
        go_wp2_with (first | (go_at_call 24; (with_reducible refine (CEc.out _).mono ?_); rintro e w' ⟨rfl, rfl⟩) | fail)
        go_ret2
        exact ⟨rfl, rfl⟩
    · have e : i = xs.length := by omega
      subst e
      have hr : R = (0, 0) := by rw [hR.out, List.drop_length]; rfl
      subst hr
      go_wp2
      go_ret2
      exact ⟨rfl, rfl⟩
/-- What TravelIn answers. -/
def tvO (d g k : Int) (xs : List Int) : (Int × Int) × Int := if cdE d g k xs ≠ 0 then ((0, 0), cdE d g k xs) else (trF d g k xs (0, 0), 0)
set_option maxHeartbeats 4000000 in
set_option maxRecDepth 100000 in
theorem travelIn_c (d g k : Int) (xs : List Int) (A : Option Addr) (c : Nat) (w : World) (hn : xs.length ≤ 100000) (hs : SlI w A xs) :
    Calls Try.prog 6 #[.agg #[.int .i64 d, .int .i64 g, .int .i64 k], .slice A xs.length c] w fun e w' => e = .returned (.tuple #[.agg #[.int .i64 (tvO d g k xs).1.1, .int .i64 (tvO d g k xs).1.2], .int .i64 (tvO d g k xs).2]) ∧ Below w.heap.size w w' := by
  have VEc := Lib.hid (fun W => valveErr_c d g k W)
  have EAc := Lib.hid (fun W (h : Below w.heap.size w W) => eachInt_c xs A c W (by omega) (hs.below h))
  have hlx : decide ((xs.length : Int) ≤ 30) = decide (xs.length ≤ 30) := decide_eq_decide.2 (by omega)
  have HCD := Lib.hid (show cdE d g k xs = if vlE d g k ≠ 0 then vlE d g k else if 30 < xs.length then 8 else (eachE cmE xs).2 from rfl)
  have HO := Lib.hid (show tvO d g k xs = if cdE d g k xs ≠ 0 then ((0, 0), cdE d g k xs) else (trF d g k xs (0, 0), 0) from rfl)
  have HOK := Lib.hid (show cdE d g k xs = 0 → _ from cdE_ok)
  have HS := Lib.hid hs
  have HT := Lib.hid (show trF d g k (xs.drop 0) (0, 0) = trF d g k xs (0, 0) from rfl)
  have HSP := Lib.hid (fun (h : cdE d g k xs = 0) (n : Int) (hnx : n ∈ xs) W => speed_c d g k n W (cdE_ok h).1.1 (cdE_ok h).1.2.1 (cdE_ok h).1.2.2 ((cdE_ok h).2.2 n hnx))
  have HSB := Lib.hid (fun (h : cdE d g k xs = 0) (n : Int) (hnx : n ∈ xs) => sp_bd (cdE_ok h).1.1 (cdE_ok h).1.2.1 (cdE_ok h).1.2.2 ((cdE_ok h).2.2 n hnx))
  clear hs
  generalize tvO d g k xs = R at *
  generalize trF d g k xs (0, 0) = T at *
  generalize cdE d g k xs = ce at *
  generalize vlE d g k = ve at *
  generalize eachE cmE xs = E at *
  obtain ⟨E1, E2⟩ := E
  obtain ⟨⟨R1, R2⟩, R3⟩ := R
  dsimp only at EAc HO HCD ⊢
  by_cases h1 : ve = 0
  case neg =>
    have hce : ce = ve := by rw [HCD.out, if_pos h1]
    subst hce
    have hR := HO.out
    rw [if_pos h1] at hR
    obtain ⟨⟨rfl, rfl⟩, rfl⟩ : (R1 = 0 ∧ R2 = 0) ∧ R3 = ce := by simpa using hR
    have x1 := beqF h1
    have x2 := bneT h1
    have hf : ∀ u, fstE [R3, u] = R3 := fun u => by simp [fstE, h1]
    clear HO HCD HOK HSP HSB HT HS hR h1 EAc
    go_enter Try.func6, Try.ntmps6
    go_wp2_with (first | (go_at_call 23; (with_reducible refine (VEc.out _).mono ?_); rintro e w2 ⟨rfl, hb2⟩; have hz2 : w.heap.size + 1 < w2.heap.size := (by have := hb2.size; (try simp at this); omega); have z3 : Box w2 (w.heap.size + 1) 27 #[.int .i64 0, .int .i64 0] := (by exact bX1 hb2); have z2 : Box w2 w.heap.size 23 #[.int .i64 d, .int .i64 g, .int .i64 k] := (by exact bX1 hb2); have m0 := z2.cell 0; have m1 := z2.cell 1; have m2 := z2.cell 2; have b0 := z3.cell 0; have b1 := z3.cell 1; have b4 := z3.froz; (simp at m0 m1 m2 b0 b1); have hl2 := z2.lt; have hl3 := z3.lt) | (go_at_call 26; (with_reducible refine (unless_c _ _ _).mono ?_); rintro e w' ⟨rfl, rfl⟩) | (go_at_call 22; (with_reducible refine (first2a _ _ _ _ _ (by simp)).mono ?_); rintro e w' ⟨rfl, rfl⟩) | (go_at_call 22; (with_reducible refine (first2d _ _ _ _ _ (by simp)).mono ?_); rintro e w' ⟨rfl, rfl⟩) | fail)
    refine bodyPost_ret (res_ca rfl rfl (show Box _ _ 27 #[.int .i64 0, .int .i64 0] from ?hE) Try.underlying27 rfl tr_size) rfl ⟨rfl, ?hB⟩
    case hE => exact bX1 hb2
    case hB => exact bB1 hb2
  subst h1
  have hce : ce = if 30 < xs.length then 8 else E2 := by rw [HCD.out, if_neg (by simp)]
  clear HCD
  by_cases h2 : 30 < xs.length
  · rw [if_pos h2] at hce
    subst hce
    have hR := HO.out
    rw [if_pos (by decide)] at hR
    obtain ⟨⟨rfl, rfl⟩, rfl⟩ : (R1 = 0 ∧ R2 = 0) ∧ R3 = 8 := by simpa using hR
    have hle : decide ((xs.length : Int) ≤ 30) = false := decide_eq_false (by omega)
    have hf : fstE [0, unl false 8] = 8 := rfl
    clear HO HOK HSP HSB HT HS hR EAc hlx
    go_enter Try.func6, Try.ntmps6
    go_wp2_with (first | (go_at_call 23; (with_reducible refine (VEc.out _).mono ?_); rintro e w2 ⟨rfl, hb2⟩; have hz2 : w.heap.size + 1 < w2.heap.size := (by have := hb2.size; (try simp at this); omega); have z3 : Box w2 (w.heap.size + 1) 27 #[.int .i64 0, .int .i64 0] := (by exact bX1 hb2); have z2 : Box w2 w.heap.size 23 #[.int .i64 d, .int .i64 g, .int .i64 k] := (by exact bX1 hb2); have m0 := z2.cell 0; have m1 := z2.cell 1; have m2 := z2.cell 2; have b0 := z3.cell 0; have b1 := z3.cell 1; have b4 := z3.froz; (simp at m0 m1 m2 b0 b1); have hl2 := z2.lt; have hl3 := z3.lt) | (go_at_call 26; (with_reducible refine (unless_c _ _ _).mono ?_); rintro e w' ⟨rfl, rfl⟩) | (go_at_call 22; (with_reducible refine (first2a _ _ _ _ _ (by simp)).mono ?_); rintro e w' ⟨rfl, rfl⟩) | (go_at_call 22; (with_reducible refine (first2d _ _ _ _ _ (by simp)).mono ?_); rintro e w' ⟨rfl, rfl⟩) | fail)
    refine bodyPost_ret (res_ca rfl rfl (show Box _ _ 27 #[.int .i64 0, .int .i64 0] from ?hE) Try.underlying27 rfl tr_size) rfl ⟨rfl, ?hB⟩
    case hE => exact bX1 hb2
    case hB => exact bB1 hb2
  rw [if_neg h2] at hce
  subst hce
  have hle : decide ((xs.length : Int) ≤ 30) = true := decide_eq_true (by omega)
  have hf : fstE [0, unl true 8] = 0 := rfl
  by_cases h3 : ce = 0
  case neg =>
    have hR := HO.out
    rw [if_pos h3] at hR
    obtain ⟨⟨rfl, rfl⟩, rfl⟩ : (R1 = 0 ∧ R2 = 0) ∧ R3 = ce := by simpa using hR
    have x2 := bneT h3
    clear HO HOK HSP HSB HT HS hR h3 hlx
    go_enter Try.func6, Try.ntmps6
    go_wp2_with (first | (go_at_call 23; (with_reducible refine (VEc.out _).mono ?_); rintro e w2 ⟨rfl, hb2⟩; have hz2 : w.heap.size + 1 < w2.heap.size := (by have := hb2.size; (try simp at this); omega); have z3 : Box w2 (w.heap.size + 1) 27 #[.int .i64 0, .int .i64 0] := (by exact bX1 hb2); have z2 : Box w2 w.heap.size 23 #[.int .i64 d, .int .i64 g, .int .i64 k] := (by exact bX1 hb2); have m0 := z2.cell 0; have m1 := z2.cell 1; have m2 := z2.cell 2; have b0 := z3.cell 0; have b1 := z3.cell 1; have b4 := z3.froz; (simp at m0 m1 m2 b0 b1); have hl2 := z2.lt; have hl3 := z3.lt) | (go_at_call 26; (with_reducible refine (unless_c _ _ _).mono ?_); rintro e w' ⟨rfl, rfl⟩) | (go_at_call 22; (with_reducible refine (first2a _ _ _ _ _ (by simp)).mono ?_); rintro e w' ⟨rfl, rfl⟩) | (go_at_call 22; (with_reducible refine (first2d _ _ _ _ _ (by simp)).mono ?_); rintro e w' ⟨rfl, rfl⟩) | (go_at_call 27; (with_reducible refine (EAc.out _ (by exact bB1 hb2)).mono ?_); rintro e w' ⟨rfl, rfl⟩) | fail)
    refine bodyPost_ret (res_ca rfl rfl (show Box _ _ 27 #[.int .i64 0, .int .i64 0] from ?hE) Try.underlying27 rfl tr_size) rfl ⟨rfl, ?hB⟩
    case hE => exact bX1 hb2
    case hB => exact bB1 hb2
  subst h3
  have hR := HO.out
  rw [if_neg (by simp)] at hR
  obtain ⟨T1, T2⟩ := T
  obtain ⟨⟨rfl, rfl⟩, rfl⟩ : (R1 = T1 ∧ R2 = T2) ∧ R3 = 0 := by simpa using hR
  have SPd := Lib.hid (fun n hn W => HSP.out rfl n hn W)
  have SBd := Lib.hid (fun n hn => HSB.out rfl n hn)
  clear HO HOK HSP HSB hR hlx
  go_enter Try.func6, Try.ntmps6
  go_wp2_with (first | (go_at_call 23; (with_reducible refine (VEc.out _).mono ?_); rintro e w2 ⟨rfl, hb2⟩; have hz2 : w.heap.size + 1 < w2.heap.size := (by have := hb2.size; (try simp at this); omega); have z3 : Box w2 (w.heap.size + 1) 27 #[.int .i64 0, .int .i64 0] := (by exact bX1 hb2); have z2 : Box w2 w.heap.size 23 #[.int .i64 d, .int .i64 g, .int .i64 k] := (by exact bX1 hb2); have m0 := z2.cell 0; have m1 := z2.cell 1; have m2 := z2.cell 2; have b0 := z3.cell 0; have b1 := z3.cell 1; have b4 := z3.froz; (simp at m0 m1 m2 b0 b1); have hl2 := z2.lt; have hl3 := z3.lt) | (go_at_call 26; (with_reducible refine (unless_c _ _ _).mono ?_); rintro e w' ⟨rfl, rfl⟩) | (go_at_call 22; (with_reducible refine (first2a _ _ _ _ _ (by simp)).mono ?_); rintro e w' ⟨rfl, rfl⟩) | (go_at_call 22; (with_reducible refine (first2d _ _ _ _ _ (by simp)).mono ?_); rintro e w' ⟨rfl, rfl⟩) | (go_at_call 27; (with_reducible refine (EAc.out _ (by exact bB1 hb2)).mono ?_); rintro e w' ⟨rfl, rfl⟩) | fail)
  have hV : Box ((w2.alloc (.cells #[.int .i64 0, .int .i64 (unl true 8)] 28)).alloc (.cells #[.int .i64 0, .int .i64 0] 27)) w.heap.size 23 #[.int .i64 d, .int .i64 g, .int .i64 k] := by exact bX1 hb2
  have hZ : Box ((w2.alloc (.cells #[.int .i64 0, .int .i64 (unl true 8)] 28)).alloc (.cells #[.int .i64 0, .int .i64 0] 27)) (w.heap.size + 1) 27 #[.int .i64 0, .int .i64 0] := by exact bX1 hb2
  have hG : Box ((w2.alloc (.cells #[.int .i64 0, .int .i64 (unl true 8)] 28)).alloc (.cells #[.int .i64 0, .int .i64 0] 27)) (w2.heap.size + 1) 27 #[.int .i64 0, .int .i64 0] := by exact bX0
  have hB0 : Below w.heap.size w ((w2.alloc (.cells #[.int .i64 0, .int .i64 (unl true 8)] 28)).alloc (.cells #[.int .i64 0, .int .i64 0] 27)) := by exact bB1 hb2
  have hgS : w.heap.size + 2 ≤ w2.heap.size + 1 := by omega
  clear z3 z2 m0 m1 m2 b0 b1 b4 hl2 hl3 hb2 VEc EAc hz2
  generalize ((w2.alloc (.cells #[.int .i64 0, .int .i64 (unl true 8)] 28)).alloc (.cells #[.int .i64 0, .int .i64 0] 27)) = W5 at *
  generalize w2.heap.size + 1 = gS at *
  go_loopw [32] (fun j wr => ∃ (i : Nat) (a b : Int), j = .int .i64 i ∧ i ≤ xs.length ∧ Hid (trF d g k (xs.drop i) (a, b) = (R1, R2)) ∧ (-200 * (i : Int) ≤ a ∧ a ≤ 200 * i ∧ -200 * (i : Int) ≤ b ∧ b ≤ 200 * i) ∧ Box wr w.heap.size 23 #[.int .i64 d, .int .i64 g, .int .i64 k] ∧ Box wr (w.heap.size + 1) 27 #[.int .i64 0, .int .i64 0] ∧ Box wr gS 27 #[.int .i64 a, .int .i64 b] ∧ Below w.heap.size w wr) (fun j _ => xs.length - (intOf j).toNat)
  case atStart => exact ⟨0, 0, 0, rfl, Nat.zero_le _, HT.out, by omega, hV, hZ, hG, hB0⟩
  case round =>
    clear hV hZ hG hB0 HT
    obtain ⟨i, a, b, rfl, hi, hR, hab, hV, hZ, hG, hB⟩ := hrel
    have lV := hV.lt; have lZ := hZ.lt; have lS := hG.lt
    by_cases hlt : i < xs.length
    · obtain ⟨bk, off, rfl, hb, a0⟩ := (HS.out.below hB) i xs[i] (List.getElem?_eq_getElem hlt)
      have hxi := List.getElem_mem hlt
      have SPc := Lib.hid (SPd.out _ hxi)
      have hbd := SBd.out _ hxi
      have hR2 := hR.out
      rw [List.drop_eq_getElem_cons hlt] at hR2
      have hE : trF d g k (xs[i] :: xs.drop (i + 1)) (a, b) = trF d g k (xs.drop (i + 1)) (a + spL d g k xs[i], b + spH d g k xs[i]) := rfl
      rw [hE] at hR2
      have HR2 := Lib.hid hR2
      clear hR hR2 hE hxi
      generalize spL d g k xs[i] = lo at *
      generalize spH d g k xs[i] = hi' at *
      generalize xs[i] = n at *
      obtain ⟨⟨b1, b2⟩, b3, b4⟩ := hbd
      obtain ⟨c1, c2, c3, c4⟩ := hab
      have i0 : 0 ≤ (i : Int) := by omega
      have i1 : (i : Int) < (xs.length : Int) := by omega
      have q0 := hV.cell 0; have q1 := hV.cell 1; have q2 := hV.cell 2
      simp at q0 q1 q2
      have v1 : IntKind.i64.wrap (a + lo) = a + lo := IntWalk.i64_in _ (by omega)
      have v2 : IntKind.i64.wrap (b + hi') = b + hi' := IntWalk.i64_in _ (by omega)
      go_wp2_with (first | (go_at_call 25; (with_reducible refine (SPc.out _).mono ?_); rintro e w5 ⟨rfl, hb5⟩; have hz5 : wr.heap.size ≤ w5.heap.size := (by have := hb5.size; (try simp at this); omega); have y3 : Box w5 gS 27 #[.int .i64 a, .int .i64 b] := (by exact bX1 hb5); have d0 := y3.cell 0; have d1 := y3.cell 1; have d4 := y3.froz; (simp at d0 d1); have hl5 := y3.lt) | fail)
      go_roundw
      case rel => exact ⟨i + 1, a + lo, b + hi', by go_num, by omega, HR2.out, by omega, by exact bX1 hb5, by exact bX1 hb5, by exact bX1 hb5, by exact bB2 hb5 hB⟩
      case measure => simp [intOf]; omega
    · have e : i = xs.length := by omega
      subst e
      have hr : R1 = a ∧ R2 = b := by
        have h1 := hR.out
        rw [List.drop_length] at h1
        have h2 : (a, b) = (R1, R2) := h1
        cases h2
        exact ⟨rfl, rfl⟩
      obtain ⟨rfl, rfl⟩ := hr
      have r0 := hG.cell 0; have r1 := hG.cell 1; have z0 := hZ.cell 0; have z1 := hZ.cell 1; have fz := hZ.froz
      simp at r0 r1 z0 z1
      go_wp2
      refine bodyPost_ret (res_ca rfl rfl (show Box _ _ 27 #[.int .i64 R1, .int .i64 R2] from ?hE) Try.underlying27 rfl tr_size) rfl ⟨rfl, ?hB⟩
      case hE => exact bX0
      case hB => exact bB1 hB
end Go.Proofs.Ytpnfgmgoafgcbaa

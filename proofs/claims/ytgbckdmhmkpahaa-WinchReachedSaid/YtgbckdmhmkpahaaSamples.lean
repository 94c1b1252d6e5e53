/-
  The walks of the program's samples (chapter 2): CheckSamples and what it calls; divisor.
-/
import Derived.Test.YtgbckdmhmkpahaaBase
set_option linter.unusedVariables false
namespace Go.Proofs.Ytgbckdmhmkpahaa
open Go.RowKit Go.Shelf

set_option maxHeartbeats 400000 in
/-- slices.IndexFunc at []int: the first index at which a predicate that only reckons holds. -/
theorem indexFunc_c (g : Nat) (p : Int → Bool) (hg : ∀ args w, (callFunc g args).run Try.prog w = .ok (.enter g args) w)
    (hp : ∀ x w, Calls Try.prog g #[.int .i64 x] w fun e w' => e = .returned (.bool (p x)) ∧ w = w')
    (xs : List Int) (A : Option Addr) (c : Nat) (w : World) (hn : xs.length ≤ 9223372036854775807) (hs : SlI w A xs) :
    Calls Try.prog 98 #[.slice A xs.length c, .func (.func g) #[] #[]] w fun e w' => e = .returned (.int .i64 (findI p xs)) ∧ w = w' := by
  go_enter Try.func98, Try.ntmps98
  go_wp2
  go_loop [8] (fun i => ∃ k : Nat, k ≤ xs.length ∧ i = .int .i64 k ∧ Hid (findI p xs = findFrom p k (xs.drop k))) (fun i => xs.length - (intOf i).toNat)
  case atStart => exact ⟨0, Nat.zero_le _, rfl, rfl⟩
  case round =>
    obtain ⟨k, hk, rfl, hf⟩ := hrel
    by_cases hlt : k < xs.length
    · obtain ⟨b, off, rfl, hb, hc⟩ := hs k xs[k] (List.getElem?_eq_getElem hlt)
      cases hz : p xs[k]
      · have HZ := Lib.hid hz
        have hc1 : ∀ w, Calls Try.prog g #[.int .i64 xs[k]] w fun e w' => e = .returned (.bool false) ∧ w = w' := fun w => (hp xs[k] w).mono fun _ _ h => by rw [hz] at h; exact h
        clear hz
        have HC := Lib.hid hc1
        clear hc1 hp
        go_wp2_with (go_at_fn g; refine (HC.out _).mono ?_; rintro e w' ⟨rfl, rfl⟩)
        go_round
        case rel => exact ⟨k + 1, by omega, by go_num, by unfold Hid; rw [hf.out, List.drop_eq_getElem_cons hlt, findFrom, if_neg (by rw [HZ.out]; simp)]; simp⟩
        case measure => simp [intOf]; omega
      · have HZ := Lib.hid hz
        have hc1 : ∀ w, Calls Try.prog g #[.int .i64 xs[k]] w fun e w' => e = .returned (.bool true) ∧ w = w' := fun w => (hp xs[k] w).mono fun _ _ h => by rw [hz] at h; exact h
        clear hz
        have HC := Lib.hid hc1
        clear hc1 hp
        go_wp2_with (go_at_fn g; refine (HC.out _).mono ?_; rintro e w' ⟨rfl, rfl⟩)
        go_ret
        exact ⟨ret_i (by rw [hf.out, List.drop_eq_getElem_cons hlt, findFrom, if_pos HZ.out]), rfl⟩
    · go_wp2
      go_ret
      exact ⟨ret_i (by rw [hf.out, List.drop_eq_nil_of_le (by omega)]; rfl), rfl⟩


set_option maxHeartbeats 400000 in
theorem checkSamples1_c (n : Int) (w : World) : Calls Try.prog 99 #[.int .i64 n] w fun e w' => e = .returned (.bool (!inB n (-100) 100)) ∧ w = w' := by
  go_enter Try.func99, Try.ntmps99
  go_wp2_with (go_at_call 92; refine (isSized_c _ _ _ (by omega) (by omega)).mono ?_; rintro e w' ⟨rfl, rfl⟩)
  go_ret
  exact ⟨rfl, rfl⟩
set_option maxHeartbeats 400000 in
theorem checkLoop1_c (n : Int) (w : World) : Calls Try.prog 105 #[.int .i64 n] w fun e w' => e = .returned (.bool (!inB n (-10) 10)) ∧ w = w' := by
  go_enter Try.func105, Try.ntmps105
  go_wp2_with (go_at_call 92; refine (isSized_c _ _ _ (by omega) (by omega)).mono ?_; rintro e w' ⟨rfl, rfl⟩)
  go_ret
  exact ⟨rfl, rfl⟩

theorem sli2 {w : World} {b : Nat} {x y : Int} (hb : b < w.heap.size) (h0 : w.cell? ⟨b, 0, none⟩ = some (.int .i64 x)) (h1 : w.cell? ⟨b, 1, none⟩ = some (.int .i64 y)) : SlI w (some ⟨b, 0, none⟩) [x, y] := fun j u hj => by
  refine ⟨b, 0, rfl, hb, ?_⟩
  match j, hj with
  | 0, hj => simp at hj; subst hj; simpa using h0
  | 1, hj => simp at hj; subst hj; simpa using h1
theorem sli3 {w : World} {b : Nat} {x y z : Int} (hb : b < w.heap.size) (h0 : w.cell? ⟨b, 0, none⟩ = some (.int .i64 x)) (h1 : w.cell? ⟨b, 1, none⟩ = some (.int .i64 y)) (h2 : w.cell? ⟨b, 2, none⟩ = some (.int .i64 z)) : SlI w (some ⟨b, 0, none⟩) [x, y, z] := fun j u hj => by
  refine ⟨b, 0, rfl, hb, ?_⟩
  match j, hj with
  | 0, hj => simp at hj; subst hj; simpa using h0
  | 1, hj => simp at hj; subst hj; simpa using h1
  | 2, hj => simp at hj; subst hj; simpa using h2
theorem sli4 {w : World} {b : Nat} {x y z u : Int} (hb : b < w.heap.size) (h0 : w.cell? ⟨b, 0, none⟩ = some (.int .i64 x)) (h1 : w.cell? ⟨b, 1, none⟩ = some (.int .i64 y)) (h2 : w.cell? ⟨b, 2, none⟩ = some (.int .i64 z)) (h3 : w.cell? ⟨b, 3, none⟩ = some (.int .i64 u)) : SlI w (some ⟨b, 0, none⟩) [x, y, z, u] := fun j u hj => by
  refine ⟨b, 0, rfl, hb, ?_⟩
  match j, hj with
  | 0, hj => simp at hj; subst hj; simpa using h0
  | 1, hj => simp at hj; subst hj; simpa using h1
  | 2, hj => simp at hj; subst hj; simpa using h2
  | 3, hj => simp at hj; subst hj; simpa using h3
theorem first2_c (x y : Int) (w : World) (t : TypeId) : Calls Try.prog 84 #[.slice (some ⟨w.heap.size, 0, none⟩) 2 2] (w.alloc (.cells #[.int .i64 x, .int .i64 y] t)) fun r w' => r = .returned (.int .i64 (fstE [x, y])) ∧ w.alloc (.cells #[.int .i64 x, .int .i64 y] t) = w' :=
  first_c [x, y] _ 2 _ (by simp) (sli_new w [x, y] t)
theorem first3_c (x y z : Int) (w : World) (t : TypeId) : Calls Try.prog 84 #[.slice (some ⟨w.heap.size, 0, none⟩) 3 3] (w.alloc (.cells #[.int .i64 x, .int .i64 y, .int .i64 z] t)) fun r w' => r = .returned (.int .i64 (fstE [x, y, z])) ∧ w.alloc (.cells #[.int .i64 x, .int .i64 y, .int .i64 z] t) = w' :=
  first_c [x, y, z] _ 3 _ (by simp) (sli_new w [x, y, z] t)
theorem first4_c (x y z u : Int) (w : World) (t : TypeId) : Calls Try.prog 84 #[.slice (some ⟨w.heap.size, 0, none⟩) 4 4] (w.alloc (.cells #[.int .i64 x, .int .i64 y, .int .i64 z, .int .i64 u] t)) fun r w' => r = .returned (.int .i64 (fstE [x, y, z, u])) ∧ w.alloc (.cells #[.int .i64 x, .int .i64 y, .int .i64 z, .int .i64 u] t) = w' :=
  first_c [x, y, z, u] _ 4 _ (by simp) (sli_new w [x, y, z, u] t)
theorem first1_c (x : Int) (w : World) (t : TypeId) : Calls Try.prog 84 #[.slice (some ⟨w.heap.size, 0, none⟩) 1 1] (w.alloc (.cells #[.int .i64 x] t)) fun r w' => r = .returned (.int .i64 (fstE [x])) ∧ w.alloc (.cells #[.int .i64 x] t) = w' :=
  first_c [x] _ 1 _ (by simp) (sli_new w [x] t)

def badS (n : Int) : Bool := !inB n (-100) 100
/-- What CheckSamples answers: an index and an error. -/
def chkS (xs : List Int) : Int × Int :=
  if (fstE [unl (decide (4 ≤ (xs.length : Int))) 10, unl (decide ((xs.length : Int) ≤ 20)) 8] != 0) = true then (0, fstE [unl (decide (4 ≤ (xs.length : Int))) 10, unl (decide ((xs.length : Int) ≤ 20)) 8])
  else if 0 ≤ findI badS xs then (findI badS xs, 2) else (0, 0)

set_option maxHeartbeats 1000000 in
theorem checkSamples_c (xs : List Int) (A : Option Addr) (c : Nat) (w : World) (hn : xs.length ≤ 9223372036854775807) (hs : SlI w A xs) :
    Calls Try.prog 39 #[.slice A xs.length c] w fun e w' => e = .returned (.tuple #[.int .i64 (chkS xs).1, .int .i64 (chkS xs).2]) ∧ Below w.heap.size w w' := by
  have hidx := indexFunc_c 99 badS (enters_of Try.func99 (by kernel_rfl) rfl) (fun x w => checkSamples1_c x w) xs A c
  have HI := Lib.hid hidx; clear hidx
  go_enter Try.func39, Try.ntmps39
  go_wp2_with (first | (go_at_call 81; refine (unless_c _ _ _).mono ?_; rintro e w' ⟨rfl, rfl⟩) | (go_at_call 84; refine (first2_c _ _ _ _).mono ?_; rintro e w' ⟨rfl, rfl⟩) | (go_at_call 98; refine (HI.out _ (by assumption) (SlI.alloc (by assumption) _)).mono ?_; rintro e w' ⟨rfl, rfl⟩))
  all_goals go_ret2
  · rename_i h1
    have e : chkS xs = _ := if_pos h1
    exact ⟨ret_ii (by rw [e]) (by rw [e]), (Below.refl _ _).alloc (Nat.le_refl _) _⟩
  · have e : chkS xs = _ := (if_neg (by simp [*])).trans (if_pos (by assumption))
    exact ⟨ret_ii (by rw [e]) (by rw [e]), (Below.refl _ _).alloc (Nat.le_refl _) _⟩
  · have e : chkS xs = _ := (if_neg (by simp [*])).trans (if_neg (by omega))
    exact ⟨ret_ii (by rw [e]) (by rw [e]), (Below.refl _ _).alloc (Nat.le_refl _) _⟩

set_option maxHeartbeats 400000 in
theorem samplesErr_c (xs : List Int) (A : Option Addr) (c : Nat) (w : World) (hn : xs.length ≤ 9223372036854775807) (hs : SlI w A xs) :
    Calls Try.prog 86 #[.slice A xs.length c] w fun e w' => e = .returned (.int .i64 (chkS xs).2) ∧ Below w.heap.size w w' := by
  have H := Lib.hid (checkSamples_c xs A c w hn hs)
  clear hn hs
  go_enter Try.func86, Try.ntmps86
  go_wp2_with (go_at_call 39; refine H.out.mono ?_; rintro e w' ⟨rfl, hb⟩)
  go_ret
  exact ⟨rfl, by assumption⟩

def gcdL (xs : List Int) : Nat := xs.foldl (fun g x => Nat.gcd g x.natAbs) 0
theorem gcdL_snoc (xs : List Int) (k : Nat) (h : k < xs.length) : gcdL (xs.take (k + 1)) = Nat.gcd (gcdL (xs.take k)) xs[k].natAbs := by
  unfold gcdL; rw [List.take_succ_eq_append_getElem h, List.foldl_append]; rfl
theorem gcd_tmod (a b : Int) : Nat.gcd b.natAbs (a.tmod b).natAbs = Nat.gcd a.natAbs b.natAbs := by
  rw [Int.natAbs_tmod, Nat.gcd_comm b.natAbs, ← Nat.gcd_rec, Nat.gcd_comm]

set_option maxHeartbeats 1000000 in
theorem divisor_c (xs : List Int) (A : Option Addr) (c : Nat) (w : World) (hn : xs.length ≤ 9223372036854775807) (hs : SlI w A xs) (hx : ∀ x ∈ xs, x.natAbs ≤ 9223372036854775807) :
    Calls Try.prog 101 #[.slice A xs.length c] w fun e w' => e = .returned (.int .i64 (gcdL xs : Nat)) ∧ Below w.heap.size w w' := by
  go_enter Try.func101, Try.ntmps101
  go_wp2
  go_loopw [3, 8] (fun g i wr => ∃ (k : Nat) (a : Int), k ≤ xs.length ∧ i = .int .i64 k ∧ g = .int .i64 a ∧ Hid (a.natAbs = gcdL (xs.take k)) ∧ -9223372036854775807 ≤ a ∧ a ≤ 9223372036854775807 ∧ Below w.heap.size w wr) (fun _ i _ => xs.length - (intOf i).toNat)
  case atStart => exact ⟨0, 0, Nat.zero_le _, rfl, rfl, rfl, by omega, by omega, Below.refl _ _⟩
  case round =>
    obtain ⟨k, a, hk, rfl, rfl, hg, ha1, ha2, hB⟩ := hrel
    by_cases hlt : k < xs.length
    · obtain ⟨b, off, rfl, hb, hc⟩ := (hs.below hB) k xs[k] (List.getElem?_eq_getElem hlt)
      have hxk := hx xs[k] (List.getElem_mem hlt)
      have HS := Lib.hid (gcdL_snoc xs k hlt)
      have HX := Lib.hid hx; have HSS := Lib.hid hs
      clear hx hs
      generalize hy : xs[k] = y at *
      clear hy
      have hy1 : -9223372036854775807 ≤ y := by omega
      have hy2 : y ≤ 9223372036854775807 := by omega
      clear hxk
      go_wp2
      obtain ⟨wo, rfl⟩ : ∃ wo : World, wo = wr := ⟨_, rfl⟩
      go_loopw [3, 5] (fun g n wr => ∃ (p q : Int), g = .int .i64 p ∧ n = .int .i64 q ∧ Hid (Nat.gcd p.natAbs q.natAbs = Nat.gcd a.natAbs y.natAbs) ∧ -9223372036854775807 ≤ p ∧ p ≤ 9223372036854775807 ∧ -9223372036854775807 ≤ q ∧ q ≤ 9223372036854775807 ∧ Below w.heap.size w wr) (fun _ n _ => (intOf n).natAbs)
      case atStart => exact ⟨a, y, rfl, rfl, rfl, by omega, by omega, by omega, by omega, hB⟩
      case round =>
        obtain ⟨p, q, rfl, rfl, hpq, hp1, hp2, hq1, hq2, hB2⟩ := hrel
        by_cases hz : q = 0
        · have hz1 : (q != 0) = false := by simp [hz]
          have HZ := Lib.hid hz; clear hz
          go_wp2
          go_roundw
          case rel => exact ⟨k + 1, p, by omega, by go_num, rfl, by unfold Hid; rw [HS.out, ← hg.out, ← hpq.out, HZ.out]; simp, by omega, by omega, hB2⟩
          case measure => simp [intOf]; omega
        · have hz1 : (q != 0) = true := by simp [hz]
          have hz2 : (q == 0) = false := by simp [hz]
          have hm : (p.tmod q).natAbs < q.natAbs := by rw [Int.natAbs_tmod]; exact Nat.mod_lt _ (by omega)
          have HZ := Lib.hid hz; clear hz
          go_wp2
          go_quiet (fail)
          go_wp2
          go_roundw
          case rel => exact ⟨q, p.tmod q, rfl, rfl, by unfold Hid; rw [← hpq.out]; exact gcd_tmod p q, by omega, by omega, by omega, by omega, below_drewN hB2 _⟩
          case measure => simpa [intOf] using hm
    · have hend : a.natAbs = gcdL xs := by rw [hg.out, List.take_of_length_le (by omega)]
      have HE := Lib.hid hend; clear hend
      go_wp2
      all_goals go_ret
      all_goals exact ⟨ret_i (by have := HE.out; omega), hB⟩

end Go.Proofs.Ytgbckdmhmkpahaa

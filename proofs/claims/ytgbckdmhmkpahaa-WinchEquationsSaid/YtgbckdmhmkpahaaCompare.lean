/-
  The walks of the references' Floor and Compare.
-/
import Derived.Test.YtgbckdmhmkpahaaBase
set_option linter.unusedVariables false
namespace Go.Proofs.Ytgbckdmhmkpahaa
open Go.RowKit Go.Shelf

theorem calls_cast0 {P : Program} {f : Nat} {a b : Array Value} {w : World} {Q : Ending → World → Prop} (h : Calls P f a w Q) (e : b = a) : Calls P f b w Q := e ▸ h
def cmpI (a b : Int) : Int := if a < b then -1 else if b < a then 1 else 0
theorem floor_f {n d : Int} (hd : 0 < d) : n / d = if n.tmod d < 0 then n.tdiv d - 1 else n.tdiv d := by
  have h1 := Int.tdiv_eq_ediv (a := n) (b := d)
  have h2 := Int.tmod_eq_emod (a := n) (b := d)
  have h3 := Int.emod_nonneg n (show d ≠ 0 by omega)
  have h4 := Int.emod_lt_of_pos n hd
  have h5 : d.sign = 1 := Int.sign_eq_one_of_pos hd
  by_cases hc : 0 ≤ n ∨ d ∣ n
  · rw [if_pos hc] at h1 h2
    rw [if_neg (by omega)]; omega
  · rw [if_neg hc] at h1 h2
    rw [if_pos (by omega)]; omega
theorem tdiv_small {n d : Int} (hd : 0 < d) (hn : n.natAbs ≤ 4000000000000000000) : -4000000000000000000 ≤ n.tdiv d ∧ n.tdiv d ≤ 4000000000000000000 := by
  have h1 : (n.tdiv d).natAbs ≤ n.natAbs := by rw [Int.natAbs_tdiv]; exact Nat.div_le_self _ _
  omega

set_option maxHeartbeats 1000000 in
theorem baseFloor_c (n d : Int) (w : World) (hd : 0 < d ∧ d ≤ 4000000000000000000) (hn : n.natAbs ≤ 4000000000000000000) :
    Calls Try.prog 104 #[.int .i64 n, .int .i64 d] w fun e w' => e = .returned (.int .i64 (n / d)) ∧ w = w' := by
  have F := Lib.hid (floor_f (n := n) hd.1)
  have T := tdiv_small hd.1 hn
  have d0 : (d == 0) = false := beqF (by omega)
  have d1 : d ≠ 0 := by omega
  have M := Int.tmod_lt_of_pos n hd.1
  have M2 : -4000000000000000000 ≤ n.tmod d := by
    have h2 := Int.tmod_eq_emod (a := n) (b := d)
    have h3 := Int.emod_nonneg n (show d ≠ 0 by omega)
    split at h2 <;> omega
  generalize n / d = q at *
  generalize ht : n.tdiv d = t at *
  generalize hm : n.tmod d = m at *
  have v1 : IntKind.i64.wrap t = t := IntWalk.i64_in _ (by omega)
  have v2 : IntKind.i64.wrap (t - 1) = t - 1 := IntWalk.i64_in _ (by omega)
  by_cases h : m < 0
  · have e1 : decide (m < 0) = true := decide_eq_true h
    have R := Lib.hid (show q = t - 1 from by rw [F.out, if_pos h])
    go_enter Try.func104, Try.ntmps104
    go_wp2
    go_ret
    exact ⟨ret_i (by rw [R.out]), rfl⟩
  · have e1 : decide (m < 0) = false := decide_eq_false h
    have R := Lib.hid (show q = t from by rw [F.out, if_neg h])
    go_enter Try.func104, Try.ntmps104
    go_wp2
    go_ret
    exact ⟨ret_i (by rw [R.out]), rfl⟩

theorem cmp_step {n d m k : Int} (hd : 0 < d) (hk : 0 < k) :
    cmpI (n * k) (m * d) = if n / d < m / k then -1 else if m / k < n / d then 1 else cmpI ((n % d) * k) ((m % k) * d) := by
  have e1 := Int.emod_add_mul_ediv n d
  have e2 := Int.emod_add_mul_ediv m k
  have r1 := Int.emod_nonneg n (show d ≠ 0 by omega)
  have r2 := Int.emod_lt_of_pos n hd
  have s1 := Int.emod_nonneg m (show k ≠ 0 by omega)
  have s2 := Int.emod_lt_of_pos m hk
  generalize n / d = p at *
  generalize m / k = q at *
  generalize n % d = r at *
  generalize m % k = s at *
  subst e1 e2
  have x1 : (r + d * p) * k - (s + k * q) * d = d * k * (p - q) + (r * k - s * d) := by grind
  have x2 : 0 ≤ r * k := Int.mul_nonneg r1 (by omega)
  have x3 : 0 ≤ s * d := Int.mul_nonneg s1 (by omega)
  have x4 : r * k < d * k := Int.mul_lt_mul_of_pos_right r2 hk
  have x5 : s * d < k * d := Int.mul_lt_mul_of_pos_right s2 hd
  have x6 : k * d = d * k := Int.mul_comm _ _
  have x7 : 0 < d * k := Int.mul_pos hd hk
  unfold cmpI
  by_cases h1 : p < q
  · have y1 : d * k * (p - q) ≤ d * k * (-1) := Int.mul_le_mul_of_nonneg_left (by omega) (by omega)
    rw [if_pos (by omega), if_pos h1]
  · by_cases h2 : q < p
    · have y1 : d * k * 1 ≤ d * k * (p - q) := Int.mul_le_mul_of_nonneg_left (by omega) (by omega)
      rw [if_neg (by omega), if_pos (by omega), if_neg h1, if_pos h2]
    · have : p - q = 0 := by omega
      rw [this, Int.mul_zero] at x1
      rw [if_neg h1, if_neg h2]
      by_cases h3 : r * k < s * d
      · rw [if_pos (by omega), if_pos h3]
      · rw [if_neg (by omega), if_neg h3]
        by_cases h4 : s * d < r * k
        · rw [if_pos (by omega), if_pos h4]
        · rw [if_neg (by omega), if_neg h4]

set_option maxHeartbeats 4000000 in
set_option maxRecDepth 100000 in
theorem baseCompare_c (n d m k : Int) (w : World) (hd : 0 < d ∧ d ≤ 4000000000000000000) (hk : 0 < k ∧ k ≤ 4000000000000000000) (hn : n.natAbs ≤ 4000000000000000000) (hm : m.natAbs ≤ 4000000000000000000) :
    Calls Try.prog 47 #[.int .i64 n, .int .i64 d, .int .i64 m, .int .i64 k] w fun e w' => e = .returned (.int .i64 (cmpI (n * k) (m * d))) ∧ w = w' := by
  generalize hR : cmpI (n * k) (m * d) = R
  have HR := Lib.hid hR
  clear hR
  go_enter Try.func47, Try.ntmps47
  go_wp2
  go_loop [0, 1, 2, 3] (fun a b x y => ∃ n d m k : Int, a = .int .i64 n ∧ b = .int .i64 d ∧ x = .int .i64 m ∧ y = .int .i64 k ∧ Hid (cmpI (n * k) (m * d) = R) ∧ (0 < d ∧ d ≤ 4000000000000000000) ∧ (0 < k ∧ k ≤ 4000000000000000000) ∧ n.natAbs ≤ 4000000000000000000 ∧ m.natAbs ≤ 4000000000000000000) (fun _ b _ y => (intOf b + intOf y).toNat)
  case atStart => exact ⟨n, d, m, k, rfl, rfl, rfl, rfl, HR.out, hd, hk, hn, hm⟩
  case round =>
    obtain ⟨n, d, m, k, rfl, rfl, rfl, rfl, hc, hd, hk, hn, hm⟩ := hrel
    clear HR
    have C := Lib.hid ((cmp_step (n := n) (m := m) hd.1 hk.1).symm.trans hc.out)
    have F1 := Lib.hid (fun W => baseFloor_c n d W hd hn)
    have F2 := Lib.hid (fun W => baseFloor_c m k W hk hm)
    have e1 := Int.emod_add_mul_ediv n d
    have e2 := Int.emod_add_mul_ediv m k
    have r1 := Int.emod_nonneg n (show d ≠ 0 by omega)
    have r2 := Int.emod_lt_of_pos n hd.1
    have s1 := Int.emod_nonneg m (show k ≠ 0 by omega)
    have s2 := Int.emod_lt_of_pos m hk.1
    generalize n / d = p at *
    generalize m / k = q at *
    generalize n % d = r at *
    generalize m % k = s at *
    have z1 : n - p * d = r := by rw [Int.mul_comm]; omega
    have z2 : m - q * k = s := by rw [Int.mul_comm]; omega
    have v1 : IntKind.i64.wrap (p * d) = p * d := IntWalk.i64_in _ (by omega)
    have v2 : IntKind.i64.wrap (q * k) = q * k := IntWalk.i64_in _ (by omega)
    have v3 : IntKind.i64.wrap (n - p * d) = r := by rw [z1]; exact IntWalk.i64_in _ (by omega)
    have v4 : IntKind.i64.wrap (m - q * k) = s := by rw [z2]; exact IntWalk.i64_in _ (by omega)
    clear e1 e2 z1 z2 hc
    by_cases h1 : p < q
    · have g1 : decide (p < q) = true := decide_eq_true h1
      have R1 := Lib.hid (show R = -1 from by rw [← C.out, if_pos h1])
      go_wp2_with (first | (go_at_call 104; refine (calls_cast0 (F1.out _) (by with_reducible rfl)).mono ?_; rintro e w' ⟨rfl, rfl⟩) | (go_at_call 104; refine (calls_cast0 (F2.out _) (by with_reducible rfl)).mono ?_; rintro e w' ⟨rfl, rfl⟩) | fail)
      go_ret
      exact ⟨ret_i (by rw [R1.out]), rfl⟩
    · have g1 : decide (p < q) = false := decide_eq_false h1
      by_cases h2 : q < p
      · have g2 : decide (q < p) = true := decide_eq_true h2
        have R1 := Lib.hid (show R = 1 from by rw [← C.out, if_neg h1, if_pos h2])
        go_wp2_with (first | (go_at_call 104; refine (calls_cast0 (F1.out _) (by with_reducible rfl)).mono ?_; rintro e w' ⟨rfl, rfl⟩) | (go_at_call 104; refine (calls_cast0 (F2.out _) (by with_reducible rfl)).mono ?_; rintro e w' ⟨rfl, rfl⟩) | fail)
        go_ret
        exact ⟨ret_i (by rw [R1.out]), rfl⟩
      · have g2 : decide (q < p) = false := decide_eq_false h2
        have R1 := Lib.hid (show cmpI (r * k) (s * d) = R from by rw [← C.out, if_neg h1, if_neg h2])
        clear C
        have pk : r * k = 0 ↔ r = 0 := by rw [Int.mul_eq_zero]; omega
        by_cases h3 : r = 0
        · have g3 : (r == 0) = true := beqT h3
          by_cases h4 : s = 0
          · have g4 : (s == 0) = true := beqT h4
            have R2 := Lib.hid (show R = 0 from by rw [← R1.out, h3, h4]; simp [cmpI])
            clear h3 h4
            go_wp2_with (first | (go_at_call 104; refine (calls_cast0 (F1.out _) (by with_reducible rfl)).mono ?_; rintro e w' ⟨rfl, rfl⟩) | (go_at_call 104; refine (calls_cast0 (F2.out _) (by with_reducible rfl)).mono ?_; rintro e w' ⟨rfl, rfl⟩) | fail)
            go_ret
            exact ⟨ret_i (by rw [R2.out]), rfl⟩
          · have g4 : (s == 0) = false := beqF h4
            have R2 := Lib.hid (show R = -1 from by
              rw [← R1.out, h3, Int.zero_mul]
              have : 0 < s * d := Int.mul_pos (by omega) hd.1
              unfold cmpI; rw [if_pos this])
            clear h3 h4
            go_wp2_with (first | (go_at_call 104; refine (calls_cast0 (F1.out _) (by with_reducible rfl)).mono ?_; rintro e w' ⟨rfl, rfl⟩) | (go_at_call 104; refine (calls_cast0 (F2.out _) (by with_reducible rfl)).mono ?_; rintro e w' ⟨rfl, rfl⟩) | fail)
            go_ret
            exact ⟨ret_i (by rw [R2.out]), rfl⟩
        · have g3 : (r == 0) = false := beqF h3
          by_cases h4 : s = 0
          · have g4 : (s == 0) = true := beqT h4
            have R2 := Lib.hid (show R = 1 from by
              rw [← R1.out, h4, Int.zero_mul]
              have : 0 < r * k := Int.mul_pos (by omega) hk.1
              unfold cmpI; rw [if_neg (by omega), if_pos this])
            clear h3 h4
            go_wp2_with (first | (go_at_call 104; refine (calls_cast0 (F1.out _) (by with_reducible rfl)).mono ?_; rintro e w' ⟨rfl, rfl⟩) | (go_at_call 104; refine (calls_cast0 (F2.out _) (by with_reducible rfl)).mono ?_; rintro e w' ⟨rfl, rfl⟩) | fail)
            go_ret
            exact ⟨ret_i (by rw [R2.out]), rfl⟩
          · have g4 : (s == 0) = false := beqF h4
            go_wp2_with (first | (go_at_call 104; refine (calls_cast0 (F1.out _) (by with_reducible rfl)).mono ?_; rintro e w' ⟨rfl, rfl⟩) | (go_at_call 104; refine (calls_cast0 (F2.out _) (by with_reducible rfl)).mono ?_; rintro e w' ⟨rfl, rfl⟩) | fail)
            go_round
            case rel => exact ⟨k, s, d, r, rfl, rfl, rfl, rfl, by unfold Hid; rw [Int.mul_comm k r, Int.mul_comm d s]; exact R1.out, by omega, by omega, by omega, by omega⟩
            case measure => simp [intOf]; omega

end Go.Proofs.Ytgbckdmhmkpahaa

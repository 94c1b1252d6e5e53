/-
  Structs of ints are compared field by field: the laws of '==' and '!=' at the program's types.
-/
import Derived.Test.YtgbckdmhmkpahaaBase
import Derived.Laws.StructEq
import Derived.LaidLaws
set_option linter.unusedVariables false
namespace Go.Proofs.Ytgbckdmhmkpahaa
open Go.RowKit Go.Shelf

theorem eql_st (a : Int) (b : Int) (c : Int) (x : Int) (y : Int) (z : Int) (w : World) : (binOp .eql 42 (.agg #[.int .i64 a, .int .i64 b, .int .i64 c]) (.agg #[.int .i64 x, .int .i64 y, .int .i64 z])).run Try.prog w = .ok (.bool (decide ((a, b, c) = (x, y, z)))) w := by
  rw [run_eql_struct, show (10000 : Nat) = 9999 + 1 from rfl, run_equalIn_agg w 9999 42 _ _ (by kernel_rfl) (by kernel_rfl)]
  simp [go_sem]
  by_cases h0 : a = x <;> by_cases h1 : b = y <;> by_cases h2 : c = z <;> simp [*]
theorem neq_st (a : Int) (b : Int) (c : Int) (x : Int) (y : Int) (z : Int) (w : World) : (binOp .neq 42 (.agg #[.int .i64 a, .int .i64 b, .int .i64 c]) (.agg #[.int .i64 x, .int .i64 y, .int .i64 z])).run Try.prog w = .ok (.bool (!decide ((a, b, c) = (x, y, z)))) w := by
  rw [run_neq_struct, show (10000 : Nat) = 9999 + 1 from rfl, run_equalIn_agg w 9999 42 _ _ (by kernel_rfl) (by kernel_rfl)]
  simp [go_sem]
  by_cases h0 : a = x <;> by_cases h1 : b = y <;> by_cases h2 : c = z <;> simp [*]
theorem eql_pr (a : Int) (b : Int) (c : Int) (x : Int) (y : Int) (z : Int) (w : World) : (binOp .eql 45 (.agg #[.int .i64 a, .int .i64 b, .int .i64 c]) (.agg #[.int .i64 x, .int .i64 y, .int .i64 z])).run Try.prog w = .ok (.bool (decide ((a, b, c) = (x, y, z)))) w := by
  rw [run_eql_struct, show (10000 : Nat) = 9999 + 1 from rfl, run_equalIn_agg w 9999 45 _ _ (by kernel_rfl) (by kernel_rfl)]
  simp [go_sem]
  by_cases h0 : a = x <;> by_cases h1 : b = y <;> by_cases h2 : c = z <;> simp [*]
theorem neq_pr (a : Int) (b : Int) (c : Int) (x : Int) (y : Int) (z : Int) (w : World) : (binOp .neq 45 (.agg #[.int .i64 a, .int .i64 b, .int .i64 c]) (.agg #[.int .i64 x, .int .i64 y, .int .i64 z])).run Try.prog w = .ok (.bool (!decide ((a, b, c) = (x, y, z)))) w := by
  rw [run_neq_struct, show (10000 : Nat) = 9999 + 1 from rfl, run_equalIn_agg w 9999 45 _ _ (by kernel_rfl) (by kernel_rfl)]
  simp [go_sem]
  by_cases h0 : a = x <;> by_cases h1 : b = y <;> by_cases h2 : c = z <;> simp [*]
theorem eql_fr (a : Int) (b : Int) (x : Int) (y : Int) (w : World) : (binOp .eql 47 (.agg #[.int .i64 a, .int .i64 b]) (.agg #[.int .i64 x, .int .i64 y])).run Try.prog w = .ok (.bool (decide ((a, b) = (x, y)))) w := by
  rw [run_eql_struct, show (10000 : Nat) = 9999 + 1 from rfl, run_equalIn_agg w 9999 47 _ _ (by kernel_rfl) (by kernel_rfl)]
  simp [go_sem]
  by_cases h0 : a = x <;> by_cases h1 : b = y <;> simp [*]
theorem neq_fr (a : Int) (b : Int) (x : Int) (y : Int) (w : World) : (binOp .neq 47 (.agg #[.int .i64 a, .int .i64 b]) (.agg #[.int .i64 x, .int .i64 y])).run Try.prog w = .ok (.bool (!decide ((a, b) = (x, y)))) w := by
  rw [run_neq_struct, show (10000 : Nat) = 9999 + 1 from rfl, run_equalIn_agg w 9999 47 _ _ (by kernel_rfl) (by kernel_rfl)]
  simp [go_sem]
  by_cases h0 : a = x <;> by_cases h1 : b = y <;> simp [*]
theorem eql_rg (a : Int) (b : Int) (x : Int) (y : Int) (w : World) : (binOp .eql 24 (.agg #[.int .i64 a, .int .i64 b]) (.agg #[.int .i64 x, .int .i64 y])).run Try.prog w = .ok (.bool (decide ((a, b) = (x, y)))) w := by
  rw [run_eql_struct, show (10000 : Nat) = 9999 + 1 from rfl, run_equalIn_agg w 9999 24 _ _ (by kernel_rfl) (by kernel_rfl)]
  simp [go_sem]
  by_cases h0 : a = x <;> by_cases h1 : b = y <;> simp [*]
theorem neq_rg (a : Int) (b : Int) (x : Int) (y : Int) (w : World) : (binOp .neq 24 (.agg #[.int .i64 a, .int .i64 b]) (.agg #[.int .i64 x, .int .i64 y])).run Try.prog w = .ok (.bool (!decide ((a, b) = (x, y)))) w := by
  rw [run_neq_struct, show (10000 : Nat) = 9999 + 1 from rfl, run_equalIn_agg w 9999 24 _ _ (by kernel_rfl) (by kernel_rfl)]
  simp [go_sem]
  by_cases h0 : a = x <;> by_cases h1 : b = y <;> simp [*]
theorem eql_la (a : Bool) (b : Int) (c : Int) (x : Bool) (y : Int) (z : Int) (w : World) : (binOp .eql 122 (.agg #[.bool a, .int .i64 b, .int .i64 c]) (.agg #[.bool x, .int .i64 y, .int .i64 z])).run Try.prog w = .ok (.bool (decide ((a, b, c) = (x, y, z)))) w := by
  rw [run_eql_struct, show (10000 : Nat) = 9999 + 1 from rfl, run_equalIn_agg w 9999 122 _ _ (by kernel_rfl) (by kernel_rfl)]
  simp [go_sem]
  by_cases h0 : a = x <;> by_cases h1 : b = y <;> by_cases h2 : c = z <;> simp [*]
theorem neq_la (a : Bool) (b : Int) (c : Int) (x : Bool) (y : Int) (z : Int) (w : World) : (binOp .neq 122 (.agg #[.bool a, .int .i64 b, .int .i64 c]) (.agg #[.bool x, .int .i64 y, .int .i64 z])).run Try.prog w = .ok (.bool (!decide ((a, b, c) = (x, y, z)))) w := by
  rw [run_neq_struct, show (10000 : Nat) = 9999 + 1 from rfl, run_equalIn_agg w 9999 122 _ _ (by kernel_rfl) (by kernel_rfl)]
  simp [go_sem]
  by_cases h0 : a = x <;> by_cases h1 : b = y <;> by_cases h2 : c = z <;> simp [*]

/-- The same, behind a name that the walk does not open. -/
def same3 (a b c x y z : Int) : Bool := decide ((a, b, c) = (x, y, z))
def same2 (a b x y : Int) : Bool := decide ((a, b) = (x, y))
def sameL (a : Bool) (b c : Int) (x : Bool) (y z : Int) : Bool := decide ((a, b, c) = (x, y, z))
theorem same3_t {a b c x y z : Int} : same3 a b c x y z = true ↔ a = x ∧ b = y ∧ c = z := by simp [same3]
theorem same3_f {a b c x y z : Int} : same3 a b c x y z = false ↔ ¬ (a = x ∧ b = y ∧ c = z) := by simp [same3]
theorem same2_t {a b x y : Int} : same2 a b x y = true ↔ a = x ∧ b = y := by simp [same2]
theorem same2_f {a b x y : Int} : same2 a b x y = false ↔ ¬ (a = x ∧ b = y) := by simp [same2]
theorem sameL_t {a : Bool} {b c : Int} {x : Bool} {y z : Int} : sameL a b c x y z = true ↔ a = x ∧ b = y ∧ c = z := by simp [sameL]
theorem sameL_f {a : Bool} {b c : Int} {x : Bool} {y z : Int} : sameL a b c x y z = false ↔ ¬ (a = x ∧ b = y ∧ c = z) := by simp [sameL]
theorem eqlO_st (a : Int) (b : Int) (c : Int) (x : Int) (y : Int) (z : Int) (w : World) : (binOp .eql 42 (.agg #[.int .i64 a, .int .i64 b, .int .i64 c]) (.agg #[.int .i64 x, .int .i64 y, .int .i64 z])).run Try.prog w = .ok (.bool (same3 a b c x y z)) w := eql_st a b c x y z w
theorem neqO_st (a : Int) (b : Int) (c : Int) (x : Int) (y : Int) (z : Int) (w : World) : (binOp .neq 42 (.agg #[.int .i64 a, .int .i64 b, .int .i64 c]) (.agg #[.int .i64 x, .int .i64 y, .int .i64 z])).run Try.prog w = .ok (.bool (!same3 a b c x y z)) w := neq_st a b c x y z w
theorem eqlO_pr (a : Int) (b : Int) (c : Int) (x : Int) (y : Int) (z : Int) (w : World) : (binOp .eql 45 (.agg #[.int .i64 a, .int .i64 b, .int .i64 c]) (.agg #[.int .i64 x, .int .i64 y, .int .i64 z])).run Try.prog w = .ok (.bool (same3 a b c x y z)) w := eql_pr a b c x y z w
theorem neqO_pr (a : Int) (b : Int) (c : Int) (x : Int) (y : Int) (z : Int) (w : World) : (binOp .neq 45 (.agg #[.int .i64 a, .int .i64 b, .int .i64 c]) (.agg #[.int .i64 x, .int .i64 y, .int .i64 z])).run Try.prog w = .ok (.bool (!same3 a b c x y z)) w := neq_pr a b c x y z w
theorem eqlO_fr (a : Int) (b : Int) (x : Int) (y : Int) (w : World) : (binOp .eql 47 (.agg #[.int .i64 a, .int .i64 b]) (.agg #[.int .i64 x, .int .i64 y])).run Try.prog w = .ok (.bool (same2 a b x y)) w := eql_fr a b x y w
theorem neqO_fr (a : Int) (b : Int) (x : Int) (y : Int) (w : World) : (binOp .neq 47 (.agg #[.int .i64 a, .int .i64 b]) (.agg #[.int .i64 x, .int .i64 y])).run Try.prog w = .ok (.bool (!same2 a b x y)) w := neq_fr a b x y w
theorem eqlO_rg (a : Int) (b : Int) (x : Int) (y : Int) (w : World) : (binOp .eql 24 (.agg #[.int .i64 a, .int .i64 b]) (.agg #[.int .i64 x, .int .i64 y])).run Try.prog w = .ok (.bool (same2 a b x y)) w := eql_rg a b x y w
theorem neqO_rg (a : Int) (b : Int) (x : Int) (y : Int) (w : World) : (binOp .neq 24 (.agg #[.int .i64 a, .int .i64 b]) (.agg #[.int .i64 x, .int .i64 y])).run Try.prog w = .ok (.bool (!same2 a b x y)) w := neq_rg a b x y w
theorem eqlO_la (a : Bool) (b : Int) (c : Int) (x : Bool) (y : Int) (z : Int) (w : World) : (binOp .eql 122 (.agg #[.bool a, .int .i64 b, .int .i64 c]) (.agg #[.bool x, .int .i64 y, .int .i64 z])).run Try.prog w = .ok (.bool (sameL a b c x y z)) w := eql_la a b c x y z w
theorem neqO_la (a : Bool) (b : Int) (c : Int) (x : Bool) (y : Int) (z : Int) (w : World) : (binOp .neq 122 (.agg #[.bool a, .int .i64 b, .int .i64 c]) (.agg #[.bool x, .int .i64 y, .int .i64 z])).run Try.prog w = .ok (.bool (!sameL a b c x y z)) w := neq_la a b c x y z w

end Go.Proofs.Ytgbckdmhmkpahaa

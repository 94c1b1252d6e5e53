/-
  added of the reference (chapter 6).
-/
import Derived.Test.YtpnfgmgoafgcbaaGreatRIh
set_option linter.unusedVariables false
namespace Go.Proofs.YtpnfgmgoafgcbaaGreat
open Go.RowKit
attribute [local go_sem] Oper.semAt_some
theorem t3i_size : (Tryz.prog.info? 51).map (·.size) = some 3 := by kernel_rfl
set_option maxHeartbeats 4000000 in
set_option maxRecDepth 100000 in
theorem added_c (b0 b1 b2 px py nx ny m n t : Int) (w : World) (hb : (-10000 ≤ b0 ∧ b0 ≤ 10000) ∧ (-10000 ≤ b1 ∧ b1 ≤ 10000) ∧ (-10000 ≤ b2 ∧ b2 ≤ 10000)) (hn : 0 ≤ n ∧ n ≤ 10) (ht : -10 ≤ t ∧ t ≤ 10) (hx : -1 ≤ nx ∧ nx ≤ 1) (hy : -1 ≤ ny ∧ ny ≤ 1) (hp : -5 ≤ px ∧ px ≤ 5) (hq : -5 ≤ py ∧ py ≤ 5) :
    Calls Tryz.prog 98 #[.agg #[.int .i64 b0, .int .i64 b1, .int .i64 b2], .agg #[.int .i64 px, .int .i64 py, .int .i64 nx, .int .i64 ny, .int .i64 m], .agg #[.int .i64 n, .int .i64 t]] w fun e w' => e = .returned (.agg #[.int .i64 (afP (b0, b1, b2) ((px, py), (nx, ny), m) n t).1, .int .i64 (afP (b0, b1, b2) ((px, py), (nx, ny), m) n t).2.1, .int .i64 (afP (b0, b1, b2) ((px, py), (nx, ny), m) n t).2.2]) ∧ Below w.heap.size w w' := by
  obtain ⟨⟨b01, b02⟩, ⟨b11, b12⟩, b21, b22⟩ := hb
  obtain ⟨m1, m1'⟩ := mulB (a := n) (b := nx) 10 1 (by omega) (by omega)
  obtain ⟨m2, m2'⟩ := mulB (a := t) (b := ny) 10 1 (by omega) (by omega)
  obtain ⟨m3, m3'⟩ := mulB (a := n) (b := ny) 10 1 (by omega) (by omega)
  obtain ⟨m4, m4'⟩ := mulB (a := t) (b := nx) 10 1 (by omega) (by omega)
  obtain ⟨m5, m5'⟩ := mulB (a := px) (b := n * ny + t * nx) 5 20 (by omega) (by omega)
  obtain ⟨m6, m6'⟩ := mulB (a := py) (b := n * nx - t * ny) 5 20 (by omega) (by omega)
  obtain ⟨hn1, hn2⟩ := hn
  obtain ⟨ht1, ht2⟩ := ht
  obtain ⟨hx1, hx2⟩ := hx
  obtain ⟨hy1, hy2⟩ := hy
  obtain ⟨hp1, hp2⟩ := hp
  obtain ⟨hq1, hq2⟩ := hq
  have HA := Lib.hid (show afP (b0, b1, b2) ((px, py), (nx, ny), m) n t = (b0 + (n * nx - t * ny), b1 + (n * ny + t * nx), b2 + px * (n * ny + t * nx) - py * (n * nx - t * ny)) from rfl)
  generalize afP (b0, b1, b2) ((px, py), (nx, ny), m) n t = R at *
  simp only [Nat.reduceMul, Int.cast_ofNat_Int] at m1 m1' m2 m2' m3 m3' m4 m4' m5 m5' m6 m6'
  go_enter Tryz.func98, Tryz.ntmps98
  go_wp2
  refine bodyPost_ret (res_c1 rfl rfl (show Box _ _ 51 #[.int .i64 (b0 + (n * nx - t * ny)), .int .i64 (b1 + (n * ny + t * nx)), .int .i64 (b2 + px * (n * ny + t * nx) - py * (n * nx - t * ny))] from ?_) Tryz.underlying51 rfl t3i_size) rfl ⟨by rw [HA.out], ?_⟩
  · exact bX0
  · exact bB0

end Go.Proofs.YtpnfgmgoafgcbaaGreat

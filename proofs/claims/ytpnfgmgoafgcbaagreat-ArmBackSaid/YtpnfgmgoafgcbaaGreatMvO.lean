/-
  Moved of the program (chapter 6): the pose after a move.
-/
import Derived.Test.YtpnfgmgoafgcbaaGreatA6
import Derived.Test.YtpnfgmgoafgcbaaGreatMoved2
import Derived.Test.YtpnfgmgoafgcbaaGreatG4
set_option linter.unusedVariables false
set_option linter.unusedSimpArgs false
set_option linter.unusedVariables false
namespace Go.Proofs.YtpnfgmgoafgcbaaGreat
open Go.RowKit Go.Shelf
attribute [local go_sem] Oper.semAt_some
/-- What Moved answers. -/
def moO (s : Sc) (p : Ps) (m : Mv) : Ps × Int := if omE s p m ≠ 0 then ((0, []), omE s p m) else if mvdE s p m ≠ 0 then ((0, []), mvdE s p m) else (mvd p m, 0)
/-- The block of a row of ints, where there are any, is new. -/
def newM (A : Option Addr) (n B : Nat) : Prop := 0 < n → ∀ b o, A = some ⟨b, o, none⟩ → B ≤ b
/-- How Moved ends. -/
def MoEnd (R : Ps × Int) (w : World) (e : Ending) (w' : World) : Prop :=
  ∃ D d, e = .returned (.tuple #[.agg #[.int .i64 R.1.1, .slice D R.1.2.length d], .int .i64 R.2]) ∧ SlI w' D R.1.2 ∧ newM D R.1.2.length w.heap.size ∧ Below w.heap.size w w'
set_option maxHeartbeats 4000000 in
set_option maxRecDepth 100000 in
theorem movedO_c (bx bY sl fx fX fy fY ps mj mb : Int) (L : List Lk) (B : List Bx) (Q : List Int) (AL AB AQ : Option Addr) (cL cB cQ : Nat) (w : World) (hL : L.length ≤ 1000) (hB : B.length ≤ 9223372036854775807) (hQ : Q.length ≤ 9223372036854775807)
    (hs1 : SlV w AL (L.flatMap lkV)) (hs2 : SlV w AB (B.flatMap bxV)) (hs3 : SlI w AQ Q) :
    Calls Tryz.prog 42 #[.agg #[.int .i64 bx, .int .i64 bY, .int .i64 sl, .slice AL L.length cL, .int .i64 fx, .int .i64 fX, .int .i64 fy, .int .i64 fY, .slice AB B.length cB], .agg #[.int .i64 ps, .slice AQ Q.length cQ], .agg #[.int .i64 mj, .int .i64 mb]] w (MoEnd (moO (⟨bx, bY, sl, L, (fx, fX, fy, fY), B⟩ : Sc) (ps, Q) (mj, mb)) w) := by
  have OMc := Lib.hid (fun W (h : Below w.heap.size w W) => openMove_c bx bY sl fx fX fy fY ps mj mb L B Q AL AB AQ cL cB cQ W hL hB hQ (hs1.below h) (hs2.below h) (hs3.below h))
  have MDc := Lib.hid (fun (h0 : omE (⟨bx, bY, sl, L, (fx, fX, fy, fY), B⟩ : Sc) (ps, Q) (mj, mb) = 0) => fun W (h : Below w.heap.size w W) => by
    obtain ⟨hS, hp, hm⟩ := omE_ok h0
    have hr := hp.rng hS
    have h6 := hp.sl6 hS
    have hpl := hp.len
    have hlen := hS.len
    obtain ⟨hm1, hm2⟩ := mvE_ok hm
    dsimp only at hr h6 hpl hm1 hm2 hlen
    exact moved_c bx bY sl fx fX fy fY ps mj mb L B Q AL AB AQ cL cB cQ W hpl (by omega) (by omega) hm1 (by omega) (by omega) (fun q h => by have := hr q h; omega) (hs1.below h) (hs3.below h))
  have HO := Lib.hid (show moO (⟨bx, bY, sl, L, (fx, fX, fy, fY), B⟩ : Sc) (ps, Q) (mj, mb) = if omE (⟨bx, bY, sl, L, (fx, fX, fy, fY), B⟩ : Sc) (ps, Q) (mj, mb) ≠ 0 then ((0, []), omE (⟨bx, bY, sl, L, (fx, fX, fy, fY), B⟩ : Sc) (ps, Q) (mj, mb)) else if mvdE (⟨bx, bY, sl, L, (fx, fX, fy, fY), B⟩ : Sc) (ps, Q) (mj, mb) ≠ 0 then ((0, []), mvdE (⟨bx, bY, sl, L, (fx, fX, fy, fY), B⟩ : Sc) (ps, Q) (mj, mb)) else (mvd (ps, Q) (mj, mb), 0) from rfl)
  clear hs1 hs2 hs3
  generalize omE (⟨bx, bY, sl, L, (fx, fX, fy, fY), B⟩ : Sc) (ps, Q) (mj, mb) = r at *
  generalize mvdE (⟨bx, bY, sl, L, (fx, fX, fy, fY), B⟩ : Sc) (ps, Q) (mj, mb) = r2 at *
  generalize mvd (ps, Q) (mj, mb) = P at *
  generalize moO (⟨bx, bY, sl, L, (fx, fX, fy, fY), B⟩ : Sc) (ps, Q) (mj, mb) = R at *
  obtain ⟨P1, P2⟩ := P
  obtain ⟨⟨R1, R2⟩, re⟩ := R
  by_cases hr : r = 0
  · have MDd := Lib.hid (MDc.out hr)
    clear MDc
    subst hr
    by_cases hr2 : r2 = 0
    · have hR := HO.out
      rw [if_neg (by simp), if_neg (by simp [hr2])] at hR
      clear HO
      subst hr2
      simp only [Prod.mk.injEq] at hR
      obtain ⟨⟨rfl, rfl⟩, rfl⟩ := hR
      go_enter Tryz.func42, Tryz.ntmps42
      go_upto_region 5 with (first | (go_at_call 113; (with_reducible refine (OMc.out _ (by exact bB0)).mono ?_); rintro e w2 ⟨rfl, hb2⟩; have hz2 : w.heap.size + 1 + 1 + 1 < w2.heap.size := (by have := hb2.size; (try simp at this); omega); have z3 : Box w2 (w.heap.size + 1 + 1 + 1) 33 #[.int .i64 0, .slice none 0 0] := (by exact bX1 hb2); have z2 : Box w2 (w.heap.size + 1 + 1) 84 #[.int .i64 mj, .int .i64 mb] := (by exact bX1 hb2); have m0 := z2.cell 0; have m1 := z2.cell 1; have b0 := z3.cell 0; have b1 := z3.cell 1; have b4 := z3.froz; (simp at m0 m1 b0 b1); have hl3 := z3.lt; have hl2 := z2.lt) | (go_at_call 114; (with_reducible refine (MDd.out _ (by exact bB1 hb2)).mono ?_); rintro e w5 hC; obtain ⟨gQ, capQ, rfl, hgQ, hsQ, ⟨csQ, hbQ⟩, hb5⟩ := hC; have hz5 : w2.heap.size < w5.heap.size := (by have := hb5.size; (try simp at this); omega); have y3 : Box w5 (w.heap.size + 1 + 1 + 1) 33 #[.int .i64 0, .slice none 0 0] := (by exact bX1 hb5); have d0 := y3.cell 0; have d1 := y3.cell 1; have d4 := y3.froz; (simp at d0 d1); have hl5 := y3.lt) | fail)
      have HQ := Lib.hid hsQ
      have hgN : w.heap.size + 1 + 1 + 1 < gQ := by (try simp at hgQ); omega
      clear hsQ hbQ b0 b1 b4 z3
      go_wp2_with fail
      refine bodyPost_ret (res_ca rfl rfl (show Box _ _ 33 #[.int .i64 R1, .slice (some ⟨gQ, 0, none⟩) R2.length capQ] from ?hE) Tryz.underlying33 rfl tps_size) rfl ⟨_, _, rfl, ?hD, fun hl b o e => by cases e; omega, ?hB⟩
      case hE => exact bX0
      case hD =>
        refine SlI.alloc ?_ _
        (repeat (refine SlI.setf ?_ (fun hl b o e => ?_); rotate_left; (focus (cases e; (try simp); omega))))
        exact HQ.out
      case hB => exact bB2 hb2 hb5
    · have hR := HO.out
      rw [if_neg (by simp), if_pos hr2] at hR
      have e1 := bneT hr2
      clear HO hr2
      simp only [Prod.mk.injEq] at hR
      obtain ⟨⟨rfl, rfl⟩, rfl⟩ := hR
      go_enter Tryz.func42, Tryz.ntmps42
      go_upto_region 5 with (first | (go_at_call 113; (with_reducible refine (OMc.out _ (by exact bB0)).mono ?_); rintro e w2 ⟨rfl, hb2⟩; have hz2 : w.heap.size + 1 + 1 + 1 < w2.heap.size := (by have := hb2.size; (try simp at this); omega); have z3 : Box w2 (w.heap.size + 1 + 1 + 1) 33 #[.int .i64 0, .slice none 0 0] := (by exact bX1 hb2); have z2 : Box w2 (w.heap.size + 1 + 1) 84 #[.int .i64 mj, .int .i64 mb] := (by exact bX1 hb2); have m0 := z2.cell 0; have m1 := z2.cell 1; have b0 := z3.cell 0; have b1 := z3.cell 1; have b4 := z3.froz; (simp at m0 m1 b0 b1); have hl3 := z3.lt; have hl2 := z2.lt) | (go_at_call 114; (with_reducible refine (MDd.out _ (by exact bB1 hb2)).mono ?_); rintro e w5 hC; obtain ⟨gQ, capQ, rfl, hgQ, hsQ, ⟨csQ, hbQ⟩, hb5⟩ := hC; have hz5 : w2.heap.size < w5.heap.size := (by have := hb5.size; (try simp at this); omega); have y3 : Box w5 (w.heap.size + 1 + 1 + 1) 33 #[.int .i64 0, .slice none 0 0] := (by exact bX1 hb5); have d0 := y3.cell 0; have d1 := y3.cell 1; have d4 := y3.froz; (simp at d0 d1); have hl5 := y3.lt) | fail)
      clear hsQ hbQ b0 b1 b4 z3
      go_wp2_with fail
      refine bodyPost_ret (res_ca rfl rfl (show Box _ _ 33 #[.int .i64 0, .slice none 0 0] from ?hE) Tryz.underlying33 rfl tps_size) rfl ⟨none, 0, rfl, (fun j u h => by simp at h), (fun h => absurd h (by simp)), ?hB⟩
      case hE => exact bX0
      case hB => exact bB2 hb2 hb5
  · have hR := HO.out
    rw [if_pos hr] at hR
    have e1 := bneT hr
    clear HO hr MDc
    simp only [Prod.mk.injEq] at hR
    obtain ⟨⟨rfl, rfl⟩, rfl⟩ := hR
    go_enter Tryz.func42, Tryz.ntmps42
    go_wp2_with (first | (go_at_call 113; (with_reducible refine (OMc.out _ (by exact bB0)).mono ?_); rintro e w2 ⟨rfl, hb2⟩; have hz2 : w.heap.size + 1 + 1 + 1 < w2.heap.size := (by have := hb2.size; (try simp at this); omega); have z3 : Box w2 (w.heap.size + 1 + 1 + 1) 33 #[.int .i64 0, .slice none 0 0] := (by exact bX1 hb2); have z2 : Box w2 (w.heap.size + 1 + 1) 84 #[.int .i64 mj, .int .i64 mb] := (by exact bX1 hb2); have m0 := z2.cell 0; have m1 := z2.cell 1; have b0 := z3.cell 0; have b1 := z3.cell 1; have b4 := z3.froz; (simp at m0 m1 b0 b1); have hl3 := z3.lt; have hl2 := z2.lt) | fail)
    refine bodyPost_ret (res_ca rfl rfl (show Box _ _ 33 #[.int .i64 0, .slice none 0 0] from ?hE) Tryz.underlying33 rfl tps_size) rfl ⟨none, 0, rfl, (fun j u h => by simp at h), (fun h => absurd h (by simp)), ?hB⟩
    case hE => exact bX0
    case hB => exact bB1 hb2
end Go.Proofs.YtpnfgmgoafgcbaaGreat

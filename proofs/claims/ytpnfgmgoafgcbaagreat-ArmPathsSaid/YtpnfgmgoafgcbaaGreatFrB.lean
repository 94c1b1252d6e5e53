/-
  How the structs of chapter 6 are opened, in plain words, for the statements' proofs.
-/
import Derived.Test.YtpnfgmgoafgcbaaGreatFrA
import Derived.Test.YtpnfgmgoafgcbaaGreatA12
set_option linter.unusedVariables false
namespace Go.Proofs.YtpnfgmgoafgcbaaGreat
open Go.RowKit Go.Shelf Go.ChangeShapes Go.WideShapes Go.ChangeAt Go.Deep
theorem ints_flat : ∀ Q : List Int, Q.flatMap (fun q : Int => [Value.int .i64 q]) = Q.map (Value.int .i64)
  | [] => rfl
  | q :: Q => by rw [List.flatMap_cons, ints_flat Q]; rfl
section
variable {H : Type} {enc : TypeId × Value → H} {w : World} {base : Nat} {spare : Nat → Bool} {held : Bool} {v : Value} {d : DataW H} {p : List MemPlace} {r : Reach} {b0 : Nat}
set_option maxRecDepth 100000 in
/-- A hold that came in. -/
theorem open_hold (hv : Value.okWide Tryz.prog w r b0 53 v) (h : DataW.Trod enc Tryz.prog w base spare held 53 v d p) : ∃ (C : List Ct) (AC : Option Addr) (cC : Nat) (fn fd l0 l1 l2 : Int),
    v = .agg #[.slice AC C.length cC, .int .i64 fn, .int .i64 fd, .int .i64 l0, .int .i64 l1, .int .i64 l2] ∧ SlV w AC (C.flatMap ctV) ∧ C.length ≤ 9223372036854775807 ∧ (-9223372036854775808 ≤ fn ∧ fn ≤ 9223372036854775807) ∧ (-9223372036854775808 ≤ fd ∧ fd ≤ 9223372036854775807) := by
  obtain ⟨cs, n, rfl, hl, hg⟩ := open_struct Tryz.underlying53 hv h
  rw [show Tryz.prog.cellsOf 53 = 6 from by kernel_rfl] at hl
  obtain ⟨a, b, c, d, e, f, rfl⟩ := list6 hl
  obtain ⟨y0, h0⟩ := hg 0 _ rfl
  obtain ⟨y1, h1⟩ := hg 1 _ rfl
  obtain ⟨y2, h2⟩ := hg 2 _ rfl
  have c0 : Tryz.prog.cellsOf 48 = 1 := by kernel_rfl
  have c1 : Tryz.prog.cellsOf 50 = 2 := by kernel_rfl
  have c2 : Tryz.prog.cellsOf 51 = 3 := by kernel_rfl
  have h0 : DataW.trod enc Tryz.prog w base spare held n 48 (([a, b, c, d, e, f].drop 0).take (Tryz.prog.cellsOf 48)) = some y0 := h0
  have h1 : DataW.trod enc Tryz.prog w base spare held n 50 (([a, b, c, d, e, f].drop 1).take (Tryz.prog.cellsOf 50)) = some y1 := h1
  have h2 : DataW.trod enc Tryz.prog w base spare held n 51 (([a, b, c, d, e, f].drop 3).take (Tryz.prog.cellsOf 51)) = some y2 := h2
  rw [c0] at h0; rw [c1] at h1; rw [c2] at h2
  obtain ⟨A, cc, C, eA, hs, hn, _⟩ := slE_cells 5 ctV 5 (by decide) (fun _ => rfl) (fun ns hn => by obtain ⟨a, b, c, d, e, rfl⟩ := list5 hn; exact ⟨((a, b), (c, d), e), rfl⟩) Tryz.underlying48 (by kernel_rfl) (by kernel_rfl) h0
  obtain ⟨n1, e1, l1, w1⟩ := cells_flat 5 (by kernel_rfl) h1
  obtain ⟨n2, e2, l2, w2⟩ := cells_flat 5 (by kernel_rfl) h2
  obtain ⟨q1, q2, rfl⟩ := list2 (l1.trans c1)
  obtain ⟨r1, r2, r3, rfl⟩ := list3 (l2.trans c2)
  simp at eA e1 e2
  obtain ⟨rfl, rfl⟩ := e1
  obtain ⟨rfl, rfl, rfl⟩ := e2
  subst eA
  exact ⟨C, A, cc, q1, q2, r1, r2, r3, rfl, hs, hn, bounds64 (w1 _ (by simp)), bounds64 (w1 _ (by simp))⟩
set_option maxRecDepth 100000 in
/-- A pose that came in. -/
theorem open_pose (hv : Value.okWide Tryz.prog w r b0 33 v) (h : DataW.Trod enc Tryz.prog w base spare held 33 v d p) : ∃ (ps : Int) (Q : List Int) (AQ : Option Addr) (cQ : Nat),
    v = .agg #[.int .i64 ps, .slice AQ Q.length cQ] ∧ SlI w AQ Q ∧ Q.length ≤ 9223372036854775807 ∧ (-9223372036854775808 ≤ ps ∧ ps ≤ 9223372036854775807) ∧ ∀ q ∈ Q, -9223372036854775808 ≤ q ∧ q ≤ 9223372036854775807 := by
  obtain ⟨cs, n, rfl, hl, hg⟩ := open_struct Tryz.underlying33 hv h
  rw [show Tryz.prog.cellsOf 33 = 2 from by kernel_rfl] at hl
  obtain ⟨a, b, rfl⟩ := list2 hl
  obtain ⟨y0, h0⟩ := hg 0 _ rfl
  obtain ⟨y1, h1⟩ := hg 1 _ rfl
  have c0 : Tryz.prog.cellsOf 3 = 1 := by kernel_rfl
  have c1 : Tryz.prog.cellsOf 31 = 1 := by kernel_rfl
  have h0 : DataW.trod enc Tryz.prog w base spare held n 3 (([a, b].drop 0).take (Tryz.prog.cellsOf 3)) = some y0 := h0
  have h1 : DataW.trod enc Tryz.prog w base spare held n 31 (([a, b].drop 1).take (Tryz.prog.cellsOf 31)) = some y1 := h1
  rw [c0] at h0; rw [c1] at h1
  obtain ⟨n0, e0, l0, w0⟩ := cells_flat 5 (by kernel_rfl) h0
  obtain ⟨q0, rfl⟩ := list1 (l0.trans c0)
  obtain ⟨A, cc, Q, eA, hs, hn, _, _, _, hw⟩ := slE_cells 5 (fun q : Int => [Value.int .i64 q]) 1 (by decide) (fun _ => rfl) (fun ns hn => by obtain ⟨a, rfl⟩ := list1 hn; exact ⟨a, rfl⟩) Tryz.underlying31 (by kernel_rfl) (by kernel_rfl) h1
  rw [ints_flat] at hs
  simp at eA e0
  subst eA e0
  refine ⟨q0, Q, A, cc, rfl, fun j u hj => hs j _ (by rw [List.getElem?_map, hj]; rfl), hn, bounds64 (w0 _ (by simp)), fun q hq => ?_⟩
  obtain ⟨ns, e1, w1⟩ := hw q hq
  refine bounds64 (w1 q ?_)
  obtain ⟨a, rfl⟩ : ∃ a, ns = [a] := list1 (by have := congrArg List.length e1; simpa using this.symm)
  simp at e1
  simp [e1]
set_option maxRecDepth 100000 in
/-- A scene that came in. -/
theorem open_scene (hv : Value.okWide Tryz.prog w r b0 30 v) (h : DataW.Trod enc Tryz.prog w base spare held 30 v d p) : ∃ (bx bY sl : Int) (L : List Lk) (AL : Option Addr) (cL : Nat) (fx fX fy fY : Int) (B : List Bx) (AB : Option Addr) (cB : Nat),
    v = .agg #[.int .i64 bx, .int .i64 bY, .int .i64 sl, .slice AL L.length cL, .int .i64 fx, .int .i64 fX, .int .i64 fy, .int .i64 fY, .slice AB B.length cB] ∧ SlV w AL (L.flatMap lkV) ∧ SlV w AB (B.flatMap bxV) ∧ L.length ≤ 9223372036854775807 ∧ B.length ≤ 9223372036854775807 := by
  obtain ⟨cs, n, rfl, hl, hg⟩ := open_struct Tryz.underlying30 hv h
  rw [show Tryz.prog.cellsOf 30 = 9 from by kernel_rfl] at hl
  obtain ⟨a, b, c, d, e, f, g, i, j, rfl⟩ := list9 hl
  obtain ⟨y0, h0⟩ := hg 0 _ rfl
  obtain ⟨y1, h1⟩ := hg 1 _ rfl
  obtain ⟨y2, h2⟩ := hg 2 _ rfl
  obtain ⟨y3, h3⟩ := hg 3 _ rfl
  obtain ⟨y4, h4⟩ := hg 4 _ rfl
  have c0 : Tryz.prog.cellsOf 22 = 2 := by kernel_rfl
  have c1 : Tryz.prog.cellsOf 3 = 1 := by kernel_rfl
  have c2 : Tryz.prog.cellsOf 23 = 1 := by kernel_rfl
  have c3 : Tryz.prog.cellsOf 27 = 4 := by kernel_rfl
  have c4 : Tryz.prog.cellsOf 28 = 1 := by kernel_rfl
  have h0 : DataW.trod enc Tryz.prog w base spare held n 22 (([a, b, c, d, e, f, g, i, j].drop 0).take (Tryz.prog.cellsOf 22)) = some y0 := h0
  have h1 : DataW.trod enc Tryz.prog w base spare held n 3 (([a, b, c, d, e, f, g, i, j].drop 2).take (Tryz.prog.cellsOf 3)) = some y1 := h1
  have h2 : DataW.trod enc Tryz.prog w base spare held n 23 (([a, b, c, d, e, f, g, i, j].drop 3).take (Tryz.prog.cellsOf 23)) = some y2 := h2
  have h3 : DataW.trod enc Tryz.prog w base spare held n 27 (([a, b, c, d, e, f, g, i, j].drop 4).take (Tryz.prog.cellsOf 27)) = some y3 := h3
  have h4 : DataW.trod enc Tryz.prog w base spare held n 28 (([a, b, c, d, e, f, g, i, j].drop 8).take (Tryz.prog.cellsOf 28)) = some y4 := h4
  rw [c0] at h0; rw [c1] at h1; rw [c2] at h2; rw [c3] at h3; rw [c4] at h4
  obtain ⟨n0, e0, l0, _⟩ := cells_flat 5 (by kernel_rfl) h0
  obtain ⟨n1, e1, l1, _⟩ := cells_flat 5 (by kernel_rfl) h1
  obtain ⟨AL, cL, L, eL, hL, nL, _⟩ := slE_cells 5 lkV 3 (by decide) (fun _ => rfl) (fun ns hn => by obtain ⟨a, b, c, rfl⟩ := list3 hn; exact ⟨(a, b, c), rfl⟩) Tryz.underlying23 (by kernel_rfl) (by kernel_rfl) h2
  obtain ⟨n3, e3, l3, _⟩ := cells_flat 5 (by kernel_rfl) h3
  obtain ⟨AB, cB, B, eB, hB, nB, _⟩ := slE_cells 5 bxV 4 (by decide) (fun _ => rfl) (fun ns hn => by obtain ⟨a, b, c, d, rfl⟩ := list4 hn; exact ⟨(a, b, c, d), rfl⟩) Tryz.underlying28 (by kernel_rfl) (by kernel_rfl) h4
  obtain ⟨x0, x1, rfl⟩ := list2 (l0.trans c0)
  obtain ⟨x2, rfl⟩ := list1 (l1.trans c1)
  obtain ⟨z0, z1, z2, z3, rfl⟩ := list4 (l3.trans c3)
  simp at e0 e1 eL e3 eB
  obtain ⟨rfl, rfl⟩ := e0
  obtain ⟨rfl, rfl, rfl, rfl⟩ := e3
  subst e1 eL eB
  exact ⟨x0, x1, x2, L, AL, cL, z0, z1, z2, z3, B, AB, cB, rfl, hL, hB, nL, nB⟩
end

end Go.Proofs.YtpnfgmgoafgcbaaGreat

/-
  How a slice of structs that hold slices is opened, in plain words: the reached poses of chapter 6.
-/
import Derived.Test.YtpnfgmgoafgcbaaGreatG5
import Derived.Test.YtpnfgmgoafgcbaaGreatRMo
set_option linter.unusedVariables false
namespace Go.Proofs.YtpnfgmgoafgcbaaGreat
open Go.RowKit Go.Shelf Go.ChangeShapes Go.WideShapes Go.ChangeAt Go.Deep
section
variable {H : Type} {enc : TypeId × Value → H} {P : Program} {w : World} {base : Nat} {spare : Nat → Bool} {held : Bool} {v : Value} {d : DataW H} {p : List MemPlace} {r : Reach} {b0 : Nat}
/-- A slice whose elements are opened by hdec: its cells. -/
theorem slP_cells {α : Type} (en : α → List Value) (Good : α → Prop) (K : Nat) (hk0 : 0 < K) (hen : ∀ x, (en x).length = K) {t e : TypeId} {fuel : Nat} {cs : List Value} {x : DataW H × List MemPlace}
    (hdec : ∀ (n : Nat) (cs : List Value) (y : DataW H × List MemPlace), DataW.trod enc P w base spare held n e cs = some y → ∃ s, en s = cs ∧ Good s)
    (ht : P.underlying t = some (.slice e)) (hC : P.cellsOf e = K) (hf : DataW.trod enc P w base spare held fuel t cs = some x) :
    ∃ (A : Option Addr) (c : Nat) (xs : List α), cs = [.slice A xs.length c] ∧ SlV w A (xs.flatMap en) ∧ xs.length ≤ 9223372036854775807 ∧ ∀ s ∈ xs, Good s := by
  rcases open_slice ht hf with ⟨hcs, _⟩ | ⟨a, l, c, m, n, D, Pl, hcs, hb, hl, hm, hmm, _, hx⟩
  · exact ⟨none, 0, [], hcs, fun j u hj => by simp at hj, by simp, by simp⟩
  · have hml : l ≤ m := by rw [hmm]; split <;> omega
    obtain ⟨xs, hxl, hxq⟩ := exists_list (α := α) (Q := fun i s => w.cells? base (a.add (i * K)) K = some (en s) ∧ Good s) l (fun i hi' => by
      obtain ⟨cs', h1, h2⟩ := hx i (by omega)
      obtain ⟨s, hs, hw⟩ := hdec _ _ _ h2
      rw [hC, ← hs] at h1
      exact ⟨s, h1, hw⟩)
    refine ⟨some a, c, xs, by rw [hxl]; exact hcs, fun j u hj => ?_, by rw [hxl]; unfold maxLen at hm; omega, fun s hs => ?_⟩
    · have hjl : j < xs.length * K := by have := (List.getElem?_eq_some_iff.1 hj).1; rwa [flatK_len (enc := en) (k := K) hen] at this
      have hk : j / K < xs.length := Nat.div_lt_of_lt_mul (by rw [Nat.mul_comm]; exact hjl)
      have hr : j % K < K := Nat.mod_lt _ hk0
      have hjk : j / K * K + j % K = j := by rw [Nat.mul_comm]; exact Nat.div_add_mod j K
      have hxk : xs[j / K]? = some xs[j / K] := List.getElem?_eq_getElem hk
      obtain ⟨hc1, _⟩ := hxq (j / K) _ hxk
      obtain ⟨_, hcl, hc2⟩ := World.cells?_some hc1
      have h1 := flatK_get (enc := en) (k := K) hen xs (j / K) _ (j % K) hxk hr
      rw [hjk, hj] at h1
      have h2 := hc2 (j % K) hr
      rw [← h1] at h2
      obtain ⟨b, off, spot⟩ := a
      have hspot : spot = none := by
        obtain ⟨q1, _⟩ := hxq 0 _ (List.getElem?_eq_getElem (show 0 < xs.length from Nat.lt_of_le_of_lt (Nat.zero_le _) hk))
        obtain ⟨_, hq2, q2⟩ := World.cells?_some q1
        have q3 := q2 0 hk0
        have q4 : ((⟨b, off, spot⟩ : Addr).add (0 * K)).add 0 = ⟨b, off, spot⟩ := by simp [Addr.add]
        rw [q4, List.getElem?_eq_getElem (by rw [hen]; exact hk0)] at q3
        exact World.cell?_spot q3
      subst hspot
      have e1 : ((⟨b, off, none⟩ : Addr).add (j / K * K)).add (j % K) = ⟨b, off + j, none⟩ := by
        have : off + j / K * K + j % K = off + j := by omega
        have e0 : ∀ o k, (⟨b, o, none⟩ : Addr).add k = ⟨b, o + k, none⟩ := fun o k => by unfold Addr.add; split <;> simp [*]
        rw [e0, e0, this]
      rw [e1] at h2
      refine ⟨b, off, rfl, ?_, h2⟩
      unfold World.cell? at h2
      split at h2
      · rename_i hh; exact (Array.getElem?_eq_some_iff.1 hh).1
      · cases h2
    · obtain ⟨i, hi'⟩ := List.getElem?_of_mem hs
      exact (hxq i s hi').2
theorem open_slP {α : Type} (en : α → List Value) (Good : α → Prop) (K : Nat) (hk0 : 0 < K) (hen : ∀ x, (en x).length = K) {t e : TypeId}
    (hdec : ∀ (n : Nat) (cs : List Value) (y : DataW H × List MemPlace), DataW.trod enc P w base spare held n e cs = some y → ∃ s, en s = cs ∧ Good s)
    (ht : P.underlying t = some (.slice e)) (hC : P.cellsOf e = K) (hv : Value.okWide P w r b0 t v) (h : DataW.Trod enc P w base spare held t v d p) :
    ∃ (A : Option Addr) (c : Nat) (xs : List α), v = .slice A xs.length c ∧ SlV w A (xs.flatMap en) ∧ xs.length ≤ 9223372036854775807 ∧ ∀ s ∈ xs, Good s := by
  obtain ⟨a0, len, cap, rfl⟩ := okWide_slice ht hv
  obtain ⟨fuel, hf⟩ := h
  obtain ⟨A, c, xs, hcs, rest⟩ := slP_cells en Good K hk0 hen hdec ht hC hf
  simp [Value.cells] at hcs
  obtain ⟨rfl, rfl, rfl⟩ := hcs
  exact ⟨_, _, xs, rfl, rest⟩
end
section
variable {H : Type} {enc : TypeId × Value → H} {w : World} {base : Nat} {spare : Nat → Bool} {held : Bool} {v : Value} {d : DataW H} {p : List MemPlace} {r : Reach} {b0 : Nat}
def RcGood (w : World) (x : Rc) : Prop := SlI w x.1.2.1 x.1.1.2 ∧ x.1.1.2.length ≤ 9223372036854775807 ∧ -9223372036854775808 ≤ x.2 ∧ x.2 ≤ 9223372036854775807
set_option maxRecDepth 100000 in
/-- Reached poses that came in. -/
theorem open_reached (hv : Value.okWide Tryz.prog w r b0 96 v) (h : DataW.Trod enc Tryz.prog w base spare held 96 v d p) : ∃ (A : Option Addr) (c : Nat) (xs : List Rc),
    v = .slice A xs.length c ∧ SlV w A (xs.flatMap rcV) ∧ xs.length ≤ 9223372036854775807 ∧ ∀ s ∈ xs, RcGood w s := by
  refine open_slP rcV (RcGood w) 3 (by decide) (fun _ => rfl) (fun n cs y hy => ?_) Tryz.underlying96 (by kernel_rfl) hv h
  have c0 : Tryz.prog.cellsOf 33 = 2 := by kernel_rfl
  have c2 : Tryz.prog.cellsOf 3 = 1 := by kernel_rfl
  have c3 : Tryz.prog.cellsOf 31 = 1 := by kernel_rfl
  obtain ⟨xs, n', _, _, hl, hlen, hg⟩ := DataW.trod_struct Tryz.underlying98 hy
  rw [show Tryz.prog.cellsOf 98 = 3 from by kernel_rfl] at hl
  obtain ⟨a, b, c, rfl⟩ := list3 hl
  obtain ⟨m, hm⟩ := trod_fields Tryz.underlying98 hy
  obtain ⟨y0, h0⟩ := hm 0 _ rfl
  obtain ⟨y1, h1⟩ := hm 1 _ rfl
  have h0 : DataW.trod enc Tryz.prog w base spare held m 33 (([a, b, c].drop 0).take (Tryz.prog.cellsOf 33)) = some y0 := h0
  have h1 : DataW.trod enc Tryz.prog w base spare held m 3 (([a, b, c].drop 2).take (Tryz.prog.cellsOf 3)) = some y1 := h1
  rw [c0] at h0; rw [c2] at h1
  obtain ⟨m2, hm2⟩ := trod_fields Tryz.underlying33 h0
  obtain ⟨z0, k0⟩ := hm2 0 _ rfl
  obtain ⟨z1, k1⟩ := hm2 1 _ rfl
  have k0 : DataW.trod enc Tryz.prog w base spare held m2 3 (([a, b].drop 0).take (Tryz.prog.cellsOf 3)) = some z0 := k0
  have k1 : DataW.trod enc Tryz.prog w base spare held m2 31 (([a, b].drop 1).take (Tryz.prog.cellsOf 31)) = some z1 := k1
  rw [c2] at k0; rw [c3] at k1
  obtain ⟨n0, e0, l0, w0⟩ := cells_flat 5 (by kernel_rfl) k0
  obtain ⟨q0, rfl⟩ := list1 (l0.trans c2)
  obtain ⟨A, cc, Q, eA, hs, hn, _, _, _, hw⟩ := slE_cells 5 (fun q : Int => [Value.int .i64 q]) 1 (by decide) (fun _ => rfl) (fun ns hn => by obtain ⟨a, rfl⟩ := list1 hn; exact ⟨a, rfl⟩) Tryz.underlying31 (by kernel_rfl) (by kernel_rfl) k1
  rw [ints_flat] at hs
  obtain ⟨n1, e1, l1, w1⟩ := cells_flat 5 (by kernel_rfl) h1
  obtain ⟨q1, rfl⟩ := list1 (l1.trans c2)
  simp at eA e0 e1
  subst eA e0 e1
  exact ⟨(((q0, Q), A, cc), q1), rfl, fun j u hj => hs j _ (by rw [List.getElem?_map, hj]; rfl), hn, bounds64 (w1 _ (by simp))⟩
end
end Go.Proofs.YtpnfgmgoafgcbaaGreat

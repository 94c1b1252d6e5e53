/-
  search of the reference (chapter 6): all reached poses, each with the least path to it.
-/
import Derived.Test.YtpnfgmgoafgcbaaGreatRMs
import Derived.Test.YtpnfgmgoafgcbaaGreatShP
import Derived.Test.YtpnfgmgoafgcbaaGreatMvC
import Derived.Test.YtpnfgmgoafgcbaaGreatG4
import Derived.Test.YtpnfgmgoafgcbaaGreatA4
import Derived.Test.YtpnfgmgoafgcbaaGreatPt
import Derived.Laws.AppendOwnNone
set_option linter.unusedVariables false
namespace Go.Proofs.YtpnfgmgoafgcbaaGreat
open Go.RowKit Go.Shelf
attribute [local go_sem] Oper.semAt_some
/-- A pose that was found with its path, and where both lie. -/
abbrev Se := (Ps × List Mv) × (Option Addr × Nat) × (Option Addr × Nat)
def seV (x : Se) : List Value := [.int .i64 x.1.1.1, .slice x.2.1.1 x.1.1.2.length x.2.1.2, .slice x.2.2.1 x.1.2.length x.2.2.2]
structure SeOk (x : Se) (W : World) : Prop where
  q : SlI W x.2.1.1 x.1.1.2
  qb : 0 < x.1.1.2.length → ∃ g cs, x.2.1.1 = some ⟨g, 0, none⟩ ∧ Box W g 3 cs
  p : SlV W x.2.2.1 (x.1.2.flatMap mvV)
  pb : 0 < x.1.2.length → ∃ g cs, x.2.2.1 = some ⟨g, 0, none⟩ ∧ Box W g 84 cs
  pn : x.1.2 = [] → x.2.2 = (none, 0)
theorem SlI.none_len {W : World} {A : Option Addr} {xs : List Int} (h : ¬ 0 < xs.length) : SlI W A xs := fun j u hj => by
  have e : xs = [] := List.eq_nil_of_length_eq_zero (by omega)
  rw [e] at hj; simp at hj
theorem SlV.none_len {W : World} {A : Option Addr} {xs : List Mv} (h : ¬ 0 < xs.length) : SlV W A (xs.flatMap mvV) := fun j u hj => by
  have e : xs = [] := List.eq_nil_of_length_eq_zero (by omega)
  rw [e] at hj; simp at hj
/-- What keeps all boxes of ints and of moves keeps it. -/
theorem SeOk.keep {x : Se} {W W' : World} (h : SeOk x W) (h3 : ∀ g cs, Box W g 3 cs → Box W' g 3 cs) (hM : ∀ g cs, Box W g 84 cs → Box W' g 84 cs) : SeOk x W' := by
  refine ⟨?_, fun hl => ?_, ?_, fun hl => ?_, h.pn⟩
  · by_cases hl : 0 < x.1.1.2.length
    · obtain ⟨g, cs, e, hb⟩ := h.qb hl
      have := h.q
      rw [e] at this ⊢
      exact this.same hb (h3 g cs hb)
    · exact SlI.none_len hl
  · obtain ⟨g, cs, e, hb⟩ := h.qb hl
    exact ⟨g, cs, e, h3 g cs hb⟩
  · by_cases hl : 0 < x.1.2.length
    · obtain ⟨g, cs, e, hb⟩ := h.pb hl
      have := h.p
      rw [e] at this ⊢
      exact this.same hb (hM g cs hb)
    · exact SlV.none_len hl
  · obtain ⟨g, cs, e, hb⟩ := h.pb hl
    exact ⟨g, cs, e, hM g cs hb⟩
theorem SeOk.below {x : Se} {W W' : World} (h : SeOk x W) (hb : Below W.heap.size W W') : SeOk x W' := h.keep (fun _ _ k => k.below hb k.lt) (fun _ _ k => k.below hb k.lt)
/-- What holds of the list all along. -/
structure SrI (s : Sc) (L : List (Ps × List Mv)) : Prop where
  nd : (L.map (·.1)).Nodup
  ok : ∀ x ∈ L, POk s x.1
  ln : ∀ (k : Nat) (x : Ps × List Mv), L[k]? = some x → x.2.length ≤ k
theorem SrI.len {s : Sc} {L : List (Ps × List Mv)} (h : SrI s L) : L.length ≤ (alP s).length := by
  have := nodup_le (L.map (·.1)) (alP s) h.nd (fun p hp => by obtain ⟨x, hx, rfl⟩ := List.mem_map.1 hp; exact mem_alP (h.ok x hx))
  simpa using this
theorem SrI.snoc {s : Sc} {L : List (Ps × List Mv)} (h : SrI s L) {i : Nat} {x : Ps × List Mv} (hx : L[i]? = some x) {q : Ps} (hq : POk s q) (hn : q ∉ L.map (·.1)) (m : Mv) : SrI s (L ++ [(q, x.2 ++ [m])]) := by
  refine ⟨?_, fun y hy => ?_, fun k y hy => ?_⟩
  · rw [List.map_append, List.nodup_append]
    refine ⟨h.nd, by simp, fun a ha b hb e1 => ?_⟩
    have : b = q := by simpa using hb
    rw [e1, this] at ha
    exact hn ha
  · rcases List.mem_append.1 hy with hy | hy
    · exact h.ok y hy
    · have : y = (q, x.2 ++ [m]) := by simpa using hy
      subst this; exact hq
  · rcases get_snoc hy with hy | ⟨rfl, rfl⟩
    · exact h.ln k y hy
    · have h1 := h.ln i x hx
      have h2 := (List.getElem?_eq_some_iff.1 hx).1
      simp
      omega
structure SrW (U : Nat) (s : Sc) (A : Option Addr) (c : Nat) (bs : List Se) (W : World) : Prop where
  own : W.ownsRow U 170 3 (.slice A bs.length c) bs.length (bs.flatMap seV)
  el : ∀ x ∈ bs, SeOk x W
  inv : SrI s (bs.map (·.1))
theorem SrW.below {U : Nat} {s : Sc} {A : Option Addr} {c : Nat} {bs : List Se} {W W' : World} (h : SrW U s A c bs W) (hb : Below W.heap.size W W') : SrW U s A c bs W' := ⟨own_below h.own hb, fun x hx => (h.el x hx).below hb, h.inv⟩
theorem SrW.drew {U : Nat} {s : Sc} {A : Option Addr} {c : Nat} {bs : List Se} {W : World} (h : SrW U s A c bs W) : SrW U s A c bs W.drew := h.below (Below.drew (Below.refl _ _))
theorem seCells {U c : Nat} {s : Sc} {A : Option Addr} {bs : List Se} {i : Nat} {y : Se} {W : World} (h : SrW U s A c bs W) (hy : bs[i]? = some y) :
    ∃ g, A = some ⟨g, 0, none⟩ ∧ g < W.heap.size ∧ W.cell? ⟨g, i * 3, none⟩ = some (.int .i64 y.1.1.1) ∧ W.cell? ⟨g, i * 3 + 1, none⟩ = some (.slice y.2.1.1 y.1.1.2.length y.2.1.2) ∧ W.cell? ⟨g, i * 3 + 2, none⟩ = some (.slice y.2.2.1 y.1.2.length y.2.2.2) := by
  have hil : i < bs.length := (List.getElem?_eq_some_iff.1 hy).1
  obtain ⟨g, cap, e, hg, hgl⟩ := own_pos h.own (by omega) (by decide)
  cases e
  obtain ⟨b, off, e, hb, hc⟩ := row_cells (enc := seV) (k := 3) (fun _ => rfl) (slv_own (by decide) h.own) (by omega) hy
  cases e
  have c0 := hc 0 (by omega); have c1 := hc 1 (by omega); have c2 := hc 2 (by omega)
  simp [seV] at c0 c1 c2
  exact ⟨g, rfl, hgl, c0, c1, c2⟩
theorem own_og {W W' : World} {b n sz b2 n2 sz2 : Nat} {e e2 : TypeId} {v v2 : Value} {xs xs2 : List Value} (h : W.ownsRow b e sz v n xs) (ho : W.ownsRow b2 e2 sz2 v2 n2 xs2) (ht : e ≠ e2) (hg : W.grownBy W' v2.ownBlock) : W'.ownsRow b e sz v n xs := own_same h fun g hg' => by
  obtain ⟨_, cs, hcs⟩ := own_blk h hg'
  exact (box_og hcs ho ht hg).trans (show W.heap[g]? = _ from hcs).symm
theorem infoFd : infoOk Tryz.prog 170 3 56 = true := by kernel_rfl
theorem any_mem {bs : List Se} {P : Ps} : bs.any (fun x => decide (x.1.1 = P)) = true ↔ P ∈ (bs.map (·.1)).map (·.1) := by
  simp [List.any_eq_true]
/-- How search ends. -/
def SrEnd (s : Sc) (R : List (Ps × List Mv)) (w : World) (e : Ending) (w' : World) : Prop :=
  ∃ (A : Option Addr) (c : Nat) (bs : List Se), e = .returned (.slice A bs.length c) ∧ SrW (w.heap.size + 2) s A c bs w' ∧ bs.map (·.1) = R ∧ Below w.heap.size w w'
def Se9 (W : World) (P : Ps) (s9 : Value) (wx : World) : Prop :=
  ∃ g D d, s9 = .pointer (some ⟨g, 0, none⟩) ∧ W.heap.size ≤ g ∧ Box wx g 33 #[.int .i64 P.1, .slice D P.2.length d] ∧ SlI wx D P.2 ∧ (0 < P.2.length → ∃ g cs, D = some ⟨g, 0, none⟩ ∧ Box wx g 3 cs) ∧ Below W.heap.size W wx
def Se12 (W : World) (p : List Mv) (s12 : Value) (wx : World) : Prop :=
  ∃ g c, s12 = .slice (some ⟨g, 0, none⟩) p.length c ∧ wx.ownsRow W.heap.size 84 2 (.slice (some ⟨g, 0, none⟩) p.length c) p.length (p.flatMap mvV) ∧ Below W.heap.size W wx
set_option maxHeartbeats 8000000 in
set_option maxRecDepth 100000 in
theorem rSearch_c (bx bY sl fx fX fy fY ps : Int) (L : List Lk) (B : List Bx) (Q : List Int) (AL AB AQ : Option Addr) (cL cB cQ : Nat) (w : World) (hS : SOk (⟨bx, bY, sl, L, (fx, fX, fy, fY), B⟩ : Sc)) (hp : POk (⟨bx, bY, sl, L, (fx, fX, fy, fY), B⟩ : Sc) (ps, Q)) (hs1 : SlV w AL (L.flatMap lkV)) (hs2 : SlV w AB (B.flatMap bxV)) (hs3 : SlI w AQ Q) :
    Calls Tryz.prog 112 #[.agg #[.int .i64 bx, .int .i64 bY, .int .i64 sl, .slice AL L.length cL, .int .i64 fx, .int .i64 fX, .int .i64 fy, .int .i64 fY, .slice AB B.length cB], .agg #[.int .i64 ps, .slice AQ Q.length cQ]] w (SrEnd (⟨bx, bY, sl, L, (fx, fX, fy, fY), B⟩ : Sc) (srP (⟨bx, bY, sl, L, (fx, fX, fy, fY), B⟩ : Sc) (ps, Q)) w) := by
  have hlen := hS.len
  have hpl := hp.len
  dsimp only at hlen hpl
  have CPc := Lib.hid (fun W (h : Below w.heap.size w W) => copyPoseX_c ps Q AQ cQ W (by omega) (hs3.below h))
  have MSd := Lib.hid (fun (p1 : Int) (Q1 : List Int) (h1 : POk (⟨bx, bY, sl, L, (fx, fX, fy, fY), B⟩ : Sc) (p1, Q1)) A c W (h : Below w.heap.size w W) (hv : SlI W A Q1) => rMoves_c bx bY sl fx fX fy fY p1 L B Q1 AL AB A cL cB c W hS h1 (hs1.below h) (hs2.below h) hv)
  have RMd := Lib.hid (fun (p1 : Int) (Q1 : List Int) (h1 : POk (⟨bx, bY, sl, L, (fx, fX, fy, fY), B⟩ : Sc) (p1, Q1)) (mj mb : Int) (hm : (mj, mb) ∈ mvs (⟨bx, bY, sl, L, (fx, fX, fy, fY), B⟩ : Sc) (p1, Q1)) A c W (hv : SlI W A Q1) => show Calls Tryz.prog 46 #[.agg #[.int .i64 p1, .slice A Q1.length c], .agg #[.int .i64 mj, .int .i64 mb]] W (RmX (mvd (p1, Q1) (mj, mb)) W) from by
    have hr := h1.rng hS
    have h6 := h1.sl6 hS
    have hpl := h1.len
    have hlen := hS.len
    obtain ⟨k1, k2, k3⟩ := mem_allM.1 (List.mem_filter.1 hm).1
    dsimp only at hr h6 hpl hlen k1 k2 k3
    exact rMovedX_c p1 mj mb Q1 A c W (by omega) (by omega) (by omega) (by omega) (fun q h => by have := hr q h; omega) hv)
  have HOKd := Lib.hid (fun (p1 : Ps) (h1 : POk (⟨bx, bY, sl, L, (fx, fX, fy, fY), B⟩ : Sc) p1) m (hm : m ∈ mvs (⟨bx, bY, sl, L, (fx, fX, fy, fY), B⟩ : Sc) p1) => (mayP_free h1 (List.mem_filter.1 hm).2).1)
  have HML := Lib.hid (fun (p1 : Ps) => show (mvs (⟨bx, bY, sl, L, (fx, fX, fy, fY), B⟩ : Sc) p1).length ≤ 1000 from by
    have h1 : (mvs (⟨bx, bY, sl, L, (fx, fX, fy, fY), B⟩ : Sc) p1).length ≤ (allM (⟨bx, bY, sl, L, (fx, fX, fy, fY), B⟩ : Sc)).length := List.length_filter_le _ _
    have h2 := allM_len (⟨bx, bY, sl, L, (fx, fX, fy, fY), B⟩ : Sc)
    dsimp only at h2
    omega)
  have hN := alP_len hS
  have HSL := Lib.hid (show ((⟨bx, bY, sl, L, (fx, fX, fy, fY), B⟩ : Sc)).L.length ≤ 3 from hlen.2)
  have HP := Lib.hid hp
  have HR0 := Lib.hid (show runB exP (allK (⟨bx, bY, sl, L, (fx, fX, fy, fY), B⟩ : Sc)) ((alP (⟨bx, bY, sl, L, (fx, fX, fy, fY), B⟩ : Sc)).length + 1 - 0) 0 [((ps, Q), [])] = srP (⟨bx, bY, sl, L, (fx, fX, fy, fY), B⟩ : Sc) (ps, Q) from rfl)
  have HK := Lib.hid (fun p1 => show allK (⟨bx, bY, sl, L, (fx, fX, fy, fY), B⟩ : Sc) p1 = (mvs (⟨bx, bY, sl, L, (fx, fX, fy, fY), B⟩ : Sc) p1).map (fun m => (m, mvd p1 m)) from rfl)
  have hQl : Q.length ≤ 3 := by omega
  clear hs1 hs2 hs3 hS hp hpl
  generalize srP (⟨bx, bY, sl, L, (fx, fX, fy, fY), B⟩ : Sc) (ps, Q) = R at *
  obtain ⟨u0, zM, hu0, hu1, hu2, hu3, hu4⟩ := infoOk_parts infoM
  obtain ⟨f0, zF, hf0, hf1, hf2, hf3, hf4⟩ := infoOk_parts infoFd
  generalize hsc : (⟨bx, bY, sl, L, (fx, fX, fy, fY), B⟩ : Sc) = sc at *
  clear hsc
  generalize hNN : (alP sc).length = N at *
  have HNN := Lib.hid hNN
  clear hNN
  go_enter Tryz.func112, Tryz.ntmps112
  go_wp2_with (first | (go_at_call 18; (with_reducible refine (CPc.out _ (by exact bB0)).mono ?_); rintro e w2 hE2; obtain ⟨D, d, rfl, hv2, hf2, hb2⟩ := hE2; have hz2 : w.heap.size + 1 + 1 ≤ w2.heap.size := (by have := hb2.size; (try simp at this); omega)) | fail)
  obtain ⟨W1, hW1⟩ : ∃ W1 : World, W1 = w2.alloc (.cells #[.int .i64 ps, .slice D Q.length d, .slice none 0 0] 170) := ⟨_, rfl⟩
  have G0 : Box W1 w.heap.size 30 #[.int .i64 bx, .int .i64 bY, .int .i64 sl, .slice AL L.length cL, .int .i64 fx, .int .i64 fX, .int .i64 fy, .int .i64 fY, .slice AB B.length cB] := by rw [hW1]; exact bX1 hb2
  have G1 : Box W1 w2.heap.size 170 #[.int .i64 ps, .slice D Q.length d, .slice none 0 0] := by rw [hW1]; exact bX0
  have G5 : Below w.heap.size w W1 := by rw [hW1]; exact bB1 hb2
  have GW : SrW (w.heap.size + 2) sc (some ⟨w2.heap.size, 0, none⟩) 1 [(((ps, Q), []), (D, d), (none, 0))] W1 := by
    refine ⟨by simpa [seV] using own_of_box G1 (by omega) (n := 1) (by unfold maxLen; omega) rfl, fun x hx => ?_, ⟨by simp, fun x hx => ?_, fun k x hx => ?_⟩⟩
    · have e : x = (((ps, Q), []), (D, d), (none, 0)) := by simpa using hx
      subst e
      rw [hW1]
      refine ⟨hv2.alloc _, fun hl => ?_, fun j u h => by simp at h, fun h => absurd h (by simp), fun _ => rfl⟩
      obtain ⟨g, cs, e, _, hb⟩ := hf2 hl
      exact ⟨g, cs, e, hb.alloc _⟩
    · have e : x = ((ps, Q), []) := by simpa using hx
      subst e
      exact HP.out
    · have h1 := (List.getElem?_eq_some_iff.1 hx).1
      simp at h1
      subst h1
      have e : x = ((ps, Q), []) := by simpa using hx.symm
      subst e
      simp
  rw [← hW1]
  clear hW1 hv2 hf2 hb2 hz2 G1 CPc HP
  generalize w2.heap.size = g2 at *
  go_loopw [5, 6] (fun o j wr => ∃ (i : Nat) (A : Option Addr) (c : Nat) (bs : List Se), o = .slice A bs.length c ∧ j = .int .i64 i ∧ i ≤ bs.length ∧ SrW (w.heap.size + 2) sc A c bs wr ∧ Hid (runB exP (allK sc) (N + 1 - i) i (bs.map (·.1)) = R) ∧ Box wr w.heap.size 30 #[.int .i64 bx, .int .i64 bY, .int .i64 sl, .slice AL L.length cL, .int .i64 fx, .int .i64 fX, .int .i64 fy, .int .i64 fY, .slice AB B.length cB] ∧ Below w.heap.size w wr) (fun _ j _ => N + 1 - (intOf j).toNat)
  case atStart => exact ⟨0, _, _, [(((ps, Q), []), (D, d), (none, 0))], rfl, rfl, by simp, GW, HR0.out, G0, G5⟩
  case round =>
    obtain ⟨i, A, c, bs, rfl, rfl, hi, hW, hR, hH, hB⟩ := hrel
    clear GW G0 G5 HR0
    have hbl := hW.inv.len
    rw [HNN.out] at hbl
    simp at hbl
    by_cases hlt : i < bs.length
    · obtain ⟨x, hx⟩ : ∃ x, bs[i]? = some x := ⟨_, List.getElem?_eq_getElem hlt⟩
      obtain ⟨gR, rfl, lR, z0, z1, z2⟩ := seCells hW hx
      have hxm := List.mem_of_getElem? hx
      have hxe := hW.el x hxm
      have hxo := hW.inv.ok x.1 (List.mem_map_of_mem hxm)
      obtain ⟨⟨⟨p1, Q1⟩, P1⟩, ⟨AQ1, cQ1⟩, ⟨AP1, cP1⟩⟩ := x
      dsimp only at z0 z1 z2 hxo
      have hxq := hxe.q
      dsimp only at hxq
      have MSc := Lib.hid (fun W (h : Below wr.heap.size wr W) => MSd.out p1 Q1 hxo AQ1 cQ1 W (hB.trans (h.mono hB.size)) (hxq.below h))
      have RMc0 := Lib.hid (fun mj mb hm => RMd.out p1 Q1 hxo mj mb hm AQ1 cQ1)
      have HOK := Lib.hid (HOKd.out (p1, Q1) hxo)
      have HML1 := HML.out (p1, Q1)
      have hR2 := hR.out
      rw [show N + 1 - i = (N - i) + 1 by omega] at hR2
      unfold runB at hR2
      rw [show (bs.map (·.1))[i]? = some ((p1, Q1), P1) by rw [List.getElem?_map, hx]; rfl] at hR2
      dsimp only at hR2
      unfold exdB at hR2
      dsimp only at hR2
      rw [HK.out (p1, Q1)] at hR2
      have HR2 := Lib.hid hR2
      clear hR2 hR hxm hxe hxo
      generalize mvs sc (p1, Q1) = M at *
      have HX := Lib.hid hx
      have HW := Lib.hid hW
      have HXQ := Lib.hid hxq
      clear hx hW hxq
      have zz0 := hH.cell 0; have zz1 := hH.cell 1; have zz2 := hH.cell 2; have zz3 := hH.cell 3; have zz4 := hH.cell 4; have zz5 := hH.cell 5; have zz6 := hH.cell 6; have zz7 := hH.cell 7; have zz8 := hH.cell 8
      simp at zz0 zz1 zz2 zz3 zz4 zz5 zz6 zz7 zz8
      have lH := hH.lt
      have i0 : 0 ≤ (i : Int) := by omega
      have i1 : (i : Int) < (bs.length : Int) := by omega
      have hBs := hB.size
      generalize hW5 : wr = W5 at *
      clear hW5
      go_wp2
      (refine region_open (by kernel_rfl) (fun R hR => ?_); refine heldR (S := (fun w' => Below W5.heap.size W5 w')) ?_ (fun hHeld => ?_); (focus ((try dsimp only); (((first | exact bB0 | exact bB1 hb3))))); have hO := Lib.hid (fun w' (hSw : (fun w' => Below W5.heap.size W5 w') w') => (by (try dsimp only at hSw); (have hcc := (bcell hSw).1; have sa0 := (hcc _ 0 lH).trans zz0; have sa1 := (hcc _ 1 lH).trans zz1; have sa2 := (hcc _ 2 lH).trans zz2; have sa3 := (hcc _ 3 lH).trans zz3; have sa4 := (hcc _ 4 lH).trans zz4; have sa5 := (hcc _ 5 lH).trans zz5; have sa6 := (hcc _ 6 lH).trans zz6; have sa7 := (hcc _ 7 lH).trans zz7; have sa8 := (hcc _ 8 lH).trans zz8; have sb0 := (hcc _ _ lR).trans z0; have sb1 := (hcc _ _ lR).trans z1); exact And.intro sa0 (And.intro sa1 (And.intro sa2 (And.intro sa3 (And.intro sa4 (And.intro sa5 (And.intro sa6 (And.intro sa7 (And.intro sa8 (And.intro sb0 sb1))))))))))); refine rgL 0 hO rfl ?_; refine rgN 1 rfl ?_; refine rgN 2 rfl ?_; refine rgN 3 rfl ?_; refine rgN 4 rfl ?_; refine rgL 5 hO rfl ?_; refine rgC 6 rfl (fun K hK => ?_); go_simp; ((go_at_call 49; (with_reducible refine (MSc.out _ (by exact bB0)).mono ?_); rintro e w3 hE3; obtain ⟨AM, cM, rfl, hoM, hb3⟩ := hE3; have hz3 : W5.heap.size ≤ w3.heap.size := (by have := hb3.size; (try simp at this); omega))); go_simp; refine hK.out _ _ ?_ (fun hHeld => ?_); (focus ((try dsimp only); (((first | exact bB1 hb3 | exact bB0))))); clear hK K; (try simp only [Act.put, pqs]); refine rgN 7 rfl ?_; refine wpAnyH_done (Q := fun e a w => e = Exit.normal ∧ R a w) (by kernel_rfl) ⟨rfl, hR _ _ ?_⟩ _; clear hR R)
      have hb5 : Below W5.heap.size W5 w3 := by exact bB1 hb3
      obtain ⟨V, hV⟩ : ∃ V, V = W5.heap.size + 2 := ⟨_, rfl⟩
      have hoM' : w3.ownsRow V 84 2 (.slice AM M.length cM) M.length (M.flatMap mvV) := by rw [hV]; exact hoM
      have HM0 := Lib.hid hoM'
      have hW3 := HW.out.below hb5
      have hH3 := hH.below hb5 lH
      have hB3 : Below w.heap.size w w3 := by exact bB2 hb5 hB
      have hVw : w.heap.size ≤ V := by omega
      clear hoM hoM' hb3 hz3 hb5 hV HW HXQ MSc hH hB hBs zz0 zz1 zz2 zz3 zz4 zz5 zz6 zz7 zz8 lH lR z0 z1 z2
      go_wp2
      go_loopw [5, 8] (fun o j wr => ∃ (k : Nat) (A : Option Addr) (c : Nat) (bs : List Se), o = .slice A bs.length c ∧ j = .int .i64 k ∧ k ≤ M.length ∧ SrW (w.heap.size + 2) sc A c bs wr ∧ Hid (bs[i]? = some (((p1, Q1), P1), (AQ1, cQ1), AP1, cP1)) ∧ Hid (runB exP (allK sc) (N - i) (i + 1) (((M.drop k).map fun m => (m, mvd (p1, Q1) m)).foldl (stpB exP P1) (bs.map (·.1))) = R) ∧ wr.ownsRow V 84 2 (.slice AM M.length cM) M.length (M.flatMap mvV) ∧ Box wr w.heap.size 30 #[.int .i64 bx, .int .i64 bY, .int .i64 sl, .slice AL L.length cL, .int .i64 fx, .int .i64 fX, .int .i64 fy, .int .i64 fY, .slice AB B.length cB] ∧ Below w.heap.size w wr) (fun _ j _ => M.length - (intOf j).toNat)
      case atStart => exact ⟨0, _, _, bs, rfl, rfl, Nat.zero_le _, hW3, HX.out, HR2.out, HM0.out, hH3, hB3⟩
      case round =>
        obtain ⟨k, A, c, bs', rfl, rfl, hk, hW, hX, hR, hM, hH, hB⟩ := hrel
        clear hW3 hH3 hB3 HX HR2 HM0 hbl hi hlt i1
        have hbl := hW.inv.len
        rw [HNN.out] at hbl
        simp at hbl
        have hil := (List.getElem?_eq_some_iff.1 hX.out).1
        have i1 : (i : Int) < (bs'.length : Int) := by omega
        have hBs := hB.size
        generalize hW5 : wr = W5 at *
        clear hW5
        by_cases hk2 : k < M.length
        · obtain ⟨gR, rfl, lR, z0, z1, z2⟩ := seCells hW hX.out
          dsimp only at z0 z1 z2
          obtain ⟨⟨mj, mb⟩, hm⟩ : ∃ m, M[k]? = some m := ⟨_, List.getElem?_eq_getElem hk2⟩
          obtain ⟨bM, oM, hAM, lM, m0, m1⟩ := mv_cells (slv_own (by decide) hM) hm
          dsimp only at m0 m1
          subst hAM
          obtain ⟨gM, capM, e, hgM, hgMl⟩ := own_pos hM (by omega) (by decide)
          cases e
          simp only [Nat.zero_add] at m0 m1
          have hmem := List.mem_of_getElem? hm
          have hxe := hW.el _ (List.mem_of_getElem? hX.out)
          have hxq := hxe.q
          dsimp only at hxq
          have RMc := Lib.hid (fun W (h : Below W5.heap.size W5 W) => RMc0.out mj mb hmem W (hxq.below h))
          have hPo := HOK.out (mj, mb) hmem
          have hR2 := hR.out
          rw [show M.drop k = (mj, mb) :: M.drop (k + 1) from by
            obtain ⟨_, e⟩ := List.getElem?_eq_some_iff.1 hm
            rw [List.drop_eq_getElem_cons hk2, e]] at hR2
          simp only [List.map_cons, List.foldl_cons] at hR2
          generalize mvd (p1, Q1) (mj, mb) = P at *
          obtain ⟨q1, q2⟩ := P
          have HR2 := Lib.hid hR2
          have HPo := Lib.hid hPo
          have HXE := Lib.hid hxe
          have HW := Lib.hid hW
          have HM := Lib.hid hM
          have HMk := Lib.hid hm
          clear hR2 hR hPo hxe hxq hW hM hm hmem
          have k0 : 0 ≤ (k : Int) := by omega
          have k1 : (k : Int) < (M.length : Int) := by omega
          have lH := hH.lt
          go_upto_region 9 with fail
          go_cut [9] from 36 to 45 (fun s9 wx => Se9 W5 (q1, q2) s9 wx)
          case first =>
            ((focus (refine region_open (by kernel_rfl) (fun R hR => ?_); refine heldR (S := (fun w' => Below W5.heap.size W5 w')) ?_ (fun hHeld => ?_); (focus ((try dsimp only); (((first | exact bB0 | exact bB1 hb3))))); have hO := Lib.hid (fun w' (hSw : (fun w' => Below W5.heap.size W5 w') w') => (by (try dsimp only at hSw); (have hcc := (bcell hSw).1; have sb0 := (hcc _ _ lR).trans z0; have sb1 := (hcc _ _ lR).trans z1; have sc0 := (hcc _ _ lM).trans m0; have sc1 := (hcc _ _ lM).trans m1); exact And.intro sb0 (And.intro sb1 (And.intro sc0 sc1)))); refine rgN 0 rfl ?_; refine rgN 1 rfl ?_; refine rgN 2 rfl ?_; refine rgN 3 rfl ?_; refine rgL 4 hO rfl ?_; refine rgN 5 rfl ?_; refine rgN 6 rfl ?_; refine rgN 7 rfl ?_; refine rgL 8 hO rfl ?_; refine wpAnyH_ready (rs := [9, 10]) (by kernel_rfl) (by simp) ?_; (focus (refine AllReadyH.cons rfl (fun K hK => ?_) ?_; rotate_left; refine AllReadyH.cons rfl (fun K hK => ?_) ?_; rotate_left; exact AllReadyH.nil)); (focus (go_simp; ((go_at_call 46; (with_reducible refine (RMc.out _ (by exact bB0)).mono ?_); rintro e w3 hE3; obtain ⟨D, d, rfl, hv3, hf3, hb3⟩ := hE3; have hz3 : W5.heap.size ≤ w3.heap.size := (by have := hb3.size; (try simp at this); omega); have hf4 := Lib.hid hf3; clear hf3; (try (refine (fun (V3 : Box w3 W5.heap.size 33 #[.int .i64 0, .slice none 0 0]) => ?_) ?_; rotate_left; (focus (exact bX1 hb3)); have v30 := V3.cell 0; have v31 := V3.cell 1; have fv3 := V3.froz; have lv3 := V3.lt; (simp at v30 v31))))); go_simp; refine hK.out _ _ ?_ (fun hHeld => ?_); (focus ((try dsimp only); (((first | exact bB1 hb3 | exact bB0))))); clear hK K; (try simp only [Act.put, pqs]); refine rgC 10 rfl (fun K hK => ?_); go_simp; refine hK.out _ _ ?_ (fun hHeld => ?_); (focus ((try dsimp only); (((first | exact bB1 hb3 | exact bB0))))); clear hK K; (try simp only [Act.put, pqs]))); rotate_left; (focus (go_simp; refine hK.out _ _ ?_ (fun hHeld => ?_); (focus ((try dsimp only); (((first | exact bB1 hb3 | exact bB0))))); clear hK K; (try simp only [Act.put, pqs]); refine rgC 9 rfl (fun K hK => ?_); go_simp; ((go_at_call 46; (with_reducible refine (RMc.out _ (by exact bB0)).mono ?_); rintro e w3 hE3; obtain ⟨D, d, rfl, hv3, hf3, hb3⟩ := hE3; have hz3 : W5.heap.size ≤ w3.heap.size := (by have := hb3.size; (try simp at this); omega); have hf4 := Lib.hid hf3; clear hf3; (try (refine (fun (V3 : Box w3 W5.heap.size 33 #[.int .i64 0, .slice none 0 0]) => ?_) ?_; rotate_left; (focus (exact bX1 hb3)); have v30 := V3.cell 0; have v31 := V3.cell 1; have fv3 := V3.froz; have lv3 := V3.lt; (simp at v30 v31))))); go_simp; refine hK.out _ _ ?_ (fun hHeld => ?_); (focus ((try dsimp only); (((first | exact bB1 hb3 | exact bB0))))); clear hK K; (try simp only [Act.put, pqs]))); rotate_left; all_goals (refine rgC 11 rfl (fun K hK => ?_); go_simp; refine hK.out _ _ ?_ (fun hHeld => ?_); (focus ((try dsimp only); (((first | exact bB1 hb3 | exact bB0))))); clear hK K; (try simp only [Act.put, pqs]); refine wpAnyH_done (Q := fun e a w => e = Exit.normal ∧ R a w) (by kernel_rfl) ⟨rfl, hR _ _ ?_⟩ _; clear hR R; (go_wp2_with fail; go_meet; refine ⟨_, D, d, rfl, ?_, ?_, ?_, ?_, ?_⟩; (focus (first | omega | (simp; omega))); (focus (exact bX1 hb3)); (focus ((repeat (refine SlI.setf ?_ (fun hl b o e => by obtain ⟨gg, csg, e1, hg1, hx1⟩ := hf4.out hl; rw [e1] at e; cases e; have := hx1.lt; (try simp at hg1); (try simp); omega))); exact hv3.below (by exact bB0))); (focus (exact fun hl => by obtain ⟨gg, csg, e1, hg1, hx1⟩ := hf4.out hl; have hlg := hx1.lt; exact ⟨gg, csg, e1, by (try simp at hg1); exact bX0⟩)); (focus (exact bB1 hb3)))))))
          case rest =>
            obtain ⟨g9, D, d, rfl, hg9, hN, hD, hDb, hbW⟩ := hcut
            have hW9 := HW.out.below hbW
            have hM9 := own_below HM.out hbW
            have hH9 := hH.below hbW lH
            have hB9 : Below w.heap.size w wc := by exact bB2 hbW hB
            have HXE9 := Lib.hid (HXE.out.below hbW)
            have HD := Lib.hid hD
            have HDb := Lib.hid hDb
            clear hD hDb HW HM hH hB HXE RMc hbW z0 z1 z2 m0 m1 lR lM lH hBs hg9
            generalize wc = W9 at *
            have HW := Lib.hid hW9
            have HM := Lib.hid hM9
            have hH := hH9
            have hB := hB9
            clear hW9 hM9 hH9 hB9
            have lN9 := hN.lt
            have hml := hN.cell 0
            clear hml
            go_wp2
            go_loopw [10, 11] (fun b j wr => ∃ (jj : Nat) (kb : Bool), b = .bool kb ∧ j = .int .i64 jj ∧ jj ≤ bs'.length ∧ Hid (kb = (bs'.take jj).any fun x => decide (x.1.1 = (q1, q2))) ∧ Below W9.heap.size W9 wr) (fun _ j _ => bs'.length - (intOf j).toNat)
            case atStart => exact ⟨0, false, rfl, rfl, Nat.zero_le _, rfl, Below.refl _ _⟩
            case round =>
              obtain ⟨jj, kb, rfl, rfl, hj, hkb, hb⟩ := hrel
              by_cases hjl : jj < bs'.length
              · obtain ⟨y, hy⟩ : ∃ y, bs'[jj]? = some y := ⟨_, List.getElem?_eq_getElem hjl⟩
                have hWr := HW.out.below hb
                obtain ⟨gR2, e, lR, z0, z1, z2⟩ := seCells hWr hy
                cases e
                have hyq := (hWr.el y (List.mem_of_getElem? hy)).q
                obtain ⟨⟨⟨y1, yQ⟩, yP⟩, ⟨AY, cY⟩, ⟨AZ, cZ⟩⟩ := y
                dsimp only at z0 z1 z2 hyq
                have hNr := hN.below hb lN9
                have n0 := hNr.cell 0; have n1 := hNr.cell 1; have lN := hNr.lt
                simp at n0 n1
                have hyl : yQ.length ≤ 100000 := by
                  have := (hWr.inv.ok ((y1, yQ), yP) (by have := List.mem_map_of_mem (f := (·.1)) (List.mem_of_getElem? hy); exact this)).len
                  have hsl := HSL.out
                  dsimp only at this
                  omega
                have hql : q2.length ≤ 100000 := by
                  have := HPo.out.len
                  have hsl := HSL.out
                  dsimp only at this
                  omega
                have SPc := Lib.hid (fun W (h1 : SlI W AY yQ) (h2 : SlI W D q2) => samePose_c y1 q1 yQ q2 AY D cY d W hyl hql h1 h2)
                have HY := Lib.hid hy
                have HYQ := Lib.hid hyq
                clear hWr hy hyq hyl hql hNr
                have j0 : 0 ≤ (jj : Int) := by omega
                have j1 : (jj : Int) < (bs'.length : Int) := by omega
                have hstep : ∀ r : Bool, r = (kb || decide ((y1, yQ) = (q1, q2))) → r = (bs'.take (jj + 1)).any fun x => decide (x.1.1 = (q1, q2)) := fun r hr => by
                  rw [hr, hkb.out, List.take_add_one, HY.out, List.any_append]
                  simp
                have HST := Lib.hid hstep
                clear hstep hkb
                cases kb
                · go_wp2
                  (refine region_open (by kernel_rfl) (fun R hR => ?_); refine heldR (S := (fun w' => Below wr.heap.size wr w')) ?_ (fun hHeld => ?_); (focus ((try dsimp only); (((first | exact bB0 | exact bB1 hb3))))); have hO := Lib.hid (fun w' (hSw : (fun w' => Below wr.heap.size wr w') w') => (by (try dsimp only at hSw); (have hcc := (bcell hSw).1; have sb0 := (hcc _ _ lR).trans z0; have sb1 := (hcc _ _ lR).trans z1; have sc0 := (hcc _ 0 lN).trans n0; have sc1 := (hcc _ 1 lN).trans n1); exact And.intro sb0 (And.intro sb1 (And.intro sc0 sc1)))); refine rgN 0 rfl ?_; refine rgN 1 rfl ?_; refine rgN 2 rfl ?_; refine rgN 3 rfl ?_; refine rgN 4 rfl ?_; refine rgN 5 rfl ?_; refine rgL 6 hO rfl ?_; refine rgL 7 hO rfl ?_; refine rgC 8 rfl (fun K hK => ?_); go_simp; ((go_at_call 21; (with_reducible refine (SPc.out _ (HYQ.out.below (by exact bB0)) (HD.out.below (by exact bB1 hb))).mono ?_); rintro e w3 ⟨rfl, hb3⟩; have hz3 : wr.heap.size ≤ w3.heap.size := (by have := hb3.size; (try simp at this); omega))); go_simp; refine hK.out _ _ ?_ (fun hHeld => ?_); (focus ((try dsimp only); (((first | exact bB1 hb3 | exact bB0))))); clear hK K; (try simp only [Act.put, pqs]); refine rgN 9 rfl ?_; refine rgN 10 rfl ?_; refine wpAnyH_done (Q := fun e a w => e = Exit.normal ∧ R a w) (by kernel_rfl) ⟨rfl, hR _ _ ?_⟩ _; clear hR R)
                  go_wp2
                  go_roundw
                  case rel => exact ⟨jj + 1, _, rfl, by go_num, by omega, HST.out _ (by simp), by exact bB2 hb3 hb⟩
                  case measure => simp [intOf]; omega
                · go_wp2
                  (refine region_open (by kernel_rfl) (fun R hR => ?_); refine heldR (S := (fun w' => Below wr.heap.size wr w')) ?_ (fun hHeld => ?_); (focus ((try dsimp only); (((first | exact bB0 | exact bB0))))); refine rgN 0 rfl ?_; refine rgN 1 rfl ?_; refine tsH (i := 2) rfl (by assumption) ?_; refine tsH (i := 3) rfl (by assumption) ?_; refine tsH (i := 4) rfl (by assumption) ?_; refine tsH (i := 5) rfl (by assumption) ?_; refine tsH (i := 6) rfl (by assumption) ?_; refine tsH (i := 7) rfl (by assumption) ?_; refine tsH (i := 8) rfl (by assumption) ?_; refine rgN 9 rfl ?_; refine rgN 10 rfl ?_; refine wpAnyH_done (Q := fun e a w => e = Exit.normal ∧ R a w) (by kernel_rfl) ⟨rfl, hR _ _ ?_⟩ _; clear hR R)
                  go_wp2
                  go_roundw
                  case rel => exact ⟨jj + 1, true, rfl, by go_num, by omega, HST.out _ (by simp), by exact bB1 hb⟩
                  case measure => simp [intOf]; omega
              · have e : jj = bs'.length := by omega
                subst e
                rw [List.take_length] at hkb
                have hW5 := HW.out.below hb
                have hM5 := own_below HM.out hb
                have hH5 := hH.below hb hH.lt
                have hN5 := hN.below hb lN9
                have hB5 : Below w.heap.size w wr := by exact bB2 hb hB
                have hD5 := HD.out.below hb
                have hDb5 : 0 < q2.length → ∃ g cs, D = some ⟨g, 0, none⟩ ∧ Box wr g 3 cs := fun hl => by
                  obtain ⟨g, cs, e, hx⟩ := HDb.out hl
                  exact ⟨g, cs, e, hx.below hb hx.lt⟩
                have hXE5 := HXE9.out.below hb
                clear HW HM hH hN hB HD HDb HXE9 hb hj lN9
                generalize wr = W5 at *
                cases kb
                · have hnk : (q1, q2) ∉ (bs'.map (·.1)).map (·.1) := fun h => by
                    have := any_mem.2 h
                    rw [← hkb.out] at this
                    cases this
                  have hstp : stpB exP P1 (bs'.map (·.1)) ((mj, mb), (q1, q2)) = bs'.map (·.1) ++ [((q1, q2), P1 ++ [(mj, mb)])] := by unfold stpB; rw [if_neg hnk]; rfl
                  have hinv := hW5.inv.snoc (i := i) (x := ((p1, Q1), P1)) (by rw [List.getElem?_map, hX.out]; rfl) HPo.out hnk (mj, mb)
                  have hpl1 : P1.length ≤ 1000 := by
                    have := hW5.inv.ln i ((p1, Q1), P1) (by rw [List.getElem?_map, hX.out]; rfl)
                    dsimp only at this
                    omega
                  have hR3 := HR2.out
                  rw [hstp] at hR3
                  obtain ⟨gR2, e, lR, z0, z1, z2⟩ := seCells hW5 hX.out
                  cases e
                  dsimp only at z0 z1 z2
                  have hnl := hN5.lt
                  obtain ⟨bM2, oM2, e, lM, m0, m1⟩ := mv_cells (slv_own (by decide) hM5) HMk.out
                  cases e
                  simp only [Nat.zero_add] at m0 m1
                  obtain ⟨csM, hcM⟩ := own_some hM5
                  have c0 := (hcM.cell (k * 2)).symm.trans m0
                  have c1 := (hcM.cell (k * 2 + 1)).symm.trans m1
                  have HR3 := Lib.hid hR3
                  have HIN := Lib.hid hinv
                  have HW5 := Lib.hid hW5
                  have HM5 := Lib.hid hM5
                  have HD5 := Lib.hid hD5
                  have HDb5 := Lib.hid hDb5
                  have HXE5 := Lib.hid hXE5
                  have HC0 := Lib.hid c0
                  have HC1 := Lib.hid c1
                  clear hR3 hinv hstp hnk HR2 hkb hW5 hM5 hD5 hDb5 hXE5 m0 m1 z0 z1 c0 c1
                  have OW : (W5.alloc (.cells #[] 84)).ownsRow W5.heap.size 84 2 (.slice (some ⟨W5.heap.size, 0, none⟩) 0 0) 0 [] := by simpa using own_of_box (Box.new W5 84 #[]) (Nat.le_refl _) (n := 0) (by decide) rfl
                  go_upto_region 16 with fail
                  go_cut [12] from 64 to 70 (fun s12 wx => Se12 W5 P1 s12 wx)
                  case first =>
                    by_cases hP1 : P1 = []
                    · have e := HXE5.out.pn hP1
                      dsimp only at e
                      cases e
                      subst hP1
                      simp only [List.length_nil] at z2
                      go_wp2_with (at_builtin; go_must (refine wpList_append_own_none rfl _ _ 34 rfl W5.heap.size 84 u0 2 Tryz.underlying34 hu0 _ 0 [] rfl OW rfl ?_))
                      go_meet
                      exact ⟨W5.heap.size, 0, rfl, OW, by exact bB0⟩
                    · have hpos : 0 < P1.length := List.length_pos_iff.2 hP1
                      obtain ⟨gP, csP, e, hbP⟩ := HXE5.out.pb hpos
                      have hxp := HXE5.out.p
                      dsimp only at e hxp
                      subst e
                      have HCP := Lib.hid (slv_add (SlV.below hxp (show Below W5.heap.size W5 (W5.alloc (.cells #[] 84)) from by exact bB0)) ⟨gP, 0, none⟩ rfl)
                      have HOC := Lib.hid (show ∀ u ∈ P1.flatMap mvV, u.oneCell' = true from fun u hu => by
                        obtain ⟨m, _, hm⟩ := List.mem_flatMap.1 hu
                        simp [mvV] at hm
                        rcases hm with rfl | rfl <;> rfl)
                      have HLF := Lib.hid (len_flat (enc := mvV) (k := 2) (fun _ => rfl) P1)
                      have hm1 : 0 + P1.length ≤ maxLen := by unfold maxLen; omega
                      have hm2 : (0 + P1.length) * 16 ≤ 140737488355328 := by omega
                      clear hxp hP1
                      go_wp2_with (at_builtin; go_must (refine wpList_append_own _ rfl _ _ 34 rfl W5.heap.size 84 u0 zM 2 16 Tryz.underlying34 hu0 hu1 hu2 hu3 hu4 (by decide) _ 0 [] rfl OW ⟨gP, 0, none⟩ P1.length cP1 (P1.flatMap mvV) rfl HLF.out HCP.out HOC.out hm1 hm2 (by simp) ?_); intro v' wx hown1 hgrow1 _)
                      obtain ⟨g12, c12, rfl, _, _⟩ := own_pos hown1 (by omega) (by decide)
                      go_meet
                      exact ⟨g12, c12, by simp, by simpa using hown1, (show Below W5.heap.size W5 (W5.alloc (.cells #[] 84)) from by exact bB0).grown hgrow1 (by simp) (fun r e => by have e : some W5.heap.size = some r := e; cases e; exact Nat.le_refl _)⟩
                  case rest =>
                    clear OW
                    obtain ⟨g12, c12, rfl, ho12, hbX⟩ := hcut
                    have hg12 := (ho12.lt g12 rfl).1
                    have hWc := HW5.out.below hbX
                    have hMc := own_below HM5.out hbX
                    have hHc := hH5.below hbX hH5.lt
                    have hNc := hN5.below hbX hnl
                    have hcMc := hcM.below hbX lM
                    have hBc : Below w.heap.size w wc := by exact bB2 hbX hB5
                    have nM : bM ≠ g12 := by omega
                    have o12 : wc.drew.ownsRow W5.heap.size 84 2 (.slice (some ⟨g12, 0, none⟩) P1.length c12) P1.length (P1.flatMap mvV) := own_below ho12 (Below.drew (Below.refl _ _))
                    have oW : wc.drew.ownsRow (w.heap.size + 2) 170 3 (.slice (some ⟨gR, 0, none⟩) bs'.length c) bs'.length (bs'.flatMap seV) := own_below hWc.own (Below.drew (Below.refl _ _))
                    have hbl2 : bs'.length ≤ 1000 := by omega
                    have hm1 : P1.length + 1 ≤ maxLen := by unfold maxLen; omega
                    have hm2 : (P1.length + 1) * 16 ≤ 140737488355328 := by omega
                    have hm3 : bs'.length + 1 ≤ maxLen := by unfold maxLen; omega
                    have hm4 : (bs'.length + 1) * 56 ≤ 140737488355328 := by omega
                    have hzc := hbX.size
                    have hzw := hB5.size
                    have lNc := hNc.lt; have lMc := hcMc.lt
                    go_wp2
                    (refine region_open (by kernel_rfl) (fun R hR => ?_); refine heldR (S := (fun w' => Box w' g9 33 #[.int .i64 q1, .slice D q2.length d] ∧ Box w' bM 84 csM)) ?_ (fun hHeld => ?_); (focus ((try dsimp only); ((refine ⟨?_, ?_⟩ <;> (first | exact bX0 | exact bX0))))); have hO := Lib.hid (fun w' (hSw : (fun w' => Box w' g9 33 #[.int .i64 q1, .slice D q2.length d] ∧ Box w' bM 84 csM) w') => (by (try dsimp only at hSw); (obtain ⟨hSA, hSB⟩ := hSw; have sa0 := hSA.cell 0; have sa1 := hSA.cell 1; (simp at sa0 sa1); have sb0 := (hSB.cell (k * 2)).trans HC0.out; have sb1 := (hSB.cell (k * 2 + 1)).trans HC1.out); exact And.intro sa0 (And.intro sa1 (And.intro sb0 sb1)))); refine rgN 0 rfl ?_; refine rgL 1 hO rfl ?_; refine rgN 2 rfl ?_; refine rgN 3 rfl ?_; refine rgN 4 rfl ?_; refine rgN 5 rfl ?_; refine rgL 6 hO rfl ?_; refine rgC 7 rfl (fun K hK => ?_); go_simp; ((first | (refine step_append_lies _ rfl _ _ 34 rfl W5.heap.size 84 u0 zM 2 16 Tryz.underlying34 hu0 hu1 hu2 hu3 hu4 (by decide) (.slice (some ⟨g12, 0, none⟩) P1.length c12) _ _ rfl (o12.alloc _) ⟨wc.heap.size, 0, none⟩ 1 1 [.int .i64 mj, .int .i64 mb] rfl rfl (cells_new wc.drew [.int .i64 mj, .int .i64 mb] _) (by simp [Value.oneCell']) (by decide) hm1 hm2 (by simp; omega) _ rfl ?_; intro gN capN w4 hownP hgrowP hatP hltP; have N4 : Box w4 g9 33 #[.int .i64 q1, .slice D q2.length d] := box_og (hNc.drew.alloc _) (o12.alloc _) (by decide) hgrowP; have M4 : Box w4 bM 84 csM := box_keep (hcMc.drew.alloc _) hgrowP (fun e => nM (by cases e; rfl)); have oW4 := own_og (oW.alloc (.cells #[.int .i64 mj, .int .i64 mb] 84)) (o12.alloc _) (by decide) hgrowP; have hz4 : wc.heap.size ≤ w4.heap.size := (by have := hgrowP.size; simp at this; omega)) | (refine step_append_lies _ rfl _ _ 167 rfl (w.heap.size + 2) 170 f0 zF 3 56 Tryz.underlying167 hf0 hf1 hf2 hf3 hf4 (by decide) (.slice (some ⟨gR, 0, none⟩) bs'.length c) _ _ rfl (oW4.alloc _) ⟨w4.heap.size, 0, none⟩ 1 1 [.int .i64 q1, .slice D q2.length d, .slice (some ⟨gN, 0, none⟩) (P1.length + 1) capN] rfl rfl (cells_new w4 [.int .i64 q1, .slice D q2.length d, .slice (some ⟨gN, 0, none⟩) (P1.length + 1) capN] _) (by simp [Value.oneCell']) (by decide) hm3 hm4 (by simp; omega) _ rfl ?_; intro gF capF w6 hownF hgrowF hatF hltF; have N6 : Box w6 g9 33 #[.int .i64 q1, .slice D q2.length d] := box_og (N4.alloc _) (oW4.alloc _) (by decide) hgrowF; have M6 : Box w6 bM 84 csM := box_og (M4.alloc _) (oW4.alloc _) (by decide) hgrowF) | skip)); go_simp; refine hK.out _ _ ?_ (fun hHeld => ?_); (focus ((try dsimp only); ((refine ⟨?_, ?_⟩ <;> (first | exact bX0 | exact bX0))))); clear hK K; (try simp only [Act.put, pqs]); refine rgC 8 rfl (fun K hK => ?_); ((first | (refine step_append_lies _ rfl _ _ 34 rfl W5.heap.size 84 u0 zM 2 16 Tryz.underlying34 hu0 hu1 hu2 hu3 hu4 (by decide) (.slice (some ⟨g12, 0, none⟩) P1.length c12) _ _ rfl (o12.alloc _) ⟨wc.heap.size, 0, none⟩ 1 1 [.int .i64 mj, .int .i64 mb] rfl rfl (cells_new wc.drew [.int .i64 mj, .int .i64 mb] _) (by simp [Value.oneCell']) (by decide) hm1 hm2 (by simp; omega) _ rfl ?_; intro gN capN w4 hownP hgrowP hatP hltP; have N4 : Box w4 g9 33 #[.int .i64 q1, .slice D q2.length d] := box_og (hNc.drew.alloc _) (o12.alloc _) (by decide) hgrowP; have M4 : Box w4 bM 84 csM := box_keep (hcMc.drew.alloc _) hgrowP (fun e => nM (by cases e; rfl)); have oW4 := own_og (oW.alloc (.cells #[.int .i64 mj, .int .i64 mb] 84)) (o12.alloc _) (by decide) hgrowP; have hz4 : wc.heap.size ≤ w4.heap.size := (by have := hgrowP.size; simp at this; omega)) | (refine step_append_lies _ rfl _ _ 167 rfl (w.heap.size + 2) 170 f0 zF 3 56 Tryz.underlying167 hf0 hf1 hf2 hf3 hf4 (by decide) (.slice (some ⟨gR, 0, none⟩) bs'.length c) _ _ rfl (oW4.alloc _) ⟨w4.heap.size, 0, none⟩ 1 1 [.int .i64 q1, .slice D q2.length d, .slice (some ⟨gN, 0, none⟩) (P1.length + 1) capN] rfl rfl (cells_new w4 [.int .i64 q1, .slice D q2.length d, .slice (some ⟨gN, 0, none⟩) (P1.length + 1) capN] _) (by simp [Value.oneCell']) (by decide) hm3 hm4 (by simp; omega) _ rfl ?_; intro gF capF w6 hownF hgrowF hatF hltF; have N6 : Box w6 g9 33 #[.int .i64 q1, .slice D q2.length d] := box_og (N4.alloc _) (oW4.alloc _) (by decide) hgrowF; have M6 : Box w6 bM 84 csM := box_og (M4.alloc _) (oW4.alloc _) (by decide) hgrowF) | skip)); go_simp; refine hK.out _ _ ?_ (fun hHeld => ?_); (focus ((try dsimp only); ((refine ⟨?_, ?_⟩ <;> (first | exact bX0 | exact bX0))))); clear hK K; (try simp only [Act.put, pqs]); refine rgN 9 rfl ?_; refine rgC 10 rfl (fun K hK => ?_); go_simp; ((first | (refine step_append_lies _ rfl _ _ 34 rfl W5.heap.size 84 u0 zM 2 16 Tryz.underlying34 hu0 hu1 hu2 hu3 hu4 (by decide) (.slice (some ⟨g12, 0, none⟩) P1.length c12) _ _ rfl (o12.alloc _) ⟨wc.heap.size, 0, none⟩ 1 1 [.int .i64 mj, .int .i64 mb] rfl rfl (cells_new wc.drew [.int .i64 mj, .int .i64 mb] _) (by simp [Value.oneCell']) (by decide) hm1 hm2 (by simp; omega) _ rfl ?_; intro gN capN w4 hownP hgrowP hatP hltP; have N4 : Box w4 g9 33 #[.int .i64 q1, .slice D q2.length d] := box_og (hNc.drew.alloc _) (o12.alloc _) (by decide) hgrowP; have M4 : Box w4 bM 84 csM := box_keep (hcMc.drew.alloc _) hgrowP (fun e => nM (by cases e; rfl)); have oW4 := own_og (oW.alloc (.cells #[.int .i64 mj, .int .i64 mb] 84)) (o12.alloc _) (by decide) hgrowP; have hz4 : wc.heap.size ≤ w4.heap.size := (by have := hgrowP.size; simp at this; omega)) | (refine step_append_lies _ rfl _ _ 167 rfl (w.heap.size + 2) 170 f0 zF 3 56 Tryz.underlying167 hf0 hf1 hf2 hf3 hf4 (by decide) (.slice (some ⟨gR, 0, none⟩) bs'.length c) _ _ rfl (oW4.alloc _) ⟨w4.heap.size, 0, none⟩ 1 1 [.int .i64 q1, .slice D q2.length d, .slice (some ⟨gN, 0, none⟩) (P1.length + 1) capN] rfl rfl (cells_new w4 [.int .i64 q1, .slice D q2.length d, .slice (some ⟨gN, 0, none⟩) (P1.length + 1) capN] _) (by simp [Value.oneCell']) (by decide) hm3 hm4 (by simp; omega) _ rfl ?_; intro gF capF w6 hownF hgrowF hatF hltF; have N6 : Box w6 g9 33 #[.int .i64 q1, .slice D q2.length d] := box_og (N4.alloc _) (oW4.alloc _) (by decide) hgrowF; have M6 : Box w6 bM 84 csM := box_og (M4.alloc _) (oW4.alloc _) (by decide) hgrowF) | skip)); go_simp; refine hK.out _ _ ?_ (fun hHeld => ?_); (focus ((try dsimp only); ((refine ⟨?_, ?_⟩ <;> (first | exact bX0 | exact bX0))))); clear hK K; (try simp only [Act.put, pqs]); refine rgC 11 rfl (fun K hK => ?_); ((first | (refine step_append_lies _ rfl _ _ 34 rfl W5.heap.size 84 u0 zM 2 16 Tryz.underlying34 hu0 hu1 hu2 hu3 hu4 (by decide) (.slice (some ⟨g12, 0, none⟩) P1.length c12) _ _ rfl (o12.alloc _) ⟨wc.heap.size, 0, none⟩ 1 1 [.int .i64 mj, .int .i64 mb] rfl rfl (cells_new wc.drew [.int .i64 mj, .int .i64 mb] _) (by simp [Value.oneCell']) (by decide) hm1 hm2 (by simp; omega) _ rfl ?_; intro gN capN w4 hownP hgrowP hatP hltP; have N4 : Box w4 g9 33 #[.int .i64 q1, .slice D q2.length d] := box_og (hNc.drew.alloc _) (o12.alloc _) (by decide) hgrowP; have M4 : Box w4 bM 84 csM := box_keep (hcMc.drew.alloc _) hgrowP (fun e => nM (by cases e; rfl)); have oW4 := own_og (oW.alloc (.cells #[.int .i64 mj, .int .i64 mb] 84)) (o12.alloc _) (by decide) hgrowP; have hz4 : wc.heap.size ≤ w4.heap.size := (by have := hgrowP.size; simp at this; omega)) | (refine step_append_lies _ rfl _ _ 167 rfl (w.heap.size + 2) 170 f0 zF 3 56 Tryz.underlying167 hf0 hf1 hf2 hf3 hf4 (by decide) (.slice (some ⟨gR, 0, none⟩) bs'.length c) _ _ rfl (oW4.alloc _) ⟨w4.heap.size, 0, none⟩ 1 1 [.int .i64 q1, .slice D q2.length d, .slice (some ⟨gN, 0, none⟩) (P1.length + 1) capN] rfl rfl (cells_new w4 [.int .i64 q1, .slice D q2.length d, .slice (some ⟨gN, 0, none⟩) (P1.length + 1) capN] _) (by simp [Value.oneCell']) (by decide) hm3 hm4 (by simp; omega) _ rfl ?_; intro gF capF w6 hownF hgrowF hatF hltF; have N6 : Box w6 g9 33 #[.int .i64 q1, .slice D q2.length d] := box_og (N4.alloc _) (oW4.alloc _) (by decide) hgrowF; have M6 : Box w6 bM 84 csM := box_og (M4.alloc _) (oW4.alloc _) (by decide) hgrowF) | skip)); go_simp; refine hK.out _ _ ?_ (fun hHeld => ?_); (focus ((try dsimp only); ((refine ⟨?_, ?_⟩ <;> (first | exact bX0 | exact bX0))))); clear hK K; (try simp only [Act.put, pqs]); refine rgN 12 rfl ?_; refine wpAnyH_done (Q := fun e a w => e = Exit.normal ∧ R a w) (by kernel_rfl) ⟨rfl, hR _ _ ?_⟩ _; clear hR R)
                    have bD : Below W5.heap.size W5 (wc.drew.alloc (.cells #[.int .i64 mj, .int .i64 mb] 84)) := by exact bB1 hbX
                    have T3 : ∀ g cs, Box W5 g 3 cs → Box w6 g 3 cs := fun g cs h => box_og ((box_og (h.below bD h.lt) (o12.alloc _) (by decide) hgrowP).alloc _) (oW4.alloc _) (by decide) hgrowF
                    have T4 : ∀ g cs, Box W5 g 84 cs → Box w6 g 84 cs := fun g cs h => box_og ((box_keep (h.below bD h.lt) hgrowP (fun e => by have := h.lt; have e : some g12 = some g := e; cases e; omega)).alloc _) (oW4.alloc _) (by decide) hgrowF
                    obtain ⟨csN, hcN⟩ := own_some hownP
                    have hcN6 : Box w6 gN 84 csN := box_og (hcN.alloc _) (oW4.alloc _) (by decide) hgrowF
                    have hH6 : Box w6 w.heap.size 30 #[.int .i64 bx, .int .i64 bY, .int .i64 sl, .slice AL L.length cL, .int .i64 fx, .int .i64 fX, .int .i64 fy, .int .i64 fY, .slice AB B.length cB] := box_og ((box_og (hHc.drew.alloc _) (o12.alloc _) (by decide) hgrowP).alloc _) (oW4.alloc _) (by decide) hgrowF
                    have hM6 : w6.ownsRow V 84 2 (.slice (some ⟨bM, 0, none⟩) M.length cM) M.length (M.flatMap mvV) := own_same HM5.out (fun g hg => by
                      have e : bM = g := by simpa [Value.ownBlock] using hg
                      subst e
                      exact (T4 _ _ hcM).trans (show W5.heap[_]? = _ from hcM).symm)
                    have hB6 : Below w.heap.size w w6 := by
                      have b1 : Below w.heap.size w w4 := (show Below w.heap.size w (wc.drew.alloc (.cells #[.int .i64 mj, .int .i64 mb] 84)) from by exact bB1 hBc).grown hgrowP (by simp; omega) (fun r e => by have e : some g12 = some r := e; cases e; omega)
                      exact (b1.alloc (by have := b1.size; omega) _).grown hgrowF (by have := b1.size; simp; omega) (fun r e => by have := (own_blk oW4 (show (Value.slice (some ⟨gR, 0, none⟩) bs'.length c).ownBlock = some r from e)).1; omega)
                    have hS6 : SrW (w.heap.size + 2) sc (some ⟨gF, 0, none⟩) capF (bs' ++ [(((q1, q2), P1 ++ [(mj, mb)]), (D, d), (some ⟨gN, 0, none⟩, capN))]) w6 := by
                      refine ⟨by simpa [seV] using hownF, fun x hx => ?_, by rw [List.map_append]; exact HIN.out⟩
                      rcases List.mem_append.1 hx with hx | hx
                      · exact (HW5.out.el x hx).keep T3 T4
                      · have e : x = (((q1, q2), P1 ++ [(mj, mb)]), (D, d), (some ⟨gN, 0, none⟩, capN)) := by simpa using hx
                        subst e
                        refine ⟨?_, fun hl => ?_, ?_, fun _ => ⟨gN, csN, rfl, hcN6⟩, fun h => by simp at h⟩
                        · by_cases hl : 0 < q2.length
                          · obtain ⟨g, cs, e, hx⟩ := HDb5.out hl
                            have h := HD5.out
                            dsimp only
                            rw [e] at h ⊢
                            exact h.same hx (T3 g cs hx)
                          · exact SlI.none_len hl
                        · obtain ⟨g, cs, e, hx⟩ := HDb5.out hl
                          exact ⟨g, cs, e, T3 g cs hx⟩
                        · have h := slv_own (by decide) hownP
                          have h2 := h.same hcN hcN6
                          simpa [List.flatMap_append, mvV] using h2
                    have HS6 := Lib.hid hS6
                    have HX6 := Lib.hid (show (bs' ++ [(((q1, q2), P1 ++ [(mj, mb)]), (D, d), (some ⟨gN, 0, none⟩, capN))])[i]? = some (((p1, Q1), P1), (AQ1, cQ1), AP1, cP1) from by
                      rw [List.getElem?_append_left hil]; exact hX.out)
                    have HR6 := Lib.hid (show runB exP (allK sc) (N - i) (i + 1) (((M.drop (k + 1)).map fun m => (m, mvd (p1, Q1) m)).foldl (stpB exP P1) ((bs' ++ [((((q1, q2), P1 ++ [(mj, mb)]), (D, d), (some ⟨gN, 0, none⟩, capN)) : Se)]).map (·.1))) = R from by
                      rw [List.map_append]; exact HR3.out)
                    clear hS6 T3 T4
                    go_wp2
                    go_roundw
                    case rel => exact ⟨k + 1, some ⟨gF, 0, none⟩, capF, _, by rw [List.length_append]; rfl, by go_num, by omega, HS6.out, HX6.out, HR6.out, hM6, hH6, hB6⟩
                    case measure => simp [intOf]; omega
                · have hmm : (q1, q2) ∈ (bs'.map (·.1)).map (·.1) := any_mem.1 hkb.out.symm
                  have hstp : stpB exP P1 (bs'.map (·.1)) ((mj, mb), (q1, q2)) = bs'.map (·.1) := by unfold stpB; rw [if_pos hmm]
                  have hR3 := HR2.out
                  rw [hstp] at hR3
                  have HR3 := Lib.hid hR3
                  clear hR3 hstp hmm HR2 hkb
                  go_wp2
                  go_roundw
                  case rel => exact ⟨k + 1, _, _, bs', rfl, by go_num, by omega, hW5, hX.out, HR3.out, hM5, hH5, hB5⟩
                  case measure => simp [intOf]; omega
        · have e : k = M.length := by omega
          subst e
          rw [List.drop_length] at hR
          have HR4 := Lib.hid (show runB exP (allK sc) (N + 1 - (i + 1)) (i + 1) (bs'.map (·.1)) = R from by rw [show N + 1 - (i + 1) = N - i by omega]; exact hR.out)
          clear hR
          go_wp2
          go_roundw
          case rel => exact ⟨i + 1, _, _, bs', rfl, by go_num, by omega, hW, HR4.out, hH, hB⟩
          case measure => simp [intOf]; omega
    · have e : i = bs.length := by omega
      subst e
      have hR2 := hR.out
      have e : bs.map (·.1) = R := by
        rw [← hR2]
        cases hf : N + 1 - bs.length with
        | zero => rfl
        | succ f => unfold runB; rw [List.getElem?_eq_none (by simp)]
      go_wp2
      go_ret
      exact ⟨A, c, bs, rfl, hW, e, hB⟩
end Go.Proofs.YtpnfgmgoafgcbaaGreat

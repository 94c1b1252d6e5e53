/-
  The reference's cells of a pose, ascending (chapter 6).
  The cells of a pose in their order (chapter 6), in plain words: what the sort and Compact leave is what the reference inserts.
  JointsOf, CellsOf and IsFree of the program (chapter 6).
  The reference's cells of a pose (chapter 6).
-/
import Derived.Test.YtpnfgmgoafgcbaaGreatG6
import Derived.Test.YtpnfgmgoafgcbaaGreatRRe
import Derived.Test.YtpnfgmgoafgcbaaGreatG2
set_option linter.unusedVariables false
set_option linter.unusedSimpArgs false
set_option linter.unusedVariables false
namespace Go.Proofs.YtpnfgmgoafgcbaaGreat
open Go.RowKit Go.Shelf
attribute [local go_sem] Oper.semAt_some
attribute [local go_sem ↓] eql_ce' neq_ce'
/-- How many cells lie before a cell; ascending cells with a further one. -/
def atC (p : Ce) : List Ce → Nat
  | [] => 0
  | x :: r => if cmpC x p < 0 then atC p r + 1 else 0
def insC (l : List Ce) (p : Ce) : List Ce := if l[atC p l]? = some p then l else l.take (atC p l) ++ [p] ++ l.drop (atC p l)
theorem atC_le (p : Ce) : ∀ l, atC p l ≤ l.length
  | [] => Nat.le_refl _
  | x :: r => by
    have := atC_le p r
    simp only [atC]
    split <;> simp <;> omega
end Go.Proofs.YtpnfgmgoafgcbaaGreat
set_option linter.unusedVariables false
namespace Go.Proofs.YtpnfgmgoafgcbaaGreat
abbrev SrtC (l : List Ce) : Prop := l.Pairwise (fun a b => cmpC a b < 0)
theorem cmpC_zero {x y : Ce} : cmpC x y = 0 ↔ x = y := by
  obtain ⟨a, b⟩ := x; obtain ⟨c, d⟩ := y
  unfold cmpC
  rw [lexC_zero]
  simp
theorem cmpC_neg (x y : Ce) : cmpC y x = -cmpC x y := lexC_neg _ _
theorem cmpC_tr {x y z : Ce} (h1 : cmpC x y < 0) (h2 : cmpC y z < 0) : cmpC x z < 0 := lexC_tr h1 h2
theorem insC_nil (p : Ce) : insC [] p = [p] := by simp [insC, atC]
theorem insC_cons (x : Ce) (r : List Ce) (p : Ce) : insC (x :: r) p = if cmpC x p < 0 then x :: insC r p else if x = p then x :: r else p :: x :: r := by
  unfold insC
  simp only [atC]
  split
  · simp only [List.getElem?_cons_succ, List.take_succ_cons, List.drop_succ_cons]
    split <;> rfl
  · simp only [List.getElem?_cons_zero, Option.some.injEq, List.take_zero, List.drop_zero]
    split <;> rfl
theorem mem_insC {c p : Ce} : ∀ {l : List Ce}, c ∈ insC l p ↔ c = p ∨ c ∈ l
  | [] => by simp [insC_nil]
  | x :: r => by
    rw [insC_cons]
    split
    · rw [List.mem_cons, mem_insC (l := r), List.mem_cons]
      constructor
      · rintro (h | h | h) <;> simp [h]
      · rintro (h | h | h) <;> simp [h]
    · split
      · rename_i h; subst h
        simp
      · simp
theorem srt_insC {p : Ce} : ∀ {l : List Ce}, SrtC l → SrtC (insC l p)
  | [], _ => by rw [insC_nil]; exact List.pairwise_singleton _ _
  | x :: r, h => by
    have h' := List.pairwise_cons.1 h
    rw [insC_cons]
    split
    · rename_i hx
      refine List.pairwise_cons.2 ⟨fun y hy => ?_, srt_insC h'.2⟩
      rcases mem_insC.1 hy with rfl | hy
      · exact hx
      · exact h'.1 y hy
    · rename_i hx
      split
      · exact h
      · rename_i hne
        have hpx : cmpC p x < 0 := by
          rw [cmpC_neg x p]
          have : cmpC x p ≠ 0 := fun e => hne (cmpC_zero.1 e)
          omega
        refine List.pairwise_cons.2 ⟨fun y hy => ?_, h⟩
        rcases List.mem_cons.1 hy with rfl | hy
        · exact hpx
        · exact cmpC_tr hpx (h'.1 y hy)
theorem foldl_insC {l : List Ce} : ∀ {o : List Ce}, SrtC o → SrtC (l.foldl insC o) ∧ ∀ c, c ∈ l.foldl insC o ↔ c ∈ o ∨ c ∈ l := by
  induction l with
  | nil => intro o h; exact ⟨h, by simp⟩
  | cons x r ih =>
    intro o h
    obtain ⟨h1, h2⟩ := ih (o := insC o x) (srt_insC h)
    refine ⟨h1, fun c => ?_⟩
    rw [List.foldl_cons, h2, mem_insC, List.mem_cons]
    constructor
    · rintro ((h | h) | h) <;> simp [h]
    · rintro (h | h | h) <;> simp [h]
theorem mem_cpl {L : List Ce} {c : Ce} : ∀ k, c ∈ cpl L k ↔ ∃ i, i < k ∧ L[i]? = some c
  | 0 => by simp [cpl]
  | k + 1 => by
    simp only [cpl, List.mem_append, mem_cpl k]
    constructor
    · rintro (⟨i, h1, h2⟩ | h)
      · exact ⟨i, by omega, h2⟩
      · split at h
        · exact ⟨k, by omega, by simpa using h⟩
        · simp at h
    · rintro ⟨i, h1, h2⟩
      by_cases hi : i < k
      · exact .inl ⟨i, hi, h2⟩
      · obtain rfl : i = k := by omega
        by_cases hc : i = 0 ∨ L[i]? ≠ L[i - 1]?
        · right; rw [if_pos hc]; simpa using h2
        · left
          simp only [not_or, Decidable.not_not] at hc
          exact ⟨i - 1, by omega, by rw [← hc.2]; exact h2⟩
theorem srt_cpl {L : List Ce} (hL : L.Pairwise (fun a b => ¬ cmpC b a < 0)) : ∀ k, SrtC (cpl L k)
  | 0 => List.Pairwise.nil
  | k + 1 => by
    have ih := srt_cpl hL k
    simp only [cpl]
    split
    · rename_i hc
      cases hx : L[k]? with
      | none => simpa using ih
      | some x =>
        refine List.pairwise_append.2 ⟨ih, by simp, fun a ha b hb => ?_⟩
        obtain rfl : b = x := by simpa using hb
        obtain ⟨i, hi, ha⟩ := (mem_cpl k).1 ha
        have hk0 : k ≠ 0 := by omega
        have hne : L[k]? ≠ L[k - 1]? := by
          rcases hc with h | h
          · exact absurd h hk0
          · exact h
        have hkl := (List.getElem?_eq_some_iff.1 hx).1
        have hw := List.pairwise_iff_getElem.1 hL
        have hy : L[k - 1]? = some L[k - 1] := List.getElem?_eq_getElem (by omega)
        have e1 : L[k] = b := by rw [List.getElem?_eq_getElem hkl] at hx; exact Option.some.inj hx
        have h1 := hw (k - 1) k (by omega) hkl (by omega)
        rw [e1] at h1
        have h2 : cmpC L[k - 1] b < 0 := by
          rw [cmpC_neg b]
          have : cmpC b L[k - 1] ≠ 0 := fun e => hne (by rw [hx, hy, cmpC_zero.1 e])
          omega
        have hil := (List.getElem?_eq_some_iff.1 ha).1
        have e2 : L[i] = a := by rw [List.getElem?_eq_getElem hil] at ha; exact Option.some.inj ha
        by_cases hik : i = k - 1
        · subst hik; rw [← e2]; exact h2
        · have h3 := hw i (k - 1) hil (by omega) (by omega)
          rw [e2] at h3
          by_cases h4 : cmpC L[k - 1] a = 0
          · rw [← cmpC_zero.1 h4]; exact h2
          · refine cmpC_tr (y := L[k - 1]) ?_ h2
            rw [cmpC_neg (L[k - 1]) a]
            omega
    · simpa using ih
theorem srt_unique {l m : List Ce} (hl : SrtC l) (hm : SrtC m) (h : ∀ c, c ∈ l ↔ c ∈ m) : l = m := by
  have irr : ∀ a : Ce, ¬ cmpC a a < 0 := fun a => by rw [cmpC_zero.2 rfl]; omega
  have nd : ∀ {l : List Ce}, SrtC l → l.Nodup := fun h => h.imp (fun {a b} h e => by subst e; exact irr _ h)
  refine ((List.perm_ext_iff_of_nodup (nd hl) (nd hm)).2 (fun {c} => h c)).eq_of_pairwise (fun a b _ _ h1 h2 => ?_) hl hm
  exact absurd (cmpC_tr h1 h2) (irr a)
/-- What the program finds is what the reference finds. -/
theorem cells_is {ys tot fl : List Ce} (hp : ys.Perm tot) (hs : ys.Pairwise (fun a b => ¬ cmpC b a < 0)) (hm : ∀ c, c ∈ fl ↔ c ∈ tot) : cpl ys ys.length = fl.foldl insC [] := by
  obtain ⟨h1, h2⟩ := foldl_insC (l := fl) (o := []) List.Pairwise.nil
  refine srt_unique (srt_cpl hs _) h1 fun c => ?_
  rw [mem_cpl, h2, hm, ← hp.mem_iff]
  constructor
  · rintro ⟨i, _, h⟩
    exact .inr (List.mem_of_getElem? h)
  · rintro (h | h)
    · simp at h
    · obtain ⟨i, hi⟩ := List.getElem?_of_mem h
      exact ⟨i, (List.getElem?_eq_some_iff.1 hi).1, hi⟩
end Go.Proofs.YtpnfgmgoafgcbaaGreat
set_option linter.unusedVariables false
namespace Go.Proofs.YtpnfgmgoafgcbaaGreat
open Go.RowKit Go.Shelf
attribute [local go_sem] Oper.semAt_some
/-- Cells, or an error. -/
def CeO (R : List Ce × Int) (w : World) (e : Ending) (w' : World) : Prop := ∃ A c, e = .returned (.tuple #[.slice A R.1.length c, .int .i64 R.2]) ∧ SlV w' A (R.1.flatMap ceV) ∧ Below w.heap.size w w'
def celR (s : Sc) (p : Ps) : List Ce := (frP s p 0).foldl insC []
def ceO (s : Sc) (p : Ps) : List Ce × Int := if cpE s p ≠ 0 then ([], cpE s p) else (celR s p, 0)
theorem clP_ne {s : Sc} {p : Ps} (hS : SOk s) (hp : POk s p) : clP s p 0 ≠ [] := by
  have h1 := jts_len (s := s) (p := p) hp.len
  have h2 := hS.len.1
  show segs (jts s p) ≠ []
  match h3 : jts s p, h1 with
  | a :: b :: r, _ =>
    intro e
    have := congrArg List.length e
    simp [segs, seg_len] at this
  | [a], h1 => rw [List.length_singleton] at h1; omega
  | [], h1 => simp at h1
set_option maxHeartbeats 4000000 in
set_option maxRecDepth 100000 in
theorem cellsOf_c (bx bY sl fx fX fy fY ps : Int) (L : List Lk) (B : List Bx) (Q : List Int) (AL AB AQ : Option Addr) (cL cB cQ : Nat) (w : World) (hL : L.length ≤ 1000) (hB : B.length ≤ 9223372036854775807) (hQ : Q.length ≤ 9223372036854775807)
    (hs1 : SlV w AL (L.flatMap lkV)) (hs2 : SlV w AB (B.flatMap bxV)) (hs3 : SlI w AQ Q) :
    Calls Tryz.prog 58 #[.agg #[.int .i64 bx, .int .i64 bY, .int .i64 sl, .slice AL L.length cL, .int .i64 fx, .int .i64 fX, .int .i64 fy, .int .i64 fY, .slice AB B.length cB], .agg #[.int .i64 ps, .slice AQ Q.length cQ]] w (CeO (ceO (⟨bx, bY, sl, L, (fx, fX, fy, fY), B⟩ : Sc) (ps, Q)) w) := by
  have OPc := Lib.hid (fun W (h : Below w.heap.size w W) => open_c bx bY sl fx fX fy fY ps L B Q AL AB AQ cL cB cQ W (by omega) hB hQ (hs1.below h) (hs2.below h) (hs3.below h))
  have SOd := Lib.hid (fun (h0 : cpE (⟨bx, bY, sl, L, (fx, fX, fy, fY), B⟩ : Sc) (ps, Q) = 0) => fun W (h : Below w.heap.size w W) gA hA hF => by
    have hS := (cpE_ok h0).1; have hp := (cpE_ok h0).2
    have hne := clP_ne hS hp
    have hbx := hS.bx; have hbY := hS.bY; have hlen := hS.len; have hlk := hS.lk; have hsl := hp.sl6 hS
    dsimp only at hbx hbY hlen hlk hsl
    exact sorted_c gA bx bY sl fx fX fy fY ps L B Q AL AB AQ cL cB cQ W hp.len (by omega) hne (by omega) (by omega) (by omega) (fun l h => by have := hlk l h; omega) (hp.rng hS) (hs1.below h) (hs3.below h) hA hF)
  have HO := Lib.hid (show ceO (⟨bx, bY, sl, L, (fx, fX, fy, fY), B⟩ : Sc) (ps, Q) = if cpE (⟨bx, bY, sl, L, (fx, fX, fy, fY), B⟩ : Sc) (ps, Q) ≠ 0 then ([], cpE (⟨bx, bY, sl, L, (fx, fX, fy, fY), B⟩ : Sc) (ps, Q)) else (celR (⟨bx, bY, sl, L, (fx, fX, fy, fY), B⟩ : Sc) (ps, Q), 0) from rfl)
  have HC := Lib.hid (fun (h0 : cpE (⟨bx, bY, sl, L, (fx, fX, fy, fY), B⟩ : Sc) (ps, Q) = 0) (ys : List Ce) (k1 : ys.Perm (clP (⟨bx, bY, sl, L, (fx, fX, fy, fY), B⟩ : Sc) (ps, Q) 0)) (k2 : ys.Pairwise (fun a b => ¬ cmpC b a < 0)) => show cpl ys ys.length = celR (⟨bx, bY, sl, L, (fx, fX, fy, fY), B⟩ : Sc) (ps, Q) ∧ ys ≠ [] ∧ ys.length ≤ 10000 from by
    have hS := (cpE_ok h0).1; have hp := (cpE_ok h0).2
    have hne := clP_ne hS hp
    have hbx := hS.bx; have hbY := hS.bY; have hlen := hS.len; have hlk := hS.lk; have hsl := hp.sl6 hS
    have h3 := clP_len (s := (⟨bx, bY, sl, L, (fx, fX, fy, fY), B⟩ : Sc)) (p := (ps, Q)) hp.len hlen.2 (fun l h => by have := hlk l h; omega) (by dsimp only at *; omega) (by dsimp only at *; omega) (by dsimp only at *; omega)
    refine ⟨cells_is k1 k2 (mem_frP (fun z hz => (hlk z hz).1) hp.len hlen.1), fun e => hne ?_, by rw [k1.length_eq]; exact h3⟩
    subst e
    exact k1.symm.eq_nil)
  clear hs1 hs2 hs3
  generalize cpE (⟨bx, bY, sl, L, (fx, fX, fy, fY), B⟩ : Sc) (ps, Q) = r at *
  generalize celR (⟨bx, bY, sl, L, (fx, fX, fy, fY), B⟩ : Sc) (ps, Q) = J at *
  generalize clP (⟨bx, bY, sl, L, (fx, fX, fy, fY), B⟩ : Sc) (ps, Q) 0 = tot at *
  generalize ceO (⟨bx, bY, sl, L, (fx, fX, fy, fY), B⟩ : Sc) (ps, Q) = R at *
  go_enter Tryz.func58, Tryz.ntmps58
  go_upto_region 2 with (first | (go_at_call 106; refine (OPc.out _ (by exact bB0)).mono ?_; rintro e w2 ⟨rfl, hb2⟩; have hz2 : w.heap.size + 1 < w2.heap.size := (by have := hb2.size; (try simp at this); omega)) | fail)
  obtain ⟨W6, hW6⟩ : ∃ W6 : World, W6 = w2.alloc (.cells #[.int .i64 bx, .int .i64 bY, .int .i64 sl, .slice AL L.length cL, .int .i64 fx, .int .i64 fX, .int .i64 fy, .int .i64 fY, .slice AB B.length cB, .int .i64 ps, .slice AQ Q.length cQ] 135) := ⟨_, rfl⟩
  have G0 : Box W6 w2.heap.size 135 #[.int .i64 bx, .int .i64 bY, .int .i64 sl, .slice AL L.length cL, .int .i64 fx, .int .i64 fX, .int .i64 fy, .int .i64 fY, .slice AB B.length cB, .int .i64 ps, .slice AQ Q.length cQ] := (by rw [hW6]; exact Box.new _ _ _); have G5 : Below w.heap.size w W6 := (by rw [hW6]; exact bB1 hb2); (rw [← hW6]); clear hW6 hb2; generalize w2.heap.size = gS at *; have a0 := G0.cell 0; have a1 := G0.cell 1; have a2 := G0.cell 2; have a3 := G0.cell 3; have a4 := G0.cell 4; have a5 := G0.cell 5; have a6 := G0.cell 6; have a7 := G0.cell 7; have a8 := G0.cell 8; have a9 := G0.cell 9; have a10 := G0.cell 10; (simp at a0 a1 a2 a3 a4 a5 a6 a7 a8 a9 a10); have l0 := G0.lt
  by_cases hr : r = 0
  · have SOc := Lib.hid (SOd.out hr)
    have HCc := Lib.hid (HC.out hr)
    clear SOd OPc HC
    have hR := HO.out
    rw [if_neg (by simpa using hr)] at hR
    clear HO
    subst hr
    subst hR
    go_upto_region 5 with (first | (go_at_call 130; refine (callsIn_wide.1 (cells_in Fence.wide 0 trivial rfl _ _ _ _ _ _ _ _ _ _ _ _ _ _ _ _ _ _ _)).mono ?_; rintro e w3 ⟨rfl, rfl⟩) | (go_at_call 129; (with_reducible refine (SOc.out _ ?_ W6.heap.size ?_ ?_).mono ?_); rotate_left; rotate_left; rotate_left; rintro e w5 hE5; obtain ⟨A, cY, ys, rfl, hp5, hs5, ho5, hb5⟩ := hE5; rotate_left; (focus (exact bB1 G5)); (focus (exact bX0)); (focus (exact bX0))) | fail)
    obtain ⟨q1, q2, q3⟩ := HCc.out ys hp5 hs5
    obtain ⟨g, cg, e5, hg, hgl⟩ := own_pos ho5 (List.length_pos_iff.2 q2) (by decide)
    cases e5
    have CPc := Lib.hid (compact_c ys g cY _ w5 (by omega) q2 ho5)
    have HQ := Lib.hid q1
    have HB5 : Below w.heap.size w w5 := by exact bB2 G5 hb5
    have hbz := hb5.size
    clear hp5 hs5 ho5 hb5 q1 q2 q3 HCc
    go_wp2_with (first | (go_at_call 133; (with_reducible refine CPc.out.mono ?_); rintro e w7 hE7; obtain ⟨A7, c7, rfl, hv7, hb7⟩ := hE7) | fail)
    go_ret2
    rw [HQ.out] at hv7 ⊢
    exact ⟨_, _, rfl, hv7, HB5.trans (hb7.mono (by have := G5.size; simp; omega))⟩
  · have hR := HO.out
    rw [if_pos hr] at hR
    subst hR
    have e1 := bneT hr
    clear SOd OPc HO hr HC
    go_wp2_with fail
    go_ret2
    exact ⟨none, 0, rfl, fun j u h => by simp at h, G5⟩
def ifO (s : Sc) (p : Ps) : Bool := decide (cpE s p = 0) && freeP s p
set_option maxHeartbeats 4000000 in
set_option maxRecDepth 100000 in
theorem isFreeO_c (bx bY sl fx fX fy fY ps : Int) (L : List Lk) (B : List Bx) (Q : List Int) (AL AB AQ : Option Addr) (cL cB cQ : Nat) (w : World) (hL : L.length ≤ 1000) (hB : B.length ≤ 9223372036854775807) (hQ : Q.length ≤ 9223372036854775807)
    (hs1 : SlV w AL (L.flatMap lkV)) (hs2 : SlV w AB (B.flatMap bxV)) (hs3 : SlI w AQ Q) :
    Calls Tryz.prog 59 #[.agg #[.int .i64 bx, .int .i64 bY, .int .i64 sl, .slice AL L.length cL, .int .i64 fx, .int .i64 fX, .int .i64 fy, .int .i64 fY, .slice AB B.length cB], .agg #[.int .i64 ps, .slice AQ Q.length cQ]] w fun e w' => e = .returned (.tuple #[.bool (ifO (⟨bx, bY, sl, L, (fx, fX, fy, fY), B⟩ : Sc) (ps, Q)), .int .i64 (cpE (⟨bx, bY, sl, L, (fx, fX, fy, fY), B⟩ : Sc) (ps, Q))]) ∧ Below w.heap.size w w' := by
  have OPc := Lib.hid (fun W (h : Below w.heap.size w W) => open_c bx bY sl fx fX fy fY ps L B Q AL AB AQ cL cB cQ W (by omega) hB hQ (hs1.below h) (hs2.below h) (hs3.below h))
  have FRd := Lib.hid (fun (h0 : cpE (⟨bx, bY, sl, L, (fx, fX, fy, fY), B⟩ : Sc) (ps, Q) = 0) => fun W (h : Below w.heap.size w W) => by
    have hS := (cpE_ok h0).1; have hp := (cpE_ok h0).2
    have hbx := hS.bx; have hbY := hS.bY; have hlen := hS.len; have hlk := hS.lk; have hsl := hp.sl6 hS
    dsimp only at hbx hbY hlen hlk hsl
    exact isFree_c bx bY sl fx fX fy fY ps L B Q AL AB AQ cL cB cQ W hp.len (by omega) (by omega) (by omega) (by omega) (by omega) (fun l h => by have := hlk l h; omega) (hp.rng hS) (hs1.below h) (hs2.below h) (hs3.below h))
  have HO := Lib.hid (show ifO (⟨bx, bY, sl, L, (fx, fX, fy, fY), B⟩ : Sc) (ps, Q) = (decide (cpE (⟨bx, bY, sl, L, (fx, fX, fy, fY), B⟩ : Sc) (ps, Q) = 0) && freeP (⟨bx, bY, sl, L, (fx, fX, fy, fY), B⟩ : Sc) (ps, Q)) from rfl)
  clear hs1 hs2 hs3
  generalize cpE (⟨bx, bY, sl, L, (fx, fX, fy, fY), B⟩ : Sc) (ps, Q) = r at *
  generalize freeP (⟨bx, bY, sl, L, (fx, fX, fy, fY), B⟩ : Sc) (ps, Q) = f at *
  generalize ifO (⟨bx, bY, sl, L, (fx, fX, fy, fY), B⟩ : Sc) (ps, Q) = R at *
  go_enter Tryz.func59, Tryz.ntmps59
  go_upto_region 2 with (first | (go_at_call 106; refine (OPc.out _ (by exact bB0)).mono ?_; rintro e w2 ⟨rfl, hb2⟩; have hz2 : w.heap.size + 1 < w2.heap.size := (by have := hb2.size; (try simp at this); omega)) | fail)
  obtain ⟨W6, hW6⟩ : ∃ W6 : World, W6 = w2.alloc (.cells #[.int .i64 bx, .int .i64 bY, .int .i64 sl, .slice AL L.length cL, .int .i64 fx, .int .i64 fX, .int .i64 fy, .int .i64 fY, .slice AB B.length cB, .int .i64 ps, .slice AQ Q.length cQ] 135) := ⟨_, rfl⟩
  have G0 : Box W6 w2.heap.size 135 #[.int .i64 bx, .int .i64 bY, .int .i64 sl, .slice AL L.length cL, .int .i64 fx, .int .i64 fX, .int .i64 fy, .int .i64 fY, .slice AB B.length cB, .int .i64 ps, .slice AQ Q.length cQ] := (by rw [hW6]; exact Box.new _ _ _); have G5 : Below w.heap.size w W6 := (by rw [hW6]; exact bB1 hb2); (rw [← hW6]); clear hW6 hb2; generalize w2.heap.size = gS at *; have a0 := G0.cell 0; have a1 := G0.cell 1; have a2 := G0.cell 2; have a3 := G0.cell 3; have a4 := G0.cell 4; have a5 := G0.cell 5; have a6 := G0.cell 6; have a7 := G0.cell 7; have a8 := G0.cell 8; have a9 := G0.cell 9; have a10 := G0.cell 10; (simp at a0 a1 a2 a3 a4 a5 a6 a7 a8 a9 a10); have l0 := G0.lt
  by_cases hr : r = 0
  · have FRc := Lib.hid (FRd.out hr)
    clear FRd OPc
    have hR : R = f := by rw [HO.out]; simp [hr]
    clear HO
    subst hr
    subst hR
    go_wp2_with (first | (go_at_call 107; refine (FRc.out _ (by exact bB1 G5)).mono ?_; rintro e w5 ⟨rfl, hb5⟩) | fail)
    go_ret2
    exact ⟨rfl, by exact bB2 G5 hb5⟩
  · have hR : R = false := by rw [HO.out]; simp [hr]
    subst hR
    have e1 := beqF hr
    clear FRd OPc HO hr
    go_wp2_with fail
    go_ret2
    exact ⟨rfl, G5⟩
end Go.Proofs.YtpnfgmgoafgcbaaGreat
set_option linter.unusedVariables false
namespace Go.Proofs.YtpnfgmgoafgcbaaGreat
open Go.RowKit Go.Shelf
attribute [local go_sem] Oper.semAt_some
theorem insC_len (l : List Ce) (p : Ce) : (insC l p).length ≤ l.length + 1 := by
  have := atC_le p l
  unfold insC
  split
  · omega
  · simp; omega
theorem foldl_insC_len : ∀ (l o : List Ce), (l.foldl insC o).length ≤ o.length + l.length
  | [], o => by simp
  | x :: r, o => by
    have h1 := foldl_insC_len r (insC o x)
    have h2 := insC_len o x
    rw [List.foldl_cons, List.length_cons]
    omega
theorem celR_len {s : Sc} {p : Ps} (hS : SOk s) : (celR s p).length ≤ 100000 := by
  have h1 := foldl_insC_len (frP s p 0) []
  have h2 := frP_len (s := s) (p := p) (i := 0) (fun z h => by have := hS.lk z h; omega)
  have h3 := hS.len
  have h4 : celR s p = (frP s p 0).foldl insC [] := rfl
  rw [h4]
  simp at h1
  omega
end Go.Proofs.YtpnfgmgoafgcbaaGreat

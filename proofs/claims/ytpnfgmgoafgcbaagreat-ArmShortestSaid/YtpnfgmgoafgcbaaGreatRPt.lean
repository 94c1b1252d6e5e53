/-
  Path and PathToCell of the reference (chapter 6).
-/
import Derived.Test.YtpnfgmgoafgcbaaGreatRSe
import Derived.Test.YtpnfgmgoafgcbaaGreatG2
import Derived.Test.YtpnfgmgoafgcbaaGreatG1
set_option linter.unusedVariables false
namespace Go.Proofs.YtpnfgmgoafgcbaaGreat
open Go.RowKit Go.Shelf
attribute [local go_sem] Oper.semAt_some
attribute [local go_sem ↓] eql_ce'
/-- How Path and PathToCell end. -/
def RpEnd (r : Option (List Mv)) (w : World) (e : Ending) (w' : World) : Prop :=
  ∃ A c, e = .returned (.tuple #[.slice A (r.getD []).length c, .bool r.isSome]) ∧ SlV w' A ((r.getD []).flatMap mvV) ∧ Below w.heap.size w w'
theorem find_drop {α : Type} {f : α → Bool} {l : List α} {k : Nat} {x : α} (h : l[k]? = some x) : (l.drop k).find? f = if f x then some x else (l.drop (k + 1)).find? f := by
  obtain ⟨hk, e⟩ := List.getElem?_eq_some_iff.1 h
  rw [List.drop_eq_getElem_cons hk, e, List.find?_cons]
  cases f x <;> rfl
set_option maxHeartbeats 4000000 in
set_option maxRecDepth 100000 in
theorem rPath_c (bx bY sl fx fX fy fY ps pt : Int) (L : List Lk) (B : List Bx) (Q T : List Int) (AL AB AQ AT : Option Addr) (cL cB cQ cT : Nat) (w : World) (hS : SOk (⟨bx, bY, sl, L, (fx, fX, fy, fY), B⟩ : Sc)) (hp : POk (⟨bx, bY, sl, L, (fx, fX, fy, fY), B⟩ : Sc) (ps, Q)) (hT : T.length ≤ 100000) (hs1 : SlV w AL (L.flatMap lkV)) (hs2 : SlV w AB (B.flatMap bxV)) (hs3 : SlI w AQ Q) (hs4 : SlI w AT T) :
    Calls Tryz.prog 38 #[.agg #[.int .i64 bx, .int .i64 bY, .int .i64 sl, .slice AL L.length cL, .int .i64 fx, .int .i64 fX, .int .i64 fy, .int .i64 fY, .slice AB B.length cB], .agg #[.int .i64 ps, .slice AQ Q.length cQ], .agg #[.int .i64 pt, .slice AT T.length cT]] w (RpEnd (srF (⟨bx, bY, sl, L, (fx, fX, fy, fY), B⟩ : Sc) (ps, Q) fun z => decide (z = (pt, T))) w) := by
  have SEc := Lib.hid (fun W (h : Below w.heap.size w W) => rSearch_c bx bY sl fx fX fy fY ps L B Q AL AB AQ cL cB cQ W hS hp (hs1.below h) (hs2.below h) (hs3.below h))
  have HT := Lib.hid hs4
  have HF := Lib.hid (show srF (⟨bx, bY, sl, L, (fx, fX, fy, fY), B⟩ : Sc) (ps, Q) (fun z => decide (z = (pt, T))) = ((srP (⟨bx, bY, sl, L, (fx, fX, fy, fY), B⟩ : Sc) (ps, Q)).find? fun x => decide (x.1 = (pt, T))).map (·.2) from rfl)
  have hN := alP_len hS
  have HSL := Lib.hid (show ((⟨bx, bY, sl, L, (fx, fX, fy, fY), B⟩ : Sc)).L.length ≤ 3 from hS.len.2)
  clear hs1 hs2 hs3 hs4 hS hp
  generalize srF (⟨bx, bY, sl, L, (fx, fX, fy, fY), B⟩ : Sc) (ps, Q) (fun z => decide (z = (pt, T))) = R at *
  generalize srP (⟨bx, bY, sl, L, (fx, fX, fy, fY), B⟩ : Sc) (ps, Q) = LS at *
  generalize hsc : (⟨bx, bY, sl, L, (fx, fX, fy, fY), B⟩ : Sc) = sc at *
  clear hsc
  go_enter Tryz.func38, Tryz.ntmps38
  go_wp2_with (first | (go_at_call 112; (with_reducible refine (SEc.out _ (by exact bB0)).mono ?_); rintro e w2 hE2; obtain ⟨A, c, bs, rfl, hW, hbs, hb2⟩ := hE2; have hz2 : w.heap.size + 1 + 1 < w2.heap.size := (by have := hb2.size; (try simp at this); omega)) | fail)
  subst hbs
  have hN5 : Box w2 (w.heap.size + 1 + 1) 33 #[.int .i64 pt, .slice AT T.length cT] := by exact bX1 hb2
  have hB5 : Below w.heap.size w w2 := by exact bB1 hb2
  have hbl := hW.inv.len
  simp at hbl
  have hW := Lib.hid hW
  clear hb2 SEc
  generalize w2 = W5 at *
  have lN9 := hN5.lt
  go_loopw [9] (fun j wr => ∃ i : Nat, j = .int .i64 i ∧ i ≤ bs.length ∧ Hid (R = (((bs.map (·.1)).drop i).find? fun x => decide (x.1 = (pt, T))).map (·.2)) ∧ Below W5.heap.size W5 wr) (fun j _ => bs.length - (intOf j).toNat)
  case atStart => exact ⟨0, rfl, Nat.zero_le _, HF.out, Below.refl _ _⟩
  case round =>
    obtain ⟨i, rfl, hi, hR, hb⟩ := hrel
    clear HF
    by_cases hlt : i < bs.length
    · obtain ⟨x, hx⟩ : ∃ x, bs[i]? = some x := ⟨_, List.getElem?_eq_getElem hlt⟩
      have hWr := hW.out.below hb
      obtain ⟨gR, rfl, lR, z0, z1, z2⟩ := seCells hWr hx
      have hxe := hWr.el x (List.mem_of_getElem? hx)
      have hxo := hWr.inv.ok x.1 (List.mem_map_of_mem (List.mem_of_getElem? hx))
      have hR2 := hR.out
      rw [find_drop (show (bs.map (·.1))[i]? = some x.1 from by rw [List.getElem?_map, hx]; rfl)] at hR2
      obtain ⟨⟨⟨x1, xQ⟩, xP⟩, ⟨AX, cX⟩, ⟨AZ, cZ⟩⟩ := x
      dsimp only at z0 z1 z2 hxo hR2
      have hxq := hxe.q
      have hxp := hxe.p
      dsimp only at hxq hxp
      have hxl : xQ.length ≤ 100000 := by
        have := hxo.len
        have hsl := HSL.out
        dsimp only at this
        omega
      have hNr := hN5.below hb lN9
      have n0 := hNr.cell 0; have n1 := hNr.cell 1; have lN := hNr.lt
      simp at n0 n1
      have SPc := Lib.hid (fun W (h1 : SlI W AX xQ) (h2 : Below w.heap.size w W) => samePose_c x1 pt xQ T AX AT cX cT W hxl hT h1 (HT.out.below h2))
      have HXQ := Lib.hid hxq
      have HXP := Lib.hid hxp
      have HR2 := Lib.hid hR2
      clear hWr hx hxe hxo hxq hxp hxl hNr hR2 hR
      have i0 : 0 ≤ (i : Int) := by omega
      have i1 : (i : Int) < (bs.length : Int) := by omega
      cases hd : decide ((x1, xQ) = (pt, T))
      · rw [hd] at HR2 SPc
        clear hd
        have HR3 := Lib.hid HR2.out
        clear HR2
        go_wp2
        (refine region_open (by kernel_rfl) (fun R hR => ?_); refine heldR (S := (fun w' => Below wr.heap.size wr w')) ?_ (fun hHeld => ?_); (focus ((try dsimp only); (((first | exact bB0 | exact bB1 hb3))))); refine rgN 0 rfl ?_; (try simp only [Act.put, pqs]); refine rgN 1 rfl ?_; (try simp only [Act.put, pqs]); refine rgN 2 rfl ?_; (try simp only [Act.put, pqs]); refine rgN 3 rfl ?_; (try simp only [Act.put, pqs]); refine rgT 4 ?_ rfl (fun w' hSw => ?_) ?_; rotate_left; (focus ((try dsimp only at hSw); (have hcc := (bcell hSw).1; have sa0 := (hcc _ _ lR).trans z0; have sa1 := (hcc _ _ lR).trans z1; have sb0 := (hcc _ 0 lN).trans n0; have sb1 := (hcc _ 1 lN).trans n1); go_simp; (try with_reducible rfl))); (try simp only [Act.put, pqs]); refine rgT 5 ?_ rfl (fun w' hSw => ?_) ?_; rotate_left; (focus ((try dsimp only at hSw); (have hcc := (bcell hSw).1; have sa0 := (hcc _ _ lR).trans z0; have sa1 := (hcc _ _ lR).trans z1; have sb0 := (hcc _ 0 lN).trans n0; have sb1 := (hcc _ 1 lN).trans n1); go_simp; (try with_reducible rfl))); (try simp only [Act.put, pqs]); refine rgC 6 rfl (fun K hK => ?_); go_simp; ((go_at_call 21; (with_reducible refine (SPc.out _ (HXQ.out.below (by exact bB0)) (by exact bB2 hb hB5)).mono ?_); rintro e w3 ⟨rfl, hb3⟩; have hz3 : wr.heap.size ≤ w3.heap.size := (by have := hb3.size; (try simp at this); omega))); go_simp; refine hK.out _ _ ?_ (fun hHeld => ?_); (focus ((try dsimp only); (((first | exact bB1 hb3 | exact bB0))))); clear hK K; (try simp only [Act.put, pqs]); refine wpAnyH_done (Q := fun e a w => e = Exit.normal ∧ R a w) (by kernel_rfl) ⟨rfl, hR _ _ ?_⟩ _; clear hR R)
        go_wp2
        go_roundw
        case rel => exact ⟨i + 1, by go_num, by omega, by unfold Hid; simpa using HR3.out, by exact bB2 hb3 hb⟩
        case measure => simp [intOf]; omega
      · rw [hd] at HR2 SPc
        clear hd
        have e : R = some xP := by have := HR2.out; simpa using this
        subst e
        clear HR2
        go_wp2
        (refine region_open (by kernel_rfl) (fun R hR => ?_); refine heldR (S := (fun w' => Below wr.heap.size wr w')) ?_ (fun hHeld => ?_); (focus ((try dsimp only); (((first | exact bB0 | exact bB1 hb3))))); refine rgN 0 rfl ?_; (try simp only [Act.put, pqs]); refine rgN 1 rfl ?_; (try simp only [Act.put, pqs]); refine rgN 2 rfl ?_; (try simp only [Act.put, pqs]); refine rgN 3 rfl ?_; (try simp only [Act.put, pqs]); refine rgT 4 ?_ rfl (fun w' hSw => ?_) ?_; rotate_left; (focus ((try dsimp only at hSw); (have hcc := (bcell hSw).1; have sa0 := (hcc _ _ lR).trans z0; have sa1 := (hcc _ _ lR).trans z1; have sb0 := (hcc _ 0 lN).trans n0; have sb1 := (hcc _ 1 lN).trans n1); go_simp; (try with_reducible rfl))); (try simp only [Act.put, pqs]); refine rgT 5 ?_ rfl (fun w' hSw => ?_) ?_; rotate_left; (focus ((try dsimp only at hSw); (have hcc := (bcell hSw).1; have sa0 := (hcc _ _ lR).trans z0; have sa1 := (hcc _ _ lR).trans z1; have sb0 := (hcc _ 0 lN).trans n0; have sb1 := (hcc _ 1 lN).trans n1); go_simp; (try with_reducible rfl))); (try simp only [Act.put, pqs]); refine rgC 6 rfl (fun K hK => ?_); go_simp; ((go_at_call 21; (with_reducible refine (SPc.out _ (HXQ.out.below (by exact bB0)) (by exact bB2 hb hB5)).mono ?_); rintro e w3 ⟨rfl, hb3⟩; have hz3 : wr.heap.size ≤ w3.heap.size := (by have := hb3.size; (try simp at this); omega))); go_simp; refine hK.out _ _ ?_ (fun hHeld => ?_); (focus ((try dsimp only); (((first | exact bB1 hb3 | exact bB0))))); clear hK K; (try simp only [Act.put, pqs]); refine wpAnyH_done (Q := fun e a w => e = Exit.normal ∧ R a w) (by kernel_rfl) ⟨rfl, hR _ _ ?_⟩ _; clear hR R)
        have hb4 : Below wr.heap.size wr w3 := by exact bB1 hb3
        have z2' := ((bcell hb4).1 _ _ lR).trans z2
        have lR' : gR < w3.heap.size := by omega
        go_wp2
        go_ret2
        exact ⟨AZ, cZ, rfl, HXP.out.below hb4, by exact bB3 hb4 hb hB5⟩
    · have e : R = none := by rw [hR.out, List.drop_eq_nil_of_le (by simp; omega)]; rfl
      subst e
      clear hR
      go_wp2
      go_ret2
      exact ⟨none, 0, rfl, fun j u h => by simp at h, by exact bB2 hb hB5⟩

set_option maxHeartbeats 4000000 in
set_option maxRecDepth 100000 in
theorem rPathToCell_c (bx bY sl fx fX fy fY ps tx ty : Int) (L : List Lk) (B : List Bx) (Q : List Int) (AL AB AQ : Option Addr) (cL cB cQ : Nat) (w : World) (hS : SOk (⟨bx, bY, sl, L, (fx, fX, fy, fY), B⟩ : Sc)) (hp : POk (⟨bx, bY, sl, L, (fx, fX, fy, fY), B⟩ : Sc) (ps, Q)) (hs1 : SlV w AL (L.flatMap lkV)) (hs2 : SlV w AB (B.flatMap bxV)) (hs3 : SlI w AQ Q) :
    Calls Tryz.prog 41 #[.agg #[.int .i64 bx, .int .i64 bY, .int .i64 sl, .slice AL L.length cL, .int .i64 fx, .int .i64 fX, .int .i64 fy, .int .i64 fY, .slice AB B.length cB], .agg #[.int .i64 ps, .slice AQ Q.length cQ], .agg #[.int .i64 tx, .int .i64 ty]] w (RpEnd (srF (⟨bx, bY, sl, L, (fx, fX, fy, fY), B⟩ : Sc) (ps, Q) fun z => decide (tipP (⟨bx, bY, sl, L, (fx, fX, fy, fY), B⟩ : Sc) z = (tx, ty))) w) := by
  have SEc := Lib.hid (fun W (h : Below w.heap.size w W) => rSearch_c bx bY sl fx fX fy fY ps L B Q AL AB AQ cL cB cQ W hS hp (hs1.below h) (hs2.below h) (hs3.below h))
  have HF := Lib.hid (show srF (⟨bx, bY, sl, L, (fx, fX, fy, fY), B⟩ : Sc) (ps, Q) (fun z => decide (tipP (⟨bx, bY, sl, L, (fx, fX, fy, fY), B⟩ : Sc) z = (tx, ty))) = ((srP (⟨bx, bY, sl, L, (fx, fX, fy, fY), B⟩ : Sc) (ps, Q)).find? fun x => decide (tipP (⟨bx, bY, sl, L, (fx, fX, fy, fY), B⟩ : Sc) x.1 = (tx, ty))).map (·.2) from rfl)
  have hN := alP_len hS
  have JTd := Lib.hid (fun (x1 : Int) (xQ : List Int) (hx : POk (⟨bx, bY, sl, L, (fx, fX, fy, fY), B⟩ : Sc) (x1, xQ)) A c W (h : Below w.heap.size w W) (hv : SlI W A xQ) => show Calls Tryz.prog 62 #[.agg #[.int .i64 bx, .int .i64 bY, .int .i64 sl, .slice AL L.length cL, .int .i64 fx, .int .i64 fX, .int .i64 fy, .int .i64 fY, .slice AB B.length cB], .agg #[.int .i64 x1, .slice A xQ.length c]] W (CesEnd (jts (⟨bx, bY, sl, L, (fx, fX, fy, fY), B⟩ : Sc) (x1, xQ)) W) from by
    have hbx := hS.bx; have hbY := hS.bY; have hlen := hS.len; have hlk := hS.lk; have hsl := hx.sl6 hS; have hr := hx.rng hS
    dsimp only at hbx hbY hlen hlk hsl hr
    exact rJoints_c bx bY sl fx fX fy fY x1 L B xQ AL AB A cL cB c W hx.len (by omega) (by omega) (by omega) (by omega) (fun l h => by have := hlk l h; omega) hr (hs1.below h) hv)
  have JLd := Lib.hid (fun (z : Ps) (hz : POk (⟨bx, bY, sl, L, (fx, fX, fy, fY), B⟩ : Sc) z) => show ∃ k, (jts (⟨bx, bY, sl, L, (fx, fX, fy, fY), B⟩ : Sc) z).length = k + 1 ∧ k ≤ 3 from ⟨L.length, by rw [jts_len (s := (⟨bx, bY, sl, L, (fx, fX, fy, fY), B⟩ : Sc)) (p := z) hz.len], by have := hS.len.2; dsimp only at this; omega⟩)
  clear hs1 hs2 hs3 hS hp
  generalize srF (⟨bx, bY, sl, L, (fx, fX, fy, fY), B⟩ : Sc) (ps, Q) (fun z => decide (tipP (⟨bx, bY, sl, L, (fx, fX, fy, fY), B⟩ : Sc) z = (tx, ty))) = R at *
  generalize srP (⟨bx, bY, sl, L, (fx, fX, fy, fY), B⟩ : Sc) (ps, Q) = LS at *
  generalize hsc : (⟨bx, bY, sl, L, (fx, fX, fy, fY), B⟩ : Sc) = sc at *
  clear hsc
  go_enter Tryz.func41, Tryz.ntmps41
  go_wp2_with (first | (go_at_call 112; (with_reducible refine (SEc.out _ (by exact bB0)).mono ?_); rintro e w2 hE2; obtain ⟨A, c, bs, rfl, hW, hbs, hb2⟩ := hE2; have hz2 : w.heap.size + 1 + 1 < w2.heap.size := (by have := hb2.size; (try simp at this); omega)) | fail)
  subst hbs
  have hH5 : Box w2 w.heap.size 30 #[.int .i64 bx, .int .i64 bY, .int .i64 sl, .slice AL L.length cL, .int .i64 fx, .int .i64 fX, .int .i64 fy, .int .i64 fY, .slice AB B.length cB] := by exact bX1 hb2
  have hN5 : Box w2 (w.heap.size + 1 + 1) 22 #[.int .i64 tx, .int .i64 ty] := by exact bX1 hb2
  have hB5 : Below w.heap.size w w2 := by exact bB1 hb2
  have hbl := hW.inv.len
  simp at hbl
  have hW := Lib.hid hW
  clear hb2 SEc
  generalize w2 = W5 at *
  have lN9 := hN5.lt; have lH9 := hH5.lt
  go_loopw [9] (fun j wr => ∃ i : Nat, j = .int .i64 i ∧ i ≤ bs.length ∧ Hid (R = (((bs.map (·.1)).drop i).find? fun x => decide (tipP sc x.1 = (tx, ty))).map (·.2)) ∧ Below W5.heap.size W5 wr) (fun j _ => bs.length - (intOf j).toNat)
  case atStart => exact ⟨0, rfl, Nat.zero_le _, HF.out, Below.refl _ _⟩
  case round =>
    obtain ⟨i, rfl, hi, hR, hb⟩ := hrel
    clear HF
    by_cases hlt : i < bs.length
    · obtain ⟨x, hx⟩ : ∃ x, bs[i]? = some x := ⟨_, List.getElem?_eq_getElem hlt⟩
      have hWr := hW.out.below hb
      obtain ⟨gR, rfl, lR, z0, z1, z2⟩ := seCells hWr hx
      have hxe := hWr.el x (List.mem_of_getElem? hx)
      have hxo := hWr.inv.ok x.1 (List.mem_map_of_mem (List.mem_of_getElem? hx))
      have hR2 := hR.out
      rw [find_drop (show (bs.map (·.1))[i]? = some x.1 from by rw [List.getElem?_map, hx]; rfl), sameC_tip] at hR2
      obtain ⟨⟨⟨x1, xQ⟩, xP⟩, ⟨AX, cX⟩, ⟨AZ, cZ⟩⟩ := x
      dsimp only at z0 z1 z2 hxo hR2
      have hxq := hxe.q
      have hxp := hxe.p
      dsimp only at hxq hxp
      have hNr := hN5.below hb lN9
      have hHr := hH5.below hb lH9
      have n0 := hNr.cell 0; have n1 := hNr.cell 1; have lN := hNr.lt
      have zz0 := hHr.cell 0; have zz1 := hHr.cell 1; have zz2 := hHr.cell 2; have zz3 := hHr.cell 3; have zz4 := hHr.cell 4; have zz5 := hHr.cell 5; have zz6 := hHr.cell 6; have zz7 := hHr.cell 7; have zz8 := hHr.cell 8
      simp at n0 n1 zz0 zz1 zz2 zz3 zz4 zz5 zz6 zz7 zz8
      have lH := hHr.lt
      have HXQ := Lib.hid hxq
      have HXP := Lib.hid hxp
      have HR2 := Lib.hid hR2
      obtain ⟨k, hk, hk3⟩ := JLd.out (x1, xQ) hxo
      have htip := tip_get hk
      have JTc := Lib.hid (fun W (h : Below wr.heap.size wr W) => JTd.out x1 xQ hxo AX cX W ((by exact bB2 hb hB5 : Below w.heap.size w wr).trans (h.mono (by have := hB5.size; have := hb.size; omega))) (HXQ.out.below h))
      generalize tipP sc (x1, xQ) = tip at *
      obtain ⟨t1, t2⟩ := tip
      dsimp only at HR2
      generalize jts sc (x1, xQ) = J at *
      have HTP := Lib.hid htip
      have HJK := Lib.hid hk
      clear hk
      clear hWr hx hxe hxo hxq hxp hNr hHr hR2 hR htip
      have i0 : 0 ≤ (i : Int) := by omega
      have i1 : (i : Int) < (bs.length : Int) := by omega
      go_wp2
      (refine region_open (by kernel_rfl) (fun R hR => ?_); refine heldR (S := (fun w' => Below wr.heap.size wr w')) ?_ (fun hHeld => ?_); (focus ((try dsimp only); (((first | exact bB0 | exact bB1 hb3))))); refine rgT 0 ?_ rfl (fun w' hSw => ?_) ?_; rotate_left; (focus ((try dsimp only at hSw); (have hcc := (bcell hSw).1; have sa0 := (hcc _ 0 lH).trans zz0; have sa1 := (hcc _ 1 lH).trans zz1; have sa2 := (hcc _ 2 lH).trans zz2; have sa3 := (hcc _ 3 lH).trans zz3; have sa4 := (hcc _ 4 lH).trans zz4; have sa5 := (hcc _ 5 lH).trans zz5; have sa6 := (hcc _ 6 lH).trans zz6; have sa7 := (hcc _ 7 lH).trans zz7; have sa8 := (hcc _ 8 lH).trans zz8; have sb0 := (hcc _ _ lR).trans z0; have sb1 := (hcc _ _ lR).trans z1); go_simp; (try with_reducible rfl))); (try simp only [Act.put, pqs]); refine rgN 1 rfl ?_; (try simp only [Act.put, pqs]); refine rgN 2 rfl ?_; (try simp only [Act.put, pqs]); refine rgN 3 rfl ?_; (try simp only [Act.put, pqs]); refine rgN 4 rfl ?_; (try simp only [Act.put, pqs]); refine rgT 5 ?_ rfl (fun w' hSw => ?_) ?_; rotate_left; (focus ((try dsimp only at hSw); (have hcc := (bcell hSw).1; have sa0 := (hcc _ 0 lH).trans zz0; have sa1 := (hcc _ 1 lH).trans zz1; have sa2 := (hcc _ 2 lH).trans zz2; have sa3 := (hcc _ 3 lH).trans zz3; have sa4 := (hcc _ 4 lH).trans zz4; have sa5 := (hcc _ 5 lH).trans zz5; have sa6 := (hcc _ 6 lH).trans zz6; have sa7 := (hcc _ 7 lH).trans zz7; have sa8 := (hcc _ 8 lH).trans zz8; have sb0 := (hcc _ _ lR).trans z0; have sb1 := (hcc _ _ lR).trans z1); go_simp; (try with_reducible rfl))); (try simp only [Act.put, pqs]); refine rgC 6 rfl (fun K hK => ?_); go_simp; ((go_at_call 62; (with_reducible refine (JTc.out _ (by exact bB0)).mono ?_); rintro e w3 hE3; obtain ⟨gJ, cJ, rfl, hgJ, hlJ, hvJ, hxJ, hb3⟩ := hE3; rw [HJK.out]; have hz3 : wr.heap.size ≤ w3.heap.size := (by have := hb3.size; (try simp at this); omega))); go_simp; refine hK.out _ _ ?_ (fun hHeld => ?_); (focus ((try dsimp only); (((first | exact bB1 hb3 | exact bB0))))); clear hK K; (try simp only [Act.put, pqs]); refine rgN 7 rfl ?_; (try simp only [Act.put, pqs]); refine wpAnyH_done (Q := fun e a w => e = Exit.normal ∧ R a w) (by kernel_rfl) ⟨rfl, hR _ _ ?_⟩ _; clear hR R)
      have hb4 : Below wr.heap.size wr w3 := by exact bB1 hb3
      obtain ⟨bJ, oJ, e, lJ3, hc⟩ := row_cells (enc := ceV) (k := 2) (fun _ => rfl) hvJ (by omega) HTP.out
      cases e
      have j0 := hc 0 (by omega); have j1 := hc 1 (by omega)
      simp [ceV] at j0 j1
      have n0 := ((bcell hb4).1 _ 0 lN).trans n0
      have n1 := ((bcell hb4).1 _ 1 lN).trans n1
      have lN3 : w.heap.size + 1 + 1 < w3.heap.size := by omega
      have z2 := ((bcell hb4).1 _ _ lR).trans z2
      have lR3 : gR < w3.heap.size := by omega
      have HZ2 := Lib.hid z2
      have hv1 : IntKind.i64.wrap ((k : Int) + 1 - 1) = (k : Int) := by rw [Int.add_sub_cancel]; exact IntWalk.i64_in _ (by omega)
      have hv2 : IntKind.i64.wrap (k : Int) = (k : Int) := IntWalk.i64_in _ (by omega)
      have k0 : 0 ≤ (k : Int) := by omega
      have k1 : (k : Int) < (k : Int) + 1 := by omega
      clear hc hvJ hxJ hgJ hb3 zz0 zz1 zz2 zz3 zz4 zz5 zz6 zz7 zz8 lH z0 z1 z2 JTc hlJ
      have HB4 := Lib.hid hb4
      cases hd : sameC t1 t2 tx ty
      · rw [hd] at HR2
        have HR3 := Lib.hid HR2.out
        clear HR2
        go_wp2
        (refine region_open (by kernel_rfl) (fun R hR => ?_); refine heldR (S := (fun w' => Below w3.heap.size w3 w')) ?_ (fun hHeld => ?_); (focus ((try dsimp only); (((first | exact bB0 | exact bB0))))); refine rgN 0 rfl ?_; (try simp only [Act.put, pqs]); refine rgN 1 rfl ?_; (try simp only [Act.put, pqs]); refine rgN 2 rfl ?_; (try simp only [Act.put, pqs]); refine rgN 3 rfl ?_; (try simp only [Act.put, pqs]); refine rgN 4 rfl ?_; (try simp only [Act.put, pqs]); refine rgT 5 ?_ rfl (fun w' hSw => ?_) ?_; rotate_left; (focus ((try dsimp only at hSw); (have hcc := (bcell hSw).1; have sa0 := (hcc _ 0 lN3).trans n0; have sa1 := (hcc _ 1 lN3).trans n1; have sb0 := (hcc _ _ lJ3).trans j0; have sb1 := (hcc _ _ lJ3).trans j1); go_simp; (try with_reducible rfl))); (try simp only [Act.put, pqs]); refine rgT 6 ?_ rfl (fun w' hSw => ?_) ?_; rotate_left; (focus ((try dsimp only at hSw); (have hcc := (bcell hSw).1; have sa0 := (hcc _ 0 lN3).trans n0; have sa1 := (hcc _ 1 lN3).trans n1; have sb0 := (hcc _ _ lJ3).trans j0; have sb1 := (hcc _ _ lJ3).trans j1); go_simp; (try with_reducible rfl))); (try simp only [Act.put, pqs]); refine rgN 7 rfl ?_; (try simp only [Act.put, pqs]); refine wpAnyH_done (Q := fun e a w => e = Exit.normal ∧ R a w) (by kernel_rfl) ⟨rfl, hR _ _ ?_⟩ _; clear hR R)
        go_wp2
        go_roundw
        case rel => exact ⟨i + 1, by go_num, by omega, by unfold Hid; simpa using HR3.out, by exact bB2 hb4 hb⟩
        case measure => simp [intOf]; omega
      · rw [hd] at HR2
        have e : R = some xP := by have := HR2.out; simpa using this
        subst e
        clear HR2
        go_wp2
        (refine region_open (by kernel_rfl) (fun R hR => ?_); refine heldR (S := (fun w' => Below w3.heap.size w3 w')) ?_ (fun hHeld => ?_); (focus ((try dsimp only); (((first | exact bB0 | exact bB0))))); refine rgN 0 rfl ?_; (try simp only [Act.put, pqs]); refine rgN 1 rfl ?_; (try simp only [Act.put, pqs]); refine rgN 2 rfl ?_; (try simp only [Act.put, pqs]); refine rgN 3 rfl ?_; (try simp only [Act.put, pqs]); refine rgN 4 rfl ?_; (try simp only [Act.put, pqs]); refine rgT 5 ?_ rfl (fun w' hSw => ?_) ?_; rotate_left; (focus ((try dsimp only at hSw); (have hcc := (bcell hSw).1; have sa0 := (hcc _ 0 lN3).trans n0; have sa1 := (hcc _ 1 lN3).trans n1; have sb0 := (hcc _ _ lJ3).trans j0; have sb1 := (hcc _ _ lJ3).trans j1); go_simp; (try with_reducible rfl))); (try simp only [Act.put, pqs]); refine rgT 6 ?_ rfl (fun w' hSw => ?_) ?_; rotate_left; (focus ((try dsimp only at hSw); (have hcc := (bcell hSw).1; have sa0 := (hcc _ 0 lN3).trans n0; have sa1 := (hcc _ 1 lN3).trans n1; have sb0 := (hcc _ _ lJ3).trans j0; have sb1 := (hcc _ _ lJ3).trans j1); go_simp; (try with_reducible rfl))); (try simp only [Act.put, pqs]); refine rgN 7 rfl ?_; (try simp only [Act.put, pqs]); refine wpAnyH_done (Q := fun e a w => e = Exit.normal ∧ R a w) (by kernel_rfl) ⟨rfl, hR _ _ ?_⟩ _; clear hR R)
        have z2 := HZ2.out
        go_wp2
        go_ret2
        exact ⟨AZ, cZ, rfl, HXP.out.below (by exact bB1 hb4), by exact bB3 hb4 hb hB5⟩
    · have e : R = none := by rw [hR.out, List.drop_eq_nil_of_le (by simp; omega)]; rfl
      subst e
      clear hR
      go_wp2
      go_ret2
      exact ⟨none, 0, rfl, fun j u h => by simp at h, by exact bB2 hb hB5⟩

end Go.Proofs.YtpnfgmgoafgcbaaGreat

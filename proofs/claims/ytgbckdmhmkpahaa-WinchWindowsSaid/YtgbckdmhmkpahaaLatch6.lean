/-
  The walk of LatchedBy (chapter 2).
-/
import Derived.Test.YtgbckdmhmkpahaaLatch5
import Derived.Test.YtgbckdmhmkpahaaSortW
set_option linter.unusedVariables false
namespace Go.Proofs.Ytgbckdmhmkpahaa
open Go.RowKit Go.Shelf

/-- The state of a latch after events, and an error. -/
def runL (lim hold : Int) : LSt → Int → List St3 → LSt × Int
  | s, _, [] => (s, 0)
  | s, last, e :: l =>
    if fstE [evE e.1 e.2.1 e.2.2, unl (decide (last ≤ e.1)) 9] ≠ 0 then ((false, 0, 0), fstE [evE e.1 e.2.1 e.2.2, unl (decide (last ≤ e.1)) 9])
    else if (stepL lim hold s e).2 ≠ 0 then ((false, 0, 0), (stepL lim hold s e).2)
    else runL lim hold (stepL lim hold s e).1 e.1 l
def lbE (lim hold : Int) (n : Nat) : Int := fstE [latE lim hold, unl (decide ((n : Int) ≤ 40)) 8]
def lbP (lim hold : Int) (xs : List St3) : LSt × Int := if lbE lim hold xs.length ≠ 0 then ((false, 0, 0), lbE lim hold xs.length) else runL lim hold (true, 0, 0) 0 xs

theorem stepL_bd {lim hold : Int} {s : LSt} {e : Int × Int × Int} (h : -1 ≤ s.2.2 ∧ s.2.2 ≤ 1000000000000) (h2 : 0 ≤ e.1 ∧ e.1 ≤ 1000000000000) : -1 ≤ (stepL lim hold s e).1.2.2 ∧ (stepL lim hold s e).1.2.2 ≤ 1000000000000 := by
  unfold stepL
  split
  · dsimp only; split
    · omega
    · split <;> omega
  · split
    · dsimp only; omega
    · split
      · dsimp only; omega
      · dsimp only; omega

theorem ev_cells {w : World} {A : Option Addr} {xs : List St3} (hs : SlV w A (xs.flatMap st3V)) {k : Nat} {s : St3} (hk : xs[k]? = some s) :
    ∃ b off, A = some ⟨b, off, none⟩ ∧ b < w.heap.size ∧ w.cell? ⟨b, off + k * 3, none⟩ = some (.int .i64 s.1) ∧ w.cell? ⟨b, off + k * 3 + 1, none⟩ = some (.int .i64 s.2.1) ∧ w.cell? ⟨b, off + k * 3 + 2, none⟩ = some (.int .i64 s.2.2) := by
  have f := fun r (hr : r < 3) => flatK_get (enc := st3V) (k := 3) (fun _ => rfl) xs k s r hk hr
  obtain ⟨b, off, hA, hb, c0⟩ := hs (k * 3 + 0) (.int .i64 s.1) ((f 0 (by omega)).trans rfl)
  obtain ⟨b1, o1, hA1, _, c1⟩ := hs (k * 3 + 1) (.int .i64 s.2.1) ((f 1 (by omega)).trans rfl)
  obtain ⟨b2, o2, hA2, _, c2⟩ := hs (k * 3 + 2) (.int .i64 s.2.2) ((f 2 (by omega)).trans rfl)
  obtain ⟨rfl, rfl⟩ : b = b1 ∧ off = o1 := by rw [hA] at hA1; simpa using hA1
  obtain ⟨rfl, rfl⟩ : b = b2 ∧ off = o2 := by rw [hA] at hA2; simpa using hA2
  exact ⟨b, off, hA, hb, c0, by rw [Nat.add_assoc]; exact c1, by rw [Nat.add_assoc]; exact c2⟩


set_option maxHeartbeats 2000000 in
theorem latchedBy_no (lim hold : Int) (xs : List St3) (A : Option Addr) (c : Nat) (w : World) (he : lbE lim hold xs.length ≠ 0) :
    Calls Try.prog 73 #[.agg #[.int .i64 lim, .int .i64 hold], .slice A xs.length c] w fun e w' => e = .returned (.tuple #[.agg #[.bool false, .int .i64 0, .int .i64 0], .int .i64 (lbE lim hold xs.length)]) ∧ Below w.heap.size w w' := by
  have LEc := Lib.hid (fun W => latchErr_c lim hold W)
  have e1 : (fstE [latE lim hold, unl (decide ((xs.length : Int) ≤ 40)) 8] != 0) = true := bneT he
  clear he
  go_enter Try.func73, Try.ntmps73
  go_wp2_with (first | (go_at_call 124; refine (LEc.out _).mono ?_; rintro e w2 ⟨rfl, hb2⟩; obtain ⟨hc2, hf2⟩ := bcell hb2; have hz2 : w.heap.size + 1 < w2.heap.size := (by have := hb2.size; (try simp at this); omega); have q0 : Box w2 w.heap.size 120 #[.int .i64 lim, .int .i64 hold] := (by focus (apply Box.via; apply Exists.intro; apply And.intro; (repeat first | with_reducible assumption | with_reducible exact Box.new _ _ _ | ((with_reducible apply Box.newAt); focus (simp; done)) | (with_reducible apply Box.drew) | (with_reducible apply Box.drewN) | (with_reducible apply Box.set) | (with_reducible apply Box.alloc) | (with_reducible apply Box.far) | (with_reducible apply Box.below (hb := hb2))); all_goals (first | with_reducible exact Nat.le_refl _ | omega | (simp; done) | (simp; omega) | (have := hb2.size; (try simp at this); omega) | (have := hb2.size; (try simp at this); (try simp); omega)))); have : w2.cell? ⟨w.heap.size, 0, none⟩ = some (.int .i64 lim) := q0.cell 0; have : w2.cell? ⟨w.heap.size, 1, none⟩ = some (.int .i64 hold) := q0.cell 1; have : w.heap.size < w2.heap.size := by omega) | (go_at_call 81; refine (unless_c _ _ _).mono ?_; rintro e w' ⟨rfl, rfl⟩) | (go_at_call 84; (with_reducible refine (first2_c _ _ _ _).mono ?_); rintro e w' ⟨rfl, rfl⟩) | fail)
  refine bodyPost_ret (res_c2 rfl rfl (show Box _ _ 122 #[.bool false, .int .i64 0, .int .i64 0] from ?hE) Try.underlying122 rfl ld_size) rfl ⟨rfl, ?hB⟩
  case hE => focus (apply Box.via; apply Exists.intro; apply And.intro; (repeat first | with_reducible assumption | with_reducible exact Box.new _ _ _ | ((with_reducible apply Box.newAt); focus (simp; done)) | (with_reducible apply Box.drew) | (with_reducible apply Box.drewN) | (with_reducible apply Box.set) | (with_reducible apply Box.alloc) | (with_reducible apply Box.far) | (with_reducible apply Box.below (hb := hb2))); all_goals (first | with_reducible exact Nat.le_refl _ | omega | (simp; done) | (simp; omega) | (have := hb2.size; (try simp at this); omega) | (have := hb2.size; (try simp at this); (try simp); omega)))
  case hB => focus ((repeat first | with_reducible exact Below.refl _ _ | (with_reducible refine Below.setCell ?_ ?_ _) | (with_reducible refine Below.alloc ?_ ?_ _) | (with_reducible refine below_drewN ?_ _) | (with_reducible refine Below.drew ?_) | (with_reducible refine Below.trans ?_ (Below.mono hb2 ?_))); all_goals (first | with_reducible exact Nat.le_refl _ | omega | (simp; done) | (simp; omega) | (have := hb2.size; (try simp at this); omega) | (have := hb2.size; (try simp at this); (try simp); omega)))


set_option maxHeartbeats 4000000 in
set_option maxRecDepth 100000 in
theorem latchedBy_yes (lim hold : Int) (xs : List St3) (A : Option Addr) (c : Nat) (w : World) (he : lbE lim hold xs.length = 0) (hs : SlV w A (xs.flatMap st3V)) :
    Calls Try.prog 73 #[.agg #[.int .i64 lim, .int .i64 hold], .slice A xs.length c] w fun e w' => e = .returned (.tuple #[.agg #[.bool (runL lim hold (true, 0, 0) 0 xs).1.1, .int .i64 (runL lim hold (true, 0, 0) 0 xs).1.2.1, .int .i64 (runL lim hold (true, 0, 0) 0 xs).1.2.2], .int .i64 (runL lim hold (true, 0, 0) 0 xs).2]) ∧ Below w.heap.size w w' := by
  have LEc := Lib.hid (fun W => latchErr_c lim hold W)
  obtain ⟨z1, z2⟩ := fst2_z' (show fstE [latE lim hold, unl (decide ((xs.length : Int) ≤ 40)) 8] = 0 from he)
  have hn : (xs.length : Int) ≤ 40 := by simpa using unl_z (by omega) z2
  have hd : decide ((xs.length : Int) ≤ 40) = true := decide_eq_true hn
  have e1 : (fstE [latE lim hold, unl true 8] != 0) = false := by rw [← hd]; exact bneF he
  clear hd
  clear he z1 z2
  have RUN := Lib.hid (rfl : runL lim hold (true, 0, 0) 0 xs = runL lim hold (true, 0, 0) 0 xs)
  generalize hR : runL lim hold (true, 0, 0) 0 xs = R at *
  have HR := Lib.hid hR
  clear hR RUN
  obtain ⟨⟨R1, R2, R3⟩, RE⟩ := R
  dsimp only
  have HS := Lib.hid hs
  clear hs
  go_enter Try.func73, Try.ntmps73
  go_wp2_with (first | (go_at_call 124; refine (LEc.out _).mono ?_; rintro e w2 ⟨rfl, hb2⟩; obtain ⟨hc2, hf2⟩ := bcell hb2; have hz2 : w.heap.size + 1 < w2.heap.size := (by have := hb2.size; (try simp at this); omega); have q0 : Box w2 w.heap.size 120 #[.int .i64 lim, .int .i64 hold] := (by focus (apply Box.via; apply Exists.intro; apply And.intro; (repeat first | with_reducible assumption | with_reducible exact Box.new _ _ _ | ((with_reducible apply Box.newAt); focus (simp; done)) | (with_reducible apply Box.drew) | (with_reducible apply Box.drewN) | (with_reducible apply Box.set) | (with_reducible apply Box.alloc) | (with_reducible apply Box.far) | (with_reducible apply Box.below (hb := hb2))); all_goals (first | with_reducible exact Nat.le_refl _ | omega | (simp; done) | (simp; omega) | (have := hb2.size; (try simp at this); omega) | (have := hb2.size; (try simp at this); (try simp); omega)))); have : w2.cell? ⟨w.heap.size, 0, none⟩ = some (.int .i64 lim) := q0.cell 0; have : w2.cell? ⟨w.heap.size, 1, none⟩ = some (.int .i64 hold) := q0.cell 1; have : w.heap.size < w2.heap.size := by omega) | (go_at_call 81; refine (unless_c _ _ _).mono ?_; rintro e w' ⟨rfl, rfl⟩) | (go_at_call 84; (with_reducible refine (first2_c _ _ _ _).mono ?_); rintro e w' ⟨rfl, rfl⟩) | fail)
  obtain ⟨W0, hW0⟩ : ∃ W0, W0 = (w2.alloc (.cells #[.int .i64 (latE lim hold), .int .i64 (unl true 8)] 33)).alloc (.cells #[.int .i64 lim, .int .i64 hold, .bool true, .int .i64 0, .int .i64 0] 189) := ⟨_, rfl⟩
  have q0 : Box W0 (w.heap.size + 1) 122 #[.bool false, .int .i64 0, .int .i64 0] := by rw [hW0]; focus (apply Box.via; apply Exists.intro; apply And.intro; (repeat first | with_reducible assumption | with_reducible exact Box.new _ _ _ | ((with_reducible apply Box.newAt); focus (simp; done)) | (with_reducible apply Box.drew) | (with_reducible apply Box.drewN) | (with_reducible apply Box.set) | (with_reducible apply Box.alloc) | (with_reducible apply Box.far) | (with_reducible apply Box.below (hb := hb2))); all_goals (first | with_reducible exact Nat.le_refl _ | omega | (simp; done) | (simp; omega) | (have := hb2.size; (try simp at this); omega) | (have := hb2.size; (try simp at this); (try simp); omega)))
  have q1 : LBox W0 (w2.heap.size + 1) lim hold (true, 0, 0) := by rw [hW0]; unfold LBox; focus (apply Box.via; apply Exists.intro; apply And.intro; (repeat first | with_reducible assumption | with_reducible exact Box.new _ _ _ | ((with_reducible apply Box.newAt); focus (simp; done)) | (with_reducible apply Box.drew) | (with_reducible apply Box.drewN) | (with_reducible apply Box.set) | (with_reducible apply Box.alloc) | (with_reducible apply Box.far) | (with_reducible apply Box.below (hb := hb2))); all_goals (first | with_reducible exact Nat.le_refl _ | omega | (simp; done) | (simp; omega) | (have := hb2.size; (try simp at this); omega) | (have := hb2.size; (try simp at this); (try simp); omega)))
  have hB0 : Below w.heap.size w W0 := by rw [hW0]; focus ((repeat first | with_reducible exact Below.refl _ _ | (with_reducible refine Below.setCell ?_ ?_ _) | (with_reducible refine Below.alloc ?_ ?_ _) | (with_reducible refine below_drewN ?_ _) | (with_reducible refine Below.drew ?_) | (with_reducible refine Below.trans ?_ (Below.mono hb2 ?_))); all_goals (first | with_reducible exact Nat.le_refl _ | omega | (simp; done) | (simp; omega) | (have := hb2.size; (try simp at this); omega) | (have := hb2.size; (try simp at this); (try simp); omega)))
  have hg : w2.heap.size + 1 < W0.heap.size := q1.lt
  have hgg : w.heap.size + 1 < w2.heap.size + 1 := by omega
  generalize w2.heap.size + 1 = g at *
  rw [← hW0]
  clear hW0 e1 hc2 hf2 hb2
  have zz0 := hB0.size
  go_loopw [8, 30] (fun la i wr => ∃ (k : Nat) (cl : Bool) (ld sn last : Int), k ≤ xs.length ∧ i = .int .i64 k ∧ la = .int .i64 last ∧ Hid (runL lim hold (true, 0, 0) 0 xs = runL lim hold (cl, ld, sn) last (xs.drop k)) ∧ -1 ≤ sn ∧ sn ≤ 1000000000000 ∧ LBox wr g lim hold (cl, ld, sn) ∧ Box wr (w.heap.size + 1) 122 #[.bool false, .int .i64 0, .int .i64 0] ∧ Below w.heap.size w wr) (fun _ i _ => xs.length - (intOf i).toNat)
  case atStart => exact ⟨0, true, 0, 0, 0, Nat.zero_le _, rfl, rfl, rfl, by omega, by omega, q1, q0, hB0⟩
  case round =>
    obtain ⟨k, cl, ld, sn, last, hk, rfl, rfl, hrun, s1, s2, hL, hZ, hB⟩ := hrel
    clear q0 q1 hB0
    by_cases hlt : k < xs.length
    · obtain ⟨b, off, rfl, hb, a0, a1, a2⟩ := ev_cells (HS.out.below hB) (List.getElem?_eq_getElem hlt)
      have HD := Lib.hid (List.drop_eq_getElem_cons hlt)
      generalize xs[k] = ev at *
      obtain ⟨at', kd, vl⟩ := ev
      dsimp only at a0 a1 a2
      go_upto_region 9 with fail
      go_cut [11] (fun s wx => s = .int .i64 (fstE [evE at' kd vl, unl (decide (last ≤ at')) 9]) ∧ Box wx wr.heap.size 127 #[.int .i64 at', .int .i64 kd, .int .i64 vl] ∧ Below wr.heap.size wr wx)
      case first =>
        go_region_held3 (fun w' => w'.cell? ⟨wr.heap.size, 0, none⟩ = some (.int .i64 at') ∧ w'.cell? ⟨wr.heap.size, 1, none⟩ = some (.int .i64 kd) ∧ w'.cell? ⟨wr.heap.size, 2, none⟩ = some (.int .i64 vl)) (go_keep) (first | (go_at_call 126; refine (eventErr_c _ _ _ _).mono ?_; rintro e w4 ⟨rfl, hb4⟩; have hz4 : wr.heap.size < w4.heap.size := (by have := hb4.size; (try simp at this); omega); have ka := ((hb4).cell (p := ⟨wr.heap.size, 0, none⟩) (by simp)).trans (show _ = some (Value.int .i64 at') from by simp [go_sem, *]); have kb := ((hb4).cell (p := ⟨wr.heap.size, 1, none⟩) (by simp)).trans (show _ = some (Value.int .i64 kd) from by simp [go_sem, *]); have kc := ((hb4).cell (p := ⟨wr.heap.size, 2, none⟩) (by simp)).trans (show _ = some (Value.int .i64 vl) from by simp [go_sem, *])) | (go_at_call 81; refine (unless_c _ _ _).mono ?_; rintro e w' ⟨rfl, rfl⟩) | (go_at_call 84; (with_reducible refine (first2a _ _ _ _ _ (by simp)).mono ?_); rintro e w' ⟨rfl, rfl⟩) | (go_at_call 84; (with_reducible refine (first2d _ _ _ _ _ (by simp)).mono ?_); rintro e w' ⟨rfl, rfl⟩) | fail)
        all_goals go_wp2_with fail
        all_goals go_meet
        all_goals refine ⟨rfl, ?_, ?_⟩
        all_goals first | (focus (apply Box.via; apply Exists.intro; apply And.intro; (repeat first | with_reducible assumption | with_reducible exact Box.new _ _ _ | ((with_reducible apply Box.newAt); focus (simp; done)) | (with_reducible apply Box.drew) | (with_reducible apply Box.drewN) | (with_reducible apply Box.set) | (with_reducible apply Box.alloc) | (with_reducible apply Box.far) | (with_reducible apply Box.below (hb := hb4))); all_goals (first | with_reducible exact Nat.le_refl _ | omega | (simp; done) | (simp; omega) | (have := hb4.size; (try simp at this); omega) | (have := hb4.size; (try simp at this); (try simp); omega)))) | (focus ((repeat first | with_reducible exact Below.refl _ _ | (with_reducible refine Below.setCell ?_ ?_ _) | (with_reducible refine Below.alloc ?_ ?_ _) | (with_reducible refine below_drewN ?_ _) | (with_reducible refine Below.drew ?_) | (with_reducible refine Below.trans ?_ (Below.mono hb4 ?_))); all_goals (first | with_reducible exact Nat.le_refl _ | omega | (simp; done) | (simp; omega) | (have := hb4.size; (try simp at this); omega) | (have := hb4.size; (try simp at this); (try simp); omega))))
      case rest =>
        obtain ⟨rfl, hE, hBx⟩ := hcut
        have hlg : g < wr.heap.size := hL.lt
        have hL' : LBox wc g lim hold (cl, ld, sn) := Box.below hL hBx hlg
        have hZ' := hZ.below hBx hZ.lt
        have hlz := hZ.lt
        have hE' := hE
        have hle := hE.lt
        have hBc : Below w.heap.size w wc := by focus ((repeat first | with_reducible exact Below.refl _ _ | (with_reducible refine Below.setCell ?_ ?_ _) | (with_reducible refine Below.alloc ?_ ?_ _) | (with_reducible refine below_drewN ?_ _) | (with_reducible refine Below.drew ?_) | (with_reducible refine Below.trans ?_ (Below.mono hBx ?_)) | (with_reducible refine Below.trans ?_ (Below.mono hB ?_))); all_goals (first | with_reducible exact Nat.le_refl _ | omega | (simp; done) | (simp; omega) | (have := hBx.size; (try simp at this); have := hB.size; (try simp at this); omega) | (have := hBx.size; (try simp at this); have := hB.size; (try simp at this); (try simp); omega)))
        have EVS := Lib.hid (fun h1 h2 => event_c lim hold cl ld sn at' kd vl g wc hL' h1 h2)
        have SB := Lib.hid (stepL_bd (lim := lim) (hold := hold) (s := (cl, ld, sn)) (e := (at', kd, vl)))
        have EE := Lib.hid (evE_ok (at' := at') (kd := kd) (vl := vl))
        have SE := Lib.hid (stepL_err (lim := lim) (hold := hold) (s := (cl, ld, sn)) (e := (at', kd, vl)))
        have ES := Lib.hid (show evSt lim hold (cl, ld, sn) (at', kd, vl) = if (stepL lim hold (cl, ld, sn) (at', kd, vl)).2 = 0 then (stepL lim hold (cl, ld, sn) (at', kd, vl)).1 else (cl, ld, sn) from rfl)
        have RU := Lib.hid (show runL lim hold (cl, ld, sn) last ((at', kd, vl) :: xs.drop (k + 1)) = if fstE [evE at' kd vl, unl (decide (last ≤ at')) 9] ≠ 0 then ((false, 0, 0), fstE [evE at' kd vl, unl (decide (last ≤ at')) 9]) else if (stepL lim hold (cl, ld, sn) (at', kd, vl)).2 ≠ 0 then ((false, 0, 0), (stepL lim hold (cl, ld, sn) (at', kd, vl)).2) else runL lim hold (stepL lim hold (cl, ld, sn) (at', kd, vl)).1 at' (xs.drop (k + 1)) from rfl)
        generalize hr : stepL lim hold (cl, ld, sn) (at', kd, vl) = r at *
        clear hr
        generalize evSt lim hold (cl, ld, sn) (at', kd, vl) = es at *
        obtain ⟨⟨r1, r2, r3⟩, re⟩ := r
        obtain ⟨es1, es2, es3⟩ := es
        dsimp only at EVS SB SE ES RU
        have FZ := Lib.hid (fun h : fstE [evE at' kd vl, unl (decide (last ≤ at')) 9] = 0 => (fst2_z' h).1)
        generalize fstE [evE at' kd vl, unl (decide (last ≤ at')) 9] = F at *
        have m0 := hZ'.cell 0; have m1 := hZ'.cell 1; have m2 := hZ'.cell 2; have mf := hZ'.froz
        have v0 := hE'.cell 0; have v1 := hE'.cell 1; have v2 := hE'.cell 2
        simp at m0 m1 m2 v0 v1 v2
        have hlz' := hZ'.lt
        by_cases hF : F = 0
        · have e1 : (F == 0) = true := beqT hF
          obtain ⟨b2, b3⟩ := EE.out (FZ.out hF)
          have RU' := RU.out
          rw [if_neg (by simpa using hF)] at RU'
          have RU2 := Lib.hid RU'
          clear hF RU' RU
          go_wp2_with fail
          refine (EVS.out ⟨s1, s2⟩ b2).mono ?_
          rintro e w5 ⟨rfl, hL5, hK5⟩
          have hZ5 : Box w5 (w.heap.size + 1) 122 #[.bool false, .int .i64 0, .int .i64 0] := hK5.box hZ' (by omega)
          have hE5 : Box w5 wr.heap.size 127 #[.int .i64 at', .int .i64 kd, .int .i64 vl] := hK5.box hE' (by omega)
          have hB5 : Below w.heap.size w w5 := hK5.below hBc (by omega) hL'.lt
          have n0 := hZ5.cell 0; have n1 := hZ5.cell 1; have n2 := hZ5.cell 2; have nf := hZ5.froz
          have u0 := hE5.cell 0
          simp at n0 n1 n2 u0
          have hlz5 := hZ5.lt
          have hle5 := hE5.lt
          by_cases hre : re = 0
          · have e2 : (re != 0) = false := bneF hre
            have ES' := ES.out
            rw [if_pos hre] at ES'
            obtain ⟨rfl, rfl, rfl⟩ : es1 = r1 ∧ es2 = r2 ∧ es3 = r3 := by simpa using ES'
            have RU3 := RU2.out
            rw [if_neg (by simpa using hre)] at RU3
            have RU4 := Lib.hid RU3
            have sb := SB.out ⟨s1, s2⟩ b2
            clear hre ES' ES RU3 RU2 SE
            go_wp2_with fail
            go_roundw
            case rel => exact ⟨k + 1, es1, es2, es3, at', by omega, by go_num, rfl, by unfold Hid; rw [hrun.out, HD.out, RU4.out], sb.1, sb.2, hL5, hZ5, hB5⟩
            case measure => simp [intOf]; omega
          · have e2 : (re != 0) = true := bneT hre
            have RU3 := RU2.out
            rw [if_pos (by simpa using hre)] at RU3
            have RV := Lib.hid (show ((R1, R2, R3), RE) = ((false, 0, 0), re) by rw [← HR.out, hrun.out, HD.out, RU3])
            obtain ⟨rfl, rfl, rfl, rfl⟩ : R1 = false ∧ R2 = 0 ∧ R3 = 0 ∧ RE = re := by simpa [and_assoc] using RV.out
            clear hre ES RU3 RU2 SE RV
            go_wp2_with fail
            refine bodyPost_ret (res_c2 rfl rfl (show Box _ _ 122 #[.bool false, .int .i64 0, .int .i64 0] from ?hE) Try.underlying122 rfl ld_size) rfl ⟨rfl, ?hB⟩
            case hE => focus (apply Box.via; apply Exists.intro; apply And.intro; (repeat first | with_reducible assumption | with_reducible exact Box.new _ _ _ | ((with_reducible apply Box.newAt); focus (simp; done)) | (with_reducible apply Box.drew) | (with_reducible apply Box.drewN) | (with_reducible apply Box.set) | (with_reducible apply Box.alloc) | (with_reducible apply Box.far)); all_goals (first | with_reducible exact Nat.le_refl _ | omega | (simp; done) | (simp; omega) | (omega) | ((try simp); omega)))
            case hB => focus ((repeat first | with_reducible exact Below.refl _ _ | (with_reducible refine Below.setCell ?_ ?_ _) | (with_reducible refine Below.alloc ?_ ?_ _) | (with_reducible refine below_drewN ?_ _) | (with_reducible refine Below.drew ?_) | (with_reducible refine Below.trans ?_ (Below.mono hB5 ?_))); all_goals (first | with_reducible exact Nat.le_refl _ | omega | (simp; done) | (simp; omega) | (have := hB5.size; (try simp at this); omega) | (have := hB5.size; (try simp at this); (try simp); omega)))
        · have e1 : (F == 0) = false := beqF hF
          have e2 : (F != 0) = true := bneT hF
          have RU' := RU.out
          rw [if_pos (by simpa using hF)] at RU'
          have RV := Lib.hid (show ((R1, R2, R3), RE) = ((false, 0, 0), F) by rw [← HR.out, hrun.out, HD.out, RU'])
          obtain ⟨rfl, rfl, rfl, rfl⟩ : R1 = false ∧ R2 = 0 ∧ R3 = 0 ∧ RE = F := by simpa [and_assoc] using RV.out
          clear hF RU' RU RV ES SE
          go_wp2_with fail
          refine bodyPost_ret (res_c2 rfl rfl (show Box _ _ 122 #[.bool false, .int .i64 0, .int .i64 0] from ?hE) Try.underlying122 rfl ld_size) rfl ⟨rfl, ?hB⟩
          case hE => focus (apply Box.via; apply Exists.intro; apply And.intro; (repeat first | with_reducible assumption | with_reducible exact Box.new _ _ _ | ((with_reducible apply Box.newAt); focus (simp; done)) | (with_reducible apply Box.drew) | (with_reducible apply Box.drewN) | (with_reducible apply Box.set) | (with_reducible apply Box.alloc) | (with_reducible apply Box.far)); all_goals (first | with_reducible exact Nat.le_refl _ | omega | (simp; done) | (simp; omega) | (omega) | ((try simp); omega)))
          case hB => focus ((repeat first | with_reducible exact Below.refl _ _ | (with_reducible refine Below.setCell ?_ ?_ _) | (with_reducible refine Below.alloc ?_ ?_ _) | (with_reducible refine below_drewN ?_ _) | (with_reducible refine Below.drew ?_) | (with_reducible refine Below.trans ?_ (Below.mono hBc ?_))); all_goals (first | with_reducible exact Nat.le_refl _ | omega | (simp; done) | (simp; omega) | (have := hBc.size; (try simp at this); omega) | (have := hBc.size; (try simp at this); (try simp); omega)))
    · have RV : runL lim hold (true, 0, 0) 0 xs = ((cl, ld, sn), 0) := by rw [hrun.out, List.drop_eq_nil_of_le (by omega)]; rfl
      obtain ⟨rfl, rfl, rfl, rfl⟩ : R1 = cl ∧ R2 = ld ∧ R3 = sn ∧ RE = 0 := by rw [HR.out] at RV; simpa [and_assoc] using RV
      clear RV
      have hL' := hL
      unfold LBox at hL'
      have m2 := hL'.cell 2; have m3 := hL'.cell 3; have m4 := hL'.cell 4
      have g0 := hZ.cell 0; have g1 := hZ.cell 1; have g2 := hZ.cell 2; have gf := hZ.froz
      simp at m2 m3 m4 g0 g1 g2
      have hlz := hZ.lt
      go_wp2_with fail
      refine bodyPost_ret (res_c2 rfl rfl (show Box _ _ 122 #[.bool R1, .int .i64 R2, .int .i64 R3] from ?hE) Try.underlying122 rfl ld_size) rfl ⟨rfl, ?hB⟩
      case hE => focus (apply Box.via; apply Exists.intro; apply And.intro; (repeat first | with_reducible assumption | with_reducible exact Box.new _ _ _ | ((with_reducible apply Box.newAt); focus (simp; done)) | (with_reducible apply Box.drew) | (with_reducible apply Box.drewN) | (with_reducible apply Box.set) | (with_reducible apply Box.alloc) | (with_reducible apply Box.far)); all_goals (first | with_reducible exact Nat.le_refl _ | omega | (simp; done) | (simp; omega) | (omega) | ((try simp); omega)))
      case hB => focus ((repeat first | with_reducible exact Below.refl _ _ | (with_reducible refine Below.setCell ?_ ?_ _) | (with_reducible refine Below.alloc ?_ ?_ _) | (with_reducible refine below_drewN ?_ _) | (with_reducible refine Below.drew ?_) | (with_reducible refine Below.trans ?_ (Below.mono hB ?_))); all_goals (first | with_reducible exact Nat.le_refl _ | omega | (simp; done) | (simp; omega) | (have := hB.size; (try simp at this); omega) | (have := hB.size; (try simp at this); (try simp); omega)))

end Go.Proofs.Ytgbckdmhmkpahaa

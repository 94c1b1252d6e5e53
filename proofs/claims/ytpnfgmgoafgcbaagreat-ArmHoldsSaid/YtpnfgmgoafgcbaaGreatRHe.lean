/-
  held and Hold of the reference (chapter 6).
-/
import Derived.Test.YtpnfgmgoafgcbaaGreatRFo
import Derived.Test.YtpnfgmgoafgcbaaGreatRAd
import Derived.Test.YtpnfgmgoafgcbaaGreatHdP
import Derived.Laws.AppendOwnNone
set_option linter.unusedVariables false
namespace Go.Proofs.YtpnfgmgoafgcbaaGreat
open Go.RowKit
attribute [local go_sem] Oper.semAt_some
theorem eql_b3 (a b c x y z : Int) (w : World) : (binOp .eql 51 (.agg #[.int .i64 a, .int .i64 b, .int .i64 c]) (.agg #[.int .i64 x, .int .i64 y, .int .i64 z])).run Tryz.prog w = .ok (.bool (sameB a b c x y z)) w := by
  have h := run_equalIn_ints 9998 51 3 [a, b, c] [x, y, z] w Tryz.underlying51 rfl rfl
  rw [run_eql_struct, show (10000 : Nat) = 9998 + 1 + 1 from rfl]
  rw [show Value.agg #[.int .i64 a, .int .i64 b, .int .i64 c] = .agg (([a, b, c].map (Value.int .i64)).toArray) from rfl, show Value.agg #[.int .i64 x, .int .i64 y, .int .i64 z] = .agg (([x, y, z].map (Value.int .i64)).toArray) from rfl, h]
  simp [sameB]
attribute [local go_sem ↓] eql_b3
theorem heP_len (fn fd : Int) (C : List Ct) (b : Int × Int × Int) (L : List (Int × Int)) (hm : ∀ c ∈ C, 0 ≤ c.2.2) (h : heP fn fd C b = some L) : L.length = C.length :=
  (heP_ok fn fd fn fd C C b L 0 hm rfl (fun k c c' h1 h2 => by rw [h1] at h2; cases h2; exact ⟨rfl, rfl, Int.le_refl _, fun _ _ _ _ h => h⟩) h).1
/-- How held ends. -/
def RhEnd (w : World) (R : Option (List (Int × Int))) (e : Ending) (w' : World) : Prop :=
  Below w.heap.size w w' ∧ match R with
    | none => e = .returned (.tuple #[.slice none 0 0, .bool false])
    | some L => ∃ (A : Option Addr) (c : Nat), e = .returned (.tuple #[.slice A L.length c, .bool true]) ∧ SlV w' A (L.flatMap ceV) ∧ (L = [] → A = none ∧ c = 0)
set_option maxHeartbeats 8000000 in
set_option maxRecDepth 100000 in
/-- The forces of the contacts from one on. -/
theorem rheld_c (C : List Ct) (cC : Nat) (fn fd l0 l1 l2 : Int) (hf : 0 ≤ fn ∧ fn ≤ 10) (hd : 0 ≤ fd ∧ fd ≤ 10) (hC : ∀ c ∈ C, ctOk c) (hC3 : C.length ≤ 3) :
    ∀ (rem done : List Ct), C = done ++ rem → ∀ (AC : Option Addr) (b : Int × Int × Int) (w : World), balOk (10 + 200 * done.length) b → SlV w AC (C.flatMap ctV) →
      Calls Tryz.prog 102 #[.agg #[.slice AC C.length cC, .int .i64 fn, .int .i64 fd, .int .i64 l0, .int .i64 l1, .int .i64 l2], .int .i64 done.length, .agg #[.int .i64 b.1, .int .i64 b.2.1, .int .i64 b.2.2]] w (RhEnd w (heP fn fd rem b)) := by
  intro rem
  induction rem with
  | nil =>
    intro done hCd AC b w hb hs
    obtain ⟨b0, b1, b2⟩ := b
    have hlen : done.length = C.length := by rw [hCd]; simp
    have e1 : ((done.length : Int) == (C.length : Int)) = true := beqT (by omega)
    have HP := Lib.hid (show heP fn fd [] (b0, b1, b2) = if (b0, b1, b2) = ((0 : Int), (0 : Int), (0 : Int)) then some [] else none from rfl)
    generalize heP fn fd [] (b0, b1, b2) = R at *
    clear hs hlen hCd hb hC
    go_enter Tryz.func102, Tryz.ntmps102
    cases hsb : sameB b0 b1 b2 0 0 0
    · have HR := Lib.hid (show R = none by rw [HP.out]; simp [sameB] at hsb; simp; exact hsb)
      clear HP
      go_wp2
      go_quiet (fail)
      go_wp2
      go_ret2
      rw [HR.out]
      exact ⟨by exact bB0, rfl⟩
    · have HR := Lib.hid (show R = some [] by rw [HP.out]; simp [sameB] at hsb; simp; exact hsb)
      clear HP
      go_wp2
      go_quiet (fail)
      go_wp2
      go_ret2
      rw [HR.out]
      exact ⟨by exact bB0, none, 0, rfl, (fun j u hj => by simp at hj), fun _ => ⟨rfl, rfl⟩⟩
  | cons ct rem ih =>
    intro done hCd AC b w hb hs
    obtain ⟨b0, b1, b2⟩ := b
    obtain ⟨⟨px, py⟩, ⟨nx, ny⟩, m⟩ := ct
    have hcl : C.length = done.length + (rem.length + 1) := by rw [hCd]; simp
    have hck : C[done.length]? = some ((px, py), (nx, ny), m) := by rw [hCd]; simp
    have hco := hC _ (List.mem_of_getElem? hck)
    obtain ⟨hp, hq, hx, hy, hm⟩ := hco
    dsimp only at hp hq hx hy hm
    obtain ⟨hm1, hm2⟩ := hm
    have e1 : ((done.length : Int) == (C.length : Int)) = false := beqF (by omega)
    obtain ⟨bC, oC, rfl, hbC, a0, a1, a2, a3, a4⟩ := ct_cells hs hck
    have i0 : 0 ≤ (done.length : Int) := by omega
    have i1 : (done.length : Int) < (C.length : Int) := by omega
    have hdl : done.length ≤ 2 := by omega
    have HB := Lib.hid hb
    have hbk := Lib.hid (show balOk 1000 (b0, b1, b2) by
      obtain ⟨x1, x2, x3⟩ := hb
      simp only [balOk] at x1 x2 x3 ⊢
      refine ⟨?_, ?_, ?_⟩ <;> omega)
    have HS := Lib.hid hs
    have HCK := Lib.hid hck
    have v1 : IntKind.i64.wrap (-m) = -m := IntWalk.i64_in _ (by omega)
    have v2 : IntKind.i64.wrap ((done.length : Int) + 1) = (done.length : Int) + 1 := IntWalk.i64_in _ (by omega)
    have RE0 := Lib.hid (fun (n t : Int) (hn : 0 ≤ n ∧ n ≤ 6) (ht : -6 ≤ t ∧ t ≤ 6) (W : World) (h : Below w.heap.size w W) => show Calls Tryz.prog 102 #[.agg #[.slice (some ⟨bC, oC, none⟩) C.length cC, .int .i64 fn, .int .i64 fd, .int .i64 l0, .int .i64 l1, .int .i64 l2], .int .i64 ((done.length : Int) + 1), .agg #[.int .i64 (afP (b0, b1, b2) ((px, py), (nx, ny), m) n t).1, .int .i64 (afP (b0, b1, b2) ((px, py), (nx, ny), m) n t).2.1, .int .i64 (afP (b0, b1, b2) ((px, py), (nx, ny), m) n t).2.2]] W (RhEnd W (heP fn fd rem (afP (b0, b1, b2) ((px, py), (nx, ny), m) n t))) from by
      have k := afP_ok hb (c := ((px, py), (nx, ny), m)) ⟨hp, hq, hx, hy, hm1, hm2⟩ hn ht
      have := ih (done ++ [((px, py), (nx, ny), m)]) (by rw [hCd]; simp) (some ⟨bC, oC, none⟩) (afP (b0, b1, b2) ((px, py), (nx, ny), m) n t) W (by rw [List.length_append]; exact k) (hs.below h)
      rw [List.length_append] at this
      exact this)
    have HLL := Lib.hid (fun (b : Int × Int × Int) (L : List (Int × Int)) (h : heP fn fd rem b = some L) => heP_len fn fd rem b L (fun c hc => (hC c (by rw [hCd]; simp [hc])).2.2.2.2.1) h)
    have HLR := Lib.hid (show rem.length ≤ 2 by omega)
    have HR := Lib.hid (show heP fn fd (((px, py), (nx, ny), m) :: rem) (b0, b1, b2) = frF (fun n => frF (fun t => if stB fn fd m n t then (heP fn fd rem (afP (b0, b1, b2) ((px, py), (nx, ny), m) n t)).map fun L => (n, t) :: L else none) (2 * m.toNat + 1) (-m)) (m.toNat + 1) 0 from rfl)
    generalize heP fn fd (((px, py), (nx, ny), m) :: rem) (b0, b1, b2) = R at *
    clear hCd hb hs ih hcl hck hC
    go_enter Tryz.func102, Tryz.ntmps102
    go_wp2
    go_loopw [9] (fun v wr => ∃ n : Int, v = .int .i64 n ∧ (0 ≤ n ∧ n ≤ m + 1) ∧ Hid (R = frF (fun n => frF (fun t => if stB fn fd m n t then (heP fn fd rem (afP (b0, b1, b2) ((px, py), (nx, ny), m) n t)).map fun L => (n, t) :: L else none) (2 * m.toNat + 1) (-m)) (m + 1 - n).toNat n) ∧ Box wr w.heap.size 53 #[.slice (some ⟨bC, oC, none⟩) C.length cC, .int .i64 fn, .int .i64 fd, .int .i64 l0, .int .i64 l1, .int .i64 l2] ∧ Box wr (w.heap.size + 1) 51 #[.int .i64 b0, .int .i64 b1, .int .i64 b2] ∧ Box wr (w.heap.size + 1 + 1) 69 #[.int .i64 px, .int .i64 py, .int .i64 nx, .int .i64 ny, .int .i64 m] ∧ Below w.heap.size w wr) (fun v _ => (m + 1 - intOf v).toNat)
    case atStart => exact ⟨0, rfl, by omega, by rw [HR.out, show (m + 1 - 0).toNat = m.toNat + 1 by omega]; rfl, by exact bX0, by exact bX0, by exact bX0, by exact bB0⟩
    case round =>
      obtain ⟨n, rfl, ⟨hn1, hn2⟩, hR, h3, h5, h8, hB⟩ := hrel
      clear HR
      have c4 := h8.cell 4
      have l8 := h8.lt
      simp at c4
      by_cases hle : n ≤ m
      · have dle : decide (n ≤ m) = true := decide_eq_true hle
        have HR1 := Lib.hid (show R = (frF (fun t => if stB fn fd m n t then (heP fn fd rem (afP (b0, b1, b2) ((px, py), (nx, ny), m) n t)).map fun L => (n, t) :: L else none) (2 * m.toNat + 1) (-m)).or (frF (fun n => frF (fun t => if stB fn fd m n t then (heP fn fd rem (afP (b0, b1, b2) ((px, py), (nx, ny), m) n t)).map fun L => (n, t) :: L else none) (2 * m.toNat + 1) (-m)) (m - n).toNat (n + 1)) by
          rw [hR.out, show (m + 1 - n).toNat = (m - n).toNat + 1 by omega]; rfl)
        generalize hRX : frF (fun n => frF (fun t => if stB fn fd m n t then (heP fn fd rem (afP (b0, b1, b2) ((px, py), (nx, ny), m) n t)).map fun L => (n, t) :: L else none) (2 * m.toNat + 1) (-m)) (m - n).toNat (n + 1) = RX at HR1
        have HRX := Lib.hid hRX
        clear hR hRX
        go_wp2
        go_loopw [10] (fun v wq => ∃ t : Int, v = .int .i64 t ∧ (-m ≤ t ∧ t ≤ m + 1) ∧ Hid (R = (frF (fun t => if stB fn fd m n t then (heP fn fd rem (afP (b0, b1, b2) ((px, py), (nx, ny), m) n t)).map fun L => (n, t) :: L else none) (m + 1 - t).toNat t).or RX) ∧ Box wq w.heap.size 53 #[.slice (some ⟨bC, oC, none⟩) C.length cC, .int .i64 fn, .int .i64 fd, .int .i64 l0, .int .i64 l1, .int .i64 l2] ∧ Box wq (w.heap.size + 1) 51 #[.int .i64 b0, .int .i64 b1, .int .i64 b2] ∧ Box wq (w.heap.size + 1 + 1) 69 #[.int .i64 px, .int .i64 py, .int .i64 nx, .int .i64 ny, .int .i64 m] ∧ Below w.heap.size w wq) (fun v _ => (m + 1 - intOf v).toNat)
        case atStart => exact ⟨-m, rfl, by omega, by rw [show (m + 1 - -m).toNat = 2 * m.toNat + 1 by omega]; exact HR1.out, h3, h5, h8, hB⟩
        case round =>
          obtain ⟨t, rfl, ⟨ht1, ht2⟩, hR, g3, g5, g8, hB⟩ := hrel
          clear HR1 h3 h5 h8 c4 l8
          have zz0 := g3.cell 0; have zz1 := g3.cell 1; have zz2 := g3.cell 2; have zz3 := g3.cell 3; have zz4 := g3.cell 4; have zz5 := g3.cell 5
          have yy0 := g5.cell 0; have yy1 := g5.cell 1; have yy2 := g5.cell 2
          have xx0 := g8.cell 0; have xx1 := g8.cell 1; have xx2 := g8.cell 2; have xx3 := g8.cell 3; have xx4 := g8.cell 4
          have l3 := g3.lt; have l5 := g5.lt; have l8 := g8.lt
          simp at zz0 zz1 zz2 zz3 zz4 zz5 yy0 yy1 yy2 xx0 xx1 xx2 xx3 xx4
          by_cases hlt : t ≤ m
          · have dlt : decide (t ≤ m) = true := decide_eq_true hlt
            have HR2 := Lib.hid (show R = ((if stB fn fd m n t then (heP fn fd rem (afP (b0, b1, b2) ((px, py), (nx, ny), m) n t)).map fun L => (n, t) :: L else none).or (frF (fun t => if stB fn fd m n t then (heP fn fd rem (afP (b0, b1, b2) ((px, py), (nx, ny), m) n t)).map fun L => (n, t) :: L else none) (m + 1 - (t + 1)).toNat (t + 1))).or RX by
              rw [hR.out, show (m + 1 - t).toNat = (m + 1 - (t + 1)).toNat + 1 by omega]; rfl)
            have IHd := Lib.hid (fun W (h : SlV W (some ⟨bC, oC, none⟩) (C.flatMap ctV)) => isHeld_c C (some ⟨bC, oC, none⟩) cC fn fd l0 l1 l2 px py nx ny m n t done.length W h HCK.out (by omega) (by omega) (by omega) (by omega) (by omega))
            rw [ihB_st (by omega) (by omega)] at IHd
            clear hR
            cases hS : stB fn fd m n t
            · have IHc := IHd
              rw [hS] at IHc
              have HR3 := Lib.hid (show R = (frF (fun t => if stB fn fd m n t then (heP fn fd rem (afP (b0, b1, b2) ((px, py), (nx, ny), m) n t)).map fun L => (n, t) :: L else none) (m + 1 - (t + 1)).toNat (t + 1)).or RX by rw [HR2.out, hS]; simp)
              clear HR2 IHd
              go_wp2_with (first | (go_at_call 97; (refine (IHc.out _ ?_).mono ?_; rotate_left; rintro e w3 ⟨rfl, hb3⟩; have hz3 : wr.heap.size ≤ w3.heap.size := (by have := hb3.size; (try simp at this); omega); have y3 : Box w3 w.heap.size 53 #[.slice (some ⟨bC, oC, none⟩) C.length cC, .int .i64 fn, .int .i64 fd, .int .i64 l0, .int .i64 l1, .int .i64 l2] := (by exact bX1 hb3); have y4 : Box w3 (w.heap.size + 1) 51 #[.int .i64 b0, .int .i64 b1, .int .i64 b2] := (by exact bX1 hb3); have y8 : Box w3 (w.heap.size + 1 + 1) 69 #[.int .i64 px, .int .i64 py, .int .i64 nx, .int .i64 ny, .int .i64 m] := (by exact bX1 hb3); rotate_left; (focus (exact HS.out.below (by exact bB1 hB))))) | fail)
              go_roundw
              case rel => exact ⟨t + 1, rfl, by omega, HR3.out, y3, y4, y8, by exact bB2 hb3 hB⟩
              case measure => simp [intOf]; omega
            · have IHc := IHd
              rw [hS] at IHc
              have HR3 := Lib.hid (show R = (((heP fn fd rem (afP (b0, b1, b2) ((px, py), (nx, ny), m) n t)).map fun L => (n, t) :: L).or (frF (fun t => if stB fn fd m n t then (heP fn fd rem (afP (b0, b1, b2) ((px, py), (nx, ny), m) n t)).map fun L => (n, t) :: L else none) (m + 1 - (t + 1)).toNat (t + 1))).or RX by rw [HR2.out, hS]; simp)
              have ADc := Lib.hid (fun W => added_c b0 b1 b2 px py nx ny m n t W (by obtain ⟨x1, x2, x3⟩ := hbk.out; dsimp only at x1 x2 x3; refine ⟨?_, ?_, ?_⟩ <;> omega) (by omega) (by omega) hx hy hp hq)
              have REc := Lib.hid (RE0.out n t (by omega) (by omega))
              clear HR2 IHd
              generalize hRT : frF (fun t => if stB fn fd m n t then (heP fn fd rem (afP (b0, b1, b2) ((px, py), (nx, ny), m) n t)).map fun L => (n, t) :: L else none) (m + 1 - (t + 1)).toNat (t + 1) = RT at HR3
              have HRT := Lib.hid hRT
              clear hRT
              have HLE := Lib.hid (HLL.out (afP (b0, b1, b2) ((px, py), (nx, ny), m) n t))
              generalize heP fn fd rem (afP (b0, b1, b2) ((px, py), (nx, ny), m) n t) = HE at *
              generalize afP (b0, b1, b2) ((px, py), (nx, ny), m) n t = ap at *
              obtain ⟨z0, z1, z2⟩ := ap
              dsimp only at ADc REc
              go_upto_region 11 with (first | (go_at_call 97; (refine (IHc.out _ ?_).mono ?_; rotate_left; rintro e w3 ⟨rfl, hb3⟩; have hz3 : wr.heap.size ≤ w3.heap.size := (by have := hb3.size; (try simp at this); omega); have y3 : Box w3 w.heap.size 53 #[.slice (some ⟨bC, oC, none⟩) C.length cC, .int .i64 fn, .int .i64 fd, .int .i64 l0, .int .i64 l1, .int .i64 l2] := (by exact bX1 hb3); have y4 : Box w3 (w.heap.size + 1) 51 #[.int .i64 b0, .int .i64 b1, .int .i64 b2] := (by exact bX1 hb3); have y8 : Box w3 (w.heap.size + 1 + 1) 69 #[.int .i64 px, .int .i64 py, .int .i64 nx, .int .i64 ny, .int .i64 m] := (by exact bX1 hb3); rotate_left; (focus (exact HS.out.below (by exact bB1 hB))))) | fail)
              have lw3 := y3.lt
              cases HE with
              | none =>
                have HR4 := Lib.hid (show R = RT.or RX by rw [HR3.out]; simp)
                clear HR3
                (refine region_open (by kernel_rfl) (fun R hR => ?_); refine heldR (S := (fun w' => Box w' w.heap.size 53 #[.slice (some ⟨bC, oC, none⟩) C.length cC, .int .i64 fn, .int .i64 fd, .int .i64 l0, .int .i64 l1, .int .i64 l2] ∧ Box w' (w.heap.size + 1) 51 #[.int .i64 b0, .int .i64 b1, .int .i64 b2] ∧ Box w' (w.heap.size + 1 + 1) 69 #[.int .i64 px, .int .i64 py, .int .i64 nx, .int .i64 ny, .int .i64 m])) ?_ (fun hHeld => ?_); (focus ((try dsimp only); ((refine ⟨?_, ?_, ?_⟩; ((first | exact bX0 | exact bX1 hb5 | exact bX1 hb4 | exact bX2 hb4 hb5)); ((first | exact bX0 | exact bX1 hb5 | exact bX1 hb4 | exact bX2 hb4 hb5)); ((first | exact bX0 | exact bX1 hb5 | exact bX1 hb4 | exact bX2 hb4 hb5)))))); refine rgT 0 ?_ rfl (fun w' hSw => ?_) ?_; rotate_left; (focus ((try dsimp only at hSw); (obtain ⟨hSA, hSB, hSC⟩ := hSw; have sa0 := hSA.cell 0; have sa1 := hSA.cell 1; have sa2 := hSA.cell 2; have sa3 := hSA.cell 3; have sa4 := hSA.cell 4; have sa5 := hSA.cell 5; have sb0 := hSB.cell 0; have sb1 := hSB.cell 1; have sb2 := hSB.cell 2; have sc0 := hSC.cell 0; have sc1 := hSC.cell 1; have sc2 := hSC.cell 2; have sc3 := hSC.cell 3; have sc4 := hSC.cell 4; (simp at sa0 sa1 sa2 sa3 sa4 sa5 sb0 sb1 sb2 sc0 sc1 sc2 sc3 sc4)); go_simp; (try with_reducible rfl))); (try simp only [Act.put, pqs]); refine rgN 1 rfl ?_; (try simp only [Act.put, pqs]); refine rgN 2 rfl ?_; (try simp only [Act.put, pqs]); refine rgT 3 ?_ rfl (fun w' hSw => ?_) ?_; rotate_left; (focus ((try dsimp only at hSw); (obtain ⟨hSA, hSB, hSC⟩ := hSw; have sa0 := hSA.cell 0; have sa1 := hSA.cell 1; have sa2 := hSA.cell 2; have sa3 := hSA.cell 3; have sa4 := hSA.cell 4; have sa5 := hSA.cell 5; have sb0 := hSB.cell 0; have sb1 := hSB.cell 1; have sb2 := hSB.cell 2; have sc0 := hSC.cell 0; have sc1 := hSC.cell 1; have sc2 := hSC.cell 2; have sc3 := hSC.cell 3; have sc4 := hSC.cell 4; (simp at sa0 sa1 sa2 sa3 sa4 sa5 sb0 sb1 sb2 sc0 sc1 sc2 sc3 sc4)); go_simp; (try with_reducible rfl))); (try simp only [Act.put, pqs]); refine rgT 4 ?_ rfl (fun w' hSw => ?_) ?_; rotate_left; (focus ((try dsimp only at hSw); (obtain ⟨hSA, hSB, hSC⟩ := hSw; have sa0 := hSA.cell 0; have sa1 := hSA.cell 1; have sa2 := hSA.cell 2; have sa3 := hSA.cell 3; have sa4 := hSA.cell 4; have sa5 := hSA.cell 5; have sb0 := hSB.cell 0; have sb1 := hSB.cell 1; have sb2 := hSB.cell 2; have sc0 := hSC.cell 0; have sc1 := hSC.cell 1; have sc2 := hSC.cell 2; have sc3 := hSC.cell 3; have sc4 := hSC.cell 4; (simp at sa0 sa1 sa2 sa3 sa4 sa5 sb0 sb1 sb2 sc0 sc1 sc2 sc3 sc4)); go_simp; (try with_reducible rfl))); (try simp only [Act.put, pqs]); refine rgN 5 rfl ?_; (try simp only [Act.put, pqs]); refine rgN 6 rfl ?_; (try simp only [Act.put, pqs]); refine rgN 7 rfl ?_; (try simp only [Act.put, pqs]); refine rgC 8 rfl (fun K hK => ?_); go_simp; ((go_at_call 98; (with_reducible refine (ADc.out _).mono ?_); rintro e w4 ⟨rfl, hb4⟩; have hz4 : w3.heap.size ≤ w4.heap.size := (by have := hb4.size; (try simp at this); omega))); go_simp; refine hK.out _ _ ?_ (fun hHeld => ?_); (focus ((try dsimp only); ((refine ⟨?_, ?_, ?_⟩; ((first | exact bX2 hb4 hb5 | exact bX1 hb4 | exact bX1 hb5 | exact bX0)); ((first | exact bX2 hb4 hb5 | exact bX1 hb4 | exact bX1 hb5 | exact bX0)); ((first | exact bX2 hb4 hb5 | exact bX1 hb4 | exact bX1 hb5 | exact bX0)))))); clear hK K; (try simp only [Act.put, pqs]); refine rgC 9 rfl (fun K hK => ?_); go_simp; ((go_at_call 102; (refine (REc.out _ ?_).mono ?_; rotate_left; rintro e w5 hE5; obtain ⟨hb5, rfl⟩ := hE5; have hz5 : w4.heap.size ≤ w5.heap.size := (by have := hb5.size; (try simp at this); omega); rotate_left; (focus (exact bB3 hb4 hb3 hB))))); go_simp; refine hK.out _ _ ?_ (fun hHeld => ?_); (focus ((try dsimp only); ((refine ⟨?_, ?_, ?_⟩; ((first | exact bX2 hb4 hb5 | exact bX1 hb4 | exact bX1 hb5 | exact bX0)); ((first | exact bX2 hb4 hb5 | exact bX1 hb4 | exact bX1 hb5 | exact bX0)); ((first | exact bX2 hb4 hb5 | exact bX1 hb4 | exact bX1 hb5 | exact bX0)))))); clear hK K; (try simp only [Act.put, pqs]); refine rgN 10 rfl ?_; (try simp only [Act.put, pqs]); refine rgN 11 rfl ?_; (try simp only [Act.put, pqs]); refine rgN 12 rfl ?_; (try simp only [Act.put, pqs]); refine rgN 13 rfl ?_; (try simp only [Act.put, pqs]); refine rgN 14 rfl ?_; (try simp only [Act.put, pqs]); refine wpAnyH_done (Q := fun e a w => e = Exit.normal ∧ R a w) (by kernel_rfl) ⟨rfl, hR _ _ ?_⟩ _; clear hR R)
                go_wp2
                go_roundw
                case rel => exact ⟨t + 1, rfl, by omega, (by unfold Hid; rw [HRT.out]; exact HR4.out), by exact bX2 hb4 hb5, by exact bX2 hb4 hb5, by exact bX2 hb4 hb5, by exact bB4 hb5 hb4 hb3 hB⟩
                case measure => simp [intOf]; omega
              | some L =>
                have HR4 := Lib.hid (show R = some ((n, t) :: L) by rw [HR3.out]; simp)
                clear HR3
                (refine region_open (by kernel_rfl) (fun R hR => ?_); refine heldR (S := (fun w' => Box w' w.heap.size 53 #[.slice (some ⟨bC, oC, none⟩) C.length cC, .int .i64 fn, .int .i64 fd, .int .i64 l0, .int .i64 l1, .int .i64 l2] ∧ Box w' (w.heap.size + 1) 51 #[.int .i64 b0, .int .i64 b1, .int .i64 b2] ∧ Box w' (w.heap.size + 1 + 1) 69 #[.int .i64 px, .int .i64 py, .int .i64 nx, .int .i64 ny, .int .i64 m])) ?_ (fun hHeld => ?_); (focus ((try dsimp only); ((refine ⟨?_, ?_, ?_⟩; ((first | exact bX0 | exact bX1 hb5 | exact bX1 hb4 | exact bX2 hb4 hb5)); ((first | exact bX0 | exact bX1 hb5 | exact bX1 hb4 | exact bX2 hb4 hb5)); ((first | exact bX0 | exact bX1 hb5 | exact bX1 hb4 | exact bX2 hb4 hb5)))))); refine rgT 0 ?_ rfl (fun w' hSw => ?_) ?_; rotate_left; (focus ((try dsimp only at hSw); (obtain ⟨hSA, hSB, hSC⟩ := hSw; have sa0 := hSA.cell 0; have sa1 := hSA.cell 1; have sa2 := hSA.cell 2; have sa3 := hSA.cell 3; have sa4 := hSA.cell 4; have sa5 := hSA.cell 5; have sb0 := hSB.cell 0; have sb1 := hSB.cell 1; have sb2 := hSB.cell 2; have sc0 := hSC.cell 0; have sc1 := hSC.cell 1; have sc2 := hSC.cell 2; have sc3 := hSC.cell 3; have sc4 := hSC.cell 4; (simp at sa0 sa1 sa2 sa3 sa4 sa5 sb0 sb1 sb2 sc0 sc1 sc2 sc3 sc4)); go_simp; (try with_reducible rfl))); (try simp only [Act.put, pqs]); refine rgN 1 rfl ?_; (try simp only [Act.put, pqs]); refine rgN 2 rfl ?_; (try simp only [Act.put, pqs]); refine rgT 3 ?_ rfl (fun w' hSw => ?_) ?_; rotate_left; (focus ((try dsimp only at hSw); (obtain ⟨hSA, hSB, hSC⟩ := hSw; have sa0 := hSA.cell 0; have sa1 := hSA.cell 1; have sa2 := hSA.cell 2; have sa3 := hSA.cell 3; have sa4 := hSA.cell 4; have sa5 := hSA.cell 5; have sb0 := hSB.cell 0; have sb1 := hSB.cell 1; have sb2 := hSB.cell 2; have sc0 := hSC.cell 0; have sc1 := hSC.cell 1; have sc2 := hSC.cell 2; have sc3 := hSC.cell 3; have sc4 := hSC.cell 4; (simp at sa0 sa1 sa2 sa3 sa4 sa5 sb0 sb1 sb2 sc0 sc1 sc2 sc3 sc4)); go_simp; (try with_reducible rfl))); (try simp only [Act.put, pqs]); refine rgT 4 ?_ rfl (fun w' hSw => ?_) ?_; rotate_left; (focus ((try dsimp only at hSw); (obtain ⟨hSA, hSB, hSC⟩ := hSw; have sa0 := hSA.cell 0; have sa1 := hSA.cell 1; have sa2 := hSA.cell 2; have sa3 := hSA.cell 3; have sa4 := hSA.cell 4; have sa5 := hSA.cell 5; have sb0 := hSB.cell 0; have sb1 := hSB.cell 1; have sb2 := hSB.cell 2; have sc0 := hSC.cell 0; have sc1 := hSC.cell 1; have sc2 := hSC.cell 2; have sc3 := hSC.cell 3; have sc4 := hSC.cell 4; (simp at sa0 sa1 sa2 sa3 sa4 sa5 sb0 sb1 sb2 sc0 sc1 sc2 sc3 sc4)); go_simp; (try with_reducible rfl))); (try simp only [Act.put, pqs]); refine rgN 5 rfl ?_; (try simp only [Act.put, pqs]); refine rgN 6 rfl ?_; (try simp only [Act.put, pqs]); refine rgN 7 rfl ?_; (try simp only [Act.put, pqs]); refine rgC 8 rfl (fun K hK => ?_); go_simp; ((go_at_call 98; (with_reducible refine (ADc.out _).mono ?_); rintro e w4 ⟨rfl, hb4⟩; have hz4 : w3.heap.size ≤ w4.heap.size := (by have := hb4.size; (try simp at this); omega))); go_simp; refine hK.out _ _ ?_ (fun hHeld => ?_); (focus ((try dsimp only); ((refine ⟨?_, ?_, ?_⟩; ((first | exact bX2 hb4 hb5 | exact bX1 hb4 | exact bX1 hb5 | exact bX0)); ((first | exact bX2 hb4 hb5 | exact bX1 hb4 | exact bX1 hb5 | exact bX0)); ((first | exact bX2 hb4 hb5 | exact bX1 hb4 | exact bX1 hb5 | exact bX0)))))); clear hK K; (try simp only [Act.put, pqs]); refine rgC 9 rfl (fun K hK => ?_); go_simp; ((go_at_call 102; (refine (REc.out _ ?_).mono ?_; rotate_left; rintro e w5 hE5; obtain ⟨hb5, A5, c5, rfl, hv5, hn5⟩ := hE5; have hz5 : w4.heap.size ≤ w5.heap.size := (by have := hb5.size; (try simp at this); omega); rotate_left; (focus (exact bB3 hb4 hb3 hB))))); go_simp; refine hK.out _ _ ?_ (fun hHeld => ?_); (focus ((try dsimp only); ((refine ⟨?_, ?_, ?_⟩; ((first | exact bX2 hb4 hb5 | exact bX1 hb4 | exact bX1 hb5 | exact bX0)); ((first | exact bX2 hb4 hb5 | exact bX1 hb4 | exact bX1 hb5 | exact bX0)); ((first | exact bX2 hb4 hb5 | exact bX1 hb4 | exact bX1 hb5 | exact bX0)))))); clear hK K; (try simp only [Act.put, pqs]); refine rgN 10 rfl ?_; (try simp only [Act.put, pqs]); refine rgN 11 rfl ?_; (try simp only [Act.put, pqs]); refine rgN 12 rfl ?_; (try simp only [Act.put, pqs]); refine rgN 13 rfl ?_; (try simp only [Act.put, pqs]); refine rgN 14 rfl ?_; (try simp only [Act.put, pqs]); refine wpAnyH_done (Q := fun e a w => e = Exit.normal ∧ R a w) (by kernel_rfl) ⟨rfl, hR _ _ ?_⟩ _; clear hR R)
                obtain ⟨j0, zC, hj0, hy0, hy1, hy2, hy3⟩ := infoOk_parts infoC
                have hB5 : Below w.heap.size w w5 := by exact bB4 hb5 hb4 hb3 hB
                have hLl : L.length ≤ 2 := by have := HLE.out L rfl; have := HLR.out; omega
                have OWN := Lib.hid (show (w5.alloc (.cells #[.int .i64 n, .int .i64 t] 22)).ownsRow w5.heap.size 22 2 (.slice (some ⟨w5.heap.size, 0, none⟩) 1 1) 1 [.int .i64 n, .int .i64 t] from by
                  have := World.ownsRow_lit (base := w5.heap.size) (e := 22) (size := 2) w5 #[.int .i64 n, .int .i64 t] 1 (by simp) (by decide) rfl
                  simpa using this)
                have VB : Below w.heap.size w (w5.alloc (.cells #[.int .i64 n, .int .i64 t] 22)) := by exact bB1 hB5
                clear HLE HLL RE0 IHc ADc REc hb3 hb4 hb5
                cases L with
                | nil =>
                  obtain ⟨rfl, rfl⟩ := hn5 rfl
                  go_wp2_with (at_builtin; go_must (refine wpList_append_own_none rfl _ _ 54 rfl w5.heap.size 22 j0 2 Tryz.underlying54 hj0 _ 1 [.int .i64 n, .int .i64 t] rfl OWN.out rfl ?_))
                  go_ret2
                  rw [HR4.out]
                  exact ⟨VB, some ⟨w5.heap.size, 0, none⟩, 1, rfl, slv_own (k := 2) (by decide) OWN.out, fun h => by cases h⟩
                | cons f L =>
                  cases A5 with
                  | none => obtain ⟨_, _, e, _⟩ := hv5 0 _ rfl; cases e
                  | some ad =>
                    have HC := Lib.hid (show ∀ j u, ((f :: L).flatMap ceV)[j]? = some u → (w5.alloc (.cells #[.int .i64 n, .int .i64 t] 22)).cell? (ad.add j) = some u from fun j u hj => by
                      obtain ⟨b, o, e, hb, hc⟩ := hv5 j u hj
                      cases e
                      have e : (⟨b, o, none⟩ : Addr).add j = ⟨b, o + j, none⟩ := by unfold Addr.add; split <;> simp [*]
                      rw [e]; exact Lib.cell?_alloc_some _ hc)
                    have H1 := Lib.hid (show ∀ u ∈ (f :: L).flatMap ceV, u.oneCell' = true from fun u hu => by
                      obtain ⟨r, _, hr⟩ := List.mem_flatMap.1 hu
                      simp [ceV] at hr
                      rcases hr with rfl | rfl <;> rfl)
                    have hfl : ((f :: L).flatMap ceV).length = (f :: L).length * 2 := flatK_len (enc := ceV) (k := 2) (fun _ => rfl) _
                    have hm1 : 1 + (f :: L).length ≤ maxLen := by unfold maxLen; omega
                    have hm2 : (1 + (f :: L).length) * 16 ≤ 140737488355328 := by omega
                    clear hv5 hn5
                    go_wp2_with (at_builtin; go_must (refine wpList_append_own _ rfl _ _ 54 rfl w5.heap.size 22 j0 zC 2 16 Tryz.underlying54 hj0 hy0 hy1 hy2 hy3 (by decide) _ _ _ rfl OWN.out ad (f :: L).length c5 ((f :: L).flatMap ceV) rfl hfl HC.out H1.out hm1 hm2 (by simp) ?_); intro v' wx hown1 hgrow1 _)
                    have XB := VB.grown hgrow1 (by simp; omega) (fun r e => by have e : some w5.heap.size = some r := e; have := Option.some.inj e; have := hB5.size; omega)
                    obtain ⟨g', cap', rfl, _, _⟩ := own_pos hown1 (by omega) (by decide)
                    have hsv := slv_own (k := 2) (by decide) hown1
                    go_ret2
                    rw [HR4.out]
                    exact ⟨XB, _, cap', by simp [Nat.add_comm], hsv, fun h => by cases h⟩
          · have dlt : decide (t ≤ m) = false := decide_eq_false hlt
            have HR3 := Lib.hid (show R = RX by rw [hR.out, show (m + 1 - t).toNat = 0 by omega]; rfl)
            clear hR
            go_wp2
            go_roundw
            case rel => exact ⟨n + 1, rfl, by omega, by rw [HR3.out, ← HRX.out, show (m + 1 - (n + 1)).toNat = (m - n).toNat by omega]; rfl, g3, g5, g8, hB⟩
            case measure => simp [intOf]; omega
      · have dle : decide (n ≤ m) = false := decide_eq_false hle
        have HR3 := Lib.hid (show R = none by rw [hR.out, show (m + 1 - n).toNat = 0 by omega]; rfl)
        clear hR
        go_wp2
        go_ret2
        rw [HR3.out]
        exact ⟨hB, rfl⟩

end Go.Proofs.YtpnfgmgoafgcbaaGreat

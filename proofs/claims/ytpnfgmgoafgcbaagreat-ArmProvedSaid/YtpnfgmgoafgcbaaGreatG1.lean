/-
  The texts Way, Tip, Few, Lgt in one.
-/
import Derived.Test.YtpnfgmgoafgcbaaGreatA3
import Derived.Test.YtpnfgmgoafgcbaaGreatA2
import Derived.Test.YtpnfgmgoafgcbaaGreatA1
import Derived.Test.YtpnfgmgoafgcbaaGreatRSc
import Derived.Test.YtpnfgmgoafgcbaaGreatA15
import Derived.Test.YtpnfgmgoafgcbaaGreatA4
set_option linter.all false
/-
  way of the reference (chapter 6).
-/
set_option linter.unusedVariables false
namespace Go.Proofs.YtpnfgmgoafgcbaaGreat
open Go.RowKit
attribute [local go_sem] Oper.semAt_some
attribute [local go_sem ↓] neq_ce'
theorem tc_size : (Tryz.prog.info? 22).map (·.size) = some 2:=by kernel_rfl
set_option maxHeartbeats 1000000 in
theorem way_at (q a b : Int) (w : World) (h : -1000 ≤ q ∧ q ≤ 1000) (h1 : dirX q = a) (h2 : dirY q = b) :
    Calls Tryz.prog 99 #[.int .i64 q] w fun e w' => e = .returned (.agg #[.int .i64 a,.int .i64 b]) ∧ Below w.heap.size w w':=by
  have h4 : q % 4 = 0 ∨ q % 4 = 1 ∨ q % 4 = 2 ∨ q % 4 = 3:=by omega
  have MC0:=Lib.hid (fun W => mod_c q 4 (by decide) (by omega) (by omega) (by decide) W)
  unfold dirX at h1
  unfold dirY at h2
  rcases h4 with e | e | e | e
  all_goals
    rw [e] at h1 h2
    have MC:=MC0
    rw [e] at MC
    simp at h1 h2
    subst h1 h2
    clear MC0 e h
    go_enter Tryz.func99,Tryz.ntmps99
    go_wp2_with (first | (go_at_call 153;(with_reducible refine (MC.out _).mono ?_);rintro e w' ⟨rfl,rfl⟩) | fail)
    refine bodyPost_ret (res_c1 rfl rfl (show Box _ _ 22 #[.int .i64 _,.int .i64 _] from ?hE) Tryz.underlying22 rfl tc_size) rfl ⟨rfl, ?hB⟩
    case hE => exact bX0
    case hB => exact bB0
end Go.Proofs.YtpnfgmgoafgcbaaGreat
/-
  The tip of an arm (chapter 6).
-/
set_option linter.unusedVariables false
namespace Go.Proofs.YtpnfgmgoafgcbaaGreat
end Go.Proofs.YtpnfgmgoafgcbaaGreat
/-
  few (law of chapter 6): whether a scene and a pose are small.
-/
set_option linter.unusedVariables false
namespace Go.Proofs.YtpnfgmgoafgcbaaGreat
open Go.RowKit
attribute [local go_sem] Oper.semAt_some
section
variable {w : World} {g : Nat} {t : TypeId} {a0 a1 a2 a3 a4 a5 a6 a7 a8 : Value}
/-- The cells of a box, all at once. -/
theorem ce9 (h : Box w g t #[a0,a1,a2,a3,a4,a5,a6,a7,a8]) : w.cell? ⟨g,0,none⟩ = some a0 ∧ w.cell? ⟨g,1,none⟩ = some a1 ∧ w.cell? ⟨g,2,none⟩ = some a2 ∧ w.cell? ⟨g,3,none⟩ = some a3 ∧ w.cell? ⟨g,4,none⟩ = some a4 ∧ w.cell? ⟨g,5,none⟩ = some a5 ∧ w.cell? ⟨g,6,none⟩ = some a6 ∧ w.cell? ⟨g,7,none⟩ = some a7 ∧ w.cell? ⟨g,8,none⟩ = some a8 ∧ g < w.heap.size :=
  ⟨h.cell 0,h.cell 1,h.cell 2,h.cell 3,h.cell 4,h.cell 5,h.cell 6,h.cell 7,h.cell 8,h.lt⟩
theorem ce2 (h : Box w g t #[a0,a1]) : w.cell? ⟨g,0,none⟩ = some a0 ∧ w.cell? ⟨g,1,none⟩ = some a1 ∧ g < w.heap.size:=⟨h.cell 0,h.cell 1,h.lt⟩
end
/-- Whether a scene has not many links and boxes, and a pose not many quarters. -/
def fewP (s : Sc) (p : Ps) : Bool:=decide (s.L.length ≤ 5) && decide (s.B.length ≤ 8) && decide (p.2.length ≤ 5)
theorem fewP_true {s : Sc} {p : Ps} (h : fewP s p = true) : s.L.length ≤ 5 ∧ s.B.length ≤ 8 ∧ p.2.length ≤ 5:=by
  simp [fewP] at h
  omega
set_option maxHeartbeats 1000000 in
theorem few_c (bx bY sl fx fX fy fY ps : Int) (L : List Lk) (B : List Bx) (Q : List Int) (AL AB AQ : Option Addr) (cL cB cQ : Nat) (w : World) :
    Calls Tryz.prog 15 #[.agg #[.int .i64 bx,.int .i64 bY,.int .i64 sl,.slice AL L.length cL,.int .i64 fx,.int .i64 fX,.int .i64 fy,.int .i64 fY,.slice AB B.length cB],.agg #[.int .i64 ps,.slice AQ Q.length cQ]] w fun e w' => e = .returned (.bool (fewP (⟨bx,bY,sl,L,(fx,fX,fy,fY),B⟩ : Sc) (ps,Q))) ∧ Below w.heap.size w w':=by
  have HR:=Lib.hid (show fewP (⟨bx,bY,sl,L,(fx,fX,fy,fY),B⟩ : Sc) (ps,Q) = (decide ((L.length : Int) ≤ 5) && decide ((B.length : Int) ≤ 8) && decide ((Q.length : Int) ≤ 5)) from by unfold fewP;dsimp only;congr 1;(congr 1);all_goals exact decide_eq_decide.2 (by omega))
  generalize fewP (⟨bx,bY,sl,L,(fx,fX,fy,fY),B⟩ : Sc) (ps,Q) = R at *
  by_cases h1 : (L.length : Int) ≤ 5
  · have d1:=decide_eq_true h1
    rw [d1] at HR
    by_cases h2 : (B.length : Int) ≤ 8
    · have d2:=decide_eq_true h2
      rw [d2] at HR
      clear h1 h2
      go_enter Tryz.func15,Tryz.ntmps15
      go_wp2
      all_goals go_ret
      all_goals exact ⟨by rw [HR.out];first | rfl | (simp [*];done),by exact bB0⟩
    · have d2:=decide_eq_false h2
      rw [d2] at HR
      clear h1 h2
      go_enter Tryz.func15,Tryz.ntmps15
      go_wp2
      all_goals go_ret
      all_goals exact ⟨by rw [HR.out];first | rfl | (simp [*];done),by exact bB0⟩
  · have d1:=decide_eq_false h1
    rw [d1] at HR
    clear h1
    go_enter Tryz.func15,Tryz.ntmps15
    go_wp2
    all_goals go_ret
    all_goals exact ⟨by rw [HR.out];first | rfl | (simp [*];done),by exact bB0⟩
end Go.Proofs.YtpnfgmgoafgcbaaGreat
/-
  light and same (law of chapter 6).
-/
set_option linter.unusedVariables false
namespace Go.Proofs.YtpnfgmgoafgcbaaGreat
open Go.RowKit
attribute [local go_sem] Oper.semAt_some
/-- How many poses a scene has. -/
def lgN : Int → List Lk → Int
  | n,[] => n
  | n,l :: r => lgN (n * (l.2.2 - l.2.1 + 1)) r
def lightP (s : Sc) : Bool:=if scE s ≠ 0 then true else decide (lgN (s.sl + 1) s.L ≤ 100)
set_option maxHeartbeats 4000000 in
set_option maxRecDepth 100000 in
theorem light_c (bx bY sl fx fX fy fY : Int) (L : List Lk) (B : List Bx) (AL AB : Option Addr) (cL cB : Nat) (w : World) (hL : L.length ≤ 1000) (hB : B.length ≤ 1000) (hs1 : SlV w AL (L.flatMap lkV)) (hs2 : SlV w AB (B.flatMap bxV)) :
    Calls Tryz.prog 33 #[.agg #[.int .i64 bx,.int .i64 bY,.int .i64 sl,.slice AL L.length cL,.int .i64 fx,.int .i64 fX,.int .i64 fy,.int .i64 fY,.slice AB B.length cB]] w fun e w' => e = .returned (.bool (lightP (⟨bx,bY,sl,L,(fx,fX,fy,fY),B⟩ : Sc))) ∧ Below w.heap.size w w':=by
  have SEc:=Lib.hid (fun W (h : Below w.heap.size w W) => rSceneErr_c bx bY sl fx fX fy fY L B AL AB cL cB W (by omega) (by omega) (hs1.below h) (hs2.below h))
  by_cases h0 : scE (⟨bx,bY,sl,L,(fx,fX,fy,fY),B⟩ : Sc) = 0
  · have hR : lightP (⟨bx,bY,sl,L,(fx,fX,fy,fY),B⟩ : Sc) = decide (lgN (sl + 1) L ≤ 100):=by unfold lightP;rw [if_neg (by simp [h0])]
    have hS:=scE_ok h0
    have hlen:=hS.len;have hlk:=hS.lk;have hsl:=hS.sl
    dsimp only at hlen hlk hsl
    rw [h0] at SEc
    have HLK:=Lib.hid hlk
    have HR:=Lib.hid hR
    have HS1:=Lib.hid hs1
    have H0:=Lib.hid (show lgN (sl + 1) L = lgN (sl + 1) (L.drop 0) from rfl)
    clear h0 hR hS hlk hs1 hs2
    generalize lightP (⟨bx,bY,sl,L,(fx,fX,fy,fY),B⟩ : Sc) = R at *
    generalize lgN (sl + 1) L = N at *
    have v0 : IntKind.i64.wrap (sl + 1) = sl + 1:=IntWalk.i64_in _ (by omega)
    go_enter Tryz.func33,Tryz.ntmps33
    go_wp2_with (first | (go_at_call 105;(with_reducible refine (SEc.out _ (by exact bB0)).mono ?_);rintro e w2 ⟨rfl,hb2⟩;have hz2 : w.heap.size < w2.heap.size:=(by have:=hb2.size;(try simp at this);omega);have y2 : Box w2 w.heap.size 30 #[.int .i64 bx,.int .i64 bY,.int .i64 sl,.slice AL L.length cL,.int .i64 fx,.int .i64 fX,.int .i64 fy,.int .i64 fY,.slice AB B.length cB]:=(by exact bX1 hb2);have p0:=y2.cell 0;have p1:=y2.cell 1;have p2:=y2.cell 2;have p3:=y2.cell 3;have p4:=y2.cell 4;have p5:=y2.cell 5;have p6:=y2.cell 6;have p7:=y2.cell 7;have p8:=y2.cell 8;(simp at p0 p1 p2 p3 p4 p5 p6 p7 p8);have pl:=y2.lt) | fail)
    have hB2 : Below w.heap.size w w2:=by exact bB1 hb2
    clear hb2 hz2
    generalize w2 = W5 at *
    go_loopw [3,4] (fun n j wr => ∃ (k : Nat) (m : Int),n = .int .i64 m ∧ j = .int .i64 k ∧ k ≤ L.length ∧ (0 ≤ m ∧ m ≤ 7 * 5 ^ k) ∧ Hid (N = lgN m (L.drop k)) ∧ Below W5.heap.size W5 wr) (fun _ j _ => L.length - (intOf j).toNat)
    case atStart => exact ⟨0,sl + 1,rfl,rfl,Nat.zero_le _,⟨by omega,by omega⟩,H0.out,Below.refl _ _⟩
    case round =>
      obtain ⟨k,m,rfl,rfl,hk,⟨hm0,hm1⟩,hN,hb⟩:=hrel
      clear H0
      have hY:=y2.below hb pl
      clear p0 p1 p2 p3 p4 p5 p6 p7 p8
      have q3:=hY.cell 3;have ql:=hY.lt
      simp at q3
      by_cases hlt : k < L.length
      · obtain ⟨⟨la,lb,lc⟩,hl⟩ : ∃ l,L[k]? = some l:=⟨_,List.getElem?_eq_getElem hlt⟩
        obtain ⟨bL,oL,rfl,lL,_,c1,c2⟩:=lk_cells (HS1.out.below (show Below w.heap.size w wr from by exact bB2 hb hB2)) hl
        dsimp only at c1 c2
        obtain ⟨h1,h2,h3,h4,h5⟩:=HLK.out _ (List.mem_of_getElem? hl)
        dsimp only at h1 h2 h3 h4 h5
        have hN2:=hN.out
        obtain ⟨_,el⟩:=List.getElem?_eq_some_iff.1 hl
        rw [List.drop_eq_getElem_cons hlt,el] at hN2
        have HN2:=Lib.hid (show N = lgN (m * (lc - lb + 1)) (L.drop (k + 1)) from hN2)
        have hk3 : k = 0 ∨ k = 1 ∨ k = 2:=by omega
        have b1 : (0 : Int) ≤ m * (lc - lb + 1):=Int.mul_nonneg hm0 (by omega)
        have b2 : m * (lc - lb + 1) ≤ m * 5:=Int.mul_le_mul_of_nonneg_left (by omega) hm0
        have b3 : m ≤ 175:=by rcases hk3 with rfl | rfl | rfl <;> omega
        have b4 : m * 5 ≤ 7 * 5 ^ (k + 1):=by rw [Int.pow_succ];omega
        have v1 : IntKind.i64.wrap (lc - lb) = lc - lb:=IntWalk.i64_in _ (by omega)
        have v2 : IntKind.i64.wrap (lc - lb + 1) = lc - lb + 1:=IntWalk.i64_in _ (by omega)
        have v3 : IntKind.i64.wrap (m * (lc - lb + 1)) = m * (lc - lb + 1):=IntWalk.i64_in _ (by omega)
        have k0 : 0 ≤ (k : Int):=by omega
        have k1 : (k : Int) < (L.length : Int):=by omega
        have HB:=Lib.hid (And.intro b1 (Int.le_trans b2 b4))
        clear hN2 hN el hl b1 b2 b3 b4 hk3 hm1
        go_wp2
        (refine region_open kR (fun R hR => ?_);refine heldR (S:=(fun w' => Below wr.heap.size wr w')) ?_ (fun hHeld => ?_);(focus ((try dsimp only);(((first | exact bB0 | exact bB0)))));have hO:=Lib.hid (fun w' (hSw : (fun w' => Below wr.heap.size wr w') w') => (by (try dsimp only at hSw);(have hcc:=(bcell hSw).1;have sa0:=(hcc _ 3 ql).trans q3;have sa1:=(hcc _ _ lL).trans c1;have sa2:=(hcc _ _ lL).trans c2);exact And.intro sa0 (And.intro sa1 sa2)));refine rgN 0 rfl ?_;refine rgN 1 rfl ?_;refine rgL 2 hO rfl ?_;refine rgN 3 rfl ?_;refine rgN 4 rfl ?_;refine rgN 5 rfl ?_;refine rgN 6 rfl ?_;refine rgL 7 hO rfl ?_;refine rgN 8 rfl ?_;refine rgL 9 hO rfl ?_;refine rgN 10 rfl ?_;refine rgN 11 rfl ?_;refine rgN 12 rfl ?_;refine rgN 13 rfl ?_;refine rgL 14 hO rfl ?_;refine rgN 15 rfl ?_;refine rgN 16 rfl ?_;refine rgN 17 rfl ?_;refine rgN 18 rfl ?_;refine wpAnyH_done (Q:=fun e a w => e = Exit.normal ∧ R a w) kR ⟨rfl,hR _ _ ?_⟩ _;clear hR R)
        go_wp2
        go_roundw
        case rel => exact ⟨k + 1,m * (lc - lb + 1),rfl,by go_num,by omega,HB.out,HN2.out,by exact bB1 hb⟩
        case measure => simp [intOf];omega
      · have e : N = m:=by rw [hN.out,List.drop_eq_nil_of_le (by omega)];rfl
        go_wp2
        go_ret
        exact ⟨ret_b (by rw [HR.out,e]),by exact bB2 hb hB2⟩
  · have hR : lightP (⟨bx,bY,sl,L,(fx,fX,fy,fY),B⟩ : Sc) = true:=by unfold lightP;rw [if_pos h0]
    rw [hR]
    generalize scE (⟨bx,bY,sl,L,(fx,fX,fy,fY),B⟩ : Sc) = e0 at *
    have x1 : (e0 != 0) = true:=bneT h0
    clear hs1 hs2 hR h0
    go_enter Tryz.func33,Tryz.ntmps33
    go_wp2_with (first | (go_at_call 105;(with_reducible refine (SEc.out _ (by exact bB0)).mono ?_);rintro e w2 ⟨rfl,hb2⟩;have hz2 : w.heap.size < w2.heap.size:=(by have:=hb2.size;(try simp at this);omega);have y2 : Box w2 w.heap.size 30 #[.int .i64 bx,.int .i64 bY,.int .i64 sl,.slice AL L.length cL,.int .i64 fx,.int .i64 fX,.int .i64 fy,.int .i64 fY,.slice AB B.length cB]:=(by exact bX1 hb2);have p0:=y2.cell 0;have p1:=y2.cell 1;have p2:=y2.cell 2;have p3:=y2.cell 3;have p4:=y2.cell 4;have p5:=y2.cell 5;have p6:=y2.cell 6;have p7:=y2.cell 7;have p8:=y2.cell 8;(simp at p0 p1 p2 p3 p4 p5 p6 p7 p8);have pl:=y2.lt) | fail)
    go_ret
    exact ⟨rfl,by exact bB1 hb2⟩
end Go.Proofs.YtpnfgmgoafgcbaaGreat

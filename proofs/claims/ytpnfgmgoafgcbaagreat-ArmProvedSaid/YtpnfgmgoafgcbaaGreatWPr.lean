/-
  The law ArmProved (chapter 6): the walk.
-/
import Derived.Test.YtpnfgmgoafgcbaaGreatPrv
import Derived.Test.YtpnfgmgoafgcbaaGreatCk5
import Derived.Test.YtpnfgmgoafgcbaaGreatRCk
import Derived.Test.YtpnfgmgoafgcbaaGreatG1
import Derived.Test.YtpnfgmgoafgcbaaGreatCpyS
import Derived.Test.YtpnfgmgoafgcbaaGreatG4
import Derived.Test.YtpnfgmgoafgcbaaGreatAwake
set_option linter.all false
set_option linter.unusedVariables false
namespace Go.Proofs.YtpnfgmgoafgcbaaGreat
open Go.RowKit
attribute [local go_sem] Oper.semAt_some
section
variable {w : World} {g : Nat} {t : TypeId} {a0 a1 a2 a3 a4 a5 : Value}
theorem ce6 (h : Box w g t #[a0,a1,a2,a3,a4,a5]) : w.cell? ⟨g,0,none⟩ = some a0 ∧ w.cell? ⟨g,1,none⟩ = some a1 ∧ w.cell? ⟨g,2,none⟩ = some a2 ∧ w.cell? ⟨g,3,none⟩ = some a3 ∧ w.cell? ⟨g,4,none⟩ = some a4 ∧ w.cell? ⟨g,5,none⟩ = some a5 ∧ g < w.heap.size:=⟨h.cell 0,h.cell 1,h.cell 2,h.cell 3,h.cell 4,h.cell 5,h.lt⟩
end
def Pr8 (W : World) (R : List PM) (s8 s9 : Value) (wx : World) : Prop :=
  ∃ A c zs,s8 = .slice A zs.length c ∧ s9 = .int .i64 0 ∧ zs.map pmR = R ∧ RcW A zs wx ∧ Below W.heap.size W wx
def Pr17 (W : World) (p : Ps) (n : Nat) (s17 s18 s19 : Value) (wx : World) : Prop:=∃ g D d,s17 = .pointer (some ⟨g,0,none⟩) ∧ s18 = .int .i64 (n : Int) ∧ s19 = .int .i64 0 ∧ W.heap.size ≤ g ∧ Box wx g 33 #[.int .i64 p.1,.slice D p.2.length d] ∧ SlI wx D p.2 ∧ Below W.heap.size W wx
def Pr13 (W : World) (R : List Mv × Int) (s7 s8 : Value) (wx : World) : Prop :=
  ∃ A c,s7 = .slice A R.1.length c ∧ s8 = .int .i64 R.2 ∧ SlV wx A (R.1.flatMap mvV) ∧ Below W.heap.size W wx
set_option maxHeartbeats 8000000 in
set_option maxRecDepth 100000 in
theorem armProved_l (bx bY sl : Int) (L : List Lk) (AL : Option Addr) (cL : Nat) (fx fX fy fY : Int) (B : List Bx) (AB : Option Addr) (cB : Nat) (ps : Int) (Q : List Int) (AQ : Option Addr) (cQ : Nat) (pt : Int) (T : List Int) (AT : Option Addr) (cT : Nat) (u0 u1 u2 u3 : Int) (w : World)
    (hs1 : SlV w AL (L.flatMap lkV)) (hs2 : SlV w AB (B.flatMap bxV)) (_ : L.length ≤ 9223372036854775807) (_ : B.length ≤ 9223372036854775807) (hs3 : SlI w AQ Q) (_ : Q.length ≤ 9223372036854775807) (hs4 : SlI w AT T) (_ : T.length ≤ 9223372036854775807) :
    Calls Tryz.prog 11 #[.agg #[.int .i64 bx,.int .i64 bY,.int .i64 sl,.slice AL L.length cL,.int .i64 fx,.int .i64 fX,.int .i64 fy,.int .i64 fY,.slice AB B.length cB],.agg #[.int .i64 ps,.slice AQ Q.length cQ],.agg #[.int .i64 pt,.slice AT T.length cT,.int .i64 u0,.int .i64 u1,.int .i64 u2,.int .i64 u3]] w fun e w' => e = .returned (.bool true) ∧ Below w.heap.size w w':=by
  have AWc:=Lib.hid (fun W => awake_c W)
  have FWc:=Lib.hid (fun W => few_c bx bY sl fx fX fy fY ps L B Q AL AB AQ cL cB cQ W)
  have FXc:=Lib.hid (fun W => few_c bx bY sl fx fX fy fY pt L B T AL AB AT cL cB cT W)
  have BEc:=Lib.hid (fun W => rBoxErr_c u0 u1 u2 u3 W)
  cases hf : fewP (⟨bx,bY,sl,L,(fx,fX,fy,fY),B⟩ : Sc) (ps,Q)
  · rw [hf] at FWc
    clear hs1 hs2 hs3 hs4 hf
    go_enter Tryz.func11,Tryz.ntmps11
    go_wp2_with (first | (go_at_call 14;(with_reducible refine (AWc.out _).mono ?_);rintro e w1 ⟨rfl,hb1⟩;have hz1 : w.heap.size + 1 + 1 < w1.heap.size:=(by have:=hb1.size;(try simp at this);omega);have y1 : Box w1 w.heap.size 30 #[.int .i64 bx,.int .i64 bY,.int .i64 sl,.slice AL L.length cL,.int .i64 fx,.int .i64 fX,.int .i64 fy,.int .i64 fY,.slice AB B.length cB]:=(by exact bX1 hb1);have z1 : Box w1 (w.heap.size + 1) 33 #[.int .i64 ps,.slice AQ Q.length cQ]:=(by exact bX1 hb1);have x1 : Box w1 (w.heap.size + 1 + 1) 121 #[.int .i64 pt,.slice AT T.length cT,.int .i64 u0,.int .i64 u1,.int .i64 u2,.int .i64 u3]:=(by exact bX1 hb1);have p:=ce9 y1;have q:=ce2 z1;have r:=ce6 x1) | (go_at_call 15;(with_reducible refine (FWc.out _).mono ?_);rintro e w2 ⟨rfl,hb2⟩;have hz2 : w1.heap.size ≤ w2.heap.size:=(by have:=hb2.size;(try simp at this);omega);have y2 : Box w2 w.heap.size 30 #[.int .i64 bx,.int .i64 bY,.int .i64 sl,.slice AL L.length cL,.int .i64 fx,.int .i64 fX,.int .i64 fy,.int .i64 fY,.slice AB B.length cB]:=(by exact bX1 hb2);have z2 : Box w2 (w.heap.size + 1) 33 #[.int .i64 ps,.slice AQ Q.length cQ]:=(by exact bX1 hb2);have x2 : Box w2 (w.heap.size + 1 + 1) 121 #[.int .i64 pt,.slice AT T.length cT,.int .i64 u0,.int .i64 u1,.int .i64 u2,.int .i64 u3]:=(by exact bX1 hb2);have pa:=ce9 y2;have qa:=ce2 z2;have ra:=ce6 x2) | fail)
    go_ret
    exact ⟨rfl,by exact bB2 hb1 hb2⟩
  obtain ⟨f1,f2,f3⟩:=fewP_true hf
  dsimp only at f1 f2 f3
  rw [hf] at FWc
  cases hg : fewP (⟨bx,bY,sl,L,(fx,fX,fy,fY),B⟩ : Sc) (pt,T)
  · rw [hg] at FXc
    clear hs1 hs2 hs3 hs4 hf hg
    go_enter Tryz.func11,Tryz.ntmps11
    go_wp2_with (first | (go_at_call 14;(with_reducible refine (AWc.out _).mono ?_);rintro e w1 ⟨rfl,hb1⟩;have hz1 : w.heap.size + 1 + 1 < w1.heap.size:=(by have:=hb1.size;(try simp at this);omega);have y1 : Box w1 w.heap.size 30 #[.int .i64 bx,.int .i64 bY,.int .i64 sl,.slice AL L.length cL,.int .i64 fx,.int .i64 fX,.int .i64 fy,.int .i64 fY,.slice AB B.length cB]:=(by exact bX1 hb1);have z1 : Box w1 (w.heap.size + 1) 33 #[.int .i64 ps,.slice AQ Q.length cQ]:=(by exact bX1 hb1);have x1 : Box w1 (w.heap.size + 1 + 1) 121 #[.int .i64 pt,.slice AT T.length cT,.int .i64 u0,.int .i64 u1,.int .i64 u2,.int .i64 u3]:=(by exact bX1 hb1);have p:=ce9 y1;have q:=ce2 z1;have r:=ce6 x1) | (go_at_call 15;(with_reducible refine (FWc.out _).mono ?_);rintro e w2 ⟨rfl,hb2⟩;have hz2 : w1.heap.size ≤ w2.heap.size:=(by have:=hb2.size;(try simp at this);omega);have y2 : Box w2 w.heap.size 30 #[.int .i64 bx,.int .i64 bY,.int .i64 sl,.slice AL L.length cL,.int .i64 fx,.int .i64 fX,.int .i64 fy,.int .i64 fY,.slice AB B.length cB]:=(by exact bX1 hb2);have z2 : Box w2 (w.heap.size + 1) 33 #[.int .i64 ps,.slice AQ Q.length cQ]:=(by exact bX1 hb2);have x2 : Box w2 (w.heap.size + 1 + 1) 121 #[.int .i64 pt,.slice AT T.length cT,.int .i64 u0,.int .i64 u1,.int .i64 u2,.int .i64 u3]:=(by exact bX1 hb2);have pa:=ce9 y2;have qa:=ce2 z2;have ra:=ce6 x2) | (go_at_call 15;(with_reducible refine (FXc.out _).mono ?_);rintro e w3 ⟨rfl,hb3⟩;have hz3 : w2.heap.size ≤ w3.heap.size:=(by have:=hb3.size;(try simp at this);omega);have y3 : Box w3 w.heap.size 30 #[.int .i64 bx,.int .i64 bY,.int .i64 sl,.slice AL L.length cL,.int .i64 fx,.int .i64 fX,.int .i64 fy,.int .i64 fY,.slice AB B.length cB]:=(by exact bX1 hb3);have z3 : Box w3 (w.heap.size + 1) 33 #[.int .i64 ps,.slice AQ Q.length cQ]:=(by exact bX1 hb3);have x3 : Box w3 (w.heap.size + 1 + 1) 121 #[.int .i64 pt,.slice AT T.length cT,.int .i64 u0,.int .i64 u1,.int .i64 u2,.int .i64 u3]:=(by exact bX1 hb3);have pb:=ce9 y3;have qb:=ce2 z3;have rb:=ce6 x3) | fail)
    go_ret
    exact ⟨rfl,by exact bB3 hb1 hb2 hb3⟩
  obtain ⟨_,_,f4⟩:=fewP_true hg
  dsimp only at f4
  rw [hg] at FXc
  have LGc:=Lib.hid (fun W (h : Below w.heap.size w W) => light_c bx bY sl fx fX fy fY L B AL AB cL cB W (by omega) (by omega) (hs1.below h) (hs2.below h))
  cases hlg : lightP (⟨bx,bY,sl,L,(fx,fX,fy,fY),B⟩ : Sc)
  · rw [hlg] at LGc
    clear hs1 hs2 hs3 hs4 hf hg hlg
    go_enter Tryz.func11,Tryz.ntmps11
    go_wp2_with (first | (go_at_call 14;(with_reducible refine (AWc.out _).mono ?_);rintro e w1 ⟨rfl,hb1⟩;have hz1 : w.heap.size + 1 + 1 < w1.heap.size:=(by have:=hb1.size;(try simp at this);omega);have y1 : Box w1 w.heap.size 30 #[.int .i64 bx,.int .i64 bY,.int .i64 sl,.slice AL L.length cL,.int .i64 fx,.int .i64 fX,.int .i64 fy,.int .i64 fY,.slice AB B.length cB]:=(by exact bX1 hb1);have z1 : Box w1 (w.heap.size + 1) 33 #[.int .i64 ps,.slice AQ Q.length cQ]:=(by exact bX1 hb1);have x1 : Box w1 (w.heap.size + 1 + 1) 121 #[.int .i64 pt,.slice AT T.length cT,.int .i64 u0,.int .i64 u1,.int .i64 u2,.int .i64 u3]:=(by exact bX1 hb1);have p:=ce9 y1;have q:=ce2 z1;have r:=ce6 x1) | (go_at_call 15;(with_reducible refine (FWc.out _).mono ?_);rintro e w2 ⟨rfl,hb2⟩;have hz2 : w1.heap.size ≤ w2.heap.size:=(by have:=hb2.size;(try simp at this);omega);have y2 : Box w2 w.heap.size 30 #[.int .i64 bx,.int .i64 bY,.int .i64 sl,.slice AL L.length cL,.int .i64 fx,.int .i64 fX,.int .i64 fy,.int .i64 fY,.slice AB B.length cB]:=(by exact bX1 hb2);have z2 : Box w2 (w.heap.size + 1) 33 #[.int .i64 ps,.slice AQ Q.length cQ]:=(by exact bX1 hb2);have x2 : Box w2 (w.heap.size + 1 + 1) 121 #[.int .i64 pt,.slice AT T.length cT,.int .i64 u0,.int .i64 u1,.int .i64 u2,.int .i64 u3]:=(by exact bX1 hb2);have pa:=ce9 y2;have qa:=ce2 z2;have ra:=ce6 x2) | (go_at_call 15;(with_reducible refine (FXc.out _).mono ?_);rintro e w3 ⟨rfl,hb3⟩;have hz3 : w2.heap.size ≤ w3.heap.size:=(by have:=hb3.size;(try simp at this);omega);have y3 : Box w3 w.heap.size 30 #[.int .i64 bx,.int .i64 bY,.int .i64 sl,.slice AL L.length cL,.int .i64 fx,.int .i64 fX,.int .i64 fy,.int .i64 fY,.slice AB B.length cB]:=(by exact bX1 hb3);have z3 : Box w3 (w.heap.size + 1) 33 #[.int .i64 ps,.slice AQ Q.length cQ]:=(by exact bX1 hb3);have x3 : Box w3 (w.heap.size + 1 + 1) 121 #[.int .i64 pt,.slice AT T.length cT,.int .i64 u0,.int .i64 u1,.int .i64 u2,.int .i64 u3]:=(by exact bX1 hb3);have pb:=ce9 y3;have qb:=ce2 z3;have rb:=ce6 x3) | (go_at_call 33;(with_reducible refine (LGc.out _ (by exact bB3 hb1 hb2 hb3)).mono ?_);rintro e w4 ⟨rfl,hb4⟩;have hz4 : w3.heap.size ≤ w4.heap.size:=(by have:=hb4.size;(try simp at this);omega);have y4 : Box w4 w.heap.size 30 #[.int .i64 bx,.int .i64 bY,.int .i64 sl,.slice AL L.length cL,.int .i64 fx,.int .i64 fX,.int .i64 fy,.int .i64 fY,.slice AB B.length cB]:=(by exact bX1 hb4);have z4 : Box w4 (w.heap.size + 1) 33 #[.int .i64 ps,.slice AQ Q.length cQ]:=(by exact bX1 hb4);have x4 : Box w4 (w.heap.size + 1 + 1) 121 #[.int .i64 pt,.slice AT T.length cT,.int .i64 u0,.int .i64 u1,.int .i64 u2,.int .i64 u3]:=(by exact bX1 hb4);have pc:=ce9 y4;have qc:=ce2 z4;have rc:=ce6 x4) | fail)
    go_ret
    exact ⟨rfl,by exact bB4 hb1 hb2 hb3 hb4⟩
  rw [hlg] at LGc
  have FEc:=Lib.hid (fun W (h : Below w.heap.size w W) => rFreeErr_c bx bY sl fx fX fy fY ps L B Q AL AB AQ cL cB cQ W (by omega) (by omega) (by omega) (hs1.below h) (hs2.below h) (hs3.below h))
  by_cases h0 : frE (⟨bx,bY,sl,L,(fx,fX,fy,fY),B⟩ : Sc) (ps,Q) = 0
  case neg =>
    have x1:=bneT h0
    generalize frE (⟨bx,bY,sl,L,(fx,fX,fy,fY),B⟩ : Sc) (ps,Q) = fe at *
    clear hs1 hs2 hs3 hs4 hf hg hlg h0
    go_enter Tryz.func11,Tryz.ntmps11
    go_wp2_with (first | (go_at_call 14;(with_reducible refine (AWc.out _).mono ?_);rintro e w1 ⟨rfl,hb1⟩;have hz1 : w.heap.size + 1 + 1 < w1.heap.size:=(by have:=hb1.size;(try simp at this);omega);have y1 : Box w1 w.heap.size 30 #[.int .i64 bx,.int .i64 bY,.int .i64 sl,.slice AL L.length cL,.int .i64 fx,.int .i64 fX,.int .i64 fy,.int .i64 fY,.slice AB B.length cB]:=(by exact bX1 hb1);have z1 : Box w1 (w.heap.size + 1) 33 #[.int .i64 ps,.slice AQ Q.length cQ]:=(by exact bX1 hb1);have x1 : Box w1 (w.heap.size + 1 + 1) 121 #[.int .i64 pt,.slice AT T.length cT,.int .i64 u0,.int .i64 u1,.int .i64 u2,.int .i64 u3]:=(by exact bX1 hb1);have p:=ce9 y1;have q:=ce2 z1;have r:=ce6 x1) | (go_at_call 15;(with_reducible refine (FWc.out _).mono ?_);rintro e w2 ⟨rfl,hb2⟩;have hz2 : w1.heap.size ≤ w2.heap.size:=(by have:=hb2.size;(try simp at this);omega);have y2 : Box w2 w.heap.size 30 #[.int .i64 bx,.int .i64 bY,.int .i64 sl,.slice AL L.length cL,.int .i64 fx,.int .i64 fX,.int .i64 fy,.int .i64 fY,.slice AB B.length cB]:=(by exact bX1 hb2);have z2 : Box w2 (w.heap.size + 1) 33 #[.int .i64 ps,.slice AQ Q.length cQ]:=(by exact bX1 hb2);have x2 : Box w2 (w.heap.size + 1 + 1) 121 #[.int .i64 pt,.slice AT T.length cT,.int .i64 u0,.int .i64 u1,.int .i64 u2,.int .i64 u3]:=(by exact bX1 hb2);have pa:=ce9 y2;have qa:=ce2 z2;have ra:=ce6 x2) | (go_at_call 15;(with_reducible refine (FXc.out _).mono ?_);rintro e w3 ⟨rfl,hb3⟩;have hz3 : w2.heap.size ≤ w3.heap.size:=(by have:=hb3.size;(try simp at this);omega);have y3 : Box w3 w.heap.size 30 #[.int .i64 bx,.int .i64 bY,.int .i64 sl,.slice AL L.length cL,.int .i64 fx,.int .i64 fX,.int .i64 fy,.int .i64 fY,.slice AB B.length cB]:=(by exact bX1 hb3);have z3 : Box w3 (w.heap.size + 1) 33 #[.int .i64 ps,.slice AQ Q.length cQ]:=(by exact bX1 hb3);have x3 : Box w3 (w.heap.size + 1 + 1) 121 #[.int .i64 pt,.slice AT T.length cT,.int .i64 u0,.int .i64 u1,.int .i64 u2,.int .i64 u3]:=(by exact bX1 hb3);have pb:=ce9 y3;have qb:=ce2 z3;have rb:=ce6 x3) | (go_at_call 33;(with_reducible refine (LGc.out _ (by exact bB3 hb1 hb2 hb3)).mono ?_);rintro e w4 ⟨rfl,hb4⟩;have hz4 : w3.heap.size ≤ w4.heap.size:=(by have:=hb4.size;(try simp at this);omega);have y4 : Box w4 w.heap.size 30 #[.int .i64 bx,.int .i64 bY,.int .i64 sl,.slice AL L.length cL,.int .i64 fx,.int .i64 fX,.int .i64 fy,.int .i64 fY,.slice AB B.length cB]:=(by exact bX1 hb4);have z4 : Box w4 (w.heap.size + 1) 33 #[.int .i64 ps,.slice AQ Q.length cQ]:=(by exact bX1 hb4);have x4 : Box w4 (w.heap.size + 1 + 1) 121 #[.int .i64 pt,.slice AT T.length cT,.int .i64 u0,.int .i64 u1,.int .i64 u2,.int .i64 u3]:=(by exact bX1 hb4);have pc:=ce9 y4;have qc:=ce2 z4;have rc:=ce6 x4) | (go_at_call 37;(with_reducible refine (FEc.out _ (by exact bB4 hb1 hb2 hb3 hb4)).mono ?_);rintro e w6 ⟨rfl,hb6⟩;have hz6 : w4.heap.size ≤ w6.heap.size:=(by have:=hb6.size;(try simp at this);omega);have y6 : Box w6 w.heap.size 30 #[.int .i64 bx,.int .i64 bY,.int .i64 sl,.slice AL L.length cL,.int .i64 fx,.int .i64 fX,.int .i64 fy,.int .i64 fY,.slice AB B.length cB]:=(by exact bX1 hb6);have z6 : Box w6 (w.heap.size + 1) 33 #[.int .i64 ps,.slice AQ Q.length cQ]:=(by exact bX1 hb6);have x6 : Box w6 (w.heap.size + 1 + 1) 121 #[.int .i64 pt,.slice AT T.length cT,.int .i64 u0,.int .i64 u1,.int .i64 u2,.int .i64 u3]:=(by exact bX1 hb6);have pd:=ce9 y6;have qd:=ce2 z6;have rd:=ce6 x6) | fail)
    go_ret
    exact ⟨rfl,by exact bB5 hb1 hb2 hb3 hb4 hb6⟩
  rw [h0] at FEc
  have PEc:=Lib.hid (fun W (h : Below w.heap.size w W) => rPoseErr_c bx bY sl fx fX fy fY pt L B T AL AB AT cL cB cT W (by omega) (by omega) (by omega) (hs1.below h) (hs2.below h) (hs4.below h))
  by_cases h1 : cpE (⟨bx,bY,sl,L,(fx,fX,fy,fY),B⟩ : Sc) (pt,T) = 0
  case neg =>
    have x1:=bneT h1
    generalize cpE (⟨bx,bY,sl,L,(fx,fX,fy,fY),B⟩ : Sc) (pt,T) = te at *
    clear hs1 hs2 hs3 hs4 hf hg hlg h0 h1
    go_enter Tryz.func11,Tryz.ntmps11
    go_wp2_with (first | (go_at_call 14;(with_reducible refine (AWc.out _).mono ?_);rintro e w1 ⟨rfl,hb1⟩;have hz1 : w.heap.size + 1 + 1 < w1.heap.size:=(by have:=hb1.size;(try simp at this);omega);have y1 : Box w1 w.heap.size 30 #[.int .i64 bx,.int .i64 bY,.int .i64 sl,.slice AL L.length cL,.int .i64 fx,.int .i64 fX,.int .i64 fy,.int .i64 fY,.slice AB B.length cB]:=(by exact bX1 hb1);have z1 : Box w1 (w.heap.size + 1) 33 #[.int .i64 ps,.slice AQ Q.length cQ]:=(by exact bX1 hb1);have x1 : Box w1 (w.heap.size + 1 + 1) 121 #[.int .i64 pt,.slice AT T.length cT,.int .i64 u0,.int .i64 u1,.int .i64 u2,.int .i64 u3]:=(by exact bX1 hb1);have p:=ce9 y1;have q:=ce2 z1;have r:=ce6 x1) | (go_at_call 15;(with_reducible refine (FWc.out _).mono ?_);rintro e w2 ⟨rfl,hb2⟩;have hz2 : w1.heap.size ≤ w2.heap.size:=(by have:=hb2.size;(try simp at this);omega);have y2 : Box w2 w.heap.size 30 #[.int .i64 bx,.int .i64 bY,.int .i64 sl,.slice AL L.length cL,.int .i64 fx,.int .i64 fX,.int .i64 fy,.int .i64 fY,.slice AB B.length cB]:=(by exact bX1 hb2);have z2 : Box w2 (w.heap.size + 1) 33 #[.int .i64 ps,.slice AQ Q.length cQ]:=(by exact bX1 hb2);have x2 : Box w2 (w.heap.size + 1 + 1) 121 #[.int .i64 pt,.slice AT T.length cT,.int .i64 u0,.int .i64 u1,.int .i64 u2,.int .i64 u3]:=(by exact bX1 hb2);have pa:=ce9 y2;have qa:=ce2 z2;have ra:=ce6 x2) | (go_at_call 15;(with_reducible refine (FXc.out _).mono ?_);rintro e w3 ⟨rfl,hb3⟩;have hz3 : w2.heap.size ≤ w3.heap.size:=(by have:=hb3.size;(try simp at this);omega);have y3 : Box w3 w.heap.size 30 #[.int .i64 bx,.int .i64 bY,.int .i64 sl,.slice AL L.length cL,.int .i64 fx,.int .i64 fX,.int .i64 fy,.int .i64 fY,.slice AB B.length cB]:=(by exact bX1 hb3);have z3 : Box w3 (w.heap.size + 1) 33 #[.int .i64 ps,.slice AQ Q.length cQ]:=(by exact bX1 hb3);have x3 : Box w3 (w.heap.size + 1 + 1) 121 #[.int .i64 pt,.slice AT T.length cT,.int .i64 u0,.int .i64 u1,.int .i64 u2,.int .i64 u3]:=(by exact bX1 hb3);have pb:=ce9 y3;have qb:=ce2 z3;have rb:=ce6 x3) | (go_at_call 33;(with_reducible refine (LGc.out _ (by exact bB3 hb1 hb2 hb3)).mono ?_);rintro e w4 ⟨rfl,hb4⟩;have hz4 : w3.heap.size ≤ w4.heap.size:=(by have:=hb4.size;(try simp at this);omega);have y4 : Box w4 w.heap.size 30 #[.int .i64 bx,.int .i64 bY,.int .i64 sl,.slice AL L.length cL,.int .i64 fx,.int .i64 fX,.int .i64 fy,.int .i64 fY,.slice AB B.length cB]:=(by exact bX1 hb4);have z4 : Box w4 (w.heap.size + 1) 33 #[.int .i64 ps,.slice AQ Q.length cQ]:=(by exact bX1 hb4);have x4 : Box w4 (w.heap.size + 1 + 1) 121 #[.int .i64 pt,.slice AT T.length cT,.int .i64 u0,.int .i64 u1,.int .i64 u2,.int .i64 u3]:=(by exact bX1 hb4);have pc:=ce9 y4;have qc:=ce2 z4;have rc:=ce6 x4) | (go_at_call 37;(with_reducible refine (FEc.out _ (by exact bB4 hb1 hb2 hb3 hb4)).mono ?_);rintro e w6 ⟨rfl,hb6⟩;have hz6 : w4.heap.size ≤ w6.heap.size:=(by have:=hb6.size;(try simp at this);omega);have y6 : Box w6 w.heap.size 30 #[.int .i64 bx,.int .i64 bY,.int .i64 sl,.slice AL L.length cL,.int .i64 fx,.int .i64 fX,.int .i64 fy,.int .i64 fY,.slice AB B.length cB]:=(by exact bX1 hb6);have z6 : Box w6 (w.heap.size + 1) 33 #[.int .i64 ps,.slice AQ Q.length cQ]:=(by exact bX1 hb6);have x6 : Box w6 (w.heap.size + 1 + 1) 121 #[.int .i64 pt,.slice AT T.length cT,.int .i64 u0,.int .i64 u1,.int .i64 u2,.int .i64 u3]:=(by exact bX1 hb6);have pd:=ce9 y6;have qd:=ce2 z6;have rd:=ce6 x6) | (go_at_call 36;(with_reducible refine (PEc.out _ (by exact bB5 hb1 hb2 hb3 hb4 hb6)).mono ?_);rintro e w7 ⟨rfl,hb7⟩;have hz7 : w6.heap.size ≤ w7.heap.size:=(by have:=hb7.size;(try simp at this);omega);have y7 : Box w7 w.heap.size 30 #[.int .i64 bx,.int .i64 bY,.int .i64 sl,.slice AL L.length cL,.int .i64 fx,.int .i64 fX,.int .i64 fy,.int .i64 fY,.slice AB B.length cB]:=(by exact bX1 hb7);have z7 : Box w7 (w.heap.size + 1) 33 #[.int .i64 ps,.slice AQ Q.length cQ]:=(by exact bX1 hb7);have x7 : Box w7 (w.heap.size + 1 + 1) 121 #[.int .i64 pt,.slice AT T.length cT,.int .i64 u0,.int .i64 u1,.int .i64 u2,.int .i64 u3]:=(by exact bX1 hb7);have pe:=ce9 y7;have qe:=ce2 z7;have re:=ce6 x7) | fail)
    go_ret
    exact ⟨rfl,by exact bB6 hb1 hb2 hb3 hb4 hb6 hb7⟩
  rw [h1] at PEc
  by_cases h2 : bxE (u0,u1,u2,u3) = 0
  case neg =>
    have x1:=bneT h2
    generalize bxE (u0,u1,u2,u3) = be at *
    clear hs1 hs2 hs3 hs4 hf hg hlg h0 h1 h2
    go_enter Tryz.func11,Tryz.ntmps11
    go_wp2_with (first | (go_at_call 14;(with_reducible refine (AWc.out _).mono ?_);rintro e w1 ⟨rfl,hb1⟩;have hz1 : w.heap.size + 1 + 1 < w1.heap.size:=(by have:=hb1.size;(try simp at this);omega);have y1 : Box w1 w.heap.size 30 #[.int .i64 bx,.int .i64 bY,.int .i64 sl,.slice AL L.length cL,.int .i64 fx,.int .i64 fX,.int .i64 fy,.int .i64 fY,.slice AB B.length cB]:=(by exact bX1 hb1);have z1 : Box w1 (w.heap.size + 1) 33 #[.int .i64 ps,.slice AQ Q.length cQ]:=(by exact bX1 hb1);have x1 : Box w1 (w.heap.size + 1 + 1) 121 #[.int .i64 pt,.slice AT T.length cT,.int .i64 u0,.int .i64 u1,.int .i64 u2,.int .i64 u3]:=(by exact bX1 hb1);have p:=ce9 y1;have q:=ce2 z1;have r:=ce6 x1) | (go_at_call 15;(with_reducible refine (FWc.out _).mono ?_);rintro e w2 ⟨rfl,hb2⟩;have hz2 : w1.heap.size ≤ w2.heap.size:=(by have:=hb2.size;(try simp at this);omega);have y2 : Box w2 w.heap.size 30 #[.int .i64 bx,.int .i64 bY,.int .i64 sl,.slice AL L.length cL,.int .i64 fx,.int .i64 fX,.int .i64 fy,.int .i64 fY,.slice AB B.length cB]:=(by exact bX1 hb2);have z2 : Box w2 (w.heap.size + 1) 33 #[.int .i64 ps,.slice AQ Q.length cQ]:=(by exact bX1 hb2);have x2 : Box w2 (w.heap.size + 1 + 1) 121 #[.int .i64 pt,.slice AT T.length cT,.int .i64 u0,.int .i64 u1,.int .i64 u2,.int .i64 u3]:=(by exact bX1 hb2);have pa:=ce9 y2;have qa:=ce2 z2;have ra:=ce6 x2) | (go_at_call 15;(with_reducible refine (FXc.out _).mono ?_);rintro e w3 ⟨rfl,hb3⟩;have hz3 : w2.heap.size ≤ w3.heap.size:=(by have:=hb3.size;(try simp at this);omega);have y3 : Box w3 w.heap.size 30 #[.int .i64 bx,.int .i64 bY,.int .i64 sl,.slice AL L.length cL,.int .i64 fx,.int .i64 fX,.int .i64 fy,.int .i64 fY,.slice AB B.length cB]:=(by exact bX1 hb3);have z3 : Box w3 (w.heap.size + 1) 33 #[.int .i64 ps,.slice AQ Q.length cQ]:=(by exact bX1 hb3);have x3 : Box w3 (w.heap.size + 1 + 1) 121 #[.int .i64 pt,.slice AT T.length cT,.int .i64 u0,.int .i64 u1,.int .i64 u2,.int .i64 u3]:=(by exact bX1 hb3);have pb:=ce9 y3;have qb:=ce2 z3;have rb:=ce6 x3) | (go_at_call 33;(with_reducible refine (LGc.out _ (by exact bB3 hb1 hb2 hb3)).mono ?_);rintro e w4 ⟨rfl,hb4⟩;have hz4 : w3.heap.size ≤ w4.heap.size:=(by have:=hb4.size;(try simp at this);omega);have y4 : Box w4 w.heap.size 30 #[.int .i64 bx,.int .i64 bY,.int .i64 sl,.slice AL L.length cL,.int .i64 fx,.int .i64 fX,.int .i64 fy,.int .i64 fY,.slice AB B.length cB]:=(by exact bX1 hb4);have z4 : Box w4 (w.heap.size + 1) 33 #[.int .i64 ps,.slice AQ Q.length cQ]:=(by exact bX1 hb4);have x4 : Box w4 (w.heap.size + 1 + 1) 121 #[.int .i64 pt,.slice AT T.length cT,.int .i64 u0,.int .i64 u1,.int .i64 u2,.int .i64 u3]:=(by exact bX1 hb4);have pc:=ce9 y4;have qc:=ce2 z4;have rc:=ce6 x4) | (go_at_call 37;(with_reducible refine (FEc.out _ (by exact bB4 hb1 hb2 hb3 hb4)).mono ?_);rintro e w6 ⟨rfl,hb6⟩;have hz6 : w4.heap.size ≤ w6.heap.size:=(by have:=hb6.size;(try simp at this);omega);have y6 : Box w6 w.heap.size 30 #[.int .i64 bx,.int .i64 bY,.int .i64 sl,.slice AL L.length cL,.int .i64 fx,.int .i64 fX,.int .i64 fy,.int .i64 fY,.slice AB B.length cB]:=(by exact bX1 hb6);have z6 : Box w6 (w.heap.size + 1) 33 #[.int .i64 ps,.slice AQ Q.length cQ]:=(by exact bX1 hb6);have x6 : Box w6 (w.heap.size + 1 + 1) 121 #[.int .i64 pt,.slice AT T.length cT,.int .i64 u0,.int .i64 u1,.int .i64 u2,.int .i64 u3]:=(by exact bX1 hb6);have pd:=ce9 y6;have qd:=ce2 z6;have rd:=ce6 x6) | (go_at_call 36;(with_reducible refine (PEc.out _ (by exact bB5 hb1 hb2 hb3 hb4 hb6)).mono ?_);rintro e w7 ⟨rfl,hb7⟩;have hz7 : w6.heap.size ≤ w7.heap.size:=(by have:=hb7.size;(try simp at this);omega);have y7 : Box w7 w.heap.size 30 #[.int .i64 bx,.int .i64 bY,.int .i64 sl,.slice AL L.length cL,.int .i64 fx,.int .i64 fX,.int .i64 fy,.int .i64 fY,.slice AB B.length cB]:=(by exact bX1 hb7);have z7 : Box w7 (w.heap.size + 1) 33 #[.int .i64 ps,.slice AQ Q.length cQ]:=(by exact bX1 hb7);have x7 : Box w7 (w.heap.size + 1 + 1) 121 #[.int .i64 pt,.slice AT T.length cT,.int .i64 u0,.int .i64 u1,.int .i64 u2,.int .i64 u3]:=(by exact bX1 hb7);have pe:=ce9 y7;have qe:=ce2 z7;have re:=ce6 x7) | (go_at_call 70;(with_reducible refine (BEc.out _).mono ?_);rintro e w8 ⟨rfl,hb8⟩;have hz8 : w7.heap.size ≤ w8.heap.size:=(by have:=hb8.size;(try simp at this);omega)) | fail)
    go_ret
    have hB7 : Below w.heap.size w w7:=by exact bB6 hb1 hb2 hb3 hb4 hb6 hb7
    exact ⟨rfl,by exact bB2 hb8 hB7⟩
  rw [h2] at BEc
  obtain ⟨hS,hp,hfr⟩:=frE_ok h0
  have hR:=rea hS hp hfr
  have hsc : scE (⟨bx,bY,sl,L,(fx,fX,fy,fY),B⟩ : Sc) = 0:=by
    have h3:=h1
    rw [cpE_own] at h3
    split at h3
    · rename_i h4;exact absurd h3 h4
    · rename_i h4;exact Decidable.of_not_not h4
  have HRP:=Lib.hid (rea_path h0 h1 hR)
  have HCH:=Lib.hid (rea_chr h0 hR)
  have HRL:=Lib.hid (rea_light hS hlg hsc hR)
  have HRS:=Lib.hid hR.self
  have HND:=Lib.hid hR.nd
  have HCK:=Lib.hid (fun r (hl : r.length ≤ 60) (h : Lds (allK (⟨bx,bY,sl,L,(fx,fX,fy,fY),B⟩ : Sc)) (ps,Q) r (pt,T)) => chk_lds h0 hl h)
  have HMB:=Lib.hid (fun x (hx : x ∈ rchL (⟨bx,bY,sl,L,(fx,fX,fy,fY),B⟩ : Sc) (ps,Q)) => show 0 ≤ x.2 ∧ x.2 ≤ 1000000 from by
    have h3:=(hR.ok x hx).2.2.1
    have h4:=rch_small hS hp hfr x hx
    have h5:=HRL.out
    omega)
  have HLN:=Lib.hid (fun y (hy : y ∈ rchL (⟨bx,bY,sl,L,(fx,fX,fy,fY),B⟩ : Sc) (ps,Q)) => show y.1.2.length ≤ 100000 from by
    have h3:=(hR.ok y hy).1.len
    have h4:=hS.len
    dsimp only at h3 h4
    omega)
  have CSc:=Lib.hid (fun W (h : Below w.heap.size w W) => copyScene_c bx bY sl fx fX fy fY L B AL AB cL cB W (by omega) (by omega) (hs1.below h) (hs2.below h))
  have CQc:=Lib.hid (fun W (h : Below w.heap.size w W) => copyPose_c ps Q AQ cQ W (by omega) (hs3.below h))
  have CTc:=Lib.hid (fun W (h : Below w.heap.size w W) => copyPose_c pt T AT cT W (by omega) (hs4.below h))
  have RFc:=Lib.hid (fun DL DB DQ dL dB dQ W k1 k2 k3 => show Calls Tryz.prog 50 #[.agg #[.int .i64 bx,.int .i64 bY,.int .i64 sl,.slice DL L.length dL,.int .i64 fx,.int .i64 fX,.int .i64 fy,.int .i64 fY,.slice DB B.length dB],.agg #[.int .i64 ps,.slice DQ Q.length dQ]] W (RfEnd W (rchL (⟨bx,bY,sl,L,(fx,fX,fy,fY),B⟩ : Sc) (ps,Q),0)) from by
    have h3:=reachedFrom_c bx bY sl fx fX fy fY ps L B Q DL DB DQ dL dB dQ W (by omega) (by omega) (by omega) k1 k2 k3
    rw [show rchR (⟨bx,bY,sl,L,(fx,fX,fy,fY),B⟩ : Sc) (ps,Q) = (rchL (⟨bx,bY,sl,L,(fx,fX,fy,fY),B⟩ : Sc) (ps,Q),0) from if_neg (by simp [h0])] at h3
    exact h3)
  have CKd:=Lib.hid (fun DL DB DQ DX dL dB dQ dX (ys : List Rc) W (hz : ys.map pmR = rchL (⟨bx,bY,sl,L,(fx,fX,fy,fY),B⟩ : Sc) (ps,Q)) k1 k2 k3 (k4 : RcW DX ys W) => show Calls Tryz.prog 51 #[.agg #[.int .i64 bx,.int .i64 bY,.int .i64 sl,.slice DL L.length dL,.int .i64 fx,.int .i64 fX,.int .i64 fy,.int .i64 fY,.slice DB B.length dB],.agg #[.int .i64 ps,.slice DQ Q.length dQ],.slice DX ys.length dX] W (fun e w' => e = .returned (.tuple #[.int .i64 0,.int .i64 0]) ∧ Below W.heap.size W w') from by
    have h5:=checkReached_c bx bY sl fx fX fy fY ps L B Q DL DB DQ DX dL dB dQ dX ys W (by omega) (by omega) (by omega) k1 k2 k3 k4 (by have h6:=congrArg List.length hz;have h7:=HRL.out;simp at h6;omega) (fun z hz' => by
      have h6 : pmR z ∈ rchL (⟨bx,bY,sl,L,(fx,fX,fy,fY),B⟩ : Sc) (ps,Q):=by rw [← hz];exact List.mem_map_of_mem hz'
      have h7:=HMB.out _ h6
      have h8 : (pmR z).2 = z.2:=rfl
      omega)
    rw [hz,HCH.out] at h5
    exact h5)
  have RKd:=Lib.hid (fun (zs : List Rc) A c W (hz : zs.map pmR = rchL (⟨bx,bY,sl,L,(fx,fX,fy,fY),B⟩ : Sc) (ps,Q)) (hx : RcW A zs W) (h : Below w.heap.size w W) => show Calls Tryz.prog 53 #[.agg #[.int .i64 bx,.int .i64 bY,.int .i64 sl,.slice AL L.length cL,.int .i64 fx,.int .i64 fX,.int .i64 fy,.int .i64 fY,.slice AB B.length cB],.agg #[.int .i64 ps,.slice AQ Q.length cQ],.slice A zs.length c] W (fun e w' => e = .returned (.tuple #[.int .i64 0,.int .i64 0]) ∧ Below W.heap.size W w') from by
    have h5:=rCheckReached_c bx bY sl fx fX fy fY ps L B Q AL AB AQ cL cB cQ zs A c W (by omega) (by omega) (by omega) (hs1.below h) (hs2.below h) (hs3.below h) (by have h6:=congrArg List.length hz;have h7:=HRL.out;simp at h6;omega) hx (fun z hz' => by
      have h6 : pmR z ∈ rchL (⟨bx,bY,sl,L,(fx,fX,fy,fY),B⟩ : Sc) (ps,Q):=by rw [← hz];exact List.mem_map_of_mem hz'
      have h7:=HMB.out _ h6
      have h8 : (pmR z).2 = z.2:=rfl
      omega)
    rw [hz,HCH.out] at h5
    exact h5)
  have PTc:=Lib.hid (fun DL DB DQ DT dL dB dQ dT W k1 k2 k3 k4 => pathTo_c bx bY sl fx fX fy fY ps pt L B Q T DL DB DQ DT dL dB dQ dT W (by omega) (by omega) (by omega) (by omega) k1 k2 k3 k4)
  have HRM:=Lib.hid (fun (b : Bx) (R' : List PM) (h' : Rea (moreB (⟨bx,bY,sl,L,(fx,fX,fy,fY),B⟩ : Sc) b) (ps,Q) R') => rea_more hR h')
  clear hf hg hlg h0 h1 h2 hR hsc hS hp hfr
  generalize hRr : rchL (⟨bx,bY,sl,L,(fx,fX,fy,fY),B⟩ : Sc) (ps,Q) = R at *
  clear hRr
  generalize ptR (⟨bx,bY,sl,L,(fx,fX,fy,fY),B⟩ : Sc) (ps,Q) (pt,T) = PR at *
  go_enter Tryz.func11,Tryz.ntmps11
  go_upto_region 5 with (first | (go_at_call 14;(with_reducible refine (AWc.out _).mono ?_);rintro e w1 ⟨rfl,hb1⟩;have hz1 : w.heap.size + 1 + 1 < w1.heap.size:=(by have:=hb1.size;(try simp at this);omega);have y1 : Box w1 w.heap.size 30 #[.int .i64 bx,.int .i64 bY,.int .i64 sl,.slice AL L.length cL,.int .i64 fx,.int .i64 fX,.int .i64 fy,.int .i64 fY,.slice AB B.length cB]:=(by exact bX1 hb1);have z1 : Box w1 (w.heap.size + 1) 33 #[.int .i64 ps,.slice AQ Q.length cQ]:=(by exact bX1 hb1);have x1 : Box w1 (w.heap.size + 1 + 1) 121 #[.int .i64 pt,.slice AT T.length cT,.int .i64 u0,.int .i64 u1,.int .i64 u2,.int .i64 u3]:=(by exact bX1 hb1);have p:=ce9 y1;have q:=ce2 z1;have r:=ce6 x1) | (go_at_call 15;(with_reducible refine (FWc.out _).mono ?_);rintro e w2 ⟨rfl,hb2⟩;have hz2 : w1.heap.size ≤ w2.heap.size:=(by have:=hb2.size;(try simp at this);omega);have y2 : Box w2 w.heap.size 30 #[.int .i64 bx,.int .i64 bY,.int .i64 sl,.slice AL L.length cL,.int .i64 fx,.int .i64 fX,.int .i64 fy,.int .i64 fY,.slice AB B.length cB]:=(by exact bX1 hb2);have z2 : Box w2 (w.heap.size + 1) 33 #[.int .i64 ps,.slice AQ Q.length cQ]:=(by exact bX1 hb2);have x2 : Box w2 (w.heap.size + 1 + 1) 121 #[.int .i64 pt,.slice AT T.length cT,.int .i64 u0,.int .i64 u1,.int .i64 u2,.int .i64 u3]:=(by exact bX1 hb2);have pa:=ce9 y2;have qa:=ce2 z2;have ra:=ce6 x2) | (go_at_call 15;(with_reducible refine (FXc.out _).mono ?_);rintro e w3 ⟨rfl,hb3⟩;have hz3 : w2.heap.size ≤ w3.heap.size:=(by have:=hb3.size;(try simp at this);omega);have y3 : Box w3 w.heap.size 30 #[.int .i64 bx,.int .i64 bY,.int .i64 sl,.slice AL L.length cL,.int .i64 fx,.int .i64 fX,.int .i64 fy,.int .i64 fY,.slice AB B.length cB]:=(by exact bX1 hb3);have z3 : Box w3 (w.heap.size + 1) 33 #[.int .i64 ps,.slice AQ Q.length cQ]:=(by exact bX1 hb3);have x3 : Box w3 (w.heap.size + 1 + 1) 121 #[.int .i64 pt,.slice AT T.length cT,.int .i64 u0,.int .i64 u1,.int .i64 u2,.int .i64 u3]:=(by exact bX1 hb3);have pb:=ce9 y3;have qb:=ce2 z3;have rb:=ce6 x3) | (go_at_call 33;(with_reducible refine (LGc.out _ (by exact bB3 hb1 hb2 hb3)).mono ?_);rintro e w4 ⟨rfl,hb4⟩;have hz4 : w3.heap.size ≤ w4.heap.size:=(by have:=hb4.size;(try simp at this);omega);have y4 : Box w4 w.heap.size 30 #[.int .i64 bx,.int .i64 bY,.int .i64 sl,.slice AL L.length cL,.int .i64 fx,.int .i64 fX,.int .i64 fy,.int .i64 fY,.slice AB B.length cB]:=(by exact bX1 hb4);have z4 : Box w4 (w.heap.size + 1) 33 #[.int .i64 ps,.slice AQ Q.length cQ]:=(by exact bX1 hb4);have x4 : Box w4 (w.heap.size + 1 + 1) 121 #[.int .i64 pt,.slice AT T.length cT,.int .i64 u0,.int .i64 u1,.int .i64 u2,.int .i64 u3]:=(by exact bX1 hb4);have pc:=ce9 y4;have qc:=ce2 z4;have rc:=ce6 x4) | (go_at_call 37;(with_reducible refine (FEc.out _ (by exact bB4 hb1 hb2 hb3 hb4)).mono ?_);rintro e w6 ⟨rfl,hb6⟩;have hz6 : w4.heap.size ≤ w6.heap.size:=(by have:=hb6.size;(try simp at this);omega);have y6 : Box w6 w.heap.size 30 #[.int .i64 bx,.int .i64 bY,.int .i64 sl,.slice AL L.length cL,.int .i64 fx,.int .i64 fX,.int .i64 fy,.int .i64 fY,.slice AB B.length cB]:=(by exact bX1 hb6);have z6 : Box w6 (w.heap.size + 1) 33 #[.int .i64 ps,.slice AQ Q.length cQ]:=(by exact bX1 hb6);have x6 : Box w6 (w.heap.size + 1 + 1) 121 #[.int .i64 pt,.slice AT T.length cT,.int .i64 u0,.int .i64 u1,.int .i64 u2,.int .i64 u3]:=(by exact bX1 hb6);have pd:=ce9 y6;have qd:=ce2 z6;have rd:=ce6 x6) | (go_at_call 36;(with_reducible refine (PEc.out _ (by exact bB5 hb1 hb2 hb3 hb4 hb6)).mono ?_);rintro e w7 ⟨rfl,hb7⟩;have hz7 : w6.heap.size ≤ w7.heap.size:=(by have:=hb7.size;(try simp at this);omega);have y7 : Box w7 w.heap.size 30 #[.int .i64 bx,.int .i64 bY,.int .i64 sl,.slice AL L.length cL,.int .i64 fx,.int .i64 fX,.int .i64 fy,.int .i64 fY,.slice AB B.length cB]:=(by exact bX1 hb7);have z7 : Box w7 (w.heap.size + 1) 33 #[.int .i64 ps,.slice AQ Q.length cQ]:=(by exact bX1 hb7);have x7 : Box w7 (w.heap.size + 1 + 1) 121 #[.int .i64 pt,.slice AT T.length cT,.int .i64 u0,.int .i64 u1,.int .i64 u2,.int .i64 u3]:=(by exact bX1 hb7);have pe:=ce9 y7;have qe:=ce2 z7;have re:=ce6 x7) | (go_at_call 70;(with_reducible refine (BEc.out _).mono ?_);rintro e w8 ⟨rfl,hb8⟩;have hz8 : w7.heap.size ≤ w8.heap.size:=(by have:=hb8.size;(try simp at this);omega)) | fail)
  have hP : Box w8 w.heap.size 30 #[.int .i64 bx,.int .i64 bY,.int .i64 sl,.slice AL L.length cL,.int .i64 fx,.int .i64 fX,.int .i64 fy,.int .i64 fY,.slice AB B.length cB]:=by exact bX1 hb8
  have hQ : Box w8 (w.heap.size + 1) 33 #[.int .i64 ps,.slice AQ Q.length cQ]:=by exact bX1 hb8
  have hX : Box w8 (w.heap.size + 1 + 1) 121 #[.int .i64 pt,.slice AT T.length cT,.int .i64 u0,.int .i64 u1,.int .i64 u2,.int .i64 u3]:=by exact bX1 hb8
  have hB : Below w.heap.size w w8:=by
    have hB7 : Below w.heap.size w w7:=by exact bB6 hb1 hb2 hb3 hb4 hb6 hb7
    exact bB2 hb8 hB7
  clear y1 z1 x1 p q r y2 z2 x2 pa qa ra y3 z3 x3 pb qb rb y4 z4 x4 pc qc rc y6 z6 x6 pd qd rd y7 z7 x7 pe qe re hb1 hb2 hb3 hb4 hb6 hb7 hb8 hz1 hz2 hz3 hz4 hz6 hz7 hz8 AWc FWc FXc LGc FEc PEc BEc
  generalize w8 = W5 at *
  have lP:=hP.lt;have lQ:=hQ.lt;have lX:=hX.lt
  go_cut [7,8] (fun s7 s8 wx => Pr8 W5 R s7 s8 wx)
  case first => as_aux_lemma =>
    (refine wp_region_held_drew (S:=(fun w' => Box w' w.heap.size 30 #[.int .i64 bx,.int .i64 bY,.int .i64 sl,.slice AL L.length cL,.int .i64 fx,.int .i64 fX,.int .i64 fy,.int .i64 fY,.slice AB B.length cB] ∧ Box w' (w.heap.size + 1) 33 #[.int .i64 ps,.slice AQ Q.length cQ] ∧ Box w' (w.heap.size + 1 + 1) 121 #[.int .i64 pt,.slice AT T.length cT,.int .i64 u0,.int .i64 u1,.int .i64 u2,.int .i64 u3])) kR ?_ (fun hHeld => ?_);(focus ((try dsimp only);((refine ⟨?_, ?_, ?_⟩ <;> (first | exact bX0 | exact bX1 hb3 | exact bX2 hb3 hb4 | exact bX3 hb3 hb4 hb7)))));have hO:=Lib.hid (fun w' (hSw : (fun w' => Box w' w.heap.size 30 #[.int .i64 bx,.int .i64 bY,.int .i64 sl,.slice AL L.length cL,.int .i64 fx,.int .i64 fX,.int .i64 fy,.int .i64 fY,.slice AB B.length cB] ∧ Box w' (w.heap.size + 1) 33 #[.int .i64 ps,.slice AQ Q.length cQ] ∧ Box w' (w.heap.size + 1 + 1) 121 #[.int .i64 pt,.slice AT T.length cT,.int .i64 u0,.int .i64 u1,.int .i64 u2,.int .i64 u3]) w') => (by (try dsimp only at hSw);(obtain ⟨hSA,hSB,hSC⟩:=hSw;have c9:=ce9 hSA;have c2:=ce2 hSB;have c6:=ce6 hSC);exact And.intro c9 (And.intro c2 c6)));refine rgL 0 hO rfl ?_;refine rgL 2 hO rfl ?_;refine rgC 1 rfl (fun K hK => ?_);go_simp;((go_at_call 17;(with_reducible refine (CSc.out _ (by exact bB1 hB)).mono ?_);rintro e w3 hE3;obtain ⟨DL,dL,DB,dB,rfl,hl3,hx3,hb3⟩:=hE3;have hz3 : W5.heap.size ≤ w3.heap.size:=(by have:=hb3.size;(try simp at this);omega)));go_simp;refine hK.out _ _ ?_ (fun hHeld => ?_);(focus ((try dsimp only);((refine ⟨?_, ?_, ?_⟩ <;> (first | exact bX3 hb3 hb4 hb7 | exact bX2 hb3 hb4 | exact bX1 hb3 | exact bX0)))));clear hK K;(try simp only [Act.put,pqs]);refine rgC 3 rfl (fun K hK => ?_);go_simp;((go_at_call 18;(with_reducible refine (CQc.out _ (by exact bB2 hb3 hB)).mono ?_);rintro e w4 hE4;obtain ⟨DQ,dQ,rfl,hq4,hb4⟩:=hE4;have hz4 : w3.heap.size ≤ w4.heap.size:=(by have:=hb4.size;(try simp at this);omega)));go_simp;refine hK.out _ _ ?_ (fun hHeld => ?_);(focus ((try dsimp only);((refine ⟨?_, ?_, ?_⟩ <;> (first | exact bX3 hb3 hb4 hb7 | exact bX2 hb3 hb4 | exact bX1 hb3 | exact bX0)))));clear hK K;(try simp only [Act.put,pqs]);refine rgC 4 rfl (fun K hK => ?_);go_simp;((go_at_call 50;(with_reducible refine (RFc.out _ _ _ _ _ _ _ (hl3.below (by exact bB1 hb4)) (hx3.below (by exact bB1 hb4)) (hq4.below (by exact bB0))).mono ?_);rintro e w7 hE7;obtain ⟨A7,c7,zs,rfl,hm7,hv7,hq7,hb7⟩:=hE7));go_simp;refine hK.out _ _ ?_ (fun hHeld => ?_);(focus ((try dsimp only);((refine ⟨?_, ?_, ?_⟩ <;> (first | exact bX3 hb3 hb4 hb7 | exact bX2 hb3 hb4 | exact bX1 hb3 | exact bX0)))));clear hK K;(try simp only [Act.put,pqs]);refine rgN 5 rfl ?_;refine rgN 6 rfl ?_;refine rgN 7 rfl ?_;refine rgN 8 rfl ?_;refine rgN 9 rfl ?_;refine wpAnyH_done kR ?_ _;(go_wp2_with fail;go_meet;refine ⟨A7,c7,zs,rfl,rfl,hm7, ?_, ?_⟩;(focus (exact ⟨hv7,hq7,fun x hx => HLN.out _ (by rw [← hm7];exact List.mem_map_of_mem hx)⟩));(focus (exact bB3 hb3 hb4 hb7))))
  case rest => as_aux_lemma =>
    obtain ⟨A8,c8,zs,rfl,rfl,hm8,hw8,hW⟩:=hcut
    have HM8:=Lib.hid hm8
    have hzl : zs.length = R.length:=by have h3:=congrArg List.length hm8;simpa using h3
    have hzl0 : zs.length ≤ 100:=by have h3:=HRL.out;omega
    have hzl1 : 0 < zs.length:=by rw [hzl];exact List.length_pos_of_mem HRS.out
    clear hm8 hzl RFc lP lQ lX
    have e1 : ((zs.length : Int) == 0) = false:=by rw [beq_eq_false_iff_ne];omega
    have e2 : decide ((110 : Int) < (zs.length : Int)) = false:=decide_eq_false (by omega)
    have CRc:=Lib.hid (fun W (h : Below wc.heap.size wc W) => copyReached_c zs A8 c8 W (by omega) (hw8.below h))
    have RKc:=Lib.hid (fun W (h : Below wc.heap.size wc W) (h' : Below w.heap.size w W) => RKd.out zs A8 c8 W HM8.out (hw8.below h) h')
    have CKc:=CKd
    have HZ:=Lib.hid hw8
    have HP:=hP.below hW hP.lt;have HQ:=hQ.below hW hQ.lt;have HX:=hX.below hW hX.lt;have hB' : Below w.heap.size w wc:=(by exact bB2 hW hB);clear hP hQ hX hB;have hP:=HP;have hQ:=HQ;have hX:=HX;have hB:=hB';clear HP HQ HX hB'
    clear hW hw8 RKd CKd
    generalize wc = W5 at *
    have lP:=hP.lt;have lQ:=hQ.lt;have lX:=hX.lt
    go_upto_region 8 with fail
    go_cut [9,10] (fun s9 s10 wx => s9 = .int .i64 0 ∧ s10 = .int .i64 0 ∧ Below W5.heap.size W5 wx)
    case first => as_aux_lemma =>
      (refine wp_region_held_drew (S:=(fun w' => Box w' w.heap.size 30 #[.int .i64 bx,.int .i64 bY,.int .i64 sl,.slice AL L.length cL,.int .i64 fx,.int .i64 fX,.int .i64 fy,.int .i64 fY,.slice AB B.length cB] ∧ Box w' (w.heap.size + 1) 33 #[.int .i64 ps,.slice AQ Q.length cQ] ∧ Box w' (w.heap.size + 1 + 1) 121 #[.int .i64 pt,.slice AT T.length cT,.int .i64 u0,.int .i64 u1,.int .i64 u2,.int .i64 u3])) kR ?_ (fun hHeld => ?_);(focus ((try dsimp only);((refine ⟨?_, ?_, ?_⟩ <;> (first | exact bX0 | exact bX1 hb3 | exact bX2 hb3 hb4 | exact bX3 hb3 hb4 hb6 | exact bX4 hb3 hb4 hb6 hb7)))));have hO:=Lib.hid (fun w' (hSw : (fun w' => Box w' w.heap.size 30 #[.int .i64 bx,.int .i64 bY,.int .i64 sl,.slice AL L.length cL,.int .i64 fx,.int .i64 fX,.int .i64 fy,.int .i64 fY,.slice AB B.length cB] ∧ Box w' (w.heap.size + 1) 33 #[.int .i64 ps,.slice AQ Q.length cQ] ∧ Box w' (w.heap.size + 1 + 1) 121 #[.int .i64 pt,.slice AT T.length cT,.int .i64 u0,.int .i64 u1,.int .i64 u2,.int .i64 u3]) w') => (by (try dsimp only at hSw);(obtain ⟨hSA,hSB,hSC⟩:=hSw;have c9:=ce9 hSA;have c2:=ce2 hSB;have c6:=ce6 hSC);exact And.intro c9 (And.intro c2 c6)));refine rgL 0 hO rfl ?_;refine rgL 2 hO rfl ?_;refine rgN 4 rfl ?_;refine rgC 1 rfl (fun K hK => ?_);go_simp;((go_at_call 17;(with_reducible refine (CSc.out _ (by exact bB1 hB)).mono ?_);rintro e w3 hE3;obtain ⟨DL,dL,DB,dB,rfl,hl3,hx3,hb3⟩:=hE3;have hz3 : W5.heap.size ≤ w3.heap.size:=(by have:=hb3.size;(try simp at this);omega)));go_simp;refine hK.out _ _ ?_ (fun hHeld => ?_);(focus ((try dsimp only);((refine ⟨?_, ?_, ?_⟩ <;> (first | exact bX4 hb3 hb4 hb6 hb7 | exact bX3 hb3 hb4 hb6 | exact bX2 hb3 hb4 | exact bX1 hb3 | exact bX0)))));clear hK K;(try simp only [Act.put,pqs]);refine rgC 3 rfl (fun K hK => ?_);go_simp;((go_at_call 18;(with_reducible refine (CQc.out _ (by exact bB2 hb3 hB)).mono ?_);rintro e w4 hE4;obtain ⟨DQ,dQ,rfl,hq4,hb4⟩:=hE4;have hz4 : w3.heap.size ≤ w4.heap.size:=(by have:=hb4.size;(try simp at this);omega)));go_simp;refine hK.out _ _ ?_ (fun hHeld => ?_);(focus ((try dsimp only);((refine ⟨?_, ?_, ?_⟩ <;> (first | exact bX4 hb3 hb4 hb6 hb7 | exact bX3 hb3 hb4 hb6 | exact bX2 hb3 hb4 | exact bX1 hb3 | exact bX0)))));clear hK K;(try simp only [Act.put,pqs]);refine rgC 5 rfl (fun K hK => ?_);go_simp;((go_at_call 52;(with_reducible refine (CRc.out _ (by exact bB2 hb3 hb4)).mono ?_);rintro e w6 hE6;obtain ⟨DX,dX,ys,rfl,hz6,hr6,hb6⟩:=hE6;have hy6 : w4.heap.size ≤ w6.heap.size:=(by have:=hb6.size;(try simp at this);omega)));go_simp;refine hK.out _ _ ?_ (fun hHeld => ?_);(focus ((try dsimp only);((refine ⟨?_, ?_, ?_⟩ <;> (first | exact bX4 hb3 hb4 hb6 hb7 | exact bX3 hb3 hb4 hb6 | exact bX2 hb3 hb4 | exact bX1 hb3 | exact bX0)))));clear hK K;(try simp only [Act.put,pqs]);refine rgC 6 rfl (fun K hK => ?_);go_simp;((go_at_call 51;(with_reducible refine (CKc.out _ _ _ _ _ _ _ _ ys _ (hz6.trans HM8.out) (hl3.below (by exact bB2 hb4 hb6)) (hx3.below (by exact bB2 hb4 hb6)) (hq4.below (by exact bB1 hb6)) (hr6.below (by exact bB0))).mono ?_);rintro e w7 ⟨rfl,hb7⟩));go_simp;refine hK.out _ _ ?_ (fun hHeld => ?_);(focus ((try dsimp only);((refine ⟨?_, ?_, ?_⟩ <;> (first | exact bX4 hb3 hb4 hb6 hb7 | exact bX3 hb3 hb4 hb6 | exact bX2 hb3 hb4 | exact bX1 hb3 | exact bX0)))));clear hK K;(try simp only [Act.put,pqs]);refine rgN 7 rfl ?_;refine rgN 8 rfl ?_;refine rgN 9 rfl ?_;refine rgN 10 rfl ?_;refine rgN 11 rfl ?_;refine wpAnyH_done kR ?_ _;(go_wp2_with fail;go_meet;refine ⟨rfl,rfl, ?_⟩;exact bB4 hb3 hb4 hb6 hb7))
    case rest => as_aux_lemma =>
      obtain ⟨rfl,rfl,hW⟩:=hcut
      have HZ2:=Lib.hid (HZ.out.below hW)
      have RKc2:=Lib.hid (fun W (h : Below wc.heap.size wc W) => RKc.out W (by exact bB2 h hW) (by exact bB3 h hW hB))
      clear HZ RKc CKc CRc lP lQ lX
      have HP:=hP.below hW hP.lt;have HQ:=hQ.below hW hQ.lt;have HX:=hX.below hW hX.lt;have hB' : Below w.heap.size w wc:=(by exact bB2 hW hB);clear hP hQ hX hB;have hP:=HP;have hQ:=HQ;have hX:=HX;have hB:=hB';clear HP HQ HX hB'
      clear hW
      have HZ:=HZ2
      have RKc:=RKc2
      clear HZ2 RKc2
      generalize wc = W5 at *
      (have c9:=ce9 hP;have c2:=ce2 hQ;have c6:=ce6 hX)
      go_upto_region 14 with (first | (go_at_call 53;(with_reducible refine (RKc.out _ (by exact bB0)).mono ?_);rintro e w3 ⟨rfl,hb3⟩) | fail)
      have HZ2:=Lib.hid (HZ.out.below hb3)
      clear HZ RKc c9 c2 c6
      have HP:=hP.below hb3 hP.lt;have HQ:=hQ.below hb3 hQ.lt;have HX:=hX.below hb3 hX.lt;have hB' : Below w.heap.size w w3:=(by exact bB2 hb3 hB);clear hP hQ hX hB;have hP:=HP;have hQ:=HQ;have hX:=HX;have hB:=hB';clear HP HQ HX hB'
      clear hb3
      have HZ:=HZ2
      clear HZ2
      generalize w3 = W5 at *
      have lP:=hP.lt;have lQ:=hQ.lt;have lX:=hX.lt
      go_cut [13,14] (fun s13 s14 wx => Pr13 W5 PR s13 s14 wx)
      case first => as_aux_lemma =>
        (refine wp_region_held_drew (S:=(fun w' => Box w' w.heap.size 30 #[.int .i64 bx,.int .i64 bY,.int .i64 sl,.slice AL L.length cL,.int .i64 fx,.int .i64 fX,.int .i64 fy,.int .i64 fY,.slice AB B.length cB] ∧ Box w' (w.heap.size + 1) 33 #[.int .i64 ps,.slice AQ Q.length cQ] ∧ Box w' (w.heap.size + 1 + 1) 121 #[.int .i64 pt,.slice AT T.length cT,.int .i64 u0,.int .i64 u1,.int .i64 u2,.int .i64 u3])) kR ?_ (fun hHeld => ?_);(focus ((try dsimp only);((refine ⟨?_, ?_, ?_⟩ <;> (first | exact bX0 | exact bX1 hb3 | exact bX2 hb3 hb4 | exact bX3 hb3 hb4 hb6 | exact bX4 hb3 hb4 hb6 hb7)))));have hO:=Lib.hid (fun w' (hSw : (fun w' => Box w' w.heap.size 30 #[.int .i64 bx,.int .i64 bY,.int .i64 sl,.slice AL L.length cL,.int .i64 fx,.int .i64 fX,.int .i64 fy,.int .i64 fY,.slice AB B.length cB] ∧ Box w' (w.heap.size + 1) 33 #[.int .i64 ps,.slice AQ Q.length cQ] ∧ Box w' (w.heap.size + 1 + 1) 121 #[.int .i64 pt,.slice AT T.length cT,.int .i64 u0,.int .i64 u1,.int .i64 u2,.int .i64 u3]) w') => (by (try dsimp only at hSw);(obtain ⟨hSA,hSB,hSC⟩:=hSw;have c9:=ce9 hSA;have c2:=ce2 hSB;have c6:=ce6 hSC);exact And.intro c9 (And.intro c2 c6)));refine rgL 0 hO rfl ?_;refine rgL 2 hO rfl ?_;refine rgN 4 rfl ?_;refine rgL 5 hO rfl ?_;refine rgC 1 rfl (fun K hK => ?_);go_simp;((go_at_call 17;(with_reducible refine (CSc.out _ (by exact bB1 hB)).mono ?_);rintro e w3 hE3;obtain ⟨DL,dL,DB,dB,rfl,hl3,hx3,hb3⟩:=hE3;have hz3 : W5.heap.size ≤ w3.heap.size:=(by have:=hb3.size;(try simp at this);omega)));go_simp;refine hK.out _ _ ?_ (fun hHeld => ?_);(focus ((try dsimp only);((refine ⟨?_, ?_, ?_⟩ <;> (first | exact bX4 hb3 hb4 hb6 hb7 | exact bX3 hb3 hb4 hb6 | exact bX2 hb3 hb4 | exact bX1 hb3 | exact bX0)))));clear hK K;(try simp only [Act.put,pqs]);refine rgC 3 rfl (fun K hK => ?_);go_simp;(first | (go_at_call 18;(with_reducible refine (CQc.out _ (by exact bB2 hb3 hB)).mono ?_);rintro e w4 hE4;obtain ⟨DQ,dQ,rfl,hq4,hb4⟩:=hE4;have hz4 : w3.heap.size ≤ w4.heap.size:=(by have:=hb4.size;(try simp at this);omega)) | (go_at_call 18;(with_reducible refine (CTc.out _ (by exact bB3 hb3 hb4 hB)).mono ?_);rintro e w6 hE6;obtain ⟨DT,dT,rfl,ht6,hb6⟩:=hE6;have hz6 : w4.heap.size ≤ w6.heap.size:=(by have:=hb6.size;(try simp at this);omega)));go_simp;refine hK.out _ _ ?_ (fun hHeld => ?_);(focus ((try dsimp only);((refine ⟨?_, ?_, ?_⟩ <;> (first | exact bX4 hb3 hb4 hb6 hb7 | exact bX3 hb3 hb4 hb6 | exact bX2 hb3 hb4 | exact bX1 hb3 | exact bX0)))));clear hK K;(try simp only [Act.put,pqs]);refine rgC 6 rfl (fun K hK => ?_);go_simp;(first | (go_at_call 18;(with_reducible refine (CQc.out _ (by exact bB2 hb3 hB)).mono ?_);rintro e w4 hE4;obtain ⟨DQ,dQ,rfl,hq4,hb4⟩:=hE4;have hz4 : w3.heap.size ≤ w4.heap.size:=(by have:=hb4.size;(try simp at this);omega)) | (go_at_call 18;(with_reducible refine (CTc.out _ (by exact bB3 hb3 hb4 hB)).mono ?_);rintro e w6 hE6;obtain ⟨DT,dT,rfl,ht6,hb6⟩:=hE6;have hz6 : w4.heap.size ≤ w6.heap.size:=(by have:=hb6.size;(try simp at this);omega)));go_simp;refine hK.out _ _ ?_ (fun hHeld => ?_);(focus ((try dsimp only);((refine ⟨?_, ?_, ?_⟩ <;> (first | exact bX4 hb3 hb4 hb6 hb7 | exact bX3 hb3 hb4 hb6 | exact bX2 hb3 hb4 | exact bX1 hb3 | exact bX0)))));clear hK K;(try simp only [Act.put,pqs]);refine rgC 7 rfl (fun K hK => ?_);go_simp;((go_at_call 34;(with_reducible refine (PTc.out _ _ _ _ _ _ _ _ _ (hl3.below (by exact bB2 hb4 hb6)) (hx3.below (by exact bB2 hb4 hb6)) (hq4.below (by exact bB1 hb6)) (ht6.below (by exact bB0))).mono ?_);rintro e w7 hE7;obtain ⟨A7,c7,rfl,ho7,hb7⟩:=hE7));go_simp;refine hK.out _ _ ?_ (fun hHeld => ?_);(focus ((try dsimp only);((refine ⟨?_, ?_, ?_⟩ <;> (first | exact bX4 hb3 hb4 hb6 hb7 | exact bX3 hb3 hb4 hb6 | exact bX2 hb3 hb4 | exact bX1 hb3 | exact bX0)))));clear hK K;(try simp only [Act.put,pqs]);refine rgN 8 rfl ?_;refine rgN 9 rfl ?_;refine rgN 10 rfl ?_;refine rgN 11 rfl ?_;refine rgN 12 rfl ?_;refine wpAnyH_done kR ?_ _;(go_wp2_with fail;go_meet;refine ⟨A7,c7,rfl,rfl, ?_, ?_⟩;(focus (exact slv_own (by decide) ho7));(focus (exact bB4 hb3 hb4 hb6 hb7))))
      case rest => as_aux_lemma =>
        obtain ⟨A9,c9,rfl,rfl,hv9,hW⟩:=hcut
        have HV:=Lib.hid hv9
        have HZ2:=Lib.hid (HZ.out.below hW)
        clear HZ hv9 lP lQ lX PTc CTc
        have HP:=hP.below hW hP.lt;have HQ:=hQ.below hW hQ.lt;have HX:=hX.below hW hX.lt;have hB' : Below w.heap.size w wc:=(by exact bB2 hW hB);clear hP hQ hX hB;have hP:=HP;have hQ:=HQ;have hX:=HX;have hB:=hB';clear HP HQ HX hB'
        clear hW
        have HZ:=HZ2
        clear HZ2
        generalize wc = W5 at *
        have HS4:=Lib.hid (hs4.below hB)
        go_wp2_with fail
        go_loopw [15,16] (fun m j wr => ∃ i : Nat,j = .int .i64 i ∧ i ≤ zs.length ∧ m = .int .i64 (((zs.map pmR).take i).foldl (lmF (pt,T)) (-1)) ∧ Below W5.heap.size W5 wr) (fun _ j _ => zs.length - (intOf j).toNat)
        case atStart => exact ⟨0,rfl,Nat.zero_le _,rfl,Below.refl _ _⟩
        case round => as_aux_lemma =>
          obtain ⟨i,rfl,hi,rfl,hb⟩:=hrel
          by_cases hlt : i < zs.length
          · obtain ⟨z,hz⟩ : ∃ z,zs[i]? = some z:=⟨_,List.getElem?_eq_getElem hlt⟩
            have hWr:=HZ.out.below hb
            obtain ⟨gR,oR,hA,lR,z0,z1,z2⟩:=rcCells hWr hz
            have hzq:=hWr.el z (List.mem_of_getElem? hz)
            have hzn:=hWr.ln z (List.mem_of_getElem? hz)
            have hst : ((zs.map pmR).take (i + 1)).foldl (lmF (pt,T)) (-1) = lmF (pt,T) (((zs.map pmR).take i).foldl (lmF (pt,T)) (-1)) (pmR z):=by
              rw [List.take_add_one,List.foldl_append]
              simp [hz]
            obtain ⟨⟨⟨x1,xQ⟩,⟨AX,cX⟩⟩,xm⟩:=z
            dsimp only at z0 z1 z2 hzq hzn
            have HST:=Lib.hid hst
            clear hst hWr hz
            generalize ((zs.map pmR).take i).foldl (lmF (pt,T)) (-1) = m0 at *
            obtain ⟨m1,hm1e⟩ : ∃ m1,m1 = ((zs.map pmR).take (i + 1)).foldl (lmF (pt,T)) (-1):=⟨_,rfl⟩
            have HE1:=Lib.hid hm1e
            rw [← hm1e] at HST
            clear hm1e
            subst hA
            have hXr:=hX.below hb hX.lt
            have lXr:=hXr.lt
            have SPc:=Lib.hid (fun W (h : Below wr.heap.size wr W) => samePose_c x1 pt xQ T AX AT cX cT W hzn (by omega) (hzq.below h) (HS4.out.below (by exact bB2 h hb)))
            clear hzq
            have i0 : 0 ≤ (i : Int):=by omega
            have i1 : (i : Int) < (zs.length : Int):=by omega
            by_cases hd : (x1,xQ) = (pt,T)
            · rw [decide_eq_true hd] at SPc
              have hm1 : m1 = xm:=by rw [HST.out];simp [lmF,pmR,hd]
              subst hm1
              clear HST hd
              go_wp2
              (refine region_open kR (fun R hR => ?_);refine heldR (S:=(fun w' => Box w' (w.heap.size + 1 + 1) 121 #[.int .i64 pt,.slice AT T.length cT,.int .i64 u0,.int .i64 u1,.int .i64 u2,.int .i64 u3] ∧ Below wr.heap.size wr w')) ?_ (fun hHeld => ?_);(focus ((try dsimp only);((refine ⟨?_, ?_⟩;((first | exact bX0 | exact bX1 hb3));((first | exact bB0 | exact bB1 hb3))))));have hO:=Lib.hid (fun w' (hSw : (fun w' => Box w' (w.heap.size + 1 + 1) 121 #[.int .i64 pt,.slice AT T.length cT,.int .i64 u0,.int .i64 u1,.int .i64 u2,.int .i64 u3] ∧ Below wr.heap.size wr w') w') => (by (try dsimp only at hSw);(obtain ⟨hSA,hSB⟩:=hSw;have c6:=ce6 hSA;have hcc:=(bcell hSB).1;have sa0:=(hcc _ _ lR).trans z0;have sa1:=(hcc _ _ lR).trans z1);exact And.intro c6 (And.intro sa0 sa1)));refine rgN 0 rfl ?_;refine rgN 1 rfl ?_;refine rgN 2 rfl ?_;refine rgN 3 rfl ?_;refine rgL 4 hO rfl ?_;refine rgN 5 rfl ?_;refine rgL 6 hO rfl ?_;refine rgC 7 rfl (fun K hK => ?_);go_simp;((go_at_call 21;(with_reducible refine (SPc.out _ (by exact bB0)).mono ?_);rintro e w3 ⟨rfl,hb3⟩));go_simp;refine hK.out _ _ ?_ (fun hHeld => ?_);(focus ((try dsimp only);((refine ⟨?_, ?_⟩;((first | exact bX1 hb3 | exact bX0));((first | exact bB1 hb3 | exact bB0))))));clear hK K;(try simp only [Act.put,pqs]);refine wpAnyH_done (Q:=fun e a w => e = Exit.normal ∧ R a w) kR ⟨rfl,hR _ _ ?_⟩ _;clear hR R)
              have hbw : Below wr.heap.size wr w3:=by exact bB1 hb3
              have z23:=((bcell hbw).1 _ _ lR).trans z2
              have lR3 : gR < w3.heap.size:=by have:=hbw.size;omega
              go_wp2
              go_roundw
              case rel => exact ⟨i + 1,by go_num,by omega,by rw [← HE1.out],by exact bB2 hbw hb⟩
              case measure => simp [intOf];omega
            · rw [decide_eq_false hd] at SPc
              have hm1 : m1 = m0:=by rw [HST.out];simp [lmF,pmR,hd]
              subst hm1
              clear HST hd
              go_wp2
              (refine region_open kR (fun R hR => ?_);refine heldR (S:=(fun w' => Box w' (w.heap.size + 1 + 1) 121 #[.int .i64 pt,.slice AT T.length cT,.int .i64 u0,.int .i64 u1,.int .i64 u2,.int .i64 u3] ∧ Below wr.heap.size wr w')) ?_ (fun hHeld => ?_);(focus ((try dsimp only);((refine ⟨?_, ?_⟩;((first | exact bX0 | exact bX1 hb3));((first | exact bB0 | exact bB1 hb3))))));have hO:=Lib.hid (fun w' (hSw : (fun w' => Box w' (w.heap.size + 1 + 1) 121 #[.int .i64 pt,.slice AT T.length cT,.int .i64 u0,.int .i64 u1,.int .i64 u2,.int .i64 u3] ∧ Below wr.heap.size wr w') w') => (by (try dsimp only at hSw);(obtain ⟨hSA,hSB⟩:=hSw;have c6:=ce6 hSA;have hcc:=(bcell hSB).1;have sa0:=(hcc _ _ lR).trans z0;have sa1:=(hcc _ _ lR).trans z1);exact And.intro c6 (And.intro sa0 sa1)));refine rgN 0 rfl ?_;refine rgN 1 rfl ?_;refine rgN 2 rfl ?_;refine rgN 3 rfl ?_;refine rgL 4 hO rfl ?_;refine rgN 5 rfl ?_;refine rgL 6 hO rfl ?_;refine rgC 7 rfl (fun K hK => ?_);go_simp;((go_at_call 21;(with_reducible refine (SPc.out _ (by exact bB0)).mono ?_);rintro e w3 ⟨rfl,hb3⟩));go_simp;refine hK.out _ _ ?_ (fun hHeld => ?_);(focus ((try dsimp only);((refine ⟨?_, ?_⟩;((first | exact bX1 hb3 | exact bX0));((first | exact bB1 hb3 | exact bB0))))));clear hK K;(try simp only [Act.put,pqs]);refine wpAnyH_done (Q:=fun e a w => e = Exit.normal ∧ R a w) kR ⟨rfl,hR _ _ ?_⟩ _;clear hR R)
              have hbw : Below wr.heap.size wr w3:=by exact bB1 hb3
              go_wp2
              go_roundw
              case rel => exact ⟨i + 1,by go_num,by omega,by rw [← HE1.out],by exact bB2 hbw hb⟩
              case measure => simp [intOf];omega
          · have e : i = zs.length:=by omega
            subst e
            have hMV : ((zs.map pmR).take zs.length).foldl (lmF (pt,T)) (-1) = R.foldl (lmF (pt,T)) (-1):=by rw [List.take_of_length_le (by simp),HM8.out]
            rw [hMV]
            clear hMV
            obtain ⟨MV,hmve⟩ : ∃ MV,MV = R.foldl (lmF (pt,T)) (-1):=⟨_,rfl⟩
            rw [← hmve]
            have HMV:=Lib.hid hmve
            clear hmve
            have HZ2:=Lib.hid (HZ.out.below hb)
            have HV2:=Lib.hid (HV.out.below hb)
            clear HZ HV HS4
            have HP:=hP.below hb hP.lt;have HQ:=hQ.below hb hQ.lt;have HX:=hX.below hb hX.lt;have hB' : Below w.heap.size w wr:=(by exact bB2 hb hB);clear hP hQ hX hB;have hP:=HP;have hQ:=HQ;have hX:=HX;have hB:=hB';clear HP HQ HX hB'
            clear hb
            have HZ:=HZ2
            have HV:=HV2
            clear HZ2 HV2
            generalize wr = W5 at *
            go_upto_if 139 with fail
            generalize hbc : decide (MV < 0) = bc
            have HBC:=Lib.hid hbc
            clear hbc
            go_cut [17,18,19] from 138 to 177 (fun _ _ _ wx => Below W5.heap.size W5 wx)
            case first => as_aux_lemma =>
              rcases HRP.out with ⟨r,hr,hm,hl⟩ | ⟨hno,hr⟩
              · subst hr
                have hmv : MV = (r.length : Int):=HMV.out.trans (lm_of (m:=-1) HND.out hm)
                have d0 : bc = false:=by rw [← HBC.out];exact decide_eq_false (by omega)
                subst d0
                have d3 : ((r.length : Int) != MV) = false:=by rw [hmv];simp
                have HC:=Lib.hid (fun h => HCK.out r h hl)
                have HVr:=Lib.hid (show SlV W5 A9 (r.flatMap mvV) from HV.out)
                clear hmv hm hl HV HRP HCK
                clear HMV
                by_cases h60 : r.length ≤ 60
                · have d2 : decide ((r.length : Int) ≤ 60) = true:=decide_eq_true (by omega)
                  have hchk:=HC.out h60
                  have CPc:=Lib.hid (fun DL DB DQ DP dL dB dQ dP W k1 k2 k3 k4 => show Calls Tryz.prog 16 #[.agg #[.int .i64 bx,.int .i64 bY,.int .i64 sl,.slice DL L.length dL,.int .i64 fx,.int .i64 fX,.int .i64 fy,.int .i64 fY,.slice DB B.length dB],.agg #[.int .i64 ps,.slice DQ Q.length dQ],.slice DP r.length dP] W (CpEnd ((pt,T),(r.length : Int),0) W) from by
                    have h5:=checkPath_c bx bY sl fx fX fy fY ps L B Q r DL DB DQ DP dL dB dQ dP W (by omega) (by omega) (by omega) (by omega) k1 k2 k3 k4
                    rw [hchk] at h5
                    exact h5)
                  have CPR:=Lib.hid (fun W (h : Below W5.heap.size W5 W) => copyPath_c r A9 c9 W (by omega) (HVr.out.below h))
                  have HT4:=Lib.hid (hs4.below hB)
                  clear HC hchk HVr
                  go_upto_region 27 with fail
                  have lP:=hP.lt;have lQ:=hQ.lt;have lX:=hX.lt
                  go_cut [17,18,19] from 153 to 163 (fun s17 s18 s19 wx => Pr17 W5 (pt,T) r.length s17 s18 s19 wx)
                  case first => as_aux_lemma =>
                    ((focus (refine wp_region_held_drew (S:=(fun w' => Box w' w.heap.size 30 #[.int .i64 bx,.int .i64 bY,.int .i64 sl,.slice AL L.length cL,.int .i64 fx,.int .i64 fX,.int .i64 fy,.int .i64 fY,.slice AB B.length cB] ∧ Box w' (w.heap.size + 1) 33 #[.int .i64 ps,.slice AQ Q.length cQ] ∧ Box w' (w.heap.size + 1 + 1) 121 #[.int .i64 pt,.slice AT T.length cT,.int .i64 u0,.int .i64 u1,.int .i64 u2,.int .i64 u3])) kR ?_ (fun hHeld => ?_);(focus ((try dsimp only);((refine ⟨?_, ?_, ?_⟩ <;> (first | exact bX0 | exact bX1 hb3 | exact bX2 hb3 hb4 | exact bX3 hb3 hb4 hb6 | exact bX4 hb3 hb4 hb6 hb7)))));have hO:=Lib.hid (fun w' (hSw : (fun w' => Box w' w.heap.size 30 #[.int .i64 bx,.int .i64 bY,.int .i64 sl,.slice AL L.length cL,.int .i64 fx,.int .i64 fX,.int .i64 fy,.int .i64 fY,.slice AB B.length cB] ∧ Box w' (w.heap.size + 1) 33 #[.int .i64 ps,.slice AQ Q.length cQ] ∧ Box w' (w.heap.size + 1 + 1) 121 #[.int .i64 pt,.slice AT T.length cT,.int .i64 u0,.int .i64 u1,.int .i64 u2,.int .i64 u3]) w') => (by (try dsimp only at hSw);(obtain ⟨hSA,hSB,hSC⟩:=hSw;have c9:=ce9 hSA;have c2:=ce2 hSB;have c6:=ce6 hSC);exact And.intro c9 (And.intro c2 c6)));refine rgL 0 hO rfl ?_;refine rgL 2 hO rfl ?_;refine rgN 4 rfl ?_;refine wpAnyH_ready (rs:=[1,11]) kR (by simp) ?_;(focus (refine AllReadyH.cons rfl (fun K hK => ?_) ?_;rotate_left;refine AllReadyH.cons rfl (fun K hK => ?_) ?_;rotate_left;exact AllReadyH.nil));(focus (go_simp;((go_at_call 17;(with_reducible refine (CSc.out _ (by exact bB1 hB)).mono ?_);rintro e w3 hE3;obtain ⟨DL,dL,DB,dB,rfl,hl3,hx3,hb3⟩:=hE3;have hz3 : W5.heap.size ≤ w3.heap.size:=(by have:=hb3.size;(try simp at this);omega)));go_simp;refine hK.out _ _ ?_ (fun hHeld => ?_);(focus ((try dsimp only);((refine ⟨?_, ?_, ?_⟩ <;> (first | exact bX4 hb3 hb4 hb6 hb7 | exact bX3 hb3 hb4 hb6 | exact bX2 hb3 hb4 | exact bX1 hb3 | exact bX0)))));clear hK K;(try simp only [Act.put,pqs]);refine wpAnyH_ready (rs:=[3,11]) kR (by simp) ?_;(focus (refine AllReadyH.cons rfl (fun K hK => ?_) ?_;rotate_left;refine AllReadyH.cons rfl (fun K hK => ?_) ?_;rotate_left;exact AllReadyH.nil));(focus (go_simp;((go_at_call 18;(with_reducible refine (CQc.out _ (by exact bB2 hb3 hB)).mono ?_);rintro e w4 hE4;obtain ⟨DQ,dQ,rfl,hq4,hb4⟩:=hE4;have hz4 : w3.heap.size ≤ w4.heap.size:=(by have:=hb4.size;(try simp at this);omega)));go_simp;refine hK.out _ _ ?_ (fun hHeld => ?_);(focus ((try dsimp only);((refine ⟨?_, ?_, ?_⟩ <;> (first | exact bX4 hb3 hb4 hb6 hb7 | exact bX3 hb3 hb4 hb6 | exact bX2 hb3 hb4 | exact bX1 hb3 | exact bX0)))));clear hK K;(try simp only [Act.put,pqs]);refine wpAnyH_ready (rs:=[5,11]) kR (by simp) ?_;(focus (refine AllReadyH.cons rfl (fun K hK => ?_) ?_;rotate_left;refine AllReadyH.cons rfl (fun K hK => ?_) ?_;rotate_left;exact AllReadyH.nil));(focus (go_simp;((go_at_call 19;(with_reducible refine (CPR.out _ (by exact bB2 hb3 hb4)).mono ?_);rintro e w6 hE6;obtain ⟨DP,dP,rfl,hp6,hb6⟩:=hE6;have hz6 : w4.heap.size ≤ w6.heap.size:=(by have:=hb6.size;(try simp at this);omega)));go_simp;refine hK.out _ _ ?_ (fun hHeld => ?_);(focus ((try dsimp only);((refine ⟨?_, ?_, ?_⟩ <;> (first | exact bX4 hb3 hb4 hb6 hb7 | exact bX3 hb3 hb4 hb6 | exact bX2 hb3 hb4 | exact bX1 hb3 | exact bX0)))));clear hK K;(try simp only [Act.put,pqs]);refine wpAnyH_ready (rs:=[6,11]) kR (by simp) ?_;(focus (refine AllReadyH.cons rfl (fun K hK => ?_) ?_;rotate_left;refine AllReadyH.cons rfl (fun K hK => ?_) ?_;rotate_left;exact AllReadyH.nil));(focus (go_simp;((go_at_call 16;(with_reducible refine (CPc.out _ _ _ _ _ _ _ _ _ (hl3.below (by exact bB2 hb4 hb6)) (hx3.below (by exact bB2 hb4 hb6)) (hq4.below (by exact bB1 hb6)) (hp6.below (by exact bB0))).mono ?_);rintro e w7 hE7;obtain ⟨A7,c7,rfl,hv7,hn7,hb7⟩:=hE7;have hz7 : w6.heap.size ≤ w7.heap.size:=(by have:=hb7.size;(try simp at this);omega);(first | (refine (fun (V7 : Box w7 W5.heap.size 33 #[.int .i64 0,.slice none 0 0]) => ?_) ?_;rotate_left;(focus (exact bX4 hb3 hb4 hb6 hb7));(have v0:=V7.cell 0;have v1:=V7.cell 1;have vf:=V7.froz;have vl:=V7.lt;(simp at v0 v1))) | (refine (fun (V7 : Box w7 w3.heap.size 33 #[.int .i64 0,.slice none 0 0]) => ?_) ?_;rotate_left;(focus (exact bX3 hb4 hb6 hb7));(have v0:=V7.cell 0;have v1:=V7.cell 1;have vf:=V7.froz;have vl:=V7.lt;(simp at v0 v1))) | (refine (fun (V7 : Box w7 w4.heap.size 33 #[.int .i64 0,.slice none 0 0]) => ?_) ?_;rotate_left;(focus (exact bX2 hb6 hb7));(have v0:=V7.cell 0;have v1:=V7.cell 1;have vf:=V7.froz;have vl:=V7.lt;(simp at v0 v1))) | (refine (fun (V7 : Box w7 w6.heap.size 33 #[.int .i64 0,.slice none 0 0]) => ?_) ?_;rotate_left;(focus (exact bX1 hb7));(have v0:=V7.cell 0;have v1:=V7.cell 1;have vf:=V7.froz;have vl:=V7.lt;(simp at v0 v1))) | skip)));go_simp;refine hK.out _ _ ?_ (fun hHeld => ?_);(focus ((try dsimp only);((refine ⟨?_, ?_, ?_⟩ <;> (first | exact bX4 hb3 hb4 hb6 hb7 | exact bX3 hb3 hb4 hb6 | exact bX2 hb3 hb4 | exact bX1 hb3 | exact bX0)))));clear hK K;(try simp only [Act.put,pqs]);refine rgN 7 rfl ?_;refine rgN 8 rfl ?_;refine rgN 9 rfl ?_;refine rgN 10 rfl ?_;refine rgC 11 rfl (fun K hK => ?_);go_simp;refine hK.out _ _ ?_ (fun hHeld => ?_);(focus ((try dsimp only);((refine ⟨?_, ?_, ?_⟩ <;> (first | exact bX4 hb3 hb4 hb6 hb7 | exact bX3 hb3 hb4 hb6 | exact bX2 hb3 hb4 | exact bX1 hb3 | exact bX0)))));clear hK K;(try simp only [Act.put,pqs])));rotate_left;(focus (go_simp;refine hK.out _ _ ?_ (fun hHeld => ?_);(focus ((try dsimp only);((refine ⟨?_, ?_, ?_⟩ <;> (first | exact bX4 hb3 hb4 hb6 hb7 | exact bX3 hb3 hb4 hb6 | exact bX2 hb3 hb4 | exact bX1 hb3 | exact bX0)))));clear hK K;(try simp only [Act.put,pqs]);refine rgC 6 rfl (fun K hK => ?_);go_simp;((go_at_call 16;(with_reducible refine (CPc.out _ _ _ _ _ _ _ _ _ (hl3.below (by exact bB2 hb4 hb6)) (hx3.below (by exact bB2 hb4 hb6)) (hq4.below (by exact bB1 hb6)) (hp6.below (by exact bB0))).mono ?_);rintro e w7 hE7;obtain ⟨A7,c7,rfl,hv7,hn7,hb7⟩:=hE7;have hz7 : w6.heap.size ≤ w7.heap.size:=(by have:=hb7.size;(try simp at this);omega);(first | (refine (fun (V7 : Box w7 W5.heap.size 33 #[.int .i64 0,.slice none 0 0]) => ?_) ?_;rotate_left;(focus (exact bX4 hb3 hb4 hb6 hb7));(have v0:=V7.cell 0;have v1:=V7.cell 1;have vf:=V7.froz;have vl:=V7.lt;(simp at v0 v1))) | (refine (fun (V7 : Box w7 w3.heap.size 33 #[.int .i64 0,.slice none 0 0]) => ?_) ?_;rotate_left;(focus (exact bX3 hb4 hb6 hb7));(have v0:=V7.cell 0;have v1:=V7.cell 1;have vf:=V7.froz;have vl:=V7.lt;(simp at v0 v1))) | (refine (fun (V7 : Box w7 w4.heap.size 33 #[.int .i64 0,.slice none 0 0]) => ?_) ?_;rotate_left;(focus (exact bX2 hb6 hb7));(have v0:=V7.cell 0;have v1:=V7.cell 1;have vf:=V7.froz;have vl:=V7.lt;(simp at v0 v1))) | (refine (fun (V7 : Box w7 w6.heap.size 33 #[.int .i64 0,.slice none 0 0]) => ?_) ?_;rotate_left;(focus (exact bX1 hb7));(have v0:=V7.cell 0;have v1:=V7.cell 1;have vf:=V7.froz;have vl:=V7.lt;(simp at v0 v1))) | skip)));go_simp;refine hK.out _ _ ?_ (fun hHeld => ?_);(focus ((try dsimp only);((refine ⟨?_, ?_, ?_⟩ <;> (first | exact bX4 hb3 hb4 hb6 hb7 | exact bX3 hb3 hb4 hb6 | exact bX2 hb3 hb4 | exact bX1 hb3 | exact bX0)))));clear hK K;(try simp only [Act.put,pqs]);refine rgN 7 rfl ?_;refine rgN 8 rfl ?_;refine rgN 9 rfl ?_;refine rgN 10 rfl ?_));rotate_left));rotate_left 2;(focus (go_simp;refine hK.out _ _ ?_ (fun hHeld => ?_);(focus ((try dsimp only);((refine ⟨?_, ?_, ?_⟩ <;> (first | exact bX4 hb3 hb4 hb6 hb7 | exact bX3 hb3 hb4 hb6 | exact bX2 hb3 hb4 | exact bX1 hb3 | exact bX0)))));clear hK K;(try simp only [Act.put,pqs]);refine rgC 5 rfl (fun K hK => ?_);go_simp;((go_at_call 19;(with_reducible refine (CPR.out _ (by exact bB2 hb3 hb4)).mono ?_);rintro e w6 hE6;obtain ⟨DP,dP,rfl,hp6,hb6⟩:=hE6;have hz6 : w4.heap.size ≤ w6.heap.size:=(by have:=hb6.size;(try simp at this);omega)));go_simp;refine hK.out _ _ ?_ (fun hHeld => ?_);(focus ((try dsimp only);((refine ⟨?_, ?_, ?_⟩ <;> (first | exact bX4 hb3 hb4 hb6 hb7 | exact bX3 hb3 hb4 hb6 | exact bX2 hb3 hb4 | exact bX1 hb3 | exact bX0)))));clear hK K;(try simp only [Act.put,pqs]);refine rgC 6 rfl (fun K hK => ?_);go_simp;((go_at_call 16;(with_reducible refine (CPc.out _ _ _ _ _ _ _ _ _ (hl3.below (by exact bB2 hb4 hb6)) (hx3.below (by exact bB2 hb4 hb6)) (hq4.below (by exact bB1 hb6)) (hp6.below (by exact bB0))).mono ?_);rintro e w7 hE7;obtain ⟨A7,c7,rfl,hv7,hn7,hb7⟩:=hE7;have hz7 : w6.heap.size ≤ w7.heap.size:=(by have:=hb7.size;(try simp at this);omega);(first | (refine (fun (V7 : Box w7 W5.heap.size 33 #[.int .i64 0,.slice none 0 0]) => ?_) ?_;rotate_left;(focus (exact bX4 hb3 hb4 hb6 hb7));(have v0:=V7.cell 0;have v1:=V7.cell 1;have vf:=V7.froz;have vl:=V7.lt;(simp at v0 v1))) | (refine (fun (V7 : Box w7 w3.heap.size 33 #[.int .i64 0,.slice none 0 0]) => ?_) ?_;rotate_left;(focus (exact bX3 hb4 hb6 hb7));(have v0:=V7.cell 0;have v1:=V7.cell 1;have vf:=V7.froz;have vl:=V7.lt;(simp at v0 v1))) | (refine (fun (V7 : Box w7 w4.heap.size 33 #[.int .i64 0,.slice none 0 0]) => ?_) ?_;rotate_left;(focus (exact bX2 hb6 hb7));(have v0:=V7.cell 0;have v1:=V7.cell 1;have vf:=V7.froz;have vl:=V7.lt;(simp at v0 v1))) | (refine (fun (V7 : Box w7 w6.heap.size 33 #[.int .i64 0,.slice none 0 0]) => ?_) ?_;rotate_left;(focus (exact bX1 hb7));(have v0:=V7.cell 0;have v1:=V7.cell 1;have vf:=V7.froz;have vl:=V7.lt;(simp at v0 v1))) | skip)));go_simp;refine hK.out _ _ ?_ (fun hHeld => ?_);(focus ((try dsimp only);((refine ⟨?_, ?_, ?_⟩ <;> (first | exact bX4 hb3 hb4 hb6 hb7 | exact bX3 hb3 hb4 hb6 | exact bX2 hb3 hb4 | exact bX1 hb3 | exact bX0)))));clear hK K;(try simp only [Act.put,pqs]);refine rgN 7 rfl ?_;refine rgN 8 rfl ?_;refine rgN 9 rfl ?_;refine rgN 10 rfl ?_));rotate_left));rotate_left 3;(focus (go_simp;refine hK.out _ _ ?_ (fun hHeld => ?_);(focus ((try dsimp only);((refine ⟨?_, ?_, ?_⟩ <;> (first | exact bX4 hb3 hb4 hb6 hb7 | exact bX3 hb3 hb4 hb6 | exact bX2 hb3 hb4 | exact bX1 hb3 | exact bX0)))));clear hK K;(try simp only [Act.put,pqs]);refine rgC 3 rfl (fun K hK => ?_);go_simp;((go_at_call 18;(with_reducible refine (CQc.out _ (by exact bB2 hb3 hB)).mono ?_);rintro e w4 hE4;obtain ⟨DQ,dQ,rfl,hq4,hb4⟩:=hE4;have hz4 : w3.heap.size ≤ w4.heap.size:=(by have:=hb4.size;(try simp at this);omega)));go_simp;refine hK.out _ _ ?_ (fun hHeld => ?_);(focus ((try dsimp only);((refine ⟨?_, ?_, ?_⟩ <;> (first | exact bX4 hb3 hb4 hb6 hb7 | exact bX3 hb3 hb4 hb6 | exact bX2 hb3 hb4 | exact bX1 hb3 | exact bX0)))));clear hK K;(try simp only [Act.put,pqs]);refine rgC 5 rfl (fun K hK => ?_);go_simp;((go_at_call 19;(with_reducible refine (CPR.out _ (by exact bB2 hb3 hb4)).mono ?_);rintro e w6 hE6;obtain ⟨DP,dP,rfl,hp6,hb6⟩:=hE6;have hz6 : w4.heap.size ≤ w6.heap.size:=(by have:=hb6.size;(try simp at this);omega)));go_simp;refine hK.out _ _ ?_ (fun hHeld => ?_);(focus ((try dsimp only);((refine ⟨?_, ?_, ?_⟩ <;> (first | exact bX4 hb3 hb4 hb6 hb7 | exact bX3 hb3 hb4 hb6 | exact bX2 hb3 hb4 | exact bX1 hb3 | exact bX0)))));clear hK K;(try simp only [Act.put,pqs]);refine rgC 6 rfl (fun K hK => ?_);go_simp;((go_at_call 16;(with_reducible refine (CPc.out _ _ _ _ _ _ _ _ _ (hl3.below (by exact bB2 hb4 hb6)) (hx3.below (by exact bB2 hb4 hb6)) (hq4.below (by exact bB1 hb6)) (hp6.below (by exact bB0))).mono ?_);rintro e w7 hE7;obtain ⟨A7,c7,rfl,hv7,hn7,hb7⟩:=hE7;have hz7 : w6.heap.size ≤ w7.heap.size:=(by have:=hb7.size;(try simp at this);omega);(first | (refine (fun (V7 : Box w7 W5.heap.size 33 #[.int .i64 0,.slice none 0 0]) => ?_) ?_;rotate_left;(focus (exact bX4 hb3 hb4 hb6 hb7));(have v0:=V7.cell 0;have v1:=V7.cell 1;have vf:=V7.froz;have vl:=V7.lt;(simp at v0 v1))) | (refine (fun (V7 : Box w7 w3.heap.size 33 #[.int .i64 0,.slice none 0 0]) => ?_) ?_;rotate_left;(focus (exact bX3 hb4 hb6 hb7));(have v0:=V7.cell 0;have v1:=V7.cell 1;have vf:=V7.froz;have vl:=V7.lt;(simp at v0 v1))) | (refine (fun (V7 : Box w7 w4.heap.size 33 #[.int .i64 0,.slice none 0 0]) => ?_) ?_;rotate_left;(focus (exact bX2 hb6 hb7));(have v0:=V7.cell 0;have v1:=V7.cell 1;have vf:=V7.froz;have vl:=V7.lt;(simp at v0 v1))) | (refine (fun (V7 : Box w7 w6.heap.size 33 #[.int .i64 0,.slice none 0 0]) => ?_) ?_;rotate_left;(focus (exact bX1 hb7));(have v0:=V7.cell 0;have v1:=V7.cell 1;have vf:=V7.froz;have vl:=V7.lt;(simp at v0 v1))) | skip)));go_simp;refine hK.out _ _ ?_ (fun hHeld => ?_);(focus ((try dsimp only);((refine ⟨?_, ?_, ?_⟩ <;> (first | exact bX4 hb3 hb4 hb6 hb7 | exact bX3 hb3 hb4 hb6 | exact bX2 hb3 hb4 | exact bX1 hb3 | exact bX0)))));clear hK K;(try simp only [Act.put,pqs]);refine rgN 7 rfl ?_;refine rgN 8 rfl ?_;refine rgN 9 rfl ?_;refine rgN 10 rfl ?_));rotate_left));rotate_left 4;(focus (go_simp;refine hK.out _ _ ?_ (fun hHeld => ?_);(focus ((try dsimp only);((refine ⟨?_, ?_, ?_⟩ <;> (first | exact bX4 hb3 hb4 hb6 hb7 | exact bX3 hb3 hb4 hb6 | exact bX2 hb3 hb4 | exact bX1 hb3 | exact bX0)))));clear hK K;(try simp only [Act.put,pqs]);refine rgC 1 rfl (fun K hK => ?_);go_simp;((go_at_call 17;(with_reducible refine (CSc.out _ (by exact bB1 hB)).mono ?_);rintro e w3 hE3;obtain ⟨DL,dL,DB,dB,rfl,hl3,hx3,hb3⟩:=hE3;have hz3 : W5.heap.size ≤ w3.heap.size:=(by have:=hb3.size;(try simp at this);omega)));go_simp;refine hK.out _ _ ?_ (fun hHeld => ?_);(focus ((try dsimp only);((refine ⟨?_, ?_, ?_⟩ <;> (first | exact bX4 hb3 hb4 hb6 hb7 | exact bX3 hb3 hb4 hb6 | exact bX2 hb3 hb4 | exact bX1 hb3 | exact bX0)))));clear hK K;(try simp only [Act.put,pqs]);refine rgC 3 rfl (fun K hK => ?_);go_simp;((go_at_call 18;(with_reducible refine (CQc.out _ (by exact bB2 hb3 hB)).mono ?_);rintro e w4 hE4;obtain ⟨DQ,dQ,rfl,hq4,hb4⟩:=hE4;have hz4 : w3.heap.size ≤ w4.heap.size:=(by have:=hb4.size;(try simp at this);omega)));go_simp;refine hK.out _ _ ?_ (fun hHeld => ?_);(focus ((try dsimp only);((refine ⟨?_, ?_, ?_⟩ <;> (first | exact bX4 hb3 hb4 hb6 hb7 | exact bX3 hb3 hb4 hb6 | exact bX2 hb3 hb4 | exact bX1 hb3 | exact bX0)))));clear hK K;(try simp only [Act.put,pqs]);refine rgC 5 rfl (fun K hK => ?_);go_simp;((go_at_call 19;(with_reducible refine (CPR.out _ (by exact bB2 hb3 hb4)).mono ?_);rintro e w6 hE6;obtain ⟨DP,dP,rfl,hp6,hb6⟩:=hE6;have hz6 : w4.heap.size ≤ w6.heap.size:=(by have:=hb6.size;(try simp at this);omega)));go_simp;refine hK.out _ _ ?_ (fun hHeld => ?_);(focus ((try dsimp only);((refine ⟨?_, ?_, ?_⟩ <;> (first | exact bX4 hb3 hb4 hb6 hb7 | exact bX3 hb3 hb4 hb6 | exact bX2 hb3 hb4 | exact bX1 hb3 | exact bX0)))));clear hK K;(try simp only [Act.put,pqs]);refine rgC 6 rfl (fun K hK => ?_);go_simp;((go_at_call 16;(with_reducible refine (CPc.out _ _ _ _ _ _ _ _ _ (hl3.below (by exact bB2 hb4 hb6)) (hx3.below (by exact bB2 hb4 hb6)) (hq4.below (by exact bB1 hb6)) (hp6.below (by exact bB0))).mono ?_);rintro e w7 hE7;obtain ⟨A7,c7,rfl,hv7,hn7,hb7⟩:=hE7;have hz7 : w6.heap.size ≤ w7.heap.size:=(by have:=hb7.size;(try simp at this);omega);(first | (refine (fun (V7 : Box w7 W5.heap.size 33 #[.int .i64 0,.slice none 0 0]) => ?_) ?_;rotate_left;(focus (exact bX4 hb3 hb4 hb6 hb7));(have v0:=V7.cell 0;have v1:=V7.cell 1;have vf:=V7.froz;have vl:=V7.lt;(simp at v0 v1))) | (refine (fun (V7 : Box w7 w3.heap.size 33 #[.int .i64 0,.slice none 0 0]) => ?_) ?_;rotate_left;(focus (exact bX3 hb4 hb6 hb7));(have v0:=V7.cell 0;have v1:=V7.cell 1;have vf:=V7.froz;have vl:=V7.lt;(simp at v0 v1))) | (refine (fun (V7 : Box w7 w4.heap.size 33 #[.int .i64 0,.slice none 0 0]) => ?_) ?_;rotate_left;(focus (exact bX2 hb6 hb7));(have v0:=V7.cell 0;have v1:=V7.cell 1;have vf:=V7.froz;have vl:=V7.lt;(simp at v0 v1))) | (refine (fun (V7 : Box w7 w6.heap.size 33 #[.int .i64 0,.slice none 0 0]) => ?_) ?_;rotate_left;(focus (exact bX1 hb7));(have v0:=V7.cell 0;have v1:=V7.cell 1;have vf:=V7.froz;have vl:=V7.lt;(simp at v0 v1))) | skip)));go_simp;refine hK.out _ _ ?_ (fun hHeld => ?_);(focus ((try dsimp only);((refine ⟨?_, ?_, ?_⟩ <;> (first | exact bX4 hb3 hb4 hb6 hb7 | exact bX3 hb3 hb4 hb6 | exact bX2 hb3 hb4 | exact bX1 hb3 | exact bX0)))));clear hK K;(try simp only [Act.put,pqs]);refine rgN 7 rfl ?_;refine rgN 8 rfl ?_;refine rgN 9 rfl ?_;refine rgN 10 rfl ?_));rotate_left;all_goals (refine rgC 12 rfl (fun K hK => ?_);go_simp;refine hK.out _ _ ?_ (fun hHeld => ?_);(focus ((try dsimp only);((refine ⟨?_, ?_, ?_⟩ <;> (first | exact bX4 hb3 hb4 hb6 hb7 | exact bX3 hb3 hb4 hb6 | exact bX2 hb3 hb4 | exact bX1 hb3 | exact bX0)))));clear hK K;(try simp only [Act.put,pqs]);refine rgN 13 rfl ?_;refine rgN 14 rfl ?_;refine wpAnyH_done kR ?_ _;(go_wp2_with fail;go_meet;refine ⟨_,A7,c7,rfl,rfl,rfl, ?_, ?_, ?_, ?_⟩;(focus (first | omega | (simp;omega) | (have s1:=hb3.size;have s2:=hb4.size;have s3:=hb6.size;(try simp at s1);(try simp at s2);(try simp at s3);(try simp);omega)));(focus (exact bX4 hb3 hb4 hb6 hb7));(focus ((repeat (refine SlI.setf ?_ (fun hl b o e => by have s1:=hb3.size;have s2:=hb4.size;have s3:=hb6.size;(try simp at s1);(try simp at s2);(try simp at s3);first | (have h1:=hn7 hl b o e;(try simp at h1);(try simp);omega) | (obtain ⟨b',o',e',hlt,_⟩:=hv7 0 _ (List.getElem?_eq_getElem hl);rw [e'] at e;cases e;(try simp);omega))));exact hv7.below (by exact bB0)));(focus (exact bB4 hb3 hb4 hb6 hb7)))))))
                  case rest => as_aux_lemma =>
                    obtain ⟨g7,D7,d7,rfl,rfl,rfl,hg7,hG,hD,hW⟩:=hcut
                    dsimp only at hG hD
                    have hX2:=hX.below hW lX
                    have e6:=ce6 hX2
                    have e2:=ce2 hG
                    have SQc:=Lib.hid (fun W (h : Below wc.heap.size wc W) => show Calls Tryz.prog 21 #[.agg #[.int .i64 pt,.slice D7 T.length d7],.agg #[.int .i64 pt,.slice AT T.length cT]] W (fun e w' => e = .returned (.bool true) ∧ Below W.heap.size W w') from by
                      have h5:=samePose_c pt pt T T D7 AT d7 cT W (by omega) (by omega) (hD.below h) (HT4.out.below (by exact bB2 h hW))
                      rw [decide_eq_true rfl] at h5
                      exact h5)
                    clear CPc CPR HT4 hD
                    go_wp2_with (first | (go_at_call 21;(with_reducible refine (SQc.out _ (by exact bB0)).mono ?_);rintro e w3 ⟨rfl,hb3⟩) | fail)
                    go_meet
                    show Below W5.heap.size W5 _
                    exact bB2 hb3 hW
                · have d2 : decide ((r.length : Int) ≤ 60) = false:=decide_eq_false (by omega)
                  clear HC h60
                  go_wp2_with fail
                  go_meet
                  exact Below.refl _ _
              · subst hr
                have hmv : MV = -1:=HMV.out.trans (lm_none (m:=-1) hno)
                have d0 : bc = true:=by rw [← HBC.out];exact decide_eq_true (by omega)
                subst d0
                clear hmv hno HMV
                go_wp2_with fail
                go_meet
                exact Below.refl _ _
            case rest => as_aux_lemma =>
              have HZ2:=Lib.hid (HZ.out.below hcut)
              clear HZ HV HRP HCK HMV
              have HP:=hP.below hcut hP.lt;have HQ:=hQ.below hcut hQ.lt;have HX:=hX.below hcut hX.lt;have hB' : Below w.heap.size w wc:=(by exact bB2 hcut hB);clear hP hQ hX hB;have hP:=HP;have hQ:=HQ;have hX:=HX;have hB:=hB';clear HP HQ HX hB'
              clear hcut
              have HZ:=HZ2
              clear HZ2
              generalize wc = W5 at *
              (have c9:=ce9 hP;have c2:=ce2 hQ;have c6:=ce6 hX)
              by_cases h6 : 6 ≤ B.length
              · have d1 : decide ((6 : Int) ≤ (B.length : Int)) = true:=decide_eq_true (by omega)
                go_wp2_with fail
                go_ret
                exact ⟨rfl,hB⟩
              · have d1 : decide ((6 : Int) ≤ (B.length : Int)) = false:=decide_eq_false (by omega)
                have CSOc:=Lib.hid (fun W (h : Below w.heap.size w W) => copySceneO_c bx bY sl fx fX fy fY L B AL AB cL cB W (by omega) (by omega) (hs1.below h) (hs2.below h))
                go_upto_region 33 with (first | (go_at_call 17;(with_reducible refine (CSOc.out _ (by exact bB1 hB)).mono ?_);rintro e w3 hE3;obtain ⟨DL,dL,DB,dB,rfl,hl3,hx3,hb3⟩:=hE3;have hz3 : W5.heap.size ≤ w3.heap.size:=(by have:=hb3.size;(try simp at this);omega)) | fail)
                have hN : Box (w3.alloc (.cells #[.int .i64 bx,.int .i64 bY,.int .i64 sl,.slice DL L.length dL,.int .i64 fx,.int .i64 fX,.int .i64 fy,.int .i64 fY,.slice DB B.length dB] 30)) w3.heap.size 30 #[.int .i64 bx,.int .i64 bY,.int .i64 sl,.slice DL L.length dL,.int .i64 fx,.int .i64 fX,.int .i64 fy,.int .i64 fY,.slice DB B.length dB]:=Box.new _ _ _
                have hoL:=hl3.alloc (.cells #[.int .i64 bx,.int .i64 bY,.int .i64 sl,.slice DL L.length dL,.int .i64 fx,.int .i64 fX,.int .i64 fy,.int .i64 fY,.slice DB B.length dB] 30)
                have hoB:=hx3.alloc (.cells #[.int .i64 bx,.int .i64 bY,.int .i64 sl,.slice DL L.length dL,.int .i64 fx,.int .i64 fX,.int .i64 fy,.int .i64 fY,.slice DB B.length dB] 30)
                have hb6 : Below W5.heap.size W5 (w3.alloc (.cells #[.int .i64 bx,.int .i64 bY,.int .i64 sl,.slice DL L.length dL,.int .i64 fx,.int .i64 fX,.int .i64 fy,.int .i64 fY,.slice DB B.length dB] 30)):=by exact bB1 hb3
                have hX6:=hX.below hb6 hX.lt
                have hgN : W5.heap.size ≤ w3.heap.size:=hz3
                clear hl3 hx3 hb3 hz3 c9 c2 c6 CSOc
                generalize (w3.alloc (.cells #[.int .i64 bx,.int .i64 bY,.int .i64 sl,.slice DL L.length dL,.int .i64 fx,.int .i64 fX,.int .i64 fy,.int .i64 fY,.slice DB B.length dB] 30)) = W6 at *
                generalize w3.heap.size = gN at *
                have lN:=hN.lt;have lX6:=hX6.lt
                have n9:=ce9 hN
                have x6:=ce6 hX6
                obtain ⟨j0,y0,hj0,hy0,hy1,hy2,hy3⟩:=infoOk_parts infoBx
                have hm1 : B.length + 1 ≤ maxLen:=by unfold maxLen;omega
                have hm2 : (B.length + 1) * 32 ≤ 140737488355328:=by omega
                have hz6:=hb6.size
                go_upto_region 34 with (at_builtin;go_must (refine wpList_append_own_at _ rfl _ _ 28 rfl W5.heap.size 27 j0 y0 4 32 Tryz.underlying28 hj0 hy0 hy1 hy2 hy3 (by decide) _ _ _ rfl (hoB.alloc _) ⟨W6.heap.size,0,none⟩ 1 1 [.int .i64 u0,.int .i64 u1,.int .i64 u2,.int .i64 u3] rfl rfl (cells_new W6 [.int .i64 u0,.int .i64 u1,.int .i64 u2,.int .i64 u3] _) (by simp [Value.oneCell']) hm1 hm2 (by simp;omega) ?_);intro v' wx hown1 hgrow1 _ hblk;obtain ⟨gR,capR,rfl,hgR,hgR2⟩:=own_pos hown1 (by omega) (by decide);have hN8:=box_og (hN.alloc (.cells #[.int .i64 u0,.int .i64 u1,.int .i64 u2,.int .i64 u3] 27)) (hoB.alloc _) (by decide) hgrow1;have n8:=ce9 hN8;have f8:=hN8.froz)
                obtain ⟨W7,hW7⟩ : ∃ W7 : World,W7 = wx.setCell ⟨gN,8,none⟩ (.slice (some ⟨gR,0,none⟩) (B.length + 1) capR):=⟨_,rfl⟩
                have hNB:=own_blkT hown1 hN8 (by decide)
                have hoL8:=own_og (hoL.alloc (.cells #[.int .i64 u0,.int .i64 u1,.int .i64 u2,.int .i64 u3] 27)) (hoB.alloc _) (by decide) hgrow1
                have hNL:=own_blkT hoL8 hN8 (by decide)
                have hN7 : Box W7 gN 30 #[.int .i64 bx,.int .i64 bY,.int .i64 sl,.slice DL L.length dL,.int .i64 fx,.int .i64 fX,.int .i64 fy,.int .i64 fY,.slice (some ⟨gR,0,none⟩) (B.length + 1) capR]:=by rw [hW7];exact (hN8.set 8 _).congr (by simp)
                have hoL7 : W7.ownsRow W5.heap.size 160 3 (.slice DL L.length dL) L.length (L.flatMap lkV):=by rw [hW7];exact own_setf hoL8 hNL
                have hoB7 : W7.ownsRow W5.heap.size 27 4 (.slice (some ⟨gR,0,none⟩) (B.length + 1) capR) (B.length + 1) ((B ++ [(u0,u1,u2,u3)]).flatMap bxV):=by
                  rw [hW7,List.flatMap_append]
                  exact own_setf hown1 hNB
                have hb7 : Below W5.heap.size W5 W7:=by
                  rw [hW7]
                  exact Below.setCell (p:=⟨gN,8,none⟩) ((hb6.alloc hz6 _).grown hgrow1 (by simp;omega) (fun k e => ((hoB.alloc (.cells #[.int .i64 u0,.int .i64 u1,.int .i64 u2,.int .i64 u3] 27)).lt k e).1)) hgN _
                rw [← hW7]
                have HZ2:=Lib.hid (HZ.out.below hb7)
                clear hW7 hNB hoL8 hNL hN8 n8 f8 hown1 hgrow1 hblk hN hoL hoB hb6 hX6 lN lX6 n9 x6 hj0 hy0 hy1 hy2 hy3 hm1 hm2 hz6 hgR hgR2 HZ
                have HP:=hP.below hb7 hP.lt;have HQ:=hQ.below hb7 hQ.lt;have HX:=hX.below hb7 hX.lt;have hB' : Below w.heap.size w W7:=(by exact bB2 hb7 hB);clear hP hQ hX hB;have hP:=HP;have hQ:=HQ;have hX:=HX;have hB:=hB';clear HP HQ HX hB'
                have HZ:=HZ2
                clear HZ2 hb7
                have hvL:=slv_own (by decide) hoL7
                have hvB:=slv_own (by decide) hoB7
                clear hoL7 hoB7
                have FE2c:=Lib.hid (fun W (h : Below W7.heap.size W7 W) => show Calls Tryz.prog 37 #[.agg #[.int .i64 bx,.int .i64 bY,.int .i64 sl,.slice DL L.length dL,.int .i64 fx,.int .i64 fX,.int .i64 fy,.int .i64 fY,.slice (some ⟨gR,0,none⟩) (B.length + 1) capR],.agg #[.int .i64 ps,.slice AQ Q.length cQ]] W (fun e w' => e = .returned (.int .i64 (frE (moreB (⟨bx,bY,sl,L,(fx,fX,fy,fY),B⟩ : Sc) (u0,u1,u2,u3)) (ps,Q))) ∧ Below W.heap.size W w') from by
                  have h5:=rFreeErr_c bx bY sl fx fX fy fY ps L (B ++ [(u0,u1,u2,u3)]) Q DL (some ⟨gR,0,none⟩) AQ dL capR cQ W (by omega) (by simp;omega) (by omega) (hvL.below h) (hvB.below h) (hs3.below (by exact bB2 h hB))
                  simp only [List.length_append,List.length_cons,List.length_nil,Nat.zero_add] at h5
                  exact h5)
                by_cases k0 : frE (moreB (⟨bx,bY,sl,L,(fx,fX,fy,fY),B⟩ : Sc) (u0,u1,u2,u3)) (ps,Q) = 0
                case neg =>
                  have y1:=bneT k0
                  generalize frE (moreB (⟨bx,bY,sl,L,(fx,fX,fy,fY),B⟩ : Sc) (u0,u1,u2,u3)) (ps,Q) = fe2 at *
                  have n9:=ce9 hN7
                  have c2:=ce2 hQ
                  clear k0 hvL hvB
                  go_wp2_with (first | (go_at_call 37;(with_reducible refine (FE2c.out _ (by exact bB0)).mono ?_);rintro e w3 ⟨rfl,hb3⟩) | fail)
                  go_ret
                  exact ⟨rfl,by exact bB2 hb3 hB⟩
                case pos =>
                  obtain ⟨m1,m2,m3⟩:=frE_ok k0
                  have hR':=rea m1 m2 m3
                  have HR2:=Lib.hid (HRM.out _ _ hR')
                  have HLN2:=Lib.hid (fun y (hy : y ∈ rchL (moreB (⟨bx,bY,sl,L,(fx,fX,fy,fY),B⟩ : Sc) (u0,u1,u2,u3)) (ps,Q)) => show y.1.2.length ≤ 100000 from by
                    have h3:=(hR'.ok y hy).1.len
                    have h4:=m1.len
                    omega)
                  have RF2:=Lib.hid (fun DQ dQ W (k1 : Below W7.heap.size W7 W) (k2 : SlI W DQ Q) => show Calls Tryz.prog 50 #[.agg #[.int .i64 bx,.int .i64 bY,.int .i64 sl,.slice DL L.length dL,.int .i64 fx,.int .i64 fX,.int .i64 fy,.int .i64 fY,.slice (some ⟨gR,0,none⟩) (B.length + 1) capR],.agg #[.int .i64 ps,.slice DQ Q.length dQ]] W (RfEnd W (rchL (moreB (⟨bx,bY,sl,L,(fx,fX,fy,fY),B⟩ : Sc) (u0,u1,u2,u3)) (ps,Q),0)) from by
                    have h5:=reachedFrom_c bx bY sl fx fX fy fY ps L (B ++ [(u0,u1,u2,u3)]) Q DL (some ⟨gR,0,none⟩) DQ dL capR dQ W (by omega) (by simp;omega) (by omega) (hvL.below k1) (hvB.below k1) k2
                    rw [show rchR (⟨bx,bY,sl,L,(fx,fX,fy,fY),B ++ [(u0,u1,u2,u3)]⟩ : Sc) (ps,Q) = (rchL (moreB (⟨bx,bY,sl,L,(fx,fX,fy,fY),B⟩ : Sc) (u0,u1,u2,u3)) (ps,Q),0) from if_neg (by show ¬ (frE (moreB (⟨bx,bY,sl,L,(fx,fX,fy,fY),B⟩ : Sc) (u0,u1,u2,u3)) (ps,Q) ≠ 0);simp [k0])] at h5
                    simp only [List.length_append,List.length_cons,List.length_nil,Nat.zero_add] at h5
                    exact h5)
                  rw [k0] at FE2c
                  clear hR' m1 m2 m3 k0 HRM hvL hvB
                  generalize rchL (moreB (⟨bx,bY,sl,L,(fx,fX,fy,fY),B⟩ : Sc) (u0,u1,u2,u3)) (ps,Q) = R' at *
                  have n9:=ce9 hN7
                  have c2:=ce2 hQ
                  go_upto_region 36 with (first | (go_at_call 37;(with_reducible refine (FE2c.out _ (by exact bB0)).mono ?_);rintro e w3 ⟨rfl,hb3⟩) | fail)
                  have HZ2:=Lib.hid (HZ.out.below hb3)
                  have hN3:=hN7.below hb3 hN7.lt
                  have RF3:=Lib.hid (fun DQ dQ W (k1 : Below w3.heap.size w3 W) (k2 : SlI W DQ Q) => RF2.out DQ dQ W (by exact bB2 k1 hb3) k2)
                  clear HZ RF2 FE2c n9 c2 hN7
                  have HP:=hP.below hb3 hP.lt;have HQ:=hQ.below hb3 hQ.lt;have HX:=hX.below hb3 hX.lt;have hB' : Below w.heap.size w w3:=(by exact bB2 hb3 hB);clear hP hQ hX hB;have hP:=HP;have hQ:=HQ;have hX:=HX;have hB:=hB';clear HP HQ HX hB'
                  have HZ:=HZ2
                  have RF2:=RF3
                  clear HZ2 RF3 hb3
                  go_cut [21,22] (fun s21 s22 wx => Pr8 w3 R' s21 s22 wx)
                  case first => as_aux_lemma =>
                    have lN:=hN3.lt;have lQ:=hQ.lt
                    (refine wp_region_held_drew (S:=(fun w' => Box w' gN 30 #[.int .i64 bx,.int .i64 bY,.int .i64 sl,.slice DL L.length dL,.int .i64 fx,.int .i64 fX,.int .i64 fy,.int .i64 fY,.slice (some ⟨gR,0,none⟩) (B.length + 1) capR] ∧ Box w' (w.heap.size + 1) 33 #[.int .i64 ps,.slice AQ Q.length cQ])) kR ?_ (fun hHeld => ?_);(focus ((try dsimp only);((refine ⟨?_, ?_⟩ <;> (first | exact bX0 | exact bX1 hb7 | exact bX1 hb4 | exact bX2 hb4 hb7)))));have hO:=Lib.hid (fun w' (hSw : (fun w' => Box w' gN 30 #[.int .i64 bx,.int .i64 bY,.int .i64 sl,.slice DL L.length dL,.int .i64 fx,.int .i64 fX,.int .i64 fy,.int .i64 fY,.slice (some ⟨gR,0,none⟩) (B.length + 1) capR] ∧ Box w' (w.heap.size + 1) 33 #[.int .i64 ps,.slice AQ Q.length cQ]) w') => (by (try dsimp only at hSw);(obtain ⟨hSA,hSB⟩:=hSw;have c9:=ce9 hSA;have c2:=ce2 hSB);exact And.intro c9 c2));refine rgL 0 hO rfl ?_;refine rgL 1 hO rfl ?_;refine rgC 2 rfl (fun K hK => ?_);go_simp;((go_at_call 18;(with_reducible refine (CQc.out _ (by exact bB1 hB)).mono ?_);rintro e w4 hE4;obtain ⟨DQ,dQ,rfl,hq4,hb4⟩:=hE4));go_simp;refine hK.out _ _ ?_ (fun hHeld => ?_);(focus ((try dsimp only);((refine ⟨?_, ?_⟩ <;> (first | exact bX2 hb4 hb7 | exact bX1 hb4 | exact bX1 hb7 | exact bX0)))));clear hK K;(try simp only [Act.put,pqs]);refine rgC 3 rfl (fun K hK => ?_);go_simp;((go_at_call 50;(with_reducible refine (RF2.out _ _ _ (by exact bB1 hb4) (hq4.below (by exact bB0))).mono ?_);rintro e w7 hE7;obtain ⟨A7,c7,us,rfl,hm7,hv7,hq7,hb7⟩:=hE7));go_simp;refine hK.out _ _ ?_ (fun hHeld => ?_);(focus ((try dsimp only);((refine ⟨?_, ?_⟩ <;> (first | exact bX2 hb4 hb7 | exact bX1 hb4 | exact bX1 hb7 | exact bX0)))));clear hK K;(try simp only [Act.put,pqs]);refine rgN 4 rfl ?_;refine rgN 5 rfl ?_;refine rgN 6 rfl ?_;refine rgN 7 rfl ?_;refine rgN 8 rfl ?_;refine wpAnyH_done kR ?_ _;(go_wp2_with fail;go_meet;refine ⟨A7,c7,us,rfl,rfl,hm7, ?_, ?_⟩;(focus (exact ⟨hv7,hq7,fun x hx => HLN2.out _ (by rw [← hm7];exact List.mem_map_of_mem hx)⟩));(focus (exact bB2 hb4 hb7))))
                  case rest => as_aux_lemma =>
                    obtain ⟨A7,c7,us,rfl,rfl,hmu,hwu,hW⟩:=hcut
                    have HMU:=Lib.hid hmu
                    have hu0 : us.length ≤ zs.length:=by
                      have h3:=congrArg List.length hmu
                      have h4:=congrArg List.length HM8.out
                      have h5:=HR2.out.1
                      simp at h3 h4
                      omega
                    have HU:=Lib.hid hwu
                    have HZ2:=Lib.hid (HZ.out.below hW)
                    clear HZ RF2 CQc hmu hwu hN3
                    have HP:=hP.below hW hP.lt;have HQ:=hQ.below hW hQ.lt;have HX:=hX.below hW hX.lt;have hB' : Below w.heap.size w wc:=(by exact bB2 hW hB);clear hP hQ hX hB;have hP:=HP;have hQ:=HQ;have hX:=HX;have hB:=hB';clear HP HQ HX hB'
                    clear hW
                    have HZ:=HZ2
                    clear HZ2
                    generalize wc = W5 at *
                    clear CSc HBC HCH HLN HLN2 HMB HND HRL HRS hs1 hs2 hs3 hs4 hP hQ hX
                    have e3 : decide ((zs.length : Int) < (us.length : Int)) = false:=decide_eq_false (by omega)
                    have e3n : decide (zs.length < us.length) = false:=decide_eq_false (by omega)
                    go_wp2_with fail
                    go_loopw [23] (fun j wr => ∃ i : Nat,j = .int .i64 i ∧ i ≤ us.length ∧ Below W5.heap.size W5 wr) (fun j _ => us.length - (intOf j).toNat)
                    case atStart => exact ⟨0,rfl,Nat.zero_le _,Below.refl _ _⟩
                    case round => as_aux_lemma =>
                      obtain ⟨i,rfl,hi,hb⟩:=hrel
                      by_cases hlt : i < us.length
                      · obtain ⟨y,hy⟩ : ∃ y,us[i]? = some y:=⟨_,List.getElem?_eq_getElem hlt⟩
                        have hUr:=HU.out.below hb
                        obtain ⟨gU,oU,hA7,lU0,v00,v10,v20⟩:=rcCells hUr hy
                        have hyq:=hUr.el y (List.mem_of_getElem? hy)
                        have hyn:=hUr.ln y (List.mem_of_getElem? hy)
                        have hym : pmR y ∈ R':=by rw [← HMU.out];exact List.mem_map_of_mem (List.mem_of_getElem? hy)
                        obtain ⟨⟨⟨y1,yQ⟩,⟨AY,cY⟩⟩,ym⟩:=y
                        dsimp only at v00 v10 v20 hyq hyn
                        have hev : (zs.map pmR).any (fun r => decide (r.1 = (y1,yQ)) && decide (r.2 ≤ ym)) = true:=by
                          obtain ⟨r,hr,k1,k2⟩:=HR2.out.2 _ hym
                          rw [List.any_eq_true]
                          exact ⟨r,by rw [HM8.out];exact hr,by simp only [Bool.and_eq_true,decide_eq_true_eq];exact ⟨k1,k2⟩⟩
                        have HEV:=Lib.hid hev
                        have HYQ:=Lib.hid hyq
                        clear hUr hy hym hev hyq
                        subst hA7
                        have i0 : 0 ≤ (i : Int):=by omega
                        have i1 : (i : Int) < (us.length : Int):=by omega
                        generalize wr = W6 at *
                        go_wp2
                        go_loopw [24,25] (fun kn j wq => ∃ k : Nat,kn = .bool (((zs.map pmR).take k).any (fun r => decide (r.1 = (y1,yQ)) && decide (r.2 ≤ ym))) ∧ j = .int .i64 k ∧ k ≤ zs.length ∧ Below W6.heap.size W6 wq) (fun _ j _ => zs.length - (intOf j).toNat)
                        case atStart => exact ⟨0,rfl,rfl,Nat.zero_le _,Below.refl _ _⟩
                        case round => as_aux_lemma =>
                          obtain ⟨k,rfl,rfl,hk,hbk⟩:=hrel
                          have hbw : Below W5.heap.size W5 wr:=by exact bB2 hbk hb
                          by_cases hkl : k < zs.length
                          · obtain ⟨z,hz⟩ : ∃ z,zs[k]? = some z:=⟨_,List.getElem?_eq_getElem hkl⟩
                            have hWr:=HZ.out.below hbw
                            obtain ⟨gR,oR,hA,lR,z0,z1,z2⟩:=rcCells hWr hz
                            have hzq:=hWr.el z (List.mem_of_getElem? hz)
                            have hzn:=hWr.ln z (List.mem_of_getElem? hz)
                            have hst : ((zs.map pmR).take (k + 1)).any (fun r => decide (r.1 = (y1,yQ)) && decide (r.2 ≤ ym)) = (((zs.map pmR).take k).any (fun r => decide (r.1 = (y1,yQ)) && decide (r.2 ≤ ym)) || (decide (z.1.1 = (y1,yQ)) && decide (z.2 ≤ ym))):=by
                              rw [List.take_add_one,List.any_append]
                              simp [hz,pmR]
                            obtain ⟨⟨⟨x1,xQ⟩,⟨AX,cX⟩⟩,xm⟩:=z
                            dsimp only at z0 z1 z2 hzq hzn hst
                            have HST:=Lib.hid hst
                            clear hst hWr hz
                            generalize ((zs.map pmR).take k).any (fun r => decide (r.1 = (y1,yQ)) && decide (r.2 ≤ ym)) = kn at *
                            obtain ⟨kn1,hkn1⟩ : ∃ kn1,kn1 = ((zs.map pmR).take (k + 1)).any (fun r => decide (r.1 = (y1,yQ)) && decide (r.2 ≤ ym)):=⟨_,rfl⟩
                            have HE1:=Lib.hid hkn1
                            rw [← hkn1] at HST
                            clear hkn1
                            subst hA
                            have v0:=((bcell hbk).1 _ _ lU0).trans v00
                            have v1:=((bcell hbk).1 _ _ lU0).trans v10
                            have v2:=((bcell hbk).1 _ _ lU0).trans v20
                            have lU : gU < wr.heap.size:=by have:=hbk.size;omega
                            have SPc:=Lib.hid (fun W (h : Below wr.heap.size wr W) => samePose_c x1 y1 xQ yQ AX AY cX cY W hzn hyn (hzq.below h) (HYQ.out.below (by exact bB2 h hbk)))
                            clear hzq
                            have k0 : 0 ≤ (k : Int):=by omega
                            have k1 : (k : Int) < (zs.length : Int):=by omega
                            cases kn
                            case true =>
                              have hm1 : kn1 = true:=by rw [HST.out];rfl
                              subst hm1
                              clear HST SPc
                              go_wp2
                              (refine region_open kR (fun R hR => ?_);refine heldR (S:=(fun w' => Below wr.heap.size wr w')) ?_ (fun hHeld => ?_);(focus ((try dsimp only);(((first | exact bB0 | exact bB0)))));refine rgN 0 rfl ?_;refine rgN 1 rfl ?_;refine tsH (i:=2) rfl (by assumption) ?_;refine tsH (i:=3) rfl (by assumption) ?_;refine tsH (i:=4) rfl (by assumption) ?_;refine tsH (i:=5) rfl (by assumption) ?_;refine tsH (i:=6) rfl (by assumption) ?_;refine tsH (i:=7) rfl (by assumption) ?_;refine tsH (i:=8) rfl (by assumption) ?_;refine tsH (i:=9) rfl (by assumption) ?_;refine tsH (i:=10) rfl (by assumption) ?_;refine tsH (i:=11) rfl (by assumption) ?_;refine tsH (i:=12) rfl (by assumption) ?_;refine tsH (i:=13) rfl (by assumption) ?_;refine tsH (i:=14) rfl (by assumption) ?_;refine tsH (i:=15) rfl (by assumption) ?_;refine tsH (i:=16) rfl (by assumption) ?_;refine tsH (i:=17) rfl (by assumption) ?_;refine tsH (i:=18) rfl (by assumption) ?_;refine tsH (i:=19) rfl (by assumption) ?_;refine tsH (i:=20) rfl (by assumption) ?_;refine tsH (i:=21) rfl (by assumption) ?_;refine tsH (i:=22) rfl (by assumption) ?_;refine tsH (i:=23) rfl (by assumption) ?_;refine tsH (i:=24) rfl (by assumption) ?_;refine tsH (i:=25) rfl (by assumption) ?_;refine rgN 26 rfl ?_;refine rgN 27 rfl ?_;refine wpAnyH_done (Q:=fun e a w => e = Exit.normal ∧ R a w) kR ⟨rfl,hR _ _ ?_⟩ _;clear hR R)
                              go_wp2
                              go_roundw
                              case rel => exact ⟨k + 1,by rw [← HE1.out],by go_num,by omega,by exact bB1 hbk⟩
                              case measure => simp [intOf];omega
                            case false =>
                              clear HEV HM8 HMU HR2 hB HZ HU hb hbw
                              by_cases hd : (x1,xQ) = (y1,yQ)
                              · rw [decide_eq_true hd] at SPc
                                have hm1 : kn1 = decide (xm ≤ ym):=by rw [HST.out];simp [hd]
                                have HE2:=Lib.hid (HE1.out.symm.trans hm1)
                                clear HST hd hm1 HE1 HYQ
                                go_upto_region 46 with fail
                                (refine region_open kR (fun R hR => ?_);refine heldR (S:=(fun w' => Below wr.heap.size wr w')) ?_ (fun hHeld => ?_);(focus ((try dsimp only);(((first | exact bB0 | exact bB1 hb3)))));have hO:=Lib.hid (fun w' (hSw : (fun w' => Below wr.heap.size wr w') w') => (by (try dsimp only at hSw);(have hcc:=(bcell hSw).1;have sa0:=(hcc _ _ lR).trans z0;have sa1:=(hcc _ _ lR).trans z1;have sa2:=(hcc _ _ lR).trans z2;have ua0:=(hcc _ _ lU).trans v0;have ua1:=(hcc _ _ lU).trans v1;have ua2:=(hcc _ _ lU).trans v2);exact And.intro sa0 (And.intro sa1 (And.intro sa2 (And.intro ua0 (And.intro ua1 ua2))))));refine rgN 0 rfl ?_;refine rgN 1 rfl ?_;refine rgN 2 rfl ?_;refine rgN 3 rfl ?_;refine rgN 4 rfl ?_;refine rgN 5 rfl ?_;refine rgL 6 hO rfl ?_;refine rgN 7 rfl ?_;refine rgN 8 rfl ?_;refine rgN 9 rfl ?_;refine rgN 10 rfl ?_;refine rgL 11 hO rfl ?_;refine rgC 12 rfl (fun K hK => ?_);go_simp;((go_at_call 21;(with_reducible refine (SPc.out _ (by exact bB0)).mono ?_);rintro e w3 ⟨rfl,hb3⟩));go_simp;refine hK.out _ _ ?_ (fun hHeld => ?_);(focus ((try dsimp only);(((first | exact bB1 hb3 | exact bB0)))));clear hK K;(try simp only [Act.put,pqs]);refine rgN 13 rfl ?_;refine rgN 14 rfl ?_;refine rgN 15 rfl ?_;refine rgN 16 rfl ?_;refine rgN 17 rfl ?_;refine rgL 18 hO rfl ?_;refine rgN 19 rfl ?_;refine rgN 20 rfl ?_;refine rgN 21 rfl ?_;refine rgN 22 rfl ?_;refine rgL 23 hO rfl ?_;refine rgN 24 rfl ?_;refine rgN 25 rfl ?_;refine rgN 26 rfl ?_;refine rgN 27 rfl ?_;refine wpAnyH_done (Q:=fun e a w => e = Exit.normal ∧ R a w) kR ⟨rfl,hR _ _ ?_⟩ _;clear hR R)
                                go_wp2
                                go_roundw
                                case rel => exact ⟨k + 1,by rw [HE2.out],by go_num,by omega,by exact bB2 hb3 hbk⟩
                                case measure => simp [intOf];omega
                              · rw [decide_eq_false hd] at SPc
                                have hm1 : kn1 = false:=by rw [HST.out];simp [hd]
                                have HE2:=Lib.hid (HE1.out.symm.trans hm1)
                                clear HST hd hm1 HE1 HYQ
                                go_upto_region 46 with fail
                                (refine region_open kR (fun R hR => ?_);refine heldR (S:=(fun w' => Below wr.heap.size wr w')) ?_ (fun hHeld => ?_);(focus ((try dsimp only);(((first | exact bB0 | exact bB1 hb3)))));have hO:=Lib.hid (fun w' (hSw : (fun w' => Below wr.heap.size wr w') w') => (by (try dsimp only at hSw);(have hcc:=(bcell hSw).1;have sa0:=(hcc _ _ lR).trans z0;have sa1:=(hcc _ _ lR).trans z1;have sa2:=(hcc _ _ lR).trans z2;have ua0:=(hcc _ _ lU).trans v0;have ua1:=(hcc _ _ lU).trans v1;have ua2:=(hcc _ _ lU).trans v2);exact And.intro sa0 (And.intro sa1 (And.intro sa2 (And.intro ua0 (And.intro ua1 ua2))))));refine rgN 0 rfl ?_;refine rgN 1 rfl ?_;refine rgN 2 rfl ?_;refine rgN 3 rfl ?_;refine rgN 4 rfl ?_;refine rgN 5 rfl ?_;refine rgL 6 hO rfl ?_;refine rgN 7 rfl ?_;refine rgN 8 rfl ?_;refine rgN 9 rfl ?_;refine rgN 10 rfl ?_;refine rgL 11 hO rfl ?_;refine rgC 12 rfl (fun K hK => ?_);go_simp;((go_at_call 21;(with_reducible refine (SPc.out _ (by exact bB0)).mono ?_);rintro e w3 ⟨rfl,hb3⟩));go_simp;refine hK.out _ _ ?_ (fun hHeld => ?_);(focus ((try dsimp only);(((first | exact bB1 hb3 | exact bB0)))));clear hK K;(try simp only [Act.put,pqs]);refine rgN 13 rfl ?_;refine tsH (i:=14) rfl (by assumption) ?_;refine tsH (i:=15) rfl (by assumption) ?_;refine tsH (i:=16) rfl (by assumption) ?_;refine tsH (i:=17) rfl (by assumption) ?_;refine tsH (i:=18) rfl (by assumption) ?_;refine tsH (i:=19) rfl (by assumption) ?_;refine tsH (i:=20) rfl (by assumption) ?_;refine tsH (i:=21) rfl (by assumption) ?_;refine tsH (i:=22) rfl (by assumption) ?_;refine tsH (i:=23) rfl (by assumption) ?_;refine tsH (i:=24) rfl (by assumption) ?_;refine rgN 25 rfl ?_;refine rgN 26 rfl ?_;refine rgN 27 rfl ?_;refine wpAnyH_done (Q:=fun e a w => e = Exit.normal ∧ R a w) kR ⟨rfl,hR _ _ ?_⟩ _;clear hR R)
                                go_wp2
                                go_roundw
                                case rel => exact ⟨k + 1,by rw [HE2.out],by go_num,by omega,by exact bB2 hb3 hbk⟩
                                case measure => simp [intOf];omega
                          · have e : k = zs.length:=by omega
                            subst e
                            rw [List.take_of_length_le (by simp),HEV.out]
                            clear HEV HYQ HZ HU
                            have hbw2 : Below W5.heap.size W5 wr:=by exact bB2 hbk hb
                            have e5 : decide ((zs.length : Int) < (zs.length : Int)) = false:=decide_eq_false (by omega)
                            go_wp2
                            go_roundw
                            case rel => exact ⟨i + 1,by go_num,by omega,hbw2⟩
                            case measure => simp [intOf];omega
                      · have e4 : decide ((i : Int) < (us.length : Int)) = false:=decide_eq_false (by omega)
                        go_wp2
                        go_ret
                        exact ⟨rfl,by exact bB2 hb hB⟩
end Go.Proofs.YtpnfgmgoafgcbaaGreat

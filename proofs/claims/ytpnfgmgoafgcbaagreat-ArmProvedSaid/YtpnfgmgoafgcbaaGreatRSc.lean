/-
  The reference's errors of boxes, scenes and poses (chapter 6).
-/
import Derived.Test.YtpnfgmgoafgcbaaGreatPose
import Derived.Test.YtpnfgmgoafgcbaaGreatA2
import Derived.BigQuiet
set_option linter.all false
set_option linter.unusedVariables false
namespace Go.Proofs.YtpnfgmgoafgcbaaGreat
open Go.RowKit
attribute [local go_sem] Oper.semAt_some
set_option maxHeartbeats 400000 in
theorem sized_c (n : Int) (w : World) : Calls Tryz.prog 143 #[.int .i64 n] w fun e w' => e = .returned (.bool (szB n)) ∧ w = w':=by
  go_enter Tryz.func143,Tryz.ntmps143
  go_wp2_with (first | (go_at_call 40;(with_reducible refine (within_b _ _ _ _).mono ?_);rintro e w' ⟨rfl,rfl⟩) | fail)
  go_ret
  exact ⟨rfl,rfl⟩
set_option maxHeartbeats 1000000 in
theorem rBoxErr_c (x X y Y : Int) (w : World) : Calls Tryz.prog 70 #[.agg #[.int .i64 x,.int .i64 X,.int .i64 y,.int .i64 Y]] w fun e w' => e = .returned (.int .i64 (bxE (x,X,y,Y))) ∧ Below w.heap.size w w':=by
  have HE:=Lib.hid (show bxE (x,X,y,Y) = fstE [unl (szB x && szB X && (szB y && szB Y)) 2,unl (decide (x ≤ X) && decide (y ≤ Y)) 9] from rfl)
  generalize bxE (x,X,y,Y) = R at *
  have hc : (szB x = false) ∨ (szB x = true ∧ szB X = false) ∨ (szB x = true ∧ szB X = true ∧ szB y = false) ∨ (szB x = true ∧ szB X = true ∧ szB y = true ∧ szB Y = false) ∨ (szB x = true ∧ szB X = true ∧ szB y = true ∧ szB Y = true):=by
    cases szB x <;> cases szB X <;> cases szB y <;> cases szB Y <;> simp
  rcases hc with g1 | ⟨g1,g2⟩ | ⟨g1,g2,g3⟩ | ⟨g1,g2,g3,g4⟩ | ⟨g1,g2,g3,g4⟩
  · have HR:=Lib.hid (show R = 2 by rw [HE.out,g1];rfl)
    clear HE
    go_enter Tryz.func70,Tryz.ntmps70
    go_wp2_with (first | (go_at_call 143;(with_reducible refine (sized_c _ _).mono ?_);rintro e w' ⟨rfl,rfl⟩) | fail)
    go_ret
    exact ⟨ret_i HR.out.symm,by exact bB0⟩
  · have HR:=Lib.hid (show R = 2 by rw [HE.out,g1,g2];rfl)
    clear HE
    go_enter Tryz.func70,Tryz.ntmps70
    go_wp2_with (first | (go_at_call 143;(with_reducible refine (sized_c _ _).mono ?_);rintro e w' ⟨rfl,rfl⟩) | fail)
    go_ret
    exact ⟨ret_i HR.out.symm,by exact bB0⟩
  · have HR:=Lib.hid (show R = 2 by rw [HE.out,g1,g2,g3];rfl)
    clear HE
    go_enter Tryz.func70,Tryz.ntmps70
    go_wp2_with (first | (go_at_call 143;(with_reducible refine (sized_c _ _).mono ?_);rintro e w' ⟨rfl,rfl⟩) | fail)
    go_ret
    exact ⟨ret_i HR.out.symm,by exact bB0⟩
  · have HR:=Lib.hid (show R = 2 by rw [HE.out,g1,g2,g3,g4];rfl)
    clear HE
    go_enter Tryz.func70,Tryz.ntmps70
    go_wp2_with (first | (go_at_call 143;(with_reducible refine (sized_c _ _).mono ?_);rintro e w' ⟨rfl,rfl⟩) | fail)
    go_ret
    exact ⟨ret_i HR.out.symm,by exact bB0⟩
  · have HE2:=Lib.hid (show R = unl (decide (x ≤ X) && decide (y ≤ Y)) 9 by rw [HE.out,g1,g2,g3,g4];cases decide (x ≤ X) && decide (y ≤ Y) <;> rfl)
    clear HE
    by_cases h1 : X < x
    · have e1 : decide (X < x) = true:=decide_eq_true h1
      have HR:=Lib.hid (show R = 9 by rw [HE2.out,decide_eq_false (show ¬ x ≤ X by omega)];rfl)
      clear HE2
      go_enter Tryz.func70,Tryz.ntmps70
      go_wp2_with (first | (go_at_call 143;(with_reducible refine (sized_c _ _).mono ?_);rintro e w' ⟨rfl,rfl⟩) | fail)
      go_ret
      exact ⟨ret_i HR.out.symm,by exact bB0⟩
    · have e1 : decide (X < x) = false:=decide_eq_false h1
      by_cases h2 : Y < y
      · have e2 : decide (Y < y) = true:=decide_eq_true h2
        have HR:=Lib.hid (show R = 9 by rw [HE2.out,decide_eq_false (show ¬ y ≤ Y by omega),Bool.and_false];rfl)
        clear HE2
        go_enter Tryz.func70,Tryz.ntmps70
        go_wp2_with (first | (go_at_call 143;(with_reducible refine (sized_c _ _).mono ?_);rintro e w' ⟨rfl,rfl⟩) | fail)
        go_ret
        exact ⟨ret_i HR.out.symm,by exact bB0⟩
      · have e2 : decide (Y < y) = false:=decide_eq_false h2
        have HR:=Lib.hid (show R = 0 by rw [HE2.out,decide_eq_true (show x ≤ X by omega),decide_eq_true (show y ≤ Y by omega)];rfl)
        clear HE2
        go_enter Tryz.func70,Tryz.ntmps70
        go_wp2_with (first | (go_at_call 143;(with_reducible refine (sized_c _ _).mono ?_);rintro e w' ⟨rfl,rfl⟩) | fail)
        go_ret
        exact ⟨ret_i HR.out.symm,by exact bB0⟩
set_option maxHeartbeats 1000000 in
theorem isIn_c (x X y Y a b : Int) (w : World) : Calls Tryz.prog 77 #[.agg #[.int .i64 x,.int .i64 X,.int .i64 y,.int .i64 Y],.agg #[.int .i64 a,.int .i64 b]] w fun e w' => e = .returned (.bool (inBx (x,X,y,Y) (a,b))) ∧ Below w.heap.size w w':=by
  have HE:=Lib.hid (show inBx (x,X,y,Y) (a,b) = (inB a x X && inB b y Y) from rfl)
  generalize inBx (x,X,y,Y) (a,b) = R at *
  cases g : inB a x X
  · have HR:=Lib.hid (show R = false by rw [HE.out,g];rfl)
    clear HE
    go_enter Tryz.func77,Tryz.ntmps77
    go_wp2_with (first | (go_at_call 40;(with_reducible refine (within_b _ _ _ _).mono ?_);rintro e w' ⟨rfl,rfl⟩) | fail)
    go_ret
    exact ⟨ret_b HR.out.symm,by exact bB0⟩
  · have HR:=Lib.hid (show R = inB b y Y by rw [HE.out,g];rfl)
    clear HE
    go_enter Tryz.func77,Tryz.ntmps77
    go_wp2_with (first | (go_at_call 40;(with_reducible refine (within_b _ _ _ _).mono ?_);rintro e w' ⟨rfl,rfl⟩) | fail)
    go_ret
    exact ⟨ret_b HR.out.symm,by exact bB0⟩
set_option maxHeartbeats 8000000 in
set_option maxRecDepth 100000 in
theorem rCheckScene_c (bx bY sl fx fX fy fY : Int) (L : List Lk) (B : List Bx) (AL AB : Option Addr) (cL cB : Nat) (w : World) (hL : L.length ≤ 100000) (hB : B.length ≤ 100000) (hs1 : SlV w AL (L.flatMap lkV)) (hs2 : SlV w AB (B.flatMap bxV)) :
    Calls Tryz.prog 60 #[.agg #[.int .i64 bx,.int .i64 bY,.int .i64 sl,.slice AL L.length cL,.int .i64 fx,.int .i64 fX,.int .i64 fy,.int .i64 fY,.slice AB B.length cB]] w fun e w' => e = .returned (.tuple #[.int .i64 (scP (⟨bx,bY,sl,L,(fx,fX,fy,fY),B⟩ : Sc)).1,.int .i64 (scP (⟨bx,bY,sl,L,(fx,fX,fy,fY),B⟩ : Sc)).2]) ∧ Below w.heap.size w w':=by
  have HP:=Lib.hid (show scP (⟨bx,bY,sl,L,(fx,fX,fy,fY),B⟩ : Sc) = if scE0 (⟨bx,bY,sl,L,(fx,fX,fy,fY),B⟩ : Sc) ≠ 0 then (0,scE0 (⟨bx,bY,sl,L,(fx,fX,fy,fY),B⟩ : Sc)) else if (eachE lkE L).2 ≠ 0 then eachE lkE L else if 6 < B.length then (0,8) else eachE bxE B from rfl)
  have H0:=Lib.hid (show scE0 (⟨bx,bY,sl,L,(fx,fX,fy,fY),B⟩ : Sc) = fstE [bxE (fx,fX,fy,fY),unl (inBx (fx,fX,fy,fY) (bx,bY) && inB sl 0 6) 2,unl (decide (0 < L.length)) 10,unl (decide (L.length ≤ 3)) 8] from rfl)
  have HS1:=Lib.hid hs1
  have HS2:=Lib.hid hs2
  have BEc:=Lib.hid (fun W => rBoxErr_c fx fX fy fY W)
  have IIc:=Lib.hid (fun W => isIn_c fx fX fy fY bx bY W)
  clear hs1 hs2
  generalize scP (⟨bx,bY,sl,L,(fx,fX,fy,fY),B⟩ : Sc) = R at *
  generalize scE0 (⟨bx,bY,sl,L,(fx,fX,fy,fY),B⟩ : Sc) = E0 at *
  generalize bxE (fx,fX,fy,fY) = fe at *
  generalize inBx (fx,fX,fy,fY) (bx,bY) = ib at *
  by_cases hf : fe = 0
  · have e1 : (fe != 0) = false:=bneF hf
    have H1:=Lib.hid (show E0 = fstE [unl (ib && inB sl 0 6) 2,unl (decide (0 < L.length)) 10,unl (decide (L.length ≤ 3)) 8] by rw [H0.out,fstE_cons,if_pos hf])
    clear H0 hf
    have hc : (ib = false) ∨ (ib = true ∧ inB sl 0 6 = false) ∨ (ib = true ∧ inB sl 0 6 = true):=by cases ib <;> cases inB sl 0 6 <;> simp
    rcases hc with g1 | ⟨g1,g2⟩ | ⟨g1,g2⟩
    · have HR:=Lib.hid (show R = (0,2) by rw [HP.out,H1.out,g1];rfl)
      clear HP H1
      go_enter Tryz.func60,Tryz.ntmps60
      go_wp2_with (first | (go_at_call 70;(with_reducible refine (BEc.out _).mono ?_);rintro e w2 ⟨rfl,hb2⟩;have hz2 : w.heap.size < w2.heap.size:=(by have:=hb2.size;(try simp at this);omega);have y2 : Box w2 w.heap.size 30 #[.int .i64 bx,.int .i64 bY,.int .i64 sl,.slice AL L.length cL,.int .i64 fx,.int .i64 fX,.int .i64 fy,.int .i64 fY,.slice AB B.length cB]:=(by exact bX1 hb2);have p0:=y2.cell 0;have p1:=y2.cell 1;have p2:=y2.cell 2;have p3:=y2.cell 3;have p4:=y2.cell 4;have p5:=y2.cell 5;have p6:=y2.cell 6;have p7:=y2.cell 7;have p8:=y2.cell 8;(simp at p0 p1 p2 p3 p4 p5 p6 p7 p8);have l2:=y2.lt) | (go_at_call 77;(with_reducible refine (IIc.out _).mono ?_);rintro e w3 ⟨rfl,hb3⟩;have hz3 : w2.heap.size ≤ w3.heap.size:=(by have:=hb3.size;(try simp at this);omega);have y3 : Box w3 w.heap.size 30 #[.int .i64 bx,.int .i64 bY,.int .i64 sl,.slice AL L.length cL,.int .i64 fx,.int .i64 fX,.int .i64 fy,.int .i64 fY,.slice AB B.length cB]:=(by exact bX1 hb3);have q0:=y3.cell 0;have q1:=y3.cell 1;have q2:=y3.cell 2;have q3:=y3.cell 3;have q4:=y3.cell 4;have q5:=y3.cell 5;have q6:=y3.cell 6;have q7:=y3.cell 7;have q8:=y3.cell 8;(simp at q0 q1 q2 q3 q4 q5 q6 q7 q8);have l3:=y3.lt) | (go_at_call 40;(with_reducible refine (within_b _ _ _ _).mono ?_);rintro e w' ⟨rfl,rfl⟩) | fail)
      go_ret2;exact ⟨ret_ii (by rw [HR.out]) (by rw [HR.out]),by exact bB2 hb2 hb3⟩
    · have HR:=Lib.hid (show R = (0,2) by rw [HP.out,H1.out,g1,g2];rfl)
      clear HP H1
      go_enter Tryz.func60,Tryz.ntmps60
      go_wp2_with (first | (go_at_call 70;(with_reducible refine (BEc.out _).mono ?_);rintro e w2 ⟨rfl,hb2⟩;have hz2 : w.heap.size < w2.heap.size:=(by have:=hb2.size;(try simp at this);omega);have y2 : Box w2 w.heap.size 30 #[.int .i64 bx,.int .i64 bY,.int .i64 sl,.slice AL L.length cL,.int .i64 fx,.int .i64 fX,.int .i64 fy,.int .i64 fY,.slice AB B.length cB]:=(by exact bX1 hb2);have p0:=y2.cell 0;have p1:=y2.cell 1;have p2:=y2.cell 2;have p3:=y2.cell 3;have p4:=y2.cell 4;have p5:=y2.cell 5;have p6:=y2.cell 6;have p7:=y2.cell 7;have p8:=y2.cell 8;(simp at p0 p1 p2 p3 p4 p5 p6 p7 p8);have l2:=y2.lt) | (go_at_call 77;(with_reducible refine (IIc.out _).mono ?_);rintro e w3 ⟨rfl,hb3⟩;have hz3 : w2.heap.size ≤ w3.heap.size:=(by have:=hb3.size;(try simp at this);omega);have y3 : Box w3 w.heap.size 30 #[.int .i64 bx,.int .i64 bY,.int .i64 sl,.slice AL L.length cL,.int .i64 fx,.int .i64 fX,.int .i64 fy,.int .i64 fY,.slice AB B.length cB]:=(by exact bX1 hb3);have q0:=y3.cell 0;have q1:=y3.cell 1;have q2:=y3.cell 2;have q3:=y3.cell 3;have q4:=y3.cell 4;have q5:=y3.cell 5;have q6:=y3.cell 6;have q7:=y3.cell 7;have q8:=y3.cell 8;(simp at q0 q1 q2 q3 q4 q5 q6 q7 q8);have l3:=y3.lt) | (go_at_call 40;(with_reducible refine (within_b _ _ _ _).mono ?_);rintro e w' ⟨rfl,rfl⟩) | fail)
      go_ret2;exact ⟨ret_ii (by rw [HR.out]) (by rw [HR.out]),by exact bB2 hb2 hb3⟩
    · by_cases hz : L.length = 0
      · have e2 : ((L.length : Int) == 0) = true:=beqT (by omega)
        have HR:=Lib.hid (show R = (0,10) by rw [HP.out,H1.out,g1,g2,decide_eq_false (by omega)];rfl)
        clear HP H1 hz
        go_enter Tryz.func60,Tryz.ntmps60
        go_wp2_with (first | (go_at_call 70;(with_reducible refine (BEc.out _).mono ?_);rintro e w2 ⟨rfl,hb2⟩;have hz2 : w.heap.size < w2.heap.size:=(by have:=hb2.size;(try simp at this);omega);have y2 : Box w2 w.heap.size 30 #[.int .i64 bx,.int .i64 bY,.int .i64 sl,.slice AL L.length cL,.int .i64 fx,.int .i64 fX,.int .i64 fy,.int .i64 fY,.slice AB B.length cB]:=(by exact bX1 hb2);have p0:=y2.cell 0;have p1:=y2.cell 1;have p2:=y2.cell 2;have p3:=y2.cell 3;have p4:=y2.cell 4;have p5:=y2.cell 5;have p6:=y2.cell 6;have p7:=y2.cell 7;have p8:=y2.cell 8;(simp at p0 p1 p2 p3 p4 p5 p6 p7 p8);have l2:=y2.lt) | (go_at_call 77;(with_reducible refine (IIc.out _).mono ?_);rintro e w3 ⟨rfl,hb3⟩;have hz3 : w2.heap.size ≤ w3.heap.size:=(by have:=hb3.size;(try simp at this);omega);have y3 : Box w3 w.heap.size 30 #[.int .i64 bx,.int .i64 bY,.int .i64 sl,.slice AL L.length cL,.int .i64 fx,.int .i64 fX,.int .i64 fy,.int .i64 fY,.slice AB B.length cB]:=(by exact bX1 hb3);have q0:=y3.cell 0;have q1:=y3.cell 1;have q2:=y3.cell 2;have q3:=y3.cell 3;have q4:=y3.cell 4;have q5:=y3.cell 5;have q6:=y3.cell 6;have q7:=y3.cell 7;have q8:=y3.cell 8;(simp at q0 q1 q2 q3 q4 q5 q6 q7 q8);have l3:=y3.lt) | (go_at_call 40;(with_reducible refine (within_b _ _ _ _).mono ?_);rintro e w' ⟨rfl,rfl⟩) | fail)
        go_ret2;exact ⟨ret_ii (by rw [HR.out]) (by rw [HR.out]),by exact bB2 hb2 hb3⟩
      · have e2 : ((L.length : Int) == 0) = false:=beqF (by omega)
        by_cases hg : 3 < L.length
        · have e3 : decide (3 < (L.length : Int)) = true:=decide_eq_true (by omega)
          have HR:=Lib.hid (show R = (0,8) by rw [HP.out,H1.out,g1,g2,decide_eq_true (by omega),decide_eq_false (by omega)];rfl)
          clear HP H1 hz hg
          go_enter Tryz.func60,Tryz.ntmps60
          go_wp2_with (first | (go_at_call 70;(with_reducible refine (BEc.out _).mono ?_);rintro e w2 ⟨rfl,hb2⟩;have hz2 : w.heap.size < w2.heap.size:=(by have:=hb2.size;(try simp at this);omega);have y2 : Box w2 w.heap.size 30 #[.int .i64 bx,.int .i64 bY,.int .i64 sl,.slice AL L.length cL,.int .i64 fx,.int .i64 fX,.int .i64 fy,.int .i64 fY,.slice AB B.length cB]:=(by exact bX1 hb2);have p0:=y2.cell 0;have p1:=y2.cell 1;have p2:=y2.cell 2;have p3:=y2.cell 3;have p4:=y2.cell 4;have p5:=y2.cell 5;have p6:=y2.cell 6;have p7:=y2.cell 7;have p8:=y2.cell 8;(simp at p0 p1 p2 p3 p4 p5 p6 p7 p8);have l2:=y2.lt) | (go_at_call 77;(with_reducible refine (IIc.out _).mono ?_);rintro e w3 ⟨rfl,hb3⟩;have hz3 : w2.heap.size ≤ w3.heap.size:=(by have:=hb3.size;(try simp at this);omega);have y3 : Box w3 w.heap.size 30 #[.int .i64 bx,.int .i64 bY,.int .i64 sl,.slice AL L.length cL,.int .i64 fx,.int .i64 fX,.int .i64 fy,.int .i64 fY,.slice AB B.length cB]:=(by exact bX1 hb3);have q0:=y3.cell 0;have q1:=y3.cell 1;have q2:=y3.cell 2;have q3:=y3.cell 3;have q4:=y3.cell 4;have q5:=y3.cell 5;have q6:=y3.cell 6;have q7:=y3.cell 7;have q8:=y3.cell 8;(simp at q0 q1 q2 q3 q4 q5 q6 q7 q8);have l3:=y3.lt) | (go_at_call 40;(with_reducible refine (within_b _ _ _ _).mono ?_);rintro e w' ⟨rfl,rfl⟩) | fail)
          go_ret2;exact ⟨ret_ii (by rw [HR.out]) (by rw [HR.out]),by exact bB2 hb2 hb3⟩
        · have e3 : decide (3 < (L.length : Int)) = false:=decide_eq_false (by omega)
          have HP2:=Lib.hid (show R = if (eachE lkE L).2 ≠ 0 then eachE lkE L else if 6 < B.length then (0,8) else eachE bxE B by
            have h0 : E0 = 0:=by rw [H1.out,g1,g2,decide_eq_true (by omega),decide_eq_true (by omega)];rfl
            rw [HP.out,if_neg (by simp [h0])])
          clear HP H1 hz
          go_enter Tryz.func60,Tryz.ntmps60
          go_wp2_with (first | (go_at_call 70;(with_reducible refine (BEc.out _).mono ?_);rintro e w2 ⟨rfl,hb2⟩;have hz2 : w.heap.size < w2.heap.size:=(by have:=hb2.size;(try simp at this);omega);have y2 : Box w2 w.heap.size 30 #[.int .i64 bx,.int .i64 bY,.int .i64 sl,.slice AL L.length cL,.int .i64 fx,.int .i64 fX,.int .i64 fy,.int .i64 fY,.slice AB B.length cB]:=(by exact bX1 hb2);have p0:=y2.cell 0;have p1:=y2.cell 1;have p2:=y2.cell 2;have p3:=y2.cell 3;have p4:=y2.cell 4;have p5:=y2.cell 5;have p6:=y2.cell 6;have p7:=y2.cell 7;have p8:=y2.cell 8;(simp at p0 p1 p2 p3 p4 p5 p6 p7 p8);have l2:=y2.lt) | (go_at_call 77;(with_reducible refine (IIc.out _).mono ?_);rintro e w3 ⟨rfl,hb3⟩;have hz3 : w2.heap.size ≤ w3.heap.size:=(by have:=hb3.size;(try simp at this);omega);have y3 : Box w3 w.heap.size 30 #[.int .i64 bx,.int .i64 bY,.int .i64 sl,.slice AL L.length cL,.int .i64 fx,.int .i64 fX,.int .i64 fy,.int .i64 fY,.slice AB B.length cB]:=(by exact bX1 hb3);have q0:=y3.cell 0;have q1:=y3.cell 1;have q2:=y3.cell 2;have q3:=y3.cell 3;have q4:=y3.cell 4;have q5:=y3.cell 5;have q6:=y3.cell 6;have q7:=y3.cell 7;have q8:=y3.cell 8;(simp at q0 q1 q2 q3 q4 q5 q6 q7 q8);have l3:=y3.lt) | (go_at_call 40;(with_reducible refine (within_b _ _ _ _).mono ?_);rintro e w' ⟨rfl,rfl⟩) | fail)
          go_loopw [5] (fun i wr => ∃ k : Nat,k ≤ L.length ∧ i = .int .i64 k ∧ Hid (eachE lkE L = eachF lkE k (L.drop k)) ∧ Box wr w.heap.size 30 #[.int .i64 bx,.int .i64 bY,.int .i64 sl,.slice AL L.length cL,.int .i64 fx,.int .i64 fX,.int .i64 fy,.int .i64 fY,.slice AB B.length cB] ∧ Below w.heap.size w wr) (fun i _ => L.length - (intOf i).toNat)
          case atStart => exact ⟨0,Nat.zero_le _,rfl,rfl,by exact bX2 hb2 hb3,by exact bB2 hb2 hb3⟩
          case round =>
            obtain ⟨k,hk,rfl,hf,hH,hB⟩:=hrel
            clear BEc IIc y2 y3 p0 p1 p2 p3 p4 p5 p6 p7 p8 q0 q1 q2 q3 q4 q5 q6 q7 q8 hz2 hz3 hb2 hb3 l2 l3
            have s0:=hH.cell 0;have s1:=hH.cell 1;have s2:=hH.cell 2;have s3:=hH.cell 3;have s4:=hH.cell 4;have s5:=hH.cell 5;have s6:=hH.cell 6;have s7:=hH.cell 7;have s8:=hH.cell 8
            have lH:=hH.lt
            simp at s0 s1 s2 s3 s4 s5 s6 s7 s8
            by_cases hlt : k < L.length
            · obtain ⟨bC,oC,rfl,hbC,c0,c1,c2⟩:=lk_cells (HS1.out.below hB) (List.getElem?_eq_getElem hlt)
              have D2:=Lib.hid (List.drop_eq_getElem_cons hlt)
              generalize L[k] = lk at *
              obtain ⟨n,lo,hi⟩:=lk
              dsimp only at c0 c1 c2
              have i1 : (k : Int) < (L.length : Int):=by omega
              have FE:=Lib.hid (show eachE lkE L = if lkE (n,lo,hi) = 0 then eachF lkE (k + 1) (L.drop (k + 1)) else ((k : Int),lkE (n,lo,hi)) by rw [hf.out,D2.out,eachF])
              have CE:=Lib.hid (show lkE (n,lo,hi) = fstE [unl (inB n 1 4 && inB lo (-2) 2 && inB hi (-2) 2) 2,unl (decide (lo ≤ hi)) 9] from rfl)
              have hc : (inB n 1 4 = false) ∨ (inB n 1 4 = true ∧ inB lo (-2) 2 = false) ∨ (inB n 1 4 = true ∧ inB lo (-2) 2 = true ∧ inB hi (-2) 2 = false) ∨ (inB n 1 4 = true ∧ inB lo (-2) 2 = true ∧ inB hi (-2) 2 = true):=by
                cases inB n 1 4 <;> cases inB lo (-2) 2 <;> cases inB hi (-2) 2 <;> simp
              rcases hc with v1 | ⟨v1,v2⟩ | ⟨v1,v2,v3⟩ | ⟨v1,v2,v3⟩
              · have HR:=Lib.hid (show R = ((k : Int),2) by
                  have h0 : lkE (n,lo,hi) = 2:=by rw [CE.out,v1];rfl
                  have h1 : eachE lkE L = ((k : Int),lkE (n,lo,hi)):=by rw [FE.out,if_neg (by rw [h0];decide)]
                  rw [HP2.out,h1,h0,if_pos (by simp)])
                clear FE CE
                go_wp2_with (first | (go_at_call 40;(with_reducible refine (within_b _ _ _ _).mono ?_);rintro e w' ⟨rfl,rfl⟩) | fail)
                go_ret2
                exact ⟨ret_ii (by rw [HR.out]) (by rw [HR.out]),by exact bB1 hB⟩
              · have HR:=Lib.hid (show R = ((k : Int),2) by
                  have h0 : lkE (n,lo,hi) = 2:=by rw [CE.out,v1,v2];rfl
                  have h1 : eachE lkE L = ((k : Int),lkE (n,lo,hi)):=by rw [FE.out,if_neg (by rw [h0];decide)]
                  rw [HP2.out,h1,h0,if_pos (by simp)])
                clear FE CE
                go_wp2_with (first | (go_at_call 40;(with_reducible refine (within_b _ _ _ _).mono ?_);rintro e w' ⟨rfl,rfl⟩) | fail)
                go_ret2
                exact ⟨ret_ii (by rw [HR.out]) (by rw [HR.out]),by exact bB1 hB⟩
              · have HR:=Lib.hid (show R = ((k : Int),2) by
                  have h0 : lkE (n,lo,hi) = 2:=by rw [CE.out,v1,v2,v3];rfl
                  have h1 : eachE lkE L = ((k : Int),lkE (n,lo,hi)):=by rw [FE.out,if_neg (by rw [h0];decide)]
                  rw [HP2.out,h1,h0,if_pos (by simp)])
                clear FE CE
                go_wp2_with (first | (go_at_call 40;(with_reducible refine (within_b _ _ _ _).mono ?_);rintro e w' ⟨rfl,rfl⟩) | fail)
                go_ret2
                exact ⟨ret_ii (by rw [HR.out]) (by rw [HR.out]),by exact bB1 hB⟩
              · by_cases hlo : hi < lo
                · have e4 : decide (hi < lo) = true:=decide_eq_true hlo
                  have HR:=Lib.hid (show R = ((k : Int),9) by
                    have h0 : lkE (n,lo,hi) = 9:=by rw [CE.out,v1,v2,v3,decide_eq_false (show ¬ lo ≤ hi by omega)];rfl
                    have h1 : eachE lkE L = ((k : Int),lkE (n,lo,hi)):=by rw [FE.out,if_neg (by rw [h0];decide)]
                    rw [HP2.out,h1,h0,if_pos (by simp)])
                  clear FE CE
                  go_wp2_with (first | (go_at_call 40;(with_reducible refine (within_b _ _ _ _).mono ?_);rintro e w' ⟨rfl,rfl⟩) | fail)
                  go_ret2
                  exact ⟨ret_ii (by rw [HR.out]) (by rw [HR.out]),by exact bB1 hB⟩
                · have e4 : decide (hi < lo) = false:=decide_eq_false hlo
                  have HR:=Lib.hid (show eachE lkE L = eachF lkE (k + 1) (L.drop (k + 1)) by
                    have h0 : lkE (n,lo,hi) = 0:=by rw [CE.out,v1,v2,v3,decide_eq_true (show lo ≤ hi by omega)];rfl
                    rw [FE.out,if_pos h0])
                  clear FE CE
                  go_wp2_with (first | (go_at_call 40;(with_reducible refine (within_b _ _ _ _).mono ?_);rintro e w' ⟨rfl,rfl⟩) | fail)
                  go_roundw
                  case rel => exact ⟨k + 1,by omega,by go_num,HR.out,by exact bX0,by exact bB1 hB⟩
                  case measure => simp [intOf];omega
            · have HP3:=Lib.hid (show R = if 6 < B.length then (0,8) else eachE bxE B by
                have h0 : (eachE lkE L).2 = 0:=by rw [hf.out,List.drop_eq_nil_of_le (by omega)];rfl
                rw [HP2.out,if_neg (by simp [h0])])
              clear HP2 hf
              by_cases h6 : 6 < B.length
              · have e4 : decide (6 < (B.length : Int)) = true:=decide_eq_true (by omega)
                have HR:=Lib.hid (show R = (0,8) by rw [HP3.out,if_pos h6])
                clear HP3 h6
                go_wp2_with fail
                go_ret2
                exact ⟨ret_ii (by rw [HR.out]) (by rw [HR.out]),by exact bB1 hB⟩
              · have e4 : decide (6 < (B.length : Int)) = false:=decide_eq_false (by omega)
                have HP4:=Lib.hid (show R = eachE bxE B by rw [HP3.out,if_neg h6])
                clear HP3
                go_wp2_with fail
                go_loopw [7] (fun i wq => ∃ k : Nat,k ≤ B.length ∧ i = .int .i64 k ∧ Hid (R = eachF bxE k (B.drop k)) ∧ Box wq w.heap.size 30 #[.int .i64 bx,.int .i64 bY,.int .i64 sl,.slice AL L.length cL,.int .i64 fx,.int .i64 fX,.int .i64 fy,.int .i64 fY,.slice AB B.length cB] ∧ Below w.heap.size w wq) (fun i _ => B.length - (intOf i).toNat)
                case atStart => exact ⟨0,Nat.zero_le _,rfl,HP4.out,by exact bX0,by exact bB1 hB⟩
                case round =>
                  obtain ⟨j,hj,rfl,hf,hH2,hB2⟩:=hrel
                  clear HP4 hH s0 s1 s2 s3 s4 s5 s6 s7 s8 lH
                  have z0:=hH2.cell 0;have z1:=hH2.cell 1;have z2:=hH2.cell 2;have z3:=hH2.cell 3;have z4:=hH2.cell 4;have z5:=hH2.cell 5;have z6:=hH2.cell 6;have z7:=hH2.cell 7;have z8:=hH2.cell 8
                  have lH:=hH2.lt
                  simp at z0 z1 z2 z3 z4 z5 z6 z7 z8
                  by_cases hlt2 : j < B.length
                  · obtain ⟨bC,oC,rfl,hbC,c0,c1,c2,c3⟩:=bx_cells (HS2.out.below hB2) (List.getElem?_eq_getElem hlt2)
                    have D2:=Lib.hid (List.drop_eq_getElem_cons hlt2)
                    generalize B[j] = bb at *
                    obtain ⟨x,X,y,Y⟩:=bb
                    dsimp only at c0 c1 c2 c3
                    have i1 : (j : Int) < (B.length : Int):=by omega
                    have FE:=Lib.hid (show R = if bxE (x,X,y,Y) = 0 then eachF bxE (j + 1) (B.drop (j + 1)) else ((j : Int),bxE (x,X,y,Y)) by rw [hf.out,D2.out,eachF])
                    have RBc:=Lib.hid (fun W => rBoxErr_c x X y Y W)
                    generalize bxE (x,X,y,Y) = r at *
                    by_cases hr : r = 0
                    · have e5 : (r != 0) = false:=bneF hr
                      have HR:=Lib.hid (FE.out.trans (if_pos hr))
                      clear FE hr
                      go_wp2_with (first | (go_at_call 70;(with_reducible refine (RBc.out _).mono ?_);rintro e w4 ⟨rfl,hb4⟩;have hz4:=hb4.size;(try simp at hz4)) | fail)
                      go_roundw
                      case rel => exact ⟨j + 1,by omega,by go_num,HR.out,by exact bX1 hb4,by exact bB2 hb4 hB2⟩
                      case measure => simp [intOf];omega
                    · have e5 : (r != 0) = true:=bneT hr
                      have HR:=Lib.hid (FE.out.trans (if_neg hr))
                      clear FE hr
                      go_wp2_with (first | (go_at_call 70;(with_reducible refine (RBc.out _).mono ?_);rintro e w4 ⟨rfl,hb4⟩;have hz4:=hb4.size;(try simp at hz4)) | fail)
                      go_ret2
                      exact ⟨ret_ii (by rw [HR.out]) (by rw [HR.out]),by exact bB2 hb4 hB2⟩
                  · have HR:=Lib.hid (show R = (0,0) by rw [hf.out,List.drop_eq_nil_of_le (by omega)];rfl)
                    go_wp2_with fail
                    go_ret2
                    exact ⟨ret_ii (by rw [HR.out]) (by rw [HR.out]),by exact bB1 hB2⟩
  · have e1 : (fe != 0) = true:=bneT hf
    have HR:=Lib.hid (show R = (0,fe) by
      have h0 : E0 = fe:=by rw [H0.out,fstE_cons,if_neg hf]
      rw [HP.out,h0,if_pos hf])
    clear H0 HP hf
    go_enter Tryz.func60,Tryz.ntmps60
    go_wp2_with (first | (go_at_call 70;(with_reducible refine (BEc.out _).mono ?_);rintro e w2 ⟨rfl,hb2⟩;have hz2 : w.heap.size < w2.heap.size:=(by have:=hb2.size;(try simp at this);omega);have y2 : Box w2 w.heap.size 30 #[.int .i64 bx,.int .i64 bY,.int .i64 sl,.slice AL L.length cL,.int .i64 fx,.int .i64 fX,.int .i64 fy,.int .i64 fY,.slice AB B.length cB]:=(by exact bX1 hb2);have p0:=y2.cell 0;have p1:=y2.cell 1;have p2:=y2.cell 2;have p3:=y2.cell 3;have p4:=y2.cell 4;have p5:=y2.cell 5;have p6:=y2.cell 6;have p7:=y2.cell 7;have p8:=y2.cell 8;(simp at p0 p1 p2 p3 p4 p5 p6 p7 p8);have l2:=y2.lt) | fail)
    go_ret2;exact ⟨ret_ii (by rw [HR.out]) (by rw [HR.out]),by exact bB1 hb2⟩
set_option maxHeartbeats 1000000 in
theorem rSceneErr_c (bx bY sl fx fX fy fY : Int) (L : List Lk) (B : List Bx) (AL AB : Option Addr) (cL cB : Nat) (w : World) (hL : L.length ≤ 100000) (hB : B.length ≤ 100000) (hs1 : SlV w AL (L.flatMap lkV)) (hs2 : SlV w AB (B.flatMap bxV)) :
    Calls Tryz.prog 105 #[.agg #[.int .i64 bx,.int .i64 bY,.int .i64 sl,.slice AL L.length cL,.int .i64 fx,.int .i64 fX,.int .i64 fy,.int .i64 fY,.slice AB B.length cB]] w fun e w' => e = .returned (.int .i64 (scE (⟨bx,bY,sl,L,(fx,fX,fy,fY),B⟩ : Sc))) ∧ Below w.heap.size w w':=by
  have CSc:=Lib.hid (fun W (h : Below w.heap.size w W) => rCheckScene_c bx bY sl fx fX fy fY L B AL AB cL cB W hL hB (hs1.below h) (hs2.below h))
  have HE:=Lib.hid (show scE (⟨bx,bY,sl,L,(fx,fX,fy,fY),B⟩ : Sc) = (scP (⟨bx,bY,sl,L,(fx,fX,fy,fY),B⟩ : Sc)).2 from rfl)
  clear hs1 hs2
  generalize scE (⟨bx,bY,sl,L,(fx,fX,fy,fY),B⟩ : Sc) = R at *
  generalize scP (⟨bx,bY,sl,L,(fx,fX,fy,fY),B⟩ : Sc) = P at *
  obtain ⟨P1,P2⟩:=P
  dsimp only at CSc
  go_enter Tryz.func105,Tryz.ntmps105
  go_wp2_with (first | (go_at_call 60;(with_reducible refine (CSc.out _ (by exact bB0)).mono ?_);rintro e w2 ⟨rfl,hb2⟩) | fail)
  go_ret
  exact ⟨ret_i HE.out.symm,by exact bB1 hb2⟩
/-- The error of a pose of a valid scene. -/
def ownE (s : Sc) (p : Ps) : Int:=fstE [unl (inB p.1 0 s.sl) 2,unl (p.2.length == s.L.length) 10,unl (qsOk s.L p.2) 2]
theorem cpE_own (s : Sc) (p : Ps) : cpE s p = if scE s ≠ 0 then scE s else ownE s p:=by
  unfold cpE ownE psE
  generalize scE s = e
  by_cases h : e = 0
  · subst h
    cases inB p.1 0 s.sl <;> cases (p.2.length == s.L.length) <;> cases qsOk s.L p.2 <;> simp [fstE,unl]
  · simp [fstE,h]
set_option maxHeartbeats 2000000 in
set_option maxRecDepth 100000 in
theorem own_c (bx bY sl fx fX fy fY ps : Int) (L : List Lk) (B : List Bx) (Q : List Int) (AL AB AQ : Option Addr) (cL cB cQ : Nat) (w : World) (hL : L.length ≤ 100000) (hQ : Q.length ≤ 100000) (hs1 : SlV w AL (L.flatMap lkV)) (hs3 : SlI w AQ Q) :
    Calls Tryz.prog 111 #[.agg #[.int .i64 bx,.int .i64 bY,.int .i64 sl,.slice AL L.length cL,.int .i64 fx,.int .i64 fX,.int .i64 fy,.int .i64 fY,.slice AB B.length cB],.agg #[.int .i64 ps,.slice AQ Q.length cQ]] w fun e w' => e = .returned (.int .i64 (ownE (⟨bx,bY,sl,L,(fx,fX,fy,fY),B⟩ : Sc) (ps,Q))) ∧ Below w.heap.size w w':=by
  have HE:=Lib.hid (show ownE (⟨bx,bY,sl,L,(fx,fX,fy,fY),B⟩ : Sc) (ps,Q) = fstE [unl (inB ps 0 sl) 2,unl (Q.length == L.length) 10,unl (qsOk L Q) 2] from rfl)
  have HS1:=Lib.hid hs1
  have HS3:=Lib.hid hs3
  clear hs1 hs3
  generalize ownE (⟨bx,bY,sl,L,(fx,fX,fy,fY),B⟩ : Sc) (ps,Q) = R at *
  cases g1 : inB ps 0 sl
  · have HR:=Lib.hid (show R = 2 by rw [HE.out,g1];rfl)
    clear HE
    go_enter Tryz.func111,Tryz.ntmps111
    go_wp2_with (first | (go_at_call 40;(with_reducible refine (within_b _ _ _ _).mono ?_);rintro e w' ⟨rfl,rfl⟩) | fail)
    go_ret
    exact ⟨ret_i HR.out.symm,by exact bB0⟩
  · by_cases hl : Q.length = L.length
    · have e1 : ((Q.length : Int) != (L.length : Int)) = false:=bneF (by omega)
      have HE2:=Lib.hid (show R = unl (qsOk L Q) 2 by rw [HE.out,g1,hl];cases qsOk L Q <;> simp [fstE,unl])
      have HLn:=Lib.hid hl
      have hle : Q.length ≤ L.length:=by omega
      clear HE hl
      go_enter Tryz.func111,Tryz.ntmps111
      go_wp2_with (first | (go_at_call 40;(with_reducible refine (within_b _ _ _ _).mono ?_);rintro e w' ⟨rfl,rfl⟩) | fail)
      go_loopw [5] (fun i wr => ∃ k : Nat,k ≤ Q.length ∧ i = .int .i64 k ∧ Hid (R = unl (qsOk (L.drop k) (Q.drop k)) 2) ∧ Box wr w.heap.size 30 #[.int .i64 bx,.int .i64 bY,.int .i64 sl,.slice AL L.length cL,.int .i64 fx,.int .i64 fX,.int .i64 fy,.int .i64 fY,.slice AB B.length cB] ∧ Box wr (w.heap.size + 1) 33 #[.int .i64 ps,.slice AQ Q.length cQ] ∧ Below w.heap.size w wr) (fun i _ => Q.length - (intOf i).toNat)
      case atStart => exact ⟨0,Nat.zero_le _,rfl,HE2.out,by exact bX0,by exact bX0,by exact bB0⟩
      case round =>
        obtain ⟨k,hk,rfl,hf,hH,hP,hB⟩:=hrel
        clear HE2
        have u3:=hH.cell 3
        have v1:=hP.cell 1
        have lH:=hH.lt;have lP:=hP.lt
        simp at u3 v1
        by_cases hlt : k < Q.length
        · have hkL : k < L.length:=by omega
          obtain ⟨bC,oC,rfl,hbC,c0,c1,c2⟩:=lk_cells (HS1.out.below hB) (List.getElem?_eq_getElem hkL)
          obtain ⟨bQ,oQ,rfl,hbQ,d0⟩:=(HS3.out.below hB) k Q[k] (List.getElem?_eq_getElem hlt)
          have D1:=Lib.hid (List.drop_eq_getElem_cons hlt)
          have D2:=Lib.hid (List.drop_eq_getElem_cons hkL)
          generalize L[k] = lk at *
          generalize Q[k] = q at *
          obtain ⟨n,lo,hi⟩:=lk
          dsimp only at c0 c1 c2
          have i1 : (k : Int) < (L.length : Int):=by omega
          have i2 : (k : Int) < (Q.length : Int):=by omega
          have FE:=Lib.hid (show R = unl (inB q lo hi && qsOk (L.drop (k + 1)) (Q.drop (k + 1))) 2 by rw [hf.out,D1.out,D2.out];rfl)
          cases g2 : inB q lo hi
          · have HR:=Lib.hid (show R = 2 by rw [FE.out,g2];rfl)
            clear FE
            go_wp2
            go_quiet ((go_at_call 40;exact Calls.quiet_of_same ((within_b _ _ _ _).mono fun _ _ h => ⟨h.1,h.2.symm⟩)))
            go_wp2
            go_ret
            exact ⟨ret_i HR.out.symm,by exact bB1 hB⟩
          · have HR:=Lib.hid (show R = unl (qsOk (L.drop (k + 1)) (Q.drop (k + 1))) 2 by rw [FE.out,g2,Bool.true_and])
            clear FE
            go_wp2
            go_quiet ((go_at_call 40;exact Calls.quiet_of_same ((within_b _ _ _ _).mono fun _ _ h => ⟨h.1,h.2.symm⟩)))
            go_wp2
            go_roundw
            case rel => exact ⟨k + 1,by omega,by go_num,HR.out,by exact bX0,by exact bX0,by exact bB1 hB⟩
            case measure => simp [intOf];omega
        · have HR:=Lib.hid (show R = 0 by rw [hf.out,List.drop_eq_nil_of_le (show Q.length ≤ k by omega)];cases L.drop k <;> rfl)
          go_wp2_with fail
          go_ret
          exact ⟨ret_i HR.out.symm,by exact bB1 hB⟩
    · have e1 : ((Q.length : Int) != (L.length : Int)) = true:=bneT (by omega)
      have HR:=Lib.hid (show R = 10 by rw [HE.out,g1];simp [fstE,unl,hl])
      clear HE hl
      go_enter Tryz.func111,Tryz.ntmps111
      go_wp2_with (first | (go_at_call 40;(with_reducible refine (within_b _ _ _ _).mono ?_);rintro e w' ⟨rfl,rfl⟩) | fail)
      go_ret
      exact ⟨ret_i HR.out.symm,by exact bB0⟩
set_option maxHeartbeats 1000000 in
theorem rPoseErr_c (bx bY sl fx fX fy fY ps : Int) (L : List Lk) (B : List Bx) (Q : List Int) (AL AB AQ : Option Addr) (cL cB cQ : Nat) (w : World) (hL : L.length ≤ 100000) (hB : B.length ≤ 100000) (hQ : Q.length ≤ 100000) (hs1 : SlV w AL (L.flatMap lkV)) (hs2 : SlV w AB (B.flatMap bxV)) (hs3 : SlI w AQ Q) :
    Calls Tryz.prog 36 #[.agg #[.int .i64 bx,.int .i64 bY,.int .i64 sl,.slice AL L.length cL,.int .i64 fx,.int .i64 fX,.int .i64 fy,.int .i64 fY,.slice AB B.length cB],.agg #[.int .i64 ps,.slice AQ Q.length cQ]] w fun e w' => e = .returned (.int .i64 (cpE (⟨bx,bY,sl,L,(fx,fX,fy,fY),B⟩ : Sc) (ps,Q))) ∧ Below w.heap.size w w':=by
  have SEc:=Lib.hid (fun W (h : Below w.heap.size w W) => rSceneErr_c bx bY sl fx fX fy fY L B AL AB cL cB W hL hB (hs1.below h) (hs2.below h))
  have OWc:=Lib.hid (fun W (h : Below w.heap.size w W) => own_c bx bY sl fx fX fy fY ps L B Q AL AB AQ cL cB cQ W hL hQ (hs1.below h) (hs3.below h))
  have HE:=Lib.hid (cpE_own (⟨bx,bY,sl,L,(fx,fX,fy,fY),B⟩ : Sc) (ps,Q))
  clear hs1 hs2 hs3
  generalize cpE (⟨bx,bY,sl,L,(fx,fX,fy,fY),B⟩ : Sc) (ps,Q) = R at *
  generalize scE (⟨bx,bY,sl,L,(fx,fX,fy,fY),B⟩ : Sc) = e1 at *
  generalize ownE (⟨bx,bY,sl,L,(fx,fX,fy,fY),B⟩ : Sc) (ps,Q) = e2 at *
  by_cases h : e1 = 0
  · have g : (e1 != 0) = false:=bneF h
    have HR:=Lib.hid (show R = e2 by rw [HE.out,if_neg (by simp [h])])
    clear HE h
    go_enter Tryz.func36,Tryz.ntmps36
    go_wp2_with (first | (go_at_call 105;(with_reducible refine (SEc.out _ (by exact bB0)).mono ?_);rintro e w2 ⟨rfl,hb2⟩;have hz2 : w.heap.size + 1 < w2.heap.size:=(by have:=hb2.size;(try simp at this);omega);have y2 : Box w2 w.heap.size 30 #[.int .i64 bx,.int .i64 bY,.int .i64 sl,.slice AL L.length cL,.int .i64 fx,.int .i64 fX,.int .i64 fy,.int .i64 fY,.slice AB B.length cB]:=(by exact bX1 hb2);have x2 : Box w2 (w.heap.size + 1) 33 #[.int .i64 ps,.slice AQ Q.length cQ]:=(by exact bX1 hb2);have p0:=y2.cell 0;have p1:=y2.cell 1;have p2:=y2.cell 2;have p3:=y2.cell 3;have p4:=y2.cell 4;have p5:=y2.cell 5;have p6:=y2.cell 6;have p7:=y2.cell 7;have p8:=y2.cell 8;have q0:=x2.cell 0;have q1:=x2.cell 1;(simp at p0 p1 p2 p3 p4 p5 p6 p7 p8 q0 q1);have l2:=y2.lt;have l3:=x2.lt) | (go_at_call 111;(with_reducible refine (OWc.out _ (by exact bB1 hb2)).mono ?_);rintro e w3 ⟨rfl,hb3⟩) | fail)
    go_ret
    exact ⟨ret_i HR.out.symm,by exact bB2 hb2 hb3⟩
  · have g : (e1 != 0) = true:=bneT h
    have HR:=Lib.hid (show R = e1 by rw [HE.out,if_pos h])
    clear HE h
    go_enter Tryz.func36,Tryz.ntmps36
    go_wp2_with (first | (go_at_call 105;(with_reducible refine (SEc.out _ (by exact bB0)).mono ?_);rintro e w2 ⟨rfl,hb2⟩;have hz2 : w.heap.size + 1 < w2.heap.size:=(by have:=hb2.size;(try simp at this);omega);have y2 : Box w2 w.heap.size 30 #[.int .i64 bx,.int .i64 bY,.int .i64 sl,.slice AL L.length cL,.int .i64 fx,.int .i64 fX,.int .i64 fy,.int .i64 fY,.slice AB B.length cB]:=(by exact bX1 hb2);have x2 : Box w2 (w.heap.size + 1) 33 #[.int .i64 ps,.slice AQ Q.length cQ]:=(by exact bX1 hb2);have p0:=y2.cell 0;have p1:=y2.cell 1;have p2:=y2.cell 2;have p3:=y2.cell 3;have p4:=y2.cell 4;have p5:=y2.cell 5;have p6:=y2.cell 6;have p7:=y2.cell 7;have p8:=y2.cell 8;have q0:=x2.cell 0;have q1:=x2.cell 1;(simp at p0 p1 p2 p3 p4 p5 p6 p7 p8 q0 q1);have l2:=y2.lt;have l3:=x2.lt) | fail)
    go_ret
    exact ⟨ret_i HR.out.symm,by exact bB1 hb2⟩
end Go.Proofs.YtpnfgmgoafgcbaaGreat

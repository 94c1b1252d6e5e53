/-
  The texts Hd5, Hd6 in one.
-/
import Derived.Test.YtpnfgmgoafgcbaaGreatA13
set_option linter.all false
/-
  Holds (chapter 6): held, whole; HoldOf.
-/
set_option linter.unusedVariables false
namespace Go.Proofs.YtpnfgmgoafgcbaaGreat
open Go.RowKit
attribute [local go_sem] Oper.semAt_some
attribute [local go_sem ↓] run_neqPairs
set_option maxHeartbeats 4000000 in
set_option maxRecDepth 100000 in
theorem hout_c (g3 g8 : Nat) (C C' : List Ct) (AC AF : Option Addr) (cC cF : Nat) (fn fd l0 l1 l2 b0 b1 b2 px py nx ny m : Int) (pre : List (Int × Int)) (w : World) (R : Option (List (Int × Int))) (PQ : Exit → Act → World → Prop)
    (hf : 0 ≤ fn ∧ fn ≤ 10) (hd : 0 ≤ fd ∧ fd ≤ 10) (hb : (-10000 ≤ b0 ∧ b0 ≤ 10000) ∧ (-10000 ≤ b1 ∧ b1 ≤ 10000) ∧ (-10000 ≤ b2 ∧ b2 ≤ 10000)) (hm : 0 ≤ m ∧ m ≤ 6) (hx : -1 ≤ nx ∧ nx ≤ 1) (hy : -1 ≤ ny ∧ ny ≤ 1) (hp : -5 ≤ px ∧ px ≤ 5) (hq : -5 ≤ py ∧ py ≤ 5)
    (hpl : pre.length ≤ 1000) (hcF : pre.length ≤ cF ∧ cF ≤ 9223372036854775807) (hAF : AF = none → pre.length = 0 ∧ cF = 0) (hsF : SlV w AF (pre.flatMap ceV))
    (IH : ∀ (n t : Int) (AF' : Option Addr) (cF' : Nat) (W : World),0 ≤ n ∧ n ≤ 6 → -6 ≤ t ∧ t ≤ 6 → Below w.heap.size w W → SlV W AF' ((pre ++ [(n,t)]).flatMap ceV) → AF' ≠ none → pre.length + 1 ≤ cF' → cF' ≤ 9223372036854775807 →
      Calls Tryz.prog 101 #[.agg #[.slice AC C.length cC,.int .i64 fn,.int .i64 fd,.int .i64 l0,.int .i64 l1,.int .i64 l2],.agg #[.int .i64 (afP (b0,b1,b2) ((px,py),(nx,ny),m) n t).1,.int .i64 (afP (b0,b1,b2) ((px,py),(nx,ny),m) n t).2.1,.int .i64 (afP (b0,b1,b2) ((px,py),(nx,ny),m) n t).2.2],.slice AF' (pre.length + 1) cF'] W (HeEnd W (pre ++ [(n,t)]) (heP fn fd C' (afP (b0,b1,b2) ((px,py),(nx,ny),m) n t))))
    (hQ1 : R = none → ∀ (W : World) (n : Int) (t0 t1 t5 t6 t9 t10 t11 t12 t13 t14 t15 t16 t17 t18 t19 t20 t21 t22 t23 t24 t25 t26 t27 t28 t29 t32 t33 t34 t35 t36 t37 t38 t39 t40 t41 t42 t43 t44 t45 t46 t47 t48 t49 t50 t51 t52 t53 t54 t55 t56 t57 t58 t59 t60 t61 t62 t63 t64 t65 t66 : Value),HW w g3 g8 #[.slice AC C.length cC,.int .i64 fn,.int .i64 fd,.int .i64 l0,.int .i64 l1,.int .i64 l2] #[.int .i64 b0,.int .i64 b1,.int .i64 b2] #[.int .i64 px,.int .i64 py,.int .i64 nx,.int .i64 ny,.int .i64 m] W → PQ (.exit 0) ⟨#[t0,t1,Value.slice AF pre.length cF,Value.pointer (some ⟨g3,0,none⟩),Value.pointer (some ⟨g3 + 1,0,none⟩),t5,t6,Value.int .i64 (pre.length : Int),Value.pointer (some ⟨g8,0,none⟩),t9,t10,t11,t12,t13,t14,t15,t16,t17,t18,t19,t20,t21,t22,t23,t24,t25,t26,t27,t28,t29,Value.int .i64 (m + 1),Value.int .i64 n,t32,t33,t34,t35,t36,t37,t38,t39,t40,t41,t42,t43,t44,t45,t46,t47,t48,t49,t50,t51,t52,t53,t54,t55,t56,t57,t58,t59,t60,t61,t62,t63,t64,t65,t66],[]⟩ W)
    (hQ2 : ∀ L,R = some L → ∀ (W : World) (A : Option Addr) (c : Nat) (t0 t1 t2 t3 t4 t5 t7 t8 t9 t10 t11 t12 t13 t14 t15 t16 t17 t18 t19 t20 t21 t22 t23 t24 t25 t26 t27 t28 t29 t30 t31 t32 t33 t34 t35 t36 t37 t38 t39 t40 t41 t42 t43 t44 t45 t46 t47 t48 t49 t50 t51 t52 t53 t54 t55 t56 t57 t58 t59 t60 t61 t62 t63 t64 t65 t66 : Value),A ≠ none → SlV W A ((pre ++ L).flatMap ceV) → Below w.heap.size w W → PQ .ret ⟨#[t0,t1,t2,t3,t4,t5,Value.slice A (pre.length + L.length) c,t7,t8,t9,t10,t11,t12,t13,t14,t15,t16,t17,t18,t19,t20,t21,t22,t23,t24,t25,t26,t27,t28,t29,t30,t31,t32,t33,t34,t35,t36,t37,t38,t39,t40,t41,t42,t43,t44,t45,t46,t47,t48,t49,t50,t51,t52,t53,t54,t55,t56,t57,t58,t59,t60,t61,t62,t63,t64,t65,t66],[]⟩ W) :
    ∀ (k : Nat) (n : Int) (W : World) (t0 t1 t5 t6 t9 t10 t11 t12 t13 t14 t15 t16 t17 t18 t19 t20 t21 t22 t23 t24 t25 t26 t27 t28 t29 t32 t33 t34 t35 t36 t37 t38 t39 t40 t41 t42 t43 t44 t45 t46 t47 t48 t49 t50 t51 t52 t53 t54 t55 t56 t57 t58 t59 t60 t61 t62 t63 t64 t65 t66 : Value),n + k = m + 1 → 0 ≤ n → HW w g3 g8 #[.slice AC C.length cC,.int .i64 fn,.int .i64 fd,.int .i64 l0,.int .i64 l1,.int .i64 l2] #[.int .i64 b0,.int .i64 b1,.int .i64 b2] #[.int .i64 px,.int .i64 py,.int .i64 nx,.int .i64 ny,.int .i64 m] W →
      frF (fun n => frF (fun t => if stB fn fd m n t then (heP fn fd C' (afP (b0,b1,b2) ((px,py),(nx,ny),m) n t)).map fun L => (n,t) :: L else none) (2 * m.toNat + 1) (-m)) k n = R →
      Code.rounds Tryz.prog hLoop1 PQ (k + 1) ⟨#[t0,t1,Value.slice AF pre.length cF,Value.pointer (some ⟨g3,0,none⟩),Value.pointer (some ⟨g3 + 1,0,none⟩),t5,t6,Value.int .i64 (pre.length : Int),Value.pointer (some ⟨g8,0,none⟩),t9,t10,t11,t12,t13,t14,t15,t16,t17,t18,t19,t20,t21,t22,t23,t24,t25,t26,t27,t28,t29,Value.int .i64 (m + 1),Value.int .i64 n,t32,t33,t34,t35,t36,t37,t38,t39,t40,t41,t42,t43,t44,t45,t46,t47,t48,t49,t50,t51,t52,t53,t54,t55,t56,t57,t58,t59,t60,t61,t62,t63,t64,t65,t66],[]⟩ W:=by
  intro k
  induction k with
  | zero =>
    intro n W t0 t1 t5 t6 t9 t10 t11 t12 t13 t14 t15 t16 t17 t18 t19 t20 t21 t22 t23 t24 t25 t26 t27 t28 t29 t32 t33 t34 t35 t36 t37 t38 t39 t40 t41 t42 t43 t44 t45 t46 t47 t48 t49 t50 t51 t52 t53 t54 t55 t56 t57 t58 t59 t60 t61 t62 t63 t64 t65 t66 ht hmt hW hR
    rw [rounds_succ]
    unfold hLoop1
    conv => arg 2;whnf
    have hR0 : R = none:=hR.symm
    have HQ:=Lib.hid (hQ1 hR0)
    have HWh:=Lib.hid hW
    have hle : decide (n < m + 1) = false:=decide_eq_false (by omega)
    clear hQ1 hQ2 hR hR0 hW IH
    go_wp2
    exact HQ.out _ _ _ _ _ _ _ _ _ _ _ _ _ _ _ _ _ _ _ _ _ _ _ _ _ _ _ _ _ _ _ _ _ _ _ _ _ _ _ _ _ _ _ _ _ _ _ _ _ _ _ _ _ _ _ _ _ _ _ _ _ _ HWh.out
  | succ k ih =>
    intro n W t0 t1 t5 t6 t9 t10 t11 t12 t13 t14 t15 t16 t17 t18 t19 t20 t21 t22 t23 t24 t25 t26 t27 t28 t29 t32 t33 t34 t35 t36 t37 t38 t39 t40 t41 t42 t43 t44 t45 t46 t47 t48 t49 t50 t51 t52 t53 t54 t55 t56 t57 t58 t59 t60 t61 t62 t63 t64 t65 t66 ht hmt hW hR
    rw [rounds_succ]
    unfold hLoop1
    conv => arg 2;whnf
    have c4:=hW.b8.cell 4
    have l8:=hW.b8.lt
    simp at c4
    have hle : decide (n < m + 1) = true:=decide_eq_true (by omega)
    have hwr : IntKind.i64.wrap (n + 1) = n + 1:=IntWalk.i64_in _ (by omega)
    have hneg : IntKind.i64.wrap (-m) = -m:=IntWalk.i64_in _ (by omega)
    have HWh:=Lib.hid hW
    have HQ1:=Lib.hid hQ1
    have HQ2:=Lib.hid hQ2
    have HIH:=Lib.hid ih
    have HR:=Lib.hid hR
    clear hQ1 hQ2 hW ih hR
    go_wp2
    refine wp_loop_rounds (2 * m.toNat + 1 + 1) ?_
    refine hin_c (.int .i64 (m + 1)) (.int .i64 n) g3 g8 C C' AC AF cC cF fn fd l0 l1 l2 b0 b1 b2 px py nx ny m n pre w _ _ hf hd hb hm (by omega) hx hy hp hq hpl hcF hAF hsF ?ih ?q1 ?q2 (2 * m.toNat + 1) (-m) W _ _ _ _ _ _ _ _ _ _ _ _ _ _ _ _ _ _ _ _ _ _ _ _ _ _ _ _ _ _ _ _ _ _ _ _ _ _ _ _ _ _ _ _ _ _ _ _ _ _ _ _ _ _ _ _ _ _ (by omega) (by omega) HWh.out rfl
    case ih => exact fun t AF' cF' W h0 h1 h2 h3 h4 h5 => IH n t AF' cF' W (by omega) h0 h1 h2 h3 h4 h5
    case q1 =>
      intro hn1 W2 t2 t0 t1 t5 t6 t11 t12 t13 t14 t15 t16 t17 t18 t19 t20 t21 t22 t23 t24 t25 t26 t27 t28 t29 t32 t33 t34 t35 t36 t37 t38 t39 t40 t41 t42 t43 t44 t45 t46 t47 t48 t49 t50 t51 t52 t53 t54 t55 t56 t57 t58 t59 t60 t61 t62 t63 t64 t65 t66 hW2
      have HR2:=Lib.hid (show frF (fun n => frF (fun t => if stB fn fd m n t then (heP fn fd C' (afP (b0,b1,b2) ((px,py),(nx,ny),m) n t)).map fun L => (n,t) :: L else none) (2 * m.toNat + 1) (-m)) k (n + 1) = R by
        have:=HR.out
        rw [frF,hn1] at this
        simpa using this)
      have HW2:=Lib.hid hW2
      clear hW2 hn1
      go_wp2
      exact HIH.out (n + 1) _ _ _ _ _ _ _ _ _ _ _ _ _ _ _ _ _ _ _ _ _ _ _ _ _ _ _ _ _ _ _ _ _ _ _ _ _ _ _ _ _ _ _ _ _ _ _ _ _ _ _ _ _ _ _ _ _ _ _ _ _ (by omega) (by omega) HW2.out HR2.out
    case q2 =>
      intro L hL W2 t2 A c t0 t1 t2 t3 t4 t5 t7 t8 t9 t10 t11 t12 t13 t14 t15 t16 t17 t18 t19 t20 t21 t22 t23 t24 t25 t26 t27 t28 t29 t30 t31 t32 t33 t34 t35 t36 t37 t38 t39 t40 t41 t42 t43 t44 t45 t46 t47 t48 t49 t50 t51 t52 t53 t54 t55 t56 t57 t58 t59 t60 t61 t62 t63 t64 t65 t66 hA hv hB2
      have HR2:=Lib.hid (show R = some L by
        have:=HR.out
        rw [frF,hL] at this
        simpa using this.symm)
      have HV:=Lib.hid hv
      have HB:=Lib.hid hB2
      have HA:=Lib.hid hA
      clear hv hB2 hL hA
      go_wp2
      exact HQ2.out L HR2.out W2 A c _ _ _ _ _ _ _ _ _ _ _ _ _ _ _ _ _ _ _ _ _ _ _ _ _ _ _ _ _ _ _ _ _ _ _ _ _ _ _ _ _ _ _ _ _ _ _ _ _ _ _ _ _ _ _ _ _ _ _ _ _ _ _ _ _ _ HA.out HV.out HB.out
/-- Whether contacts are valid: their numbers. -/
def ctOk (c : Ct) : Prop:=(-5 ≤ c.1.1 ∧ c.1.1 ≤ 5) ∧ (-5 ≤ c.1.2 ∧ c.1.2 ≤ 5) ∧ (-1 ≤ c.2.1.1 ∧ c.2.1.1 ≤ 1) ∧ (-1 ≤ c.2.1.2 ∧ c.2.1.2 ≤ 1) ∧ (0 ≤ c.2.2 ∧ c.2.2 ≤ 6)
def balOk (K : Nat) (b : Int × Int × Int) : Prop:=(-(K : Int) ≤ b.1 ∧ b.1 ≤ K) ∧ (-(K : Int) ≤ b.2.1 ∧ b.2.1 ≤ K) ∧ (-(K : Int) ≤ b.2.2 ∧ b.2.2 ≤ K)
theorem afP_ok {K : Nat} {b : Int × Int × Int} {c : Ct} {n t : Int} (hb : balOk K b) (hc : ctOk c) (hn : 0 ≤ n ∧ n ≤ 6) (ht : -6 ≤ t ∧ t ≤ 6) : balOk (K + 200) (afP b c n t):=by
  obtain ⟨⟨px,py⟩,⟨nx,ny⟩,m⟩:=c
  obtain ⟨b0,b1,b2⟩:=b
  obtain ⟨hp,hq,hx,hy,hm⟩:=hc
  obtain ⟨h1,h2,h3⟩:=hb
  dsimp only at hp hq hx hy h1 h2 h3
  have m1:=mulB (a:=n) (b:=nx) 6 1 (by omega) (by omega)
  have m2:=mulB (a:=t) (b:=ny) 6 1 (by omega) (by omega)
  have m3:=mulB (a:=n) (b:=ny) 6 1 (by omega) (by omega)
  have m4:=mulB (a:=t) (b:=nx) 6 1 (by omega) (by omega)
  have m5:=mulB (a:=px) (b:=n * ny + t * nx) 5 12 (by omega) (by omega)
  have m6:=mulB (a:=py) (b:=n * nx - t * ny) 5 12 (by omega) (by omega)
  simp only [balOk,afP]
  refine ⟨?_, ?_, ?_⟩ <;> omega
def sameB (a b c x y z : Int) : Bool:=decide ((a,b,c) = (x,y,z))
theorem eql_ba (a b c x y z : Int) (w : World) : (binOp .eql 147 (.agg #[.int .i64 a,.int .i64 b,.int .i64 c]) (.agg #[.int .i64 x,.int .i64 y,.int .i64 z])).run Tryz.prog w = .ok (.bool (sameB a b c x y z)) w:=by
  have h:=run_equalIn_ints 9998 147 3 [a,b,c] [x,y,z] w Tryz.underlying147 rfl rfl
  rw [run_eql_struct,show (10000 : Nat) = 9998 + 1 + 1 from rfl]
  rw [show Value.agg #[.int .i64 a,.int .i64 b,.int .i64 c] = .agg (([a,b,c].map (Value.int .i64)).toArray) from rfl,show Value.agg #[.int .i64 x,.int .i64 y,.int .i64 z] = .agg (([x,y,z].map (Value.int .i64)).toArray) from rfl,h]
  simp [sameB]
attribute [local go_sem ↓] eql_ba
set_option maxHeartbeats 4000000 in
set_option maxRecDepth 100000 in
/-- The forces of the contacts from one on. -/
theorem held_c (C : List Ct) (AC : Option Addr) (cC : Nat) (fn fd l0 l1 l2 : Int) (hf : 0 ≤ fn ∧ fn ≤ 10) (hd : 0 ≤ fd ∧ fd ≤ 10) (hC : ∀ c ∈ C,ctOk c) (hC3 : C.length ≤ 3) (hC0 : 0 < C.length) :
    ∀ (rem done : List Ct),C = done ++ rem → ∀ (pre : List (Int × Int)) (AF : Option Addr) (cF : Nat) (b : Int × Int × Int) (w : World),pre.length = done.length → balOk (10 + 200 * done.length) b → SlV w AC (C.flatMap ctV) → pre.length ≤ cF ∧ cF ≤ 9223372036854775807 → (AF = none → pre.length = 0 ∧ cF = 0) → SlV w AF (pre.flatMap ceV) →
      Calls Tryz.prog 101 #[.agg #[.slice AC C.length cC,.int .i64 fn,.int .i64 fd,.int .i64 l0,.int .i64 l1,.int .i64 l2],.agg #[.int .i64 b.1,.int .i64 b.2.1,.int .i64 b.2.2],.slice AF pre.length cF] w (HeEnd w pre (heP fn fd rem b)):=by
  intro rem
  induction rem with
  | nil =>
    intro done hCd pre AF cF b w hpl hb hs hcF hAF hsF
    obtain ⟨b0,b1,b2⟩:=b
    have hlen : pre.length = C.length:=by rw [hCd];simpa using hpl
    have hb1 : decide ((pre.length : Int) = (C.length : Int)) = true:=decide_eq_true (by omega)
    have hb2 : ((pre.length : Int) == (C.length : Int)) = true:=beqT (by omega)
    have hb3 : decide (pre.length = C.length) = true:=decide_eq_true hlen
    have hA : AF ≠ none:=fun e => by have:=(hAF e).1;omega
    have HP:=Lib.hid (show heP fn fd [] (b0,b1,b2) = if (b0,b1,b2) = ((0 : Int),(0 : Int),(0 : Int)) then some [] else none from rfl)
    generalize heP fn fd [] (b0,b1,b2) = R at *
    have HSF:=Lib.hid hsF
    have HA:=Lib.hid hA
    clear hsF hA hAF hs hlen hpl hCd hb1 hb3
    go_enter Tryz.func101,Tryz.ntmps101
    cases hsb : sameB b0 b1 b2 0 0 0
    · have hR : R = none:=by rw [HP.out];simp [sameB] at hsb;simp;exact hsb
      have HR:=Lib.hid hR
      clear hR HP
      go_wp2
      go_ret
      rw [HR.out]
      exact ⟨by exact bB0,rfl⟩
    · have hR : R = some []:=by rw [HP.out];simp [sameB] at hsb;simp;exact hsb
      have HR:=Lib.hid hR
      clear hR HP
      go_wp2
      go_ret
      rw [HR.out]
      have hB : Below w.heap.size w ((w.alloc (.cells #[.slice AC C.length cC,.int .i64 fn,.int .i64 fd,.int .i64 l0,.int .i64 l1,.int .i64 l2] 53)).alloc (.cells #[.int .i64 b0,.int .i64 b1,.int .i64 b2] 147)):=by exact bB0
      exact ⟨by exact bB0,AF,cF,HA.out,rfl,by simpa using HSF.out.below hB⟩
  | cons c rem ih =>
    intro done hCd pre AF cF b w hpl hb hs hcF hAF hsF
    obtain ⟨b0,b1,b2⟩:=b
    obtain ⟨⟨px,py⟩,⟨nx,ny⟩,m⟩:=c
    have hcl : C.length = done.length + (rem.length + 1):=by rw [hCd];simp
    have hck : C[pre.length]? = some ((px,py),(nx,ny),m):=by rw [hCd,hpl];simp
    have hco:=hC _ (List.mem_of_getElem? hck)
    obtain ⟨hp,hq,hx,hy,hm⟩:=hco
    dsimp only at hp hq hx hy hm
    have hb1 : decide ((pre.length : Int) = (C.length : Int)) = false:=decide_eq_false (by omega)
    have hb2 : ((pre.length : Int) == (C.length : Int)) = false:=beqF (by omega)
    obtain ⟨bC,off,hAC,hbC,a0,a1,a2,a3,a4⟩:=ct_cells hs hck
    subst hAC
    have hi0 : 0 ≤ (pre.length : Int):=by omega
    have hi1 : (pre.length : Int) < (C.length : Int):=by omega
    have hwr : IntKind.i64.wrap (m + 1) = m + 1:=IntWalk.i64_in _ (by obtain ⟨_,_⟩:=hm;omega)
    have hbk : balOk 1000 (b0,b1,b2):=by
      obtain ⟨x1,x2,x3⟩:=hb
      simp only [balOk] at x1 x2 x3 ⊢
      refine ⟨?_, ?_, ?_⟩ <;> omega
    have hpl3 : pre.length ≤ 3:=by omega
    have HCd:=Lib.hid hCd
    have HPl:=Lib.hid hpl
    have HB:=Lib.hid hb
    have HS:=Lib.hid hs
    have HSF:=Lib.hid hsF
    have HAF:=Lib.hid hAF
    have HIH:=Lib.hid ih
    have HR:=Lib.hid (show heP fn fd (((px,py),(nx,ny),m) :: rem) (b0,b1,b2) = frF (fun n => frF (fun t => if stB fn fd m n t then (heP fn fd rem (afP (b0,b1,b2) ((px,py),(nx,ny),m) n t)).map fun L => (n,t) :: L else none) (2 * m.toNat + 1) (-m)) (m.toNat + 1) 0 from rfl)
    generalize heP fn fd (((px,py),(nx,ny),m) :: rem) (b0,b1,b2) = R at *
    clear hCd hpl hb hs hsF hAF ih hcl hck hb1
    go_enter Tryz.func101,Tryz.ntmps101
    go_wp2
    obtain ⟨W1,hW1⟩ : ∃ W1 : World,W1 = ((w.alloc (.cells #[.slice (some ⟨bC,off,none⟩) C.length cC,.int .i64 fn,.int .i64 fd,.int .i64 l0,.int .i64 l1,.int .i64 l2] 53)).alloc (.cells #[.int .i64 b0,.int .i64 b1,.int .i64 b2] 147)).alloc (.cells #[.int .i64 px,.int .i64 py,.int .i64 nx,.int .i64 ny,.int .i64 m] 69):=⟨_,rfl⟩
    have B1 : Below w.heap.size w W1:=by rw [hW1];exact bB0
    have hW : HW w w.heap.size (w.heap.size + 1 + 1) #[.slice (some ⟨bC,off,none⟩) C.length cC,.int .i64 fn,.int .i64 fd,.int .i64 l0,.int .i64 l1,.int .i64 l2] #[.int .i64 b0,.int .i64 b1,.int .i64 b2] #[.int .i64 px,.int .i64 py,.int .i64 nx,.int .i64 ny,.int .i64 m] W1:=⟨by rw [hW1];exact bX0,by rw [hW1];exact bX0,by rw [hW1];exact bX0,B1⟩
    rw [← hW1]
    clear hW1
    refine wp_loop_rounds (m.toNat + 1 + 1) ?_
    refine hout_c w.heap.size (w.heap.size + 1 + 1) C rem (some ⟨bC,off,none⟩) AF cC cF fn fd l0 l1 l2 b0 b1 b2 px py nx ny m pre w R _ hf hd (by obtain ⟨x1,x2,x3⟩:=hbk;dsimp only at x1 x2 x3;refine ⟨?_, ?_, ?_⟩ <;> omega) hm hx hy hp hq (by omega) hcF HAF.out HSF.out ?ih ?q1 ?q2 (m.toNat + 1) 0 W1 _ _ _ _ _ _ _ _ _ _ _ _ _ _ _ _ _ _ _ _ _ _ _ _ _ _ _ _ _ _ _ _ _ _ _ _ _ _ _ _ _ _ _ _ _ _ _ _ _ _ _ _ _ _ _ _ _ _ _ _ (by omega) (by omega) hW HR.out.symm
    case ih =>
      intro n t AF' cF' W hn ht hBW hv hA h1 h2
      have e : (pre ++ [(n,t)]).length = pre.length + 1:=by simp
      have:=HIH.out (done ++ [((px,py),(nx,ny),m)]) (by rw [HCd.out];simp) (pre ++ [(n,t)]) AF' cF' (afP (b0,b1,b2) ((px,py),(nx,ny),m) n t) W (by simp [HPl.out]) ?_ (HS.out.below hBW) (by rw [e];exact ⟨h1,h2⟩) (fun h => absurd h hA) hv
      · rw [e] at this
        exact this
      · have k:=afP_ok HB.out (c:=((px,py),(nx,ny),m)) ⟨hp,hq,hx,hy,hm⟩ hn ht
        rw [List.length_append]
        exact k
    case q1 =>
      intro hR0 W n t0 t1 t5 t6 t9 t10 t11 t12 t13 t14 t15 t16 t17 t18 t19 t20 t21 t22 t23 t24 t25 t26 t27 t28 t29 t32 t33 t34 t35 t36 t37 t38 t39 t40 t41 t42 t43 t44 t45 t46 t47 t48 t49 t50 t51 t52 t53 t54 t55 t56 t57 t58 t59 t60 t61 t62 t63 t64 t65 t66 hW5
      have HB5:=Lib.hid hW5.below
      have HR0:=Lib.hid hR0
      clear hW5 hR0 hW B1
      go_wp2
      go_ret
      rw [HR0.out]
      exact ⟨HB5.out,rfl⟩
    case q2 =>
      intro L hL W A c t0 t1 t2 t3 t4 t5 t7 t8 t9 t10 t11 t12 t13 t14 t15 t16 t17 t18 t19 t20 t21 t22 t23 t24 t25 t26 t27 t28 t29 t30 t31 t32 t33 t34 t35 t36 t37 t38 t39 t40 t41 t42 t43 t44 t45 t46 t47 t48 t49 t50 t51 t52 t53 t54 t55 t56 t57 t58 t59 t60 t61 t62 t63 t64 t65 t66 hA hv hB5
      have HR0:=Lib.hid hL
      have HV:=Lib.hid hv
      have HB5:=Lib.hid hB5
      have HA:=Lib.hid hA
      clear hL hv hB5 hA hW B1
      go_wp2
      go_ret
      rw [HR0.out]
      exact ⟨HB5.out,A,c,HA.out,rfl,HV.out⟩
end Go.Proofs.YtpnfgmgoafgcbaaGreat
/-
  Holds (chapter 6): HoldOf.
-/
set_option linter.unusedVariables false
namespace Go.Proofs.YtpnfgmgoafgcbaaGreat
open Go.RowKit
attribute [local go_sem] Oper.semAt_some
attribute [local go_sem ↓] run_neqPairs
/-- What holds of a valid hold. -/
structure HOk (h : Hd) : Prop where
  len : 1 ≤ h.C.length ∧ h.C.length ≤ 3
  ct : ∀ c ∈ h.C,ctOk c
  fn : 0 ≤ h.fn ∧ h.fn ≤ 10
  fd : 1 ≤ h.fd ∧ h.fd ≤ 10
  l : balOk 6 h.l
theorem ctE_ok {c : Ct} (h : ctE c = 0) : ctOk c:=by
  obtain ⟨⟨px,py⟩,⟨nx,ny⟩,m⟩:=c
  unfold ctE at h
  rw [fstE_zero] at h
  simp only [List.mem_cons,List.not_mem_nil,or_false,forall_eq_or_imp,forall_eq,unl_zero (show (2 : Int) ≠ 0 by decide),unl_zero (show (3 : Int) ≠ 0 by decide)] at h
  obtain ⟨h1,h2⟩:=h
  simp [inB] at h1
  simp [unitB,sameC] at h2
  refine ⟨?_, ?_, ?_, ?_, ?_⟩ <;> dsimp only <;> omega
theorem hdE_ok {h : Hd} (he : hdE h = 0) : HOk h:=by
  unfold hdE at he
  rw [fstE_zero] at he
  simp only [List.mem_cons,List.not_mem_nil,or_false,forall_eq_or_imp,forall_eq,unl_zero (show (2 : Int) ≠ 0 by decide),unl_zero (show (3 : Int) ≠ 0 by decide)] at he
  obtain ⟨h1,h2,h3,h4⟩:=he
  unfold hdE1 at h1
  split at h1
  · rename_i h0
    unfold hdE0 at h0
    rw [fstE_zero] at h0
    simp only [List.mem_cons,List.not_mem_nil,or_false,forall_eq_or_imp,forall_eq,unl_zero (show (10 : Int) ≠ 0 by decide),unl_zero (show (8 : Int) ≠ 0 by decide),decide_eq_true_eq] at h0
    unfold eachE at h1
    rw [eachF_zero] at h1
    simp [inB] at h3
    simp [oddB,inB] at h4
    simp only [Bool.and_eq_true,decide_eq_true_eq] at h2
    refine ⟨by omega,fun c hc => ctE_ok (h1 c hc),by omega,by omega, ?_⟩
    simp only [balOk]
    refine ⟨?_, ?_, ?_⟩ <;> omega
  · rename_i h0
    exact absurd h1 h0
/-- The hold, or the error. -/
def hoR (h : Hd) : List (Int × Int) × Int:=if hdE h ≠ 0 then ([],hdE h) else match heP h.fn h.fd h.C h.l with
  | some L => (L,0)
  | none => ([],12)
/-- How HoldOf ends. -/
def HoEnd (w : World) (R : List (Int × Int) × Int) (e : Ending) (w' : World) : Prop :=
  ∃ (A : Option Addr) (c : Nat),e = .returned (.tuple #[.slice A R.1.length c,.int .i64 R.2]) ∧ SlV w' A (R.1.flatMap ceV) ∧ Below w.heap.size w w'
set_option maxHeartbeats 4000000 in
set_option maxRecDepth 100000 in
theorem holdOf_c (C : List Ct) (AC : Option Addr) (cC : Nat) (fn fd l0 l1 l2 : Int) (w : World) (hn : C.length ≤ 1000) (hs : SlV w AC (C.flatMap ctV)) (h1 : -9223372036854775808 ≤ fn ∧ fn ≤ 9223372036854775807) (h2 : -9223372036854775808 ≤ fd ∧ fd ≤ 9223372036854775807) :
    Calls Tryz.prog 28 #[.agg #[.slice AC C.length cC,.int .i64 fn,.int .i64 fd,.int .i64 l0,.int .i64 l1,.int .i64 l2]] w (HoEnd w (hoR ⟨C,fn,fd,(l0,l1,l2)⟩)):=by
  have HEc:=Lib.hid (fun W (h : Below w.heap.size w W) => holdErr_c C AC cC fn fd l0 l1 l2 W hn (hs.below h) h1 h2)
  have HDd:=Lib.hid (fun (h0 : hdE ⟨C,fn,fd,(l0,l1,l2)⟩ = 0) W (h : Below w.heap.size w W) => show Calls Tryz.prog 101 #[.agg #[.slice AC C.length cC,.int .i64 fn,.int .i64 fd,.int .i64 l0,.int .i64 l1,.int .i64 l2],.agg #[.int .i64 l0,.int .i64 l1,.int .i64 l2],.slice none 0 0] W (HeEnd W [] (heP fn fd C (l0,l1,l2))) from by
    have hO:=hdE_ok h0
    have hl:=hO.len
    have hfd:=hO.fd
    have hbl:=hO.l
    dsimp only at hl hfd hbl
    exact held_c C AC cC fn fd l0 l1 l2 hO.fn (by omega) hO.ct hl.2 hl.1 C [] rfl [] none 0 (l0,l1,l2) W rfl (by
      obtain ⟨x1,x2,x3⟩:=hbl
      simp only [balOk] at x1 x2 x3 ⊢
      refine ⟨?_, ?_, ?_⟩ <;> simp <;> omega) (hs.below h) (by decide) (fun _ => ⟨rfl,rfl⟩) (fun _ _ h => by simp at h))
  have HR:=Lib.hid (show hoR ⟨C,fn,fd,(l0,l1,l2)⟩ = if hdE ⟨C,fn,fd,(l0,l1,l2)⟩ ≠ 0 then ([],hdE ⟨C,fn,fd,(l0,l1,l2)⟩) else match heP fn fd C (l0,l1,l2) with | some L => (L,0) | none => ([],12) from rfl)
  clear hs
  generalize hoR ⟨C,fn,fd,(l0,l1,l2)⟩ = R at *
  generalize hdE ⟨C,fn,fd,(l0,l1,l2)⟩ = r at *
  generalize heP fn fd C (l0,l1,l2) = H at *
  by_cases hr : r = 0
  · have HDc:=Lib.hid (HDd.out hr)
    clear HDd
    subst hr
    cases H with
    | none =>
      have hR : R = ([],12):=HR.out
      clear HR
      subst hR
      go_enter Tryz.func28,Tryz.ntmps28
      go_wp2_with (first | (go_at_call 92;(with_reducible refine (HEc.out _ ?_).mono ?_);rotate_left;rintro e w3 ⟨rfl,hb3⟩;rotate_left;(focus (exact bB0));have hz3 : w.heap.size + 1 ≤ w3.heap.size:=(by have:=hb3.size;(try simp at this);omega);have y3 : Box w3 w.heap.size 53 #[.slice AC C.length cC,.int .i64 fn,.int .i64 fd,.int .i64 l0,.int .i64 l1,.int .i64 l2]:=(by exact bX1 hb3);have p0:=y3.cell 0;have p1:=y3.cell 1;have p2:=y3.cell 2;have p3:=y3.cell 3;have p4:=y3.cell 4;have p5:=y3.cell 5;(simp at p0 p1 p2 p3 p4 p5);have l3:=y3.lt) | (go_at_call 101;(with_reducible refine (HDc.out _ ?_).mono ?_);rotate_left;rintro e w4 hE4;obtain ⟨hb4,rfl⟩:=hE4;rotate_left;(focus (exact bB1 hb3))) | (go_at_call 84;(with_reducible refine (unless_c _ _ _).mono ?_);rintro e w' ⟨rfl,rfl⟩) | fail)
      go_ret2
      exact ⟨none,0,rfl,(fun _ _ h => by simp at h),by exact bB2 hb3 hb4⟩
    | some L =>
      have hR : R = (L,0):=HR.out
      clear HR
      subst hR
      go_enter Tryz.func28,Tryz.ntmps28
      go_wp2_with (first | (go_at_call 92;(with_reducible refine (HEc.out _ ?_).mono ?_);rotate_left;rintro e w3 ⟨rfl,hb3⟩;rotate_left;(focus (exact bB0));have hz3 : w.heap.size + 1 ≤ w3.heap.size:=(by have:=hb3.size;(try simp at this);omega);have y3 : Box w3 w.heap.size 53 #[.slice AC C.length cC,.int .i64 fn,.int .i64 fd,.int .i64 l0,.int .i64 l1,.int .i64 l2]:=(by exact bX1 hb3);have p0:=y3.cell 0;have p1:=y3.cell 1;have p2:=y3.cell 2;have p3:=y3.cell 3;have p4:=y3.cell 4;have p5:=y3.cell 5;(simp at p0 p1 p2 p3 p4 p5);have l3:=y3.lt) | (go_at_call 101;(with_reducible refine (HDc.out _ ?_).mono ?_);rotate_left;rintro e w4 hE4;obtain ⟨hb4,A4,c4,hA4,rfl,hv4⟩:=hE4;rotate_left;(focus (exact bB1 hb3))) | (go_at_call 84;(with_reducible refine (unless_c _ _ _).mono ?_);rintro e w' ⟨rfl,rfl⟩) | fail)
      go_ret2
      cases A4 with
      | none => exact absurd rfl hA4
      | some a => exact ⟨some a,c4,by simp [unl],by simpa using hv4,by exact bB2 hb3 hb4⟩
  · have e2:=bneT hr
    have hR : R = ([],r):=by rw [HR.out,if_pos hr]
    clear HDd HR hr
    subst hR
    go_enter Tryz.func28,Tryz.ntmps28
    go_wp2_with (first | (go_at_call 92;(with_reducible refine (HEc.out _ ?_).mono ?_);rotate_left;rintro e w3 ⟨rfl,hb3⟩;rotate_left;(focus (exact bB0));have hz3 : w.heap.size + 1 ≤ w3.heap.size:=(by have:=hb3.size;(try simp at this);omega);have y3 : Box w3 w.heap.size 53 #[.slice AC C.length cC,.int .i64 fn,.int .i64 fd,.int .i64 l0,.int .i64 l1,.int .i64 l2]:=(by exact bX1 hb3);have p0:=y3.cell 0;have p1:=y3.cell 1;have p2:=y3.cell 2;have p3:=y3.cell 3;have p4:=y3.cell 4;have p5:=y3.cell 5;(simp at p0 p1 p2 p3 p4 p5);have l3:=y3.lt) | fail)
    go_ret2
    exact ⟨none,0,rfl,(fun _ _ h => by simp at h),by exact bB1 hb3⟩
end Go.Proofs.YtpnfgmgoafgcbaaGreat

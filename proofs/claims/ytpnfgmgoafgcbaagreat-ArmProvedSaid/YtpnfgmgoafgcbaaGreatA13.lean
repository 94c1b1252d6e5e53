/-
  The texts Hd3, Hd4 in one.
-/
import Derived.Test.YtpnfgmgoafgcbaaGreatA12
import Derived.Deep.RegionLawGrows
import Derived.Laws.Cover3
import Derived.Test.YtpnfgmgoafgcbaaGreatA9
set_option linter.all false
/-
  Holds (chapter 6): whether a contact slips, what is left, in plain words, and the walks.
-/
set_option linter.unusedVariables false
namespace Go.Proofs.YtpnfgmgoafgcbaaGreat
open Go.RowKit
attribute [local go_sem] Oper.semAt_some
def stB (fn fd m n t : Int) : Bool:=inB (t * fd) (-(fn * n)) (fn * n) && inB t (-m) m
def afP (b : Int × Int × Int) (c : Ct) (n t : Int) : Int × Int × Int :=
  (b.1 + (n * c.2.1.1 - t * c.2.1.2),b.2.1 + (n * c.2.1.2 + t * c.2.1.1),b.2.2 + c.1.1 * (n * c.2.1.2 + t * c.2.1.1) - c.1.2 * (n * c.2.1.1 - t * c.2.1.2))
theorem mulB {a b : Int} (A B : Nat) (h1 : -(A : Int) ≤ a ∧ a ≤ A) (h2 : -(B : Int) ≤ b ∧ b ≤ B) : -((A * B : Nat) : Int) ≤ a * b ∧ a * b ≤ ((A * B : Nat) : Int):=by
  have h:=Nat.mul_le_mul (show a.natAbs ≤ A by omega) (show b.natAbs ≤ B by omega)
  rw [← Int.natAbs_mul] at h
  omega
set_option maxHeartbeats 4000000 in
set_option maxRecDepth 100000 in
theorem sticks_c (C : List Ct) (AC : Option Addr) (cC : Nat) (fn fd l0 l1 l2 px py nx ny m n t : Int) (w : World) (hn : 0 ≤ n ∧ n ≤ 1000) (ht : -1000 ≤ t ∧ t ≤ 1000) (hf : 0 ≤ fn ∧ fn ≤ 1000) (hd : -1000 ≤ fd ∧ fd ≤ 1000) (hm : 0 ≤ m ∧ m ≤ 1000) :
    Calls Tryz.prog 95 #[.agg #[.slice AC C.length cC,.int .i64 fn,.int .i64 fd,.int .i64 l0,.int .i64 l1,.int .i64 l2],.agg #[.int .i64 px,.int .i64 py,.int .i64 nx,.int .i64 ny,.int .i64 m],.int .i64 n,.int .i64 t] w fun e w' => e = .returned (.bool (stB fn fd m n t)) ∧ Below w.heap.size w w':=by
  have m1:=mulB (a:=t) (b:=fd) 1000 1000 (by omega) (by omega)
  have m2:=mulB (a:=fn) (b:=n) 1000 1000 (by omega) (by omega)
  have m3 : 0 ≤ fn * n:=Int.mul_nonneg hf.1 hn.1
  have HS:=Lib.hid (show stB fn fd m n t = (inB (t * fd) (-(fn * n)) (fn * n) && inB t (-m) m) from rfl)
  generalize stB fn fd m n t = R at *
  obtain ⟨m11,m12⟩:=m1
  obtain ⟨m21,m22⟩:=m2
  obtain ⟨hn1,hn2⟩:=hn
  obtain ⟨ht1,ht2⟩:=ht
  obtain ⟨hf1,hf2⟩:=hf
  obtain ⟨hd1,hd2⟩:=hd
  obtain ⟨hm1,hm2⟩:=hm
  cases hb : inB (t * fd) (-(fn * n)) (fn * n)
  all_goals
    go_enter Tryz.func95,Tryz.ntmps95
    go_wp2_with (first | (go_at_call 94;(with_reducible refine (isSized_c _ _ _ (by omega) (by omega)).mono ?_);rintro e w' ⟨rfl,rfl⟩) | fail)
    go_ret
    exact ⟨ret_b (by rw [HS.out,hb];simp),by exact bB0⟩
theorem tba_size : (Tryz.prog.info? 147).map (·.size) = some 3:=by kernel_rfl
set_option maxHeartbeats 4000000 in
set_option maxRecDepth 100000 in
theorem after_c (b0 b1 b2 px py nx ny m n t : Int) (w : World) (hb : (-10000 ≤ b0 ∧ b0 ≤ 10000) ∧ (-10000 ≤ b1 ∧ b1 ≤ 10000) ∧ (-10000 ≤ b2 ∧ b2 ≤ 10000)) (hn : 0 ≤ n ∧ n ≤ 10) (ht : -10 ≤ t ∧ t ≤ 10) (hx : -1 ≤ nx ∧ nx ≤ 1) (hy : -1 ≤ ny ∧ ny ≤ 1) (hp : -5 ≤ px ∧ px ≤ 5) (hq : -5 ≤ py ∧ py ≤ 5) :
    Calls Tryz.prog 96 #[.agg #[.int .i64 b0,.int .i64 b1,.int .i64 b2],.agg #[.int .i64 px,.int .i64 py,.int .i64 nx,.int .i64 ny,.int .i64 m],.int .i64 n,.int .i64 t] w fun e w' => e = .returned (.agg #[.int .i64 (afP (b0,b1,b2) ((px,py),(nx,ny),m) n t).1,.int .i64 (afP (b0,b1,b2) ((px,py),(nx,ny),m) n t).2.1,.int .i64 (afP (b0,b1,b2) ((px,py),(nx,ny),m) n t).2.2]) ∧ Below w.heap.size w w':=by
  obtain ⟨⟨b01,b02⟩,⟨b11,b12⟩,b21,b22⟩:=hb
  obtain ⟨m1,m1'⟩:=mulB (a:=n) (b:=nx) 10 1 (by omega) (by omega)
  obtain ⟨m2,m2'⟩:=mulB (a:=t) (b:=ny) 10 1 (by omega) (by omega)
  obtain ⟨m3,m3'⟩:=mulB (a:=n) (b:=ny) 10 1 (by omega) (by omega)
  obtain ⟨m4,m4'⟩:=mulB (a:=t) (b:=nx) 10 1 (by omega) (by omega)
  obtain ⟨m5,m5'⟩:=mulB (a:=px) (b:=n * ny + t * nx) 5 20 (by omega) (by omega)
  obtain ⟨m6,m6'⟩:=mulB (a:=py) (b:=n * nx - t * ny) 5 20 (by omega) (by omega)
  obtain ⟨hn1,hn2⟩:=hn
  obtain ⟨ht1,ht2⟩:=ht
  obtain ⟨hx1,hx2⟩:=hx
  obtain ⟨hy1,hy2⟩:=hy
  obtain ⟨hp1,hp2⟩:=hp
  obtain ⟨hq1,hq2⟩:=hq
  have HA:=Lib.hid (show afP (b0,b1,b2) ((px,py),(nx,ny),m) n t = (b0 + (n * nx - t * ny),b1 + (n * ny + t * nx),b2 + px * (n * ny + t * nx) - py * (n * nx - t * ny)) from rfl)
  generalize afP (b0,b1,b2) ((px,py),(nx,ny),m) n t = R at *
  simp only [Nat.reduceMul,Int.cast_ofNat_Int] at m1 m1' m2 m2' m3 m3' m4 m4' m5 m5' m6 m6'
  go_enter Tryz.func96,Tryz.ntmps96
  go_upto_region 1 with fail
  (refine wp_region_held_drew (S:=(fun w' => Box w' (w.heap.size + 1) 69 #[.int .i64 px,.int .i64 py,.int .i64 nx,.int .i64 ny,.int .i64 m])) kR ?_ (fun hHeld => ?_);(focus ((try dsimp only);(((first | exact bX0 | exact bX0)))));have hO:=Lib.hid (fun w' (hSw : (fun w' => Box w' (w.heap.size + 1) 69 #[.int .i64 px,.int .i64 py,.int .i64 nx,.int .i64 ny,.int .i64 m]) w') => (by (try dsimp only at hSw);(have sa0:=hSw.cell 0;have sa1:=hSw.cell 1;have sa2:=hSw.cell 2;have sa3:=hSw.cell 3;have sa4:=hSw.cell 4;(simp at sa0 sa1 sa2 sa3 sa4));exact And.intro sa0 (And.intro sa1 (And.intro sa2 (And.intro sa3 sa4)))));refine rgN 0 rfl ?_;refine rgN 1 rfl ?_;refine rgL 2 hO rfl ?_;refine rgN 3 rfl ?_;refine rgN 4 rfl ?_;refine rgL 5 hO rfl ?_;refine rgN 6 rfl ?_;refine rgN 7 rfl ?_;refine wpAnyH_done kR ?_ _)
  go_wp2
  refine bodyPost_ret (res_c1 rfl rfl (show Box _ _ 147 #[.int .i64 (b0 + (n * nx - t * ny)),.int .i64 (b1 + (n * ny + t * nx)),.int .i64 (b2 + px * (n * ny + t * nx) - py * (n * nx - t * ny))] from ?_) Tryz.underlying147 rfl tba_size) rfl ⟨by rw [HA.out], ?_⟩
  · exact bX0
  · exact bB0
set_option maxHeartbeats 400000 in
theorem clip_c (A : Option Addr) (n c : Nat) (w : World) (h : n ≤ c) (hc : c ≤ 9223372036854775807) (hA : A = none → n = 0 ∧ c = 0) : Calls Tryz.prog 154 #[.slice A n c] w fun e w' => e = .returned (.slice A n n) ∧ w = w':=by
  have h0 : (n : Int) ≤ (c : Int):=by omega
  have h1 : 0 ≤ (n : Int):=by omega
  cases A with
  | none =>
    obtain ⟨rfl,rfl⟩:=hA rfl
    go_enter Tryz.func154,Tryz.ntmps154
    go_wp2
    go_ret
    exact ⟨rfl,rfl⟩
  | some a =>
    go_enter Tryz.func154,Tryz.ntmps154
    go_wp2
    go_ret
    exact ⟨rfl,rfl⟩
end Go.Proofs.YtpnfgmgoafgcbaaGreat
/-
  Holds (chapter 6): the forces that hold, in plain words; one try.
-/
set_option linter.unusedVariables false
namespace Go.Proofs.YtpnfgmgoafgcbaaGreat
open Go.RowKit
attribute [local go_sem] Oper.semAt_some
theorem run_nilPairs (a : Option Addr) (n c : Nat) (w : World) : (Op.equal 54 (.slice a n c) (.slice none 0 0)).run Tryz.prog w = .ok a.isNone w:=run_equal_slice_nil w 54 22 a n c Tryz.underlying54
theorem run_neqPairs (a : Option Addr) (n c : Nat) (w : World) : (binOp .neq 54 (.slice a n c) (.slice none 0 0)).run Tryz.prog w = .ok (.bool (!a.isNone)) w:=by
  simp [binOp,go_sem,run_nilPairs]
attribute [local go_sem ↓] run_neqPairs
theorem own_cap {W : World} {b g n cap sz : Nat} {e : TypeId} {xs : List Value} (h : W.ownsRow b e sz (.slice (some ⟨g,0,none⟩) n cap) n xs) : n ≤ cap ∧ cap ≤ maxLen:=by
  rcases h.2 with ⟨h1,_⟩ | ⟨g',cap',cur,h1,_,_,h4,h5,_⟩
  · cases h1
  · cases h1;exact ⟨h4,h5⟩
theorem cells_box {w : World} {g : Nat} {t : TypeId} {cs : List Value} (h : Box w g t cs.toArray) : ∀ j u,cs[j]? = some u → w.cell? ((⟨g,0,none⟩ : Addr).add j) = some u:=by
  intro j u hj
  have h1:=h.cell j
  by_cases h0 : j = 0
  · subst h0
    simp only [Addr.add]
    rw [if_pos trivial,h1]
    simpa using hj
  · simp only [Addr.add,Nat.zero_add,if_neg h0]
    rw [h1]
    simpa using hj
theorem slv_add {w : World} {A : Option Addr} {xs : List Value} (h : SlV w A xs) : ∀ b,A = some b → ∀ j u,xs[j]? = some u → w.cell? (b.add j) = some u:=by
  rintro b rfl j u hj
  obtain ⟨g,off,e,_,hc⟩:=h j u hj
  cases e
  by_cases h0 : j = 0
  · subst h0
    simpa [Addr.add] using hc
  · simpa [Addr.add,h0] using hc
/-- The first number that a function finds, from n on, among so many. -/
def frF {α : Type} (f : Int → Option α) : Nat → Int → Option α
  | 0,_ => none
  | k + 1,n => (f n).or (frF f k (n + 1))
/-- The first forces of contacts that do not slip and balance a load. -/
def heP (fn fd : Int) : List Ct → Int × Int × Int → Option (List (Int × Int))
  | [],l => if l = (0,0,0) then some [] else none
  | c :: C,l => frF (fun n => frF (fun t => if stB fn fd c.2.2 n t then (heP fn fd C (afP l c n t)).map fun L => (n,t) :: L else none) (2 * c.2.2.toNat + 1) (-c.2.2)) (c.2.2.toNat + 1) 0
/-- How held ends. -/
def HeEnd (w : World) (pre : List (Int × Int)) (R : Option (List (Int × Int))) (e : Ending) (w' : World) : Prop :=
  Below w.heap.size w w' ∧ match R with
    | none => e = .returned (.slice none 0 0)
    | some L => ∃ (A : Option Addr) (c : Nat),A ≠ none ∧ e = .returned (.slice A (pre.length + L.length) c) ∧ SlV w' A ((pre ++ L).flatMap ceV)
/-- What a try leaves. -/
def HeCut (W : World) (pre : List (Int × Int)) (R : Option (List (Int × Int))) (v : Value) (wx : World) : Prop :=
  Below W.heap.size W wx ∧ match R with
    | none => v = .slice none 0 0
    | some L => ∃ (A : Option Addr) (c : Nat),A ≠ none ∧ v = .slice A (pre.length + L.length) c ∧ SlV wx A ((pre ++ L).flatMap ceV)
structure HW (w : World) (g3 g8 : Nat) (cs3 cs4 cs8 : Array Value) (W : World) : Prop where
  b3 : Box W g3 53 cs3
  b4 : Box W (g3 + 1) 147 cs4
  b8 : Box W g8 69 cs8
  below : Below w.heap.size w W
theorem HW.keep {w : World} {g3 g8 : Nat} {cs3 cs4 cs8 : Array Value} {W W' : World} (h : HW w g3 g8 cs3 cs4 cs8 W) (hb : Below W.heap.size W W') : HW w g3 g8 cs3 cs4 cs8 W' :=
  ⟨h.b3.below hb h.b3.lt,h.b4.below hb h.b4.lt,h.b8.below hb h.b8.lt,h.below.trans (hb.mono h.below.size)⟩
noncomputable def hLoop1 : Code:=(((Tryz.f101.body.map loopsOf).getD [])[0]?).getD .skip
noncomputable def hLoop2 : Code:=((loopsOf hLoop1)[0]?).getD .skip
theorem sticks_b {fn fd m n t : Int} {v : Bool} (hv : stB fn fd m n t = v) (C : List Ct) (AC : Option Addr) (cC : Nat) (l0 l1 l2 px py nx ny : Int) (w : World) (hn : 0 ≤ n ∧ n ≤ 1000) (ht : -1000 ≤ t ∧ t ≤ 1000) (hf : 0 ≤ fn ∧ fn ≤ 1000) (hd : -1000 ≤ fd ∧ fd ≤ 1000) (hm : 0 ≤ m ∧ m ≤ 1000) :
    Calls Tryz.prog 95 #[.agg #[.slice AC C.length cC,.int .i64 fn,.int .i64 fd,.int .i64 l0,.int .i64 l1,.int .i64 l2],.agg #[.int .i64 px,.int .i64 py,.int .i64 nx,.int .i64 ny,.int .i64 m],.int .i64 n,.int .i64 t] w fun e w' => e = .returned (.bool v) ∧ Below w.heap.size w w':=hv ▸ sticks_c C AC cC fn fd l0 l1 l2 px py nx ny m n t w hn ht hf hd hm
theorem infoP2 : infoOk Tryz.prog 22 2 16 = true:=by kernel_rfl
set_option maxHeartbeats 4000000 in
set_option maxRecDepth 100000 in
theorem hin_c (z30 z31 : Value) (g3 g8 : Nat) (C C' : List Ct) (AC AF : Option Addr) (cC cF : Nat) (fn fd l0 l1 l2 b0 b1 b2 px py nx ny m n : Int) (pre : List (Int × Int)) (w : World) (R : Option (List (Int × Int))) (PQ : Exit → Act → World → Prop)
    (hf : 0 ≤ fn ∧ fn ≤ 10) (hd : 0 ≤ fd ∧ fd ≤ 10) (hb : (-10000 ≤ b0 ∧ b0 ≤ 10000) ∧ (-10000 ≤ b1 ∧ b1 ≤ 10000) ∧ (-10000 ≤ b2 ∧ b2 ≤ 10000)) (hm : 0 ≤ m ∧ m ≤ 6) (hn : 0 ≤ n ∧ n ≤ 6) (hx : -1 ≤ nx ∧ nx ≤ 1) (hy : -1 ≤ ny ∧ ny ≤ 1) (hp : -5 ≤ px ∧ px ≤ 5) (hq : -5 ≤ py ∧ py ≤ 5)
    (hpl : pre.length ≤ 1000) (hcF : pre.length ≤ cF ∧ cF ≤ 9223372036854775807) (hAF : AF = none → pre.length = 0 ∧ cF = 0) (hsF : SlV w AF (pre.flatMap ceV))
    (IH : ∀ (t : Int) (AF' : Option Addr) (cF' : Nat) (W : World),-6 ≤ t ∧ t ≤ 6 → Below w.heap.size w W → SlV W AF' ((pre ++ [(n,t)]).flatMap ceV) → AF' ≠ none → pre.length + 1 ≤ cF' → cF' ≤ 9223372036854775807 →
      Calls Tryz.prog 101 #[.agg #[.slice AC C.length cC,.int .i64 fn,.int .i64 fd,.int .i64 l0,.int .i64 l1,.int .i64 l2],.agg #[.int .i64 (afP (b0,b1,b2) ((px,py),(nx,ny),m) n t).1,.int .i64 (afP (b0,b1,b2) ((px,py),(nx,ny),m) n t).2.1,.int .i64 (afP (b0,b1,b2) ((px,py),(nx,ny),m) n t).2.2],.slice AF' (pre.length + 1) cF'] W (HeEnd W (pre ++ [(n,t)]) (heP fn fd C' (afP (b0,b1,b2) ((px,py),(nx,ny),m) n t))))
    (hQ1 : R = none → ∀ (W : World) (t : Int) (t0 t1 t5 t6 t11 t12 t13 t14 t15 t16 t17 t18 t19 t20 t21 t22 t23 t24 t25 t26 t27 t28 t29 t32 t33 t34 t35 t36 t37 t38 t39 t40 t41 t42 t43 t44 t45 t46 t47 t48 t49 t50 t51 t52 t53 t54 t55 t56 t57 t58 t59 t60 t61 t62 t63 t64 t65 t66 : Value),HW w g3 g8 #[.slice AC C.length cC,.int .i64 fn,.int .i64 fd,.int .i64 l0,.int .i64 l1,.int .i64 l2] #[.int .i64 b0,.int .i64 b1,.int .i64 b2] #[.int .i64 px,.int .i64 py,.int .i64 nx,.int .i64 ny,.int .i64 m] W → PQ (.exit 2) ⟨#[t0,t1,Value.slice AF pre.length cF,Value.pointer (some ⟨g3,0,none⟩),Value.pointer (some ⟨g3 + 1,0,none⟩),t5,t6,Value.int .i64 (pre.length : Int),Value.pointer (some ⟨g8,0,none⟩),Value.int .i64 n,Value.int .i64 t,t11,t12,t13,t14,t15,t16,t17,t18,t19,t20,t21,t22,t23,t24,t25,t26,t27,t28,t29,z30,z31,t32,t33,t34,t35,t36,t37,t38,t39,t40,t41,t42,t43,t44,t45,t46,t47,t48,t49,t50,t51,t52,t53,t54,t55,t56,t57,t58,t59,t60,t61,t62,t63,t64,t65,t66],[]⟩ W)
    (hQ2 : ∀ L,R = some L → ∀ (W : World) (t : Int) (A : Option Addr) (c : Nat) (t0 t1 t2 t3 t4 t5 t7 t8 t9 t10 t11 t12 t13 t14 t15 t16 t17 t18 t19 t20 t21 t22 t23 t24 t25 t26 t27 t28 t29 t30 t31 t32 t33 t34 t35 t36 t37 t38 t39 t40 t41 t42 t43 t44 t45 t46 t47 t48 t49 t50 t51 t52 t53 t54 t55 t56 t57 t58 t59 t60 t61 t62 t63 t64 t65 t66 : Value),A ≠ none → SlV W A ((pre ++ L).flatMap ceV) → Below w.heap.size w W → PQ .ret ⟨#[t0,t1,t2,t3,t4,t5,Value.slice A (pre.length + L.length) c,t7,t8,t9,t10,t11,t12,t13,t14,t15,t16,t17,t18,t19,t20,t21,t22,t23,t24,t25,t26,t27,t28,t29,t30,t31,t32,t33,t34,t35,t36,t37,t38,t39,t40,t41,t42,t43,t44,t45,t46,t47,t48,t49,t50,t51,t52,t53,t54,t55,t56,t57,t58,t59,t60,t61,t62,t63,t64,t65,t66],[]⟩ W) :
    ∀ (k : Nat) (t : Int) (W : World) (t0 t1 t5 t6 t11 t12 t13 t14 t15 t16 t17 t18 t19 t20 t21 t22 t23 t24 t25 t26 t27 t28 t29 t32 t33 t34 t35 t36 t37 t38 t39 t40 t41 t42 t43 t44 t45 t46 t47 t48 t49 t50 t51 t52 t53 t54 t55 t56 t57 t58 t59 t60 t61 t62 t63 t64 t65 t66 : Value),t + k = m + 1 → -m ≤ t → HW w g3 g8 #[.slice AC C.length cC,.int .i64 fn,.int .i64 fd,.int .i64 l0,.int .i64 l1,.int .i64 l2] #[.int .i64 b0,.int .i64 b1,.int .i64 b2] #[.int .i64 px,.int .i64 py,.int .i64 nx,.int .i64 ny,.int .i64 m] W →
      frF (fun t => if stB fn fd m n t then (heP fn fd C' (afP (b0,b1,b2) ((px,py),(nx,ny),m) n t)).map fun L => (n,t) :: L else none) k t = R →
      Code.rounds Tryz.prog hLoop2 PQ (k + 1) ⟨#[t0,t1,Value.slice AF pre.length cF,Value.pointer (some ⟨g3,0,none⟩),Value.pointer (some ⟨g3 + 1,0,none⟩),t5,t6,Value.int .i64 (pre.length : Int),Value.pointer (some ⟨g8,0,none⟩),Value.int .i64 n,Value.int .i64 t,t11,t12,t13,t14,t15,t16,t17,t18,t19,t20,t21,t22,t23,t24,t25,t26,t27,t28,t29,z30,z31,t32,t33,t34,t35,t36,t37,t38,t39,t40,t41,t42,t43,t44,t45,t46,t47,t48,t49,t50,t51,t52,t53,t54,t55,t56,t57,t58,t59,t60,t61,t62,t63,t64,t65,t66],[]⟩ W:=by
  intro k
  induction k with
  | zero =>
    intro t W t0 t1 t5 t6 t11 t12 t13 t14 t15 t16 t17 t18 t19 t20 t21 t22 t23 t24 t25 t26 t27 t28 t29 t32 t33 t34 t35 t36 t37 t38 t39 t40 t41 t42 t43 t44 t45 t46 t47 t48 t49 t50 t51 t52 t53 t54 t55 t56 t57 t58 t59 t60 t61 t62 t63 t64 t65 t66 ht hmt hW hR
    rw [rounds_succ]
    unfold hLoop2 hLoop1
    conv => arg 2;whnf
    have c4:=hW.b8.cell 4
    have l8:=hW.b8.lt
    simp at c4
    have hR0 : R = none:=hR.symm
    have HQ:=Lib.hid (hQ1 hR0)
    have HWh:=Lib.hid hW
    have hle : decide (t ≤ m) = false:=decide_eq_false (by omega)
    clear hQ1 hQ2 hR hR0 hW IH
    go_wp2
    exact HQ.out _ _ _ _ _ _ _ _ _ _ _ _ _ _ _ _ _ _ _ _ _ _ _ _ _ _ _ _ _ _ _ _ _ _ _ _ _ _ _ _ _ _ _ _ _ _ _ _ _ _ _ _ _ _ _ _ _ _ _ _ HWh.out
  | succ k ih =>
    intro t W t0 t1 t5 t6 t11 t12 t13 t14 t15 t16 t17 t18 t19 t20 t21 t22 t23 t24 t25 t26 t27 t28 t29 t32 t33 t34 t35 t36 t37 t38 t39 t40 t41 t42 t43 t44 t45 t46 t47 t48 t49 t50 t51 t52 t53 t54 t55 t56 t57 t58 t59 t60 t61 t62 t63 t64 t65 t66 ht hmt hW hR
    rw [rounds_succ]
    unfold hLoop2 hLoop1
    conv => arg 2;whnf
    have c4:=hW.b8.cell 4
    have hW3:=hW.b3
    have hW4:=hW.b4
    have hW8:=hW.b8
    have u0:=hW3.cell 0;have u1:=hW3.cell 1;have u2:=hW3.cell 2;have u3:=hW3.cell 3;have u4:=hW3.cell 4;have u5:=hW3.cell 5
    have v0:=hW4.cell 0;have v1:=hW4.cell 1;have v2:=hW4.cell 2
    have x0:=hW8.cell 0;have x1:=hW8.cell 1;have x2:=hW8.cell 2;have x3:=hW8.cell 3;have x4:=hW8.cell 4
    simp at u0 u1 u2 u3 u4 u5 v0 v1 v2 x0 x1 x2 x3 x4
    have e3:=hW3.lt;have e4:=hW4.lt;have e8:=hW8.lt
    have hle : decide (t ≤ m) = true:=decide_eq_true (by omega)
    have hwr : IntKind.i64.wrap (t + 1) = t + 1:=IntWalk.i64_in _ (by omega)
    have HWh:=Lib.hid hW
    have HQ1:=Lib.hid hQ1
    have HQ2:=Lib.hid hQ2
    have HIH:=Lib.hid ih
    have HREC:=Lib.hid (fun (AF' : Option Addr) (cF' : Nat) (W : World) h1 h2 h3 h4 h5 => IH t AF' cF' W (by omega) h1 h2 h3 h4 h5)
    have ht1 : -10 ≤ t ∧ t ≤ 10:=by omega
    have hn1 : 0 ≤ n ∧ n ≤ 10:=by omega
    cases hS : stB fn fd m n t with
    | false =>
      have hR2 : frF (fun t => if stB fn fd m n t then (heP fn fd C' (afP (b0,b1,b2) ((px,py),(nx,ny),m) n t)).map fun L => (n,t) :: L else none) k (t + 1) = R:=by
        rw [frF] at hR
        simpa [hS] using hR
      have HR2:=Lib.hid hR2
      clear hQ1 hQ2 hR hR2 hW IH ih
      go_wp2_with (first | (go_at_call 95;refine (sticks_b hS C AC cC l0 l1 l2 px py nx ny _ (by omega) (by omega) (by omega) (by omega) (by omega)).mono ?_;rintro e w3 ⟨rfl,hb3⟩;have hz3 : W.heap.size ≤ w3.heap.size:=(by have:=hb3.size;(try simp at this);omega);have y3 : Box w3 g3 53 #[.slice AC C.length cC,.int .i64 fn,.int .i64 fd,.int .i64 l0,.int .i64 l1,.int .i64 l2]:=(by exact bX1 hb3);have y4 : Box w3 (g3 + 1) 147 #[.int .i64 b0,.int .i64 b1,.int .i64 b2]:=(by exact bX1 hb3);have y8 : Box w3 g8 69 #[.int .i64 px,.int .i64 py,.int .i64 nx,.int .i64 ny,.int .i64 m]:=(by exact bX1 hb3);have p0:=y3.cell 0;have p1:=y3.cell 1;have p2:=y3.cell 2;have p3:=y3.cell 3;have p4:=y3.cell 4;have p5:=y3.cell 5;have q0:=y4.cell 0;have q1:=y4.cell 1;have q2:=y4.cell 2;have r0:=y8.cell 0;have r1:=y8.cell 1;have r2:=y8.cell 2;have r3:=y8.cell 3;have r4:=y8.cell 4;(simp at p0 p1 p2 p3 p4 p5 q0 q1 q2 r0 r1 r2 r3 r4)) | fail)
      exact HIH.out (t + 1) _ _ _ _ _ _ _ _ _ _ _ _ _ _ _ _ _ _ _ _ _ _ _ _ _ _ _ _ _ _ _ _ _ _ _ _ _ _ _ _ _ _ _ _ _ _ _ _ _ _ _ _ _ _ _ _ _ _ _ (by omega) (by omega) (HWh.out.keep (by exact bB1 hb3)) HR2.out
    | true =>
      have hR2 : ((heP fn fd C' (afP (b0,b1,b2) ((px,py),(nx,ny),m) n t)).map fun L => (n,t) :: L).or (frF (fun t => if stB fn fd m n t then (heP fn fd C' (afP (b0,b1,b2) ((px,py),(nx,ny),m) n t)).map fun L => (n,t) :: L else none) k (t + 1)) = R:=by
        rw [frF] at hR
        simpa [hS] using hR
      have HR2:=Lib.hid hR2
      have HSF:=Lib.hid hsF
      have HAF:=Lib.hid hAF
      have hB0:=hW.below
      have hz0:=hB0.size
      obtain ⟨u9,zC,hu0,hy0,hy1,hy2,hy3⟩:=infoOk_parts infoP2
      have hlo : (pre.flatMap ceV).length = pre.length * 2:=flatK_len (enc:=ceV) (k:=2) (fun _ => rfl) pre
      have HLO:=Lib.hid hlo
      have hm1 : pre.length + 1 ≤ maxLen:=by unfold maxLen;omega
      have hm2 : (pre.length + 1) * 16 ≤ 140737488355328:=by omega
      have HREC2:=Lib.hid (fun (AF' : Option Addr) (cF' : Nat) (W : World) h1 h2 h3 h4 h5 => HREC.out AF' cF' W h1 h2 h3 h4 h5)
      clear hQ1 hQ2 hR hR2 hW IH ih hlo hsF HREC
      generalize heP fn fd C' (afP (b0,b1,b2) ((px,py),(nx,ny),m) n t) = HE at *
      have AFc:=Lib.hid (fun W => after_c b0 b1 b2 px py nx ny m n t W hb hn1 ht1 hx hy hp hq)
      generalize hap : afP (b0,b1,b2) ((px,py),(nx,ny),m) n t = ap at AFc HREC2
      clear hap
      obtain ⟨a0,a1,a2⟩:=ap
      dsimp only at AFc HREC2
      go_upto_region 14 with (first | (go_at_call 95;refine (sticks_b hS C AC cC l0 l1 l2 px py nx ny _ (by omega) (by omega) (by omega) (by omega) (by omega)).mono ?_;rintro e w3 ⟨rfl,hb3⟩;have hz3 : W.heap.size ≤ w3.heap.size:=(by have:=hb3.size;(try simp at this);omega);have y3 : Box w3 g3 53 #[.slice AC C.length cC,.int .i64 fn,.int .i64 fd,.int .i64 l0,.int .i64 l1,.int .i64 l2]:=(by exact bX1 hb3);have y4 : Box w3 (g3 + 1) 147 #[.int .i64 b0,.int .i64 b1,.int .i64 b2]:=(by exact bX1 hb3);have y8 : Box w3 g8 69 #[.int .i64 px,.int .i64 py,.int .i64 nx,.int .i64 ny,.int .i64 m]:=(by exact bX1 hb3);have p0:=y3.cell 0;have p1:=y3.cell 1;have p2:=y3.cell 2;have p3:=y3.cell 3;have p4:=y3.cell 4;have p5:=y3.cell 5;have q0:=y4.cell 0;have q1:=y4.cell 1;have q2:=y4.cell 2;have r0:=y8.cell 0;have r1:=y8.cell 1;have r2:=y8.cell 2;have r3:=y8.cell 3;have r4:=y8.cell 4;(simp at p0 p1 p2 p3 p4 p5 q0 q1 q2 r0 r1 r2 r3 r4)) | fail)
      have hB3 : Below W.heap.size W w3:=by exact bB1 hb3
      clear hb3
      go_cut [11] from 49 to 62 (fun s11 wx => HeCut w3 (pre ++ [(n,t)]) HE s11 wx)
      case first =>
        cases HE with
        | none =>
          ((focus (refine region_open kR (fun R hR => ?_);refine heldR (S:=(fun w' => Box w' g3 53 #[.slice AC C.length cC,.int .i64 fn,.int .i64 fd,.int .i64 l0,.int .i64 l1,.int .i64 l2] ∧ Box w' (g3 + 1) 147 #[.int .i64 b0,.int .i64 b1,.int .i64 b2] ∧ Box w' g8 69 #[.int .i64 px,.int .i64 py,.int .i64 nx,.int .i64 ny,.int .i64 m])) ?_ (fun hHeld => ?_);(focus ((try dsimp only);((refine ⟨?_, ?_, ?_⟩;((first | exact bX0 | exact bX1 hb4 | exact bX2 hb4 hb5 | exact bX3 hb4 hb5 hb6));((first | exact bX0 | exact bX1 hb4 | exact bX2 hb4 hb5 | exact bX3 hb4 hb5 hb6));((first | exact bX0 | exact bX1 hb4 | exact bX2 hb4 hb5 | exact bX3 hb4 hb5 hb6))))));have hO:=Lib.hid (fun w' (hSw : (fun w' => Box w' g3 53 #[.slice AC C.length cC,.int .i64 fn,.int .i64 fd,.int .i64 l0,.int .i64 l1,.int .i64 l2] ∧ Box w' (g3 + 1) 147 #[.int .i64 b0,.int .i64 b1,.int .i64 b2] ∧ Box w' g8 69 #[.int .i64 px,.int .i64 py,.int .i64 nx,.int .i64 ny,.int .i64 m]) w') => (by (try dsimp only at hSw);(obtain ⟨hSA,hSB,hSC⟩:=hSw;have sa0:=hSA.cell 0;have sa1:=hSA.cell 1;have sa2:=hSA.cell 2;have sa3:=hSA.cell 3;have sa4:=hSA.cell 4;have sa5:=hSA.cell 5;have sb0:=hSB.cell 0;have sb1:=hSB.cell 1;have sb2:=hSB.cell 2;have sc0:=hSC.cell 0;have sc1:=hSC.cell 1;have sc2:=hSC.cell 2;have sc3:=hSC.cell 3;have sc4:=hSC.cell 4;(simp at sa0 sa1 sa2 sa3 sa4 sa5 sb0 sb1 sb2 sc0 sc1 sc2 sc3 sc4));exact And.intro sa0 (And.intro sa1 (And.intro sa2 (And.intro sa3 (And.intro sa4 (And.intro sa5 (And.intro sb0 (And.intro sb1 (And.intro sb2 (And.intro sc0 (And.intro sc1 (And.intro sc2 (And.intro sc3 sc4))))))))))))));refine rgL 0 hO rfl ?_;refine rgL 1 hO rfl ?_;refine rgL 2 hO rfl ?_;refine rgN 3 rfl ?_;refine rgN 4 rfl ?_;refine rgN 6 rfl ?_;refine rgN 8 rfl ?_;refine rgN 9 rfl ?_;refine rgN 10 rfl ?_;refine wpAnyH_ready (rs:=[5,11]) kR (by simp) ?_;(focus (refine AllReadyH.cons rfl (fun K hK => ?_) ?_;rotate_left;refine AllReadyH.cons rfl (fun K hK => ?_) ?_;rotate_left;exact AllReadyH.nil));(focus (go_simp;((go_at_call 96;(with_reducible refine (AFc.out _).mono ?_);rintro e w4 ⟨rfl,hb4⟩;have hz4 : w3.heap.size ≤ w4.heap.size:=(by have:=hb4.size;(try simp at this);omega);have hB4 : Below w3.heap.size w3 w4:=(by exact bB1 hb4)));go_simp;refine hK.out _ _ ?_ (fun hHeld => ?_);(focus ((try dsimp only);((refine ⟨?_, ?_, ?_⟩;((first | exact bX3 hb4 hb5 hb6 | exact bX2 hb4 hb5 | exact bX1 hb4 | exact bX0));((first | exact bX3 hb4 hb5 hb6 | exact bX2 hb4 hb5 | exact bX1 hb4 | exact bX0));((first | exact bX3 hb4 hb5 hb6 | exact bX2 hb4 hb5 | exact bX1 hb4 | exact bX0))))));clear hK K;(try simp only [Act.put,pqs]);refine wpAnyH_ready (rs:=[7,11]) kR (by simp) ?_;(focus (refine AllReadyH.cons rfl (fun K hK => ?_) ?_;rotate_left;refine AllReadyH.cons rfl (fun K hK => ?_) ?_;rotate_left;exact AllReadyH.nil));(focus (go_simp;((go_at_call 154;(with_reducible refine (clip_c AF pre.length cF _ hcF.1 hcF.2 HAF.out).mono ?_);rintro e w' ⟨rfl,rfl⟩));go_simp;refine hK.out _ _ ?_ (fun hHeld => ?_);(focus ((try dsimp only);((refine ⟨?_, ?_, ?_⟩;((first | exact bX3 hb4 hb5 hb6 | exact bX2 hb4 hb5 | exact bX1 hb4 | exact bX0));((first | exact bX3 hb4 hb5 hb6 | exact bX2 hb4 hb5 | exact bX1 hb4 | exact bX0));((first | exact bX3 hb4 hb5 hb6 | exact bX2 hb4 hb5 | exact bX1 hb4 | exact bX0))))));clear hK K;(try simp only [Act.put,pqs]);refine rgC 11 rfl (fun K hK => ?_);go_simp;refine hK.out _ _ ?_ (fun hHeld => ?_);(focus ((try dsimp only);((refine ⟨?_, ?_, ?_⟩;((first | exact bX3 hb4 hb5 hb6 | exact bX2 hb4 hb5 | exact bX1 hb4 | exact bX0));((first | exact bX3 hb4 hb5 hb6 | exact bX2 hb4 hb5 | exact bX1 hb4 | exact bX0));((first | exact bX3 hb4 hb5 hb6 | exact bX2 hb4 hb5 | exact bX1 hb4 | exact bX0))))));clear hK K;(try simp only [Act.put,pqs])));rotate_left;(focus (go_simp;refine hK.out _ _ ?_ (fun hHeld => ?_);(focus ((try dsimp only);((refine ⟨?_, ?_, ?_⟩;((first | exact bX3 hb4 hb5 hb6 | exact bX2 hb4 hb5 | exact bX1 hb4 | exact bX0));((first | exact bX3 hb4 hb5 hb6 | exact bX2 hb4 hb5 | exact bX1 hb4 | exact bX0));((first | exact bX3 hb4 hb5 hb6 | exact bX2 hb4 hb5 | exact bX1 hb4 | exact bX0))))));clear hK K;(try simp only [Act.put,pqs]);refine rgC 7 rfl (fun K hK => ?_);go_simp;((go_at_call 154;(with_reducible refine (clip_c AF pre.length cF _ hcF.1 hcF.2 HAF.out).mono ?_);rintro e w' ⟨rfl,rfl⟩));go_simp;refine hK.out _ _ ?_ (fun hHeld => ?_);(focus ((try dsimp only);((refine ⟨?_, ?_, ?_⟩;((first | exact bX3 hb4 hb5 hb6 | exact bX2 hb4 hb5 | exact bX1 hb4 | exact bX0));((first | exact bX3 hb4 hb5 hb6 | exact bX2 hb4 hb5 | exact bX1 hb4 | exact bX0));((first | exact bX3 hb4 hb5 hb6 | exact bX2 hb4 hb5 | exact bX1 hb4 | exact bX0))))));clear hK K;(try simp only [Act.put,pqs])));rotate_left));rotate_left 2;(focus (go_simp;refine hK.out _ _ ?_ (fun hHeld => ?_);(focus ((try dsimp only);((refine ⟨?_, ?_, ?_⟩;((first | exact bX3 hb4 hb5 hb6 | exact bX2 hb4 hb5 | exact bX1 hb4 | exact bX0));((first | exact bX3 hb4 hb5 hb6 | exact bX2 hb4 hb5 | exact bX1 hb4 | exact bX0));((first | exact bX3 hb4 hb5 hb6 | exact bX2 hb4 hb5 | exact bX1 hb4 | exact bX0))))));clear hK K;(try simp only [Act.put,pqs]);refine rgC 5 rfl (fun K hK => ?_);go_simp;((go_at_call 96;(with_reducible refine (AFc.out _).mono ?_);rintro e w4 ⟨rfl,hb4⟩;have hz4 : w3.heap.size ≤ w4.heap.size:=(by have:=hb4.size;(try simp at this);omega);have hB4 : Below w3.heap.size w3 w4:=(by exact bB1 hb4)));go_simp;refine hK.out _ _ ?_ (fun hHeld => ?_);(focus ((try dsimp only);((refine ⟨?_, ?_, ?_⟩;((first | exact bX3 hb4 hb5 hb6 | exact bX2 hb4 hb5 | exact bX1 hb4 | exact bX0));((first | exact bX3 hb4 hb5 hb6 | exact bX2 hb4 hb5 | exact bX1 hb4 | exact bX0));((first | exact bX3 hb4 hb5 hb6 | exact bX2 hb4 hb5 | exact bX1 hb4 | exact bX0))))));clear hK K;(try simp only [Act.put,pqs]);refine rgC 7 rfl (fun K hK => ?_);go_simp;((go_at_call 154;(with_reducible refine (clip_c AF pre.length cF _ hcF.1 hcF.2 HAF.out).mono ?_);rintro e w' ⟨rfl,rfl⟩));go_simp;refine hK.out _ _ ?_ (fun hHeld => ?_);(focus ((try dsimp only);((refine ⟨?_, ?_, ?_⟩;((first | exact bX3 hb4 hb5 hb6 | exact bX2 hb4 hb5 | exact bX1 hb4 | exact bX0));((first | exact bX3 hb4 hb5 hb6 | exact bX2 hb4 hb5 | exact bX1 hb4 | exact bX0));((first | exact bX3 hb4 hb5 hb6 | exact bX2 hb4 hb5 | exact bX1 hb4 | exact bX0))))));clear hK K;(try simp only [Act.put,pqs])));rotate_left;all_goals (refine rgC 12 rfl (fun K hK => ?_);((refine step_append_grows rfl _ _ 54 rfl 22 u9 zC 2 16 Tryz.underlying54 hu0 hy0 hy1 hy2 hy3 (by decide) AF pre.length pre.length (pre.flatMap ceV) rfl (fun h => ⟨(HAF.out h).1,(HAF.out h).1⟩) HLO.out (slv_add (HSF.out.below ?_)) _ 1 1 [.int .i64 n,.int .i64 t] rfl rfl (cells_box (t:=22) ?_) (by simp [Value.oneCell']) (by omega) hm1 hm2 ?_;rotate_left;rotate_left;intro v' w5 hown5 hgrow5;obtain ⟨gN,capN,rfl,hgN,hgN2⟩:=own_pos hown5 (by omega) (by decide);have hb5:=(Below.refl _ _).grown hgrow5 (Nat.le_refl _) (fun k e => nomatch e);have hz5 : w4.heap.size ≤ w5.heap.size:=(by have:=hb5.size;(try simp at this);omega);rotate_left;(focus (exact bB3 hB0 hB3 hb4));(focus (exact bX1 hb4))));go_simp;refine hK.out _ _ ?_ (fun hHeld => ?_);(focus ((try dsimp only);((refine ⟨?_, ?_, ?_⟩;((first | exact bX3 hb4 hb5 hb6 | exact bX2 hb4 hb5 | exact bX1 hb4 | exact bX0));((first | exact bX3 hb4 hb5 hb6 | exact bX2 hb4 hb5 | exact bX1 hb4 | exact bX0));((first | exact bX3 hb4 hb5 hb6 | exact bX2 hb4 hb5 | exact bX1 hb4 | exact bX0))))));clear hK K;(try simp only [Act.put,pqs]);refine rgC 13 rfl (fun K hK => ?_);go_simp;((go_at_call 101;refine (HREC2.out (some ⟨gN,0,none⟩) capN w5 ?_ ?_ (fun h => nomatch h) (own_cap hown5).1 (by have:=(own_cap hown5).2;unfold maxLen at this;omega)).mono ?_;rotate_left;rotate_left;rintro e w6 hE6;obtain ⟨hb6,rfl⟩:=hE6;rotate_left;(focus (exact bB4 hB0 hB3 hb4 hb5));(focus (have:=slv_own (by decide) hown5;(simpa [List.flatMap_append,ceV] using this)))));go_simp;refine hK.out _ _ ?_ (fun hHeld => ?_);(focus ((try dsimp only);((refine ⟨?_, ?_, ?_⟩;((first | exact bX3 hb4 hb5 hb6 | exact bX2 hb4 hb5 | exact bX1 hb4 | exact bX0));((first | exact bX3 hb4 hb5 hb6 | exact bX2 hb4 hb5 | exact bX1 hb4 | exact bX0));((first | exact bX3 hb4 hb5 hb6 | exact bX2 hb4 hb5 | exact bX1 hb4 | exact bX0))))));clear hK K;(try simp only [Act.put,pqs]);refine rgN 14 rfl ?_;refine wpAnyH_done (Q:=fun e a w => e = Exit.normal ∧ R a w) kR ⟨rfl,hR _ _ ?_⟩ _;clear hR R;(go_wp2_with fail;go_meet;exact ⟨(by exact bB3 hb4 hb5 hb6),rfl⟩)))))
        | some L =>
          ((focus (refine region_open kR (fun R hR => ?_);refine heldR (S:=(fun w' => Box w' g3 53 #[.slice AC C.length cC,.int .i64 fn,.int .i64 fd,.int .i64 l0,.int .i64 l1,.int .i64 l2] ∧ Box w' (g3 + 1) 147 #[.int .i64 b0,.int .i64 b1,.int .i64 b2] ∧ Box w' g8 69 #[.int .i64 px,.int .i64 py,.int .i64 nx,.int .i64 ny,.int .i64 m])) ?_ (fun hHeld => ?_);(focus ((try dsimp only);((refine ⟨?_, ?_, ?_⟩;((first | exact bX0 | exact bX1 hb4 | exact bX2 hb4 hb5 | exact bX3 hb4 hb5 hb6));((first | exact bX0 | exact bX1 hb4 | exact bX2 hb4 hb5 | exact bX3 hb4 hb5 hb6));((first | exact bX0 | exact bX1 hb4 | exact bX2 hb4 hb5 | exact bX3 hb4 hb5 hb6))))));have hO:=Lib.hid (fun w' (hSw : (fun w' => Box w' g3 53 #[.slice AC C.length cC,.int .i64 fn,.int .i64 fd,.int .i64 l0,.int .i64 l1,.int .i64 l2] ∧ Box w' (g3 + 1) 147 #[.int .i64 b0,.int .i64 b1,.int .i64 b2] ∧ Box w' g8 69 #[.int .i64 px,.int .i64 py,.int .i64 nx,.int .i64 ny,.int .i64 m]) w') => (by (try dsimp only at hSw);(obtain ⟨hSA,hSB,hSC⟩:=hSw;have sa0:=hSA.cell 0;have sa1:=hSA.cell 1;have sa2:=hSA.cell 2;have sa3:=hSA.cell 3;have sa4:=hSA.cell 4;have sa5:=hSA.cell 5;have sb0:=hSB.cell 0;have sb1:=hSB.cell 1;have sb2:=hSB.cell 2;have sc0:=hSC.cell 0;have sc1:=hSC.cell 1;have sc2:=hSC.cell 2;have sc3:=hSC.cell 3;have sc4:=hSC.cell 4;(simp at sa0 sa1 sa2 sa3 sa4 sa5 sb0 sb1 sb2 sc0 sc1 sc2 sc3 sc4));exact And.intro sa0 (And.intro sa1 (And.intro sa2 (And.intro sa3 (And.intro sa4 (And.intro sa5 (And.intro sb0 (And.intro sb1 (And.intro sb2 (And.intro sc0 (And.intro sc1 (And.intro sc2 (And.intro sc3 sc4))))))))))))));refine rgL 0 hO rfl ?_;refine rgL 1 hO rfl ?_;refine rgL 2 hO rfl ?_;refine rgN 3 rfl ?_;refine rgN 4 rfl ?_;refine rgN 6 rfl ?_;refine rgN 8 rfl ?_;refine rgN 9 rfl ?_;refine rgN 10 rfl ?_;refine wpAnyH_ready (rs:=[5,11]) kR (by simp) ?_;(focus (refine AllReadyH.cons rfl (fun K hK => ?_) ?_;rotate_left;refine AllReadyH.cons rfl (fun K hK => ?_) ?_;rotate_left;exact AllReadyH.nil));(focus (go_simp;((go_at_call 96;(with_reducible refine (AFc.out _).mono ?_);rintro e w4 ⟨rfl,hb4⟩;have hz4 : w3.heap.size ≤ w4.heap.size:=(by have:=hb4.size;(try simp at this);omega);have hB4 : Below w3.heap.size w3 w4:=(by exact bB1 hb4)));go_simp;refine hK.out _ _ ?_ (fun hHeld => ?_);(focus ((try dsimp only);((refine ⟨?_, ?_, ?_⟩;((first | exact bX3 hb4 hb5 hb6 | exact bX2 hb4 hb5 | exact bX1 hb4 | exact bX0));((first | exact bX3 hb4 hb5 hb6 | exact bX2 hb4 hb5 | exact bX1 hb4 | exact bX0));((first | exact bX3 hb4 hb5 hb6 | exact bX2 hb4 hb5 | exact bX1 hb4 | exact bX0))))));clear hK K;(try simp only [Act.put,pqs]);refine wpAnyH_ready (rs:=[7,11]) kR (by simp) ?_;(focus (refine AllReadyH.cons rfl (fun K hK => ?_) ?_;rotate_left;refine AllReadyH.cons rfl (fun K hK => ?_) ?_;rotate_left;exact AllReadyH.nil));(focus (go_simp;((go_at_call 154;(with_reducible refine (clip_c AF pre.length cF _ hcF.1 hcF.2 HAF.out).mono ?_);rintro e w' ⟨rfl,rfl⟩));go_simp;refine hK.out _ _ ?_ (fun hHeld => ?_);(focus ((try dsimp only);((refine ⟨?_, ?_, ?_⟩;((first | exact bX3 hb4 hb5 hb6 | exact bX2 hb4 hb5 | exact bX1 hb4 | exact bX0));((first | exact bX3 hb4 hb5 hb6 | exact bX2 hb4 hb5 | exact bX1 hb4 | exact bX0));((first | exact bX3 hb4 hb5 hb6 | exact bX2 hb4 hb5 | exact bX1 hb4 | exact bX0))))));clear hK K;(try simp only [Act.put,pqs]);refine rgC 11 rfl (fun K hK => ?_);go_simp;refine hK.out _ _ ?_ (fun hHeld => ?_);(focus ((try dsimp only);((refine ⟨?_, ?_, ?_⟩;((first | exact bX3 hb4 hb5 hb6 | exact bX2 hb4 hb5 | exact bX1 hb4 | exact bX0));((first | exact bX3 hb4 hb5 hb6 | exact bX2 hb4 hb5 | exact bX1 hb4 | exact bX0));((first | exact bX3 hb4 hb5 hb6 | exact bX2 hb4 hb5 | exact bX1 hb4 | exact bX0))))));clear hK K;(try simp only [Act.put,pqs])));rotate_left;(focus (go_simp;refine hK.out _ _ ?_ (fun hHeld => ?_);(focus ((try dsimp only);((refine ⟨?_, ?_, ?_⟩;((first | exact bX3 hb4 hb5 hb6 | exact bX2 hb4 hb5 | exact bX1 hb4 | exact bX0));((first | exact bX3 hb4 hb5 hb6 | exact bX2 hb4 hb5 | exact bX1 hb4 | exact bX0));((first | exact bX3 hb4 hb5 hb6 | exact bX2 hb4 hb5 | exact bX1 hb4 | exact bX0))))));clear hK K;(try simp only [Act.put,pqs]);refine rgC 7 rfl (fun K hK => ?_);go_simp;((go_at_call 154;(with_reducible refine (clip_c AF pre.length cF _ hcF.1 hcF.2 HAF.out).mono ?_);rintro e w' ⟨rfl,rfl⟩));go_simp;refine hK.out _ _ ?_ (fun hHeld => ?_);(focus ((try dsimp only);((refine ⟨?_, ?_, ?_⟩;((first | exact bX3 hb4 hb5 hb6 | exact bX2 hb4 hb5 | exact bX1 hb4 | exact bX0));((first | exact bX3 hb4 hb5 hb6 | exact bX2 hb4 hb5 | exact bX1 hb4 | exact bX0));((first | exact bX3 hb4 hb5 hb6 | exact bX2 hb4 hb5 | exact bX1 hb4 | exact bX0))))));clear hK K;(try simp only [Act.put,pqs])));rotate_left));rotate_left 2;(focus (go_simp;refine hK.out _ _ ?_ (fun hHeld => ?_);(focus ((try dsimp only);((refine ⟨?_, ?_, ?_⟩;((first | exact bX3 hb4 hb5 hb6 | exact bX2 hb4 hb5 | exact bX1 hb4 | exact bX0));((first | exact bX3 hb4 hb5 hb6 | exact bX2 hb4 hb5 | exact bX1 hb4 | exact bX0));((first | exact bX3 hb4 hb5 hb6 | exact bX2 hb4 hb5 | exact bX1 hb4 | exact bX0))))));clear hK K;(try simp only [Act.put,pqs]);refine rgC 5 rfl (fun K hK => ?_);go_simp;((go_at_call 96;(with_reducible refine (AFc.out _).mono ?_);rintro e w4 ⟨rfl,hb4⟩;have hz4 : w3.heap.size ≤ w4.heap.size:=(by have:=hb4.size;(try simp at this);omega);have hB4 : Below w3.heap.size w3 w4:=(by exact bB1 hb4)));go_simp;refine hK.out _ _ ?_ (fun hHeld => ?_);(focus ((try dsimp only);((refine ⟨?_, ?_, ?_⟩;((first | exact bX3 hb4 hb5 hb6 | exact bX2 hb4 hb5 | exact bX1 hb4 | exact bX0));((first | exact bX3 hb4 hb5 hb6 | exact bX2 hb4 hb5 | exact bX1 hb4 | exact bX0));((first | exact bX3 hb4 hb5 hb6 | exact bX2 hb4 hb5 | exact bX1 hb4 | exact bX0))))));clear hK K;(try simp only [Act.put,pqs]);refine rgC 7 rfl (fun K hK => ?_);go_simp;((go_at_call 154;(with_reducible refine (clip_c AF pre.length cF _ hcF.1 hcF.2 HAF.out).mono ?_);rintro e w' ⟨rfl,rfl⟩));go_simp;refine hK.out _ _ ?_ (fun hHeld => ?_);(focus ((try dsimp only);((refine ⟨?_, ?_, ?_⟩;((first | exact bX3 hb4 hb5 hb6 | exact bX2 hb4 hb5 | exact bX1 hb4 | exact bX0));((first | exact bX3 hb4 hb5 hb6 | exact bX2 hb4 hb5 | exact bX1 hb4 | exact bX0));((first | exact bX3 hb4 hb5 hb6 | exact bX2 hb4 hb5 | exact bX1 hb4 | exact bX0))))));clear hK K;(try simp only [Act.put,pqs])));rotate_left;all_goals (refine rgC 12 rfl (fun K hK => ?_);((refine step_append_grows rfl _ _ 54 rfl 22 u9 zC 2 16 Tryz.underlying54 hu0 hy0 hy1 hy2 hy3 (by decide) AF pre.length pre.length (pre.flatMap ceV) rfl (fun h => ⟨(HAF.out h).1,(HAF.out h).1⟩) HLO.out (slv_add (HSF.out.below ?_)) _ 1 1 [.int .i64 n,.int .i64 t] rfl rfl (cells_box (t:=22) ?_) (by simp [Value.oneCell']) (by omega) hm1 hm2 ?_;rotate_left;rotate_left;intro v' w5 hown5 hgrow5;obtain ⟨gN,capN,rfl,hgN,hgN2⟩:=own_pos hown5 (by omega) (by decide);have hb5:=(Below.refl _ _).grown hgrow5 (Nat.le_refl _) (fun k e => nomatch e);have hz5 : w4.heap.size ≤ w5.heap.size:=(by have:=hb5.size;(try simp at this);omega);rotate_left;(focus (exact bB3 hB0 hB3 hb4));(focus (exact bX1 hb4))));go_simp;refine hK.out _ _ ?_ (fun hHeld => ?_);(focus ((try dsimp only);((refine ⟨?_, ?_, ?_⟩;((first | exact bX3 hb4 hb5 hb6 | exact bX2 hb4 hb5 | exact bX1 hb4 | exact bX0));((first | exact bX3 hb4 hb5 hb6 | exact bX2 hb4 hb5 | exact bX1 hb4 | exact bX0));((first | exact bX3 hb4 hb5 hb6 | exact bX2 hb4 hb5 | exact bX1 hb4 | exact bX0))))));clear hK K;(try simp only [Act.put,pqs]);refine rgC 13 rfl (fun K hK => ?_);go_simp;((go_at_call 101;refine (HREC2.out (some ⟨gN,0,none⟩) capN w5 ?_ ?_ (fun h => nomatch h) (own_cap hown5).1 (by have:=(own_cap hown5).2;unfold maxLen at this;omega)).mono ?_;rotate_left;rotate_left;rintro e w6 hE6;obtain ⟨hb6,A6,c6,hA6,rfl,hv6⟩:=hE6;rotate_left;(focus (exact bB4 hB0 hB3 hb4 hb5));(focus (have:=slv_own (by decide) hown5;(simpa [List.flatMap_append,ceV] using this)))));go_simp;refine hK.out _ _ ?_ (fun hHeld => ?_);(focus ((try dsimp only);((refine ⟨?_, ?_, ?_⟩;((first | exact bX3 hb4 hb5 hb6 | exact bX2 hb4 hb5 | exact bX1 hb4 | exact bX0));((first | exact bX3 hb4 hb5 hb6 | exact bX2 hb4 hb5 | exact bX1 hb4 | exact bX0));((first | exact bX3 hb4 hb5 hb6 | exact bX2 hb4 hb5 | exact bX1 hb4 | exact bX0))))));clear hK K;(try simp only [Act.put,pqs]);refine rgN 14 rfl ?_;refine wpAnyH_done (Q:=fun e a w => e = Exit.normal ∧ R a w) kR ⟨rfl,hR _ _ ?_⟩ _;clear hR R;(go_wp2_with fail;go_meet;exact ⟨(by exact bB3 hb4 hb5 hb6),A6,c6,hA6,(by simp),hv6⟩)))))
      case rest =>
        have hW2:=HWh.out.keep hB3
        cases HE with
        | none =>
          obtain ⟨hBw,rfl⟩:=hcut
          have hW5:=hW2.keep hBw
          have HR3:=Lib.hid (show frF (fun t => if stB fn fd m n t then (heP fn fd C' (afP (b0,b1,b2) ((px,py),(nx,ny),m) n t)).map fun L => (n,t) :: L else none) k (t + 1) = R by have:=HR2.out;simpa using this)
          have HW5:=Lib.hid hW5
          clear hW5 hW2 HR2
          go_wp2
          exact HIH.out (t + 1) _ _ _ _ _ _ _ _ _ _ _ _ _ _ _ _ _ _ _ _ _ _ _ _ _ _ _ _ _ _ _ _ _ _ _ _ _ _ _ _ _ _ _ _ _ _ _ _ _ _ _ _ _ _ _ _ _ _ _ (by omega) (by omega) HW5.out HR3.out
        | some L =>
          obtain ⟨hBw,A,c,hA,hs11,hv⟩:=hcut
          have e : (pre ++ [(n,t)]).length + L.length = pre.length + ((n,t) :: L).length:=by simp;omega
          rw [e] at hs11
          have hv2 : SlV wc A ((pre ++ (n,t) :: L).flatMap ceV):=by simpa using hv
          have HBw:=Lib.hid (hW2.below.trans (hBw.mono hW2.below.size))
          have HR3:=Lib.hid (show R = some ((n,t) :: L) by have:=HR2.out;simpa using this.symm)
          have HV2:=Lib.hid hv2
          clear hv hv2 hW2 HR2 e hBw
          subst hs11
          cases A with
          | none => exact absurd rfl hA
          | some a =>
            clear hA
            go_wp2
            exact HQ2.out _ HR3.out wc t (some a) c _ _ _ _ _ _ _ _ _ _ _ _ _ _ _ _ _ _ _ _ _ _ _ _ _ _ _ _ _ _ _ _ _ _ _ _ _ _ _ _ _ _ _ _ _ _ _ _ _ _ _ _ _ _ _ _ _ _ _ _ _ _ _ _ _ _ (fun h => nomatch h) HV2.out HBw.out
end Go.Proofs.YtpnfgmgoafgcbaaGreat

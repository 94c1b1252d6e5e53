/-
  The texts Plain, Base in one.
-/
import Derived.Lib.Hide
import Derived.Test.YtpnfgmgoafgcbaaGreatProg
import Derived.WalkKit
import Derived.WalkSpells
import Derived.WalkLawsBesides
import Derived.Deep.QuietTactic
import Derived.BigQuiet
import Derived.Deep.RegionWith
import Derived.StillTailTactics
import Derived.Shelf.Abstract
import Derived.Deep.RegionHeld
set_option linter.all false
/-
  Plain words for chapter 6 (arm): scenes, poses, joints, cells, sweeps and moves, with no program in sight.
-/
set_option linter.unusedVariables false
namespace Go.Proofs.YtpnfgmgoafgcbaaGreat
def inB (n lo hi : Int) : Bool:=decide (lo ≤ n) && decide (n ≤ hi)
theorem inB_true {n lo hi : Int} : inB n lo hi = true ↔ lo ≤ n ∧ n ≤ hi:=by simp [inB]
def unl (b : Bool) (e : Int) : Int:=if b then 0 else e
def fstE : List Int → Int
  | [] => 0
  | e :: l => if e = 0 then fstE l else e
def cmpI (a b : Int) : Int:=if a < b then -1 else if b < a then 1 else 0
theorem unl_zero {b : Bool} {e : Int} (he : e ≠ 0) : unl b e = 0 ↔ b = true:=by cases b <;> simp [unl,he]
theorem fstE_zero : ∀ {l : List Int},fstE l = 0 ↔ ∀ e ∈ l,e = 0
  | [] => by simp [fstE]
  | e :: l => by
    unfold fstE
    by_cases h : e = 0
    · rw [if_pos h,fstE_zero];simp [h]
    · rw [if_neg h];simp [h]
theorem fstE_cons {e : Int} {l : List Int} : fstE (e :: l) = if e = 0 then fstE l else e:=rfl
/-- A cell; a box (xlo, xhi, ylo, yhi); a link (length, lo, hi); a pose (slide, quarters); a move (joint, by). -/
abbrev Ce:=Int × Int
abbrev Bx:=Int × Int × Int × Int
abbrev Lk:=Int × Int × Int
abbrev Ps:=Int × List Int
abbrev Mv:=Int × Int
structure Sc where
  bx : Int
  bY : Int
  sl : Int
  L : List Lk
  F : Bx
  B : List Bx
/-- The error of a box, of a link; of a list's items, with an index. -/
def szB (n : Int) : Bool:=inB n (-20) 20
def bxE (b : Bx) : Int:=fstE [unl (szB b.1 && szB b.2.1 && (szB b.2.2.1 && szB b.2.2.2)) 2,unl (decide (b.1 ≤ b.2.1) && decide (b.2.2.1 ≤ b.2.2.2)) 9]
def lkE (l : Lk) : Int:=fstE [unl (inB l.1 1 4 && inB l.2.1 (-2) 2 && inB l.2.2 (-2) 2) 2,unl (decide (l.2.1 ≤ l.2.2)) 9]
def eachF {α : Type} (f : α → Int) : Nat → List α → Int × Int
  | _,[] => (0,0)
  | i,x :: l => if f x = 0 then eachF f (i + 1) l else (i,f x)
def eachE {α : Type} (f : α → Int) (l : List α) : Int × Int:=eachF f 0 l
theorem eachF_zero {α : Type} {f : α → Int} : ∀ {l : List α} {i : Nat},(eachF f i l).2 = 0 ↔ ∀ x ∈ l,f x = 0
  | [],i => by simp [eachF]
  | x :: l,i => by
    unfold eachF
    by_cases h : f x = 0
    · rw [if_pos h,eachF_zero];simp [h]
    · rw [if_neg h];simp [h]
def inBx (b : Bx) (c : Ce) : Bool:=inB c.1 b.1 b.2.1 && inB c.2 b.2.2.1 b.2.2.2
def meetB (a b : Bx) : Bool:=decide (a.1 ≤ b.2.1) && decide (b.1 ≤ a.2.1) && decide (a.2.2.1 ≤ b.2.2.2) && decide (b.2.2.1 ≤ a.2.2.2)
/-- The first error of a scene. -/
def scE0 (s : Sc) : Int:=fstE [bxE s.F,unl (inBx s.F (s.bx,s.bY) && inB s.sl 0 6) 2,unl (decide (0 < s.L.length)) 10,unl (decide (s.L.length ≤ 3)) 8]
def scP (s : Sc) : Int × Int :=
  if scE0 s ≠ 0 then (0,scE0 s) else if (eachE lkE s.L).2 ≠ 0 then eachE lkE s.L else if 6 < s.B.length then (0,8) else eachE bxE s.B
def scE (s : Sc) : Int:=(scP s).2
/-- What holds of a valid scene, of a pose of it. -/
structure SOk (s : Sc) : Prop where
  bx : -20 ≤ s.bx ∧ s.bx ≤ 20
  bY : -20 ≤ s.bY ∧ s.bY ≤ 20
  sl : 0 ≤ s.sl ∧ s.sl ≤ 6
  len : 1 ≤ s.L.length ∧ s.L.length ≤ 3
  lk : ∀ l ∈ s.L,1 ≤ l.1 ∧ l.1 ≤ 4 ∧ -2 ≤ l.2.1 ∧ l.2.1 ≤ l.2.2 ∧ l.2.2 ≤ 2
  F : bxE s.F = 0
  nB : s.B.length ≤ 6
  B : ∀ b ∈ s.B,bxE b = 0
theorem bxE_ok {b : Bx} : bxE b = 0 ↔ (-20 ≤ b.1 ∧ b.1 ≤ b.2.1 ∧ b.2.1 ≤ 20) ∧ (-20 ≤ b.2.2.1 ∧ b.2.2.1 ≤ b.2.2.2 ∧ b.2.2.2 ≤ 20):=by
  unfold bxE szB
  rw [fstE_zero]
  simp [unl_zero,inB]
  omega
theorem lkE_ok {l : Lk} : lkE l = 0 ↔ 1 ≤ l.1 ∧ l.1 ≤ 4 ∧ -2 ≤ l.2.1 ∧ l.2.1 ≤ l.2.2 ∧ l.2.2 ≤ 2:=by
  unfold lkE
  rw [fstE_zero]
  simp [unl_zero,inB]
  omega
theorem scE_ok {s : Sc} (h : scE s = 0) : SOk s:=by
  unfold scE scP at h
  split at h
  · rename_i h0;exact absurd h h0
  · rename_i h0
    have h0 : scE0 s = 0:=by simpa using h0
    split at h
    · rename_i h1;exact absurd h h1
    · rename_i h1
      have h1 : (eachE lkE s.L).2 = 0:=by simpa using h1
      split at h
      · simp at h
      · rename_i h2
        unfold eachE at h1 h
        rw [eachF_zero] at h1 h
        unfold scE0 at h0
        rw [fstE_zero] at h0
        simp only [List.mem_cons,List.not_mem_nil,or_false,forall_eq_or_imp,forall_eq] at h0
        obtain ⟨a,b,c,d⟩:=h0
        have a':=bxE_ok.1 a
        rw [unl_zero (by decide)] at b c d
        simp [inBx,inB] at b c d
        exact ⟨by omega,by omega,by omega,by omega,fun l hl => lkE_ok.1 (h1 l hl),a,by omega,h⟩
/-- The error of the numbers of a pose with as many quarters as links. -/
def inLk : Lk → Int → Bool:=fun l q => inB q l.2.1 l.2.2
def qsOk : List Lk → List Int → Bool
  | l :: L,q :: Q => inLk l q && qsOk L Q
  | _,_ => true
def psE (s : Sc) (p : Ps) : Int:=if inB p.1 0 s.sl && qsOk s.L p.2 then 0 else 2
/-- The error of a scene and a pose. -/
def cpE (s : Sc) (p : Ps) : Int :=
  if fstE [scE s,unl (inB p.1 0 s.sl) 2,unl (p.2.length == s.L.length) 10] ≠ 0 then fstE [scE s,unl (inB p.1 0 s.sl) 2,unl (p.2.length == s.L.length) 10] else psE s p
structure POk (s : Sc) (p : Ps) : Prop where
  sl : 0 ≤ p.1 ∧ p.1 ≤ s.sl
  len : p.2.length = s.L.length
  qs : qsOk s.L p.2 = true
theorem psE_ok {s : Sc} {p : Ps} : psE s p = 0 ↔ inB p.1 0 s.sl = true ∧ qsOk s.L p.2 = true:=by
  unfold psE
  split
  · rename_i h;simpa using h
  · rename_i h;simp at h;simp;exact fun a => by simpa using h a
theorem cpE_ok {s : Sc} {p : Ps} (h : cpE s p = 0) : SOk s ∧ POk s p:=by
  unfold cpE at h
  split at h
  · rename_i h0;exact absurd h h0
  · rename_i h0
    have h0:=Decidable.of_not_not h0
    rw [fstE_zero] at h0
    simp only [List.mem_cons,List.not_mem_nil,or_false,forall_eq_or_imp,forall_eq] at h0
    obtain ⟨a,b,c⟩:=h0
    rw [unl_zero (by decide)] at b c
    rw [psE_ok] at h
    exact ⟨scE_ok a,by simpa [inB] using b,by simpa using c,h.2⟩
/-- The directions. -/
def dirX (t : Int) : Int:=if t % 4 = 0 then 1 else if t % 4 = 2 then -1 else 0
def dirY (t : Int) : Int:=if t % 4 = 1 then 1 else if t % 4 = 3 then -1 else 0
def jtsF (x y t : Int) : List Lk → List Int → List Ce
  | l :: L,q :: Q => (x + l.1 * dirX (t + q),y + l.1 * dirY (t + q)) :: jtsF (x + l.1 * dirX (t + q)) (y + l.1 * dirY (t + q)) (t + q) L Q
  | _,_ => []
def jts (s : Sc) (p : Ps) : List Ce:=(s.bx + p.1,s.bY) :: jtsF (s.bx + p.1) s.bY 0 s.L p.2
theorem jtsF_len : ∀ (L : List Lk) (Q : List Int) (x y t : Int),Q.length = L.length → (jtsF x y t L Q).length = L.length
  | [],[],_,_,_,_ => rfl
  | l :: L,q :: Q,x,y,t,h => by simp [jtsF];exact jtsF_len L Q _ _ _ (by simpa using h)
  | [],q :: Q,_,_,_,h => by simp at h
  | l :: L,[],_,_,_,h => by simp at h
theorem jts_len {s : Sc} {p : Ps} (h : p.2.length = s.L.length) : (jts s p).length = s.L.length + 1:=by simp [jts,jtsF_len _ _ _ _ _ h]
/-- The cells on a line of n + 1 cells from a cell on. -/
def segN (a : Ce) (dx dy : Int) (n : Nat) : List Ce:=(List.range n).map fun (k : Nat) => (a.1 + k * dx,a.2 + k * dy)
def dst (a b : Ce) : Nat:=max (b.1 - a.1).natAbs (b.2 - a.2).natAbs
def seg (a b : Ce) : List Ce:=segN a (cmpI b.1 a.1) (cmpI b.2 a.2) (dst a b + 1)
def segs : List Ce → List Ce
  | a :: b :: r => seg a b ++ segs (b :: r)
  | _ => []
def clP (s : Sc) (p : Ps) (i : Nat) : List Ce:=segs ((jts s p).drop i)
def onlyP (c : Ce) : Bx:=(c.1,c.1,c.2,c.2)
def withP (b : Bx) (c : Ce) : Bx:=(min b.1 c.1,max b.2.1 c.1,min b.2.2.1 c.2,max b.2.2.2 c.2)
/-- Whether a box leaves the field or meets a box; whether a pose is free. -/
def tkn (s : Sc) (b : Bx) : Bool:=!(inBx s.F (b.1,b.2.2.1) && inBx s.F (b.2.1,b.2.2.2)) || s.B.any fun x => meetB x b
def freeP (s : Sc) (p : Ps) : Bool:=(clP s p 0).all fun c => !tkn s (onlyP c)
/-- The pose after a move, and its error; the sweep. -/
def mvE (s : Sc) (m : Mv) : Int:=fstE [unl (inB m.1 (-1) (s.L.length - 1)) 6,unl (m.2 == 1 || m.2 == -1) 2]
def addAt : List Int → Nat → Int → List Int
  | [],_,_ => []
  | q :: Q,0,b => (q + b) :: Q
  | q :: Q,i + 1,b => q :: addAt Q i b
def mvd (p : Ps) (m : Mv) : Ps:=if m.1 = -1 then (p.1 + m.2,p.2) else (p.1,addAt p.2 m.1.toNat m.2)
def mvdE (s : Sc) (p : Ps) (m : Mv) : Int:=unl (psE s (mvd p m) == 0) 22
def swI (m : Mv) : Nat:=m.1.toNat
def swBx (s : Sc) (p : Ps) (m : Mv) : Bx:=(clP s (mvd p m) (swI m)).foldl withP ((clP s p (swI m)).foldl withP (onlyP ((jts s p).getD (swI m) (0,0))))
def swP (s : Sc) (p : Ps) (m : Mv) : Bx × Int:=if mvdE s p m ≠ 0 then ((0,0,0,0),mvdE s p m) else (swBx s p m,0)
/-- Whether a move may be made. -/
def mayP (s : Sc) (p : Ps) (m : Mv) : Bool:=mvdE s p m == 0 && !tkn s (swBx s p m) && freeP s (mvd p m)
/-- All moves in order. -/
def allM (s : Sc) : List Mv:=(List.range (s.L.length + 1)).flatMap fun (j : Nat) => [((j : Int) - 1,-1),((j : Int) - 1,1)]
def mvs (s : Sc) (p : Ps) : List Mv:=(allM s).filter fun m => mayP s p m
end Go.Proofs.YtpnfgmgoafgcbaaGreat
/-
  Plain words for the walks of chapter 6 (arm): slices that read as lists, small functions, and the contracts of the smallest functions.
-/
set_option linter.unusedVariables false
namespace Go.Proofs.YtpnfgmgoafgcbaaGreat
open Go.RowKit
/-- A slice whose cells are one word each reads as a list of words. -/
def SlV (w : World) (A : Option Addr) (xs : List Value) : Prop :=
  ∀ j u,xs[j]? = some u → ∃ b off,A = some ⟨b,off,none⟩ ∧ b < w.heap.size ∧ w.cell? ⟨b,off + j,none⟩ = some u
def SlI (w : World) (A : Option Addr) (xs : List Int) : Prop :=
  ∀ j u,xs[j]? = some u → ∃ b off,A = some ⟨b,off,none⟩ ∧ b < w.heap.size ∧ w.cell? ⟨b,off + j,none⟩ = some (.int .i64 u)
theorem SlI.below {w w' : World} {A : Option Addr} {xs : List Int} (h : SlI w A xs) (hb : Below w.heap.size w w') : SlI w' A xs:=fun j u hj => by
  obtain ⟨b,off,hA,hlt,hc⟩:=h j u hj
  exact ⟨b,off,hA,Nat.lt_of_lt_of_le hlt hb.size,(hb.cell (p:=⟨b,off + j,none⟩) hlt).trans hc⟩
theorem SlI.alloc {w : World} {A : Option Addr} {xs : List Int} (h : SlI w A xs) (o : Obj) : SlI (w.alloc o) A xs:=h.below ((Below.refl _ _).alloc (Nat.le_refl _) o)
theorem SlI.nil (w : World) (A : Option Addr) : SlI w A []:=fun j u h => by simp at h
theorem SlV.below {w w' : World} {A : Option Addr} {xs : List Value} (h : SlV w A xs) (hb : Below w.heap.size w w') : SlV w' A xs:=fun j u hj => by
  obtain ⟨b,off,hA,hlt,hc⟩:=h j u hj
  exact ⟨b,off,hA,Nat.lt_of_lt_of_le hlt hb.size,(hb.cell (p:=⟨b,off + j,none⟩) hlt).trans hc⟩
theorem bcell {W w1 : World} (hb : Below W.heap.size W w1) : (∀ b o,b < W.heap.size → w1.cell? ⟨b,o,none⟩ = W.cell? ⟨b,o,none⟩) ∧ (∀ b o,b < W.heap.size → w1.frozen? ⟨b,o,none⟩ = W.frozen? ⟨b,o,none⟩) :=
  ⟨fun b o h => hb.cell (p:=⟨b,o,none⟩) h,fun b o h => hb.frozen (p:=⟨b,o,none⟩) h⟩
theorem ret_b {a b : Bool} (h : a = b) : Ending.returned (.bool a) = .returned (.bool b):=by rw [h]
theorem ret_i {k : IntKind} {a b : Int} (h : a = b) : Ending.returned (.int k a) = .returned (.int k b):=by rw [h]
theorem ret_t2 {a b c d : Value} (h : a = c) (k : b = d) : Ending.returned (.tuple #[a,b]) = .returned (.tuple #[c,d]):=by rw [h,k]
theorem ret_ii {k l : IntKind} {a b c d : Int} (h : a = c) (h' : b = d) : Ending.returned (.tuple #[.int k a,.int l b]) = .returned (.tuple #[.int k c,.int l d]):=by rw [h,h']
theorem beqF {a b : Int} (h : a ≠ b) : (a == b) = false:=by simpa using h
theorem beqT {a b : Int} (h : a = b) : (a == b) = true:=by simpa using h
theorem bneF {a b : Int} (h : a = b) : (a != b) = false:=by simpa using h
theorem bneT {a b : Int} (h : a ≠ b) : (a != b) = true:=by simpa using h
theorem vint {k : IntKind} {a b : Int} (h : a = b) : Value.int k a = .int k b:=by rw [h]
theorem vbool {a b : Bool} (h : a = b) : Value.bool a = .bool b:=by rw [h]
theorem below_drewN {B : Nat} {a w : World} (h : Below B a w) (n : Nat) : Below B a (w.drewN n):=⟨h.os,h.tape,h.output,h.size,h.block⟩
/-- A slice literal of ints: cells of a new block. -/
theorem sli_new (w : World) (xs : List Int) (t : TypeId) : SlI (w.alloc (.cells ((xs.map (Value.int .i64)).toArray) t)) (some ⟨w.heap.size,0,none⟩) xs:=fun j u hj => by
  refine ⟨w.heap.size,0,rfl,by simp, ?_⟩
  have h:=heap_alloc_new w (.cells ((xs.map (Value.int .i64)).toArray) t)
  simp only [World.cell?,h]
  simp [hj]
/-- Block g holds exactly the cells cs, none of them frozen. -/
def Box (w : World) (g : Nat) (t : TypeId) (cs : Array Value) : Prop:=w.heap[g]? = some (.cells cs t (0,0))
section
variable {w w' : World} {g : Nat} {t : TypeId} {cs : Array Value}
theorem Box.lt (h : Box w g t cs) : g < w.heap.size:=(Array.getElem?_eq_some_iff.1 h).1
theorem Box.cell (h : Box w g t cs) (i : Nat) : w.cell? ⟨g,i,none⟩ = cs[i]?:=by unfold Box at h;simp [World.cell?,h]
theorem Box.froz (h : Box w g t cs) (i : Nat) : w.frozen? ⟨g,i,none⟩ = false:=by unfold Box at h;simp [World.frozen?,h]
theorem Box.new (w : World) (t : TypeId) (cs : Array Value) : Box (w.alloc (.cells cs t)) w.heap.size t cs:=heap_alloc_new w _
theorem Box.newAt (w : World) (t : TypeId) (cs : Array Value) (g : Nat) (hg : g = w.heap.size) : Box (w.alloc (.cells cs t)) g t cs:=hg ▸ Box.new w t cs
theorem Box.alloc (h : Box w g t cs) (o : Obj) : Box (w.alloc o) g t cs:=(Below.heap_alloc w o g h.lt).trans h
theorem Box.drewN (h : Box w g t cs) (n : Nat) : Box (w.drewN n) g t cs:=h
theorem Box.drew (h : Box w g t cs) : Box w.drew g t cs:=h
theorem Box.set (h : Box w g t cs) (i : Nat) (u : Value) : Box (w.setCell ⟨g,i,none⟩ u) g t (cs.setIfInBounds i u):=by
  unfold Box at h ⊢;simp [World.setCell,Array.getElem?_modify,h]
theorem Box.far (h : Box w g t cs) {p : Addr} (hp : g ≠ p.block) (u : Value) : Box (w.setCell p u) g t cs:=(Below.heap_setCell w p u g hp).trans h
theorem Box.congr {cs' : Array Value} (h : Box w g t cs) (e : cs = cs') : Box w g t cs':=e ▸ h
theorem Box.below {B : Nat} (h : Box w g t cs) (hb : Below B w w') (hg : g < B) : Box w' g t cs:=(hb.block g hg).trans h
end
/- Short names, for texts that a program of mine prints. -/
theorem bq0 (zqB : Nat) (zqw : World) : Below zqB zqw zqw:=.refl zqB zqw
theorem bq1 {zqB : Nat} {zqa zqw : World} (zqh : Below zqB zqa zqw) {zqp : Addr} (zqk : zqB ≤ zqp.block) (zqu : Value) : Below zqB zqa (zqw.setCell zqp zqu):=zqh.setCell zqk zqu
theorem bq2 {zqB : Nat} {zqa zqw : World} (zqh : Below zqB zqa zqw) (zqk : zqB ≤ zqw.heap.size) (zqo : Obj) : Below zqB zqa (zqw.alloc zqo):=zqh.alloc zqk zqo
theorem bq3 {zqB : Nat} {zqa zqw : World} (zqh : Below zqB zqa zqw) (zqn : Nat) : Below zqB zqa (zqw.drewN zqn):=below_drewN zqh zqn
theorem bq4 {zqB : Nat} {zqa zqw : World} (zqh : Below zqB zqa zqw) : Below zqB zqa zqw.drew:=zqh.drew
theorem bqT {zqB zqC : Nat} {zqa zqb zqc : World} (zqk : Below zqC zqb zqc) (zqh : Below zqB zqa zqb) (zqp : zqB ≤ zqC) : Below zqB zqa zqc:=zqh.trans (zqk.mono zqp)
section
variable {zqw zqv : World} {zqg : Nat} {zqt : TypeId} {zqs zqr : Array Value}
theorem bx0 (zqh : Box zqw zqg zqt zqs) (zqe : zqs = zqr) : Box zqw zqg zqt zqr:=zqe ▸ zqh
theorem bx1 (zqw : World) (zqt : TypeId) (zqs : Array Value) : Box (zqw.alloc (.cells zqs zqt)) zqw.heap.size zqt zqs:=.new zqw zqt zqs
theorem bx2 (zqw : World) (zqt : TypeId) (zqs : Array Value) (zqg : Nat) (zqe : zqg = zqw.heap.size) : Box (zqw.alloc (.cells zqs zqt)) zqg zqt zqs:=.newAt zqw zqt zqs zqg zqe
theorem bx3 (zqh : Box zqw zqg zqt zqs) : Box zqw.drew zqg zqt zqs:=zqh
theorem bx4 (zqh : Box zqw zqg zqt zqs) (zqn : Nat) : Box (zqw.drewN zqn) zqg zqt zqs:=zqh
theorem bx5 (zqh : Box zqw zqg zqt zqs) (zqi : Nat) (zqu : Value) : Box (zqw.setCell ⟨zqg,zqi,none⟩ zqu) zqg zqt (zqs.setIfInBounds zqi zqu):=zqh.set zqi zqu
theorem bx6 (zqh : Box zqw zqg zqt zqs) (zqo : Obj) : Box (zqw.alloc zqo) zqg zqt zqs:=zqh.alloc zqo
theorem bx7 (zqh : Box zqw zqg zqt zqs) {zqp : Addr} (zqk : zqg ≠ zqp.block) (zqu : Value) : Box (zqw.setCell zqp zqu) zqg zqt zqs:=zqh.far zqk zqu
theorem bxB {zqB : Nat} (zqh : Box zqw zqg zqt zqs) (zqb : Below zqB zqw zqv) (zqk : zqg < zqB) : Box zqv zqg zqt zqs:=zqh.below zqb zqk
end
/- Side conditions: each lemma's last hypothesis has a proof by default, so that a text names only the facts that the proof wants. -/
theorem bB0 {p : Prop} (h : p:=by first | (focus ((with_reducible repeat first | apply bq0 | apply bq1 | apply bq2 | apply bq3 | apply bq4);all_goals first | omega | (simp;first | done | omega))) | fail) : p:=h
theorem bX0 {p : Prop} (h : p:=by first | (focus (apply bx0;(with_reducible repeat first | assumption | apply bx1 | (apply bx2;focus (simp;done)) | apply bx3 | apply bx4 | apply bx5 | apply bx6 | apply bx7);all_goals first | omega | (simp;first | done | omega))) | fail) : p:=h
theorem bB1 {p : Prop} {B1 : Nat} {a1 b1 : World} (k1 : Below B1 a1 b1) (h : Below B1 a1 b1 → p:=by intro k1;first | (focus ((with_reducible repeat first | apply bq0 | apply bq1 | apply bq2 | apply bq3 | apply bq4 | apply bqT k1);all_goals first | omega | (simp;first | done | omega) | (have:=k1.size;(try simp at this);first | omega | (simp;omega)))) | fail) : p:=h k1
theorem bX1 {p : Prop} {B1 : Nat} {a1 b1 : World} (k1 : Below B1 a1 b1) (h : Below B1 a1 b1 → p:=by intro k1;first | (focus (apply bx0;(with_reducible repeat first | assumption | apply bx1 | (apply bx2;focus (simp;done)) | apply bx3 | apply bx4 | apply bx5 | apply bx6 | apply bx7 | apply bxB (zqb:=k1));all_goals first | omega | (simp;first | done | omega) | (have:=k1.size;(try simp at this);first | omega | (simp;omega)))) | fail) : p:=h k1
theorem bB2 {p : Prop} {B1 : Nat} {a1 b1 : World} (k1 : Below B1 a1 b1) {B2 : Nat} {a2 b2 : World} (k2 : Below B2 a2 b2) (h : Below B1 a1 b1 → Below B2 a2 b2 → p:=by intro k1 k2;first | (focus ((with_reducible repeat first | apply bq0 | apply bq1 | apply bq2 | apply bq3 | apply bq4 | apply bqT k1 | apply bqT k2);all_goals first | omega | (simp;first | done | omega) | (have:=And.intro k1.size k2.size;(try simp at this);first | omega | (simp;omega)))) | fail) : p:=h k1 k2
theorem bX2 {p : Prop} {B1 : Nat} {a1 b1 : World} (k1 : Below B1 a1 b1) {B2 : Nat} {a2 b2 : World} (k2 : Below B2 a2 b2) (h : Below B1 a1 b1 → Below B2 a2 b2 → p:=by intro k1 k2;first | (focus (apply bx0;(with_reducible repeat first | assumption | apply bx1 | (apply bx2;focus (simp;done)) | apply bx3 | apply bx4 | apply bx5 | apply bx6 | apply bx7 | apply bxB (zqb:=k1) | apply bxB (zqb:=k2));all_goals first | omega | (simp;first | done | omega) | (have:=And.intro k1.size k2.size;(try simp at this);first | omega | (simp;omega)))) | fail) : p:=h k1 k2
theorem bB3 {p : Prop} {B1 : Nat} {a1 b1 : World} (k1 : Below B1 a1 b1) {B2 : Nat} {a2 b2 : World} (k2 : Below B2 a2 b2) {B3 : Nat} {a3 b3 : World} (k3 : Below B3 a3 b3) (h : Below B1 a1 b1 → Below B2 a2 b2 → Below B3 a3 b3 → p:=by intro k1 k2 k3;first | (focus ((with_reducible repeat first | apply bq0 | apply bq1 | apply bq2 | apply bq3 | apply bq4 | apply bqT k1 | apply bqT k2 | apply bqT k3);all_goals first | omega | (simp;first | done | omega) | (have:=And.intro k1.size (And.intro k2.size k3.size);(try simp at this);first | omega | (simp;omega)))) | fail) : p:=h k1 k2 k3
theorem bX3 {p : Prop} {B1 : Nat} {a1 b1 : World} (k1 : Below B1 a1 b1) {B2 : Nat} {a2 b2 : World} (k2 : Below B2 a2 b2) {B3 : Nat} {a3 b3 : World} (k3 : Below B3 a3 b3) (h : Below B1 a1 b1 → Below B2 a2 b2 → Below B3 a3 b3 → p:=by intro k1 k2 k3;first | (focus (apply bx0;(with_reducible repeat first | assumption | apply bx1 | (apply bx2;focus (simp;done)) | apply bx3 | apply bx4 | apply bx5 | apply bx6 | apply bx7 | apply bxB (zqb:=k1) | apply bxB (zqb:=k2) | apply bxB (zqb:=k3));all_goals first | omega | (simp;first | done | omega) | (have:=And.intro k1.size (And.intro k2.size k3.size);(try simp at this);first | omega | (simp;omega)))) | fail) : p:=h k1 k2 k3
theorem bB4 {p : Prop} {B1 : Nat} {a1 b1 : World} (k1 : Below B1 a1 b1) {B2 : Nat} {a2 b2 : World} (k2 : Below B2 a2 b2) {B3 : Nat} {a3 b3 : World} (k3 : Below B3 a3 b3) {B4 : Nat} {a4 b4 : World} (k4 : Below B4 a4 b4) (h : Below B1 a1 b1 → Below B2 a2 b2 → Below B3 a3 b3 → Below B4 a4 b4 → p:=by intro k1 k2 k3 k4;first | (focus ((with_reducible repeat first | apply bq0 | apply bq1 | apply bq2 | apply bq3 | apply bq4 | apply bqT k1 | apply bqT k2 | apply bqT k3 | apply bqT k4);all_goals first | omega | (simp;first | done | omega) | (have:=And.intro k1.size (And.intro k2.size (And.intro k3.size k4.size));(try simp at this);first | omega | (simp;omega)))) | fail) : p:=h k1 k2 k3 k4
theorem bX4 {p : Prop} {B1 : Nat} {a1 b1 : World} (k1 : Below B1 a1 b1) {B2 : Nat} {a2 b2 : World} (k2 : Below B2 a2 b2) {B3 : Nat} {a3 b3 : World} (k3 : Below B3 a3 b3) {B4 : Nat} {a4 b4 : World} (k4 : Below B4 a4 b4) (h : Below B1 a1 b1 → Below B2 a2 b2 → Below B3 a3 b3 → Below B4 a4 b4 → p:=by intro k1 k2 k3 k4;first | (focus (apply bx0;(with_reducible repeat first | assumption | apply bx1 | (apply bx2;focus (simp;done)) | apply bx3 | apply bx4 | apply bx5 | apply bx6 | apply bx7 | apply bxB (zqb:=k1) | apply bxB (zqb:=k2) | apply bxB (zqb:=k3) | apply bxB (zqb:=k4));all_goals first | omega | (simp;first | done | omega) | (have:=And.intro k1.size (And.intro k2.size (And.intro k3.size k4.size));(try simp at this);first | omega | (simp;omega)))) | fail) : p:=h k1 k2 k3 k4
theorem bB5 {p : Prop} {B1 : Nat} {a1 b1 : World} (k1 : Below B1 a1 b1) {B2 : Nat} {a2 b2 : World} (k2 : Below B2 a2 b2) {B3 : Nat} {a3 b3 : World} (k3 : Below B3 a3 b3) {B4 : Nat} {a4 b4 : World} (k4 : Below B4 a4 b4) {B5 : Nat} {a5 b5 : World} (k5 : Below B5 a5 b5) (h : Below B1 a1 b1 → Below B2 a2 b2 → Below B3 a3 b3 → Below B4 a4 b4 → Below B5 a5 b5 → p:=by intro k1 k2 k3 k4 k5;first | (focus ((with_reducible repeat first | apply bq0 | apply bq1 | apply bq2 | apply bq3 | apply bq4 | apply bqT k1 | apply bqT k2 | apply bqT k3 | apply bqT k4 | apply bqT k5);all_goals first | omega | (simp;first | done | omega) | (have:=And.intro k1.size (And.intro k2.size (And.intro k3.size (And.intro k4.size k5.size)));(try simp at this);first | omega | (simp;omega)))) | fail) : p:=h k1 k2 k3 k4 k5
theorem bB6 {p : Prop} {B1 : Nat} {a1 b1 : World} (k1 : Below B1 a1 b1) {B2 : Nat} {a2 b2 : World} (k2 : Below B2 a2 b2) {B3 : Nat} {a3 b3 : World} (k3 : Below B3 a3 b3) {B4 : Nat} {a4 b4 : World} (k4 : Below B4 a4 b4) {B5 : Nat} {a5 b5 : World} (k5 : Below B5 a5 b5) {B6 : Nat} {a6 b6 : World} (k6 : Below B6 a6 b6) (h : Below B1 a1 b1 → Below B2 a2 b2 → Below B3 a3 b3 → Below B4 a4 b4 → Below B5 a5 b5 → Below B6 a6 b6 → p:=by intro k1 k2 k3 k4 k5 k6;first | (focus ((with_reducible repeat first | apply bq0 | apply bq1 | apply bq2 | apply bq3 | apply bq4 | apply bqT k1 | apply bqT k2 | apply bqT k3 | apply bqT k4 | apply bqT k5 | apply bqT k6);all_goals first | omega | (simp;first | done | omega) | (have:=And.intro k1.size (And.intro k2.size (And.intro k3.size (And.intro k4.size (And.intro k5.size k6.size))));(try simp at this);first | omega | (simp;omega)))) | fail) : p:=h k1 k2 k3 k4 k5 k6
theorem kpA {p : Prop} (h : p:=by (try dsimp only);first | (go_keep;done) | ((repeat' apply And.intro) <;> ((repeat (rw [World.cell?_setCell_far _ _ _ _ (by first | (simp;done) | (dsimp only;omega))]));(first | assumption | (simp [*];done)))) | fail) : p:=h
theorem pqs : (∀ (α : Type) (xs : List α) (i : Nat) (h : i < xs.toArray.size),xs.toArray[i] = xs[i]'(by simpa using h)) ∧ (∀ (α : Type) (a : α) (l : List α) (h : 0 < (a :: l).length),(a :: l)[0]'h = a) ∧ (∀ (α : Type) (a : α) (l : List α) (i : Nat) (h : i + 1 < (a :: l).length),(a :: l)[i + 1]'h = l[i]'(by simpa using h)) ∧
    (∀ (α : Type) (l : List α) (i : Nat) (a : α),l.toArray.setIfInBounds i a = (l.set i a).toArray) ∧ (∀ (α : Type) (a b : α) (l : List α),(a :: l).set 0 b = b :: l) ∧ (∀ (α : Type) (a b : α) (l : List α) (i : Nat),(a :: l).set (i + 1) b = a :: l.set i b) :=
  ⟨fun _ _ _ _ => by simp,fun _ _ _ _ => rfl,fun _ _ _ _ _ => rfl,fun _ _ _ _ => by simp,fun _ _ _ _ => rfl,fun _ _ _ _ _ => rfl⟩
theorem kR {p : Prop} (h : p:=by first | decide +kernel | kernel_rfl) : p:=h
theorem rgT {P : Program} {md : Region.Mode} {ops : Array Oper} {Q : Exit → Act → World → Prop} {S : World → Prop} (i : Nat) {oi : Oper} (v : Value) {fuel : Nat} {listed : Array Bool} {a : Act} {w : World} (hi : ops[i]? = some oi)
    (hy : ∀ w',S w' → (execOp a.eval oi).run P w' = .ok (.value v) w') (h : wpAnyH P md ops Q S fuel (listed.setIfInBounds i true) (a.put oi.dst v) w) (hS : S w:=by assumption)
    (hw : Region.wanted oi (yielded ops a.tmps) = true:=by first | decide +kernel | kernel_rfl) (hs : Region.noSelect ops = true:=by first | decide +kernel | kernel_rfl) (hf : Region.free md ops listed i = true:=by first | decide +kernel | kernel_rfl) (hr : (Region.ready md ops listed).contains i = true:=by first | decide +kernel | kernel_rfl)
    (hQ : ∀ c a w,Q (.panic c) (a.put oi.dst v) w → Q (.panic c) a w:=by first | exact fun _ _ _ h => h | exact fun _ _ _ h => nomatch h.1) : wpAnyH P md ops Q S (fuel + 1) listed a w :=
  wpAnyH_take hi hs hf hr hQ (.inl ⟨hw,hy⟩) hS h
theorem rgN {P : Program} {md : Region.Mode} {ops : Array Oper} {Q : Exit → Act → World → Prop} {S : World → Prop} (i : Nat) {oi : Oper} {v : Value} {fuel : Nat} {listed : Array Bool} {a a' : Act} {w : World} (hi : ops[i]? = some oi)
    (h : wpAnyH P md ops Q S fuel (listed.setIfInBounds i true) a' w) (hy : ∀ w',S w' → (execOp a.eval oi).run P w' = .ok (.value v) w':=by intro w' hSw;(try dsimp only at hSw);go_simp;(try with_reducible rfl)) (ha : a.put oi.dst v = a':=by first | (simp only [Act.put,pqs];done) | (simp only [Act.put,pqs];rfl)) (hS : S w:=by assumption)
    (hw : Region.wanted oi (yielded ops a.tmps) = true:=by first | decide +kernel | kernel_rfl) (hs : Region.noSelect ops = true:=by first | decide +kernel | kernel_rfl) (hf : Region.free md ops listed i = true:=by first | decide +kernel | kernel_rfl) (hr : (Region.ready md ops listed).contains i = true:=by first | decide +kernel | kernel_rfl)
    (hQ : ∀ c a w,Q (.panic c) (a.put oi.dst v) w → Q (.panic c) a w:=by first | exact fun _ _ _ h => h | exact fun _ _ _ h => nomatch h.1) : wpAnyH P md ops Q S (fuel + 1) listed a w :=
  wpAnyH_take hi hs hf hr hQ (.inl ⟨hw,hy⟩) hS (ha ▸ h)
theorem rgL {P : Program} {md : Region.Mode} {ops : Array Oper} {Q : Exit → Act → World → Prop} {S T : World → Prop} (i : Nat) (hT : Hid (∀ w',S w' → T w')) {oi : Oper} {v : Value} {fuel : Nat} {listed : Array Bool} {a a' : Act} {w : World} (hi : ops[i]? = some oi)
    (h : wpAnyH P md ops Q S fuel (listed.setIfInBounds i true) a' w) (hy : ∀ w',T w' → (execOp a.eval oi).run P w' = .ok (.value v) w':=by intro w' hSw;(try dsimp only at hSw);go_simp;(try with_reducible rfl)) (ha : a.put oi.dst v = a':=by first | (simp only [Act.put,pqs];done) | (simp only [Act.put,pqs];rfl)) (hS : S w:=by assumption)
    (hw : Region.wanted oi (yielded ops a.tmps) = true:=by first | decide +kernel | kernel_rfl) (hs : Region.noSelect ops = true:=by first | decide +kernel | kernel_rfl) (hf : Region.free md ops listed i = true:=by first | decide +kernel | kernel_rfl) (hr : (Region.ready md ops listed).contains i = true:=by first | decide +kernel | kernel_rfl)
    (hQ : ∀ c a w,Q (.panic c) (a.put oi.dst v) w → Q (.panic c) a w:=by first | exact fun _ _ _ h => h | exact fun _ _ _ h => nomatch h.1) : wpAnyH P md ops Q S (fuel + 1) listed a w :=
  wpAnyH_take hi hs hf hr hQ (.inl ⟨hw,fun w' h => hy w' (hT.out w' h)⟩) hS (ha ▸ h)
theorem rgC {P : Program} {md : Region.Mode} {ops : Array Oper} {Q : Exit → Act → World → Prop} {S : World → Prop} (i : Nat) {o : Oper} {fuel : Nat} {listed : Array Bool} {a : Act} {w : World} (ho : ops[i]? = some o)
    (h : ∀ K' : Act → World → Prop,Shut (∀ a w,S w → (S w → wpAnyH P md ops Q S fuel (listed.setIfInBounds i true) a w) → K' a w) → if Region.wanted o (yielded ops a.tmps) = true then Oper.wp P o a w K' Q else K' (a.put o.dst undef) w)
    (hr : Region.ready md ops listed = [i]:=by first | decide +kernel | kernel_rfl) : wpAnyH P md ops Q S (fuel + 1) listed a w:=wpAnyH_ready hr (by simp) (AllReadyH.cons ho h AllReadyH.nil)
theorem tsH {P : Program} {md : Region.Mode} {ops : Array Oper} {Q : Exit → Act → World → Prop} {S : World → Prop} {i : Nat} {oi : Oper} {fuel : Nat} {listed : Array Bool} {a a' : Act} {w : World} (hi : ops[i]? = some oi)
    (hS : S w) (h : wpAnyH P md ops Q S fuel (listed.setIfInBounds i true) a' w) (ha : a.put oi.dst undef = a':=by first | (simp only [Act.put,pqs];done) | (simp only [Act.put,pqs];rfl))
    (hw : Region.wanted oi (yielded ops a.tmps) = false:=by first | decide +kernel | kernel_rfl) (hs : Region.noSelect ops = true:=by first | decide +kernel | kernel_rfl) (hf : Region.free md ops listed i = true:=by first | decide +kernel | kernel_rfl) (hr : (Region.ready md ops listed).contains i = true:=by first | decide +kernel | kernel_rfl)
    (hQ : ∀ c a w,Q (.panic c) (a.put oi.dst undef) w → Q (.panic c) a w:=by first | exact fun _ _ _ h => h | exact fun _ _ _ h => nomatch h.1) : wpAnyH P md ops Q S (fuel + 1) listed a w :=
  wpAnyH_take hi hs hf hr hQ (.inr ⟨hw,rfl⟩) hS (ha ▸ h)
/-- A region that draws its order: n operations that leave the world alone, then a tail in one order. -/
theorem still_tail {P : Program} {id : Nat} {Q : Exit → Act → World → Prop} {a : Act} {w : World} {l : List Oper} (n : Nat) (hm : P.follows .mixedOrders = true) (hB : Region.lexTailB .any l.toArray n = true)
    (h : wpStill P l.toArray w.drew (fun a' => wpList P l.toArray Q (l.drop n) a' w.drew) (l.take n) a) : (Code.region id l.toArray true).wp P Q a w:=wp_region_still_tail n hm hB h
theorem mixed : Tryz.prog.follows .mixedOrders = true:=by kernel_rfl
/-- Results of which the first lies in memory. -/
theorem res_c1 {P : Program} {fn : Func} {p : Tmp} {ty t : TypeId} {tmps : Array Value} {w : World} {g : Nat} {cs : Array Value} {d : TypeDesc} (h : fn.results = #[.cell p ty]) (hp : tmps.getD p undef = .pointer (some ⟨g,0,none⟩)) (hg : Box w g t cs)
    (hu : P.underlying ty = some d) (hd : (match d with | .struct _ | .array _ _ => true | _ => false) = true) (hi : (P.info? ty).map (·.size) = some cs.size) : (results fn tmps).run P w = .ok (.agg cs) w :=
  results_cell_row h tmps w g t cs (0,0) d hp hg hu hd hi
theorem res_c2 {P : Program} {fn : Func} {p u : Tmp} {ty t : TypeId} {tmps : Array Value} {w : World} {g : Nat} {cs : Array Value} {d : TypeDesc} (h : fn.results = #[.cell p ty,.tmp u]) (hp : tmps.getD p undef = .pointer (some ⟨g,0,none⟩)) (hg : Box w g t cs)
    (hu : P.underlying ty = some d) (hd : (match d with | .struct _ | .array _ _ => true | _ => false) = true) (hi : (P.info? ty).map (·.size) = some cs.size) : (results fn tmps).run P w = .ok (.tuple #[.agg cs,tmps.getD u undef]) w:=by
  rw [results_cell_tmp h,hp]
  simp [asAddr,run_loadVar_row w g t ty cs (0,0) d hg hu hd hi,Result.andThen]
theorem res_c3 {P : Program} {fn : Func} {p u v : Tmp} {ty t : TypeId} {tmps : Array Value} {w : World} {g : Nat} {cs : Array Value} {d : TypeDesc} (h : fn.results = #[.cell p ty,.tmp u,.tmp v]) (hp : tmps.getD p undef = .pointer (some ⟨g,0,none⟩)) (hg : Box w g t cs)
    (hu : P.underlying ty = some d) (hd : (match d with | .struct _ | .array _ _ => true | _ => false) = true) (hi : (P.info? ty).map (·.size) = some cs.size) : (results fn tmps).run P w = .ok (.tuple #[.agg cs,tmps.getD u undef,tmps.getD v undef]) w:=by
  have hp' : tmps[p]?.getD undef = .pointer (some ⟨g,0,none⟩):=by simpa using hp
  simp [results,h,hp',asAddr,run_loadVar_row w g t ty cs (0,0) d hg hu hd hi]
set_option maxHeartbeats 400000 in
theorem within_b (n lo hi : Int) (w : World) : Calls Tryz.prog 40 #[.int .i64 n,.int .i64 lo,.int .i64 hi] w fun e w' => e = .returned (.bool (inB n lo hi)) ∧ w = w':=by
  go_enter Tryz.func40,Tryz.ntmps40
  go_wp2
  all_goals go_ret
  all_goals exact ⟨ret_b (by simp [inB, *];try omega),rfl⟩
set_option maxHeartbeats 400000 in
theorem within_w (n lo hi : Int) (w : World) : Calls Tryz.prog 93 #[.int .i64 n,.int .i64 lo,.int .i64 hi] w fun e w' => e = .returned (.bool (inB n lo hi)) ∧ w = w':=by
  go_enter Tryz.func93,Tryz.ntmps93
  go_wp2
  all_goals go_ret
  all_goals exact ⟨ret_b (by simp [inB, *];try omega),rfl⟩
set_option maxHeartbeats 400000 in
theorem isSized_c (n m : Int) (w : World) (h0 : 0 ≤ m) (h1 : m ≤ 9223372036854775807) : Calls Tryz.prog 94 #[.int .i64 n,.int .i64 m] w fun e w' => e = .returned (.bool (inB n (-m) m)) ∧ w = w':=by
  go_enter Tryz.func94,Tryz.ntmps94
  go_wp2_with (go_at_call 93;refine (within_w _ _ _ _).mono ?_;rintro e w' ⟨rfl,rfl⟩)
  all_goals go_ret
  all_goals exact ⟨rfl,rfl⟩
set_option maxHeartbeats 400000 in
theorem unless_c (b : Bool) (e : Int) (w : World) : Calls Tryz.prog 84 #[.bool b,.int .i64 e] w fun r w' => r = .returned (.int .i64 (unl b e)) ∧ w = w':=by
  go_enter Tryz.func84,Tryz.ntmps84
  go_wp2
  all_goals go_ret
  all_goals exact ⟨ret_i (by simp [unl, *]),rfl⟩
set_option maxHeartbeats 400000 in
theorem first_c (xs : List Int) (A : Option Addr) (c : Nat) (w : World) (hn : xs.length ≤ 9223372036854775807) (hs : SlI w A xs) :
    Calls Tryz.prog 83 #[.slice A xs.length c] w fun r w' => r = .returned (.int .i64 (fstE xs)) ∧ w = w':=by
  go_enter Tryz.func83,Tryz.ntmps83
  go_wp2
  go_loop [7] (fun i => ∃ k : Nat,k ≤ xs.length ∧ i = .int .i64 k ∧ Hid (fstE xs = fstE (xs.drop k))) (fun i => xs.length - (intOf i).toNat)
  case atStart => exact ⟨0,Nat.zero_le _,rfl,rfl⟩
  case round =>
    obtain ⟨k,hk,rfl,hf⟩:=hrel
    by_cases hlt : k < xs.length
    · obtain ⟨b,off,rfl,hb,hc⟩:=hs k xs[k] (List.getElem?_eq_getElem hlt)
      have HD:=Lib.hid (List.drop_eq_getElem_cons hlt)
      by_cases hz : xs[k] = 0
      · have hz1 : (xs[k] == 0) = true:=by simpa using hz
        have HZ:=Lib.hid hz;clear hz
        go_wp2
        go_round
        case rel => exact ⟨k + 1,by omega,by go_num,by unfold Hid;rw [hf.out,HD.out,fstE,if_pos HZ.out]⟩
        case measure => simp [intOf];omega
      · have hz1 : (xs[k] == 0) = false:=by simpa using hz
        have HZ:=Lib.hid hz;clear hz
        go_wp2
        go_ret
        exact ⟨ret_i (by rw [hf.out,HD.out,fstE,if_neg HZ.out]),rfl⟩
    · go_wp2
      go_ret
      exact ⟨ret_i (by rw [hf.out,List.drop_eq_nil_of_le (by omega)];rfl),rfl⟩
set_option maxHeartbeats 400000 in
theorem mod_c (n b : Int) (hb : 0 < b) (h1 : -9223372036854775808 ≤ n) (h2 : n ≤ 9223372036854775807) (h3 : b ≤ 9223372036854775807) (w : World) : Calls Tryz.prog 153 #[.int .i64 n,.int .i64 b] w fun e w' => e = .returned (.int .i64 (n % b)) ∧ w = w':=by
  have a1:=Int.tmod_lt_of_pos n hb
  have a2 : -b < n.tmod b:=by have:=Int.lt_tmod_of_pos n hb;omega
  have a3 : n % b = if n.tmod b < 0 then n.tmod b + b else n.tmod b:=by
    rw [Int.tmod_eq_emod]
    have:=Int.emod_nonneg n (b:=b) (by omega)
    have:=Int.emod_lt_of_pos n hb
    split <;> split <;> omega
  have A3:=Lib.hid a3;clear a3
  go_enter Tryz.func153,Tryz.ntmps153
  go_wp2
  all_goals go_ret
  all_goals exact ⟨ret_i (by rw [A3.out];first | rw [if_pos (by assumption)] | rw [if_neg (by omega)]),rfl⟩
theorem first2a (x y : Int) (k : Nat) (w : World) (t : TypeId) (hk : k = w.heap.size) : Calls Tryz.prog 83 #[.slice (some ⟨k,0,none⟩) 2 2] (w.alloc (.cells #[.int .i64 x,.int .i64 y] t)) fun r w' => r = .returned (.int .i64 (fstE [x,y])) ∧ w.alloc (.cells #[.int .i64 x,.int .i64 y] t) = w' :=
  hk ▸ first_c [x,y] _ 2 (w.alloc (.cells #[.int .i64 x,.int .i64 y] t)) (by simp) (sli_new w [x,y] t)
theorem first2d (x y : Int) (k : Nat) (w : World) (t : TypeId) (hk : k = w.heap.size) : Calls Tryz.prog 83 #[.slice (some ⟨k,0,none⟩) 2 2] ((w.alloc (.cells #[.int .i64 x,.int .i64 y] t)).drew) fun r w' => r = .returned (.int .i64 (fstE [x,y])) ∧ (w.alloc (.cells #[.int .i64 x,.int .i64 y] t)).drew = w' :=
  hk ▸ first_c [x,y] _ 2 ((w.alloc (.cells #[.int .i64 x,.int .i64 y] t)).drew) (by simp) (sli_new w [x,y] t)
theorem first3a (x y z : Int) (k : Nat) (w : World) (t : TypeId) (hk : k = w.heap.size) : Calls Tryz.prog 83 #[.slice (some ⟨k,0,none⟩) 3 3] (w.alloc (.cells #[.int .i64 x,.int .i64 y,.int .i64 z] t)) fun r w' => r = .returned (.int .i64 (fstE [x,y,z])) ∧ w.alloc (.cells #[.int .i64 x,.int .i64 y,.int .i64 z] t) = w' :=
  hk ▸ first_c [x,y,z] _ 3 (w.alloc (.cells #[.int .i64 x,.int .i64 y,.int .i64 z] t)) (by simp) (sli_new w [x,y,z] t)
theorem first3d (x y z : Int) (k : Nat) (w : World) (t : TypeId) (hk : k = w.heap.size) : Calls Tryz.prog 83 #[.slice (some ⟨k,0,none⟩) 3 3] ((w.alloc (.cells #[.int .i64 x,.int .i64 y,.int .i64 z] t)).drew) fun r w' => r = .returned (.int .i64 (fstE [x,y,z])) ∧ (w.alloc (.cells #[.int .i64 x,.int .i64 y,.int .i64 z] t)).drew = w' :=
  hk ▸ first_c [x,y,z] _ 3 ((w.alloc (.cells #[.int .i64 x,.int .i64 y,.int .i64 z] t)).drew) (by simp) (sli_new w [x,y,z] t)
theorem first4a (x y z u : Int) (k : Nat) (w : World) (t : TypeId) (hk : k = w.heap.size) : Calls Tryz.prog 83 #[.slice (some ⟨k,0,none⟩) 4 4] (w.alloc (.cells #[.int .i64 x,.int .i64 y,.int .i64 z,.int .i64 u] t)) fun r w' => r = .returned (.int .i64 (fstE [x,y,z,u])) ∧ w.alloc (.cells #[.int .i64 x,.int .i64 y,.int .i64 z,.int .i64 u] t) = w' :=
  hk ▸ first_c [x,y,z,u] _ 4 (w.alloc (.cells #[.int .i64 x,.int .i64 y,.int .i64 z,.int .i64 u] t)) (by simp) (sli_new w [x,y,z,u] t)
theorem first4d (x y z u : Int) (k : Nat) (w : World) (t : TypeId) (hk : k = w.heap.size) : Calls Tryz.prog 83 #[.slice (some ⟨k,0,none⟩) 4 4] ((w.alloc (.cells #[.int .i64 x,.int .i64 y,.int .i64 z,.int .i64 u] t)).drew) fun r w' => r = .returned (.int .i64 (fstE [x,y,z,u])) ∧ (w.alloc (.cells #[.int .i64 x,.int .i64 y,.int .i64 z,.int .i64 u] t)).drew = w' :=
  hk ▸ first_c [x,y,z,u] _ 4 ((w.alloc (.cells #[.int .i64 x,.int .i64 y,.int .i64 z,.int .i64 u] t)).drew) (by simp) (sli_new w [x,y,z,u] t)
end Go.Proofs.YtpnfgmgoafgcbaaGreat

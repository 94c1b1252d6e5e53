/-
  The texts FrA, FrB, FrC in one.
-/
import Derived.Test.YtpnfgmgoafgcbaaGreatA2
import Derived.Test.YtpnfgmgoafgcbaaGreatRows
import Derived.ProofKit
import Derived.OpenShut
import Derived.ShutString
import Derived.ChangeOld
import Derived.Deep.Slices
import Derived.Deep.Fields
import Derived.ChangeSame
import Derived.Test.YtpnfgmgoafgcbaaGreatA12
set_option linter.all false
/-
  How arguments are opened, in plain words, for the statements' proofs: whatever consists of ints alone (structs and arrays of any depth), slices of such, and the structs of chapter 6.
-/
set_option linter.unusedVariables false
namespace Go.Proofs.YtpnfgmgoafgcbaaGreat
open Go.RowKit Go.Shelf Go.ChangeShapes Go.WideShapes Go.ChangeAt Go.Deep
theorem own_f : ownKnob Tryz.prog.godebug = none:=by kernel_rfl
theorem laidOut_f : laidOutB Tryz.prog = true:=by kernel_rfl
/-- A type that consists of ints alone. -/
def flatI (P : Program) : Nat → TypeId → Bool
  | 0,_ => false
  | k + 1,t => match P.underlying t with
    | some (.int .i64) => P.cellsOf t == 1
    | some (.array q e) => P.cellsOf t == q * P.cellsOf e && decide (0 < P.cellsOf e) && flatI P k e
    | some (.struct fs) => (List.range (P.cellsOf t)).all fun j => (List.range fs.size).any fun i => match fs[i]? with
      | some f => decide (f.offset ≤ j) && decide (j < f.offset + P.cellsOf f.type) && flatI P k f.type
      | none => false
    | _ => false
theorem ints_of {l : List Value} : (∀ (j : Nat) (u : Value),l[j]? = some u → ∃ m : Int,u = .int .i64 m ∧ (Lit.int .i64 m).wf = true) → ∃ ns : List Int,l = ns.map (Value.int .i64) ∧ ns.length = l.length ∧ ∀ n ∈ ns,(Lit.int .i64 n).wf = true:=by
  induction l with
  | nil => intro _;exact ⟨[],rfl,rfl,by simp⟩
  | cons a l ih =>
    intro hk
    obtain ⟨m,rfl,hw⟩:=hk 0 a (by simp)
    obtain ⟨ns,hns,hln,hwn⟩:=ih (fun j u h => hk (j + 1) u (by simpa using h))
    refine ⟨m :: ns,by rw [List.map_cons,← hns],by simp [hln],fun n hn => ?_⟩
    rcases List.mem_cons.1 hn with rfl | hn
    · exact hw
    · exact hwn n hn
section
variable {H : Type} {enc : TypeId × Value → H} {P : Program} {w : World} {base : Nat} {spare : Nat → Bool} {held : Bool}
theorem cells_pt : ∀ (k : Nat) {t : TypeId} {fuel : Nat} {cs : List Value} {x : DataW H × List MemPlace},flatI P k t = true → DataW.trod enc P w base spare held fuel t cs = some x →
    cs.length = P.cellsOf t ∧ ∀ (j : Nat) (u : Value),cs[j]? = some u → ∃ m : Int,u = .int .i64 m ∧ (Lit.int .i64 m).wf = true
  | 0,_,_,_,_,h,_ => by cases h
  | k + 1,t,fuel,cs,x,h,hf => by
    unfold flatI at h
    split at h
    · rename_i ht
      obtain ⟨m,rfl,_,hw⟩:=DataW.trod_int ht hf
      simp only [beq_iff_eq] at h
      refine ⟨by simp [h],fun j u hj => ?_⟩
      have hj0 : j = 0:=by have:=(List.getElem?_eq_some_iff.1 hj).1;simp at this;omega
      subst hj0
      exact ⟨m,by simpa using hj.symm,hw⟩
    · rename_i q e ht
      simp only [Bool.and_eq_true,beq_iff_eq,decide_eq_true_eq] at h
      obtain ⟨⟨hC,hpos⟩,he⟩:=h
      obtain ⟨xs,n,_,_,hl,hlen,hg⟩:=DataW.trod_array ht hf
      refine ⟨hl,fun j u hj => ?_⟩
      have hjl : j < q * P.cellsOf e:=by have:=(List.getElem?_eq_some_iff.1 hj).1;omega
      have hi : j / P.cellsOf e < q:=Nat.div_lt_of_lt_mul (by rw [Nat.mul_comm];exact hjl)
      have hr : j % P.cellsOf e < P.cellsOf e:=Nat.mod_lt _ hpos
      have hjk : j / P.cellsOf e * P.cellsOf e + j % P.cellsOf e = j:=by rw [Nat.mul_comm];exact Nat.div_add_mod j _
      have h2:=hg _ hi
      rw [List.getElem?_eq_getElem (by omega)] at h2
      obtain ⟨_,h3⟩:=cells_pt k he h2
      refine h3 (j % P.cellsOf e) u ?_
      rw [List.getElem?_take_of_lt hr,List.getElem?_drop,hjk]
      exact hj
    · rename_i fs ht
      obtain ⟨xs,n,_,_,hl,hlen,hg⟩:=DataW.trod_struct ht hf
      refine ⟨hl,fun j u hj => ?_⟩
      have hjl : j < P.cellsOf t:=by have:=(List.getElem?_eq_some_iff.1 hj).1;omega
      have h1:=List.all_eq_true.1 h j (List.mem_range.2 hjl)
      obtain ⟨i,hi,h2⟩:=List.any_eq_true.1 h1
      have hi:=List.mem_range.1 hi
      have hfi : fs[i]? = some fs[i]:=Array.getElem?_eq_getElem hi
      rw [hfi] at h2
      simp only [Bool.and_eq_true,decide_eq_true_eq] at h2
      obtain ⟨⟨h4,h5⟩,h6⟩:=h2
      have h7:=hg i _ hfi
      rw [List.getElem?_eq_getElem (by omega)] at h7
      obtain ⟨_,h8⟩:=cells_pt k h6 h7
      refine h8 (j - fs[i].offset) u ?_
      rw [List.getElem?_take_of_lt (by omega),List.getElem?_drop,show fs[i].offset + (j - fs[i].offset) = j by omega]
      exact hj
    · cases h
theorem cells_flat (k : Nat) {t : TypeId} {fuel : Nat} {cs : List Value} {x : DataW H × List MemPlace} (h : flatI P k t = true) (hf : DataW.trod enc P w base spare held fuel t cs = some x) :
    ∃ ns : List Int,cs = ns.map (Value.int .i64) ∧ ns.length = P.cellsOf t ∧ ∀ n ∈ ns,(Lit.int .i64 n).wf = true:=by
  obtain ⟨h1,h2⟩:=cells_pt k h hf
  obtain ⟨ns,a,b,c⟩:=ints_of h2
  exact ⟨ns,a,by omega,c⟩
theorem exists_list {α : Type} {Q : Nat → α → Prop} : ∀ n,(∀ i,i < n → ∃ x,Q i x) → ∃ l : List α,l.length = n ∧ ∀ i x,l[i]? = some x → Q i x
  | 0,_ => ⟨[],rfl,fun i x h => by simp at h⟩
  | n + 1,h => by
    obtain ⟨l,hl,hq⟩:=exists_list n (fun i hi => h i (by omega))
    obtain ⟨x,hx⟩:=h n (by omega)
    refine ⟨l ++ [x],by simp [hl],fun i y hy => ?_⟩
    rcases Nat.lt_or_ge i l.length with h1 | h1
    · rw [List.getElem?_append_left h1] at hy;exact hq i y hy
    · rw [List.getElem?_append_right h1] at hy
      have : i = n:=by
        rcases Nat.lt_or_ge (i - l.length) 1 with h2 | h2
        · omega
        · rw [List.getElem?_eq_none (by simpa using h2)] at hy;cases hy
      subst this
      rw [hl,Nat.sub_self] at hy
      simp at hy;subst hy;exact hx
/-- A slice of values that consist of ints alone: its cells. -/
theorem slE_cells (k : Nat) {α : Type} (en : α → List Value) (K : Nat) (hk0 : 0 < K) (hen : ∀ x,(en x).length = K) (hsur : ∀ ns : List Int,ns.length = K → ∃ s,en s = ns.map (Value.int .i64)) {t e : TypeId} {fuel : Nat} {cs : List Value} {x : DataW H × List MemPlace}
    (ht : P.underlying t = some (.slice e)) (he : flatI P k e = true) (hC : P.cellsOf e = K) (hf : DataW.trod enc P w base spare held fuel t cs = some x) :
    ∃ (A : Option Addr) (c : Nat) (xs : List α),cs = [.slice A xs.length c] ∧ SlV w A (xs.flatMap en) ∧ xs.length ≤ 9223372036854775807 ∧ xs.length ≤ c ∧ c ≤ 9223372036854775807 ∧ (A = none → xs.length = 0 ∧ c = 0) ∧ ∀ s ∈ xs,∃ ns : List Int,en s = ns.map (Value.int .i64) ∧ ∀ n ∈ ns,(Lit.int .i64 n).wf = true:=by
  rcases open_slice ht hf with ⟨hcs,_⟩ | ⟨a,l,c,m,n,D,Pl,hcs,hb,hl,hm,hmm,_,hx⟩
  · exact ⟨none,0,[],hcs,fun j u hj => by simp at hj,by simp,by simp,by simp,fun _ => ⟨rfl,rfl⟩,by simp⟩
  · have hml : l ≤ m:=by rw [hmm];split <;> omega
    obtain ⟨xs,hxl,hxq⟩:=exists_list (α:=α) (Q:=fun i s => w.cells? base (a.add (i * K)) K = some (en s) ∧ ∃ ns : List Int,en s = ns.map (Value.int .i64) ∧ ∀ n ∈ ns,(Lit.int .i64 n).wf = true) l (fun i hi' => by
      obtain ⟨cs',h1,h2⟩:=hx i (by omega)
      obtain ⟨ns,rfl,hnl,hw⟩:=cells_flat k he h2
      obtain ⟨s,hs⟩:=hsur ns (hnl.trans hC)
      rw [hC,← hs] at h1
      exact ⟨s,h1,ns,hs,hw⟩)
    refine ⟨some a,c,xs,by rw [hxl];exact hcs,fun j u hj => ?_,by rw [hxl];unfold maxLen at hm;omega,by rw [hxl];exact hl,by unfold maxLen at hm;omega,(fun h => by cases h),fun s hs => ?_⟩
    · have hjl : j < xs.length * K:=by have:=(List.getElem?_eq_some_iff.1 hj).1;rwa [flatK_len (enc:=en) (k:=K) hen] at this
      have hk : j / K < xs.length:=Nat.div_lt_of_lt_mul (by rw [Nat.mul_comm];exact hjl)
      have hr : j % K < K:=Nat.mod_lt _ hk0
      have hjk : j / K * K + j % K = j:=by rw [Nat.mul_comm];exact Nat.div_add_mod j K
      have hxk : xs[j / K]? = some xs[j / K]:=List.getElem?_eq_getElem hk
      obtain ⟨hc1,_⟩:=hxq (j / K) _ hxk
      obtain ⟨_,hcl,hc2⟩:=World.cells?_some hc1
      have h1:=flatK_get (enc:=en) (k:=K) hen xs (j / K) _ (j % K) hxk hr
      rw [hjk,hj] at h1
      have h2:=hc2 (j % K) hr
      rw [← h1] at h2
      obtain ⟨b,off,spot⟩:=a
      have hspot : spot = none:=by
        obtain ⟨q1,_⟩:=hxq 0 _ (List.getElem?_eq_getElem (show 0 < xs.length from Nat.lt_of_le_of_lt (Nat.zero_le _) hk))
        obtain ⟨_,hq2,q2⟩:=World.cells?_some q1
        have q3:=q2 0 hk0
        have q4 : ((⟨b,off,spot⟩ : Addr).add (0 * K)).add 0 = ⟨b,off,spot⟩:=by simp [Addr.add]
        rw [q4,List.getElem?_eq_getElem (by rw [hen];exact hk0)] at q3
        exact World.cell?_spot q3
      subst hspot
      have e1 : ((⟨b,off,none⟩ : Addr).add (j / K * K)).add (j % K) = ⟨b,off + j,none⟩:=by
        have : off + j / K * K + j % K = off + j:=by omega
        have e0 : ∀ o k,(⟨b,o,none⟩ : Addr).add k = ⟨b,o + k,none⟩:=fun o k => by unfold Addr.add;split <;> simp [*]
        rw [e0,e0,this]
      rw [e1] at h2
      refine ⟨b,off,rfl, ?_,h2⟩
      unfold World.cell? at h2
      split at h2
      · rename_i hh;exact (Array.getElem?_eq_some_iff.1 hh).1
      · cases h2
    · obtain ⟨i,hi'⟩:=List.getElem?_of_mem hs
      exact (hxq i s hi').2
/-- The fields of a struct that came in. -/
theorem open_struct {fs : Array Field} {t : TypeId} {v : Value} {d : DataW H} {p : List MemPlace} {r : Reach} {b0 : Nat} (ht : P.underlying t = some (.struct fs)) (hv : Value.okWide P w r b0 t v) (h : DataW.Trod enc P w base spare held t v d p) :
    ∃ (cs : List Value) (n : Nat),v = .agg cs.toArray ∧ cs.length = P.cellsOf t ∧ ∀ (i : Nat) (f : Field),fs[i]? = some f → ∃ y,DataW.trod enc P w base spare held n f.type ((cs.drop f.offset).take (P.cellsOf f.type)) = some y:=by
  obtain ⟨cs,rfl,_⟩:=okWide_struct ht hv
  obtain ⟨fuel,hf⟩:=h
  obtain ⟨xs,n,_,_,hl,hlen,hg⟩:=DataW.trod_struct ht hf
  refine ⟨cs.toList,n,rfl,hl,fun i f hfi => ?_⟩
  have h1:=hg i f hfi
  have hi : i < xs.length:=by have:=(Array.getElem?_eq_some_iff.1 hfi).1;omega
  rw [List.getElem?_eq_getElem hi] at h1
  exact ⟨_,h1⟩
end
theorem list1 {α : Type} {l : List α} (h : l.length = 1) : ∃ a,l = [a]:=by
  match l,h with
  | [a],_ => exact ⟨a,rfl⟩
theorem list2 {α : Type} {l : List α} (h : l.length = 2) : ∃ a b,l = [a,b]:=by
  match l,h with
  | [a,b],_ => exact ⟨a,b,rfl⟩
theorem list3 {α : Type} {l : List α} (h : l.length = 3) : ∃ a b c,l = [a,b,c]:=by
  match l,h with
  | [a,b,c],_ => exact ⟨a,b,c,rfl⟩
theorem list4 {α : Type} {l : List α} (h : l.length = 4) : ∃ a b c d,l = [a,b,c,d]:=by
  match l,h with
  | [a,b,c,d],_ => exact ⟨a,b,c,d,rfl⟩
theorem list6 {α : Type} {l : List α} (h : l.length = 6) : ∃ a b c d e f,l = [a,b,c,d,e,f]:=by
  match l,h with
  | [a,b,c,d,e,f],_ => exact ⟨a,b,c,d,e,f,rfl⟩
theorem list9 {α : Type} {l : List α} (h : l.length = 9) : ∃ a b c d e f g i j,l = [a,b,c,d,e,f,g,i,j]:=by
  match l,h with
  | [a,b,c,d,e,f,g,i,j],_ => exact ⟨a,b,c,d,e,f,g,i,j,rfl⟩
theorem bounds64 {n : Int} (h : (Lit.int .i64 n).wf = true) : -9223372036854775808 ≤ n ∧ n ≤ 9223372036854775807:=bounds_i64 h
end Go.Proofs.YtpnfgmgoafgcbaaGreat
/-
  How the structs of chapter 6 are opened, in plain words, for the statements' proofs.
-/
set_option linter.unusedVariables false
namespace Go.Proofs.YtpnfgmgoafgcbaaGreat
open Go.RowKit Go.Shelf Go.ChangeShapes Go.WideShapes Go.ChangeAt Go.Deep
theorem ints_flat : ∀ Q : List Int,Q.flatMap (fun q : Int => [Value.int .i64 q]) = Q.map (Value.int .i64)
  | [] => rfl
  | q :: Q => by rw [List.flatMap_cons,ints_flat Q];rfl
section
variable {H : Type} {enc : TypeId × Value → H} {w : World} {base : Nat} {spare : Nat → Bool} {held : Bool} {v : Value} {d : DataW H} {p : List MemPlace} {r : Reach} {b0 : Nat}
set_option maxRecDepth 100000 in
/-- A pose that came in. -/
theorem open_pose (hv : Value.okWide Tryz.prog w r b0 33 v) (h : DataW.Trod enc Tryz.prog w base spare held 33 v d p) : ∃ (ps : Int) (Q : List Int) (AQ : Option Addr) (cQ : Nat),
    v = .agg #[.int .i64 ps,.slice AQ Q.length cQ] ∧ SlI w AQ Q ∧ Q.length ≤ 9223372036854775807 ∧ (-9223372036854775808 ≤ ps ∧ ps ≤ 9223372036854775807) ∧ ∀ q ∈ Q,-9223372036854775808 ≤ q ∧ q ≤ 9223372036854775807:=by
  obtain ⟨cs,n,rfl,hl,hg⟩:=open_struct Tryz.underlying33 hv h
  rw [show Tryz.prog.cellsOf 33 = 2 from by kernel_rfl] at hl
  obtain ⟨a,b,rfl⟩:=list2 hl
  obtain ⟨y0,h0⟩:=hg 0 _ rfl
  obtain ⟨y1,h1⟩:=hg 1 _ rfl
  have c0 : Tryz.prog.cellsOf 3 = 1:=by kernel_rfl
  have c1 : Tryz.prog.cellsOf 31 = 1:=by kernel_rfl
  have h0 : DataW.trod enc Tryz.prog w base spare held n 3 (([a,b].drop 0).take (Tryz.prog.cellsOf 3)) = some y0:=h0
  have h1 : DataW.trod enc Tryz.prog w base spare held n 31 (([a,b].drop 1).take (Tryz.prog.cellsOf 31)) = some y1:=h1
  rw [c0] at h0;rw [c1] at h1
  obtain ⟨n0,e0,l0,w0⟩:=cells_flat 5 (by kernel_rfl) h0
  obtain ⟨q0,rfl⟩:=list1 (l0.trans c0)
  obtain ⟨A,cc,Q,eA,hs,hn,_,_,_,hw⟩:=slE_cells 5 (fun q : Int => [Value.int .i64 q]) 1 (by decide) (fun _ => rfl) (fun ns hn => by obtain ⟨a,rfl⟩:=list1 hn;exact ⟨a,rfl⟩) Tryz.underlying31 (by kernel_rfl) (by kernel_rfl) h1
  rw [ints_flat] at hs
  simp at eA e0
  subst eA e0
  refine ⟨q0,Q,A,cc,rfl,fun j u hj => hs j _ (by rw [List.getElem?_map,hj];rfl),hn,bounds64 (w0 _ (by simp)),fun q hq => ?_⟩
  obtain ⟨ns,e1,w1⟩:=hw q hq
  refine bounds64 (w1 q ?_)
  obtain ⟨a,rfl⟩ : ∃ a,ns = [a]:=list1 (by have:=congrArg List.length e1;simpa using this.symm)
  simp at e1
  simp [e1]
set_option maxRecDepth 100000 in
/-- A scene that came in. -/
theorem open_scene (hv : Value.okWide Tryz.prog w r b0 30 v) (h : DataW.Trod enc Tryz.prog w base spare held 30 v d p) : ∃ (bx bY sl : Int) (L : List Lk) (AL : Option Addr) (cL : Nat) (fx fX fy fY : Int) (B : List Bx) (AB : Option Addr) (cB : Nat),
    v = .agg #[.int .i64 bx,.int .i64 bY,.int .i64 sl,.slice AL L.length cL,.int .i64 fx,.int .i64 fX,.int .i64 fy,.int .i64 fY,.slice AB B.length cB] ∧ SlV w AL (L.flatMap lkV) ∧ SlV w AB (B.flatMap bxV) ∧ L.length ≤ 9223372036854775807 ∧ B.length ≤ 9223372036854775807:=by
  obtain ⟨cs,n,rfl,hl,hg⟩:=open_struct Tryz.underlying30 hv h
  rw [show Tryz.prog.cellsOf 30 = 9 from by kernel_rfl] at hl
  obtain ⟨a,b,c,d,e,f,g,i,j,rfl⟩:=list9 hl
  obtain ⟨y0,h0⟩:=hg 0 _ rfl
  obtain ⟨y1,h1⟩:=hg 1 _ rfl
  obtain ⟨y2,h2⟩:=hg 2 _ rfl
  obtain ⟨y3,h3⟩:=hg 3 _ rfl
  obtain ⟨y4,h4⟩:=hg 4 _ rfl
  have c0 : Tryz.prog.cellsOf 22 = 2:=by kernel_rfl
  have c1 : Tryz.prog.cellsOf 3 = 1:=by kernel_rfl
  have c2 : Tryz.prog.cellsOf 23 = 1:=by kernel_rfl
  have c3 : Tryz.prog.cellsOf 27 = 4:=by kernel_rfl
  have c4 : Tryz.prog.cellsOf 28 = 1:=by kernel_rfl
  have h0 : DataW.trod enc Tryz.prog w base spare held n 22 (([a,b,c,d,e,f,g,i,j].drop 0).take (Tryz.prog.cellsOf 22)) = some y0:=h0
  have h1 : DataW.trod enc Tryz.prog w base spare held n 3 (([a,b,c,d,e,f,g,i,j].drop 2).take (Tryz.prog.cellsOf 3)) = some y1:=h1
  have h2 : DataW.trod enc Tryz.prog w base spare held n 23 (([a,b,c,d,e,f,g,i,j].drop 3).take (Tryz.prog.cellsOf 23)) = some y2:=h2
  have h3 : DataW.trod enc Tryz.prog w base spare held n 27 (([a,b,c,d,e,f,g,i,j].drop 4).take (Tryz.prog.cellsOf 27)) = some y3:=h3
  have h4 : DataW.trod enc Tryz.prog w base spare held n 28 (([a,b,c,d,e,f,g,i,j].drop 8).take (Tryz.prog.cellsOf 28)) = some y4:=h4
  rw [c0] at h0;rw [c1] at h1;rw [c2] at h2;rw [c3] at h3;rw [c4] at h4
  obtain ⟨n0,e0,l0,_⟩:=cells_flat 5 (by kernel_rfl) h0
  obtain ⟨n1,e1,l1,_⟩:=cells_flat 5 (by kernel_rfl) h1
  obtain ⟨AL,cL,L,eL,hL,nL,_⟩:=slE_cells 5 lkV 3 (by decide) (fun _ => rfl) (fun ns hn => by obtain ⟨a,b,c,rfl⟩:=list3 hn;exact ⟨(a,b,c),rfl⟩) Tryz.underlying23 (by kernel_rfl) (by kernel_rfl) h2
  obtain ⟨n3,e3,l3,_⟩:=cells_flat 5 (by kernel_rfl) h3
  obtain ⟨AB,cB,B,eB,hB,nB,_⟩:=slE_cells 5 bxV 4 (by decide) (fun _ => rfl) (fun ns hn => by obtain ⟨a,b,c,d,rfl⟩:=list4 hn;exact ⟨(a,b,c,d),rfl⟩) Tryz.underlying28 (by kernel_rfl) (by kernel_rfl) h4
  obtain ⟨x0,x1,rfl⟩:=list2 (l0.trans c0)
  obtain ⟨x2,rfl⟩:=list1 (l1.trans c1)
  obtain ⟨z0,z1,z2,z3,rfl⟩:=list4 (l3.trans c3)
  simp at e0 e1 eL e3 eB
  obtain ⟨rfl,rfl⟩:=e0
  obtain ⟨rfl,rfl,rfl,rfl⟩:=e3
  subst e1 eL eB
  exact ⟨x0,x1,x2,L,AL,cL,z0,z1,z2,z3,B,AB,cB,rfl,hL,hB,nL,nB⟩
end
end Go.Proofs.YtpnfgmgoafgcbaaGreat
/-
  How an aim (chapter 6) is opened, in plain words, for the statement's proof.
-/
set_option linter.unusedVariables false
namespace Go.Proofs.YtpnfgmgoafgcbaaGreat
open Go.RowKit Go.Shelf Go.ChangeShapes Go.WideShapes Go.ChangeAt Go.Deep
section
variable {H : Type} {enc : TypeId × Value → H} {P : Program} {w : World} {base : Nat} {spare : Nat → Bool} {held : Bool} {v : Value} {d : DataW H} {p : List MemPlace} {r : Reach} {b0 : Nat}
theorem trod_fields {fs : Array Field} {t : TypeId} {fuel : Nat} {cs : List Value} {x : DataW H × List MemPlace} (ht : P.underlying t = some (.struct fs)) (hf : DataW.trod enc P w base spare held fuel t cs = some x) :
    ∃ n : Nat,∀ (i : Nat) (f : Field),fs[i]? = some f → ∃ y,DataW.trod enc P w base spare held n f.type ((cs.drop f.offset).take (P.cellsOf f.type)) = some y:=by
  obtain ⟨xs,n,_,_,hl,hlen,hg⟩:=DataW.trod_struct ht hf
  refine ⟨n,fun i f hfi => ?_⟩
  have h1:=hg i f hfi
  have hi : i < xs.length:=by have:=(Array.getElem?_eq_some_iff.1 hfi).1;omega
  rw [List.getElem?_eq_getElem hi] at h1
  exact ⟨_,h1⟩
end
end Go.Proofs.YtpnfgmgoafgcbaaGreat

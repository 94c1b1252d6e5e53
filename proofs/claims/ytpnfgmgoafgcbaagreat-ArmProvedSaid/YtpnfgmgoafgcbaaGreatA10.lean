/-
  The texts FlB, Fl5 in one.
-/
import Derived.Test.YtpnfgmgoafgcbaaGreatA7
import Derived.Test.YtpnfgmgoafgcbaaGreatA8
import Derived.Test.YtpnfgmgoafgcbaaGreatA9
set_option linter.all false
/-
  The flood over poses (chapter 6), in plain words: it finds each pose that can be reached, with the fewest moves; from each there is a move that is one nearer.
-/
set_option linter.unusedVariables false
namespace Go.Proofs.YtpnfgmgoafgcbaaGreat
def up1 : Int → Mv → Int:=fun d _ => d + 1
def entF (L : List (Ps × Int)) : Fl:=(L.map fun x => (kyP x.1,x.2),L.map (·.1))
theorem lkp_ent {s : Sc} (hS : SOk s) {q : Ps} (hq : POk s q) : ∀ {L : List (Ps × Int)},(∀ x ∈ L,POk s x.1) → (L.map (·.1)).Nodup → ∀ c,lkp (entF L).1 (kyP q) = some c ↔ (q,c) ∈ L
  | [],_,_,c => by simp [lkp,entF]
  | x :: L,hL,hn,c => by
    have ih:=lkp_ent hS hq (L:=L) (fun y hy => hL y (by simp [hy])) (List.nodup_cons.1 hn).2 c
    obtain ⟨a,d⟩:=x
    by_cases h : kyP q = kyP a
    · have e : q = a:=kyP_inj hS hq (hL (a,d) (by simp)) h
      subst e
      have hn':=(List.nodup_cons.1 hn).1
      have : lkp (entF ((q,d) :: L)).1 (kyP q) = some d:=by simp [lkp,entF]
      rw [this]
      simp only [Option.some.injEq,List.mem_cons,Prod.mk.injEq]
      constructor
      · rintro rfl;exact .inl ⟨trivial,rfl⟩
      · rintro (⟨_,rfl⟩ | h2)
        · rfl
        · exact absurd (List.mem_map_of_mem (f:=(·.1)) h2) hn'
    · have : lkp (entF ((a,d) :: L)).1 (kyP q) = lkp (entF L).1 (kyP q):=by
        simp only [lkp,entF,List.map_cons,List.find?_cons]
        rw [decide_eq_false h]
      rw [this,ih]
      simp only [List.mem_cons,Prod.mk.injEq]
      constructor
      · exact fun h => .inr h
      · rintro (⟨rfl,_⟩ | h2)
        · exact absurd rfl h
        · exact h2
theorem lkp_ent_none {s : Sc} (hS : SOk s) {q : Ps} (hq : POk s q) {L : List (Ps × Int)} (hL : ∀ x ∈ L,POk s x.1) : (lkp (entF L).1 (kyP q)).isSome = true ↔ q ∈ L.map (·.1):=by
  rw [Option.isSome_iff_ne_none,ne_eq,lkp_none,Classical.not_not]
  simp only [entF,List.map_map,List.mem_map,Function.comp]
  constructor
  · rintro ⟨x,hx,he⟩
    exact ⟨x,hx,kyP_inj hS (hL x hx) hq he⟩
  · rintro ⟨x,hx,rfl⟩
    exact ⟨x,hx,rfl⟩
theorem fl1_ent {s : Sc} (hS : SOk s) {L : List (Ps × Int)} (hL : ∀ x ∈ L,POk s x.1) (d : Int) (m : Mv) {q : Ps} (hq : POk s q) : fl1 d (entF L) q = entF (stpB up1 d L (m,q)):=by
  unfold fl1 stpB
  by_cases h : q ∈ L.map (·.1)
  · rw [if_pos ((lkp_ent_none hS hq hL).2 h),if_pos h]
  · rw [if_neg (fun k => h ((lkp_ent_none hS hq hL).1 k)),if_neg h]
    simp [entF,up1]
theorem stp_ok {s : Sc} {L : List (Ps × Int)} (hL : ∀ x ∈ L,POk s x.1) (d : Int) (mq : Mv × Ps) (hq : POk s mq.2) : ∀ x ∈ stpB up1 d L mq,POk s x.1:=by
  unfold stpB
  split
  · exact hL
  · intro x hx
    rcases List.mem_append.1 hx with hx | hx
    · exact hL x hx
    · have : x = (mq.2,up1 d mq.1):=by simpa using hx
      subst this;exact hq
theorem fls_ent {s : Sc} (hS : SOk s) (d : Int) : ∀ (l : List (Mv × Ps)) (L : List (Ps × Int)),(∀ x ∈ L,POk s x.1) → (∀ r ∈ l,POk s r.2) → (l.map (·.2)).foldl (fl1 d) (entF L) = entF (l.foldl (stpB up1 d) L) ∧ ∀ x ∈ l.foldl (stpB up1 d) L,POk s x.1
  | [],L,hL,_ => ⟨rfl,hL⟩
  | (m,q) :: l,L,hL,hl => by
    have hq:=hl (m,q) (by simp)
    simp only [List.map_cons,List.foldl_cons]
    rw [fl1_ent hS hL d m hq]
    exact fls_ent hS d l _ (stp_ok hL d (m,q) hq) (fun r hr => hl r (by simp [hr]))
theorem nbs_allK (s : Sc) (p : Ps) : nbs s p = (allK s p).map (·.2):=by simp [nbs,allK]
theorem flx_ent {s : Sc} (hS : SOk s) {L : List (Ps × Int)} (hL : ∀ x ∈ L,POk s x.1) (hn : (L.map (·.1)).Nodup) {x : Ps × Int} (hx : x ∈ L) : flx s (entF L) x.1 = entF (exdB up1 (allK s) L x) ∧ ∀ y ∈ exdB up1 (allK s) L x,POk s y.1:=by
  have hp:=hL x hx
  unfold flx exdB
  rw [(lkp_ent hS hp hL hn x.2).2 hx,nbs_allK]
  exact fls_ent hS x.2 (allK s x.1) L hL (fun r hr => (allK_ok hp (show (r.1,r.2) ∈ allK s x.1 from hr)).1)
theorem stp_nd {d : Int} {L : List (Ps × Int)} (hn : (L.map (·.1)).Nodup) (mq : Mv × Ps) : ((stpB up1 d L mq).map (·.1)).Nodup:=by
  unfold stpB
  split
  · exact hn
  · rename_i h
    rw [List.map_append,List.nodup_append]
    refine ⟨hn,by simp,fun a ha b hb e1 => ?_⟩
    have : b = mq.2:=by simpa using hb
    rw [e1,this] at ha
    exact h ha
theorem stps_nd {d : Int} : ∀ (l : List (Mv × Ps)) (L : List (Ps × Int)),(L.map (·.1)).Nodup → ((l.foldl (stpB up1 d) L).map (·.1)).Nodup
  | [],_,h => h
  | mq :: l,L,h => stps_nd l _ (stp_nd h mq)
theorem flF_ent {s : Sc} (hS : SOk s) : ∀ (m i : Nat) (L : List (Ps × Int)),(∀ x ∈ L,POk s x.1) → (L.map (·.1)).Nodup → flF s m i (entF L) = entF (runB up1 (allK s) m i L)
  | 0,_,_,_,_ => rfl
  | m + 1,i,L,hL,hn => by
    unfold flF runB
    have e : (entF L).2[i]? = L[i]?.map (·.1):=by simp [entF]
    rw [e]
    cases hx : L[i]? with
    | none => rfl
    | some x =>
      obtain ⟨h1,h2⟩:=flx_ent hS hL hn (List.mem_of_getElem? hx)
      simp only [Option.map_some]
      rw [h1]
      exact flF_ent hS m (i + 1) _ h2 (stps_nd _ _ hn)
/-- A pose that is reached from one of some poses, in so many moves. -/
def OkF (s : Sc) (b0 : List Ps) (x : Ps) (c : Int) : Prop:=POk s x ∧ freeP s x = true ∧ ∃ b ∈ b0,∃ p,Lds (allK s) b p x ∧ (p.length : Int) = c
theorem ordF : OrdB up1 (fun a b : Int => a ≤ b) (fun _ _ => True) :=
  ⟨fun h k => Int.le_trans h k,fun _ _ h => by simp only [up1];omega,fun a _ _ _ => Int.le_refl _,fun a _ => by simp only [up1];omega⟩
theorem foldl_up1 : ∀ (p : List Mv) (a : Int),p.foldl up1 a = a + p.length
  | [],a => by simp
  | m :: p,a => by simp only [List.foldl_cons,foldl_up1 p,up1,List.length_cons];omega
theorem okF_step {s : Sc} {b0 : List Ps} : ∀ x c m q,OkF s b0 x c → (m,q) ∈ allK s x → OkF s b0 q (up1 c m):=by
  rintro x c m q ⟨h1,_,b,hb,p,hp,hl⟩ h
  have:=allK_ok h1 h
  exact ⟨this.1,this.2,b,hb,p ++ [m],Lds.snoc hp h,by simp [up1,hl]⟩
/-- What the flood holds. -/
structure FlR (s : Sc) (b0 : List Ps) (L : List (Ps × Int)) : Prop where
  eq : floodP s b0 = entF L
  nd : (L.map (·.1)).Nodup
  ok : ∀ x ∈ L,OkF s b0 x.1 x.2
  all : ∀ b ∈ b0,∀ p z,Lds (allK s) b p z → ∃ c,(z,c) ∈ L ∧ c ≤ p.length
theorem flood_r {s : Sc} {b0 : List Ps} (hS : SOk s) (hn : b0.Nodup) (hb : ∀ p ∈ b0,POk s p ∧ freeP s p = true) : ∃ L,FlR s b0 L:=by
  have h0 : fl0 b0 = entF (b0.map fun p => (p,0)):=by simp [fl0,entF,Function.comp_def]
  have hm : (b0.map fun p => (p,(0 : Int))).map (·.1) = b0:=by simp [Function.comp_def]
  have hok0 : ∀ x ∈ b0.map fun p => (p,(0 : Int)),OkF s b0 x.1 x.2:=by
    intro x hx
    obtain ⟨p,hp,rfl⟩:=List.mem_map.1 hx
    exact ⟨(hb p hp).1,(hb p hp).2,p,hp,[],Lds.nil p,rfl⟩
  have hz : ∀ (k : Nat) (x : Ps × Int),(b0.map fun p => (p,(0 : Int)))[k]? = some x → x.2 = 0:=by
    intro k x hx
    obtain ⟨p,_,rfl⟩:=List.mem_map.1 (List.mem_of_getElem? hx)
    rfl
  have B0 : BfB up1 (allK s) (fun a b : Int => a ≤ b) b0 (OkF s b0) (b0.map fun p => (p,(0 : Int))) 0 (nxB (allK s) (b0.map fun p => (p,(0 : Int))) 0):=by
    refine ⟨by rw [hm];exact hn,fun j k x y _ hx hy => by rw [hz j x hx,hz k y hy];exact Int.le_refl _,fun j m y hy _ k x hx => by rw [hz k x hx,hz j y hy];exact (by decide : (0 : Int) ≤ 0 + 1),fun j y m q hy hmq hj => ?_,hok0,by rw [hm];exact fun b h => h⟩
    rcases hj with hj | ⟨rfl,hj⟩
    · omega
    · rw [nxB_some hy] at hj
      exact absurd hmq hj
  obtain ⟨i,hi,B⟩:=BfB.run (b0:=b0) (ok:=OkF s b0) ordF okF_step (fun x _ _ => List.pairwise_of_forall_mem_list (fun _ _ _ _ => trivial)) (N:=(alP s).length)
    (fun L h1 h2 => by
      have:=nodup_le (L.map (·.1)) (alP s) h1 (fun p hp => by obtain ⟨x,hx,rfl⟩:=List.mem_map.1 hp;exact mem_alP (h2 x hx).1)
      simpa using this)
    ((alP s).length + 1) 0 (b0.map fun p => (p,(0 : Int))) (by omega) B0
  refine ⟨_, ?_,B.nd,B.ok,fun b hbb p z h => ?_⟩
  · unfold floodP
    rw [h0]
    exact flF_ent hS _ _ _ (fun x hx => (hok0 x hx).1) (by rw [hm];exact hn)
  · obtain ⟨c,hc,hl⟩:=B.whole ordF hi (e0:=0) (fun b hb => (runB_pre _ _ _ _ _).subset (List.mem_map.2 ⟨b,hb,rfl⟩)) hbb h
    rw [foldl_up1] at hl
    exact ⟨c,hc,by omega⟩
section
variable {s : Sc} {b0 : List Ps} {L : List (Ps × Int)}
theorem FlR.lk (h : FlR s b0 L) (hS : SOk s) {q : Ps} (hq : POk s q) (c : Int) : lkp (floodP s b0).1 (kyP q) = some c ↔ (q,c) ∈ L:=by
  rw [h.eq]
  exact lkp_ent hS hq (fun x hx => (h.ok x hx).1) h.nd c
theorem FlR.nn (h : FlR s b0 L) {q : Ps} {c : Int} (hq : (q,c) ∈ L) : 0 ≤ c:=by
  obtain ⟨_,_,_,_,p,_,hl⟩:=h.ok _ hq
  dsimp only at hl
  omega
theorem FlR.one (h : FlR s b0 L) {q : Ps} {c d : Int} (hc : (q,c) ∈ L) (hd : (q,d) ∈ L) : c = d:=by
  obtain ⟨i,hi,e1⟩:=List.getElem_of_mem hc
  obtain ⟨j,hj,e2⟩:=List.getElem_of_mem hd
  have hij : i = j:=(List.getElem?_inj (l:=L.map (·.1)) (by simpa using hi) h.nd).1 (by simp [hi,hj,e1,e2])
  subst hij
  rw [e1] at e2
  exact (Prod.mk.inj e2).2
/-- From each pose that is not one of the first there is a move that is one nearer. -/
theorem FlR.hill (h : FlR s b0 L) (hS : SOk s) {z : Ps} {c : Int} (hz : (z,c) ∈ L) (hc : 0 < c) : ∃ m y,(m,y) ∈ allK s z ∧ (y,c - 1) ∈ L:=by
  obtain ⟨hzo,hzf,b,hb,p,hp,hl⟩:=h.ok _ hz
  dsimp only at hzo hzf hp hl
  cases hp with
  | nil => simp at hl;omega
  | @snoc y _ p m hp hm =>
    obtain ⟨d,hd,hdl⟩:=h.all b hb p y hp
    obtain ⟨hyo,hyf,b',hb',p',hp',hl'⟩:=h.ok _ hd
    dsimp only at hyo hyf hp' hl'
    obtain ⟨c',hc',hcl⟩:=h.all b' hb' _ _ (Lds.snoc hp' hm)
    have:=h.one hz hc'
    simp only [List.length_append,List.length_cons,List.length_nil] at hl hcl
    have : d = c - 1:=by omega
    subst this
    exact ⟨inv m,y,allK_back hS hyo hyf hm,hd⟩
end
end Go.Proofs.YtpnfgmgoafgcbaaGreat
/-
  The search over poses (chapter 6): flood, whole.
-/
set_option linter.unusedVariables false
namespace Go.Proofs.YtpnfgmgoafgcbaaGreat
open Go.RowKit Go.Shelf
attribute [local go_sem] Oper.semAt_some
structure FJ (s : Sc) (AL AB : Option Addr) (cL cB U h : Nat) (w0 : World) (A : Option Addr) (c : Nat) (es : List (Ky × Int)) (bs : List Ar) (W : World) : Prop where
  row : Box W h 162 #[.slice A bs.length c]
  own : W.ownsRow U 135 11 (.slice A bs.length c) bs.length (bs.flatMap (arV s AL AB cL cB))
  boxM : Box W (h + 2) 161 #[.map (some (h + 1))]
  mapM : KMap W (h + 1) es
  qs : ∀ x ∈ bs,QOk U x W
  hU : U ≤ h
  below : Below U w0 W
theorem FJ.keep {s : Sc} {AL AB : Option Addr} {cL cB U h : Nat} {w0 : World} {A : Option Addr} {c : Nat} {es : List (Ky × Int)} {bs : List Ar} {W W' : World} (hI : FJ s AL AB cL cB U h w0 A c es bs W) (hb : Below W.heap.size W W') : FJ s AL AB cL cB U h w0 A c es bs W' :=
  ⟨hI.row.below hb hI.row.lt,own_below hI.own hb,hI.boxM.below hb hI.boxM.lt,hI.mapM.below hb hI.mapM.lt,fun x hx => (hI.qs x hx).same hb.size (fun b _ _ hlt => hb.block b hlt),hI.hU,hI.below.trans (hb.mono (by have:=hI.row.lt;have:=hI.hU;omega))⟩
theorem FJ.put {s : Sc} {AL AB : Option Addr} {cL cB U h : Nat} {w0 : World} {A : Option Addr} {c : Nat} {es : List (Ky × Int)} {bs : List Ar} {W : World} (hI : FJ s AL AB cL cB U h w0 A c es bs W) (k : Ky) (v : Int) : FJ s AL AB cL cB U h w0 A c (es ++ [(k,v)]) bs (W.putObj (h + 1) (putK W (h + 1) k v)):=by
  have hU:=hI.hU
  refine ⟨hI.row.put (by omega) _,own_same hI.own (fun g hg => World.putObj_heap_other ?_),hI.boxM.put (by omega) _,hI.mapM.put k v,fun x hx => ?_,hU,below_putObj hI.below (by omega) _⟩
  · rintro rfl
    rcases hI.own.2 with ⟨e,_⟩ | ⟨g',cap,cur,e,_,hh,_⟩
    · rw [e] at hg;simp [Value.ownBlock] at hg
    · rw [e] at hg
      simp only [Value.ownBlock,Option.some.injEq] at hg
      subst hg
      exact hI.mapM.ne_box hh rfl
  · have hq:=hI.qs x hx
    refine hq.same (by simp [World.putObj]) (fun b off hA _ => World.putObj_heap_other ?_)
    rintro rfl
    obtain ⟨_,b',off',hA',h2⟩:=hq
    rw [hA] at hA'
    cases hA'
    rcases h2 with h2 | ⟨cs,h2⟩
    · omega
    · exact hI.mapM.ne_box h2 rfl
noncomputable def fLoop1 : Code:=(((Tryz.f108.body.map loopsOf).getD [])[0]?).getD .skip
def zer (bs : List Ar) (k : Nat) : List (Ky × Int):=(bs.take k).map fun x => (kyP x.1,0)
theorem zer_step {bs : List Ar} {k : Nat} {y : Ar} (h : bs[k]? = some y) : zer bs (k + 1) = zer bs k ++ [(kyP y.1,0)]:=by
  unfold zer
  rw [List.take_add_one,h]
  simp
set_option maxHeartbeats 4000000 in
set_option maxRecDepth 100000 in
theorem loop1_c (h U : Nat) (bx bY sl fx fX fy fY : Int) (L : List Lk) (B : List Bx) (AL AB A : Option Addr) (cL cB c : Nat) (w0 : World) (bs : List Ar) (PQ : Exit → Act → World → Prop)
    (hS : SOk (⟨bx,bY,sl,L,(fx,fX,fy,fY),B⟩ : Sc)) (hn : (bs.map (·.1)).Nodup) (hok : ∀ x ∈ bs,POk (⟨bx,bY,sl,L,(fx,fX,fy,fY),B⟩ : Sc) x.1) (hl : bs.length ≤ 1000)
    (hQ : ∀ (W : World) (k : Nat) (t0 t2 t3 t5 t6 t7 t8 t9 t10 t11 t12 t16 t17 t18 t19 t20 t21 t22 t23 t24 t25 t26 t27 t28 t29 t30 t31 t32 t33 t34 t35 t36 t37 t38 t39 t40 t41 t42 t43 t44 t45 t46 t47 t48 t49 t50 t51 t52 t53 t54 t55 t56 t57 t58 t59 t60 t61 t62 t63 t64 t65 t66 : Value),FJ (⟨bx,bY,sl,L,(fx,fX,fy,fY),B⟩ : Sc) AL AB cL cB U h w0 A c (zer bs bs.length) bs W → PQ (.exit 0) ⟨#[t0,Value.pointer (some ⟨h,0,none⟩),t2,t3,Value.pointer (some ⟨h + 2,0,none⟩),t5,t6,t7,t8,t9,t10,t11,t12,Value.slice A bs.length c,Value.int .i64 (bs.length : Int),Value.int .i64 ((k : Nat) : Int),t16,t17,t18,t19,t20,t21,t22,t23,t24,t25,t26,t27,t28,t29,t30,t31,t32,t33,t34,t35,t36,t37,t38,t39,t40,t41,t42,t43,t44,t45,t46,t47,t48,t49,t50,t51,t52,t53,t54,t55,t56,t57,t58,t59,t60,t61,t62,t63,t64,t65,t66],[]⟩ W) :
    ∀ (m k : Nat) (W : World) (t0 t2 t3 t5 t6 t7 t8 t9 t10 t11 t12 t16 t17 t18 t19 t20 t21 t22 t23 t24 t25 t26 t27 t28 t29 t30 t31 t32 t33 t34 t35 t36 t37 t38 t39 t40 t41 t42 t43 t44 t45 t46 t47 t48 t49 t50 t51 t52 t53 t54 t55 t56 t57 t58 t59 t60 t61 t62 t63 t64 t65 t66 : Value),FJ (⟨bx,bY,sl,L,(fx,fX,fy,fY),B⟩ : Sc) AL AB cL cB U h w0 A c (zer bs k) bs W → k ≤ bs.length → bs.length < k + m →
      Code.rounds Tryz.prog fLoop1 PQ m ⟨#[t0,Value.pointer (some ⟨h,0,none⟩),t2,t3,Value.pointer (some ⟨h + 2,0,none⟩),t5,t6,t7,t8,t9,t10,t11,t12,Value.slice A bs.length c,Value.int .i64 (bs.length : Int),Value.int .i64 ((k : Nat) : Int),t16,t17,t18,t19,t20,t21,t22,t23,t24,t25,t26,t27,t28,t29,t30,t31,t32,t33,t34,t35,t36,t37,t38,t39,t40,t41,t42,t43,t44,t45,t46,t47,t48,t49,t50,t51,t52,t53,t54,t55,t56,t57,t58,t59,t60,t61,t62,t63,t64,t65,t66],[]⟩ W:=by
  intro m
  induction m with
  | zero => intro k W t0 t2 t3 t5 t6 t7 t8 t9 t10 t11 t12 t16 t17 t18 t19 t20 t21 t22 t23 t24 t25 t26 t27 t28 t29 t30 t31 t32 t33 t34 t35 t36 t37 t38 t39 t40 t41 t42 t43 t44 t45 t46 t47 t48 t49 t50 t51 t52 t53 t54 t55 t56 t57 t58 t59 t60 t61 t62 t63 t64 t65 t66 hI h1 h2;omega
  | succ m ih =>
    intro k W t0 t2 t3 t5 t6 t7 t8 t9 t10 t11 t12 t16 t17 t18 t19 t20 t21 t22 t23 t24 t25 t26 t27 t28 t29 t30 t31 t32 t33 t34 t35 t36 t37 t38 t39 t40 t41 t42 t43 t44 t45 t46 t47 t48 t49 t50 t51 t52 t53 t54 t55 t56 t57 t58 t59 t60 t61 t62 t63 t64 t65 t66 hI hk hm
    rw [rounds_succ]
    unfold fLoop1
    conv => arg 2;whnf
    have hU:=hI.hU
    by_cases hlt : k < bs.length
    · obtain ⟨⟨⟨ps,Q⟩,AQ,cQ⟩,hy⟩ : ∃ y,bs[k]? = some y:=⟨_,List.getElem?_eq_getElem hlt⟩
      have R2:=hI.own
      obtain ⟨gR,capR,hA,hgR,hgl⟩:=own_pos R2 (by omega) (by decide)
      cases hA
      have z0:=arCells R2 hy 0 (by omega);have z1:=arCells R2 hy 1 (by omega);have z2:=arCells R2 hy 2 (by omega);have z3:=arCells R2 hy 3 (by omega);have z4:=arCells R2 hy 4 (by omega);have z5:=arCells R2 hy 5 (by omega);have z6:=arCells R2 hy 6 (by omega);have z7:=arCells R2 hy 7 (by omega);have z8:=arCells R2 hy 8 (by omega);have z9:=arCells R2 hy 9 (by omega);have z10:=arCells R2 hy 10 (by omega)
      simp [arV] at z0 z1 z2 z3 z4 z5 z6 z7 z8 z9 z10
      have hm':=List.mem_of_getElem? hy
      have hp:=hok _ hm'
      have hq:=(hI.qs _ hm').1
      have hlen:=hS.len
      have hlp:=hp.len
      dsimp only at hlen hlp hq
      obtain ⟨k0,k1,k2,k3,hk4⟩ : ∃ k0 k1 k2 k3,kyP (ps,Q) = (k0,k1,k2,k3):=⟨_,_,_,_,rfl⟩
      have hkv : kyV (ps,Q) = #[.int .i64 k0,.int .i64 k1,.int .i64 k2,.int .i64 k3]:=by
        have:=kyP_V (ps,Q);rw [hk4] at this;exact Value.agg.inj this
      have KYc:=Lib.hid (fun w' (h : Below W.heap.size W w') => key_c ps Q AQ cQ w' (by omega) (by omega) (hq.below h))
      rw [hkv] at KYc
      have hnone : lkp (zer bs k) (k0,k1,k2,k3) = none:=by
        rw [← hk4]
        refine lkp_none.2 fun hc => ?_
        simp only [zer,List.map_map,List.mem_map,Function.comp] at hc
        obtain ⟨x,hx,he⟩:=hc
        have e : x.1 = (ps,Q):=kyP_inj hS (hok x (List.mem_of_mem_take hx)) hp he
        obtain ⟨j,hj,hjx⟩:=List.getElem_of_mem hx
        simp only [List.length_take] at hj
        have hj1 : bs[j]? = some x:=by
          rw [List.getElem_take] at hjx
          rw [List.getElem?_eq_getElem (by omega),hjx]
        have:=(List.getElem?_inj (l:=bs.map (·.1)) (i:=j) (j:=k) (by simp;omega) hn).1 (by simp [hj1,hy,e])
        omega
      have HN:=Lib.hid hnone
      have HZ:=Lib.hid (zer_step hy)
      have HK4:=Lib.hid hk4
      have HI:=Lib.hid hI
      have lH:=hI.row.lt;have lM:=hI.boxM.lt
      have BM:=hI.boxM
      have hv : IntKind.i64.wrap ((k : Int) + 1) = (k : Int) + 1:=IntWalk.i64_in _ (by omega)
      have hi0 : 0 ≤ (k : Int):=by omega
      have hi1 : (k : Int) < (bs.length : Int):=by omega
      clear hI hq hy hkv hk4 hnone hp hm' hlen hlp
      go_wp2
      (refine region_open kR (fun R hR => ?_);refine heldR (S:=(fun w' => Box w' (h + 2) 161 #[.map (some (h + 1))] ∧ Box w' W.heap.size 135 #[.int .i64 bx,.int .i64 bY,.int .i64 sl,.slice AL L.length cL,.int .i64 fx,.int .i64 fX,.int .i64 fy,.int .i64 fY,.slice AB B.length cB,.int .i64 ps,.slice AQ Q.length cQ])) ?_ (fun hHeld => ?_);(focus ((try dsimp only);((refine ⟨?_, ?_⟩;(first | (exact u1.put (by omega) _) | ((first | exact bX0 | exact bX1 hb3)));(first | (exact u2.put (by omega) _) | ((first | exact bX0 | exact bX1 hb3)))))));have hO:=Lib.hid (fun w' (hSw : (fun w' => Box w' (h + 2) 161 #[.map (some (h + 1))] ∧ Box w' W.heap.size 135 #[.int .i64 bx,.int .i64 bY,.int .i64 sl,.slice AL L.length cL,.int .i64 fx,.int .i64 fX,.int .i64 fy,.int .i64 fY,.slice AB B.length cB,.int .i64 ps,.slice AQ Q.length cQ]) w') => (by (try dsimp only at hSw);(obtain ⟨hSA,hSB⟩:=hSw;have sa0:=hSA.cell 0;have sb9:=hSB.cell 9;have sb10:=hSB.cell 10;(simp at sa0 sb9 sb10));exact And.intro sa0 (And.intro sb9 sb10)));refine rgL 0 hO rfl ?_;refine rgN 1 rfl ?_;refine rgL 2 hO rfl ?_;refine rgC 3 rfl (fun K hK => ?_);go_simp;((go_at_call 118;(with_reducible refine (KYc.out _ ?_).mono ?_);rotate_left;rintro e w3 ⟨rfl,hb3⟩;rotate_left;(focus (exact bB0));have hz3 : W.heap.size + 1 ≤ w3.heap.size:=(by have:=hb3.size;(try simp at this);omega);have M3 : KMap w3 (h + 1) (zer bs k):=(HI.out.keep (show Below W.heap.size W w3 from by exact bB1 hb3)).mapM));go_simp;refine hK.out _ _ ?_ (fun hHeld => ?_);(focus ((try dsimp only);((refine ⟨?_, ?_⟩;(first | (exact u1.put (by omega) _) | ((first | exact bX1 hb3 | exact bX0)));(first | (exact u2.put (by omega) _) | ((first | exact bX1 hb3 | exact bX0)))))));clear hK K;(try simp only [Act.put,pqs]);refine rgC 4 rfl (fun K hK => ?_);go_simp;((have hput:=run_put_k k0 k1 k2 k3 0 w3 (h + 1) (zer bs k) M3 HN.out;have hT:=hHeld;obtain ⟨u1,u2⟩:=hT));go_simp;refine hK.out _ _ ?_ (fun hHeld => ?_);(focus ((try dsimp only);((refine ⟨?_, ?_⟩;(first | (exact u1.put (by omega) _) | ((first | exact bX1 hb3 | exact bX0)));(first | (exact u2.put (by omega) _) | ((first | exact bX1 hb3 | exact bX0)))))));clear hK K;(try simp only [Act.put,pqs]);refine wpAnyH_done (Q:=fun e a w => e = Exit.normal ∧ R a w) kR ⟨rfl,hR _ _ ?_⟩ _;clear hR R)
      have hW3 : Below W.heap.size W w3:=by exact bB1 hb3
      have hJ:=(HI.out.keep hW3).put (k0,k1,k2,k3) 0
      have hz : zer bs (k + 1) = zer bs k ++ [((k0,k1,k2,k3),0)]:=by rw [HZ.out];show _ ++ [(kyP (ps,Q),0)] = _;rw [HK4.out]
      rw [← hz] at hJ
      have HJ:=Lib.hid hJ
      have HIH:=Lib.hid ih
      clear hJ hz ih hput
      go_wp2
      exact HIH.out (k + 1) _ _ _ _ _ _ _ _ _ _ _ _ _ _ _ _ _ _ _ _ _ _ _ _ _ _ _ _ _ _ _ _ _ _ _ _ _ _ _ _ _ _ _ _ _ _ _ _ _ _ _ _ _ _ _ _ _ _ _ _ _ _ _ HJ.out (by omega) (by omega)
    · have e : k = bs.length:=by omega
      subst e
      have HI:=Lib.hid hI
      have HQ:=Lib.hid hQ
      clear hI hQ
      go_wp2
      exact HQ.out _ _ _ _ _ _ _ _ _ _ _ _ _ _ _ _ _ _ _ _ _ _ _ _ _ _ _ _ _ _ _ _ _ _ _ _ _ _ _ _ _ _ _ _ _ _ _ _ _ _ _ _ _ _ _ _ _ _ _ _ _ _ _ _ HI.out
/-- How flood ends. -/
def FlEnd (s : Sc) (AL AB : Option Addr) (cL cB U : Nat) (w0 : World) (F : Fl) (e : Ending) (w' : World) : Prop :=
  ∃ (gM : Nat) (A' : Option Addr) (c' : Nat) (bs' : List Ar),e = .returned (.tuple #[.map (some gM),.slice A' bs'.length c']) ∧ KMap w' gM F.1 ∧ bs'.map (·.1) = F.2 ∧
    w'.ownsRow U 135 11 (.slice A' bs'.length c') bs'.length (bs'.flatMap (arV s AL AB cL cB)) ∧ (∀ x ∈ bs',QOk U x w') ∧ Below U w0 w'
theorem fl0_zer (bs : List Ar) : fl0 (bs.map (·.1)) = (zer bs bs.length,bs.map (·.1)):=by
  simp [fl0,zer,Function.comp_def]
set_option maxHeartbeats 4000000 in
set_option maxRecDepth 100000 in
/-- The search: the fewest moves to each pose that can be reached, and these in the order in which they are found. -/
theorem flood_c (U : Nat) (bx bY sl fx fX fy fY : Int) (L : List Lk) (B : List Bx) (AL AB A : Option Addr) (cL cB c : Nat) (w0 w : World) (bs : List Ar)
    (hS : SOk (⟨bx,bY,sl,L,(fx,fX,fy,fY),B⟩ : Sc)) (hU : U = w0.heap.size) (hs1 : SlV w0 AL (L.flatMap lkV)) (hs2 : SlV w0 AB (B.flatMap bxV))
    (hrow : w.ownsRow U 135 11 (.slice A bs.length c) bs.length (bs.flatMap (arV (⟨bx,bY,sl,L,(fx,fX,fy,fY),B⟩ : Sc) AL AB cL cB))) (hq : ∀ x ∈ bs,QOk U x w) (hb : Below U w0 w) (hn : (bs.map (·.1)).Nodup) (hok : ∀ x ∈ bs,POk (⟨bx,bY,sl,L,(fx,fX,fy,fY),B⟩ : Sc) x.1) :
    Calls Tryz.prog 108 #[.slice A bs.length c] w (FlEnd (⟨bx,bY,sl,L,(fx,fX,fy,fY),B⟩ : Sc) AL AB cL cB U w0 (floodP (⟨bx,bY,sl,L,(fx,fX,fy,fY),B⟩ : Sc) (bs.map (·.1)))):=by
  have hF0 : FlI (⟨bx,bY,sl,L,(fx,fX,fy,fY),B⟩ : Sc) (zer bs bs.length,bs.map (·.1)):=by
    rw [← fl0_zer]
    exact fl0_ok hn (fun p hp => by obtain ⟨x,hx,rfl⟩:=List.mem_map.1 hp;exact hok x hx)
  have hV0 : FlV (zer bs bs.length,bs.map (·.1)):=by
    intro e he
    simp only [zer,List.mem_map] at he
    obtain ⟨x,_,rfl⟩:=he
    exact ⟨Int.le_refl _,by dsimp only;omega⟩
  have hl : bs.length ≤ 1000:=by
    have h1:=hF0.len
    have h2:=alP_len hS
    simp at h1
    omega
  have HF0:=Lib.hid hF0
  have HRow:=Lib.hid hrow
  have HFP:=Lib.hid (show flF (⟨bx,bY,sl,L,(fx,fX,fy,fY),B⟩ : Sc) ((alP (⟨bx,bY,sl,L,(fx,fX,fy,fY),B⟩ : Sc)).length + 1) 0 (zer bs bs.length,bs.map (·.1)) = floodP (⟨bx,bY,sl,L,(fx,fX,fy,fY),B⟩ : Sc) (bs.map (·.1)) by unfold floodP;rw [fl0_zer])
  generalize floodP (⟨bx,bY,sl,L,(fx,fX,fy,fY),B⟩ : Sc) (bs.map (·.1)) = F at *
  have hUw : U ≤ w.heap.size:=by have:=hb.size;omega
  have HU:=Lib.hid hU
  clear hF0 hrow hU
  have hmm:=@run_makeMap Tryz.prog
  refine callsIn_wide.1 (callsIn_of_wp_marks (n:=6) Tryz.func108 rfl trivial ?_ rfl)
  refine wpIn_wide.2 ?_
  simp only [Tryz.ntmps108,List.size_toArray,List.length_cons,List.length_nil,Nat.reduceAdd,Nat.reduceSub,Array.replicate_succ,Array.replicate_zero,List.push_toArray,List.append_toArray,List.nil_append,List.cons_append]
  go_wp2
  obtain ⟨W1,hW1⟩ : ∃ W1 : World,W1 = ((w.alloc (.cells #[.slice A bs.length c] 162)).alloc (.map #[] 0)).alloc (.cells #[.map (some (w.heap.size + 1))] 161):=⟨_,rfl⟩
  have hB1 : Below w.heap.size w W1:=by rw [hW1];exact bB0
  have b0 : Box W1 w.heap.size 162 #[.slice A bs.length c]:=by rw [hW1];exact bX0
  have b2 : Box W1 (w.heap.size + 2) 161 #[.map (some (w.heap.size + 1))]:=by rw [hW1];exact bX0
  have m1 : KMap W1 (w.heap.size + 1) []:=by rw [hW1];exact (KMap.madeAt _ _ (by simp)).alloc _
  rw [← hW1]
  clear hW1
  have hJ : FJ (⟨bx,bY,sl,L,(fx,fX,fy,fY),B⟩ : Sc) AL AB cL cB U w.heap.size w0 A c (zer bs 0) bs W1:=⟨b0,own_below HRow.out hB1,b2,m1,fun x hx => (hq x hx).same hB1.size (fun b _ _ hlt => hB1.block b hlt),hUw,hb.trans (hB1.mono hUw)⟩
  have HJ:=Lib.hid hJ
  clear hJ m1 b0 b2 hB1 hb hq
  refine wp_loop_rounds (bs.length + 1) ?_
  refine loop1_c w.heap.size U bx bY sl fx fX fy fY L B AL AB A cL cB c w0 bs _ hS hn hok hl ?q1 (bs.length + 1) 0 W1 _ _ _ _ _ _ _ _ _ _ _ _ _ _ _ _ _ _ _ _ _ _ _ _ _ _ _ _ _ _ _ _ _ _ _ _ _ _ _ _ _ _ _ _ _ _ _ _ _ _ _ _ _ _ _ _ _ _ _ _ _ _ HJ.out (by omega) (by omega)
  case q1 =>
    intro W2 k t0 t2 t3 t5 t6 t7 t8 t9 t10 t11 t12 t16 t17 t18 t19 t20 t21 t22 t23 t24 t25 t26 t27 t28 t29 t30 t31 t32 t33 t34 t35 t36 t37 t38 t39 t40 t41 t42 t43 t44 t45 t46 t47 t48 t49 t50 t51 t52 t53 t54 t55 t56 t57 t58 t59 t60 t61 t62 t63 t64 t65 t66 hJ2
    have l0:=hJ2.row.lt;have l2:=hJ2.boxM.lt
    have HJ2:=Lib.hid hJ2
    clear hJ2
    go_wp2
    have hb2 : Below W2.heap.size W2 (W2.alloc (.cells #[.int .i64 0] 3)):=by exact bB0
    have hI : FI (⟨bx,bY,sl,L,(fx,fX,fy,fY),B⟩ : Sc) AL AB cL cB U w.heap.size W2.heap.size w0 (zer bs bs.length,bs.map (·.1)) bs 0 (W2.alloc (.cells #[.int .i64 0] 3)):=by
      have J:=HJ2.out.keep hb2
      exact ⟨⟨A,c,J.row,J.own⟩,J.boxM,J.mapM,rfl,J.qs,Box.new _ _ _,by omega,J.hU,J.below⟩
    refine (wpIn_wide (n:=6)).1 ?_
    refine wpIn_loop_rounds ((alP (⟨bx,bY,sl,L,(fx,fX,fy,fY),B⟩ : Sc)).length + 1) ?_
    refine outer_c w.heap.size U bx bY sl fx fX fy fY L B AL AB cL cB w0 F _ hS HU.out hs1 hs2 ?q2 ((alP (⟨bx,bY,sl,L,(fx,fX,fy,fY),B⟩ : Sc)).length + 1) 0 W2.heap.size (zer bs bs.length,bs.map (·.1)) bs [] _ _ _ _ _ _ _ _ _ _ _ _ _ _ _ _ _ _ _ _ _ _ _ _ _ _ _ _ _ _ _ _ _ _ _ _ _ _ _ _ _ _ _ _ _ _ _ _ _ _ _ _ _ _ _ _ _ _ _ _ _ _ _ _ _ hI HF0.out hV0 (MarksOk.nil _ _) (by omega) (by omega) HFP.out
    case q2 =>
      intro i Bi ds bs' W3 t0 t2 t3 t5 t6 t8 t9 t10 t11 t12 t13 t14 t15 t16 t17 t18 t19 t20 t21 t22 t23 t24 t25 t26 t27 t28 t29 t30 t31 t32 t33 t34 t35 t36 t37 t38 t39 t40 t41 t42 t43 t44 t45 t46 t47 t48 t49 t50 t51 t52 t53 t54 t55 t56 t57 t58 t59 t60 t61 t62 t63 t64 t65 t66 hI3 hM3
      obtain ⟨A',c',R1,R2⟩:=hI3.row
      have c0:=R1.cell 0
      have c2:=hI3.boxM.cell 0
      simp at c0 c2
      have lH:=R1.lt
      have lM:=hI3.boxM.lt
      have HI3:=Lib.hid hI3
      have HM3:=Lib.hid hM3
      have HR2:=Lib.hid R2
      have HR1:=Lib.hid R1
      clear hI3 hM3 R2 R1 hI
      go_wp2
      (refine region_open kR (fun R hR => ?_);refine heldR (S:=(fun w' => w' = W3.drew)) ?_ (fun hHeld => ?_);(focus ((try dsimp only);((first | done | rfl))));refine rgT 0 ?_ rfl (fun w' hSw => ?_) ?_;rotate_left;(focus ((try dsimp only at hSw);(subst hSw);go_simp;(try with_reducible rfl)));(try simp only [Act.put,pqs]);refine rgT 1 ?_ rfl (fun w' hSw => ?_) ?_;rotate_left;(focus ((try dsimp only at hSw);(subst hSw);go_simp;(try with_reducible rfl)));(try simp only [Act.put,pqs]);refine rgN 2 rfl ?_;refine rgN 3 rfl ?_;refine wpAnyH_done (Q:=fun e a w => e = Exit.normal ∧ R a w) kR ⟨rfl,hR _ _ ?_⟩ _;clear hR R)
      go_wp2
      have hI3:=HI3.out
      have lU : U ≤ w.heap.size:=hUw
      refine leaves_marks (n:=6) (B:=w.heap.size + 3) (G:=fun W' => KMap W' (w.heap.size + 1) F.1 ∧ W'.ownsRow U 135 11 (.slice A' bs'.length c') bs'.length (bs'.flatMap (arV (⟨bx,bY,sl,L,(fx,fX,fy,fY),B⟩ : Sc) AL AB cL cB)) ∧ (∀ x ∈ bs',QOk U x W') ∧ Below U w0 W')
        ?gKeep ds _ HM3.out ⟨hI3.mapM,HR2.out,hI3.qs,Below.drew hI3.below⟩ (fun V h => ⟨_,results_tmp2 rfl _ _ _,w.heap.size + 1,A',c',bs',rfl,h.1,hI3.ps,h.2.1,h.2.2.1,h.2.2.2⟩)
      rintro V D hD hd ⟨g1,g2,g3,g4⟩
      have hg:=grownBy_putObj' V D (.deferred none)
      have hr : ∀ r,some D = some r → ∃ o : Obj,V.heap[r]? = some o ∧ o.isCells = false:=fun r e => by cases e;exact ⟨_,hd,rfl⟩
      exact ⟨g1.putOther (by omega) _,own_row g2 hg hr,fun x hx => (g3 x hx).own hg hr,below_putObj g4 (by omega) _⟩
end Go.Proofs.YtpnfgmgoafgcbaaGreat

/-
  The texts Sym, BfsG, Fl3 in one.
-/
import Derived.Test.YtpnfgmgoafgcbaaGreatA6
import Derived.Test.YtpnfgmgoafgcbaaGreatA7
import Derived.Lib.Hide
import Derived.Test.YtpnfgmgoafgcbaaGreatFl2
import Derived.Test.YtpnfgmgoafgcbaaGreatFree
set_option linter.all false
/-
  Moves can be made back (chapter 6), in plain words: the opposite move leads back, has the same sweep, and may be made.
-/
set_option linter.unusedVariables false
namespace Go.Proofs.YtpnfgmgoafgcbaaGreat
def inv (m : Mv) : Mv:=(m.1,-m.2)
theorem mem_allM {s : Sc} {m : Mv} : m ∈ allM s ↔ -1 ≤ m.1 ∧ m.1 < s.L.length ∧ (m.2 = -1 ∨ m.2 = 1):=by
  obtain ⟨a,b⟩:=m
  simp only [allM,List.mem_flatMap,List.mem_range,List.mem_cons,List.not_mem_nil,or_false,Prod.mk.injEq]
  constructor
  · rintro ⟨j,hj,⟨rfl,rfl⟩ | ⟨rfl,rfl⟩⟩
    · exact ⟨by omega,by omega,.inl rfl⟩
    · exact ⟨by omega,by omega,.inr rfl⟩
  · rintro ⟨h1,h2,h3⟩
    refine ⟨(a + 1).toNat,by omega, ?_⟩
    rcases h3 with rfl | rfl
    · exact .inl ⟨by omega,rfl⟩
    · exact .inr ⟨by omega,rfl⟩
theorem addAt_back : ∀ (Q : List Int) (i : Nat) (b : Int),addAt (addAt Q i b) i (-b) = Q
  | [],_,_ => rfl
  | q :: Q,0,b => by simp only [addAt];rw [show q + b + -b = q by omega]
  | q :: Q,i + 1,b => by simp only [addAt];rw [addAt_back Q i b]
theorem mvd_back (p : Ps) (m : Mv) : mvd (mvd p m) (inv m) = p:=by
  obtain ⟨a,Q⟩:=p
  unfold mvd inv
  by_cases h : m.1 = -1
  · simp only [h,if_true]
    rw [show a + m.2 + -m.2 = a by omega]
  · simp only [if_neg h,addAt_back]
theorem withP_fold : ∀ (l : List Ce) (b : Bx) (t : Int),
    (t ≤ (l.foldl withP b).1 ↔ t ≤ b.1 ∧ ∀ c ∈ l,t ≤ c.1) ∧ ((l.foldl withP b).2.1 ≤ t ↔ b.2.1 ≤ t ∧ ∀ c ∈ l,c.1 ≤ t) ∧
    (t ≤ (l.foldl withP b).2.2.1 ↔ t ≤ b.2.2.1 ∧ ∀ c ∈ l,t ≤ c.2) ∧ ((l.foldl withP b).2.2.2 ≤ t ↔ b.2.2.2 ≤ t ∧ ∀ c ∈ l,c.2 ≤ t)
  | [],b,t => by simp
  | x :: l,b,t => by
    obtain ⟨h1,h2,h3,h4⟩:=withP_fold l (withP b x) t
    simp only [List.foldl_cons]
    rw [h1,h2,h3,h4]
    simp only [withP,List.mem_cons,forall_eq_or_imp]
    refine ⟨?_, ?_, ?_, ?_⟩
    · rw [← and_assoc];exact and_congr (by omega) Iff.rfl
    · rw [← and_assoc];exact and_congr (by omega) Iff.rfl
    · rw [← and_assoc];exact and_congr (by omega) Iff.rfl
    · rw [← and_assoc];exact and_congr (by omega) Iff.rfl
theorem int_le_ext {a b : Int} (h : ∀ t,t ≤ a ↔ t ≤ b) : a = b:=by
  have:=(h a).1 (Int.le_refl _);have:=(h b).2 (Int.le_refl _);omega
theorem int_ge_ext {a b : Int} (h : ∀ t,a ≤ t ↔ b ≤ t) : a = b:=by
  have:=(h a).1 (Int.le_refl _);have:=(h b).2 (Int.le_refl _);omega
/-- The box round cells depends on which cells there are alone. -/
theorem box_ext {a b : Ce} {l m : List Ce} (ha : a ∈ l) (hb : b ∈ m) (h : ∀ c,c ∈ l ↔ c ∈ m) : l.foldl withP (onlyP a) = m.foldl withP (onlyP b):=by
  have e1 : ∀ (Q : Ce → Prop),(Q a ∧ ∀ c ∈ l,Q c) ↔ (Q b ∧ ∀ c ∈ m,Q c):=fun Q =>
    ⟨fun k => ⟨k.2 b ((h b).2 hb),fun c hc => k.2 c ((h c).2 hc)⟩,fun k => ⟨k.2 a ((h a).1 ha),fun c hc => k.2 c ((h c).1 hc)⟩⟩
  have f1:=fun t => (withP_fold l (onlyP a) t)
  have f2:=fun t => (withP_fold m (onlyP b) t)
  refine Prod.ext (int_le_ext fun t => ?_) (Prod.ext (int_ge_ext fun t => ?_) (Prod.ext (int_le_ext fun t => ?_) (int_ge_ext fun t => ?_)))
  · rw [(f1 t).1,(f2 t).1];exact e1 (fun c => t ≤ c.1)
  · rw [(f1 t).2.1,(f2 t).2.1];exact e1 (fun c => c.1 ≤ t)
  · rw [(f1 t).2.2.1,(f2 t).2.2.1];exact e1 (fun c => t ≤ c.2)
  · rw [(f1 t).2.2.2,(f2 t).2.2.2];exact e1 (fun c => c.2 ≤ t)
theorem seg_head (a b : Ce) : a ∈ seg a b:=by
  simp only [seg,segN,List.mem_map,List.mem_range]
  exact ⟨0,by omega,by simp⟩
theorem clP_head {s : Sc} {p : Ps} {i : Nat} (hp : p.2.length = s.L.length) (hi : i < s.L.length) : (jts s p).getD i (0,0) ∈ clP s p i:=by
  have hl:=jts_len hp
  unfold clP
  rw [List.drop_eq_getElem_cons (show i < (jts s p).length by omega),List.drop_eq_getElem_cons (show i + 1 < (jts s p).length by omega),segs]
  refine List.mem_append_left _ ?_
  rw [List.getD_eq_getElem?_getD,List.getElem?_eq_getElem (show i < (jts s p).length by omega)]
  exact seg_head _ _
theorem swI_lt {s : Sc} {m : Mv} (hS : SOk s) (hm : m ∈ allM s) : swI m < s.L.length:=by
  have:=mem_allM.1 hm
  have:=hS.len
  unfold swI
  omega
theorem swBx_app (s : Sc) (p : Ps) (m : Mv) : swBx s p m = (clP s p (swI m) ++ clP s (mvd p m) (swI m)).foldl withP (onlyP ((jts s p).getD (swI m) (0,0))):=by
  unfold swBx
  rw [List.foldl_append]
theorem swBx_back {s : Sc} {p : Ps} {m : Mv} (hS : SOk s) (hp : POk s p) (hq : POk s (mvd p m)) (hm : m ∈ allM s) : swBx s (mvd p m) (inv m) = swBx s p m:=by
  rw [swBx_app,swBx_app,mvd_back]
  have hi:=swI_lt hS hm
  show (clP s (mvd p m) (swI m) ++ clP s p (swI m)).foldl withP (onlyP ((jts s (mvd p m)).getD (swI m) (0,0))) = _
  refine box_ext ?_ ?_ (fun c => ?_)
  · exact List.mem_append_left _ (clP_head hq.len hi)
  · exact List.mem_append_left _ (clP_head hp.len hi)
  · simp only [List.mem_append];exact Or.comm
theorem mayP_back {s : Sc} {p : Ps} {m : Mv} (hS : SOk s) (hp : POk s p) (hf : freeP s p = true) (hm : m ∈ allM s) (h : mayP s p m = true) : mayP s (mvd p m) (inv m) = true:=by
  simp only [mayP,Bool.and_eq_true,beq_iff_eq] at h
  have hq:=mvd_ok hp h.1.1
  simp only [mayP,mvdE,mvd_back,swBx_back hS hp hq hm,hf,h.1.2,Bool.and_true,beq_iff_eq]
  have : psE s p = 0:=psE_ok.2 ⟨inB_true.2 hp.sl,hp.qs⟩
  rw [this]
  rfl
theorem mem_allK {s : Sc} {p : Ps} {m : Mv} {q : Ps} : (m,q) ∈ allK s p ↔ m ∈ allM s ∧ mayP s p m = true ∧ q = mvd p m:=by
  simp only [allK,mvs,List.mem_map,List.mem_filter,Prod.mk.injEq]
  constructor
  · rintro ⟨a,⟨h1,h2⟩,rfl,rfl⟩;exact ⟨h1,h2,rfl⟩
  · rintro ⟨h1,h2,rfl⟩;exact ⟨m,⟨h1,h2⟩,rfl,rfl⟩
theorem allK_ok {s : Sc} {p : Ps} {m : Mv} {q : Ps} (hp : POk s p) (h : (m,q) ∈ allK s p) : POk s q ∧ freeP s q = true:=by
  obtain ⟨_,h2,rfl⟩:=mem_allK.1 h
  simp only [mayP,Bool.and_eq_true,beq_iff_eq] at h2
  exact ⟨mvd_ok hp h2.1.1,h2.2⟩
theorem allK_back {s : Sc} {p : Ps} {m : Mv} {q : Ps} (hS : SOk s) (hp : POk s p) (hf : freeP s p = true) (h : (m,q) ∈ allK s p) : (inv m,p) ∈ allK s q:=by
  obtain ⟨h1,h2,rfl⟩:=mem_allK.1 h
  refine mem_allK.2 ⟨?_,mayP_back hS hp hf h1 h2,(mvd_back p m).symm⟩
  have:=mem_allM.1 h1
  exact mem_allM.2 ⟨this.1,this.2.1,by simp only [inv];omega⟩
end Go.Proofs.YtpnfgmgoafgcbaaGreat
/-
  A search in breadth over a graph, with something kept for each node that is found (its distance, or the path to it): what it finds, in plain words, with no program in sight.
-/
set_option linter.unusedSectionVars false
set_option linter.unusedVariables false
namespace Go.Proofs.YtpnfgmgoafgcbaaGreat
section
variable {α β γ : Type} [DecidableEq α]
/-- One neighbour; one node; the whole search. -/
def stpB (ext : γ → β → γ) (e : γ) (L : List (α × γ)) (mq : β × α) : List (α × γ):=if mq.2 ∈ L.map (·.1) then L else L ++ [(mq.2,ext e mq.1)]
def exdB (ext : γ → β → γ) (nb : α → List (β × α)) (L : List (α × γ)) (x : α × γ) : List (α × γ):=(nb x.1).foldl (stpB ext x.2) L
def runB (ext : γ → β → γ) (nb : α → List (β × α)) : Nat → Nat → List (α × γ) → List (α × γ)
  | 0,_,L => L
  | f + 1,i,L => match L[i]? with
    | none => L
    | some x => runB ext nb f (i + 1) (exdB ext nb L x)
/-- A path that leads from a node to one. -/
inductive Lds (nb : α → List (β × α)) : α → List β → α → Prop
  | nil (x : α) : Lds nb x [] x
  | snoc {x y z : α} {p : List β} {m : β} : Lds nb x p y → (m,z) ∈ nb y → Lds nb x (p ++ [m]) z
omit [DecidableEq α] in
theorem Lds.cons {nb : α → List (β × α)} {x y z : α} {m : β} {p : List β} (h1 : (m,y) ∈ nb x) (h : Lds nb y p z) : Lds nb x (m :: p) z:=by
  induction h with
  | nil => exact Lds.snoc (p:=[]) (Lds.nil x) h1
  | snoc h hm ih => exact Lds.snoc (p:=m :: _) ih hm
omit [DecidableEq α] in
theorem Lds.nil_eq {nb : α → List (β × α)} {x z : α} (h : Lds nb x [] z) : x = z:=by
  generalize hq : ([] : List β) = q at h
  cases h with
  | nil => rfl
  | snoc h hm => simp at hq
omit [DecidableEq α] in
theorem Lds.uncons {nb : α → List (β × α)} {x z : α} {m : β} {p : List β} (h : Lds nb x (m :: p) z) : ∃ y,(m,y) ∈ nb x ∧ Lds nb y p z:=by
  generalize hq : m :: p = q at h
  induction h generalizing p with
  | nil => cases hq
  | @snoc y z q k h hm ih =>
    cases q with
    | nil =>
      cases hq
      rw [h.nil_eq]
      exact ⟨z,hm,Lds.nil z⟩
    | cons a q =>
      simp only [List.cons_append,List.cons.injEq] at hq
      obtain ⟨rfl,rfl⟩:=hq
      obtain ⟨u,h1,h2⟩:=ih rfl
      exact ⟨u,h1,Lds.snoc h2 hm⟩
theorem stpB_pre (ext : γ → β → γ) (e : γ) (L : List (α × γ)) (mq : β × α) : L <+: stpB ext e L mq:=by
  unfold stpB
  split
  · exact List.prefix_rfl
  · exact List.prefix_append _ _
theorem foldB_pre (ext : γ → β → γ) (e : γ) : ∀ (l : List (β × α)) (L : List (α × γ)),L <+: l.foldl (stpB ext e) L
  | [],_ => List.prefix_rfl
  | mq :: l,L => (stpB_pre ext e L mq).trans (foldB_pre ext e l _)
theorem runB_pre (ext : γ → β → γ) (nb : α → List (β × α)) : ∀ (f i : Nat) (L : List (α × γ)),L <+: runB ext nb f i L
  | 0,_,L => List.prefix_rfl
  | f + 1,i,L => by
    unfold runB
    split
    · exact List.prefix_rfl
    · exact (foldB_pre ext _ _ L).trans (runB_pre ext nb f (i + 1) _)
omit [DecidableEq α] in
theorem pre_get {L M : List α} (h : L <+: M) {k : Nat} {x : α} (hk : L[k]? = some x) : M[k]? = some x:=by
  obtain ⟨r,rfl⟩:=h
  rw [List.getElem?_append_left (List.getElem?_eq_some_iff.1 hk).1]
  exact hk
omit [DecidableEq α] in
theorem get_snoc {l : List α} {x y : α} {k : Nat} (h : (l ++ [x])[k]? = some y) : l[k]? = some y ∨ (k = l.length ∧ y = x):=by
  by_cases hk : k < l.length
  · rw [List.getElem?_append_left hk] at h;exact .inl h
  · rw [List.getElem?_append_right (by omega)] at h
    have : k - l.length = 0:=by
      by_cases h0 : k - l.length = 0
      · exact h0
      · rw [List.getElem?_eq_none (by simp;omega)] at h;cases h
    rw [this] at h
    exact .inr ⟨by omega,by simpa using h.symm⟩
/-- The order of what is kept: of two nodes the one that is found earlier has the lesser. -/
structure OrdB (ext : γ → β → γ) (lt : γ → γ → Prop) (ltm : β → β → Prop) : Prop where
  tr : ∀ {a b c},lt a b → lt b c → lt a c
  mono : ∀ {a b} (m m' : β),lt a b → lt (ext a m) (ext b m')
  last : ∀ (a : γ) {m m' : β},ltm m m' → lt (ext a m) (ext a m')
  up : ∀ (a : γ) (m : β),lt a (ext a m)
/-- What holds while node i is looked at: 'rest' are its neighbours that are still to come. -/
structure BfB (ext : γ → β → γ) (nb : α → List (β × α)) (lt : γ → γ → Prop) (b0 : List α) (ok : α → γ → Prop) (L : List (α × γ)) (i : Nat) (rest : List (β × α)) : Prop where
  nd : (L.map (·.1)).Nodup
  srt : ∀ (j k : Nat) (x y : α × γ),j < k → L[j]? = some x → L[k]? = some y → lt x.2 y.2
  bnd : ∀ (j : Nat) (m : β) (y : α × γ),L[j]? = some y → (i < j ∨ (i = j ∧ m ∈ rest.map (·.1))) → ∀ (k : Nat) (x : α × γ),L[k]? = some x → lt x.2 (ext y.2 m)
  cl : ∀ (j : Nat) (y : α × γ) (m : β) (q : α),L[j]? = some y → (m,q) ∈ nb y.1 → (j < i ∨ (j = i ∧ (m,q) ∉ rest)) → ∃ (k : Nat) (c : γ),L[k]? = some (q,c) ∧ (lt c (ext y.2 m) ∨ c = ext y.2 m)
  ok : ∀ x ∈ L,ok x.1 x.2
  src : ∀ b ∈ b0,b ∈ L.map (·.1)
theorem BfB.step {ext : γ → β → γ} {nb : α → List (β × α)} {lt : γ → γ → Prop} {ltm : β → β → Prop} (O : OrdB ext lt ltm) {b0 : List α} {ok : α → γ → Prop} (hok : ∀ x c m q,ok x c → (m,q) ∈ nb x → ok q (ext c m)) {L : List (α × γ)} {i : Nat} {rest : List (β × α)} {mq : β × α} {x : α × γ}
    (hx : L[i]? = some x) (hq : mq ∈ nb x.1) (hr : ∀ r ∈ rest,ltm mq.1 r.1) (B : BfB ext nb lt b0 ok L i (mq :: rest)) : BfB ext nb lt b0 ok (stpB ext x.2 L mq) i rest:=by
  have hxi : i < L.length:=(List.getElem?_eq_some_iff.1 hx).1
  obtain ⟨m0,q0⟩:=mq
  by_cases hm : q0 ∈ L.map (·.1)
  · have e : stpB ext x.2 L (m0,q0) = L:=by unfold stpB;rw [if_pos hm]
    rw [e]
    refine ⟨B.nd,B.srt,fun j m y hy hj k z hz => B.bnd j m y hy (hj.imp id (fun h => ⟨h.1,by simp only [List.map_cons,List.mem_cons];exact .inr h.2⟩)) k z hz,fun j y m q hy hmq hj => ?_,B.ok,B.src⟩
    by_cases he : j = i ∧ (m,q) = (m0,q0)
    · obtain ⟨rfl,he⟩:=he
      cases he
      rw [hx] at hy
      cases hy
      obtain ⟨⟨z,c⟩,hz,hzq⟩:=List.mem_map.1 hm
      dsimp only at hzq
      subst hzq
      obtain ⟨k,hk,hkz⟩:=List.getElem_of_mem hz
      have hk' : L[k]? = some (z,c):=by rw [List.getElem?_eq_getElem hk,hkz]
      exact ⟨k,c,hk',.inl (B.bnd j m0 x hx (.inr ⟨rfl,by simp⟩) k _ hk')⟩
    · refine B.cl j y m q hy hmq (hj.imp id (fun h => ⟨h.1,fun hc => ?_⟩))
      rcases List.mem_cons.1 hc with hc | hc
      · exact he ⟨h.1,hc⟩
      · exact h.2 hc
  · have e : stpB ext x.2 L (m0,q0) = L ++ [(q0,ext x.2 m0)]:=by unfold stpB;rw [if_neg hm]
    rw [e]
    have hlt : ∀ (k : Nat) (z : α × γ),L[k]? = some z → lt z.2 (ext x.2 m0):=fun k z hz => B.bnd i m0 x hx (.inr ⟨rfl,by simp⟩) k z hz
    refine ⟨?_,fun j k y z hjk hy hz => ?_,fun j m y hy hj k z hz => ?_,fun j y m q hy hmq hj => ?_,fun y hy => ?_,fun b hb => ?_⟩
    · rw [List.map_append,List.nodup_append]
      refine ⟨B.nd,by simp,fun a ha b hb e1 => ?_⟩
      have : b = q0:=by simpa using hb
      rw [e1,this] at ha
      exact hm ha
    · rcases get_snoc hz with hz | ⟨rfl,rfl⟩
      · have hkl:=(List.getElem?_eq_some_iff.1 hz).1
        rcases get_snoc hy with hy | ⟨rfl,rfl⟩
        · exact B.srt j k y z hjk hy hz
        · omega
      · rcases get_snoc hy with hy | ⟨rfl,rfl⟩
        · exact hlt j y hy
        · omega
    · rcases get_snoc hy with hy | ⟨rfl,rfl⟩
      · rcases get_snoc hz with hz | ⟨rfl,rfl⟩
        · exact B.bnd j m y hy (hj.imp id (fun h => ⟨h.1,by simp only [List.map_cons,List.mem_cons];exact .inr h.2⟩)) k z hz
        · rcases hj with hj | ⟨rfl,hj⟩
          · exact O.mono _ _ (B.srt i j x y hj hx hy)
          · rw [hx] at hy
            cases hy
            obtain ⟨r,hr1,rfl⟩:=List.mem_map.1 hj
            exact O.last _ (hr r hr1)
      · rcases get_snoc hz with hz | ⟨rfl,rfl⟩
        · exact O.tr (hlt k z hz) (O.up _ _)
        · exact O.up _ _
    · rcases get_snoc hy with hy | ⟨rfl,rfl⟩
      · by_cases he : j = i ∧ (m,q) = (m0,q0)
        · obtain ⟨rfl,he⟩:=he
          cases he
          rw [hx] at hy
          cases hy
          exact ⟨L.length,_,by simp,.inr rfl⟩
        · obtain ⟨k,c,hk,hc⟩:=B.cl j y m q hy hmq (hj.imp id (fun h => ⟨h.1,fun hc => by
            rcases List.mem_cons.1 hc with hc | hc
            · exact he ⟨h.1,hc⟩
            · exact h.2 hc⟩))
          exact ⟨k,c,pre_get (List.prefix_append _ _) hk,hc⟩
      · omega
    · rcases List.mem_append.1 hy with hy | hy
      · exact B.ok y hy
      · have : y = (q0,ext x.2 m0):=by simpa using hy
        subst this
        exact hok _ _ _ _ (B.ok x (List.mem_of_getElem? hx)) hq
    · rw [List.map_append]
      exact List.mem_append_left _ (B.src b hb)
theorem BfB.steps {ext : γ → β → γ} {nb : α → List (β × α)} {lt : γ → γ → Prop} {ltm : β → β → Prop} (O : OrdB ext lt ltm) {b0 : List α} {ok : α → γ → Prop} (hok : ∀ x c m q,ok x c → (m,q) ∈ nb x → ok q (ext c m)) {i : Nat} {x : α × γ} :
    ∀ (rest : List (β × α)) (L : List (α × γ)),L[i]? = some x → (∀ r ∈ rest,r ∈ nb x.1) → rest.Pairwise (fun a b => ltm a.1 b.1) → BfB ext nb lt b0 ok L i rest → BfB ext nb lt b0 ok (rest.foldl (stpB ext x.2) L) i []
  | [],L,_,_,_,B => B
  | mq :: rest,L,hx,hin,hp,B => by
    have hp:=List.pairwise_cons.1 hp
    exact BfB.steps O hok rest _ (pre_get (stpB_pre _ _ _ _) hx) (fun r hr => hin r (by simp [hr])) hp.2 (B.step O hok hx (hin _ (by simp)) hp.1)
/-- The neighbours of node i. -/
def nxB (nb : α → List (β × α)) (L : List (α × γ)) (i : Nat) : List (β × α):=match L[i]? with
  | some y => nb y.1
  | none => []
omit [DecidableEq α] in
theorem nxB_some {nb : α → List (β × α)} {L : List (α × γ)} {i : Nat} {y : α × γ} (h : L[i]? = some y) : nxB nb L i = nb y.1:=by unfold nxB;rw [h]
omit [DecidableEq α] in
theorem nxB_none {nb : α → List (β × α)} {L : List (α × γ)} {i : Nat} (h : L[i]? = none) : nxB nb L i = []:=by unfold nxB;rw [h]
omit [DecidableEq α] in
theorem BfB.over {ext : γ → β → γ} {nb : α → List (β × α)} {lt : γ → γ → Prop} {b0 : List α} {ok : α → γ → Prop} {L : List (α × γ)} {i : Nat} (B : BfB ext nb lt b0 ok L i []) : BfB ext nb lt b0 ok L (i + 1) (nxB nb L (i + 1)):=by
  refine ⟨B.nd,B.srt,fun j m y hy hj k x hx => B.bnd j m y hy (.inl (by rcases hj with hj | hj <;> omega)) k x hx,fun j y m q hy hmq hj => ?_,B.ok,B.src⟩
  rcases hj with hj | ⟨rfl,hj⟩
  · exact B.cl j y m q hy hmq (by
      by_cases h : j = i
      · exact .inr ⟨h,by simp⟩
      · exact .inl (by omega))
  · rw [nxB_some hy] at hj
    exact absurd hmq hj
theorem BfB.run {ext : γ → β → γ} {nb : α → List (β × α)} {lt : γ → γ → Prop} {ltm : β → β → Prop} (O : OrdB ext lt ltm) {b0 : List α} {ok : α → γ → Prop} (hok : ∀ x c m q,ok x c → (m,q) ∈ nb x → ok q (ext c m)) (hnb : ∀ x c,ok x c → (nb x).Pairwise (fun a b => ltm a.1 b.1))
    {N : Nat} (hN : ∀ L : List (α × γ),(L.map (·.1)).Nodup → (∀ x ∈ L,ok x.1 x.2) → L.length ≤ N) :
    ∀ (f i : Nat) (L : List (α × γ)),N < i + f → BfB ext nb lt b0 ok L i (nxB nb L i) → ∃ i',(runB ext nb f i L).length ≤ i' ∧ BfB ext nb lt b0 ok (runB ext nb f i L) i' []
  | 0,i,L,hf,B => ⟨i,by have:=hN L B.nd B.ok;unfold runB;omega,by
      have:=hN L B.nd B.ok
      rw [nxB_none (List.getElem?_eq_none (by omega))] at B
      exact B⟩
  | f + 1,i,L,hf,B => by
    unfold runB
    cases hx : L[i]? with
    | none =>
      rw [nxB_none hx] at B
      exact ⟨i,by have:=List.getElem?_eq_none_iff.1 hx;exact this,B⟩
    | some x =>
      rw [nxB_some hx] at B
      have hokx:=B.ok x (List.mem_of_getElem? hx)
      have B1:=BfB.steps O hok (nb x.1) L hx (fun _ h => h) (hnb _ _ hokx) B
      exact BfB.run O hok hnb hN f (i + 1) _ (by omega) B1.over
/-- What is found, whole: all that can be reached, each with the least of what may be kept for it. -/
theorem BfB.whole {ext : γ → β → γ} {nb : α → List (β × α)} {lt : γ → γ → Prop} {ltm : β → β → Prop} (O : OrdB ext lt ltm) {b0 : List α} {ok : α → γ → Prop} {L : List (α × γ)} {i : Nat} (B : BfB ext nb lt b0 ok L i []) (hi : L.length ≤ i)
    {e0 : γ} (hb : ∀ b ∈ b0,(b,e0) ∈ L) {b : α} (hbb : b ∈ b0) {p : List β} {z : α} (h : Lds nb b p z) : ∃ c,(z,c) ∈ L ∧ (lt c (p.foldl ext e0) ∨ c = p.foldl ext e0):=by
  induction h with
  | nil => exact ⟨e0,hb _ hbb,.inr rfl⟩
  | @snoc y z p m h hm ih =>
    obtain ⟨c,hc,hl⟩:=ih
    obtain ⟨j,hj,hjc⟩:=List.getElem_of_mem hc
    have hj' : L[j]? = some (y,c):=by rw [List.getElem?_eq_getElem hj,hjc]
    obtain ⟨k,d,hk,hd⟩:=B.cl j (y,c) m z hj' hm (.inl (by omega))
    refine ⟨d,List.mem_of_getElem? hk, ?_⟩
    rw [List.foldl_append]
    show lt d (ext _ m) ∨ d = ext _ m
    rcases hl with hl | rfl
    · have h2:=O.mono m m hl
      rcases hd with hd | rfl
      · exact .inl (O.tr hd h2)
      · exact .inl h2
    · exact hd
end
end Go.Proofs.YtpnfgmgoafgcbaaGreat
/-
  The search over poses (chapter 6): all moves from one pose.
-/
set_option linter.unusedVariables false
namespace Go.Proofs.YtpnfgmgoafgcbaaGreat
open Go.RowKit Go.Shelf
attribute [local go_sem] Oper.semAt_some
theorem cell_own {W W' : World} {row : Option Nat} (hg : W.grownBy W' row) (hr : ∀ r,row = some r → ∃ o : Obj,W.heap[r]? = some o ∧ o.isCells = false) {b j : Nat} {u : Value} (hlt : b < W.heap.size) (h : W.cell? ⟨b,j,none⟩ = some u) : W'.cell? ⟨b,j,none⟩ = some u:=by
  refine (cell_same (hg.block b hlt fun e => ?_) j).trans h
  obtain ⟨o,ho,hc⟩:=hr b e.symm
  unfold World.cell? at h
  dsimp only at h
  rw [ho] at h
  cases o <;> simp_all [Obj.isCells]
theorem SlI.own {W W' : World} {row : Option Nat} {A : Option Addr} {xs : List Int} (h : SlI W A xs) (hg : W.grownBy W' row) (hr : ∀ r,row = some r → ∃ o : Obj,W.heap[r]? = some o ∧ o.isCells = false) : SlI W' A xs:=fun j u hj => by
  obtain ⟨b,off,e,hlt,hc⟩:=h j u hj
  exact ⟨b,off,e,Nat.lt_of_lt_of_le hlt hg.size,cell_own hg hr hlt hc⟩
theorem SlV.own {W W' : World} {row : Option Nat} {A : Option Addr} {xs : List Value} (h : SlV W A xs) (hg : W.grownBy W' row) (hr : ∀ r,row = some r → ∃ o : Obj,W.heap[r]? = some o ∧ o.isCells = false) : SlV W' A xs:=fun j u hj => by
  obtain ⟨b,off,e,hlt,hc⟩:=h j u hj
  exact ⟨b,off,e,Nat.lt_of_lt_of_le hlt hg.size,cell_own hg hr hlt hc⟩
theorem box_row {W W' : World} {g : Nat} {t : TypeId} {cs : Array Value} {row : Option Nat} (h : Box W g t cs) (hg : W.grownBy W' row)
    (hr : ∀ r,row = some r → ∃ o : Obj,W.heap[r]? = some o ∧ o.isCells = false) : Box W' g t cs:=box_keep h hg (row_ne h hr)
theorem own_row {W W' : World} {b : Nat} {e : TypeId} {sz : Nat} {v : Value} {n : Nat} {xs : List Value} {row : Option Nat} (h : W.ownsRow b e sz v n xs) (hg : W.grownBy W' row)
    (hr : ∀ r,row = some r → ∃ o : Obj,W.heap[r]? = some o ∧ o.isCells = false) : W'.ownsRow b e sz v n xs:=by
  refine own_same h fun g hg' => ?_
  rcases h.2 with ⟨rfl,_⟩ | ⟨k,cap,cur,rfl,_,hh,_⟩
  · simp [Value.ownBlock] at hg'
  · simp only [Value.ownBlock,Option.some.injEq] at hg'
    subst hg'
    refine hg.block _ (Array.getElem?_eq_some_iff.1 hh).1 fun e => ?_
    obtain ⟨o,ho,hc⟩:=hr _ e.symm
    rw [hh] at ho;cases ho;cases hc
theorem QOk.own {U : Nat} {x : Ar} {W W' : World} {row : Option Nat} (h : QOk U x W) (hg : W.grownBy W' row) (hr : ∀ r,row = some r → ∃ o : Obj,W.heap[r]? = some o ∧ o.isCells = false) : QOk U x W':=by
  obtain ⟨h1,b,off,e,h2⟩:=h
  exact ⟨h1.own hg hr,b,off,e,h2.imp id (fun ⟨cs,hc⟩ => ⟨cs,box_row hc hg hr⟩)⟩
theorem FI.own {s : Sc} {AL AB : Option Addr} {cL cB U h Bi B : Nat} {w0 : World} {a : Fl} {bs : List Ar} {i : Nat} {W W' : World} {row : Option Nat} (hI : FI s AL AB cL cB U h Bi w0 a bs i W) (hg : W.grownBy W' row)
    (hr : ∀ r,row = some r → B ≤ r ∧ ∃ o : Obj,W.heap[r]? = some o ∧ o.isCells = false) (hB : h + 2 ≤ B) : FI s AL AB cL cB U h Bi w0 a bs i W':=by
  have hr' : ∀ r,row = some r → ∃ o : Obj,W.heap[r]? = some o ∧ o.isCells = false:=fun r e => (hr r e).2
  obtain ⟨⟨A,c,r1,r2⟩,m1,⟨l,clock,he,hk⟩,p,q,b,e1,e2,e3⟩:=hI
  have lR:=r1.lt
  refine ⟨⟨A,c,box_row r1 hg hr',own_row r2 hg hr'⟩,box_row m1 hg hr',⟨l,clock,(hg.block (h + 1) (Array.getElem?_eq_some_iff.1 he).1 fun e => ?_).trans he,hk⟩,p,fun x hx => (q x hx).own hg hr',box_row b hg hr',e1,e2,e3.grown hg (by omega) (fun k e => by have:=(hr k e).1;omega)⟩
  have:=(hr _ e.symm).1
  omega
theorem FStep.own {h B : Nat} {X Y Z : World} {row : Option Nat} (a : FStep h X Y) (hg : Y.grownBy Z row) (hr : ∀ r,row = some r → B ≤ r) (hB : X.heap.size ≤ B) (hh : h < X.heap.size) : FStep h X Z :=
  ⟨Nat.le_trans a.size hg.size,fun k hk h1 h2 h3 => (hg.block k (Nat.lt_of_lt_of_le hk a.size) (fun e => by have:=hr k e.symm;omega)).trans (a.same k hk h1 h2 h3),
    fun r e => a.row r (by rw [← e];exact (rowB_same (hg.block h (Nat.lt_of_lt_of_le hh a.size) (fun e => by have:=hr h e.symm;omega))).symm)⟩
theorem FStep.refl (h : Nat) (X : World) : FStep h X X:=⟨Nat.le_refl _,fun _ _ _ _ _ => rfl,fun _ e => .inl e⟩
theorem FStep.keeps {h B : Nat} {X Y : World} (a : FStep h X Y) (hB : h + 2 ≤ B) (hrow : ∀ r,rowB h X = some r → ∃ cs t,Box X r t cs) : KeepsFrom B X Y :=
  ⟨a.size,fun k o hk ho hc => (a.same k (Array.getElem?_eq_some_iff.1 ho).1 (by omega) (by omega) (fun e => by
    obtain ⟨cs,t,hb⟩:=hrow k e
    rw [show X.heap[k]? = _ from hb] at ho
    cases ho;cases hc)).trans ho⟩
theorem FI.rowBox {s : Sc} {AL AB : Option Addr} {cL cB U h Bi : Nat} {w0 : World} {a : Fl} {bs : List Ar} {i : Nat} {W : World} (hI : FI s AL AB cL cB U h Bi w0 a bs i W) : ∀ r,rowB h W = some r → ∃ cs t,Box W r t cs:=by
  intro r hr
  obtain ⟨A,c,r1,r2⟩:=hI.row
  cases A with
  | none =>
    have:=r1.cell 0
    simp at this
    simp [rowB,this] at hr
  | some ad =>
    rcases r2.2 with ⟨e,_⟩ | ⟨g,cap,cur,e,_⟩
    · cases e
    · have e1 : ad = ⟨g,0,none⟩:=by
        injection e with e
        exact Option.some.inj e
      subst e1
      rw [rowB_box r1] at hr
      cases hr
      obtain ⟨cs,hcs⟩:=own_some r2
      exact ⟨cs,_,hcs⟩
/-- The numbers of moves stay small. -/
def FlV (a : Fl) : Prop:=∀ e ∈ a.1,0 ≤ e.2 ∧ e.2 ≤ a.1.length
theorem FlV.step {a : Fl} (h : FlV a) {d : Int} (hd : 0 ≤ d ∧ d ≤ a.1.length) (p : Ps) : FlV (fl1 d a p):=by
  unfold fl1
  split
  · exact h
  · intro e he
    simp only [List.length_append,List.length_cons,List.length_nil]
    rcases List.mem_append.1 he with he | he
    · have:=h e he;omega
    · have : e = (kyP p,d + 1):=by simpa using he
      subst this
      dsimp only
      omega
theorem FlV.steps {d : Int} : ∀ (l : List Ps) (a : Fl),FlV a → (0 ≤ d ∧ d ≤ a.1.length) → FlV (l.foldl (fl1 d) a)
  | [],_,h,_ => h
  | p :: l,a,h,hd => FlV.steps l _ (h.step hd p) (by
      have:=(fl1_pre d a p).2.length_le
      omega)
theorem lkp_mem {es : List (Ky × Int)} {k : Ky} {v : Int} (h : lkp es k = some v) : ∃ e ∈ es,e.2 = v:=by
  obtain ⟨e,he,rfl⟩:=Option.map_eq_some_iff.1 h
  exact ⟨e,List.mem_of_find?_eq_some he,rfl⟩
theorem upto_len (lo : Int) (n : Nat) : (upto lo n).length = n:=by simp [upto]
theorem flatMap_len {α β γ : Type} (f : α → β → γ) (m : List β) : ∀ l : List α,(l.flatMap fun q => m.map (f q)).length = l.length * m.length
  | [] => by simp
  | a :: l => by rw [List.flatMap_cons,List.length_append,flatMap_len f m l];simp [Nat.succ_mul];omega
theorem alQ_len : ∀ L : List Lk,(∀ l ∈ L,-2 ≤ l.2.1 ∧ l.2.2 ≤ 2) → (alQ L).length ≤ 5 ^ L.length
  | [],_ => by simp [alQ]
  | l :: L,h => by
    have h1:=h l (by simp)
    have ih:=alQ_len L (fun x hx => h x (by simp [hx]))
    unfold alQ
    rw [flatMap_len (fun q Q => q :: Q),upto_len,List.length_cons,Nat.pow_succ,Nat.mul_comm (5 ^ L.length)]
    exact Nat.mul_le_mul (by omega) ih
theorem alP_len {s : Sc} (hS : SOk s) : (alP s).length ≤ 1000:=by
  have h1:=hS.sl
  have h2:=hS.len
  have h3:=alQ_len s.L (fun l hl => by have:=hS.lk l hl;omega)
  unfold alP
  rw [flatMap_len (fun x Q => (x,Q)),upto_len]
  have h4 : 5 ^ s.L.length ≤ 5 ^ 3:=Nat.pow_le_pow_right (by omega) h2.2
  have h5:=Nat.mul_le_mul (show (s.sl + 1).toNat ≤ 7 by omega) (Nat.le_trans h3 h4)
  omega
def aft (a : Fl) (d : Int) (pre : List MvX) : Fl:=(pre.map fun x => x.2.1).foldl (fl1 d) a
theorem aft_snoc (a : Fl) (d : Int) (pre : List MvX) (x : MvX) : aft a d (pre ++ [x]) = fl1 d (aft a d pre) x.2.1:=by simp [aft]
theorem aft_all {s : Sc} {a : Fl} {p : Ps} {d : Int} (hd : lkp a.1 (kyP p) = some d) {xs : List MvX} (h : xs.map kyM = allK s p) : aft a d xs = flx s a p:=by
  unfold aft flx
  rw [hd]
  have : nbs s p = (allK s p).map (·.2):=by simp [nbs,allK]
  rw [this,← h]
  simp only [List.map_map]
  rfl
noncomputable def fRange : Code:=(Tryz.f108.body.bind firstRange).getD .skip
set_option maxHeartbeats 4000000 in
set_option maxRecDepth 100000 in
theorem frange_c (h Bi U gA : Nat) (bx bY sl fx fX fy fY ps : Int) (L : List Lk) (B : List Bx) (Q : List Int) (AL AB AQ : Option Addr) (cL cB cQ : Nat) (w0 W0 : World) (a : Fl) (bs : List Ar) (i : Nat) (d : Int) (ds : List Deferred) (PQ : Exit → Act → World → Prop)
    (hS : SOk (⟨bx,bY,sl,L,(fx,fX,fy,fY),B⟩ : Sc)) (hI : FI (⟨bx,bY,sl,L,(fx,fX,fy,fY),B⟩ : Sc) AL AB cL cB U h Bi w0 a bs i W0) (hF : FlI (⟨bx,bY,sl,L,(fx,fX,fy,fY),B⟩ : Sc) a) (hV : FlV a) (hU : U = w0.heap.size) (hs1 : SlV w0 AL (L.flatMap lkV)) (hs2 : SlV w0 AB (B.flatMap bxV))
    (hy : bs[i]? = some ((ps,Q),AQ,cQ)) (hd : lkp a.1 (kyP (ps,Q)) = some d) (hA : Box W0 gA 135 #[.int .i64 bx,.int .i64 bY,.int .i64 sl,.slice AL L.length cL,.int .i64 fx,.int .i64 fX,.int .i64 fy,.int .i64 fY,.slice AB B.length cB,.int .i64 ps,.slice AQ Q.length cQ]) (hgA : h + 3 ≤ gA) (hgR : rowB h W0 ≠ some gA) (hB3 : h + 3 ≤ W0.heap.size)
    (hQ : ∀ (D : Nat) (W' : World) (bs' : List Ar),W0.heap.size ≤ D → FI (⟨bx,bY,sl,L,(fx,fX,fy,fY),B⟩ : Sc) AL AB cL cB U h Bi w0 (flx (⟨bx,bY,sl,L,(fx,fX,fy,fY),B⟩ : Sc) a (ps,Q)) bs' i W' → FStep h W0 W' → W'.heap[D]? = some (.deferred (some [])) → bs <+: bs' → ∀ (t0 t2 t3 t5 t6 t8 t9 t10 t11 t12 t13 t14 t15 t16 t17 t18 t19 t20 t21 t22 t23 t24 t25 t26 t27 t28 t29 t30 t31 t32 t33 t35 t36 t37 t38 t39 t40 t41 t42 t43 t44 t45 t46 t47 t48 t49 t50 t51 t52 t53 t54 t55 t56 t57 t58 t59 t60 t61 t62 t63 t64 t65 t66 : Value),PQ .normal ⟨#[t0,Value.pointer (some ⟨h,0,none⟩),t2,t3,Value.pointer (some ⟨h + 2,0,none⟩),t5,t6,Value.pointer (some ⟨Bi,0,none⟩),t8,t9,t10,t11,t12,t13,t14,t15,t16,t17,t18,t19,t20,t21,t22,t23,t24,t25,t26,t27,t28,t29,t30,t31,t32,t33,Value.func (.func 157) #[] #[.pointer (some ⟨gA,0,none⟩)],t35,t36,t37,t38,t39,t40,t41,t42,t43,t44,t45,t46,t47,t48,t49,t50,t51,t52,t53,t54,t55,t56,t57,t58,t59,t60,t61,t62,t63,t64,t65,t66],mk D :: ds⟩ W')
    (t0 t2 t3 t5 t6 t8 t9 t10 t11 t12 t13 t14 t15 t16 t17 t18 t19 t20 t21 t22 t23 t24 t25 t26 t27 t28 t29 t30 t31 t32 t33 t35 t36 t37 t38 t39 t40 t41 t42 t43 t44 t45 t46 t47 t48 t49 t50 t51 t52 t53 t54 t55 t56 t57 t58 t59 t60 t61 t62 t63 t64 t65 t66 : Value) : fRange.wpIn Fence.wide 6 Tryz.prog PQ ⟨#[t0,Value.pointer (some ⟨h,0,none⟩),t2,t3,Value.pointer (some ⟨h + 2,0,none⟩),t5,t6,Value.pointer (some ⟨Bi,0,none⟩),t8,t9,t10,t11,t12,t13,t14,t15,t16,t17,t18,t19,t20,t21,t22,t23,t24,t25,t26,t27,t28,t29,t30,t31,t32,t33,Value.func (.func 157) #[] #[.pointer (some ⟨gA,0,none⟩)],t35,t36,t37,t38,t39,t40,t41,t42,t43,t44,t45,t46,t47,t48,t49,t50,t51,t52,t53,t54,t55,t56,t57,t58,t59,t60,t61,t62,t63,t64,t65,t66],ds⟩ W0:=by
  have hil : i < bs.length:=(List.getElem?_eq_some_iff.1 hy).1
  have hbs : bs.length ≤ 1000:=by
    have h1:=hF.len
    have h2:=alP_len hS
    have h3 : bs.length = a.2.length:=by rw [← hI.ps];simp
    omega
  have hp : POk (⟨bx,bY,sl,L,(fx,fX,fy,fY),B⟩ : Sc) (ps,Q):=hF.ok _ (by rw [← hI.ps];exact List.mem_map_of_mem (List.mem_of_getElem? hy))
  have hL:=hS.len
  dsimp only at hL
  have hQl:=hp.len
  dsimp only at hQl
  have hVd : 0 ≤ d ∧ d ≤ a.1.length:=by
    obtain ⟨e,he,rfl⟩:=lkp_mem hd
    exact hV e he
  have ha1 : a.1.length = bs.length:=by
    have:=congrArg List.length hF.keys
    have h3 : bs.length = a.2.length:=by rw [← hI.ps];simp
    simp at this
    omega
  have lH : h < W0.heap.size:=by omega
  have hBi:=hI.hBi
  have hUh:=hI.hU
  have hbel:=hI.below
  have hs3 : SlI W0 AQ Q:=(hI.qs _ (List.mem_of_getElem? hy)).1
  have hseq:=moves1_seq 5 gA bx bY sl fx fX fy fY ps L B Q AL AB AQ cL cB cQ W0 (by omega) hS hp (hs1.below (hU ▸ hbel)) (hs2.below (hU ▸ hbel)) hs3 hA
  have hin : ∀ pre : List MvX,pre.map kyM <+: allK (⟨bx,bY,sl,L,(fx,fX,fy,fY),B⟩ : Sc) (ps,Q) → ∀ x ∈ pre,POk (⟨bx,bY,sl,L,(fx,fX,fy,fY),B⟩ : Sc) x.2.1:=by
    intro pre hpre x hx
    have hm : kyM x ∈ allK (⟨bx,bY,sl,L,(fx,fX,fy,fY),B⟩ : Sc) (ps,Q):=hpre.subset (List.mem_map_of_mem hx)
    exact (allK_ok hp (show (x.1,x.2.1) ∈ _ from hm)).1
  have hfl : ∀ pre : List MvX,pre.map kyM <+: allK (⟨bx,bY,sl,L,(fx,fX,fy,fY),B⟩ : Sc) (ps,Q) → FlI (⟨bx,bY,sl,L,(fx,fX,fy,fY),B⟩ : Sc) (aft a d pre) ∧ FlV (aft a d pre) ∧ lkp (aft a d pre).1 (kyP (ps,Q)) = some d:=by
    intro pre hpre
    refine ⟨hF.steps d _ _ (fun p hp' => ?_),FlV.steps _ _ hV hVd, ?_⟩
    · obtain ⟨x,hx,rfl⟩:=List.mem_map.1 hp'
      exact hin pre hpre x hx
    · obtain ⟨r,hr⟩:=(fls_pre d (pre.map fun x => x.2.1) a).2
      unfold aft
      rw [← hr]
      exact lkp_some_app hd
  unfold fRange
  conv => arg 4;whnf
  refine wpIn_rangeFunc_G (gf:=157) (lb:=#[.pointer (some ⟨gA,0,none⟩)]) rfl (by omega) rfl trivial (enters_of Tryz.func157 (by kernel_rfl) rfl) hseq ?Sk ?Kt ?Kb (Below.refl _ _) (fun _ => rfl)
    (fun pre W => pre.map kyM <+: allK (⟨bx,bY,sl,L,(fx,fX,fy,fY),B⟩ : Sc) (ps,Q) ∧ ∃ bs',FI (⟨bx,bY,sl,L,(fx,fX,fy,fY),B⟩ : Sc) AL AB cL cB U h Bi w0 (aft a d pre) bs' i W ∧ bs <+: bs' ∧ FStep h W0 W)
    (fun _ _ _ => False) ?I (fun _ _ _ _ _ h => h.elim) (fun _ _ _ h => h.elim) ⟨List.nil_prefix,bs,hI,List.prefix_rfl,FStep.refl _ _⟩
    (fun pre x a' W => pre.map kyM ++ [kyM x] <+: allK (⟨bx,bY,sl,L,(fx,fX,fy,fY),B⟩ : Sc) (ps,Q) ∧ SlI W (some ⟨x.2.2.1,0,none⟩) x.2.1.2 ∧ (∃ cs,Box W x.2.2.1 3 cs) ∧ ∃ gB,h + 3 ≤ gB ∧ Box W gB 135 #[.int .i64 bx,.int .i64 bY,.int .i64 sl,.slice AL L.length cL,.int .i64 fx,.int .i64 fX,.int .i64 fy,.int .i64 fY,.slice AB B.length cB,.int .i64 x.2.1.1,.slice (some ⟨x.2.2.1,0,none⟩) x.2.1.2.length x.2.2.2] ∧ a' = ⟨#[t0,Value.pointer (some ⟨h,0,none⟩),t2,t3,Value.pointer (some ⟨h + 2,0,none⟩),t5,t6,Value.pointer (some ⟨Bi,0,none⟩),t8,Value.pointer (some ⟨gB,0,none⟩),t10,t11,t12,t13,t14,t15,t16,t17,t18,t19,t20,t21,t22,t23,t24,t25,t26,t27,t28,t29,t30,t31,t32,t33,Value.func (.func 157) #[] #[.pointer (some ⟨gA,0,none⟩)],Value.agg #[.int .i64 x.1.1,.int .i64 x.1.2],Value.agg #[.int .i64 bx,.int .i64 bY,.int .i64 sl,.slice AL L.length cL,.int .i64 fx,.int .i64 fX,.int .i64 fy,.int .i64 fY,.slice AB B.length cB,.int .i64 x.2.1.1,.slice (some ⟨x.2.2.1,0,none⟩) x.2.1.2.length x.2.2.2],t37,t38,t39,t40,t41,t42,t43,t44,t45,t46,t47,t48,t49,t50,t51,t52,t53,t54,t55,t56,t57,t58,t59,t60,t61,t62,t63,t64,t65,t66],[]⟩) ?Ax ?assign ?body ?done (fun _ _ _ _ _ _ h => h.elim)
  case Sk => exact fun _ _ _ _ h => h.elim
  case Kt => exact fun h k => ⟨fun b => k.a (h.a b),fun b => k.s1 (h.s1 b),fun b => k.s2 (h.s2 b),fun b => k.s3 (h.s3 b)⟩
  case Kb =>
    intro W l o o' _ ho hc _
    have hg:=grownBy_putObj' W l o'
    have hr : ∀ r,some l = some r → ∃ o : Obj,W.heap[r]? = some o ∧ o.isCells = false:=fun r e => by cases e;exact ⟨o,ho,hc⟩
    exact ⟨fun b => box_row b hg hr,fun b => b.own hg hr,fun b => b.own hg hr,fun b => b.own hg hr⟩
  case I =>
    rintro pre A B' row ⟨h1,bs',h2,h3,h4⟩ hg hr
    exact ⟨h1,bs',h2.own hg hr (by omega),h3,h4.own hg (fun r e => (hr r e).1) (Nat.le_refl _) lH⟩
  case Ax =>
    rintro pre x a' _ A B' row ⟨h1,h2,⟨cs,h3⟩,gB,h4,h5,h6⟩ hg hr
    have hr' : ∀ r,row = some r → ∃ o : Obj,A.heap[r]? = some o ∧ o.isCells = false:=fun r e => (hr r e).2
    exact ⟨h1,h2.own hg hr',⟨cs,box_row h3 hg hr'⟩,gB,h4,box_row h5 hg hr',h6⟩
  case assign =>
    rintro l1 pre x W K ⟨h1,bs',h2,h3,h4⟩ ⟨hpx,hq,⟨cs,hqb⟩,_⟩ hK
    have hsz:=h4.size
    gi_wp2
    have hb : Below W.heap.size W (W.alloc (.cells #[.int .i64 bx,.int .i64 bY,.int .i64 sl,.slice AL L.length cL,.int .i64 fx,.int .i64 fX,.int .i64 fy,.int .i64 fY,.slice AB B.length cB,.int .i64 x.2.1.1,.slice (some ⟨x.2.2.1,0,none⟩) x.2.1.2.length x.2.2.2] 135)):=by exact bB0
    refine hK _ _ ((KeepsOthers.alloc _ _).from _) ⟨fun b => b.alloc _,fun b => b.below hb,fun b => b.below hb,fun b => b.below hb⟩ ⟨h1,bs',h2.keep hb,h3,h4.trans (FStep.of_below (by omega) hb)⟩ ⟨hpx,hq.below hb,⟨cs,hqb.alloc _⟩,W.heap.size,by omega,Box.new _ _ _,rfl⟩
  case body =>
    rintro l1 pre x a' W hlw ⟨h1,bs',h2,h3,h4⟩ ⟨hpx,hq,hqb,gB,hgB,hX,rfl⟩
    obtain ⟨hFI,hFV,hlk⟩:=hfl pre h1
    have hPx : POk (⟨bx,bY,sl,L,(fx,fX,fy,fY),B⟩ : Sc) x.2.1:=hin (pre ++ [x]) (by simpa using hpx) x (by simp)
    have hPl:=hPx.len
    obtain ⟨⟨mj,mb⟩,⟨P1,P2⟩,gQ,capQ⟩:=x
    dsimp only at hPl hX hq hqb
    have hbs' : bs'.length ≤ 1000:=by
      have e1:=hFI.len
      have e2:=alP_len hS
      have e3 : bs'.length = (aft a d pre).2.length:=by rw [← h2.ps];simp
      omega
    have hkp : ∀ W' bs2,FI (⟨bx,bY,sl,L,(fx,fX,fy,fY),B⟩ : Sc) AL AB cL cB U h Bi w0 (aft a d (pre ++ [((mj,mb),(P1,P2),gQ,capQ)])) bs2 i W' → FStep h W W' → bs <+: bs2 →
        ownPostG W0.heap.size (KpM gA #[.int .i64 bx,.int .i64 bY,.int .i64 sl,.slice AL L.length cL,.int .i64 fx,.int .i64 fX,.int .i64 fy,.int .i64 fY,.slice AB B.length cB,.int .i64 ps,.slice AQ Q.length cQ] AL AB AQ L B Q) (fun pre W => pre.map kyM <+: allK (⟨bx,bY,sl,L,(fx,fX,fy,fY),B⟩ : Sc) (ps,Q) ∧ ∃ bs',FI (⟨bx,bY,sl,L,(fx,fX,fy,fY),B⟩ : Sc) AL AB cL cB U h Bi w0 (aft a d pre) bs' i W ∧ bs <+: bs' ∧ FStep h W0 W) (fun _ _ _ => False) (pre ++ [((mj,mb),(P1,P2),gQ,capQ)]) W .normal ⟨#[],[]⟩ W':=by
      intro W' bs2 hI2 hF2 hb2
      have hrowA : rowB h W ≠ some gA:=by
        intro e
        rcases h4.row gA e with e | e
        · exact hgR e
        · have:=hA.lt;omega
      refine ⟨hF2.keeps (by omega) h2.rowBox,⟨fun b => hF2.box b (by omega) (by omega) hrowA,fun _ => hs1.below (hU ▸ hI2.below),fun _ => hs2.below (hU ▸ hI2.below),fun _ => ?_⟩,by simpa using hpx,bs2,hI2,hb2,h4.trans hF2⟩
      exact (hI2.qs _ (List.mem_of_getElem? (pre_get hb2 hy))).1
    refine fbody_c l1 _ h Bi gB U gQ capQ bx bY sl fx fX fy fY P1 L B P2 AL AB cL cB w0 W (aft a d pre) bs' i _ (by omega) (by omega) h2 hX hgB hq hqb ((ps,Q),AQ,cQ) (pre_get h3 hy) d hlk (by omega) ⟨by dsimp only;omega,by dsimp only;omega⟩ (by omega) ?q1 ?q2 _ _ _ _ _ _ _ _ _ _ _ _ _ _ _ _ _ _ _ _ _ _ _ _ _ _ _ _ _ _ _ _ _ _ _ _ _ _ _ _ _ _ _ _ _ _ _ _ _ _ _ _ _ _ _ _ _ _ _ _ _ _ _
    case q1 =>
      intro W' t0 t2 t3 t5 t6 t8 t10 t11 t12 t13 t14 t15 t16 t17 t18 t19 t20 t21 t22 t23 t24 t25 t26 t27 t28 t29 t30 t31 t32 t33 t34 t35 t36 t37 t38 t39 t40 t41 t42 t43 t44 t45 t46 t47 t48 t49 t50 t51 t52 t53 t54 t55 t56 t57 t58 t59 t60 t61 t62 t63 t64 t65 t66 hsome hI2 hF2
      have e : aft a d (pre ++ [((mj,mb),(P1,P2),gQ,capQ)]) = aft a d pre:=by
        rw [aft_snoc]
        unfold fl1
        dsimp only
        rw [if_pos hsome]
      exact hkp W' bs' (by rw [e];exact hI2) hF2 h3
    case q2 =>
      intro W' t0 t2 t3 t5 t6 t8 t10 t11 t12 t13 t14 t15 t16 t17 t18 t19 t20 t21 t22 t23 t24 t25 t26 t27 t28 t29 t30 t31 t32 t33 t34 t35 t36 t37 t38 t39 t40 t41 t42 t43 t44 t45 t46 t47 t48 t49 t50 t51 t52 t53 t54 t55 t56 t57 t58 t59 t60 t61 t62 t63 t64 t65 t66 hI2 hF2
      exact hkp W' _ (by rw [aft_snoc];exact hI2) hF2 (h3.trans (List.prefix_append _ _))
  case done =>
    rintro D xs W' hD hxs ⟨_,bs',h2,h3,h4⟩ hDD
    rw [aft_all hd hxs] at h2
    exact hQ D W' bs' hD h2 h4 hDD h3 _ _ _ _ _ _ _ _ _ _ _ _ _ _ _ _ _ _ _ _ _ _ _ _ _ _ _ _ _ _ _ _ _ _ _ _ _ _ _ _ _ _ _ _ _ _ _ _ _ _ _ _ _ _ _ _ _ _ _ _ _ _ _
end Go.Proofs.YtpnfgmgoafgcbaaGreat

/-
  The shortest path or none (law ArmProved of chapter 6), in plain words.
-/
import Derived.Test.YtpnfgmgoafgcbaaGreatG6
import Derived.Test.YtpnfgmgoafgcbaaGreatShP
import Derived.Test.YtpnfgmgoafgcbaaGreatG1
import Derived.Test.YtpnfgmgoafgcbaaGreatPath
set_option linter.all false
set_option linter.unusedVariables false
namespace Go.Proofs.YtpnfgmgoafgcbaaGreat
open Go.RowKit Go.Shelf
theorem ffE_all {f : Nat → Int} : ∀ {i k : Nat},(∀ j,i ≤ j → j < i + k → f j = 0) → ffE f i k = (0,0)
  | _,0,_ => rfl
  | i,k + 1,h => by
    unfold ffE
    rw [if_neg (by simp [h i (by omega) (by omega)])]
    exact ffE_all (fun j h1 h2 => h j (by omega) (by omega))
theorem own_ok {s : Sc} {p : Ps} (h : POk s p) : ownE s p = 0:=by
  unfold ownE
  rw [fstE_zero]
  simp only [List.mem_cons,List.not_mem_nil,or_false,forall_eq_or_imp,forall_eq]
  rw [unl_zero (by decide),unl_zero (by decide),unl_zero (by decide)]
  exact ⟨by simpa [inB] using h.sl,by simpa using h.len,h.qs⟩
theorem mvoP_of {ys : List PM} (hn : (ys.map (·.1)).Nodup) {q : Ps} {c : Int} (h : (q,c) ∈ ys) : mvoP ys q = c:=by
  unfold mvoP
  cases hf : ys.find? fun x => decide (x.1 = q) with
  | none =>
    have:=List.find?_eq_none.1 hf (q,c) h
    simp at this
  | some y =>
    have hm:=List.mem_of_find?_eq_some hf
    have hb:=List.find?_some hf
    have e : y.1 = q:=by simpa using hb
    have hy : (q,y.2) ∈ ys:=by rw [← e];exact hm
    exact nodup_snd hn hy h
theorem crG_zero {mo : Ps → Int} {z : Int} {nx : Mv → Ps} : ∀ {ms : List Mv} {b : Bool},(∀ m ∈ ms,0 ≤ mo (nx m) ∧ mo (nx m) - 1 ≤ z) → (b = true ∨ ∃ m ∈ ms,mo (nx m) = z - 1) → crG mo z nx ms b = 0
  | [],b,_,h => by
    rcases h with h | ⟨m,hm,_⟩
    · rw [h];rfl
    · cases hm
  | m :: ms,b,h1,h2 => by
    have h3:=h1 m (by simp)
    rw [crG_next (by omega) (by omega)]
    refine crG_zero (fun x hx => h1 x (by simp [hx])) ?_
    rcases h2 with h2 | ⟨x,hx,e⟩
    · left;simp [h2]
    · rcases List.mem_cons.1 hx with rfl | hx
      · left;simp [e]
      · right;exact ⟨x,hx,e⟩
/-- The reached poses, with what is known of each. -/
structure Rea (s : Sc) (p : Ps) (R : List PM) : Prop where
  nd : (R.map (·.1)).Nodup
  bef : ∀ i x y,R[i]? = some x → R[i + 1]? = some y → befS x.1 y.1 = true
  ok : ∀ x ∈ R,POk s x.1 ∧ freeP s x.1 = true ∧ 0 ≤ x.2 ∧ ∃ r,Lds (allK s) p r x.1 ∧ (r.length : Int) = x.2
  all : ∀ r z,Lds (allK s) p r z → ∃ c,(z,c) ∈ R ∧ c ≤ r.length
  hill : ∀ z c,(z,c) ∈ R → 0 < c → ∃ m y,(m,y) ∈ allK s z ∧ (y,c - 1) ∈ R
theorem rea {s : Sc} {p : Ps} (hS : SOk s) (hp : POk s p) (hf : freeP s p = true) : Rea s p (rchL s p):=by
  obtain ⟨L,hL,hperm⟩:=rch_r hS hp hf
  have hnd : ((rchL s p).map (·.1)).Nodup:=(hperm.map _).nodup_iff.2 hL.nd
  refine ⟨hnd,fun i x y hx hy => ?_,fun x hx => ?_,fun r z h => ?_,fun z c hz hc => ?_⟩
  · have hs : SortedR (rchL s p):=sortR_sorted _
    obtain ⟨hi,ex⟩:=List.getElem?_eq_some_iff.1 hx
    obtain ⟨hj,ey⟩:=List.getElem?_eq_some_iff.1 hy
    have h1:=List.pairwise_iff_getElem.1 hs i (i + 1) hi hj (by omega)
    rw [ex,ey] at h1
    have h2 : x.1 ≠ y.1:=by
      have h3:=List.pairwise_iff_getElem.1 hnd i (i + 1) (by simpa using hi) (by simpa using hj) (by omega)
      rw [List.getElem_map,List.getElem_map,ex,ey] at h3
      exact h3
    have h4 : ordP x.1 y.1 ≠ 0:=fun e => h2 (ordP_zero.1 e)
    have h5:=ordP_neg x.1 y.1
    rw [befS_ordP,decide_eq_true_eq]
    have h6 : ¬ ordP y.1 x.1 < 0:=h1
    omega
  · have hx':=hperm.subset hx
    obtain ⟨h1,h2,b,hb,r,hr,hl⟩:=hL.ok x hx'
    have hb : b = p:=by simpa using hb
    subst hb
    exact ⟨h1,h2,hL.nn (show (x.1,x.2) ∈ L from hx'),r,hr,hl⟩
  · obtain ⟨c,hc,hle⟩:=hL.all p (by simp) r z h
    exact ⟨c,hperm.symm.subset hc,hle⟩
  · obtain ⟨m,y,h1,h2⟩:=hL.hill hS (hperm.subset hz) hc
    exact ⟨m,y,h1,hperm.symm.subset h2⟩
theorem rch_small {s : Sc} {p : Ps} (hS : SOk s) (hp : POk s p) (hf : freeP s p = true) : ∀ x ∈ rchL s p,x.2 ≤ (rchL s p).length:=by
  obtain ⟨L,hL,hperm⟩:=rch_r hS hp hf
  intro x hx
  have h1 : FlI s (fl0 [p]):=fl0_ok (by simp) (fun q hq => by
    have e : q = p:=by simpa using hq
    subst e
    exact hp)
  have h2 : FlV (fl0 [p]):=by
    intro e he
    have e1 : e = (kyP p,0):=by simpa [fl0] using he
    subst e1
    simp [fl0]
  have h3:=(flF_V ((alP s).length + 1) 0 (fl0 [p]) h1 h2).2
  have h4 : FlV (floodP s [p]):=h3
  rw [hL.eq] at h4
  have h5:=h4 (kyP x.1,x.2) (List.mem_map_of_mem (f:=fun x : Ps × Int => (kyP x.1,x.2)) (hperm.subset hx))
  have h6 : (entF L).1.length = (rchL s p).length:=by rw [hperm.length_eq];simp [entF]
  have h7:=h5.2
  rw [h6] at h7
  exact h7
theorem Rea.one {s : Sc} {p : Ps} {R : List PM} (h : Rea s p R) {q : Ps} {c d : Int} (hc : (q,c) ∈ R) (hd : (q,d) ∈ R) : c = d:=nodup_snd h.nd hc hd
theorem Rea.self {s : Sc} {p : Ps} {R : List PM} (h : Rea s p R) : (p,0) ∈ R:=by
  obtain ⟨c,hc,hle⟩:=h.all [] p (Lds.nil p)
  have h1:=(h.ok _ hc).2.2.1
  have e : c = 0:=by simp at hle;dsimp only at h1;omega
  rw [e] at hc
  exact hc
/-- Both CheckReached accept them. -/
theorem rea_chr {s : Sc} {p : Ps} {R : List PM} (hfr : frE s p = 0) (h : Rea s p R) : chR s p R = (0,0):=by
  have h1 : ∀ i,i < R.length → rcF s p R i = 0:=fun i hi => by
    have hx : R[i]? = some R[i]:=List.getElem?_eq_getElem hi
    have hm:=List.getElem_mem hi
    obtain ⟨a,b,c,r,hr,hl⟩:=h.ok _ hm
    rw [rcF_zero hx]
    refine ⟨own_ok a, ?_,b,c, ?_⟩
    · rcases Nat.eq_zero_or_pos i with h0 | h0
      · exact .inl h0
      · right
        obtain ⟨k,rfl⟩ : ∃ k,i = k + 1:=⟨i - 1,by omega⟩
        have hk : R[k]? = some R[k]:=List.getElem?_eq_getElem (by omega)
        rw [Nat.add_sub_cancel,getD_of hk]
        exact h.bef k _ _ hk hx
    · constructor
      · intro e
        rw [e] at hl
        have : r = []:=List.length_eq_zero_iff.1 (by omega)
        subst this
        exact hr.nil_eq.symm
      · intro e
        have h3:=h.self
        rw [← e] at h3
        exact h.one (show (R[i].1,R[i].2) ∈ R from hm) h3
  unfold chR
  rw [if_neg (by simp [hfr])]
  unfold chR1
  rw [ffE_all (fun j _ hj => h1 j (by omega)),if_neg (by simp)]
  unfold chR2
  rw [mvoP_of h.nd h.self,if_neg (by decide)]
  refine ffE_all fun i _ hi => ?_
  have hx : R[i]? = some R[i]:=List.getElem?_eq_getElem (by omega)
  have hm : R[i] ∈ R:=List.getElem_mem (by omega)
  rw [rcG_at hx]
  obtain ⟨a,b,c,r,hr,hl⟩:=h.ok _ hm
  refine crG_zero (fun m hmm => ?_) ?_
  · have hk : (m,mvd R[i].1 m) ∈ allK s R[i].1:=List.mem_map_of_mem hmm
    obtain ⟨d,hd,hle⟩:=h.all _ _ (Lds.snoc hr hk)
    rw [mvoP_of h.nd hd]
    have h2:=(h.ok _ hd).2.2.1
    simp at hle
    dsimp only at h2
    omega
  · by_cases e : R[i].1 = p
    · left;simp [e]
    · right
      have hpos : 0 < R[i].2:=by
        rcases Int.lt_or_le 0 R[i].2 with h2 | h2
        · exact h2
        · have h3 : R[i].2 = 0:=by omega
          rw [h3] at hl
          have : r = []:=List.length_eq_zero_iff.1 (by omega)
          subst this
          exact absurd hr.nil_eq.symm e
      obtain ⟨m,y,h2,h3⟩:=h.hill R[i].1 R[i].2 hm hpos
      obtain ⟨h4,h5,rfl⟩:=mem_allK.1 h2
      exact ⟨m,List.mem_filter.2 ⟨h4,h5⟩,mvoP_of h.nd h3⟩
/-- A path that leads somewhere is accepted. -/
theorem pthG_lds {s : Sc} : ∀ {r : List Mv} {i : Nat} {p z : Ps},Lds (allK s) p r z → pthG s i p r = (0,0) ∧ endP p r = z
  | [],i,p,z,h => ⟨rfl,h.nil_eq⟩
  | m :: r,i,p,z,h => by
    obtain ⟨y,h1,h2⟩:=h.uncons
    obtain ⟨h3,h4,rfl⟩:=mem_allK.1 h1
    obtain ⟨k1,k2,k3⟩:=mem_allM.1 h3
    obtain ⟨h5,h6⟩:=pthG_lds (i:=i + 1) h2
    have hm : mvE s m = 0:=by
      unfold mvE
      rw [fstE_zero]
      simp only [List.mem_cons,List.not_mem_nil,or_false,forall_eq_or_imp,forall_eq]
      rw [unl_zero (by decide),unl_zero (by decide),inB_true]
      refine ⟨⟨k1,by omega⟩, ?_⟩
      rcases k3 with k3 | k3 <;> simp [k3]
    refine ⟨?_,h6⟩
    unfold pthG
    rw [if_neg (by simp [hm]),if_neg (by simp [h4])]
    exact h5
theorem chk_lds {s : Sc} {p z : Ps} {r : List Mv} (hfr : frE s p = 0) (hl : r.length ≤ 60) (h : Lds (allK s) p r z) : chkP s p r = (z,(r.length : Int),0):=by
  obtain ⟨h1,h2⟩:=pthG_lds (i:=0) h
  have h3 : pthE s p r = (0,0):=by
    unfold pthE
    rw [if_neg (by simp [hfr]),if_neg (by omega)]
    exact h1
  unfold chkP
  rw [h3,if_neg (by simp),h2]
/-- The path to a pose, or none. -/
theorem rea_path {s : Sc} {p t : Ps} {R : List PM} (hfr : frE s p = 0) (ht : cpE s t = 0) (h : Rea s p R) :
    (∃ r,ptR s p t = (r,0) ∧ (t,(r.length : Int)) ∈ R ∧ Lds (allK s) p r t) ∨ ((∀ c,(t,c) ∉ R) ∧ ptR s p t = ([],12)):=by
  obtain ⟨hS,hp,hf⟩:=frE_ok hfr
  have htp:=(cpE_ok ht).2
  have hcp : cpE s p = 0:=by
    have h1:=hfr
    unfold frE at h1
    split at h1
    · rename_i h2;exact absurd h1 h2
    · rename_i h2;exact Decidable.of_not_not h2
  have he : ptE s p t = 0:=by
    unfold ptE
    rw [if_neg (by simp [hcp]),if_neg (by simp [ht]),if_pos hf]
  unfold ptR
  rw [if_neg (by simp [he])]
  cases hft : freeP s t with
  | false =>
    right
    refine ⟨fun c hc => ?_,if_neg (by simp)⟩
    have h1:=(h.ok _ hc).2.1
    dsimp only at h1
    rw [hft] at h1
    cases h1
  | true =>
    rw [if_pos rfl]
    have hb : ∀ b ∈ [t],POk s b ∧ freeP s b = true:=fun b hb => by
      have e : b = t:=by simpa using hb
      subst e
      exact ⟨htp,hft⟩
    obtain ⟨L,hL⟩:=flood_r hS (by simp) hb
    unfold dnR
    cases hl : lkp (floodP s [t]).1 (kyP p) with
    | none =>
      right
      refine ⟨fun c hc => ?_,rfl⟩
      obtain ⟨_,_,_,r,hr,_⟩:=h.ok _ hc
      obtain ⟨⟨q,_,hq⟩,_,_⟩:=Lds.back hS hr hp hf
      obtain ⟨d,hd,_⟩:=hL.all t (by simp) q p hq
      rw [(hL.lk hS hp d).2 hd] at hl
      cases hl
    | some d =>
      left
      have hd:=(hL.lk hS hp d).1 hl
      have hd0:=hL.nn hd
      obtain ⟨n,rfl⟩ : ∃ n : Nat,d = n:=⟨d.toNat,by omega⟩
      obtain ⟨⟨e,he,hle⟩,hlen,_⟩:=dnP_least hS hb hL n p hd
      have e1 : e = t:=by simpa using he
      subst e1
      refine ⟨dnP s (floodP s [e]).1 n p,rfl, ?_,hle⟩
      obtain ⟨c,hc,hcl⟩:=h.all _ _ hle
      obtain ⟨_,_,_,r,hr,hrl⟩:=h.ok _ hc
      obtain ⟨⟨q,hql,hq⟩,_,_⟩:=Lds.back hS hr hp hf
      obtain ⟨d2,hd2,hd2l⟩:=hL.all e (by simp) q p hq
      have h3:=hL.one hd hd2
      dsimp only at hrl
      have e2 : c = ((dnP s (floodP s [e]).1 n p).length : Int):=by omega
      rw [← e2]
      exact hc
/-- The scene with a further box. -/
def moreB (s : Sc) (b : Bx) : Sc:={ s with B:=s.B ++ [b] }
theorem tkn_more {s : Sc} {b x : Bx} (h : tkn (moreB s b) x = false) : tkn s x = false:=by
  simp only [tkn,moreB,Bool.or_eq_false_iff,List.any_append] at h ⊢
  exact ⟨h.1,h.2.1⟩
theorem free_more {s : Sc} {b : Bx} {p : Ps} (h : freeP (moreB s b) p = true) : freeP s p = true:=by
  unfold freeP at *
  rw [List.all_eq_true] at *
  intro c hc
  have h1:=h c hc
  simp only [Bool.not_eq_true'] at h1 ⊢
  exact tkn_more h1
theorem lds_more {s : Sc} {b : Bx} {p z : Ps} {r : List Mv} (h : Lds (allK (moreB s b)) p r z) : Lds (allK s) p r z:=by
  induction h with
  | nil => exact Lds.nil _
  | snoc _ hm ih =>
    refine Lds.snoc ih ?_
    obtain ⟨h1,h2,h3⟩:=mem_allK.1 hm
    refine mem_allK.2 ⟨h1, ?_,h3⟩
    simp only [mayP,Bool.and_eq_true,Bool.not_eq_true'] at h2 ⊢
    exact ⟨⟨h2.1.1,tkn_more h2.1.2⟩,free_more h2.2⟩
theorem rea_more {s : Sc} {b : Bx} {p : Ps} {R R' : List PM} (h : Rea s p R) (h' : Rea (moreB s b) p R') : R'.length ≤ R.length ∧ ∀ y ∈ R',∃ z ∈ R,z.1 = y.1 ∧ z.2 ≤ y.2:=by
  have h1 : ∀ y ∈ R',∃ z ∈ R,z.1 = y.1 ∧ z.2 ≤ y.2:=fun y hy => by
    obtain ⟨_,_,_,r,hr,hl⟩:=h'.ok y hy
    obtain ⟨c,hc,hle⟩:=h.all r y.1 (lds_more hr)
    exact ⟨_,hc,rfl,by dsimp only;omega⟩
  refine ⟨?_,h1⟩
  have h2:=nodup_le (R'.map (·.1)) (R.map (·.1)) h'.nd (fun q hq => by
    obtain ⟨y,hy,rfl⟩:=List.mem_map.1 hq
    obtain ⟨z,hz,e,_⟩:=h1 y hy
    rw [← e]
    exact List.mem_map_of_mem hz)
  simpa using h2
/-- A light scene has at most 100 poses. -/
theorem lgN_alQ : ∀ {L : List Lk} {n : Int},(∀ l ∈ L,l.2.1 ≤ l.2.2) → lgN n L = n * ((alQ L).length : Int)
  | [],n,_ => by simp [lgN,alQ]
  | l :: L,n,h => by
    have h1:=h l (by simp)
    unfold lgN alQ
    rw [lgN_alQ (fun x hx => h x (by simp [hx])),flatMap_len (fun q Q => q :: Q),upto_len,Int.natCast_mul,Int.toNat_of_nonneg (by omega),Int.mul_assoc]
theorem rea_light {s : Sc} {p : Ps} {R : List PM} (hS : SOk s) (hl : lightP s = true) (hsc : scE s = 0) (h : Rea s p R) : R.length ≤ 100:=by
  unfold lightP at hl
  rw [if_neg (by simp [hsc]),decide_eq_true_eq] at hl
  have h1:=nodup_le (R.map (·.1)) (alP s) h.nd (fun q hq => by
    obtain ⟨x,hx,rfl⟩:=List.mem_map.1 hq
    exact mem_alP (h.ok x hx).1)
  have h2 : ((alP s).length : Int) = lgN (s.sl + 1) s.L:=by
    have h3:=hS.sl
    unfold alP
    rw [lgN_alQ (fun l hl => (hS.lk l hl).2.2.2.1),flatMap_len (fun x Q => (x,Q)),upto_len,Int.natCast_mul,Int.toNat_of_nonneg (by omega)]
  simp at h1
  omega
/-- The moves that the law finds for a pose: the last one in the list. -/
def lmF (t : Ps) (m : Int) (y : PM) : Int:=if y.1 = t then y.2 else m
theorem lm_of {t : Ps} {c : Int} : ∀ {R : List PM} {m : Int},(R.map (·.1)).Nodup → (t,c) ∈ R → R.foldl (lmF t) m = c
  | y :: R,m,hn,h => by
    have hn2:=List.nodup_cons.1 hn
    rw [List.foldl_cons]
    rcases List.mem_cons.1 h with e | h
    · have h3 : ∀ x ∈ R,x.1 ≠ t:=fun x hx e2 => hn2.1 (by rw [← e];show t ∈ _;rw [← e2];exact List.mem_map_of_mem hx)
      have h4 : ∀ (l : List PM) (k : Int),(∀ x ∈ l,x.1 ≠ t) → l.foldl (lmF t) k = k:=fun l => by
        induction l with
        | nil => intro k _;rfl
        | cons a l ih =>
          intro k hk
          rw [List.foldl_cons]
          unfold lmF
          rw [if_neg (hk a (by simp))]
          exact ih k (fun x hx => hk x (by simp [hx]))
      rw [h4 R _ h3,← e]
      simp [lmF]
    · exact lm_of hn2.2 h
theorem lm_none {t : Ps} : ∀ {R : List PM} {m : Int},(∀ c,(t,c) ∉ R) → R.foldl (lmF t) m = m
  | [],_,_ => rfl
  | y :: R,m,h => by
    rw [List.foldl_cons]
    have h1 : y.1 ≠ t:=fun e => h y.2 (by rw [← e];simp)
    unfold lmF
    rw [if_neg h1]
    exact lm_none (fun c hc => h c (by simp [hc]))
end Go.Proofs.YtpnfgmgoafgcbaaGreat

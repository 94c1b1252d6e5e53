/-
  The reference's search and the shortest paths (chapter 6), in plain words: the path that falls along the flood's numbers is the one that the search keeps.
-/
import Derived.Test.YtpnfgmgoafgcbaaGreatA10
import Derived.Test.YtpnfgmgoafgcbaaGreatDn3
set_option linter.all false
set_option linter.unusedVariables false
namespace Go.Proofs.YtpnfgmgoafgcbaaGreat
def ltm (a b : Mv) : Prop:=a.1 < b.1 ∨ (a.1 = b.1 ∧ a.2 < b.2)
/-- Lexicographic order of paths that are equally long. -/
def lexP : List Mv → List Mv → Prop
  | a :: l,b :: r => ltm a b ∨ (a = b ∧ lexP l r)
  | _,_ => False
theorem allM_srt (s : Sc) : (allM s).Pairwise ltm:=by
  unfold allM
  generalize s.L.length + 1 = n
  induction n with
  | zero => simp
  | succ n ih =>
    rw [List.range_succ,List.flatMap_append,List.pairwise_append]
    refine ⟨ih, ?_,fun a ha b hb => ?_⟩
    · simp [ltm]
    · simp only [List.mem_flatMap,List.mem_range,List.mem_cons,List.not_mem_nil,or_false] at ha hb
      obtain ⟨j,hj,ha⟩:=ha
      obtain ⟨k,hk,hb⟩:=hb
      have hk : k = n:=by simpa using hk
      subst hk
      rcases ha with rfl | rfl <;> rcases hb with rfl | rfl <;> exact .inl (by simp;omega)
theorem allK_srt (s : Sc) (p : Ps) : (allK s p).Pairwise fun a b => ltm a.1 b.1:=by
  unfold allK mvs
  rw [List.pairwise_map]
  exact (allM_srt s).filter _
theorem Lds.back {s : Sc} (hS : SOk s) {x z : Ps} {q : List Mv} (h : Lds (allK s) x q z) (hx : POk s x) (hf : freeP s x = true) : (∃ r,r.length = q.length ∧ Lds (allK s) z r x) ∧ POk s z ∧ freeP s z = true:=by
  induction h with
  | nil => exact ⟨⟨[],rfl,Lds.nil _⟩,hx,hf⟩
  | snoc h hm ih =>
    obtain ⟨⟨r,hr,hl⟩,h1,h2⟩:=ih
    have h3:=allK_ok h1 hm
    exact ⟨⟨inv _ :: r,by simp [hr],Lds.cons (allK_back hS h1 h2 hm) hl⟩,h3.1,h3.2⟩
theorem find_first {α : Type} {R : α → α → Prop} {f : α → Bool} : ∀ {l : List α} {x y : α},l.Pairwise R → l.find? f = some x → y ∈ l → f y = true → x = y ∨ R x y
  | [],_,_,_,h,_,_ => by cases h
  | a :: l,x,y,hp,h,hy,hfy => by
    have hp:=List.pairwise_cons.1 hp
    by_cases ha : f a = true
    · have e : a = x:=by simpa [ha] using h
      subst e
      rcases List.mem_cons.1 hy with rfl | hy
      · exact .inl rfl
      · exact .inr (hp.1 y hy)
    · have e : l.find? f = some x:=by simpa [ha] using h
      rcases List.mem_cons.1 hy with rfl | hy
      · exact absurd hfy ha
      · exact find_first hp.2 e hy hfy
/-- The way downhill: as long as its number says, and first among all that are. -/
theorem dnP_least {s : Sc} {b0 : List Ps} {L : List (Ps × Int)} (hS : SOk s) (hb : ∀ b ∈ b0,POk s b ∧ freeP s b = true) (h : FlR s b0 L) : ∀ (n : Nat) (p : Ps),(p,(n : Int)) ∈ L →
    (∃ e ∈ b0,Lds (allK s) p (dnP s (floodP s b0).1 n p) e) ∧ (dnP s (floodP s b0).1 n p).length = n ∧ ∀ q z,z ∈ b0 → Lds (allK s) p q z → q.length = n → dnP s (floodP s b0).1 n p = q ∨ lexP (dnP s (floodP s b0).1 n p) q
  | 0,p,hp => by
    obtain ⟨_,_,b,hbb,r,hr,hl⟩:=h.ok _ hp
    dsimp only at hr hl
    have e : r = []:=List.length_eq_zero_iff.1 (by omega)
    subst e
    have e:=hr.nil_eq
    subst e
    refine ⟨⟨b,hbb,Lds.nil b⟩,rfl,fun q z _ _ hq => .inl ?_⟩
    rw [List.length_eq_zero_iff.1 hq]
    rfl
  | n + 1,p,hp => by
    have hpo:=h.ok _ hp
    obtain ⟨m,y,hm,hy⟩:=h.hill hS hp (by omega)
    have hnear : ∀ (m' : Mv) (y' : Ps),(m',y') ∈ allK s p → (nearer (floodP s b0).1 ((n + 1 : Nat) : Int) (m',y') = true ↔ (y',(n : Int)) ∈ L):=fun m' y' hm' => by
      unfold nearer
      rw [show ((n + 1 : Nat) : Int) - 1 = n by omega,beq_iff_eq]
      exact h.lk hS (allK_ok hpo.1 hm').1 _
    have hex : ∃ x0,(allK s p).find? (nearer (floodP s b0).1 ((n + 1 : Nat) : Int)) = some x0:=by
      cases hf : (allK s p).find? (nearer (floodP s b0).1 ((n + 1 : Nat) : Int)) with
      | some x0 => exact ⟨x0,rfl⟩
      | none =>
        have:=List.find?_eq_none.1 hf (m,y) hm
        exact absurd ((hnear m y hm).2 (by rw [show ((n + 1 : Nat) : Int) - 1 = n by omega] at hy;exact hy)) this
    obtain ⟨⟨m0,y0⟩,hf⟩:=hex
    have hmem:=List.mem_of_find?_eq_some hf
    have hy0:=(hnear m0 y0 hmem).1 (List.find?_some hf)
    obtain ⟨⟨e,he,hl⟩,hlen,hmin⟩:=dnP_least hS hb h n y0 hy0
    rw [dnP_succ hf]
    refine ⟨⟨e,he,Lds.cons hmem hl⟩,by simp [hlen],fun q z hz hq hql => ?_⟩
    cases q with
    | nil => simp at hql
    | cons m' q =>
      obtain ⟨y',hm',hq'⟩:=hq.uncons
      have hql' : q.length = n:=by simpa using hql
      have hyo:=allK_ok hpo.1 hm'
      -- the node behind the first move is n away
      have hd : (y',(n : Int)) ∈ L:=by
        obtain ⟨⟨r,hr,hrl⟩,_,_⟩:=Lds.back hS hq' hyo.1 hyo.2
        obtain ⟨c,hc,hcl⟩:=h.all z hz r y' hrl
        obtain ⟨_,_,b',hb',r',hr',hl'⟩:=h.ok _ hc
        obtain ⟨c',hc',hcl'⟩:=h.all b' hb' _ _ (Lds.snoc hr' (allK_back hS hpo.1 hpo.2.1 hm'))
        have e1:=h.one hp hc'
        simp only [List.length_append,List.length_cons,List.length_nil] at hcl'
        dsimp only at hl'
        have : c = (n : Int):=by omega
        subst this
        exact hc
      rcases find_first (allK_srt s p) hf hm' ((hnear m' y' hm').2 hd) with e1 | e1
      · cases e1
        rcases hmin q z hz hq' hql' with e2 | e2
        · exact .inl (by rw [e2])
        · exact .inr (.inr ⟨rfl,e2⟩)
      · exact .inr (.inl e1)
end Go.Proofs.YtpnfgmgoafgcbaaGreat

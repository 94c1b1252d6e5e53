/-
  search of the reference (chapter 6): all reached poses, each with the least path to it.
-/
import Derived.Test.YtpnfgmgoafgcbaaGreatRMs
import Derived.Test.YtpnfgmgoafgcbaaGreatShP
import Derived.Test.YtpnfgmgoafgcbaaGreatMvC
import Derived.Test.YtpnfgmgoafgcbaaGreatG4
import Derived.Test.YtpnfgmgoafgcbaaGreatA4
import Derived.Test.YtpnfgmgoafgcbaaGreatPt
import Derived.Laws.AppendOwnNone
set_option linter.all false
set_option linter.unusedVariables false
namespace Go.Proofs.YtpnfgmgoafgcbaaGreat
open Go.RowKit Go.Shelf
attribute [local go_sem] Oper.semAt_some
/-- A pose that was found with its path, and where both lie. -/
abbrev Se:=(Ps × List Mv) × (Option Addr × Nat) × (Option Addr × Nat)
def seV (x : Se) : List Value:=[.int .i64 x.1.1.1,.slice x.2.1.1 x.1.1.2.length x.2.1.2,.slice x.2.2.1 x.1.2.length x.2.2.2]
structure SeOk (x : Se) (W : World) : Prop where
  q : SlI W x.2.1.1 x.1.1.2
  qb : 0 < x.1.1.2.length → ∃ g cs,x.2.1.1 = some ⟨g,0,none⟩ ∧ Box W g 3 cs
  p : SlV W x.2.2.1 (x.1.2.flatMap mvV)
  pb : 0 < x.1.2.length → ∃ g cs,x.2.2.1 = some ⟨g,0,none⟩ ∧ Box W g 84 cs
  pn : x.1.2 = [] → x.2.2 = (none,0)
theorem SlI.none_len {W : World} {A : Option Addr} {xs : List Int} (h : ¬ 0 < xs.length) : SlI W A xs:=fun j u hj => by
  have e : xs = []:=List.eq_nil_of_length_eq_zero (by omega)
  rw [e] at hj;simp at hj
theorem SlV.none_len {W : World} {A : Option Addr} {xs : List Mv} (h : ¬ 0 < xs.length) : SlV W A (xs.flatMap mvV):=fun j u hj => by
  have e : xs = []:=List.eq_nil_of_length_eq_zero (by omega)
  rw [e] at hj;simp at hj
/-- What keeps all boxes of ints and of moves keeps it. -/
theorem SeOk.keep {x : Se} {W W' : World} (h : SeOk x W) (h3 : ∀ g cs,Box W g 3 cs → Box W' g 3 cs) (hM : ∀ g cs,Box W g 84 cs → Box W' g 84 cs) : SeOk x W':=by
  refine ⟨?_,fun hl => ?_, ?_,fun hl => ?_,h.pn⟩
  · by_cases hl : 0 < x.1.1.2.length
    · obtain ⟨g,cs,e,hb⟩:=h.qb hl
      have:=h.q
      rw [e] at this ⊢
      exact this.same hb (h3 g cs hb)
    · exact SlI.none_len hl
  · obtain ⟨g,cs,e,hb⟩:=h.qb hl
    exact ⟨g,cs,e,h3 g cs hb⟩
  · by_cases hl : 0 < x.1.2.length
    · obtain ⟨g,cs,e,hb⟩:=h.pb hl
      have:=h.p
      rw [e] at this ⊢
      exact this.same hb (hM g cs hb)
    · exact SlV.none_len hl
  · obtain ⟨g,cs,e,hb⟩:=h.pb hl
    exact ⟨g,cs,e,hM g cs hb⟩
theorem SeOk.below {x : Se} {W W' : World} (h : SeOk x W) (hb : Below W.heap.size W W') : SeOk x W':=h.keep (fun _ _ k => k.below hb k.lt) (fun _ _ k => k.below hb k.lt)
/-- What holds of the list all along. -/
structure SrI (s : Sc) (L : List (Ps × List Mv)) : Prop where
  nd : (L.map (·.1)).Nodup
  ok : ∀ x ∈ L,POk s x.1
  ln : ∀ (k : Nat) (x : Ps × List Mv),L[k]? = some x → x.2.length ≤ k
theorem SrI.len {s : Sc} {L : List (Ps × List Mv)} (h : SrI s L) : L.length ≤ (alP s).length:=by
  have:=nodup_le (L.map (·.1)) (alP s) h.nd (fun p hp => by obtain ⟨x,hx,rfl⟩:=List.mem_map.1 hp;exact mem_alP (h.ok x hx))
  simpa using this
theorem SrI.snoc {s : Sc} {L : List (Ps × List Mv)} (h : SrI s L) {i : Nat} {x : Ps × List Mv} (hx : L[i]? = some x) {q : Ps} (hq : POk s q) (hn : q ∉ L.map (·.1)) (m : Mv) : SrI s (L ++ [(q,x.2 ++ [m])]):=by
  refine ⟨?_,fun y hy => ?_,fun k y hy => ?_⟩
  · rw [List.map_append,List.nodup_append]
    refine ⟨h.nd,by simp,fun a ha b hb e1 => ?_⟩
    have : b = q:=by simpa using hb
    rw [e1,this] at ha
    exact hn ha
  · rcases List.mem_append.1 hy with hy | hy
    · exact h.ok y hy
    · have : y = (q,x.2 ++ [m]):=by simpa using hy
      subst this;exact hq
  · rcases get_snoc hy with hy | ⟨rfl,rfl⟩
    · exact h.ln k y hy
    · have h1:=h.ln i x hx
      have h2:=(List.getElem?_eq_some_iff.1 hx).1
      simp
      omega
structure SrW (U : Nat) (s : Sc) (A : Option Addr) (c : Nat) (bs : List Se) (W : World) : Prop where
  own : W.ownsRow U 170 3 (.slice A bs.length c) bs.length (bs.flatMap seV)
  el : ∀ x ∈ bs,SeOk x W
  inv : SrI s (bs.map (·.1))
theorem SrW.below {U : Nat} {s : Sc} {A : Option Addr} {c : Nat} {bs : List Se} {W W' : World} (h : SrW U s A c bs W) (hb : Below W.heap.size W W') : SrW U s A c bs W':=⟨own_below h.own hb,fun x hx => (h.el x hx).below hb,h.inv⟩
theorem SrW.drew {U : Nat} {s : Sc} {A : Option Addr} {c : Nat} {bs : List Se} {W : World} (h : SrW U s A c bs W) : SrW U s A c bs W.drew:=h.below (Below.drew (Below.refl _ _))
theorem own_og {W W' : World} {b n sz b2 n2 sz2 : Nat} {e e2 : TypeId} {v v2 : Value} {xs xs2 : List Value} (h : W.ownsRow b e sz v n xs) (ho : W.ownsRow b2 e2 sz2 v2 n2 xs2) (ht : e ≠ e2) (hg : W.grownBy W' v2.ownBlock) : W'.ownsRow b e sz v n xs:=own_same h fun g hg' => by
  obtain ⟨_,cs,hcs⟩:=own_blk h hg'
  exact (box_og hcs ho ht hg).trans (show W.heap[g]? = _ from hcs).symm
end Go.Proofs.YtpnfgmgoafgcbaaGreat

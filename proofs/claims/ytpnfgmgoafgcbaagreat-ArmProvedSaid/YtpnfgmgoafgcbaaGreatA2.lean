/-
  The texts Each, Own, Seq, Line, Ord, SortP in one.
-/
import Derived.Test.YtpnfgmgoafgcbaaGreatErr
import Derived.Laws.OwnMore
import Derived.Maps.AppendAt
import Derived.RangeFuncNested
import Derived.Laws.StructEq
import Derived.LaidLaws
import Derived.RangeFuncBound
import Derived.RangeFuncCalls
import Derived.RangeFuncLeaves
import Derived.Shelf.RegionOpen
import Derived.OwnWalkIn
import Derived.TacticsInMore
import Derived.LoopNIn
import Derived.LoopIn
import Derived.ControlIn
import Derived.Deep.RegionHeld3
set_option linter.all false
/-
  Slices of structs, cell by cell; the walks of each, CheckScene, poseErr, CheckPose, open (chapter 6).
-/
set_option linter.unusedVariables false
namespace Go.Proofs.YtpnfgmgoafgcbaaGreat
open Go.RowKit Go.Shelf
theorem flatK_get {α : Type} {enc : α → List Value} {k : Nat} (hk : ∀ x,(enc x).length = k) : ∀ (l : List α) (j : Nat) (s : α) (r : Nat),l[j]? = some s → r < k → (l.flatMap enc)[j * k + r]? = (enc s)[r]?
  | [],j,s,r,h,_ => by simp at h
  | x :: l,0,s,r,h,hr => by
    simp at h;subst h
    rw [List.flatMap_cons,List.getElem?_append_left (by rw [hk];omega)];simp
  | x :: l,j + 1,s,r,h,hr => by
    have e : (j + 1) * k + r - (enc x).length = j * k + r:=by rw [hk,Nat.add_mul];omega
    rw [List.flatMap_cons,List.getElem?_append_right (by rw [hk,Nat.add_mul];omega),e]
    exact flatK_get hk l j s r (by simpa using h) hr
theorem flatK_len {α : Type} {enc : α → List Value} {k : Nat} (hk : ∀ x,(enc x).length = k) : ∀ l : List α,(l.flatMap enc).length = l.length * k
  | [] => by simp
  | x :: l => by rw [List.flatMap_cons,List.length_append,flatK_len hk l,hk,List.length_cons,Nat.add_mul];omega
/-- The cells of the j-th row. -/
theorem row_cells {α : Type} {enc : α → List Value} {k : Nat} (hk : ∀ x,(enc x).length = k) {w : World} {A : Option Addr} {xs : List α} (hs : SlV w A (xs.flatMap enc)) (h0 : 0 < k) {j : Nat} {s : α} (hj : xs[j]? = some s) :
    ∃ b off,A = some ⟨b,off,none⟩ ∧ b < w.heap.size ∧ ∀ r,r < k → w.cell? ⟨b,off + j * k + r,none⟩ = (enc s)[r]?:=by
  have f:=fun r (hr : r < k) => flatK_get hk xs j s r hj hr
  have g:=fun r (hr : r < k) => List.getElem?_eq_getElem (l:=enc s) (i:=r) (by rw [hk];exact hr)
  obtain ⟨b,off,hA,hb,c0⟩:=hs (j * k + 0) _ ((f 0 h0).trans (g 0 h0))
  refine ⟨b,off,hA,hb,fun r hr => ?_⟩
  obtain ⟨b1,o1,hA1,_,c1⟩:=hs (j * k + r) _ ((f r hr).trans (g r hr))
  obtain ⟨rfl,rfl⟩ : b = b1 ∧ off = o1:=by rw [hA] at hA1;simpa using hA1
  rw [Nat.add_assoc,c1,g r hr]
def lkV (l : Lk) : List Value:=[.int .i64 l.1,.int .i64 l.2.1,.int .i64 l.2.2]
def bxV (b : Bx) : List Value:=[.int .i64 b.1,.int .i64 b.2.1,.int .i64 b.2.2.1,.int .i64 b.2.2.2]
theorem lk_cells {w : World} {A : Option Addr} {xs : List Lk} (hs : SlV w A (xs.flatMap lkV)) {k : Nat} {s : Lk} (hk : xs[k]? = some s) :
    ∃ b off,A = some ⟨b,off,none⟩ ∧ b < w.heap.size ∧ w.cell? ⟨b,off + k * 3,none⟩ = some (.int .i64 s.1) ∧ w.cell? ⟨b,off + k * 3 + 1,none⟩ = some (.int .i64 s.2.1) ∧ w.cell? ⟨b,off + k * 3 + 2,none⟩ = some (.int .i64 s.2.2):=by
  obtain ⟨b,off,hA,hb,hc⟩:=row_cells (enc:=lkV) (k:=3) (fun _ => rfl) hs (by omega) hk
  exact ⟨b,off,hA,hb,hc 0 (by omega),hc 1 (by omega),hc 2 (by omega)⟩
theorem bx_cells {w : World} {A : Option Addr} {xs : List Bx} (hs : SlV w A (xs.flatMap bxV)) {k : Nat} {s : Bx} (hk : xs[k]? = some s) :
    ∃ b off,A = some ⟨b,off,none⟩ ∧ b < w.heap.size ∧ w.cell? ⟨b,off + k * 4,none⟩ = some (.int .i64 s.1) ∧ w.cell? ⟨b,off + k * 4 + 1,none⟩ = some (.int .i64 s.2.1) ∧ w.cell? ⟨b,off + k * 4 + 2,none⟩ = some (.int .i64 s.2.2.1) ∧ w.cell? ⟨b,off + k * 4 + 3,none⟩ = some (.int .i64 s.2.2.2):=by
  obtain ⟨b,off,hA,hb,hc⟩:=row_cells (enc:=bxV) (k:=4) (fun _ => rfl) hs (by omega) hk
  exact ⟨b,off,hA,hb,hc 0 (by omega),hc 1 (by omega),hc 2 (by omega),hc 3 (by omega)⟩
set_option maxHeartbeats 1000000 in
theorem eachLink_c (xs : List Lk) (A : Option Addr) (c : Nat) (w : World) (hn : xs.length ≤ 9223372036854775807) (hs : SlV w A (xs.flatMap lkV)) :
    Calls Tryz.prog 126 #[.slice A xs.length c,.func (.func 127) #[] #[]] w fun e w' => e = .returned (.tuple #[.int .i64 (eachE lkE xs).1,.int .i64 (eachE lkE xs).2]) ∧ Below w.heap.size w w':=by
  have HS:=Lib.hid hs
  have LE:=Lib.hid (fun n lo hi W => linkErr_c n lo hi W)
  clear hs
  go_enter Tryz.func126,Tryz.ntmps126
  go_wp2
  go_loopw [11] (fun i wr => ∃ k : Nat,k ≤ xs.length ∧ i = .int .i64 k ∧ Hid (eachE lkE xs = eachF lkE k (xs.drop k)) ∧ Below w.heap.size w wr) (fun i _ => xs.length - (intOf i).toNat)
  case atStart => exact ⟨0,Nat.zero_le _,rfl,rfl,Below.refl _ _⟩
  case round =>
    obtain ⟨k,hk,rfl,hf,hB⟩:=hrel
    by_cases hlt : k < xs.length
    · obtain ⟨b,off,rfl,hb,a0,a1,a2⟩:=lk_cells (HS.out.below hB) (List.getElem?_eq_getElem hlt)
      have HD:=Lib.hid (List.drop_eq_getElem_cons hlt)
      generalize xs[k] = ev at *
      obtain ⟨n,lo,hi⟩:=ev
      dsimp only at a0 a1 a2
      have FE:=Lib.hid (show eachF lkE k ((n,lo,hi) :: xs.drop (k + 1)) = if lkE (n,lo,hi) = 0 then eachF lkE (k + 1) (xs.drop (k + 1)) else ((k : Int),lkE (n,lo,hi)) from rfl)
      have L1:=Lib.hid (fun W => LE.out n lo hi W)
      generalize lkE (n,lo,hi) = r at *
      by_cases hz : r = 0
      · have z1 : (r == 0) = true:=beqT hz
        have z2 : (r != 0) = false:=bneF hz
        have FZ:=Lib.hid (FE.out.trans (if_pos hz))
        clear hz FE
        go_wp2_with (first | (go_at_call 127;(with_reducible refine (L1.out _).mono ?_);rintro e w2 ⟨rfl,hb2⟩) | fail)
        go_roundw
        case rel => exact ⟨k + 1,by omega,by go_num,by unfold Hid;rw [hf.out,HD.out,FZ.out],by exact bB2 hb2 hB⟩
        case measure => simp [intOf];omega
      · have z1 : (r == 0) = false:=beqF hz
        have z2 : (r != 0) = true:=bneT hz
        have FZ:=Lib.hid (FE.out.trans (if_neg hz))
        clear hz FE
        go_wp2_with (first | (go_at_call 127;(with_reducible refine (L1.out _).mono ?_);rintro e w2 ⟨rfl,hb2⟩) | fail)
        go_ret2
        exact ⟨ret_ii (by rw [hf.out,HD.out,FZ.out]) (by rw [hf.out,HD.out,FZ.out]),by exact bB2 hb2 hB⟩
    · go_wp2
      go_ret2
      exact ⟨ret_ii (by rw [hf.out,List.drop_eq_nil_of_le (by omega)];rfl) (by rw [hf.out,List.drop_eq_nil_of_le (by omega)];rfl),by exact bB1 hB⟩
set_option maxHeartbeats 1000000 in
theorem eachBox_c (xs : List Bx) (A : Option Addr) (c : Nat) (w : World) (hn : xs.length ≤ 9223372036854775807) (hs : SlV w A (xs.flatMap bxV)) :
    Calls Tryz.prog 128 #[.slice A xs.length c,.func (.func 124) #[] #[]] w fun e w' => e = .returned (.tuple #[.int .i64 (eachE bxE xs).1,.int .i64 (eachE bxE xs).2]) ∧ Below w.heap.size w w':=by
  have HS:=Lib.hid hs
  have LE:=Lib.hid (fun n lo hi x W => boxErr_c n lo hi x W)
  clear hs
  go_enter Tryz.func128,Tryz.ntmps128
  go_wp2
  go_loopw [11] (fun i wr => ∃ k : Nat,k ≤ xs.length ∧ i = .int .i64 k ∧ Hid (eachE bxE xs = eachF bxE k (xs.drop k)) ∧ Below w.heap.size w wr) (fun i _ => xs.length - (intOf i).toNat)
  case atStart => exact ⟨0,Nat.zero_le _,rfl,rfl,Below.refl _ _⟩
  case round =>
    obtain ⟨k,hk,rfl,hf,hB⟩:=hrel
    by_cases hlt : k < xs.length
    · obtain ⟨b,off,rfl,hb,a0,a1,a2,a3⟩:=bx_cells (HS.out.below hB) (List.getElem?_eq_getElem hlt)
      have HD:=Lib.hid (List.drop_eq_getElem_cons hlt)
      generalize xs[k] = ev at *
      obtain ⟨n,lo,hi,x⟩:=ev
      dsimp only at a0 a1 a2 a3
      have FE:=Lib.hid (show eachF bxE k ((n,lo,hi,x) :: xs.drop (k + 1)) = if bxE (n,lo,hi,x) = 0 then eachF bxE (k + 1) (xs.drop (k + 1)) else ((k : Int),bxE (n,lo,hi,x)) from rfl)
      have L1:=Lib.hid (fun W => LE.out n lo hi x W)
      generalize bxE (n,lo,hi,x) = r at *
      by_cases hz : r = 0
      · have z1 : (r == 0) = true:=beqT hz
        have z2 : (r != 0) = false:=bneF hz
        have FZ:=Lib.hid (FE.out.trans (if_pos hz))
        clear hz FE
        go_wp2_with (first | (go_at_call 124;(with_reducible refine (L1.out _).mono ?_);rintro e w2 ⟨rfl,hb2⟩) | fail)
        go_roundw
        case rel => exact ⟨k + 1,by omega,by go_num,by unfold Hid;rw [hf.out,HD.out,FZ.out],by exact bB2 hb2 hB⟩
        case measure => simp [intOf];omega
      · have z1 : (r == 0) = false:=beqF hz
        have z2 : (r != 0) = true:=bneT hz
        have FZ:=Lib.hid (FE.out.trans (if_neg hz))
        clear hz FE
        go_wp2_with (first | (go_at_call 124;(with_reducible refine (L1.out _).mono ?_);rintro e w2 ⟨rfl,hb2⟩) | fail)
        go_ret2
        exact ⟨ret_ii (by rw [hf.out,HD.out,FZ.out]) (by rw [hf.out,HD.out,FZ.out]),by exact bB2 hb2 hB⟩
    · go_wp2
      go_ret2
      exact ⟨ret_ii (by rw [hf.out,List.drop_eq_nil_of_le (by omega)];rfl) (by rw [hf.out,List.drop_eq_nil_of_le (by omega)];rfl),by exact bB1 hB⟩
end Go.Proofs.YtpnfgmgoafgcbaaGreat
/-
  Rows of cells that a call owns, in plain words; types' sizes. No condition beyond these.
-/
set_option linter.unusedVariables false
namespace Go.Proofs.YtpnfgmgoafgcbaaGreat
open Go.RowKit Go.Shelf
/-- A type's size and bytes, and that its zero has as many cells. -/
def infoOk (P : Program) (t : TypeId) (size bytes : Nat) : Bool :=
  match P.info? t with
  | some i => (match i.zero with
    | some z => z.cells.size == size
    | none => false) && i.size == size && i.bytes == bytes
  | none => false
theorem infoOk_parts {P : Program} {t : TypeId} {size bytes : Nat} (h : infoOk P t size bytes = true) : ∃ i z,P.info? t = some i ∧ i.zero = some z ∧ i.size = size ∧ i.bytes = bytes ∧ z.cells.size = size:=by
  unfold infoOk at h
  cases hi : P.info? t with
  | none => simp [hi] at h
  | some i =>
    simp only [hi] at h
    cases hz : i.zero with
    | none => simp [hz] at h
    | some z =>
      simp only [hz,Bool.and_eq_true,beq_iff_eq] at h
      exact ⟨i,z,rfl,hz,h.1.2,h.2,h.1.1⟩
theorem own_same {W W' : World} {b : Nat} {e : TypeId} {sz : Nat} {v : Value} {n : Nat} {xs : List Value} (h : W.ownsRow b e sz v n xs) (hh : ∀ g,v.ownBlock = some g → W'.heap[g]? = W.heap[g]?) : W'.ownsRow b e sz v n xs:=by
  refine ⟨h.1, ?_⟩
  rcases h.2 with h2 | ⟨g,cap,cur,rfl,hg,hb,r⟩
  · exact .inl h2
  · exact .inr ⟨g,cap,cur,rfl,hg,(hh g rfl).trans hb,r⟩
theorem own_pos {W : World} {b : Nat} {e : TypeId} {sz : Nat} {v : Value} {n : Nat} {xs : List Value} (h : W.ownsRow b e sz v n xs) (hn : 0 < n) (hs : 0 < sz) : ∃ g cap,v = .slice (some ⟨g,0,none⟩) n cap ∧ b ≤ g ∧ g < W.heap.size:=by
  have hl:=h.1
  rcases h.2 with ⟨_,hz⟩ | ⟨g,cap,cur,rfl,hg,hh,_⟩
  · subst hz
    simp at hl
    rcases hl with hl | hl <;> omega
  · exact ⟨g,cap,rfl,hg,(Array.getElem?_eq_some_iff.1 hh).1⟩
theorem own_base {W : World} {b b' : Nat} {e : TypeId} {sz : Nat} {v : Value} {n : Nat} {xs : List Value} (h : W.ownsRow b e sz v n xs) (hb : b' ≤ b) : W.ownsRow b' e sz v n xs:=by
  refine ⟨h.1, ?_⟩
  rcases h.2 with h2 | ⟨g,cap,cur,rfl,hg,r⟩
  · exact .inl h2
  · exact .inr ⟨g,cap,cur,rfl,Nat.le_trans hb hg,r⟩
theorem own_below {W W' : World} {b : Nat} {e : TypeId} {sz : Nat} {v : Value} {n : Nat} {xs : List Value} (h : W.ownsRow b e sz v n xs) (hb : Below W.heap.size W W') : W'.ownsRow b e sz v n xs:=by
  refine ⟨h.1, ?_⟩
  rcases h.2 with h2 | ⟨g,cap,cur,hv,hg,hh,r⟩
  · exact .inl h2
  · exact .inr ⟨g,cap,cur,hv,hg,(hb.block g (Array.getElem?_eq_some_iff.1 hh).1).trans hh,r⟩
theorem slv_own {w : World} {base : Nat} {e : TypeId} {A : Option Addr} {n c k : Nat} {xs : List Value} (hk : 0 < k) (h : w.ownsRow base e k (.slice A n c) n xs) : SlV w A xs:=by
  intro j u hj
  have hjl : j < xs.length:=(List.getElem?_eq_some_iff.1 hj).1
  rcases h.2 with ⟨e1,h0⟩ | ⟨g,cap,cur,e1,_,hh,_,_,hcs,ht⟩
  · have hl:=h.1
    rw [h0] at hl;omega
  · injection e1 with e1 _ _
    subst e1
    refine ⟨g,0,rfl,(Array.getElem?_eq_some_iff.1 hh).1, ?_⟩
    rw [Nat.zero_add,cell_of_row w g j cur e (0,0) hh]
    rw [← ht,List.getElem?_take] at hj
    split at hj
    · simpa using hj
    · cases hj
/-- A copy of a slice of ints. -/
theorem sli_own {w : World} {base : Nat} {e : TypeId} {A : Option Addr} {n c : Nat} {xs : List Int} (h : w.ownsRow base e 1 (.slice A n c) n (xs.map (Value.int .i64))) : SlI w A xs:=by
  intro j u hj
  rcases h.2 with ⟨e1,h0⟩ | ⟨g,cap,cur,e1,_,hh,_⟩
  · have hl:=h.1
    subst h0
    simp at hl
    subst hl
    simp at hj
  · injection e1 with e1 _ _
    subst e1
    refine ⟨g,0,rfl,(Array.getElem?_eq_some_iff.1 hh).1, ?_⟩
    have hjl : j < xs.length:=(List.getElem?_eq_some_iff.1 hj).1
    have hl:=h.1
    have:=h.cellAt j (by simp at hl;omega)
    rw [Nat.zero_add,this,List.getElem?_map,hj];rfl
theorem cell_two_new (w : World) (a b : Value) (t : TypeId) : ∀ j u,[a,b][j]? = some u → (w.alloc (.cells #[a,b] t)).cell? ((⟨w.heap.size,0,none⟩ : Addr).add j) = some u:=by
  intro j u h
  have h1:=(Box.new w t #[a,b]).cell j
  by_cases hj : j = 0
  · subst hj
    have h2 : a = u:=by simpa using h
    subst h2
    simp [Addr.add]
  · simp only [Addr.add,Nat.zero_add,if_neg hj]
    rw [h1,← h]
    simp
theorem own_far {w : World} {base : Nat} {e : TypeId} {sz n cap b : Nat} {xs : List Value} {p : Addr} {u : Value} (h : w.ownsRow base e sz (.slice (some ⟨b,0,none⟩) n cap) n xs) (hne : b ≠ p.block) : (w.setCell p u).ownsRow base e sz (.slice (some ⟨b,0,none⟩) n cap) n xs :=
  own_same h (fun g hg => by
    have e : b = g:=by simpa [Value.ownBlock] using hg
    subst e
    exact Below.heap_setCell w p u b hne)
theorem own_apart {W : World} {b g cap n k : Nat} {e t : TypeId} {sz : Nat} {cs : Array Value} {xs : List Value} (h : W.ownsRow b e sz (.slice (some ⟨g,0,none⟩) n cap) n xs) (hk : Box W k t cs) (hne : t ≠ e ∨ cs.size < n * sz) : g ≠ k:=by
  rintro rfl
  rcases h.2 with ⟨h1,_⟩ | ⟨g',cap',cur,h1,_,hh,h4,_,h6,_⟩
  · cases h1
  · cases h1
    unfold Box at hk
    rw [hh] at hk
    simp only [Option.some.injEq,Obj.cells.injEq] at hk
    obtain ⟨rfl,rfl,_⟩:=hk
    rcases hne with h0 | h0
    · exact h0 rfl
    · have:=Nat.mul_le_mul_right sz h4
      omega
theorem Box.grow {W W' : World} {k : Nat} {t : TypeId} {cs : Array Value} {g n cap : Nat} (h : Box W k t cs) (hg : W.grownBy W' (Value.slice (some ⟨g,0,none⟩) n cap).ownBlock) (hne : g ≠ k) : Box W' k t cs :=
  (hg.block k h.lt (fun e => hne (by have e : some g = some k:=e.symm;exact Option.some.inj e))).trans h
theorem own_some {W : World} {b g cap n : Nat} {e : TypeId} {sz : Nat} {xs : List Value} (h : W.ownsRow b e sz (.slice (some ⟨g,0,none⟩) n cap) n xs) : ∃ cs,Box W g e cs:=by
  rcases h.2 with ⟨h1,_⟩ | ⟨g',cap',cur,h1,_,hh,_⟩
  · cases h1
  · cases h1;exact ⟨cur,hh⟩
theorem SlV.same {w w' : World} {g : Nat} {t : TypeId} {cs : Array Value} {xs : List Value} (h : SlV w (some ⟨g,0,none⟩) xs) (b : Box w g t cs) (b' : Box w' g t cs) : SlV w' (some ⟨g,0,none⟩) xs:=fun j u hj => by
  obtain ⟨k,off,e,hk,hc⟩:=h j u hj
  cases e
  refine ⟨g,0,rfl,b'.lt, ?_⟩
  rw [b'.cell,← b.cell];exact hc
def ceV (c : Ce) : List Value:=[.int .i64 c.1,.int .i64 c.2]
theorem ce_cells {w : World} {A : Option Addr} {xs : List Ce} (hs : SlV w A (xs.flatMap ceV)) {k : Nat} {s : Ce} (hk : xs[k]? = some s) :
    ∃ b off,A = some ⟨b,off,none⟩ ∧ b < w.heap.size ∧ w.cell? ⟨b,off + k * 2,none⟩ = some (.int .i64 s.1) ∧ w.cell? ⟨b,off + k * 2 + 1,none⟩ = some (.int .i64 s.2):=by
  obtain ⟨b,off,hA,hb,hc⟩:=row_cells (enc:=ceV) (k:=2) (fun _ => rfl) hs (by omega) hk
  exact ⟨b,off,hA,hb,hc 0 (by omega),hc 1 (by omega)⟩
theorem infoC : infoOk Tryz.prog 22 2 16 = true:=by kernel_rfl
theorem infoInt : infoOk Tryz.prog 3 1 8 = true:=by kernel_rfl
end Go.Proofs.YtpnfgmgoafgcbaaGreat
/-
  A range over a function whose values come with facts on memory (a struct with a slice in it): a contract of the iterator that says at each call of yield what is known of the value (Gd), and the law of the statement at an outermost loop. No condition beyond these.
-/
set_option linter.unusedVariables false
namespace Go.Proofs.YtpnfgmgoafgcbaaGreat
open Go.RowKit
/-- An iterator's contract: at each call of yield, Gd holds of what is handed over; St: the iterator's own steps on its own cells. -/
def SeqG {α : Type} (F : Fence) (n : Nat) (P : Program) (g : Nat) (lb : Array Value) (encs : α → Array Value) (Kp : World → World → Prop) (Gd : List α → α → World → Prop) (St : World → World → Prop) (S Sp : List α → Prop) (w : World) : Prop :=
  ∀ (l : Nat) (J Jx : List α → World → Prop) (W : World),Below w.heap.size w W → OwnFrom W.heap.size J → OwnFrom W.heap.size Jx → (∀ pre A B,St A B → J pre A → J pre B) →
    (∀ pre x W1,J pre W1 → Gd pre x W1 → YieldAt F (n - 1) P l (encs x) W1 fun e W' =>
      (e = .returned (.bool true) ∧ J (pre ++ [x]) W' ∧ Kp W1 W' ∧ KeepsFrom W.heap.size W1 W') ∨ (e = .returned (.bool false) ∧ Jx (pre ++ [x]) W' ∧ KeepsFrom W.heap.size W1 W')) →
    J [] W →
    CallsIn F n P g (#[.func (.yield l) #[] #[]] ++ lb) W fun e W' => (∃ v,e = .returned v) ∧ ((∃ xs,S xs ∧ J xs W') ∨ (∃ pre,Sp pre ∧ Jx pre W'))
theorem keepsFrom_le {B B' : Nat} {W W' : World} (h : KeepsFrom B W W') (hb : B ≤ B') : KeepsFrom B' W W':=⟨h.size,fun k o hk => h.same k o (Nat.le_trans hb hk)⟩
theorem keepsFrom_put {B l : Nat} (W : World) (o : Obj) (hl : l < B) : KeepsFrom B W (W.putObj l o):=.of_grownBy (grownBy_putObj' W l o) (fun j e => by cases e;exact hl)
section
variable {F : Fence} {n : Nat} {P : Program}
/-- What a round's end makes of the record r of a loop in block l. -/
theorem round_end {l D B : Nat} {W W3 : World} {r : LoopState → Option Code → Loop} (hrs : ∀ s p,(r s p).state = s) (hre : ∀ s p s' p',{ r s p with state:=s',pending:=p' } = r s' p')
    (hBl : B ≤ l) (hBD : B ≤ D) (hDl : D ≠ l) (hl : W.heap[l]? = some (.loop (r .busy none))) (hD : W.heap[D]? = some (.deferred (some []))) (hk : KeepsFrom B W W3) (jump : Option Code) :
    (Instr.endRound l jump).run P W3 = .ok (.bool jump.isNone) (W3.putObj l (.loop (r (if jump.isNone then .ready else .done) jump))) ∧ W3.heap[l]? = some (.loop (r .busy none)) ∧
      (W3.putObj l (.loop (r (if jump.isNone then .ready else .done) jump))).heap[l]? = some (.loop (r (if jump.isNone then .ready else .done) jump)) ∧
      (W3.putObj l (.loop (r (if jump.isNone then .ready else .done) jump))).heap[D]? = some (.deferred (some [])):=by
  have hl3:=hk.same _ _ hBl hl rfl
  have h:=run_endRound (P:=P) jump hl3
  rw [hre] at h
  exact ⟨h,hl3,World.putObj_heap_same (Array.getElem?_eq_some_iff.1 hl3).1,(World.putObj_heap_other hDl).trans (hk.same _ _ hBD hD rfl)⟩
/-- The statement 'for .. := range g { .. }' over such an iterator. -/
theorem wpIn_rangeFunc_G {α : Type} {g : Operand} {ps : Array Tmp} {assign body : Code} {Q : Exit → Act → World → Prop} {a : Act} {w : World}
    (hro : F.round = none) (h1 : 1 ≤ n) {gf : Nat} {lb : Array Value} (hg : a.eval g = .func (.func gf) #[] lb) (hFg : F.fn gf) (eg : ∀ args w,(callFunc gf args).run P w = .ok (.enter gf args) w)
    {encs : α → Array Value} {Kp : World → World → Prop} {Gd : List α → α → World → Prop} {St : World → World → Prop} {S Sp : List α → Prop} {w0 : World} (hseq : SeqG F (n - 1) P gf lb encs Kp Gd St S Sp w0)
    (hSk : ∀ (A B : World) (k : Nat) (o : Obj),St A B → w.heap.size ≤ k → A.heap[k]? = some o → o.isCells = false → B.heap[k]? = some o)
    (hKt : ∀ {A B C : World},Kp A B → Kp B C → Kp A C) (hKb : ∀ (W : World) (l : Nat) (o o' : Obj),w.heap.size ≤ l → W.heap[l]? = some o → o.isCells = false → o.isWalk = false → Kp W (W.putObj l o')) (hb0 : Below w0.heap.size w0 w) (hps : ∀ x,(encs x).size = ps.size)
    (I : List α → World → Prop) (Ix : Code → List α → World → Prop) (hI : OwnFrom w.heap.size I) (hIx : ∀ c,OwnFrom w.heap.size (Ix c)) (hIS : ∀ pre A B,St A B → I pre A → I pre B) (h0 : I [] w) (Ax : List α → α → Act → World → Prop) (hAx : ∀ pre x a',OwnFrom w.heap.size (fun (_ : Unit) W => Ax pre x a' W))
    (hassign : ∀ (l : Nat) (pre : List α) (x : α) (W : World) (K : Act → World → Prop),I pre W → Gd pre x W → (∀ a' W',KeepsFrom w.heap.size W W' → Kp W W' → I pre W' → Ax pre x a' W' → K a' W') →
      assign.wpIn (F.inRound l) (n - 1 - 1) P (Exit.then K (fun _ _ _ => False)) { tmps:=(ps.zip (encs x)).foldl (fun t (p,v) => t.setIfInBounds p v) a.tmps,defers:=[] } W)
    (hbody : ∀ (l : Nat) (pre : List α) (x : α) (a' : Act) (W : World),w.heap.size ≤ l → I pre W → Ax pre x a' W → body.wpIn (F.inRound l) (n - 1 - 1) P (ownPostG w.heap.size Kp I Ix (pre ++ [x]) W) a' W)
    (hdone : ∀ (D : Nat) (xs : List α) (W : World),w.heap.size ≤ D → S xs → I xs W → W.heap[D]? = some (.deferred (some [])) → Q .normal { a with defers:={ target:=.collected D,args:=#[] } :: a.defers } W)
    (hstop : ∀ (D : Nat) (c : Code) (pre : List α) (W : World),w.heap.size ≤ D → Sp pre → Ix c pre W → W.heap[D]? = some (.deferred (some [])) → c.wpIn F n P Q { a with defers:={ target:=.collected D,args:=#[] } :: a.defers } W) :
    (Code.rangeFunc g ps assign body).wpIn F n P Q a w:=by
  refine wpIn_rangeFunc fun fn hfn => ?_
  rw [hro]
  obtain ⟨r,hr⟩ : ∃ r : LoopState → Option Code → Loop,r = fun s p => { state:=s,pending:=p,fn,tmps:=a.tmps,params:=ps,assign,body,defers:=w.heap.size }:=⟨_,rfl⟩
  have hrs : ∀ s p,(r s p).state = s:=fun s p => by rw [hr]
  have hrp : ∀ s p,(r s p).pending = p:=fun s p => by rw [hr]
  have hre : ∀ s p s' p',{ r s p with state:=s',pending:=p' } = r s' p':=fun s p s' p' => by rw [hr]
  obtain ⟨D,hD⟩ : ∃ D,D = w.heap.size:=⟨_,rfl⟩
  obtain ⟨l,hl⟩ : ∃ l,l = w.heap.size + 1:=⟨_,rfl⟩
  obtain ⟨V,hV⟩ : ∃ V,(w.alloc (.deferred (some []))).alloc (.loop (r .ready none)) = V:=⟨_,rfl⟩
  have vl : V.heap[l]? = some (.loop (r .ready none)):=by
    have:=World.alloc_heap_new (w.alloc (.deferred (some []))) (.loop (r .ready none))
    rwa [World.size_alloc,hV,← hl] at this
  have vD : V.heap[D]? = some (.deferred (some [])):=by
    rw [← hV,hD];exact (Below.heap_alloc _ _ _ (by simp)).trans (World.alloc_heap_new w _)
  have vI : I [] V:=by rw [← hV];exact hI.alloc _ (hI.alloc _ h0)
  have vB : Below w0.heap.size w0 V:=by
    rw [← hV];exact hb0.trans ((((Below.refl _ w).alloc (Nat.le_refl _) _).alloc (by simp) _).mono hb0.size)
  have vS : w.heap.size + 2 ≤ V.heap.size:=by rw [← hV];simp
  refine ⟨l,[{ target:=.collected D,args:=#[] }],V,{ target:=.fn (.func gf) lb,args:=#[.func (.yield l) #[] #[]] },V,gf,#[.func (.yield l) #[] #[]] ++ lb,V, ?_, ?_, ?_, ?_,fun _ => h1, ?_⟩
  · rw [← hV,hr,hl,hD];exact run_enterLoop_outer _ _ _ _ _
  · simp only [resolve,hg]
    simp [go_sem]
  · intro f' hf';simp [Target.leads] at hf';subst hf';exact hFg
  · simp [invoke,go_sem,eg]
  · have walk : ∀ {A : World} {row : Option Nat},(∀ k,row = some k → V.heap.size ≤ k ∧ ∃ o : Obj,A.heap[k]? = some o ∧ o.isCells = false) → (∀ k,row = some k → w.heap.size ≤ k ∧ ∃ o : Obj,A.heap[k]? = some o ∧ o.isCells = false) :=
      fun h k e => ⟨by have:=(h k e).1;omega,(h k e).2⟩
    have stay : ∀ {A B : World} {row : Option Nat} {k : Nat} {o : Obj},A.grownBy B row → (∀ k,row = some k → V.heap.size ≤ k ∧ ∃ o : Obj,A.heap[k]? = some o ∧ o.isCells = false) → k < V.heap.size → A.heap[k]? = some o → B.heap[k]? = some o :=
      fun hg' h hk ho => (hg'.block _ (Array.getElem?_eq_some_iff.1 ho).1 (fun e => by have:=(h _ e.symm).1;omega)).trans ho
    refine (hseq l (fun pre W => I pre W ∧ W.heap[l]? = some (.loop (r .ready none)) ∧ W.heap[D]? = some (.deferred (some [])))
      (fun pre W => ∃ c,Ix c pre W ∧ W.heap[l]? = some (.loop (r .done (some c))) ∧ W.heap[D]? = some (.deferred (some []))) V vB
      (fun s A B row hs hg' h => ⟨hI s A B row hs.1 hg' (walk (A:=A) h),stay hg' h (by omega) hs.2.1,stay hg' h (by omega) hs.2.2⟩)
      (fun s A B row ⟨c,hc,h2,h3⟩ hg' h => ⟨c,hIx c s A B row hc hg' (walk (A:=A) h),stay hg' h (by omega) h2,stay hg' h (by omega) h3⟩)
      (fun pre A B hs h => ⟨hIS pre A B hs h.1,hSk A B l _ hs (by omega) h.2.1 rfl,hSk A B D _ hs (by omega) h.2.2 rfl⟩) ?_ ⟨vI,vl,vD⟩).mono ?_
    · rintro pre x W ⟨hi,h2,h3⟩ hgd
      have hy:=run_yield (P:=P) (args:=encs x) h2 (by rw [hr];exact hps x)
      rw [show (r LoopState.ready none).tmps = a.tmps from by rw [hr],show (r LoopState.ready none).params = ps from by rw [hr],show (r LoopState.ready none).fn = fn from by rw [hr],show (r LoopState.ready none).assign = assign from by rw [hr],show (r LoopState.ready none).body = body from by rw [hr]] at hy
      refine ⟨fn,_,assign,body,hy,roundIn_of_wpIn hfn (hassign _ pre x W _ hi hgd ?_)⟩
      clear hy
      intro a' Wa ka kp hia hax
      have b2:=ka.same _ _ (by omega) h2 rfl
      have b3:=ka.same _ _ (by omega) h3 rfl
      have lw : l < Wa.heap.size:=(Array.getElem?_eq_some_iff.1 b2).1
      refine ⟨Wa.putObj l (.loop (r .busy none)),by rw [run_beginRound b2 (hrs _ _)];rw [show ({ r .ready none with state:=.busy } : Loop) = r .busy none from by rw [hr]], ?_⟩
      have c2 : (Wa.putObj l (.loop (r .busy none))).heap[l]? = some (.loop (r .busy none)):=World.putObj_heap_same lw
      have c3 : (Wa.putObj l (.loop (r .busy none))).heap[D]? = some (.deferred (some [])):=(World.putObj_heap_other (by omega)).trans b3
      have k2 : Kp Wa (Wa.putObj l (.loop (r .busy none))):=hKb _ _ _ _ (by omega) b2 rfl rfl
      refine wpIn_mono (hbody _ pre x a' _ (by omega) (hI.putObj _ hia (by omega) b2 rfl) ((hAx pre x a').putObj (s:=()) _ hax (by omega) b2 rfl)) ?_
      rintro e a3 W3 hp
      have kf:=fun (jump : Option Code) (hk : KeepsFrom w.heap.size (Wa.putObj l (.loop (r .busy none))) W3) => (keepsFrom_le ka (show w.heap.size ≤ V.heap.size by omega)).trans ((keepsFrom_put Wa (.loop (r .busy none)) (show l < V.heap.size by omega)).trans ((keepsFrom_le hk (show w.heap.size ≤ V.heap.size by omega)).trans (keepsFrom_put W3 (.loop (r (if jump.isNone then .ready else .done) jump)) (show l < V.heap.size by omega))))
      have fin:=fun (jump : Option Code) (hk : KeepsFrom w.heap.size (Wa.putObj l (.loop (r .busy none))) W3) => round_end (P:=P) hrs hre (by omega) (by omega) (by omega) c2 c3 hk jump
      cases e with
      | normal =>
        obtain ⟨q1,q2,q3⟩:=hp
        obtain ⟨f1,f2,f3,f4⟩:=fin none q1
        exact ⟨_,_,f1,.inl ⟨rfl,⟨hI.putObj _ q3 (by omega) f2 rfl,f3,f4⟩,hKt kp (hKt (hKt k2 q2) (hKb _ _ _ _ (by omega) f2 rfl rfl)),kf none q1⟩⟩
      | ret => obtain ⟨q1,q3⟩:=hp;obtain ⟨f1,f2,f3,f4⟩:=fin (some .ret) q1;exact ⟨_,_,f1,.inr ⟨rfl,⟨.ret,(hIx _).putObj _ q3 (by omega) f2 rfl,f3,f4⟩,kf (some .ret) q1⟩⟩
      | exit id => obtain ⟨q1,q3⟩:=hp;obtain ⟨f1,f2,f3,f4⟩:=fin (some (.exit id)) q1;exact ⟨_,_,f1,.inr ⟨rfl,⟨.exit id,(hIx _).putObj _ q3 (by omega) f2 rfl,f3,f4⟩,kf (some (.exit id)) q1⟩⟩
      | goto t => obtain ⟨q1,q3⟩:=hp;obtain ⟨f1,f2,f3,f4⟩:=fin (some (.goto t)) q1;exact ⟨_,_,f1,.inr ⟨rfl,⟨.goto t,(hIx _).putObj _ q3 (by omega) f2 rfl,f3,f4⟩,kf (some (.goto t)) q1⟩⟩
      | panic ch => exact hp.elim
      | outgrown => exact hp.elim
    · rintro e W2 ⟨⟨v,rfl⟩,(⟨xs,hS,hi,h2,h3⟩ | ⟨pre,hSp,c,hi,h2,h3⟩)⟩
      · exact ⟨none,_,by rw [run_endLoop (P:=P) h2 (by rw [hrs];simp),hrp],hdone _ xs _ (by omega) hS (hI.putObj _ hi (by omega) h2 rfl) ((World.putObj_heap_other (by omega)).trans h3)⟩
      · exact ⟨some c,_,by rw [run_endLoop (P:=P) h2 (by rw [hrs];simp),hrp],hstop _ c pre _ (by omega) hSp ((hIx c).putObj _ hi (by omega) h2 rfl) ((World.putObj_heap_other (by omega)).trans h3)⟩
end
/-- In the wide fence no depth is counted: a round is a round in whatever depth, and within the round of another loop. -/
theorem RoundIn.any {P : Program} {m : Nat} {l : Nat} {f : FuncId} {tmps : Array Value} {assign body : Code} {w : World} {R : Ending → World → Prop} (h : RoundIn Fence.wide m P l f tmps assign body w R) (m' : Nat) : RoundIn Fence.wide m' P l f tmps assign body w R :=
  ⟨h.1,fun c cs _ => h.2 c cs (by simp [Fence.room,Fence.wide])⟩
theorem RoundIn.within {P : Program} {m : Nat} {l : Nat} {f : FuncId} {tmps : Array Value} {assign body : Code} {w : World} {R : Ending → World → Prop} (h : RoundIn Fence.wide m P l f tmps assign body w R) (l' m' : Nat) : RoundIn (Fence.wide.inRound l') m' P l f tmps assign body w R :=
  RoundIn.any (m:=m) h m'
end Go.Proofs.YtpnfgmgoafgcbaaGreat
/-
  The cells of a line (chapter 6): the iterator between, by its contract.
-/
set_option linter.unusedVariables false
namespace Go.Proofs.YtpnfgmgoafgcbaaGreat
open Go.RowKit Go.Shelf
attribute [local go_sem] Oper.semAt_some
theorem dst_zero {a b : Ce} : dst a b = 0 ↔ a = b:=by
  obtain ⟨a,c⟩:=a;obtain ⟨b,d⟩:=b
  simp only [dst,Prod.mk.injEq]
  omega
/-- One step along a line. -/
def stp (a b : Ce) : Ce:=(a.1 + cmpI b.1 a.1,a.2 + cmpI b.2 a.2)
theorem dst_step {a b : Ce} (h : a.1 = b.1 ∨ a.2 = b.2) (hne : a ≠ b) : dst a b = dst (stp a b) b + 1 ∧ ((stp a b).1 = b.1 ∨ (stp a b).2 = b.2):=by
  obtain ⟨a,c⟩:=a;obtain ⟨b,d⟩:=b
  simp only [dst,stp,cmpI,ne_eq,Prod.mk.injEq] at *
  repeat' split
  all_goals omega
theorem seg_step {a b : Ce} (h : a.1 = b.1 ∨ a.2 = b.2) (hne : a ≠ b) : seg a b = a :: seg (stp a b) b:=by
  have hd:=(dst_step h hne).1
  have hc : ∀ k : Nat,k ≤ dst (stp a b) b → ((a.1 + (k + 1 : Nat) * cmpI b.1 a.1,a.2 + (k + 1 : Nat) * cmpI b.2 a.2) : Ce) = ((stp a b).1 + (k : Nat) * cmpI b.1 (stp a b).1,(stp a b).2 + (k : Nat) * cmpI b.2 (stp a b).2):=by
    intro k hk
    obtain ⟨a,c⟩:=a;obtain ⟨b,d⟩:=b
    simp only [dst,stp,cmpI,ne_eq,Prod.mk.injEq] at *
    repeat' split
    all_goals (first | omega | (constructor <;> omega))
  unfold seg segN
  rw [hd,List.range_succ_eq_map,List.map_cons,List.map_map]
  congr 1
  · simp
  · refine List.map_congr_left fun k hk => ?_
    have:=hc k (by simpa [Nat.lt_succ_iff] using hk)
    simpa using this
theorem seg_self (a : Ce) : seg a a = [a]:=by
  have : dst a a = 0:=dst_zero.2 rfl
  simp [seg,segN,this]
theorem run_part_int (xs : Array Value) (i : Nat) (v : Value) (w : World) (h : xs[i]? = some v) : (part 3 xs i).run Tryz.prog w = .ok v w:=by
  unfold part
  simp [Sem.run_bind,go_sem,h]
theorem run_size3 (w : World) : (sizeOf 3).run Tryz.prog w = .ok 1 w:=by kernel_rfl
theorem eq_loop (d : Nat) (xs ys : Array Value) : ∀ (l : List Nat) (us vs : List Int) (w : World),(∀ (j : Nat) i,l[j]? = some i → ∃ a b,us[j]? = some a ∧ vs[j]? = some b ∧ xs[i]? = some (.int .i64 a) ∧ ys[i]? = some (.int .i64 b)) → us.length = l.length → vs.length = l.length →
    (forIn l (none,()) fun i (_ : Option Bool × Unit) => do
        let a ← part 3 xs (i * 1)
        let b ← part 3 ys (i * 1)
        let r ← Op.equalIn (d + 1) 3 a b
        if (!r) = true then pure (ForInStep.done (some false,())) else pure (ForInStep.yield (none,())) : Sem (Option Bool × Unit)).run Tryz.prog w = .ok (if us = vs then none else some false,()) w
  | [],us,vs,w,_,ha,hb => by
    have e1 : us = []:=by simpa using ha
    have e2 : vs = []:=by simpa using hb
    subst e1 e2
    simp
  | i :: l,[],vs,w,_,ha,hb => by simp at ha
  | i :: l,a :: us,[],w,_,ha,hb => by simp at hb
  | i :: l,a :: us,b :: vs,w,h,ha,hb => by
    obtain ⟨a',b',e1,e2,e3,e4⟩:=h 0 i (by simp)
    have e1 : a = a':=by simpa using e1
    have e2 : b = b':=by simpa using e2
    subst e1 e2
    have h1:=run_equalIn_int (P:=Tryz.prog) w d 3 .i64 .i64 a b Tryz.underlying3
    have ih:=eq_loop d xs ys l us vs w (fun j k hj => by simpa using h (j + 1) k (by simpa using hj)) (by simpa using ha) (by simpa using hb)
    simp only [List.forIn_cons,Sem.run_bind,Nat.mul_one,run_part_int xs i _ w e3,run_part_int ys i _ w e4,Result.andThen_ok,h1]
    simp only [Nat.mul_one] at ih
    by_cases hab : a = b
    · subst hab
      simpa using ih
    · have : (a == b) = false:=by simpa using hab
      simp [this,hab]
theorem run_equalIn_ints (d t n : Nat) (us vs : List Int) (w : World) (ht : Tryz.prog.underlying t = some (.array n 3)) (ha : us.length = n) (hb : vs.length = n) :
    (Op.equalIn (d + 1 + 1) t (.agg ((us.map (Value.int .i64)).toArray)) (.agg ((vs.map (Value.int .i64)).toArray))).run Tryz.prog w = .ok (decide (us = vs)) w:=by
  rw [Op.equalIn]
  simp only [Sem.run_bind,run_underlying ht,Result.andThen_ok,run_size3]
  rw [Std.Legacy.Range.forIn_eq_forIn_range']
  have:=eq_loop d ((us.map (Value.int .i64)).toArray) ((vs.map (Value.int .i64)).toArray) (List.range' 0 n) us vs w (fun j i hj => by
    have hj' : j < n:=by
      have:=(List.getElem?_eq_some_iff.1 hj).1
      simpa using this
    have hi : i = j:=by
      rw [List.getElem?_range' (by simpa using hj')] at hj
      simp at hj;omega
    subst hi
    exact ⟨us[i],vs[i],by simp [ha,hj'],by simp [hb,hj'],by simp [ha,hj'],by simp [hb,hj']⟩) (by simp [ha]) (by simp [hb])
  simp only [Std.Legacy.Range.size,Nat.sub_zero,Nat.add_sub_cancel,Nat.div_one] at *
  rw [this]
  by_cases h : us = vs <;> simp [h]
theorem eql_ce (a b x y : Int) (w : World) : (binOp .eql 22 (.agg #[.int .i64 a,.int .i64 b]) (.agg #[.int .i64 x,.int .i64 y])).run Tryz.prog w = .ok (.bool (decide ((a,b) = (x,y)))) w:=by
  have h:=run_equalIn_ints 9998 22 2 [a,b] [x,y] w Tryz.underlying22 rfl rfl
  rw [run_eql_struct,show (10000 : Nat) = 9998 + 1 + 1 from rfl]
  rw [show Value.agg #[.int .i64 a,.int .i64 b] = .agg (([a,b].map (Value.int .i64)).toArray) from rfl,show Value.agg #[.int .i64 x,.int .i64 y] = .agg (([x,y].map (Value.int .i64)).toArray) from rfl,h]
  simp
theorem neq_ce (a b x y : Int) (w : World) : (binOp .neq 22 (.agg #[.int .i64 a,.int .i64 b]) (.agg #[.int .i64 x,.int .i64 y])).run Tryz.prog w = .ok (.bool (!decide ((a,b) = (x,y)))) w:=by
  have h:=run_equalIn_ints 9998 22 2 [a,b] [x,y] w Tryz.underlying22 rfl rfl
  rw [run_neq_struct,show (10000 : Nat) = 9998 + 1 + 1 from rfl]
  rw [show Value.agg #[.int .i64 a,.int .i64 b] = .agg (([a,b].map (Value.int .i64)).toArray) from rfl,show Value.agg #[.int .i64 x,.int .i64 y] = .agg (([x,y].map (Value.int .i64)).toArray) from rfl,h]
  simp
/-- Whether two cells are the same, behind a name that the walk does not open. -/
def sameC (a b x y : Int) : Bool:=decide ((a,b) = (x,y))
theorem eql_ce' (a b x y : Int) (w : World) : (binOp .eql 22 (.agg #[.int .i64 a,.int .i64 b]) (.agg #[.int .i64 x,.int .i64 y])).run Tryz.prog w = .ok (.bool (sameC a b x y)) w:=eql_ce a b x y w
theorem neq_ce' (a b x y : Int) (w : World) : (binOp .neq 22 (.agg #[.int .i64 a,.int .i64 b]) (.agg #[.int .i64 x,.int .i64 y])).run Tryz.prog w = .ok (.bool (!sameC a b x y)) w:=neq_ce a b x y w
attribute [local go_sem] eql_ce' neq_ce'
set_option maxHeartbeats 400000 in
theorem isNaN_c (x : Int) (w : World) : Calls Tryz.prog 184 #[.int .i64 x] w fun e w' => e = .returned (.bool false) ∧ w = w':=by
  go_enter Tryz.func184,Tryz.ntmps184
  go_wp2
  all_goals go_ret
  all_goals exact ⟨ret_b (by simp),rfl⟩
set_option maxHeartbeats 400000 in
theorem compare_c (x y : Int) (w : World) : Calls Tryz.prog 161 #[.int .i64 x,.int .i64 y] w fun e w' => e = .returned (.int .i64 (cmpI x y)) ∧ w = w':=by
  go_enter Tryz.func161,Tryz.ntmps161
  go_wp2_with (first | (go_at_call 184;(with_reducible refine (isNaN_c _ _).mono ?_);rintro e w' ⟨rfl,rfl⟩) | fail)
  all_goals go_ret
  all_goals exact ⟨ret_i (by unfold cmpI;(repeat' split) <;> omega),rfl⟩
end Go.Proofs.YtpnfgmgoafgcbaaGreat
/-
  The order of poses (chapter 6): slices.Compare, cmp.Or, order.
-/
set_option linter.unusedVariables false
namespace Go.Proofs.YtpnfgmgoafgcbaaGreat
open Go.RowKit
def lexC : List Int → List Int → Int
  | [],[] => 0
  | [],_ :: _ => -1
  | _ :: _,[] => 1
  | a :: x,b :: y => if cmpI a b = 0 then lexC x y else cmpI a b
theorem lexC_drop {P Q : List Int} {k : Nat} (h1 : k < P.length) (h2 : k < Q.length) : lexC (P.drop k) (Q.drop k) = if cmpI P[k] Q[k] = 0 then lexC (P.drop (k + 1)) (Q.drop (k + 1)) else cmpI P[k] Q[k]:=by
  rw [List.drop_eq_getElem_cons h1,List.drop_eq_getElem_cons h2,lexC]
theorem lexC_end1 {P Q : List Int} {k : Nat} (h1 : k < P.length) (h2 : Q.length ≤ k) : lexC (P.drop k) (Q.drop k) = 1:=by
  rw [List.drop_eq_getElem_cons h1,List.drop_eq_nil_of_le h2,lexC]
theorem lexC_end2 {P Q : List Int} (h2 : P.length < Q.length) : lexC (P.drop P.length) (Q.drop P.length) = -1:=by
  rw [List.drop_eq_getElem_cons h2,List.drop_eq_nil_of_le (Nat.le_refl _),lexC]
theorem lexC_end3 {P Q : List Int} (h2 : Q.length ≤ P.length) : lexC (P.drop P.length) (Q.drop P.length) = 0:=by
  rw [List.drop_eq_nil_of_le h2,List.drop_eq_nil_of_le (Nat.le_refl _),lexC]
set_option maxHeartbeats 1000000 in
theorem slicesCompare_c (P Q : List Int) (A B : Option Addr) (c d : Nat) (w : World) (h1 : P.length ≤ 9223372036854775807) (h2 : Q.length ≤ 9223372036854775807) (hs1 : SlI w A P) (hs2 : SlI w B Q) :
    Calls Tryz.prog 132 #[.slice A P.length c,.slice B Q.length d] w fun r w' => r = .returned (.int .i64 (lexC P Q)) ∧ w = w':=by
  go_enter Tryz.func132,Tryz.ntmps132
  go_wp2
  go_loop [11] (fun i => ∃ k : Nat,k ≤ P.length ∧ k ≤ Q.length ∧ i = .int .i64 k ∧ Hid (lexC P Q = lexC (P.drop k) (Q.drop k))) (fun i => P.length - (intOf i).toNat)
  case atStart => exact ⟨0,Nat.zero_le _,Nat.zero_le _,rfl,rfl⟩
  case round =>
    obtain ⟨k,hk,hk2,rfl,hf⟩:=hrel
    by_cases hlt : k < P.length
    · obtain ⟨b,off,rfl,hb,hc⟩:=hs1 k P[k] (List.getElem?_eq_getElem hlt)
      by_cases hlt2 : k < Q.length
      · obtain ⟨b2,off2,rfl,hb2,hc2⟩:=hs2 k Q[k] (List.getElem?_eq_getElem hlt2)
        have HD:=Lib.hid (lexC_drop hlt hlt2)
        by_cases hz : cmpI P[k] Q[k] = 0
        · have hz1 : (cmpI P[k] Q[k] == 0) = true:=by simpa using hz
          have hz2 : (cmpI P[k] Q[k] != 0) = false:=by simpa using hz
          have HZ:=Lib.hid hz;clear hz
          go_wp2_with (first | (go_at_call 161;refine (compare_c _ _ _).mono ?_;rintro e w' ⟨rfl,rfl⟩) | fail)
          go_round
          case rel => exact ⟨k + 1,by omega,by omega,by go_num,by unfold Hid;rw [hf.out,HD.out,if_pos HZ.out]⟩
          case measure => simp [intOf];omega
        · have hz1 : (cmpI P[k] Q[k] == 0) = false:=by simpa using hz
          have hz2 : (cmpI P[k] Q[k] != 0) = true:=by simpa using hz
          have HZ:=Lib.hid hz;clear hz
          go_wp2_with (first | (go_at_call 161;refine (compare_c _ _ _).mono ?_;rintro e w' ⟨rfl,rfl⟩) | fail)
          go_ret
          exact ⟨ret_i (by rw [hf.out,HD.out,if_neg HZ.out]),rfl⟩
      · have HD:=Lib.hid (lexC_end1 (Q:=Q) hlt (by omega))
        go_wp2_with (first | (go_at_call 161;refine (compare_c _ _ _).mono ?_;rintro e w' ⟨rfl,rfl⟩) | fail)
        go_ret
        exact ⟨ret_i (by rw [hf.out,HD.out]),rfl⟩
    · obtain rfl : k = P.length:=by omega
      by_cases hl : P.length < Q.length
      · have HD:=Lib.hid (lexC_end2 hl)
        go_wp2_with (first | (go_at_call 161;refine (compare_c _ _ _).mono ?_;rintro e w' ⟨rfl,rfl⟩) | fail)
        go_ret
        exact ⟨ret_i (by rw [hf.out,HD.out]),rfl⟩
      · have HD:=Lib.hid (lexC_end3 (P:=P) (Q:=Q) (by omega))
        go_wp2_with (first | (go_at_call 161;refine (compare_c _ _ _).mono ?_;rintro e w' ⟨rfl,rfl⟩) | fail)
        go_ret
        exact ⟨ret_i (by rw [hf.out,HD.out]),rfl⟩
set_option maxHeartbeats 400000 in
theorem or_c (xs : List Int) (A : Option Addr) (c : Nat) (w : World) (hn : xs.length ≤ 9223372036854775807) (hs : SlI w A xs) :
    Calls Tryz.prog 160 #[.slice A xs.length c] w fun r w' => r = .returned (.int .i64 (fstE xs)) ∧ w = w':=by
  go_enter Tryz.func160,Tryz.ntmps160
  go_wp2
  go_loop [8] (fun i => ∃ k : Nat,k ≤ xs.length ∧ i = .int .i64 k ∧ Hid (fstE xs = fstE (xs.drop k))) (fun i => xs.length - (intOf i).toNat)
  case atStart => exact ⟨0,Nat.zero_le _,rfl,rfl⟩
  case round =>
    obtain ⟨k,hk,rfl,hf⟩:=hrel
    by_cases hlt : k < xs.length
    · obtain ⟨b,off,rfl,hb,hc⟩:=hs k xs[k] (List.getElem?_eq_getElem hlt)
      have HD:=Lib.hid (List.drop_eq_getElem_cons hlt)
      by_cases hz : xs[k] = 0
      · have hz1 : (xs[k] == 0) = true:=by simpa using hz
        have hz2 : (xs[k] != 0) = false:=by simpa using hz
        have HZ:=Lib.hid hz;clear hz
        go_wp2
        go_round
        case rel => exact ⟨k + 1,by omega,by go_num,by unfold Hid;rw [hf.out,HD.out,fstE,if_pos HZ.out]⟩
        case measure => simp [intOf];omega
      · have hz1 : (xs[k] == 0) = false:=by simpa using hz
        have hz2 : (xs[k] != 0) = true:=by simpa using hz
        have HZ:=Lib.hid hz;clear hz
        go_wp2
        go_ret
        exact ⟨ret_i (by rw [hf.out,HD.out,fstE,if_neg HZ.out]),rfl⟩
    · go_wp2
      go_ret
      exact ⟨ret_i (by rw [hf.out,List.drop_eq_nil_of_le (by omega)];rfl),rfl⟩
theorem or2d (x y : Int) (k : Nat) (w : World) (t : TypeId) (hk : k = w.heap.size) : Calls Tryz.prog 160 #[.slice (some ⟨k,0,none⟩) 2 2] ((w.alloc (.cells #[.int .i64 x,.int .i64 y] t)).drew) fun r w' => r = .returned (.int .i64 (fstE [x,y])) ∧ (w.alloc (.cells #[.int .i64 x,.int .i64 y] t)).drew = w' :=
  hk ▸ or_c [x,y] _ 2 _ (by simp) (sli_new w [x,y] t)
/-- The order of poses. -/
def ordP (p q : Ps) : Int:=fstE [cmpI p.1 q.1,lexC p.2 q.2]
set_option maxHeartbeats 2000000 in
theorem order_c (ps pt : Int) (Q T : List Int) (AQ AT : Option Addr) (cQ cT : Nat) (w : World) (h1 : Q.length ≤ 9223372036854775807) (h2 : T.length ≤ 9223372036854775807) (hs1 : SlI w AQ Q) (hs2 : SlI w AT T) :
    Calls Tryz.prog 121 #[.agg #[.int .i64 ps,.slice AQ Q.length cQ],.agg #[.int .i64 pt,.slice AT T.length cT]] w fun e w' => e = .returned (.int .i64 (ordP (ps,Q) (pt,T))) ∧
      w' = (((w.alloc (.cells #[.int .i64 ps,.slice AQ Q.length cQ] 33)).alloc (.cells #[.int .i64 pt,.slice AT T.length cT] 33)).alloc (.cells #[.int .i64 (cmpI ps pt),.int .i64 (lexC Q T)] 3)).drew:=by
  have SCc:=Lib.hid (fun W (h : Below w.heap.size w W) => slicesCompare_c Q T AQ AT cQ cT W h1 h2 (hs1.below h) (hs2.below h))
  clear hs1 hs2
  go_enter Tryz.func121,Tryz.ntmps121
  go_wp2
  go_region_held3 (fun w' => w'.cell? ⟨w.heap.size,0,none⟩ = some (.int .i64 ps) ∧ w'.cell? ⟨w.heap.size,1,none⟩ = some (.slice AQ Q.length cQ) ∧ w'.cell? ⟨w.heap.size + 1,0,none⟩ = some (.int .i64 pt) ∧ w'.cell? ⟨w.heap.size + 1,1,none⟩ = some (.slice AT T.length cT)) (go_keep)
    (first | (go_at_call 161;refine (compare_c _ _ _).mono ?_;rintro e w' ⟨rfl,rfl⟩) | (go_at_call 132;(with_reducible refine (SCc.out _ ?_).mono ?_);rotate_left;rintro e w' ⟨rfl,rfl⟩;rotate_left;(focus (exact bB0))) | (go_at_call 160;refine (or2d _ _ _ _ _ (by simp)).mono ?_;rintro e w' ⟨rfl,rfl⟩) | fail)
  all_goals go_wp2
  all_goals go_ret
  all_goals exact ⟨rfl,rfl⟩
end Go.Proofs.YtpnfgmgoafgcbaaGreat
/-
  Poses in their order (chapter 6), in plain words: the order is one; sorted lists.
-/
set_option linter.unusedVariables false
namespace Go.Proofs.YtpnfgmgoafgcbaaGreat
theorem cmpI_lt {a b : Int} : cmpI a b < 0 ↔ a < b:=by unfold cmpI;split <;> (try split) <;> omega
theorem cmpI_zero {a b : Int} : cmpI a b = 0 ↔ a = b:=by unfold cmpI;split <;> (try split) <;> omega
theorem cmpI_neg (a b : Int) : cmpI b a = -cmpI a b:=by unfold cmpI;split <;> split <;> (try split) <;> (try split) <;> omega
theorem lexC_zero : ∀ {P Q : List Int},lexC P Q = 0 ↔ P = Q
  | [],[] => by simp [lexC]
  | [],_ :: _ => by simp [lexC]
  | _ :: _,[] => by simp [lexC]
  | a :: x,b :: y => by
    unfold lexC
    by_cases h : cmpI a b = 0
    · rw [if_pos h,lexC_zero,cmpI_zero.1 h];simp
    · rw [if_neg h]
      have : a ≠ b:=fun e => h (cmpI_zero.2 e)
      simp [h,this]
theorem lexC_neg : ∀ (P Q : List Int),lexC Q P = -lexC P Q
  | [],[] => by simp [lexC]
  | [],_ :: _ => by simp [lexC]
  | _ :: _,[] => by simp [lexC]
  | a :: x,b :: y => by
    unfold lexC
    rw [cmpI_neg a b]
    by_cases h : cmpI a b = 0
    · rw [if_pos h,if_pos (by omega),lexC_neg x y]
    · rw [if_neg h,if_neg (by omega)]
theorem lexC_tr : ∀ {P Q R : List Int},lexC P Q < 0 → lexC Q R < 0 → lexC P R < 0
  | [],_,[],h1,h2 => by
    rename_i Q
    cases Q with
    | nil => simp [lexC] at h1
    | cons b y => simp [lexC] at h2
  | [],_,_ :: _,_,_ => by simp [lexC]
  | _ :: _,[],_,h1,_ => by simp [lexC] at h1
  | _ :: _,_ :: _,[],_,h2 => by simp [lexC] at h2
  | a :: x,b :: y,c :: z,h1,h2 => by
    unfold lexC at h1 h2 ⊢
    by_cases e1 : cmpI a b = 0
    · rw [if_pos e1] at h1
      rw [cmpI_zero.1 e1]
      by_cases e2 : cmpI b c = 0
      · rw [if_pos e2] at h2 ⊢
        exact lexC_tr h1 h2
      · rw [if_neg e2] at h2 ⊢
        exact h2
    · rw [if_neg e1] at h1
      have k1:=cmpI_lt.1 h1
      by_cases e2 : cmpI b c = 0
      · rw [cmpI_zero.1 e2] at k1
        have k2:=cmpI_lt.2 k1
        rw [if_neg (by omega)]
        exact k2
      · rw [if_neg e2] at h2
        have k2:=cmpI_lt.1 h2
        have k3:=cmpI_lt.2 (show a < c by omega)
        rw [if_neg (by omega)]
        exact k3
theorem ordP_eq (p q : Ps) : ordP p q = if cmpI p.1 q.1 = 0 then lexC p.2 q.2 else cmpI p.1 q.1:=by
  unfold ordP
  simp only [fstE]
  split
  · split
    · rename_i h;exact h.symm
    · rfl
  · rfl
theorem ordP_zero {p q : Ps} : ordP p q = 0 ↔ p = q:=by
  obtain ⟨a,P⟩:=p
  obtain ⟨b,Q⟩:=q
  rw [ordP_eq]
  by_cases h : cmpI a b = 0
  · rw [if_pos h,lexC_zero,cmpI_zero.1 h];simp
  · rw [if_neg h]
    have : a ≠ b:=fun e => h (cmpI_zero.2 e)
    simp [h,this]
theorem ordP_neg (p q : Ps) : ordP q p = -ordP p q:=by
  rw [ordP_eq,ordP_eq,cmpI_neg p.1 q.1]
  by_cases h : cmpI p.1 q.1 = 0
  · rw [if_pos h,if_pos (by omega),lexC_neg]
  · rw [if_neg h,if_neg (by omega)]
theorem ordP_tr {p q r : Ps} (h1 : ordP p q < 0) (h2 : ordP q r < 0) : ordP p r < 0:=by
  rw [ordP_eq] at h1 h2 ⊢
  by_cases e1 : cmpI p.1 q.1 = 0
  · rw [if_pos e1] at h1
    rw [cmpI_zero.1 e1]
    by_cases e2 : cmpI q.1 r.1 = 0
    · rw [if_pos e2] at h2 ⊢
      exact lexC_tr h1 h2
    · rw [if_neg e2] at h2 ⊢
      exact h2
  · rw [if_neg e1] at h1
    have k1:=cmpI_lt.1 h1
    by_cases e2 : cmpI q.1 r.1 = 0
    · rw [cmpI_zero.1 e2] at k1
      have k2:=cmpI_lt.2 k1
      rw [if_neg (by omega)]
      exact k2
    · rw [if_neg e2] at h2
      have k2:=cmpI_lt.1 h2
      have k3:=cmpI_lt.2 (show p.1 < r.1 by omega)
      rw [if_neg (by omega)]
      exact k3
/-- From p not behind q and q not behind r: p not behind r. -/
theorem ordP_le_tr {p q r : Ps} (h1 : ¬ ordP q p < 0) (h2 : ¬ ordP r q < 0) : ¬ ordP r p < 0:=by
  intro h
  rw [ordP_neg p q] at h1
  rw [ordP_neg q r] at h2
  by_cases e1 : ordP p q = 0
  · rw [ordP_zero.1 e1] at h
    rw [ordP_neg q r] at h
    omega
  · by_cases e2 : ordP q r = 0
    · rw [← ordP_zero.1 e2,ordP_neg p q] at h
      omega
    · have:=ordP_tr (show ordP p q < 0 by omega) (show ordP q r < 0 by omega)
      rw [ordP_neg p r] at h
      omega
abbrev PM:=Ps × Int
def insR (x : PM) : List PM → List PM
  | [] => [x]
  | y :: l => if ordP y.1 x.1 < 0 then y :: insR x l else x :: y :: l
def sortR : List PM → List PM
  | [] => []
  | x :: l => insR x (sortR l)
theorem insR_perm (x : PM) : ∀ l,(insR x l).Perm (x :: l)
  | [] => List.Perm.refl _
  | y :: l => by
    unfold insR
    split
    · exact ((insR_perm x l).cons y).trans (List.Perm.swap _ _ _)
    · exact List.Perm.refl _
theorem sortR_perm : ∀ l,(sortR l).Perm l
  | [] => List.Perm.refl _
  | x :: l => (insR_perm x (sortR l)).trans ((sortR_perm l).cons x)
abbrev SortedR (l : List PM) : Prop:=l.Pairwise fun a b => ¬ ordP b.1 a.1 < 0
theorem insR_sorted (x : PM) : ∀ l,SortedR l → SortedR (insR x l)
  | [],_ => by simp [insR]
  | y :: l,h => by
    have h':=List.pairwise_cons.1 h
    unfold insR
    split
    · rename_i hxy
      refine List.pairwise_cons.2 ⟨fun z hz => ?_,insR_sorted x l h'.2⟩
      rcases List.mem_cons.1 ((insR_perm x l).subset hz) with rfl | hz
      · rw [ordP_neg];omega
      · exact h'.1 z hz
    · rename_i hxy
      refine List.pairwise_cons.2 ⟨fun z hz => ?_,h⟩
      rcases List.mem_cons.1 hz with rfl | hz
      · exact hxy
      · exact ordP_le_tr hxy (h'.1 z hz)
theorem sortR_sorted : ∀ l,SortedR (sortR l)
  | [] => List.Pairwise.nil
  | x :: l => insR_sorted x _ (sortR_sorted l)
/-- Lists whose numbers are a function of the poses have one order alone. -/
theorem sortedR_unique {f : Ps → Int} (l m : List PM) (hf : ∀ x ∈ l,x.2 = f x.1) (hg : ∀ x ∈ m,x.2 = f x.1) (hl : SortedR l) (hm : SortedR m) (h : l.Perm m) : l = m :=
  h.eq_of_pairwise (fun a b ha hb h1 h2 => by
    have e : a.1 = b.1:=by
      rw [ordP_neg] at h1
      exact ordP_zero.1 (by omega)
    exact Prod.ext e (by rw [hf a ha,hg b hb,e])) hl hm
end Go.Proofs.YtpnfgmgoafgcbaaGreat

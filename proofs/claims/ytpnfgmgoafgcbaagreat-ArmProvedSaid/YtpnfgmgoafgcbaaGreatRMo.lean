/-
  movesOf, isBefore, CopyReached and SameReached of the reference (chapter 6).
-/
import Derived.Test.YtpnfgmgoafgcbaaGreatA7
import Derived.Test.YtpnfgmgoafgcbaaGreatG4
import Derived.Test.YtpnfgmgoafgcbaaGreatRBt
import Derived.Test.YtpnfgmgoafgcbaaGreatA4
import Derived.Test.YtpnfgmgoafgcbaaGreatRSe
set_option linter.all false
set_option linter.unusedVariables false
namespace Go.Proofs.YtpnfgmgoafgcbaaGreat
open Go.RowKit Go.Shelf
attribute [local go_sem] Oper.semAt_some
theorem find_dropR {α : Type} {f : α → Bool} {l : List α} {k : Nat} {x : α} (h : l[k]? = some x) : (l.drop k).find? f = if f x then some x else (l.drop (k + 1)).find? f:=by
  obtain ⟨hk,e⟩:=List.getElem?_eq_some_iff.1 h
  rw [List.drop_eq_getElem_cons hk,e,List.find?_cons]
  cases f x <;> rfl
def pmR (x : Rc) : PM:=(x.1.1,x.2)
/-- Reached poses that lie in memory. -/
structure RcW (A : Option Addr) (xs : List Rc) (W : World) : Prop where
  sl : SlV W A (xs.flatMap rcV)
  el : ∀ x ∈ xs,SlI W x.1.2.1 x.1.1.2
  ln : ∀ x ∈ xs,x.1.1.2.length ≤ 100000
theorem RcW.below {A : Option Addr} {xs : List Rc} {W W' : World} (h : RcW A xs W) (hb : Below W.heap.size W W') : RcW A xs W':=⟨h.sl.below hb,fun x hx => (h.el x hx).below hb,h.ln⟩
theorem rcCells {A : Option Addr} {xs : List Rc} {W : World} {i : Nat} {y : Rc} (h : RcW A xs W) (hy : xs[i]? = some y) :
    ∃ b off,A = some ⟨b,off,none⟩ ∧ b < W.heap.size ∧ W.cell? ⟨b,off + i * 3,none⟩ = some (.int .i64 y.1.1.1) ∧ W.cell? ⟨b,off + i * 3 + 1,none⟩ = some (.slice y.1.2.1 y.1.1.2.length y.1.2.2) ∧ W.cell? ⟨b,off + i * 3 + 2,none⟩ = some (.int .i64 y.2):=by
  obtain ⟨b,off,e,hb,hc⟩:=row_cells (enc:=rcV) (k:=3) (fun _ => rfl) h.sl (by omega) hy
  have c0:=hc 0 (by omega);have c1:=hc 1 (by omega);have c2:=hc 2 (by omega)
  exact ⟨b,off,e,hb,c0,c1,c2⟩
/-- The moves of a pose among reached ones. -/
def mvoF : Option PM → Int
  | some x => x.2
  | none => -1
def mvoP (l : List PM) (p : Ps) : Int:=mvoF (l.find? fun x => decide (x.1 = p))
set_option maxHeartbeats 4000000 in
set_option maxRecDepth 100000 in
theorem rMovesOf_c (xs : List Rc) (pt : Int) (T : List Int) (A AT : Option Addr) (c cT : Nat) (w : World) (hn : xs.length ≤ 100000) (hT : T.length ≤ 100000) (hx : RcW A xs w) (hs4 : SlI w AT T) :
    Calls Tryz.prog 123 #[.slice A xs.length c,.agg #[.int .i64 pt,.slice AT T.length cT]] w fun e w' => e = .returned (.int .i64 (mvoP (xs.map pmR) (pt,T))) ∧ Below w.heap.size w w':=by
  have HT:=Lib.hid hs4
  have HX:=Lib.hid hx
  have HF:=Lib.hid (show mvoP (xs.map pmR) (pt,T) = mvoF (((xs.map pmR).drop 0).find? fun x => decide (x.1 = (pt,T))) from rfl)
  clear hs4 hx
  generalize mvoP (xs.map pmR) (pt,T) = R at *
  go_enter Tryz.func123,Tryz.ntmps123
  go_wp2
  obtain ⟨W5,hW5⟩ : ∃ W5 : World,W5 = w.alloc (.cells #[.int .i64 pt,.slice AT T.length cT] 33):=⟨_,rfl⟩
  have hN5 : Box W5 w.heap.size 33 #[.int .i64 pt,.slice AT T.length cT]:=by rw [hW5];exact bX0
  have hB5 : Below w.heap.size w W5:=by rw [hW5];exact bB0
  rw [← hW5]
  clear hW5
  have lN9:=hN5.lt
  go_loopw [5] (fun j wr => ∃ i : Nat,j = .int .i64 i ∧ i ≤ xs.length ∧ Hid (R = mvoF (((xs.map pmR).drop i).find? fun x => decide (x.1 = (pt,T)))) ∧ Below W5.heap.size W5 wr) (fun j _ => xs.length - (intOf j).toNat)
  case atStart => exact ⟨0,rfl,Nat.zero_le _,HF.out,Below.refl _ _⟩
  case round =>
    obtain ⟨i,rfl,hi,hR,hb⟩:=hrel
    clear HF
    by_cases hlt : i < xs.length
    · obtain ⟨x,hx⟩ : ∃ x,xs[i]? = some x:=⟨_,List.getElem?_eq_getElem hlt⟩
      have hbw : Below w.heap.size w wr:=by exact bB2 hb hB5
      have hWr:=HX.out.below hbw
      obtain ⟨gR,oR,rfl,lR,z0,z1,z2⟩:=rcCells hWr hx
      have hxq:=hWr.el x (List.mem_of_getElem? hx)
      have hxl:=hWr.ln x (List.mem_of_getElem? hx)
      have hRp : (pmR x).1 = (pt,T) → R = (pmR x).2:=by
        intro hd
        rw [hR.out,find_dropR (show (xs.map pmR)[i]? = some (pmR x) from by rw [List.getElem?_map,hx];rfl)]
        simp [hd,mvoF]
      have hRn : (pmR x).1 ≠ (pt,T) → R = mvoF (((xs.map pmR).drop (i + 1)).find? fun x => decide (x.1 = (pt,T))):=by
        intro hd
        rw [hR.out,find_dropR (show (xs.map pmR)[i]? = some (pmR x) from by rw [List.getElem?_map,hx];rfl)]
        simp [hd]
      obtain ⟨⟨⟨x1,xQ⟩,⟨AX,cX⟩⟩,xm⟩:=x
      have hRp2 : (x1,xQ) = (pt,T) → R = xm:=hRp
      have hRn2 : (x1,xQ) ≠ (pt,T) → R = mvoF (((xs.map pmR).drop (i + 1)).find? fun x => decide (x.1 = (pt,T))):=hRn
      clear hRp hRn
      dsimp only at z0 z1 z2 hxq hxl
      have hNr:=hN5.below hb lN9
      have n0:=hNr.cell 0;have n1:=hNr.cell 1;have lN:=hNr.lt
      simp at n0 n1
      have SPc:=Lib.hid (fun W (h1 : SlI W AX xQ) (h2 : Below w.heap.size w W) => samePose_c x1 pt xQ T AX AT cX cT W hxl hT h1 (HT.out.below h2))
      have HXQ:=Lib.hid hxq
      have HRp:=Lib.hid hRp2
      have HRn:=Lib.hid hRn2
      clear hWr hx hxq hxl hNr hRp2 hRn2 hR
      have i0 : 0 ≤ (i : Int):=by omega
      have i1 : (i : Int) < (xs.length : Int):=by omega
      by_cases hd : (x1,xQ) = (pt,T)
      case neg =>
        rw [decide_eq_false hd] at SPc
        have HR3:=Lib.hid (HRn.out hd)
        clear HRp HRn hd
        go_wp2
        (refine region_open kR (fun R hR => ?_);refine heldR (S:=(fun w' => Below wr.heap.size wr w')) ?_ (fun hHeld => ?_);(focus ((try dsimp only);(((first | exact bB0 | exact bB1 hb3)))));have hO:=Lib.hid (fun w' (hSw : (fun w' => Below wr.heap.size wr w') w') => (by (try dsimp only at hSw);(have hcc:=(bcell hSw).1;have sa0:=(hcc _ _ lR).trans z0;have sa1:=(hcc _ _ lR).trans z1;have sb0:=(hcc _ 0 lN).trans n0;have sb1:=(hcc _ 1 lN).trans n1);exact And.intro sa0 (And.intro sa1 (And.intro sb0 sb1))));refine rgN 0 rfl ?_;refine rgN 1 rfl ?_;refine rgN 2 rfl ?_;refine rgN 3 rfl ?_;refine rgL 4 hO rfl ?_;refine rgL 5 hO rfl ?_;refine rgC 6 rfl (fun K hK => ?_);go_simp;((go_at_call 21;(with_reducible refine (SPc.out _ (HXQ.out.below (by exact bB0)) (by exact bB1 hbw)).mono ?_);rintro e w3 ⟨rfl,hb3⟩;have hz3 : wr.heap.size ≤ w3.heap.size:=(by have:=hb3.size;(try simp at this);omega)));go_simp;refine hK.out _ _ ?_ (fun hHeld => ?_);(focus ((try dsimp only);(((first | exact bB1 hb3 | exact bB0)))));clear hK K;(try simp only [Act.put,pqs]);refine wpAnyH_done (Q:=fun e a w => e = Exit.normal ∧ R a w) kR ⟨rfl,hR _ _ ?_⟩ _;clear hR R)
        go_wp2
        go_roundw
        case rel => exact ⟨i + 1,by go_num,by omega,HR3.out,by exact bB2 hb3 hb⟩
        case measure => simp [intOf];omega
      case pos =>
        rw [decide_eq_true hd] at SPc
        have e : R = xm:=HRp.out hd
        subst e
        clear HRp HRn hd
        go_wp2
        (refine region_open kR (fun R hR => ?_);refine heldR (S:=(fun w' => Below wr.heap.size wr w')) ?_ (fun hHeld => ?_);(focus ((try dsimp only);(((first | exact bB0 | exact bB1 hb3)))));have hO:=Lib.hid (fun w' (hSw : (fun w' => Below wr.heap.size wr w') w') => (by (try dsimp only at hSw);(have hcc:=(bcell hSw).1;have sa0:=(hcc _ _ lR).trans z0;have sa1:=(hcc _ _ lR).trans z1;have sb0:=(hcc _ 0 lN).trans n0;have sb1:=(hcc _ 1 lN).trans n1);exact And.intro sa0 (And.intro sa1 (And.intro sb0 sb1))));refine rgN 0 rfl ?_;refine rgN 1 rfl ?_;refine rgN 2 rfl ?_;refine rgN 3 rfl ?_;refine rgL 4 hO rfl ?_;refine rgL 5 hO rfl ?_;refine rgC 6 rfl (fun K hK => ?_);go_simp;((go_at_call 21;(with_reducible refine (SPc.out _ (HXQ.out.below (by exact bB0)) (by exact bB1 hbw)).mono ?_);rintro e w3 ⟨rfl,hb3⟩;have hz3 : wr.heap.size ≤ w3.heap.size:=(by have:=hb3.size;(try simp at this);omega)));go_simp;refine hK.out _ _ ?_ (fun hHeld => ?_);(focus ((try dsimp only);(((first | exact bB1 hb3 | exact bB0)))));clear hK K;(try simp only [Act.put,pqs]);refine wpAnyH_done (Q:=fun e a w => e = Exit.normal ∧ R a w) kR ⟨rfl,hR _ _ ?_⟩ _;clear hR R)
        have hb4 : Below wr.heap.size wr w3:=by exact bB1 hb3
        have z2':=((bcell hb4).1 _ _ lR).trans z2
        have lR' : gR < w3.heap.size:=by omega
        go_wp2
        go_ret
        exact ⟨rfl,by exact bB2 hb4 hbw⟩
    · have e : R = -1:=by rw [hR.out,List.drop_eq_nil_of_le (by simp;omega)];rfl
      subst e
      clear hR
      go_wp2
      go_ret
      exact ⟨rfl,by exact bB2 hb hB5⟩
/-- Whether a pose comes before another one. -/
def befS (p q : Ps) : Bool:=if p.1 = q.1 then befL p.2 q.2 else decide (p.1 < q.1)
set_option maxHeartbeats 2000000 in
theorem rIsBefore_c (ps pt : Int) (Q T : List Int) (AQ AT : Option Addr) (cQ cT : Nat) (w : World) (hn : Q.length ≤ 100000) (hm : T.length ≤ 100000) (hs : SlI w AQ Q) (ht : SlI w AT T) :
    Calls Tryz.prog 122 #[.agg #[.int .i64 ps,.slice AQ Q.length cQ],.agg #[.int .i64 pt,.slice AT T.length cT]] w fun e w' => e = .returned (.bool (befS (ps,Q) (pt,T))) ∧ Below w.heap.size w w':=by
  have BEc:=Lib.hid (fun W (h : Below w.heap.size w W) => before_c Q T AQ AT cQ cT W (by omega) (by omega) (hs.below h) (ht.below h))
  clear hs ht
  by_cases h : ps = pt
  · have hR : befS (ps,Q) (pt,T) = befL Q T:=by unfold befS;rw [if_pos h]
    have x1 : (ps != pt) = false:=bneF h
    have H:=Lib.hid h
    rw [hR]
    clear h hR
    generalize befL Q T = R at *
    go_enter Tryz.func122,Tryz.ntmps122
    go_wp2_with (first | (go_at_call 103;(with_reducible refine (BEc.out _ (by exact bB0)).mono ?_);rintro e w3 ⟨rfl,hb3⟩) | fail)
    go_ret
    exact ⟨rfl,by exact bB1 hb3⟩
  · have hR : befS (ps,Q) (pt,T) = decide (ps < pt):=by unfold befS;rw [if_neg h]
    have x1 : (ps != pt) = true:=bneT h
    rw [hR]
    clear h hR
    go_enter Tryz.func122,Tryz.ntmps122
    go_wp2
    go_ret
    exact ⟨rfl,by exact bB0⟩
/-- Copies of reached poses so far. -/
structure CrW (U : Nat) (A : Option Addr) (c : Nat) (ys : List Rc) (W : World) : Prop where
  own : W.ownsRow U 98 3 (.slice A ys.length c) ys.length (ys.flatMap rcV)
  el : ∀ y ∈ ys,SlI W y.1.2.1 y.1.1.2 ∧ (0 < y.1.1.2.length → ∃ g cs,y.1.2.1 = some ⟨g,0,none⟩ ∧ Box W g 3 cs)
theorem CrW.below {U : Nat} {A : Option Addr} {c : Nat} {ys : List Rc} {W W' : World} (h : CrW U A c ys W) (hb : Below W.heap.size W W') : CrW U A c ys W' :=
  ⟨own_below h.own hb,fun y hy => ⟨(h.el y hy).1.below hb,fun hl => by obtain ⟨g,cs,e,hx⟩:=(h.el y hy).2 hl;exact ⟨g,cs,e,hx.below hb hx.lt⟩⟩⟩
theorem infoRd : infoOk Tryz.prog 98 3 40 = true:=by kernel_rfl
set_option maxHeartbeats 4000000 in
set_option maxRecDepth 100000 in
theorem copyReached_c (xs : List Rc) (A : Option Addr) (c : Nat) (w : World) (hn : xs.length ≤ 100000) (hx : RcW A xs w) :
    Calls Tryz.prog 52 #[.slice A xs.length c] w fun e w' => ∃ (B : Option Addr) (d : Nat) (ys : List Rc),e = .returned (.slice B ys.length d) ∧ ys.map pmR = xs.map pmR ∧ RcW B ys w' ∧ Below w.heap.size w w':=by
  have CPd:=Lib.hid (fun (x1 : Int) (xQ : List Int) (hl : xQ.length ≤ 100000) AX cX (hv : SlI w AX xQ) W (h : Below w.heap.size w W) => copyPoseX_c x1 xQ AX cX W hl (hv.below h))
  have HX:=Lib.hid hx
  clear hx
  obtain ⟨u0,zR,hu0,hy0,hy1,hy2,hy3⟩:=infoOk_parts infoRd
  go_enter Tryz.func52,Tryz.ntmps52
  go_wp2
  go_loopw [3,4] (fun o j wr => ∃ (i : Nat) (Ao : Option Addr) (co : Nat) (ys : List Rc),o = .slice Ao ys.length co ∧ j = .int .i64 i ∧ i ≤ xs.length ∧ CrW w.heap.size Ao co ys wr ∧ Hid (ys.map pmR = (xs.take i).map pmR) ∧ Below w.heap.size w wr) (fun _ j _ => xs.length - (intOf j).toNat)
  case atStart => exact ⟨0,none,0,[],rfl,rfl,Nat.zero_le _,⟨⟨rfl,.inl ⟨rfl,rfl⟩⟩,fun y hy => by cases hy⟩,rfl,Below.refl _ _⟩
  case round =>
    obtain ⟨i,Ao,co,ys,rfl,rfl,hi,hW,hys,hB⟩:=hrel
    have hyl : ys.length = i:=by
      have:=congrArg List.length hys.out
      simp at this
      omega
    have hyl2 : ys.length ≤ 100000:=by omega
    have HYL:=Lib.hid hyl
    clear hyl
    have hBs:=hB.size
    by_cases hlt : i < xs.length
    · obtain ⟨x,hx⟩ : ∃ x,xs[i]? = some x:=⟨_,List.getElem?_eq_getElem hlt⟩
      obtain ⟨bR,oR,rfl,lR,z0,z1,z2⟩:=rcCells HX.out hx
      have hxq:=HX.out.el x (List.mem_of_getElem? hx)
      have hxl:=HX.out.ln x (List.mem_of_getElem? hx)
      have hys2 : (xs.take (i + 1)).map pmR = ys.map pmR ++ [pmR x]:=by rw [List.take_add_one,hx,List.map_append,hys.out];rfl
      obtain ⟨⟨⟨x1,xQ⟩,⟨AX,cX⟩⟩,xm⟩:=x
      dsimp only at z0 z1 z2 hxq hxl
      have CPc:=Lib.hid (CPd.out x1 xQ hxl AX cX hxq)
      have HW:=Lib.hid hW
      have HYS:=Lib.hid hys2
      have i0 : 0 ≤ (i : Int):=by omega
      have i1 : (i : Int) < (xs.length : Int):=by omega
      have hm1 : ys.length + 1 ≤ maxLen:=by unfold maxLen;omega
      have hm2 : (ys.length + 1) * 40 ≤ 140737488355328:=by omega
      clear hx hxq hxl hys2 hW hys
      go_wp2
      (refine region_open kR (fun R hR => ?_);refine heldR (S:=(fun w' => Below w.heap.size w w')) ?_ (fun hHeld => ?_);(focus ((try dsimp only);((first | ((first | exact bB0 | exact bB1 hb3 | exact bB1 hB | exact bB2 hb3 hB)) | exact hB3 | exact hB5 | ((first | exact bB0 | exact bB1 hB3))))));have hO:=Lib.hid (fun w' (hSw : (fun w' => Below w.heap.size w w') w') => (by (try dsimp only at hSw);(have hcc:=(bcell hSw).1;have sa0:=(hcc _ _ lR).trans z0;have sa1:=(hcc _ _ lR).trans z1;have sa2:=(hcc _ _ lR).trans z2);exact And.intro sa0 (And.intro sa1 sa2)));refine rgN 0 rfl ?_;refine rgN 1 rfl ?_;refine rgN 2 rfl ?_;refine rgN 3 rfl ?_;refine rgN 4 rfl ?_;refine rgL 5 hO rfl ?_;refine rgN 7 rfl ?_;refine rgN 8 rfl ?_;refine rgN 9 rfl ?_;refine rgN 10 rfl ?_;refine rgL 11 hO rfl ?_;refine rgC 6 rfl (fun K hK => ?_);go_simp;((go_at_call 18;(with_reducible refine (CPc.out _ (by exact bB1 hB)).mono ?_);rintro e w3 hE3;obtain ⟨D,d,rfl,hv3,hf3,hb3⟩:=hE3;have HV3:=Lib.hid hv3;have HF3:=Lib.hid hf3;clear hv3 hf3;have hz3 : wr.heap.size ≤ w3.heap.size:=(by have:=hb3.size;(try simp at this);omega);have o3:=own_below (own_below HW.out.own (Below.drew (Below.refl _ _))) hb3;have hB3 : Below w.heap.size w w3:=(by exact bB2 hb3 hB)));go_simp;refine hK.out _ _ ?_ (fun hHeld => ?_);(focus ((try dsimp only);((first | ((first | exact bB2 hb3 hB | exact bB1 hB | exact bB1 hb3 | exact bB0)) | exact hB3 | exact hB5 | ((first | exact bB1 hB3 | exact bB0))))));clear hK K;(try simp only [Act.put,pqs]);refine rgN 12 rfl ?_;refine rgC 13 rfl (fun K hK => ?_);go_simp;refine hK.out _ _ ?_ (fun hHeld => ?_);(focus ((try dsimp only);((first | ((first | exact bB2 hb3 hB | exact bB1 hB | exact bB1 hb3 | exact bB0)) | exact hB3 | exact hB5 | ((first | exact bB1 hB3 | exact bB0))))));clear hK K;(try simp only [Act.put,pqs]);refine rgC 14 rfl (fun K hK => ?_);((refine step_append_lies _ rfl _ _ 96 rfl w.heap.size 98 u0 zR 3 40 Tryz.underlying96 hu0 hy0 hy1 hy2 hy3 (by decide) (.slice Ao ys.length co) _ _ rfl (o3.alloc _) ⟨w3.heap.size,0,none⟩ 1 1 [.int .i64 x1,.slice D xQ.length d,.int .i64 xm] rfl rfl (cells_new w3 [.int .i64 x1,.slice D xQ.length d,.int .i64 xm] _) (by simp [Value.oneCell']) (by decide) hm1 hm2 (by simp;omega) _ rfl ?_;intro gN capN w5 hown5 hgrow5 hat5 hlt5;have hB5 : Below w.heap.size w w5:=(hB3.alloc (by omega) _).grown hgrow5 (by simp;omega) (fun r e => (own_blk o3 (show (Value.slice Ao ys.length co).ownBlock = some r from e)).1)));go_simp;refine hK.out _ _ ?_ (fun hHeld => ?_);(focus ((try dsimp only);((first | ((first | exact bB2 hb3 hB | exact bB1 hB | exact bB1 hb3 | exact bB0)) | exact hB3 | exact hB5 | ((first | exact bB1 hB3 | exact bB0))))));clear hK K;(try simp only [Act.put,pqs]);refine rgN 15 rfl ?_;refine wpAnyH_done (Q:=fun e a w => e = Exit.normal ∧ R a w) kR ⟨rfl,hR _ _ ?_⟩ _;clear hR R)
      have T3 : ∀ g cs,Box w3 g 3 cs → Box w5 g 3 cs:=fun g cs h => box_og (h.alloc _) (o3.alloc _) (by decide) hgrow5
      have hC5 : CrW w.heap.size (some ⟨gN,0,none⟩) capN (ys ++ [(((x1,xQ),D,d),xm)]) w5:=by
        refine ⟨by simpa [List.flatMap_append,rcV] using hown5,fun y hy => ?_⟩
        have key : ∀ y : Rc,SlI w3 y.1.2.1 y.1.1.2 → (0 < y.1.1.2.length → ∃ g cs,y.1.2.1 = some ⟨g,0,none⟩ ∧ Box w3 g 3 cs) → SlI w5 y.1.2.1 y.1.1.2 ∧ (0 < y.1.1.2.length → ∃ g cs,y.1.2.1 = some ⟨g,0,none⟩ ∧ Box w5 g 3 cs):=fun y h1 h2 => by
          by_cases hl : 0 < y.1.1.2.length
          · obtain ⟨g,cs,e,hx⟩:=h2 hl
            rw [e] at h1 ⊢
            exact ⟨h1.same hx (T3 g cs hx),fun _ => ⟨g,cs,rfl,T3 g cs hx⟩⟩
          · exact ⟨SlI.none_len hl,fun h => absurd h hl⟩
        rcases List.mem_append.1 hy with hy | hy
        · have hWd:=(HW.out.below (Below.drew (Below.refl _ _))).below hb3
          exact key y (hWd.el y hy).1 (hWd.el y hy).2
        · have e : y = (((x1,xQ),D,d),xm):=by simpa using hy
          subst e
          exact key _ HV3.out (fun hl => by obtain ⟨g,cs,e,_,hx⟩:=HF3.out hl;exact ⟨g,cs,e,hx⟩)
      have HC5:=Lib.hid hC5
      clear hC5 T3
      go_wp2
      go_roundw
      case rel => exact ⟨i + 1,some ⟨gN,0,none⟩,capN,_,by rw [List.length_append];rfl,by go_num,by omega,HC5.out,by unfold Hid;rw [List.map_append,HYS.out];rfl,hB5⟩
      case measure => simp [intOf];omega
    · have e : i = xs.length:=by omega
      subst e
      have hys2:=hys.out
      rw [List.take_length] at hys2
      go_wp2
      go_ret
      exact ⟨Ao,co,ys,rfl,hys2,⟨slv_own (by decide) hW.own,fun y hy => (hW.el y hy).1,fun y hy => by
        have h1 : pmR y ∈ xs.map pmR:=by rw [← hys2];exact List.mem_map_of_mem hy
        obtain ⟨z,hz,e⟩:=List.mem_map.1 h1
        have h2:=HX.out.ln z hz
        have h3 : z.1.1 = y.1.1:=(Prod.mk.inj e).1
        rw [← h3];exact h2⟩,hB⟩
end Go.Proofs.YtpnfgmgoafgcbaaGreat

/-
  The texts SortLay, Between, Marks, Jts in one.
-/
import Derived.Test.YtpnfgmgoafgcbaaGreatShelf
import Derived.Test.YtpnfgmgoafgcbaaGreatA2
import Derived.RangeFuncLeaves
import Derived.Test.YtpnfgmgoafgcbaaGreatA1
import Derived.Deep.DeepCutAuto
import Derived.Deep.RegionHeld3
set_option linter.all false
/-
  The contracts of the shelf's sort at []api.ArmReached: which functions and types of the program they are of. No condition.
-/
set_option linter.unusedVariables false
namespace Go.Proofs
open Go.RowKit Go.Lib Go.Sort
def Tryz.sortAR_ren : Go.Shelf.Ren:=⟨fun | 6 => 119 | 15 => 159 | 14 => 158 | 28 => 182 | 29 => 183 | 20 => 174 | 21 => 175 | 22 => 176 | 23 => 177 | 24 => 178 | 25 => 179 | 26 => 180 | 27 => 181 | 46 => 189 | 47 => 190 | 48 => 191 | 49 => 192 | 50 => 193 | 57 => 202 | n => n,fun | 22 => 96 | 24 => 98 | 25 => 183 | 3 => 3 | 39 => 218 | 0 => 0 | 53 => 239 | 55 => 241 | 4 => 4 | 46 => 233 | 45 => 232 | 50 => 184 | 5 => 5 | 9 => 9 | 66 => 246 | 70 => 250 | 76 => 257 | 77 => 43 | n => n,fun | n => n⟩
theorem Tryz.sortAR : Go.Proofs.SlLaysF0.n6 Tryz.prog Tryz.sortAR_ren:={
  mixed:=by kernel_rfl
  f6:=⟨Tryz.f119.name,by decide,Tryz.func119.trans (congrArg some (by kernel_rfl))⟩
  f14:=⟨Tryz.f158.name,by decide,Tryz.func158.trans (congrArg some (by kernel_rfl))⟩
  f15:=Tryz.func159.trans (congrArg some (by kernel_rfl))
  f20:=⟨Tryz.f174.name,by decide,Tryz.func174.trans (congrArg some (by kernel_rfl))⟩
  f21:=⟨Tryz.f175.name,by decide,Tryz.func175.trans (congrArg some (by kernel_rfl))⟩
  f22:=⟨Tryz.f176.name,by decide,Tryz.func176.trans (congrArg some (by kernel_rfl))⟩
  f23:=⟨Tryz.f177.name,by decide,Tryz.func177.trans (congrArg some (by kernel_rfl))⟩
  f24:=⟨Tryz.f178.name,by decide,Tryz.func178.trans (congrArg some (by kernel_rfl))⟩
  f25:=⟨Tryz.f179.name,by decide,Tryz.func179.trans (congrArg some (by kernel_rfl))⟩
  f26:=⟨Tryz.f180.name,by decide,Tryz.func180.trans (congrArg some (by kernel_rfl))⟩
  f27:=⟨Tryz.f181.name,by decide,Tryz.func181.trans (congrArg some (by kernel_rfl))⟩
  f28:=Tryz.func182.trans (congrArg some (by kernel_rfl))
  f29:=Tryz.func183.trans (congrArg some (by kernel_rfl))
  f46:=⟨Tryz.f189.name,by decide,Tryz.func189.trans (congrArg some (by kernel_rfl))⟩
  f47:=Tryz.func190.trans (congrArg some (by kernel_rfl))
  f48:=Tryz.func191.trans (congrArg some (by kernel_rfl))
  f49:=⟨Tryz.f192.name,by decide,Tryz.func192.trans (congrArg some (by kernel_rfl))⟩
  f50:=⟨Tryz.f193.name,by decide,Tryz.func193.trans (congrArg some (by kernel_rfl))⟩
  f57:=⟨Tryz.f202.name,by decide,Tryz.func202.trans (congrArg some (by kernel_rfl))⟩
  t0:=Tryz.underlying0
  a0:=Tryz.isAgg0
  z0:=Tryz.sizeOf0
  v0:=Tryz.zeroValue0
  t3:=Tryz.underlying3
  a3:=Tryz.isAgg3
  z3:=Tryz.sizeOf3
  v3:=Tryz.zeroValue3
  t4:=Tryz.underlying4
  a4:=Tryz.isAgg4
  z4:=Tryz.sizeOf4
  v4:=Tryz.zeroValue4
  t5:=Tryz.underlying5
  a5:=Tryz.isAgg5
  z5:=Tryz.sizeOf5
  v5:=Tryz.zeroValue5
  t9:=Tryz.underlying9
  a9:=Tryz.isAgg9
  z9:=Tryz.sizeOf9
  v9:=Tryz.zeroValue9
  t22:=Tryz.underlying96
  a22:=Tryz.isAgg96
  z22:=Tryz.sizeOf96
  v22:=Tryz.zeroValue96
  t25:=Tryz.underlying183
  a25:=Tryz.isAgg183
  z25:=Tryz.sizeOf183
  v25:=Tryz.zeroValue183
  t39:=Tryz.underlying218
  a39:=Tryz.isAgg218
  z39:=Tryz.sizeOf218
  v39:=Tryz.zeroValue218
  t45:=Tryz.underlying232
  a45:=Tryz.isAgg232
  z45:=Tryz.sizeOf232
  v45:=Tryz.zeroValue232
  t46:=Tryz.underlying233
  a46:=Tryz.isAgg233
  z46:=Tryz.sizeOf233
  v46:=Tryz.zeroValue233
  t50:=Tryz.underlying184
  a50:=Tryz.isAgg184
  z50:=Tryz.sizeOf184
  v50:=Tryz.zeroValue184
  t53:=Tryz.underlying239
  a53:=Tryz.isAgg239
  z53:=Tryz.sizeOf239
  v53:=Tryz.zeroValue239
  t55:=Tryz.underlying241
  a55:=Tryz.isAgg241
  z55:=Tryz.sizeOf241
  v55:=Tryz.zeroValue241
  t66:=Tryz.underlying246
  a66:=Tryz.isAgg246
  z66:=Tryz.sizeOf246
  v66:=Tryz.zeroValue246
  t70:=Tryz.underlying250
  a70:=Tryz.isAgg250
  z70:=Tryz.sizeOf250
  v70:=Tryz.zeroValue250
  t76:=Tryz.underlying257
  a76:=Tryz.isAgg257
  z76:=Tryz.sizeOf257
  v76:=Tryz.zeroValue257
  t77:=Tryz.underlying43
  a77:=Tryz.isAgg43
  z77:=Tryz.sizeOf43
  v77:=Tryz.zeroValue43 }
end Go.Proofs
/-
  The cells of a line (chapter 6): the iterator between, by its contract.
-/
set_option linter.unusedVariables false
namespace Go.Proofs.YtpnfgmgoafgcbaaGreat
open Go.RowKit Go.Shelf
attribute [local go_sem] Oper.semAt_some
attribute [local go_sem ↓] eql_ce' neq_ce'
set_option maxHeartbeats 400000 in
theorem between_in (F : Fence) (n : Nat) (hF : F.fn 166) (hro : F.round = none) (a b c d : Int) (w : World) :
    CallsIn F n Tryz.prog 166 #[.agg #[.int .i64 a,.int .i64 b],.agg #[.int .i64 c,.int .i64 d]] w fun e w' => e = .returned (.func (.func 187) #[] #[.pointer (some ⟨w.heap.size,0,none⟩),.pointer (some ⟨w.heap.size + 1,0,none⟩)]) ∧ (w.alloc (.cells #[.int .i64 a,.int .i64 b] 22)).alloc (.cells #[.int .i64 c,.int .i64 d] 22) = w':=by
  refine callsIn_of_wp Tryz.func166 rfl hF ?_ hro
  simp only [Tryz.ntmps166,List.size_toArray,List.length_cons,List.length_nil,Nat.reduceAdd,Nat.reduceSub,Array.replicate_succ,Array.replicate_zero,List.push_toArray,List.append_toArray,List.nil_append,List.cons_append]
  gi_wp2
  go_ret
  exact ⟨rfl,rfl⟩
/-- What a body must keep of two blocks. -/
def KpL (ga gb : Nat) (W W' : World) : Prop:=(∀ cs,Box W ga 22 cs → Box W' ga 22 cs) ∧ (∀ cs,Box W gb 22 cs → Box W' gb 22 cs)
/-- How far the cell in a block is from another one. -/
def lft (ga : Nat) (b : Ce) (w : World) : Nat :=
  match w.cell? ⟨ga,0,none⟩,w.cell? ⟨ga,1,none⟩ with
  | some (.int _ x),some (.int _ y) => dst (x,y) b
  | _,_ => 0
theorem lft_box {w : World} {ga : Nat} {x y : Int} {b : Ce} (h : Box w ga 22 #[.int .i64 x,.int .i64 y]) : lft ga b w = dst (x,y) b:=by
  have h0:=h.cell 0
  have h1:=h.cell 1
  simp at h0 h1
  simp [lft,h0,h1]
theorem stp_bd {a b : Ce} {M : Int} (h1 : -M ≤ a.1 ∧ a.1 ≤ M) (h2 : -M ≤ a.2 ∧ a.2 ≤ M) (h3 : -M ≤ b.1 ∧ b.1 ≤ M) (h4 : -M ≤ b.2 ∧ b.2 ≤ M) : (-M ≤ (stp a b).1 ∧ (stp a b).1 ≤ M) ∧ (-M ≤ (stp a b).2 ∧ (stp a b).2 ≤ M):=by
  simp only [stp,cmpI]
  repeat' split
  all_goals omega
theorem cmpI_bd (a b : Int) : -1 ≤ cmpI a b ∧ cmpI a b ≤ 1:=by unfold cmpI;(repeat' split) <;> omega
theorem compare_s (x y : Int) (w : World) : Calls Tryz.prog 161 #[.int .i64 x,.int .i64 y] w fun e w' => e = .returned (.int .i64 (cmpI x y)) ∧ w' = w:=(compare_c x y w).mono fun _ _ ⟨a,b⟩ => ⟨a,b.symm⟩
set_option maxHeartbeats 4000000 in
set_option maxRecDepth 100000 in
theorem between1_seq (n ga gb : Nat) (a b : Ce) (hgg : ga ≠ gb) (hax : a.1 = b.1 ∨ a.2 = b.2) (h1 : -1000 ≤ a.1 ∧ a.1 ≤ 1000) (h2 : -1000 ≤ a.2 ∧ a.2 ≤ 1000) (h3 : -1000 ≤ b.1 ∧ b.1 ≤ 1000) (h4 : -1000 ≤ b.2 ∧ b.2 ≤ 1000)
    (w : World) (hA : Box w ga 22 #[.int .i64 a.1,.int .i64 a.2]) (hB : Box w gb 22 #[.int .i64 b.1,.int .i64 b.2]) :
    SeqG Fence.wide n Tryz.prog 187 #[.pointer (some ⟨ga,0,none⟩),.pointer (some ⟨gb,0,none⟩)] (fun c : Ce => #[.agg #[.int .i64 c.1,.int .i64 c.2]]) (KpL ga gb) (fun pre x _ => pre ++ [x] <+: seg a b) (fun A B => ((∃ cs,Box A ga 22 cs) ∧ A.grownBy B (some ga)) ∧ ∃ cs,Box B ga 22 cs) (fun xs => xs = seg a b) (fun pre => pre <+: seg a b) w:=by
  intro l J Jx W hW hJ hJx hJS hY h0
  obtain ⟨a1,a2⟩:=a
  obtain ⟨c,d⟩:=b
  dsimp only at h1 h2 h3 h4 hA hB
  have hSG:=Lib.hid (rfl : seg (a1,a2) (c,d) = seg (a1,a2) (c,d))
  generalize hsg : seg (a1,a2) (c,d) = R at *
  have HR:=Lib.hid hsg
  clear hsg hSG
  have WA:=hA.below hW hA.lt
  have WB:=hB.below hW hB.lt
  refine callsIn_of_wp Tryz.func187 rfl trivial ?_ rfl
  simp only [Tryz.ntmps187,List.size_toArray,List.length_cons,List.length_nil,Nat.reduceAdd,Nat.reduceSub,Array.replicate_succ,Array.replicate_zero,List.push_toArray,List.append_toArray,List.nil_append,List.cons_append]
  gi_wp2
  gi_loopw [4] (fun _ wr => ∃ (pre : List Ce) (x y : Int),Box wr ga 22 #[.int .i64 x,.int .i64 y] ∧ Box wr gb 22 #[.int .i64 c,.int .i64 d] ∧ (x = c ∨ y = d) ∧ (-1000 ≤ x ∧ x ≤ 1000) ∧ (-1000 ≤ y ∧ y ≤ 1000) ∧ Hid (R = pre ++ seg (x,y) (c,d)) ∧ J pre wr)
    (fun _ wr => lft ga (c,d) wr)
  case atStart => exact ⟨[],a1,a2,WA,WB,hax,h1,h2,HR.out.symm,h0⟩
  case round =>
    obtain ⟨pre,x,y,bA,bB,hxy,hx,hy,hR,hj⟩:=hrel
    have la:=bA.cell 0;have lb:=bA.cell 1;have lc:=bB.cell 0;have ld:=bB.cell 1;have fA:=bA.froz
    simp at la lb lc ld
    have hP : pre ++ [(x,y)] <+: R:=by
      rw [hR.out]
      by_cases e : ((x,y) : Ce) = (c,d)
      · rw [e,seg_self];exact List.prefix_rfl
      · rw [seg_step hxy e];exact ⟨seg (stp (x,y) (c,d)) (c,d),by simp⟩
    obtain ⟨fn,tmps,assign,body,hy',hRI⟩:=hY pre (x,y) wr hj hP
    dsimp only at hy'
    clear hY
    by_cases e : ((x,y) : Ce) = (c,d)
    · have hs : sameC x y c d = true:=by unfold sameC;exact decide_eq_true e
      have hE:=Lib.hid (show R = pre ++ [(x,y)] by rw [hR.out,e,seg_self])
      clear e
      gi_wp2
      refine ⟨fun hh => by simp [Fence.wide] at hh,hRI.mono ?_⟩
      rintro e W3 (⟨rfl,hJ3,hk3,_⟩ | ⟨rfl,hJx3,_⟩)
      · have bA3:=hk3.1 _ bA;have bB3:=hk3.2 _ bB
        have ka:=bA3.cell 0;have kb:=bA3.cell 1;have kc:=bB3.cell 0;have kd:=bB3.cell 1
        simp at ka kb kc kd
        gi_wp2
        go_end0
        exact ⟨⟨_,rfl⟩,.inl ⟨_,hE.out.symm,hJ3⟩⟩
      · gi_wp2
        go_end0
        exact ⟨⟨_,rfl⟩,.inr ⟨_,hP,hJx3⟩⟩
    · have hs : sameC x y c d = false:=by unfold sameC;exact decide_eq_false e
      obtain ⟨hd1,hd2⟩:=dst_step (a:=(x,y)) (b:=(c,d)) hxy e
      have hE:=Lib.hid (show R = (pre ++ [(x,y)]) ++ seg (stp (x,y) (c,d)) (c,d) by rw [hR.out,seg_step hxy e];simp)
      have hD:=Lib.hid hd1
      have sb:=stp_bd (a:=(x,y)) (b:=(c,d)) hx hy h3 h4
      clear e hd1
      gi_wp2
      refine ⟨fun hh => by simp [Fence.wide] at hh,hRI.mono ?_⟩
      rintro e W3 (⟨rfl,hJ3,hk3,_⟩ | ⟨rfl,hJx3,_⟩)
      · have bA3:=hk3.1 _ bA;have bB3:=hk3.2 _ bB
        have ka:=bA3.cell 0;have kb:=bA3.cell 1;have kc:=bB3.cell 0;have kd:=bB3.cell 1;have fA3:=bA3.froz
        simp at ka kb kc kd
        have c1:=cmpI_bd c x;have c2:=cmpI_bd d y
        gi_wp2
        refine wpIn_wide.2 ?_
        (refine still_tail 17 mixed (by kernel_rfl) ?_;simp only [List.take_succ_cons,List.take_zero,List.drop_succ_cons,List.drop_zero];(repeat (with_reducible refine wpStill_step ?_;intro K hK;go_simp;(first | (with_reducible refine hK _ ?_) | (with_reducible refine ⟨_,compare_s _ _ _,hK _ ?_⟩) | fail);clear hK K));with_reducible refine wpStill_nil ?_;change wpList _ _ _ _ _ _)
        go_wp2
        have hg : W3.grownBy ((W3.setCell ⟨ga,0,none⟩ (.int .i64 (x + cmpI c x))).setCell ⟨ga,1,none⟩ (.int .i64 (y + cmpI d y))).drew (some ga) :=
          ⟨rfl,rfl,rfl,by simp,fun k hk hne => by
            have hk' : k ≠ ga:=fun e => hne (by rw [e])
            exact (Below.heap_setCell _ ⟨ga,1,none⟩ _ k hk').trans (Below.heap_setCell _ ⟨ga,0,none⟩ _ k hk')⟩
        have bA4 : Box ((W3.setCell ⟨ga,0,none⟩ (.int .i64 (x + cmpI c x))).setCell ⟨ga,1,none⟩ (.int .i64 (y + cmpI d y))).drew ga 22 #[.int .i64 (x + cmpI c x),.int .i64 (y + cmpI d y)]:=by exact bX0
        have bB4 : Box ((W3.setCell ⟨ga,0,none⟩ (.int .i64 (x + cmpI c x))).setCell ⟨ga,1,none⟩ (.int .i64 (y + cmpI d y))).drew gb 22 #[.int .i64 c,.int .i64 d]:=by
          have hgg' : gb ≠ ga:=fun e => hgg e.symm
          exact bX0
        exact ⟨⟨pre ++ [(x,y)],_,_,bA4,bB4,hd2,sb.1,sb.2,hE.out,hJS _ _ _ ⟨⟨⟨_,bA3⟩,hg⟩,⟨_,bA4⟩⟩ hJ3⟩,by
          rw [lft_box bA4,lft_box bA]
          have:=hD.out
          simp only [stp] at this
          omega⟩
      · gi_wp2
        go_end0
        exact ⟨⟨_,rfl⟩,.inr ⟨_,hP,hJx3⟩⟩
end Go.Proofs.YtpnfgmgoafgcbaaGreat
/-
  Loops that hold ranges over functions: the marks of their deferred calls, at the function's end. No condition beyond these.
-/
set_option linter.unusedVariables false
namespace Go.Proofs.YtpnfgmgoafgcbaaGreat
open Go.RowKit
theorem Box.put {W : World} {b g : Nat} {t : TypeId} {cs : Array Value} (h : Box W g t cs) (hb : g ≠ b) (o : Obj) : Box (W.putObj b o) g t cs:=(World.putObj_heap_other hb).trans h
theorem below_putObj {B g : Nat} {a w : World} (h : Below B a w) (hg : B ≤ g) (o : Obj) : Below B a (w.putObj g o) :=
  ⟨h.os,h.tape,h.output,by simpa [World.putObj] using h.size,fun k hk => (World.putObj_heap_other (by omega)).trans (h.block k hk)⟩
def mk (D : Nat) : Deferred:={ target:=.collected D,args:=#[] }
/-- The blocks that collect the rounds' deferred calls. -/
def MarksOk (B : Nat) (W : World) (ds : List Nat) : Prop:=ds.Nodup ∧ ∀ D ∈ ds,B ≤ D ∧ W.heap[D]? = some (.deferred (some []))
theorem MarksOk.nil (B : Nat) (W : World) : MarksOk B W []:=⟨List.nodup_nil,fun _ h => nomatch h⟩
theorem MarksOk.keeps {B : Nat} {W W' : World} {ds : List Nat} (h : MarksOk B W ds) (hk : KeepsFrom B W W') : MarksOk B W' ds:=⟨h.1,fun D hD => ⟨(h.2 D hD).1,hk.same D _ (h.2 D hD).1 (h.2 D hD).2 rfl⟩⟩
theorem MarksOk.lt {B : Nat} {W : World} {ds : List Nat} (h : MarksOk B W ds) : ∀ D ∈ ds,D < W.heap.size:=fun D hD => (Array.getElem?_eq_some_iff.1 (h.2 D hD).2).1
theorem MarksOk.cons {B : Nat} {W : World} {ds : List Nat} {D : Nat} (h : MarksOk B W ds) (h0 : B ≤ D) (hn : D ∉ ds) (hD : W.heap[D]? = some (.deferred (some []))) : MarksOk B W (D :: ds) :=
  ⟨List.nodup_cons.2 ⟨hn,h.1⟩,fun E hE => by
    rcases List.mem_cons.1 hE with rfl | hE
    · exact ⟨h0,hD⟩
    · exact h.2 E hE⟩
/-- What grows, and turns a block that is none of the marks', keeps the marks. -/
theorem MarksOk.grown {B : Nat} {W W' : World} {ds : List Nat} {row : Option Nat} (h : MarksOk B W ds) (hg : W.grownBy W' row) (hr : ∀ D ∈ ds,row ≠ some D) : MarksOk B W' ds :=
  ⟨h.1,fun D hD => ⟨(h.2 D hD).1,(hg.block D (h.lt D hD) (fun e => hr D hD e.symm)).trans (h.2 D hD).2⟩⟩
/-- The marks are taken up at the function's end: what the turn of their blocks keeps holds behind it. -/
theorem leaves_marks {n : Nat} {P : Program} {fn : Func} {tmps : Array Value} {R : Ending → World → Prop} {B : Nat} {G : World → Prop} (hG : ∀ (W : World) (D : Nat),B ≤ D → W.heap[D]? = some (.deferred (some [])) → G W → G (W.putObj D (.deferred none))) :
    ∀ (ds : List Nat) (W : World),MarksOk B W ds → G W → (∀ W',G W' → ∃ v,(results fn tmps).run P W' = .ok v W' ∧ R (.returned v) W') → LeavesInM Fence.wide n P fn tmps R (ds.map mk) .returning W
  | [],W,_,g,h => h W g
  | D :: ds,W,hM,g,h => by
    have hD:=(hM.2 D (by simp)).2
    have hnd:=List.nodup_cons.1 hM.1
    refine ⟨by simp,.inl ⟨D,_,rfl,run_takeDeferred hD, ?_⟩⟩
    refine leaves_marks hG ds _ ⟨hnd.2,fun E hE => ⟨(hM.2 E (by simp [hE])).1, ?_⟩⟩ (hG _ D (hM.2 D (by simp)).1 hD g) h
    rw [World.putObj_heap_other (by rintro rfl;exact hnd.1 hE)]
    exact (hM.2 E (by simp [hE])).2
end Go.Proofs.YtpnfgmgoafgcbaaGreat
/-
  The walk of joints (chapter 6).
-/
set_option linter.unusedVariables false
namespace Go.Proofs.YtpnfgmgoafgcbaaGreat
open Go.RowKit Go.Shelf
theorem jtsF_mod : ∀ (L : List Lk) (Q : List Int) (x y t u : Int),t % 4 = u % 4 → jtsF x y t L Q = jtsF x y u L Q
  | [],_,_,_,_,_,_ => by simp [jtsF]
  | l :: L,[],_,_,_,_,_ => by simp [jtsF]
  | l :: L,q :: Q,x,y,t,u,h => by
    have h' : (t + q) % 4 = (u + q) % 4:=by omega
    have e1 : dirX (t + q) = dirX (u + q):=by unfold dirX;rw [h']
    have e2 : dirY (t + q) = dirY (u + q):=by unfold dirY;rw [h']
    unfold jtsF
    rw [e1,e2,jtsF_mod L Q _ _ (t + q) (u + q) h']
theorem jtsF_next (n a b q x y T : Int) (L : List Lk) (Q : List Int) : jtsF x y T ((n,a,b) :: L) (q :: Q) = (x + n * dirX (T + (q + 4)),y + n * dirY (T + (q + 4))) :: jtsF (x + n * dirX (T + (q + 4))) (y + n * dirY (T + (q + 4))) (T + (q + 4)) L Q:=by
  have e : (T + (q + 4)) % 4 = (T + q) % 4:=by omega
  have e1 : dirX (T + (q + 4)) = dirX (T + q):=by unfold dirX;rw [e]
  have e2 : dirY (T + (q + 4)) = dirY (T + q):=by unfold dirY;rw [e]
  rw [e1,e2,jtsF_mod L Q _ _ (T + (q + 4)) (T + q) e]
  rfl
theorem dir_bd (t : Int) : -1 ≤ dirX t ∧ dirX t ≤ 1 ∧ -1 ≤ dirY t ∧ dirY t ≤ 1:=by
  unfold dirX dirY
  split <;> (split <;> omega)
theorem dir_cells {w : World} {g : Nat} {T : Int} (h : Box w g 212 #[.int .i64 1,.int .i64 0,.int .i64 0,.int .i64 1,.int .i64 (-1),.int .i64 0,.int .i64 0,.int .i64 (-1)]) (hT : 0 ≤ T) : w.cell? ⟨g,(T % 4).toNat * 2,none⟩ = some (.int .i64 (dirX T)) ∧ w.cell? ⟨g,(T % 4).toNat * 2 + 1,none⟩ = some (.int .i64 (dirY T)):=by
  have h4 : T % 4 = 0 ∨ T % 4 = 1 ∨ T % 4 = 2 ∨ T % 4 = 3:=by omega
  rw [h.cell,h.cell]
  unfold dirX dirY
  rcases h4 with e | e | e | e <;> rw [e] <;> simp
/-- What joints hands back. -/
def CesEnd (l : List Ce) (w : World) (e : Ending) (w' : World) : Prop:=∃ g cap,e = .returned (.slice (some ⟨g,0,none⟩) l.length cap) ∧ w.heap.size ≤ g ∧ g < w'.heap.size ∧ SlV w' (some ⟨g,0,none⟩) (l.flatMap ceV) ∧ (∃ cs,Box w' g 22 cs) ∧ Below w.heap.size w w'
set_option maxHeartbeats 4000000 in
set_option maxRecDepth 100000 in
theorem joints_c (bx bY sl fx fX fy fY ps : Int) (L : List Lk) (B : List Bx) (Q : List Int) (AL AB AQ : Option Addr) (cL cB cQ : Nat) (w : World) (hQ : Q.length = L.length) (hL : L.length ≤ 3)
    (hb1 : -1000 ≤ bx ∧ bx ≤ 1000) (hb2 : -1000 ≤ bY ∧ bY ≤ 1000) (hb3 : -1000 ≤ ps ∧ ps ≤ 1000) (hl : ∀ l ∈ L,1 ≤ l.1 ∧ l.1 ≤ 4) (hq : ∀ q ∈ Q,-2 ≤ q ∧ q ≤ 2) (hs1 : SlV w AL (L.flatMap lkV)) (hs3 : SlI w AQ Q) :
    Calls Tryz.prog 110 #[.agg #[.int .i64 bx,.int .i64 bY,.int .i64 sl,.slice AL L.length cL,.int .i64 fx,.int .i64 fX,.int .i64 fy,.int .i64 fY,.slice AB B.length cB,.int .i64 ps,.slice AQ Q.length cQ]] w (CesEnd (jts (⟨bx,bY,sl,L,(fx,fX,fy,fY),B⟩ : Sc) (ps,Q)) w):=by
  have HP:=Lib.hid (show jts (⟨bx,bY,sl,L,(fx,fX,fy,fY),B⟩ : Sc) (ps,Q) = (bx + ps,bY) :: jtsF (bx + ps) bY 0 L Q from rfl)
  have HN:=Lib.hid (show (jts (⟨bx,bY,sl,L,(fx,fX,fy,fY),B⟩ : Sc) (ps,Q)).length = Q.length + 1 by rw [jts_len (s:=(⟨bx,bY,sl,L,(fx,fX,fy,fY),B⟩ : Sc)) (p:=(ps,Q)) hQ,hQ])
  generalize jts (⟨bx,bY,sl,L,(fx,fX,fy,fY),B⟩ : Sc) (ps,Q) = R at *
  have HS:=Lib.hid hs1
  have HQ:=Lib.hid hs3
  have hqL:=Lib.hid hQ
  have hQ3 : Q.length ≤ 3:=by omega
  have HL:=Lib.hid hl
  have HqQ:=Lib.hid hq
  clear hs1 hs3 hQ hl hq
  obtain ⟨j0,zC,hj0,hy0,hy1,hy2,hy3⟩:=infoOk_parts infoC
  go_enter Tryz.func110,Tryz.ntmps110
  go_wp2
  obtain ⟨W5,hW5⟩ : ∃ W5 : World,W5 = (((w.alloc (.cells #[.int .i64 bx,.int .i64 bY,.int .i64 sl,.slice AL L.length cL,.int .i64 fx,.int .i64 fX,.int .i64 fy,.int .i64 fY,.slice AB B.length cB,.int .i64 ps,.slice AQ Q.length cQ] 135)).alloc (.cells #[.int .i64 (bx + ps),.int .i64 bY] 22)).alloc (.cells #[.int .i64 (bx + ps),.int .i64 bY] 22)).alloc (.cells #[.int .i64 1,.int .i64 0,.int .i64 0,.int .i64 1,.int .i64 (-1),.int .i64 0,.int .i64 0,.int .i64 (-1)] 212):=⟨_,rfl⟩
  have a0 : Box W5 w.heap.size 135 #[.int .i64 bx,.int .i64 bY,.int .i64 sl,.slice AL L.length cL,.int .i64 fx,.int .i64 fX,.int .i64 fy,.int .i64 fY,.slice AB B.length cB,.int .i64 ps,.slice AQ Q.length cQ]:=by rw [hW5];exact bX0
  have a1 : Box W5 (w.heap.size + 1) 22 #[.int .i64 (bx + ps),.int .i64 bY]:=by rw [hW5];exact bX0
  have a3 : Box W5 (w.heap.size + 1 + 1 + 1) 212 #[.int .i64 1,.int .i64 0,.int .i64 0,.int .i64 1,.int .i64 (-1),.int .i64 0,.int .i64 0,.int .i64 (-1)]:=by rw [hW5];exact bX0
  have a2 : W5.ownsRow w.heap.size 22 2 (.slice (some ⟨w.heap.size + 1 + 1,0,none⟩) 1 1) 1 ([(bx + ps,bY)].flatMap ceV):=by
    rw [hW5]
    refine World.ownsRow.alloc ?_ _
    have:=World.ownsRow_lit (base:=w.heap.size) (e:=22) (size:=2) ((w.alloc (.cells #[.int .i64 bx,.int .i64 bY,.int .i64 sl,.slice AL L.length cL,.int .i64 fx,.int .i64 fX,.int .i64 fy,.int .i64 fY,.slice AB B.length cB,.int .i64 ps,.slice AQ Q.length cQ] 135)).alloc (.cells #[.int .i64 (bx + ps),.int .i64 bY] 22)) #[.int .i64 (bx + ps),.int .i64 bY] 1 (by simp;omega) (by decide) rfl
    simpa [ceV] using this
  have hB0 : Below w.heap.size w W5:=by rw [hW5];exact bB0
  rw [← hW5]
  clear hW5
  have hz0 : w.heap.size + 1 + 1 + 1 < W5.heap.size:=a3.lt
  go_loopw [4,6,32] (fun v t i wr => ∃ (k : Nat) (x y T : Int) (D : List Ce) (g cap : Nat),k ≤ Q.length ∧ i = .int .i64 k ∧ t = .int .i64 T ∧ v = .slice (some ⟨g,0,none⟩) (k + 1) cap ∧ D.length = k + 1 ∧ Hid (R = D ++ jtsF x y T (L.drop k) (Q.drop k)) ∧ 0 ≤ T ∧ T ≤ 6 * k ∧ (-2000 - 4 * (k : Int) ≤ x ∧ x ≤ 2000 + 4 * (k : Int)) ∧ (-1000 - 4 * (k : Int) ≤ y ∧ y ≤ 1000 + 4 * (k : Int)) ∧
    wr.ownsRow w.heap.size 22 2 (.slice (some ⟨g,0,none⟩) (k + 1) cap) (k + 1) (D.flatMap ceV) ∧ g ≠ w.heap.size ∧ g ≠ w.heap.size + 1 ∧ g ≠ w.heap.size + 1 + 1 + 1 ∧ Box wr w.heap.size 135 #[.int .i64 bx,.int .i64 bY,.int .i64 sl,.slice AL L.length cL,.int .i64 fx,.int .i64 fX,.int .i64 fy,.int .i64 fY,.slice AB B.length cB,.int .i64 ps,.slice AQ Q.length cQ] ∧ Box wr (w.heap.size + 1) 22 #[.int .i64 x,.int .i64 y] ∧ Box wr (w.heap.size + 1 + 1 + 1) 212 #[.int .i64 1,.int .i64 0,.int .i64 0,.int .i64 1,.int .i64 (-1),.int .i64 0,.int .i64 0,.int .i64 (-1)] ∧ Below w.heap.size w wr) (fun _ _ i _ => Q.length - (intOf i).toNat)
  case atStart => exact ⟨0,bx + ps,bY,0,[(bx + ps,bY)],w.heap.size + 1 + 1,1,Nat.zero_le _,rfl,rfl,rfl,rfl,by rw [HP.out];rfl,by omega,by omega,by omega,by omega,a2,by omega,by omega,by omega,a0,a1,a3,hB0⟩
  case round =>
    obtain ⟨k,x,y,T,D,g,cap,hk,rfl,rfl,rfl,hD,hf,hT0,hT1,hx,hy,own,n0,n1,n3,b0,b1,b3,hB⟩:=hrel
    clear a0 a1 a2 a3 hB0
    by_cases hlt : k < Q.length
    · have hkL : k < L.length:=by have:=hqL.out;omega
      obtain ⟨b,off,rfl,hb,l0,_,_⟩:=lk_cells (HS.out.below hB) (List.getElem?_eq_getElem hkL)
      obtain ⟨b',off',rfl,hb',c0⟩:=(HQ.out.below hB) k Q[k] (List.getElem?_eq_getElem hlt)
      have ln:=HL.out _ (List.getElem_mem hkL)
      have qn:=HqQ.out _ (List.getElem_mem hlt)
      have HD:=Lib.hid (List.drop_eq_getElem_cons hkL)
      have HE:=Lib.hid (List.drop_eq_getElem_cons hlt)
      generalize L[k] = ev at *
      generalize Q[k] = q at *
      obtain ⟨n,lo,hi⟩:=ev
      dsimp only at l0 ln
      have FE:=Lib.hid (jtsF_next n lo hi q x y T (L.drop (k + 1)) (Q.drop (k + 1)))
      have q3:=b0.cell 3;have x0:=b1.cell 0;have x1:=b1.cell 1;have fx1:=b1.froz
      simp at q3 x0 x1
      obtain ⟨d0,d1⟩:=dir_cells b3 (show 0 ≤ T + (q + 4) by omega)
      have db:=dir_bd (T + (q + 4))
      have m1:=Int.tmod_eq_emod_of_nonneg (a:=T + (q + 4)) (b:=4) (by omega)
      have m2 : 0 ≤ (T + (q + 4)) % 4 ∧ (T + (q + 4)) % 4 < 4:=by omega
      have m3 : k < L.length:=hkL
      have m4 : (k : Int) < (L.length : Int):=by omega
      go_upto_region 10 with fail
      go_cut [9,10] (fun p v wx => p = .pointer (some ⟨wr.heap.size,0,none⟩) ∧ v = .int .i64 n ∧ Box wx wr.heap.size 22 #[.int .i64 (dirX (T + (q + 4))),.int .i64 (dirY (T + (q + 4)))] ∧ Below wr.heap.size wr wx)
      case first =>
        ((refine wp_region_held_drew (S:=(fun w' => w'.cell? ⟨w.heap.size,3,none⟩ = some (.slice (some ⟨b,off,none⟩) L.length cL) ∧ w'.cell? ⟨b,off + k * 3,none⟩ = some (.int .i64 n) ∧ w'.cell? ⟨w.heap.size + 1 + 1 + 1,((T + (q + 4)) % 4).toNat * 2,none⟩ = some (.int .i64 (dirX (T + (q + 4)))) ∧ w'.cell? ⟨w.heap.size + 1 + 1 + 1,((T + (q + 4)) % 4).toNat * 2 + 1,none⟩ = some (.int .i64 (dirY (T + (q + 4)))))) kR ?_ (fun hHeld => ?_);(exact kpA);refine rgN 0 rfl ?_;refine rgN 1 rfl ?_;refine rgN 2 rfl ?_;refine rgN 3 rfl ?_;refine rgN 4 rfl ?_;refine rgN 5 rfl ?_;refine rgN 6 rfl ?_;refine rgN 7 rfl ?_;refine rgN 8 rfl ?_;refine rgN 9 rfl ?_;refine rgN 10 rfl ?_;refine rgC 11 rfl (fun K hK => ?_);go_simp;refine hK.out _ _ ?_ (fun hHeld => ?_);(exact kpA);clear hK K;(try simp only [Act.put,pqs]);refine rgC 12 rfl (fun K hK => ?_);go_simp;refine hK.out _ _ ?_ (fun hHeld => ?_);(exact kpA);clear hK K;(try simp only [Act.put,pqs]);refine rgN 13 rfl ?_;refine wpAnyH_done kR ?_ _))
        go_wp2_with fail
        go_meet
        exact ⟨rfl,rfl,by exact bX0,by exact bB0⟩
      case rest =>
        obtain ⟨rfl,rfl,b9,hBx⟩:=hcut
        have hz1:=hBx.size
        have lg:=(own.lt g (by simp [Value.ownBlock])).2
        have l0':=b0.lt;have l1':=b1.lt;have l3':=b3.lt
        have B0:=b0.below hBx b0.lt;have B1:=b1.below hBx b1.lt;have B3:=b3.below hBx b3.lt
        have own5:=own_below own hBx
        clear d0 d1 q3 x0 x1 fx1 b0 b1 b3 own l0 c0 m1 m2
        generalize dirX (T + (q + 4)) = dx at *
        generalize dirY (T + (q + 4)) = dy at *
        have pb : (-4 ≤ n * dx ∧ n * dx ≤ 4) ∧ (-4 ≤ n * dy ∧ n * dy ≤ 4):=by
          have h1 : dx = -1 ∨ dx = 0 ∨ dx = 1:=by omega
          have h2 : dy = -1 ∨ dy = 0 ∨ dy = 1:=by omega
          rcases h1 with rfl | rfl | rfl <;> rcases h2 with rfl | rfl | rfl <;> omega
        have x0:=B1.cell 0;have x1:=B1.cell 1;have fx1:=B1.froz
        have y0:=b9.cell 0;have y1:=b9.cell 1
        simp at x0 x1 y0 y1
        have l9:=b9.lt
        have hne : w.heap.size + 1 ≠ wr.heap.size:=by omega
        have hm1 : k + 1 + 1 ≤ maxLen:=by unfold maxLen;omega
        have hm2 : (k + 1 + 1) * 16 ≤ 140737488355328:=by omega
        have hbW : w.heap.size ≤ wc.heap.size:=by have:=hB.size;omega
        have W5:=Lib.hid (rfl : (wc.setCell ⟨w.heap.size + 1,0,none⟩ (.int .i64 (x + n * dx))).setCell ⟨w.heap.size + 1,1,none⟩ (.int .i64 (y + n * dy)) = (wc.setCell ⟨w.heap.size + 1,0,none⟩ (.int .i64 (x + n * dx))).setCell ⟨w.heap.size + 1,1,none⟩ (.int .i64 (y + n * dy)))
        have own6:=own_far (own_far own5 (p:=⟨w.heap.size + 1,0,none⟩) (u:=.int .i64 (x + n * dx)) n1) (p:=⟨w.heap.size + 1,1,none⟩) (u:=.int .i64 (y + n * dy)) n1
        go_wp2_with (at_builtin;go_must (refine wpList_append_own _ rfl _ _ 54 rfl w.heap.size 22 j0 zC 2 16 Tryz.underlying54 hj0 hy0 hy1 hy2 hy3 (by decide) _ _ _ rfl (own6.alloc _) ⟨wc.heap.size,0,none⟩ 1 1 [.int .i64 (x + n * dx),.int .i64 (y + n * dy)] rfl rfl (by simpa using cell_two_new ((wc.setCell ⟨w.heap.size + 1,0,none⟩ (.int .i64 (x + n * dx))).setCell ⟨w.heap.size + 1,1,none⟩ (.int .i64 (y + n * dy))) (.int .i64 (x + n * dx)) (.int .i64 (y + n * dy)) 22) (by simp [Value.oneCell']) hm1 hm2 (by simp;omega) ?_);intro v' wx hown1 hgrow1 _)
        have V0 : Box (((wc.setCell ⟨w.heap.size + 1,0,none⟩ (.int .i64 (x + n * dx))).setCell ⟨w.heap.size + 1,1,none⟩ (.int .i64 (y + n * dy))).alloc (.cells #[.int .i64 (x + n * dx),.int .i64 (y + n * dy)] 22)) w.heap.size 135 #[.int .i64 bx,.int .i64 bY,.int .i64 sl,.slice (some ⟨b,off,none⟩) L.length cL,.int .i64 fx,.int .i64 fX,.int .i64 fy,.int .i64 fY,.slice AB B.length cB,.int .i64 ps,.slice (some ⟨b',off',none⟩) Q.length cQ]:=by exact bX0
        have V1 : Box (((wc.setCell ⟨w.heap.size + 1,0,none⟩ (.int .i64 (x + n * dx))).setCell ⟨w.heap.size + 1,1,none⟩ (.int .i64 (y + n * dy))).alloc (.cells #[.int .i64 (x + n * dx),.int .i64 (y + n * dy)] 22)) (w.heap.size + 1) 22 #[.int .i64 (x + n * dx),.int .i64 (y + n * dy)]:=by exact bX0
        have V3 : Box (((wc.setCell ⟨w.heap.size + 1,0,none⟩ (.int .i64 (x + n * dx))).setCell ⟨w.heap.size + 1,1,none⟩ (.int .i64 (y + n * dy))).alloc (.cells #[.int .i64 (x + n * dx),.int .i64 (y + n * dy)] 22)) (w.heap.size + 1 + 1 + 1) 212 #[.int .i64 1,.int .i64 0,.int .i64 0,.int .i64 1,.int .i64 (-1),.int .i64 0,.int .i64 0,.int .i64 (-1)]:=by exact bX0
        have VB : Below w.heap.size w (((wc.setCell ⟨w.heap.size + 1,0,none⟩ (.int .i64 (x + n * dx))).setCell ⟨w.heap.size + 1,1,none⟩ (.int .i64 (y + n * dy))).alloc (.cells #[.int .i64 (x + n * dx),.int .i64 (y + n * dy)] 22)):=by exact bB2 hBx hB
        have XB:=VB.grown hgrow1 (by simp;omega) (fun r e => by have e : some g = some r:=e;have:=(own5.lt g (by simp [Value.ownBlock])).1;have:=Option.some.inj e;omega)
        have X0:=V0.grow hgrow1 n0
        have X1:=V1.grow hgrow1 n1
        have X3:=V3.grow hgrow1 n3
        obtain ⟨g',cap',rfl,_,_⟩:=own_pos hown1 (by omega) (by decide)
        have N0:=own_apart hown1 X0 (.inl (by decide))
        have N1:=own_apart hown1 X1 (.inr (by show 2 < _;omega))
        have N3:=own_apart hown1 X3 (.inl (by decide))
        go_wp2_with fail
        go_roundw
        case rel => exact ⟨k + 1,x + n * dx,y + n * dy,T + (q + 4),D ++ [(x + n * dx,y + n * dy)],g',cap',by omega,by go_num,rfl,rfl,by simp;omega,by unfold Hid;rw [hf.out,HD.out,HE.out,FE.out];simp,by omega,by omega,by omega,by omega,by simpa [ceV] using hown1,N0,N1,N3,X0,X1,X3,XB⟩
        case measure => simp [intOf];omega
    · go_wp2
      go_ret
      have e : Q.drop k = []:=List.drop_eq_nil_of_le (by omega)
      have hR : R = D:=by rw [hf.out,e];cases L.drop k <;> simp [jtsF]
      subst hR
      rw [← hD] at own
      have hl:=own.lt g (by simp [Value.ownBlock])
      refine ⟨g,cap,congrArg Ending.returned (show Value.slice (some ⟨g,0,none⟩) (k + 1) cap = .slice (some ⟨g,0,none⟩) R.length cap by rw [hD]),hl.1,hl.2,slv_own (by decide) own,own_some own,hB⟩
end Go.Proofs.YtpnfgmgoafgcbaaGreat

/-
  The walk of isFree (chapter 6).
-/
import Derived.Test.YtpnfgmgoafgcbaaGreatA4
set_option linter.all false
set_option linter.unusedVariables false
namespace Go.Proofs.YtpnfgmgoafgcbaaGreat
open Go.RowKit Go.Shelf
attribute [local go_sem] Oper.semAt_some
attribute [local go_sem ↓] eql_ce' neq_ce'
theorem res_b {P : Program} {fn : Func} {p : Tmp} {ty : TypeId} {tmps : Array Value} {w : World} {g : Nat} {u : Value} {d : TypeDesc} (h : fn.results = #[.cell p ty]) (hp : tmps.getD p undef = .pointer (some ⟨g,0,none⟩))
    (hg : w.cell? ⟨g,0,none⟩ = some u) (hu : P.underlying ty = some d) (hd : (match d with | .struct _ | .array _ _ => true | _ => false) = false) : (results fn tmps).run P w = .ok u w:=by
  have hp' : tmps[p]?.getD undef = .pointer (some ⟨g,0,none⟩):=by simpa using hp
  simp [results,h,hp',asAddr,run_loadVar_one hu hd hg]
theorem below_kpc {n0 : Nat} {W W' : World} (h : Below W.heap.size W W') : KpC n0 W W':=fun k cs t _ hb => hb.below h hb.lt
theorem below_kf {B : Nat} {W W' : World} (h : Below W.heap.size W W') : KeepsFrom B W W':=⟨h.size,fun k o _ hk _ => (h.block k (Array.getElem?_eq_some_iff.1 hk).1).trans hk⟩
theorem free_cons {tot pre : List Ce} {x : Ce} {p : Ce → Bool} (h : pre ++ [x] <+: tot) (hp : p x = false) : tot.all p = false:=by
  obtain ⟨r,hr⟩:=h
  rw [← hr];simp [hp]
set_option maxHeartbeats 4000000 in
set_option maxRecDepth 100000 in
theorem isFree_c (bx bY sl fx fX fy fY ps : Int) (L : List Lk) (B : List Bx) (Q : List Int) (AL AB AQ : Option Addr) (cL cB cQ : Nat) (w : World) (hQ : Q.length = L.length) (hL : L.length ≤ 3) (hn : B.length ≤ 9223372036854775807)
    (hb1 : -100 ≤ bx ∧ bx ≤ 100) (hb2 : -100 ≤ bY ∧ bY ≤ 100) (hb3 : -100 ≤ ps ∧ ps ≤ 100) (hl : ∀ l ∈ L,1 ≤ l.1 ∧ l.1 ≤ 4) (hq : ∀ q ∈ Q,-2 ≤ q ∧ q ≤ 2) (hs1 : SlV w AL (L.flatMap lkV)) (hs2 : SlV w AB (B.flatMap bxV)) (hs3 : SlI w AQ Q) :
    Calls Tryz.prog 107 #[.agg #[.int .i64 bx,.int .i64 bY,.int .i64 sl,.slice AL L.length cL,.int .i64 fx,.int .i64 fX,.int .i64 fy,.int .i64 fY,.slice AB B.length cB,.int .i64 ps,.slice AQ Q.length cQ]] w fun e w' => e = .returned (.bool (freeP (⟨bx,bY,sl,L,(fx,fX,fy,fY),B⟩ : Sc) (ps,Q))) ∧ Below w.heap.size w w':=by
  have HF:=Lib.hid (show freeP (⟨bx,bY,sl,L,(fx,fX,fy,fY),B⟩ : Sc) (ps,Q) = (clP (⟨bx,bY,sl,L,(fx,fX,fy,fY),B⟩ : Sc) (ps,Q) 0).all fun c => !tkn (⟨bx,bY,sl,L,(fx,fX,fy,fY),B⟩ : Sc) (onlyP c) from rfl)
  have HS:=Lib.hid (fun W (h : Below w.heap.size w W) => fun hA hF => cells1_seq (6 - 1) (w.heap.size + 1 + 1) 0 bx bY sl fx fX fy fY ps L B Q AL AB AQ cL cB cQ W (by omega) hQ hL (by omega) hb1 hb2 hb3 hl hq (hs1.below h) (hs3.below h) hA hF)
  have HT:=Lib.hid (fun (c : Ce) W (h : Below w.heap.size w W) => isTaken_c bx bY sl fx fX fy fY ps c.1 c.1 c.2 c.2 L B Q.length AL AB AQ cL cB cQ W hn (hs2.below h))
  have HO:=Lib.hid (fun (c : Ce) => show onlyP c = (c.1,c.1,c.2,c.2) from rfl)
  have hTK:=Lib.hid (fun (c : Ce) => show tkn (⟨bx,bY,sl,L,(fx,fX,fy,fY),B⟩ : Sc) (onlyP c) = tkn (⟨bx,bY,sl,L,(fx,fX,fy,fY),B⟩ : Sc) (c.1,c.1,c.2,c.2) from rfl)
  generalize freeP (⟨bx,bY,sl,L,(fx,fX,fy,fY),B⟩ : Sc) (ps,Q) = R at *
  generalize clP (⟨bx,bY,sl,L,(fx,fX,fy,fY),B⟩ : Sc) (ps,Q) 0 = tot at *
  clear hQ hs1 hs2 hs3
  refine callsIn_wide.1 (callsIn_of_wp_marks (n:=6) Tryz.func107 rfl trivial ?_ rfl)
  simp only [Tryz.ntmps107,List.size_toArray,List.length_cons,List.length_nil,Nat.reduceAdd,Nat.reduceSub,Array.replicate_succ,Array.replicate_zero,List.push_toArray,List.append_toArray,List.nil_append,List.cons_append]
  gi_wp2_with (refine ⟨trivial, ?_⟩;gi_at_call 130;refine (cells_in Fence.wide _ trivial rfl _ _ _ _ _ _ _ _ _ _ _ _ _ _ _ _ _ _ _).mono ?_;rintro e w' ⟨rfl,rfl⟩)
  obtain ⟨W1,hW1⟩ : ∃ W1 : World,W1 = (((w.alloc (.cells #[.int .i64 bx,.int .i64 bY,.int .i64 sl,.slice AL L.length cL,.int .i64 fx,.int .i64 fX,.int .i64 fy,.int .i64 fY,.slice AB B.length cB,.int .i64 ps,.slice AQ Q.length cQ] 135)).alloc (.cells #[.bool false] 4)).alloc (.cells #[.int .i64 bx,.int .i64 bY,.int .i64 sl,.slice AL L.length cL,.int .i64 fx,.int .i64 fX,.int .i64 fy,.int .i64 fY,.slice AB B.length cB,.int .i64 ps,.slice AQ Q.length cQ] 135)).alloc (.cells #[.int .i64 0] 3):=⟨_,rfl⟩
  have b0 : Box W1 w.heap.size 135 #[.int .i64 bx,.int .i64 bY,.int .i64 sl,.slice AL L.length cL,.int .i64 fx,.int .i64 fX,.int .i64 fy,.int .i64 fY,.slice AB B.length cB,.int .i64 ps,.slice AQ Q.length cQ]:=by rw [hW1];exact bX0
  have b1 : Box W1 (w.heap.size + 1) 4 #[.bool false]:=by rw [hW1];exact bX0
  have b2 : Box W1 (w.heap.size + 1 + 1) 135 #[.int .i64 bx,.int .i64 bY,.int .i64 sl,.slice AL L.length cL,.int .i64 fx,.int .i64 fX,.int .i64 fy,.int .i64 fY,.slice AB B.length cB,.int .i64 ps,.slice AQ Q.length cQ]:=by rw [hW1];exact bX0
  have b3 : Box W1 (w.heap.size + 1 + 1 + 1) 3 #[.int .i64 ((0 : Nat) : Int)]:=by rw [hW1];exact bX0
  have hB0 : Below w.heap.size w W1:=by rw [hW1];exact bB0
  have hz1:=b3.lt
  rw [← hW1]
  clear hW1
  have hseq:=HS.out W1 hB0 b2 b3
  refine wpIn_rangeFunc_G (gf:=165) (lb:=#[.pointer (some ⟨w.heap.size + 1 + 1,0,none⟩),.pointer (some ⟨w.heap.size + 1 + 1 + 1,0,none⟩)]) rfl (by omega) rfl trivial (enters_of Tryz.func165 (by kernel_rfl) rfl) hseq ?Sk ?Kt ?Kb (Below.refl _ _) (fun _ => rfl)
    (fun pre W => Hid ((pre.all fun c => !tkn (⟨bx,bY,sl,L,(fx,fX,fy,fY),B⟩ : Sc) (onlyP c)) = true) ∧ Box W w.heap.size 135 #[.int .i64 bx,.int .i64 bY,.int .i64 sl,.slice AL L.length cL,.int .i64 fx,.int .i64 fX,.int .i64 fy,.int .i64 fY,.slice AB B.length cB,.int .i64 ps,.slice AQ Q.length cQ] ∧ Box W (w.heap.size + 1) 4 #[.bool false] ∧ Below w.heap.size w W ∧ W1.heap.size ≤ W.heap.size)
    (fun c pre W => c = .ret ∧ Hid (R = false) ∧ Box W (w.heap.size + 1) 4 #[.bool false] ∧ Below w.heap.size w W) ?I ?Ix ?IS ⟨rfl,b0,b1,hB0,Nat.le_refl _⟩
    (fun pre x a' W => pre ++ [x] <+: tot ∧ ∃ Bx,W1.heap.size ≤ Bx ∧ Box W Bx 22 #[.int .i64 x.1,.int .i64 x.2] ∧ a' = ⟨#[Value.agg #[.int .i64 bx,.int .i64 bY,.int .i64 sl,.slice AL L.length cL,.int .i64 fx,.int .i64 fX,.int .i64 fy,.int .i64 fY,.slice AB B.length cB,.int .i64 ps,.slice AQ Q.length cQ],Value.pointer (some ⟨w.heap.size,0,none⟩),Value.pointer (some ⟨w.heap.size + 1,0,none⟩),Value.pointer (some ⟨Bx,0,none⟩),Value.agg #[.int .i64 bx,.int .i64 bY,.int .i64 sl,.slice AL L.length cL,.int .i64 fx,.int .i64 fX,.int .i64 fy,.int .i64 fY,.slice AB B.length cB,.int .i64 ps,.slice AQ Q.length cQ],Value.func (.func 165) #[] #[.pointer (some ⟨w.heap.size + 1 + 1,0,none⟩),.pointer (some ⟨w.heap.size + 1 + 1 + 1,0,none⟩)],Value.agg #[.int .i64 x.1,.int .i64 x.2],undef,undef,undef,undef],[]⟩) ?Ax ?assign ?body ?done ?stop
  case Sk =>
    rintro A B' k o ⟨g,hg0,⟨t,cs,hb0⟩,hg⟩ hk ho hc
    exact (hg.block k (Array.getElem?_eq_some_iff.1 ho).1 (fun e => by cases e;rw [show A.heap[k]? = _ from hb0] at ho;cases ho;cases hc)).trans ho
  case Kt => exact fun h1 h2 k cs t hk h => h2 k cs t hk (h1 k cs t hk h)
  case Kb =>
    intro W k o o' hk ho hc hw' j cs t _ h
    exact h.put (by rintro rfl;rw [show W.heap[j]? = _ from h] at ho;cases ho;cases hc) o'
  case I =>
    rintro pre A B' row ⟨h1,h2,h3,h4,h5⟩ hg hr
    exact ⟨h1,box_keep h2 hg (row_ne h2 (fun r e => (hr r e).2)),box_keep h3 hg (row_ne h3 (fun r e => (hr r e).2)),h4.grown hg h4.size (fun r e => by have:=(hr r e).1;omega),Nat.le_trans h5 hg.size⟩
  case Ix =>
    rintro c pre A B' row ⟨h1,h2,h3,h4⟩ hg hr
    exact ⟨h1,h2,box_keep h3 hg (row_ne h3 (fun r e => (hr r e).2)),h4.grown hg h4.size (fun r e => by have:=(hr r e).1;omega)⟩
  case IS =>
    rintro pre A B' ⟨g,hg0,⟨t,cs,hb0⟩,hg⟩ ⟨h1,h2,h3,h4,h5⟩
    exact ⟨h1,box_keep h2 hg (by intro e;cases e;omega),box_keep h3 hg (by intro e;cases e;omega),h4.grown hg h4.size (fun r e => by cases e;omega),Nat.le_trans h5 hg.size⟩
  case Ax =>
    rintro pre x a' _ A B' row ⟨hp,Bx,h2,h3,h4⟩ hg hr
    exact ⟨hp,Bx,h2,box_keep h3 hg (row_ne h3 (fun r e => (hr r e).2)),h4⟩
  case assign =>
    rintro l1 pre x W K ⟨h1,h2,h3,h4,h5⟩ hp hK
    gi_wp2
    refine hK _ _ ((KeepsOthers.alloc _ _).from _) (fun k cs t _ h => Box.alloc h _) ⟨h1,h2.alloc _,h3.alloc _,by exact bB1 h4,by simp;omega⟩ ⟨hp,W.heap.size,h5,Box.new _ _ _,rfl⟩
  case body =>
    rintro l1 pre x a' W hlw ⟨h1,h2,h3,h4,h5⟩ ⟨hp,Bx,h6,h7,rfl⟩
    have HTx:=Lib.hid (fun W h => HT.out x W h)
    have HKx:=hTK.out x
    generalize hk : tkn (⟨bx,bY,sl,L,(fx,fX,fy,fY),B⟩ : Sc) (x.1,x.1,x.2,x.2) = r at *
    clear hk
    have HK:=Lib.hid HKx
    clear HKx
    have c0:=h2.cell 0;have c1:=h2.cell 1;have c2:=h2.cell 2;have c3:=h2.cell 3;have c4:=h2.cell 4;have c5:=h2.cell 5;have c6:=h2.cell 6;have c7:=h2.cell 7;have c8:=h2.cell 8;have c9:=h2.cell 9;have c10:=h2.cell 10
    have x0:=h7.cell 0;have x1:=h7.cell 1
    simp at c0 c1 c2 c3 c4 c5 c6 c7 c8 c9 c10 x0 x1
    have l2:=h2.lt;have l7:=h7.lt;have l3:=h3.lt
    have hlt:=h4.size
    cases r
    · gi_wp2_with fail
      (refine region_round kR kR (fun R hR => ?_);refine heldR (S:=(fun w' => w'.cell? ⟨w.heap.size,0,none⟩ = some (.int .i64 bx) ∧ w'.cell? ⟨w.heap.size,1,none⟩ = some (.int .i64 bY) ∧ w'.cell? ⟨w.heap.size,2,none⟩ = some (.int .i64 sl) ∧ w'.cell? ⟨w.heap.size,3,none⟩ = some (.slice AL L.length cL) ∧ w'.cell? ⟨w.heap.size,4,none⟩ = some (.int .i64 fx) ∧ w'.cell? ⟨w.heap.size,5,none⟩ = some (.int .i64 fX) ∧ w'.cell? ⟨w.heap.size,6,none⟩ = some (.int .i64 fy) ∧ w'.cell? ⟨w.heap.size,7,none⟩ = some (.int .i64 fY) ∧ w'.cell? ⟨w.heap.size,8,none⟩ = some (.slice AB B.length cB) ∧ w'.cell? ⟨w.heap.size,9,none⟩ = some (.int .i64 ps) ∧ w'.cell? ⟨w.heap.size,10,none⟩ = some (.slice AQ Q.length cQ) ∧ w'.cell? ⟨Bx,0,none⟩ = some (.int .i64 x.1) ∧ w'.cell? ⟨Bx,1,none⟩ = some (.int .i64 x.2))) ?_ (fun hHeld => ?_);(exact kpA);refine rgN 0 rfl ?_;refine rgN 1 rfl ?_;refine rgC 2 rfl (fun K hK => ?_);go_simp;((go_at_call 155;refine (only_c _ _ _).mono ?_;rintro e w3 ⟨rfl,hb3⟩;have hz3 : W.heap.size ≤ w3.heap.size:=(by have:=hb3.size;(try simp at this);omega);have g2 : Box w3 w.heap.size 135 #[.int .i64 bx,.int .i64 bY,.int .i64 sl,.slice AL L.length cL,.int .i64 fx,.int .i64 fX,.int .i64 fy,.int .i64 fY,.slice AB B.length cB,.int .i64 ps,.slice AQ Q.length cQ]:=(by exact bX1 hb3);have g7 : Box w3 Bx 22 #[.int .i64 x.1,.int .i64 x.2]:=(by exact bX1 hb3);have d0:=g2.cell 0;have d1:=g2.cell 1;have d2:=g2.cell 2;have d3:=g2.cell 3;have d4:=g2.cell 4;have d5:=g2.cell 5;have d6:=g2.cell 6;have d7:=g2.cell 7;have d8:=g2.cell 8;have d9:=g2.cell 9;have d10:=g2.cell 10;have d11:=g7.cell 0;have d12:=g7.cell 1;(simp at d0 d1 d2 d3 d4 d5 d6 d7 d8 d9 d10 d11 d12)));go_simp;refine hK.out _ _ ?_ (fun hHeld => ?_);(exact kpA);clear hK K;(try simp only [Act.put,pqs]);refine rgC 3 rfl (fun K hK => ?_);go_simp;((go_at_call 147;refine (HTx.out _ (by exact bB2 h4 hb3)).mono ?_;rintro e w5 ⟨rfl,hb5⟩;have hz5 : W.heap.size ≤ w5.heap.size:=(by have:=hb5.size;(try simp at this);omega);have i2 : Box w5 w.heap.size 135 #[.int .i64 bx,.int .i64 bY,.int .i64 sl,.slice AL L.length cL,.int .i64 fx,.int .i64 fX,.int .i64 fy,.int .i64 fY,.slice AB B.length cB,.int .i64 ps,.slice AQ Q.length cQ]:=(by exact bX1 hb5);have i7 : Box w5 Bx 22 #[.int .i64 x.1,.int .i64 x.2]:=(by exact bX1 hb5);have j0:=i2.cell 0;have j1:=i2.cell 1;have j2:=i2.cell 2;have j3:=i2.cell 3;have j4:=i2.cell 4;have j5:=i2.cell 5;have j6:=i2.cell 6;have j7:=i2.cell 7;have j8:=i2.cell 8;have j9:=i2.cell 9;have j10:=i2.cell 10;have j11:=i7.cell 0;have j12:=i7.cell 1;(simp at j0 j1 j2 j3 j4 j5 j6 j7 j8 j9 j10 j11 j12)));go_simp;refine hK.out _ _ ?_ (fun hHeld => ?_);(exact kpA);clear hK K;(try simp only [Act.put,pqs]);refine wpAnyH_done (Q:=fun e a w => e = Exit.normal ∧ R a w) kR ⟨rfl,hR _ _ ?_⟩ _;clear hR R)
      gi_wp2_with fail
      exact ⟨below_kf (by exact bB2 hb3 hb5),below_kpc (by exact bB2 hb3 hb5),by unfold Hid;rw [List.all_append,h1.out];simp [HK.out],by exact bX2 hb3 hb5,by exact bX2 hb3 hb5,by exact bB3 h4 hb3 hb5,by (have:=hb3.size;have:=hb5.size;(try simp at *);omega)⟩
    · gi_wp2_with fail
      (refine region_round kR kR (fun R hR => ?_);refine heldR (S:=(fun w' => w'.cell? ⟨w.heap.size,0,none⟩ = some (.int .i64 bx) ∧ w'.cell? ⟨w.heap.size,1,none⟩ = some (.int .i64 bY) ∧ w'.cell? ⟨w.heap.size,2,none⟩ = some (.int .i64 sl) ∧ w'.cell? ⟨w.heap.size,3,none⟩ = some (.slice AL L.length cL) ∧ w'.cell? ⟨w.heap.size,4,none⟩ = some (.int .i64 fx) ∧ w'.cell? ⟨w.heap.size,5,none⟩ = some (.int .i64 fX) ∧ w'.cell? ⟨w.heap.size,6,none⟩ = some (.int .i64 fy) ∧ w'.cell? ⟨w.heap.size,7,none⟩ = some (.int .i64 fY) ∧ w'.cell? ⟨w.heap.size,8,none⟩ = some (.slice AB B.length cB) ∧ w'.cell? ⟨w.heap.size,9,none⟩ = some (.int .i64 ps) ∧ w'.cell? ⟨w.heap.size,10,none⟩ = some (.slice AQ Q.length cQ) ∧ w'.cell? ⟨Bx,0,none⟩ = some (.int .i64 x.1) ∧ w'.cell? ⟨Bx,1,none⟩ = some (.int .i64 x.2))) ?_ (fun hHeld => ?_);(exact kpA);refine rgN 0 rfl ?_;refine rgN 1 rfl ?_;refine rgC 2 rfl (fun K hK => ?_);go_simp;((go_at_call 155;refine (only_c _ _ _).mono ?_;rintro e w3 ⟨rfl,hb3⟩;have hz3 : W.heap.size ≤ w3.heap.size:=(by have:=hb3.size;(try simp at this);omega);have g2 : Box w3 w.heap.size 135 #[.int .i64 bx,.int .i64 bY,.int .i64 sl,.slice AL L.length cL,.int .i64 fx,.int .i64 fX,.int .i64 fy,.int .i64 fY,.slice AB B.length cB,.int .i64 ps,.slice AQ Q.length cQ]:=(by exact bX1 hb3);have g7 : Box w3 Bx 22 #[.int .i64 x.1,.int .i64 x.2]:=(by exact bX1 hb3);have d0:=g2.cell 0;have d1:=g2.cell 1;have d2:=g2.cell 2;have d3:=g2.cell 3;have d4:=g2.cell 4;have d5:=g2.cell 5;have d6:=g2.cell 6;have d7:=g2.cell 7;have d8:=g2.cell 8;have d9:=g2.cell 9;have d10:=g2.cell 10;have d11:=g7.cell 0;have d12:=g7.cell 1;(simp at d0 d1 d2 d3 d4 d5 d6 d7 d8 d9 d10 d11 d12)));go_simp;refine hK.out _ _ ?_ (fun hHeld => ?_);(exact kpA);clear hK K;(try simp only [Act.put,pqs]);refine rgC 3 rfl (fun K hK => ?_);go_simp;((go_at_call 147;refine (HTx.out _ (by exact bB2 h4 hb3)).mono ?_;rintro e w5 ⟨rfl,hb5⟩;have hz5 : W.heap.size ≤ w5.heap.size:=(by have:=hb5.size;(try simp at this);omega);have i2 : Box w5 w.heap.size 135 #[.int .i64 bx,.int .i64 bY,.int .i64 sl,.slice AL L.length cL,.int .i64 fx,.int .i64 fX,.int .i64 fy,.int .i64 fY,.slice AB B.length cB,.int .i64 ps,.slice AQ Q.length cQ]:=(by exact bX1 hb5);have i7 : Box w5 Bx 22 #[.int .i64 x.1,.int .i64 x.2]:=(by exact bX1 hb5);have j0:=i2.cell 0;have j1:=i2.cell 1;have j2:=i2.cell 2;have j3:=i2.cell 3;have j4:=i2.cell 4;have j5:=i2.cell 5;have j6:=i2.cell 6;have j7:=i2.cell 7;have j8:=i2.cell 8;have j9:=i2.cell 9;have j10:=i2.cell 10;have j11:=i7.cell 0;have j12:=i7.cell 1;(simp at j0 j1 j2 j3 j4 j5 j6 j7 j8 j9 j10 j11 j12)));go_simp;refine hK.out _ _ ?_ (fun hHeld => ?_);(exact kpA);clear hK K;(try simp only [Act.put,pqs]);refine wpAnyH_done (Q:=fun e a w => e = Exit.normal ∧ R a w) kR ⟨rfl,hR _ _ ?_⟩ _;clear hR R)
      have i3 : Box w5 (w.heap.size + 1) 4 #[.bool false]:=by exact bX2 hb3 hb5
      have j13:=i3.cell 0;have j14:=i3.froz
      simp at j13
      gi_wp2_with fail
      have hF : Hid (R = false):=by unfold Hid;rw [HF.out];exact free_cons hp (by simp [HK.out])
      have hb35 : Below W.heap.size W w5:=by exact bB2 hb3 hb5
      exact ⟨(below_kf hb35).trans ((KeepsOthers.setCell _ _ _).from _),rfl,hF,by exact bX2 hb3 hb5,by exact bB3 h4 hb3 hb5⟩
  case done =>
    rintro D xs W hD rfl ⟨h1,h2,h3,h4,h5⟩ hDh
    have j13:=h3.cell 0;have j14:=h3.froz
    have l3:=h3.lt
    simp at j13
    have hR : R = true:=by rw [HF.out];exact h1.out
    subst hR
    gi_wp2
    have e4 : Box (W.setCell ⟨w.heap.size + 1,0,none⟩ (.bool true)) (w.heap.size + 1) 4 #[.bool true]:=by exact bX0
    have hB' : Below w.heap.size w (W.setCell ⟨w.heap.size + 1,0,none⟩ (.bool true)):=by exact bB1 h4
    refine leaves_marks (B:=w.heap.size + 1 + 1) (G:=fun W' => Box W' (w.heap.size + 1) 4 #[.bool true] ∧ Below w.heap.size w W') (fun V E hE hd h => ⟨h.1.put (by omega) _,below_putObj h.2 (by omega) _⟩) [D] _ ⟨by simp,fun E hE => ?_⟩ ⟨e4,hB'⟩ (fun V h => ⟨_,res_b rfl rfl (by have:=h.1.cell 0;simpa using this) Tryz.underlying4 rfl,rfl,h.2⟩)
    have : E = D:=by simpa using hE
    subst this
    exact ⟨by omega,(Below.heap_setCell W ⟨w.heap.size + 1,0,none⟩ _ E (by show E ≠ w.heap.size + 1;omega)).trans hDh⟩
  case stop =>
    rintro D c pre W hD _ ⟨rfl,hR,h3,h4⟩ hDh
    have hR:=hR.out
    subst hR
    gi_wp2
    refine leaves_marks (B:=w.heap.size + 1 + 1) (G:=fun W' => Box W' (w.heap.size + 1) 4 #[.bool false] ∧ Below w.heap.size w W') (fun V E hE hd h => ⟨h.1.put (by omega) _,below_putObj h.2 (by omega) _⟩) [D] _ ⟨by simp,fun E hE => ?_⟩ ⟨h3,h4⟩ (fun V h => ⟨_,res_b rfl rfl (by have:=h.1.cell 0;simpa using this) Tryz.underlying4 rfl,rfl,h.2⟩)
    have : E = D:=by simpa using hE
    subst this
    exact ⟨by omega,hDh⟩
end Go.Proofs.YtpnfgmgoafgcbaaGreat

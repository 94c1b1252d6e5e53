/-
  The walk of moved (chapter 6).
-/
import Derived.Test.YtpnfgmgoafgcbaaGreatMoved
import Derived.Deep.RegionHeld
set_option linter.all false
set_option linter.unusedVariables false
namespace Go.Proofs.YtpnfgmgoafgcbaaGreat
open Go.RowKit Go.Shelf
theorem addAt_map : ∀ (Q : List Int) (m : Nat) (b : Int) (h : m < Q.length),(Q.map (Value.int .i64)).set m (.int .i64 (Q[m] + b)) = (addAt Q m b).map (Value.int .i64)
  | [],m,b,h => by simp at h
  | q :: Q,0,b,h => by simp [addAt]
  | q :: Q,m + 1,b,h => by simp only [addAt,List.map_cons,List.set_cons_succ,List.getElem_cons_succ];rw [addAt_map Q m b (by simpa using h)]
theorem addAt_len : ∀ (Q : List Int) (m : Nat) (b : Int),(addAt Q m b).length = Q.length
  | [],_,_ => rfl
  | q :: Q,0,b => rfl
  | q :: Q,m + 1,b => by simp [addAt,addAt_len Q m b]
theorem own_put {W : World} {b g cap n m sz : Nat} {e : TypeId} {xs : List Value} {u : Value} (h : W.ownsRow b e sz (.slice (some ⟨g,0,none⟩) n cap) n xs) : (W.setCell ⟨g,m,none⟩ u).ownsRow b e sz (.slice (some ⟨g,0,none⟩) n cap) n (xs.set m u):=by
  refine ⟨by rw [List.length_set];exact h.1, ?_⟩
  rcases h.2 with ⟨h1,_⟩ | ⟨g',cap',cur,h1,h2,h3,h4,h5,h6,h7⟩
  · cases h1
  · cases h1
    refine .inr ⟨g,cap,cur.setIfInBounds m u,rfl,h2,(show Box W g e cur from h3).set m u,h4,h5,by simpa using h6, ?_⟩
    rw [Array.toList_setIfInBounds,← h7,List.take_set]
theorem SlI.far {w : World} {g k : Nat} {xs : List Int} (h : SlI w (some ⟨g,0,none⟩) xs) (hne : g ≠ k) (i : Nat) (u : Value) : SlI (w.setCell ⟨k,i,none⟩ u) (some ⟨g,0,none⟩) xs:=fun j v hj => by
  obtain ⟨b,off,e,hb,hc⟩:=h j v hj
  cases e
  exact ⟨g,0,rfl,by simpa using hb,(World.cell?_setCell_far _ _ _ _ (fun e => hne e.symm)).trans hc⟩
/-- Behind the copy of the pose. -/
def MvCut (bx bY sl fx fX fy fY ps mj mb : Int) (nL nB : Nat) (Q : List Int) (AL AB AQ : Option Addr) (cL cB cQ : Nat) (w : World) (s : Value) (wx : World) : Prop :=
  ∃ gP gQ capQ,s = .pointer (some ⟨gP,0,none⟩) ∧ Box wx gP 33 #[.int .i64 ps,.slice (some ⟨gQ,0,none⟩) Q.length capQ] ∧ w.heap.size + 1 + 1 < gP ∧ wx.ownsRow (w.heap.size + 1 + 1 + 1) 3 1 (.slice (some ⟨gQ,0,none⟩) Q.length capQ) Q.length (Q.map (Value.int .i64)) ∧
    Box wx w.heap.size 135 #[.int .i64 bx,.int .i64 bY,.int .i64 sl,.slice AL nL cL,.int .i64 fx,.int .i64 fX,.int .i64 fy,.int .i64 fY,.slice AB nB cB,.int .i64 ps,.slice AQ Q.length cQ] ∧ Box wx (w.heap.size + 1) 84 #[.int .i64 mj,.int .i64 mb] ∧ Box wx (w.heap.size + 1 + 1) 135 #[.int .i64 0,.int .i64 0,.int .i64 0,.slice none 0 0,.int .i64 0,.int .i64 0,.int .i64 0,.int .i64 0,.slice none 0 0,.int .i64 0,.slice none 0 0] ∧ Below w.heap.size w wx
/-- What moved hands back. -/
def MvEnd (bx bY sl fx fX fy fY : Int) (nL nB : Nat) (AL AB : Option Addr) (cL cB : Nat) (p : Ps) (err : Int) (w : World) (e : Ending) (w' : World) : Prop :=
  ∃ gQ cap,e = .returned (.tuple #[.agg #[.int .i64 bx,.int .i64 bY,.int .i64 sl,.slice AL nL cL,.int .i64 fx,.int .i64 fX,.int .i64 fy,.int .i64 fY,.slice AB nB cB,.int .i64 p.1,.slice (some ⟨gQ,0,none⟩) p.2.length cap],.int .i64 err]) ∧ w.heap.size ≤ gQ ∧ SlI w' (some ⟨gQ,0,none⟩) p.2 ∧ (∃ cs,Box w' gQ 3 cs) ∧ Below w.heap.size w w'
set_option maxHeartbeats 4000000 in
set_option maxRecDepth 100000 in
theorem moved_c (bx bY sl fx fX fy fY ps mj mb : Int) (L : List Lk) (B : List Bx) (Q : List Int) (AL AB AQ : Option Addr) (cL cB cQ : Nat) (w : World) (hQ : Q.length = L.length) (h0 : 0 < L.length) (hL : L.length ≤ 1000)
    (h1 : -1 ≤ mj ∧ mj < L.length) (h2 : -1 ≤ mb ∧ mb ≤ 1) (h3 : -1000 ≤ ps ∧ ps ≤ 1000) (h4 : ∀ q ∈ Q,-1000 ≤ q ∧ q ≤ 1000) (hs1 : SlV w AL (L.flatMap lkV)) (hs3 : SlI w AQ Q) :
    Calls Tryz.prog 114 #[.agg #[.int .i64 bx,.int .i64 bY,.int .i64 sl,.slice AL L.length cL,.int .i64 fx,.int .i64 fX,.int .i64 fy,.int .i64 fY,.slice AB B.length cB,.int .i64 ps,.slice AQ Q.length cQ],.agg #[.int .i64 mj,.int .i64 mb]] w (MvEnd bx bY sl fx fX fy fY L.length B.length AL AB cL cB (mvd (ps,Q) (mj,mb)) (mvdE (⟨bx,bY,sl,L,(fx,fX,fy,fY),B⟩ : Sc) (ps,Q) (mj,mb)) w):=by
  have CLc:=Lib.hid (fun W (h : Below w.heap.size w W) => clone_c Q AQ cQ W (by omega) (by omega) (hs3.below h))
  have PEc:=Lib.hid (fun ps' Q' gQ cap W (h : Below w.heap.size w W) (hl : Q'.length = L.length) (hs : SlI W (some ⟨gQ,0,none⟩) Q') => poseErr_c bx bY sl fx fX fy fY ps' L B Q' AL AB (some ⟨gQ,0,none⟩) cL cB cap W hl (by omega) (hs1.below h) hs)
  have HE:=Lib.hid (show mvdE (⟨bx,bY,sl,L,(fx,fX,fy,fY),B⟩ : Sc) (ps,Q) (mj,mb) = unl (psE (⟨bx,bY,sl,L,(fx,fX,fy,fY),B⟩ : Sc) (mvd (ps,Q) (mj,mb)) == 0) 22 from rfl)
  have HM:=Lib.hid (show mvd (ps,Q) (mj,mb) = if mj = -1 then (ps + mb,Q) else (ps,addAt Q mj.toNat mb) from rfl)
  have hq:=Lib.hid hQ
  have hQ' : Q.length ≤ 1000:=by omega
  have h4':=Lib.hid h4
  clear hs1 hs3 hQ h4
  generalize mvdE (⟨bx,bY,sl,L,(fx,fX,fy,fY),B⟩ : Sc) (ps,Q) (mj,mb) = R at *
  generalize hmv : mvd (ps,Q) (mj,mb) = P at *
  clear hmv
  go_enter Tryz.func114,Tryz.ntmps114
  go_upto_region 1 with fail
  go_cut [6] (fun s wx => MvCut bx bY sl fx fX fy fY ps mj mb L.length B.length Q AL AB AQ cL cB cQ w s wx)
  case first =>
    ((refine wp_region_held_drew (S:=(fun w' => w'.cell? ⟨w.heap.size,9,none⟩ = some (.int .i64 ps) ∧ w'.cell? ⟨w.heap.size,10,none⟩ = some (.slice AQ Q.length cQ))) kR ?_ (fun hHeld => ?_);(exact kpA);refine rgN 0 rfl ?_;refine rgN 1 rfl ?_;refine rgN 2 rfl ?_;refine rgN 3 rfl ?_;refine rgN 4 rfl ?_;refine rgN 5 rfl ?_;refine wpAnyH_ready (rs:=[6,8]) kR (by simp) ?_;(focus (refine AllReadyH.cons rfl (fun K hK => ?_) ?_;rotate_left;refine AllReadyH.cons rfl (fun K hK => ?_) ?_;rotate_left;exact AllReadyH.nil));go_simp;((first | (go_at_call 85;refine (CLc.out _ (by exact bB0)).mono ?_;rintro e w3 ⟨gQ,capQ,rfl,hown,hb3⟩;obtain ⟨hc3,hf3⟩:=bcell hb3;have hz3 : w.heap.size + 1 + 1 < w3.heap.size:=(by have:=hb3.size;(try simp at this);omega);have g0 : Box w3 w.heap.size 135 #[.int .i64 bx,.int .i64 bY,.int .i64 sl,.slice AL L.length cL,.int .i64 fx,.int .i64 fX,.int .i64 fy,.int .i64 fY,.slice AB B.length cB,.int .i64 ps,.slice AQ Q.length cQ]:=(by exact bX1 hb3);have d9:=g0.cell 9;have d10:=g0.cell 10;(simp at d9 d10)) | skip));go_simp;refine hK.out _ _ ?_ (fun hHeld => ?_);(exact kpA);clear hK K;(try simp only [Act.put,pqs]);refine wpAnyH_ready (rs:=[7,8]) kR (by simp) ?_;(focus (refine AllReadyH.cons rfl (fun K hK => ?_) ?_;rotate_left;refine AllReadyH.cons rfl (fun K hK => ?_) ?_;rotate_left;exact AllReadyH.nil));go_simp;((first | (go_at_call 85;refine (CLc.out _ (by exact bB0)).mono ?_;rintro e w3 ⟨gQ,capQ,rfl,hown,hb3⟩;obtain ⟨hc3,hf3⟩:=bcell hb3;have hz3 : w.heap.size + 1 + 1 < w3.heap.size:=(by have:=hb3.size;(try simp at this);omega);have g0 : Box w3 w.heap.size 135 #[.int .i64 bx,.int .i64 bY,.int .i64 sl,.slice AL L.length cL,.int .i64 fx,.int .i64 fX,.int .i64 fy,.int .i64 fY,.slice AB B.length cB,.int .i64 ps,.slice AQ Q.length cQ]:=(by exact bX1 hb3);have d9:=g0.cell 9;have d10:=g0.cell 10;(simp at d9 d10)) | skip));go_simp;refine hK.out _ _ ?_ (fun hHeld => ?_);(exact kpA);clear hK K;(try simp only [Act.put,pqs]);refine wpAnyH_ready (rs:=[8]) kR (by simp) ?_;(focus (refine AllReadyH.cons rfl (fun K hK => ?_) ?_;rotate_left;exact AllReadyH.nil));go_simp;((first | (go_at_call 85;refine (CLc.out _ (by exact bB0)).mono ?_;rintro e w3 ⟨gQ,capQ,rfl,hown,hb3⟩;obtain ⟨hc3,hf3⟩:=bcell hb3;have hz3 : w.heap.size + 1 + 1 < w3.heap.size:=(by have:=hb3.size;(try simp at this);omega);have g0 : Box w3 w.heap.size 135 #[.int .i64 bx,.int .i64 bY,.int .i64 sl,.slice AL L.length cL,.int .i64 fx,.int .i64 fX,.int .i64 fy,.int .i64 fY,.slice AB B.length cB,.int .i64 ps,.slice AQ Q.length cQ]:=(by exact bX1 hb3);have d9:=g0.cell 9;have d10:=g0.cell 10;(simp at d9 d10)) | skip));go_simp;refine hK.out _ _ ?_ (fun hHeld => ?_);(exact kpA);clear hK K;(try simp only [Act.put,pqs]);refine wpAnyH_ready (rs:=[9]) kR (by simp) ?_;(focus (refine AllReadyH.cons rfl (fun K hK => ?_) ?_;rotate_left;exact AllReadyH.nil));go_simp;((first | (go_at_call 85;refine (CLc.out _ (by exact bB0)).mono ?_;rintro e w3 ⟨gQ,capQ,rfl,hown,hb3⟩;obtain ⟨hc3,hf3⟩:=bcell hb3;have hz3 : w.heap.size + 1 + 1 < w3.heap.size:=(by have:=hb3.size;(try simp at this);omega);have g0 : Box w3 w.heap.size 135 #[.int .i64 bx,.int .i64 bY,.int .i64 sl,.slice AL L.length cL,.int .i64 fx,.int .i64 fX,.int .i64 fy,.int .i64 fY,.slice AB B.length cB,.int .i64 ps,.slice AQ Q.length cQ]:=(by exact bX1 hb3);have d9:=g0.cell 9;have d10:=g0.cell 10;(simp at d9 d10)) | skip));go_simp;refine hK.out _ _ ?_ (fun hHeld => ?_);(exact kpA);clear hK K;(try simp only [Act.put,pqs]);refine wpAnyH_done kR ?_ _;(go_wp2_with fail;go_meet;have hg:=(hown.lt gQ (by simp [Value.ownBlock]));(simp at hg);(first | exact ⟨w3.heap.size,gQ,capQ,rfl,Box.new _ _ _,hz3,own_base (hown.alloc _) (by simp),by exact bX1 hb3,by exact bX1 hb3,by exact bX1 hb3,by exact bB1 hb3⟩ | exact ⟨w.heap.size + 1 + 1 + 1,gQ,capQ,rfl,by exact bX1 hb3,by omega,own_base (own_far (own_far hown (by show gQ ≠ w.heap.size + 1 + 1 + 1;omega)) (by show gQ ≠ w.heap.size + 1 + 1 + 1;omega)) (by simp),by exact bX1 hb3,by exact bX1 hb3,by exact bX1 hb3,by exact bB1 hb3⟩));go_simp;((first | (go_at_call 85;refine (CLc.out _ (by exact bB0)).mono ?_;rintro e w3 ⟨gQ,capQ,rfl,hown,hb3⟩;obtain ⟨hc3,hf3⟩:=bcell hb3;have hz3 : w.heap.size + 1 + 1 < w3.heap.size:=(by have:=hb3.size;(try simp at this);omega);have g0 : Box w3 w.heap.size 135 #[.int .i64 bx,.int .i64 bY,.int .i64 sl,.slice AL L.length cL,.int .i64 fx,.int .i64 fX,.int .i64 fy,.int .i64 fY,.slice AB B.length cB,.int .i64 ps,.slice AQ Q.length cQ]:=(by exact bX1 hb3);have d9:=g0.cell 9;have d10:=g0.cell 10;(simp at d9 d10)) | skip));go_simp;refine hK.out _ _ ?_ (fun hHeld => ?_);(exact kpA);clear hK K;(try simp only [Act.put,pqs]);refine wpAnyH_ready (rs:=[7]) kR (by simp) ?_;(focus (refine AllReadyH.cons rfl (fun K hK => ?_) ?_;rotate_left;exact AllReadyH.nil));go_simp;((first | (go_at_call 85;refine (CLc.out _ (by exact bB0)).mono ?_;rintro e w3 ⟨gQ,capQ,rfl,hown,hb3⟩;obtain ⟨hc3,hf3⟩:=bcell hb3;have hz3 : w.heap.size + 1 + 1 < w3.heap.size:=(by have:=hb3.size;(try simp at this);omega);have g0 : Box w3 w.heap.size 135 #[.int .i64 bx,.int .i64 bY,.int .i64 sl,.slice AL L.length cL,.int .i64 fx,.int .i64 fX,.int .i64 fy,.int .i64 fY,.slice AB B.length cB,.int .i64 ps,.slice AQ Q.length cQ]:=(by exact bX1 hb3);have d9:=g0.cell 9;have d10:=g0.cell 10;(simp at d9 d10)) | skip));go_simp;refine hK.out _ _ ?_ (fun hHeld => ?_);(exact kpA);clear hK K;(try simp only [Act.put,pqs]);refine wpAnyH_ready (rs:=[9]) kR (by simp) ?_;(focus (refine AllReadyH.cons rfl (fun K hK => ?_) ?_;rotate_left;exact AllReadyH.nil));go_simp;((first | (go_at_call 85;refine (CLc.out _ (by exact bB0)).mono ?_;rintro e w3 ⟨gQ,capQ,rfl,hown,hb3⟩;obtain ⟨hc3,hf3⟩:=bcell hb3;have hz3 : w.heap.size + 1 + 1 < w3.heap.size:=(by have:=hb3.size;(try simp at this);omega);have g0 : Box w3 w.heap.size 135 #[.int .i64 bx,.int .i64 bY,.int .i64 sl,.slice AL L.length cL,.int .i64 fx,.int .i64 fX,.int .i64 fy,.int .i64 fY,.slice AB B.length cB,.int .i64 ps,.slice AQ Q.length cQ]:=(by exact bX1 hb3);have d9:=g0.cell 9;have d10:=g0.cell 10;(simp at d9 d10)) | skip));go_simp;refine hK.out _ _ ?_ (fun hHeld => ?_);(exact kpA);clear hK K;(try simp only [Act.put,pqs]);refine wpAnyH_done kR ?_ _;(go_wp2_with fail;go_meet;have hg:=(hown.lt gQ (by simp [Value.ownBlock]));(simp at hg);(first | exact ⟨w3.heap.size,gQ,capQ,rfl,Box.new _ _ _,hz3,own_base (hown.alloc _) (by simp),by exact bX1 hb3,by exact bX1 hb3,by exact bX1 hb3,by exact bB1 hb3⟩ | exact ⟨w.heap.size + 1 + 1 + 1,gQ,capQ,rfl,by exact bX1 hb3,by omega,own_base (own_far (own_far hown (by show gQ ≠ w.heap.size + 1 + 1 + 1;omega)) (by show gQ ≠ w.heap.size + 1 + 1 + 1;omega)) (by simp),by exact bX1 hb3,by exact bX1 hb3,by exact bX1 hb3,by exact bB1 hb3⟩));go_simp;((first | (go_at_call 85;refine (CLc.out _ (by exact bB0)).mono ?_;rintro e w3 ⟨gQ,capQ,rfl,hown,hb3⟩;obtain ⟨hc3,hf3⟩:=bcell hb3;have hz3 : w.heap.size + 1 + 1 < w3.heap.size:=(by have:=hb3.size;(try simp at this);omega);have g0 : Box w3 w.heap.size 135 #[.int .i64 bx,.int .i64 bY,.int .i64 sl,.slice AL L.length cL,.int .i64 fx,.int .i64 fX,.int .i64 fy,.int .i64 fY,.slice AB B.length cB,.int .i64 ps,.slice AQ Q.length cQ]:=(by exact bX1 hb3);have d9:=g0.cell 9;have d10:=g0.cell 10;(simp at d9 d10)) | skip));go_simp;refine hK.out _ _ ?_ (fun hHeld => ?_);(exact kpA);clear hK K;(try simp only [Act.put,pqs]);refine wpAnyH_ready (rs:=[6]) kR (by simp) ?_;(focus (refine AllReadyH.cons rfl (fun K hK => ?_) ?_;rotate_left;exact AllReadyH.nil));go_simp;((first | (go_at_call 85;refine (CLc.out _ (by exact bB0)).mono ?_;rintro e w3 ⟨gQ,capQ,rfl,hown,hb3⟩;obtain ⟨hc3,hf3⟩:=bcell hb3;have hz3 : w.heap.size + 1 + 1 < w3.heap.size:=(by have:=hb3.size;(try simp at this);omega);have g0 : Box w3 w.heap.size 135 #[.int .i64 bx,.int .i64 bY,.int .i64 sl,.slice AL L.length cL,.int .i64 fx,.int .i64 fX,.int .i64 fy,.int .i64 fY,.slice AB B.length cB,.int .i64 ps,.slice AQ Q.length cQ]:=(by exact bX1 hb3);have d9:=g0.cell 9;have d10:=g0.cell 10;(simp at d9 d10)) | skip));go_simp;refine hK.out _ _ ?_ (fun hHeld => ?_);(exact kpA);clear hK K;(try simp only [Act.put,pqs]);refine wpAnyH_ready (rs:=[7]) kR (by simp) ?_;(focus (refine AllReadyH.cons rfl (fun K hK => ?_) ?_;rotate_left;exact AllReadyH.nil));go_simp;((first | (go_at_call 85;refine (CLc.out _ (by exact bB0)).mono ?_;rintro e w3 ⟨gQ,capQ,rfl,hown,hb3⟩;obtain ⟨hc3,hf3⟩:=bcell hb3;have hz3 : w.heap.size + 1 + 1 < w3.heap.size:=(by have:=hb3.size;(try simp at this);omega);have g0 : Box w3 w.heap.size 135 #[.int .i64 bx,.int .i64 bY,.int .i64 sl,.slice AL L.length cL,.int .i64 fx,.int .i64 fX,.int .i64 fy,.int .i64 fY,.slice AB B.length cB,.int .i64 ps,.slice AQ Q.length cQ]:=(by exact bX1 hb3);have d9:=g0.cell 9;have d10:=g0.cell 10;(simp at d9 d10)) | skip));go_simp;refine hK.out _ _ ?_ (fun hHeld => ?_);(exact kpA);clear hK K;(try simp only [Act.put,pqs]);refine wpAnyH_ready (rs:=[9]) kR (by simp) ?_;(focus (refine AllReadyH.cons rfl (fun K hK => ?_) ?_;rotate_left;exact AllReadyH.nil));go_simp;((first | (go_at_call 85;refine (CLc.out _ (by exact bB0)).mono ?_;rintro e w3 ⟨gQ,capQ,rfl,hown,hb3⟩;obtain ⟨hc3,hf3⟩:=bcell hb3;have hz3 : w.heap.size + 1 + 1 < w3.heap.size:=(by have:=hb3.size;(try simp at this);omega);have g0 : Box w3 w.heap.size 135 #[.int .i64 bx,.int .i64 bY,.int .i64 sl,.slice AL L.length cL,.int .i64 fx,.int .i64 fX,.int .i64 fy,.int .i64 fY,.slice AB B.length cB,.int .i64 ps,.slice AQ Q.length cQ]:=(by exact bX1 hb3);have d9:=g0.cell 9;have d10:=g0.cell 10;(simp at d9 d10)) | skip));go_simp;refine hK.out _ _ ?_ (fun hHeld => ?_);(exact kpA);clear hK K;(try simp only [Act.put,pqs]);refine wpAnyH_done kR ?_ _;(go_wp2_with fail;go_meet;have hg:=(hown.lt gQ (by simp [Value.ownBlock]));(simp at hg);(first | exact ⟨w3.heap.size,gQ,capQ,rfl,Box.new _ _ _,hz3,own_base (hown.alloc _) (by simp),by exact bX1 hb3,by exact bX1 hb3,by exact bX1 hb3,by exact bB1 hb3⟩ | exact ⟨w.heap.size + 1 + 1 + 1,gQ,capQ,rfl,by exact bX1 hb3,by omega,own_base (own_far (own_far hown (by show gQ ≠ w.heap.size + 1 + 1 + 1;omega)) (by show gQ ≠ w.heap.size + 1 + 1 + 1;omega)) (by simp),by exact bX1 hb3,by exact bX1 hb3,by exact bX1 hb3,by exact bB1 hb3⟩))))
  case rest =>
    obtain ⟨gP,gQ,capQ,rfl,bP,hgP,own,bA,bM,bZ,hB⟩:=hcut
    have nPQ:=own_apart own bP (.inl (by decide))
    have nAQ:=own_apart own bA (.inl (by decide))
    have nZQ:=own_apart own bZ (.inl (by decide))
    have m0:=bM.cell 0;have m1:=bM.cell 1
    have p0:=bP.cell 0;have p1:=bP.cell 1;have fP:=bP.froz
    simp at m0 m1 p0 p1
    have lP:=bP.lt;have lA:=bA.lt;have lZ:=bZ.lt
    have nQP : gP ≠ gQ:=fun e => nPQ e.symm
    have nQA : w.heap.size ≠ gQ:=fun e => nAQ e.symm
    have nQZ : w.heap.size + 1 + 1 ≠ gQ:=fun e => nZQ e.symm
    have hPl : P.2.length = Q.length:=by rw [HM.out];split <;> simp [addAt_len]
    obtain ⟨P1,P2⟩:=P
    dsimp only at hPl
    have HPl:=Lib.hid hPl
    clear hPl
    have hgl:=(own.lt gQ (by simp [Value.ownBlock]))
    go_upto_if 17 with fail
    go_cut [] (fun wx => Box wx gP 33 #[.int .i64 P1,.slice (some ⟨gQ,0,none⟩) P2.length capQ] ∧ wx.ownsRow (w.heap.size + 1 + 1 + 1) 3 1 (.slice (some ⟨gQ,0,none⟩) P2.length capQ) P2.length (P2.map (Value.int .i64)) ∧ Box wx w.heap.size 135 #[.int .i64 bx,.int .i64 bY,.int .i64 sl,.slice AL L.length cL,.int .i64 fx,.int .i64 fX,.int .i64 fy,.int .i64 fY,.slice AB B.length cB,.int .i64 ps,.slice AQ Q.length cQ] ∧ Box wx (w.heap.size + 1 + 1) 135 #[.int .i64 0,.int .i64 0,.int .i64 0,.slice none 0 0,.int .i64 0,.int .i64 0,.int .i64 0,.int .i64 0,.slice none 0 0,.int .i64 0,.slice none 0 0] ∧ Below w.heap.size w wx)
    case first =>
      by_cases hj : mj = -1
      · have hP:=HM.out
        rw [if_pos hj] at hP
        obtain ⟨rfl,rfl⟩ : P1 = ps + mb ∧ P2 = Q:=by simpa using hP
        have e1 : (mj == -1) = true:=beqT hj
        clear hj hP HM
        go_wp2_with fail
        go_meet
        exact ⟨by exact bX0,own_far own nPQ,by exact bX0,by exact bX0,by exact bB1 hB⟩
      · have hP:=HM.out
        rw [if_neg hj] at hP
        obtain ⟨rfl,rfl⟩ : P1 = ps ∧ P2 = addAt Q mj.toNat mb:=by simpa using hP
        have e1 : (mj == -1) = false:=beqF hj
        have hmj : 0 ≤ mj:=by omega
        have hm : mj.toNat < Q.length:=by have:=hq.out;omega
        have hmi : mj < (Q.length : Int):=by omega
        have rc:=own.cellAt mj.toNat (by omega)
        rw [List.getElem?_map,List.getElem?_eq_getElem hm,Option.map_some] at rc
        have rf:=own.frozenAt mj.toNat
        have AM:=Lib.hid (addAt_map Q mj.toNat mb hm)
        have qb:=h4'.out _ (List.getElem_mem hm)
        have OP:=Lib.hid (own_put (m:=mj.toNat) (u:=.int .i64 (Q[mj.toNat] + mb)) own)
        generalize Q[mj.toNat] = q0 at *
        clear hj hP HM
        go_wp2_with fail
        (refine still_tail 10 mixed kR ?_;simp only [List.take_succ_cons,List.take_zero,List.drop_succ_cons,List.drop_zero];(repeat still_step);refine wpStill_nil ?_;change wpList _ _ _ _ _ _)
        go_wp2_with fail
        go_meet
        have hl2:=HPl.out
        refine ⟨by rw [hl2];exact bX0, ?_,by exact bX0,by exact bX0,by exact bB1 hB⟩
        rw [hl2,← AM.out]
        exact OP.out
    case rest =>
      obtain ⟨y1,own2,y0,yZ,hB2⟩:=hcut
      have l0:=y0.lt;have l1:=y1.lt;have lZ2:=yZ.lt
      have hg2:=(own2.lt gQ (by simp [Value.ownBlock]))
      have HSl:=Lib.hid (fun W (h : Below wc.heap.size wc W) => (sli_own own2).below h)
      have HPL:=Lib.hid (show P2.length = L.length from HPl.out.trans hq.out)
      have k0:=y0.cell 0;have k1:=y0.cell 1;have k2:=y0.cell 2;have k3:=y0.cell 3;have k4:=y0.cell 4;have k5:=y0.cell 5;have k6:=y0.cell 6;have k7:=y0.cell 7;have k8:=y0.cell 8;have k9:=y1.cell 0;have k10:=y1.cell 1;(simp at k0 k1 k2 k3 k4 k5 k6 k7 k8 k9 k10)
      have NP : gP ≠ w.heap.size + 1 + 1:=by omega
      clear m0 m1 p0 p1 fP own bP bA bM bZ hB
      go_wp2_with fail
      ((refine wp_region_held_drew (S:=(fun w' => w'.cell? ⟨w.heap.size,0,none⟩ = some (.int .i64 bx) ∧ w'.cell? ⟨w.heap.size,1,none⟩ = some (.int .i64 bY) ∧ w'.cell? ⟨w.heap.size,2,none⟩ = some (.int .i64 sl) ∧ w'.cell? ⟨w.heap.size,3,none⟩ = some (.slice AL L.length cL) ∧ w'.cell? ⟨w.heap.size,4,none⟩ = some (.int .i64 fx) ∧ w'.cell? ⟨w.heap.size,5,none⟩ = some (.int .i64 fX) ∧ w'.cell? ⟨w.heap.size,6,none⟩ = some (.int .i64 fy) ∧ w'.cell? ⟨w.heap.size,7,none⟩ = some (.int .i64 fY) ∧ w'.cell? ⟨w.heap.size,8,none⟩ = some (.slice AB B.length cB) ∧ w'.cell? ⟨gP,0,none⟩ = some (.int .i64 P1) ∧ w'.cell? ⟨gP,1,none⟩ = some (.slice (some ⟨gQ,0,none⟩) P2.length capQ))) kR ?_ (fun hHeld => ?_);(exact kpA);refine rgN 0 rfl ?_;refine rgN 1 rfl ?_;refine rgN 2 rfl ?_;refine rgN 3 rfl ?_;refine rgN 4 rfl ?_;refine rgN 5 rfl ?_;refine rgN 6 rfl ?_;refine rgC 7 rfl (fun K hK => ?_);go_simp;((go_at_call 134;refine (PEc.out P1 P2 gQ capQ _ (by exact bB1 hB2) HPL.out (HSl.out _ (by exact bB0))).mono ?_;rintro e w6 ⟨rfl,hb6⟩;have hz6 : wc.heap.size ≤ w6.heap.size:=(by have:=hb6.size;(try simp at this);omega);have e0 : Box w6 w.heap.size 135 #[.int .i64 bx,.int .i64 bY,.int .i64 sl,.slice AL L.length cL,.int .i64 fx,.int .i64 fX,.int .i64 fy,.int .i64 fY,.slice AB B.length cB,.int .i64 ps,.slice AQ Q.length cQ]:=(by exact bX1 hb6);have e1 : Box w6 gP 33 #[.int .i64 P1,.slice (some ⟨gQ,0,none⟩) P2.length capQ]:=(by exact bX1 hb6);have eZ : Box w6 (w.heap.size + 1 + 1) 135 #[.int .i64 0,.int .i64 0,.int .i64 0,.slice none 0 0,.int .i64 0,.int .i64 0,.int .i64 0,.int .i64 0,.slice none 0 0,.int .i64 0,.slice none 0 0]:=(by exact bX1 hb6);have fZ:=eZ.froz;have n0:=e0.cell 0;have n1:=e0.cell 1;have n2:=e0.cell 2;have n3:=e0.cell 3;have n4:=e0.cell 4;have n5:=e0.cell 5;have n6:=e0.cell 6;have n7:=e0.cell 7;have n8:=e0.cell 8;have n9:=e1.cell 0;have n10:=e1.cell 1;have z0:=eZ.cell 0;have z1:=eZ.cell 1;have z2:=eZ.cell 2;have z3:=eZ.cell 3;have z4:=eZ.cell 4;have z5:=eZ.cell 5;have z6:=eZ.cell 6;have z7:=eZ.cell 7;have z8:=eZ.cell 8;have z9:=eZ.cell 9;have z10:=eZ.cell 10;(simp at n0 n1 n2 n3 n4 n5 n6 n7 n8 n9 n10 z0 z1 z2 z3 z4 z5 z6 z7 z8 z9 z10)));go_simp;refine hK.out _ _ ?_ (fun hHeld => ?_);(exact kpA);clear hK K;(try simp only [Act.put,pqs]);refine rgN 8 rfl ?_;refine rgC 9 rfl (fun K hK => ?_);go_simp;((go_at_call 84;(with_reducible refine (unless_c _ _ _).mono ?_);rintro e w' ⟨rfl,rfl⟩));go_simp;refine hK.out _ _ ?_ (fun hHeld => ?_);(exact kpA);clear hK K;(try simp only [Act.put,pqs]);refine rgC 10 rfl (fun K hK => ?_);go_simp;refine hK.out _ _ ?_ (fun hHeld => ?_);(exact kpA);clear hK K;(try simp only [Act.put,pqs]);refine rgN 11 rfl ?_;refine wpAnyH_done kR ?_ _))
      all_goals go_wp2
      refine bodyPost_ret (res_c2 rfl rfl (show Box _ _ 135 #[.int .i64 bx,.int .i64 bY,.int .i64 sl,.slice AL L.length cL,.int .i64 fx,.int .i64 fX,.int .i64 fy,.int .i64 fY,.slice AB B.length cB,.int .i64 P1,.slice (some ⟨gQ,0,none⟩) P2.length capQ] from ?hE) Tryz.underlying135 rfl ta_size) rfl ⟨gQ,capQ, ?hR,by omega, ?hS, ?hX, ?hB⟩
      case hE => exact bX1 hb6
      case hR => exact ret_t2 rfl (vint (by rw [HE.out]))
      case hS =>
        have h6 : SlI w6 (some ⟨gQ,0,none⟩) P2:=HSl.out w6 (by exact bB1 hb6)
        (repeat (with_reducible refine SlI.far ?_ (show gQ ≠ w.heap.size + 1 + 1 by omega) _ _))
        exact h6
      case hX =>
        obtain ⟨cs,hcs⟩:=own_some (own_below own2 (show Below wc.heap.size wc w6 by exact bB1 hb6))
        refine ⟨cs, ?_⟩
        (repeat (with_reducible refine Box.far ?_ (show gQ ≠ w.heap.size + 1 + 1 by omega) _))
        exact hcs
      case hB => exact bB2 hB2 hb6
end Go.Proofs.YtpnfgmgoafgcbaaGreat

/-
  The shortest path to a pose (chapter 6): PathTo.
-/
import Derived.Test.YtpnfgmgoafgcbaaGreatDn3
import Derived.Test.YtpnfgmgoafgcbaaGreatA10
import Derived.Test.YtpnfgmgoafgcbaaGreatA6
set_option linter.all false
set_option linter.unusedVariables false
namespace Go.Proofs.YtpnfgmgoafgcbaaGreat
open Go.RowKit Go.Shelf
attribute [local go_sem] Oper.semAt_some
theorem own_of_box {w : World} {base g : Nat} {e : TypeId} {size n : Nat} {cs : Array Value} (h : Box w g e cs) (hb : base ≤ g) (hn : n ≤ maxLen) (hs : cs.size = n * size) : w.ownsRow base e size (.slice (some ⟨g,0,none⟩) n n) n cs.toList :=
  ⟨by simp [hs],.inr ⟨g,n,cs,rfl,hb,h,Nat.le_refl _,hn,hs,by rw [← hs];exact List.take_of_length_le (by simp)⟩⟩
theorem flF_V {s : Sc} : ∀ (m i : Nat) (a : Fl),FlI s a → FlV a → FlI s (flF s m i a) ∧ FlV (flF s m i a)
  | 0,_,_,h,k => ⟨h,k⟩
  | m + 1,i,a,h,k => by
    unfold flF
    cases hx : a.2[i]? with
    | none => exact ⟨h,k⟩
    | some p =>
      have hp:=h.ok p (List.mem_of_getElem? hx)
      have hkey : ∃ d,lkp a.1 (kyP p) = some d:=by
        have hk : kyP p ∈ a.1.map (·.1):=by rw [h.keys];exact List.mem_map_of_mem (List.mem_of_getElem? hx)
        cases hd : lkp a.1 (kyP p) with
        | none => exact absurd hk (lkp_none.1 hd)
        | some d => exact ⟨d,rfl⟩
      obtain ⟨d,hd⟩:=hkey
      have hv : 0 ≤ d ∧ d ≤ a.1.length:=by
        obtain ⟨e,he,rfl⟩:=lkp_mem hd
        exact k e he
      refine flF_V m (i + 1) _ (h.exp hp) ?_
      unfold flx
      rw [hd]
      exact FlV.steps _ _ k hv
theorem flood_v {s : Sc} {b : List Ps} (hS : SOk s) (hn : b.Nodup) (hb : ∀ p ∈ b,POk s p) (k : Ky) (c : Int) (h : lkp (floodP s b).1 k = some c) : 0 ≤ c ∧ c ≤ 1000:=by
  obtain ⟨h1,h2⟩:=flF_V ((alP s).length + 1) 0 (fl0 b) (fl0_ok hn hb) (fun e he => by
    obtain ⟨p,_,rfl⟩:=List.mem_map.1 he
    exact ⟨Int.le_refl _,by dsimp only;omega⟩)
  obtain ⟨e,he,rfl⟩:=lkp_mem h
  have h3:=h2 e he
  have h4:=h1.len
  have h5:=alP_len hS
  have h6:=congrArg List.length h1.keys
  simp at h6
  unfold floodP at he
  omega
theorem flood_hill {s : Sc} {b : List Ps} (hS : SOk s) (hn : b.Nodup) (hb : ∀ p ∈ b,POk s p ∧ freeP s p = true) : Hill s (floodP s b).1:=by
  obtain ⟨L,hL⟩:=flood_r hS hn hb
  intro z c hz _ hl hc
  obtain ⟨m,y,hm,hy⟩:=hL.hill hS ((hL.lk hS hz c).1 hl) hc
  refine ⟨(m,y),hm, ?_⟩
  simp only [nearer,beq_iff_eq]
  exact (hL.lk hS (hL.ok _ hy).1 (c - 1)).2 hy
/-- The error of PathTo's arguments; its answer. -/
def ptE (s : Sc) (p q : Ps) : Int:=if cpE s p ≠ 0 then cpE s p else if cpE s q ≠ 0 then cpE s q else if freeP s p then 0 else 17
def ptR (s : Sc) (p q : Ps) : List Mv × Int:=if ptE s p q ≠ 0 then ([],ptE s p q) else if freeP s q then dnR s (floodP s [q]).1 p else ([],12)
theorem free_of {s : Sc} {p : Ps} (h : cpE s p = 0) (bx bY sl fx fX fy fY ps : Int) (L : List Lk) (B : List Bx) (Q : List Int) (AL AB AQ : Option Addr) (cL cB cQ : Nat) (w : World) (hs : s = (⟨bx,bY,sl,L,(fx,fX,fy,fY),B⟩ : Sc)) (hp : p = (ps,Q)) (hs1 : SlV w AL (L.flatMap lkV)) (hs2 : SlV w AB (B.flatMap bxV)) (hs3 : SlI w AQ Q) :
    Calls Tryz.prog 107 #[.agg #[.int .i64 bx,.int .i64 bY,.int .i64 sl,.slice AL L.length cL,.int .i64 fx,.int .i64 fX,.int .i64 fy,.int .i64 fY,.slice AB B.length cB,.int .i64 ps,.slice AQ Q.length cQ]] w fun e w' => e = .returned (.bool (freeP s p)) ∧ Below w.heap.size w w':=by
  subst hs;subst hp
  have hS:=(cpE_ok h).1;have hp:=(cpE_ok h).2
  have hbx:=hS.bx;have hbY:=hS.bY;have hlen:=hS.len;have hlk:=hS.lk;have hsl:=hp.sl6 hS;have hn:=hS.nB
  dsimp only at hbx hbY hlen hlk hsl hn
  exact isFree_c bx bY sl fx fX fy fY ps L B Q AL AB AQ cL cB cQ w hp.len (by omega) (by omega) (by omega) (by omega) (by omega) (fun l h => by have:=hlk l h;omega) (hp.rng hS) hs1 hs2 hs3
set_option maxHeartbeats 4000000 in
set_option maxRecDepth 100000 in
theorem pathTo_c (bx bY sl fx fX fy fY ps pt : Int) (L : List Lk) (B : List Bx) (Q T : List Int) (AL AB AQ AT : Option Addr) (cL cB cQ cT : Nat) (w : World) (hL : L.length ≤ 1000) (hB : B.length ≤ 1000) (hQ : Q.length ≤ 1000) (hT : T.length ≤ 1000)
    (hs1 : SlV w AL (L.flatMap lkV)) (hs2 : SlV w AB (B.flatMap bxV)) (hs3 : SlI w AQ Q) (hs4 : SlI w AT T) :
    Calls Tryz.prog 34 #[.agg #[.int .i64 bx,.int .i64 bY,.int .i64 sl,.slice AL L.length cL,.int .i64 fx,.int .i64 fX,.int .i64 fy,.int .i64 fY,.slice AB B.length cB],.agg #[.int .i64 ps,.slice AQ Q.length cQ],.agg #[.int .i64 pt,.slice AT T.length cT]] w (DnEnd w (ptR (⟨bx,bY,sl,L,(fx,fX,fy,fY),B⟩ : Sc) (ps,Q) (pt,T))):=by
  have OPc:=Lib.hid (fun W (h : Below w.heap.size w W) => open_c bx bY sl fx fX fy fY ps L B Q AL AB AQ cL cB cQ W (by omega) (by omega) (by omega) (hs1.below h) (hs2.below h) (hs3.below h))
  have CPc:=Lib.hid (fun W (h : Below w.heap.size w W) => checkPose_c bx bY sl fx fX fy fY pt L B T AL AB AT cL cB cT W (by omega) (by omega) (by omega) (hs1.below h) (hs2.below h) (hs4.below h))
  have FAd:=Lib.hid (fun (h0 : cpE (⟨bx,bY,sl,L,(fx,fX,fy,fY),B⟩ : Sc) (ps,Q) = 0) W (h : Below w.heap.size w W) => free_of h0 bx bY sl fx fX fy fY ps L B Q AL AB AQ cL cB cQ W rfl rfl (hs1.below h) (hs2.below h) (hs3.below h))
  have FBd:=Lib.hid (fun (h0 : cpE (⟨bx,bY,sl,L,(fx,fX,fy,fY),B⟩ : Sc) (pt,T) = 0) W (h : Below w.heap.size w W) => free_of h0 bx bY sl fx fX fy fY pt L B T AL AB AT cL cB cT W rfl rfl (hs1.below h) (hs2.below h) (hs4.below h))
  have FDd:=Lib.hid (fun (h0 : cpE (⟨bx,bY,sl,L,(fx,fX,fy,fY),B⟩ : Sc) (pt,T) = 0) W (h : Below w.heap.size w W) k (hk : k = W.heap.size) => show Calls Tryz.prog 108 #[.slice (some ⟨k,0,none⟩) 1 1] (W.alloc (.cells #[.int .i64 bx,.int .i64 bY,.int .i64 sl,.slice AL L.length cL,.int .i64 fx,.int .i64 fX,.int .i64 fy,.int .i64 fY,.slice AB B.length cB,.int .i64 pt,.slice AT T.length cT] 135)) (FlEnd (⟨bx,bY,sl,L,(fx,fX,fy,fY),B⟩ : Sc) AL AB cL cB W.heap.size W (floodP (⟨bx,bY,sl,L,(fx,fX,fy,fY),B⟩ : Sc) [(pt,T)])) from by
    subst hk
    have hS:=(cpE_ok h0).1;have hp:=(cpE_ok h0).2
    have hlen:=hS.len
    have hlp:=hp.len
    dsimp only at hlen hlp
    refine flood_c W.heap.size bx bY sl fx fX fy fY L B AL AB (some ⟨W.heap.size,0,none⟩) cL cB 1 W (W.alloc (.cells #[.int .i64 bx,.int .i64 bY,.int .i64 sl,.slice AL L.length cL,.int .i64 fx,.int .i64 fX,.int .i64 fy,.int .i64 fY,.slice AB B.length cB,.int .i64 pt,.slice AT T.length cT] 135)) [((pt,T),AT,cT)] hS rfl (hs1.below h) (hs2.below h) (own_of_box (Box.new W 135 #[.int .i64 bx,.int .i64 bY,.int .i64 sl,.slice AL L.length cL,.int .i64 fx,.int .i64 fX,.int .i64 fy,.int .i64 fY,.slice AB B.length cB,.int .i64 pt,.slice AT T.length cT]) (Nat.le_refl _) (by show 1 ≤ maxLen;unfold maxLen;omega) rfl) ?_ ((Below.refl _ _).alloc (Nat.le_refl _) _) (by simp) (by simpa using hp)
    intro x hx
    have e : x = ((pt,T),AT,cT):=by simpa using hx
    subst e
    obtain ⟨b,off,hA,hbq,_⟩:=hs4 0 T[0] (List.getElem?_eq_getElem (by omega))
    exact ⟨(hs4.below h).alloc _,b,off,hA,.inl (by have:=h.size;omega)⟩)
  have DDd:=Lib.hid (fun (h0 : cpE (⟨bx,bY,sl,L,(fx,fX,fy,fY),B⟩ : Sc) (ps,Q) = 0) (h1 : freeP (⟨bx,bY,sl,L,(fx,fX,fy,fY),B⟩ : Sc) (ps,Q) = true) (h2 : cpE (⟨bx,bY,sl,L,(fx,fX,fy,fY),B⟩ : Sc) (pt,T) = 0) (h3 : freeP (⟨bx,bY,sl,L,(fx,fX,fy,fY),B⟩ : Sc) (pt,T) = true) W gM (h : Below w.heap.size w W) (hM : KMap W gM (floodP (⟨bx,bY,sl,L,(fx,fX,fy,fY),B⟩ : Sc) [(pt,T)]).1) => show Calls Tryz.prog 109 #[.agg #[.int .i64 bx,.int .i64 bY,.int .i64 sl,.slice AL L.length cL,.int .i64 fx,.int .i64 fX,.int .i64 fy,.int .i64 fY,.slice AB B.length cB,.int .i64 ps,.slice AQ Q.length cQ],.map (some gM)] W (DnEnd W (dnR (⟨bx,bY,sl,L,(fx,fX,fy,fY),B⟩ : Sc) (floodP (⟨bx,bY,sl,L,(fx,fX,fy,fY),B⟩ : Sc) [(pt,T)]).1 (ps,Q))) from by
    have hS:=(cpE_ok h0).1
    exact downhill_c gM bx bY sl fx fX fy fY ps L B Q AL AB AQ cL cB cQ W _ hS (cpE_ok h0).2 h1 (hs1.below h) (hs2.below h) (hs3.below h) hM (flood_hill hS (by simp) (by simpa using ⟨(cpE_ok h2).2,h3⟩)) (flood_v hS (by simp) (by simpa using (cpE_ok h2).2)))
  have HE:=Lib.hid (show ptE (⟨bx,bY,sl,L,(fx,fX,fy,fY),B⟩ : Sc) (ps,Q) (pt,T) = if cpE (⟨bx,bY,sl,L,(fx,fX,fy,fY),B⟩ : Sc) (ps,Q) ≠ 0 then cpE (⟨bx,bY,sl,L,(fx,fX,fy,fY),B⟩ : Sc) (ps,Q) else if cpE (⟨bx,bY,sl,L,(fx,fX,fy,fY),B⟩ : Sc) (pt,T) ≠ 0 then cpE (⟨bx,bY,sl,L,(fx,fX,fy,fY),B⟩ : Sc) (pt,T) else if freeP (⟨bx,bY,sl,L,(fx,fX,fy,fY),B⟩ : Sc) (ps,Q) then 0 else 17 from rfl)
  have HR:=Lib.hid (show ptR (⟨bx,bY,sl,L,(fx,fX,fy,fY),B⟩ : Sc) (ps,Q) (pt,T) = if ptE (⟨bx,bY,sl,L,(fx,fX,fy,fY),B⟩ : Sc) (ps,Q) (pt,T) ≠ 0 then ([],ptE (⟨bx,bY,sl,L,(fx,fX,fy,fY),B⟩ : Sc) (ps,Q) (pt,T)) else if freeP (⟨bx,bY,sl,L,(fx,fX,fy,fY),B⟩ : Sc) (pt,T) then dnR (⟨bx,bY,sl,L,(fx,fX,fy,fY),B⟩ : Sc) (floodP (⟨bx,bY,sl,L,(fx,fX,fy,fY),B⟩ : Sc) [(pt,T)]).1 (ps,Q) else ([],12) from rfl)
  clear hs1 hs2 hs3 hs4
  generalize dnR (⟨bx,bY,sl,L,(fx,fX,fy,fY),B⟩ : Sc) (floodP (⟨bx,bY,sl,L,(fx,fX,fy,fY),B⟩ : Sc) [(pt,T)]).1 (ps,Q) = DR at *
  generalize floodP (⟨bx,bY,sl,L,(fx,fX,fy,fY),B⟩ : Sc) [(pt,T)] = FP at *
  generalize cpE (⟨bx,bY,sl,L,(fx,fX,fy,fY),B⟩ : Sc) (ps,Q) = r at *
  generalize cpE (⟨bx,bY,sl,L,(fx,fX,fy,fY),B⟩ : Sc) (pt,T) = r2 at *
  generalize freeP (⟨bx,bY,sl,L,(fx,fX,fy,fY),B⟩ : Sc) (ps,Q) = fa at *
  generalize freeP (⟨bx,bY,sl,L,(fx,fX,fy,fY),B⟩ : Sc) (pt,T) = fb at *
  generalize ptE (⟨bx,bY,sl,L,(fx,fX,fy,fY),B⟩ : Sc) (ps,Q) (pt,T) = E at *
  generalize ptR (⟨bx,bY,sl,L,(fx,fX,fy,fY),B⟩ : Sc) (ps,Q) (pt,T) = R at *
  go_enter Tryz.func34,Tryz.ntmps34
  go_upto_region 2 with (first | (go_at_call 106;(with_reducible refine (OPc.out _ ?_).mono ?_);rotate_left;rintro e w2 ⟨rfl,hb2⟩;rotate_left;(focus (exact bB0));have hz2 : w.heap.size + 3 ≤ w2.heap.size:=(by have:=hb2.size;(try simp at this);omega)) | fail)
  obtain ⟨W6,hW6⟩ : ∃ W6 : World,W6 = w2.alloc (.cells #[.int .i64 bx,.int .i64 bY,.int .i64 sl,.slice AL L.length cL,.int .i64 fx,.int .i64 fX,.int .i64 fy,.int .i64 fY,.slice AB B.length cB,.int .i64 ps,.slice AQ Q.length cQ] 135):=⟨_,rfl⟩
  have G0 : Box W6 w2.heap.size 135 #[.int .i64 bx,.int .i64 bY,.int .i64 sl,.slice AL L.length cL,.int .i64 fx,.int .i64 fX,.int .i64 fy,.int .i64 fY,.slice AB B.length cB,.int .i64 ps,.slice AQ Q.length cQ]:=by rw [hW6];exact Box.new _ _ _
  have G1 : Box W6 w.heap.size 30 #[.int .i64 bx,.int .i64 bY,.int .i64 sl,.slice AL L.length cL,.int .i64 fx,.int .i64 fX,.int .i64 fy,.int .i64 fY,.slice AB B.length cB]:=by rw [hW6];exact bX1 hb2
  have G2 : Box W6 (w.heap.size + 1 + 1) 33 #[.int .i64 pt,.slice AT T.length cT]:=by rw [hW6];exact bX1 hb2
  have G5 : Below w.heap.size w W6:=by rw [hW6];exact bB1 hb2
  rw [← hW6]
  clear hW6 hb2
  generalize w2.heap.size = gS at *
  have u0:=G0.cell 0;have u1:=G0.cell 1;have u2:=G0.cell 2;have u3:=G0.cell 3;have u4:=G0.cell 4;have u5:=G0.cell 5;have u6:=G0.cell 6;have u7:=G0.cell 7;have u8:=G0.cell 8;have u9:=G0.cell 9;have u10:=G0.cell 10
  have v0:=G1.cell 0;have v1:=G1.cell 1;have v2:=G1.cell 2;have v3:=G1.cell 3;have v4:=G1.cell 4;have v5:=G1.cell 5;have v6:=G1.cell 6;have v7:=G1.cell 7;have v8:=G1.cell 8
  have v9:=G2.cell 0;have v10:=G2.cell 1
  simp at u0 u1 u2 u3 u4 u5 u6 u7 u8 u9 u10 v0 v1 v2 v3 v4 v5 v6 v7 v8 v9 v10
  have l0:=G0.lt;have l1:=G1.lt;have l2:=G2.lt
  by_cases hr : r = 0
  · have FAc:=Lib.hid (FAd.out hr)
    by_cases hr2 : r2 = 0
    · have FBc:=Lib.hid (FBd.out hr2)
      have FDc:=Lib.hid (FDd.out hr2)
      have hE0 : E = if fa then 0 else 17:=by rw [HE.out,if_neg (by simpa using hr),if_neg (by simpa using hr2)]
      have DDe:=Lib.hid (DDd.out hr)
      have HR2:=Lib.hid hr2
      clear FAd FBd FDd OPc DDd HE
      subst hr
      subst hr2
      cases fa
      · have hE : E = 17:=by simpa using hE0
        have hR : R = ([],17):=by rw [HR.out,if_pos (by omega),hE]
        clear hE0 hE
        subst hR
        go_wp2_with (first | (go_at_call 61;(with_reducible refine (CPc.out _ ?_).mono ?_);rotate_left;rintro e w3 ⟨rfl,hb3⟩;rotate_left;(focus (exact bB1 G5));have hz3 : W6.heap.size ≤ w3.heap.size:=hb3.size;have K0 : Box w3 gS 135 #[.int .i64 bx,.int .i64 bY,.int .i64 sl,.slice AL L.length cL,.int .i64 fx,.int .i64 fX,.int .i64 fy,.int .i64 fY,.slice AB B.length cB,.int .i64 ps,.slice AQ Q.length cQ]:=(by exact bX1 hb3);have K1 : Box w3 w.heap.size 30 #[.int .i64 bx,.int .i64 bY,.int .i64 sl,.slice AL L.length cL,.int .i64 fx,.int .i64 fX,.int .i64 fy,.int .i64 fY,.slice AB B.length cB]:=(by exact bX1 hb3);have K2 : Box w3 (w.heap.size + 1 + 1) 33 #[.int .i64 pt,.slice AT T.length cT]:=(by exact bX1 hb3);have a0:=K0.cell 0;have a1:=K0.cell 1;have a2:=K0.cell 2;have a3:=K0.cell 3;have a4:=K0.cell 4;have a5:=K0.cell 5;have a6:=K0.cell 6;have a7:=K0.cell 7;have a8:=K0.cell 8;have a9:=K0.cell 9;have a10:=K0.cell 10;have b0:=K1.cell 0;have b1:=K1.cell 1;have b2:=K1.cell 2;have b3:=K1.cell 3;have b4:=K1.cell 4;have b5:=K1.cell 5;have b6:=K1.cell 6;have b7:=K1.cell 7;have b8:=K1.cell 8;have b9:=K2.cell 0;have b10:=K2.cell 1;(simp at a0 a1 a2 a3 a4 a5 a6 a7 a8 a9 a10 b0 b1 b2 b3 b4 b5 b6 b7 b8 b9 b10)) | (go_at_call 107;(with_reducible refine (FAc.out _ ?_).mono ?_);rotate_left;rintro e w4 ⟨rfl,hb4⟩;rotate_left;(focus (exact bB2 G5 hb3));have hz4 : w3.heap.size ≤ w4.heap.size:=hb4.size;have J0 : Box w4 gS 135 #[.int .i64 bx,.int .i64 bY,.int .i64 sl,.slice AL L.length cL,.int .i64 fx,.int .i64 fX,.int .i64 fy,.int .i64 fY,.slice AB B.length cB,.int .i64 ps,.slice AQ Q.length cQ]:=(by exact bX1 hb4);have J1 : Box w4 w.heap.size 30 #[.int .i64 bx,.int .i64 bY,.int .i64 sl,.slice AL L.length cL,.int .i64 fx,.int .i64 fX,.int .i64 fy,.int .i64 fY,.slice AB B.length cB]:=(by exact bX1 hb4);have J2 : Box w4 (w.heap.size + 1 + 1) 33 #[.int .i64 pt,.slice AT T.length cT]:=(by exact bX1 hb4);have c0:=J0.cell 0;have c1:=J0.cell 1;have c2:=J0.cell 2;have c3:=J0.cell 3;have c4:=J0.cell 4;have c5:=J0.cell 5;have c6:=J0.cell 6;have c7:=J0.cell 7;have c8:=J0.cell 8;have c9:=J0.cell 9;have c10:=J0.cell 10;have d0:=J1.cell 0;have d1:=J1.cell 1;have d2:=J1.cell 2;have d3:=J1.cell 3;have d4:=J1.cell 4;have d5:=J1.cell 5;have d6:=J1.cell 6;have d7:=J1.cell 7;have d8:=J1.cell 8;have d9:=J2.cell 0;have d10:=J2.cell 1;(simp at c0 c1 c2 c3 c4 c5 c6 c7 c8 c9 c10 d0 d1 d2 d3 d4 d5 d6 d7 d8 d9 d10)) | fail)
        go_ret2
        exact ⟨none,0,rfl,⟨rfl,.inl ⟨rfl,rfl⟩⟩,by exact bB3 G5 hb3 hb4⟩
      · have hE : E = 0:=by simpa using hE0
        cases fb
        · have hR : R = ([],12):=by rw [HR.out,if_neg (by omega)];rfl
          clear hE0 hE
          subst hR
          go_wp2_with (first | (go_at_call 61;(with_reducible refine (CPc.out _ ?_).mono ?_);rotate_left;rintro e w3 ⟨rfl,hb3⟩;rotate_left;(focus (exact bB1 G5));have hz3 : W6.heap.size ≤ w3.heap.size:=hb3.size;have K0 : Box w3 gS 135 #[.int .i64 bx,.int .i64 bY,.int .i64 sl,.slice AL L.length cL,.int .i64 fx,.int .i64 fX,.int .i64 fy,.int .i64 fY,.slice AB B.length cB,.int .i64 ps,.slice AQ Q.length cQ]:=(by exact bX1 hb3);have K1 : Box w3 w.heap.size 30 #[.int .i64 bx,.int .i64 bY,.int .i64 sl,.slice AL L.length cL,.int .i64 fx,.int .i64 fX,.int .i64 fy,.int .i64 fY,.slice AB B.length cB]:=(by exact bX1 hb3);have K2 : Box w3 (w.heap.size + 1 + 1) 33 #[.int .i64 pt,.slice AT T.length cT]:=(by exact bX1 hb3);have a0:=K0.cell 0;have a1:=K0.cell 1;have a2:=K0.cell 2;have a3:=K0.cell 3;have a4:=K0.cell 4;have a5:=K0.cell 5;have a6:=K0.cell 6;have a7:=K0.cell 7;have a8:=K0.cell 8;have a9:=K0.cell 9;have a10:=K0.cell 10;have b0:=K1.cell 0;have b1:=K1.cell 1;have b2:=K1.cell 2;have b3:=K1.cell 3;have b4:=K1.cell 4;have b5:=K1.cell 5;have b6:=K1.cell 6;have b7:=K1.cell 7;have b8:=K1.cell 8;have b9:=K2.cell 0;have b10:=K2.cell 1;(simp at a0 a1 a2 a3 a4 a5 a6 a7 a8 a9 a10 b0 b1 b2 b3 b4 b5 b6 b7 b8 b9 b10)) | (go_at_call 107;(with_reducible refine (FAc.out _ ?_).mono ?_);rotate_left;rintro e w4 ⟨rfl,hb4⟩;rotate_left;(focus (exact bB2 G5 hb3));have hz4 : w3.heap.size ≤ w4.heap.size:=hb4.size;have J0 : Box w4 gS 135 #[.int .i64 bx,.int .i64 bY,.int .i64 sl,.slice AL L.length cL,.int .i64 fx,.int .i64 fX,.int .i64 fy,.int .i64 fY,.slice AB B.length cB,.int .i64 ps,.slice AQ Q.length cQ]:=(by exact bX1 hb4);have J1 : Box w4 w.heap.size 30 #[.int .i64 bx,.int .i64 bY,.int .i64 sl,.slice AL L.length cL,.int .i64 fx,.int .i64 fX,.int .i64 fy,.int .i64 fY,.slice AB B.length cB]:=(by exact bX1 hb4);have J2 : Box w4 (w.heap.size + 1 + 1) 33 #[.int .i64 pt,.slice AT T.length cT]:=(by exact bX1 hb4);have c0:=J0.cell 0;have c1:=J0.cell 1;have c2:=J0.cell 2;have c3:=J0.cell 3;have c4:=J0.cell 4;have c5:=J0.cell 5;have c6:=J0.cell 6;have c7:=J0.cell 7;have c8:=J0.cell 8;have c9:=J0.cell 9;have c10:=J0.cell 10;have d0:=J1.cell 0;have d1:=J1.cell 1;have d2:=J1.cell 2;have d3:=J1.cell 3;have d4:=J1.cell 4;have d5:=J1.cell 5;have d6:=J1.cell 6;have d7:=J1.cell 7;have d8:=J1.cell 8;have d9:=J2.cell 0;have d10:=J2.cell 1;(simp at c0 c1 c2 c3 c4 c5 c6 c7 c8 c9 c10 d0 d1 d2 d3 d4 d5 d6 d7 d8 d9 d10)) | (go_at_call 107;(with_reducible refine (FBc.out _ ?_).mono ?_);rotate_left;rintro e w5 ⟨rfl,hb5⟩;rotate_left;(focus (exact bB3 G5 hb3 hb4));have hz5 : w4.heap.size + 1 ≤ w5.heap.size:=(by have:=hb5.size;(try simp at this);omega);have I0 : Box w5 gS 135 #[.int .i64 bx,.int .i64 bY,.int .i64 sl,.slice AL L.length cL,.int .i64 fx,.int .i64 fX,.int .i64 fy,.int .i64 fY,.slice AB B.length cB,.int .i64 ps,.slice AQ Q.length cQ]:=(by exact bX1 hb5);have I1 : Box w5 w4.heap.size 135 #[.int .i64 bx,.int .i64 bY,.int .i64 sl,.slice AL L.length cL,.int .i64 fx,.int .i64 fX,.int .i64 fy,.int .i64 fY,.slice AB B.length cB,.int .i64 pt,.slice AT T.length cT]:=(by exact bX1 hb5);have f0:=I0.cell 0;have f1:=I0.cell 1;have f2:=I0.cell 2;have f3:=I0.cell 3;have f4:=I0.cell 4;have f5:=I0.cell 5;have f6:=I0.cell 6;have f7:=I0.cell 7;have f8:=I0.cell 8;have f9:=I0.cell 9;have f10:=I0.cell 10;have g0:=I1.cell 0;have g1:=I1.cell 1;have g2:=I1.cell 2;have g3:=I1.cell 3;have g4:=I1.cell 4;have g5:=I1.cell 5;have g6:=I1.cell 6;have g7:=I1.cell 7;have g8:=I1.cell 8;have g9:=I1.cell 9;have g10:=I1.cell 10;(simp at f0 f1 f2 f3 f4 f5 f6 f7 f8 f9 f10 g0 g1 g2 g3 g4 g5 g6 g7 g8 g9 g10);have hB5 : Below w.heap.size w w5:=(by exact bB4 G5 hb3 hb4 hb5)) | fail)
          go_ret2
          exact ⟨none,0,rfl,⟨rfl,.inl ⟨rfl,rfl⟩⟩,by exact bB1 hB5⟩
        · have hR : R = DR:=by rw [HR.out,if_neg (by omega)];rfl
          have DDc:=Lib.hid (DDe.out rfl HR2.out rfl)
          clear hE0 hE DDe
          subst hR
          go_wp2_with (first | (go_at_call 61;(with_reducible refine (CPc.out _ ?_).mono ?_);rotate_left;rintro e w3 ⟨rfl,hb3⟩;rotate_left;(focus (exact bB1 G5));have hz3 : W6.heap.size ≤ w3.heap.size:=hb3.size;have K0 : Box w3 gS 135 #[.int .i64 bx,.int .i64 bY,.int .i64 sl,.slice AL L.length cL,.int .i64 fx,.int .i64 fX,.int .i64 fy,.int .i64 fY,.slice AB B.length cB,.int .i64 ps,.slice AQ Q.length cQ]:=(by exact bX1 hb3);have K1 : Box w3 w.heap.size 30 #[.int .i64 bx,.int .i64 bY,.int .i64 sl,.slice AL L.length cL,.int .i64 fx,.int .i64 fX,.int .i64 fy,.int .i64 fY,.slice AB B.length cB]:=(by exact bX1 hb3);have K2 : Box w3 (w.heap.size + 1 + 1) 33 #[.int .i64 pt,.slice AT T.length cT]:=(by exact bX1 hb3);have a0:=K0.cell 0;have a1:=K0.cell 1;have a2:=K0.cell 2;have a3:=K0.cell 3;have a4:=K0.cell 4;have a5:=K0.cell 5;have a6:=K0.cell 6;have a7:=K0.cell 7;have a8:=K0.cell 8;have a9:=K0.cell 9;have a10:=K0.cell 10;have b0:=K1.cell 0;have b1:=K1.cell 1;have b2:=K1.cell 2;have b3:=K1.cell 3;have b4:=K1.cell 4;have b5:=K1.cell 5;have b6:=K1.cell 6;have b7:=K1.cell 7;have b8:=K1.cell 8;have b9:=K2.cell 0;have b10:=K2.cell 1;(simp at a0 a1 a2 a3 a4 a5 a6 a7 a8 a9 a10 b0 b1 b2 b3 b4 b5 b6 b7 b8 b9 b10)) | (go_at_call 107;(with_reducible refine (FAc.out _ ?_).mono ?_);rotate_left;rintro e w4 ⟨rfl,hb4⟩;rotate_left;(focus (exact bB2 G5 hb3));have hz4 : w3.heap.size ≤ w4.heap.size:=hb4.size;have J0 : Box w4 gS 135 #[.int .i64 bx,.int .i64 bY,.int .i64 sl,.slice AL L.length cL,.int .i64 fx,.int .i64 fX,.int .i64 fy,.int .i64 fY,.slice AB B.length cB,.int .i64 ps,.slice AQ Q.length cQ]:=(by exact bX1 hb4);have J1 : Box w4 w.heap.size 30 #[.int .i64 bx,.int .i64 bY,.int .i64 sl,.slice AL L.length cL,.int .i64 fx,.int .i64 fX,.int .i64 fy,.int .i64 fY,.slice AB B.length cB]:=(by exact bX1 hb4);have J2 : Box w4 (w.heap.size + 1 + 1) 33 #[.int .i64 pt,.slice AT T.length cT]:=(by exact bX1 hb4);have c0:=J0.cell 0;have c1:=J0.cell 1;have c2:=J0.cell 2;have c3:=J0.cell 3;have c4:=J0.cell 4;have c5:=J0.cell 5;have c6:=J0.cell 6;have c7:=J0.cell 7;have c8:=J0.cell 8;have c9:=J0.cell 9;have c10:=J0.cell 10;have d0:=J1.cell 0;have d1:=J1.cell 1;have d2:=J1.cell 2;have d3:=J1.cell 3;have d4:=J1.cell 4;have d5:=J1.cell 5;have d6:=J1.cell 6;have d7:=J1.cell 7;have d8:=J1.cell 8;have d9:=J2.cell 0;have d10:=J2.cell 1;(simp at c0 c1 c2 c3 c4 c5 c6 c7 c8 c9 c10 d0 d1 d2 d3 d4 d5 d6 d7 d8 d9 d10)) | (go_at_call 107;(with_reducible refine (FBc.out _ ?_).mono ?_);rotate_left;rintro e w5 ⟨rfl,hb5⟩;rotate_left;(focus (exact bB3 G5 hb3 hb4));have hz5 : w4.heap.size + 1 ≤ w5.heap.size:=(by have:=hb5.size;(try simp at this);omega);have I0 : Box w5 gS 135 #[.int .i64 bx,.int .i64 bY,.int .i64 sl,.slice AL L.length cL,.int .i64 fx,.int .i64 fX,.int .i64 fy,.int .i64 fY,.slice AB B.length cB,.int .i64 ps,.slice AQ Q.length cQ]:=(by exact bX1 hb5);have I1 : Box w5 w4.heap.size 135 #[.int .i64 bx,.int .i64 bY,.int .i64 sl,.slice AL L.length cL,.int .i64 fx,.int .i64 fX,.int .i64 fy,.int .i64 fY,.slice AB B.length cB,.int .i64 pt,.slice AT T.length cT]:=(by exact bX1 hb5);have f0:=I0.cell 0;have f1:=I0.cell 1;have f2:=I0.cell 2;have f3:=I0.cell 3;have f4:=I0.cell 4;have f5:=I0.cell 5;have f6:=I0.cell 6;have f7:=I0.cell 7;have f8:=I0.cell 8;have f9:=I0.cell 9;have f10:=I0.cell 10;have g0:=I1.cell 0;have g1:=I1.cell 1;have g2:=I1.cell 2;have g3:=I1.cell 3;have g4:=I1.cell 4;have g5:=I1.cell 5;have g6:=I1.cell 6;have g7:=I1.cell 7;have g8:=I1.cell 8;have g9:=I1.cell 9;have g10:=I1.cell 10;(simp at f0 f1 f2 f3 f4 f5 f6 f7 f8 f9 f10 g0 g1 g2 g3 g4 g5 g6 g7 g8 g9 g10);have hB5 : Below w.heap.size w w5:=(by exact bB4 G5 hb3 hb4 hb5)) | (go_at_call 108;(with_reducible refine (FDc.out w5 hB5 _ rfl).mono ?_);rintro e w6 hF6;obtain ⟨gM,A',c',bs',rfl,hM6,_,_,_,hb6⟩:=hF6;have H0 : Box w6 gS 135 #[.int .i64 bx,.int .i64 bY,.int .i64 sl,.slice AL L.length cL,.int .i64 fx,.int .i64 fX,.int .i64 fy,.int .i64 fY,.slice AB B.length cB,.int .i64 ps,.slice AQ Q.length cQ]:=(by exact bX1 hb6);have hz6:=hb6.size;have k0:=H0.cell 0;have k1:=H0.cell 1;have k2:=H0.cell 2;have k3:=H0.cell 3;have k4:=H0.cell 4;have k5:=H0.cell 5;have k6:=H0.cell 6;have k7:=H0.cell 7;have k8:=H0.cell 8;have k9:=H0.cell 9;have k10:=H0.cell 10;(simp at k0 k1 k2 k3 k4 k5 k6 k7 k8 k9 k10);have lg6:=H0.lt) | (go_at_call 109;(with_reducible refine (DDc.out w6 _ (by exact bB2 hB5 hb6) hM6).mono ?_);rintro e w7 hD7;obtain ⟨A7,c7,rfl,ho7,hb7⟩:=hD7) | fail)
          go_ret2
          exact ⟨A7,c7,rfl,own_base ho7 (by have:=hB5.size;omega),by exact bB3 hB5 hb6 hb7⟩
    · have e2:=beqF hr2
      have e3:=bneT hr2
      have hR : R = ([],r2):=by
        have hE : E = r2:=by rw [HE.out,if_neg (by simpa using hr),if_pos hr2]
        rw [HR.out,hE,if_pos hr2]
      clear FAd FBd FDd OPc DDd HE hr2
      subst hr
      subst hR
      go_wp2_with (first | (go_at_call 61;(with_reducible refine (CPc.out _ ?_).mono ?_);rotate_left;rintro e w3 ⟨rfl,hb3⟩;rotate_left;(focus (exact bB1 G5));have hz3 : W6.heap.size ≤ w3.heap.size:=hb3.size;have K0 : Box w3 gS 135 #[.int .i64 bx,.int .i64 bY,.int .i64 sl,.slice AL L.length cL,.int .i64 fx,.int .i64 fX,.int .i64 fy,.int .i64 fY,.slice AB B.length cB,.int .i64 ps,.slice AQ Q.length cQ]:=(by exact bX1 hb3);have K1 : Box w3 w.heap.size 30 #[.int .i64 bx,.int .i64 bY,.int .i64 sl,.slice AL L.length cL,.int .i64 fx,.int .i64 fX,.int .i64 fy,.int .i64 fY,.slice AB B.length cB]:=(by exact bX1 hb3);have K2 : Box w3 (w.heap.size + 1 + 1) 33 #[.int .i64 pt,.slice AT T.length cT]:=(by exact bX1 hb3);have a0:=K0.cell 0;have a1:=K0.cell 1;have a2:=K0.cell 2;have a3:=K0.cell 3;have a4:=K0.cell 4;have a5:=K0.cell 5;have a6:=K0.cell 6;have a7:=K0.cell 7;have a8:=K0.cell 8;have a9:=K0.cell 9;have a10:=K0.cell 10;have b0:=K1.cell 0;have b1:=K1.cell 1;have b2:=K1.cell 2;have b3:=K1.cell 3;have b4:=K1.cell 4;have b5:=K1.cell 5;have b6:=K1.cell 6;have b7:=K1.cell 7;have b8:=K1.cell 8;have b9:=K2.cell 0;have b10:=K2.cell 1;(simp at a0 a1 a2 a3 a4 a5 a6 a7 a8 a9 a10 b0 b1 b2 b3 b4 b5 b6 b7 b8 b9 b10)) | fail)
      go_ret2
      exact ⟨none,0,rfl,⟨rfl,.inl ⟨rfl,rfl⟩⟩,by exact bB2 G5 hb3⟩
  · have e1:=beqF hr
    have e2:=bneT hr
    have hR : R = ([],r):=by
      have hE : E = r:=by rw [HE.out,if_pos hr]
      rw [HR.out,hE,if_pos hr]
    clear FAd FBd FDd OPc DDd HE hr
    subst hR
    go_wp2_with fail
    go_ret2
    exact ⟨none,0,rfl,⟨rfl,.inl ⟨rfl,rfl⟩⟩,by exact bB1 G5⟩
end Go.Proofs.YtpnfgmgoafgcbaaGreat

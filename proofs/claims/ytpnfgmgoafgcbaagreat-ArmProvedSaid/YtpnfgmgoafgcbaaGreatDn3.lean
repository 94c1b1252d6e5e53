/-
  The way downhill (chapter 6): the rounds, and downhill, whole.
-/
import Derived.Test.YtpnfgmgoafgcbaaGreatA9
set_option linter.all false
set_option linter.unusedVariables false
namespace Go.Proofs.YtpnfgmgoafgcbaaGreat
open Go.RowKit Go.Shelf
attribute [local go_sem] Oper.semAt_some
noncomputable def dLoop : Code:=(((Tryz.f109.body.map loopsOf).getD [])[0]?).getD .skip
/-- From each pose with a number above 0 there is a move that is one nearer. -/
def Hill (s : Sc) (es : List (Ky × Int)) : Prop:=∀ z c,POk s z → freeP s z = true → lkp es (kyP z) = some c → 0 < c → ∃ x ∈ allK s z,nearer es c x = true
theorem dnP_succ {s : Sc} {es : List (Ky × Int)} {n : Nat} {p : Ps} {x : Mv × Ps} (h : (allK s p).find? (nearer es ((n + 1 : Nat) : Int)) = some x) : dnP s es (n + 1) p = x.1 :: dnP s es n x.2:=by
  have e : nearer es ((n + 1 : Nat) : Int) = fun x => lkp es (kyP x.2) == some (n : Int):=by
    funext y
    unfold nearer
    rw [show ((n + 1 : Nat) : Int) - 1 = n by omega]
  rw [e] at h
  rw [dnP,h]
set_option maxHeartbeats 4000000 in
set_option maxRecDepth 100000 in
theorem drounds_c (h Bl Bo gM : Nat) (bx bY sl fx fX fy fY : Int) (L : List Lk) (B : List Bx) (AL AB : Option Addr) (cL cB : Nat) (w0 : World) (es : List (Ky × Int)) (T : List Mv) (PQ : Exit → Act → World → Prop)
    (hS : SOk (⟨bx,bY,sl,L,(fx,fX,fy,fY),B⟩ : Sc)) (hs1 : SlV w0 AL (L.flatMap lkV)) (hs2 : SlV w0 AB (B.flatMap bxV)) (hH : Hill (⟨bx,bY,sl,L,(fx,fX,fy,fY),B⟩ : Sc) es)
    (hQ : ∀ (ds : List Nat) (W : World) (p : Ps) (AQ : Option Addr) (cQ : Nat) (t0 t1 t4 t5 t7 t9 t10 t11 t12 t13 t14 t15 t16 t17 t18 t19 t20 t21 t22 t23 t24 t25 t26 t27 t28 t29 t30 t31 t32 t33 t34 t35 t36 t37 t38 t39 t40 t41 t42 t43 t44 t45 t46 t47 t48 t49 t50 : Value),DI (⟨bx,bY,sl,L,(fx,fX,fy,fY),B⟩ : Sc) AL AB cL cB h Bl Bo gM w0 es p AQ cQ 0 T W → MarksOk h W ds → PQ (.exit 0) ⟨#[t0,t1,Value.pointer (some ⟨h,0,none⟩),Value.pointer (some ⟨h + 1,0,none⟩),t4,t5,Value.pointer (some ⟨Bl,0,none⟩),t7,Value.pointer (some ⟨Bo,0,none⟩),t9,t10,t11,t12,t13,t14,t15,t16,t17,t18,t19,t20,t21,t22,t23,t24,t25,t26,t27,t28,t29,t30,t31,t32,t33,t34,t35,t36,t37,t38,t39,t40,t41,t42,t43,t44,t45,t46,t47,t48,t49,t50],ds.map mk⟩ W) :
    ∀ (n : Nat) (ps : Int) (Q : List Int) (AQ : Option Addr) (cQ : Nat) (out : List Mv) (ds : List Nat) (W : World) (t0 t1 t4 t5 t7 t9 t10 t11 t12 t13 t14 t15 t16 t17 t18 t19 t20 t21 t22 t23 t24 t25 t26 t27 t28 t29 t30 t31 t32 t33 t34 t35 t36 t37 t38 t39 t40 t41 t42 t43 t44 t45 t46 t47 t48 t49 t50 : Value),DI (⟨bx,bY,sl,L,(fx,fX,fy,fY),B⟩ : Sc) AL AB cL cB h Bl Bo gM w0 es (ps,Q) AQ cQ (n : Int) out W → POk (⟨bx,bY,sl,L,(fx,fX,fy,fY),B⟩ : Sc) (ps,Q) → freeP (⟨bx,bY,sl,L,(fx,fX,fy,fY),B⟩ : Sc) (ps,Q) = true → lkp es (kyP (ps,Q)) = some (n : Int) → MarksOk h W ds → out.length + n ≤ 1000 → out ++ dnP (⟨bx,bY,sl,L,(fx,fX,fy,fY),B⟩ : Sc) es n (ps,Q) = T →
      Code.roundsIn Fence.wide 6 Tryz.prog dLoop PQ (n + 1) ⟨#[t0,t1,Value.pointer (some ⟨h,0,none⟩),Value.pointer (some ⟨h + 1,0,none⟩),t4,t5,Value.pointer (some ⟨Bl,0,none⟩),t7,Value.pointer (some ⟨Bo,0,none⟩),t9,t10,t11,t12,t13,t14,t15,t16,t17,t18,t19,t20,t21,t22,t23,t24,t25,t26,t27,t28,t29,t30,t31,t32,t33,t34,t35,t36,t37,t38,t39,t40,t41,t42,t43,t44,t45,t46,t47,t48,t49,t50],ds.map mk⟩ W:=by
  intro n
  induction n with
  | zero =>
    intro ps Q AQ cQ out ds W t0 t1 t4 t5 t7 t9 t10 t11 t12 t13 t14 t15 t16 t17 t18 t19 t20 t21 t22 t23 t24 t25 t26 t27 t28 t29 t30 t31 t32 t33 t34 t35 t36 t37 t38 t39 t40 t41 t42 t43 t44 t45 t46 t47 t48 t49 t50 hI hp hf hk hM hn hT
    rw [roundsIn_succ]
    unfold dLoop
    conv => arg 4;whnf
    have c0:=hI.boxL.cell 0
    have l0:=hI.boxL.lt
    simp at c0
    have e : out = T:=by rw [← hT];simp [dnP]
    subst e
    have HI:=Lib.hid hI
    have HM:=Lib.hid hM
    clear hI hM hk
    gi_wp2_with fail
    exact hQ _ _ _ _ _ _ _ _ _ _ _ _ _ _ _ _ _ _ _ _ _ _ _ _ _ _ _ _ _ _ _ _ _ _ _ _ _ _ _ _ _ _ _ _ _ _ _ _ _ _ _ _ HI.out HM.out
  | succ n ih =>
    intro ps Q AQ cQ out ds W t0 t1 t4 t5 t7 t9 t10 t11 t12 t13 t14 t15 t16 t17 t18 t19 t20 t21 t22 t23 t24 t25 t26 t27 t28 t29 t30 t31 t32 t33 t34 t35 t36 t37 t38 t39 t40 t41 t42 t43 t44 t45 t46 t47 t48 t49 t50 hI hp hf hk hM hn hT
    rw [roundsIn_succ]
    unfold dLoop
    conv => arg 4;whnf
    have hlq:=hI.boxL.cell 0
    have l0:=hI.boxL.lt
    have bA:=hI.boxA
    have c0:=bA.cell 0;have c1:=bA.cell 1;have c2:=bA.cell 2;have c3:=bA.cell 3;have c4:=bA.cell 4;have c5:=bA.cell 5;have c6:=bA.cell 6;have c7:=bA.cell 7;have c8:=bA.cell 8;have c9:=bA.cell 9;have c10:=bA.cell 10
    simp at c0 c1 c2 c3 c4 c5 c6 c7 c8 c9 c10 hlq
    have lA:=hI.boxA.lt
    have hgt : decide ((0 : Int) < (n : Int) + 1) = true:=decide_eq_true (by omega)
    obtain ⟨y,hy1,hy2⟩:=hH _ _ hp hf hk (by omega)
    have HI:=Lib.hid hI
    have HM:=Lib.hid hM
    have HP:=Lib.hid hp
    have HK:=Lib.hid hk
    have HT:=Lib.hid hT
    clear hI hM hk hT hp hf bA
    gi_wp2_with (refine ⟨trivial, ?_⟩;gi_at_call 116;refine (moves_in Fence.wide _ trivial rfl _ _ rfl).mono ?_;rintro e w' ⟨rfl,rfl⟩)
    have hb : Below W.heap.size W (W.alloc (.cells #[.int .i64 bx,.int .i64 bY,.int .i64 sl,.slice AL L.length cL,.int .i64 fx,.int .i64 fX,.int .i64 fy,.int .i64 fY,.slice AB B.length cB,.int .i64 ps,.slice AQ Q.length cQ] 135)):=by exact bB0
    refine drange_c h Bl Bo gM W.heap.size bx bY sl fx fX fy fY ps ((n + 1 : Nat) : Int) L B Q AL AB AQ cL cB cQ w0 _ es out (ds.map mk) _ hS HP.out (HI.out.keep hb) hs1 hs2 (Box.new _ _ _) (by omega) (by omega) ⟨y,hy1,hy2⟩ ?q _ _ _ _ _ _ _ _ _ _ _ _ _ _ _ _ _ _ _ _ _ _ _ _ _ _ _ _ _ _ _ _ _ _ _ _ _ _ _ _ _ _ _ _ _ _
    case q =>
      intro D W' x hD hfx hI' hk' hDD t0 t1 t4 t5 t7 t9 t10 t11 t12 t13 t14 t15 t16 t17 t18 t19 t20 t21 t22 t23 t24 t25 t27 t28 t29 t30 t31 t32 t33 t34 t35 t36 t37 t38 t39 t40 t41 t42 t43 t44 t45 t46 t47 t48 t49 t50
      simp at hD
      obtain ⟨m,⟨P1,P2⟩,gQ,capQ⟩:=x
      dsimp only at hI'
      have hmem : (m,(P1,P2)) ∈ allK (⟨bx,bY,sl,L,(fx,fX,fy,fY),B⟩ : Sc) (ps,Q):=List.mem_of_find?_eq_some hfx
      have hpo:=allK_ok HP.out hmem
      have hl : lkp es (kyP (P1,P2)) = some (n : Int):=by
        have:=List.find?_some hfx
        simp only [nearer,kyM,beq_iff_eq] at this
        rw [this,show ((n + 1 : Nat) : Int) - 1 = n by omega]
      rw [show ((n + 1 : Nat) : Int) - 1 = n by omega] at hI'
      have hT' : (out ++ [m]) ++ dnP (⟨bx,bY,sl,L,(fx,fX,fy,fY),B⟩ : Sc) es n (P1,P2) = T:=by
        rw [← HT.out,dnP_succ hfx]
        simp [kyM]
      have hM' : MarksOk h W' (D :: ds):=by
        refine (HM.out.keeps (((KeepsOthers.alloc W _).from h).trans hk')).cons (by omega) (fun hm => ?_) hDD
        have:=HM.out.lt D hm
        omega
      have HI':=Lib.hid hI'
      have HM':=Lib.hid hM'
      have HL:=Lib.hid hl
      clear hI' hM' hl hk' hfx hmem
      gi_wp2_with fail
      exact ih P1 P2 (some ⟨gQ,0,none⟩) capQ (out ++ [m]) (D :: ds) W' _ _ _ _ _ _ _ _ _ _ _ _ _ _ _ _ _ _ _ _ _ _ _ _ _ _ _ _ _ _ _ _ _ _ _ _ _ _ _ _ _ _ _ _ _ _ _ HI'.out hpo.1 hpo.2 HL.out HM'.out (by simp;omega) hT'
/-- The way downhill from a pose, or the error. -/
def dnR (s : Sc) (es : List (Ky × Int)) (p : Ps) : List Mv × Int:=match lkp es (kyP p) with
  | none => ([],12)
  | some d => (dnP s es d.toNat p,0)
/-- How downhill ends. -/
def DnEnd (w : World) (R : List Mv × Int) (e : Ending) (w' : World) : Prop :=
  ∃ (A : Option Addr) (c : Nat),e = .returned (.tuple #[.slice A R.1.length c,.int .i64 R.2]) ∧ w'.ownsRow w.heap.size 84 2 (.slice A R.1.length c) R.1.length (R.1.flatMap mvV) ∧ Below w.heap.size w w'
set_option maxHeartbeats 4000000 in
set_option maxRecDepth 100000 in
theorem downhill_c (gM : Nat) (bx bY sl fx fX fy fY ps : Int) (L : List Lk) (B : List Bx) (Q : List Int) (AL AB AQ : Option Addr) (cL cB cQ : Nat) (w : World) (es : List (Ky × Int))
    (hS : SOk (⟨bx,bY,sl,L,(fx,fX,fy,fY),B⟩ : Sc)) (hp : POk (⟨bx,bY,sl,L,(fx,fX,fy,fY),B⟩ : Sc) (ps,Q)) (hf : freeP (⟨bx,bY,sl,L,(fx,fX,fy,fY),B⟩ : Sc) (ps,Q) = true) (hs1 : SlV w AL (L.flatMap lkV)) (hs2 : SlV w AB (B.flatMap bxV)) (hs3 : SlI w AQ Q) (hM : KMap w gM es) (hH : Hill (⟨bx,bY,sl,L,(fx,fX,fy,fY),B⟩ : Sc) es) (hv : ∀ k c,lkp es k = some c → 0 ≤ c ∧ c ≤ 1000) :
    Calls Tryz.prog 109 #[.agg #[.int .i64 bx,.int .i64 bY,.int .i64 sl,.slice AL L.length cL,.int .i64 fx,.int .i64 fX,.int .i64 fy,.int .i64 fY,.slice AB B.length cB,.int .i64 ps,.slice AQ Q.length cQ],.map (some gM)] w (DnEnd w (dnR (⟨bx,bY,sl,L,(fx,fX,fy,fY),B⟩ : Sc) es (ps,Q))):=by
  have hL:=hS.len
  have hQl:=hp.len
  dsimp only at hL hQl
  have hq1 : 0 < Q.length:=by omega
  have hq3 : Q.length ≤ 3:=by omega
  clear hQl
  have KYc:=Lib.hid (fun w' (h : Below w.heap.size w w') => key_c ps Q AQ cQ w' hq1 hq3 (hs3.below h))
  obtain ⟨k0,k1,k2,k3,hk⟩ : ∃ k0 k1 k2 k3,kyP (ps,Q) = (k0,k1,k2,k3):=⟨_,_,_,_,rfl⟩
  have hkv : kyV (ps,Q) = #[.int .i64 k0,.int .i64 k1,.int .i64 k2,.int .i64 k3]:=by
    have:=kyP_V (ps,Q);rw [hk] at this;exact Value.agg.inj this
  rw [hkv] at KYc
  have HR:=Lib.hid (show dnR (⟨bx,bY,sl,L,(fx,fX,fy,fY),B⟩ : Sc) es (ps,Q) = match lkp es (k0,k1,k2,k3) with | none => ([],12) | some d => (dnP (⟨bx,bY,sl,L,(fx,fX,fy,fY),B⟩ : Sc) es d.toNat (ps,Q),0) by unfold dnR;rw [hk])
  generalize dnR (⟨bx,bY,sl,L,(fx,fX,fy,fY),B⟩ : Sc) es (ps,Q) = R at *
  have HS1:=Lib.hid hs1
  have HS2:=Lib.hid hs2
  have HS3:=Lib.hid hs3
  have HP:=Lib.hid hp
  have HFr:=Lib.hid hf
  have HM:=Lib.hid hM
  have HV:=Lib.hid hv
  have HK:=Lib.hid hk
  clear hs1 hs2 hs3 hkv hM hv hk hp hf
  refine callsIn_wide.1 (callsIn_of_wp_marks (n:=6) Tryz.func109 rfl trivial ?_ rfl)
  refine wpIn_wide.2 ?_
  simp only [Tryz.ntmps109,List.size_toArray,List.length_cons,List.length_nil,Nat.reduceAdd,Nat.reduceSub,Array.replicate_succ,Array.replicate_zero,List.push_toArray,List.append_toArray,List.nil_append,List.cons_append]
  go_upto_region 1 with fail
  obtain ⟨W6,hW6⟩ : ∃ W6 : World,W6 = (w.alloc (.cells #[.int .i64 bx,.int .i64 bY,.int .i64 sl,.slice AL L.length cL,.int .i64 fx,.int .i64 fX,.int .i64 fy,.int .i64 fY,.slice AB B.length cB,.int .i64 ps,.slice AQ Q.length cQ] 135)).alloc (.cells #[.map (some gM)] 161):=⟨_,rfl⟩
  have G0 : Box W6 w.heap.size 135 #[.int .i64 bx,.int .i64 bY,.int .i64 sl,.slice AL L.length cL,.int .i64 fx,.int .i64 fX,.int .i64 fy,.int .i64 fY,.slice AB B.length cB,.int .i64 ps,.slice AQ Q.length cQ]:=by rw [hW6];exact bX0
  have G1 : Box W6 (w.heap.size + 1) 161 #[.map (some gM)]:=by rw [hW6];exact bX0
  have G5 : Below w.heap.size w W6:=by rw [hW6];exact bB0
  have M6 : KMap W6 gM es:=HM.out.below G5 HM.out.lt
  rw [← hW6]
  clear hW6
  have l0:=G0.lt;have l1:=G1.lt
  go_cut [6,7] from 13 to 20 (fun s6 s7 wx => ∃ Bl,s6 = .pointer (some ⟨Bl,0,none⟩) ∧ s7 = .bool (lkp es (k0,k1,k2,k3)).isSome ∧ w.heap.size + 2 ≤ Bl ∧ Box wx Bl 3 #[.int .i64 ((lkp es (k0,k1,k2,k3)).getD 0)] ∧ Box wx w.heap.size 135 #[.int .i64 bx,.int .i64 bY,.int .i64 sl,.slice AL L.length cL,.int .i64 fx,.int .i64 fX,.int .i64 fy,.int .i64 fY,.slice AB B.length cB,.int .i64 ps,.slice AQ Q.length cQ] ∧ Box wx (w.heap.size + 1) 161 #[.map (some gM)] ∧ Below w.heap.size w wx)
  case first =>
    ((focus (refine region_open kR (fun R hR => ?_);refine heldR (S:=(fun w' => Box w' w.heap.size 135 #[.int .i64 bx,.int .i64 bY,.int .i64 sl,.slice AL L.length cL,.int .i64 fx,.int .i64 fX,.int .i64 fy,.int .i64 fY,.slice AB B.length cB,.int .i64 ps,.slice AQ Q.length cQ] ∧ Box w' (w.heap.size + 1) 161 #[.map (some gM)] ∧ KMap w' gM es)) ?_ (fun hHeld => ?_);(focus ((try dsimp only);((refine ⟨?_, ?_, ?_⟩;((first | exact bX0 | exact bX1 hb3));((first | exact bX0 | exact bX1 hb3));(first | exact (M6.drew).below hb3 M6.lt | exact (((M6.drew).below hb3 M6.lt).alloc _) | exact (((M6.drew).below hb3 M6.lt).alloc _).setCell _ _ | exact ((M6.drew).below hb3 M6.lt).setCell _ _ | exact M6.drew | exact M6.drew.alloc _ | exact (M6.drew.alloc _).below hb3 (by simp;have:=M6.lt;omega) | exact ((M6.drew.alloc _).below hb3 (by simp;have:=M6.lt;omega)).setCell _ _)))));have hO:=Lib.hid (fun w' (hSw : (fun w' => Box w' w.heap.size 135 #[.int .i64 bx,.int .i64 bY,.int .i64 sl,.slice AL L.length cL,.int .i64 fx,.int .i64 fX,.int .i64 fy,.int .i64 fY,.slice AB B.length cB,.int .i64 ps,.slice AQ Q.length cQ] ∧ Box w' (w.heap.size + 1) 161 #[.map (some gM)] ∧ KMap w' gM es) w') => (by (try dsimp only at hSw);(obtain ⟨hSA,hSB,hSC⟩:=hSw;have hlk:=run_look_k2 k0 k1 k2 k3 _ _ _ hSC;have sb0:=hSB.cell 0;have sa0:=hSA.cell 0;have sa1:=hSA.cell 1;have sa2:=hSA.cell 2;have sa3:=hSA.cell 3;have sa4:=hSA.cell 4;have sa5:=hSA.cell 5;have sa6:=hSA.cell 6;have sa7:=hSA.cell 7;have sa8:=hSA.cell 8;have sa9:=hSA.cell 9;have sa10:=hSA.cell 10;(simp at sb0 sa0 sa1 sa2 sa3 sa4 sa5 sa6 sa7 sa8 sa9 sa10));exact And.intro hlk (And.intro sb0 (And.intro sa0 (And.intro sa1 (And.intro sa2 (And.intro sa3 (And.intro sa4 (And.intro sa5 (And.intro sa6 (And.intro sa7 (And.intro sa8 (And.intro sa9 sa10)))))))))))));refine rgL 0 hO rfl ?_;refine rgN 1 rfl ?_;refine rgL 2 hO rfl ?_;refine wpAnyH_ready (rs:=[3,8]) kR (by simp) ?_;(focus (refine AllReadyH.cons rfl (fun K hK => ?_) ?_;rotate_left;refine AllReadyH.cons rfl (fun K hK => ?_) ?_;rotate_left;exact AllReadyH.nil));(focus (go_simp;((go_at_call 118;(with_reducible refine (KYc.out _ ?_).mono ?_);rotate_left;rintro e w3 ⟨rfl,hb3⟩;rotate_left;(focus (exact bB1 G5));have hz3 : W6.heap.size ≤ w3.heap.size:=(by have:=hb3.size;(try simp at this);omega);(try (refine (fun (V3 : Box w3 W6.heap.size 3 #[.int .i64 0]) => ?_) ?_;rotate_left;(focus (exact bX1 hb3));have v3:=V3.cell 0;have fv3:=V3.froz 0;have lv3:=V3.lt;(simp at v3)))));go_simp;refine hK.out _ _ ?_ (fun hHeld => ?_);(focus ((try dsimp only);((refine ⟨?_, ?_, ?_⟩;((first | exact bX1 hb3 | exact bX0));((first | exact bX1 hb3 | exact bX0));(first | exact (M6.drew).below hb3 M6.lt | exact (((M6.drew).below hb3 M6.lt).alloc _) | exact (((M6.drew).below hb3 M6.lt).alloc _).setCell _ _ | exact ((M6.drew).below hb3 M6.lt).setCell _ _ | exact M6.drew | exact M6.drew.alloc _ | exact (M6.drew.alloc _).below hb3 (by simp;have:=M6.lt;omega) | exact ((M6.drew.alloc _).below hb3 (by simp;have:=M6.lt;omega)).setCell _ _)))));clear hK K;(try simp only [Act.put,pqs]);refine rgL 4 hO rfl ?_;refine rgN 5 rfl ?_;refine rgN 6 rfl ?_;refine rgN 7 rfl ?_;refine rgC 8 rfl (fun K hK => ?_);go_simp;refine hK.out _ _ ?_ (fun hHeld => ?_);(focus ((try dsimp only);((refine ⟨?_, ?_, ?_⟩;((first | exact bX1 hb3 | exact bX0));((first | exact bX1 hb3 | exact bX0));(first | exact (M6.drew).below hb3 M6.lt | exact (((M6.drew).below hb3 M6.lt).alloc _) | exact (((M6.drew).below hb3 M6.lt).alloc _).setCell _ _ | exact ((M6.drew).below hb3 M6.lt).setCell _ _ | exact M6.drew | exact M6.drew.alloc _ | exact (M6.drew.alloc _).below hb3 (by simp;have:=M6.lt;omega) | exact ((M6.drew.alloc _).below hb3 (by simp;have:=M6.lt;omega)).setCell _ _)))));clear hK K;(try simp only [Act.put,pqs])));rotate_left;(focus (go_simp;refine hK.out _ _ ?_ (fun hHeld => ?_);(focus ((try dsimp only);((refine ⟨?_, ?_, ?_⟩;((first | exact bX1 hb3 | exact bX0));((first | exact bX1 hb3 | exact bX0));(first | exact (M6.drew).below hb3 M6.lt | exact (((M6.drew).below hb3 M6.lt).alloc _) | exact (((M6.drew).below hb3 M6.lt).alloc _).setCell _ _ | exact ((M6.drew).below hb3 M6.lt).setCell _ _ | exact M6.drew | exact M6.drew.alloc _ | exact (M6.drew.alloc _).below hb3 (by simp;have:=M6.lt;omega) | exact ((M6.drew.alloc _).below hb3 (by simp;have:=M6.lt;omega)).setCell _ _)))));clear hK K;(try simp only [Act.put,pqs]);refine rgC 3 rfl (fun K hK => ?_);go_simp;((go_at_call 118;(with_reducible refine (KYc.out _ ?_).mono ?_);rotate_left;rintro e w3 ⟨rfl,hb3⟩;rotate_left;(focus (exact bB1 G5));have hz3 : W6.heap.size ≤ w3.heap.size:=(by have:=hb3.size;(try simp at this);omega);(try (refine (fun (V3 : Box w3 W6.heap.size 3 #[.int .i64 0]) => ?_) ?_;rotate_left;(focus (exact bX1 hb3));have v3:=V3.cell 0;have fv3:=V3.froz 0;have lv3:=V3.lt;(simp at v3)))));go_simp;refine hK.out _ _ ?_ (fun hHeld => ?_);(focus ((try dsimp only);((refine ⟨?_, ?_, ?_⟩;((first | exact bX1 hb3 | exact bX0));((first | exact bX1 hb3 | exact bX0));(first | exact (M6.drew).below hb3 M6.lt | exact (((M6.drew).below hb3 M6.lt).alloc _) | exact (((M6.drew).below hb3 M6.lt).alloc _).setCell _ _ | exact ((M6.drew).below hb3 M6.lt).setCell _ _ | exact M6.drew | exact M6.drew.alloc _ | exact (M6.drew.alloc _).below hb3 (by simp;have:=M6.lt;omega) | exact ((M6.drew.alloc _).below hb3 (by simp;have:=M6.lt;omega)).setCell _ _)))));clear hK K;(try simp only [Act.put,pqs]);refine rgL 4 hO rfl ?_;refine rgN 5 rfl ?_;refine rgN 6 rfl ?_;refine rgN 7 rfl ?_));rotate_left;all_goals (refine rgC 9 rfl (fun K hK => ?_);go_simp;refine hK.out _ _ ?_ (fun hHeld => ?_);(focus ((try dsimp only);((refine ⟨?_, ?_, ?_⟩;((first | exact bX1 hb3 | exact bX0));((first | exact bX1 hb3 | exact bX0));(first | exact (M6.drew).below hb3 M6.lt | exact (((M6.drew).below hb3 M6.lt).alloc _) | exact (((M6.drew).below hb3 M6.lt).alloc _).setCell _ _ | exact ((M6.drew).below hb3 M6.lt).setCell _ _ | exact M6.drew | exact M6.drew.alloc _ | exact (M6.drew.alloc _).below hb3 (by simp;have:=M6.lt;omega) | exact ((M6.drew.alloc _).below hb3 (by simp;have:=M6.lt;omega)).setCell _ _)))));clear hK K;(try simp only [Act.put,pqs]);refine rgN 10 rfl ?_;refine wpAnyH_done (Q:=fun e a w => e = Exit.normal ∧ R a w) kR ⟨rfl,hR _ _ ?_⟩ _;clear hR R;(go_wp2_with fail;go_meet;refine ⟨_,rfl,rfl, ?_, ?_, ?_, ?_, ?_⟩;(focus (first | omega | (simp;omega) | (have:=hb3.size;(try simp at *);omega)));(exact bX1 hb3);(exact bX1 hb3);(exact bX1 hb3);(exact bB2 G5 hb3))))))
  case rest =>
    obtain ⟨Bl,rfl,rfl,hBl,bL,bA,bF,hBw⟩:=hcut
    clear KYc G0 G1 G5 M6 l0 l1
    have lL:=bL.lt;have lA:=bA.lt;have lF:=bF.lt
    cases hlk : lkp es (k0,k1,k2,k3) with
    | none =>
      have hR : R = ([],12):=by rw [HR.out,hlk]
      have HR2:=Lib.hid hR
      clear hR
      go_wp2
      refine leaves_marks (n:=6) (B:=w.heap.size) (G:=fun W' => Below w.heap.size w W') (fun V D hD _ h => below_putObj h hD _) [] _ (MarksOk.nil _ _) hBw (fun V h => ⟨_,results_tmp2 rfl _ _ _,none,0,by rw [HR2.out];rfl, ?hN,h⟩)
      case hN =>
        rw [HR2.out]
        exact ⟨rfl,.inl ⟨rfl,rfl⟩⟩
    | some d =>
      have hR : R = (dnP (⟨bx,bY,sl,L,(fx,fX,fy,fY),B⟩ : Sc) es d.toNat (ps,Q),0):=by rw [HR.out,hlk]
      have HR2:=Lib.hid hR
      obtain ⟨hd0,hd1⟩:=HV.out _ _ hlk
      obtain ⟨n,hn⟩ : ∃ n : Nat,d = (n : Int):=⟨d.toNat,by omega⟩
      have HN:=Lib.hid hn
      have HLk:=Lib.hid hlk
      rw [hlk] at bL
      clear hR hlk hn
      go_wp2
      have hb : Below wc.heap.size wc (wc.alloc (.cells #[.slice none 0 0] 34)):=by exact bB0
      refine (wpIn_wide (n:=6)).1 ?_
      refine wpIn_loop_rounds (n + 1) ?_
      refine drounds_c w.heap.size Bl wc.heap.size gM bx bY sl fx fX fy fY L B AL AB cL cB w es (dnP (⟨bx,bY,sl,L,(fx,fX,fy,fY),B⟩ : Sc) es n (ps,Q)) _ hS HS1.out HS2.out hH ?q n ps Q AQ cQ [] [] _ _ _ _ _ _ _ _ _ _ _ _ _ _ _ _ _ _ _ _ _ _ _ _ _ _ _ _ _ _ _ _ _ _ _ _ _ _ _ _ _ _ _ _ _ _ _ _ ?di HP.out HFr.out (by rw [HK.out,HLk.out,HN.out]) (MarksOk.nil _ _) (by have:=HN.out;simp;omega) rfl
      case di =>
        obtain ⟨b,off,hAQ,hbq,_⟩:=HS3.out 0 Q[0] (List.getElem?_eq_getElem hq1)
        refine ⟨bA.below hb lA,bF.below hb lF, ?_,⟨none,0,Box.new _ _ _,⟨rfl,.inl ⟨rfl,rfl⟩⟩⟩,HM.out,⟨(HS3.out.below hBw).below hb,b,off,hAQ,.inl hbq⟩,⟨hBl,by omega⟩,rfl,hBw.trans (hb.mono (by omega))⟩
        have:=bL.below hb lL
        rw [HN.out] at this
        exact this
      case q =>
        intro ds W p AQ' cQ' t0 t1 t4 t5 t7 t9 t10 t11 t12 t13 t14 t15 t16 t17 t18 t19 t20 t21 t22 t23 t24 t25 t26 t27 t28 t29 t30 t31 t32 t33 t34 t35 t36 t37 t38 t39 t40 t41 t42 t43 t44 t45 t46 t47 t48 t49 t50 hI hMk
        obtain ⟨A,c,R1,R2⟩:=hI.row
        have c0:=R1.cell 0
        simp at c0
        have lR:=R1.lt
        have HBw:=Lib.hid hI.below
        have HMk:=Lib.hid hMk
        have HR3:=Lib.hid R2
        clear hI hMk R2
        go_wp2
        have hRn : R = (dnP (⟨bx,bY,sl,L,(fx,fX,fy,fY),B⟩ : Sc) es n (ps,Q),0):=by rw [HR2.out,HN.out];rfl
        refine leaves_marks (n:=6) (B:=w.heap.size) (G:=fun W' => W'.ownsRow w.heap.size 84 2 (.slice A (dnP (⟨bx,bY,sl,L,(fx,fX,fy,fY),B⟩ : Sc) es n (ps,Q)).length c) (dnP (⟨bx,bY,sl,L,(fx,fX,fy,fY),B⟩ : Sc) es n (ps,Q)).length ((dnP (⟨bx,bY,sl,L,(fx,fX,fy,fY),B⟩ : Sc) es n (ps,Q)).flatMap mvV) ∧ Below w.heap.size w W') ?hKeep ds _ HMk.out ⟨HR3.out,HBw.out⟩ (fun V h => ⟨_,results_tmp2 rfl _ _ _,A,c, ?hE, ?hO,h.2⟩)
        case hKeep =>
          rintro V D hD hd ⟨g1,g2⟩
          have hg:=grownBy_putObj' V D (.deferred none)
          have hr : ∀ r,some D = some r → ∃ o : Obj,V.heap[r]? = some o ∧ o.isCells = false:=fun r e => by cases e;exact ⟨_,hd,rfl⟩
          exact ⟨own_row g1 hg hr,below_putObj g2 hD _⟩
        case hE => rw [hRn];rfl
        case hO => rw [hRn];exact h.1
end Go.Proofs.YtpnfgmgoafgcbaaGreat

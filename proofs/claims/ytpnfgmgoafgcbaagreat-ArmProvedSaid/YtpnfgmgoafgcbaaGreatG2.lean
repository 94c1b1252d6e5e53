/-
  The texts RfP, RJt, RFr, RTk in one.
-/
import Derived.Test.YtpnfgmgoafgcbaaGreatA4
import Derived.Test.YtpnfgmgoafgcbaaGreatA8
import Derived.Test.YtpnfgmgoafgcbaaGreatG1
import Derived.Test.YtpnfgmgoafgcbaaGreatRSc
import Derived.Deep.AppendLies
import Derived.Test.YtpnfgmgoafgcbaaGreatLate
import Derived.Test.YtpnfgmgoafgcbaaGreatA13
set_option linter.all false
/-
  The reference's words for cells, free poses, sweeps and moves (chapter 6), in plain words: they are those of the program.
-/
set_option linter.unusedVariables false
namespace Go.Proofs.YtpnfgmgoafgcbaaGreat
/-- The k-th cell from a joint on towards the next one. -/
def linR (a b : Ce) (n : Int) (k : Int) : Ce:=(a.1 + (k * (b.1 - a.1)).tdiv n,a.2 + (k * (b.2 - a.2)).tdiv n)
def lnsR (a b : Ce) (n : Int) (m : Nat) : List Ce:=(List.range m).map fun (k : Nat) => linR a b n ((k : Int) + 1)
def frR : List Ce → List Lk → List Ce
  | a :: b :: r,l :: L => lnsR a b l.1 l.1.toNat ++ frR (b :: r) L
  | _,_ => []
/-- All cells of the links from a joint on, this joint too. -/
def frP (s : Sc) (p : Ps) (i : Nat) : List Ce:=(jts s p).getD i (0,0) :: frR ((jts s p).drop i) (s.L.drop i)
theorem tdiv_lin (k n d : Int) (hn : 1 ≤ n) : (k * (n * d)).tdiv n = k * d:=by
  rw [show k * (n * d) = n * (k * d) by grind]
  exact Int.mul_tdiv_cancel_left _ (by omega)
theorem mem_seg {a b c : Ce} : c ∈ seg a b ↔ ∃ k : Nat,k ≤ dst a b ∧ c = (a.1 + k * cmpI b.1 a.1,a.2 + k * cmpI b.2 a.2):=by
  simp only [seg,segN,List.mem_map,List.mem_range]
  constructor
  · rintro ⟨k,h,rfl⟩;exact ⟨k,by omega,rfl⟩
  · rintro ⟨k,h,rfl⟩;exact ⟨k,by omega,rfl⟩
theorem cmp_lin (x n d : Int) (hn : 1 ≤ n) (hd : d = -1 ∨ d = 0 ∨ d = 1) : cmpI (x + n * d) x = d:=by
  unfold cmpI
  rcases hd with rfl | rfl | rfl
  · rw [if_pos (by omega)]
  · rw [if_neg (by omega),if_neg (by omega)]
  · rw [if_neg (by omega),if_pos (by omega)]
theorem dir_cases (t : Int) : (dirX t = -1 ∨ dirX t = 0 ∨ dirX t = 1) ∧ (dirY t = -1 ∨ dirY t = 0 ∨ dirY t = 1) ∧ (dirX t = 0 ∧ dirY t ≠ 0 ∨ dirY t = 0 ∧ dirX t ≠ 0):=by
  unfold dirX dirY
  have h4 : t % 4 = 0 ∨ t % 4 = 1 ∨ t % 4 = 2 ∨ t % 4 = 3:=by omega
  rcases h4 with e | e | e | e <;> rw [e] <;> simp
theorem dst_lin (x y n t : Int) (hn : 1 ≤ n) : dst (x,y) (x + n * dirX t,y + n * dirY t) = n.toNat:=by
  obtain ⟨h1,h2,h3⟩:=dir_cases t
  unfold dst
  dsimp only
  generalize dirX t = a at *
  generalize dirY t = b at *
  rcases h1 with rfl | rfl | rfl <;> rcases h2 with rfl | rfl | rfl <;> simp at h3 ⊢ <;> omega
theorem frF_mem : ∀ (L : List Lk) (Q : List Int) (x y t : Int) (l : Lk) (q : Int),(∀ z ∈ l :: L,1 ≤ z.1) → Q.length = L.length →
    ∀ c,c ∈ (x,y) :: frR ((x,y) :: jtsF x y t (l :: L) (q :: Q)) (l :: L) ↔ c ∈ segs ((x,y) :: jtsF x y t (l :: L) (q :: Q)):=by
  intro L
  induction L with
  | nil =>
    intro Q x y t l q hl hQ c
    obtain rfl : Q = []:=List.eq_nil_of_length_eq_zero (by simpa using hQ)
    have hn:=hl l (by simp)
    obtain ⟨d1,d2,_⟩:=dir_cases (t + q)
    simp only [jtsF,frR,segs,List.append_nil,List.mem_cons,lnsR,List.mem_map,List.mem_range,mem_seg,linR]
    rw [dst_lin x y l.1 (t + q) hn]
    rw [cmp_lin x _ _ hn d1,cmp_lin y _ _ hn d2]
    constructor
    · rintro (rfl | ⟨k,hk,rfl⟩)
      · exact ⟨0,by omega,by simp⟩
      · refine ⟨k + 1,by omega, ?_⟩
        rw [show x + l.1 * dirX (t + q) - x = l.1 * dirX (t + q) by omega,show y + l.1 * dirY (t + q) - y = l.1 * dirY (t + q) by omega,tdiv_lin _ _ _ hn,tdiv_lin _ _ _ hn]
        simp
    · rintro ⟨k,hk,rfl⟩
      cases k with
      | zero => left;simp
      | succ k =>
        right
        refine ⟨k,by omega, ?_⟩
        rw [show x + l.1 * dirX (t + q) - x = l.1 * dirX (t + q) by omega,show y + l.1 * dirY (t + q) - y = l.1 * dirY (t + q) by omega,tdiv_lin _ _ _ hn,tdiv_lin _ _ _ hn]
        simp
  | cons l2 L ih =>
    intro Q x y t l q hl hQ c
    obtain ⟨q2,Q2,rfl⟩ : ∃ q2 Q2,Q = q2 :: Q2:=by
      cases Q with
      | nil => simp at hQ
      | cons q2 Q2 => exact ⟨q2,Q2,rfl⟩
    have hn:=hl l (by simp)
    obtain ⟨d1,d2,_⟩:=dir_cases (t + q)
    have IH:=ih Q2 (x + l.1 * dirX (t + q)) (y + l.1 * dirY (t + q)) (t + q) l2 q2 (fun z hz => hl z (List.mem_cons_of_mem _ hz)) (by simpa using hQ) c
    have e : jtsF x y t (l :: l2 :: L) (q :: q2 :: Q2) = (x + l.1 * dirX (t + q),y + l.1 * dirY (t + q)) :: jtsF (x + l.1 * dirX (t + q)) (y + l.1 * dirY (t + q)) (t + q) (l2 :: L) (q2 :: Q2):=rfl
    rw [e]
    generalize hJ : jtsF (x + l.1 * dirX (t + q)) (y + l.1 * dirY (t + q)) (t + q) (l2 :: L) (q2 :: Q2) = J at *
    have e2 : frR ((x,y) :: (x + l.1 * dirX (t + q),y + l.1 * dirY (t + q)) :: J) (l :: l2 :: L) = lnsR (x,y) (x + l.1 * dirX (t + q),y + l.1 * dirY (t + q)) l.1 l.1.toNat ++ frR ((x + l.1 * dirX (t + q),y + l.1 * dirY (t + q)) :: J) (l2 :: L):=rfl
    have e3 : segs ((x,y) :: (x + l.1 * dirX (t + q),y + l.1 * dirY (t + q)) :: J) = seg (x,y) (x + l.1 * dirX (t + q),y + l.1 * dirY (t + q)) ++ segs ((x + l.1 * dirX (t + q),y + l.1 * dirY (t + q)) :: J):=rfl
    rw [e2,e3,List.mem_append,← IH]
    simp only [List.mem_cons,List.mem_append,lnsR,List.mem_map,List.mem_range,mem_seg,linR]
    rw [dst_lin x y l.1 (t + q) hn]
    rw [cmp_lin x _ _ hn d1,cmp_lin y _ _ hn d2]
    have eX : ∀ k : Int,(k * (x + l.1 * dirX (t + q) - x)).tdiv l.1 = k * dirX (t + q):=fun k => by
      rw [show x + l.1 * dirX (t + q) - x = l.1 * dirX (t + q) by omega,tdiv_lin _ _ _ hn]
    have eY : ∀ k : Int,(k * (y + l.1 * dirY (t + q) - y)).tdiv l.1 = k * dirY (t + q):=fun k => by
      rw [show y + l.1 * dirY (t + q) - y = l.1 * dirY (t + q) by omega,tdiv_lin _ _ _ hn]
    constructor
    · rintro (rfl | ⟨k,hk,rfl⟩ | h)
      · exact .inl ⟨0,by omega,by simp⟩
      · refine .inl ⟨k + 1,by omega, ?_⟩
        rw [eX,eY]
        simp
      · exact .inr (.inr h)
    · rintro (⟨k,hk,rfl⟩ | h | h)
      · cases k with
        | zero => left;simp
        | succ k =>
          right;left
          refine ⟨k,by omega, ?_⟩
          rw [eX,eY]
          simp
      · right;left
        subst h
        refine ⟨l.1.toNat - 1,by omega, ?_⟩
        rw [eX,eY]
        rw [show (((l.1.toNat - 1 : Nat) : Int) + 1) = l.1 by omega]
      · exact .inr (.inr h)
theorem jtsF_drop : ∀ (i : Nat) (L : List Lk) (Q : List Int) (x y t : Int),i ≤ L.length → Q.length = L.length →
    ∃ x' y' t',((x,y) :: jtsF x y t L Q).drop i = (x',y') :: jtsF x' y' t' (L.drop i) (Q.drop i)
  | 0,L,Q,x,y,t,_,_ => ⟨x,y,t,by simp⟩
  | i + 1,[],Q,x,y,t,h,_ => by simp at h
  | i + 1,l :: L,[],x,y,t,_,h => by simp at h
  | i + 1,l :: L,q :: Q,x,y,t,h,hQ => by
    obtain ⟨x',y',t',e⟩:=jtsF_drop i L Q (x + l.1 * dirX (t + q)) (y + l.1 * dirY (t + q)) (t + q) (by simpa using h) (by simpa using hQ)
    exact ⟨x',y',t',by simp only [jtsF,List.drop_succ_cons];exact e⟩
/-- The cells of the reference are those of the program. -/
theorem mem_frP {s : Sc} {p : Ps} {i : Nat} (hl : ∀ z ∈ s.L,1 ≤ z.1) (hp : p.2.length = s.L.length) (hi : i < s.L.length) (c : Ce) : c ∈ frP s p i ↔ c ∈ clP s p i:=by
  unfold frP clP
  obtain ⟨x,y,t,e⟩:=jtsF_drop i s.L p.2 (s.bx + p.1) s.bY 0 (by omega) hp
  have e' : (jts s p).drop i = (x,y) :: jtsF x y t (s.L.drop i) (p.2.drop i):=e
  have eg : (jts s p).getD i (0,0) = (x,y):=by
    have:=congrArg (fun l => l[0]?) e'
    simp only [List.getElem?_drop,Nat.add_zero,List.getElem?_cons_zero] at this
    rw [List.getD_eq_getElem?_getD,this];rfl
  rw [eg,e']
  obtain ⟨l,L,hL⟩ : ∃ l L,s.L.drop i = l :: L:=⟨_,_,List.drop_eq_getElem_cons hi⟩
  obtain ⟨q,Q,hQ⟩ : ∃ q Q,p.2.drop i = q :: Q:=⟨_,_,List.drop_eq_getElem_cons (show i < p.2.length by omega)⟩
  rw [hL,hQ]
  refine frF_mem L Q x y t l q (fun z hz => hl z ?_) ?_ c
  · rw [← hL] at hz;exact List.mem_of_mem_drop hz
  · have h1:=congrArg List.length hL
    have h2:=congrArg List.length hQ
    simp at h1 h2
    omega
/-- Whether a cell is taken, in the reference's words. -/
def tkC (s : Sc) (c : Ce) : Bool:=!inBx s.F c || s.B.any fun b => inBx b c
theorem meet_only (b : Bx) (c : Ce) : meetB b (onlyP c) = inBx b c:=by
  unfold meetB onlyP inBx inB
  rw [Bool.eq_iff_iff]
  simp only [Bool.and_eq_true,decide_eq_true_eq]
  omega
theorem tkn_only (s : Sc) (c : Ce) : tkn s (onlyP c) = tkC s c:=by
  unfold tkn tkC
  have e : (onlyP c).1 = c.1 ∧ (onlyP c).2.1 = c.1 ∧ (onlyP c).2.2.1 = c.2 ∧ (onlyP c).2.2.2 = c.2:=⟨rfl,rfl,rfl,rfl⟩
  rw [e.1,e.2.1,e.2.2.1,e.2.2.2,Bool.and_self]
  congr 1
  induction s.B with
  | nil => rfl
  | cons b l ih => simp only [List.any_cons,ih,meet_only]
theorem freeP_ref {s : Sc} {p : Ps} (hl : ∀ z ∈ s.L,1 ≤ z.1) (hp : p.2.length = s.L.length) (hi : 0 < s.L.length) : freeP s p = (frP s p 0).all fun c => !tkC s c:=by
  rw [Bool.eq_iff_iff]
  simp only [freeP,List.all_eq_true]
  constructor
  · intro h c hc
    have:=h c ((mem_frP hl hp hi c).1 hc)
    rwa [tkn_only] at this
  · intro h c hc
    have:=h c ((mem_frP hl hp hi c).2 hc)
    rwa [← tkn_only] at this
/-- The box round cells, from the first on. -/
def swR (s : Sc) (p : Ps) (m : Mv) : Bx:=(frP s p (swI m) ++ frP s (mvd p m) (swI m)).foldl withP (onlyP ((jts s p).getD (swI m) (0,0)))
theorem swBx_ref {s : Sc} {p : Ps} {m : Mv} (hl : ∀ z ∈ s.L,1 ≤ z.1) (hp : p.2.length = s.L.length) (hi : swI m < s.L.length) : swBx s p m = swR s p m:=by
  rw [swBx_app]
  unfold swR
  have hq : (mvd p m).2.length = s.L.length:=by rw [mvd_len,hp]
  refine box_ext ?_ ?_ (fun c => ?_)
  · exact List.mem_append_left _ (clP_head hp hi)
  · exact List.mem_append_left _ (by unfold frP;simp)
  · simp only [List.mem_append,mem_frP hl hp hi c,mem_frP hl hq hi c]
/-- A box is taken exactly if one of its cells is. -/
theorem tkn_cells {s : Sc} {b : Bx} (hB : ∀ x ∈ s.B,bxE x = 0) (h1 : b.1 ≤ b.2.1) (h2 : b.2.2.1 ≤ b.2.2.2) : tkn s b = true ↔ ∃ x y : Int,(b.1 ≤ x ∧ x ≤ b.2.1) ∧ (b.2.2.1 ≤ y ∧ y ≤ b.2.2.2) ∧ tkC s (x,y) = true:=by
  obtain ⟨x0,x1,y0,y1⟩:=b
  dsimp only at h1 h2 ⊢
  unfold tkn tkC
  simp only [Bool.or_eq_true,Bool.not_eq_true',List.any_eq_true]
  constructor
  · rintro (h | ⟨z,hz,hm⟩)
    · have : inBx s.F (x0,y0) = false ∨ inBx s.F (x1,y1) = false:=by
        cases h0 : inBx s.F (x0,y0)
        · exact .inl rfl
        · rw [h0] at h;exact .inr (by simpa using h)
      rcases this with h | h
      · exact ⟨x0,y0,by omega,by omega,.inl h⟩
      · exact ⟨x1,y1,by omega,by omega,.inl h⟩
    · have hb:=bxE_ok.1 (hB z hz)
      obtain ⟨a,A,c,C⟩:=z
      simp only [meetB,Bool.and_eq_true,decide_eq_true_eq] at hm
      dsimp only at hb
      refine ⟨max a x0,max c y0,by omega,by omega,.inr ⟨_,hz, ?_⟩⟩
      simp only [inBx,inB,Bool.and_eq_true,decide_eq_true_eq]
      omega
  · rintro ⟨x,y,hx,hy,h | ⟨z,hz,hm⟩⟩
    · left
      simp only [inBx,inB] at h ⊢
      rw [← Bool.not_eq_true] at h ⊢
      simp only [Bool.and_eq_true,decide_eq_true_eq] at h ⊢
      omega
    · right
      refine ⟨z,hz, ?_⟩
      simp only [inBx,inB,Bool.and_eq_true,decide_eq_true_eq] at hm
      simp only [meetB,Bool.and_eq_true,decide_eq_true_eq]
      omega
end Go.Proofs.YtpnfgmgoafgcbaaGreat
/-
  Joints of the reference (chapter 6).
-/
set_option linter.unusedVariables false
namespace Go.Proofs.YtpnfgmgoafgcbaaGreat
open Go.RowKit
attribute [local go_sem] Oper.semAt_some
theorem jtsF_sum (n a b q x y T : Int) (L : List Lk) (Q : List Int) : jtsF x y T ((n,a,b) :: L) (q :: Q) = (x + n * dirX (T + q),y + n * dirY (T + q)) :: jtsF (x + n * dirX (T + q)) (y + n * dirY (T + q)) (T + q) L Q:=rfl
set_option maxHeartbeats 4000000 in
set_option maxRecDepth 100000 in
theorem rJoints_c (bx bY sl fx fX fy fY ps : Int) (L : List Lk) (B : List Bx) (Q : List Int) (AL AB AQ : Option Addr) (cL cB cQ : Nat) (w : World) (hQ : Q.length = L.length) (hL : L.length ≤ 3)
    (hb1 : -1000 ≤ bx ∧ bx ≤ 1000) (hb2 : -1000 ≤ bY ∧ bY ≤ 1000) (hb3 : -1000 ≤ ps ∧ ps ≤ 1000) (hl : ∀ l ∈ L,1 ≤ l.1 ∧ l.1 ≤ 4) (hq : ∀ q ∈ Q,-2 ≤ q ∧ q ≤ 2) (hs1 : SlV w AL (L.flatMap lkV)) (hs3 : SlI w AQ Q) :
    Calls Tryz.prog 62 #[.agg #[.int .i64 bx,.int .i64 bY,.int .i64 sl,.slice AL L.length cL,.int .i64 fx,.int .i64 fX,.int .i64 fy,.int .i64 fY,.slice AB B.length cB],.agg #[.int .i64 ps,.slice AQ Q.length cQ]] w (CesEnd (jts (⟨bx,bY,sl,L,(fx,fX,fy,fY),B⟩ : Sc) (ps,Q)) w):=by
  have HP:=Lib.hid (show jts (⟨bx,bY,sl,L,(fx,fX,fy,fY),B⟩ : Sc) (ps,Q) = (bx + ps,bY) :: jtsF (bx + ps) bY 0 L Q from rfl)
  have HN:=Lib.hid (show (jts (⟨bx,bY,sl,L,(fx,fX,fy,fY),B⟩ : Sc) (ps,Q)).length = Q.length + 1 by rw [jts_len (s:=(⟨bx,bY,sl,L,(fx,fX,fy,fY),B⟩ : Sc)) (p:=(ps,Q)) hQ,hQ])
  generalize jts (⟨bx,bY,sl,L,(fx,fX,fy,fY),B⟩ : Sc) (ps,Q) = R at *
  have HS:=Lib.hid hs1
  have HQ:=Lib.hid hs3
  have hqL:=Lib.hid hQ
  have hQ3 : Q.length ≤ 3:=by omega
  have HL:=Lib.hid hl
  have HqQ:=Lib.hid hq
  clear hs1 hs3 hQ hl hq
  obtain ⟨j0,zC,hj0,hy0,hy1,hy2,hy3⟩:=infoOk_parts infoC
  go_enter Tryz.func62,Tryz.ntmps62
  go_wp2
  obtain ⟨W5,hW5⟩ : ∃ W5 : World,W5 = (((w.alloc (.cells #[.int .i64 bx,.int .i64 bY,.int .i64 sl,.slice AL L.length cL,.int .i64 fx,.int .i64 fX,.int .i64 fy,.int .i64 fY,.slice AB B.length cB] 30)).alloc (.cells #[.int .i64 ps,.slice AQ Q.length cQ] 33)).alloc (.cells #[.int .i64 (bx + ps),.int .i64 bY] 22)).alloc (.cells #[.int .i64 (bx + ps),.int .i64 bY] 22):=⟨_,rfl⟩
  have a0 : Box W5 w.heap.size 30 #[.int .i64 bx,.int .i64 bY,.int .i64 sl,.slice AL L.length cL,.int .i64 fx,.int .i64 fX,.int .i64 fy,.int .i64 fY,.slice AB B.length cB]:=by rw [hW5];exact bX0
  have a1 : Box W5 (w.heap.size + 1) 33 #[.int .i64 ps,.slice AQ Q.length cQ]:=by rw [hW5];exact bX0
  have a3 : Box W5 (w.heap.size + 1 + 1) 22 #[.int .i64 (bx + ps),.int .i64 bY]:=by rw [hW5];exact bX0
  have a2 : W5.ownsRow w.heap.size 22 2 (.slice (some ⟨w.heap.size + 1 + 1 + 1,0,none⟩) 1 1) 1 ([(bx + ps,bY)].flatMap ceV):=by
    rw [hW5]
    have:=World.ownsRow_lit (base:=w.heap.size) (e:=22) (size:=2) (((w.alloc (.cells #[.int .i64 bx,.int .i64 bY,.int .i64 sl,.slice AL L.length cL,.int .i64 fx,.int .i64 fX,.int .i64 fy,.int .i64 fY,.slice AB B.length cB] 30)).alloc (.cells #[.int .i64 ps,.slice AQ Q.length cQ] 33)).alloc (.cells #[.int .i64 (bx + ps),.int .i64 bY] 22)) #[.int .i64 (bx + ps),.int .i64 bY] 1 (by simp;omega) (by decide) rfl
    simpa [ceV] using this
  have hB0 : Below w.heap.size w W5:=by rw [hW5];exact bB0
  rw [← hW5]
  clear hW5
  have hz0 : w.heap.size + 1 + 1 < W5.heap.size:=a3.lt
  go_loopw [6,7,8] (fun v t i wr => ∃ (k : Nat) (x y T : Int) (D : List Ce) (g cap : Nat),k ≤ Q.length ∧ i = .int .i64 k ∧ t = .int .i64 T ∧ v = .slice (some ⟨g,0,none⟩) (k + 1) cap ∧ D.length = k + 1 ∧ Hid (R = D ++ jtsF x y T (L.drop k) (Q.drop k)) ∧ (-2 * (k : Int) ≤ T ∧ T ≤ 2 * (k : Int)) ∧ (-2000 - 4 * (k : Int) ≤ x ∧ x ≤ 2000 + 4 * (k : Int)) ∧ (-1000 - 4 * (k : Int) ≤ y ∧ y ≤ 1000 + 4 * (k : Int)) ∧
    wr.ownsRow w.heap.size 22 2 (.slice (some ⟨g,0,none⟩) (k + 1) cap) (k + 1) (D.flatMap ceV) ∧ g ≠ w.heap.size ∧ g ≠ w.heap.size + 1 ∧ g ≠ w.heap.size + 1 + 1 ∧ Box wr w.heap.size 30 #[.int .i64 bx,.int .i64 bY,.int .i64 sl,.slice AL L.length cL,.int .i64 fx,.int .i64 fX,.int .i64 fy,.int .i64 fY,.slice AB B.length cB] ∧ Box wr (w.heap.size + 1) 33 #[.int .i64 ps,.slice AQ Q.length cQ] ∧ Box wr (w.heap.size + 1 + 1) 22 #[.int .i64 x,.int .i64 y] ∧ Below w.heap.size w wr) (fun _ _ i _ => Q.length - (intOf i).toNat)
  case atStart => exact ⟨0,bx + ps,bY,0,[(bx + ps,bY)],w.heap.size + 1 + 1 + 1,1,Nat.zero_le _,rfl,rfl,rfl,rfl,by rw [HP.out];rfl,by omega,by omega,by omega,a2,by omega,by omega,by omega,a0,a1,a3,hB0⟩
  case round =>
    obtain ⟨k,x,y,T,D,g,cap,hk,rfl,rfl,rfl,hD,hf,hT0,hx,hy,own,n0,n1,n3,b0,b1,b3,hB⟩:=hrel
    clear a0 a1 a2 a3 hB0
    by_cases hlt : k < Q.length
    · have hkL : k < L.length:=by have:=hqL.out;omega
      obtain ⟨b,off,rfl,hb,k0,_,_⟩:=lk_cells (HS.out.below hB) (List.getElem?_eq_getElem hkL)
      obtain ⟨b',off',rfl,hb',c0⟩:=(HQ.out.below hB) k Q[k] (List.getElem?_eq_getElem hlt)
      have ln:=HL.out _ (List.getElem_mem hkL)
      have qn:=HqQ.out _ (List.getElem_mem hlt)
      have HD:=Lib.hid (List.drop_eq_getElem_cons hkL)
      have HE:=Lib.hid (List.drop_eq_getElem_cons hlt)
      generalize L[k] = ev at *
      generalize Q[k] = q at *
      obtain ⟨n,lo,hi⟩:=ev
      dsimp only at k0 ln
      have FE:=Lib.hid (jtsF_sum n lo hi q x y T (L.drop (k + 1)) (Q.drop (k + 1)))
      have s3:=b0.cell 3;have p1:=b1.cell 1
      simp at s3 p1
      have ls0:=b0.lt;have ls1:=b1.lt;have ls3:=b3.lt
      have m3 : (k : Int) < (Q.length : Int):=by omega
      have m4 : (k : Int) < (L.length : Int):=by omega
      have db:=dir_bd (T + q)
      have WYc:=Lib.hid (fun W => way_at (T + q) (dirX (T + q)) (dirY (T + q)) W (by omega) rfl rfl)
      generalize dirX (T + q) = dx at *
      generalize dirY (T + q) = dy at *
      have pb : (-4 ≤ n * dx ∧ n * dx ≤ 4) ∧ (-4 ≤ n * dy ∧ n * dy ≤ 4):=by
        have h1 : dx = -1 ∨ dx = 0 ∨ dx = 1:=by omega
        have h2 : dy = -1 ∨ dy = 0 ∨ dy = 1:=by omega
        rcases h1 with rfl | rfl | rfl <;> rcases h2 with rfl | rfl | rfl <;> omega
      have v1 : IntKind.i64.wrap (n * dx) = n * dx:=IntWalk.i64_in _ (by omega)
      have v2 : IntKind.i64.wrap (n * dy) = n * dy:=IntWalk.i64_in _ (by omega)
      have v3 : IntKind.i64.wrap (x + n * dx) = x + n * dx:=IntWalk.i64_in _ (by omega)
      have v4 : IntKind.i64.wrap (y + n * dy) = y + n * dy:=IntWalk.i64_in _ (by omega)
      have lg:=(own.lt g (by simp [Value.ownBlock])).2
      go_upto_region 9 with (first | (go_at_call 99;(with_reducible refine (WYc.out _).mono ?_);rintro e w3 ⟨rfl,hb3⟩) | fail)
      have hz3:=hb3.size
      obtain ⟨W6,hW6⟩ : ∃ W6 : World,W6 = w3.alloc (.cells #[.int .i64 dx,.int .i64 dy] 22):=⟨_,rfl⟩
      have B0 : Box W6 w.heap.size 30 #[.int .i64 bx,.int .i64 bY,.int .i64 sl,.slice (some ⟨b,off,none⟩) L.length cL,.int .i64 fx,.int .i64 fX,.int .i64 fy,.int .i64 fY,.slice AB B.length cB]:=by rw [hW6];exact bX1 hb3
      have B1 : Box W6 (w.heap.size + 1) 33 #[.int .i64 ps,.slice (some ⟨b',off',none⟩) Q.length cQ]:=by rw [hW6];exact bX1 hb3
      have B3 : Box W6 (w.heap.size + 1 + 1) 22 #[.int .i64 x,.int .i64 y]:=by rw [hW6];exact bX1 hb3
      have B9 : Box W6 w3.heap.size 22 #[.int .i64 dx,.int .i64 dy]:=by rw [hW6];exact Box.new _ _ _
      have hBx : Below wr.heap.size wr W6:=by rw [hW6];exact bB1 hb3
      have own5:=own_below own hBx
      have K0:=((bcell hBx).1 _ _ hb).trans k0
      have n9 : w.heap.size + 1 + 1 ≠ w3.heap.size:=by omega
      have ng9 : g ≠ w3.heap.size:=by omega
      rw [← hW6]
      clear hW6 b0 b1 b3 own k0 c0 s3 p1 WYc
      generalize w3.heap.size = g9 at *
      have s3:=B0.cell 3;have x0:=B3.cell 0;have x1:=B3.cell 1;have fxx:=B3.froz;have y0:=B9.cell 0;have y1:=B9.cell 1
      have l9:=B9.lt;have hz6:=hBx.size
      simp at s3 x0 x1 y0 y1
      have ls6:=B0.lt;have lx6:=B3.lt;have lb6 : b < W6.heap.size:=by omega
      (refine region_open kR (fun R hR => ?_);refine lateR (S:=(fun w' => Below W6.heap.size W6 w')) 25 ?_ (fun hHeld => ?_);(focus ((try dsimp only);(((first | exact bB0 | exact bB0)))));have hO:=Lib.hid (fun w' (hSw : (fun w' => Below W6.heap.size W6 w') w') => (by (try dsimp only at hSw);(have hcc:=(bcell hSw).1;have sa0:=(hcc _ 3 ls6).trans s3;have sa1:=(hcc _ 0 lx6).trans x0;have sa2:=(hcc _ 1 lx6).trans x1;have sa3:=(hcc _ 0 l9).trans y0;have sa4:=(hcc _ 1 l9).trans y1;have sa5:=(hcc _ _ lb6).trans K0);exact And.intro sa0 (And.intro sa1 (And.intro sa2 (And.intro sa3 (And.intro sa4 sa5))))));refine laN 0 rfl ?_;refine laL 1 hO rfl ?_;refine laN 2 rfl ?_;refine laL 3 hO rfl ?_;refine laN 4 rfl ?_;refine laN 5 rfl ?_;refine laN 6 rfl ?_;refine laL 7 hO rfl ?_;refine laN 8 rfl ?_;refine laL 9 hO rfl ?_;refine laN 10 rfl ?_;refine laN 11 rfl ?_;refine laN 12 rfl ?_;refine laL 13 hO rfl ?_;refine laN 14 rfl ?_;refine laL 15 hO rfl ?_;refine laN 16 rfl ?_;refine laN 17 rfl ?_;refine laN 18 rfl ?_;refine laL 19 hO rfl ?_;refine laN 20 rfl ?_;refine laL 21 hO rfl ?_;refine laN 22 rfl ?_;refine laN 23 rfl ?_;refine laN 24 rfl ?_;refine laD 25 rfl (fun K hK => ?_);go_simp;(skip);go_simp;refine hK.out _ _ ?_ (fun hHeld => ?_);(focus (exact trivial));clear hK K;(try simp only [Act.put,pqs]);refine wpAnyL_done (Q:=fun e a w => e = Exit.normal ∧ R a w) kR ⟨rfl,hR _ _ ?_⟩ _;clear hR R)
      obtain ⟨W7,hW7⟩ : ∃ W7 : World,W7 = ((W6.setCell ⟨w.heap.size + 1 + 1,0,none⟩ (.int .i64 (x + n * dx))).setCell ⟨w.heap.size + 1 + 1,1,none⟩ (.int .i64 (y + n * dy))).drew:=⟨_,rfl⟩
      have C0 : Box W7 w.heap.size 30 #[.int .i64 bx,.int .i64 bY,.int .i64 sl,.slice (some ⟨b,off,none⟩) L.length cL,.int .i64 fx,.int .i64 fX,.int .i64 fy,.int .i64 fY,.slice AB B.length cB]:=by rw [hW7];exact bX0
      have C1 : Box W7 (w.heap.size + 1) 33 #[.int .i64 ps,.slice (some ⟨b',off',none⟩) Q.length cQ]:=by rw [hW7];exact bX0
      have C3 : Box W7 (w.heap.size + 1 + 1) 22 #[.int .i64 (x + n * dx),.int .i64 (y + n * dy)]:=by rw [hW7];exact bX0
      have hBy : Below w.heap.size w W7:=by rw [hW7];exact bB2 hBx hB
      have own7 : W7.ownsRow w.heap.size 22 2 (.slice (some ⟨g,0,none⟩) (k + 1) cap) (k + 1) (D.flatMap ceV):=by
        rw [hW7]
        exact own_same (own_far (own_far own5 (p:=⟨w.heap.size + 1 + 1,0,none⟩) (u:=.int .i64 (x + n * dx)) n3) (p:=⟨w.heap.size + 1 + 1,1,none⟩) (u:=.int .i64 (y + n * dy)) n3) (fun g _ => rfl)
      rw [← hW7]
      clear hW7 B0 B1 B3 B9 own5 s3 x0 x1 fxx y0 y1 l9 K0 hBx hb3
      have c30:=C3.cell 0;have c31:=C3.cell 1
      simp at c30 c31
      have k0:=C0.lt;have k1:=C1.lt;have k3:=C3.lt
      have hm1 : k + 1 + 1 ≤ maxLen:=by unfold maxLen;omega
      have hm2 : (k + 1 + 1) * 16 ≤ 140737488355328:=by omega
      have hbW : w.heap.size ≤ W7.heap.size:=hBy.size
      go_wp2_with (at_builtin;go_must (refine wpList_append_own _ rfl _ _ 54 rfl w.heap.size 22 j0 zC 2 16 Tryz.underlying54 hj0 hy0 hy1 hy2 hy3 (by decide) _ _ _ rfl (own7.alloc _) ⟨W7.heap.size,0,none⟩ 1 1 [.int .i64 (x + n * dx),.int .i64 (y + n * dy)] rfl rfl (by simpa using cell_two_new W7 (.int .i64 (x + n * dx)) (.int .i64 (y + n * dy)) 22) (by simp [Value.oneCell']) hm1 hm2 (by simp;omega) ?_);intro v' wx hown1 hgrow1 _)
      have V0 : Box (W7.alloc (.cells #[.int .i64 (x + n * dx),.int .i64 (y + n * dy)] 22)) w.heap.size 30 #[.int .i64 bx,.int .i64 bY,.int .i64 sl,.slice (some ⟨b,off,none⟩) L.length cL,.int .i64 fx,.int .i64 fX,.int .i64 fy,.int .i64 fY,.slice AB B.length cB]:=by exact bX0
      have V1 : Box (W7.alloc (.cells #[.int .i64 (x + n * dx),.int .i64 (y + n * dy)] 22)) (w.heap.size + 1) 33 #[.int .i64 ps,.slice (some ⟨b',off',none⟩) Q.length cQ]:=by exact bX0
      have V3 : Box (W7.alloc (.cells #[.int .i64 (x + n * dx),.int .i64 (y + n * dy)] 22)) (w.heap.size + 1 + 1) 22 #[.int .i64 (x + n * dx),.int .i64 (y + n * dy)]:=by exact bX0
      have VB : Below w.heap.size w (W7.alloc (.cells #[.int .i64 (x + n * dx),.int .i64 (y + n * dy)] 22)):=by exact bB1 hBy
      have XB:=VB.grown hgrow1 (by simp;omega) (fun r e => by have e : some g = some r:=e;have:=(own7.lt g (by simp [Value.ownBlock])).1;have:=Option.some.inj e;omega)
      have X0:=V0.grow hgrow1 n0
      have X1:=V1.grow hgrow1 n1
      have X3:=V3.grow hgrow1 n3
      obtain ⟨g',cap',rfl,_,_⟩:=own_pos hown1 (by omega) (by decide)
      have N0:=own_apart hown1 X0 (.inl (by decide))
      have N1:=own_apart hown1 X1 (.inl (by decide))
      have N3:=own_apart hown1 X3 (.inr (by show 2 < _;omega))
      go_wp2_with fail
      go_roundw
      case rel => exact ⟨k + 1,x + n * dx,y + n * dy,T + q,D ++ [(x + n * dx,y + n * dy)],g',cap',by omega,by go_num,rfl,rfl,by simp;omega,by unfold Hid;rw [hf.out,HD.out,HE.out,FE.out];simp,by omega,by omega,by omega,by simpa [ceV] using hown1,N0,N1,N3,X0,X1,X3,XB⟩
      case measure => simp [intOf];omega
    · have s3:=b0.cell 3
      have ls0:=b0.lt
      have hlL : ¬ (k : Int) < (L.length : Int):=by have:=hqL.out;omega
      simp at s3
      go_wp2
      go_ret
      have e : Q.drop k = []:=List.drop_eq_nil_of_le (by omega)
      have hR : R = D:=by rw [hf.out,e];cases L.drop k <;> simp [jtsF]
      subst hR
      rw [← hD] at own
      have hl:=own.lt g (by simp [Value.ownBlock])
      refine ⟨g,cap,congrArg Ending.returned (show Value.slice (some ⟨g,0,none⟩) (k + 1) cap = .slice (some ⟨g,0,none⟩) R.length cap by rw [hD]),hl.1,hl.2,slv_own (by decide) own,own_some own,hB⟩
end Go.Proofs.YtpnfgmgoafgcbaaGreat
/-
  from of the reference (chapter 6): all cells of the links from a joint on.
-/
set_option linter.unusedVariables false
namespace Go.Proofs.YtpnfgmgoafgcbaaGreat
open Go.RowKit
attribute [local go_sem] Oper.semAt_some
/-- The cells of a link from the k-th on. -/
def lnsK (a b : Ce) (n k : Int) (m : Nat) : List Ce:=(List.range m).map fun (j : Nat) => linR a b n (k + j)
theorem lnsK_step (a b : Ce) (n k : Int) (m : Nat) : lnsK a b n k (m + 1) = linR a b n k :: lnsK a b n (k + 1) m:=by
  unfold lnsK
  rw [List.range_succ_eq_map,List.map_cons,List.map_map]
  congr 1
  · simp
  · apply List.map_congr_left
    intro j _
    simp only [Function.comp,Nat.succ_eq_add_one]
    congr 1
    omega
theorem lnsR_K (a b : Ce) (n : Int) (m : Nat) : lnsR a b n m = lnsK a b n 1 m:=by
  unfold lnsR lnsK
  apply List.map_congr_left
  intro j _
  congr 1
  omega
theorem frR_step {js : List Ce} {L : List Lk} {q : Nat} {a b : Ce} {l : Lk} (ha : js[q]? = some a) (hb : js[q + 1]? = some b) (hl : L[q]? = some l) : frR (js.drop q) (L.drop q) = lnsK a b l.1 1 l.1.toNat ++ frR (js.drop (q + 1)) (L.drop (q + 1)):=by
  have h1:=(List.getElem?_eq_some_iff.1 ha)
  have h2:=(List.getElem?_eq_some_iff.1 hb)
  have h3:=(List.getElem?_eq_some_iff.1 hl)
  obtain ⟨i1,rfl⟩:=h1
  obtain ⟨i2,rfl⟩:=h2
  obtain ⟨i3,rfl⟩:=h3
  rw [List.drop_eq_getElem_cons i1,List.drop_eq_getElem_cons i3,List.drop_eq_getElem_cons i2,frR,lnsR_K]
theorem frR_end {js : List Ce} {L : List Lk} {q : Nat} (h : L.length ≤ q) : frR (js.drop q) (L.drop q) = []:=by
  rw [List.drop_eq_nil_of_le h]
  cases js.drop q with
  | nil => rfl
  | cons a l => cases l <;> rfl
/-- How from ends. -/
def FrmEnd (l : List Ce) (w : World) (e : Ending) (w' : World) : Prop:=∃ g cap,e = .returned (.slice (some ⟨g,0,none⟩) l.length cap) ∧ w'.ownsRow w.heap.size 22 2 (.slice (some ⟨g,0,none⟩) l.length cap) l.length (l.flatMap ceV) ∧ Below w.heap.size w w'
theorem st_cell {bad : Nat → Prop} {W W' : World} {b o : Nat} (h : Steps1 bad W W') (hlt : b < W.heap.size) (hn : ¬ bad b) : W'.cell? ⟨b,o,none⟩ = W.cell? ⟨b,o,none⟩:=World.cell?_of_block (h.2 b hlt hn)
theorem st_drew {bad : Nat → Prop} {W X : World} (h : Steps1 bad W X) : Steps1 bad W X.drew:=⟨h.1,h.2⟩
theorem st_grown {W X Y : World} {g : Nat} (h : Steps1 (· = g) W X) (hg : X.grownBy Y (some g)) : Steps1 (· = g) W Y :=
  ⟨Nat.le_trans h.1 hg.size,fun k hk hn => (hg.block k (Nat.lt_of_lt_of_le hk h.1) (fun e => hn (by injection e))).trans (h.2 k hk hn)⟩
set_option maxHeartbeats 8000000 in
set_option maxRecDepth 100000 in
theorem from_c (bx bY sl fx fX fy fY ps : Int) (L : List Lk) (B : List Bx) (Q : List Int) (AL AB AQ : Option Addr) (cL cB cQ : Nat) (jn : Nat) (w : World) (hQ : Q.length = L.length) (hL : L.length ≤ 3) (hjn : jn ≤ L.length)
    (hb1 : -1000 ≤ bx ∧ bx ≤ 1000) (hb2 : -1000 ≤ bY ∧ bY ≤ 1000) (hb3 : -1000 ≤ ps ∧ ps ≤ 1000) (hl : ∀ l ∈ L,1 ≤ l.1 ∧ l.1 ≤ 4) (hq : ∀ q ∈ Q,-2 ≤ q ∧ q ≤ 2) (hJ : ∀ c ∈ jts (⟨bx,bY,sl,L,(fx,fX,fy,fY),B⟩ : Sc) (ps,Q),(-3000 ≤ c.1 ∧ c.1 ≤ 3000) ∧ (-3000 ≤ c.2 ∧ c.2 ≤ 3000)) (hs1 : SlV w AL (L.flatMap lkV)) (hs3 : SlI w AQ Q) :
    Calls Tryz.prog 117 #[.agg #[.int .i64 bx,.int .i64 bY,.int .i64 sl,.slice AL L.length cL,.int .i64 fx,.int .i64 fX,.int .i64 fy,.int .i64 fY,.slice AB B.length cB],.agg #[.int .i64 ps,.slice AQ Q.length cQ],.int .i64 jn] w (FrmEnd (frP (⟨bx,bY,sl,L,(fx,fX,fy,fY),B⟩ : Sc) (ps,Q) jn) w):=by
  have JOc:=Lib.hid (fun W (h : Below w.heap.size w W) => rJoints_c bx bY sl fx fX fy fY ps L B Q AL AB AQ cL cB cQ W hQ hL hb1 hb2 hb3 hl hq (hs1.below h) (hs3.below h))
  have HP:=Lib.hid (show frP (⟨bx,bY,sl,L,(fx,fX,fy,fY),B⟩ : Sc) (ps,Q) jn = (jts (⟨bx,bY,sl,L,(fx,fX,fy,fY),B⟩ : Sc) (ps,Q)).getD jn (0,0) :: frR ((jts (⟨bx,bY,sl,L,(fx,fX,fy,fY),B⟩ : Sc) (ps,Q)).drop jn) (L.drop jn) from rfl)
  have HN:=Lib.hid (show (jts (⟨bx,bY,sl,L,(fx,fX,fy,fY),B⟩ : Sc) (ps,Q)).length = L.length + 1 by rw [jts_len (s:=(⟨bx,bY,sl,L,(fx,fX,fy,fY),B⟩ : Sc)) (p:=(ps,Q)) hQ])
  have HS:=Lib.hid hs1
  have HL:=Lib.hid hl
  have HJ:=Lib.hid hJ
  generalize frP (⟨bx,bY,sl,L,(fx,fX,fy,fY),B⟩ : Sc) (ps,Q) jn = R at *
  generalize jts (⟨bx,bY,sl,L,(fx,fX,fy,fY),B⟩ : Sc) (ps,Q) = js at *
  clear hs1 hs3 hQ hl hq hJ
  obtain ⟨j0,zC,hj0,hy0,hy1,hy2,hy3⟩:=infoOk_parts infoC
  have hjl : jn < js.length:=by have:=HN.out;omega
  go_enter Tryz.func117,Tryz.ntmps117
  go_upto_region 2 with (first | (go_at_call 62;(with_reducible refine (JOc.out _ (by exact bB0)).mono ?_);rintro e w2 hE2;obtain ⟨gJ,capJ,rfl,hgJ,hgJ2,hvJ,hbJ,hb2⟩:=hE2) | fail)
  have hz2:=hb2.size
  simp at hz2
  have hSB : Box w2 w.heap.size 30 #[.int .i64 bx,.int .i64 bY,.int .i64 sl,.slice AL L.length cL,.int .i64 fx,.int .i64 fX,.int .i64 fy,.int .i64 fY,.slice AB B.length cB]:=by exact bX1 hb2
  have hBw : Below w.heap.size w w2:=by exact bB1 hb2
  have HV:=Lib.hid hvJ
  obtain ⟨_,_,e,_,ja0,ja1⟩:=ce_cells hvJ (List.getElem?_eq_getElem hjl)
  cases e
  have hjli : (jn : Int) < (js.length : Int):=by omega
  generalize hja : js[jn] = aj at *
  obtain ⟨ax,ay⟩:=aj
  have HPa:=Lib.hid (show R = (ax,ay) :: frR (js.drop jn) (L.drop jn) by rw [HP.out,List.getD_eq_getElem?_getD,List.getElem?_eq_getElem hjl,hja];rfl)
  dsimp only at ja0 ja1
  simp only [Nat.zero_add] at ja0 ja1
  clear hvJ hja HP
  generalize hU : w2.heap.size = U at *
  go_wp2
  have OWN0:=Lib.hid (show (w2.alloc (.cells #[.int .i64 ax,.int .i64 ay] 22)).ownsRow U 22 2 (.slice (some ⟨U,0,none⟩) 1 1) 1 ([(ax,ay)].flatMap ceV) from by
    subst hU
    have:=World.ownsRow_lit (base:=w2.heap.size) (e:=22) (size:=2) w2 #[.int .i64 ax,.int .i64 ay] 1 (by simp) (by decide) rfl
    simpa [ceV] using this)
  go_loopw [8,9] (fun v i wr => ∃ (q : Nat) (D : List Ce) (g cap : Nat),jn ≤ q ∧ q ≤ L.length ∧ i = .int .i64 q ∧ v = .slice (some ⟨g,0,none⟩) D.length cap ∧ (1 ≤ D.length ∧ D.length ≤ 1 + 4 * q) ∧ Hid (R = D ++ frR (js.drop q) (L.drop q)) ∧ Hid (wr.ownsRow U 22 2 (.slice (some ⟨g,0,none⟩) D.length cap) D.length (D.flatMap ceV)) ∧ Below U w2 wr) (fun _ i _ => L.length - (intOf i).toNat)
  case atStart => exact ⟨jn,[(ax,ay)],U,1,Nat.le_refl _,hjn,rfl,rfl,⟨by simp,by simp⟩,HPa.out,OWN0.out,by subst hU;exact bB0⟩
  case round =>
    obtain ⟨q,D,g,cap,hq0,hq1,rfl,rfl,⟨hD1,hD2⟩,hf,hown,hBU⟩:=hrel
    clear OWN0 HPa ja0 ja1
    have hz0:=hBU.size
    have hS:=hSB.below (w':=wr) (B:=U) hBU (by omega)
    have s3:=hS.cell 3
    have lS:=hS.lt
    simp at s3
    by_cases hlt : q < L.length
    · have hq2 : q < js.length:=by have:=HN.out;omega
      have hq3 : q + 1 < js.length:=by have:=HN.out;omega
      obtain ⟨bL,oL,rfl,hbL0,k0',_,_⟩:=lk_cells (HS.out.below hBw) (List.getElem?_eq_getElem hlt)
      have k0:=(hBU.cell (p:=⟨bL,_,none⟩) (by simpa [hU] using hbL0)).trans k0'
      have ln:=HL.out _ (List.getElem_mem hlt)
      obtain ⟨_,_,e1,_,ja0',ja1'⟩:=ce_cells HV.out (List.getElem?_eq_getElem hq2)
      cases e1
      obtain ⟨_,_,e2,_,jb0',jb1'⟩:=ce_cells HV.out (List.getElem?_eq_getElem hq3)
      cases e2
      have ja0:=(hBU.cell (p:=⟨gJ,_,none⟩) (by simpa [hU] using hgJ2)).trans ja0'
      have ja1:=(hBU.cell (p:=⟨gJ,_,none⟩) (by simpa [hU] using hgJ2)).trans ja1'
      have jb0:=(hBU.cell (p:=⟨gJ,_,none⟩) (by simpa [hU] using hgJ2)).trans jb0'
      have jb1:=(hBU.cell (p:=⟨gJ,_,none⟩) (by simpa [hU] using hgJ2)).trans jb1'
      have bA:=HJ.out _ (List.getElem_mem hq2)
      have bB:=HJ.out _ (List.getElem_mem hq3)
      have ST:=Lib.hid (frR_step (List.getElem?_eq_getElem hq2) (List.getElem?_eq_getElem hq3) (List.getElem?_eq_getElem hlt))
      generalize L[q] = lk at *
      generalize js[q] = ca at *
      generalize js[q + 1] = cb at *
      obtain ⟨n,lo,hi⟩:=lk
      obtain ⟨xa,ya⟩:=ca
      obtain ⟨xb,yb⟩:=cb
      dsimp only at k0 k0' ln ja0' ja1' jb0' jb1' bA bB
      simp only [Nat.zero_add] at ja0' ja1' jb0' jb1'
      clear ja0 ja1 jb0 jb1
      have hlo:=hown.out.lt g (by simp [Value.ownBlock])
      go_wp2
      go_loopw [8,10] (fun v kk wq => ∃ (k : Int) (E : List Ce) (g2 cap2 : Nat),kk = .int .i64 k ∧ (1 ≤ k ∧ k ≤ n + 1) ∧ v = .slice (some ⟨g2,0,none⟩) E.length cap2 ∧ (1 ≤ E.length ∧ (E.length : Int) ≤ 1 + 4 * q + (k - 1)) ∧ Hid (R = E ++ (lnsK (xa,ya) (xb,yb) n k (n + 1 - k).toNat ++ frR (js.drop (q + 1)) (L.drop (q + 1)))) ∧ Hid (wq.ownsRow U 22 2 (.slice (some ⟨g2,0,none⟩) E.length cap2) E.length (E.flatMap ceV)) ∧ Below U w2 wq) (fun _ kk _ => (n + 1 - intOf kk).toNat)
      case atStart => exact ⟨1,D,g,cap,rfl,by omega,rfl,⟨hD1,by omega⟩,by unfold Hid;rw [hf.out,ST.out,show (n + 1 - 1).toNat = n.toNat by omega],hown.out,hBU⟩
      case round =>
        obtain ⟨k,E,g2,cap2,rfl,⟨hk1,hk2⟩,rfl,⟨hE1,hE2⟩,hg,hown2,hBV⟩:=hrel
        clear hf hown s3 lS hS k0 hlo
        have hz1:=hBV.size
        have hS:=hSB.below (w':=wr) (B:=U) hBV (by omega)
        have s3:=hS.cell 3
        have lS:=hS.lt
        simp at s3
        have k0:=(hBV.cell (p:=⟨bL,_,none⟩) (by simpa [hU] using hbL0)).trans k0'
        have ja0:=(hBV.cell (p:=⟨gJ,_,none⟩) (by simpa [hU] using hgJ2)).trans ja0'
        have ja1:=(hBV.cell (p:=⟨gJ,_,none⟩) (by simpa [hU] using hgJ2)).trans ja1'
        have jb0:=(hBV.cell (p:=⟨gJ,_,none⟩) (by simpa [hU] using hgJ2)).trans jb0'
        have jb1:=(hBV.cell (p:=⟨gJ,_,none⟩) (by simpa [hU] using hgJ2)).trans jb1'
        have hlo:=hown2.out.lt g2 (by simp [Value.ownBlock])
        have hbL : bL < wr.heap.size:=by omega
        have lJ : gJ < wr.heap.size:=by omega
        have nS : ¬ w.heap.size = g2:=by omega
        have nL : ¬ bL = g2:=by omega
        have nJ : ¬ gJ = g2:=by omega
        have m4 : (q : Int) < (L.length : Int):=by omega
        by_cases hkn : k ≤ n
        · have dle : decide (k ≤ n) = true:=decide_eq_true hkn
          have b1:=mulB (a:=k) (b:=xb - xa) 5 6000 (by omega) (by omega)
          have b2:=mulB (a:=k) (b:=yb - ya) 5 6000 (by omega) (by omega)
          have b3:=Int.natAbs_tdiv_le_natAbs (k * (xb - xa)) n
          have b4:=Int.natAbs_tdiv_le_natAbs (k * (yb - ya)) n
          have STP:=Lib.hid (show R = (E ++ [linR (xa,ya) (xb,yb) n k]) ++ (lnsK (xa,ya) (xb,yb) n (k + 1) (n + 1 - (k + 1)).toNat ++ frR (js.drop (q + 1)) (L.drop (q + 1))) by
            rw [hg.out,show (n + 1 - k).toNat = (n + 1 - (k + 1)).toNat + 1 by omega,lnsK_step];simp)
          have LR:=Lib.hid (show linR (xa,ya) (xb,yb) n k = (xa + (k * (xb - xa)).tdiv n,ya + (k * (yb - ya)).tdiv n) from rfl)
          have v1 : IntKind.i64.wrap (xb - xa) = xb - xa:=IntWalk.i64_in _ (by omega)
          have v2 : IntKind.i64.wrap (yb - ya) = yb - ya:=IntWalk.i64_in _ (by omega)
          have v3 : IntKind.i64.wrap (k * (xb - xa)) = k * (xb - xa):=IntWalk.i64_in _ (by omega)
          have v4 : IntKind.i64.wrap (k * (yb - ya)) = k * (yb - ya):=IntWalk.i64_in _ (by omega)
          have n0 : n ≠ 0:=by omega
          have n0b : (n == 0) = false:=beqF n0
          have v5 : IntKind.i64.wrap ((k * (xb - xa)).tdiv n) = (k * (xb - xa)).tdiv n:=IntWalk.i64_in _ (by omega)
          have v6 : IntKind.i64.wrap ((k * (yb - ya)).tdiv n) = (k * (yb - ya)).tdiv n:=IntWalk.i64_in _ (by omega)
          have v7 : IntKind.i64.wrap (xa + (k * (xb - xa)).tdiv n) = xa + (k * (xb - xa)).tdiv n:=IntWalk.i64_in _ (by omega)
          have v8 : IntKind.i64.wrap (ya + (k * (yb - ya)).tdiv n) = ya + (k * (yb - ya)).tdiv n:=IntWalk.i64_in _ (by omega)
          have v9 : IntKind.i64.wrap ((q : Int) + 1) = (q : Int) + 1:=IntWalk.i64_in _ (by omega)
          have m1 : (q : Int) < (js.length : Int):=by omega
          have m2 : (q : Int) + 1 < (js.length : Int):=by omega
          have m3 : 0 ≤ (q : Int) + 1:=by omega
          have hm1 : E.length + 1 ≤ maxLen:=by unfold maxLen;omega
          have hm2 : (E.length + 1) * 16 ≤ 140737488355328:=by omega
          have OWND:=hown2
          clear hg b1 b2 b3 b4
          have hSTP:=Lib.hid (show R = (E ++ [(xa + (k * (xb - xa)).tdiv n,ya + (k * (yb - ya)).tdiv n)]) ++ (lnsK (xa,ya) (xb,yb) n (k + 1) (n + 1 - (k + 1)).toNat ++ frR (js.drop (q + 1)) (L.drop (q + 1))) by rw [STP.out,LR.out])
          clear STP LR ST
          go_wp2
          (refine region_open kR (fun R hR => ?_);refine heldR (S:=(fun w' => Steps1 (· = g2) wr w')) ?_ (fun hHeld => ?_);(focus ((try dsimp only);((first | exact Steps1.refl _ _ | exact (Steps1.refl _ _).alloc _ | exact st_drew ((Steps1.refl _ _).alloc _) | exact st_grown (st_drew ((Steps1.refl _ wr).alloc _)) (show World.grownBy _ w5 (some g2) from hgrow5)))));have hO:=Lib.hid (fun w' (hSw : (fun w' => Steps1 (· = g2) wr w') w') => (by (try dsimp only at hSw);(have sa0:=(st_cell hSw lS nS).trans s3;have sa1:=(st_cell hSw hbL nL).trans k0;have sa2:=(st_cell hSw lJ nJ).trans ja0;have sa3:=(st_cell hSw lJ nJ).trans ja1;have sa4:=(st_cell hSw lJ nJ).trans jb0;have sa5:=(st_cell hSw lJ nJ).trans jb1);exact And.intro sa0 (And.intro sa1 (And.intro sa2 (And.intro sa3 (And.intro sa4 sa5))))));refine rgN 0 rfl ?_;refine rgN 1 rfl ?_;refine rgN 2 rfl ?_;refine rgN 3 rfl ?_;refine rgN 4 rfl ?_;refine rgL 5 hO rfl ?_;refine rgN 6 rfl ?_;refine rgN 7 rfl ?_;refine rgN 8 rfl ?_;refine rgN 9 rfl ?_;refine rgN 10 rfl ?_;refine rgN 11 rfl ?_;refine rgL 12 hO rfl ?_;refine rgN 13 rfl ?_;refine rgN 14 rfl ?_;refine rgN 15 rfl ?_;refine rgN 16 rfl ?_;refine rgL 17 hO rfl ?_;refine rgN 18 rfl ?_;refine rgN 19 rfl ?_;refine rgN 20 rfl ?_;refine rgL 21 hO rfl ?_;refine rgN 22 rfl ?_;refine rgN 23 rfl ?_;refine rgN 24 rfl ?_;refine rgL 25 hO rfl ?_;refine rgN 26 rfl ?_;refine rgN 27 rfl ?_;refine rgN 28 rfl ?_;refine rgN 29 rfl ?_;refine rgN 30 rfl ?_;refine rgN 31 rfl ?_;refine rgL 32 hO rfl ?_;refine rgN 33 rfl ?_;refine rgN 34 rfl ?_;refine rgN 35 rfl ?_;refine rgN 36 rfl ?_;refine rgN 37 rfl ?_;refine rgN 38 rfl ?_;refine rgL 39 hO rfl ?_;refine rgN 40 rfl ?_;refine rgN 41 rfl ?_;refine rgN 42 rfl ?_;refine rgN 43 rfl ?_;refine rgL 44 hO rfl ?_;refine rgN 45 rfl ?_;refine rgN 46 rfl ?_;refine rgN 47 rfl ?_;refine rgL 48 hO rfl ?_;refine rgN 49 rfl ?_;refine rgN 50 rfl ?_;refine rgN 51 rfl ?_;refine rgL 52 hO rfl ?_;refine rgN 53 rfl ?_;refine rgN 54 rfl ?_;refine rgN 55 rfl ?_;refine rgC 56 rfl (fun K hK => ?_);go_simp;((first | (refine step_append_lies _ rfl (.tmp 37) (.tmp 93) 54 rfl U 22 j0 zC 2 16 Tryz.underlying54 hj0 hy0 hy1 hy2 hy3 (by decide) _ _ _ rfl ((OWND.out).alloc _) ⟨wr.heap.size,0,none⟩ 1 1 [.int .i64 (xa + (k * (xb - xa)).tdiv n),.int .i64 (ya + (k * (yb - ya)).tdiv n)] rfl rfl (by simpa using cell_two_new wr (.int .i64 (xa + (k * (xb - xa)).tdiv n)) (.int .i64 (ya + (k * (yb - ya)).tdiv n)) 22) (by simp [Value.oneCell']) (by decide) hm1 hm2 (by simp;omega) _ rfl ?_;intro g5 cap5 w5 hown5 hgrow5 hat5 hlt5) | skip));go_simp;refine hK.out _ _ ?_ (fun hHeld => ?_);(focus ((try dsimp only);((first | exact Steps1.refl _ _ | exact (Steps1.refl _ _).alloc _ | exact st_drew ((Steps1.refl _ _).alloc _) | exact st_grown (st_drew ((Steps1.refl _ wr).alloc _)) (show World.grownBy _ w5 (some g2) from hgrow5)))));clear hK K;(try simp only [Act.put,pqs]);refine rgC 57 rfl (fun K hK => ?_);((first | (refine step_append_lies _ rfl (.tmp 37) (.tmp 93) 54 rfl U 22 j0 zC 2 16 Tryz.underlying54 hj0 hy0 hy1 hy2 hy3 (by decide) _ _ _ rfl ((OWND.out).alloc _) ⟨wr.heap.size,0,none⟩ 1 1 [.int .i64 (xa + (k * (xb - xa)).tdiv n),.int .i64 (ya + (k * (yb - ya)).tdiv n)] rfl rfl (by simpa using cell_two_new wr (.int .i64 (xa + (k * (xb - xa)).tdiv n)) (.int .i64 (ya + (k * (yb - ya)).tdiv n)) 22) (by simp [Value.oneCell']) (by decide) hm1 hm2 (by simp;omega) _ rfl ?_;intro g5 cap5 w5 hown5 hgrow5 hat5 hlt5) | skip));go_simp;refine hK.out _ _ ?_ (fun hHeld => ?_);(focus ((try dsimp only);((first | exact Steps1.refl _ _ | exact (Steps1.refl _ _).alloc _ | exact st_drew ((Steps1.refl _ _).alloc _) | exact st_grown (st_drew ((Steps1.refl _ wr).alloc _)) (show World.grownBy _ w5 (some g2) from hgrow5)))));clear hK K;(try simp only [Act.put,pqs]);refine rgN 58 rfl ?_;refine wpAnyH_done (Q:=fun e a w => e = Exit.normal ∧ R a w) kR ⟨rfl,hR _ _ ?_⟩ _;clear hR R)
          go_wp2
          go_roundw
          case rel =>
            refine ⟨k + 1,E ++ [(xa + (k * (xb - xa)).tdiv n,ya + (k * (yb - ya)).tdiv n)],g5,cap5,by go_num,by omega,by simp,⟨by simp,by simp;omega⟩,hSTP.out, ?_, ?_⟩
            · unfold Hid
              simpa [List.flatMap_append,ceV] using hown5
            · exact (show Below U w2 ((wr.alloc (.cells #[.int .i64 (xa + (k * (xb - xa)).tdiv n),.int .i64 (ya + (k * (yb - ya)).tdiv n)] 22)).drew) from by exact bB1 hBV).grown (show World.grownBy _ w5 (some g2) from hgrow5) (by simp;omega) (fun j e => by have:=Option.some.inj e;omega)
          case measure => simp [intOf];omega
        · have dle : decide (k ≤ n) = false:=decide_eq_false hkn
          have hR : R = E ++ frR (js.drop (q + 1)) (L.drop (q + 1)):=by rw [hg.out,show (n + 1 - k).toNat = 0 by omega];rfl
          have HR:=Lib.hid hR
          clear hR hg
          go_wp2
          go_roundw
          case rel => exact ⟨q + 1,E,g2,cap2,by omega,by omega,by go_num,rfl,⟨hE1,by omega⟩,HR.out,hown2.out,hBV⟩
          case measure => simp [intOf];omega
    · have hR : R = D:=by rw [hf.out,frR_end (by omega)];simp
      go_wp2
      go_ret
      subst hR
      exact ⟨g,cap,rfl,own_base hown.out (by omega),by exact bB2 hBU hBw⟩
end Go.Proofs.YtpnfgmgoafgcbaaGreat
/-
  isTaken, IsFree and FreeErr of the reference (chapter 6).
-/
set_option linter.unusedVariables false
namespace Go.Proofs.YtpnfgmgoafgcbaaGreat
open Go.RowKit
attribute [local go_sem] Oper.semAt_some
theorem anyB_drop {B : List Bx} {k : Nat} (f : Bx → Bool) (h : k < B.length) : (B.drop k).any f = (f B[k] || (B.drop (k + 1)).any f):=by rw [List.drop_eq_getElem_cons h];rfl
set_option maxHeartbeats 4000000 in
set_option maxRecDepth 100000 in
theorem rIsTaken_c (bx bY sl fx fX fy fY a b : Int) (L : List Lk) (B : List Bx) (AL AB : Option Addr) (cL cB : Nat) (w : World) (hB : B.length ≤ 100000) (hs2 : SlV w AB (B.flatMap bxV)) :
    Calls Tryz.prog 136 #[.agg #[.int .i64 bx,.int .i64 bY,.int .i64 sl,.slice AL L.length cL,.int .i64 fx,.int .i64 fX,.int .i64 fy,.int .i64 fY,.slice AB B.length cB],.agg #[.int .i64 a,.int .i64 b]] w fun e w' => e = .returned (.bool (tkC (⟨bx,bY,sl,L,(fx,fX,fy,fY),B⟩ : Sc) (a,b))) ∧ Below w.heap.size w w':=by
  have HE:=Lib.hid (show tkC (⟨bx,bY,sl,L,(fx,fX,fy,fY),B⟩ : Sc) (a,b) = (!inBx (fx,fX,fy,fY) (a,b) || B.any fun z => inBx z (a,b)) from rfl)
  have I0c:=Lib.hid (fun W => isIn_c fx fX fy fY a b W)
  have HS:=Lib.hid hs2
  clear hs2
  generalize tkC (⟨bx,bY,sl,L,(fx,fX,fy,fY),B⟩ : Sc) (a,b) = R at *
  cases g : inBx (fx,fX,fy,fY) (a,b)
  · have HR:=Lib.hid (show R = true by rw [HE.out,g];rfl)
    rw [g] at I0c
    clear HE
    go_enter Tryz.func136,Tryz.ntmps136
    go_wp2_with (first | (go_at_call 77;(with_reducible refine (I0c.out _).mono ?_);rintro e w2 ⟨rfl,hb2⟩) | fail)
    go_ret
    exact ⟨ret_b HR.out.symm,by exact bB1 hb2⟩
  · have HR:=Lib.hid (show R = B.any fun z => inBx z (a,b) by rw [HE.out,g];rfl)
    rw [g] at I0c
    clear HE
    go_enter Tryz.func136,Tryz.ntmps136
    go_wp2_with (first | (go_at_call 77;(with_reducible refine (I0c.out _).mono ?_);rintro e w2 ⟨rfl,hb2⟩) | fail)
    have hz2:=hb2.size
    simp at hz2
    go_loopw [5] (fun i wr => ∃ k : Nat,k ≤ B.length ∧ i = .int .i64 k ∧ Hid (R = (B.drop k).any fun z => inBx z (a,b)) ∧ Box wr w.heap.size 30 #[.int .i64 bx,.int .i64 bY,.int .i64 sl,.slice AL L.length cL,.int .i64 fx,.int .i64 fX,.int .i64 fy,.int .i64 fY,.slice AB B.length cB] ∧ Box wr (w.heap.size + 1) 22 #[.int .i64 a,.int .i64 b] ∧ Below w.heap.size w wr) (fun i _ => B.length - (intOf i).toNat)
    case atStart => exact ⟨0,Nat.zero_le _,rfl,HR.out,by exact bX1 hb2,by exact bX1 hb2,by exact bB1 hb2⟩
    case round =>
      obtain ⟨k,hk,rfl,hf,hH,hC,hBw⟩:=hrel
      clear HR I0c hb2 hz2
      have zz0:=hH.cell 0;have zz1:=hH.cell 1;have zz2:=hH.cell 2;have zz3:=hH.cell 3;have zz4:=hH.cell 4;have zz5:=hH.cell 5;have zz6:=hH.cell 6;have zz7:=hH.cell 7;have zz8:=hH.cell 8
      have q0:=hC.cell 0;have q1:=hC.cell 1
      simp at zz0 zz1 zz2 zz3 zz4 zz5 zz6 zz7 zz8 q0 q1
      have lH:=hH.lt;have lC:=hC.lt
      by_cases hlt : k < B.length
      · obtain ⟨bB,oB,rfl,hbB,c0,c1,c2,c3⟩:=bx_cells (HS.out.below hBw) (List.getElem?_eq_getElem hlt)
        have D:=Lib.hid (anyB_drop (fun z => inBx z (a,b)) hlt)
        generalize B[k] = bb at *
        obtain ⟨x,X,y,Y⟩:=bb
        dsimp only at c0 c1 c2 c3
        have i1 : (k : Int) < (B.length : Int):=by omega
        have FE:=Lib.hid (show R = (inBx (x,X,y,Y) (a,b) || (B.drop (k + 1)).any fun z => inBx z (a,b)) from hf.out.trans D.out)
        have I1c:=Lib.hid (fun W => isIn_c x X y Y a b W)
        cases g2 : inBx (x,X,y,Y) (a,b)
        · rw [g2] at I1c
          have HR:=Lib.hid (show R = (B.drop (k + 1)).any fun z => inBx z (a,b) by rw [FE.out,g2];rfl)
          clear FE
          go_wp2
          (refine region_open kR (fun R hR => ?_);refine heldR (S:=(fun w' => Below wr.heap.size wr w')) ?_ (fun hHeld => ?_);(focus ((try dsimp only);(((first | exact bB0 | exact bB1 hb3)))));have hO:=Lib.hid (fun w' (hSw : (fun w' => Below wr.heap.size wr w') w') => (by (try dsimp only at hSw);(have hcc:=(bcell hSw).1;have sa0:=(hcc _ 8 lH).trans zz8;have sa1:=(hcc _ _ hbB).trans c0;have sa2:=(hcc _ _ hbB).trans c1;have sa3:=(hcc _ _ hbB).trans c2;have sa4:=(hcc _ _ hbB).trans c3;have sa5:=(hcc _ 0 lC).trans q0;have sa6:=(hcc _ 1 lC).trans q1);exact And.intro sa0 (And.intro sa1 (And.intro sa2 (And.intro sa3 (And.intro sa4 (And.intro sa5 sa6)))))));refine rgN 0 rfl ?_;refine rgL 1 hO rfl ?_;refine rgN 2 rfl ?_;refine rgN 3 rfl ?_;refine rgL 4 hO rfl ?_;refine rgL 5 hO rfl ?_;refine rgC 6 rfl (fun K hK => ?_);go_simp;((go_at_call 77;(with_reducible refine (I1c.out _).mono ?_);rintro e w3 ⟨rfl,hb3⟩));go_simp;refine hK.out _ _ ?_ (fun hHeld => ?_);(focus ((try dsimp only);(((first | exact bB1 hb3 | exact bB0)))));clear hK K;(try simp only [Act.put,pqs]);refine wpAnyH_done (Q:=fun e a w => e = Exit.normal ∧ R a w) kR ⟨rfl,hR _ _ ?_⟩ _;clear hR R)
          go_wp2
          go_roundw
          case rel => exact ⟨k + 1,by omega,by go_num,HR.out,by exact bX1 hb3,by exact bX1 hb3,by exact bB2 hb3 hBw⟩
          case measure => simp [intOf];omega
        · rw [g2] at I1c
          have HR:=Lib.hid (show R = true by rw [FE.out,g2];rfl)
          clear FE
          go_wp2
          (refine region_open kR (fun R hR => ?_);refine heldR (S:=(fun w' => Below wr.heap.size wr w')) ?_ (fun hHeld => ?_);(focus ((try dsimp only);(((first | exact bB0 | exact bB1 hb3)))));have hO:=Lib.hid (fun w' (hSw : (fun w' => Below wr.heap.size wr w') w') => (by (try dsimp only at hSw);(have hcc:=(bcell hSw).1;have sa0:=(hcc _ 8 lH).trans zz8;have sa1:=(hcc _ _ hbB).trans c0;have sa2:=(hcc _ _ hbB).trans c1;have sa3:=(hcc _ _ hbB).trans c2;have sa4:=(hcc _ _ hbB).trans c3;have sa5:=(hcc _ 0 lC).trans q0;have sa6:=(hcc _ 1 lC).trans q1);exact And.intro sa0 (And.intro sa1 (And.intro sa2 (And.intro sa3 (And.intro sa4 (And.intro sa5 sa6)))))));refine rgN 0 rfl ?_;refine rgL 1 hO rfl ?_;refine rgN 2 rfl ?_;refine rgN 3 rfl ?_;refine rgL 4 hO rfl ?_;refine rgL 5 hO rfl ?_;refine rgC 6 rfl (fun K hK => ?_);go_simp;((go_at_call 77;(with_reducible refine (I1c.out _).mono ?_);rintro e w3 ⟨rfl,hb3⟩));go_simp;refine hK.out _ _ ?_ (fun hHeld => ?_);(focus ((try dsimp only);(((first | exact bB1 hb3 | exact bB0)))));clear hK K;(try simp only [Act.put,pqs]);refine wpAnyH_done (Q:=fun e a w => e = Exit.normal ∧ R a w) kR ⟨rfl,hR _ _ ?_⟩ _;clear hR R)
          go_wp2
          go_ret
          exact ⟨ret_b HR.out.symm,by exact bB2 hb3 hBw⟩
      · have HR:=Lib.hid (show R = false by rw [hf.out,List.drop_eq_nil_of_le (by omega)];rfl)
        go_wp2
        go_ret
        exact ⟨ret_b HR.out.symm,by exact bB1 hBw⟩
theorem allB_drop {l : List Ce} {k : Nat} (f : Ce → Bool) (h : k < l.length) : (l.drop k).all f = (f l[k] && (l.drop (k + 1)).all f):=by rw [List.drop_eq_getElem_cons h];rfl
set_option maxHeartbeats 4000000 in
set_option maxRecDepth 100000 in
theorem rIsFree_c (bx bY sl fx fX fy fY ps : Int) (L : List Lk) (B : List Bx) (Q : List Int) (AL AB AQ : Option Addr) (cL cB cQ : Nat) (w : World) (hS : SOk (⟨bx,bY,sl,L,(fx,fX,fy,fY),B⟩ : Sc)) (hp : POk (⟨bx,bY,sl,L,(fx,fX,fy,fY),B⟩ : Sc) (ps,Q)) (hs1 : SlV w AL (L.flatMap lkV)) (hs2 : SlV w AB (B.flatMap bxV)) (hs3 : SlI w AQ Q) :
    Calls Tryz.prog 64 #[.agg #[.int .i64 bx,.int .i64 bY,.int .i64 sl,.slice AL L.length cL,.int .i64 fx,.int .i64 fX,.int .i64 fy,.int .i64 fY,.slice AB B.length cB],.agg #[.int .i64 ps,.slice AQ Q.length cQ]] w fun e w' => e = .returned (.bool (freeP (⟨bx,bY,sl,L,(fx,fX,fy,fY),B⟩ : Sc) (ps,Q))) ∧ Below w.heap.size w w':=by
  have hbx:=hS.bx;have hbY:=hS.bY;have hlen:=hS.len;have hlk:=hS.lk;have hsl:=hp.sl6 hS;have hnB:=hS.nB
  have hpl:=hp.len
  dsimp only at hbx hbY hlen hlk hsl hnB hpl
  have FRc:=Lib.hid (fun W (h : Below w.heap.size w W) => from_c bx bY sl fx fX fy fY ps L B Q AL AB AQ cL cB cQ 0 W hpl hlen.2 (by omega) (by omega) (by omega) (by omega) (fun l h => by have:=hlk l h;omega) (hp.rng hS) (fun c hc => by have:=jts_small (s:=(⟨bx,bY,sl,L,(fx,fX,fy,fY),B⟩ : Sc)) (p:=(ps,Q)) hlen.2 (fun l h => by have:=hlk l h;omega) (by dsimp only;omega) (by dsimp only;omega) (by dsimp only;omega) c hc;omega) (hs1.below h) (hs3.below h))
  rw [show ((0 : Nat) : Int) = 0 from rfl] at FRc
  have TKd:=Lib.hid (fun (a b : Int) W (h : Below w.heap.size w W) => rIsTaken_c bx bY sl fx fX fy fY a b L B AL AB cL cB W (by omega) (hs2.below h))
  have HE:=Lib.hid (freeP_ref (s:=(⟨bx,bY,sl,L,(fx,fX,fy,fY),B⟩ : Sc)) (p:=(ps,Q)) (fun z h => (hlk z h).1) hpl (by dsimp only;omega))
  clear hs1 hs2 hs3 hbx hbY hlen hlk hsl hnB hpl hS hp
  generalize freeP (⟨bx,bY,sl,L,(fx,fX,fy,fY),B⟩ : Sc) (ps,Q) = R at *
  generalize frP (⟨bx,bY,sl,L,(fx,fX,fy,fY),B⟩ : Sc) (ps,Q) 0 = l at *
  generalize htk : tkC (⟨bx,bY,sl,L,(fx,fX,fy,fY),B⟩ : Sc) = tk at *
  clear htk
  go_enter Tryz.func64,Tryz.ntmps64
  go_wp2_with (first | (go_at_call 117;(with_reducible refine (FRc.out _ (by exact bB0)).mono ?_);rintro e w2 hE2;obtain ⟨gJ,capJ,rfl,hoJ,hb2⟩:=hE2) | fail)
  have hvJ:=slv_own (k:=2) (by decide) hoJ
  have hlm : l.length ≤ 9223372036854775807:=by have:=(own_cap hoJ).1;have:=(own_cap hoJ).2;unfold maxLen at *;omega
  have hz2:=hb2.size
  simp at hz2
  go_loopw [6] (fun i wr => ∃ k : Nat,k ≤ l.length ∧ i = .int .i64 k ∧ Hid (R = (l.drop k).all fun c => !tk c) ∧ Box wr w.heap.size 30 #[.int .i64 bx,.int .i64 bY,.int .i64 sl,.slice AL L.length cL,.int .i64 fx,.int .i64 fX,.int .i64 fy,.int .i64 fY,.slice AB B.length cB] ∧ SlV wr (some ⟨gJ,0,none⟩) (l.flatMap ceV) ∧ Below w.heap.size w wr) (fun i _ => l.length - (intOf i).toNat)
  case atStart => exact ⟨0,Nat.zero_le _,rfl,HE.out,by exact bX1 hb2,hvJ,by exact bB1 hb2⟩
  case round =>
    obtain ⟨k,hk,rfl,hf,hH,hv,hBw⟩:=hrel
    clear HE FRc hb2 hz2 hvJ hoJ
    have zz0:=hH.cell 0;have zz1:=hH.cell 1;have zz2:=hH.cell 2;have zz3:=hH.cell 3;have zz4:=hH.cell 4;have zz5:=hH.cell 5;have zz6:=hH.cell 6;have zz7:=hH.cell 7;have zz8:=hH.cell 8
    simp at zz0 zz1 zz2 zz3 zz4 zz5 zz6 zz7 zz8
    have lH:=hH.lt
    by_cases hlt : k < l.length
    · obtain ⟨_,_,e,lJ,c0,c1⟩:=ce_cells hv (List.getElem?_eq_getElem hlt)
      cases e
      have D:=Lib.hid (allB_drop (fun c => !tk c) hlt)
      generalize l[k] = cc at *
      obtain ⟨a,b⟩:=cc
      dsimp only at c0 c1
      simp only [Nat.zero_add] at c0 c1
      have i1 : (k : Int) < (l.length : Int):=by omega
      have FE:=Lib.hid (show R = (!tk (a,b) && (l.drop (k + 1)).all fun c => !tk c) from hf.out.trans D.out)
      have TKc:=Lib.hid (fun W (h : Below w.heap.size w W) => TKd.out a b W h)
      have HV:=Lib.hid hv
      clear hf D hv TKd
      cases g2 : tk (a,b)
      · rw [g2] at TKc
        have HR:=Lib.hid (show R = (l.drop (k + 1)).all fun c => !tk c by rw [FE.out,g2];rfl)
        clear FE
        go_wp2
        (refine region_open kR (fun R hR => ?_);refine heldR (S:=(fun w' => Below wr.heap.size wr w')) ?_ (fun hHeld => ?_);(focus ((try dsimp only);(((first | exact bB0 | exact bB1 hb3)))));have hO:=Lib.hid (fun w' (hSw : (fun w' => Below wr.heap.size wr w') w') => (by (try dsimp only at hSw);(have hcc:=(bcell hSw).1;have sa0:=(hcc _ 0 lH).trans zz0;have sa1:=(hcc _ 1 lH).trans zz1;have sa2:=(hcc _ 2 lH).trans zz2;have sa3:=(hcc _ 3 lH).trans zz3;have sa4:=(hcc _ 4 lH).trans zz4;have sa5:=(hcc _ 5 lH).trans zz5;have sa6:=(hcc _ 6 lH).trans zz6;have sa7:=(hcc _ 7 lH).trans zz7;have sa8:=(hcc _ 8 lH).trans zz8;have sb0:=(hcc _ _ lJ).trans c0;have sb1:=(hcc _ _ lJ).trans c1);exact And.intro sa0 (And.intro sa1 (And.intro sa2 (And.intro sa3 (And.intro sa4 (And.intro sa5 (And.intro sa6 (And.intro sa7 (And.intro sa8 (And.intro sb0 sb1)))))))))));refine rgL 0 hO rfl ?_;refine rgN 1 rfl ?_;refine rgN 2 rfl ?_;refine rgN 3 rfl ?_;refine rgL 4 hO rfl ?_;refine rgC 5 rfl (fun K hK => ?_);go_simp;((go_at_call 136;(with_reducible refine (TKc.out _ ?_).mono ?_);rotate_left;rintro e w3 ⟨rfl,hb3⟩;rotate_left;(focus (exact bB1 hBw))));go_simp;refine hK.out _ _ ?_ (fun hHeld => ?_);(focus ((try dsimp only);(((first | exact bB1 hb3 | exact bB0)))));clear hK K;(try simp only [Act.put,pqs]);refine wpAnyH_done (Q:=fun e a w => e = Exit.normal ∧ R a w) kR ⟨rfl,hR _ _ ?_⟩ _;clear hR R)
        go_wp2
        go_roundw
        case rel => exact ⟨k + 1,by omega,by go_num,HR.out,by exact bX1 hb3,HV.out.below (by exact bB1 hb3),by exact bB2 hb3 hBw⟩
        case measure => simp [intOf];omega
      · rw [g2] at TKc
        have HR:=Lib.hid (show R = false by rw [FE.out,g2];rfl)
        clear FE
        go_wp2
        (refine region_open kR (fun R hR => ?_);refine heldR (S:=(fun w' => Below wr.heap.size wr w')) ?_ (fun hHeld => ?_);(focus ((try dsimp only);(((first | exact bB0 | exact bB1 hb3)))));have hO:=Lib.hid (fun w' (hSw : (fun w' => Below wr.heap.size wr w') w') => (by (try dsimp only at hSw);(have hcc:=(bcell hSw).1;have sa0:=(hcc _ 0 lH).trans zz0;have sa1:=(hcc _ 1 lH).trans zz1;have sa2:=(hcc _ 2 lH).trans zz2;have sa3:=(hcc _ 3 lH).trans zz3;have sa4:=(hcc _ 4 lH).trans zz4;have sa5:=(hcc _ 5 lH).trans zz5;have sa6:=(hcc _ 6 lH).trans zz6;have sa7:=(hcc _ 7 lH).trans zz7;have sa8:=(hcc _ 8 lH).trans zz8;have sb0:=(hcc _ _ lJ).trans c0;have sb1:=(hcc _ _ lJ).trans c1);exact And.intro sa0 (And.intro sa1 (And.intro sa2 (And.intro sa3 (And.intro sa4 (And.intro sa5 (And.intro sa6 (And.intro sa7 (And.intro sa8 (And.intro sb0 sb1)))))))))));refine rgL 0 hO rfl ?_;refine rgN 1 rfl ?_;refine rgN 2 rfl ?_;refine rgN 3 rfl ?_;refine rgL 4 hO rfl ?_;refine rgC 5 rfl (fun K hK => ?_);go_simp;((go_at_call 136;(with_reducible refine (TKc.out _ ?_).mono ?_);rotate_left;rintro e w3 ⟨rfl,hb3⟩;rotate_left;(focus (exact bB1 hBw))));go_simp;refine hK.out _ _ ?_ (fun hHeld => ?_);(focus ((try dsimp only);(((first | exact bB1 hb3 | exact bB0)))));clear hK K;(try simp only [Act.put,pqs]);refine wpAnyH_done (Q:=fun e a w => e = Exit.normal ∧ R a w) kR ⟨rfl,hR _ _ ?_⟩ _;clear hR R)
        go_wp2
        go_ret
        exact ⟨ret_b HR.out.symm,by exact bB2 hb3 hBw⟩
    · have HR:=Lib.hid (show R = true by rw [hf.out,List.drop_eq_nil_of_le (by omega)];rfl)
      go_wp2
      go_ret
      exact ⟨ret_b HR.out.symm,by exact bB1 hBw⟩
set_option maxHeartbeats 4000000 in
theorem rFreeErr_c (bx bY sl fx fX fy fY ps : Int) (L : List Lk) (B : List Bx) (Q : List Int) (AL AB AQ : Option Addr) (cL cB cQ : Nat) (w : World) (hL : L.length ≤ 100000) (hB : B.length ≤ 100000) (hQ : Q.length ≤ 100000) (hs1 : SlV w AL (L.flatMap lkV)) (hs2 : SlV w AB (B.flatMap bxV)) (hs3 : SlI w AQ Q) :
    Calls Tryz.prog 37 #[.agg #[.int .i64 bx,.int .i64 bY,.int .i64 sl,.slice AL L.length cL,.int .i64 fx,.int .i64 fX,.int .i64 fy,.int .i64 fY,.slice AB B.length cB],.agg #[.int .i64 ps,.slice AQ Q.length cQ]] w fun e w' => e = .returned (.int .i64 (frE (⟨bx,bY,sl,L,(fx,fX,fy,fY),B⟩ : Sc) (ps,Q))) ∧ Below w.heap.size w w':=by
  have PEc:=Lib.hid (fun W (h : Below w.heap.size w W) => rPoseErr_c bx bY sl fx fX fy fY ps L B Q AL AB AQ cL cB cQ W hL hB hQ (hs1.below h) (hs2.below h) (hs3.below h))
  by_cases h0 : cpE (⟨bx,bY,sl,L,(fx,fX,fy,fY),B⟩ : Sc) (ps,Q) = 0
  · obtain ⟨hS,hp⟩:=cpE_ok h0
    have IFc:=Lib.hid (fun W (h : Below w.heap.size w W) => rIsFree_c bx bY sl fx fX fy fY ps L B Q AL AB AQ cL cB cQ W hS hp (hs1.below h) (hs2.below h) (hs3.below h))
    have HE:=Lib.hid (show frE (⟨bx,bY,sl,L,(fx,fX,fy,fY),B⟩ : Sc) (ps,Q) = if freeP (⟨bx,bY,sl,L,(fx,fX,fy,fY),B⟩ : Sc) (ps,Q) then 0 else 17 by unfold frE;rw [if_neg (by simp [h0])])
    rw [h0] at PEc
    clear hs1 hs2 hs3 hS hp h0
    generalize frE (⟨bx,bY,sl,L,(fx,fX,fy,fY),B⟩ : Sc) (ps,Q) = R at *
    generalize freeP (⟨bx,bY,sl,L,(fx,fX,fy,fY),B⟩ : Sc) (ps,Q) = f at *
    cases f
    · have HR:=Lib.hid (show R = 17 from HE.out)
      clear HE
      go_enter Tryz.func37,Tryz.ntmps37
      go_wp2_with (first | (go_at_call 36;(with_reducible refine (PEc.out _ (by exact bB0)).mono ?_);rintro e w2 ⟨rfl,hb2⟩;have hz2:=hb2.size;(simp at hz2);have y2 : Box w2 w.heap.size 30 #[.int .i64 bx,.int .i64 bY,.int .i64 sl,.slice AL L.length cL,.int .i64 fx,.int .i64 fX,.int .i64 fy,.int .i64 fY,.slice AB B.length cB]:=(by exact bX1 hb2);have y3 : Box w2 (w.heap.size + 1) 33 #[.int .i64 ps,.slice AQ Q.length cQ]:=(by exact bX1 hb2);have zz0:=y2.cell 0;have zz1:=y2.cell 1;have zz2:=y2.cell 2;have zz3:=y2.cell 3;have zz4:=y2.cell 4;have zz5:=y2.cell 5;have zz6:=y2.cell 6;have zz7:=y2.cell 7;have zz8:=y2.cell 8;have q0:=y3.cell 0;have q1:=y3.cell 1;(simp at zz0 zz1 zz2 zz3 zz4 zz5 zz6 zz7 zz8 q0 q1)) | (go_at_call 64;(with_reducible refine (IFc.out _ (by exact bB1 hb2)).mono ?_);rintro e w3 ⟨rfl,hb3⟩) | fail)
      go_ret
      exact ⟨ret_i HR.out.symm,by exact bB2 hb2 hb3⟩
    · have HR:=Lib.hid (show R = 0 from HE.out)
      clear HE
      go_enter Tryz.func37,Tryz.ntmps37
      go_wp2_with (first | (go_at_call 36;(with_reducible refine (PEc.out _ (by exact bB0)).mono ?_);rintro e w2 ⟨rfl,hb2⟩;have hz2:=hb2.size;(simp at hz2);have y2 : Box w2 w.heap.size 30 #[.int .i64 bx,.int .i64 bY,.int .i64 sl,.slice AL L.length cL,.int .i64 fx,.int .i64 fX,.int .i64 fy,.int .i64 fY,.slice AB B.length cB]:=(by exact bX1 hb2);have y3 : Box w2 (w.heap.size + 1) 33 #[.int .i64 ps,.slice AQ Q.length cQ]:=(by exact bX1 hb2);have zz0:=y2.cell 0;have zz1:=y2.cell 1;have zz2:=y2.cell 2;have zz3:=y2.cell 3;have zz4:=y2.cell 4;have zz5:=y2.cell 5;have zz6:=y2.cell 6;have zz7:=y2.cell 7;have zz8:=y2.cell 8;have q0:=y3.cell 0;have q1:=y3.cell 1;(simp at zz0 zz1 zz2 zz3 zz4 zz5 zz6 zz7 zz8 q0 q1)) | (go_at_call 64;(with_reducible refine (IFc.out _ (by exact bB1 hb2)).mono ?_);rintro e w3 ⟨rfl,hb3⟩) | fail)
      go_ret
      exact ⟨ret_i HR.out.symm,by exact bB2 hb2 hb3⟩
  · have HR:=Lib.hid (show frE (⟨bx,bY,sl,L,(fx,fX,fy,fY),B⟩ : Sc) (ps,Q) = cpE (⟨bx,bY,sl,L,(fx,fX,fy,fY),B⟩ : Sc) (ps,Q) by unfold frE;rw [if_pos h0])
    generalize frE (⟨bx,bY,sl,L,(fx,fX,fy,fY),B⟩ : Sc) (ps,Q) = R at *
    generalize cpE (⟨bx,bY,sl,L,(fx,fX,fy,fY),B⟩ : Sc) (ps,Q) = c at *
    have e1 : (c != 0) = true:=bneT h0
    clear hs1 hs2 hs3 h0
    go_enter Tryz.func37,Tryz.ntmps37
    go_wp2_with (first | (go_at_call 36;(with_reducible refine (PEc.out _ (by exact bB0)).mono ?_);rintro e w2 ⟨rfl,hb2⟩;have hz2:=hb2.size;(simp at hz2);have y2 : Box w2 w.heap.size 30 #[.int .i64 bx,.int .i64 bY,.int .i64 sl,.slice AL L.length cL,.int .i64 fx,.int .i64 fX,.int .i64 fy,.int .i64 fY,.slice AB B.length cB]:=(by exact bX1 hb2);have y3 : Box w2 (w.heap.size + 1) 33 #[.int .i64 ps,.slice AQ Q.length cQ]:=(by exact bX1 hb2);have zz0:=y2.cell 0;have zz1:=y2.cell 1;have zz2:=y2.cell 2;have zz3:=y2.cell 3;have zz4:=y2.cell 4;have zz5:=y2.cell 5;have zz6:=y2.cell 6;have zz7:=y2.cell 7;have zz8:=y2.cell 8;have q0:=y3.cell 0;have q1:=y3.cell 1;(simp at zz0 zz1 zz2 zz3 zz4 zz5 zz6 zz7 zz8 q0 q1)) | fail)
    go_ret
    exact ⟨ret_i HR.out.symm,by exact bB1 hb2⟩
end Go.Proofs.YtpnfgmgoafgcbaaGreat

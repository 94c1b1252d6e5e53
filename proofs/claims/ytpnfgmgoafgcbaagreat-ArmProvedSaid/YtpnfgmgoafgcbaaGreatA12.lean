/-
  The texts Hd1, Hd2 in one.
-/
import Derived.Test.YtpnfgmgoafgcbaaGreatA2
import Derived.Test.YtpnfgmgoafgcbaaGreatA7
import Derived.Deep.DeepCutAuto
set_option linter.all false
/-
  Holds (chapter 6): contacts, their errors, in plain words, and the walks.
-/
set_option linter.unusedVariables false
namespace Go.Proofs.YtpnfgmgoafgcbaaGreat
open Go.RowKit
attribute [local go_sem] Oper.semAt_some
attribute [local go_sem ↓] eql_ce' neq_ce'
/-- A contact: place, normal, most. -/
abbrev Ct:=(Int × Int) × (Int × Int) × Int
def ctV (c : Ct) : List Value:=[.int .i64 c.1.1,.int .i64 c.1.2,.int .i64 c.2.1.1,.int .i64 c.2.1.2,.int .i64 c.2.2]
def unitB (x y : Int) : Bool:=sameC x y 1 0 || sameC x y (-1) 0 || sameC x y 0 1 || sameC x y 0 (-1)
def ctE (c : Ct) : Int:=fstE [unl (inB c.1.1 (-5) 5 && inB c.1.2 (-5) 5 && inB c.2.2 0 6) 2,unl (unitB c.2.1.1 c.2.1.2) 3]
set_option maxHeartbeats 4000000 in
set_option maxRecDepth 100000 in
theorem contactErr_c (px py nx ny m : Int) (w : World) : Calls Tryz.prog 149 #[.agg #[.int .i64 px,.int .i64 py,.int .i64 nx,.int .i64 ny,.int .i64 m]] w fun e w' => e = .returned (.int .i64 (ctE ((px,py),(nx,ny),m))) ∧ Below w.heap.size w w':=by
  have HL:=Lib.hid (show ctE ((px,py),(nx,ny),m) = fstE [unl (inB px (-5) 5 && inB py (-5) 5 && inB m 0 6) 2,unl (unitB nx ny) 3] from rfl)
  have HU:=Lib.hid (show unitB nx ny = (sameC nx ny 1 0 || sameC nx ny (-1) 0 || sameC nx ny 0 1 || sameC nx ny 0 (-1)) from rfl)
  generalize ctE ((px,py),(nx,ny),m) = r at *
  generalize unitB nx ny = ub at *
  go_enter Tryz.func149,Tryz.ntmps149
  go_upto_region 1 with fail
  go_cut [3] (fun s3 wx => s3 = .bool (inB px (-5) 5 && inB py (-5) 5 && inB m 0 6) ∧ Box wx w.heap.size 69 #[.int .i64 px,.int .i64 py,.int .i64 nx,.int .i64 ny,.int .i64 m] ∧ Below w.heap.size w wx)
  case first =>
    have hc : (inB px (-5) 5 = false) ∨ (inB px (-5) 5 = true ∧ inB py (-5) 5 = false) ∨ (inB px (-5) 5 = true ∧ inB py (-5) 5 = true):=by cases inB px (-5) 5 <;> cases inB py (-5) 5 <;> simp
    rcases hc with h | ⟨h,h2⟩ | ⟨h,h2⟩
    all_goals
      go_wp2_with (first | (go_at_call 94;(with_reducible refine (isSized_c _ _ _ (by omega) (by omega)).mono ?_);rintro e w' ⟨rfl,rfl⟩) | (go_at_call 93;(with_reducible refine (within_w _ _ _ _).mono ?_);rintro e w' ⟨rfl,rfl⟩) | fail)
      go_meet
      exact ⟨vbool (by simp [*]),by exact bX0,by exact bB0⟩
  case rest =>
    obtain ⟨rfl,hE,hBx⟩:=hcut
    have q0:=hE.cell 0;have q1:=hE.cell 1;have q2:=hE.cell 2;have q3:=hE.cell 3;have q4:=hE.cell 4;have hlt:=hE.lt
    simp at q0 q1 q2 q3 q4
    generalize (inB px (-5) 5 && inB py (-5) 5 && inB m 0 6) = rb at *
    go_upto_region 3 with fail
    go_cut [5] (fun s5 wx => s5 = .bool ub ∧ Below w.heap.size w wx)
    case first =>
      have hc : (sameC nx ny 1 0 = true) ∨ (sameC nx ny 1 0 = false ∧ sameC nx ny (-1) 0 = true) ∨ (sameC nx ny 1 0 = false ∧ sameC nx ny (-1) 0 = false ∧ sameC nx ny 0 1 = true) ∨ (sameC nx ny 1 0 = false ∧ sameC nx ny (-1) 0 = false ∧ sameC nx ny 0 1 = false):=by
        cases sameC nx ny 1 0 <;> cases sameC nx ny (-1) 0 <;> cases sameC nx ny 0 1 <;> simp
      rcases hc with h | ⟨h,h2⟩ | ⟨h,h2,h3⟩ | ⟨h,h2,h3⟩
      all_goals
        go_wp2_with fail
        go_meet
        exact ⟨vbool (by rw [HU.out];simp [*]),by exact bB1 hBx⟩
    case rest =>
      obtain ⟨rfl,hB2⟩:=hcut
      go_wp2_with (first | (go_at_call 84;(with_reducible refine (unless_c _ _ _).mono ?_);rintro e w' ⟨rfl,rfl⟩) | (go_at_call 83;(with_reducible refine (first2a _ _ _ _ _ (by simp)).mono ?_);rintro e w' ⟨rfl,rfl⟩) | (go_at_call 83;(with_reducible refine (first2d _ _ _ _ _ (by simp)).mono ?_);rintro e w' ⟨rfl,rfl⟩) | fail)
      go_ret
      exact ⟨ret_i (by rw [HL.out]),by exact bB1 hB2⟩
theorem ct_cells {w : World} {A : Option Addr} {xs : List Ct} (hs : SlV w A (xs.flatMap ctV)) {k : Nat} {s : Ct} (hk : xs[k]? = some s) :
    ∃ b off,A = some ⟨b,off,none⟩ ∧ b < w.heap.size ∧ w.cell? ⟨b,off + k * 5,none⟩ = some (.int .i64 s.1.1) ∧ w.cell? ⟨b,off + k * 5 + 1,none⟩ = some (.int .i64 s.1.2) ∧ w.cell? ⟨b,off + k * 5 + 2,none⟩ = some (.int .i64 s.2.1.1) ∧ w.cell? ⟨b,off + k * 5 + 3,none⟩ = some (.int .i64 s.2.1.2) ∧ w.cell? ⟨b,off + k * 5 + 4,none⟩ = some (.int .i64 s.2.2):=by
  obtain ⟨b,off,hA,hb,hc⟩:=row_cells (enc:=ctV) (k:=5) (fun _ => rfl) hs (by omega) hk
  exact ⟨b,off,hA,hb,hc 0 (by omega),hc 1 (by omega),hc 2 (by omega),hc 3 (by omega),hc 4 (by omega)⟩
set_option maxHeartbeats 1000000 in
theorem eachContact_c (xs : List Ct) (A : Option Addr) (c : Nat) (w : World) (hn : xs.length ≤ 9223372036854775807) (hs : SlV w A (xs.flatMap ctV)) :
    Calls Tryz.prog 148 #[.slice A xs.length c,.func (.func 149) #[] #[]] w fun e w' => e = .returned (.tuple #[.int .i64 (eachE ctE xs).1,.int .i64 (eachE ctE xs).2]) ∧ Below w.heap.size w w':=by
  have HS:=Lib.hid hs
  have LE:=Lib.hid (fun a b c d e W => contactErr_c a b c d e W)
  clear hs
  go_enter Tryz.func148,Tryz.ntmps148
  go_wp2
  go_loopw [11] (fun i wr => ∃ k : Nat,k ≤ xs.length ∧ i = .int .i64 k ∧ Hid (eachE ctE xs = eachF ctE k (xs.drop k)) ∧ Below w.heap.size w wr) (fun i _ => xs.length - (intOf i).toNat)
  case atStart => exact ⟨0,Nat.zero_le _,rfl,rfl,Below.refl _ _⟩
  case round =>
    obtain ⟨k,hk,rfl,hf,hB⟩:=hrel
    by_cases hlt : k < xs.length
    · obtain ⟨b,off,rfl,hb,a0,a1,a2,a3,a4⟩:=ct_cells (HS.out.below hB) (List.getElem?_eq_getElem hlt)
      have HD:=Lib.hid (List.drop_eq_getElem_cons hlt)
      generalize xs[k] = ev at *
      obtain ⟨⟨px,py⟩,⟨nx,ny⟩,m⟩:=ev
      dsimp only at a0 a1 a2 a3 a4
      have FE:=Lib.hid (show eachF ctE k (((px,py),(nx,ny),m) :: xs.drop (k + 1)) = if ctE ((px,py),(nx,ny),m) = 0 then eachF ctE (k + 1) (xs.drop (k + 1)) else ((k : Int),ctE ((px,py),(nx,ny),m)) from rfl)
      have L1:=Lib.hid (fun W => LE.out px py nx ny m W)
      generalize ctE ((px,py),(nx,ny),m) = r at *
      by_cases hz : r = 0
      · have z1 : (r == 0) = true:=beqT hz
        have z2 : (r != 0) = false:=bneF hz
        have FZ:=Lib.hid (FE.out.trans (if_pos hz))
        clear hz FE
        go_wp2_with (first | (go_at_call 149;(with_reducible refine (L1.out _).mono ?_);rintro e w2 ⟨rfl,hb2⟩) | fail)
        go_roundw
        case rel => exact ⟨k + 1,by omega,by go_num,by unfold Hid;rw [hf.out,HD.out,FZ.out],by exact bB2 hb2 hB⟩
        case measure => simp [intOf];omega
      · have z1 : (r == 0) = false:=beqF hz
        have z2 : (r != 0) = true:=bneT hz
        have FZ:=Lib.hid (FE.out.trans (if_neg hz))
        clear hz FE
        go_wp2_with (first | (go_at_call 149;(with_reducible refine (L1.out _).mono ?_);rintro e w2 ⟨rfl,hb2⟩) | fail)
        go_ret2
        exact ⟨ret_ii (by rw [hf.out,HD.out,FZ.out]) (by rw [hf.out,HD.out,FZ.out]),by exact bB2 hb2 hB⟩
    · go_wp2
      go_ret2
      exact ⟨ret_ii (by rw [hf.out,List.drop_eq_nil_of_le (by omega)];rfl) (by rw [hf.out,List.drop_eq_nil_of_le (by omega)];rfl),by exact bB1 hB⟩
set_option maxHeartbeats 400000 in
/-- The load's test. -/
theorem odd_c (n : Int) (w : World) : Calls Tryz.prog 151 #[.int .i64 n] w fun e w' => e = .returned (.bool (!inB n (-6) 6)) ∧ w = w':=by
  go_enter Tryz.func151,Tryz.ntmps151
  go_wp2_with (first | (go_at_call 94;(with_reducible refine (isSized_c _ _ _ (by omega) (by omega)).mono ?_);rintro e w' ⟨rfl,rfl⟩) | fail)
  go_ret
  exact ⟨rfl,rfl⟩
def idxO : Nat → List Int → Int
  | _,[] => -1
  | i,x :: l => if inB x (-6) 6 then idxO (i + 1) l else (i : Int)
theorem idxO_neg : ∀ (i : Nat) (l : List Int),decide ((0 : Int) ≤ idxO i l) = l.any fun x => !inB x (-6) 6
  | _,[] => by simp [idxO]
  | i,x :: l => by
    unfold idxO
    by_cases h : inB x (-6) 6 = true
    · rw [if_pos h,idxO_neg];simp [h]
    · rw [if_neg h]
      simp [h]
theorem idxO_drop {xs : List Int} {k : Nat} (h : k < xs.length) : idxO k (xs.drop k) = if inB xs[k] (-6) 6 then idxO (k + 1) (xs.drop (k + 1)) else (k : Int):=by
  rw [List.drop_eq_getElem_cons h,idxO]
set_option maxHeartbeats 1000000 in
theorem indexOdd_c (xs : List Int) (A : Option Addr) (c : Nat) (w : World) (hn : xs.length ≤ 9223372036854775807) (hs : SlI w A xs) :
    Calls Tryz.prog 173 #[.slice A xs.length c,.func (.func 151) #[] #[]] w fun r w' => r = .returned (.int .i64 (idxO 0 xs)) ∧ w = w':=by
  go_enter Tryz.func173,Tryz.ntmps173
  go_wp2
  go_loop [8] (fun i => ∃ k : Nat,k ≤ xs.length ∧ i = .int .i64 k ∧ Hid (idxO 0 xs = idxO k (xs.drop k))) (fun i => xs.length - (intOf i).toNat)
  case atStart => exact ⟨0,Nat.zero_le _,rfl,rfl⟩
  case round =>
    obtain ⟨k,hk,rfl,hf⟩:=hrel
    by_cases hlt : k < xs.length
    · obtain ⟨b,off,rfl,hb,hc⟩:=hs k xs[k] (List.getElem?_eq_getElem hlt)
      have HD:=Lib.hid (idxO_drop hlt)
      cases hz : inB xs[k] (-6) 6
      · have HZ:=Lib.hid hz
        have hz1 : (!inB xs[k] (-6) 6) = true:=by simp [hz]
        clear hz
        go_wp2_with (first | (go_at_call 151;(with_reducible refine (odd_c _ _).mono ?_);rintro e w' ⟨rfl,rfl⟩) | fail)
        go_ret
        exact ⟨ret_i (by rw [hf.out,HD.out,HZ.out];rfl),rfl⟩
      · have HZ:=Lib.hid hz
        have hz1 : (!inB xs[k] (-6) 6) = false:=by simp [hz]
        clear hz
        go_wp2_with (first | (go_at_call 151;(with_reducible refine (odd_c _ _).mono ?_);rintro e w' ⟨rfl,rfl⟩) | fail)
        go_round
        case rel => exact ⟨k + 1,by omega,by go_num,by unfold Hid;rw [hf.out,HD.out,HZ.out];rfl⟩
        case measure => simp [intOf];omega
    · go_wp2
      go_ret
      exact ⟨ret_i (by rw [hf.out,List.drop_eq_nil_of_le (by omega)];rfl),rfl⟩
set_option maxHeartbeats 1000000 in
theorem containsOdd_c (xs : List Int) (A : Option Addr) (c : Nat) (w : World) (hn : xs.length ≤ 9223372036854775807) (hs : SlI w A xs) :
    Calls Tryz.prog 150 #[.slice A xs.length c,.func (.func 151) #[] #[]] w fun r w' => r = .returned (.bool (xs.any fun x => !inB x (-6) 6)) ∧ w = w':=by
  have IX:=Lib.hid (fun W (h : w = W) => show Calls Tryz.prog 173 #[.slice A xs.length c,.func (.func 151) #[] #[]] W _ from h ▸ indexOdd_c xs A c w hn hs)
  have HN:=Lib.hid (idxO_neg 0 xs)
  generalize idxO 0 xs = r at *
  generalize (xs.any fun x => !inB x (-6) 6) = b at *
  go_enter Tryz.func150,Tryz.ntmps150
  go_wp2_with (first | (go_at_call 173;(with_reducible refine (IX.out _ rfl).mono ?_);rintro e w' ⟨rfl,rfl⟩) | fail)
  all_goals go_ret
  all_goals exact ⟨ret_b (by rw [← HN.out]),rfl⟩
end Go.Proofs.YtpnfgmgoafgcbaaGreat
/-
  Holds (chapter 6): their errors.
-/
set_option linter.unusedVariables false
namespace Go.Proofs.YtpnfgmgoafgcbaaGreat
open Go.RowKit
attribute [local go_sem] Oper.semAt_some
/-- A hold: contacts, friction, load. -/
structure Hd where
  C : List Ct
  fn : Int
  fd : Int
  l : Int × Int × Int
def euF : Nat → Int → Int → Int
  | 0,a,_ => a
  | n + 1,a,b => if b = 0 then a else euF n b (a.tmod b)
/-- What Euclid's steps leave. -/
def eu (a b : Int) : Int:=euF (b.natAbs + 1) a b
theorem tmod_lt {a b : Int} (hb : b ≠ 0) : (a.tmod b).natAbs < b.natAbs:=by
  rw [Int.natAbs_tmod]
  exact Nat.mod_lt _ (by omega)
theorem euF_any : ∀ (n m : Nat) (a b : Int),b.natAbs < n → b.natAbs < m → euF n a b = euF m a b
  | 0,_,_,_,h,_ => by omega
  | _,0,_,_,_,h => by omega
  | n + 1,m + 1,a,b,h1,h2 => by
    unfold euF
    by_cases hb : b = 0
    · rw [if_pos hb,if_pos hb]
    · rw [if_neg hb,if_neg hb]
      have:=tmod_lt (a:=a) hb
      exact euF_any n m b _ (by omega) (by omega)
theorem eu_step {a b : Int} (hb : b ≠ 0) : eu a b = eu b (a.tmod b):=by
  have h : eu a b = euF (b.natAbs + 1) a b:=rfl
  rw [h,euF,if_neg hb]
  have:=tmod_lt (a:=a) hb
  exact euF_any _ _ _ _ (by omega) (by omega)
theorem eu_end (a : Int) : eu a 0 = a:=rfl
def hdE0 (C : List Ct) : Int:=fstE [unl (decide (0 < (C.length : Int))) 10,unl (decide ((C.length : Int) ≤ 3)) 8]
def hdE1 (C : List Ct) : Int:=if hdE0 C = 0 then (eachE ctE C).2 else hdE0 C
def oddB (l : Int × Int × Int) : Bool:=[l.1,l.2.1,l.2.2].any fun x => !inB x (-6) 6
def hdE (h : Hd) : Int:=fstE [hdE1 h.C,unl (decide (0 < h.fd) && (eu h.fn h.fd == 1 || eu h.fn h.fd == -1)) 3,unl (inB h.fn 0 10 && decide (h.fd ≤ 10)) 2,unl (!oddB h.l) 2]
theorem sli3 {w : World} {g : Nat} {t : TypeId} {v : Value} {fn fd l0 l1 l2 : Int} (h : Box w g t #[v,.int .i64 fn,.int .i64 fd,.int .i64 l0,.int .i64 l1,.int .i64 l2]) : SlI w (some ⟨g,3,none⟩) [l0,l1,l2]:=fun j u hj => by
  refine ⟨g,3,rfl,h.lt, ?_⟩
  rw [h.cell]
  have : j = 0 ∨ j = 1 ∨ j = 2:=by
    have:=(List.getElem?_eq_some_iff.1 hj).1
    simp at this
    omega
  rcases this with rfl | rfl | rfl <;> simpa using hj
set_option maxHeartbeats 4000000 in
set_option maxRecDepth 100000 in
theorem holdErr_c (C : List Ct) (AC : Option Addr) (cC : Nat) (fn fd l0 l1 l2 : Int) (w : World) (hn : C.length ≤ 1000) (hs : SlV w AC (C.flatMap ctV)) (h1 : -9223372036854775808 ≤ fn ∧ fn ≤ 9223372036854775807) (h2 : -9223372036854775808 ≤ fd ∧ fd ≤ 9223372036854775807) :
    Calls Tryz.prog 92 #[.agg #[.slice AC C.length cC,.int .i64 fn,.int .i64 fd,.int .i64 l0,.int .i64 l1,.int .i64 l2]] w fun e w' => e = .returned (.int .i64 (hdE ⟨C,fn,fd,(l0,l1,l2)⟩)) ∧ Below w.heap.size w w':=by
  have ECc:=Lib.hid (fun W (h : Below w.heap.size w W) => eachContact_c C AC cC W (by omega) (hs.below h))
  have HE:=Lib.hid (show hdE ⟨C,fn,fd,(l0,l1,l2)⟩ = fstE [hdE1 C,unl (decide (0 < fd) && (eu fn fd == 1 || eu fn fd == -1)) 3,unl (inB fn 0 10 && decide (fd ≤ 10)) 2,unl (!([l0,l1,l2].any fun x => !inB x (-6) 6)) 2] from rfl)
  have HE1:=Lib.hid (show hdE1 C = if hdE0 C = 0 then (eachE ctE C).2 else hdE0 C from rfl)
  have HE0:=Lib.hid (show hdE0 C = fstE [unl (decide (0 < (C.length : Int))) 10,unl (decide ((C.length : Int) ≤ 3)) 8] from rfl)
  clear hs
  generalize hdE ⟨C,fn,fd,(l0,l1,l2)⟩ = R at *
  generalize hdE1 C = R1 at *
  generalize hdE0 C = R0 at *
  generalize eachE ctE C = EE at *
  obtain ⟨EE1,EE2⟩:=EE
  go_enter Tryz.func92,Tryz.ntmps92
  go_upto_region 1 with fail
  have G0 : Box (w.alloc (.cells #[.slice AC C.length cC,.int .i64 fn,.int .i64 fd,.int .i64 l0,.int .i64 l1,.int .i64 l2] 53)) w.heap.size 53 #[.slice AC C.length cC,.int .i64 fn,.int .i64 fd,.int .i64 l0,.int .i64 l1,.int .i64 l2]:=Box.new _ _ _
  go_cut [3] (fun s3 wx => s3 = .int .i64 R0 ∧ Box wx w.heap.size 53 #[.slice AC C.length cC,.int .i64 fn,.int .i64 fd,.int .i64 l0,.int .i64 l1,.int .i64 l2] ∧ Below w.heap.size w wx)
  case first =>
    (refine wp_region_held_drew (S:=(fun w' => Box w' w.heap.size 53 #[.slice AC C.length cC,.int .i64 fn,.int .i64 fd,.int .i64 l0,.int .i64 l1,.int .i64 l2])) kR ?_ (fun hHeld => ?_);(focus ((try dsimp only);(((first | exact bX0 | exact bX0)))));have hO:=Lib.hid (fun w' (hSw : (fun w' => Box w' w.heap.size 53 #[.slice AC C.length cC,.int .i64 fn,.int .i64 fd,.int .i64 l0,.int .i64 l1,.int .i64 l2]) w') => (by (try dsimp only at hSw);(have sa0:=hSw.cell 0;have sa1:=hSw.cell 1;have sa2:=hSw.cell 2;(simp at sa0 sa1 sa2));exact And.intro sa0 (And.intro sa1 sa2)));refine rgN 0 rfl ?_;refine rgL 1 hO rfl ?_;refine rgN 2 rfl ?_;refine rgN 3 rfl ?_;refine rgN 5 rfl ?_;refine rgL 6 hO rfl ?_;refine rgN 7 rfl ?_;refine rgN 8 rfl ?_;refine rgC 4 rfl (fun K hK => ?_);go_simp;((go_at_call 84;(with_reducible refine (unless_c _ _ _).mono ?_);rintro e w' ⟨rfl,rfl⟩));go_simp;refine hK.out _ _ ?_ (fun hHeld => ?_);(focus ((try dsimp only);(((first | exact bX0 | exact bX0)))));clear hK K;(try simp only [Act.put,pqs]);refine rgC 9 rfl (fun K hK => ?_);go_simp;((go_at_call 84;(with_reducible refine (unless_c _ _ _).mono ?_);rintro e w' ⟨rfl,rfl⟩));go_simp;refine hK.out _ _ ?_ (fun hHeld => ?_);(focus ((try dsimp only);(((first | exact bX0 | exact bX0)))));clear hK K;(try simp only [Act.put,pqs]);refine rgC 10 rfl (fun K hK => ?_);go_simp;refine hK.out _ _ ?_ (fun hHeld => ?_);(focus ((try dsimp only);(((first | exact bX0 | exact bX0)))));clear hK K;(try simp only [Act.put,pqs]);refine rgC 11 rfl (fun K hK => ?_);go_simp;(first | (go_at_call 83;(with_reducible refine (first2a _ _ _ _ _ (by simp)).mono ?_);rintro e w' ⟨rfl,rfl⟩) | (go_at_call 83;(with_reducible refine (first2d _ _ _ _ _ (by simp)).mono ?_);rintro e w' ⟨rfl,rfl⟩));go_simp;refine hK.out _ _ ?_ (fun hHeld => ?_);(focus ((try dsimp only);(((first | exact bX0 | exact bX0)))));clear hK K;(try simp only [Act.put,pqs]);refine rgN 12 rfl ?_;refine wpAnyH_done kR ?_ _)
    go_wp2_with fail
    go_meet
    exact ⟨vint (by rw [HE0.out];simp),by exact bX0,by exact bB0⟩
  case rest =>
    obtain ⟨rfl,hE,hB1⟩:=hcut
    have q0:=hE.cell 0;have q1:=hE.cell 1;have q2:=hE.cell 2;have hlt:=hE.lt
    simp at q0 q1 q2
    clear HE0 G0
    go_upto_if 21 with fail
    go_cut [3] (fun s3 wx => s3 = .int .i64 R1 ∧ Box wx w.heap.size 53 #[.slice AC C.length cC,.int .i64 fn,.int .i64 fd,.int .i64 l0,.int .i64 l1,.int .i64 l2] ∧ Below w.heap.size w wx)
    case first =>
      by_cases h0 : R0 = 0
      · have e1:=beqT h0
        have HZ:=Lib.hid (HE1.out.trans (if_pos h0))
        clear h0 HE1 HE
        go_wp2_with (first | (go_at_call 148;(with_reducible refine (ECc.out _ ?_).mono ?_);rotate_left;rintro e w3 ⟨rfl,hb3⟩;rotate_left;(focus (exact bB1 hB1))) | fail)
        go_meet
        exact ⟨vint (by rw [HZ.out]),by exact bX1 hb3,by exact bB2 hB1 hb3⟩
      · have e1:=beqF h0
        have HZ:=Lib.hid (HE1.out.trans (if_neg h0))
        clear h0 HE1 HE
        go_wp2_with fail
        go_meet
        exact ⟨vint (by rw [HZ.out]),by exact bX0,by exact bB1 hB1⟩
    case rest =>
      obtain ⟨rfl,hE2,hB2⟩:=hcut
      rename_i wc2
      have p0:=hE2.cell 0;have p1:=hE2.cell 1;have p2:=hE2.cell 2;have p3:=hE2.cell 3;have p4:=hE2.cell 4;have p5:=hE2.cell 5;have hlt2:=hE2.lt
      simp at p0 p1 p2 p3 p4 p5
      clear HE1 ECc hE hB1 q0 q1 q2 hlt
      obtain ⟨h11,h12⟩:=h1
      obtain ⟨h21,h22⟩:=h2
      go_upto_region 4 with fail
      (refine wp_region_held_drew (S:=(fun w' => Box w' w.heap.size 53 #[.slice AC C.length cC,.int .i64 fn,.int .i64 fd,.int .i64 l0,.int .i64 l1,.int .i64 l2])) kR ?_ (fun hHeld => ?_);(focus ((try dsimp only);(((first | exact bX0 | exact bX0)))));have hO:=Lib.hid (fun w' (hSw : (fun w' => Box w' w.heap.size 53 #[.slice AC C.length cC,.int .i64 fn,.int .i64 fd,.int .i64 l0,.int .i64 l1,.int .i64 l2]) w') => (by (try dsimp only at hSw);(have sa0:=hSw.cell 0;have sa1:=hSw.cell 1;have sa2:=hSw.cell 2;(simp at sa0 sa1 sa2));exact And.intro sa0 (And.intro sa1 sa2)));refine rgN 0 rfl ?_;refine rgN 1 rfl ?_;refine rgL 2 hO rfl ?_;refine rgN 3 rfl ?_;refine rgN 4 rfl ?_;refine rgL 5 hO rfl ?_;refine rgN 6 rfl ?_;refine rgN 7 rfl ?_;refine wpAnyH_done kR ?_ _)
      go_wp2
      go_loopw [4,5] (fun a b wr => ∃ x y : Int,a = .int .i64 x ∧ b = .int .i64 y ∧ Hid (eu fn fd = eu x y) ∧ (-9223372036854775808 ≤ x ∧ x ≤ 9223372036854775807 ∧ -9223372036854775808 ≤ y ∧ y ≤ 9223372036854775807) ∧ Box wr w.heap.size 53 #[.slice AC C.length cC,.int .i64 fn,.int .i64 fd,.int .i64 l0,.int .i64 l1,.int .i64 l2] ∧ Below w.heap.size w wr) (fun _ b _ => (intOf b).natAbs)
      case atStart => exact ⟨fn,fd,rfl,rfl,rfl,⟨h11,h12,h21,h22⟩,by exact bX0,by exact bB1 hB2⟩
      case round =>
        obtain ⟨x,y,rfl,rfl,hf,⟨b1,b2,b3,b4⟩,hE3,hB3⟩:=hrel
        by_cases hy : y = 0
        · subst hy
          have d0:=hE3.cell 0;have d1:=hE3.cell 1;have d2:=hE3.cell 2;have d3:=hE3.cell 3;have d4:=hE3.cell 4;have d5:=hE3.cell 5;have hlt3:=hE3.lt
          simp at d0 d1 d2 d3 d4 d5
          have HG:=Lib.hid (hf.out.trans (eu_end x))
          clear hf
          have HG2:=Lib.hid (show R = fstE [R1,unl (decide (0 < fd) && (x == 1 || x == -1)) 3,unl (inB fn 0 10 && decide (fd ≤ 10)) 2,unl (!([l0,l1,l2].any fun x => !inB x (-6) 6)) 2] by rw [HE.out,HG.out])
          clear HE HG
          generalize hob : ([l0,l1,l2].any fun x => !inB x (-6) 6) = ob at HG2
          have CFc:=Lib.hid (fun W (h : SlI W (some ⟨w.heap.size,3,none⟩) [l0,l1,l2]) => containsOdd_c [l0,l1,l2] (some ⟨w.heap.size,3,none⟩) 3 W (by simp) h)
          rw [hob] at CFc
          have hL3 : SlI wr (some ⟨w.heap.size,3,none⟩) [l0,l1,l2]:=sli3 hE3
          clear hob
          have hc : decide (0 < fd) = false ∨ (decide (0 < fd) = true ∧ (x == 1) = true) ∨ (decide (0 < fd) = true ∧ (x == 1) = false):=by cases decide (0 < fd) <;> cases (x == 1) <;> simp
          cases hi : inB fn 0 10
          · rw [hi] at HG2
            rcases hc with h1 | ⟨h1,h2⟩ | ⟨h1,h2⟩
            · rw [h1] at HG2
              (go_wp2_with (first | (go_at_call 150;refine (CFc.out _ (hL3.alloc _)).mono ?_;rintro e w4 ⟨rfl,rfl⟩) | fail));((refine wp_region_held_drew (S:=(fun w' => Box w' wr.heap.size 50 #[.int .i64 fn,.int .i64 fd])) kR ?_ (fun hHeld => ?_);(focus ((try dsimp only);(((first | exact bX0 | exact bX0)))));have hO:=Lib.hid (fun w' (hSw : (fun w' => Box w' wr.heap.size 50 #[.int .i64 fn,.int .i64 fd]) w') => (by (try dsimp only at hSw);(have sa0:=hSw.cell 0;have sa1:=hSw.cell 1;(simp at sa0 sa1));exact And.intro sa0 sa1));refine rgN 0 rfl ?_;refine rgN 1 rfl ?_;refine rgL 2 hO rfl ?_;refine rgN 3 rfl ?_;refine rgN 4 rfl ?_;refine tsH (i:=5) rfl (by assumption) ?_;refine tsH (i:=6) rfl (by assumption) ?_;refine tsH (i:=7) rfl (by assumption) ?_;refine tsH (i:=8) rfl (by assumption) ?_;refine tsH (i:=9) rfl (by assumption) ?_;refine tsH (i:=10) rfl (by assumption) ?_;refine rgN 11 rfl ?_;refine rgN 13 rfl ?_;refine rgL 14 hO rfl ?_;refine rgN 22 rfl ?_;refine rgN 23 rfl ?_;refine rgC 12 rfl (fun K hK => ?_);go_simp;((go_at_call 84;(with_reducible refine (unless_c _ _ _).mono ?_);rintro e w' ⟨rfl,rfl⟩));go_simp;refine hK.out _ _ ?_ (fun hHeld => ?_);(focus ((try dsimp only);(((first | exact bX0 | exact bX0)))));clear hK K;(try simp only [Act.put,pqs]);refine rgC 15 rfl (fun K hK => ?_);go_simp;((go_at_call 93;(with_reducible refine (within_w _ _ _ _).mono ?_);rintro e w' ⟨rfl,rfl⟩));go_simp;refine hK.out _ _ ?_ (fun hHeld => ?_);(focus ((try dsimp only);(((first | exact bX0 | exact bX0)))));clear hK K;(try simp only [Act.put,pqs]);refine rgN 16 rfl ?_;refine tsH (i:=17) rfl (by assumption) ?_;refine tsH (i:=18) rfl (by assumption) ?_;refine tsH (i:=19) rfl (by assumption) ?_;refine rgN 20 rfl ?_;refine rgC 21 rfl (fun K hK => ?_);go_simp;((go_at_call 84;(with_reducible refine (unless_c _ _ _).mono ?_);rintro e w' ⟨rfl,rfl⟩));go_simp;refine hK.out _ _ ?_ (fun hHeld => ?_);(focus ((try dsimp only);(((first | exact bX0 | exact bX0)))));clear hK K;(try simp only [Act.put,pqs]);refine rgC 24 rfl (fun K hK => ?_);go_simp;((go_at_call 84;(with_reducible refine (unless_c _ _ _).mono ?_);rintro e w' ⟨rfl,rfl⟩));go_simp;refine hK.out _ _ ?_ (fun hHeld => ?_);(focus ((try dsimp only);(((first | exact bX0 | exact bX0)))));clear hK K;(try simp only [Act.put,pqs]);refine rgC 25 rfl (fun K hK => ?_);go_simp;refine hK.out _ _ ?_ (fun hHeld => ?_);(focus ((try dsimp only);(((first | exact bX0 | exact bX0)))));clear hK K;(try simp only [Act.put,pqs]);refine rgC 26 rfl (fun K hK => ?_);go_simp;(first | (go_at_call 83;(with_reducible refine (first4a _ _ _ _ _ _ _ (by simp)).mono ?_);rintro e w' ⟨rfl,rfl⟩) | (go_at_call 83;(with_reducible refine (first4d _ _ _ _ _ _ _ (by simp)).mono ?_);rintro e w' ⟨rfl,rfl⟩));go_simp;refine hK.out _ _ ?_ (fun hHeld => ?_);(focus ((try dsimp only);(((first | exact bX0 | exact bX0)))));clear hK K;(try simp only [Act.put,pqs]);refine rgN 27 rfl ?_;refine wpAnyH_done kR ?_ _));go_wp2;go_ret;exact ⟨ret_i (by rw [HG2.out];simp),by exact bB1 hB3⟩
            · rw [h1,h2] at HG2
              (go_wp2_with (first | (go_at_call 150;refine (CFc.out _ (hL3.alloc _)).mono ?_;rintro e w4 ⟨rfl,rfl⟩) | fail));((refine wp_region_held_drew (S:=(fun w' => Box w' wr.heap.size 50 #[.int .i64 fn,.int .i64 fd])) kR ?_ (fun hHeld => ?_);(focus ((try dsimp only);(((first | exact bX0 | exact bX0)))));have hO:=Lib.hid (fun w' (hSw : (fun w' => Box w' wr.heap.size 50 #[.int .i64 fn,.int .i64 fd]) w') => (by (try dsimp only at hSw);(have sa0:=hSw.cell 0;have sa1:=hSw.cell 1;(simp at sa0 sa1));exact And.intro sa0 sa1));refine rgN 0 rfl ?_;refine rgN 1 rfl ?_;refine rgL 2 hO rfl ?_;refine rgN 3 rfl ?_;refine rgN 4 rfl ?_;refine rgN 5 rfl ?_;refine rgN 6 rfl ?_;refine rgN 7 rfl ?_;refine tsH (i:=8) rfl (by assumption) ?_;refine tsH (i:=9) rfl (by assumption) ?_;refine rgN 10 rfl ?_;refine rgN 11 rfl ?_;refine rgN 13 rfl ?_;refine rgL 14 hO rfl ?_;refine rgN 22 rfl ?_;refine rgN 23 rfl ?_;refine rgC 12 rfl (fun K hK => ?_);go_simp;((go_at_call 84;(with_reducible refine (unless_c _ _ _).mono ?_);rintro e w' ⟨rfl,rfl⟩));go_simp;refine hK.out _ _ ?_ (fun hHeld => ?_);(focus ((try dsimp only);(((first | exact bX0 | exact bX0)))));clear hK K;(try simp only [Act.put,pqs]);refine rgC 15 rfl (fun K hK => ?_);go_simp;((go_at_call 93;(with_reducible refine (within_w _ _ _ _).mono ?_);rintro e w' ⟨rfl,rfl⟩));go_simp;refine hK.out _ _ ?_ (fun hHeld => ?_);(focus ((try dsimp only);(((first | exact bX0 | exact bX0)))));clear hK K;(try simp only [Act.put,pqs]);refine rgN 16 rfl ?_;refine tsH (i:=17) rfl (by assumption) ?_;refine tsH (i:=18) rfl (by assumption) ?_;refine tsH (i:=19) rfl (by assumption) ?_;refine rgN 20 rfl ?_;refine rgC 21 rfl (fun K hK => ?_);go_simp;((go_at_call 84;(with_reducible refine (unless_c _ _ _).mono ?_);rintro e w' ⟨rfl,rfl⟩));go_simp;refine hK.out _ _ ?_ (fun hHeld => ?_);(focus ((try dsimp only);(((first | exact bX0 | exact bX0)))));clear hK K;(try simp only [Act.put,pqs]);refine rgC 24 rfl (fun K hK => ?_);go_simp;((go_at_call 84;(with_reducible refine (unless_c _ _ _).mono ?_);rintro e w' ⟨rfl,rfl⟩));go_simp;refine hK.out _ _ ?_ (fun hHeld => ?_);(focus ((try dsimp only);(((first | exact bX0 | exact bX0)))));clear hK K;(try simp only [Act.put,pqs]);refine rgC 25 rfl (fun K hK => ?_);go_simp;refine hK.out _ _ ?_ (fun hHeld => ?_);(focus ((try dsimp only);(((first | exact bX0 | exact bX0)))));clear hK K;(try simp only [Act.put,pqs]);refine rgC 26 rfl (fun K hK => ?_);go_simp;(first | (go_at_call 83;(with_reducible refine (first4a _ _ _ _ _ _ _ (by simp)).mono ?_);rintro e w' ⟨rfl,rfl⟩) | (go_at_call 83;(with_reducible refine (first4d _ _ _ _ _ _ _ (by simp)).mono ?_);rintro e w' ⟨rfl,rfl⟩));go_simp;refine hK.out _ _ ?_ (fun hHeld => ?_);(focus ((try dsimp only);(((first | exact bX0 | exact bX0)))));clear hK K;(try simp only [Act.put,pqs]);refine rgN 27 rfl ?_;refine wpAnyH_done kR ?_ _));go_wp2;go_ret;exact ⟨ret_i (by rw [HG2.out];simp),by exact bB1 hB3⟩
            · rw [h1,h2] at HG2
              (go_wp2_with (first | (go_at_call 150;refine (CFc.out _ (hL3.alloc _)).mono ?_;rintro e w4 ⟨rfl,rfl⟩) | fail));((refine wp_region_held_drew (S:=(fun w' => Box w' wr.heap.size 50 #[.int .i64 fn,.int .i64 fd])) kR ?_ (fun hHeld => ?_);(focus ((try dsimp only);(((first | exact bX0 | exact bX0)))));have hO:=Lib.hid (fun w' (hSw : (fun w' => Box w' wr.heap.size 50 #[.int .i64 fn,.int .i64 fd]) w') => (by (try dsimp only at hSw);(have sa0:=hSw.cell 0;have sa1:=hSw.cell 1;(simp at sa0 sa1));exact And.intro sa0 sa1));refine rgN 0 rfl ?_;refine rgN 1 rfl ?_;refine rgL 2 hO rfl ?_;refine rgN 3 rfl ?_;refine rgN 4 rfl ?_;refine rgN 5 rfl ?_;refine rgN 6 rfl ?_;refine rgN 7 rfl ?_;refine rgN 8 rfl ?_;refine rgN 9 rfl ?_;refine rgN 10 rfl ?_;refine rgN 11 rfl ?_;refine rgN 13 rfl ?_;refine rgL 14 hO rfl ?_;refine rgN 22 rfl ?_;refine rgN 23 rfl ?_;refine rgC 12 rfl (fun K hK => ?_);go_simp;((go_at_call 84;(with_reducible refine (unless_c _ _ _).mono ?_);rintro e w' ⟨rfl,rfl⟩));go_simp;refine hK.out _ _ ?_ (fun hHeld => ?_);(focus ((try dsimp only);(((first | exact bX0 | exact bX0)))));clear hK K;(try simp only [Act.put,pqs]);refine rgC 15 rfl (fun K hK => ?_);go_simp;((go_at_call 93;(with_reducible refine (within_w _ _ _ _).mono ?_);rintro e w' ⟨rfl,rfl⟩));go_simp;refine hK.out _ _ ?_ (fun hHeld => ?_);(focus ((try dsimp only);(((first | exact bX0 | exact bX0)))));clear hK K;(try simp only [Act.put,pqs]);refine rgN 16 rfl ?_;refine tsH (i:=17) rfl (by assumption) ?_;refine tsH (i:=18) rfl (by assumption) ?_;refine tsH (i:=19) rfl (by assumption) ?_;refine rgN 20 rfl ?_;refine rgC 21 rfl (fun K hK => ?_);go_simp;((go_at_call 84;(with_reducible refine (unless_c _ _ _).mono ?_);rintro e w' ⟨rfl,rfl⟩));go_simp;refine hK.out _ _ ?_ (fun hHeld => ?_);(focus ((try dsimp only);(((first | exact bX0 | exact bX0)))));clear hK K;(try simp only [Act.put,pqs]);refine rgC 24 rfl (fun K hK => ?_);go_simp;((go_at_call 84;(with_reducible refine (unless_c _ _ _).mono ?_);rintro e w' ⟨rfl,rfl⟩));go_simp;refine hK.out _ _ ?_ (fun hHeld => ?_);(focus ((try dsimp only);(((first | exact bX0 | exact bX0)))));clear hK K;(try simp only [Act.put,pqs]);refine rgC 25 rfl (fun K hK => ?_);go_simp;refine hK.out _ _ ?_ (fun hHeld => ?_);(focus ((try dsimp only);(((first | exact bX0 | exact bX0)))));clear hK K;(try simp only [Act.put,pqs]);refine rgC 26 rfl (fun K hK => ?_);go_simp;(first | (go_at_call 83;(with_reducible refine (first4a _ _ _ _ _ _ _ (by simp)).mono ?_);rintro e w' ⟨rfl,rfl⟩) | (go_at_call 83;(with_reducible refine (first4d _ _ _ _ _ _ _ (by simp)).mono ?_);rintro e w' ⟨rfl,rfl⟩));go_simp;refine hK.out _ _ ?_ (fun hHeld => ?_);(focus ((try dsimp only);(((first | exact bX0 | exact bX0)))));clear hK K;(try simp only [Act.put,pqs]);refine rgN 27 rfl ?_;refine wpAnyH_done kR ?_ _));go_wp2;go_ret;exact ⟨ret_i (by rw [HG2.out];simp),by exact bB1 hB3⟩
          · rw [hi] at HG2
            rcases hc with h1 | ⟨h1,h2⟩ | ⟨h1,h2⟩
            · rw [h1] at HG2
              (go_wp2_with (first | (go_at_call 150;refine (CFc.out _ (hL3.alloc _)).mono ?_;rintro e w4 ⟨rfl,rfl⟩) | fail));((refine wp_region_held_drew (S:=(fun w' => Box w' wr.heap.size 50 #[.int .i64 fn,.int .i64 fd])) kR ?_ (fun hHeld => ?_);(focus ((try dsimp only);(((first | exact bX0 | exact bX0)))));have hO:=Lib.hid (fun w' (hSw : (fun w' => Box w' wr.heap.size 50 #[.int .i64 fn,.int .i64 fd]) w') => (by (try dsimp only at hSw);(have sa0:=hSw.cell 0;have sa1:=hSw.cell 1;(simp at sa0 sa1));exact And.intro sa0 sa1));refine rgN 0 rfl ?_;refine rgN 1 rfl ?_;refine rgL 2 hO rfl ?_;refine rgN 3 rfl ?_;refine rgN 4 rfl ?_;refine tsH (i:=5) rfl (by assumption) ?_;refine tsH (i:=6) rfl (by assumption) ?_;refine tsH (i:=7) rfl (by assumption) ?_;refine tsH (i:=8) rfl (by assumption) ?_;refine tsH (i:=9) rfl (by assumption) ?_;refine tsH (i:=10) rfl (by assumption) ?_;refine rgN 11 rfl ?_;refine rgN 13 rfl ?_;refine rgL 14 hO rfl ?_;refine rgN 22 rfl ?_;refine rgN 23 rfl ?_;refine rgC 12 rfl (fun K hK => ?_);go_simp;((go_at_call 84;(with_reducible refine (unless_c _ _ _).mono ?_);rintro e w' ⟨rfl,rfl⟩));go_simp;refine hK.out _ _ ?_ (fun hHeld => ?_);(focus ((try dsimp only);(((first | exact bX0 | exact bX0)))));clear hK K;(try simp only [Act.put,pqs]);refine rgC 15 rfl (fun K hK => ?_);go_simp;((go_at_call 93;(with_reducible refine (within_w _ _ _ _).mono ?_);rintro e w' ⟨rfl,rfl⟩));go_simp;refine hK.out _ _ ?_ (fun hHeld => ?_);(focus ((try dsimp only);(((first | exact bX0 | exact bX0)))));clear hK K;(try simp only [Act.put,pqs]);refine rgN 16 rfl ?_;refine rgN 17 rfl ?_;refine rgL 18 hO rfl ?_;refine rgN 19 rfl ?_;refine rgN 20 rfl ?_;refine rgC 21 rfl (fun K hK => ?_);go_simp;((go_at_call 84;(with_reducible refine (unless_c _ _ _).mono ?_);rintro e w' ⟨rfl,rfl⟩));go_simp;refine hK.out _ _ ?_ (fun hHeld => ?_);(focus ((try dsimp only);(((first | exact bX0 | exact bX0)))));clear hK K;(try simp only [Act.put,pqs]);refine rgC 24 rfl (fun K hK => ?_);go_simp;((go_at_call 84;(with_reducible refine (unless_c _ _ _).mono ?_);rintro e w' ⟨rfl,rfl⟩));go_simp;refine hK.out _ _ ?_ (fun hHeld => ?_);(focus ((try dsimp only);(((first | exact bX0 | exact bX0)))));clear hK K;(try simp only [Act.put,pqs]);refine rgC 25 rfl (fun K hK => ?_);go_simp;refine hK.out _ _ ?_ (fun hHeld => ?_);(focus ((try dsimp only);(((first | exact bX0 | exact bX0)))));clear hK K;(try simp only [Act.put,pqs]);refine rgC 26 rfl (fun K hK => ?_);go_simp;(first | (go_at_call 83;(with_reducible refine (first4a _ _ _ _ _ _ _ (by simp)).mono ?_);rintro e w' ⟨rfl,rfl⟩) | (go_at_call 83;(with_reducible refine (first4d _ _ _ _ _ _ _ (by simp)).mono ?_);rintro e w' ⟨rfl,rfl⟩));go_simp;refine hK.out _ _ ?_ (fun hHeld => ?_);(focus ((try dsimp only);(((first | exact bX0 | exact bX0)))));clear hK K;(try simp only [Act.put,pqs]);refine rgN 27 rfl ?_;refine wpAnyH_done kR ?_ _));go_wp2;go_ret;exact ⟨ret_i (by rw [HG2.out];simp),by exact bB1 hB3⟩
            · rw [h1,h2] at HG2
              (go_wp2_with (first | (go_at_call 150;refine (CFc.out _ (hL3.alloc _)).mono ?_;rintro e w4 ⟨rfl,rfl⟩) | fail));((refine wp_region_held_drew (S:=(fun w' => Box w' wr.heap.size 50 #[.int .i64 fn,.int .i64 fd])) kR ?_ (fun hHeld => ?_);(focus ((try dsimp only);(((first | exact bX0 | exact bX0)))));have hO:=Lib.hid (fun w' (hSw : (fun w' => Box w' wr.heap.size 50 #[.int .i64 fn,.int .i64 fd]) w') => (by (try dsimp only at hSw);(have sa0:=hSw.cell 0;have sa1:=hSw.cell 1;(simp at sa0 sa1));exact And.intro sa0 sa1));refine rgN 0 rfl ?_;refine rgN 1 rfl ?_;refine rgL 2 hO rfl ?_;refine rgN 3 rfl ?_;refine rgN 4 rfl ?_;refine rgN 5 rfl ?_;refine rgN 6 rfl ?_;refine rgN 7 rfl ?_;refine tsH (i:=8) rfl (by assumption) ?_;refine tsH (i:=9) rfl (by assumption) ?_;refine rgN 10 rfl ?_;refine rgN 11 rfl ?_;refine rgN 13 rfl ?_;refine rgL 14 hO rfl ?_;refine rgN 22 rfl ?_;refine rgN 23 rfl ?_;refine rgC 12 rfl (fun K hK => ?_);go_simp;((go_at_call 84;(with_reducible refine (unless_c _ _ _).mono ?_);rintro e w' ⟨rfl,rfl⟩));go_simp;refine hK.out _ _ ?_ (fun hHeld => ?_);(focus ((try dsimp only);(((first | exact bX0 | exact bX0)))));clear hK K;(try simp only [Act.put,pqs]);refine rgC 15 rfl (fun K hK => ?_);go_simp;((go_at_call 93;(with_reducible refine (within_w _ _ _ _).mono ?_);rintro e w' ⟨rfl,rfl⟩));go_simp;refine hK.out _ _ ?_ (fun hHeld => ?_);(focus ((try dsimp only);(((first | exact bX0 | exact bX0)))));clear hK K;(try simp only [Act.put,pqs]);refine rgN 16 rfl ?_;refine rgN 17 rfl ?_;refine rgL 18 hO rfl ?_;refine rgN 19 rfl ?_;refine rgN 20 rfl ?_;refine rgC 21 rfl (fun K hK => ?_);go_simp;((go_at_call 84;(with_reducible refine (unless_c _ _ _).mono ?_);rintro e w' ⟨rfl,rfl⟩));go_simp;refine hK.out _ _ ?_ (fun hHeld => ?_);(focus ((try dsimp only);(((first | exact bX0 | exact bX0)))));clear hK K;(try simp only [Act.put,pqs]);refine rgC 24 rfl (fun K hK => ?_);go_simp;((go_at_call 84;(with_reducible refine (unless_c _ _ _).mono ?_);rintro e w' ⟨rfl,rfl⟩));go_simp;refine hK.out _ _ ?_ (fun hHeld => ?_);(focus ((try dsimp only);(((first | exact bX0 | exact bX0)))));clear hK K;(try simp only [Act.put,pqs]);refine rgC 25 rfl (fun K hK => ?_);go_simp;refine hK.out _ _ ?_ (fun hHeld => ?_);(focus ((try dsimp only);(((first | exact bX0 | exact bX0)))));clear hK K;(try simp only [Act.put,pqs]);refine rgC 26 rfl (fun K hK => ?_);go_simp;(first | (go_at_call 83;(with_reducible refine (first4a _ _ _ _ _ _ _ (by simp)).mono ?_);rintro e w' ⟨rfl,rfl⟩) | (go_at_call 83;(with_reducible refine (first4d _ _ _ _ _ _ _ (by simp)).mono ?_);rintro e w' ⟨rfl,rfl⟩));go_simp;refine hK.out _ _ ?_ (fun hHeld => ?_);(focus ((try dsimp only);(((first | exact bX0 | exact bX0)))));clear hK K;(try simp only [Act.put,pqs]);refine rgN 27 rfl ?_;refine wpAnyH_done kR ?_ _));go_wp2;go_ret;exact ⟨ret_i (by rw [HG2.out];simp),by exact bB1 hB3⟩
            · rw [h1,h2] at HG2
              (go_wp2_with (first | (go_at_call 150;refine (CFc.out _ (hL3.alloc _)).mono ?_;rintro e w4 ⟨rfl,rfl⟩) | fail));((refine wp_region_held_drew (S:=(fun w' => Box w' wr.heap.size 50 #[.int .i64 fn,.int .i64 fd])) kR ?_ (fun hHeld => ?_);(focus ((try dsimp only);(((first | exact bX0 | exact bX0)))));have hO:=Lib.hid (fun w' (hSw : (fun w' => Box w' wr.heap.size 50 #[.int .i64 fn,.int .i64 fd]) w') => (by (try dsimp only at hSw);(have sa0:=hSw.cell 0;have sa1:=hSw.cell 1;(simp at sa0 sa1));exact And.intro sa0 sa1));refine rgN 0 rfl ?_;refine rgN 1 rfl ?_;refine rgL 2 hO rfl ?_;refine rgN 3 rfl ?_;refine rgN 4 rfl ?_;refine rgN 5 rfl ?_;refine rgN 6 rfl ?_;refine rgN 7 rfl ?_;refine rgN 8 rfl ?_;refine rgN 9 rfl ?_;refine rgN 10 rfl ?_;refine rgN 11 rfl ?_;refine rgN 13 rfl ?_;refine rgL 14 hO rfl ?_;refine rgN 22 rfl ?_;refine rgN 23 rfl ?_;refine rgC 12 rfl (fun K hK => ?_);go_simp;((go_at_call 84;(with_reducible refine (unless_c _ _ _).mono ?_);rintro e w' ⟨rfl,rfl⟩));go_simp;refine hK.out _ _ ?_ (fun hHeld => ?_);(focus ((try dsimp only);(((first | exact bX0 | exact bX0)))));clear hK K;(try simp only [Act.put,pqs]);refine rgC 15 rfl (fun K hK => ?_);go_simp;((go_at_call 93;(with_reducible refine (within_w _ _ _ _).mono ?_);rintro e w' ⟨rfl,rfl⟩));go_simp;refine hK.out _ _ ?_ (fun hHeld => ?_);(focus ((try dsimp only);(((first | exact bX0 | exact bX0)))));clear hK K;(try simp only [Act.put,pqs]);refine rgN 16 rfl ?_;refine rgN 17 rfl ?_;refine rgL 18 hO rfl ?_;refine rgN 19 rfl ?_;refine rgN 20 rfl ?_;refine rgC 21 rfl (fun K hK => ?_);go_simp;((go_at_call 84;(with_reducible refine (unless_c _ _ _).mono ?_);rintro e w' ⟨rfl,rfl⟩));go_simp;refine hK.out _ _ ?_ (fun hHeld => ?_);(focus ((try dsimp only);(((first | exact bX0 | exact bX0)))));clear hK K;(try simp only [Act.put,pqs]);refine rgC 24 rfl (fun K hK => ?_);go_simp;((go_at_call 84;(with_reducible refine (unless_c _ _ _).mono ?_);rintro e w' ⟨rfl,rfl⟩));go_simp;refine hK.out _ _ ?_ (fun hHeld => ?_);(focus ((try dsimp only);(((first | exact bX0 | exact bX0)))));clear hK K;(try simp only [Act.put,pqs]);refine rgC 25 rfl (fun K hK => ?_);go_simp;refine hK.out _ _ ?_ (fun hHeld => ?_);(focus ((try dsimp only);(((first | exact bX0 | exact bX0)))));clear hK K;(try simp only [Act.put,pqs]);refine rgC 26 rfl (fun K hK => ?_);go_simp;(first | (go_at_call 83;(with_reducible refine (first4a _ _ _ _ _ _ _ (by simp)).mono ?_);rintro e w' ⟨rfl,rfl⟩) | (go_at_call 83;(with_reducible refine (first4d _ _ _ _ _ _ _ (by simp)).mono ?_);rintro e w' ⟨rfl,rfl⟩));go_simp;refine hK.out _ _ ?_ (fun hHeld => ?_);(focus ((try dsimp only);(((first | exact bX0 | exact bX0)))));clear hK K;(try simp only [Act.put,pqs]);refine rgN 27 rfl ?_;refine wpAnyH_done kR ?_ _));go_wp2;go_ret;exact ⟨ret_i (by rw [HG2.out];simp),by exact bB1 hB3⟩
        · have hy1 : (y != 0) = true:=by simpa using hy
          have hy2 : (y == 0) = false:=by simpa using hy
          have HS:=Lib.hid (eu_step (a:=x) hy)
          have hl:=tmod_lt (a:=x) hy
          have b5 : -9223372036854775808 ≤ x.tmod y ∧ x.tmod y ≤ 9223372036854775807:=by omega
          obtain ⟨b5,b6⟩:=b5
          have HL:=Lib.hid hl
          clear hl
          go_wp2
          (refine region_open kR (fun R hR => ?_);refine heldR (S:=(fun w' => w' = wr.drew)) ?_ (fun hHeld => ?_);(focus ((try dsimp only);((first | done | rfl))));refine rgN 0 rfl ?_;refine rgN 1 rfl ?_;refine rgN 2 rfl ?_;refine rgN 3 rfl ?_;refine rgN 4 rfl ?_;refine rgN 5 rfl ?_;refine wpAnyH_done (Q:=fun e a w => e = Exit.normal ∧ R a w) kR ⟨rfl,hR _ _ ?_⟩ _;clear hR R)
          go_roundw
          case rel =>
            (repeat apply Exists.intro)
            refine ⟨⟨y,x.tmod y,rfl,rfl, ?_,⟨b3,b4,b5,b6⟩, ?_, ?_⟩,rfl⟩
            · unfold Hid;rw [hf.out,HS.out]
            · exact bX0
            · exact bB1 hB3
          case measure =>
            have hl:=HL.out
            rw [Int.natAbs_tmod] at hl
            simp [intOf]
            exact hl
end Go.Proofs.YtpnfgmgoafgcbaaGreat

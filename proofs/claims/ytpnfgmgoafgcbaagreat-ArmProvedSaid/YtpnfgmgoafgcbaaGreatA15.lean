/-
  The texts Valve, AwP, Val2, Doc, Eqs in one.
-/
import Derived.Test.YtpnfgmgoafgcbaaGreatErr
import Derived.Deep.DeepCutAuto
import Derived.Test.YtpnfgmgoafgcbaaGreatA11
import Derived.Test.YtpnfgmgoafgcbaaGreatA14
import Derived.Test.YtpnfgmgoafgcbaaGreatA6
import Derived.Test.YtpnfgmgoafgcbaaGreatA2
import Derived.Test.YtpnfgmgoafgcbaaGreatA9
import Derived.Laws.StructEq
import Derived.LaidLaws
import Derived.BigQuiet
set_option linter.all false
/-
  Valves (chapter 6): the speed for a command, and its errors; in plain words, and the walks.
-/
set_option linter.unusedVariables false
namespace Go.Proofs.YtpnfgmgoafgcbaaGreat
open Go.RowKit
attribute [local go_sem] Oper.semAt_some
def vlE (d g k : Int) : Int:=unl (inB d 0 100 && inB g 0 1000 && inB k 0 100) 2
def cmE (n : Int) : Int:=unl (inB n (-100) 100) 2
def opn (d n : Int) : Int:=if d < n then n - d else if n < -d then n + d else 0
def spL (d g k n : Int) : Int:=g * opn d n / 1000 - k
def spH (d g k n : Int) : Int:=-(-(g * opn d n) / 1000) + k
def siE (d g k n : Int) : Int:=fstE [vlE d g k,cmE n]
theorem tr_size : (Tryz.prog.info? 25).map (·.size) = some 2:=by kernel_rfl
set_option maxHeartbeats 400000 in
theorem floor_c (n b : Int) (hb : 0 < b) (h1 : -9223372036854775807 ≤ n) (h2 : n ≤ 9223372036854775807) (h3 : b ≤ 9223372036854775807) (w : World) : Calls Tryz.prog 169 #[.int .i64 n,.int .i64 b] w fun e w' => e = .returned (.int .i64 (n / b)) ∧ w = w':=by
  have a1:=Int.tmod_lt_of_pos n hb
  have a2 : -b < n.tmod b:=by have:=Int.lt_tmod_of_pos n hb;omega
  have a3 : n / b = if n.tmod b < 0 then n.tdiv b - 1 else n.tdiv b:=by
    rw [Int.tmod_eq_emod,Int.tdiv_eq_ediv]
    have:=Int.emod_nonneg n (b:=b) (by omega)
    have:=Int.emod_lt_of_pos n hb
    have hs:=Int.sign_eq_one_of_pos hb
    split
    · rw [if_neg (by omega)];omega
    · rw [if_pos (by omega),hs];omega
  have a4 : -9223372036854775807 ≤ n.tdiv b ∧ n.tdiv b ≤ 9223372036854775807:=by
    have:=Int.natAbs_tdiv_le_natAbs n b
    omega
  have A3:=Lib.hid a3;clear a3
  obtain ⟨a4,a5⟩:=a4
  have hb0 : b ≠ 0:=by omega
  have hb1 : b ≠ -1:=by omega
  go_enter Tryz.func169,Tryz.ntmps169
  go_wp2
  all_goals go_ret
  all_goals exact ⟨ret_i (by rw [A3.out];first | rw [if_pos (by assumption)] | rw [if_neg (by omega)]),rfl⟩
theorem mul_bd {g o : Int} (h1 : 0 ≤ g) (h2 : g ≤ 1000) (h3 : -100 ≤ o) (h4 : o ≤ 100) : -100000 ≤ g * o ∧ g * o ≤ 100000:=by
  have a:=Int.mul_le_mul_of_nonneg_left h4 h1
  have b:=Int.mul_le_mul_of_nonneg_left h3 h1
  omega
set_option maxHeartbeats 4000000 in
set_option maxRecDepth 100000 in
theorem speed_c (d g k n : Int) (w : World) (hd : 0 ≤ d ∧ d ≤ 100) (hg : 0 ≤ g ∧ g ≤ 1000) (hk : 0 ≤ k ∧ k ≤ 100) (hn : -100 ≤ n ∧ n ≤ 100) :
    Calls Tryz.prog 146 #[.agg #[.int .i64 d,.int .i64 g,.int .i64 k],.int .i64 n] w fun e w' => e = .returned (.agg #[.int .i64 (spL d g k n),.int .i64 (spH d g k n)]) ∧ Below w.heap.size w w':=by
  have hL : spL d g k n = g * opn d n / 1000 - k:=rfl
  have hH : spH d g k n = -(-(g * opn d n) / 1000) + k:=rfl
  obtain ⟨hd1,hd2⟩:=hd
  obtain ⟨hg1,hg2⟩:=hg
  obtain ⟨hk1,hk2⟩:=hk
  obtain ⟨hn1,hn2⟩:=hn
  generalize spL d g k n = rL at *
  generalize spH d g k n = rH at *
  have e1 : d < n → opn d n = n - d:=fun h => by unfold opn;rw [if_pos h]
  have e2 : ¬ d < n → n < -d → opn d n = n + d:=fun h h' => by unfold opn;rw [if_neg h,if_pos h']
  have e3 : ¬ d < n → ¬ n < -d → opn d n = 0:=fun h h' => by unfold opn;rw [if_neg h,if_neg h']
  by_cases h : d < n
  · rw [e1 h] at hL hH
    have hm:=mul_bd hg1 hg2 (show -100 ≤ n - d by omega) (by omega)
    clear e1 e2 e3
    have HL:=Lib.hid hL;have HH:=Lib.hid hH;clear hL hH;obtain ⟨m1,m2⟩:=hm;go_enter Tryz.func146,Tryz.ntmps146;go_upto_region 7 with fail;(obtain ⟨W6,hW6⟩ : ∃ W6 : World,W6 = (w.alloc (.cells #[.int .i64 d,.int .i64 g,.int .i64 k] 131)).alloc (.cells #[.int .i64 0,.int .i64 0] 25):=⟨_,rfl⟩);have G0 : Box W6 w.heap.size 131 #[.int .i64 d,.int .i64 g,.int .i64 k]:=(by rw [hW6];exact bX0);have G1 : Box W6 (w.heap.size + 1) 25 #[.int .i64 0,.int .i64 0]:=(by rw [hW6];exact bX0);have G5 : Below w.heap.size w W6:=(by rw [hW6];exact bB0);rw [← hW6];clear hW6;have c0:=G0.cell 0;have c1:=G0.cell 1;have c2:=G0.cell 2;have d0:=G1.cell 0;have d1:=G1.cell 1;have f1:=G1.froz;(simp at c0 c1 c2 d0 d1);have l0:=G0.lt;have l1:=G1.lt;generalize g * (n - d) = m at *;have q1 : -100 ≤ m / 1000:=(by omega);have q2 : m / 1000 ≤ 100:=(by omega);have q3 : -100 ≤ (-m) / 1000:=(by omega);have q4 : (-m) / 1000 ≤ 100:=(by omega);have v1 : IntKind.i64.wrap (m / 1000 - k) = m / 1000 - k:=IntWalk.i64_in _ (by omega);have v2 : IntKind.i64.wrap (-((-m) / 1000) + k) = -((-m) / 1000) + k:=IntWalk.i64_in _ (by omega);have v3 : IntKind.i64.wrap (-((-m) / 1000)) = -((-m) / 1000):=IntWalk.i64_in _ (by omega);have v4 : IntKind.i64.wrap (-m) = -m:=IntWalk.i64_in _ (by omega);(refine wp_region_held_drew (S:=(fun w' => Box w' w.heap.size 131 #[.int .i64 d,.int .i64 g,.int .i64 k])) kR ?_ (fun hHeld => ?_);(focus ((try dsimp only);((first | exact G0.drew | ((first | exact bX0 | exact bX0))))));have hO:=Lib.hid (fun w' (hSw : (fun w' => Box w' w.heap.size 131 #[.int .i64 d,.int .i64 g,.int .i64 k]) w') => (by (try dsimp only at hSw);(have sa:=hSw.cell 2;(simp at sa));exact sa));refine rgN 0 rfl ?_;refine rgN 2 rfl ?_;refine rgL 3 hO rfl ?_;refine rgN 5 rfl ?_;refine rgN 6 rfl ?_;refine rgN 9 rfl ?_;refine rgL 10 hO rfl ?_;refine rgC 1 rfl (fun K hK => ?_);go_simp;((go_at_call 169;(with_reducible refine (floor_c _ _ (by decide) (by omega) (by omega) (by decide) _).mono ?_);rintro e w' ⟨rfl,rfl⟩));go_simp;refine hK.out _ _ ?_ (fun hHeld => ?_);(focus ((try dsimp only);((first | exact G0.drew | ((first | exact bX0 | exact bX0))))));clear hK K;(try simp only [Act.put,pqs]);refine rgN 4 rfl ?_;refine rgC 7 rfl (fun K hK => ?_);go_simp;((go_at_call 169;(with_reducible refine (floor_c _ _ (by decide) (by omega) (by omega) (by decide) _).mono ?_);rintro e w' ⟨rfl,rfl⟩));go_simp;refine hK.out _ _ ?_ (fun hHeld => ?_);(focus ((try dsimp only);((first | exact G0.drew | ((first | exact bX0 | exact bX0))))));clear hK K;(try simp only [Act.put,pqs]);refine rgN 8 rfl ?_;refine rgN 11 rfl ?_;refine rgN 12 rfl ?_;refine rgC 13 rfl (fun K hK => ?_);go_simp;refine hK.out _ _ ?_ (fun hHeld => ?_);(focus ((try dsimp only);((first | exact G0.drew | ((first | exact bX0 | exact bX0))))));clear hK K;(try simp only [Act.put,pqs]);refine wpAnyH_done kR ?_ _);go_wp2;refine bodyPost_ret (res_c1 rfl rfl (show Box _ _ 25 #[.int .i64 (m / 1000 - k),.int .i64 (-((-m) / 1000) + k)] from ?_) Tryz.underlying25 rfl tr_size) rfl ⟨(by rw [HL.out,HH.out]), ?_⟩;(focus (exact bX0));(focus (exact bB1 G5))
  · by_cases h2 : n < -d
    · rw [e2 h h2] at hL hH
      have hm:=mul_bd hg1 hg2 (show -100 ≤ n + d by omega) (by omega)
      clear e1 e2 e3
      have HL:=Lib.hid hL;have HH:=Lib.hid hH;clear hL hH;obtain ⟨m1,m2⟩:=hm;go_enter Tryz.func146,Tryz.ntmps146;go_upto_region 7 with fail;(obtain ⟨W6,hW6⟩ : ∃ W6 : World,W6 = (w.alloc (.cells #[.int .i64 d,.int .i64 g,.int .i64 k] 131)).alloc (.cells #[.int .i64 0,.int .i64 0] 25):=⟨_,rfl⟩);have G0 : Box W6 w.heap.size 131 #[.int .i64 d,.int .i64 g,.int .i64 k]:=(by rw [hW6];exact bX0);have G1 : Box W6 (w.heap.size + 1) 25 #[.int .i64 0,.int .i64 0]:=(by rw [hW6];exact bX0);have G5 : Below w.heap.size w W6:=(by rw [hW6];exact bB0);rw [← hW6];clear hW6;have c0:=G0.cell 0;have c1:=G0.cell 1;have c2:=G0.cell 2;have d0:=G1.cell 0;have d1:=G1.cell 1;have f1:=G1.froz;(simp at c0 c1 c2 d0 d1);have l0:=G0.lt;have l1:=G1.lt;generalize g * (n + d) = m at *;have q1 : -100 ≤ m / 1000:=(by omega);have q2 : m / 1000 ≤ 100:=(by omega);have q3 : -100 ≤ (-m) / 1000:=(by omega);have q4 : (-m) / 1000 ≤ 100:=(by omega);have v1 : IntKind.i64.wrap (m / 1000 - k) = m / 1000 - k:=IntWalk.i64_in _ (by omega);have v2 : IntKind.i64.wrap (-((-m) / 1000) + k) = -((-m) / 1000) + k:=IntWalk.i64_in _ (by omega);have v3 : IntKind.i64.wrap (-((-m) / 1000)) = -((-m) / 1000):=IntWalk.i64_in _ (by omega);have v4 : IntKind.i64.wrap (-m) = -m:=IntWalk.i64_in _ (by omega);(refine wp_region_held_drew (S:=(fun w' => Box w' w.heap.size 131 #[.int .i64 d,.int .i64 g,.int .i64 k])) kR ?_ (fun hHeld => ?_);(focus ((try dsimp only);((first | exact G0.drew | ((first | exact bX0 | exact bX0))))));have hO:=Lib.hid (fun w' (hSw : (fun w' => Box w' w.heap.size 131 #[.int .i64 d,.int .i64 g,.int .i64 k]) w') => (by (try dsimp only at hSw);(have sa:=hSw.cell 2;(simp at sa));exact sa));refine rgN 0 rfl ?_;refine rgN 2 rfl ?_;refine rgL 3 hO rfl ?_;refine rgN 5 rfl ?_;refine rgN 6 rfl ?_;refine rgN 9 rfl ?_;refine rgL 10 hO rfl ?_;refine rgC 1 rfl (fun K hK => ?_);go_simp;((go_at_call 169;(with_reducible refine (floor_c _ _ (by decide) (by omega) (by omega) (by decide) _).mono ?_);rintro e w' ⟨rfl,rfl⟩));go_simp;refine hK.out _ _ ?_ (fun hHeld => ?_);(focus ((try dsimp only);((first | exact G0.drew | ((first | exact bX0 | exact bX0))))));clear hK K;(try simp only [Act.put,pqs]);refine rgN 4 rfl ?_;refine rgC 7 rfl (fun K hK => ?_);go_simp;((go_at_call 169;(with_reducible refine (floor_c _ _ (by decide) (by omega) (by omega) (by decide) _).mono ?_);rintro e w' ⟨rfl,rfl⟩));go_simp;refine hK.out _ _ ?_ (fun hHeld => ?_);(focus ((try dsimp only);((first | exact G0.drew | ((first | exact bX0 | exact bX0))))));clear hK K;(try simp only [Act.put,pqs]);refine rgN 8 rfl ?_;refine rgN 11 rfl ?_;refine rgN 12 rfl ?_;refine rgC 13 rfl (fun K hK => ?_);go_simp;refine hK.out _ _ ?_ (fun hHeld => ?_);(focus ((try dsimp only);((first | exact G0.drew | ((first | exact bX0 | exact bX0))))));clear hK K;(try simp only [Act.put,pqs]);refine wpAnyH_done kR ?_ _);go_wp2;refine bodyPost_ret (res_c1 rfl rfl (show Box _ _ 25 #[.int .i64 (m / 1000 - k),.int .i64 (-((-m) / 1000) + k)] from ?_) Tryz.underlying25 rfl tr_size) rfl ⟨(by rw [HL.out,HH.out]), ?_⟩;(focus (exact bX0));(focus (exact bB1 G5))
    · rw [e3 h h2,Int.mul_zero] at hL hH
      have hm : -100000 ≤ (0 : Int) ∧ (0 : Int) ≤ 100000:=by decide
      clear e1 e2 e3
      have HL:=Lib.hid hL
      have HH:=Lib.hid hH
      clear hL hH
      go_enter Tryz.func146,Tryz.ntmps146
      go_upto_region 7 with fail;(obtain ⟨W6,hW6⟩ : ∃ W6 : World,W6 = (w.alloc (.cells #[.int .i64 d,.int .i64 g,.int .i64 k] 131)).alloc (.cells #[.int .i64 0,.int .i64 0] 25):=⟨_,rfl⟩);have G0 : Box W6 w.heap.size 131 #[.int .i64 d,.int .i64 g,.int .i64 k]:=(by rw [hW6];exact bX0);have G1 : Box W6 (w.heap.size + 1) 25 #[.int .i64 0,.int .i64 0]:=(by rw [hW6];exact bX0);have G5 : Below w.heap.size w W6:=(by rw [hW6];exact bB0);rw [← hW6];clear hW6;have c0:=G0.cell 0;have c1:=G0.cell 1;have c2:=G0.cell 2;have d0:=G1.cell 0;have d1:=G1.cell 1;have f1:=G1.froz;(simp at c0 c1 c2 d0 d1);have l0:=G0.lt;have l1:=G1.lt
      have v0 : IntKind.i64.wrap 0 = 0:=by decide
      have v1 : IntKind.i64.wrap (-k) = -k:=IntWalk.i64_in _ (by omega)
      have v2 : IntKind.i64.wrap k = k:=IntWalk.i64_in _ (by omega)
      (refine wp_region_held_drew (S:=(fun w' => Box w' w.heap.size 131 #[.int .i64 d,.int .i64 g,.int .i64 k])) kR ?_ (fun hHeld => ?_);(focus ((try dsimp only);((first | exact G0.drew | ((first | exact bX0 | exact bX0))))));have hO:=Lib.hid (fun w' (hSw : (fun w' => Box w' w.heap.size 131 #[.int .i64 d,.int .i64 g,.int .i64 k]) w') => (by (try dsimp only at hSw);(have sa:=hSw.cell 2;(simp at sa));exact sa));refine rgN 0 rfl ?_;refine rgN 2 rfl ?_;refine rgL 3 hO rfl ?_;refine rgN 5 rfl ?_;refine rgN 6 rfl ?_;refine rgN 9 rfl ?_;refine rgL 10 hO rfl ?_;refine rgC 1 rfl (fun K hK => ?_);go_simp;((go_at_call 169;(with_reducible refine (floor_c _ _ (by decide) (by omega) (by omega) (by decide) _).mono ?_);rintro e w' ⟨rfl,rfl⟩));go_simp;refine hK.out _ _ ?_ (fun hHeld => ?_);(focus ((try dsimp only);((first | exact G0.drew | ((first | exact bX0 | exact bX0))))));clear hK K;(try simp only [Act.put,pqs]);refine rgN 4 rfl ?_;refine rgC 7 rfl (fun K hK => ?_);go_simp;((go_at_call 169;(with_reducible refine (floor_c _ _ (by decide) (by omega) (by omega) (by decide) _).mono ?_);rintro e w' ⟨rfl,rfl⟩));go_simp;refine hK.out _ _ ?_ (fun hHeld => ?_);(focus ((try dsimp only);((first | exact G0.drew | ((first | exact bX0 | exact bX0))))));clear hK K;(try simp only [Act.put,pqs]);refine rgN 8 rfl ?_;refine rgN 11 rfl ?_;refine rgN 12 rfl ?_;refine rgC 13 rfl (fun K hK => ?_);go_simp;refine hK.out _ _ ?_ (fun hHeld => ?_);(focus ((try dsimp only);((first | exact G0.drew | ((first | exact bX0 | exact bX0))))));clear hK K;(try simp only [Act.put,pqs]);refine wpAnyH_done kR ?_ _)
      go_wp2
      refine bodyPost_ret (res_c1 rfl rfl (show Box _ _ 25 #[.int .i64 (-k),.int .i64 k] from ?_) Tryz.underlying25 rfl tr_size) rfl ⟨by rw [HL.out,HH.out];simp, ?_⟩
      · exact bX0
      · exact bB1 G5
set_option maxHeartbeats 400000 in
theorem commandErr_c (n : Int) (w : World) : Calls Tryz.prog 145 #[.int .i64 n] w fun e w' => e = .returned (.int .i64 (cmE n)) ∧ w = w':=by
  go_enter Tryz.func145,Tryz.ntmps145
  go_wp2_with (first | (go_at_call 94;(with_reducible refine (isSized_c _ _ _ (by omega) (by omega)).mono ?_);rintro e w' ⟨rfl,rfl⟩) | (go_at_call 84;(with_reducible refine (unless_c _ _ _).mono ?_);rintro e w' ⟨rfl,rfl⟩) | fail)
  go_ret
  exact ⟨rfl,rfl⟩
end Go.Proofs.YtpnfgmgoafgcbaaGreat
/-
  The document's examples of chapter 6, in plain words: what they answer.
-/
set_option linter.unusedVariables false
namespace Go.Proofs.YtpnfgmgoafgcbaaGreat
def exS : Sc:=⟨0,0,1,[(2,0,1),(1,-1,1)],(-1,4,-1,4),[(2,2,2,2)]⟩
def exH : Hd:=⟨[((-1,0),(1,0),4),((1,0),(-1,0),4)],1,2,(0,-2,0)⟩
theorem aw1 : cpE exS (0,[0,0]) = 0 ∧ mvE exS (1,1) = 0 ∧ swP exS (0,[0,0]) (1,1) = ((2,3,0,1),0):=by decide +kernel
theorem aw2 : ptR exS (0,[0,0]) (1,[0,1]) = ([(-1,1),(1,1)],0):=by decide +kernel
theorem aw3 : (rchR exS (0,[0,0])).1.length = 6 ∧ (rchR exS (0,[0,0])).2 = 0:=by decide +kernel
theorem aw4 : siE 10 500 2 15 = 0 ∧ spL 10 500 2 15 = 0 ∧ spH 10 500 2 15 = 5:=by decide +kernel
theorem aw5 : hoR exH = ([(2,1),(2,-1)],0):=by decide +kernel
end Go.Proofs.YtpnfgmgoafgcbaaGreat
/-
  Valves (chapter 6): valveErr and SpeedIn.
-/
set_option linter.unusedVariables false
namespace Go.Proofs.YtpnfgmgoafgcbaaGreat
open Go.RowKit
attribute [local go_sem] Oper.semAt_some
set_option maxHeartbeats 2000000 in
set_option maxRecDepth 100000 in
theorem valveErr_c (d g k : Int) (w : World) : Calls Tryz.prog 144 #[.agg #[.int .i64 d,.int .i64 g,.int .i64 k]] w fun e w' => e = .returned (.int .i64 (vlE d g k)) ∧ Below w.heap.size w w':=by
  have HL:=Lib.hid (show vlE d g k = unl (inB d 0 100 && inB g 0 1000 && inB k 0 100) 2 from rfl)
  generalize vlE d g k = r at *
  have hc : (inB d 0 100 = false) ∨ (inB d 0 100 = true ∧ inB g 0 1000 = false) ∨ (inB d 0 100 = true ∧ inB g 0 1000 = true):=by cases inB d 0 100 <;> cases inB g 0 1000 <;> simp
  rcases hc with h | ⟨h,h2⟩ | ⟨h,h2⟩
  all_goals
    go_enter Tryz.func144,Tryz.ntmps144
    go_wp2_with (first | (go_at_call 93;(with_reducible refine (within_w _ _ _ _).mono ?_);rintro e w' ⟨rfl,rfl⟩) | (go_at_call 84;(with_reducible refine (unless_c _ _ _).mono ?_);rintro e w' ⟨rfl,rfl⟩) | fail)
    go_ret
    exact ⟨ret_i (by rw [HL.out];simp [*]),by exact bB0⟩
theorem siE_ok {d g k n : Int} (h : siE d g k n = 0) : (0 ≤ d ∧ d ≤ 100) ∧ (0 ≤ g ∧ g ≤ 1000) ∧ (0 ≤ k ∧ k ≤ 100) ∧ (-100 ≤ n ∧ n ≤ 100):=by
  unfold siE at h
  rw [fstE_zero] at h
  simp only [vlE,cmE,List.mem_cons,List.not_mem_nil,or_false,forall_eq_or_imp,forall_eq,unl_zero (show (2 : Int) ≠ 0 by decide)] at h
  simp [inB] at h
  omega
/-- What SpeedIn answers. -/
def spO (d g k n : Int) : (Int × Int) × Int:=if siE d g k n ≠ 0 then ((0,0),siE d g k n) else ((spL d g k n,spH d g k n),0)
set_option maxHeartbeats 4000000 in
set_option maxRecDepth 100000 in
theorem speedIn_c (d g k n : Int) (w : World) : Calls Tryz.prog 79 #[.agg #[.int .i64 d,.int .i64 g,.int .i64 k],.int .i64 n] w fun e w' => e = .returned (.tuple #[.agg #[.int .i64 (spO d g k n).1.1,.int .i64 (spO d g k n).1.2],.int .i64 (spO d g k n).2]) ∧ Below w.heap.size w w':=by
  have VEc:=Lib.hid (fun W => valveErr_c d g k W)
  have CEc:=Lib.hid (fun W => commandErr_c n W)
  have SPd:=Lib.hid (fun (h : siE d g k n = 0) W => speed_c d g k n W (siE_ok h).1 (siE_ok h).2.1 (siE_ok h).2.2.1 (siE_ok h).2.2.2)
  have HE:=Lib.hid (show siE d g k n = fstE [vlE d g k,cmE n] from rfl)
  have HO:=Lib.hid (show spO d g k n = if siE d g k n ≠ 0 then ((0,0),siE d g k n) else ((spL d g k n,spH d g k n),0) from rfl)
  generalize spO d g k n = R at *
  generalize siE d g k n = r at *
  generalize vlE d g k = r1 at *
  generalize cmE n = r2 at *
  generalize spL d g k n = lo at *
  generalize spH d g k n = hi at *
  obtain ⟨⟨R1,R2⟩,R3⟩:=R
  dsimp only
  by_cases hr : r = 0
  · have SPc:=Lib.hid (SPd.out hr)
    have hR : (R1 = lo ∧ R2 = hi) ∧ R3 = 0:=by have:=HO.out;rw [if_neg (by simp [hr])] at this;simpa using this
    obtain ⟨⟨rfl,rfl⟩,rfl⟩:=hR
    have e1 : (fstE [r1,r2] != 0) = false:=by rw [← HE.out,hr];rfl
    clear HO SPd HE hr
    go_enter Tryz.func79,Tryz.ntmps79
    go_wp2_with (first | (go_at_call 144;(with_reducible refine (VEc.out _).mono ?_);rintro e w2 ⟨rfl,hb2⟩;have hz2 : w.heap.size + 1 < w2.heap.size:=(by have:=hb2.size;(try simp at this);omega);have z3 : Box w2 (w.heap.size + 1) 25 #[.int .i64 0,.int .i64 0]:=(by exact bX1 hb2);have z2 : Box w2 w.heap.size 131 #[.int .i64 d,.int .i64 g,.int .i64 k]:=(by exact bX1 hb2);have m0:=z2.cell 0;have m1:=z2.cell 1;have m2:=z2.cell 2;have b0:=z3.cell 0;have b1:=z3.cell 1;have b4:=z3.froz;(simp at m0 m1 m2 b0 b1);have hl3:=z3.lt;have hl2:=z2.lt) | (go_at_call 145;(with_reducible refine (CEc.out _).mono ?_);rintro e w' ⟨rfl,rfl⟩) | (go_at_call 83;(with_reducible refine (first2a _ _ _ _ _ (by simp)).mono ?_);rintro e w' ⟨rfl,rfl⟩) | (go_at_call 83;(with_reducible refine (first2d _ _ _ _ _ (by simp)).mono ?_);rintro e w' ⟨rfl,rfl⟩) | (go_at_call 146;(with_reducible refine (SPc.out _).mono ?_);rintro e w5 ⟨rfl,hb5⟩;have hz5 : w2.heap.size < w5.heap.size:=(by have:=hb5.size;(try simp at this);omega);have y3 : Box w5 (w.heap.size + 1) 25 #[.int .i64 0,.int .i64 0]:=(by exact bX1 hb5);have d0:=y3.cell 0;have d1:=y3.cell 1;have d4:=y3.froz;(simp at d0 d1);have hl5:=y3.lt) | fail)
    refine bodyPost_ret (res_ca rfl rfl (show Box _ _ 25 #[.int .i64 R1,.int .i64 R2] from ?hE) Tryz.underlying25 rfl tr_size) rfl ⟨rfl, ?hB⟩
    case hE => exact bX1 hb5
    case hB => exact bB2 hb2 hb5
  · have hR : (R1 = 0 ∧ R2 = 0) ∧ R3 = r:=by have:=HO.out;rw [if_pos hr] at this;simpa using this
    obtain ⟨⟨rfl,rfl⟩,rfl⟩:=hR
    have e1 : (fstE [r1,r2] != 0) = true:=by rw [← HE.out];exact bneT hr
    clear HO hr SPd
    go_enter Tryz.func79,Tryz.ntmps79
    go_wp2_with (first | (go_at_call 144;(with_reducible refine (VEc.out _).mono ?_);rintro e w2 ⟨rfl,hb2⟩;have hz2 : w.heap.size + 1 < w2.heap.size:=(by have:=hb2.size;(try simp at this);omega);have z3 : Box w2 (w.heap.size + 1) 25 #[.int .i64 0,.int .i64 0]:=(by exact bX1 hb2);have z2 : Box w2 w.heap.size 131 #[.int .i64 d,.int .i64 g,.int .i64 k]:=(by exact bX1 hb2);have m0:=z2.cell 0;have m1:=z2.cell 1;have m2:=z2.cell 2;have b0:=z3.cell 0;have b1:=z3.cell 1;have b4:=z3.froz;(simp at m0 m1 m2 b0 b1);have hl3:=z3.lt;have hl2:=z2.lt) | (go_at_call 145;(with_reducible refine (CEc.out _).mono ?_);rintro e w' ⟨rfl,rfl⟩) | (go_at_call 83;(with_reducible refine (first2a _ _ _ _ _ (by simp)).mono ?_);rintro e w' ⟨rfl,rfl⟩) | (go_at_call 83;(with_reducible refine (first2d _ _ _ _ _ (by simp)).mono ?_);rintro e w' ⟨rfl,rfl⟩) | fail)
    refine bodyPost_ret (res_ca rfl rfl (show Box _ _ 25 #[.int .i64 0,.int .i64 0] from ?hE) Tryz.underlying25 rfl tr_size) rfl ⟨by rw [HE.out];simp, ?hB⟩
    case hE => exact bX1 hb2
    case hB => exact bB1 hb2
end Go.Proofs.YtpnfgmgoafgcbaaGreat
/-
  The document's examples (chapter 6): Scene, Valve, Hold.
-/
set_option linter.unusedVariables false
namespace Go.Proofs.YtpnfgmgoafgcbaaGreat
open Go.RowKit
theorem tsc_size : (Tryz.prog.info? 30).map (·.size) = some 9:=by kernel_rfl
theorem thd_size : (Tryz.prog.info? 53).map (·.size) = some 6:=by kernel_rfl
theorem tvl_size : (Tryz.prog.info? 131).map (·.size) = some 3:=by kernel_rfl
theorem slv_box {w : World} {g : Nat} {t : TypeId} {cs : Array Value} (h : Box w g t cs) (xs : List Value) (e : cs.toList = xs) : SlV w (some ⟨g,0,none⟩) xs:=fun j u hj => by
  subst e
  refine ⟨g,0,rfl,h.lt, ?_⟩
  have:=h.cell (0 + j)
  rw [this]
  simpa using hj
theorem sli_box {w : World} {g : Nat} {t : TypeId} {cs : Array Value} (h : Box w g t cs) (xs : List Int) (e : cs.toList = xs.map (Value.int .i64)) : SlI w (some ⟨g,0,none⟩) xs:=fun j u hj => by
  refine ⟨g,0,rfl,h.lt, ?_⟩
  have:=h.cell (0 + j)
  rw [this,Nat.zero_add,← Array.getElem?_toList,e]
  simp [hj]
set_option maxHeartbeats 1000000 in
theorem scene_c (w : World) : Calls Tryz.prog 78 #[] w fun e w' => ∃ AL AB,e = .returned (.agg #[.int .i64 0,.int .i64 0,.int .i64 1,.slice AL 2 2,.int .i64 (-1),.int .i64 4,.int .i64 (-1),.int .i64 4,.slice AB 1 1]) ∧ SlV w' AL (exS.L.flatMap lkV) ∧ SlV w' AB (exS.B.flatMap bxV) ∧ Below w.heap.size w w':=by
  go_enter Tryz.func78,Tryz.ntmps78
  go_wp2
  refine bodyPost_ret (res_c1 rfl rfl (show Box _ _ 30 #[.int .i64 0,.int .i64 0,.int .i64 1,.slice (some ⟨w.heap.size + 1,0,none⟩) 2 2,.int .i64 (-1),.int .i64 4,.int .i64 (-1),.int .i64 4,.slice (some ⟨w.heap.size + 1 + 1,0,none⟩) 1 1] from ?hE) Tryz.underlying30 rfl tsc_size) rfl ⟨_,_,rfl,slv_box (cs:=#[.int .i64 2,.int .i64 0,.int .i64 1,.int .i64 1,.int .i64 (-1),.int .i64 1]) (t:=160) ?hL _ rfl,slv_box (cs:=#[.int .i64 2,.int .i64 2,.int .i64 2,.int .i64 2]) (t:=27) ?hX _ rfl, ?hB⟩
  case hE => exact bX0
  case hL => exact bX0
  case hX => exact bX0
  case hB => exact bB0
set_option maxHeartbeats 1000000 in
theorem valve_c (w : World) : Calls Tryz.prog 80 #[] w fun e w' => e = .returned (.agg #[.int .i64 10,.int .i64 500,.int .i64 2]) ∧ Below w.heap.size w w':=by
  go_enter Tryz.func80,Tryz.ntmps80
  go_wp2
  refine bodyPost_ret (res_c1 rfl rfl (show Box _ _ 131 #[.int .i64 10,.int .i64 500,.int .i64 2] from ?hE) Tryz.underlying131 rfl tvl_size) rfl ⟨rfl, ?hB⟩
  case hE => exact bX0
  case hB => exact bB0
set_option maxHeartbeats 1000000 in
theorem hold_c (w : World) : Calls Tryz.prog 81 #[] w fun e w' => ∃ AC,e = .returned (.agg #[.slice AC 2 2,.int .i64 1,.int .i64 2,.int .i64 0,.int .i64 (-2),.int .i64 0]) ∧ SlV w' AC (exH.C.flatMap ctV) ∧ Below w.heap.size w w':=by
  go_enter Tryz.func81,Tryz.ntmps81
  go_wp2
  refine bodyPost_ret (res_c1 rfl rfl (show Box _ _ 53 #[.slice (some ⟨w.heap.size + 1,0,none⟩) 2 2,.int .i64 1,.int .i64 2,.int .i64 0,.int .i64 (-2),.int .i64 0] from ?hE) Tryz.underlying53 rfl thd_size) rfl ⟨_,rfl,slv_box (cs:=#[.int .i64 (-1),.int .i64 0,.int .i64 1,.int .i64 0,.int .i64 4,.int .i64 1,.int .i64 0,.int .i64 (-1),.int .i64 0,.int .i64 4]) (t:=69) ?hL _ rfl, ?hB⟩
  case hE => exact bX0
  case hL => exact bX0
  case hB => exact bB0
end Go.Proofs.YtpnfgmgoafgcbaaGreat
/-
  Comparisons of the references (chapter 6): SamePath, SamePairs, == on boxes, ranges and moves.
-/
set_option linter.unusedVariables false
namespace Go.Proofs.YtpnfgmgoafgcbaaGreat
open Go.RowKit
attribute [local go_sem] Oper.semAt_some
attribute [local go_sem ↓] neq_ce'
theorem sameC_t {a b x y : Int} : sameC a b x y = true ↔ a = x ∧ b = y:=by simp [sameC]
theorem sameC_f {a b x y : Int} : sameC a b x y = false ↔ ¬ (a = x ∧ b = y):=by simp [sameC]
theorem neq_mv (a b x y : Int) (w : World) : (binOp .neq 84 (.agg #[.int .i64 a,.int .i64 b]) (.agg #[.int .i64 x,.int .i64 y])).run Tryz.prog w = .ok (.bool (!sameC a b x y)) w:=by
  rw [run_neq_struct,show (10000 : Nat) = 9999 + 1 from rfl,run_equalIn_agg w 9999 84 _ _ (by kernel_rfl) (by kernel_rfl)]
  simp [go_sem,sameC]
  by_cases h0 : a = x <;> by_cases h1 : b = y <;> simp [*]
attribute [local go_sem ↓] neq_mv
set_option maxHeartbeats 1000000 in
theorem samePairs_c (xs ys : List (Int × Int)) (A B : Option Addr) (c d : Nat) (w : World) (hn : xs.length ≤ 100000) (hm : ys.length ≤ 100000) (hs : SlV w A (xs.flatMap ceV)) (ht : SlV w B (ys.flatMap ceV)) :
    Calls Tryz.prog 30 #[.slice A xs.length c,.slice B ys.length d] w fun e w' => e = .returned (.bool (decide (xs = ys))) ∧ Below w.heap.size w w':=by
  by_cases hl : xs.length = ys.length
  · have hl1 : ((xs.length : Int) != (ys.length : Int)) = false:=by simp [hl]
    have HL:=Lib.hid hl
    have hle : xs.length ≤ ys.length:=by omega
    have hle' : ys.length ≤ xs.length:=by omega
    clear hl
    go_enter Tryz.func30,Tryz.ntmps30
    go_wp2
    go_loopw [5] (fun i wr => ∃ k : Nat,k ≤ xs.length ∧ i = .int .i64 k ∧ Hid (xs.take k = ys.take k) ∧ Below w.heap.size w wr) (fun i _ => xs.length - (intOf i).toNat)
    case atStart => exact ⟨0,Nat.zero_le _,rfl,rfl,Below.refl _ _⟩
    case round =>
      obtain ⟨k,hk,rfl,hf,hB⟩:=hrel
      by_cases hlt : k < xs.length
      · have hky : k < ys.length:=by omega
        obtain ⟨b,off,rfl,hb,a0,a1⟩:=ce_cells (SlV.below hs hB) (List.getElem?_eq_getElem hlt)
        obtain ⟨b',off',rfl,hb',c0,c1⟩:=ce_cells (SlV.below ht hB) (List.getElem?_eq_getElem hky)
        have T1:=Lib.hid (List.take_succ_eq_append_getElem (l:=xs) hlt)
        have T2:=Lib.hid (List.take_succ_eq_append_getElem (l:=ys) hky)
        have G1:=Lib.hid (List.getElem?_eq_getElem (l:=xs) hlt)
        have G2:=Lib.hid (List.getElem?_eq_getElem (l:=ys) hky)
        have HS:=Lib.hid hs;have HT:=Lib.hid ht
        clear hs ht
        generalize hx : xs[k] = x at *
        generalize hy : ys[k] = y at *
        clear hx hy
        obtain ⟨x1,x2⟩:=x
        obtain ⟨y1,y2⟩:=y
        dsimp only at a0 a1 c0 c1
        by_cases hxy : x1 = y1 ∧ x2 = y2
        · have h1 : sameC x1 x2 y1 y2 = true:=sameC_t.2 hxy
          have HXY:=Lib.hid hxy
          clear hxy
          go_wp2
          go_quiet (fail)
          go_wp2
          go_roundw
          case rel => exact ⟨k + 1,by omega,by go_num,by unfold Hid;rw [T1.out,T2.out,hf.out,HXY.out.1,HXY.out.2],below_drewN hB _⟩
          case measure => simp [intOf];omega
        · have h1 : sameC x1 x2 y1 y2 = false:=sameC_f.2 hxy
          have HXY:=Lib.hid hxy
          clear hxy
          go_wp2
          go_quiet (fail)
          go_wp2
          go_ret
          refine ⟨ret_b ?_,below_drewN hB _⟩
          refine (decide_eq_false fun e => HXY.out ?_).symm
          have:=G1.out;rw [e,G2.out] at this
          simpa [eq_comm] using this
      · obtain rfl : k = xs.length:=by omega
        have HE:=Lib.hid (show xs = ys by
          have:=hf.out
          rw [List.take_length,HL.out,List.take_length] at this
          exact this)
        go_wp2
        go_ret
        exact ⟨ret_b (decide_eq_true HE.out).symm,hB⟩
  · have hl1 : ((xs.length : Int) != (ys.length : Int)) = true:=bneT (by omega)
    have HL:=Lib.hid (show xs ≠ ys from fun e => hl (by rw [e]))
    clear hl hs ht
    go_enter Tryz.func30,Tryz.ntmps30
    go_wp2
    go_ret
    exact ⟨ret_b (decide_eq_false HL.out).symm,Below.refl _ _⟩
set_option maxHeartbeats 1000000 in
theorem samePath_c0 (xs ys : List (Int × Int)) (A B : Option Addr) (c d : Nat) (w : World) (hn : xs.length ≤ 100000) (hm : ys.length ≤ 100000) (hs : SlV w A (xs.flatMap ceV)) (ht : SlV w B (ys.flatMap ceV)) :
    Calls Tryz.prog 48 #[.slice A xs.length c,.slice B ys.length d] w fun e w' => e = .returned (.bool (decide (xs = ys))) ∧ Below w.heap.size w w':=by
  by_cases hl : xs.length = ys.length
  · have hl1 : ((xs.length : Int) != (ys.length : Int)) = false:=by simp [hl]
    have HL:=Lib.hid hl
    have hle : xs.length ≤ ys.length:=by omega
    have hle' : ys.length ≤ xs.length:=by omega
    clear hl
    go_enter Tryz.func48,Tryz.ntmps48
    go_wp2
    go_loopw [5] (fun i wr => ∃ k : Nat,k ≤ xs.length ∧ i = .int .i64 k ∧ Hid (xs.take k = ys.take k) ∧ Below w.heap.size w wr) (fun i _ => xs.length - (intOf i).toNat)
    case atStart => exact ⟨0,Nat.zero_le _,rfl,rfl,Below.refl _ _⟩
    case round =>
      obtain ⟨k,hk,rfl,hf,hB⟩:=hrel
      by_cases hlt : k < xs.length
      · have hky : k < ys.length:=by omega
        obtain ⟨b,off,rfl,hb,a0,a1⟩:=ce_cells (SlV.below hs hB) (List.getElem?_eq_getElem hlt)
        obtain ⟨b',off',rfl,hb',c0,c1⟩:=ce_cells (SlV.below ht hB) (List.getElem?_eq_getElem hky)
        have T1:=Lib.hid (List.take_succ_eq_append_getElem (l:=xs) hlt)
        have T2:=Lib.hid (List.take_succ_eq_append_getElem (l:=ys) hky)
        have G1:=Lib.hid (List.getElem?_eq_getElem (l:=xs) hlt)
        have G2:=Lib.hid (List.getElem?_eq_getElem (l:=ys) hky)
        have HS:=Lib.hid hs;have HT:=Lib.hid ht
        clear hs ht
        generalize hx : xs[k] = x at *
        generalize hy : ys[k] = y at *
        clear hx hy
        obtain ⟨x1,x2⟩:=x
        obtain ⟨y1,y2⟩:=y
        dsimp only at a0 a1 c0 c1
        by_cases hxy : x1 = y1 ∧ x2 = y2
        · have h1 : sameC x1 x2 y1 y2 = true:=sameC_t.2 hxy
          have HXY:=Lib.hid hxy
          clear hxy
          go_wp2
          go_quiet (fail)
          go_wp2
          go_roundw
          case rel => exact ⟨k + 1,by omega,by go_num,by unfold Hid;rw [T1.out,T2.out,hf.out,HXY.out.1,HXY.out.2],below_drewN hB _⟩
          case measure => simp [intOf];omega
        · have h1 : sameC x1 x2 y1 y2 = false:=sameC_f.2 hxy
          have HXY:=Lib.hid hxy
          clear hxy
          go_wp2
          go_quiet (fail)
          go_wp2
          go_ret
          refine ⟨ret_b ?_,below_drewN hB _⟩
          refine (decide_eq_false fun e => HXY.out ?_).symm
          have:=G1.out;rw [e,G2.out] at this
          simpa [eq_comm] using this
      · obtain rfl : k = xs.length:=by omega
        have HE:=Lib.hid (show xs = ys by
          have:=hf.out
          rw [List.take_length,HL.out,List.take_length] at this
          exact this)
        go_wp2
        go_ret
        exact ⟨ret_b (decide_eq_true HE.out).symm,hB⟩
  · have hl1 : ((xs.length : Int) != (ys.length : Int)) = true:=bneT (by omega)
    have HL:=Lib.hid (show xs ≠ ys from fun e => hl (by rw [e]))
    clear hl hs ht
    go_enter Tryz.func48,Tryz.ntmps48
    go_wp2
    go_ret
    exact ⟨ret_b (decide_eq_false HL.out).symm,Below.refl _ _⟩
theorem samePath_c (xs ys : List Mv) (A B : Option Addr) (c d : Nat) (w : World) (hn : xs.length ≤ 100000) (hm : ys.length ≤ 100000) (hs : SlV w A (xs.flatMap mvV)) (ht : SlV w B (ys.flatMap mvV)) :
    Calls Tryz.prog 48 #[.slice A xs.length c,.slice B ys.length d] w fun e w' => e = .returned (.bool (decide (xs = ys))) ∧ Below w.heap.size w w':=samePath_c0 xs ys A B c d w hn hm hs ht
end Go.Proofs.YtpnfgmgoafgcbaaGreat

/-
  What both CheckReached answer (chapter 6), in plain words.
  The reached poses of the reference are those that ReachedFrom finds (chapter 6), in plain words.
  The map of CheckReached holds what the reference looks up in the list (chapter 6), in plain words.
  What the first loop of CheckReached leaves behind (chapter 6), in plain words.
  The list of reached poses (chapter 6), in plain words.
-/
import Derived.Test.YtpnfgmgoafgcbaaGreatRMo
import Derived.Test.YtpnfgmgoafgcbaaGreatShP
import Derived.Test.YtpnfgmgoafgcbaaGreatA11
set_option linter.all false
set_option linter.unusedVariables false
namespace Go.Proofs.YtpnfgmgoafgcbaaGreat
open Go.RowKit Go.Shelf
/-- The first of k indices from i on at which f is not 0, with f's answer; (0, 0): there is none. -/
def ffE (f : Nat → Int) : Nat → Nat → Nat × Int
  | _,0 => (0,0)
  | i,k + 1 => if f i ≠ 0 then (i,f i) else ffE f (i + 1) k
theorem ffE_step {f : Nat → Int} {i n : Nat} (h : i < n) : ffE f i (n - i) = if f i ≠ 0 then (i,f i) else ffE f (i + 1) (n - (i + 1)):=by
  obtain ⟨k,e⟩ : ∃ k,n - i = k + 1:=⟨n - i - 1,by omega⟩
  rw [e,show n - (i + 1) = k by omega]
  rfl
theorem ffE_bad {f : Nat → Int} {i n : Nat} {R : Nat × Int} (h : i < n) (hR : ffE f i (n - i) = R) (h0 : f i ≠ 0) : R = (i,f i):=by
  rw [ffE_step h,if_pos h0] at hR
  exact hR.symm
theorem ffE_good {f : Nat → Int} {i n : Nat} {R : Nat × Int} (h : i < n) (hR : ffE f i (n - i) = R) (h0 : f i = 0) : ffE f (i + 1) (n - (i + 1)) = R:=by
  rw [ffE_step h,if_neg (by simp [h0])] at hR
  exact hR
def pm0 : PM:=((0,[]),0)
/-- The error of the reached pose i in itself. -/
def rcF (s : Sc) (p : Ps) (ys : List PM) (i : Nat) : Int :=
  fstE [ownE s (ys.getD i pm0).1,unl (decide (i = 0) || befS (ys.getD (i - 1) pm0).1 (ys.getD i pm0).1) 9,unl (freeP s (ys.getD i pm0).1) 17,
    unl (decide (0 ≤ (ys.getD i pm0).2) && (decide ((ys.getD i pm0).2 = 0) == decide ((ys.getD i pm0).1 = p))) 2]
/-- The error of a pose with its moves: mo: the moves of a pose, z: its own. -/
def crG (mo : Ps → Int) (z : Int) (nx : Mv → Ps) : List Mv → Bool → Int
  | [],b => if b then 0 else 19
  | m :: ms,b => if mo (nx m) < 0 then 21 else if mo (nx m) - 1 > z then 19 else crG mo z nx ms (b || decide (mo (nx m) = z - 1))
def rcG (s : Sc) (p : Ps) (ys : List PM) (i : Nat) : Int :=
  crG (mvoP ys) (ys.getD i pm0).2 (mvd (ys.getD i pm0).1) (mvs s (ys.getD i pm0).1) (decide ((ys.getD i pm0).1 = p))
def chR2 (s : Sc) (p : Ps) (ys : List PM) : Nat × Int:=if mvoP ys p < 0 then (0,6) else ffE (rcG s p ys) 0 ys.length
def chR1 (s : Sc) (p : Ps) (ys : List PM) : Nat × Int:=if (ffE (rcF s p ys) 0 ys.length).2 ≠ 0 then ffE (rcF s p ys) 0 ys.length else chR2 s p ys
def chR (s : Sc) (p : Ps) (ys : List PM) : Nat × Int:=if frE s p ≠ 0 then (0,frE s p) else chR1 s p ys
theorem getD_of {ys : List PM} {i : Nat} {y : PM} (h : ys[i]? = some y) : ys.getD i pm0 = y:=by simp [List.getD,h]
theorem rcF_at {s : Sc} {p : Ps} {ys : List PM} {i : Nat} {y : PM} (h : ys[i]? = some y) :
    rcF s p ys i = fstE [ownE s y.1,unl (decide (i = 0) || befS (ys.getD (i - 1) pm0).1 y.1) 9,unl (freeP s y.1) 17,unl (decide (0 ≤ y.2) && (decide (y.2 = 0) == decide (y.1 = p))) 2]:=by
  unfold rcF;rw [getD_of h]
theorem rcF_zero {s : Sc} {p : Ps} {ys : List PM} {i : Nat} {y : PM} (h : ys[i]? = some y) :
    rcF s p ys i = 0 ↔ ownE s y.1 = 0 ∧ (i = 0 ∨ befS (ys.getD (i - 1) pm0).1 y.1 = true) ∧ freeP s y.1 = true ∧ 0 ≤ y.2 ∧ (y.2 = 0 ↔ y.1 = p):=by
  rw [rcF_at h,fstE_zero]
  have e : (decide (y.2 = 0) == decide (y.1 = p)) = true ↔ (y.2 = 0 ↔ y.1 = p):=by
    by_cases h1 : y.2 = 0 <;> by_cases h2 : y.1 = p <;> simp [h1,h2]
  have u : ∀ {b : Bool} {e : Int},e ≠ 0 → (unl b e = 0 ↔ b = true):=fun h => unl_zero h
  simp only [List.mem_cons,List.not_mem_nil,or_false,forall_eq_or_imp,forall_eq,u (show (9 : Int) ≠ 0 by decide),u (show (17 : Int) ≠ 0 by decide),u (show (2 : Int) ≠ 0 by decide),Bool.or_eq_true,Bool.and_eq_true,decide_eq_true_eq,e]
theorem rcG_at {s : Sc} {p : Ps} {ys : List PM} {i : Nat} {y : PM} (h : ys[i]? = some y) : rcG s p ys i = crG (mvoP ys) y.2 (mvd y.1) (mvs s y.1) (decide (y.1 = p)):=by
  unfold rcG;rw [getD_of h]
theorem own_pok {s : Sc} {p : Ps} (h : ownE s p = 0) : POk s p:=by
  unfold ownE at h
  rw [fstE_zero] at h
  simp only [List.mem_cons,List.not_mem_nil,or_false,forall_eq_or_imp,forall_eq] at h
  obtain ⟨a,b,c⟩:=h
  rw [unl_zero (by decide)] at a b c
  exact ⟨by simpa [inB] using a,by simpa using b,c⟩
theorem mvoP_rng {l : List PM} {q : Ps} {a b : Int} (h : ∀ x ∈ l,a ≤ x.2 ∧ x.2 ≤ b) (ha : a ≤ -1) (hb : -1 ≤ b) : a ≤ mvoP l q ∧ mvoP l q ≤ b:=by
  unfold mvoP
  cases hf : l.find? fun x => decide (x.1 = q) with
  | none => exact ⟨ha,hb⟩
  | some y => exact h y (List.mem_of_find?_eq_some hf)
theorem crG_open {mo : Ps → Int} {z : Int} {nx : Mv → Ps} {m : Mv} {ms : List Mv} {b : Bool} (h : mo (nx m) < 0) : crG mo z nx (m :: ms) b = 21:=if_pos h
theorem crG_proof {mo : Ps → Int} {z : Int} {nx : Mv → Ps} {m : Mv} {ms : List Mv} {b : Bool} (h : ¬ mo (nx m) < 0) (h2 : mo (nx m) - 1 > z) : crG mo z nx (m :: ms) b = 19:=by
  unfold crG;rw [if_neg h,if_pos h2]
theorem crG_next {mo : Ps → Int} {z : Int} {nx : Mv → Ps} {m : Mv} {ms : List Mv} {b : Bool} (h : ¬ mo (nx m) < 0) (h2 : ¬ mo (nx m) - 1 > z) : crG mo z nx (m :: ms) b = crG mo z nx ms (b || decide (mo (nx m) = z - 1)):=by
  conv => lhs;unfold crG
  rw [if_neg h,if_neg h2]
end Go.Proofs.YtpnfgmgoafgcbaaGreat
set_option linter.unusedVariables false
namespace Go.Proofs.YtpnfgmgoafgcbaaGreat
open Go.RowKit Go.Shelf
theorem nodup_snd {α β : Type} {L : List (α × β)} (h : (L.map (·.1)).Nodup) {q : α} {c d : β} (hc : (q,c) ∈ L) (hd : (q,d) ∈ L) : c = d:=by
  obtain ⟨i,hi,e1⟩:=List.getElem_of_mem hc
  obtain ⟨j,hj,e2⟩:=List.getElem_of_mem hd
  have hij : i = j:=(List.getElem?_inj (l:=L.map (·.1)) (by simpa using hi) h).1 (by simp [hi,hj,e1,e2])
  subst hij
  rw [e1] at e2
  exact congrArg Prod.snd e2
theorem cmpI_lt0 {a b : Int} : cmpI a b < 0 ↔ a < b:=by unfold cmpI;split <;> (try split) <;> omega
theorem lexC_befL : ∀ P Q : List Int,befL P Q = decide (lexC P Q < 0)
  | [],[] => rfl
  | [],_ :: _ => rfl
  | _ :: _,[] => rfl
  | a :: P,b :: Q => by
    unfold befL lexC
    by_cases h : a = b
    · rw [if_neg (by simp [h]),if_pos (cmpI_zero.2 h)]
      exact lexC_befL P Q
    · rw [if_pos h,if_neg (fun e => h (cmpI_zero.1 e))]
      simp only [cmpI_lt0]
theorem befS_ordP (p q : Ps) : befS p q = decide (ordP p q < 0):=by
  unfold befS ordP
  by_cases h : p.1 = q.1
  · rw [if_pos h,fstE_cons,if_pos (cmpI_zero.2 h),fstE_cons,lexC_befL]
    by_cases h0 : lexC p.2 q.2 = 0
    · rw [if_pos h0,h0];rfl
    · rw [if_neg h0]
  · rw [if_neg h,fstE_cons,if_neg (fun e => h (cmpI_zero.1 e))]
    simp only [cmpI_lt0]
end Go.Proofs.YtpnfgmgoafgcbaaGreat
set_option linter.unusedVariables false
namespace Go.Proofs.YtpnfgmgoafgcbaaGreat
open Go.RowKit Go.Shelf
theorem lkp_mvo {s : Sc} (hS : SOk s) {q : Ps} (hq : POk s q) {ys : List PM} (hy : ∀ x ∈ ys,POk s x.1) (hn : (ys.map (·.1)).Nodup) (h0 : ∀ x ∈ ys,0 ≤ x.2) :
    lkp (entF ys).1 (kyP q) = if mvoP ys q < 0 then none else some (mvoP ys q):=by
  unfold mvoP
  cases hf : ys.find? fun x => decide (x.1 = q) with
  | none =>
    rw [if_pos (by simp [mvoF])]
    have h:=lkp_ent_none hS hq hy
    cases hl : lkp (entF ys).1 (kyP q) with
    | none => rfl
    | some c =>
      rw [hl] at h
      obtain ⟨x,hx,e⟩:=List.mem_map.1 (h.1 rfl)
      have:=List.find?_eq_none.1 hf x hx
      simp [e] at this
  | some y =>
    have hm:=List.mem_of_find?_eq_some hf
    have hb:=List.find?_some hf
    have e : y.1 = q:=by simpa using hb
    have h1:=h0 y hm
    rw [if_neg (by show ¬ y.2 < 0;omega)]
    exact (lkp_ent hS hq hy hn y.2).2 (by rw [← e];exact hm)
/-- Sorted strictly: the first ones have other poses. -/
theorem befS_irr (p : Ps) : befS p p = false:=by
  rw [befS_ordP,decide_eq_false]
  have:=ordP_zero.2 (rfl : p = p)
  omega
theorem befS_trans {p q r : Ps} (h1 : befS p q = true) (h2 : befS q r = true) : befS p r = true:=by
  rw [befS_ordP] at *
  simp only [decide_eq_true_eq] at *
  exact ordP_tr h1 h2
/-- Each of the first i poses comes before the pose i when each comes before the next. -/
theorem bef_all {ys : List PM} : ∀ {i : Nat} {x : PM},ys[i]? = some x → (∀ k,k < i → befS (ys.getD k pm0).1 (ys.getD (k + 1) pm0).1 = true) → ∀ k y,k < i → ys[k]? = some y → befS y.1 x.1 = true
  | 0,x,_,_,k,y,hk,_ => by omega
  | i + 1,x,hx,h,k,y,hk,hy => by
    have hi : i < ys.length:=by have:=(List.getElem?_eq_some_iff.1 hx).1;omega
    have hz : ys[i]? = some ys[i]:=List.getElem?_eq_getElem hi
    have h1:=h i (by omega)
    rw [getD_of hz,getD_of hx] at h1
    by_cases e : k = i
    · subst e
      rw [hy] at hz
      cases hz
      exact h1
    · exact befS_trans (bef_all hz (fun k hk => h k (by omega)) k y (by omega) hy) h1
end Go.Proofs.YtpnfgmgoafgcbaaGreat
set_option linter.unusedVariables false
namespace Go.Proofs.YtpnfgmgoafgcbaaGreat
open Go.RowKit Go.Shelf
/-- The map's entries of the first so many. -/
def ks (ys : List PM) (k : Nat) : List (Ky × Int):=(ys.take k).map fun x => (kyP x.1,x.2)
theorem ks_step {ys : List PM} {k : Nat} {y : PM} (h : ys[k]? = some y) : ks ys (k + 1) = ks ys k ++ [(kyP y.1,y.2)]:=by
  unfold ks
  rw [List.take_add_one,h]
  simp
theorem ks_all (ys : List PM) : ks ys ys.length = (entF ys).1:=by
  unfold ks entF
  rw [List.take_length]
theorem or_of_ord (p q : Ps) : decide (0 < ordP p q) = befS q p:=by
  rw [befS_ordP,ordP_neg]
  simp
theorem ord_eq0 (p q : Ps) : (ordP p q == 0) = decide (p = q):=by
  rw [Bool.eq_iff_iff]
  simp [ordP_zero]
theorem rc_bef {s : Sc} {p : Ps} {ys : List PM} {i : Nat} {x : PM} (h : ys[i]? = some x) (hz : ∀ j,j ≤ i → rcF s p ys j = 0) : ∀ k y,k < i → ys[k]? = some y → befS y.1 x.1 = true:=by
  refine bef_all h (fun k hk => ?_)
  have hi : i < ys.length:=(List.getElem?_eq_some_iff.1 h).1
  have h1 : ys[k + 1]? = some ys[k + 1]:=List.getElem?_eq_getElem (by omega)
  have h2:=(rcF_zero h1).1 (hz (k + 1) (by omega))
  rw [getD_of h1]
  rcases h2.2.1 with h3 | h3
  · omega
  · simpa using h3
theorem rc_ok {s : Sc} {p : Ps} {ys : List PM} {n : Nat} (hz : ∀ j,j < n → rcF s p ys j = 0) {k : Nat} {y : PM} (hk : k < n) (h : ys[k]? = some y) : POk s y.1 ∧ 0 ≤ y.2 ∧ (y.2 = 0 ↔ y.1 = p):=by
  have h2:=(rcF_zero h).1 (hz k hk)
  exact ⟨own_pok h2.1,h2.2.2.2.1,h2.2.2.2.2⟩
theorem rc_none {s : Sc} {p : Ps} {ys : List PM} {i : Nat} {x : PM} (hS : SOk s) (h : ys[i]? = some x) (hz : ∀ j,j ≤ i → rcF s p ys j = 0) : lkp (ks ys i) (kyP x.1) = none:=by
  refine lkp_none.2 fun hc => ?_
  simp only [ks,List.map_map,List.mem_map,Function.comp] at hc
  obtain ⟨y,hy,he⟩:=hc
  obtain ⟨j,hj,hjx⟩:=List.getElem_of_mem hy
  simp only [List.length_take] at hj
  have hj1 : ys[j]? = some y:=by
    rw [List.getElem_take] at hjx
    rw [List.getElem?_eq_getElem (by omega),hjx]
  have hxp:=(rc_ok (n:=i + 1) (fun j hj => hz j (by omega)) (by omega) h).1
  have hyp:=(rc_ok (n:=i + 1) (fun j hj => hz j (by omega)) (show j < i + 1 by omega) hj1).1
  have e : y.1 = x.1:=kyP_inj hS hyp hxp he
  have hb:=rc_bef h hz j y (by omega) hj1
  rw [e,befS_irr] at hb
  cases hb
theorem rc_nodup {s : Sc} {p : Ps} {ys : List PM} (hz : ∀ j,j < ys.length → rcF s p ys j = 0) : (ys.map (·.1)).Nodup:=by
  refine List.pairwise_iff_getElem.2 fun i j hi hj hij => ?_
  simp only [List.length_map] at hi hj
  rw [List.getElem_map,List.getElem_map]
  intro e
  have hb:=rc_bef (List.getElem?_eq_getElem hj) (fun k hk => hz k (by omega)) i ys[i] hij (List.getElem?_eq_getElem hi)
  rw [e,befS_irr] at hb
  cases hb
theorem rc_mo {s : Sc} {p : Ps} {ys : List PM} (hS : SOk s) (hz : ∀ j,j < ys.length → rcF s p ys j = 0) (q : Ps) (hq : POk s q) : lkp (ks ys ys.length) (kyP q) = if mvoP ys q < 0 then none else some (mvoP ys q):=by
  rw [ks_all]
  refine lkp_mvo hS hq (fun y hy => ?_) (rc_nodup hz) (fun y hy => ?_)
  · obtain ⟨j,hj,rfl⟩:=List.getElem_of_mem hy
    exact (rc_ok hz hj (List.getElem?_eq_getElem hj)).1
  · obtain ⟨j,hj,rfl⟩:=List.getElem_of_mem hy
    exact (rc_ok hz hj (List.getElem?_eq_getElem hj)).2.1
end Go.Proofs.YtpnfgmgoafgcbaaGreat
set_option linter.unusedVariables false
namespace Go.Proofs.YtpnfgmgoafgcbaaGreat
open Go.RowKit Go.Shelf
theorem rch_r {s : Sc} {p : Ps} (hS : SOk s) (hp : POk s p) (hf : freeP s p = true) : ∃ L,FlR s [p] L ∧ (rchL s p).Perm L:=by
  obtain ⟨L,hL⟩:=flood_r (b0:=[p]) hS (by simp) (fun q hq => by
    have : q = p:=by simpa using hq
    subst this
    exact ⟨hp,hf⟩)
  refine ⟨L,hL, ?_⟩
  have e : (floodP s [p]).2.map (fun q => (q,(lkp (floodP s [p]).1 (kyP q)).getD 0)) = L:=by
    rw [hL.eq]
    show (L.map (·.1)).map _ = L
    rw [List.map_map]
    conv => rhs;rw [← List.map_id L]
    refine List.map_congr_left fun x hx => ?_
    have h1:=(lkp_ent hS (hL.ok x hx).1 (fun y hy => (hL.ok y hy).1) hL.nd x.2).2 hx
    show (x.1,(lkp (entF L).1 (kyP x.1)).getD 0) = x
    rw [h1]
    rfl
  unfold rchL
  rw [e]
  exact sortR_perm L
end Go.Proofs.YtpnfgmgoafgcbaaGreat

/-
  A region that draws its order and stores, behind all its loads, into cells that it has loaded: the condition on the world is asked only as long as a given store has not come up.
-/
import Derived.Deep.RegionHeld
import Derived.Below
set_option linter.all false
set_option linter.unusedVariables false
namespace Go.Proofs.YtpnfgmgoafgcbaaGreat
section
variable {P : Program} {ops : Array Oper} {Q : Exit → Act → World → Prop} {md : Region.Mode} {S : World → Prop} {k0 : Nat}
/-- Whatever order is picked from here on; S holds behind every operation as long as number k0 has not come up. -/
def wpAnyL (P : Program) (md : Region.Mode) (ops : Array Oper) (Q : Exit → Act → World → Prop) (S : World → Prop) (k0 : Nat) : Nat → Array Bool → Act → World → Prop
  | 0,listed,a,w => Region.ready md ops listed = [] ∧ Q .normal a w
  | fuel + 1,listed,a,w =>
    (Region.ready md ops listed = [] → Q .normal a w) ∧
    ∀ i ∈ Region.ready md ops listed,wpOp P ops Q i (fun a' w' => ((listed.setIfInBounds i true).getD k0 true = false → S w') ∧ wpAnyL P md ops Q S k0 fuel (listed.setIfInBounds i true) a' w') a w
theorem wpAny_of_late : ∀ (fuel : Nat) (listed : Array Bool) (a : Act) (w : World),wpAnyL P md ops Q S k0 fuel listed a w → wpAny P md ops Q fuel listed a w
  | 0,_,_,_,h => h
  | fuel + 1,_,_,_,h => ⟨h.1,fun i hi => wpOp_mono (fun a' w' h' => wpAny_of_late fuel _ a' w' h'.2) (h.2 i hi)⟩
theorem wpAnyL_first {i : Nat} {oi : Oper} {v : Value} {T : World → Prop} {I : Array Bool → Prop} (hik : i ≠ k0) (hi : ops[i]? = some oi) (hsel : ∀ (j : Nat) (o : Oper) cs b,ops[j]? = some o → o.op ≠ .select cs b)
    (hQ : ∀ c a w,Q (.panic c) (a.put oi.dst v) w → Q (.panic c) a w)
    (hI : ∀ (listed : Array Bool) (j : Nat) (w : World),I listed → i ∈ Region.ready md ops listed → j ∈ Region.ready md ops listed → j ≠ i → ((listed.setIfInBounds j true).getD k0 true = false → S w) → I (listed.setIfInBounds j true) ∧ T w) :
    ∀ (fuel : Nat) (listed : Array Bool) (a : Act) (w : World),
      (∀ j oj,ops[j]? = some oj → j ≠ i → listed.getD j true = false → (∀ e ∈ oj.after,Region.binds md e = true → e.on ≠ i) → oi.apart ops oj = true) →
      i ∈ Region.ready md ops listed → YieldsIf P ops T oi v a → I listed → T w → (listed.getD k0 true = false → S w) →
      wpAnyL P md ops Q S k0 fuel (listed.setIfInBounds i true) (a.put oi.dst v) w → wpAnyL P md ops Q S k0 (fuel + 1) listed a w:=by
  intro fuel
  have flag : ∀ (l : Array Bool),(l.setIfInBounds i true).getD k0 true = l.getD k0 true:=fun l => getD_set_ne true hik
  induction fuel with
  | zero =>
    intro listed a w _ hr hy _ hT hS H
    refine ⟨fun h => (by rw [h] at hr;cases hr),fun j hj => ?_⟩
    by_cases hji : j = i
    · subst hji;exact hy.wpOp hi hT ⟨by rw [flag];exact hS,H⟩
    · have:=ready_mono hj hji
      rw [H.1] at this
      cases this
  | succ fuel ih =>
    intro listed a w hfree hr hy hIl hT hS H
    refine ⟨fun h => (by rw [h] at hr;cases hr),fun j hj => ?_⟩
    by_cases hji : j = i
    · subst hji;exact hy.wpOp hi hT ⟨by rw [flag];exact hS,H⟩
    · have h1:=H.2 j (ready_mono hj hji)
      obtain ⟨hjun,oj,hoj,hall⟩:=mem_ready.1 hj
      have hnot : ∀ e ∈ oj.after,Region.binds md e = true → e.on ≠ i:=fun e he hb heq => by
        have h1:=hall e he hb
        have h0:=(mem_ready.1 hr).1
        rw [heq] at h1
        rcases Nat.lt_or_ge i listed.size with h' | h'
        · simp [h'] at h0 h1;rw [h0] at h1;cases h1
        · simp [Array.getElem?_eq_none h'] at h1
      have h2:=wpOp_putIf hoj (hfree j oj hoj hji hjun hnot) (fun cs b => hsel i oi cs b hi) (fun cs b => hsel j oj cs b hoj) hQ hy h1
      have hfree' : ∀ k ok,ops[k]? = some ok → k ≠ i → (listed.setIfInBounds j true).getD k true = false →
          (∀ e ∈ ok.after,Region.binds md e = true → e.on ≠ i) → oi.apart ops ok = true:=fun k ok hk hki hun hno => by
        refine hfree k ok hk hki ?_ hno
        by_cases hjk : j = k
        · subst hjk;exact hjun
        · rw [getD_set_ne true hjk] at hun;exact hun
      refine wpOp_mono (fun a' w' h3 => ?_) h2
      have hSn : (listed.setIfInBounds j true).getD k0 true = false → S w':=fun hf => h3.2.1 (by
        rw [Array.setIfInBounds_comm _ _ (Ne.symm hji),flag]
        exact hf)
      obtain ⟨hI2,hT2⟩:=hI listed j w' hIl hr hj hji hSn
      refine ⟨hSn,ih (listed.setIfInBounds j true) a' w' hfree' (ready_mono hr (Ne.symm hji)) h3.1 hI2 hT2 hSn ?_⟩
      rw [Array.setIfInBounds_comm _ _ hji]
      exact h3.2.2
/-- Whether number k0 waits for number i. -/
def waits (md : Region.Mode) (ops : Array Oper) (k0 i : Nat) : Bool:=match ops[k0]? with
  | some o => o.after.any fun e => Region.binds md e && e.on == i
  | none => false
/-- A load may be taken first, while the store that waits for it has not come up. -/
theorem wpAnyL_take {i : Nat} {oi : Oper} {v : Value} {fuel : Nat} {listed : Array Bool} {a : Act} {w : World} (hi : ops[i]? = some oi)
    (hs : Region.noSelect ops = true) (hf : Region.free md ops listed i = true) (hr : (Region.ready md ops listed).contains i = true) (hw : waits md ops k0 i = true) (hik : (i != k0) = true) (hk : listed.getD k0 true = false)
    (hQ : ∀ c a w,Q (.panic c) (a.put oi.dst v) w → Q (.panic c) a w) (hy : YieldsIf P ops S oi v a) (hS : S w)
    (h : wpAnyL P md ops Q S k0 fuel (listed.setIfInBounds i true) (a.put oi.dst v) w) : wpAnyL P md ops Q S k0 (fuel + 1) listed a w:=by
  refine wpAnyL_first (T:=S) (I:=fun l => l.getD k0 true = false) (by simpa using hik) hi (Region.noSelect_spec hs) hQ ?_ fuel listed a w (Region.free_spec hi hf) (by simpa using hr) hy hk hS (fun _ => hS) h
  intro l j w' hl hir hj hji hSw
  have hjk : j ≠ k0:=fun e => by
    subst e
    obtain ⟨_,oj,hoj,hall⟩:=mem_ready.1 hj
    unfold waits at hw
    rw [hoj] at hw
    obtain ⟨e,he,hb⟩:=Array.any_eq_true'.1 hw
    simp only [Bool.and_eq_true,beq_iff_eq] at hb
    have h1:=hall e he hb.1
    have h0:=(mem_ready.1 hir).1
    rw [hb.2] at h1
    rcases Nat.lt_or_ge i l.size with h' | h'
    · simp [h'] at h0 h1;rw [h0] at h1;cases h1
    · simp [Array.getElem?_eq_none h'] at h1
  have hfl : (l.setIfInBounds j true).getD k0 true = false:=by rw [getD_set_ne true hjk];exact hl
  exact ⟨hfl,hSw hfl⟩
/-- What yields in every world may be taken first at any time. -/
theorem wpAnyL_pure {i : Nat} {oi : Oper} {v : Value} {fuel : Nat} {listed : Array Bool} {a : Act} {w : World} (hi : ops[i]? = some oi)
    (hs : Region.noSelect ops = true) (hf : Region.free md ops listed i = true) (hr : (Region.ready md ops listed).contains i = true) (hik : (i != k0) = true)
    (hQ : ∀ c a w,Q (.panic c) (a.put oi.dst v) w → Q (.panic c) a w) (hy : YieldsIf P ops (fun _ => True) oi v a) (hS : listed.getD k0 true = false → S w)
    (h : wpAnyL P md ops Q S k0 fuel (listed.setIfInBounds i true) (a.put oi.dst v) w) : wpAnyL P md ops Q S k0 (fuel + 1) listed a w :=
  wpAnyL_first (T:=fun _ => True) (I:=fun _ => True) (by simpa using hik) hi (Region.noSelect_spec hs) hQ (fun _ _ _ _ _ _ _ _ => ⟨trivial,trivial⟩) fuel listed a w (Region.free_spec hi hf) (by simpa using hr) hy trivial trivial hS h
theorem wpAnyL_done {listed : Array Bool} {a : Act} {w : World} (hr : Region.ready md ops listed = []) (h : Q .normal a w) :
    ∀ fuel,wpAnyL P md ops Q S k0 fuel listed a w
  | 0 => ⟨hr,h⟩
  | _ + 1 => ⟨fun _ => h,by rw [hr];simp⟩
/-- Each of those that may come up is walked. -/
def AllReadyL (P : Program) (md : Region.Mode) (ops : Array Oper) (Q : Exit → Act → World → Prop) (S : World → Prop) (k0 fuel : Nat) (listed : Array Bool) (a : Act) (w : World) (rs : List Nat) : Prop :=
  ∀ i ∈ rs,wpOp P ops Q i (fun a' w' => ((listed.setIfInBounds i true).getD k0 true = false → S w') ∧ wpAnyL P md ops Q S k0 fuel (listed.setIfInBounds i true) a' w') a w
theorem AllReadyL.nil {fuel : Nat} {listed : Array Bool} {a : Act} {w : World} : AllReadyL P md ops Q S k0 fuel listed a w []:=fun _ h => by cases h
/-- One of them, while k0 has not come up behind it: S is to be shown anew. -/
theorem AllReadyL.cons {fuel : Nat} {listed : Array Bool} {a : Act} {w : World} {i : Nat} {o : Oper} {rs : List Nat} (ho : ops[i]? = some o)
    (h : ∀ K' : Act → World → Prop,Shut (∀ a w,S w → (S w → wpAnyL P md ops Q S k0 fuel (listed.setIfInBounds i true) a w) → K' a w) → if Region.wanted o (yielded ops a.tmps) = true then Oper.wp P o a w K' Q else K' (a.put o.dst undef) w)
    (hs : AllReadyL P md ops Q S k0 fuel listed a w rs) : AllReadyL P md ops Q S k0 fuel listed a w (i :: rs):=fun j hj => by
  rcases List.mem_cons.1 hj with rfl | hj
  · exact wpOp_step ho (fun K' hK => h K' (fun a w hS hW => hK a w ⟨fun _ => hS,hW hS⟩))
  · exact hs j hj
/-- One of them that is k0 or comes behind it. -/
theorem AllReadyL.late {fuel : Nat} {listed : Array Bool} {a : Act} {w : World} {i : Nat} {o : Oper} {rs : List Nat} (ho : ops[i]? = some o) (hfl : (listed.setIfInBounds i true).getD k0 true = true)
    (h : ∀ K' : Act → World → Prop,Shut (∀ a w,True → (True → wpAnyL P md ops Q S k0 fuel (listed.setIfInBounds i true) a w) → K' a w) → if Region.wanted o (yielded ops a.tmps) = true then Oper.wp P o a w K' Q else K' (a.put o.dst undef) w)
    (hs : AllReadyL P md ops Q S k0 fuel listed a w rs) : AllReadyL P md ops Q S k0 fuel listed a w (i :: rs):=fun j hj => by
  rcases List.mem_cons.1 hj with rfl | hj
  · exact wpOp_step ho (fun K' hK => h K' (fun a w hS hW => hK a w ⟨fun hf => (by rw [hfl] at hf;cases hf),hW hS⟩))
  · exact hs j hj
theorem wpAnyL_ready {rs : List Nat} {fuel : Nat} {listed : Array Bool} {a : Act} {w : World} (hr : Region.ready md ops listed = rs) (hne : rs ≠ [])
    (h : AllReadyL P md ops Q S k0 fuel listed a w rs) : wpAnyL P md ops Q S k0 (fuel + 1) listed a w:=⟨fun h0 => absurd (hr ▸ h0) hne,hr ▸ h⟩
theorem late_absurd {b : Bool} {p : Prop} (h : b = true) : b = false → p:=fun hf => by rw [h] at hf;cases hf
/-- The same steps with their side conditions proved by default. -/
theorem laN (i : Nat) {oi : Oper} {v : Value} {fuel : Nat} {listed : Array Bool} {a a' : Act} {w : World} (hi : ops[i]? = some oi)
    (h : wpAnyL P md ops Q S k0 fuel (listed.setIfInBounds i true) a' w) (hy : ∀ w',True → (execOp a.eval oi).run P w' = .ok (.value v) w':=by intro w' _;go_simp;(try with_reducible rfl)) (ha : a.put oi.dst v = a':=by first | (simp only [Act.put,pqs];done) | (simp only [Act.put,pqs];rfl))
    (hS : listed.getD k0 true = false → S w:=by first | exact (fun _ => hHeld) | exact late_absurd (by kernel_rfl))
    (hs : Region.noSelect ops = true:=by first | decide +kernel | kernel_rfl) (hf : Region.free md ops listed i = true:=by first | decide +kernel | kernel_rfl) (hr : (Region.ready md ops listed).contains i = true:=by first | decide +kernel | kernel_rfl) (hik : (i != k0) = true:=by first | decide +kernel | kernel_rfl) (hw : Region.wanted oi (yielded ops a.tmps) = true:=by first | decide +kernel | kernel_rfl)
    (hQ : ∀ c a w,Q (.panic c) (a.put oi.dst v) w → Q (.panic c) a w:=by first | exact fun _ _ _ h => h | exact fun _ _ _ h => nomatch h.1) : wpAnyL P md ops Q S k0 (fuel + 1) listed a w:=wpAnyL_pure hi hs hf hr hik hQ (.inl ⟨hw,hy⟩) hS (ha ▸ h)
theorem laL (i : Nat) {T : World → Prop} (hT : Go.RowKit.Hid (∀ w',S w' → T w')) {oi : Oper} {v : Value} {fuel : Nat} {listed : Array Bool} {a a' : Act} {w : World} (hi : ops[i]? = some oi)
    (h : wpAnyL P md ops Q S k0 fuel (listed.setIfInBounds i true) a' w) (hy : ∀ w',T w' → (execOp a.eval oi).run P w' = .ok (.value v) w':=by intro w' hSw;(try dsimp only at hSw);go_simp;(try with_reducible rfl)) (ha : a.put oi.dst v = a':=by first | (simp only [Act.put,pqs];done) | (simp only [Act.put,pqs];rfl)) (hS : S w:=by exact hHeld)
    (hs : Region.noSelect ops = true:=by first | decide +kernel | kernel_rfl) (hf : Region.free md ops listed i = true:=by first | decide +kernel | kernel_rfl) (hr : (Region.ready md ops listed).contains i = true:=by first | decide +kernel | kernel_rfl) (hw : waits md ops k0 i = true:=by first | decide +kernel | kernel_rfl) (hik : (i != k0) = true:=by first | decide +kernel | kernel_rfl) (hk : listed.getD k0 true = false:=by first | decide +kernel | kernel_rfl) (hwn : Region.wanted oi (yielded ops a.tmps) = true:=by first | decide +kernel | kernel_rfl)
    (hQ : ∀ c a w,Q (.panic c) (a.put oi.dst v) w → Q (.panic c) a w:=by first | exact fun _ _ _ h => h | exact fun _ _ _ h => nomatch h.1) : wpAnyL P md ops Q S k0 (fuel + 1) listed a w:=wpAnyL_take hi hs hf hr hw hik hk hQ (.inl ⟨hwn,fun w' h => hy w' (hT.out w' h)⟩) hS (ha ▸ h)
theorem laC (i : Nat) {o : Oper} {fuel : Nat} {listed : Array Bool} {a : Act} {w : World} (ho : ops[i]? = some o)
    (h : ∀ K' : Act → World → Prop,Shut (∀ a w,S w → (S w → wpAnyL P md ops Q S k0 fuel (listed.setIfInBounds i true) a w) → K' a w) → if Region.wanted o (yielded ops a.tmps) = true then Oper.wp P o a w K' Q else K' (a.put o.dst undef) w)
    (hr : Region.ready md ops listed = [i]:=by first | decide +kernel | kernel_rfl) : wpAnyL P md ops Q S k0 (fuel + 1) listed a w:=wpAnyL_ready hr (by simp) (AllReadyL.cons ho h AllReadyL.nil)
theorem laD (i : Nat) {o : Oper} {fuel : Nat} {listed : Array Bool} {a : Act} {w : World} (ho : ops[i]? = some o)
    (h : ∀ K' : Act → World → Prop,Shut (∀ a w,True → (True → wpAnyL P md ops Q S k0 fuel (listed.setIfInBounds i true) a w) → K' a w) → if Region.wanted o (yielded ops a.tmps) = true then Oper.wp P o a w K' Q else K' (a.put o.dst undef) w)
    (hr : Region.ready md ops listed = [i]:=by first | decide +kernel | kernel_rfl) (hfl : (listed.setIfInBounds i true).getD k0 true = true:=by first | decide +kernel | kernel_rfl) : wpAnyL P md ops Q S k0 (fuel + 1) listed a w:=wpAnyL_ready hr (by simp) (AllReadyL.late ho hfl h AllReadyL.nil)
theorem wp_region_late {id : Nat} {a : Act} {w : World} (k0 : Nat) (hm : P.follows .mixedOrders = true) (hS : S w.drew)
    (h : S w.drew → wpAnyL P .any ops Q S k0 ops.size (Array.replicate ops.size false) a w.drew) : (Code.region id ops true).wp P Q a w:=by
  have h2:=h hS
  refine wp_region_any hm ?_
  exact wpAny_of_late _ _ _ _ h2
theorem lateR {P : Program} {ops : Array Oper} {S : World → Prop} {R : Act → World → Prop} {a : Act} {w : World} (k0 : Nat) (hS : S w)
    (h : S w → wpAnyL P .any ops (fun e a w => e = Exit.normal ∧ R a w) S k0 ops.size (Array.replicate ops.size false) a w) : wpAny P .any ops (fun e a w => e = Exit.normal ∧ R a w) ops.size (Array.replicate ops.size false) a w :=
  wpAny_of_late _ _ _ _ (h hS)
end
end Go.Proofs.YtpnfgmgoafgcbaaGreat

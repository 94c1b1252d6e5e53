/-
  The reference's search and the shortest paths (chapter 6), in plain words: the path that falls along the flood's numbers is the one that the search keeps.
-/
import Derived.Test.YtpnfgmgoafgcbaaGreatA10
import Derived.Test.YtpnfgmgoafgcbaaGreatDn3
set_option linter.unusedVariables false
namespace Go.Proofs.YtpnfgmgoafgcbaaGreat

def exP (p : List Mv) (m : Mv) : List Mv := p ++ [m]
def ltm (a b : Mv) : Prop := a.1 < b.1 ∨ (a.1 = b.1 ∧ a.2 < b.2)
/-- Lexicographic order of paths that are equally long. -/
def lexP : List Mv → List Mv → Prop
  | a :: l, b :: r => ltm a b ∨ (a = b ∧ lexP l r)
  | _, _ => False
def ltP (a b : List Mv) : Prop := a.length < b.length ∨ (a.length = b.length ∧ lexP a b)
theorem ltm_tr {a b c : Mv} (h : ltm a b) (k : ltm b c) : ltm a c := by unfold ltm at *; omega
theorem ltm_irr {a : Mv} (h : ltm a a) : False := by unfold ltm at h; omega
theorem lexP_tr : ∀ {a b c : List Mv}, lexP a b → lexP b c → lexP a c
  | [], _, _, h, _ => h.elim
  | _ :: _, [], _, h, _ => h.elim
  | _ :: _, _ :: _, [], _, k => k.elim
  | a :: l, b :: m, c :: r, h, k => by
    rcases h with h | ⟨rfl, h⟩
    · rcases k with k | ⟨rfl, k⟩
      · exact .inl (ltm_tr h k)
      · exact .inl h
    · rcases k with k | ⟨rfl, k⟩
      · exact .inl k
      · exact .inr ⟨rfl, lexP_tr h k⟩
theorem lexP_irr : ∀ {a : List Mv}, lexP a a → False
  | [], h => h
  | a :: l, h => by
    rcases h with h | ⟨_, h⟩
    · exact ltm_irr h
    · exact lexP_irr h
theorem lexP_app : ∀ {a b : List Mv} (m m' : Mv), lexP a b → lexP (a ++ [m]) (b ++ [m'])
  | [], _, _, _, h => h.elim
  | _ :: _, [], _, _, h => h.elim
  | a :: l, b :: r, m, m', h => by
    rcases h with h | ⟨rfl, h⟩
    · exact .inl h
    · exact .inr ⟨rfl, lexP_app m m' h⟩
theorem lexP_last : ∀ (a : List Mv) {m m' : Mv}, ltm m m' → lexP (a ++ [m]) (a ++ [m'])
  | [], _, _, h => .inl h
  | _ :: l, _, _, h => .inr ⟨rfl, lexP_last l h⟩
theorem ordQ : OrdB exP ltP ltm where
  tr := fun {a b c} h k => by
    rcases h with h | ⟨h, h'⟩
    · rcases k with k | ⟨k, _⟩ <;> exact .inl (by omega)
    · rcases k with k | ⟨k, k'⟩
      · exact .inl (by omega)
      · exact .inr ⟨h.trans k, lexP_tr h' k'⟩
  mono := fun {a b} m m' h => by
    unfold exP
    rcases h with h | ⟨h, h'⟩
    · exact .inl (by simp; omega)
    · exact .inr ⟨by simp [h], lexP_app m m' h'⟩
  last := fun a {m m'} h => .inr ⟨by simp [exP], lexP_last a h⟩
  up := fun a m => .inl (by simp [exP])
theorem allM_srt (s : Sc) : (allM s).Pairwise ltm := by
  unfold allM
  generalize s.L.length + 1 = n
  induction n with
  | zero => simp
  | succ n ih =>
    rw [List.range_succ, List.flatMap_append, List.pairwise_append]
    refine ⟨ih, ?_, fun a ha b hb => ?_⟩
    · simp [ltm]
    · simp only [List.mem_flatMap, List.mem_range, List.mem_cons, List.not_mem_nil, or_false] at ha hb
      obtain ⟨j, hj, ha⟩ := ha
      obtain ⟨k, hk, hb⟩ := hb
      have hk : k = n := by simpa using hk
      subst hk
      rcases ha with rfl | rfl <;> rcases hb with rfl | rfl <;> exact .inl (by simp; omega)
theorem allK_srt (s : Sc) (p : Ps) : (allK s p).Pairwise fun a b => ltm a.1 b.1 := by
  unfold allK mvs
  rw [List.pairwise_map]
  exact (allM_srt s).filter _

/-- What the search finds, in order: the poses with the least path to each. -/
def srP (s : Sc) (p : Ps) : List (Ps × List Mv) := runB exP (allK s) ((alP s).length + 1) 0 [(p, [])]
structure SrR (s : Sc) (p : Ps) (L : List (Ps × List Mv)) : Prop where
  nd : (L.map (·.1)).Nodup
  srt : ∀ (j k : Nat) (x y : Ps × List Mv), j < k → L[j]? = some x → L[k]? = some y → ltP x.2 y.2
  ok : ∀ x ∈ L, POk s x.1 ∧ freeP s x.1 = true ∧ Lds (allK s) p x.2 x.1
  all : ∀ q z, Lds (allK s) p q z → ∃ c, (z, c) ∈ L ∧ (ltP c q ∨ c = q)
theorem foldl_exP : ∀ (p a : List Mv), p.foldl exP a = a ++ p
  | [], a => by simp
  | m :: p, a => by simp only [List.foldl_cons, foldl_exP p, exP, List.append_assoc, List.singleton_append]
theorem srP_r {s : Sc} {p : Ps} (hp : POk s p) (hf : freeP s p = true) : SrR s p (srP s p) := by
  have B0 : BfB exP (allK s) ltP [p] (fun x c => POk s x ∧ freeP s x = true ∧ Lds (allK s) p c x) [(p, ([] : List Mv))] 0 (nxB (allK s) [(p, ([] : List Mv))] 0) := by
    refine ⟨by simp, fun j k x y hjk hx hy => ?_, fun j m y hy hj k x hx => ?_, fun j y m q hy hmq hj => ?_, fun x hx => ?_, by simp⟩
    · have := (List.getElem?_eq_some_iff.1 hy).1
      simp at this; omega
    · have h1 := (List.getElem?_eq_some_iff.1 hx).1
      have h2 := (List.getElem?_eq_some_iff.1 hy).1
      simp at h1 h2
      subst h1 h2
      simp at hx hy
      subst hx hy
      exact ordQ.up _ _
    · rcases hj with hj | ⟨rfl, hj⟩
      · omega
      · rw [nxB_some hy] at hj
        exact absurd hmq hj
    · have : x = (p, []) := by simpa using hx
      subst this
      exact ⟨hp, hf, Lds.nil p⟩
  obtain ⟨i, hi, B⟩ := BfB.run ordQ (ok := fun x c => POk s x ∧ freeP s x = true ∧ Lds (allK s) p c x) (fun x c m q h hm => ⟨(allK_ok h.1 hm).1, (allK_ok h.1 hm).2, Lds.snoc h.2.2 hm⟩) (fun x _ _ => allK_srt s x) (N := (alP s).length)
    (fun L h1 h2 => by
      have := nodup_le (L.map (·.1)) (alP s) h1 (fun p hp => by obtain ⟨x, hx, rfl⟩ := List.mem_map.1 hp; exact mem_alP (h2 x hx).1)
      simpa using this)
    ((alP s).length + 1) 0 [(p, [])] (by omega) B0
  refine ⟨B.nd, B.srt, B.ok, fun q z h => ?_⟩
  have := B.whole ordQ hi (e0 := []) (fun b hb => by
    have : b = p := by simpa using hb
    subst this
    exact (runB_pre _ _ _ _ _).subset (by simp)) (b := p) (by simp) h
  rw [foldl_exP] at this
  exact this
theorem Lds.back {s : Sc} (hS : SOk s) {x z : Ps} {q : List Mv} (h : Lds (allK s) x q z) (hx : POk s x) (hf : freeP s x = true) : (∃ r, r.length = q.length ∧ Lds (allK s) z r x) ∧ POk s z ∧ freeP s z = true := by
  induction h with
  | nil => exact ⟨⟨[], rfl, Lds.nil _⟩, hx, hf⟩
  | snoc h hm ih =>
    obtain ⟨⟨r, hr, hl⟩, h1, h2⟩ := ih
    have h3 := allK_ok h1 hm
    exact ⟨⟨inv _ :: r, by simp [hr], Lds.cons (allK_back hS h1 h2 hm) hl⟩, h3.1, h3.2⟩
theorem find_first {α : Type} {R : α → α → Prop} {f : α → Bool} : ∀ {l : List α} {x y : α}, l.Pairwise R → l.find? f = some x → y ∈ l → f y = true → x = y ∨ R x y
  | [], _, _, _, h, _, _ => by cases h
  | a :: l, x, y, hp, h, hy, hfy => by
    have hp := List.pairwise_cons.1 hp
    by_cases ha : f a = true
    · have e : a = x := by simpa [ha] using h
      subst e
      rcases List.mem_cons.1 hy with rfl | hy
      · exact .inl rfl
      · exact .inr (hp.1 y hy)
    · have e : l.find? f = some x := by simpa [ha] using h
      rcases List.mem_cons.1 hy with rfl | hy
      · exact absurd hfy ha
      · exact find_first hp.2 e hy hfy
/-- The way downhill: as long as its number says, and first among all that are. -/
theorem dnP_least {s : Sc} {b0 : List Ps} {L : List (Ps × Int)} (hS : SOk s) (hb : ∀ b ∈ b0, POk s b ∧ freeP s b = true) (h : FlR s b0 L) : ∀ (n : Nat) (p : Ps), (p, (n : Int)) ∈ L →
    (∃ e ∈ b0, Lds (allK s) p (dnP s (floodP s b0).1 n p) e) ∧ (dnP s (floodP s b0).1 n p).length = n ∧ ∀ q z, z ∈ b0 → Lds (allK s) p q z → q.length = n → dnP s (floodP s b0).1 n p = q ∨ lexP (dnP s (floodP s b0).1 n p) q
  | 0, p, hp => by
    obtain ⟨_, _, b, hbb, r, hr, hl⟩ := h.ok _ hp
    dsimp only at hr hl
    have e : r = [] := List.length_eq_zero_iff.1 (by omega)
    subst e
    have e := hr.nil_eq
    subst e
    refine ⟨⟨b, hbb, Lds.nil b⟩, rfl, fun q z _ _ hq => .inl ?_⟩
    rw [List.length_eq_zero_iff.1 hq]
    rfl
  | n + 1, p, hp => by
    have hpo := h.ok _ hp
    obtain ⟨m, y, hm, hy⟩ := h.hill hS hp (by omega)
    have hnear : ∀ (m' : Mv) (y' : Ps), (m', y') ∈ allK s p → (nearer (floodP s b0).1 ((n + 1 : Nat) : Int) (m', y') = true ↔ (y', (n : Int)) ∈ L) := fun m' y' hm' => by
      unfold nearer
      rw [show ((n + 1 : Nat) : Int) - 1 = n by omega, beq_iff_eq]
      exact h.lk hS (allK_ok hpo.1 hm').1 _
    have hex : ∃ x0, (allK s p).find? (nearer (floodP s b0).1 ((n + 1 : Nat) : Int)) = some x0 := by
      cases hf : (allK s p).find? (nearer (floodP s b0).1 ((n + 1 : Nat) : Int)) with
      | some x0 => exact ⟨x0, rfl⟩
      | none =>
        have := List.find?_eq_none.1 hf (m, y) hm
        exact absurd ((hnear m y hm).2 (by rw [show ((n + 1 : Nat) : Int) - 1 = n by omega] at hy; exact hy)) this
    obtain ⟨⟨m0, y0⟩, hf⟩ := hex
    have hmem := List.mem_of_find?_eq_some hf
    have hy0 := (hnear m0 y0 hmem).1 (List.find?_some hf)
    obtain ⟨⟨e, he, hl⟩, hlen, hmin⟩ := dnP_least hS hb h n y0 hy0
    rw [dnP_succ hf]
    refine ⟨⟨e, he, Lds.cons hmem hl⟩, by simp [hlen], fun q z hz hq hql => ?_⟩
    cases q with
    | nil => simp at hql
    | cons m' q =>
      obtain ⟨y', hm', hq'⟩ := hq.uncons
      have hql' : q.length = n := by simpa using hql
      have hyo := allK_ok hpo.1 hm'
      -- the node behind the first move is n away
      have hd : (y', (n : Int)) ∈ L := by
        obtain ⟨⟨r, hr, hrl⟩, _, _⟩ := Lds.back hS hq' hyo.1 hyo.2
        obtain ⟨c, hc, hcl⟩ := h.all z hz r y' hrl
        obtain ⟨_, _, b', hb', r', hr', hl'⟩ := h.ok _ hc
        obtain ⟨c', hc', hcl'⟩ := h.all b' hb' _ _ (Lds.snoc hr' (allK_back hS hpo.1 hpo.2.1 hm'))
        have e1 := h.one hp hc'
        simp only [List.length_append, List.length_cons, List.length_nil] at hcl'
        dsimp only at hl'
        have : c = (n : Int) := by omega
        subst this
        exact hc
      rcases find_first (allK_srt s p) hf hm' ((hnear m' y' hm').2 hd) with e1 | e1
      · cases e1
        rcases hmin q z hz hq' hql' with e2 | e2
        · exact .inl (by rw [e2])
        · exact .inr (.inr ⟨rfl, e2⟩)
      · exact .inr (.inl e1)

/-- What the search answers for the first of the poses that something holds of. -/
def srF (s : Sc) (p : Ps) (f : Ps → Bool) : Option (List Mv) := ((srP s p).find? fun x => f x.1).map (·.2)
/-- The way downhill to poses of a kind is what the search keeps for the first of them. -/
theorem short_is {s : Sc} {p : Ps} {b0 : List Ps} {f : Ps → Bool} (hS : SOk s) (hp : POk s p) (hf : freeP s p = true) (hb : ∀ b ∈ b0, POk s b ∧ freeP s b = true) (hn : b0.Nodup)
    (hb1 : ∀ b ∈ b0, f b = true) (hb2 : ∀ q z, Lds (allK s) p q z → f z = true → z ∈ b0) : dnR s (floodP s b0).1 p = (match srF s p f with | some c => (c, 0) | none => ([], 12)) := by
  obtain ⟨L, hL⟩ := flood_r hS hn hb
  have hs := srP_r hp hf
  unfold dnR srF
  generalize hF : (srP s p).find? (fun x => f x.1) = F
  cases hl : lkp (floodP s b0).1 (kyP p) with
  | none =>
    cases F with
    | none => rfl
    | some x =>
      obtain ⟨h1, h2, h3⟩ := hs.ok x (List.mem_of_find?_eq_some hF)
      have hx := hb2 _ _ h3 (List.find?_some (p := fun x : Ps × List Mv => f x.1) hF)
      obtain ⟨⟨r, hr, hrl⟩, _, _⟩ := Lds.back hS h3 hp hf
      obtain ⟨c, hc, _⟩ := hL.all _ hx r p hrl
      rw [(hL.lk hS hp c).2 hc] at hl
      cases hl
  | some d =>
    have hd := (hL.lk hS hp d).1 hl
    have hd0 := hL.nn hd
    obtain ⟨n, rfl⟩ : ∃ n : Nat, d = n := ⟨d.toNat, by omega⟩
    obtain ⟨⟨e, he, hle⟩, hlen, hmin⟩ := dnP_least hS hb hL n p hd
    obtain ⟨c, hc, hcl⟩ := hs.all _ _ hle
    have hlow : ∀ x ∈ srP s p, f x.1 = true → n ≤ x.2.length := fun x hx hfx => by
      obtain ⟨h1, h2, h3⟩ := hs.ok x hx
      obtain ⟨⟨r, hr, hrl⟩, _, _⟩ := Lds.back hS h3 hp hf
      obtain ⟨c', hc', hcl'⟩ := hL.all _ (hb2 _ _ h3 hfx) r p hrl
      have := hL.one hd hc'
      omega
    cases F with
    | none => exact absurd (hb1 e he) (by simpa using List.find?_eq_none.1 hF (e, c) hc)
    | some x =>
      have hfx : f x.1 = true := List.find?_some (p := fun x : Ps × List Mv => f x.1) hF
      have hxm := List.mem_of_find?_eq_some hF
      obtain ⟨h1, h2, h3⟩ := hs.ok x hxm
      -- the first one found is not behind (e, c)
      have hxc : ltP x.2 c ∨ x = (e, c) := by
        obtain ⟨k, hk, hkc⟩ := List.getElem_of_mem hc
        have hk' : (srP s p)[k]? = some (e, c) := by rw [List.getElem?_eq_getElem hk, hkc]
        have hP : (srP s p).Pairwise (fun a b => ltP a.2 b.2) := by
          rw [List.pairwise_iff_getElem]
          intro i j hi hj hij
          exact hs.srt i j _ _ hij (List.getElem?_eq_getElem hi) (List.getElem?_eq_getElem hj)
        rcases find_first hP hF hc (hb1 e he) with e1 | e1
        · exact .inr e1
        · exact .inl e1
      have hxl : ltP x.2 (dnP s (floodP s b0).1 n p) ∨ x.2 = dnP s (floodP s b0).1 n p := by
        rcases hxc with hxc | rfl
        · rcases hcl with hcl | rfl
          · exact .inl (ordQ.tr hxc hcl)
          · exact .inl hxc
        · exact hcl
      have hxn := hlow x hxm hfx
      have heq : x.2 = dnP s (floodP s b0).1 n p := by
        rcases hxl with hxl | hxl
        · have hln : x.2.length = n := by
            rcases hxl with hxl | ⟨hxl, _⟩ <;> omega
          rcases hmin x.2 x.1 (hb2 _ _ h3 hfx) h3 hln with e1 | e1
          · exact e1.symm
          · rcases hxl with hxl | ⟨_, hxl⟩
            · omega
            · exact (lexP_irr (lexP_tr hxl e1)).elim
        · exact hxl
      simp [heq]

end Go.Proofs.YtpnfgmgoafgcbaaGreat

/-
  The statement ArmProved: for every input the law returns true, and each argument reads behind the call as it read before. No condition.
-/
import Derived.Test.YtpnfgmgoafgcbaaGreatFrE
import Derived.Test.YtpnfgmgoafgcbaaGreatG5
import Derived.Test.YtpnfgmgoafgcbaaGreatWPr
set_option linter.all false
set_option linter.unusedVariables false
namespace Go.Proofs.YtpnfgmgoafgcbaaGreat
open Go.RowKit Go.Shelf Go.ChangeShapes Go.WideShapes Go.ChangeAt Go.Deep
set_option maxRecDepth 100000 in
theorem armProved_lifted (os : Os) (started : os.Started) (H : Type) (enc : TypeId × Value → H) :
    ReturnsInHanded {} Tryz.checked os 11 .any (Rows.armProvedSpec.pre6 enc Tryz.prog Tryz.f11 Rows.armProvedRow.domain false) (Rows.armProvedSpec.post enc Tryz.prog Tryz.f11 false true false false):=by
  refine returnsInHanded_of_change (C:=Tryz.checked) own_f started (by kernel_rfl) Tryz.func11
    (ChangeSpec.witness6 (enc:=enc) (C:=Tryz.checked) false ⟨#[],#[.agg #[.int .i64 0,.int .i64 0,.int .i64 0,.slice none 0 0,.int .i64 0,.int .i64 0,.int .i64 0,.int .i64 0,.slice none 0 0],.agg #[.int .i64 0,.slice none 0 0],.agg #[.int .i64 0,.slice none 0 0,.int .i64 0,.int .i64 0,.int .i64 0,.int .i64 0]],[]⟩ 8 (by kernel_rfl) (by kernel_rfl) (by kernel_rfl) (by kernel_rfl)) ?_
  intro W base args ds gs before hval0 hW hcnd _
  have hval : ∀ (j : Nat) t v,Tryz.f11.params[j]? = some t → args[j]? = some v → Value.okWide Tryz.prog W .any base t v:=hval0
  have hW':=hW
  obtain ⟨p,q,hA0,hV,rfl,hfz,hnd⟩:=hW
  have hA : DataW.TrodAll enc Tryz.prog W 0 (fun _ => true) true Tryz.f11.params.toList args.toList ds p:=hA0
  rw [Tryz.params11] at hA hval
  obtain ⟨v0,vs0,d0,ds0,p0,q0,hargs,rfl,rfl,h0,r0⟩:=trodAll_cons hA
  obtain ⟨v1,vs1,d1,ds1,p1,q1,rfl,rfl,rfl,h1,r1⟩:=trodAll_cons r0
  obtain ⟨v2,vs2,d2,ds2,p2,q2,rfl,rfl,rfl,h2,r2⟩:=trodAll_cons r1
  obtain ⟨rfl,rfl,rfl⟩:=trodAll_nil r2
  obtain rfl : args = #[v0,v1,v2]:=by cases args;simp_all
  obtain ⟨rfl,rfl⟩:=trodVars_none hV
  have k0:=h0
  have lt0 : ∀ x ∈ p0,x.block < W.heap.size:=by obtain ⟨m,hm⟩:=k0;exact DataW.trod_lt m _ _ _ hm
  have k1:=h1
  have lt1 : ∀ x ∈ p1,x.block < W.heap.size:=by obtain ⟨m,hm⟩:=k1;exact DataW.trod_lt m _ _ _ hm
  have k2:=h2
  have lt2 : ∀ x ∈ p2,x.block < W.heap.size:=by obtain ⟨m,hm⟩:=k2;exact DataW.trod_lt m _ _ _ hm
  obtain ⟨bx0,bY0,sl0,L0,AL0,cL0,fx0,fX0,fy0,fY0,B0,AB0,cB0,rfl,hl0,hb0,nl0,nb0⟩:=open_scene (hval 0 30 v0 rfl rfl) h0
  obtain ⟨ps1,Q1,AQ1,cQ1,rfl,hq1,nq1⟩:=open_pose (hval 1 33 v1 rfl rfl) h1
  obtain ⟨pt2,T2,AT2,cT2,ua2,ub2,uc2,ud2,rfl,ht2,nt2⟩:=open_changed (hval 2 121 v2 rfl rfl) h2
  clear hA0 hval0
  refine (armProved_l bx0 bY0 sl0 L0 AL0 cL0 fx0 fX0 fy0 fY0 B0 AB0 cB0 ps1 Q1 AQ1 cQ1 pt2 T2 AT2 cT2 ua2 ub2 uc2 ud2 W hl0 hb0 nl0 nb0 hq1 nq1.1 ht2 nt2).mono fun e W' ⟨he,bel⟩ => ?_
  subst he
  exact ⟨_,rfl,_,_,_,[],_,[],hW',trodAll_mk1 (shut_bool Tryz.underlying4 _),(trodAll_cons_mk (Below.trod laidOut_f (by kernel_rfl) (of_decide_eq_true (by kernel_rfl)) k0 bel lt0) (trodAll_cons_mk (Below.trod laidOut_f (by kernel_rfl) (of_decide_eq_true (by kernel_rfl)) k1 bel lt1) (trodAll_cons_mk (Below.trod laidOut_f (by kernel_rfl) (of_decide_eq_true (by kernel_rfl)) k2 bel lt2) trodAll_mk0))),rfl,bel.frame _,fun h => by cases h⟩
theorem armProved_holds : Rows.ArmProvedSaid :=
  OpenClaim.holds_of_wide 11 Tryz.f11 rfl rfl rfl rfl rfl rfl rfl ⟨rfl,rfl,rfl,rfl,rfl⟩ rfl rfl rfl rfl rfl (by kernel_rfl) Tryz.func11 (by kernel_rfl)
    (of_decide_eq_true (by kernel_rfl)) (by unfold Func.isWrapper;rw [if_neg (of_decide_eq_false (by kernel_rfl))];exact ⟨rfl,rfl⟩)
    (fun os started H enc _ => armProved_lifted os started H enc)
#print axioms armProved_holds
end Go.Proofs.YtpnfgmgoafgcbaaGreat

/-
  How a pose with a further box (chapter 6) is opened, in plain words, for the statement's proof.
-/
import Derived.Test.YtpnfgmgoafgcbaaGreatG5
set_option linter.all false
set_option linter.unusedVariables false
namespace Go.Proofs.YtpnfgmgoafgcbaaGreat
open Go.RowKit Go.Shelf Go.ChangeShapes Go.WideShapes Go.ChangeAt Go.Deep
section
variable {H : Type} {enc : TypeId × Value → H} {w : World} {base : Nat} {spare : Nat → Bool} {held : Bool} {v : Value} {d : DataW H} {p : List MemPlace} {r : Reach} {b0 : Nat}
set_option maxRecDepth 100000 in
/-- A pose with a further box that came in. -/
theorem open_changed (hv : Value.okWide Tryz.prog w r b0 121 v) (h : DataW.Trod enc Tryz.prog w base spare held 121 v d p) : ∃ (pt : Int) (T : List Int) (AT : Option Addr) (cT : Nat) (u0 u1 u2 u3 : Int),
    v = .agg #[.int .i64 pt,.slice AT T.length cT,.int .i64 u0,.int .i64 u1,.int .i64 u2,.int .i64 u3] ∧ SlI w AT T ∧ T.length ≤ 9223372036854775807:=by
  obtain ⟨cs,n,rfl,hl,hg⟩:=open_struct Tryz.underlying121 hv h
  rw [show Tryz.prog.cellsOf 121 = 6 from by kernel_rfl] at hl
  obtain ⟨a,b,c,e,f,g,rfl⟩:=list6 hl
  obtain ⟨y0,h0⟩:=hg 0 _ rfl
  obtain ⟨y1,h1⟩:=hg 1 _ rfl
  have c0 : Tryz.prog.cellsOf 33 = 2:=by kernel_rfl
  have c1 : Tryz.prog.cellsOf 27 = 4:=by kernel_rfl
  have c2 : Tryz.prog.cellsOf 3 = 1:=by kernel_rfl
  have c3 : Tryz.prog.cellsOf 31 = 1:=by kernel_rfl
  have h0 : DataW.trod enc Tryz.prog w base spare held n 33 (([a,b,c,e,f,g].drop 0).take (Tryz.prog.cellsOf 33)) = some y0:=h0
  have h1 : DataW.trod enc Tryz.prog w base spare held n 27 (([a,b,c,e,f,g].drop 2).take (Tryz.prog.cellsOf 27)) = some y1:=h1
  rw [c0] at h0;rw [c1] at h1
  obtain ⟨m,hm⟩:=trod_fields Tryz.underlying33 h0
  obtain ⟨z0,k0⟩:=hm 0 _ rfl
  obtain ⟨z1,k1⟩:=hm 1 _ rfl
  have k0 : DataW.trod enc Tryz.prog w base spare held m 3 (([a,b].drop 0).take (Tryz.prog.cellsOf 3)) = some z0:=k0
  have k1 : DataW.trod enc Tryz.prog w base spare held m 31 (([a,b].drop 1).take (Tryz.prog.cellsOf 31)) = some z1:=k1
  rw [c2] at k0;rw [c3] at k1
  obtain ⟨n0,e0,l0,w0⟩:=cells_flat 5 (by kernel_rfl) k0
  obtain ⟨q0,rfl⟩:=list1 (l0.trans c2)
  obtain ⟨A,cc,Q,eA,hs,hn,_,_,_,hw⟩:=slE_cells 5 (fun q : Int => [Value.int .i64 q]) 1 (by decide) (fun _ => rfl) (fun ns hn => by obtain ⟨a,rfl⟩:=list1 hn;exact ⟨a,rfl⟩) Tryz.underlying31 (by kernel_rfl) (by kernel_rfl) k1
  rw [ints_flat] at hs
  obtain ⟨n1,e1,l1,w1⟩:=cells_flat 5 (by kernel_rfl) h1
  obtain ⟨t0,t1,t2,t3,rfl⟩:=list4 (l1.trans c1)
  simp at eA e0 e1
  obtain ⟨rfl,rfl,rfl,rfl⟩:=e1
  subst eA e0
  exact ⟨q0,Q,A,cc,t0,t1,t2,t3,rfl,fun j u hj => hs j _ (by rw [List.getElem?_map,hj];rfl),hn⟩
end
end Go.Proofs.YtpnfgmgoafgcbaaGreat

/-
  FieldsLeaves: a document that keeps the rules up to 10 does not keep rule 10 with a field left without what is asked of it. Conditions: none beside the row's own (bulk at most 1048576).
-/
import Derived.Test.YtphmfillajagdaaGreatWe
import Derived.Test.YtphmfillajagdaaGreatGa
import Derived.Test.YtphmfillajagdaaGreatRows
import Derived.WalkKit
import Derived.ProofKit
import Derived.OpenShut
import Derived.JoinedCond
import Derived.Test.YtphmfillajagdaaGreatEd
set_option maxRecDepth 100000
set_option linter.unusedVariables false
set_option linter.unusedSimpArgs false
open Go Go.Ev
open Go.ChangeShapes Go.WideShapes Go.ChangeAt Go.RowKit
namespace Go.Proofs.YtphmfillajagdaaGreat
namespace fieldsLeaves
def fs:Ty:=(.fcons (.ext 7) (.fcons (.ext 12) .fnil))
theorem lawF:∀ x:fs.den RS,good RS fs x→aTt RS fs x≤1048576→OL Tryz.prog MT XT 6 (encL RS fs x) []=some (.bool true,[]):=by
 rintro ⟨x0,x1,_⟩ g b
 have b':dW x0+(jL x1+(0))≤1048576:=b
 obtain ⟨g0,g1,_⟩:=g
 have g0':aKp x0:=g0
 have g1':bAD x1:=g1
 have e:encL RS fs (x0,x1,())=[cL x0,lH x1]:=rfl
 rw [e]
 change O 6 _ _=_
 have h:=bU (enc:=fun r=>(aA r,[])) (rU x0 x1 (by omega) (by omega))
 simpa only [tys,aA] using h
theorem aYr (H:Type) (enc:TypeId×Value→H) (W:World) (base:Nat) (args:Array Value) (ds gs:List (DataW H)) (before:List MemPlace)
  (hval:∀ (j:Nat) t v,Tryz.f6.params[j]?=some t→args[j]?=some v→Value.okWide Tryz.prog W .any base t v)
  (hW:DataW.Whole enc Tryz.prog Tryz.f6.params.toList Rows.fieldsLeavesSpec.vars false W args.toList ds gs before) (hk:Rows.uptoSmall H (ds++gs)=true) :
  Calls Tryz.prog 6 args W fun e W'=>∃ v,e = .returned v∧Rows.fieldsLeavesSpec.post enc Tryz.prog Tryz.f6 false true false false W args v W':=by
 have hg:gs=[]:=by
  obtain ⟨p,q,hA,hV,_⟩:=hW
  exact (trodVars_none hV).1
 have hb:Rows.uptoBulkAll ds≤1048576:=by
  have:=of_decide_eq_true hk
  simpa [hg] using this
 have hlen:ds.length=2:=by
  obtain ⟨p,q,hA0,hV,_⟩:=hW
  have hA:DataW.TrodAll enc Tryz.prog W 0 (fun _=>true) true Tryz.f6.params.toList args.toList ds p:=hA0
  rw [Tryz.params6] at hA
  obtain ⟨v0,vs0,d0,ds0,p0,q0,h0,rfl,rfl,ht0,r0⟩:=trodAll_cons hA
  obtain ⟨v1,vs1,d1,ds1,p1,q1,h1,rfl,rfl,ht1,r1⟩:=trodAll_cons r0
  obtain ⟨rfl,rfl,rfl⟩:=trodAll_nil r1
  rfl
 refine aJ2 pok xok laid blOk Tryz.func6 rfl (n:=9) (ρ:=RS) (τ:=TS) (fs:=fs) (tb:=4) (by kernel_rfl) (by rw [show Tryz.f6.resultTypes = #[4] from rfl]) Tryz.underlying4 rfl (rok enc W blOk) ?_ hval hW hb lawF
 subst hg
 match ds,hlen with
 | [d0,d1],_=>exact ⟨rfl,rfl,rfl⟩
theorem bBQ (os : Os) (started : os.Started) (H : Type) (enc : TypeId × Value → H) (F : Stop.Interp) :
  ReturnsInHanded {} Tryz.checked os 6 .any ((Rows.OpenSpec.upto Rows.fieldsLeavesSpec).pre6 enc Tryz.prog Tryz.f6 Rows.fieldsLeavesUptoRow.domain false) (((Rows.OpenSpec.upto Rows.fieldsLeavesSpec).at F).post enc Tryz.prog Tryz.f6 false true false false) := by
 refine returnsInHanded_of_cond (C := Tryz.checked) (s := Rows.OpenSpec.upto Rows.fieldsLeavesSpec) (k := Rows.uptoSmall) rfl own started (by kernel_rfl) Tryz.func6
  (OpenSpec.witness (enc := enc) (C := Tryz.checked) (s := Rows.OpenSpec.upto Rows.fieldsLeavesSpec) (k := Rows.uptoSmall) rfl false ⟨#[], #[.agg #[.slice none 0 0, .string ⟨#[]⟩, .string ⟨#[]⟩], .agg #[.slice none 0 0, .slice none 0 0]], []⟩ 8 (by kernel_rfl) (by kernel_rfl) (by kernel_rfl)
   (x := ([.agg [.nil, .lit (.string []), .lit (.string [])], .agg [.nil, .nil]], [], [])) (by kernel_rfl) rfl (by kernel_rfl)) ?_
 intro W base args ds gs before hval hW _ hk _
 exact aYr H enc W base args ds gs before hval hW hk
theorem over:Rows.fieldsLeavesUptoRow.holds Tryz.pinned (Rows.OpenSpec.upto Rows.fieldsLeavesSpec) :=
 OpenClaim.holds_of_cond 6 Tryz.f6 rfl rfl rfl rfl rfl rfl rfl ⟨rfl,rfl,rfl,rfl,rfl⟩ rfl rfl rfl rfl rfl (by kernel_rfl) Tryz.func6 (by kernel_rfl)
  (of_decide_eq_true (by kernel_rfl)) (by unfold Func.isWrapper;first | (rw [if_pos (by decide +kernel)];kernel_rfl) | (rw [if_neg (by decide +kernel)];exact ⟨rfl,rfl⟩))
  (fun os started H enc _ F=>bBQ os started H enc F)
theorem proved:Rows.FieldsLeavesUptoSaid :=
 over
end fieldsLeaves
end Go.Proofs.YtphmfillajagdaaGreat

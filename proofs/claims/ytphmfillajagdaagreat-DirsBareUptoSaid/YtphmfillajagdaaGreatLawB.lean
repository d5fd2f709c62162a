/-
  DirsBare: a document without any directive keeps the rules 12 to 14. Conditions: none beside the row's own (bulk at most 1048576).
-/
import Derived.Test.YtphmfillajagdaaGreatWb
import Derived.Test.YtphmfillajagdaaGreatWd
import Derived.Test.YtphmfillajagdaaGreatGa
import Derived.Test.YtphmfillajagdaaGreatRows
import Derived.WalkKit
import Derived.ProofKit
import Derived.OpenShut
import Derived.JoinedCond
import Derived.Test.YtphmfillajagdaaGreatEd
set_option maxRecDepth 100000
set_option linter.unusedVariables false
set_option linter.unusedSimpArgs false
open Go Go.Ev
open Go.ChangeShapes Go.WideShapes Go.ChangeAt Go.RowKit
namespace Go.Proofs.YtphmfillajagdaaGreat
namespace dirsBare
def fs:Ty:=(.fcons (.ext 7) (.fcons (.ext 12) .fnil))
theorem lawF:∀ x:fs.den RS,good RS fs x→aUc RS fs x≤1048576→OL Tryz.prog MT XT 4 (encL RS fs x) []=some (.bool true,[]):=by
 rintro ⟨x0,x1,_⟩ g b
 have b':oH x0+(kO x1+(0))≤1048576:=b
 obtain ⟨g0,g1,_⟩:=g
 have g0':aLb x0:=g0
 have g1':bAX x1:=g1
 have e:encL RS fs (x0,x1,())=[dX x0,jX x1]:=rfl
 rw [e]
 change O 4 _ _=_
 have h:=bM (enc:=fun r=>(aA r,[])) (yI x0 x1 (by omega) (by omega) (aEv x1 (by omega)))
 simpa only [tys,aA] using h
theorem aYL (H:Type) (enc:TypeId×Value→H) (W:World) (base:Nat) (args:Array Value) (ds gs:List (DataW H)) (before:List MemPlace)
  (hval:∀ (j:Nat) t v,Tryz.f4.params[j]?=some t→args[j]?=some v→Value.okWide Tryz.prog W .any base t v)
  (hW:DataW.Whole enc Tryz.prog Tryz.f4.params.toList Rows.dirsBareSpec.vars false W args.toList ds gs before) (hk:Rows.uptoSmall H (ds++gs)=true) :
  Calls Tryz.prog 4 args W fun e W'=>∃ v,e = .returned v∧Rows.dirsBareSpec.post enc Tryz.prog Tryz.f4 false true false false W args v W':=by
 have hg:gs=[]:=by
  obtain ⟨p,q,hA,hV,_⟩:=hW
  exact (trodVars_none hV).1
 have hb:Rows.uptoBulkAll ds≤1048576:=by
  have:=of_decide_eq_true hk
  simpa [hg] using this
 have hlen:ds.length=2:=by
  obtain ⟨p,q,hA0,hV,_⟩:=hW
  have hA:DataW.TrodAll enc Tryz.prog W 0 (fun _=>true) true Tryz.f4.params.toList args.toList ds p:=hA0
  rw [Tryz.params4] at hA
  obtain ⟨v0,vs0,d0,ds0,p0,q0,h0,rfl,rfl,ht0,r0⟩:=trodAll_cons hA
  obtain ⟨v1,vs1,d1,ds1,p1,q1,h1,rfl,rfl,ht1,r1⟩:=trodAll_cons r0
  obtain ⟨rfl,rfl,rfl⟩:=trodAll_nil r1
  rfl
 refine aKP pok xok laid blOk Tryz.func4 rfl (n:=9) (ρ:=RS) (τ:=TS) (fs:=fs) (tb:=4) (by kernel_rfl) (by rw [show Tryz.f4.resultTypes = #[4] from rfl]) Tryz.underlying4 rfl (rok enc W blOk) ?_ hval hW hb lawF
 subst hg
 match ds,hlen with
 | [d0,d1],_=>exact ⟨rfl,rfl,rfl⟩
theorem bB3 (os : Os) (started : os.Started) (H : Type) (enc : TypeId × Value → H) (F : Stop.Interp) :
  ReturnsInHanded {} Tryz.checked os 4 .any ((Rows.OpenSpec.upto Rows.dirsBareSpec).pre6 enc Tryz.prog Tryz.f4 Rows.dirsBareUptoRow.domain false) (((Rows.OpenSpec.upto Rows.dirsBareSpec).at F).post enc Tryz.prog Tryz.f4 false true false false) := by
 refine returnsInHanded_of_cond (C := Tryz.checked) (s := Rows.OpenSpec.upto Rows.dirsBareSpec) (k := Rows.uptoSmall) rfl own started (by kernel_rfl) Tryz.func4
  (OpenSpec.witness (enc := enc) (C := Tryz.checked) (s := Rows.OpenSpec.upto Rows.dirsBareSpec) (k := Rows.uptoSmall) rfl false ⟨#[], #[.agg #[.slice none 0 0, .string ⟨#[]⟩, .string ⟨#[]⟩], .agg #[.slice none 0 0, .slice none 0 0]], []⟩ 8 (by kernel_rfl) (by kernel_rfl) (by kernel_rfl)
   (x := ([.agg [.nil, .lit (.string []), .lit (.string [])], .agg [.nil, .nil]], [], [])) (by kernel_rfl) rfl (by kernel_rfl)) ?_
 intro W base args ds gs before hval hW _ hk _
 exact aYL H enc W base args ds gs before hval hW hk
theorem over:Rows.dirsBareUptoRow.holds Tryz.pinned (Rows.OpenSpec.upto Rows.dirsBareSpec) :=
 OpenClaim.holds_of_cond 4 Tryz.f4 rfl rfl rfl rfl rfl rfl rfl ⟨rfl,rfl,rfl,rfl,rfl⟩ rfl rfl rfl rfl rfl (by kernel_rfl) Tryz.func4 (by kernel_rfl)
  (of_decide_eq_true (by kernel_rfl)) (by unfold Func.isWrapper;first | (rw [if_pos (by decide +kernel)];kernel_rfl) | (rw [if_neg (by decide +kernel)];exact ⟨rfl,rfl⟩))
  (fun os started H enc _ F=>bB3 os started H enc F)
theorem proved:Rows.DirsBareUptoSaid :=
 over
end dirsBare
end Go.Proofs.YtphmfillajagdaaGreat

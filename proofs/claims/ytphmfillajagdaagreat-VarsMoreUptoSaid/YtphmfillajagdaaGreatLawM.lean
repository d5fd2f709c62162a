/-
  VarsMore: a document that keeps the rules up to 21 does not keep rule 21 with a variable more that nobody uses, nor rule 20 with one fewer; with one of its variables twice it does not keep rule 18. Conditions: none beside the row's own (bulk at most 1048576).
-/
import Derived.Test.YtphmfillajagdaaGreatWf
import Derived.Test.YtphmfillajagdaaGreatGa
import Derived.Test.YtphmfillajagdaaGreatRows
import Derived.WalkKit
import Derived.ProofKit
import Derived.OpenShut
import Derived.JoinedCond
import Derived.Test.YtphmfillajagdaaGreatEd
set_option maxRecDepth 100000
set_option linter.unusedVariables false
set_option linter.unusedSimpArgs false
open Go Go.Ev
open Go.ChangeShapes Go.WideShapes Go.ChangeAt Go.RowKit
namespace Go.Proofs.YtphmfillajagdaaGreat
namespace varsMore
def fs:Ty:=(.fcons (.ext 7) (.fcons (.ext 12) (.fcons (.int .i64) .fnil)))
theorem lawF:∀ x:fs.den RS,good RS fs x->aZ2 RS fs x<=1048576->OL Tryz.prog MT XT 8 (encL RS fs x) []=some (.bool true,[]):=by
 rintro ⟨x0,x1,x2,_⟩ g b
 have b':jT x0+(fO x1+(bk1 x2+(0)))<=1048576:=b
 obtain ⟨g0,g1,g2,_⟩:=g
 have g0':aPI x0:=g0
 have g1':bHL x1:=g1
 have g2':(gdI .i64) x2:=g2
 have e:encL RS fs (x0,x1,x2,())=[dG x0,mU x1,(PV.int .i64) x2]:=rfl
 rw [e]
 change O 8 _ _=_
 have h:=bA (enc:=fun r=>(aA r,[])) (aBH x0 x1 x2 (by omega) (by omega))
 simpa only [tys,aA] using h
theorem bFq (H:Type) (enc:TypeId×Value->H) (W:World) (base:Nat) (args:Array Value) (ds gs:List (DataW H)) (before:List MemPlace)
  (hval:∀ (j:Nat) t v,Tryz.f8.params[j]?=some t->args[j]?=some v->Value.okWide Tryz.prog W .any base t v)
  (hW:DataW.Whole enc Tryz.prog Tryz.f8.params.toList Rows.varsMoreSpec.vars false W args.toList ds gs before) (hk:Rows.uptoSmall H (ds++gs)=true) :
  Calls Tryz.prog 8 args W fun e W'=>∃ v,e = .returned v/\Rows.varsMoreSpec.post enc Tryz.prog Tryz.f8 false true false false W args v W':=by
 have hg:gs=[]:=by
  obtain ⟨p,q,hA,hV,_⟩:=hW
  exact (trodVars_none hV).1
 have hb:Rows.uptoBulkAll ds<=1048576:=by
  have:=of_decide_eq_true hk
  simpa [hg] using this
 have hlen:ds.length=3:=by
  obtain ⟨p,q,hA0,hV,_⟩:=hW
  have hA:DataW.TrodAll enc Tryz.prog W 0 (fun _=>true) true Tryz.f8.params.toList args.toList ds p:=hA0
  rw [Tryz.params8] at hA
  obtain ⟨v0,vs0,d0,ds0,p0,q0,h0,rfl,rfl,ht0,r0⟩:=trodAll_cons hA
  obtain ⟨v1,vs1,d1,ds1,p1,q1,h1,rfl,rfl,ht1,r1⟩:=trodAll_cons r0
  obtain ⟨v2,vs2,d2,ds2,p2,q2,h2,rfl,rfl,ht2,r2⟩:=trodAll_cons r1
  obtain ⟨rfl,rfl,rfl⟩:=trodAll_nil r2
  rfl
 refine aPi pok xok laid blOk Tryz.func8 rfl (n:=9) (ρ:=RS) (τ:=TS) (fs:=fs) (tb:=4) (by kernel_rfl) (by rw [show Tryz.f8.resultTypes = #[4] from rfl]) Tryz.underlying4 rfl (rok enc W blOk) ?_ hval hW hb lawF
 subst hg
 match ds,hlen with
 | [d0,d1,d2],_=>exact ⟨rfl,rfl,rfl⟩
theorem bI9 (os : Os) (started : os.Started) (H : Type) (enc : TypeId × Value -> H) (F : Stop.Interp) :
  ReturnsInHanded {} Tryz.checked os 8 .any ((Rows.OpenSpec.upto Rows.varsMoreSpec).pre6 enc Tryz.prog Tryz.f8 Rows.varsMoreUptoRow.domain false) (((Rows.OpenSpec.upto Rows.varsMoreSpec).at F).post enc Tryz.prog Tryz.f8 false true false false) := by
 refine returnsInHanded_of_cond (C := Tryz.checked) (s := Rows.OpenSpec.upto Rows.varsMoreSpec) (k := Rows.uptoSmall) rfl own started (by kernel_rfl) Tryz.func8
  (OpenSpec.witness (enc := enc) (C := Tryz.checked) (s := Rows.OpenSpec.upto Rows.varsMoreSpec) (k := Rows.uptoSmall) rfl false ⟨#[], #[.agg #[.slice none 0 0, .string ⟨#[]⟩, .string ⟨#[]⟩], .agg #[.slice none 0 0, .slice none 0 0], .int .i64 0], []⟩ 8 (by kernel_rfl) (by kernel_rfl) (by kernel_rfl)
   (x := ([.agg [.nil, .lit (.string []), .lit (.string [])], .agg [.nil, .nil], .lit (.int .i64 0)], [], [])) (by kernel_rfl) rfl (by kernel_rfl)) ?_
 intro W base args ds gs before hval hW _ hk _
 exact bFq H enc W base args ds gs before hval hW hk
theorem over:Rows.varsMoreUptoRow.holds Tryz.pinned (Rows.OpenSpec.upto Rows.varsMoreSpec) :=
 OpenClaim.holds_of_cond 8 Tryz.f8 rfl rfl rfl rfl rfl rfl rfl ⟨rfl,rfl,rfl,rfl,rfl⟩ rfl rfl rfl rfl rfl (by kernel_rfl) Tryz.func8 (by kernel_rfl)
  (of_decide_eq_true (by kernel_rfl)) (by unfold Func.isWrapper;first | (rw [if_pos (by decide +kernel)];kernel_rfl) | (rw [if_neg (by decide +kernel)];exact ⟨rfl,rfl⟩))
  (fun os started H enc _ F=>bI9 os started H enc F)
theorem proved:Rows.VarsMoreUptoSaid :=
 over
end varsMore
end Go.Proofs.YtphmfillajagdaaGreat

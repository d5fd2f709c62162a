/-
  MergeKeys: a document that keeps all rules does not keep rule 24 with a field of another name under a key that a field of its operation has, and keeps it under a key that none has. Conditions: none beside the row's own (bulk at most 1048576).
-/
import Derived.Test.YtenmfogokijilaaGreatWc
import Derived.Test.YtenmfogokijilaaGreatWa
import Derived.Test.YtenmfogokijilaaGreatGa
import Derived.Test.YtenmfogokijilaaGreatRows
import Derived.WalkKit
import Derived.ProofKit
import Derived.OpenShut
import Derived.JoinedCond
import Derived.Test.YtenmfogokijilaaGreatEc
set_option maxRecDepth 100000
set_option linter.unusedVariables false
set_option linter.unusedSimpArgs false
open Go Go.Ev
open Go.ChangeShapes Go.WideShapes Go.ChangeAt Go.RowKit
namespace Go.Proofs.YtenmfogokijilaaGreat
namespace mergeKeys
def fs:Ty:=(.fcons (.ext 7) (.fcons (.ext 12) (.fcons (.int .i64) .fnil)))
theorem lawF:∀ x:fs.den RS,good RS fs x->aZG RS fs x<=1048576->OL Tryz.prog MT XT 3 (encL RS fs x) []=some (.bool true,[]):=by
 rintro ⟨x0,x1,x2,_⟩ g b
 have b':eH x0+(dY x1+(bk1 x2+(0)))<=1048576:=b
 obtain ⟨g0,g1,g2,_⟩:=g
 have g0':aQT x0:=g0
 have g1':bHQ x1:=g1
 have g2':(gdI .i64) x2:=g2
 have e:encL RS fs (x0,x1,x2,())=[fF x0,tB x1,(PV.int .i64) x2]:=rfl
 rw [e]
 change O 3 _ _=_
 have h:=dW (enc:=fun r=>(aA r,[])) (aDe x0 x1 x2 (by omega) (by omega))
 simpa only [tys,aA] using h
theorem bFn (H:Type) (enc:TypeId×Value->H) (W:World) (base:Nat) (args:Array Value) (ds gs:List (DataW H)) (before:List MemPlace)
  (hval:∀ (j:Nat) t v,Tryz.f3.params[j]?=some t->args[j]?=some v->Value.okWide Tryz.prog W .any base t v)
  (hW:DataW.Whole enc Tryz.prog Tryz.f3.params.toList Rows.mergeKeysSpec.vars false W args.toList ds gs before) (hk:Rows.uptoSmall H (ds++gs)=true) :
  Calls Tryz.prog 3 args W fun e W'=>∃ v,e = .returned v/\Rows.mergeKeysSpec.post enc Tryz.prog Tryz.f3 false true false false W args v W':=by
 have hg:gs=[]:=by
  obtain ⟨p,q,hA,hV,_⟩:=hW
  exact (trodVars_none hV).1
 have hb:Rows.uptoBulkAll ds<=1048576:=by
  have:=of_decide_eq_true hk
  simpa [hg] using this
 have hlen:ds.length=3:=by
  obtain ⟨p,q,hA0,hV,_⟩:=hW
  have hA:DataW.TrodAll enc Tryz.prog W 0 (fun _=>true) true Tryz.f3.params.toList args.toList ds p:=hA0
  rw [Tryz.params3] at hA
  obtain ⟨v0,vs0,d0,ds0,p0,q0,h0,rfl,rfl,ht0,r0⟩:=trodAll_cons hA
  obtain ⟨v1,vs1,d1,ds1,p1,q1,h1,rfl,rfl,ht1,r1⟩:=trodAll_cons r0
  obtain ⟨v2,vs2,d2,ds2,p2,q2,h2,rfl,rfl,ht2,r2⟩:=trodAll_cons r1
  obtain ⟨rfl,rfl,rfl⟩:=trodAll_nil r2
  rfl
 refine aQz pok xok laid blOk Tryz.func3 rfl (n:=9) (ρ:=RS) (τ:=TS) (fs:=fs) (tb:=4) (by kernel_rfl) (by rw [show Tryz.f3.resultTypes = #[4] from rfl]) Tryz.underlying4 rfl (rok enc W blOk) ?_ hval hW hb lawF
 subst hg
 match ds,hlen with
 | [d0,d1,d2],_=>exact ⟨rfl,rfl,rfl⟩
theorem bJJ (os : Os) (started : os.Started) (H : Type) (enc : TypeId × Value -> H) (F : Stop.Interp) :
  ReturnsInHanded {} Tryz.checked os 3 .any ((Rows.OpenSpec.upto Rows.mergeKeysSpec).pre6 enc Tryz.prog Tryz.f3 Rows.mergeKeysUptoRow.domain false) (((Rows.OpenSpec.upto Rows.mergeKeysSpec).at F).post enc Tryz.prog Tryz.f3 false true false false) := by
 refine returnsInHanded_of_cond (C := Tryz.checked) (s := Rows.OpenSpec.upto Rows.mergeKeysSpec) (k := Rows.uptoSmall) rfl own started (by kernel_rfl) Tryz.func3
  (OpenSpec.witness (enc := enc) (C := Tryz.checked) (s := Rows.OpenSpec.upto Rows.mergeKeysSpec) (k := Rows.uptoSmall) rfl false ⟨#[], #[.agg #[.slice none 0 0, .string ⟨#[]⟩, .string ⟨#[]⟩], .agg #[.slice none 0 0, .slice none 0 0], .int .i64 0], []⟩ 8 (by kernel_rfl) (by kernel_rfl) (by kernel_rfl)
   (x := ([.agg [.nil, .lit (.string []), .lit (.string [])], .agg [.nil, .nil], .lit (.int .i64 0)], [], [])) (by kernel_rfl) rfl (by kernel_rfl)) ?_
 intro W base args ds gs before hval hW _ hk _
 exact bFn H enc W base args ds gs before hval hW hk
theorem over:Rows.mergeKeysUptoRow.holds Tryz.pinned (Rows.OpenSpec.upto Rows.mergeKeysSpec) :=
 OpenClaim.holds_of_cond 3 Tryz.f3 rfl rfl rfl rfl rfl rfl rfl ⟨rfl,rfl,rfl,rfl,rfl⟩ rfl rfl rfl rfl rfl (by kernel_rfl) Tryz.func3 (by kernel_rfl)
  (of_decide_eq_true (by kernel_rfl)) (by unfold Func.isWrapper;first | (rw [if_pos (by decide +kernel)];kernel_rfl) | (rw [if_neg (by decide +kernel)];exact ⟨rfl,rfl⟩))
  (fun os started H enc _ F=>bJJ os started H enc F)
theorem proved:Rows.MergeKeysUptoSaid :=
 over
end mergeKeys
end Go.Proofs.YtenmfogokijilaaGreat

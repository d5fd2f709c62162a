import Derived.Test.YtphmfillajagdaaGreatEd
import Derived.Test.YtphmfillajagdaaGreatProg
import Derived.KernelRfl
import Derived.Test.YtphmfillajagdaaGreatEx
noncomputable section
set_option linter.unusedVariables false
set_option linter.unusedSimpArgs false
set_option linter.unusedSimpArgs false
open Go Go.Ev Go.Ev.PV
namespace Go.Proofs.YtphmfillajagdaaGreat
structure GType where
 name:Str
 lists:Int
 musts:Int
mutual
structure GValue where
 kind:Int
 n:Int
 s:Str
 l:List GValue
 m:List GMember
structure GMember where
 name:Str
 v:GValue
end
structure GParam where
 name:Str
 t:GType
 has:Bool
 default:GValue
structure GDir where
 name:Str
 args:List GMember
structure GFieldDef where
 name:Str
 params:List GParam
 t:GType
 dirs:List GDir
structure GDef where
 kind:Int
 name:Str
 faces:List Str
 fields:List GFieldDef
 parts:List Str
 params:List GParam
structure GSchema where
 defs:List GDef
 query:Str
 mutation:Str
structure GVarDef where
 name:Str
 t:GType
 has:Bool
 default:GValue
structure GSel where
 kind:Int
 alias:Str
 name:Str
 args:List GMember
 dirs:List GDir
 on_:Str
 sels:List GSel
structure GOp where
 kind:Int
 name:Str
 vars:List GVarDef
 dirs:List GDir
 sels:List GSel
structure GFrag where
 name:Str
 on_:Str
 dirs:List GDir
 sels:List GSel
structure GDoc where
 ops:List GOp
 frags:List GFrag
structure GSeineref13Spot where
 typ:Str
 x:GSel
structure GSpot where
 var:Str
 t:GType
 has:Bool
def aYz:Sh := .agg [.str,n6,n6]
def mM:Sh := .agg [n6,n6,.str,sf,sf]
def dA:Sh := .agg [.str,n6,n6,.str,sf,sf]
def mN:Sh := .agg [.str,.str,n6,n6,.bool,n6,n6,.str,sf,sf]
def aJc:Sh := .agg [.str,sf]
def oE:Sh := .agg [.str,sf,.str,n6,n6,sf]
def vS:Sh := .agg [n6,.str,sf,sf,sf,sf]
def aYA:Sh := .agg [sf,.str,.str]
def eZ:Sh := .agg [.str,.str,n6,n6,.bool,n6,n6,.str,sf,sf]
def mB:Sh := .agg [n6,.str,.str,sf,sf,.str,sf]
def shOp:Sh := .agg [n6,.str,sf,sf,sf]
def gP:Sh := .agg [.str,.str,sf,sf]
def bIY:Sh := .agg [sf,sf]
def aBt:Sh := .agg [.str,n6,.str,.str,sf,sf,.str,sf]
def bGY:Sh := .agg [.str,.str,n6,n6,.bool]
def lC (x:GType):PV := .agg [.str x.name,.int .i64 x.lists,.int .i64 x.musts]
theorem oF x:lC x = .agg [.str x.name,.int .i64 x.lists,.int .i64 x.musts]:=rfl
theorem bC7 x:chk aYz (lC x)=true:=by rw [oF];rfl
theorem bC8 a b (h:lC a=lC b):a=b:=by
 simp only [oF,PV.agg.injEq,List.cons.injEq,PV.slice.injEq,PV.str.injEq,PV.int.injEq,PV.bool.injEq,true_and,and_true] at h;obtain ⟨i,j,k⟩:=a;obtain ⟨l,g,f⟩:=b;dsimp only at h;have c:=h.1;have e:=h.2.1;have d:=h.2.2;subst c e d;rfl
mutual
def aJ:GValue->PV
 | ⟨b,a,x2,x3,c⟩ => .agg ([.int .i64 b,.int .i64 a,.str x2,.slice (mT x3) [] false,.slice (kO c) [] false])
def aD:GMember->PV
 | ⟨b,a⟩ => .agg ([.str b]++(aJ a).cells)
def mT:List GValue->List PV
 | []=>[]
 | x::l=>aJ x::mT l
def kO:List GMember->List PV
 | []=>[]
 | x::l=>aD x::kO l
end
theorem aCk:∀ l,mT l=List.map aJ l
 | []=>by simp only [mT,List.map]
 | x::l=>by simp only [mT,List.map,aCk l]
theorem aAI:∀ l,kO l=List.map aD l
 | []=>by simp only [kO,List.map]
 | x::l=>by simp only [kO,List.map,aAI l]
theorem gH x:aJ x = .agg [.int .i64 x.kind,.int .i64 x.n,.str x.s,.slice (List.map aJ x.l) [] false,.slice (List.map aD x.m) [] false]:=by
 cases x;simp only [aJ,cells,List.cons_append,List.nil_append,aCk,aAI]
theorem lD x:aD x = .agg [.str x.name,.int .i64 x.v.kind,.int .i64 x.v.n,.str x.v.s,.slice (List.map aJ x.v.l) [] false,.slice (List.map aD x.v.m) [] false]:=by
 cases x;simp only [aD,cells,List.cons_append,List.nil_append,aCk,aAI,gH]
theorem aAc x:chk mM (aJ x)=true:=by rw [gH];rfl
theorem eE x:chk dA (aD x)=true:=by rw [lD];rfl
mutual
theorem uW:∀ (a b:GValue),aJ a=aJ b->a=b
 | ⟨j,f,s,t,u⟩,⟨o,d,p,r,q⟩,h=>by
  simp only [aJ,PV.agg.injEq,List.cons.injEq,List.append_eq,PV.slice.injEq,PV.str.injEq,PV.int.injEq,PV.bool.injEq,true_and,and_true] at h;have c:=h.1;have e:=h.2.1;have i:=h.2.2.1;have k:=aK7 _ _ h.2.2.2.1;have n:=aIG _ _ h.2.2.2.2;subst c e i k n;rfl
theorem nJ:∀ (a b:GMember),aD a=aD b->a=b
 | ⟨j,f⟩,⟨o,d⟩,h=>by
  simp only [aD,PV.agg.injEq,List.cons_append,List.nil_append,List.cons.injEq,PV.slice.injEq,PV.str.injEq,PV.int.injEq,PV.bool.injEq,true_and,and_true] at h;have c:=h.1;have e:=uW f d (by
   have g:=h.2;cases f;cases d;simp only [aJ,cells] at g ⊢;rw [g])
  subst c e;rfl
theorem aK7:∀ (a b:List GValue),mT a=mT b->a=b
 | [],[],_=>rfl
 | [],_::_,h=>by simp [mT] at h
 | _::_,[],h=>by simp [mT] at h
 | x::l,y::m,h=>by
  simp only [mT,List.cons.injEq] at h;rw [uW x y h.1,aK7 l m h.2]
theorem aIG:∀ (a b:List GMember),kO a=kO b->a=b
 | [],[],_=>rfl
 | [],_::_,h=>by simp [kO] at h
 | _::_,[],h=>by simp [kO] at h
 | x::l,y::m,h=>by
  simp only [kO,List.cons.injEq] at h;rw [nJ x y h.1,aIG l m h.2]
end
def bB (x:GParam):PV := .agg [.str x.name,.str x.t.name,.int .i64 x.t.lists,.int .i64 x.t.musts,.bool x.has,.int .i64 x.default.kind,.int .i64 x.default.n,.str x.default.s,.slice (List.map aJ x.default.l) [] false,.slice (List.map aD x.default.m) [] false]
theorem lF x:bB x = .agg [.str x.name,.str x.t.name,.int .i64 x.t.lists,.int .i64 x.t.musts,.bool x.has,.int .i64 x.default.kind,.int .i64 x.default.n,.str x.default.s,.slice (List.map aJ x.default.l) [] false,.slice (List.map aD x.default.m) [] false]:=rfl
theorem rB x:chk mN (bB x)=true:=by rw [lF];rfl
theorem aHp a b (h:bB a=bB b):a=b:=by
 simp only [lF,PV.agg.injEq,List.cons.injEq,PV.slice.injEq,PV.str.injEq,PV.int.injEq,PV.bool.injEq,true_and,and_true] at h;obtain ⟨f,⟨n,i,m⟩,r,⟨l,e,k,j,a9⟩⟩:=a;obtain ⟨q,⟨b1,b2,g⟩,b4,⟨d,p,c,s,o⟩⟩:=b;dsimp only at h;have e0:=h.1;have e1:=h.2.1;have e2:=h.2.2.1;have e3:=h.2.2.2.1;have e4:=h.2.2.2.2.1;have e5:=h.2.2.2.2.2.1;have e6:=h.2.2.2.2.2.2.1;have e7:=h.2.2.2.2.2.2.2.1;have e8:=cT uW h.2.2.2.2.2.2.2.2.1;have e9:=cT nJ h.2.2.2.2.2.2.2.2.2;subst e0 e1 e2 e3 e4 e5 e6 e7 e8 e9;rfl
def aI (x:GDir):PV := .agg [.str x.name,.slice (List.map aD x.args) [] false]
theorem sJ x:aI x = .agg [.str x.name,.slice (List.map aD x.args) [] false]:=rfl
theorem aDw x:chk aJc (aI x)=true:=by rw [sJ];rfl
theorem aDx a b (h:aI a=aI b):a=b:=by
 simp only [sJ,PV.agg.injEq,List.cons.injEq,PV.slice.injEq,PV.str.injEq,PV.int.injEq,PV.bool.injEq,true_and,and_true] at h;obtain ⟨f,g⟩:=a;obtain ⟨i,e⟩:=b;dsimp only at h;have c:=h.1;have d:=cT nJ h.2;subst c d;rfl
def bL (x:GFieldDef):PV := .agg [.str x.name,.slice (List.map bB x.params) [] false,.str x.t.name,.int .i64 x.t.lists,.int .i64 x.t.musts,.slice (List.map aI x.dirs) [] false]
theorem fU x:bL x = .agg [.str x.name,.slice (List.map bB x.params) [] false,.str x.t.name,.int .i64 x.t.lists,.int .i64 x.t.musts,.slice (List.map aI x.dirs) [] false]:=rfl
theorem aAJ x:chk oE (bL x)=true:=by rw [fU];rfl
theorem aGr a b (h:bL a=bL b):a=b:=by
 simp only [fU,PV.agg.injEq,List.cons.injEq,PV.slice.injEq,PV.str.injEq,PV.int.injEq,PV.bool.injEq,true_and,and_true] at h;obtain ⟨l,r,⟨o,s,u⟩,q⟩:=a;obtain ⟨t,m,⟨j,n,k⟩,p⟩:=b;dsimp only at h;have c:=h.1;have i:=cT aHp h.2.1;have d:=h.2.2.1;have f:=h.2.2.2.1;have g:=h.2.2.2.2.1;have e:=cT aDx h.2.2.2.2.2;subst c i d f g e;rfl
def aL (x:GDef):PV := .agg [.int .i64 x.kind,.str x.name,.slice (List.map PV.str x.faces) [] false,.slice (List.map bL x.fields) [] false,.slice (List.map PV.str x.parts) [] false,.slice (List.map bB x.params) [] false]
theorem sK x:aL x = .agg [.int .i64 x.kind,.str x.name,.slice (List.map PV.str x.faces) [] false,.slice (List.map bL x.fields) [] false,.slice (List.map PV.str x.parts) [] false,.slice (List.map bB x.params) [] false]:=rfl
theorem aDy x:chk vS (aL x)=true:=by rw [sK];rfl
theorem aYB a b (h:aL a=aL b):a=b:=by
 simp only [sK,PV.agg.injEq,List.cons.injEq,PV.slice.injEq,PV.str.injEq,PV.int.injEq,PV.bool.injEq,true_and,and_true] at h;obtain ⟨l,r,o,s,u,q⟩:=a;obtain ⟨t,m,j,n,k,p⟩:=b;dsimp only at h;have c:=h.1;have i:=h.2.1;have d:=cT Ev.str_inj h.2.2.1;have f:=cT aGr h.2.2.2.1;have g:=cT Ev.str_inj h.2.2.2.2.1;have e:=cT aHp h.2.2.2.2.2;subst c i d f g e;rfl
def dG (x:GSchema):PV := .agg [.slice (List.map aL x.defs) [] false,.str x.query,.str x.mutation]
theorem jH x:dG x = .agg [.slice (List.map aL x.defs) [] false,.str x.query,.str x.mutation]:=rfl
theorem aVB x:chk aYA (dG x)=true:=by rw [jH];rfl
theorem aVC a b (h:dG a=dG b):a=b:=by
 simp only [jH,PV.agg.injEq,List.cons.injEq,PV.slice.injEq,PV.str.injEq,PV.int.injEq,PV.bool.injEq,true_and,and_true] at h;obtain ⟨i,j,k⟩:=a;obtain ⟨l,g,f⟩:=b;dsimp only at h;have c:=cT aYB h.1;have e:=h.2.1;have d:=h.2.2;subst c e d;rfl
def aB (x:GVarDef):PV := .agg [.str x.name,.str x.t.name,.int .i64 x.t.lists,.int .i64 x.t.musts,.bool x.has,.int .i64 x.default.kind,.int .i64 x.default.n,.str x.default.s,.slice (List.map aJ x.default.l) [] false,.slice (List.map aD x.default.m) [] false]
theorem dV x:aB x = .agg [.str x.name,.str x.t.name,.int .i64 x.t.lists,.int .i64 x.t.musts,.bool x.has,.int .i64 x.default.kind,.int .i64 x.default.n,.str x.default.s,.slice (List.map aJ x.default.l) [] false,.slice (List.map aD x.default.m) [] false]:=rfl
theorem jR x:chk eZ (aB x)=true:=by rw [dV];rfl
theorem aK8 a b (h:aB a=aB b):a=b:=by
 simp only [dV,PV.agg.injEq,List.cons.injEq,PV.slice.injEq,PV.str.injEq,PV.int.injEq,PV.bool.injEq,true_and,and_true] at h;obtain ⟨f,⟨n,i,m⟩,r,⟨l,e,k,j,a9⟩⟩:=a;obtain ⟨q,⟨b1,b2,g⟩,b4,⟨d,p,c,s,o⟩⟩:=b;dsimp only at h;have e0:=h.1;have e1:=h.2.1;have e2:=h.2.2.1;have e3:=h.2.2.2.1;have e4:=h.2.2.2.2.1;have e5:=h.2.2.2.2.2.1;have e6:=h.2.2.2.2.2.2.1;have e7:=h.2.2.2.2.2.2.2.1;have e8:=cT uW h.2.2.2.2.2.2.2.2.1;have e9:=cT nJ h.2.2.2.2.2.2.2.2.2;subst e0 e1 e2 e3 e4 e5 e6 e7 e8 e9;rfl
mutual
def aF:GSel->PV
 | ⟨e,b,x2,x3,d,a,c⟩ => .agg ([.int .i64 e,.str b,.str x2,.slice (List.map aD x3) [] false,.slice (List.map aI d) [] false,.str a,.slice (yF c) [] false])
def yF:List GSel->List PV
 | []=>[]
 | x::l=>aF x::yF l
end
theorem aOx:∀ l,yF l=List.map aF l
 | []=>by simp only [yF,List.map]
 | x::l=>by simp only [yF,List.map,aOx l]
theorem sL x:aF x = .agg [.int .i64 x.kind,.str x.alias,.str x.name,.slice (List.map aD x.args) [] false,.slice (List.map aI x.dirs) [] false,.str x.on_,.slice (List.map aF x.sels) [] false]:=by
 cases x;simp only [aF,cells,List.cons_append,List.nil_append,aOx]
theorem gN x:chk mB (aF x)=true:=by rw [sL];rfl
mutual
theorem aGs:∀ (a b:GSel),aF a=aF b->a=b
 | ⟨p,v,s,w,B,u,k⟩,⟨A,q,n,r,o,t,z⟩,h=>by
  simp only [aF,PV.agg.injEq,List.cons.injEq,List.append_eq,PV.slice.injEq,PV.str.injEq,PV.int.injEq,PV.bool.injEq,true_and,and_true] at h;have c:=h.1;have i:=h.2.1;have d:=h.2.2.1;have f:=cT nJ h.2.2.2.1;have g:=cT aDx h.2.2.2.2.1;have e:=h.2.2.2.2.2.1;have j:=aSq _ _ h.2.2.2.2.2.2;subst c i d f g e j;rfl
theorem aSq:∀ (a b:List GSel),yF a=yF b->a=b
 | [],[],_=>rfl
 | [],_::_,h=>by simp [yF] at h
 | _::_,[],h=>by simp [yF] at h
 | x::l,y::m,h=>by
  simp only [yF,List.cons.injEq] at h;rw [aGs x y h.1,aSq l m h.2]
end
def aR (x:GOp):PV := .agg [.int .i64 x.kind,.str x.name,.slice (List.map aB x.vars) [] false,.slice (List.map aI x.dirs) [] false,.slice (List.map aF x.sels) [] false]
theorem rU x:aR x = .agg [.int .i64 x.kind,.str x.name,.slice (List.map aB x.vars) [] false,.slice (List.map aI x.dirs) [] false,.slice (List.map aF x.sels) [] false]:=rfl
theorem aK9 x:chk shOp (aR x)=true:=by rw [rU];rfl
theorem bHJ a b (h:aR a=aR b):a=b:=by
 simp only [rU,PV.agg.injEq,List.cons.injEq,PV.slice.injEq,PV.str.injEq,PV.int.injEq,PV.bool.injEq,true_and,and_true] at h;obtain ⟨k,o,n,p,r⟩:=a;obtain ⟨q,l,i,m,j⟩:=b;dsimp only at h;have c:=h.1;have g:=h.2.1;have d:=cT aK8 h.2.2.1;have e:=cT aDx h.2.2.2.1;have f:=cT aGs h.2.2.2.2;subst c g d e f;rfl
def aH (x:GFrag):PV := .agg [.str x.name,.str x.on_,.slice (List.map aI x.dirs) [] false,.slice (List.map aF x.sels) [] false]
theorem oG x:aH x = .agg [.str x.name,.str x.on_,.slice (List.map aI x.dirs) [] false,.slice (List.map aF x.sels) [] false]:=rfl
theorem lG x:chk gP (aH x)=true:=by rw [oG];rfl
theorem aSr a b (h:aH a=aH b):a=b:=by
 simp only [oG,PV.agg.injEq,List.cons.injEq,PV.slice.injEq,PV.str.injEq,PV.int.injEq,PV.bool.injEq,true_and,and_true] at h;obtain ⟨i,m,l,n⟩:=a;obtain ⟨o,j,g,k⟩:=b;dsimp only at h;have c:=h.1;have f:=h.2.1;have d:=cT aDx h.2.2.1;have e:=cT aGs h.2.2.2;subst c f d e;rfl
def mU (x:GDoc):PV := .agg [.slice (List.map aR x.ops) [] false,.slice (List.map aH x.frags) [] false]
theorem sM x:mU x = .agg [.slice (List.map aR x.ops) [] false,.slice (List.map aH x.frags) [] false]:=rfl
theorem bE7 x:chk bIY (mU x)=true:=by rw [sM];rfl
theorem bE8 a b (h:mU a=mU b):a=b:=by
 simp only [sM,PV.agg.injEq,List.cons.injEq,PV.slice.injEq,PV.str.injEq,PV.int.injEq,PV.bool.injEq,true_and,and_true] at h;obtain ⟨f,g⟩:=a;obtain ⟨i,e⟩:=b;dsimp only at h;have c:=cT bHJ h.1;have d:=cT aSr h.2;subst c d;rfl
def aM (x:GSeineref13Spot):PV := .agg [.str x.typ,.int .i64 x.x.kind,.str x.x.alias,.str x.x.name,.slice (List.map aD x.x.args) [] false,.slice (List.map aI x.x.dirs) [] false,.str x.x.on_,.slice (List.map aF x.x.sels) [] false]
theorem fN x:aM x = .agg [.str x.typ,.int .i64 x.x.kind,.str x.x.alias,.str x.x.name,.slice (List.map aD x.x.args) [] false,.slice (List.map aI x.x.dirs) [] false,.str x.x.on_,.slice (List.map aF x.x.sels) [] false]:=rfl
theorem aES x:chk aBt (aM x)=true:=by rw [fN];rfl
theorem vT a b (h:aM a=aM b):a=b:=by
 simp only [fN,PV.agg.injEq,List.cons.injEq,PV.slice.injEq,PV.str.injEq,PV.int.injEq,PV.bool.injEq,true_and,and_true] at h;obtain ⟨r,⟨x,t,w,A,v,q,u⟩⟩:=a;obtain ⟨z,⟨n,l,s,m,p,y,o⟩⟩:=b;dsimp only at h;have f:=h.1;have d:=h.2.1;have g:=h.2.2.1;have i:=h.2.2.2.1;have c:=cT nJ h.2.2.2.2.1;have j:=cT aDx h.2.2.2.2.2.1;have e:=h.2.2.2.2.2.2.1;have k:=cT aGs h.2.2.2.2.2.2.2;subst f d g i c j e k;rfl
def aHq (x:GSpot):PV := .agg [.str x.var,.str x.t.name,.int .i64 x.t.lists,.int .i64 x.t.musts,.bool x.has]
theorem aDz x:aHq x = .agg [.str x.var,.str x.t.name,.int .i64 x.t.lists,.int .i64 x.t.musts,.bool x.has]:=rfl
theorem bC9 x:chk bGY (aHq x)=true:=by rw [aDz];rfl
abbrev eS (x:GSchema):PV := .agg [(zq aL x.defs),(.str x.query),(.str x.mutation)]
abbrev eD (x:GDoc):PV := .agg [(zq aR x.ops),(zq aH x.frags)]
abbrev eL (x:GSel):PV := .agg [(i6 x.kind),(.str x.alias),(.str x.name),(zq aD x.args),(zq aI x.dirs),(.str x.on_),(zq aF x.sels)]
abbrev eV (x:GValue):PV := .agg [(i6 x.kind),(i6 x.n),(.str x.s),(zq aJ x.l),(zq aD x.m)]
abbrev eT (x:GType):PV := .agg [(.str x.name),(i6 x.lists),(i6 x.musts)]
abbrev eR (x:GDir):PV := .agg [(.str x.name),(zq aD x.args)]
theorem tys:(∀ x,lC x = .agg [.str x.name,.int .i64 x.lists,.int .i64 x.musts]) /\
  (∀ x,aJ x = .agg [.int .i64 x.kind,.int .i64 x.n,.str x.s,.slice (List.map aJ x.l) [] false,.slice (List.map aD x.m) [] false]) /\
  (∀ x,aD x = .agg [.str x.name,.int .i64 x.v.kind,.int .i64 x.v.n,.str x.v.s,.slice (List.map aJ x.v.l) [] false,.slice (List.map aD x.v.m) [] false]) /\
  (∀ x,bB x = .agg [.str x.name,.str x.t.name,.int .i64 x.t.lists,.int .i64 x.t.musts,.bool x.has,.int .i64 x.default.kind,.int .i64 x.default.n,.str x.default.s,.slice (List.map aJ x.default.l) [] false,.slice (List.map aD x.default.m) [] false]) /\
  (∀ x,aI x = .agg [.str x.name,.slice (List.map aD x.args) [] false]) /\
  (∀ x,bL x = .agg [.str x.name,.slice (List.map bB x.params) [] false,.str x.t.name,.int .i64 x.t.lists,.int .i64 x.t.musts,.slice (List.map aI x.dirs) [] false]) /\
  (∀ x,aL x = .agg [.int .i64 x.kind,.str x.name,.slice (List.map PV.str x.faces) [] false,.slice (List.map bL x.fields) [] false,.slice (List.map PV.str x.parts) [] false,.slice (List.map bB x.params) [] false]) /\
  (∀ x,dG x = .agg [.slice (List.map aL x.defs) [] false,.str x.query,.str x.mutation]) /\
  (∀ x,aB x = .agg [.str x.name,.str x.t.name,.int .i64 x.t.lists,.int .i64 x.t.musts,.bool x.has,.int .i64 x.default.kind,.int .i64 x.default.n,.str x.default.s,.slice (List.map aJ x.default.l) [] false,.slice (List.map aD x.default.m) [] false]) /\
  (∀ x,aF x = .agg [.int .i64 x.kind,.str x.alias,.str x.name,.slice (List.map aD x.args) [] false,.slice (List.map aI x.dirs) [] false,.str x.on_,.slice (List.map aF x.sels) [] false]) /\
  (∀ x,aR x = .agg [.int .i64 x.kind,.str x.name,.slice (List.map aB x.vars) [] false,.slice (List.map aI x.dirs) [] false,.slice (List.map aF x.sels) [] false]) /\
  (∀ x,aH x = .agg [.str x.name,.str x.on_,.slice (List.map aI x.dirs) [] false,.slice (List.map aF x.sels) [] false]) /\
  (∀ x,mU x = .agg [.slice (List.map aR x.ops) [] false,.slice (List.map aH x.frags) [] false]) /\
  (∀ x,aM x = .agg [.str x.typ,.int .i64 x.x.kind,.str x.x.alias,.str x.x.name,.slice (List.map aD x.x.args) [] false,.slice (List.map aI x.x.dirs) [] false,.str x.x.on_,.slice (List.map aF x.x.sels) [] false]) /\
  (∀ x,aHq x = .agg [.str x.var,.str x.t.name,.int .i64 x.t.lists,.int .i64 x.t.musts,.bool x.has]):=⟨oF,gH,lD,lF,sJ,fU,sK,jH,dV,sL,rU,oG,sM,fN,aDz⟩
theorem chks:(∀ x,chk aYz (lC x)=true) /\
  (∀ x,chk mM (aJ x)=true) /\
  (∀ x,chk dA (aD x)=true) /\
  (∀ x,chk mN (bB x)=true) /\
  (∀ x,chk aJc (aI x)=true) /\
  (∀ x,chk oE (bL x)=true) /\
  (∀ x,chk vS (aL x)=true) /\
  (∀ x,chk aYA (dG x)=true) /\
  (∀ x,chk eZ (aB x)=true) /\
  (∀ x,chk mB (aF x)=true) /\
  (∀ x,chk shOp (aR x)=true) /\
  (∀ x,chk gP (aH x)=true) /\
  (∀ x,chk bIY (mU x)=true) /\
  (∀ x,chk aBt (aM x)=true) /\
  (∀ x,chk bGY (aHq x)=true):=⟨bC7,aAc,eE,rB,aDw,aAJ,aDy,aVB,jR,gN,aK9,lG,bE7,aES,bC9⟩
open Go Go.Ev Go.Ev.PV
def aCl (x:GType):Nat:=(dM x.name+(bk1 x.lists+(bk1 x.musts+(0))))+1
def aEq (x:GType):Prop:=gd1 x.name/\((gdI .i64) x.lists/\((gdI .i64) x.musts/\(True)))
theorem lH x:aCl x=(dM x.name+(bk1 x.lists+(bk1 x.musts+(0))))+1:=rfl
theorem bDa x:aEq x=(gd1 x.name/\((gdI .i64) x.lists/\((gdI .i64) x.musts/\(True)))):=rfl
mutual
def cR:GValue->Nat
 | ⟨b,a,x2,x3,c⟩=>(bk1 b+(bk1 a+(dM x2+((uJ x3+1)+((pO c+1)+(0))))))+1
def aY:GMember->Nat
 | ⟨b,a⟩=>(dM b+(cR a+(0)))+1
def uJ:List GValue->Nat
 | []=>0
 | x::l=>cR x+uJ l
def pO:List GMember->Nat
 | []=>0
 | x::l=>aY x+pO l
end
mutual
def tL:GValue->Prop
 | ⟨b,a,x2,x3,c⟩=>(gdI .i64) b/\((gdI .i64) a/\(gd1 x2/\(aGt x3/\(aCm c/\(True)))))
def rV:GMember->Prop
 | ⟨b,a⟩=>gd1 b/\(tL a/\(True))
def aGt:List GValue->Prop
 | []=>True
 | x::l=>tL x/\aGt l
def aCm:List GMember->Prop
 | []=>True
 | x::l=>rV x/\aCm l
end
theorem aAK:∀ l,uJ l=sumL cR l
 | []=>by simp only [uJ,sumL]
 | x::l=>by simp only [uJ,sumL,aAK l]
theorem aET:∀ l,aGt l=gdSl tL l
 | []=>by simp [aGt,gdSl]
 | x::l=>by simp [aGt,gdSl,aET l]
theorem iD:∀ l,pO l=sumL aY l
 | []=>by simp only [pO,sumL]
 | x::l=>by simp only [pO,sumL,iD l]
theorem aCn:∀ l,aCm l=gdSl rV l
 | []=>by simp [aCm,gdSl]
 | x::l=>by simp [aCm,gdSl,aCn l]
theorem cL x:cR x=(bk1 x.kind+(bk1 x.n+(dM x.s+((bkSl cR) x.l+((bkSl aY) x.m+(0))))))+1:=by
 cases x;simp only [cR,bkSl,aAK,iD]
theorem bAd x:tL x=((gdI .i64) x.kind/\((gdI .i64) x.n/\(gd1 x.s/\((gdSl tL) x.l/\((gdSl rV) x.m/\(True)))))):=by
 cases x;simp only [tL,aET,aCn]
theorem dE x:aY x=(dM x.name+(cR x.v+(0)))+1:=by
 cases x;simp only [aY,bkSl,aAK,iD]
theorem aVD x:rV x=(gd1 x.name/\(tL x.v/\(True))):=by
 cases x;simp only [rV,aET,aCn]
def kT (x:GParam):Nat:=(dM x.name+(aCl x.t+(bk1 x.has+(cR x.default+(0)))))+1
def aHr (x:GParam):Prop:=gd1 x.name/\(aEq x.t/\(gd1 x.has/\(tL x.default/\(True))))
theorem rC x:kT x=(dM x.name+(aCl x.t+(bk1 x.has+(cR x.default+(0)))))+1:=rfl
theorem bAe x:aHr x=(gd1 x.name/\(aEq x.t/\(gd1 x.has/\(tL x.default/\(True))))):=rfl
def fD (x:GDir):Nat:=(dM x.name+((bkSl aY) x.args+(0)))+1
def aMT (x:GDir):Prop:=gd1 x.name/\((gdSl rV) x.args/\(True))
theorem jS x:fD x=(dM x.name+((bkSl aY) x.args+(0)))+1:=rfl
theorem bE9 x:aMT x=(gd1 x.name/\((gdSl rV) x.args/\(True))):=rfl
def iY (x:GFieldDef):Nat:=(dM x.name+((bkSl kT) x.params+(aCl x.t+((bkSl fD) x.dirs+(0)))))+1
def aDA (x:GFieldDef):Prop:=gd1 x.name/\((gdSl aHr) x.params/\(aEq x.t/\((gdSl aMT) x.dirs/\(True))))
theorem mC x:iY x=(dM x.name+((bkSl kT) x.params+(aCl x.t+((bkSl fD) x.dirs+(0)))))+1:=rfl
theorem aPH x:aDA x=(gd1 x.name/\((gdSl aHr) x.params/\(aEq x.t/\((gdSl aMT) x.dirs/\(True))))):=rfl
def aLa (x:GDef):Nat:=(bk1 x.kind+(dM x.name+((bkSl dM) x.faces+((bkSl iY) x.fields+((bkSl dM) x.parts+((bkSl kT) x.params+(0)))))))+1
def bFa (x:GDef):Prop:=(gdI .i64) x.kind/\(gd1 x.name/\((gdSl gd1) x.faces/\((gdSl aDA) x.fields/\((gdSl gd1) x.parts/\((gdSl aHr) x.params/\(True))))))
theorem pP x:aLa x=(bk1 x.kind+(dM x.name+((bkSl dM) x.faces+((bkSl iY) x.fields+((bkSl dM) x.parts+((bkSl kT) x.params+(0)))))))+1:=rfl
theorem bFb x:bFa x=((gdI .i64) x.kind/\(gd1 x.name/\((gdSl gd1) x.faces/\((gdSl aDA) x.fields/\((gdSl gd1) x.parts/\((gdSl aHr) x.params/\(True))))))):=rfl
def jT (x:GSchema):Nat:=((bkSl aLa) x.defs+(dM x.query+(dM x.mutation+(0))))+1
def aPI (x:GSchema):Prop:=(gdSl bFa) x.defs/\(gd1 x.query/\(gd1 x.mutation/\(True)))
theorem nK x:jT x=((bkSl aLa) x.defs+(dM x.query+(dM x.mutation+(0))))+1:=rfl
theorem aVE x:aPI x=((gdSl bFa) x.defs/\(gd1 x.query/\(gd1 x.mutation/\(True)))):=rfl
def dZ (x:GVarDef):Nat:=(dM x.name+(aCl x.t+(bk1 x.has+(cR x.default+(0)))))+1
def aJX (x:GVarDef):Prop:=gd1 x.name/\(aEq x.t/\(gd1 x.has/\(tL x.default/\(True))))
theorem fE x:dZ x=(dM x.name+(aCl x.t+(bk1 x.has+(cR x.default+(0)))))+1:=rfl
theorem aVF x:aJX x=(gd1 x.name/\(aEq x.t/\(gd1 x.has/\(tL x.default/\(True))))):=rfl
mutual
def gI:GSel->Nat
 | ⟨e,b,x2,x3,d,a,c⟩=>(bk1 e+(dM b+(dM x2+((bkSl aY) x3+((bkSl fD) d+(dM a+((aV c+1)+(0))))))))+1
def aV:List GSel->Nat
 | []=>0
 | x::l=>gI x+aV l
end
mutual
def aJd:GSel->Prop
 | ⟨e,b,x2,x3,d,a,c⟩=>(gdI .i64) e/\(gd1 b/\(gd1 x2/\((gdSl rV) x3/\((gdSl aMT) d/\(gd1 a/\(aSs c/\(True)))))))
def aSs:List GSel->Prop
 | []=>True
 | x::l=>aJd x/\aSs l
end
theorem cH:∀ l,aV l=sumL gI l
 | []=>by simp only [aV,sumL]
 | x::l=>by simp only [aV,sumL,cH l]
theorem aSt:∀ l,aSs l=gdSl aJd l
 | []=>by simp [aSs,gdSl]
 | x::l=>by simp [aSs,gdSl,aSt l]
theorem gO x:gI x=(bk1 x.kind+(dM x.alias+(dM x.name+((bkSl aY) x.args+((bkSl fD) x.dirs+(dM x.on_+((bkSl gI) x.sels+(0))))))))+1:=by
 cases x;simp only [gI,bkSl,cH]
theorem bFc x:aJd x=((gdI .i64) x.kind/\(gd1 x.alias/\(gd1 x.name/\((gdSl rV) x.args/\((gdSl aMT) x.dirs/\(gd1 x.on_/\((gdSl aJd) x.sels/\(True)))))))):=by
 cases x;simp only [aJd,aSt]
def bkOp (x:GOp):Nat:=(bk1 x.kind+(dM x.name+((bkSl dZ) x.vars+((bkSl fD) x.dirs+((bkSl gI) x.sels+(0))))))+1
def gdOp (x:GOp):Prop:=(gdI .i64) x.kind/\(gd1 x.name/\((gdSl aJX) x.vars/\((gdSl aMT) x.dirs/\((gdSl aJd) x.sels/\(True)))))
theorem lI x:bkOp x=(bk1 x.kind+(dM x.name+((bkSl dZ) x.vars+((bkSl fD) x.dirs+((bkSl gI) x.sels+(0))))))+1:=rfl
theorem bHK x:gdOp x=((gdI .i64) x.kind/\(gd1 x.name/\((gdSl aJX) x.vars/\((gdSl aMT) x.dirs/\((gdSl aJd) x.sels/\(True)))))):=rfl
def gQ (x:GFrag):Nat:=(dM x.name+(dM x.on_+((bkSl fD) x.dirs+((bkSl gI) x.sels+(0)))))+1
def aYC (x:GFrag):Prop:=gd1 x.name/\(gd1 x.on_/\((gdSl aMT) x.dirs/\((gdSl aJd) x.sels/\(True))))
theorem kH x:gQ x=(dM x.name+(dM x.on_+((bkSl fD) x.dirs+((bkSl gI) x.sels+(0)))))+1:=rfl
theorem bDb x:aYC x=(gd1 x.name/\(gd1 x.on_/\((gdSl aMT) x.dirs/\((gdSl aJd) x.sels/\(True))))):=rfl
def fO (x:GDoc):Nat:=((bkSl bkOp) x.ops+((bkSl gQ) x.frags+(0)))+1
def bHL (x:GDoc):Prop:=(gdSl gdOp) x.ops/\((gdSl aYC) x.frags/\(True))
theorem pQ x:fO x=((bkSl bkOp) x.ops+((bkSl gQ) x.frags+(0)))+1:=rfl
theorem bFd x:bHL x=((gdSl gdOp) x.ops/\((gdSl aYC) x.frags/\(True))):=rfl
def aBu (x:GSeineref13Spot):Nat:=(dM x.typ+(gI x.x+(0)))+1
def aBv (x:GSeineref13Spot):Prop:=gd1 x.typ/\(aJd x.x/\(True))
theorem aEU x:aBu x=(dM x.typ+(gI x.x+(0)))+1:=rfl
theorem aEV x:aBv x=(gd1 x.typ/\(aJd x.x/\(True))):=rfl
def bGZ (x:GSpot):Nat:=(dM x.var+(aCl x.t+(bk1 x.has+(0))))+1
def bG0 (x:GSpot):Prop:=gd1 x.var/\(aEq x.t/\(gd1 x.has/\(True)))
theorem bDc x:bGZ x=(dM x.var+(aCl x.t+(bk1 x.has+(0))))+1:=rfl
theorem bDd x:bG0 x=(gd1 x.var/\(aEq x.t/\(gd1 x.has/\(True)))):=rfl
def TS:Nat->TypeId
 | 0=>49
 | 1=>52
 | 2=>70
 | 3=>61
 | 4=>41
 | 5=>104
 | 6=>100
 | 7=>24
 | 8=>54
 | 9=>44
 | 10=>38
 | 11=>68
 | 12=>28
 | 13=>83
 | _=>140
def BS:Nat->Ty
 | 0=>(.fcons .str (.fcons (.int .i64) (.fcons (.int .i64) .fnil)))
 | 1=>(.fcons (.int .i64) (.fcons (.int .i64) (.fcons .str (.fcons (.sl (.ext 1)) (.fcons (.sl (.ext 2)) .fnil)))))
 | 2=>(.fcons .str (.fcons (.ext 1) .fnil))
 | 3=>(.fcons .str (.fcons (.ext 0) (.fcons .bool (.fcons (.ext 1) .fnil))))
 | 4=>(.fcons .str (.fcons (.sl (.ext 2)) .fnil))
 | 5=>(.fcons .str (.fcons (.sl (.ext 3)) (.fcons (.ext 0) (.fcons (.sl (.ext 4)) .fnil))))
 | 6=>(.fcons (.int .i64) (.fcons .str (.fcons (.sl .str) (.fcons (.sl (.ext 5)) (.fcons (.sl .str) (.fcons (.sl (.ext 3)) .fnil))))))
 | 7=>(.fcons (.sl (.ext 6)) (.fcons .str (.fcons .str .fnil)))
 | 8=>(.fcons .str (.fcons (.ext 0) (.fcons .bool (.fcons (.ext 1) .fnil))))
 | 9=>(.fcons (.int .i64) (.fcons .str (.fcons .str (.fcons (.sl (.ext 2)) (.fcons (.sl (.ext 4)) (.fcons .str (.fcons (.sl (.ext 9)) .fnil)))))))
 | 10=>(.fcons (.int .i64) (.fcons .str (.fcons (.sl (.ext 8)) (.fcons (.sl (.ext 4)) (.fcons (.sl (.ext 9)) .fnil)))))
 | 11=>(.fcons .str (.fcons .str (.fcons (.sl (.ext 4)) (.fcons (.sl (.ext 9)) .fnil))))
 | 12=>(.fcons (.sl (.ext 10)) (.fcons (.sl (.ext 11)) .fnil))
 | 13=>(.fcons .str (.fcons (.ext 9) .fnil))
 | _=>(.fcons .str (.fcons (.ext 0) (.fcons .bool .fnil)))
abbrev bHM:RecTy:=⟨GType,lC,3,aCl,aEq,fun x=>vO _ (oF x) rfl rfl⟩
abbrev bFe:RecTy:=⟨GValue,aJ,5,cR,tL,fun x=>vO _ (gH x) rfl rfl⟩
abbrev bDe:RecTy:=⟨GMember,aD,6,aY,rV,fun x=>vO _ (lD x) rfl rfl⟩
abbrev bFf:RecTy:=⟨GParam,bB,10,kT,aHr,fun x=>vO _ (lF x) rfl rfl⟩
abbrev bIZ:RecTy:=⟨GDir,aI,2,fD,aMT,fun x=>vO _ (sJ x) rfl rfl⟩
abbrev aVG:RecTy:=⟨GFieldDef,bL,6,iY,aDA,fun x=>vO _ (fU x) rfl rfl⟩
abbrev bI0:RecTy:=⟨GDef,aL,6,aLa,bFa,fun x=>vO _ (sK x) rfl rfl⟩
abbrev bDf:RecTy:=⟨GSchema,dG,3,jT,aPI,fun x=>vO _ (jH x) rfl rfl⟩
abbrev bDg:RecTy:=⟨GVarDef,aB,10,dZ,aJX,fun x=>vO _ (dV x) rfl rfl⟩
abbrev bI1:RecTy:=⟨GSel,aF,7,gI,aJd,fun x=>vO _ (sL x) rfl rfl⟩
abbrev bJM:RecTy:=⟨GOp,aR,5,bkOp,gdOp,fun x=>vO _ (rU x) rfl rfl⟩
abbrev bHN:RecTy:=⟨GFrag,aH,4,gQ,aYC,fun x=>vO _ (oG x) rfl rfl⟩
abbrev bI2:RecTy:=⟨GDoc,mU,2,fO,bHL,fun x=>vO _ (sM x) rfl rfl⟩
abbrev aHs:RecTy:=⟨GSeineref13Spot,aM,8,aBu,aBv,fun x=>vO _ (fN x) rfl rfl⟩
abbrev bHO:RecTy:=⟨GSpot,aHq,5,bGZ,bG0,fun x=>vO _ (aDz x) rfl rfl⟩
abbrev RS:REnv
 | 0=>bHM
 | 1=>bFe
 | 2=>bDe
 | 3=>bFf
 | 4=>bIZ
 | 5=>aVG
 | 6=>bI0
 | 7=>bDf
 | 8=>bDg
 | 9=>bI1
 | 10=>bJM
 | 11=>bHN
 | 12=>bI2
 | 13=>aHs
 | _=>bHO
theorem hty:∀ i,∃ F,Tryz.prog.underlying (TS i)=some (.struct F)/\Tryz.prog.cellsOf (TS i)=(BS i).size RS/\flds RS Tryz.prog (tyOk RS TS Tryz.prog 9) F.toList 0 (BS i)=true
 | 0=>⟨_,Tryz.underlying49,by kernel_rfl,by kernel_rfl⟩
 | 1=>⟨_,Tryz.underlying52,by kernel_rfl,by kernel_rfl⟩
 | 2=>⟨_,Tryz.underlying70,by kernel_rfl,by kernel_rfl⟩
 | 3=>⟨_,Tryz.underlying61,by kernel_rfl,by kernel_rfl⟩
 | 4=>⟨_,Tryz.underlying41,by kernel_rfl,by kernel_rfl⟩
 | 5=>⟨_,Tryz.underlying104,by kernel_rfl,by kernel_rfl⟩
 | 6=>⟨_,Tryz.underlying100,by kernel_rfl,by kernel_rfl⟩
 | 7=>⟨_,Tryz.underlying24,by kernel_rfl,by kernel_rfl⟩
 | 8=>⟨_,Tryz.underlying54,by kernel_rfl,by kernel_rfl⟩
 | 9=>⟨_,Tryz.underlying44,by kernel_rfl,by kernel_rfl⟩
 | 10=>⟨_,Tryz.underlying38,by kernel_rfl,by kernel_rfl⟩
 | 11=>⟨_,Tryz.underlying68,by kernel_rfl,by kernel_rfl⟩
 | 12=>⟨_,Tryz.underlying28,by kernel_rfl,by kernel_rfl⟩
 | 13=>⟨_,Tryz.underlying83,by kernel_rfl,by kernel_rfl⟩
 | _+14=>⟨_,Tryz.underlying140,by kernel_rfl,by kernel_rfl⟩
theorem bI3 b a x2:lC ⟨b,a,x2⟩=(PV.agg ((PV.str b).cells++(PV.agg (((PV.int .i64) a).cells++(PV.agg (((PV.int .i64) x2).cells++(PV.agg []).cells)).cells)).cells)):=by
 simp only [tys,cells,List.cons_append,List.nil_append]
theorem bHP c a x2 x3 b:aJ ⟨c,a,x2,x3,b⟩=(PV.agg (((PV.int .i64) c).cells++(PV.agg (((PV.int .i64) a).cells++(PV.agg ((PV.str x2).cells++(PV.agg ((PV.slice (List.map aJ x3) [] false).cells++(PV.agg ((PV.slice (List.map aD b) [] false).cells++(PV.agg []).cells)).cells)).cells)).cells)).cells)):=by
 simp only [tys,cells,List.cons_append,List.nil_append]
theorem bFg b a:aD ⟨b,a⟩=(PV.agg ((PV.str b).cells++(PV.agg ((aJ a).cells++(PV.agg []).cells)).cells)):=by
 simp only [tys,cells,List.cons_append,List.nil_append]
theorem bHQ b a x2 x3:bB ⟨b,a,x2,x3⟩=(PV.agg ((PV.str b).cells++(PV.agg ((lC a).cells++(PV.agg ((PV.bool x2).cells++(PV.agg ((aJ x3).cells++(PV.agg []).cells)).cells)).cells)).cells)):=by
 simp only [tys,cells,List.cons_append,List.nil_append]
theorem bJN b a:aI ⟨b,a⟩=(PV.agg ((PV.str b).cells++(PV.agg ((PV.slice (List.map aD a) [] false).cells++(PV.agg []).cells)).cells)):=by
 simp only [tys,cells,List.cons_append,List.nil_append]
theorem bAf b a x2 x3:bL ⟨b,a,x2,x3⟩=(PV.agg ((PV.str b).cells++(PV.agg ((PV.slice (List.map bB a) [] false).cells++(PV.agg ((lC x2).cells++(PV.agg ((PV.slice (List.map aI x3) [] false).cells++(PV.agg []).cells)).cells)).cells)).cells)):=by
 simp only [tys,cells,List.cons_append,List.nil_append]
theorem bJO d b x2 x3 c a:aL ⟨d,b,x2,x3,c,a⟩=(PV.agg (((PV.int .i64) d).cells++(PV.agg ((PV.str b).cells++(PV.agg ((PV.slice (List.map PV.str x2) [] false).cells++(PV.agg ((PV.slice (List.map bL x3) [] false).cells++(PV.agg ((PV.slice (List.map PV.str c) [] false).cells++(PV.agg ((PV.slice (List.map bB a) [] false).cells++(PV.agg []).cells)).cells)).cells)).cells)).cells)).cells)):=by
 simp only [tys,cells,List.cons_append,List.nil_append]
theorem bFh b a x2:dG ⟨b,a,x2⟩=(PV.agg ((PV.slice (List.map aL b) [] false).cells++(PV.agg ((PV.str a).cells++(PV.agg ((PV.str x2).cells++(PV.agg []).cells)).cells)).cells)):=by
 simp only [tys,cells,List.cons_append,List.nil_append]
theorem bFi b a x2 x3:aB ⟨b,a,x2,x3⟩=(PV.agg ((PV.str b).cells++(PV.agg ((lC a).cells++(PV.agg ((PV.bool x2).cells++(PV.agg ((aJ x3).cells++(PV.agg []).cells)).cells)).cells)).cells)):=by
 simp only [tys,cells,List.cons_append,List.nil_append]
theorem bJP e b x2 x3 d a c:aF ⟨e,b,x2,x3,d,a,c⟩=(PV.agg (((PV.int .i64) e).cells++(PV.agg ((PV.str b).cells++(PV.agg ((PV.str x2).cells++(PV.agg ((PV.slice (List.map aD x3) [] false).cells++(PV.agg ((PV.slice (List.map aI d) [] false).cells++(PV.agg ((PV.str a).cells++(PV.agg ((PV.slice (List.map aF c) [] false).cells++(PV.agg []).cells)).cells)).cells)).cells)).cells)).cells)).cells)):=by
 simp only [tys,cells,List.cons_append,List.nil_append]
theorem cvOp c a x2 x3 b:aR ⟨c,a,x2,x3,b⟩=(PV.agg (((PV.int .i64) c).cells++(PV.agg ((PV.str a).cells++(PV.agg ((PV.slice (List.map aB x2) [] false).cells++(PV.agg ((PV.slice (List.map aI x3) [] false).cells++(PV.agg ((PV.slice (List.map aF b) [] false).cells++(PV.agg []).cells)).cells)).cells)).cells)).cells)):=by
 simp only [tys,cells,List.cons_append,List.nil_append]
theorem bI4 b a x2 x3:aH ⟨b,a,x2,x3⟩=(PV.agg ((PV.str b).cells++(PV.agg ((PV.str a).cells++(PV.agg ((PV.slice (List.map aI x2) [] false).cells++(PV.agg ((PV.slice (List.map aF x3) [] false).cells++(PV.agg []).cells)).cells)).cells)).cells)):=by
 simp only [tys,cells,List.cons_append,List.nil_append]
theorem bJQ b a:mU ⟨b,a⟩=(PV.agg ((PV.slice (List.map aR b) [] false).cells++(PV.agg ((PV.slice (List.map aH a) [] false).cells++(PV.agg []).cells)).cells)):=by
 simp only [tys,cells,List.cons_append,List.nil_append]
theorem aJe b a:aM ⟨b,a⟩=(PV.agg ((PV.str b).cells++(PV.agg ((aF a).cells++(PV.agg []).cells)).cells)):=by
 simp only [tys,cells,List.cons_append,List.nil_append]
theorem bI5 b a x2:aHq ⟨b,a,x2⟩=(PV.agg ((PV.str b).cells++(PV.agg ((lC a).cells++(PV.agg ((PV.bool x2).cells++(PV.agg []).cells)).cells)).cells)):=by
 simp only [tys,cells,List.cons_append,List.nil_append]
theorem hcv:∀ i x,∃ y,(RS i).en y=enc RS (BS i) x/\(RS i).bk y<=bulk RS (BS i) x+1/\(good RS (BS i) x->(RS i).gd y)
 | 0,⟨b,a,x2,_⟩=>⟨(⟨b,a,x2⟩:GType),(bI3 b a x2).trans rfl,Nat.le_of_eq ((lH _).trans rfl),fun h=>(bDa _).mpr h⟩
 | 1,⟨b,a,x2,x3,c,_⟩=>⟨(⟨b,a,x2,x3,c⟩:GValue),(bHP b a x2 x3 c).trans rfl,Nat.le_of_eq ((cL _).trans rfl),fun h=>(bAd _).mpr h⟩
 | 2,⟨b,a,_⟩=>⟨(⟨b,a⟩:GMember),(bFg b a).trans rfl,Nat.le_of_eq ((dE _).trans rfl),fun h=>(aVD _).mpr h⟩
 | 3,⟨b,a,x2,x3,_⟩=>⟨(⟨b,a,x2,x3⟩:GParam),(bHQ b a x2 x3).trans rfl,Nat.le_of_eq ((rC _).trans rfl),fun h=>(bAe _).mpr h⟩
 | 4,⟨b,a,_⟩=>⟨(⟨b,a⟩:GDir),(bJN b a).trans rfl,Nat.le_of_eq ((jS _).trans rfl),fun h=>(bE9 _).mpr h⟩
 | 5,⟨b,a,x2,x3,_⟩=>⟨(⟨b,a,x2,x3⟩:GFieldDef),(bAf b a x2 x3).trans rfl,Nat.le_of_eq ((mC _).trans rfl),fun h=>(aPH _).mpr h⟩
 | 6,⟨b,a,x2,x3,c,d,_⟩=>⟨(⟨b,a,x2,x3,c,d⟩:GDef),(bJO b a x2 x3 c d).trans rfl,Nat.le_of_eq ((pP _).trans rfl),fun h=>(bFb _).mpr h⟩
 | 7,⟨b,a,x2,_⟩=>⟨(⟨b,a,x2⟩:GSchema),(bFh b a x2).trans rfl,Nat.le_of_eq ((nK _).trans rfl),fun h=>(aVE _).mpr h⟩
 | 8,⟨b,a,x2,x3,_⟩=>⟨(⟨b,a,x2,x3⟩:GVarDef),(bFi b a x2 x3).trans rfl,Nat.le_of_eq ((fE _).trans rfl),fun h=>(aVF _).mpr h⟩
 | 9,⟨b,a,x2,x3,c,d,e,_⟩=>⟨(⟨b,a,x2,x3,c,d,e⟩:GSel),(bJP b a x2 x3 c d e).trans rfl,Nat.le_of_eq ((gO _).trans rfl),fun h=>(bFc _).mpr h⟩
 | 10,⟨b,a,x2,x3,c,_⟩=>⟨(⟨b,a,x2,x3,c⟩:GOp),(cvOp b a x2 x3 c).trans rfl,Nat.le_of_eq ((lI _).trans rfl),fun h=>(bHK _).mpr h⟩
 | 11,⟨b,a,x2,x3,_⟩=>⟨(⟨b,a,x2,x3⟩:GFrag),(bI4 b a x2 x3).trans rfl,Nat.le_of_eq ((kH _).trans rfl),fun h=>(bDb _).mpr h⟩
 | 12,⟨b,a,_⟩=>⟨(⟨b,a⟩:GDoc),(bJQ b a).trans rfl,Nat.le_of_eq ((pQ _).trans rfl),fun h=>(bFd _).mpr h⟩
 | 13,⟨b,a,_⟩=>⟨(⟨b,a⟩:GSeineref13Spot),(aJe b a).trans rfl,Nat.le_of_eq ((aEU _).trans rfl),fun h=>(aEV _).mpr h⟩
 | _+14,⟨b,a,x2,_⟩=>⟨(⟨b,a,x2⟩:GSpot),(bI5 b a x2).trans rfl,Nat.le_of_eq ((bDc _).trans rfl),fun h=>(bDd _).mpr h⟩
theorem rok {H} (e:TypeId×Value->H) W {b a} (c:BlOk b a):ROk RS TS e Tryz.prog W b where
 op:=bES c 9 BS hty hcv
 ag:=fun i=>match i with
  | 0=>fun x=>⟨_,oF x⟩
  | 1=>fun x=>⟨_,gH x⟩
  | 2=>fun x=>⟨_,lD x⟩
  | 3=>fun x=>⟨_,lF x⟩
  | 4=>fun x=>⟨_,sJ x⟩
  | 5=>fun x=>⟨_,fU x⟩
  | 6=>fun x=>⟨_,sK x⟩
  | 7=>fun x=>⟨_,jH x⟩
  | 8=>fun x=>⟨_,dV x⟩
  | 9=>fun x=>⟨_,sL x⟩
  | 10=>fun x=>⟨_,rU x⟩
  | 11=>fun x=>⟨_,oG x⟩
  | 12=>fun x=>⟨_,sM x⟩
  | 13=>fun x=>⟨_,fN x⟩
  | _+14=>fun x=>⟨_,aDz x⟩
 st:=fun i=>(hty i).imp fun F h=>h.1
open Go Go.Ev
abbrev aYD:=GSchema×GDoc×Int
abbrev morA:aYD->List PV:=fun x=>[(.agg [(.slice (List.map aL x.1.defs) [] false),(.str x.1.query),(.str x.1.mutation)]),(.agg [(.slice (List.map aR x.2.1.ops) [] false),(.slice (List.map aH x.2.1.frags) [] false)]),.int .i64 x.2.2]
abbrev morR:Bool->PV:=fun b => .bool b
def morF (x:aYD):Option Bool:=if jT x.1<=1048576/\fO x.2.1<=1048576 then some true else none
def MTL:List (Nat×Hints):=[(8,{takes:=[65,162],keeps:=[(6,[2,3,4,7,8,9])],drop:=true}),
 (10,{keeps:=[(2,[1,2,3])],drop:=true}),
 (11,{keeps:=[(4,[2,3,4,6,7])],drop:=true}),
 (25,{drop:=true}),
 (26,{drop:=true}),
 (78,{drop:=true}),
 (142,{gens:=[16],keeps:=[(2,[0,1,4,7,8])],drop:=true}),
 (77,{gens:=[7],drop:=true}),
 (27,{gens:=[17],drop:=true}),
 (80,{takes:=[15,18,26,29,31,34,36],keeps:=[(2,[0,9,10,11]),(6,[0,6,9,10,11,20,21,22])],own:=true,drop:=true,frl:=[(2,[1048576])]}),
 (28,{takes:=[11,26,29],keeps:=[(3,[2,5,14,15,16])],drop:=true,frz:=[(8,[5])]}),
 (29,{keeps:=[(2,[0,1,4,5])],drop:=true}),
 (37,{takes:=[28],keeps:=[(3,[0,3,4])],drop:=true}),
 (58,{takes:=[29,30,51,52],keeps:=[(3,[2,3,5,6]),(7,[2,3,5,7])],drop:=true}),
 (62,{keeps:=[(2,[2,3,4,6,7]),(9,[2,3,4,6,7,8,11])],drop:=true}),
 (96,{takes:=[48],keeps:=[(2,[1,2,3]),(6,[1,3,4,5]),(10,[1,3,4,5,6,7])],drop:=true}),
 (114,{takes:=[31,32,59],keeps:=[(3,[2,5,6]),(10,[2,5,9,10])],drop:=true}),
 (192,{keeps:=[(12,[4,6,8,9,11])],drop:=true}),
 (236,{takes:=[17,39,40,59,60,61],keeps:=[(4,[1,2,5]),(8,[1,2,6])],own:=true,drop:=true}),
 (238,{drop:=true}),
 (239,{takes:=[20],keeps:=[(3,[0,2,3,4,5])],drop:=true}),
 (32,{drop:=true}),
 (33,{keeps:=[(2,[1,2,3]),(8,[1,2,3,4,5]),(13,[1,2,6])],drop:=true}),
 (20,{keeps:=[(23,[2,3,4,6,7,8])],drop:=true}),
 (30,{keeps:=[(3,[1,3,4]),(8,[1,3,4,5,6])],drop:=true}),
 (31,{keeps:=[(3,[1,3,4]),(7,[1,3,4,5]),(11,[1,3,6])],drop:=true}),
 (75,{drop:=true}),
 (76,{drop:=true}),
 (145,{drop:=true}),
 (204,{gens:=[16],keeps:=[(2,[0,1,4,7,8])],drop:=true}),
 (144,{gens:=[7],drop:=true}),
 (148,{drop:=true}),
 (205,{gens:=[16],keeps:=[(2,[0,1,4,7,8])],drop:=true}),
 (147,{gens:=[7],drop:=true}),
 (150,{drop:=true}),
 (79,{gens:=[20,29,38],drop:=true}),
 (151,{takes:=[23,25,28],keeps:=[(2,[0,9,10,11]),(5,[0,9,10,11,17,18,19])],own:=true,drop:=true,frl:=[(2,[1048576])]}),
 (81,{takes:=[30],keeps:=[(4,[5,6,13,14,15])],drop:=true}),
 (154,{drop:=true}),
 (153,{gens:=[16],keeps:=[(2,[0,1,4,7,8])],drop:=true}),
 (82,{gens:=[10],drop:=true}),
 (103,{takes:=[11],keeps:=[(3,[0,3,4])],drop:=true}),
 (36,{takes:=[11],keeps:=[(3,[0,3,4])],drop:=true}),
 (116,{drop:=true}),
 (115,{takes:=[16,38,39,40],keeps:=[(2,[1,2,3,4,9])],own:=true,drop:=true}),
 (126,{takes:=[11],keeps:=[(3,[0,3,4])],drop:=true}),
 (127,{takes:=[11,32,33],keeps:=[(4,[2,5,6,7])],drop:=true}),
 (50,{keeps:=[(2,[0,2,3]),(5,[0,2,3,4])],drop:=true}),
 (128,{keeps:=[(2,[0,1,4,5])],drop:=true}),
 (129,{drop:=true}),
 (166,{takes:=[48,53],keeps:=[(4,[2,5,6,8])],own:=true,drop:=true}),
 (182,{takes:=[4],own:=true,drop:=true}),
 (113,{keeps:=[(2,[1,2,4,5,6])],drop:=true}),
 (183,{takes:=[28,41,42,43],keeps:=[(2,[0,1,5])],own:=true,drop:=true}),
 (101,{drop:=true}),
 (224,{drop:=true}),
 (164,{keeps:=[(4,[1,2,4,5,6])],drop:=true}),
 (225,{keeps:=[(2,[1,2,3,6,7]),(8,[1,2,3,6,7,10]),(13,[1,2,6,11])],drop:=true}),
 (250,{keeps:=[(2,[0,1,5])],drop:=true}),
 (251,{keeps:=[(17,[0,1,4,5,6,7,8,9])],drop:=true}),
 (89,{keeps:=[(3,[1,2,3,4])],drop:=true}),
 (90,{drop:=true}),
 (91,{keeps:=[(2,[1,2,3]),(8,[1,2,3,4,5])],drop:=true}),
 (92,{keeps:=[(2,[1,2,3]),(8,[1,2,3,4,5])],drop:=true}),
 (93,{keeps:=[(2,[1,2,3]),(6,[1,2,3,4,5]),(12,[1,2,3,4,5,6,8])],drop:=true}),
 (94,{keeps:=[(2,[1,2,3]),(6,[1,2,3,4,5]),(10,[1,2,3,4,5,6,8])],drop:=true}),
 (95,{keeps:=[(2,[1,2,3]),(5,[1,2,3,4])],drop:=true}),
 (97,{keeps:=[(2,[1,2,3]),(7,[1,2,3,4])],drop:=true}),
 (98,{keeps:=[(4,[0,2,3])],drop:=true}),
 (99,{keeps:=[(2,[0,1,2,6,7])],drop:=true}),
 (100,{keeps:=[(4,[0,1,4,5])],drop:=true}),
 (102,{drop:=true}),
 (51,{takes:=[19],keeps:=[(3,[1,3,4])],drop:=true}),
 (52,{keeps:=[(2,[2,3,4,5])],drop:=true}),
 (53,{takes:=[12],keeps:=[(3,[1,3,4])],drop:=true}),
 (54,{keeps:=[(2,[2,3,4,5]),(8,[2,4,6,7])],drop:=true}),
 (55,{keeps:=[(3,[3,4,5,6])],drop:=true}),
 (56,{keeps:=[(2,[1,2,3])],drop:=true}),
 (57,{keeps:=[(2,[1,2,3]),(6,[1,3,4,5])],drop:=true}),
 (59,{drop:=true}),
 (60,{keeps:=[(3,[2,4,6,7,8]),(6,[2,4,6,7,8,9])],drop:=true}),
 (61,{keeps:=[(3,[2,3,6,7,8]),(8,[2,3,6,7,8,9])],drop:=true}),
 (63,{keeps:=[(2,[2,3,4,5]),(5,[2,3,4,5,6]),(12,[2,4,8,9]),(17,[2,4,8,9,10])],drop:=true}),
 (64,{keeps:=[(2,[2,3,4,5]),(6,[2,3,4,5,6,7])],drop:=true}),
 (65,{keeps:=[(2,[2,3,4,5]),(7,[2,3,4,6])],drop:=true}),
 (83,{keeps:=[(3,[0,3,4])],drop:=true}),
 (84,{keeps:=[(3,[0,3,4])],drop:=true}),
 (85,{keeps:=[(3,[0,3,4])],drop:=true}),
 (86,{keeps:=[(3,[0,3,4])],drop:=true}),
 (87,{keeps:=[(3,[0,3,4])],drop:=true}),
 (88,{keeps:=[(3,[1,3,4]),(7,[1,3,5])],drop:=true}),
 (203,{drop:=true}),
 (143,{gens:=[18],keeps:=[(2,[1,2,6,7,8])],drop:=true}),
 (146,{drop:=true}),
 (206,{drop:=true}),
 (149,{gens:=[10],drop:=true}),
 (136,{drop:=true}),
 (207,{takes:=[4],drop:=true}),
 (208,{takes:=[25],keeps:=[(3,[0,1,4,5,8,9,10])],own:=true,drop:=true}),
 (152,{takes:=[10,28,31],keeps:=[(4,[2,5,6])],drop:=true}),
 (175,{takes:=[12],keeps:=[(3,[1,2,3,4])],drop:=true}),
 (184,{drop:=true}),
 (189,{takes:=[18,19,39,40,46,47,48],keeps:=[(2,[0,1,5]),(6,[0,1,5,6])],own:=true,drop:=true}),
 (190,{keeps:=[(3,[3,4]),(6,[3,4,5])],drop:=true,vecs:=[(7,1)],frz:=[(9,[3])]}),
 (159,{drop:=true}),
 (156,{drop:=true}),
 (193,{keeps:=[(2,[0,1,4,5,6])],drop:=true}),
 (219,{keeps:=[(2,[0,1,4,5,6])],drop:=true}),
 (195,{drop:=true}),
 (170,{drop:=true}),
 (155,{takes:=[12],keeps:=[(3,[1,3,4])],drop:=true}),
 (157,{keeps:=[(2,[1,2,3])],drop:=true}),
 (158,{keeps:=[(2,[0,2,3])],drop:=true}),
 (160,{takes:=[11],keeps:=[(3,[0,3,4])],drop:=true}),
 (161,{takes:=[11],keeps:=[(3,[0,3,4])],drop:=true}),
 (162,{keeps:=[(2,[0,2,3]),(5,[0,2,3,4])],drop:=true}),
 (163,{keeps:=[(2,[1,2,4,5])],drop:=true}),
 (118,{drop:=true}),
 (112,{drop:=true}),
 (117,{keeps:=[(7,[2,6,7,8,10])],drop:=true}),
 (165,{keeps:=[(4,[4,5,6,7]),(10,[4,5,6,10])],drop:=true}),
 (167,{keeps:=[(2,[1,2,4,5])],drop:=true}),
 (168,{keeps:=[(2,[1,2,4,5])],drop:=true}),
 (169,{drop:=true}),
 (171,{keeps:=[(2,[0,1,2,6,7])],drop:=true}),
 (172,{drop:=true}),
 (173,{drop:=true}),
 (174,{keeps:=[(4,[2,3,4,5])],drop:=true}),
 (119,{keeps:=[(3,[6,7,8,9])],drop:=true}),
 (120,{takes:=[17,33,51],keeps:=[(3,[2,3,5,6]),(7,[2,3,5,7]),(12,[5,8,9])],drop:=true}),
 (121,{drop:=true}),
 (122,{takes:=[11],keeps:=[(3,[0,3,4])],drop:=true}),
 (124,{drop:=true}),
 (123,{drop:=true}),
 (125,{drop:=true}),
 (130,{drop:=true}),
 (131,{keeps:=[(2,[1,2,3,6,7])],drop:=true}),
 (132,{takes:=[38],keeps:=[(4,[3,4,7,8,9])],drop:=true}),
 (134,{keeps:=[(2,[0,1,4,5])],drop:=true}),
 (133,{drop:=true}),
 (135,{keeps:=[(4,[2,3,4,5,8,9])],drop:=true}),
 (201,{drop:=true}),
 (200,{keeps:=[(2,[0,1,4,7,8])],drop:=true}),
 (230,{takes:=[18,32,34,45,48,50],keeps:=[(7,[0,26,27,28]),(13,[0,39,40,41])],own:=true,drop:=true}),
 (69,{takes:=[23,28,31,33],keeps:=[(2,[0,7,8,9])],own:=true,drop:=true}),
 (220,{takes:=[33,40],keeps:=[(2,[0,1,5]),(6,[0,1,5,6,7])],own:=true,drop:=true}),
 (209,{drop:=true}),
 (210,{drop:=true}),
 (211,{drop:=true}),
 (212,{drop:=true}),
 (213,{keeps:=[(4,[1,3,4]),(10,[1,3,5])],drop:=true}),
 (214,{takes:=[4],drop:=true}),
 (215,{keeps:=[(4,[0,1,4,5])],drop:=true}),
 (185,{takes:=[24,60,93],keeps:=[(8,[1,2,7,8]),(15,[2,5,7,10])],drop:=true}),
 (186,{keeps:=[(2,[0,1,4,5])],drop:=true}),
 (187,{keeps:=[(2,[0,2,3]),(5,[0,2,3,4])],drop:=true}),
 (188,{keeps:=[(2,[0,1,4,5])],drop:=true}),
 (191,{keeps:=[(25,[1,2,6]),(32,[1,2,7])],drop:=true}),
 (194,{takes:=[22,49,71,87],keeps:=[(3,[1,2,3,7,8]),(8,[1,2,3,7,8,9])],own:=true,drop:=true}),
 (196,{drop:=true}),
 (197,{drop:=true}),
 (199,{takes:=[26,37,66,75],keeps:=[(3,[2,3,4,5,9,10])],own:=true,drop:=true}),
 (198,{keeps:=[(2,[2,3,4,6,7]),(5,[2,3,4,6,7,8])],drop:=true}),
 (178,{keeps:=[(4,[1,4,5,13,14,15])],drop:=true}),
 (228,{drop:=true}),
 (232,{keeps:=[(2,[0,2,3])],drop:=true}),
 (233,{keeps:=[(2,[0,2,3])],drop:=true}),
 (234,{keeps:=[(2,[0,2,3])],drop:=true}),
 (235,{keeps:=[(2,[1,2,3]),(7,[1,2,4])],drop:=true}),
 (221,{drop:=true}),
 (222,{keeps:=[(5,[0,2,3,4,5,6])],drop:=true}),
 (223,{drop:=true}),
 (226,{takes:=[27],keeps:=[(3,[1,2,3,7,8])],drop:=true}),
 (227,{drop:=true}),
 (216,{drop:=true}),
 (245,{keeps:=[(2,[0,1,4,7,8])],drop:=true}),
 (240,{takes:=[55,95],keeps:=[(11,[4,7,9,11,12]),(17,[4,7,11,13,15])],drop:=true}),
 (241,{drop:=true}),
 (242,{keeps:=[(9,[4,5,8,13,14]),(12,[4,5,8,13,14,15])],drop:=true}),
 (243,{keeps:=[(4,[0,1,4,5])],drop:=true}),
 (244,{takes:=[22],drop:=true}),
 (252,{drop:=true})]
def MT (f:FuncId):Hints:=match Go.Ev.look MTL f with | some m=>m | none=>{}
def XT:Ext:=fun f=>Go.Ev.look [(8,(aZ7 Tryz.prog (fun _ _=>none) 8 morA morR morF)),(208,aER)] f
def O:Orc:=OL Tryz.prog MT XT
abbrev LBs:=bO->bO
abbrev EU:=Ex×List PV×UP
abbrev Ri {α:Type} (e:α->PV) (r:α) (v:PV×UP):Prop:=v=(e r,[])
abbrev eW (i:Nat) ds b O (c:LBs) a u:=zZ Tryz.prog (MT i) ds b.ntmps O c b a u
def aA:Bool->PV:=fun r=>PV.bool r
theorem aE a b (h:aA a=aA b):a=b:=Ev.bool_inj a b h
def vU (s:GSchema) (d:GDoc) (a:Int):Option Bool:=tO O 8 [(eS s),(eD d),(i6 a)] [] fun r=>(aA r,[])
def aZ:Int->PV:=fun r=>(PV.int .i64) r
theorem iZ a b (h:aZ a=aZ b):a=b:=(Ev.int_inj _) a b h
def aYE (s:GSchema):Option Int:=tO O 10 [(eS s)] [] fun r=>(aZ r,[])
def aVH (s:GSchema) (d:GDoc) (n:Int):Option Bool:=tO O 11 [(eS s),(eD d),(i6 n)] [] fun r=>(aA r,[])
def tM (s:GSchema) (d:GDoc):Option Bool:=tO O 25 [(eS s),(eD d)] [] fun r=>(aA r,[])
def aBw:Option Bool:=tO O 26 [] [] fun r=>(aA r,[])
def lJ (o:GOp) (u0_5:Int) (u0_4:GDoc) (u0_3:GSchema):Bool->UP:=fun r=>[[(5,[(i6 u0_5)]),(4,[(zq aR u0_4.ops),(zq aH u0_4.frags)]),(3,[(zq aL u0_3.defs),(.str u0_3.query),(.str u0_3.mutation)])]]
def aEW (o:GOp) (u0_5:Int) (u0_4:GDoc) (u0_3:GSchema):Option Bool:=tO O 78 [(.agg [(i6 o.kind),(.str o.name),(zq aB o.vars),(zq aI o.dirs),(zq aF o.sels)]),(.ptr 1 3 0),(.ptr 1 4 0),(.ptr 1 5 0)] [[(5,[(i6 u0_5)]),(4,[(zq aR u0_4.ops),(zq aH u0_4.frags)]),(3,[(zq aL u0_3.defs),(.str u0_3.query),(.str u0_3.mutation)])]] fun r=>(aA r,(lJ o u0_5 u0_4 u0_3 r))
def aIH (s:List GOp) (u0_5:Int) (u0_4:GDoc) (u0_3:GSchema):Int->UP:=fun r=>[[(5,[(i6 u0_5)]),(4,[(zq aR u0_4.ops),(zq aH u0_4.frags)]),(3,[(zq aL u0_3.defs),(.str u0_3.query),(.str u0_3.mutation)])]]
def bI6 (s:List GOp) (u0_5:Int) (u0_4:GDoc) (u0_3:GSchema):Option Int:=tO O 142 [(zq aR s),(.func (.func 78) [] [(.ptr 1 3 0),(.ptr 1 4 0),(.ptr 1 5 0)])] [[(5,[(i6 u0_5)]),(4,[(zq aR u0_4.ops),(zq aH u0_4.frags)]),(3,[(zq aL u0_3.defs),(.str u0_3.query),(.str u0_3.mutation)])]] fun r=>(aZ r,(aIH s u0_5 u0_4 u0_3 r))
def cE (s:List GOp) (u0_5:Int) (u0_4:GDoc) (u0_3:GSchema):Bool->UP:=fun r=>[[(5,[(i6 u0_5)]),(4,[(zq aR u0_4.ops),(zq aH u0_4.frags)]),(3,[(zq aL u0_3.defs),(.str u0_3.query),(.str u0_3.mutation)])]]
def qR (s:List GOp) (u0_5:Int) (u0_4:GDoc) (u0_3:GSchema):Option Bool:=tO O 77 [(zq aR s),(.func (.func 78) [] [(.ptr 1 3 0),(.ptr 1 4 0),(.ptr 1 5 0)])] [[(5,[(i6 u0_5)]),(4,[(zq aR u0_4.ops),(zq aH u0_4.frags)]),(3,[(zq aL u0_3.defs),(.str u0_3.query),(.str u0_3.mutation)])]] fun r=>(aA r,(cE s u0_5 u0_4 u0_3 r))
def mV (s:GSchema) (d:GDoc) (n:Int):Option Bool:=tO O 27 [(eS s),(eD d),(i6 n)] [] fun r=>(aA r,[])
def eJ:(List Str)->PV:=fun r => .vec 1 (List.map PV.str r)
theorem rW a b (h:eJ a=eJ b):a=b:=Ev.vec_inj Ev.str_inj a b h
def aCo (a:List GSel):Option (List Str):=tO O 80 [(.slice [] [] true),(zq aF a)] [] fun r=>(eJ r,[])
def bU:(List Str)->PV:=fun r=>(aCe PV.str) r
theorem jU a b (h:bU a=bU b):a=b:=(Ev.encSl_inj Ev.str_inj) a b h
def pR (d:GDoc) (a:List GSel):Option (List Str):=tO O 28 [(eD d),(zq aF a)] [] fun r=>(bU r,[])
def xJ (a:List Str) (s:Str):Option Bool:=tO O 29 [(zq PV.str a),(.str s)] [] fun r=>(aA r,[])
def aDB:(List GSel)->PV:=fun r=>(aCe aF) r
theorem bDh a b (h:aDB a=aDB b):a=b:=(Ev.encSl_inj aGs) a b h
def aPJ (a:List GSel):Option (List GSel):=tO O 37 [(zq aF a)] [] fun r=>(aDB r,[])
def aAd:(List GSeineref13Spot)->PV:=fun r=>(aCe aM) r
theorem bAg a b (h:aAd a=aAd b):a=b:=(Ev.encSl_inj vT) a b h
def aYF (s:GSchema) (d:GDoc):Option (List GSeineref13Spot):=tO O 58 [(eS s),(eD d)] [] fun r=>(aAd r,[])
def aHt (s:GSchema) (d:GDoc) (n:Int):Option Bool:=tO O 62 [(eS s),(eD d),(i6 n)] [] fun r=>(aA r,[])
def aYG (s:GSchema):Option Bool:=tO O 96 [(eS s)] [] fun r=>(aA r,[])
def aJY (d:GDoc) (a:List GSel):Option (List Str):=tO O 114 [(eD d),(zq aF a)] [] fun r=>(bU r,[])
def xK (s:GSchema) (t:GType) (v0:GValue) (a:Bool):Option Bool:=tO O 192 [(eS s),(eT t),(eV v0),(.bool a)] [] fun r=>(aA r,[])
def fA:(List Str)->PV:=fun r => .slice (List.map PV.str r) [] true
theorem sN a b (h:fA a=fA b):a=b:=Ev.encSlO_inj Ev.str_inj a b h
def aLb (v0:GValue) (a:List Str):Option (List Str):=tO O 236 [(eV v0),(zp PV.str a)] [] fun r=>(fA r,[])
def jV:(Int×Int)->PV:=fun r => .tuple [(PV.int .i64) r.1,(PV.int .i64) r.2]
theorem aII a b (h:jV a=jV b):a=b:=by
 simp only [jV,PV.tuple.injEq,List.cons.injEq,and_true] at h;exact Prod.ext ((Ev.int_inj _) _ _ h.1) ((Ev.int_inj _) _ _ h.2)
def aOy (s:Str):Option (Int×Int):=tO O 238 [(.str s)] [] fun r=>(jV r,[])
def vV:((List Int)×Bool)->PV:=fun r => .tuple [(aCe (PV.int .i64)) r.1,PV.bool r.2]
theorem bAh a b (h:vV a=vV b):a=b:=by
 simp only [vV,PV.tuple.injEq,List.cons.injEq,and_true] at h;exact Prod.ext ((Ev.encSl_inj (Ev.int_inj _)) _ _ h.1) (Ev.bool_inj _ _ h.2)
def aYH (s:Str):Option ((List Int)×Bool):=tO O 239 [(.str s)] [] fun r=>(vV r,[])
def aYI (d:GDoc):Option Bool:=tO O 33 [(eD d)] [] fun r=>(aA r,[])
def yG (s:GSchema) (d:GDoc) (n:Int):Option Bool:=tO O 20 [(eS s),(eD d),(i6 n)] [] fun r=>(aA r,[])
def aCp (s:GSchema):Option Bool:=tO O 30 [(eS s)] [] fun r=>(aA r,[])
def aCq (d:GDoc):Option Bool:=tO O 31 [(eD d)] [] fun r=>(aA r,[])
def lK (v0:GVarDef) (u0_6:GOp) (u0_5:GDoc) (u0_4:GSchema):Bool->UP:=fun r=>[[(6,[(i6 u0_6.kind),(.str u0_6.name),(zq aB u0_6.vars),(zq aI u0_6.dirs),(zq aF u0_6.sels)]),(5,[(zq aR u0_5.ops),(zq aH u0_5.frags)]),(4,[(zq aL u0_4.defs),(.str u0_4.query),(.str u0_4.mutation)])]]
def aEX (v0:GVarDef) (u0_6:GOp) (u0_5:GDoc) (u0_4:GSchema):Option Bool:=tO O 145 [(.agg [(.str v0.name),(.str v0.t.name),(i6 v0.t.lists),(i6 v0.t.musts),(.bool v0.has),(i6 v0.default.kind),(i6 v0.default.n),(.str v0.default.s),(zq aJ v0.default.l),(zq aD v0.default.m)]),(.ptr 1 4 0)] [[(6,[(i6 u0_6.kind),(.str u0_6.name),(zq aB u0_6.vars),(zq aI u0_6.dirs),(zq aF u0_6.sels)]),(5,[(zq aR u0_5.ops),(zq aH u0_5.frags)]),(4,[(zq aL u0_4.defs),(.str u0_4.query),(.str u0_4.mutation)])]] fun r=>(aA r,(lK v0 u0_6 u0_5 u0_4 r))
def oH (s:List GVarDef) (u0_6:GOp) (u0_5:GDoc) (u0_4:GSchema):Int->UP:=fun r=>[[(6,[(i6 u0_6.kind),(.str u0_6.name),(zq aB u0_6.vars),(zq aI u0_6.dirs),(zq aF u0_6.sels)]),(5,[(zq aR u0_5.ops),(zq aH u0_5.frags)]),(4,[(zq aL u0_4.defs),(.str u0_4.query),(.str u0_4.mutation)])]]
def aSu (s:List GVarDef) (u0_6:GOp) (u0_5:GDoc) (u0_4:GSchema):Option Int:=tO O 204 [(zq aB s),(.func (.func 145) [] [(.ptr 1 4 0)])] [[(6,[(i6 u0_6.kind),(.str u0_6.name),(zq aB u0_6.vars),(zq aI u0_6.dirs),(zq aF u0_6.sels)]),(5,[(zq aR u0_5.ops),(zq aH u0_5.frags)]),(4,[(zq aL u0_4.defs),(.str u0_4.query),(.str u0_4.mutation)])]] fun r=>(aZ r,(oH s u0_6 u0_5 u0_4 r))
def bP (s:List GVarDef) (u0_6:GOp) (u0_5:GDoc) (u0_4:GSchema):Bool->UP:=fun r=>[[(6,[(i6 u0_6.kind),(.str u0_6.name),(zq aB u0_6.vars),(zq aI u0_6.dirs),(zq aF u0_6.sels)]),(5,[(zq aR u0_5.ops),(zq aH u0_5.frags)]),(4,[(zq aL u0_4.defs),(.str u0_4.query),(.str u0_4.mutation)])]]
def gR (s:List GVarDef) (u0_6:GOp) (u0_5:GDoc) (u0_4:GSchema):Option Bool:=tO O 144 [(zq aB s),(.func (.func 145) [] [(.ptr 1 4 0)])] [[(6,[(i6 u0_6.kind),(.str u0_6.name),(zq aB u0_6.vars),(zq aI u0_6.dirs),(zq aF u0_6.sels)]),(5,[(zq aR u0_5.ops),(zq aH u0_5.frags)]),(4,[(zq aL u0_4.defs),(.str u0_4.query),(.str u0_4.mutation)])]] fun r=>(aA r,(bP s u0_6 u0_5 u0_4 r))
def lL (a:Str) (u0_6:GOp) (u0_5:GDoc) (u0_4:GSchema):Bool->UP:=fun r=>[[(6,[(i6 u0_6.kind),(.str u0_6.name),(zq aB u0_6.vars),(zq aI u0_6.dirs),(zq aF u0_6.sels)]),(5,[(zq aR u0_5.ops),(zq aH u0_5.frags)]),(4,[(zq aL u0_4.defs),(.str u0_4.query),(.str u0_4.mutation)])]]
def aEY (a:Str) (u0_6:GOp) (u0_5:GDoc) (u0_4:GSchema):Option Bool:=tO O 148 [(.str a),(.ptr 1 6 0)] [[(6,[(i6 u0_6.kind),(.str u0_6.name),(zq aB u0_6.vars),(zq aI u0_6.dirs),(zq aF u0_6.sels)]),(5,[(zq aR u0_5.ops),(zq aH u0_5.frags)]),(4,[(zq aL u0_4.defs),(.str u0_4.query),(.str u0_4.mutation)])]] fun r=>(aA r,(lL a u0_6 u0_5 u0_4 r))
def dH (s:List Str) (u0_6:GOp) (u0_5:GDoc) (u0_4:GSchema):Int->UP:=fun r=>[[(6,[(i6 u0_6.kind),(.str u0_6.name),(zq aB u0_6.vars),(zq aI u0_6.dirs),(zq aF u0_6.sels)]),(5,[(zq aR u0_5.ops),(zq aH u0_5.frags)]),(4,[(zq aL u0_4.defs),(.str u0_4.query),(.str u0_4.mutation)])]]
def aBx (s:List Str) (u0_6:GOp) (u0_5:GDoc) (u0_4:GSchema):Option Int:=tO O 205 [(zq PV.str s),(.func (.func 148) [] [(.ptr 1 6 0)])] [[(6,[(i6 u0_6.kind),(.str u0_6.name),(zq aB u0_6.vars),(zq aI u0_6.dirs),(zq aF u0_6.sels)]),(5,[(zq aR u0_5.ops),(zq aH u0_5.frags)]),(4,[(zq aL u0_4.defs),(.str u0_4.query),(.str u0_4.mutation)])]] fun r=>(aZ r,(dH s u0_6 u0_5 u0_4 r))
def aW (s:List Str) (u0_6:GOp) (u0_5:GDoc) (u0_4:GSchema):Bool->UP:=fun r=>[[(6,[(i6 u0_6.kind),(.str u0_6.name),(zq aB u0_6.vars),(zq aI u0_6.dirs),(zq aF u0_6.sels)]),(5,[(zq aR u0_5.ops),(zq aH u0_5.frags)]),(4,[(zq aL u0_4.defs),(.str u0_4.query),(.str u0_4.mutation)])]]
def dN (s:List Str) (u0_6:GOp) (u0_5:GDoc) (u0_4:GSchema):Option Bool:=tO O 147 [(zq PV.str s),(.func (.func 148) [] [(.ptr 1 6 0)])] [[(6,[(i6 u0_6.kind),(.str u0_6.name),(zq aB u0_6.vars),(zq aI u0_6.dirs),(zq aF u0_6.sels)]),(5,[(zq aR u0_5.ops),(zq aH u0_5.frags)]),(4,[(zq aL u0_4.defs),(.str u0_4.query),(.str u0_4.mutation)])]] fun r=>(aA r,(aW s u0_6 u0_5 u0_4 r))
def lM (v0:GVarDef) (u0_9:List Str) (u0_6:GOp) (u0_5:GDoc) (u0_4:GSchema):Bool->UP:=fun r=>[[(9,[(zq PV.str u0_9)]),(6,[(i6 u0_6.kind),(.str u0_6.name),(zq aB u0_6.vars),(zq aI u0_6.dirs),(zq aF u0_6.sels)]),(5,[(zq aR u0_5.ops),(zq aH u0_5.frags)]),(4,[(zq aL u0_4.defs),(.str u0_4.query),(.str u0_4.mutation)])]]
def aEZ (v0:GVarDef) (u0_9:List Str) (u0_6:GOp) (u0_5:GDoc) (u0_4:GSchema):Option Bool:=tO O 150 [(.agg [(.str v0.name),(.str v0.t.name),(i6 v0.t.lists),(i6 v0.t.musts),(.bool v0.has),(i6 v0.default.kind),(i6 v0.default.n),(.str v0.default.s),(zq aJ v0.default.l),(zq aD v0.default.m)]),(.ptr 1 9 0)] [[(9,[(zq PV.str u0_9)]),(6,[(i6 u0_6.kind),(.str u0_6.name),(zq aB u0_6.vars),(zq aI u0_6.dirs),(zq aF u0_6.sels)]),(5,[(zq aR u0_5.ops),(zq aH u0_5.frags)]),(4,[(zq aL u0_4.defs),(.str u0_4.query),(.str u0_4.mutation)])]] fun r=>(aA r,(lM v0 u0_9 u0_6 u0_5 u0_4 r))
def iE (s:List GVarDef) (u0_9:List Str) (u0_6:GOp) (u0_5:GDoc) (u0_4:GSchema):Int->UP:=fun r=>[[(9,[(zq PV.str u0_9)]),(6,[(i6 u0_6.kind),(.str u0_6.name),(zq aB u0_6.vars),(zq aI u0_6.dirs),(zq aF u0_6.sels)]),(5,[(zq aR u0_5.ops),(zq aH u0_5.frags)]),(4,[(zq aL u0_4.defs),(.str u0_4.query),(.str u0_4.mutation)])]]
def aIJ (s:List GVarDef) (u0_9:List Str) (u0_6:GOp) (u0_5:GDoc) (u0_4:GSchema):Option Int:=tO O 204 [(zq aB s),(.func (.func 150) [] [(.ptr 1 9 0)])] [[(9,[(zq PV.str u0_9)]),(6,[(i6 u0_6.kind),(.str u0_6.name),(zq aB u0_6.vars),(zq aI u0_6.dirs),(zq aF u0_6.sels)]),(5,[(zq aR u0_5.ops),(zq aH u0_5.frags)]),(4,[(zq aL u0_4.defs),(.str u0_4.query),(.str u0_4.mutation)])]] fun r=>(aZ r,(iE s u0_9 u0_6 u0_5 u0_4 r))
def bC (s:List GVarDef) (u0_9:List Str) (u0_6:GOp) (u0_5:GDoc) (u0_4:GSchema):Bool->UP:=fun r=>[[(9,[(zq PV.str u0_9)]),(6,[(i6 u0_6.kind),(.str u0_6.name),(zq aB u0_6.vars),(zq aI u0_6.dirs),(zq aF u0_6.sels)]),(5,[(zq aR u0_5.ops),(zq aH u0_5.frags)]),(4,[(zq aL u0_4.defs),(.str u0_4.query),(.str u0_4.mutation)])]]
def fF (s:List GVarDef) (u0_9:List Str) (u0_6:GOp) (u0_5:GDoc) (u0_4:GSchema):Option Bool:=tO O 144 [(zq aB s),(.func (.func 150) [] [(.ptr 1 9 0)])] [[(9,[(zq PV.str u0_9)]),(6,[(i6 u0_6.kind),(.str u0_6.name),(zq aB u0_6.vars),(zq aI u0_6.dirs),(zq aF u0_6.sels)]),(5,[(zq aR u0_5.ops),(zq aH u0_5.frags)]),(4,[(zq aL u0_4.defs),(.str u0_4.query),(.str u0_4.mutation)])]] fun r=>(aA r,(bC s u0_9 u0_6 u0_5 u0_4 r))
def aLc (s:GSchema) (d:GDoc) (o:GOp) (n:Int):Option Bool:=tO O 79 [(eS s),(eD d),(.agg [(i6 o.kind),(.str o.name),(zq aB o.vars),(zq aI o.dirs),(zq aF o.sels)]),(i6 n)] [] fun r=>(aA r,[])
def aHu (a:List Str) (args:List GMember):Option (List Str):=tO O 151 [(.vec 1 (List.map PV.str a)),(zq aD args)] [] fun r=>(eJ r,[])
def jA (b:List Str) (a:List GSel):Option (List Str):=tO O 80 [(.vec 1 (List.map PV.str b)),(zq aF a)] [] fun r=>(eJ r,[])
def aAL (d:GDoc) (a:List GSel):Option (List Str):=tO O 81 [(eD d),(zq aF a)] [] fun r=>(bU r,[])
def jW (f:GFrag) (u0_4:Str) (b:Str) (u0_3:Str) (a:GDoc):Bool->UP:=fun r=>[[(4,[(.str u0_4),(.str b),(.slice [] [] true),(.slice [] [] true)]),(3,[(.str u0_3)]),(2,[(zq aR a.ops),(zq aH a.frags)])]]
def aCr (f:GFrag) (u0_4:Str) (b:Str) (u0_3:Str) (a:GDoc):Option Bool:=tO O 154 [(.agg [(.str f.name),(.str f.on_),(zq aI f.dirs),(zq aF f.sels)]),(.ptr 1 3 0)] [[(4,[(.str u0_4),(.str b),(.slice [] [] true),(.slice [] [] true)]),(3,[(.str u0_3)]),(2,[(zq aR a.ops),(zq aH a.frags)])]] fun r=>(aA r,(jW f u0_4 b u0_3 a r))
def xL (s:List GFrag) (u0_4:Str) (b:Str) (u0_3:Str) (a:GDoc):Int->UP:=fun r=>[[(4,[(.str u0_4),(.str b),(.slice [] [] true),(.slice [] [] true)]),(3,[(.str u0_3)]),(2,[(zq aR a.ops),(zq aH a.frags)])]]
def aPK (s:List GFrag) (u0_4:Str) (b:Str) (u0_3:Str) (a:GDoc):Option Int:=tO O 153 [(zq aH s),(.func (.func 154) [] [(.ptr 1 3 0)])] [[(4,[(.str u0_4),(.str b),(.slice [] [] true),(.slice [] [] true)]),(3,[(.str u0_3)]),(2,[(zq aR a.ops),(zq aH a.frags)])]] fun r=>(aZ r,(xL s u0_4 b u0_3 a r))
def lN:(GFrag×Bool)->PV:=fun r => .tuple [aH r.1,PV.bool r.2]
theorem aIK a b (h:lN a=lN b):a=b:=by
 simp only [lN,PV.tuple.injEq,List.cons.injEq,and_true] at h;exact Prod.ext (aSr _ _ h.1) (Ev.bool_inj _ _ h.2)
def aDC (d:GDoc) (a:Str):Option (GFrag×Bool):=tO O 82 [(eD d),(.str a)] [] fun r=>(lN r,[])
def vW:(List GMember)->PV:=fun r=>(aCe aD) r
theorem aSv a b (h:vW a=vW b):a=b:=(Ev.encSl_inj nJ) a b h
def aAe (a:List GMember):Option (List GMember):=tO O 103 [(zq aD a)] [] fun r=>(vW r,[])
def aDD:(List GDir)->PV:=fun r=>(aCe aI) r
theorem bDi a b (h:aDD a=aDD b):a=b:=(Ev.encSl_inj aDx) a b h
def aVI (a:List GDir):Option (List GDir):=tO O 36 [(zq aI a)] [] fun r=>(aDD r,[])
def aAM:Str->PV:=fun r=>PV.str r
theorem aSw a b (h:aAM a=aAM b):a=b:=Ev.str_inj a b h
def aVJ (s:GSchema) (o:GOp):Option Str:=tO O 116 [(eS s),(.agg [(i6 o.kind),(.str o.name),(zq aB o.vars),(zq aI o.dirs),(zq aF o.sels)])] [] fun r=>(aAM r,[])
def aCs:(List GSeineref13Spot)->PV:=fun r => .slice (List.map aM r) [] true
theorem bAi a b (h:aCs a=aCs b):a=b:=Ev.encSlO_inj vT a b h
def aGu (s:GSchema) (b:Str) (c:List GSel) (a:List GSeineref13Spot):Option (List GSeineref13Spot):=tO O 115 [(eS s),(.str b),(zq aF c),(zp aM a)] [] fun r=>(aCs r,[])
def aE0 (a:List GVarDef):Option (List Str):=tO O 126 [(zq aB a)] [] fun r=>(bU r,[])
def aHv (d:GDoc) (a:List GSel):Option (List Str):=tO O 127 [(eD d),(zq aF a)] [] fun r=>(bU r,[])
def aPL (a:List Str):Option Bool:=tO O 50 [(zq PV.str a)] [] fun r=>(aA r,[])
def aIL (a:List Str) (b:List Str):Option Bool:=tO O 128 [(zq PV.str a),(zq PV.str b)] [] fun r=>(aA r,[])
def aPM (s:GSchema) (a:Str):Option Bool:=tO O 129 [(eS s),(.str a)] [] fun r=>(aA r,[])
def aJZ (s:GSchema) (a:Str):Option (List Str):=tO O 166 [(eS s),(.str a)] [] fun r=>(fA r,[])
def aHw (a:List GSel):Option (List Str):=tO O 182 [(zq aF a)] [] fun r=>(fA r,[])
def aPN (d:GDoc) (a:Str):Option (GFrag×Bool):=tO O 113 [(eD d),(.str a)] [] fun r=>(lN r,[])
def mD (b:List GSel) (a:List Str):Option (List Str):=tO O 183 [(zq aF b),(zp PV.str a)] [] fun r=>(fA r,[])
def sO (t:GType):Option Bool:=tO O 101 [(eT t)] [] fun r=>(aA r,[])
def aDE:(GType×Bool)->PV:=fun r => .tuple [lC r.1,PV.bool r.2]
theorem bDj a b (h:aDE a=aDE b):a=b:=by
 simp only [aDE,PV.tuple.injEq,List.cons.injEq,and_true] at h;exact Prod.ext (bC8 _ _ h.1) (Ev.bool_inj _ _ h.2)
def aVK (t:GType):Option (GType×Bool):=tO O 224 [(eT t)] [] fun r=>(aDE r,[])
def xM:(GDef×Bool)->PV:=fun r => .tuple [aL r.1,PV.bool r.2]
theorem aSx a b (h:xM a=xM b):a=b:=by
 simp only [xM,PV.tuple.injEq,List.cons.injEq,and_true] at h;exact Prod.ext (aYB _ _ h.1) (Ev.bool_inj _ _ h.2)
def aAN (s:GSchema) (a:Str):Option (GDef×Bool):=tO O 164 [(eS s),(.str a)] [] fun r=>(xM r,[])
def aDF (s:GSchema) (a:List GParam) (m:List GMember):Option Bool:=tO O 225 [(eS s),(zq bB a),(zq aD m)] [] fun r=>(aA r,[])
def aCt (s:Str) (i:Int):Option Int:=tO O 250 [(.str s),(.int .i64 i)] [] fun r=>(aZ r,[])
def aVL (s:Str) (i:Int):Option (Int×Int):=tO O 251 [(.str s),(i6 i)] [] fun r=>(jV r,[])
def aVM (s:Str):Option Bool:=tO O 98 [(.str s)] [] fun r=>(aA r,[])
def lO (x:GVarDef) (u0_4:GVarDef) (u0_1:GOp):Bool->UP:=fun r=>[[(4,[(.str u0_4.name),(.str u0_4.t.name),(i6 u0_4.t.lists),(i6 u0_4.t.musts),(.bool u0_4.has),(i6 u0_4.default.kind),(i6 u0_4.default.n),(.str u0_4.default.s),(zq aJ u0_4.default.l),(zq aD u0_4.default.m)]),(1,[(i6 u0_1.kind),(.str u0_1.name),(zq aB u0_1.vars),(zq aI u0_1.dirs),(zq aF u0_1.sels)])]]
def aE1 (x:GVarDef) (u0_4:GVarDef) (u0_1:GOp):Option Bool:=tO O 203 [(.agg [(.str x.name),(.str x.t.name),(i6 x.t.lists),(i6 x.t.musts),(.bool x.has),(i6 x.default.kind),(i6 x.default.n),(.str x.default.s),(zq aJ x.default.l),(zq aD x.default.m)]),(.ptr 1 4 0)] [[(4,[(.str u0_4.name),(.str u0_4.t.name),(i6 u0_4.t.lists),(i6 u0_4.t.musts),(.bool u0_4.has),(i6 u0_4.default.kind),(i6 u0_4.default.n),(.str u0_4.default.s),(zq aJ u0_4.default.l),(zq aD u0_4.default.m)]),(1,[(i6 u0_1.kind),(.str u0_1.name),(zq aB u0_1.vars),(zq aI u0_1.dirs),(zq aF u0_1.sels)])]] fun r=>(aA r,(lO x u0_4 u0_1 r))
def iF (s:List GVarDef) (u0_4:GVarDef) (u0_1:GOp):Int->UP:=fun r=>[[(4,[(.str u0_4.name),(.str u0_4.t.name),(i6 u0_4.t.lists),(i6 u0_4.t.musts),(.bool u0_4.has),(i6 u0_4.default.kind),(i6 u0_4.default.n),(.str u0_4.default.s),(zq aJ u0_4.default.l),(zq aD u0_4.default.m)]),(1,[(i6 u0_1.kind),(.str u0_1.name),(zq aB u0_1.vars),(zq aI u0_1.dirs),(zq aF u0_1.sels)])]]
def aIM (s:List GVarDef) (u0_4:GVarDef) (u0_1:GOp):Option Int:=tO O 204 [(zq aB s),(.func (.func 203) [] [(.ptr 1 4 0)])] [[(4,[(.str u0_4.name),(.str u0_4.t.name),(i6 u0_4.t.lists),(i6 u0_4.t.musts),(.bool u0_4.has),(i6 u0_4.default.kind),(i6 u0_4.default.n),(.str u0_4.default.s),(zq aJ u0_4.default.l),(zq aD u0_4.default.m)]),(1,[(i6 u0_1.kind),(.str u0_1.name),(zq aB u0_1.vars),(zq aI u0_1.dirs),(zq aF u0_1.sels)])]] fun r=>(aZ r,(iF s u0_4 u0_1 r))
def bD (s:List GVarDef) (u0_4:GVarDef) (u0_1:GOp):Bool->UP:=fun r=>[[(4,[(.str u0_4.name),(.str u0_4.t.name),(i6 u0_4.t.lists),(i6 u0_4.t.musts),(.bool u0_4.has),(i6 u0_4.default.kind),(i6 u0_4.default.n),(.str u0_4.default.s),(zq aJ u0_4.default.l),(zq aD u0_4.default.m)]),(1,[(i6 u0_1.kind),(.str u0_1.name),(zq aB u0_1.vars),(zq aI u0_1.dirs),(zq aF u0_1.sels)])]]
def fG (s:List GVarDef) (u0_4:GVarDef) (u0_1:GOp):Option Bool:=tO O 144 [(zq aB s),(.func (.func 203) [] [(.ptr 1 4 0)])] [[(4,[(.str u0_4.name),(.str u0_4.t.name),(i6 u0_4.t.lists),(i6 u0_4.t.musts),(.bool u0_4.has),(i6 u0_4.default.kind),(i6 u0_4.default.n),(.str u0_4.default.s),(zq aJ u0_4.default.l),(zq aD u0_4.default.m)]),(1,[(i6 u0_1.kind),(.str u0_1.name),(zq aB u0_1.vars),(zq aI u0_1.dirs),(zq aF u0_1.sels)])]] fun r=>(aA r,(bD s u0_4 u0_1 r))
def aLd (o:GOp):Option Bool:=tO O 143 [(.agg [(i6 o.kind),(.str o.name),(zq aB o.vars),(zq aI o.dirs),(zq aF o.sels)])] [] fun r=>(aA r,[])
def aPO (s:GSchema) (a:Str):Option Bool:=tO O 146 [(eS s),(.str a)] [] fun r=>(aA r,[])
def nL (v0:GVarDef) (u0_4:Str) (h:Str) (g:Int) (f:Int) (e:Bool) (d:Int) (c:Int) (a:Str) (u0_3:Str) (b:GOp):Bool->UP:=fun r=>[[(4,[(.str u0_4),(.str h),(i6 g),(i6 f),(.bool e),(i6 d),(i6 c),(.str a),(.slice [] [] true),(.slice [] [] true)]),(3,[(.str u0_3)]),(2,[(i6 b.kind),(.str b.name),(zq aB b.vars),(zq aI b.dirs),(zq aF b.sels)])]]
def aHx (v0:GVarDef) (u0_4:Str) (h:Str) (g:Int) (f:Int) (e:Bool) (c:Int) (b:Int) (a:Str) (u0_3:Str) (d:GOp):Option Bool:=tO O 206 [(.agg [(.str v0.name),(.str v0.t.name),(i6 v0.t.lists),(i6 v0.t.musts),(.bool v0.has),(i6 v0.default.kind),(i6 v0.default.n),(.str v0.default.s),(zq aJ v0.default.l),(zq aD v0.default.m)]),(.ptr 1 3 0)] [[(4,[(.str u0_4),(.str h),(i6 g),(i6 f),(.bool e),(i6 c),(i6 b),(.str a),(.slice [] [] true),(.slice [] [] true)]),(3,[(.str u0_3)]),(2,[(i6 d.kind),(.str d.name),(zq aB d.vars),(zq aI d.dirs),(zq aF d.sels)])]] fun r=>(aA r,(nL v0 u0_4 h g f e c b a u0_3 d r))
def iG (s:List GVarDef) (u0_4:Str) (h:Str) (g:Int) (f:Int) (e:Bool) (d:Int) (c:Int) (a:Str) (u0_3:Str) (b:GOp):Int->UP:=fun r=>[[(4,[(.str u0_4),(.str h),(i6 g),(i6 f),(.bool e),(i6 d),(i6 c),(.str a),(.slice [] [] true),(.slice [] [] true)]),(3,[(.str u0_3)]),(2,[(i6 b.kind),(.str b.name),(zq aB b.vars),(zq aI b.dirs),(zq aF b.sels)])]]
def aCu (s:List GVarDef) (u0_4:Str) (h:Str) (g:Int) (f:Int) (e:Bool) (c:Int) (b:Int) (a:Str) (u0_3:Str) (d:GOp):Option Int:=tO O 204 [(zq aB s),(.func (.func 206) [] [(.ptr 1 3 0)])] [[(4,[(.str u0_4),(.str h),(i6 g),(i6 f),(.bool e),(i6 c),(i6 b),(.str a),(.slice [] [] true),(.slice [] [] true)]),(3,[(.str u0_3)]),(2,[(i6 d.kind),(.str d.name),(zq aB d.vars),(zq aI d.dirs),(zq aF d.sels)])]] fun r=>(aZ r,(iG s u0_4 h g f e c b a u0_3 d r))
def aAf:(GVarDef×Bool)->PV:=fun r => .tuple [aB r.1,PV.bool r.2]
theorem bAj a b (h:aAf a=aAf b):a=b:=by
 simp only [aAf,PV.tuple.injEq,List.cons.injEq,and_true] at h;exact Prod.ext (aK8 _ _ h.1) (Ev.bool_inj _ _ h.2)
def aPP (o:GOp) (a:Str):Option (GVarDef×Bool):=tO O 149 [(.agg [(i6 o.kind),(.str o.name),(zq aB o.vars),(zq aI o.dirs),(zq aF o.sels)]),(.str a)] [] fun r=>(aAf r,[])
def bJ (s:List Str) (v0:Str):Option Bool:=tO O 136 [(zq PV.str s),(.str v0)] [] fun r=>(aA r,[])
def aHy (v0:GValue):Option (List Str):=tO O 207 [(eV v0)] [] fun r=>(bU r,[])
def aE2 (b:List Str) (a:Str):Option (List Str):=tO O 208 [(.vec 1 (List.map PV.str b)),(.str a)] [] fun r=>(eJ r,[])
def aAO (d:GDoc) (a:List GSel):Option (List Str):=tO O 152 [(eD d),(zq aF a)] [] fun r=>(bU r,[])
def aCv:GValue->PV:=fun r=>aJ r
theorem bAk a b (h:aCv a=aCv b):a=b:=uW a b h
def aDG (v0:GValue):Option GValue:=tO O 175 [(eV v0)] [] fun r=>(aCv r,[])
def aLe (s:GSchema) (a:Str) (x:GSel):Option Str:=tO O 184 [(eS s),(.str a),(eL x)] [] fun r=>(aAM r,[])
def rD (b:List GSel) (a:List Str):Option (List Str):=tO O 189 [(zq aF b),(zp PV.str a)] [] fun r=>(fA r,[])
def aLf (a:List Str):Option (List Str):=tO O 190 [(zq PV.str a)] [] fun r=>(bU r,[])
def bDk (s:GSchema) (d:Str) (a:Int) (b:Int) (c:Int):Option Bool:=tO O 159 [(eS s),(.str d),(i6 a),(i6 b),(i6 c)] [] fun r=>(aA r,[])
def aLg (a:Str):Option Bool:=tO O 156 [(.str a)] [] fun r=>(aA r,[])
def aAg:(GParam×Bool)->PV:=fun r => .tuple [bB r.1,PV.bool r.2]
theorem bAl a b (h:aAg a=aAg b):a=b:=by
 simp only [aAg,PV.tuple.injEq,List.cons.injEq,and_true] at h;exact Prod.ext (aHp _ _ h.1) (Ev.bool_inj _ _ h.2)
def aPQ (b:List GParam) (a:Str):Option (GParam×Bool):=tO O 193 [(zq bB b),(.str a)] [] fun r=>(aAg r,[])
def aHz:(GValue×Bool)->PV:=fun r => .tuple [aJ r.1,PV.bool r.2]
theorem bFj a b (h:aHz a=aHz b):a=b:=by
 simp only [aHz,PV.tuple.injEq,List.cons.injEq,and_true] at h;exact Prod.ext (uW _ _ h.1) (Ev.bool_inj _ _ h.2)
def aYJ (a:Str) (b:List GMember):Option (GValue×Bool):=tO O 219 [(.str a),(zq aD b)] [] fun r=>(aHz r,[])
def bHR (t:GType):Option Bool:=tO O 195 [(eT t)] [] fun r=>(aA r,[])
def aJ0 (c:Int):Option Bool:=tO O 170 [(.int .u8 c)] [] fun r=>(aA r,[])
def aCw (s:GSchema) (a:Str):Option Bool:=tO O 112 [(eS s),(.str a)] [] fun r=>(aA r,[])
def aAh:(GFieldDef×Bool)->PV:=fun r => .tuple [bL r.1,PV.bool r.2]
theorem bAm a b (h:aAh a=aAh b):a=b:=by
 simp only [aAh,PV.tuple.injEq,List.cons.injEq,and_true] at h;exact Prod.ext (aGr _ _ h.1) (Ev.bool_inj _ _ h.2)
def aPR (s:GSchema) (b:Str) (a:Str):Option (GFieldDef×Bool):=tO O 117 [(eS s),(.str b),(.str a)] [] fun r=>(aAh r,[])
def aJ1 (c:Int):Option Bool:=tO O 169 [(.int .u8 c)] [] fun r=>(aA r,[])
def aVN (s:GSchema) (b:Str) (a:List Int):Option Bool:=tO O 201 [(eS s),(.str b),(.slice (List.map (PV.int .i64) a) [] false)] [] fun r=>(aA r,[])
def eA (s:List Str) (v0:Str):Option Int:=tO O 200 [(zq PV.str s),(.str v0)] [] fun r=>(aZ r,[])
def aAi (a:List Str) (v0:GValue):Option (List Str):=tO O 230 [(zp PV.str a),(eV v0)] [] fun r=>(fA r,[])
def eK (b:List Str) (a:List GSel):Option (List Str):=tO O 69 [(zp PV.str b),(zq aF a)] [] fun r=>(fA r,[])
def aPS (m:List GMember) (a:List Str):Option (List Str):=tO O 220 [(zq aD m),(zp PV.str a)] [] fun r=>(fA r,[])
def aVO (v0:GValue):Option (List Str):=tO O 214 [(eV v0)] [] fun r=>(bU r,[])
def aVP (s:GSchema) (a:Str):Option (GDef×Bool):=tO O 178 [(eS s),(.str a)] [] fun r=>(xM r,[])
def jX (s:List Int) (v0:Int):Option Bool:=tO O 228 [(.slice (List.map (PV.int .i64) s) [] false),(i6 v0)] [] fun r=>(aA r,[])
def aLh (a:Str):Option Bool:=tO O 216 [(.str a)] [] fun r=>(aA r,[])
def iU (s:List Int) (v0:Int):Option Int:=tO O 245 [(.slice (List.map (PV.int .i64) s) [] false),(i6 v0)] [] fun r=>(aZ r,[])
theorem zes:(∀ r,aA r=PV.bool r) /\
 (∀ r,aZ r=(PV.int .i64) r) /\
 (∀ r,eJ r = .vec 1 (List.map PV.str r)) /\
 (∀ r,bU r=(aCe PV.str) r) /\
 (∀ r,aDB r=(aCe aF) r) /\
 (∀ r,aAd r=(aCe aM) r) /\
 (∀ r,fA r = .slice (List.map PV.str r) [] true) /\
 (∀ r,jV r = .tuple [(PV.int .i64) r.1,(PV.int .i64) r.2]) /\
 (∀ r,vV r = .tuple [(aCe (PV.int .i64)) r.1,PV.bool r.2]) /\
 (∀ r,lN r = .tuple [aH r.1,PV.bool r.2]) /\
 (∀ r,vW r=(aCe aD) r) /\
 (∀ r,aDD r=(aCe aI) r) /\
 (∀ r,aAM r=PV.str r) /\
 (∀ r,aCs r = .slice (List.map aM r) [] true) /\
 (∀ r,aDE r = .tuple [lC r.1,PV.bool r.2]) /\
 (∀ r,xM r = .tuple [aL r.1,PV.bool r.2]) /\
 (∀ r,aAf r = .tuple [aB r.1,PV.bool r.2]) /\
 (∀ r,aCv r=aJ r) /\
 (∀ r,aAg r = .tuple [bB r.1,PV.bool r.2]) /\
 (∀ r,aHz r = .tuple [aJ r.1,PV.bool r.2]) /\
 (∀ r,aAh r = .tuple [bL r.1,PV.bool r.2]) :=
 ⟨fun _=>rfl,fun _=>rfl,fun _=>rfl,fun _=>rfl,fun _=>rfl,fun _=>rfl,fun _=>rfl,fun _=>rfl,fun _=>rfl,fun _=>rfl,fun _=>rfl,fun _=>rfl,fun _=>rfl,fun _=>rfl,fun _=>rfl,fun _=>rfl,fun _=>rfl,fun _=>rfl,fun _=>rfl,fun _=>rfl,fun _=>rfl⟩
end Go.Proofs.YtphmfillajagdaaGreat

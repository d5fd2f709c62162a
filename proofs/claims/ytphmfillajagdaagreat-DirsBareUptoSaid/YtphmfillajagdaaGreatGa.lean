import Derived.Test.YtphmfillajagdaaGreatEd
import Derived.Test.YtphmfillajagdaaGreatProg
import Derived.KernelRfl
import Derived.Test.YtphmfillajagdaaGreatEt
set_option linter.unusedVariables false
set_option linter.unusedSimpArgs false
set_option linter.unusedSimpArgs false
open Go Go.Ev Go.Ev.PV
namespace Go.Proofs.YtphmfillajagdaaGreat
structure GType where
 name:Str
 lists:Int
 musts:Int
mutual
structure GValue where
 kind:Int
 n:Int
 s:Str
 l:List GValue
 m:List GMember
structure GMember where
 name:Str
 v:GValue
end
structure GParam where
 name:Str
 t:GType
 has:Bool
 default:GValue
structure GDir where
 name:Str
 args:List GMember
structure GFieldDef where
 name:Str
 params:List GParam
 t:GType
 dirs:List GDir
structure GDef where
 kind:Int
 name:Str
 faces:List Str
 fields:List GFieldDef
 parts:List Str
 params:List GParam
structure GSchema where
 defs:List GDef
 query:Str
 mutation:Str
structure GVarDef where
 name:Str
 t:GType
 has:Bool
 default:GValue
structure GSel where
 kind:Int
 alias:Str
 name:Str
 args:List GMember
 dirs:List GDir
 on_:Str
 sels:List GSel
structure GOp where
 kind:Int
 name:Str
 vars:List GVarDef
 dirs:List GDir
 sels:List GSel
structure GFrag where
 name:Str
 on_:Str
 dirs:List GDir
 sels:List GSel
structure GDoc where
 ops:List GOp
 frags:List GFrag
structure GSeineref13Spot where
 typ:Str
 x:GSel
structure GSpot where
 var:Str
 t:GType
 has:Bool
def aSL:Sh := .agg [.str,n6,n6]
def mK:Sh := .agg [n6,n6,.str,sf,sf]
def dS:Sh := .agg [.str,n6,n6,.str,sf,sf]
def iK:Sh := .agg [.str,.str,n6,n6,.bool,n6,n6,.str,sf,sf]
def aGa:Sh := .agg [.str,sf]
def cQ:Sh := .agg [.str,sf,.str,n6,n6,sf]
def oS:Sh := .agg [n6,.str,sf,sf,sf,sf]
def aSM:Sh := .agg [sf,.str,.str]
def aSN:Sh := .agg [.str,.str,n6,n6,.bool,n6,n6,.str,sf,sf]
def oT:Sh := .agg [n6,.str,.str,sf,sf,.str,sf]
def shOp:Sh := .agg [n6,.str,sf,sf,sf]
def iP:Sh := .agg [.str,.str,sf,sf]
def aYs:Sh := .agg [sf,sf]
def xV:Sh := .agg [.str,n6,.str,.str,sf,sf,.str,sf]
def bAf:Sh := .agg [.str,.str,n6,n6,.bool]
def iZ (x:GType):PV := .agg [.str x.name,.int .i64 x.lists,.int .i64 x.musts]
theorem iC (x:GType):iZ x = .agg [.str x.name,.int .i64 x.lists,.int .i64 x.musts]:=rfl
theorem aWQ (x:GType):chk aSL (iZ x)=true:=by rw [iC];rfl
theorem aWR (a b:GType) (h:iZ a=iZ b):a=b:=by
 simp only [iC,PV.agg.injEq,List.cons.injEq,PV.slice.injEq,PV.str.injEq,PV.int.injEq,PV.bool.injEq,true_and,and_true] at h
 obtain ⟨a0,a1,a2⟩:=a
 obtain ⟨b0,b1,b2⟩:=b
 dsimp only at h
 have e0:=h.1
 have e1:=h.2.1
 have e2:=h.2.2
 subst e0 e1 e2
 rfl
mutual
def aN:GValue→PV
 | ⟨x0,x1,x2,x3,x4⟩ => .agg ([.int .i64 x0,.int .i64 x1,.str x2,.slice (jW x3) [] false,.slice (iD x4) [] false])
def aD:GMember→PV
 | ⟨x0,x1⟩ => .agg ([.str x0]++(aN x1).cells)
def jW:List GValue→List PV
 | []=>[]
 | x::l=>aN x::jW l
def iD:List GMember→List PV
 | []=>[]
 | x::l=>aD x::iD l
end
theorem aAh:∀ (l:List GValue),jW l=List.map aN l
 | []=>by simp only [jW,List.map]
 | x::l=>by simp only [jW,List.map,aAh l]
theorem vS:∀ (l:List GMember),iD l=List.map aD l
 | []=>by simp only [iD,List.map]
 | x::l=>by simp only [iD,List.map,vS l]
theorem eO (x:GValue):aN x = .agg [.int .i64 x.kind,.int .i64 x.n,.str x.s,.slice (List.map aN x.l) [] false,.slice (List.map aD x.m) [] false]:=by
 cases x;simp only [aN,cells,List.cons_append,List.nil_append,aAh,vS]
theorem jA (x:GMember):aD x = .agg [.str x.name,.int .i64 x.v.kind,.int .i64 x.v.n,.str x.v.s,.slice (List.map aN x.v.l) [] false,.slice (List.map aD x.v.m) [] false]:=by
 cases x;simp only [aD,cells,List.cons_append,List.nil_append,aAh,vS,eO]
theorem aBf (x:GValue):chk mK (aN x)=true:=by rw [eO];rfl
theorem fO (x:GMember):chk dS (aD x)=true:=by rw [jA];rfl
mutual
theorem qL:∀ (a b:GValue),aN a=aN b→a=b
 | ⟨a0,a1,a2,a3,a4⟩,⟨b0,b1,b2,b3,b4⟩,h=>by
  simp only [aN,PV.agg.injEq,List.cons.injEq,List.append_eq,PV.slice.injEq,PV.str.injEq,PV.int.injEq,PV.bool.injEq,true_and,and_true] at h
  have e0:=h.1
  have e1:=h.2.1
  have e2:=h.2.2.1
  have e3:=aHE _ _ h.2.2.2.1
  have e4:=aFJ _ _ h.2.2.2.2
  subst e0 e1 e2 e3 e4
  rfl
theorem kM:∀ (a b:GMember),aD a=aD b→a=b
 | ⟨a0,a1⟩,⟨b0,b1⟩,h=>by
  simp only [aD,PV.agg.injEq,List.cons_append,List.nil_append,List.cons.injEq,PV.slice.injEq,PV.str.injEq,PV.int.injEq,PV.bool.injEq,true_and,and_true] at h
  have e0:=h.1
  have e1:=qL a1 b1 (by
   have h':=h.2
   cases a1;cases b1;simp only [aN,cells] at h' ⊢;rw [h'])
  subst e0 e1
  rfl
theorem aHE:∀ (a b:List GValue),jW a=jW b→a=b
 | [],[],_=>rfl
 | [],_::_,h=>by simp [jW] at h
 | _::_,[],h=>by simp [jW] at h
 | x::l,y::m,h=>by
  simp only [jW,List.cons.injEq] at h
  rw [qL x y h.1,aHE l m h.2]
theorem aFJ:∀ (a b:List GMember),iD a=iD b→a=b
 | [],[],_=>rfl
 | [],_::_,h=>by simp [iD] at h
 | _::_,[],h=>by simp [iD] at h
 | x::l,y::m,h=>by
  simp only [iD,List.cons.injEq] at h
  rw [kM x y h.1,aFJ l m h.2]
end
def aQ (x:GParam):PV := .agg [.str x.name,.str x.t.name,.int .i64 x.t.lists,.int .i64 x.t.musts,.bool x.has,.int .i64 x.default.kind,.int .i64 x.default.n,.str x.default.s,.slice (List.map aN x.default.l) [] false,.slice (List.map aD x.default.m) [] false]
theorem jB (x:GParam):aQ x = .agg [.str x.name,.str x.t.name,.int .i64 x.t.lists,.int .i64 x.t.musts,.bool x.has,.int .i64 x.default.kind,.int .i64 x.default.n,.str x.default.s,.slice (List.map aN x.default.l) [] false,.slice (List.map aD x.default.m) [] false]:=rfl
theorem nN (x:GParam):chk iK (aQ x)=true:=by rw [jB];rfl
theorem aEL (a b:GParam) (h:aQ a=aQ b):a=b:=by
 simp only [jB,PV.agg.injEq,List.cons.injEq,PV.slice.injEq,PV.str.injEq,PV.int.injEq,PV.bool.injEq,true_and,and_true] at h
 obtain ⟨a0,⟨a1,a2,a3⟩,a4,⟨a5,a6,a7,a8,a9⟩⟩:=a
 obtain ⟨b0,⟨b1,b2,b3⟩,b4,⟨b5,b6,b7,b8,b9⟩⟩:=b
 dsimp only at h
 have e0:=h.1
 have e1:=h.2.1
 have e2:=h.2.2.1
 have e3:=h.2.2.2.1
 have e4:=h.2.2.2.2.1
 have e5:=h.2.2.2.2.2.1
 have e6:=h.2.2.2.2.2.2.1
 have e7:=h.2.2.2.2.2.2.2.1
 have e8:=cL qL h.2.2.2.2.2.2.2.2.1
 have e9:=cL kM h.2.2.2.2.2.2.2.2.2
 subst e0 e1 e2 e3 e4 e5 e6 e7 e8 e9
 rfl
def aH (x:GDir):PV := .agg [.str x.name,.slice (List.map aD x.args) [] false]
theorem oU (x:GDir):aH x = .agg [.str x.name,.slice (List.map aD x.args) [] false]:=rfl
theorem aBg (x:GDir):chk aGa (aH x)=true:=by rw [oU];rfl
theorem vT (a b:GDir) (h:aH a=aH b):a=b:=by
 simp only [oU,PV.agg.injEq,List.cons.injEq,PV.slice.injEq,PV.str.injEq,PV.int.injEq,PV.bool.injEq,true_and,and_true] at h
 obtain ⟨a0,a1⟩:=a
 obtain ⟨b0,b1⟩:=b
 dsimp only at h
 have e0:=h.1
 have e1:=cL kM h.2
 subst e0 e1
 rfl
def aK (x:GFieldDef):PV := .agg [.str x.name,.slice (List.map aQ x.params) [] false,.str x.t.name,.int .i64 x.t.lists,.int .i64 x.t.musts,.slice (List.map aH x.dirs) [] false]
theorem eB (x:GFieldDef):aK x = .agg [.str x.name,.slice (List.map aQ x.params) [] false,.str x.t.name,.int .i64 x.t.lists,.int .i64 x.t.musts,.slice (List.map aH x.dirs) [] false]:=rfl
theorem fG (x:GFieldDef):chk cQ (aK x)=true:=by rw [eB];rfl
theorem aDQ (a b:GFieldDef) (h:aK a=aK b):a=b:=by
 simp only [eB,PV.agg.injEq,List.cons.injEq,PV.slice.injEq,PV.str.injEq,PV.int.injEq,PV.bool.injEq,true_and,and_true] at h
 obtain ⟨a0,a1,⟨a2,a3,a4⟩,a5⟩:=a
 obtain ⟨b0,b1,⟨b2,b3,b4⟩,b5⟩:=b
 dsimp only at h
 have e0:=h.1
 have e1:=cL aEL h.2.1
 have e2:=h.2.2.1
 have e3:=h.2.2.2.1
 have e4:=h.2.2.2.2.1
 have e5:=cL vT h.2.2.2.2.2
 subst e0 e1 e2 e3 e4 e5
 rfl
def aI (x:GDef):PV := .agg [.int .i64 x.kind,.str x.name,.slice (List.map PV.str x.faces) [] false,.slice (List.map aK x.fields) [] false,.slice (List.map PV.str x.parts) [] false,.slice (List.map aQ x.params) [] false]
theorem oV (x:GDef):aI x = .agg [.int .i64 x.kind,.str x.name,.slice (List.map PV.str x.faces) [] false,.slice (List.map aK x.fields) [] false,.slice (List.map PV.str x.parts) [] false,.slice (List.map aQ x.params) [] false]:=rfl
theorem aBh (x:GDef):chk oS (aI x)=true:=by rw [oV];rfl
theorem aYt (a b:GDef) (h:aI a=aI b):a=b:=by
 simp only [oV,PV.agg.injEq,List.cons.injEq,PV.slice.injEq,PV.str.injEq,PV.int.injEq,PV.bool.injEq,true_and,and_true] at h
 obtain ⟨a0,a1,a2,a3,a4,a5⟩:=a
 obtain ⟨b0,b1,b2,b3,b4,b5⟩:=b
 dsimp only at h
 have e0:=h.1
 have e1:=h.2.1
 have e2:=cL Ev.str_inj h.2.2.1
 have e3:=cL aDQ h.2.2.2.1
 have e4:=cL Ev.str_inj h.2.2.2.2.1
 have e5:=cL aEL h.2.2.2.2.2
 subst e0 e1 e2 e3 e4 e5
 rfl
def dX (x:GSchema):PV := .agg [.slice (List.map aI x.defs) [] false,.str x.query,.str x.mutation]
theorem jC (x:GSchema):dX x = .agg [.slice (List.map aI x.defs) [] false,.str x.query,.str x.mutation]:=rfl
theorem aQj (x:GSchema):chk aSM (dX x)=true:=by rw [jC];rfl
def aY (x:GVarDef):PV := .agg [.str x.name,.str x.t.name,.int .i64 x.t.lists,.int .i64 x.t.musts,.bool x.has,.int .i64 x.default.kind,.int .i64 x.default.n,.str x.default.s,.slice (List.map aN x.default.l) [] false,.slice (List.map aD x.default.m) [] false]
theorem eC (x:GVarDef):aY x = .agg [.str x.name,.str x.t.name,.int .i64 x.t.lists,.int .i64 x.t.musts,.bool x.has,.int .i64 x.default.kind,.int .i64 x.default.n,.str x.default.s,.slice (List.map aN x.default.l) [] false,.slice (List.map aD x.default.m) [] false]:=rfl
theorem aQk (x:GVarDef):chk aSN (aY x)=true:=by rw [eC];rfl
theorem aQl (a b:GVarDef) (h:aY a=aY b):a=b:=by
 simp only [eC,PV.agg.injEq,List.cons.injEq,PV.slice.injEq,PV.str.injEq,PV.int.injEq,PV.bool.injEq,true_and,and_true] at h
 obtain ⟨a0,⟨a1,a2,a3⟩,a4,⟨a5,a6,a7,a8,a9⟩⟩:=a
 obtain ⟨b0,⟨b1,b2,b3⟩,b4,⟨b5,b6,b7,b8,b9⟩⟩:=b
 dsimp only at h
 have e0:=h.1
 have e1:=h.2.1
 have e2:=h.2.2.1
 have e3:=h.2.2.2.1
 have e4:=h.2.2.2.2.1
 have e5:=h.2.2.2.2.2.1
 have e6:=h.2.2.2.2.2.2.1
 have e7:=h.2.2.2.2.2.2.2.1
 have e8:=cL qL h.2.2.2.2.2.2.2.2.1
 have e9:=cL kM h.2.2.2.2.2.2.2.2.2
 subst e0 e1 e2 e3 e4 e5 e6 e7 e8 e9
 rfl
mutual
def aG:GSel→PV
 | ⟨x0,x1,x2,x3,x4,x5,x6⟩ => .agg ([.int .i64 x0,.str x1,.str x2,.slice (List.map aD x3) [] false,.slice (List.map aH x4) [] false,.str x5,.slice (tL x6) [] false])
def tL:List GSel→List PV
 | []=>[]
 | x::l=>aG x::tL l
end
theorem aJ8:∀ (l:List GSel),tL l=List.map aG l
 | []=>by simp only [tL,List.map]
 | x::l=>by simp only [tL,List.map,aJ8 l]
theorem oW (x:GSel):aG x = .agg [.int .i64 x.kind,.str x.alias,.str x.name,.slice (List.map aD x.args) [] false,.slice (List.map aH x.dirs) [] false,.str x.on_,.slice (List.map aG x.sels) [] false]:=by
 cases x;simp only [aG,cells,List.cons_append,List.nil_append,aJ8]
theorem iQ (x:GSel):chk oT (aG x)=true:=by rw [oW];rfl
mutual
theorem aDR:∀ (a b:GSel),aG a=aG b→a=b
 | ⟨a0,a1,a2,a3,a4,a5,a6⟩,⟨b0,b1,b2,b3,b4,b5,b6⟩,h=>by
  simp only [aG,PV.agg.injEq,List.cons.injEq,List.append_eq,PV.slice.injEq,PV.str.injEq,PV.int.injEq,PV.bool.injEq,true_and,and_true] at h
  have e0:=h.1
  have e1:=h.2.1
  have e2:=h.2.2.1
  have e3:=cL kM h.2.2.2.1
  have e4:=cL vT h.2.2.2.2.1
  have e5:=h.2.2.2.2.2.1
  have e6:=aNq _ _ h.2.2.2.2.2.2
  subst e0 e1 e2 e3 e4 e5 e6
  rfl
theorem aNq:∀ (a b:List GSel),tL a=tL b→a=b
 | [],[],_=>rfl
 | [],_::_,h=>by simp [tL] at h
 | _::_,[],h=>by simp [tL] at h
 | x::l,y::m,h=>by
  simp only [tL,List.cons.injEq] at h
  rw [aDR x y h.1,aNq l m h.2]
end
def aU (x:GOp):PV := .agg [.int .i64 x.kind,.str x.name,.slice (List.map aY x.vars) [] false,.slice (List.map aH x.dirs) [] false,.slice (List.map aG x.sels) [] false]
theorem gQ (x:GOp):aU x = .agg [.int .i64 x.kind,.str x.name,.slice (List.map aY x.vars) [] false,.slice (List.map aH x.dirs) [] false,.slice (List.map aG x.sels) [] false]:=rfl
theorem aEM (x:GOp):chk shOp (aU x)=true:=by rw [gQ];rfl
theorem bAV (a b:GOp) (h:aU a=aU b):a=b:=by
 simp only [gQ,PV.agg.injEq,List.cons.injEq,PV.slice.injEq,PV.str.injEq,PV.int.injEq,PV.bool.injEq,true_and,and_true] at h
 obtain ⟨a0,a1,a2,a3,a4⟩:=a
 obtain ⟨b0,b1,b2,b3,b4⟩:=b
 dsimp only at h
 have e0:=h.1
 have e1:=h.2.1
 have e2:=cL aQl h.2.2.1
 have e3:=cL vT h.2.2.2.1
 have e4:=cL aDR h.2.2.2.2
 subst e0 e1 e2 e3 e4
 rfl
def aF (x:GFrag):PV := .agg [.str x.name,.str x.on_,.slice (List.map aH x.dirs) [] false,.slice (List.map aG x.sels) [] false]
theorem dF (x:GFrag):aF x = .agg [.str x.name,.str x.on_,.slice (List.map aH x.dirs) [] false,.slice (List.map aG x.sels) [] false]:=rfl
theorem jD (x:GFrag):chk iP (aF x)=true:=by rw [dF];rfl
theorem aNr (a b:GFrag) (h:aF a=aF b):a=b:=by
 simp only [dF,PV.agg.injEq,List.cons.injEq,PV.slice.injEq,PV.str.injEq,PV.int.injEq,PV.bool.injEq,true_and,and_true] at h
 obtain ⟨a0,a1,a2,a3⟩:=a
 obtain ⟨b0,b1,b2,b3⟩:=b
 dsimp only at h
 have e0:=h.1
 have e1:=h.2.1
 have e2:=cL vT h.2.2.1
 have e3:=cL aDR h.2.2.2
 subst e0 e1 e2 e3
 rfl
def jX (x:GDoc):PV := .agg [.slice (List.map aU x.ops) [] false,.slice (List.map aF x.frags) [] false]
theorem mL (x:GDoc):jX x = .agg [.slice (List.map aU x.ops) [] false,.slice (List.map aF x.frags) [] false]:=rfl
theorem aYu (x:GDoc):chk aYs (jX x)=true:=by rw [mL];rfl
theorem aSO (a b:GDoc) (h:jX a=jX b):a=b:=by
 simp only [mL,PV.agg.injEq,List.cons.injEq,PV.slice.injEq,PV.str.injEq,PV.int.injEq,PV.bool.injEq,true_and,and_true] at h
 obtain ⟨a0,a1⟩:=a
 obtain ⟨b0,b1⟩:=b
 dsimp only at h
 have e0:=cL bAV h.1
 have e1:=cL aNr h.2
 subst e0 e1
 rfl
def aL (x:GSeineref13Spot):PV := .agg [.str x.typ,.int .i64 x.x.kind,.str x.x.alias,.str x.x.name,.slice (List.map aD x.x.args) [] false,.slice (List.map aH x.x.dirs) [] false,.str x.x.on_,.slice (List.map aG x.x.sels) [] false]
theorem cY (x:GSeineref13Spot):aL x = .agg [.str x.typ,.int .i64 x.x.kind,.str x.x.alias,.str x.x.name,.slice (List.map aD x.x.args) [] false,.slice (List.map aH x.x.dirs) [] false,.str x.x.on_,.slice (List.map aG x.x.sels) [] false]:=rfl
theorem aCn (x:GSeineref13Spot):chk xV (aL x)=true:=by rw [cY];rfl
theorem qZ (a b:GSeineref13Spot) (h:aL a=aL b):a=b:=by
 simp only [cY,PV.agg.injEq,List.cons.injEq,PV.slice.injEq,PV.str.injEq,PV.int.injEq,PV.bool.injEq,true_and,and_true] at h
 obtain ⟨a0,⟨a1,a2,a3,a4,a5,a6,a7⟩⟩:=a
 obtain ⟨b0,⟨b1,b2,b3,b4,b5,b6,b7⟩⟩:=b
 dsimp only at h
 have e0:=h.1
 have e1:=h.2.1
 have e2:=h.2.2.1
 have e3:=h.2.2.2.1
 have e4:=cL kM h.2.2.2.2.1
 have e5:=cL vT h.2.2.2.2.2.1
 have e6:=h.2.2.2.2.2.2.1
 have e7:=cL aDR h.2.2.2.2.2.2.2
 subst e0 e1 e2 e3 e4 e5 e6 e7
 rfl
def aEN (x:GSpot):PV := .agg [.str x.var,.str x.t.name,.int .i64 x.t.lists,.int .i64 x.t.musts,.bool x.has]
theorem aBi (x:GSpot):aEN x = .agg [.str x.var,.str x.t.name,.int .i64 x.t.lists,.int .i64 x.t.musts,.bool x.has]:=rfl
theorem aWS (x:GSpot):chk bAf (aEN x)=true:=by rw [aBi];rfl
abbrev eS (x:GSchema):PV := .agg [(zq aI x.defs),(.str x.query),(.str x.mutation)]
abbrev eD (x:GDoc):PV := .agg [(zq aU x.ops),(zq aF x.frags)]
abbrev eL (x:GSel):PV := .agg [(i6 x.kind),(.str x.alias),(.str x.name),(zq aD x.args),(zq aH x.dirs),(.str x.on_),(zq aG x.sels)]
abbrev eV (x:GValue):PV := .agg [(i6 x.kind),(i6 x.n),(.str x.s),(zq aN x.l),(zq aD x.m)]
abbrev eT (x:GType):PV := .agg [(.str x.name),(i6 x.lists),(i6 x.musts)]
abbrev eR (x:GDir):PV := .agg [(.str x.name),(zq aD x.args)]
theorem tys:(∀ x:GType,iZ x = .agg [.str x.name,.int .i64 x.lists,.int .i64 x.musts]) ∧
  (∀ x:GValue,aN x = .agg [.int .i64 x.kind,.int .i64 x.n,.str x.s,.slice (List.map aN x.l) [] false,.slice (List.map aD x.m) [] false]) ∧
  (∀ x:GMember,aD x = .agg [.str x.name,.int .i64 x.v.kind,.int .i64 x.v.n,.str x.v.s,.slice (List.map aN x.v.l) [] false,.slice (List.map aD x.v.m) [] false]) ∧
  (∀ x:GParam,aQ x = .agg [.str x.name,.str x.t.name,.int .i64 x.t.lists,.int .i64 x.t.musts,.bool x.has,.int .i64 x.default.kind,.int .i64 x.default.n,.str x.default.s,.slice (List.map aN x.default.l) [] false,.slice (List.map aD x.default.m) [] false]) ∧
  (∀ x:GDir,aH x = .agg [.str x.name,.slice (List.map aD x.args) [] false]) ∧
  (∀ x:GFieldDef,aK x = .agg [.str x.name,.slice (List.map aQ x.params) [] false,.str x.t.name,.int .i64 x.t.lists,.int .i64 x.t.musts,.slice (List.map aH x.dirs) [] false]) ∧
  (∀ x:GDef,aI x = .agg [.int .i64 x.kind,.str x.name,.slice (List.map PV.str x.faces) [] false,.slice (List.map aK x.fields) [] false,.slice (List.map PV.str x.parts) [] false,.slice (List.map aQ x.params) [] false]) ∧
  (∀ x:GSchema,dX x = .agg [.slice (List.map aI x.defs) [] false,.str x.query,.str x.mutation]) ∧
  (∀ x:GVarDef,aY x = .agg [.str x.name,.str x.t.name,.int .i64 x.t.lists,.int .i64 x.t.musts,.bool x.has,.int .i64 x.default.kind,.int .i64 x.default.n,.str x.default.s,.slice (List.map aN x.default.l) [] false,.slice (List.map aD x.default.m) [] false]) ∧
  (∀ x:GSel,aG x = .agg [.int .i64 x.kind,.str x.alias,.str x.name,.slice (List.map aD x.args) [] false,.slice (List.map aH x.dirs) [] false,.str x.on_,.slice (List.map aG x.sels) [] false]) ∧
  (∀ x:GOp,aU x = .agg [.int .i64 x.kind,.str x.name,.slice (List.map aY x.vars) [] false,.slice (List.map aH x.dirs) [] false,.slice (List.map aG x.sels) [] false]) ∧
  (∀ x:GFrag,aF x = .agg [.str x.name,.str x.on_,.slice (List.map aH x.dirs) [] false,.slice (List.map aG x.sels) [] false]) ∧
  (∀ x:GDoc,jX x = .agg [.slice (List.map aU x.ops) [] false,.slice (List.map aF x.frags) [] false]) ∧
  (∀ x:GSeineref13Spot,aL x = .agg [.str x.typ,.int .i64 x.x.kind,.str x.x.alias,.str x.x.name,.slice (List.map aD x.x.args) [] false,.slice (List.map aH x.x.dirs) [] false,.str x.x.on_,.slice (List.map aG x.x.sels) [] false]) ∧
  (∀ x:GSpot,aEN x = .agg [.str x.var,.str x.t.name,.int .i64 x.t.lists,.int .i64 x.t.musts,.bool x.has]):=⟨iC,eO,jA,jB,oU,eB,oV,jC,eC,oW,gQ,dF,mL,cY,aBi⟩
theorem chks:(∀ x,chk aSL (iZ x)=true) ∧
  (∀ x,chk mK (aN x)=true) ∧
  (∀ x,chk dS (aD x)=true) ∧
  (∀ x,chk iK (aQ x)=true) ∧
  (∀ x,chk aGa (aH x)=true) ∧
  (∀ x,chk cQ (aK x)=true) ∧
  (∀ x,chk oS (aI x)=true) ∧
  (∀ x,chk aSM (dX x)=true) ∧
  (∀ x,chk aSN (aY x)=true) ∧
  (∀ x,chk oT (aG x)=true) ∧
  (∀ x,chk shOp (aU x)=true) ∧
  (∀ x,chk iP (aF x)=true) ∧
  (∀ x,chk aYs (jX x)=true) ∧
  (∀ x,chk xV (aL x)=true) ∧
  (∀ x,chk bAf (aEN x)=true):=⟨aWQ,aBf,fO,nN,aBg,fG,aBh,aQj,aQk,iQ,aEM,jD,aYu,aCn,aWS⟩
open Go Go.Ev Go.Ev.PV
def aAi (x:GType):Nat:=(dA x.name+(bk1 x.lists+(bk1 x.musts+(0))))+1
def aBX (x:GType):Prop:=gd1 x.name∧((gdI .i64) x.lists∧((gdI .i64) x.musts∧(True)))
theorem jY (x:GType):aAi x=(dA x.name+(bk1 x.lists+(bk1 x.musts+(0))))+1:=rfl
theorem aWT (x:GType):aBX x=(gd1 x.name∧((gdI .i64) x.lists∧((gdI .i64) x.musts∧(True)))):=rfl
mutual
def cD:GValue→Nat
 | ⟨x0,x1,x2,x3,x4⟩=>(bk1 x0+(bk1 x1+(dA x2+((qC x3+1)+((mM x4+1)+(0))))))+1
def bF:GMember→Nat
 | ⟨x0,x1⟩=>(dA x0+(cD x1+(0)))+1
def qC:List GValue→Nat
 | []=>0
 | x::l=>cD x+qC l
def mM:List GMember→Nat
 | []=>0
 | x::l=>bF x+mM l
end
mutual
def pL:GValue→Prop
 | ⟨x0,x1,x2,x3,x4⟩=>(gdI .i64) x0∧((gdI .i64) x1∧(gd1 x2∧(aDS x3∧(aAj x4∧(True)))))
def oG:GMember→Prop
 | ⟨x0,x1⟩=>gd1 x0∧(pL x1∧(True))
def aDS:List GValue→Prop
 | []=>True
 | x::l=>pL x∧aDS l
def aAj:List GMember→Prop
 | []=>True
 | x::l=>oG x∧aAj l
end
theorem vU:∀ (l:List GValue),qC l=sumL cD l
 | []=>by simp only [qC,sumL]
 | x::l=>by simp only [qC,sumL,vU l]
theorem aCo:∀ (l:List GValue),aDS l=gdSl pL l
 | []=>by simp [aDS,gdSl]
 | x::l=>by simp [aDS,gdSl,aCo l]
theorem sG:∀ (l:List GMember),mM l=sumL bF l
 | []=>by simp only [mM,sumL]
 | x::l=>by simp only [mM,sumL,sG l]
theorem aAk:∀ (l:List GMember),aAj l=gdSl oG l
 | []=>by simp [aAj,gdSl]
 | x::l=>by simp [aAj,gdSl,aAk l]
theorem cE (x:GValue):cD x=(bk1 x.kind+(bk1 x.n+(dA x.s+((bkSl cD) x.l+((bkSl bF) x.m+(0))))))+1:=by
 cases x;simp only [cD,bkSl,vU,sG]
theorem aUj (x:GValue):pL x=((gdI .i64) x.kind∧((gdI .i64) x.n∧(gd1 x.s∧((gdSl pL) x.l∧((gdSl oG) x.m∧(True)))))):=by
 cases x;simp only [pL,aCo,aAk]
theorem cO (x:GMember):bF x=(dA x.name+(cD x.v+(0)))+1:=by
 cases x;simp only [bF,bkSl,vU,sG]
theorem aQm (x:GMember):oG x=(gd1 x.name∧(pL x.v∧(True))):=by
 cases x;simp only [oG,aCo,aAk]
def iL (x:GParam):Nat:=(dA x.name+(aAi x.t+(bk1 x.has+(cD x.default+(0)))))+1
def aEO (x:GParam):Prop:=gd1 x.name∧(aBX x.t∧(gd1 x.has∧(pL x.default∧(True))))
theorem nO (x:GParam):iL x=(dA x.name+(aAi x.t+(bk1 x.has+(cD x.default+(0)))))+1:=rfl
theorem aUk (x:GParam):aEO x=(gd1 x.name∧(aBX x.t∧(gd1 x.has∧(pL x.default∧(True))))):=rfl
def kN (x:GDir):Nat:=(dA x.name+((bkSl bF) x.args+(0)))+1
def aIM (x:GDir):Prop:=gd1 x.name∧((gdSl oG) x.args∧(True))
theorem qD (x:GDir):kN x=(dA x.name+((bkSl bF) x.args+(0)))+1:=rfl
theorem aYv (x:GDir):aIM x=(gd1 x.name∧((gdSl oG) x.args∧(True))):=rfl
def gB (x:GFieldDef):Nat:=(dA x.name+((bkSl iL) x.params+(aAi x.t+((bkSl kN) x.dirs+(0)))))+1
def aBj (x:GFieldDef):Prop:=gd1 x.name∧((gdSl aEO) x.params∧(aBX x.t∧((gdSl aIM) x.dirs∧(True))))
theorem jM (x:GFieldDef):gB x=(dA x.name+((bkSl iL) x.params+(aAi x.t+((bkSl kN) x.dirs+(0)))))+1:=rfl
theorem aLa (x:GFieldDef):aBj x=(gd1 x.name∧((gdSl aEO) x.params∧(aBX x.t∧((gdSl aIM) x.dirs∧(True))))):=rfl
def aHF (x:GDef):Nat:=(bk1 x.kind+(dA x.name+((bkSl dA) x.faces+((bkSl gB) x.fields+((bkSl dA) x.parts+((bkSl iL) x.params+(0)))))))+1
def aYw (x:GDef):Prop:=(gdI .i64) x.kind∧(gd1 x.name∧((gdSl gd1) x.faces∧((gdSl aBj) x.fields∧((gdSl gd1) x.parts∧((gdSl aEO) x.params∧(True))))))
theorem mN (x:GDef):aHF x=(bk1 x.kind+(dA x.name+((bkSl dA) x.faces+((bkSl gB) x.fields+((bkSl dA) x.parts+((bkSl iL) x.params+(0)))))))+1:=rfl
theorem aYx (x:GDef):aYw x=((gdI .i64) x.kind∧(gd1 x.name∧((gdSl gd1) x.faces∧((gdSl aBj) x.fields∧((gdSl gd1) x.parts∧((gdSl aEO) x.params∧(True))))))):=rfl
def oH (x:GSchema):Nat:=((bkSl aHF) x.defs+(dA x.query+(dA x.mutation+(0))))+1
def aLb (x:GSchema):Prop:=(gdSl aYw) x.defs∧(gd1 x.query∧(gd1 x.mutation∧(True)))
theorem nP (x:GSchema):oH x=((bkSl aHF) x.defs+(dA x.query+(dA x.mutation+(0))))+1:=rfl
theorem aQn (x:GSchema):aLb x=((gdSl aYw) x.defs∧(gd1 x.query∧(gd1 x.mutation∧(True)))):=rfl
def qE (x:GVarDef):Nat:=(dA x.name+(aAi x.t+(bk1 x.has+(cD x.default+(0)))))+1
def aGH (x:GVarDef):Prop:=gd1 x.name∧(aBX x.t∧(gd1 x.has∧(pL x.default∧(True))))
theorem rB (x:GVarDef):qE x=(dA x.name+(aAi x.t+(bk1 x.has+(cD x.default+(0)))))+1:=rfl
theorem aQo (x:GVarDef):aGH x=(gd1 x.name∧(aBX x.t∧(gd1 x.has∧(pL x.default∧(True))))):=rfl
mutual
def eU:GSel→Nat
 | ⟨x0,x1,x2,x3,x4,x5,x6⟩=>(bk1 x0+(dA x1+(dA x2+((bkSl bF) x3+((bkSl kN) x4+(dA x5+((bJ x6+1)+(0))))))))+1
def bJ:List GSel→Nat
 | []=>0
 | x::l=>eU x+bJ l
end
mutual
def aGb:GSel→Prop
 | ⟨x0,x1,x2,x3,x4,x5,x6⟩=>(gdI .i64) x0∧(gd1 x1∧(gd1 x2∧((gdSl oG) x3∧((gdSl aIM) x4∧(gd1 x5∧(aNs x6∧(True)))))))
def aNs:List GSel→Prop
 | []=>True
 | x::l=>aGb x∧aNs l
end
theorem cK:∀ (l:List GSel),bJ l=sumL eU l
 | []=>by simp only [bJ,sumL]
 | x::l=>by simp only [bJ,sumL,cK l]
theorem aNt:∀ (l:List GSel),aNs l=gdSl aGb l
 | []=>by simp [aNs,gdSl]
 | x::l=>by simp [aNs,gdSl,aNt l]
theorem fV (x:GSel):eU x=(bk1 x.kind+(dA x.alias+(dA x.name+((bkSl bF) x.args+((bkSl kN) x.dirs+(dA x.on_+((bkSl eU) x.sels+(0))))))))+1:=by
 cases x;simp only [eU,bkSl,cK]
theorem aYy (x:GSel):aGb x=((gdI .i64) x.kind∧(gd1 x.alias∧(gd1 x.name∧((gdSl oG) x.args∧((gdSl aIM) x.dirs∧(gd1 x.on_∧((gdSl aGb) x.sels∧(True)))))))):=by
 cases x;simp only [aGb,aNt]
def bkOp (x:GOp):Nat:=(bk1 x.kind+(dA x.name+((bkSl qE) x.vars+((bkSl kN) x.dirs+((bkSl eU) x.sels+(0))))))+1
def gdOp (x:GOp):Prop:=(gdI .i64) x.kind∧(gd1 x.name∧((gdSl aGH) x.vars∧((gdSl aIM) x.dirs∧((gdSl aGb) x.sels∧(True)))))
theorem mO (x:GOp):bkOp x=(bk1 x.kind+(dA x.name+((bkSl qE) x.vars+((bkSl kN) x.dirs+((bkSl eU) x.sels+(0))))))+1:=rfl
theorem bAW (x:GOp):gdOp x=((gdI .i64) x.kind∧(gd1 x.name∧((gdSl aGH) x.vars∧((gdSl aIM) x.dirs∧((gdSl aGb) x.sels∧(True)))))):=rfl
def dT (x:GFrag):Nat:=(dA x.name+(dA x.on_+((bkSl kN) x.dirs+((bkSl eU) x.sels+(0)))))+1
def aSP (x:GFrag):Prop:=gd1 x.name∧(gd1 x.on_∧((gdSl aIM) x.dirs∧((gdSl aGb) x.sels∧(True))))
theorem dY (x:GFrag):dT x=(dA x.name+(dA x.on_+((bkSl kN) x.dirs+((bkSl eU) x.sels+(0)))))+1:=rfl
theorem aWU (x:GFrag):aSP x=(gd1 x.name∧(gd1 x.on_∧((gdSl aIM) x.dirs∧((gdSl aGb) x.sels∧(True))))):=rfl
def kO (x:GDoc):Nat:=((bkSl bkOp) x.ops+((bkSl dT) x.frags+(0)))+1
def bAX (x:GDoc):Prop:=(gdSl gdOp) x.ops∧((gdSl aSP) x.frags∧(True))
theorem vV (x:GDoc):kO x=((bkSl bkOp) x.ops+((bkSl dT) x.frags+(0)))+1:=rfl
theorem aYz (x:GDoc):bAX x=((gdSl gdOp) x.ops∧((gdSl aSP) x.frags∧(True))):=rfl
def xW (x:GSeineref13Spot):Nat:=(dA x.typ+(eU x.x+(0)))+1
def xX (x:GSeineref13Spot):Prop:=gd1 x.typ∧(aGb x.x∧(True))
theorem aCp (x:GSeineref13Spot):xW x=(dA x.typ+(eU x.x+(0)))+1:=rfl
theorem aCq (x:GSeineref13Spot):xX x=(gd1 x.typ∧(aGb x.x∧(True))):=rfl
def bAg (x:GSpot):Nat:=(dA x.var+(aAi x.t+(bk1 x.has+(0))))+1
def bAh (x:GSpot):Prop:=gd1 x.var∧(aBX x.t∧(gd1 x.has∧(True)))
theorem aWV (x:GSpot):bAg x=(dA x.var+(aAi x.t+(bk1 x.has+(0))))+1:=rfl
theorem aWW (x:GSpot):bAh x=(gd1 x.var∧(aBX x.t∧(gd1 x.has∧(True)))):=rfl
def TS:Nat→TypeId
 | 0=>49
 | 1=>52
 | 2=>70
 | 3=>61
 | 4=>41
 | 5=>104
 | 6=>100
 | 7=>24
 | 8=>54
 | 9=>44
 | 10=>38
 | 11=>68
 | 12=>28
 | 13=>83
 | _=>140
def BS:Nat→Ty
 | 0=>(.fcons .str (.fcons (.int .i64) (.fcons (.int .i64) .fnil)))
 | 1=>(.fcons (.int .i64) (.fcons (.int .i64) (.fcons .str (.fcons (.sl (.ext 1)) (.fcons (.sl (.ext 2)) .fnil)))))
 | 2=>(.fcons .str (.fcons (.ext 1) .fnil))
 | 3=>(.fcons .str (.fcons (.ext 0) (.fcons .bool (.fcons (.ext 1) .fnil))))
 | 4=>(.fcons .str (.fcons (.sl (.ext 2)) .fnil))
 | 5=>(.fcons .str (.fcons (.sl (.ext 3)) (.fcons (.ext 0) (.fcons (.sl (.ext 4)) .fnil))))
 | 6=>(.fcons (.int .i64) (.fcons .str (.fcons (.sl .str) (.fcons (.sl (.ext 5)) (.fcons (.sl .str) (.fcons (.sl (.ext 3)) .fnil))))))
 | 7=>(.fcons (.sl (.ext 6)) (.fcons .str (.fcons .str .fnil)))
 | 8=>(.fcons .str (.fcons (.ext 0) (.fcons .bool (.fcons (.ext 1) .fnil))))
 | 9=>(.fcons (.int .i64) (.fcons .str (.fcons .str (.fcons (.sl (.ext 2)) (.fcons (.sl (.ext 4)) (.fcons .str (.fcons (.sl (.ext 9)) .fnil)))))))
 | 10=>(.fcons (.int .i64) (.fcons .str (.fcons (.sl (.ext 8)) (.fcons (.sl (.ext 4)) (.fcons (.sl (.ext 9)) .fnil)))))
 | 11=>(.fcons .str (.fcons .str (.fcons (.sl (.ext 4)) (.fcons (.sl (.ext 9)) .fnil))))
 | 12=>(.fcons (.sl (.ext 10)) (.fcons (.sl (.ext 11)) .fnil))
 | 13=>(.fcons .str (.fcons (.ext 9) .fnil))
 | _=>(.fcons .str (.fcons (.ext 0) (.fcons .bool .fnil)))
abbrev bAY:RecTy:=⟨GType,iZ,3,aAi,aBX,fun x=>qX _ (iC x) rfl rfl⟩
abbrev aYA:RecTy:=⟨GValue,aN,5,cD,pL,fun x=>qX _ (eO x) rfl rfl⟩
abbrev aWX:RecTy:=⟨GMember,aD,6,bF,oG,fun x=>qX _ (jA x) rfl rfl⟩
abbrev aYB:RecTy:=⟨GParam,aQ,10,iL,aEO,fun x=>qX _ (jB x) rfl rfl⟩
abbrev bBU:RecTy:=⟨GDir,aH,2,kN,aIM,fun x=>qX _ (oU x) rfl rfl⟩
abbrev aQp:RecTy:=⟨GFieldDef,aK,6,gB,aBj,fun x=>qX _ (eB x) rfl rfl⟩
abbrev bBV:RecTy:=⟨GDef,aI,6,aHF,aYw,fun x=>qX _ (oV x) rfl rfl⟩
abbrev aWY:RecTy:=⟨GSchema,dX,3,oH,aLb,fun x=>qX _ (jC x) rfl rfl⟩
abbrev aWZ:RecTy:=⟨GVarDef,aY,10,qE,aGH,fun x=>qX _ (eC x) rfl rfl⟩
abbrev bBW:RecTy:=⟨GSel,aG,7,eU,aGb,fun x=>qX _ (oW x) rfl rfl⟩
abbrev bCr:RecTy:=⟨GOp,aU,5,bkOp,gdOp,fun x=>qX _ (gQ x) rfl rfl⟩
abbrev bAZ:RecTy:=⟨GFrag,aF,4,dT,aSP,fun x=>qX _ (dF x) rfl rfl⟩
abbrev bBX:RecTy:=⟨GDoc,jX,2,kO,bAX,fun x=>qX _ (mL x) rfl rfl⟩
abbrev aEP:RecTy:=⟨GSeineref13Spot,aL,8,xW,xX,fun x=>qX _ (cY x) rfl rfl⟩
abbrev bA0:RecTy:=⟨GSpot,aEN,5,bAg,bAh,fun x=>qX _ (aBi x) rfl rfl⟩
abbrev RS:REnv
 | 0=>bAY
 | 1=>aYA
 | 2=>aWX
 | 3=>aYB
 | 4=>bBU
 | 5=>aQp
 | 6=>bBV
 | 7=>aWY
 | 8=>aWZ
 | 9=>bBW
 | 10=>bCr
 | 11=>bAZ
 | 12=>bBX
 | 13=>aEP
 | _=>bA0
theorem hty:∀ i,∃ F,Tryz.prog.underlying (TS i)=some (.struct F)∧Tryz.prog.cellsOf (TS i)=(BS i).size RS∧flds RS Tryz.prog (tyOk RS TS Tryz.prog 9) F.toList 0 (BS i)=true
 | 0=>⟨_,Tryz.underlying49,by kernel_rfl,by kernel_rfl⟩
 | 1=>⟨_,Tryz.underlying52,by kernel_rfl,by kernel_rfl⟩
 | 2=>⟨_,Tryz.underlying70,by kernel_rfl,by kernel_rfl⟩
 | 3=>⟨_,Tryz.underlying61,by kernel_rfl,by kernel_rfl⟩
 | 4=>⟨_,Tryz.underlying41,by kernel_rfl,by kernel_rfl⟩
 | 5=>⟨_,Tryz.underlying104,by kernel_rfl,by kernel_rfl⟩
 | 6=>⟨_,Tryz.underlying100,by kernel_rfl,by kernel_rfl⟩
 | 7=>⟨_,Tryz.underlying24,by kernel_rfl,by kernel_rfl⟩
 | 8=>⟨_,Tryz.underlying54,by kernel_rfl,by kernel_rfl⟩
 | 9=>⟨_,Tryz.underlying44,by kernel_rfl,by kernel_rfl⟩
 | 10=>⟨_,Tryz.underlying38,by kernel_rfl,by kernel_rfl⟩
 | 11=>⟨_,Tryz.underlying68,by kernel_rfl,by kernel_rfl⟩
 | 12=>⟨_,Tryz.underlying28,by kernel_rfl,by kernel_rfl⟩
 | 13=>⟨_,Tryz.underlying83,by kernel_rfl,by kernel_rfl⟩
 | _+14=>⟨_,Tryz.underlying140,by kernel_rfl,by kernel_rfl⟩
theorem bBY (x0:Str) (x1:Int) (x2:Int):iZ ⟨x0,x1,x2⟩=(PV.agg ((PV.str x0).cells++(PV.agg (((PV.int .i64) x1).cells++(PV.agg (((PV.int .i64) x2).cells++(PV.agg []).cells)).cells)).cells)):=by
 simp only [tys,cells,List.cons_append,List.nil_append]
theorem bA1 (x0:Int) (x1:Int) (x2:Str) (x3:List GValue) (x4:List GMember):aN ⟨x0,x1,x2,x3,x4⟩=(PV.agg (((PV.int .i64) x0).cells++(PV.agg (((PV.int .i64) x1).cells++(PV.agg ((PV.str x2).cells++(PV.agg ((PV.slice (List.map aN x3) [] false).cells++(PV.agg ((PV.slice (List.map aD x4) [] false).cells++(PV.agg []).cells)).cells)).cells)).cells)).cells)):=by
 simp only [tys,cells,List.cons_append,List.nil_append]
theorem aYC (x0:Str) (x1:GValue):aD ⟨x0,x1⟩=(PV.agg ((PV.str x0).cells++(PV.agg ((aN x1).cells++(PV.agg []).cells)).cells)):=by
 simp only [tys,cells,List.cons_append,List.nil_append]
theorem bA2 (x0:Str) (x1:GType) (x2:Bool) (x3:GValue):aQ ⟨x0,x1,x2,x3⟩=(PV.agg ((PV.str x0).cells++(PV.agg ((iZ x1).cells++(PV.agg ((PV.bool x2).cells++(PV.agg ((aN x3).cells++(PV.agg []).cells)).cells)).cells)).cells)):=by
 simp only [tys,cells,List.cons_append,List.nil_append]
theorem bCs (x0:Str) (x1:List GMember):aH ⟨x0,x1⟩=(PV.agg ((PV.str x0).cells++(PV.agg ((PV.slice (List.map aD x1) [] false).cells++(PV.agg []).cells)).cells)):=by
 simp only [tys,cells,List.cons_append,List.nil_append]
theorem aUl (x0:Str) (x1:List GParam) (x2:GType) (x3:List GDir):aK ⟨x0,x1,x2,x3⟩=(PV.agg ((PV.str x0).cells++(PV.agg ((PV.slice (List.map aQ x1) [] false).cells++(PV.agg ((iZ x2).cells++(PV.agg ((PV.slice (List.map aH x3) [] false).cells++(PV.agg []).cells)).cells)).cells)).cells)):=by
 simp only [tys,cells,List.cons_append,List.nil_append]
theorem bCt (x0:Int) (x1:Str) (x2:List Str) (x3:List GFieldDef) (x4:List Str) (x5:List GParam):aI ⟨x0,x1,x2,x3,x4,x5⟩=(PV.agg (((PV.int .i64) x0).cells++(PV.agg ((PV.str x1).cells++(PV.agg ((PV.slice (List.map PV.str x2) [] false).cells++(PV.agg ((PV.slice (List.map aK x3) [] false).cells++(PV.agg ((PV.slice (List.map PV.str x4) [] false).cells++(PV.agg ((PV.slice (List.map aQ x5) [] false).cells++(PV.agg []).cells)).cells)).cells)).cells)).cells)).cells)):=by
 simp only [tys,cells,List.cons_append,List.nil_append]
theorem aYD (x0:List GDef) (x1:Str) (x2:Str):dX ⟨x0,x1,x2⟩=(PV.agg ((PV.slice (List.map aI x0) [] false).cells++(PV.agg ((PV.str x1).cells++(PV.agg ((PV.str x2).cells++(PV.agg []).cells)).cells)).cells)):=by
 simp only [tys,cells,List.cons_append,List.nil_append]
theorem aYE (x0:Str) (x1:GType) (x2:Bool) (x3:GValue):aY ⟨x0,x1,x2,x3⟩=(PV.agg ((PV.str x0).cells++(PV.agg ((iZ x1).cells++(PV.agg ((PV.bool x2).cells++(PV.agg ((aN x3).cells++(PV.agg []).cells)).cells)).cells)).cells)):=by
 simp only [tys,cells,List.cons_append,List.nil_append]
theorem bCu (x0:Int) (x1:Str) (x2:Str) (x3:List GMember) (x4:List GDir) (x5:Str) (x6:List GSel):aG ⟨x0,x1,x2,x3,x4,x5,x6⟩=(PV.agg (((PV.int .i64) x0).cells++(PV.agg ((PV.str x1).cells++(PV.agg ((PV.str x2).cells++(PV.agg ((PV.slice (List.map aD x3) [] false).cells++(PV.agg ((PV.slice (List.map aH x4) [] false).cells++(PV.agg ((PV.str x5).cells++(PV.agg ((PV.slice (List.map aG x6) [] false).cells++(PV.agg []).cells)).cells)).cells)).cells)).cells)).cells)).cells)):=by
 simp only [tys,cells,List.cons_append,List.nil_append]
theorem cvOp (x0:Int) (x1:Str) (x2:List GVarDef) (x3:List GDir) (x4:List GSel):aU ⟨x0,x1,x2,x3,x4⟩=(PV.agg (((PV.int .i64) x0).cells++(PV.agg ((PV.str x1).cells++(PV.agg ((PV.slice (List.map aY x2) [] false).cells++(PV.agg ((PV.slice (List.map aH x3) [] false).cells++(PV.agg ((PV.slice (List.map aG x4) [] false).cells++(PV.agg []).cells)).cells)).cells)).cells)).cells)):=by
 simp only [tys,cells,List.cons_append,List.nil_append]
theorem bBZ (x0:Str) (x1:Str) (x2:List GDir) (x3:List GSel):aF ⟨x0,x1,x2,x3⟩=(PV.agg ((PV.str x0).cells++(PV.agg ((PV.str x1).cells++(PV.agg ((PV.slice (List.map aH x2) [] false).cells++(PV.agg ((PV.slice (List.map aG x3) [] false).cells++(PV.agg []).cells)).cells)).cells)).cells)):=by
 simp only [tys,cells,List.cons_append,List.nil_append]
theorem bCv (x0:List GOp) (x1:List GFrag):jX ⟨x0,x1⟩=(PV.agg ((PV.slice (List.map aU x0) [] false).cells++(PV.agg ((PV.slice (List.map aF x1) [] false).cells++(PV.agg []).cells)).cells)):=by
 simp only [tys,cells,List.cons_append,List.nil_append]
theorem aGc (x0:Str) (x1:GSel):aL ⟨x0,x1⟩=(PV.agg ((PV.str x0).cells++(PV.agg ((aG x1).cells++(PV.agg []).cells)).cells)):=by
 simp only [tys,cells,List.cons_append,List.nil_append]
theorem bB0 (x0:Str) (x1:GType) (x2:Bool):aEN ⟨x0,x1,x2⟩=(PV.agg ((PV.str x0).cells++(PV.agg ((iZ x1).cells++(PV.agg ((PV.bool x2).cells++(PV.agg []).cells)).cells)).cells)):=by
 simp only [tys,cells,List.cons_append,List.nil_append]
theorem hcv:∀ i (x:(BS i).den RS),∃ y:(RS i).D,(RS i).en y=enc RS (BS i) x∧(RS i).bk y≤bulk RS (BS i) x+1∧(good RS (BS i) x→(RS i).gd y)
 | 0,⟨x0,x1,x2,_⟩=>⟨(⟨x0,x1,x2⟩:GType),(bBY x0 x1 x2).trans rfl,Nat.le_of_eq ((jY _).trans rfl),fun h=>(aWT _).mpr h⟩
 | 1,⟨x0,x1,x2,x3,x4,_⟩=>⟨(⟨x0,x1,x2,x3,x4⟩:GValue),(bA1 x0 x1 x2 x3 x4).trans rfl,Nat.le_of_eq ((cE _).trans rfl),fun h=>(aUj _).mpr h⟩
 | 2,⟨x0,x1,_⟩=>⟨(⟨x0,x1⟩:GMember),(aYC x0 x1).trans rfl,Nat.le_of_eq ((cO _).trans rfl),fun h=>(aQm _).mpr h⟩
 | 3,⟨x0,x1,x2,x3,_⟩=>⟨(⟨x0,x1,x2,x3⟩:GParam),(bA2 x0 x1 x2 x3).trans rfl,Nat.le_of_eq ((nO _).trans rfl),fun h=>(aUk _).mpr h⟩
 | 4,⟨x0,x1,_⟩=>⟨(⟨x0,x1⟩:GDir),(bCs x0 x1).trans rfl,Nat.le_of_eq ((qD _).trans rfl),fun h=>(aYv _).mpr h⟩
 | 5,⟨x0,x1,x2,x3,_⟩=>⟨(⟨x0,x1,x2,x3⟩:GFieldDef),(aUl x0 x1 x2 x3).trans rfl,Nat.le_of_eq ((jM _).trans rfl),fun h=>(aLa _).mpr h⟩
 | 6,⟨x0,x1,x2,x3,x4,x5,_⟩=>⟨(⟨x0,x1,x2,x3,x4,x5⟩:GDef),(bCt x0 x1 x2 x3 x4 x5).trans rfl,Nat.le_of_eq ((mN _).trans rfl),fun h=>(aYx _).mpr h⟩
 | 7,⟨x0,x1,x2,_⟩=>⟨(⟨x0,x1,x2⟩:GSchema),(aYD x0 x1 x2).trans rfl,Nat.le_of_eq ((nP _).trans rfl),fun h=>(aQn _).mpr h⟩
 | 8,⟨x0,x1,x2,x3,_⟩=>⟨(⟨x0,x1,x2,x3⟩:GVarDef),(aYE x0 x1 x2 x3).trans rfl,Nat.le_of_eq ((rB _).trans rfl),fun h=>(aQo _).mpr h⟩
 | 9,⟨x0,x1,x2,x3,x4,x5,x6,_⟩=>⟨(⟨x0,x1,x2,x3,x4,x5,x6⟩:GSel),(bCu x0 x1 x2 x3 x4 x5 x6).trans rfl,Nat.le_of_eq ((fV _).trans rfl),fun h=>(aYy _).mpr h⟩
 | 10,⟨x0,x1,x2,x3,x4,_⟩=>⟨(⟨x0,x1,x2,x3,x4⟩:GOp),(cvOp x0 x1 x2 x3 x4).trans rfl,Nat.le_of_eq ((mO _).trans rfl),fun h=>(bAW _).mpr h⟩
 | 11,⟨x0,x1,x2,x3,_⟩=>⟨(⟨x0,x1,x2,x3⟩:GFrag),(bBZ x0 x1 x2 x3).trans rfl,Nat.le_of_eq ((dY _).trans rfl),fun h=>(aWU _).mpr h⟩
 | 12,⟨x0,x1,_⟩=>⟨(⟨x0,x1⟩:GDoc),(bCv x0 x1).trans rfl,Nat.le_of_eq ((vV _).trans rfl),fun h=>(aYz _).mpr h⟩
 | 13,⟨x0,x1,_⟩=>⟨(⟨x0,x1⟩:GSeineref13Spot),(aGc x0 x1).trans rfl,Nat.le_of_eq ((aCp _).trans rfl),fun h=>(aCq _).mpr h⟩
 | _+14,⟨x0,x1,x2,_⟩=>⟨(⟨x0,x1,x2⟩:GSpot),(bB0 x0 x1 x2).trans rfl,Nat.le_of_eq ((aWV _).trans rfl),fun h=>(aWW _).mpr h⟩
theorem rok {H:Type} (e:TypeId×Value→H) (W:World) {bl:DataW H→Nat} {bla:List (DataW H)→Nat} (hb:BlOk bl bla):ROk RS TS e Tryz.prog W bl where
 op:=aYh hb 9 BS hty hcv
 ag:=fun i=>match i with
  | 0=>fun x=>⟨_,iC x⟩
  | 1=>fun x=>⟨_,eO x⟩
  | 2=>fun x=>⟨_,jA x⟩
  | 3=>fun x=>⟨_,jB x⟩
  | 4=>fun x=>⟨_,oU x⟩
  | 5=>fun x=>⟨_,eB x⟩
  | 6=>fun x=>⟨_,oV x⟩
  | 7=>fun x=>⟨_,jC x⟩
  | 8=>fun x=>⟨_,eC x⟩
  | 9=>fun x=>⟨_,oW x⟩
  | 10=>fun x=>⟨_,gQ x⟩
  | 11=>fun x=>⟨_,dF x⟩
  | 12=>fun x=>⟨_,mL x⟩
  | 13=>fun x=>⟨_,cY x⟩
  | _+14=>fun x=>⟨_,aBi x⟩
 st:=fun i=>(hty i).imp fun F h=>h.1
open Go Go.Ev
mutual
def aLc:GSel→GSel
 | ⟨k,a,n,ar,_,on,sels⟩=>⟨k,a,n,ar,[],on,uI sels⟩
def uI:List GSel→List GSel
 | []=>[]
 | x::l=>aLc x::uI l
end
def aEQ (o:GOp):GOp:=⟨o.kind,o.name,o.vars,[],uI o.sels⟩
def aER (f:GFrag):GFrag:=⟨f.name,f.on_,[],uI f.sels⟩
def aBH (d:GDoc):GDoc:=⟨d.ops.map aEQ,d.frags.map aER⟩
abbrev barA:GDoc→List PV:=fun d=>[(.agg [(.slice (List.map aU d.ops) [] false),(.slice (List.map aF d.frags) [] false)])]
abbrev barR:GDoc→PV:=fun d=>(.agg [(.slice (List.map aU d.ops) [] false),(.slice (List.map aF d.frags) [] false)])
def barF (d:GDoc):Option GDoc:=if kO d≤1048576 then some (aBH d) else none
def MTL:List (Nat×Hints):=[(4,{drop:=true}),
 (37,{takes:=[28],keeps:=[(3,[0,3,4])],drop:=true}),
 (43,{takes:=[21],keeps:=[(3,[0,3,4])],drop:=true}),
 (58,{takes:=[29,30,51,52],keeps:=[(3,[2,3,5,6]),(7,[2,3,5,7])],drop:=true}),
 (96,{takes:=[48],keeps:=[(2,[1,2,3]),(6,[1,3,4,5]),(10,[1,3,4,5,6,7])],drop:=true}),
 (114,{takes:=[31,32,59],keeps:=[(3,[2,5,6]),(10,[2,5,9,10])],drop:=true}),
 (192,{keeps:=[(12,[4,6,8,9,11])],drop:=true}),
 (236,{takes:=[17,39,40,59,60,61],keeps:=[(4,[1,2,5]),(8,[1,2,6])],own:=true,drop:=true}),
 (238,{drop:=true}),
 (239,{takes:=[20],keeps:=[(3,[0,2,3,4,5])],drop:=true}),
 (9,{drop:=true}),
 (12,{drop:=true}),
 (16,{keeps:=[(3,[2,3,4]),(7,[2,3,5])],drop:=true}),
 (10,{keeps:=[(2,[1,2,3])],drop:=true}),
 (11,{keeps:=[(4,[2,3,4,6,7])],drop:=true}),
 (38,{keeps:=[(2,[1,4,8,9,10])],drop:=true}),
 (105,{drop:=true}),
 (137,{gens:=[21,31],keeps:=[(3,[1,3,4,9,12,13,14])],drop:=true}),
 (70,{gens:=[25,41],keeps:=[(2,[2,3,4,6,12,13,14]),(8,[2,3,6,29,30,31])],drop:=true}),
 (40,{gens:=[10],drop:=true}),
 (15,{drop:=true}),
 (103,{takes:=[11],keeps:=[(3,[0,3,4])],drop:=true}),
 (36,{takes:=[11],keeps:=[(3,[0,3,4])],drop:=true}),
 (116,{drop:=true}),
 (115,{takes:=[16,38,39,40],keeps:=[(2,[1,2,3,4,9])],own:=true,drop:=true}),
 (166,{takes:=[48,53],keeps:=[(4,[2,5,6,8])],own:=true,drop:=true}),
 (29,{keeps:=[(2,[0,1,4,5])],drop:=true}),
 (182,{takes:=[4],own:=true,drop:=true}),
 (113,{keeps:=[(2,[1,2,4,5,6])],drop:=true}),
 (183,{takes:=[28,41,42,43],keeps:=[(2,[0,1,5])],own:=true,drop:=true}),
 (101,{drop:=true}),
 (224,{drop:=true}),
 (164,{keeps:=[(4,[1,2,4,5,6])],drop:=true}),
 (225,{keeps:=[(2,[1,2,3,6,7]),(8,[1,2,3,6,7,10]),(13,[1,2,6,11])],drop:=true}),
 (250,{keeps:=[(2,[0,1,5])],drop:=true}),
 (251,{keeps:=[(17,[0,1,4,5,6,7,8,9])],drop:=true}),
 (30,{keeps:=[(3,[1,3,4]),(8,[1,3,4,5,6])],drop:=true}),
 (31,{keeps:=[(3,[1,3,4]),(7,[1,3,4,5]),(11,[1,3,6])],drop:=true}),
 (14,{drop:=true}),
 (34,{drop:=true}),
 (35,{drop:=true}),
 (32,{drop:=true}),
 (33,{keeps:=[(2,[1,2,3]),(8,[1,2,3,4,5]),(13,[1,2,6])],drop:=true}),
 (20,{keeps:=[(23,[2,3,4,6,7,8])],drop:=true}),
 (104,{takes:=[15,28],keeps:=[(3,[1,3,9,10,11]),(8,[3,22,23,24])],drop:=true}),
 (39,{keeps:=[(2,[2,7,8,9])],drop:=true}),
 (68,{drop:=true}),
 (138,{drop:=true}),
 (41,{drop:=true}),
 (42,{keeps:=[(3,[0,3,8,9,10]),(6,[0,3,5,8,9,10,17,18,19])],drop:=true}),
 (175,{takes:=[12],keeps:=[(3,[1,2,3,4])],drop:=true}),
 (184,{drop:=true}),
 (159,{drop:=true}),
 (98,{keeps:=[(4,[0,2,3])],drop:=true}),
 (156,{drop:=true}),
 (193,{keeps:=[(2,[0,1,4,5,6])],drop:=true}),
 (219,{keeps:=[(2,[0,1,4,5,6])],drop:=true}),
 (195,{drop:=true}),
 (170,{drop:=true}),
 (83,{keeps:=[(3,[0,3,4])],drop:=true}),
 (84,{keeps:=[(3,[0,3,4])],drop:=true}),
 (85,{keeps:=[(3,[0,3,4])],drop:=true}),
 (86,{keeps:=[(3,[0,3,4])],drop:=true}),
 (87,{keeps:=[(3,[0,3,4])],drop:=true}),
 (88,{keeps:=[(3,[1,3,4]),(7,[1,3,5])],drop:=true}),
 (89,{keeps:=[(3,[1,2,3,4])],drop:=true}),
 (90,{drop:=true}),
 (91,{keeps:=[(2,[1,2,3]),(8,[1,2,3,4,5])],drop:=true}),
 (92,{keeps:=[(2,[1,2,3]),(8,[1,2,3,4,5])],drop:=true}),
 (93,{keeps:=[(2,[1,2,3]),(6,[1,2,3,4,5]),(12,[1,2,3,4,5,6,8])],drop:=true}),
 (94,{keeps:=[(2,[1,2,3]),(6,[1,2,3,4,5]),(10,[1,2,3,4,5,6,8])],drop:=true}),
 (95,{keeps:=[(2,[1,2,3]),(5,[1,2,3,4])],drop:=true}),
 (97,{keeps:=[(2,[1,2,3]),(7,[1,2,3,4])],drop:=true}),
 (99,{keeps:=[(2,[0,1,2,6,7])],drop:=true}),
 (100,{keeps:=[(4,[0,1,4,5])],drop:=true}),
 (102,{drop:=true}),
 (51,{takes:=[19],keeps:=[(3,[1,3,4])],drop:=true}),
 (50,{keeps:=[(2,[0,2,3]),(5,[0,2,3,4])],drop:=true}),
 (52,{keeps:=[(2,[2,3,4,5])],drop:=true}),
 (53,{takes:=[12],keeps:=[(3,[1,3,4])],drop:=true}),
 (54,{keeps:=[(2,[2,3,4,5]),(8,[2,4,6,7])],drop:=true}),
 (55,{keeps:=[(3,[3,4,5,6])],drop:=true}),
 (56,{keeps:=[(2,[1,2,3])],drop:=true}),
 (57,{keeps:=[(2,[1,2,3]),(6,[1,3,4,5])],drop:=true}),
 (59,{drop:=true}),
 (60,{keeps:=[(3,[2,4,6,7,8]),(6,[2,4,6,7,8,9])],drop:=true}),
 (61,{keeps:=[(3,[2,3,6,7,8]),(8,[2,3,6,7,8,9])],drop:=true}),
 (62,{keeps:=[(2,[2,3,4,6,7]),(9,[2,3,4,6,7,8,11])],drop:=true}),
 (63,{keeps:=[(2,[2,3,4,5]),(5,[2,3,4,5,6]),(12,[2,4,8,9]),(17,[2,4,8,9,10])],drop:=true}),
 (64,{keeps:=[(2,[2,3,4,5]),(6,[2,3,4,5,6,7])],drop:=true}),
 (65,{keeps:=[(2,[2,3,4,5]),(7,[2,3,4,6])],drop:=true}),
 (180,{drop:=true}),
 (179,{gens:=[16],keeps:=[(2,[0,1,4,7,8])],drop:=true}),
 (109,{gens:=[42],drop:=true}),
 (117,{keeps:=[(7,[2,6,7,8,10])],drop:=true}),
 (169,{drop:=true}),
 (155,{takes:=[12],keeps:=[(3,[1,3,4])],drop:=true}),
 (157,{keeps:=[(2,[1,2,3])],drop:=true}),
 (158,{keeps:=[(2,[0,2,3])],drop:=true}),
 (160,{takes:=[11],keeps:=[(3,[0,3,4])],drop:=true}),
 (161,{takes:=[11],keeps:=[(3,[0,3,4])],drop:=true}),
 (162,{keeps:=[(2,[0,2,3]),(5,[0,2,3,4])],drop:=true}),
 (163,{keeps:=[(2,[1,2,4,5])],drop:=true}),
 (118,{drop:=true}),
 (112,{drop:=true}),
 (165,{keeps:=[(4,[4,5,6,7]),(10,[4,5,6,10])],drop:=true}),
 (167,{keeps:=[(2,[1,2,4,5])],drop:=true}),
 (168,{keeps:=[(2,[1,2,4,5])],drop:=true}),
 (171,{keeps:=[(2,[0,1,2,6,7])],drop:=true}),
 (172,{drop:=true}),
 (173,{drop:=true}),
 (174,{keeps:=[(4,[2,3,4,5])],drop:=true}),
 (119,{keeps:=[(3,[6,7,8,9])],drop:=true}),
 (120,{takes:=[17,33,51],keeps:=[(3,[2,3,5,6]),(7,[2,3,5,7]),(12,[5,8,9])],drop:=true}),
 (121,{drop:=true}),
 (122,{takes:=[11],keeps:=[(3,[0,3,4])],drop:=true}),
 (124,{drop:=true}),
 (123,{drop:=true}),
 (125,{drop:=true}),
 (126,{takes:=[11],keeps:=[(3,[0,3,4])],drop:=true}),
 (127,{takes:=[11,32,33],keeps:=[(4,[2,5,6,7])],drop:=true}),
 (128,{keeps:=[(2,[0,1,4,5])],drop:=true}),
 (129,{drop:=true}),
 (130,{drop:=true}),
 (131,{keeps:=[(2,[1,2,3,6,7])],drop:=true}),
 (132,{takes:=[38],keeps:=[(4,[3,4,7,8,9])],drop:=true}),
 (134,{keeps:=[(2,[0,1,4,5])],drop:=true}),
 (133,{drop:=true}),
 (135,{keeps:=[(4,[2,3,4,5,8,9])],drop:=true}),
 (140,{drop:=true}),
 (178,{keeps:=[(4,[1,4,5,13,14,15])],drop:=true}),
 (209,{drop:=true}),
 (210,{drop:=true}),
 (211,{drop:=true}),
 (212,{drop:=true}),
 (213,{keeps:=[(4,[1,3,4]),(10,[1,3,5])],drop:=true}),
 (214,{takes:=[4],drop:=true}),
 (215,{keeps:=[(4,[0,1,4,5])],drop:=true}),
 (185,{takes:=[24,60,93],keeps:=[(8,[1,2,7,8]),(15,[2,5,7,10])],drop:=true}),
 (186,{keeps:=[(2,[0,1,4,5])],drop:=true}),
 (187,{keeps:=[(2,[0,2,3]),(5,[0,2,3,4])],drop:=true}),
 (188,{keeps:=[(2,[0,1,4,5])],drop:=true}),
 (189,{takes:=[18,19,39,40,46,47,48],keeps:=[(2,[0,1,5]),(6,[0,1,5,6])],own:=true,drop:=true}),
 (190,{keeps:=[(3,[3,4]),(6,[3,4,5])],drop:=true,vecs:=[(7,1)],frz:=[(9,[3])]}),
 (191,{keeps:=[(25,[1,2,6]),(32,[1,2,7])],drop:=true}),
 (194,{takes:=[22,49,71,87],keeps:=[(3,[1,2,3,7,8]),(8,[1,2,3,7,8,9])],own:=true,drop:=true}),
 (196,{drop:=true}),
 (197,{drop:=true}),
 (199,{takes:=[26,37,66,75],keeps:=[(3,[2,3,4,5,9,10])],own:=true,drop:=true}),
 (198,{keeps:=[(2,[2,3,4,6,7]),(5,[2,3,4,6,7,8])],drop:=true}),
 (201,{drop:=true}),
 (216,{drop:=true}),
 (232,{keeps:=[(2,[0,2,3])],drop:=true}),
 (233,{keeps:=[(2,[0,2,3])],drop:=true}),
 (234,{keeps:=[(2,[0,2,3])],drop:=true}),
 (235,{keeps:=[(2,[1,2,3]),(7,[1,2,4])],drop:=true}),
 (220,{takes:=[33,40],keeps:=[(2,[0,1,5]),(6,[0,1,5,6,7])],own:=true,drop:=true}),
 (221,{drop:=true}),
 (222,{keeps:=[(5,[0,2,3,4,5,6])],drop:=true}),
 (223,{drop:=true}),
 (226,{takes:=[27],keeps:=[(3,[1,2,3,7,8])],drop:=true}),
 (227,{drop:=true}),
 (228,{drop:=true}),
 (240,{takes:=[55,95],keeps:=[(11,[4,7,9,11,12]),(17,[4,7,11,13,15])],drop:=true}),
 (241,{drop:=true}),
 (242,{keeps:=[(9,[4,5,8,13,14]),(12,[4,5,8,13,14,15])],drop:=true}),
 (243,{keeps:=[(4,[0,1,4,5])],drop:=true}),
 (244,{takes:=[22],drop:=true}),
 (245,{keeps:=[(2,[0,1,4,7,8])],drop:=true}),
 (252,{drop:=true})]
def MT (f:FuncId):Hints:=match Go.Ev.look MTL f with | some m=>m | none=>{}
noncomputable def XT:Ext:=fun f=>Go.Ev.look [(16,(aUi Tryz.prog (fun _ _=>none) 16 barA barR barF))] f
noncomputable def O:Orc:=OL Tryz.prog MT XT
abbrev LBs:=bL→bL
abbrev EU:=Ex×List PV×UP
abbrev Ri {α:Type} (e:α→PV) (r:α) (v:PV×UP):Prop:=v=(e r,[])
noncomputable abbrev eW (i:Nat) (ds:Decs) (fn:Func) (O:Orc) (LP:LBs) (a:List PV) (u:UP):=aAa Tryz.prog (MT i) ds fn.ntmps O LP fn a u
def aA:Bool→PV:=fun r=>PV.bool r
theorem aC (a b:Bool) (h:aA a=aA b):a=b:=Ev.bool_inj a b h
noncomputable def rC (s:GSchema) (d:GDoc):Option Bool:=tO O 4 [(eS s),(eD d)] [] fun r=>(aA r,[])
def qF:(List GSel)→PV:=fun r=>(hJ aG) r
theorem aNu (a b:List GSel) (h:qF a=qF b):a=b:=(Ev.encSl_inj aDR) a b h
noncomputable def aHG (l0:List GSel):Option (List GSel):=tO O 37 [(zq aG l0)] [] fun r=>(qF r,[])
noncomputable def eP (l0:List GSel):Option (List GSel):=tO O 43 [(zq aG l0)] [] fun r=>(qF r,[])
def uJ:(List GSeineref13Spot)→PV:=fun r=>(hJ aL) r
theorem aUm (a b:List GSeineref13Spot) (h:uJ a=uJ b):a=b:=(Ev.encSl_inj qZ) a b h
noncomputable def aSQ (s:GSchema) (d:GDoc):Option (List GSeineref13Spot):=tO O 58 [(eS s),(eD d)] [] fun r=>(uJ r,[])
noncomputable def aSR (s:GSchema):Option Bool:=tO O 96 [(eS s)] [] fun r=>(aA r,[])
def uK:(List Str)→PV:=fun r=>(hJ PV.str) r
theorem aUn (a b:List Str) (h:uK a=uK b):a=b:=(Ev.encSl_inj Ev.str_inj) a b h
noncomputable def aSS (d:GDoc) (l0:List GSel):Option (List Str):=tO O 114 [(eD d),(zq aG l0)] [] fun r=>(uK r,[])
noncomputable def sH (s:GSchema) (t:GType) (v0:GValue) (alone:Bool):Option Bool:=tO O 192 [(eS s),(eT t),(eV v0),(.bool alone)] [] fun r=>(aA r,[])
def kG:(List Str)→PV:=fun r => .slice (List.map PV.str r) [] true
theorem aDT (a b:List Str) (h:kG a=kG b):a=b:=Ev.encSlO_inj Ev.str_inj a b h
noncomputable def aLd (v0:GValue) (out0:List Str):Option (List Str):=tO O 236 [(eV v0),(zp PV.str out0)] [] fun r=>(kG r,[])
def gR:(Int×Int)→PV:=fun r => .tuple [(PV.int .i64) r.1,(PV.int .i64) r.2]
theorem aFK (a b:Int×Int) (h:gR a=gR b):a=b:=by
 simp only [gR,PV.tuple.injEq,List.cons.injEq,and_true] at h
 exact Prod.ext ((Ev.int_inj _) _ _ h.1) ((Ev.int_inj _) _ _ h.2)
noncomputable def aJ9 (s:Str):Option (Int×Int):=tO O 238 [(.str s)] [] fun r=>(gR r,[])
def rD:((List Int)×Bool)→PV:=fun r => .tuple [(hJ (PV.int .i64)) r.1,PV.bool r.2]
theorem aUo (a b:(List Int)×Bool) (h:rD a=rD b):a=b:=by
 simp only [rD,PV.tuple.injEq,List.cons.injEq,and_true] at h
 exact Prod.ext ((Ev.encSl_inj (Ev.int_inj _)) _ _ h.1) (Ev.bool_inj _ _ h.2)
noncomputable def aST (s:Str):Option ((List Int)×Bool):=tO O 239 [(.str s)] [] fun r=>(rD r,[])
noncomputable def pM (s:GSchema) (d:GDoc):Option Bool:=tO O 9 [(eS s),(eD d)] [] fun r=>(aA r,[])
noncomputable def fA:Option Bool:=tO O 12 [] [] fun r=>(aA r,[])
def kH:GDoc→PV:=fun r=>jX r
theorem aES (a b:GDoc) (h:kH a=kH b):a=b:=aSO a b h
noncomputable def mP (d:GDoc):Option GDoc:=tO O 16 [(eD d)] [] fun r=>(kH r,[])
def dC:Int→PV:=fun r=>(PV.int .i64) r
theorem aBk (a b:Int) (h:dC a=dC b):a=b:=(Ev.int_inj _) a b h
noncomputable def aSU (s:GSchema):Option Int:=tO O 10 [(eS s)] [] fun r=>(dC r,[])
noncomputable def aW0 (s:GSchema) (d:GDoc) (n:Int):Option Bool:=tO O 11 [(eS s),(eD d),(i6 n)] [] fun r=>(aA r,[])
noncomputable def aET (d:GDoc):Option Bool:=tO O 38 [(eD d),(.func (.func 39) [] [])] [] fun r=>(aA r,[])
def dU (a:Str) (x:GSel) (u0_4:GDoc) (u0_3:GSchema):Bool→UP:=fun r=>[[(5,[(.func (.func 39) [] [])]),(4,[(zq aU u0_4.ops),(zq aF u0_4.frags)]),(3,[(zq aI u0_3.defs),(.str u0_3.query),(.str u0_3.mutation)])]]
noncomputable def rE (a:Str) (x:GSel) (u0_4:GDoc) (u0_3:GSchema):Option Bool:=tO O 105 [(.str a),(eL x),(.ptr 1 5 0)] [[(5,[(.func (.func 39) [] [])]),(4,[(zq aU u0_4.ops),(zq aF u0_4.frags)]),(3,[(zq aI u0_3.defs),(.str u0_3.query),(.str u0_3.mutation)])]] fun r=>(aA r,(dU a x u0_4 u0_3 r))
def kP (s:GSchema) (typ:Str) (l0:List GSel) (u0_4:GDoc) (u0_3:GSchema):Bool→UP:=fun r=>[[(5,[(.func (.func 39) [] [])]),(4,[(zq aU u0_4.ops),(zq aF u0_4.frags)]),(3,[(zq aI u0_3.defs),(.str u0_3.query),(.str u0_3.mutation)])]]
noncomputable def aHH (s:GSchema) (typ:Str) (l0:List GSel) (u0_4:GDoc) (u0_3:GSchema):Option Bool:=tO O 137 [(eS s),(.str typ),(zq aG l0),(.func (.func 105) [] [(.ptr 1 5 0)])] [[(5,[(.func (.func 39) [] [])]),(4,[(zq aU u0_4.ops),(zq aF u0_4.frags)]),(3,[(zq aI u0_3.defs),(.str u0_3.query),(.str u0_3.mutation)])]] fun r=>(aA r,(kP s typ l0 u0_4 u0_3 r))
def qG (s:GSchema) (d:GDoc) (u0_4:GDoc) (u0_3:GSchema):Bool→UP:=fun r=>[[(5,[(.func (.func 39) [] [])]),(4,[(zq aU u0_4.ops),(zq aF u0_4.frags)]),(3,[(zq aI u0_3.defs),(.str u0_3.query),(.str u0_3.mutation)])]]
noncomputable def aQq (s:GSchema) (d:GDoc) (u0_4:GDoc) (u0_3:GSchema):Option Bool:=tO O 70 [(eS s),(eD d),(.func (.func 105) [] [(.ptr 1 5 0)])] [[(5,[(.func (.func 39) [] [])]),(4,[(zq aU u0_4.ops),(zq aF u0_4.frags)]),(3,[(zq aI u0_3.defs),(.str u0_3.query),(.str u0_3.mutation)])]] fun r=>(aA r,(qG s d u0_4 u0_3 r))
noncomputable def vW (s:GSchema) (d:GDoc):Option Bool:=tO O 40 [(eS s),(eD d),(.func (.func 39) [] [])] [] fun r=>(aA r,[])
noncomputable def vX (d:GDoc):Option Bool:=tO O 38 [(eD d),(.func (.func 41) [] [])] [] fun r=>(aA r,[])
noncomputable def vY (d:GDoc):Option Bool:=tO O 38 [(eD d),(.func (.func 42) [] [])] [] fun r=>(aA r,[])
def cP (a:Str) (x:GSel) (u0_4:GDoc) (u0_3:GSchema):Bool→UP:=fun r=>[[(5,[(.func (.func 42) [] [])]),(4,[(zq aU u0_4.ops),(zq aF u0_4.frags)]),(3,[(zq aI u0_3.defs),(.str u0_3.query),(.str u0_3.mutation)])]]
noncomputable def mQ (a:Str) (x:GSel) (u0_4:GDoc) (u0_3:GSchema):Option Bool:=tO O 105 [(.str a),(eL x),(.ptr 1 5 0)] [[(5,[(.func (.func 42) [] [])]),(4,[(zq aU u0_4.ops),(zq aF u0_4.frags)]),(3,[(zq aI u0_3.defs),(.str u0_3.query),(.str u0_3.mutation)])]] fun r=>(aA r,(cP a x u0_4 u0_3 r))
def dG (s:GSchema) (typ:Str) (l0:List GSel) (u0_4:GDoc) (u0_3:GSchema):Bool→UP:=fun r=>[[(5,[(.func (.func 42) [] [])]),(4,[(zq aU u0_4.ops),(zq aF u0_4.frags)]),(3,[(zq aI u0_3.defs),(.str u0_3.query),(.str u0_3.mutation)])]]
noncomputable def rG (s:GSchema) (typ:Str) (l0:List GSel) (u0_4:GDoc) (u0_3:GSchema):Option Bool:=tO O 137 [(eS s),(.str typ),(zq aG l0),(.func (.func 105) [] [(.ptr 1 5 0)])] [[(5,[(.func (.func 42) [] [])]),(4,[(zq aU u0_4.ops),(zq aF u0_4.frags)]),(3,[(zq aI u0_3.defs),(.str u0_3.query),(.str u0_3.mutation)])]] fun r=>(aA r,(dG s typ l0 u0_4 u0_3 r))
def gS (s:GSchema) (d:GDoc) (u0_4:GDoc) (u0_3:GSchema):Bool→UP:=fun r=>[[(5,[(.func (.func 42) [] [])]),(4,[(zq aU u0_4.ops),(zq aF u0_4.frags)]),(3,[(zq aI u0_3.defs),(.str u0_3.query),(.str u0_3.mutation)])]]
noncomputable def aEU (s:GSchema) (d:GDoc) (u0_4:GDoc) (u0_3:GSchema):Option Bool:=tO O 70 [(eS s),(eD d),(.func (.func 105) [] [(.ptr 1 5 0)])] [[(5,[(.func (.func 42) [] [])]),(4,[(zq aU u0_4.ops),(zq aF u0_4.frags)]),(3,[(zq aI u0_3.defs),(.str u0_3.query),(.str u0_3.mutation)])]] fun r=>(aA r,(gS s d u0_4 u0_3 r))
noncomputable def pN (s:GSchema) (d:GDoc):Option Bool:=tO O 40 [(eS s),(eD d),(.func (.func 42) [] [])] [] fun r=>(aA r,[])
noncomputable def rH (s:GSchema) (d:GDoc) (n:Int):Option Bool:=tO O 15 [(eS s),(eD d),(i6 n)] [] fun r=>(aA r,[])
def rI:(List GMember)→PV:=fun r=>(hJ aD) r
theorem aNv (a b:List GMember) (h:rI a=rI b):a=b:=(Ev.encSl_inj kM) a b h
noncomputable def uL (l0:List GMember):Option (List GMember):=tO O 103 [(zq aD l0)] [] fun r=>(rI r,[])
def aBl:(List GDir)→PV:=fun r=>(hJ aH) r
theorem aW1 (a b:List GDir) (h:aBl a=aBl b):a=b:=(Ev.encSl_inj vT) a b h
noncomputable def aLe (l0:List GDir):Option (List GDir):=tO O 36 [(zq aH l0)] [] fun r=>(aBl r,[])
def mR:Str→PV:=fun r=>PV.str r
theorem aDU (a b:Str) (h:mR a=mR b):a=b:=Ev.str_inj a b h
noncomputable def aQr (s:GSchema) (o:GOp):Option Str:=tO O 116 [(eS s),(.agg [(i6 o.kind),(.str o.name),(zq aY o.vars),(zq aH o.dirs),(zq aG o.sels)])] [] fun r=>(mR r,[])
def aAl:(List GSeineref13Spot)→PV:=fun r => .slice (List.map aL r) [] true
theorem aUp (a b:List GSeineref13Spot) (h:aAl a=aAl b):a=b:=Ev.encSlO_inj qZ a b h
noncomputable def aDV (s:GSchema) (typ:Str) (l0:List GSel) (out0:List GSeineref13Spot):Option (List GSeineref13Spot):=tO O 115 [(eS s),(.str typ),(zq aG l0),(zp aL out0)] [] fun r=>(aAl r,[])
noncomputable def aGI (s:GSchema) (name:Str):Option (List Str):=tO O 166 [(eS s),(.str name)] [] fun r=>(kG r,[])
noncomputable def aBY (l0:List Str) (s:Str):Option Bool:=tO O 29 [(zq PV.str l0),(.str s)] [] fun r=>(aA r,[])
noncomputable def aEV (l0:List GSel):Option (List Str):=tO O 182 [(zq aG l0)] [] fun r=>(kG r,[])
def aBm:(GFrag×Bool)→PV:=fun r => .tuple [aF r.1,PV.bool r.2]
theorem aW2 (a b:GFrag×Bool) (h:aBm a=aBm b):a=b:=by
 simp only [aBm,PV.tuple.injEq,List.cons.injEq,and_true] at h
 exact Prod.ext (aNr _ _ h.1) (Ev.bool_inj _ _ h.2)
noncomputable def aQs (d:GDoc) (name:Str):Option (GFrag×Bool):=tO O 113 [(eD d),(.str name)] [] fun r=>(aBm r,[])
noncomputable def jN (l0:List GSel) (out0:List Str):Option (List Str):=tO O 183 [(zq aG l0),(zp PV.str out0)] [] fun r=>(kG r,[])
noncomputable def oX (t:GType):Option Bool:=tO O 101 [(eT t)] [] fun r=>(aA r,[])
def aBn:(GType×Bool)→PV:=fun r => .tuple [iZ r.1,PV.bool r.2]
theorem aW3 (a b:GType×Bool) (h:aBn a=aBn b):a=b:=by
 simp only [aBn,PV.tuple.injEq,List.cons.injEq,and_true] at h
 exact Prod.ext (aWR _ _ h.1) (Ev.bool_inj _ _ h.2)
noncomputable def aQt (t:GType):Option (GType×Bool):=tO O 224 [(eT t)] [] fun r=>(aBn r,[])
def sI:(GDef×Bool)→PV:=fun r => .tuple [aI r.1,PV.bool r.2]
theorem aNw (a b:GDef×Bool) (h:sI a=sI b):a=b:=by
 simp only [sI,PV.tuple.injEq,List.cons.injEq,and_true] at h
 exact Prod.ext (aYt _ _ h.1) (Ev.bool_inj _ _ h.2)
noncomputable def vZ (s:GSchema) (name:Str):Option (GDef×Bool):=tO O 164 [(eS s),(.str name)] [] fun r=>(sI r,[])
noncomputable def aBo (s:GSchema) (l0:List GParam) (m:List GMember):Option Bool:=tO O 225 [(eS s),(zq aQ l0),(zq aD m)] [] fun r=>(aA r,[])
noncomputable def aAm (s:Str) (i:Int):Option Int:=tO O 250 [(.str s),(.int .i64 i)] [] fun r=>(dC r,[])
noncomputable def aQu (s:Str) (i:Int):Option (Int×Int):=tO O 251 [(.str s),(i6 i)] [] fun r=>(gR r,[])
noncomputable def aAn (s:GSchema):Option Bool:=tO O 30 [(eS s)] [] fun r=>(aA r,[])
noncomputable def aAo (d:GDoc):Option Bool:=tO O 31 [(eD d)] [] fun r=>(aA r,[])
def jE:(GParam×Bool)→PV:=fun r => .tuple [aQ r.1,PV.bool r.2]
theorem aFL (a b:GParam×Bool) (h:jE a=jE b):a=b:=by
 simp only [jE,PV.tuple.injEq,List.cons.injEq,and_true] at h
 exact Prod.ext (aEL _ _ h.1) (Ev.bool_inj _ _ h.2)
noncomputable def aBp (name:Str):Option (GParam×Bool):=tO O 34 [(.str name)] [] fun r=>(jE r,[])
def aAp:(List (List GDir))→PV:=fun r=>(hJ (hJ aH)) r
theorem aUq (a b:List (List GDir)) (h:aAp a=aAp b):a=b:=(Ev.encSl_inj (Ev.encSl_inj vT)) a b h
noncomputable def aDW (d:GDoc):Option (List (List GDir)):=tO O 104 [(eD d)] [] fun r=>(aAp r,[])
noncomputable def aBq (l0:List GDir):Option Bool:=tO O 39 [(zq aH l0)] [] fun r=>(aA r,[])
noncomputable def aHI (s:GSchema) (o:GOp):Option Str:=tO O 68 [(eS s),(.agg [(i6 o.kind),(.str o.name),(zq aY o.vars),(zq aH o.dirs),(zq aG o.sels)])] [] fun r=>(mR r,[])
noncomputable def uM (s:GSchema) (typ:Str) (x:GSel):Option Str:=tO O 138 [(eS s),(.str typ),(eL x)] [] fun r=>(mR r,[])
noncomputable def aEW (l0:List GDir):Option Bool:=tO O 41 [(zq aH l0)] [] fun r=>(aA r,[])
noncomputable def aDX (l0:List GDir):Option Bool:=tO O 42 [(zq aH l0)] [] fun r=>(aA r,[])
def aAq:GValue→PV:=fun r=>aN r
theorem aUr (a b:GValue) (h:aAq a=aAq b):a=b:=qL a b h
noncomputable def aBs (v0:GValue):Option GValue:=tO O 175 [(eV v0)] [] fun r=>(aAq r,[])
noncomputable def aHJ (s:GSchema) (typ:Str) (x:GSel):Option Str:=tO O 184 [(eS s),(.str typ),(eL x)] [] fun r=>(mR r,[])
noncomputable def aYF (s:GSchema) (name:Str) (a:Int) (b:Int) (c:Int):Option Bool:=tO O 159 [(eS s),(.str name),(i6 a),(i6 b),(i6 c)] [] fun r=>(aA r,[])
noncomputable def aQv (s:Str):Option Bool:=tO O 98 [(.str s)] [] fun r=>(aA r,[])
noncomputable def aHK (name:Str):Option Bool:=tO O 156 [(.str name)] [] fun r=>(aA r,[])
noncomputable def aLf (l0:List GParam) (name:Str):Option (GParam×Bool):=tO O 193 [(zq aQ l0),(.str name)] [] fun r=>(jE r,[])
def aEX:(GValue×Bool)→PV:=fun r => .tuple [aN r.1,PV.bool r.2]
theorem aYG (a b:GValue×Bool) (h:aEX a=aEX b):a=b:=by
 simp only [aEX,PV.tuple.injEq,List.cons.injEq,and_true] at h
 exact Prod.ext (qL _ _ h.1) (Ev.bool_inj _ _ h.2)
noncomputable def aSV (name:Str) (l0:List GMember):Option (GValue×Bool):=tO O 219 [(.str name),(zq aD l0)] [] fun r=>(aEX r,[])
noncomputable def bA3 (t:GType):Option Bool:=tO O 195 [(eT t)] [] fun r=>(aA r,[])
noncomputable def aGJ (c:Int):Option Bool:=tO O 170 [(.int .u8 c)] [] fun r=>(aA r,[])
def kQ (f:GFieldDef) (u0_8:GDef) (u0_6:Str) (u0_60:Str) (u0_600:Int) (u0_6000:Int) (u0_5:Str) (u0_3:GSchema):Bool→UP:=fun r=>[[(8,[(i6 u0_8.kind),(.str u0_8.name),(zq PV.str u0_8.faces),(zq aK u0_8.fields),(zq PV.str u0_8.parts),(zq aQ u0_8.params)]),(6,[(.str u0_6),(.slice [] [] true),(.str u0_60),(i6 u0_600),(i6 u0_6000),(.slice [] [] true)]),(5,[(.str u0_5)]),(3,[(zq aI u0_3.defs),(.str u0_3.query),(.str u0_3.mutation)])]]
noncomputable def aEY (f:GFieldDef) (u0_8:GDef) (u0_6:Str) (u0_60:Str) (u0_600:Int) (u0_6000:Int) (u0_5:Str) (u0_3:GSchema):Option Bool:=tO O 180 [(.agg [(.str f.name),(zq aQ f.params),(.str f.t.name),(i6 f.t.lists),(i6 f.t.musts),(zq aH f.dirs)]),(.ptr 1 5 0)] [[(8,[(i6 u0_8.kind),(.str u0_8.name),(zq PV.str u0_8.faces),(zq aK u0_8.fields),(zq PV.str u0_8.parts),(zq aQ u0_8.params)]),(6,[(.str u0_6),(.slice [] [] true),(.str u0_60),(i6 u0_600),(i6 u0_6000),(.slice [] [] true)]),(5,[(.str u0_5)]),(3,[(zq aI u0_3.defs),(.str u0_3.query),(.str u0_3.mutation)])]] fun r=>(aA r,(kQ f u0_8 u0_6 u0_60 u0_600 u0_6000 u0_5 u0_3 r))
def bH (s:List GFieldDef) (u0_8:GDef) (u0_6:Str) (u0_60:Str) (u0_600:Int) (u0_6000:Int) (u0_5:Str) (u0_3:GSchema):Int→UP:=fun r=>[[(8,[(i6 u0_8.kind),(.str u0_8.name),(zq PV.str u0_8.faces),(zq aK u0_8.fields),(zq PV.str u0_8.parts),(zq aQ u0_8.params)]),(6,[(.str u0_6),(.slice [] [] true),(.str u0_60),(i6 u0_600),(i6 u0_6000),(.slice [] [] true)]),(5,[(.str u0_5)]),(3,[(zq aI u0_3.defs),(.str u0_3.query),(.str u0_3.mutation)])]]
noncomputable def kR (s:List GFieldDef) (u0_8:GDef) (u0_6:Str) (u0_60:Str) (u0_600:Int) (u0_6000:Int) (u0_5:Str) (u0_3:GSchema):Option Int:=tO O 179 [(zq aK s),(.func (.func 180) [] [(.ptr 1 5 0)])] [[(8,[(i6 u0_8.kind),(.str u0_8.name),(zq PV.str u0_8.faces),(zq aK u0_8.fields),(zq PV.str u0_8.parts),(zq aQ u0_8.params)]),(6,[(.str u0_6),(.slice [] [] true),(.str u0_60),(i6 u0_600),(i6 u0_6000),(.slice [] [] true)]),(5,[(.str u0_5)]),(3,[(zq aI u0_3.defs),(.str u0_3.query),(.str u0_3.mutation)])]] fun r=>(dC r,(bH s u0_8 u0_6 u0_60 u0_600 u0_6000 u0_5 u0_3 r))
def oY:(GFieldDef×Bool)→PV:=fun r => .tuple [aK r.1,PV.bool r.2]
theorem aKa (a b:GFieldDef×Bool) (h:oY a=oY b):a=b:=by
 simp only [oY,PV.tuple.injEq,List.cons.injEq,and_true] at h
 exact Prod.ext (aDQ _ _ h.1) (Ev.bool_inj _ _ h.2)
noncomputable def aLg (s:GSchema) (typ:Str) (name:Str):Option (GFieldDef×Bool):=tO O 109 [(eS s),(.str typ),(.str name)] [] fun r=>(oY r,[])
noncomputable def aLh (s:GSchema) (typ:Str) (name:Str):Option (GFieldDef×Bool):=tO O 117 [(eS s),(.str typ),(.str name)] [] fun r=>(oY r,[])
noncomputable def aGK (c:Int):Option Bool:=tO O 169 [(.int .u8 c)] [] fun r=>(aA r,[])
noncomputable def aAr (s:GSchema) (name:Str):Option Bool:=tO O 112 [(eS s),(.str name)] [] fun r=>(aA r,[])
noncomputable def aAs (s:GSchema) (name:Str):Option Bool:=tO O 140 [(eS s),(.str name)] [] fun r=>(aA r,[])
noncomputable def aHL (s:GSchema) (name:Str):Option (GDef×Bool):=tO O 178 [(eS s),(.str name)] [] fun r=>(sI r,[])
noncomputable def aQw (s:GSchema) (name:Str) (kinds:List Int):Option Bool:=tO O 201 [(eS s),(.str name),(.slice (List.map (PV.int .i64) kinds) [] false)] [] fun r=>(aA r,[])
noncomputable def aHM (name:Str):Option Bool:=tO O 216 [(.str name)] [] fun r=>(aA r,[])
noncomputable def gT (s:List Int) (v0:Int):Option Bool:=tO O 228 [(.slice (List.map (PV.int .i64) s) [] false),(i6 v0)] [] fun r=>(aA r,[])
noncomputable def fW (s:List Int) (v0:Int):Option Int:=tO O 245 [(.slice (List.map (PV.int .i64) s) [] false),(i6 v0)] [] fun r=>(dC r,[])
theorem zes:(∀ r:Bool,aA r=PV.bool r) ∧
 (∀ r:(List GSel),qF r=(hJ aG) r) ∧
 (∀ r:(List GSeineref13Spot),uJ r=(hJ aL) r) ∧
 (∀ r:(List Str),uK r=(hJ PV.str) r) ∧
 (∀ r:(List Str),kG r = .slice (List.map PV.str r) [] true) ∧
 (∀ r:(Int×Int),gR r = .tuple [(PV.int .i64) r.1,(PV.int .i64) r.2]) ∧
 (∀ r:((List Int)×Bool),rD r = .tuple [(hJ (PV.int .i64)) r.1,PV.bool r.2]) ∧
 (∀ r:GDoc,kH r=jX r) ∧
 (∀ r:Int,dC r=(PV.int .i64) r) ∧
 (∀ r:(List GMember),rI r=(hJ aD) r) ∧
 (∀ r:(List GDir),aBl r=(hJ aH) r) ∧
 (∀ r:Str,mR r=PV.str r) ∧
 (∀ r:(List GSeineref13Spot),aAl r = .slice (List.map aL r) [] true) ∧
 (∀ r:(GFrag×Bool),aBm r = .tuple [aF r.1,PV.bool r.2]) ∧
 (∀ r:(GType×Bool),aBn r = .tuple [iZ r.1,PV.bool r.2]) ∧
 (∀ r:(GDef×Bool),sI r = .tuple [aI r.1,PV.bool r.2]) ∧
 (∀ r:(GParam×Bool),jE r = .tuple [aQ r.1,PV.bool r.2]) ∧
 (∀ r:(List (List GDir)),aAp r=(hJ (hJ aH)) r) ∧
 (∀ r:GValue,aAq r=aN r) ∧
 (∀ r:(GValue×Bool),aEX r = .tuple [aN r.1,PV.bool r.2]) ∧
 (∀ r:(GFieldDef×Bool),oY r = .tuple [aK r.1,PV.bool r.2]) :=
 ⟨fun _=>rfl,fun _=>rfl,fun _=>rfl,fun _=>rfl,fun _=>rfl,fun _=>rfl,fun _=>rfl,fun _=>rfl,fun _=>rfl,fun _=>rfl,fun _=>rfl,fun _=>rfl,fun _=>rfl,fun _=>rfl,fun _=>rfl,fun _=>rfl,fun _=>rfl,fun _=>rfl,fun _=>rfl,fun _=>rfl,fun _=>rfl⟩
end Go.Proofs.YtphmfillajagdaaGreat

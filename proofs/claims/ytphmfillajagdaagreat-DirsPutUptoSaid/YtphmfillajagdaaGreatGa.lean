import Derived.Test.YtphmfillajagdaaGreatEd
import Derived.Test.YtphmfillajagdaaGreatProg
import Derived.KernelRfl
import Derived.Test.YtphmfillajagdaaGreatEt
set_option linter.unusedVariables false
set_option linter.unusedSimpArgs false
set_option linter.unusedSimpArgs false
open Go Go.Ev Go.Ev.PV
namespace Go.Proofs.YtphmfillajagdaaGreat
structure GType where
 name:Str
 lists:Int
 musts:Int
mutual
structure GValue where
 kind:Int
 n:Int
 s:Str
 l:List GValue
 m:List GMember
structure GMember where
 name:Str
 v:GValue
end
structure GParam where
 name:Str
 t:GType
 has:Bool
 default:GValue
structure GDir where
 name:Str
 args:List GMember
structure GFieldDef where
 name:Str
 params:List GParam
 t:GType
 dirs:List GDir
structure GDef where
 kind:Int
 name:Str
 faces:List Str
 fields:List GFieldDef
 parts:List Str
 params:List GParam
structure GSchema where
 defs:List GDef
 query:Str
 mutation:Str
structure GVarDef where
 name:Str
 t:GType
 has:Bool
 default:GValue
structure GSel where
 kind:Int
 alias:Str
 name:Str
 args:List GMember
 dirs:List GDir
 on_:Str
 sels:List GSel
structure GOp where
 kind:Int
 name:Str
 vars:List GVarDef
 dirs:List GDir
 sels:List GSel
structure GFrag where
 name:Str
 on_:Str
 dirs:List GDir
 sels:List GSel
structure GDoc where
 ops:List GOp
 frags:List GFrag
structure GSeineref13Spot where
 typ:Str
 x:GSel
structure GSpot where
 var:Str
 t:GType
 has:Bool
def aVl:Sh := .agg [.str,n6,n6]
def nO:Sh := .agg [n6,n6,.str,sf,sf]
def dU:Sh := .agg [.str,n6,n6,.str,sf,sf]
def gK:Sh := .agg [.str,.str,n6,n6,.bool,n6,n6,.str,sf,sf]
def aCA:Sh := .agg [.str,sf]
def cO:Sh := .agg [.str,sf,.str,n6,n6,sf]
def pY:Sh := .agg [n6,.str,sf,sf,sf,sf]
def aVm:Sh := .agg [sf,.str,.str]
def aVn:Sh := .agg [.str,.str,n6,n6,.bool,n6,n6,.str,sf,sf]
def rJ:Sh := .agg [n6,.str,.str,sf,sf,.str,sf]
def shOp:Sh := .agg [n6,.str,sf,sf,sf]
def gW:Sh := .agg [.str,.str,sf,sf]
def bFw:Sh := .agg [sf,sf]
def fE:Sh := .agg [.str,n6,.str,.str,sf,sf,.str,sf]
def bDx:Sh := .agg [.str,.str,n6,n6,.bool]
def jP (x:GType):PV := .agg [.str x.name,.int .i64 x.lists,.int .i64 x.musts]
theorem mH (x:GType):jP x = .agg [.str x.name,.int .i64 x.lists,.int .i64 x.musts]:=rfl
theorem aZu (x:GType):chk aVl (jP x)=true:=by rw [mH];rfl
theorem aZv (a b:GType) (h:jP a=jP b):a=b:=by
 simp only [mH,PV.agg.injEq,List.cons.injEq,PV.slice.injEq,PV.str.injEq,PV.int.injEq,PV.bool.injEq,true_and,and_true] at h
 obtain ⟨a0,a1,a2⟩:=a
 obtain ⟨b0,b1,b2⟩:=b
 dsimp only at h
 have e0:=h.1
 have e1:=h.2.1
 have e2:=h.2.2
 subst e0 e1 e2
 rfl
mutual
def aP:GValue->PV
 | ⟨x0,x1,x2,x3,x4⟩ => .agg ([.int .i64 x0,.int .i64 x1,.str x2,.slice (kW x3) [] false,.slice (iW x4) [] false])
def aC:GMember->PV
 | ⟨x0,x1⟩ => .agg ([.str x0]++(aP x1).cells)
def kW:List GValue->List PV
 | []=>[]
 | x::l=>aP x::kW l
def iW:List GMember->List PV
 | []=>[]
 | x::l=>aC x::iW l
end
theorem aAR:∀ (l:List GValue),kW l=List.map aP l
 | []=>by simp only [kW,List.map]
 | x::l=>by simp only [kW,List.map,aAR l]
theorem xF:∀ (l:List GMember),iW l=List.map aC l
 | []=>by simp only [iW,List.map]
 | x::l=>by simp only [iW,List.map,xF l]
theorem eY (x:GValue):aP x = .agg [.int .i64 x.kind,.int .i64 x.n,.str x.s,.slice (List.map aP x.l) [] false,.slice (List.map aC x.m) [] false]:=by
 cases x;simp only [aP,cells,List.cons_append,List.nil_append,aAR,xF]
theorem jQ (x:GMember):aC x = .agg [.str x.name,.int .i64 x.v.kind,.int .i64 x.v.n,.str x.v.s,.slice (List.map aP x.v.l) [] false,.slice (List.map aC x.v.m) [] false]:=by
 cases x;simp only [aC,cells,List.cons_append,List.nil_append,aAR,xF,eY]
theorem aB1 (x:GValue):chk nO (aP x)=true:=by rw [eY];rfl
theorem fU (x:GMember):chk dU (aC x)=true:=by rw [jQ];rfl
mutual
theorem rX:∀ (a b:GValue),aP a=aP b->a=b
 | ⟨a0,a1,a2,a3,a4⟩,⟨b0,b1,b2,b3,b4⟩,h=>by
  simp only [aP,PV.agg.injEq,List.cons.injEq,List.append_eq,PV.slice.injEq,PV.str.injEq,PV.int.injEq,PV.bool.injEq,true_and,and_true] at h
  have e0:=h.1
  have e1:=h.2.1
  have e2:=h.2.2.1
  have e3:=aJi _ _ h.2.2.2.1
  have e4:=aG9 _ _ h.2.2.2.2
  subst e0 e1 e2 e3 e4
  rfl
theorem lN:∀ (a b:GMember),aC a=aC b->a=b
 | ⟨a0,a1⟩,⟨b0,b1⟩,h=>by
  simp only [aC,PV.agg.injEq,List.cons_append,List.nil_append,List.cons.injEq,PV.slice.injEq,PV.str.injEq,PV.int.injEq,PV.bool.injEq,true_and,and_true] at h
  have e0:=h.1
  have e1:=rX a1 b1 (by
   have h':=h.2
   cases a1;cases b1;simp only [aP,cells] at h' ⊢;rw [h'])
  subst e0 e1
  rfl
theorem aJi:∀ (a b:List GValue),kW a=kW b->a=b
 | [],[],_=>rfl
 | [],_::_,h=>by simp [kW] at h
 | _::_,[],h=>by simp [kW] at h
 | x::l,y::m,h=>by
  simp only [kW,List.cons.injEq] at h
  rw [rX x y h.1,aJi l m h.2]
theorem aG9:∀ (a b:List GMember),iW a=iW b->a=b
 | [],[],_=>rfl
 | [],_::_,h=>by simp [iW] at h
 | _::_,[],h=>by simp [iW] at h
 | x::l,y::m,h=>by
  simp only [iW,List.cons.injEq] at h
  rw [lN x y h.1,aG9 l m h.2]
end
def aR (x:GParam):PV := .agg [.str x.name,.str x.t.name,.int .i64 x.t.lists,.int .i64 x.t.musts,.bool x.has,.int .i64 x.default.kind,.int .i64 x.default.n,.str x.default.s,.slice (List.map aP x.default.l) [] false,.slice (List.map aC x.default.m) [] false]
theorem jR (x:GParam):aR x = .agg [.str x.name,.str x.t.name,.int .i64 x.t.lists,.int .i64 x.t.musts,.bool x.has,.int .i64 x.default.kind,.int .i64 x.default.n,.str x.default.s,.slice (List.map aP x.default.l) [] false,.slice (List.map aC x.default.m) [] false]:=rfl
theorem oO (x:GParam):chk gK (aR x)=true:=by rw [jR];rfl
theorem aFZ (a b:GParam) (h:aR a=aR b):a=b:=by
 simp only [jR,PV.agg.injEq,List.cons.injEq,PV.slice.injEq,PV.str.injEq,PV.int.injEq,PV.bool.injEq,true_and,and_true] at h
 obtain ⟨a0,⟨a1,a2,a3⟩,a4,⟨a5,a6,a7,a8,a9⟩⟩:=a
 obtain ⟨b0,⟨b1,b2,b3⟩,b4,⟨b5,b6,b7,b8,b9⟩⟩:=b
 dsimp only at h
 have e0:=h.1
 have e1:=h.2.1
 have e2:=h.2.2.1
 have e3:=h.2.2.2.1
 have e4:=h.2.2.2.2.1
 have e5:=h.2.2.2.2.2.1
 have e6:=h.2.2.2.2.2.2.1
 have e7:=h.2.2.2.2.2.2.2.1
 have e8:=cH rX h.2.2.2.2.2.2.2.2.1
 have e9:=cH lN h.2.2.2.2.2.2.2.2.2
 subst e0 e1 e2 e3 e4 e5 e6 e7 e8 e9
 rfl
def aF (x:GDir):PV := .agg [.str x.name,.slice (List.map aC x.args) [] false]
theorem pZ (x:GDir):aF x = .agg [.str x.name,.slice (List.map aC x.args) [] false]:=rfl
theorem tU (x:GDir):chk aCA (aF x)=true:=by rw [pZ];rfl
theorem tV (a b:GDir) (h:aF a=aF b):a=b:=by
 simp only [pZ,PV.agg.injEq,List.cons.injEq,PV.slice.injEq,PV.str.injEq,PV.int.injEq,PV.bool.injEq,true_and,and_true] at h
 obtain ⟨a0,a1⟩:=a
 obtain ⟨b0,b1⟩:=b
 dsimp only at h
 have e0:=h.1
 have e1:=cH lN h.2
 subst e0 e1
 rfl
def aL (x:GFieldDef):PV := .agg [.str x.name,.slice (List.map aR x.params) [] false,.str x.t.name,.int .i64 x.t.lists,.int .i64 x.t.musts,.slice (List.map aF x.dirs) [] false]
theorem eH (x:GFieldDef):aL x = .agg [.str x.name,.slice (List.map aR x.params) [] false,.str x.t.name,.int .i64 x.t.lists,.int .i64 x.t.musts,.slice (List.map aF x.dirs) [] false]:=rfl
theorem fJ (x:GFieldDef):chk cO (aL x)=true:=by rw [eH];rfl
theorem aEX (a b:GFieldDef) (h:aL a=aL b):a=b:=by
 simp only [eH,PV.agg.injEq,List.cons.injEq,PV.slice.injEq,PV.str.injEq,PV.int.injEq,PV.bool.injEq,true_and,and_true] at h
 obtain ⟨a0,a1,⟨a2,a3,a4⟩,a5⟩:=a
 obtain ⟨b0,b1,⟨b2,b3,b4⟩,b5⟩:=b
 dsimp only at h
 have e0:=h.1
 have e1:=cH aFZ h.2.1
 have e2:=h.2.2.1
 have e3:=h.2.2.2.1
 have e4:=h.2.2.2.2.1
 have e5:=cH tV h.2.2.2.2.2
 subst e0 e1 e2 e3 e4 e5
 rfl
def aH (x:GDef):PV := .agg [.int .i64 x.kind,.str x.name,.slice (List.map PV.str x.faces) [] false,.slice (List.map aL x.fields) [] false,.slice (List.map PV.str x.parts) [] false,.slice (List.map aR x.params) [] false]
theorem qA (x:GDef):aH x = .agg [.int .i64 x.kind,.str x.name,.slice (List.map PV.str x.faces) [] false,.slice (List.map aL x.fields) [] false,.slice (List.map PV.str x.parts) [] false,.slice (List.map aR x.params) [] false]:=rfl
theorem aB2 (x:GDef):chk pY (aH x)=true:=by rw [qA];rfl
theorem aVo (a b:GDef) (h:aH a=aH b):a=b:=by
 simp only [qA,PV.agg.injEq,List.cons.injEq,PV.slice.injEq,PV.str.injEq,PV.int.injEq,PV.bool.injEq,true_and,and_true] at h
 obtain ⟨a0,a1,a2,a3,a4,a5⟩:=a
 obtain ⟨b0,b1,b2,b3,b4,b5⟩:=b
 dsimp only at h
 have e0:=h.1
 have e1:=h.2.1
 have e2:=cH Ev.str_inj h.2.2.1
 have e3:=cH aEX h.2.2.2.1
 have e4:=cH Ev.str_inj h.2.2.2.2.1
 have e5:=cH aFZ h.2.2.2.2.2
 subst e0 e1 e2 e3 e4 e5
 rfl
def dB (x:GSchema):PV := .agg [.slice (List.map aH x.defs) [] false,.str x.query,.str x.mutation]
theorem gX (x:GSchema):dB x = .agg [.slice (List.map aH x.defs) [] false,.str x.query,.str x.mutation]:=rfl
theorem aSz (x:GSchema):chk aVm (dB x)=true:=by rw [gX];rfl
theorem aSA (a b:GSchema) (h:dB a=dB b):a=b:=by
 simp only [gX,PV.agg.injEq,List.cons.injEq,PV.slice.injEq,PV.str.injEq,PV.int.injEq,PV.bool.injEq,true_and,and_true] at h
 obtain ⟨a0,a1,a2⟩:=a
 obtain ⟨b0,b1,b2⟩:=b
 dsimp only at h
 have e0:=cH aVo h.1
 have e1:=h.2.1
 have e2:=h.2.2
 subst e0 e1 e2
 rfl
def bC (x:GVarDef):PV := .agg [.str x.name,.str x.t.name,.int .i64 x.t.lists,.int .i64 x.t.musts,.bool x.has,.int .i64 x.default.kind,.int .i64 x.default.n,.str x.default.s,.slice (List.map aP x.default.l) [] false,.slice (List.map aC x.default.m) [] false]
theorem fK (x:GVarDef):bC x = .agg [.str x.name,.str x.t.name,.int .i64 x.t.lists,.int .i64 x.t.musts,.bool x.has,.int .i64 x.default.kind,.int .i64 x.default.n,.str x.default.s,.slice (List.map aP x.default.l) [] false,.slice (List.map aC x.default.m) [] false]:=rfl
theorem aSB (x:GVarDef):chk aVn (bC x)=true:=by rw [fK];rfl
theorem aSC (a b:GVarDef) (h:bC a=bC b):a=b:=by
 simp only [fK,PV.agg.injEq,List.cons.injEq,PV.slice.injEq,PV.str.injEq,PV.int.injEq,PV.bool.injEq,true_and,and_true] at h
 obtain ⟨a0,⟨a1,a2,a3⟩,a4,⟨a5,a6,a7,a8,a9⟩⟩:=a
 obtain ⟨b0,⟨b1,b2,b3⟩,b4,⟨b5,b6,b7,b8,b9⟩⟩:=b
 dsimp only at h
 have e0:=h.1
 have e1:=h.2.1
 have e2:=h.2.2.1
 have e3:=h.2.2.2.1
 have e4:=h.2.2.2.2.1
 have e5:=h.2.2.2.2.2.1
 have e6:=h.2.2.2.2.2.2.1
 have e7:=h.2.2.2.2.2.2.2.1
 have e8:=cH rX h.2.2.2.2.2.2.2.2.1
 have e9:=cH lN h.2.2.2.2.2.2.2.2.2
 subst e0 e1 e2 e3 e4 e5 e6 e7 e8 e9
 rfl
mutual
def aI:GSel->PV
 | ⟨x0,x1,x2,x3,x4,x5,x6⟩ => .agg ([.int .i64 x0,.str x1,.str x2,.slice (List.map aC x3) [] false,.slice (List.map aF x4) [] false,.str x5,.slice (uU x6) [] false])
def uU:List GSel->List PV
 | []=>[]
 | x::l=>aI x::uU l
end
theorem aL8:∀ (l:List GSel),uU l=List.map aI l
 | []=>by simp only [uU,List.map]
 | x::l=>by simp only [uU,List.map,aL8 l]
theorem kX (x:GSel):aI x = .agg [.int .i64 x.kind,.str x.alias,.str x.name,.slice (List.map aC x.args) [] false,.slice (List.map aF x.dirs) [] false,.str x.on_,.slice (List.map aI x.sels) [] false]:=by
 cases x;simp only [aI,cells,List.cons_append,List.nil_append,aL8]
theorem kG (x:GSel):chk rJ (aI x)=true:=by rw [kX];rfl
mutual
theorem aEY:∀ (a b:GSel),aI a=aI b->a=b
 | ⟨a0,a1,a2,a3,a4,a5,a6⟩,⟨b0,b1,b2,b3,b4,b5,b6⟩,h=>by
  simp only [aI,PV.agg.injEq,List.cons.injEq,List.append_eq,PV.slice.injEq,PV.str.injEq,PV.int.injEq,PV.bool.injEq,true_and,and_true] at h
  have e0:=h.1
  have e1:=h.2.1
  have e2:=h.2.2.1
  have e3:=cH lN h.2.2.2.1
  have e4:=cH tV h.2.2.2.2.1
  have e5:=h.2.2.2.2.2.1
  have e6:=aPz _ _ h.2.2.2.2.2.2
  subst e0 e1 e2 e3 e4 e5 e6
  rfl
theorem aPz:∀ (a b:List GSel),uU a=uU b->a=b
 | [],[],_=>rfl
 | [],_::_,h=>by simp [uU] at h
 | _::_,[],h=>by simp [uU] at h
 | x::l,y::m,h=>by
  simp only [uU,List.cons.injEq] at h
  rw [aEY x y h.1,aPz l m h.2]
end
def aU (x:GOp):PV := .agg [.int .i64 x.kind,.str x.name,.slice (List.map bC x.vars) [] false,.slice (List.map aF x.dirs) [] false,.slice (List.map aI x.sels) [] false]
theorem pI (x:GOp):aU x = .agg [.int .i64 x.kind,.str x.name,.slice (List.map bC x.vars) [] false,.slice (List.map aF x.dirs) [] false,.slice (List.map aI x.sels) [] false]:=rfl
theorem aDo (x:GOp):chk shOp (aU x)=true:=by rw [pI];rfl
theorem bEg (a b:GOp) (h:aU a=aU b):a=b:=by
 simp only [pI,PV.agg.injEq,List.cons.injEq,PV.slice.injEq,PV.str.injEq,PV.int.injEq,PV.bool.injEq,true_and,and_true] at h
 obtain ⟨a0,a1,a2,a3,a4⟩:=a
 obtain ⟨b0,b1,b2,b3,b4⟩:=b
 dsimp only at h
 have e0:=h.1
 have e1:=h.2.1
 have e2:=cH aSC h.2.2.1
 have e3:=cH tV h.2.2.2.1
 have e4:=cH aEY h.2.2.2.2
 subst e0 e1 e2 e3 e4
 rfl
def aG (x:GFrag):PV := .agg [.str x.name,.str x.on_,.slice (List.map aF x.dirs) [] false,.slice (List.map aI x.sels) [] false]
theorem mI (x:GFrag):aG x = .agg [.str x.name,.str x.on_,.slice (List.map aF x.dirs) [] false,.slice (List.map aI x.sels) [] false]:=rfl
theorem iS (x:GFrag):chk gW (aG x)=true:=by rw [mI];rfl
theorem aPA (a b:GFrag) (h:aG a=aG b):a=b:=by
 simp only [mI,PV.agg.injEq,List.cons.injEq,PV.slice.injEq,PV.str.injEq,PV.int.injEq,PV.bool.injEq,true_and,and_true] at h
 obtain ⟨a0,a1,a2,a3⟩:=a
 obtain ⟨b0,b1,b2,b3⟩:=b
 dsimp only at h
 have e0:=h.1
 have e1:=h.2.1
 have e2:=cH tV h.2.2.1
 have e3:=cH aEY h.2.2.2
 subst e0 e1 e2 e3
 rfl
def oE (x:GDoc):PV := .agg [.slice (List.map aU x.ops) [] false,.slice (List.map aG x.frags) [] false]
theorem qB (x:GDoc):oE x = .agg [.slice (List.map aU x.ops) [] false,.slice (List.map aG x.frags) [] false]:=rfl
theorem bBz (x:GDoc):chk bFw (oE x)=true:=by rw [qB];rfl
theorem bBA (a b:GDoc) (h:oE a=oE b):a=b:=by
 simp only [qB,PV.agg.injEq,List.cons.injEq,PV.slice.injEq,PV.str.injEq,PV.int.injEq,PV.bool.injEq,true_and,and_true] at h
 obtain ⟨a0,a1⟩:=a
 obtain ⟨b0,b1⟩:=b
 dsimp only at h
 have e0:=cH bEg h.1
 have e1:=cH aPA h.2
 subst e0 e1
 rfl
def aJ (x:GSeineref13Spot):PV := .agg [.str x.typ,.int .i64 x.x.kind,.str x.x.alias,.str x.x.name,.slice (List.map aC x.x.args) [] false,.slice (List.map aF x.x.dirs) [] false,.str x.x.on_,.slice (List.map aI x.x.sels) [] false]
theorem eC (x:GSeineref13Spot):aJ x = .agg [.str x.typ,.int .i64 x.x.kind,.str x.x.alias,.str x.x.name,.slice (List.map aC x.x.args) [] false,.slice (List.map aF x.x.dirs) [] false,.str x.x.on_,.slice (List.map aI x.x.sels) [] false]:=rfl
theorem lO (x:GSeineref13Spot):chk fE (aJ x)=true:=by rw [eC];rfl
theorem sO (a b:GSeineref13Spot) (h:aJ a=aJ b):a=b:=by
 simp only [eC,PV.agg.injEq,List.cons.injEq,PV.slice.injEq,PV.str.injEq,PV.int.injEq,PV.bool.injEq,true_and,and_true] at h
 obtain ⟨a0,⟨a1,a2,a3,a4,a5,a6,a7⟩⟩:=a
 obtain ⟨b0,⟨b1,b2,b3,b4,b5,b6,b7⟩⟩:=b
 dsimp only at h
 have e0:=h.1
 have e1:=h.2.1
 have e2:=h.2.2.1
 have e3:=h.2.2.2.1
 have e4:=cH lN h.2.2.2.2.1
 have e5:=cH tV h.2.2.2.2.2.1
 have e6:=h.2.2.2.2.2.2.1
 have e7:=cH aEY h.2.2.2.2.2.2.2
 subst e0 e1 e2 e3 e4 e5 e6 e7
 rfl
def aF0 (x:GSpot):PV := .agg [.str x.var,.str x.t.name,.int .i64 x.t.lists,.int .i64 x.t.musts,.bool x.has]
theorem aB3 (x:GSpot):aF0 x = .agg [.str x.var,.str x.t.name,.int .i64 x.t.lists,.int .i64 x.t.musts,.bool x.has]:=rfl
theorem aZw (x:GSpot):chk bDx (aF0 x)=true:=by rw [aB3];rfl
abbrev eS (x:GSchema):PV := .agg [(zq aH x.defs),(.str x.query),(.str x.mutation)]
abbrev eD (x:GDoc):PV := .agg [(zq aU x.ops),(zq aG x.frags)]
abbrev eL (x:GSel):PV := .agg [(i6 x.kind),(.str x.alias),(.str x.name),(zq aC x.args),(zq aF x.dirs),(.str x.on_),(zq aI x.sels)]
abbrev eV (x:GValue):PV := .agg [(i6 x.kind),(i6 x.n),(.str x.s),(zq aP x.l),(zq aC x.m)]
abbrev eT (x:GType):PV := .agg [(.str x.name),(i6 x.lists),(i6 x.musts)]
abbrev eR (x:GDir):PV := .agg [(.str x.name),(zq aC x.args)]
theorem tys:(∀ x:GType,jP x = .agg [.str x.name,.int .i64 x.lists,.int .i64 x.musts]) /\
  (∀ x:GValue,aP x = .agg [.int .i64 x.kind,.int .i64 x.n,.str x.s,.slice (List.map aP x.l) [] false,.slice (List.map aC x.m) [] false]) /\
  (∀ x:GMember,aC x = .agg [.str x.name,.int .i64 x.v.kind,.int .i64 x.v.n,.str x.v.s,.slice (List.map aP x.v.l) [] false,.slice (List.map aC x.v.m) [] false]) /\
  (∀ x:GParam,aR x = .agg [.str x.name,.str x.t.name,.int .i64 x.t.lists,.int .i64 x.t.musts,.bool x.has,.int .i64 x.default.kind,.int .i64 x.default.n,.str x.default.s,.slice (List.map aP x.default.l) [] false,.slice (List.map aC x.default.m) [] false]) /\
  (∀ x:GDir,aF x = .agg [.str x.name,.slice (List.map aC x.args) [] false]) /\
  (∀ x:GFieldDef,aL x = .agg [.str x.name,.slice (List.map aR x.params) [] false,.str x.t.name,.int .i64 x.t.lists,.int .i64 x.t.musts,.slice (List.map aF x.dirs) [] false]) /\
  (∀ x:GDef,aH x = .agg [.int .i64 x.kind,.str x.name,.slice (List.map PV.str x.faces) [] false,.slice (List.map aL x.fields) [] false,.slice (List.map PV.str x.parts) [] false,.slice (List.map aR x.params) [] false]) /\
  (∀ x:GSchema,dB x = .agg [.slice (List.map aH x.defs) [] false,.str x.query,.str x.mutation]) /\
  (∀ x:GVarDef,bC x = .agg [.str x.name,.str x.t.name,.int .i64 x.t.lists,.int .i64 x.t.musts,.bool x.has,.int .i64 x.default.kind,.int .i64 x.default.n,.str x.default.s,.slice (List.map aP x.default.l) [] false,.slice (List.map aC x.default.m) [] false]) /\
  (∀ x:GSel,aI x = .agg [.int .i64 x.kind,.str x.alias,.str x.name,.slice (List.map aC x.args) [] false,.slice (List.map aF x.dirs) [] false,.str x.on_,.slice (List.map aI x.sels) [] false]) /\
  (∀ x:GOp,aU x = .agg [.int .i64 x.kind,.str x.name,.slice (List.map bC x.vars) [] false,.slice (List.map aF x.dirs) [] false,.slice (List.map aI x.sels) [] false]) /\
  (∀ x:GFrag,aG x = .agg [.str x.name,.str x.on_,.slice (List.map aF x.dirs) [] false,.slice (List.map aI x.sels) [] false]) /\
  (∀ x:GDoc,oE x = .agg [.slice (List.map aU x.ops) [] false,.slice (List.map aG x.frags) [] false]) /\
  (∀ x:GSeineref13Spot,aJ x = .agg [.str x.typ,.int .i64 x.x.kind,.str x.x.alias,.str x.x.name,.slice (List.map aC x.x.args) [] false,.slice (List.map aF x.x.dirs) [] false,.str x.x.on_,.slice (List.map aI x.x.sels) [] false]) /\
  (∀ x:GSpot,aF0 x = .agg [.str x.var,.str x.t.name,.int .i64 x.t.lists,.int .i64 x.t.musts,.bool x.has]):=⟨mH,eY,jQ,jR,pZ,eH,qA,gX,fK,kX,pI,mI,qB,eC,aB3⟩
theorem chks:(∀ x,chk aVl (jP x)=true) /\
  (∀ x,chk nO (aP x)=true) /\
  (∀ x,chk dU (aC x)=true) /\
  (∀ x,chk gK (aR x)=true) /\
  (∀ x,chk aCA (aF x)=true) /\
  (∀ x,chk cO (aL x)=true) /\
  (∀ x,chk pY (aH x)=true) /\
  (∀ x,chk aVm (dB x)=true) /\
  (∀ x,chk aVn (bC x)=true) /\
  (∀ x,chk rJ (aI x)=true) /\
  (∀ x,chk shOp (aU x)=true) /\
  (∀ x,chk gW (aG x)=true) /\
  (∀ x,chk bFw (oE x)=true) /\
  (∀ x,chk fE (aJ x)=true) /\
  (∀ x,chk bDx (aF0 x)=true):=⟨aZu,aB1,fU,oO,tU,fJ,aB2,aSz,aSB,kG,aDo,iS,bBz,lO,aZw⟩
open Go Go.Ev Go.Ev.PV
def aAS (x:GType):Nat:=(dA x.name+(bk1 x.lists+(bk1 x.musts+(0))))+1
def aCS (x:GType):Prop:=gd1 x.name/\((gdI .i64) x.lists/\((gdI .i64) x.musts/\(True)))
theorem kY (x:GType):aAS x=(dA x.name+(bk1 x.lists+(bk1 x.musts+(0))))+1:=rfl
theorem aZx (x:GType):aCS x=(gd1 x.name/\((gdI .i64) x.lists/\((gdI .i64) x.musts/\(True)))):=rfl
mutual
def bY:GValue->Nat
 | ⟨x0,x1,x2,x3,x4⟩=>(bk1 x0+(bk1 x1+(dA x2+((rK x3+1)+((nP x4+1)+(0))))))+1
def aX:GMember->Nat
 | ⟨x0,x1⟩=>(dA x0+(bY x1+(0)))+1
def rK:List GValue->Nat
 | []=>0
 | x::l=>bY x+rK l
def nP:List GMember->Nat
 | []=>0
 | x::l=>aX x+nP l
end
mutual
def qR:GValue->Prop
 | ⟨x0,x1,x2,x3,x4⟩=>(gdI .i64) x0/\((gdI .i64) x1/\(gd1 x2/\(aEZ x3/\(aAT x4/\(True)))))
def pJ:GMember->Prop
 | ⟨x0,x1⟩=>gd1 x0/\(qR x1/\(True))
def aEZ:List GValue->Prop
 | []=>True
 | x::l=>qR x/\aEZ l
def aAT:List GMember->Prop
 | []=>True
 | x::l=>pJ x/\aAT l
end
theorem xG:∀ (l:List GValue),rK l=sumL bY l
 | []=>by simp only [rK,sumL]
 | x::l=>by simp only [rK,sumL,xG l]
theorem aDp:∀ (l:List GValue),aEZ l=gdSl qR l
 | []=>by simp [aEZ,gdSl]
 | x::l=>by simp [aEZ,gdSl,aDp l]
theorem tW:∀ (l:List GMember),nP l=sumL aX l
 | []=>by simp only [nP,sumL]
 | x::l=>by simp only [nP,sumL,tW l]
theorem aAU:∀ (l:List GMember),aAT l=gdSl pJ l
 | []=>by simp [aAT,gdSl]
 | x::l=>by simp [aAT,gdSl,aAU l]
theorem bZ (x:GValue):bY x=(bk1 x.kind+(bk1 x.n+(dA x.s+((bkSl bY) x.l+((bkSl aX) x.m+(0))))))+1:=by
 cases x;simp only [bY,bkSl,xG,tW]
theorem aWS (x:GValue):qR x=((gdI .i64) x.kind/\((gdI .i64) x.n/\(gd1 x.s/\((gdSl qR) x.l/\((gdSl pJ) x.m/\(True)))))):=by
 cases x;simp only [qR,aDp,aAU]
theorem cM (x:GMember):aX x=(dA x.name+(bY x.v+(0)))+1:=by
 cases x;simp only [aX,bkSl,xG,tW]
theorem aSD (x:GMember):pJ x=(gd1 x.name/\(qR x.v/\(True))):=by
 cases x;simp only [pJ,aDp,aAU]
def jD (x:GParam):Nat:=(dA x.name+(aAS x.t+(bk1 x.has+(bY x.default+(0)))))+1
def aF1 (x:GParam):Prop:=gd1 x.name/\(aCS x.t/\(gd1 x.has/\(qR x.default/\(True))))
theorem oP (x:GParam):jD x=(dA x.name+(aAS x.t+(bk1 x.has+(bY x.default+(0)))))+1:=rfl
theorem aWT (x:GParam):aF1 x=(gd1 x.name/\(aCS x.t/\(gd1 x.has/\(qR x.default/\(True))))):=rfl
def eZ (x:GDir):Nat:=(dA x.name+((bkSl aX) x.args+(0)))+1
def aKC (x:GDir):Prop:=gd1 x.name/\((gdSl pJ) x.args/\(True))
theorem iG (x:GDir):eZ x=(dA x.name+((bkSl aX) x.args+(0)))+1:=rfl
theorem bBB (x:GDir):aKC x=(gd1 x.name/\((gdSl pJ) x.args/\(True))):=rfl
def gL (x:GFieldDef):Nat:=(dA x.name+((bkSl jD) x.params+(aAS x.t+((bkSl eZ) x.dirs+(0)))))+1
def aB4 (x:GFieldDef):Prop:=gd1 x.name/\((gdSl aF1) x.params/\(aCS x.t/\((gdSl aKC) x.dirs/\(True))))
theorem kH (x:GFieldDef):gL x=(dA x.name+((bkSl jD) x.params+(aAS x.t+((bkSl eZ) x.dirs+(0)))))+1:=rfl
theorem aNd (x:GFieldDef):aB4 x=(gd1 x.name/\((gdSl aF1) x.params/\(aCS x.t/\((gdSl aKC) x.dirs/\(True))))):=rfl
def aJj (x:GDef):Nat:=(bk1 x.kind+(dA x.name+((bkSl dA) x.faces+((bkSl gL) x.fields+((bkSl dA) x.parts+((bkSl jD) x.params+(0)))))))+1
def bBC (x:GDef):Prop:=(gdI .i64) x.kind/\(gd1 x.name/\((gdSl gd1) x.faces/\((gdSl aB4) x.fields/\((gdSl gd1) x.parts/\((gdSl aF1) x.params/\(True))))))
theorem nQ (x:GDef):aJj x=(bk1 x.kind+(dA x.name+((bkSl dA) x.faces+((bkSl gL) x.fields+((bkSl dA) x.parts+((bkSl jD) x.params+(0)))))))+1:=rfl
theorem bBD (x:GDef):bBC x=((gdI .i64) x.kind/\(gd1 x.name/\((gdSl gd1) x.faces/\((gdSl aB4) x.fields/\((gdSl gd1) x.parts/\((gdSl aF1) x.params/\(True))))))):=rfl
def jF (x:GSchema):Nat:=((bkSl aJj) x.defs+(dA x.query+(dA x.mutation+(0))))+1
def aNe (x:GSchema):Prop:=(gdSl bBC) x.defs/\(gd1 x.query/\(gd1 x.mutation/\(True)))
theorem oQ (x:GSchema):jF x=((bkSl aJj) x.defs+(dA x.query+(dA x.mutation+(0))))+1:=rfl
theorem aSE (x:GSchema):aNe x=((gdSl bBC) x.defs/\(gd1 x.query/\(gd1 x.mutation/\(True)))):=rfl
def rL (x:GVarDef):Nat:=(dA x.name+(aAS x.t+(bk1 x.has+(bY x.default+(0)))))+1
def aId (x:GVarDef):Prop:=gd1 x.name/\(aCS x.t/\(gd1 x.has/\(qR x.default/\(True))))
theorem sP (x:GVarDef):rL x=(dA x.name+(aAS x.t+(bk1 x.has+(bY x.default+(0)))))+1:=rfl
theorem aSF (x:GVarDef):aId x=(gd1 x.name/\(aCS x.t/\(gd1 x.has/\(qR x.default/\(True))))):=rfl
mutual
def dC:GSel->Nat
 | ⟨x0,x1,x2,x3,x4,x5,x6⟩=>(bk1 x0+(dA x1+(dA x2+((bkSl aX) x3+((bkSl eZ) x4+(dA x5+((bT x6+1)+(0))))))))+1
def bT:List GSel->Nat
 | []=>0
 | x::l=>dC x+bT l
end
mutual
def aHD:GSel->Prop
 | ⟨x0,x1,x2,x3,x4,x5,x6⟩=>(gdI .i64) x0/\(gd1 x1/\(gd1 x2/\((gdSl pJ) x3/\((gdSl aKC) x4/\(gd1 x5/\(aPB x6/\(True)))))))
def aPB:List GSel->Prop
 | []=>True
 | x::l=>aHD x/\aPB l
end
theorem fL:∀ (l:List GSel),bT l=sumL dC l
 | []=>by simp only [bT,sumL]
 | x::l=>by simp only [bT,sumL,fL l]
theorem aPC:∀ (l:List GSel),aPB l=gdSl aHD l
 | []=>by simp [aPB,gdSl]
 | x::l=>by simp [aPB,gdSl,aPC l]
theorem gD (x:GSel):dC x=(bk1 x.kind+(dA x.alias+(dA x.name+((bkSl aX) x.args+((bkSl eZ) x.dirs+(dA x.on_+((bkSl dC) x.sels+(0))))))))+1:=by
 cases x;simp only [dC,bkSl,fL]
theorem bBE (x:GSel):aHD x=((gdI .i64) x.kind/\(gd1 x.alias/\(gd1 x.name/\((gdSl pJ) x.args/\((gdSl aKC) x.dirs/\(gd1 x.on_/\((gdSl aHD) x.sels/\(True)))))))):=by
 cases x;simp only [aHD,aPC]
def bkOp (x:GOp):Nat:=(bk1 x.kind+(dA x.name+((bkSl rL) x.vars+((bkSl eZ) x.dirs+((bkSl dC) x.sels+(0))))))+1
def gdOp (x:GOp):Prop:=(gdI .i64) x.kind/\(gd1 x.name/\((gdSl aId) x.vars/\((gdSl aKC) x.dirs/\((gdSl aHD) x.sels/\(True)))))
theorem kR (x:GOp):bkOp x=(bk1 x.kind+(dA x.name+((bkSl rL) x.vars+((bkSl eZ) x.dirs+((bkSl dC) x.sels+(0))))))+1:=rfl
theorem bEh (x:GOp):gdOp x=((gdI .i64) x.kind/\(gd1 x.name/\((gdSl aId) x.vars/\((gdSl aKC) x.dirs/\((gdSl aHD) x.sels/\(True)))))):=rfl
def dV (x:GFrag):Nat:=(dA x.name+(dA x.on_+((bkSl eZ) x.dirs+((bkSl dC) x.sels+(0)))))+1
def aVp (x:GFrag):Prop:=gd1 x.name/\(gd1 x.on_/\((gdSl aKC) x.dirs/\((gdSl aHD) x.sels/\(True))))
theorem gM (x:GFrag):dV x=(dA x.name+(dA x.on_+((bkSl eZ) x.dirs+((bkSl dC) x.sels+(0)))))+1:=rfl
theorem aZy (x:GFrag):aVp x=(gd1 x.name/\(gd1 x.on_/\((gdSl aKC) x.dirs/\((gdSl aHD) x.sels/\(True))))):=rfl
def eF (x:GDoc):Nat:=((bkSl bkOp) x.ops+((bkSl dV) x.frags+(0)))+1
def bEi (x:GDoc):Prop:=(gdSl gdOp) x.ops/\((gdSl aVp) x.frags/\(True))
theorem xH (x:GDoc):eF x=((bkSl bkOp) x.ops+((bkSl dV) x.frags+(0)))+1:=rfl
theorem bBF (x:GDoc):bEi x=((gdSl gdOp) x.ops/\((gdSl aVp) x.frags/\(True))):=rfl
def zU (x:GSeineref13Spot):Nat:=(dA x.typ+(dC x.x+(0)))+1
def zW (x:GSeineref13Spot):Prop:=gd1 x.typ/\(aHD x.x/\(True))
theorem aDq (x:GSeineref13Spot):zU x=(dA x.typ+(dC x.x+(0)))+1:=rfl
theorem aDr (x:GSeineref13Spot):zW x=(gd1 x.typ/\(aHD x.x/\(True))):=rfl
def bDy (x:GSpot):Nat:=(dA x.var+(aAS x.t+(bk1 x.has+(0))))+1
def bDz (x:GSpot):Prop:=gd1 x.var/\(aCS x.t/\(gd1 x.has/\(True)))
theorem aZz (x:GSpot):bDy x=(dA x.var+(aAS x.t+(bk1 x.has+(0))))+1:=rfl
theorem aZA (x:GSpot):bDz x=(gd1 x.var/\(aCS x.t/\(gd1 x.has/\(True)))):=rfl
def TS:Nat->TypeId
 | 0=>49
 | 1=>52
 | 2=>70
 | 3=>61
 | 4=>41
 | 5=>104
 | 6=>100
 | 7=>24
 | 8=>54
 | 9=>44
 | 10=>38
 | 11=>68
 | 12=>28
 | 13=>83
 | _=>140
def BS:Nat->Ty
 | 0=>(.fcons .str (.fcons (.int .i64) (.fcons (.int .i64) .fnil)))
 | 1=>(.fcons (.int .i64) (.fcons (.int .i64) (.fcons .str (.fcons (.sl (.ext 1)) (.fcons (.sl (.ext 2)) .fnil)))))
 | 2=>(.fcons .str (.fcons (.ext 1) .fnil))
 | 3=>(.fcons .str (.fcons (.ext 0) (.fcons .bool (.fcons (.ext 1) .fnil))))
 | 4=>(.fcons .str (.fcons (.sl (.ext 2)) .fnil))
 | 5=>(.fcons .str (.fcons (.sl (.ext 3)) (.fcons (.ext 0) (.fcons (.sl (.ext 4)) .fnil))))
 | 6=>(.fcons (.int .i64) (.fcons .str (.fcons (.sl .str) (.fcons (.sl (.ext 5)) (.fcons (.sl .str) (.fcons (.sl (.ext 3)) .fnil))))))
 | 7=>(.fcons (.sl (.ext 6)) (.fcons .str (.fcons .str .fnil)))
 | 8=>(.fcons .str (.fcons (.ext 0) (.fcons .bool (.fcons (.ext 1) .fnil))))
 | 9=>(.fcons (.int .i64) (.fcons .str (.fcons .str (.fcons (.sl (.ext 2)) (.fcons (.sl (.ext 4)) (.fcons .str (.fcons (.sl (.ext 9)) .fnil)))))))
 | 10=>(.fcons (.int .i64) (.fcons .str (.fcons (.sl (.ext 8)) (.fcons (.sl (.ext 4)) (.fcons (.sl (.ext 9)) .fnil)))))
 | 11=>(.fcons .str (.fcons .str (.fcons (.sl (.ext 4)) (.fcons (.sl (.ext 9)) .fnil))))
 | 12=>(.fcons (.sl (.ext 10)) (.fcons (.sl (.ext 11)) .fnil))
 | 13=>(.fcons .str (.fcons (.ext 9) .fnil))
 | _=>(.fcons .str (.fcons (.ext 0) (.fcons .bool .fnil)))
abbrev bEj:RecTy:=⟨GType,jP,3,aAS,aCS,fun x=>sM _ (mH x) rfl rfl⟩
abbrev bBG:RecTy:=⟨GValue,aP,5,bY,qR,fun x=>sM _ (eY x) rfl rfl⟩
abbrev aZB:RecTy:=⟨GMember,aC,6,aX,pJ,fun x=>sM _ (jQ x) rfl rfl⟩
abbrev bBH:RecTy:=⟨GParam,aR,10,jD,aF1,fun x=>sM _ (jR x) rfl rfl⟩
abbrev bFx:RecTy:=⟨GDir,aF,2,eZ,aKC,fun x=>sM _ (pZ x) rfl rfl⟩
abbrev aSG:RecTy:=⟨GFieldDef,aL,6,gL,aB4,fun x=>sM _ (eH x) rfl rfl⟩
abbrev bFy:RecTy:=⟨GDef,aH,6,aJj,bBC,fun x=>sM _ (qA x) rfl rfl⟩
abbrev aZC:RecTy:=⟨GSchema,dB,3,jF,aNe,fun x=>sM _ (gX x) rfl rfl⟩
abbrev aZD:RecTy:=⟨GVarDef,bC,10,rL,aId,fun x=>sM _ (fK x) rfl rfl⟩
abbrev bFz:RecTy:=⟨GSel,aI,7,dC,aHD,fun x=>sM _ (kX x) rfl rfl⟩
abbrev bGv:RecTy:=⟨GOp,aU,5,bkOp,gdOp,fun x=>sM _ (pI x) rfl rfl⟩
abbrev bEk:RecTy:=⟨GFrag,aG,4,dV,aVp,fun x=>sM _ (mI x) rfl rfl⟩
abbrev bFA:RecTy:=⟨GDoc,oE,2,eF,bEi,fun x=>sM _ (qB x) rfl rfl⟩
abbrev aF2:RecTy:=⟨GSeineref13Spot,aJ,8,zU,zW,fun x=>sM _ (eC x) rfl rfl⟩
abbrev bEl:RecTy:=⟨GSpot,aF0,5,bDy,bDz,fun x=>sM _ (aB3 x) rfl rfl⟩
abbrev RS:REnv
 | 0=>bEj
 | 1=>bBG
 | 2=>aZB
 | 3=>bBH
 | 4=>bFx
 | 5=>aSG
 | 6=>bFy
 | 7=>aZC
 | 8=>aZD
 | 9=>bFz
 | 10=>bGv
 | 11=>bEk
 | 12=>bFA
 | 13=>aF2
 | _=>bEl
theorem hty:∀ i,∃ F,Tryz.prog.underlying (TS i)=some (.struct F)/\Tryz.prog.cellsOf (TS i)=(BS i).size RS/\flds RS Tryz.prog (tyOk RS TS Tryz.prog 9) F.toList 0 (BS i)=true
 | 0=>⟨_,Tryz.underlying49,by kernel_rfl,by kernel_rfl⟩
 | 1=>⟨_,Tryz.underlying52,by kernel_rfl,by kernel_rfl⟩
 | 2=>⟨_,Tryz.underlying70,by kernel_rfl,by kernel_rfl⟩
 | 3=>⟨_,Tryz.underlying61,by kernel_rfl,by kernel_rfl⟩
 | 4=>⟨_,Tryz.underlying41,by kernel_rfl,by kernel_rfl⟩
 | 5=>⟨_,Tryz.underlying104,by kernel_rfl,by kernel_rfl⟩
 | 6=>⟨_,Tryz.underlying100,by kernel_rfl,by kernel_rfl⟩
 | 7=>⟨_,Tryz.underlying24,by kernel_rfl,by kernel_rfl⟩
 | 8=>⟨_,Tryz.underlying54,by kernel_rfl,by kernel_rfl⟩
 | 9=>⟨_,Tryz.underlying44,by kernel_rfl,by kernel_rfl⟩
 | 10=>⟨_,Tryz.underlying38,by kernel_rfl,by kernel_rfl⟩
 | 11=>⟨_,Tryz.underlying68,by kernel_rfl,by kernel_rfl⟩
 | 12=>⟨_,Tryz.underlying28,by kernel_rfl,by kernel_rfl⟩
 | 13=>⟨_,Tryz.underlying83,by kernel_rfl,by kernel_rfl⟩
 | _+14=>⟨_,Tryz.underlying140,by kernel_rfl,by kernel_rfl⟩
theorem bFB (x0:Str) (x1:Int) (x2:Int):jP ⟨x0,x1,x2⟩=(PV.agg ((PV.str x0).cells++(PV.agg (((PV.int .i64) x1).cells++(PV.agg (((PV.int .i64) x2).cells++(PV.agg []).cells)).cells)).cells)):=by
 simp only [tys,cells,List.cons_append,List.nil_append]
theorem bEm (x0:Int) (x1:Int) (x2:Str) (x3:List GValue) (x4:List GMember):aP ⟨x0,x1,x2,x3,x4⟩=(PV.agg (((PV.int .i64) x0).cells++(PV.agg (((PV.int .i64) x1).cells++(PV.agg ((PV.str x2).cells++(PV.agg ((PV.slice (List.map aP x3) [] false).cells++(PV.agg ((PV.slice (List.map aC x4) [] false).cells++(PV.agg []).cells)).cells)).cells)).cells)).cells)):=by
 simp only [tys,cells,List.cons_append,List.nil_append]
theorem bBI (x0:Str) (x1:GValue):aC ⟨x0,x1⟩=(PV.agg ((PV.str x0).cells++(PV.agg ((aP x1).cells++(PV.agg []).cells)).cells)):=by
 simp only [tys,cells,List.cons_append,List.nil_append]
theorem bEn (x0:Str) (x1:GType) (x2:Bool) (x3:GValue):aR ⟨x0,x1,x2,x3⟩=(PV.agg ((PV.str x0).cells++(PV.agg ((jP x1).cells++(PV.agg ((PV.bool x2).cells++(PV.agg ((aP x3).cells++(PV.agg []).cells)).cells)).cells)).cells)):=by
 simp only [tys,cells,List.cons_append,List.nil_append]
theorem bGw (x0:Str) (x1:List GMember):aF ⟨x0,x1⟩=(PV.agg ((PV.str x0).cells++(PV.agg ((PV.slice (List.map aC x1) [] false).cells++(PV.agg []).cells)).cells)):=by
 simp only [tys,cells,List.cons_append,List.nil_append]
theorem aWU (x0:Str) (x1:List GParam) (x2:GType) (x3:List GDir):aL ⟨x0,x1,x2,x3⟩=(PV.agg ((PV.str x0).cells++(PV.agg ((PV.slice (List.map aR x1) [] false).cells++(PV.agg ((jP x2).cells++(PV.agg ((PV.slice (List.map aF x3) [] false).cells++(PV.agg []).cells)).cells)).cells)).cells)):=by
 simp only [tys,cells,List.cons_append,List.nil_append]
theorem bGx (x0:Int) (x1:Str) (x2:List Str) (x3:List GFieldDef) (x4:List Str) (x5:List GParam):aH ⟨x0,x1,x2,x3,x4,x5⟩=(PV.agg (((PV.int .i64) x0).cells++(PV.agg ((PV.str x1).cells++(PV.agg ((PV.slice (List.map PV.str x2) [] false).cells++(PV.agg ((PV.slice (List.map aL x3) [] false).cells++(PV.agg ((PV.slice (List.map PV.str x4) [] false).cells++(PV.agg ((PV.slice (List.map aR x5) [] false).cells++(PV.agg []).cells)).cells)).cells)).cells)).cells)).cells)):=by
 simp only [tys,cells,List.cons_append,List.nil_append]
theorem bBJ (x0:List GDef) (x1:Str) (x2:Str):dB ⟨x0,x1,x2⟩=(PV.agg ((PV.slice (List.map aH x0) [] false).cells++(PV.agg ((PV.str x1).cells++(PV.agg ((PV.str x2).cells++(PV.agg []).cells)).cells)).cells)):=by
 simp only [tys,cells,List.cons_append,List.nil_append]
theorem bBK (x0:Str) (x1:GType) (x2:Bool) (x3:GValue):bC ⟨x0,x1,x2,x3⟩=(PV.agg ((PV.str x0).cells++(PV.agg ((jP x1).cells++(PV.agg ((PV.bool x2).cells++(PV.agg ((aP x3).cells++(PV.agg []).cells)).cells)).cells)).cells)):=by
 simp only [tys,cells,List.cons_append,List.nil_append]
theorem bGy (x0:Int) (x1:Str) (x2:Str) (x3:List GMember) (x4:List GDir) (x5:Str) (x6:List GSel):aI ⟨x0,x1,x2,x3,x4,x5,x6⟩=(PV.agg (((PV.int .i64) x0).cells++(PV.agg ((PV.str x1).cells++(PV.agg ((PV.str x2).cells++(PV.agg ((PV.slice (List.map aC x3) [] false).cells++(PV.agg ((PV.slice (List.map aF x4) [] false).cells++(PV.agg ((PV.str x5).cells++(PV.agg ((PV.slice (List.map aI x6) [] false).cells++(PV.agg []).cells)).cells)).cells)).cells)).cells)).cells)).cells)):=by
 simp only [tys,cells,List.cons_append,List.nil_append]
theorem cvOp (x0:Int) (x1:Str) (x2:List GVarDef) (x3:List GDir) (x4:List GSel):aU ⟨x0,x1,x2,x3,x4⟩=(PV.agg (((PV.int .i64) x0).cells++(PV.agg ((PV.str x1).cells++(PV.agg ((PV.slice (List.map bC x2) [] false).cells++(PV.agg ((PV.slice (List.map aF x3) [] false).cells++(PV.agg ((PV.slice (List.map aI x4) [] false).cells++(PV.agg []).cells)).cells)).cells)).cells)).cells)):=by
 simp only [tys,cells,List.cons_append,List.nil_append]
theorem bFC (x0:Str) (x1:Str) (x2:List GDir) (x3:List GSel):aG ⟨x0,x1,x2,x3⟩=(PV.agg ((PV.str x0).cells++(PV.agg ((PV.str x1).cells++(PV.agg ((PV.slice (List.map aF x2) [] false).cells++(PV.agg ((PV.slice (List.map aI x3) [] false).cells++(PV.agg []).cells)).cells)).cells)).cells)):=by
 simp only [tys,cells,List.cons_append,List.nil_append]
theorem bGz (x0:List GOp) (x1:List GFrag):oE ⟨x0,x1⟩=(PV.agg ((PV.slice (List.map aU x0) [] false).cells++(PV.agg ((PV.slice (List.map aG x1) [] false).cells++(PV.agg []).cells)).cells)):=by
 simp only [tys,cells,List.cons_append,List.nil_append]
theorem aHE (x0:Str) (x1:GSel):aJ ⟨x0,x1⟩=(PV.agg ((PV.str x0).cells++(PV.agg ((aI x1).cells++(PV.agg []).cells)).cells)):=by
 simp only [tys,cells,List.cons_append,List.nil_append]
theorem bFD (x0:Str) (x1:GType) (x2:Bool):aF0 ⟨x0,x1,x2⟩=(PV.agg ((PV.str x0).cells++(PV.agg ((jP x1).cells++(PV.agg ((PV.bool x2).cells++(PV.agg []).cells)).cells)).cells)):=by
 simp only [tys,cells,List.cons_append,List.nil_append]
theorem hcv:∀ i (x:(BS i).den RS),∃ y:(RS i).D,(RS i).en y=enc RS (BS i) x/\(RS i).bk y<=bulk RS (BS i) x+1/\(good RS (BS i) x->(RS i).gd y)
 | 0,⟨x0,x1,x2,_⟩=>⟨(⟨x0,x1,x2⟩:GType),(bFB x0 x1 x2).trans rfl,Nat.le_of_eq ((kY _).trans rfl),fun h=>(aZx _).mpr h⟩
 | 1,⟨x0,x1,x2,x3,x4,_⟩=>⟨(⟨x0,x1,x2,x3,x4⟩:GValue),(bEm x0 x1 x2 x3 x4).trans rfl,Nat.le_of_eq ((bZ _).trans rfl),fun h=>(aWS _).mpr h⟩
 | 2,⟨x0,x1,_⟩=>⟨(⟨x0,x1⟩:GMember),(bBI x0 x1).trans rfl,Nat.le_of_eq ((cM _).trans rfl),fun h=>(aSD _).mpr h⟩
 | 3,⟨x0,x1,x2,x3,_⟩=>⟨(⟨x0,x1,x2,x3⟩:GParam),(bEn x0 x1 x2 x3).trans rfl,Nat.le_of_eq ((oP _).trans rfl),fun h=>(aWT _).mpr h⟩
 | 4,⟨x0,x1,_⟩=>⟨(⟨x0,x1⟩:GDir),(bGw x0 x1).trans rfl,Nat.le_of_eq ((iG _).trans rfl),fun h=>(bBB _).mpr h⟩
 | 5,⟨x0,x1,x2,x3,_⟩=>⟨(⟨x0,x1,x2,x3⟩:GFieldDef),(aWU x0 x1 x2 x3).trans rfl,Nat.le_of_eq ((kH _).trans rfl),fun h=>(aNd _).mpr h⟩
 | 6,⟨x0,x1,x2,x3,x4,x5,_⟩=>⟨(⟨x0,x1,x2,x3,x4,x5⟩:GDef),(bGx x0 x1 x2 x3 x4 x5).trans rfl,Nat.le_of_eq ((nQ _).trans rfl),fun h=>(bBD _).mpr h⟩
 | 7,⟨x0,x1,x2,_⟩=>⟨(⟨x0,x1,x2⟩:GSchema),(bBJ x0 x1 x2).trans rfl,Nat.le_of_eq ((oQ _).trans rfl),fun h=>(aSE _).mpr h⟩
 | 8,⟨x0,x1,x2,x3,_⟩=>⟨(⟨x0,x1,x2,x3⟩:GVarDef),(bBK x0 x1 x2 x3).trans rfl,Nat.le_of_eq ((sP _).trans rfl),fun h=>(aSF _).mpr h⟩
 | 9,⟨x0,x1,x2,x3,x4,x5,x6,_⟩=>⟨(⟨x0,x1,x2,x3,x4,x5,x6⟩:GSel),(bGy x0 x1 x2 x3 x4 x5 x6).trans rfl,Nat.le_of_eq ((gD _).trans rfl),fun h=>(bBE _).mpr h⟩
 | 10,⟨x0,x1,x2,x3,x4,_⟩=>⟨(⟨x0,x1,x2,x3,x4⟩:GOp),(cvOp x0 x1 x2 x3 x4).trans rfl,Nat.le_of_eq ((kR _).trans rfl),fun h=>(bEh _).mpr h⟩
 | 11,⟨x0,x1,x2,x3,_⟩=>⟨(⟨x0,x1,x2,x3⟩:GFrag),(bFC x0 x1 x2 x3).trans rfl,Nat.le_of_eq ((gM _).trans rfl),fun h=>(aZy _).mpr h⟩
 | 12,⟨x0,x1,_⟩=>⟨(⟨x0,x1⟩:GDoc),(bGz x0 x1).trans rfl,Nat.le_of_eq ((xH _).trans rfl),fun h=>(bBF _).mpr h⟩
 | 13,⟨x0,x1,_⟩=>⟨(⟨x0,x1⟩:GSeineref13Spot),(aHE x0 x1).trans rfl,Nat.le_of_eq ((aDq _).trans rfl),fun h=>(aDr _).mpr h⟩
 | _+14,⟨x0,x1,x2,_⟩=>⟨(⟨x0,x1,x2⟩:GSpot),(bFD x0 x1 x2).trans rfl,Nat.le_of_eq ((aZz _).trans rfl),fun h=>(aZA _).mpr h⟩
theorem rok {H:Type} (e:TypeId×Value->H) (W:World) {bl:DataW H->Nat} {bla:List (DataW H)->Nat} (hb:BlOk bl bla):ROk RS TS e Tryz.prog W bl where
 op:=bBm hb 9 BS hty hcv
 ag:=fun i=>match i with
  | 0=>fun x=>⟨_,mH x⟩
  | 1=>fun x=>⟨_,eY x⟩
  | 2=>fun x=>⟨_,jQ x⟩
  | 3=>fun x=>⟨_,jR x⟩
  | 4=>fun x=>⟨_,pZ x⟩
  | 5=>fun x=>⟨_,eH x⟩
  | 6=>fun x=>⟨_,qA x⟩
  | 7=>fun x=>⟨_,gX x⟩
  | 8=>fun x=>⟨_,fK x⟩
  | 9=>fun x=>⟨_,kX x⟩
  | 10=>fun x=>⟨_,pI x⟩
  | 11=>fun x=>⟨_,mI x⟩
  | 12=>fun x=>⟨_,qB x⟩
  | 13=>fun x=>⟨_,eC x⟩
  | _+14=>fun x=>⟨_,aB3 x⟩
 st:=fun i=>(hty i).imp fun F h=>h.1
open Go Go.Ev
abbrev bDA:=GSchema×GDoc×Bool
abbrev putA:bDA->List PV:=fun x=>[(.agg [(.slice (List.map aH x.1.defs) [] false),(.str x.1.query),(.str x.1.mutation)]),(.agg [(.slice (List.map aU x.2.1.ops) [] false),(.slice (List.map aG x.2.1.frags) [] false)]),.bool x.2.2]
abbrev putR:Bool->PV:=fun b => .bool b
def putF (x:bDA):Option Bool:=if jF x.1<=1048576/\eF x.2.1<=1048576 then some true else none
def MTL:List (Nat×Hints):=[(3,{takes:=[49,66,81,100,117,130,148],drop:=true}),
 (9,{drop:=true}),
 (10,{keeps:=[(2,[1,2,3])],drop:=true}),
 (11,{keeps:=[(4,[2,3,4,6,7])],drop:=true}),
 (12,{drop:=true}),
 (14,{drop:=true}),
 (38,{keeps:=[(2,[1,4,8,9,10])],drop:=true}),
 (105,{drop:=true}),
 (137,{gens:=[21,31],keeps:=[(3,[1,3,4,9,12,13,14])],drop:=true}),
 (70,{gens:=[25,41],keeps:=[(2,[2,3,4,6,12,13,14]),(8,[2,3,6,29,30,31])],drop:=true}),
 (40,{gens:=[10],drop:=true}),
 (15,{drop:=true}),
 (37,{takes:=[28],keeps:=[(3,[0,3,4])],drop:=true}),
 (58,{takes:=[29,30,51,52],keeps:=[(3,[2,3,5,6]),(7,[2,3,5,7])],drop:=true}),
 (96,{takes:=[48],keeps:=[(2,[1,2,3]),(6,[1,3,4,5]),(10,[1,3,4,5,6,7])],drop:=true}),
 (114,{takes:=[31,32,59],keeps:=[(3,[2,5,6]),(10,[2,5,9,10])],drop:=true}),
 (192,{keeps:=[(12,[4,6,8,9,11])],drop:=true}),
 (236,{takes:=[17,39,40,59,60,61],keeps:=[(4,[1,2,5]),(8,[1,2,6])],own:=true,drop:=true}),
 (238,{drop:=true}),
 (239,{takes:=[20],keeps:=[(3,[0,2,3,4,5])],drop:=true}),
 (30,{keeps:=[(3,[1,3,4]),(8,[1,3,4,5,6])],drop:=true}),
 (31,{keeps:=[(3,[1,3,4]),(7,[1,3,4,5]),(11,[1,3,6])],drop:=true}),
 (32,{drop:=true}),
 (33,{keeps:=[(2,[1,2,3]),(8,[1,2,3,4,5]),(13,[1,2,6])],drop:=true}),
 (20,{keeps:=[(23,[2,3,4,6,7,8])],drop:=true}),
 (34,{drop:=true}),
 (35,{drop:=true}),
 (104,{takes:=[15,28],keeps:=[(3,[1,3,9,10,11]),(8,[3,22,23,24])],drop:=true}),
 (39,{keeps:=[(2,[2,7,8,9])],drop:=true}),
 (68,{drop:=true}),
 (138,{drop:=true}),
 (41,{drop:=true}),
 (42,{keeps:=[(3,[0,3,8,9,10]),(6,[0,3,5,8,9,10,17,18,19])],drop:=true}),
 (103,{takes:=[11],keeps:=[(3,[0,3,4])],drop:=true}),
 (36,{takes:=[11],keeps:=[(3,[0,3,4])],drop:=true}),
 (116,{drop:=true}),
 (115,{takes:=[16,38,39,40],keeps:=[(2,[1,2,3,4,9])],own:=true,drop:=true}),
 (166,{takes:=[48,53],keeps:=[(4,[2,5,6,8])],own:=true,drop:=true}),
 (29,{keeps:=[(2,[0,1,4,5])],drop:=true}),
 (182,{takes:=[4],own:=true,drop:=true}),
 (113,{keeps:=[(2,[1,2,4,5,6])],drop:=true}),
 (183,{takes:=[28,41,42,43],keeps:=[(2,[0,1,5])],own:=true,drop:=true}),
 (101,{drop:=true}),
 (224,{drop:=true}),
 (164,{keeps:=[(4,[1,2,4,5,6])],drop:=true}),
 (225,{keeps:=[(2,[1,2,3,6,7]),(8,[1,2,3,6,7,10]),(13,[1,2,6,11])],drop:=true}),
 (250,{keeps:=[(2,[0,1,5])],drop:=true}),
 (251,{keeps:=[(17,[0,1,4,5,6,7,8,9])],drop:=true}),
 (83,{keeps:=[(3,[0,3,4])],drop:=true}),
 (84,{keeps:=[(3,[0,3,4])],drop:=true}),
 (85,{keeps:=[(3,[0,3,4])],drop:=true}),
 (86,{keeps:=[(3,[0,3,4])],drop:=true}),
 (87,{keeps:=[(3,[0,3,4])],drop:=true}),
 (88,{keeps:=[(3,[1,3,4]),(7,[1,3,5])],drop:=true}),
 (89,{keeps:=[(3,[1,2,3,4])],drop:=true}),
 (90,{drop:=true}),
 (91,{keeps:=[(2,[1,2,3]),(8,[1,2,3,4,5])],drop:=true}),
 (92,{keeps:=[(2,[1,2,3]),(8,[1,2,3,4,5])],drop:=true}),
 (93,{keeps:=[(2,[1,2,3]),(6,[1,2,3,4,5]),(12,[1,2,3,4,5,6,8])],drop:=true}),
 (94,{keeps:=[(2,[1,2,3]),(6,[1,2,3,4,5]),(10,[1,2,3,4,5,6,8])],drop:=true}),
 (95,{keeps:=[(2,[1,2,3]),(5,[1,2,3,4])],drop:=true}),
 (97,{keeps:=[(2,[1,2,3]),(7,[1,2,3,4])],drop:=true}),
 (98,{keeps:=[(4,[0,2,3])],drop:=true}),
 (99,{keeps:=[(2,[0,1,2,6,7])],drop:=true}),
 (100,{keeps:=[(4,[0,1,4,5])],drop:=true}),
 (102,{drop:=true}),
 (51,{takes:=[19],keeps:=[(3,[1,3,4])],drop:=true}),
 (50,{keeps:=[(2,[0,2,3]),(5,[0,2,3,4])],drop:=true}),
 (52,{keeps:=[(2,[2,3,4,5])],drop:=true}),
 (53,{takes:=[12],keeps:=[(3,[1,3,4])],drop:=true}),
 (54,{keeps:=[(2,[2,3,4,5]),(8,[2,4,6,7])],drop:=true}),
 (55,{keeps:=[(3,[3,4,5,6])],drop:=true}),
 (56,{keeps:=[(2,[1,2,3])],drop:=true}),
 (57,{keeps:=[(2,[1,2,3]),(6,[1,3,4,5])],drop:=true}),
 (59,{drop:=true}),
 (60,{keeps:=[(3,[2,4,6,7,8]),(6,[2,4,6,7,8,9])],drop:=true}),
 (61,{keeps:=[(3,[2,3,6,7,8]),(8,[2,3,6,7,8,9])],drop:=true}),
 (62,{keeps:=[(2,[2,3,4,6,7]),(9,[2,3,4,6,7,8,11])],drop:=true}),
 (63,{keeps:=[(2,[2,3,4,5]),(5,[2,3,4,5,6]),(12,[2,4,8,9]),(17,[2,4,8,9,10])],drop:=true}),
 (64,{keeps:=[(2,[2,3,4,5]),(6,[2,3,4,5,6,7])],drop:=true}),
 (65,{keeps:=[(2,[2,3,4,5]),(7,[2,3,4,6])],drop:=true}),
 (180,{drop:=true}),
 (179,{gens:=[16],keeps:=[(2,[0,1,4,7,8])],drop:=true}),
 (109,{gens:=[42],drop:=true}),
 (175,{takes:=[12],keeps:=[(3,[1,2,3,4])],drop:=true}),
 (184,{drop:=true}),
 (159,{drop:=true}),
 (156,{drop:=true}),
 (193,{keeps:=[(2,[0,1,4,5,6])],drop:=true}),
 (219,{keeps:=[(2,[0,1,4,5,6])],drop:=true}),
 (195,{drop:=true}),
 (170,{drop:=true}),
 (155,{takes:=[12],keeps:=[(3,[1,3,4])],drop:=true}),
 (157,{keeps:=[(2,[1,2,3])],drop:=true}),
 (158,{keeps:=[(2,[0,2,3])],drop:=true}),
 (160,{takes:=[11],keeps:=[(3,[0,3,4])],drop:=true}),
 (161,{takes:=[11],keeps:=[(3,[0,3,4])],drop:=true}),
 (162,{keeps:=[(2,[0,2,3]),(5,[0,2,3,4])],drop:=true}),
 (163,{keeps:=[(2,[1,2,4,5])],drop:=true}),
 (118,{drop:=true}),
 (112,{drop:=true}),
 (117,{keeps:=[(7,[2,6,7,8,10])],drop:=true}),
 (165,{keeps:=[(4,[4,5,6,7]),(10,[4,5,6,10])],drop:=true}),
 (167,{keeps:=[(2,[1,2,4,5])],drop:=true}),
 (168,{keeps:=[(2,[1,2,4,5])],drop:=true}),
 (169,{drop:=true}),
 (171,{keeps:=[(2,[0,1,2,6,7])],drop:=true}),
 (172,{drop:=true}),
 (173,{drop:=true}),
 (174,{keeps:=[(4,[2,3,4,5])],drop:=true}),
 (119,{keeps:=[(3,[6,7,8,9])],drop:=true}),
 (120,{takes:=[17,33,51],keeps:=[(3,[2,3,5,6]),(7,[2,3,5,7]),(12,[5,8,9])],drop:=true}),
 (121,{drop:=true}),
 (122,{takes:=[11],keeps:=[(3,[0,3,4])],drop:=true}),
 (124,{drop:=true}),
 (123,{drop:=true}),
 (125,{drop:=true}),
 (126,{takes:=[11],keeps:=[(3,[0,3,4])],drop:=true}),
 (127,{takes:=[11,32,33],keeps:=[(4,[2,5,6,7])],drop:=true}),
 (128,{keeps:=[(2,[0,1,4,5])],drop:=true}),
 (129,{drop:=true}),
 (130,{drop:=true}),
 (131,{keeps:=[(2,[1,2,3,6,7])],drop:=true}),
 (132,{takes:=[38],keeps:=[(4,[3,4,7,8,9])],drop:=true}),
 (134,{keeps:=[(2,[0,1,4,5])],drop:=true}),
 (133,{drop:=true}),
 (135,{keeps:=[(4,[2,3,4,5,8,9])],drop:=true}),
 (140,{drop:=true}),
 (178,{keeps:=[(4,[1,4,5,13,14,15])],drop:=true}),
 (209,{drop:=true}),
 (210,{drop:=true}),
 (211,{drop:=true}),
 (212,{drop:=true}),
 (213,{keeps:=[(4,[1,3,4]),(10,[1,3,5])],drop:=true}),
 (214,{takes:=[4],drop:=true}),
 (215,{keeps:=[(4,[0,1,4,5])],drop:=true}),
 (185,{takes:=[24,60,93],keeps:=[(8,[1,2,7,8]),(15,[2,5,7,10])],drop:=true}),
 (186,{keeps:=[(2,[0,1,4,5])],drop:=true}),
 (187,{keeps:=[(2,[0,2,3]),(5,[0,2,3,4])],drop:=true}),
 (188,{keeps:=[(2,[0,1,4,5])],drop:=true}),
 (189,{takes:=[18,19,39,40,46,47,48],keeps:=[(2,[0,1,5]),(6,[0,1,5,6])],own:=true,drop:=true}),
 (190,{keeps:=[(3,[3,4]),(6,[3,4,5])],drop:=true,vecs:=[(7,1)],frz:=[(9,[3])]}),
 (191,{keeps:=[(25,[1,2,6]),(32,[1,2,7])],drop:=true}),
 (194,{takes:=[22,49,71,87],keeps:=[(3,[1,2,3,7,8]),(8,[1,2,3,7,8,9])],own:=true,drop:=true}),
 (196,{drop:=true}),
 (197,{drop:=true}),
 (199,{takes:=[26,37,66,75],keeps:=[(3,[2,3,4,5,9,10])],own:=true,drop:=true}),
 (198,{keeps:=[(2,[2,3,4,6,7]),(5,[2,3,4,6,7,8])],drop:=true}),
 (201,{drop:=true}),
 (216,{drop:=true}),
 (232,{keeps:=[(2,[0,2,3])],drop:=true}),
 (233,{keeps:=[(2,[0,2,3])],drop:=true}),
 (234,{keeps:=[(2,[0,2,3])],drop:=true}),
 (235,{keeps:=[(2,[1,2,3]),(7,[1,2,4])],drop:=true}),
 (220,{takes:=[33,40],keeps:=[(2,[0,1,5]),(6,[0,1,5,6,7])],own:=true,drop:=true}),
 (221,{drop:=true}),
 (222,{keeps:=[(5,[0,2,3,4,5,6])],drop:=true}),
 (223,{drop:=true}),
 (226,{takes:=[27],keeps:=[(3,[1,2,3,7,8])],drop:=true}),
 (227,{drop:=true}),
 (228,{drop:=true}),
 (240,{takes:=[55,95],keeps:=[(11,[4,7,9,11,12]),(17,[4,7,11,13,15])],drop:=true}),
 (241,{drop:=true}),
 (242,{keeps:=[(9,[4,5,8,13,14]),(12,[4,5,8,13,14,15])],drop:=true}),
 (243,{keeps:=[(4,[0,1,4,5])],drop:=true}),
 (244,{takes:=[22],drop:=true}),
 (245,{keeps:=[(2,[0,1,4,7,8])],drop:=true}),
 (252,{drop:=true})]
def MT (f:FuncId):Hints:=match Go.Ev.look MTL f with | some m=>m | none=>{}
noncomputable def XT:Ext:=fun f=>Go.Ev.look [(3,(aWQ Tryz.prog (fun _ _=>none) 3 putA putR putF))] f
noncomputable def O:Orc:=OL Tryz.prog MT XT
abbrev LBs:=bL->bL
abbrev EU:=Ex×List PV×UP
abbrev Ri {α:Type} (e:α->PV) (r:α) (v:PV×UP):Prop:=v=(e r,[])
noncomputable abbrev eW (i:Nat) (ds:Decs) (fn:Func) (O:Orc) (LP:LBs) (a:List PV) (u:UP):=aAK Tryz.prog (MT i) ds fn.ntmps O LP fn a u
def aA:Bool->PV:=fun r=>PV.bool r
theorem aD (a b:Bool) (h:aA a=aA b):a=b:=Ev.bool_inj a b h
noncomputable def aE0 (s:GSchema) (d:GDoc) (include0:Bool):Option Bool:=tO O 3 [(eS s),(eD d),(.bool include0)] [] fun r=>(aA r,[])
noncomputable def qS (s:GSchema) (d:GDoc):Option Bool:=tO O 9 [(eS s),(eD d)] [] fun r=>(aA r,[])
def cS:Int->PV:=fun r=>(PV.int .i64) r
theorem aB5 (a b:Int) (h:cS a=cS b):a=b:=(Ev.int_inj _) a b h
noncomputable def aVq (s:GSchema):Option Int:=tO O 10 [(eS s)] [] fun r=>(cS r,[])
noncomputable def aSH (s:GSchema) (d:GDoc) (n:Int):Option Bool:=tO O 11 [(eS s),(eD d),(i6 n)] [] fun r=>(aA r,[])
noncomputable def qT:Option Bool:=tO O 12 [] [] fun r=>(aA r,[])
def gN:GDir->PV:=fun r=>aF r
theorem aHF (a b:GDir) (h:gN a=gN b):a=b:=tV a b h
noncomputable def aCT (name:Str):Option GDir:=tO O 14 [(.str name)] [] fun r=>(gN r,[])
noncomputable def aF3 (d:GDoc):Option Bool:=tO O 38 [(eD d),(.func (.func 39) [] [])] [] fun r=>(aA r,[])
def dW (a:Str) (x:GSel) (u0_4:GDoc) (u0_3:GSchema):Bool->UP:=fun r=>[[(5,[(.func (.func 39) [] [])]),(4,[(zq aU u0_4.ops),(zq aG u0_4.frags)]),(3,[(zq aH u0_3.defs),(.str u0_3.query),(.str u0_3.mutation)])]]
noncomputable def sQ (a:Str) (x:GSel) (u0_4:GDoc) (u0_3:GSchema):Option Bool:=tO O 105 [(.str a),(eL x),(.ptr 1 5 0)] [[(5,[(.func (.func 39) [] [])]),(4,[(zq aU u0_4.ops),(zq aG u0_4.frags)]),(3,[(zq aH u0_3.defs),(.str u0_3.query),(.str u0_3.mutation)])]] fun r=>(aA r,(dW a x u0_4 u0_3 r))
def lP (s:GSchema) (typ:Str) (l0:List GSel) (u0_4:GDoc) (u0_3:GSchema):Bool->UP:=fun r=>[[(5,[(.func (.func 39) [] [])]),(4,[(zq aU u0_4.ops),(zq aG u0_4.frags)]),(3,[(zq aH u0_3.defs),(.str u0_3.query),(.str u0_3.mutation)])]]
noncomputable def aJk (s:GSchema) (typ:Str) (l0:List GSel) (u0_4:GDoc) (u0_3:GSchema):Option Bool:=tO O 137 [(eS s),(.str typ),(zq aI l0),(.func (.func 105) [] [(.ptr 1 5 0)])] [[(5,[(.func (.func 39) [] [])]),(4,[(zq aU u0_4.ops),(zq aG u0_4.frags)]),(3,[(zq aH u0_3.defs),(.str u0_3.query),(.str u0_3.mutation)])]] fun r=>(aA r,(lP s typ l0 u0_4 u0_3 r))
def rM (s:GSchema) (d:GDoc) (u0_4:GDoc) (u0_3:GSchema):Bool->UP:=fun r=>[[(5,[(.func (.func 39) [] [])]),(4,[(zq aU u0_4.ops),(zq aG u0_4.frags)]),(3,[(zq aH u0_3.defs),(.str u0_3.query),(.str u0_3.mutation)])]]
noncomputable def aZE (s:GSchema) (d:GDoc) (u0_4:GDoc) (u0_3:GSchema):Option Bool:=tO O 70 [(eS s),(eD d),(.func (.func 105) [] [(.ptr 1 5 0)])] [[(5,[(.func (.func 39) [] [])]),(4,[(zq aU u0_4.ops),(zq aG u0_4.frags)]),(3,[(zq aH u0_3.defs),(.str u0_3.query),(.str u0_3.mutation)])]] fun r=>(aA r,(rM s d u0_4 u0_3 r))
noncomputable def xI (s:GSchema) (d:GDoc):Option Bool:=tO O 40 [(eS s),(eD d),(.func (.func 39) [] [])] [] fun r=>(aA r,[])
noncomputable def xJ (d:GDoc):Option Bool:=tO O 38 [(eD d),(.func (.func 41) [] [])] [] fun r=>(aA r,[])
noncomputable def xK (d:GDoc):Option Bool:=tO O 38 [(eD d),(.func (.func 42) [] [])] [] fun r=>(aA r,[])
def cN (a:Str) (x:GSel) (u0_4:GDoc) (u0_3:GSchema):Bool->UP:=fun r=>[[(5,[(.func (.func 42) [] [])]),(4,[(zq aU u0_4.ops),(zq aG u0_4.frags)]),(3,[(zq aH u0_3.defs),(.str u0_3.query),(.str u0_3.mutation)])]]
noncomputable def nR (a:Str) (x:GSel) (u0_4:GDoc) (u0_3:GSchema):Option Bool:=tO O 105 [(.str a),(eL x),(.ptr 1 5 0)] [[(5,[(.func (.func 42) [] [])]),(4,[(zq aU u0_4.ops),(zq aG u0_4.frags)]),(3,[(zq aH u0_3.defs),(.str u0_3.query),(.str u0_3.mutation)])]] fun r=>(aA r,(cN a x u0_4 u0_3 r))
def dF (s:GSchema) (typ:Str) (l0:List GSel) (u0_4:GDoc) (u0_3:GSchema):Bool->UP:=fun r=>[[(5,[(.func (.func 42) [] [])]),(4,[(zq aU u0_4.ops),(zq aG u0_4.frags)]),(3,[(zq aH u0_3.defs),(.str u0_3.query),(.str u0_3.mutation)])]]
noncomputable def sR (s:GSchema) (typ:Str) (l0:List GSel) (u0_4:GDoc) (u0_3:GSchema):Option Bool:=tO O 137 [(eS s),(.str typ),(zq aI l0),(.func (.func 105) [] [(.ptr 1 5 0)])] [[(5,[(.func (.func 42) [] [])]),(4,[(zq aU u0_4.ops),(zq aG u0_4.frags)]),(3,[(zq aH u0_3.defs),(.str u0_3.query),(.str u0_3.mutation)])]] fun r=>(aA r,(dF s typ l0 u0_4 u0_3 r))
def iH (s:GSchema) (d:GDoc) (u0_4:GDoc) (u0_3:GSchema):Bool->UP:=fun r=>[[(5,[(.func (.func 42) [] [])]),(4,[(zq aU u0_4.ops),(zq aG u0_4.frags)]),(3,[(zq aH u0_3.defs),(.str u0_3.query),(.str u0_3.mutation)])]]
noncomputable def aL9 (s:GSchema) (d:GDoc) (u0_4:GDoc) (u0_3:GSchema):Option Bool:=tO O 70 [(eS s),(eD d),(.func (.func 105) [] [(.ptr 1 5 0)])] [[(5,[(.func (.func 42) [] [])]),(4,[(zq aU u0_4.ops),(zq aG u0_4.frags)]),(3,[(zq aH u0_3.defs),(.str u0_3.query),(.str u0_3.mutation)])]] fun r=>(aA r,(iH s d u0_4 u0_3 r))
noncomputable def qU (s:GSchema) (d:GDoc):Option Bool:=tO O 40 [(eS s),(eD d),(.func (.func 42) [] [])] [] fun r=>(aA r,[])
noncomputable def dQ (s:GSchema) (d:GDoc) (n:Int):Option Bool:=tO O 15 [(eS s),(eD d),(i6 n)] [] fun r=>(aA r,[])
def aB6:(List GSel)->PV:=fun r=>(cL aI) r
theorem aZF (a b:List GSel) (h:aB6 a=aB6 b):a=b:=(Ev.encSl_inj aEY) a b h
noncomputable def aNf (l0:List GSel):Option (List GSel):=tO O 37 [(zq aI l0)] [] fun r=>(aB6 r,[])
def wA:(List GSeineref13Spot)->PV:=fun r=>(cL aJ) r
theorem aWV (a b:List GSeineref13Spot) (h:wA a=wA b):a=b:=(Ev.encSl_inj sO) a b h
noncomputable def aB7 (s:GSchema) (d:GDoc):Option (List GSeineref13Spot):=tO O 58 [(eS s),(eD d)] [] fun r=>(wA r,[])
noncomputable def aVr (s:GSchema):Option Bool:=tO O 96 [(eS s)] [] fun r=>(aA r,[])
def lA:(List Str)->PV:=fun r=>(cL PV.str) r
theorem aMa (a b:List Str) (h:lA a=lA b):a=b:=(Ev.encSl_inj Ev.str_inj) a b h
noncomputable def aVs (d:GDoc) (l0:List GSel):Option (List Str):=tO O 114 [(eD d),(zq aI l0)] [] fun r=>(lA r,[])
noncomputable def tX (s:GSchema) (t:GType) (v0:GValue) (alone:Bool):Option Bool:=tO O 192 [(eS s),(eT t),(eV v0),(.bool alone)] [] fun r=>(aA r,[])
def lH:(List Str)->PV:=fun r => .slice (List.map PV.str r) [] true
theorem aE1 (a b:List Str) (h:lH a=lH b):a=b:=Ev.encSlO_inj Ev.str_inj a b h
noncomputable def aNg (v0:GValue) (out0:List Str):Option (List Str):=tO O 236 [(eV v0),(zp PV.str out0)] [] fun r=>(lH r,[])
def iI:(Int×Int)->PV:=fun r => .tuple [(PV.int .i64) r.1,(PV.int .i64) r.2]
theorem aHa (a b:Int×Int) (h:iI a=iI b):a=b:=by
 simp only [iI,PV.tuple.injEq,List.cons.injEq,and_true] at h
 exact Prod.ext ((Ev.int_inj _) _ _ h.1) ((Ev.int_inj _) _ _ h.2)
noncomputable def aMb (s:Str):Option (Int×Int):=tO O 238 [(.str s)] [] fun r=>(iI r,[])
def sS:((List Int)×Bool)->PV:=fun r => .tuple [(cL (PV.int .i64)) r.1,PV.bool r.2]
theorem aWW (a b:(List Int)×Bool) (h:sS a=sS b):a=b:=by
 simp only [sS,PV.tuple.injEq,List.cons.injEq,and_true] at h
 exact Prod.ext ((Ev.encSl_inj (Ev.int_inj _)) _ _ h.1) (Ev.bool_inj _ _ h.2)
noncomputable def aVt (s:Str):Option ((List Int)×Bool):=tO O 239 [(.str s)] [] fun r=>(sS r,[])
noncomputable def aAV (s:GSchema):Option Bool:=tO O 30 [(eS s)] [] fun r=>(aA r,[])
noncomputable def aAW (d:GDoc):Option Bool:=tO O 31 [(eD d)] [] fun r=>(aA r,[])
noncomputable def aVu (d:GDoc):Option Bool:=tO O 33 [(eD d)] [] fun r=>(aA r,[])
noncomputable def xL (s:GSchema) (d:GDoc) (n:Int):Option Bool:=tO O 20 [(eS s),(eD d),(i6 n)] [] fun r=>(aA r,[])
def fV:(GParam×Bool)->PV:=fun r => .tuple [aR r.1,PV.bool r.2]
theorem aAX (a b:GParam×Bool) (h:fV a=fV b):a=b:=by
 simp only [fV,PV.tuple.injEq,List.cons.injEq,and_true] at h
 exact Prod.ext (aFZ _ _ h.1) (Ev.bool_inj _ _ h.2)
noncomputable def aB8 (name:Str):Option (GParam×Bool):=tO O 34 [(.str name)] [] fun r=>(fV r,[])
def sT:(List (List GDir))->PV:=fun r=>(cL (cL aF)) r
theorem aMc (a b:List (List GDir)) (h:sT a=sT b):a=b:=(Ev.encSl_inj (Ev.encSl_inj tV)) a b h
noncomputable def aE2 (d:GDoc):Option (List (List GDir)):=tO O 104 [(eD d)] [] fun r=>(sT r,[])
noncomputable def aB9 (l0:List GDir):Option Bool:=tO O 39 [(zq aF l0)] [] fun r=>(aA r,[])
def nS:Str->PV:=fun r=>PV.str r
theorem aE3 (a b:Str) (h:nS a=nS b):a=b:=Ev.str_inj a b h
noncomputable def aJl (s:GSchema) (o:GOp):Option Str:=tO O 68 [(eS s),(.agg [(i6 o.kind),(.str o.name),(zq bC o.vars),(zq aF o.dirs),(zq aI o.sels)])] [] fun r=>(nS r,[])
noncomputable def wB (s:GSchema) (typ:Str) (x:GSel):Option Str:=tO O 138 [(eS s),(.str typ),(eL x)] [] fun r=>(nS r,[])
noncomputable def aF4 (l0:List GDir):Option Bool:=tO O 41 [(zq aF l0)] [] fun r=>(aA r,[])
noncomputable def aE4 (l0:List GDir):Option Bool:=tO O 42 [(zq aF l0)] [] fun r=>(aA r,[])
def oR:(List GMember)->PV:=fun r=>(cL aC) r
theorem aPD (a b:List GMember) (h:oR a=oR b):a=b:=(Ev.encSl_inj lN) a b h
noncomputable def wC (l0:List GMember):Option (List GMember):=tO O 103 [(zq aC l0)] [] fun r=>(oR r,[])
def aCa:(List GDir)->PV:=fun r=>(cL aF) r
theorem aZG (a b:List GDir) (h:aCa a=aCa b):a=b:=(Ev.encSl_inj tV) a b h
noncomputable def aSI (l0:List GDir):Option (List GDir):=tO O 36 [(zq aF l0)] [] fun r=>(aCa r,[])
noncomputable def aSJ (s:GSchema) (o:GOp):Option Str:=tO O 116 [(eS s),(.agg [(i6 o.kind),(.str o.name),(zq bC o.vars),(zq aF o.dirs),(zq aI o.sels)])] [] fun r=>(nS r,[])
def aAY:(List GSeineref13Spot)->PV:=fun r => .slice (List.map aJ r) [] true
theorem aWX (a b:List GSeineref13Spot) (h:aAY a=aAY b):a=b:=Ev.encSlO_inj sO a b h
noncomputable def aE5 (s:GSchema) (typ:Str) (l0:List GSel) (out0:List GSeineref13Spot):Option (List GSeineref13Spot):=tO O 115 [(eS s),(.str typ),(zq aI l0),(zp aJ out0)] [] fun r=>(aAY r,[])
noncomputable def aIe (s:GSchema) (name:Str):Option (List Str):=tO O 166 [(eS s),(.str name)] [] fun r=>(lH r,[])
noncomputable def aCU (l0:List Str) (s:Str):Option Bool:=tO O 29 [(zq PV.str l0),(.str s)] [] fun r=>(aA r,[])
noncomputable def aF5 (l0:List GSel):Option (List Str):=tO O 182 [(zq aI l0)] [] fun r=>(lH r,[])
def aCb:(GFrag×Bool)->PV:=fun r => .tuple [aG r.1,PV.bool r.2]
theorem aZH (a b:GFrag×Bool) (h:aCb a=aCb b):a=b:=by
 simp only [aCb,PV.tuple.injEq,List.cons.injEq,and_true] at h
 exact Prod.ext (aPA _ _ h.1) (Ev.bool_inj _ _ h.2)
noncomputable def aSK (d:GDoc) (name:Str):Option (GFrag×Bool):=tO O 113 [(eD d),(.str name)] [] fun r=>(aCb r,[])
noncomputable def kI (l0:List GSel) (out0:List Str):Option (List Str):=tO O 183 [(zq aI l0),(zp PV.str out0)] [] fun r=>(lH r,[])
noncomputable def qC (t:GType):Option Bool:=tO O 101 [(eT t)] [] fun r=>(aA r,[])
def aCc:(GType×Bool)->PV:=fun r => .tuple [jP r.1,PV.bool r.2]
theorem aZI (a b:GType×Bool) (h:aCc a=aCc b):a=b:=by
 simp only [aCc,PV.tuple.injEq,List.cons.injEq,and_true] at h
 exact Prod.ext (aZv _ _ h.1) (Ev.bool_inj _ _ h.2)
noncomputable def aSL (t:GType):Option (GType×Bool):=tO O 224 [(eT t)] [] fun r=>(aCc r,[])
def tY:(GDef×Bool)->PV:=fun r => .tuple [aH r.1,PV.bool r.2]
theorem aPE (a b:GDef×Bool) (h:tY a=tY b):a=b:=by
 simp only [tY,PV.tuple.injEq,List.cons.injEq,and_true] at h
 exact Prod.ext (aVo _ _ h.1) (Ev.bool_inj _ _ h.2)
noncomputable def xM (s:GSchema) (name:Str):Option (GDef×Bool):=tO O 164 [(eS s),(.str name)] [] fun r=>(tY r,[])
noncomputable def aCd (s:GSchema) (l0:List GParam) (m:List GMember):Option Bool:=tO O 225 [(eS s),(zq aR l0),(zq aC m)] [] fun r=>(aA r,[])
noncomputable def aAZ (s:Str) (i:Int):Option Int:=tO O 250 [(.str s),(.int .i64 i)] [] fun r=>(cS r,[])
noncomputable def aSM (s:Str) (i:Int):Option (Int×Int):=tO O 251 [(.str s),(i6 i)] [] fun r=>(iI r,[])
noncomputable def aSN (s:Str):Option Bool:=tO O 98 [(.str s)] [] fun r=>(aA r,[])
noncomputable def aVv (d:GDoc):Option (List Str):=tO O 51 [(eD d)] [] fun r=>(lA r,[])
noncomputable def xN (l0:List Str):Option Bool:=tO O 50 [(zq PV.str l0)] [] fun r=>(aA r,[])
noncomputable def bBL (s:GSchema) (d:GDoc):Option Bool:=tO O 52 [(eS s),(eD d)] [] fun r=>(aA r,[])
noncomputable def aPF (d:GDoc):Option (List Str):=tO O 53 [(eD d)] [] fun r=>(lA r,[])
noncomputable def bBM (s:GSchema) (d:GDoc):Option Bool:=tO O 54 [(eS s),(eD d)] [] fun r=>(aA r,[])
noncomputable def bBN (s:GSchema) (d:GDoc):Option Bool:=tO O 55 [(eS s),(eD d)] [] fun r=>(aA r,[])
noncomputable def bBO (d:GDoc):Option Bool:=tO O 56 [(eD d)] [] fun r=>(aA r,[])
noncomputable def bBP (d:GDoc):Option Bool:=tO O 57 [(eD d)] [] fun r=>(aA r,[])
noncomputable def aPG (s:GSchema) (d:GDoc) (x:GSeineref13Spot) (n:Int):Option Bool:=tO O 59 [(eS s),(eD d),(.agg [(.str x.typ),(i6 x.x.kind),(.str x.x.alias),(.str x.x.name),(zq aC x.x.args),(zq aF x.x.dirs),(.str x.x.on_),(zq aI x.x.sels)]),(i6 n)] [] fun r=>(aA r,[])
noncomputable def oS (s:GSchema) (d:GDoc) (n:Int):Option Bool:=tO O 60 [(eS s),(eD d),(i6 n)] [] fun r=>(aA r,[])
noncomputable def aF6 (s:GSchema) (d:GDoc) (n:Int):Option Bool:=tO O 61 [(eS s),(eD d),(i6 n)] [] fun r=>(aA r,[])
noncomputable def aCe (s:GSchema) (d:GDoc) (n:Int):Option Bool:=tO O 62 [(eS s),(eD d),(i6 n)] [] fun r=>(aA r,[])
noncomputable def aZJ (s:GSchema) (d:GDoc):Option Bool:=tO O 63 [(eS s),(eD d)] [] fun r=>(aA r,[])
noncomputable def aZK (s:GSchema) (d:GDoc):Option Bool:=tO O 64 [(eS s),(eD d)] [] fun r=>(aA r,[])
noncomputable def aZL (s:GSchema) (d:GDoc):Option Bool:=tO O 65 [(eS s),(eD d)] [] fun r=>(aA r,[])
def lQ (f:GFieldDef) (u0_8:GDef) (u0_6:Str) (u0_60:Str) (u0_600:Int) (u0_6000:Int) (u0_5:Str) (u0_3:GSchema):Bool->UP:=fun r=>[[(8,[(i6 u0_8.kind),(.str u0_8.name),(zq PV.str u0_8.faces),(zq aL u0_8.fields),(zq PV.str u0_8.parts),(zq aR u0_8.params)]),(6,[(.str u0_6),(.slice [] [] true),(.str u0_60),(i6 u0_600),(i6 u0_6000),(.slice [] [] true)]),(5,[(.str u0_5)]),(3,[(zq aH u0_3.defs),(.str u0_3.query),(.str u0_3.mutation)])]]
noncomputable def aF7 (f:GFieldDef) (u0_8:GDef) (u0_6:Str) (u0_60:Str) (u0_600:Int) (u0_6000:Int) (u0_5:Str) (u0_3:GSchema):Option Bool:=tO O 180 [(.agg [(.str f.name),(zq aR f.params),(.str f.t.name),(i6 f.t.lists),(i6 f.t.musts),(zq aF f.dirs)]),(.ptr 1 5 0)] [[(8,[(i6 u0_8.kind),(.str u0_8.name),(zq PV.str u0_8.faces),(zq aL u0_8.fields),(zq PV.str u0_8.parts),(zq aR u0_8.params)]),(6,[(.str u0_6),(.slice [] [] true),(.str u0_60),(i6 u0_600),(i6 u0_6000),(.slice [] [] true)]),(5,[(.str u0_5)]),(3,[(zq aH u0_3.defs),(.str u0_3.query),(.str u0_3.mutation)])]] fun r=>(aA r,(lQ f u0_8 u0_6 u0_60 u0_600 u0_6000 u0_5 u0_3 r))
def bJ (s:List GFieldDef) (u0_8:GDef) (u0_6:Str) (u0_60:Str) (u0_600:Int) (u0_6000:Int) (u0_5:Str) (u0_3:GSchema):Int->UP:=fun r=>[[(8,[(i6 u0_8.kind),(.str u0_8.name),(zq PV.str u0_8.faces),(zq aL u0_8.fields),(zq PV.str u0_8.parts),(zq aR u0_8.params)]),(6,[(.str u0_6),(.slice [] [] true),(.str u0_60),(i6 u0_600),(i6 u0_6000),(.slice [] [] true)]),(5,[(.str u0_5)]),(3,[(zq aH u0_3.defs),(.str u0_3.query),(.str u0_3.mutation)])]]
noncomputable def lR (s:List GFieldDef) (u0_8:GDef) (u0_6:Str) (u0_60:Str) (u0_600:Int) (u0_6000:Int) (u0_5:Str) (u0_3:GSchema):Option Int:=tO O 179 [(zq aL s),(.func (.func 180) [] [(.ptr 1 5 0)])] [[(8,[(i6 u0_8.kind),(.str u0_8.name),(zq PV.str u0_8.faces),(zq aL u0_8.fields),(zq PV.str u0_8.parts),(zq aR u0_8.params)]),(6,[(.str u0_6),(.slice [] [] true),(.str u0_60),(i6 u0_600),(i6 u0_6000),(.slice [] [] true)]),(5,[(.str u0_5)]),(3,[(zq aH u0_3.defs),(.str u0_3.query),(.str u0_3.mutation)])]] fun r=>(cS r,(bJ s u0_8 u0_6 u0_60 u0_600 u0_6000 u0_5 u0_3 r))
def qD:(GFieldDef×Bool)->PV:=fun r => .tuple [aL r.1,PV.bool r.2]
theorem aMd (a b:GFieldDef×Bool) (h:qD a=qD b):a=b:=by
 simp only [qD,PV.tuple.injEq,List.cons.injEq,and_true] at h
 exact Prod.ext (aEX _ _ h.1) (Ev.bool_inj _ _ h.2)
noncomputable def aNh (s:GSchema) (typ:Str) (name:Str):Option (GFieldDef×Bool):=tO O 109 [(eS s),(.str typ),(.str name)] [] fun r=>(qD r,[])
def aA0:GValue->PV:=fun r=>aP r
theorem aWY (a b:GValue) (h:aA0 a=aA0 b):a=b:=rX a b h
noncomputable def aCf (v0:GValue):Option GValue:=tO O 175 [(eV v0)] [] fun r=>(aA0 r,[])
noncomputable def aJm (s:GSchema) (typ:Str) (x:GSel):Option Str:=tO O 184 [(eS s),(.str typ),(eL x)] [] fun r=>(nS r,[])
noncomputable def bBQ (s:GSchema) (name:Str) (a:Int) (b:Int) (c:Int):Option Bool:=tO O 159 [(eS s),(.str name),(i6 a),(i6 b),(i6 c)] [] fun r=>(aA r,[])
noncomputable def aJn (name:Str):Option Bool:=tO O 156 [(.str name)] [] fun r=>(aA r,[])
noncomputable def aNi (l0:List GParam) (name:Str):Option (GParam×Bool):=tO O 193 [(zq aR l0),(.str name)] [] fun r=>(fV r,[])
def aF8:(GValue×Bool)->PV:=fun r => .tuple [aP r.1,PV.bool r.2]
theorem bBR (a b:GValue×Bool) (h:aF8 a=aF8 b):a=b:=by
 simp only [aF8,PV.tuple.injEq,List.cons.injEq,and_true] at h
 exact Prod.ext (rX _ _ h.1) (Ev.bool_inj _ _ h.2)
noncomputable def aVw (name:Str) (l0:List GMember):Option (GValue×Bool):=tO O 219 [(.str name),(zq aC l0)] [] fun r=>(aF8 r,[])
noncomputable def bEo (t:GType):Option Bool:=tO O 195 [(eT t)] [] fun r=>(aA r,[])
noncomputable def aIf (c:Int):Option Bool:=tO O 170 [(.int .u8 c)] [] fun r=>(aA r,[])
noncomputable def aA1 (s:GSchema) (name:Str):Option Bool:=tO O 112 [(eS s),(.str name)] [] fun r=>(aA r,[])
noncomputable def aNj (s:GSchema) (typ:Str) (name:Str):Option (GFieldDef×Bool):=tO O 117 [(eS s),(.str typ),(.str name)] [] fun r=>(qD r,[])
noncomputable def aIg (c:Int):Option Bool:=tO O 169 [(.int .u8 c)] [] fun r=>(aA r,[])
noncomputable def aDs (s:GSchema) (d:GDoc):Option (List (List GDir)):=tO O 120 [(eS s),(eD d)] [] fun r=>(sT r,[])
noncomputable def xO (name:Str):Option (GParam×Bool):=tO O 121 [(.str name)] [] fun r=>(fV r,[])
noncomputable def sU (l0:List GDir):Option (List Str):=tO O 122 [(zq aF l0)] [] fun r=>(lA r,[])
noncomputable def aA2 (s:GSchema) (name:Str):Option Bool:=tO O 140 [(eS s),(.str name)] [] fun r=>(aA r,[])
noncomputable def aJo (s:GSchema) (name:Str):Option (GDef×Bool):=tO O 178 [(eS s),(.str name)] [] fun r=>(tY r,[])
noncomputable def aSO (s:GSchema) (name:Str) (kinds:List Int):Option Bool:=tO O 201 [(eS s),(.str name),(.slice (List.map (PV.int .i64) kinds) [] false)] [] fun r=>(aA r,[])
noncomputable def aJp (name:Str):Option Bool:=tO O 216 [(.str name)] [] fun r=>(aA r,[])
noncomputable def iJ (s:List Int) (v0:Int):Option Bool:=tO O 228 [(.slice (List.map (PV.int .i64) s) [] false),(i6 v0)] [] fun r=>(aA r,[])
noncomputable def gE (s:List Int) (v0:Int):Option Int:=tO O 245 [(.slice (List.map (PV.int .i64) s) [] false),(i6 v0)] [] fun r=>(cS r,[])
theorem zes:(∀ r:Bool,aA r=PV.bool r) /\
 (∀ r:Int,cS r=(PV.int .i64) r) /\
 (∀ r:GDir,gN r=aF r) /\
 (∀ r:(List GSel),aB6 r=(cL aI) r) /\
 (∀ r:(List GSeineref13Spot),wA r=(cL aJ) r) /\
 (∀ r:(List Str),lA r=(cL PV.str) r) /\
 (∀ r:(List Str),lH r = .slice (List.map PV.str r) [] true) /\
 (∀ r:(Int×Int),iI r = .tuple [(PV.int .i64) r.1,(PV.int .i64) r.2]) /\
 (∀ r:((List Int)×Bool),sS r = .tuple [(cL (PV.int .i64)) r.1,PV.bool r.2]) /\
 (∀ r:(GParam×Bool),fV r = .tuple [aR r.1,PV.bool r.2]) /\
 (∀ r:(List (List GDir)),sT r=(cL (cL aF)) r) /\
 (∀ r:Str,nS r=PV.str r) /\
 (∀ r:(List GMember),oR r=(cL aC) r) /\
 (∀ r:(List GDir),aCa r=(cL aF) r) /\
 (∀ r:(List GSeineref13Spot),aAY r = .slice (List.map aJ r) [] true) /\
 (∀ r:(GFrag×Bool),aCb r = .tuple [aG r.1,PV.bool r.2]) /\
 (∀ r:(GType×Bool),aCc r = .tuple [jP r.1,PV.bool r.2]) /\
 (∀ r:(GDef×Bool),tY r = .tuple [aH r.1,PV.bool r.2]) /\
 (∀ r:(GFieldDef×Bool),qD r = .tuple [aL r.1,PV.bool r.2]) /\
 (∀ r:GValue,aA0 r=aP r) /\
 (∀ r:(GValue×Bool),aF8 r = .tuple [aP r.1,PV.bool r.2]) :=
 ⟨fun _=>rfl,fun _=>rfl,fun _=>rfl,fun _=>rfl,fun _=>rfl,fun _=>rfl,fun _=>rfl,fun _=>rfl,fun _=>rfl,fun _=>rfl,fun _=>rfl,fun _=>rfl,fun _=>rfl,fun _=>rfl,fun _=>rfl,fun _=>rfl,fun _=>rfl,fun _=>rfl,fun _=>rfl,fun _=>rfl,fun _=>rfl⟩
end Go.Proofs.YtphmfillajagdaaGreat

import Derived.Test.YtphmfillajagdaaGreatEd
import Derived.Test.YtphmfillajagdaaGreatEx
import Derived.Test.YtphmfillajagdaaGreatProg
import Derived.KernelRfl
set_option linter.unusedVariables false
set_option linter.unusedSimpArgs false
set_option linter.unusedSimpArgs false
open Go Go.Ev Go.Ev.PV
namespace Go.Proofs.YtphmfillajagdaaGreat
structure GType where
 name:Str
 lists:Int
 musts:Int
mutual
structure GValue where
 kind:Int
 n:Int
 s:Str
 l:List GValue
 m:List GMember
structure GMember where
 name:Str
 v:GValue
end
structure GParam where
 name:Str
 t:GType
 has:Bool
 default:GValue
structure GDir where
 name:Str
 args:List GMember
structure GFieldDef where
 name:Str
 params:List GParam
 t:GType
 dirs:List GDir
structure GDef where
 kind:Int
 name:Str
 faces:List Str
 fields:List GFieldDef
 parts:List Str
 params:List GParam
structure GSchema where
 defs:List GDef
 query:Str
 mutation:Str
structure GVarDef where
 name:Str
 t:GType
 has:Bool
 default:GValue
structure GSel where
 kind:Int
 alias:Str
 name:Str
 args:List GMember
 dirs:List GDir
 on_:Str
 sels:List GSel
structure GOp where
 kind:Int
 name:Str
 vars:List GVarDef
 dirs:List GDir
 sels:List GSel
structure GFrag where
 name:Str
 on_:Str
 dirs:List GDir
 sels:List GSel
structure GDoc where
 ops:List GOp
 frags:List GFrag
structure GSeineref13Spot where
 typ:Str
 x:GSel
structure GSpot where
 var:Str
 t:GType
 has:Bool
def aWm:Sh := .agg [.str,n6,n6]
def xH:Sh := .agg [n6,n6,.str,sf,sf]
def dU:Sh := .agg [.str,n6,n6,.str,sf,sf]
def mA:Sh := .agg [.str,.str,n6,n6,.bool,n6,n6,.str,sf,sf]
def aQL:Sh := .agg [.str,sf]
def nO:Sh := .agg [.str,sf,.str,n6,n6,sf]
def uK:Sh := .agg [n6,.str,sf,sf,sf,sf]
def aWn:Sh := .agg [sf,.str,.str]
def eY:Sh := .agg [.str,.str,n6,n6,.bool,n6,n6,.str,sf,sf]
def mG:Sh := .agg [n6,.str,.str,sf,sf,.str,sf]
def shOp:Sh := .agg [n6,.str,sf,sf,sf]
def gH:Sh := .agg [.str,.str,sf,sf]
def bFl:Sh := .agg [sf,sf]
def aBh:Sh := .agg [.str,n6,.str,.str,sf,sf,.str,sf]
def bDA:Sh := .agg [.str,.str,n6,n6,.bool]
def kQ (x:GType):PV := .agg [.str x.name,.int .i64 x.lists,.int .i64 x.musts]
theorem kB (x:GType):kQ x = .agg [.str x.name,.int .i64 x.lists,.int .i64 x.musts]:=rfl
theorem bAo (x:GType):chk aWm (kQ x)=true:=by rw [kB];rfl
theorem bAp (a b:GType) (h:kQ a=kQ b):a=b:=by
 simp only [kB,PV.agg.injEq,List.cons.injEq,PV.slice.injEq,PV.str.injEq,PV.int.injEq,PV.bool.injEq,true_and,and_true] at h
 obtain ⟨a0,a1,a2⟩:=a
 obtain ⟨b0,b1,b2⟩:=b
 dsimp only at h
 have e0:=h.1
 have e1:=h.2.1
 have e2:=h.2.2
 subst e0 e1 e2
 rfl
mutual
def aI:GValue→PV
 | ⟨x0,x1,x2,x3,x4⟩ => .agg ([.int .i64 x0,.int .i64 x1,.str x2,.slice (mH x3) [] false,.slice (kC x4) [] false])
def aE:GMember→PV
 | ⟨x0,x1⟩ => .agg ([.str x0]++(aI x1).cells)
def mH:List GValue→List PV
 | []=>[]
 | x::l=>aI x::mH l
def kC:List GMember→List PV
 | []=>[]
 | x::l=>aE x::kC l
end
theorem aB2:∀ (l:List GValue),mH l=List.map aI l
 | []=>by simp only [mH,List.map]
 | x::l=>by simp only [mH,List.map,aB2 l]
theorem aAu:∀ (l:List GMember),kC l=List.map aE l
 | []=>by simp only [kC,List.map]
 | x::l=>by simp only [kC,List.map,aAu l]
theorem fX (x:GValue):aI x = .agg [.int .i64 x.kind,.int .i64 x.n,.str x.s,.slice (List.map aI x.l) [] false,.slice (List.map aE x.m) [] false]:=by
 cases x;simp only [aI,cells,List.cons_append,List.nil_append,aB2,aAu]
theorem kR (x:GMember):aE x = .agg [.str x.name,.int .i64 x.v.kind,.int .i64 x.v.n,.str x.v.s,.slice (List.map aI x.v.l) [] false,.slice (List.map aE x.v.m) [] false]:=by
 cases x;simp only [aE,cells,List.cons_append,List.nil_append,aB2,aAu,fX]
theorem aC4 (x:GValue):chk xH (aI x)=true:=by rw [fX];rfl
theorem fY (x:GMember):chk dU (aE x)=true:=by rw [kR];rfl
mutual
theorem yQ:∀ (a b:GValue),aI a=aI b→a=b
 | ⟨a0,a1,a2,a3,a4⟩,⟨b0,b1,b2,b3,b4⟩,h=>by
  simp only [aI,PV.agg.injEq,List.cons.injEq,List.append_eq,PV.slice.injEq,PV.str.injEq,PV.int.injEq,PV.bool.injEq,true_and,and_true] at h
  have e0:=h.1
  have e1:=h.2.1
  have e2:=h.2.2.1
  have e3:=aJZ _ _ h.2.2.2.1
  have e4:=aHM _ _ h.2.2.2.2
  subst e0 e1 e2 e3 e4
  rfl
theorem qC:∀ (a b:GMember),aE a=aE b→a=b
 | ⟨a0,a1⟩,⟨b0,b1⟩,h=>by
  simp only [aE,PV.agg.injEq,List.cons_append,List.nil_append,List.cons.injEq,PV.slice.injEq,PV.str.injEq,PV.int.injEq,PV.bool.injEq,true_and,and_true] at h
  have e0:=h.1
  have e1:=yQ a1 b1 (by
   have h':=h.2
   cases a1;cases b1;simp only [aI,cells] at h' ⊢;rw [h'])
  subst e0 e1
  rfl
theorem aJZ:∀ (a b:List GValue),mH a=mH b→a=b
 | [],[],_=>rfl
 | [],_::_,h=>by simp [mH] at h
 | _::_,[],h=>by simp [mH] at h
 | x::l,y::m,h=>by
  simp only [mH,List.cons.injEq] at h
  rw [yQ x y h.1,aJZ l m h.2]
theorem aHM:∀ (a b:List GMember),kC a=kC b→a=b
 | [],[],_=>rfl
 | [],_::_,h=>by simp [kC] at h
 | _::_,[],h=>by simp [kC] at h
 | x::l,y::m,h=>by
  simp only [kC,List.cons.injEq] at h
  rw [qC x y h.1,aHM l m h.2]
end
def aX (x:GParam):PV := .agg [.str x.name,.str x.t.name,.int .i64 x.t.lists,.int .i64 x.t.musts,.bool x.has,.int .i64 x.default.kind,.int .i64 x.default.n,.str x.default.s,.slice (List.map aI x.default.l) [] false,.slice (List.map aE x.default.m) [] false]
theorem kS (x:GParam):aX x = .agg [.str x.name,.str x.t.name,.int .i64 x.t.lists,.int .i64 x.t.musts,.bool x.has,.int .i64 x.default.kind,.int .i64 x.default.n,.str x.default.s,.slice (List.map aI x.default.l) [] false,.slice (List.map aE x.default.m) [] false]:=rfl
theorem qD (x:GParam):chk mA (aX x)=true:=by rw [kS];rfl
theorem aGE (a b:GParam) (h:aX a=aX b):a=b:=by
 simp only [kS,PV.agg.injEq,List.cons.injEq,PV.slice.injEq,PV.str.injEq,PV.int.injEq,PV.bool.injEq,true_and,and_true] at h
 obtain ⟨a0,⟨a1,a2,a3⟩,a4,⟨a5,a6,a7,a8,a9⟩⟩:=a
 obtain ⟨b0,⟨b1,b2,b3⟩,b4,⟨b5,b6,b7,b8,b9⟩⟩:=b
 dsimp only at h
 have e0:=h.1
 have e1:=h.2.1
 have e2:=h.2.2.1
 have e3:=h.2.2.2.1
 have e4:=h.2.2.2.2.1
 have e5:=h.2.2.2.2.2.1
 have e6:=h.2.2.2.2.2.2.1
 have e7:=h.2.2.2.2.2.2.2.1
 have e8:=dT yQ h.2.2.2.2.2.2.2.2.1
 have e9:=dT qC h.2.2.2.2.2.2.2.2.2
 subst e0 e1 e2 e3 e4 e5 e6 e7 e8 e9
 rfl
def aK (x:GDir):PV := .agg [.str x.name,.slice (List.map aE x.args) [] false]
theorem rJ (x:GDir):aK x = .agg [.str x.name,.slice (List.map aE x.args) [] false]:=rfl
theorem aIX (x:GDir):chk aQL (aK x)=true:=by rw [rJ];rfl
theorem aIY (a b:GDir) (h:aK a=aK b):a=b:=by
 simp only [rJ,PV.agg.injEq,List.cons.injEq,PV.slice.injEq,PV.str.injEq,PV.int.injEq,PV.bool.injEq,true_and,and_true] at h
 obtain ⟨a0,a1⟩:=a
 obtain ⟨b0,b1⟩:=b
 dsimp only at h
 have e0:=h.1
 have e1:=dT qC h.2
 subst e0 e1
 rfl
def bO (x:GFieldDef):PV := .agg [.str x.name,.slice (List.map aX x.params) [] false,.str x.t.name,.int .i64 x.t.lists,.int .i64 x.t.musts,.slice (List.map aK x.dirs) [] false]
theorem fL (x:GFieldDef):bO x = .agg [.str x.name,.slice (List.map aX x.params) [] false,.str x.t.name,.int .i64 x.t.lists,.int .i64 x.t.musts,.slice (List.map aK x.dirs) [] false]:=rfl
theorem aAv (x:GFieldDef):chk nO (bO x)=true:=by rw [fL];rfl
theorem aFG (a b:GFieldDef) (h:bO a=bO b):a=b:=by
 simp only [fL,PV.agg.injEq,List.cons.injEq,PV.slice.injEq,PV.str.injEq,PV.int.injEq,PV.bool.injEq,true_and,and_true] at h
 obtain ⟨a0,a1,⟨a2,a3,a4⟩,a5⟩:=a
 obtain ⟨b0,b1,⟨b2,b3,b4⟩,b5⟩:=b
 dsimp only at h
 have e0:=h.1
 have e1:=dT aGE h.2.1
 have e2:=h.2.2.1
 have e3:=h.2.2.2.1
 have e4:=h.2.2.2.2.1
 have e5:=dT aIY h.2.2.2.2.2
 subst e0 e1 e2 e3 e4 e5
 rfl
def aM (x:GDef):PV := .agg [.int .i64 x.kind,.str x.name,.slice (List.map PV.str x.faces) [] false,.slice (List.map bO x.fields) [] false,.slice (List.map PV.str x.parts) [] false,.slice (List.map aX x.params) [] false]
theorem rK (x:GDef):aM x = .agg [.int .i64 x.kind,.str x.name,.slice (List.map PV.str x.faces) [] false,.slice (List.map bO x.fields) [] false,.slice (List.map PV.str x.parts) [] false,.slice (List.map aX x.params) [] false]:=rfl
theorem aC5 (x:GDef):chk uK (aM x)=true:=by rw [rK];rfl
theorem bB4 (a b:GDef) (h:aM a=aM b):a=b:=by
 simp only [rK,PV.agg.injEq,List.cons.injEq,PV.slice.injEq,PV.str.injEq,PV.int.injEq,PV.bool.injEq,true_and,and_true] at h
 obtain ⟨a0,a1,a2,a3,a4,a5⟩:=a
 obtain ⟨b0,b1,b2,b3,b4,b5⟩:=b
 dsimp only at h
 have e0:=h.1
 have e1:=h.2.1
 have e2:=dT Ev.str_inj h.2.2.1
 have e3:=dT aFG h.2.2.2.1
 have e4:=dT Ev.str_inj h.2.2.2.2.1
 have e5:=dT aGE h.2.2.2.2.2
 subst e0 e1 e2 e3 e4 e5
 rfl
def fG (x:GSchema):PV := .agg [.slice (List.map aM x.defs) [] false,.str x.query,.str x.mutation]
theorem kT (x:GSchema):fG x = .agg [.slice (List.map aM x.defs) [] false,.str x.query,.str x.mutation]:=rfl
theorem aTH (x:GSchema):chk aWn (fG x)=true:=by rw [kT];rfl
def aC (x:GVarDef):PV := .agg [.str x.name,.str x.t.name,.int .i64 x.t.lists,.int .i64 x.t.musts,.bool x.has,.int .i64 x.default.kind,.int .i64 x.default.n,.str x.default.s,.slice (List.map aI x.default.l) [] false,.slice (List.map aE x.default.m) [] false]
theorem iY (x:GVarDef):aC x = .agg [.str x.name,.str x.t.name,.int .i64 x.t.lists,.int .i64 x.t.musts,.bool x.has,.int .i64 x.default.kind,.int .i64 x.default.n,.str x.default.s,.slice (List.map aI x.default.l) [] false,.slice (List.map aE x.default.m) [] false]:=rfl
theorem jL (x:GVarDef):chk eY (aC x)=true:=by rw [iY];rfl
theorem aTI (a b:GVarDef) (h:aC a=aC b):a=b:=by
 simp only [iY,PV.agg.injEq,List.cons.injEq,PV.slice.injEq,PV.str.injEq,PV.int.injEq,PV.bool.injEq,true_and,and_true] at h
 obtain ⟨a0,⟨a1,a2,a3⟩,a4,⟨a5,a6,a7,a8,a9⟩⟩:=a
 obtain ⟨b0,⟨b1,b2,b3⟩,b4,⟨b5,b6,b7,b8,b9⟩⟩:=b
 dsimp only at h
 have e0:=h.1
 have e1:=h.2.1
 have e2:=h.2.2.1
 have e3:=h.2.2.2.1
 have e4:=h.2.2.2.2.1
 have e5:=h.2.2.2.2.2.1
 have e6:=h.2.2.2.2.2.2.1
 have e7:=h.2.2.2.2.2.2.2.1
 have e8:=dT yQ h.2.2.2.2.2.2.2.2.1
 have e9:=dT qC h.2.2.2.2.2.2.2.2.2
 subst e0 e1 e2 e3 e4 e5 e6 e7 e8 e9
 rfl
mutual
def aG:GSel→PV
 | ⟨x0,x1,x2,x3,x4,x5,x6⟩ => .agg ([.int .i64 x0,.str x1,.str x2,.slice (List.map aE x3) [] false,.slice (List.map aK x4) [] false,.str x5,.slice (xI x6) [] false])
def xI:List GSel→List PV
 | []=>[]
 | x::l=>aG x::xI l
end
theorem aM7:∀ (l:List GSel),xI l=List.map aG l
 | []=>by simp only [xI,List.map]
 | x::l=>by simp only [xI,List.map,aM7 l]
theorem rL (x:GSel):aG x = .agg [.int .i64 x.kind,.str x.alias,.str x.name,.slice (List.map aE x.args) [] false,.slice (List.map aK x.dirs) [] false,.str x.on_,.slice (List.map aG x.sels) [] false]:=by
 cases x;simp only [aG,cells,List.cons_append,List.nil_append,aM7]
theorem gU (x:GSel):chk mG (aG x)=true:=by rw [rL];rfl
mutual
theorem aOa:∀ (a b:GSel),aG a=aG b→a=b
 | ⟨a0,a1,a2,a3,a4,a5,a6⟩,⟨b0,b1,b2,b3,b4,b5,b6⟩,h=>by
  simp only [aG,PV.agg.injEq,List.cons.injEq,List.append_eq,PV.slice.injEq,PV.str.injEq,PV.int.injEq,PV.bool.injEq,true_and,and_true] at h
  have e0:=h.1
  have e1:=h.2.1
  have e2:=h.2.2.1
  have e3:=dT qC h.2.2.2.1
  have e4:=dT aIY h.2.2.2.2.1
  have e5:=h.2.2.2.2.2.1
  have e6:=aQM _ _ h.2.2.2.2.2.2
  subst e0 e1 e2 e3 e4 e5 e6
  rfl
theorem aQM:∀ (a b:List GSel),xI a=xI b→a=b
 | [],[],_=>rfl
 | [],_::_,h=>by simp [xI] at h
 | _::_,[],h=>by simp [xI] at h
 | x::l,y::m,h=>by
  simp only [xI,List.cons.injEq] at h
  rw [aOa x y h.1,aQM l m h.2]
end
def aT (x:GOp):PV := .agg [.int .i64 x.kind,.str x.name,.slice (List.map aC x.vars) [] false,.slice (List.map aK x.dirs) [] false,.slice (List.map aG x.sels) [] false]
theorem wD (x:GOp):aT x = .agg [.int .i64 x.kind,.str x.name,.slice (List.map aC x.vars) [] false,.slice (List.map aK x.dirs) [] false,.slice (List.map aG x.sels) [] false]:=rfl
theorem aJ0 (x:GOp):chk shOp (aT x)=true:=by rw [wD];rfl
def aH (x:GFrag):PV := .agg [.str x.name,.str x.on_,.slice (List.map aK x.dirs) [] false,.slice (List.map aG x.sels) [] false]
theorem lN (x:GFrag):aH x = .agg [.str x.name,.str x.on_,.slice (List.map aK x.dirs) [] false,.slice (List.map aG x.sels) [] false]:=rfl
theorem kU (x:GFrag):chk gH (aH x)=true:=by rw [lN];rfl
theorem bAq (a b:GFrag) (h:aH a=aH b):a=b:=by
 simp only [lN,PV.agg.injEq,List.cons.injEq,PV.slice.injEq,PV.str.injEq,PV.int.injEq,PV.bool.injEq,true_and,and_true] at h
 obtain ⟨a0,a1,a2,a3⟩:=a
 obtain ⟨b0,b1,b2,b3⟩:=b
 dsimp only at h
 have e0:=h.1
 have e1:=h.2.1
 have e2:=dT aIY h.2.2.1
 have e3:=dT aOa h.2.2.2
 subst e0 e1 e2 e3
 rfl
def sW (x:GDoc):PV := .agg [.slice (List.map aT x.ops) [] false,.slice (List.map aH x.frags) [] false]
theorem rM (x:GDoc):sW x = .agg [.slice (List.map aT x.ops) [] false,.slice (List.map aH x.frags) [] false]:=rfl
theorem bB5 (x:GDoc):chk bFl (sW x)=true:=by rw [rM];rfl
def aL (x:GSeineref13Spot):PV := .agg [.str x.typ,.int .i64 x.x.kind,.str x.x.alias,.str x.x.name,.slice (List.map aE x.x.args) [] false,.slice (List.map aK x.x.dirs) [] false,.str x.x.on_,.slice (List.map aG x.x.sels) [] false]
theorem dM (x:GSeineref13Spot):aL x = .agg [.str x.typ,.int .i64 x.x.kind,.str x.x.alias,.str x.x.name,.slice (List.map aE x.x.args) [] false,.slice (List.map aK x.x.dirs) [] false,.str x.x.on_,.slice (List.map aG x.x.sels) [] false]:=rfl
theorem aEa (x:GSeineref13Spot):chk aBh (aL x)=true:=by rw [dM];rfl
theorem uL (a b:GSeineref13Spot) (h:aL a=aL b):a=b:=by
 simp only [dM,PV.agg.injEq,List.cons.injEq,PV.slice.injEq,PV.str.injEq,PV.int.injEq,PV.bool.injEq,true_and,and_true] at h
 obtain ⟨a0,⟨a1,a2,a3,a4,a5,a6,a7⟩⟩:=a
 obtain ⟨b0,⟨b1,b2,b3,b4,b5,b6,b7⟩⟩:=b
 dsimp only at h
 have e0:=h.1
 have e1:=h.2.1
 have e2:=h.2.2.1
 have e3:=h.2.2.2.1
 have e4:=dT qC h.2.2.2.2.1
 have e5:=dT aIY h.2.2.2.2.2.1
 have e6:=h.2.2.2.2.2.2.1
 have e7:=dT aOa h.2.2.2.2.2.2.2
 subst e0 e1 e2 e3 e4 e5 e6 e7
 rfl
def aGF (x:GSpot):PV := .agg [.str x.var,.str x.t.name,.int .i64 x.t.lists,.int .i64 x.t.musts,.bool x.has]
theorem aC6 (x:GSpot):aGF x = .agg [.str x.var,.str x.t.name,.int .i64 x.t.lists,.int .i64 x.t.musts,.bool x.has]:=rfl
theorem bAr (x:GSpot):chk bDA (aGF x)=true:=by rw [aC6];rfl
abbrev eS (x:GSchema):PV := .agg [(zq aM x.defs),(.str x.query),(.str x.mutation)]
abbrev eD (x:GDoc):PV := .agg [(zq aT x.ops),(zq aH x.frags)]
abbrev eL (x:GSel):PV := .agg [(i6 x.kind),(.str x.alias),(.str x.name),(zq aE x.args),(zq aK x.dirs),(.str x.on_),(zq aG x.sels)]
abbrev eV (x:GValue):PV := .agg [(i6 x.kind),(i6 x.n),(.str x.s),(zq aI x.l),(zq aE x.m)]
abbrev eT (x:GType):PV := .agg [(.str x.name),(i6 x.lists),(i6 x.musts)]
abbrev eR (x:GDir):PV := .agg [(.str x.name),(zq aE x.args)]
theorem tys:(∀ x:GType,kQ x = .agg [.str x.name,.int .i64 x.lists,.int .i64 x.musts]) ∧
  (∀ x:GValue,aI x = .agg [.int .i64 x.kind,.int .i64 x.n,.str x.s,.slice (List.map aI x.l) [] false,.slice (List.map aE x.m) [] false]) ∧
  (∀ x:GMember,aE x = .agg [.str x.name,.int .i64 x.v.kind,.int .i64 x.v.n,.str x.v.s,.slice (List.map aI x.v.l) [] false,.slice (List.map aE x.v.m) [] false]) ∧
  (∀ x:GParam,aX x = .agg [.str x.name,.str x.t.name,.int .i64 x.t.lists,.int .i64 x.t.musts,.bool x.has,.int .i64 x.default.kind,.int .i64 x.default.n,.str x.default.s,.slice (List.map aI x.default.l) [] false,.slice (List.map aE x.default.m) [] false]) ∧
  (∀ x:GDir,aK x = .agg [.str x.name,.slice (List.map aE x.args) [] false]) ∧
  (∀ x:GFieldDef,bO x = .agg [.str x.name,.slice (List.map aX x.params) [] false,.str x.t.name,.int .i64 x.t.lists,.int .i64 x.t.musts,.slice (List.map aK x.dirs) [] false]) ∧
  (∀ x:GDef,aM x = .agg [.int .i64 x.kind,.str x.name,.slice (List.map PV.str x.faces) [] false,.slice (List.map bO x.fields) [] false,.slice (List.map PV.str x.parts) [] false,.slice (List.map aX x.params) [] false]) ∧
  (∀ x:GSchema,fG x = .agg [.slice (List.map aM x.defs) [] false,.str x.query,.str x.mutation]) ∧
  (∀ x:GVarDef,aC x = .agg [.str x.name,.str x.t.name,.int .i64 x.t.lists,.int .i64 x.t.musts,.bool x.has,.int .i64 x.default.kind,.int .i64 x.default.n,.str x.default.s,.slice (List.map aI x.default.l) [] false,.slice (List.map aE x.default.m) [] false]) ∧
  (∀ x:GSel,aG x = .agg [.int .i64 x.kind,.str x.alias,.str x.name,.slice (List.map aE x.args) [] false,.slice (List.map aK x.dirs) [] false,.str x.on_,.slice (List.map aG x.sels) [] false]) ∧
  (∀ x:GOp,aT x = .agg [.int .i64 x.kind,.str x.name,.slice (List.map aC x.vars) [] false,.slice (List.map aK x.dirs) [] false,.slice (List.map aG x.sels) [] false]) ∧
  (∀ x:GFrag,aH x = .agg [.str x.name,.str x.on_,.slice (List.map aK x.dirs) [] false,.slice (List.map aG x.sels) [] false]) ∧
  (∀ x:GDoc,sW x = .agg [.slice (List.map aT x.ops) [] false,.slice (List.map aH x.frags) [] false]) ∧
  (∀ x:GSeineref13Spot,aL x = .agg [.str x.typ,.int .i64 x.x.kind,.str x.x.alias,.str x.x.name,.slice (List.map aE x.x.args) [] false,.slice (List.map aK x.x.dirs) [] false,.str x.x.on_,.slice (List.map aG x.x.sels) [] false]) ∧
  (∀ x:GSpot,aGF x = .agg [.str x.var,.str x.t.name,.int .i64 x.t.lists,.int .i64 x.t.musts,.bool x.has]):=⟨kB,fX,kR,kS,rJ,fL,rK,kT,iY,rL,wD,lN,rM,dM,aC6⟩
theorem chks:(∀ x,chk aWm (kQ x)=true) ∧
  (∀ x,chk xH (aI x)=true) ∧
  (∀ x,chk dU (aE x)=true) ∧
  (∀ x,chk mA (aX x)=true) ∧
  (∀ x,chk aQL (aK x)=true) ∧
  (∀ x,chk nO (bO x)=true) ∧
  (∀ x,chk uK (aM x)=true) ∧
  (∀ x,chk aWn (fG x)=true) ∧
  (∀ x,chk eY (aC x)=true) ∧
  (∀ x,chk mG (aG x)=true) ∧
  (∀ x,chk shOp (aT x)=true) ∧
  (∀ x,chk gH (aH x)=true) ∧
  (∀ x,chk bFl (sW x)=true) ∧
  (∀ x,chk aBh (aL x)=true) ∧
  (∀ x,chk bDA (aGF x)=true):=⟨bAo,aC4,fY,qD,aIX,aAv,aC5,aTH,jL,gU,aJ0,kU,bB5,aEa,bAr⟩
open Go Go.Ev Go.Ev.PV
def MTL:List (Nat×Hints):=[(7,{drop:=true}),
 (58,{takes:=[29,30,51,52],keeps:=[(3,[2,3,5,6]),(7,[2,3,5,7])],drop:=true}),
 (62,{keeps:=[(2,[2,3,4,6,7]),(9,[2,3,4,6,7,8,11])],drop:=true}),
 (96,{takes:=[48],keeps:=[(2,[1,2,3]),(6,[1,3,4,5]),(10,[1,3,4,5,6,7])],drop:=true}),
 (114,{takes:=[31,32,59],keeps:=[(3,[2,5,6]),(10,[2,5,9,10])],drop:=true}),
 (192,{keeps:=[(12,[4,6,8,9,11])],drop:=true}),
 (236,{takes:=[17,39,40,59,60,61],keeps:=[(4,[1,2,5]),(8,[1,2,6])],own:=true,drop:=true}),
 (238,{drop:=true}),
 (239,{takes:=[20],keeps:=[(3,[0,2,3,4,5])],drop:=true}),
 (25,{drop:=true}),
 (26,{drop:=true}),
 (78,{drop:=true}),
 (142,{gens:=[16],keeps:=[(2,[0,1,4,7,8])],drop:=true}),
 (77,{gens:=[7],drop:=true}),
 (27,{gens:=[17],drop:=true}),
 (10,{keeps:=[(2,[1,2,3])],drop:=true}),
 (11,{keeps:=[(4,[2,3,4,6,7])],drop:=true}),
 (20,{keeps:=[(23,[2,3,4,6,7,8])],drop:=true}),
 (116,{drop:=true}),
 (115,{takes:=[16,38,39,40],keeps:=[(2,[1,2,3,4,9])],own:=true,drop:=true}),
 (126,{takes:=[11],keeps:=[(3,[0,3,4])],drop:=true}),
 (127,{takes:=[11,32,33],keeps:=[(4,[2,5,6,7])],drop:=true}),
 (50,{keeps:=[(2,[0,2,3]),(5,[0,2,3,4])],drop:=true}),
 (128,{keeps:=[(2,[0,1,4,5])],drop:=true}),
 (129,{drop:=true}),
 (166,{takes:=[48,53],keeps:=[(4,[2,5,6,8])],own:=true,drop:=true}),
 (29,{keeps:=[(2,[0,1,4,5])],drop:=true}),
 (182,{takes:=[4],own:=true,drop:=true}),
 (113,{keeps:=[(2,[1,2,4,5,6])],drop:=true}),
 (183,{takes:=[28,41,42,43],keeps:=[(2,[0,1,5])],own:=true,drop:=true}),
 (101,{drop:=true}),
 (224,{drop:=true}),
 (164,{keeps:=[(4,[1,2,4,5,6])],drop:=true}),
 (225,{keeps:=[(2,[1,2,3,6,7]),(8,[1,2,3,6,7,10]),(13,[1,2,6,11])],drop:=true}),
 (250,{keeps:=[(2,[0,1,5])],drop:=true}),
 (251,{keeps:=[(17,[0,1,4,5,6,7,8,9])],drop:=true}),
 (30,{keeps:=[(3,[1,3,4]),(8,[1,3,4,5,6])],drop:=true}),
 (31,{keeps:=[(3,[1,3,4]),(7,[1,3,4,5]),(11,[1,3,6])],drop:=true}),
 (75,{drop:=true}),
 (80,{takes:=[15,18,26,29,31,34,36],keeps:=[(2,[0,9,10,11]),(6,[0,6,9,10,11,20,21,22])],own:=true,drop:=true,frl:=[(2,[1048576])]}),
 (28,{takes:=[11,26,29],keeps:=[(3,[2,5,14,15,16])],drop:=true,frz:=[(8,[5])]}),
 (76,{drop:=true}),
 (145,{drop:=true}),
 (204,{gens:=[16],keeps:=[(2,[0,1,4,7,8])],drop:=true}),
 (144,{gens:=[7],drop:=true}),
 (148,{drop:=true}),
 (205,{gens:=[16],keeps:=[(2,[0,1,4,7,8])],drop:=true}),
 (147,{gens:=[7],drop:=true}),
 (150,{drop:=true}),
 (79,{gens:=[20,29,38],drop:=true}),
 (32,{drop:=true}),
 (33,{keeps:=[(2,[1,2,3]),(8,[1,2,3,4,5]),(13,[1,2,6])],drop:=true}),
 (51,{takes:=[19],keeps:=[(3,[1,3,4])],drop:=true}),
 (52,{keeps:=[(2,[2,3,4,5])],drop:=true}),
 (53,{takes:=[12],keeps:=[(3,[1,3,4])],drop:=true}),
 (54,{keeps:=[(2,[2,3,4,5]),(8,[2,4,6,7])],drop:=true}),
 (55,{keeps:=[(3,[3,4,5,6])],drop:=true}),
 (56,{keeps:=[(2,[1,2,3])],drop:=true}),
 (57,{keeps:=[(2,[1,2,3]),(6,[1,3,4,5])],drop:=true}),
 (59,{drop:=true}),
 (60,{keeps:=[(3,[2,4,6,7,8]),(6,[2,4,6,7,8,9])],drop:=true}),
 (61,{keeps:=[(3,[2,3,6,7,8]),(8,[2,3,6,7,8,9])],drop:=true}),
 (63,{keeps:=[(2,[2,3,4,5]),(5,[2,3,4,5,6]),(12,[2,4,8,9]),(17,[2,4,8,9,10])],drop:=true}),
 (64,{keeps:=[(2,[2,3,4,5]),(6,[2,3,4,5,6,7])],drop:=true}),
 (65,{keeps:=[(2,[2,3,4,5]),(7,[2,3,4,6])],drop:=true}),
 (184,{drop:=true}),
 (189,{takes:=[18,19,39,40,46,47,48],keeps:=[(2,[0,1,5]),(6,[0,1,5,6])],own:=true,drop:=true}),
 (190,{keeps:=[(3,[3,4]),(6,[3,4,5])],drop:=true,vecs:=[(7,1)],frz:=[(9,[3])]}),
 (159,{drop:=true}),
 (98,{keeps:=[(4,[0,2,3])],drop:=true}),
 (156,{drop:=true}),
 (193,{keeps:=[(2,[0,1,4,5,6])],drop:=true}),
 (219,{keeps:=[(2,[0,1,4,5,6])],drop:=true}),
 (195,{drop:=true}),
 (170,{drop:=true}),
 (83,{keeps:=[(3,[0,3,4])],drop:=true}),
 (84,{keeps:=[(3,[0,3,4])],drop:=true}),
 (85,{keeps:=[(3,[0,3,4])],drop:=true}),
 (86,{keeps:=[(3,[0,3,4])],drop:=true}),
 (87,{keeps:=[(3,[0,3,4])],drop:=true}),
 (88,{keeps:=[(3,[1,3,4]),(7,[1,3,5])],drop:=true}),
 (151,{takes:=[23,25,28],keeps:=[(2,[0,9,10,11]),(5,[0,9,10,11,17,18,19])],own:=true,drop:=true,frl:=[(2,[1048576])]}),
 (81,{takes:=[30],keeps:=[(4,[5,6,13,14,15])],drop:=true}),
 (154,{drop:=true}),
 (153,{gens:=[16],keeps:=[(2,[0,1,4,7,8])],drop:=true}),
 (82,{gens:=[10],drop:=true}),
 (203,{drop:=true}),
 (143,{gens:=[18],keeps:=[(2,[1,2,6,7,8])],drop:=true}),
 (146,{drop:=true}),
 (206,{drop:=true}),
 (149,{gens:=[10],drop:=true}),
 (136,{drop:=true}),
 (89,{keeps:=[(3,[1,2,3,4])],drop:=true}),
 (90,{drop:=true}),
 (91,{keeps:=[(2,[1,2,3]),(8,[1,2,3,4,5])],drop:=true}),
 (92,{keeps:=[(2,[1,2,3]),(8,[1,2,3,4,5])],drop:=true}),
 (93,{keeps:=[(2,[1,2,3]),(6,[1,2,3,4,5]),(12,[1,2,3,4,5,6,8])],drop:=true}),
 (94,{keeps:=[(2,[1,2,3]),(6,[1,2,3,4,5]),(10,[1,2,3,4,5,6,8])],drop:=true}),
 (95,{keeps:=[(2,[1,2,3]),(5,[1,2,3,4])],drop:=true}),
 (97,{keeps:=[(2,[1,2,3]),(7,[1,2,3,4])],drop:=true}),
 (99,{keeps:=[(2,[0,1,2,6,7])],drop:=true}),
 (100,{keeps:=[(4,[0,1,4,5])],drop:=true}),
 (102,{drop:=true}),
 (112,{drop:=true}),
 (117,{keeps:=[(7,[2,6,7,8,10])],drop:=true}),
 (118,{drop:=true}),
 (119,{keeps:=[(3,[6,7,8,9])],drop:=true}),
 (120,{takes:=[17,33,51],keeps:=[(3,[2,3,5,6]),(7,[2,3,5,7]),(12,[5,8,9])],drop:=true}),
 (121,{drop:=true}),
 (122,{takes:=[11],keeps:=[(3,[0,3,4])],drop:=true}),
 (124,{drop:=true}),
 (123,{drop:=true}),
 (125,{drop:=true}),
 (130,{drop:=true}),
 (131,{keeps:=[(2,[1,2,3,6,7])],drop:=true}),
 (132,{takes:=[38],keeps:=[(4,[3,4,7,8,9])],drop:=true}),
 (134,{keeps:=[(2,[0,1,4,5])],drop:=true}),
 (133,{drop:=true}),
 (135,{keeps:=[(4,[2,3,4,5,8,9])],drop:=true}),
 (220,{takes:=[33,40],keeps:=[(2,[0,1,5]),(6,[0,1,5,6,7])],own:=true,drop:=true}),
 (169,{drop:=true}),
 (207,{takes:=[4],drop:=true}),
 (208,{takes:=[25],keeps:=[(3,[0,1,4,5,8,9,10])],own:=true,drop:=true}),
 (152,{takes:=[10,28,31],keeps:=[(4,[2,5,6])],drop:=true}),
 (201,{drop:=true}),
 (200,{keeps:=[(2,[0,1,4,7,8])],drop:=true}),
 (155,{takes:=[12],keeps:=[(3,[1,3,4])],drop:=true}),
 (157,{keeps:=[(2,[1,2,3])],drop:=true}),
 (158,{keeps:=[(2,[0,2,3])],drop:=true}),
 (160,{takes:=[11],keeps:=[(3,[0,3,4])],drop:=true}),
 (161,{takes:=[11],keeps:=[(3,[0,3,4])],drop:=true}),
 (162,{keeps:=[(2,[0,2,3]),(5,[0,2,3,4])],drop:=true}),
 (163,{keeps:=[(2,[1,2,4,5])],drop:=true}),
 (165,{keeps:=[(4,[4,5,6,7]),(10,[4,5,6,10])],drop:=true}),
 (167,{keeps:=[(2,[1,2,4,5])],drop:=true}),
 (168,{keeps:=[(2,[1,2,4,5])],drop:=true}),
 (171,{keeps:=[(2,[0,1,2,6,7])],drop:=true}),
 (172,{drop:=true}),
 (173,{drop:=true}),
 (174,{keeps:=[(4,[2,3,4,5])],drop:=true}),
 (185,{takes:=[24,60,93],keeps:=[(8,[1,2,7,8]),(15,[2,5,7,10])],drop:=true}),
 (186,{keeps:=[(2,[0,1,4,5])],drop:=true}),
 (187,{keeps:=[(2,[0,2,3]),(5,[0,2,3,4])],drop:=true}),
 (188,{keeps:=[(2,[0,1,4,5])],drop:=true}),
 (191,{keeps:=[(25,[1,2,6]),(32,[1,2,7])],drop:=true}),
 (194,{takes:=[22,49,71,87],keeps:=[(3,[1,2,3,7,8]),(8,[1,2,3,7,8,9])],own:=true,drop:=true}),
 (196,{drop:=true}),
 (197,{drop:=true}),
 (199,{takes:=[26,37,66,75],keeps:=[(3,[2,3,4,5,9,10])],own:=true,drop:=true}),
 (198,{keeps:=[(2,[2,3,4,6,7]),(5,[2,3,4,6,7,8])],drop:=true}),
 (214,{takes:=[4],drop:=true}),
 (230,{takes:=[18,32,34,45,48,50],keeps:=[(7,[0,26,27,28]),(13,[0,39,40,41])],own:=true,drop:=true}),
 (69,{takes:=[23,28,31,33],keeps:=[(2,[0,7,8,9])],own:=true,drop:=true}),
 (178,{keeps:=[(4,[1,4,5,13,14,15])],drop:=true}),
 (228,{drop:=true}),
 (209,{drop:=true}),
 (210,{drop:=true}),
 (211,{drop:=true}),
 (212,{drop:=true}),
 (213,{keeps:=[(4,[1,3,4]),(10,[1,3,5])],drop:=true}),
 (215,{keeps:=[(4,[0,1,4,5])],drop:=true}),
 (221,{drop:=true}),
 (222,{keeps:=[(5,[0,2,3,4,5,6])],drop:=true}),
 (223,{drop:=true}),
 (226,{takes:=[27],keeps:=[(3,[1,2,3,7,8])],drop:=true}),
 (227,{drop:=true}),
 (216,{drop:=true}),
 (245,{keeps:=[(2,[0,1,4,7,8])],drop:=true}),
 (232,{keeps:=[(2,[0,2,3])],drop:=true}),
 (233,{keeps:=[(2,[0,2,3])],drop:=true}),
 (234,{keeps:=[(2,[0,2,3])],drop:=true}),
 (235,{keeps:=[(2,[1,2,3]),(7,[1,2,4])],drop:=true}),
 (240,{takes:=[55,95],keeps:=[(11,[4,7,9,11,12]),(17,[4,7,11,13,15])],drop:=true}),
 (241,{drop:=true}),
 (242,{keeps:=[(9,[4,5,8,13,14]),(12,[4,5,8,13,14,15])],drop:=true}),
 (243,{keeps:=[(4,[0,1,4,5])],drop:=true}),
 (244,{takes:=[22],drop:=true}),
 (252,{drop:=true})]
def MT (f:FuncId):Hints:=match Go.Ev.look MTL f with | some m=>m | none=>{}
def XT:Ext:=fun f=>Go.Ev.look [(208,aD9)] f
noncomputable def O:Orc:=OL Tryz.prog MT XT
abbrev LBs:=bM→bM
abbrev EU:=Ex×List PV×UP
abbrev Ri {α:Type} (e:α→PV) (r:α) (v:PV×UP):Prop:=v=(e r,[])
noncomputable abbrev eW (i:Nat) (ds:Decs) (fn:Func) (O:Orc) (LP:LBs) (a:List PV) (u:UP):=yL Tryz.prog (MT i) ds fn.ntmps O LP fn a u
def aA:Bool→PV:=fun r=>PV.bool r
theorem aD (a b:Bool) (h:aA a=aA b):a=b:=Ev.bool_inj a b h
noncomputable def sX (s:GSchema) (d:GDoc) (n:Int):Option Bool:=tO O 7 [(eS s),(eD d),(i6 n)] [] fun r=>(aA r,[])
def yR:(List GSeineref13Spot)→PV:=fun r=>(aJJ aL) r
theorem aXP (a b:List GSeineref13Spot) (h:yR a=yR b):a=b:=(Ev.encSl_inj uL) a b h
noncomputable def aWo (s:GSchema) (d:GDoc):Option (List GSeineref13Spot):=tO O 58 [(eS s),(eD d)] [] fun r=>(yR r,[])
noncomputable def aGG (s:GSchema) (d:GDoc) (n:Int):Option Bool:=tO O 62 [(eS s),(eD d),(i6 n)] [] fun r=>(aA r,[])
noncomputable def aWp (s:GSchema):Option Bool:=tO O 96 [(eS s)] [] fun r=>(aA r,[])
def cO:(List Str)→PV:=fun r=>(aJJ PV.str) r
theorem lO (a b:List Str) (h:cO a=cO b):a=b:=(Ev.encSl_inj Ev.str_inj) a b h
noncomputable def aIZ (d:GDoc) (l0:List GSel):Option (List Str):=tO O 114 [(eD d),(zq aG l0)] [] fun r=>(cO r,[])
noncomputable def wE (s:GSchema) (t:GType) (v0:GValue) (alone:Bool):Option Bool:=tO O 192 [(eS s),(eT t),(eV v0),(.bool alone)] [] fun r=>(aA r,[])
def eZ:(List Str)→PV:=fun r => .slice (List.map PV.str r) [] true
theorem rN (a b:List Str) (h:eZ a=eZ b):a=b:=Ev.encSlO_inj Ev.str_inj a b h
noncomputable def aJ1 (v0:GValue) (out0:List Str):Option (List Str):=tO O 236 [(eV v0),(zp PV.str out0)] [] fun r=>(eZ r,[])
def jM:(Int×Int)→PV:=fun r => .tuple [(PV.int .i64) r.1,(PV.int .i64) r.2]
theorem aHN (a b:Int×Int) (h:jM a=jM b):a=b:=by
 simp only [jM,PV.tuple.injEq,List.cons.injEq,and_true] at h
 exact Prod.ext ((Ev.int_inj _) _ _ h.1) ((Ev.int_inj _) _ _ h.2)
noncomputable def aM8 (s:Str):Option (Int×Int):=tO O 238 [(.str s)] [] fun r=>(jM r,[])
def uM:((List Int)×Bool)→PV:=fun r => .tuple [(aJJ (PV.int .i64)) r.1,PV.bool r.2]
theorem aXQ (a b:(List Int)×Bool) (h:uM a=uM b):a=b:=by
 simp only [uM,PV.tuple.injEq,List.cons.injEq,and_true] at h
 exact Prod.ext ((Ev.encSl_inj (Ev.int_inj _)) _ _ h.1) (Ev.bool_inj _ _ h.2)
noncomputable def aWq (s:Str):Option ((List Int)×Bool):=tO O 239 [(.str s)] [] fun r=>(uM r,[])
noncomputable def sJ (s:GSchema) (d:GDoc):Option Bool:=tO O 25 [(eS s),(eD d)] [] fun r=>(aA r,[])
noncomputable def dO:Option Bool:=tO O 26 [] [] fun r=>(aA r,[])
def kV (o:GOp) (u0_5:Int) (u0_4:GDoc) (u0_3:GSchema):Bool→UP:=fun r=>[[(5,[(i6 u0_5)]),(4,[(zq aT u0_4.ops),(zq aH u0_4.frags)]),(3,[(zq aM u0_3.defs),(.str u0_3.query),(.str u0_3.mutation)])]]
noncomputable def aEb (o:GOp) (u0_5:Int) (u0_4:GDoc) (u0_3:GSchema):Option Bool:=tO O 78 [(.agg [(i6 o.kind),(.str o.name),(zq aC o.vars),(zq aK o.dirs),(zq aG o.sels)]),(.ptr 1 3 0),(.ptr 1 4 0),(.ptr 1 5 0)] [[(5,[(i6 u0_5)]),(4,[(zq aT u0_4.ops),(zq aH u0_4.frags)]),(3,[(zq aM u0_3.defs),(.str u0_3.query),(.str u0_3.mutation)])]] fun r=>(aA r,(kV o u0_5 u0_4 u0_3 r))
def dP:Int→PV:=fun r=>(PV.int .i64) r
def aHO (s:List GOp) (u0_5:Int) (u0_4:GDoc) (u0_3:GSchema):Int→UP:=fun r=>[[(5,[(i6 u0_5)]),(4,[(zq aT u0_4.ops),(zq aH u0_4.frags)]),(3,[(zq aM u0_3.defs),(.str u0_3.query),(.str u0_3.mutation)])]]
theorem uN (a b:Int) (h:dP a=dP b):a=b:=(Ev.int_inj _) a b h
noncomputable def bFm (s:List GOp) (u0_5:Int) (u0_4:GDoc) (u0_3:GSchema):Option Int:=tO O 142 [(zq aT s),(.func (.func 78) [] [(.ptr 1 3 0),(.ptr 1 4 0),(.ptr 1 5 0)])] [[(5,[(i6 u0_5)]),(4,[(zq aT u0_4.ops),(zq aH u0_4.frags)]),(3,[(zq aM u0_3.defs),(.str u0_3.query),(.str u0_3.mutation)])]] fun r=>(dP r,(aHO s u0_5 u0_4 u0_3 r))
def bY (s:List GOp) (u0_5:Int) (u0_4:GDoc) (u0_3:GSchema):Bool→UP:=fun r=>[[(5,[(i6 u0_5)]),(4,[(zq aT u0_4.ops),(zq aH u0_4.frags)]),(3,[(zq aM u0_3.defs),(.str u0_3.query),(.str u0_3.mutation)])]]
noncomputable def pT (s:List GOp) (u0_5:Int) (u0_4:GDoc) (u0_3:GSchema):Option Bool:=tO O 77 [(zq aT s),(.func (.func 78) [] [(.ptr 1 3 0),(.ptr 1 4 0),(.ptr 1 5 0)])] [[(5,[(i6 u0_5)]),(4,[(zq aT u0_4.ops),(zq aH u0_4.frags)]),(3,[(zq aM u0_3.defs),(.str u0_3.query),(.str u0_3.mutation)])]] fun r=>(aA r,(bY s u0_5 u0_4 u0_3 r))
noncomputable def yS (s:GSchema) (d:GDoc) (n:Int):Option Bool:=tO O 27 [(eS s),(eD d),(i6 n)] [] fun r=>(aA r,[])
noncomputable def aWr (s:GSchema):Option Int:=tO O 10 [(eS s)] [] fun r=>(dP r,[])
noncomputable def bAs (s:GSchema) (d:GDoc) (n:Int):Option Bool:=tO O 11 [(eS s),(eD d),(i6 n)] [] fun r=>(aA r,[])
noncomputable def bAt (s:GSchema) (d:GDoc) (n:Int):Option Bool:=tO O 20 [(eS s),(eD d),(i6 n)] [] fun r=>(aA r,[])
def aAw:Str→PV:=fun r=>PV.str r
theorem aQN (a b:Str) (h:aAw a=aAw b):a=b:=Ev.str_inj a b h
noncomputable def aTJ (s:GSchema) (o:GOp):Option Str:=tO O 116 [(eS s),(.agg [(i6 o.kind),(.str o.name),(zq aC o.vars),(zq aK o.dirs),(zq aG o.sels)])] [] fun r=>(aAw r,[])
def aB3:(List GSeineref13Spot)→PV:=fun r => .slice (List.map aL r) [] true
theorem aXR (a b:List GSeineref13Spot) (h:aB3 a=aB3 b):a=b:=Ev.encSlO_inj uL a b h
noncomputable def aFH (s:GSchema) (typ:Str) (l0:List GSel) (out0:List GSeineref13Spot):Option (List GSeineref13Spot):=tO O 115 [(eS s),(.str typ),(zq aG l0),(zp aL out0)] [] fun r=>(aB3 r,[])
noncomputable def aEc (l0:List GVarDef):Option (List Str):=tO O 126 [(zq aC l0)] [] fun r=>(cO r,[])
noncomputable def aGH (d:GDoc) (l0:List GSel):Option (List Str):=tO O 127 [(eD d),(zq aG l0)] [] fun r=>(cO r,[])
noncomputable def aOb (l0:List Str):Option Bool:=tO O 50 [(zq PV.str l0)] [] fun r=>(aA r,[])
noncomputable def aHP (a:List Str) (b:List Str):Option Bool:=tO O 128 [(zq PV.str a),(zq PV.str b)] [] fun r=>(aA r,[])
noncomputable def aOc (s:GSchema) (name:Str):Option Bool:=tO O 129 [(eS s),(.str name)] [] fun r=>(aA r,[])
noncomputable def aI0 (s:GSchema) (name:Str):Option (List Str):=tO O 166 [(eS s),(.str name)] [] fun r=>(eZ r,[])
noncomputable def aBi (l0:List Str) (s:Str):Option Bool:=tO O 29 [(zq PV.str l0),(.str s)] [] fun r=>(aA r,[])
noncomputable def aGI (l0:List GSel):Option (List Str):=tO O 182 [(zq aG l0)] [] fun r=>(eZ r,[])
def wF:(GFrag×Bool)→PV:=fun r => .tuple [aH r.1,PV.bool r.2]
theorem aQO (a b:GFrag×Bool) (h:wF a=wF b):a=b:=by
 simp only [wF,PV.tuple.injEq,List.cons.injEq,and_true] at h
 exact Prod.ext (bAq _ _ h.1) (Ev.bool_inj _ _ h.2)
noncomputable def aOd (d:GDoc) (name:Str):Option (GFrag×Bool):=tO O 113 [(eD d),(.str name)] [] fun r=>(wF r,[])
noncomputable def lP (l0:List GSel) (out0:List Str):Option (List Str):=tO O 183 [(zq aG l0),(zp PV.str out0)] [] fun r=>(eZ r,[])
noncomputable def rO (t:GType):Option Bool:=tO O 101 [(eT t)] [] fun r=>(aA r,[])
def aC7:(GType×Bool)→PV:=fun r => .tuple [kQ r.1,PV.bool r.2]
theorem bAu (a b:GType×Bool) (h:aC7 a=aC7 b):a=b:=by
 simp only [aC7,PV.tuple.injEq,List.cons.injEq,and_true] at h
 exact Prod.ext (bAp _ _ h.1) (Ev.bool_inj _ _ h.2)
noncomputable def aTK (t:GType):Option (GType×Bool):=tO O 224 [(eT t)] [] fun r=>(aC7 r,[])
def wG:(GDef×Bool)→PV:=fun r => .tuple [aM r.1,PV.bool r.2]
theorem aQP (a b:GDef×Bool) (h:wG a=wG b):a=b:=by
 simp only [wG,PV.tuple.injEq,List.cons.injEq,and_true] at h
 exact Prod.ext (bB4 _ _ h.1) (Ev.bool_inj _ _ h.2)
noncomputable def aAx (s:GSchema) (name:Str):Option (GDef×Bool):=tO O 164 [(eS s),(.str name)] [] fun r=>(wG r,[])
noncomputable def aC8 (s:GSchema) (l0:List GParam) (m:List GMember):Option Bool:=tO O 225 [(eS s),(zq aX l0),(zq aE m)] [] fun r=>(aA r,[])
noncomputable def aB4 (s:Str) (i:Int):Option Int:=tO O 250 [(.str s),(.int .i64 i)] [] fun r=>(dP r,[])
noncomputable def aTL (s:Str) (i:Int):Option (Int×Int):=tO O 251 [(.str s),(i6 i)] [] fun r=>(jM r,[])
noncomputable def aB5 (s:GSchema):Option Bool:=tO O 30 [(eS s)] [] fun r=>(aA r,[])
noncomputable def aB6 (d:GDoc):Option Bool:=tO O 31 [(eD d)] [] fun r=>(aA r,[])
def eF:(List Str)→PV:=fun r => .vec 1 (List.map PV.str r)
theorem qU (a b:List Str) (h:eF a=eF b):a=b:=Ev.vec_inj Ev.str_inj a b h
noncomputable def aB7 (sels:List GSel):Option (List Str):=tO O 80 [(.slice [] [] true),(zq aG sels)] [] fun r=>(eF r,[])
noncomputable def yT (d:GDoc) (l0:List GSel):Option (List Str):=tO O 28 [(eD d),(zq aG l0)] [] fun r=>(cO r,[])
def kW (v0:GVarDef) (u0_6:GOp) (u0_5:GDoc) (u0_4:GSchema):Bool→UP:=fun r=>[[(6,[(i6 u0_6.kind),(.str u0_6.name),(zq aC u0_6.vars),(zq aK u0_6.dirs),(zq aG u0_6.sels)]),(5,[(zq aT u0_5.ops),(zq aH u0_5.frags)]),(4,[(zq aM u0_4.defs),(.str u0_4.query),(.str u0_4.mutation)])]]
noncomputable def aEd (v0:GVarDef) (u0_6:GOp) (u0_5:GDoc) (u0_4:GSchema):Option Bool:=tO O 145 [(.agg [(.str v0.name),(.str v0.t.name),(i6 v0.t.lists),(i6 v0.t.musts),(.bool v0.has),(i6 v0.default.kind),(i6 v0.default.n),(.str v0.default.s),(zq aI v0.default.l),(zq aE v0.default.m)]),(.ptr 1 4 0)] [[(6,[(i6 u0_6.kind),(.str u0_6.name),(zq aC u0_6.vars),(zq aK u0_6.dirs),(zq aG u0_6.sels)]),(5,[(zq aT u0_5.ops),(zq aH u0_5.frags)]),(4,[(zq aM u0_4.defs),(.str u0_4.query),(.str u0_4.mutation)])]] fun r=>(aA r,(kW v0 u0_6 u0_5 u0_4 r))
def nP (s:List GVarDef) (u0_6:GOp) (u0_5:GDoc) (u0_4:GSchema):Int→UP:=fun r=>[[(6,[(i6 u0_6.kind),(.str u0_6.name),(zq aC u0_6.vars),(zq aK u0_6.dirs),(zq aG u0_6.sels)]),(5,[(zq aT u0_5.ops),(zq aH u0_5.frags)]),(4,[(zq aM u0_4.defs),(.str u0_4.query),(.str u0_4.mutation)])]]
noncomputable def aQQ (s:List GVarDef) (u0_6:GOp) (u0_5:GDoc) (u0_4:GSchema):Option Int:=tO O 204 [(zq aC s),(.func (.func 145) [] [(.ptr 1 4 0)])] [[(6,[(i6 u0_6.kind),(.str u0_6.name),(zq aC u0_6.vars),(zq aK u0_6.dirs),(zq aG u0_6.sels)]),(5,[(zq aT u0_5.ops),(zq aH u0_5.frags)]),(4,[(zq aM u0_4.defs),(.str u0_4.query),(.str u0_4.mutation)])]] fun r=>(dP r,(nP s u0_6 u0_5 u0_4 r))
def bP (s:List GVarDef) (u0_6:GOp) (u0_5:GDoc) (u0_4:GSchema):Bool→UP:=fun r=>[[(6,[(i6 u0_6.kind),(.str u0_6.name),(zq aC u0_6.vars),(zq aK u0_6.dirs),(zq aG u0_6.sels)]),(5,[(zq aT u0_5.ops),(zq aH u0_5.frags)]),(4,[(zq aM u0_4.defs),(.str u0_4.query),(.str u0_4.mutation)])]]
noncomputable def gI (s:List GVarDef) (u0_6:GOp) (u0_5:GDoc) (u0_4:GSchema):Option Bool:=tO O 144 [(zq aC s),(.func (.func 145) [] [(.ptr 1 4 0)])] [[(6,[(i6 u0_6.kind),(.str u0_6.name),(zq aC u0_6.vars),(zq aK u0_6.dirs),(zq aG u0_6.sels)]),(5,[(zq aT u0_5.ops),(zq aH u0_5.frags)]),(4,[(zq aM u0_4.defs),(.str u0_4.query),(.str u0_4.mutation)])]] fun r=>(aA r,(bP s u0_6 u0_5 u0_4 r))
def kX (name:Str) (u0_6:GOp) (u0_5:GDoc) (u0_4:GSchema):Bool→UP:=fun r=>[[(6,[(i6 u0_6.kind),(.str u0_6.name),(zq aC u0_6.vars),(zq aK u0_6.dirs),(zq aG u0_6.sels)]),(5,[(zq aT u0_5.ops),(zq aH u0_5.frags)]),(4,[(zq aM u0_4.defs),(.str u0_4.query),(.str u0_4.mutation)])]]
noncomputable def aEe (name:Str) (u0_6:GOp) (u0_5:GDoc) (u0_4:GSchema):Option Bool:=tO O 148 [(.str name),(.ptr 1 6 0)] [[(6,[(i6 u0_6.kind),(.str u0_6.name),(zq aC u0_6.vars),(zq aK u0_6.dirs),(zq aG u0_6.sels)]),(5,[(zq aT u0_5.ops),(zq aH u0_5.frags)]),(4,[(zq aM u0_4.defs),(.str u0_4.query),(.str u0_4.mutation)])]] fun r=>(aA r,(kX name u0_6 u0_5 u0_4 r))
def dB (s:List Str) (u0_6:GOp) (u0_5:GDoc) (u0_4:GSchema):Int→UP:=fun r=>[[(6,[(i6 u0_6.kind),(.str u0_6.name),(zq aC u0_6.vars),(zq aK u0_6.dirs),(zq aG u0_6.sels)]),(5,[(zq aT u0_5.ops),(zq aH u0_5.frags)]),(4,[(zq aM u0_4.defs),(.str u0_4.query),(.str u0_4.mutation)])]]
noncomputable def aBj (s:List Str) (u0_6:GOp) (u0_5:GDoc) (u0_4:GSchema):Option Int:=tO O 205 [(zq PV.str s),(.func (.func 148) [] [(.ptr 1 6 0)])] [[(6,[(i6 u0_6.kind),(.str u0_6.name),(zq aC u0_6.vars),(zq aK u0_6.dirs),(zq aG u0_6.sels)]),(5,[(zq aT u0_5.ops),(zq aH u0_5.frags)]),(4,[(zq aM u0_4.defs),(.str u0_4.query),(.str u0_4.mutation)])]] fun r=>(dP r,(dB s u0_6 u0_5 u0_4 r))
def aU (s:List Str) (u0_6:GOp) (u0_5:GDoc) (u0_4:GSchema):Bool→UP:=fun r=>[[(6,[(i6 u0_6.kind),(.str u0_6.name),(zq aC u0_6.vars),(zq aK u0_6.dirs),(zq aG u0_6.sels)]),(5,[(zq aT u0_5.ops),(zq aH u0_5.frags)]),(4,[(zq aM u0_4.defs),(.str u0_4.query),(.str u0_4.mutation)])]]
noncomputable def dG (s:List Str) (u0_6:GOp) (u0_5:GDoc) (u0_4:GSchema):Option Bool:=tO O 147 [(zq PV.str s),(.func (.func 148) [] [(.ptr 1 6 0)])] [[(6,[(i6 u0_6.kind),(.str u0_6.name),(zq aC u0_6.vars),(zq aK u0_6.dirs),(zq aG u0_6.sels)]),(5,[(zq aT u0_5.ops),(zq aH u0_5.frags)]),(4,[(zq aM u0_4.defs),(.str u0_4.query),(.str u0_4.mutation)])]] fun r=>(aA r,(aU s u0_6 u0_5 u0_4 r))
def kY (v0:GVarDef) (u0_9:List Str) (u0_6:GOp) (u0_5:GDoc) (u0_4:GSchema):Bool→UP:=fun r=>[[(9,[(zq PV.str u0_9)]),(6,[(i6 u0_6.kind),(.str u0_6.name),(zq aC u0_6.vars),(zq aK u0_6.dirs),(zq aG u0_6.sels)]),(5,[(zq aT u0_5.ops),(zq aH u0_5.frags)]),(4,[(zq aM u0_4.defs),(.str u0_4.query),(.str u0_4.mutation)])]]
noncomputable def aEf (v0:GVarDef) (u0_9:List Str) (u0_6:GOp) (u0_5:GDoc) (u0_4:GSchema):Option Bool:=tO O 150 [(.agg [(.str v0.name),(.str v0.t.name),(i6 v0.t.lists),(i6 v0.t.musts),(.bool v0.has),(i6 v0.default.kind),(i6 v0.default.n),(.str v0.default.s),(zq aI v0.default.l),(zq aE v0.default.m)]),(.ptr 1 9 0)] [[(9,[(zq PV.str u0_9)]),(6,[(i6 u0_6.kind),(.str u0_6.name),(zq aC u0_6.vars),(zq aK u0_6.dirs),(zq aG u0_6.sels)]),(5,[(zq aT u0_5.ops),(zq aH u0_5.frags)]),(4,[(zq aM u0_4.defs),(.str u0_4.query),(.str u0_4.mutation)])]] fun r=>(aA r,(kY v0 u0_9 u0_6 u0_5 u0_4 r))
def gV (s:List GVarDef) (u0_9:List Str) (u0_6:GOp) (u0_5:GDoc) (u0_4:GSchema):Int→UP:=fun r=>[[(9,[(zq PV.str u0_9)]),(6,[(i6 u0_6.kind),(.str u0_6.name),(zq aC u0_6.vars),(zq aK u0_6.dirs),(zq aG u0_6.sels)]),(5,[(zq aT u0_5.ops),(zq aH u0_5.frags)]),(4,[(zq aM u0_4.defs),(.str u0_4.query),(.str u0_4.mutation)])]]
noncomputable def aHQ (s:List GVarDef) (u0_9:List Str) (u0_6:GOp) (u0_5:GDoc) (u0_4:GSchema):Option Int:=tO O 204 [(zq aC s),(.func (.func 150) [] [(.ptr 1 9 0)])] [[(9,[(zq PV.str u0_9)]),(6,[(i6 u0_6.kind),(.str u0_6.name),(zq aC u0_6.vars),(zq aK u0_6.dirs),(zq aG u0_6.sels)]),(5,[(zq aT u0_5.ops),(zq aH u0_5.frags)]),(4,[(zq aM u0_4.defs),(.str u0_4.query),(.str u0_4.mutation)])]] fun r=>(dP r,(gV s u0_9 u0_6 u0_5 u0_4 r))
def bD (s:List GVarDef) (u0_9:List Str) (u0_6:GOp) (u0_5:GDoc) (u0_4:GSchema):Bool→UP:=fun r=>[[(9,[(zq PV.str u0_9)]),(6,[(i6 u0_6.kind),(.str u0_6.name),(zq aC u0_6.vars),(zq aK u0_6.dirs),(zq aG u0_6.sels)]),(5,[(zq aT u0_5.ops),(zq aH u0_5.frags)]),(4,[(zq aM u0_4.defs),(.str u0_4.query),(.str u0_4.mutation)])]]
noncomputable def fB (s:List GVarDef) (u0_9:List Str) (u0_6:GOp) (u0_5:GDoc) (u0_4:GSchema):Option Bool:=tO O 144 [(zq aC s),(.func (.func 150) [] [(.ptr 1 9 0)])] [[(9,[(zq PV.str u0_9)]),(6,[(i6 u0_6.kind),(.str u0_6.name),(zq aC u0_6.vars),(zq aK u0_6.dirs),(zq aG u0_6.sels)]),(5,[(zq aT u0_5.ops),(zq aH u0_5.frags)]),(4,[(zq aM u0_4.defs),(.str u0_4.query),(.str u0_4.mutation)])]] fun r=>(aA r,(bD s u0_9 u0_6 u0_5 u0_4 r))
noncomputable def aJ2 (s:GSchema) (d:GDoc) (o:GOp) (n:Int):Option Bool:=tO O 79 [(eS s),(eD d),(.agg [(i6 o.kind),(.str o.name),(zq aC o.vars),(zq aK o.dirs),(zq aG o.sels)]),(i6 n)] [] fun r=>(aA r,[])
noncomputable def aJ3 (s:GSchema) (typ:Str) (x:GSel):Option Str:=tO O 184 [(eS s),(.str typ),(eL x)] [] fun r=>(aAw r,[])
noncomputable def qE (l0:List GSel) (out0:List Str):Option (List Str):=tO O 189 [(zq aG l0),(zp PV.str out0)] [] fun r=>(eZ r,[])
noncomputable def aJ4 (l0:List Str):Option (List Str):=tO O 190 [(zq PV.str l0)] [] fun r=>(cO r,[])
noncomputable def bAv (s:GSchema) (name:Str) (a:Int) (b:Int) (c:Int):Option Bool:=tO O 159 [(eS s),(.str name),(i6 a),(i6 b),(i6 c)] [] fun r=>(aA r,[])
noncomputable def aTM (s:Str):Option Bool:=tO O 98 [(.str s)] [] fun r=>(aA r,[])
noncomputable def aJ5 (name:Str):Option Bool:=tO O 156 [(.str name)] [] fun r=>(aA r,[])
def yU:(GParam×Bool)→PV:=fun r => .tuple [aX r.1,PV.bool r.2]
theorem aXS (a b:GParam×Bool) (h:yU a=yU b):a=b:=by
 simp only [yU,PV.tuple.injEq,List.cons.injEq,and_true] at h
 exact Prod.ext (aGE _ _ h.1) (Ev.bool_inj _ _ h.2)
noncomputable def aOe (l0:List GParam) (name:Str):Option (GParam×Bool):=tO O 193 [(zq aX l0),(.str name)] [] fun r=>(yU r,[])
def aGJ:(GValue×Bool)→PV:=fun r => .tuple [aI r.1,PV.bool r.2]
theorem bB6 (a b:GValue×Bool) (h:aGJ a=aGJ b):a=b:=by
 simp only [aGJ,PV.tuple.injEq,List.cons.injEq,and_true] at h
 exact Prod.ext (yQ _ _ h.1) (Ev.bool_inj _ _ h.2)
noncomputable def aWs (name:Str) (l0:List GMember):Option (GValue×Bool):=tO O 219 [(.str name),(zq aE l0)] [] fun r=>(aGJ r,[])
noncomputable def bEf (t:GType):Option Bool:=tO O 195 [(eT t)] [] fun r=>(aA r,[])
noncomputable def aI1 (c:Int):Option Bool:=tO O 170 [(.int .u8 c)] [] fun r=>(aA r,[])
noncomputable def aGK (l0:List Str) (args:List GMember):Option (List Str):=tO O 151 [(.vec 1 (List.map PV.str l0)),(zq aE args)] [] fun r=>(eF r,[])
noncomputable def iO (l0:List Str) (sels:List GSel):Option (List Str):=tO O 80 [(.vec 1 (List.map PV.str l0)),(zq aG sels)] [] fun r=>(eF r,[])
noncomputable def aAy (d:GDoc) (l0:List GSel):Option (List Str):=tO O 81 [(eD d),(zq aG l0)] [] fun r=>(cO r,[])
def jN (f:GFrag) (u0_4:Str) (u0_40:Str) (u0_3:Str) (u0_2:GDoc):Bool→UP:=fun r=>[[(4,[(.str u0_4),(.str u0_40),(.slice [] [] true),(.slice [] [] true)]),(3,[(.str u0_3)]),(2,[(zq aT u0_2.ops),(zq aH u0_2.frags)])]]
noncomputable def aB8 (f:GFrag) (u0_4:Str) (u0_40:Str) (u0_3:Str) (u0_2:GDoc):Option Bool:=tO O 154 [(.agg [(.str f.name),(.str f.on_),(zq aK f.dirs),(zq aG f.sels)]),(.ptr 1 3 0)] [[(4,[(.str u0_4),(.str u0_40),(.slice [] [] true),(.slice [] [] true)]),(3,[(.str u0_3)]),(2,[(zq aT u0_2.ops),(zq aH u0_2.frags)])]] fun r=>(aA r,(jN f u0_4 u0_40 u0_3 u0_2 r))
def wH (s:List GFrag) (u0_4:Str) (u0_40:Str) (u0_3:Str) (u0_2:GDoc):Int→UP:=fun r=>[[(4,[(.str u0_4),(.str u0_40),(.slice [] [] true),(.slice [] [] true)]),(3,[(.str u0_3)]),(2,[(zq aT u0_2.ops),(zq aH u0_2.frags)])]]
noncomputable def aOf (s:List GFrag) (u0_4:Str) (u0_40:Str) (u0_3:Str) (u0_2:GDoc):Option Int:=tO O 153 [(zq aH s),(.func (.func 154) [] [(.ptr 1 3 0)])] [[(4,[(.str u0_4),(.str u0_40),(.slice [] [] true),(.slice [] [] true)]),(3,[(.str u0_3)]),(2,[(zq aT u0_2.ops),(zq aH u0_2.frags)])]] fun r=>(dP r,(wH s u0_4 u0_40 u0_3 u0_2 r))
noncomputable def aC9 (d:GDoc) (name:Str):Option (GFrag×Bool):=tO O 82 [(eD d),(.str name)] [] fun r=>(wF r,[])
def kZ (x:GVarDef) (u0_4:GVarDef) (u0_1:GOp):Bool→UP:=fun r=>[[(4,[(.str u0_4.name),(.str u0_4.t.name),(i6 u0_4.t.lists),(i6 u0_4.t.musts),(.bool u0_4.has),(i6 u0_4.default.kind),(i6 u0_4.default.n),(.str u0_4.default.s),(zq aI u0_4.default.l),(zq aE u0_4.default.m)]),(1,[(i6 u0_1.kind),(.str u0_1.name),(zq aC u0_1.vars),(zq aK u0_1.dirs),(zq aG u0_1.sels)])]]
noncomputable def aEg (x:GVarDef) (u0_4:GVarDef) (u0_1:GOp):Option Bool:=tO O 203 [(.agg [(.str x.name),(.str x.t.name),(i6 x.t.lists),(i6 x.t.musts),(.bool x.has),(i6 x.default.kind),(i6 x.default.n),(.str x.default.s),(zq aI x.default.l),(zq aE x.default.m)]),(.ptr 1 4 0)] [[(4,[(.str u0_4.name),(.str u0_4.t.name),(i6 u0_4.t.lists),(i6 u0_4.t.musts),(.bool u0_4.has),(i6 u0_4.default.kind),(i6 u0_4.default.n),(.str u0_4.default.s),(zq aI u0_4.default.l),(zq aE u0_4.default.m)]),(1,[(i6 u0_1.kind),(.str u0_1.name),(zq aC u0_1.vars),(zq aK u0_1.dirs),(zq aG u0_1.sels)])]] fun r=>(aA r,(kZ x u0_4 u0_1 r))
def gW (s:List GVarDef) (u0_4:GVarDef) (u0_1:GOp):Int→UP:=fun r=>[[(4,[(.str u0_4.name),(.str u0_4.t.name),(i6 u0_4.t.lists),(i6 u0_4.t.musts),(.bool u0_4.has),(i6 u0_4.default.kind),(i6 u0_4.default.n),(.str u0_4.default.s),(zq aI u0_4.default.l),(zq aE u0_4.default.m)]),(1,[(i6 u0_1.kind),(.str u0_1.name),(zq aC u0_1.vars),(zq aK u0_1.dirs),(zq aG u0_1.sels)])]]
noncomputable def aHR (s:List GVarDef) (u0_4:GVarDef) (u0_1:GOp):Option Int:=tO O 204 [(zq aC s),(.func (.func 203) [] [(.ptr 1 4 0)])] [[(4,[(.str u0_4.name),(.str u0_4.t.name),(i6 u0_4.t.lists),(i6 u0_4.t.musts),(.bool u0_4.has),(i6 u0_4.default.kind),(i6 u0_4.default.n),(.str u0_4.default.s),(zq aI u0_4.default.l),(zq aE u0_4.default.m)]),(1,[(i6 u0_1.kind),(.str u0_1.name),(zq aC u0_1.vars),(zq aK u0_1.dirs),(zq aG u0_1.sels)])]] fun r=>(dP r,(gW s u0_4 u0_1 r))
def bE (s:List GVarDef) (u0_4:GVarDef) (u0_1:GOp):Bool→UP:=fun r=>[[(4,[(.str u0_4.name),(.str u0_4.t.name),(i6 u0_4.t.lists),(i6 u0_4.t.musts),(.bool u0_4.has),(i6 u0_4.default.kind),(i6 u0_4.default.n),(.str u0_4.default.s),(zq aI u0_4.default.l),(zq aE u0_4.default.m)]),(1,[(i6 u0_1.kind),(.str u0_1.name),(zq aC u0_1.vars),(zq aK u0_1.dirs),(zq aG u0_1.sels)])]]
noncomputable def fC (s:List GVarDef) (u0_4:GVarDef) (u0_1:GOp):Option Bool:=tO O 144 [(zq aC s),(.func (.func 203) [] [(.ptr 1 4 0)])] [[(4,[(.str u0_4.name),(.str u0_4.t.name),(i6 u0_4.t.lists),(i6 u0_4.t.musts),(.bool u0_4.has),(i6 u0_4.default.kind),(i6 u0_4.default.n),(.str u0_4.default.s),(zq aI u0_4.default.l),(zq aE u0_4.default.m)]),(1,[(i6 u0_1.kind),(.str u0_1.name),(zq aC u0_1.vars),(zq aK u0_1.dirs),(zq aG u0_1.sels)])]] fun r=>(aA r,(bE s u0_4 u0_1 r))
noncomputable def aJ6 (o:GOp):Option Bool:=tO O 143 [(.agg [(i6 o.kind),(.str o.name),(zq aC o.vars),(zq aK o.dirs),(zq aG o.sels)])] [] fun r=>(aA r,[])
noncomputable def aOg (s:GSchema) (name:Str):Option Bool:=tO O 146 [(eS s),(.str name)] [] fun r=>(aA r,[])
def mY (v0:GVarDef) (u0_4:Str) (u0_40:Str) (u0_400:Int) (u0_4000:Int) (u0_40000:Bool) (u0_400000:Int) (u0_4000000:Int) (u0_40000000:Str) (u0_3:Str) (u0_2:GOp):Bool→UP:=fun r=>[[(4,[(.str u0_4),(.str u0_40),(i6 u0_400),(i6 u0_4000),(.bool u0_40000),(i6 u0_400000),(i6 u0_4000000),(.str u0_40000000),(.slice [] [] true),(.slice [] [] true)]),(3,[(.str u0_3)]),(2,[(i6 u0_2.kind),(.str u0_2.name),(zq aC u0_2.vars),(zq aK u0_2.dirs),(zq aG u0_2.sels)])]]
noncomputable def aGL (v0:GVarDef) (u0_4:Str) (u0_40:Str) (u0_400:Int) (u0_4000:Int) (u0_40000:Bool) (u0_400000:Int) (u0_4000000:Int) (u0_40000000:Str) (u0_3:Str) (u0_2:GOp):Option Bool:=tO O 206 [(.agg [(.str v0.name),(.str v0.t.name),(i6 v0.t.lists),(i6 v0.t.musts),(.bool v0.has),(i6 v0.default.kind),(i6 v0.default.n),(.str v0.default.s),(zq aI v0.default.l),(zq aE v0.default.m)]),(.ptr 1 3 0)] [[(4,[(.str u0_4),(.str u0_40),(i6 u0_400),(i6 u0_4000),(.bool u0_40000),(i6 u0_400000),(i6 u0_4000000),(.str u0_40000000),(.slice [] [] true),(.slice [] [] true)]),(3,[(.str u0_3)]),(2,[(i6 u0_2.kind),(.str u0_2.name),(zq aC u0_2.vars),(zq aK u0_2.dirs),(zq aG u0_2.sels)])]] fun r=>(aA r,(mY v0 u0_4 u0_40 u0_400 u0_4000 u0_40000 u0_400000 u0_4000000 u0_40000000 u0_3 u0_2 r))
def gX (s:List GVarDef) (u0_4:Str) (u0_40:Str) (u0_400:Int) (u0_4000:Int) (u0_40000:Bool) (u0_400000:Int) (u0_4000000:Int) (u0_40000000:Str) (u0_3:Str) (u0_2:GOp):Int→UP:=fun r=>[[(4,[(.str u0_4),(.str u0_40),(i6 u0_400),(i6 u0_4000),(.bool u0_40000),(i6 u0_400000),(i6 u0_4000000),(.str u0_40000000),(.slice [] [] true),(.slice [] [] true)]),(3,[(.str u0_3)]),(2,[(i6 u0_2.kind),(.str u0_2.name),(zq aC u0_2.vars),(zq aK u0_2.dirs),(zq aG u0_2.sels)])]]
noncomputable def aB9 (s:List GVarDef) (u0_4:Str) (u0_40:Str) (u0_400:Int) (u0_4000:Int) (u0_40000:Bool) (u0_400000:Int) (u0_4000000:Int) (u0_40000000:Str) (u0_3:Str) (u0_2:GOp):Option Int:=tO O 204 [(zq aC s),(.func (.func 206) [] [(.ptr 1 3 0)])] [[(4,[(.str u0_4),(.str u0_40),(i6 u0_400),(i6 u0_4000),(.bool u0_40000),(i6 u0_400000),(i6 u0_4000000),(.str u0_40000000),(.slice [] [] true),(.slice [] [] true)]),(3,[(.str u0_3)]),(2,[(i6 u0_2.kind),(.str u0_2.name),(zq aC u0_2.vars),(zq aK u0_2.dirs),(zq aG u0_2.sels)])]] fun r=>(dP r,(gX s u0_4 u0_40 u0_400 u0_4000 u0_40000 u0_400000 u0_4000000 u0_40000000 u0_3 u0_2 r))
def yV:(GVarDef×Bool)→PV:=fun r => .tuple [aC r.1,PV.bool r.2]
theorem aXT (a b:GVarDef×Bool) (h:yV a=yV b):a=b:=by
 simp only [yV,PV.tuple.injEq,List.cons.injEq,and_true] at h
 exact Prod.ext (aTI _ _ h.1) (Ev.bool_inj _ _ h.2)
noncomputable def aOh (o:GOp) (name:Str):Option (GVarDef×Bool):=tO O 149 [(.agg [(i6 o.kind),(.str o.name),(zq aC o.vars),(zq aK o.dirs),(zq aG o.sels)]),(.str name)] [] fun r=>(yV r,[])
noncomputable def bL (s:List Str) (v0:Str):Option Bool:=tO O 136 [(zq PV.str s),(.str v0)] [] fun r=>(aA r,[])
noncomputable def aCa (s:GSchema) (name:Str):Option Bool:=tO O 112 [(eS s),(.str name)] [] fun r=>(aA r,[])
def yW:(GFieldDef×Bool)→PV:=fun r => .tuple [bO r.1,PV.bool r.2]
theorem aXU (a b:GFieldDef×Bool) (h:yW a=yW b):a=b:=by
 simp only [yW,PV.tuple.injEq,List.cons.injEq,and_true] at h
 exact Prod.ext (aFG _ _ h.1) (Ev.bool_inj _ _ h.2)
noncomputable def aOi (s:GSchema) (typ:Str) (name:Str):Option (GFieldDef×Bool):=tO O 117 [(eS s),(.str typ),(.str name)] [] fun r=>(yW r,[])
noncomputable def aOj (m:List GMember) (out0:List Str):Option (List Str):=tO O 220 [(zq aE m),(zp PV.str out0)] [] fun r=>(eZ r,[])
noncomputable def aI2 (c:Int):Option Bool:=tO O 169 [(.int .u8 c)] [] fun r=>(aA r,[])
noncomputable def aGM (v0:GValue):Option (List Str):=tO O 207 [(eV v0)] [] fun r=>(cO r,[])
noncomputable def aEh (l0:List Str) (name:Str):Option (List Str):=tO O 208 [(.vec 1 (List.map PV.str l0)),(.str name)] [] fun r=>(eF r,[])
noncomputable def aAz (d:GDoc) (sels:List GSel):Option (List Str):=tO O 152 [(eD d),(zq aG sels)] [] fun r=>(cO r,[])
noncomputable def aTN (s:GSchema) (name:Str) (kinds:List Int):Option Bool:=tO O 201 [(eS s),(.str name),(.slice (List.map (PV.int .i64) kinds) [] false)] [] fun r=>(aA r,[])
noncomputable def dV (s:List Str) (v0:Str):Option Int:=tO O 200 [(zq PV.str s),(.str v0)] [] fun r=>(dP r,[])
noncomputable def aTO (v0:GValue):Option (List Str):=tO O 214 [(eV v0)] [] fun r=>(cO r,[])
noncomputable def yX (l0:List Str) (v0:GValue):Option (List Str):=tO O 230 [(zp PV.str l0),(eV v0)] [] fun r=>(eZ r,[])
noncomputable def eG (l0:List Str) (sels:List GSel):Option (List Str):=tO O 69 [(zp PV.str l0),(zq aG sels)] [] fun r=>(eZ r,[])
noncomputable def aTP (s:GSchema) (name:Str):Option (GDef×Bool):=tO O 178 [(eS s),(.str name)] [] fun r=>(wG r,[])
noncomputable def jO (s:List Int) (v0:Int):Option Bool:=tO O 228 [(.slice (List.map (PV.int .i64) s) [] false),(i6 v0)] [] fun r=>(aA r,[])
noncomputable def aJ7 (name:Str):Option Bool:=tO O 216 [(.str name)] [] fun r=>(aA r,[])
noncomputable def iM (s:List Int) (v0:Int):Option Int:=tO O 245 [(.slice (List.map (PV.int .i64) s) [] false),(i6 v0)] [] fun r=>(dP r,[])
theorem zes:(∀ r:Bool,aA r=PV.bool r) ∧
 (∀ r:(List GSeineref13Spot),yR r=(aJJ aL) r) ∧
 (∀ r:(List Str),cO r=(aJJ PV.str) r) ∧
 (∀ r:(List Str),eZ r = .slice (List.map PV.str r) [] true) ∧
 (∀ r:(Int×Int),jM r = .tuple [(PV.int .i64) r.1,(PV.int .i64) r.2]) ∧
 (∀ r:((List Int)×Bool),uM r = .tuple [(aJJ (PV.int .i64)) r.1,PV.bool r.2]) ∧
 (∀ r:Int,dP r=(PV.int .i64) r) ∧
 (∀ r:Str,aAw r=PV.str r) ∧
 (∀ r:(List GSeineref13Spot),aB3 r = .slice (List.map aL r) [] true) ∧
 (∀ r:(GFrag×Bool),wF r = .tuple [aH r.1,PV.bool r.2]) ∧
 (∀ r:(GType×Bool),aC7 r = .tuple [kQ r.1,PV.bool r.2]) ∧
 (∀ r:(GDef×Bool),wG r = .tuple [aM r.1,PV.bool r.2]) ∧
 (∀ r:(List Str),eF r = .vec 1 (List.map PV.str r)) ∧
 (∀ r:(GParam×Bool),yU r = .tuple [aX r.1,PV.bool r.2]) ∧
 (∀ r:(GValue×Bool),aGJ r = .tuple [aI r.1,PV.bool r.2]) ∧
 (∀ r:(GVarDef×Bool),yV r = .tuple [aC r.1,PV.bool r.2]) ∧
 (∀ r:(GFieldDef×Bool),yW r = .tuple [bO r.1,PV.bool r.2]) :=
 ⟨fun _=>rfl,fun _=>rfl,fun _=>rfl,fun _=>rfl,fun _=>rfl,fun _=>rfl,fun _=>rfl,fun _=>rfl,fun _=>rfl,fun _=>rfl,fun _=>rfl,fun _=>rfl,fun _=>rfl,fun _=>rfl,fun _=>rfl,fun _=>rfl,fun _=>rfl⟩
def aCb (x:GType):Nat:=(dW x.name+(bk1 x.lists+(bk1 x.musts+(0))))+1
def aDI (x:GType):Prop:=gd1 x.name∧((gdI .i64) x.lists∧((gdI .i64) x.musts∧(True)))
theorem mI (x:GType):aCb x=(dW x.name+(bk1 x.lists+(bk1 x.musts+(0))))+1:=rfl
theorem bAw (x:GType):aDI x=(gd1 x.name∧((gdI .i64) x.lists∧((gdI .i64) x.musts∧(True)))):=rfl
mutual
def cJ:GValue→Nat
 | ⟨x0,x1,x2,x3,x4⟩=>(bk1 x0+(bk1 x1+(dW x2+((tE x3+1)+((oS x4+1)+(0))))))+1
def aZ:GMember→Nat
 | ⟨x0,x1⟩=>(dW x0+(cJ x1+(0)))+1
def tE:List GValue→Nat
 | []=>0
 | x::l=>cJ x+tE l
def oS:List GMember→Nat
 | []=>0
 | x::l=>aZ x+oS l
end
mutual
def sK:GValue→Prop
 | ⟨x0,x1,x2,x3,x4⟩=>(gdI .i64) x0∧((gdI .i64) x1∧(gd1 x2∧(aFI x3∧(aCc x4∧(True)))))
def qV:GMember→Prop
 | ⟨x0,x1⟩=>gd1 x0∧(sK x1∧(True))
def aFI:List GValue→Prop
 | []=>True
 | x::l=>sK x∧aFI l
def aCc:List GMember→Prop
 | []=>True
 | x::l=>qV x∧aCc l
end
theorem aAA:∀ (l:List GValue),tE l=sumL cJ l
 | []=>by simp only [tE,sumL]
 | x::l=>by simp only [tE,sumL,aAA l]
theorem aEi:∀ (l:List GValue),aFI l=gdSl sK l
 | []=>by simp [aFI,gdSl]
 | x::l=>by simp [aFI,gdSl,aEi l]
theorem gY:∀ (l:List GMember),oS l=sumL aZ l
 | []=>by simp only [oS,sumL]
 | x::l=>by simp only [oS,sumL,gY l]
theorem aCd:∀ (l:List GMember),aCc l=gdSl qV l
 | []=>by simp [aCc,gdSl]
 | x::l=>by simp [aCc,gdSl,aCd l]
theorem cK (x:GValue):cJ x=(bk1 x.kind+(bk1 x.n+(dW x.s+((bkSl cJ) x.l+((bkSl aZ) x.m+(0))))))+1:=by
 cases x;simp only [cJ,bkSl,aAA,gY]
theorem aXV (x:GValue):sK x=((gdI .i64) x.kind∧((gdI .i64) x.n∧(gd1 x.s∧((gdSl sK) x.l∧((gdSl qV) x.m∧(True)))))):=by
 cases x;simp only [sK,aEi,aCd]
theorem cZ (x:GMember):aZ x=(dW x.name+(cJ x.v+(0)))+1:=by
 cases x;simp only [aZ,bkSl,aAA,gY]
theorem aTQ (x:GMember):qV x=(gd1 x.name∧(sK x.v∧(True))):=by
 cases x;simp only [qV,aEi,aCd]
def kH (x:GParam):Nat:=(dW x.name+(aCb x.t+(bk1 x.has+(cJ x.default+(0)))))+1
def aGN (x:GParam):Prop:=gd1 x.name∧(aDI x.t∧(gd1 x.has∧(sK x.default∧(True))))
theorem qF (x:GParam):kH x=(dW x.name+(aCb x.t+(bk1 x.has+(cJ x.default+(0)))))+1:=rfl
theorem aXW (x:GParam):aGN x=(gd1 x.name∧(aDI x.t∧(gd1 x.has∧(sK x.default∧(True))))):=rfl
def iX (x:GDir):Nat:=(dW x.name+((bkSl aZ) x.args+(0)))+1
def aLA (x:GDir):Prop:=gd1 x.name∧((gdSl qV) x.args∧(True))
theorem lQ (x:GDir):iX x=(dW x.name+((bkSl aZ) x.args+(0)))+1:=rfl
theorem bB7 (x:GDir):aLA x=(gd1 x.name∧((gdSl qV) x.args∧(True))):=rfl
def iP (x:GFieldDef):Nat:=(dW x.name+((bkSl kH) x.params+(aCb x.t+((bkSl iX) x.dirs+(0)))))+1
def aDa (x:GFieldDef):Prop:=gd1 x.name∧((gdSl aGN) x.params∧(aDI x.t∧((gdSl aLA) x.dirs∧(True))))
theorem lR (x:GFieldDef):iP x=(dW x.name+((bkSl kH) x.params+(aCb x.t+((bkSl iX) x.dirs+(0)))))+1:=rfl
theorem aOk (x:GFieldDef):aDa x=(gd1 x.name∧((gdSl aGN) x.params∧(aDI x.t∧((gdSl aLA) x.dirs∧(True))))):=rfl
def aJ8 (x:GDef):Nat:=(bk1 x.kind+(dW x.name+((bkSl dW) x.faces+((bkSl iP) x.fields+((bkSl dW) x.parts+((bkSl kH) x.params+(0)))))))+1
def bB8 (x:GDef):Prop:=(gdI .i64) x.kind∧(gd1 x.name∧((gdSl gd1) x.faces∧((gdSl aDa) x.fields∧((gdSl gd1) x.parts∧((gdSl aGN) x.params∧(True))))))
theorem oT (x:GDef):aJ8 x=(bk1 x.kind+(dW x.name+((bkSl dW) x.faces+((bkSl iP) x.fields+((bkSl dW) x.parts+((bkSl kH) x.params+(0)))))))+1:=rfl
theorem bB9 (x:GDef):bB8 x=((gdI .i64) x.kind∧(gd1 x.name∧((gdSl gd1) x.faces∧((gdSl aDa) x.fields∧((gdSl gd1) x.parts∧((gdSl aGN) x.params∧(True))))))):=rfl
def qW (x:GSchema):Nat:=((bkSl aJ8) x.defs+(dW x.query+(dW x.mutation+(0))))+1
def aOl (x:GSchema):Prop:=(gdSl bB8) x.defs∧(gd1 x.query∧(gd1 x.mutation∧(True)))
theorem qG (x:GSchema):qW x=((bkSl aJ8) x.defs+(dW x.query+(dW x.mutation+(0))))+1:=rfl
theorem aTR (x:GSchema):aOl x=((gdSl bB8) x.defs∧(gd1 x.query∧(gd1 x.mutation∧(True)))):=rfl
def tF (x:GVarDef):Nat:=(dW x.name+(aCb x.t+(bk1 x.has+(cJ x.default+(0)))))+1
def aI3 (x:GVarDef):Prop:=gd1 x.name∧(aDI x.t∧(gd1 x.has∧(sK x.default∧(True))))
theorem uO (x:GVarDef):tF x=(dW x.name+(aCb x.t+(bk1 x.has+(cJ x.default+(0)))))+1:=rfl
theorem aTS (x:GVarDef):aI3 x=(gd1 x.name∧(aDI x.t∧(gd1 x.has∧(sK x.default∧(True))))):=rfl
mutual
def iF:GSel→Nat
 | ⟨x0,x1,x2,x3,x4,x5,x6⟩=>(bk1 x0+(dW x1+(dW x2+((bkSl aZ) x3+((bkSl iX) x4+(dW x5+((bJ x6+1)+(0))))))))+1
def bJ:List GSel→Nat
 | []=>0
 | x::l=>iF x+bJ l
end
mutual
def aIe:GSel→Prop
 | ⟨x0,x1,x2,x3,x4,x5,x6⟩=>(gdI .i64) x0∧(gd1 x1∧(gd1 x2∧((gdSl qV) x3∧((gdSl aLA) x4∧(gd1 x5∧(aQR x6∧(True)))))))
def aQR:List GSel→Prop
 | []=>True
 | x::l=>aIe x∧aQR l
end
theorem dH:∀ (l:List GSel),bJ l=sumL iF l
 | []=>by simp only [bJ,sumL]
 | x::l=>by simp only [bJ,sumL,dH l]
theorem aQS:∀ (l:List GSel),aQR l=gdSl aIe l
 | []=>by simp [aQR,gdSl]
 | x::l=>by simp [aQR,gdSl,aQS l]
theorem gZ (x:GSel):iF x=(bk1 x.kind+(dW x.alias+(dW x.name+((bkSl aZ) x.args+((bkSl iX) x.dirs+(dW x.on_+((bkSl iF) x.sels+(0))))))))+1:=by
 cases x;simp only [iF,bkSl,dH]
theorem bCa (x:GSel):aIe x=((gdI .i64) x.kind∧(gd1 x.alias∧(gd1 x.name∧((gdSl qV) x.args∧((gdSl aLA) x.dirs∧(gd1 x.on_∧((gdSl aIe) x.sels∧(True)))))))):=by
 cases x;simp only [aIe,aQS]
def bkOp (x:GOp):Nat:=(bk1 x.kind+(dW x.name+((bkSl tF) x.vars+((bkSl iX) x.dirs+((bkSl iF) x.sels+(0))))))+1
def gdOp (x:GOp):Prop:=(gdI .i64) x.kind∧(gd1 x.name∧((gdSl aI3) x.vars∧((gdSl aLA) x.dirs∧((gdSl aIe) x.sels∧(True)))))
theorem aCe (x:GOp):bkOp x=(bk1 x.kind+(dW x.name+((bkSl tF) x.vars+((bkSl iX) x.dirs+((bkSl iF) x.sels+(0))))))+1:=rfl
theorem bEg (x:GOp):gdOp x=((gdI .i64) x.kind∧(gd1 x.name∧((gdSl aI3) x.vars∧((gdSl aLA) x.dirs∧((gdSl aIe) x.sels∧(True)))))):=rfl
def iK (x:GFrag):Nat:=(dW x.name+(dW x.on_+((bkSl iX) x.dirs+((bkSl iF) x.sels+(0)))))+1
def aWt (x:GFrag):Prop:=gd1 x.name∧(gd1 x.on_∧((gdSl aLA) x.dirs∧((gdSl aIe) x.sels∧(True))))
theorem mJ (x:GFrag):iK x=(dW x.name+(dW x.on_+((bkSl iX) x.dirs+((bkSl iF) x.sels+(0)))))+1:=rfl
theorem bAx (x:GFrag):aWt x=(gd1 x.name∧(gd1 x.on_∧((gdSl aLA) x.dirs∧((gdSl aIe) x.sels∧(True))))):=rfl
def mK (x:GDoc):Nat:=((bkSl bkOp) x.ops+((bkSl iK) x.frags+(0)))+1
def bEh (x:GDoc):Prop:=(gdSl gdOp) x.ops∧((gdSl aWt) x.frags∧(True))
theorem aFJ (x:GDoc):mK x=((bkSl bkOp) x.ops+((bkSl iK) x.frags+(0)))+1:=rfl
theorem bCb (x:GDoc):bEh x=((gdSl gdOp) x.ops∧((gdSl aWt) x.frags∧(True))):=rfl
def aBk (x:GSeineref13Spot):Nat:=(dW x.typ+(iF x.x+(0)))+1
def aBl (x:GSeineref13Spot):Prop:=gd1 x.typ∧(aIe x.x∧(True))
theorem aEj (x:GSeineref13Spot):aBk x=(dW x.typ+(iF x.x+(0)))+1:=rfl
theorem aEk (x:GSeineref13Spot):aBl x=(gd1 x.typ∧(aIe x.x∧(True))):=rfl
def bDB (x:GSpot):Nat:=(dW x.var+(aCb x.t+(bk1 x.has+(0))))+1
def bDC (x:GSpot):Prop:=gd1 x.var∧(aDI x.t∧(gd1 x.has∧(True)))
theorem bAy (x:GSpot):bDB x=(dW x.var+(aCb x.t+(bk1 x.has+(0))))+1:=rfl
theorem bAz (x:GSpot):bDC x=(gd1 x.var∧(aDI x.t∧(gd1 x.has∧(True)))):=rfl
def TS:Nat→TypeId
 | 0=>49
 | 1=>52
 | 2=>70
 | 3=>61
 | 4=>41
 | 5=>104
 | 6=>100
 | 7=>24
 | 8=>54
 | 9=>44
 | 10=>38
 | 11=>68
 | 12=>28
 | 13=>83
 | _=>140
def BS:Nat→Ty
 | 0=>(.fcons .str (.fcons (.int .i64) (.fcons (.int .i64) .fnil)))
 | 1=>(.fcons (.int .i64) (.fcons (.int .i64) (.fcons .str (.fcons (.sl (.ext 1)) (.fcons (.sl (.ext 2)) .fnil)))))
 | 2=>(.fcons .str (.fcons (.ext 1) .fnil))
 | 3=>(.fcons .str (.fcons (.ext 0) (.fcons .bool (.fcons (.ext 1) .fnil))))
 | 4=>(.fcons .str (.fcons (.sl (.ext 2)) .fnil))
 | 5=>(.fcons .str (.fcons (.sl (.ext 3)) (.fcons (.ext 0) (.fcons (.sl (.ext 4)) .fnil))))
 | 6=>(.fcons (.int .i64) (.fcons .str (.fcons (.sl .str) (.fcons (.sl (.ext 5)) (.fcons (.sl .str) (.fcons (.sl (.ext 3)) .fnil))))))
 | 7=>(.fcons (.sl (.ext 6)) (.fcons .str (.fcons .str .fnil)))
 | 8=>(.fcons .str (.fcons (.ext 0) (.fcons .bool (.fcons (.ext 1) .fnil))))
 | 9=>(.fcons (.int .i64) (.fcons .str (.fcons .str (.fcons (.sl (.ext 2)) (.fcons (.sl (.ext 4)) (.fcons .str (.fcons (.sl (.ext 9)) .fnil)))))))
 | 10=>(.fcons (.int .i64) (.fcons .str (.fcons (.sl (.ext 8)) (.fcons (.sl (.ext 4)) (.fcons (.sl (.ext 9)) .fnil)))))
 | 11=>(.fcons .str (.fcons .str (.fcons (.sl (.ext 4)) (.fcons (.sl (.ext 9)) .fnil))))
 | 12=>(.fcons (.sl (.ext 10)) (.fcons (.sl (.ext 11)) .fnil))
 | 13=>(.fcons .str (.fcons (.ext 9) .fnil))
 | _=>(.fcons .str (.fcons (.ext 0) (.fcons .bool .fnil)))
abbrev bEi:RecTy:=⟨GType,kQ,3,aCb,aDI,fun x=>uH _ (kB x) rfl rfl⟩
abbrev bCc:RecTy:=⟨GValue,aI,5,cJ,sK,fun x=>uH _ (fX x) rfl rfl⟩
abbrev bAA:RecTy:=⟨GMember,aE,6,aZ,qV,fun x=>uH _ (kR x) rfl rfl⟩
abbrev bCd:RecTy:=⟨GParam,aX,10,kH,aGN,fun x=>uH _ (kS x) rfl rfl⟩
abbrev bFn:RecTy:=⟨GDir,aK,2,iX,aLA,fun x=>uH _ (rJ x) rfl rfl⟩
abbrev aTT:RecTy:=⟨GFieldDef,bO,6,iP,aDa,fun x=>uH _ (fL x) rfl rfl⟩
abbrev bFo:RecTy:=⟨GDef,aM,6,aJ8,bB8,fun x=>uH _ (rK x) rfl rfl⟩
abbrev bAB:RecTy:=⟨GSchema,fG,3,qW,aOl,fun x=>uH _ (kT x) rfl rfl⟩
abbrev bAC:RecTy:=⟨GVarDef,aC,10,tF,aI3,fun x=>uH _ (iY x) rfl rfl⟩
abbrev bFp:RecTy:=⟨GSel,aG,7,iF,aIe,fun x=>uH _ (rL x) rfl rfl⟩
abbrev bFR:RecTy:=⟨GOp,aT,5,bkOp,gdOp,fun x=>uH _ (wD x) rfl rfl⟩
abbrev bEj:RecTy:=⟨GFrag,aH,4,iK,aWt,fun x=>uH _ (lN x) rfl rfl⟩
abbrev bFq:RecTy:=⟨GDoc,sW,2,mK,bEh,fun x=>uH _ (rM x) rfl rfl⟩
abbrev aGO:RecTy:=⟨GSeineref13Spot,aL,8,aBk,aBl,fun x=>uH _ (dM x) rfl rfl⟩
abbrev bEk:RecTy:=⟨GSpot,aGF,5,bDB,bDC,fun x=>uH _ (aC6 x) rfl rfl⟩
abbrev RS:REnv
 | 0=>bEi
 | 1=>bCc
 | 2=>bAA
 | 3=>bCd
 | 4=>bFn
 | 5=>aTT
 | 6=>bFo
 | 7=>bAB
 | 8=>bAC
 | 9=>bFp
 | 10=>bFR
 | 11=>bEj
 | 12=>bFq
 | 13=>aGO
 | _=>bEk
theorem hty:∀ i,∃ F,Tryz.prog.underlying (TS i)=some (.struct F)∧Tryz.prog.cellsOf (TS i)=(BS i).size RS∧flds RS Tryz.prog (tyOk RS TS Tryz.prog 9) F.toList 0 (BS i)=true
 | 0=>⟨_,Tryz.underlying49,by kernel_rfl,by kernel_rfl⟩
 | 1=>⟨_,Tryz.underlying52,by kernel_rfl,by kernel_rfl⟩
 | 2=>⟨_,Tryz.underlying70,by kernel_rfl,by kernel_rfl⟩
 | 3=>⟨_,Tryz.underlying61,by kernel_rfl,by kernel_rfl⟩
 | 4=>⟨_,Tryz.underlying41,by kernel_rfl,by kernel_rfl⟩
 | 5=>⟨_,Tryz.underlying104,by kernel_rfl,by kernel_rfl⟩
 | 6=>⟨_,Tryz.underlying100,by kernel_rfl,by kernel_rfl⟩
 | 7=>⟨_,Tryz.underlying24,by kernel_rfl,by kernel_rfl⟩
 | 8=>⟨_,Tryz.underlying54,by kernel_rfl,by kernel_rfl⟩
 | 9=>⟨_,Tryz.underlying44,by kernel_rfl,by kernel_rfl⟩
 | 10=>⟨_,Tryz.underlying38,by kernel_rfl,by kernel_rfl⟩
 | 11=>⟨_,Tryz.underlying68,by kernel_rfl,by kernel_rfl⟩
 | 12=>⟨_,Tryz.underlying28,by kernel_rfl,by kernel_rfl⟩
 | 13=>⟨_,Tryz.underlying83,by kernel_rfl,by kernel_rfl⟩
 | _+14=>⟨_,Tryz.underlying140,by kernel_rfl,by kernel_rfl⟩
theorem bFr (x0:Str) (x1:Int) (x2:Int):kQ ⟨x0,x1,x2⟩=(PV.agg ((PV.str x0).cells++(PV.agg (((PV.int .i64) x1).cells++(PV.agg (((PV.int .i64) x2).cells++(PV.agg []).cells)).cells)).cells)):=by
 simp only [tys,cells,List.cons_append,List.nil_append]
theorem bEl (x0:Int) (x1:Int) (x2:Str) (x3:List GValue) (x4:List GMember):aI ⟨x0,x1,x2,x3,x4⟩=(PV.agg (((PV.int .i64) x0).cells++(PV.agg (((PV.int .i64) x1).cells++(PV.agg ((PV.str x2).cells++(PV.agg ((PV.slice (List.map aI x3) [] false).cells++(PV.agg ((PV.slice (List.map aE x4) [] false).cells++(PV.agg []).cells)).cells)).cells)).cells)).cells)):=by
 simp only [tys,cells,List.cons_append,List.nil_append]
theorem bCe (x0:Str) (x1:GValue):aE ⟨x0,x1⟩=(PV.agg ((PV.str x0).cells++(PV.agg ((aI x1).cells++(PV.agg []).cells)).cells)):=by
 simp only [tys,cells,List.cons_append,List.nil_append]
theorem bEm (x0:Str) (x1:GType) (x2:Bool) (x3:GValue):aX ⟨x0,x1,x2,x3⟩=(PV.agg ((PV.str x0).cells++(PV.agg ((kQ x1).cells++(PV.agg ((PV.bool x2).cells++(PV.agg ((aI x3).cells++(PV.agg []).cells)).cells)).cells)).cells)):=by
 simp only [tys,cells,List.cons_append,List.nil_append]
theorem bFS (x0:Str) (x1:List GMember):aK ⟨x0,x1⟩=(PV.agg ((PV.str x0).cells++(PV.agg ((PV.slice (List.map aE x1) [] false).cells++(PV.agg []).cells)).cells)):=by
 simp only [tys,cells,List.cons_append,List.nil_append]
theorem aXX (x0:Str) (x1:List GParam) (x2:GType) (x3:List GDir):bO ⟨x0,x1,x2,x3⟩=(PV.agg ((PV.str x0).cells++(PV.agg ((PV.slice (List.map aX x1) [] false).cells++(PV.agg ((kQ x2).cells++(PV.agg ((PV.slice (List.map aK x3) [] false).cells++(PV.agg []).cells)).cells)).cells)).cells)):=by
 simp only [tys,cells,List.cons_append,List.nil_append]
theorem bFT (x0:Int) (x1:Str) (x2:List Str) (x3:List GFieldDef) (x4:List Str) (x5:List GParam):aM ⟨x0,x1,x2,x3,x4,x5⟩=(PV.agg (((PV.int .i64) x0).cells++(PV.agg ((PV.str x1).cells++(PV.agg ((PV.slice (List.map PV.str x2) [] false).cells++(PV.agg ((PV.slice (List.map bO x3) [] false).cells++(PV.agg ((PV.slice (List.map PV.str x4) [] false).cells++(PV.agg ((PV.slice (List.map aX x5) [] false).cells++(PV.agg []).cells)).cells)).cells)).cells)).cells)).cells)):=by
 simp only [tys,cells,List.cons_append,List.nil_append]
theorem bCf (x0:List GDef) (x1:Str) (x2:Str):fG ⟨x0,x1,x2⟩=(PV.agg ((PV.slice (List.map aM x0) [] false).cells++(PV.agg ((PV.str x1).cells++(PV.agg ((PV.str x2).cells++(PV.agg []).cells)).cells)).cells)):=by
 simp only [tys,cells,List.cons_append,List.nil_append]
theorem bCg (x0:Str) (x1:GType) (x2:Bool) (x3:GValue):aC ⟨x0,x1,x2,x3⟩=(PV.agg ((PV.str x0).cells++(PV.agg ((kQ x1).cells++(PV.agg ((PV.bool x2).cells++(PV.agg ((aI x3).cells++(PV.agg []).cells)).cells)).cells)).cells)):=by
 simp only [tys,cells,List.cons_append,List.nil_append]
theorem bFU (x0:Int) (x1:Str) (x2:Str) (x3:List GMember) (x4:List GDir) (x5:Str) (x6:List GSel):aG ⟨x0,x1,x2,x3,x4,x5,x6⟩=(PV.agg (((PV.int .i64) x0).cells++(PV.agg ((PV.str x1).cells++(PV.agg ((PV.str x2).cells++(PV.agg ((PV.slice (List.map aE x3) [] false).cells++(PV.agg ((PV.slice (List.map aK x4) [] false).cells++(PV.agg ((PV.str x5).cells++(PV.agg ((PV.slice (List.map aG x6) [] false).cells++(PV.agg []).cells)).cells)).cells)).cells)).cells)).cells)).cells)):=by
 simp only [tys,cells,List.cons_append,List.nil_append]
theorem cvOp (x0:Int) (x1:Str) (x2:List GVarDef) (x3:List GDir) (x4:List GSel):aT ⟨x0,x1,x2,x3,x4⟩=(PV.agg (((PV.int .i64) x0).cells++(PV.agg ((PV.str x1).cells++(PV.agg ((PV.slice (List.map aC x2) [] false).cells++(PV.agg ((PV.slice (List.map aK x3) [] false).cells++(PV.agg ((PV.slice (List.map aG x4) [] false).cells++(PV.agg []).cells)).cells)).cells)).cells)).cells)):=by
 simp only [tys,cells,List.cons_append,List.nil_append]
theorem bFs (x0:Str) (x1:Str) (x2:List GDir) (x3:List GSel):aH ⟨x0,x1,x2,x3⟩=(PV.agg ((PV.str x0).cells++(PV.agg ((PV.str x1).cells++(PV.agg ((PV.slice (List.map aK x2) [] false).cells++(PV.agg ((PV.slice (List.map aG x3) [] false).cells++(PV.agg []).cells)).cells)).cells)).cells)):=by
 simp only [tys,cells,List.cons_append,List.nil_append]
theorem bFV (x0:List GOp) (x1:List GFrag):sW ⟨x0,x1⟩=(PV.agg ((PV.slice (List.map aT x0) [] false).cells++(PV.agg ((PV.slice (List.map aH x1) [] false).cells++(PV.agg []).cells)).cells)):=by
 simp only [tys,cells,List.cons_append,List.nil_append]
theorem aIf (x0:Str) (x1:GSel):aL ⟨x0,x1⟩=(PV.agg ((PV.str x0).cells++(PV.agg ((aG x1).cells++(PV.agg []).cells)).cells)):=by
 simp only [tys,cells,List.cons_append,List.nil_append]
theorem bFt (x0:Str) (x1:GType) (x2:Bool):aGF ⟨x0,x1,x2⟩=(PV.agg ((PV.str x0).cells++(PV.agg ((kQ x1).cells++(PV.agg ((PV.bool x2).cells++(PV.agg []).cells)).cells)).cells)):=by
 simp only [tys,cells,List.cons_append,List.nil_append]
theorem hcv:∀ i (x:(BS i).den RS),∃ y:(RS i).D,(RS i).en y=enc RS (BS i) x∧(RS i).bk y≤bulk RS (BS i) x+1∧(good RS (BS i) x→(RS i).gd y)
 | 0,⟨x0,x1,x2,_⟩=>⟨(⟨x0,x1,x2⟩:GType),(bFr x0 x1 x2).trans rfl,Nat.le_of_eq ((mI _).trans rfl),fun h=>(bAw _).mpr h⟩
 | 1,⟨x0,x1,x2,x3,x4,_⟩=>⟨(⟨x0,x1,x2,x3,x4⟩:GValue),(bEl x0 x1 x2 x3 x4).trans rfl,Nat.le_of_eq ((cK _).trans rfl),fun h=>(aXV _).mpr h⟩
 | 2,⟨x0,x1,_⟩=>⟨(⟨x0,x1⟩:GMember),(bCe x0 x1).trans rfl,Nat.le_of_eq ((cZ _).trans rfl),fun h=>(aTQ _).mpr h⟩
 | 3,⟨x0,x1,x2,x3,_⟩=>⟨(⟨x0,x1,x2,x3⟩:GParam),(bEm x0 x1 x2 x3).trans rfl,Nat.le_of_eq ((qF _).trans rfl),fun h=>(aXW _).mpr h⟩
 | 4,⟨x0,x1,_⟩=>⟨(⟨x0,x1⟩:GDir),(bFS x0 x1).trans rfl,Nat.le_of_eq ((lQ _).trans rfl),fun h=>(bB7 _).mpr h⟩
 | 5,⟨x0,x1,x2,x3,_⟩=>⟨(⟨x0,x1,x2,x3⟩:GFieldDef),(aXX x0 x1 x2 x3).trans rfl,Nat.le_of_eq ((lR _).trans rfl),fun h=>(aOk _).mpr h⟩
 | 6,⟨x0,x1,x2,x3,x4,x5,_⟩=>⟨(⟨x0,x1,x2,x3,x4,x5⟩:GDef),(bFT x0 x1 x2 x3 x4 x5).trans rfl,Nat.le_of_eq ((oT _).trans rfl),fun h=>(bB9 _).mpr h⟩
 | 7,⟨x0,x1,x2,_⟩=>⟨(⟨x0,x1,x2⟩:GSchema),(bCf x0 x1 x2).trans rfl,Nat.le_of_eq ((qG _).trans rfl),fun h=>(aTR _).mpr h⟩
 | 8,⟨x0,x1,x2,x3,_⟩=>⟨(⟨x0,x1,x2,x3⟩:GVarDef),(bCg x0 x1 x2 x3).trans rfl,Nat.le_of_eq ((uO _).trans rfl),fun h=>(aTS _).mpr h⟩
 | 9,⟨x0,x1,x2,x3,x4,x5,x6,_⟩=>⟨(⟨x0,x1,x2,x3,x4,x5,x6⟩:GSel),(bFU x0 x1 x2 x3 x4 x5 x6).trans rfl,Nat.le_of_eq ((gZ _).trans rfl),fun h=>(bCa _).mpr h⟩
 | 10,⟨x0,x1,x2,x3,x4,_⟩=>⟨(⟨x0,x1,x2,x3,x4⟩:GOp),(cvOp x0 x1 x2 x3 x4).trans rfl,Nat.le_of_eq ((aCe _).trans rfl),fun h=>(bEg _).mpr h⟩
 | 11,⟨x0,x1,x2,x3,_⟩=>⟨(⟨x0,x1,x2,x3⟩:GFrag),(bFs x0 x1 x2 x3).trans rfl,Nat.le_of_eq ((mJ _).trans rfl),fun h=>(bAx _).mpr h⟩
 | 12,⟨x0,x1,_⟩=>⟨(⟨x0,x1⟩:GDoc),(bFV x0 x1).trans rfl,Nat.le_of_eq ((aFJ _).trans rfl),fun h=>(bCb _).mpr h⟩
 | 13,⟨x0,x1,_⟩=>⟨(⟨x0,x1⟩:GSeineref13Spot),(aIf x0 x1).trans rfl,Nat.le_of_eq ((aEj _).trans rfl),fun h=>(aEk _).mpr h⟩
 | _+14,⟨x0,x1,x2,_⟩=>⟨(⟨x0,x1,x2⟩:GSpot),(bFt x0 x1 x2).trans rfl,Nat.le_of_eq ((bAy _).trans rfl),fun h=>(bAz _).mpr h⟩
theorem rok {H:Type} (e:TypeId×Value→H) (W:World) {bl:DataW H→Nat} {bla:List (DataW H)→Nat} (hb:BlOk bl bla):ROk RS TS e Tryz.prog W bl where
 op:=bBU hb 9 BS hty hcv
 ag:=fun i=>match i with
  | 0=>fun x=>⟨_,kB x⟩
  | 1=>fun x=>⟨_,fX x⟩
  | 2=>fun x=>⟨_,kR x⟩
  | 3=>fun x=>⟨_,kS x⟩
  | 4=>fun x=>⟨_,rJ x⟩
  | 5=>fun x=>⟨_,fL x⟩
  | 6=>fun x=>⟨_,rK x⟩
  | 7=>fun x=>⟨_,kT x⟩
  | 8=>fun x=>⟨_,iY x⟩
  | 9=>fun x=>⟨_,rL x⟩
  | 10=>fun x=>⟨_,wD x⟩
  | 11=>fun x=>⟨_,lN x⟩
  | 12=>fun x=>⟨_,rM x⟩
  | 13=>fun x=>⟨_,dM x⟩
  | _+14=>fun x=>⟨_,aC6 x⟩
 st:=fun i=>(hty i).imp fun F h=>h.1
end Go.Proofs.YtphmfillajagdaaGreat

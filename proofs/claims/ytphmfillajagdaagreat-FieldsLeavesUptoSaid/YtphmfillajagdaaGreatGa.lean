import Derived.Test.YtphmfillajagdaaGreatEd
import Derived.Test.YtphmfillajagdaaGreatProg
import Derived.KernelRfl
import Derived.Test.YtphmfillajagdaaGreatEx
set_option linter.unusedVariables false
set_option linter.unusedSimpArgs false
set_option linter.unusedSimpArgs false
open Go Go.Ev Go.Ev.PV
namespace Go.Proofs.YtphmfillajagdaaGreat
structure GType where
 name:Str
 lists:Int
 musts:Int
mutual
structure GValue where
 kind:Int
 n:Int
 s:Str
 l:List GValue
 m:List GMember
structure GMember where
 name:Str
 v:GValue
end
structure GParam where
 name:Str
 t:GType
 has:Bool
 default:GValue
structure GDir where
 name:Str
 args:List GMember
structure GFieldDef where
 name:Str
 params:List GParam
 t:GType
 dirs:List GDir
structure GDef where
 kind:Int
 name:Str
 faces:List Str
 fields:List GFieldDef
 parts:List Str
 params:List GParam
structure GSchema where
 defs:List GDef
 query:Str
 mutation:Str
structure GVarDef where
 name:Str
 t:GType
 has:Bool
 default:GValue
structure GSel where
 kind:Int
 alias:Str
 name:Str
 args:List GMember
 dirs:List GDir
 on_:Str
 sels:List GSel
structure GOp where
 kind:Int
 name:Str
 vars:List GVarDef
 dirs:List GDir
 sels:List GSel
structure GFrag where
 name:Str
 on_:Str
 dirs:List GDir
 sels:List GSel
structure GDoc where
 ops:List GOp
 frags:List GFrag
structure GSeineref13Spot where
 typ:Str
 x:GSel
structure GSpot where
 var:Str
 t:GType
 has:Bool
def aR8:Sh := .agg [.str,n6,n6]
def mL:Sh := .agg [n6,n6,.str,sf,sf]
def dP:Sh := .agg [.str,n6,n6,.str,sf,sf]
def jR:Sh := .agg [.str,.str,n6,n6,.bool,n6,n6,.str,sf,sf]
def aTA:Sh := .agg [.str,sf]
def bG:Sh := .agg [.str,sf,.str,n6,n6,sf]
def mW:Sh := .agg [n6,.str,sf,sf,sf,sf]
def aR9:Sh := .agg [sf,.str,.str]
def aSa:Sh := .agg [.str,.str,n6,n6,.bool,n6,n6,.str,sf,sf]
def pW:Sh := .agg [n6,.str,.str,sf,sf,.str,sf]
def shOp:Sh := .agg [n6,.str,sf,sf,sf]
def jO:Sh := .agg [.str,.str,sf,sf]
def bBG:Sh := .agg [sf,sf]
def kH:Sh := .agg [.str,n6,.str,.str,sf,sf,.str,sf]
def aZV:Sh := .agg [.str,.str,n6,n6,.bool]
def iS (x:GType):PV := .agg [.str x.name,.int .i64 x.lists,.int .i64 x.musts]
theorem iH (x:GType):iS x = .agg [.str x.name,.int .i64 x.lists,.int .i64 x.musts]:=rfl
theorem aWb (x:GType):chk aR8 (iS x)=true:=by rw [iH];rfl
theorem aWc (a b:GType) (h:iS a=iS b):a=b:=by
 simp only [iH,PV.agg.injEq,List.cons.injEq,PV.slice.injEq,PV.str.injEq,PV.int.injEq,PV.bool.injEq,true_and,and_true] at h
 obtain ⟨a0,a1,a2⟩:=a
 obtain ⟨b0,b1,b2⟩:=b
 dsimp only at h
 have e0:=h.1
 have e1:=h.2.1
 have e2:=h.2.2
 subst e0 e1 e2
 rfl
mutual
def aN:GValue→PV
 | ⟨x0,x1,x2,x3,x4⟩ => .agg ([.int .i64 x0,.int .i64 x1,.str x2,.slice (jV x3) [] false,.slice (iI x4) [] false])
def aD:GMember→PV
 | ⟨x0,x1⟩ => .agg ([.str x0]++(aN x1).cells)
def jV:List GValue→List PV
 | []=>[]
 | x::l=>aN x::jV l
def iI:List GMember→List PV
 | []=>[]
 | x::l=>aD x::iI l
end
theorem yG:∀ (l:List GValue),jV l=List.map aN l
 | []=>by simp only [jV,List.map]
 | x::l=>by simp only [jV,List.map,yG l]
theorem vH:∀ (l:List GMember),iI l=List.map aD l
 | []=>by simp only [iI,List.map]
 | x::l=>by simp only [iI,List.map,vH l]
theorem eO (x:GValue):aN x = .agg [.int .i64 x.kind,.int .i64 x.n,.str x.s,.slice (List.map aN x.l) [] false,.slice (List.map aD x.m) [] false]:=by
 cases x;simp only [aN,cells,List.cons_append,List.nil_append,yG,vH]
theorem iT (x:GMember):aD x = .agg [.str x.name,.int .i64 x.v.kind,.int .i64 x.v.n,.str x.v.s,.slice (List.map aN x.v.l) [] false,.slice (List.map aD x.v.m) [] false]:=by
 cases x;simp only [aD,cells,List.cons_append,List.nil_append,yG,vH,eO]
theorem aAA (x:GValue):chk mL (aN x)=true:=by rw [eO];rfl
theorem fP (x:GMember):chk dP (aD x)=true:=by rw [iT];rfl
mutual
theorem qH:∀ (a b:GValue),aN a=aN b→a=b
 | ⟨a0,a1,a2,a3,a4⟩,⟨b0,b1,b2,b3,b4⟩,h=>by
  simp only [aN,PV.agg.injEq,List.cons.injEq,List.append_eq,PV.slice.injEq,PV.str.injEq,PV.int.injEq,PV.bool.injEq,true_and,and_true] at h
  have e0:=h.1
  have e1:=h.2.1
  have e2:=h.2.2.1
  have e3:=aG2 _ _ h.2.2.2.1
  have e4:=aE9 _ _ h.2.2.2.2
  subst e0 e1 e2 e3 e4
  rfl
theorem kN:∀ (a b:GMember),aD a=aD b→a=b
 | ⟨a0,a1⟩,⟨b0,b1⟩,h=>by
  simp only [aD,PV.agg.injEq,List.cons_append,List.nil_append,List.cons.injEq,PV.slice.injEq,PV.str.injEq,PV.int.injEq,PV.bool.injEq,true_and,and_true] at h
  have e0:=h.1
  have e1:=qH a1 b1 (by
   have h':=h.2
   cases a1;cases b1;simp only [aN,cells] at h' ⊢;rw [h'])
  subst e0 e1
  rfl
theorem aG2:∀ (a b:List GValue),jV a=jV b→a=b
 | [],[],_=>rfl
 | [],_::_,h=>by simp [jV] at h
 | _::_,[],h=>by simp [jV] at h
 | x::l,y::m,h=>by
  simp only [jV,List.cons.injEq] at h
  rw [qH x y h.1,aG2 l m h.2]
theorem aE9:∀ (a b:List GMember),iI a=iI b→a=b
 | [],[],_=>rfl
 | [],_::_,h=>by simp [iI] at h
 | _::_,[],h=>by simp [iI] at h
 | x::l,y::m,h=>by
  simp only [iI,List.cons.injEq] at h
  rw [kN x y h.1,aE9 l m h.2]
end
def aQ (x:GParam):PV := .agg [.str x.name,.str x.t.name,.int .i64 x.t.lists,.int .i64 x.t.musts,.bool x.has,.int .i64 x.default.kind,.int .i64 x.default.n,.str x.default.s,.slice (List.map aN x.default.l) [] false,.slice (List.map aD x.default.m) [] false]
theorem iU (x:GParam):aQ x = .agg [.str x.name,.str x.t.name,.int .i64 x.t.lists,.int .i64 x.t.musts,.bool x.has,.int .i64 x.default.kind,.int .i64 x.default.n,.str x.default.s,.slice (List.map aN x.default.l) [] false,.slice (List.map aD x.default.m) [] false]:=rfl
theorem nK (x:GParam):chk jR (aQ x)=true:=by rw [iU];rfl
theorem aD5 (a b:GParam) (h:aQ a=aQ b):a=b:=by
 simp only [iU,PV.agg.injEq,List.cons.injEq,PV.slice.injEq,PV.str.injEq,PV.int.injEq,PV.bool.injEq,true_and,and_true] at h
 obtain ⟨a0,⟨a1,a2,a3⟩,a4,⟨a5,a6,a7,a8,a9⟩⟩:=a
 obtain ⟨b0,⟨b1,b2,b3⟩,b4,⟨b5,b6,b7,b8,b9⟩⟩:=b
 dsimp only at h
 have e0:=h.1
 have e1:=h.2.1
 have e2:=h.2.2.1
 have e3:=h.2.2.2.1
 have e4:=h.2.2.2.2.1
 have e5:=h.2.2.2.2.2.1
 have e6:=h.2.2.2.2.2.2.1
 have e7:=h.2.2.2.2.2.2.2.1
 have e8:=cJ qH h.2.2.2.2.2.2.2.2.1
 have e9:=cJ kN h.2.2.2.2.2.2.2.2.2
 subst e0 e1 e2 e3 e4 e5 e6 e7 e8 e9
 rfl
def aU (x:GDir):PV := .agg [.str x.name,.slice (List.map aD x.args) [] false]
theorem oK (x:GDir):aU x = .agg [.str x.name,.slice (List.map aD x.args) [] false]:=rfl
theorem aKm (x:GDir):chk aTA (aU x)=true:=by rw [oK];rfl
theorem aAB (a b:GDir) (h:aU a=aU b):a=b:=by
 simp only [oK,PV.agg.injEq,List.cons.injEq,PV.slice.injEq,PV.str.injEq,PV.int.injEq,PV.bool.injEq,true_and,and_true] at h
 obtain ⟨a0,a1⟩:=a
 obtain ⟨b0,b1⟩:=b
 dsimp only at h
 have e0:=h.1
 have e1:=cJ kN h.2
 subst e0 e1
 rfl
def aG (x:GFieldDef):PV := .agg [.str x.name,.slice (List.map aQ x.params) [] false,.str x.t.name,.int .i64 x.t.lists,.int .i64 x.t.musts,.slice (List.map aU x.dirs) [] false]
theorem dY (x:GFieldDef):aG x = .agg [.str x.name,.slice (List.map aQ x.params) [] false,.str x.t.name,.int .i64 x.t.lists,.int .i64 x.t.musts,.slice (List.map aU x.dirs) [] false]:=rfl
theorem cS (x:GFieldDef):chk bG (aG x)=true:=by rw [dY];rfl
theorem aDa (a b:GFieldDef) (h:aG a=aG b):a=b:=by
 simp only [dY,PV.agg.injEq,List.cons.injEq,PV.slice.injEq,PV.str.injEq,PV.int.injEq,PV.bool.injEq,true_and,and_true] at h
 obtain ⟨a0,a1,⟨a2,a3,a4⟩,a5⟩:=a
 obtain ⟨b0,b1,⟨b2,b3,b4⟩,b5⟩:=b
 dsimp only at h
 have e0:=h.1
 have e1:=cJ aD5 h.2.1
 have e2:=h.2.2.1
 have e3:=h.2.2.2.1
 have e4:=h.2.2.2.2.1
 have e5:=cJ aAB h.2.2.2.2.2
 subst e0 e1 e2 e3 e4 e5
 rfl
def aK (x:GDef):PV := .agg [.int .i64 x.kind,.str x.name,.slice (List.map PV.str x.faces) [] false,.slice (List.map aG x.fields) [] false,.slice (List.map PV.str x.parts) [] false,.slice (List.map aQ x.params) [] false]
theorem oL (x:GDef):aK x = .agg [.int .i64 x.kind,.str x.name,.slice (List.map PV.str x.faces) [] false,.slice (List.map aG x.fields) [] false,.slice (List.map PV.str x.parts) [] false,.slice (List.map aQ x.params) [] false]:=rfl
theorem vI (x:GDef):chk mW (aK x)=true:=by rw [oL];rfl
theorem aSb (a b:GDef) (h:aK a=aK b):a=b:=by
 simp only [oL,PV.agg.injEq,List.cons.injEq,PV.slice.injEq,PV.str.injEq,PV.int.injEq,PV.bool.injEq,true_and,and_true] at h
 obtain ⟨a0,a1,a2,a3,a4,a5⟩:=a
 obtain ⟨b0,b1,b2,b3,b4,b5⟩:=b
 dsimp only at h
 have e0:=h.1
 have e1:=h.2.1
 have e2:=cJ Ev.str_inj h.2.2.1
 have e3:=cJ aDa h.2.2.2.1
 have e4:=cJ Ev.str_inj h.2.2.2.2.1
 have e5:=cJ aD5 h.2.2.2.2.2
 subst e0 e1 e2 e3 e4 e5
 rfl
def cL (x:GSchema):PV := .agg [.slice (List.map aK x.defs) [] false,.str x.query,.str x.mutation]
theorem gH (x:GSchema):cL x = .agg [.slice (List.map aK x.defs) [] false,.str x.query,.str x.mutation]:=rfl
theorem aPj (x:GSchema):chk aR9 (cL x)=true:=by rw [gH];rfl
theorem aPk (a b:GSchema) (h:cL a=cL b):a=b:=by
 simp only [gH,PV.agg.injEq,List.cons.injEq,PV.slice.injEq,PV.str.injEq,PV.int.injEq,PV.bool.injEq,true_and,and_true] at h
 obtain ⟨a0,a1,a2⟩:=a
 obtain ⟨b0,b1,b2⟩:=b
 dsimp only at h
 have e0:=cJ aSb h.1
 have e1:=h.2.1
 have e2:=h.2.2
 subst e0 e1 e2
 rfl
def aY (x:GVarDef):PV := .agg [.str x.name,.str x.t.name,.int .i64 x.t.lists,.int .i64 x.t.musts,.bool x.has,.int .i64 x.default.kind,.int .i64 x.default.n,.str x.default.s,.slice (List.map aN x.default.l) [] false,.slice (List.map aD x.default.m) [] false]
theorem dZ (x:GVarDef):aY x = .agg [.str x.name,.str x.t.name,.int .i64 x.t.lists,.int .i64 x.t.musts,.bool x.has,.int .i64 x.default.kind,.int .i64 x.default.n,.str x.default.s,.slice (List.map aN x.default.l) [] false,.slice (List.map aD x.default.m) [] false]:=rfl
theorem aPl (x:GVarDef):chk aSa (aY x)=true:=by rw [dZ];rfl
theorem aPm (a b:GVarDef) (h:aY a=aY b):a=b:=by
 simp only [dZ,PV.agg.injEq,List.cons.injEq,PV.slice.injEq,PV.str.injEq,PV.int.injEq,PV.bool.injEq,true_and,and_true] at h
 obtain ⟨a0,⟨a1,a2,a3⟩,a4,⟨a5,a6,a7,a8,a9⟩⟩:=a
 obtain ⟨b0,⟨b1,b2,b3⟩,b4,⟨b5,b6,b7,b8,b9⟩⟩:=b
 dsimp only at h
 have e0:=h.1
 have e1:=h.2.1
 have e2:=h.2.2.1
 have e3:=h.2.2.2.1
 have e4:=h.2.2.2.2.1
 have e5:=h.2.2.2.2.2.1
 have e6:=h.2.2.2.2.2.2.1
 have e7:=h.2.2.2.2.2.2.2.1
 have e8:=cJ qH h.2.2.2.2.2.2.2.2.1
 have e9:=cJ kN h.2.2.2.2.2.2.2.2.2
 subst e0 e1 e2 e3 e4 e5 e6 e7 e8 e9
 rfl
mutual
def aF:GSel→PV
 | ⟨x0,x1,x2,x3,x4,x5,x6⟩ => .agg ([.int .i64 x0,.str x1,.str x2,.slice (List.map aD x3) [] false,.slice (List.map aU x4) [] false,.str x5,.slice (tG x6) [] false])
def tG:List GSel→List PV
 | []=>[]
 | x::l=>aF x::tG l
end
theorem aJe:∀ (l:List GSel),tG l=List.map aF l
 | []=>by simp only [tG,List.map]
 | x::l=>by simp only [tG,List.map,aJe l]
theorem fF (x:GSel):aF x = .agg [.int .i64 x.kind,.str x.alias,.str x.name,.slice (List.map aD x.args) [] false,.slice (List.map aU x.dirs) [] false,.str x.on_,.slice (List.map aF x.sels) [] false]:=by
 cases x;simp only [aF,cells,List.cons_append,List.nil_append,aJe]
theorem jI (x:GSel):chk pW (aF x)=true:=by rw [fF];rfl
mutual
theorem aDb:∀ (a b:GSel),aF a=aF b→a=b
 | ⟨a0,a1,a2,a3,a4,a5,a6⟩,⟨b0,b1,b2,b3,b4,b5,b6⟩,h=>by
  simp only [aF,PV.agg.injEq,List.cons.injEq,List.append_eq,PV.slice.injEq,PV.str.injEq,PV.int.injEq,PV.bool.injEq,true_and,and_true] at h
  have e0:=h.1
  have e1:=h.2.1
  have e2:=h.2.2.1
  have e3:=cJ kN h.2.2.2.1
  have e4:=cJ aAB h.2.2.2.2.1
  have e5:=h.2.2.2.2.2.1
  have e6:=aMr _ _ h.2.2.2.2.2.2
  subst e0 e1 e2 e3 e4 e5 e6
  rfl
theorem aMr:∀ (a b:List GSel),tG a=tG b→a=b
 | [],[],_=>rfl
 | [],_::_,h=>by simp [tG] at h
 | _::_,[],h=>by simp [tG] at h
 | x::l,y::m,h=>by
  simp only [tG,List.cons.injEq] at h
  rw [aDb x y h.1,aMr l m h.2]
end
def bL (x:GOp):PV := .agg [.int .i64 x.kind,.str x.name,.slice (List.map aY x.vars) [] false,.slice (List.map aU x.dirs) [] false,.slice (List.map aF x.sels) [] false]
theorem gT (x:GOp):bL x = .agg [.int .i64 x.kind,.str x.name,.slice (List.map aY x.vars) [] false,.slice (List.map aU x.dirs) [] false,.slice (List.map aF x.sels) [] false]:=rfl
theorem aKn (x:GOp):chk shOp (bL x)=true:=by rw [gT];rfl
theorem bAB (a b:GOp) (h:bL a=bL b):a=b:=by
 simp only [gT,PV.agg.injEq,List.cons.injEq,PV.slice.injEq,PV.str.injEq,PV.int.injEq,PV.bool.injEq,true_and,and_true] at h
 obtain ⟨a0,a1,a2,a3,a4⟩:=a
 obtain ⟨b0,b1,b2,b3,b4⟩:=b
 dsimp only at h
 have e0:=h.1
 have e1:=h.2.1
 have e2:=cJ aPm h.2.2.1
 have e3:=cJ aAB h.2.2.2.1
 have e4:=cJ aDb h.2.2.2.2
 subst e0 e1 e2 e3 e4
 rfl
def aJ (x:GFrag):PV := .agg [.str x.name,.str x.on_,.slice (List.map aU x.dirs) [] false,.slice (List.map aF x.sels) [] false]
theorem dF (x:GFrag):aJ x = .agg [.str x.name,.str x.on_,.slice (List.map aU x.dirs) [] false,.slice (List.map aF x.sels) [] false]:=rfl
theorem mM (x:GFrag):chk jO (aJ x)=true:=by rw [dF];rfl
theorem aMs (a b:GFrag) (h:aJ a=aJ b):a=b:=by
 simp only [dF,PV.agg.injEq,List.cons.injEq,PV.slice.injEq,PV.str.injEq,PV.int.injEq,PV.bool.injEq,true_and,and_true] at h
 obtain ⟨a0,a1,a2,a3⟩:=a
 obtain ⟨b0,b1,b2,b3⟩:=b
 dsimp only at h
 have e0:=h.1
 have e1:=h.2.1
 have e2:=cJ aAB h.2.2.1
 have e3:=cJ aDb h.2.2.2
 subst e0 e1 e2 e3
 rfl
def lH (x:GDoc):PV := .agg [.slice (List.map bL x.ops) [] false,.slice (List.map aJ x.frags) [] false]
theorem mN (x:GDoc):lH x = .agg [.slice (List.map bL x.ops) [] false,.slice (List.map aJ x.frags) [] false]:=rfl
theorem aXY (x:GDoc):chk bBG (lH x)=true:=by rw [mN];rfl
theorem aXZ (a b:GDoc) (h:lH a=lH b):a=b:=by
 simp only [mN,PV.agg.injEq,List.cons.injEq,PV.slice.injEq,PV.str.injEq,PV.int.injEq,PV.bool.injEq,true_and,and_true] at h
 obtain ⟨a0,a1⟩:=a
 obtain ⟨b0,b1⟩:=b
 dsimp only at h
 have e0:=cJ bAB h.1
 have e1:=cJ aMs h.2
 subst e0 e1
 rfl
def aH (x:GSeineref13Spot):PV := .agg [.str x.typ,.int .i64 x.x.kind,.str x.x.alias,.str x.x.name,.slice (List.map aD x.x.args) [] false,.slice (List.map aU x.x.dirs) [] false,.str x.x.on_,.slice (List.map aF x.x.sels) [] false]
theorem cY (x:GSeineref13Spot):aH x = .agg [.str x.typ,.int .i64 x.x.kind,.str x.x.alias,.str x.x.name,.slice (List.map aD x.x.args) [] false,.slice (List.map aU x.x.dirs) [] false,.str x.x.on_,.slice (List.map aF x.x.sels) [] false]:=rfl
theorem qZ (x:GSeineref13Spot):chk kH (aH x)=true:=by rw [cY];rfl
theorem rB (a b:GSeineref13Spot) (h:aH a=aH b):a=b:=by
 simp only [cY,PV.agg.injEq,List.cons.injEq,PV.slice.injEq,PV.str.injEq,PV.int.injEq,PV.bool.injEq,true_and,and_true] at h
 obtain ⟨a0,⟨a1,a2,a3,a4,a5,a6,a7⟩⟩:=a
 obtain ⟨b0,⟨b1,b2,b3,b4,b5,b6,b7⟩⟩:=b
 dsimp only at h
 have e0:=h.1
 have e1:=h.2.1
 have e2:=h.2.2.1
 have e3:=h.2.2.2.1
 have e4:=cJ kN h.2.2.2.2.1
 have e5:=cJ aAB h.2.2.2.2.2.1
 have e6:=h.2.2.2.2.2.2.1
 have e7:=cJ aDb h.2.2.2.2.2.2.2
 subst e0 e1 e2 e3 e4 e5 e6 e7
 rfl
def aD6 (x:GSpot):PV := .agg [.str x.var,.str x.t.name,.int .i64 x.t.lists,.int .i64 x.t.musts,.bool x.has]
theorem aAC (x:GSpot):aD6 x = .agg [.str x.var,.str x.t.name,.int .i64 x.t.lists,.int .i64 x.t.musts,.bool x.has]:=rfl
theorem aWd (x:GSpot):chk aZV (aD6 x)=true:=by rw [aAC];rfl
abbrev eS (x:GSchema):PV := .agg [(zq aK x.defs),(.str x.query),(.str x.mutation)]
abbrev eD (x:GDoc):PV := .agg [(zq bL x.ops),(zq aJ x.frags)]
abbrev eL (x:GSel):PV := .agg [(i6 x.kind),(.str x.alias),(.str x.name),(zq aD x.args),(zq aU x.dirs),(.str x.on_),(zq aF x.sels)]
abbrev eV (x:GValue):PV := .agg [(i6 x.kind),(i6 x.n),(.str x.s),(zq aN x.l),(zq aD x.m)]
abbrev eT (x:GType):PV := .agg [(.str x.name),(i6 x.lists),(i6 x.musts)]
abbrev eR (x:GDir):PV := .agg [(.str x.name),(zq aD x.args)]
theorem tys:(∀ x:GType,iS x = .agg [.str x.name,.int .i64 x.lists,.int .i64 x.musts]) ∧
  (∀ x:GValue,aN x = .agg [.int .i64 x.kind,.int .i64 x.n,.str x.s,.slice (List.map aN x.l) [] false,.slice (List.map aD x.m) [] false]) ∧
  (∀ x:GMember,aD x = .agg [.str x.name,.int .i64 x.v.kind,.int .i64 x.v.n,.str x.v.s,.slice (List.map aN x.v.l) [] false,.slice (List.map aD x.v.m) [] false]) ∧
  (∀ x:GParam,aQ x = .agg [.str x.name,.str x.t.name,.int .i64 x.t.lists,.int .i64 x.t.musts,.bool x.has,.int .i64 x.default.kind,.int .i64 x.default.n,.str x.default.s,.slice (List.map aN x.default.l) [] false,.slice (List.map aD x.default.m) [] false]) ∧
  (∀ x:GDir,aU x = .agg [.str x.name,.slice (List.map aD x.args) [] false]) ∧
  (∀ x:GFieldDef,aG x = .agg [.str x.name,.slice (List.map aQ x.params) [] false,.str x.t.name,.int .i64 x.t.lists,.int .i64 x.t.musts,.slice (List.map aU x.dirs) [] false]) ∧
  (∀ x:GDef,aK x = .agg [.int .i64 x.kind,.str x.name,.slice (List.map PV.str x.faces) [] false,.slice (List.map aG x.fields) [] false,.slice (List.map PV.str x.parts) [] false,.slice (List.map aQ x.params) [] false]) ∧
  (∀ x:GSchema,cL x = .agg [.slice (List.map aK x.defs) [] false,.str x.query,.str x.mutation]) ∧
  (∀ x:GVarDef,aY x = .agg [.str x.name,.str x.t.name,.int .i64 x.t.lists,.int .i64 x.t.musts,.bool x.has,.int .i64 x.default.kind,.int .i64 x.default.n,.str x.default.s,.slice (List.map aN x.default.l) [] false,.slice (List.map aD x.default.m) [] false]) ∧
  (∀ x:GSel,aF x = .agg [.int .i64 x.kind,.str x.alias,.str x.name,.slice (List.map aD x.args) [] false,.slice (List.map aU x.dirs) [] false,.str x.on_,.slice (List.map aF x.sels) [] false]) ∧
  (∀ x:GOp,bL x = .agg [.int .i64 x.kind,.str x.name,.slice (List.map aY x.vars) [] false,.slice (List.map aU x.dirs) [] false,.slice (List.map aF x.sels) [] false]) ∧
  (∀ x:GFrag,aJ x = .agg [.str x.name,.str x.on_,.slice (List.map aU x.dirs) [] false,.slice (List.map aF x.sels) [] false]) ∧
  (∀ x:GDoc,lH x = .agg [.slice (List.map bL x.ops) [] false,.slice (List.map aJ x.frags) [] false]) ∧
  (∀ x:GSeineref13Spot,aH x = .agg [.str x.typ,.int .i64 x.x.kind,.str x.x.alias,.str x.x.name,.slice (List.map aD x.x.args) [] false,.slice (List.map aU x.x.dirs) [] false,.str x.x.on_,.slice (List.map aF x.x.sels) [] false]) ∧
  (∀ x:GSpot,aD6 x = .agg [.str x.var,.str x.t.name,.int .i64 x.t.lists,.int .i64 x.t.musts,.bool x.has]):=⟨iH,eO,iT,iU,oK,dY,oL,gH,dZ,fF,gT,dF,mN,cY,aAC⟩
theorem chks:(∀ x,chk aR8 (iS x)=true) ∧
  (∀ x,chk mL (aN x)=true) ∧
  (∀ x,chk dP (aD x)=true) ∧
  (∀ x,chk jR (aQ x)=true) ∧
  (∀ x,chk aTA (aU x)=true) ∧
  (∀ x,chk bG (aG x)=true) ∧
  (∀ x,chk mW (aK x)=true) ∧
  (∀ x,chk aR9 (cL x)=true) ∧
  (∀ x,chk aSa (aY x)=true) ∧
  (∀ x,chk pW (aF x)=true) ∧
  (∀ x,chk shOp (bL x)=true) ∧
  (∀ x,chk jO (aJ x)=true) ∧
  (∀ x,chk bBG (lH x)=true) ∧
  (∀ x,chk kH (aH x)=true) ∧
  (∀ x,chk aZV (aD6 x)=true):=⟨aWb,aAA,fP,nK,aKm,cS,vI,aPj,aPl,jI,aKn,mM,aXY,qZ,aWd⟩
open Go Go.Ev Go.Ev.PV
def yH (x:GType):Nat:=(dC x.name+(bk1 x.lists+(bk1 x.musts+(0))))+1
def aBi (x:GType):Prop:=gd1 x.name∧((gdI .i64) x.lists∧((gdI .i64) x.musts∧(True)))
theorem jW (x:GType):yH x=(dC x.name+(bk1 x.lists+(bk1 x.musts+(0))))+1:=rfl
theorem aWe (x:GType):aBi x=(gd1 x.name∧((gdI .i64) x.lists∧((gdI .i64) x.musts∧(True)))):=rfl
mutual
def cB:GValue→Nat
 | ⟨x0,x1,x2,x3,x4⟩=>(bk1 x0+(bk1 x1+(dC x2+((pX x3+1)+((mO x4+1)+(0))))))+1
def aW:GMember→Nat
 | ⟨x0,x1⟩=>(dC x0+(cB x1+(0)))+1
def pX:List GValue→Nat
 | []=>0
 | x::l=>cB x+pX l
def mO:List GMember→Nat
 | []=>0
 | x::l=>aW x+mO l
end
mutual
def pG:GValue→Prop
 | ⟨x0,x1,x2,x3,x4⟩=>(gdI .i64) x0∧((gdI .i64) x1∧(gd1 x2∧(aDc x3∧(yI x4∧(True)))))
def oC:GMember→Prop
 | ⟨x0,x1⟩=>gd1 x0∧(pG x1∧(True))
def aDc:List GValue→Prop
 | []=>True
 | x::l=>pG x∧aDc l
def yI:List GMember→Prop
 | []=>True
 | x::l=>oC x∧yI l
end
theorem vJ:∀ (l:List GValue),pX l=sumL cB l
 | []=>by simp only [pX,sumL]
 | x::l=>by simp only [pX,sumL,vJ l]
theorem aBJ:∀ (l:List GValue),aDc l=gdSl pG l
 | []=>by simp [aDc,gdSl]
 | x::l=>by simp [aDc,gdSl,aBJ l]
theorem sF:∀ (l:List GMember),mO l=sumL aW l
 | []=>by simp only [mO,sumL]
 | x::l=>by simp only [mO,sumL,sF l]
theorem yJ:∀ (l:List GMember),yI l=gdSl oC l
 | []=>by simp [yI,gdSl]
 | x::l=>by simp [yI,gdSl,yJ l]
theorem cD (x:GValue):cB x=(bk1 x.kind+(bk1 x.n+(dC x.s+((bkSl cB) x.l+((bkSl aW) x.m+(0))))))+1:=by
 cases x;simp only [cB,bkSl,vJ,sF]
theorem aTB (x:GValue):pG x=((gdI .i64) x.kind∧((gdI .i64) x.n∧(gd1 x.s∧((gdSl pG) x.l∧((gdSl oC) x.m∧(True)))))):=by
 cases x;simp only [pG,aBJ,yJ]
theorem cO (x:GMember):aW x=(dC x.name+(cB x.v+(0)))+1:=by
 cases x;simp only [aW,bkSl,vJ,sF]
theorem aPn (x:GMember):oC x=(gd1 x.name∧(pG x.v∧(True))):=by
 cases x;simp only [oC,aBJ,yJ]
def fQ (x:GParam):Nat:=(dC x.name+(yH x.t+(bk1 x.has+(cB x.default+(0)))))+1
def aD7 (x:GParam):Prop:=gd1 x.name∧(aBi x.t∧(gd1 x.has∧(pG x.default∧(True))))
theorem lI (x:GParam):fQ x=(dC x.name+(yH x.t+(bk1 x.has+(cB x.default+(0)))))+1:=rfl
theorem aTC (x:GParam):aD7 x=(gd1 x.name∧(aBi x.t∧(gd1 x.has∧(pG x.default∧(True))))):=rfl
def jJ (x:GDir):Nat:=(dC x.name+((bkSl aW) x.args+(0)))+1
def aH8 (x:GDir):Prop:=gd1 x.name∧((gdSl oC) x.args∧(True))
theorem pY (x:GDir):jJ x=(dC x.name+((bkSl aW) x.args+(0)))+1:=rfl
theorem aX0 (x:GDir):aH8 x=(gd1 x.name∧((gdSl oC) x.args∧(True))):=rfl
def eI (x:GFieldDef):Nat:=(dC x.name+((bkSl fQ) x.params+(yH x.t+((bkSl jJ) x.dirs+(0)))))+1
def aAD (x:GFieldDef):Prop:=gd1 x.name∧((gdSl aD7) x.params∧(aBi x.t∧((gdSl aH8) x.dirs∧(True))))
theorem fG (x:GFieldDef):eI x=(dC x.name+((bkSl fQ) x.params+(yH x.t+((bkSl jJ) x.dirs+(0)))))+1:=rfl
theorem aKo (x:GFieldDef):aAD x=(gd1 x.name∧((gdSl aD7) x.params∧(aBi x.t∧((gdSl aH8) x.dirs∧(True))))):=rfl
def aD8 (x:GDef):Nat:=(bk1 x.kind+(dC x.name+((bkSl dC) x.faces+((bkSl eI) x.fields+((bkSl dC) x.parts+((bkSl fQ) x.params+(0)))))))+1
def aX1 (x:GDef):Prop:=(gdI .i64) x.kind∧(gd1 x.name∧((gdSl gd1) x.faces∧((gdSl aAD) x.fields∧((gdSl gd1) x.parts∧((gdSl aD7) x.params∧(True))))))
theorem jK (x:GDef):aD8 x=(bk1 x.kind+(dC x.name+((bkSl dC) x.faces+((bkSl eI) x.fields+((bkSl dC) x.parts+((bkSl fQ) x.params+(0)))))))+1:=rfl
theorem aX2 (x:GDef):aX1 x=((gdI .i64) x.kind∧(gd1 x.name∧((gdSl gd1) x.faces∧((gdSl aAD) x.fields∧((gdSl gd1) x.parts∧((gdSl aD7) x.params∧(True))))))):=rfl
def dW (x:GSchema):Nat:=((bkSl aD8) x.defs+(dC x.query+(dC x.mutation+(0))))+1
def aKp (x:GSchema):Prop:=(gdSl aX1) x.defs∧(gd1 x.query∧(gd1 x.mutation∧(True)))
theorem gU (x:GSchema):dW x=((bkSl aD8) x.defs+(dC x.query+(dC x.mutation+(0))))+1:=rfl
theorem aPo (x:GSchema):aKp x=((gdSl aX1) x.defs∧(gd1 x.query∧(gd1 x.mutation∧(True)))):=rfl
def pZ (x:GVarDef):Nat:=(dC x.name+(yH x.t+(bk1 x.has+(cB x.default+(0)))))+1
def aF2 (x:GVarDef):Prop:=gd1 x.name∧(aBi x.t∧(gd1 x.has∧(pG x.default∧(True))))
theorem rC (x:GVarDef):pZ x=(dC x.name+(yH x.t+(bk1 x.has+(cB x.default+(0)))))+1:=rfl
theorem aPp (x:GVarDef):aF2 x=(gd1 x.name∧(aBi x.t∧(gd1 x.has∧(pG x.default∧(True))))):=rfl
mutual
def gG:GSel→Nat
 | ⟨x0,x1,x2,x3,x4,x5,x6⟩=>(bk1 x0+(dC x1+(dC x2+((bkSl aW) x3+((bkSl jJ) x4+(dC x5+((bR x6+1)+(0))))))))+1
def bR:List GSel→Nat
 | []=>0
 | x::l=>gG x+bR l
end
mutual
def aFA:GSel→Prop
 | ⟨x0,x1,x2,x3,x4,x5,x6⟩=>(gdI .i64) x0∧(gd1 x1∧(gd1 x2∧((gdSl oC) x3∧((gdSl aH8) x4∧(gd1 x5∧(aMt x6∧(True)))))))
def aMt:List GSel→Prop
 | []=>True
 | x::l=>aFA x∧aMt l
end
theorem eP:∀ (l:List GSel),bR l=sumL gG l
 | []=>by simp only [bR,sumL]
 | x::l=>by simp only [bR,sumL,eP l]
theorem aMu:∀ (l:List GSel),aMt l=gdSl aFA l
 | []=>by simp [aMt,gdSl]
 | x::l=>by simp [aMt,gdSl,aMu l]
theorem gV (x:GSel):gG x=(bk1 x.kind+(dC x.alias+(dC x.name+((bkSl aW) x.args+((bkSl jJ) x.dirs+(dC x.on_+((bkSl gG) x.sels+(0))))))))+1:=by
 cases x;simp only [gG,bkSl,eP]
theorem aX3 (x:GSel):aFA x=((gdI .i64) x.kind∧(gd1 x.alias∧(gd1 x.name∧((gdSl oC) x.args∧((gdSl aH8) x.dirs∧(gd1 x.on_∧((gdSl aFA) x.sels∧(True)))))))):=by
 cases x;simp only [aFA,aMu]
def bkOp (x:GOp):Nat:=(bk1 x.kind+(dC x.name+((bkSl pZ) x.vars+((bkSl jJ) x.dirs+((bkSl gG) x.sels+(0))))))+1
def gdOp (x:GOp):Prop:=(gdI .i64) x.kind∧(gd1 x.name∧((gdSl aF2) x.vars∧((gdSl aH8) x.dirs∧((gdSl aFA) x.sels∧(True)))))
theorem nL (x:GOp):bkOp x=(bk1 x.kind+(dC x.name+((bkSl pZ) x.vars+((bkSl jJ) x.dirs+((bkSl gG) x.sels+(0))))))+1:=rfl
theorem bAC (x:GOp):gdOp x=((gdI .i64) x.kind∧(gd1 x.name∧((gdSl aF2) x.vars∧((gdSl aH8) x.dirs∧((gdSl aFA) x.sels∧(True)))))):=rfl
def gB (x:GFrag):Nat:=(dC x.name+(dC x.on_+((bkSl jJ) x.dirs+((bkSl gG) x.sels+(0)))))+1
def aSc (x:GFrag):Prop:=gd1 x.name∧(gd1 x.on_∧((gdSl aH8) x.dirs∧((gdSl aFA) x.sels∧(True))))
theorem iV (x:GFrag):gB x=(dC x.name+(dC x.on_+((bkSl jJ) x.dirs+((bkSl gG) x.sels+(0)))))+1:=rfl
theorem aWf (x:GFrag):aSc x=(gd1 x.name∧(gd1 x.on_∧((gdSl aH8) x.dirs∧((gdSl aFA) x.sels∧(True))))):=rfl
def jL (x:GDoc):Nat:=((bkSl bkOp) x.ops+((bkSl gB) x.frags+(0)))+1
def bAD (x:GDoc):Prop:=(gdSl gdOp) x.ops∧((gdSl aSc) x.frags∧(True))
theorem vK (x:GDoc):jL x=((bkSl bkOp) x.ops+((bkSl gB) x.frags+(0)))+1:=rfl
theorem aX4 (x:GDoc):bAD x=((gdSl gdOp) x.ops∧((gdSl aSc) x.frags∧(True))):=rfl
def wL (x:GSeineref13Spot):Nat:=(dC x.typ+(gG x.x+(0)))+1
def wM (x:GSeineref13Spot):Prop:=gd1 x.typ∧(aFA x.x∧(True))
theorem aBK (x:GSeineref13Spot):wL x=(dC x.typ+(gG x.x+(0)))+1:=rfl
theorem aBL (x:GSeineref13Spot):wM x=(gd1 x.typ∧(aFA x.x∧(True))):=rfl
def aZW (x:GSpot):Nat:=(dC x.var+(yH x.t+(bk1 x.has+(0))))+1
def aZX (x:GSpot):Prop:=gd1 x.var∧(aBi x.t∧(gd1 x.has∧(True)))
theorem aWg (x:GSpot):aZW x=(dC x.var+(yH x.t+(bk1 x.has+(0))))+1:=rfl
theorem aWh (x:GSpot):aZX x=(gd1 x.var∧(aBi x.t∧(gd1 x.has∧(True)))):=rfl
def TS:Nat→TypeId
 | 0=>49
 | 1=>52
 | 2=>70
 | 3=>61
 | 4=>41
 | 5=>104
 | 6=>100
 | 7=>24
 | 8=>54
 | 9=>44
 | 10=>38
 | 11=>68
 | 12=>28
 | 13=>83
 | _=>140
def BS:Nat→Ty
 | 0=>(.fcons .str (.fcons (.int .i64) (.fcons (.int .i64) .fnil)))
 | 1=>(.fcons (.int .i64) (.fcons (.int .i64) (.fcons .str (.fcons (.sl (.ext 1)) (.fcons (.sl (.ext 2)) .fnil)))))
 | 2=>(.fcons .str (.fcons (.ext 1) .fnil))
 | 3=>(.fcons .str (.fcons (.ext 0) (.fcons .bool (.fcons (.ext 1) .fnil))))
 | 4=>(.fcons .str (.fcons (.sl (.ext 2)) .fnil))
 | 5=>(.fcons .str (.fcons (.sl (.ext 3)) (.fcons (.ext 0) (.fcons (.sl (.ext 4)) .fnil))))
 | 6=>(.fcons (.int .i64) (.fcons .str (.fcons (.sl .str) (.fcons (.sl (.ext 5)) (.fcons (.sl .str) (.fcons (.sl (.ext 3)) .fnil))))))
 | 7=>(.fcons (.sl (.ext 6)) (.fcons .str (.fcons .str .fnil)))
 | 8=>(.fcons .str (.fcons (.ext 0) (.fcons .bool (.fcons (.ext 1) .fnil))))
 | 9=>(.fcons (.int .i64) (.fcons .str (.fcons .str (.fcons (.sl (.ext 2)) (.fcons (.sl (.ext 4)) (.fcons .str (.fcons (.sl (.ext 9)) .fnil)))))))
 | 10=>(.fcons (.int .i64) (.fcons .str (.fcons (.sl (.ext 8)) (.fcons (.sl (.ext 4)) (.fcons (.sl (.ext 9)) .fnil)))))
 | 11=>(.fcons .str (.fcons .str (.fcons (.sl (.ext 4)) (.fcons (.sl (.ext 9)) .fnil))))
 | 12=>(.fcons (.sl (.ext 10)) (.fcons (.sl (.ext 11)) .fnil))
 | 13=>(.fcons .str (.fcons (.ext 9) .fnil))
 | _=>(.fcons .str (.fcons (.ext 0) (.fcons .bool .fnil)))
abbrev bAE:RecTy:=⟨GType,iS,3,yH,aBi,fun x=>qW _ (iH x) rfl rfl⟩
abbrev aX5:RecTy:=⟨GValue,aN,5,cB,pG,fun x=>qW _ (eO x) rfl rfl⟩
abbrev aWi:RecTy:=⟨GMember,aD,6,aW,oC,fun x=>qW _ (iT x) rfl rfl⟩
abbrev aX6:RecTy:=⟨GParam,aQ,10,fQ,aD7,fun x=>qW _ (iU x) rfl rfl⟩
abbrev bBH:RecTy:=⟨GDir,aU,2,jJ,aH8,fun x=>qW _ (oK x) rfl rfl⟩
abbrev aPq:RecTy:=⟨GFieldDef,aG,6,eI,aAD,fun x=>qW _ (dY x) rfl rfl⟩
abbrev bBI:RecTy:=⟨GDef,aK,6,aD8,aX1,fun x=>qW _ (oL x) rfl rfl⟩
abbrev aWj:RecTy:=⟨GSchema,cL,3,dW,aKp,fun x=>qW _ (gH x) rfl rfl⟩
abbrev aWk:RecTy:=⟨GVarDef,aY,10,pZ,aF2,fun x=>qW _ (dZ x) rfl rfl⟩
abbrev bBJ:RecTy:=⟨GSel,aF,7,gG,aFA,fun x=>qW _ (fF x) rfl rfl⟩
abbrev bCd:RecTy:=⟨GOp,bL,5,bkOp,gdOp,fun x=>qW _ (gT x) rfl rfl⟩
abbrev bAF:RecTy:=⟨GFrag,aJ,4,gB,aSc,fun x=>qW _ (dF x) rfl rfl⟩
abbrev bBK:RecTy:=⟨GDoc,lH,2,jL,bAD,fun x=>qW _ (mN x) rfl rfl⟩
abbrev aD9:RecTy:=⟨GSeineref13Spot,aH,8,wL,wM,fun x=>qW _ (cY x) rfl rfl⟩
abbrev bAG:RecTy:=⟨GSpot,aD6,5,aZW,aZX,fun x=>qW _ (aAC x) rfl rfl⟩
abbrev RS:REnv
 | 0=>bAE
 | 1=>aX5
 | 2=>aWi
 | 3=>aX6
 | 4=>bBH
 | 5=>aPq
 | 6=>bBI
 | 7=>aWj
 | 8=>aWk
 | 9=>bBJ
 | 10=>bCd
 | 11=>bAF
 | 12=>bBK
 | 13=>aD9
 | _=>bAG
theorem hty:∀ i,∃ F,Tryz.prog.underlying (TS i)=some (.struct F)∧Tryz.prog.cellsOf (TS i)=(BS i).size RS∧flds RS Tryz.prog (tyOk RS TS Tryz.prog 9) F.toList 0 (BS i)=true
 | 0=>⟨_,Tryz.underlying49,by kernel_rfl,by kernel_rfl⟩
 | 1=>⟨_,Tryz.underlying52,by kernel_rfl,by kernel_rfl⟩
 | 2=>⟨_,Tryz.underlying70,by kernel_rfl,by kernel_rfl⟩
 | 3=>⟨_,Tryz.underlying61,by kernel_rfl,by kernel_rfl⟩
 | 4=>⟨_,Tryz.underlying41,by kernel_rfl,by kernel_rfl⟩
 | 5=>⟨_,Tryz.underlying104,by kernel_rfl,by kernel_rfl⟩
 | 6=>⟨_,Tryz.underlying100,by kernel_rfl,by kernel_rfl⟩
 | 7=>⟨_,Tryz.underlying24,by kernel_rfl,by kernel_rfl⟩
 | 8=>⟨_,Tryz.underlying54,by kernel_rfl,by kernel_rfl⟩
 | 9=>⟨_,Tryz.underlying44,by kernel_rfl,by kernel_rfl⟩
 | 10=>⟨_,Tryz.underlying38,by kernel_rfl,by kernel_rfl⟩
 | 11=>⟨_,Tryz.underlying68,by kernel_rfl,by kernel_rfl⟩
 | 12=>⟨_,Tryz.underlying28,by kernel_rfl,by kernel_rfl⟩
 | 13=>⟨_,Tryz.underlying83,by kernel_rfl,by kernel_rfl⟩
 | _+14=>⟨_,Tryz.underlying140,by kernel_rfl,by kernel_rfl⟩
theorem bBL (x0:Str) (x1:Int) (x2:Int):iS ⟨x0,x1,x2⟩=(PV.agg ((PV.str x0).cells++(PV.agg (((PV.int .i64) x1).cells++(PV.agg (((PV.int .i64) x2).cells++(PV.agg []).cells)).cells)).cells)):=by
 simp only [tys,cells,List.cons_append,List.nil_append]
theorem bAH (x0:Int) (x1:Int) (x2:Str) (x3:List GValue) (x4:List GMember):aN ⟨x0,x1,x2,x3,x4⟩=(PV.agg (((PV.int .i64) x0).cells++(PV.agg (((PV.int .i64) x1).cells++(PV.agg ((PV.str x2).cells++(PV.agg ((PV.slice (List.map aN x3) [] false).cells++(PV.agg ((PV.slice (List.map aD x4) [] false).cells++(PV.agg []).cells)).cells)).cells)).cells)).cells)):=by
 simp only [tys,cells,List.cons_append,List.nil_append]
theorem aX7 (x0:Str) (x1:GValue):aD ⟨x0,x1⟩=(PV.agg ((PV.str x0).cells++(PV.agg ((aN x1).cells++(PV.agg []).cells)).cells)):=by
 simp only [tys,cells,List.cons_append,List.nil_append]
theorem bAI (x0:Str) (x1:GType) (x2:Bool) (x3:GValue):aQ ⟨x0,x1,x2,x3⟩=(PV.agg ((PV.str x0).cells++(PV.agg ((iS x1).cells++(PV.agg ((PV.bool x2).cells++(PV.agg ((aN x3).cells++(PV.agg []).cells)).cells)).cells)).cells)):=by
 simp only [tys,cells,List.cons_append,List.nil_append]
theorem bCe (x0:Str) (x1:List GMember):aU ⟨x0,x1⟩=(PV.agg ((PV.str x0).cells++(PV.agg ((PV.slice (List.map aD x1) [] false).cells++(PV.agg []).cells)).cells)):=by
 simp only [tys,cells,List.cons_append,List.nil_append]
theorem aTD (x0:Str) (x1:List GParam) (x2:GType) (x3:List GDir):aG ⟨x0,x1,x2,x3⟩=(PV.agg ((PV.str x0).cells++(PV.agg ((PV.slice (List.map aQ x1) [] false).cells++(PV.agg ((iS x2).cells++(PV.agg ((PV.slice (List.map aU x3) [] false).cells++(PV.agg []).cells)).cells)).cells)).cells)):=by
 simp only [tys,cells,List.cons_append,List.nil_append]
theorem bCf (x0:Int) (x1:Str) (x2:List Str) (x3:List GFieldDef) (x4:List Str) (x5:List GParam):aK ⟨x0,x1,x2,x3,x4,x5⟩=(PV.agg (((PV.int .i64) x0).cells++(PV.agg ((PV.str x1).cells++(PV.agg ((PV.slice (List.map PV.str x2) [] false).cells++(PV.agg ((PV.slice (List.map aG x3) [] false).cells++(PV.agg ((PV.slice (List.map PV.str x4) [] false).cells++(PV.agg ((PV.slice (List.map aQ x5) [] false).cells++(PV.agg []).cells)).cells)).cells)).cells)).cells)).cells)):=by
 simp only [tys,cells,List.cons_append,List.nil_append]
theorem aX8 (x0:List GDef) (x1:Str) (x2:Str):cL ⟨x0,x1,x2⟩=(PV.agg ((PV.slice (List.map aK x0) [] false).cells++(PV.agg ((PV.str x1).cells++(PV.agg ((PV.str x2).cells++(PV.agg []).cells)).cells)).cells)):=by
 simp only [tys,cells,List.cons_append,List.nil_append]
theorem aX9 (x0:Str) (x1:GType) (x2:Bool) (x3:GValue):aY ⟨x0,x1,x2,x3⟩=(PV.agg ((PV.str x0).cells++(PV.agg ((iS x1).cells++(PV.agg ((PV.bool x2).cells++(PV.agg ((aN x3).cells++(PV.agg []).cells)).cells)).cells)).cells)):=by
 simp only [tys,cells,List.cons_append,List.nil_append]
theorem bCg (x0:Int) (x1:Str) (x2:Str) (x3:List GMember) (x4:List GDir) (x5:Str) (x6:List GSel):aF ⟨x0,x1,x2,x3,x4,x5,x6⟩=(PV.agg (((PV.int .i64) x0).cells++(PV.agg ((PV.str x1).cells++(PV.agg ((PV.str x2).cells++(PV.agg ((PV.slice (List.map aD x3) [] false).cells++(PV.agg ((PV.slice (List.map aU x4) [] false).cells++(PV.agg ((PV.str x5).cells++(PV.agg ((PV.slice (List.map aF x6) [] false).cells++(PV.agg []).cells)).cells)).cells)).cells)).cells)).cells)).cells)):=by
 simp only [tys,cells,List.cons_append,List.nil_append]
theorem cvOp (x0:Int) (x1:Str) (x2:List GVarDef) (x3:List GDir) (x4:List GSel):bL ⟨x0,x1,x2,x3,x4⟩=(PV.agg (((PV.int .i64) x0).cells++(PV.agg ((PV.str x1).cells++(PV.agg ((PV.slice (List.map aY x2) [] false).cells++(PV.agg ((PV.slice (List.map aU x3) [] false).cells++(PV.agg ((PV.slice (List.map aF x4) [] false).cells++(PV.agg []).cells)).cells)).cells)).cells)).cells)):=by
 simp only [tys,cells,List.cons_append,List.nil_append]
theorem bBM (x0:Str) (x1:Str) (x2:List GDir) (x3:List GSel):aJ ⟨x0,x1,x2,x3⟩=(PV.agg ((PV.str x0).cells++(PV.agg ((PV.str x1).cells++(PV.agg ((PV.slice (List.map aU x2) [] false).cells++(PV.agg ((PV.slice (List.map aF x3) [] false).cells++(PV.agg []).cells)).cells)).cells)).cells)):=by
 simp only [tys,cells,List.cons_append,List.nil_append]
theorem bCh (x0:List GOp) (x1:List GFrag):lH ⟨x0,x1⟩=(PV.agg ((PV.slice (List.map bL x0) [] false).cells++(PV.agg ((PV.slice (List.map aJ x1) [] false).cells++(PV.agg []).cells)).cells)):=by
 simp only [tys,cells,List.cons_append,List.nil_append]
theorem aFB (x0:Str) (x1:GSel):aH ⟨x0,x1⟩=(PV.agg ((PV.str x0).cells++(PV.agg ((aF x1).cells++(PV.agg []).cells)).cells)):=by
 simp only [tys,cells,List.cons_append,List.nil_append]
theorem bBN (x0:Str) (x1:GType) (x2:Bool):aD6 ⟨x0,x1,x2⟩=(PV.agg ((PV.str x0).cells++(PV.agg ((iS x1).cells++(PV.agg ((PV.bool x2).cells++(PV.agg []).cells)).cells)).cells)):=by
 simp only [tys,cells,List.cons_append,List.nil_append]
theorem hcv:∀ i (x:(BS i).den RS),∃ y:(RS i).D,(RS i).en y=enc RS (BS i) x∧(RS i).bk y≤bulk RS (BS i) x+1∧(good RS (BS i) x→(RS i).gd y)
 | 0,⟨x0,x1,x2,_⟩=>⟨(⟨x0,x1,x2⟩:GType),(bBL x0 x1 x2).trans rfl,Nat.le_of_eq ((jW _).trans rfl),fun h=>(aWe _).mpr h⟩
 | 1,⟨x0,x1,x2,x3,x4,_⟩=>⟨(⟨x0,x1,x2,x3,x4⟩:GValue),(bAH x0 x1 x2 x3 x4).trans rfl,Nat.le_of_eq ((cD _).trans rfl),fun h=>(aTB _).mpr h⟩
 | 2,⟨x0,x1,_⟩=>⟨(⟨x0,x1⟩:GMember),(aX7 x0 x1).trans rfl,Nat.le_of_eq ((cO _).trans rfl),fun h=>(aPn _).mpr h⟩
 | 3,⟨x0,x1,x2,x3,_⟩=>⟨(⟨x0,x1,x2,x3⟩:GParam),(bAI x0 x1 x2 x3).trans rfl,Nat.le_of_eq ((lI _).trans rfl),fun h=>(aTC _).mpr h⟩
 | 4,⟨x0,x1,_⟩=>⟨(⟨x0,x1⟩:GDir),(bCe x0 x1).trans rfl,Nat.le_of_eq ((pY _).trans rfl),fun h=>(aX0 _).mpr h⟩
 | 5,⟨x0,x1,x2,x3,_⟩=>⟨(⟨x0,x1,x2,x3⟩:GFieldDef),(aTD x0 x1 x2 x3).trans rfl,Nat.le_of_eq ((fG _).trans rfl),fun h=>(aKo _).mpr h⟩
 | 6,⟨x0,x1,x2,x3,x4,x5,_⟩=>⟨(⟨x0,x1,x2,x3,x4,x5⟩:GDef),(bCf x0 x1 x2 x3 x4 x5).trans rfl,Nat.le_of_eq ((jK _).trans rfl),fun h=>(aX2 _).mpr h⟩
 | 7,⟨x0,x1,x2,_⟩=>⟨(⟨x0,x1,x2⟩:GSchema),(aX8 x0 x1 x2).trans rfl,Nat.le_of_eq ((gU _).trans rfl),fun h=>(aPo _).mpr h⟩
 | 8,⟨x0,x1,x2,x3,_⟩=>⟨(⟨x0,x1,x2,x3⟩:GVarDef),(aX9 x0 x1 x2 x3).trans rfl,Nat.le_of_eq ((rC _).trans rfl),fun h=>(aPp _).mpr h⟩
 | 9,⟨x0,x1,x2,x3,x4,x5,x6,_⟩=>⟨(⟨x0,x1,x2,x3,x4,x5,x6⟩:GSel),(bCg x0 x1 x2 x3 x4 x5 x6).trans rfl,Nat.le_of_eq ((gV _).trans rfl),fun h=>(aX3 _).mpr h⟩
 | 10,⟨x0,x1,x2,x3,x4,_⟩=>⟨(⟨x0,x1,x2,x3,x4⟩:GOp),(cvOp x0 x1 x2 x3 x4).trans rfl,Nat.le_of_eq ((nL _).trans rfl),fun h=>(bAC _).mpr h⟩
 | 11,⟨x0,x1,x2,x3,_⟩=>⟨(⟨x0,x1,x2,x3⟩:GFrag),(bBM x0 x1 x2 x3).trans rfl,Nat.le_of_eq ((iV _).trans rfl),fun h=>(aWf _).mpr h⟩
 | 12,⟨x0,x1,_⟩=>⟨(⟨x0,x1⟩:GDoc),(bCh x0 x1).trans rfl,Nat.le_of_eq ((vK _).trans rfl),fun h=>(aX4 _).mpr h⟩
 | 13,⟨x0,x1,_⟩=>⟨(⟨x0,x1⟩:GSeineref13Spot),(aFB x0 x1).trans rfl,Nat.le_of_eq ((aBK _).trans rfl),fun h=>(aBL _).mpr h⟩
 | _+14,⟨x0,x1,x2,_⟩=>⟨(⟨x0,x1,x2⟩:GSpot),(bBN x0 x1 x2).trans rfl,Nat.le_of_eq ((aWg _).trans rfl),fun h=>(aWh _).mpr h⟩
theorem rok {H:Type} (e:TypeId×Value→H) (W:World) {bl:DataW H→Nat} {bla:List (DataW H)→Nat} (hb:BlOk bl bla):ROk RS TS e Tryz.prog W bl where
 op:=aXL hb 9 BS hty hcv
 ag:=fun i=>match i with
  | 0=>fun x=>⟨_,iH x⟩
  | 1=>fun x=>⟨_,eO x⟩
  | 2=>fun x=>⟨_,iT x⟩
  | 3=>fun x=>⟨_,iU x⟩
  | 4=>fun x=>⟨_,oK x⟩
  | 5=>fun x=>⟨_,dY x⟩
  | 6=>fun x=>⟨_,oL x⟩
  | 7=>fun x=>⟨_,gH x⟩
  | 8=>fun x=>⟨_,dZ x⟩
  | 9=>fun x=>⟨_,fF x⟩
  | 10=>fun x=>⟨_,gT x⟩
  | 11=>fun x=>⟨_,dF x⟩
  | 12=>fun x=>⟨_,mN x⟩
  | 13=>fun x=>⟨_,cY x⟩
  | _+14=>fun x=>⟨_,aAC x⟩
 st:=fun i=>(hty i).imp fun F h=>h.1
open Go Go.Ev
abbrev aSd:=GSchema×GDoc
abbrev leaA:aSd→List PV:=fun x=>[(.agg [(.slice (List.map aK x.1.defs) [] false),(.str x.1.query),(.str x.1.mutation)]),(.agg [(.slice (List.map bL x.2.ops) [] false),(.slice (List.map aJ x.2.frags) [] false)])]
abbrev leaR:Bool→PV:=fun b => .bool b
def leaF (x:aSd):Option Bool:=if dW x.1≤1048576∧jL x.2≤1048576 then some true else none
def MTL:List (Nat×Hints):=[(6,{keeps:=[(4,[2,3,4,5]),(7,[2,3,4,5,6])],drop:=true}),
 (10,{keeps:=[(2,[1,2,3])],drop:=true}),
 (11,{keeps:=[(4,[2,3,4,6,7])],drop:=true}),
 (21,{drop:=true}),
 (22,{drop:=true}),
 (23,{takes:=[4],drop:=true}),
 (71,{drop:=true}),
 (137,{gens:=[21,31],keeps:=[(3,[1,3,4,9,12,13,14])],drop:=true}),
 (70,{gens:=[25,41],keeps:=[(2,[2,3,4,6,12,13,14]),(8,[2,3,6,29,30,31])],drop:=true}),
 (24,{gens:=[10],drop:=true}),
 (37,{takes:=[28],keeps:=[(3,[0,3,4])],drop:=true}),
 (58,{takes:=[29,30,51,52],keeps:=[(3,[2,3,5,6]),(7,[2,3,5,7])],drop:=true}),
 (59,{drop:=true}),
 (92,{keeps:=[(2,[1,2,3]),(8,[1,2,3,4,5])],drop:=true}),
 (96,{takes:=[48],keeps:=[(2,[1,2,3]),(6,[1,3,4,5]),(10,[1,3,4,5,6,7])],drop:=true}),
 (114,{takes:=[31,32,59],keeps:=[(3,[2,5,6]),(10,[2,5,9,10])],drop:=true}),
 (192,{keeps:=[(12,[4,6,8,9,11])],drop:=true}),
 (236,{takes:=[17,39,40,59,60,61],keeps:=[(4,[1,2,5]),(8,[1,2,6])],own:=true,drop:=true}),
 (238,{drop:=true}),
 (239,{takes:=[20],keeps:=[(3,[0,2,3,4,5])],drop:=true}),
 (32,{drop:=true}),
 (33,{keeps:=[(2,[1,2,3]),(8,[1,2,3,4,5]),(13,[1,2,6])],drop:=true}),
 (20,{keeps:=[(23,[2,3,4,6,7,8])],drop:=true}),
 (30,{keeps:=[(3,[1,3,4]),(8,[1,3,4,5,6])],drop:=true}),
 (31,{keeps:=[(3,[1,3,4]),(7,[1,3,4,5]),(11,[1,3,6])],drop:=true}),
 (66,{drop:=true}),
 (67,{drop:=true}),
 (68,{drop:=true}),
 (69,{takes:=[23,28,31,33],keeps:=[(2,[0,7,8,9])],own:=true,drop:=true}),
 (72,{drop:=true}),
 (73,{drop:=true}),
 (74,{drop:=true}),
 (138,{drop:=true}),
 (103,{takes:=[11],keeps:=[(3,[0,3,4])],drop:=true}),
 (36,{takes:=[11],keeps:=[(3,[0,3,4])],drop:=true}),
 (116,{drop:=true}),
 (115,{takes:=[16,38,39,40],keeps:=[(2,[1,2,3,4,9])],own:=true,drop:=true}),
 (117,{keeps:=[(7,[2,6,7,8,10])],drop:=true}),
 (118,{drop:=true}),
 (112,{drop:=true}),
 (119,{keeps:=[(3,[6,7,8,9])],drop:=true}),
 (113,{keeps:=[(2,[1,2,4,5,6])],drop:=true}),
 (163,{keeps:=[(2,[1,2,4,5])],drop:=true}),
 (166,{takes:=[48,53],keeps:=[(4,[2,5,6,8])],own:=true,drop:=true}),
 (29,{keeps:=[(2,[0,1,4,5])],drop:=true}),
 (182,{takes:=[4],own:=true,drop:=true}),
 (183,{takes:=[28,41,42,43],keeps:=[(2,[0,1,5])],own:=true,drop:=true}),
 (101,{drop:=true}),
 (224,{drop:=true}),
 (164,{keeps:=[(4,[1,2,4,5,6])],drop:=true}),
 (225,{keeps:=[(2,[1,2,3,6,7]),(8,[1,2,3,6,7,10]),(13,[1,2,6,11])],drop:=true}),
 (250,{keeps:=[(2,[0,1,5])],drop:=true}),
 (251,{keeps:=[(17,[0,1,4,5,6,7,8,9])],drop:=true}),
 (89,{keeps:=[(3,[1,2,3,4])],drop:=true}),
 (90,{drop:=true}),
 (91,{keeps:=[(2,[1,2,3]),(8,[1,2,3,4,5])],drop:=true}),
 (93,{keeps:=[(2,[1,2,3]),(6,[1,2,3,4,5]),(12,[1,2,3,4,5,6,8])],drop:=true}),
 (94,{keeps:=[(2,[1,2,3]),(6,[1,2,3,4,5]),(10,[1,2,3,4,5,6,8])],drop:=true}),
 (95,{keeps:=[(2,[1,2,3]),(5,[1,2,3,4])],drop:=true}),
 (97,{keeps:=[(2,[1,2,3]),(7,[1,2,3,4])],drop:=true}),
 (98,{keeps:=[(4,[0,2,3])],drop:=true}),
 (99,{keeps:=[(2,[0,1,2,6,7])],drop:=true}),
 (100,{keeps:=[(4,[0,1,4,5])],drop:=true}),
 (102,{drop:=true}),
 (51,{takes:=[19],keeps:=[(3,[1,3,4])],drop:=true}),
 (50,{keeps:=[(2,[0,2,3]),(5,[0,2,3,4])],drop:=true}),
 (52,{keeps:=[(2,[2,3,4,5])],drop:=true}),
 (53,{takes:=[12],keeps:=[(3,[1,3,4])],drop:=true}),
 (54,{keeps:=[(2,[2,3,4,5]),(8,[2,4,6,7])],drop:=true}),
 (55,{keeps:=[(3,[3,4,5,6])],drop:=true}),
 (56,{keeps:=[(2,[1,2,3])],drop:=true}),
 (57,{keeps:=[(2,[1,2,3]),(6,[1,3,4,5])],drop:=true}),
 (60,{keeps:=[(3,[2,4,6,7,8]),(6,[2,4,6,7,8,9])],drop:=true}),
 (61,{keeps:=[(3,[2,3,6,7,8]),(8,[2,3,6,7,8,9])],drop:=true}),
 (62,{keeps:=[(2,[2,3,4,6,7]),(9,[2,3,4,6,7,8,11])],drop:=true}),
 (63,{keeps:=[(2,[2,3,4,5]),(5,[2,3,4,5,6]),(12,[2,4,8,9]),(17,[2,4,8,9,10])],drop:=true}),
 (64,{keeps:=[(2,[2,3,4,5]),(6,[2,3,4,5,6,7])],drop:=true}),
 (65,{keeps:=[(2,[2,3,4,5]),(7,[2,3,4,6])],drop:=true}),
 (83,{keeps:=[(3,[0,3,4])],drop:=true}),
 (84,{keeps:=[(3,[0,3,4])],drop:=true}),
 (85,{keeps:=[(3,[0,3,4])],drop:=true}),
 (86,{keeps:=[(3,[0,3,4])],drop:=true}),
 (87,{keeps:=[(3,[0,3,4])],drop:=true}),
 (88,{keeps:=[(3,[1,3,4]),(7,[1,3,5])],drop:=true}),
 (136,{drop:=true}),
 (180,{drop:=true}),
 (179,{gens:=[16],keeps:=[(2,[0,1,4,7,8])],drop:=true}),
 (109,{gens:=[42],drop:=true}),
 (139,{drop:=true}),
 (140,{drop:=true}),
 (141,{keeps:=[(4,[7,8,18,19,20]),(7,[7,8,10,18,19,20,24,25,26])],drop:=true}),
 (154,{drop:=true}),
 (153,{gens:=[16],keeps:=[(2,[0,1,4,7,8])],drop:=true}),
 (82,{gens:=[10],drop:=true}),
 (175,{takes:=[12],keeps:=[(3,[1,2,3,4])],drop:=true}),
 (184,{drop:=true}),
 (159,{drop:=true}),
 (185,{takes:=[24,60,93],keeps:=[(8,[1,2,7,8]),(15,[2,5,7,10])],drop:=true}),
 (129,{drop:=true}),
 (156,{drop:=true}),
 (193,{keeps:=[(2,[0,1,4,5,6])],drop:=true}),
 (219,{keeps:=[(2,[0,1,4,5,6])],drop:=true}),
 (195,{drop:=true}),
 (170,{drop:=true}),
 (155,{takes:=[12],keeps:=[(3,[1,3,4])],drop:=true}),
 (157,{keeps:=[(2,[1,2,3])],drop:=true}),
 (158,{keeps:=[(2,[0,2,3])],drop:=true}),
 (160,{takes:=[11],keeps:=[(3,[0,3,4])],drop:=true}),
 (161,{takes:=[11],keeps:=[(3,[0,3,4])],drop:=true}),
 (162,{keeps:=[(2,[0,2,3]),(5,[0,2,3,4])],drop:=true}),
 (165,{keeps:=[(4,[4,5,6,7]),(10,[4,5,6,10])],drop:=true}),
 (167,{keeps:=[(2,[1,2,4,5])],drop:=true}),
 (168,{keeps:=[(2,[1,2,4,5])],drop:=true}),
 (169,{drop:=true}),
 (171,{keeps:=[(2,[0,1,2,6,7])],drop:=true}),
 (172,{drop:=true}),
 (173,{drop:=true}),
 (174,{keeps:=[(4,[2,3,4,5])],drop:=true}),
 (120,{takes:=[17,33,51],keeps:=[(3,[2,3,5,6]),(7,[2,3,5,7]),(12,[5,8,9])],drop:=true}),
 (121,{drop:=true}),
 (122,{takes:=[11],keeps:=[(3,[0,3,4])],drop:=true}),
 (124,{drop:=true}),
 (123,{drop:=true}),
 (125,{drop:=true}),
 (126,{takes:=[11],keeps:=[(3,[0,3,4])],drop:=true}),
 (127,{takes:=[11,32,33],keeps:=[(4,[2,5,6,7])],drop:=true}),
 (128,{keeps:=[(2,[0,1,4,5])],drop:=true}),
 (130,{drop:=true}),
 (131,{keeps:=[(2,[1,2,3,6,7])],drop:=true}),
 (132,{takes:=[38],keeps:=[(4,[3,4,7,8,9])],drop:=true}),
 (134,{keeps:=[(2,[0,1,4,5])],drop:=true}),
 (133,{drop:=true}),
 (135,{keeps:=[(4,[2,3,4,5,8,9])],drop:=true}),
 (200,{keeps:=[(2,[0,1,4,7,8])],drop:=true}),
 (178,{keeps:=[(4,[1,4,5,13,14,15])],drop:=true}),
 (201,{drop:=true}),
 (202,{takes:=[44,47,62,64],keeps:=[(10,[1,7,29,30,31]),(17,[2,7,52,53,54])],drop:=true}),
 (209,{drop:=true}),
 (210,{drop:=true}),
 (211,{drop:=true}),
 (212,{drop:=true}),
 (213,{keeps:=[(4,[1,3,4]),(10,[1,3,5])],drop:=true}),
 (214,{takes:=[4],drop:=true}),
 (215,{keeps:=[(4,[0,1,4,5])],drop:=true}),
 (186,{keeps:=[(2,[0,1,4,5])],drop:=true}),
 (187,{keeps:=[(2,[0,2,3]),(5,[0,2,3,4])],drop:=true}),
 (188,{keeps:=[(2,[0,1,4,5])],drop:=true}),
 (189,{takes:=[18,19,39,40,46,47,48],keeps:=[(2,[0,1,5]),(6,[0,1,5,6])],own:=true,drop:=true}),
 (190,{keeps:=[(3,[3,4]),(6,[3,4,5])],drop:=true,vecs:=[(7,1)],frz:=[(9,[3])]}),
 (191,{keeps:=[(25,[1,2,6]),(32,[1,2,7])],drop:=true}),
 (194,{takes:=[22,49,71,87],keeps:=[(3,[1,2,3,7,8]),(8,[1,2,3,7,8,9])],own:=true,drop:=true}),
 (196,{drop:=true}),
 (197,{drop:=true}),
 (199,{takes:=[26,37,66,75],keeps:=[(3,[2,3,4,5,9,10])],own:=true,drop:=true}),
 (198,{keeps:=[(2,[2,3,4,6,7]),(5,[2,3,4,6,7,8])],drop:=true}),
 (216,{drop:=true}),
 (228,{drop:=true}),
 (229,{takes:=[8,9],own:=true,drop:=true}),
 (232,{keeps:=[(2,[0,2,3])],drop:=true}),
 (233,{keeps:=[(2,[0,2,3])],drop:=true}),
 (234,{keeps:=[(2,[0,2,3])],drop:=true}),
 (235,{keeps:=[(2,[1,2,3]),(7,[1,2,4])],drop:=true}),
 (220,{takes:=[33,40],keeps:=[(2,[0,1,5]),(6,[0,1,5,6,7])],own:=true,drop:=true}),
 (221,{drop:=true}),
 (222,{keeps:=[(5,[0,2,3,4,5,6])],drop:=true}),
 (223,{drop:=true}),
 (226,{takes:=[27],keeps:=[(3,[1,2,3,7,8])],drop:=true}),
 (227,{drop:=true}),
 (245,{keeps:=[(2,[0,1,4,7,8])],drop:=true}),
 (240,{takes:=[55,95],keeps:=[(11,[4,7,9,11,12]),(17,[4,7,11,13,15])],drop:=true}),
 (241,{drop:=true}),
 (242,{keeps:=[(9,[4,5,8,13,14]),(12,[4,5,8,13,14,15])],drop:=true}),
 (243,{keeps:=[(4,[0,1,4,5])],drop:=true}),
 (244,{takes:=[22],drop:=true}),
 (252,{drop:=true})]
def MT (f:FuncId):Hints:=match Go.Ev.look MTL f with | some m=>m | none=>{}
noncomputable def XT:Ext:=fun f=>Go.Ev.look [(6,(aTy Tryz.prog (fun _ _=>none) 6 leaA leaR leaF))] f
noncomputable def O:Orc:=OL Tryz.prog MT XT
abbrev LBs:=cG→cG
abbrev EU:=Ex×List PV×UP
abbrev Ri {α:Type} (e:α→PV) (r:α) (v:PV×UP):Prop:=v=(e r,[])
noncomputable abbrev eW (i:Nat) (ds:Decs) (fn:Func) (O:Orc) (LP:LBs) (a:List PV) (u:UP):=xX Tryz.prog (MT i) ds fn.ntmps O LP fn a u
def aA:Bool→PV:=fun r=>PV.bool r
theorem aC (a b:Bool) (h:aA a=aA b):a=b:=Ev.bool_inj a b h
noncomputable def mP (s:GSchema) (d:GDoc):Option Bool:=tO O 6 [(eS s),(eD d)] [] fun r=>(aA r,[])
def cM:Int→PV:=fun r=>(PV.int .i64) r
theorem qI (a b:Int) (h:cM a=cM b):a=b:=(Ev.int_inj _) a b h
noncomputable def sG (s:GSchema):Option Int:=tO O 10 [(eS s)] [] fun r=>(cM r,[])
noncomputable def aG3 (s:GSchema) (d:GDoc) (n:Int):Option Bool:=tO O 11 [(eS s),(eD d),(i6 n)] [] fun r=>(aA r,[])
noncomputable def iD (s:GSchema) (d:GDoc):Option Bool:=tO O 21 [(eS s),(eD d)] [] fun r=>(aA r,[])
noncomputable def kI:Option Bool:=tO O 22 [] [] fun r=>(aA r,[])
def cN:(List Str)→PV:=fun r=>(xZ PV.str) r
theorem yK (a b:List Str) (h:cN a=cN b):a=b:=(Ev.encSl_inj Ev.str_inj) a b h
noncomputable def qA (l0:List GSel):Option (List Str):=tO O 23 [(zq aF l0)] [] fun r=>(cN r,[])
def iJ (typ:Str) (x:GSel) (u0_5:Int) (u0_4:GDoc) (u0_3:GSchema):Bool→UP:=fun r=>[[(5,[(i6 u0_5)]),(4,[(zq bL u0_4.ops),(zq aJ u0_4.frags)]),(3,[(zq aK u0_3.defs),(.str u0_3.query),(.str u0_3.mutation)])]]
noncomputable def aG4 (typ:Str) (x:GSel) (u0_5:Int) (u0_4:GDoc) (u0_3:GSchema):Option Bool:=tO O 71 [(.str typ),(eL x),(.ptr 1 5 0),(.ptr 1 3 0),(.ptr 1 4 0)] [[(5,[(i6 u0_5)]),(4,[(zq bL u0_4.ops),(zq aJ u0_4.frags)]),(3,[(zq aK u0_3.defs),(.str u0_3.query),(.str u0_3.mutation)])]] fun r=>(aA r,(iJ typ x u0_5 u0_4 u0_3 r))
def kO (s:GSchema) (typ:Str) (l0:List GSel) (u0_5:Int) (u0_4:GDoc) (u0_3:GSchema):Bool→UP:=fun r=>[[(5,[(i6 u0_5)]),(4,[(zq bL u0_4.ops),(zq aJ u0_4.frags)]),(3,[(zq aK u0_3.defs),(.str u0_3.query),(.str u0_3.mutation)])]]
noncomputable def aMv (s:GSchema) (typ:Str) (l0:List GSel) (u0_5:Int) (u0_4:GDoc) (u0_3:GSchema):Option Bool:=tO O 137 [(eS s),(.str typ),(zq aF l0),(.func (.func 71) [] [(.ptr 1 5 0),(.ptr 1 3 0),(.ptr 1 4 0)])] [[(5,[(i6 u0_5)]),(4,[(zq bL u0_4.ops),(zq aJ u0_4.frags)]),(3,[(zq aK u0_3.defs),(.str u0_3.query),(.str u0_3.mutation)])]] fun r=>(aA r,(kO s typ l0 u0_5 u0_4 u0_3 r))
def qB (s:GSchema) (d:GDoc) (u0_5:Int) (u0_4:GDoc) (u0_3:GSchema):Bool→UP:=fun r=>[[(5,[(i6 u0_5)]),(4,[(zq bL u0_4.ops),(zq aJ u0_4.frags)]),(3,[(zq aK u0_3.defs),(.str u0_3.query),(.str u0_3.mutation)])]]
noncomputable def aPr (s:GSchema) (d:GDoc) (u0_5:Int) (u0_4:GDoc) (u0_3:GSchema):Option Bool:=tO O 70 [(eS s),(eD d),(.func (.func 71) [] [(.ptr 1 5 0),(.ptr 1 3 0),(.ptr 1 4 0)])] [[(5,[(i6 u0_5)]),(4,[(zq bL u0_4.ops),(zq aJ u0_4.frags)]),(3,[(zq aK u0_3.defs),(.str u0_3.query),(.str u0_3.mutation)])]] fun r=>(aA r,(qB s d u0_5 u0_4 u0_3 r))
noncomputable def tH (s:GSchema) (d:GDoc) (n:Int):Option Bool:=tO O 24 [(eS s),(eD d),(i6 n)] [] fun r=>(aA r,[])
def aAE:(List GSel)→PV:=fun r=>(xZ aF) r
theorem aWl (a b:List GSel) (h:aAE a=aAE b):a=b:=(Ev.encSl_inj aDb) a b h
noncomputable def aG5 (l0:List GSel):Option (List GSel):=tO O 37 [(zq aF l0)] [] fun r=>(aAE r,[])
def uB:(List GSeineref13Spot)→PV:=fun r=>(xZ aH) r
theorem aTE (a b:List GSeineref13Spot) (h:uB a=uB b):a=b:=(Ev.encSl_inj rB) a b h
noncomputable def aDd (s:GSchema) (d:GDoc):Option (List GSeineref13Spot):=tO O 58 [(eS s),(eD d)] [] fun r=>(uB r,[])
noncomputable def sH (s:GSchema) (d:GDoc) (x:GSeineref13Spot) (n:Int):Option Bool:=tO O 59 [(eS s),(eD d),(.agg [(.str x.typ),(i6 x.x.kind),(.str x.x.alias),(.str x.x.name),(zq aD x.x.args),(zq aU x.x.dirs),(.str x.x.on_),(zq aF x.x.sels)]),(i6 n)] [] fun r=>(aA r,[])
noncomputable def aKq (s:GSchema):Option Bool:=tO O 92 [(eS s)] [] fun r=>(aA r,[])
noncomputable def aKr (s:GSchema):Option Bool:=tO O 96 [(eS s)] [] fun r=>(aA r,[])
noncomputable def aSe (d:GDoc) (l0:List GSel):Option (List Str):=tO O 114 [(eD d),(zq aF l0)] [] fun r=>(cN r,[])
noncomputable def sI (s:GSchema) (t:GType) (v0:GValue) (alone:Bool):Option Bool:=tO O 192 [(eS s),(eT t),(eV v0),(.bool alone)] [] fun r=>(aA r,[])
def iL:(List Str)→PV:=fun r => .slice (List.map PV.str r) [] true
theorem yL (a b:List Str) (h:iL a=iL b):a=b:=Ev.encSlO_inj Ev.str_inj a b h
noncomputable def aKs (v0:GValue) (out0:List Str):Option (List Str):=tO O 236 [(eV v0),(zp PV.str out0)] [] fun r=>(iL r,[])
def gW:(Int×Int)→PV:=fun r => .tuple [(PV.int .i64) r.1,(PV.int .i64) r.2]
theorem aFa (a b:Int×Int) (h:gW a=gW b):a=b:=by
 simp only [gW,PV.tuple.injEq,List.cons.injEq,and_true] at h
 exact Prod.ext ((Ev.int_inj _) _ _ h.1) ((Ev.int_inj _) _ _ h.2)
noncomputable def aJf (s:Str):Option (Int×Int):=tO O 238 [(.str s)] [] fun r=>(gW r,[])
def rD:((List Int)×Bool)→PV:=fun r => .tuple [(xZ (PV.int .i64)) r.1,PV.bool r.2]
theorem aTF (a b:(List Int)×Bool) (h:rD a=rD b):a=b:=by
 simp only [rD,PV.tuple.injEq,List.cons.injEq,and_true] at h
 exact Prod.ext ((Ev.encSl_inj (Ev.int_inj _)) _ _ h.1) (Ev.bool_inj _ _ h.2)
noncomputable def aSf (s:Str):Option ((List Int)×Bool):=tO O 239 [(.str s)] [] fun r=>(rD r,[])
noncomputable def yM (s:GSchema) (n:Int):Option Bool:=tO O 32 [(eS s),(i6 n)] [] fun r=>(aA r,[])
noncomputable def aSg (d:GDoc):Option Bool:=tO O 33 [(eD d)] [] fun r=>(aA r,[])
noncomputable def yN (s:GSchema) (d:GDoc) (n:Int):Option Bool:=tO O 20 [(eS s),(eD d),(i6 n)] [] fun r=>(aA r,[])
noncomputable def yO (s:GSchema):Option Bool:=tO O 30 [(eS s)] [] fun r=>(aA r,[])
noncomputable def yP (d:GDoc):Option Bool:=tO O 31 [(eD d)] [] fun r=>(aA r,[])
def mQ:Str→PV:=fun r=>PV.str r
theorem aDe (a b:Str) (h:mQ a=mQ b):a=b:=Ev.str_inj a b h
noncomputable def aPs (s:GSchema) (o:GOp):Option Str:=tO O 68 [(eS s),(.agg [(i6 o.kind),(.str o.name),(zq aY o.vars),(zq aU o.dirs),(zq aF o.sels)])] [] fun r=>(mQ r,[])
noncomputable def fH (l0:List Str) (sels:List GSel):Option (List Str):=tO O 69 [(zp PV.str l0),(zq aF sels)] [] fun r=>(iL r,[])
noncomputable def aKt (s:GSchema) (typ:Str) (x:GSel):Option Bool:=tO O 72 [(eS s),(.str typ),(eL x)] [] fun r=>(aA r,[])
noncomputable def aPt (s:GSchema) (typ:Str) (x:GSel):Option Bool:=tO O 73 [(eS s),(.str typ),(eL x)] [] fun r=>(aA r,[])
noncomputable def aYa (s:GSchema) (d:GDoc) (typ:Str) (x:GSel):Option Bool:=tO O 74 [(eS s),(eD d),(.str typ),(eL x)] [] fun r=>(aA r,[])
noncomputable def aDf (s:GSchema) (typ:Str) (x:GSel):Option Str:=tO O 138 [(eS s),(.str typ),(eL x)] [] fun r=>(mQ r,[])
def nM:(List GMember)→PV:=fun r=>(xZ aD) r
theorem aMw (a b:List GMember) (h:nM a=nM b):a=b:=(Ev.encSl_inj kN) a b h
noncomputable def qJ (l0:List GMember):Option (List GMember):=tO O 103 [(zq aD l0)] [] fun r=>(nM r,[])
def aAF:(List GDir)→PV:=fun r=>(xZ aU) r
theorem aWm (a b:List GDir) (h:aAF a=aAF b):a=b:=(Ev.encSl_inj aAB) a b h
noncomputable def aKu (l0:List GDir):Option (List GDir):=tO O 36 [(zq aU l0)] [] fun r=>(aAF r,[])
noncomputable def aPu (s:GSchema) (o:GOp):Option Str:=tO O 116 [(eS s),(.agg [(i6 o.kind),(.str o.name),(zq aY o.vars),(zq aU o.dirs),(zq aF o.sels)])] [] fun r=>(mQ r,[])
def yQ:(List GSeineref13Spot)→PV:=fun r => .slice (List.map aH r) [] true
theorem aTG (a b:List GSeineref13Spot) (h:yQ a=yQ b):a=b:=Ev.encSlO_inj rB a b h
noncomputable def aDg (s:GSchema) (typ:Str) (l0:List GSel) (out0:List GSeineref13Spot):Option (List GSeineref13Spot):=tO O 115 [(eS s),(.str typ),(zq aF l0),(zp aH out0)] [] fun r=>(yQ r,[])
def oM:(GFieldDef×Bool)→PV:=fun r => .tuple [aG r.1,PV.bool r.2]
theorem aJg (a b:GFieldDef×Bool) (h:oM a=oM b):a=b:=by
 simp only [oM,PV.tuple.injEq,List.cons.injEq,and_true] at h
 exact Prod.ext (aDa _ _ h.1) (Ev.bool_inj _ _ h.2)
noncomputable def aF3 (s:GSchema) (typ:Str) (name:Str):Option (GFieldDef×Bool):=tO O 117 [(eS s),(.str typ),(.str name)] [] fun r=>(oM r,[])
noncomputable def aKv (s:GSchema) (name:Str):Option Bool:=tO O 118 [(eS s),(.str name)] [] fun r=>(aA r,[])
noncomputable def lJ (s:GSchema) (name:Str):Option Bool:=tO O 112 [(eS s),(.str name)] [] fun r=>(aA r,[])
noncomputable def aSh (s:GSchema) (a:Str) (b:Str):Option Bool:=tO O 119 [(eS s),(.str a),(.str b)] [] fun r=>(aA r,[])
def aAG:(GFrag×Bool)→PV:=fun r => .tuple [aJ r.1,PV.bool r.2]
theorem aWn (a b:GFrag×Bool) (h:aAG a=aAG b):a=b:=by
 simp only [aAG,PV.tuple.injEq,List.cons.injEq,and_true] at h
 exact Prod.ext (aMs _ _ h.1) (Ev.bool_inj _ _ h.2)
noncomputable def aKw (d:GDoc) (name:Str):Option (GFrag×Bool):=tO O 113 [(eD d),(.str name)] [] fun r=>(aAG r,[])
noncomputable def lK (s:GSchema) (l0:List GParam):Option Bool:=tO O 163 [(eS s),(zq aQ l0)] [] fun r=>(aA r,[])
noncomputable def aF4 (s:GSchema) (name:Str):Option (List Str):=tO O 166 [(eS s),(.str name)] [] fun r=>(iL r,[])
noncomputable def aBj (l0:List Str) (s:Str):Option Bool:=tO O 29 [(zq PV.str l0),(.str s)] [] fun r=>(aA r,[])
noncomputable def aEa (l0:List GSel):Option (List Str):=tO O 182 [(zq aF l0)] [] fun r=>(iL r,[])
noncomputable def jM (l0:List GSel) (out0:List Str):Option (List Str):=tO O 183 [(zq aF l0),(zp PV.str out0)] [] fun r=>(iL r,[])
noncomputable def oN (t:GType):Option Bool:=tO O 101 [(eT t)] [] fun r=>(aA r,[])
def aAH:(GType×Bool)→PV:=fun r => .tuple [iS r.1,PV.bool r.2]
theorem aWo (a b:GType×Bool) (h:aAH a=aAH b):a=b:=by
 simp only [aAH,PV.tuple.injEq,List.cons.injEq,and_true] at h
 exact Prod.ext (aWc _ _ h.1) (Ev.bool_inj _ _ h.2)
noncomputable def aPv (t:GType):Option (GType×Bool):=tO O 224 [(eT t)] [] fun r=>(aAH r,[])
def sJ:(GDef×Bool)→PV:=fun r => .tuple [aK r.1,PV.bool r.2]
theorem aMx (a b:GDef×Bool) (h:sJ a=sJ b):a=b:=by
 simp only [sJ,PV.tuple.injEq,List.cons.injEq,and_true] at h
 exact Prod.ext (aSb _ _ h.1) (Ev.bool_inj _ _ h.2)
noncomputable def vL (s:GSchema) (name:Str):Option (GDef×Bool):=tO O 164 [(eS s),(.str name)] [] fun r=>(sJ r,[])
noncomputable def aAI (s:GSchema) (l0:List GParam) (m:List GMember):Option Bool:=tO O 225 [(eS s),(zq aQ l0),(zq aD m)] [] fun r=>(aA r,[])
noncomputable def yR (s:Str) (i:Int):Option Int:=tO O 250 [(.str s),(.int .i64 i)] [] fun r=>(cM r,[])
noncomputable def aPw (s:Str) (i:Int):Option (Int×Int):=tO O 251 [(.str s),(i6 i)] [] fun r=>(gW r,[])
noncomputable def aYb (s:GSchema):Option Bool:=tO O 89 [(eS s)] [] fun r=>(aA r,[])
noncomputable def aMy (s:GSchema) (name:Str):Option Bool:=tO O 90 [(eS s),(.str name)] [] fun r=>(aA r,[])
noncomputable def aYc (s:GSchema):Option Bool:=tO O 91 [(eS s)] [] fun r=>(aA r,[])
noncomputable def aYd (s:GSchema):Option Bool:=tO O 93 [(eS s)] [] fun r=>(aA r,[])
noncomputable def aYe (s:GSchema):Option Bool:=tO O 94 [(eS s)] [] fun r=>(aA r,[])
noncomputable def aYf (s:GSchema):Option Bool:=tO O 95 [(eS s)] [] fun r=>(aA r,[])
noncomputable def aYg (s:GSchema):Option Bool:=tO O 97 [(eS s)] [] fun r=>(aA r,[])
noncomputable def aPx (s:Str):Option Bool:=tO O 98 [(.str s)] [] fun r=>(aA r,[])
noncomputable def aSi (d:GDoc):Option (List Str):=tO O 51 [(eD d)] [] fun r=>(cN r,[])
noncomputable def aSj (l0:List Str):Option Bool:=tO O 50 [(zq PV.str l0)] [] fun r=>(aA r,[])
noncomputable def aYh (s:GSchema) (d:GDoc):Option Bool:=tO O 52 [(eS s),(eD d)] [] fun r=>(aA r,[])
noncomputable def aMz (d:GDoc):Option (List Str):=tO O 53 [(eD d)] [] fun r=>(cN r,[])
noncomputable def aYi (s:GSchema) (d:GDoc):Option Bool:=tO O 54 [(eS s),(eD d)] [] fun r=>(aA r,[])
noncomputable def aYj (s:GSchema) (d:GDoc):Option Bool:=tO O 55 [(eS s),(eD d)] [] fun r=>(aA r,[])
noncomputable def aYk (d:GDoc):Option Bool:=tO O 56 [(eD d)] [] fun r=>(aA r,[])
noncomputable def aYl (d:GDoc):Option Bool:=tO O 57 [(eD d)] [] fun r=>(aA r,[])
noncomputable def aEb (s:GSchema) (d:GDoc) (n:Int):Option Bool:=tO O 60 [(eS s),(eD d),(i6 n)] [] fun r=>(aA r,[])
noncomputable def aEc (s:GSchema) (d:GDoc) (n:Int):Option Bool:=tO O 61 [(eS s),(eD d),(i6 n)] [] fun r=>(aA r,[])
noncomputable def aAJ (s:GSchema) (d:GDoc) (n:Int):Option Bool:=tO O 62 [(eS s),(eD d),(i6 n)] [] fun r=>(aA r,[])
noncomputable def aWp (s:GSchema) (d:GDoc):Option Bool:=tO O 63 [(eS s),(eD d)] [] fun r=>(aA r,[])
noncomputable def aWq (s:GSchema) (d:GDoc):Option Bool:=tO O 64 [(eS s),(eD d)] [] fun r=>(aA r,[])
noncomputable def aWr (s:GSchema) (d:GDoc):Option Bool:=tO O 65 [(eS s),(eD d)] [] fun r=>(aA r,[])
noncomputable def dQ (s:List Str) (v0:Str):Option Bool:=tO O 136 [(zq PV.str s),(.str v0)] [] fun r=>(aA r,[])
def kP (f:GFieldDef) (u0_8:GDef) (u0_6:Str) (u0_60:Str) (u0_600:Int) (u0_6000:Int) (u0_5:Str) (u0_3:GSchema):Bool→UP:=fun r=>[[(8,[(i6 u0_8.kind),(.str u0_8.name),(zq PV.str u0_8.faces),(zq aG u0_8.fields),(zq PV.str u0_8.parts),(zq aQ u0_8.params)]),(6,[(.str u0_6),(.slice [] [] true),(.str u0_60),(i6 u0_600),(i6 u0_6000),(.slice [] [] true)]),(5,[(.str u0_5)]),(3,[(zq aK u0_3.defs),(.str u0_3.query),(.str u0_3.mutation)])]]
noncomputable def aEd (f:GFieldDef) (u0_8:GDef) (u0_6:Str) (u0_60:Str) (u0_600:Int) (u0_6000:Int) (u0_5:Str) (u0_3:GSchema):Option Bool:=tO O 180 [(.agg [(.str f.name),(zq aQ f.params),(.str f.t.name),(i6 f.t.lists),(i6 f.t.musts),(zq aU f.dirs)]),(.ptr 1 5 0)] [[(8,[(i6 u0_8.kind),(.str u0_8.name),(zq PV.str u0_8.faces),(zq aG u0_8.fields),(zq PV.str u0_8.parts),(zq aQ u0_8.params)]),(6,[(.str u0_6),(.slice [] [] true),(.str u0_60),(i6 u0_600),(i6 u0_6000),(.slice [] [] true)]),(5,[(.str u0_5)]),(3,[(zq aK u0_3.defs),(.str u0_3.query),(.str u0_3.mutation)])]] fun r=>(aA r,(kP f u0_8 u0_6 u0_60 u0_600 u0_6000 u0_5 u0_3 r))
def bH (s:List GFieldDef) (u0_8:GDef) (u0_6:Str) (u0_60:Str) (u0_600:Int) (u0_6000:Int) (u0_5:Str) (u0_3:GSchema):Int→UP:=fun r=>[[(8,[(i6 u0_8.kind),(.str u0_8.name),(zq PV.str u0_8.faces),(zq aG u0_8.fields),(zq PV.str u0_8.parts),(zq aQ u0_8.params)]),(6,[(.str u0_6),(.slice [] [] true),(.str u0_60),(i6 u0_600),(i6 u0_6000),(.slice [] [] true)]),(5,[(.str u0_5)]),(3,[(zq aK u0_3.defs),(.str u0_3.query),(.str u0_3.mutation)])]]
noncomputable def kQ (s:List GFieldDef) (u0_8:GDef) (u0_6:Str) (u0_60:Str) (u0_600:Int) (u0_6000:Int) (u0_5:Str) (u0_3:GSchema):Option Int:=tO O 179 [(zq aG s),(.func (.func 180) [] [(.ptr 1 5 0)])] [[(8,[(i6 u0_8.kind),(.str u0_8.name),(zq PV.str u0_8.faces),(zq aG u0_8.fields),(zq PV.str u0_8.parts),(zq aQ u0_8.params)]),(6,[(.str u0_6),(.slice [] [] true),(.str u0_60),(i6 u0_600),(i6 u0_6000),(.slice [] [] true)]),(5,[(.str u0_5)]),(3,[(zq aK u0_3.defs),(.str u0_3.query),(.str u0_3.mutation)])]] fun r=>(cM r,(bH s u0_8 u0_6 u0_60 u0_600 u0_6000 u0_5 u0_3 r))
noncomputable def aF5 (s:GSchema) (typ:Str) (name:Str):Option (GFieldDef×Bool):=tO O 109 [(eS s),(.str typ),(.str name)] [] fun r=>(oM r,[])
noncomputable def aPy (s:GSchema) (name:Str):Option Bool:=tO O 139 [(eS s),(.str name)] [] fun r=>(aA r,[])
noncomputable def lL (s:GSchema) (name:Str):Option Bool:=tO O 140 [(eS s),(.str name)] [] fun r=>(aA r,[])
def yS:GValue→PV:=fun r=>aN r
theorem aTH (a b:GValue) (h:yS a=yS b):a=b:=qH a b h
noncomputable def aAK (v0:GValue):Option GValue:=tO O 175 [(eV v0)] [] fun r=>(yS r,[])
noncomputable def aG6 (s:GSchema) (typ:Str) (x:GSel):Option Str:=tO O 184 [(eS s),(.str typ),(eL x)] [] fun r=>(mQ r,[])
noncomputable def aWs (s:GSchema) (name:Str) (a:Int) (b:Int) (c:Int):Option Bool:=tO O 159 [(eS s),(.str name),(i6 a),(i6 b),(i6 c)] [] fun r=>(aA r,[])
noncomputable def aG7 (name:Str):Option Bool:=tO O 156 [(.str name)] [] fun r=>(aA r,[])
def uC:(GParam×Bool)→PV:=fun r => .tuple [aQ r.1,PV.bool r.2]
theorem aTI (a b:GParam×Bool) (h:uC a=uC b):a=b:=by
 simp only [uC,PV.tuple.injEq,List.cons.injEq,and_true] at h
 exact Prod.ext (aD5 _ _ h.1) (Ev.bool_inj _ _ h.2)
noncomputable def aKx (l0:List GParam) (name:Str):Option (GParam×Bool):=tO O 193 [(zq aQ l0),(.str name)] [] fun r=>(uC r,[])
def aEe:(GValue×Bool)→PV:=fun r => .tuple [aN r.1,PV.bool r.2]
theorem aYm (a b:GValue×Bool) (h:aEe a=aEe b):a=b:=by
 simp only [aEe,PV.tuple.injEq,List.cons.injEq,and_true] at h
 exact Prod.ext (qH _ _ h.1) (Ev.bool_inj _ _ h.2)
noncomputable def aSk (name:Str) (l0:List GMember):Option (GValue×Bool):=tO O 219 [(.str name),(zq aD l0)] [] fun r=>(aEe r,[])
noncomputable def bAJ (t:GType):Option Bool:=tO O 195 [(eT t)] [] fun r=>(aA r,[])
noncomputable def aF6 (c:Int):Option Bool:=tO O 170 [(.int .u8 c)] [] fun r=>(aA r,[])
noncomputable def aF7 (c:Int):Option Bool:=tO O 169 [(.int .u8 c)] [] fun r=>(aA r,[])
noncomputable def dB (s:List Str) (v0:Str):Option Int:=tO O 200 [(zq PV.str s),(.str v0)] [] fun r=>(cM r,[])
noncomputable def aG8 (s:GSchema) (name:Str):Option (GDef×Bool):=tO O 178 [(eS s),(.str name)] [] fun r=>(sJ r,[])
noncomputable def aKy (s:GSchema) (name:Str) (kinds:List Int):Option Bool:=tO O 201 [(eS s),(.str name),(.slice (List.map (PV.int .i64) kinds) [] false)] [] fun r=>(aA r,[])
noncomputable def aG9 (name:Str):Option Bool:=tO O 216 [(.str name)] [] fun r=>(aA r,[])
noncomputable def gX (s:List Int) (v0:Int):Option Bool:=tO O 228 [(.slice (List.map (PV.int .i64) s) [] false),(i6 v0)] [] fun r=>(aA r,[])
noncomputable def fU (s:List Int) (v0:Int):Option Int:=tO O 245 [(.slice (List.map (PV.int .i64) s) [] false),(i6 v0)] [] fun r=>(cM r,[])
theorem zes:(∀ r:Bool,aA r=PV.bool r) ∧
 (∀ r:Int,cM r=(PV.int .i64) r) ∧
 (∀ r:(List Str),cN r=(xZ PV.str) r) ∧
 (∀ r:(List GSel),aAE r=(xZ aF) r) ∧
 (∀ r:(List GSeineref13Spot),uB r=(xZ aH) r) ∧
 (∀ r:(List Str),iL r = .slice (List.map PV.str r) [] true) ∧
 (∀ r:(Int×Int),gW r = .tuple [(PV.int .i64) r.1,(PV.int .i64) r.2]) ∧
 (∀ r:((List Int)×Bool),rD r = .tuple [(xZ (PV.int .i64)) r.1,PV.bool r.2]) ∧
 (∀ r:Str,mQ r=PV.str r) ∧
 (∀ r:(List GMember),nM r=(xZ aD) r) ∧
 (∀ r:(List GDir),aAF r=(xZ aU) r) ∧
 (∀ r:(List GSeineref13Spot),yQ r = .slice (List.map aH r) [] true) ∧
 (∀ r:(GFieldDef×Bool),oM r = .tuple [aG r.1,PV.bool r.2]) ∧
 (∀ r:(GFrag×Bool),aAG r = .tuple [aJ r.1,PV.bool r.2]) ∧
 (∀ r:(GType×Bool),aAH r = .tuple [iS r.1,PV.bool r.2]) ∧
 (∀ r:(GDef×Bool),sJ r = .tuple [aK r.1,PV.bool r.2]) ∧
 (∀ r:GValue,yS r=aN r) ∧
 (∀ r:(GParam×Bool),uC r = .tuple [aQ r.1,PV.bool r.2]) ∧
 (∀ r:(GValue×Bool),aEe r = .tuple [aN r.1,PV.bool r.2]) :=
 ⟨fun _=>rfl,fun _=>rfl,fun _=>rfl,fun _=>rfl,fun _=>rfl,fun _=>rfl,fun _=>rfl,fun _=>rfl,fun _=>rfl,fun _=>rfl,fun _=>rfl,fun _=>rfl,fun _=>rfl,fun _=>rfl,fun _=>rfl,fun _=>rfl,fun _=>rfl,fun _=>rfl,fun _=>rfl⟩
end Go.Proofs.YtphmfillajagdaaGreat

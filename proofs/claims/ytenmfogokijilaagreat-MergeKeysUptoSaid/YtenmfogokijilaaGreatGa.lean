import Derived.Test.YtenmfogokijilaaGreatEc
import Derived.Test.YtenmfogokijilaaGreatProg
import Derived.KernelRfl
import Derived.LoopTactic
import Derived.WalkKit
noncomputable section
set_option linter.unusedVariables false
set_option linter.unusedSimpArgs false
set_option linter.unusedSimpArgs false
open Go Go.Ev Go.Ev.PV
namespace Go.Ev
theorem aaf:type_of% @List.cons.injEq:=@List.cons.injEq
theorem aaz:type_of% @Prod.ext:=@Prod.ext
end Go.Ev
namespace Go.Proofs.YtenmfogokijilaaGreat
structure GType where
 name:Str
 lists:Int
 musts:Int
mutual
structure GValue where
 kind:Int
 n:Int
 s:Str
 l:List GValue
 m:List GMember
structure GMember where
 name:Str
 v:GValue
end
structure GParam where
 name:Str
 t:GType
 has:Bool
 default:GValue
structure GDir where
 name:Str
 args:List GMember
structure GFieldDef where
 name:Str
 params:List GParam
 t:GType
 dirs:List GDir
structure GDef where
 kind:Int
 name:Str
 faces:List Str
 fields:List GFieldDef
 parts:List Str
 params:List GParam
structure GSchema where
 defs:List GDef
 query:Str
 mutation:Str
structure GVarDef where
 name:Str
 t:GType
 has:Bool
 default:GValue
structure GSel where
 kind:Int
 alias:Str
 name:Str
 args:List GMember
 dirs:List GDir
 on_:Str
 sels:List GSel
structure GOp where
 kind:Int
 name:Str
 vars:List GVarDef
 dirs:List GDir
 sels:List GSel
structure GFrag where
 name:Str
 on_:Str
 dirs:List GDir
 sels:List GSel
structure GDoc where
 ops:List GOp
 frags:List GFrag
structure GSeineref13Spot where
 typ:Str
 x:GSel
structure GMergeItem where
 no:Int
 x:GSel
 typ:Str
 sub:List GMergeItem
structure GSpot where
 var:Str
 t:GType
 has:Bool
def rJ (x:GType):PV := .agg [.str x.name,.int .i64 x.lists,.int .i64 x.musts]
theorem pI (x:GType):rJ x = .agg [.str x.name,.int .i64 x.lists,.int .i64 x.musts]:=rfl
def bHM (x:GType):PV := .agg [.str x.name,.int .i64 x.lists,.int .i64 x.musts]
theorem bCp (a b:GType) (h:rJ a=rJ b):a=b:=by
 simp only [pI,PV.agg.injEq,aaf,PV.slice.injEq,PV.str.injEq,PV.int.injEq,PV.bool.injEq,true_and,and_true] at h
 obtain ⟨a0,a1,a2⟩:=a
 obtain ⟨b0,b1,b2⟩:=b
 dsimp only at h
 have e0:=h.1
 have e1:=h.2.1
 have e2:=h.2.2
 subst e0 e1 e2
 rfl
mutual
def aW:GValue->PV
 | ⟨x0,x1,x2,x3,x4⟩ => .agg ([.int .i64 x0,.int .i64 x1,.str x2,.slice (qM x3) [] false,.slice (nC x4) [] false])
def aE:GMember->PV
 | ⟨x0,x1⟩ => .agg ([.str x0]++(aW x1).cells)
def qM:List GValue->List PV
 | []=>[]
 | x::l=>aW x::qM l
def nC:List GMember->List PV
 | []=>[]
 | x::l=>aE x::nC l
end
theorem aD5:∀ (l:List GValue),qM l=List.map aW l
 | []=>by simp only [qM,List.map]
 | x::l=>by simp only [qM,List.map,aD5 l]
theorem aCo:∀ (l:List GMember),nC l=List.map aE l
 | []=>by simp only [nC,List.map]
 | x::l=>by simp only [nC,List.map,aCo l]
theorem eK (x:GValue):aW x = .agg [.int .i64 x.kind,.int .i64 x.n,.str x.s,.slice (List.map aW x.l) [] false,.slice (List.map aE x.m) [] false]:=by
 cases x;simp only [aW,cells,aaj,aai,aD5,aCo]
theorem lQ (x:GMember):aE x = .agg [.str x.name,.int .i64 x.v.kind,.int .i64 x.v.n,.str x.v.s,.slice (List.map aW x.v.l) [] false,.slice (List.map aE x.v.m) [] false]:=by
 cases x;simp only [aE,cells,aaj,aai,aD5,aCo,eK]
def aQR (x:GValue):PV := .agg [.int .i64 x.kind,.int .i64 x.n,.str x.s,.slice (List.map aW x.l) [] false,.slice (List.map aE x.m) [] false]
def kA:TK GValue:=⟨aW,aQR,5,fun x=>(eK x).symm,fun x=>by rw [eK];rfl,by decide⟩
def bCq (x:GMember):PV := .agg [.str x.name,.int .i64 x.v.kind,.int .i64 x.v.n,.str x.v.s,.slice (List.map aW x.v.l) [] false,.slice (List.map aE x.v.m) [] false]
def aT:TK GMember:=⟨aE,bCq,6,fun x=>(lQ x).symm,fun x=>by rw [lQ];rfl,by decide⟩
mutual
theorem yO:∀ (a b:GValue),aW a=aW b->a=b
 | ⟨a0,a1,a2,a3,a4⟩,⟨b0,b1,b2,b3,b4⟩,h=>by
  simp only [aW,PV.agg.injEq,aaf,List.append_eq,PV.slice.injEq,PV.str.injEq,PV.int.injEq,PV.bool.injEq,true_and,and_true] at h
  have e0:=h.1
  have e1:=h.2.1
  have e2:=h.2.2.1
  have e3:=aMH _ _ h.2.2.2.1
  have e4:=aKf _ _ h.2.2.2.2
  subst e0 e1 e2 e3 e4
  rfl
theorem oG:∀ (a b:GMember),aE a=aE b->a=b
 | ⟨a0,a1⟩,⟨b0,b1⟩,h=>by
  simp only [aE,PV.agg.injEq,aaj,aai,aaf,PV.slice.injEq,PV.str.injEq,PV.int.injEq,PV.bool.injEq,true_and,and_true] at h
  have e0:=h.1
  have e1:=yO a1 b1 (by
   have h':=h.2
   cases a1;cases b1;simp only [aW,cells] at h' ⊢;rw [h'])
  subst e0 e1
  rfl
theorem aMH:∀ (a b:List GValue),qM a=qM b->a=b
 | [],[],_=>rfl
 | [],_::_,h=>by simp [qM] at h
 | _::_,[],h=>by simp [qM] at h
 | x::l,y::m,h=>by
  simp only [qM,aaf] at h
  rw [yO x y h.1,aMH l m h.2]
theorem aKf:∀ (a b:List GMember),nC a=nC b->a=b
 | [],[],_=>rfl
 | [],_::_,h=>by simp [nC] at h
 | _::_,[],h=>by simp [nC] at h
 | x::l,y::m,h=>by
  simp only [nC,aaf] at h
  rw [oG x y h.1,aKf l m h.2]
end
def bR (x:GParam):PV := .agg [.str x.name,.str x.t.name,.int .i64 x.t.lists,.int .i64 x.t.musts,.bool x.has,.int .i64 x.default.kind,.int .i64 x.default.n,.str x.default.s,.slice (List.map aW x.default.l) [] false,.slice (List.map aE x.default.m) [] false]
theorem kM (x:GParam):bR x = .agg [.str x.name,.str x.t.name,.int .i64 x.t.lists,.int .i64 x.t.musts,.bool x.has,.int .i64 x.default.kind,.int .i64 x.default.n,.str x.default.s,.slice (List.map aW x.default.l) [] false,.slice (List.map aE x.default.m) [] false]:=rfl
def aYp (x:GParam):PV := .agg [.str x.name,.str x.t.name,.int .i64 x.t.lists,.int .i64 x.t.musts,.bool x.has,.int .i64 x.default.kind,.int .i64 x.default.n,.str x.default.s,.slice (List.map aW x.default.l) [] false,.slice (List.map aE x.default.m) [] false]
def zJ:TK GParam:=⟨bR,aYp,10,fun x=>(kM x).symm,fun x=>by rw [kM];rfl,by decide⟩
theorem aFi (a b:GParam) (h:bR a=bR b):a=b:=by
 simp only [kM,PV.agg.injEq,aaf,PV.slice.injEq,PV.str.injEq,PV.int.injEq,PV.bool.injEq,true_and,and_true] at h
 obtain ⟨a0,⟨a1,a2,a3⟩,a4,⟨a5,a6,a7,a8,a9⟩⟩:=a
 obtain ⟨b0,⟨b1,b2,b3⟩,b4,⟨b5,b6,b7,b8,b9⟩⟩:=b
 dsimp only at h
 have e0:=h.1
 have e1:=h.2.1
 have e2:=h.2.2.1
 have e3:=h.2.2.2.1
 have e4:=h.2.2.2.2.1
 have e5:=h.2.2.2.2.2.1
 have e6:=h.2.2.2.2.2.2.1
 have e7:=h.2.2.2.2.2.2.2.1
 have e8:=map_inj' yO h.2.2.2.2.2.2.2.2.1
 have e9:=map_inj' oG h.2.2.2.2.2.2.2.2.2
 subst e0 e1 e2 e3 e4 e5 e6 e7 e8 e9
 rfl
def bJ (x:GDir):PV := .agg [.str x.name,.slice (List.map aE x.args) [] false]
theorem vU (x:GDir):bJ x = .agg [.str x.name,.slice (List.map aE x.args) [] false]:=rfl
def bJu (x:GDir):PV := .agg [.str x.name,.slice (List.map aE x.args) [] false]
def kDir:TK GDir:=⟨bJ,bJu,2,fun x=>(vU x).symm,fun x=>by rw [vU];rfl,by decide⟩
theorem aCp (a b:GDir) (h:bJ a=bJ b):a=b:=by
 simp only [vU,PV.agg.injEq,aaf,PV.slice.injEq,PV.str.injEq,PV.int.injEq,PV.bool.injEq,true_and,and_true] at h
 obtain ⟨a0,a1⟩:=a
 obtain ⟨b0,b1⟩:=b
 dsimp only at h
 have e0:=h.1
 have e1:=map_inj' oG h.2
 subst e0 e1
 rfl
def cJ (x:GFieldDef):PV := .agg [.str x.name,.slice (List.map bR x.params) [] false,.str x.t.name,.int .i64 x.t.lists,.int .i64 x.t.musts,.slice (List.map bJ x.dirs) [] false]
theorem fE (x:GFieldDef):cJ x = .agg [.str x.name,.slice (List.map bR x.params) [] false,.str x.t.name,.int .i64 x.t.lists,.int .i64 x.t.musts,.slice (List.map bJ x.dirs) [] false]:=rfl
def aMI (x:GFieldDef):PV := .agg [.str x.name,.slice (List.map bR x.params) [] false,.str x.t.name,.int .i64 x.t.lists,.int .i64 x.t.musts,.slice (List.map bJ x.dirs) [] false]
def oH:TK GFieldDef:=⟨cJ,aMI,6,fun x=>(fE x).symm,fun x=>by rw [fE];rfl,by decide⟩
theorem aHO (a b:GFieldDef) (h:cJ a=cJ b):a=b:=by
 simp only [fE,PV.agg.injEq,aaf,PV.slice.injEq,PV.str.injEq,PV.int.injEq,PV.bool.injEq,true_and,and_true] at h
 obtain ⟨a0,a1,⟨a2,a3,a4⟩,a5⟩:=a
 obtain ⟨b0,b1,⟨b2,b3,b4⟩,b5⟩:=b
 dsimp only at h
 have e0:=h.1
 have e1:=map_inj' aFi h.2.1
 have e2:=h.2.2.1
 have e3:=h.2.2.2.1
 have e4:=h.2.2.2.2.1
 have e5:=map_inj' aCp h.2.2.2.2.2
 subst e0 e1 e2 e3 e4 e5
 rfl
def bN (x:GDef):PV := .agg [.int .i64 x.kind,.str x.name,.slice (List.map PV.str x.faces) [] false,.slice (List.map cJ x.fields) [] false,.slice (List.map PV.str x.parts) [] false,.slice (List.map bR x.params) [] false]
theorem oI (x:GDef):bN x = .agg [.int .i64 x.kind,.str x.name,.slice (List.map PV.str x.faces) [] false,.slice (List.map cJ x.fields) [] false,.slice (List.map PV.str x.parts) [] false,.slice (List.map bR x.params) [] false]:=rfl
def bGY (x:GDef):PV := .agg [.int .i64 x.kind,.str x.name,.slice (List.map PV.str x.faces) [] false,.slice (List.map cJ x.fields) [] false,.slice (List.map PV.str x.parts) [] false,.slice (List.map bR x.params) [] false]
def kDef:TK GDef:=⟨bN,bGY,6,fun x=>(oI x).symm,fun x=>by rw [oI];rfl,by decide⟩
theorem aYq (a b:GDef) (h:bN a=bN b):a=b:=by
 simp only [oI,PV.agg.injEq,aaf,PV.slice.injEq,PV.str.injEq,PV.int.injEq,PV.bool.injEq,true_and,and_true] at h
 obtain ⟨a0,a1,a2,a3,a4,a5⟩:=a
 obtain ⟨b0,b1,b2,b3,b4,b5⟩:=b
 dsimp only at h
 have e0:=h.1
 have e1:=h.2.1
 have e2:=map_inj' Ev.str_inj h.2.2.1
 have e3:=map_inj' aHO h.2.2.2.1
 have e4:=map_inj' Ev.str_inj h.2.2.2.2.1
 have e5:=map_inj' aFi h.2.2.2.2.2
 subst e0 e1 e2 e3 e4 e5
 rfl
def fF (x:GSchema):PV := .agg [.slice (List.map bN x.defs) [] false,.str x.query,.str x.mutation]
theorem lS (x:GSchema):fF x = .agg [.slice (List.map bN x.defs) [] false,.str x.query,.str x.mutation]:=rfl
def bCr (x:GSchema):PV := .agg [.slice (List.map bN x.defs) [] false,.str x.query,.str x.mutation]
theorem aMJ (a b:GSchema) (h:fF a=fF b):a=b:=by
 simp only [lS,PV.agg.injEq,aaf,PV.slice.injEq,PV.str.injEq,PV.int.injEq,PV.bool.injEq,true_and,and_true] at h
 obtain ⟨a0,a1,a2⟩:=a
 obtain ⟨b0,b1,b2⟩:=b
 dsimp only at h
 have e0:=map_inj' aYq h.1
 have e1:=h.2.1
 have e2:=h.2.2
 subst e0 e1 e2
 rfl
def cK (x:GVarDef):PV := .agg [.str x.name,.str x.t.name,.int .i64 x.t.lists,.int .i64 x.t.musts,.bool x.has,.int .i64 x.default.kind,.int .i64 x.default.n,.str x.default.s,.slice (List.map aW x.default.l) [] false,.slice (List.map aE x.default.m) [] false]
theorem kC (x:GVarDef):cK x = .agg [.str x.name,.str x.t.name,.int .i64 x.t.lists,.int .i64 x.t.musts,.bool x.has,.int .i64 x.default.kind,.int .i64 x.default.n,.str x.default.s,.slice (List.map aW x.default.l) [] false,.slice (List.map aE x.default.m) [] false]:=rfl
def bCs (x:GVarDef):PV := .agg [.str x.name,.str x.t.name,.int .i64 x.t.lists,.int .i64 x.t.musts,.bool x.has,.int .i64 x.default.kind,.int .i64 x.default.n,.str x.default.s,.slice (List.map aW x.default.l) [] false,.slice (List.map aE x.default.m) [] false]
def wQ:TK GVarDef:=⟨cK,bCs,10,fun x=>(kC x).symm,fun x=>by rw [kC];rfl,by decide⟩
theorem aV2 (a b:GVarDef) (h:cK a=cK b):a=b:=by
 simp only [kC,PV.agg.injEq,aaf,PV.slice.injEq,PV.str.injEq,PV.int.injEq,PV.bool.injEq,true_and,and_true] at h
 obtain ⟨a0,⟨a1,a2,a3⟩,a4,⟨a5,a6,a7,a8,a9⟩⟩:=a
 obtain ⟨b0,⟨b1,b2,b3⟩,b4,⟨b5,b6,b7,b8,b9⟩⟩:=b
 dsimp only at h
 have e0:=h.1
 have e1:=h.2.1
 have e2:=h.2.2.1
 have e3:=h.2.2.2.1
 have e4:=h.2.2.2.2.1
 have e5:=h.2.2.2.2.2.1
 have e6:=h.2.2.2.2.2.2.1
 have e7:=h.2.2.2.2.2.2.2.1
 have e8:=map_inj' yO h.2.2.2.2.2.2.2.2.1
 have e9:=map_inj' oG h.2.2.2.2.2.2.2.2.2
 subst e0 e1 e2 e3 e4 e5 e6 e7 e8 e9
 rfl
mutual
def aH:GSel->PV
 | ⟨x0,x1,x2,x3,x4,x5,x6⟩ => .agg ([.int .i64 x0,.str x1,.str x2,.slice (List.map aE x3) [] false,.slice (List.map bJ x4) [] false,.str x5,.slice (aBp x6) [] false])
def aBp:List GSel->List PV
 | []=>[]
 | x::l=>aH x::aBp l
end
theorem aPo:∀ (l:List GSel),aBp l=List.map aH l
 | []=>by simp only [aBp,List.map]
 | x::l=>by simp only [aBp,List.map,aPo l]
theorem iZ (x:GSel):aH x = .agg [.int .i64 x.kind,.str x.alias,.str x.name,.slice (List.map aE x.args) [] false,.slice (List.map bJ x.dirs) [] false,.str x.on_,.slice (List.map aH x.sels) [] false]:=by
 cases x;simp only [aH,cells,aaj,aai,aPo]
def bJv (x:GSel):PV := .agg [.int .i64 x.kind,.str x.alias,.str x.name,.slice (List.map aE x.args) [] false,.slice (List.map bJ x.dirs) [] false,.str x.on_,.slice (List.map aH x.sels) [] false]
def kSel:TK GSel:=⟨aH,bJv,7,fun x=>(iZ x).symm,fun x=>by rw [iZ];rfl,by decide⟩
mutual
theorem aFj:∀ (a b:GSel),aH a=aH b->a=b
 | ⟨a0,a1,a2,a3,a4,a5,a6⟩,⟨b0,b1,b2,b3,b4,b5,b6⟩,h=>by
  simp only [aH,PV.agg.injEq,aaf,List.append_eq,PV.slice.injEq,PV.str.injEq,PV.int.injEq,PV.bool.injEq,true_and,and_true] at h
  have e0:=h.1
  have e1:=h.2.1
  have e2:=h.2.2.1
  have e3:=map_inj' oG h.2.2.2.1
  have e4:=map_inj' aCp h.2.2.2.2.1
  have e5:=h.2.2.2.2.2.1
  have e6:=aS4 _ _ h.2.2.2.2.2.2
  subst e0 e1 e2 e3 e4 e5 e6
  rfl
theorem aS4:∀ (a b:List GSel),aBp a=aBp b->a=b
 | [],[],_=>rfl
 | [],_::_,h=>by simp [aBp] at h
 | _::_,[],h=>by simp [aBp] at h
 | x::l,y::m,h=>by
  simp only [aBp,aaf] at h
  rw [aFj x y h.1,aS4 l m h.2]
end
def cO (x:GOp):PV := .agg [.int .i64 x.kind,.str x.name,.slice (List.map cK x.vars) [] false,.slice (List.map bJ x.dirs) [] false,.slice (List.map aH x.sels) [] false]
theorem pJ (x:GOp):cO x = .agg [.int .i64 x.kind,.str x.name,.slice (List.map cK x.vars) [] false,.slice (List.map bJ x.dirs) [] false,.slice (List.map aH x.sels) [] false]:=rfl
def bKv (x:GOp):PV := .agg [.int .i64 x.kind,.str x.name,.slice (List.map cK x.vars) [] false,.slice (List.map bJ x.dirs) [] false,.slice (List.map aH x.sels) [] false]
def kOp:TK GOp:=⟨cO,bKv,5,fun x=>(pJ x).symm,fun x=>by rw [pJ];rfl,by decide⟩
theorem bHN (a b:GOp) (h:cO a=cO b):a=b:=by
 simp only [pJ,PV.agg.injEq,aaf,PV.slice.injEq,PV.str.injEq,PV.int.injEq,PV.bool.injEq,true_and,and_true] at h
 obtain ⟨a0,a1,a2,a3,a4⟩:=a
 obtain ⟨b0,b1,b2,b3,b4⟩:=b
 dsimp only at h
 have e0:=h.1
 have e1:=h.2.1
 have e2:=map_inj' aV2 h.2.2.1
 have e3:=map_inj' aCp h.2.2.2.1
 have e4:=map_inj' aFj h.2.2.2.2
 subst e0 e1 e2 e3 e4
 rfl
def aL (x:GFrag):PV := .agg [.str x.name,.str x.on_,.slice (List.map bJ x.dirs) [] false,.slice (List.map aH x.sels) [] false]
theorem iU (x:GFrag):aL x = .agg [.str x.name,.str x.on_,.slice (List.map bJ x.dirs) [] false,.slice (List.map aH x.sels) [] false]:=rfl
def bCt (x:GFrag):PV := .agg [.str x.name,.str x.on_,.slice (List.map bJ x.dirs) [] false,.slice (List.map aH x.sels) [] false]
def gZ:TK GFrag:=⟨aL,bCt,4,fun x=>(iU x).symm,fun x=>by rw [iU];rfl,by decide⟩
theorem aS5 (a b:GFrag) (h:aL a=aL b):a=b:=by
 simp only [iU,PV.agg.injEq,aaf,PV.slice.injEq,PV.str.injEq,PV.int.injEq,PV.bool.injEq,true_and,and_true] at h
 obtain ⟨a0,a1,a2,a3⟩:=a
 obtain ⟨b0,b1,b2,b3⟩:=b
 dsimp only at h
 have e0:=h.1
 have e1:=h.2.1
 have e2:=map_inj' aCp h.2.2.1
 have e3:=map_inj' aFj h.2.2.2
 subst e0 e1 e2 e3
 rfl
def tB (x:GDoc):PV := .agg [.slice (List.map cO x.ops) [] false,.slice (List.map aL x.frags) [] false]
theorem aBM (x:GDoc):tB x = .agg [.slice (List.map cO x.ops) [] false,.slice (List.map aL x.frags) [] false]:=rfl
theorem bEQ (a b:GDoc) (h:tB a=tB b):a=b:=by
 simp only [aBM,PV.agg.injEq,aaf,PV.slice.injEq,PV.str.injEq,PV.int.injEq,PV.bool.injEq,true_and,and_true] at h
 obtain ⟨a0,a1⟩:=a
 obtain ⟨b0,b1⟩:=b
 dsimp only at h
 have e0:=map_inj' bHN h.1
 have e1:=map_inj' aS5 h.2
 subst e0 e1
 rfl
def aI (x:GSeineref13Spot):PV := .agg [.str x.typ,.int .i64 x.x.kind,.str x.x.alias,.str x.x.name,.slice (List.map aE x.x.args) [] false,.slice (List.map bJ x.x.dirs) [] false,.str x.x.on_,.slice (List.map aH x.x.sels) [] false]
theorem fM (x:GSeineref13Spot):aI x = .agg [.str x.typ,.int .i64 x.x.kind,.str x.x.alias,.str x.x.name,.slice (List.map aE x.x.args) [] false,.slice (List.map bJ x.x.dirs) [] false,.str x.x.on_,.slice (List.map aH x.x.sels) [] false]:=rfl
def aJb (x:GSeineref13Spot):PV := .agg [.str x.typ,.int .i64 x.x.kind,.str x.x.alias,.str x.x.name,.slice (List.map aE x.x.args) [] false,.slice (List.map bJ x.x.dirs) [] false,.str x.x.on_,.slice (List.map aH x.x.sels) [] false]
def aM:TK GSeineref13Spot:=⟨aI,aJb,8,fun x=>(fM x).symm,fun x=>by rw [fM];rfl,by decide⟩
theorem zK (a b:GSeineref13Spot) (h:aI a=aI b):a=b:=by
 simp only [fM,PV.agg.injEq,aaf,PV.slice.injEq,PV.str.injEq,PV.int.injEq,PV.bool.injEq,true_and,and_true] at h
 obtain ⟨a0,⟨a1,a2,a3,a4,a5,a6,a7⟩⟩:=a
 obtain ⟨b0,⟨b1,b2,b3,b4,b5,b6,b7⟩⟩:=b
 dsimp only at h
 have e0:=h.1
 have e1:=h.2.1
 have e2:=h.2.2.1
 have e3:=h.2.2.2.1
 have e4:=map_inj' oG h.2.2.2.2.1
 have e5:=map_inj' aCp h.2.2.2.2.2.1
 have e6:=h.2.2.2.2.2.2.1
 have e7:=map_inj' aFj h.2.2.2.2.2.2.2
 subst e0 e1 e2 e3 e4 e5 e6 e7
 rfl
mutual
def aD:GMergeItem->PV
 | ⟨x0,x1,x2,x3⟩ => .agg ([.int .i64 x0,.int .i64 x1.kind,.str x1.alias,.str x1.name,.slice (List.map aE x1.args) [] false,.slice (List.map bJ x1.dirs) [] false,.str x1.on_,.slice (List.map aH x1.sels) [] false,.str x2,.slice (gE x3) [] false])
def gE:List GMergeItem->List PV
 | []=>[]
 | x::l=>aD x::gE l
end
theorem aDg:∀ (l:List GMergeItem),gE l=List.map aD l
 | []=>by simp only [gE,List.map]
 | x::l=>by simp only [gE,List.map,aDg l]
theorem oJ (x:GMergeItem):aD x = .agg [.int .i64 x.no,.int .i64 x.x.kind,.str x.x.alias,.str x.x.name,.slice (List.map aE x.x.args) [] false,.slice (List.map bJ x.x.dirs) [] false,.str x.x.on_,.slice (List.map aH x.x.sels) [] false,.str x.typ,.slice (List.map aD x.sub) [] false]:=by
 cases x;simp only [aD,cells,aaj,aai,aDg]
def aS6 (x:GMergeItem):PV := .agg [.int .i64 x.no,.int .i64 x.x.kind,.str x.x.alias,.str x.x.name,.slice (List.map aE x.x.args) [] false,.slice (List.map bJ x.x.dirs) [] false,.str x.x.on_,.slice (List.map aH x.x.sels) [] false,.str x.typ,.slice (List.map aD x.sub) [] false]
def aU:TK GMergeItem:=⟨aD,aS6,10,fun x=>(oJ x).symm,fun x=>by rw [oJ];rfl,by decide⟩
mutual
theorem vA:∀ (a b:GMergeItem),aD a=aD b->a=b
 | ⟨a0,a1,a2,a3⟩,⟨b0,b1,b2,b3⟩,h=>by
  simp only [aD,PV.agg.injEq,aaf,List.append_eq,PV.slice.injEq,PV.str.injEq,PV.int.injEq,PV.bool.injEq,true_and,and_true] at h
  have e0:=h.1
  have e1:a1=b1:=by
   obtain ⟨c1_0,c1_1,c1_2,c1_3,c1_4,c1_5,c1_6⟩:=a1
   obtain ⟨d1_0,d1_1,d1_2,d1_3,d1_4,d1_5,d1_6⟩:=b1
   dsimp only at h
   have g0:=h.2.1
   have g1:=h.2.2.1
   have g2:=h.2.2.2.1
   have g3:=map_inj' oG h.2.2.2.2.1
   have g4:=map_inj' aCp h.2.2.2.2.2.1
   have g5:=h.2.2.2.2.2.2.1
   have g6:=map_inj' aFj h.2.2.2.2.2.2.2.1
   subst g0 g1 g2 g3 g4 g5 g6
   rfl
  have e2:=h.2.2.2.2.2.2.2.2.1
  have e3:=aD6 _ _ h.2.2.2.2.2.2.2.2.2
  subst e0 e1 e2 e3
  rfl
theorem aD6:∀ (a b:List GMergeItem),gE a=gE b->a=b
 | [],[],_=>rfl
 | [],_::_,h=>by simp [gE] at h
 | _::_,[],h=>by simp [gE] at h
 | x::l,y::m,h=>by
  simp only [gE,aaf] at h
  rw [vA x y h.1,aD6 l m h.2]
end
def oK (x:GSpot):PV := .agg [.str x.var,.str x.t.name,.int .i64 x.t.lists,.int .i64 x.t.musts,.bool x.has]
theorem yP (x:GSpot):oK x = .agg [.str x.var,.str x.t.name,.int .i64 x.t.lists,.int .i64 x.t.musts,.bool x.has]:=rfl
def bHO (x:GSpot):PV := .agg [.str x.var,.str x.t.name,.int .i64 x.t.lists,.int .i64 x.t.musts,.bool x.has]
def aHP:TK GSpot:=⟨oK,bHO,5,fun x=>(yP x).symm,fun x=>by rw [yP];rfl,by decide⟩
theorem aS7 (a b:GSpot) (h:oK a=oK b):a=b:=by
 simp only [yP,PV.agg.injEq,aaf,PV.slice.injEq,PV.str.injEq,PV.int.injEq,PV.bool.injEq,true_and,and_true] at h
 obtain ⟨a0,⟨a1,a2,a3⟩,a4⟩:=a
 obtain ⟨b0,⟨b1,b2,b3⟩,b4⟩:=b
 dsimp only at h
 have e0:=h.1
 have e1:=h.2.1
 have e2:=h.2.2.1
 have e3:=h.2.2.2.1
 have e4:=h.2.2.2.2
 subst e0 e1 e2 e3 e4
 rfl
abbrev eD (x:GDoc):PV := .agg [(zq cO x.ops),(zq aL x.frags)]
theorem tys:(∀ x:GType,rJ x = .agg [.str x.name,.int .i64 x.lists,.int .i64 x.musts]) /\
  (∀ x:GValue,aW x = .agg [.int .i64 x.kind,.int .i64 x.n,.str x.s,.slice (List.map aW x.l) [] false,.slice (List.map aE x.m) [] false]) /\
  (∀ x:GMember,aE x = .agg [.str x.name,.int .i64 x.v.kind,.int .i64 x.v.n,.str x.v.s,.slice (List.map aW x.v.l) [] false,.slice (List.map aE x.v.m) [] false]) /\
  (∀ x:GParam,bR x = .agg [.str x.name,.str x.t.name,.int .i64 x.t.lists,.int .i64 x.t.musts,.bool x.has,.int .i64 x.default.kind,.int .i64 x.default.n,.str x.default.s,.slice (List.map aW x.default.l) [] false,.slice (List.map aE x.default.m) [] false]) /\
  (∀ x:GDir,bJ x = .agg [.str x.name,.slice (List.map aE x.args) [] false]) /\
  (∀ x:GFieldDef,cJ x = .agg [.str x.name,.slice (List.map bR x.params) [] false,.str x.t.name,.int .i64 x.t.lists,.int .i64 x.t.musts,.slice (List.map bJ x.dirs) [] false]) /\
  (∀ x:GDef,bN x = .agg [.int .i64 x.kind,.str x.name,.slice (List.map PV.str x.faces) [] false,.slice (List.map cJ x.fields) [] false,.slice (List.map PV.str x.parts) [] false,.slice (List.map bR x.params) [] false]) /\
  (∀ x:GSchema,fF x = .agg [.slice (List.map bN x.defs) [] false,.str x.query,.str x.mutation]) /\
  (∀ x:GVarDef,cK x = .agg [.str x.name,.str x.t.name,.int .i64 x.t.lists,.int .i64 x.t.musts,.bool x.has,.int .i64 x.default.kind,.int .i64 x.default.n,.str x.default.s,.slice (List.map aW x.default.l) [] false,.slice (List.map aE x.default.m) [] false]) /\
  (∀ x:GSel,aH x = .agg [.int .i64 x.kind,.str x.alias,.str x.name,.slice (List.map aE x.args) [] false,.slice (List.map bJ x.dirs) [] false,.str x.on_,.slice (List.map aH x.sels) [] false]) /\
  (∀ x:GOp,cO x = .agg [.int .i64 x.kind,.str x.name,.slice (List.map cK x.vars) [] false,.slice (List.map bJ x.dirs) [] false,.slice (List.map aH x.sels) [] false]) /\
  (∀ x:GFrag,aL x = .agg [.str x.name,.str x.on_,.slice (List.map bJ x.dirs) [] false,.slice (List.map aH x.sels) [] false]) /\
  (∀ x:GDoc,tB x = .agg [.slice (List.map cO x.ops) [] false,.slice (List.map aL x.frags) [] false]) /\
  (∀ x:GSeineref13Spot,aI x = .agg [.str x.typ,.int .i64 x.x.kind,.str x.x.alias,.str x.x.name,.slice (List.map aE x.x.args) [] false,.slice (List.map bJ x.x.dirs) [] false,.str x.x.on_,.slice (List.map aH x.x.sels) [] false]) /\
  (∀ x:GMergeItem,aD x = .agg [.int .i64 x.no,.int .i64 x.x.kind,.str x.x.alias,.str x.x.name,.slice (List.map aE x.x.args) [] false,.slice (List.map bJ x.x.dirs) [] false,.str x.x.on_,.slice (List.map aH x.x.sels) [] false,.str x.typ,.slice (List.map aD x.sub) [] false]) /\
  (∀ x:GSpot,oK x = .agg [.str x.var,.str x.t.name,.int .i64 x.t.lists,.int .i64 x.t.musts,.bool x.has]):=⟨pI,eK,lQ,kM,vU,fE,oI,lS,kC,iZ,pJ,iU,aBM,fM,oJ,yP⟩
open Go Go.Ev Go.Ev.PV
def aAJ (x:GType):Nat:=(eV x.name+(bk1 x.lists+(bk1 x.musts+(0))))+1
def aF7 (x:GType):Prop:=gd1 x.name/\((gdI .i64) x.lists/\((gdI .i64) x.musts/\(True)))
theorem jA (x:GType):aAJ x=(eV x.name+(bk1 x.lists+(bk1 x.musts+(0))))+1:=rfl
theorem bCu (x:GType):aF7 x=(gd1 x.name/\((gdI .i64) x.lists/\((gdI .i64) x.musts/\(True)))):=rfl
mutual
def bY:GValue->Nat
 | ⟨x0,x1,x2,x3,x4⟩=>(bk1 x0+(bk1 x1+(eV x2+((xN x3+1)+((tC x4+1)+(0))))))+1
def aV:GMember->Nat
 | ⟨x0,x1⟩=>(eV x0+(bY x1+(0)))+1
def xN:List GValue->Nat
 | []=>0
 | x::l=>bY x+xN l
def tC:List GMember->Nat
 | []=>0
 | x::l=>aV x+tC l
end
mutual
def wR:GValue->Prop
 | ⟨x0,x1,x2,x3,x4⟩=>(gdI .i64) x0/\((gdI .i64) x1/\(gd1 x2/\(aHQ x3/\(aD7 x4/\(True)))))
def vB:GMember->Prop
 | ⟨x0,x1⟩=>gd1 x0/\(wR x1/\(True))
def aHQ:List GValue->Prop
 | []=>True
 | x::l=>wR x/\aHQ l
def aD7:List GMember->Prop
 | []=>True
 | x::l=>vB x/\aD7 l
end
theorem aCq:∀ (l:List GValue),xN l=sumL bY l
 | []=>by simp only [xN,sumL]
 | x::l=>by simp only [xN,sumL,aCq l]
theorem aGL:∀ (l:List GValue),aHQ l=gdSl wR l
 | []=>by simp [aHQ,gdSl]
 | x::l=>by simp [aHQ,gdSl,aGL l]
theorem kD:∀ (l:List GMember),tC l=sumL aV l
 | []=>by simp only [tC,sumL]
 | x::l=>by simp only [tC,sumL,kD l]
theorem aD8:∀ (l:List GMember),aD7 l=gdSl vB l
 | []=>by simp [aD7,gdSl]
 | x::l=>by simp [aD7,gdSl,aD8 l]
theorem cS (x:GValue):bY x=(bk1 x.kind+(bk1 x.n+(eV x.s+((bkSl bY) x.l+((bkSl aV) x.m+(0))))))+1:=by
 cases x;simp only [bY,bkSl,aCq,kD]
theorem aZM (x:GValue):wR x=((gdI .i64) x.kind/\((gdI .i64) x.n/\(gd1 x.s/\((gdSl wR) x.l/\((gdSl vB) x.m/\(True)))))):=by
 cases x;simp only [wR,aGL,aD8]
theorem dG (x:GMember):aV x=(eV x.name+(bY x.v+(0)))+1:=by
 cases x;simp only [aV,bkSl,aCq,kD]
theorem aV3 (x:GMember):vB x=(gd1 x.name/\(wR x.v/\(True))):=by
 cases x;simp only [vB,aGL,aD8]
def eG (x:GParam):Nat:=(eV x.name+(aAJ x.t+(bk1 x.has+(bY x.default+(0)))))+1
def aJc (x:GParam):Prop:=gd1 x.name/\(aF7 x.t/\(gd1 x.has/\(wR x.default/\(True))))
theorem pK (x:GParam):eG x=(eV x.name+(aAJ x.t+(bk1 x.has+(bY x.default+(0)))))+1:=rfl
theorem aZN (x:GParam):aJc x=(gd1 x.name/\(aF7 x.t/\(gd1 x.has/\(wR x.default/\(True))))):=rfl
def gF (x:GDir):Nat:=(eV x.name+((bkSl aV) x.args+(0)))+1
def aOm (x:GDir):Prop:=gd1 x.name/\((gdSl vB) x.args/\(True))
theorem jF (x:GDir):gF x=(eV x.name+((bkSl aV) x.args+(0)))+1:=rfl
theorem bER (x:GDir):aOm x=(gd1 x.name/\((gdSl vB) x.args/\(True))):=rfl
def jR (x:GFieldDef):Nat:=(eV x.name+((bkSl eG) x.params+(aAJ x.t+((bkSl gF) x.dirs+(0)))))+1
def aFk (x:GFieldDef):Prop:=gd1 x.name/\((gdSl aJc) x.params/\(aF7 x.t/\((gdSl aOm) x.dirs/\(True))))
theorem lZ (x:GFieldDef):jR x=(eV x.name+((bkSl eG) x.params+(aAJ x.t+((bkSl gF) x.dirs+(0)))))+1:=rfl
theorem aQS (x:GFieldDef):aFk x=(gd1 x.name/\((gdSl aJc) x.params/\(aF7 x.t/\((gdSl aOm) x.dirs/\(True))))):=rfl
def aJd (x:GDef):Nat:=(bk1 x.kind+(eV x.name+((bkSl eV) x.faces+((bkSl jR) x.fields+((bkSl eV) x.parts+((bkSl eG) x.params+(0)))))))+1
def bES (x:GDef):Prop:=(gdI .i64) x.kind/\(gd1 x.name/\((gdSl gd1) x.faces/\((gdSl aFk) x.fields/\((gdSl gd1) x.parts/\((gdSl aJc) x.params/\(True))))))
theorem pL (x:GDef):aJd x=(bk1 x.kind+(eV x.name+((bkSl eV) x.faces+((bkSl jR) x.fields+((bkSl eV) x.parts+((bkSl eG) x.params+(0)))))))+1:=rfl
theorem bET (x:GDef):bES x=((gdI .i64) x.kind/\(gd1 x.name/\((gdSl gd1) x.faces/\((gdSl aFk) x.fields/\((gdSl gd1) x.parts/\((gdSl aJc) x.params/\(True))))))):=rfl
def eH (x:GSchema):Nat:=((bkSl aJd) x.defs+(eV x.query+(eV x.mutation+(0))))+1
def aQT (x:GSchema):Prop:=(gdSl bES) x.defs/\(gd1 x.query/\(gd1 x.mutation/\(True)))
theorem oL (x:GSchema):eH x=((bkSl aJd) x.defs+(eV x.query+(eV x.mutation+(0))))+1:=rfl
theorem aV4 (x:GSchema):aQT x=((gdSl bES) x.defs/\(gd1 x.query/\(gd1 x.mutation/\(True)))):=rfl
def mA (x:GVarDef):Nat:=(eV x.name+(aAJ x.t+(bk1 x.has+(bY x.default+(0)))))+1
def aLB (x:GVarDef):Prop:=gd1 x.name/\(aF7 x.t/\(gd1 x.has/\(wR x.default/\(True))))
theorem jB (x:GVarDef):mA x=(eV x.name+(aAJ x.t+(bk1 x.has+(bY x.default+(0)))))+1:=rfl
theorem aV5 (x:GVarDef):aLB x=(gd1 x.name/\(aF7 x.t/\(gd1 x.has/\(wR x.default/\(True))))):=rfl
mutual
def cZ:GSel->Nat
 | ⟨x0,x1,x2,x3,x4,x5,x6⟩=>(bk1 x0+(eV x1+(eV x2+((bkSl aV) x3+((bkSl gF) x4+(eV x5+((aK x6+1)+(0))))))))+1
def aK:List GSel->Nat
 | []=>0
 | x::l=>cZ x+aK l
end
mutual
def aHR:GSel->Prop
 | ⟨x0,x1,x2,x3,x4,x5,x6⟩=>(gdI .i64) x0/\(gd1 x1/\(gd1 x2/\((gdSl vB) x3/\((gdSl aOm) x4/\(gd1 x5/\(aS8 x6/\(True)))))))
def aS8:List GSel->Prop
 | []=>True
 | x::l=>aHR x/\aS8 l
end
theorem bK:∀ (l:List GSel),aK l=sumL cZ l
 | []=>by simp only [aK,sumL]
 | x::l=>by simp only [aK,sumL,bK l]
theorem aS9:∀ (l:List GSel),aS8 l=gdSl aHR l
 | []=>by simp [aS8,gdSl]
 | x::l=>by simp [aS8,gdSl,aS9 l]
theorem eN (x:GSel):cZ x=(bk1 x.kind+(eV x.alias+(eV x.name+((bkSl aV) x.args+((bkSl gF) x.dirs+(eV x.on_+((bkSl cZ) x.sels+(0))))))))+1:=by
 cases x;simp only [cZ,bkSl,bK]
theorem bEU (x:GSel):aHR x=((gdI .i64) x.kind/\(gd1 x.alias/\(gd1 x.name/\((gdSl vB) x.args/\((gdSl aOm) x.dirs/\(gd1 x.on_/\((gdSl aHR) x.sels/\(True)))))))):=by
 cases x;simp only [aHR,aS9]
def bkOp (x:GOp):Nat:=(bk1 x.kind+(eV x.name+((bkSl mA) x.vars+((bkSl gF) x.dirs+((bkSl cZ) x.sels+(0))))))+1
def gdOp (x:GOp):Prop:=(gdI .i64) x.kind/\(gd1 x.name/\((gdSl aLB) x.vars/\((gdSl aOm) x.dirs/\((gdSl aHR) x.sels/\(True)))))
theorem kN (x:GOp):bkOp x=(bk1 x.kind+(eV x.name+((bkSl mA) x.vars+((bkSl gF) x.dirs+((bkSl cZ) x.sels+(0))))))+1:=rfl
theorem bHP (x:GOp):gdOp x=((gdI .i64) x.kind/\(gd1 x.name/\((gdSl aLB) x.vars/\((gdSl aOm) x.dirs/\((gdSl aHR) x.sels/\(True)))))):=rfl
def dQ (x:GFrag):Nat:=(eV x.name+(eV x.on_+((bkSl gF) x.dirs+((bkSl cZ) x.sels+(0)))))+1
def aYr (x:GFrag):Prop:=gd1 x.name/\(gd1 x.on_/\((gdSl aOm) x.dirs/\((gdSl aHR) x.sels/\(True))))
theorem mR (x:GFrag):dQ x=(eV x.name+(eV x.on_+((bkSl gF) x.dirs+((bkSl cZ) x.sels+(0)))))+1:=rfl
theorem bCv (x:GFrag):aYr x=(gd1 x.name/\(gd1 x.on_/\((gdSl aOm) x.dirs/\((gdSl aHR) x.sels/\(True))))):=rfl
def dY (x:GDoc):Nat:=((bkSl bkOp) x.ops+((bkSl dQ) x.frags+(0)))+1
def bHQ (x:GDoc):Prop:=(gdSl gdOp) x.ops/\((gdSl aYr) x.frags/\(True))
theorem mB (x:GDoc):dY x=((bkSl bkOp) x.ops+((bkSl dQ) x.frags+(0)))+1:=rfl
theorem bEV (x:GDoc):bHQ x=((gdSl gdOp) x.ops/\((gdSl aYr) x.frags/\(True))):=rfl
def aDh (x:GSeineref13Spot):Nat:=(eV x.typ+(cZ x.x+(0)))+1
def aDi (x:GSeineref13Spot):Prop:=gd1 x.typ/\(aHR x.x/\(True))
theorem aGM (x:GSeineref13Spot):aDh x=(eV x.typ+(cZ x.x+(0)))+1:=rfl
theorem aGN (x:GSeineref13Spot):aDi x=(gd1 x.typ/\(aHR x.x/\(True))):=rfl
mutual
def uK:GMergeItem->Nat
 | ⟨x0,x1,x2,x3⟩=>(bk1 x0+(cZ x1+(eV x2+((vV x3+1)+(0)))))+1
def vV:List GMergeItem->Nat
 | []=>0
 | x::l=>uK x+vV l
end
mutual
def uL:GMergeItem->Prop
 | ⟨x0,x1,x2,x3⟩=>(gdI .i64) x0/\(aHR x1/\(gd1 x2/\(vW x3/\(True))))
def vW:List GMergeItem->Prop
 | []=>True
 | x::l=>uL x/\vW l
end
theorem aD9:∀ (l:List GMergeItem),vV l=sumL uK l
 | []=>by simp only [vV,sumL]
 | x::l=>by simp only [vV,sumL,aD9 l]
theorem aEa:∀ (l:List GMergeItem),vW l=gdSl uL l
 | []=>by simp [vW,gdSl]
 | x::l=>by simp [vW,gdSl,aEa l]
theorem aOn (x:GMergeItem):uK x=(bk1 x.no+(cZ x.x+(eV x.typ+((bkSl uK) x.sub+(0)))))+1:=by
 cases x;simp only [uK,bkSl,aD9]
theorem aOo (x:GMergeItem):uL x=((gdI .i64) x.no/\(aHR x.x/\(gd1 x.typ/\((gdSl uL) x.sub/\(True))))):=by
 cases x;simp only [uL,aEa]
def bGZ (x:GSpot):Nat:=(eV x.var+(aAJ x.t+(bk1 x.has+(0))))+1
def bG0 (x:GSpot):Prop:=gd1 x.var/\(aF7 x.t/\(gd1 x.has/\(True)))
theorem bCw (x:GSpot):bGZ x=(eV x.var+(aAJ x.t+(bk1 x.has+(0))))+1:=rfl
theorem bCx (x:GSpot):bG0 x=(gd1 x.var/\(aF7 x.t/\(gd1 x.has/\(True)))):=rfl
def TS:Nat->TypeId
 | 0=>74
 | 1=>82
 | 2=>115
 | 3=>113
 | 4=>101
 | 5=>76
 | 6=>70
 | 7=>24
 | 8=>84
 | 9=>40
 | 10=>37
 | 11=>49
 | 12=>28
 | 13=>99
 | 14=>109
 | _=>151
def BS:Nat->Ty
 | 0=>(.fcons .str (.fcons (.int .i64) (.fcons (.int .i64) .fnil)))
 | 1=>(.fcons (.int .i64) (.fcons (.int .i64) (.fcons .str (.fcons (.sl (.ext 1)) (.fcons (.sl (.ext 2)) .fnil)))))
 | 2=>(.fcons .str (.fcons (.ext 1) .fnil))
 | 3=>(.fcons .str (.fcons (.ext 0) (.fcons .bool (.fcons (.ext 1) .fnil))))
 | 4=>(.fcons .str (.fcons (.sl (.ext 2)) .fnil))
 | 5=>(.fcons .str (.fcons (.sl (.ext 3)) (.fcons (.ext 0) (.fcons (.sl (.ext 4)) .fnil))))
 | 6=>(.fcons (.int .i64) (.fcons .str (.fcons (.sl .str) (.fcons (.sl (.ext 5)) (.fcons (.sl .str) (.fcons (.sl (.ext 3)) .fnil))))))
 | 7=>(.fcons (.sl (.ext 6)) (.fcons .str (.fcons .str .fnil)))
 | 8=>(.fcons .str (.fcons (.ext 0) (.fcons .bool (.fcons (.ext 1) .fnil))))
 | 9=>(.fcons (.int .i64) (.fcons .str (.fcons .str (.fcons (.sl (.ext 2)) (.fcons (.sl (.ext 4)) (.fcons .str (.fcons (.sl (.ext 9)) .fnil)))))))
 | 10=>(.fcons (.int .i64) (.fcons .str (.fcons (.sl (.ext 8)) (.fcons (.sl (.ext 4)) (.fcons (.sl (.ext 9)) .fnil)))))
 | 11=>(.fcons .str (.fcons .str (.fcons (.sl (.ext 4)) (.fcons (.sl (.ext 9)) .fnil))))
 | 12=>(.fcons (.sl (.ext 10)) (.fcons (.sl (.ext 11)) .fnil))
 | 13=>(.fcons .str (.fcons (.ext 9) .fnil))
 | 14=>(.fcons (.int .i64) (.fcons (.ext 9) (.fcons .str (.fcons (.sl (.ext 14)) .fnil))))
 | _=>(.fcons .str (.fcons (.ext 0) (.fcons .bool .fnil)))
abbrev bHR:RecTy:=⟨GType,rJ,3,aAJ,aF7,fun x=>xB _ (pI x) rfl rfl⟩
abbrev bEW:RecTy:=⟨GValue,aW,5,bY,wR,fun x=>xB _ (eK x) rfl rfl⟩
abbrev bCy:RecTy:=⟨GMember,aE,6,aV,vB,fun x=>xB _ (lQ x) rfl rfl⟩
abbrev bEX:RecTy:=⟨GParam,bR,10,eG,aJc,fun x=>xB _ (kM x) rfl rfl⟩
abbrev bJw:RecTy:=⟨GDir,bJ,2,gF,aOm,fun x=>xB _ (vU x) rfl rfl⟩
abbrev aV6:RecTy:=⟨GFieldDef,cJ,6,jR,aFk,fun x=>xB _ (fE x) rfl rfl⟩
abbrev bJx:RecTy:=⟨GDef,bN,6,aJd,bES,fun x=>xB _ (oI x) rfl rfl⟩
abbrev bCz:RecTy:=⟨GSchema,fF,3,eH,aQT,fun x=>xB _ (lS x) rfl rfl⟩
abbrev bCA:RecTy:=⟨GVarDef,cK,10,mA,aLB,fun x=>xB _ (kC x) rfl rfl⟩
abbrev bJy:RecTy:=⟨GSel,aH,7,cZ,aHR,fun x=>xB _ (iZ x) rfl rfl⟩
abbrev bKw:RecTy:=⟨GOp,cO,5,bkOp,gdOp,fun x=>xB _ (pJ x) rfl rfl⟩
abbrev bHS:RecTy:=⟨GFrag,aL,4,dQ,aYr,fun x=>xB _ (iU x) rfl rfl⟩
abbrev bJz:RecTy:=⟨GDoc,tB,2,dY,bHQ,fun x=>xB _ (aBM x) rfl rfl⟩
abbrev aJe:RecTy:=⟨GSeineref13Spot,aI,8,aDh,aDi,fun x=>xB _ (fM x) rfl rfl⟩
abbrev aTa:RecTy:=⟨GMergeItem,aD,10,uK,uL,fun x=>xB _ (oJ x) rfl rfl⟩
abbrev bHT:RecTy:=⟨GSpot,oK,5,bGZ,bG0,fun x=>xB _ (yP x) rfl rfl⟩
abbrev RS:REnv
 | 0=>bHR
 | 1=>bEW
 | 2=>bCy
 | 3=>bEX
 | 4=>bJw
 | 5=>aV6
 | 6=>bJx
 | 7=>bCz
 | 8=>bCA
 | 9=>bJy
 | 10=>bKw
 | 11=>bHS
 | 12=>bJz
 | 13=>aJe
 | 14=>aTa
 | _=>bHT
theorem hty:∀ i,∃ F,Tryz.prog.underlying (TS i)=some (.struct F)/\Tryz.prog.cellsOf (TS i)=(BS i).size RS/\flds RS Tryz.prog (tyOk RS TS Tryz.prog 9) F.toList 0 (BS i)=true
 | 0=>⟨_,Tryz.underlying74,by kernel_rfl,by kernel_rfl⟩
 | 1=>⟨_,Tryz.underlying82,by kernel_rfl,by kernel_rfl⟩
 | 2=>⟨_,Tryz.underlying115,by kernel_rfl,by kernel_rfl⟩
 | 3=>⟨_,Tryz.underlying113,by kernel_rfl,by kernel_rfl⟩
 | 4=>⟨_,Tryz.underlying101,by kernel_rfl,by kernel_rfl⟩
 | 5=>⟨_,Tryz.underlying76,by kernel_rfl,by kernel_rfl⟩
 | 6=>⟨_,Tryz.underlying70,by kernel_rfl,by kernel_rfl⟩
 | 7=>⟨_,Tryz.underlying24,by kernel_rfl,by kernel_rfl⟩
 | 8=>⟨_,Tryz.underlying84,by kernel_rfl,by kernel_rfl⟩
 | 9=>⟨_,Tryz.underlying40,by kernel_rfl,by kernel_rfl⟩
 | 10=>⟨_,Tryz.underlying37,by kernel_rfl,by kernel_rfl⟩
 | 11=>⟨_,Tryz.underlying49,by kernel_rfl,by kernel_rfl⟩
 | 12=>⟨_,Tryz.underlying28,by kernel_rfl,by kernel_rfl⟩
 | 13=>⟨_,Tryz.underlying99,by kernel_rfl,by kernel_rfl⟩
 | 14=>⟨_,Tryz.underlying109,by kernel_rfl,by kernel_rfl⟩
 | _+15=>⟨_,Tryz.underlying151,by kernel_rfl,by kernel_rfl⟩
theorem bJA (x0:Str) (x1 x2:Int):rJ ⟨x0,x1,x2⟩=(PV.agg ((PV.str x0).cells++(PV.agg (((PV.int .i64) x1).cells++(PV.agg (((PV.int .i64) x2).cells++(PV.agg []).cells)).cells)).cells)):=by
 simp only [tys,cells,aaj,aai]
theorem bHU (x0 x1:Int) (x2:Str) (x3:List GValue) (x4:List GMember):aW ⟨x0,x1,x2,x3,x4⟩=(PV.agg (((PV.int .i64) x0).cells++(PV.agg (((PV.int .i64) x1).cells++(PV.agg ((PV.str x2).cells++(PV.agg ((PV.slice (List.map aW x3) [] false).cells++(PV.agg ((PV.slice (List.map aE x4) [] false).cells++(PV.agg []).cells)).cells)).cells)).cells)).cells)):=by
 simp only [tys,cells,aaj,aai]
theorem bEY (x0:Str) (x1:GValue):aE ⟨x0,x1⟩=(PV.agg ((PV.str x0).cells++(PV.agg ((aW x1).cells++(PV.agg []).cells)).cells)):=by
 simp only [tys,cells,aaj,aai]
theorem bHV (x0:Str) (x1:GType) (x2:Bool) (x3:GValue):bR ⟨x0,x1,x2,x3⟩=(PV.agg ((PV.str x0).cells++(PV.agg ((rJ x1).cells++(PV.agg ((PV.bool x2).cells++(PV.agg ((aW x3).cells++(PV.agg []).cells)).cells)).cells)).cells)):=by
 simp only [tys,cells,aaj,aai]
theorem bKx (x0:Str) (x1:List GMember):bJ ⟨x0,x1⟩=(PV.agg ((PV.str x0).cells++(PV.agg ((PV.slice (List.map aE x1) [] false).cells++(PV.agg []).cells)).cells)):=by
 simp only [tys,cells,aaj,aai]
theorem aZO (x0:Str) (x1:List GParam) (x2:GType) (x3:List GDir):cJ ⟨x0,x1,x2,x3⟩=(PV.agg ((PV.str x0).cells++(PV.agg ((PV.slice (List.map bR x1) [] false).cells++(PV.agg ((rJ x2).cells++(PV.agg ((PV.slice (List.map bJ x3) [] false).cells++(PV.agg []).cells)).cells)).cells)).cells)):=by
 simp only [tys,cells,aaj,aai]
theorem bKy (x0:Int) (x1:Str) (x2:List Str) (x3:List GFieldDef) (x4:List Str) (x5:List GParam):bN ⟨x0,x1,x2,x3,x4,x5⟩=(PV.agg (((PV.int .i64) x0).cells++(PV.agg ((PV.str x1).cells++(PV.agg ((PV.slice (List.map PV.str x2) [] false).cells++(PV.agg ((PV.slice (List.map cJ x3) [] false).cells++(PV.agg ((PV.slice (List.map PV.str x4) [] false).cells++(PV.agg ((PV.slice (List.map bR x5) [] false).cells++(PV.agg []).cells)).cells)).cells)).cells)).cells)).cells)):=by
 simp only [tys,cells,aaj,aai]
theorem bEZ (x0:List GDef) (x1 x2:Str):fF ⟨x0,x1,x2⟩=(PV.agg ((PV.slice (List.map bN x0) [] false).cells++(PV.agg ((PV.str x1).cells++(PV.agg ((PV.str x2).cells++(PV.agg []).cells)).cells)).cells)):=by
 simp only [tys,cells,aaj,aai]
theorem bE0 (x0:Str) (x1:GType) (x2:Bool) (x3:GValue):cK ⟨x0,x1,x2,x3⟩=(PV.agg ((PV.str x0).cells++(PV.agg ((rJ x1).cells++(PV.agg ((PV.bool x2).cells++(PV.agg ((aW x3).cells++(PV.agg []).cells)).cells)).cells)).cells)):=by
 simp only [tys,cells,aaj,aai]
theorem bKz (x0:Int) (x1 x2:Str) (x3:List GMember) (x4:List GDir) (x5:Str) (x6:List GSel):aH ⟨x0,x1,x2,x3,x4,x5,x6⟩=(PV.agg (((PV.int .i64) x0).cells++(PV.agg ((PV.str x1).cells++(PV.agg ((PV.str x2).cells++(PV.agg ((PV.slice (List.map aE x3) [] false).cells++(PV.agg ((PV.slice (List.map bJ x4) [] false).cells++(PV.agg ((PV.str x5).cells++(PV.agg ((PV.slice (List.map aH x6) [] false).cells++(PV.agg []).cells)).cells)).cells)).cells)).cells)).cells)).cells)):=by
 simp only [tys,cells,aaj,aai]
theorem cvOp (x0:Int) (x1:Str) (x2:List GVarDef) (x3:List GDir) (x4:List GSel):cO ⟨x0,x1,x2,x3,x4⟩=(PV.agg (((PV.int .i64) x0).cells++(PV.agg ((PV.str x1).cells++(PV.agg ((PV.slice (List.map cK x2) [] false).cells++(PV.agg ((PV.slice (List.map bJ x3) [] false).cells++(PV.agg ((PV.slice (List.map aH x4) [] false).cells++(PV.agg []).cells)).cells)).cells)).cells)).cells)):=by
 simp only [tys,cells,aaj,aai]
theorem bJB (x0 x1:Str) (x2:List GDir) (x3:List GSel):aL ⟨x0,x1,x2,x3⟩=(PV.agg ((PV.str x0).cells++(PV.agg ((PV.str x1).cells++(PV.agg ((PV.slice (List.map bJ x2) [] false).cells++(PV.agg ((PV.slice (List.map aH x3) [] false).cells++(PV.agg []).cells)).cells)).cells)).cells)):=by
 simp only [tys,cells,aaj,aai]
theorem bKA (x0:List GOp) (x1:List GFrag):tB ⟨x0,x1⟩=(PV.agg ((PV.slice (List.map cO x0) [] false).cells++(PV.agg ((PV.slice (List.map aL x1) [] false).cells++(PV.agg []).cells)).cells)):=by
 simp only [tys,cells,aaj,aai]
theorem aK6 (x0:Str) (x1:GSel):aI ⟨x0,x1⟩=(PV.agg ((PV.str x0).cells++(PV.agg ((aH x1).cells++(PV.agg []).cells)).cells)):=by
 simp only [tys,cells,aaj,aai]
theorem aV7 (x0:Int) (x1:GSel) (x2:Str) (x3:List GMergeItem):aD ⟨x0,x1,x2,x3⟩=(PV.agg (((PV.int .i64) x0).cells++(PV.agg ((aH x1).cells++(PV.agg ((PV.str x2).cells++(PV.agg ((PV.slice (List.map aD x3) [] false).cells++(PV.agg []).cells)).cells)).cells)).cells)):=by
 simp only [tys,cells,aaj,aai]
theorem bJC (x0:Str) (x1:GType) (x2:Bool):oK ⟨x0,x1,x2⟩=(PV.agg ((PV.str x0).cells++(PV.agg ((rJ x1).cells++(PV.agg ((PV.bool x2).cells++(PV.agg []).cells)).cells)).cells)):=by
 simp only [tys,cells,aaj,aai]
theorem hcv:∀ i (x:(BS i).den RS),∃ y:(RS i).D,(RS i).en y=enc RS (BS i) x/\(RS i).bk y<=bulk RS (BS i) x+1/\(good RS (BS i) x->(RS i).gd y)
 | 0,⟨x0,x1,x2,_⟩=>⟨(⟨x0,x1,x2⟩:GType),(bJA x0 x1 x2).trans rfl,aal ((jA _).trans rfl),fun h=>(bCu _).mpr h⟩
 | 1,⟨x0,x1,x2,x3,x4,_⟩=>⟨(⟨x0,x1,x2,x3,x4⟩:GValue),(bHU x0 x1 x2 x3 x4).trans rfl,aal ((cS _).trans rfl),fun h=>(aZM _).mpr h⟩
 | 2,⟨x0,x1,_⟩=>⟨(⟨x0,x1⟩:GMember),(bEY x0 x1).trans rfl,aal ((dG _).trans rfl),fun h=>(aV3 _).mpr h⟩
 | 3,⟨x0,x1,x2,x3,_⟩=>⟨(⟨x0,x1,x2,x3⟩:GParam),(bHV x0 x1 x2 x3).trans rfl,aal ((pK _).trans rfl),fun h=>(aZN _).mpr h⟩
 | 4,⟨x0,x1,_⟩=>⟨(⟨x0,x1⟩:GDir),(bKx x0 x1).trans rfl,aal ((jF _).trans rfl),fun h=>(bER _).mpr h⟩
 | 5,⟨x0,x1,x2,x3,_⟩=>⟨(⟨x0,x1,x2,x3⟩:GFieldDef),(aZO x0 x1 x2 x3).trans rfl,aal ((lZ _).trans rfl),fun h=>(aQS _).mpr h⟩
 | 6,⟨x0,x1,x2,x3,x4,x5,_⟩=>⟨(⟨x0,x1,x2,x3,x4,x5⟩:GDef),(bKy x0 x1 x2 x3 x4 x5).trans rfl,aal ((pL _).trans rfl),fun h=>(bET _).mpr h⟩
 | 7,⟨x0,x1,x2,_⟩=>⟨(⟨x0,x1,x2⟩:GSchema),(bEZ x0 x1 x2).trans rfl,aal ((oL _).trans rfl),fun h=>(aV4 _).mpr h⟩
 | 8,⟨x0,x1,x2,x3,_⟩=>⟨(⟨x0,x1,x2,x3⟩:GVarDef),(bE0 x0 x1 x2 x3).trans rfl,aal ((jB _).trans rfl),fun h=>(aV5 _).mpr h⟩
 | 9,⟨x0,x1,x2,x3,x4,x5,x6,_⟩=>⟨(⟨x0,x1,x2,x3,x4,x5,x6⟩:GSel),(bKz x0 x1 x2 x3 x4 x5 x6).trans rfl,aal ((eN _).trans rfl),fun h=>(bEU _).mpr h⟩
 | 10,⟨x0,x1,x2,x3,x4,_⟩=>⟨(⟨x0,x1,x2,x3,x4⟩:GOp),(cvOp x0 x1 x2 x3 x4).trans rfl,aal ((kN _).trans rfl),fun h=>(bHP _).mpr h⟩
 | 11,⟨x0,x1,x2,x3,_⟩=>⟨(⟨x0,x1,x2,x3⟩:GFrag),(bJB x0 x1 x2 x3).trans rfl,aal ((mR _).trans rfl),fun h=>(bCv _).mpr h⟩
 | 12,⟨x0,x1,_⟩=>⟨(⟨x0,x1⟩:GDoc),(bKA x0 x1).trans rfl,aal ((mB _).trans rfl),fun h=>(bEV _).mpr h⟩
 | 13,⟨x0,x1,_⟩=>⟨(⟨x0,x1⟩:GSeineref13Spot),(aK6 x0 x1).trans rfl,aal ((aGM _).trans rfl),fun h=>(aGN _).mpr h⟩
 | 14,⟨x0,x1,x2,x3,_⟩=>⟨(⟨x0,x1,x2,x3⟩:GMergeItem),(aV7 x0 x1 x2 x3).trans rfl,aal ((aOn _).trans rfl),fun h=>(aOo _).mpr h⟩
 | _+15,⟨x0,x1,x2,_⟩=>⟨(⟨x0,x1,x2⟩:GSpot),(bJC x0 x1 x2).trans rfl,aal ((bCw _).trans rfl),fun h=>(bCx _).mpr h⟩
theorem rok {H:Type} (e:TypeId×Value->H) (W:World) {bl:DataW H->Nat} {bla:List (DataW H)->Nat} (hb:BlOk bl bla):ROk RS TS e Tryz.prog W bl where
 op:=bEF hb 9 BS hty hcv
 ag:=fun i=>match i with
  | 0=>fun x=>⟨_,pI x⟩
  | 1=>fun x=>⟨_,eK x⟩
  | 2=>fun x=>⟨_,lQ x⟩
  | 3=>fun x=>⟨_,kM x⟩
  | 4=>fun x=>⟨_,vU x⟩
  | 5=>fun x=>⟨_,fE x⟩
  | 6=>fun x=>⟨_,oI x⟩
  | 7=>fun x=>⟨_,lS x⟩
  | 8=>fun x=>⟨_,kC x⟩
  | 9=>fun x=>⟨_,iZ x⟩
  | 10=>fun x=>⟨_,pJ x⟩
  | 11=>fun x=>⟨_,iU x⟩
  | 12=>fun x=>⟨_,aBM x⟩
  | 13=>fun x=>⟨_,fM x⟩
  | 14=>fun x=>⟨_,oJ x⟩
  | _+15=>fun x=>⟨_,yP x⟩
 st:=fun i=>(hty i).imp fun F h=>h.1
end Go.Proofs.YtenmfogokijilaaGreat
namespace Go.Ev
def insS:List Str->Str->List Str
 | [],s=>[s]
 | x::r,s=>if Op.bytesLess x s=true then x::insS r s else if x=s then x::r else s::x::r
end Go.Ev
open Go Go.Ev
namespace Go.Proofs.YtenmfogokijilaaGreat
abbrev bG1:=GSchema×GDoc×Int
abbrev keyA:bG1->List PV:=fun x=>[(.agg [(.slice (List.map bN x.1.defs) [] false),(.str x.1.query),(.str x.1.mutation)]),(.agg [(.slice (List.map cO x.2.1.ops) [] false),(.slice (List.map aL x.2.1.frags) [] false)]),.int .i64 x.2.2]
abbrev keyR:Bool->PV:=fun b => .bool b
def keyF (x:bG1):Option Bool:=if eH x.1<=1048576/\dY x.2.1<=1048576 then some true else none
abbrev bCB:List Str->List PV:=fun l=>[.slice (List.map PV.str l) [] false]
abbrev bHW:List Str->PV:=fun l => .slice (List.map PV.str l) [] false
open Classical in
def aZP (l:List Str):Option (List Str):=if l.Nodup/\l.length<1073741824 then some (l.foldl insS []) else none
open Go Go.Ev Go.Ev.PV
abbrev zp {α:Type} (f:α->PV) (l:List α):PV := .slice (List.map f l) [] true
abbrev zm (l:List ((Int×Int)×Bool)):PV := .mpv 1 (List.map (cC aVJ PV.bool) l)
abbrev aEb (x:GType):List PV:=[(.str x.name),(i6 x.lists),(i6 x.musts)]
abbrev rZ (x:GType):PV := .agg (aEb x)
abbrev rK (x:GValue):List PV:=[(i6 x.kind),(i6 x.n),(.str x.s),(zq aW x.l),(zq aE x.m)]
abbrev jO (x:GValue):PV := .agg (rK x)
abbrev bE1 (x:GMember):List PV:=[(.str x.name),(i6 x.v.kind),(i6 x.v.n),(.str x.v.s),(zq aW x.v.l),(zq aE x.v.m)]
abbrev aLC (x:GMember):PV := .agg (bE1 x)
abbrev bHX (x:GParam):List PV:=[(.str x.name),(.str x.t.name),(i6 x.t.lists),(i6 x.t.musts),(.bool x.has),(i6 x.default.kind),(i6 x.default.n),(.str x.default.s),(zq aW x.default.l),(zq aE x.default.m)]
abbrev bKB (x:GDir):List PV:=[(.str x.name),(zq aE x.args)]
abbrev bJD (x:GDir):PV := .agg (bKB x)
abbrev uM (x:GFieldDef):List PV:=[(.str x.name),(zq bR x.params),(.str x.t.name),(i6 x.t.lists),(i6 x.t.musts),(zq bJ x.dirs)]
abbrev aJf (x:GFieldDef):PV := .agg (uM x)
abbrev aJg (x:GDef):List PV:=[(i6 x.kind),(.str x.name),(zq PV.str x.faces),(zq cJ x.fields),(zq PV.str x.parts),(zq bR x.params)]
abbrev aY (x:GSchema):List PV:=[(zq bN x.defs),(.str x.query),(.str x.mutation)]
abbrev aJ (x:GSchema):PV := .agg (aY x)
abbrev bKC (x:GSel):List PV:=[(i6 x.kind),(.str x.alias),(.str x.name),(zq aE x.args),(zq bJ x.dirs),(.str x.on_),(zq aH x.sels)]
abbrev aOq (x:GSel):PV := .agg (bKC x)
abbrev zcOp (x:GOp):List PV:=[(i6 x.kind),(.str x.name),(zq cK x.vars),(zq bJ x.dirs),(zq aH x.sels)]
abbrev zeOp (x:GOp):PV := .agg (zcOp x)
abbrev bJE (x:GFrag):List PV:=[(.str x.name),(.str x.on_),(zq bJ x.dirs),(zq aH x.sels)]
abbrev aPp (x:GFrag):PV := .agg (bJE x)
abbrev mS (x:GSeineref13Spot):List PV:=[(.str x.typ),(i6 x.x.kind),(.str x.x.alias),(.str x.x.name),(zq aE x.x.args),(zq bJ x.x.dirs),(.str x.x.on_),(zq aH x.x.sels)]
abbrev cI (x:GSeineref13Spot):PV := .agg (mS x)
abbrev aO (x:GMergeItem):List PV:=[(i6 x.no),(i6 x.x.kind),(.str x.x.alias),(.str x.x.name),(zq aE x.x.args),(zq bJ x.x.dirs),(.str x.x.on_),(zq aH x.x.sels),(.str x.typ),(zq aD x.sub)]
abbrev aR (x:GMergeItem):PV := .agg (aO x)
def MTL:List (Nat×Hints):=[(3,{takes:=[65,80,108,124],drop:=true}),
 (4,{keeps:=[(5,[3,5,6]),(9,[3,5,7])],drop:=true}),
 (5,{keeps:=[(2,[1,2,3])],drop:=true}),
 (6,{keeps:=[(4,[2,3,4,6,7])],drop:=true}),
 (7,{drop:=true}),
 (8,{keeps:=[(3,[2,5,6])],drop:=true}),
 (11,{drop:=true}),
 (21,{takes:=[28],keeps:=[(3,[0,3,4])],drop:=true}),
 (65,{drop:=true}),
 (116,{gens:=[16],keeps:=[(2,[0,1,4,7,8])],drop:=true}),
 (64,{gens:=[7],drop:=true}),
 (22,{gens:=[6],drop:=true}),
 (24,{drop:=true}),
 (40,{takes:=[48],keeps:=[(2,[1,2,3]),(6,[1,3,4,5]),(10,[1,3,4,5,6,7])],drop:=true}),
 (53,{keeps:=[(2,[1,2,3])],drop:=true}),
 (55,{takes:=[29,30,51,52],keeps:=[(3,[2,3,5,6]),(7,[2,3,5,7])],drop:=true}),
 (60,{keeps:=[(2,[2,3,4,5]),(5,[2,3,4,5,6]),(12,[2,4,8,9]),(17,[2,4,8,9,10])],drop:=true}),
 (61,{keeps:=[(2,[2,3,4,5]),(6,[2,3,4,5,6,7])],drop:=true}),
 (62,{keeps:=[(2,[2,3,4,5]),(7,[2,3,4,6])],drop:=true}),
 (68,{drop:=true}),
 (95,{takes:=[31,32,59],keeps:=[(3,[2,5,6]),(10,[2,5,9,10])],drop:=true}),
 (106,{takes:=[11,32,33],keeps:=[(4,[2,5,6,7])],drop:=true}),
 (111,{takes:=[38],keeps:=[(4,[3,4,7,8,9])],drop:=true}),
 (154,{drop:=true}),
 (153,{gens:=[16],keeps:=[(2,[0,1,4,7,8])],drop:=true}),
 (120,{gens:=[42],drop:=true}),
 (121,{drop:=true}),
 (123,{keeps:=[(2,[0,1,4,9,10,11])],drop:=true}),
 (144,{keeps:=[(12,[4,6,8,9,11])],drop:=true}),
 (156,{drop:=true}),
 (164,{takes:=[17,39,40,59,60,61],keeps:=[(4,[1,2,5]),(8,[1,2,6])],own:=true,drop:=true}),
 (180,{drop:=true}),
 (181,{takes:=[20],keeps:=[(3,[0,2,3,4,5])],drop:=true}),
 (23,{takes:=[28],gens:=[42],keeps:=[(3,[0,1,7,11,12,13])],drop:=true,sel:=true,one:=[(42,[(1,0),(1,1),(1,2),(1,3)],0,3,1)]}),
 (69,{takes:=[21,27,49],gens:=[32,60],keeps:=[(3,[0,2,7,10,11,12])],drop:=true,sel:=true,one:=[(32,[(1,0),(1,1),(1,2),(1,3),(1,4)],4,0,1),(60,[(1,0),(1,1),(1,2),(1,3),(1,4)],4,0,1)]}),
 (159,{gens:=[9],drop:=true,sel:=true,one:=[(9,[(1,0),(1,1),(1,2),(1,3),(0,8)],4,0,1)]}),
 (124,{gens:=[16,19,41],keeps:=[(3,[3,8,9,19,20,21]),(6,[3,8,9,11,19,20,21,25,26,27])],drop:=true,sel:=true}),
 (122,{gens:=[72],drop:=true,sel:=true}),
 (70,{gens:=[56,82],drop:=true,sel:=true}),
 (25,{gens:=[15,41,54],keeps:=[(3,[0,1,4,5,16,17,18]),(6,[0,1,4,5,7,16,17,18,25,26,27]),(14,[0,4,45,46,47])],drop:=true,sel:=true,one:=[(15,[(1,0),(1,1),(1,2),(1,3),(0,14)],4,0,1)]}),
 (10,{takes:=[60,78],gens:=[59,85,97],keeps:=[(6,[3,4,7,8,30,31,32]),(14,[3,7,8,72,73,74]),(19,[6,7,89,90,91])],drop:=true,one:=[(59,[(0,28),(0,24),(0,25),(0,26)],0,3,1),(85,[(0,28),(0,24),(0,25),(0,26)],0,3,1)]}),
 (12,{keeps:=[(3,[1,3,4]),(8,[1,3,4,5,6])],drop:=true}),
 (13,{keeps:=[(3,[1,3,4]),(7,[1,3,4,5]),(11,[1,3,6])],drop:=true}),
 (14,{keeps:=[(3,[1,2,3,7,8])],drop:=true}),
 (15,{drop:=true}),
 (16,{keeps:=[(2,[1,2,3]),(8,[1,2,3,4,5]),(13,[1,2,6])],drop:=true}),
 (17,{keeps:=[(23,[2,3,4,6,7,8])],drop:=true}),
 (18,{drop:=true}),
 (19,{keeps:=[(3,[0,3,4])],drop:=true}),
 (63,{takes:=[11],keeps:=[(3,[0,3,4])],drop:=true}),
 (20,{takes:=[11],keeps:=[(3,[0,3,4])],drop:=true}),
 (67,{takes:=[10,28,31],keeps:=[(4,[2,5,6])],drop:=true}),
 (66,{drop:=true}),
 (86,{takes:=[48,53],keeps:=[(4,[2,5,6,8])],own:=true,drop:=true}),
 (83,{keeps:=[(2,[0,1,4,5])],drop:=true}),
 (97,{drop:=true}),
 (96,{takes:=[16,38,39,40],keeps:=[(2,[1,2,3,4,9])],own:=true,drop:=true}),
 (109,{drop:=true}),
 (103,{drop:=true}),
 (110,{keeps:=[(2,[1,2,3,6,7])],drop:=true}),
 (104,{drop:=true}),
 (113,{keeps:=[(2,[0,1,4,5])],drop:=true}),
 (112,{drop:=true}),
 (114,{keeps:=[(4,[2,3,4,5,8,9])],drop:=true}),
 (134,{takes:=[4],own:=true,drop:=true}),
 (32,{keeps:=[(2,[1,2,4,5,6])],drop:=true}),
 (135,{takes:=[28,41,42,43],keeps:=[(2,[0,1,5])],own:=true,drop:=true}),
 (141,{takes:=[18,19,39,40,46,47,48],keeps:=[(2,[0,1,5]),(6,[0,1,5,6])],own:=true,drop:=true}),
 (142,{keeps:=[(3,[3,4]),(6,[3,4,5])],drop:=true,vecs:=[(7,1)],frz:=[(9,[3])]}),
 (145,{takes:=[22,49,71,87],keeps:=[(3,[1,2,3,7,8]),(8,[1,2,3,7,8,9])],own:=true,drop:=true}),
 (151,{drop:=true}),
 (152,{keeps:=[(4,[1,4,5,13,14,15])],drop:=true}),
 (155,{drop:=true}),
 (157,{keeps:=[(2,[0,4,5,8,9,10])],drop:=true}),
 (177,{keeps:=[(4,[1,2,6,15,16,17])],drop:=true}),
 (178,{keeps:=[(4,[1,2,6,15,16,17])],drop:=true}),
 (158,{drop:=true}),
 (45,{drop:=true}),
 (170,{drop:=true}),
 (82,{keeps:=[(4,[1,2,4,5,6])],drop:=true}),
 (171,{keeps:=[(2,[1,2,3,6,7]),(8,[1,2,3,6,7,10]),(13,[1,2,6,11])],drop:=true}),
 (176,{drop:=true}),
 (187,{keeps:=[(2,[0,1,5])],drop:=true}),
 (188,{keeps:=[(17,[0,1,4,5,6,7,8,9])],drop:=true}),
 (26,{keeps:=[(3,[0,3,4])],drop:=true}),
 (27,{keeps:=[(3,[0,3,4])],drop:=true}),
 (28,{keeps:=[(3,[0,3,4])],drop:=true}),
 (29,{keeps:=[(3,[0,3,4])],drop:=true}),
 (30,{keeps:=[(3,[0,3,4])],drop:=true}),
 (31,{keeps:=[(3,[1,3,4]),(7,[1,3,5])],drop:=true}),
 (33,{keeps:=[(3,[1,2,3,4])],drop:=true}),
 (34,{drop:=true}),
 (35,{keeps:=[(2,[1,2,3]),(8,[1,2,3,4,5])],drop:=true}),
 (36,{keeps:=[(2,[1,2,3]),(8,[1,2,3,4,5])],drop:=true}),
 (37,{keeps:=[(2,[1,2,3]),(6,[1,2,3,4,5]),(12,[1,2,3,4,5,6,8])],drop:=true}),
 (38,{keeps:=[(2,[1,2,3]),(6,[1,2,3,4,5]),(10,[1,2,3,4,5,6,8])],drop:=true}),
 (39,{keeps:=[(2,[1,2,3]),(5,[1,2,3,4])],drop:=true}),
 (41,{keeps:=[(2,[1,2,3]),(7,[1,2,3,4])],drop:=true}),
 (42,{keeps:=[(4,[0,2,3])],drop:=true}),
 (43,{keeps:=[(2,[0,1,2,6,7])],drop:=true}),
 (44,{keeps:=[(4,[0,1,4,5])],drop:=true}),
 (46,{drop:=true}),
 (48,{takes:=[19],keeps:=[(3,[1,3,4])],drop:=true}),
 (47,{keeps:=[(2,[0,2,3]),(5,[0,2,3,4])],drop:=true}),
 (49,{keeps:=[(2,[2,3,4,5])],drop:=true}),
 (50,{takes:=[12],keeps:=[(3,[1,3,4])],drop:=true}),
 (51,{keeps:=[(2,[2,3,4,5]),(8,[2,4,6,7])],drop:=true}),
 (52,{keeps:=[(3,[3,4,5,6])],drop:=true}),
 (54,{keeps:=[(2,[1,2,3]),(6,[1,3,4,5])],drop:=true}),
 (56,{drop:=true}),
 (57,{keeps:=[(3,[2,4,6,7,8]),(6,[2,4,6,7,8,9])],drop:=true}),
 (58,{keeps:=[(3,[2,3,6,7,8]),(8,[2,3,6,7,8,9])],drop:=true}),
 (59,{keeps:=[(2,[2,3,4,6,7]),(9,[2,3,4,6,7,8,11])],drop:=true}),
 (115,{takes:=[12],keeps:=[(3,[1,2,3,4])],drop:=true}),
 (118,{takes:=[23,28,31,33],keeps:=[(2,[0,7,8,9])],own:=true,drop:=true}),
 (150,{drop:=true}),
 (119,{gens:=[10],drop:=true}),
 (117,{keeps:=[(2,[0,1,4,7,8])],drop:=true}),
 (75,{drop:=true}),
 (136,{drop:=true}),
 (143,{keeps:=[(25,[1,2,6]),(32,[1,2,7])],drop:=true}),
 (84,{keeps:=[(7,[2,6,7,8,10])],drop:=true}),
 (128,{keeps:=[(2,[0,1,4,5,6])],drop:=true}),
 (100,{drop:=true}),
 (129,{drop:=true}),
 (146,{drop:=true}),
 (147,{drop:=true}),
 (149,{takes:=[26,37,66,75],keeps:=[(3,[2,3,4,5,9,10])],own:=true,drop:=true}),
 (148,{keeps:=[(2,[2,3,4,6,7]),(5,[2,3,4,6,7,8])],drop:=true}),
 (166,{takes:=[33,40],keeps:=[(2,[0,1,5]),(6,[0,1,5,6,7])],own:=true,drop:=true}),
 (172,{takes:=[27],keeps:=[(3,[1,2,3,7,8])],drop:=true}),
 (174,{drop:=true}),
 (175,{keeps:=[(2,[0,1,4,7,8])],drop:=true}),
 (179,{drop:=true}),
 (72,{drop:=true}),
 (165,{keeps:=[(2,[0,1,4,5,6])],drop:=true}),
 (90,{drop:=true}),
 (71,{takes:=[12],keeps:=[(3,[1,3,4])],drop:=true}),
 (73,{keeps:=[(2,[1,2,3])],drop:=true}),
 (74,{keeps:=[(2,[0,2,3])],drop:=true}),
 (76,{takes:=[11],keeps:=[(3,[0,3,4])],drop:=true}),
 (77,{takes:=[11],keeps:=[(3,[0,3,4])],drop:=true}),
 (78,{keeps:=[(2,[0,2,3]),(5,[0,2,3,4])],drop:=true}),
 (79,{keeps:=[(2,[1,2,4,5])],drop:=true}),
 (80,{drop:=true}),
 (81,{drop:=true}),
 (85,{keeps:=[(4,[4,5,6,7]),(10,[4,5,6,10])],drop:=true}),
 (87,{keeps:=[(2,[1,2,4,5])],drop:=true}),
 (88,{keeps:=[(2,[1,2,4,5])],drop:=true}),
 (89,{drop:=true}),
 (91,{keeps:=[(2,[0,1,2,6,7])],drop:=true}),
 (92,{drop:=true}),
 (93,{drop:=true}),
 (94,{keeps:=[(4,[2,3,4,5])],drop:=true}),
 (98,{keeps:=[(3,[6,7,8,9])],drop:=true}),
 (99,{takes:=[17,33,51],keeps:=[(3,[2,3,5,6]),(7,[2,3,5,7]),(12,[5,8,9])],drop:=true}),
 (101,{takes:=[11],keeps:=[(3,[0,3,4])],drop:=true}),
 (102,{drop:=true}),
 (105,{takes:=[11],keeps:=[(3,[0,3,4])],drop:=true}),
 (107,{keeps:=[(2,[0,1,4,5])],drop:=true}),
 (108,{drop:=true}),
 (167,{drop:=true}),
 (168,{keeps:=[(5,[0,2,3,4,5,6])],drop:=true}),
 (169,{drop:=true}),
 (173,{drop:=true}),
 (132,{takes:=[4],drop:=true}),
 (182,{takes:=[55,95],keeps:=[(11,[4,7,9,11,12]),(17,[4,7,11,13,15])],drop:=true}),
 (125,{drop:=true}),
 (126,{drop:=true}),
 (127,{drop:=true}),
 (130,{drop:=true}),
 (131,{keeps:=[(4,[1,3,4]),(10,[1,3,5])],drop:=true}),
 (133,{keeps:=[(4,[0,1,4,5])],drop:=true}),
 (137,{takes:=[24,60,93],keeps:=[(8,[1,2,7,8]),(15,[2,5,7,10])],drop:=true}),
 (138,{keeps:=[(2,[0,1,4,5])],drop:=true}),
 (139,{keeps:=[(2,[0,2,3]),(5,[0,2,3,4])],drop:=true}),
 (140,{keeps:=[(2,[0,1,4,5])],drop:=true}),
 (183,{drop:=true}),
 (184,{keeps:=[(9,[4,5,8,13,14]),(12,[4,5,8,13,14,15])],drop:=true}),
 (185,{keeps:=[(4,[0,1,4,5])],drop:=true}),
 (186,{takes:=[22],drop:=true}),
 (160,{keeps:=[(2,[0,2,3])],drop:=true}),
 (161,{keeps:=[(2,[0,2,3])],drop:=true}),
 (162,{keeps:=[(2,[0,2,3])],drop:=true}),
 (163,{keeps:=[(2,[1,2,3]),(7,[1,2,4])],drop:=true}),
 (189,{drop:=true})]
def MT (f:FuncId):Hints:=match Go.Ev.look MTL f with | some m=>m | none=>{}
def XT:Ext:=fun f=>Go.Ev.look [(3,(aSO Tryz.prog (fun _ _=>none) 3 keyA keyR keyF)),(142,(aSO Tryz.prog (fun _ _=>none) 142 bCB bHW aZP))] f
def O:Orc:=OL Tryz.prog MT XT
def aA:Bool->PV:=fun r=>PV.bool r
theorem aC (a b:Bool) (h:aA a=aA b):a=b:=Ev.bool_inj a b h
def aFL (s:GSchema) (d:GDoc) (at0:Int):Option Bool:=tO O 3 [(aJ s),(eD d),(i6 at0)] [] fun r=>(aA r,[])
def qZ (s:GSchema) (d:GDoc):Option Bool:=tO O 4 [(aJ s),(eD d)] [] fun r=>(aA r,[])
def bE:Int->PV:=fun r=>(PV.int .i64) r
theorem sA (a b:Int) (h:bE a=bE b):a=b:=(Ev.int_inj _) a b h
def aQU (s:GSchema):Option Int:=tO O 5 [(aJ s)] [] fun r=>(bE r,[])
def aGO (s:GSchema) (d:GDoc) (n:Int):Option Bool:=tO O 6 [(aJ s),(eD d),(i6 n)] [] fun r=>(aA r,[])
def aDj:Option Bool:=tO O 7 [] [] fun r=>(aA r,[])
def aF:Str->PV:=fun r=>PV.str r
theorem eY (a b:Str) (h:aF a=aF b):a=b:=Ev.str_inj a b h
def oM (d:GDoc) (l0:List GSel):Option Str:=tO O 8 [(eD d),(zq aH l0)] [] fun r=>(aF r,[])
def aEc (x:GSel):Option Str:=tO O 11 [(aOq x)] [] fun r=>(aF r,[])
def rL (x:GSel):Pc (aEc x):=cE O 11 [(aOq x)] aF _
def aCr:(List GSel)->PV:=fun r=>(cX aH) r
theorem bCC (a b:List GSel) (h:aCr a=aCr b):a=b:=(Ev.encSl_inj aFj) a b h
def aQV (l0:List GSel):Option (List GSel):=tO O 21 [(zq aH l0)] [] fun r=>(aCr r,[])
def bCD (l0:List GSel):Pc (aQV l0):=cE O 21 [(zq aH l0)] aCr _
def vC (f:GFrag) (a:GDoc):Bool->UP:=fun r=>[[(1,[(zq cO a.ops),(zq aL a.frags)])]]
def xO (f:GFrag) (a:GDoc):Option Bool:=tO O 65 [(aPp f),(.ptr 1 1 0)] [[(1,[(zq cO a.ops),(zq aL a.frags)])]] fun r=>(aA r,(vC f a r))
theorem aHS {f:GFrag} {a:GDoc} {r:Bool} (h:xO f a=some r):O 65 [(aPp f),(.ptr 1 1 0)] [[(1,[(zq cO a.ops),(zq aL a.frags)])]]=some (aA r,(vC f a r)):=dW (enc:=fun r=>(aA r,(vC f a r))) h
def aLD (s:List GFrag) (a:GDoc):Int->UP:=fun r=>[[(1,[(zq cO a.ops),(zq aL a.frags)])]]
def aQW (s:List GFrag) (a:GDoc):Option Int:=tO O 116 [(zq aL s),(.func (.func 65) [] [(.ptr 1 1 0)])] [[(1,[(zq cO a.ops),(zq aL a.frags)])]] fun r=>(bE r,(aLD s a r))
theorem aTb {s:List GFrag} {a:GDoc} {r:Int} (h:aQW s a=some r):O 116 [(zq aL s),(.func (.func 65) [] [(.ptr 1 1 0)])] [[(1,[(zq cO a.ops),(zq aL a.frags)])]]=some (bE r,(aLD s a r)):=dW (enc:=fun r=>(bE r,(aLD s a r))) h
def gG (s:List GFrag) (a:GDoc):Bool->UP:=fun r=>[[(1,[(zq cO a.ops),(zq aL a.frags)])]]
def gS (s:List GFrag) (a:GDoc):Option Bool:=tO O 64 [(zq aL s),(.func (.func 65) [] [(.ptr 1 1 0)])] [[(1,[(zq cO a.ops),(zq aL a.frags)])]] fun r=>(aA r,(gG s a r))
theorem wS {s:List GFrag} {a:GDoc} {r:Bool} (h:gS s a=some r):O 64 [(zq aL s),(.func (.func 65) [] [(.ptr 1 1 0)])] [[(1,[(zq cO a.ops),(zq aL a.frags)])]]=some (aA r,(gG s a r)):=dW (enc:=fun r=>(aA r,(gG s a r))) h
def aCs (d:GDoc):Option Bool:=tO O 22 [(eD d)] [] fun r=>(aA r,[])
def aQX (d:GDoc):Pc (aCs d):=cE O 22 [(eD d)] aA _
def aV8 (s:GSchema) (o:GOp):Option Str:=tO O 24 [(aJ s),(zeOp o)] [] fun r=>(aF r,[])
def bCE (s:GSchema) (o:GOp):Pc (aV8 s o):=cE O 24 [(aJ s),(zeOp o)] aF _
def aYs (s:GSchema):Option Bool:=tO O 40 [(aJ s)] [] fun r=>(aA r,[])
def aLE (d:GDoc):Option Bool:=tO O 53 [(eD d)] [] fun r=>(aA r,[])
def aZQ (d:GDoc):Pc (aLE d):=cE O 53 [(eD d)] aA _
def mT:(List GSeineref13Spot)->PV:=fun r=>(cX aI) r
theorem aPq (a b:List GSeineref13Spot) (h:mT a=mT b):a=b:=(Ev.encSl_inj zK) a b h
def aQY (s:GSchema) (d:GDoc):Option (List GSeineref13Spot):=tO O 55 [(aJ s),(eD d)] [] fun r=>(mT r,[])
def aZR (s:GSchema) (d:GDoc):Pc (aQY s d):=cE O 55 [(aJ s),(eD d)] mT _
def aHT (s:GSchema) (d:GDoc):Option Bool:=tO O 60 [(aJ s),(eD d)] [] fun r=>(aA r,[])
def aV9 (s:GSchema) (d:GDoc):Pc (aHT s d):=cE O 60 [(aJ s),(eD d)] aA _
def aMK (s:GSchema) (d:GDoc):Option Bool:=tO O 61 [(aJ s),(eD d)] [] fun r=>(aA r,[])
def aWa (s:GSchema) (d:GDoc):Pc (aMK s d):=cE O 61 [(aJ s),(eD d)] aA _
def tD (s:GSchema) (d:GDoc):Option Bool:=tO O 62 [(aJ s),(eD d)] [] fun r=>(aA r,[])
def aWb (s:GSchema) (d:GDoc):Pc (tD s d):=cE O 62 [(aJ s),(eD d)] aA _
def aML (s:GSchema) (typ:Str) (x:GSel):Option Str:=tO O 68 [(aJ s),(.str typ),(aOq x)] [] fun r=>(aF r,[])
def aWc (s:GSchema) (typ:Str) (x:GSel):Pc (aML s typ x):=cE O 68 [(aJ s),(.str typ),(aOq x)] aF _
def dZ:(List Str)->PV:=fun r=>(cX PV.str) r
theorem aBN (a b:List Str) (h:dZ a=dZ b):a=b:=(Ev.encSl_inj Ev.str_inj) a b h
def tE (d:GDoc) (l0:List GSel):Option (List Str):=tO O 95 [(eD d),(zq aH l0)] [] fun r=>(dZ r,[])
def aJh (d:GDoc) (l0:List GSel):Pc (tE d l0):=cE O 95 [(eD d),(zq aH l0)] dZ _
def aWd (d:GDoc) (l0:List GSel):Option (List Str):=tO O 106 [(eD d),(zq aH l0)] [] fun r=>(dZ r,[])
def eA:(List GSpot)->PV:=fun r=>(cX oK) r
theorem aEd (a b:List GSpot) (h:eA a=eA b):a=b:=(Ev.encSl_inj aS7) a b h
def aPr (s:GSchema) (d:GDoc) (o:GOp):Option (List GSpot):=tO O 111 [(aJ s),(eD d),(zeOp o)] [] fun r=>(eA r,[])
def aCt (f:GFieldDef) (d:GDef) (e c:Str) (b a:Int) (g:Str) (h:GSchema):Bool->UP:=fun r=>[[(8,(aJg d)),(6,[(.str e),(.slice [] [] true),(.str c),(i6 b),(i6 a),(.slice [] [] true)]),(5,[(.str g)]),(3,(aY h))]]
def aFl (f:GFieldDef) (d:GDef) (e c:Str) (b a:Int) (g:Str) (h:GSchema):Option Bool:=tO O 154 [(aJf f),(.ptr 1 5 0)] [[(8,(aJg d)),(6,[(.str e),(.slice [] [] true),(.str c),(i6 b),(i6 a),(.slice [] [] true)]),(5,[(.str g)]),(3,(aY h))]] fun r=>(aA r,(aCt f d e c b a g h r))
theorem aMM {f:GFieldDef} {d:GDef} {e c:Str} {b a:Int} {g:Str} {i:GSchema} {r:Bool} (h:aFl f d e c b a g i=some r):O 154 [(aJf f),(.ptr 1 5 0)] [[(8,(aJg d)),(6,[(.str e),(.slice [] [] true),(.str c),(i6 b),(i6 a),(.slice [] [] true)]),(5,[(.str g)]),(3,(aY i))]]=some (aA r,(aCt f d e c b a g i r)):=dW (enc:=fun r=>(aA r,(aCt f d e c b a g i r))) h
def aAK (s:List GFieldDef) (d:GDef) (e c:Str) (b a:Int) (f:Str) (g:GSchema):Int->UP:=fun r=>[[(8,(aJg d)),(6,[(.str e),(.slice [] [] true),(.str c),(i6 b),(i6 a),(.slice [] [] true)]),(5,[(.str f)]),(3,(aY g))]]
def zL (s:List GFieldDef) (d:GDef) (e c:Str) (b a:Int) (f:Str) (g:GSchema):Option Int:=tO O 153 [(zq cJ s),(.func (.func 154) [] [(.ptr 1 5 0)])] [[(8,(aJg d)),(6,[(.str e),(.slice [] [] true),(.str c),(i6 b),(i6 a),(.slice [] [] true)]),(5,[(.str f)]),(3,(aY g))]] fun r=>(bE r,(aAK s d e c b a f g r))
theorem aK7 {s:List GFieldDef} {d:GDef} {e c:Str} {b a:Int} {f:Str} {g:GSchema} {r:Int} (h:zL s d e c b a f g=some r):O 153 [(zq cJ s),(.func (.func 154) [] [(.ptr 1 5 0)])] [[(8,(aJg d)),(6,[(.str e),(.slice [] [] true),(.str c),(i6 b),(i6 a),(.slice [] [] true)]),(5,[(.str f)]),(3,(aY g))]]=some (bE r,(aAK s d e c b a f g r)):=dW (enc:=fun r=>(bE r,(aAK s d e c b a f g r))) h
def iK:(GFieldDef×Bool)->PV:=fun r => .tuple [aMI r.1,PV.bool r.2]
theorem aPs (a b:GFieldDef×Bool) (h:iK a=iK b):a=b:=by
 simp only [iK,PV.tuple.injEq,aaf,and_true] at h
 exact aaz (aHO _ _ (by rw [fE,fE];exact h.1)) (Ev.bool_inj _ _ h.2)
def aQZ (s:GSchema) (typ name:Str):Option (GFieldDef×Bool):=tO O 120 [(aJ s),(.str typ),(.str name)] [] fun r=>(iK r,[])
def aJi (s:GSchema) (typ name:Str):Pc (aQZ s typ name):=cE O 120 [(aJ s),(.str typ),(.str name)] iK _
def aWe (s:GSchema) (name:Str) (kinds:List Int):Option Bool:=tO O 121 [(aJ s),(.str name),(zq (PV.int .i64) kinds)] [] fun r=>(aA r,[])
def aHU (s:GSchema) (name:Str) (kinds:List Int):Pc (aWe s name kinds):=cE O 121 [(aJ s),(.str name),(zq (PV.int .i64) kinds)] aA _
def aGP (a b:List GMember):Option Bool:=tO O 123 [(zq aE a),(zq aE b)] [] fun r=>(aA r,[])
def aCu (a b:List GMember):Pc (aGP a b):=cE O 123 [(zq aE a),(zq aE b)] aA _
def aFm (s:GSchema) (t:GType) (v0:GValue) (alone:Bool):Option Bool:=tO O 144 [(aJ s),(rZ t),(jO v0),(.bool alone)] [] fun r=>(aA r,[])
def aJj (s:GSchema) (t:GType) (v0:GValue) (alone:Bool):Pc (aFm s t v0 alone):=cE O 144 [(aJ s),(rZ t),(jO v0),(.bool alone)] aA _
def aGQ (s:GSchema) (a b:GType):Option Bool:=tO O 156 [(aJ s),(rZ a),(rZ b)] [] fun r=>(aA r,[])
def aQ0 (s:GSchema) (a b:GType):Pc (aGQ s a b):=cE O 156 [(aJ s),(rZ a),(rZ b)] aA _
def bS:(List Str)->PV:=fun r => .slice (List.map PV.str r) [] true
theorem zM (a b:List Str) (h:bS a=bS b):a=b:=Ev.encSlO_inj Ev.str_inj a b h
def aWf (v0:GValue) (out0:List Str):Option (List Str):=tO O 164 [(jO v0),(zp PV.str out0)] [] fun r=>(bS r,[])
def aMN (v0:GValue) (out0:List Str):Pc (aWf v0 out0):=cE O 164 [(jO v0),(zp PV.str out0)] bS _
def kO:(Int×Int)->PV:=fun r => .tuple [(PV.int .i64) r.1,(PV.int .i64) r.2]
theorem aKg (a b:Int×Int) (h:kO a=kO b):a=b:=by
 simp only [kO,PV.tuple.injEq,aaf,and_true] at h
 exact aaz ((Ev.int_inj _) _ _ h.1) ((Ev.int_inj _) _ _ h.2)
def aPt (s:Str):Option (Int×Int):=tO O 180 [(.str s)] [] fun r=>(kO r,[])
def aBO:((List Int)×Bool)->PV:=fun r => .tuple [(cX (PV.int .i64)) r.1,PV.bool r.2]
theorem aZS (a b:(List Int)×Bool) (h:aBO a=aBO b):a=b:=by
 simp only [aBO,PV.tuple.injEq,aaf,and_true] at h
 exact aaz ((Ev.encSl_inj (Ev.int_inj _)) _ _ h.1) (Ev.bool_inj _ _ h.2)
def aYt (s:Str):Option ((List Int)×Bool):=tO O 181 [(.str s)] [] fun r=>(aBO r,[])
def cH:((List GMergeItem)×Int)->PV:=fun r=>(cX aD) r.1
def dO (typ:Str) (l0:List GSel) (c:List GDef) (b a:Str) (g:Int) (d:List (Str×(List GMergeItem))) (e f:List ((Int×Int)×Bool)):((List GMergeItem)×Int)->UP:=fun r=>[[(0,[(zq bN c),(.str b),(.str a),(i6 r.2),(.mp 0 1),(.mp 0 2),(.mp 0 3)]),(1,[(.mpv 0 (List.map (cC PV.str (cX aD)) d))]),(2,[(zm e)]),(3,[(zm f)])]]
theorem aHV (typ:Str) (l0:List GSel) (d:List GDef) (c b:Str) (a:Int) (e:List (Str×(List GMergeItem))) (f g:List ((Int×Int)×Bool)) (ra rb:(List GMergeItem)×Int) (h:(cH ra,dO typ l0 d c b a e f g ra)=(cH rb,dO typ l0 d c b a e f g rb)):ra=rb:=by
 obtain ⟨h1,h2⟩:=aaD h
 simp only [cH,dO,PV.tuple.injEq,aaf,aaY,PV.mpv.injEq,and_true,true_and] at h1 h2
 exact aaz ((Ev.encSl_inj vA) _ _ h1) ((Ev.int_inj _) _ _ h2)
def iA (typ:Str) (l0:List GSel) (d:List GDef) (c b:Str) (a:Int) (e:List (Str×(List GMergeItem))) (f g:List ((Int×Int)×Bool)):Option ((List GMergeItem)×Int):=tO O 23 [(.ptr 1 0 0),(.str typ),(zq aH l0)] [[(0,[(zq bN d),(.str c),(.str b),(i6 a),(.mp 0 1),(.mp 0 2),(.mp 0 3)]),(1,[(.mpv 0 (List.map (cC PV.str (cX aD)) e))]),(2,[(zm f)]),(3,[(zm g)])]] fun r=>(cH r,(dO typ l0 d c b a e f g r))
theorem oN {typ:Str} {l0:List GSel} {d:List GDef} {c b:Str} {a:Int} {e:List (Str×(List GMergeItem))} {f g:List ((Int×Int)×Bool)} {r:(List GMergeItem)×Int} (h:iA typ l0 d c b a e f g=some r):O 23 [(.ptr 1 0 0),(.str typ),(zq aH l0)] [[(0,[(zq bN d),(.str c),(.str b),(i6 a),(.mp 0 1),(.mp 0 2),(.mp 0 3)]),(1,[(.mpv 0 (List.map (cC PV.str (cX aD)) e))]),(2,[(zm f)]),(3,[(zm g)])]]=some (cH r,(dO typ l0 d c b a e f g r)):=dW (enc:=fun r=>(cH r,(dO typ l0 d c b a e f g r))) h
def bW:((List GMergeItem)×(List (Str×Bool)))->PV:=fun r=>(cX aD) r.1
def dI (l0:List GMergeItem) (d:List GDef) (c b:Str) (a:Int) (e:List (Str×(List GMergeItem))) (f g:List ((Int×Int)×Bool)) (h:List (Str×Bool)):((List GMergeItem)×(List (Str×Bool)))->UP:=fun r=>[[(0,[(zq bN d),(.str c),(.str b),(i6 a),(.mp 0 1),(.mp 0 2),(.mp 0 3)]),(1,[(.mpv 0 (List.map (cC PV.str (cX aD)) e))]),(2,[(zm f)]),(3,[(zm g)]),(4,[(.mpv 0 (List.map (cC PV.str PV.bool) r.2))])]]
theorem aJk (l0:List GMergeItem) (d:List GDef) (c b:Str) (a:Int) (e:List (Str×(List GMergeItem))) (f g:List ((Int×Int)×Bool)) (i:List (Str×Bool)) (ra rb:(List GMergeItem)×(List (Str×Bool))) (h:(bW ra,dI l0 d c b a e f g i ra)=(bW rb,dI l0 d c b a e f g i rb)):ra=rb:=by
 obtain ⟨h1,h2⟩:=aaD h
 simp only [bW,dI,PV.tuple.injEq,aaf,aaY,PV.mpv.injEq,and_true,true_and] at h1 h2
 exact aaz ((Ev.encSl_inj vA) _ _ h1) (Ev.map_inj' (Ev.encPr_inj Ev.str_inj Ev.bool_inj) h2)
def gO (l0:List GMergeItem) (d:List GDef) (c b:Str) (a:Int) (e:List (Str×(List GMergeItem))) (f g:List ((Int×Int)×Bool)) (h:List (Str×Bool)):Option ((List GMergeItem)×(List (Str×Bool))):=tO O 69 [(.ptr 1 0 0),(zq aD l0),(.mp 1 4)] [[(0,[(zq bN d),(.str c),(.str b),(i6 a),(.mp 0 1),(.mp 0 2),(.mp 0 3)]),(1,[(.mpv 0 (List.map (cC PV.str (cX aD)) e))]),(2,[(zm f)]),(3,[(zm g)]),(4,[(.mpv 0 (List.map (cC PV.str PV.bool) h))])]] fun r=>(bW r,(dI l0 d c b a e f g h r))
theorem kS {l0:List GMergeItem} {d:List GDef} {c b:Str} {a:Int} {e:List (Str×(List GMergeItem))} {f g:List ((Int×Int)×Bool)} {i:List (Str×Bool)} {r:(List GMergeItem)×(List (Str×Bool))} (h:gO l0 d c b a e f g i=some r):O 69 [(.ptr 1 0 0),(zq aD l0),(.mp 1 4)] [[(0,[(zq bN d),(.str c),(.str b),(i6 a),(.mp 0 1),(.mp 0 2),(.mp 0 3)]),(1,[(.mpv 0 (List.map (cC PV.str (cX aD)) e))]),(2,[(zm f)]),(3,[(zm g)]),(4,[(.mpv 0 (List.map (cC PV.str PV.bool) i))])]]=some (bW r,(dI l0 d c b a e f g i r)):=dW (enc:=fun r=>(bW r,(dI l0 d c b a e f g i r))) h
def bT:(List GMergeItem)->PV:=fun r=>(cX aD) r
def pM (a:GMergeItem) (e:List GDef) (d c:Str) (b:Int) (f:List (Str×(List GMergeItem))) (g h:List ((Int×Int)×Bool)):(List GMergeItem)->UP:=fun r=>[[(0,[(zq bN e),(.str d),(.str c),(i6 b),(.mp 0 1),(.mp 0 2),(.mp 0 3)]),(1,[(.mpv 0 (List.map (cC PV.str (cX aD)) f))]),(2,[(zm g)]),(3,[(zm h)])]]
theorem aHW (a b:List GMergeItem) (h:bT a=bT b):a=b:=(Ev.encSl_inj vA) a b h
def eT (a:GMergeItem) (e:List GDef) (d c:Str) (b:Int) (f:List (Str×(List GMergeItem))) (g h:List ((Int×Int)×Bool)):Option (List GMergeItem):=tO O 159 [(.ptr 1 0 0),(aR a)] [[(0,[(zq bN e),(.str d),(.str c),(i6 b),(.mp 0 1),(.mp 0 2),(.mp 0 3)]),(1,[(.mpv 0 (List.map (cC PV.str (cX aD)) f))]),(2,[(zm g)]),(3,[(zm h)])]] fun r=>(bT r,(pM a e d c b f g h r))
theorem kE {a:GMergeItem} {e:List GDef} {d c:Str} {b:Int} {f:List (Str×(List GMergeItem))} {g i:List ((Int×Int)×Bool)} {r:List GMergeItem} (h:eT a e d c b f g i=some r):O 159 [(.ptr 1 0 0),(aR a)] [[(0,[(zq bN e),(.str d),(.str c),(i6 b),(.mp 0 1),(.mp 0 2),(.mp 0 3)]),(1,[(.mpv 0 (List.map (cC PV.str (cX aD)) f))]),(2,[(zm g)]),(3,[(zm i)])]]=some (bT r,(pM a e d c b f g i r)):=dW (enc:=fun r=>(bT r,(pM a e d c b f g i r))) h
def dT:(Bool×(List ((Int×Int)×Bool)))->PV:=fun r=>PV.bool r.1
def fG (a b:GMergeItem) (f:List GDef) (e d:Str) (c:Int) (g:List (Str×(List GMergeItem))) (i h:List ((Int×Int)×Bool)):(Bool×(List ((Int×Int)×Bool)))->UP:=fun r=>[[(0,[(zq bN f),(.str e),(.str d),(i6 c),(.mp 0 1),(.mp 0 2),(.mp 0 3)]),(1,[(.mpv 0 (List.map (cC PV.str (cX aD)) g))]),(2,[(zm r.2)]),(3,[(zm h)])]]
theorem aGR (a b:GMergeItem) (f:List GDef) (e d:Str) (c:Int) (g:List (Str×(List GMergeItem))) (i j:List ((Int×Int)×Bool)) (ra rb:Bool×(List ((Int×Int)×Bool))) (h:(dT ra,fG a b f e d c g i j ra)=(dT rb,fG a b f e d c g i j rb)):ra=rb:=by
 obtain ⟨h1,h2⟩:=aaD h
 simp only [dT,fG,PV.tuple.injEq,aaf,aaY,PV.mpv.injEq,and_true,true_and] at h1 h2
 exact aaz (Ev.bool_inj _ _ h1) (Ev.map_inj' (Ev.encPr_inj Ev.encII_inj Ev.bool_inj) h2)
def pN (a b:GMergeItem) (f:List GDef) (e d:Str) (c:Int) (g:List (Str×(List GMergeItem))) (h i:List ((Int×Int)×Bool)):Option (Bool×(List ((Int×Int)×Bool))):=tO O 124 [(.ptr 1 0 0),(aR a),(aR b),(.func (.func 122) [(.ptr 1 0 0)] [])] [[(0,[(zq bN f),(.str e),(.str d),(i6 c),(.mp 0 1),(.mp 0 2),(.mp 0 3)]),(1,[(.mpv 0 (List.map (cC PV.str (cX aD)) g))]),(2,[(zm h)]),(3,[(zm i)])]] fun r=>(dT r,(fG a b f e d c g h i r))
theorem aDs {a b:GMergeItem} {f:List GDef} {e d:Str} {c:Int} {g:List (Str×(List GMergeItem))} {i j:List ((Int×Int)×Bool)} {r:Bool×(List ((Int×Int)×Bool))} (h:pN a b f e d c g i j=some r):O 124 [(.ptr 1 0 0),(aR a),(aR b),(.func (.func 122) [(.ptr 1 0 0)] [])] [[(0,[(zq bN f),(.str e),(.str d),(i6 c),(.mp 0 1),(.mp 0 2),(.mp 0 3)]),(1,[(.mpv 0 (List.map (cC PV.str (cX aD)) g))]),(2,[(zm i)]),(3,[(zm j)])]]=some (dT r,(fG a b f e d c g i j r)):=dW (enc:=fun r=>(dT r,(fG a b f e d c g i j r))) h
def bU:(Bool×(List ((Int×Int)×Bool)))->PV:=fun r=>PV.bool r.1
def fH (a b:GMergeItem) (f:List GDef) (e d:Str) (c:Int) (g:List (Str×(List GMergeItem))) (i h:List ((Int×Int)×Bool)):(Bool×(List ((Int×Int)×Bool)))->UP:=fun r=>[[(0,[(zq bN f),(.str e),(.str d),(i6 c),(.mp 0 1),(.mp 0 2),(.mp 0 3)]),(1,[(.mpv 0 (List.map (cC PV.str (cX aD)) g))]),(2,[(zm r.2)]),(3,[(zm h)])]]
theorem aGS (a b:GMergeItem) (f:List GDef) (e d:Str) (c:Int) (g:List (Str×(List GMergeItem))) (i j:List ((Int×Int)×Bool)) (ra rb:Bool×(List ((Int×Int)×Bool))) (h:(bU ra,fH a b f e d c g i j ra)=(bU rb,fH a b f e d c g i j rb)):ra=rb:=by
 obtain ⟨h1,h2⟩:=aaD h
 simp only [bU,fH,PV.tuple.injEq,aaf,aaY,PV.mpv.injEq,and_true,true_and] at h1 h2
 exact aaz (Ev.bool_inj _ _ h1) (Ev.map_inj' (Ev.encPr_inj Ev.encII_inj Ev.bool_inj) h2)
def eZ (a b:GMergeItem) (f:List GDef) (e d:Str) (c:Int) (g:List (Str×(List GMergeItem))) (h i:List ((Int×Int)×Bool)):Option (Bool×(List ((Int×Int)×Bool))):=tO O 122 [(.ptr 1 0 0),(aR a),(aR b)] [[(0,[(zq bN f),(.str e),(.str d),(i6 c),(.mp 0 1),(.mp 0 2),(.mp 0 3)]),(1,[(.mpv 0 (List.map (cC PV.str (cX aD)) g))]),(2,[(zm h)]),(3,[(zm i)])]] fun r=>(bU r,(fH a b f e d c g h i r))
theorem jG {a b:GMergeItem} {f:List GDef} {e d:Str} {c:Int} {g:List (Str×(List GMergeItem))} {i j:List ((Int×Int)×Bool)} {r:Bool×(List ((Int×Int)×Bool))} (h:eZ a b f e d c g i j=some r):O 122 [(.ptr 1 0 0),(aR a),(aR b)] [[(0,[(zq bN f),(.str e),(.str d),(i6 c),(.mp 0 1),(.mp 0 2),(.mp 0 3)]),(1,[(.mpv 0 (List.map (cC PV.str (cX aD)) g))]),(2,[(zm i)]),(3,[(zm j)])]]=some (bU r,(fH a b f e d c g i j r)):=dW (enc:=fun r=>(bU r,(fH a b f e d c g i j r))) h
def bP:(Bool×(List ((Int×Int)×Bool))×(List ((Int×Int)×Bool)))->PV:=fun r=>PV.bool r.1
def eC (a b:GMergeItem) (f:List GDef) (e d:Str) (c:Int) (g:List (Str×(List GMergeItem))) (h i:List ((Int×Int)×Bool)):(Bool×(List ((Int×Int)×Bool))×(List ((Int×Int)×Bool)))->UP:=fun r=>[[(0,[(zq bN f),(.str e),(.str d),(i6 c),(.mp 0 1),(.mp 0 2),(.mp 0 3)]),(1,[(.mpv 0 (List.map (cC PV.str (cX aD)) g))]),(2,[(zm r.2.1)]),(3,[(zm r.2.2)])]]
theorem aDt (a b:GMergeItem) (f:List GDef) (e d:Str) (c:Int) (g:List (Str×(List GMergeItem))) (i j:List ((Int×Int)×Bool)) (ra rb:Bool×(List ((Int×Int)×Bool))×(List ((Int×Int)×Bool))) (h:(bP ra,eC a b f e d c g i j ra)=(bP rb,eC a b f e d c g i j rb)):ra=rb:=by
 obtain ⟨h1,h2⟩:=aaD h
 simp only [bP,eC,PV.tuple.injEq,aaf,aaY,PV.mpv.injEq,and_true,true_and] at h1 h2
 exact aaz (Ev.bool_inj _ _ h1) (aaz (Ev.map_inj' (Ev.encPr_inj Ev.encII_inj Ev.bool_inj) h2.1) (Ev.map_inj' (Ev.encPr_inj Ev.encII_inj Ev.bool_inj) h2.2))
def fN (a b:GMergeItem) (f:List GDef) (e d:Str) (c:Int) (g:List (Str×(List GMergeItem))) (h i:List ((Int×Int)×Bool)):Option (Bool×(List ((Int×Int)×Bool))×(List ((Int×Int)×Bool))):=tO O 124 [(.ptr 1 0 0),(aR a),(aR b),(.func (.func 70) [(.ptr 1 0 0)] [])] [[(0,[(zq bN f),(.str e),(.str d),(i6 c),(.mp 0 1),(.mp 0 2),(.mp 0 3)]),(1,[(.mpv 0 (List.map (cC PV.str (cX aD)) g))]),(2,[(zm h)]),(3,[(zm i)])]] fun r=>(bP r,(eC a b f e d c g h i r))
theorem kP {a b:GMergeItem} {f:List GDef} {e d:Str} {c:Int} {g:List (Str×(List GMergeItem))} {i j:List ((Int×Int)×Bool)} {r:Bool×(List ((Int×Int)×Bool))×(List ((Int×Int)×Bool))} (h:fN a b f e d c g i j=some r):O 124 [(.ptr 1 0 0),(aR a),(aR b),(.func (.func 70) [(.ptr 1 0 0)] [])] [[(0,[(zq bN f),(.str e),(.str d),(i6 c),(.mp 0 1),(.mp 0 2),(.mp 0 3)]),(1,[(.mpv 0 (List.map (cC PV.str (cX aD)) g))]),(2,[(zm i)]),(3,[(zm j)])]]=some (bP r,(eC a b f e d c g i j r)):=dW (enc:=fun r=>(bP r,(eC a b f e d c g i j r))) h
def bZ:(Bool×(List ((Int×Int)×Bool))×(List ((Int×Int)×Bool)))->PV:=fun r=>PV.bool r.1
def eL (a b:GMergeItem) (f:List GDef) (e d:Str) (c:Int) (g:List (Str×(List GMergeItem))) (h i:List ((Int×Int)×Bool)):(Bool×(List ((Int×Int)×Bool))×(List ((Int×Int)×Bool)))->UP:=fun r=>[[(0,[(zq bN f),(.str e),(.str d),(i6 c),(.mp 0 1),(.mp 0 2),(.mp 0 3)]),(1,[(.mpv 0 (List.map (cC PV.str (cX aD)) g))]),(2,[(zm r.2.1)]),(3,[(zm r.2.2)])]]
theorem aEe (a b:GMergeItem) (f:List GDef) (e d:Str) (c:Int) (g:List (Str×(List GMergeItem))) (i j:List ((Int×Int)×Bool)) (ra rb:Bool×(List ((Int×Int)×Bool))×(List ((Int×Int)×Bool))) (h:(bZ ra,eL a b f e d c g i j ra)=(bZ rb,eL a b f e d c g i j rb)):ra=rb:=by
 obtain ⟨h1,h2⟩:=aaD h
 simp only [bZ,eL,PV.tuple.injEq,aaf,aaY,PV.mpv.injEq,and_true,true_and] at h1 h2
 exact aaz (Ev.bool_inj _ _ h1) (aaz (Ev.map_inj' (Ev.encPr_inj Ev.encII_inj Ev.bool_inj) h2.1) (Ev.map_inj' (Ev.encPr_inj Ev.encII_inj Ev.bool_inj) h2.2))
def eW (a b:GMergeItem) (f:List GDef) (e d:Str) (c:Int) (g:List (Str×(List GMergeItem))) (h i:List ((Int×Int)×Bool)):Option (Bool×(List ((Int×Int)×Bool))×(List ((Int×Int)×Bool))):=tO O 70 [(.ptr 1 0 0),(aR a),(aR b)] [[(0,[(zq bN f),(.str e),(.str d),(i6 c),(.mp 0 1),(.mp 0 2),(.mp 0 3)]),(1,[(.mpv 0 (List.map (cC PV.str (cX aD)) g))]),(2,[(zm h)]),(3,[(zm i)])]] fun r=>(bZ r,(eL a b f e d c g h i r))
theorem sB {a b:GMergeItem} {f:List GDef} {e d:Str} {c:Int} {g:List (Str×(List GMergeItem))} {i j:List ((Int×Int)×Bool)} {r:Bool×(List ((Int×Int)×Bool))×(List ((Int×Int)×Bool))} (h:eW a b f e d c g i j=some r):O 70 [(.ptr 1 0 0),(aR a),(aR b)] [[(0,[(zq bN f),(.str e),(.str d),(i6 c),(.mp 0 1),(.mp 0 2),(.mp 0 3)]),(1,[(.mpv 0 (List.map (cC PV.str (cX aD)) g))]),(2,[(zm i)]),(3,[(zm j)])]]=some (bZ r,(eL a b f e d c g i j r)):=dW (enc:=fun r=>(bZ r,(eL a b f e d c g i j r))) h
def dJ:(Bool×(List ((Int×Int)×Bool))×(List ((Int×Int)×Bool)))->PV:=fun r=>PV.bool r.1
def iB (l0:List GMergeItem) (d:List GDef) (c b:Str) (a:Int) (e:List (Str×(List GMergeItem))) (f g:List ((Int×Int)×Bool)):(Bool×(List ((Int×Int)×Bool))×(List ((Int×Int)×Bool)))->UP:=fun r=>[[(0,[(zq bN d),(.str c),(.str b),(i6 a),(.mp 0 1),(.mp 0 2),(.mp 0 3)]),(1,[(.mpv 0 (List.map (cC PV.str (cX aD)) e))]),(2,[(zm r.2.1)]),(3,[(zm r.2.2)])]]
theorem aJl (l0:List GMergeItem) (d:List GDef) (c b:Str) (a:Int) (e:List (Str×(List GMergeItem))) (f g:List ((Int×Int)×Bool)) (ra rb:Bool×(List ((Int×Int)×Bool))×(List ((Int×Int)×Bool))) (h:(dJ ra,iB l0 d c b a e f g ra)=(dJ rb,iB l0 d c b a e f g rb)):ra=rb:=by
 obtain ⟨h1,h2⟩:=aaD h
 simp only [dJ,iB,PV.tuple.injEq,aaf,aaY,PV.mpv.injEq,and_true,true_and] at h1 h2
 exact aaz (Ev.bool_inj _ _ h1) (aaz (Ev.map_inj' (Ev.encPr_inj Ev.encII_inj Ev.bool_inj) h2.1) (Ev.map_inj' (Ev.encPr_inj Ev.encII_inj Ev.bool_inj) h2.2))
def lD (l0:List GMergeItem) (d:List GDef) (c b:Str) (a:Int) (e:List (Str×(List GMergeItem))) (f g:List ((Int×Int)×Bool)):Option (Bool×(List ((Int×Int)×Bool))×(List ((Int×Int)×Bool))):=tO O 25 [(.ptr 1 0 0),(zq aD l0)] [[(0,[(zq bN d),(.str c),(.str b),(i6 a),(.mp 0 1),(.mp 0 2),(.mp 0 3)]),(1,[(.mpv 0 (List.map (cC PV.str (cX aD)) e))]),(2,[(zm f)]),(3,[(zm g)])]] fun r=>(dJ r,(iB l0 d c b a e f g r))
theorem xC {l0:List GMergeItem} {d:List GDef} {c b:Str} {a:Int} {e:List (Str×(List GMergeItem))} {f g:List ((Int×Int)×Bool)} {r:Bool×(List ((Int×Int)×Bool))×(List ((Int×Int)×Bool))} (h:lD l0 d c b a e f g=some r):O 25 [(.ptr 1 0 0),(zq aD l0)] [[(0,[(zq bN d),(.str c),(.str b),(i6 a),(.mp 0 1),(.mp 0 2),(.mp 0 3)]),(1,[(.mpv 0 (List.map (cC PV.str (cX aD)) e))]),(2,[(zm f)]),(3,[(zm g)])]]=some (dJ r,(iB l0 d c b a e f g r)):=dW (enc:=fun r=>(dJ r,(iB l0 d c b a e f g r))) h
def lF (s:GSchema) (d:GDoc) (n:Int):Option Bool:=tO O 10 [(aJ s),(eD d),(i6 n)] [] fun r=>(aA r,[])
def aKh (s:GSchema) (d:GDoc) (n:Int):Pc (lF s d n):=cE O 10 [(aJ s),(eD d),(i6 n)] aA _
def zN (s:GSchema):Option Bool:=tO O 12 [(aJ s)] [] fun r=>(aA r,[])
def aJm (s:GSchema):Pc (zN s):=cE O 12 [(aJ s)] aA _
def zO (d:GDoc):Option Bool:=tO O 13 [(eD d)] [] fun r=>(aA r,[])
def aJn (d:GDoc):Pc (zO d):=cE O 13 [(eD d)] aA _
def nD (d:GDoc) (l0:List GSel) (most:Int):Option Int:=tO O 14 [(eD d),(zq aH l0),(i6 most)] [] fun r=>(bE r,[])
def rB (d:GDoc) (l0:List GSel) (most:Int):Pc (nD d l0 most):=cE O 14 [(eD d),(zq aH l0),(i6 most)] bE _
def aCv (d:GDoc):Option Bool:=tO O 16 [(eD d)] [] fun r=>(aA r,[])
def aZT (d:GDoc):Pc (aCv d):=cE O 16 [(eD d)] aA _
def wU (s:GSchema) (d:GDoc) (n:Int):Option Bool:=tO O 17 [(aJ s),(eD d),(i6 n)] [] fun r=>(aA r,[])
def bCF (s:GSchema) (d:GDoc) (n:Int):Pc (wU s d n):=cE O 17 [(aJ s),(eD d),(i6 n)] aA _
def fY:GSchema->PV:=fun r=>bCr r
theorem aHX (a b:GSchema) (h:fY a=fY b):a=b:=aMJ a b (by rw [lS,lS];exact h)
def aDk:Option GSchema:=tO O 18 [] [] fun r=>(fY r,[])
def aAL:Pc (aDk):=cE O 18 [] fY _
def wV (l0:List GSel):Option Str:=tO O 19 [(zq aH l0)] [] fun r=>(aF r,[])
def tF (l0:List GSel):Pc (wV l0):=cE O 19 [(zq aH l0)] aF _
def mC:(List GMember)->PV:=fun r=>(cX aE) r
theorem aTc (a b:List GMember) (h:mC a=mC b):a=b:=(Ev.encSl_inj oG) a b h
def aJo (l0:List GMember):Option (List GMember):=tO O 63 [(zq aE l0)] [] fun r=>(mC r,[])
def aEf (l0:List GMember):Pc (aJo l0):=cE O 63 [(zq aE l0)] mC _
def aCw:(List GDir)->PV:=fun r=>(cX bJ) r
theorem bCG (a b:List GDir) (h:aCw a=aCw b):a=b:=(Ev.encSl_inj aCp) a b h
def aWg (l0:List GDir):Option (List GDir):=tO O 20 [(zq bJ l0)] [] fun r=>(aCw r,[])
def bCH (l0:List GDir):Pc (aWg l0):=cE O 20 [(zq bJ l0)] aCw _
def aCx (d:GDoc) (sels:List GSel):Option (List Str):=tO O 67 [(eD d),(zq aH sels)] [] fun r=>(dZ r,[])
def aMO (d:GDoc) (sels:List GSel):Pc (aCx d sels):=cE O 67 [(eD d),(zq aH sels)] dZ _
def iC (s:List Str) (v0:Str):Option Bool:=tO O 66 [(zq PV.str s),(.str v0)] [] fun r=>(aA r,[])
def lG (s:List Str) (v0:Str):Pc (iC s v0):=cE O 66 [(zq PV.str s),(.str v0)] aA _
def aQ1 (s:GSchema) (name:Str):Option (List Str):=tO O 86 [(aJ s),(.str name)] [] fun r=>(bS r,[])
def aPu (s:GSchema) (name:Str):Pc (aQ1 s name):=cE O 86 [(aJ s),(.str name)] bS _
def aTd (l0:List Str) (s:Str):Option Bool:=tO O 83 [(zq PV.str l0),(.str s)] [] fun r=>(aA r,[])
def xP (l0:List Str) (s:Str):Pc (aTd l0 s):=cE O 83 [(zq PV.str l0),(.str s)] aA _
def aWh (s:GSchema) (o:GOp):Option Str:=tO O 97 [(aJ s),(zeOp o)] [] fun r=>(aF r,[])
def aMP (s:GSchema) (o:GOp):Pc (aWh s o):=cE O 97 [(aJ s),(zeOp o)] aF _
def iL:(List GSeineref13Spot)->PV:=fun r => .slice (List.map aI r) [] true
theorem aPv (a b:List GSeineref13Spot) (h:iL a=iL b):a=b:=Ev.encSlO_inj zK a b h
def aQ2 (s:GSchema) (typ:Str) (l0:List GSel) (out0:List GSeineref13Spot):Option (List GSeineref13Spot):=tO O 96 [(aJ s),(.str typ),(zq aH l0),(zp aI out0)] [] fun r=>(iL r,[])
def aJp (s:GSchema) (typ:Str) (l0:List GSel) (out0:List GSeineref13Spot):Pc (aQ2 s typ l0 out0):=cE O 96 [(aJ s),(.str typ),(zq aH l0),(zp aI out0)] iL _
def aYu (s:GSchema) (t:GType) (v0:GValue):Option Bool:=tO O 109 [(aJ s),(rZ t),(jO v0)] [] fun r=>(aA r,[])
def aPw (s:GSchema) (t:GType) (v0:GValue):Pc (aYu s t v0):=cE O 109 [(aJ s),(rZ t),(jO v0)] aA _
def jS:(List GParam)->PV:=fun r=>(cX bR) r
theorem aMQ (a b:List GParam) (h:jS a=jS b):a=b:=(Ev.encSl_inj aFi) a b h
def aHY (s:GSchema) (x:GSeineref13Spot):Option (List GParam):=tO O 103 [(aJ s),(cI x)] [] fun r=>(jS r,[])
def aMR (s:GSchema) (x:GSeineref13Spot):Pc (aHY s x):=cE O 103 [(aJ s),(cI x)] jS _
def aEg (s:GSchema) (l0:List GParam) (m:List GMember):Option Bool:=tO O 110 [(aJ s),(zq bR l0),(zq aE m)] [] fun r=>(aA r,[])
def aF8 (s:GSchema) (l0:List GParam) (m:List GMember):Pc (aEg s l0 m):=cE O 110 [(aJ s),(zq bR l0),(zq aE m)] aA _
def sD (d:GDir):Option (List GParam):=tO O 104 [(bJD d)] [] fun r=>(jS r,[])
def aF9 (d:GDir):Pc (sD d):=cE O 104 [(bJD d)] jS _
def nP (s:GSchema) (d:GDoc) (typ:Str) (l0:List GSel):Option Bool:=tO O 114 [(aJ s),(eD d),(.str typ),(zq aH l0)] [] fun r=>(aA r,[])
def aJq (s:GSchema) (d:GDoc) (typ:Str) (l0:List GSel):Pc (nP s d typ l0):=cE O 114 [(aJ s),(eD d),(.str typ),(zq aH l0)] aA _
def aJr (l0:List GSel):Option (List Str):=tO O 134 [(zq aH l0)] [] fun r=>(bS r,[])
def aTe (l0:List GSel):Pc (aJr l0):=cE O 134 [(zq aH l0)] bS _
def mE:(GFrag×Bool)->PV:=fun r => .tuple [bCt r.1,PV.bool r.2]
theorem aTf (a b:GFrag×Bool) (h:mE a=mE b):a=b:=by
 simp only [mE,PV.tuple.injEq,aaf,and_true] at h
 exact aaz (aS5 _ _ (by rw [iU,iU];exact h.1)) (Ev.bool_inj _ _ h.2)
def aWi (d:GDoc) (name:Str):Option (GFrag×Bool):=tO O 32 [(eD d),(.str name)] [] fun r=>(mE r,[])
def aEh (d:GDoc) (name:Str):Pc (aWi d name):=cE O 32 [(eD d),(.str name)] mE _
def aBP (l0:List GSel) (out0:List Str):Option (List Str):=tO O 135 [(zq aH l0),(zp PV.str out0)] [] fun r=>(bS r,[])
def vX (l0:List GSel) (out0:List Str):Pc (aBP l0 out0):=cE O 135 [(zq aH l0),(zp PV.str out0)] bS _
def aCy (l0:List GSel) (out0:List Str):Option (List Str):=tO O 141 [(zq aH l0),(zp PV.str out0)] [] fun r=>(bS r,[])
def aCz (l0:List GSel) (out0:List Str):Pc (aCy l0 out0):=cE O 141 [(zq aH l0),(zp PV.str out0)] bS _
def aTg (l0:List Str):Option (List Str):=tO O 142 [(zq PV.str l0)] [] fun r=>(dZ r,[])
def aWj (l0:List Str):Pc (aTg l0):=cE O 142 [(zq PV.str l0)] dZ _
def iS:(List GSpot)->PV:=fun r => .slice (List.map oK r) [] true
theorem aMS (a b:List GSpot) (h:iS a=iS b):a=b:=Ev.encSlO_inj aS7 a b h
def tG (s:GSchema) (typ:Str) (l0:List GSel):Option (List GSpot):=tO O 145 [(aJ s),(.str typ),(zq aH l0)] [] fun r=>(iS r,[])
def zP (s:GSchema) (typ:Str) (l0:List GSel):Pc (tG s typ l0):=cE O 145 [(aJ s),(.str typ),(zq aH l0)] iS _
def aEi (s:GSchema) (name:Str):Option Bool:=tO O 151 [(aJ s),(.str name)] [] fun r=>(aA r,[])
def aBq (s:GSchema) (name:Str):Pc (aEi s name):=cE O 151 [(aJ s),(.str name)] aA _
def kT:(GDef×Bool)->PV:=fun r => .tuple [bGY r.1,PV.bool r.2]
theorem aTh (a b:GDef×Bool) (h:kT a=kT b):a=b:=by
 simp only [kT,PV.tuple.injEq,aaf,and_true] at h
 exact aaz (aYq _ _ (by rw [oI,oI];exact h.1)) (Ev.bool_inj _ _ h.2)
def aWk (s:GSchema) (name:Str):Option (GDef×Bool):=tO O 152 [(aJ s),(.str name)] [] fun r=>(kT r,[])
def aTi (s:GSchema) (name:Str):Pc (aWk s name):=cE O 152 [(aJ s),(.str name)] kT _
def mF (s:List Int) (v0:Int):Option Bool:=tO O 155 [(zq (PV.int .i64) s),(i6 v0)] [] fun r=>(aA r,[])
def aBs (s:List Int) (v0:Int):Pc (mF s v0):=cE O 155 [(zq (PV.int .i64) s),(i6 v0)] aA _
def jT:(GValue×Bool)->PV:=fun r => .tuple [aQR r.1,PV.bool r.2]
theorem aMT (a b:GValue×Bool) (h:jT a=jT b):a=b:=by
 simp only [jT,PV.tuple.injEq,aaf,and_true] at h
 exact aaz (yO _ _ (by rw [eK,eK];exact h.1)) (Ev.bool_inj _ _ h.2)
def aMU (name:Str) (l0:List GMember):Option (GValue×Bool):=tO O 157 [(.str name),(zq aE l0)] [] fun r=>(jT r,[])
def aWl (name:Str) (l0:List GMember):Pc (aMU name l0):=cE O 157 [(.str name),(zq aE l0)] jT _
def nK (s10 s20:List GValue):Option Bool:=tO O 177 [(zq aW s10),(zq aW s20),(.func (.func 158) [] [])] [] fun r=>(aA r,[])
def aBQ (s10 s20:List GValue):Pc (nK s10 s20):=cE O 177 [(zq aW s10),(zq aW s20),(.func (.func 158) [] [])] aA _
def mG (s10 s20:List GMember):Option Bool:=tO O 178 [(zq aE s10),(zq aE s20),(.func (.func 179) [] [])] [] fun r=>(aA r,[])
def aBt (s10 s20:List GMember):Pc (mG s10 s20):=cE O 178 [(zq aE s10),(zq aE s20),(.func (.func 179) [] [])] aA _
def aBR (a b:GValue):Option Bool:=tO O 158 [(jO a),(jO b)] [] fun r=>(aA r,[])
def aEj (a b:GValue):Pc (aBR a b):=cE O 158 [(jO a),(jO b)] aA _
def aEk (t:GType):Option Bool:=tO O 45 [(rZ t)] [] fun r=>(aA r,[])
def vD (t:GType):Pc (aEk t):=cE O 45 [(rZ t)] aA _
def aAM:(GType×Bool)->PV:=fun r => .tuple [bHM r.1,PV.bool r.2]
theorem bCI (a b:GType×Bool) (h:aAM a=aAM b):a=b:=by
 simp only [aAM,PV.tuple.injEq,aaf,and_true] at h
 exact aaz (bCp _ _ (by rw [pI,pI];exact h.1)) (Ev.bool_inj _ _ h.2)
def aQ3 (t:GType):Option (GType×Bool):=tO O 170 [(rZ t)] [] fun r=>(aAM r,[])
def aTj (t:GType):Pc (aQ3 t):=cE O 170 [(rZ t)] aAM _
def aMV (s:GSchema) (name:Str):Option (GDef×Bool):=tO O 82 [(aJ s),(.str name)] [] fun r=>(kT r,[])
def aBS (s:GSchema) (name:Str):Pc (aMV s name):=cE O 82 [(aJ s),(.str name)] kT _
def aFn (s:GSchema) (l0:List GParam) (m:List GMember):Option Bool:=tO O 171 [(aJ s),(zq bR l0),(zq aE m)] [] fun r=>(aA r,[])
def aZU (s:GSchema) (l0:List GParam) (m:List GMember):Pc (aFn s l0 m):=cE O 171 [(aJ s),(zq bR l0),(zq aE m)] aA _
def aWm (s:GSchema) (name:Str):Option Bool:=tO O 176 [(aJ s),(.str name)] [] fun r=>(aA r,[])
def aTk (s:GSchema) (name:Str):Pc (aWm s name):=cE O 176 [(aJ s),(.str name)] aA _
def aTl (s:Str) (i:Int):Option Int:=tO O 187 [(.str s),(i6 i)] [] fun r=>(bE r,[])
def aCA (s:Str) (i:Int):Pc (aTl s i):=cE O 187 [(.str s),(i6 i)] bE _
def aWn (s:Str) (i:Int):Option (Int×Int):=tO O 188 [(.str s),(i6 i)] [] fun r=>(kO r,[])
def bCJ (s:Str) (i:Int):Pc (aWn s i):=cE O 188 [(.str s),(i6 i)] kO _
def aMW (s:GSchema) (name:Str):Option Bool:=tO O 34 [(aJ s),(.str name)] [] fun r=>(aA r,[])
def aMX (s:GSchema) (name:Str):Pc (aMW s name):=cE O 34 [(aJ s),(.str name)] aA _
def aQ4 (s:Str):Option Bool:=tO O 42 [(.str s)] [] fun r=>(aA r,[])
def qN (s:Str):Pc (aQ4 s):=cE O 42 [(.str s)] aA _
def aKi (l0:List GDir) (deep:Int) (fixed:Bool):Option Bool:=tO O 43 [(zq bJ l0),(i6 deep),(.bool fixed)] [] fun r=>(aA r,[])
def nE (l0:List GDir) (deep:Int) (fixed:Bool):Pc (aKi l0 deep fixed):=cE O 43 [(zq bJ l0),(i6 deep),(.bool fixed)] aA _
def oO (l0:List GSel) (deep:Int):Option Bool:=tO O 44 [(zq aH l0),(i6 deep)] [] fun r=>(aA r,[])
def gH (l0:List GSel) (deep:Int):Pc (oO l0 deep):=cE O 44 [(zq aH l0),(i6 deep)] aA _
def aEl (has0:Bool) (v0:GValue):Option Bool:=tO O 46 [(.bool has0),(jO v0)] [] fun r=>(aA r,[])
def aJs (has0:Bool) (v0:GValue):Pc (aEl has0 v0):=cE O 46 [(.bool has0),(jO v0)] aA _
def zQ:GValue->PV:=fun r=>aQR r
theorem aZV (a b:GValue) (h:zQ a=zQ b):a=b:=yO a b (by rw [eK,eK];exact h)
def aHZ (v0:GValue):Option GValue:=tO O 115 [(jO v0)] [] fun r=>(zQ r,[])
def aPx (v0:GValue):Pc (aHZ v0):=cE O 115 [(jO v0)] zQ _
def pO (l0:List Str) (sels:List GSel):Option (List Str):=tO O 118 [(zp PV.str l0),(zq aH sels)] [] fun r=>(bS r,[])
def oP (l0:List Str) (sels:List GSel):Pc (pO l0 sels):=cE O 118 [(zp PV.str l0),(zq aH sels)] bS _
def xQ (f:GFrag) (c b d:Str) (a:GDoc):Bool->UP:=fun r=>[[(4,[(.str c),(.str b),(.slice [] [] true),(.slice [] [] true)]),(3,[(.str d)]),(2,[(zq cO a.ops),(zq aL a.frags)])]]
def aAN (f:GFrag) (c b d:Str) (a:GDoc):Option Bool:=tO O 150 [(aPp f),(.ptr 1 3 0)] [[(4,[(.str c),(.str b),(.slice [] [] true),(.slice [] [] true)]),(3,[(.str d)]),(2,[(zq cO a.ops),(zq aL a.frags)])]] fun r=>(aA r,(xQ f c b d a r))
theorem aJt {f:GFrag} {c a d:Str} {b:GDoc} {r:Bool} (h:aAN f c a d b=some r):O 150 [(aPp f),(.ptr 1 3 0)] [[(4,[(.str c),(.str a),(.slice [] [] true),(.slice [] [] true)]),(3,[(.str d)]),(2,[(zq cO b.ops),(zq aL b.frags)])]]=some (aA r,(xQ f c a d b r)):=dW (enc:=fun r=>(aA r,(xQ f c a d b r))) h
def aCB (s:List GFrag) (c b d:Str) (a:GDoc):Int->UP:=fun r=>[[(4,[(.str c),(.str b),(.slice [] [] true),(.slice [] [] true)]),(3,[(.str d)]),(2,[(zq cO a.ops),(zq aL a.frags)])]]
def aBT (s:List GFrag) (c b d:Str) (a:GDoc):Option Int:=tO O 116 [(zq aL s),(.func (.func 150) [] [(.ptr 1 3 0)])] [[(4,[(.str c),(.str b),(.slice [] [] true),(.slice [] [] true)]),(3,[(.str d)]),(2,[(zq cO a.ops),(zq aL a.frags)])]] fun r=>(bE r,(aCB s c b d a r))
theorem aMY {s:List GFrag} {c a d:Str} {b:GDoc} {r:Int} (h:aBT s c a d b=some r):O 116 [(zq aL s),(.func (.func 150) [] [(.ptr 1 3 0)])] [[(4,[(.str c),(.str a),(.slice [] [] true),(.slice [] [] true)]),(3,[(.str d)]),(2,[(zq cO b.ops),(zq aL b.frags)])]]=some (bE r,(aCB s c a d b r)):=dW (enc:=fun r=>(bE r,(aCB s c a d b r))) h
def aJu (d:GDoc) (name:Str):Option (GFrag×Bool):=tO O 119 [(eD d),(.str name)] [] fun r=>(mE r,[])
def aTm (d:GDoc) (name:Str):Pc (aJu d name):=cE O 119 [(eD d),(.str name)] mE _
def fU (s:List Str) (v0:Str):Option Int:=tO O 117 [(zq PV.str s),(.str v0)] [] fun r=>(bE r,[])
def xR (s:List Str) (v0:Str):Pc (fU s v0):=cE O 117 [(zq PV.str s),(.str v0)] bE _
def bHY (s:GSchema) (name:Str) (a b c:Int):Option Bool:=tO O 75 [(aJ s),(.str name),(i6 a),(i6 b),(i6 c)] [] fun r=>(aA r,[])
def aQ5 (s:GSchema) (name:Str) (a b c:Int):Pc (bHY s name a b c):=cE O 75 [(aJ s),(.str name),(i6 a),(i6 b),(i6 c)] aA _
def aH0 (s:GSchema) (typ:Str) (x:GSel):Option Str:=tO O 136 [(aJ s),(.str typ),(aOq x)] [] fun r=>(aF r,[])
def uN (s:GSchema) (typ:Str) (x:GSel):Pc (aH0 s typ x):=cE O 136 [(aJ s),(.str typ),(aOq x)] aF _
def aQ6 (s:GSchema) (typ name:Str):Option (GFieldDef×Bool):=tO O 84 [(aJ s),(.str typ),(.str name)] [] fun r=>(iK r,[])
def aFo (s:GSchema) (typ name:Str):Pc (aQ6 s typ name):=cE O 84 [(aJ s),(.str typ),(.str name)] iK _
def kF:(GParam×Bool)->PV:=fun r => .tuple [aYp r.1,PV.bool r.2]
theorem aPy (a b:GParam×Bool) (h:kF a=kF b):a=b:=by
 simp only [kF,PV.tuple.injEq,aaf,and_true] at h
 exact aaz (aFi _ _ (by rw [kM,kM];exact h.1)) (Ev.bool_inj _ _ h.2)
def vE (l0:List GParam) (name:Str):Option (GParam×Bool):=tO O 128 [(zq bR l0),(.str name)] [] fun r=>(kF r,[])
def aFp (l0:List GParam) (name:Str):Pc (vE l0 name):=cE O 128 [(zq bR l0),(.str name)] kF _
def aMZ (name:Str):Option (GParam×Bool):=tO O 100 [(.str name)] [] fun r=>(kF r,[])
def aQ7 (name:Str):Pc (aMZ name):=cE O 100 [(.str name)] kF _
def bHZ (t:GType):Option Bool:=tO O 129 [(rZ t)] [] fun r=>(aA r,[])
def bH0 (t:GType):Pc (bHZ t):=cE O 129 [(rZ t)] aA _
def aEm (s:GSchema) (d:GDoc) (typ:Str) (l0:List GSel):Option (List GSeineref13Spot):=tO O 149 [(aJ s),(eD d),(.str typ),(zq aH l0)] [] fun r=>(iL r,[])
def zR (s:GSchema) (d:GDoc) (typ:Str) (l0:List GSel):Pc (aEm s d typ l0):=cE O 149 [(aJ s),(eD d),(.str typ),(zq aH l0)] iL _
def aH1 (s:GSchema) (d:GDoc) (l0:List GSeineref13Spot):Option Bool:=tO O 148 [(aJ s),(eD d),(zq aI l0)] [] fun r=>(aA r,[])
def aM0 (s:GSchema) (d:GDoc) (l0:List GSeineref13Spot):Pc (aH1 s d l0):=cE O 148 [(aJ s),(eD d),(zq aI l0)] aA _
def aWo (m:List GMember) (out0:List Str):Option (List Str):=tO O 166 [(zq aE m),(zp PV.str out0)] [] fun r=>(bS r,[])
def aTn (m:List GMember) (out0:List Str):Pc (aWo m out0):=cE O 166 [(zq aE m),(zp PV.str out0)] bS _
def aCC (s:GSchema) (l0:List GParam) (m:List GMember):Option (List GSpot):=tO O 172 [(aJ s),(zq bR l0),(zq aE m)] [] fun r=>(eA r,[])
def aH2 (s:GSchema) (l0:List GParam) (m:List GMember):Pc (aCC s l0 m):=cE O 172 [(aJ s),(zq bR l0),(zq aE m)] eA _
def aM1 (name:Str):Option Bool:=tO O 174 [(.str name)] [] fun r=>(aA r,[])
def aWp (name:Str):Pc (aM1 name):=cE O 174 [(.str name)] aA _
def kU (s:List Int) (v0:Int):Option Int:=tO O 175 [(zq (PV.int .i64) s),(i6 v0)] [] fun r=>(bE r,[])
def aDu (s:List Int) (v0:Int):Pc (kU s v0):=cE O 175 [(zq (PV.int .i64) s),(i6 v0)] bE _
def aEn (x y:GMember):Option Bool:=tO O 179 [(aLC x),(aLC y)] [] fun r=>(aA r,[])
def aOr (x y:GMember):Pc (aEn x y):=cE O 179 [(aLC x),(aLC y)] aA _
def aM2 (name:Str):Option Bool:=tO O 72 [(.str name)] [] fun r=>(aA r,[])
def aWq (name:Str):Pc (aM2 name):=cE O 72 [(.str name)] aA _
def aTo (name:Str) (l0:List GMember):Option (GValue×Bool):=tO O 165 [(.str name),(zq aE l0)] [] fun r=>(jT r,[])
def aYv (name:Str) (l0:List GMember):Pc (aTo name l0):=cE O 165 [(.str name),(zq aE l0)] jT _
def aQ8 (c:Int):Option Bool:=tO O 90 [(.int .u8 c)] [] fun r=>(aA r,[])
def aPz (c:Int):Pc (aQ8 c):=cE O 90 [(.int .u8 c)] aA _
def aWr (s:GSchema) (name:Str):Option Bool:=tO O 80 [(aJ s),(.str name)] [] fun r=>(aA r,[])
def aTp (s:GSchema) (name:Str):Pc (aWr s name):=cE O 80 [(aJ s),(.str name)] aA _
def aEo (s:GSchema) (name:Str):Option Bool:=tO O 81 [(aJ s),(.str name)] [] fun r=>(aA r,[])
def aBu (s:GSchema) (name:Str):Pc (aEo s name):=cE O 81 [(aJ s),(.str name)] aA _
def aQ9 (c:Int):Option Bool:=tO O 89 [(.int .u8 c)] [] fun r=>(aA r,[])
def aPA (c:Int):Pc (aQ9 c):=cE O 89 [(.int .u8 c)] aA _
def aM3 (l0:List GMember) (deep:Int) (fixed:Bool):Option Bool:=tO O 91 [(zq aE l0),(i6 deep),(.bool fixed)] [] fun r=>(aA r,[])
def aBU (l0:List GMember) (deep:Int) (fixed:Bool):Pc (aM3 l0 deep fixed):=cE O 91 [(zq aE l0),(i6 deep),(.bool fixed)] aA _
def uO (x:GSel) (deep:Int):Option Bool:=tO O 92 [(aOq x),(i6 deep)] [] fun r=>(aA r,[])
def aRa (x:GSel) (deep:Int):Pc (uO x deep):=cE O 92 [(aOq x),(i6 deep)] aA _
def aM4 (a b:GValue):Option Bool:=tO O 94 [(jO a),(jO b)] [] fun r=>(aA r,[])
def aM5 (a b:GValue):Pc (aM4 a b):=cE O 94 [(jO a),(jO b)] aA _
def fI (s:GSchema) (d:GDoc) (a b:GSeineref13Spot):Option Bool:=tO O 173 [(aJ s),(eD d),(cI a),(cI b)] [] fun r=>(aA r,[])
def aRb (s:GSchema) (d:GDoc) (a b:GSeineref13Spot):Pc (fI s d a b):=cE O 173 [(aJ s),(eD d),(cI a),(cI b)] aA _
def aWs (v0:GValue):Option (List Str):=tO O 132 [(jO v0)] [] fun r=>(dZ r,[])
def bCK (v0:GValue):Pc (aWs v0):=cE O 132 [(jO v0)] dZ _
def vF (s:GSchema) (t:GType) (has0:Bool) (v0:GValue):Option (List GSpot):=tO O 182 [(aJ s),(rZ t),(.bool has0),(jO v0)] [] fun r=>(eA r,[])
def aFq (s:GSchema) (t:GType) (has0:Bool) (v0:GValue):Pc (vF s t has0 v0):=cE O 182 [(aJ s),(rZ t),(.bool has0),(jO v0)] eA _
def aJv (a b:List GMember):Option Bool:=tO O 133 [(zq aE a),(zq aE b)] [] fun r=>(aA r,[])
def aTq (a b:List GMember):Pc (aJv a b):=cE O 133 [(zq aE a),(zq aE b)] aA _
def bCL (x:GSel):Option Str:=tO O 183 [(aOq x)] [] fun r=>(aF r,[])
def aLF (x:GSel):Pc (bCL x):=cE O 183 [(aOq x)] aF _
def qO (s:GSchema) (d:GDoc) (a b:GSeineref13Spot):Option Bool:=tO O 184 [(aJ s),(eD d),(cI a),(cI b)] [] fun r=>(aA r,[])
def aM6 (s:GSchema) (d:GDoc) (a b:GSeineref13Spot):Pc (qO s d a b):=cE O 184 [(aJ s),(eD d),(cI a),(cI b)] aA _
def aLG (a b:List GMember):Option Bool:=tO O 185 [(zq aE a),(zq aE b)] [] fun r=>(aA r,[])
def aZW (a b:List GMember):Pc (aLG a b):=cE O 185 [(zq aE a),(zq aE b)] aA _
def aLH (s:GSchema) (d:GDoc) (a b:GSeineref13Spot):Option (List GSeineref13Spot):=tO O 186 [(aJ s),(eD d),(cI a),(cI b)] [] fun r=>(mT r,[])
def aPB (s:GSchema) (d:GDoc) (a b:GSeineref13Spot):Pc (aLH s d a b):=cE O 186 [(aJ s),(eD d),(cI a),(cI b)] mT _
def aRc (s:GSchema) (a b:GType):Option Bool:=tO O 189 [(aJ s),(rZ a),(rZ b)] [] fun r=>(aA r,[])
def aZX (s:GSchema) (a b:GType):Pc (aRc s a b):=cE O 189 [(aJ s),(rZ a),(rZ b)] aA _
open Go.RowKit
variable (L : List PV) (U : UP)
def GM:Mem:=fun _ _=>none
theorem xok:aVI Tryz.prog GM XT:=by
 intro f g h
 unfold XT at h
 simp only [Go.Ev.look] at h
 split at h
 ·rename_i e;subst e;cases h;exact aX4
 split at h
 ·rename_i e;subst e;cases h;exact aX4
 simp at h
theorem bJF:Tryz.prog.follows .mixedOrders=true:=by kernel_rfl
theorem bJG : (Tryz.prog.funcs.toList.all fun fn => !fn.body.isSome || !(fn.name == "runtime.NumGoroutine")) = true := by kernel_rfl
theorem pokX:POk Tryz.prog:=by
 refine ⟨bJF,fun f fn hf hb => ?_⟩
 have hm:fn∈Tryz.prog.funcs.toList:=by
  have:=Array.mem_of_getElem? hf
  simpa using this
 have:=aak.1 bJG fn hm
 rw [hb] at this
 simpa using this
end Go.Proofs.YtenmfogokijilaaGreat

import Derived.Test.YtenmfogokijilaaGreatGa
import Derived.Test.YtenmfogokijilaaGreatGb
noncomputable section
set_option maxRecDepth 100000
set_option linter.unusedVariables false
set_option linter.unusedSimpArgs false
set_option linter.unusedSimpArgs false
open Go Go.Ev Go.Ev.PV
namespace Go.Proofs.YtenmfogokijilaaGreat
variable (L : List PV) (U : UP)
abbrev aOF:=Co fun (r:List GSpot) (w:PV×UP)=>w=(iS r,[])
def fB (t:((List GSpot)×Int)×Unit):=(pu (pu L 3 (zp oK t.1.1)) 4 (i6 t.1.2),U)
def gT (t:((List GSpot))×Int):=(pu (pu L 3 (zp oK t.1)) 4 (i6 t.2),U)
abbrev uU:=ex1 (some 0) gT
def aB1 (t:((List GSpot)×Int)×Unit):=(pu (pu L 3 (zp oK t.1.1)) 5 (i6 t.1.2),U)
def aA1 (t:((List GSpot))×Int):=(pu (pu L 3 (zp oK t.1)) 5 (i6 t.2),U)
abbrev aJJ:=ex1 (some 2) aA1
def rC (s:GSchema) (l0:List GSel) (c:Int):((List GSpot)×Int)->Unit->LC ((List GSpot)×Int) Unit aJJ
 | (b,a),j =>
 cOp (oNth kSel l0 c) fun d =>
 cCnd (decide (a<(ln kDir d.dirs)))
  (cOp (oNth kSel l0 c) fun e =>
  cOp (oNth kDir e.dirs a) fun f =>
  cOp (aF9 f) fun g =>
  cOp (oNth kSel l0 c) fun h =>
  cOp (oNth kDir h.dirs a) fun i =>
  cOp (aH2 s g i.args) fun k =>
  cOp (oApp aHP b k) fun l =>
  bH (l,(IntKind.wrap .i64 (a+1))) ())
  (aP (lE b a))
def lN (s:GSchema) (l0:List GSel) (a:Int) (z:((List GSpot)×Int)):Option (((List GSpot)×Int)⊕((List GSpot))):=(rC s l0 a z default).x
def pV (s:GSchema) (typ:Str) (l0:List GSel) (a:Int):((List GSpot))->LC ((List GSpot)×Int) Unit uU
 | b =>
 cB aB1 ([(.str typ),(zq aH l0),(.ptr 0 3 0),(zp oK b),(i6 a),(i6 0)]++aY s) [] (lN s l0 a) (rC s l0 a) (b,0) () <|
 kOne fun c _ =>
  cOp (oNth kSel l0 a) fun d =>
  cOp (uN s typ d) fun e =>
  cOp (oNth kSel l0 a) fun f =>
  cOp (zP s e f.sels) fun g =>
  cOp (oApp aHP c g (o:=true)) fun h =>
  bH (h,(IntKind.wrap .i64 (a+1))) ()
def rD (s:GSchema) (typ:Str) (l0:List GSel):((List GSpot)×Int)->Unit->LC ((List GSpot)×Int) Unit uU
 | (b,a),j =>
 cCnd (decide (a<(ln kSel l0)))
  (cOp (oNth kSel l0 a) fun c =>
  cCnd (c.kind==0)
  (cOp (oNth kSel l0 a) fun d =>
  cOp (aMR s (GSeineref13Spot.mk typ d)) fun e =>
  cOp (oNth kSel l0 a) fun f =>
  cOp (aH2 s e f.args) fun g =>
  cOp (oApp aHP b g) fun h =>
  pV s typ l0 a h)
  (pV s typ l0 a b))
  (aP (lE b a))
def iV (s:GSchema) (typ:Str) (l0:List GSel) (z:((List GSpot)×Int)):Option (((List GSpot)×Int)⊕((List GSpot))):=(rD s typ l0 z default).x
def aEI (s:GSchema) (typ:Str) (l0:List GSel):aOF :=
 cB fB ([(.str typ),(zq aH l0),(.ptr 0 3 0),(.slice [] [] true),(i6 0)]++aY s) [] (iV s typ l0) (rD s typ l0) ([],0) () <|
 kOne fun a _ =>
 cR a
theorem aJK {s typ l0 r} (h:(aEI s typ l0).x=some r):tG s typ l0=some r:=kV (ds:=⟨[(18,(dR kSel)),(28,(dR kSel)),(31,(.v jS)),(34,(dR kSel)),(37,(.v eA)),(38,(dL aHP)),(42,(dR kSel)),(53,(dR kSel)),(57,(dR kDir)),(59,(.v jS)),(62,(dR kSel)),(66,(dR kDir)),(69,(.v eA)),(70,(dL aHP)),(77,(dR kSel)),(79,(.v aF)),(82,(dR kSel)),(85,(.v iS)),(86,(dL aHP))],[(8,[(3,3)],⟨aB1,[(some 2,⟨aA1⟩)]⟩),(3,[(3,3)],⟨fB,[(some 0,⟨gT⟩)]⟩)]⟩) h (aG aMS) Tryz.func145 (fun _=>by kernel_rfl)
abbrev aRl:=Co fun (r:Bool) (w:PV×UP)=>w=(aA r,[])
def aGi (s:GSchema) (name:Str):aRl :=
 cOp (aHU s name [1,2,3]) fun a =>
 cR a
theorem aLe {s name r} (h:(aGi s name).x=some r):aEi s name=some r:=kV (ds:=⟨[(8,(.v aA))],[]⟩) h (aG aC) Tryz.func151 (fun _=>by kernel_rfl)
abbrev bFd:=Co fun (r:GDef×Bool) (w:PV×UP)=>w=(kT r,[])
def aKB (t:(Int×Str×(List Str)×(List GFieldDef)×(List Str)×(List GParam))×Int):=(pu (pu (pu (pu (pu (pu (pu (pu L 2 (.bool true)) 5 (i6 t.2)) 6 (i6 t.1.1)) 7 (.str t.1.2.1)) 8 (zq PV.str t.1.2.2.1)) 9 (zq cJ t.1.2.2.2.1)) 10 (zq PV.str t.1.2.2.2.2.1)) 11 (zq bR t.1.2.2.2.2.2),U)
abbrev aWN:=ex2 (some 0) aZ (ex1 none aKB)
def aFx (s:GSchema) (name:Str):Int->Unit->LC Int Unit aWN
 | a,j =>
 cCnd (decide (a<(ln kDef s.defs)))
  (cOp (oNth kDef s.defs a) fun b =>
  cCnd (b.name==name)
  (aP (lR (lE (b.kind,b.name,b.faces,b.fields,b.parts,b.params) a)))
  (bH (IntKind.wrap .i64 (a+1)) ()))
  (aP (lL () a))
def aCS (s:GSchema) (name:Str) (z:Int):Option (Int⊕(Unit⊕(Int×Str×(List Str)×(List GFieldDef)×(List Str)×(List GParam)))):=(aFx s name z default).x
def aTV (s:GSchema) (name:Str):bFd :=
 cOp (aWp name) fun b =>
 cCnd b
 (cR ((GDef.mk 0 name ([]:List Str) ([]:List GFieldDef) ([]:List Str) ([]:List GParam)),true))
 (cB bM ([(.str name),(.ptr 0 4 0),(.bool false),(zq bN s.defs),(i6 (ln kDef s.defs)),(i6 0),(i6 0),(.str []),(.slice [] [] true),(.slice [] [] true),(.slice [] [] true),(.slice [] [] true)]++aY s) [] (aCS s name) (aFx s name) 0 () <|
 fX (fun a _ =>
 cR ((GDef.mk 0 [] ([]:List Str) ([]:List GFieldDef) ([]:List Str) ([]:List GParam)),false)) <| kOne fun a _ =>
 cR ((GDef.mk a.1 a.2.1 a.2.2.1 a.2.2.2.1 a.2.2.2.2.1 a.2.2.2.2.2),true))
theorem aWO {s name r} (h:(aTV s name).x=some r):aWk s name=some r:=kV (ds:=⟨[(9,(.v aA)),(17,(dR kDef))],[(4,[(4,6),(2,3)],⟨bM,[(some 0,⟨aZ⟩),(none,⟨aKB⟩)]⟩)]⟩) h (aG aTh) Tryz.func152 (fun _=>by kernel_rfl)
abbrev aB2:=Co fun (r:Bool) (w:PV×UP)=>w=(aA r,[])
def kQ (s:List Int) (v0:Int):aB2 :=
 cOp (aDu s v0) fun a =>
 cR (decide (a≥0))
def aBx (s:List Int) (v0:Int):Option Bool:=(kQ s v0).x
theorem aAj {s v0 r} (h:(kQ s v0).x=some r):mF s v0=some r:=kV (ds:=⟨[(7,(.v bE))],[]⟩) h (aG aC) Tryz.func155 (fun _=>by kernel_rfl)
abbrev bAa:=Co fun (r:GValue×Bool) (w:PV×UP)=>w=(jT r,[])
def aGj (t:(Int×Int×Str×(List GValue)×(List GMember))×Int):=(pu (pu (pu (pu (pu (pu (pu L 2 (.bool true)) 5 (i6 t.2)) 6 (i6 t.1.1)) 7 (i6 t.1.2.1)) 8 (.str t.1.2.2.1)) 9 (zq aW t.1.2.2.2.1)) 10 (zq aE t.1.2.2.2.2),U)
abbrev aRm:=ex2 (some 0) aZ (ex1 none aGj)
def aA2 (name:Str) (l0:List GMember):Int->Unit->LC Int Unit aRm
 | a,j =>
 cCnd (decide (a<(ln aT l0)))
  (cOp (oNth aT l0 a) fun b =>
  cCnd (b.name==name)
  (aP (lR (lE (b.v.kind,b.v.n,b.v.s,b.v.l,b.v.m) a)))
  (bH (IntKind.wrap .i64 (a+1)) ()))
  (aP (lL () a))
def yD (name:Str) (l0:List GMember) (z:Int):Option (Int⊕(Unit⊕(Int×Int×Str×(List GValue)×(List GMember)))):=(aA2 name l0 z default).x
def aNv (name:Str) (l0:List GMember):bAa :=
 cB bM [(.str name),(.ptr 0 4 0),(.bool false),(zq aE l0),(i6 (ln aT l0)),(i6 0),(i6 0),(i6 0),(.str []),(.slice [] [] true),(.slice [] [] true)] [] (yD name l0) (aA2 name l0) 0 () <|
 fX (fun a _ =>
 cR ((GValue.mk 0 0 [] ([]:List GValue) ([]:List GMember)),false)) <| kOne fun a _ =>
 cR ((GValue.mk a.1 a.2.1 a.2.2.1 a.2.2.2.1 a.2.2.2.2),true)
theorem aRn {name l0 r} (h:(aNv name l0).x=some r):aMU name l0=some r:=kV (ds:=⟨[(12,(dR aT))],[(2,[(4,5)],⟨bM,[(some 0,⟨aZ⟩),(none,⟨aGj⟩)]⟩)]⟩) h (aG aMT) Tryz.func157 (fun _=>by kernel_rfl)
abbrev aCT:=Co fun (r:Bool) (w:PV×UP)=>w=(aA r,[])
def gK (s10:List GValue) (s20:List GValue):Int->Unit->LC Int Unit tI
 | a,j =>
 cCnd (decide (a<(ln kA s10)))
  (cOp (oNth kA s10 a) fun b =>
  cOp (oNth kA s20 a) fun c =>
  cOp (aEj b c) fun d =>
  cCnd (!d)
  (aP (lR (lE () a)))
  (bH (IntKind.wrap .i64 (a+1)) ()))
  (aP (lL () a))
def fV (s10 s20:List GValue) (z:Int):Option (Int⊕(Unit⊕Unit)):=(gK s10 s20 z default).x
def sJ (s10 s20:List GValue):aCT :=
 cCnd ((ln kA s10) != (ln kA s20))
 (cR false)
 (cB bM [(zq aW s20),(.func (.func 158) [] []),(.bool false),(zq aW s10),(i6 (ln kA s10)),(i6 0)] [] (fV s10 s20) (gK s10 s20) 0 () <|
 fX (fun a _ =>
 cR true) <| kOne fun a _ =>
 cR false)
theorem aAw {s10 s20 r} (h:(sJ s10 s20).x=some r):nK s10 s20=some r:=kV (ds:=⟨[(20,(dR kA)),(24,(dR kA)),(29,(.v aA))],[(4,[],⟨bM,[(some 0,⟨aZ⟩),(none,⟨aZ⟩)]⟩)]⟩) h (aG aC) Tryz.func177 (fun _=>by kernel_rfl)
abbrev aB3:=Co fun (r:Bool) (w:PV×UP)=>w=(aA r,[])
def fW (s10:List GMember) (s20:List GMember):Int->Unit->LC Int Unit tI
 | a,j =>
 cCnd (decide (a<(ln aT s10)))
  (cOp (oNth aT s10 a) fun b =>
  cOp (oNth aT s20 a) fun c =>
  cOp (aOr b c) fun d =>
  cCnd (!d)
  (aP (lR (lE () a)))
  (bH (IntKind.wrap .i64 (a+1)) ()))
  (aP (lL () a))
def fJ (s10 s20:List GMember) (z:Int):Option (Int⊕(Unit⊕Unit)):=(fW s10 s20 z default).x
def qT (s10 s20:List GMember):aB3 :=
 cCnd ((ln aT s10) != (ln aT s20))
 (cR false)
 (cB bM [(zq aE s20),(.func (.func 179) [] []),(.bool false),(zq aE s10),(i6 (ln aT s10)),(i6 0)] [] (fJ s10 s20) (fW s10 s20) 0 () <|
 fX (fun a _ =>
 cR true) <| kOne fun a _ =>
 cR false)
theorem aAk {s10 s20 r} (h:(qT s10 s20).x=some r):mG s10 s20=some r:=kV (ds:=⟨[(20,(dR aT)),(24,(dR aT)),(29,(.v aA))],[(4,[],⟨bM,[(some 0,⟨aZ⟩),(none,⟨aZ⟩)]⟩)]⟩) h (aG aC) Tryz.func178 (fun _=>by kernel_rfl)
abbrev aWP:=Co fun (r:Bool) (w:PV×UP)=>w=(aA r,[])
def aKC (a b:GValue):aWP :=
 cCnd (a.kind==b.kind)
 (cCnd (a.n==b.n)
 (cCnd (a.s==b.s)
 (cOp (aBQ a.l b.l) fun c =>
 cCnd c
 (cOp (aBt a.m b.m) fun d =>
 cR d)
 (cR false))
 (cR false))
 (cR false))
 (cR false)
theorem aOG {a b r} (h:(aKC a b).x=some r):aBR a b=some r:=kV (ds:=⟨[(29,(.v aA)),(36,(.v aA))],[]⟩) h (aG aC) Tryz.func158 (fun _=>by kernel_rfl)
abbrev aRo:=Co fun (r:Bool) (w:PV×UP)=>w=(aA r,[])
def aGk (t:GType):aRo :=
 cOp (qN t.name) fun a =>
 cCnd a
 (cCnd (decide (t.lists≥0))
 (cCnd (decide (t.lists<=4))
 (cCnd (decide (t.musts≥0))
 (cOp (oShl .i64 .u64 2 (IntKind.wrap .u64 t.lists)) fun b =>
 cR (decide (t.musts<b)))
 (cR false))
 (cR false))
 (cR false))
 (cR false)
def aOH (t:GType):Option Bool:=(aGk t).x
theorem aLf {t r} (h:(aGk t).x=some r):aEk t=some r:=kV (ds:=⟨[(5,(.v aA)),(27,(.v (PV.int .i64)))],[]⟩) h (aG aC) Tryz.func45 (fun _=>by kernel_rfl)
abbrev bFe:=Co fun (r:GType×Bool) (w:PV×UP)=>w=(aAM r,[])
def aNw (t:GType):bFe :=
 cOp (vD t) fun a =>
 cCnd (!a)
 (cR ((GType.mk [] 0 0),false))
 (cCnd (t.lists==0)
 (cR ((GType.mk [] 0 0),false))
 (cR ((GType.mk t.name (IntKind.wrap .i64 (t.lists-1)) (Int.fdiv t.musts (2 ^ min (Int.toNat 1) 64))),true)))
def aNx (t:GType):Option (GType×Bool):=(aNw t).x
theorem aNy {t r} (h:(aNw t).x=some r):aQ3 t=some r:=kV (ds:=⟨[(5,(.v aA))],[]⟩) h (aG bCI) Tryz.func170 (fun _=>by kernel_rfl)
abbrev bFf:=Co fun (r:GDef×Bool) (w:PV×UP)=>w=(kT r,[])
def aKD (t:(Int×Str×(List Str)×(List GFieldDef)×(List Str)×(List GParam))×Int):=(pu (pu (pu (pu (pu (pu (pu (pu L 3 (.bool true)) 4 (i6 t.2)) 5 (i6 t.1.1)) 6 (.str t.1.2.1)) 7 (zq PV.str t.1.2.2.1)) 8 (zq cJ t.1.2.2.2.1)) 9 (zq PV.str t.1.2.2.2.2.1)) 10 (zq bR t.1.2.2.2.2.2),U)
abbrev aWQ:=ex2 (some 0) aN (ex1 none aKD)
def aFy (s:GSchema) (name:Str):Int->Unit->LC Int Unit aWQ
 | a,j =>
 cCnd (decide (a<(ln kDef s.defs)))
  (cOp (oNth kDef s.defs a) fun c =>
  cCnd (c.name==name)
  (cOp (oNth kDef s.defs a) fun b =>
  aP (lR (lE (b.kind,b.name,b.faces,b.fields,b.parts,b.params) a)))
  (bH (IntKind.wrap .i64 (a+1)) ()))
  (aP (lL () a))
def aCU (s:GSchema) (name:Str) (z:Int):Option (Int⊕(Unit⊕(Int×Str×(List Str)×(List GFieldDef)×(List Str)×(List GParam)))):=(aFy s name z default).x
def aTW (s:GSchema) (name:Str):bFf :=
 cOp (aWq name) fun b =>
 cCnd b
 (cR ((GDef.mk 0 name ([]:List Str) ([]:List GFieldDef) ([]:List Str) ([]:List GParam)),true))
 (cB aS ([(.str name),(.ptr 0 2 0),(.ptr 0 4 0),(.bool false),(i6 0),(i6 0),(.str []),(.slice [] [] true),(.slice [] [] true),(.slice [] [] true),(.slice [] [] true)]++aY s) [] (aCU s name) (aFy s name) 0 () <|
 fX (fun a _ =>
 cR ((GDef.mk 0 [] ([]:List Str) ([]:List GFieldDef) ([]:List Str) ([]:List GParam)),false)) <| kOne fun a _ =>
 cR ((GDef.mk a.1 a.2.1 a.2.2.1 a.2.2.2.1 a.2.2.2.2.1 a.2.2.2.2.2),true))
theorem aWR {s name r} (h:(aTW s name).x=some r):aMV s name=some r:=kV (ds:=⟨[(8,(.v aA)),(21,(dR kDef)),(29,(dR kDef))],[(4,[(4,6),(2,3)],⟨aS,[(some 0,⟨aN⟩),(none,⟨aKD⟩)]⟩)]⟩) h (aG aTh) Tryz.func82 (fun _=>by kernel_rfl)
abbrev bC0:=Co fun (r:Bool) (w:PV×UP)=>w=(aA r,[])
abbrev aEJ:=ex2 (some 2) aZ (ex1 none aZ)
def aNz (m:List GMember) (b:Int):Int->Unit->LC Int Unit aEJ
 | a,j =>
 cCnd (decide (a<b))
  (cOp (oNth aT m a) fun c =>
  cOp (oNth aT m b) fun d =>
  cCnd (c.name==d.name)
  (aP (lR (lE () a)))
  (bH (IntKind.wrap .i64 (a+1)) ()))
  (aP (lL () a))
def aTX (m:List GMember) (a z:Int):Option (Int⊕(Unit⊕Unit)):=(aNz m a z default).x
def aHa (s:GSchema) (l0:List GParam) (m:List GMember):Int->Unit->LC Int Unit uP
 | a,j =>
 cCnd (decide (a<(ln aT m)))
  (cOp (oNth aT m a) fun c =>
  cOp (aFp l0 c.name) fun b =>
  cCnd (!b.2)
  (aP (lR (lE () a)))
  (cOp (oNth aT m a) fun d =>
  cOp (aJj s b.1.t d.v true) fun e =>
  cCnd (!e)
   (aP (lR (lE () a)))
   (cB bM ([(zq bR l0),(zq aE m),(.ptr 0 3 0),(.bool false),(i6 a),(i6 0)]++bHX b.1++aY s) [] (aTX m a) (aNz m a) 0 () <|
   fX (fun f _ =>
   bH (IntKind.wrap .i64 (a+1)) ()) <| kOne fun f _ =>
   aP (lR (lE () a)))))
  (aP (lL () a))
def aKE (s:GSchema) (l0:List GParam) (m:List GMember) (z:Int):Option (Int⊕(Unit⊕Unit)):=(aHa s l0 m z default).x
def aHb (l0:List GParam) (m:List GMember):Int->Unit->LC Int Unit aIc
 | a,j =>
 cCnd (decide (a<(ln zJ l0)))
  (cOp (oNth zJ l0 a) fun b =>
  cOp (aYv b.name m) fun c =>
  cCnd (!c.2)
  (cOp (oNth zJ l0 a) fun d =>
  cOp (bH0 d.t) fun e =>
  cCnd e
   (cOp (oNth zJ l0 a) fun f =>
   cCnd (!f.has)
   (aP (lR (lE () a)))
   (bH (IntKind.wrap .i64 (a+1)) ()))
   (bH (IntKind.wrap .i64 (a+1)) ()))
  (bH (IntKind.wrap .i64 (a+1)) ()))
  (aP (lL () a))
def aKF (l0:List GParam) (m:List GMember) (z:Int):Option (Int⊕(Unit⊕Unit)):=(aHb l0 m z default).x
def aPL (s:GSchema) (l0:List GParam) (m:List GMember):bC0 :=
 cB aS ([(zq bR l0),(zq aE m),(.ptr 0 3 0),(.bool false),(i6 0)]++aY s) [] (aKE s l0 m) (aHa s l0 m) 0 () <|
 fX (fun a _ =>
 cB bV ([(zq bR l0),(zq aE m),(.bool false),(i6 0)]++aY s) [] (aKF l0 m) (aHb l0 m) 0 () <|
 fX (fun b _ =>
 cR true) <| kOne fun b _ =>
 cR false) <| kOne fun a _ =>
 cR false
def bAb (s:GSchema) (l0:List GParam) (m:List GMember):Option Bool:=(aPL s l0 m).x
theorem aTY {s l0 m r} (h:(aPL s l0 m).x=some r):aFn s l0 m=some r:=kV (ds:=⟨[(24,(dR aT)),(27,(.v kF)),(38,(dR aT)),(41,(.v aA)),(51,(dR aT)),(56,(dR aT)),(69,(dR zJ)),(73,(.v jT)),(81,(dR zJ)),(84,(.v aA)),(89,(dR zJ))],[(8,[(8,10),(3,3)],⟨bM,[(some 2,⟨aZ⟩),(none,⟨aZ⟩)]⟩),(2,[(3,3)],⟨aS,[(some 0,⟨aN⟩),(none,⟨aN⟩)]⟩),(13,[(3,3)],⟨bV,[(some 4,⟨bA⟩),(none,⟨bA⟩)]⟩)]⟩) h (aG aC) Tryz.func171 (fun _=>by kernel_rfl)
abbrev bFg:=Co fun (r:Bool) (w:PV×UP)=>w=(aA r,[])
def aTZ (s:GSchema) (name:Str):bFg :=
 cOp (aHU s name [0,4]) fun a =>
 cR a
theorem aWS {s name r} (h:(aTZ s name).x=some r):aWm s name=some r:=kV (ds:=⟨[(8,(.v aA))],[]⟩) h (aG aC) Tryz.func176 (fun _=>by kernel_rfl)
abbrev bH2:=Co fun (r:Int) (w:PV×UP)=>w=(bE r,[])
abbrev bAc:=ex1 (some 0) fR
def aNA (s:Str) (i:Int):Int->Unit->LC Int Unit bAc
 | a,j =>
 cCnd (decide ((IntKind.wrap .i64 (i+a))<(List.length s:Int)))
  (cOp (oChr s (IntKind.wrap .i64 (i+a))) fun c =>
  cOp (aPz (c.toNat:Int)) fun b =>
  cCnd b
  (bH (IntKind.wrap .i64 (a+1)) ())
  (aP (lE a ())))
  (aP (lE a ()))
def aPM (s:Str) (i z:Int):Option (Int⊕Int):=(aNA s i z default).x
def aYw (s:Str) (i:Int):bH2 :=
 cB fR [(.str s),(i6 i),(i6 0)] [] (aPM s i) (aNA s i) 0 () <|
 kOne fun a _ =>
 cR a
def bFh (s:Str) (i:Int):Option Int:=(aYw s i).x
theorem bAd {s i r} (h:(aYw s i).x=some r):aTl s i=some r:=kV (ds:=⟨[(17,dC),(18,(.v aA))],[(2,[],⟨fR,[(some 0,⟨fR⟩)]⟩)]⟩) h (aG sA) Tryz.func187 (fun _=>by kernel_rfl)
abbrev aYx:=Co fun (r:Int×Int) (w:PV×UP)=>w=(kO r,[])
def aNB (t:(Int×Int)×Unit):=(pu (pu L 4 (i6 t.1.1)) 7 (i6 t.1.2),U)
def aKG (t:Unit×(Int×Int)):=(pu (pu L 4 (i6 t.2.1)) 7 (i6 t.2.2),U)
def aKH (t:Int×Int):=(pu (pu L 4 (i6 t.1)) 7 (i6 t.2),U)
abbrev aWT:=ex2 (some 1) aKH (ex1 none aKG)
def aPN (s : Str) (i : Int) (d : Int) : (Int × Int) -> Unit -> LC (Int × Int) Unit aWT
 | (b, a), j =>
 cCnd (decide (a < d))
  (cOp (oChr s (IntKind.wrap .i64 (i + a))) fun c =>
  cCnd (decide ((IntKind.wrap .i64 (c.toNat : Int)) < 128))
  (aP (lR (lE () (b, a))))
  (cCnd (decide ((IntKind.wrap .i64 (c.toNat : Int)) > 191))
   (aP (lR (lE () (b, a))))
   (bH ((bits .or .i64 (IntKind.wrap .i64 (b * 2 ^ min (Int.toNat 6) 64)) (bits .and .i64 (IntKind.wrap .i64 (c.toNat : Int)) 63)), (IntKind.wrap .i64 (a + 1))) ())))
  (aP (lL b a))
def aWU (s:Str) (i a:Int) (z:(Int×Int)):Option ((Int×Int)⊕(Int⊕Unit)):=(aPN s i a z default).x
def pW (s : Str) (i : Int) : (Int × Int × Int) -> aYx
 | (d, b, c) =>
 cCnd (decide (b > (IntKind.wrap .i64 ((List.length s : Int) - i))))
  (cR (0, 0))
  (cB aNB [(.str s), (i6 i), (i6 0), (i6 0), (i6 d), (i6 b), (i6 c), (i6 1)] [] (aWU s i b) (aPN s i b) (d, 1) () <|
  fX (fun a _ =>
  cCnd (decide (a < c))
   (cR (0, 0))
   (cCnd (decide (a > 1114111))
   (cR (0, 0))
   (cCnd (decide (a ≥ 55296))
    (cCnd (decide (a < 57344))
    (cR (0, 0))
    (cR (a, b)))
    (cR (a, b))))) <| kOne fun e _ =>
  cR (0, 0))
def aNC (s:Str) (i:Int):aYx :=
 cCnd (decide (i<0))
 (cR (0,0))
 (cCnd (decide (i≥(List.length s:Int)))
 (cR (0,0))
 (cOp (oChr s i) fun a =>
 cCnd (decide ((IntKind.wrap .i64 (a.toNat:Int))<128))
 (cR ((IntKind.wrap .i64 (a.toNat:Int)),1))
 (cCnd (decide ((IntKind.wrap .i64 (a.toNat:Int))≥194))
 (cCnd (decide ((IntKind.wrap .i64 (a.toNat:Int))<224))
 (pW s i ((bits .and .i64 (IntKind.wrap .i64 (a.toNat:Int)) 31),2,128))
 (cCnd (decide ((IntKind.wrap .i64 (a.toNat:Int))≥224))
 (cCnd (decide ((IntKind.wrap .i64 (a.toNat:Int))<240))
 (pW s i ((bits .and .i64 (IntKind.wrap .i64 (a.toNat:Int)) 15),3,2048))
 (cCnd (decide ((IntKind.wrap .i64 (a.toNat:Int))≥240))
 (cCnd (decide ((IntKind.wrap .i64 (a.toNat:Int))<245))
 (pW s i ((bits .and .i64 (IntKind.wrap .i64 (a.toNat:Int)) 7),4,65536))
 (cR (0,0)))
 (cR (0,0))))
 (cCnd (decide ((IntKind.wrap .i64 (a.toNat:Int))≥240))
 (cCnd (decide ((IntKind.wrap .i64 (a.toNat:Int))<245))
 (pW s i ((bits .and .i64 (IntKind.wrap .i64 (a.toNat:Int)) 7),4,65536))
 (cR (0,0)))
 (cR (0,0)))))
 (cCnd (decide ((IntKind.wrap .i64 (a.toNat:Int))≥224))
 (cCnd (decide ((IntKind.wrap .i64 (a.toNat:Int))<240))
 (pW s i ((bits .and .i64 (IntKind.wrap .i64 (a.toNat:Int)) 15),3,2048))
 (cCnd (decide ((IntKind.wrap .i64 (a.toNat:Int))≥240))
 (cCnd (decide ((IntKind.wrap .i64 (a.toNat:Int))<245))
 (pW s i ((bits .and .i64 (IntKind.wrap .i64 (a.toNat:Int)) 7),4,65536))
 (cR (0,0)))
 (cR (0,0))))
 (cCnd (decide ((IntKind.wrap .i64 (a.toNat:Int))≥240))
 (cCnd (decide ((IntKind.wrap .i64 (a.toNat:Int))<245))
 (pW s i ((bits .and .i64 (IntKind.wrap .i64 (a.toNat:Int)) 7),4,65536))
 (cR (0,0)))
 (cR (0,0)))))))
def aT0 (s:Str) (i:Int):Option (Int×Int):=(aNC s i).x
theorem aWV {s i r} (h:(aNC s i).x=some r):aWn s i=some r:=kV (ds:=⟨[(21,dC),(68,dC)],[(17,[],⟨aNB,[(some 1,⟨aKH⟩),(none,⟨aKG⟩)]⟩)]⟩) h (aG aKg) Tryz.func188 (fun _=>by kernel_rfl)
abbrev bAe:=Co fun (r:Bool) (w:PV×UP)=>w=(aA r,[])
def aND (s:GSchema) (name:Str):bAe :=
 cOp (aQ5 s name 1 1 1) fun a =>
 cR a
theorem aRp {s name r} (h:(aND s name).x=some r):aMW s name=some r:=kV (ds:=⟨[(7,(.v aA))],[]⟩) h (aG aC) Tryz.func34 (fun _=>by kernel_rfl)
abbrev bFi:=Co fun (r:Bool) (w:PV×UP)=>w=(aA r,[])
def aFz (s:Str):Int->Unit->LC Int Unit aEC
 | a,j =>
 cCnd (decide (a<(List.length s:Int)))
  (cOp (oChr s a) fun b =>
  cOp (aPA (b.toNat:Int)) fun c =>
  cCnd (!c)
  (cOp (oChr s a) fun d =>
  cOp (aPz (d.toNat:Int)) fun e =>
  cCnd (!e)
   (aP (lR (lE () a)))
   (bH (IntKind.wrap .i64 (a+1)) ()))
  (bH (IntKind.wrap .i64 (a+1)) ()))
  (aP (lL () a))
def aCV (s:Str) (z:Int):Option (Int⊕(Unit⊕Unit)):=(aFz s z default).x
def aNE (s:Str):bFi :=
 cCnd (s==([]:Str))
 (cR false)
 (cOp (oChr s 0) fun b =>
 cOp (aPA (b.toNat:Int)) fun c =>
 cCnd (!c)
 (cR false)
 (cB fR [(.str s),(.bool false),(i6 1)] [] (aCV s) (aFz s) 1 () <|
 fX (fun a _ =>
 cR true) <| kOne fun a _ =>
 cR false))
def bC1 (s:Str):Option Bool:=(aNE s).x
theorem aWW {s r} (h:(aNE s).x=some r):aQ4 s=some r:=kV (ds:=⟨[(8,dC),(9,(.v aA)),(20,dC),(21,(.v aA)),(26,dC),(27,(.v aA))],[(4,[],⟨fR,[(some 0,⟨dU⟩),(none,⟨dU⟩)]⟩)]⟩) h (aG aC) Tryz.func42 (fun _=>by kernel_rfl)
abbrev aRq:=Co fun (r:Bool) (w:PV×UP)=>w=(aA r,[])
def tQ (l0:List GSel) (deep:Int):Int->Unit->LC Int Unit pP
 | a,j =>
 cCnd (decide (a<(ln kSel l0)))
  (cOp (oNth kSel l0 a) fun c =>
  cOp (aRa c deep) fun b =>
  cCnd (!b)
  (aP (lR (lE () a)))
  (bH (IntKind.wrap .i64 (a+1)) ()))
  (aP (lL () a))
def mV (l0:List GSel) (deep z:Int):Option (Int⊕(Unit⊕Unit)):=(tQ l0 deep z default).x
def aGl (l0:List GSel) (deep:Int):aRq :=
 cCnd ((ln kSel l0)==0)
 (cR false)
 (cCnd (decide (deep>16))
 (cR false)
 (cB bV [(zq aH l0),(i6 deep),(.bool false),(i6 0)] [] (mV l0 deep) (tQ l0 deep) 0 () <|
 fX (fun a _ =>
 cR true) <| kOne fun a _ =>
 cR false))
theorem aLg {l0 deep r} (h:(aGl l0 deep).x=some r):oO l0 deep=some r:=kV (ds:=⟨[(21,(dR kSel)),(24,(.v aA))],[(4,[],⟨bV,[(some 0,⟨bA⟩),(none,⟨bA⟩)]⟩)]⟩) h (aG aC) Tryz.func44 (fun _=>by kernel_rfl)
abbrev bC2:=Co fun (r:GValue) (w:PV×UP)=>w=(zQ r,[])
def aKI (t:((List GValue)×Int)×Unit):=(pu (pu L 2 (zp aW t.1.1)) 3 (i6 t.1.2),U)
def aIt (t:((List GValue))×Int):=(pu (pu L 2 (zp aW t.1)) 3 (i6 t.2),U)
abbrev aT1:=ex1 (some 0) aIt
def aCW (v0:GValue):((List GValue)×Int)->Unit->LC ((List GValue)×Int) Unit aT1
 | (b,a),j =>
 cCnd (decide (a<(ln kA v0.l)))
  (cOp (oNth kA v0.l a) fun c =>
  cOp (aPx c) fun d =>
  cOp (aDp kA b [d] (o:=true)) fun e =>
  bH (e,(IntKind.wrap .i64 (a+1))) ())
  (aP (lE b a))
def aA3 (v0:GValue) (z:((List GValue)×Int)):Option (((List GValue)×Int)⊕((List GValue))):=(aCW v0 z default).x
def aJL (v0:GValue):bC2 :=
 cB aKI ([(.ptr 0 1 0),(.ptr 0 2 0),(.slice [] [] true),(i6 0),(i6 0),(i6 0),(.str []),(.slice [] [] true),(.slice [] [] true)]++rK v0) [] (aA3 v0) (aCW v0) ([],0) () <|
 kOne fun a _ =>
 cOp (aEf v0.m) fun b =>
 cR (GValue.mk v0.kind v0.n v0.s a b)
def bAf (v0:GValue):Option GValue:=(aJL v0).x
theorem aT2 {v0 r} (h:(aJL v0).x=some r):aHZ v0=some r:=kV (ds:=⟨[(16,(dR kA)),(18,(.v zQ)),(20,(dL kA)),(24,(.v mC))],[(3,[(2,5),(1,5)],⟨aKI,[(some 0,⟨aIt⟩)]⟩)]⟩) h (aG aZV) Tryz.func115 (fun _=>by kernel_rfl)
abbrev aOI:=Co fun (r:List Str) (w:PV×UP)=>w=(bS r,[])
def aB4 (t:((List Str)×Int)×Unit):=(pu (pu L 0 (zp PV.str t.1.1)) 3 (i6 t.1.2),U)
def aA4 (t:((List Str))×Int):=(pu (pu L 0 (zp PV.str t.1)) 3 (i6 t.2),U)
abbrev aJM:=ex1 (some 0) aA4
def mY (sels:List GSel):((List Str)×Int)->Unit->LC ((List Str)×Int) Unit aJM
 | (b,a),j =>
 cCnd (decide (a<(ln kSel sels)))
  (cOp (oNth kSel sels a) fun c =>
  cCnd (c.kind==1)
  (cOp (lG b c.name) fun d =>
  cCnd (!d)
   (cOp (aDp kStr b [c.name] (o:=true)) fun e =>
   cOp (oP e c.sels) fun f =>
   bH (f,(IntKind.wrap .i64 (a+1))) ())
   (cOp (oP b c.sels) fun g =>
   bH (g,(IntKind.wrap .i64 (a+1))) ()))
  (cOp (oP b c.sels) fun h =>
  bH (h,(IntKind.wrap .i64 (a+1))) ()))
  (aP (lE b a))
def lO (sels:List GSel) (z:((List Str)×Int)):Option (((List Str)×Int)⊕((List Str))):=(mY sels z default).x
def tR (l0:List Str) (sels:List GSel):aOI :=
 cB aB4 [(zp PV.str l0),(zq aH sels),(i6 (ln kSel sels)),(i6 0)] [] (lO sels) (mY sels) (l0,0) () <|
 kOne fun a _ =>
 cR a
def aEK (l0:List Str) (sels:List GSel):Option (List Str):=(tR l0 sels).x
theorem aB5 {l0 sels r} (h:(tR l0 sels).x=some r):pO l0 sels=some r:=kV (ds:=⟨[(11,(dR kSel)),(20,(.v aA)),(27,(dL kStr)),(31,(.v bS))],[(2,[],⟨aB4,[(some 0,⟨aA4⟩)]⟩)]⟩) h (aG zM) Tryz.func118 (fun _=>by kernel_rfl)
abbrev aRr (f:GFrag) (u0_4 u0_40 u0_3:Str) (u0_2:GDoc):=Co fun (r:Bool) (w:PV×UP)=>w=(aA r,(xQ f u0_4 u0_40 u0_3 u0_2 r))
def aOJ (f:GFrag) (c b a:Str) (d:GDoc):aRr f c b a d :=
 cR (f.name==a)
theorem aLh {f d c e g r} (h:(aOJ f d c e g).x=some r):aAN f d c e g=some r:=kV (ds:=⟨[],[]⟩) h (fun a b h=>aC a b (aaD h).1) Tryz.func150 (fun _=>by kernel_rfl)
abbrev aWX (s:List GFrag) (u0_4 u0_40 u0_3:Str) (u0_2:GDoc):=Co fun (r:Int) (w:PV×UP)=>w=(bE r,(aCB s u0_4 u0_40 u0_3 u0_2 r))
def yE (s:List GFrag) (e:Str) (d:Str) (f:Str) (c:GDoc):Int->Unit->LC Int Unit zV
 | b,j =>
 cCnd (decide (b<(ln gZ s)))
  (cOp (oNth gZ s b) fun g =>
  cOp (oE O 150 [(aPp g),(.ptr 2 3 0)] [[],[(4,[(.str e),(.str d),(.slice [] [] true),(.slice [] [] true)]),(3,[(.str f)]),(2,[(zq cO c.ops),(zq aL c.frags)])]] aA (fun u a=>u) (aAN g e d f c) (by exact fun _ h=>aQw rfl rfl rfl (aJt h))) fun i =>
  cCnd i
  (aP (lR (lE b b)))
  (bH (IntKind.wrap .i64 (b+1)) ()))
  (aP (lL () b))
def vM (s:List GFrag) (b a c:Str) (d:GDoc) (z:Int):Option (Int⊕(Unit⊕Int)):=(yE s b a c d z default).x
def aEL (s:List GFrag) (c a d:Str) (b:GDoc):aWX s c a d b :=
 cB aS [(zq aL s),(.func (.func 150) [] [(.ptr 1 3 0)]),(i6 0),(i6 (ln gZ s)),(i6 0)] [[(4,[(.str c),(.str a),(.slice [] [] true),(.slice [] [] true)]),(3,[(.str d)]),(2,[(zq cO b.ops),(zq aL b.frags)])]] (vM s c a d b) (yE s c a d b) 0 () <|
 fX (fun f _ =>
 cR (-1)) <| kOne fun e _ =>
 cR e
def aKJ (s:List GFrag) (b a c:Str) (d:GDoc):Option Int:=(aEL s b a c d).x
theorem aOK {s d c e f r} (h:(aEL s d c e f).x=some r):aBT s d c e f=some r:=kV (ds:=⟨[(14,(dR gZ)),(16,(.u aA fun u a=>u))],[(2,[],⟨aS,[(some 0,⟨aN⟩),(none,⟨sE⟩)]⟩)]⟩) h (fun a b h=>sA a b (aaD h).1) Tryz.func116 (fun _=>by kernel_rfl)
abbrev aWY:=Co fun (r:GFrag×Bool) (w:PV×UP)=>w=(mE r,[])
def aKK (d:GDoc) (name:Str):aWY :=
 cOp (oE O 116 [(zq aL d.frags),(.func (.func 150) [] [(.ptr 1 3 0)])] [[(4,[(.str []),(.str []),(.slice [] [] true),(.slice [] [] true)]),(3,[(.str name)]),(2,[(zq cO d.ops),(zq aL d.frags)])]] bE (fun u a=>u) (aBT d.frags [] [] name d) (by exact fun _ h=>aMY h)) fun b =>
 cCnd (decide (b<0))
  (cR ((GFrag.mk [] [] ([]:List GDir) ([]:List GSel)),false))
  (cOp (oNth gZ d.frags b) fun c =>
  cR (c,true))
theorem aOL {d name r} (h:(aKK d name).x=some r):aJu d name=some r:=kV (ds:=⟨[(10,(.u bE fun u a=>u)),(17,(dR gZ))],[]⟩) h (aG aTf) Tryz.func119 (fun _=>by kernel_rfl)
abbrev aAl:=Co fun (r:Int) (w:PV×UP)=>w=(bE r,[])
def eU (s:List Str) (v0:Str):Int->Unit->LC Int Unit zV
 | a,j =>
 cCnd (decide (a<(ln kStr s)))
  (cOp (oNth kStr s a) fun b =>
  cCnd (v0==b)
  (aP (lR (lE a a)))
  (bH (IntKind.wrap .i64 (a+1)) ()))
  (aP (lL () a))
def eP (s:List Str) (v0:Str) (z:Int):Option (Int⊕(Unit⊕Int)):=(eU s v0 z default).x
def iQ (s:List Str) (v0:Str):aAl :=
 cB aS [(zq PV.str s),(.str v0),(i6 0),(i6 (ln kStr s)),(i6 0)] [] (eP s v0) (eU s v0) 0 () <|
 fX (fun b _ =>
 cR (-1)) <| kOne fun a _ =>
 cR a
def nU (s:List Str) (v0:Str):Option Int:=(iQ s v0).x
theorem wK {s v0 r} (h:(iQ s v0).x=some r):fU s v0=some r:=kV (ds:=⟨[(14,(dR kStr))],[(2,[],⟨aS,[(some 0,⟨aN⟩),(none,⟨sE⟩)]⟩)]⟩) h (aG sA) Tryz.func117 (fun _=>by kernel_rfl)
abbrev bJH:=Co fun (r:Bool) (w:PV×UP)=>w=(aA r,[])
def bC3 (s:GSchema) (name:Str) (a b c:Int):bJH :=
 cOp (aBS s name) fun d =>
 cCnd d.2
 (cCnd (d.1.kind==a)
 (cR true)
 (cCnd (d.1.kind==b)
 (cR true)
 (cR (d.1.kind==c))))
 (cR false)
theorem bC4 {s name a b c r} (h:(bC3 s name a b c).x=some r):bHY s name a b c=some r:=kV (ds:=⟨[(16,(.v kT))],[]⟩) h (aG aC) Tryz.func75 (fun _=>by kernel_rfl)
abbrev bAg:=Co fun (r:Str) (w:PV×UP)=>w=(aF r,[])
def aHc (s:GSchema) (typ:Str) (x:GSel):bAg :=
 cCnd (x.kind==0)
 (cOp (aFo s typ x.name) fun a =>
 cR a.1.t.name)
 (cCnd (x.kind==2)
 (cCnd (x.on_==([]:Str))
 (cR typ)
 (cR x.on_))
 (cR []))
def aWZ (s:GSchema) (typ:Str) (x:GSel):Option Str:=(aHc s typ x).x
theorem aRs {s typ x r} (h:(aHc s typ x).x=some r):aH0 s typ x=some r:=kV (ds:=⟨[(18,(.v iK))],[]⟩) h (aG eY) Tryz.func136 (fun _=>by kernel_rfl)
abbrev aNF:=Co fun (r:GFieldDef×Bool) (w:PV×UP)=>w=(iK r,[])
def aIu (t:(Str×(List GParam)×Str×Int×Int×(List GDir))×Int):=(pu (pu (pu (pu (pu (pu (pu (pu L 2 (.bool true)) 4 (i6 t.2)) 11 (.str t.1.1)) 12 (zq bR t.1.2.1)) 13 (.str t.1.2.2.1)) 14 (i6 t.1.2.2.2.1)) 15 (i6 t.1.2.2.2.2.1)) 16 (zq bJ t.1.2.2.2.2.2),U)
abbrev aT3:=ex2 (some 0) aN (ex1 none aIu)
def aHd (name:Str) (c:GDef×Bool):Int->Unit->LC Int Unit aT3
 | a,j =>
 cCnd (decide (a<(ln oH c.1.fields)))
  (cOp (oNth oH c.1.fields a) fun d =>
  cCnd (d.name==name)
  (cOp (oNth oH c.1.fields a) fun b =>
  aP (lR (lE (b.name,b.params,b.t.name,b.t.lists,b.t.musts,b.dirs) a)))
  (bH (IntKind.wrap .i64 (a+1)) ()))
  (aP (lL () a))
def aEM (name:Str) (a:GDef×Bool) (z:Int):Option (Int⊕(Unit⊕(Str×(List GParam)×Str×Int×Int×(List GDir)))):=(aHd name a z default).x
def aHe (s:GSchema) (name:Str) (b:GDef×Bool):Unit->aNF
 | () =>
 cB aS ([(.str name),(.ptr 0 6 0),(.bool false),(.ptr 0 8 0),(i6 0)]++aJg b.1++[(.str []),(.slice [] [] true),(.str []),(i6 0),(i6 0),(.slice [] [] true)]++aY s) [] (aEM name b) (aHd name b) 0 () <|
 fX (fun a _ =>
  cR ((GFieldDef.mk [] ([]:List GParam) (GType.mk [] 0 0) ([]:List GDir)),false)) <| kOne fun a _ =>
  cR ((GFieldDef.mk a.1 a.2.1 (GType.mk a.2.2.1 a.2.2.2.1 a.2.2.2.2.1) a.2.2.2.2.2),true)
def aHf (s:GSchema) (typ:Str) (name:Str):Unit->aNF
 | () =>
 cOp (aBS s typ) fun a =>
 cCnd (a.1.kind != 1)
  (cCnd (a.1.kind != 2)
  (cR ((GFieldDef.mk [] ([]:List GParam) (GType.mk [] 0 0) ([]:List GDir)),false))
  (aHe s name a ()))
  (aHe s name a ())
def aPO (s:GSchema) (typ name:Str):aNF :=
 cCnd (name==([95,95,116,121,112,101,110,97,109,101]:Str))
 (cOp (aBu s typ) fun a =>
 cCnd a
 (cR ((GFieldDef.mk name ([]:List GParam) (GType.mk [83,116,114,105,110,103] 0 1) ([]:List GDir)),true))
 (aHf s typ name ()))
 (aHf s typ name ())
theorem aT4 {s typ name r} (h:(aPO s typ name).x=some r):aQ6 s typ name=some r:=kV (ds:=⟨[(16,(.v aA)),(24,(.v kT)),(46,(dR oH)),(54,(dR oH))],[(7,[(8,6),(6,6),(3,3)],⟨aS,[(some 0,⟨aN⟩),(none,⟨aIu⟩)]⟩)]⟩) h (aG aPs) Tryz.func84 (fun _=>by kernel_rfl)
open Go Go.Ev Go.Ev.PV
variable (L : List PV) (U : UP)
abbrev bC5:=Co fun (r:GParam×Bool) (w:PV×UP)=>w=(kF r,[])
def aIv (t:(Str×Str×Int×Int×Bool×Int×Int×Str×(List GValue)×(List GMember))×Int):=(pu (pu (pu (pu (pu (pu (pu (pu (pu (pu (pu (pu L 3 (.bool true)) 4 (i6 t.2)) 5 (.str t.1.1)) 6 (.str t.1.2.1)) 7 (i6 t.1.2.2.1)) 8 (i6 t.1.2.2.2.1)) 9 (.bool t.1.2.2.2.2.1)) 10 (i6 t.1.2.2.2.2.2.1)) 11 (i6 t.1.2.2.2.2.2.2.1)) 12 (.str t.1.2.2.2.2.2.2.2.1)) 13 (zq aW t.1.2.2.2.2.2.2.2.2.1)) 14 (zq aE t.1.2.2.2.2.2.2.2.2.2),U)
abbrev aT5:=ex2 (some 0) aN (ex1 none aIv)
def aCX (l0:List GParam) (name:Str):Int->Unit->LC Int Unit aT5
 | b,j =>
 cCnd (decide (b<(ln zJ l0)))
  (cOp (oNth zJ l0 b) fun c =>
  cCnd (c.name==name)
  (cOp (oNth zJ l0 b) fun a =>
  aP (lR (lE (a.name,a.t.name,a.t.lists,a.t.musts,a.has,a.default.kind,a.default.n,a.default.s,a.default.l,a.default.m) b)))
  (bH (IntKind.wrap .i64 (b+1)) ()))
  (aP (lL () b))
def aA5 (l0:List GParam) (name:Str) (z:Int):Option (Int⊕(Unit⊕(Str×Str×Int×Int×Bool×Int×Int×Str×(List GValue)×(List GMember)))):=(aCX l0 name z default).x
def aJN (l0:List GParam) (name:Str):bC5 :=
 cB aS [(zq bR l0),(.str name),(.ptr 0 4 0),(.bool false),(i6 0),(.str []),(.str []),(i6 0),(i6 0),(.bool false),(i6 0),(i6 0),(.str []),(.slice [] [] true),(.slice [] [] true)] [] (aA5 l0 name) (aCX l0 name) 0 () <|
 fX (fun a _ =>
 cR ((GParam.mk [] (GType.mk [] 0 0) false (GValue.mk 0 0 [] ([]:List GValue) ([]:List GMember))),false)) <| kOne fun a _ =>
 cR ((GParam.mk a.1 (GType.mk a.2.1 a.2.2.1 a.2.2.2.1) a.2.2.2.2.1 (GValue.mk a.2.2.2.2.2.1 a.2.2.2.2.2.2.1 a.2.2.2.2.2.2.2.1 a.2.2.2.2.2.2.2.2.1 a.2.2.2.2.2.2.2.2.2)),true)
def aJO (l0:List GParam) (name:Str):Option (GParam×Bool):=(aJN l0 name).x
theorem aKL {l0 name r} (h:(aJN l0 name).x=some r):vE l0 name=some r:=kV (ds:=⟨[(15,(dR zJ)),(22,(dR zJ))],[(2,[(4,10)],⟨aS,[(some 0,⟨aN⟩),(none,⟨aIv⟩)]⟩)]⟩) h (aG aPy) Tryz.func128 (fun _=>by kernel_rfl)
abbrev aT6:=Co fun (r:GParam×Bool) (w:PV×UP)=>w=(kF r,[])
def yF (name:Str):aT6 :=
 cCnd (name==([115,107,105,112]:Str))
 (cR ((GParam.mk [105,102] (GType.mk [66,111,111,108,101,97,110] 0 1) false (GValue.mk 0 0 [] ([]:List GValue) ([]:List GMember))),true))
 (cCnd (name==([105,110,99,108,117,100,101]:Str))
 (cR ((GParam.mk [105,102] (GType.mk [66,111,111,108,101,97,110] 0 1) false (GValue.mk 0 0 [] ([]:List GValue) ([]:List GMember))),true))
 (cR ((GParam.mk [] (GType.mk [] 0 0) false (GValue.mk 0 0 [] ([]:List GValue) ([]:List GMember))),false)))
theorem aAm {name r} (h:(yF name).x=some r):aMZ name=some r:=kV (ds:=⟨[],[]⟩) h (aG aPy) Tryz.func100 (fun _=>by kernel_rfl)
abbrev bJI:=Co fun (r:Bool) (w:PV×UP)=>w=(aA r,[])
def bC6 (t:GType):bJI :=
 cOp (vD t) fun a =>
 cCnd a
 (cR ((bits .and .i64 t.musts 1)==1))
 (cR false)
def bH3 (t:GType):Option Bool:=(bC6 t).x
theorem bC7 {t r} (h:(bC6 t).x=some r):bHZ t=some r:=kV (ds:=⟨[(4,(.v aA))],[]⟩) h (aG aC) Tryz.func129 (fun _=>by kernel_rfl)
abbrev bAh:=Co fun (r:List GSeineref13Spot) (w:PV×UP)=>w=(iL r,[])
def aIw (t:((List GSeineref13Spot)×Int)×Unit):=(pu (pu L 4 (zp aI t.1.1)) 5 (i6 t.1.2),U)
def aGm (t:((List GSeineref13Spot))×Int):=(pu (pu L 4 (zp aI t.1)) 5 (i6 t.2),U)
abbrev aRt:=ex1 (some 0) aGm
def oZ (s : GSchema) (d : GDoc) (typ : Str) (l0 : List GSel) : ((List GSeineref13Spot) × Int) -> Unit -> LC ((List GSeineref13Spot) × Int) Unit aRt
 | (b, a), j =>
 cCnd (decide (a < (ln kSel l0)))
  (cOp (oNth kSel l0 a) fun c =>
  cCnd (c.kind == 0)
  (cOp (oNth kSel l0 a) fun f =>
  cOp (aDp aM b [(GSeineref13Spot.mk typ f)] (o := true)) fun g =>
  bH (g, (IntKind.wrap .i64 (a + 1))) ())
  (cCnd (c.kind == 2)
   (cOp (oNth kSel l0 a) fun h =>
   cOp (uN s typ h) fun i =>
   cOp (oNth kSel l0 a) fun k =>
   cOp (zR s d i k.sels) fun l =>
   cOp (oApp aM b l (o := true)) fun m =>
   bH (m, (IntKind.wrap .i64 (a + 1))) ())
   (cCnd (c.kind == 1)
   (cOp (oNth kSel l0 a) fun n =>
   cOp (aEh d n.name) fun e =>
   cOp (zR s d e.1.on_ e.1.sels) fun p =>
   cOp (oApp aM b p (o := true)) fun q =>
   bH (q, (IntKind.wrap .i64 (a + 1))) ())
   (bH (b, (IntKind.wrap .i64 (a + 1))) ()))))
  (aP (lE b a))
def kH (s:GSchema) (d:GDoc) (typ:Str) (l0:List GSel) (z:((List GSeineref13Spot)×Int)):Option (((List GSeineref13Spot)×Int)⊕((List GSeineref13Spot))):=(oZ s d typ l0 z default).x
def aCY (s:GSchema) (d:GDoc) (typ:Str) (l0:List GSel):bAh :=
 cB aIw ([(.str typ),(zq aH l0),(.ptr 0 4 0),(.ptr 0 5 0),(.slice [] [] true),(i6 0),(zq cO d.ops),(zq aL d.frags)]++aY s) [] (kH s d typ l0) (oZ s d typ l0) ([],0) () <|
 kOne fun a _ =>
 cR a
def aW0 (s:GSchema) (d:GDoc) (typ:Str) (l0:List GSel):Option (List GSeineref13Spot):=(aCY s d typ l0).x
theorem aIy {s d typ l0 r} (h:(aCY s d typ l0).x=some r):aEm s d typ l0=some r:=kV (ds:=⟨[(21,(dR kSel)),(30,(dR kSel)),(34,(dL aM)),(44,(dR kSel)),(46,(.v aF)),(49,(dR kSel)),(52,(.v iL)),(53,(dL aM)),(60,(dR kSel)),(63,(.v mE)),(73,(.v iL)),(74,(dL aM))],[(3,[(5,2),(4,3)],⟨aIw,[(some 0,⟨aGm⟩)]⟩)]⟩) h (aG aPv) Tryz.func149 (fun _=>by kernel_rfl)
abbrev bAi:=Co fun (r:Bool) (w:PV×UP)=>w=(aA r,[])
def aEN (s:GSchema) (d:GDoc) (l0:List GSeineref13Spot) (b:Int):Int->Unit->LC Int Unit aEJ
 | a,j =>
 cCnd (decide (a<b))
  (cOp (oNth aM l0 a) fun c =>
  cOp (oNth aM l0 b) fun e =>
  cOp (aRb s d c e) fun f =>
  cCnd (!f)
  (aP (lR (lE () a)))
  (bH (IntKind.wrap .i64 (a+1)) ()))
  (aP (lL () a))
def aCZ (s:GSchema) (d:GDoc) (l0:List GSeineref13Spot) (a z:Int):Option (Int⊕(Unit⊕Unit)):=(aEN s d l0 a z default).x
def aEO (s:GSchema) (d:GDoc) (l0:List GSeineref13Spot):Int->Unit->LC Int Unit uP
 | a,j =>
 cCnd (decide (a<(ln aM l0)))
  (cB bM ([(zq aI l0),(.ptr 0 3 0),(.ptr 0 4 0),(.bool false),(i6 a),(i6 0),(zq cO d.ops),(zq aL d.frags)]++aY s) [] (aCZ s d l0 a) (aEN s d l0 a) 0 () <|
  fX (fun b _ =>
  bH (IntKind.wrap .i64 (a+1)) ()) <| kOne fun b _ =>
  aP (lR (lE () a)))
  (aP (lL () a))
def yG (s:GSchema) (d:GDoc) (l0:List GSeineref13Spot) (z:Int):Option (Int⊕(Unit⊕Unit)):=(aEO s d l0 z default).x
def aC0 (s:GSchema) (d:GDoc) (l0:List GSeineref13Spot):bAi :=
 cB aS ([(zq aI l0),(.ptr 0 3 0),(.ptr 0 4 0),(.bool false),(i6 0),(zq cO d.ops),(zq aL d.frags)]++aY s) [] (yG s d l0) (aEO s d l0) 0 () <|
 fX (fun a _ =>
 cR true) <| kOne fun a _ =>
 cR false
theorem aC1 {s d l0 r} (h:(aC0 s d l0).x=some r):aH1 s d l0=some r:=kV (ds:=⟨[(24,(dR aM)),(28,(dR aM)),(30,(.v aA))],[(5,[(4,2),(3,3)],⟨bM,[(some 2,⟨aZ⟩),(none,⟨aZ⟩)]⟩),(2,[(4,2),(3,3)],⟨aS,[(some 0,⟨aN⟩),(none,⟨aN⟩)]⟩)]⟩) h (aG aC) Tryz.func148 (fun _=>by kernel_rfl)
abbrev bFj:=Co fun (r:List Str) (w:PV×UP)=>w=(bS r,[])
def aNG (t:((List Str)×Int)×Unit):=(pu (pu L 1 (zp PV.str t.1.1)) 4 (i6 t.1.2),U)
def aKM (t:((List Str))×Int):=(pu (pu L 1 (zp PV.str t.1)) 4 (i6 t.2),U)
abbrev aW1:=ex1 (some 2) aKM
def aFA (c:List Str):((List Str)×Int)->Unit->LC ((List Str)×Int) Unit aW1
 | (a,b),j =>
 cCnd (decide (b<(ln kStr c)))
  (cOp (oNth kStr c b) fun d =>
  cOp (xP a d) fun e =>
  cCnd (!e)
  (cOp (oNth kStr c b) fun f =>
  cOp (aDp kStr a [f] (o:=true)) fun g =>
  bH (g,(IntKind.wrap .i64 (b+1))) ())
  (bH (a,(IntKind.wrap .i64 (b+1))) ()))
  (aP (lE a b))
def aAn (a:List Str) (z:((List Str)×Int)):Option (((List Str)×Int)⊕((List Str))):=(aFA a z default).x
def aFB (m:List GMember):((List Str)×Int)->Unit->LC ((List Str)×Int) Unit wA
 | (a,b),j =>
 cCnd (decide (b<(ln aT m)))
  (cOp (oNth aT m b) fun e =>
  cOp (bCK e.v) fun c =>
  cB aNG [(zq aE m),(zp PV.str a),(i6 b),(zq PV.str c),(i6 0)] [] (aAn c) (aFA c) (a,0) () <|
  kOne fun d _ =>
  bH (d,(IntKind.wrap .i64 (b+1))) ())
  (aP (lE a b))
def aC2 (m:List GMember) (z:((List Str)×Int)):Option (((List Str)×Int)⊕((List Str))):=(aFB m z default).x
def aT7 (m:List GMember) (out0:List Str):bFj :=
 cB lT [(zq aE m),(zp PV.str out0),(i6 0)] [] (aC2 m) (aFB m) (out0,0) () <|
 kOne fun a _ =>
 cR a
theorem aW2 {m out0 r} (h:(aT7 m out0).x=some r):aWo m out0=some r:=kV (ds:=⟨[(16,(dR aT)),(19,(.v dZ)),(29,(dR kStr)),(31,(.v aA)),(36,(dR kStr)),(39,(dL kStr))],[(6,[],⟨aNG,[(some 2,⟨aKM⟩)]⟩),(2,[],⟨lT,[(some 0,⟨pQ⟩)]⟩)]⟩) h (aG zM) Tryz.func166 (fun _=>by kernel_rfl)
abbrev aT8:=Co fun (r:List GSpot) (w:PV×UP)=>w=(eA r,[])
def vN (s:GSchema) (l0:List GParam) (m:List GMember):((List GSpot)×Int)->Unit->LC ((List GSpot)×Int) Unit uU
 | (b,a),j =>
 cCnd (decide (a<(ln aT m)))
  (cOp (oNth aT m a) fun d =>
  cOp (aFp l0 d.name) fun c =>
  cOp (oNth aT m a) fun e =>
  cOp (aFq s c.1.t c.1.has e.v) fun f =>
  cOp (oApp aHP b f) fun g =>
  bH (g,(IntKind.wrap .i64 (a+1))) ())
  (aP (lE b a))
def tS (s:GSchema) (l0:List GParam) (m:List GMember) (z:((List GSpot)×Int)):Option (((List GSpot)×Int)⊕((List GSpot))):=(vN s l0 m z default).x
def aIz (s:GSchema) (l0:List GParam) (m:List GMember):aT8 :=
 cB fB ([(zq bR l0),(zq aE m),(.ptr 0 3 0),(.slice [] [] true),(i6 0)]++aY s) [] (tS s l0 m) (vN s l0 m) ([],0) () <|
 kOne fun a _ =>
 cR a
theorem aNH {s l0 m r} (h:(aIz s l0 m).x=some r):aCC s l0 m=some r:=kV (ds:=⟨[(21,(dR aT)),(24,(.v kF)),(35,(dR aT)),(38,(.v eA)),(39,(dL aHP))],[(3,[(3,3)],⟨fB,[(some 0,⟨gT⟩)]⟩)]⟩) h (aG aEd) Tryz.func172 (fun _=>by kernel_rfl)
abbrev bAj:=Co fun (r:Bool) (w:PV×UP)=>w=(aA r,[])
def aNI (name:Str):bAj :=
 cCnd (name==([73,110,116]:Str))
 (cR true)
 (cCnd (name==([83,116,114,105,110,103]:Str))
 (cR true)
 (cCnd (name==([66,111,111,108,101,97,110]:Str))
 (cR true)
 (cR (name==([73,68]:Str)))))
theorem aRu {name r} (h:(aNI name).x=some r):aM1 name=some r:=kV (ds:=⟨[],[]⟩) h (aG aC) Tryz.func174 (fun _=>by kernel_rfl)
abbrev aEP:=Co fun (r:Int) (w:PV×UP)=>w=(bE r,[])
def iR (s:List Int) (v0:Int):Int->Unit->LC Int Unit zV
 | a,j =>
 cCnd (decide (a<(ln kI s)))
  (cOp (oNth kI s a) fun b =>
  cCnd (v0==b)
  (aP (lR (lE a a)))
  (bH (IntKind.wrap .i64 (a+1)) ()))
  (aP (lL () a))
def gU (s:List Int) (v0 z:Int):Option (Int⊕(Unit⊕Int)):=(iR s v0 z default).x
def nL (s:List Int) (v0:Int):aEP :=
 cB aS [(zq (PV.int .i64) s),(i6 v0),(i6 0),(i6 (ln kI s)),(i6 0)] [] (gU s v0) (iR s v0) 0 () <|
 fX (fun b _ =>
 cR (-1)) <| kOne fun a _ =>
 cR a
def uA (s:List Int) (v0:Int):Option Int:=(nL s v0).x
theorem aB6 {s v0 r} (h:(nL s v0).x=some r):kU s v0=some r:=kV (ds:=⟨[(14,(dR kI))],[(2,[],⟨aS,[(some 0,⟨aN⟩),(none,⟨sE⟩)]⟩)]⟩) h (aG sA) Tryz.func175 (fun _=>by kernel_rfl)
abbrev aRv:=Co fun (r:Bool) (w:PV×UP)=>w=(aA r,[])
def aGn (x y:GMember):aRv :=
 cCnd (x.name==y.name)
 (cOp (aEj x.v y.v) fun a =>
 cR a)
 (cR false)
theorem aLi {x y r} (h:(aGn x y).x=some r):aEn x y=some r:=kV (ds:=⟨[(15,(.v aA))],[]⟩) h (aG aC) Tryz.func179 (fun _=>by kernel_rfl)
abbrev bAk:=Co fun (r:Bool) (w:PV×UP)=>w=(aA r,[])
def aNJ (name:Str):bAk :=
 cCnd (name==([73,110,116]:Str))
 (cR true)
 (cCnd (name==([83,116,114,105,110,103]:Str))
 (cR true)
 (cCnd (name==([66,111,111,108,101,97,110]:Str))
 (cR true)
 (cR (name==([73,68]:Str)))))
theorem aRw {name r} (h:(aNJ name).x=some r):aM2 name=some r:=kV (ds:=⟨[],[]⟩) h (aG aC) Tryz.func72 (fun _=>by kernel_rfl)
abbrev bH4:=Co fun (r:GValue×Bool) (w:PV×UP)=>w=(jT r,[])
def aNK (t:(Int×Int×Str×(List GValue)×(List GMember))×Int):=(pu (pu (pu (pu (pu (pu (pu L 3 (.bool true)) 4 (i6 t.2)) 5 (i6 t.1.1)) 6 (i6 t.1.2.1)) 7 (.str t.1.2.2.1)) 8 (zq aW t.1.2.2.2.1)) 9 (zq aE t.1.2.2.2.2),U)
abbrev bAl:=ex2 (some 0) aN (ex1 none aNK)
def aB7 (name:Str) (l0:List GMember):Int->Unit->LC Int Unit bAl
 | a,j =>
 cCnd (decide (a<(ln aT l0)))
  (cOp (oNth aT l0 a) fun c =>
  cCnd (c.name==name)
  (cOp (oNth aT l0 a) fun b =>
  aP (lR (lE (b.v.kind,b.v.n,b.v.s,b.v.l,b.v.m) a)))
  (bH (IntKind.wrap .i64 (a+1)) ()))
  (aP (lL () a))
def uV (name:Str) (l0:List GMember) (z:Int):Option (Int⊕(Unit⊕(Int×Int×Str×(List GValue)×(List GMember)))):=(aB7 name l0 z default).x
def aLI (name:Str) (l0:List GMember):bH4 :=
 cB aS [(.str name),(zq aE l0),(.ptr 0 4 0),(.bool false),(i6 0),(i6 0),(i6 0),(.str []),(.slice [] [] true),(.slice [] [] true)] [] (uV name l0) (aB7 name l0) 0 () <|
 fX (fun p18 _ =>
 cR ((GValue.mk 0 0 [] ([]:List GValue) ([]:List GMember)),false)) <| kOne fun p18 _ =>
 cR ((GValue.mk p18.1 p18.2.1 p18.2.2.1 p18.2.2.2.1 p18.2.2.2.2),true)
theorem aJP {name l0 r} (h:(aLI name l0).x=some r):aTo name l0=some r:=kV (ds:=⟨[(15,(dR aT)),(22,(dR aT))],[(2,[(4,5)],⟨aS,[(some 0,⟨aN⟩),(none,⟨aNK⟩)]⟩)]⟩) h (aG aMT) Tryz.func165 (fun _=>by kernel_rfl)
abbrev bC8:=Co fun (r:Bool) (w:PV×UP)=>w=(aA r,[])
def aJQ (c:Int):bC8 :=
 cCnd (decide (c≥48))
 (cR (decide (c<=57)))
 (cR false)
def bAm (c:Int):Option Bool:=(aJQ c).x
theorem aT9 {c r} (h:(aJQ c).x=some r):aQ8 c=some r:=kV (ds:=⟨[],[]⟩) h (aG aC) Tryz.func90 (fun _=>by kernel_rfl)
abbrev bFk:=Co fun (r:Bool) (w:PV×UP)=>w=(aA r,[])
def aUa (s:GSchema) (name:Str):bFk :=
 cOp (aQ5 s name 0 4 4) fun a =>
 cR a
theorem aW3 {s name r} (h:(aUa s name).x=some r):aWr s name=some r:=kV (ds:=⟨[(7,(.v aA))],[]⟩) h (aG aC) Tryz.func80 (fun _=>by kernel_rfl)
abbrev aRx:=Co fun (r:Bool) (w:PV×UP)=>w=(aA r,[])
def aGo (s:GSchema) (name:Str):aRx :=
 cOp (aQ5 s name 1 2 3) fun a =>
 cR a
theorem aLj {s name r} (h:(aGo s name).x=some r):aEo s name=some r:=kV (ds:=⟨[(7,(.v aA))],[]⟩) h (aG aC) Tryz.func81 (fun _=>by kernel_rfl)
abbrev bC9:=Co fun (r:Bool) (w:PV×UP)=>w=(aA r,[])
def aJR (c:Int):bC9 :=
 cCnd (decide (c≥97))
 (cCnd (decide (c<=122))
 (cR true)
 (cCnd (decide (c≥65))
 (cCnd (decide (c<=90))
 (cR true)
 (cR (c==95)))
 (cR (c==95))))
 (cCnd (decide (c≥65))
 (cCnd (decide (c<=90))
 (cR true)
 (cR (c==95)))
 (cR (c==95)))
def bAn (c:Int):Option Bool:=(aJR c).x
theorem aUb {c r} (h:(aJR c).x=some r):aQ9 c=some r:=kV (ds:=⟨[],[]⟩) h (aG aC) Tryz.func89 (fun _=>by kernel_rfl)
abbrev aUc:=Co fun (r:Bool) (w:PV×UP)=>w=(aA r,[])
def aIA (x:GSel) (deep:Int):aUc :=
 cOp (nE x.dirs deep false) fun h =>
 cCnd (!h)
 (cR false)
 (cCnd (x.kind==0)
 (cOp (qN x.name) fun i =>
 cCnd i
 (cCnd (x.alias==([]:Str))
 (cCnd (x.on_==([]:Str))
 (cOp (aBU x.args deep false) fun j =>
 cCnd j
 (cCnd ((ln kSel x.sels)==0)
 (cR true)
 (cOp (gH x.sels (IntKind.wrap .i64 (deep+1))) fun k =>
 cR k))
 (cR false))
 (cR false))
 (cOp (qN x.alias) fun a =>
 cCnd a
 (cCnd (x.on_==([]:Str))
 (cOp (aBU x.args deep false) fun b =>
 cCnd b
 (cCnd ((ln kSel x.sels)==0)
 (cR true)
 (cOp (gH x.sels (IntKind.wrap .i64 (deep+1))) fun c =>
 cR c))
 (cR false))
 (cR false))
 (cR false)))
 (cR false))
 (cCnd (x.kind==1)
 (cOp (qN x.name) fun d =>
 cCnd d
 (cCnd (!(x.name==([111,110]:Str)))
 (cCnd (x.alias==([]:Str))
 (cCnd (x.on_==([]:Str))
 (cCnd ((ln aT x.args)==0)
 (cR ((ln kSel x.sels)==0))
 (cR false))
 (cR false))
 (cR false))
 (cR false))
 (cR false))
 (cCnd (x.kind==2)
 (cCnd (x.name==([]:Str))
 (cCnd (x.alias==([]:Str))
 (cCnd ((ln aT x.args)==0)
 (cCnd (x.on_==([]:Str))
 (cOp (gH x.sels (IntKind.wrap .i64 (deep+1))) fun e =>
 cR e)
 (cOp (qN x.on_) fun f =>
 cCnd f
 (cOp (gH x.sels (IntKind.wrap .i64 (deep+1))) fun g =>
 cR g)
 (cR false)))
 (cR false))
 (cR false))
 (cR false))
 (cR false))))
theorem aNL {x deep r} (h:(aIA x deep).x=some r):uO x deep=some r:=kV (ds:=⟨[(8,(.v aA)),(16,(.v aA)),(24,(.v aA)),(36,(.v aA)),(48,(.v aA)),(55,(.v aA)),(106,(.v aA)),(114,(.v aA))],[]⟩) h (aG aC) Tryz.func92 (fun _=>by kernel_rfl)
abbrev bFl:=Co fun (r:Bool) (w:PV×UP)=>w=(aA r,[])
def aFC (a:GValue) (b:GValue):Int->Unit->LC Int Unit pP
 | c,j =>
 cCnd (decide (c<(ln kA a.l)))
  (cOp (oNth kA a.l c) fun d =>
  cOp (oNth kA b.l c) fun e =>
  cOp (aM5 d e) fun f =>
  cCnd (!f)
  (aP (lR (lE () c)))
  (bH (IntKind.wrap .i64 (c+1)) ()))
  (aP (lL () c))
def aC3 (a b:GValue) (z:Int):Option (Int⊕(Unit⊕Unit)):=(aFC a b z default).x
def aNM (a b:GValue):bFl :=
 cCnd (a.kind != b.kind)
 (cR false)
 (cCnd (a.n != b.n)
 (cR false)
 (cCnd (!(a.s==b.s))
 (cR false)
 (cCnd ((ln kA a.l) != (ln kA b.l))
 (cR false)
 (cB bV ([(.ptr 0 2 0),(.ptr 0 3 0),(.bool false),(i6 0)]++rK b++rK a) [] (aC3 a b) (aFC a b) 0 () <|
 fX (fun c _ =>
 cOp (aTq a.m b.m) fun d =>
 cR d) <| kOne fun c _ =>
 cR false))))
def bDa (a b:GValue):Option Bool:=(aNM a b).x
theorem aW4 {a b r} (h:(aNM a b).x=some r):aM4 a b=some r:=kV (ds:=⟨[(44,(dR kA)),(49,(dR kA)),(51,(.v aA)),(57,(.v aA))],[(4,[(3,5),(2,5)],⟨bV,[(some 0,⟨bA⟩),(none,⟨bA⟩)]⟩)]⟩) h (aG aC) Tryz.func94 (fun _=>by kernel_rfl)
abbrev aKN:=Co fun (r:Bool) (w:PV×UP)=>w=(aA r,[])
def qU (s:GSchema) (d:GDoc) (a:GSeineref13Spot) (b:GSeineref13Spot):Unit->aKN
 | () =>
 cCnd (a.x.name==b.x.name)
  (cOp (aZW a.x.args b.x.args) fun c =>
  cCnd c
  (cOp (aPB s d a b) fun e =>
  cOp (aM0 s d e) fun f =>
  cR f)
  (cR false))
  (cR false)
def yH (s:GSchema) (d:GDoc) (a b:GSeineref13Spot):aKN :=
 cOp (aLF a.x) fun f =>
 cOp (aLF b.x) fun g =>
 cCnd (!(f==g))
 (cR true)
 (cOp (aM6 s d a b) fun h =>
 cCnd (!h)
 (cR false)
 (cCnd (!(a.typ==b.typ))
 (cOp (aMX s a.typ) fun c =>
 cCnd c
 (cOp (aMX s b.typ) fun e =>
 cCnd e
 (cR true)
 (qU s d a b ()))
 (qU s d a b ()))
 (qU s d a b ())))
def aIB (s:GSchema) (d:GDoc) (a b:GSeineref13Spot):Option Bool:=(yH s d a b).x
theorem aEQ {s d a b r} (h:(yH s d a b).x=some r):fI s d a b=some r:=kV (ds:=⟨[(11,(.v aF)),(14,(.v aF)),(20,(.v aA)),(31,(.v aA)),(37,(.v aA)),(53,(.v aA)),(62,(.v mT)),(63,(.v aA))],[]⟩) h (aG aC) Tryz.func173 (fun _=>by kernel_rfl)
abbrev bFm:=Co fun (r:List Str) (w:PV×UP)=>w=(dZ r,[])
def aUd (v0:GValue):bFm :=
 cOp (aMN v0 ([]:List Str)) fun a =>
 cR a
theorem aW5 {v0 r} (h:(aUd v0).x=some r):aWs v0=some r:=kV (ds:=⟨[(4,(.v bS))],[]⟩) h (aG aBN) Tryz.func132 (fun _=>by kernel_rfl)
abbrev bDb:=Co fun (r:List GSpot) (w:PV×UP)=>w=(eA r,[])
abbrev aUe:=ex1 (some 1) gT
def aC4 (s:GSchema) (v0:GValue) (f:GType×Bool):((List GSpot)×Int)->Unit->LC ((List GSpot)×Int) Unit aUe
 | (b,a),j =>
 cCnd (decide (a<(ln kA v0.l)))
  (cOp (oNth kA v0.l a) fun c =>
  cOp (aFq s f.1 false c) fun d =>
  cOp (oApp aHP b d) fun e =>
  bH (e,(IntKind.wrap .i64 (a+1))) ())
  (aP (lE b a))
def aA6 (s:GSchema) (v0:GValue) (a:GType×Bool) (z:((List GSpot)×Int)):Option (((List GSpot)×Int)⊕((List GSpot))):=(aC4 s v0 a z default).x
abbrev aUf:=ex1 (some 3) oQ
def aC5 (s:GSchema) (t:GType) (v0:GValue) (d:GDef×Bool):((List GSpot)×Int)->Unit->LC ((List GSpot)×Int) Unit aUf
 | (b,a),j =>
 cCnd (decide (a<(ln aT v0.m)))
  (cOp (oNth aT v0.m a) fun e =>
  cOp (aFp d.1.params e.name) fun c =>
  cOp (oNth aT v0.m a) fun f =>
  cOp (aFq s c.1.t c.1.has f.v) fun g =>
  cOp (oApp aHP b g) fun h =>
  bH (h,(IntKind.wrap .i64 (a+1))) ())
  (aP (lE b a))
def aA7 (s:GSchema) (t:GType) (v0:GValue) (a:GDef×Bool) (z:((List GSpot)×Int)):Option (((List GSpot)×Int)⊕((List GSpot))):=(aC5 s t v0 a z default).x
def aJS (s:GSchema) (t:GType) (has0:Bool) (v0:GValue):bDb :=
 cCnd (v0.kind==8)
 (cR [(GSpot.mk v0.s t has0)])
 (cCnd (v0.kind==0)
 (cR ([]:List GSpot))
 (cOp (aTj t) fun a =>
 cCnd a.2
 (cCnd (v0.kind != 6)
 (cOp (aFq s a.1 false v0) fun h =>
 cR h)
 (cCnd a.2
 (cB fB ([(.ptr 0 4 0),(.ptr 0 7 0),(.ptr 0 9 0),(.slice [] [] true),(i6 0)]++aEb a.1++rK v0++aEb t++aY s) [] (aA6 s v0 a) (aC4 s v0 a) ([],0) () <|
 kOne fun c _ =>
 cR c)
 (cCnd (v0.kind==7)
 (cOp (aBS s t.name) fun d =>
 cB nF ([(.ptr 0 4 0),(.ptr 0 7 0),(.slice [] [] true),(.ptr 0 13 0),(i6 0)]++aJg d.1++aEb a.1++rK v0++aEb t++aY s) [] (aA7 s t v0 d) (aC5 s t v0 d) ([],0) () <|
 kOne fun e _ =>
 cR e)
 (cR ([]:List GSpot)))))
 (cCnd a.2
 (cB fB ([(.ptr 0 4 0),(.ptr 0 7 0),(.ptr 0 9 0),(.slice [] [] true),(i6 0)]++aEb a.1++rK v0++aEb t++aY s) [] (aA6 s v0 a) (aC4 s v0 a) ([],0) () <|
 kOne fun f _ =>
 cR f)
 (cCnd (v0.kind==7)
 (cOp (aBS s t.name) fun g =>
 cB nF ([(.ptr 0 4 0),(.ptr 0 7 0),(.slice [] [] true),(.ptr 0 13 0),(i6 0)]++aJg g.1++aEb a.1++rK v0++aEb t++aY s) [] (aA7 s t v0 g) (aC5 s t v0 g) ([],0) () <|
 kOne fun b _ =>
 cR b)
 (cR ([]:List GSpot))))))
def aPP (s:GSchema) (t:GType) (has0:Bool) (v0:GValue):Option (List GSpot):=(aJS s t has0 v0).x
theorem aUg {s t has0 v0 r} (h:(aJS s t has0 v0).x=some r):vF s t has0 v0=some r:=kV (ds:=⟨[(32,(.v aAM)),(45,(.v eA)),(61,(dR kA)),(63,(.v eA)),(64,(dL aHP)),(73,(.v kT)),(89,(dR aT)),(92,(.v kF)),(104,(dR aT)),(107,(.v eA)),(108,(dL aHP))],[(11,[(9,3),(7,5),(5,3),(4,3)],⟨fB,[(some 1,⟨gT⟩)]⟩),(17,[(13,6),(9,3),(7,5),(5,3),(4,3)],⟨nF,[(some 3,⟨oQ⟩)]⟩),(11,[(9,3),(7,5),(5,3),(4,3)],⟨fB,[(some 1,⟨gT⟩)]⟩),(17,[(13,6),(9,3),(7,5),(5,3),(4,3)],⟨nF,[(some 3,⟨oQ⟩)]⟩)]⟩) h (aG aEd) Tryz.func182 (fun _=>by kernel_rfl)
abbrev aW6:=Co fun (r:Bool) (w:PV×UP)=>w=(aA r,[])
def yI (a:List GMember) (b:List GMember):Int->Unit->LC Int Unit pP
 | c,j =>
 cCnd (decide (c<(ln aT a)))
  (cOp (oNth aT a c) fun d =>
  cOp (oNth aT b c) fun e =>
  cCnd (!(d.name==e.name))
  (aP (lR (lE () c)))
  (cOp (oNth aT a c) fun f =>
  cOp (oNth aT b c) fun g =>
  cOp (aM5 f.v g.v) fun h =>
  cCnd (!h)
   (aP (lR (lE () c)))
   (bH (IntKind.wrap .i64 (c+1)) ())))
  (aP (lL () c))
def vO (a b:List GMember) (z:Int):Option (Int⊕(Unit⊕Unit)):=(yI a b z default).x
def aKO (a b:List GMember):aW6 :=
 cCnd ((ln aT a) != (ln aT b))
 (cR false)
 (cB bV [(zq aE a),(zq aE b),(.bool false),(i6 0)] [] (vO a b) (yI a b) 0 () <|
 fX (fun c _ =>
 cR true) <| kOne fun c _ =>
 cR false)
theorem aOM {a b r} (h:(aKO a b).x=some r):aJv a b=some r:=kV (ds:=⟨[(19,(dR aT)),(24,(dR aT)),(31,(dR aT)),(36,(dR aT)),(39,(.v aA))],[(4,[],⟨bV,[(some 0,⟨bA⟩),(none,⟨bA⟩)]⟩)]⟩) h (aG aC) Tryz.func133 (fun _=>by kernel_rfl)
abbrev bH5:=Co fun (r:Str) (w:PV×UP)=>w=(aF r,[])
def aYy (x:GSel):bH5 :=
 cCnd (x.kind != 0)
 (cR [])
 (cCnd (!(x.alias==([]:Str)))
 (cR x.alias)
 (cR x.name))
theorem bAo {x r} (h:(aYy x).x=some r):bCL x=some r:=kV (ds:=⟨[],[]⟩) h (aG eY) Tryz.func183 (fun _=>by kernel_rfl)
abbrev bAp:=Co fun (r:Bool) (w:PV×UP)=>w=(aA r,[])
def aER (s:GSchema) (d:GDoc) (c:List GSeineref13Spot) (b:Int):Int->Unit->LC Int Unit aEJ
 | a,j =>
 cCnd (decide (a<b))
  (cOp (oNth aM c a) fun e =>
  cOp (oNth aM c b) fun f =>
  cOp (aM6 s d e f) fun g =>
  cCnd (!g)
  (aP (lR (lE () a)))
  (bH (IntKind.wrap .i64 (a+1)) ()))
  (aP (lL () a))
def aC6 (s:GSchema) (d:GDoc) (b:List GSeineref13Spot) (a z:Int):Option (Int⊕(Unit⊕Unit)):=(aER s d b a z default).x
def aES (s:GSchema) (d:GDoc) (e:List GSeineref13Spot) (a:GSeineref13Spot) (b:GSeineref13Spot) (g:GFieldDef×Bool) (h:GFieldDef×Bool):Int->Unit->LC Int Unit uP
 | c,j =>
 cCnd (decide (c<(ln aM e)))
  (cB bM ([(.ptr 0 4 0),(.ptr 0 5 0),(.bool false),(zq aI e),(i6 c),(i6 0)]++uM h.1++uM g.1++mS b++mS a++[(zq cO d.ops),(zq aL d.frags)]++aY s) [] (aC6 s d e c) (aER s d e c) 0 () <|
  fX (fun f _ =>
  bH (IntKind.wrap .i64 (c+1)) ()) <| kOne fun f _ =>
  aP (lR (lE () c)))
  (aP (lL () c))
def yJ (s:GSchema) (d:GDoc) (c:List GSeineref13Spot) (a b:GSeineref13Spot) (e f:GFieldDef×Bool) (z:Int):Option (Int⊕(Unit⊕Unit)):=(aES s d c a b e f z default).x
def aC7 (s:GSchema) (d:GDoc) (a b:GSeineref13Spot):bAp :=
 cOp (aLF a.x) fun i =>
 cOp (aLF b.x) fun j =>
 cCnd (!(i==j))
 (cR true)
 (cOp (aFo s a.typ a.x.name) fun e =>
 cOp (aFo s b.typ b.x.name) fun f =>
 cOp (aZX s e.1.t f.1.t) fun g =>
 cCnd (!g)
 (cR false)
 (cOp (aPB s d a b) fun c =>
 cB aS ([(.ptr 0 4 0),(.ptr 0 5 0),(.bool false),(zq aI c),(i6 0)]++uM f.1++uM e.1++mS b++mS a++[(zq cO d.ops),(zq aL d.frags)]++aY s) [] (yJ s d c a b e f) (aES s d c a b e f) 0 () <|
 fX (fun h _ =>
 cR true) <| kOne fun h _ =>
 cR false))
def aHg (s:GSchema) (d:GDoc) (a b:GSeineref13Spot):Option Bool:=(aC7 s d a b).x
theorem aIC {s d a b r} (h:(aC7 s d a b).x=some r):qO s d a b=some r:=kV (ds:=⟨[(18,(.v aF)),(21,(.v aF)),(30,(.v iK)),(40,(.v iK)),(48,(.v aA)),(54,(.v mT)),(70,(dR aM)),(74,(dR aM)),(76,(.v aA))],[(12,[(11,6),(9,6),(7,8),(6,8),(5,2),(4,3)],⟨bM,[(some 2,⟨aZ⟩),(none,⟨aZ⟩)]⟩),(9,[(11,6),(9,6),(7,8),(6,8),(5,2),(4,3)],⟨aS,[(some 0,⟨aN⟩),(none,⟨aN⟩)]⟩)]⟩) h (aG aC) Tryz.func184 (fun _=>by kernel_rfl)
abbrev bDc:=Co fun (r:Bool) (w:PV×UP)=>w=(aA r,[])
def aC8 (a:List GMember) (b:List GMember):Int->Unit->LC Int Unit pP
 | c,j =>
 cCnd (decide (c<(ln aT a)))
  (cOp (oNth aT a c) fun e =>
  cOp (aYv e.name b) fun d =>
  cCnd (!d.2)
  (aP (lR (lE () c)))
  (cOp (oNth aT a c) fun f =>
  cOp (aM5 d.1 f.v) fun g =>
  cCnd (!g)
   (aP (lR (lE () c)))
   (bH (IntKind.wrap .i64 (c+1)) ())))
  (aP (lL () c))
def aA8 (a b:List GMember) (z:Int):Option (Int⊕(Unit⊕Unit)):=(aC8 a b z default).x
def aJT (a b:List GMember):bDc :=
 cCnd ((ln aT a) != (ln aT b))
 (cR false)
 (cB bV [(zq aE a),(zq aE b),(.bool false),(i6 0)] [] (aA8 a b) (aC8 a b) 0 () <|
 fX (fun c _ =>
 cR true) <| kOne fun c _ =>
 cR false)
def bAq (a b:List GMember):Option Bool:=(aJT a b).x
theorem aUh {a b r} (h:(aJT a b).x=some r):aLG a b=some r:=kV (ds:=⟨[(22,(dR aT)),(26,(.v jT)),(35,(dR aT)),(38,(.v aA))],[(4,[],⟨bV,[(some 0,⟨bA⟩),(none,⟨bA⟩)]⟩)]⟩) h (aG aC) Tryz.func185 (fun _=>by kernel_rfl)
abbrev bDd:=Co fun (r:List GSeineref13Spot) (w:PV×UP)=>w=(mT r,[])
def aFD (s:GSchema) (d:GDoc) (a b:GSeineref13Spot):bDd :=
 cOp (uN s a.typ a.x) fun e =>
 cOp (zR s d e a.x.sels) fun f =>
 cOp (uN s b.typ b.x) fun g =>
 cOp (zR s d g b.x.sels) fun h =>
 cOp (oApp aM f h (o:=true)) fun c =>
 cR c
def bAr (s:GSchema) (d:GDoc) (a b:GSeineref13Spot):Option (List GSeineref13Spot):=(aFD s d a b).x
theorem aKP {s d a b r} (h:(aFD s d a b).x=some r):aLH s d a b=some r:=kV (ds:=⟨[(17,(.v aF)),(21,(.v iL)),(30,(.v aF)),(34,(.v iL)),(35,(dL aM))],[]⟩) h (aG aPq) Tryz.func186 (fun _=>by kernel_rfl)
abbrev bDe:=Co fun (r:Bool) (w:PV×UP)=>w=(aA r,[])
def aPQ (s:GSchema) (a b:GType):bDe :=
 cCnd (a.lists != b.lists)
 (cR false)
 (cCnd (a.musts != b.musts)
 (cR false)
 (cOp (aTp s a.name) fun c =>
 cCnd c
 (cR (a.name==b.name))
 (cOp (aTp s b.name) fun d =>
 cCnd d
 (cR (a.name==b.name))
 (cOp (aBu s a.name) fun e =>
 cCnd e
 (cOp (aBu s b.name) fun f =>
 cR f)
 (cR false)))))
theorem aUi {s a b r} (h:(aPQ s a b).x=some r):aRc s a b=some r:=kV (ds:=⟨[(22,(.v aA)),(27,(.v aA)),(37,(.v aA)),(42,(.v aA))],[]⟩) h (aG aC) Tryz.func189 (fun _=>by kernel_rfl)
end Go.Proofs.YtenmfogokijilaaGreat

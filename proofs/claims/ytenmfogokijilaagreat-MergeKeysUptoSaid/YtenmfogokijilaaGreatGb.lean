import Derived.Test.YtenmfogokijilaaGreatGa
noncomputable section
set_option maxRecDepth 100000
set_option linter.unusedVariables false
set_option linter.unusedSimpArgs false
set_option linter.unusedSimpArgs false
open Go Go.Ev Go.Ev.PV
namespace Go.Proofs.YtenmfogokijilaaGreat
variable (L : List PV) (U : UP)
abbrev aJw:=Co fun (r:Bool) (w:PV×UP)=>w=(aA r,[])
def kW (t:(Int×Int)×Unit):=(pu (pu L 1 (i6 t.1.1)) 2 (i6 t.1.2),U)
def kG (t:Int×Int):=(pu (pu L 1 (i6 t.1)) 2 (i6 t.2),U)
abbrev aFM:=ex1 (some 0) kG
def rM (d:GDoc):(Int×Int)->Unit->LC (Int×Int) Unit aFM
 | (b,a),j =>
 cCnd (decide (a<(ln kOp d.ops)))
  (cCnd (decide (b<=40))
  (cOp (oNth kOp d.ops a) fun c =>
  cOp (rB d c.sels 40) fun e =>
  bH ((IntKind.wrap .i64 (b+e)),(IntKind.wrap .i64 (a+1))) ())
  (aP (lE b a)))
  (aP (lE b a))
def kX (d:GDoc) (z:(Int×Int)):Option ((Int×Int)⊕Int):=(rM d z default).x
abbrev aFN:=ex1 (some 2) kG
def rN (d:GDoc):(Int×Int)->Unit->LC (Int×Int) Unit aFN
 | (b,a),j =>
 cCnd (decide (a<(ln gZ d.frags)))
  (cCnd (decide (b<=40))
  (cOp (oNth gZ d.frags a) fun c =>
  cOp (rB d c.sels 40) fun e =>
  bH ((IntKind.wrap .i64 (b+e)),(IntKind.wrap .i64 (a+1))) ())
  (aP (lE b a)))
  (aP (lE b a))
def qG (d:GDoc) (z:(Int×Int)):Option ((Int×Int)⊕Int):=(rN d z default).x
def nQ (s:GSchema) (d:GDoc):aJw :=
 cOp (aJm s) fun c =>
 cCnd (!c)
 (cR false)
 (cOp (aJn d) fun e =>
 cCnd (!e)
 (cR false)
 (cB kW ([(.ptr 0 3 0),(i6 0),(i6 0),(zq cO d.ops),(zq aL d.frags)]++aY s) [] (kX d) (rM d) (0,0) () <|
 kOne fun a _ =>
 cB kW ([(.ptr 0 3 0),(i6 a),(i6 0),(zq cO d.ops),(zq aL d.frags)]++aY s) [] (qG d) (rN d) (a,0) () <|
 kOne fun b _ =>
 cR (decide (b<=40))))
theorem qH {s d r} (h:(nQ s d).x=some r):qZ s d=some r:=kV (ds:=⟨[(9,(.v aA)),(13,(.v aA)),(32,(dR kOp)),(35,(.v bE)),(53,(dR gZ)),(56,(.v bE))],[(5,[(3,2),(2,3)],⟨kW,[(some 0,⟨kG⟩)]⟩),(9,[(3,2),(2,3)],⟨kW,[(some 2,⟨kG⟩)]⟩)]⟩) h (aG aC) Tryz.func4 (fun _=>by kernel_rfl)
abbrev bE2:=Co fun (r:Bool) (w:PV×UP)=>w=(aA r,[])
def aS (t:Int×Unit):=(pu L 4 (i6 t.1),U)
def aN (t:Unit×Int):=(pu L 4 (i6 t.2),U)
abbrev uP:=ex2 (some 0) aN (ex1 none aN)
def aJx (s:GSchema) (d:GDoc) (n:Int):Int->Unit->LC Int Unit uP
 | a,j =>
 cCnd (decide (a<n))
  (cOp (bCF s d a) fun b =>
  cCnd (!b)
  (aP (lR (lE () a)))
  (bH (IntKind.wrap .i64 (a+1)) ()))
  (aP (lL () a))
def aCD (s:GSchema) (d:GDoc) (n z:Int):Option (Int⊕(Unit⊕Unit)):=(aJx s d n z default).x
def aH3 (s:GSchema) (d:GDoc) (n:Int):bE2 :=
 cOp (aZT d) fun b =>
 cCnd (!b)
 (cR false)
 (cB aS ([(i6 n),(.ptr 0 3 0),(.ptr 0 4 0),(.bool false),(i6 1),(zq cO d.ops),(zq aL d.frags)]++aY s) [] (aCD s d n) (aJx s d n) 1 () <|
 fX (fun a _ =>
 cR true) <| kOne fun a _ =>
 cR false)
theorem aGT {s d n r} (h:(aH3 s d n).x=some r):aGO s d n=some r:=kV (ds:=⟨[(9,(.v aA)),(19,(.v aA))],[(4,[(4,2),(3,3)],⟨aS,[(some 0,⟨aN⟩),(none,⟨aN⟩)]⟩)]⟩) h (aG aC) Tryz.func6 (fun _=>by kernel_rfl)
abbrev aJy:=Co fun (r:Bool) (w:PV×UP)=>w=(aA r,[])
def aAO:aJy :=
 cOp (aAL) fun d =>
 cOp (aKh d (GDoc.mk [(GOp.mk 0 [] ([]:List GVarDef) ([]:List GDir) [(GSel.mk 0 [97] [98] ([]:List GMember) ([]:List GDir) [] ([]:List GSel)),(GSel.mk 0 [97] [99] ([]:List GMember) ([]:List GDir) [] ([]:List GSel))])] ([]:List GFrag)) 24) fun e =>
 cCnd (!e)
 (cOp (aAL) fun f =>
 cOp (aKh f (GDoc.mk [(GOp.mk 0 [] ([]:List GVarDef) ([]:List GDir) [(GSel.mk 0 [97] [98] ([]:List GMember) ([]:List GDir) [] ([]:List GSel)),(GSel.mk 0 [97] [98] ([]:List GMember) ([]:List GDir) [] ([]:List GSel))])] ([]:List GFrag)) 24) fun g =>
 cCnd g
 (cOp (oNth kOp [(GOp.mk 0 [] ([]:List GVarDef) ([]:List GDir) [(GSel.mk 0 [97] [98] ([]:List GMember) ([]:List GDir) [] ([]:List GSel)),(GSel.mk 0 [97] [99] ([]:List GMember) ([]:List GDir) [] ([]:List GSel))])] 0) fun a =>
 cOp (oNth kSel a.sels 0) fun b =>
 cOp (rL b) fun c =>
 cR (c==([97]:Str)))
 (cR false))
 (cR false)
theorem aFO {r} (h:(aAO).x=some r):aDj=some r:=kV (ds:=⟨[(15,(.v fY)),(17,(.v aA)),(20,(.v fY)),(22,(.v aA)),(27,(dR kOp)),(30,(dR kSel)),(32,(.v aF))],[]⟩) h (aG aC) Tryz.func7 (fun _=>by kernel_rfl)
abbrev aK8:=Co fun (r:Str) (w:PV×UP)=>w=(aF r,[])
def mH (t:(Str×Int)×Unit):=(pu (pu L 1 (.str t.1.1)) 2 (i6 t.1.2),U)
def qI (t:Str×Int):=(pu (pu L 1 (.str t.1)) 2 (i6 t.2),U)
abbrev zS:=ex1 (some 0) qI
def nR (d:GDoc):(Str×Int)->Unit->LC (Str×Int) Unit zS
 | (b,a),j =>
 cCnd (decide (a<(ln gZ d.frags)))
  (cOp (oNth gZ d.frags a) fun c =>
  cOp (tF c.sels) fun e =>
  cOp (oCat b e) fun f =>
  bH (f,(IntKind.wrap .i64 (a+1))) ())
  (aP (lE b a))
def jC (d:GDoc) (z:(Str×Int)):Option ((Str×Int)⊕Str):=(nR d z default).x
def aBV (d:GDoc) (l0:List GSel):aK8 :=
 cOp (tF l0) fun b =>
 cB mH [(.ptr 0 2 0),(.str b),(i6 0),(zq cO d.ops),(zq aL d.frags)] [] (jC d) (nR d) (b,0) () <|
 kOne fun a _ =>
 cR a
theorem aGU {d l0 r} (h:(aBV d l0).x=some r):oM d l0=some r:=kV (ds:=⟨[(8,(.v aF)),(20,(dR gZ)),(23,(.v aF)),(24,(.v PV.str))],[(3,[(2,2)],⟨mH,[(some 0,⟨qI⟩)]⟩)]⟩) h (aG eY) Tryz.func8 (fun _=>by kernel_rfl)
abbrev aZY:=Co fun (r:Str) (w:PV×UP)=>w=(aF r,[])
def aM7 (x:GSel):aZY :=
 cCnd (x.kind != 0)
 (cR [])
 (cCnd (!(x.alias==([]:Str)))
 (cR x.alias)
 (cR x.name))
theorem aRd {x r} (h:(aM7 x).x=some r):aEc x=some r:=kV (ds:=⟨[],[]⟩) h (aG eY) Tryz.func11 (fun _=>by kernel_rfl)
abbrev bE3:=Co fun (r:List GSel) (w:PV×UP)=>w=(aCr r,[])
def aM8 (t:((List GSel)×Int)×Unit):=(pu (pu L 1 (zp aH t.1.1)) 2 (i6 t.1.2),U)
def aKj (t:((List GSel))×Int):=(pu (pu L 1 (zp aH t.1)) 2 (i6 t.2),U)
abbrev aWt:=ex1 (some 0) aKj
def aBW (l0:List GSel):((List GSel)×Int)->Unit->LC ((List GSel)×Int) Unit aWt
 | (c,b),j =>
 cCnd (decide (b<(ln kSel l0)))
  (cOp (oNth kSel l0 b) fun a =>
  cOp (aEf a.args) fun d =>
  cOp (bCH a.dirs) fun e =>
  cOp (bCD a.sels) fun f =>
  cOp (aDp kSel c [(GSel.mk a.kind a.alias a.name d e a.on_ f)] (o:=true)) fun g =>
  bH (g,(IntKind.wrap .i64 (b+1))) ())
  (aP (lE c b))
def zT (l0:List GSel) (z:((List GSel)×Int)):Option (((List GSel)×Int)⊕((List GSel))):=(aBW l0 z default).x
def aH4 (l0:List GSel):bE3 :=
 cB aM8 [(zq aH l0),(.slice [] [] true),(i6 0)] [] (zT l0) (aBW l0) ([],0) () <|
 kOne fun a _ =>
 cR a
def aTr (l0:List GSel):Option (List GSel):=(aH4 l0).x
theorem aM9 {l0 r} (h:(aH4 l0).x=some r):aQV l0=some r:=kV (ds:=⟨[(14,(dR kSel)),(18,(.v mC)),(21,(.v aCw)),(24,(.v aCr)),(31,(dL kSel))],[(3,[],⟨aM8,[(some 0,⟨aKj⟩)]⟩)]⟩) h (aG bCC) Tryz.func21 (fun _=>by kernel_rfl)
abbrev aOs (f:GFrag) (u0_1:GDoc):=Co fun (r:Bool) (w:PV×UP)=>w=(aA r,(vC f u0_1 r))
def zU (f:GFrag) (a:GDoc):aOs f a :=
 cOp (aMO a f.sels) fun b =>
 cOp (lG b f.name) fun c =>
 cR c
def aNa (f:GFrag) (a:GDoc):Option Bool:=(zU f a).x
theorem aJz {f c r} (h:(zU f c).x=some r):xO f c=some r:=kV (ds:=⟨[(7,(.v dZ)),(10,(.v aA))],[]⟩) h (fun a b h=>aC a b (aaD h).1) Tryz.func65 (fun _=>by kernel_rfl)
abbrev bE4 (s:List GFrag) (u0_1:GDoc):=Co fun (r:Int) (w:PV×UP)=>w=(bE r,(aLD s u0_1 r))
def sE (t:Int×Int):=(pu (pu L 2 (i6 t.1)) 4 (i6 t.2),U)
abbrev zV:=ex2 (some 0) aN (ex1 none sE)
def aFr (s:List GFrag) (c:GDoc):Int->Unit->LC Int Unit zV
 | b,j =>
 cCnd (decide (b<(ln gZ s)))
  (cOp (oNth gZ s b) fun d =>
  cOp (oE O 65 [(aPp d),(.ptr 2 1 0)] [[],[(1,[(zq cO c.ops),(zq aL c.frags)])]] aA (fun u a=>u) (xO d c) (by exact fun _ h=>aQw rfl rfl rfl (aHS h))) fun e =>
  cCnd e
  (aP (lR (lE b b)))
  (bH (IntKind.wrap .i64 (b+1)) ()))
  (aP (lL () b))
def zW (s:List GFrag) (a:GDoc) (z:Int):Option (Int⊕(Unit⊕Int)):=(aFr s a z default).x
def aNb (s:List GFrag) (a:GDoc):bE4 s a :=
 cB aS [(zq aL s),(.func (.func 65) [] [(.ptr 1 1 0)]),(i6 0),(i6 (ln gZ s)),(i6 0)] [[(1,[(zq cO a.ops),(zq aL a.frags)])]] (zW s a) (aFr s a) 0 () <|
 fX (fun c _ =>
 cR (-1)) <| kOne fun b _ =>
 cR b
def bCM (s:List GFrag) (a:GDoc):Option Int:=(aNb s a).x
theorem aWu {s c r} (h:(aNb s c).x=some r):aQW s c=some r:=kV (ds:=⟨[(14,(dR gZ)),(16,(.u aA fun u a=>u))],[(2,[],⟨aS,[(some 0,⟨aN⟩),(none,⟨sE⟩)]⟩)]⟩) h (fun a b h=>sA a b (aaD h).1) Tryz.func116 (fun _=>by kernel_rfl)
abbrev aBv (s:List GFrag) (u0_1:GDoc):=Co fun (r:Bool) (w:PV×UP)=>w=(aA r,(gG s u0_1 r))
def qA (s:List GFrag) (b:GDoc):aBv s b :=
 cOp (oE O 116 [(zq aL s),(.func (.func 65) [] [(.ptr 2 1 0)])] [[],[(1,[(zq cO b.ops),(zq aL b.frags)])]] bE (fun u a=>u) (aQW s b) (by exact fun _ h=>aQw rfl rfl rfl (aTb h))) fun c =>
 cR (decide (c≥0))
theorem xS {s c r} (h:(qA s c).x=some r):gS s c=some r:=kV (ds:=⟨[(7,(.u bE fun u a=>u))],[]⟩) h (fun a b h=>aC a b (aaD h).1) Tryz.func64 (fun _=>by kernel_rfl)
abbrev aTs:=Co fun (r:Bool) (w:PV×UP)=>w=(aA r,[])
def aH5 (d:GDoc):aTs :=
 cOp (oE O 64 [(zq aL d.frags),(.func (.func 65) [] [(.ptr 1 1 0)])] [[(1,[(zq cO d.ops),(zq aL d.frags)])]] aA (fun u a=>u) (gS d.frags d) (by exact fun _ h=>wS h)) fun b =>
 cR b
theorem aNc {d r} (h:(aH5 d).x=some r):aCs d=some r:=kV (ds:=⟨[(6,(.u aA fun u a=>u))],[]⟩) h (aG aC) Tryz.func22 (fun _=>by kernel_rfl)
abbrev bE5:=Co fun (r:Str) (w:PV×UP)=>w=(aF r,[])
def aNd (s:GSchema) (o:GOp):bE5 :=
 cCnd (o.kind==1)
 (cR s.mutation)
 (cR s.query)
def bCN (s:GSchema) (o:GOp):Option Str:=(aNd s o).x
theorem aWv {s o r} (h:(aNd s o).x=some r):aV8 s o=some r:=kV (ds:=⟨[],[]⟩) h (aG eY) Tryz.func24 (fun _=>by kernel_rfl)
abbrev bCO:=Co fun (r:Bool) (w:PV×UP)=>w=(aA r,[])
def aKk (t:Int×PV):=(pu (pu L 1 t.2) 2 (i6 t.1),U)
def dU (t:Unit×Int):=(pu L 2 (i6 t.2),U)
def aH6 (t:Unit×(PV×Int)):=(pu (pu L 1 t.2.1) 2 (i6 t.2.2),U)
abbrev aTt:=ex2 (some 0) aH6 (ex1 none dU)
def aAP (t:((List Str)×Int)×Unit):=(pu (pu L 2 (zp PV.str t.1.1)) 3 (i6 t.1.2),U)
def aCE (t:((List Str))×Int):=(pu (pu L 2 (zp PV.str t.1)) 3 (i6 t.2),U)
abbrev aKl:=ex1 (some 2) aCE
def aKm (t:((List Str)×Int)×Unit):=(pu (pu L 2 (zp PV.str t.1.1)) 5 (i6 t.1.2),U)
def aH7 (t:((List Str))×Int):=(pu (pu L 2 (zp PV.str t.1)) 5 (i6 t.2),U)
abbrev aTu:=ex1 (some 4) aH7
def aGV (c:List Str):((List Str)×Int)->Unit->LC ((List Str)×Int) Unit aTu
 | (b,a),j =>
 cCnd (decide (a<(ln kStr c)))
  (cOp (oNth kStr c a) fun d =>
  cOp (xP b d) fun e =>
  cCnd (!e)
  (cOp (oNth kStr c a) fun f =>
  cOp (aDp kStr b [f] (o:=true)) fun g =>
  bH (g,(IntKind.wrap .i64 (a+1))) ())
  (bH (b,(IntKind.wrap .i64 (a+1))) ()))
  (aP (lE b a))
def aEp (a:List Str) (z:((List Str)×Int)):Option (((List Str)×Int)⊕((List Str))):=(aGV a z default).x
def aGW (s:GSchema) (e:Int):((List Str)×Int)->Unit->LC ((List Str)×Int) Unit aKl
 | (a,b),j =>
 cCnd (decide (b<(ln kStr a)))
  (cOp (oNth kStr a b) fun f =>
  cOp (aPu s f) fun c =>
  cB aKm ([(.ptr 0 1 0),(i6 e),(zp PV.str a),(i6 b),(zp PV.str c),(i6 0)]++aY s) [] (aEp c) (aGV c) (a,0) () <|
  kOne fun d _ =>
  bH (d,(IntKind.wrap .i64 (b+1))) ())
  (aP (lE a b))
def aEq (s:GSchema) (a:Int) (z:((List Str)×Int)):Option (((List Str)×Int)⊕((List Str))):=(aGW s a z default).x
def aGX (s:GSchema):Int->PV->LC Int PV aTt
 | a,j =>
 cCnd (decide (a<(ln kDef s.defs)))
  (cOp (oNth kDef s.defs a) fun f =>
  cOp (aPu s f.name) fun c =>
  cB aAP ([(.ptr 0 1 0),(i6 a),(zp PV.str c),(i6 0)]++aY s) [] (aEq s a) (aGW s a) (c,0) () <|
  kOne fun b _ =>
  cOp (oNth kDef s.defs a) fun d =>
  cOp (xP b d.name) fun e =>
  cCnd e
   (aP (lR (lE () a)))
   (bH (IntKind.wrap .i64 (a+1)) .bot))
  (aP (lL () (j,a)))
def aKn (s:GSchema) (z:Int):Option (Int⊕(Unit⊕Unit)):=(aGX s z default).x
def aPC (s:GSchema):bCO :=
 cB aKk ([(.ptr 0 1 0),(.bool false),(i6 0)]++aY s) [] (aKn s) (aGX s) 0 (.bool false) <|
 fX (fun a _ =>
 cR true) <| kOne fun a _ =>
 cR false
def aPD (s:GSchema):Option Bool:=(aPC s).x
theorem aTv {s r} (h:(aPC s).x=some r):aYs s=some r:=kV (ds:=⟨[(19,(dR kDef)),(22,(.v bS)),(32,(dR kStr)),(34,(.v bS)),(44,(dR kStr)),(46,(.v aA)),(51,(dR kStr)),(54,(dL kStr)),(59,(dR kDef)),(62,(.v aA))],[(10,[(1,3)],⟨aKm,[(some 4,⟨aH7⟩)]⟩),(6,[(1,3)],⟨aAP,[(some 2,⟨aCE⟩)]⟩),(2,[(1,3)],⟨aKk,[(some 0,⟨aH6⟩),(none,⟨dU⟩)]⟩)]⟩) h (aG aC) Tryz.func40 (fun _=>by kernel_rfl)
abbrev bCP:=Co fun (r:Bool) (w:PV×UP)=>w=(aA r,[])
def fR (t:Int×Unit):=(pu L 2 (i6 t.1),U)
def aH8 (t:Unit×Int):=(pu (pu L 1 (.bool true)) 2 (i6 t.2),U)
abbrev aTw:=ex2 (some 0) dU (ex1 none aH8)
def aCF (d:GDoc):Int->Unit->LC Int Unit aTw
 | a,j =>
 cCnd (decide (a<(ln gZ d.frags)))
  (cOp (oNth gZ d.frags a) fun b =>
  cOp (aJh d b.sels) fun c =>
  cOp (oNth gZ d.frags a) fun e =>
  cOp (xP c e.name) fun f =>
  cCnd f
  (aP (lR (lE () a)))
  (bH (IntKind.wrap .i64 (a+1)) ()))
  (aP (lL () a))
def vY (d:GDoc) (z:Int):Option (Int⊕(Unit⊕Unit)):=(aCF d z default).x
def aJA (d:GDoc):bCP :=
 cB fR [(.ptr 0 1 0),(.bool false),(i6 0),(zq cO d.ops),(zq aL d.frags)] [] (vY d) (aCF d) 0 () <|
 fX (fun a _ =>
 cR false) <| kOne fun a _ =>
 cR true
theorem aKo {d r} (h:(aJA d).x=some r):aLE d=some r:=kV (ds:=⟨[(15,(dR gZ)),(18,(.v dZ)),(22,(dR gZ)),(25,(.v aA))],[(2,[(1,2)],⟨fR,[(some 0,⟨dU⟩),(none,⟨aH8⟩)]⟩)]⟩) h (aG aC) Tryz.func53 (fun _=>by kernel_rfl)
abbrev bCQ:=Co fun (r:List GSeineref13Spot) (w:PV×UP)=>w=(mT r,[])
def aAQ (t:((List GSeineref13Spot)×Int)×Unit):=(pu (pu L 2 (zp aI t.1.1)) 3 (i6 t.1.2),U)
def xT (t:((List GSeineref13Spot))×Int):=(pu (pu L 2 (zp aI t.1)) 3 (i6 t.2),U)
abbrev aTx:=ex1 (some 0) xT
def aCG (s:GSchema) (d:GDoc):((List GSeineref13Spot)×Int)->Unit->LC ((List GSeineref13Spot)×Int) Unit aTx
 | (b,a),j =>
 cCnd (decide (a<(ln kOp d.ops)))
  (cOp (oNth kOp d.ops a) fun c =>
  cOp (aMP s c) fun e =>
  cOp (oNth kOp d.ops a) fun f =>
  cOp (aJp s e f.sels b) fun g =>
  bH (g,(IntKind.wrap .i64 (a+1))) ())
  (aP (lE b a))
def aAR (s:GSchema) (d:GDoc) (z:((List GSeineref13Spot)×Int)):Option (((List GSeineref13Spot)×Int)⊕((List GSeineref13Spot))):=(aCG s d z default).x
abbrev aTy:=ex1 (some 2) xT
def aCH (s:GSchema) (d:GDoc):((List GSeineref13Spot)×Int)->Unit->LC ((List GSeineref13Spot)×Int) Unit aTy
 | (b,a),j =>
 cCnd (decide (a<(ln gZ d.frags)))
  (cOp (oNth gZ d.frags a) fun c =>
  cOp (oNth gZ d.frags a) fun e =>
  cOp (aJp s c.on_ e.sels b) fun f =>
  bH (f,(IntKind.wrap .i64 (a+1))) ())
  (aP (lE b a))
def aAS (s:GSchema) (d:GDoc) (z:((List GSeineref13Spot)×Int)):Option (((List GSeineref13Spot)×Int)⊕((List GSeineref13Spot))):=(aCH s d z default).x
def aJB (s:GSchema) (d:GDoc):bCQ :=
 cB aAQ ([(.ptr 0 2 0),(.ptr 0 3 0),(.slice [] [] true),(i6 0),(zq cO d.ops),(zq aL d.frags)]++aY s) [] (aAR s d) (aCG s d) ([],0) () <|
 kOne fun a _ =>
 cB aAQ ([(.ptr 0 2 0),(.ptr 0 3 0),(zp aI a),(i6 0),(zq cO d.ops),(zq aL d.frags)]++aY s) [] (aAS s d) (aCH s d) (a,0) () <|
 kOne fun b _ =>
 cR b
def aZZ (s:GSchema) (d:GDoc):Option (List GSeineref13Spot):=(aJB s d).x
theorem aTz {s d r} (h:(aJB s d).x=some r):aQY s d=some r:=kV (ds:=⟨[(20,(dR kOp)),(22,(.v aF)),(26,(dR kOp)),(30,(.v iL)),(42,(dR gZ)),(48,(dR gZ)),(52,(.v iL))],[(3,[(3,2),(2,3)],⟨aAQ,[(some 0,⟨xT⟩)]⟩),(7,[(3,2),(2,3)],⟨aAQ,[(some 2,⟨xT⟩)]⟩)]⟩) h (aG aPq) Tryz.func55 (fun _=>by kernel_rfl)
abbrev aZ0:=Co fun (r:Bool) (w:PV×UP)=>w=(aA r,[])
def bV (t:Int×Unit):=(pu L 3 (i6 t.1),U)
def bA (t:Unit×Int):=(pu L 3 (i6 t.2),U)
abbrev pP:=ex2 (some 0) bA (ex1 none bA)
abbrev aH9:=ex2 (some 2) aN (ex1 none aN)
def aEr (s:GSchema) (d:GDoc) (b:Int):Int->Unit->LC Int Unit aH9
 | a,j =>
 cOp (oNth kOp d.ops b) fun e =>
 cCnd (decide (a<(ln wQ e.vars)))
  (cOp (oNth kOp d.ops b) fun f =>
  cOp (oNth wQ f.vars a) fun c =>
  cCnd c.has
  (cOp (aPw s c.t c.default) fun g =>
  cCnd (!g)
   (aP (lR (lE () a)))
   (bH (IntKind.wrap .i64 (a+1)) ()))
  (bH (IntKind.wrap .i64 (a+1)) ()))
  (aP (lL () a))
def aIa (s:GSchema) (d:GDoc) (a z:Int):Option (Int⊕(Unit⊕Unit)):=(aEr s d a z default).x
def aEs (s:GSchema) (d:GDoc):Int->Unit->LC Int Unit pP
 | a,j =>
 cCnd (decide (a<(ln kOp d.ops)))
  (cB aS ([(.ptr 0 2 0),(.ptr 0 3 0),(.bool false),(i6 a),(i6 0),(zq cO d.ops),(zq aL d.frags)]++aY s) [] (aIa s d a) (aEr s d a) 0 () <|
  fX (fun b _ =>
  bH (IntKind.wrap .i64 (a+1)) ()) <| kOne fun b _ =>
  aP (lR (lE () a)))
  (aP (lL () a))
def aIb (s:GSchema) (d:GDoc) (z:Int):Option (Int⊕(Unit⊕Unit)):=(aEs s d z default).x
abbrev aIc:=ex2 (some 4) bA (ex1 none bA)
abbrev aRe:=ex2 (some 6) aN (ex1 none aN)
def vZ (s:GSchema) (c:List GSeineref13Spot) (b:Int):Int->Unit->LC Int Unit aRe
 | a,j =>
 cOp (oNth aM c b) fun d =>
 cCnd (decide (a<(ln kDir d.x.dirs)))
  (cOp (oNth aM c b) fun e =>
  cOp (oNth kDir e.x.dirs a) fun f =>
  cOp (aF9 f) fun g =>
  cOp (oNth aM c b) fun h =>
  cOp (oNth kDir h.x.dirs a) fun i =>
  cOp (aF8 s g i.args) fun k =>
  cCnd (!k)
  (aP (lR (lE () a)))
  (bH (IntKind.wrap .i64 (a+1)) ()))
  (aP (lL () a))
def xU (s:GSchema) (b:List GSeineref13Spot) (a z:Int):Option (Int⊕(Unit⊕Unit)):=(vZ s b a z default).x
def aEt (s:GSchema) (b:List GSeineref13Spot) (d:GDoc):Int->Unit->LC Int Unit aIc
 | a,j =>
 cCnd (decide (a<(ln aM b)))
  (cOp (oNth aM b a) fun c =>
  cCnd (c.x.kind==0)
  (cOp (oNth aM b a) fun e =>
  cOp (aMR s e) fun f =>
  cOp (oNth aM b a) fun g =>
  cOp (aF8 s f g.x.args) fun h =>
  cCnd (!h)
   (aP (lR (lE () a)))
   (cB aS ([(.ptr 0 2 0),(.bool false),(zq aI b),(i6 a),(i6 0),(zq cO d.ops),(zq aL d.frags)]++aY s) [] (xU s b a) (vZ s b a) 0 () <|
   fX (fun i _ =>
   bH (IntKind.wrap .i64 (a+1)) ()) <| kOne fun i _ =>
   aP (lR (lE () a))))
  (cB aS ([(.ptr 0 2 0),(.bool false),(zq aI b),(i6 a),(i6 0),(zq cO d.ops),(zq aL d.frags)]++aY s) [] (xU s b a) (vZ s b a) 0 () <|
  fX (fun k _ =>
   bH (IntKind.wrap .i64 (a+1)) ()) <| kOne fun k _ =>
   aP (lR (lE () a))))
  (aP (lL () a))
def aId (s:GSchema) (a:List GSeineref13Spot) (d:GDoc) (z:Int):Option (Int⊕(Unit⊕Unit)):=(aEt s a d z default).x
def aGY (s:GSchema) (d:GDoc):aZ0 :=
 cB bV ([(.ptr 0 2 0),(.ptr 0 3 0),(.bool false),(i6 0),(zq cO d.ops),(zq aL d.frags)]++aY s) [] (aIb s d) (aEs s d) 0 () <|
 fX (fun c _ =>
 cOp (aZR s d) fun a =>
 cB bV ([(.ptr 0 2 0),(.bool false),(zq aI a),(i6 0),(zq cO d.ops),(zq aL d.frags)]++aY s) [] (aId s a d) (aEt s a d) 0 () <|
 fX (fun b _ =>
 cR true) <| kOne fun b _ =>
 cR false) <| kOne fun c _ =>
 cR false
def aNe (s:GSchema) (d:GDoc):Option Bool:=(aGY s d).x
theorem aRf {s d r} (h:(aGY s d).x=some r):aHT s d=some r:=kV (ds:=⟨[(22,(dR kOp)),(32,(dR kOp)),(36,(dR wQ)),(46,(.v aA)),(51,(.v mT)),(60,(dR aM)),(70,(dR aM)),(72,(.v jS)),(75,(dR aM)),(79,(.v aA)),(85,(dR aM)),(96,(dR aM)),(101,(dR kDir)),(103,(.v jS)),(106,(dR aM)),(111,(dR kDir)),(114,(.v aA))],[(5,[(3,2),(2,3)],⟨aS,[(some 2,⟨aN⟩),(none,⟨aN⟩)]⟩),(2,[(3,2),(2,3)],⟨bV,[(some 0,⟨bA⟩),(none,⟨bA⟩)]⟩),(17,[(3,2),(2,3)],⟨aS,[(some 6,⟨aN⟩),(none,⟨aN⟩)]⟩),(17,[(3,2),(2,3)],⟨aS,[(some 6,⟨aN⟩),(none,⟨aN⟩)]⟩),(12,[(3,2),(2,3)],⟨bV,[(some 4,⟨bA⟩),(none,⟨bA⟩)]⟩)]⟩) h (aG aC) Tryz.func60 (fun _=>by kernel_rfl)
abbrev aZ1:=Co fun (r:Bool) (w:PV×UP)=>w=(aA r,[])
def aAT (s:GSchema) (d:GDoc):Int->Unit->LC Int Unit pP
 | a,j =>
 cCnd (decide (a<(ln kOp d.ops)))
  (cOp (oNth kOp d.ops a) fun b =>
  cOp (aMP s b) fun c =>
  cOp (oNth kOp d.ops a) fun e =>
  cOp (aJq s d c e.sels) fun f =>
  cCnd (!f)
  (aP (lR (lE () a)))
  (bH (IntKind.wrap .i64 (a+1)) ()))
  (aP (lL () a))
def xV (s:GSchema) (d:GDoc) (z:Int):Option (Int⊕(Unit⊕Unit)):=(aAT s d z default).x
abbrev aRg:=ex2 (some 2) bA (ex1 none bA)
def aAU (s:GSchema) (d:GDoc):Int->Unit->LC Int Unit aRg
 | a,j =>
 cCnd (decide (a<(ln gZ d.frags)))
  (cOp (oNth gZ d.frags a) fun b =>
  cOp (oNth gZ d.frags a) fun c =>
  cOp (aJq s d b.on_ c.sels) fun e =>
  cCnd (!e)
  (aP (lR (lE () a)))
  (bH (IntKind.wrap .i64 (a+1)) ()))
  (aP (lL () a))
def xW (s:GSchema) (d:GDoc) (z:Int):Option (Int⊕(Unit⊕Unit)):=(aAU s d z default).x
def aCI (s:GSchema) (d:GDoc):aZ1 :=
 cB bV ([(.ptr 0 2 0),(.ptr 0 3 0),(.bool false),(i6 0),(zq cO d.ops),(zq aL d.frags)]++aY s) [] (xV s d) (aAT s d) 0 () <|
 fX (fun a _ =>
 cB bV ([(.ptr 0 2 0),(.ptr 0 3 0),(.bool false),(i6 0),(zq cO d.ops),(zq aL d.frags)]++aY s) [] (xW s d) (aAU s d) 0 () <|
 fX (fun b _ =>
 cR true) <| kOne fun b _ =>
 cR false) <| kOne fun a _ =>
 cR false
theorem aCJ {s d r} (h:(aCI s d).x=some r):tD s d=some r:=kV (ds:=⟨[(20,(dR kOp)),(22,(.v aF)),(26,(dR kOp)),(29,(.v aA)),(43,(dR gZ)),(49,(dR gZ)),(52,(.v aA))],[(2,[(3,2),(2,3)],⟨bV,[(some 0,⟨bA⟩),(none,⟨bA⟩)]⟩),(7,[(3,2),(2,3)],⟨bV,[(some 2,⟨bA⟩),(none,⟨bA⟩)]⟩)]⟩) h (aG aC) Tryz.func62 (fun _=>by kernel_rfl)
abbrev aZ2:=Co fun (r:Str) (w:PV×UP)=>w=(aF r,[])
def aGZ (s:GSchema) (typ:Str) (x:GSel):aZ2 :=
 cCnd (x.kind==0)
 (cOp (aJi s typ x.name) fun a =>
 cR a.1.t.name)
 (cCnd (x.kind==2)
 (cCnd (!(x.on_==([]:Str)))
 (cR x.on_)
 (cCnd (x.kind==2)
 (cR typ)
 (cR [])))
 (cCnd (x.kind==2)
 (cR typ)
 (cR [])))
def aWw (s:GSchema) (typ:Str) (x:GSel):Option Str:=(aGZ s typ x).x
theorem aRh {s typ x r} (h:(aGZ s typ x).x=some r):aML s typ x=some r:=kV (ds:=⟨[(18,(.v iK))],[]⟩) h (aG eY) Tryz.func68 (fun _=>by kernel_rfl)
abbrev bCR:=Co fun (r:List Str) (w:PV×UP)=>w=(dZ r,[])
def lT (t:((List Str)×Int)×Unit):=(pu (pu L 1 (zp PV.str t.1.1)) 2 (i6 t.1.2),U)
def pQ (t:((List Str))×Int):=(pu (pu L 1 (zp PV.str t.1)) 2 (i6 t.2),U)
abbrev wA:=ex1 (some 0) pQ
def zX (d:GDoc):((List Str)×Int)->Unit->LC ((List Str)×Int) Unit wA
 | (a,b),j =>
 cCnd (decide (b<(ln kStr a)))
  (cOp (oNth kStr a b) fun e =>
  cOp (aEh d e) fun c =>
  cCnd c.2
  (cOp (vX c.1.sels a) fun f =>
  bH (f,(IntKind.wrap .i64 (b+1))) ())
  (bH (a,(IntKind.wrap .i64 (b+1))) ()))
  (aP (lE a b))
def sF (d:GDoc) (z:((List Str)×Int)):Option (((List Str)×Int)⊕((List Str))):=(zX d z default).x
def aCK (d:GDoc) (c:List Str):((List Str)×Int)->Unit->LC ((List Str)×Int) Unit aKl
 | (a,b),j =>
 cCnd (decide (b<(ln gZ d.frags)))
  (cOp (oNth gZ d.frags b) fun e =>
  cOp (xP c e.name) fun f =>
  cCnd f
  (cOp (oNth gZ d.frags b) fun g =>
  cOp (xP a g.name) fun h =>
  cCnd (!h)
   (cOp (oNth gZ d.frags b) fun i =>
   cOp (aDp kStr a [i.name] (o:=true)) fun k =>
   bH (k,(IntKind.wrap .i64 (b+1))) ())
   (bH (a,(IntKind.wrap .i64 (b+1))) ()))
  (bH (a,(IntKind.wrap .i64 (b+1))) ()))
  (aP (lE a b))
def aAV (d:GDoc) (a:List Str) (z:((List Str)×Int)):Option (((List Str)×Int)⊕((List Str))):=(aCK d a z default).x
def aJC (d:GDoc) (l0:List GSel):bCR :=
 cOp (aTe l0) fun c =>
 cB lT [(.ptr 0 2 0),(zp PV.str c),(i6 0),(zq cO d.ops),(zq aL d.frags)] [] (sF d) (zX d) (c,0) () <|
 kOne fun a _ =>
 cB aAP [(.ptr 0 2 0),(zp PV.str a),(.slice [] [] true),(i6 0),(zq cO d.ops),(zq aL d.frags)] [] (aAV d a) (aCK d a) ([],0) () <|
 kOne fun b _ =>
 cR b
def aZ3 (d:GDoc) (l0:List GSel):Option (List Str):=(aJC d l0).x
theorem aTA {d l0 r} (h:(aJC d l0).x=some r):tE d l0=some r:=kV (ds:=⟨[(12,(.v bS)),(23,(dR kStr)),(25,(.v mE)),(32,(.v bS)),(44,(dR gZ)),(47,(.v aA)),(53,(dR gZ)),(56,(.v aA)),(63,(dR gZ)),(67,(dL kStr))],[(3,[(2,2)],⟨lT,[(some 0,⟨pQ⟩)]⟩),(10,[(2,2)],⟨aAP,[(some 2,⟨aCE⟩)]⟩)]⟩) h (aG aBN) Tryz.func95 (fun _=>by kernel_rfl)
abbrev bE6:=Co fun (r:List Str) (w:PV×UP)=>w=(dZ r,[])
def uQ (t:((List Str)×Int)×Unit):=(pu (pu L 1 (zp PV.str t.1.1)) 3 (i6 t.1.2),U)
def wB (t:((List Str))×Int):=(pu (pu L 1 (zp PV.str t.1)) 3 (i6 t.2),U)
abbrev aNf:=ex1 (some 0) wB
def aFs (d:GDoc) (c:List Str):((List Str)×Int)->Unit->LC ((List Str)×Int) Unit aNf
 | (b,a),j =>
 cCnd (decide (a<(ln kStr c)))
  (cOp (oNth kStr c a) fun e =>
  cOp (aEh d e) fun f =>
  cOp (aCz f.1.sels b) fun g =>
  bH (g,(IntKind.wrap .i64 (a+1))) ())
  (aP (lE b a))
def aCL (d:GDoc) (a:List Str) (z:((List Str)×Int)):Option (((List Str)×Int)⊕((List Str))):=(aFs d a z default).x
def aTB (d:GDoc) (l0:List GSel):bE6 :=
 cOp (aCz l0 ([]:List Str)) fun c =>
 cOp (aJh d l0) fun b =>
 cB uQ [(.ptr 0 2 0),(zp PV.str c),(zq PV.str b),(i6 0),(zq cO d.ops),(zq aL d.frags)] [] (aCL d b) (aFs d b) (c,0) () <|
 kOne fun a _ =>
 cOp (aWj a) fun e =>
 cR e
theorem aWx {d l0 r} (h:(aTB d l0).x=some r):aWd d l0=some r:=kV (ds:=⟨[(11,(.v bS)),(14,(.v dZ)),(25,(dR kStr)),(27,(.v mE)),(33,(.v bS)),(35,(.v dZ))],[(4,[(2,2)],⟨uQ,[(some 0,⟨wB⟩)]⟩)]⟩) h (aG aBN) Tryz.func106 (fun _=>by kernel_rfl)
abbrev aWy:=Co fun (r:List GSpot) (w:PV×UP)=>w=(eA r,[])
def nF (t:((List GSpot)×Int)×Unit):=(pu (pu L 2 (zp oK t.1.1)) 4 (i6 t.1.2),U)
def oQ (t:((List GSpot))×Int):=(pu (pu L 2 (zp oK t.1)) 4 (i6 t.2),U)
abbrev aOt:=ex1 (some 0) oQ
def xX (s:GSchema) (d:GDoc) (e:List Str) (o:GOp):((List GSpot)×Int)->Unit->LC ((List GSpot)×Int) Unit aOt
 | (b,a),j =>
 cCnd (decide (a<(ln kStr e)))
  (cOp (oNth kStr e a) fun f =>
  cOp (aEh d f) fun c =>
  cOp (zP s c.1.on_ c.1.sels) fun g =>
  cOp (oApp aHP b g (o:=true)) fun h =>
  bH (h,(IntKind.wrap .i64 (a+1))) ())
  (aP (lE b a))
def vG (s:GSchema) (d:GDoc) (a:List Str) (o:GOp) (z:((List GSpot)×Int)):Option (((List GSpot)×Int)⊕((List GSpot))):=(xX s d a o z default).x
def aKp (s:GSchema) (d:GDoc) (o:GOp):aWy :=
 cOp (aMP s o) fun e =>
 cOp (zP s e o.sels) fun c =>
 cOp (aJh d o.sels) fun b =>
 cB nF ([(.ptr 0 3 0),(.ptr 0 4 0),(zp oK c),(zq PV.str b),(i6 0)]++zcOp o++[(zq cO d.ops),(zq aL d.frags)]++aY s) [] (vG s d b o) (xX s d b o) (c,0) () <|
 kOne fun a _ =>
 cR a
theorem aOu {s d o r} (h:(aKp s d o).x=some r):aPr s d o=some r:=kV (ds:=⟨[(15,(.v aF)),(18,(.v iS)),(22,(.v dZ)),(33,(dR kStr)),(35,(.v mE)),(44,(.v iS)),(45,(dL aHP))],[(4,[(5,5),(4,2),(3,3)],⟨nF,[(some 0,⟨oQ⟩)]⟩)]⟩) h (aG aEd) Tryz.func111 (fun _=>by kernel_rfl)
abbrev aWz (f:GFieldDef) (u0_8:GDef) (u0_6 u0_60:Str) (u0_600 u0_6000:Int) (u0_5:Str) (u0_3:GSchema):=Co fun (r:Bool) (w:PV×UP)=>w=(aA r,(aCt f u0_8 u0_6 u0_60 u0_600 u0_6000 u0_5 u0_3 r))
def aTC (f:GFieldDef) (e:GDef) (g d:Str) (b a:Int) (c:Str) (h:GSchema):aWz f e g d b a c h :=
 cR (f.name==c)
theorem aOv {f g i e d c j k r} (h:(aTC f g i e d c j k).x=some r):aFl f g i e d c j k=some r:=kV (ds:=⟨[],[]⟩) h (fun a b h=>aC a b (aaD h).1) Tryz.func154 (fun _=>by kernel_rfl)
abbrev aTD (s:List GFieldDef) (u0_8:GDef) (u0_6 u0_60:Str) (u0_600 u0_6000:Int) (u0_5:Str) (u0_3:GSchema):=Co fun (r:Int) (w:PV×UP)=>w=(bE r,(aAK s u0_8 u0_6 u0_60 u0_600 u0_6000 u0_5 u0_3 r))
def vH (s:List GFieldDef) (f:GDef) (g:Str) (e:Str) (d:Int) (b:Int) (i:Str) (k:GSchema):Int->Unit->LC Int Unit zV
 | c,j =>
 cCnd (decide (c<(ln oH s)))
  (cOp (oNth oH s c) fun l =>
  cOp (oE O 154 [(aJf l),(.ptr 2 5 0)] [[],[(8,(aJg f)),(6,[(.str g),(.slice [] [] true),(.str e),(i6 d),(i6 b),(.slice [] [] true)]),(5,[(.str i)]),(3,(aY k))]] aA (fun u a=>u) (aFl l f g e d b i k) (by exact fun _ h=>aQw rfl rfl rfl (aMM h))) fun m =>
  cCnd m
  (aP (lR (lE c c)))
  (bH (IntKind.wrap .i64 (c+1)) ()))
  (aP (lL () c))
def tH (s:List GFieldDef) (d:GDef) (e c:Str) (b a:Int) (f:Str) (g:GSchema) (z:Int):Option (Int⊕(Unit⊕Int)):=(vH s d e c b a f g z default).x
def aCM (s:List GFieldDef) (d:GDef) (e c:Str) (b a:Int) (f:Str) (g:GSchema):aTD s d e c b a f g :=
 cB aS [(zq cJ s),(.func (.func 154) [] [(.ptr 1 5 0)]),(i6 0),(i6 (ln oH s)),(i6 0)] [[(8,(aJg d)),(6,[(.str e),(.slice [] [] true),(.str c),(i6 b),(i6 a),(.slice [] [] true)]),(5,[(.str f)]),(3,(aY g))]] (tH s d e c b a f g) (vH s d e c b a f g) 0 () <|
 fX (fun i _ =>
 cR (-1)) <| kOne fun h _ =>
 cR h
def aIe (s:List GFieldDef) (d:GDef) (e c:Str) (b a:Int) (f:Str) (g:GSchema):Option Int:=(aCM s d e c b a f g).x
theorem aNg {s f g e d c i j r} (h:(aCM s f g e d c i j).x=some r):zL s f g e d c i j=some r:=kV (ds:=⟨[(14,(dR oH)),(16,(.u aA fun u a=>u))],[(2,[],⟨aS,[(some 0,⟨aN⟩),(none,⟨sE⟩)]⟩)]⟩) h (fun a b h=>sA a b (aaD h).1) Tryz.func153 (fun _=>by kernel_rfl)
open Go Go.Ev Go.Ev.PV
variable (L : List PV) (U : UP)
abbrev aNh:=Co fun (r:GFieldDef×Bool) (w:PV×UP)=>w=(iK r,[])
def aG0 (s:GSchema) (name:Str) (b:GDef×Bool):Unit->aNh
 | () =>
 cOp (oE O 153 [(zq cJ b.1.fields),(.func (.func 154) [] [(.ptr 1 5 0)])] [[(8,(aJg b.1)),(6,[(.str []),(.slice [] [] true),(.str []),(i6 0),(i6 0),(.slice [] [] true)]),(5,[(.str name)]),(3,(aY s))]] bE (fun u a=>u) (zL b.1.fields b.1 [] [] 0 0 name s) (by exact fun _ h=>aK7 h)) fun c =>
 cCnd (decide (c<0))
  (cR ((GFieldDef.mk [] ([]:List GParam) (GType.mk [] 0 0) ([]:List GDir)),false))
  (cOp (oNth oH b.1.fields c) fun d =>
  cR (d,true))
def aG1 (s : GSchema) (typ : Str) (name : Str) : Unit -> aNh
 | () =>
 cOp (aTi s typ) fun a =>
 cCnd (!a.2)
  (cR ((GFieldDef.mk [] ([] : List GParam) (GType.mk [] 0 0) ([] : List GDir)), false))
  (cCnd (a.1.kind != 1)
  (cCnd (a.1.kind != 2)
   (cR ((GFieldDef.mk [] ([] : List GParam) (GType.mk [] 0 0) ([] : List GDir)), false))
   (aG0 s name a ()))
  (aG0 s name a ()))
def aPE (s:GSchema) (typ name:Str):aNh :=
 cCnd (name==([95,95,116,121,112,101,110,97,109,101]:Str))
 (cOp (aBq s typ) fun a =>
 cCnd a
 (cR ((GFieldDef.mk [95,95,116,121,112,101,110,97,109,101] ([]:List GParam) (GType.mk [83,116,114,105,110,103] 0 1) ([]:List GDir)),true))
 (aG1 s typ name ()))
 (aG1 s typ name ())
theorem aTE {s typ name r} (h:(aPE s typ name).x=some r):aQZ s typ name=some r:=kV (ds:=⟨[(16,(.v aA)),(23,(.v kT)),(42,(.u bE fun u a=>u)),(49,(dR oH))],[]⟩) h (aG aPs) Tryz.func120 (fun _=>by kernel_rfl)
abbrev bE7:=Co fun (r:Bool) (w:PV×UP)=>w=(aA r,[])
def aTF (s:GSchema) (name:Str) (kinds:List Int):bE7 :=
 cOp (aTi s name) fun a =>
 cCnd a.2
 (cOp (aBs kinds a.1.kind) fun b =>
 cR b)
 (cR false)
theorem aWA {s name kinds r} (h:(aTF s name kinds).x=some r):aWe s name kinds=some r:=kV (ds:=⟨[(12,(.v kT)),(20,(.v aA))],[]⟩) h (aG aC) Tryz.func121 (fun _=>by kernel_rfl)
abbrev aTG:=Co fun (r:Bool) (w:PV×UP)=>w=(aA r,[])
def bM (t:Int×Unit):=(pu L 5 (i6 t.1),U)
def aZ (t:Unit×Int):=(pu L 5 (i6 t.2),U)
abbrev tI:=ex2 (some 0) aZ (ex1 none aZ)
def vI (a:List GMember) (b:List GMember):Int->Unit->LC Int Unit tI
 | c,j =>
 cCnd (decide (c<(ln aT a)))
  (cOp (oNth aT a c) fun d =>
  cOp (aWl d.name b) fun e =>
  cCnd (!e.2)
  (aP (lR (lE () c)))
  (cOp (aEj d.v e.1) fun f =>
  cCnd (!f)
   (aP (lR (lE () c)))
   (bH (IntKind.wrap .i64 (c+1)) ())))
  (aP (lL () c))
def tJ (a b:List GMember) (z:Int):Option (Int⊕(Unit⊕Unit)):=(vI a b z default).x
def aIf (a b:List GMember):aTG :=
 cB bM [(zq aE a),(zq aE b),(.bool false),(zq aE a),(i6 (ln aT a)),(i6 0)] [] (tJ a b) (vI a b) 0 () <|
 fX (fun c _ =>
 cR ((ln aT a)==(ln aT b))) <| kOne fun c _ =>
 cR false
theorem aNi {a b r} (h:(aIf a b).x=some r):aGP a b=some r:=kV (ds:=⟨[(13,(dR aT)),(19,(.v jT)),(28,(.v aA))],[(2,[],⟨bM,[(some 0,⟨aZ⟩),(none,⟨aZ⟩)]⟩)]⟩) h (aG aC) Tryz.func123 (fun _=>by kernel_rfl)
abbrev aTH:=Co fun (r:Bool) (w:PV×UP)=>w=(aA r,[])
def aG2 (s:GSchema) (v0:GValue) (d:GType×Bool):Int->Unit->LC Int Unit uP
 | a,j =>
 cCnd (decide (a<(ln kA v0.l)))
  (cOp (oNth kA v0.l a) fun b =>
  cOp (aJj s d.1 b false) fun c =>
  cCnd (!c)
  (aP (lR (lE () a)))
  (bH (IntKind.wrap .i64 (a+1)) ()))
  (aP (lL () a))
def aEu (s:GSchema) (v0:GValue) (a:GType×Bool) (z:Int):Option (Int⊕(Unit⊕Unit)):=(aG2 s v0 a z default).x
def aG3 (s : GSchema) (t : GType) (v0 : GValue) (b : GType × Bool) : Unit -> aTH
 | () =>
 cCnd b.2
  (cB aS ([(.ptr 0 4 0), (.ptr 0 6 0), (.bool false), (.ptr 0 9 0), (i6 0)] ++ aEb b.1 ++ rK v0 ++ aEb t ++ aY s) [] (aEu s v0 b) (aG2 s v0 b) 0 () <|
  fX (fun c _ =>
  cR true) <| kOne fun c _ =>
  cR false)
  (cCnd (t.name == ([73, 110, 116] : Str))
  (cCnd (v0.kind == 2)
   (cCnd (decide (v0.n ≥ (-2147483648)))
   (cR (decide (v0.n <= 2147483647)))
   (cR false))
   (cR false))
  (cCnd (t.name == ([83, 116, 114, 105, 110, 103] : Str))
   (cR (v0.kind == 4))
   (cCnd (t.name == ([66, 111, 111, 108, 101, 97, 110] : Str))
   (cR (v0.kind == 1))
   (cCnd (t.name == ([73, 68] : Str))
    (cCnd (v0.kind == 4)
    (cR true)
    (cR (v0.kind == 2)))
    (cOp (aBS s t.name) fun a =>
    cCnd (a.1.kind == 4)
    (cCnd (v0.kind == 5)
     (cOp (xP a.1.parts v0.s) fun d =>
     cR d)
     (cR false))
    (cCnd (a.1.kind == 5)
     (cCnd (v0.kind == 7)
     (cOp (aZU s a.1.params v0.m) fun e =>
     cR e)
     (cR false))
     (cR false)))))))
def aPF (s:GSchema) (t:GType) (v0:GValue) (alone:Bool):aTH :=
 cOp (vD t) fun c =>
 cCnd (!c)
 (cR false)
 (cCnd (v0.kind==8)
 (cR true)
 (cCnd (v0.kind==0)
 (cR ((bits .and .i64 t.musts 1)==0))
 (cOp (aTj t) fun a =>
 cCnd a.2
 (cCnd (v0.kind != 6)
 (cCnd alone
 (cOp (aJj s a.1 v0 true) fun b =>
 cR b)
 (cR false))
 (aG3 s t v0 a ()))
 (aG3 s t v0 a ()))))
def aZ4 (s:GSchema) (t:GType) (v0:GValue) (alone:Bool):Option Bool:=(aPF s t v0 alone).x
theorem aTI {s t v0 alone r} (h:(aPF s t v0 alone).x=some r):aFm s t v0 alone=some r:=kV (ds:=⟨[(15,(.v aA)),(29,(.v aAM)),(43,(.v aA)),(58,(dR kA)),(60,(.v aA)),(103,(.v kT)),(117,(.v aA)),(133,(.v aA))],[(12,[(9,3),(6,5),(5,3),(4,3)],⟨aS,[(some 0,⟨aN⟩),(none,⟨aN⟩)]⟩)]⟩) h (aG aC) Tryz.func144 (fun _=>by kernel_rfl)
abbrev aTJ:=Co fun (r:Bool) (w:PV×UP)=>w=(aA r,[])
def aIg (s:GSchema) (a b:GType):aTJ :=
 cCnd (a.lists != b.lists)
 (cR false)
 (cCnd (a.musts != b.musts)
 (cR false)
 (cOp (aTk s a.name) fun c =>
 cCnd c
 (cR (a.name==b.name))
 (cOp (aTk s b.name) fun d =>
 cCnd d
 (cR (a.name==b.name))
 (cOp (aBq s a.name) fun e =>
 cCnd e
 (cOp (aBq s b.name) fun f =>
 cR f)
 (cR false)))))
theorem aNj {s a b r} (h:(aIg s a b).x=some r):aGQ s a b=some r:=kV (ds:=⟨[(22,(.v aA)),(27,(.v aA)),(37,(.v aA)),(42,(.v aA))],[]⟩) h (aG aC) Tryz.func156 (fun _=>by kernel_rfl)
abbrev bE8:=Co fun (r:List Str) (w:PV×UP)=>w=(bS r,[])
def iD (t:((List Str)×Int)×Unit):=(pu (pu L 0 (zp PV.str t.1.1)) 2 (i6 t.1.2),U)
def lU (t:((List Str))×Int):=(pu (pu L 0 (zp PV.str t.1)) 2 (i6 t.2),U)
abbrev aWB:=ex1 (some 0) lU
def pR (v0:GValue):((List Str)×Int)->Unit->LC ((List Str)×Int) Unit aWB
 | (a,b),j =>
 cCnd (decide (b<(ln kA v0.l)))
  (cCnd (v0.kind==6)
  (cOp (oNth kA v0.l b) fun c =>
  cOp (aMN c a) fun d =>
  bH (d,(IntKind.wrap .i64 (b+1))) ())
  (aP (lE a b)))
  (aP (lE a b))
def iE (v0:GValue) (z:((List Str)×Int)):Option (((List Str)×Int)⊕((List Str))):=(pR v0 z default).x
abbrev aWC:=ex1 (some 2) lU
def pT (v0:GValue):((List Str)×Int)->Unit->LC ((List Str)×Int) Unit aWC
 | (a,b),j =>
 cCnd (decide (b<(ln aT v0.m)))
  (cCnd (v0.kind==7)
  (cOp (oNth aT v0.m b) fun c =>
  cOp (aMN c.v a) fun d =>
  bH (d,(IntKind.wrap .i64 (b+1))) ())
  (aP (lE a b)))
  (aP (lE a b))
def iF (v0:GValue) (z:((List Str)×Int)):Option (((List Str)×Int)⊕((List Str))):=(pT v0 z default).x
def aNk (v0:GValue) (out0:List Str):bE8 :=
 cCnd (v0.kind==8)
 (cOp (xP out0 v0.s) fun h =>
 cCnd (!h)
 (cOp (aDp kStr out0 [v0.s] (o:=true)) fun g =>
 cB iD ([(zp PV.str g),(.ptr 0 2 0),(i6 0)]++rK v0) [] (iE v0) (pR v0) (g,0) () <|
 kOne fun a _ =>
 cB iD ([(zp PV.str a),(.ptr 0 2 0),(i6 0)]++rK v0) [] (iF v0) (pT v0) (a,0) () <|
 kOne fun d _ =>
 cR d)
 (cB iD ([(zp PV.str out0),(.ptr 0 2 0),(i6 0)]++rK v0) [] (iE v0) (pR v0) (out0,0) () <|
 kOne fun b _ =>
 cB iD ([(zp PV.str b),(.ptr 0 2 0),(i6 0)]++rK v0) [] (iF v0) (pT v0) (b,0) () <|
 kOne fun e _ =>
 cR e))
 (cB iD ([(zp PV.str out0),(.ptr 0 2 0),(i6 0)]++rK v0) [] (iE v0) (pR v0) (out0,0) () <|
 kOne fun c _ =>
 cB iD ([(zp PV.str c),(.ptr 0 2 0),(i6 0)]++rK v0) [] (iF v0) (pT v0) (c,0) () <|
 kOne fun f _ =>
 cR f)
def bCS (v0:GValue) (out0:List Str):Option (List Str):=(aNk v0 out0).x
theorem aWD {v0 out0 r} (h:(aNk v0 out0).x=some r):aWf v0 out0=some r:=kV (ds:=⟨[(14,(.v aA)),(21,(dL kStr)),(37,(dR kA)),(40,(.v bS)),(56,(dR aT)),(60,(.v bS))],[(4,[(2,5)],⟨iD,[(some 0,⟨lU⟩)]⟩),(8,[(2,5)],⟨iD,[(some 2,⟨lU⟩)]⟩),(4,[(2,5)],⟨iD,[(some 0,⟨lU⟩)]⟩),(8,[(2,5)],⟨iD,[(some 2,⟨lU⟩)]⟩),(4,[(2,5)],⟨iD,[(some 0,⟨lU⟩)]⟩),(8,[(2,5)],⟨iD,[(some 2,⟨lU⟩)]⟩)]⟩) h (aG zM) Tryz.func164 (fun _=>by kernel_rfl)
abbrev uR:=Co fun (r:Int×Int) (w:PV×UP)=>w=(kO r,[])
def nG (s:Str) (c:Int) (b:Int):Int->uR
 | a =>
 cOp (aCA s a) fun d =>
 cCnd (decide (d>0))
  (cOp (aCA s a) fun e =>
  cR ((IntKind.wrap .i64 (a+e)),4))
  (cR (c,b))
def nH (s:Str) (c:Int) (b:Int):Int->uR
 | a =>
 cOp (aCA s a) fun d =>
 cCnd (decide (d>0))
  (cOp (aCA s a) fun e =>
  cR ((IntKind.wrap .i64 (a+e)),4))
  (cR (c,b))
def nI (s : Str) : (Int × Int) -> uR
 | (a, b) =>
 cCnd (decide (a < (List.length s : Int)))
  (cOp (oChr s a) fun c =>
  cCnd ((c.toNat : Int) == 101)
  (cCnd (decide ((IntKind.wrap .i64 (a + 1)) < (List.length s : Int)))
   (cOp (oChr s (IntKind.wrap .i64 (a + 1))) fun d =>
   cCnd ((d.toNat : Int) == 43)
   (nG s a b (IntKind.wrap .i64 ((IntKind.wrap .i64 (a + 1)) + 1)))
   (cOp (oChr s (IntKind.wrap .i64 (a + 1))) fun e =>
   cCnd ((e.toNat : Int) == 45)
    (nG s a b (IntKind.wrap .i64 ((IntKind.wrap .i64 (a + 1)) + 1)))
    (nG s a b (IntKind.wrap .i64 (a + 1)))))
   (nG s a b (IntKind.wrap .i64 (a + 1))))
  (cOp (oChr s a) fun f =>
  cCnd ((f.toNat : Int) == 69)
   (cCnd (decide ((IntKind.wrap .i64 (a + 1)) < (List.length s : Int)))
   (cOp (oChr s (IntKind.wrap .i64 (a + 1))) fun g =>
   cCnd ((g.toNat : Int) == 43)
    (nH s a b (IntKind.wrap .i64 ((IntKind.wrap .i64 (a + 1)) + 1)))
    (cOp (oChr s (IntKind.wrap .i64 (a + 1))) fun h =>
    cCnd ((h.toNat : Int) == 45)
    (nH s a b (IntKind.wrap .i64 ((IntKind.wrap .i64 (a + 1)) + 1)))
    (nH s a b (IntKind.wrap .i64 (a + 1)))))
   (nH s a b (IntKind.wrap .i64 (a + 1))))
   (cR (a, b))))
  (cR (a, b))
def vJ (s:Str) (b:Int):Int->uR
 | a =>
 cCnd (decide ((IntKind.wrap .i64 (b+a))<(List.length s:Int)))
  (cOp (oChr s (IntKind.wrap .i64 (b+a))) fun c =>
  cCnd ((c.toNat:Int)==46)
  (cOp (aCA s (IntKind.wrap .i64 ((IntKind.wrap .i64 (b+a))+1))) fun d =>
  cCnd (decide (d>0))
   (cOp (aCA s (IntKind.wrap .i64 ((IntKind.wrap .i64 (b+a))+1))) fun e =>
   nI s ((IntKind.wrap .i64 ((IntKind.wrap .i64 ((IntKind.wrap .i64 (b+a))+1))+e)),4))
   (nI s ((IntKind.wrap .i64 (b+a)),3)))
  (nI s ((IntKind.wrap .i64 (b+a)),3)))
  (nI s ((IntKind.wrap .i64 (b+a)),3))
def xY (s:Str):Int->uR
 | a =>
 cOp (aCA s a) fun b =>
 cCnd (b==0)
  (cR (0,0))
  (cOp (oChr s a) fun c =>
  cCnd ((c.toNat:Int)==48)
  (vJ s a 1)
  (vJ s a b))
def aKq (s:Str):uR :=
 cCnd (decide ((0:Int)<(List.length s:Int)))
 (cOp (oChr s 0) fun a =>
 cCnd ((a.toNat:Int)==45)
 (xY s 1)
 (xY s 0))
 (xY s 0)
def aKr (s:Str):Option (Int×Int):=(aKq s).x
theorem aOw {s r} (h:(aKq s).x=some r):aPt s=some r:=kV (ds:=⟨[(15,dC),(22,(.v bE)),(27,dC),(39,dC),(46,(.v bE)),(54,(.v bE)),(63,dC),(68,dC),(81,dC),(86,dC),(94,(.v bE)),(99,(.v bE))],[]⟩) h (aG aKg) Tryz.func180 (fun _=>by kernel_rfl)
abbrev bCT:=Co fun (r:(List Int)×Bool) (w:PV×UP)=>w=(aBO r,[])
def aKs (t:((List Int)×Int)×Unit):=(pu (pu L 3 (zp (PV.int .i64) t.1.1)) 4 (i6 t.1.2),U)
def aIh (t:Unit×((List Int)×Int)):=(pu (pu L 3 (zp (PV.int .i64) t.2.1)) 4 (i6 t.2.2),U)
def aIi (t:((List Int))×Int):=(pu (pu L 3 (zp (PV.int .i64) t.1)) 4 (i6 t.2),U)
abbrev aTK:=ex2 (some 0) aIi (ex1 none aIh)
def aNl (s:Str):((List Int)×Int)->Unit->LC ((List Int)×Int) Unit aTK
 | (a,b),j =>
 cCnd (decide (b<(List.length s:Int)))
  (cOp (bCJ s b) fun c =>
  cCnd (c.2==0)
  (aP (lR (lE () (a,b))))
  (cOp (aDp kI a [c.1] (o:=true)) fun d =>
  bH (d,(IntKind.wrap .i64 (b+c.2))) ()))
  (aP (lL a b))
def aTL (s:Str) (z:((List Int)×Int)):Option (((List Int)×Int)⊕((List Int)⊕Unit)):=(aNl s z default).x
def aPG (s:Str):bCT :=
 cB aKs [(.str s),(.slice [] [] true),(.bool false),(.slice [] [] true),(i6 0)] [] (aTL s) (aNl s) ([],0) () <|
 fX (fun a _ =>
 cR (a,true)) <| kOne fun b _ =>
 cR (([]:List Int),false)
def aZ5 (s:Str):Option ((List Int)×Bool):=(aPG s).x
theorem aTM {s r} (h:(aPG s).x=some r):aYt s=some r:=kV (ds:=⟨[(15,(.v kO)),(23,(dL kI))],[(3,[],⟨aKs,[(some 0,⟨aIi⟩),(none,⟨aIh⟩)]⟩)]⟩) h (aG aZS) Tryz.func181 (fun _=>by kernel_rfl)
abbrev aJD (typ:Str) (l0:List GSel) (u0_0:List GDef) (u0_00 u0_000:Str) (u0_0000:Int) (u0_1:List (Str×(List GMergeItem))) (u0_2 u0_3:List ((Int×Int)×Bool)):=Co fun (r:(List GMergeItem)×Int) (w:PV×UP)=>w=(cH r,(dO typ l0 u0_0 u0_00 u0_000 u0_0000 u0_1 u0_2 u0_3 r))
def xD (t:((List GMergeItem)×Int×Int)×Unit):=(pu (pu L 2 (zp aD t.1.1)) 5 (i6 t.1.2.1),puU U 0 0 3 (i6 t.1.2.2))
def wC (t:((List GMergeItem)×Int)×Int):=(pu (pu L 2 (zp aD t.1.1)) 5 (i6 t.2),puU U 0 0 3 (i6 t.1.2))
abbrev aFP:=ex1 (some 0) wC
def mI (typ:Str) (l0:List GSel) (d:List GDef) (b a:Str) (i:List (Str×(List GMergeItem))) (k l:List ((Int×Int)×Bool)):((List GMergeItem)×Int×Int)->Unit->LC ((List GMergeItem)×Int×Int) Unit aFP
 | (f,e,c),j =>
 cCnd (decide (e<(ln kSel l0)))
  (cOp (oNth kSel l0 e) fun g =>
  cOp (aWc (GSchema.mk d b a) typ g) fun m =>
  cOp (oOne O 23 [(.ptr 1 0 0),(.str m),(zq aH g.sels)] [(0,[(zq bN d),(.str b),(.str a),(i6 (IntKind.wrap .i64 (c+1))),(.mp 0 1),(.mp 0 2),(.mp 0 3)]),(1,[(.mpv 0 (List.map (cC PV.str (cX aD)) i))]),(2,[(zm k)]),(3,[(zm l)])] 0 3 1 cH (fun ra=>[(i6 ra.2)]) (iA m g.sels d b a (IntKind.wrap .i64 (c+1)) i k l) (fun ra=>dO m g.sels d b a (IntKind.wrap .i64 (c+1)) i k l ra) (by exact fun _ h=>oN h)) fun n =>
  cOp (aDp aU f [(GMergeItem.mk (IntKind.wrap .i64 (c+1)) g typ n.1)] (o:=true)) fun p =>
  bH (p,(IntKind.wrap .i64 (e+1)),n.2) ())
  (aP (lE (f,c) e))
def fO (typ:Str) (l0:List GSel) (c:List GDef) (b a:Str) (d:List (Str×(List GMergeItem))) (e f:List ((Int×Int)×Bool)) (z:((List GMergeItem)×Int×Int)):Option (((List GMergeItem)×Int×Int)⊕(((List GMergeItem)×Int))):=(mI typ l0 c b a d e f z default).x
def nS (typ:Str) (l0:List GSel) (d:List GDef) (c a:Str) (b:Int) (e:List (Str×(List GMergeItem))) (f g:List ((Int×Int)×Bool)):aJD typ l0 d c a b e f g :=
 cB xD [(.ptr 1 0 0),(.str typ),(.slice [] [] true),(zq aH l0),(i6 (ln kSel l0)),(i6 0)] [[(0,[(zq bN d),(.str c),(.str a),(i6 b),(.mp 0 1),(.mp 0 2),(.mp 0 3)]),(1,[(.mpv 0 (List.map (cC PV.str (cX aD)) e))]),(2,[(zm f)]),(3,[(zm g)])]] (fO typ l0 d c a e f g) (mI typ l0 d c a e f g) ([],0,b) () <|
 kOne fun h _ =>
 cR (h.1,h.2)
def aIj (typ:Str) (l0:List GSel) (d:List GDef) (c b:Str) (a:Int) (e:List (Str×(List GMergeItem))) (f g:List ((Int×Int)×Bool)):Option ((List GMergeItem)×Int):=(nS typ l0 d c b a e f g).x
theorem xE {typ l0 d c b a e f g r} (h:(nS typ l0 d c b a e f g).x=some r):iA typ l0 d c b a e f g=some r:=kV (ds:=⟨[(15,(dR kSel)),(39,(.v aF)),(42,(.o cH fun ra=>[(i6 ra.2)])),(45,(dL aU))],[(3,[],⟨xD,[(some 0,⟨wC⟩)]⟩)]⟩) h (fun ra rb h=>aHV typ l0 d c b a e f g ra rb h) Tryz.func23 (fun _=>by kernel_rfl)
abbrev aK9 (l0:List GMergeItem) (u0_0:List GDef) (u0_00 u0_000:Str) (u0_0000:Int) (u0_1:List (Str×(List GMergeItem))) (u0_2 u0_3:List ((Int×Int)×Bool)) (u0_4:List (Str×Bool)):=Co fun (r:(List GMergeItem)×(List (Str×Bool))) (w:PV×UP)=>w=(bW r,(dI l0 u0_0 u0_00 u0_000 u0_0000 u0_1 u0_2 u0_3 u0_4 r))
def zY (t:((List GMergeItem)×Int×(List (Str×Bool)))×Unit):=(pu (pu L 2 (zp aD t.1.1)) 5 (i6 t.1.2.1),puU U 0 4 0 (.mpv 0 (List.map (cC PV.str PV.bool) t.1.2.2)))
def xF (t:((List GMergeItem)×(List (Str×Bool)))×Int):=(pu (pu L 2 (zp aD t.1.1)) 5 (i6 t.2),puU U 0 4 0 (.mpv 0 (List.map (cC PV.str PV.bool) t.1.2)))
abbrev aG4:=ex1 (some 0) xF
def eO (l0 : List GMergeItem) (k : List GDef) (f b : Str) (a : Int) (i : List (Str × (List GMergeItem))) (l m : List ((Int × Int) × Bool)) : ((List GMergeItem) × Int × (List (Str × Bool))) -> Unit -> LC ((List GMergeItem) × Int × (List (Str × Bool))) Unit aG4
 | (c, e, d), j =>
 cCnd (decide (e < (ln aU l0)))
  (cOp (oNth aU l0 e) fun g =>
  cCnd (g.x.kind == 0)
  (cOp (aDp aU c [g] (o := true)) fun s =>
  bH (s, (IntKind.wrap .i64 (e + 1)), d) ())
  (cCnd (g.x.kind == 2)
   (cOp (oOne O 69 [(.ptr 1 0 0), (zq aD g.sub), (.mp 1 4)] [(0, [(zq bN k), (.str f), (.str b), (i6 a), (.mp 0 1), (.mp 0 2), (.mp 0 3)]), (1, [(.mpv 0 (List.map (cC PV.str (cX aD)) i))]), (2, [(zm l)]), (3, [(zm m)]), (4, [(.mpv 0 (List.map (cC PV.str PV.bool) d))])] 4 0 1 bW (fun ra => [(.mpv 0 (List.map (cC PV.str PV.bool) ra.2))]) (gO g.sub k f b a i l m d) (fun ra => dI g.sub k f b a i l m d ra) (by exact fun _ h => kS h)) fun q =>
   cOp (oApp aU c q.1) fun t =>
   bH (t, (IntKind.wrap .i64 (e + 1)), q.2) ())
   (cCnd (g.x.kind != 1)
   (bH (c, (IntKind.wrap .i64 (e + 1)), d) ())
   (cOp (bBM (kmS kB) g.x.name (false : Bool) d (.bool false)) fun u =>
   cCnd u
    (bH (c, (IntKind.wrap .i64 (e + 1)), d) ())
    (cOp (oPut (kmS kB) g.x.name true d (.bool true)) fun n =>
    cOp (bBM (kmS (kSl aD)) g.x.name ([] : List GMergeItem) i (.slice [] [] true)) fun p =>
    cOp (oOne O 69 [(.ptr 1 0 0), (zq aD p), (.mp 1 4)] [(0, [(zq bN k), (.str f), (.str b), (i6 a), (.mp 0 1), (.mp 0 2), (.mp 0 3)]), (1, [(.mpv 0 (List.map (cC PV.str (cX aD)) i))]), (2, [(zm l)]), (3, [(zm m)]), (4, [(.mpv 0 (List.map (cC PV.str PV.bool) n))])] 4 0 1 bW (fun ra => [(.mpv 0 (List.map (cC PV.str PV.bool) ra.2))]) (gO p k f b a i l m n) (fun ra => dI p k f b a i l m n ra) (by exact fun _ h => kS h)) fun r =>
    cOp (oApp aU c r.1) fun v =>
    bH (v, (IntKind.wrap .i64 (e + 1)), r.2) ())))))
  (aP (lE (c, d) e))
def cL (l0:List GMergeItem) (d:List GDef) (c b:Str) (a:Int) (e:List (Str×(List GMergeItem))) (f g:List ((Int×Int)×Bool)) (z:((List GMergeItem)×Int×(List (Str×Bool)))):Option (((List GMergeItem)×Int×(List (Str×Bool)))⊕(((List GMergeItem)×(List (Str×Bool))))):=(eO l0 d c b a e f g z default).x
def pU (l0:List GMergeItem) (d:List GDef) (c b:Str) (a:Int) (e:List (Str×(List GMergeItem))) (f g:List ((Int×Int)×Bool)) (h:List (Str×Bool)):aK9 l0 d c b a e f g h :=
 cB zY [(.ptr 1 0 0),(.mp 1 4),(.slice [] [] true),(zq aD l0),(i6 (ln aU l0)),(i6 0)] [[(0,[(zq bN d),(.str c),(.str b),(i6 a),(.mp 0 1),(.mp 0 2),(.mp 0 3)]),(1,[(.mpv 0 (List.map (cC PV.str (cX aD)) e))]),(2,[(zm f)]),(3,[(zm g)]),(4,[(.mpv 0 (List.map (cC PV.str PV.bool) h))])]] (cL l0 d c b a e f g) (eO l0 d c b a e f g) ([],0,h) () <|
 kOne fun i _ =>
 cR (i.1,i.2)
def aJE (l0:List GMergeItem) (d:List GDef) (c b:Str) (a:Int) (e:List (Str×(List GMergeItem))) (f g:List ((Int×Int)×Bool)) (h:List (Str×Bool)):Option ((List GMergeItem)×(List (Str×Bool))):=(pU l0 d c b a e f g h).x
theorem zZ {l0 d c b a e f g i r} (h:(pU l0 d c b a e f g i).x=some r):gO l0 d c b a e f g i=some r:=kV (ds:=⟨[(14,(dR aU)),(24,(dL aU)),(32,(.o bW fun ra=>[(.mpv 0 (List.map (cC PV.str PV.bool) ra.2))])),(33,(dL aU)),(43,(.v (kmS kB).eta)),(58,(.v (kmS (kSl aD)).eta)),(60,(.o bW fun ra=>[(.mpv 0 (List.map (cC PV.str PV.bool) ra.2))])),(61,(dL aU)),(1011000,(dP (kmS kB)))],[(3,[],⟨zY,[(some 0,⟨xF⟩)]⟩)]⟩) h (fun ra rb h=>aJk l0 d c b a e f g i ra rb h) Tryz.func69 (fun _=>by kernel_rfl)
abbrev aJF (a:GMergeItem) (u0_0:List GDef) (u0_00 u0_000:Str) (u0_0000:Int) (u0_1:List (Str×(List GMergeItem))) (u0_2 u0_3:List ((Int×Int)×Bool)):=Co fun (r:List GMergeItem) (w:PV×UP)=>w=(bT r,(pM a u0_0 u0_00 u0_000 u0_0000 u0_1 u0_2 u0_3 r))
def aAW (a:GMergeItem) (e:List GDef) (d c:Str) (b:Int) (f:List (Str×(List GMergeItem))) (g i:List ((Int×Int)×Bool)):aJF a e d c b f g i :=
 cOp (oOne O 69 [(.ptr 1 0 0),(zq aD a.sub),(.mp 1 4)] [(0,[(zq bN e),(.str d),(.str c),(i6 b),(.mp 0 1),(.mp 0 2),(.mp 0 3)]),(1,[(.mpv 0 (List.map (cC PV.str (cX aD)) f))]),(2,[(zm g)]),(3,[(zm i)]),(4,[(.mpv 0 [])])] 4 0 1 bW (fun ra=>[(.mpv 0 (List.map (cC PV.str PV.bool) ra.2))]) (gO a.sub e d c b f g i ([]:List (Str×Bool))) (fun ra=>dI a.sub e d c b f g i ([]:List (Str×Bool)) ra) (by exact fun _ h=>kS h)) fun j =>
 cR j.1
theorem aFQ {a f e d c g i j r} (h:(aAW a f e d c g i j).x=some r):eT a f e d c g i j=some r:=kV (ds:=⟨[(9,(.o bW fun ra=>[(.mpv 0 (List.map (cC PV.str PV.bool) ra.2))]))],[]⟩) h (fun a b h=>aHW a b (aaD h).1) Tryz.func159 (fun _=>by kernel_rfl)
abbrev aIk (a b:GMergeItem) (u0_0:List GDef) (u0_00 u0_000:Str) (u0_0000:Int) (u0_1:List (Str×(List GMergeItem))) (u0_2 u0_3:List ((Int×Int)×Bool)):=Co fun (r:Bool×(List ((Int×Int)×Bool))) (w:PV×UP)=>w=(dT r,(fG a b u0_0 u0_00 u0_000 u0_0000 u0_1 u0_2 u0_3 r))
def wD (t:(Int×(List ((Int×Int)×Bool)))×Unit):=(pu L 5 (i6 t.1.1),puU U 0 2 0 (zm t.1.2))
def jH (t:((List ((Int×Int)×Bool)))×Int):=(pu L 5 (i6 t.2),puU U 0 2 0 (zm t.1))
abbrev aEv:=ex2 (some 0) jH (ex1 none jH)
def wE (t:(Int×(List ((Int×Int)×Bool)))×Unit):=(pu L 9 (i6 t.1.1),puU U 0 2 0 (zm t.1.2))
def jI (t:((List ((Int×Int)×Bool)))×Int):=(pu L 9 (i6 t.2),puU U 0 2 0 (zm t.1))
abbrev aEw:=ex2 (some 2) jI (ex1 none jI)
def qJ (l:List GDef) (g:Str) (f:Str) (d:Int) (m:List (Str×(List GMergeItem))) (n:List ((Int×Int)×Bool)) (p:List GMergeItem) (i:GMergeItem) (a:GMergeItem) (b:GMergeItem):(Int×(List ((Int×Int)×Bool)))->Unit->LC (Int×(List ((Int×Int)×Bool))) Unit aEw
 | (c,e),j =>
 cCnd (decide (c<(ln aU p)))
  (cOp (oNth aU p c) fun k =>
  cOp (rL i.x) fun q =>
  cOp (rL k.x) fun r =>
  cCnd (!(q==r))
  (bH ((IntKind.wrap .i64 (c+1)),e) ())
  (cOp (oE O 122 [(.ptr 2 0 0),(aR i),(aR k)] [[(13,(aO k)),(11,(aO i)),(6,(aO b)),(5,(aO a))],[(0,[(zq bN l),(.str g),(.str f),(i6 d),(.mp 0 1),(.mp 0 2),(.mp 0 3)]),(1,[(.mpv 0 (List.map (cC PV.str (cX aD)) m))]),(2,[(zm e)]),(3,[(zm n)])]] bU (fun u a=>puU u 1 2 0 (zm a.2)) (eZ i k l g f d m e n) (by exact fun _ h=>xA [(1,0),(1,1),(1,2),(1,3)] (jG h) rfl rfl rfl rfl)) fun o =>
  cCnd (!o.1)
   (aP (lR (lE o.2 c)))
   (bH ((IntKind.wrap .i64 (c+1)),o.2) ())))
  (aP (lL e c))
def oR (f:List GDef) (e d:Str) (c:Int) (g:List (Str×(List GMergeItem))) (h:List ((Int×Int)×Bool)) (j:List GMergeItem) (i a b:GMergeItem) (z:(Int×(List ((Int×Int)×Bool)))):Option ((Int×(List ((Int×Int)×Bool)))⊕((List ((Int×Int)×Bool))⊕(List ((Int×Int)×Bool)))):=(qJ f e d c g h j i a b z default).x
def qK (g:List GDef) (f:Str) (e:Str) (c:Int) (h:List (Str×(List GMergeItem))) (i:List ((Int×Int)×Bool)) (l:List GMergeItem) (n:List GMergeItem) (a:GMergeItem) (b:GMergeItem):(Int×(List ((Int×Int)×Bool)))->Unit->LC (Int×(List ((Int×Int)×Bool))) Unit aEv
 | (d,k),j =>
 cCnd (decide (d<(ln aU n)))
  (cOp (oNth aU n d) fun m =>
  cB wE ([(.func (.func 122) [(.ptr 1 0 0)] []),(.bool false),(zq aD l),(.ptr 0 11 0),(zq aD n),(i6 (ln aU n)),(i6 d),(zq aD l),(i6 (ln aU l)),(i6 0)]++aO m++aO b++aO a) [[(0,[(zq bN g),(.str f),(.str e),(i6 c),(.mp 0 1),(.mp 0 2),(.mp 0 3)]),(1,[(.mpv 0 (List.map (cC PV.str (cX aD)) h))]),(2,[(zm k)]),(3,[(zm i)])]] (oR g f e c h i l m a b) (qJ g f e c h i l m a b) (0,k) () <|
  fX (fun o _ =>
  bH ((IntKind.wrap .i64 (d+1)),o) ()) <| kOne fun p _ =>
  aP (lR (lE p d)))
  (aP (lL k d))
def oT (f:List GDef) (e d:Str) (c:Int) (g:List (Str×(List GMergeItem))) (h:List ((Int×Int)×Bool)) (i j:List GMergeItem) (a b:GMergeItem) (z:(Int×(List ((Int×Int)×Bool)))):Option ((Int×(List ((Int×Int)×Bool)))⊕((List ((Int×Int)×Bool))⊕(List ((Int×Int)×Bool)))):=(qK f e d c g h i j a b z default).x
def mJ (a b:GMergeItem) (f:List GDef) (e d:Str) (c:Int) (g:List (Str×(List GMergeItem))) (j i:List ((Int×Int)×Bool)):aIk a b f e d c g j i :=
 cOp (oE O 159 [(.ptr 2 0 0),(aR b)] [[(6,(aO b)),(5,(aO a))],[(0,[(zq bN f),(.str e),(.str d),(i6 c),(.mp 0 1),(.mp 0 2),(.mp 0 3)]),(1,[(.mpv 0 (List.map (cC PV.str (cX aD)) g))]),(2,[(zm j)]),(3,[(zm i)])]] bT (fun u a=>u) (eT b f e d c g j i) (by exact fun _ h=>xA [(1,0),(1,1),(1,2),(1,3)] (kE h) rfl rfl rfl rfl)) fun l =>
 cOp (oE O 159 [(.ptr 2 0 0),(aR a)] [[(6,(aO b)),(5,(aO a))],[(0,[(zq bN f),(.str e),(.str d),(i6 c),(.mp 0 1),(.mp 0 2),(.mp 0 3)]),(1,[(.mpv 0 (List.map (cC PV.str (cX aD)) g))]),(2,[(zm j)]),(3,[(zm i)])]] bT (fun u a=>u) (eT a f e d c g j i) (by exact fun _ h=>xA [(1,0),(1,1),(1,2),(1,3)] (kE h) rfl rfl rfl rfl)) fun k =>
 cB wD ([(.func (.func 122) [(.ptr 1 0 0)] []),(.bool false),(zq aD l),(zq aD k),(i6 (ln aU k)),(i6 0)]++aO b++aO a) [[(0,[(zq bN f),(.str e),(.str d),(i6 c),(.mp 0 1),(.mp 0 2),(.mp 0 3)]),(1,[(.mpv 0 (List.map (cC PV.str (cX aD)) g))]),(2,[(zm j)]),(3,[(zm i)])]] (oT f e d c g i l k a b) (qK f e d c g i l k a b) (0,j) () <|
 fX (fun m _ =>
  cR (true,m)) <| kOne fun n _ =>
  cR (false,n)
def aAa (a b:GMergeItem) (f:List GDef) (e d:Str) (c:Int) (g:List (Str×(List GMergeItem))) (h i:List ((Int×Int)×Bool)):Option (Bool×(List ((Int×Int)×Bool))):=(mJ a b f e d c g h i).x
theorem wF {a b f e d c g i j r} (h:(mJ a b f e d c g i j).x=some r):pN a b f e d c g i j=some r:=kV (ds:=⟨[(16,(.u bT fun u a=>u)),(19,(.u bT fun u a=>u)),(23,(dR aU)),(29,(dR aU)),(33,(.v aF)),(36,(.v aF)),(41,(.u bU fun u a=>puU u 1 2 0 (zm a.2)))],[(6,[(11,10),(6,10),(5,10)],⟨wE,[(some 2,⟨jI⟩),(none,⟨jI⟩)]⟩),(3,[(6,10),(5,10)],⟨wD,[(some 0,⟨jH⟩),(none,⟨jH⟩)]⟩)]⟩) h (fun ra rb h=>aGR a b f e d c g i j ra rb h) Tryz.func124 (fun _=>by kernel_rfl)
variable (L : List PV) (U : UP)
abbrev aIl (a b:GMergeItem) (u0_0:List GDef) (u0_00 u0_000:Str) (u0_0000:Int) (u0_1:List (Str×(List GMergeItem))) (u0_2 u0_3:List ((Int×Int)×Bool)):=Co fun (r:Bool×(List ((Int×Int)×Bool))) (w:PV×UP)=>w=(bU r,(fH a b u0_0 u0_00 u0_000 u0_0000 u0_1 u0_2 u0_3 r))
def jD (a b:GMergeItem) (e:List GDef) (d c:Str) (f:Int) (i:List (Str×(List GMergeItem))) (g j:List ((Int×Int)×Bool)):aIl a b e d c f i g j :=
 cOp (bHA (kmII kB) (a.no,b.no) (false:Bool) g (.bool false)) fun l =>
 cCnd l.2
  (cR (l.1,g))
  (cOp (aJi (GSchema.mk e d c) a.typ a.x.name) fun m =>
  cOp (aJi (GSchema.mk e d c) b.typ b.x.name) fun n =>
  cOp (aQ0 (GSchema.mk e d c) m.1.t n.1.t) fun q =>
  cCnd q
  (cOp (oE O 124 [(.ptr 2 0 0),(aR a),(aR b),(.func (.func 122) [(.ptr 2 0 0)] [])] [[(12,(uM n.1)),(10,(uM m.1)),(7,[(i6 a.no),(i6 b.no)]),(5,(aO b)),(4,(aO a))],[(0,[(zq bN e),(.str d),(.str c),(i6 f),(.mp 0 1),(.mp 0 2),(.mp 0 3)]),(1,[(.mpv 0 (List.map (cC PV.str (cX aD)) i))]),(2,[(zm g)]),(3,[(zm j)])]] dT (fun u a=>puU u 1 2 0 (zm a.2)) (pN a b e d c f i g j) (by exact fun _ h=>xA [(1,0),(1,1),(1,2),(1,3)] (aDs h) rfl rfl rfl rfl)) fun k =>
  cOp (oPut (kmII kB) (a.no,b.no) k.1 k.2 (.bool k.1)) fun o =>
  cR (k.1,o))
  (cOp (oPut (kmII kB) (a.no,b.no) false g (.bool false)) fun p =>
  cR (false,p)))
def aAb (a b:GMergeItem) (f:List GDef) (e d:Str) (c:Int) (g:List (Str×(List GMergeItem))) (h i:List ((Int×Int)×Bool)):Option (Bool×(List ((Int×Int)×Bool))):=(jD a b f e d c g h i).x
theorem oU {a b f e d c g i j r} (h:(jD a b f e d c g i j).x=some r):eZ a b f e d c g i j=some r:=kV (ds:=⟨[(26,(dM (kmII kB))),(41,(.v iK)),(54,(.v iK)),(65,(.v aA)),(72,(.u dT fun u a=>puU u 1 2 0 (zm a.2))),(1008000,(dP (kmII kB)))],[]⟩) h (fun ra rb h=>aGS a b f e d c g i j ra rb h) Tryz.func122 (fun _=>by kernel_rfl)
abbrev aEx (a b:GMergeItem) (u0_0:List GDef) (u0_00 u0_000:Str) (u0_0000:Int) (u0_1:List (Str×(List GMergeItem))) (u0_2 u0_3:List ((Int×Int)×Bool)):=Co fun (r:Bool×(List ((Int×Int)×Bool))×(List ((Int×Int)×Bool))) (w:PV×UP)=>w=(bP r,(eC a b u0_0 u0_00 u0_000 u0_0000 u0_1 u0_2 u0_3 r))
def sG (t:(Int×(List ((Int×Int)×Bool))×(List ((Int×Int)×Bool)))×Unit):=(pu L 5 (i6 t.1.1),puU (puU U 0 2 0 (zm t.1.2.1)) 0 3 0 (zm t.1.2.2))
def gI (t:((List ((Int×Int)×Bool))×(List ((Int×Int)×Bool)))×Int):=(pu L 5 (i6 t.2),puU (puU U 0 2 0 (zm t.1.1)) 0 3 0 (zm t.1.2))
abbrev aBX:=ex2 (some 0) gI (ex1 none gI)
def sH (t:(Int×(List ((Int×Int)×Bool))×(List ((Int×Int)×Bool)))×Unit):=(pu L 9 (i6 t.1.1),puU (puU U 0 2 0 (zm t.1.2.1)) 0 3 0 (zm t.1.2.2))
def gJ (t:((List ((Int×Int)×Bool))×(List ((Int×Int)×Bool)))×Int):=(pu L 9 (i6 t.2),puU (puU U 0 2 0 (zm t.1.1)) 0 3 0 (zm t.1.2))
abbrev aBY:=ex2 (some 2) gJ (ex1 none gJ)
def mK (n:List GDef) (k:Str) (g:Str) (d:Int) (o:List (Str×(List GMergeItem))) (p:List GMergeItem) (l:GMergeItem) (a:GMergeItem) (b:GMergeItem):(Int×(List ((Int×Int)×Bool))×(List ((Int×Int)×Bool)))->Unit->LC (Int×(List ((Int×Int)×Bool))×(List ((Int×Int)×Bool))) Unit aBY
 | (c,e,f),j =>
 cCnd (decide (c<(ln aU p)))
  (cOp (oNth aU p c) fun m =>
  cOp (rL l.x) fun q =>
  cOp (rL m.x) fun r =>
  cCnd (!(q==r))
  (bH ((IntKind.wrap .i64 (c+1)),e,f) ())
  (cOp (oE O 70 [(.ptr 2 0 0),(aR l),(aR m)] [[(13,(aO m)),(11,(aO l)),(6,(aO b)),(5,(aO a))],[(0,[(zq bN n),(.str k),(.str g),(i6 d),(.mp 0 1),(.mp 0 2),(.mp 0 3)]),(1,[(.mpv 0 (List.map (cC PV.str (cX aD)) o))]),(2,[(zm e)]),(3,[(zm f)])]] bZ (fun u a=>puU (puU u 1 2 0 (zm a.2.1)) 1 3 0 (zm a.2.2)) (eW l m n k g d o e f) (by exact fun _ h=>xA [(1,0),(1,1),(1,2),(1,3)] (sB h) rfl rfl rfl rfl)) fun i =>
  cCnd (!i.1)
   (aP (lR (lE (i.2.1,i.2.2) c)))
   (bH ((IntKind.wrap .i64 (c+1)),i.2.1,i.2.2) ())))
  (aP (lL (e,f) c))
def lI (f:List GDef) (e d:Str) (c:Int) (g:List (Str×(List GMergeItem))) (i:List GMergeItem) (h a b:GMergeItem) (z:(Int×(List ((Int×Int)×Bool))×(List ((Int×Int)×Bool)))):Option ((Int×(List ((Int×Int)×Bool))×(List ((Int×Int)×Bool)))⊕(((List ((Int×Int)×Bool))×(List ((Int×Int)×Bool)))⊕((List ((Int×Int)×Bool))×(List ((Int×Int)×Bool))))):=(mK f e d c g i h a b z default).x
def mL (h:List GDef) (f:Str) (e:Str) (c:Int) (i:List (Str×(List GMergeItem))) (m:List GMergeItem) (o:List GMergeItem) (a:GMergeItem) (b:GMergeItem):(Int×(List ((Int×Int)×Bool))×(List ((Int×Int)×Bool)))->Unit->LC (Int×(List ((Int×Int)×Bool))×(List ((Int×Int)×Bool))) Unit aBX
 | (d,k,l),j =>
 cCnd (decide (d<(ln aU o)))
  (cOp (oNth aU o d) fun n =>
  cB sH ([(.func (.func 70) [(.ptr 1 0 0)] []),(.bool false),(zq aD m),(.ptr 0 11 0),(zq aD o),(i6 (ln aU o)),(i6 d),(zq aD m),(i6 (ln aU m)),(i6 0)]++aO n++aO b++aO a) [[(0,[(zq bN h),(.str f),(.str e),(i6 c),(.mp 0 1),(.mp 0 2),(.mp 0 3)]),(1,[(.mpv 0 (List.map (cC PV.str (cX aD)) i))]),(2,[(zm k)]),(3,[(zm l)])]] (lI h f e c i m n a b) (mK h f e c i m n a b) (0,k,l) () <|
  fX (fun g _ =>
  bH ((IntKind.wrap .i64 (d+1)),g.1,g.2) ()) <| kOne fun g _ =>
  aP (lR (lE (g.1,g.2) d)))
  (aP (lL (k,l) d))
def lJ (f:List GDef) (e d:Str) (c:Int) (g:List (Str×(List GMergeItem))) (h i:List GMergeItem) (a b:GMergeItem) (z:(Int×(List ((Int×Int)×Bool))×(List ((Int×Int)×Bool)))):Option ((Int×(List ((Int×Int)×Bool))×(List ((Int×Int)×Bool)))⊕(((List ((Int×Int)×Bool))×(List ((Int×Int)×Bool)))⊕((List ((Int×Int)×Bool))×(List ((Int×Int)×Bool))))):=(mL f e d c g h i a b z default).x
def jJ (a b:GMergeItem) (f:List GDef) (e d:Str) (c:Int) (g:List (Str×(List GMergeItem))) (i j:List ((Int×Int)×Bool)):aEx a b f e d c g i j :=
 cOp (oE O 159 [(.ptr 2 0 0),(aR b)] [[(6,(aO b)),(5,(aO a))],[(0,[(zq bN f),(.str e),(.str d),(i6 c),(.mp 0 1),(.mp 0 2),(.mp 0 3)]),(1,[(.mpv 0 (List.map (cC PV.str (cX aD)) g))]),(2,[(zm i)]),(3,[(zm j)])]] bT (fun u a=>u) (eT b f e d c g i j) (by exact fun _ h=>xA [(1,0),(1,1),(1,2),(1,3)] (kE h) rfl rfl rfl rfl)) fun m =>
 cOp (oE O 159 [(.ptr 2 0 0),(aR a)] [[(6,(aO b)),(5,(aO a))],[(0,[(zq bN f),(.str e),(.str d),(i6 c),(.mp 0 1),(.mp 0 2),(.mp 0 3)]),(1,[(.mpv 0 (List.map (cC PV.str (cX aD)) g))]),(2,[(zm i)]),(3,[(zm j)])]] bT (fun u a=>u) (eT a f e d c g i j) (by exact fun _ h=>xA [(1,0),(1,1),(1,2),(1,3)] (kE h) rfl rfl rfl rfl)) fun l =>
 cB sG ([(.func (.func 70) [(.ptr 1 0 0)] []),(.bool false),(zq aD m),(zq aD l),(i6 (ln aU l)),(i6 0)]++aO b++aO a) [[(0,[(zq bN f),(.str e),(.str d),(i6 c),(.mp 0 1),(.mp 0 2),(.mp 0 3)]),(1,[(.mpv 0 (List.map (cC PV.str (cX aD)) g))]),(2,[(zm i)]),(3,[(zm j)])]] (lJ f e d c g m l a b) (mL f e d c g m l a b) (0,i,j) () <|
 fX (fun k _ =>
  cR (true,k.1,k.2)) <| kOne fun k _ =>
  cR (false,k.1,k.2)
def tZ (a b:GMergeItem) (f:List GDef) (e d:Str) (c:Int) (g:List (Str×(List GMergeItem))) (h i:List ((Int×Int)×Bool)):Option (Bool×(List ((Int×Int)×Bool))×(List ((Int×Int)×Bool))):=(jJ a b f e d c g h i).x
theorem sI {a b f e d c g i j r} (h:(jJ a b f e d c g i j).x=some r):fN a b f e d c g i j=some r:=kV (ds:=⟨[(16,(.u bT fun u a=>u)),(19,(.u bT fun u a=>u)),(23,(dR aU)),(29,(dR aU)),(33,(.v aF)),(36,(.v aF)),(41,(.u bZ fun u a=>puU (puU u 1 2 0 (zm a.2.1)) 1 3 0 (zm a.2.2)))],[(6,[(11,10),(6,10),(5,10)],⟨sH,[(some 2,⟨gJ⟩),(none,⟨gJ⟩)]⟩),(3,[(6,10),(5,10)],⟨sG,[(some 0,⟨gI⟩),(none,⟨gI⟩)]⟩)]⟩) h (fun ra rb h=>aDt a b f e d c g i j ra rb h) Tryz.func124 (fun _=>by kernel_rfl)
abbrev aFR (a b:GMergeItem) (u0_0:List GDef) (u0_00 u0_000:Str) (u0_0000:Int) (u0_1:List (Str×(List GMergeItem))) (u0_2 u0_3:List ((Int×Int)×Bool)):=Co fun (r:Bool×(List ((Int×Int)×Bool))×(List ((Int×Int)×Bool))) (w:PV×UP)=>w=(bZ r,(eL a b u0_0 u0_00 u0_000 u0_0000 u0_1 u0_2 u0_3 r))
def dD (a b : GMergeItem) (g : List GDef) (f e : Str) (d : Int) (i : List (Str × (List GMergeItem))) (j c : List ((Int × Int) × Bool)) : aFR a b g f e d i j c :=
 cOp (bHA (kmII kB) (a.no, b.no) (false : Bool) c (.bool false)) fun q =>
 cCnd q.2
  (cR (q.1, j, c))
  (cCnd (!(a.typ == b.typ))
  (cOp (aHU (GSchema.mk g f e) a.typ [1]) fun J =>
  cCnd J
   (cOp (aHU (GSchema.mk g f e) b.typ [1]) fun K =>
   cOp (oE O 122 [(.ptr 2 0 0), (aR a), (aR b)] [[(7, [(i6 a.no), (i6 b.no)]), (5, (aO b)), (4, (aO a))], [(0, [(zq bN g), (.str f), (.str e), (i6 d), (.mp 0 1), (.mp 0 2), (.mp 0 3)]), (1, [(.mpv 0 (List.map (cC PV.str (cX aD)) i))]), (2, [(zm j)]), (3, [(zm c)])]] bU (fun u a => puU u 1 2 0 (zm a.2)) (eZ a b g f e d i j c) (by exact fun _ h => xA [(1, 0), (1, 1), (1, 2), (1, 3)] (jG h) rfl rfl rfl rfl)) fun p =>
   cCnd p.1
   (cCnd K
    (cOp (oPut (kmII kB) (a.no, b.no) true c (.bool true)) fun r =>
    cR (true, p.2, r))
    (cCnd (a.x.name == b.x.name)
    (cOp (aCu a.x.args b.x.args) fun s =>
    cCnd s
     (cOp (oE O 124 [(.ptr 2 0 0), (aR a), (aR b), (.func (.func 70) [(.ptr 2 0 0)] [])] [[(7, [(i6 a.no), (i6 b.no)]), (5, (aO b)), (4, (aO a))], [(0, [(zq bN g), (.str f), (.str e), (i6 d), (.mp 0 1), (.mp 0 2), (.mp 0 3)]), (1, [(.mpv 0 (List.map (cC PV.str (cX aD)) i))]), (2, [(zm p.2)]), (3, [(zm c)])]] bP (fun u a => puU (puU u 1 2 0 (zm a.2.1)) 1 3 0 (zm a.2.2)) (fN a b g f e d i p.2 c) (by exact fun _ h => xA [(1, 0), (1, 1), (1, 2), (1, 3)] (kP h) rfl rfl rfl rfl)) fun m =>
     cOp (oPut (kmII kB) (a.no, b.no) m.1 m.2.2 (.bool m.1)) fun t =>
     cR (m.1, m.2.1, t))
     (cOp (oPut (kmII kB) (a.no, b.no) false c (.bool false)) fun v =>
     cR (false, p.2, v)))
    (cOp (oPut (kmII kB) (a.no, b.no) false c (.bool false)) fun w =>
    cR (false, p.2, w))))
   (cOp (oPut (kmII kB) (a.no, b.no) false c (.bool false)) fun y =>
   cR (false, p.2, y)))
   (cOp (oE O 122 [(.ptr 2 0 0), (aR a), (aR b)] [[(7, [(i6 a.no), (i6 b.no)]), (5, (aO b)), (4, (aO a))], [(0, [(zq bN g), (.str f), (.str e), (i6 d), (.mp 0 1), (.mp 0 2), (.mp 0 3)]), (1, [(.mpv 0 (List.map (cC PV.str (cX aD)) i))]), (2, [(zm j)]), (3, [(zm c)])]] bU (fun u a => puU u 1 2 0 (zm a.2)) (eZ a b g f e d i j c) (by exact fun _ h => xA [(1, 0), (1, 1), (1, 2), (1, 3)] (jG h) rfl rfl rfl rfl)) fun k =>
   cCnd k.1
   (cCnd (a.x.name == b.x.name)
    (cOp (aCu a.x.args b.x.args) fun z =>
    cCnd z
    (cOp (oE O 124 [(.ptr 2 0 0), (aR a), (aR b), (.func (.func 70) [(.ptr 2 0 0)] [])] [[(7, [(i6 a.no), (i6 b.no)]), (5, (aO b)), (4, (aO a))], [(0, [(zq bN g), (.str f), (.str e), (i6 d), (.mp 0 1), (.mp 0 2), (.mp 0 3)]), (1, [(.mpv 0 (List.map (cC PV.str (cX aD)) i))]), (2, [(zm k.2)]), (3, [(zm c)])]] bP (fun u a => puU (puU u 1 2 0 (zm a.2.1)) 1 3 0 (zm a.2.2)) (fN a b g f e d i k.2 c) (by exact fun _ h => xA [(1, 0), (1, 1), (1, 2), (1, 3)] (kP h) rfl rfl rfl rfl)) fun n =>
    cOp (oPut (kmII kB) (a.no, b.no) n.1 n.2.2 (.bool n.1)) fun A =>
    cR (n.1, n.2.1, A))
    (cOp (oPut (kmII kB) (a.no, b.no) false c (.bool false)) fun B =>
    cR (false, k.2, B)))
    (cOp (oPut (kmII kB) (a.no, b.no) false c (.bool false)) fun C =>
    cR (false, k.2, C)))
   (cOp (oPut (kmII kB) (a.no, b.no) false c (.bool false)) fun D =>
   cR (false, k.2, D))))
  (cOp (oE O 122 [(.ptr 2 0 0), (aR a), (aR b)] [[(7, [(i6 a.no), (i6 b.no)]), (5, (aO b)), (4, (aO a))], [(0, [(zq bN g), (.str f), (.str e), (i6 d), (.mp 0 1), (.mp 0 2), (.mp 0 3)]), (1, [(.mpv 0 (List.map (cC PV.str (cX aD)) i))]), (2, [(zm j)]), (3, [(zm c)])]] bU (fun u a => puU u 1 2 0 (zm a.2)) (eZ a b g f e d i j c) (by exact fun _ h => xA [(1, 0), (1, 1), (1, 2), (1, 3)] (jG h) rfl rfl rfl rfl)) fun l =>
  cCnd l.1
   (cCnd (a.x.name == b.x.name)
   (cOp (aCu a.x.args b.x.args) fun E =>
   cCnd E
    (cOp (oE O 124 [(.ptr 2 0 0), (aR a), (aR b), (.func (.func 70) [(.ptr 2 0 0)] [])] [[(7, [(i6 a.no), (i6 b.no)]), (5, (aO b)), (4, (aO a))], [(0, [(zq bN g), (.str f), (.str e), (i6 d), (.mp 0 1), (.mp 0 2), (.mp 0 3)]), (1, [(.mpv 0 (List.map (cC PV.str (cX aD)) i))]), (2, [(zm l.2)]), (3, [(zm c)])]] bP (fun u a => puU (puU u 1 2 0 (zm a.2.1)) 1 3 0 (zm a.2.2)) (fN a b g f e d i l.2 c) (by exact fun _ h => xA [(1, 0), (1, 1), (1, 2), (1, 3)] (kP h) rfl rfl rfl rfl)) fun o =>
    cOp (oPut (kmII kB) (a.no, b.no) o.1 o.2.2 (.bool o.1)) fun F =>
    cR (o.1, o.2.1, F))
    (cOp (oPut (kmII kB) (a.no, b.no) false c (.bool false)) fun G =>
    cR (false, l.2, G)))
   (cOp (oPut (kmII kB) (a.no, b.no) false c (.bool false)) fun H =>
   cR (false, l.2, H)))
   (cOp (oPut (kmII kB) (a.no, b.no) false c (.bool false)) fun I =>
   cR (false, l.2, I))))
def fA (a b:GMergeItem) (f:List GDef) (e d:Str) (c:Int) (g:List (Str×(List GMergeItem))) (h i:List ((Int×Int)×Bool)):Option (Bool×(List ((Int×Int)×Bool))×(List ((Int×Int)×Bool))):=(dD a b f e d c g h i).x
theorem eI {a b f e d c g i j r} (h:(dD a b f e d c g i j).x=some r):eW a b f e d c g i j=some r:=kV (ds:=⟨[(23,(dM (kmII kB))),(41,(.v aA)),(51,(.v aA)),(56,(.u bU fun u a=>puU u 1 2 0 (zm a.2))),(74,(.v aA)),(82,(.u bP fun u a=>puU (puU u 1 2 0 (zm a.2.1)) 1 3 0 (zm a.2.2))),(1007000,(dP (kmII kB)))],[]⟩) h (fun ra rb h=>aEe a b f e d c g i j ra rb h) Tryz.func70 (fun _=>by kernel_rfl)
abbrev aLa (l0:List GMergeItem) (u0_0:List GDef) (u0_00 u0_000:Str) (u0_0000:Int) (u0_1:List (Str×(List GMergeItem))) (u0_2 u0_3:List ((Int×Int)×Bool)):=Co fun (r:Bool×(List ((Int×Int)×Bool))×(List ((Int×Int)×Bool))) (w:PV×UP)=>w=(dJ r,(iB l0 u0_0 u0_00 u0_000 u0_0000 u0_1 u0_2 u0_3 r))
def aAc (t:(Int×(List ((Int×Int)×Bool))×(List ((Int×Int)×Bool)))×Unit):=(pu L 6 (i6 t.1.1),puU (puU U 0 2 0 (zm t.1.2.1)) 0 3 0 (zm t.1.2.2))
def kY (t:((List ((Int×Int)×Bool))×(List ((Int×Int)×Bool)))×Int):=(pu L 6 (i6 t.2),puU (puU U 0 2 0 (zm t.1.1)) 0 3 0 (zm t.1.2))
abbrev aG5:=ex2 (some 0) kY (ex1 none kY)
def aAd (t:(Int×(List ((Int×Int)×Bool))×(List ((Int×Int)×Bool)))×((List GMergeItem))):=(pu L 10 (i6 t.1.1),puU (puU U 0 2 0 (zm t.1.2.1)) 0 3 0 (zm t.1.2.2))
def kZ (t:((List ((Int×Int)×Bool))×(List ((Int×Int)×Bool)))×((List GMergeItem)×Int)):=(pu L 10 (i6 t.2.2),puU (puU U 0 2 0 (zm t.1.1)) 0 3 0 (zm t.1.2))
abbrev aG6:=ex2 (some 2) kZ (ex1 none kZ)
def tK (m:List GDef) (i f:Str) (c:Int) (n:List (Str×(List GMergeItem))) (k:GMergeItem) (o:List GMergeItem) (r:(List GMergeItem)×(List (Str×Bool))):(Int×(List ((Int×Int)×Bool))×(List ((Int×Int)×Bool)))->((List GMergeItem))->LC (Int×(List ((Int×Int)×Bool))×(List ((Int×Int)×Bool))) ((List GMergeItem)) aG6
 | (b,d,e),j =>
 cCnd (decide (b<(ln aU o)))
  (cOp (oNth aU o b (bs:=List.map aD j)) fun l =>
  cOp (rL k.x) fun p =>
  cOp (rL l.x) fun q =>
  cCnd (!(p==q))
  (bH ((IntKind.wrap .i64 (b+1)),d,e) j)
  (cOp (oE O 70 [(.ptr 2 0 0),(aR l),(aR k)] [[(9,(aO l)),(7,(aO k)),(14,[(.mpv 0 (List.map (cC PV.str PV.bool) r.2))])],[(0,[(zq bN m),(.str i),(.str f),(i6 c),(.mp 0 1),(.mp 0 2),(.mp 0 3)]),(1,[(.mpv 0 (List.map (cC PV.str (cX aD)) n))]),(2,[(zm d)]),(3,[(zm e)])]] bZ (fun u a=>puU (puU u 1 2 0 (zm a.2.1)) 1 3 0 (zm a.2.2)) (eW l k m i f c n d e) (by exact fun _ h=>xA [(1,0),(1,1),(1,2),(1,3)] (sB h) rfl rfl rfl rfl)) fun g =>
  cCnd (!g.1)
   (aP (lR (lE (g.2.1,g.2.2) (j,b))))
   (bH ((IntKind.wrap .i64 (b+1)),g.2.1,g.2.2) j)))
  (aP (lL (d,e) (j,b)))
def mM (d:List GDef) (c b:Str) (a:Int) (e:List (Str×(List GMergeItem))) (f:GMergeItem) (g:List GMergeItem) (h:(List GMergeItem)×(List (Str×Bool))) (z:(Int×(List ((Int×Int)×Bool))×(List ((Int×Int)×Bool)))):Option ((Int×(List ((Int×Int)×Bool))×(List ((Int×Int)×Bool)))⊕(((List ((Int×Int)×Bool))×(List ((Int×Int)×Bool)))⊕((List ((Int×Int)×Bool))×(List ((Int×Int)×Bool))))):=(tK d c b a e f g h z default).x
def nT (g:List GDef) (d:Str) (c:Str) (b:Int) (h:List (Str×(List GMergeItem))) (e:(List GMergeItem)×(List (Str×Bool))) (l0:List GMergeItem):(Int×(List ((Int×Int)×Bool))×(List ((Int×Int)×Bool)))->Unit->LC (Int×(List ((Int×Int)×Bool))×(List ((Int×Int)×Bool))) Unit aG5
 | (a,i,k),j =>
 cCnd (decide (a<(ln aU e.1)))
  (cOp (oNth aU e.1 a) fun m =>
  cOpJ (bJm aU 9 rfl e.1 a) fun l jby44 =>
  cB aAd ([(.ptr 1 0 0),(zq aD l0),(.bool false),(zq aD e.1),(.ptr 0 7 0),(zq aD e.1),(i6 (ln aU e.1)),(i6 a),(.slice (List.map aD l) (List.map aD jby44) false),(i6 (ln aU l)),(i6 0)]++aO m++[(.mpv 0 (List.map (cC PV.str PV.bool) e.2))]) [[(0,[(zq bN g),(.str d),(.str c),(i6 b),(.mp 0 1),(.mp 0 2),(.mp 0 3)]),(1,[(.mpv 0 (List.map (cC PV.str (cX aD)) h))]),(2,[(zm i)]),(3,[(zm k)])]] (mM g d c b h m l e) (tK g d c b h m l e) (0,i,k) jby44 <|
  fX (fun f _ =>
  bH ((IntKind.wrap .i64 (a+1)),f.1,f.2) ()) <| kOne fun f _ =>
  aP (lR (lE (f.1,f.2) a)))
  (aP (lL (i,k) a))
def mN (d:List GDef) (c b:Str) (a:Int) (e:List (Str×(List GMergeItem))) (f:(List GMergeItem)×(List (Str×Bool))) (l0:List GMergeItem) (z:(Int×(List ((Int×Int)×Bool))×(List ((Int×Int)×Bool)))):Option ((Int×(List ((Int×Int)×Bool))×(List ((Int×Int)×Bool)))⊕(((List ((Int×Int)×Bool))×(List ((Int×Int)×Bool)))⊕((List ((Int×Int)×Bool))×(List ((Int×Int)×Bool))))):=(nT d c b a e f l0 z default).x
def aAe (t:(Int×(List ((Int×Int)×Bool))×(List ((Int×Int)×Bool)))×Unit):=(pu L 4 (i6 t.1.1),puU (puU U 0 2 0 (zm t.1.2.1)) 0 3 0 (zm t.1.2.2))
def lA (t:((List ((Int×Int)×Bool))×(List ((Int×Int)×Bool)))×Int):=(pu L 4 (i6 t.2),puU (puU U 0 2 0 (zm t.1.1)) 0 3 0 (zm t.1.2))
abbrev aG7:=ex2 (some 4) lA (ex1 none lA)
def tL (l0:List GMergeItem) (k:List GDef) (i:Str) (d:Str) (c:Int) (l:List (Str×(List GMergeItem))) (n:(List GMergeItem)×(List (Str×Bool))):(Int×(List ((Int×Int)×Bool))×(List ((Int×Int)×Bool)))->Unit->LC (Int×(List ((Int×Int)×Bool))×(List ((Int×Int)×Bool))) Unit aG7
 | (b,f,g),j =>
 cCnd (decide (b<(ln aU l0)))
  (cOp (oNth aU l0 b) fun m =>
  cOp (oE O 25 [(.ptr 2 0 0),(zq aD m.sub)] [[(11,(aO m)),(14,[(.mpv 0 (List.map (cC PV.str PV.bool) n.2))])],[(0,[(zq bN k),(.str i),(.str d),(i6 c),(.mp 0 1),(.mp 0 2),(.mp 0 3)]),(1,[(.mpv 0 (List.map (cC PV.str (cX aD)) l))]),(2,[(zm f)]),(3,[(zm g)])]] dJ (fun u a=>puU (puU u 1 2 0 (zm a.2.1)) 1 3 0 (zm a.2.2)) (lD m.sub k i d c l f g) (by exact fun _ h=>xA [(1,0),(1,1),(1,2),(1,3)] (xC h) rfl rfl rfl rfl)) fun e =>
  cCnd (!e.1)
  (aP (lR (lE (e.2.1,e.2.2) b)))
  (bH ((IntKind.wrap .i64 (b+1)),e.2.1,e.2.2) ()))
  (aP (lL (f,g) b))
def rO (l0:List GMergeItem) (d:List GDef) (c b:Str) (a:Int) (e:List (Str×(List GMergeItem))) (f:(List GMergeItem)×(List (Str×Bool))) (z:(Int×(List ((Int×Int)×Bool))×(List ((Int×Int)×Bool)))):Option ((Int×(List ((Int×Int)×Bool))×(List ((Int×Int)×Bool)))⊕(((List ((Int×Int)×Bool))×(List ((Int×Int)×Bool)))⊕((List ((Int×Int)×Bool))×(List ((Int×Int)×Bool))))):=(tL l0 d c b a e f z default).x
def lK (l0:List GMergeItem) (d:List GDef) (c b:Str) (a:Int) (e:List (Str×(List GMergeItem))) (f g:List ((Int×Int)×Bool)):aLa l0 d c b a e f g :=
 cOp (oOne O 69 [(.ptr 1 0 0),(zq aD l0),(.mp 1 4)] [(0,[(zq bN d),(.str c),(.str b),(i6 a),(.mp 0 1),(.mp 0 2),(.mp 0 3)]),(1,[(.mpv 0 (List.map (cC PV.str (cX aD)) e))]),(2,[(zm f)]),(3,[(zm g)]),(4,[(.mpv 0 [])])] 4 0 1 bW (fun ra=>[(.mpv 0 (List.map (cC PV.str PV.bool) ra.2))]) (gO l0 d c b a e f g ([]:List (Str×Bool))) (fun ra=>dI l0 d c b a e f g ([]:List (Str×Bool)) ra) (by exact fun _ h=>kS h)) fun j =>
 cB aAc [(.ptr 1 0 0),(zq aD l0),(.bool false),(zq aD j.1),(zq aD j.1),(i6 (ln aU j.1)),(i6 0),(.mpv 0 (List.map (cC PV.str PV.bool) j.2))] [[(0,[(zq bN d),(.str c),(.str b),(i6 a),(.mp 0 1),(.mp 0 2),(.mp 0 3)]),(1,[(.mpv 0 (List.map (cC PV.str (cX aD)) e))]),(2,[(zm f)]),(3,[(zm g)])]] (mN d c b a e j l0) (nT d c b a e j l0) (0,f,g) () <|
 fX (fun i _ =>
  cB aAe [(.ptr 1 0 0),(.bool false),(zq aD l0),(i6 (ln aU l0)),(i6 0),(.mpv 0 (List.map (cC PV.str PV.bool) j.2))] [[(0,[(zq bN d),(.str c),(.str b),(i6 a),(.mp 0 1),(.mp 0 2),(.mp 0 3)]),(1,[(.mpv 0 (List.map (cC PV.str (cX aD)) e))]),(2,[(zm i.1)]),(3,[(zm i.2)])]] (rO l0 d c b a e j) (tL l0 d c b a e j) (0,i.1,i.2) () <|
  fX (fun k _ =>
  cR (true,k.1,k.2)) <| kOne fun k _ =>
  cR (false,k.1,k.2)) <| kOne fun i _ =>
  cR (false,i.1,i.2)
def uS (l0:List GMergeItem) (d:List GDef) (c b:Str) (a:Int) (e:List (Str×(List GMergeItem))) (f g:List ((Int×Int)×Bool)):Option (Bool×(List ((Int×Int)×Bool))×(List ((Int×Int)×Bool))):=(lK l0 d c b a e f g).x
theorem rP {l0 e d c b f g i r} (h:(lK l0 e d c b f g i).x=some r):lD l0 e d c b f g i=some r:=kV (ds:=⟨[(15,(.o bW fun ra=>[(.mpv 0 (List.map (cC PV.str PV.bool) ra.2))])),(21,(dR aU)),(25,(dS aU)),(29,(dR aU)),(33,(.v aF)),(36,(.v aF)),(41,(.u bZ fun u a=>puU (puU u 1 2 0 (zm a.2.1)) 1 3 0 (zm a.2.2))),(49,(dR aU)),(54,(.u dJ fun u a=>puU (puU u 1 2 0 (zm a.2.1)) 1 3 0 (zm a.2.2)))],[(6,[(7,10),(14,1)],⟨aAd,[(some 2,⟨kZ⟩),(none,⟨kZ⟩)]⟩),(3,[(14,1)],⟨aAc,[(some 0,⟨kY⟩),(none,⟨kY⟩)]⟩),(14,[(14,1)],⟨aAe,[(some 4,⟨lA⟩),(none,⟨lA⟩)]⟩)]⟩) h (fun ra rb h=>aJl l0 e d c b f g i ra rb h) Tryz.func25 (fun _=>by kernel_rfl)
variable (L : List PV) (U : UP)
abbrev aWE:=Co fun (r:Bool) (w:PV×UP)=>w=(aA r,[])
def aGa (t:((List (List GMergeItem))×Int×Int×(List (Str×(List GMergeItem))))×Unit):=(pu (pu (pu (pu L 3 (zp (cX aD) t.1.1)) 6 (i6 t.1.2.1)) 10 (i6 t.1.2.2.1)) 16 (.mpv 0 (List.map (cC PV.str (cX aD)) t.1.2.2.2)),U)
def aEy (t:((List (List GMergeItem))×Int×(List (Str×(List GMergeItem))))×Int):=(pu (pu (pu (pu L 3 (zp (cX aD) t.1.1)) 6 (i6 t.2)) 10 (i6 t.1.2.1)) 16 (.mpv 0 (List.map (cC PV.str (cX aD)) t.1.2.2)),U)
abbrev aOx:=ex1 (some 0) aEy
def tM (s:GSchema) (d:GDoc):((List (List GMergeItem))×Int×Int×(List (Str×(List GMergeItem))))->Unit->LC ((List (List GMergeItem))×Int×Int×(List (Str×(List GMergeItem)))) Unit aOx
 | (a,e,f,b),j =>
 cCnd (decide (e<(ln gZ d.frags)))
  (cOp (oNth gZ d.frags e) fun c =>
  cOp (bHA (kmS (kSl aD)) c.name ([]:List GMergeItem) b (.slice [] [] true)) fun k =>
  cCnd (!k.2)
  (cOp (oOne O 23 [(.ptr 1 0 0),(.str c.on_),(zq aH c.sels)] [(0,(aY s++[(i6 f),(.mp 0 1),(.mp 0 2),(.mp 0 3)])),(1,[(.mpv 0 (List.map (cC PV.str (cX aD)) b))]),(2,[(.mpv 1 [])]),(3,[(.mpv 1 [])])] 0 3 1 cH (fun ra=>[(i6 ra.2)]) (iA c.on_ c.sels s.defs s.query s.mutation f b ([]:List ((Int×Int)×Bool)) ([]:List ((Int×Int)×Bool))) (fun ra=>dO c.on_ c.sels s.defs s.query s.mutation f b ([]:List ((Int×Int)×Bool)) ([]:List ((Int×Int)×Bool)) ra) (by exact fun _ h=>oN h)) fun g =>
  cOp (oPut (kmS (kSl aD)) c.name g.1 b (zq aD g.1)) fun i =>
  cOp (bBM (kmS (kSl aD)) c.name ([]:List GMergeItem) i (.slice [] [] true)) fun l =>
  cOp (aDp (kSl aD) a [l] (o:=true)) fun m =>
  bH (m,(IntKind.wrap .i64 (e+1)),g.2,i) ())
  (bH (a,(IntKind.wrap .i64 (e+1)),f,b) ()))
  (aP (lE (a,f,b) e))
def nJ (s:GSchema) (d:GDoc) (z:((List (List GMergeItem))×Int×Int×(List (Str×(List GMergeItem))))):Option (((List (List GMergeItem))×Int×Int×(List (Str×(List GMergeItem))))⊕(((List (List GMergeItem))×Int×(List (Str×(List GMergeItem)))))):=(tM s d z default).x
def aGb (t:((List (List GMergeItem))×Int×Int)×Unit):=(pu (pu (pu L 2 (zp (cX aD) t.1.1)) 5 (i6 t.1.2.1)) 9 (i6 t.1.2.2),U)
def aEz (t:((List (List GMergeItem))×Int)×Int):=(pu (pu (pu L 2 (zp (cX aD) t.1.1)) 5 (i6 t.2)) 9 (i6 t.1.2),U)
abbrev aOy:=ex1 (some 2) aEz
def xZ (s:GSchema) (d:GDoc) (e:List (Str×(List GMergeItem))):((List (List GMergeItem))×Int×Int)->Unit->LC ((List (List GMergeItem))×Int×Int) Unit aOy
 | (a,b,c),j =>
 cCnd (decide (b<(ln kOp d.ops)))
  (cOp (oNth kOp d.ops b) fun f =>
  cOp (bCE s f) fun g =>
  cOp (oOne O 23 [(.ptr 1 0 0),(.str g),(zq aH f.sels)] [(0,(aY s++[(i6 c),(.mp 0 1),(.mp 0 2),(.mp 0 3)])),(1,[(.mpv 0 (List.map (cC PV.str (cX aD)) e))]),(2,[(.mpv 1 [])]),(3,[(.mpv 1 [])])] 0 3 1 cH (fun ra=>[(i6 ra.2)]) (iA g f.sels s.defs s.query s.mutation c e ([]:List ((Int×Int)×Bool)) ([]:List ((Int×Int)×Bool))) (fun ra=>dO g f.sels s.defs s.query s.mutation c e ([]:List ((Int×Int)×Bool)) ([]:List ((Int×Int)×Bool)) ra) (by exact fun _ h=>oN h)) fun i =>
  cOp (aDp (kSl aD) a [i.1] (o:=true)) fun k =>
  bH (k,(IntKind.wrap .i64 (b+1)),i.2) ())
  (aP (lE (a,c) b))
def qP (s:GSchema) (d:GDoc) (a:List (Str×(List GMergeItem))) (z:((List (List GMergeItem))×Int×Int)):Option (((List (List GMergeItem))×Int×Int)⊕(((List (List GMergeItem))×Int))):=(xZ s d a z default).x
def aGc (t:(Int×(List ((Int×Int)×Bool))×(List ((Int×Int)×Bool)))×Unit):=(pu (pu (pu L 4 (i6 t.1.1)) 12 (zm t.1.2.1)) 13 (zm t.1.2.2),U)
def aEA (t:Unit×(Int×(List ((Int×Int)×Bool))×(List ((Int×Int)×Bool)))):=(pu (pu (pu (pu L 0 (.bool false)) 4 (i6 t.2.1)) 12 (zm t.2.2.1)) 13 (zm t.2.2.2),U)
def aEB (t:Unit×(Int×(List ((Int×Int)×Bool))×(List ((Int×Int)×Bool)))):=(pu (pu (pu L 4 (i6 t.2.1)) 12 (zm t.2.2.1)) 13 (zm t.2.2.2),U)
abbrev aOz:=ex2 (some 4) aEB (ex1 none aEA)
def yA (s:GSchema) (i:List (Str×(List GMergeItem))) (b:List (List GMergeItem)) (k:Int) (d:GDoc):(Int×(List ((Int×Int)×Bool))×(List ((Int×Int)×Bool)))->Unit->LC (Int×(List ((Int×Int)×Bool))×(List ((Int×Int)×Bool))) Unit aOz
 | (c,f,g),j =>
 cCnd (decide (c<(ln (kSl aD) b)))
  (cOp (oNth (kSl aD) b c) fun l =>
  cOp (oE O 25 [(.ptr 1 28 0),(zq aD l)] [[(28,(aY s++[(i6 k),(.mp 0 24),(.mp 0 25),(.mp 0 26)])),(26,[(zm f)]),(25,[(zm g)]),(24,[(.mpv 0 (List.map (cC PV.str (cX aD)) i))]),(4,[(zq cO d.ops),(zq aL d.frags)]),(3,(aY s))]] dJ (fun u a=>puU (puU u 0 2 0 (zm a.2.1)) 0 1 0 (zm a.2.2)) (lD l s.defs s.query s.mutation k i g f) (by exact fun _ h=>xA [(0,28),(0,24),(0,25),(0,26)] (xC h) rfl rfl rfl rfl)) fun e =>
  cCnd (!e.1)
  (aP (lR (lE () (c,e.2.2,e.2.1))))
  (bH ((IntKind.wrap .i64 (c+1)),e.2.2,e.2.1) ()))
  (aP (lL () (c,f,g)))
def qQ (s:GSchema) (b:List (Str×(List GMergeItem))) (a:List (List GMergeItem)) (c:Int) (d:GDoc) (z:(Int×(List ((Int×Int)×Bool))×(List ((Int×Int)×Bool)))):Option ((Int×(List ((Int×Int)×Bool))×(List ((Int×Int)×Bool)))⊕(Unit⊕Unit)):=(yA s b a c d z default).x
def aAX (s:GSchema) (d:GDoc) (n:Int):aWE :=
 cCnd (n != 24)
 (cR false)
 (cOp (aQX d) fun e =>
 cCnd e
 (cR false)
 (cB aGa ([(.ptr 0 3 0),(.ptr 0 4 0),(.ptr 0 28 0),(.slice [] [] true),(zq aL d.frags),(i6 (ln gZ d.frags)),(i6 0)]++aY s++[(i6 0),(.mp 0 24),(.mp 0 25),(.mp 0 26),(.mpv 1 []),(.mpv 1 []),(.mpv 0 []),(zq cO d.ops),(zq aL d.frags)]++aY s) [] (nJ s d) (tM s d) ([],0,0,[]) () <|
 kOne fun a _ =>
 cB aGb ([(.ptr 0 3 0),(.ptr 0 28 0),(zp (cX aD) a.1),(zq cO d.ops),(i6 (ln kOp d.ops)),(i6 0)]++aY s++[(i6 a.2.1),(.mp 0 24),(.mp 0 25),(.mp 0 26),(.mpv 1 []),(.mpv 1 []),(.mpv 0 (List.map (cC PV.str (cX aD)) a.2.2)),(zq cO d.ops),(zq aL d.frags)]++aY s) [] (qP s d a.2.2) (xZ s d a.2.2) (a.1,0,a.2.1) () <|
 kOne fun b _ =>
 cB aGc ([.bot,(.ptr 0 28 0),(zq (cX aD) b.1),(i6 (ln (kSl aD) b.1)),(i6 0)]++aY s++[(i6 b.2),(.mp 0 24),(.mp 0 25),(.mp 0 26),(.mpv 1 []),(.mpv 1 []),(.mpv 0 (List.map (cC PV.str (cX aD)) a.2.2)),(zq cO d.ops),(zq aL d.frags)]++aY s) [] (qQ s a.2.2 b.1 b.2 d) (yA s a.2.2 b.1 b.2 d) (0,[],[]) () <|
 fX (fun c _ =>
 cR true) <| kOne fun c _ =>
 cR false))
def aKt (s:GSchema) (d:GDoc) (n:Int):Option Bool:=(aAX s d n).x
theorem aGd {s d n r} (h:(aAX s d n).x=some r):lF s d n=some r:=kV (ds:=⟨[(21,(.v aA)),(34,(dR gZ)),(43,(dM (kmS (kSl aD)))),(59,(.o cH fun ra=>[(i6 ra.2)])),(67,(.v (kmS (kSl aD)).eta)),(69,(dL (kSl aD))),(76,(dR kOp)),(82,(.v aF)),(85,(.o cH fun ra=>[(i6 ra.2)])),(87,(dL (kSl aD))),(93,(dR (kSl aD))),(97,(.u dJ fun u a=>puU (puU u 0 2 0 (zm a.2.1)) 0 1 0 (zm a.2.2))),(1010000,(dP (kmS (kSl aD))))],[(6,[(28,7),(26,1),(25,1),(24,1),(4,2),(3,3)],⟨aGa,[(some 0,⟨aEy⟩)]⟩),(14,[(28,7),(26,1),(25,1),(24,1),(4,2),(3,3)],⟨aGb,[(some 2,⟨aEz⟩)]⟩),(19,[(28,7),(26,1),(25,1),(24,1),(4,2),(3,3)],⟨aGc,[(some 4,⟨aEB⟩),(none,⟨aEA⟩)]⟩)]⟩) h (aG aC) Tryz.func10 (fun _=>by kernel_rfl)
abbrev aNm:=Co fun (r:Int) (w:PV×UP)=>w=(bE r,[])
def aAY (t:(Int×Int)×Unit):=(pu (pu L 3 (i6 t.1.1)) 4 (i6 t.1.2),U)
def aAf (t:Int×Int):=(pu (pu L 3 (i6 t.1)) 4 (i6 t.2),U)
abbrev aIm:=ex1 (some 0) aAf
def fZ (d:GDoc) (l0:List GSel) (most:Int):(Int×Int)->Unit->LC (Int×Int) Unit aIm
 | (a,b),j =>
 cCnd (decide (b<(ln kSel l0)))
  (cCnd (decide (a<=most))
  (cOp (oNth kSel l0 b) fun e =>
  cOp (rB d e.sels (IntKind.wrap .i64 (most-a))) fun c =>
  cOp (oNth kSel l0 b) fun f =>
  cCnd (f.kind==1)
   (cCnd (decide ((IntKind.wrap .i64 ((IntKind.wrap .i64 (a+1))+c))<=most))
   (cOp (oNth kSel l0 b) fun g =>
   cOp (aEh d g.name) fun h =>
   cOp (rB d h.1.sels (IntKind.wrap .i64 (most-(IntKind.wrap .i64 ((IntKind.wrap .i64 (a+1))+c))))) fun i =>
   bH ((IntKind.wrap .i64 ((IntKind.wrap .i64 ((IntKind.wrap .i64 (a+1))+c))+i)),(IntKind.wrap .i64 (b+1))) ())
   (bH ((IntKind.wrap .i64 ((IntKind.wrap .i64 (a+1))+c)),(IntKind.wrap .i64 (b+1))) ()))
   (bH ((IntKind.wrap .i64 ((IntKind.wrap .i64 (a+1))+c)),(IntKind.wrap .i64 (b+1))) ()))
  (aP (lE a b)))
  (aP (lE a b))
def cY (d:GDoc) (l0:List GSel) (most:Int) (z:(Int×Int)):Option ((Int×Int)⊕Int):=(fZ d l0 most z default).x
def wW (d:GDoc) (l0:List GSel) (most:Int):aNm :=
 cB aAY [(zq aH l0),(i6 most),(.ptr 0 3 0),(i6 0),(i6 0),(zq cO d.ops),(zq aL d.frags)] [] (cY d l0 most) (fZ d l0 most) (0,0) () <|
 kOne fun a _ =>
 cR a
def aLb (d:GDoc) (l0:List GSel) (most:Int):Option Int:=(wW d l0 most).x
theorem aIn {d l0 most r} (h:(wW d l0 most).x=some r):nD d l0 most=some r:=kV (ds:=⟨[(27,(dR kSel)),(33,(.v bE)),(37,(dR kSel)),(50,(dR kSel)),(53,(.v mE)),(63,(.v bE))],[(3,[(3,2)],⟨aAY,[(some 0,⟨aAf⟩)]⟩)]⟩) h (aG sA) Tryz.func14 (fun _=>by kernel_rfl)
abbrev bCU:=Co fun (r:Bool) (w:PV×UP)=>w=(aA r,[])
abbrev aEC:=ex2 (some 0) dU (ex1 none dU)
def aG8 (b:GOp):Int->Unit->LC Int Unit aH9
 | a,j =>
 cCnd (decide (a<(ln wQ b.vars)))
  (cOp (oNth wQ b.vars a) fun c =>
  cOp (qN c.name) fun d =>
  cCnd (!d)
  (aP (lR (lE () a)))
  (cOp (oNth wQ b.vars a) fun e =>
  cOp (vD e.t) fun f =>
  cCnd (!f)
   (aP (lR (lE () a)))
   (cOp (oNth wQ b.vars a) fun g =>
   cOp (oNth wQ b.vars a) fun h =>
   cOp (aJs g.has h.default) fun i =>
   cCnd (!i)
   (aP (lR (lE () a)))
   (bH (IntKind.wrap .i64 (a+1)) ()))))
  (aP (lL () a))
def aED (a:GOp) (z:Int):Option (Int⊕(Unit⊕Unit)):=(aG8 a z default).x
def wG (d:GDoc) (a:Int) (b:GOp):Unit->LC Int Unit aEC
 | () =>
 cB aS ([(.ptr 0 1 0),(.bool false),(i6 a),(.ptr 0 4 0),(i6 0)]++zcOp b++[(zq cO d.ops),(zq aL d.frags)]) [] (aED b) (aG8 b) 0 () <|
 fX (fun c _ =>
  bH (IntKind.wrap .i64 (a+1)) ()) <| kOne fun c _ =>
  aP (lR (lE () a))
def aCN (d : GDoc) : Int -> Unit -> LC Int Unit aEC
 | a, j =>
 cCnd (decide (a < (ln kOp d.ops)))
  (cOp (oNth kOp d.ops a) fun b =>
  cCnd (b.kind != 0)
  (cCnd (b.kind != 1)
   (aP (lR (lE () a)))
   (cCnd (!(b.name == ([] : Str)))
   (cOp (qN b.name) fun c =>
   cCnd (!c)
    (aP (lR (lE () a)))
    (cOp (nE b.dirs 0 true) fun e =>
    cCnd (!e)
    (aP (lR (lE () a)))
    (cOp (gH b.sels 1) fun f =>
    cCnd (!f)
     (aP (lR (lE () a)))
     (wG d a b ()))))
   (cOp (nE b.dirs 0 true) fun g =>
   cCnd (!g)
    (aP (lR (lE () a)))
    (cOp (gH b.sels 1) fun h =>
    cCnd (!h)
    (aP (lR (lE () a)))
    (wG d a b ())))))
  (cCnd (!(b.name == ([] : Str)))
   (cOp (qN b.name) fun i =>
   cCnd (!i)
   (aP (lR (lE () a)))
   (cOp (nE b.dirs 0 true) fun k =>
   cCnd (!k)
    (aP (lR (lE () a)))
    (cOp (gH b.sels 1) fun l =>
    cCnd (!l)
    (aP (lR (lE () a)))
    (wG d a b ()))))
   (cOp (nE b.dirs 0 true) fun m =>
   cCnd (!m)
   (aP (lR (lE () a)))
   (cOp (gH b.sels 1) fun n =>
   cCnd (!n)
    (aP (lR (lE () a)))
    (wG d a b ())))))
  (aP (lL () a))
def oV (d:GDoc) (z:Int):Option (Int⊕(Unit⊕Unit)):=(aCN d z default).x
abbrev aTN:=ex2 (some 4) dU (ex1 none dU)
def aNn (d : GDoc) : Int -> Unit -> LC Int Unit aTN
 | a, j =>
 cCnd (decide (a < (ln gZ d.frags)))
  (cOp (oNth gZ d.frags a) fun b =>
  cOp (qN b.name) fun c =>
  cCnd (!c)
  (aP (lR (lE () a)))
  (cCnd (b.name == ([111, 110] : Str))
   (aP (lR (lE () a)))
   (cOp (qN b.on_) fun e =>
   cCnd (!e)
   (aP (lR (lE () a)))
   (cOp (nE b.dirs 0 true) fun f =>
   cCnd (!f)
    (aP (lR (lE () a)))
    (cOp (gH b.sels 1) fun g =>
    cCnd (!g)
    (aP (lR (lE () a)))
    (bH (IntKind.wrap .i64 (a + 1)) ()))))))
  (aP (lL () a))
def aTO (d:GDoc) (z:Int):Option (Int⊕(Unit⊕Unit)):=(aNn d z default).x
def aPH (d:GDoc):bCU :=
 cB fR [(.ptr 0 1 0),(.bool false),(i6 0),(zq cO d.ops),(zq aL d.frags)] [] (oV d) (aCN d) 0 () <|
 fX (fun a _ =>
 cB fR [(.ptr 0 1 0),(.bool false),(i6 0),(zq cO d.ops),(zq aL d.frags)] [] (aTO d) (aNn d) 0 () <|
 fX (fun b _ =>
 cR (decide ((IntKind.wrap .i64 ((ln kOp d.ops)+(ln gZ d.frags)))>0))) <| kOne fun b _ =>
 cR false) <| kOne fun a _ =>
 cR false
theorem aTP {d r} (h:(aPH d).x=some r):aCv d=some r:=kV (ds:=⟨[(18,(dR kOp)),(35,(.v aA)),(42,(.v aA)),(48,(.v aA)),(61,(dR wQ)),(64,(.v aA)),(70,(dR wQ)),(73,(.v aA)),(80,(dR wQ)),(86,(dR wQ)),(89,(.v aA)),(102,(dR gZ)),(106,(.v aA)),(116,(.v aA)),(122,(.v aA)),(128,(.v aA))],[(8,[(4,5),(1,2)],⟨aS,[(some 2,⟨aN⟩),(none,⟨aN⟩)]⟩),(2,[(1,2)],⟨fR,[(some 0,⟨dU⟩),(none,⟨dU⟩)]⟩),(13,[(1,2)],⟨fR,[(some 4,⟨dU⟩),(none,⟨dU⟩)]⟩)]⟩) h (aG aC) Tryz.func16 (fun _=>by kernel_rfl)
abbrev aJG:=Co fun (r:GSchema) (w:PV×UP)=>w=(fY r,[])
def aIo:aJG :=
 cR (GSchema.mk [(GDef.mk 1 [81] ([]:List Str) [(GFieldDef.mk [98] ([]:List GParam) (GType.mk [73,110,116] 0 0) ([]:List GDir)),(GFieldDef.mk [99] ([]:List GParam) (GType.mk [73,110,116] 0 0) ([]:List GDir))] ([]:List Str) ([]:List GParam))] [81] [])
theorem aFS {r} (h:(aIo).x=some r):aDk=some r:=kV (ds:=⟨[],[]⟩) h (aG aHX) Tryz.func18 (fun _=>by kernel_rfl)
abbrev aJH:=Co fun (r:Str) (w:PV×UP)=>w=(aF r,[])
def mO (l0:List GSel):(Str×Int)->Unit->LC (Str×Int) Unit zS
 | (b,a),j =>
 cCnd (decide (a<(ln kSel l0)))
  (cOp (oNth kSel l0 a) fun c =>
  cOp (oCat b c.alias) fun d =>
  cOp (oNth kSel l0 a) fun e =>
  cOp (oCat d e.name) fun f =>
  cOp (oNth kSel l0 a) fun g =>
  cOp (tF g.sels) fun h =>
  cOp (oCat f h) fun i =>
  bH (i,(IntKind.wrap .i64 (a+1))) ())
  (aP (lE b a))
def iM (l0:List GSel) (z:(Str×Int)):Option ((Str×Int)⊕Str):=(mO l0 z default).x
def aAZ (l0:List GSel):aJH :=
 cB mH [(zq aH l0),(.str []),(i6 0)] [] (iM l0) (mO l0) ([],0) () <|
 kOne fun a _ =>
 cR a
theorem aFT {l0 r} (h:(aAZ l0).x=some r):wV l0=some r:=kV (ds:=⟨[(14,(dR kSel)),(17,(.v PV.str)),(20,(dR kSel)),(23,(.v PV.str)),(26,(dR kSel)),(29,(.v aF)),(30,(.v PV.str))],[(3,[],⟨mH,[(some 0,⟨qI⟩)]⟩)]⟩) h (aG eY) Tryz.func19 (fun _=>by kernel_rfl)
abbrev aWF:=Co fun (r:List GMember) (w:PV×UP)=>w=(mC r,[])
def aGe (t:((List GMember)×Int)×Unit):=(pu (pu L 1 (zp aE t.1.1)) 2 (i6 t.1.2),U)
def aEE (t:((List GMember))×Int):=(pu (pu L 1 (zp aE t.1)) 2 (i6 t.2),U)
abbrev aOA:=ex1 (some 0) aEE
def yB (l0:List GMember):((List GMember)×Int)->Unit->LC ((List GMember)×Int) Unit aOA
 | (b,a),j =>
 cCnd (decide (a<(ln aT l0)))
  (cOp (oNth aT l0 a) fun c =>
  cOp (oNth aT l0 a) fun d =>
  cOp (aPx d.v) fun e =>
  cOp (aDp aT b [(GMember.mk c.name e)] (o:=true)) fun f =>
  bH (f,(IntKind.wrap .i64 (a+1))) ())
  (aP (lE b a))
def vK (l0:List GMember) (z:((List GMember)×Int)):Option (((List GMember)×Int)⊕((List GMember))):=(yB l0 z default).x
def aEF (l0:List GMember):aWF :=
 cB aGe [(zq aE l0),(.slice [] [] true),(i6 0)] [] (vK l0) (yB l0) ([],0) () <|
 kOne fun a _ =>
 cR a
def aTQ (l0:List GMember):Option (List GMember):=(aEF l0).x
theorem aOB {l0 r} (h:(aEF l0).x=some r):aJo l0=some r:=kV (ds:=⟨[(14,(dR aT)),(19,(dR aT)),(22,(.v zQ)),(25,(dL aT))],[(3,[],⟨aGe,[(some 0,⟨aEE⟩)]⟩)]⟩) h (aG aTc) Tryz.func63 (fun _=>by kernel_rfl)
abbrev bE9:=Co fun (r:List GDir) (w:PV×UP)=>w=(aCw r,[])
def aNo (t:((List GDir)×Int)×Unit):=(pu (pu L 1 (zp bJ t.1.1)) 2 (i6 t.1.2),U)
def aKu (t:((List GDir))×Int):=(pu (pu L 1 (zp bJ t.1)) 2 (i6 t.2),U)
abbrev aWG:=ex1 (some 0) aKu
def aFt (l0:List GDir):((List GDir)×Int)->Unit->LC ((List GDir)×Int) Unit aWG
 | (b,a),j =>
 cCnd (decide (a<(ln kDir l0)))
  (cOp (oNth kDir l0 a) fun c =>
  cOp (oNth kDir l0 a) fun d =>
  cOp (aEf d.args) fun e =>
  cOp (aDp kDir b [(GDir.mk c.name e)] (o:=true)) fun f =>
  bH (f,(IntKind.wrap .i64 (a+1))) ())
  (aP (lE b a))
def aCO (l0:List GDir) (z:((List GDir)×Int)):Option (((List GDir)×Int)⊕((List GDir))):=(aFt l0 z default).x
def aNp (l0:List GDir):bE9 :=
 cB aNo [(zq bJ l0),(.slice [] [] true),(i6 0)] [] (aCO l0) (aFt l0) ([],0) () <|
 kOne fun a _ =>
 cR a
def bCV (l0:List GDir):Option (List GDir):=(aNp l0).x
theorem aWH {l0 r} (h:(aNp l0).x=some r):aWg l0=some r:=kV (ds:=⟨[(14,(dR kDir)),(19,(dR kDir)),(22,(.v mC)),(25,(dL kDir))],[(3,[],⟨aNo,[(some 0,⟨aKu⟩)]⟩)]⟩) h (aG bCG) Tryz.func20 (fun _=>by kernel_rfl)
abbrev aOC:=Co fun (r:List Str) (w:PV×UP)=>w=(dZ r,[])
def aBZ (t:(Int×(List Str))×Unit):=(pu (pu L 1 (zp PV.str t.1.2)) 2 (i6 t.1.1),U)
def mU (d:GDoc) (sels:List GSel):(Int×(List Str))->Unit->LC (Int×(List Str)) Unit wA
 | (a,b),j =>
 cCnd (decide (a≥(ln kStr b)))
  (aP (lE b a))
  (cOp (oNth kStr b a) fun e =>
  cOp (aTm d e) fun c =>
  cCnd (!c.2)
  (bH ((IntKind.wrap .i64 (a+1)),b) ())
  (cOp (oP b c.1.sels) fun f =>
  bH ((IntKind.wrap .i64 (a+1)),f) ()))
def lM (d:GDoc) (sels:List GSel) (z:(Int×(List Str))):Option ((Int×(List Str))⊕((List Str))):=(mU d sels z default).x
def aAg (d:GDoc) (sels:List GSel):aOC :=
 cOp (oP ([]:List Str) sels) fun b =>
 cB aBZ [(.ptr 0 2 0),(zp PV.str b),(i6 0),(zq cO d.ops),(zq aL d.frags)] [] (lM d sels) (mU d sels) (0,b) () <|
 kOne fun a _ =>
 cR a
def aNq (d:GDoc) (sels:List GSel):Option (List Str):=(aAg d sels).x
theorem aJI {d sels r} (h:(aAg d sels).x=some r):aCx d sels=some r:=kV (ds:=⟨[(10,(.v bS)),(21,(dR kStr)),(23,(.v mE)),(31,(.v bS))],[(4,[(2,2)],⟨aBZ,[(some 0,⟨pQ⟩)]⟩)]⟩) h (aG aBN) Tryz.func67 (fun _=>by kernel_rfl)
abbrev wH:=Co fun (r:Bool) (w:PV×UP)=>w=(aA r,[])
def gB (s:List Str) (v0:Str):wH :=
 cOp (xR s v0) fun a =>
 cR (decide (a≥0))
def uT (s:List Str) (v0:Str):Option Bool:=(gB s v0).x
theorem tN {s v0 r} (h:(gB s v0).x=some r):iC s v0=some r:=kV (ds:=⟨[(7,(.v bE))],[]⟩) h (aG aC) Tryz.func66 (fun _=>by kernel_rfl)
abbrev bCW:=Co fun (r:List Str) (w:PV×UP)=>w=(bS r,[])
def aG9 (s:GSchema) (name:Str) (d:GDef×Bool):((List Str)×Int)->Unit->LC ((List Str)×Int) Unit aNf
 | (a,b),j =>
 cCnd (decide (b<(ln zJ d.1.params)))
  (cCnd (d.1.kind==5)
  (cOp (oNth zJ d.1.params b) fun c =>
  cCnd (c.t.lists==0)
   (cCnd (c.t.musts==1)
   (cOp (aQ5 s c.t.name 5 5 5) fun e =>
   cCnd e
    (cOp (aDp kStr a [c.t.name] (o:=true)) fun f =>
    bH (f,(IntKind.wrap .i64 (b+1))) ())
    (bH (a,(IntKind.wrap .i64 (b+1))) ()))
   (bH (a,(IntKind.wrap .i64 (b+1))) ()))
   (bH (a,(IntKind.wrap .i64 (b+1))) ()))
  (aP (lE a b)))
  (aP (lE a b))
def aKv (s:GSchema) (name:Str) (a:GDef×Bool) (z:((List Str)×Int)):Option (((List Str)×Int)⊕((List Str))):=(aG9 s name a z default).x
def aPI (s:GSchema) (name:Str):bCW :=
 cOp (aBS s name) fun b =>
 cB uQ ([(.ptr 0 2 0),(.slice [] [] true),(.ptr 0 6 0),(i6 0)]++aJg b.1++aY s) [] (aKv s name b) (aG9 s name b) ([],0) () <|
 kOne fun a _ =>
 cR a
def aPJ (s:GSchema) (name:Str):Option (List Str):=(aPI s name).x
theorem aTR {s name r} (h:(aPI s name).x=some r):aQ1 s name=some r:=kV (ds:=⟨[(13,(.v kT)),(31,(dR zJ)),(46,(.v aA)),(52,(dL kStr))],[(4,[(6,6),(2,3)],⟨uQ,[(some 0,⟨wB⟩)]⟩)]⟩) h (aG zM) Tryz.func86 (fun _=>by kernel_rfl)
abbrev bH1:=Co fun (r:Bool) (w:PV×UP)=>w=(aA r,[])
def aNr (t:Unit×Int):=(pu (pu L 2 (.bool true)) 3 (i6 t.2),U)
abbrev aZ6:=ex2 (some 0) bA (ex1 none aNr)
def aIp (l0:List Str) (s:Str):Int->Unit->LC Int Unit aZ6
 | a,j =>
 cCnd (decide (a<(ln kStr l0)))
  (cOp (oNth kStr l0 a) fun b =>
  cCnd (b==s)
  (aP (lR (lE () a)))
  (bH (IntKind.wrap .i64 (a+1)) ()))
  (aP (lL () a))
def aFu (l0:List Str) (s:Str) (z:Int):Option (Int⊕(Unit⊕Unit)):=(aIp l0 s z default).x
def aRi (l0:List Str) (s:Str):bH1 :=
 cB bV [(zq PV.str l0),(.str s),(.bool false),(i6 0)] [] (aFu l0 s) (aIp l0 s) 0 () <|
 fX (fun p9 _ =>
 cR false) <| kOne fun p9 _ =>
 cR true
def bFa (l0:List Str) (s:Str):Option Bool:=(aRi l0 s).x
theorem aZ7 {l0 s r} (h:(aRi l0 s).x=some r):aTd l0 s=some r:=kV (ds:=⟨[(14,(dR kStr))],[(2,[],⟨bV,[(some 0,⟨bA⟩),(none,⟨aNr⟩)]⟩)]⟩) h (aG aC) Tryz.func83 (fun _=>by kernel_rfl)
abbrev bFb:=Co fun (r:Str) (w:PV×UP)=>w=(aF r,[])
def aNs (s:GSchema) (o:GOp):bFb :=
 cCnd (o.kind==1)
 (cR s.mutation)
 (cR s.query)
def bCX (s:GSchema) (o:GOp):Option Str:=(aNs s o).x
theorem aWI {s o r} (h:(aNs s o).x=some r):aWh s o=some r:=kV (ds:=⟨[],[]⟩) h (aG eY) Tryz.func97 (fun _=>by kernel_rfl)
abbrev bCY:=Co fun (r:List GSeineref13Spot) (w:PV×UP)=>w=(iL r,[])
def aKw (t:((List GSeineref13Spot)×Int)×Unit):=(pu (pu L 2 (zp aI t.1.1)) 4 (i6 t.1.2),U)
def aIq (t:((List GSeineref13Spot))×Int):=(pu (pu L 2 (zp aI t.1)) 4 (i6 t.2),U)
abbrev aTS:=ex1 (some 0) aIq
def aAh (s:GSchema) (typ:Str) (l0:List GSel):((List GSeineref13Spot)×Int)->Unit->LC ((List GSeineref13Spot)×Int) Unit aTS
 | (b,a),j =>
 cCnd (decide (a<(ln kSel l0)))
  (cOp (oNth kSel l0 a) fun c =>
  cOp (aDp aM b [(GSeineref13Spot.mk typ c)] (o:=true)) fun d =>
  cOp (oNth kSel l0 a) fun e =>
  cOp (uN s typ e) fun f =>
  cOp (oNth kSel l0 a) fun g =>
  cOp (aJp s f g.sels d) fun h =>
  bH (h,(IntKind.wrap .i64 (a+1))) ())
  (aP (lE b a))
def wI (s:GSchema) (typ:Str) (l0:List GSel) (z:((List GSeineref13Spot)×Int)):Option (((List GSeineref13Spot)×Int)⊕((List GSeineref13Spot))):=(aAh s typ l0 z default).x
def aFv (s:GSchema) (typ:Str) (l0:List GSel) (out0:List GSeineref13Spot):bCY :=
 cB aKw ([(.str typ),(zq aH l0),(zp aI out0),(.ptr 0 4 0),(i6 0)]++aY s) [] (wI s typ l0) (aAh s typ l0) (out0,0) () <|
 kOne fun a _ =>
 cR a
def aPK (s:GSchema) (typ:Str) (l0:List GSel) (out0:List GSeineref13Spot):Option (List GSeineref13Spot):=(aFv s typ l0 out0).x
theorem aKx {s typ l0 out0 r} (h:(aFv s typ l0 out0).x=some r):aQ2 s typ l0 out0=some r:=kV (ds:=⟨[(20,(dR kSel)),(24,(dL aM)),(30,(dR kSel)),(32,(.v aF)),(35,(dR kSel)),(39,(.v iL))],[(2,[(4,3)],⟨aKw,[(some 0,⟨aIq⟩)]⟩)]⟩) h (aG aPv) Tryz.func96 (fun _=>by kernel_rfl)
abbrev aZ8:=Co fun (r:List GParam) (w:PV×UP)=>w=(jS r,[])
def aCP (s:GSchema) (x:GSeineref13Spot):aZ8 :=
 cOp (aFo s x.typ x.x.name) fun a =>
 cR a.1.params
def aNt (s:GSchema) (x:GSeineref13Spot):Option (List GParam):=(aCP s x).x
theorem aIr {s x r} (h:(aCP s x).x=some r):aHY s x=some r:=kV (ds:=⟨[(14,(.v iK))],[]⟩) h (aG aMQ) Tryz.func103 (fun _=>by kernel_rfl)
abbrev aRj:=Co fun (r:Bool) (w:PV×UP)=>w=(aA r,[])
def aAi (s:GSchema) (l0:List GParam) (m:List GMember):Int->Unit->LC Int Unit uP
 | a,j =>
 cCnd (decide (a<(ln aT m)))
  (cOp (oNth aT m a) fun b =>
  cOp (aFp l0 b.name) fun c =>
  cOp (oNth aT m a) fun d =>
  cOp (aPw s c.1.t d.v) fun e =>
  cCnd (!e)
  (aP (lR (lE () a)))
  (bH (IntKind.wrap .i64 (a+1)) ()))
  (aP (lL () a))
def aDl (s:GSchema) (l0:List GParam) (m:List GMember) (z:Int):Option (Int⊕(Unit⊕Unit)):=(aAi s l0 m z default).x
def aGf (s:GSchema) (l0:List GParam) (m:List GMember):aRj :=
 cB aS ([(zq bR l0),(zq aE m),(.ptr 0 3 0),(.bool false),(i6 0)]++aY s) [] (aDl s l0 m) (aAi s l0 m) 0 () <|
 fX (fun a _ =>
 cR true) <| kOne fun a _ =>
 cR false
def aOD (s:GSchema) (l0:List GParam) (m:List GMember):Option Bool:=(aGf s l0 m).x
theorem aLc {s l0 m r} (h:(aGf s l0 m).x=some r):aEg s l0 m=some r:=kV (ds:=⟨[(20,(dR aT)),(23,(.v kF)),(31,(dR aT)),(34,(.v aA))],[(2,[(3,3)],⟨aS,[(some 0,⟨aN⟩),(none,⟨aN⟩)]⟩)]⟩) h (aG aC) Tryz.func110 (fun _=>by kernel_rfl)
abbrev aRk:=Co fun (r:List GParam) (w:PV×UP)=>w=(jS r,[])
def aBw (d:GDir):aRk :=
 cOp (aQ7 d.name) fun a =>
 cCnd (!a.2)
 (cR ([]:List GParam))
 (cR [a.1])
def aGg (d:GDir):Option (List GParam):=(aBw d).x
theorem aLd {d r} (h:(aBw d).x=some r):sD d=some r:=kV (ds:=⟨[(8,(.v kF))],[]⟩) h (aG aMQ) Tryz.func104 (fun _=>by kernel_rfl)
abbrev bCZ:=Co fun (r:Bool) (w:PV×UP)=>w=(aA r,[])
def aCQ (s:GSchema) (d:GDoc) (typ:Str) (l0:List GSel):Int->Unit->LC Int Unit tI
 | a,j =>
 cCnd (decide (a<(ln kSel l0)))
  (cOp (oNth kSel l0 a) fun b =>
  cCnd (decide ((ln kSel b.sels)>0))
  (cOp (oNth kSel l0 a) fun c =>
  cOp (uN s typ c) fun e =>
  cOp (oNth kSel l0 a) fun f =>
  cOp (aJq s d e f.sels) fun g =>
  cCnd (!g)
   (aP (lR (lE () a)))
   (bH (IntKind.wrap .i64 (a+1)) ()))
  (bH (IntKind.wrap .i64 (a+1)) ()))
  (aP (lL () a))
def wJ (s:GSchema) (d:GDoc) (typ:Str) (l0:List GSel) (z:Int):Option (Int⊕(Unit⊕Unit)):=(aCQ s d typ l0 z default).x
def aB0 (s:GSchema) (d:GDoc) (typ:Str) (l0:List GSel):bCZ :=
 cOp (zR s d typ l0) fun b =>
 cOp (aM0 s d b) fun c =>
 cCnd (!c)
 (cR false)
 (cB bM ([(.str typ),(zq aH l0),(.ptr 0 4 0),(.ptr 0 5 0),(.bool false),(i6 0),(zq cO d.ops),(zq aL d.frags)]++aY s) [] (wJ s d typ l0) (aCQ s d typ l0) 0 () <|
 fX (fun a _ =>
 cR true) <| kOne fun a _ =>
 cR false)
def aZ9 (s:GSchema) (d:GDoc) (typ:Str) (l0:List GSel):Option Bool:=(aB0 s d typ l0).x
theorem aEG {s d typ l0 r} (h:(aB0 s d typ l0).x=some r):nP s d typ l0=some r:=kV (ds:=⟨[(16,(.v iL)),(17,(.v aA)),(27,(dR kSel)),(39,(dR kSel)),(41,(.v aF)),(44,(dR kSel)),(47,(.v aA))],[(4,[(5,2),(4,3)],⟨bM,[(some 0,⟨aZ⟩),(none,⟨aZ⟩)]⟩)]⟩) h (aG aC) Tryz.func114 (fun _=>by kernel_rfl)
abbrev aWJ:=Co fun (r:List Str) (w:PV×UP)=>w=(bS r,[])
def aKy (l0:List GSel):aWJ :=
 cOp (vX l0 ([]:List Str)) fun a =>
 cR a
theorem aOE {l0 r} (h:(aKy l0).x=some r):aJr l0=some r:=kV (ds:=⟨[(4,(.v bS))],[]⟩) h (aG zM) Tryz.func134 (fun _=>by kernel_rfl)
abbrev bFc:=Co fun (r:GFrag×Bool) (w:PV×UP)=>w=(mE r,[])
def aKz (t:(Str×Str×(List GDir)×(List GSel))×Int):=(pu (pu (pu (pu (pu (pu L 3 (.bool true)) 4 (i6 t.2)) 5 (.str t.1.1)) 6 (.str t.1.2.1)) 7 (zq bJ t.1.2.2.1)) 8 (zq aH t.1.2.2.2),U)
abbrev aWK:=ex2 (some 0) aN (ex1 none aKz)
def aFw (d:GDoc) (name:Str):Int->Unit->LC Int Unit aWK
 | a,j =>
 cCnd (decide (a<(ln gZ d.frags)))
  (cOp (oNth gZ d.frags a) fun c =>
  cCnd (c.name==name)
  (cOp (oNth gZ d.frags a) fun b =>
  aP (lR (lE (b.name,b.on_,b.dirs,b.sels) a)))
  (bH (IntKind.wrap .i64 (a+1)) ()))
  (aP (lL () a))
def aCR (d:GDoc) (name:Str) (z:Int):Option (Int⊕(Unit⊕(Str×Str×(List GDir)×(List GSel)))):=(aFw d name z default).x
def aTT (d:GDoc) (name:Str):bFc :=
 cB aS [(.str name),(.ptr 0 2 0),(.ptr 0 4 0),(.bool false),(i6 0),(.str []),(.str []),(.slice [] [] true),(.slice [] [] true),(zq cO d.ops),(zq aL d.frags)] [] (aCR d name) (aFw d name) 0 () <|
 fX (fun a _ =>
 cR ((GFrag.mk [] [] ([]:List GDir) ([]:List GSel)),false)) <| kOne fun a _ =>
 cR ((GFrag.mk a.1 a.2.1 a.2.2.1 a.2.2.2),true)
theorem aWL {d name r} (h:(aTT d name).x=some r):aWi d name=some r:=kV (ds:=⟨[(17,(dR gZ)),(25,(dR gZ))],[(2,[(4,4),(2,2)],⟨aS,[(some 0,⟨aN⟩),(none,⟨aKz⟩)]⟩)]⟩) h (aG aTf) Tryz.func32 (fun _=>by kernel_rfl)
abbrev aWM:=Co fun (r:List Str) (w:PV×UP)=>w=(bS r,[])
def tP (l0:List GSel):((List Str)×Int)->Unit->LC ((List Str)×Int) Unit wA
 | (b,a),j =>
 cCnd (decide (a<(ln kSel l0)))
  (cOp (oNth kSel l0 a) fun c =>
  cCnd (c.kind==1)
  (cOp (oNth kSel l0 a) fun d =>
  cOp (xP b d.name) fun e =>
  cCnd (!e)
   (cOp (oNth kSel l0 a) fun f =>
   cOp (aDp kStr b [f.name] (o:=true)) fun g =>
   cOp (oNth kSel l0 a) fun h =>
   cOp (vX h.sels g) fun i =>
   bH (i,(IntKind.wrap .i64 (a+1))) ())
   (cOp (oNth kSel l0 a) fun k =>
   cOp (vX k.sels b) fun l =>
   bH (l,(IntKind.wrap .i64 (a+1))) ()))
  (cOp (oNth kSel l0 a) fun m =>
  cOp (vX m.sels b) fun n =>
  bH (n,(IntKind.wrap .i64 (a+1))) ()))
  (aP (lE b a))
def qR (l0:List GSel) (z:((List Str)×Int)):Option (((List Str)×Int)⊕((List Str))):=(tP l0 z default).x
def aA0 (l0:List GSel) (out0:List Str):aWM :=
 cB lT [(zq aH l0),(zp PV.str out0),(i6 0)] [] (qR l0) (tP l0) (out0,0) () <|
 kOne fun a _ =>
 cR a
def aKA (l0:List GSel) (out0:List Str):Option (List Str):=(aA0 l0 out0).x
theorem aGh {l0 out0 r} (h:(aA0 l0 out0).x=some r):aBP l0 out0=some r:=kV (ds:=⟨[(14,(dR kSel)),(22,(dR kSel)),(25,(.v aA)),(31,(dR kSel)),(35,(dL kStr)),(38,(dR kSel)),(42,(.v bS))],[(2,[],⟨lT,[(some 0,⟨pQ⟩)]⟩)]⟩) h (aG zM) Tryz.func135 (fun _=>by kernel_rfl)
abbrev aTU:=Co fun (r:List Str) (w:PV×UP)=>w=(bS r,[])
abbrev aNu:=ex1 (some 2) wB
def vL (l0:List GSel) (c:Int):((List Str)×Int)->Unit->LC ((List Str)×Int) Unit aNu
 | (b,a),j =>
 cOp (oNth kSel l0 c) fun d =>
 cCnd (decide (a<(ln kDir d.dirs)))
  (cOp (oNth kSel l0 c) fun e =>
  cOp (oNth kDir e.dirs a) fun f =>
  cOp (aTn f.args b) fun g =>
  bH (g,(IntKind.wrap .i64 (a+1))) ())
  (aP (lE b a))
def oX (l0:List GSel) (a:Int) (z:((List Str)×Int)):Option (((List Str)×Int)⊕((List Str))):=(vL l0 a z default).x
def qS (l0:List GSel):((List Str)×Int)->Unit->LC ((List Str)×Int) Unit wA
 | (b,a),j =>
 cCnd (decide (a<(ln kSel l0)))
  (cOp (oNth kSel l0 a) fun e =>
  cOp (aTn e.args b) fun d =>
  cB uQ [(zq aH l0),(zp PV.str d),(i6 a),(i6 0)] [] (oX l0 a) (vL l0 a) (d,0) () <|
  kOne fun c _ =>
  cOp (oNth kSel l0 a) fun f =>
  cOp (aCz f.sels c) fun g =>
  bH (g,(IntKind.wrap .i64 (a+1))) ())
  (aP (lE b a))
def oY (l0:List GSel) (z:((List Str)×Int)):Option (((List Str)×Int)⊕((List Str))):=(qS l0 z default).x
def yC (l0:List GSel) (out0:List Str):aTU :=
 cB lT [(zq aH l0),(zp PV.str out0),(i6 0)] [] (oY l0) (qS l0) (out0,0) () <|
 kOne fun a _ =>
 cR a
def aIs (l0:List GSel) (out0:List Str):Option (List Str):=(yC l0 out0).x
theorem aEH {l0 out0 r} (h:(yC l0 out0).x=some r):aCy l0 out0=some r:=kV (ds:=⟨[(15,(dR kSel)),(19,(.v bS)),(23,(dR kSel)),(32,(dR kSel)),(36,(dR kDir)),(40,(.v bS)),(43,(dR kSel)),(47,(.v bS))],[(6,[],⟨uQ,[(some 2,⟨wB⟩)]⟩),(2,[],⟨lT,[(some 0,⟨pQ⟩)]⟩)]⟩) h (aG zM) Tryz.func141 (fun _=>by kernel_rfl)
end Go.Proofs.YtenmfogokijilaaGreat

import Derived.Test.YtphmfillajagdaaGreatGa
import Derived.Test.YtphmfillajagdaaGreatEd
import Derived.WalkKit
import Derived.KernelRfl
import Derived.Test.YtphmfillajagdaaGreatGc
import Derived.Test.YtphmfillajagdaaGreatGb
set_option maxRecDepth 100000
set_option linter.unusedVariables false
set_option linter.unusedSimpArgs false
set_option linter.unusedSimpArgs false
open Go Go.Ev Go.Ev.PV
namespace Go.Proofs.YtphmfillajagdaaGreat
abbrev cX:List Sh:=[(.ptr 0 2 0),(.ptr 0 3 0),st',n6,sf,sf,sf,.str,.str]
def vE (O:Orc) (e:LBs):bL:=fun a c=>cnd (chkL cX a) (cnd (chkU [] c)
 (cnd (decide ((iv a 3)<(List.length (ev a 4):Int)))
 (bnd (ix 5 (zs a 4) (zn a 3)) fun d=>cnd (chk (.ref shOp) d)
 (bnd (apd 1 (zo a 2) (.slice [(zs (rf d) 3)] [] true)) fun b=>cnd (chk st' b)
 (some (.nrm,(pu (pu (rb cX a) 2 (.slice (esV b) [] true)) 3 (i6 (w6 ((iv a 3)+1)))),[])) none) none)
 (some (.brk 0,(rb cX a),[]))) none) none
abbrev sY:List Sh:=[(.ptr 0 2 0),(.ptr 0 3 0),st',n6,sf,sf,sf,.str,.str]
def vF (O:Orc) (e:LBs):bL:=fun a c=>cnd (chkL sY a) (cnd (chkU [] c)
 (cnd (decide ((iv a 3)<(List.length (ev a 5):Int)))
 (bnd (ix 4 (zs a 5) (zn a 3)) fun d=>cnd (chk (.ref gW) d)
 (bnd (apd 1 (zo a 2) (.slice [(zs (rf d) 2)] [] true)) fun b=>cnd (chk st' b)
 (some (.nrm,(pu (pu (rb sY a) 2 (.slice (esV b) [] true)) 3 (i6 (w6 ((iv a 3)+1)))),[])) none) none)
 (some (.brk 2,(rb sY a),[]))) none) none
abbrev gP:List Sh:=[st',sf,n6,sf,sf,sf,.str,.str]
def vG (O:Orc) (e:LBs):bL:=fun a c=>cnd (chkL gP a) (cnd (chkU [] c)
 (cnd (decide ((iv a 2)<(List.length (ev a 1):Int)))
 (bnd (ix 8 (zs a 1) (zn a 2)) fun b=>cnd (chk (.ref fE) b)
 (bnd (apd 1 (zo a 0) (.slice [(zs (rf b) 5)] [] true)) fun d=>cnd (chk st' d)
 (some (.nrm,(pu (pu (rb gP a) 0 (.slice (esV d) [] true)) 2 (i6 (w6 ((iv a 2)+1)))),[])) none) none)
 (some (.brk 4,(rb gP a),[]))) none) none
def vH (O:Orc) (e:LBs) (s:GSchema) (d:GDoc):Option (PV×UP) :=
 bnd (e (vE O e) [(.ptr 0 2 0),(.ptr 0 3 0),(.slice [] [] true),(i6 0),(zq aU d.ops),(zq aG d.frags),(zq aH s.defs),(.str s.query),(.str s.mutation)] []) fun b =>
 exIs b.1 (some 0) (cnd (chkL cX b.2.1) (cnd (chkU [] b.2.2)
 (bnd (e (vF O e) [(.ptr 0 2 0),(.ptr 0 3 0),(zo b.2.1 2),(i6 0),(zs b.2.1 4),(zs b.2.1 5),(zs b.2.1 6),(zt b.2.1 7),(zt b.2.1 8)] []) fun a =>
 exIs a.1 (some 2) (cnd (chkL cX a.2.1) (cnd (chkU [] a.2.2)
 (aQ O 58 [(.agg [(zs a.2.1 6),(zt a.2.1 7),(zt a.2.1 8)]),(.agg [(zs a.2.1 4),(zs a.2.1 5)])] fun f=>cnd (chk sf f)
 (bnd (e (vG O e) [(zo a.2.1 2),(.slice (esV f) [] false),(i6 0),(zs a.2.1 4),(zs a.2.1 5),(zs a.2.1 6),(zt a.2.1 7),(zt a.2.1 8)] []) fun c =>
 exIs c.1 (some 4) (cnd (chkL gP c.2.1) (cnd (chkU [] c.2.2)
 (some ((zs c.2.1 0),[])) none) none)
 (none)) none) none) none)
 (none)) none) none)
 (none)
noncomputable def gQ (d:GDoc):((List (List GDir))×Int)->Option (((List (List GDir))×Int)⊕((List (List GDir))))
 | (a,b) =>
 cnd (decide (b<(List.length d.ops:Int)))
  (bnd (nthI d.ops b) fun e =>
  bnd (tapp a [e.dirs]) fun c =>
  some (.inl (c,(IntKind.wrap .i64 (b+1)))))
  (some (.inr a))
abbrev aBw (s:GSchema) (d:GDoc) (a b:PV):List PV:=[(.ptr 0 2 0),(.ptr 0 3 0),a,b,(zq aU d.ops),(zq aG d.frags),(zq aH s.defs),(.str s.query),(.str s.mutation)]
abbrev aBx (s:GSchema) (d:GDoc) (st:(List (List GDir))×Int) (l:List PV) (u:UP):Prop:=l=(aBw s d (.slice (List.map (cL aF) st.1) [] true) (i6 st.2))/\u=[]
abbrev aJO (s:GSchema) (d:GDoc) (p:(List (List GDir))) (r:EU):Prop:=∃ (a:Int),r=(Ex.brk 0,(aBw s d (.slice (List.map (cL aF) p) [] true) (i6 a)),[])
noncomputable def gR (d:GDoc):((List (List GDir))×Int)->Option (((List (List GDir))×Int)⊕((List (List GDir))))
 | (a,b) =>
 cnd (decide (b<(List.length d.frags:Int)))
  (bnd (nthI d.frags b) fun e =>
  bnd (tapp a [e.dirs]) fun c =>
  some (.inl (c,(IntKind.wrap .i64 (b+1)))))
  (some (.inr a))
abbrev aBy (s:GSchema) (d:GDoc) (a b:PV):List PV:=[(.ptr 0 2 0),(.ptr 0 3 0),a,b,(zq aU d.ops),(zq aG d.frags),(zq aH s.defs),(.str s.query),(.str s.mutation)]
abbrev aBz (s:GSchema) (d:GDoc) (st:(List (List GDir))×Int) (l:List PV) (u:UP):Prop:=l=(aBy s d (.slice (List.map (cL aF) st.1) [] true) (i6 st.2))/\u=[]
abbrev aJP (s:GSchema) (d:GDoc) (p:(List (List GDir))) (r:EU):Prop:=∃ (a:Int),r=(Ex.brk 2,(aBy s d (.slice (List.map (cL aF) p) [] true) (i6 a)),[])
noncomputable def gS (c:List GSeineref13Spot):((List (List GDir))×Int)->Option (((List (List GDir))×Int)⊕((List (List GDir))))
 | (a,b) =>
 cnd (decide (b<(List.length c:Int)))
  (bnd (nthI c b) fun e =>
  bnd (tapp a [e.x.dirs]) fun d =>
  some (.inl (d,(IntKind.wrap .i64 (b+1)))))
  (some (.inr a))
abbrev aBA (s:GSchema) (d:GDoc) (a:List GSeineref13Spot) (st:(List (List GDir))×Int) (l:List PV) (u:UP):Prop:=l=[(.slice (List.map (cL aF) st.1) [] true),(zq aJ a),(i6 st.2),(zq aU d.ops),(zq aG d.frags),(zq aH s.defs),(.str s.query),(.str s.mutation)]/\u=[]
abbrev aJQ (s:GSchema) (d:GDoc) (b:List GSeineref13Spot) (p:(List (List GDir))) (r:EU):Prop:=(fun (p:(List (List GDir)))=>∃ (a:Int),r=(Ex.brk 4,[(.slice (List.map (cL aF) p) [] true),(zq aJ b),(i6 a),(zq aU d.ops),(zq aG d.frags),(zq aH s.defs),(.str s.query),(.str s.mutation)],[])) p
noncomputable def rN (s:GSchema) (d:GDoc):Option (List (List GDir)) :=
 bnd (aY (gQ d) ([],0)) fun b =>
 bnd (aY (gR d) (b,0)) fun a =>
 bnd (aB7 s d) fun e =>
 bnd (aY (gS e) (a,0)) fun c =>
 some c
def aLw:Decs:={decs:=[(21,(.ref shOp)),(25,st'),(37,(.ref gW)),(41,st'),(44,sf),(54,(.ref fE)),(59,st')],loops:=[(3,[(3,2),(2,3)],⟨cX,[],[(some 0,cX,[])]⟩),(7,[(3,2),(2,3)],⟨cX,[],[(some 2,cX,[])]⟩),(12,[(3,2),(2,3)],⟨gP,[],[(some 4,gP,[])]⟩)]}
theorem aLx O a s d:eW 120 aLw Tryz.f120 O a [(eS s),(eD d)] []=vH O a s d:=by kernel_rfl
theorem aGG s d:∀ st l u,aBx s d st l u->Imp (gQ d st) (vE O aE l u) (kE (aBx s d) (aJO s d)):=by
 rintro ⟨b,c⟩ l u ⟨rfl,rfl⟩;simp only [gQ,vE,zd,zr];refine zG ?_;try simp only [evs,tys]
 apply Imp.cnd
 ·refine zX aU aDo fun i _ => ?_;try simp only [evs,tys]
  refine Imp.op (f:=fun a => .slice (List.map (cL aF) a) [] true) (fun a h=>pX (enc:=(cL aF)) zI zI (fun a=>by first | rfl | simp only [evs,tys,evc]) h) (fun a=>rfl) fun g e => ?_;try simp only [evs,tys]
  exact zN
 ·exact zB ⟨c,zE⟩
theorem aGH s d:∀ st l u,aBz s d st l u->Imp (gR d st) (vF O aE l u) (kE (aBz s d) (aJP s d)):=by
 rintro ⟨c,b⟩ l u ⟨rfl,rfl⟩;simp only [gR,vF,zd,zr];refine zG ?_;try simp only [evs,tys]
 apply Imp.cnd
 ·refine zX aG iS fun i _ => ?_;try simp only [evs,tys]
  refine Imp.op (f:=fun a => .slice (List.map (cL aF) a) [] true) (fun a h=>pX (enc:=(cL aF)) zI zI (fun a=>by first | rfl | simp only [evs,tys,evc]) h) (fun a=>rfl) fun g e => ?_;try simp only [evs,tys]
  exact zN
 ·exact zB ⟨b,zE⟩
theorem aGI s d b:∀ st l u,aBA s d b st l u->Imp (gS b st) (vG O aE l u) (kE (aBA s d b) (aJQ s d b)):=by
 rintro ⟨e,c⟩ l u ⟨rfl,rfl⟩;simp only [gS,vG,zd,zr];refine zG ?_;try simp only [evs,tys]
 apply Imp.cnd
 ·refine zX aJ lO fun j _ => ?_;try simp only [evs,tys]
  refine Imp.op (f:=fun a => .slice (List.map (cL aF) a) [] true) (fun a h=>pX (enc:=(cL aF)) zI zI (fun a=>by first | rfl | simp only [evs,tys,evc]) h) (fun a=>rfl) fun i g => ?_;try simp only [evs,tys]
  exact zN
 ·exact zB ⟨c,zE⟩
theorem aJR s d:Imp (rN s d) (vH O aE s d) (Ri sT):=by
 simp only [rN,vH,zd,zr];try simp only [evs,tys]
 refine zL (aGG s d) ?_;rintro b _ ⟨f,rfl⟩;refine zH ?_;try simp only [evs,tys]
 refine zL (aGH s d) ?_;rintro a _ ⟨g,rfl⟩;refine zH ?_;try simp only [evs,tys]
 refine zC rfl fun e _ => ?_;try simp only [zes,evs,tys]
 refine zL (aGI s d e) ?_;rintro c _ ⟨h,rfl⟩;refine zH ?_;try simp only [evs,tys]
 exact zR
theorem aJS {s d r} (h:rN s d=some r):aDs s d=some r:=zV aMc (aJR s d) Tryz.func120 (aLx _ _ s d) h
def vI (O:Orc) (b:LBs) (a:Str):Option (PV×UP) :=
 cnd (a==([115,107,105,112]:Str))
 (some ((.tuple [(.agg [(.str [105,102]),(.str [66,111,111,108,101,97,110]),(i6 0),(i6 1),(.bool false),(i6 0),(i6 0),(.str []),(.slice [] [] false),(.slice [] [] false)]),(.bool true)]),[]))
 (cnd (a==([105,110,99,108,117,100,101]:Str))
 (some ((.tuple [(.agg [(.str [105,102]),(.str [66,111,111,108,101,97,110]),(i6 0),(i6 1),(.bool false),(i6 0),(i6 0),(.str []),(.slice [] [] false),(.slice [] [] false)]),(.bool true)]),[]))
 (some ((.tuple [(.agg [(.str []),(.str []),(i6 0),(i6 0),(.bool false),(i6 0),(i6 0),(.str []),(.slice [] [] false),(.slice [] [] false)]),(.bool false)]),[])))
noncomputable def rO (a:Str):Option (GParam×Bool) :=
 cnd (a==([115,107,105,112]:Str))
 (some ((GParam.mk [105,102] (GType.mk [66,111,111,108,101,97,110] 0 1) false (GValue.mk 0 0 [] ([]:List GValue) ([]:List GMember))),true))
 (cnd (a==([105,110,99,108,117,100,101]:Str))
 (some ((GParam.mk [105,102] (GType.mk [66,111,111,108,101,97,110] 0 1) false (GValue.mk 0 0 [] ([]:List GValue) ([]:List GMember))),true))
 (some ((GParam.mk [] (GType.mk [] 0 0) false (GValue.mk 0 0 [] ([]:List GValue) ([]:List GMember))),false)))
def aLy:Decs:={}
theorem aLz O b (a:Str):eW 121 aLy Tryz.f121 O b [(.str a)] []=vI O b a:=by kernel_rfl
theorem aJT a:Imp (rO a) (vI O aE a) (Ri fV):=by
 simp only [rO,vI,zd,zr];try simp only [evs,tys]
 apply Imp.cnd;·exact zR
 ·apply Imp.cnd;·exact zR
  ·exact zR
theorem aJU {a r} (h:rO a=some r):xO a=some r:=zV aAX (aJT a) Tryz.func121 (aLz _ _ a) h
def vJ (O:Orc) (e:LBs):bL:=fun a c=>cnd (chkL [sf,st',n6] a) (cnd (chkU [] c)
 (cnd (decide ((iv a 2)<(List.length (ev a 0):Int)))
 (bnd (ix 2 (zs a 0) (zn a 2)) fun d=>cnd (chk (.ref aCA) d)
 (bnd (apd 1 (zo a 1) (.slice [(zt (rf d) 0)] [] true)) fun b=>cnd (chk st' b)
 (some (.nrm,[(zs a 0),(.slice (esV b) [] true),(i6 (w6 ((iv a 2)+1)))],[])) none) none)
 (some (.brk 0,[(zs a 0),(zo a 1),(zn a 2)],[]))) none) none
def vK (O:Orc) (b:LBs) (c:List GDir):Option (PV×UP) :=
 bnd (b (vJ O b) [(zq aF c),(.slice [] [] true),(i6 0)] []) fun a =>
 exIs a.1 (some 0) (cnd (chkL [sf,st',n6] a.2.1) (cnd (chkU [] a.2.2)
 (some ((zs a.2.1 1),[])) none) none)
 (none)
noncomputable def gT (d:List GDir):((List Str)×Int)->Option (((List Str)×Int)⊕((List Str)))
 | (a,b) =>
 cnd (decide (b<(List.length d:Int)))
  (bnd (nthI d b) fun e =>
  bnd (tapp a [e.name]) fun c =>
  some (.inl (c,(IntKind.wrap .i64 (b+1)))))
  (some (.inr a))
abbrev aJV (a:List GDir) (st:(List Str)×Int) (l:List PV) (u:UP):Prop:=l=[(zq aF a),(zp PV.str st.1),(i6 st.2)]/\u=[]
abbrev aJW (b:List GDir) (p:(List Str)) (r:EU):Prop:=(fun (p:(List Str))=>∃ (a:Int),r=(Ex.brk 0,[(zq aF b),(zp PV.str p),(i6 a)],[])) p
noncomputable def rP (b:List GDir):Option (List Str) :=
 bnd (aY (gT b) ([],0)) fun a =>
 some a
def aLA:Decs:={decs:=[(14,(.ref aCA)),(18,st')],loops:=[(3,[],⟨[sf,st',n6],[],[(some 0,[sf,st',n6],[])]⟩)]}
theorem aLB O a b:eW 122 aLA Tryz.f122 O a [(zq aF b)] []=vK O a b:=by kernel_rfl
theorem aGJ c:Lok (aJV c) (gT c) (vJ O aE) (aJW c):=by
 rintro ⟨b,d⟩ l u ⟨rfl,rfl⟩;simp only [gT,vJ,zd,zr];refine zG ?_;try simp only [evs,tys]
 apply Imp.cnd
 ·refine zX aF tU fun i _ => ?_;try simp only [evs,tys]
  refine Imp.op (f:=fun a => .slice (List.map PV.str a) [] true) (fun a h=>pX (enc:=PV.str) zI zI (fun a=>by first | rfl | simp only [evs,tys,evc]) h) (fun a=>rfl) fun g e => ?_;try simp only [evs,tys]
  exact zN
 ·exact zB ⟨d,zE⟩
theorem aJX b:Imp (rP b) (vK O aE b) (Ri lA):=by
 simp only [rP,vK,zd,zr];try simp only [evs,tys]
 refine zL (aGJ b) ?_;rintro a _ ⟨c,rfl⟩;refine zH ?_;try simp only [evs,tys]
 exact zR
theorem aJY {a r} (h:rP a=some r):sU a=some r:=zV aMa (aJX a) Tryz.func122 (aLB _ _ a) h
def sZ (O:Orc) (c:LBs) (s:GSchema) (a:Str):Option (PV×UP) :=
 aQ O 201 [(eS s),(.str a),(.slice [(i6 1),(i6 2),(i6 3)] [] false)] fun b=>cnd (chk .bool b)
 (some ((.bool (bG b)),[])) none
noncomputable def pP (s:GSchema) (a:Str):Option Bool :=
 bnd (aSO s a [1,2,3]) fun b =>
 some b
def aJZ:Decs:={decs:=[(8,.bool)]}
theorem aJ0 O b s (a:Str):eW 140 aJZ Tryz.f140 O b [(eS s),(.str a)] []=sZ O b s a:=by kernel_rfl
theorem aHY s a:Imp (pP s a) (sZ O aE s a) (Ri aA):=by
 simp only [pP,sZ,zd,zr];try simp only [evs,tys]
 refine zC rfl fun b _ => ?_;try simp only [zes,evs,tys]
 exact zR
theorem aHZ {s a r} (h:pP s a=some r):aA2 s a=some r:=zV aD (aHY s a) Tryz.func140 (aJ0 _ _ s a) h
abbrev mA:List Sh:=[.str,(.ptr 0 4 0),.bool,sf,n6,n6,n6,.str,st',st',st',st',sf,.str,.str]
def aGK (O:Orc) (d:LBs):bL:=fun a c=>cnd (chkL mA a) (cnd (chkU [] c)
 (cnd (decide ((iv a 5)<(iv a 4)))
 (bnd (ix 6 (zs a 3) (zn a 5)) fun b=>cnd (chk (.ref pY) b)
 (cnd ((sv (rf b) 1)==(sv a 0))
 (some (.ret,(pu (pu (pu (pu (pu (pu (pu (rb mA a) 2 (.bool true)) 6 (zn (rf b) 0)) 7 (zt (rf b) 1)) 8 (zs (rf b) 2)) 9 (zs (rf b) 3)) 10 (zs (rf b) 4)) 11 (zs (rf b) 5)),[]))
 (some (.nrm,(pu (rb mA a) 5 (i6 (w6 ((iv a 5)+1)))),[]))) none)
 (some (.brk 0,(rb mA a),[]))) none) none
def aGL (O:Orc) (d:LBs) (s:GSchema) (b:Str):Option (PV×UP) :=
 aQ O 216 [(.str b)] fun c=>cnd (chk .bool c)
 (cnd (bG c)
 (some ((.tuple [(.agg [(i6 0),(.str b),(.slice [] [] false),(.slice [] [] false),(.slice [] [] false),(.slice [] [] false)]),(.bool true)]),[]))
 (bnd (d (aGK O d) [(.str b),(.ptr 0 4 0),(.bool false),(zq aH s.defs),(i6 (List.length (List.map aH s.defs):Int)),(i6 0),(i6 0),(.str []),(.slice [] [] true),(.slice [] [] true),(.slice [] [] true),(.slice [] [] true),(zq aH s.defs),(.str s.query),(.str s.mutation)] []) fun a =>
 exIs a.1 (some 0) (cnd (chkL mA a.2.1) (cnd (chkU [] a.2.2)
 (some ((.tuple [(.agg [(i6 0),(.str []),(.slice [] [] false),(.slice [] [] false),(.slice [] [] false),(.slice [] [] false)]),(.bool false)]),[])) none) none)
 (exIs a.1 none (cnd (chkL [.str,(.ptr 0 4 0),.bool,sf,n6,n6,n6,.str,sf,sf,sf,sf,sf,.str,.str] a.2.1) (cnd (chkU [] a.2.2)
 (some ((.tuple [(.agg [(zn a.2.1 6),(zt a.2.1 7),(zs a.2.1 8),(zs a.2.1 9),(zs a.2.1 10),(zs a.2.1 11)]),(zb a.2.1 2)]),[])) none) none)
 (none)))) none
noncomputable def pE (s:GSchema) (c:Str):Int->Option (Int⊕(Unit⊕(Int×Str×(List Str)×(List GFieldDef)×(List Str)×(List GParam))))
 | b =>
 cnd (decide (b<(List.length s.defs:Int)))
  (bnd (nthI s.defs b) fun a =>
  cnd (a.name==c)
  (some (.inr (.inr (a.kind,a.name,a.faces,a.fields,a.parts,a.params))))
  (some (.inl (IntKind.wrap .i64 (b+1)))))
  (some (.inr (.inl ())))
abbrev aEj (s:GSchema) (a:Str) (d f g e i c b h:PV):List PV:=[(.str a),(.ptr 0 4 0),d,(zq aH s.defs),(i6 (List.length s.defs:Int)),f,g,e,i,c,b,h,(zq aH s.defs),(.str s.query),(.str s.mutation)]
abbrev aT5 (s:GSchema) (a:Str) (st:Int) (l:List PV) (u:UP):Prop:=l=(aEj s a (.bool false) (i6 st) (i6 0) (.str []) (.slice [] [] true) (.slice [] [] true) (.slice [] [] true) (.slice [] [] true))/\u=[]
abbrev aT6 (s:GSchema) (a:Str) (p:Unit⊕(Int×Str×(List Str)×(List GFieldDef)×(List Str)×(List GParam))) (r:EU):Prop:=elim p (fun (p:Unit)=>∃ (c:Int),r=(Ex.brk 0,(aEj s a (.bool false) (i6 c) (i6 0) (.str []) (.slice [] [] true) (.slice [] [] true) (.slice [] [] true) (.slice [] [] true)),[])) (fun (p:Int×Str×(List Str)×(List GFieldDef)×(List Str)×(List GParam))=>∃ (b:Int),r=(Ex.ret,(aEj s a (.bool true) (i6 b) (i6 p.1) (.str p.2.1) (zq PV.str p.2.2.1) (zq aL p.2.2.2.1) (zq PV.str p.2.2.2.2.1) (zq aR p.2.2.2.2.2)),[]))
noncomputable def aFl (s:GSchema) (b:Str):Option (GDef×Bool) :=
 bnd (aJp b) fun d =>
 cnd d
 (some ((GDef.mk 0 b ([]:List Str) ([]:List GFieldDef) ([]:List Str) ([]:List GParam)),true))
 (bnd (aY (pE s b) 0) fun c=>elim c
 (fun a =>
 some ((GDef.mk 0 [] ([]:List Str) ([]:List GFieldDef) ([]:List Str) ([]:List GParam)),false))
 (fun a =>
 some ((GDef.mk a.1 a.2.1 a.2.2.1 a.2.2.2.1 a.2.2.2.2.1 a.2.2.2.2.2),true)))
def aXE:Decs:={decs:=[(9,.bool),(17,(.ref pY))],loops:=[(4,[(4,6),(2,3)],⟨mA,[],[(some 0,mA,[]),(none,[.str,(.ptr 0 4 0),.bool,sf,n6,n6,n6,.str,sf,sf,sf,sf,sf,.str,.str],[])]⟩)]}
theorem aXF O b s (a:Str):eW 178 aXE Tryz.f178 O b [(eS s),(.str a)] []=aGL O b s a:=by kernel_rfl
theorem aN9 s a:Lok (aT5 s a) (pE s a) (aGK O aE) (aT6 s a):=by
 rintro b l u ⟨rfl,rfl⟩;simp only [pE,aGK,zd,zr];refine zG ?_;try simp only [evs,tys]
 apply Imp.cnd
 ·refine zX aH aB2 fun c _ => ?_;try simp only [evs,tys]
  apply Imp.cnd;·exact zT ⟨b,zE⟩
  ·exact zN
 ·exact zB ⟨b,zE⟩
theorem aT7 s a:Imp (aFl s a) (aGL O aE s a) (Ri tY):=by
 simp only [aFl,aGL,zd,zr];try simp only [evs,tys]
 refine zC rfl fun l _ => ?_;try simp only [zes,evs,tys]
 apply Imp.cnd;·exact zR
 ·refine zL (aN9 s a) ?_;rintro (p | ⟨i,g,f,e,j,h⟩) d b
  ·try simp only [aK,aM]
   obtain ⟨k,rfl⟩:=b;refine zH ?_;try simp only [evs,tys]
   exact zR
  ·try simp only [aK,aM]
   obtain ⟨c,rfl⟩:=b;refine Imp.exMiss rfl ?_;refine zH ?_;try simp only [evs,tys]
   exact zR
theorem aT8 {s a r} (h:aFl s a=some r):aJo s a=some r:=zV aPE (aT7 s a) Tryz.func178 (aXF _ _ s a) h
def aGM (O:Orc) (d:LBs) (s:GSchema) (b:Str) (a:List Int):Option (PV×UP) :=
 aQ O 178 [(eS s),(.str b)] fun c=>cnd (chk (.tup [pY,.bool]) c)
 (cnd (bG (tv c 1))
 (aQ O 228 [(.slice (List.map (PV.int .i64) a) [] false),(zn (tg c 0) 0)] fun x3=>cnd (chk .bool x3)
 (some ((.bool (bG x3)),[])) none)
 (some ((.bool false),[]))) none
noncomputable def aFm (s:GSchema) (b:Str) (a:List Int):Option Bool :=
 bnd (aJo s b) fun c =>
 cnd c.2
 (bnd (iJ a c.1.kind) fun d =>
 some d)
 (some false)
def aXG:Decs:={decs:=[(12,(.tup [pY,.bool])),(20,.bool)]}
theorem aXH O c s (b:Str) a:eW 201 aXG Tryz.f201 O c [(eS s),(.str b),(.slice (List.map (PV.int .i64) a) [] false)] []=aGM O c s b a:=by kernel_rfl
theorem aT9 s b a:Imp (aFm s b a) (aGM O aE s b a) (Ri aA):=by
 simp only [aFm,aGM,zd,zr];try simp only [evs,tys]
 refine zC rfl fun d _ => ?_;try simp only [zes,evs,tys]
 apply Imp.cnd
 ·refine zC rfl fun c _ => ?_;try simp only [zes,evs,tys]
  exact zR
 ·exact zR
theorem aUa {s b a r} (h:aFm s b a=some r):aSO s b a=some r:=zV aD (aT9 s b a) Tryz.func201 (aXH _ _ s b a) h
def aBB (O:Orc) (b:LBs) (a:Str):Option (PV×UP) :=
 cnd (a==([73,110,116]:Str))
 (some ((.bool true),[]))
 (cnd (a==([83,116,114,105,110,103]:Str))
 (some ((.bool true),[]))
 (cnd (a==([66,111,111,108,101,97,110]:Str))
 (some ((.bool true),[]))
 (some ((.bool (a==([73,68]:Str))),[]))))
noncomputable def yV (a:Str):Option Bool :=
 cnd (a==([73,110,116]:Str))
 (some true)
 (cnd (a==([83,116,114,105,110,103]:Str))
 (some true)
 (cnd (a==([66,111,111,108,101,97,110]:Str))
 (some true)
 (some (a==([73,68]:Str)))))
def aQ2:Decs:={}
theorem aQ3 O b (a:Str):eW 216 aQ2 Tryz.f216 O b [(.str a)] []=aBB O b a:=by kernel_rfl
theorem aOa a:Imp (yV a) (aBB O aE a) (Ri aA):=by
 simp only [yV,aBB,zd,zr];try simp only [evs,tys]
 apply Imp.cnd;·exact zR
 ·apply Imp.cnd;·exact zR
  ·apply Imp.cnd;·exact zR
   ·exact zR
theorem aOb {a r} (h:yV a=some r):aJp a=some r:=zV aD (aOa a) Tryz.func216 (aQ3 _ _ a) h
def fC (O:Orc) (b:LBs) (s:List Int) (v0:Int):Option (PV×UP) :=
 aQ O 245 [(.slice (List.map (PV.int .i64) s) [] false),(i6 v0)] fun a=>cnd (chk n6 a)
 (some ((.bool (decide ((intV a)≥0))),[])) none
noncomputable def dM (s:List Int) (v0:Int):Option Bool :=
 bnd (gE s v0) fun a =>
 some (decide (a≥0))
def tH:Decs:={decs:=[(7,n6)]}
theorem tI O a s v0:eW 228 tH Tryz.f228 O a [(.slice (List.map (PV.int .i64) s) [] false),(i6 v0)] []=fC O a s v0:=by kernel_rfl
theorem tA s v0:Imp (dM s v0) (fC O aE s v0) (Ri aA):=by
 simp only [dM,fC,zd,zr];try simp only [evs,tys]
 refine zC rfl fun a _ => ?_;try simp only [zes,evs,tys]
 exact zR
theorem tB {s v0 r} (h:dM s v0=some r):iJ s v0=some r:=zV aD (tA s v0) Tryz.func228 (tI _ _ s v0) h
abbrev bD:List Sh:=[sf,n6,n6,n6,n6]
def iN (O:Orc) (d:LBs):bL:=fun a b=>cnd (chkL bD a) (cnd (chkU [] b)
 (cnd (decide ((iv a 4)<(iv a 3)))
 (bnd (ix 1 (zs a 0) (zn a 4)) fun c=>cnd (chk (.ref n6) c)
 (cnd ((iv a 1)==(intV (refV c)))
 (some (.ret,(pu (rb bD a) 2 (zn a 4)),[]))
 (some (.nrm,(pu (rb bD a) 4 (i6 (w6 ((iv a 4)+1)))),[]))) none)
 (some (.brk 0,(rb bD a),[]))) none) none
def iO (O:Orc) (b:LBs) (s:List Int) (v0:Int):Option (PV×UP) :=
 bnd (b (iN O b) [(.slice (List.map (PV.int .i64) s) [] false),(i6 v0),(i6 0),(i6 (List.length (List.map (PV.int .i64) s):Int)),(i6 0)] []) fun a =>
 exIs a.1 (some 0) (cnd (chkL bD a.2.1) (cnd (chkU [] a.2.2)
 (some ((i6 (-1)),[])) none) none)
 (exIs a.1 none (cnd (chkL bD a.2.1) (cnd (chkU [] a.2.2)
 (some ((zn a.2.1 2),[])) none) none)
 (none))
noncomputable def cB (s:List Int) (v0:Int):Int->Option (Int⊕(Unit⊕Int))
 | a =>
 cnd (decide (a<(List.length s:Int)))
  (bnd (nthI s a) fun b =>
  cnd (v0==b)
  (some (.inr (.inr a)))
  (some (.inl (IntKind.wrap .i64 (a+1)))))
  (some (.inr (.inl ())))
abbrev gU (s:List Int) (v0:Int) (a b:PV):List PV:=[(.slice (List.map (PV.int .i64) s) [] false),(i6 v0),a,(i6 (List.length s:Int)),b]
abbrev wM (s:List Int) (v0:Int) (st:Int) (l:List PV) (u:UP):Prop:=l=(gU s v0 (i6 0) (i6 st))/\u=[]
abbrev wN (s:List Int) (v0:Int) (p:Unit⊕Int) (r:EU):Prop:=elim p (fun (p:Unit)=>∃ (b:Int),r=(Ex.brk 0,(gU s v0 (i6 0) (i6 b)),[])) (fun (p:Int)=>∃ (a:Int),r=(Ex.ret,(gU s v0 (i6 p) (i6 a)),[]))
noncomputable def dD (s:List Int) (v0:Int):Option Int :=
 bnd (aY (cB s v0) 0) fun a=>elim a
 (fun c =>
 some (-1))
 (fun b =>
 some b)
def yW:Decs:={decs:=[(14,(.ref n6))],loops:=[(2,[],⟨bD,[],[(some 0,bD,[]),(none,bD,[])]⟩)]}
theorem yX O a s v0:eW 245 yW Tryz.f245 O a [(.slice (List.map (PV.int .i64) s) [] false),(i6 v0)] []=iO O a s v0:=by kernel_rfl
theorem tJ s v0:Lok (wM s v0) (cB s v0) (iN O aE) (wN s v0):=by
 rintro b l u ⟨rfl,rfl⟩;simp only [cB,iN,zd,zr];refine zG ?_;try simp only [evs,tys]
 apply Imp.cnd
 ·refine Imp.op (f:=fun a => .ref ((PV.int .i64) a)) (fun a h=>aI0 (enc:=(PV.int .i64)) zI ⟨zA,by decide⟩ h) (fun a=>rfl) fun d c => ?_;try simp only [evs,tys]
  apply Imp.cnd;·exact zT ⟨b,zE⟩
  ·exact zN
 ·exact zB ⟨b,zE⟩
theorem wO s v0:Imp (dD s v0) (iO O aE s v0) (Ri cS):=by
 simp only [dD,iO,zd,zr];try simp only [evs,tys]
 refine zL (tJ s v0) ?_;rintro (p | d) b a
 ·try simp only [aK,aM]
  obtain ⟨e,rfl⟩:=a;refine zH ?_;try simp only [evs,tys]
  exact zR
 ·try simp only [aK,aM]
  obtain ⟨c,rfl⟩:=a;refine Imp.exMiss rfl ?_;refine zH ?_;try simp only [evs,tys]
  exact zR
theorem wP {s v0 r} (h:dD s v0=some r):gE s v0=some r:=zV aB5 (wO s v0) Tryz.func245 (yX _ _ s v0) h
open Go Go.Ev Go.Ev.PV
open Go.RowKit
def GM:Mem:=fun _ _=>none
theorem xok:aSf Tryz.prog GM XT:=by
 intro f g h;simp only [XT,Go.Ev.look] at h;repeat (split at h;· rename_i a;subst a;cases h;exact bBw)
 simp at h
theorem bFE:Tryz.prog.follows .mixedOrders=true:=by kernel_rfl
theorem bFF : (Tryz.prog.funcs.toList.all fun a => !a.body.isSome || !(a.name == "runtime.NumGoroutine")) = true := by kernel_rfl
theorem pokX:POk Tryz.prog:=by
 refine ⟨bFE,fun f a c b => ?_⟩;have d:a∈Tryz.prog.funcs.toList:=by
  have:=Array.mem_of_getElem? c;simpa using this
 have:=List.all_eq_true.1 bFF a d;rw [b] at this;simpa using this
end Go.Proofs.YtphmfillajagdaaGreat

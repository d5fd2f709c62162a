import Derived.Test.YtphmfillajagdaaGreatGa
set_option maxRecDepth 100000
set_option linter.unusedVariables false
set_option linter.unusedSimpArgs false
set_option linter.unusedSimpArgs false
open Go Go.Ev Go.Ev.PV
namespace Go.Proofs.YtphmfillajagdaaGreat
abbrev dK:List Sh:=[.bool,sf,n6,n6]
def yE (O:Orc) (e:LBs):bL:=fun a b=>cnd (chkL dK a) (cnd (chkU [] b)
 (cnd (decide ((iv a 3)<(iv a 2)))
 (bnd (ix 2 (zs a 1) (zn a 3)) fun d=>cnd (chk (.ref aCA) d)
 (aQ O 34 [(zt (rf d) 0)] fun c=>cnd (chk (.tup [gK,.bool]) c)
 (cnd (!(bG (tv c 1)))
 (some (.ret,(pu (rb dK a) 0 (.bool false)),[]))
 (some (.nrm,(pu (rb dK a) 3 (i6 (w6 ((iv a 3)+1)))),[]))) none) none)
 (some (.brk 0,(rb dK a),[]))) none) none
def yF (O:Orc) (b:LBs) (c:List GDir):Option (PV×UP) :=
 bnd (b (yE O b) [(.bool false),(zq aF c),(i6 (List.length (List.map aF c):Int)),(i6 0)] []) fun a =>
 exIs a.1 (some 0) (cnd (chkL dK a.2.1) (cnd (chkU [] a.2.2)
 (some ((.bool true),[])) none) none)
 (exIs a.1 none (cnd (chkL dK a.2.1) (cnd (chkU [] a.2.2)
 (some ((zb a.2.1 0),[])) none) none)
 (none))
noncomputable def iY (c:List GDir):Int->Option (Int⊕(Unit⊕Unit))
 | a =>
 cnd (decide (a<(List.length c:Int)))
  (bnd (nthI c a) fun d =>
  bnd (aB8 d.name) fun b =>
  cnd (!b.2)
  (some (.inr (.inr ())))
  (some (.inl (IntKind.wrap .i64 (a+1)))))
  (some (.inr (.inl ())))
abbrev uY (a:List GDir) (b:PV):List PV:=[(.bool false),(zq aF a),(i6 (List.length a:Int)),b]
abbrev aK1 (a:List GDir) (st:Int) (l:List PV) (u:UP):Prop:=l=(uY a (i6 st))/\u=[]
abbrev aK2 (c:List GDir) (p:Unit⊕Unit) (r:EU):Prop:=elim p (fun (p:Unit)=>∃ (a:Int),r=(Ex.brk 0,(uY c (i6 a)),[])) (fun (p:Unit)=>∃ (b:Int),r=(Ex.ret,(uY c (i6 b)),[]))
noncomputable def uD (c:List GDir):Option Bool :=
 bnd (aY (iY c) 0) fun a=>elim a
 (fun b =>
 some true)
 (fun b =>
 some false)
def aNB:Decs:={decs:=[(11,(.ref aCA)),(16,(.tup [gK,.bool]))],loops:=[(2,[],⟨dK,[],[(some 0,dK,[]),(none,dK,[])]⟩)]}
theorem aNC O a b:eW 39 aNB Tryz.f39 O a [(zq aF b)] []=yF O a b:=by kernel_rfl
theorem aHP b:Lok (aK1 b) (iY b) (yE O aE) (aK2 b):=by
 rintro a l u ⟨rfl,rfl⟩;simp only [iY,yE,zd,zr];refine zG ?_;try simp only [evs,tys]
 apply Imp.cnd
 ·refine zX aF tU fun d _ => ?_;try simp only [evs,tys]
  refine zC rfl fun c _ => ?_;try simp only [zes,evs,tys]
  apply Imp.cnd;·exact zT ⟨a,zE⟩
  ·exact zN
 ·exact zB ⟨a,zE⟩
theorem aK3 b:Imp (uD b) (yF O aE b) (Ri aA):=by
 simp only [uD,yF,zd,zr];try simp only [evs,tys]
 refine zL (aHP b) ?_;rintro (p | p) e a
 ·try simp only [aK,aM]
  obtain ⟨c,rfl⟩:=a;refine zH ?_;try simp only [evs,tys]
  exact zR
 ·try simp only [aK,aM]
  obtain ⟨d,rfl⟩:=a;refine Imp.exMiss rfl ?_;refine zH ?_;try simp only [evs,tys]
  exact zR
theorem aK4 {a r} (h:uD a=some r):aB9 a=some r:=zV aD (aK3 a) Tryz.func39 (aNC _ _ a) h
def aGs (O:Orc) (a:LBs) (s:GSchema) (o:GOp):Option (PV×UP) :=
 cnd (o.kind==1)
 (some ((.str s.mutation),[]))
 (some ((.str s.query),[]))
noncomputable def aFb (s:GSchema) (o:GOp):Option Str :=
 cnd (o.kind==1)
 (some s.mutation)
 (some s.query)
def aXd:Decs:={}
theorem aXe O a s o:eW 68 aXd Tryz.f68 O a [(eS s),(.agg [(i6 o.kind),(.str o.name),(zq bC o.vars),(zq aF o.dirs),(zq aI o.sels)])] []=aGs O a s o:=by kernel_rfl
theorem aTm s o:Imp (aFb s o) (aGs O aE s o) (Ri nS):=by
 simp only [aFb,aGs,zd,zr];try simp only [evs,tys]
 apply Imp.cnd;·exact zR
 ·exact zR
theorem aTn {s o r} (h:aFb s o=some r):aJl s o=some r:=zV aE3 (aTm s o) Tryz.func68 (aXe _ _ s o) h
def aBf (O:Orc) (c:LBs) (s:GSchema) (a:Str) (x:GSel):Option (PV×UP) :=
 cnd (x.kind==0)
 (aQ O 109 [(eS s),(.str a),(.str x.name)] fun b=>cnd (chk (.tup [cO,.bool]) b)
 (some ((zt (tg b 0) 2),[])) none)
 (cnd (x.kind==2)
 (cnd (!(x.on_==([]:Str)))
 (some ((.str x.on_),[]))
 (cnd (x.kind==2)
 (some ((.str a),[]))
 (some ((.str []),[]))))
 (cnd (x.kind==2)
 (some ((.str a),[]))
 (some ((.str []),[]))))
noncomputable def yG (s:GSchema) (a:Str) (x:GSel):Option Str :=
 cnd (x.kind==0)
 (bnd (aNh s a x.name) fun b =>
 some b.1.t.name)
 (cnd (x.kind==2)
 (cnd (!(x.on_==([]:Str)))
 (some x.on_)
 (cnd (x.kind==2)
 (some a)
 (some [])))
 (cnd (x.kind==2)
 (some a)
 (some [])))
def aQh:Decs:={decs:=[(18,(.tup [cO,.bool]))]}
theorem aQi O b s (a:Str) x:eW 138 aQh Tryz.f138 O b [(eS s),(.str a),(eL x)] []=aBf O b s a x:=by kernel_rfl
theorem aND s a x:Imp (yG s a x) (aBf O aE s a x) (Ri nS):=by
 simp only [yG,aBf,zd,zr];try simp only [evs,tys]
 apply Imp.cnd
 ·refine zC rfl fun b _ => ?_;try simp only [zes,evs,tys]
  exact zR
 ·apply Imp.cnd
  ·apply Imp.cnd;·exact zR
   ·apply Imp.cnd;·exact zR
    ·exact zR
  ·apply Imp.cnd;·exact zR
   ·exact zR
theorem aNE {s a x r} (h:yG s a x=some r):wB s a x=some r:=zV aE3 (aND s a x) Tryz.func138 (aQi _ _ s a x) h
def yH (O:Orc) (b:LBs) (a:List GDir):Option (PV×UP) :=
 some ((.bool ((List.length (List.map aF a):Int)==0)),[])
noncomputable def uE (a:List GDir):Option Bool :=
 some ((List.length a:Int)==0)
def aNF:Decs:={}
theorem aNG O a b:eW 41 aNF Tryz.f41 O a [(zq aF b)] []=yH O a b:=by kernel_rfl
theorem aK5 a:Imp (uE a) (yH O aE a) (Ri aA):=by
 simp only [uE,yH,zd,zr];try simp only [evs,tys]
 exact zR
theorem aK6 {a r} (h:uE a=some r):aF4 a=some r:=zV aD (aK5 a) Tryz.func41 (aNG _ _ a) h
abbrev iM:List Sh:=[sf,.bool,(.ptr 0 5 0),sf,n6,n6,(.slb false),n6,n6,.str,sf]
def aBg (O:Orc) (d:LBs):bL:=fun a c=>cnd (chkL iM a) (cnd (chkU [] c)
 (cnd (decide ((iv a 8)<(iv a 7)))
 (bnd (ix 2 (.slice (ev a 6) (bsV (gt a 6)) false) (zn a 8)) fun b=>cnd (chk (.ref aCA) b)
 (cnd ((sv (rf b) 0)==(sv a 9))
 (some (.brk 0,(pu (pu (rb iM a) 1 (.bool false)) 6 (.slice (ev a 6) (bsV (gt a 6)) false)),[]))
 (some (.nrm,(pu (pu (rb iM a) 6 (.slice (ev a 6) (bsV (gt a 6)) false)) 8 (i6 (w6 ((iv a 8)+1)))),[]))) none)
 (some (.brk 2,(pu (rb iM a) 6 (.slice (ev a 6) (bsV (gt a 6)) false)),[]))) none) none
abbrev nY:List Sh:=[sf,.bool,sf,n6,n6]
def aBh (O:Orc) (f:LBs):bL:=fun b e=>cnd (chkL nY b) (cnd (chkU [] e)
 (cnd (decide ((iv b 4)<(iv b 3)))
 (bnd (ix 2 (zs b 2) (zn b 4)) fun d=>cnd (chk (.ref aCA) d)
 (bnd (aWp 2 (zs b 0) (zn b 4)) fun c=>cnd (chk (.slb false) c)
 (bnd (f (aBg O f) [(zs b 0),(zb b 1),(.ptr 0 5 0),(zs b 2),(zn b 3),(zn b 4),(.slice (esV c) (bsV c) false),(i6 (List.length (esV c):Int)),(i6 0),(zt (rf d) 0),(zs (rf d) 1)] []) fun a =>
 exIs a.1 (some 2) (cnd (chkL [sf,.bool,(.ptr 0 5 0),sf,n6,n6,(.slb false),n6,n6,.str,sf] a.2.1) (cnd (chkU [] a.2.2)
 (some (.nrm,[(zs a.2.1 0),(zb a.2.1 1),(zs a.2.1 3),(zn a.2.1 4),(i6 (w6 ((iv a.2.1 5)+1)))],[])) none) none)
 (exIs a.1 (some 0) (cnd (chkL [sf,.bool,(.ptr 0 5 0),sf,n6,n6,(.slb false),n6,n6,.str,sf] a.2.1) (cnd (chkU [] a.2.2)
 (some (.brk 0,[(zs a.2.1 0),(zb a.2.1 1),(zs a.2.1 3),(zn a.2.1 4),(zn a.2.1 5)],[])) none) none)
 (none))) none) none)
 (some (.brk 0,(rb nY b),[]))) none) none
def aBi (O:Orc) (c:LBs) (b:List GDir):Option (PV×UP) :=
 bnd (c (aBh O c) [(zq aF b),(.bool true),(zq aF b),(i6 (List.length (List.map aF b):Int)),(i6 0)] []) fun a =>
 exIs a.1 (some 0) (cnd (chkL nY a.2.1) (cnd (chkU [] a.2.2)
 (some ((zb a.2.1 1),[])) none) none)
 (none)
noncomputable def kK (c:GDir) (b:List GDir):Int->Option (Int⊕(Unit⊕Unit))
 | a =>
 cnd (decide (a<(List.length b:Int)))
  (bnd (nthI b a) fun d =>
  cnd (d.name==c.name)
  (some (.inr (.inr ())))
  (some (.inl (IntKind.wrap .i64 (a+1)))))
  (some (.inr (.inl ())))
abbrev yI (d:List GDir) (b:Int) (a:GDir) (c:List GDir) (e f g:PV):List PV:=[(zq aF d),e,(.ptr 0 5 0),(zq aF d),(i6 (List.length d:Int)),(i6 b),f,(i6 (List.length c:Int)),g,(.str a.name),(zq aC a.args)]
abbrev aFc (e:List GDir) (c:Int) (d:GDir) (b:List GDir) (st:Int) (l:List PV) (u:UP):Prop:=∃ (a:List GDir),l=(yI e c d b (.bool true) (.slice (List.map aF b) (List.map aF a) false) (i6 st))/\u=[]
abbrev aNH (g:List GDir) (c:Int) (f:GDir) (b:List GDir) (p:Unit⊕Unit) (r:EU):Prop:=elim p (fun (p:Unit)=>∃ (a:List GDir),∃ (e:Int),r=(Ex.brk 2,(yI g c f b (.bool true) (.slice (List.map aF b) (List.map aF a) false) (i6 e)),[])) (fun (p:Unit)=>∃ (a:List GDir),∃ (d:Int),r=(Ex.brk 0,(yI g c f b (.bool false) (.slice (List.map aF b) (List.map aF a) false) (i6 d)),[]))
noncomputable def kL (f:List GDir):Int->Option (Int⊕Bool)
 | a =>
 cnd (decide (a<(List.length f:Int)))
  (bnd (nthI f a) fun c =>
  bnd (tslc (f:List GDir) 0 a) fun d =>
  bnd (aY (kK c d) 0) fun b=>elim b
  (fun e =>
  some (.inl (IntKind.wrap .i64 (a+1))))
  (fun e =>
  some (.inr false)))
  (some (.inr true))
abbrev aNI (a:List GDir) (st:Int) (l:List PV) (u:UP):Prop:=l=[(zq aF a),(.bool true),(zq aF a),(i6 (List.length a:Int)),(i6 st)]/\u=[]
abbrev aNJ (b:List GDir) (p:Bool) (r:EU):Prop:=(fun (p:Bool)=>∃ (a:Int),r=(Ex.brk 0,[(zq aF b),(.bool p),(zq aF b),(i6 (List.length b:Int)),(i6 a)],[])) p
noncomputable def yJ (b:List GDir):Option Bool :=
 bnd (aY (kL b) 0) fun a =>
 some a
def aQj:Decs:={decs:=[(13,(.ref aCA)),(17,(.slb false)),(21,(.ref aCA))],loops:=[(3,[],⟨nY,[],[(some 0,nY,[])]⟩),(6,[(5,2)],⟨iM,[],[(some 2,iM,[]),(some 0,iM,[])]⟩)]}
theorem aQk O a b:eW 42 aQj Tryz.f42 O a [(zq aF b)] []=aBi O a b:=by kernel_rfl
theorem aJx f b c d:∀ st l u,aFc f b c d st l u->Imp (kK c d st) (aBg O aE l u) (kE (aFc f b c d) (aNH f b c d)):=by
 rintro e l u ⟨a,rfl,rfl⟩;simp only [kK,aBg,zd,zr];refine zG ?_;try simp only [evs,tys]
 apply Imp.cnd
 ·refine zX aF tU fun g _ => ?_;try simp only [evs,tys]
  apply Imp.cnd;·exact zB ⟨a,e,zE⟩
  ·exact Imp.some (kE.next ⟨a,zI,rfl⟩)
 ·exact zB ⟨a,e,zE⟩
theorem aJy g:Lok (aNI g) (kL g) (aBh O aE) (aNJ g):=by
 rintro d l u ⟨rfl,rfl⟩;simp only [kL,aBh,zd,zr];refine zG ?_;try simp only [evs,tys]
 apply Imp.cnd
 ·refine zX aF tU fun i _ => ?_;try simp only [evs,tys]
  refine Imp.op2 (f:=fun a b => .slice (List.map aF a) (List.map aF b) false) (fun a h=>bBk (enc:=aF) (b:=_) zI (by first | rfl | exact List.map_nil.symm | simp only [evs,tys,evl]) (fun a=>by first | rfl | simp only [evs,tys,evc]) h) (fun a b=>rfl) fun j c o => ?_;try simp only [evs,tys]
  refine Imp.bnd (Imp.loop (aJx g d i j) ⟨c,zI,rfl⟩) ?_;rintro (p | p) m e
  ·try simp only [aK,aM]
   obtain ⟨c,n,rfl⟩:=e;refine zH ?_;try simp only [evs,tys]
   exact zN
  ·try simp only [aK,aM]
   obtain ⟨c,k,rfl⟩:=e;refine Imp.exMiss rfl ?_;refine zH ?_;try simp only [evs,tys]
   exact zB ⟨d,zE⟩
 ·exact zB ⟨d,zE⟩
theorem aNK b:Imp (yJ b) (aBi O aE b) (Ri aA):=by
 simp only [yJ,aBi,zd,zr];try simp only [evs,tys]
 refine zL (aJy b) ?_;rintro a _ ⟨c,rfl⟩;refine zH ?_;try simp only [evs,tys]
 exact zR
theorem aNL {a r} (h:yJ a=some r):aE4 a=some r:=zV aD (aNK a) Tryz.func42 (aQk _ _ a) h
def yK (O:Orc) (g:LBs):bL:=fun b f=>cnd (chkL [sf,st',n6] b) (cnd (chkU [] f)
 (cnd (decide ((iv b 2)<(List.length (ev b 0):Int)))
 (bnd (ix 6 (zs b 0) (zn b 2)) fun e=>cnd (chk (.ref dU) e)
 (bnd (ix 6 (zs b 0) (zn b 2)) fun a=>cnd (chk (.ref dU) a)
 (aQ O 175 [(.agg [(zn (rf a) 1),(zn (rf a) 2),(zt (rf a) 3),(zs (rf a) 4),(zs (rf a) 5)])] fun c=>cnd (chk nO c)
 (bnd (apd 6 (zo b 1) (.slice [(.agg [(zt (rf e) 0),(i6 (intV (gt (aggV c) 0))),(i6 (intV (gt (aggV c) 1))),(.str (strV (gt (aggV c) 2))),(.slice (esV (gt (aggV c) 3)) [] false),(.slice (esV (gt (aggV c) 4)) [] false)])] [] true)) fun d=>cnd (chk st' d)
 (some (.nrm,[(zs b 0),(.slice (esV d) [] true),(i6 (w6 ((iv b 2)+1)))],[])) none) none) none) none)
 (some (.brk 0,[(zs b 0),(zo b 1),(zn b 2)],[]))) none) none
def yL (O:Orc) (b:LBs) (c:List GMember):Option (PV×UP) :=
 bnd (b (yK O b) [(zq aC c),(.slice [] [] true),(i6 0)] []) fun a =>
 exIs a.1 (some 0) (cnd (chkL [sf,st',n6] a.2.1) (cnd (chkU [] a.2.2)
 (some ((zs a.2.1 1),[])) none) none)
 (none)
noncomputable def iZ (g:List GMember):((List GMember)×Int)->Option (((List GMember)×Int)⊕((List GMember)))
 | (b,a) =>
 cnd (decide (a<(List.length g:Int)))
  (bnd (nthI g a) fun f =>
  bnd (nthI g a) fun d =>
  bnd (aCf d.v) fun e =>
  bnd (tapp b [(GMember.mk f.name e)]) fun c =>
  some (.inl (c,(IntKind.wrap .i64 (a+1)))))
  (some (.inr b))
abbrev aK7 (a:List GMember) (st:(List GMember)×Int) (l:List PV) (u:UP):Prop:=l=[(zq aC a),(zp aC st.1),(i6 st.2)]/\u=[]
abbrev aK8 (b:List GMember) (p:(List GMember)) (r:EU):Prop:=(fun (p:(List GMember))=>∃ (a:Int),r=(Ex.brk 0,[(zq aC b),(zp aC p),(i6 a)],[])) p
noncomputable def uF (b:List GMember):Option (List GMember) :=
 bnd (aY (iZ b) ([],0)) fun a =>
 some a
def aNM:Decs:={decs:=[(14,(.ref dU)),(19,(.ref dU)),(22,nO),(25,st')],loops:=[(3,[],⟨[sf,st',n6],[],[(some 0,[sf,st',n6],[])]⟩)]}
theorem aNN O a b:eW 103 aNM Tryz.f103 O a [(zq aC b)] []=yL O a b:=by kernel_rfl
theorem aHQ d:Lok (aK7 d) (iZ d) (yK O aE) (aK8 d):=by
 rintro ⟨c,b⟩ l u ⟨rfl,rfl⟩;simp only [iZ,yK,zd,zr];refine zG ?_;try simp only [evs,tys]
 apply Imp.cnd
 ·refine zX aC fU fun k _ => ?_;try simp only [evs,tys]
  refine zX aC fU fun i _ => ?_;try simp only [evs,tys]
  refine zC rfl fun j _ => ?_;try simp only [zes,evs,tys]
  refine Imp.op (f:=fun a => .slice (List.map aC a) [] true) (fun a h=>pX (enc:=aC) zI zI (fun a=>by first | rfl | simp only [evs,tys,evc]) h) (fun a=>rfl) fun g e => ?_;try simp only [evs,tys]
  exact zN
 ·exact zB ⟨b,zE⟩
theorem aK9 b:Imp (uF b) (yL O aE b) (Ri oR):=by
 simp only [uF,yL,zd,zr];try simp only [evs,tys]
 refine zL (aHQ b) ?_;rintro a _ ⟨c,rfl⟩;refine zH ?_;try simp only [evs,tys]
 exact zR
theorem aLa {a r} (h:uF a=some r):wC a=some r:=zV aPD (aK9 a) Tryz.func103 (aNN _ _ a) h
def aGt (O:Orc) (g:LBs):bL:=fun a f=>cnd (chkL [sf,st',n6] a) (cnd (chkU [] f)
 (cnd (decide ((iv a 2)<(List.length (ev a 0):Int)))
 (bnd (ix 2 (zs a 0) (zn a 2)) fun e=>cnd (chk (.ref aCA) e)
 (bnd (ix 2 (zs a 0) (zn a 2)) fun c=>cnd (chk (.ref aCA) c)
 (aQ O 103 [(zs (rf c) 1)] fun d=>cnd (chk sf d)
 (bnd (apd 2 (zo a 1) (.slice [(.agg [(zt (rf e) 0),(.slice (esV d) [] false)])] [] true)) fun b=>cnd (chk st' b)
 (some (.nrm,[(zs a 0),(.slice (esV b) [] true),(i6 (w6 ((iv a 2)+1)))],[])) none) none) none) none)
 (some (.brk 0,[(zs a 0),(zo a 1),(zn a 2)],[]))) none) none
def aGu (O:Orc) (b:LBs) (c:List GDir):Option (PV×UP) :=
 bnd (b (aGt O b) [(zq aF c),(.slice [] [] true),(i6 0)] []) fun a =>
 exIs a.1 (some 0) (cnd (chkL [sf,st',n6] a.2.1) (cnd (chkU [] a.2.2)
 (some ((zs a.2.1 1),[])) none) none)
 (none)
noncomputable def oZ (g:List GDir):((List GDir)×Int)->Option (((List GDir)×Int)⊕((List GDir)))
 | (b,a) =>
 cnd (decide (a<(List.length g:Int)))
  (bnd (nthI g a) fun f =>
  bnd (nthI g a) fun d =>
  bnd (wC d.args) fun e =>
  bnd (tapp b [(GDir.mk f.name e)]) fun c =>
  some (.inl (c,(IntKind.wrap .i64 (a+1)))))
  (some (.inr b))
abbrev aTo (a:List GDir) (st:(List GDir)×Int) (l:List PV) (u:UP):Prop:=l=[(zq aF a),(zp aF st.1),(i6 st.2)]/\u=[]
abbrev aTp (b:List GDir) (p:(List GDir)) (r:EU):Prop:=(fun (p:(List GDir))=>∃ (a:Int),r=(Ex.brk 0,[(zq aF b),(zp aF p),(i6 a)],[])) p
noncomputable def aFd (b:List GDir):Option (List GDir) :=
 bnd (aY (oZ b) ([],0)) fun a =>
 some a
def aXf:Decs:={decs:=[(14,(.ref aCA)),(19,(.ref aCA)),(22,sf),(25,st')],loops:=[(3,[],⟨[sf,st',n6],[],[(some 0,[sf,st',n6],[])]⟩)]}
theorem aXg O a b:eW 36 aXf Tryz.f36 O a [(zq aF b)] []=aGu O a b:=by kernel_rfl
theorem aNO d:Lok (aTo d) (oZ d) (aGt O aE) (aTp d):=by
 rintro ⟨c,b⟩ l u ⟨rfl,rfl⟩;simp only [oZ,aGt,zd,zr];refine zG ?_;try simp only [evs,tys]
 apply Imp.cnd
 ·refine zX aF tU fun k _ => ?_;try simp only [evs,tys]
  refine zX aF tU fun i _ => ?_;try simp only [evs,tys]
  refine zC rfl fun j _ => ?_;try simp only [zes,evs,tys]
  refine Imp.op (f:=fun a => .slice (List.map aF a) [] true) (fun a h=>pX (enc:=aF) zI zI (fun a=>by first | rfl | simp only [evs,tys,evc]) h) (fun a=>rfl) fun g e => ?_;try simp only [evs,tys]
  exact zN
 ·exact zB ⟨b,zE⟩
theorem aTq b:Imp (aFd b) (aGu O aE b) (Ri aCa):=by
 simp only [aFd,aGu,zd,zr];try simp only [evs,tys]
 refine zL (aNO b) ?_;rintro a _ ⟨c,rfl⟩;refine zH ?_;try simp only [evs,tys]
 exact zR
theorem aTr {a r} (h:aFd a=some r):aSI a=some r:=zV aZG (aTq a) Tryz.func36 (aXg _ _ a) h
def aGv (O:Orc) (a:LBs) (s:GSchema) (o:GOp):Option (PV×UP) :=
 cnd (o.kind==1)
 (some ((.str s.mutation),[]))
 (some ((.str s.query),[]))
noncomputable def aFe (s:GSchema) (o:GOp):Option Str :=
 cnd (o.kind==1)
 (some s.mutation)
 (some s.query)
def aXh:Decs:={}
theorem aXi O a s o:eW 116 aXh Tryz.f116 O a [(eS s),(.agg [(i6 o.kind),(.str o.name),(zq bC o.vars),(zq aF o.dirs),(zq aI o.sels)])] []=aGv O a s o:=by kernel_rfl
theorem aTs s o:Imp (aFe s o) (aGv O aE s o) (Ri nS):=by
 simp only [aFe,aGv,zd,zr];try simp only [evs,tys]
 apply Imp.cnd;·exact zR
 ·exact zR
theorem aTt {s o r} (h:aFe s o=some r):aSJ s o=some r:=zV aE3 (aTs s o) Tryz.func116 (aXi _ _ s o) h
abbrev mS:List Sh:=[.str,sf,st',(.ptr 0 4 0),n6,sf,.str,.str]
def aDY (O:Orc) (i:LBs):bL:=fun a h=>cnd (chkL mS a) (cnd (chkU [] h)
 (cnd (decide ((iv a 4)<(List.length (ev a 1):Int)))
 (bnd (ix 7 (zs a 1) (zn a 4)) fun b=>cnd (chk (.ref rJ) b)
 (bnd (apd 8 (zo a 2) (.slice [(.agg [(zt a 0),(zn (rf b) 0),(zt (rf b) 1),(zt (rf b) 2),(zs (rf b) 3),(zs (rf b) 4),(zt (rf b) 5),(zs (rf b) 6)])] [] true)) fun e=>cnd (chk st' e)
 (bnd (ix 7 (zs a 1) (zn a 4)) fun c=>cnd (chk (.ref rJ) c)
 (aQ O 184 [(.agg [(zs a 5),(zt a 6),(zt a 7)]),(zt a 0),(.agg [(zn (rf c) 0),(zt (rf c) 1),(zt (rf c) 2),(zs (rf c) 3),(zs (rf c) 4),(zt (rf c) 5),(zs (rf c) 6)])] fun g=>cnd (chk .str g)
 (bnd (ix 7 (zs a 1) (zn a 4)) fun d=>cnd (chk (.ref rJ) d)
 (aQ O 115 [(.agg [(zs a 5),(zt a 6),(zt a 7)]),(.str (strV g)),(zs (rf d) 6),(.slice (esV e) [] true)] fun f=>cnd (chk st' f)
 (some (.nrm,(pu (pu (rb mS a) 2 (.slice (esV f) [] true)) 4 (i6 (w6 ((iv a 4)+1)))),[])) none) none) none) none) none) none)
 (some (.brk 0,(rb mS a),[]))) none) none
def aDZ (O:Orc) (d:LBs) (s:GSchema) (c:Str) (e:List GSel) (b:List GSeineref13Spot):Option (PV×UP) :=
 bnd (d (aDY O d) [(.str c),(zq aI e),(zp aJ b),(.ptr 0 4 0),(i6 0),(zq aH s.defs),(.str s.query),(.str s.mutation)] []) fun a =>
 exIs a.1 (some 0) (cnd (chkL mS a.2.1) (cnd (chkU [] a.2.2)
 (some ((zo a.2.1 2),[])) none) none)
 (none)
noncomputable def jU (s:GSchema) (c:Str) (d:List GSel):((List GSeineref13Spot)×Int)->Option (((List GSeineref13Spot)×Int)⊕((List GSeineref13Spot)))
 | (b,a) =>
 cnd (decide (a<(List.length d:Int)))
  (bnd (nthI d a) fun j =>
  bnd (tapp b [(GSeineref13Spot.mk c j)]) fun f =>
  bnd (nthI d a) fun g =>
  bnd (aJm s c g) fun i =>
  bnd (nthI d a) fun e =>
  bnd (aE5 s i e.sels f) fun h =>
  some (.inl (h,(IntKind.wrap .i64 (a+1)))))
  (some (.inr b))
abbrev aQl (s:GSchema) (a:Str) (b:List GSel) (st:(List GSeineref13Spot)×Int) (l:List PV) (u:UP):Prop:=l=[(.str a),(zq aI b),(zp aJ st.1),(.ptr 0 4 0),(i6 st.2),(zq aH s.defs),(.str s.query),(.str s.mutation)]/\u=[]
abbrev aQm (s:GSchema) (b:Str) (c:List GSel) (p:(List GSeineref13Spot)) (r:EU):Prop:=(fun (p:(List GSeineref13Spot))=>∃ (a:Int),r=(Ex.brk 0,[(.str b),(zq aI c),(zp aJ p),(.ptr 0 4 0),(i6 a),(zq aH s.defs),(.str s.query),(.str s.mutation)],[])) p
noncomputable def wL (s:GSchema) (c:Str) (d:List GSel) (b:List GSeineref13Spot):Option (List GSeineref13Spot) :=
 bnd (aY (jU s c d) (b,0)) fun a =>
 some a
def aTu:Decs:={decs:=[(20,(.ref rJ)),(24,st'),(30,(.ref rJ)),(32,.str),(35,(.ref rJ)),(39,st')],loops:=[(2,[(4,3)],⟨mS,[],[(some 0,mS,[])]⟩)]}
theorem aTv O c s (b:Str) d a:eW 115 aTu Tryz.f115 O c [(eS s),(.str b),(zq aI d),(zp aJ a)] []=aDZ O c s b d a:=by kernel_rfl
theorem aLb s b e:Lok (aQl s b e) (jU s b e) (aDY O aE) (aQm s b e):=by
 rintro ⟨d,c⟩ l u ⟨rfl,rfl⟩;simp only [jU,aDY,zd,zr];refine zG ?_;try simp only [evs,tys]
 apply Imp.cnd
 ·refine zX aI kG fun o _ => ?_;try simp only [evs,tys]
  refine Imp.op (f:=fun a => .slice (List.map aJ a) [] true) (fun a h=>pX (enc:=aJ) zI zI (fun a=>by first | rfl | simp only [evs,tys,evc]) h) (fun a=>rfl) fun j g => ?_;try simp only [evs,tys]
  refine zX aI kG fun k _ => ?_;try simp only [evs,tys]
  refine zC rfl fun n _ => ?_;try simp only [zes,evs,tys]
  refine zX aI kG fun i _ => ?_;try simp only [evs,tys]
  refine zC rfl fun m _ => ?_;try simp only [zes,evs,tys]
  exact zN
 ·exact zB ⟨c,zE⟩
theorem aQn s b d a:Imp (wL s b d a) (aDZ O aE s b d a) (Ri aAY):=by
 simp only [wL,aDZ,zd,zr];try simp only [evs,tys]
 refine zL (aLb s b d) ?_;rintro c _ ⟨e,rfl⟩;refine zH ?_;try simp only [evs,tys]
 exact zR
theorem aHi {s b c a r} (h:wL s b c a=some r):aE5 s b c a=some r:=zV aWX (aQn s b c a) Tryz.func115 (aTv _ _ s b c a) h
abbrev eI:List Sh:=[(.ptr 0 2 0),st',(.ptr 0 6 0),n6,n6,.str,sf,sf,sf,sf,sf,.str,.str]
def aD0 (O:Orc) (f:LBs):bL:=fun a e=>cnd (chkL eI a) (cnd (chkU [] e)
 (cnd (decide ((iv a 3)<(List.length (ev a 9):Int)))
 (cnd ((iv a 4)==5)
 (bnd (ix 10 (zs a 9) (zn a 3)) fun b=>cnd (chk (.ref gK) b)
 (cnd ((iv (rf b) 2)==0)
 (cnd ((iv (rf b) 3)==1)
 (aQ O 159 [(.agg [(zs a 10),(zt a 11),(zt a 12)]),(zt (rf b) 1),(i6 5),(i6 5),(i6 5)] fun c=>cnd (chk .bool c)
 (cnd (bG c)
 (bnd (apd 1 (zo a 1) (.slice [(zt (rf b) 1)] [] true)) fun d=>cnd (chk st' d)
 (some (.nrm,(pu (pu (rb eI a) 1 (.slice (esV d) [] true)) 3 (i6 (w6 ((iv a 3)+1)))),[])) none)
 (some (.nrm,(pu (rb eI a) 3 (i6 (w6 ((iv a 3)+1)))),[]))) none)
 (some (.nrm,(pu (rb eI a) 3 (i6 (w6 ((iv a 3)+1)))),[])))
 (some (.nrm,(pu (rb eI a) 3 (i6 (w6 ((iv a 3)+1)))),[]))) none)
 (some (.brk 0,(rb eI a),[])))
 (some (.brk 0,(rb eI a),[]))) none) none
def aD1 (O:Orc) (d:LBs) (s:GSchema) (c:Str):Option (PV×UP) :=
 aQ O 164 [(eS s),(.str c)] fun b=>cnd (chk (.tup [pY,.bool]) b)
 (bnd (d (aD0 O d) [(.ptr 0 2 0),(.slice [] [] true),(.ptr 0 6 0),(i6 0),(zn (tg b 0) 0),(zt (tg b 0) 1),(zs (tg b 0) 2),(zs (tg b 0) 3),(zs (tg b 0) 4),(zs (tg b 0) 5),(zq aH s.defs),(.str s.query),(.str s.mutation)] []) fun a =>
 exIs a.1 (some 0) (cnd (chkL eI a.2.1) (cnd (chkU [] a.2.2)
 (some ((zo a.2.1 1),[])) none) none)
 (none)) none
noncomputable def aBj (s:GSchema) (g:Str) (f:GDef×Bool):((List Str)×Int)->Option (((List Str)×Int)⊕((List Str)))
 | (a,b) =>
 cnd (decide (b<(List.length f.1.params:Int)))
  (cnd (f.1.kind==5)
  (bnd (nthI f.1.params b) fun c =>
  cnd (c.t.lists==0)
   (cnd (c.t.musts==1)
   (bnd (bBQ s c.t.name 5 5 5) fun d =>
   cnd d
    (bnd (tapp a [c.t.name]) fun e =>
    some (.inl (e,(IntKind.wrap .i64 (b+1)))))
    (some (.inl (a,(IntKind.wrap .i64 (b+1))))))
   (some (.inl (a,(IntKind.wrap .i64 (b+1))))))
   (some (.inl (a,(IntKind.wrap .i64 (b+1))))))
  (some (.inr a)))
  (some (.inr a))
abbrev aHj (s:GSchema) (name:Str) (a:GDef×Bool) (b c:PV):List PV:=[(.ptr 0 2 0),b,(.ptr 0 6 0),c,(i6 a.1.kind),(.str a.1.name),(zq PV.str a.1.faces),(zq aL a.1.fields),(zq PV.str a.1.parts),(zq aR a.1.params),(zq aH s.defs),(.str s.query),(.str s.mutation)]
abbrev aQo (s:GSchema) (a:Str) (b:GDef×Bool) (st:(List Str)×Int) (l:List PV) (u:UP):Prop:=l=(aHj s a b (zp PV.str st.1) (i6 st.2))/\u=[]
abbrev aQp (s:GSchema) (a:Str) (c:GDef×Bool) (p:(List Str)) (r:EU):Prop:=∃ (b:Int),r=(Ex.brk 0,(aHj s a c (zp PV.str p) (i6 b)),[])
noncomputable def aCm (s:GSchema) (b:Str):Option (List Str) :=
 bnd (xM s b) fun c =>
 bnd (aY (aBj s b c) ([],0)) fun a =>
 some a
def aTw:Decs:={decs:=[(13,(.tup [pY,.bool])),(31,(.ref gK)),(46,.bool),(52,st')],loops:=[(4,[(6,6),(2,3)],⟨eI,[],[(some 0,eI,[])]⟩)]}
theorem aTx O b s (a:Str):eW 166 aTw Tryz.f166 O b [(eS s),(.str a)] []=aD1 O b s a:=by kernel_rfl
theorem aLc s b e:Lok (aQo s b e) (aBj s b e) (aD0 O aE) (aQp s b e):=by
 rintro ⟨d,c⟩ l u ⟨rfl,rfl⟩;simp only [aBj,aD0,zd,zr];refine zG ?_;try simp only [evs,tys]
 apply Imp.cnd
 ·apply Imp.cnd
  ·refine zX aR oO fun k _ => ?_;try simp only [evs,tys]
   apply Imp.cnd
   ·apply Imp.cnd
    ·refine zC rfl fun i _ => ?_;try simp only [zes,evs,tys]
     apply Imp.cnd
     ·refine Imp.op (f:=fun a => .slice (List.map PV.str a) [] true) (fun a h=>pX (enc:=PV.str) zI zI (fun a=>by first | rfl | simp only [evs,tys,evc]) h) (fun a=>rfl) fun j g => ?_;try simp only [evs,tys]
      exact zN
     ·exact zN
    ·exact zN
   ·exact zN
  ·exact zB ⟨c,zE⟩
 ·exact zB ⟨c,zE⟩
theorem aQq s a:Imp (aCm s a) (aD1 O aE s a) (Ri lH):=by
 simp only [aCm,aD1,zd,zr];try simp only [evs,tys]
 refine zC rfl fun d _ => ?_;try simp only [zes,evs,tys]
 refine zL (aLc s a d) ?_;rintro b _ ⟨c,rfl⟩;refine zH ?_;try simp only [evs,tys]
 exact zR
theorem aQr {s a r} (h:aCm s a=some r):aIe s a=some r:=zV aE1 (aQq s a) Tryz.func166 (aTx _ _ s a) h
open Go Go.Ev Go.Ev.PV
abbrev kM:List Sh:=[sf,.str,.bool,n6]
def aJz (O:Orc) (d:LBs):bL:=fun a b=>cnd (chkL kM a) (cnd (chkU [] b)
 (cnd (decide ((iv a 3)<(List.length (ev a 0):Int)))
 (bnd (ix 1 (zs a 0) (zn a 3)) fun c=>cnd (chk (.ref .str) c)
 (cnd ((strV (refV c))==(sv a 1))
 (some (.ret,(pu (rb kM a) 2 (.bool true)),[]))
 (some (.nrm,(pu (rb kM a) 3 (i6 (w6 ((iv a 3)+1)))),[]))) none)
 (some (.brk 0,(rb kM a),[]))) none) none
def aJA (O:Orc) (b:LBs) (c:List Str) (s:Str):Option (PV×UP) :=
 bnd (b (aJz O b) [(zq PV.str c),(.str s),(.bool false),(i6 0)] []) fun a =>
 exIs a.1 (some 0) (cnd (chkL kM a.2.1) (cnd (chkU [] a.2.2)
 (some ((.bool false),[])) none) none)
 (exIs a.1 none (cnd (chkL kM a.2.1) (cnd (chkU [] a.2.2)
 (some ((zb a.2.1 2),[])) none) none)
 (none))
noncomputable def rY (b:List Str) (s:Str):Int->Option (Int⊕(Unit⊕Unit))
 | a =>
 cnd (decide (a<(List.length b:Int)))
  (bnd (nthI b a) fun c =>
  cnd (c==s)
  (some (.inr (.inr ())))
  (some (.inl (IntKind.wrap .i64 (a+1)))))
  (some (.inr (.inl ())))
abbrev aXj (a:List Str) (s:Str) (st:Int) (l:List PV) (u:UP):Prop:=l=[(zq PV.str a),(.str s),(.bool false),(i6 st)]/\u=[]
abbrev aXk (c:List Str) (s:Str) (p:Unit⊕Unit) (r:EU):Prop:=elim p (fun (p:Unit)=>∃ (b:Int),r=(Ex.brk 0,[(zq PV.str c),(.str s),(.bool false),(i6 b)],[])) (fun d=>(fun (p:Unit)=>∃ (a:Int),r=(Ex.ret,[(zq PV.str c),(.str s),(.bool true),(i6 a)],[])) d)
noncomputable def aIi (c:List Str) (s:Str):Option Bool :=
 bnd (aY (rY c s) 0) fun a=>elim a
 (fun b =>
 some false)
 (fun b =>
 some true)
def aZO:Decs:={decs:=[(14,(.ref .str))],loops:=[(2,[],⟨kM,[],[(some 0,kM,[]),(none,kM,[])]⟩)]}
theorem aZP O a (b:List Str) (s:Str):eW 29 aZO Tryz.f29 O a [(zq PV.str b),(.str s)] []=aJA O a b s:=by kernel_rfl
theorem aQs b s:Lok (aXj b s) (rY b s) (aJz O aE) (aXk b s):=by
 rintro a l u ⟨rfl,rfl⟩;simp only [rY,aJz,zd,zr];refine zG ?_;try simp only [evs,tys]
 apply Imp.cnd
 ·refine zX PV.str (fun _=>rfl) fun c _ => ?_;try simp only [evs,tys]
  apply Imp.cnd;·exact zT ⟨a,zE⟩
  ·exact zN
 ·exact zB ⟨a,zE⟩
theorem aXl b s:Imp (aIi b s) (aJA O aE b s) (Ri aA):=by
 simp only [aIi,aJA,zd,zr];try simp only [evs,tys]
 refine zL (aQs b s) ?_;rintro (p | p) d a
 ·try simp only [aK,aM]
  obtain ⟨e,rfl⟩:=a;refine zH ?_;try simp only [evs,tys]
  exact zR
 ·try simp only [aK,aM]
  obtain ⟨c,rfl⟩:=a;refine Imp.exMiss rfl ?_;refine zH ?_;try simp only [evs,tys]
  exact zR
theorem aXm {a s r} (h:aIi a s=some r):aCU a s=some r:=zV aD (aXl a s) Tryz.func29 (aZP _ _ a s) h
def yM (O:Orc) (c:LBs) (b:List GSel):Option (PV×UP) :=
 aQ O 183 [(zq aI b),(.slice [] [] true)] fun a=>cnd (chk st' a)
 (some ((.slice (esV a) [] true),[])) none
noncomputable def uG (b:List GSel):Option (List Str) :=
 bnd (kI b ([]:List Str)) fun a =>
 some a
def aNP:Decs:={decs:=[(4,st')]}
theorem aNQ O a b:eW 182 aNP Tryz.f182 O a [(zq aI b)] []=yM O a b:=by kernel_rfl
theorem aLd a:Imp (uG a) (yM O aE a) (Ri lH):=by
 simp only [uG,yM,zd,zr];try simp only [evs,tys]
 refine zC rfl fun b _ => ?_;try simp only [zes,evs,tys]
 exact zR
theorem aLe {a r} (h:uG a=some r):aF5 a=some r:=zV aE1 (aLd a) Tryz.func182 (aNQ _ _ a) h
abbrev lY:List Sh:=[.str,(.ptr 0 2 0),(.ptr 0 4 0),.bool,n6,.str,.str,st',st',sf,sf]
def aGw (O:Orc) (e:LBs):bL:=fun a c=>cnd (chkL lY a) (cnd (chkU [] c)
 (cnd (decide ((iv a 4)<(List.length (ev a 10):Int)))
 (bnd (ix 4 (zs a 10) (zn a 4)) fun d=>cnd (chk (.ref gW) d)
 (cnd ((sv (rf d) 0)==(sv a 0))
 (bnd (ix 4 (zs a 10) (zn a 4)) fun b=>cnd (chk (.ref gW) b)
 (some (.ret,(pu (pu (pu (pu (pu (rb lY a) 3 (.bool true)) 5 (zt (rf b) 0)) 6 (zt (rf b) 1)) 7 (zs (rf b) 2)) 8 (zs (rf b) 3)),[])) none)
 (some (.nrm,(pu (rb lY a) 4 (i6 (w6 ((iv a 4)+1)))),[]))) none)
 (some (.brk 0,(rb lY a),[]))) none) none
def aGx (O:Orc) (c:LBs) (d:GDoc) (b:Str):Option (PV×UP) :=
 bnd (c (aGw O c) [(.str b),(.ptr 0 2 0),(.ptr 0 4 0),(.bool false),(i6 0),(.str []),(.str []),(.slice [] [] true),(.slice [] [] true),(zq aU d.ops),(zq aG d.frags)] []) fun a =>
 exIs a.1 (some 0) (cnd (chkL lY a.2.1) (cnd (chkU [] a.2.2)
 (some ((.tuple [(.agg [(.str []),(.str []),(.slice [] [] false),(.slice [] [] false)]),(.bool false)]),[])) none) none)
 (exIs a.1 none (cnd (chkL [.str,(.ptr 0 2 0),(.ptr 0 4 0),.bool,n6,.str,.str,sf,sf,sf,sf] a.2.1) (cnd (chkU [] a.2.2)
 (some ((.tuple [(.agg [(zt a.2.1 5),(zt a.2.1 6),(zs a.2.1 7),(zs a.2.1 8)]),(zb a.2.1 3)]),[])) none) none)
 (none))
noncomputable def pA (d:GDoc) (c:Str):Int->Option (Int⊕(Unit⊕(Str×Str×(List GDir)×(List GSel))))
 | b =>
 cnd (decide (b<(List.length d.frags:Int)))
  (bnd (nthI d.frags b) fun e =>
  cnd (e.name==c)
  (bnd (nthI d.frags b) fun a =>
  some (.inr (.inr (a.name,a.on_,a.dirs,a.sels))))
  (some (.inl (IntKind.wrap .i64 (b+1)))))
  (some (.inr (.inl ())))
abbrev aTy (d:GDoc) (a:Str) (st:Int) (l:List PV) (u:UP):Prop:=l=[(.str a),(.ptr 0 2 0),(.ptr 0 4 0),(.bool false),(i6 st),(.str []),(.str []),(.slice [] [] true),(.slice [] [] true),(zq aU d.ops),(zq aG d.frags)]/\u=[]
abbrev aTz (d:GDoc) (a:Str) (p:Unit⊕(Str×Str×(List GDir)×(List GSel))) (r:EU):Prop:=elim p (fun (p:Unit)=>∃ (c:Int),r=(Ex.brk 0,[(.str a),(.ptr 0 2 0),(.ptr 0 4 0),(.bool false),(i6 c),(.str []),(.str []),(.slice [] [] true),(.slice [] [] true),(zq aU d.ops),(zq aG d.frags)],[])) (fun e=>(fun (p:Str×Str×(List GDir)×(List GSel))=>∃ (b:Int),r=(Ex.ret,[(.str a),(.ptr 0 2 0),(.ptr 0 4 0),(.bool true),(i6 b),(.str p.1),(.str p.2.1),(zq aF p.2.2.1),(zq aI p.2.2.2),(zq aU d.ops),(zq aG d.frags)],[])) e)
noncomputable def aFf (d:GDoc) (c:Str):Option (GFrag×Bool) :=
 bnd (aY (pA d c) 0) fun b=>elim b
 (fun a =>
 some ((GFrag.mk [] [] ([]:List GDir) ([]:List GSel)),false))
 (fun a =>
 some ((GFrag.mk a.1 a.2.1 a.2.2.1 a.2.2.2),true))
def aXn:Decs:={decs:=[(17,(.ref gW)),(25,(.ref gW))],loops:=[(2,[(4,4),(2,2)],⟨lY,[],[(some 0,lY,[]),(none,[.str,(.ptr 0 2 0),(.ptr 0 4 0),.bool,n6,.str,.str,sf,sf,sf,sf],[])]⟩)]}
theorem aXo O b d (a:Str):eW 113 aXn Tryz.f113 O b [(eD d),(.str a)] []=aGx O b d a:=by kernel_rfl
theorem aNR d a:Lok (aTy d a) (pA d a) (aGw O aE) (aTz d a):=by
 rintro b l u ⟨rfl,rfl⟩;simp only [pA,aGw,zd,zr];refine zG ?_;try simp only [evs,tys]
 apply Imp.cnd
 ·refine zX aG iS fun e _ => ?_;try simp only [evs,tys]
  apply Imp.cnd
  ·refine zX aG iS fun c _ => ?_;try simp only [evs,tys]
   exact zT ⟨b,zE⟩
  ·exact zN
 ·exact zB ⟨b,zE⟩
theorem aTA d a:Imp (aFf d a) (aGx O aE d a) (Ri aCb):=by
 simp only [aFf,aGx,zd,zr];try simp only [evs,tys]
 refine zL (aNR d a) ?_;rintro (p | ⟨h,g,j,i⟩) c b
 ·try simp only [aK,aM]
  obtain ⟨f,rfl⟩:=b;refine zH ?_;try simp only [evs,tys]
  exact zR
 ·try simp only [aK,aM]
  obtain ⟨e,rfl⟩:=b;refine Imp.exMiss rfl ?_;refine zH ?_;try simp only [evs,tys]
  exact zR
theorem aTB {d a r} (h:aFf d a=some r):aSK d a=some r:=zV aZH (aTA d a) Tryz.func113 (aXo _ _ d a) h
def yN (O:Orc) (n:LBs):bL:=fun a m=>cnd (chkL [sf,st',n6] a) (cnd (chkU [] m)
 (cnd (decide ((iv a 2)<(List.length (ev a 0):Int)))
 (bnd (ix 7 (zs a 0) (zn a 2)) fun j=>cnd (chk (.ref rJ) j)
 (cnd ((iv (rf j) 0)==1)
 (bnd (ix 7 (zs a 0) (zn a 2)) fun k=>cnd (chk (.ref rJ) k)
 (aQ O 29 [(zs a 1),(zt (rf k) 2)] fun i=>cnd (chk .bool i)
 (cnd (!(bG i))
 (bnd (ix 7 (zs a 0) (zn a 2)) fun g=>cnd (chk (.ref rJ) g)
 (bnd (apd 1 (zo a 1) (.slice [(zt (rf g) 2)] [] true)) fun c=>cnd (chk st' c)
 (bnd (ix 7 (zs a 0) (zn a 2)) fun l=>cnd (chk (.ref rJ) l)
 (aQ O 183 [(zs (rf l) 6),(.slice (esV c) [] true)] fun b=>cnd (chk st' b)
 (some (.nrm,[(zs a 0),(.slice (esV b) [] true),(i6 (w6 ((iv a 2)+1)))],[])) none) none) none) none)
 (bnd (ix 7 (zs a 0) (zn a 2)) fun f=>cnd (chk (.ref rJ) f)
 (aQ O 183 [(zs (rf f) 6),(zo a 1)] fun h=>cnd (chk st' h)
 (some (.nrm,[(zs a 0),(.slice (esV h) [] true),(i6 (w6 ((iv a 2)+1)))],[])) none) none)) none) none)
 (bnd (ix 7 (zs a 0) (zn a 2)) fun e=>cnd (chk (.ref rJ) e)
 (aQ O 183 [(zs (rf e) 6),(zo a 1)] fun d=>cnd (chk st' d)
 (some (.nrm,[(zs a 0),(.slice (esV d) [] true),(i6 (w6 ((iv a 2)+1)))],[])) none) none)) none)
 (some (.brk 0,[(zs a 0),(zo a 1),(zn a 2)],[]))) none) none
def yO (O:Orc) (c:LBs) (d:List GSel) (b:List Str):Option (PV×UP) :=
 bnd (c (yN O c) [(zq aI d),(zp PV.str b),(i6 0)] []) fun a =>
 exIs a.1 (some 0) (cnd (chkL [sf,st',n6] a.2.1) (cnd (chkU [] a.2.2)
 (some ((zo a.2.1 1),[])) none) none)
 (none)
noncomputable def fY (c:List GSel):((List Str)×Int)->Option (((List Str)×Int)⊕((List Str)))
 | (b,a) =>
 cnd (decide (a<(List.length c:Int)))
  (bnd (nthI c a) fun l =>
  cnd (l.kind==1)
  (bnd (nthI c a) fun d =>
  bnd (aCU b d.name) fun e =>
  cnd (!e)
   (bnd (nthI c a) fun g =>
   bnd (tapp b [g.name]) fun j =>
   bnd (nthI c a) fun k =>
   bnd (kI k.sels j) fun f =>
   some (.inl (f,(IntKind.wrap .i64 (a+1)))))
   (bnd (nthI c a) fun i =>
   bnd (kI i.sels b) fun n =>
   some (.inl (n,(IntKind.wrap .i64 (a+1))))))
  (bnd (nthI c a) fun h =>
  bnd (kI h.sels b) fun m =>
  some (.inl (m,(IntKind.wrap .i64 (a+1))))))
  (some (.inr b))
abbrev aLf (a:List GSel) (st:(List Str)×Int) (l:List PV) (u:UP):Prop:=l=[(zq aI a),(zp PV.str st.1),(i6 st.2)]/\u=[]
abbrev aLg (b:List GSel) (p:(List Str)) (r:EU):Prop:=(fun (p:(List Str))=>∃ (a:Int),r=(Ex.brk 0,[(zq aI b),(zp PV.str p),(i6 a)],[])) p
noncomputable def qI (c:List GSel) (b:List Str):Option (List Str) :=
 bnd (aY (fY c) (b,0)) fun a =>
 some a
def aNS:Decs:={decs:=[(14,(.ref rJ)),(22,(.ref rJ)),(25,.bool),(31,(.ref rJ)),(35,st'),(38,(.ref rJ)),(42,st')],loops:=[(2,[],⟨[sf,st',n6],[],[(some 0,[sf,st',n6],[])]⟩)]}
theorem aNT O b c (a:List Str):eW 183 aNS Tryz.f183 O b [(zq aI c),(zp PV.str a)] []=yO O b c a:=by kernel_rfl
theorem aHR d:Lok (aLf d) (fY d) (yN O aE) (aLg d):=by
 rintro ⟨c,b⟩ l u ⟨rfl,rfl⟩;simp only [fY,yN,zd,zr];refine zG ?_;try simp only [evs,tys]
 apply Imp.cnd
 ·refine zX aI kG fun q _ => ?_;try simp only [evs,tys]
  apply Imp.cnd
  ·refine zX aI kG fun g _ => ?_;try simp only [evs,tys]
   refine zC rfl fun i _ => ?_;try simp only [zes,evs,tys]
   apply Imp.cnd
   ·refine zX aI kG fun k _ => ?_;try simp only [evs,tys]
    refine Imp.op (f:=fun a => .slice (List.map PV.str a) [] true) (fun a h=>pX (enc:=PV.str) zI zI (fun a=>by first | rfl | simp only [evs,tys,evc]) h) (fun a=>rfl) fun o e => ?_;try simp only [evs,tys]
    refine zX aI kG fun p _ => ?_;try simp only [evs,tys]
    refine zC rfl fun j _ => ?_;try simp only [zes,evs,tys]
    exact zN
   ·refine zX aI kG fun n _ => ?_;try simp only [evs,tys]
    refine zC rfl fun s _ => ?_;try simp only [zes,evs,tys]
    exact zN
  ·refine zX aI kG fun m _ => ?_;try simp only [evs,tys]
   refine zC rfl fun r _ => ?_;try simp only [zes,evs,tys]
   exact zN
 ·exact zB ⟨b,zE⟩
theorem aLh c a:Imp (qI c a) (yO O aE c a) (Ri lH):=by
 simp only [qI,yO,zd,zr];try simp only [evs,tys]
 refine zL (aHR c) ?_;rintro b _ ⟨d,rfl⟩;refine zH ?_;try simp only [evs,tys]
 exact zR
theorem aCW {b a r} (h:qI b a=some r):kI b a=some r:=zV aE1 (aLh b a) Tryz.func183 (aNT _ _ b a) h
def sW (O:Orc) (b:LBs) (t:GType):Option (PV×UP) :=
 aQ O 98 [(.str t.name)] fun a=>cnd (chk .bool a)
 (cnd (bG a)
 (cnd (decide (t.lists≥0))
 (cnd (decide (t.lists<=4))
 (cnd (decide (t.musts≥0))
 (bnd (bin .shl (i6 2) (.int .u64 (IntKind.wrap .u64 t.lists))) fun x3=>cnd (chk n6 x3)
 (some ((.bool (decide (t.musts<(intV x3)))),[])) none)
 (some ((.bool false),[])))
 (some ((.bool false),[])))
 (some ((.bool false),[])))
 (some ((.bool false),[]))) none
noncomputable def pM (t:GType):Option Bool :=
 bnd (aSN t.name) fun b =>
 cnd b
 (cnd (decide (t.lists≥0))
 (cnd (decide (t.lists<=4))
 (cnd (decide (t.musts≥0))
 (bnd (tshl .i64 2 (IntKind.wrap .u64 t.lists)) fun a =>
 some (decide (t.musts<a)))
 (some false))
 (some false))
 (some false))
 (some false)
def aJB:Decs:={decs:=[(5,.bool),(27,n6)]}
theorem aJC O a t:eW 101 aJB Tryz.f101 O a [(eT t)] []=sW O a t:=by kernel_rfl
theorem aHS t:Imp (pM t) (sW O aE t) (Ri aA):=by
 simp only [pM,sW,zd,zr];try simp only [evs,tys]
 refine zC rfl fun d _ => ?_;try simp only [zes,evs,tys]
 apply Imp.cnd
 ·apply Imp.cnd
  ·apply Imp.cnd
   ·apply Imp.cnd
    ·refine Imp.op (f:=fun a => .int _ a) (fun a h=>bFp h) (fun a=>rfl) fun c b => ?_;try simp only [evs,tys]
     exact zR
    ·exact zR
   ·exact zR
  ·exact zR
 ·exact zR
theorem aHT {t r} (h:pM t=some r):qC t=some r:=zV aD (aHS t) Tryz.func101 (aJC _ _ t) h
def aGy (O:Orc) (b:LBs) (t:GType):Option (PV×UP) :=
 aQ O 101 [(eT t)] fun a=>cnd (chk .bool a)
 (cnd (!(bG a))
 (some ((.tuple [(.agg [(.str []),(i6 0),(i6 0)]),(.bool false)]),[]))
 (cnd (t.lists==0)
 (some ((.tuple [(.agg [(.str []),(i6 0),(i6 0)]),(.bool false)]),[]))
 (some ((.tuple [(.agg [(.str t.name),(i6 (w6 (t.lists-1))),(i6 (Int.fdiv t.musts (2 ^ min (Int.toNat 1) 64)))]),(.bool true)]),[])))) none
noncomputable def aFg (t:GType):Option (GType×Bool) :=
 bnd (qC t) fun a =>
 cnd (!a)
 (some ((GType.mk [] 0 0),false))
 (cnd (t.lists==0)
 (some ((GType.mk [] 0 0),false))
 (some ((GType.mk t.name (IntKind.wrap .i64 (t.lists-1)) (Int.fdiv t.musts (2 ^ min (Int.toNat 1) 64))),true)))
def aXp:Decs:={decs:=[(5,.bool)]}
theorem aXq O a t:eW 224 aXp Tryz.f224 O a [(eT t)] []=aGy O a t:=by kernel_rfl
theorem aTC t:Imp (aFg t) (aGy O aE t) (Ri aCc):=by
 simp only [aFg,aGy,zd,zr];try simp only [evs,tys]
 refine zC rfl fun a _ => ?_;try simp only [zes,evs,tys]
 apply Imp.cnd;·exact zR
 ·apply Imp.cnd;·exact zR
  ·exact zR
theorem aTD {t r} (h:aFg t=some r):aSL t=some r:=zV aZI (aTC t) Tryz.func224 (aXq _ _ t) h
abbrev lZ:List Sh:=[.str,(.ptr 0 2 0),(.ptr 0 4 0),.bool,n6,n6,.str,st',st',st',st',sf,.str,.str]
def aGz (O:Orc) (e:LBs):bL:=fun b c=>cnd (chkL lZ b) (cnd (chkU [] c)
 (cnd (decide ((iv b 4)<(List.length (ev b 11):Int)))
 (bnd (ix 6 (zs b 11) (zn b 4)) fun d=>cnd (chk (.ref pY) d)
 (cnd ((sv (rf d) 1)==(sv b 0))
 (bnd (ix 6 (zs b 11) (zn b 4)) fun a=>cnd (chk (.ref pY) a)
 (some (.ret,(pu (pu (pu (pu (pu (pu (pu (rb lZ b) 3 (.bool true)) 5 (zn (rf a) 0)) 6 (zt (rf a) 1)) 7 (zs (rf a) 2)) 8 (zs (rf a) 3)) 9 (zs (rf a) 4)) 10 (zs (rf a) 5)),[])) none)
 (some (.nrm,(pu (rb lZ b) 4 (i6 (w6 ((iv b 4)+1)))),[]))) none)
 (some (.brk 0,(rb lZ b),[]))) none) none
def aGA (O:Orc) (d:LBs) (s:GSchema) (b:Str):Option (PV×UP) :=
 aQ O 156 [(.str b)] fun c=>cnd (chk .bool c)
 (cnd (bG c)
 (some ((.tuple [(.agg [(i6 0),(.str b),(.slice [] [] false),(.slice [] [] false),(.slice [] [] false),(.slice [] [] false)]),(.bool true)]),[]))
 (bnd (d (aGz O d) [(.str b),(.ptr 0 2 0),(.ptr 0 4 0),(.bool false),(i6 0),(i6 0),(.str []),(.slice [] [] true),(.slice [] [] true),(.slice [] [] true),(.slice [] [] true),(zq aH s.defs),(.str s.query),(.str s.mutation)] []) fun a =>
 exIs a.1 (some 0) (cnd (chkL lZ a.2.1) (cnd (chkU [] a.2.2)
 (some ((.tuple [(.agg [(i6 0),(.str []),(.slice [] [] false),(.slice [] [] false),(.slice [] [] false),(.slice [] [] false)]),(.bool false)]),[])) none) none)
 (exIs a.1 none (cnd (chkL [.str,(.ptr 0 2 0),(.ptr 0 4 0),.bool,n6,n6,.str,sf,sf,sf,sf,sf,.str,.str] a.2.1) (cnd (chkU [] a.2.2)
 (some ((.tuple [(.agg [(zn a.2.1 5),(zt a.2.1 6),(zs a.2.1 7),(zs a.2.1 8),(zs a.2.1 9),(zs a.2.1 10)]),(zb a.2.1 3)]),[])) none) none)
 (none)))) none
noncomputable def pB (s:GSchema) (c:Str):Int->Option (Int⊕(Unit⊕(Int×Str×(List Str)×(List GFieldDef)×(List Str)×(List GParam))))
 | b =>
 cnd (decide (b<(List.length s.defs:Int)))
  (bnd (nthI s.defs b) fun d =>
  cnd (d.name==c)
  (bnd (nthI s.defs b) fun a =>
  some (.inr (.inr (a.kind,a.name,a.faces,a.fields,a.parts,a.params))))
  (some (.inl (IntKind.wrap .i64 (b+1)))))
  (some (.inr (.inl ())))
abbrev aD2 (s:GSchema) (a:Str) (d f g e i c b h:PV):List PV:=[(.str a),(.ptr 0 2 0),(.ptr 0 4 0),d,f,g,e,i,c,b,h,(zq aH s.defs),(.str s.query),(.str s.mutation)]
abbrev aTE (s:GSchema) (a:Str) (st:Int) (l:List PV) (u:UP):Prop:=l=(aD2 s a (.bool false) (i6 st) (i6 0) (.str []) (.slice [] [] true) (.slice [] [] true) (.slice [] [] true) (.slice [] [] true))/\u=[]
abbrev aTF (s:GSchema) (a:Str) (p:Unit⊕(Int×Str×(List Str)×(List GFieldDef)×(List Str)×(List GParam))) (r:EU):Prop:=elim p (fun (p:Unit)=>∃ (b:Int),r=(Ex.brk 0,(aD2 s a (.bool false) (i6 b) (i6 0) (.str []) (.slice [] [] true) (.slice [] [] true) (.slice [] [] true) (.slice [] [] true)),[])) (fun (p:Int×Str×(List Str)×(List GFieldDef)×(List Str)×(List GParam))=>∃ (c:Int),r=(Ex.ret,(aD2 s a (.bool true) (i6 c) (i6 p.1) (.str p.2.1) (zq PV.str p.2.2.1) (zq aL p.2.2.2.1) (zq PV.str p.2.2.2.2.1) (zq aR p.2.2.2.2.2)),[]))
noncomputable def aFh (s:GSchema) (b:Str):Option (GDef×Bool) :=
 bnd (aJn b) fun d =>
 cnd d
 (some ((GDef.mk 0 b ([]:List Str) ([]:List GFieldDef) ([]:List Str) ([]:List GParam)),true))
 (bnd (aY (pB s b) 0) fun c=>elim c
 (fun a =>
 some ((GDef.mk 0 [] ([]:List Str) ([]:List GFieldDef) ([]:List Str) ([]:List GParam)),false))
 (fun a =>
 some ((GDef.mk a.1 a.2.1 a.2.2.1 a.2.2.2.1 a.2.2.2.2.1 a.2.2.2.2.2),true)))
def aXr:Decs:={decs:=[(8,.bool),(21,(.ref pY)),(29,(.ref pY))],loops:=[(4,[(4,6),(2,3)],⟨lZ,[],[(some 0,lZ,[]),(none,[.str,(.ptr 0 2 0),(.ptr 0 4 0),.bool,n6,n6,.str,sf,sf,sf,sf,sf,.str,.str],[])]⟩)]}
theorem aXs O b s (a:Str):eW 164 aXr Tryz.f164 O b [(eS s),(.str a)] []=aGA O b s a:=by kernel_rfl
theorem aNU s a:Lok (aTE s a) (pB s a) (aGz O aE) (aTF s a):=by
 rintro b l u ⟨rfl,rfl⟩;simp only [pB,aGz,zd,zr];refine zG ?_;try simp only [evs,tys]
 apply Imp.cnd
 ·refine zX aH aB2 fun c _ => ?_;try simp only [evs,tys]
  apply Imp.cnd
  ·refine zX aH aB2 fun d _ => ?_;try simp only [evs,tys]
   exact zT ⟨b,zE⟩
  ·exact zN
 ·exact zB ⟨b,zE⟩
theorem aTG s a:Imp (aFh s a) (aGA O aE s a) (Ri tY):=by
 simp only [aFh,aGA,zd,zr];try simp only [evs,tys]
 refine zC rfl fun l _ => ?_;try simp only [zes,evs,tys]
 apply Imp.cnd;·exact zR
 ·refine zL (aNU s a) ?_;rintro (p | ⟨j,e,d,k,f,i⟩) h b
  ·try simp only [aK,aM]
   obtain ⟨c,rfl⟩:=b;refine zH ?_;try simp only [evs,tys]
   exact zR
  ·try simp only [aK,aM]
   obtain ⟨g,rfl⟩:=b;refine Imp.exMiss rfl ?_;refine zH ?_;try simp only [evs,tys]
   exact zR
theorem aTH {s a r} (h:aFh s a=some r):xM s a=some r:=zV aPE (aTG s a) Tryz.func164 (aXs _ _ s a) h
abbrev jV:List Sh:=[sf,sf,(.ptr 0 3 0),.bool,n6,n6,.str,.str,n6,n6,.bool,n6,n6,.str,sf,sf,sf,.str,.str]
def aD3 (O:Orc) (e:LBs):bL:=fun a c=>cnd (chkL jV a) (cnd (chkU [] c)
 (cnd (decide ((iv a 5)<(iv a 4)))
 (bnd (ix 6 (zs a 1) (zn a 5)) fun b=>cnd (chk (.ref dU) b)
 (bnd (ix 6 (zs a 1) (zn a 4)) fun d=>cnd (chk (.ref dU) d)
 (cnd ((sv (rf b) 0)==(sv (rf d) 0))
 (some (.ret,(pu (rb jV a) 3 (.bool false)),[]))
 (some (.nrm,(pu (rb jV a) 5 (i6 (w6 ((iv a 5)+1)))),[]))) none) none)
 (some (.brk 2,(rb jV a),[]))) none) none
abbrev fO:List Sh:=[sf,sf,(.ptr 0 3 0),.bool,n6,sf,.str,.str]
def aD4 (O:Orc) (h:LBs):bL:=fun c g=>cnd (chkL fO c) (cnd (chkU [] g)
 (cnd (decide ((iv c 4)<(List.length (ev c 1):Int)))
 (bnd (ix 6 (zs c 1) (zn c 4)) fun e=>cnd (chk (.ref dU) e)
 (aQ O 193 [(zs c 0),(zt (rf e) 0)] fun b=>cnd (chk (.tup [gK,.bool]) b)
 (cnd (!(bG (tv b 1)))
 (some (.ret,(pu (rb fO c) 3 (.bool false)),[]))
 (bnd (ix 6 (zs c 1) (zn c 4)) fun d=>cnd (chk (.ref dU) d)
 (aQ O 192 [(.agg [(zs c 5),(zt c 6),(zt c 7)]),(.agg [(zt (tg b 0) 1),(zn (tg b 0) 2),(zn (tg b 0) 3)]),(.agg [(zn (rf d) 1),(zn (rf d) 2),(zt (rf d) 3),(zs (rf d) 4),(zs (rf d) 5)]),(.bool true)] fun f=>cnd (chk .bool f)
 (cnd (!(bG f))
 (some (.ret,(pu (rb fO c) 3 (.bool false)),[]))
 (bnd (h (aD3 O h) [(zs c 0),(zs c 1),(.ptr 0 3 0),(zb c 3),(zn c 4),(i6 0),(zt (tg b 0) 0),(zt (tg b 0) 1),(zn (tg b 0) 2),(zn (tg b 0) 3),(zb (tg b 0) 4),(zn (tg b 0) 5),(zn (tg b 0) 6),(zt (tg b 0) 7),(zs (tg b 0) 8),(zs (tg b 0) 9),(zs c 5),(zt c 6),(zt c 7)] []) fun a =>
 exIs a.1 (some 2) (cnd (chkL [sf,sf,(.ptr 0 3 0),.bool,n6,n6,.str,.str,n6,n6,.bool,n6,n6,.str,sf,sf,sf,.str,.str] a.2.1) (cnd (chkU [] a.2.2)
 (some (.nrm,[(zs a.2.1 0),(zs a.2.1 1),(.ptr 0 3 0),(zb a.2.1 3),(i6 (w6 ((iv a.2.1 4)+1))),(zs a.2.1 16),(zt a.2.1 17),(zt a.2.1 18)],[])) none) none)
 (exIs a.1 none (cnd (chkL [sf,sf,(.ptr 0 3 0),.bool,n6,n6,.str,.str,n6,n6,.bool,n6,n6,.str,sf,sf,sf,.str,.str] a.2.1) (cnd (chkU [] a.2.2)
 (some (.ret,[(zs a.2.1 0),(zs a.2.1 1),(.ptr 0 3 0),(zb a.2.1 3),(zn a.2.1 4),(zs a.2.1 16),(zt a.2.1 17),(zt a.2.1 18)],[])) none) none)
 (none)))) none) none)) none) none)
 (some (.brk 0,(rb fO c),[]))) none) none
abbrev dR:List Sh:=[sf,sf,.bool,n6,sf,.str,.str]
def aD5 (O:Orc) (h:LBs):bL:=fun a g=>cnd (chkL dR a) (cnd (chkU [] g)
 (cnd (decide ((iv a 3)<(List.length (ev a 0):Int)))
 (bnd (ix 10 (zs a 0) (zn a 3)) fun c=>cnd (chk (.ref gK) c)
 (aQ O 219 [(zt (rf c) 0),(zs a 1)] fun f=>cnd (chk (.tup [nO,.bool]) f)
 (cnd (!(bG (tv f 1)))
 (bnd (ix 10 (zs a 0) (zn a 3)) fun b=>cnd (chk (.ref gK) b)
 (aQ O 195 [(.agg [(zt (rf b) 1),(zn (rf b) 2),(zn (rf b) 3)])] fun e=>cnd (chk .bool e)
 (cnd (bG e)
 (bnd (ix 10 (zs a 0) (zn a 3)) fun d=>cnd (chk (.ref gK) d)
 (cnd (!(bv (rf d) 4))
 (some (.ret,(pu (rb dR a) 2 (.bool false)),[]))
 (some (.nrm,(pu (rb dR a) 3 (i6 (w6 ((iv a 3)+1)))),[]))) none)
 (some (.nrm,(pu (rb dR a) 3 (i6 (w6 ((iv a 3)+1)))),[]))) none) none)
 (some (.nrm,(pu (rb dR a) 3 (i6 (w6 ((iv a 3)+1)))),[]))) none) none)
 (some (.brk 4,(rb dR a),[]))) none) none
def aD6 (O:Orc) (c:LBs) (s:GSchema) (d:List GParam) (m:List GMember):Option (PV×UP) :=
 bnd (c (aD4 O c) [(zq aR d),(zq aC m),(.ptr 0 3 0),(.bool false),(i6 0),(zq aH s.defs),(.str s.query),(.str s.mutation)] []) fun a =>
 exIs a.1 (some 0) (cnd (chkL fO a.2.1) (cnd (chkU [] a.2.2)
 (bnd (c (aD5 O c) [(zs a.2.1 0),(zs a.2.1 1),(zb a.2.1 3),(i6 0),(zs a.2.1 5),(zt a.2.1 6),(zt a.2.1 7)] []) fun b =>
 exIs b.1 (some 4) (cnd (chkL dR b.2.1) (cnd (chkU [] b.2.2)
 (some ((.bool true),[])) none) none)
 (exIs b.1 none (cnd (chkL dR b.2.1) (cnd (chkU [] b.2.2)
 (some ((zb b.2.1 2),[])) none) none)
 (none))) none) none)
 (exIs a.1 none (cnd (chkL fO a.2.1) (cnd (chkU [] a.2.2)
 (some ((zb a.2.1 3),[])) none) none)
 (none))
noncomputable def aBk (m:List GMember) (b:Int):Int->Option (Int⊕(Unit⊕Unit))
 | a =>
 cnd (decide (a<b))
  (bnd (nthI m a) fun d =>
  bnd (nthI m b) fun c =>
  cnd (d.name==c.name)
  (some (.inr (.inr ())))
  (some (.inl (IntKind.wrap .i64 (a+1)))))
  (some (.inr (.inl ())))
abbrev aBl (s:GSchema) (d:List GParam) (m:List GMember) (b:Int) (a:GParam×Bool) (c:PV):List PV:=[(zq aR d),(zq aC m),(.ptr 0 3 0),(.bool false),(i6 b),c,(.str a.1.name),(.str a.1.t.name),(i6 a.1.t.lists),(i6 a.1.t.musts),(.bool a.1.has),(i6 a.1.default.kind),(i6 a.1.default.n),(.str a.1.default.s),(zq aP a.1.default.l),(zq aC a.1.default.m),(zq aH s.defs),(.str s.query),(.str s.mutation)]
abbrev aHk (s:GSchema) (c:List GParam) (m:List GMember) (a:Int) (b:GParam×Bool) (st:Int) (l:List PV) (u:UP):Prop:=l=(aBl s c m a b (i6 st))/\u=[]
abbrev aQt (s:GSchema) (e:List GParam) (m:List GMember) (a:Int) (c:GParam×Bool) (p:Unit⊕Unit) (r:EU):Prop:=elim p (fun (p:Unit)=>∃ (d:Int),r=(Ex.brk 2,(aBl s e m a c (i6 d)),[])) (fun (p:Unit)=>∃ (b:Int),r=(Ex.ret,(aBl s e m a c (i6 b)),[]))
noncomputable def aBm (s:GSchema) (h:List GParam) (m:List GMember):Int->Option (Int⊕(Unit⊕Unit))
 | a =>
 cnd (decide (a<(List.length m:Int)))
  (bnd (nthI m a) fun e =>
  bnd (aNi h e.name) fun c =>
  cnd (!c.2)
  (some (.inr (.inr ())))
  (bnd (nthI m a) fun d =>
  bnd (tX s c.1.t d.v true) fun g =>
  cnd (!g)
   (some (.inr (.inr ())))
   (bnd (aY (aBk m a) 0) fun b=>elim b
   (fun f =>
   some (.inl (IntKind.wrap .i64 (a+1))))
   (fun f =>
   some (.inr (.inr ()))))))
  (some (.inr (.inl ())))
abbrev aBn (s:GSchema) (b:List GParam) (m:List GMember) (a:PV):List PV:=[(zq aR b),(zq aC m),(.ptr 0 3 0),(.bool false),a,(zq aH s.defs),(.str s.query),(.str s.mutation)]
abbrev aQu (s:GSchema) (a:List GParam) (m:List GMember) (st:Int) (l:List PV) (u:UP):Prop:=l=(aBn s a m (i6 st))/\u=[]
abbrev aQv (s:GSchema) (c:List GParam) (m:List GMember) (p:Unit⊕Unit) (r:EU):Prop:=elim p (fun (p:Unit)=>∃ (b:Int),r=(Ex.brk 0,(aBn s c m (i6 b)),[])) (fun (p:Unit)=>∃ (a:Int),r=(Ex.ret,(aBn s c m (i6 a)),[]))
noncomputable def aBo (b:List GParam) (m:List GMember):Int->Option (Int⊕(Unit⊕Unit))
 | a =>
 cnd (decide (a<(List.length b:Int)))
  (bnd (nthI b a) fun f =>
  bnd (aVw f.name m) fun e =>
  cnd (!e.2)
  (bnd (nthI b a) fun d =>
  bnd (bEo d.t) fun c =>
  cnd c
   (bnd (nthI b a) fun g =>
   cnd (!g.has)
   (some (.inr (.inr ())))
   (some (.inl (IntKind.wrap .i64 (a+1)))))
   (some (.inl (IntKind.wrap .i64 (a+1)))))
  (some (.inl (IntKind.wrap .i64 (a+1)))))
  (some (.inr (.inl ())))
abbrev aBp (s:GSchema) (b:List GParam) (m:List GMember) (a:PV):List PV:=[(zq aR b),(zq aC m),(.bool false),a,(zq aH s.defs),(.str s.query),(.str s.mutation)]
abbrev aHl (s:GSchema) (a:List GParam) (m:List GMember) (st:Int) (l:List PV) (u:UP):Prop:=l=(aBp s a m (i6 st))/\u=[]
abbrev aQw (s:GSchema) (c:List GParam) (m:List GMember) (p:Unit⊕Unit) (r:EU):Prop:=elim p (fun (p:Unit)=>∃ (a:Int),r=(Ex.brk 4,(aBp s c m (i6 a)),[])) (fun (p:Unit)=>∃ (b:Int),r=(Ex.ret,(aBp s c m (i6 b)),[]))
noncomputable def aCn (s:GSchema) (e:List GParam) (m:List GMember):Option Bool :=
 bnd (aY (aBm s e m) 0) fun a=>elim a
 (fun c =>
 bnd (aY (aBo e m) 0) fun b=>elim b
 (fun d =>
 some true)
 (fun d =>
 some false))
 (fun c =>
 some false)
def aTI:Decs:={decs:=[(24,(.ref dU)),(27,(.tup [gK,.bool])),(38,(.ref dU)),(41,.bool),(51,(.ref dU)),(56,(.ref dU)),(69,(.ref gK)),(73,(.tup [nO,.bool])),(81,(.ref gK)),(84,.bool),(89,(.ref gK))],loops:=[(2,[(3,3)],⟨fO,[],[(some 0,fO,[]),(none,fO,[])]⟩),(8,[(8,10),(3,3)],⟨jV,[],[(some 2,jV,[]),(none,jV,[])]⟩),(13,[(3,3)],⟨dR,[],[(some 4,dR,[]),(none,dR,[])]⟩)]}
theorem aTJ O a s b m:eW 225 aTI Tryz.f225 O a [(eS s),(zq aR b),(zq aC m)] []=aD6 O a s b m:=by kernel_rfl
theorem aLi s d m a c:∀ st l u,aHk s d m a c st l u->Imp (aBk m a st) (aD3 O aE l u) (kE (aHk s d m a c) (aQt s d m a c)):=by
 rintro b l u ⟨rfl,rfl⟩;simp only [aBk,aD3,zd,zr];refine zG ?_;try simp only [evs,tys]
 apply Imp.cnd
 ·refine zX aC fU fun f _ => ?_;try simp only [evs,tys]
  refine zX aC fU fun e _ => ?_;try simp only [evs,tys]
  apply Imp.cnd;·exact zT ⟨b,zE⟩
  ·exact zN
 ·exact zB ⟨b,zE⟩
theorem aLj s c m:Lok (aQu s c m) (aBm s c m) (aD4 O aE) (aQv s c m):=by
 rintro a l u ⟨rfl,rfl⟩;simp only [aBm,aD4,zd,zr];refine zG ?_;try simp only [evs,tys]
 apply Imp.cnd
 ·refine zX aC fU fun i _ => ?_;try simp only [evs,tys]
  refine zC rfl fun d _ => ?_;try simp only [zes,evs,tys]
  apply Imp.cnd;·exact zT ⟨a,zE⟩
  ·refine zX aC fU fun h _ => ?_;try simp only [evs,tys]
   refine zC rfl fun j _ => ?_;try simp only [zes,evs,tys]
   apply Imp.cnd;·exact zT ⟨a,zE⟩
   ·refine zL (aLi s c m a d) ?_;rintro (p | p) e b
    ·try simp only [aK,aM]
     obtain ⟨g,rfl⟩:=b;refine zH ?_;try simp only [evs,tys]
     exact zN
    ·try simp only [aK,aM]
     obtain ⟨f,rfl⟩:=b;refine Imp.exMiss rfl ?_;refine zH ?_;try simp only [evs,tys]
     exact zT ⟨a,zE⟩
 ·exact zB ⟨a,zE⟩
theorem aLk s b m:∀ st l u,aHl s b m st l u->Imp (aBo b m st) (aD5 O aE l u) (kE (aHl s b m) (aQw s b m)):=by
 rintro a l u ⟨rfl,rfl⟩;simp only [aBo,aD5,zd,zr];refine zG ?_;try simp only [evs,tys]
 apply Imp.cnd
 ·refine zX aR oO fun f _ => ?_;try simp only [evs,tys]
  refine zC rfl fun e _ => ?_;try simp only [zes,evs,tys]
  apply Imp.cnd
  ·refine zX aR oO fun d _ => ?_;try simp only [evs,tys]
   refine zC rfl fun c _ => ?_;try simp only [zes,evs,tys]
   apply Imp.cnd
   ·refine zX aR oO fun g _ => ?_;try simp only [evs,tys]
    apply Imp.cnd;·exact zT ⟨a,zE⟩
    ·exact zN
   ·exact zN
  ·exact zN
 ·exact zB ⟨a,zE⟩
theorem aQx s c m:Imp (aCn s c m) (aD6 O aE s c m) (Ri aA):=by
 simp only [aCn,aD6,zd,zr];try simp only [evs,tys]
 refine zL (aLj s c m) ?_;rintro (p | p) i a
 ·try simp only [aK,aM]
  obtain ⟨h,rfl⟩:=a;refine zH ?_;try simp only [evs,tys]
  refine zL (aLk s c m) ?_;rintro (p | p) g b
  ·try simp only [aK,aM]
   obtain ⟨d,rfl⟩:=b;refine zH ?_;try simp only [evs,tys]
   exact zR
  ·try simp only [aK,aM]
   obtain ⟨e,rfl⟩:=b;refine Imp.exMiss rfl ?_;refine zH ?_;try simp only [evs,tys]
   exact zR
 ·try simp only [aK,aM]
  obtain ⟨f,rfl⟩:=a;refine Imp.exMiss rfl ?_;refine zH ?_;try simp only [evs,tys]
  exact zR
theorem aQy {s a m r} (h:aCn s a m=some r):aCd s a m=some r:=zV aD (aQx s a m) Tryz.func225 (aTJ _ _ s a m) h
def aJD (O:Orc) (e:LBs):bL:=fun a b=>cnd (chkL [.str,n6,n6] a) (cnd (chkU [] b)
 (cnd (decide ((w6 ((iv a 1)+(iv a 2)))<(List.length (sv a 0):Int)))
 (bnd (uO (zt a 0) (i6 (w6 ((iv a 1)+(iv a 2))))) fun d=>cnd (chk (.int .u8) d)
 (aQ O 170 [(.int .u8 (intV d))] fun c=>cnd (chk .bool c)
 (cnd (bG c)
 (some (.nrm,[(zt a 0),(zn a 1),(i6 (w6 ((iv a 2)+1)))],[]))
 (some (.brk 0,[(zt a 0),(zn a 1),(zn a 2)],[]))) none) none)
 (some (.brk 0,[(zt a 0),(zn a 1),(zn a 2)],[]))) none) none
def aJE (O:Orc) (b:LBs) (s:Str) (i:Int):Option (PV×UP) :=
 bnd (b (aJD O b) [(.str s),(i6 i),(i6 0)] []) fun a =>
 exIs a.1 (some 0) (cnd (chkL [.str,n6,n6] a.2.1) (cnd (chkU [] a.2.2)
 (some ((zn a.2.1 2),[])) none) none)
 (none)
noncomputable def aCo (s:Str) (i:Int):Int->Option (Int⊕Int)
 | a =>
 cnd (decide ((IntKind.wrap .i64 (i+a))<(List.length s:Int)))
  (bnd (nthI s (IntKind.wrap .i64 (i+a))) fun c =>
  bnd (aIf (c.toNat:Int)) fun b =>
  cnd b
  (some (.inl (IntKind.wrap .i64 (a+1))))
  (some (.inr a)))
  (some (.inr a))
abbrev aXt (s:Str) (i:Int) (st:Int) (l:List PV) (u:UP):Prop:=l=[(.str s),(i6 i),(i6 st)]/\u=[]
abbrev aXu (s:Str) (i:Int) (p:Int) (r:EU):Prop:=(fun (p:Int)=>r=(Ex.brk 0,[(.str s),(i6 i),(i6 p)],[])) p
noncomputable def aIj (s:Str) (i:Int):Option Int :=
 bnd (aY (aCo s i) 0) fun a =>
 some a
def aZQ:Decs:={decs:=[(17,(.int .u8)),(18,.bool)],loops:=[(2,[],⟨[.str,n6,n6],[],[(some 0,[.str,n6,n6],[])]⟩)]}
theorem aZR O a (s:Str) i:eW 250 aZQ Tryz.f250 O a [(.str s),(i6 i)] []=aJE O a s i:=by kernel_rfl
theorem aQz s i:Lok (aXt s i) (aCo s i) (aJD O aE) (aXu s i):=by
 rintro d l u ⟨rfl,rfl⟩;simp only [aCo,aJD,zd,zr];refine zG ?_;try simp only [evs,tys]
 apply Imp.cnd
 ·refine Imp.op (f:=fun a => .int .u8 (a.toNat:Int)) (fun a h=>iE h) (fun a=>rfl) fun e c => ?_;try simp only [evs,tys]
  refine zC rfl fun b _ => ?_;try simp only [zes,evs,tys]
  apply Imp.cnd;·exact zN
  ·exact Imp.some (kE.brk zE)
 ·exact Imp.some (kE.brk zE)
theorem aXv s i:Imp (aIj s i) (aJE O aE s i) (Ri cS):=by
 simp only [aIj,aJE,zd,zr];try simp only [evs,tys]
 refine zL (aQz s i) ?_;rintro b c a;cases a;refine zH ?_;try simp only [evs,tys]
 exact zR
theorem aXw {s i r} (h:aIj s i=some r):aAZ s i=some r:=zV aB5 (aXv s i) Tryz.func250 (aZR _ _ s i) h
abbrev fZ:List Sh:=[.str,n6,n6,n6,n6,n6,n6,n6]
def aGB (O:Orc) (d:LBs):bL:=fun a c=>cnd (chkL fZ a) (cnd (chkU [] c)
 (cnd (decide ((iv a 7)<(iv a 5)))
 (bnd (uO (zt a 0) (i6 (w6 ((iv a 1)+(iv a 7))))) fun b=>cnd (chk (.int .u8) b)
 (cnd (decide ((w6 (intV b))<128))
 (some (.ret,(pu (pu (rb fZ a) 2 (i6 0)) 3 (i6 0)),[]))
 (cnd (decide ((w6 (intV b))>191))
 (some (.ret,(pu (pu (rb fZ a) 2 (i6 0)) 3 (i6 0)),[]))
 (some (.nrm,(pu (pu (rb fZ a) 4 (i6 (bits .or .i64 (w6 ((iv a 4)*2 ^ min (Int.toNat 6) 64)) (bits .and .i64 (w6 (intV b)) 63)))) 7 (i6 (w6 ((iv a 7)+1)))),[])))) none)
 (some (.brk 1,(rb fZ a),[]))) none) none
def aGC (O:Orc) (h:LBs) (s:Str) (i:Int):Option (PV×UP) :=
 cnd (decide (i<0))
 (some ((.tuple [(i6 0),(i6 0)]),[]))
 (cnd (decide (i≥(List.length s:Int)))
 (some ((.tuple [(i6 0),(i6 0)]),[]))
 (bnd (uO (.str s) (i6 i)) fun x2=>cnd (chk (.int .u8) x2)
 (cnd (decide ((w6 (intV x2))<128))
 (some ((.tuple [(i6 (w6 (intV x2))),(i6 1)]),[]))
 (jn (fun (e:Int) (d:Int) (b:Int) (j:Bool) (g:Bool) (f:Bool) =>
 (cnd (decide (d>(w6 ((List.length s:Int)-i))))
 (some ((.tuple [(i6 0),(i6 0)]),[]))
 (bnd (h (aGB O h) [(.str s),(i6 i),(i6 0),(i6 0),(i6 e),(i6 d),(i6 b),(i6 1)] []) fun a =>
 exIs a.1 (some 1) (cnd (chkL fZ a.2.1) (cnd (chkU [] a.2.2)
 (cnd (decide ((iv a.2.1 4)<(iv a.2.1 6)))
 (some ((.tuple [(i6 0),(i6 0)]),[]))
 (cnd (decide ((iv a.2.1 4)>1114111))
 (some ((.tuple [(i6 0),(i6 0)]),[]))
 (cnd (decide ((iv a.2.1 4)≥55296))
 (cnd (decide ((iv a.2.1 4)<57344))
 (some ((.tuple [(i6 0),(i6 0)]),[]))
 (some ((.tuple [(zn a.2.1 4),(zn a.2.1 5)]),[])))
 (some ((.tuple [(zn a.2.1 4),(zn a.2.1 5)]),[]))))) none) none)
 (exIs a.1 none (cnd (chkL fZ a.2.1) (cnd (chkU [] a.2.2)
 (some ((.tuple [(zn a.2.1 2),(zn a.2.1 3)]),[])) none) none)
 (none))))) fun c =>
 cnd (decide ((w6 (intV x2))≥194))
 (cnd (decide ((w6 (intV x2))<224))
 (c (bits .and .i64 (w6 (intV x2)) 31) 2 128 true true (decide ((w6 (intV x2))<224)))
 (cnd (decide ((w6 (intV x2))≥224))
 (cnd (decide ((w6 (intV x2))<240))
 (c (bits .and .i64 (w6 (intV x2)) 15) 3 2048 false true (decide ((w6 (intV x2))<224)))
 (cnd (decide ((w6 (intV x2))≥240))
 (cnd (decide ((w6 (intV x2))<245))
 (c (bits .and .i64 (w6 (intV x2)) 7) 4 65536 false true (decide ((w6 (intV x2))<224)))
 (some ((.tuple [(i6 0),(i6 0)]),[])))
 (some ((.tuple [(i6 0),(i6 0)]),[]))))
 (cnd (decide ((w6 (intV x2))≥240))
 (cnd (decide ((w6 (intV x2))<245))
 (c (bits .and .i64 (w6 (intV x2)) 7) 4 65536 false true (decide ((w6 (intV x2))<224)))
 (some ((.tuple [(i6 0),(i6 0)]),[])))
 (some ((.tuple [(i6 0),(i6 0)]),[])))))
 (cnd (decide ((w6 (intV x2))≥224))
 (cnd (decide ((w6 (intV x2))<240))
 (c (bits .and .i64 (w6 (intV x2)) 15) 3 2048 false false false)
 (cnd (decide ((w6 (intV x2))≥240))
 (cnd (decide ((w6 (intV x2))<245))
 (c (bits .and .i64 (w6 (intV x2)) 7) 4 65536 false false false)
 (some ((.tuple [(i6 0),(i6 0)]),[])))
 (some ((.tuple [(i6 0),(i6 0)]),[]))))
 (cnd (decide ((w6 (intV x2))≥240))
 (cnd (decide ((w6 (intV x2))<245))
 (c (bits .and .i64 (w6 (intV x2)) 7) 4 65536 false false false)
 (some ((.tuple [(i6 0),(i6 0)]),[])))
 (some ((.tuple [(i6 0),(i6 0)]),[])))))) none))
noncomputable def aD7 (s : Str) (i : Int) (d : Int) : (Int × Int) -> Option ((Int × Int) ⊕ (Int ⊕ Unit))
 | (b, a) =>
 cnd (decide (a < d))
  (bnd (nthI s (IntKind.wrap .i64 (i + a))) fun c =>
  cnd (decide ((IntKind.wrap .i64 (c.toNat : Int)) < 128))
  (some (.inr (.inr ())))
  (cnd (decide ((IntKind.wrap .i64 (c.toNat : Int)) > 191))
   (some (.inr (.inr ())))
   (some (.inl ((bits .or .i64 (IntKind.wrap .i64 (b * 2 ^ min (Int.toNat 6) 64)) (bits .and .i64 (IntKind.wrap .i64 (c.toNat : Int)) 63)), (IntKind.wrap .i64 (a + 1)))))))
  (some (.inr (.inl b)))
abbrev aJF (s:Str) (i:Int) (b:Int) (a:Int) (st:Int×Int) (l:List PV) (u:UP):Prop:=l=[(.str s),(i6 i),(i6 0),(i6 0),(i6 st.1),(i6 b),(i6 a),(i6 st.2)]/\u=[]
abbrev aTK (s:Str) (i:Int) (d:Int) (a:Int) (p:Int⊕Unit) (r:EU):Prop:=elim p (fun (p:Int)=>∃ (c:Int),r=(Ex.brk 1,[(.str s),(i6 i),(i6 0),(i6 0),(i6 p),(i6 d),(i6 a),(i6 c)],[])) (fun f=>(fun (p:Unit)=>∃ (b:Int),∃ (e:Int),r=(Ex.ret,[(.str s),(i6 i),(i6 0),(i6 0),(i6 b),(i6 d),(i6 a),(i6 e)],[])) f)
noncomputable def aFi (s:Str) (i:Int):Option (Int×Int) :=
 cnd (decide (i<0))
 (some (0,0))
 (cnd (decide (i≥(List.length s:Int)))
 (some (0,0))
 (bnd (nthI s i) fun a =>
 cnd (decide ((IntKind.wrap .i64 (a.toNat:Int))<128))
 (some ((IntKind.wrap .i64 (a.toNat:Int)),1))
 (jn (fun (g:Int) (c:Int) (d:Int) (k:Bool) (j:Bool) (h:Bool) =>
 (cnd (decide (c>(IntKind.wrap .i64 ((List.length s:Int)-i))))
 (some (0,0))
 (bnd (aY (aD7 s i c) (g,1)) fun f=>elim f
 (fun b =>
 cnd (decide (b<d))
 (some (0,0))
 (cnd (decide (b>1114111))
 (some (0,0))
 (cnd (decide (b≥55296))
 (cnd (decide (b<57344))
 (some (0,0))
 (some (b,c)))
 (some (b,c)))))
 (fun l =>
 some (0,0))))) fun e =>
 cnd (decide ((IntKind.wrap .i64 (a.toNat:Int))≥194))
 (cnd (decide ((IntKind.wrap .i64 (a.toNat:Int))<224))
 (e (bits .and .i64 (IntKind.wrap .i64 (a.toNat:Int)) 31) 2 128 true true (decide ((IntKind.wrap .i64 (a.toNat:Int))<224)))
 (cnd (decide ((IntKind.wrap .i64 (a.toNat:Int))≥224))
 (cnd (decide ((IntKind.wrap .i64 (a.toNat:Int))<240))
 (e (bits .and .i64 (IntKind.wrap .i64 (a.toNat:Int)) 15) 3 2048 false true (decide ((IntKind.wrap .i64 (a.toNat:Int))<224)))
 (cnd (decide ((IntKind.wrap .i64 (a.toNat:Int))≥240))
 (cnd (decide ((IntKind.wrap .i64 (a.toNat:Int))<245))
 (e (bits .and .i64 (IntKind.wrap .i64 (a.toNat:Int)) 7) 4 65536 false true (decide ((IntKind.wrap .i64 (a.toNat:Int))<224)))
 (some (0,0)))
 (some (0,0))))
 (cnd (decide ((IntKind.wrap .i64 (a.toNat:Int))≥240))
 (cnd (decide ((IntKind.wrap .i64 (a.toNat:Int))<245))
 (e (bits .and .i64 (IntKind.wrap .i64 (a.toNat:Int)) 7) 4 65536 false true (decide ((IntKind.wrap .i64 (a.toNat:Int))<224)))
 (some (0,0)))
 (some (0,0)))))
 (cnd (decide ((IntKind.wrap .i64 (a.toNat:Int))≥224))
 (cnd (decide ((IntKind.wrap .i64 (a.toNat:Int))<240))
 (e (bits .and .i64 (IntKind.wrap .i64 (a.toNat:Int)) 15) 3 2048 false false false)
 (cnd (decide ((IntKind.wrap .i64 (a.toNat:Int))≥240))
 (cnd (decide ((IntKind.wrap .i64 (a.toNat:Int))<245))
 (e (bits .and .i64 (IntKind.wrap .i64 (a.toNat:Int)) 7) 4 65536 false false false)
 (some (0,0)))
 (some (0,0))))
 (cnd (decide ((IntKind.wrap .i64 (a.toNat:Int))≥240))
 (cnd (decide ((IntKind.wrap .i64 (a.toNat:Int))<245))
 (e (bits .and .i64 (IntKind.wrap .i64 (a.toNat:Int)) 7) 4 65536 false false false)
 (some (0,0)))
 (some (0,0)))))))
def aXx:Decs:={decs:=[(21,(.int .u8)),(68,(.int .u8))],loops:=[(17,[],⟨fZ,[],[(some 1,fZ,[]),(none,fZ,[])]⟩)]}
theorem aXy O a (s:Str) i:eW 251 aXx Tryz.f251 O a [(.str s),(i6 i)] []=aGC O a s i:=by kernel_rfl
theorem aNV s i d b:∀ st l u,aJF s i d b st l u->Imp (aD7 s i d st) (aGB O aE l u) (kE (aJF s i d b) (aTK s i d b)):=by
 rintro ⟨e,c⟩ l u ⟨rfl,rfl⟩;simp only [aD7,aGB,zd,zr];refine zG ?_;try simp only [evs,tys]
 apply Imp.cnd
 ·refine Imp.op (f:=fun a => .int .u8 (a.toNat:Int)) (fun a h=>iE h) (fun a=>rfl) fun j g => ?_;try simp only [evs,tys]
  apply Imp.cnd;·exact zT ⟨e,c,zE⟩
  ·apply Imp.cnd;·exact zT ⟨e,c,zE⟩
   ·exact zN
 ·exact zB ⟨c,zE⟩
theorem aTL s i:Imp (aFi s i) (aGC O aE s i) (Ri iI):=by
 simp only [aFi,aGC,zd,zr];try simp only [evs,tys]
 apply Imp.cnd;·exact zR
 ·apply Imp.cnd;·exact zR
  ·refine Imp.op (f:=fun a => .int .u8 (a.toNat:Int)) (fun a h=>iE h) (fun a=>rfl) fun x u => ?_;try simp only [evs,tys]
   apply Imp.cnd;·exact zR
   ·refine Imp.jn (fun I t v=>∀ (l:Int) (g:Int) (b:Int) (k:Bool) (d:Bool) (e:Bool),I (t l g b k d e) (v l g b k d e)) (fun l g b k d e => ?_) fun y w c => ?_
    ·dsimp only;try simp only [evs,tys]
     apply Imp.cnd;·exact zR
     ·refine zL (aNV s i g b) ?_;rintro (m | p) o j
      ·try simp only [aK,aM]
       obtain ⟨n,rfl⟩:=j;refine zH ?_;try simp only [evs,tys]
       apply Imp.cnd;·exact zR
       ·apply Imp.cnd;·exact zR
        ·apply Imp.cnd
         ·apply Imp.cnd;·exact zR
          ·exact zR
         ·exact zR
      ·try simp only [aK,aM]
       obtain ⟨q,r,rfl⟩:=j;refine Imp.exMiss rfl ?_;refine zH ?_;try simp only [evs,tys]
       exact zR
    apply Imp.cnd
    ·apply Imp.cnd;·first | exact c _ _ _ _ _ _ | simpa only [evs,tys,evl] using c _ _ _ _ _ _
     ·apply Imp.cnd
      ·apply Imp.cnd;·first | exact c _ _ _ _ _ _ | simpa only [evs,tys,evl] using c _ _ _ _ _ _
       ·apply Imp.cnd
        ·apply Imp.cnd;·first | exact c _ _ _ _ _ _ | simpa only [evs,tys,evl] using c _ _ _ _ _ _
         ·exact zR
        ·exact zR
      ·apply Imp.cnd
       ·apply Imp.cnd;·first | exact c _ _ _ _ _ _ | simpa only [evs,tys,evl] using c _ _ _ _ _ _
        ·exact zR
       ·exact zR
    ·apply Imp.cnd
     ·apply Imp.cnd;·first | exact c _ _ _ _ _ _ | simpa only [evs,tys,evl] using c _ _ _ _ _ _
      ·apply Imp.cnd
       ·apply Imp.cnd;·first | exact c _ _ _ _ _ _ | simpa only [evs,tys,evl] using c _ _ _ _ _ _
        ·exact zR
       ·exact zR
     ·apply Imp.cnd
      ·apply Imp.cnd;·first | exact c _ _ _ _ _ _ | simpa only [evs,tys,evl] using c _ _ _ _ _ _
       ·exact zR
      ·exact zR
theorem aTM {s i r} (h:aFi s i=some r):aSM s i=some r:=zV aHa (aTL s i) Tryz.func251 (aXy _ _ s i) h
def aGD (O:Orc) (g:LBs):bL:=fun a f=>cnd (chkL [.str,.bool,n6] a) (cnd (chkU [] f)
 (cnd (decide ((iv a 2)<(List.length (sv a 0):Int)))
 (bnd (uO (zt a 0) (zn a 2)) fun e=>cnd (chk (.int .u8) e)
 (aQ O 169 [(.int .u8 (intV e))] fun d=>cnd (chk .bool d)
 (cnd (!(bG d))
 (bnd (uO (zt a 0) (zn a 2)) fun c=>cnd (chk (.int .u8) c)
 (aQ O 170 [(.int .u8 (intV c))] fun b=>cnd (chk .bool b)
 (cnd (!(bG b))
 (some (.ret,[(zt a 0),(.bool false),(zn a 2)],[]))
 (some (.nrm,[(zt a 0),(zb a 1),(i6 (w6 ((iv a 2)+1)))],[]))) none) none)
 (some (.nrm,[(zt a 0),(zb a 1),(i6 (w6 ((iv a 2)+1)))],[]))) none) none)
 (some (.brk 0,[(zt a 0),(zb a 1),(zn a 2)],[]))) none) none
def aGE (O:Orc) (c:LBs) (s:Str):Option (PV×UP) :=
 cnd (s==([]:Str))
 (some ((.bool false),[]))
 (bnd (uO (.str s) (i6 0)) fun b=>cnd (chk (.int .u8) b)
 (aQ O 169 [(.int .u8 (intV b))] fun x3=>cnd (chk .bool x3)
 (cnd (!(bG x3))
 (some ((.bool false),[]))
 (bnd (c (aGD O c) [(.str s),(.bool false),(i6 1)] []) fun a =>
 exIs a.1 (some 0) (cnd (chkL [.str,.bool,n6] a.2.1) (cnd (chkU [] a.2.2)
 (some ((.bool true),[])) none) none)
 (exIs a.1 none (cnd (chkL [.str,.bool,n6] a.2.1) (cnd (chkU [] a.2.2)
 (some ((zb a.2.1 1),[])) none) none)
 (none)))) none) none)
noncomputable def pC (s:Str):Int->Option (Int⊕(Unit⊕Unit))
 | a =>
 cnd (decide (a<(List.length s:Int)))
  (bnd (nthI s a) fun d =>
  bnd (aIg (d.toNat:Int)) fun e =>
  cnd (!e)
  (bnd (nthI s a) fun c =>
  bnd (aIf (c.toNat:Int)) fun b =>
  cnd (!b)
   (some (.inr (.inr ())))
   (some (.inl (IntKind.wrap .i64 (a+1)))))
  (some (.inl (IntKind.wrap .i64 (a+1)))))
  (some (.inr (.inl ())))
abbrev aTN (s:Str) (st:Int) (l:List PV) (u:UP):Prop:=l=[(.str s),(.bool false),(i6 st)]/\u=[]
abbrev aTO (s:Str) (p:Unit⊕Unit) (r:EU):Prop:=elim p (fun (p:Unit)=>∃ (a:Int),r=(Ex.brk 0,[(.str s),(.bool false),(i6 a)],[])) (fun c=>(fun (p:Unit)=>∃ (b:Int),r=(Ex.ret,[(.str s),(.bool false),(i6 b)],[])) c)
noncomputable def aFj (s:Str):Option Bool :=
 cnd (s==([]:Str))
 (some false)
 (bnd (nthI s 0) fun d =>
 bnd (aIg (d.toNat:Int)) fun c =>
 cnd (!c)
 (some false)
 (bnd (aY (pC s) 1) fun a=>elim a
 (fun b =>
 some true)
 (fun b =>
 some false)))
def aXz:Decs:={decs:=[(8,(.int .u8)),(9,.bool),(20,(.int .u8)),(21,.bool),(26,(.int .u8)),(27,.bool)],loops:=[(4,[],⟨[.str,.bool,n6],[],[(some 0,[.str,.bool,n6],[]),(none,[.str,.bool,n6],[])]⟩)]}
theorem aXA O a (s:Str):eW 98 aXz Tryz.f98 O a [(.str s)] []=aGE O a s:=by kernel_rfl
theorem aNW s:Lok (aTN s) (pC s) (aGD O aE) (aTO s):=by
 rintro b l u ⟨rfl,rfl⟩;simp only [pC,aGD,zd,zr];refine zG ?_;try simp only [evs,tys]
 apply Imp.cnd
 ·refine Imp.op (f:=fun a => .int .u8 (a.toNat:Int)) (fun a h=>iE h) (fun a=>rfl) fun i c => ?_;try simp only [evs,tys]
  refine zC rfl fun j _ => ?_;try simp only [zes,evs,tys]
  apply Imp.cnd
  ·refine Imp.op (f:=fun a => .int .u8 (a.toNat:Int)) (fun a h=>iE h) (fun a=>rfl) fun g d => ?_;try simp only [evs,tys]
   refine zC rfl fun e _ => ?_;try simp only [zes,evs,tys]
   apply Imp.cnd;·exact zT ⟨b,zE⟩
   ·exact zN
  ·exact zN
 ·exact zB ⟨b,zE⟩
theorem aTP s:Imp (aFj s) (aGE O aE s) (Ri aA):=by
 simp only [aFj,aGE,zd,zr];try simp only [evs,tys]
 apply Imp.cnd;·exact zR
 ·refine Imp.op (f:=fun a => .int .u8 (a.toNat:Int)) (fun a h=>iE h) (fun a=>rfl) fun j g => ?_;try simp only [evs,tys]
  refine zC rfl fun i _ => ?_;try simp only [zes,evs,tys]
  apply Imp.cnd;·exact zR
  ·refine zL (aNW s) ?_;rintro (p | p) e b
   ·try simp only [aK,aM]
    obtain ⟨c,rfl⟩:=b;refine zH ?_;try simp only [evs,tys]
    exact zR
   ·try simp only [aK,aM]
    obtain ⟨d,rfl⟩:=b;refine Imp.exMiss rfl ?_;refine zH ?_;try simp only [evs,tys]
    exact zR
theorem aTQ {s r} (h:aFj s=some r):aSN s=some r:=zV aD (aTP s) Tryz.func98 (aXA _ _ s) h
abbrev jW:List Sh:=[sf,.bool,n6,n6]
def aD8 (O:Orc) (e:LBs):bL:=fun a c=>cnd (chkL jW a) (cnd (chkU [] c)
 (cnd (decide ((iv a 3)<(iv a 2)))
 (bnd (ix 1 (zs a 0) (zn a 2)) fun d=>cnd (chk (.ref .str) d)
 (bnd (ix 1 (zs a 0) (zn a 3)) fun b=>cnd (chk (.ref .str) b)
 (cnd ((strV (refV d))==(strV (refV b)))
 (some (.ret,(pu (rb jW a) 1 (.bool true)),[]))
 (some (.nrm,(pu (rb jW a) 3 (i6 (w6 ((iv a 3)+1)))),[]))) none) none)
 (some (.brk 2,(rb jW a),[]))) none) none
def aD9 (O:Orc) (d:LBs):bL:=fun b c=>cnd (chkL [sf,.bool,n6] b) (cnd (chkU [] c)
 (cnd (decide ((iv b 2)<(List.length (ev b 0):Int)))
 (bnd (d (aD8 O d) [(zs b 0),(zb b 1),(zn b 2),(i6 0)] []) fun a =>
 exIs a.1 (some 2) (cnd (chkL [sf,.bool,n6,n6] a.2.1) (cnd (chkU [] a.2.2)
 (some (.nrm,[(zs a.2.1 0),(zb a.2.1 1),(i6 (w6 ((iv a.2.1 2)+1)))],[])) none) none)
 (exIs a.1 none (cnd (chkL [sf,.bool,n6,n6] a.2.1) (cnd (chkU [] a.2.2)
 (some (.ret,[(zs a.2.1 0),(zb a.2.1 1),(zn a.2.1 2)],[])) none) none)
 (none)))
 (some (.brk 0,[(zs b 0),(zb b 1),(zn b 2)],[]))) none) none
def aEa (O:Orc) (b:LBs) (c:List Str):Option (PV×UP) :=
 bnd (b (aD9 O b) [(zq PV.str c),(.bool false),(i6 0)] []) fun a =>
 exIs a.1 (some 0) (cnd (chkL [sf,.bool,n6] a.2.1) (cnd (chkU [] a.2.2)
 (some ((.bool false),[])) none) none)
 (exIs a.1 none (cnd (chkL [sf,.bool,n6] a.2.1) (cnd (chkU [] a.2.2)
 (some ((zb a.2.1 1),[])) none) none)
 (none))
noncomputable def jX (e:List Str) (b:Int):Int->Option (Int⊕(Unit⊕Unit))
 | a =>
 cnd (decide (a<b))
  (bnd (nthI e b) fun d =>
  bnd (nthI e a) fun c =>
  cnd (d==c)
  (some (.inr (.inr ())))
  (some (.inl (IntKind.wrap .i64 (a+1)))))
  (some (.inr (.inl ())))
abbrev aQA (b:List Str) (a:Int) (st:Int) (l:List PV) (u:UP):Prop:=l=[(zq PV.str b),(.bool false),(i6 a),(i6 st)]/\u=[]
abbrev aQB (d:List Str) (a:Int) (p:Unit⊕Unit) (r:EU):Prop:=elim p (fun (p:Unit)=>∃ (b:Int),r=(Ex.brk 2,[(zq PV.str d),(.bool false),(i6 a),(i6 b)],[])) (fun e=>(fun (p:Unit)=>∃ (c:Int),r=(Ex.ret,[(zq PV.str d),(.bool true),(i6 a),(i6 c)],[])) e)
noncomputable def mT (d:List Str):Int->Option (Int⊕(Unit⊕Unit))
 | a =>
 cnd (decide (a<(List.length d:Int)))
  (bnd (aY (jX d a) 0) fun b=>elim b
  (fun c =>
  some (.inl (IntKind.wrap .i64 (a+1))))
  (fun c =>
  some (.inr (.inr ()))))
  (some (.inr (.inl ())))
abbrev aQC (a:List Str) (st:Int) (l:List PV) (u:UP):Prop:=l=[(zq PV.str a),(.bool false),(i6 st)]/\u=[]
abbrev aQD (c:List Str) (p:Unit⊕Unit) (r:EU):Prop:=elim p (fun (p:Unit)=>∃ (b:Int),r=(Ex.brk 0,[(zq PV.str c),(.bool false),(i6 b)],[])) (fun d=>(fun (p:Unit)=>∃ (a:Int),r=(Ex.ret,[(zq PV.str c),(.bool true),(i6 a)],[])) d)
noncomputable def aCp (c:List Str):Option Bool :=
 bnd (aY (mT c) 0) fun a=>elim a
 (fun b =>
 some false)
 (fun b =>
 some true)
def aTR:Decs:={decs:=[(18,(.ref .str)),(22,(.ref .str))],loops:=[(2,[],⟨[sf,.bool,n6],[],[(some 0,[sf,.bool,n6],[]),(none,[sf,.bool,n6],[])]⟩),(5,[],⟨jW,[],[(some 2,jW,[]),(none,jW,[])]⟩)]}
theorem aTS O a (b:List Str):eW 50 aTR Tryz.f50 O a [(zq PV.str b)] []=aEa O a b:=by kernel_rfl
theorem aLl c a:Lok (aQA c a) (jX c a) (aD8 O aE) (aQB c a):=by
 rintro b l u ⟨rfl,rfl⟩;simp only [jX,aD8,zd,zr];refine zG ?_;try simp only [evs,tys]
 apply Imp.cnd
 ·refine zX PV.str (fun _=>rfl) fun e _ => ?_;try simp only [evs,tys]
  refine zX PV.str (fun _=>rfl) fun d _ => ?_;try simp only [evs,tys]
  apply Imp.cnd;·exact zT ⟨b,zE⟩
  ·exact zN
 ·exact zB ⟨b,zE⟩
theorem aLm c:Lok (aQC c) (mT c) (aD9 O aE) (aQD c):=by
 rintro a l u ⟨rfl,rfl⟩;simp only [mT,aD9,zd,zr];refine zG ?_;try simp only [evs,tys]
 apply Imp.cnd
 ·refine zL (aLl c a) ?_;rintro (p | p) d b
  ·try simp only [aK,aM]
   obtain ⟨e,rfl⟩:=b;refine zH ?_;try simp only [evs,tys]
   exact zN
  ·try simp only [aK,aM]
   obtain ⟨f,rfl⟩:=b;refine Imp.exMiss rfl ?_;refine zH ?_;try simp only [evs,tys]
   exact zT ⟨a,zE⟩
 ·exact zB ⟨a,zE⟩
theorem aQE b:Imp (aCp b) (aEa O aE b) (Ri aA):=by
 simp only [aCp,aEa,zd,zr];try simp only [evs,tys]
 refine zL (aLm b) ?_;rintro (p | p) c a
 ·try simp only [aK,aM]
  obtain ⟨e,rfl⟩:=a;refine zH ?_;try simp only [evs,tys]
  exact zR
 ·try simp only [aK,aM]
  obtain ⟨d,rfl⟩:=a;refine Imp.exMiss rfl ?_;refine zH ?_;try simp only [evs,tys]
  exact zR
theorem aQF {a r} (h:aCp a=some r):xN a=some r:=zV aD (aQE a) Tryz.func50 (aTS _ _ a) h
abbrev eJ:List Sh:=[n6,(.ptr 0 4 0),.bool,sf,n6,n6,sf,sf,sf,.str,.str]
def yP (O:Orc) (g:LBs):bL:=fun a e=>cnd (chkL eJ a) (cnd (chkU [] e)
 (bnd (ix 1 (zs a 3) (zn a 4)) fun d=>cnd (chk (.ref sf) d)
 (cnd (decide ((iv a 5)<(List.length (esV (refV d)):Int)))
 (cnd ((iv a 0)==12)
 (bnd (ix 1 (zs a 3) (zn a 4)) fun c=>cnd (chk (.ref sf) c)
 (bnd (ix 2 (.slice (esV (refV c)) [] false) (zn a 5)) fun b=>cnd (chk (.ref aCA) b)
 (aQ O 121 [(zt (rf b) 0)] fun f=>cnd (chk (.tup [gK,.bool]) f)
 (cnd (!(bG (tv f 1)))
 (some (.ret,(pu (rb eJ a) 2 (.bool false)),[]))
 (some (.nrm,(pu (rb eJ a) 5 (i6 (w6 ((iv a 5)+1)))),[]))) none) none) none)
 (some (.brk 2,(rb eJ a),[])))
 (some (.brk 2,(rb eJ a),[]))) none) none) none
abbrev gB:List Sh:=[n6,(.ptr 0 4 0),.bool,sf,n6,sf,sf,sf,.str,.str]
def yQ (O:Orc) (n:LBs):bL:=fun b m=>cnd (chkL gB b) (cnd (chkU [] m)
 (cnd (decide ((iv b 4)<(List.length (ev b 3):Int)))
 (bnd (n (yP O n) [(zn b 0),(.ptr 0 4 0),(zb b 2),(zs b 3),(zn b 4),(i6 0),(zs b 5),(zs b 6),(zs b 7),(zt b 8),(zt b 9)] []) fun a =>
 exIs a.1 (some 2) (cnd (chkL [n6,(.ptr 0 4 0),.bool,sf,n6,n6,sf,sf,sf,.str,.str] a.2.1) (cnd (chkU [] a.2.2)
 (cnd ((iv a.2.1 0)==13)
 (cnd (decide ((iv a.2.1 4)<(w6 ((List.length (ev a.2.1 6):Int)+(List.length (ev a.2.1 7):Int)))))
 (bnd (ix 1 (zs a.2.1 3) (zn a.2.1 4)) fun d=>cnd (chk (.ref sf) d)
 (cnd (decide ((List.length (esV (refV d)):Int)>0))
 (some (.ret,[(zn a.2.1 0),(.ptr 0 4 0),(.bool false),(zs a.2.1 3),(zn a.2.1 4),(zs a.2.1 6),(zs a.2.1 7),(zs a.2.1 8),(zt a.2.1 9),(zt a.2.1 10)],[]))
 (cnd ((iv a.2.1 0)==14)
 (bnd (ix 1 (zs a.2.1 3) (zn a.2.1 4)) fun f=>cnd (chk (.ref sf) f)
 (aQ O 122 [(.slice (esV (refV f)) [] false)] fun i=>cnd (chk sf i)
 (aQ O 50 [(.slice (esV i) [] false)] fun j=>cnd (chk .bool j)
 (cnd (bG j)
 (some (.ret,[(zn a.2.1 0),(.ptr 0 4 0),(.bool false),(zs a.2.1 3),(zn a.2.1 4),(zs a.2.1 6),(zs a.2.1 7),(zs a.2.1 8),(zt a.2.1 9),(zt a.2.1 10)],[]))
 (some (.nrm,[(zn a.2.1 0),(.ptr 0 4 0),(zb a.2.1 2),(zs a.2.1 3),(i6 (w6 ((iv a.2.1 4)+1))),(zs a.2.1 6),(zs a.2.1 7),(zs a.2.1 8),(zt a.2.1 9),(zt a.2.1 10)],[]))) none) none) none)
 (some (.nrm,[(zn a.2.1 0),(.ptr 0 4 0),(zb a.2.1 2),(zs a.2.1 3),(i6 (w6 ((iv a.2.1 4)+1))),(zs a.2.1 6),(zs a.2.1 7),(zs a.2.1 8),(zt a.2.1 9),(zt a.2.1 10)],[])))) none)
 (cnd ((iv a.2.1 0)==14)
 (bnd (ix 1 (zs a.2.1 3) (zn a.2.1 4)) fun c=>cnd (chk (.ref sf) c)
 (aQ O 122 [(.slice (esV (refV c)) [] false)] fun k=>cnd (chk sf k)
 (aQ O 50 [(.slice (esV k) [] false)] fun e=>cnd (chk .bool e)
 (cnd (bG e)
 (some (.ret,[(zn a.2.1 0),(.ptr 0 4 0),(.bool false),(zs a.2.1 3),(zn a.2.1 4),(zs a.2.1 6),(zs a.2.1 7),(zs a.2.1 8),(zt a.2.1 9),(zt a.2.1 10)],[]))
 (some (.nrm,[(zn a.2.1 0),(.ptr 0 4 0),(zb a.2.1 2),(zs a.2.1 3),(i6 (w6 ((iv a.2.1 4)+1))),(zs a.2.1 6),(zs a.2.1 7),(zs a.2.1 8),(zt a.2.1 9),(zt a.2.1 10)],[]))) none) none) none)
 (some (.nrm,[(zn a.2.1 0),(.ptr 0 4 0),(zb a.2.1 2),(zs a.2.1 3),(i6 (w6 ((iv a.2.1 4)+1))),(zs a.2.1 6),(zs a.2.1 7),(zs a.2.1 8),(zt a.2.1 9),(zt a.2.1 10)],[]))))
 (cnd ((iv a.2.1 0)==14)
 (bnd (ix 1 (zs a.2.1 3) (zn a.2.1 4)) fun g=>cnd (chk (.ref sf) g)
 (aQ O 122 [(.slice (esV (refV g)) [] false)] fun h=>cnd (chk sf h)
 (aQ O 50 [(.slice (esV h) [] false)] fun l=>cnd (chk .bool l)
 (cnd (bG l)
 (some (.ret,[(zn a.2.1 0),(.ptr 0 4 0),(.bool false),(zs a.2.1 3),(zn a.2.1 4),(zs a.2.1 6),(zs a.2.1 7),(zs a.2.1 8),(zt a.2.1 9),(zt a.2.1 10)],[]))
 (some (.nrm,[(zn a.2.1 0),(.ptr 0 4 0),(zb a.2.1 2),(zs a.2.1 3),(i6 (w6 ((iv a.2.1 4)+1))),(zs a.2.1 6),(zs a.2.1 7),(zs a.2.1 8),(zt a.2.1 9),(zt a.2.1 10)],[]))) none) none) none)
 (some (.nrm,[(zn a.2.1 0),(.ptr 0 4 0),(zb a.2.1 2),(zs a.2.1 3),(i6 (w6 ((iv a.2.1 4)+1))),(zs a.2.1 6),(zs a.2.1 7),(zs a.2.1 8),(zt a.2.1 9),(zt a.2.1 10)],[])))) none) none)
 (exIs a.1 none (cnd (chkL [n6,(.ptr 0 4 0),.bool,sf,n6,n6,sf,sf,sf,.str,.str] a.2.1) (cnd (chkU [] a.2.2)
 (some (.ret,[(zn a.2.1 0),(.ptr 0 4 0),(zb a.2.1 2),(zs a.2.1 3),(zn a.2.1 4),(zs a.2.1 6),(zs a.2.1 7),(zs a.2.1 8),(zt a.2.1 9),(zt a.2.1 10)],[])) none) none)
 (none)))
 (some (.brk 0,(rb gB b),[]))) none) none
def yR (O:Orc) (c:LBs) (s:GSchema) (d:GDoc) (n:Int):Option (PV×UP) :=
 aQ O 120 [(eS s),(eD d)] fun b=>cnd (chk sf b)
 (bnd (c (yQ O c) [(i6 n),(.ptr 0 4 0),(.bool false),(.slice (esV b) [] false),(i6 0),(zq aU d.ops),(zq aG d.frags),(zq aH s.defs),(.str s.query),(.str s.mutation)] []) fun a =>
 exIs a.1 (some 0) (cnd (chkL gB a.2.1) (cnd (chkU [] a.2.2)
 (some ((.bool true),[])) none) none)
 (exIs a.1 none (cnd (chkL gB a.2.1) (cnd (chkU [] a.2.2)
 (some ((zb a.2.1 2),[])) none) none)
 (none))) none
noncomputable def dL (n:Int) (g:List (List GDir)) (b:Int):Int->Option (Int⊕(Unit⊕Unit))
 | a =>
 bnd (nthI g b) fun f =>
 cnd (decide (a<(List.length f:Int)))
  (cnd (n==12)
  (bnd (nthI g b) fun c =>
  bnd (nthI c a) fun e =>
  bnd (xO e.name) fun d =>
  cnd (!d.2)
   (some (.inr (.inr ())))
   (some (.inl (IntKind.wrap .i64 (a+1)))))
  (some (.inr (.inl ()))))
  (some (.inr (.inl ())))
abbrev uZ (s:GSchema) (d:GDoc) (n:Int) (c:List (List GDir)) (a:Int) (b:PV):List PV:=[(i6 n),(.ptr 0 4 0),(.bool false),(.slice (List.map (cL aF) c) [] false),(i6 a),b,(zq aU d.ops),(zq aG d.frags),(zq aH s.defs),(.str s.query),(.str s.mutation)]
abbrev aCX (s:GSchema) (d:GDoc) (n:Int) (b:List (List GDir)) (a:Int) (st:Int) (l:List PV) (u:UP):Prop:=l=(uZ s d n b a (i6 st))/\u=[]
abbrev aLn (s:GSchema) (d:GDoc) (n:Int) (e:List (List GDir)) (a:Int) (p:Unit⊕Unit) (r:EU):Prop:=elim p (fun (p:Unit)=>∃ (c:Int),r=(Ex.brk 2,(uZ s d n e a (i6 c)),[])) (fun (p:Unit)=>∃ (b:Int),r=(Ex.ret,(uZ s d n e a (i6 b)),[]))
noncomputable def cD (d : GDoc) (n : Int) (c : List (List GDir)) : Int -> Option (Int ⊕ (Unit ⊕ Unit))
 | a =>
 cnd (decide (a < (List.length c : Int)))
  (bnd (aY (dL n c a) 0) fun b => elim b
  (fun k =>
  cnd (n == 13)
   (cnd (decide (a < (IntKind.wrap .i64 ((List.length d.ops : Int) + (List.length d.frags : Int)))))
   (bnd (nthI c a) fun f =>
   cnd (decide ((List.length f : Int) > 0))
    (some (.inr (.inr ())))
    (cnd (n == 14)
    (bnd (nthI c a) fun g =>
    bnd (sU g) fun m =>
    bnd (xN m) fun h =>
    cnd h
     (some (.inr (.inr ())))
     (some (.inl (IntKind.wrap .i64 (a + 1)))))
    (some (.inl (IntKind.wrap .i64 (a + 1))))))
   (cnd (n == 14)
    (bnd (nthI c a) fun j =>
    bnd (sU j) fun i =>
    bnd (xN i) fun o =>
    cnd o
    (some (.inr (.inr ())))
    (some (.inl (IntKind.wrap .i64 (a + 1)))))
    (some (.inl (IntKind.wrap .i64 (a + 1))))))
   (cnd (n == 14)
   (bnd (nthI c a) fun l =>
   bnd (sU l) fun p =>
   bnd (xN p) fun e =>
   cnd e
    (some (.inr (.inr ())))
    (some (.inl (IntKind.wrap .i64 (a + 1)))))
   (some (.inl (IntKind.wrap .i64 (a + 1))))))
  (fun k =>
  some (.inr (.inr ()))))
  (some (.inr (.inl ())))
abbrev vA (s:GSchema) (d:GDoc) (n:Int) (b:List (List GDir)) (a:PV):List PV:=[(i6 n),(.ptr 0 4 0),(.bool false),(.slice (List.map (cL aF) b) [] false),a,(zq aU d.ops),(zq aG d.frags),(zq aH s.defs),(.str s.query),(.str s.mutation)]
abbrev aCY (s:GSchema) (d:GDoc) (n:Int) (a:List (List GDir)) (st:Int) (l:List PV) (u:UP):Prop:=l=(vA s d n a (i6 st))/\u=[]
abbrev aLo (s:GSchema) (d:GDoc) (n:Int) (c:List (List GDir)) (p:Unit⊕Unit) (r:EU):Prop:=elim p (fun (p:Unit)=>∃ (b:Int),r=(Ex.brk 0,(vA s d n c (i6 b)),[])) (fun (p:Unit)=>∃ (a:Int),r=(Ex.ret,(vA s d n c (i6 a)),[]))
noncomputable def mU (s:GSchema) (d:GDoc) (n:Int):Option Bool :=
 bnd (aDs s d) fun c =>
 bnd (aY (cD d n c) 0) fun a=>elim a
 (fun b =>
 some true)
 (fun b =>
 some false)
def aNX:Decs:={decs:=[(14,sf),(24,(.ref sf)),(37,(.ref sf)),(40,(.ref aCA)),(43,(.tup [gK,.bool])),(64,(.ref sf)),(75,(.ref sf)),(77,sf),(78,.bool)],loops:=[(3,[(4,2),(3,3)],⟨gB,[],[(some 0,gB,[]),(none,gB,[])]⟩),(6,[(4,2),(3,3)],⟨eJ,[],[(some 2,eJ,[]),(none,eJ,[])]⟩)]}
theorem aNY O a s d n:eW 60 aNX Tryz.f60 O a [(eS s),(eD d),(i6 n)] []=yR O a s d n:=by kernel_rfl
theorem aHU s d n e b:∀ st l u,aCX s d n e b st l u->Imp (dL n e b st) (yP O aE l u) (kE (aCX s d n e b) (aLn s d n e b)):=by
 rintro c l u ⟨rfl,rfl⟩;simp only [dL,yP,zd,zr];refine zG ?_;try simp only [evs,tys]
 refine Imp.op (f:=fun a => .ref ((cL aF) a)) (fun a h=>aI0 (enc:=(cL aF)) zI ⟨zA,by decide⟩ h) (fun a=>rfl) fun o g => ?_;try simp only [evs,tys]
 apply Imp.cnd
 ·apply Imp.cnd
  ·refine Imp.op (f:=fun a => .ref ((cL aF) a)) (fun a h=>aI0 (enc:=(cL aF)) zI ⟨zA,by decide⟩ h) (fun a=>rfl) fun j i => ?_;try simp only [evs,tys]
   refine zX aF tU fun m _ => ?_;try simp only [evs,tys]
   refine zC rfl fun k _ => ?_;try simp only [zes,evs,tys]
   apply Imp.cnd;·exact zT ⟨c,zE⟩
   ·exact zN
  ·exact zB ⟨c,zE⟩
 ·exact zB ⟨c,zE⟩
theorem aHV s d n e:∀ st l u,aCY s d n e st l u->Imp (cD d n e st) (yQ O aE l u) (kE (aCY s d n e) (aLo s d n e)):=by
 rintro b l u ⟨rfl,rfl⟩;simp only [cD,yQ,zd,zr];refine zG ?_;try simp only [evs,tys]
 apply Imp.cnd
 ·refine zL (aHU s d n e b) ?_;rintro (p | p) m c
  ·try simp only [aK,aM]
   obtain ⟨j,rfl⟩:=c;refine zH ?_;try simp only [evs,tys]
   apply Imp.cnd
   ·apply Imp.cnd
    ·refine Imp.op (f:=fun a => .ref ((cL aF) a)) (fun a h=>aI0 (enc:=(cL aF)) zI ⟨zA,by decide⟩ h) (fun a=>rfl) fun t g => ?_;try simp only [evs,tys]
     apply Imp.cnd;·exact zT ⟨b,zE⟩
     ·apply Imp.cnd
      ·refine Imp.op (f:=fun a => .ref ((cL aF) a)) (fun a h=>aI0 (enc:=(cL aF)) zI ⟨zA,by decide⟩ h) (fun a=>rfl) fun v i => ?_;try simp only [evs,tys]
       refine zC rfl fun A _ => ?_;try simp only [zes,evs,tys]
       refine zC rfl fun w _ => ?_;try simp only [zes,evs,tys]
       apply Imp.cnd;·exact zT ⟨b,zE⟩
       ·exact zN
      ·exact zN
    ·apply Imp.cnd
     ·refine Imp.op (f:=fun a => .ref ((cL aF) a)) (fun a h=>aI0 (enc:=(cL aF)) zI ⟨zA,by decide⟩ h) (fun a=>rfl) fun y q => ?_;try simp only [evs,tys]
      refine zC rfl fun x _ => ?_;try simp only [zes,evs,tys]
      refine zC rfl fun B _ => ?_;try simp only [zes,evs,tys]
      apply Imp.cnd;·exact zT ⟨b,zE⟩
      ·exact zN
     ·exact zN
   ·apply Imp.cnd
    ·refine Imp.op (f:=fun a => .ref ((cL aF) a)) (fun a h=>aI0 (enc:=(cL aF)) zI ⟨zA,by decide⟩ h) (fun a=>rfl) fun z k => ?_;try simp only [evs,tys]
     refine zC rfl fun C _ => ?_;try simp only [zes,evs,tys]
     refine zC rfl fun r _ => ?_;try simp only [zes,evs,tys]
     apply Imp.cnd;·exact zT ⟨b,zE⟩
     ·exact zN
    ·exact zN
  ·try simp only [aK,aM]
   obtain ⟨o,rfl⟩:=c;refine Imp.exMiss rfl ?_;refine zH ?_;try simp only [evs,tys]
   exact zT ⟨b,zE⟩
 ·exact zB ⟨b,zE⟩
theorem aLp s d n:Imp (mU s d n) (yR O aE s d n) (Ri aA):=by
 simp only [mU,yR,zd,zr];try simp only [evs,tys]
 refine zC rfl fun f _ => ?_;try simp only [zes,evs,tys]
 refine zL (aHV s d n f) ?_;rintro (p | p) e a
 ·try simp only [aK,aM]
  obtain ⟨c,rfl⟩:=a;refine zH ?_;try simp only [evs,tys]
  exact zR
 ·try simp only [aK,aM]
  obtain ⟨b,rfl⟩:=a;refine Imp.exMiss rfl ?_;refine zH ?_;try simp only [evs,tys]
  exact zR
theorem vB {s d n r} (h:mU s d n=some r):oS s d n=some r:=zV aD (aLp s d n) Tryz.func60 (aNY _ _ s d n) h
def yS (O:Orc) (e:LBs) (f:GFieldDef) (a:GDef) (u0_6:Str) (d:Str) (c:Int) (b:Int) (u0_5:Str) (u0_3:GSchema):Option (PV×UP) :=
 some ((.bool (f.name==u0_5)),[[(8,[(i6 a.kind),(.str a.name),(zq PV.str a.faces),(zq aL a.fields),(zq PV.str a.parts),(zq aR a.params)]),(6,[(.str u0_6),(.slice [] [] true),(.str d),(i6 c),(i6 b),(.slice [] [] true)]),(5,[(.str u0_5)]),(3,[(zq aH u0_3.defs),(.str u0_3.query),(.str u0_3.mutation)])]])
noncomputable def aBq (f:GFieldDef) (d:GDef) (u0_6:Str) (c:Str) (b:Int) (a:Int) (u0_5:Str) (u0_3:GSchema):Option Bool :=
 some (f.name==u0_5)
def aNZ:Decs:={}
theorem aN0 O e f a (u0_6:Str) (d:Str) c b (u0_5:Str) u0_3:eW 180 aNZ Tryz.f180 O e [(.agg [(.str f.name),(zq aR f.params),(.str f.t.name),(i6 f.t.lists),(i6 f.t.musts),(zq aF f.dirs)]),(.ptr 1 5 0)] [[(8,[(i6 a.kind),(.str a.name),(zq PV.str a.faces),(zq aL a.fields),(zq PV.str a.parts),(zq aR a.params)]),(6,[(.str u0_6),(.slice [] [] true),(.str d),(i6 c),(i6 b),(.slice [] [] true)]),(5,[(.str u0_5)]),(3,[(zq aH u0_3.defs),(.str u0_3.query),(.str u0_3.mutation)])]]=yS O e f a u0_6 d c b u0_5 u0_3:=by kernel_rfl
theorem aLq f d u0_6 c b a u0_5 u0_3:Imp (aBq f d u0_6 c b a u0_5 u0_3) (yS O aE f d u0_6 c b a u0_5 u0_3) (fun r v=>v=(aA r,(lQ f d u0_6 c b a u0_5 u0_3 r))):=by
 simp only [aBq,yS,zd,zr];try simp only [evs,tys]
 exact Imp.some (by first | rfl | simp only [zes,lQ,evs,tys,evl])
theorem aLr {f d u0_6 c b a u0_5 u0_3 r} (h:aBq f d u0_6 c b a u0_5 u0_3=some r):aF7 f d u0_6 c b a u0_5 u0_3=some r:=zV aD (aLq f d u0_6 c b a u0_5 u0_3) Tryz.func180 (aN0 _ _ f d u0_6 c b a u0_5 u0_3) h
abbrev fA:List Sh:=[sf,(.func 180 [] [(.ptr 1 5 0)]),n6,n6,n6]
def vC (O:Orc) (e:LBs):bL:=fun c a=>cnd (chkL fA c) (cnd (chkU [[(8,[n6,.str,sf,sf,sf,sf]),(6,[.str,st',.str,n6,n6,st']),(5,[.str]),(3,[sf,.str,.str])]] a)
 (cnd (decide ((iv c 4)<(iv c 3)))
 (bnd (ix 6 (zs c 0) (zn c 4)) fun d=>cnd (chk (.ref cO) d)
 (bnd (O 180 [(.agg [(zt (rf d) 0),(zs (rf d) 1),(zt (rf d) 2),(zn (rf d) 3),(zn (rf d) 4),(zs (rf d) 5)]),(.ptr 2 5 0)] [[],[(8,[(zn (bx a 0 0) 0),(zt (bx a 0 0) 1),(zs (bx a 0 0) 2),(zs (bx a 0 0) 3),(zs (bx a 0 0) 4),(zs (bx a 0 0) 5)]),(6,[(zt (bx a 0 1) 0),(zo (bx a 0 1) 1),(zt (bx a 0 1) 2),(zn (bx a 0 1) 3),(zn (bx a 0 1) 4),(zo (bx a 0 1) 5)]),(5,[(zt (bx a 0 2) 0)]),(3,[(zs (bx a 0 3) 0),(zt (bx a 0 3) 1),(zt (bx a 0 3) 2)])]]) fun b=>cnd (chkU [[],[(8,[n6,.str,sf,sf,sf,sf]),(6,[.str,st',.str,n6,n6,st']),(5,[.str]),(3,[sf,.str,.str])]] b.2) (cnd (chk .bool b.1)
 (cnd (bG b.1)
 (some (.ret,[(zs c 0),(.func (.func 180) [] [(.ptr 1 5 0)]),(zn c 4),(zn c 3),(zn c 4)],[[(8,[(zn (bx b.2 1 0) 0),(zt (bx b.2 1 0) 1),(zs (bx b.2 1 0) 2),(zs (bx b.2 1 0) 3),(zs (bx b.2 1 0) 4),(zs (bx b.2 1 0) 5)]),(6,[(zt (bx b.2 1 1) 0),(zo (bx b.2 1 1) 1),(zt (bx b.2 1 1) 2),(zn (bx b.2 1 1) 3),(zn (bx b.2 1 1) 4),(zo (bx b.2 1 1) 5)]),(5,[(zt (bx b.2 1 2) 0)]),(3,[(zs (bx b.2 1 3) 0),(zt (bx b.2 1 3) 1),(zt (bx b.2 1 3) 2)])]]))
 (some (.nrm,[(zs c 0),(.func (.func 180) [] [(.ptr 1 5 0)]),(zn c 2),(zn c 3),(i6 (w6 ((iv c 4)+1)))],[[(8,[(zn (bx b.2 1 0) 0),(zt (bx b.2 1 0) 1),(zs (bx b.2 1 0) 2),(zs (bx b.2 1 0) 3),(zs (bx b.2 1 0) 4),(zs (bx b.2 1 0) 5)]),(6,[(zt (bx b.2 1 1) 0),(zo (bx b.2 1 1) 1),(zt (bx b.2 1 1) 2),(zn (bx b.2 1 1) 3),(zn (bx b.2 1 1) 4),(zo (bx b.2 1 1) 5)]),(5,[(zt (bx b.2 1 2) 0)]),(3,[(zs (bx b.2 1 3) 0),(zt (bx b.2 1 3) 1),(zt (bx b.2 1 3) 2)])]]))) none) none) none)
 (some (.brk 0,(pu (rb fA c) 1 (.func (.func 180) [] [(.ptr 1 5 0)])),[[(8,[(zn (bx a 0 0) 0),(zt (bx a 0 0) 1),(zs (bx a 0 0) 2),(zs (bx a 0 0) 3),(zs (bx a 0 0) 4),(zs (bx a 0 0) 5)]),(6,[(zt (bx a 0 1) 0),(zo (bx a 0 1) 1),(zt (bx a 0 1) 2),(zn (bx a 0 1) 3),(zn (bx a 0 1) 4),(zo (bx a 0 1) 5)]),(5,[(zt (bx a 0 2) 0)]),(3,[(zs (bx a 0 3) 0),(zt (bx a 0 3) 1),(zt (bx a 0 3) 2)])]]))) none) none
def vD (O:Orc) (f:LBs) (s:List GFieldDef) (b:GDef) (u0_6:Str) (e:Str) (d:Int) (c:Int) (u0_5:Str) (u0_3:GSchema):Option (PV×UP) :=
 bnd (f (vC O f) [(zq aL s),(.func (.func 180) [] [(.ptr 1 5 0)]),(i6 0),(i6 (List.length (List.map aL s):Int)),(i6 0)] [[(8,[(i6 b.kind),(.str b.name),(zq PV.str b.faces),(zq aL b.fields),(zq PV.str b.parts),(zq aR b.params)]),(6,[(.str u0_6),(.slice [] [] true),(.str e),(i6 d),(i6 c),(.slice [] [] true)]),(5,[(.str u0_5)]),(3,[(zq aH u0_3.defs),(.str u0_3.query),(.str u0_3.mutation)])]]) fun a =>
 exIs a.1 (some 0) (cnd (chkL fA a.2.1) (cnd (chkU [[(8,[n6,.str,sf,sf,sf,sf]),(6,[.str,st',.str,n6,n6,st']),(5,[.str]),(3,[sf,.str,.str])]] a.2.2)
 (some ((i6 (-1)),[[(8,[(zn (bx a.2.2 0 0) 0),(zt (bx a.2.2 0 0) 1),(zs (bx a.2.2 0 0) 2),(zs (bx a.2.2 0 0) 3),(zs (bx a.2.2 0 0) 4),(zs (bx a.2.2 0 0) 5)]),(6,[(zt (bx a.2.2 0 1) 0),(zo (bx a.2.2 0 1) 1),(zt (bx a.2.2 0 1) 2),(zn (bx a.2.2 0 1) 3),(zn (bx a.2.2 0 1) 4),(zo (bx a.2.2 0 1) 5)]),(5,[(zt (bx a.2.2 0 2) 0)]),(3,[(zs (bx a.2.2 0 3) 0),(zt (bx a.2.2 0 3) 1),(zt (bx a.2.2 0 3) 2)])]])) none) none)
 (exIs a.1 none (cnd (chkL fA a.2.1) (cnd (chkU [[(8,[n6,.str,sf,sf,sf,sf]),(6,[.str,st',.str,n6,n6,st']),(5,[.str]),(3,[sf,.str,.str])]] a.2.2)
 (some ((zn a.2.1 2),[[(8,[(zn (bx a.2.2 0 0) 0),(zt (bx a.2.2 0 0) 1),(zs (bx a.2.2 0 0) 2),(zs (bx a.2.2 0 0) 3),(zs (bx a.2.2 0 0) 4),(zs (bx a.2.2 0 0) 5)]),(6,[(zt (bx a.2.2 0 1) 0),(zo (bx a.2.2 0 1) 1),(zt (bx a.2.2 0 1) 2),(zn (bx a.2.2 0 1) 3),(zn (bx a.2.2 0 1) 4),(zo (bx a.2.2 0 1) 5)]),(5,[(zt (bx a.2.2 0 2) 0)]),(3,[(zs (bx a.2.2 0 3) 0),(zt (bx a.2.2 0 3) 1),(zt (bx a.2.2 0 3) 2)])]])) none) none)
 (none))
noncomputable def gO (s:List GFieldDef) (e:GDef) (u0_6:Str) (d:Str) (b:Int) (a:Int) (u0_5:Str) (u0_3:GSchema):Int->Option (Int⊕(Unit⊕Int))
 | c =>
 cnd (decide (c<(List.length s:Int)))
  (bnd (nthI s c) fun g =>
  bnd (aF7 g e u0_6 d b a u0_5 u0_3) fun f =>
  cnd f
  (some (.inr (.inr c)))
  (some (.inl (IntKind.wrap .i64 (c+1)))))
  (some (.inr (.inl ())))
abbrev aJG (s:List GFieldDef) (a:GDef) (u0_6:Str) (d:Str) (c:Int) (b:Int) (u0_5:Str) (u0_3:GSchema) (st:Int) (l:List PV) (u:UP):Prop:=l=[(zq aL s),(.func (.func 180) [] [(.ptr 1 5 0)]),(i6 0),(i6 (List.length s:Int)),(i6 st)]/\u=[[(8,[(i6 a.kind),(.str a.name),(zq PV.str a.faces),(zq aL a.fields),(zq PV.str a.parts),(zq aR a.params)]),(6,[(.str u0_6),(.slice [] [] true),(.str d),(i6 c),(i6 b),(.slice [] [] true)]),(5,[(.str u0_5)]),(3,[(zq aH u0_3.defs),(.str u0_3.query),(.str u0_3.mutation)])]]
abbrev aJH (s:List GFieldDef) (a:GDef) (u0_6:Str) (d:Str) (c:Int) (b:Int) (u0_5:Str) (u0_3:GSchema) (p:Unit⊕Int) (r:EU):Prop:=elim p (fun (p:Unit)=>∃ (e:Int),r=(Ex.brk 0,[(zq aL s),(.func (.func 180) [] [(.ptr 1 5 0)]),(i6 0),(i6 (List.length s:Int)),(i6 e)],[[(8,[(i6 a.kind),(.str a.name),(zq PV.str a.faces),(zq aL a.fields),(zq PV.str a.parts),(zq aR a.params)]),(6,[(.str u0_6),(.slice [] [] true),(.str d),(i6 c),(i6 b),(.slice [] [] true)]),(5,[(.str u0_5)]),(3,[(zq aH u0_3.defs),(.str u0_3.query),(.str u0_3.mutation)])]])) (fun g=>(fun (p:Int)=>∃ (f:Int),r=(Ex.ret,[(zq aL s),(.func (.func 180) [] [(.ptr 1 5 0)]),(i6 p),(i6 (List.length s:Int)),(i6 f)],[[(8,[(i6 a.kind),(.str a.name),(zq PV.str a.faces),(zq aL a.fields),(zq PV.str a.parts),(zq aR a.params)]),(6,[(.str u0_6),(.slice [] [] true),(.str d),(i6 c),(i6 b),(.slice [] [] true)]),(5,[(.str u0_5)]),(3,[(zq aH u0_3.defs),(.str u0_3.query),(.str u0_3.mutation)])]])) g)
noncomputable def nZ (s:List GFieldDef) (f:GDef) (u0_6:Str) (c:Str) (b:Int) (a:Int) (u0_5:Str) (u0_3:GSchema):Option Int :=
 bnd (aY (gO s f u0_6 c b a u0_5 u0_3) 0) fun d=>elim d
 (fun g =>
 some (-1))
 (fun e =>
 some e)
def aLs:Decs:={decs:=[(14,(.ref cO)),(16,.bool)],ups:=[(16,[[],[(8,[n6,.str,sf,sf,sf,sf]),(6,[.str,st',.str,n6,n6,st']),(5,[.str]),(3,[sf,.str,.str])]])],loops:=[(2,[],⟨fA,[[(8,[n6,.str,sf,sf,sf,sf]),(6,[.str,st',.str,n6,n6,st']),(5,[.str]),(3,[sf,.str,.str])]],[(some 0,fA,[[(8,[n6,.str,sf,sf,sf,sf]),(6,[.str,st',.str,n6,n6,st']),(5,[.str]),(3,[sf,.str,.str])]]),(none,fA,[[(8,[n6,.str,sf,sf,sf,sf]),(6,[.str,st',.str,n6,n6,st']),(5,[.str]),(3,[sf,.str,.str])]])]⟩)]}
theorem aLt O e s a (u0_6:Str) (d:Str) c b (u0_5:Str) u0_3:eW 179 aLs Tryz.f179 O e [(zq aL s),(.func (.func 180) [] [(.ptr 1 5 0)])] [[(8,[(i6 a.kind),(.str a.name),(zq PV.str a.faces),(zq aL a.fields),(zq PV.str a.parts),(zq aR a.params)]),(6,[(.str u0_6),(.slice [] [] true),(.str d),(i6 c),(i6 b),(.slice [] [] true)]),(5,[(.str u0_5)]),(3,[(zq aH u0_3.defs),(.str u0_3.query),(.str u0_3.mutation)])]]=vD O e s a u0_6 d c b u0_5 u0_3:=by kernel_rfl
theorem aGF s e u0_6 d c b u0_5 u0_3:Lok (aJG s e u0_6 d c b u0_5 u0_3) (gO s e u0_6 d c b u0_5 u0_3) (vC O aE) (aJH s e u0_6 d c b u0_5 u0_3):=by
 rintro g l u ⟨rfl,rfl⟩;simp only [gO,vC,zd,zr];refine zG ?_;try simp only [evs,tys]
 apply Imp.cnd
 ·refine zX aL fJ fun m _ => ?_;try simp only [evs,tys]
  refine Imp.gcall (f:=aA) (fu:=fun a=>[]::lQ m e u0_6 d c b u0_5 u0_3 a) (fun a h=>by first | exact jC rfl rfl (by first | rfl | (simp only [zes,tys];rfl)) (bH h) | (have j:=bH h;simp only [evs,tys,evl,lQ] at j;exact jC rfl rfl (by first | rfl | (simp only [zes,tys];rfl)) j)) zK (fun a=>by first | rfl | (simp only [lQ,evs,tys];first | rfl | (cases w<;>rfl))) fun k i => ?_;try simp only [aA,lQ,evs,tys]
  apply Imp.cnd;·exact zT ⟨g,zE⟩
  ·exact zN
 ·exact zB ⟨g,zE⟩
theorem aJI s d u0_6 c b a u0_5 u0_3:Imp (nZ s d u0_6 c b a u0_5 u0_3) (vD O aE s d u0_6 c b a u0_5 u0_3) (fun r v=>v=(cS r,(bJ s d u0_6 c b a u0_5 u0_3 r))):=by
 simp only [nZ,vD,zd,zr];try simp only [evs,tys]
 refine zL (aGF s d u0_6 c b a u0_5 u0_3) ?_;rintro (p | g) f e
 ·try simp only [aK,aM]
  obtain ⟨h,rfl⟩:=e;refine zH ?_;try simp only [evs,tys]
  exact Imp.some (by first | rfl | simp only [zes,bJ,evs,tys,evl])
 ·try simp only [aK,aM]
  obtain ⟨i,rfl⟩:=e;refine Imp.exMiss rfl ?_;refine zH ?_;try simp only [evs,tys]
  exact Imp.some (by first | rfl | simp only [zes,bJ,evs,tys,evl])
theorem aJJ {s d u0_6 c b a u0_5 u0_3 r} (h:nZ s d u0_6 c b a u0_5 u0_3=some r):lR s d u0_6 c b a u0_5 u0_3=some r:=zV aB5 (aJI s d u0_6 c b a u0_5 u0_3) Tryz.func179 (aLt _ _ s d u0_6 c b a u0_5 u0_3) h
def aEb (O:Orc) (m:LBs) (s:GSchema) (h:Str) (b:Str):Option (PV×UP) :=
 cnd (b==([95,95,116,121,112,101,110,97,109,101]:Str))
 (aQ O 140 [(eS s),(.str h)] fun l=>cnd (chk .bool l)
 (cnd (bG l)
 (some ((.tuple [(.agg [(.str [95,95,116,121,112,101,110,97,109,101]),(.slice [] [] false),(.str [83,116,114,105,110,103]),(i6 0),(i6 1),(.slice [] [] false)]),(.bool true)]),[]))
 (aQ O 178 [(eS s),(.str h)] fun x3=>cnd (chk (.tup [pY,.bool]) x3)
 (cnd (!(bG (tv x3 1)))
 (some ((.tuple [(.agg [(.str []),(.slice [] [] false),(.str []),(i6 0),(i6 0),(.slice [] [] false)]),(.bool false)]),[]))
 (cnd ((iv (tg x3 0) 0) != 1)
 (cnd ((iv (tg x3 0) 0) != 2)
 (some ((.tuple [(.agg [(.str []),(.slice [] [] false),(.str []),(i6 0),(i6 0),(.slice [] [] false)]),(.bool false)]),[]))
 (bnd (O 179 [(zs (tg x3 0) 3),(.func (.func 180) [] [(.ptr 1 5 0)])] [[(8,[(zn (tg x3 0) 0),(zt (tg x3 0) 1),(zs (tg x3 0) 2),(zs (tg x3 0) 3),(zs (tg x3 0) 4),(zs (tg x3 0) 5)]),(6,[(.str []),(.slice [] [] true),(.str []),(i6 0),(i6 0),(.slice [] [] true)]),(5,[(.str b)]),(3,[(zq aH s.defs),(.str s.query),(.str s.mutation)])]]) fun k=>cnd (chkU [[(8,[n6,.str,sf,sf,sf,sf]),(6,[.str,st',.str,n6,n6,st']),(5,[.str]),(3,[sf,.str,.str])]] k.2) (cnd (chk n6 k.1)
 (cnd (decide ((intV k.1)<0))
 (some ((.tuple [(.agg [(.str []),(.slice [] [] false),(.str []),(i6 0),(i6 0),(.slice [] [] false)]),(.bool false)]),[]))
 (bnd (ix 6 (zs (bx k.2 0 0) 3) (i6 (intV k.1))) fun i=>cnd (chk (.ref cO) i)
 (some ((.tuple [(.agg [(zt (rf i) 0),(zs (rf i) 1),(zt (rf i) 2),(zn (rf i) 3),(zn (rf i) 4),(zs (rf i) 5)]),(.bool true)]),[])) none)) none) none))
 (bnd (O 179 [(zs (tg x3 0) 3),(.func (.func 180) [] [(.ptr 1 5 0)])] [[(8,[(zn (tg x3 0) 0),(zt (tg x3 0) 1),(zs (tg x3 0) 2),(zs (tg x3 0) 3),(zs (tg x3 0) 4),(zs (tg x3 0) 5)]),(6,[(.str []),(.slice [] [] true),(.str []),(i6 0),(i6 0),(.slice [] [] true)]),(5,[(.str b)]),(3,[(zq aH s.defs),(.str s.query),(.str s.mutation)])]]) fun j=>cnd (chkU [[(8,[n6,.str,sf,sf,sf,sf]),(6,[.str,st',.str,n6,n6,st']),(5,[.str]),(3,[sf,.str,.str])]] j.2) (cnd (chk n6 j.1)
 (cnd (decide ((intV j.1)<0))
 (some ((.tuple [(.agg [(.str []),(.slice [] [] false),(.str []),(i6 0),(i6 0),(.slice [] [] false)]),(.bool false)]),[]))
 (bnd (ix 6 (zs (bx j.2 0 0) 3) (i6 (intV j.1))) fun c=>cnd (chk (.ref cO) c)
 (some ((.tuple [(.agg [(zt (rf c) 0),(zs (rf c) 1),(zt (rf c) 2),(zn (rf c) 3),(zn (rf c) 4),(zs (rf c) 5)]),(.bool true)]),[])) none)) none) none))) none)) none)
 (aQ O 178 [(eS s),(.str h)] fun a=>cnd (chk (.tup [pY,.bool]) a)
 (cnd (!(bG (tv a 1)))
 (some ((.tuple [(.agg [(.str []),(.slice [] [] false),(.str []),(i6 0),(i6 0),(.slice [] [] false)]),(.bool false)]),[]))
 (cnd ((iv (tg a 0) 0) != 1)
 (cnd ((iv (tg a 0) 0) != 2)
 (some ((.tuple [(.agg [(.str []),(.slice [] [] false),(.str []),(i6 0),(i6 0),(.slice [] [] false)]),(.bool false)]),[]))
 (bnd (O 179 [(zs (tg a 0) 3),(.func (.func 180) [] [(.ptr 1 5 0)])] [[(8,[(zn (tg a 0) 0),(zt (tg a 0) 1),(zs (tg a 0) 2),(zs (tg a 0) 3),(zs (tg a 0) 4),(zs (tg a 0) 5)]),(6,[(.str []),(.slice [] [] true),(.str []),(i6 0),(i6 0),(.slice [] [] true)]),(5,[(.str b)]),(3,[(zq aH s.defs),(.str s.query),(.str s.mutation)])]]) fun f=>cnd (chkU [[(8,[n6,.str,sf,sf,sf,sf]),(6,[.str,st',.str,n6,n6,st']),(5,[.str]),(3,[sf,.str,.str])]] f.2) (cnd (chk n6 f.1)
 (cnd (decide ((intV f.1)<0))
 (some ((.tuple [(.agg [(.str []),(.slice [] [] false),(.str []),(i6 0),(i6 0),(.slice [] [] false)]),(.bool false)]),[]))
 (bnd (ix 6 (zs (bx f.2 0 0) 3) (i6 (intV f.1))) fun e=>cnd (chk (.ref cO) e)
 (some ((.tuple [(.agg [(zt (rf e) 0),(zs (rf e) 1),(zt (rf e) 2),(zn (rf e) 3),(zn (rf e) 4),(zs (rf e) 5)]),(.bool true)]),[])) none)) none) none))
 (bnd (O 179 [(zs (tg a 0) 3),(.func (.func 180) [] [(.ptr 1 5 0)])] [[(8,[(zn (tg a 0) 0),(zt (tg a 0) 1),(zs (tg a 0) 2),(zs (tg a 0) 3),(zs (tg a 0) 4),(zs (tg a 0) 5)]),(6,[(.str []),(.slice [] [] true),(.str []),(i6 0),(i6 0),(.slice [] [] true)]),(5,[(.str b)]),(3,[(zq aH s.defs),(.str s.query),(.str s.mutation)])]]) fun g=>cnd (chkU [[(8,[n6,.str,sf,sf,sf,sf]),(6,[.str,st',.str,n6,n6,st']),(5,[.str]),(3,[sf,.str,.str])]] g.2) (cnd (chk n6 g.1)
 (cnd (decide ((intV g.1)<0))
 (some ((.tuple [(.agg [(.str []),(.slice [] [] false),(.str []),(i6 0),(i6 0),(.slice [] [] false)]),(.bool false)]),[]))
 (bnd (ix 6 (zs (bx g.2 0 0) 3) (i6 (intV g.1))) fun d=>cnd (chk (.ref cO) d)
 (some ((.tuple [(.agg [(zt (rf d) 0),(zs (rf d) 1),(zt (rf d) 2),(zn (rf d) 3),(zn (rf d) 4),(zs (rf d) 5)]),(.bool true)]),[])) none)) none) none))) none)
noncomputable def aCq (s:GSchema) (d:Str) (b:Str):Option (GFieldDef×Bool) :=
 cnd (b==([95,95,116,121,112,101,110,97,109,101]:Str))
 (bnd (aA2 s d) fun l =>
 cnd l
 (some ((GFieldDef.mk [95,95,116,121,112,101,110,97,109,101] ([]:List GParam) (GType.mk [83,116,114,105,110,103] 0 1) ([]:List GDir)),true))
 (bnd (aJo s d) fun c =>
 cnd (!c.2)
 (some ((GFieldDef.mk [] ([]:List GParam) (GType.mk [] 0 0) ([]:List GDir)),false))
 (cnd (c.1.kind != 1)
 (cnd (c.1.kind != 2)
 (some ((GFieldDef.mk [] ([]:List GParam) (GType.mk [] 0 0) ([]:List GDir)),false))
 (bnd (lR c.1.fields c.1 [] [] 0 0 b s) fun k =>
 cnd (decide (k<0))
 (some ((GFieldDef.mk [] ([]:List GParam) (GType.mk [] 0 0) ([]:List GDir)),false))
 (bnd (nthI c.1.fields k) fun m =>
 some (m,true))))
 (bnd (lR c.1.fields c.1 [] [] 0 0 b s) fun f =>
 cnd (decide (f<0))
 (some ((GFieldDef.mk [] ([]:List GParam) (GType.mk [] 0 0) ([]:List GDir)),false))
 (bnd (nthI c.1.fields f) fun h =>
 some (h,true))))))
 (bnd (aJo s d) fun a =>
 cnd (!a.2)
 (some ((GFieldDef.mk [] ([]:List GParam) (GType.mk [] 0 0) ([]:List GDir)),false))
 (cnd (a.1.kind != 1)
 (cnd (a.1.kind != 2)
 (some ((GFieldDef.mk [] ([]:List GParam) (GType.mk [] 0 0) ([]:List GDir)),false))
 (bnd (lR a.1.fields a.1 [] [] 0 0 b s) fun g =>
 cnd (decide (g<0))
 (some ((GFieldDef.mk [] ([]:List GParam) (GType.mk [] 0 0) ([]:List GDir)),false))
 (bnd (nthI a.1.fields g) fun j =>
 some (j,true))))
 (bnd (lR a.1.fields a.1 [] [] 0 0 b s) fun e =>
 cnd (decide (e<0))
 (some ((GFieldDef.mk [] ([]:List GParam) (GType.mk [] 0 0) ([]:List GDir)),false))
 (bnd (nthI a.1.fields e) fun i =>
 some (i,true)))))
def aTT:Decs:={decs:=[(16,.bool),(23,(.tup [pY,.bool])),(42,n6),(49,(.ref cO))],ups:=[(42,[[(8,[n6,.str,sf,sf,sf,sf]),(6,[.str,st',.str,n6,n6,st']),(5,[.str]),(3,[sf,.str,.str])]])]}
theorem aTU O c s (b:Str) (a:Str):eW 109 aTT Tryz.f109 O c [(eS s),(.str b),(.str a)] []=aEb O c s b a:=by kernel_rfl
theorem aQG s e b:Imp (aCq s e b) (aEb O aE s e b) (Ri qD):=by
 simp only [aCq,aEb,zd,zr];try simp only [evs,tys]
 apply Imp.cnd
 ·refine zC rfl fun u _ => ?_;try simp only [zes,evs,tys]
  apply Imp.cnd;·exact zR
  ·refine zC rfl fun g _ => ?_;try simp only [zes,evs,tys]
   apply Imp.cnd;·exact zR
   ·apply Imp.cnd
    ·apply Imp.cnd;·exact zR
     ·refine Imp.gcall (f:=cS) (fu:=fun a=>bJ g.1.fields g.1 [] [] 0 0 b s a) (fun a h=>by first | exact bH h | (have c:=bH h;simp only [evs,tys,evl,bJ] at c;exact c)) zK (fun a=>by first | rfl | (simp only [bJ,evs,tys];first | rfl | (cases w<;>rfl))) fun t p => ?_;try simp only [cS,bJ,evs,tys]
      apply Imp.cnd;·exact zR
      ·refine zX aL fJ fun v _ => ?_;try simp only [evs,tys]
       exact zR
    ·refine Imp.gcall (f:=cS) (fu:=fun a=>bJ g.1.fields g.1 [] [] 0 0 b s a) (fun a h=>by first | exact bH h | (have c:=bH h;simp only [evs,tys,evl,bJ] at c;exact c)) zK (fun a=>by first | rfl | (simp only [bJ,evs,tys];first | rfl | (cases w<;>rfl))) fun m i => ?_;try simp only [cS,bJ,evs,tys]
     apply Imp.cnd;·exact zR
     ·refine zX aL fJ fun n _ => ?_;try simp only [evs,tys]
      exact zR
 ·refine zC rfl fun d _ => ?_;try simp only [zes,evs,tys]
  apply Imp.cnd;·exact zR
  ·apply Imp.cnd
   ·apply Imp.cnd;·exact zR
    ·refine Imp.gcall (f:=cS) (fu:=fun a=>bJ d.1.fields d.1 [] [] 0 0 b s a) (fun a h=>by first | exact bH h | (have c:=bH h;simp only [evs,tys,evl,bJ] at c;exact c)) zK (fun a=>by first | rfl | (simp only [bJ,evs,tys];first | rfl | (cases w<;>rfl))) fun q j => ?_;try simp only [cS,bJ,evs,tys]
     apply Imp.cnd;·exact zR
     ·refine zX aL fJ fun r _ => ?_;try simp only [evs,tys]
      exact zR
   ·refine Imp.gcall (f:=cS) (fu:=fun a=>bJ d.1.fields d.1 [] [] 0 0 b s a) (fun a h=>by first | exact bH h | (have c:=bH h;simp only [evs,tys,evl,bJ] at c;exact c)) zK (fun a=>by first | rfl | (simp only [bJ,evs,tys];first | rfl | (cases w<;>rfl))) fun l k => ?_;try simp only [cS,bJ,evs,tys]
    apply Imp.cnd;·exact zR
    ·refine zX aL fJ fun o _ => ?_;try simp only [evs,tys]
     exact zR
theorem aQH {s b a r} (h:aCq s b a=some r):aNh s b a=some r:=zV aMd (aQG s b a) Tryz.func109 (aTU _ _ s b a) h
abbrev mV:List Sh:=[(.ptr 0 1 0),(.ptr 0 2 0),st',n6,n6,n6,.str,st',st',n6,n6,.str,sf,sf]
def aEc (O:Orc) (f:LBs):bL:=fun c e=>cnd (chkL mV c) (cnd (chkU [] e)
 (cnd (decide ((iv c 3)<(List.length (ev c 12):Int)))
 (bnd (ix 5 (zs c 12) (zn c 3)) fun a=>cnd (chk (.ref nO) a)
 (aQ O 175 [(.agg [(zn (rf a) 0),(zn (rf a) 1),(zt (rf a) 2),(zs (rf a) 3),(zs (rf a) 4)])] fun b=>cnd (chk nO b)
 (bnd (apd 5 (zo c 2) (.slice [(.agg [(i6 (intV (gt (aggV b) 0))),(i6 (intV (gt (aggV b) 1))),(.str (strV (gt (aggV b) 2))),(.slice (esV (gt (aggV b) 3)) [] false),(.slice (esV (gt (aggV b) 4)) [] false)])] [] true)) fun d=>cnd (chk st' d)
 (some (.nrm,(pu (pu (rb mV c) 2 (.slice (esV d) [] true)) 3 (i6 (w6 ((iv c 3)+1)))),[])) none) none) none)
 (some (.brk 0,(rb mV c),[]))) none) none
def aEd (O:Orc) (c:LBs) (v0:GValue):Option (PV×UP) :=
 bnd (c (aEc O c) [(.ptr 0 1 0),(.ptr 0 2 0),(.slice [] [] true),(i6 0),(i6 0),(i6 0),(.str []),(.slice [] [] true),(.slice [] [] true),(i6 v0.kind),(i6 v0.n),(.str v0.s),(zq aP v0.l),(zq aC v0.m)] []) fun a =>
 exIs a.1 (some 0) (cnd (chkL mV a.2.1) (cnd (chkU [] a.2.2)
 (aQ O 103 [(zs a.2.1 13)] fun b=>cnd (chk sf b)
 (some ((.agg [(zn a.2.1 9),(zn a.2.1 10),(zt a.2.1 11),(zs a.2.1 2),(.slice (esV b) [] false)]),[])) none) none) none)
 (none)
noncomputable def mW (v0:GValue):((List GValue)×Int)->Option (((List GValue)×Int)⊕((List GValue)))
 | (b,a) =>
 cnd (decide (a<(List.length v0.l:Int)))
  (bnd (nthI v0.l a) fun e =>
  bnd (aCf e) fun d =>
  bnd (tapp b [d]) fun c =>
  some (.inl (c,(IntKind.wrap .i64 (a+1)))))
  (some (.inr b))
abbrev aHm (v0:GValue) (a b:PV):List PV:=[(.ptr 0 1 0),(.ptr 0 2 0),a,b,(i6 0),(i6 0),(.str []),(.slice [] [] true),(.slice [] [] true),(i6 v0.kind),(i6 v0.n),(.str v0.s),(zq aP v0.l),(zq aC v0.m)]
abbrev aQI (v0:GValue) (st:(List GValue)×Int) (l:List PV) (u:UP):Prop:=l=(aHm v0 (zp aP st.1) (i6 st.2))/\u=[]
abbrev aQJ (v0:GValue) (p:(List GValue)) (r:EU):Prop:=∃ (a:Int),r=(Ex.brk 0,(aHm v0 (zp aP p) (i6 a)),[])
noncomputable def aCr (v0:GValue):Option GValue :=
 bnd (aY (mW v0) ([],0)) fun a =>
 bnd (wC v0.m) fun b =>
 some (GValue.mk v0.kind v0.n v0.s a b)
def aTV:Decs:={decs:=[(16,(.ref nO)),(18,nO),(20,st'),(24,sf)],loops:=[(3,[(2,5),(1,5)],⟨mV,[],[(some 0,mV,[])]⟩)]}
theorem aTW O a v0:eW 175 aTV Tryz.f175 O a [(eV v0)] []=aEd O a v0:=by kernel_rfl
theorem aLu v0:Lok (aQI v0) (mW v0) (aEc O aE) (aQJ v0):=by
 rintro ⟨i,b⟩ l u ⟨rfl,rfl⟩;simp only [mW,aEc,zd,zr];refine zG ?_;try simp only [evs,tys]
 apply Imp.cnd
 ·refine zX aP aB1 fun g _ => ?_;try simp only [evs,tys]
  refine zC rfl fun e _ => ?_;try simp only [zes,evs,tys]
  refine Imp.op (f:=fun a => .slice (List.map aP a) [] true) (fun a h=>pX (enc:=aP) zI zI (fun a=>by first | rfl | simp only [evs,tys,evc]) h) (fun a=>rfl) fun d c => ?_;try simp only [evs,tys]
  exact zN
 ·exact zB ⟨b,zE⟩
theorem aQK v0:Imp (aCr v0) (aEd O aE v0) (Ri aA0):=by
 simp only [aCr,aEd,zd,zr];try simp only [evs,tys]
 refine zL (aLu v0) ?_;rintro a _ ⟨b,rfl⟩;refine zH ?_;try simp only [evs,tys]
 refine zC rfl fun c _ => ?_;try simp only [zes,evs,tys]
 exact zR
theorem aQL {v0 r} (h:aCr v0=some r):aCf v0=some r:=zV aWY (aQK v0) Tryz.func175 (aTW _ _ v0) h
def aBs (O:Orc) (c:LBs) (s:GSchema) (a:Str) (x:GSel):Option (PV×UP) :=
 cnd (x.kind==0)
 (aQ O 117 [(eS s),(.str a),(.str x.name)] fun b=>cnd (chk (.tup [cO,.bool]) b)
 (some ((zt (tg b 0) 2),[])) none)
 (cnd (x.kind==2)
 (cnd (x.on_==([]:Str))
 (some ((.str a),[]))
 (some ((.str x.on_),[])))
 (some ((.str []),[])))
noncomputable def yT (s:GSchema) (a:Str) (x:GSel):Option Str :=
 cnd (x.kind==0)
 (bnd (aNj s a x.name) fun b =>
 some b.1.t.name)
 (cnd (x.kind==2)
 (cnd (x.on_==([]:Str))
 (some a)
 (some x.on_))
 (some []))
def aQM:Decs:={decs:=[(18,(.tup [cO,.bool]))]}
theorem aQN O b s (a:Str) x:eW 184 aQM Tryz.f184 O b [(eS s),(.str a),(eL x)] []=aBs O b s a x:=by kernel_rfl
theorem aN1 s a x:Imp (yT s a x) (aBs O aE s a x) (Ri nS):=by
 simp only [yT,aBs,zd,zr];try simp only [evs,tys]
 apply Imp.cnd
 ·refine zC rfl fun b _ => ?_;try simp only [zes,evs,tys]
  exact zR
 ·apply Imp.cnd
  ·apply Imp.cnd;·exact zR
   ·exact zR
  ·exact zR
theorem aN2 {s a x r} (h:yT s a x=some r):aJm s a x=some r:=zV aE3 (aN1 s a x) Tryz.func184 (aQN _ _ s a x) h
def aN3 (O:Orc) (f:LBs) (s:GSchema) (d:Str) (a:Int) (b:Int) (c:Int):Option (PV×UP) :=
 aQ O 164 [(eS s),(.str d)] fun e=>cnd (chk (.tup [pY,.bool]) e)
 (cnd (bG (tv e 1))
 (cnd ((iv (tg e 0) 0)==a)
 (some ((.bool true),[]))
 (cnd ((iv (tg e 0) 0)==b)
 (some ((.bool true),[]))
 (some ((.bool ((iv (tg e 0) 0)==c)),[]))))
 (some ((.bool false),[]))) none
noncomputable def aN4 (s:GSchema) (d:Str) (a:Int) (b:Int) (c:Int):Option Bool :=
 bnd (xM s d) fun e =>
 cnd e.2
 (cnd (e.1.kind==a)
 (some true)
 (cnd (e.1.kind==b)
 (some true)
 (some (e.1.kind==c))))
 (some false)
def bBS:Decs:={decs:=[(16,(.tup [pY,.bool]))]}
theorem bBT O e s (d:Str) a b c:eW 159 bBS Tryz.f159 O e [(eS s),(.str d),(i6 a),(i6 b),(i6 c)] []=aN3 O e s d a b c:=by kernel_rfl
theorem aZS s d a b c:Imp (aN4 s d a b c) (aN3 O aE s d a b c) (Ri aA):=by
 simp only [aN4,aN3,zd,zr];try simp only [evs,tys]
 refine zC rfl fun e _ => ?_;try simp only [zes,evs,tys]
 apply Imp.cnd
 ·apply Imp.cnd;·exact zR
  ·apply Imp.cnd;·exact zR
   ·exact zR
 ·exact zR
theorem aZT {s d a b c r} (h:aN4 s d a b c=some r):bBQ s d a b c=some r:=zV aD (aZS s d a b c) Tryz.func159 (bBT _ _ s d a b c) h
def aBt (O:Orc) (b:LBs) (a:Str):Option (PV×UP) :=
 cnd (a==([73,110,116]:Str))
 (some ((.bool true),[]))
 (cnd (a==([83,116,114,105,110,103]:Str))
 (some ((.bool true),[]))
 (cnd (a==([66,111,111,108,101,97,110]:Str))
 (some ((.bool true),[]))
 (some ((.bool (a==([73,68]:Str))),[]))))
noncomputable def yU (a:Str):Option Bool :=
 cnd (a==([73,110,116]:Str))
 (some true)
 (cnd (a==([83,116,114,105,110,103]:Str))
 (some true)
 (cnd (a==([66,111,111,108,101,97,110]:Str))
 (some true)
 (some (a==([73,68]:Str)))))
def aQO:Decs:={}
theorem aQP O b (a:Str):eW 156 aQO Tryz.f156 O b [(.str a)] []=aBt O b a:=by kernel_rfl
theorem aN5 a:Imp (yU a) (aBt O aE a) (Ri aA):=by
 simp only [yU,aBt,zd,zr];try simp only [evs,tys]
 apply Imp.cnd;·exact zR
 ·apply Imp.cnd;·exact zR
  ·apply Imp.cnd;·exact zR
   ·exact zR
theorem aN6 {a r} (h:yU a=some r):aJn a=some r:=zV aD (aN5 a) Tryz.func156 (aQP _ _ a) h
abbrev mX:List Sh:=[sf,.str,(.ptr 0 4 0),.bool,n6,.str,.str,n6,n6,.bool,n6,n6,.str,st',st']
def aEe (O:Orc) (e:LBs):bL:=fun a c=>cnd (chkL mX a) (cnd (chkU [] c)
 (cnd (decide ((iv a 4)<(List.length (ev a 0):Int)))
 (bnd (ix 10 (zs a 0) (zn a 4)) fun d=>cnd (chk (.ref gK) d)
 (cnd ((sv (rf d) 0)==(sv a 1))
 (bnd (ix 10 (zs a 0) (zn a 4)) fun b=>cnd (chk (.ref gK) b)
 (some (.ret,[(zs a 0),(zt a 1),(.ptr 0 4 0),(.bool true),(zn a 4),(zt (rf b) 0),(zt (rf b) 1),(zn (rf b) 2),(zn (rf b) 3),(zb (rf b) 4),(zn (rf b) 5),(zn (rf b) 6),(zt (rf b) 7),(zs (rf b) 8),(zs (rf b) 9)],[])) none)
 (some (.nrm,(pu (rb mX a) 4 (i6 (w6 ((iv a 4)+1)))),[]))) none)
 (some (.brk 0,(rb mX a),[]))) none) none
def aEf (O:Orc) (c:LBs) (d:List GParam) (b:Str):Option (PV×UP) :=
 bnd (c (aEe O c) [(zq aR d),(.str b),(.ptr 0 4 0),(.bool false),(i6 0),(.str []),(.str []),(i6 0),(i6 0),(.bool false),(i6 0),(i6 0),(.str []),(.slice [] [] true),(.slice [] [] true)] []) fun a =>
 exIs a.1 (some 0) (cnd (chkL mX a.2.1) (cnd (chkU [] a.2.2)
 (some ((.tuple [(.agg [(.str []),(.str []),(i6 0),(i6 0),(.bool false),(i6 0),(i6 0),(.str []),(.slice [] [] false),(.slice [] [] false)]),(.bool false)]),[])) none) none)
 (exIs a.1 none (cnd (chkL [sf,.str,(.ptr 0 4 0),.bool,n6,.str,.str,n6,n6,.bool,n6,n6,.str,sf,sf] a.2.1) (cnd (chkU [] a.2.2)
 (some ((.tuple [(.agg [(zt a.2.1 5),(zt a.2.1 6),(zn a.2.1 7),(zn a.2.1 8),(zb a.2.1 9),(zn a.2.1 10),(zn a.2.1 11),(zt a.2.1 12),(zs a.2.1 13),(zs a.2.1 14)]),(zb a.2.1 3)]),[])) none) none)
 (none))
noncomputable def aBu (d:List GParam) (c:Str):Int->Option (Int⊕(Unit⊕(Str×Str×Int×Int×Bool×Int×Int×Str×(List GValue)×(List GMember))))
 | b =>
 cnd (decide (b<(List.length d:Int)))
  (bnd (nthI d b) fun e =>
  cnd (e.name==c)
  (bnd (nthI d b) fun a =>
  some (.inr (.inr (a.name,a.t.name,a.t.lists,a.t.musts,a.has,a.default.kind,a.default.n,a.default.s,a.default.l,a.default.m))))
  (some (.inl (IntKind.wrap .i64 (b+1)))))
  (some (.inr (.inl ())))
abbrev aQQ (b:List GParam) (a:Str) (st:Int) (l:List PV) (u:UP):Prop:=l=[(zq aR b),(.str a),(.ptr 0 4 0),(.bool false),(i6 st),(.str []),(.str []),(i6 0),(i6 0),(.bool false),(i6 0),(i6 0),(.str []),(.slice [] [] true),(.slice [] [] true)]/\u=[]
abbrev aQR (d:List GParam) (a:Str) (p:Unit⊕(Str×Str×Int×Int×Bool×Int×Int×Str×(List GValue)×(List GMember))) (r:EU):Prop:=elim p (fun (p:Unit)=>∃ (c:Int),r=(Ex.brk 0,[(zq aR d),(.str a),(.ptr 0 4 0),(.bool false),(i6 c),(.str []),(.str []),(i6 0),(i6 0),(.bool false),(i6 0),(i6 0),(.str []),(.slice [] [] true),(.slice [] [] true)],[])) (fun e=>(fun (p:Str×Str×Int×Int×Bool×Int×Int×Str×(List GValue)×(List GMember))=>∃ (b:Int),r=(Ex.ret,[(zq aR d),(.str a),(.ptr 0 4 0),(.bool true),(i6 b),(.str p.1),(.str p.2.1),(i6 p.2.2.1),(i6 p.2.2.2.1),(.bool p.2.2.2.2.1),(i6 p.2.2.2.2.2.1),(i6 p.2.2.2.2.2.2.1),(.str p.2.2.2.2.2.2.2.1),(zq aP p.2.2.2.2.2.2.2.2.1),(zq aC p.2.2.2.2.2.2.2.2.2)],[])) e)
noncomputable def aCs (d:List GParam) (c:Str):Option (GParam×Bool) :=
 bnd (aY (aBu d c) 0) fun b=>elim b
 (fun a =>
 some ((GParam.mk [] (GType.mk [] 0 0) false (GValue.mk 0 0 [] ([]:List GValue) ([]:List GMember))),false))
 (fun a =>
 some ((GParam.mk a.1 (GType.mk a.2.1 a.2.2.1 a.2.2.2.1) a.2.2.2.2.1 (GValue.mk a.2.2.2.2.2.1 a.2.2.2.2.2.2.1 a.2.2.2.2.2.2.2.1 a.2.2.2.2.2.2.2.2.1 a.2.2.2.2.2.2.2.2.2)),true))
def aTX:Decs:={decs:=[(15,(.ref gK)),(22,(.ref gK))],loops:=[(2,[(4,10)],⟨mX,[],[(some 0,mX,[]),(none,[sf,.str,(.ptr 0 4 0),.bool,n6,.str,.str,n6,n6,.bool,n6,n6,.str,sf,sf],[])]⟩)]}
theorem aTY O b c (a:Str):eW 193 aTX Tryz.f193 O b [(zq aR c),(.str a)] []=aEf O b c a:=by kernel_rfl
theorem aLv c a:Lok (aQQ c a) (aBu c a) (aEe O aE) (aQR c a):=by
 rintro b l u ⟨rfl,rfl⟩;simp only [aBu,aEe,zd,zr];refine zG ?_;try simp only [evs,tys]
 apply Imp.cnd
 ·refine zX aR oO fun e _ => ?_;try simp only [evs,tys]
  apply Imp.cnd
  ·refine zX aR oO fun d _ => ?_;try simp only [evs,tys]
   exact zT ⟨b,zE⟩
  ·exact zN
 ·exact zB ⟨b,zE⟩
theorem aQS c a:Imp (aCs c a) (aEf O aE c a) (Ri fV):=by
 simp only [aCs,aEf,zd,zr];try simp only [evs,tys]
 refine zL (aLv c a) ?_;rintro (p | ⟨j,i,o,k,g,q,l,m,d,n⟩) f b
 ·try simp only [aK,aM]
  obtain ⟨h,rfl⟩:=b;refine zH ?_;try simp only [evs,tys]
  exact zR
 ·try simp only [aK,aM]
  obtain ⟨e,rfl⟩:=b;refine Imp.exMiss rfl ?_;refine zH ?_;try simp only [evs,tys]
  exact zR
theorem aQT {b a r} (h:aCs b a=some r):aNi b a=some r:=zV aAX (aQS b a) Tryz.func193 (aTY _ _ b a) h
abbrev rZ:List Sh:=[.str,sf,(.ptr 0 4 0),.bool,n6,n6,n6,.str,st',st']
def aJK (O:Orc) (e:LBs):bL:=fun a c=>cnd (chkL rZ a) (cnd (chkU [] c)
 (cnd (decide ((iv a 4)<(List.length (ev a 1):Int)))
 (bnd (ix 6 (zs a 1) (zn a 4)) fun d=>cnd (chk (.ref dU) d)
 (cnd ((sv (rf d) 0)==(sv a 0))
 (bnd (ix 6 (zs a 1) (zn a 4)) fun b=>cnd (chk (.ref dU) b)
 (some (.ret,[(zt a 0),(zs a 1),(.ptr 0 4 0),(.bool true),(zn a 4),(zn (rf b) 1),(zn (rf b) 2),(zt (rf b) 3),(zs (rf b) 4),(zs (rf b) 5)],[])) none)
 (some (.nrm,(pu (rb rZ a) 4 (i6 (w6 ((iv a 4)+1)))),[]))) none)
 (some (.brk 0,(rb rZ a),[]))) none) none
def aJL (O:Orc) (c:LBs) (b:Str) (d:List GMember):Option (PV×UP) :=
 bnd (c (aJK O c) [(.str b),(zq aC d),(.ptr 0 4 0),(.bool false),(i6 0),(i6 0),(i6 0),(.str []),(.slice [] [] true),(.slice [] [] true)] []) fun a =>
 exIs a.1 (some 0) (cnd (chkL rZ a.2.1) (cnd (chkU [] a.2.2)
 (some ((.tuple [(.agg [(i6 0),(i6 0),(.str []),(.slice [] [] false),(.slice [] [] false)]),(.bool false)]),[])) none) none)
 (exIs a.1 none (cnd (chkL [.str,sf,(.ptr 0 4 0),.bool,n6,n6,n6,.str,sf,sf] a.2.1) (cnd (chkU [] a.2.2)
 (some ((.tuple [(.agg [(zn a.2.1 5),(zn a.2.1 6),(zt a.2.1 7),(zs a.2.1 8),(zs a.2.1 9)]),(zb a.2.1 3)]),[])) none) none)
 (none))
noncomputable def sA (c:Str) (d:List GMember):Int->Option (Int⊕(Unit⊕(Int×Int×Str×(List GValue)×(List GMember))))
 | b =>
 cnd (decide (b<(List.length d:Int)))
  (bnd (nthI d b) fun e =>
  cnd (e.name==c)
  (bnd (nthI d b) fun a =>
  some (.inr (.inr (a.v.kind,a.v.n,a.v.s,a.v.l,a.v.m))))
  (some (.inl (IntKind.wrap .i64 (b+1)))))
  (some (.inr (.inl ())))
abbrev aXB (a:Str) (b:List GMember) (st:Int) (l:List PV) (u:UP):Prop:=l=[(.str a),(zq aC b),(.ptr 0 4 0),(.bool false),(i6 st),(i6 0),(i6 0),(.str []),(.slice [] [] true),(.slice [] [] true)]/\u=[]
abbrev aXC (a:Str) (d:List GMember) (p:Unit⊕(Int×Int×Str×(List GValue)×(List GMember))) (r:EU):Prop:=elim p (fun (p:Unit)=>∃ (c:Int),r=(Ex.brk 0,[(.str a),(zq aC d),(.ptr 0 4 0),(.bool false),(i6 c),(i6 0),(i6 0),(.str []),(.slice [] [] true),(.slice [] [] true)],[])) (fun e=>(fun (p:Int×Int×Str×(List GValue)×(List GMember))=>∃ (b:Int),r=(Ex.ret,[(.str a),(zq aC d),(.ptr 0 4 0),(.bool true),(i6 b),(i6 p.1),(i6 p.2.1),(.str p.2.2.1),(zq aP p.2.2.2.1),(zq aC p.2.2.2.2)],[])) e)
noncomputable def aFk (c:Str) (d:List GMember):Option (GValue×Bool) :=
 bnd (aY (sA c d) 0) fun b=>elim b
 (fun a =>
 some ((GValue.mk 0 0 [] ([]:List GValue) ([]:List GMember)),false))
 (fun a =>
 some ((GValue.mk a.1 a.2.1 a.2.2.1 a.2.2.2.1 a.2.2.2.2),true))
def aZU:Decs:={decs:=[(15,(.ref dU)),(22,(.ref dU))],loops:=[(2,[(4,5)],⟨rZ,[],[(some 0,rZ,[]),(none,[.str,sf,(.ptr 0 4 0),.bool,n6,n6,n6,.str,sf,sf],[])]⟩)]}
theorem aZV O b (a:Str) c:eW 219 aZU Tryz.f219 O b [(.str a),(zq aC c)] []=aJL O b a c:=by kernel_rfl
theorem aQU a c:Lok (aXB a c) (sA a c) (aJK O aE) (aXC a c):=by
 rintro b l u ⟨rfl,rfl⟩;simp only [sA,aJK,zd,zr];refine zG ?_;try simp only [evs,tys]
 apply Imp.cnd
 ·refine zX aC fU fun e _ => ?_;try simp only [evs,tys]
  apply Imp.cnd
  ·refine zX aC fU fun d _ => ?_;try simp only [evs,tys]
   exact zT ⟨b,zE⟩
  ·exact zN
 ·exact zB ⟨b,zE⟩
theorem aXD a c:Imp (aFk a c) (aJL O aE a c) (Ri aF8):=by
 simp only [aFk,aJL,zd,zr];try simp only [evs,tys]
 refine zL (aQU a c) ?_;rintro (p | ⟨g,f,k,i,j⟩) h b
 ·try simp only [aK,aM]
  obtain ⟨e,rfl⟩:=b;refine zH ?_;try simp only [evs,tys]
  exact zR
 ·try simp only [aK,aM]
  obtain ⟨d,rfl⟩:=b;refine Imp.exMiss rfl ?_;refine zH ?_;try simp only [evs,tys]
  exact zR
theorem aMe {a b r} (h:aFk a b=some r):aVw a b=some r:=zV bBR (aXD a b) Tryz.func219 (aZV _ _ a b) h
def aN7 (O:Orc) (b:LBs) (t:GType):Option (PV×UP) :=
 aQ O 101 [(eT t)] fun a=>cnd (chk .bool a)
 (cnd (bG a)
 (some ((.bool ((bits .and .i64 t.musts 1)==1)),[]))
 (some ((.bool false),[]))) none
noncomputable def aN8 (t:GType):Option Bool :=
 bnd (qC t) fun a =>
 cnd a
 (some ((bits .and .i64 t.musts 1)==1))
 (some false)
def bBU:Decs:={decs:=[(4,.bool)]}
theorem bBV O a t:eW 195 bBU Tryz.f195 O a [(eT t)] []=aN7 O a t:=by kernel_rfl
theorem aZW t:Imp (aN8 t) (aN7 O aE t) (Ri aA):=by
 simp only [aN8,aN7,zd,zr];try simp only [evs,tys]
 refine zC rfl fun a _ => ?_;try simp only [zes,evs,tys]
 apply Imp.cnd;·exact zR
 ·exact zR
theorem aZX {t r} (h:aN8 t=some r):bEo t=some r:=zV aD (aZW t) Tryz.func195 (bBV _ _ t) h
def aEg (O:Orc) (a:LBs) (c:Int):Option (PV×UP) :=
 cnd (decide (c≥48))
 (some ((.bool (decide (c<=57))),[]))
 (some ((.bool false),[]))
noncomputable def aCt (c:Int):Option Bool :=
 cnd (decide (c≥48))
 (some (decide (c<=57)))
 (some false)
def aTZ:Decs:={}
theorem aT0 O a c:eW 170 aTZ Tryz.f170 O a [(.int .u8 c)] []=aEg O a c:=by kernel_rfl
theorem aQV c:Imp (aCt c) (aEg O aE c) (Ri aA):=by
 simp only [aCt,aEg,zd,zr];try simp only [evs,tys]
 apply Imp.cnd;·exact zR
 ·exact zR
theorem aQW {c r} (h:aCt c=some r):aIf c=some r:=zV aD (aQV c) Tryz.func170 (aT0 _ _ c) h
def sX (O:Orc) (c:LBs) (s:GSchema) (a:Str):Option (PV×UP) :=
 aQ O 159 [(eS s),(.str a),(i6 1),(i6 2),(i6 3)] fun b=>cnd (chk .bool b)
 (some ((.bool (bG b)),[])) none
noncomputable def pN (s:GSchema) (a:Str):Option Bool :=
 bnd (bBQ s a 1 2 3) fun b =>
 some b
def aJM:Decs:={decs:=[(7,.bool)]}
theorem aJN O b s (a:Str):eW 112 aJM Tryz.f112 O b [(eS s),(.str a)] []=sX O b s a:=by kernel_rfl
theorem aHW s a:Imp (pN s a) (sX O aE s a) (Ri aA):=by
 simp only [pN,sX,zd,zr];try simp only [evs,tys]
 refine zC rfl fun b _ => ?_;try simp only [zes,evs,tys]
 exact zR
theorem aHX {s a r} (h:pN s a=some r):aA1 s a=some r:=zV aD (aHW s a) Tryz.func112 (aJN _ _ s a) h
abbrev eK:List Sh:=[.str,(.ptr 0 6 0),.bool,(.ptr 0 8 0),n6,n6,.str,sf,sf,sf,sf,.str,st',.str,n6,n6,st',sf,.str,.str]
def pD (O:Orc) (e:LBs):bL:=fun b d=>cnd (chkL eK b) (cnd (chkU [] d)
 (cnd (decide ((iv b 4)<(List.length (ev b 8):Int)))
 (bnd (ix 6 (zs b 8) (zn b 4)) fun c=>cnd (chk (.ref cO) c)
 (cnd ((sv (rf c) 0)==(sv b 0))
 (bnd (ix 6 (zs b 8) (zn b 4)) fun a=>cnd (chk (.ref cO) a)
 (some (.ret,(pu (pu (pu (pu (pu (pu (pu (rb eK b) 2 (.bool true)) 11 (zt (rf a) 0)) 12 (zs (rf a) 1)) 13 (zt (rf a) 2)) 14 (zn (rf a) 3)) 15 (zn (rf a) 4)) 16 (zs (rf a) 5)),[])) none)
 (some (.nrm,(pu (rb eK b) 4 (i6 (w6 ((iv b 4)+1)))),[]))) none)
 (some (.brk 0,(rb eK b),[]))) none) none
def aEh (O:Orc) (g:LBs) (s:GSchema) (h:Str) (f:Str):Option (PV×UP) :=
 cnd (f==([95,95,116,121,112,101,110,97,109,101]:Str))
 (aQ O 112 [(eS s),(.str h)] fun i=>cnd (chk .bool i)
 (cnd (bG i)
 (some ((.tuple [(.agg [(.str f),(.slice [] [] false),(.str [83,116,114,105,110,103]),(i6 0),(i6 1),(.slice [] [] false)]),(.bool true)]),[]))
 (aQ O 164 [(eS s),(.str h)] fun x3=>cnd (chk (.tup [pY,.bool]) x3)
 (cnd ((iv (tg x3 0) 0) != 1)
 (cnd ((iv (tg x3 0) 0) != 2)
 (some ((.tuple [(.agg [(.str []),(.slice [] [] false),(.str []),(i6 0),(i6 0),(.slice [] [] false)]),(.bool false)]),[]))
 (bnd (g (pD O g) [(.str f),(.ptr 0 6 0),(.bool false),(.ptr 0 8 0),(i6 0),(zn (tg x3 0) 0),(zt (tg x3 0) 1),(zs (tg x3 0) 2),(zs (tg x3 0) 3),(zs (tg x3 0) 4),(zs (tg x3 0) 5),(.str []),(.slice [] [] true),(.str []),(i6 0),(i6 0),(.slice [] [] true),(zq aH s.defs),(.str s.query),(.str s.mutation)] []) fun e =>
 exIs e.1 (some 0) (cnd (chkL eK e.2.1) (cnd (chkU [] e.2.2)
 (some ((.tuple [(.agg [(.str []),(.slice [] [] false),(.str []),(i6 0),(i6 0),(.slice [] [] false)]),(.bool false)]),[])) none) none)
 (exIs e.1 none (cnd (chkL [.str,(.ptr 0 6 0),.bool,(.ptr 0 8 0),n6,n6,.str,sf,sf,sf,sf,.str,sf,.str,n6,n6,sf,sf,.str,.str] e.2.1) (cnd (chkU [] e.2.2)
 (some ((.tuple [(.agg [(zt e.2.1 11),(zs e.2.1 12),(zt e.2.1 13),(zn e.2.1 14),(zn e.2.1 15),(zs e.2.1 16)]),(zb e.2.1 2)]),[])) none) none)
 (none))))
 (bnd (g (pD O g) [(.str f),(.ptr 0 6 0),(.bool false),(.ptr 0 8 0),(i6 0),(zn (tg x3 0) 0),(zt (tg x3 0) 1),(zs (tg x3 0) 2),(zs (tg x3 0) 3),(zs (tg x3 0) 4),(zs (tg x3 0) 5),(.str []),(.slice [] [] true),(.str []),(i6 0),(i6 0),(.slice [] [] true),(zq aH s.defs),(.str s.query),(.str s.mutation)] []) fun d =>
 exIs d.1 (some 0) (cnd (chkL eK d.2.1) (cnd (chkU [] d.2.2)
 (some ((.tuple [(.agg [(.str []),(.slice [] [] false),(.str []),(i6 0),(i6 0),(.slice [] [] false)]),(.bool false)]),[])) none) none)
 (exIs d.1 none (cnd (chkL [.str,(.ptr 0 6 0),.bool,(.ptr 0 8 0),n6,n6,.str,sf,sf,sf,sf,.str,sf,.str,n6,n6,sf,sf,.str,.str] d.2.1) (cnd (chkU [] d.2.2)
 (some ((.tuple [(.agg [(zt d.2.1 11),(zs d.2.1 12),(zt d.2.1 13),(zn d.2.1 14),(zn d.2.1 15),(zs d.2.1 16)]),(zb d.2.1 2)]),[])) none) none)
 (none)))) none)) none)
 (aQ O 164 [(eS s),(.str h)] fun a=>cnd (chk (.tup [pY,.bool]) a)
 (cnd ((iv (tg a 0) 0) != 1)
 (cnd ((iv (tg a 0) 0) != 2)
 (some ((.tuple [(.agg [(.str []),(.slice [] [] false),(.str []),(i6 0),(i6 0),(.slice [] [] false)]),(.bool false)]),[]))
 (bnd (g (pD O g) [(.str f),(.ptr 0 6 0),(.bool false),(.ptr 0 8 0),(i6 0),(zn (tg a 0) 0),(zt (tg a 0) 1),(zs (tg a 0) 2),(zs (tg a 0) 3),(zs (tg a 0) 4),(zs (tg a 0) 5),(.str []),(.slice [] [] true),(.str []),(i6 0),(i6 0),(.slice [] [] true),(zq aH s.defs),(.str s.query),(.str s.mutation)] []) fun c =>
 exIs c.1 (some 0) (cnd (chkL eK c.2.1) (cnd (chkU [] c.2.2)
 (some ((.tuple [(.agg [(.str []),(.slice [] [] false),(.str []),(i6 0),(i6 0),(.slice [] [] false)]),(.bool false)]),[])) none) none)
 (exIs c.1 none (cnd (chkL [.str,(.ptr 0 6 0),.bool,(.ptr 0 8 0),n6,n6,.str,sf,sf,sf,sf,.str,sf,.str,n6,n6,sf,sf,.str,.str] c.2.1) (cnd (chkU [] c.2.2)
 (some ((.tuple [(.agg [(zt c.2.1 11),(zs c.2.1 12),(zt c.2.1 13),(zn c.2.1 14),(zn c.2.1 15),(zs c.2.1 16)]),(zb c.2.1 2)]),[])) none) none)
 (none))))
 (bnd (g (pD O g) [(.str f),(.ptr 0 6 0),(.bool false),(.ptr 0 8 0),(i6 0),(zn (tg a 0) 0),(zt (tg a 0) 1),(zs (tg a 0) 2),(zs (tg a 0) 3),(zs (tg a 0) 4),(zs (tg a 0) 5),(.str []),(.slice [] [] true),(.str []),(i6 0),(i6 0),(.slice [] [] true),(zq aH s.defs),(.str s.query),(.str s.mutation)] []) fun b =>
 exIs b.1 (some 0) (cnd (chkL eK b.2.1) (cnd (chkU [] b.2.2)
 (some ((.tuple [(.agg [(.str []),(.slice [] [] false),(.str []),(i6 0),(i6 0),(.slice [] [] false)]),(.bool false)]),[])) none) none)
 (exIs b.1 none (cnd (chkL [.str,(.ptr 0 6 0),.bool,(.ptr 0 8 0),n6,n6,.str,sf,sf,sf,sf,.str,sf,.str,n6,n6,sf,sf,.str,.str] b.2.1) (cnd (chkU [] b.2.2)
 (some ((.tuple [(.agg [(zt b.2.1 11),(zs b.2.1 12),(zt b.2.1 13),(zn b.2.1 14),(zn b.2.1 15),(zs b.2.1 16)]),(zb b.2.1 2)]),[])) none) none)
 (none)))) none)
noncomputable def eM (c:Str) (d:GDef×Bool):Int->Option (Int⊕(Unit⊕(Str×(List GParam)×Str×Int×Int×(List GDir))))
 | a =>
 cnd (decide (a<(List.length d.1.fields:Int)))
  (bnd (nthI d.1.fields a) fun e =>
  cnd (e.name==c)
  (bnd (nthI d.1.fields a) fun b =>
  some (.inr (.inr (b.name,b.params,b.t.name,b.t.lists,b.t.musts,b.dirs))))
  (some (.inl (IntKind.wrap .i64 (a+1)))))
  (some (.inr (.inl ())))
abbrev aBv (s:GSchema) (name:Str) (a:GDef×Bool) (d f g e i c b h:PV):List PV:=[(.str name),(.ptr 0 6 0),d,(.ptr 0 8 0),f,(i6 a.1.kind),(.str a.1.name),(zq PV.str a.1.faces),(zq aL a.1.fields),(zq PV.str a.1.parts),(zq aR a.1.params),g,e,i,c,b,h,(zq aH s.defs),(.str s.query),(.str s.mutation)]
abbrev aHn (s:GSchema) (a:Str) (b:GDef×Bool) (st:Int) (l:List PV) (u:UP):Prop:=l=(aBv s a b (.bool false) (i6 st) (.str []) (.slice [] [] true) (.str []) (i6 0) (i6 0) (.slice [] [] true))/\u=[]
abbrev aQX (s:GSchema) (a:Str) (d:GDef×Bool) (p:Unit⊕(Str×(List GParam)×Str×Int×Int×(List GDir))) (r:EU):Prop:=elim p (fun (p:Unit)=>∃ (c:Int),r=(Ex.brk 0,(aBv s a d (.bool false) (i6 c) (.str []) (.slice [] [] true) (.str []) (i6 0) (i6 0) (.slice [] [] true)),[])) (fun (p:Str×(List GParam)×Str×Int×Int×(List GDir))=>∃ (b:Int),r=(Ex.ret,(aBv s a d (.bool true) (i6 b) (.str p.1) (zq aR p.2.1) (.str p.2.2.1) (i6 p.2.2.2.1) (i6 p.2.2.2.2.1) (zq aF p.2.2.2.2.2)),[]))
noncomputable def aCu (s:GSchema) (k:Str) (a:Str):Option (GFieldDef×Bool) :=
 cnd (a==([95,95,116,121,112,101,110,97,109,101]:Str))
 (bnd (aA1 s k) fun m =>
 cnd m
 (some ((GFieldDef.mk a ([]:List GParam) (GType.mk [83,116,114,105,110,103] 0 1) ([]:List GDir)),true))
 (bnd (xM s k) fun l =>
 cnd (l.1.kind != 1)
 (cnd (l.1.kind != 2)
 (some ((GFieldDef.mk [] ([]:List GParam) (GType.mk [] 0 0) ([]:List GDir)),false))
 (bnd (aY (eM a l) 0) fun h=>elim h
 (fun d =>
 some ((GFieldDef.mk [] ([]:List GParam) (GType.mk [] 0 0) ([]:List GDir)),false))
 (fun d =>
 some ((GFieldDef.mk d.1 d.2.1 (GType.mk d.2.2.1 d.2.2.2.1 d.2.2.2.2.1) d.2.2.2.2.2),true))))
 (bnd (aY (eM a l) 0) fun g=>elim g
 (fun b =>
 some ((GFieldDef.mk [] ([]:List GParam) (GType.mk [] 0 0) ([]:List GDir)),false))
 (fun b =>
 some ((GFieldDef.mk b.1 b.2.1 (GType.mk b.2.2.1 b.2.2.2.1 b.2.2.2.2.1) b.2.2.2.2.2),true)))))
 (bnd (xM s k) fun f =>
 cnd (f.1.kind != 1)
 (cnd (f.1.kind != 2)
 (some ((GFieldDef.mk [] ([]:List GParam) (GType.mk [] 0 0) ([]:List GDir)),false))
 (bnd (aY (eM a f) 0) fun j=>elim j
 (fun c =>
 some ((GFieldDef.mk [] ([]:List GParam) (GType.mk [] 0 0) ([]:List GDir)),false))
 (fun c =>
 some ((GFieldDef.mk c.1 c.2.1 (GType.mk c.2.2.1 c.2.2.2.1 c.2.2.2.2.1) c.2.2.2.2.2),true))))
 (bnd (aY (eM a f) 0) fun i=>elim i
 (fun e =>
 some ((GFieldDef.mk [] ([]:List GParam) (GType.mk [] 0 0) ([]:List GDir)),false))
 (fun e =>
 some ((GFieldDef.mk e.1 e.2.1 (GType.mk e.2.2.1 e.2.2.2.1 e.2.2.2.2.1) e.2.2.2.2.2),true))))
def aT1:Decs:={decs:=[(16,.bool),(24,(.tup [pY,.bool])),(46,(.ref cO)),(54,(.ref cO))],loops:=[(7,[(8,6),(6,6),(3,3)],⟨eK,[],[(some 0,eK,[]),(none,[.str,(.ptr 0 6 0),.bool,(.ptr 0 8 0),n6,n6,.str,sf,sf,sf,sf,.str,sf,.str,n6,n6,sf,sf,.str,.str],[])]⟩)]}
theorem aT2 O c s (b:Str) (a:Str):eW 117 aT1 Tryz.f117 O c [(eS s),(.str b),(.str a)] []=aEh O c s b a:=by kernel_rfl
theorem pO s a c:∀ st l u,aHn s a c st l u->Imp (eM a c st) (pD O aE l u) (kE (aHn s a c) (aQX s a c)):=by
 rintro b l u ⟨rfl,rfl⟩;simp only [eM,pD,zd,zr];refine zG ?_;try simp only [evs,tys]
 apply Imp.cnd
 ·refine zX aL fJ fun e _ => ?_;try simp only [evs,tys]
  apply Imp.cnd
  ·refine zX aL fJ fun d _ => ?_;try simp only [evs,tys]
   exact zT ⟨b,zE⟩
  ·exact zN
 ·exact zB ⟨b,zE⟩
theorem aQY s f a:Imp (aCu s f a) (aEh O aE s f a) (Ri qD):=by
 simp only [aCu,aEh,zd,zr];try simp only [evs,tys]
 apply Imp.cnd
 ·refine zC rfl fun y2 _ => ?_;try simp only [zes,evs,tys]
  apply Imp.cnd;·exact zR
  ·refine zC rfl fun q _ => ?_;try simp only [zes,evs,tys]
   apply Imp.cnd
   ·apply Imp.cnd;·exact zR
    ·refine zL (pO s a q) ?_;rintro (p | ⟨m,b_18,b_19,b_20,b_21,x⟩) i e
     ·try simp only [aK,aM]
      obtain ⟨i_15,rfl⟩:=e;refine zH ?_;try simp only [evs,tys]
      exact zR
     ·try simp only [aK,aM]
      obtain ⟨i_16,rfl⟩:=e;refine Imp.exMiss rfl ?_;refine zH ?_;try simp only [evs,tys]
      exact zR
   ·refine zL (pO s a q) ?_;rintro (p | ⟨b_36,b_37,j,b_39,h,o⟩) vy42 d
    ·try simp only [aK,aM]
     obtain ⟨r,rfl⟩:=d;refine zH ?_;try simp only [evs,tys]
     exact zR
    ·try simp only [aK,aM]
     obtain ⟨i_35,rfl⟩:=d;refine Imp.exMiss rfl ?_;refine zH ?_;try simp only [evs,tys]
     exact zR
 ·refine zC rfl fun g _ => ?_;try simp only [zes,evs,tys]
  apply Imp.cnd
  ·apply Imp.cnd;·exact zR
   ·refine zL (pO s a g) ?_;rintro (p | ⟨v,n,b_59,b_60,b_61,t⟩) vy63 c
    ·try simp only [aK,aM]
     obtain ⟨i_55,rfl⟩:=c;refine zH ?_;try simp only [evs,tys]
     exact zR
    ·try simp only [aK,aM]
     obtain ⟨u,rfl⟩:=c;refine Imp.exMiss rfl ?_;refine zH ?_;try simp only [evs,tys]
     exact zR
  ·refine zL (pO s a g) ?_;rintro (p | ⟨b_76,b_77,l,b_79,b_80,w⟩) vy82 b
   ·try simp only [aK,aM]
    obtain ⟨y,rfl⟩:=b;refine zH ?_;try simp only [evs,tys]
    exact zR
   ·try simp only [aK,aM]
    obtain ⟨k,rfl⟩:=b;refine Imp.exMiss rfl ?_;refine zH ?_;try simp only [evs,tys]
    exact zR
theorem aQZ {s b a r} (h:aCu s b a=some r):aNj s b a=some r:=zV aMd (aQY s b a) Tryz.func117 (aT2 _ _ s b a) h
def aEi (O:Orc) (a:LBs) (c:Int):Option (PV×UP) :=
 cnd (decide (c≥97))
 (cnd (decide (c<=122))
 (some ((.bool true),[]))
 (cnd (decide (c≥65))
 (cnd (decide (c<=90))
 (some ((.bool true),[]))
 (some ((.bool (c==95)),[])))
 (some ((.bool (c==95)),[]))))
 (cnd (decide (c≥65))
 (cnd (decide (c<=90))
 (some ((.bool true),[]))
 (some ((.bool (c==95)),[])))
 (some ((.bool (c==95)),[])))
noncomputable def aCv (c:Int):Option Bool :=
 cnd (decide (c≥97))
 (cnd (decide (c<=122))
 (some true)
 (cnd (decide (c≥65))
 (cnd (decide (c<=90))
 (some true)
 (some (c==95)))
 (some (c==95))))
 (cnd (decide (c≥65))
 (cnd (decide (c<=90))
 (some true)
 (some (c==95)))
 (some (c==95)))
def aT3:Decs:={}
theorem aT4 O a c:eW 169 aT3 Tryz.f169 O a [(.int .u8 c)] []=aEi O a c:=by kernel_rfl
theorem aQ0 c:Imp (aCv c) (aEi O aE c) (Ri aA):=by
 simp only [aCv,aEi,zd,zr];try simp only [evs,tys]
 apply Imp.cnd
 ·apply Imp.cnd;·exact zR
  ·apply Imp.cnd
   ·apply Imp.cnd;·exact zR
    ·exact zR
   ·exact zR
 ·apply Imp.cnd
  ·apply Imp.cnd;·exact zR
   ·exact zR
  ·exact zR
theorem aQ1 {c r} (h:aCv c=some r):aIg c=some r:=zV aD (aQ0 c) Tryz.func169 (aT4 _ _ c) h
end Go.Proofs.YtphmfillajagdaaGreat

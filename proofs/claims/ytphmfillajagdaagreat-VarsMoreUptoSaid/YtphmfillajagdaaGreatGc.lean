import Derived.Test.YtphmfillajagdaaGreatGa
noncomputable section
set_option maxRecDepth 100000
set_option linter.unusedVariables false
set_option linter.unusedSimpArgs false
set_option linter.unusedSimpArgs false
open Go Go.Ev Go.Ev.PV
namespace Go.Proofs.YtphmfillajagdaaGreat
def aA0 (O:Orc) (c:LBs) (d:GDoc) (a:Str):Option (PV×UP) :=
 bnd (O 153 [(zq aH d.frags),(.func (.func 154) [] [(.ptr 1 3 0)])] [[(4,[(.str []),(.str []),(.slice [] [] true),(.slice [] [] true)]),(3,[(.str a)]),(2,[(zq aR d.ops),(zq aH d.frags)])]]) fun b=>cnd (chkU [[(4,[.str,.str,st',st']),(3,[.str]),(2,[sf,sf])]] b.2) (cnd (chk n6 b.1)
 (cnd (decide ((intV b.1)<0))
 (some ((.tuple [(.agg [(.str []),(.str []),(.slice [] [] false),(.slice [] [] false)]),(.bool false)]),[]))
 (bnd (ix 4 (zs (bx b.2 0 2) 1) (i6 (intV b.1))) fun x3=>cnd (chk (.ref gP) x3)
 (some ((.tuple [(.agg [(zt (rf x3) 0),(zt (rf x3) 1),(zs (rf x3) 2),(zs (rf x3) 3)]),(.bool true)]),[])) none)) none) none
def xQ (d:GDoc) (a:Str):Option (GFrag×Bool) :=
 bnd (aPK d.frags [] [] a d) fun b =>
 cnd (decide (b<0))
 (some ((GFrag.mk [] [] ([]:List GDir) ([]:List GSel)),false))
 (bnd (nthI d.frags b) fun c =>
 some (c,true))
def aQh:Decs:={decs:=[(10,n6),(17,(.ref gP))],ups:=[(10,[[(4,[.str,.str,st',st']),(3,[.str]),(2,[sf,sf])]])]}
theorem aQi O b d (a:Str):eW 82 aQh Tryz.f82 O b [(eD d),(.str a)] []=aA0 O b d a:=by kernel_rfl
theorem aNk d b:Imp (xQ d b) (aA0 O aG d b) (Ri lN):=by
 simp only [xQ,aA0,zd,zr];try simp only [evs,tys]
 refine Imp.gcall (f:=aZ) (fu:=fun a=>xL d.frags [] [] b d a) (fun a h=>by first | exact bA h | (have c:=bA h;simp only [evs,tys,evl,xL] at c;exact c)) zK (fun a=>by first | rfl | (simp only [xL,evs,tys];first | rfl | (cases w<;>rfl))) fun i e => ?_;try simp only [aZ,xL,evs,tys]
 apply Imp.cnd;·exact zR
 ·refine zX aH lG fun g _ => ?_;try simp only [evs,tys]
  exact zR
theorem aNl {d a r} (h:xQ d a=some r):aDC d a=some r:=zV aIK (aNk d a) Tryz.func82 (aQi _ _ d a) h
def aA1 (O:Orc) (g:LBs):bO:=fun b f=>cnd (chkL [sf,st',n6] b) (cnd (chkU [] f)
 (cnd (decide ((iv b 2)<(List.length (ev b 0):Int)))
 (bnd (ix 6 (zs b 0) (zn b 2)) fun e=>cnd (chk (.ref dA) e)
 (bnd (ix 6 (zs b 0) (zn b 2)) fun a=>cnd (chk (.ref dA) a)
 (aQ O 175 [(.agg [(zn (rf a) 1),(zn (rf a) 2),(zt (rf a) 3),(zs (rf a) 4),(zs (rf a) 5)])] fun c=>cnd (chk mM c)
 (bnd (apd 6 (zo b 1) (.slice [(.agg [(zt (rf e) 0),(i6 (intV (gt (aggV c) 0))),(i6 (intV (gt (aggV c) 1))),(.str (strV (gt (aggV c) 2))),(.slice (esV (gt (aggV c) 3)) [] false),(.slice (esV (gt (aggV c) 4)) [] false)])] [] true)) fun d=>cnd (chk st' d)
 (some (.nrm,[(zs b 0),(.slice (esV d) [] true),(i6 (w6 ((iv b 2)+1)))],[])) none) none) none) none)
 (some (.brk 0,[(zs b 0),(zo b 1),(zn b 2)],[]))) none) none
def aA2 (O:Orc) (b:LBs) (c:List GMember):Option (PV×UP) :=
 bnd (b (aA1 O b) [(zq aD c),(.slice [] [] true),(i6 0)] []) fun a =>
 exIs a.1 (some 0) (cnd (chkL [sf,st',n6] a.2.1) (cnd (chkU [] a.2.2)
 (some ((zs a.2.1 1),[])) none) none)
 (none)
def kQ (g:List GMember):((List GMember)×Int)->Option (((List GMember)×Int)⊕((List GMember)))
 | (b,a) =>
 cnd (decide (a<(List.length g:Int)))
  (bnd (nthI g a) fun f =>
  bnd (nthI g a) fun d =>
  bnd (aDG d.v) fun e =>
  bnd (tapp b [(GMember.mk f.name e)]) fun c =>
  some (.inl (c,(IntKind.wrap .i64 (a+1)))))
  (some (.inr b))
abbrev aNm (a:List GMember) (st:(List GMember)×Int) (l:List PV) (u:UP):Prop:=l=[(zq aD a),(zp aD st.1),(i6 st.2)]/\u=[]
abbrev aNn (b:List GMember) (p:(List GMember)) (r:EU):Prop:=(fun (p:(List GMember))=>∃ (a:Int),r=(Ex.brk 0,[(zq aD b),(zp aD p),(i6 a)],[])) p
def xR (b:List GMember):Option (List GMember) :=
 bnd (aX (kQ b) ([],0)) fun a =>
 some a
def aQj:Decs:={decs:=[(14,(.ref dA)),(19,(.ref dA)),(22,mM),(25,st')],loops:=[(3,[],⟨[sf,st',n6],[],[(some 0,[sf,st',n6],[])]⟩)]}
theorem aQk O a b:eW 103 aQj Tryz.f103 O a [(zq aD b)] []=aA2 O a b:=by kernel_rfl
theorem aJs d:Lok (aNm d) (kQ d) (aA1 O aG) (aNn d):=by
 rintro ⟨c,b⟩ l u ⟨rfl,rfl⟩;simp only [kQ,aA1,zd,zr];refine zG ?_;try simp only [evs,tys]
 apply Imp.cnd
 ·refine zX aD eE fun k _ => ?_;try simp only [evs,tys]
  refine zX aD eE fun i _ => ?_;try simp only [evs,tys]
  refine zC rfl fun j _ => ?_;try simp only [zes,evs,tys]
  refine Imp.op (f:=fun a => .slice (List.map aD a) [] true) (fun a h=>uA (enc:=aD) zI zI (fun a=>by first | rfl | simp only [evs,tys,evc]) h) (fun a=>rfl) fun g e => ?_;try simp only [evs,tys]
  exact zN
 ·exact zB ⟨b,zE⟩
theorem aNo b:Imp (xR b) (aA2 O aG b) (Ri vW):=by
 simp only [xR,aA2,zd,zr];try simp only [evs,tys]
 refine zL (aJs b) ?_;rintro a _ ⟨c,rfl⟩;refine zH ?_;try simp only [evs,tys]
 exact zR
theorem aNp {a r} (h:xR a=some r):aAe a=some r:=zV aSv (aNo a) Tryz.func103 (aQk _ _ a) h
def aHL (O:Orc) (g:LBs):bO:=fun a f=>cnd (chkL [sf,st',n6] a) (cnd (chkU [] f)
 (cnd (decide ((iv a 2)<(List.length (ev a 0):Int)))
 (bnd (ix 2 (zs a 0) (zn a 2)) fun e=>cnd (chk (.ref aJc) e)
 (bnd (ix 2 (zs a 0) (zn a 2)) fun c=>cnd (chk (.ref aJc) c)
 (aQ O 103 [(zs (rf c) 1)] fun d=>cnd (chk sf d)
 (bnd (apd 2 (zo a 1) (.slice [(.agg [(zt (rf e) 0),(.slice (esV d) [] false)])] [] true)) fun b=>cnd (chk st' b)
 (some (.nrm,[(zs a 0),(.slice (esV b) [] true),(i6 (w6 ((iv a 2)+1)))],[])) none) none) none) none)
 (some (.brk 0,[(zs a 0),(zo a 1),(zn a 2)],[]))) none) none
def aHM (O:Orc) (b:LBs) (c:List GDir):Option (PV×UP) :=
 bnd (b (aHL O b) [(zq aI c),(.slice [] [] true),(i6 0)] []) fun a =>
 exIs a.1 (some 0) (cnd (chkL [sf,st',n6] a.2.1) (cnd (chkU [] a.2.2)
 (some ((zs a.2.1 1),[])) none) none)
 (none)
def rH (g:List GDir):((List GDir)×Int)->Option (((List GDir)×Int)⊕((List GDir)))
 | (b,a) =>
 cnd (decide (a<(List.length g:Int)))
  (bnd (nthI g a) fun f =>
  bnd (nthI g a) fun d =>
  bnd (aAe d.args) fun e =>
  bnd (tapp b [(GDir.mk f.name e)]) fun c =>
  some (.inl (c,(IntKind.wrap .i64 (a+1)))))
  (some (.inr b))
abbrev aWm (a:List GDir) (st:(List GDir)×Int) (l:List PV) (u:UP):Prop:=l=[(zq aI a),(zp aI st.1),(i6 st.2)]/\u=[]
abbrev aWn (b:List GDir) (p:(List GDir)) (r:EU):Prop:=(fun (p:(List GDir))=>∃ (a:Int),r=(Ex.brk 0,[(zq aI b),(zp aI p),(i6 a)],[])) p
def aGD (b:List GDir):Option (List GDir) :=
 bnd (aX (rH b) ([],0)) fun a =>
 some a
def bAB:Decs:={decs:=[(14,(.ref aJc)),(19,(.ref aJc)),(22,sf),(25,st')],loops:=[(3,[],⟨[sf,st',n6],[],[(some 0,[sf,st',n6],[])]⟩)]}
theorem bAC O a b:eW 36 bAB Tryz.f36 O a [(zq aI b)] []=aHM O a b:=by kernel_rfl
theorem aQl d:Lok (aWm d) (rH d) (aHL O aG) (aWn d):=by
 rintro ⟨c,b⟩ l u ⟨rfl,rfl⟩;simp only [rH,aHL,zd,zr];refine zG ?_;try simp only [evs,tys]
 apply Imp.cnd
 ·refine zX aI aDw fun k _ => ?_;try simp only [evs,tys]
  refine zX aI aDw fun i _ => ?_;try simp only [evs,tys]
  refine zC rfl fun j _ => ?_;try simp only [zes,evs,tys]
  refine Imp.op (f:=fun a => .slice (List.map aI a) [] true) (fun a h=>uA (enc:=aI) zI zI (fun a=>by first | rfl | simp only [evs,tys,evc]) h) (fun a=>rfl) fun g e => ?_;try simp only [evs,tys]
  exact zN
 ·exact zB ⟨b,zE⟩
theorem aWo b:Imp (aGD b) (aHM O aG b) (Ri aDD):=by
 simp only [aGD,aHM,zd,zr];try simp only [evs,tys]
 refine zL (aQl b) ?_;rintro a _ ⟨c,rfl⟩;refine zH ?_;try simp only [evs,tys]
 exact zR
theorem aWp {a r} (h:aGD a=some r):aVI a=some r:=zV bDi (aWo a) Tryz.func36 (bAC _ _ a) h
def aHN (O:Orc) (a:LBs) (s:GSchema) (o:GOp):Option (PV×UP) :=
 cnd (o.kind==1)
 (some ((.str s.mutation),[]))
 (some ((.str s.query),[]))
def aGE (s:GSchema) (o:GOp):Option Str :=
 cnd (o.kind==1)
 (some s.mutation)
 (some s.query)
def bAD:Decs:={}
theorem bAE O a s o:eW 116 bAD Tryz.f116 O a [(eS s),(.agg [(i6 o.kind),(.str o.name),(zq aB o.vars),(zq aI o.dirs),(zq aF o.sels)])] []=aHN O a s o:=by kernel_rfl
theorem aWq s o:Imp (aGE s o) (aHN O aG s o) (Ri aAM):=by
 simp only [aGE,aHN,zd,zr];try simp only [evs,tys]
 apply Imp.cnd;·exact zR
 ·exact zR
theorem aWr {s o r} (h:aGE s o=some r):aVJ s o=some r:=zV aSw (aWq s o) Tryz.func116 (bAE _ _ s o) h
abbrev oN:List Sh:=[.str,sf,st',(.ptr 0 4 0),n6,sf,.str,.str]
def aFr (O:Orc) (i:LBs):bO:=fun a h=>cnd (chkL oN a) (cnd (chkU [] h)
 (cnd (decide ((iv a 4)<(List.length (ev a 1):Int)))
 (bnd (ix 7 (zs a 1) (zn a 4)) fun b=>cnd (chk (.ref mB) b)
 (bnd (apd 8 (zo a 2) (.slice [(.agg [(zt a 0),(zn (rf b) 0),(zt (rf b) 1),(zt (rf b) 2),(zs (rf b) 3),(zs (rf b) 4),(zt (rf b) 5),(zs (rf b) 6)])] [] true)) fun e=>cnd (chk st' e)
 (bnd (ix 7 (zs a 1) (zn a 4)) fun c=>cnd (chk (.ref mB) c)
 (aQ O 184 [(.agg [(zs a 5),(zt a 6),(zt a 7)]),(zt a 0),(.agg [(zn (rf c) 0),(zt (rf c) 1),(zt (rf c) 2),(zs (rf c) 3),(zs (rf c) 4),(zt (rf c) 5),(zs (rf c) 6)])] fun g=>cnd (chk .str g)
 (bnd (ix 7 (zs a 1) (zn a 4)) fun d=>cnd (chk (.ref mB) d)
 (aQ O 115 [(.agg [(zs a 5),(zt a 6),(zt a 7)]),(.str (strV g)),(zs (rf d) 6),(.slice (esV e) [] true)] fun f=>cnd (chk st' f)
 (some (.nrm,(pu (pu (rb oN a) 2 (.slice (esV f) [] true)) 4 (i6 (w6 ((iv a 4)+1)))),[])) none) none) none) none) none) none)
 (some (.brk 0,(rb oN a),[]))) none) none
def aFs (O:Orc) (d:LBs) (s:GSchema) (c:Str) (e:List GSel) (b:List GSeineref13Spot):Option (PV×UP) :=
 bnd (d (aFr O d) [(.str c),(zq aF e),(zp aM b),(.ptr 0 4 0),(i6 0),(zq aL s.defs),(.str s.query),(.str s.mutation)] []) fun a =>
 exIs a.1 (some 0) (cnd (chkL oN a.2.1) (cnd (chkU [] a.2.2)
 (some ((zo a.2.1 2),[])) none) none)
 (none)
def lQ (s:GSchema) (c:Str) (d:List GSel):((List GSeineref13Spot)×Int)->Option (((List GSeineref13Spot)×Int)⊕((List GSeineref13Spot)))
 | (b,a) =>
 cnd (decide (a<(List.length d:Int)))
  (bnd (nthI d a) fun j =>
  bnd (tapp b [(GSeineref13Spot.mk c j)]) fun f =>
  bnd (nthI d a) fun g =>
  bnd (aLe s c g) fun i =>
  bnd (nthI d a) fun e =>
  bnd (aGu s i e.sels f) fun h =>
  some (.inl (h,(IntKind.wrap .i64 (a+1)))))
  (some (.inr b))
abbrev aS6 (s:GSchema) (a:Str) (b:List GSel) (st:(List GSeineref13Spot)×Int) (l:List PV) (u:UP):Prop:=l=[(.str a),(zq aF b),(zp aM st.1),(.ptr 0 4 0),(i6 st.2),(zq aL s.defs),(.str s.query),(.str s.mutation)]/\u=[]
abbrev aS7 (s:GSchema) (b:Str) (c:List GSel) (p:(List GSeineref13Spot)) (r:EU):Prop:=(fun (p:(List GSeineref13Spot))=>∃ (a:Int),r=(Ex.brk 0,[(.str b),(zq aF c),(zp aM p),(.ptr 0 4 0),(i6 a),(zq aL s.defs),(.str s.query),(.str s.mutation)],[])) p
def aAn (s:GSchema) (c:Str) (d:List GSel) (b:List GSeineref13Spot):Option (List GSeineref13Spot) :=
 bnd (aX (lQ s c d) (b,0)) fun a =>
 some a
def aWs:Decs:={decs:=[(20,(.ref mB)),(24,st'),(30,(.ref mB)),(32,.str),(35,(.ref mB)),(39,st')],loops:=[(2,[(4,3)],⟨oN,[],[(some 0,oN,[])]⟩)]}
theorem aWt O c s (b:Str) d a:eW 115 aWs Tryz.f115 O c [(eS s),(.str b),(zq aF d),(zp aM a)] []=aFs O c s b d a:=by kernel_rfl
theorem aNq s b e:Lok (aS6 s b e) (lQ s b e) (aFr O aG) (aS7 s b e):=by
 rintro ⟨d,c⟩ l u ⟨rfl,rfl⟩;simp only [lQ,aFr,zd,zr];refine zG ?_;try simp only [evs,tys]
 apply Imp.cnd
 ·refine zX aF gN fun o _ => ?_;try simp only [evs,tys]
  refine Imp.op (f:=fun a => .slice (List.map aM a) [] true) (fun a h=>uA (enc:=aM) zI zI (fun a=>by first | rfl | simp only [evs,tys,evc]) h) (fun a=>rfl) fun j g => ?_;try simp only [evs,tys]
  refine zX aF gN fun k _ => ?_;try simp only [evs,tys]
  refine zC rfl fun n _ => ?_;try simp only [zes,evs,tys]
  refine zX aF gN fun i _ => ?_;try simp only [evs,tys]
  refine zC rfl fun m _ => ?_;try simp only [zes,evs,tys]
  exact zN
 ·exact zB ⟨c,zE⟩
theorem aS8 s b d a:Imp (aAn s b d a) (aFs O aG s b d a) (Ri aCs):=by
 simp only [aAn,aFs,zd,zr];try simp only [evs,tys]
 refine zL (aNq s b d) ?_;rintro c _ ⟨e,rfl⟩;refine zH ?_;try simp only [evs,tys]
 exact zR
theorem aIS {s b c a r} (h:aAn s b c a=some r):aGu s b c a=some r:=zV bAi (aS8 s b c a) Tryz.func115 (aWt _ _ s b c a) h
def yS (O:Orc) (e:LBs):bO:=fun a c=>cnd (chkL [sf,st',n6] a) (cnd (chkU [] c)
 (cnd (decide ((iv a 2)<(List.length (ev a 0):Int)))
 (bnd (ix 10 (zs a 0) (zn a 2)) fun d=>cnd (chk (.ref eZ) d)
 (bnd (apd 1 (zo a 1) (.slice [(zt (rf d) 0)] [] true)) fun b=>cnd (chk st' b)
 (some (.nrm,[(zs a 0),(.slice (esV b) [] true),(i6 (w6 ((iv a 2)+1)))],[])) none) none)
 (some (.brk 0,[(zs a 0),(zo a 1),(zn a 2)],[]))) none) none
def yT (O:Orc) (b:LBs) (c:List GVarDef):Option (PV×UP) :=
 bnd (b (yS O b) [(zq aB c),(.slice [] [] true),(i6 0)] []) fun a =>
 exIs a.1 (some 0) (cnd (chkL [sf,st',n6] a.2.1) (cnd (chkU [] a.2.2)
 (some ((zs a.2.1 1),[])) none) none)
 (none)
def jD (d:List GVarDef):((List Str)×Int)->Option (((List Str)×Int)⊕((List Str)))
 | (a,b) =>
 cnd (decide (b<(List.length d:Int)))
  (bnd (nthI d b) fun e =>
  bnd (tapp a [e.name]) fun c =>
  some (.inl (c,(IntKind.wrap .i64 (b+1)))))
  (some (.inr a))
abbrev aLJ (a:List GVarDef) (st:(List Str)×Int) (l:List PV) (u:UP):Prop:=l=[(zq aB a),(zp PV.str st.1),(i6 st.2)]/\u=[]
abbrev aLK (b:List GVarDef) (p:(List Str)) (r:EU):Prop:=(fun (p:(List Str))=>∃ (a:Int),r=(Ex.brk 0,[(zq aB b),(zp PV.str p),(i6 a)],[])) p
def uP (b:List GVarDef):Option (List Str) :=
 bnd (aX (jD b) ([],0)) fun a =>
 some a
def aNr:Decs:={decs:=[(14,(.ref eZ)),(18,st')],loops:=[(3,[],⟨[sf,st',n6],[],[(some 0,[sf,st',n6],[])]⟩)]}
theorem aNs O a b:eW 126 aNr Tryz.f126 O a [(zq aB b)] []=yT O a b:=by kernel_rfl
theorem aHO c:Lok (aLJ c) (jD c) (yS O aG) (aLK c):=by
 rintro ⟨b,d⟩ l u ⟨rfl,rfl⟩;simp only [jD,yS,zd,zr];refine zG ?_;try simp only [evs,tys]
 apply Imp.cnd
 ·refine zX aB jR fun i _ => ?_;try simp only [evs,tys]
  refine Imp.op (f:=fun a => .slice (List.map PV.str a) [] true) (fun a h=>uA (enc:=PV.str) zI zI (fun a=>by first | rfl | simp only [evs,tys,evc]) h) (fun a=>rfl) fun g e => ?_;try simp only [evs,tys]
  exact zN
 ·exact zB ⟨d,zE⟩
theorem aLL b:Imp (uP b) (yT O aG b) (Ri bU):=by
 simp only [uP,yT,zd,zr];try simp only [evs,tys]
 refine zL (aHO b) ?_;rintro a _ ⟨c,rfl⟩;refine zH ?_;try simp only [evs,tys]
 exact zR
theorem aLM {a r} (h:uP a=some r):aE0 a=some r:=zV jU (aLL a) Tryz.func126 (aNs _ _ a) h
abbrev rI:List Sh:=[(.ptr 0 2 0),st',sf,n6,sf,sf]
def aHP (O:Orc) (f:LBs):bO:=fun a e=>cnd (chkL rI a) (cnd (chkU [] e)
 (cnd (decide ((iv a 3)<(List.length (ev a 2):Int)))
 (bnd (ix 1 (zs a 2) (zn a 3)) fun c=>cnd (chk (.ref .str) c)
 (aQ O 113 [(.agg [(zs a 4),(zs a 5)]),(.str (strV (refV c)))] fun d=>cnd (chk (.tup [gP,.bool]) d)
 (aQ O 189 [(zs (tg d 0) 3),(zo a 1)] fun b=>cnd (chk st' b)
 (some (.nrm,(pu (pu (rb rI a) 1 (.slice (esV b) [] true)) 3 (i6 (w6 ((iv a 3)+1)))),[])) none) none) none)
 (some (.brk 0,(rb rI a),[]))) none) none
def aHQ (O:Orc) (e:LBs) (d:GDoc) (f:List GSel):Option (PV×UP) :=
 aQ O 189 [(zq aF f),(.slice [] [] true)] fun c=>cnd (chk st' c)
 (aQ O 114 [(eD d),(zq aF f)] fun x3=>cnd (chk sf x3)
 (bnd (e (aHP O e) [(.ptr 0 2 0),(.slice (esV c) [] true),(.slice (esV x3) [] false),(i6 0),(zq aR d.ops),(zq aH d.frags)] []) fun a =>
 exIs a.1 (some 0) (cnd (chkL rI a.2.1) (cnd (chkU [] a.2.2)
 (aQ O 190 [(zs a.2.1 1)] fun b=>cnd (chk sf b)
 (some ((.slice (esV b) [] false),[])) none) none) none)
 (none)) none) none
def rJ (d:GDoc) (g:List Str):((List Str)×Int)->Option (((List Str)×Int)⊕((List Str)))
 | (a,b) =>
 cnd (decide (b<(List.length g:Int)))
  (bnd (nthI g b) fun e =>
  bnd (aPN d e) fun f =>
  bnd (rD f.1.sels a) fun c =>
  some (.inl (c,(IntKind.wrap .i64 (b+1)))))
  (some (.inr a))
abbrev aWu (d:GDoc) (a:List Str) (st:(List Str)×Int) (l:List PV) (u:UP):Prop:=l=[(.ptr 0 2 0),(zp PV.str st.1),(zq PV.str a),(i6 st.2),(zq aR d.ops),(zq aH d.frags)]/\u=[]
abbrev aWv (d:GDoc) (b:List Str) (p:(List Str)) (r:EU):Prop:=(fun (p:(List Str))=>∃ (a:Int),r=(Ex.brk 0,[(.ptr 0 2 0),(zp PV.str p),(zq PV.str b),(i6 a),(zq aR d.ops),(zq aH d.frags)],[])) p
def aGF (d:GDoc) (c:List GSel):Option (List Str) :=
 bnd (rD c ([]:List Str)) fun f =>
 bnd (aJY d c) fun e =>
 bnd (aX (rJ d e) (f,0)) fun a =>
 bnd (aLf a) fun b =>
 some b
def bAF:Decs:={decs:=[(11,st'),(14,sf),(25,(.ref .str)),(27,(.tup [gP,.bool])),(33,st'),(35,sf)],loops:=[(4,[(2,2)],⟨rI,[],[(some 0,rI,[])]⟩)]}
theorem bAG O a d b:eW 127 bAF Tryz.f127 O a [(eD d),(zq aF b)] []=aHQ O a d b:=by kernel_rfl
theorem aQm d c:Lok (aWu d c) (rJ d c) (aHP O aG) (aWv d c):=by
 rintro ⟨b,a⟩ l u ⟨rfl,rfl⟩;simp only [rJ,aHP,zd,zr];refine zG ?_;try simp only [evs,tys]
 apply Imp.cnd
 ·refine zX PV.str (fun _=>rfl) fun f _ => ?_;try simp only [evs,tys]
  refine zC rfl fun g _ => ?_;try simp only [zes,evs,tys]
  refine zC rfl fun e _ => ?_;try simp only [zes,evs,tys]
  exact zN
 ·exact zB ⟨a,zE⟩
theorem aWw d b:Imp (aGF d b) (aHQ O aG d b) (Ri bU):=by
 simp only [aGF,aHQ,zd,zr];try simp only [evs,tys]
 refine zC rfl fun g _ => ?_;try simp only [zes,evs,tys]
 refine zC rfl fun f _ => ?_;try simp only [zes,evs,tys]
 refine zL (aQm d f) ?_;rintro a _ ⟨c,rfl⟩;refine zH ?_;try simp only [evs,tys]
 refine zC rfl fun e _ => ?_;try simp only [zes,evs,tys]
 exact zR
theorem aWx {d a r} (h:aGF d a=some r):aHv d a=some r:=zV jU (aWw d a) Tryz.func127 (bAG _ _ d a) h
abbrev lR:List Sh:=[sf,.bool,n6,n6]
def aFt (O:Orc) (e:LBs):bO:=fun a c=>cnd (chkL lR a) (cnd (chkU [] c)
 (cnd (decide ((iv a 3)<(iv a 2)))
 (bnd (ix 1 (zs a 0) (zn a 2)) fun d=>cnd (chk (.ref .str) d)
 (bnd (ix 1 (zs a 0) (zn a 3)) fun b=>cnd (chk (.ref .str) b)
 (cnd ((strV (refV d))==(strV (refV b)))
 (some (.ret,(pu (rb lR a) 1 (.bool true)),[]))
 (some (.nrm,(pu (rb lR a) 3 (i6 (w6 ((iv a 3)+1)))),[]))) none) none)
 (some (.brk 2,(rb lR a),[]))) none) none
def aFu (O:Orc) (d:LBs):bO:=fun b c=>cnd (chkL [sf,.bool,n6] b) (cnd (chkU [] c)
 (cnd (decide ((iv b 2)<(List.length (ev b 0):Int)))
 (bnd (d (aFt O d) [(zs b 0),(zb b 1),(zn b 2),(i6 0)] []) fun a =>
 exIs a.1 (some 2) (cnd (chkL [sf,.bool,n6,n6] a.2.1) (cnd (chkU [] a.2.2)
 (some (.nrm,[(zs a.2.1 0),(zb a.2.1 1),(i6 (w6 ((iv a.2.1 2)+1)))],[])) none) none)
 (exIs a.1 none (cnd (chkL [sf,.bool,n6,n6] a.2.1) (cnd (chkU [] a.2.2)
 (some (.ret,[(zs a.2.1 0),(zb a.2.1 1),(zn a.2.1 2)],[])) none) none)
 (none)))
 (some (.brk 0,[(zs b 0),(zb b 1),(zn b 2)],[]))) none) none
def aFv (O:Orc) (b:LBs) (c:List Str):Option (PV×UP) :=
 bnd (b (aFu O b) [(zq PV.str c),(.bool false),(i6 0)] []) fun a =>
 exIs a.1 (some 0) (cnd (chkL [sf,.bool,n6] a.2.1) (cnd (chkU [] a.2.2)
 (some ((.bool false),[])) none) none)
 (exIs a.1 none (cnd (chkL [sf,.bool,n6] a.2.1) (cnd (chkU [] a.2.2)
 (some ((zb a.2.1 1),[])) none) none)
 (none))
def lS (e:List Str) (b:Int):Int->Option (Int⊕(Unit⊕Unit))
 | a =>
 cnd (decide (a<b))
  (bnd (nthI e b) fun d =>
  bnd (nthI e a) fun c =>
  cnd (d==c)
  (some (.inr (.inr ())))
  (some (.inl (IntKind.wrap .i64 (a+1)))))
  (some (.inr (.inl ())))
abbrev aS9 (b:List Str) (a:Int) (st:Int) (l:List PV) (u:UP):Prop:=l=[(zq PV.str b),(.bool false),(i6 a),(i6 st)]/\u=[]
abbrev aTa (d:List Str) (a:Int) (p:Unit⊕Unit) (r:EU):Prop:=elim p (fun (p:Unit)=>∃ (b:Int),r=(Ex.brk 2,[(zq PV.str d),(.bool false),(i6 a),(i6 b)],[])) (fun e=>(fun (p:Unit)=>∃ (c:Int),r=(Ex.ret,[(zq PV.str d),(.bool true),(i6 a),(i6 c)],[])) e)
def oO (d:List Str):Int->Option (Int⊕(Unit⊕Unit))
 | a =>
 cnd (decide (a<(List.length d:Int)))
  (bnd (aX (lS d a) 0) fun b=>elim b
  (fun c =>
  some (.inl (IntKind.wrap .i64 (a+1))))
  (fun c =>
  some (.inr (.inr ()))))
  (some (.inr (.inl ())))
abbrev aTb (a:List Str) (st:Int) (l:List PV) (u:UP):Prop:=l=[(zq PV.str a),(.bool false),(i6 st)]/\u=[]
abbrev aTc (c:List Str) (p:Unit⊕Unit) (r:EU):Prop:=elim p (fun (p:Unit)=>∃ (b:Int),r=(Ex.brk 0,[(zq PV.str c),(.bool false),(i6 b)],[])) (fun d=>(fun (p:Unit)=>∃ (a:Int),r=(Ex.ret,[(zq PV.str c),(.bool true),(i6 a)],[])) d)
def aDM (c:List Str):Option Bool :=
 bnd (aX (oO c) 0) fun a=>elim a
 (fun b =>
 some false)
 (fun b =>
 some true)
def aWy:Decs:={decs:=[(18,(.ref .str)),(22,(.ref .str))],loops:=[(2,[],⟨[sf,.bool,n6],[],[(some 0,[sf,.bool,n6],[]),(none,[sf,.bool,n6],[])]⟩),(5,[],⟨lR,[],[(some 2,lR,[]),(none,lR,[])]⟩)]}
theorem aWz O a (b:List Str):eW 50 aWy Tryz.f50 O a [(zq PV.str b)] []=aFv O a b:=by kernel_rfl
theorem aNt c a:Lok (aS9 c a) (lS c a) (aFt O aG) (aTa c a):=by
 rintro b l u ⟨rfl,rfl⟩;simp only [lS,aFt,zd,zr];refine zG ?_;try simp only [evs,tys]
 apply Imp.cnd
 ·refine zX PV.str (fun _=>rfl) fun e _ => ?_;try simp only [evs,tys]
  refine zX PV.str (fun _=>rfl) fun d _ => ?_;try simp only [evs,tys]
  apply Imp.cnd;·exact zT ⟨b,zE⟩
  ·exact zN
 ·exact zB ⟨b,zE⟩
theorem aNu c:Lok (aTb c) (oO c) (aFu O aG) (aTc c):=by
 rintro a l u ⟨rfl,rfl⟩;simp only [oO,aFu,zd,zr];refine zG ?_;try simp only [evs,tys]
 apply Imp.cnd
 ·refine zL (aNt c a) ?_;rintro (p | p) d b
  ·try simp only [aO,aP]
   obtain ⟨e,rfl⟩:=b;refine zH ?_;try simp only [evs,tys]
   exact zN
  ·try simp only [aO,aP]
   obtain ⟨f,rfl⟩:=b;refine Imp.exMiss rfl ?_;refine zH ?_;try simp only [evs,tys]
   exact zT ⟨a,zE⟩
 ·exact zB ⟨a,zE⟩
theorem aTd b:Imp (aDM b) (aFv O aG b) (Ri aA):=by
 simp only [aDM,aFv,zd,zr];try simp only [evs,tys]
 refine zL (aNu b) ?_;rintro (p | p) c a
 ·try simp only [aO,aP]
  obtain ⟨e,rfl⟩:=a;refine zH ?_;try simp only [evs,tys]
  exact zR
 ·try simp only [aO,aP]
  obtain ⟨d,rfl⟩:=a;refine Imp.exMiss rfl ?_;refine zH ?_;try simp only [evs,tys]
  exact zR
theorem aTe {a r} (h:aDM a=some r):aPL a=some r:=zV aE (aTd a) Tryz.func50 (aWz _ _ a) h
abbrev mI:List Sh:=[sf,sf,.bool,n6]
def aLN (O:Orc) (e:LBs):bO:=fun a b=>cnd (chkL mI a) (cnd (chkU [] b)
 (cnd (decide ((iv a 3)<(List.length (ev a 0):Int)))
 (bnd (ix 1 (zs a 0) (zn a 3)) fun d=>cnd (chk (.ref .str) d)
 (aQ O 29 [(zs a 1),(.str (strV (refV d)))] fun c=>cnd (chk .bool c)
 (cnd (!(bM c))
 (some (.ret,(pu (rb mI a) 2 (.bool false)),[]))
 (some (.nrm,(pu (rb mI a) 3 (i6 (w6 ((iv a 3)+1)))),[]))) none) none)
 (some (.brk 0,(rb mI a),[]))) none) none
def aLO (O:Orc) (d:LBs) (a:List Str) (b:List Str):Option (PV×UP) :=
 bnd (d (aLN O d) [(zq PV.str a),(zq PV.str b),(.bool false),(i6 0)] []) fun c =>
 exIs c.1 (some 0) (cnd (chkL mI c.2.1) (cnd (chkU [] c.2.2)
 (some ((.bool true),[])) none) none)
 (exIs c.1 none (cnd (chkL mI c.2.1) (cnd (chkU [] c.2.2)
 (some ((zb c.2.1 2),[])) none) none)
 (none))
def uY (a:List Str) (b:List Str):Int->Option (Int⊕(Unit⊕Unit))
 | c =>
 cnd (decide (c<(List.length a:Int)))
  (bnd (nthI a c) fun e =>
  bnd (xJ b e) fun d =>
  cnd (!d)
  (some (.inr (.inr ())))
  (some (.inl (IntKind.wrap .i64 (c+1)))))
  (some (.inr (.inl ())))
abbrev bAH (a:List Str) (b:List Str) (st:Int) (l:List PV) (u:UP):Prop:=l=[(zq PV.str a),(zq PV.str b),(.bool false),(i6 st)]/\u=[]
abbrev bAI (a:List Str) (b:List Str) (p:Unit⊕Unit) (r:EU):Prop:=elim p (fun (p:Unit)=>∃ (d:Int),r=(Ex.brk 0,[(zq PV.str a),(zq PV.str b),(.bool false),(i6 d)],[])) (fun e=>(fun (p:Unit)=>∃ (c:Int),r=(Ex.ret,[(zq PV.str a),(zq PV.str b),(.bool false),(i6 c)],[])) e)
def aJ3 (a:List Str) (b:List Str):Option Bool :=
 bnd (aX (uY a b) 0) fun c=>elim c
 (fun d =>
 some true)
 (fun d =>
 some false)
def bDr:Decs:={decs:=[(15,(.ref .str)),(17,.bool)],loops:=[(2,[],⟨mI,[],[(some 0,mI,[]),(none,mI,[])]⟩)]}
theorem bDs O c (a:List Str) (b:List Str):eW 128 bDr Tryz.f128 O c [(zq PV.str a),(zq PV.str b)] []=aLO O c a b:=by kernel_rfl
theorem aTf a b:Lok (bAH a b) (uY a b) (aLN O aG) (bAI a b):=by
 rintro c l u ⟨rfl,rfl⟩;simp only [uY,aLN,zd,zr];refine zG ?_;try simp only [evs,tys]
 apply Imp.cnd
 ·refine zX PV.str (fun _=>rfl) fun e _ => ?_;try simp only [evs,tys]
  refine zC rfl fun d _ => ?_;try simp only [zes,evs,tys]
  apply Imp.cnd;·exact zT ⟨c,zE⟩
  ·exact zN
 ·exact zB ⟨c,zE⟩
theorem bAJ a b:Imp (aJ3 a b) (aLO O aG a b) (Ri aA):=by
 simp only [aJ3,aLO,zd,zr];try simp only [evs,tys]
 refine zL (aTf a b) ?_;rintro (p | p) f c
 ·try simp only [aO,aP]
  obtain ⟨e,rfl⟩:=c;refine zH ?_;try simp only [evs,tys]
  exact zR
 ·try simp only [aO,aP]
  obtain ⟨d,rfl⟩:=c;refine Imp.exMiss rfl ?_;refine zH ?_;try simp only [evs,tys]
  exact zR
theorem bAK {a b r} (h:aJ3 a b=some r):aIL a b=some r:=zV aE (bAJ a b) Tryz.func128 (bDs _ _ a b) h
def aFw (O:Orc) (c:LBs) (s:GSchema) (a:Str):Option (PV×UP) :=
 aQ O 159 [(eS s),(.str a),(i6 0),(i6 4),(i6 5)] fun b=>cnd (chk .bool b)
 (some ((.bool (bM b)),[])) none
def aDN (s:GSchema) (a:Str):Option Bool :=
 bnd (bDk s a 0 4 5) fun b =>
 some b
def aWA:Decs:={decs:=[(7,.bool)]}
theorem aWB O b s (a:Str):eW 129 aWA Tryz.f129 O b [(eS s),(.str a)] []=aFw O b s a:=by kernel_rfl
theorem aTg s a:Imp (aDN s a) (aFw O aG s a) (Ri aA):=by
 simp only [aDN,aFw,zd,zr];try simp only [evs,tys]
 refine zC rfl fun b _ => ?_;try simp only [zes,evs,tys]
 exact zR
theorem aTh {s a r} (h:aDN s a=some r):aPM s a=some r:=zV aE (aTg s a) Tryz.func129 (aWB _ _ s a) h
open Go Go.Ev Go.Ev.PV
abbrev fX:List Sh:=[(.ptr 0 2 0),st',(.ptr 0 6 0),n6,n6,.str,sf,sf,sf,sf,sf,.str,.str]
def aFx (O:Orc) (f:LBs):bO:=fun a e=>cnd (chkL fX a) (cnd (chkU [] e)
 (cnd (decide ((iv a 3)<(List.length (ev a 9):Int)))
 (cnd ((iv a 4)==5)
 (bnd (ix 10 (zs a 9) (zn a 3)) fun b=>cnd (chk (.ref mN) b)
 (cnd ((iv (rf b) 2)==0)
 (cnd ((iv (rf b) 3)==1)
 (aQ O 159 [(.agg [(zs a 10),(zt a 11),(zt a 12)]),(zt (rf b) 1),(i6 5),(i6 5),(i6 5)] fun c=>cnd (chk .bool c)
 (cnd (bM c)
 (bnd (apd 1 (zo a 1) (.slice [(zt (rf b) 1)] [] true)) fun d=>cnd (chk st' d)
 (some (.nrm,(pu (pu (rb fX a) 1 (.slice (esV d) [] true)) 3 (i6 (w6 ((iv a 3)+1)))),[])) none)
 (some (.nrm,(pu (rb fX a) 3 (i6 (w6 ((iv a 3)+1)))),[]))) none)
 (some (.nrm,(pu (rb fX a) 3 (i6 (w6 ((iv a 3)+1)))),[])))
 (some (.nrm,(pu (rb fX a) 3 (i6 (w6 ((iv a 3)+1)))),[]))) none)
 (some (.brk 0,(rb fX a),[])))
 (some (.brk 0,(rb fX a),[]))) none) none
def aFy (O:Orc) (d:LBs) (s:GSchema) (c:Str):Option (PV×UP) :=
 aQ O 164 [(eS s),(.str c)] fun b=>cnd (chk (.tup [vS,.bool]) b)
 (bnd (d (aFx O d) [(.ptr 0 2 0),(.slice [] [] true),(.ptr 0 6 0),(i6 0),(zn (tg b 0) 0),(zt (tg b 0) 1),(zs (tg b 0) 2),(zs (tg b 0) 3),(zs (tg b 0) 4),(zs (tg b 0) 5),(zq aL s.defs),(.str s.query),(.str s.mutation)] []) fun a =>
 exIs a.1 (some 0) (cnd (chkL fX a.2.1) (cnd (chkU [] a.2.2)
 (some ((zo a.2.1 1),[])) none) none)
 (none)) none
def aCN (s:GSchema) (g:Str) (f:GDef×Bool):((List Str)×Int)->Option (((List Str)×Int)⊕((List Str)))
 | (a,b) =>
 cnd (decide (b<(List.length f.1.params:Int)))
  (cnd (f.1.kind==5)
  (bnd (nthI f.1.params b) fun c =>
  cnd (c.t.lists==0)
   (cnd (c.t.musts==1)
   (bnd (bDk s c.t.name 5 5 5) fun d =>
   cnd d
    (bnd (tapp a [c.t.name]) fun e =>
    some (.inl (e,(IntKind.wrap .i64 (b+1)))))
    (some (.inl (a,(IntKind.wrap .i64 (b+1))))))
   (some (.inl (a,(IntKind.wrap .i64 (b+1))))))
   (some (.inl (a,(IntKind.wrap .i64 (b+1))))))
  (some (.inr a)))
  (some (.inr a))
abbrev aIT (s:GSchema) (name:Str) (a:GDef×Bool) (b c:PV):List PV:=[(.ptr 0 2 0),b,(.ptr 0 6 0),c,(i6 a.1.kind),(.str a.1.name),(zq PV.str a.1.faces),(zq bL a.1.fields),(zq PV.str a.1.parts),(zq bB a.1.params),(zq aL s.defs),(.str s.query),(.str s.mutation)]
abbrev aTi (s:GSchema) (a:Str) (b:GDef×Bool) (st:(List Str)×Int) (l:List PV) (u:UP):Prop:=l=(aIT s a b (zp PV.str st.1) (i6 st.2))/\u=[]
abbrev aTj (s:GSchema) (a:Str) (c:GDef×Bool) (p:(List Str)) (r:EU):Prop:=∃ (b:Int),r=(Ex.brk 0,(aIT s a c (zp PV.str p) (i6 b)),[])
def aDO (s:GSchema) (b:Str):Option (List Str) :=
 bnd (aAN s b) fun c =>
 bnd (aX (aCN s b c) ([],0)) fun a =>
 some a
def aWC:Decs:={decs:=[(13,(.tup [vS,.bool])),(31,(.ref mN)),(46,.bool),(52,st')],loops:=[(4,[(6,6),(2,3)],⟨fX,[],[(some 0,fX,[])]⟩)]}
theorem aWD O b s (a:Str):eW 166 aWC Tryz.f166 O b [(eS s),(.str a)] []=aFy O b s a:=by kernel_rfl
theorem aNv s b e:Lok (aTi s b e) (aCN s b e) (aFx O aG) (aTj s b e):=by
 rintro ⟨d,c⟩ l u ⟨rfl,rfl⟩;simp only [aCN,aFx,zd,zr];refine zG ?_;try simp only [evs,tys]
 apply Imp.cnd
 ·apply Imp.cnd
  ·refine zX bB rB fun k _ => ?_;try simp only [evs,tys]
   apply Imp.cnd
   ·apply Imp.cnd
    ·refine zC rfl fun i _ => ?_;try simp only [zes,evs,tys]
     apply Imp.cnd
     ·refine Imp.op (f:=fun a => .slice (List.map PV.str a) [] true) (fun a h=>uA (enc:=PV.str) zI zI (fun a=>by first | rfl | simp only [evs,tys,evc]) h) (fun a=>rfl) fun j g => ?_;try simp only [evs,tys]
      exact zN
     ·exact zN
    ·exact zN
   ·exact zN
  ·exact zB ⟨c,zE⟩
 ·exact zB ⟨c,zE⟩
theorem aTk s a:Imp (aDO s a) (aFy O aG s a) (Ri fA):=by
 simp only [aDO,aFy,zd,zr];try simp only [evs,tys]
 refine zC rfl fun d _ => ?_;try simp only [zes,evs,tys]
 refine zL (aNv s a d) ?_;rintro b _ ⟨c,rfl⟩;refine zH ?_;try simp only [evs,tys]
 exact zR
theorem aTl {s a r} (h:aDO s a=some r):aJZ s a=some r:=zV sN (aTk s a) Tryz.func166 (aWD _ _ s a) h
def aA3 (O:Orc) (c:LBs) (b:List GSel):Option (PV×UP) :=
 aQ O 183 [(zq aF b),(.slice [] [] true)] fun a=>cnd (chk st' a)
 (some ((.slice (esV a) [] true),[])) none
def xS (b:List GSel):Option (List Str) :=
 bnd (mD b ([]:List Str)) fun a =>
 some a
def aQn:Decs:={decs:=[(4,st')]}
theorem aQo O a b:eW 182 aQn Tryz.f182 O a [(zq aF b)] []=aA3 O a b:=by kernel_rfl
theorem aNw a:Imp (xS a) (aA3 O aG a) (Ri fA):=by
 simp only [xS,aA3,zd,zr];try simp only [evs,tys]
 refine zC rfl fun b _ => ?_;try simp only [zes,evs,tys]
 exact zR
theorem aNx {a r} (h:xS a=some r):aHw a=some r:=zV sN (aNw a) Tryz.func182 (aQo _ _ a) h
abbrev nT:List Sh:=[.str,(.ptr 0 2 0),(.ptr 0 4 0),.bool,n6,.str,.str,st',st',sf,sf]
def aHR (O:Orc) (e:LBs):bO:=fun a c=>cnd (chkL nT a) (cnd (chkU [] c)
 (cnd (decide ((iv a 4)<(List.length (ev a 10):Int)))
 (bnd (ix 4 (zs a 10) (zn a 4)) fun d=>cnd (chk (.ref gP) d)
 (cnd ((sv (rf d) 0)==(sv a 0))
 (bnd (ix 4 (zs a 10) (zn a 4)) fun b=>cnd (chk (.ref gP) b)
 (some (.ret,(pu (pu (pu (pu (pu (rb nT a) 3 (.bool true)) 5 (zt (rf b) 0)) 6 (zt (rf b) 1)) 7 (zs (rf b) 2)) 8 (zs (rf b) 3)),[])) none)
 (some (.nrm,(pu (rb nT a) 4 (i6 (w6 ((iv a 4)+1)))),[]))) none)
 (some (.brk 0,(rb nT a),[]))) none) none
def aHS (O:Orc) (c:LBs) (d:GDoc) (b:Str):Option (PV×UP) :=
 bnd (c (aHR O c) [(.str b),(.ptr 0 2 0),(.ptr 0 4 0),(.bool false),(i6 0),(.str []),(.str []),(.slice [] [] true),(.slice [] [] true),(zq aR d.ops),(zq aH d.frags)] []) fun a =>
 exIs a.1 (some 0) (cnd (chkL nT a.2.1) (cnd (chkU [] a.2.2)
 (some ((.tuple [(.agg [(.str []),(.str []),(.slice [] [] false),(.slice [] [] false)]),(.bool false)]),[])) none) none)
 (exIs a.1 none (cnd (chkL [.str,(.ptr 0 2 0),(.ptr 0 4 0),.bool,n6,.str,.str,sf,sf,sf,sf] a.2.1) (cnd (chkU [] a.2.2)
 (some ((.tuple [(.agg [(zt a.2.1 5),(zt a.2.1 6),(zs a.2.1 7),(zs a.2.1 8)]),(zb a.2.1 3)]),[])) none) none)
 (none))
def rK (d:GDoc) (c:Str):Int->Option (Int⊕(Unit⊕(Str×Str×(List GDir)×(List GSel))))
 | b =>
 cnd (decide (b<(List.length d.frags:Int)))
  (bnd (nthI d.frags b) fun e =>
  cnd (e.name==c)
  (bnd (nthI d.frags b) fun a =>
  some (.inr (.inr (a.name,a.on_,a.dirs,a.sels))))
  (some (.inl (IntKind.wrap .i64 (b+1)))))
  (some (.inr (.inl ())))
abbrev aWE (d:GDoc) (a:Str) (st:Int) (l:List PV) (u:UP):Prop:=l=[(.str a),(.ptr 0 2 0),(.ptr 0 4 0),(.bool false),(i6 st),(.str []),(.str []),(.slice [] [] true),(.slice [] [] true),(zq aR d.ops),(zq aH d.frags)]/\u=[]
abbrev aWF (d:GDoc) (a:Str) (p:Unit⊕(Str×Str×(List GDir)×(List GSel))) (r:EU):Prop:=elim p (fun (p:Unit)=>∃ (c:Int),r=(Ex.brk 0,[(.str a),(.ptr 0 2 0),(.ptr 0 4 0),(.bool false),(i6 c),(.str []),(.str []),(.slice [] [] true),(.slice [] [] true),(zq aR d.ops),(zq aH d.frags)],[])) (fun e=>(fun (p:Str×Str×(List GDir)×(List GSel))=>∃ (b:Int),r=(Ex.ret,[(.str a),(.ptr 0 2 0),(.ptr 0 4 0),(.bool true),(i6 b),(.str p.1),(.str p.2.1),(zq aI p.2.2.1),(zq aF p.2.2.2),(zq aR d.ops),(zq aH d.frags)],[])) e)
def aGG (d:GDoc) (c:Str):Option (GFrag×Bool) :=
 bnd (aX (rK d c) 0) fun b=>elim b
 (fun a =>
 some ((GFrag.mk [] [] ([]:List GDir) ([]:List GSel)),false))
 (fun a =>
 some ((GFrag.mk a.1 a.2.1 a.2.2.1 a.2.2.2),true))
def bAL:Decs:={decs:=[(17,(.ref gP)),(25,(.ref gP))],loops:=[(2,[(4,4),(2,2)],⟨nT,[],[(some 0,nT,[]),(none,[.str,(.ptr 0 2 0),(.ptr 0 4 0),.bool,n6,.str,.str,sf,sf,sf,sf],[])]⟩)]}
theorem bAM O b d (a:Str):eW 113 bAL Tryz.f113 O b [(eD d),(.str a)] []=aHS O b d a:=by kernel_rfl
theorem aQp d a:Lok (aWE d a) (rK d a) (aHR O aG) (aWF d a):=by
 rintro b l u ⟨rfl,rfl⟩;simp only [rK,aHR,zd,zr];refine zG ?_;try simp only [evs,tys]
 apply Imp.cnd
 ·refine zX aH lG fun e _ => ?_;try simp only [evs,tys]
  apply Imp.cnd
  ·refine zX aH lG fun c _ => ?_;try simp only [evs,tys]
   exact zT ⟨b,zE⟩
  ·exact zN
 ·exact zB ⟨b,zE⟩
theorem aWG d a:Imp (aGG d a) (aHS O aG d a) (Ri lN):=by
 simp only [aGG,aHS,zd,zr];try simp only [evs,tys]
 refine zL (aQp d a) ?_;rintro (p | ⟨h,g,j,i⟩) c b
 ·try simp only [aO,aP]
  obtain ⟨f,rfl⟩:=b;refine zH ?_;try simp only [evs,tys]
  exact zR
 ·try simp only [aO,aP]
  obtain ⟨e,rfl⟩:=b;refine Imp.exMiss rfl ?_;refine zH ?_;try simp only [evs,tys]
  exact zR
theorem aWH {d a r} (h:aGG d a=some r):aPN d a=some r:=zV aIK (aWG d a) Tryz.func113 (bAM _ _ d a) h
def aA4 (O:Orc) (n:LBs):bO:=fun a m=>cnd (chkL [sf,st',n6] a) (cnd (chkU [] m)
 (cnd (decide ((iv a 2)<(List.length (ev a 0):Int)))
 (bnd (ix 7 (zs a 0) (zn a 2)) fun j=>cnd (chk (.ref mB) j)
 (cnd ((iv (rf j) 0)==1)
 (bnd (ix 7 (zs a 0) (zn a 2)) fun k=>cnd (chk (.ref mB) k)
 (aQ O 29 [(zs a 1),(zt (rf k) 2)] fun i=>cnd (chk .bool i)
 (cnd (!(bM i))
 (bnd (ix 7 (zs a 0) (zn a 2)) fun g=>cnd (chk (.ref mB) g)
 (bnd (apd 1 (zo a 1) (.slice [(zt (rf g) 2)] [] true)) fun c=>cnd (chk st' c)
 (bnd (ix 7 (zs a 0) (zn a 2)) fun l=>cnd (chk (.ref mB) l)
 (aQ O 183 [(zs (rf l) 6),(.slice (esV c) [] true)] fun b=>cnd (chk st' b)
 (some (.nrm,[(zs a 0),(.slice (esV b) [] true),(i6 (w6 ((iv a 2)+1)))],[])) none) none) none) none)
 (bnd (ix 7 (zs a 0) (zn a 2)) fun f=>cnd (chk (.ref mB) f)
 (aQ O 183 [(zs (rf f) 6),(zo a 1)] fun h=>cnd (chk st' h)
 (some (.nrm,[(zs a 0),(.slice (esV h) [] true),(i6 (w6 ((iv a 2)+1)))],[])) none) none)) none) none)
 (bnd (ix 7 (zs a 0) (zn a 2)) fun e=>cnd (chk (.ref mB) e)
 (aQ O 183 [(zs (rf e) 6),(zo a 1)] fun d=>cnd (chk st' d)
 (some (.nrm,[(zs a 0),(.slice (esV d) [] true),(i6 (w6 ((iv a 2)+1)))],[])) none) none)) none)
 (some (.brk 0,[(zs a 0),(zo a 1),(zn a 2)],[]))) none) none
def aA5 (O:Orc) (c:LBs) (d:List GSel) (b:List Str):Option (PV×UP) :=
 bnd (c (aA4 O c) [(zq aF d),(zp PV.str b),(i6 0)] []) fun a =>
 exIs a.1 (some 0) (cnd (chkL [sf,st',n6] a.2.1) (cnd (chkU [] a.2.2)
 (some ((zo a.2.1 1),[])) none) none)
 (none)
def iQ (c:List GSel):((List Str)×Int)->Option (((List Str)×Int)⊕((List Str)))
 | (b,a) =>
 cnd (decide (a<(List.length c:Int)))
  (bnd (nthI c a) fun l =>
  cnd (l.kind==1)
  (bnd (nthI c a) fun d =>
  bnd (xJ b d.name) fun e =>
  cnd (!e)
   (bnd (nthI c a) fun g =>
   bnd (tapp b [g.name]) fun j =>
   bnd (nthI c a) fun k =>
   bnd (mD k.sels j) fun f =>
   some (.inl (f,(IntKind.wrap .i64 (a+1)))))
   (bnd (nthI c a) fun i =>
   bnd (mD i.sels b) fun n =>
   some (.inl (n,(IntKind.wrap .i64 (a+1))))))
  (bnd (nthI c a) fun h =>
  bnd (mD h.sels b) fun m =>
  some (.inl (m,(IntKind.wrap .i64 (a+1))))))
  (some (.inr b))
abbrev aNy (a:List GSel) (st:(List Str)×Int) (l:List PV) (u:UP):Prop:=l=[(zq aF a),(zp PV.str st.1),(i6 st.2)]/\u=[]
abbrev aNz (b:List GSel) (p:(List Str)) (r:EU):Prop:=(fun (p:(List Str))=>∃ (a:Int),r=(Ex.brk 0,[(zq aF b),(zp PV.str p),(i6 a)],[])) p
def sV (c:List GSel) (b:List Str):Option (List Str) :=
 bnd (aX (iQ c) (b,0)) fun a =>
 some a
def aQq:Decs:={decs:=[(14,(.ref mB)),(22,(.ref mB)),(25,.bool),(31,(.ref mB)),(35,st'),(38,(.ref mB)),(42,st')],loops:=[(2,[],⟨[sf,st',n6],[],[(some 0,[sf,st',n6],[])]⟩)]}
theorem aQr O b c (a:List Str):eW 183 aQq Tryz.f183 O b [(zq aF c),(zp PV.str a)] []=aA5 O b c a:=by kernel_rfl
theorem aJt d:Lok (aNy d) (iQ d) (aA4 O aG) (aNz d):=by
 rintro ⟨c,b⟩ l u ⟨rfl,rfl⟩;simp only [iQ,aA4,zd,zr];refine zG ?_;try simp only [evs,tys]
 apply Imp.cnd
 ·refine zX aF gN fun q _ => ?_;try simp only [evs,tys]
  apply Imp.cnd
  ·refine zX aF gN fun g _ => ?_;try simp only [evs,tys]
   refine zC rfl fun i _ => ?_;try simp only [zes,evs,tys]
   apply Imp.cnd
   ·refine zX aF gN fun k _ => ?_;try simp only [evs,tys]
    refine Imp.op (f:=fun a => .slice (List.map PV.str a) [] true) (fun a h=>uA (enc:=PV.str) zI zI (fun a=>by first | rfl | simp only [evs,tys,evc]) h) (fun a=>rfl) fun o e => ?_;try simp only [evs,tys]
    refine zX aF gN fun p _ => ?_;try simp only [evs,tys]
    refine zC rfl fun j _ => ?_;try simp only [zes,evs,tys]
    exact zN
   ·refine zX aF gN fun n _ => ?_;try simp only [evs,tys]
    refine zC rfl fun s _ => ?_;try simp only [zes,evs,tys]
    exact zN
  ·refine zX aF gN fun m _ => ?_;try simp only [evs,tys]
   refine zC rfl fun r _ => ?_;try simp only [zes,evs,tys]
   exact zN
 ·exact zB ⟨b,zE⟩
theorem aNA c a:Imp (sV c a) (aA5 O aG c a) (Ri fA):=by
 simp only [sV,aA5,zd,zr];try simp only [evs,tys]
 refine zL (aJt c) ?_;rintro b _ ⟨d,rfl⟩;refine zH ?_;try simp only [evs,tys]
 exact zR
theorem aEs {b a r} (h:sV b a=some r):mD b a=some r:=zV sN (aNA b a) Tryz.func183 (aQr _ _ b a) h
def wJ (O:Orc) (b:LBs) (t:GType):Option (PV×UP) :=
 aQ O 98 [(.str t.name)] fun a=>cnd (chk .bool a)
 (cnd (bM a)
 (cnd (decide (t.lists≥0))
 (cnd (decide (t.lists<=4))
 (cnd (decide (t.musts≥0))
 (bnd (bin .shl (i6 2) (.int .u64 (IntKind.wrap .u64 t.lists))) fun x3=>cnd (chk n6 x3)
 (some ((.bool (decide (t.musts<(intV x3)))),[])) none)
 (some ((.bool false),[])))
 (some ((.bool false),[])))
 (some ((.bool false),[])))
 (some ((.bool false),[]))) none
def sA (t:GType):Option Bool :=
 bnd (aVM t.name) fun b =>
 cnd b
 (cnd (decide (t.lists≥0))
 (cnd (decide (t.lists<=4))
 (cnd (decide (t.musts≥0))
 (bnd (tshl .i64 2 (IntKind.wrap .u64 t.lists)) fun a =>
 some (decide (t.musts<a)))
 (some false))
 (some false))
 (some false))
 (some false)
def aLP:Decs:={decs:=[(5,.bool),(27,n6)]}
theorem aLQ O a t:eW 101 aLP Tryz.f101 O a [(eT t)] []=wJ O a t:=by kernel_rfl
theorem aJu t:Imp (sA t) (wJ O aG t) (Ri aA):=by
 simp only [sA,wJ,zd,zr];try simp only [evs,tys]
 refine zC rfl fun d _ => ?_;try simp only [zes,evs,tys]
 apply Imp.cnd
 ·apply Imp.cnd
  ·apply Imp.cnd
   ·apply Imp.cnd
    ·refine Imp.op (f:=fun a => .int _ a) (fun a h=>bIR h) (fun a=>rfl) fun c b => ?_;try simp only [evs,tys]
     exact zR
    ·exact zR
   ·exact zR
  ·exact zR
 ·exact zR
theorem aJv {t r} (h:sA t=some r):sO t=some r:=zV aE (aJu t) Tryz.func101 (aLQ _ _ t) h
def aHT (O:Orc) (b:LBs) (t:GType):Option (PV×UP) :=
 aQ O 101 [(eT t)] fun a=>cnd (chk .bool a)
 (cnd (!(bM a))
 (some ((.tuple [(.agg [(.str []),(i6 0),(i6 0)]),(.bool false)]),[]))
 (cnd (t.lists==0)
 (some ((.tuple [(.agg [(.str []),(i6 0),(i6 0)]),(.bool false)]),[]))
 (some ((.tuple [(.agg [(.str t.name),(i6 (w6 (t.lists-1))),(i6 (Int.fdiv t.musts (2 ^ min (Int.toNat 1) 64)))]),(.bool true)]),[])))) none
def aGH (t:GType):Option (GType×Bool) :=
 bnd (sO t) fun a =>
 cnd (!a)
 (some ((GType.mk [] 0 0),false))
 (cnd (t.lists==0)
 (some ((GType.mk [] 0 0),false))
 (some ((GType.mk t.name (IntKind.wrap .i64 (t.lists-1)) (Int.fdiv t.musts (2 ^ min (Int.toNat 1) 64))),true)))
def bAN:Decs:={decs:=[(5,.bool)]}
theorem bAO O a t:eW 224 bAN Tryz.f224 O a [(eT t)] []=aHT O a t:=by kernel_rfl
theorem aWI t:Imp (aGH t) (aHT O aG t) (Ri aDE):=by
 simp only [aGH,aHT,zd,zr];try simp only [evs,tys]
 refine zC rfl fun a _ => ?_;try simp only [zes,evs,tys]
 apply Imp.cnd;·exact zR
 ·apply Imp.cnd;·exact zR
  ·exact zR
theorem aWJ {t r} (h:aGH t=some r):aVK t=some r:=zV bDj (aWI t) Tryz.func224 (bAO _ _ t) h
abbrev nU:List Sh:=[.str,(.ptr 0 2 0),(.ptr 0 4 0),.bool,n6,n6,.str,st',st',st',st',sf,.str,.str]
def aHU (O:Orc) (e:LBs):bO:=fun b c=>cnd (chkL nU b) (cnd (chkU [] c)
 (cnd (decide ((iv b 4)<(List.length (ev b 11):Int)))
 (bnd (ix 6 (zs b 11) (zn b 4)) fun d=>cnd (chk (.ref vS) d)
 (cnd ((sv (rf d) 1)==(sv b 0))
 (bnd (ix 6 (zs b 11) (zn b 4)) fun a=>cnd (chk (.ref vS) a)
 (some (.ret,(pu (pu (pu (pu (pu (pu (pu (rb nU b) 3 (.bool true)) 5 (zn (rf a) 0)) 6 (zt (rf a) 1)) 7 (zs (rf a) 2)) 8 (zs (rf a) 3)) 9 (zs (rf a) 4)) 10 (zs (rf a) 5)),[])) none)
 (some (.nrm,(pu (rb nU b) 4 (i6 (w6 ((iv b 4)+1)))),[]))) none)
 (some (.brk 0,(rb nU b),[]))) none) none
def aHV (O:Orc) (d:LBs) (s:GSchema) (b:Str):Option (PV×UP) :=
 aQ O 156 [(.str b)] fun c=>cnd (chk .bool c)
 (cnd (bM c)
 (some ((.tuple [(.agg [(i6 0),(.str b),(.slice [] [] false),(.slice [] [] false),(.slice [] [] false),(.slice [] [] false)]),(.bool true)]),[]))
 (bnd (d (aHU O d) [(.str b),(.ptr 0 2 0),(.ptr 0 4 0),(.bool false),(i6 0),(i6 0),(.str []),(.slice [] [] true),(.slice [] [] true),(.slice [] [] true),(.slice [] [] true),(zq aL s.defs),(.str s.query),(.str s.mutation)] []) fun a =>
 exIs a.1 (some 0) (cnd (chkL nU a.2.1) (cnd (chkU [] a.2.2)
 (some ((.tuple [(.agg [(i6 0),(.str []),(.slice [] [] false),(.slice [] [] false),(.slice [] [] false),(.slice [] [] false)]),(.bool false)]),[])) none) none)
 (exIs a.1 none (cnd (chkL [.str,(.ptr 0 2 0),(.ptr 0 4 0),.bool,n6,n6,.str,sf,sf,sf,sf,sf,.str,.str] a.2.1) (cnd (chkU [] a.2.2)
 (some ((.tuple [(.agg [(zn a.2.1 5),(zt a.2.1 6),(zs a.2.1 7),(zs a.2.1 8),(zs a.2.1 9),(zs a.2.1 10)]),(zb a.2.1 3)]),[])) none) none)
 (none)))) none
def rL (s:GSchema) (c:Str):Int->Option (Int⊕(Unit⊕(Int×Str×(List Str)×(List GFieldDef)×(List Str)×(List GParam))))
 | b =>
 cnd (decide (b<(List.length s.defs:Int)))
  (bnd (nthI s.defs b) fun d =>
  cnd (d.name==c)
  (bnd (nthI s.defs b) fun a =>
  some (.inr (.inr (a.kind,a.name,a.faces,a.fields,a.parts,a.params))))
  (some (.inl (IntKind.wrap .i64 (b+1)))))
  (some (.inr (.inl ())))
abbrev aFz (s:GSchema) (a:Str) (d f g e i c b h:PV):List PV:=[(.str a),(.ptr 0 2 0),(.ptr 0 4 0),d,f,g,e,i,c,b,h,(zq aL s.defs),(.str s.query),(.str s.mutation)]
abbrev aWK (s:GSchema) (a:Str) (st:Int) (l:List PV) (u:UP):Prop:=l=(aFz s a (.bool false) (i6 st) (i6 0) (.str []) (.slice [] [] true) (.slice [] [] true) (.slice [] [] true) (.slice [] [] true))/\u=[]
abbrev aWL (s:GSchema) (a:Str) (p:Unit⊕(Int×Str×(List Str)×(List GFieldDef)×(List Str)×(List GParam))) (r:EU):Prop:=elim p (fun (p:Unit)=>∃ (b:Int),r=(Ex.brk 0,(aFz s a (.bool false) (i6 b) (i6 0) (.str []) (.slice [] [] true) (.slice [] [] true) (.slice [] [] true) (.slice [] [] true)),[])) (fun (p:Int×Str×(List Str)×(List GFieldDef)×(List Str)×(List GParam))=>∃ (c:Int),r=(Ex.ret,(aFz s a (.bool true) (i6 c) (i6 p.1) (.str p.2.1) (zq PV.str p.2.2.1) (zq bL p.2.2.2.1) (zq PV.str p.2.2.2.2.1) (zq bB p.2.2.2.2.2)),[]))
def aGI (s:GSchema) (b:Str):Option (GDef×Bool) :=
 bnd (aLg b) fun d =>
 cnd d
 (some ((GDef.mk 0 b ([]:List Str) ([]:List GFieldDef) ([]:List Str) ([]:List GParam)),true))
 (bnd (aX (rL s b) 0) fun c=>elim c
 (fun a =>
 some ((GDef.mk 0 [] ([]:List Str) ([]:List GFieldDef) ([]:List Str) ([]:List GParam)),false))
 (fun a =>
 some ((GDef.mk a.1 a.2.1 a.2.2.1 a.2.2.2.1 a.2.2.2.2.1 a.2.2.2.2.2),true)))
def bAP:Decs:={decs:=[(8,.bool),(21,(.ref vS)),(29,(.ref vS))],loops:=[(4,[(4,6),(2,3)],⟨nU,[],[(some 0,nU,[]),(none,[.str,(.ptr 0 2 0),(.ptr 0 4 0),.bool,n6,n6,.str,sf,sf,sf,sf,sf,.str,.str],[])]⟩)]}
theorem bAQ O b s (a:Str):eW 164 bAP Tryz.f164 O b [(eS s),(.str a)] []=aHV O b s a:=by kernel_rfl
theorem aQs s a:Lok (aWK s a) (rL s a) (aHU O aG) (aWL s a):=by
 rintro b l u ⟨rfl,rfl⟩;simp only [rL,aHU,zd,zr];refine zG ?_;try simp only [evs,tys]
 apply Imp.cnd
 ·refine zX aL aDy fun c _ => ?_;try simp only [evs,tys]
  apply Imp.cnd
  ·refine zX aL aDy fun d _ => ?_;try simp only [evs,tys]
   exact zT ⟨b,zE⟩
  ·exact zN
 ·exact zB ⟨b,zE⟩
theorem aWM s a:Imp (aGI s a) (aHV O aG s a) (Ri xM):=by
 simp only [aGI,aHV,zd,zr];try simp only [evs,tys]
 refine zC rfl fun l _ => ?_;try simp only [zes,evs,tys]
 apply Imp.cnd;·exact zR
 ·refine zL (aQs s a) ?_;rintro (p | ⟨j,e,d,k,f,i⟩) h b
  ·try simp only [aO,aP]
   obtain ⟨c,rfl⟩:=b;refine zH ?_;try simp only [evs,tys]
   exact zR
  ·try simp only [aO,aP]
   obtain ⟨g,rfl⟩:=b;refine Imp.exMiss rfl ?_;refine zH ?_;try simp only [evs,tys]
   exact zR
theorem aWN {s a r} (h:aGI s a=some r):aAN s a=some r:=zV aSx (aWM s a) Tryz.func164 (bAQ _ _ s a) h
abbrev lT:List Sh:=[sf,sf,(.ptr 0 3 0),.bool,n6,n6,.str,.str,n6,n6,.bool,n6,n6,.str,sf,sf,sf,.str,.str]
def aFA (O:Orc) (e:LBs):bO:=fun a c=>cnd (chkL lT a) (cnd (chkU [] c)
 (cnd (decide ((iv a 5)<(iv a 4)))
 (bnd (ix 6 (zs a 1) (zn a 5)) fun b=>cnd (chk (.ref dA) b)
 (bnd (ix 6 (zs a 1) (zn a 4)) fun d=>cnd (chk (.ref dA) d)
 (cnd ((sv (rf b) 0)==(sv (rf d) 0))
 (some (.ret,(pu (rb lT a) 3 (.bool false)),[]))
 (some (.nrm,(pu (rb lT a) 5 (i6 (w6 ((iv a 5)+1)))),[]))) none) none)
 (some (.brk 2,(rb lT a),[]))) none) none
abbrev iJ:List Sh:=[sf,sf,(.ptr 0 3 0),.bool,n6,sf,.str,.str]
def aFB (O:Orc) (h:LBs):bO:=fun c g=>cnd (chkL iJ c) (cnd (chkU [] g)
 (cnd (decide ((iv c 4)<(List.length (ev c 1):Int)))
 (bnd (ix 6 (zs c 1) (zn c 4)) fun e=>cnd (chk (.ref dA) e)
 (aQ O 193 [(zs c 0),(zt (rf e) 0)] fun b=>cnd (chk (.tup [mN,.bool]) b)
 (cnd (!(bM (tv b 1)))
 (some (.ret,(pu (rb iJ c) 3 (.bool false)),[]))
 (bnd (ix 6 (zs c 1) (zn c 4)) fun d=>cnd (chk (.ref dA) d)
 (aQ O 192 [(.agg [(zs c 5),(zt c 6),(zt c 7)]),(.agg [(zt (tg b 0) 1),(zn (tg b 0) 2),(zn (tg b 0) 3)]),(.agg [(zn (rf d) 1),(zn (rf d) 2),(zt (rf d) 3),(zs (rf d) 4),(zs (rf d) 5)]),(.bool true)] fun f=>cnd (chk .bool f)
 (cnd (!(bM f))
 (some (.ret,(pu (rb iJ c) 3 (.bool false)),[]))
 (bnd (h (aFA O h) [(zs c 0),(zs c 1),(.ptr 0 3 0),(zb c 3),(zn c 4),(i6 0),(zt (tg b 0) 0),(zt (tg b 0) 1),(zn (tg b 0) 2),(zn (tg b 0) 3),(zb (tg b 0) 4),(zn (tg b 0) 5),(zn (tg b 0) 6),(zt (tg b 0) 7),(zs (tg b 0) 8),(zs (tg b 0) 9),(zs c 5),(zt c 6),(zt c 7)] []) fun a =>
 exIs a.1 (some 2) (cnd (chkL [sf,sf,(.ptr 0 3 0),.bool,n6,n6,.str,.str,n6,n6,.bool,n6,n6,.str,sf,sf,sf,.str,.str] a.2.1) (cnd (chkU [] a.2.2)
 (some (.nrm,[(zs a.2.1 0),(zs a.2.1 1),(.ptr 0 3 0),(zb a.2.1 3),(i6 (w6 ((iv a.2.1 4)+1))),(zs a.2.1 16),(zt a.2.1 17),(zt a.2.1 18)],[])) none) none)
 (exIs a.1 none (cnd (chkL [sf,sf,(.ptr 0 3 0),.bool,n6,n6,.str,.str,n6,n6,.bool,n6,n6,.str,sf,sf,sf,.str,.str] a.2.1) (cnd (chkU [] a.2.2)
 (some (.ret,[(zs a.2.1 0),(zs a.2.1 1),(.ptr 0 3 0),(zb a.2.1 3),(zn a.2.1 4),(zs a.2.1 16),(zt a.2.1 17),(zt a.2.1 18)],[])) none) none)
 (none)))) none) none)) none) none)
 (some (.brk 0,(rb iJ c),[]))) none) none
abbrev eX:List Sh:=[sf,sf,.bool,n6,sf,.str,.str]
def aFC (O:Orc) (h:LBs):bO:=fun a g=>cnd (chkL eX a) (cnd (chkU [] g)
 (cnd (decide ((iv a 3)<(List.length (ev a 0):Int)))
 (bnd (ix 10 (zs a 0) (zn a 3)) fun c=>cnd (chk (.ref mN) c)
 (aQ O 219 [(zt (rf c) 0),(zs a 1)] fun f=>cnd (chk (.tup [mM,.bool]) f)
 (cnd (!(bM (tv f 1)))
 (bnd (ix 10 (zs a 0) (zn a 3)) fun b=>cnd (chk (.ref mN) b)
 (aQ O 195 [(.agg [(zt (rf b) 1),(zn (rf b) 2),(zn (rf b) 3)])] fun e=>cnd (chk .bool e)
 (cnd (bM e)
 (bnd (ix 10 (zs a 0) (zn a 3)) fun d=>cnd (chk (.ref mN) d)
 (cnd (!(bv (rf d) 4))
 (some (.ret,(pu (rb eX a) 2 (.bool false)),[]))
 (some (.nrm,(pu (rb eX a) 3 (i6 (w6 ((iv a 3)+1)))),[]))) none)
 (some (.nrm,(pu (rb eX a) 3 (i6 (w6 ((iv a 3)+1)))),[]))) none) none)
 (some (.nrm,(pu (rb eX a) 3 (i6 (w6 ((iv a 3)+1)))),[]))) none) none)
 (some (.brk 4,(rb eX a),[]))) none) none
def aFD (O:Orc) (c:LBs) (s:GSchema) (d:List GParam) (m:List GMember):Option (PV×UP) :=
 bnd (c (aFB O c) [(zq bB d),(zq aD m),(.ptr 0 3 0),(.bool false),(i6 0),(zq aL s.defs),(.str s.query),(.str s.mutation)] []) fun a =>
 exIs a.1 (some 0) (cnd (chkL iJ a.2.1) (cnd (chkU [] a.2.2)
 (bnd (c (aFC O c) [(zs a.2.1 0),(zs a.2.1 1),(zb a.2.1 3),(i6 0),(zs a.2.1 5),(zt a.2.1 6),(zt a.2.1 7)] []) fun b =>
 exIs b.1 (some 4) (cnd (chkL eX b.2.1) (cnd (chkU [] b.2.2)
 (some ((.bool true),[])) none) none)
 (exIs b.1 none (cnd (chkL eX b.2.1) (cnd (chkU [] b.2.2)
 (some ((zb b.2.1 2),[])) none) none)
 (none))) none) none)
 (exIs a.1 none (cnd (chkL iJ a.2.1) (cnd (chkU [] a.2.2)
 (some ((zb a.2.1 3),[])) none) none)
 (none))
def aCO (m:List GMember) (b:Int):Int->Option (Int⊕(Unit⊕Unit))
 | a =>
 cnd (decide (a<b))
  (bnd (nthI m a) fun d =>
  bnd (nthI m b) fun c =>
  cnd (d.name==c.name)
  (some (.inr (.inr ())))
  (some (.inl (IntKind.wrap .i64 (a+1)))))
  (some (.inr (.inl ())))
abbrev aCP (s:GSchema) (d:List GParam) (m:List GMember) (b:Int) (a:GParam×Bool) (c:PV):List PV:=[(zq bB d),(zq aD m),(.ptr 0 3 0),(.bool false),(i6 b),c,(.str a.1.name),(.str a.1.t.name),(i6 a.1.t.lists),(i6 a.1.t.musts),(.bool a.1.has),(i6 a.1.default.kind),(i6 a.1.default.n),(.str a.1.default.s),(zq aJ a.1.default.l),(zq aD a.1.default.m),(zq aL s.defs),(.str s.query),(.str s.mutation)]
abbrev aIU (s:GSchema) (c:List GParam) (m:List GMember) (a:Int) (b:GParam×Bool) (st:Int) (l:List PV) (u:UP):Prop:=l=(aCP s c m a b (i6 st))/\u=[]
abbrev aTm (s:GSchema) (e:List GParam) (m:List GMember) (a:Int) (c:GParam×Bool) (p:Unit⊕Unit) (r:EU):Prop:=elim p (fun (p:Unit)=>∃ (d:Int),r=(Ex.brk 2,(aCP s e m a c (i6 d)),[])) (fun (p:Unit)=>∃ (b:Int),r=(Ex.ret,(aCP s e m a c (i6 b)),[]))
def aCQ (s:GSchema) (h:List GParam) (m:List GMember):Int->Option (Int⊕(Unit⊕Unit))
 | a =>
 cnd (decide (a<(List.length m:Int)))
  (bnd (nthI m a) fun e =>
  bnd (aPQ h e.name) fun c =>
  cnd (!c.2)
  (some (.inr (.inr ())))
  (bnd (nthI m a) fun d =>
  bnd (xK s c.1.t d.v true) fun g =>
  cnd (!g)
   (some (.inr (.inr ())))
   (bnd (aX (aCO m a) 0) fun b=>elim b
   (fun f =>
   some (.inl (IntKind.wrap .i64 (a+1))))
   (fun f =>
   some (.inr (.inr ()))))))
  (some (.inr (.inl ())))
abbrev aCR (s:GSchema) (b:List GParam) (m:List GMember) (a:PV):List PV:=[(zq bB b),(zq aD m),(.ptr 0 3 0),(.bool false),a,(zq aL s.defs),(.str s.query),(.str s.mutation)]
abbrev aTn (s:GSchema) (a:List GParam) (m:List GMember) (st:Int) (l:List PV) (u:UP):Prop:=l=(aCR s a m (i6 st))/\u=[]
abbrev aTo (s:GSchema) (c:List GParam) (m:List GMember) (p:Unit⊕Unit) (r:EU):Prop:=elim p (fun (p:Unit)=>∃ (b:Int),r=(Ex.brk 0,(aCR s c m (i6 b)),[])) (fun (p:Unit)=>∃ (a:Int),r=(Ex.ret,(aCR s c m (i6 a)),[]))
def aCS (b:List GParam) (m:List GMember):Int->Option (Int⊕(Unit⊕Unit))
 | a =>
 cnd (decide (a<(List.length b:Int)))
  (bnd (nthI b a) fun f =>
  bnd (aYJ f.name m) fun e =>
  cnd (!e.2)
  (bnd (nthI b a) fun d =>
  bnd (bHR d.t) fun c =>
  cnd c
   (bnd (nthI b a) fun g =>
   cnd (!g.has)
   (some (.inr (.inr ())))
   (some (.inl (IntKind.wrap .i64 (a+1)))))
   (some (.inl (IntKind.wrap .i64 (a+1)))))
  (some (.inl (IntKind.wrap .i64 (a+1)))))
  (some (.inr (.inl ())))
abbrev aCT (s:GSchema) (b:List GParam) (m:List GMember) (a:PV):List PV:=[(zq bB b),(zq aD m),(.bool false),a,(zq aL s.defs),(.str s.query),(.str s.mutation)]
abbrev aIV (s:GSchema) (a:List GParam) (m:List GMember) (st:Int) (l:List PV) (u:UP):Prop:=l=(aCT s a m (i6 st))/\u=[]
abbrev aTp (s:GSchema) (c:List GParam) (m:List GMember) (p:Unit⊕Unit) (r:EU):Prop:=elim p (fun (p:Unit)=>∃ (a:Int),r=(Ex.brk 4,(aCT s c m (i6 a)),[])) (fun (p:Unit)=>∃ (b:Int),r=(Ex.ret,(aCT s c m (i6 b)),[]))
def aDP (s:GSchema) (e:List GParam) (m:List GMember):Option Bool :=
 bnd (aX (aCQ s e m) 0) fun a=>elim a
 (fun c =>
 bnd (aX (aCS e m) 0) fun b=>elim b
 (fun d =>
 some true)
 (fun d =>
 some false))
 (fun c =>
 some false)
def aWO:Decs:={decs:=[(24,(.ref dA)),(27,(.tup [mN,.bool])),(38,(.ref dA)),(41,.bool),(51,(.ref dA)),(56,(.ref dA)),(69,(.ref mN)),(73,(.tup [mM,.bool])),(81,(.ref mN)),(84,.bool),(89,(.ref mN))],loops:=[(2,[(3,3)],⟨iJ,[],[(some 0,iJ,[]),(none,iJ,[])]⟩),(8,[(8,10),(3,3)],⟨lT,[],[(some 2,lT,[]),(none,lT,[])]⟩),(13,[(3,3)],⟨eX,[],[(some 4,eX,[]),(none,eX,[])]⟩)]}
theorem aWP O a s b m:eW 225 aWO Tryz.f225 O a [(eS s),(zq bB b),(zq aD m)] []=aFD O a s b m:=by kernel_rfl
theorem aNB s d m a c:∀ st l u,aIU s d m a c st l u->Imp (aCO m a st) (aFA O aG l u) (oY (aIU s d m a c) (aTm s d m a c)):=by
 rintro b l u ⟨rfl,rfl⟩;simp only [aCO,aFA,zd,zr];refine zG ?_;try simp only [evs,tys]
 apply Imp.cnd
 ·refine zX aD eE fun f _ => ?_;try simp only [evs,tys]
  refine zX aD eE fun e _ => ?_;try simp only [evs,tys]
  apply Imp.cnd;·exact zT ⟨b,zE⟩
  ·exact zN
 ·exact zB ⟨b,zE⟩
theorem aNC s c m:Lok (aTn s c m) (aCQ s c m) (aFB O aG) (aTo s c m):=by
 rintro a l u ⟨rfl,rfl⟩;simp only [aCQ,aFB,zd,zr];refine zG ?_;try simp only [evs,tys]
 apply Imp.cnd
 ·refine zX aD eE fun i _ => ?_;try simp only [evs,tys]
  refine zC rfl fun d _ => ?_;try simp only [zes,evs,tys]
  apply Imp.cnd;·exact zT ⟨a,zE⟩
  ·refine zX aD eE fun h _ => ?_;try simp only [evs,tys]
   refine zC rfl fun j _ => ?_;try simp only [zes,evs,tys]
   apply Imp.cnd;·exact zT ⟨a,zE⟩
   ·refine zL (aNB s c m a d) ?_;rintro (p | p) e b
    ·try simp only [aO,aP]
     obtain ⟨g,rfl⟩:=b;refine zH ?_;try simp only [evs,tys]
     exact zN
    ·try simp only [aO,aP]
     obtain ⟨f,rfl⟩:=b;refine Imp.exMiss rfl ?_;refine zH ?_;try simp only [evs,tys]
     exact zT ⟨a,zE⟩
 ·exact zB ⟨a,zE⟩
theorem aND s b m:∀ st l u,aIV s b m st l u->Imp (aCS b m st) (aFC O aG l u) (oY (aIV s b m) (aTp s b m)):=by
 rintro a l u ⟨rfl,rfl⟩;simp only [aCS,aFC,zd,zr];refine zG ?_;try simp only [evs,tys]
 apply Imp.cnd
 ·refine zX bB rB fun f _ => ?_;try simp only [evs,tys]
  refine zC rfl fun e _ => ?_;try simp only [zes,evs,tys]
  apply Imp.cnd
  ·refine zX bB rB fun d _ => ?_;try simp only [evs,tys]
   refine zC rfl fun c _ => ?_;try simp only [zes,evs,tys]
   apply Imp.cnd
   ·refine zX bB rB fun g _ => ?_;try simp only [evs,tys]
    apply Imp.cnd;·exact zT ⟨a,zE⟩
    ·exact zN
   ·exact zN
  ·exact zN
 ·exact zB ⟨a,zE⟩
theorem aTq s c m:Imp (aDP s c m) (aFD O aG s c m) (Ri aA):=by
 simp only [aDP,aFD,zd,zr];try simp only [evs,tys]
 refine zL (aNC s c m) ?_;rintro (p | p) i a
 ·try simp only [aO,aP]
  obtain ⟨h,rfl⟩:=a;refine zH ?_;try simp only [evs,tys]
  refine zL (aND s c m) ?_;rintro (p | p) g b
  ·try simp only [aO,aP]
   obtain ⟨d,rfl⟩:=b;refine zH ?_;try simp only [evs,tys]
   exact zR
  ·try simp only [aO,aP]
   obtain ⟨e,rfl⟩:=b;refine Imp.exMiss rfl ?_;refine zH ?_;try simp only [evs,tys]
   exact zR
 ·try simp only [aO,aP]
  obtain ⟨f,rfl⟩:=a;refine Imp.exMiss rfl ?_;refine zH ?_;try simp only [evs,tys]
  exact zR
theorem aTr {s a m r} (h:aDP s a m=some r):aDF s a m=some r:=zV aE (aTq s a m) Tryz.func225 (aWP _ _ s a m) h
def aLR (O:Orc) (e:LBs):bO:=fun a b=>cnd (chkL [.str,n6,n6] a) (cnd (chkU [] b)
 (cnd (decide ((w6 ((iv a 1)+(iv a 2)))<(List.length (sv a 0):Int)))
 (bnd (yA (zt a 0) (i6 (w6 ((iv a 1)+(iv a 2))))) fun d=>cnd (chk (.int .u8) d)
 (aQ O 170 [(.int .u8 (intV d))] fun c=>cnd (chk .bool c)
 (cnd (bM c)
 (some (.nrm,[(zt a 0),(zn a 1),(i6 (w6 ((iv a 2)+1)))],[]))
 (some (.brk 0,[(zt a 0),(zn a 1),(zn a 2)],[]))) none) none)
 (some (.brk 0,[(zt a 0),(zn a 1),(zn a 2)],[]))) none) none
def aLS (O:Orc) (b:LBs) (s:Str) (i:Int):Option (PV×UP) :=
 bnd (b (aLR O b) [(.str s),(i6 i),(i6 0)] []) fun a =>
 exIs a.1 (some 0) (cnd (chkL [.str,n6,n6] a.2.1) (cnd (chkU [] a.2.2)
 (some ((zn a.2.1 2),[])) none) none)
 (none)
def aDQ (s:Str) (i:Int):Int->Option (Int⊕Int)
 | a =>
 cnd (decide ((IntKind.wrap .i64 (i+a))<(List.length s:Int)))
  (bnd (nthI s (IntKind.wrap .i64 (i+a))) fun c =>
  bnd (aJ0 (c.toNat:Int)) fun b =>
  cnd b
  (some (.inl (IntKind.wrap .i64 (a+1))))
  (some (.inr a)))
  (some (.inr a))
abbrev bAR (s:Str) (i:Int) (st:Int) (l:List PV) (u:UP):Prop:=l=[(.str s),(i6 i),(i6 st)]/\u=[]
abbrev bAS (s:Str) (i:Int) (p:Int) (r:EU):Prop:=(fun (p:Int)=>r=(Ex.brk 0,[(.str s),(i6 i),(i6 p)],[])) p
def aJ4 (s:Str) (i:Int):Option Int :=
 bnd (aX (aDQ s i) 0) fun a =>
 some a
def bDt:Decs:={decs:=[(17,(.int .u8)),(18,.bool)],loops:=[(2,[],⟨[.str,n6,n6],[],[(some 0,[.str,n6,n6],[])]⟩)]}
theorem bDu O a (s:Str) i:eW 250 bDt Tryz.f250 O a [(.str s),(i6 i)] []=aLS O a s i:=by kernel_rfl
theorem aTs s i:Lok (bAR s i) (aDQ s i) (aLR O aG) (bAS s i):=by
 rintro d l u ⟨rfl,rfl⟩;simp only [aDQ,aLR,zd,zr];refine zG ?_;try simp only [evs,tys]
 apply Imp.cnd
 ·refine Imp.op (f:=fun a => .int .u8 (a.toNat:Int)) (fun a h=>jP h) (fun a=>rfl) fun e c => ?_;try simp only [evs,tys]
  refine zC rfl fun b _ => ?_;try simp only [zes,evs,tys]
  apply Imp.cnd;·exact zN
  ·exact Imp.some (oY.brk zE)
 ·exact Imp.some (oY.brk zE)
theorem bAT s i:Imp (aJ4 s i) (aLS O aG s i) (Ri aZ):=by
 simp only [aJ4,aLS,zd,zr];try simp only [evs,tys]
 refine zL (aTs s i) ?_;rintro b c a;cases a;refine zH ?_;try simp only [evs,tys]
 exact zR
theorem bAU {s i r} (h:aJ4 s i=some r):aCt s i=some r:=zV iZ (bAT s i) Tryz.func250 (bDu _ _ s i) h
abbrev iR:List Sh:=[.str,n6,n6,n6,n6,n6,n6,n6]
def aHW (O:Orc) (d:LBs):bO:=fun a c=>cnd (chkL iR a) (cnd (chkU [] c)
 (cnd (decide ((iv a 7)<(iv a 5)))
 (bnd (yA (zt a 0) (i6 (w6 ((iv a 1)+(iv a 7))))) fun b=>cnd (chk (.int .u8) b)
 (cnd (decide ((w6 (intV b))<128))
 (some (.ret,(pu (pu (rb iR a) 2 (i6 0)) 3 (i6 0)),[]))
 (cnd (decide ((w6 (intV b))>191))
 (some (.ret,(pu (pu (rb iR a) 2 (i6 0)) 3 (i6 0)),[]))
 (some (.nrm,(pu (pu (rb iR a) 4 (i6 (bits .or .i64 (w6 ((iv a 4)*2 ^ min (Int.toNat 6) 64)) (bits .and .i64 (w6 (intV b)) 63)))) 7 (i6 (w6 ((iv a 7)+1)))),[])))) none)
 (some (.brk 1,(rb iR a),[]))) none) none
def aHX (O:Orc) (h:LBs) (s:Str) (i:Int):Option (PV×UP) :=
 cnd (decide (i<0))
 (some ((.tuple [(i6 0),(i6 0)]),[]))
 (cnd (decide (i≥(List.length s:Int)))
 (some ((.tuple [(i6 0),(i6 0)]),[]))
 (bnd (yA (.str s) (i6 i)) fun x2=>cnd (chk (.int .u8) x2)
 (cnd (decide ((w6 (intV x2))<128))
 (some ((.tuple [(i6 (w6 (intV x2))),(i6 1)]),[]))
 (jn (fun (e:Int) (d:Int) (b:Int) (j:Bool) (g:Bool) (f:Bool) =>
 (cnd (decide (d>(w6 ((List.length s:Int)-i))))
 (some ((.tuple [(i6 0),(i6 0)]),[]))
 (bnd (h (aHW O h) [(.str s),(i6 i),(i6 0),(i6 0),(i6 e),(i6 d),(i6 b),(i6 1)] []) fun a =>
 exIs a.1 (some 1) (cnd (chkL iR a.2.1) (cnd (chkU [] a.2.2)
 (cnd (decide ((iv a.2.1 4)<(iv a.2.1 6)))
 (some ((.tuple [(i6 0),(i6 0)]),[]))
 (cnd (decide ((iv a.2.1 4)>1114111))
 (some ((.tuple [(i6 0),(i6 0)]),[]))
 (cnd (decide ((iv a.2.1 4)≥55296))
 (cnd (decide ((iv a.2.1 4)<57344))
 (some ((.tuple [(i6 0),(i6 0)]),[]))
 (some ((.tuple [(zn a.2.1 4),(zn a.2.1 5)]),[])))
 (some ((.tuple [(zn a.2.1 4),(zn a.2.1 5)]),[]))))) none) none)
 (exIs a.1 none (cnd (chkL iR a.2.1) (cnd (chkU [] a.2.2)
 (some ((.tuple [(zn a.2.1 2),(zn a.2.1 3)]),[])) none) none)
 (none))))) fun c =>
 cnd (decide ((w6 (intV x2))≥194))
 (cnd (decide ((w6 (intV x2))<224))
 (c (bits .and .i64 (w6 (intV x2)) 31) 2 128 true true (decide ((w6 (intV x2))<224)))
 (cnd (decide ((w6 (intV x2))≥224))
 (cnd (decide ((w6 (intV x2))<240))
 (c (bits .and .i64 (w6 (intV x2)) 15) 3 2048 false true (decide ((w6 (intV x2))<224)))
 (cnd (decide ((w6 (intV x2))≥240))
 (cnd (decide ((w6 (intV x2))<245))
 (c (bits .and .i64 (w6 (intV x2)) 7) 4 65536 false true (decide ((w6 (intV x2))<224)))
 (some ((.tuple [(i6 0),(i6 0)]),[])))
 (some ((.tuple [(i6 0),(i6 0)]),[]))))
 (cnd (decide ((w6 (intV x2))≥240))
 (cnd (decide ((w6 (intV x2))<245))
 (c (bits .and .i64 (w6 (intV x2)) 7) 4 65536 false true (decide ((w6 (intV x2))<224)))
 (some ((.tuple [(i6 0),(i6 0)]),[])))
 (some ((.tuple [(i6 0),(i6 0)]),[])))))
 (cnd (decide ((w6 (intV x2))≥224))
 (cnd (decide ((w6 (intV x2))<240))
 (c (bits .and .i64 (w6 (intV x2)) 15) 3 2048 false false false)
 (cnd (decide ((w6 (intV x2))≥240))
 (cnd (decide ((w6 (intV x2))<245))
 (c (bits .and .i64 (w6 (intV x2)) 7) 4 65536 false false false)
 (some ((.tuple [(i6 0),(i6 0)]),[])))
 (some ((.tuple [(i6 0),(i6 0)]),[]))))
 (cnd (decide ((w6 (intV x2))≥240))
 (cnd (decide ((w6 (intV x2))<245))
 (c (bits .and .i64 (w6 (intV x2)) 7) 4 65536 false false false)
 (some ((.tuple [(i6 0),(i6 0)]),[])))
 (some ((.tuple [(i6 0),(i6 0)]),[])))))) none))
def aFE (s : Str) (i : Int) (d : Int) : (Int × Int) -> Option ((Int × Int) ⊕ (Int ⊕ Unit))
 | (b, a) =>
 cnd (decide (a < d))
  (bnd (nthI s (IntKind.wrap .i64 (i + a))) fun c =>
  cnd (decide ((IntKind.wrap .i64 (c.toNat : Int)) < 128))
  (some (.inr (.inr ())))
  (cnd (decide ((IntKind.wrap .i64 (c.toNat : Int)) > 191))
   (some (.inr (.inr ())))
   (some (.inl ((bits .or .i64 (IntKind.wrap .i64 (b * 2 ^ min (Int.toNat 6) 64)) (bits .and .i64 (IntKind.wrap .i64 (c.toNat : Int)) 63)), (IntKind.wrap .i64 (a + 1)))))))
  (some (.inr (.inl b)))
abbrev aLT (s:Str) (i:Int) (b:Int) (a:Int) (st:Int×Int) (l:List PV) (u:UP):Prop:=l=[(.str s),(i6 i),(i6 0),(i6 0),(i6 st.1),(i6 b),(i6 a),(i6 st.2)]/\u=[]
abbrev aWQ (s:Str) (i:Int) (d:Int) (a:Int) (p:Int⊕Unit) (r:EU):Prop:=elim p (fun (p:Int)=>∃ (c:Int),r=(Ex.brk 1,[(.str s),(i6 i),(i6 0),(i6 0),(i6 p),(i6 d),(i6 a),(i6 c)],[])) (fun f=>(fun (p:Unit)=>∃ (b:Int),∃ (e:Int),r=(Ex.ret,[(.str s),(i6 i),(i6 0),(i6 0),(i6 b),(i6 d),(i6 a),(i6 e)],[])) f)
def aGJ (s:Str) (i:Int):Option (Int×Int) :=
 cnd (decide (i<0))
 (some (0,0))
 (cnd (decide (i≥(List.length s:Int)))
 (some (0,0))
 (bnd (nthI s i) fun a =>
 cnd (decide ((IntKind.wrap .i64 (a.toNat:Int))<128))
 (some ((IntKind.wrap .i64 (a.toNat:Int)),1))
 (jn (fun (g:Int) (c:Int) (d:Int) (k:Bool) (j:Bool) (h:Bool) =>
 (cnd (decide (c>(IntKind.wrap .i64 ((List.length s:Int)-i))))
 (some (0,0))
 (bnd (aX (aFE s i c) (g,1)) fun f=>elim f
 (fun b =>
 cnd (decide (b<d))
 (some (0,0))
 (cnd (decide (b>1114111))
 (some (0,0))
 (cnd (decide (b≥55296))
 (cnd (decide (b<57344))
 (some (0,0))
 (some (b,c)))
 (some (b,c)))))
 (fun l =>
 some (0,0))))) fun e =>
 cnd (decide ((IntKind.wrap .i64 (a.toNat:Int))≥194))
 (cnd (decide ((IntKind.wrap .i64 (a.toNat:Int))<224))
 (e (bits .and .i64 (IntKind.wrap .i64 (a.toNat:Int)) 31) 2 128 true true (decide ((IntKind.wrap .i64 (a.toNat:Int))<224)))
 (cnd (decide ((IntKind.wrap .i64 (a.toNat:Int))≥224))
 (cnd (decide ((IntKind.wrap .i64 (a.toNat:Int))<240))
 (e (bits .and .i64 (IntKind.wrap .i64 (a.toNat:Int)) 15) 3 2048 false true (decide ((IntKind.wrap .i64 (a.toNat:Int))<224)))
 (cnd (decide ((IntKind.wrap .i64 (a.toNat:Int))≥240))
 (cnd (decide ((IntKind.wrap .i64 (a.toNat:Int))<245))
 (e (bits .and .i64 (IntKind.wrap .i64 (a.toNat:Int)) 7) 4 65536 false true (decide ((IntKind.wrap .i64 (a.toNat:Int))<224)))
 (some (0,0)))
 (some (0,0))))
 (cnd (decide ((IntKind.wrap .i64 (a.toNat:Int))≥240))
 (cnd (decide ((IntKind.wrap .i64 (a.toNat:Int))<245))
 (e (bits .and .i64 (IntKind.wrap .i64 (a.toNat:Int)) 7) 4 65536 false true (decide ((IntKind.wrap .i64 (a.toNat:Int))<224)))
 (some (0,0)))
 (some (0,0)))))
 (cnd (decide ((IntKind.wrap .i64 (a.toNat:Int))≥224))
 (cnd (decide ((IntKind.wrap .i64 (a.toNat:Int))<240))
 (e (bits .and .i64 (IntKind.wrap .i64 (a.toNat:Int)) 15) 3 2048 false false false)
 (cnd (decide ((IntKind.wrap .i64 (a.toNat:Int))≥240))
 (cnd (decide ((IntKind.wrap .i64 (a.toNat:Int))<245))
 (e (bits .and .i64 (IntKind.wrap .i64 (a.toNat:Int)) 7) 4 65536 false false false)
 (some (0,0)))
 (some (0,0))))
 (cnd (decide ((IntKind.wrap .i64 (a.toNat:Int))≥240))
 (cnd (decide ((IntKind.wrap .i64 (a.toNat:Int))<245))
 (e (bits .and .i64 (IntKind.wrap .i64 (a.toNat:Int)) 7) 4 65536 false false false)
 (some (0,0)))
 (some (0,0)))))))
def bAV:Decs:={decs:=[(21,(.int .u8)),(68,(.int .u8))],loops:=[(17,[],⟨iR,[],[(some 1,iR,[]),(none,iR,[])]⟩)]}
theorem bAW O a (s:Str) i:eW 251 bAV Tryz.f251 O a [(.str s),(i6 i)] []=aHX O a s i:=by kernel_rfl
theorem aQt s i d b:∀ st l u,aLT s i d b st l u->Imp (aFE s i d st) (aHW O aG l u) (oY (aLT s i d b) (aWQ s i d b)):=by
 rintro ⟨e,c⟩ l u ⟨rfl,rfl⟩;simp only [aFE,aHW,zd,zr];refine zG ?_;try simp only [evs,tys]
 apply Imp.cnd
 ·refine Imp.op (f:=fun a => .int .u8 (a.toNat:Int)) (fun a h=>jP h) (fun a=>rfl) fun j g => ?_;try simp only [evs,tys]
  apply Imp.cnd;·exact zT ⟨e,c,zE⟩
  ·apply Imp.cnd;·exact zT ⟨e,c,zE⟩
   ·exact zN
 ·exact zB ⟨c,zE⟩
theorem aWR s i:Imp (aGJ s i) (aHX O aG s i) (Ri jV):=by
 simp only [aGJ,aHX,zd,zr];try simp only [evs,tys]
 apply Imp.cnd;·exact zR
 ·apply Imp.cnd;·exact zR
  ·refine Imp.op (f:=fun a => .int .u8 (a.toNat:Int)) (fun a h=>jP h) (fun a=>rfl) fun x u => ?_;try simp only [evs,tys]
   apply Imp.cnd;·exact zR
   ·refine Imp.jn (fun I t v=>∀ (l:Int) (g:Int) (b:Int) (k:Bool) (d:Bool) (e:Bool),I (t l g b k d e) (v l g b k d e)) (fun l g b k d e => ?_) fun y w c => ?_
    ·dsimp only;try simp only [evs,tys]
     apply Imp.cnd;·exact zR
     ·refine zL (aQt s i g b) ?_;rintro (m | p) o j
      ·try simp only [aO,aP]
       obtain ⟨n,rfl⟩:=j;refine zH ?_;try simp only [evs,tys]
       apply Imp.cnd;·exact zR
       ·apply Imp.cnd;·exact zR
        ·apply Imp.cnd
         ·apply Imp.cnd;·exact zR
          ·exact zR
         ·exact zR
      ·try simp only [aO,aP]
       obtain ⟨q,r,rfl⟩:=j;refine Imp.exMiss rfl ?_;refine zH ?_;try simp only [evs,tys]
       exact zR
    apply Imp.cnd
    ·apply Imp.cnd;·first | exact c _ _ _ _ _ _ | simpa only [evs,tys,evl] using c _ _ _ _ _ _
     ·apply Imp.cnd
      ·apply Imp.cnd;·first | exact c _ _ _ _ _ _ | simpa only [evs,tys,evl] using c _ _ _ _ _ _
       ·apply Imp.cnd
        ·apply Imp.cnd;·first | exact c _ _ _ _ _ _ | simpa only [evs,tys,evl] using c _ _ _ _ _ _
         ·exact zR
        ·exact zR
      ·apply Imp.cnd
       ·apply Imp.cnd;·first | exact c _ _ _ _ _ _ | simpa only [evs,tys,evl] using c _ _ _ _ _ _
        ·exact zR
       ·exact zR
    ·apply Imp.cnd
     ·apply Imp.cnd;·first | exact c _ _ _ _ _ _ | simpa only [evs,tys,evl] using c _ _ _ _ _ _
      ·apply Imp.cnd
       ·apply Imp.cnd;·first | exact c _ _ _ _ _ _ | simpa only [evs,tys,evl] using c _ _ _ _ _ _
        ·exact zR
       ·exact zR
     ·apply Imp.cnd
      ·apply Imp.cnd;·first | exact c _ _ _ _ _ _ | simpa only [evs,tys,evl] using c _ _ _ _ _ _
       ·exact zR
      ·exact zR
theorem aWS {s i r} (h:aGJ s i=some r):aVL s i=some r:=zV aII (aWR s i) Tryz.func251 (bAW _ _ s i) h
def aHY (O:Orc) (g:LBs):bO:=fun a f=>cnd (chkL [.str,.bool,n6] a) (cnd (chkU [] f)
 (cnd (decide ((iv a 2)<(List.length (sv a 0):Int)))
 (bnd (yA (zt a 0) (zn a 2)) fun e=>cnd (chk (.int .u8) e)
 (aQ O 169 [(.int .u8 (intV e))] fun d=>cnd (chk .bool d)
 (cnd (!(bM d))
 (bnd (yA (zt a 0) (zn a 2)) fun c=>cnd (chk (.int .u8) c)
 (aQ O 170 [(.int .u8 (intV c))] fun b=>cnd (chk .bool b)
 (cnd (!(bM b))
 (some (.ret,[(zt a 0),(.bool false),(zn a 2)],[]))
 (some (.nrm,[(zt a 0),(zb a 1),(i6 (w6 ((iv a 2)+1)))],[]))) none) none)
 (some (.nrm,[(zt a 0),(zb a 1),(i6 (w6 ((iv a 2)+1)))],[]))) none) none)
 (some (.brk 0,[(zt a 0),(zb a 1),(zn a 2)],[]))) none) none
def aHZ (O:Orc) (c:LBs) (s:Str):Option (PV×UP) :=
 cnd (s==([]:Str))
 (some ((.bool false),[]))
 (bnd (yA (.str s) (i6 0)) fun b=>cnd (chk (.int .u8) b)
 (aQ O 169 [(.int .u8 (intV b))] fun x3=>cnd (chk .bool x3)
 (cnd (!(bM x3))
 (some ((.bool false),[]))
 (bnd (c (aHY O c) [(.str s),(.bool false),(i6 1)] []) fun a =>
 exIs a.1 (some 0) (cnd (chkL [.str,.bool,n6] a.2.1) (cnd (chkU [] a.2.2)
 (some ((.bool true),[])) none) none)
 (exIs a.1 none (cnd (chkL [.str,.bool,n6] a.2.1) (cnd (chkU [] a.2.2)
 (some ((zb a.2.1 1),[])) none) none)
 (none)))) none) none)
def rM (s:Str):Int->Option (Int⊕(Unit⊕Unit))
 | a =>
 cnd (decide (a<(List.length s:Int)))
  (bnd (nthI s a) fun d =>
  bnd (aJ1 (d.toNat:Int)) fun e =>
  cnd (!e)
  (bnd (nthI s a) fun c =>
  bnd (aJ0 (c.toNat:Int)) fun b =>
  cnd (!b)
   (some (.inr (.inr ())))
   (some (.inl (IntKind.wrap .i64 (a+1)))))
  (some (.inl (IntKind.wrap .i64 (a+1)))))
  (some (.inr (.inl ())))
abbrev aWT (s:Str) (st:Int) (l:List PV) (u:UP):Prop:=l=[(.str s),(.bool false),(i6 st)]/\u=[]
abbrev aWU (s:Str) (p:Unit⊕Unit) (r:EU):Prop:=elim p (fun (p:Unit)=>∃ (a:Int),r=(Ex.brk 0,[(.str s),(.bool false),(i6 a)],[])) (fun c=>(fun (p:Unit)=>∃ (b:Int),r=(Ex.ret,[(.str s),(.bool false),(i6 b)],[])) c)
def aGK (s:Str):Option Bool :=
 cnd (s==([]:Str))
 (some false)
 (bnd (nthI s 0) fun d =>
 bnd (aJ1 (d.toNat:Int)) fun c =>
 cnd (!c)
 (some false)
 (bnd (aX (rM s) 1) fun a=>elim a
 (fun b =>
 some true)
 (fun b =>
 some false)))
def bAX:Decs:={decs:=[(8,(.int .u8)),(9,.bool),(20,(.int .u8)),(21,.bool),(26,(.int .u8)),(27,.bool)],loops:=[(4,[],⟨[.str,.bool,n6],[],[(some 0,[.str,.bool,n6],[]),(none,[.str,.bool,n6],[])]⟩)]}
theorem bAY O a (s:Str):eW 98 bAX Tryz.f98 O a [(.str s)] []=aHZ O a s:=by kernel_rfl
theorem aQu s:Lok (aWT s) (rM s) (aHY O aG) (aWU s):=by
 rintro b l u ⟨rfl,rfl⟩;simp only [rM,aHY,zd,zr];refine zG ?_;try simp only [evs,tys]
 apply Imp.cnd
 ·refine Imp.op (f:=fun a => .int .u8 (a.toNat:Int)) (fun a h=>jP h) (fun a=>rfl) fun i c => ?_;try simp only [evs,tys]
  refine zC rfl fun j _ => ?_;try simp only [zes,evs,tys]
  apply Imp.cnd
  ·refine Imp.op (f:=fun a => .int .u8 (a.toNat:Int)) (fun a h=>jP h) (fun a=>rfl) fun g d => ?_;try simp only [evs,tys]
   refine zC rfl fun e _ => ?_;try simp only [zes,evs,tys]
   apply Imp.cnd;·exact zT ⟨b,zE⟩
   ·exact zN
  ·exact zN
 ·exact zB ⟨b,zE⟩
theorem aWV s:Imp (aGK s) (aHZ O aG s) (Ri aA):=by
 simp only [aGK,aHZ,zd,zr];try simp only [evs,tys]
 apply Imp.cnd;·exact zR
 ·refine Imp.op (f:=fun a => .int .u8 (a.toNat:Int)) (fun a h=>jP h) (fun a=>rfl) fun j g => ?_;try simp only [evs,tys]
  refine zC rfl fun i _ => ?_;try simp only [zes,evs,tys]
  apply Imp.cnd;·exact zR
  ·refine zL (aQu s) ?_;rintro (p | p) e b
   ·try simp only [aO,aP]
    obtain ⟨c,rfl⟩:=b;refine zH ?_;try simp only [evs,tys]
    exact zR
   ·try simp only [aO,aP]
    obtain ⟨d,rfl⟩:=b;refine Imp.exMiss rfl ?_;refine zH ?_;try simp only [evs,tys]
    exact zR
theorem aWW {s r} (h:aGK s=some r):aVM s=some r:=zV aE (aWV s) Tryz.func98 (bAY _ _ s) h
def yU (O:Orc) (a:LBs) (x:GVarDef) (u0_4:GVarDef) (u0_1:GOp):Option (PV×UP) :=
 some ((.bool (x.name==u0_4.name)),[[(4,[(.str u0_4.name),(.str u0_4.t.name),(i6 u0_4.t.lists),(i6 u0_4.t.musts),(.bool u0_4.has),(i6 u0_4.default.kind),(i6 u0_4.default.n),(.str u0_4.default.s),(zq aJ u0_4.default.l),(zq aD u0_4.default.m)]),(1,[(i6 u0_1.kind),(.str u0_1.name),(zq aB u0_1.vars),(zq aI u0_1.dirs),(zq aF u0_1.sels)])]])
def uQ (x:GVarDef) (u0_4:GVarDef) (u0_1:GOp):Option Bool :=
 some (x.name==u0_4.name)
def aNE:Decs:={}
theorem aNF O a x u0_4 u0_1:eW 203 aNE Tryz.f203 O a [(.agg [(.str x.name),(.str x.t.name),(i6 x.t.lists),(i6 x.t.musts),(.bool x.has),(i6 x.default.kind),(i6 x.default.n),(.str x.default.s),(zq aJ x.default.l),(zq aD x.default.m)]),(.ptr 1 4 0)] [[(4,[(.str u0_4.name),(.str u0_4.t.name),(i6 u0_4.t.lists),(i6 u0_4.t.musts),(.bool u0_4.has),(i6 u0_4.default.kind),(i6 u0_4.default.n),(.str u0_4.default.s),(zq aJ u0_4.default.l),(zq aD u0_4.default.m)]),(1,[(i6 u0_1.kind),(.str u0_1.name),(zq aB u0_1.vars),(zq aI u0_1.dirs),(zq aF u0_1.sels)])]]=yU O a x u0_4 u0_1:=by kernel_rfl
theorem aLU x u0_4 u0_1:Imp (uQ x u0_4 u0_1) (yU O aG x u0_4 u0_1) (fun r v=>v=(aA r,(lO x u0_4 u0_1 r))):=by
 simp only [uQ,yU,zd,zr];try simp only [evs,tys]
 exact Imp.some (by first | rfl | simp only [zes,lO,evs,tys,evl])
theorem aLV {x u0_4 u0_1 r} (h:uQ x u0_4 u0_1=some r):aE1 x u0_4 u0_1=some r:=zV aE (aLU x u0_4 u0_1) Tryz.func203 (aNF _ _ x u0_4 u0_1) h
def wK (O:Orc) (e:LBs):bO:=fun c a=>cnd (chkL [sf,(.func 203 [] [(.ptr 1 4 0)]),n6,n6,n6] c) (cnd (chkU [[(4,[.str,.str,n6,n6,.bool,n6,n6,.str,sf,sf]),(1,[n6,.str,sf,sf,sf])]] a)
 (cnd (decide ((iv c 4)<(iv c 3)))
 (bnd (ix 10 (zs c 0) (zn c 4)) fun d=>cnd (chk (.ref eZ) d)
 (bnd (O 203 [(.agg [(zt (rf d) 0),(zt (rf d) 1),(zn (rf d) 2),(zn (rf d) 3),(zb (rf d) 4),(zn (rf d) 5),(zn (rf d) 6),(zt (rf d) 7),(zs (rf d) 8),(zs (rf d) 9)]),(.ptr 2 4 0)] [[],[(4,[(zt (bx a 0 0) 0),(zt (bx a 0 0) 1),(zn (bx a 0 0) 2),(zn (bx a 0 0) 3),(zb (bx a 0 0) 4),(zn (bx a 0 0) 5),(zn (bx a 0 0) 6),(zt (bx a 0 0) 7),(zs (bx a 0 0) 8),(zs (bx a 0 0) 9)]),(1,[(zn (bx a 0 1) 0),(zt (bx a 0 1) 1),(zs (bx a 0 1) 2),(zs (bx a 0 1) 3),(zs (bx a 0 1) 4)])]]) fun b=>cnd (chkU [[],[(4,[.str,.str,n6,n6,.bool,n6,n6,.str,sf,sf]),(1,[n6,.str,sf,sf,sf])]] b.2) (cnd (chk .bool b.1)
 (cnd (bM b.1)
 (some (.ret,[(zs c 0),(.func (.func 203) [] [(.ptr 1 4 0)]),(zn c 4),(zn c 3),(zn c 4)],[[(4,[(zt (bx b.2 1 0) 0),(zt (bx b.2 1 0) 1),(zn (bx b.2 1 0) 2),(zn (bx b.2 1 0) 3),(zb (bx b.2 1 0) 4),(zn (bx b.2 1 0) 5),(zn (bx b.2 1 0) 6),(zt (bx b.2 1 0) 7),(zs (bx b.2 1 0) 8),(zs (bx b.2 1 0) 9)]),(1,[(zn (bx b.2 1 1) 0),(zt (bx b.2 1 1) 1),(zs (bx b.2 1 1) 2),(zs (bx b.2 1 1) 3),(zs (bx b.2 1 1) 4)])]]))
 (some (.nrm,[(zs c 0),(.func (.func 203) [] [(.ptr 1 4 0)]),(zn c 2),(zn c 3),(i6 (w6 ((iv c 4)+1)))],[[(4,[(zt (bx b.2 1 0) 0),(zt (bx b.2 1 0) 1),(zn (bx b.2 1 0) 2),(zn (bx b.2 1 0) 3),(zb (bx b.2 1 0) 4),(zn (bx b.2 1 0) 5),(zn (bx b.2 1 0) 6),(zt (bx b.2 1 0) 7),(zs (bx b.2 1 0) 8),(zs (bx b.2 1 0) 9)]),(1,[(zn (bx b.2 1 1) 0),(zt (bx b.2 1 1) 1),(zs (bx b.2 1 1) 2),(zs (bx b.2 1 1) 3),(zs (bx b.2 1 1) 4)])]]))) none) none) none)
 (some (.brk 0,[(zs c 0),(.func (.func 203) [] [(.ptr 1 4 0)]),(zn c 2),(zn c 3),(zn c 4)],[[(4,[(zt (bx a 0 0) 0),(zt (bx a 0 0) 1),(zn (bx a 0 0) 2),(zn (bx a 0 0) 3),(zb (bx a 0 0) 4),(zn (bx a 0 0) 5),(zn (bx a 0 0) 6),(zt (bx a 0 0) 7),(zs (bx a 0 0) 8),(zs (bx a 0 0) 9)]),(1,[(zn (bx a 0 1) 0),(zt (bx a 0 1) 1),(zs (bx a 0 1) 2),(zs (bx a 0 1) 3),(zs (bx a 0 1) 4)])]]))) none) none
def wL (O:Orc) (b:LBs) (s:List GVarDef) (u0_4:GVarDef) (u0_1:GOp):Option (PV×UP) :=
 bnd (b (wK O b) [(zq aB s),(.func (.func 203) [] [(.ptr 1 4 0)]),(i6 0),(i6 (List.length (List.map aB s):Int)),(i6 0)] [[(4,[(.str u0_4.name),(.str u0_4.t.name),(i6 u0_4.t.lists),(i6 u0_4.t.musts),(.bool u0_4.has),(i6 u0_4.default.kind),(i6 u0_4.default.n),(.str u0_4.default.s),(zq aJ u0_4.default.l),(zq aD u0_4.default.m)]),(1,[(i6 u0_1.kind),(.str u0_1.name),(zq aB u0_1.vars),(zq aI u0_1.dirs),(zq aF u0_1.sels)])]]) fun a =>
 exIs a.1 (some 0) (cnd (chkL [sf,(.func 203 [] [(.ptr 1 4 0)]),n6,n6,n6] a.2.1) (cnd (chkU [[(4,[.str,.str,n6,n6,.bool,n6,n6,.str,sf,sf]),(1,[n6,.str,sf,sf,sf])]] a.2.2)
 (some ((i6 (-1)),[[(4,[(zt (bx a.2.2 0 0) 0),(zt (bx a.2.2 0 0) 1),(zn (bx a.2.2 0 0) 2),(zn (bx a.2.2 0 0) 3),(zb (bx a.2.2 0 0) 4),(zn (bx a.2.2 0 0) 5),(zn (bx a.2.2 0 0) 6),(zt (bx a.2.2 0 0) 7),(zs (bx a.2.2 0 0) 8),(zs (bx a.2.2 0 0) 9)]),(1,[(zn (bx a.2.2 0 1) 0),(zt (bx a.2.2 0 1) 1),(zs (bx a.2.2 0 1) 2),(zs (bx a.2.2 0 1) 3),(zs (bx a.2.2 0 1) 4)])]])) none) none)
 (exIs a.1 none (cnd (chkL [sf,(.func 203 [] [(.ptr 1 4 0)]),n6,n6,n6] a.2.1) (cnd (chkU [[(4,[.str,.str,n6,n6,.bool,n6,n6,.str,sf,sf]),(1,[n6,.str,sf,sf,sf])]] a.2.2)
 (some ((zn a.2.1 2),[[(4,[(zt (bx a.2.2 0 0) 0),(zt (bx a.2.2 0 0) 1),(zn (bx a.2.2 0 0) 2),(zn (bx a.2.2 0 0) 3),(zb (bx a.2.2 0 0) 4),(zn (bx a.2.2 0 0) 5),(zn (bx a.2.2 0 0) 6),(zt (bx a.2.2 0 0) 7),(zs (bx a.2.2 0 0) 8),(zs (bx a.2.2 0 0) 9)]),(1,[(zn (bx a.2.2 0 1) 0),(zt (bx a.2.2 0 1) 1),(zs (bx a.2.2 0 1) 2),(zs (bx a.2.2 0 1) 3),(zs (bx a.2.2 0 1) 4)])]])) none) none)
 (none))
def gY (s:List GVarDef) (u0_4:GVarDef) (u0_1:GOp):Int->Option (Int⊕(Unit⊕Int))
 | a =>
 cnd (decide (a<(List.length s:Int)))
  (bnd (nthI s a) fun c =>
  bnd (aE1 c u0_4 u0_1) fun b =>
  cnd b
  (some (.inr (.inr a)))
  (some (.inl (IntKind.wrap .i64 (a+1)))))
  (some (.inr (.inl ())))
abbrev aJw (s:List GVarDef) (u0_4:GVarDef) (u0_1:GOp) (st:Int) (l:List PV) (u:UP):Prop:=l=[(zq aB s),(.func (.func 203) [] [(.ptr 1 4 0)]),(i6 0),(i6 (List.length s:Int)),(i6 st)]/\u=[[(4,[(.str u0_4.name),(.str u0_4.t.name),(i6 u0_4.t.lists),(i6 u0_4.t.musts),(.bool u0_4.has),(i6 u0_4.default.kind),(i6 u0_4.default.n),(.str u0_4.default.s),(zq aJ u0_4.default.l),(zq aD u0_4.default.m)]),(1,[(i6 u0_1.kind),(.str u0_1.name),(zq aB u0_1.vars),(zq aI u0_1.dirs),(zq aF u0_1.sels)])]]
abbrev aJx (s:List GVarDef) (u0_4:GVarDef) (u0_1:GOp) (p:Unit⊕Int) (r:EU):Prop:=elim p (fun (p:Unit)=>∃ (a:Int),r=(Ex.brk 0,[(zq aB s),(.func (.func 203) [] [(.ptr 1 4 0)]),(i6 0),(i6 (List.length s:Int)),(i6 a)],[[(4,[(.str u0_4.name),(.str u0_4.t.name),(i6 u0_4.t.lists),(i6 u0_4.t.musts),(.bool u0_4.has),(i6 u0_4.default.kind),(i6 u0_4.default.n),(.str u0_4.default.s),(zq aJ u0_4.default.l),(zq aD u0_4.default.m)]),(1,[(i6 u0_1.kind),(.str u0_1.name),(zq aB u0_1.vars),(zq aI u0_1.dirs),(zq aF u0_1.sels)])]])) (fun c=>(fun (p:Int)=>∃ (b:Int),r=(Ex.ret,[(zq aB s),(.func (.func 203) [] [(.ptr 1 4 0)]),(i6 p),(i6 (List.length s:Int)),(i6 b)],[[(4,[(.str u0_4.name),(.str u0_4.t.name),(i6 u0_4.t.lists),(i6 u0_4.t.musts),(.bool u0_4.has),(i6 u0_4.default.kind),(i6 u0_4.default.n),(.str u0_4.default.s),(zq aJ u0_4.default.l),(zq aD u0_4.default.m)]),(1,[(i6 u0_1.kind),(.str u0_1.name),(zq aB u0_1.vars),(zq aI u0_1.dirs),(zq aF u0_1.sels)])]])) c)
def sB (s:List GVarDef) (u0_4:GVarDef) (u0_1:GOp):Option Int :=
 bnd (aX (gY s u0_4 u0_1) 0) fun a=>elim a
 (fun c =>
 some (-1))
 (fun b =>
 some b)
def aLW:Decs:={decs:=[(14,(.ref eZ)),(16,.bool)],ups:=[(16,[[],[(4,[.str,.str,n6,n6,.bool,n6,n6,.str,sf,sf]),(1,[n6,.str,sf,sf,sf])]])],loops:=[(2,[],⟨[sf,(.func 203 [] [(.ptr 1 4 0)]),n6,n6,n6],[[(4,[.str,.str,n6,n6,.bool,n6,n6,.str,sf,sf]),(1,[n6,.str,sf,sf,sf])]],[(some 0,[sf,(.func 203 [] [(.ptr 1 4 0)]),n6,n6,n6],[[(4,[.str,.str,n6,n6,.bool,n6,n6,.str,sf,sf]),(1,[n6,.str,sf,sf,sf])]]),(none,[sf,(.func 203 [] [(.ptr 1 4 0)]),n6,n6,n6],[[(4,[.str,.str,n6,n6,.bool,n6,n6,.str,sf,sf]),(1,[n6,.str,sf,sf,sf])]])]⟩)]}
theorem aLX O a s u0_4 u0_1:eW 204 aLW Tryz.f204 O a [(zq aB s),(.func (.func 203) [] [(.ptr 1 4 0)])] [[(4,[(.str u0_4.name),(.str u0_4.t.name),(i6 u0_4.t.lists),(i6 u0_4.t.musts),(.bool u0_4.has),(i6 u0_4.default.kind),(i6 u0_4.default.n),(.str u0_4.default.s),(zq aJ u0_4.default.l),(zq aD u0_4.default.m)]),(1,[(i6 u0_1.kind),(.str u0_1.name),(zq aB u0_1.vars),(zq aI u0_1.dirs),(zq aF u0_1.sels)])]]=wL O a s u0_4 u0_1:=by kernel_rfl
theorem aGL s u0_4 u0_1:Lok (aJw s u0_4 u0_1) (gY s u0_4 u0_1) (wK O aG) (aJx s u0_4 u0_1):=by
 rintro b l u ⟨rfl,rfl⟩;simp only [gY,wK,zd,zr];refine zG ?_;try simp only [evs,tys]
 apply Imp.cnd
 ·refine zX aB jR fun g _ => ?_;try simp only [evs,tys]
  refine Imp.gcall (f:=aA) (fu:=fun a=>[]::lO g u0_4 u0_1 a) (fun a h=>by first | exact fQ rfl rfl (by first | rfl | (simp only [zes,tys];rfl)) (bA h) | (have c:=bA h;simp only [evs,tys,evl,lO] at c;exact fQ rfl rfl (by first | rfl | (simp only [zes,tys];rfl)) c)) zK (fun a=>by first | rfl | (simp only [lO,evs,tys];first | rfl | (cases w<;>rfl))) fun e d => ?_;try simp only [aA,lO,evs,tys]
  apply Imp.cnd;·exact zT ⟨b,zE⟩
  ·exact zN
 ·exact zB ⟨b,zE⟩
theorem aJy s u0_4 u0_1:Imp (sB s u0_4 u0_1) (wL O aG s u0_4 u0_1) (fun r v=>v=(aZ r,(iF s u0_4 u0_1 r))):=by
 simp only [sB,wL,zd,zr];try simp only [evs,tys]
 refine zL (aGL s u0_4 u0_1) ?_;rintro (p | e) d a
 ·try simp only [aO,aP]
  obtain ⟨b,rfl⟩:=a;refine zH ?_;try simp only [evs,tys]
  exact Imp.some (by first | rfl | simp only [zes,iF,evs,tys,evl])
 ·try simp only [aO,aP]
  obtain ⟨c,rfl⟩:=a;refine Imp.exMiss rfl ?_;refine zH ?_;try simp only [evs,tys]
  exact Imp.some (by first | rfl | simp only [zes,iF,evs,tys,evl])
theorem aJz {s u0_4 u0_1 r} (h:sB s u0_4 u0_1=some r):aIM s u0_4 u0_1=some r:=zV iZ (aJy s u0_4 u0_1) Tryz.func204 (aLX _ _ s u0_4 u0_1) h
def dX (O:Orc) (b:LBs) (s:List GVarDef) (u0_4:GVarDef) (u0_1:GOp):Option (PV×UP) :=
 bnd (O 204 [(zq aB s),(.func (.func 203) [] [(.ptr 2 4 0)])] [[],[(4,[(.str u0_4.name),(.str u0_4.t.name),(i6 u0_4.t.lists),(i6 u0_4.t.musts),(.bool u0_4.has),(i6 u0_4.default.kind),(i6 u0_4.default.n),(.str u0_4.default.s),(zq aJ u0_4.default.l),(zq aD u0_4.default.m)]),(1,[(i6 u0_1.kind),(.str u0_1.name),(zq aB u0_1.vars),(zq aI u0_1.dirs),(zq aF u0_1.sels)])]]) fun a=>cnd (chkU [[],[(4,[.str,.str,n6,n6,.bool,n6,n6,.str,sf,sf]),(1,[n6,.str,sf,sf,sf])]] a.2) (cnd (chk n6 a.1)
 (some ((.bool (decide ((intV a.1)≥0))),[[(4,[(zt (bx a.2 1 0) 0),(zt (bx a.2 1 0) 1),(zn (bx a.2 1 0) 2),(zn (bx a.2 1 0) 3),(zb (bx a.2 1 0) 4),(zn (bx a.2 1 0) 5),(zn (bx a.2 1 0) 6),(zt (bx a.2 1 0) 7),(zs (bx a.2 1 0) 8),(zs (bx a.2 1 0) 9)]),(1,[(zn (bx a.2 1 1) 0),(zt (bx a.2 1 1) 1),(zs (bx a.2 1 1) 2),(zs (bx a.2 1 1) 3),(zs (bx a.2 1 1) 4)])]])) none) none
def cY (s:List GVarDef) (u0_4:GVarDef) (u0_1:GOp):Option Bool :=
 bnd (aIM s u0_4 u0_1) fun a =>
 some (decide (a≥0))
def qL:Decs:={decs:=[(7,n6)],ups:=[(7,[[],[(4,[.str,.str,n6,n6,.bool,n6,n6,.str,sf,sf]),(1,[n6,.str,sf,sf,sf])]])]}
theorem qM O a s u0_4 u0_1:eW 144 qL Tryz.f144 O a [(zq aB s),(.func (.func 203) [] [(.ptr 1 4 0)])] [[(4,[(.str u0_4.name),(.str u0_4.t.name),(i6 u0_4.t.lists),(i6 u0_4.t.musts),(.bool u0_4.has),(i6 u0_4.default.kind),(i6 u0_4.default.n),(.str u0_4.default.s),(zq aJ u0_4.default.l),(zq aD u0_4.default.m)]),(1,[(i6 u0_1.kind),(.str u0_1.name),(zq aB u0_1.vars),(zq aI u0_1.dirs),(zq aF u0_1.sels)])]]=dX O a s u0_4 u0_1:=by kernel_rfl
theorem pX s u0_4 u0_1:Imp (cY s u0_4 u0_1) (dX O aG s u0_4 u0_1) (fun r v=>v=(aA r,(bD s u0_4 u0_1 r))):=by
 simp only [cY,dX,zd,zr];try simp only [evs,tys]
 refine Imp.gcall (f:=aZ) (fu:=fun a=>[]::iF s u0_4 u0_1 a) (fun a h=>by first | exact fQ rfl rfl (by first | rfl | (simp only [zes,tys];rfl)) (bA h) | (have b:=bA h;simp only [evs,tys,evl,iF] at b;exact fQ rfl rfl (by first | rfl | (simp only [zes,tys];rfl)) b)) zK (fun a=>by first | rfl | (simp only [iF,evs,tys];first | rfl | (cases w<;>rfl))) fun d c => ?_;try simp only [aZ,iF,evs,tys]
 exact Imp.some (by first | rfl | simp only [zes,bD,evs,tys,evl])
theorem pY {s u0_4 u0_1 r} (h:cY s u0_4 u0_1=some r):fG s u0_4 u0_1=some r:=zV aE (pX s u0_4 u0_1) Tryz.func144 (qM _ _ s u0_4 u0_1) h
abbrev kA:List Sh:=[(.ptr 0 1 0),.bool,sf,n6,n6,n6,.str,sf,sf,sf]
def aCU (O:Orc) (f:LBs):bO:=fun b e=>cnd (chkL kA b) (cnd (chkU [] e)
 (cnd (decide ((iv b 4)<(iv b 3)))
 (bnd (ix 10 (zs b 2) (zn b 4)) fun c=>cnd (chk (.ref eZ) c)
 (bnd (aZG 10 (zs b 7) (zn b 4)) fun d=>cnd (chk (.slb false) d)
 (bnd (O 144 [(.slice (esV d) [] false),(.func (.func 203) [] [(.ptr 1 4 0)])] [[(4,[(zt (rf c) 0),(zt (rf c) 1),(zn (rf c) 2),(zn (rf c) 3),(zb (rf c) 4),(zn (rf c) 5),(zn (rf c) 6),(zt (rf c) 7),(zs (rf c) 8),(zs (rf c) 9)]),(1,[(zn b 5),(zt b 6),(zs b 7),(zs b 8),(zs b 9)])]]) fun a=>cnd (chkU [[(4,[.str,.str,n6,n6,.bool,n6,n6,.str,sf,sf]),(1,[n6,.str,sf,sf,sf])]] a.2) (cnd (chk .bool a.1)
 (cnd (bM a.1)
 (some (.ret,[(.ptr 0 1 0),(.bool false),(zs b 2),(zn b 3),(zn b 4),(zn (bx a.2 0 1) 0),(zt (bx a.2 0 1) 1),(zs (bx a.2 0 1) 2),(zs (bx a.2 0 1) 3),(zs (bx a.2 0 1) 4)],[]))
 (some (.nrm,[(.ptr 0 1 0),(zb b 1),(zs b 2),(zn b 3),(i6 (w6 ((iv b 4)+1))),(zn (bx a.2 0 1) 0),(zt (bx a.2 0 1) 1),(zs (bx a.2 0 1) 2),(zs (bx a.2 0 1) 3),(zs (bx a.2 0 1) 4)],[]))) none) none) none) none)
 (some (.brk 0,(rb kA b),[]))) none) none
def aCV (O:Orc) (b:LBs) (o:GOp):Option (PV×UP) :=
 bnd (b (aCU O b) [(.ptr 0 1 0),(.bool false),(zq aB o.vars),(i6 (List.length (List.map aB o.vars):Int)),(i6 0),(i6 o.kind),(.str o.name),(zq aB o.vars),(zq aI o.dirs),(zq aF o.sels)] []) fun a =>
 exIs a.1 (some 0) (cnd (chkL kA a.2.1) (cnd (chkU [] a.2.2)
 (some ((.bool true),[])) none) none)
 (exIs a.1 none (cnd (chkL kA a.2.1) (cnd (chkU [] a.2.2)
 (some ((zb a.2.1 1),[])) none) none)
 (none))
def mJ (o:GOp):Int->Option (Int⊕(Unit⊕Unit))
 | a =>
 cnd (decide (a<(List.length o.vars:Int)))
  (bnd (nthI o.vars a) fun c =>
  bnd (tslc (o.vars:List GVarDef) 0 a) fun d =>
  bnd (fG d c o) fun b =>
  cnd b
  (some (.inr (.inr ())))
  (some (.inl (IntKind.wrap .i64 (a+1)))))
  (some (.inr (.inl ())))
abbrev aA6 (o:GOp) (a:PV):List PV:=[(.ptr 0 1 0),(.bool false),(zq aB o.vars),(i6 (List.length o.vars:Int)),a,(i6 o.kind),(.str o.name),(zq aB o.vars),(zq aI o.dirs),(zq aF o.sels)]
abbrev aQv (o:GOp) (st:Int) (l:List PV) (u:UP):Prop:=l=(aA6 o (i6 st))/\u=[]
abbrev aQw (o:GOp) (p:Unit⊕Unit) (r:EU):Prop:=elim p (fun (p:Unit)=>∃ (b:Int),r=(Ex.brk 0,(aA6 o (i6 b)),[])) (fun (p:Unit)=>∃ (a:Int),r=(Ex.ret,(aA6 o (i6 a)),[]))
def aA7 (o:GOp):Option Bool :=
 bnd (aX (mJ o) 0) fun a=>elim a
 (fun b =>
 some true)
 (fun b =>
 some false)
def aTt:Decs:={decs:=[(11,(.ref eZ)),(16,(.slb false)),(18,.bool)],ups:=[(18,[[(4,[.str,.str,n6,n6,.bool,n6,n6,.str,sf,sf]),(1,[n6,.str,sf,sf,sf])]])],loops:=[(2,[(1,5)],⟨kA,[],[(some 0,kA,[]),(none,kA,[])]⟩)]}
theorem aTu O a o:eW 143 aTt Tryz.f143 O a [(.agg [(i6 o.kind),(.str o.name),(zq aB o.vars),(zq aI o.dirs),(zq aF o.sels)])] []=aCV O a o:=by kernel_rfl
theorem aLY o:Lok (aQv o) (mJ o) (aCU O aG) (aQw o):=by
 rintro c l u ⟨rfl,rfl⟩;simp only [mJ,aCU,zd,zr];refine zG ?_;try simp only [evs,tys]
 apply Imp.cnd
 ·refine zX aB jR fun d _ => ?_;try simp only [evs,tys]
  refine Imp.op2 (f:=fun a b => .slice (List.map aB a) (List.map aB b) false) (fun a h=>bEP (enc:=aB) (b:=_) zI (by first | rfl | exact List.map_nil.symm | simp only [evs,tys,evl]) (fun a=>by first | rfl | simp only [evs,tys,evc]) h) (fun a b=>rfl) fun e g j => ?_;try simp only [evs,tys]
  refine Imp.gcall (f:=aA) (fu:=fun a=>bD e d o a) (fun a h=>by first | exact bA h | (have i:=bA h;simp only [evs,tys,evl,bD] at i;exact i)) zK (fun a=>by first | rfl | (simp only [bD,evs,tys];first | rfl | (cases w<;>rfl))) fun m k => ?_;try simp only [aA,bD,evs,tys]
  apply Imp.cnd;·exact zT ⟨c,zE⟩
  ·exact zN
 ·exact zB ⟨c,zE⟩
theorem aQx o:Imp (aA7 o) (aCV O aG o) (Ri aA):=by
 simp only [aA7,aCV,zd,zr];try simp only [evs,tys]
 refine zL (aLY o) ?_;rintro (p | p) c a
 ·try simp only [aO,aP]
  obtain ⟨d,rfl⟩:=a;refine zH ?_;try simp only [evs,tys]
  exact zR
 ·try simp only [aO,aP]
  obtain ⟨b,rfl⟩:=a;refine Imp.exMiss rfl ?_;refine zH ?_;try simp only [evs,tys]
  exact zR
theorem aQy {o r} (h:aA7 o=some r):aLd o=some r:=zV aE (aQx o) Tryz.func143 (aTu _ _ o) h
def aFF (O:Orc) (c:LBs) (s:GSchema) (a:Str):Option (PV×UP) :=
 aQ O 201 [(eS s),(.str a),(.slice [(i6 0),(i6 4),(i6 5)] [] false)] fun b=>cnd (chk .bool b)
 (some ((.bool (bM b)),[])) none
def aDR (s:GSchema) (a:Str):Option Bool :=
 bnd (aVN s a [0,4,5]) fun b =>
 some b
def aWX:Decs:={decs:=[(8,.bool)]}
theorem aWY O b s (a:Str):eW 146 aWX Tryz.f146 O b [(eS s),(.str a)] []=aFF O b s a:=by kernel_rfl
theorem aTv s a:Imp (aDR s a) (aFF O aG s a) (Ri aA):=by
 simp only [aDR,aFF,zd,zr];try simp only [evs,tys]
 refine zC rfl fun b _ => ?_;try simp only [zes,evs,tys]
 exact zR
theorem aTw {s a r} (h:aDR s a=some r):aPO s a=some r:=zV aE (aTv s a) Tryz.func146 (aWY _ _ s a) h
def aA8 (O:Orc) (i:LBs) (v0:GVarDef) (u0_4:Str) (h:Str) (g:Int) (f:Int) (e:Bool) (d:Int) (c:Int) (a:Str) (u0_3:Str) (b:GOp):Option (PV×UP) :=
 some ((.bool (v0.name==u0_3)),[[(4,[(.str u0_4),(.str h),(i6 g),(i6 f),(.bool e),(i6 d),(i6 c),(.str a),(.slice [] [] true),(.slice [] [] true)]),(3,[(.str u0_3)]),(2,[(i6 b.kind),(.str b.name),(zq aB b.vars),(zq aI b.dirs),(zq aF b.sels)])]])
def xT (v0:GVarDef) (u0_4:Str) (g:Str) (f:Int) (e:Int) (d:Bool) (c:Int) (b:Int) (a:Str) (u0_3:Str) (h:GOp):Option Bool :=
 some (v0.name==u0_3)
def aQz:Decs:={}
theorem aQA O i v0 (u0_4:Str) (h:Str) g f e c b (a:Str) (u0_3:Str) d:eW 206 aQz Tryz.f206 O i [(.agg [(.str v0.name),(.str v0.t.name),(i6 v0.t.lists),(i6 v0.t.musts),(.bool v0.has),(i6 v0.default.kind),(i6 v0.default.n),(.str v0.default.s),(zq aJ v0.default.l),(zq aD v0.default.m)]),(.ptr 1 3 0)] [[(4,[(.str u0_4),(.str h),(i6 g),(i6 f),(.bool e),(i6 c),(i6 b),(.str a),(.slice [] [] true),(.slice [] [] true)]),(3,[(.str u0_3)]),(2,[(i6 d.kind),(.str d.name),(zq aB d.vars),(zq aI d.dirs),(zq aF d.sels)])]]=aA8 O i v0 u0_4 h g f e c b a u0_3 d:=by kernel_rfl
theorem aNG v0 u0_4 g f e d c b a u0_3 h:Imp (xT v0 u0_4 g f e d c b a u0_3 h) (aA8 O aG v0 u0_4 g f e d c b a u0_3 h) (fun r v=>v=(aA r,(nL v0 u0_4 g f e d c b a u0_3 h r))):=by
 simp only [xT,aA8,zd,zr];try simp only [evs,tys]
 exact Imp.some (by first | rfl | simp only [zes,nL,evs,tys,evl])
theorem aNH {v0 u0_4 g f e d c b a u0_3 i r} (h:xT v0 u0_4 g f e d c b a u0_3 i=some r):aHx v0 u0_4 g f e d c b a u0_3 i=some r:=zV aE (aNG v0 u0_4 g f e d c b a u0_3 i) Tryz.func206 (aQA _ _ v0 u0_4 g f e d c b a u0_3 i) h
def wM (O:Orc) (e:LBs):bO:=fun c a=>cnd (chkL [sf,(.func 206 [] [(.ptr 1 3 0)]),n6,n6,n6] c) (cnd (chkU [[(4,[.str,.str,n6,n6,.bool,n6,n6,.str,st',st']),(3,[.str]),(2,[n6,.str,sf,sf,sf])]] a)
 (cnd (decide ((iv c 4)<(iv c 3)))
 (bnd (ix 10 (zs c 0) (zn c 4)) fun d=>cnd (chk (.ref eZ) d)
 (bnd (O 206 [(.agg [(zt (rf d) 0),(zt (rf d) 1),(zn (rf d) 2),(zn (rf d) 3),(zb (rf d) 4),(zn (rf d) 5),(zn (rf d) 6),(zt (rf d) 7),(zs (rf d) 8),(zs (rf d) 9)]),(.ptr 2 3 0)] [[],[(4,[(zt (bx a 0 0) 0),(zt (bx a 0 0) 1),(zn (bx a 0 0) 2),(zn (bx a 0 0) 3),(zb (bx a 0 0) 4),(zn (bx a 0 0) 5),(zn (bx a 0 0) 6),(zt (bx a 0 0) 7),(zo (bx a 0 0) 8),(zo (bx a 0 0) 9)]),(3,[(zt (bx a 0 1) 0)]),(2,[(zn (bx a 0 2) 0),(zt (bx a 0 2) 1),(zs (bx a 0 2) 2),(zs (bx a 0 2) 3),(zs (bx a 0 2) 4)])]]) fun b=>cnd (chkU [[],[(4,[.str,.str,n6,n6,.bool,n6,n6,.str,st',st']),(3,[.str]),(2,[n6,.str,sf,sf,sf])]] b.2) (cnd (chk .bool b.1)
 (cnd (bM b.1)
 (some (.ret,[(zs c 0),(.func (.func 206) [] [(.ptr 1 3 0)]),(zn c 4),(zn c 3),(zn c 4)],[[(4,[(zt (bx b.2 1 0) 0),(zt (bx b.2 1 0) 1),(zn (bx b.2 1 0) 2),(zn (bx b.2 1 0) 3),(zb (bx b.2 1 0) 4),(zn (bx b.2 1 0) 5),(zn (bx b.2 1 0) 6),(zt (bx b.2 1 0) 7),(zo (bx b.2 1 0) 8),(zo (bx b.2 1 0) 9)]),(3,[(zt (bx b.2 1 1) 0)]),(2,[(zn (bx b.2 1 2) 0),(zt (bx b.2 1 2) 1),(zs (bx b.2 1 2) 2),(zs (bx b.2 1 2) 3),(zs (bx b.2 1 2) 4)])]]))
 (some (.nrm,[(zs c 0),(.func (.func 206) [] [(.ptr 1 3 0)]),(zn c 2),(zn c 3),(i6 (w6 ((iv c 4)+1)))],[[(4,[(zt (bx b.2 1 0) 0),(zt (bx b.2 1 0) 1),(zn (bx b.2 1 0) 2),(zn (bx b.2 1 0) 3),(zb (bx b.2 1 0) 4),(zn (bx b.2 1 0) 5),(zn (bx b.2 1 0) 6),(zt (bx b.2 1 0) 7),(zo (bx b.2 1 0) 8),(zo (bx b.2 1 0) 9)]),(3,[(zt (bx b.2 1 1) 0)]),(2,[(zn (bx b.2 1 2) 0),(zt (bx b.2 1 2) 1),(zs (bx b.2 1 2) 2),(zs (bx b.2 1 2) 3),(zs (bx b.2 1 2) 4)])]]))) none) none) none)
 (some (.brk 0,[(zs c 0),(.func (.func 206) [] [(.ptr 1 3 0)]),(zn c 2),(zn c 3),(zn c 4)],[[(4,[(zt (bx a 0 0) 0),(zt (bx a 0 0) 1),(zn (bx a 0 0) 2),(zn (bx a 0 0) 3),(zb (bx a 0 0) 4),(zn (bx a 0 0) 5),(zn (bx a 0 0) 6),(zt (bx a 0 0) 7),(zo (bx a 0 0) 8),(zo (bx a 0 0) 9)]),(3,[(zt (bx a 0 1) 0)]),(2,[(zn (bx a 0 2) 0),(zt (bx a 0 2) 1),(zs (bx a 0 2) 2),(zs (bx a 0 2) 3),(zs (bx a 0 2) 4)])]]))) none) none
def wN (O:Orc) (j:LBs) (s:List GVarDef) (u0_4:Str) (i:Str) (h:Int) (g:Int) (f:Bool) (e:Int) (d:Int) (b:Str) (u0_3:Str) (c:GOp):Option (PV×UP) :=
 bnd (j (wM O j) [(zq aB s),(.func (.func 206) [] [(.ptr 1 3 0)]),(i6 0),(i6 (List.length (List.map aB s):Int)),(i6 0)] [[(4,[(.str u0_4),(.str i),(i6 h),(i6 g),(.bool f),(i6 e),(i6 d),(.str b),(.slice [] [] true),(.slice [] [] true)]),(3,[(.str u0_3)]),(2,[(i6 c.kind),(.str c.name),(zq aB c.vars),(zq aI c.dirs),(zq aF c.sels)])]]) fun a =>
 exIs a.1 (some 0) (cnd (chkL [sf,(.func 206 [] [(.ptr 1 3 0)]),n6,n6,n6] a.2.1) (cnd (chkU [[(4,[.str,.str,n6,n6,.bool,n6,n6,.str,st',st']),(3,[.str]),(2,[n6,.str,sf,sf,sf])]] a.2.2)
 (some ((i6 (-1)),[[(4,[(zt (bx a.2.2 0 0) 0),(zt (bx a.2.2 0 0) 1),(zn (bx a.2.2 0 0) 2),(zn (bx a.2.2 0 0) 3),(zb (bx a.2.2 0 0) 4),(zn (bx a.2.2 0 0) 5),(zn (bx a.2.2 0 0) 6),(zt (bx a.2.2 0 0) 7),(zo (bx a.2.2 0 0) 8),(zo (bx a.2.2 0 0) 9)]),(3,[(zt (bx a.2.2 0 1) 0)]),(2,[(zn (bx a.2.2 0 2) 0),(zt (bx a.2.2 0 2) 1),(zs (bx a.2.2 0 2) 2),(zs (bx a.2.2 0 2) 3),(zs (bx a.2.2 0 2) 4)])]])) none) none)
 (exIs a.1 none (cnd (chkL [sf,(.func 206 [] [(.ptr 1 3 0)]),n6,n6,n6] a.2.1) (cnd (chkU [[(4,[.str,.str,n6,n6,.bool,n6,n6,.str,st',st']),(3,[.str]),(2,[n6,.str,sf,sf,sf])]] a.2.2)
 (some ((zn a.2.1 2),[[(4,[(zt (bx a.2.2 0 0) 0),(zt (bx a.2.2 0 0) 1),(zn (bx a.2.2 0 0) 2),(zn (bx a.2.2 0 0) 3),(zb (bx a.2.2 0 0) 4),(zn (bx a.2.2 0 0) 5),(zn (bx a.2.2 0 0) 6),(zt (bx a.2.2 0 0) 7),(zo (bx a.2.2 0 0) 8),(zo (bx a.2.2 0 0) 9)]),(3,[(zt (bx a.2.2 0 1) 0)]),(2,[(zn (bx a.2.2 0 2) 0),(zt (bx a.2.2 0 2) 1),(zs (bx a.2.2 0 2) 2),(zs (bx a.2.2 0 2) 3),(zs (bx a.2.2 0 2) 4)])]])) none) none)
 (none))
def gZ (s:List GVarDef) (u0_4:Str) (h:Str) (g:Int) (e:Int) (d:Bool) (c:Int) (b:Int) (a:Str) (u0_3:Str) (i:GOp):Int->Option (Int⊕(Unit⊕Int))
 | f =>
 cnd (decide (f<(List.length s:Int)))
  (bnd (nthI s f) fun k =>
  bnd (aHx k u0_4 h g e d c b a u0_3 i) fun j =>
  cnd j
  (some (.inr (.inr f)))
  (some (.inl (IntKind.wrap .i64 (f+1)))))
  (some (.inr (.inl ())))
abbrev aJA (s:List GVarDef) (u0_4:Str) (h:Str) (g:Int) (f:Int) (e:Bool) (d:Int) (c:Int) (a:Str) (u0_3:Str) (b:GOp) (st:Int) (l:List PV) (u:UP):Prop:=l=[(zq aB s),(.func (.func 206) [] [(.ptr 1 3 0)]),(i6 0),(i6 (List.length s:Int)),(i6 st)]/\u=[[(4,[(.str u0_4),(.str h),(i6 g),(i6 f),(.bool e),(i6 d),(i6 c),(.str a),(.slice [] [] true),(.slice [] [] true)]),(3,[(.str u0_3)]),(2,[(i6 b.kind),(.str b.name),(zq aB b.vars),(zq aI b.dirs),(zq aF b.sels)])]]
abbrev aJB (s:List GVarDef) (u0_4:Str) (h:Str) (g:Int) (f:Int) (e:Bool) (d:Int) (c:Int) (b:Str) (u0_3:Str) (a:GOp) (p:Unit⊕Int) (r:EU):Prop:=elim p (fun (p:Unit)=>∃ (i:Int),r=(Ex.brk 0,[(zq aB s),(.func (.func 206) [] [(.ptr 1 3 0)]),(i6 0),(i6 (List.length s:Int)),(i6 i)],[[(4,[(.str u0_4),(.str h),(i6 g),(i6 f),(.bool e),(i6 d),(i6 c),(.str b),(.slice [] [] true),(.slice [] [] true)]),(3,[(.str u0_3)]),(2,[(i6 a.kind),(.str a.name),(zq aB a.vars),(zq aI a.dirs),(zq aF a.sels)])]])) (fun k=>(fun (p:Int)=>∃ (j:Int),r=(Ex.ret,[(zq aB s),(.func (.func 206) [] [(.ptr 1 3 0)]),(i6 p),(i6 (List.length s:Int)),(i6 j)],[[(4,[(.str u0_4),(.str h),(i6 g),(i6 f),(.bool e),(i6 d),(i6 c),(.str b),(.slice [] [] true),(.slice [] [] true)]),(3,[(.str u0_3)]),(2,[(i6 a.kind),(.str a.name),(zq aB a.vars),(zq aI a.dirs),(zq aF a.sels)])]])) k)
def sC (s:List GVarDef) (u0_4:Str) (h:Str) (f:Int) (e:Int) (d:Bool) (c:Int) (b:Int) (a:Str) (u0_3:Str) (j:GOp):Option Int :=
 bnd (aX (gZ s u0_4 h f e d c b a u0_3 j) 0) fun g=>elim g
 (fun k =>
 some (-1))
 (fun i =>
 some i)
def aLZ:Decs:={decs:=[(14,(.ref eZ)),(16,.bool)],ups:=[(16,[[],[(4,[.str,.str,n6,n6,.bool,n6,n6,.str,st',st']),(3,[.str]),(2,[n6,.str,sf,sf,sf])]])],loops:=[(2,[],⟨[sf,(.func 206 [] [(.ptr 1 3 0)]),n6,n6,n6],[[(4,[.str,.str,n6,n6,.bool,n6,n6,.str,st',st']),(3,[.str]),(2,[n6,.str,sf,sf,sf])]],[(some 0,[sf,(.func 206 [] [(.ptr 1 3 0)]),n6,n6,n6],[[(4,[.str,.str,n6,n6,.bool,n6,n6,.str,st',st']),(3,[.str]),(2,[n6,.str,sf,sf,sf])]]),(none,[sf,(.func 206 [] [(.ptr 1 3 0)]),n6,n6,n6],[[(4,[.str,.str,n6,n6,.bool,n6,n6,.str,st',st']),(3,[.str]),(2,[n6,.str,sf,sf,sf])]])]⟩)]}
theorem aL0 O i s (u0_4:Str) (h:Str) g f e c b (a:Str) (u0_3:Str) d:eW 204 aLZ Tryz.f204 O i [(zq aB s),(.func (.func 206) [] [(.ptr 1 3 0)])] [[(4,[(.str u0_4),(.str h),(i6 g),(i6 f),(.bool e),(i6 c),(i6 b),(.str a),(.slice [] [] true),(.slice [] [] true)]),(3,[(.str u0_3)]),(2,[(i6 d.kind),(.str d.name),(zq aB d.vars),(zq aI d.dirs),(zq aF d.sels)])]]=wN O i s u0_4 h g f e c b a u0_3 d:=by kernel_rfl
theorem aGM s u0_4 j i g e d c b u0_3 k:Lok (aJA s u0_4 j i g e d c b u0_3 k) (gZ s u0_4 j i g e d c b u0_3 k) (wM O aG) (aJB s u0_4 j i g e d c b u0_3 k):=by
 rintro m l u ⟨rfl,rfl⟩;simp only [gZ,wM,zd,zr];refine zG ?_;try simp only [evs,tys]
 apply Imp.cnd
 ·refine zX aB jR fun q _ => ?_;try simp only [evs,tys]
  refine Imp.gcall (f:=aA) (fu:=fun a=>[]::nL q u0_4 j i g e d c b u0_3 k a) (fun a h=>by first | exact fQ rfl rfl (by first | rfl | (simp only [zes,tys];rfl)) (bA h) | (have o:=bA h;simp only [evs,tys,evl,nL] at o;exact fQ rfl rfl (by first | rfl | (simp only [zes,tys];rfl)) o)) zK (fun a=>by first | rfl | (simp only [nL,evs,tys];first | rfl | (cases w<;>rfl))) fun p n => ?_;try simp only [aA,nL,evs,tys]
  apply Imp.cnd;·exact zT ⟨m,zE⟩
  ·exact zN
 ·exact zB ⟨m,zE⟩
theorem aJC s u0_4 g f e d c b a u0_3 h:Imp (sC s u0_4 g f e d c b a u0_3 h) (wN O aG s u0_4 g f e d c b a u0_3 h) (fun r v=>v=(aZ r,(iG s u0_4 g f e d c b a u0_3 h r))):=by
 simp only [sC,wN,zd,zr];try simp only [evs,tys]
 refine zL (aGM s u0_4 g f e d c b a u0_3 h) ?_;rintro (p | k) j i
 ·try simp only [aO,aP]
  obtain ⟨l,rfl⟩:=i;refine zH ?_;try simp only [evs,tys]
  exact Imp.some (by first | rfl | simp only [zes,iG,evs,tys,evl])
 ·try simp only [aO,aP]
  obtain ⟨m,rfl⟩:=i;refine Imp.exMiss rfl ?_;refine zH ?_;try simp only [evs,tys]
  exact Imp.some (by first | rfl | simp only [zes,iG,evs,tys,evl])
theorem aJD {s u0_4 g f e d c b a u0_3 i r} (h:sC s u0_4 g f e d c b a u0_3 i=some r):aCu s u0_4 g f e d c b a u0_3 i=some r:=zV iZ (aJC s u0_4 g f e d c b a u0_3 i) Tryz.func204 (aL0 _ _ s u0_4 g f e d c b a u0_3 i) h
def aFG (O:Orc) (c:LBs) (o:GOp) (a:Str):Option (PV×UP) :=
 bnd (O 204 [(zq aB o.vars),(.func (.func 206) [] [(.ptr 1 3 0)])] [[(4,[(.str []),(.str []),(i6 0),(i6 0),(.bool false),(i6 0),(i6 0),(.str []),(.slice [] [] true),(.slice [] [] true)]),(3,[(.str a)]),(2,[(i6 o.kind),(.str o.name),(zq aB o.vars),(zq aI o.dirs),(zq aF o.sels)])]]) fun b=>cnd (chkU [[(4,[.str,.str,n6,n6,.bool,n6,n6,.str,st',st']),(3,[.str]),(2,[n6,.str,sf,sf,sf])]] b.2) (cnd (chk n6 b.1)
 (cnd (decide ((intV b.1)<0))
 (some ((.tuple [(.agg [(.str []),(.str []),(i6 0),(i6 0),(.bool false),(i6 0),(i6 0),(.str []),(.slice [] [] false),(.slice [] [] false)]),(.bool false)]),[]))
 (bnd (ix 10 (zs (bx b.2 0 2) 2) (i6 (intV b.1))) fun x3=>cnd (chk (.ref eZ) x3)
 (some ((.tuple [(.agg [(zt (rf x3) 0),(zt (rf x3) 1),(zn (rf x3) 2),(zn (rf x3) 3),(zb (rf x3) 4),(zn (rf x3) 5),(zn (rf x3) 6),(zt (rf x3) 7),(zs (rf x3) 8),(zs (rf x3) 9)]),(.bool true)]),[])) none)) none) none
def aAo (o:GOp) (a:Str):Option (GVarDef×Bool) :=
 bnd (aCu o.vars [] [] 0 0 false 0 0 [] a o) fun b =>
 cnd (decide (b<0))
 (some ((GVarDef.mk [] (GType.mk [] 0 0) false (GValue.mk 0 0 [] ([]:List GValue) ([]:List GMember))),false))
 (bnd (nthI o.vars b) fun c =>
 some (c,true))
def aWZ:Decs:={decs:=[(10,n6),(17,(.ref eZ))],ups:=[(10,[[(4,[.str,.str,n6,n6,.bool,n6,n6,.str,st',st']),(3,[.str]),(2,[n6,.str,sf,sf,sf])]])]}
theorem aW0 O b o (a:Str):eW 149 aWZ Tryz.f149 O b [(.agg [(i6 o.kind),(.str o.name),(zq aB o.vars),(zq aI o.dirs),(zq aF o.sels)]),(.str a)] []=aFG O b o a:=by kernel_rfl
theorem aTx o b:Imp (aAo o b) (aFG O aG o b) (Ri aAf):=by
 simp only [aAo,aFG,zd,zr];try simp only [evs,tys]
 refine Imp.gcall (f:=aZ) (fu:=fun a=>iG o.vars [] [] 0 0 false 0 0 [] b o a) (fun a h=>by first | exact bA h | (have c:=bA h;simp only [evs,tys,evl,iG] at c;exact c)) zK (fun a=>by first | rfl | (simp only [iG,evs,tys];first | rfl | (cases w<;>rfl))) fun g d => ?_;try simp only [aZ,iG,evs,tys]
 apply Imp.cnd;·exact zR
 ·refine zX aB jR fun e _ => ?_;try simp only [evs,tys]
  exact zR
theorem aIW {o a r} (h:aAo o a=some r):aPP o a=some r:=zV bAj (aTx o a) Tryz.func149 (aW0 _ _ o a) h
def dY (O:Orc) (b:LBs) (s:List Str) (v0:Str):Option (PV×UP) :=
 aQ O 200 [(zq PV.str s),(.str v0)] fun a=>cnd (chk n6 a)
 (some ((.bool (decide ((intV a)≥0))),[])) none
def cZ (s:List Str) (v0:Str):Option Bool :=
 bnd (eA s v0) fun a =>
 some (decide (a≥0))
def qN:Decs:={decs:=[(7,n6)]}
theorem qO O a (s:List Str) (v0:Str):eW 136 qN Tryz.f136 O a [(zq PV.str s),(.str v0)] []=dY O a s v0:=by kernel_rfl
theorem pZ s v0:Imp (cZ s v0) (dY O aG s v0) (Ri aA):=by
 simp only [cZ,dY,zd,zr];try simp only [evs,tys]
 refine zC rfl fun a _ => ?_;try simp only [zes,evs,tys]
 exact zR
theorem qA {s v0 r} (h:cZ s v0=some r):bJ s v0=some r:=zV aE (pZ s v0) Tryz.func136 (qO _ _ s v0) h
def aA9 (O:Orc) (b:LBs) (v0:GValue):Option (PV×UP) :=
 aQ O 230 [(.slice [] [] true),(eV v0)] fun a=>cnd (chk st' a)
 (some ((.slice (esV a) [] false),[])) none
def xU (v0:GValue):Option (List Str) :=
 bnd (aAi ([]:List Str) v0) fun a =>
 some a
def aQB:Decs:={decs:=[(4,st')]}
theorem aQC O a v0:eW 207 aQB Tryz.f207 O a [(eV v0)] []=aA9 O a v0:=by kernel_rfl
theorem aNI v0:Imp (xU v0) (aA9 O aG v0) (Ri bU):=by
 simp only [xU,aA9,zd,zr];try simp only [evs,tys]
 refine zC rfl fun a _ => ?_;try simp only [zes,evs,tys]
 exact zR
theorem aNJ {v0 r} (h:xU v0=some r):aHy v0=some r:=zV jU (aNI v0) Tryz.func207 (aQC _ _ v0) h
theorem aL1 {b a r} (h:aK6 b a=some r):aE2 b a=some r:=aMP (uI rW) (bGN (g:=aER) rfl (bAa h))
abbrev gC:List Sh:=[(.ptr 0 2 0),st',n6,sf,sf]
def tQ (O:Orc) (f:LBs):bO:=fun a e=>cnd (chkL gC a) (cnd (chkU [] e)
 (cnd (decide ((iv a 2)≥(List.length (ev a 1):Int)))
 (some (.brk 0,(rb gC a),[]))
 (bnd (ix 1 (zs a 1) (zn a 2)) fun d=>cnd (chk (.ref .str) d)
 (aQ O 82 [(.agg [(zs a 3),(zs a 4)]),(.str (strV (refV d)))] fun b=>cnd (chk (.tup [gP,.bool]) b)
 (cnd (!(bM (tv b 1)))
 (some (.nrm,(pu (rb gC a) 2 (i6 (w6 ((iv a 2)+1)))),[]))
 (aQ O 69 [(zo a 1),(zs (tg b 0) 3)] fun c=>cnd (chk st' c)
 (some (.nrm,[(.ptr 0 2 0),(.slice (esV c) [] true),(i6 (w6 ((iv a 2)+1))),(zs a 3),(zs a 4)],[])) none)) none) none)) none) none
def tR (O:Orc) (e:LBs) (d:GDoc) (b:List GSel):Option (PV×UP) :=
 aQ O 69 [(.slice [] [] true),(zq aF b)] fun c=>cnd (chk st' c)
 (bnd (e (tQ O e) [(.ptr 0 2 0),(.slice (esV c) [] true),(i6 0),(zq aR d.ops),(zq aH d.frags)] []) fun a =>
 exIs a.1 (some 0) (cnd (chkL gC a.2.1) (cnd (chkU [] a.2.2)
 (some ((zs a.2.1 1),[])) none) none)
 (none)) none
def eG (d:GDoc) (sels:List GSel):(Int×(List Str))->Option ((Int×(List Str))⊕((List Str)))
 | (b,a) =>
 cnd (decide (b≥(List.length a:Int)))
  (some (.inr a))
  (bnd (nthI a b) fun f =>
  bnd (aDC d f) fun c =>
  cnd (!c.2)
  (some (.inl ((IntKind.wrap .i64 (b+1)),a)))
  (bnd (eK a c.1.sels) fun e =>
  some (.inl ((IntKind.wrap .i64 (b+1)),e))))
abbrev aH0 (d:GDoc) (a:List GSel) (st:Int×(List Str)) (l:List PV) (u:UP):Prop:=l=[(.ptr 0 2 0),(zp PV.str st.2),(i6 st.1),(zq aR d.ops),(zq aH d.frags)]/\u=[]
abbrev aH1 (d:GDoc) (b:List GSel) (p:(List Str)) (r:EU):Prop:=(fun (p:(List Str))=>∃ (a:Int),r=(Ex.brk 0,[(.ptr 0 2 0),(zp PV.str p),(i6 a),(zq aR d.ops),(zq aH d.frags)],[])) p
def qB (d:GDoc) (a:List GSel):Option (List Str) :=
 bnd (eK ([]:List Str) a) fun c =>
 bnd (aX (eG d a) (0,c)) fun b =>
 some b
def aJE:Decs:={decs:=[(10,st'),(21,(.ref .str)),(23,(.tup [gP,.bool])),(31,st')],loops:=[(4,[(2,2)],⟨gC,[],[(some 0,gC,[])]⟩)]}
theorem aJF O b d a:eW 152 aJE Tryz.f152 O b [(eD d),(zq aF a)] []=tR O b d a:=by kernel_rfl
theorem aFH d a:Lok (aH0 d a) (eG d a) (tQ O aG) (aH1 d a):=by
 rintro ⟨b,c⟩ l u ⟨rfl,rfl⟩;simp only [eG,tQ,zd,zr];refine zG ?_;try simp only [evs,tys]
 apply Imp.cnd;·exact zB ⟨b,zE⟩
 ·refine zX PV.str (fun _=>rfl) fun g _ => ?_;try simp only [evs,tys]
  refine zC rfl fun e _ => ?_;try simp only [zes,evs,tys]
  apply Imp.cnd;·exact zN
  ·refine zC rfl fun f _ => ?_;try simp only [zes,evs,tys]
   exact zN
theorem aH2 d a:Imp (qB d a) (tR O aG d a) (Ri bU):=by
 simp only [qB,tR,zd,zr];try simp only [evs,tys]
 refine zC rfl fun e _ => ?_;try simp only [zes,evs,tys]
 refine zL (aFH d a) ?_;rintro b _ ⟨c,rfl⟩;refine zH ?_;try simp only [evs,tys]
 exact zR
theorem aH3 {d a r} (h:qB d a=some r):aAO d a=some r:=zV jU (aH2 d a) Tryz.func152 (aJF _ _ d a) h
abbrev oP:List Sh:=[(.ptr 0 1 0),(.ptr 0 2 0),st',n6,n6,n6,.str,st',st',n6,n6,.str,sf,sf]
def aFI (O:Orc) (f:LBs):bO:=fun c e=>cnd (chkL oP c) (cnd (chkU [] e)
 (cnd (decide ((iv c 3)<(List.length (ev c 12):Int)))
 (bnd (ix 5 (zs c 12) (zn c 3)) fun a=>cnd (chk (.ref mM) a)
 (aQ O 175 [(.agg [(zn (rf a) 0),(zn (rf a) 1),(zt (rf a) 2),(zs (rf a) 3),(zs (rf a) 4)])] fun b=>cnd (chk mM b)
 (bnd (apd 5 (zo c 2) (.slice [(.agg [(i6 (intV (gt (aggV b) 0))),(i6 (intV (gt (aggV b) 1))),(.str (strV (gt (aggV b) 2))),(.slice (esV (gt (aggV b) 3)) [] false),(.slice (esV (gt (aggV b) 4)) [] false)])] [] true)) fun d=>cnd (chk st' d)
 (some (.nrm,(pu (pu (rb oP c) 2 (.slice (esV d) [] true)) 3 (i6 (w6 ((iv c 3)+1)))),[])) none) none) none)
 (some (.brk 0,(rb oP c),[]))) none) none
def aFJ (O:Orc) (c:LBs) (v0:GValue):Option (PV×UP) :=
 bnd (c (aFI O c) [(.ptr 0 1 0),(.ptr 0 2 0),(.slice [] [] true),(i6 0),(i6 0),(i6 0),(.str []),(.slice [] [] true),(.slice [] [] true),(i6 v0.kind),(i6 v0.n),(.str v0.s),(zq aJ v0.l),(zq aD v0.m)] []) fun a =>
 exIs a.1 (some 0) (cnd (chkL oP a.2.1) (cnd (chkU [] a.2.2)
 (aQ O 103 [(zs a.2.1 13)] fun b=>cnd (chk sf b)
 (some ((.agg [(zn a.2.1 9),(zn a.2.1 10),(zt a.2.1 11),(zs a.2.1 2),(.slice (esV b) [] false)]),[])) none) none) none)
 (none)
def oQ (v0:GValue):((List GValue)×Int)->Option (((List GValue)×Int)⊕((List GValue)))
 | (b,a) =>
 cnd (decide (a<(List.length v0.l:Int)))
  (bnd (nthI v0.l a) fun e =>
  bnd (aDG e) fun d =>
  bnd (tapp b [d]) fun c =>
  some (.inl (c,(IntKind.wrap .i64 (a+1)))))
  (some (.inr b))
abbrev aIX (v0:GValue) (a b:PV):List PV:=[(.ptr 0 1 0),(.ptr 0 2 0),a,b,(i6 0),(i6 0),(.str []),(.slice [] [] true),(.slice [] [] true),(i6 v0.kind),(i6 v0.n),(.str v0.s),(zq aJ v0.l),(zq aD v0.m)]
abbrev aTy (v0:GValue) (st:(List GValue)×Int) (l:List PV) (u:UP):Prop:=l=(aIX v0 (zp aJ st.1) (i6 st.2))/\u=[]
abbrev aTz (v0:GValue) (p:(List GValue)) (r:EU):Prop:=∃ (a:Int),r=(Ex.brk 0,(aIX v0 (zp aJ p) (i6 a)),[])
def aDS (v0:GValue):Option GValue :=
 bnd (aX (oQ v0) ([],0)) fun a =>
 bnd (aAe v0.m) fun b =>
 some (GValue.mk v0.kind v0.n v0.s a b)
def aW1:Decs:={decs:=[(16,(.ref mM)),(18,mM),(20,st'),(24,sf)],loops:=[(3,[(2,5),(1,5)],⟨oP,[],[(some 0,oP,[])]⟩)]}
theorem aW2 O a v0:eW 175 aW1 Tryz.f175 O a [(eV v0)] []=aFJ O a v0:=by kernel_rfl
theorem aNK v0:Lok (aTy v0) (oQ v0) (aFI O aG) (aTz v0):=by
 rintro ⟨i,b⟩ l u ⟨rfl,rfl⟩;simp only [oQ,aFI,zd,zr];refine zG ?_;try simp only [evs,tys]
 apply Imp.cnd
 ·refine zX aJ aAc fun g _ => ?_;try simp only [evs,tys]
  refine zC rfl fun e _ => ?_;try simp only [zes,evs,tys]
  refine Imp.op (f:=fun a => .slice (List.map aJ a) [] true) (fun a h=>uA (enc:=aJ) zI zI (fun a=>by first | rfl | simp only [evs,tys,evc]) h) (fun a=>rfl) fun d c => ?_;try simp only [evs,tys]
  exact zN
 ·exact zB ⟨b,zE⟩
theorem aTA v0:Imp (aDS v0) (aFJ O aG v0) (Ri aCv):=by
 simp only [aDS,aFJ,zd,zr];try simp only [evs,tys]
 refine zL (aNK v0) ?_;rintro a _ ⟨b,rfl⟩;refine zH ?_;try simp only [evs,tys]
 refine zC rfl fun c _ => ?_;try simp only [zes,evs,tys]
 exact zR
theorem aTB {v0 r} (h:aDS v0=some r):aDG v0=some r:=zV bAk (aTA v0) Tryz.func175 (aW2 _ _ v0) h
def aCW (O:Orc) (c:LBs) (s:GSchema) (a:Str) (x:GSel):Option (PV×UP) :=
 cnd (x.kind==0)
 (aQ O 117 [(eS s),(.str a),(.str x.name)] fun b=>cnd (chk (.tup [oE,.bool]) b)
 (some ((zt (tg b 0) 2),[])) none)
 (cnd (x.kind==2)
 (cnd (x.on_==([]:Str))
 (some ((.str a),[]))
 (some ((.str x.on_),[])))
 (some ((.str []),[])))
def aBa (s:GSchema) (a:Str) (x:GSel):Option Str :=
 cnd (x.kind==0)
 (bnd (aPR s a x.name) fun b =>
 some b.1.t.name)
 (cnd (x.kind==2)
 (cnd (x.on_==([]:Str))
 (some a)
 (some x.on_))
 (some []))
def aTC:Decs:={decs:=[(18,(.tup [oE,.bool]))]}
theorem aTD O b s (a:Str) x:eW 184 aTC Tryz.f184 O b [(eS s),(.str a),(eL x)] []=aCW O b s a x:=by kernel_rfl
theorem aQD s a x:Imp (aBa s a x) (aCW O aG s a x) (Ri aAM):=by
 simp only [aBa,aCW,zd,zr];try simp only [evs,tys]
 apply Imp.cnd
 ·refine zC rfl fun b _ => ?_;try simp only [zes,evs,tys]
  exact zR
 ·apply Imp.cnd
  ·apply Imp.cnd;·exact zR
   ·exact zR
  ·exact zR
theorem aQE {s a x r} (h:aBa s a x=some r):aLe s a x=some r:=zV aSw (aQD s a x) Tryz.func184 (aTD _ _ s a x) h
abbrev qC:List Sh:=[sf,st',n6,n6]
def yV (O:Orc) (g:LBs):bO:=fun a f=>cnd (chkL qC a) (cnd (chkU [] f)
 (bnd (ix 7 (zs a 0) (zn a 2)) fun e=>cnd (chk (.ref mB) e)
 (cnd (decide ((iv a 3)<(List.length (ev (rf e) 4):Int)))
 (bnd (ix 7 (zs a 0) (zn a 2)) fun d=>cnd (chk (.ref mB) d)
 (bnd (ix 2 (zs (rf d) 4) (zn a 3)) fun c=>cnd (chk (.ref aJc) c)
 (aQ O 220 [(zs (rf c) 1),(zo a 1)] fun b=>cnd (chk st' b)
 (some (.nrm,[(zs a 0),(.slice (esV b) [] true),(zn a 2),(i6 (w6 ((iv a 3)+1)))],[])) none) none) none)
 (some (.brk 2,(rb qC a),[]))) none) none) none
def yW (O:Orc) (h:LBs):bO:=fun b g=>cnd (chkL [sf,st',n6] b) (cnd (chkU [] g)
 (cnd (decide ((iv b 2)<(List.length (ev b 0):Int)))
 (bnd (ix 7 (zs b 0) (zn b 2)) fun d=>cnd (chk (.ref mB) d)
 (aQ O 220 [(zs (rf d) 3),(zo b 1)] fun f=>cnd (chk st' f)
 (bnd (h (yV O h) [(zs b 0),(.slice (esV f) [] true),(zn b 2),(i6 0)] []) fun a =>
 exIs a.1 (some 2) (cnd (chkL [sf,st',n6,n6] a.2.1) (cnd (chkU [] a.2.2)
 (bnd (ix 7 (zs a.2.1 0) (zn a.2.1 2)) fun c=>cnd (chk (.ref mB) c)
 (aQ O 189 [(zs (rf c) 6),(zo a.2.1 1)] fun e=>cnd (chk st' e)
 (some (.nrm,[(zs a.2.1 0),(.slice (esV e) [] true),(i6 (w6 ((iv a.2.1 2)+1)))],[])) none) none) none) none)
 (none)) none) none)
 (some (.brk 0,[(zs b 0),(zo b 1),(zn b 2)],[]))) none) none
def yX (O:Orc) (c:LBs) (d:List GSel) (b:List Str):Option (PV×UP) :=
 bnd (c (yW O c) [(zq aF d),(zp PV.str b),(i6 0)] []) fun a =>
 exIs a.1 (some 0) (cnd (chkL [sf,st',n6] a.2.1) (cnd (chkU [] a.2.2)
 (some ((zo a.2.1 1),[])) none) none)
 (none)
def gK (h:List GSel) (c:Int):((List Str)×Int)->Option (((List Str)×Int)⊕((List Str)))
 | (a,b) =>
 bnd (nthI h c) fun g =>
 cnd (decide (b<(List.length g.dirs:Int)))
  (bnd (nthI h c) fun f =>
  bnd (nthI f.dirs b) fun e =>
  bnd (aPS e.args a) fun d =>
  some (.inl (d,(IntKind.wrap .i64 (b+1)))))
  (some (.inr a))
abbrev aL2 (b:List GSel) (a:Int) (st:(List Str)×Int) (l:List PV) (u:UP):Prop:=l=[(zq aF b),(zp PV.str st.1),(i6 a),(i6 st.2)]/\u=[]
abbrev aL3 (c:List GSel) (a:Int) (p:(List Str)) (r:EU):Prop:=(fun (p:(List Str))=>∃ (b:Int),r=(Ex.brk 2,[(zq aF c),(zp PV.str p),(i6 a),(i6 b)],[])) p
def gL (d:List GSel):((List Str)×Int)->Option (((List Str)×Int)⊕((List Str)))
 | (b,a) =>
 cnd (decide (a<(List.length d:Int)))
  (bnd (nthI d a) fun e =>
  bnd (aPS e.args b) fun f =>
  bnd (aX (gK d a) (f,0)) fun c =>
  bnd (nthI d a) fun h =>
  bnd (rD h.sels c) fun g =>
  some (.inl (g,(IntKind.wrap .i64 (a+1)))))
  (some (.inr b))
abbrev aL4 (a:List GSel) (st:(List Str)×Int) (l:List PV) (u:UP):Prop:=l=[(zq aF a),(zp PV.str st.1),(i6 st.2)]/\u=[]
abbrev aL5 (b:List GSel) (p:(List Str)) (r:EU):Prop:=(fun (p:(List Str))=>∃ (a:Int),r=(Ex.brk 0,[(zq aF b),(zp PV.str p),(i6 a)],[])) p
def qD (c:List GSel) (b:List Str):Option (List Str) :=
 bnd (aX (gL c) (b,0)) fun a =>
 some a
def aNL:Decs:={decs:=[(15,(.ref mB)),(19,st'),(23,(.ref mB)),(32,(.ref mB)),(36,(.ref aJc)),(40,st'),(43,(.ref mB)),(47,st')],loops:=[(2,[],⟨[sf,st',n6],[],[(some 0,[sf,st',n6],[])]⟩),(6,[],⟨qC,[],[(some 2,qC,[])]⟩)]}
theorem aNM O b c (a:List Str):eW 189 aNL Tryz.f189 O b [(zq aF c),(zp PV.str a)] []=yX O b c a:=by kernel_rfl
theorem aH4 d a:Lok (aL2 d a) (gK d a) (yV O aG) (aL3 d a):=by
 rintro ⟨c,b⟩ l u ⟨rfl,rfl⟩;simp only [gK,yV,zd,zr];refine zG ?_;try simp only [evs,tys]
 refine zX aF gN fun h _ => ?_;try simp only [evs,tys]
 apply Imp.cnd
 ·refine zX aF gN fun g _ => ?_;try simp only [evs,tys]
  refine zX aI aDw fun f _ => ?_;try simp only [evs,tys]
  refine zC rfl fun e _ => ?_;try simp only [zes,evs,tys]
  exact zN
 ·exact zB ⟨b,zE⟩
theorem aH5 d:Lok (aL4 d) (gL d) (yW O aG) (aL5 d):=by
 rintro ⟨c,a⟩ l u ⟨rfl,rfl⟩;simp only [gL,yW,zd,zr];refine zG ?_;try simp only [evs,tys]
 apply Imp.cnd
 ·refine zX aF gN fun f _ => ?_;try simp only [evs,tys]
  refine zC rfl fun g _ => ?_;try simp only [zes,evs,tys]
  refine zL (aH4 d a) ?_;rintro b _ ⟨e,rfl⟩;refine zH ?_;try simp only [evs,tys]
  refine zX aF gN fun i _ => ?_;try simp only [evs,tys]
  refine zC rfl fun h _ => ?_;try simp only [zes,evs,tys]
  exact zN
 ·exact zB ⟨a,zE⟩
theorem aL6 c a:Imp (qD c a) (yX O aG c a) (Ri fA):=by
 simp only [qD,yX,zd,zr];try simp only [evs,tys]
 refine zL (aH5 c) ?_;rintro b _ ⟨d,rfl⟩;refine zH ?_;try simp only [evs,tys]
 exact zR
theorem aCX {b a r} (h:qD b a=some r):rD b a=some r:=zV sN (aL6 b a) Tryz.func189 (aNM _ _ b a) h
def aCY (O:Orc) (o:LBs):bO:=fun a k=>cnd (chkL [(.rsl 0 7 1),n6,n6,(.vec 1)] a) (cnd (chkU [] k)
 (cnd (decide ((iv a 2)>0))
 (bnd (ix 1 (.rsl 0 7 (rlnV (gt a 0)) 1) (zn a 2)) fun l=>cnd (chk (.ptx 0 7) l)
 (bnd (aOU 1 (vecV (gt a 3)) (offV l) 1 false) fun g=>cnd (chk .str g)
 (bnd (ix 1 (.rsl 0 7 (rlnV (gt a 0)) 1) (i6 (w6 ((iv a 2)-1)))) fun n=>cnd (chk (.ptx 0 7) n)
 (bnd (aOU 1 (vecV (gt a 3)) (offV n) 1 false) fun i=>cnd (chk .str i)
 (cnd (Op.bytesLess (strV g) (strV i))
 (bnd (ix 1 (.rsl 0 7 (rlnV (gt a 0)) 1) (i6 (w6 ((iv a 2)-1)))) fun e=>cnd (chk (.ptx 0 7) e)
 (bnd (aOU 1 (vecV (gt a 3)) (offV e) 1 false) fun m=>cnd (chk .str m)
 (bnd (ix 1 (.rsl 0 7 (rlnV (gt a 0)) 1) (zn a 2)) fun f=>cnd (chk (.ptx 0 7) f)
 (bnd (aOU 1 (vecV (gt a 3)) (offV f) 1 false) fun c=>cnd (chk .str c)
 (bnd (ix 1 (.rsl 0 7 (rlnV (gt a 0)) 1) (zn a 2)) fun b=>cnd (chk (.ptx 0 7) b)
 (bnd (vput 1 (vecV (gt a 3)) (offV b) [(.str (strV m))]) fun h =>
 bnd (ix 1 (.rsl 0 7 (rlnV (gt a 0)) 1) (i6 (w6 ((iv a 2)-1)))) fun d=>cnd (chk (.ptx 0 7) d)
 (bnd (vput 1 h (offV d) [(.str (strV c))]) fun j =>
 some (.nrm,[(.rsl 0 7 (rlnV (gt a 0)) 1),(zn a 1),(i6 (w6 ((iv a 2)-1))),(.vec 1 j)],[])) none) none) none) none) none) none)
 (some (.brk 2,[(.rsl 0 7 (rlnV (gt a 0)) 1),(zn a 1),(zn a 2),(.vec 1 (vecV (gt a 3)))],[]))) none) none) none) none)
 (some (.brk 2,[(.rsl 0 7 (rlnV (gt a 0)) 1),(zn a 1),(zn a 2),(.vec 1 (vecV (gt a 3)))],[]))) none) none
def aCZ (O:Orc) (d:LBs):bO:=fun b c=>cnd (chkL [(.rsl 0 7 1),n6,(.vec 1)] b) (cnd (chkU [] c)
 (cnd (decide ((iv b 1)<((rlnV (gt b 0)):Int)))
 (bnd (d (aCY O d) [(.rsl 0 7 (rlnV (gt b 0)) 1),(zn b 1),(zn b 1),(.vec 1 (vecV (gt b 2)))] []) fun a =>
 exIs a.1 (some 2) (cnd (chkL [(.rsl 0 7 1),n6,n6,(.vec 1)] a.2.1) (cnd (chkU [] a.2.2)
 (some (.nrm,[(.rsl 0 7 (rlnV (gt a.2.1 0)) 1),(i6 (w6 ((iv a.2.1 1)+1))),(.vec 1 (vecV (gt a.2.1 3)))],[])) none) none)
 (none))
 (some (.brk 0,[(.rsl 0 7 (rlnV (gt b 0)) 1),(zn b 1),(.vec 1 (vecV (gt b 2)))],[]))) none) none
def aC0 (O:Orc) (c:LBs) (d:List Str):Option (PV×UP) :=
 bnd (apdV 1 (.slice [] [] true) (zq PV.str d)) fun b =>
 bnd (c (aCZ O c) [(.rsl 0 7 (List.length b) 1),(i6 1),(.vec 1 b)] []) fun a =>
 exIs a.1 (some 0) (cnd (chkL [(.rsl 0 7 1),n6,(.vec 1)] a.2.1) (cnd (chkU [] a.2.2)
 (cnd (Nat.ble (rlnV (gt a.2.1 0)) (List.length (vecV (gt a.2.1 2))))
 (some ((.slice (List.take (rlnV (gt a.2.1 0)) (vecV (gt a.2.1 2))) [] false),[]))
 (none)) none) none)
 (none)
def iK (c:List Str):(Int×(List Str))->Option ((Int×(List Str))⊕((List Str)))
 | (a,b) =>
 cnd (decide (a>0))
  (bnd (tixR (List.length c) a) fun o =>
  bnd (tget b o (fun z:Str=>z)) fun k =>
  bnd (tixR (List.length c) (IntKind.wrap .i64 (a-1))) fun m =>
  bnd (tget b m (fun z:Str=>z)) fun n =>
  cnd (Op.bytesLess k n)
  (bnd (tixR (List.length c) (IntKind.wrap .i64 (a-1))) fun l =>
  bnd (tget b l (fun z:Str=>z)) fun j =>
  bnd (tixR (List.length c) a) fun d =>
  bnd (tget b d (fun z:Str=>z)) fun i =>
  bnd (tixR (List.length c) a) fun h =>
  bnd (tput b h (fun _:Str=>j)) fun f =>
  bnd (tixR (List.length c) (IntKind.wrap .i64 (a-1))) fun g =>
  bnd (tput f g (fun _:Str=>i)) fun e =>
  some (.inl ((IntKind.wrap .i64 (a-1)),e)))
  (some (.inr b)))
  (some (.inr b))
abbrev aGN (b:List Str) (a:Int) (st:Int×(List Str)) (l:List PV) (u:UP):Prop:=l=[(.rsl 0 7 (List.length b) 1),(i6 a),(i6 st.1),(.vec 1 (List.map PV.str st.2))]/\u=[]
abbrev aQF (c:List Str) (b:Int) (p:(List Str)) (r:EU):Prop:=(fun (p:(List Str))=>∃ (a:Int),r=(Ex.brk 2,[(.rsl 0 7 (List.length c) 1),(i6 b),(i6 a),(.vec 1 (List.map PV.str p))],[])) p
def kB (d:List Str):(Int×(List Str))->Option ((Int×(List Str))⊕((List Str)))
 | (a,b) =>
 cnd (decide (a<((List.length d):Int)))
  (bnd (aX (iK d) (a,b)) fun c =>
  some (.inl ((IntKind.wrap .i64 (a+1)),c)))
  (some (.inr b))
abbrev aQG (a:List Str) (st:Int×(List Str)) (l:List PV) (u:UP):Prop:=l=[(.rsl 0 7 (List.length a) 1),(i6 st.1),(.vec 1 (List.map PV.str st.2))]/\u=[]
abbrev aQH (b:List Str) (p:(List Str)) (r:EU):Prop:=(fun (p:(List Str))=>∃ (a:Int),r=(Ex.brk 0,[(.rsl 0 7 (List.length b) 1),(i6 a),(.vec 1 (List.map PV.str p))],[])) p
def aBb (c:List Str):Option (List Str) :=
 bnd (tapl c) fun b =>
 bnd (aX (kB b) (1,b)) fun a =>
 cnd (Nat.ble (List.length b) (List.length a))
 (some (List.take (List.length b) a))
 (none)
def aTE:Decs:={decs:=[(20,(.ptx 0 7)),(21,.str),(25,(.ptx 0 7)),(26,.str),(39,(.ptx 0 7)),(40,.str),(43,(.ptx 0 7)),(44,.str),(45,(.ptx 0 7)),(46,(.ptx 0 7))],loops:=[(3,[(7,1)],⟨[(.rsl 0 7 1),n6,(.vec 1)],[],[(some 0,[(.rsl 0 7 1),n6,(.vec 1)],[])]⟩),(6,[(7,1)],⟨[(.rsl 0 7 1),n6,n6,(.vec 1)],[],[(some 2,[(.rsl 0 7 1),n6,n6,(.vec 1)],[])]⟩)]}
theorem aTF O a (b:List Str):eW 190 aTE Tryz.f190 O a [(zq PV.str b)] []=aC0 O a b:=by kernel_rfl
theorem aL7 d b:∀ st l u,aGN d b st l u->Imp (iK d st) (aCY O aG l u) (oY (aGN d b) (aQF d b)):=by
 rintro ⟨c,x⟩ l u ⟨rfl,rfl⟩;simp only [iK,aCY,zd,zr];refine zG ?_;try simp only [evs,tys]
 apply Imp.cnd
 ·refine Imp.op (f:=fun a => .ptr 0 7 (a*1)) (fun a h=>aOo h) (fun a=>rfl) fun H w => ?_;try simp only [evs,tys]
  refine Imp.op (f:=fun a=>PV.str a) (fun a h=>aGj (enc:=PV.str) (encT:=fun a=>PV.str a) (f:=fun z=>z) zI (by decide) (fun z=>by first | rfl | (simp only [evs,tys,evc,part];rfl)) (fun a=>by first | rfl | (simp only [evs,tys];rfl)) h) (fun a=>rfl) fun E p => ?_;try simp only [evs,tys]
  refine Imp.op (f:=fun a => .ptr 0 7 (a*1)) (fun a h=>aOo h) (fun a=>rfl) fun D s => ?_;try simp only [evs,tys]
  refine Imp.op (f:=fun a=>PV.str a) (fun a h=>aGj (enc:=PV.str) (encT:=fun a=>PV.str a) (f:=fun z=>z) zI (by decide) (fun z=>by first | rfl | (simp only [evs,tys,evc,part];rfl)) (fun a=>by first | rfl | (simp only [evs,tys];rfl)) h) (fun a=>rfl) fun G A => ?_;try simp only [evs,tys]
  apply Imp.cnd
  ·refine Imp.op (f:=fun a => .ptr 0 7 (a*1)) (fun a h=>aOo h) (fun a=>rfl) fun F t => ?_;try simp only [evs,tys]
   refine Imp.op (f:=fun a=>PV.str a) (fun a h=>aGj (enc:=PV.str) (encT:=fun a=>PV.str a) (f:=fun z=>z) zI (by decide) (fun z=>by first | rfl | (simp only [evs,tys,evc,part];rfl)) (fun a=>by first | rfl | (simp only [evs,tys];rfl)) h) (fun a=>rfl) fun C y => ?_;try simp only [evs,tys]
   refine Imp.op (f:=fun a => .ptr 0 7 (a*1)) (fun a h=>aOo h) (fun a=>rfl) fun v k => ?_;try simp only [evs,tys]
   refine Imp.op (f:=fun a=>PV.str a) (fun a h=>aGj (enc:=PV.str) (encT:=fun a=>PV.str a) (f:=fun z=>z) zI (by decide) (fun z=>by first | rfl | (simp only [evs,tys,evc,part];rfl)) (fun a=>by first | rfl | (simp only [evs,tys];rfl)) h) (fun a=>rfl) fun B i => ?_;try simp only [evs,tys]
   refine Imp.op (f:=fun a => .ptr 0 7 (a*1)) (fun a h=>aOo h) (fun a=>rfl) fun r e => ?_;try simp only [evs,tys]
   refine Imp.opr (f:=fun a=>List.map PV.str a) (fun a h=>aYe (enc:=PV.str) zI (by decide) (by simp) (by rfl) (fun z=>by first | rfl | (simp only [evs,tys,evl,evc];rfl)) h) fun o g => ?_;try simp only [evs,tys]
   refine Imp.op (f:=fun a => .ptr 0 7 (a*1)) (fun a h=>aOo h) (fun a=>rfl) fun q j => ?_;try simp only [evs,tys]
   refine Imp.opr (f:=fun a=>List.map PV.str a) (fun a h=>aYe (enc:=PV.str) zI (by decide) (by simp) (by rfl) (fun z=>by first | rfl | (simp only [evs,tys,evl,evc];rfl)) h) fun n m => ?_;try simp only [evs,tys]
   exact zN
  ·exact zB ⟨c,zE⟩
 ·exact zB ⟨c,zE⟩
theorem aL8 b:Lok (aQG b) (kB b) (aCZ O aG) (aQH b):=by
 rintro ⟨a,e⟩ l u ⟨rfl,rfl⟩;simp only [kB,aCZ,zd,zr];refine zG ?_;try simp only [evs,tys]
 apply Imp.cnd
 ·refine zL (aL7 b a) ?_;rintro c _ ⟨d,rfl⟩;refine zH ?_;try simp only [evs,tys]
  exact zN
 ·exact zB ⟨a,zE⟩
theorem aQI d:Imp (aBb d) (aC0 O aG d) (Ri bU):=by
 simp only [aBb,aC0,zd,zr];try simp only [evs,tys]
 refine Imp.opr (f:=fun a=>List.map PV.str a) (fun a h=>bHx (enc:=PV.str) zI (fun a=>by first | rfl | simp only [evs,tys,evc]) h) fun e g => ?_;try simp only [evs,tys]
 refine zL (aL8 e) ?_;rintro b _ ⟨c,rfl⟩;refine zH ?_;try simp only [evs,tys]
 apply Imp.cnd;·exact zR
 ·exact Imp.none
theorem aQJ {a r} (h:aBb a=some r):aLf a=some r:=zV jU (aQI a) Tryz.func190 (aTF _ _ a) h
def aQK (O:Orc) (f:LBs) (s:GSchema) (d:Str) (a:Int) (b:Int) (c:Int):Option (PV×UP) :=
 aQ O 164 [(eS s),(.str d)] fun e=>cnd (chk (.tup [vS,.bool]) e)
 (cnd (bM (tv e 1))
 (cnd ((iv (tg e 0) 0)==a)
 (some ((.bool true),[]))
 (cnd ((iv (tg e 0) 0)==b)
 (some ((.bool true),[]))
 (some ((.bool ((iv (tg e 0) 0)==c)),[]))))
 (some ((.bool false),[]))) none
def aQL (s:GSchema) (d:Str) (a:Int) (b:Int) (c:Int):Option Bool :=
 bnd (aAN s d) fun e =>
 cnd e.2
 (cnd (e.1.kind==a)
 (some true)
 (cnd (e.1.kind==b)
 (some true)
 (some (e.1.kind==c))))
 (some false)
def bFm:Decs:={decs:=[(16,(.tup [vS,.bool]))]}
theorem bFn O e s (d:Str) a b c:eW 159 bFm Tryz.f159 O e [(eS s),(.str d),(i6 a),(i6 b),(i6 c)] []=aQK O e s d a b c:=by kernel_rfl
theorem bDv s d a b c:Imp (aQL s d a b c) (aQK O aG s d a b c) (Ri aA):=by
 simp only [aQL,aQK,zd,zr];try simp only [evs,tys]
 refine zC rfl fun e _ => ?_;try simp only [zes,evs,tys]
 apply Imp.cnd
 ·apply Imp.cnd;·exact zR
  ·apply Imp.cnd;·exact zR
   ·exact zR
 ·exact zR
theorem bDw {s d a b c r} (h:aQL s d a b c=some r):bDk s d a b c=some r:=zV aE (bDv s d a b c) Tryz.func159 (bFn _ _ s d a b c) h
def aC1 (O:Orc) (b:LBs) (a:Str):Option (PV×UP) :=
 cnd (a==([73,110,116]:Str))
 (some ((.bool true),[]))
 (cnd (a==([83,116,114,105,110,103]:Str))
 (some ((.bool true),[]))
 (cnd (a==([66,111,111,108,101,97,110]:Str))
 (some ((.bool true),[]))
 (some ((.bool (a==([73,68]:Str))),[]))))
def aBc (a:Str):Option Bool :=
 cnd (a==([73,110,116]:Str))
 (some true)
 (cnd (a==([83,116,114,105,110,103]:Str))
 (some true)
 (cnd (a==([66,111,111,108,101,97,110]:Str))
 (some true)
 (some (a==([73,68]:Str)))))
def aTG:Decs:={}
theorem aTH O b (a:Str):eW 156 aTG Tryz.f156 O b [(.str a)] []=aC1 O b a:=by kernel_rfl
theorem aQM a:Imp (aBc a) (aC1 O aG a) (Ri aA):=by
 simp only [aBc,aC1,zd,zr];try simp only [evs,tys]
 apply Imp.cnd;·exact zR
 ·apply Imp.cnd;·exact zR
  ·apply Imp.cnd;·exact zR
   ·exact zR
theorem aQN {a r} (h:aBc a=some r):aLg a=some r:=zV aE (aQM a) Tryz.func156 (aTH _ _ a) h
abbrev oR:List Sh:=[sf,.str,(.ptr 0 4 0),.bool,n6,.str,.str,n6,n6,.bool,n6,n6,.str,st',st']
def aFK (O:Orc) (e:LBs):bO:=fun a c=>cnd (chkL oR a) (cnd (chkU [] c)
 (cnd (decide ((iv a 4)<(List.length (ev a 0):Int)))
 (bnd (ix 10 (zs a 0) (zn a 4)) fun d=>cnd (chk (.ref mN) d)
 (cnd ((sv (rf d) 0)==(sv a 1))
 (bnd (ix 10 (zs a 0) (zn a 4)) fun b=>cnd (chk (.ref mN) b)
 (some (.ret,[(zs a 0),(zt a 1),(.ptr 0 4 0),(.bool true),(zn a 4),(zt (rf b) 0),(zt (rf b) 1),(zn (rf b) 2),(zn (rf b) 3),(zb (rf b) 4),(zn (rf b) 5),(zn (rf b) 6),(zt (rf b) 7),(zs (rf b) 8),(zs (rf b) 9)],[])) none)
 (some (.nrm,(pu (rb oR a) 4 (i6 (w6 ((iv a 4)+1)))),[]))) none)
 (some (.brk 0,(rb oR a),[]))) none) none
def aFL (O:Orc) (c:LBs) (d:List GParam) (b:Str):Option (PV×UP) :=
 bnd (c (aFK O c) [(zq bB d),(.str b),(.ptr 0 4 0),(.bool false),(i6 0),(.str []),(.str []),(i6 0),(i6 0),(.bool false),(i6 0),(i6 0),(.str []),(.slice [] [] true),(.slice [] [] true)] []) fun a =>
 exIs a.1 (some 0) (cnd (chkL oR a.2.1) (cnd (chkU [] a.2.2)
 (some ((.tuple [(.agg [(.str []),(.str []),(i6 0),(i6 0),(.bool false),(i6 0),(i6 0),(.str []),(.slice [] [] false),(.slice [] [] false)]),(.bool false)]),[])) none) none)
 (exIs a.1 none (cnd (chkL [sf,.str,(.ptr 0 4 0),.bool,n6,.str,.str,n6,n6,.bool,n6,n6,.str,sf,sf] a.2.1) (cnd (chkU [] a.2.2)
 (some ((.tuple [(.agg [(zt a.2.1 5),(zt a.2.1 6),(zn a.2.1 7),(zn a.2.1 8),(zb a.2.1 9),(zn a.2.1 10),(zn a.2.1 11),(zt a.2.1 12),(zs a.2.1 13),(zs a.2.1 14)]),(zb a.2.1 3)]),[])) none) none)
 (none))
def aC2 (d:List GParam) (c:Str):Int->Option (Int⊕(Unit⊕(Str×Str×Int×Int×Bool×Int×Int×Str×(List GValue)×(List GMember))))
 | b =>
 cnd (decide (b<(List.length d:Int)))
  (bnd (nthI d b) fun e =>
  cnd (e.name==c)
  (bnd (nthI d b) fun a =>
  some (.inr (.inr (a.name,a.t.name,a.t.lists,a.t.musts,a.has,a.default.kind,a.default.n,a.default.s,a.default.l,a.default.m))))
  (some (.inl (IntKind.wrap .i64 (b+1)))))
  (some (.inr (.inl ())))
abbrev aTI (b:List GParam) (a:Str) (st:Int) (l:List PV) (u:UP):Prop:=l=[(zq bB b),(.str a),(.ptr 0 4 0),(.bool false),(i6 st),(.str []),(.str []),(i6 0),(i6 0),(.bool false),(i6 0),(i6 0),(.str []),(.slice [] [] true),(.slice [] [] true)]/\u=[]
abbrev aTJ (d:List GParam) (a:Str) (p:Unit⊕(Str×Str×Int×Int×Bool×Int×Int×Str×(List GValue)×(List GMember))) (r:EU):Prop:=elim p (fun (p:Unit)=>∃ (c:Int),r=(Ex.brk 0,[(zq bB d),(.str a),(.ptr 0 4 0),(.bool false),(i6 c),(.str []),(.str []),(i6 0),(i6 0),(.bool false),(i6 0),(i6 0),(.str []),(.slice [] [] true),(.slice [] [] true)],[])) (fun e=>(fun (p:Str×Str×Int×Int×Bool×Int×Int×Str×(List GValue)×(List GMember))=>∃ (b:Int),r=(Ex.ret,[(zq bB d),(.str a),(.ptr 0 4 0),(.bool true),(i6 b),(.str p.1),(.str p.2.1),(i6 p.2.2.1),(i6 p.2.2.2.1),(.bool p.2.2.2.2.1),(i6 p.2.2.2.2.2.1),(i6 p.2.2.2.2.2.2.1),(.str p.2.2.2.2.2.2.2.1),(zq aJ p.2.2.2.2.2.2.2.2.1),(zq aD p.2.2.2.2.2.2.2.2.2)],[])) e)
def aDT (d:List GParam) (c:Str):Option (GParam×Bool) :=
 bnd (aX (aC2 d c) 0) fun b=>elim b
 (fun a =>
 some ((GParam.mk [] (GType.mk [] 0 0) false (GValue.mk 0 0 [] ([]:List GValue) ([]:List GMember))),false))
 (fun a =>
 some ((GParam.mk a.1 (GType.mk a.2.1 a.2.2.1 a.2.2.2.1) a.2.2.2.2.1 (GValue.mk a.2.2.2.2.2.1 a.2.2.2.2.2.2.1 a.2.2.2.2.2.2.2.1 a.2.2.2.2.2.2.2.2.1 a.2.2.2.2.2.2.2.2.2)),true))
def aW3:Decs:={decs:=[(15,(.ref mN)),(22,(.ref mN))],loops:=[(2,[(4,10)],⟨oR,[],[(some 0,oR,[]),(none,[sf,.str,(.ptr 0 4 0),.bool,n6,.str,.str,n6,n6,.bool,n6,n6,.str,sf,sf],[])]⟩)]}
theorem aW4 O b c (a:Str):eW 193 aW3 Tryz.f193 O b [(zq bB c),(.str a)] []=aFL O b c a:=by kernel_rfl
theorem aNN c a:Lok (aTI c a) (aC2 c a) (aFK O aG) (aTJ c a):=by
 rintro b l u ⟨rfl,rfl⟩;simp only [aC2,aFK,zd,zr];refine zG ?_;try simp only [evs,tys]
 apply Imp.cnd
 ·refine zX bB rB fun e _ => ?_;try simp only [evs,tys]
  apply Imp.cnd
  ·refine zX bB rB fun d _ => ?_;try simp only [evs,tys]
   exact zT ⟨b,zE⟩
  ·exact zN
 ·exact zB ⟨b,zE⟩
theorem aTK c a:Imp (aDT c a) (aFL O aG c a) (Ri aAg):=by
 simp only [aDT,aFL,zd,zr];try simp only [evs,tys]
 refine zL (aNN c a) ?_;rintro (p | ⟨j,i,o,k,g,q,l,m,d,n⟩) f b
 ·try simp only [aO,aP]
  obtain ⟨h,rfl⟩:=b;refine zH ?_;try simp only [evs,tys]
  exact zR
 ·try simp only [aO,aP]
  obtain ⟨e,rfl⟩:=b;refine Imp.exMiss rfl ?_;refine zH ?_;try simp only [evs,tys]
  exact zR
theorem aTL {b a r} (h:aDT b a=some r):aPQ b a=some r:=zV bAl (aTK b a) Tryz.func193 (aW4 _ _ b a) h
abbrev uZ:List Sh:=[.str,sf,(.ptr 0 4 0),.bool,n6,n6,n6,.str,st',st']
def aL9 (O:Orc) (e:LBs):bO:=fun a c=>cnd (chkL uZ a) (cnd (chkU [] c)
 (cnd (decide ((iv a 4)<(List.length (ev a 1):Int)))
 (bnd (ix 6 (zs a 1) (zn a 4)) fun d=>cnd (chk (.ref dA) d)
 (cnd ((sv (rf d) 0)==(sv a 0))
 (bnd (ix 6 (zs a 1) (zn a 4)) fun b=>cnd (chk (.ref dA) b)
 (some (.ret,[(zt a 0),(zs a 1),(.ptr 0 4 0),(.bool true),(zn a 4),(zn (rf b) 1),(zn (rf b) 2),(zt (rf b) 3),(zs (rf b) 4),(zs (rf b) 5)],[])) none)
 (some (.nrm,(pu (rb uZ a) 4 (i6 (w6 ((iv a 4)+1)))),[]))) none)
 (some (.brk 0,(rb uZ a),[]))) none) none
def aMa (O:Orc) (c:LBs) (b:Str) (d:List GMember):Option (PV×UP) :=
 bnd (c (aL9 O c) [(.str b),(zq aD d),(.ptr 0 4 0),(.bool false),(i6 0),(i6 0),(i6 0),(.str []),(.slice [] [] true),(.slice [] [] true)] []) fun a =>
 exIs a.1 (some 0) (cnd (chkL uZ a.2.1) (cnd (chkU [] a.2.2)
 (some ((.tuple [(.agg [(i6 0),(i6 0),(.str []),(.slice [] [] false),(.slice [] [] false)]),(.bool false)]),[])) none) none)
 (exIs a.1 none (cnd (chkL [.str,sf,(.ptr 0 4 0),.bool,n6,n6,n6,.str,sf,sf] a.2.1) (cnd (chkU [] a.2.2)
 (some ((.tuple [(.agg [(zn a.2.1 5),(zn a.2.1 6),(zt a.2.1 7),(zs a.2.1 8),(zs a.2.1 9)]),(zb a.2.1 3)]),[])) none) none)
 (none))
def vA (c:Str) (d:List GMember):Int->Option (Int⊕(Unit⊕(Int×Int×Str×(List GValue)×(List GMember))))
 | b =>
 cnd (decide (b<(List.length d:Int)))
  (bnd (nthI d b) fun e =>
  cnd (e.name==c)
  (bnd (nthI d b) fun a =>
  some (.inr (.inr (a.v.kind,a.v.n,a.v.s,a.v.l,a.v.m))))
  (some (.inl (IntKind.wrap .i64 (b+1)))))
  (some (.inr (.inl ())))
abbrev bAZ (a:Str) (b:List GMember) (st:Int) (l:List PV) (u:UP):Prop:=l=[(.str a),(zq aD b),(.ptr 0 4 0),(.bool false),(i6 st),(i6 0),(i6 0),(.str []),(.slice [] [] true),(.slice [] [] true)]/\u=[]
abbrev bA0 (a:Str) (d:List GMember) (p:Unit⊕(Int×Int×Str×(List GValue)×(List GMember))) (r:EU):Prop:=elim p (fun (p:Unit)=>∃ (c:Int),r=(Ex.brk 0,[(.str a),(zq aD d),(.ptr 0 4 0),(.bool false),(i6 c),(i6 0),(i6 0),(.str []),(.slice [] [] true),(.slice [] [] true)],[])) (fun e=>(fun (p:Int×Int×Str×(List GValue)×(List GMember))=>∃ (b:Int),r=(Ex.ret,[(.str a),(zq aD d),(.ptr 0 4 0),(.bool true),(i6 b),(i6 p.1),(i6 p.2.1),(.str p.2.2.1),(zq aJ p.2.2.2.1),(zq aD p.2.2.2.2)],[])) e)
def aGO (c:Str) (d:List GMember):Option (GValue×Bool) :=
 bnd (aX (vA c d) 0) fun b=>elim b
 (fun a =>
 some ((GValue.mk 0 0 [] ([]:List GValue) ([]:List GMember)),false))
 (fun a =>
 some ((GValue.mk a.1 a.2.1 a.2.2.1 a.2.2.2.1 a.2.2.2.2),true))
def bDx:Decs:={decs:=[(15,(.ref dA)),(22,(.ref dA))],loops:=[(2,[(4,5)],⟨uZ,[],[(some 0,uZ,[]),(none,[.str,sf,(.ptr 0 4 0),.bool,n6,n6,n6,.str,sf,sf],[])]⟩)]}
theorem bDy O b (a:Str) c:eW 219 bDx Tryz.f219 O b [(.str a),(zq aD c)] []=aMa O b a c:=by kernel_rfl
theorem aTM a c:Lok (bAZ a c) (vA a c) (aL9 O aG) (bA0 a c):=by
 rintro b l u ⟨rfl,rfl⟩;simp only [vA,aL9,zd,zr];refine zG ?_;try simp only [evs,tys]
 apply Imp.cnd
 ·refine zX aD eE fun e _ => ?_;try simp only [evs,tys]
  apply Imp.cnd
  ·refine zX aD eE fun d _ => ?_;try simp only [evs,tys]
   exact zT ⟨b,zE⟩
  ·exact zN
 ·exact zB ⟨b,zE⟩
theorem bA1 a c:Imp (aGO a c) (aMa O aG a c) (Ri aHz):=by
 simp only [aGO,aMa,zd,zr];try simp only [evs,tys]
 refine zL (aTM a c) ?_;rintro (p | ⟨g,f,k,i,j⟩) h b
 ·try simp only [aO,aP]
  obtain ⟨e,rfl⟩:=b;refine zH ?_;try simp only [evs,tys]
  exact zR
 ·try simp only [aO,aP]
  obtain ⟨d,rfl⟩:=b;refine Imp.exMiss rfl ?_;refine zH ?_;try simp only [evs,tys]
  exact zR
theorem aOz {a b r} (h:aGO a b=some r):aYJ a b=some r:=zV bFj (bA1 a b) Tryz.func219 (bDy _ _ a b) h
def aQO (O:Orc) (b:LBs) (t:GType):Option (PV×UP) :=
 aQ O 101 [(eT t)] fun a=>cnd (chk .bool a)
 (cnd (bM a)
 (some ((.bool ((bits .and .i64 t.musts 1)==1)),[]))
 (some ((.bool false),[]))) none
def aQP (t:GType):Option Bool :=
 bnd (sO t) fun a =>
 cnd a
 (some ((bits .and .i64 t.musts 1)==1))
 (some false)
def bFo:Decs:={decs:=[(4,.bool)]}
theorem bFp O a t:eW 195 bFo Tryz.f195 O a [(eT t)] []=aQO O a t:=by kernel_rfl
theorem bDz t:Imp (aQP t) (aQO O aG t) (Ri aA):=by
 simp only [aQP,aQO,zd,zr];try simp only [evs,tys]
 refine zC rfl fun a _ => ?_;try simp only [zes,evs,tys]
 apply Imp.cnd;·exact zR
 ·exact zR
theorem bDA {t r} (h:aQP t=some r):bHR t=some r:=zV aE (bDz t) Tryz.func195 (bFp _ _ t) h
def aFM (O:Orc) (a:LBs) (c:Int):Option (PV×UP) :=
 cnd (decide (c≥48))
 (some ((.bool (decide (c<=57))),[]))
 (some ((.bool false),[]))
def aDU (c:Int):Option Bool :=
 cnd (decide (c≥48))
 (some (decide (c<=57)))
 (some false)
def aW5:Decs:={}
theorem aW6 O a c:eW 170 aW5 Tryz.f170 O a [(.int .u8 c)] []=aFM O a c:=by kernel_rfl
theorem aTN c:Imp (aDU c) (aFM O aG c) (Ri aA):=by
 simp only [aDU,aFM,zd,zr];try simp only [evs,tys]
 apply Imp.cnd;·exact zR
 ·exact zR
theorem aTO {c r} (h:aDU c=some r):aJ0 c=some r:=zV aE (aTN c) Tryz.func170 (aW6 _ _ c) h
def wO (O:Orc) (c:LBs) (s:GSchema) (a:Str):Option (PV×UP) :=
 aQ O 159 [(eS s),(.str a),(i6 1),(i6 2),(i6 3)] fun b=>cnd (chk .bool b)
 (some ((.bool (bM b)),[])) none
def sD (s:GSchema) (a:Str):Option Bool :=
 bnd (bDk s a 1 2 3) fun b =>
 some b
def aMb:Decs:={decs:=[(7,.bool)]}
theorem aMc O b s (a:Str):eW 112 aMb Tryz.f112 O b [(eS s),(.str a)] []=wO O b s a:=by kernel_rfl
theorem aJG s a:Imp (sD s a) (wO O aG s a) (Ri aA):=by
 simp only [sD,wO,zd,zr];try simp only [evs,tys]
 refine zC rfl fun b _ => ?_;try simp only [zes,evs,tys]
 exact zR
theorem aJH {s a r} (h:sD s a=some r):aCw s a=some r:=zV aE (aJG s a) Tryz.func112 (aMc _ _ s a) h
abbrev fY:List Sh:=[.str,(.ptr 0 6 0),.bool,(.ptr 0 8 0),n6,n6,.str,sf,sf,sf,sf,.str,st',.str,n6,n6,st',sf,.str,.str]
def rN (O:Orc) (e:LBs):bO:=fun b d=>cnd (chkL fY b) (cnd (chkU [] d)
 (cnd (decide ((iv b 4)<(List.length (ev b 8):Int)))
 (bnd (ix 6 (zs b 8) (zn b 4)) fun c=>cnd (chk (.ref oE) c)
 (cnd ((sv (rf c) 0)==(sv b 0))
 (bnd (ix 6 (zs b 8) (zn b 4)) fun a=>cnd (chk (.ref oE) a)
 (some (.ret,(pu (pu (pu (pu (pu (pu (pu (rb fY b) 2 (.bool true)) 11 (zt (rf a) 0)) 12 (zs (rf a) 1)) 13 (zt (rf a) 2)) 14 (zn (rf a) 3)) 15 (zn (rf a) 4)) 16 (zs (rf a) 5)),[])) none)
 (some (.nrm,(pu (rb fY b) 4 (i6 (w6 ((iv b 4)+1)))),[]))) none)
 (some (.brk 0,(rb fY b),[]))) none) none
def aFN (O:Orc) (g:LBs) (s:GSchema) (h:Str) (f:Str):Option (PV×UP) :=
 cnd (f==([95,95,116,121,112,101,110,97,109,101]:Str))
 (aQ O 112 [(eS s),(.str h)] fun i=>cnd (chk .bool i)
 (cnd (bM i)
 (some ((.tuple [(.agg [(.str f),(.slice [] [] false),(.str [83,116,114,105,110,103]),(i6 0),(i6 1),(.slice [] [] false)]),(.bool true)]),[]))
 (aQ O 164 [(eS s),(.str h)] fun x3=>cnd (chk (.tup [vS,.bool]) x3)
 (cnd ((iv (tg x3 0) 0) != 1)
 (cnd ((iv (tg x3 0) 0) != 2)
 (some ((.tuple [(.agg [(.str []),(.slice [] [] false),(.str []),(i6 0),(i6 0),(.slice [] [] false)]),(.bool false)]),[]))
 (bnd (g (rN O g) [(.str f),(.ptr 0 6 0),(.bool false),(.ptr 0 8 0),(i6 0),(zn (tg x3 0) 0),(zt (tg x3 0) 1),(zs (tg x3 0) 2),(zs (tg x3 0) 3),(zs (tg x3 0) 4),(zs (tg x3 0) 5),(.str []),(.slice [] [] true),(.str []),(i6 0),(i6 0),(.slice [] [] true),(zq aL s.defs),(.str s.query),(.str s.mutation)] []) fun e =>
 exIs e.1 (some 0) (cnd (chkL fY e.2.1) (cnd (chkU [] e.2.2)
 (some ((.tuple [(.agg [(.str []),(.slice [] [] false),(.str []),(i6 0),(i6 0),(.slice [] [] false)]),(.bool false)]),[])) none) none)
 (exIs e.1 none (cnd (chkL [.str,(.ptr 0 6 0),.bool,(.ptr 0 8 0),n6,n6,.str,sf,sf,sf,sf,.str,sf,.str,n6,n6,sf,sf,.str,.str] e.2.1) (cnd (chkU [] e.2.2)
 (some ((.tuple [(.agg [(zt e.2.1 11),(zs e.2.1 12),(zt e.2.1 13),(zn e.2.1 14),(zn e.2.1 15),(zs e.2.1 16)]),(zb e.2.1 2)]),[])) none) none)
 (none))))
 (bnd (g (rN O g) [(.str f),(.ptr 0 6 0),(.bool false),(.ptr 0 8 0),(i6 0),(zn (tg x3 0) 0),(zt (tg x3 0) 1),(zs (tg x3 0) 2),(zs (tg x3 0) 3),(zs (tg x3 0) 4),(zs (tg x3 0) 5),(.str []),(.slice [] [] true),(.str []),(i6 0),(i6 0),(.slice [] [] true),(zq aL s.defs),(.str s.query),(.str s.mutation)] []) fun d =>
 exIs d.1 (some 0) (cnd (chkL fY d.2.1) (cnd (chkU [] d.2.2)
 (some ((.tuple [(.agg [(.str []),(.slice [] [] false),(.str []),(i6 0),(i6 0),(.slice [] [] false)]),(.bool false)]),[])) none) none)
 (exIs d.1 none (cnd (chkL [.str,(.ptr 0 6 0),.bool,(.ptr 0 8 0),n6,n6,.str,sf,sf,sf,sf,.str,sf,.str,n6,n6,sf,sf,.str,.str] d.2.1) (cnd (chkU [] d.2.2)
 (some ((.tuple [(.agg [(zt d.2.1 11),(zs d.2.1 12),(zt d.2.1 13),(zn d.2.1 14),(zn d.2.1 15),(zs d.2.1 16)]),(zb d.2.1 2)]),[])) none) none)
 (none)))) none)) none)
 (aQ O 164 [(eS s),(.str h)] fun a=>cnd (chk (.tup [vS,.bool]) a)
 (cnd ((iv (tg a 0) 0) != 1)
 (cnd ((iv (tg a 0) 0) != 2)
 (some ((.tuple [(.agg [(.str []),(.slice [] [] false),(.str []),(i6 0),(i6 0),(.slice [] [] false)]),(.bool false)]),[]))
 (bnd (g (rN O g) [(.str f),(.ptr 0 6 0),(.bool false),(.ptr 0 8 0),(i6 0),(zn (tg a 0) 0),(zt (tg a 0) 1),(zs (tg a 0) 2),(zs (tg a 0) 3),(zs (tg a 0) 4),(zs (tg a 0) 5),(.str []),(.slice [] [] true),(.str []),(i6 0),(i6 0),(.slice [] [] true),(zq aL s.defs),(.str s.query),(.str s.mutation)] []) fun c =>
 exIs c.1 (some 0) (cnd (chkL fY c.2.1) (cnd (chkU [] c.2.2)
 (some ((.tuple [(.agg [(.str []),(.slice [] [] false),(.str []),(i6 0),(i6 0),(.slice [] [] false)]),(.bool false)]),[])) none) none)
 (exIs c.1 none (cnd (chkL [.str,(.ptr 0 6 0),.bool,(.ptr 0 8 0),n6,n6,.str,sf,sf,sf,sf,.str,sf,.str,n6,n6,sf,sf,.str,.str] c.2.1) (cnd (chkU [] c.2.2)
 (some ((.tuple [(.agg [(zt c.2.1 11),(zs c.2.1 12),(zt c.2.1 13),(zn c.2.1 14),(zn c.2.1 15),(zs c.2.1 16)]),(zb c.2.1 2)]),[])) none) none)
 (none))))
 (bnd (g (rN O g) [(.str f),(.ptr 0 6 0),(.bool false),(.ptr 0 8 0),(i6 0),(zn (tg a 0) 0),(zt (tg a 0) 1),(zs (tg a 0) 2),(zs (tg a 0) 3),(zs (tg a 0) 4),(zs (tg a 0) 5),(.str []),(.slice [] [] true),(.str []),(i6 0),(i6 0),(.slice [] [] true),(zq aL s.defs),(.str s.query),(.str s.mutation)] []) fun b =>
 exIs b.1 (some 0) (cnd (chkL fY b.2.1) (cnd (chkU [] b.2.2)
 (some ((.tuple [(.agg [(.str []),(.slice [] [] false),(.str []),(i6 0),(i6 0),(.slice [] [] false)]),(.bool false)]),[])) none) none)
 (exIs b.1 none (cnd (chkL [.str,(.ptr 0 6 0),.bool,(.ptr 0 8 0),n6,n6,.str,sf,sf,sf,sf,.str,sf,.str,n6,n6,sf,sf,.str,.str] b.2.1) (cnd (chkU [] b.2.2)
 (some ((.tuple [(.agg [(zt b.2.1 11),(zs b.2.1 12),(zt b.2.1 13),(zn b.2.1 14),(zn b.2.1 15),(zs b.2.1 16)]),(zb b.2.1 2)]),[])) none) none)
 (none)))) none)
def fZ (c:Str) (d:GDef×Bool):Int->Option (Int⊕(Unit⊕(Str×(List GParam)×Str×Int×Int×(List GDir))))
 | a =>
 cnd (decide (a<(List.length d.1.fields:Int)))
  (bnd (nthI d.1.fields a) fun e =>
  cnd (e.name==c)
  (bnd (nthI d.1.fields a) fun b =>
  some (.inr (.inr (b.name,b.params,b.t.name,b.t.lists,b.t.musts,b.dirs))))
  (some (.inl (IntKind.wrap .i64 (a+1)))))
  (some (.inr (.inl ())))
abbrev aC3 (s:GSchema) (name:Str) (a:GDef×Bool) (d f g e i c b h:PV):List PV:=[(.str name),(.ptr 0 6 0),d,(.ptr 0 8 0),f,(i6 a.1.kind),(.str a.1.name),(zq PV.str a.1.faces),(zq bL a.1.fields),(zq PV.str a.1.parts),(zq bB a.1.params),g,e,i,c,b,h,(zq aL s.defs),(.str s.query),(.str s.mutation)]
abbrev aIY (s:GSchema) (a:Str) (b:GDef×Bool) (st:Int) (l:List PV) (u:UP):Prop:=l=(aC3 s a b (.bool false) (i6 st) (.str []) (.slice [] [] true) (.str []) (i6 0) (i6 0) (.slice [] [] true))/\u=[]
abbrev aTP (s:GSchema) (a:Str) (d:GDef×Bool) (p:Unit⊕(Str×(List GParam)×Str×Int×Int×(List GDir))) (r:EU):Prop:=elim p (fun (p:Unit)=>∃ (c:Int),r=(Ex.brk 0,(aC3 s a d (.bool false) (i6 c) (.str []) (.slice [] [] true) (.str []) (i6 0) (i6 0) (.slice [] [] true)),[])) (fun (p:Str×(List GParam)×Str×Int×Int×(List GDir))=>∃ (b:Int),r=(Ex.ret,(aC3 s a d (.bool true) (i6 b) (.str p.1) (zq bB p.2.1) (.str p.2.2.1) (i6 p.2.2.2.1) (i6 p.2.2.2.2.1) (zq aI p.2.2.2.2.2)),[]))
def aDV (s:GSchema) (k:Str) (a:Str):Option (GFieldDef×Bool) :=
 cnd (a==([95,95,116,121,112,101,110,97,109,101]:Str))
 (bnd (aCw s k) fun m =>
 cnd m
 (some ((GFieldDef.mk a ([]:List GParam) (GType.mk [83,116,114,105,110,103] 0 1) ([]:List GDir)),true))
 (bnd (aAN s k) fun l =>
 cnd (l.1.kind != 1)
 (cnd (l.1.kind != 2)
 (some ((GFieldDef.mk [] ([]:List GParam) (GType.mk [] 0 0) ([]:List GDir)),false))
 (bnd (aX (fZ a l) 0) fun h=>elim h
 (fun d =>
 some ((GFieldDef.mk [] ([]:List GParam) (GType.mk [] 0 0) ([]:List GDir)),false))
 (fun d =>
 some ((GFieldDef.mk d.1 d.2.1 (GType.mk d.2.2.1 d.2.2.2.1 d.2.2.2.2.1) d.2.2.2.2.2),true))))
 (bnd (aX (fZ a l) 0) fun g=>elim g
 (fun b =>
 some ((GFieldDef.mk [] ([]:List GParam) (GType.mk [] 0 0) ([]:List GDir)),false))
 (fun b =>
 some ((GFieldDef.mk b.1 b.2.1 (GType.mk b.2.2.1 b.2.2.2.1 b.2.2.2.2.1) b.2.2.2.2.2),true)))))
 (bnd (aAN s k) fun f =>
 cnd (f.1.kind != 1)
 (cnd (f.1.kind != 2)
 (some ((GFieldDef.mk [] ([]:List GParam) (GType.mk [] 0 0) ([]:List GDir)),false))
 (bnd (aX (fZ a f) 0) fun j=>elim j
 (fun c =>
 some ((GFieldDef.mk [] ([]:List GParam) (GType.mk [] 0 0) ([]:List GDir)),false))
 (fun c =>
 some ((GFieldDef.mk c.1 c.2.1 (GType.mk c.2.2.1 c.2.2.2.1 c.2.2.2.2.1) c.2.2.2.2.2),true))))
 (bnd (aX (fZ a f) 0) fun i=>elim i
 (fun e =>
 some ((GFieldDef.mk [] ([]:List GParam) (GType.mk [] 0 0) ([]:List GDir)),false))
 (fun e =>
 some ((GFieldDef.mk e.1 e.2.1 (GType.mk e.2.2.1 e.2.2.2.1 e.2.2.2.2.1) e.2.2.2.2.2),true))))
def aW7:Decs:={decs:=[(16,.bool),(24,(.tup [vS,.bool])),(46,(.ref oE)),(54,(.ref oE))],loops:=[(7,[(8,6),(6,6),(3,3)],⟨fY,[],[(some 0,fY,[]),(none,[.str,(.ptr 0 6 0),.bool,(.ptr 0 8 0),n6,n6,.str,sf,sf,sf,sf,.str,sf,.str,n6,n6,sf,sf,.str,.str],[])]⟩)]}
theorem aW8 O c s (b:Str) (a:Str):eW 117 aW7 Tryz.f117 O c [(eS s),(.str b),(.str a)] []=aFN O c s b a:=by kernel_rfl
theorem sE s a c:∀ st l u,aIY s a c st l u->Imp (fZ a c st) (rN O aG l u) (oY (aIY s a c) (aTP s a c)):=by
 rintro b l u ⟨rfl,rfl⟩;simp only [fZ,rN,zd,zr];refine zG ?_;try simp only [evs,tys]
 apply Imp.cnd
 ·refine zX bL aAJ fun e _ => ?_;try simp only [evs,tys]
  apply Imp.cnd
  ·refine zX bL aAJ fun d _ => ?_;try simp only [evs,tys]
   exact zT ⟨b,zE⟩
  ·exact zN
 ·exact zB ⟨b,zE⟩
theorem aTQ s f a:Imp (aDV s f a) (aFN O aG s f a) (Ri aAh):=by
 simp only [aDV,aFN,zd,zr];try simp only [evs,tys]
 apply Imp.cnd
 ·refine zC rfl fun y2 _ => ?_;try simp only [zes,evs,tys]
  apply Imp.cnd;·exact zR
  ·refine zC rfl fun q _ => ?_;try simp only [zes,evs,tys]
   apply Imp.cnd
   ·apply Imp.cnd;·exact zR
    ·refine zL (sE s a q) ?_;rintro (p | ⟨m,b_18,b_19,b_20,b_21,x⟩) i e
     ·try simp only [aO,aP]
      obtain ⟨i_15,rfl⟩:=e;refine zH ?_;try simp only [evs,tys]
      exact zR
     ·try simp only [aO,aP]
      obtain ⟨i_16,rfl⟩:=e;refine Imp.exMiss rfl ?_;refine zH ?_;try simp only [evs,tys]
      exact zR
   ·refine zL (sE s a q) ?_;rintro (p | ⟨b_36,b_37,j,b_39,h,o⟩) vy42 d
    ·try simp only [aO,aP]
     obtain ⟨r,rfl⟩:=d;refine zH ?_;try simp only [evs,tys]
     exact zR
    ·try simp only [aO,aP]
     obtain ⟨i_35,rfl⟩:=d;refine Imp.exMiss rfl ?_;refine zH ?_;try simp only [evs,tys]
     exact zR
 ·refine zC rfl fun g _ => ?_;try simp only [zes,evs,tys]
  apply Imp.cnd
  ·apply Imp.cnd;·exact zR
   ·refine zL (sE s a g) ?_;rintro (p | ⟨v,n,b_59,b_60,b_61,t⟩) vy63 c
    ·try simp only [aO,aP]
     obtain ⟨i_55,rfl⟩:=c;refine zH ?_;try simp only [evs,tys]
     exact zR
    ·try simp only [aO,aP]
     obtain ⟨u,rfl⟩:=c;refine Imp.exMiss rfl ?_;refine zH ?_;try simp only [evs,tys]
     exact zR
  ·refine zL (sE s a g) ?_;rintro (p | ⟨b_76,b_77,l,b_79,b_80,w⟩) vy82 b
   ·try simp only [aO,aP]
    obtain ⟨y,rfl⟩:=b;refine zH ?_;try simp only [evs,tys]
    exact zR
   ·try simp only [aO,aP]
    obtain ⟨k,rfl⟩:=b;refine Imp.exMiss rfl ?_;refine zH ?_;try simp only [evs,tys]
    exact zR
theorem aTR {s b a r} (h:aDV s b a=some r):aPR s b a=some r:=zV bAm (aTQ s b a) Tryz.func117 (aW8 _ _ s b a) h
def aFO (O:Orc) (a:LBs) (c:Int):Option (PV×UP) :=
 cnd (decide (c≥97))
 (cnd (decide (c<=122))
 (some ((.bool true),[]))
 (cnd (decide (c≥65))
 (cnd (decide (c<=90))
 (some ((.bool true),[]))
 (some ((.bool (c==95)),[])))
 (some ((.bool (c==95)),[]))))
 (cnd (decide (c≥65))
 (cnd (decide (c<=90))
 (some ((.bool true),[]))
 (some ((.bool (c==95)),[])))
 (some ((.bool (c==95)),[])))
def aDW (c:Int):Option Bool :=
 cnd (decide (c≥97))
 (cnd (decide (c<=122))
 (some true)
 (cnd (decide (c≥65))
 (cnd (decide (c<=90))
 (some true)
 (some (c==95)))
 (some (c==95))))
 (cnd (decide (c≥65))
 (cnd (decide (c<=90))
 (some true)
 (some (c==95)))
 (some (c==95)))
def aW9:Decs:={}
theorem aXa O a c:eW 169 aW9 Tryz.f169 O a [(.int .u8 c)] []=aFO O a c:=by kernel_rfl
theorem aTS c:Imp (aDW c) (aFO O aG c) (Ri aA):=by
 simp only [aDW,aFO,zd,zr];try simp only [evs,tys]
 apply Imp.cnd
 ·apply Imp.cnd;·exact zR
  ·apply Imp.cnd
   ·apply Imp.cnd;·exact zR
    ·exact zR
   ·exact zR
 ·apply Imp.cnd
  ·apply Imp.cnd;·exact zR
   ·exact zR
  ·exact zR
theorem aTT {c r} (h:aDW c=some r):aJ1 c=some r:=zV aE (aTS c) Tryz.func169 (aXa _ _ c) h
end Go.Proofs.YtphmfillajagdaaGreat

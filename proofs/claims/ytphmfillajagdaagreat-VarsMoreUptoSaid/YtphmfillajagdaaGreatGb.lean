import Derived.Test.YtphmfillajagdaaGreatGa
noncomputable section
set_option maxRecDepth 100000
set_option linter.unusedVariables false
set_option linter.unusedSimpArgs false
set_option linter.unusedSimpArgs false
open Go Go.Ev Go.Ev.PV
namespace Go.Proofs.YtphmfillajagdaaGreat
abbrev jY:List Sh:=[n6,(.ptr 0 3 0),(.ptr 0 4 0),.bool,n6,sf,sf,sf,.str,.str]
def aHA (O:Orc) (d:LBs):bO:=fun a b=>cnd (chkL jY a) (cnd (chkU [] b)
 (cnd (decide ((iv a 4)<(iv a 0)))
 (aQ O 20 [(.agg [(zs a 7),(zt a 8),(zt a 9)]),(.agg [(zs a 5),(zs a 6)]),(zn a 4)] fun c=>cnd (chk .bool c)
 (cnd (!(bM c))
 (some (.ret,(pu (rb jY a) 3 (.bool false)),[]))
 (some (.nrm,(pu (rb jY a) 4 (i6 (w6 ((iv a 4)+1)))),[]))) none)
 (some (.brk 0,(rb jY a),[]))) none) none
def aHB (O:Orc) (c:LBs) (s:GSchema) (d:GDoc) (n:Int):Option (PV×UP) :=
 aQ O 33 [(eD d)] fun b=>cnd (chk .bool b)
 (cnd (!(bM b))
 (some ((.bool false),[]))
 (bnd (c (aHA O c) [(i6 n),(.ptr 0 3 0),(.ptr 0 4 0),(.bool false),(i6 1),(zq aR d.ops),(zq aH d.frags),(zq aL s.defs),(.str s.query),(.str s.mutation)] []) fun a =>
 exIs a.1 (some 0) (cnd (chkL jY a.2.1) (cnd (chkU [] a.2.2)
 (some ((.bool true),[])) none) none)
 (exIs a.1 none (cnd (chkL jY a.2.1) (cnd (chkU [] a.2.2)
 (some ((zb a.2.1 3),[])) none) none)
 (none)))) none
def nM (s:GSchema) (d:GDoc) (n:Int):Int->Option (Int⊕(Unit⊕Unit))
 | a =>
 cnd (decide (a<n))
  (bnd (yG s d a) fun b =>
  cnd (!b)
  (some (.inr (.inr ())))
  (some (.inl (IntKind.wrap .i64 (a+1)))))
  (some (.inr (.inl ())))
abbrev aE3 (s:GSchema) (d:GDoc) (n:Int) (a:PV):List PV:=[(i6 n),(.ptr 0 3 0),(.ptr 0 4 0),(.bool false),a,(zq aR d.ops),(zq aH d.frags),(zq aL s.defs),(.str s.query),(.str s.mutation)]
abbrev aVQ (s:GSchema) (d:GDoc) (n:Int) (st:Int) (l:List PV) (u:UP):Prop:=l=(aE3 s d n (i6 st))/\u=[]
abbrev aVR (s:GSchema) (d:GDoc) (n:Int) (p:Unit⊕Unit) (r:EU):Prop:=elim p (fun (p:Unit)=>∃ (b:Int),r=(Ex.brk 0,(aE3 s d n (i6 b)),[])) (fun (p:Unit)=>∃ (a:Int),r=(Ex.ret,(aE3 s d n (i6 a)),[]))
def aAj (s:GSchema) (d:GDoc) (n:Int):Option Bool :=
 bnd (aYI d) fun c =>
 cnd (!c)
 (some false)
 (bnd (aX (nM s d n) 1) fun a=>elim a
 (fun b =>
 some true)
 (fun b =>
 some false))
def bAn:Decs:={decs:=[(9,.bool),(19,.bool)],loops:=[(4,[(4,2),(3,3)],⟨jY,[],[(some 0,jY,[]),(none,jY,[])]⟩)]}
theorem bAo O a s d n:eW 11 bAn Tryz.f11 O a [(eS s),(eD d),(i6 n)] []=aHB O a s d n:=by kernel_rfl
theorem aPT s d n:Lok (aVQ s d n) (nM s d n) (aHA O aG) (aVR s d n):=by
 rintro a l u ⟨rfl,rfl⟩;simp only [nM,aHA,zd,zr];refine zG ?_;try simp only [evs,tys]
 apply Imp.cnd
 ·refine zC rfl fun b _ => ?_;try simp only [zes,evs,tys]
  apply Imp.cnd;·exact zT ⟨a,zE⟩
  ·exact zN
 ·exact zB ⟨a,zE⟩
theorem aVS s d n:Imp (aAj s d n) (aHB O aG s d n) (Ri aA):=by
 simp only [aAj,aHB,zd,zr];try simp only [evs,tys]
 refine zC rfl fun f _ => ?_;try simp only [zes,evs,tys]
 apply Imp.cnd;·exact zR
 ·refine zL (aPT s d n) ?_;rintro (p | p) b a
  ·try simp only [aO,aP]
   obtain ⟨e,rfl⟩:=a;refine zH ?_;try simp only [evs,tys]
   exact zR
  ·try simp only [aO,aP]
   obtain ⟨c,rfl⟩:=a;refine Imp.exMiss rfl ?_;refine zH ?_;try simp only [evs,tys]
   exact zR
theorem aE4 {s d n r} (h:aAj s d n=some r):aVH s d n=some r:=zV aE (aVS s d n) Tryz.func11 (bAo _ _ s d n) h
def nN (O:Orc) (b:LBs) (s:GSchema) (d:GDoc):Option (PV×UP) :=
 aQ O 30 [(eS s)] fun a=>cnd (chk .bool a)
 (cnd (bM a)
 (aQ O 31 [(eD d)] fun x3=>cnd (chk .bool x3)
 (some ((.bool (bM x3)),[])) none)
 (some ((.bool false),[]))) none
def kU (s:GSchema) (d:GDoc):Option Bool :=
 bnd (aCp s) fun b =>
 cnd b
 (bnd (aCq d) fun a =>
 some a)
 (some false)
def aE5:Decs:={decs:=[(6,.bool),(9,.bool)]}
theorem aE6 O a s d:eW 25 aE5 Tryz.f25 O a [(eS s),(eD d)] []=nN O a s d:=by kernel_rfl
theorem aD8 s d:Imp (kU s d) (nN O aG s d) (Ri aA):=by
 simp only [kU,nN,zd,zr];try simp only [evs,tys]
 refine zC rfl fun b _ => ?_;try simp only [zes,evs,tys]
 apply Imp.cnd
 ·refine zC rfl fun a _ => ?_;try simp only [zes,evs,tys]
  exact zR
 ·exact zR
theorem aD9 {s d r} (h:kU s d=some r):tM s d=some r:=zV aE (aD8 s d) Tryz.func25 (aE6 _ _ s d) h
theorem aEa {r} n (h:aR6 Tryz.prog MT XT n 26 [] []=some (aA r,[])):aBw=some r:=aMP (uI aE) (bEK n h)
def yH (O:Orc) (b:LBs) (o:GOp) (u0_5:Int) (u0_4:GDoc) (u0_3:GSchema):Option (PV×UP) :=
 aQ O 79 [(eS u0_3),(eD u0_4),(.agg [(i6 o.kind),(.str o.name),(zq aB o.vars),(zq aI o.dirs),(zq aF o.sels)]),(i6 u0_5)] fun a=>cnd (chk .bool a)
 (some ((.bool (!(bM a))),[[(5,[(i6 u0_5)]),(4,[(zq aR u0_4.ops),(zq aH u0_4.frags)]),(3,[(zq aL u0_3.defs),(.str u0_3.query),(.str u0_3.mutation)])]])) none
def uK (o:GOp) (u0_5:Int) (u0_4:GDoc) (u0_3:GSchema):Option Bool :=
 bnd (aLc u0_3 u0_4 o u0_5) fun a =>
 some (!a)
def aMU:Decs:={decs:=[(10,.bool)]}
theorem aMV O a o u0_5 u0_4 u0_3:eW 78 aMU Tryz.f78 O a [(.agg [(i6 o.kind),(.str o.name),(zq aB o.vars),(zq aI o.dirs),(zq aF o.sels)]),(.ptr 1 3 0),(.ptr 1 4 0),(.ptr 1 5 0)] [[(5,[(i6 u0_5)]),(4,[(zq aR u0_4.ops),(zq aH u0_4.frags)]),(3,[(zq aL u0_3.defs),(.str u0_3.query),(.str u0_3.mutation)])]]=yH O a o u0_5 u0_4 u0_3:=by kernel_rfl
theorem aLi o u0_5 u0_4 u0_3:Imp (uK o u0_5 u0_4 u0_3) (yH O aG o u0_5 u0_4 u0_3) (fun r v=>v=(aA r,(lJ o u0_5 u0_4 u0_3 r))):=by
 simp only [uK,yH,zd,zr];try simp only [evs,tys]
 refine zC rfl fun a _ => ?_;try simp only [zes,evs,tys]
 exact Imp.some (by first | rfl | simp only [zes,lJ,evs,tys,evl])
theorem aLj {o u0_5 u0_4 u0_3 r} (h:uK o u0_5 u0_4 u0_3=some r):aEW o u0_5 u0_4 u0_3=some r:=zV aE (aLi o u0_5 u0_4 u0_3) Tryz.func78 (aMV _ _ o u0_5 u0_4 u0_3) h
abbrev vX:List Sh:=[sf,(.func 78 [] [(.ptr 1 3 0),(.ptr 1 4 0),(.ptr 1 5 0)]),n6,n6,n6]
def aPU (O:Orc) (e:LBs):bO:=fun c a=>cnd (chkL vX c) (cnd (chkU [[(5,[n6]),(4,[sf,sf]),(3,[sf,.str,.str])]] a)
 (cnd (decide ((iv c 4)<(iv c 3)))
 (bnd (ix 5 (zs c 0) (zn c 4)) fun d=>cnd (chk (.ref shOp) d)
 (bnd (O 78 [(.agg [(zn (rf d) 0),(zt (rf d) 1),(zs (rf d) 2),(zs (rf d) 3),(zs (rf d) 4)]),(.ptr 2 3 0),(.ptr 2 4 0),(.ptr 2 5 0)] [[],[(5,[(zn (bx a 0 0) 0)]),(4,[(zs (bx a 0 1) 0),(zs (bx a 0 1) 1)]),(3,[(zs (bx a 0 2) 0),(zt (bx a 0 2) 1),(zt (bx a 0 2) 2)])]]) fun b=>cnd (chkU [[],[(5,[n6]),(4,[sf,sf]),(3,[sf,.str,.str])]] b.2) (cnd (chk .bool b.1)
 (cnd (bM b.1)
 (some (.ret,[(zs c 0),(.func (.func 78) [] [(.ptr 1 3 0),(.ptr 1 4 0),(.ptr 1 5 0)]),(zn c 4),(zn c 3),(zn c 4)],[[(5,[(zn (bx b.2 1 0) 0)]),(4,[(zs (bx b.2 1 1) 0),(zs (bx b.2 1 1) 1)]),(3,[(zs (bx b.2 1 2) 0),(zt (bx b.2 1 2) 1),(zt (bx b.2 1 2) 2)])]]))
 (some (.nrm,[(zs c 0),(.func (.func 78) [] [(.ptr 1 3 0),(.ptr 1 4 0),(.ptr 1 5 0)]),(zn c 2),(zn c 3),(i6 (w6 ((iv c 4)+1)))],[[(5,[(zn (bx b.2 1 0) 0)]),(4,[(zs (bx b.2 1 1) 0),(zs (bx b.2 1 1) 1)]),(3,[(zs (bx b.2 1 2) 0),(zt (bx b.2 1 2) 1),(zt (bx b.2 1 2) 2)])]]))) none) none) none)
 (some (.brk 0,(pu (rb vX c) 1 (.func (.func 78) [] [(.ptr 1 3 0),(.ptr 1 4 0),(.ptr 1 5 0)])),[[(5,[(zn (bx a 0 0) 0)]),(4,[(zs (bx a 0 1) 0),(zs (bx a 0 1) 1)]),(3,[(zs (bx a 0 2) 0),(zt (bx a 0 2) 1),(zt (bx a 0 2) 2)])]]))) none) none
def aPV (O:Orc) (b:LBs) (s:List GOp) (u0_5:Int) (u0_4:GDoc) (u0_3:GSchema):Option (PV×UP) :=
 bnd (b (aPU O b) [(zq aR s),(.func (.func 78) [] [(.ptr 1 3 0),(.ptr 1 4 0),(.ptr 1 5 0)]),(i6 0),(i6 (List.length (List.map aR s):Int)),(i6 0)] [[(5,[(i6 u0_5)]),(4,[(zq aR u0_4.ops),(zq aH u0_4.frags)]),(3,[(zq aL u0_3.defs),(.str u0_3.query),(.str u0_3.mutation)])]]) fun a =>
 exIs a.1 (some 0) (cnd (chkL vX a.2.1) (cnd (chkU [[(5,[n6]),(4,[sf,sf]),(3,[sf,.str,.str])]] a.2.2)
 (some ((i6 (-1)),[[(5,[(zn (bx a.2.2 0 0) 0)]),(4,[(zs (bx a.2.2 0 1) 0),(zs (bx a.2.2 0 1) 1)]),(3,[(zs (bx a.2.2 0 2) 0),(zt (bx a.2.2 0 2) 1),(zt (bx a.2.2 0 2) 2)])]])) none) none)
 (exIs a.1 none (cnd (chkL vX a.2.1) (cnd (chkU [[(5,[n6]),(4,[sf,sf]),(3,[sf,.str,.str])]] a.2.2)
 (some ((zn a.2.1 2),[[(5,[(zn (bx a.2.2 0 0) 0)]),(4,[(zs (bx a.2.2 0 1) 0),(zs (bx a.2.2 0 1) 1)]),(3,[(zs (bx a.2.2 0 2) 0),(zt (bx a.2.2 0 2) 1),(zt (bx a.2.2 0 2) 2)])]])) none) none)
 (none))
def aAk (s:List GOp) (u0_5:Int) (u0_4:GDoc) (u0_3:GSchema):Int->Option (Int⊕(Unit⊕Int))
 | a =>
 cnd (decide (a<(List.length s:Int)))
  (bnd (nthI s a) fun c =>
  bnd (aEW c u0_5 u0_4 u0_3) fun b =>
  cnd b
  (some (.inr (.inr a)))
  (some (.inl (IntKind.wrap .i64 (a+1)))))
  (some (.inr (.inl ())))
abbrev bDl (s:List GOp) (u0_5:Int) (u0_4:GDoc) (u0_3:GSchema) (st:Int) (l:List PV) (u:UP):Prop:=l=[(zq aR s),(.func (.func 78) [] [(.ptr 1 3 0),(.ptr 1 4 0),(.ptr 1 5 0)]),(i6 0),(i6 (List.length s:Int)),(i6 st)]/\u=[[(5,[(i6 u0_5)]),(4,[(zq aR u0_4.ops),(zq aH u0_4.frags)]),(3,[(zq aL u0_3.defs),(.str u0_3.query),(.str u0_3.mutation)])]]
abbrev bDm (s:List GOp) (u0_5:Int) (u0_4:GDoc) (u0_3:GSchema) (p:Unit⊕Int) (r:EU):Prop:=elim p (fun (p:Unit)=>∃ (a:Int),r=(Ex.brk 0,[(zq aR s),(.func (.func 78) [] [(.ptr 1 3 0),(.ptr 1 4 0),(.ptr 1 5 0)]),(i6 0),(i6 (List.length s:Int)),(i6 a)],[[(5,[(i6 u0_5)]),(4,[(zq aR u0_4.ops),(zq aH u0_4.frags)]),(3,[(zq aL u0_3.defs),(.str u0_3.query),(.str u0_3.mutation)])]])) (fun c=>(fun (p:Int)=>∃ (b:Int),r=(Ex.ret,[(zq aR s),(.func (.func 78) [] [(.ptr 1 3 0),(.ptr 1 4 0),(.ptr 1 5 0)]),(i6 p),(i6 (List.length s:Int)),(i6 b)],[[(5,[(i6 u0_5)]),(4,[(zq aR u0_4.ops),(zq aH u0_4.frags)]),(3,[(zq aL u0_3.defs),(.str u0_3.query),(.str u0_3.mutation)])]])) c)
def aPW (s:List GOp) (u0_5:Int) (u0_4:GDoc) (u0_3:GSchema):Option Int :=
 bnd (aX (aAk s u0_5 u0_4 u0_3) 0) fun a=>elim a
 (fun c =>
 some (-1))
 (fun b =>
 some b)
def bFk:Decs:={decs:=[(14,(.ref shOp)),(16,.bool)],ups:=[(16,[[],[(5,[n6]),(4,[sf,sf]),(3,[sf,.str,.str])]])],loops:=[(2,[],⟨vX,[[(5,[n6]),(4,[sf,sf]),(3,[sf,.str,.str])]],[(some 0,vX,[[(5,[n6]),(4,[sf,sf]),(3,[sf,.str,.str])]]),(none,vX,[[(5,[n6]),(4,[sf,sf]),(3,[sf,.str,.str])]])]⟩)]}
theorem bFl O a s u0_5 u0_4 u0_3:eW 142 bFk Tryz.f142 O a [(zq aR s),(.func (.func 78) [] [(.ptr 1 3 0),(.ptr 1 4 0),(.ptr 1 5 0)])] [[(5,[(i6 u0_5)]),(4,[(zq aR u0_4.ops),(zq aH u0_4.frags)]),(3,[(zq aL u0_3.defs),(.str u0_3.query),(.str u0_3.mutation)])]]=aPV O a s u0_5 u0_4 u0_3:=by kernel_rfl
theorem aVT s u0_5 u0_4 u0_3:Lok (bDl s u0_5 u0_4 u0_3) (aAk s u0_5 u0_4 u0_3) (aPU O aG) (bDm s u0_5 u0_4 u0_3):=by
 rintro b l u ⟨rfl,rfl⟩;simp only [aAk,aPU,zd,zr];refine zG ?_;try simp only [evs,tys]
 apply Imp.cnd
 ·refine zX aR aK9 fun g _ => ?_;try simp only [evs,tys]
  refine Imp.gcall (f:=aA) (fu:=fun a=>[]::lJ g u0_5 u0_4 u0_3 a) (fun a h=>by first | exact fQ rfl rfl (by first | rfl | (simp only [zes,tys];rfl)) (bA h) | (have c:=bA h;simp only [evs,tys,evl,lJ] at c;exact fQ rfl rfl (by first | rfl | (simp only [zes,tys];rfl)) c)) zK (fun a=>by first | rfl | (simp only [lJ,evs,tys];first | rfl | (cases w<;>rfl))) fun e d => ?_;try simp only [aA,lJ,evs,tys]
  apply Imp.cnd;·exact zT ⟨b,zE⟩
  ·exact zN
 ·exact zB ⟨b,zE⟩
theorem bDn s u0_5 u0_4 u0_3:Imp (aPW s u0_5 u0_4 u0_3) (aPV O aG s u0_5 u0_4 u0_3) (fun r v=>v=(aZ r,(aIH s u0_5 u0_4 u0_3 r))):=by
 simp only [aPW,aPV,zd,zr];try simp only [evs,tys]
 refine zL (aVT s u0_5 u0_4 u0_3) ?_;rintro (p | e) d a
 ·try simp only [aO,aP]
  obtain ⟨b,rfl⟩:=a;refine zH ?_;try simp only [evs,tys]
  exact Imp.some (by first | rfl | simp only [zes,aIH,evs,tys,evl])
 ·try simp only [aO,aP]
  obtain ⟨c,rfl⟩:=a;refine Imp.exMiss rfl ?_;refine zH ?_;try simp only [evs,tys]
  exact Imp.some (by first | rfl | simp only [zes,aIH,evs,tys,evl])
theorem bDo {s u0_5 u0_4 u0_3 r} (h:aPW s u0_5 u0_4 u0_3=some r):bI6 s u0_5 u0_4 u0_3=some r:=zV iZ (bDn s u0_5 u0_4 u0_3) Tryz.func142 (bFl _ _ s u0_5 u0_4 u0_3) h
def iP (O:Orc) (b:LBs) (s:List GOp) (u0_5:Int) (u0_4:GDoc) (u0_3:GSchema):Option (PV×UP) :=
 bnd (O 142 [(zq aR s),(.func (.func 78) [] [(.ptr 2 3 0),(.ptr 2 4 0),(.ptr 2 5 0)])] [[],[(5,[(i6 u0_5)]),(4,[(zq aR u0_4.ops),(zq aH u0_4.frags)]),(3,[(zq aL u0_3.defs),(.str u0_3.query),(.str u0_3.mutation)])]]) fun a=>cnd (chkU [[],[(5,[n6]),(4,[sf,sf]),(3,[sf,.str,.str])]] a.2) (cnd (chk n6 a.1)
 (some ((.bool (decide ((intV a.1)≥0))),[[(5,[(zn (bx a.2 1 0) 0)]),(4,[(zs (bx a.2 1 1) 0),(zs (bx a.2 1 1) 1)]),(3,[(zs (bx a.2 1 2) 0),(zt (bx a.2 1 2) 1),(zt (bx a.2 1 2) 2)])]])) none) none
def fB (s:List GOp) (u0_5:Int) (u0_4:GDoc) (u0_3:GSchema):Option Bool :=
 bnd (bI6 s u0_5 u0_4 u0_3) fun a =>
 some (decide (a≥0))
def yI:Decs:={decs:=[(7,n6)],ups:=[(7,[[],[(5,[n6]),(4,[sf,sf]),(3,[sf,.str,.str])]])]}
theorem yJ O a s u0_5 u0_4 u0_3:eW 77 yI Tryz.f77 O a [(zq aR s),(.func (.func 78) [] [(.ptr 1 3 0),(.ptr 1 4 0),(.ptr 1 5 0)])] [[(5,[(i6 u0_5)]),(4,[(zq aR u0_4.ops),(zq aH u0_4.frags)]),(3,[(zq aL u0_3.defs),(.str u0_3.query),(.str u0_3.mutation)])]]=iP O a s u0_5 u0_4 u0_3:=by kernel_rfl
theorem wV s u0_5 u0_4 u0_3:Imp (fB s u0_5 u0_4 u0_3) (iP O aG s u0_5 u0_4 u0_3) (fun r v=>v=(aA r,(cE s u0_5 u0_4 u0_3 r))):=by
 simp only [fB,iP,zd,zr];try simp only [evs,tys]
 refine Imp.gcall (f:=aZ) (fu:=fun a=>[]::aIH s u0_5 u0_4 u0_3 a) (fun a h=>by first | exact fQ rfl rfl (by first | rfl | (simp only [zes,tys];rfl)) (bA h) | (have b:=bA h;simp only [evs,tys,evl,aIH] at b;exact fQ rfl rfl (by first | rfl | (simp only [zes,tys];rfl)) b)) zK (fun a=>by first | rfl | (simp only [aIH,evs,tys];first | rfl | (cases w<;>rfl))) fun d c => ?_;try simp only [aZ,aIH,evs,tys]
 exact Imp.some (by first | rfl | simp only [zes,cE,evs,tys,evl])
theorem wW {s u0_5 u0_4 u0_3 r} (h:fB s u0_5 u0_4 u0_3=some r):qR s u0_5 u0_4 u0_3=some r:=zV aE (wV s u0_5 u0_4 u0_3) Tryz.func77 (yJ _ _ s u0_5 u0_4 u0_3) h
def aCx (O:Orc) (b:LBs) (s:GSchema) (d:GDoc) (n:Int):Option (PV×UP) :=
 cnd (decide (n≥18))
 (cnd (decide (n<=21))
 (bnd (O 77 [(zq aR d.ops),(.func (.func 78) [] [(.ptr 1 3 0),(.ptr 1 4 0),(.ptr 1 5 0)])] [[(5,[(i6 n)]),(4,[(zq aR d.ops),(zq aH d.frags)]),(3,[(zq aL s.defs),(.str s.query),(.str s.mutation)])]]) fun a=>cnd (chkU [[(5,[n6]),(4,[sf,sf]),(3,[sf,.str,.str])]] a.2) (cnd (chk .bool a.1)
 (some ((.bool (!(bM a.1))),[])) none) none)
 (some ((.bool false),[])))
 (some ((.bool false),[]))
def aAP (s:GSchema) (d:GDoc) (n:Int):Option Bool :=
 cnd (decide (n≥18))
 (cnd (decide (n<=21))
 (bnd (qR d.ops n d s) fun a =>
 some (!a))
 (some false))
 (some false)
def aSy:Decs:={decs:=[(17,.bool)],ups:=[(17,[[(5,[n6]),(4,[sf,sf]),(3,[sf,.str,.str])]])]}
theorem aSz O a s d n:eW 27 aSy Tryz.f27 O a [(eS s),(eD d),(i6 n)] []=aCx O a s d n:=by kernel_rfl
theorem aPX s d n:Imp (aAP s d n) (aCx O aG s d n) (Ri aA):=by
 simp only [aAP,aCx,zd,zr];try simp only [evs,tys]
 apply Imp.cnd
 ·apply Imp.cnd
  ·refine Imp.gcall (f:=aA) (fu:=fun a=>cE d.ops n d s a) (fun a h=>by first | exact bA h | (have b:=bA h;simp only [evs,tys,evl,cE] at b;exact b)) zK (fun a=>by first | rfl | (simp only [cE,evs,tys];first | rfl | (cases w<;>rfl))) fun e c => ?_;try simp only [aA,cE,evs,tys]
   exact zR
  ·exact zR
 ·exact zR
theorem aPY {s d n r} (h:aAP s d n=some r):mV s d n=some r:=zV aE (aPX s d n) Tryz.func27 (aSz _ _ s d n) h
abbrev kI:List Sh:=[(.vec 1),(.ptr 0 6 0),sf,n6,n6,sf,n6,n6,n6,.str,.str,sf,sf,.str,sf]
def vY (O:Orc) (e:LBs):bO:=fun a c=>cnd (chkL kI a) (cnd (chkU [] c)
 (cnd (decide ((iv a 7)<(iv a 6)))
 (bnd (ix 2 (zs a 5) (zn a 7)) fun d=>cnd (chk (.ref aJc) d)
 (aQ O 151 [(.vec 1 (vecV (gt a 0))),(zs (rf d) 1)] fun b=>cnd (chk (.vec 1) b)
 (some (.nrm,(pu (pu (rb kI a) 0 (.vec 1 (vecV b))) 7 (i6 (w6 ((iv a 7)+1)))),[])) none) none)
 (some (.brk 2,(pu (rb kI a) 0 (.vec 1 (vecV (gt a 0)))),[]))) none) none
abbrev kJ:List Sh:=[(.vec 1),sf,n6,n6]
def vZ (O:Orc) (g:LBs):bO:=fun c f=>cnd (chkL kJ c) (cnd (chkU [] f)
 (cnd (decide ((iv c 3)<(iv c 2)))
 (bnd (ix 7 (zs c 1) (zn c 3)) fun a=>cnd (chk (.ref mB) a)
 (aQ O 151 [(.vec 1 (vecV (gt c 0))),(zs (rf a) 3)] fun e=>cnd (chk (.vec 1) e)
 (bnd (g (vY O g) [(.vec 1 (vecV e)),(.ptr 0 6 0),(zs c 1),(zn c 2),(zn c 3),(zs (rf a) 4),(i6 (List.length (ev (rf a) 4):Int)),(i6 0),(zn (rf a) 0),(zt (rf a) 1),(zt (rf a) 2),(zs (rf a) 3),(zs (rf a) 4),(zt (rf a) 5),(zs (rf a) 6)] []) fun b =>
 exIs b.1 (some 2) (cnd (chkL [(.vec 1),(.ptr 0 6 0),sf,n6,n6,sf,n6,n6,n6,.str,.str,sf,sf,.str,sf] b.2.1) (cnd (chkU [] b.2.2)
 (aQ O 80 [(.vec 1 (vecV (gt b.2.1 0))),(zs b.2.1 14)] fun d=>cnd (chk (.vec 1) d)
 (some (.nrm,[(.vec 1 (vecV d)),(zs b.2.1 2),(zn b.2.1 3),(i6 (w6 ((iv b.2.1 4)+1)))],[])) none) none) none)
 (none)) none) none)
 (some (.brk 0,(pu (rb kJ c) 0 (.vec 1 (vecV (gt c 0)))),[]))) none) none
def wA (O:Orc) (c:LBs) (b:List GSel):Option (PV×UP) :=
 bnd (c (vZ O c) [(.vec 1 []),(zq aF b),(i6 (List.length (List.map aF b):Int)),(i6 0)] []) fun a =>
 exIs a.1 (some 0) (cnd (chkL kJ a.2.1) (cnd (chkU [] a.2.2)
 (some ((.vec 1 (vecV (gt a.2.1 0))),[])) none) none)
 (none)
def gV (c:GSel):((List Str)×Int)->Option (((List Str)×Int)⊕((List Str)))
 | (b,a) =>
 cnd (decide (a<(List.length c.dirs:Int)))
  (bnd (nthI c.dirs a) fun d =>
  bnd (aHu b d.args) fun e =>
  some (.inl (e,(IntKind.wrap .i64 (a+1)))))
  (some (.inr b))
abbrev aBy (b:List GSel) (c:Int) (a:GSel) (d e:PV):List PV:=[d,(.ptr 0 6 0),(zq aF b),(i6 (List.length b:Int)),(i6 c),(zq aI a.dirs),(i6 (List.length a.dirs:Int)),e,(i6 a.kind),(.str a.alias),(.str a.name),(zq aD a.args),(zq aI a.dirs),(.str a.on_),(zq aF a.sels)]
abbrev aBz (b:List GSel) (a:Int) (c:GSel) (st:(List Str)×Int) (l:List PV) (u:UP):Prop:=l=(aBy b a c (.vec 1 (List.map PV.str st.1)) (i6 st.2))/\u=[]
abbrev aJf (b:List GSel) (a:Int) (d:GSel) (p:(List Str)) (r:EU):Prop:=∃ (c:Int),r=(Ex.brk 2,(aBy b a d (.vec 1 (List.map PV.str p)) (i6 c)),[])
def gW (c:List GSel):((List Str)×Int)->Option (((List Str)×Int)⊕((List Str)))
 | (b,a) =>
 cnd (decide (a<(List.length c:Int)))
  (bnd (nthI c a) fun d =>
  bnd (aHu b d.args) fun f =>
  bnd (aX (gV d) (f,0)) fun e =>
  bnd (jA e d.sels) fun g =>
  some (.inl (g,(IntKind.wrap .i64 (a+1)))))
  (some (.inr b))
abbrev aJg (a:List GSel) (st:(List Str)×Int) (l:List PV) (u:UP):Prop:=l=[(.vec 1 (List.map PV.str st.1)),(zq aF a),(i6 (List.length a:Int)),(i6 st.2)]/\u=[]
abbrev aJh (a:List GSel) (p:(List Str)) (r:EU):Prop:=(fun (p:(List Str))=>∃ (b:Int),r=(Ex.brk 0,[(.vec 1 (List.map PV.str p)),(zq aF a),(i6 (List.length a:Int)),(i6 b)],[])) p
def rX (a:List GSel):Option (List Str) :=
 bnd (aX (gW a) ([],0)) fun b =>
 some b
def aLk:Decs:={decs:=[(13,(.ref mB)),(18,(.vec 1)),(24,(.ref aJc)),(29,(.vec 1)),(34,(.vec 1))],loops:=[(2,[],⟨kJ,[],[(some 0,kJ,[])]⟩),(6,[(6,7)],⟨kI,[],[(some 2,kI,[])]⟩)]}
theorem aLl O b a:eW 80 aLk Tryz.f80 O b [(.slice [] [] true),(zq aF a)] []=wA O b a:=by kernel_rfl
theorem aGv b a c:∀ st l u,aBz b a c st l u->Imp (gV c st) (vY O aG l u) (oY (aBz b a c) (aJf b a c)):=by
 rintro ⟨e,d⟩ l u ⟨rfl,rfl⟩;simp only [gV,vY,zd,zr];refine zG ?_;try simp only [evs,tys]
 apply Imp.cnd
 ·refine zX aI aDw fun f _ => ?_;try simp only [evs,tys]
  refine zC rfl fun g _ => ?_;try simp only [zes,evs,tys]
  exact zN
 ·exact zB ⟨d,zE⟩
theorem aGw a:Lok (aJg a) (gW a) (vZ O aG) (aJh a):=by
 rintro ⟨d,b⟩ l u ⟨rfl,rfl⟩;simp only [gW,vZ,zd,zr];refine zG ?_;try simp only [evs,tys]
 apply Imp.cnd
 ·refine zX aF gN fun c _ => ?_;try simp only [evs,tys]
  refine zC rfl fun g _ => ?_;try simp only [zes,evs,tys]
  refine zL (aGv a b c) ?_;rintro f _ ⟨e,rfl⟩;refine zH ?_;try simp only [evs,tys]
  refine zC rfl fun h _ => ?_;try simp only [zes,evs,tys]
  exact zN
 ·exact zB ⟨b,zE⟩
theorem aJi a:Imp (rX a) (wA O aG a) (Ri eJ):=by
 simp only [rX,wA,zd,zr];try simp only [evs,tys]
 refine zL (aGw a) ?_;rintro c _ ⟨b,rfl⟩;refine zH ?_;try simp only [evs,tys]
 exact zR
theorem aJj {a r} (h:rX a=some r):aCo a=some r:=zV rW (aJi a) Tryz.func80 (aLl _ _ a) h
abbrev mE:List Sh:=[(.ptr 0 2 0),(.vec 1),sf,n6,n6,sf,sf]
def aCy (O:Orc) (f:LBs):bO:=fun a e=>cnd (chkL mE a) (cnd (chkU [] e)
 (cnd (decide ((iv a 4)<(iv a 3)))
 (bnd (ix 1 (zs a 2) (zn a 4)) fun c=>cnd (chk (.ref .str) c)
 (aQ O 82 [(.agg [(zs a 5),(zs a 6)]),(.str (strV (refV c)))] fun d=>cnd (chk (.tup [gP,.bool]) d)
 (aQ O 80 [(.vec 1 (vecV (gt a 1))),(zs (tg d 0) 3)] fun b=>cnd (chk (.vec 1) b)
 (some (.nrm,(pu (pu (rb mE a) 1 (.vec 1 (vecV b))) 4 (i6 (w6 ((iv a 4)+1)))),[])) none) none) none)
 (some (.brk 0,(pu (rb mE a) 1 (.vec 1 (vecV (gt a 1)))),[]))) none) none
def aCz (O:Orc) (c:LBs) (d:GDoc) (e:List GSel):Option (PV×UP) :=
 aQ O 80 [(.slice [] [] true),(zq aF e)] fun b=>cnd (chk (.vec 1) b)
 (aQ O 81 [(eD d),(zq aF e)] fun x3=>cnd (chk sf x3)
 (bnd (c (aCy O c) [(.ptr 0 2 0),(.vec 1 (vecV b)),(.slice (esV x3) [] false),(i6 (List.length (esV x3):Int)),(i6 0),(zq aR d.ops),(zq aH d.frags)] []) fun a =>
 exIs a.1 (some 0) (cnd (chkL mE a.2.1) (cnd (chkU [] a.2.2)
 (some ((.slice (vecV (gt a.2.1 1)) [] false),[])) none) none)
 (none)) none) none
def mF (d:GDoc) (g:List Str):((List Str)×Int)->Option (((List Str)×Int)⊕((List Str)))
 | (a,b) =>
 cnd (decide (b<(List.length g:Int)))
  (bnd (nthI g b) fun e =>
  bnd (aDC d e) fun f =>
  bnd (jA a f.1.sels) fun c =>
  some (.inl (c,(IntKind.wrap .i64 (b+1)))))
  (some (.inr a))
abbrev aGx (d:GDoc) (a:List Str) (b c:PV):List PV:=[(.ptr 0 2 0),b,(zq PV.str a),(i6 (List.length a:Int)),c,(zq aR d.ops),(zq aH d.frags)]
abbrev aPZ (d:GDoc) (a:List Str) (st:(List Str)×Int) (l:List PV) (u:UP):Prop:=l=(aGx d a (.vec 1 (List.map PV.str st.1)) (i6 st.2))/\u=[]
abbrev aP0 (d:GDoc) (b:List Str) (p:(List Str)) (r:EU):Prop:=∃ (a:Int),r=(Ex.brk 0,(aGx d b (.vec 1 (List.map PV.str p)) (i6 a)),[])
def aAQ (d:GDoc) (b:List GSel):Option (List Str) :=
 bnd (aCo b) fun e =>
 bnd (aAL d b) fun c =>
 bnd (aX (mF d c) (e,0)) fun a =>
 some a
def aSA:Decs:={decs:=[(11,(.vec 1)),(14,sf),(18,(.ref .str)),(23,(.tup [gP,.bool])),(29,(.vec 1))],loops:=[(3,[(2,2)],⟨mE,[],[(some 0,mE,[])]⟩)]}
theorem aSB O a d b:eW 28 aSA Tryz.f28 O a [(eD d),(zq aF b)] []=aCz O a d b:=by kernel_rfl
theorem aLm d c:Lok (aPZ d c) (mF d c) (aCy O aG) (aP0 d c):=by
 rintro ⟨b,a⟩ l u ⟨rfl,rfl⟩;simp only [mF,aCy,zd,zr];refine zG ?_;try simp only [evs,tys]
 apply Imp.cnd
 ·refine zX PV.str (fun _=>rfl) fun f _ => ?_;try simp only [evs,tys]
  refine zC rfl fun g _ => ?_;try simp only [zes,evs,tys]
  refine zC rfl fun e _ => ?_;try simp only [zes,evs,tys]
  exact zN
 ·exact zB ⟨a,zE⟩
theorem aP1 d c:Imp (aAQ d c) (aCz O aG d c) (Ri bU):=by
 simp only [aAQ,aCz,zd,zr];try simp only [evs,tys]
 refine zC rfl fun f _ => ?_;try simp only [zes,evs,tys]
 refine zC rfl fun e _ => ?_;try simp only [zes,evs,tys]
 refine zL (aLm d e) ?_;rintro a _ ⟨b,rfl⟩;refine zH ?_;try simp only [evs,tys]
 exact zR
theorem aP2 {d a r} (h:aAQ d a=some r):pR d a=some r:=zV jU (aP1 d a) Tryz.func28 (aSB _ _ d a) h
abbrev mG:List Sh:=[sf,.str,.bool,n6]
def aLn (O:Orc) (d:LBs):bO:=fun a b=>cnd (chkL mG a) (cnd (chkU [] b)
 (cnd (decide ((iv a 3)<(List.length (ev a 0):Int)))
 (bnd (ix 1 (zs a 0) (zn a 3)) fun c=>cnd (chk (.ref .str) c)
 (cnd ((strV (refV c))==(sv a 1))
 (some (.ret,(pu (rb mG a) 2 (.bool true)),[]))
 (some (.nrm,(pu (rb mG a) 3 (i6 (w6 ((iv a 3)+1)))),[]))) none)
 (some (.brk 0,(rb mG a),[]))) none) none
def aLo (O:Orc) (b:LBs) (c:List Str) (s:Str):Option (PV×UP) :=
 bnd (b (aLn O b) [(zq PV.str c),(.str s),(.bool false),(i6 0)] []) fun a =>
 exIs a.1 (some 0) (cnd (chkL mG a.2.1) (cnd (chkU [] a.2.2)
 (some ((.bool false),[])) none) none)
 (exIs a.1 none (cnd (chkL mG a.2.1) (cnd (chkU [] a.2.2)
 (some ((zb a.2.1 2),[])) none) none)
 (none))
def uX (b:List Str) (s:Str):Int->Option (Int⊕(Unit⊕Unit))
 | a =>
 cnd (decide (a<(List.length b:Int)))
  (bnd (nthI b a) fun c =>
  cnd (c==s)
  (some (.inr (.inr ())))
  (some (.inl (IntKind.wrap .i64 (a+1)))))
  (some (.inr (.inl ())))
abbrev bAp (a:List Str) (s:Str) (st:Int) (l:List PV) (u:UP):Prop:=l=[(zq PV.str a),(.str s),(.bool false),(i6 st)]/\u=[]
abbrev bAq (c:List Str) (s:Str) (p:Unit⊕Unit) (r:EU):Prop:=elim p (fun (p:Unit)=>∃ (b:Int),r=(Ex.brk 0,[(zq PV.str c),(.str s),(.bool false),(i6 b)],[])) (fun d=>(fun (p:Unit)=>∃ (a:Int),r=(Ex.ret,[(zq PV.str c),(.str s),(.bool true),(i6 a)],[])) d)
def aJ2 (c:List Str) (s:Str):Option Bool :=
 bnd (aX (uX c s) 0) fun a=>elim a
 (fun b =>
 some false)
 (fun b =>
 some true)
def bDp:Decs:={decs:=[(14,(.ref .str))],loops:=[(2,[],⟨mG,[],[(some 0,mG,[]),(none,mG,[])]⟩)]}
theorem bDq O a (b:List Str) (s:Str):eW 29 bDp Tryz.f29 O a [(zq PV.str b),(.str s)] []=aLo O a b s:=by kernel_rfl
theorem aSC b s:Lok (bAp b s) (uX b s) (aLn O aG) (bAq b s):=by
 rintro a l u ⟨rfl,rfl⟩;simp only [uX,aLn,zd,zr];refine zG ?_;try simp only [evs,tys]
 apply Imp.cnd
 ·refine zX PV.str (fun _=>rfl) fun c _ => ?_;try simp only [evs,tys]
  apply Imp.cnd;·exact zT ⟨a,zE⟩
  ·exact zN
 ·exact zB ⟨a,zE⟩
theorem bAr b s:Imp (aJ2 b s) (aLo O aG b s) (Ri aA):=by
 simp only [aJ2,aLo,zd,zr];try simp only [evs,tys]
 refine zL (aSC b s) ?_;rintro (p | p) d a
 ·try simp only [aO,aP]
  obtain ⟨e,rfl⟩:=a;refine zH ?_;try simp only [evs,tys]
  exact zR
 ·try simp only [aO,aP]
  obtain ⟨c,rfl⟩:=a;refine Imp.exMiss rfl ?_;refine zH ?_;try simp only [evs,tys]
  exact zR
theorem bAs {a s r} (h:aJ2 a s=some r):xJ a s=some r:=zV aE (bAr a s) Tryz.func29 (bDq _ _ a s) h
open Go Go.Ev Go.Ev.PV
def aHC (O:Orc) (h:LBs):bO:=fun b g=>cnd (chkL [sf,st',n6] b) (cnd (chkU [] g)
 (cnd (decide ((iv b 2)<(List.length (ev b 0):Int)))
 (bnd (ix 7 (zs b 0) (zn b 2)) fun a=>cnd (chk (.ref mB) a)
 (aQ O 103 [(zs (rf a) 3)] fun d=>cnd (chk sf d)
 (aQ O 36 [(zs (rf a) 4)] fun c=>cnd (chk sf c)
 (aQ O 37 [(zs (rf a) 6)] fun e=>cnd (chk sf e)
 (bnd (apd 7 (zo b 1) (.slice [(.agg [(zn (rf a) 0),(zt (rf a) 1),(zt (rf a) 2),(.slice (esV d) [] false),(.slice (esV c) [] false),(zt (rf a) 5),(.slice (esV e) [] false)])] [] true)) fun f=>cnd (chk st' f)
 (some (.nrm,[(zs b 0),(.slice (esV f) [] true),(i6 (w6 ((iv b 2)+1)))],[])) none) none) none) none) none)
 (some (.brk 0,[(zs b 0),(zo b 1),(zn b 2)],[]))) none) none
def aHD (O:Orc) (b:LBs) (c:List GSel):Option (PV×UP) :=
 bnd (b (aHC O b) [(zq aF c),(.slice [] [] true),(i6 0)] []) fun a =>
 exIs a.1 (some 0) (cnd (chkL [sf,st',n6] a.2.1) (cnd (chkU [] a.2.2)
 (some ((zs a.2.1 1),[])) none) none)
 (none)
def nO (h:List GSel):((List GSel)×Int)->Option (((List GSel)×Int)⊕((List GSel)))
 | (b,c) =>
 cnd (decide (c<(List.length h:Int)))
  (bnd (nthI h c) fun a =>
  bnd (aAe a.args) fun g =>
  bnd (aVI a.dirs) fun d =>
  bnd (aPJ a.sels) fun e =>
  bnd (tapp b [(GSel.mk a.kind a.alias a.name g d a.on_ e)]) fun f =>
  some (.inl (f,(IntKind.wrap .i64 (c+1)))))
  (some (.inr b))
abbrev aVU (a:List GSel) (st:(List GSel)×Int) (l:List PV) (u:UP):Prop:=l=[(zq aF a),(zp aF st.1),(i6 st.2)]/\u=[]
abbrev aVV (b:List GSel) (p:(List GSel)) (r:EU):Prop:=(fun (p:(List GSel))=>∃ (a:Int),r=(Ex.brk 0,[(zq aF b),(zp aF p),(i6 a)],[])) p
def aCA (b:List GSel):Option (List GSel) :=
 bnd (aX (nO b) ([],0)) fun a =>
 some a
def bAt:Decs:={decs:=[(14,(.ref mB)),(18,sf),(21,sf),(24,sf),(31,st')],loops:=[(3,[],⟨[sf,st',n6],[],[(some 0,[sf,st',n6],[])]⟩)]}
theorem bAu O a b:eW 37 bAt Tryz.f37 O a [(zq aF b)] []=aHD O a b:=by kernel_rfl
theorem aP3 d:Lok (aVU d) (nO d) (aHC O aG) (aVV d):=by
 rintro ⟨c,b⟩ l u ⟨rfl,rfl⟩;simp only [nO,aHC,zd,zr];refine zG ?_;try simp only [evs,tys]
 apply Imp.cnd
 ·refine zX aF gN fun j _ => ?_;try simp only [evs,tys]
  refine zC rfl fun m _ => ?_;try simp only [zes,evs,tys]
  refine zC rfl fun g _ => ?_;try simp only [zes,evs,tys]
  refine zC rfl fun i _ => ?_;try simp only [zes,evs,tys]
  refine Imp.op (f:=fun a => .slice (List.map aF a) [] true) (fun a h=>uA (enc:=aF) zI zI (fun a=>by first | rfl | simp only [evs,tys,evc]) h) (fun a=>rfl) fun k e => ?_;try simp only [evs,tys]
  exact zN
 ·exact zB ⟨b,zE⟩
theorem aVW b:Imp (aCA b) (aHD O aG b) (Ri aDB):=by
 simp only [aCA,aHD,zd,zr];try simp only [evs,tys]
 refine zL (aP3 b) ?_;rintro a _ ⟨c,rfl⟩;refine zH ?_;try simp only [evs,tys]
 exact zR
theorem aLp {a r} (h:aCA a=some r):aPJ a=some r:=zV bDh (aVW a) Tryz.func37 (bAu _ _ a) h
abbrev iH:List Sh:=[(.ptr 0 2 0),(.ptr 0 3 0),st',n6,sf,sf,sf,.str,.str]
def aE7 (O:Orc) (g:LBs):bO:=fun a f=>cnd (chkL iH a) (cnd (chkU [] f)
 (cnd (decide ((iv a 3)<(List.length (ev a 4):Int)))
 (bnd (ix 5 (zs a 4) (zn a 3)) fun b=>cnd (chk (.ref shOp) b)
 (aQ O 116 [(.agg [(zs a 6),(zt a 7),(zt a 8)]),(.agg [(zn (rf b) 0),(zt (rf b) 1),(zs (rf b) 2),(zs (rf b) 3),(zs (rf b) 4)])] fun d=>cnd (chk .str d)
 (bnd (ix 5 (zs a 4) (zn a 3)) fun e=>cnd (chk (.ref shOp) e)
 (aQ O 115 [(.agg [(zs a 6),(zt a 7),(zt a 8)]),(.str (strV d)),(zs (rf e) 4),(zo a 2)] fun c=>cnd (chk st' c)
 (some (.nrm,(pu (pu (rb iH a) 2 (.slice (esV c) [] true)) 3 (i6 (w6 ((iv a 3)+1)))),[])) none) none) none) none)
 (some (.brk 0,(rb iH a),[]))) none) none
abbrev aCB:List Sh:=[(.ptr 0 2 0),(.ptr 0 3 0),st',n6,sf,sf,sf,.str,.str]
def aE8 (O:Orc) (f:LBs):bO:=fun a c=>cnd (chkL aCB a) (cnd (chkU [] c)
 (cnd (decide ((iv a 3)<(List.length (ev a 5):Int)))
 (bnd (ix 4 (zs a 5) (zn a 3)) fun d=>cnd (chk (.ref gP) d)
 (bnd (ix 4 (zs a 5) (zn a 3)) fun b=>cnd (chk (.ref gP) b)
 (aQ O 115 [(.agg [(zs a 6),(zt a 7),(zt a 8)]),(zt (rf d) 1),(zs (rf b) 3),(zo a 2)] fun e=>cnd (chk st' e)
 (some (.nrm,(pu (pu (rb aCB a) 2 (.slice (esV e) [] true)) 3 (i6 (w6 ((iv a 3)+1)))),[])) none) none) none)
 (some (.brk 2,(rb aCB a),[]))) none) none
def aE9 (O:Orc) (c:LBs) (s:GSchema) (d:GDoc):Option (PV×UP) :=
 bnd (c (aE7 O c) [(.ptr 0 2 0),(.ptr 0 3 0),(.slice [] [] true),(i6 0),(zq aR d.ops),(zq aH d.frags),(zq aL s.defs),(.str s.query),(.str s.mutation)] []) fun a =>
 exIs a.1 (some 0) (cnd (chkL iH a.2.1) (cnd (chkU [] a.2.2)
 (bnd (c (aE8 O c) [(.ptr 0 2 0),(.ptr 0 3 0),(zo a.2.1 2),(i6 0),(zs a.2.1 4),(zs a.2.1 5),(zs a.2.1 6),(zt a.2.1 7),(zt a.2.1 8)] []) fun b =>
 exIs b.1 (some 2) (cnd (chkL iH b.2.1) (cnd (chkU [] b.2.2)
 (some ((zs b.2.1 2),[])) none) none)
 (none)) none) none)
 (none)
def oI (s:GSchema) (d:GDoc):((List GSeineref13Spot)×Int)->Option (((List GSeineref13Spot)×Int)⊕((List GSeineref13Spot)))
 | (b,a) =>
 cnd (decide (a<(List.length d.ops:Int)))
  (bnd (nthI d.ops a) fun g =>
  bnd (aVJ s g) fun e =>
  bnd (nthI d.ops a) fun f =>
  bnd (aGu s e f.sels b) fun c =>
  some (.inl (c,(IntKind.wrap .i64 (a+1)))))
  (some (.inr b))
abbrev aIN (s:GSchema) (d:GDoc) (a b:PV):List PV:=[(.ptr 0 2 0),(.ptr 0 3 0),a,b,(zq aR d.ops),(zq aH d.frags),(zq aL s.defs),(.str s.query),(.str s.mutation)]
abbrev aSD (s:GSchema) (d:GDoc) (st:(List GSeineref13Spot)×Int) (l:List PV) (u:UP):Prop:=l=(aIN s d (zp aM st.1) (i6 st.2))/\u=[]
abbrev aSE (s:GSchema) (d:GDoc) (p:(List GSeineref13Spot)) (r:EU):Prop:=∃ (a:Int),r=(Ex.brk 0,(aIN s d (zp aM p) (i6 a)),[])
def oJ (s:GSchema) (d:GDoc):((List GSeineref13Spot)×Int)->Option (((List GSeineref13Spot)×Int)⊕((List GSeineref13Spot)))
 | (a,b) =>
 cnd (decide (b<(List.length d.frags:Int)))
  (bnd (nthI d.frags b) fun f =>
  bnd (nthI d.frags b) fun c =>
  bnd (aGu s f.on_ c.sels a) fun e =>
  some (.inl (e,(IntKind.wrap .i64 (b+1)))))
  (some (.inr a))
abbrev aIO (s:GSchema) (d:GDoc) (a b:PV):List PV:=[(.ptr 0 2 0),(.ptr 0 3 0),a,b,(zq aR d.ops),(zq aH d.frags),(zq aL s.defs),(.str s.query),(.str s.mutation)]
abbrev aSF (s:GSchema) (d:GDoc) (st:(List GSeineref13Spot)×Int) (l:List PV) (u:UP):Prop:=l=(aIO s d (zp aM st.1) (i6 st.2))/\u=[]
abbrev aSG (s:GSchema) (d:GDoc) (p:(List GSeineref13Spot)) (r:EU):Prop:=∃ (a:Int),r=(Ex.brk 2,(aIO s d (zp aM p) (i6 a)),[])
def aDH (s:GSchema) (d:GDoc):Option (List GSeineref13Spot) :=
 bnd (aX (oI s d) ([],0)) fun b =>
 bnd (aX (oJ s d) (b,0)) fun a =>
 some a
def aVX:Decs:={decs:=[(20,(.ref shOp)),(22,.str),(26,(.ref shOp)),(30,st'),(42,(.ref gP)),(48,(.ref gP)),(52,st')],loops:=[(3,[(3,2),(2,3)],⟨iH,[],[(some 0,iH,[])]⟩),(7,[(3,2),(2,3)],⟨iH,[],[(some 2,iH,[])]⟩)]}
theorem aVY O a s d:eW 58 aVX Tryz.f58 O a [(eS s),(eD d)] []=aE9 O a s d:=by kernel_rfl
theorem aMW s d:Lok (aSD s d) (oI s d) (aE7 O aG) (aSE s d):=by
 rintro ⟨b,a⟩ l u ⟨rfl,rfl⟩;simp only [oI,aE7,zd,zr];refine zG ?_;try simp only [evs,tys]
 apply Imp.cnd
 ·refine zX aR aK9 fun g _ => ?_;try simp only [evs,tys]
  refine zC rfl fun e _ => ?_;try simp only [zes,evs,tys]
  refine zX aR aK9 fun f _ => ?_;try simp only [evs,tys]
  refine zC rfl fun c _ => ?_;try simp only [zes,evs,tys]
  exact zN
 ·exact zB ⟨a,zE⟩
theorem aMX s d:Lok (aSF s d) (oJ s d) (aE8 O aG) (aSG s d):=by
 rintro ⟨b,a⟩ l u ⟨rfl,rfl⟩;simp only [oJ,aE8,zd,zr];refine zG ?_;try simp only [evs,tys]
 apply Imp.cnd
 ·refine zX aH lG fun f _ => ?_;try simp only [evs,tys]
  refine zX aH lG fun c _ => ?_;try simp only [evs,tys]
  refine zC rfl fun e _ => ?_;try simp only [zes,evs,tys]
  exact zN
 ·exact zB ⟨a,zE⟩
theorem aSH s d:Imp (aDH s d) (aE9 O aG s d) (Ri aAd):=by
 simp only [aDH,aE9,zd,zr];try simp only [evs,tys]
 refine zL (aMW s d) ?_;rintro b _ ⟨e,rfl⟩;refine zH ?_;try simp only [evs,tys]
 refine zL (aMX s d) ?_;rintro a _ ⟨c,rfl⟩;refine zH ?_;try simp only [evs,tys]
 exact zR
theorem aSI {s d r} (h:aDH s d=some r):aYF s d=some r:=zV bAg (aSH s d) Tryz.func58 (aVY _ _ s d) h
abbrev fV:List Sh:=[n6,(.ptr 0 3 0),(.ptr 0 4 0),.bool,n6,(.ptr 0 8 0),n6,n6,.str,sf,sf,sf,sf,sf,sf,.str,.str]
def aAR (O:Orc) (e:LBs):bO:=fun a d=>cnd (chkL fV a) (cnd (chkU [] d)
 (cnd (decide ((iv a 6)<(List.length (ev a 9):Int)))
 (cnd ((iv a 0)==19)
 (bnd (ix 10 (zs a 9) (zn a 6)) fun c=>cnd (chk (.ref eZ) c)
 (aQ O 129 [(.agg [(zs a 14),(zt a 15),(zt a 16)]),(zt (rf c) 1)] fun b=>cnd (chk .bool b)
 (cnd (!(bM b))
 (some (.ret,(pu (rb fV a) 3 (.bool false)),[]))
 (some (.nrm,(pu (rb fV a) 6 (i6 (w6 ((iv a 6)+1)))),[]))) none) none)
 (some (.brk 2,(rb fV a),[])))
 (some (.brk 2,(rb fV a),[]))) none) none
abbrev bY:List Sh:=[n6,(.ptr 0 3 0),(.ptr 0 4 0),.bool,n6,sf,sf,sf,.str,.str]
def aAS (O:Orc) (u:LBs):bO:=fun b n=>cnd (chkL bY b) (cnd (chkU [] n)
 (cnd (decide ((iv b 4)<(List.length (ev b 5):Int)))
 (bnd (ix 5 (zs b 5) (zn b 4)) fun e=>cnd (chk (.ref shOp) e)
 (aQ O 126 [(zs (rf e) 2)] fun c=>cnd (chk sf c)
 (aQ O 127 [(.agg [(zs b 5),(zs b 6)]),(zs (rf e) 4)] fun f=>cnd (chk sf f)
 (jn (fun (r:Bool) (s:Bool) (p:Bool) (t:Bool) (v:Bool) (o:Bool) (q:Bool) =>
 (bnd (u (aAR O u) [(zn b 0),(.ptr 0 3 0),(.ptr 0 4 0),(zb b 3),(zn b 4),(.ptr 0 8 0),(i6 0),(zn (rf e) 0),(zt (rf e) 1),(zs (rf e) 2),(zs (rf e) 3),(zs (rf e) 4),(zs b 5),(zs b 6),(zs b 7),(zt b 8),(zt b 9)] []) fun a =>
 exIs a.1 (some 2) (cnd (chkL [n6,(.ptr 0 3 0),(.ptr 0 4 0),.bool,n6,(.ptr 0 8 0),n6,n6,.str,sf,sf,sf,sf,sf,sf,.str,.str] a.2.1) (cnd (chkU [] a.2.2)
 (some (.nrm,[(zn a.2.1 0),(.ptr 0 3 0),(.ptr 0 4 0),(zb a.2.1 3),(i6 (w6 ((iv a.2.1 4)+1))),(zs a.2.1 12),(zs a.2.1 13),(zs a.2.1 14),(zt a.2.1 15),(zt a.2.1 16)],[])) none) none)
 (exIs a.1 none (cnd (chkL [n6,(.ptr 0 3 0),(.ptr 0 4 0),.bool,n6,(.ptr 0 8 0),n6,n6,.str,sf,sf,sf,sf,sf,sf,.str,.str] a.2.1) (cnd (chkU [] a.2.2)
 (some (.ret,[(zn a.2.1 0),(.ptr 0 3 0),(.ptr 0 4 0),(zb a.2.1 3),(zn a.2.1 4),(zs a.2.1 12),(zs a.2.1 13),(zs a.2.1 14),(zt a.2.1 15),(zt a.2.1 16)],[])) none) none)
 (none)))) fun d =>
 cnd ((iv b 0)==18)
 (aQ O 50 [(.slice (esV c) [] false)] fun h=>cnd (chk .bool h)
 (cnd (bM h)
 (some (.ret,(pu (rb bY b) 3 (.bool false)),[]))
 (cnd ((iv b 0)==20)
 (aQ O 128 [(.slice (esV f) [] false),(.slice (esV c) [] false)] fun g=>cnd (chk .bool g)
 (cnd (!(bM g))
 (some (.ret,(pu (rb bY b) 3 (.bool false)),[]))
 (cnd ((iv b 0)==21)
 (aQ O 128 [(.slice (esV c) [] false),(.slice (esV f) [] false)] fun m=>cnd (chk .bool m)
 (cnd (!(bM m))
 (some (.ret,(pu (rb bY b) 3 (.bool false)),[]))
 (d true (bM h) true (!(bM g)) (!(bM g)) true (!(bM m)))) none)
 (d true (bM h) true (!(bM g)) (!(bM g)) false false))) none)
 (cnd ((iv b 0)==21)
 (aQ O 128 [(.slice (esV c) [] false),(.slice (esV f) [] false)] fun l=>cnd (chk .bool l)
 (cnd (!(bM l))
 (some (.ret,(pu (rb bY b) 3 (.bool false)),[]))
 (d true (bM h) false false false true (!(bM l)))) none)
 (d true (bM h) false false false false false)))) none)
 (cnd ((iv b 0)==20)
 (aQ O 128 [(.slice (esV f) [] false),(.slice (esV c) [] false)] fun i=>cnd (chk .bool i)
 (cnd (!(bM i))
 (some (.ret,(pu (rb bY b) 3 (.bool false)),[]))
 (cnd ((iv b 0)==21)
 (aQ O 128 [(.slice (esV c) [] false),(.slice (esV f) [] false)] fun j=>cnd (chk .bool j)
 (cnd (!(bM j))
 (some (.ret,(pu (rb bY b) 3 (.bool false)),[]))
 (d false false true (!(bM i)) (!(bM i)) true (!(bM j)))) none)
 (d false false true (!(bM i)) (!(bM i)) false false))) none)
 (cnd ((iv b 0)==21)
 (aQ O 128 [(.slice (esV c) [] false),(.slice (esV f) [] false)] fun k=>cnd (chk .bool k)
 (cnd (!(bM k))
 (some (.ret,(pu (rb bY b) 3 (.bool false)),[]))
 (d false false false false false true (!(bM k)))) none)
 (d false false false false false false false)))) none) none) none)
 (some (.brk 0,(rb bY b),[]))) none) none
def aAT (O:Orc) (b:LBs) (s:GSchema) (d:GDoc) (n:Int):Option (PV×UP) :=
 bnd (b (aAS O b) [(i6 n),(.ptr 0 3 0),(.ptr 0 4 0),(.bool false),(i6 0),(zq aR d.ops),(zq aH d.frags),(zq aL s.defs),(.str s.query),(.str s.mutation)] []) fun a =>
 exIs a.1 (some 0) (cnd (chkL bY a.2.1) (cnd (chkU [] a.2.2)
 (some ((.bool true),[])) none) none)
 (exIs a.1 none (cnd (chkL bY a.2.1) (cnd (chkU [] a.2.2)
 (some ((zb a.2.1 3),[])) none) none)
 (none))
def fW (s:GSchema) (n:Int) (b:GOp):Int->Option (Int⊕(Unit⊕Unit))
 | a =>
 cnd (decide (a<(List.length b.vars:Int)))
  (cnd (n==19)
  (bnd (nthI b.vars a) fun c =>
  bnd (aPM s c.t.name) fun d =>
  cnd (!d)
   (some (.inr (.inr ())))
   (some (.inl (IntKind.wrap .i64 (a+1)))))
  (some (.inr (.inl ()))))
  (some (.inr (.inl ())))
abbrev yK (s:GSchema) (d:GDoc) (n:Int) (b:Int) (a:GOp) (c:PV):List PV:=[(i6 n),(.ptr 0 3 0),(.ptr 0 4 0),(.bool false),(i6 b),(.ptr 0 8 0),c,(i6 a.kind),(.str a.name),(zq aB a.vars),(zq aI a.dirs),(zq aF a.sels),(zq aR d.ops),(zq aH d.frags),(zq aL s.defs),(.str s.query),(.str s.mutation)]
abbrev aEr (s:GSchema) (d:GDoc) (n:Int) (a:Int) (b:GOp) (st:Int) (l:List PV) (u:UP):Prop:=l=(yK s d n a b (i6 st))/\u=[]
abbrev aMY (s:GSchema) (d:GDoc) (n:Int) (a:Int) (b:GOp) (p:Unit⊕Unit) (r:EU):Prop:=elim p (fun (p:Unit)=>∃ (c:Int),r=(Ex.brk 2,(yK s d n a b (i6 c)),[])) (fun (p:Unit)=>∃ (e:Int),r=(Ex.ret,(yK s d n a b (i6 e)),[]))
def kP (s : GSchema) (d : GDoc) (n : Int) : Int -> Option (Int ⊕ (Unit ⊕ Unit))
 | h =>
 cnd (decide (h < (List.length d.ops : Int)))
  (bnd (nthI d.ops h) fun j =>
  bnd (aE0 j.vars) fun b =>
  bnd (aHv d j.sels) fun c =>
  jn (fun (u : Bool) (v : Bool) (r : Bool) (w : Bool) (x : Bool) (q : Bool) (t : Bool) =>
  (bnd (aX (fW s n j) 0) fun i => elim i
  (fun p =>
   some (.inl (IntKind.wrap .i64 (h + 1))))
  (fun p =>
  some (.inr (.inr ()))))) fun a =>
  cnd (n == 18)
  (bnd (aPL b) fun e =>
  cnd e
   (some (.inr (.inr ())))
   (cnd (n == 20)
   (bnd (aIL c b) fun f =>
   cnd (!f)
    (some (.inr (.inr ())))
    (cnd (n == 21)
    (bnd (aIL b c) fun o =>
    cnd (!o)
     (some (.inr (.inr ())))
     (a true e true (!f) (!f) true (!o)))
    (a true e true (!f) (!f) false false)))
   (cnd (n == 21)
    (bnd (aIL b c) fun l =>
    cnd (!l)
    (some (.inr (.inr ())))
    (a true e false false false true (!l)))
    (a true e false false false false false))))
  (cnd (n == 20)
   (bnd (aIL c b) fun g =>
   cnd (!g)
   (some (.inr (.inr ())))
   (cnd (n == 21)
    (bnd (aIL b c) fun m =>
    cnd (!m)
    (some (.inr (.inr ())))
    (a false false true (!g) (!g) true (!m)))
    (a false false true (!g) (!g) false false)))
   (cnd (n == 21)
   (bnd (aIL b c) fun k =>
   cnd (!k)
    (some (.inr (.inr ())))
    (a false false false false false true (!k)))
   (a false false false false false false false))))
  (some (.inr (.inl ())))
abbrev yL (s:GSchema) (d:GDoc) (n:Int) (a:PV):List PV:=[(i6 n),(.ptr 0 3 0),(.ptr 0 4 0),(.bool false),a,(zq aR d.ops),(zq aH d.frags),(zq aL s.defs),(.str s.query),(.str s.mutation)]
abbrev aMZ (s:GSchema) (d:GDoc) (n:Int) (st:Int) (l:List PV) (u:UP):Prop:=l=(yL s d n (i6 st))/\u=[]
abbrev aM0 (s:GSchema) (d:GDoc) (n:Int) (p:Unit⊕Unit) (r:EU):Prop:=elim p (fun (p:Unit)=>∃ (b:Int),r=(Ex.brk 0,(yL s d n (i6 b)),[])) (fun (p:Unit)=>∃ (a:Int),r=(Ex.ret,(yL s d n (i6 a)),[]))
def xN (s:GSchema) (d:GDoc) (n:Int):Option Bool :=
 bnd (aX (kP s d n) 0) fun a=>elim a
 (fun b =>
 some true)
 (fun b =>
 some false)
def aP4:Decs:={decs:=[(22,(.ref shOp)),(26,sf),(30,sf),(35,.bool),(43,.bool),(53,.bool),(72,(.ref eZ)),(76,.bool)],loops:=[(2,[(4,2),(3,3)],⟨bY,[],[(some 0,bY,[]),(none,bY,[])]⟩),(9,[(8,5),(4,2),(3,3)],⟨fV,[],[(some 2,fV,[]),(none,fV,[])]⟩)]}
theorem aP5 O a s d n:eW 62 aP4 Tryz.f62 O a [(eS s),(eD d),(i6 n)] []=aAT O a s d n:=by kernel_rfl
theorem aJk s d n a c:∀ st l u,aEr s d n a c st l u->Imp (fW s n c st) (aAR O aG l u) (oY (aEr s d n a c) (aMY s d n a c)):=by
 rintro b l u ⟨rfl,rfl⟩;simp only [fW,aAR,zd,zr];refine zG ?_;try simp only [evs,tys]
 apply Imp.cnd
 ·apply Imp.cnd
  ·refine zX aB jR fun e _ => ?_;try simp only [evs,tys]
   refine zC rfl fun f _ => ?_;try simp only [zes,evs,tys]
   apply Imp.cnd;·exact zT ⟨b,zE⟩
   ·exact zN
  ·exact zB ⟨b,zE⟩
 ·exact zB ⟨b,zE⟩
theorem aJl s d n:Lok (aMZ s d n) (kP s d n) (aAS O aG) (aM0 s d n):=by
 rintro a l u ⟨rfl,rfl⟩;simp only [kP,aAS,zd,zr];refine zG ?_;try simp only [evs,tys]
 apply Imp.cnd
 ·refine zX aR aK9 fun m _ => ?_;try simp only [evs,tys]
  refine zC rfl fun C _ => ?_;try simp only [zes,evs,tys]
  refine zC rfl fun x _ => ?_;try simp only [zes,evs,tys]
  refine Imp.jn (fun I v E=>∀ (i:Bool) (e:Bool) (g:Bool) (j:Bool) (f:Bool) (c:Bool) (h:Bool),I (v i e g j f c h) (E i e g j f c h)) (fun i e g j f c h => ?_) fun G r b => ?_
  ·dsimp only;try simp only [evs,tys]
   refine zL (aJk s d n a m) ?_;rintro (p | p) q k
   ·try simp only [aO,aP]
    obtain ⟨t,rfl⟩:=k;refine zH ?_;try simp only [evs,tys]
    exact zN
   ·try simp only [aO,aP]
    obtain ⟨o,rfl⟩:=k;refine Imp.exMiss rfl ?_;refine zH ?_;try simp only [evs,tys]
    exact zT ⟨a,zE⟩
  apply Imp.cnd
  ·refine zC rfl fun A _ => ?_;try simp only [zes,evs,tys]
   apply Imp.cnd;·exact zT ⟨a,zE⟩
   ·apply Imp.cnd
    ·refine zC rfl fun D _ => ?_;try simp only [zes,evs,tys]
     apply Imp.cnd;·exact zT ⟨a,zE⟩
     ·apply Imp.cnd
      ·refine zC rfl fun z _ => ?_;try simp only [zes,evs,tys]
       apply Imp.cnd;·exact zT ⟨a,zE⟩
       ·first | exact b _ _ _ _ _ _ _ | simpa only [evs,tys,evl] using b _ _ _ _ _ _ _
      ·first | exact b _ _ _ _ _ _ _ | simpa only [evs,tys,evl] using b _ _ _ _ _ _ _
    ·apply Imp.cnd
     ·refine zC rfl fun B _ => ?_;try simp only [zes,evs,tys]
      apply Imp.cnd;·exact zT ⟨a,zE⟩
      ·first | exact b _ _ _ _ _ _ _ | simpa only [evs,tys,evl] using b _ _ _ _ _ _ _
     ·first | exact b _ _ _ _ _ _ _ | simpa only [evs,tys,evl] using b _ _ _ _ _ _ _
  ·apply Imp.cnd
   ·refine zC rfl fun y _ => ?_;try simp only [zes,evs,tys]
    apply Imp.cnd;·exact zT ⟨a,zE⟩
    ·apply Imp.cnd
     ·refine zC rfl fun F _ => ?_;try simp only [zes,evs,tys]
      apply Imp.cnd;·exact zT ⟨a,zE⟩
      ·first | exact b _ _ _ _ _ _ _ | simpa only [evs,tys,evl] using b _ _ _ _ _ _ _
     ·first | exact b _ _ _ _ _ _ _ | simpa only [evs,tys,evl] using b _ _ _ _ _ _ _
   ·apply Imp.cnd
    ·refine zC rfl fun w _ => ?_;try simp only [zes,evs,tys]
     apply Imp.cnd;·exact zT ⟨a,zE⟩
     ·first | exact b _ _ _ _ _ _ _ | simpa only [evs,tys,evl] using b _ _ _ _ _ _ _
    ·first | exact b _ _ _ _ _ _ _ | simpa only [evs,tys,evl] using b _ _ _ _ _ _ _
 ·exact zB ⟨a,zE⟩
theorem aM1 s d n:Imp (xN s d n) (aAT O aG s d n) (Ri aA):=by
 simp only [xN,aAT,zd,zr];try simp only [evs,tys]
 refine zL (aJl s d n) ?_;rintro (p | p) e a
 ·try simp only [aO,aP]
  obtain ⟨c,rfl⟩:=a;refine zH ?_;try simp only [evs,tys]
  exact zR
 ·try simp only [aO,aP]
  obtain ⟨b,rfl⟩:=a;refine Imp.exMiss rfl ?_;refine zH ?_;try simp only [evs,tys]
  exact zR
theorem aM2 {s d n r} (h:xN s d n=some r):aHt s d n=some r:=zV aE (aM1 s d n) Tryz.func62 (aP5 _ _ s d n) h
abbrev oK:List Sh:=[(.ptr 0 1 0),n6,st',n6,st',n6,sf,.str,.str]
def aFa (O:Orc) (g:LBs):bO:=fun a f=>cnd (chkL oK a) (cnd (chkU [] f)
 (cnd (decide ((iv a 5)<(List.length (ev a 4):Int)))
 (bnd (ix 1 (zs a 4) (zn a 5)) fun d=>cnd (chk (.ref .str) d)
 (aQ O 29 [(zs a 2),(.str (strV (refV d)))] fun b=>cnd (chk .bool b)
 (cnd (!(bM b))
 (bnd (ix 1 (zs a 4) (zn a 5)) fun c=>cnd (chk (.ref .str) c)
 (bnd (apd 1 (zo a 2) (.slice [(.str (strV (refV c)))] [] true)) fun e=>cnd (chk st' e)
 (some (.nrm,(pu (pu (rb oK a) 2 (.slice (esV e) [] true)) 5 (i6 (w6 ((iv a 5)+1)))),[])) none) none)
 (some (.nrm,(pu (rb oK a) 5 (i6 (w6 ((iv a 5)+1)))),[]))) none) none)
 (some (.brk 4,(rb oK a),[]))) none) none
abbrev xO:List Sh:=[(.ptr 0 1 0),n6,st',n6,sf,.str,.str]
def aFb (O:Orc) (f:LBs):bO:=fun a e=>cnd (chkL xO a) (cnd (chkU [] e)
 (cnd (decide ((iv a 3)<(List.length (ev a 2):Int)))
 (bnd (ix 1 (zs a 2) (zn a 3)) fun c=>cnd (chk (.ref .str) c)
 (aQ O 166 [(.agg [(zs a 4),(zt a 5),(zt a 6)]),(.str (strV (refV c)))] fun d=>cnd (chk st' d)
 (bnd (f (aFa O f) [(.ptr 0 1 0),(zn a 1),(zo a 2),(zn a 3),(.slice (esV d) [] true),(i6 0),(zs a 4),(zt a 5),(zt a 6)] []) fun b =>
 exIs b.1 (some 4) (cnd (chkL [(.ptr 0 1 0),n6,st',n6,st',n6,sf,.str,.str] b.2.1) (cnd (chkU [] b.2.2)
 (some (.nrm,[(.ptr 0 1 0),(zn b.2.1 1),(zo b.2.1 2),(i6 (w6 ((iv b.2.1 3)+1))),(zs b.2.1 6),(zt b.2.1 7),(zt b.2.1 8)],[])) none) none)
 (none)) none) none)
 (some (.brk 2,(rb xO a),[]))) none) none
abbrev sP:List Sh:=[(.ptr 0 1 0),.any,n6,sf,.str,.str]
def aFc (O:Orc) (h:LBs):bO:=fun b g=>cnd (chkL sP b) (cnd (chkU [] g)
 (cnd (decide ((iv b 2)<(List.length (ev b 3):Int)))
 (bnd (ix 6 (zs b 3) (zn b 2)) fun f=>cnd (chk (.ref vS) f)
 (aQ O 166 [(.agg [(zs b 3),(zt b 4),(zt b 5)]),(zt (rf f) 1)] fun e=>cnd (chk st' e)
 (bnd (h (aFb O h) [(.ptr 0 1 0),(zn b 2),(.slice (esV e) [] true),(i6 0),(zs b 3),(zt b 4),(zt b 5)] []) fun a =>
 exIs a.1 (some 2) (cnd (chkL [(.ptr 0 1 0),n6,st',n6,sf,.str,.str] a.2.1) (cnd (chkU [] a.2.2)
 (bnd (ix 6 (zs a.2.1 4) (zn a.2.1 1)) fun d=>cnd (chk (.ref vS) d)
 (aQ O 29 [(zs a.2.1 2),(zt (rf d) 1)] fun c=>cnd (chk .bool c)
 (cnd (bM c)
 (some (.ret,[(.ptr 0 1 0),(.bool false),(zn a.2.1 1),(zs a.2.1 4),(zt a.2.1 5),(zt a.2.1 6)],[]))
 (some (.nrm,[(.ptr 0 1 0),.bot,(i6 (w6 ((iv a.2.1 1)+1))),(zs a.2.1 4),(zt a.2.1 5),(zt a.2.1 6)],[]))) none) none) none) none)
 (none)) none) none)
 (some (.brk 0,(pu (rb sP b) 1 (gt b 1)),[]))) none) none
def aFd (O:Orc) (b:LBs) (s:GSchema):Option (PV×UP) :=
 bnd (b (aFc O b) [(.ptr 0 1 0),(.bool false),(i6 0),(zq aL s.defs),(.str s.query),(.str s.mutation)] []) fun a =>
 exIs a.1 (some 0) (cnd (chkL sP a.2.1) (cnd (chkU [] a.2.2)
 (some ((.bool true),[])) none) none)
 (exIs a.1 none (cnd (chkL [(.ptr 0 1 0),.bool,n6,sf,.str,.str] a.2.1) (cnd (chkU [] a.2.2)
 (some ((zb a.2.1 1),[])) none) none)
 (none))
def sQ (c:List Str):((List Str)×Int)->Option (((List Str)×Int)⊕((List Str)))
 | (b,a) =>
 cnd (decide (a<(List.length c:Int)))
  (bnd (nthI c a) fun e =>
  bnd (xJ b e) fun d =>
  cnd (!d)
  (bnd (nthI c a) fun f =>
  bnd (tapp b [f]) fun g =>
  some (.inl (g,(IntKind.wrap .i64 (a+1)))))
  (some (.inl (b,(IntKind.wrap .i64 (a+1))))))
  (some (.inr b))
abbrev aIP (s:GSchema) (c:Int) (a:Int) (b:List Str) (st:(List Str)×Int) (l:List PV) (u:UP):Prop:=l=[(.ptr 0 1 0),(i6 c),(zp PV.str st.1),(i6 a),(zp PV.str b),(i6 st.2),(zq aL s.defs),(.str s.query),(.str s.mutation)]/\u=[]
abbrev aSJ (s:GSchema) (d:Int) (b:Int) (c:List Str) (p:(List Str)) (r:EU):Prop:=(fun (p:(List Str))=>∃ (a:Int),r=(Ex.brk 4,[(.ptr 0 1 0),(i6 d),(zp PV.str p),(i6 b),(zp PV.str c),(i6 a),(zq aL s.defs),(.str s.query),(.str s.mutation)],[])) p
def sR (s:GSchema):((List Str)×Int)->Option (((List Str)×Int)⊕((List Str)))
 | (a,b) =>
 cnd (decide (b<(List.length a:Int)))
  (bnd (nthI a b) fun d =>
  bnd (aJZ s d) fun e =>
  bnd (aX (sQ e) (a,0)) fun c =>
  some (.inl (c,(IntKind.wrap .i64 (b+1)))))
  (some (.inr a))
abbrev aIQ (s:GSchema) (a:Int) (st:(List Str)×Int) (l:List PV) (u:UP):Prop:=l=[(.ptr 0 1 0),(i6 a),(zp PV.str st.1),(i6 st.2),(zq aL s.defs),(.str s.query),(.str s.mutation)]/\u=[]
abbrev aSK (s:GSchema) (b:Int) (p:(List Str)) (r:EU):Prop:=(fun (p:(List Str))=>∃ (a:Int),r=(Ex.brk 2,[(.ptr 0 1 0),(i6 b),(zp PV.str p),(i6 a),(zq aL s.defs),(.str s.query),(.str s.mutation)],[])) p
def aCC (s:GSchema):Int->Option (Int⊕(Unit⊕Unit))
 | a =>
 cnd (decide (a<(List.length s.defs:Int)))
  (bnd (nthI s.defs a) fun e =>
  bnd (aJZ s e.name) fun f =>
  bnd (aX (sR s) (f,0)) fun b =>
  bnd (nthI s.defs a) fun c =>
  bnd (xJ b c.name) fun d =>
  cnd d
  (some (.inr (.inr ())))
  (some (.inl (IntKind.wrap .i64 (a+1)))))
  (some (.inr (.inl ())))
abbrev aCD (s:GSchema) (a b:PV):List PV:=[(.ptr 0 1 0),a,b,(zq aL s.defs),(.str s.query),(.str s.mutation)]
abbrev aSL (s:GSchema) (st:Int) (l:List PV) (u:UP):Prop:=∃ (a:PV),l=(aCD s a (i6 st))/\u=[]
abbrev aSM (s:GSchema) (p:Unit⊕Unit) (r:EU):Prop:=elim p (fun (p:Unit)=>∃ (c:PV),∃ (b:Int),r=(Ex.brk 0,(aCD s c (i6 b)),[])) (fun (p:Unit)=>∃ (a:Int),r=(Ex.ret,(aCD s (.bool false) (i6 a)),[]))
def aDI (s:GSchema):Option Bool :=
 bnd (aX (aCC s) 0) fun a=>elim a
 (fun b =>
 some true)
 (fun b =>
 some false)
def aVZ:Decs:={decs:=[(19,(.ref vS)),(22,st'),(32,(.ref .str)),(34,st'),(44,(.ref .str)),(46,.bool),(51,(.ref .str)),(54,st'),(59,(.ref vS)),(62,.bool)],loops:=[(2,[(1,3)],⟨sP,[],[(some 0,sP,[]),(none,[(.ptr 0 1 0),.bool,n6,sf,.str,.str],[])]⟩),(6,[(1,3)],⟨xO,[],[(some 2,xO,[])]⟩),(10,[(1,3)],⟨oK,[],[(some 4,oK,[])]⟩)]}
theorem aV0 O a s:eW 96 aVZ Tryz.f96 O a [(eS s)] []=aFd O a s:=by kernel_rfl
theorem aM3 s d b c:∀ st l u,aIP s d b c st l u->Imp (sQ c st) (aFa O aG l u) (oY (aIP s d b c) (aSJ s d b c)):=by
 rintro ⟨g,e⟩ l u ⟨rfl,rfl⟩;simp only [sQ,aFa,zd,zr];refine zG ?_;try simp only [evs,tys]
 apply Imp.cnd
 ·refine zX PV.str (fun _=>rfl) fun k _ => ?_;try simp only [evs,tys]
  refine zC rfl fun j _ => ?_;try simp only [zes,evs,tys]
  apply Imp.cnd
  ·refine zX PV.str (fun _=>rfl) fun m _ => ?_;try simp only [evs,tys]
   refine Imp.op (f:=fun a => .slice (List.map PV.str a) [] true) (fun a h=>uA (enc:=PV.str) zI zI (fun a=>by first | rfl | simp only [evs,tys,evc]) h) (fun a=>rfl) fun n i => ?_;try simp only [evs,tys]
   exact zN
  ·exact zN
 ·exact zB ⟨e,zE⟩
theorem aM4 s a:∀ st l u,aIQ s a st l u->Imp (sR s st) (aFb O aG l u) (oY (aIQ s a) (aSK s a)):=by
 rintro ⟨f,b⟩ l u ⟨rfl,rfl⟩;simp only [sR,aFb,zd,zr];refine zG ?_;try simp only [evs,tys]
 apply Imp.cnd
 ·refine zX PV.str (fun _=>rfl) fun g _ => ?_;try simp only [evs,tys]
  refine zC rfl fun c _ => ?_;try simp only [zes,evs,tys]
  refine zL (aM3 s a b c) ?_;rintro e _ ⟨d,rfl⟩;refine zH ?_;try simp only [evs,tys]
  exact zN
 ·exact zB ⟨b,zE⟩
theorem aM5 s:Lok (aSL s) (aCC s) (aFc O aG) (aSM s):=by
 rintro a l u ⟨g,rfl,rfl⟩;simp only [aCC,aFc,zd,zr];refine zG ?_;try simp only [evs,tys]
 apply Imp.cnd
 ·refine zX aL aDy fun f _ => ?_;try simp only [evs,tys]
  refine zC rfl fun h _ => ?_;try simp only [zes,evs,tys]
  refine zL (aM4 s a) ?_;rintro b _ ⟨c,rfl⟩;refine zH ?_;try simp only [evs,tys]
  refine zX aL aDy fun d _ => ?_;try simp only [evs,tys]
  refine zC rfl fun e _ => ?_;try simp only [zes,evs,tys]
  apply Imp.cnd;·exact zT ⟨a,zE⟩
  ·exact Imp.some (oY.next ⟨_,zI,rfl⟩)
 ·exact zB ⟨_,a,zE⟩
theorem aSN s:Imp (aDI s) (aFd O aG s) (Ri aA):=by
 simp only [aDI,aFd,zd,zr];try simp only [evs,tys]
 refine Imp.bnd (Imp.loop (aM5 s) ⟨_,zI,rfl⟩) ?_;rintro (p | p) c a
 ·try simp only [aO,aP]
  obtain ⟨e,d,rfl⟩:=a;refine zH ?_;try simp only [evs,tys]
  exact zR
 ·try simp only [aO,aP]
  obtain ⟨b,rfl⟩:=a;refine Imp.exMiss rfl ?_;refine zH ?_;try simp only [evs,tys]
  exact zR
theorem aSO {s r} (h:aDI s=some r):aYG s=some r:=zV aE (aSN s) Tryz.func96 (aV0 _ _ s) h
abbrev oL:List Sh:=[(.ptr 0 2 0),st',n6,sf,sf]
def aFe (O:Orc) (f:LBs):bO:=fun a e=>cnd (chkL oL a) (cnd (chkU [] e)
 (cnd (decide ((iv a 2)<(List.length (ev a 1):Int)))
 (bnd (ix 1 (zs a 1) (zn a 2)) fun d=>cnd (chk (.ref .str) d)
 (aQ O 113 [(.agg [(zs a 3),(zs a 4)]),(.str (strV (refV d)))] fun b=>cnd (chk (.tup [gP,.bool]) b)
 (cnd (bM (tv b 1))
 (aQ O 183 [(zs (tg b 0) 3),(zo a 1)] fun c=>cnd (chk st' c)
 (some (.nrm,[(.ptr 0 2 0),(.slice (esV c) [] true),(i6 (w6 ((iv a 2)+1))),(zs a 3),(zs a 4)],[])) none)
 (some (.nrm,(pu (rb oL a) 2 (i6 (w6 ((iv a 2)+1)))),[]))) none) none)
 (some (.brk 0,(rb oL a),[]))) none) none
abbrev jI:List Sh:=[(.ptr 0 2 0),st',st',n6,sf,sf]
def aFf (O:Orc) (i:LBs):bO:=fun a d=>cnd (chkL jI a) (cnd (chkU [] d)
 (cnd (decide ((iv a 3)<(List.length (ev a 5):Int)))
 (bnd (ix 4 (zs a 5) (zn a 3)) fun h=>cnd (chk (.ref gP) h)
 (aQ O 29 [(zs a 1),(zt (rf h) 0)] fun c=>cnd (chk .bool c)
 (cnd (bM c)
 (bnd (ix 4 (zs a 5) (zn a 3)) fun g=>cnd (chk (.ref gP) g)
 (aQ O 29 [(zs a 2),(zt (rf g) 0)] fun b=>cnd (chk .bool b)
 (cnd (!(bM b))
 (bnd (ix 4 (zs a 5) (zn a 3)) fun f=>cnd (chk (.ref gP) f)
 (bnd (apd 1 (zo a 2) (.slice [(zt (rf f) 0)] [] true)) fun e=>cnd (chk st' e)
 (some (.nrm,(pu (pu (rb jI a) 2 (.slice (esV e) [] true)) 3 (i6 (w6 ((iv a 3)+1)))),[])) none) none)
 (some (.nrm,(pu (rb jI a) 3 (i6 (w6 ((iv a 3)+1)))),[]))) none) none)
 (some (.nrm,(pu (rb jI a) 3 (i6 (w6 ((iv a 3)+1)))),[]))) none) none)
 (some (.brk 2,(rb jI a),[]))) none) none
def aFg (O:Orc) (c:LBs) (d:GDoc) (f:List GSel):Option (PV×UP) :=
 aQ O 182 [(zq aF f)] fun e=>cnd (chk st' e)
 (bnd (c (aFe O c) [(.ptr 0 2 0),(.slice (esV e) [] true),(i6 0),(zq aR d.ops),(zq aH d.frags)] []) fun a =>
 exIs a.1 (some 0) (cnd (chkL oL a.2.1) (cnd (chkU [] a.2.2)
 (bnd (c (aFf O c) [(.ptr 0 2 0),(zo a.2.1 1),(.slice [] [] true),(i6 0),(zs a.2.1 3),(zs a.2.1 4)] []) fun b =>
 exIs b.1 (some 2) (cnd (chkL jI b.2.1) (cnd (chkU [] b.2.2)
 (some ((zs b.2.1 2),[])) none) none)
 (none)) none) none)
 (none)) none
def jJ (d:GDoc):((List Str)×Int)->Option (((List Str)×Int)⊕((List Str)))
 | (a,b) =>
 cnd (decide (b<(List.length a:Int)))
  (bnd (nthI a b) fun f =>
  bnd (aPN d f) fun c =>
  cnd c.2
  (bnd (mD c.1.sels a) fun e =>
  some (.inl (e,(IntKind.wrap .i64 (b+1)))))
  (some (.inl (a,(IntKind.wrap .i64 (b+1))))))
  (some (.inr a))
abbrev aSP (d:GDoc) (st:(List Str)×Int) (l:List PV) (u:UP):Prop:=l=[(.ptr 0 2 0),(zp PV.str st.1),(i6 st.2),(zq aR d.ops),(zq aH d.frags)]/\u=[]
abbrev aSQ (d:GDoc) (p:(List Str)) (r:EU):Prop:=(fun (p:(List Str))=>∃ (a:Int),r=(Ex.brk 0,[(.ptr 0 2 0),(zp PV.str p),(i6 a),(zq aR d.ops),(zq aH d.frags)],[])) p
def oM (d:GDoc) (c:List Str):((List Str)×Int)->Option (((List Str)×Int)⊕((List Str)))
 | (a,b) =>
 cnd (decide (b<(List.length d.frags:Int)))
  (bnd (nthI d.frags b) fun f =>
  bnd (xJ c f.name) fun h =>
  cnd h
  (bnd (nthI d.frags b) fun e =>
  bnd (xJ a e.name) fun j =>
  cnd (!j)
   (bnd (nthI d.frags b) fun i =>
   bnd (tapp a [i.name]) fun g =>
   some (.inl (g,(IntKind.wrap .i64 (b+1)))))
   (some (.inl (a,(IntKind.wrap .i64 (b+1))))))
  (some (.inl (a,(IntKind.wrap .i64 (b+1))))))
  (some (.inr a))
abbrev aSR (d:GDoc) (a:List Str) (st:(List Str)×Int) (l:List PV) (u:UP):Prop:=l=[(.ptr 0 2 0),(zp PV.str a),(zp PV.str st.1),(i6 st.2),(zq aR d.ops),(zq aH d.frags)]/\u=[]
abbrev aSS (d:GDoc) (a:List Str) (p:(List Str)) (r:EU):Prop:=(fun (p:(List Str))=>∃ (b:Int),r=(Ex.brk 2,[(.ptr 0 2 0),(zp PV.str a),(zp PV.str p),(i6 b),(zq aR d.ops),(zq aH d.frags)],[])) p
def aDJ (d:GDoc) (e:List GSel):Option (List Str) :=
 bnd (aHw e) fun c =>
 bnd (aX (jJ d) (c,0)) fun a =>
 bnd (aX (oM d a) ([],0)) fun b =>
 some b
def aV1:Decs:={decs:=[(12,st'),(23,(.ref .str)),(25,(.tup [gP,.bool])),(32,st'),(44,(.ref gP)),(47,.bool),(53,(.ref gP)),(56,.bool),(63,(.ref gP)),(67,st')],loops:=[(3,[(2,2)],⟨oL,[],[(some 0,oL,[])]⟩),(10,[(2,2)],⟨jI,[],[(some 2,jI,[])]⟩)]}
theorem aV2 O a d b:eW 114 aV1 Tryz.f114 O a [(eD d),(zq aF b)] []=aFg O a d b:=by kernel_rfl
theorem aM6 d:Lok (aSP d) (jJ d) (aFe O aG) (aSQ d):=by
 rintro ⟨b,a⟩ l u ⟨rfl,rfl⟩;simp only [jJ,aFe,zd,zr];refine zG ?_;try simp only [evs,tys]
 apply Imp.cnd
 ·refine zX PV.str (fun _=>rfl) fun f _ => ?_;try simp only [evs,tys]
  refine zC rfl fun c _ => ?_;try simp only [zes,evs,tys]
  apply Imp.cnd
  ·refine zC rfl fun e _ => ?_;try simp only [zes,evs,tys]
   exact zN
  ·exact zN
 ·exact zB ⟨a,zE⟩
theorem aM7 d b:Lok (aSR d b) (oM d b) (aFf O aG) (aSS d b):=by
 rintro ⟨e,c⟩ l u ⟨rfl,rfl⟩;simp only [oM,aFf,zd,zr];refine zG ?_;try simp only [evs,tys]
 apply Imp.cnd
 ·refine zX aH lG fun j _ => ?_;try simp only [evs,tys]
  refine zC rfl fun m _ => ?_;try simp only [zes,evs,tys]
  apply Imp.cnd
  ·refine zX aH lG fun i _ => ?_;try simp only [evs,tys]
   refine zC rfl fun o _ => ?_;try simp only [zes,evs,tys]
   apply Imp.cnd
   ·refine zX aH lG fun n _ => ?_;try simp only [evs,tys]
    refine Imp.op (f:=fun a => .slice (List.map PV.str a) [] true) (fun a h=>uA (enc:=PV.str) zI zI (fun a=>by first | rfl | simp only [evs,tys,evc]) h) (fun a=>rfl) fun k g => ?_;try simp only [evs,tys]
    exact zN
   ·exact zN
  ·exact zN
 ·exact zB ⟨c,zE⟩
theorem aST d f:Imp (aDJ d f) (aFg O aG d f) (Ri bU):=by
 simp only [aDJ,aFg,zd,zr];try simp only [evs,tys]
 refine zC rfl fun g _ => ?_;try simp only [zes,evs,tys]
 refine zL (aM6 d) ?_;rintro a _ ⟨e,rfl⟩;refine zH ?_;try simp only [evs,tys]
 refine zL (aM7 d a) ?_;rintro b _ ⟨c,rfl⟩;refine zH ?_;try simp only [evs,tys]
 exact zR
theorem aSU {d a r} (h:aDJ d a=some r):aJY d a=some r:=zV jU (aST d a) Tryz.func114 (aV2 _ _ d a) h
abbrev iI:List Sh:=[(.ptr 0 4 0),(.ptr 0 6 0),.bool,(.ptr 0 9 0),n6,.str,n6,n6,n6,n6,.str,sf,sf,.str,n6,n6,sf,.str,.str]
def aFh (O:Orc) (e:LBs):bO:=fun a c=>cnd (chkL iI a) (cnd (chkU [] c)
 (cnd (decide ((iv a 4)<(List.length (ev a 11):Int)))
 (bnd (ix 5 (zs a 11) (zn a 4)) fun b=>cnd (chk (.ref mM) b)
 (aQ O 192 [(.agg [(zs a 16),(zt a 17),(zt a 18)]),(.agg [(zt a 5),(zn a 6),(zn a 7)]),(.agg [(zn (rf b) 0),(zn (rf b) 1),(zt (rf b) 2),(zs (rf b) 3),(zs (rf b) 4)]),(.bool false)] fun d=>cnd (chk .bool d)
 (cnd (!(bM d))
 (some (.ret,(pu (rb iI a) 2 (.bool false)),[]))
 (some (.nrm,(pu (rb iI a) 4 (i6 (w6 ((iv a 4)+1)))),[]))) none) none)
 (some (.brk 0,(rb iI a),[]))) none) none
def aFi (O:Orc) (i:LBs) (s:GSchema) (t:GType) (v0:GValue) (d:Bool):Option (PV×UP) :=
 aQ O 101 [(eT t)] fun x2=>cnd (chk .bool x2)
 (cnd (!(bM x2))
 (some ((.bool false),[]))
 (cnd (v0.kind==8)
 (some ((.bool true),[]))
 (cnd (v0.kind==0)
 (some ((.bool ((bits .and .i64 t.musts 1)==0)),[]))
 (aQ O 224 [(eT t)] fun c=>cnd (chk (.tup [aYz,.bool]) c)
 (jn (fun (h:Bool) =>
 (cnd (bM (tv c 1))
 (bnd (i (aFh O i) [(.ptr 0 4 0),(.ptr 0 6 0),(.bool false),(.ptr 0 9 0),(i6 0),(zt (tg c 0) 0),(zn (tg c 0) 1),(zn (tg c 0) 2),(i6 v0.kind),(i6 v0.n),(.str v0.s),(zq aJ v0.l),(zq aD v0.m),(.str t.name),(i6 t.lists),(i6 t.musts),(zq aL s.defs),(.str s.query),(.str s.mutation)] []) fun a =>
 exIs a.1 (some 0) (cnd (chkL iI a.2.1) (cnd (chkU [] a.2.2)
 (some ((.bool true),[])) none) none)
 (exIs a.1 none (cnd (chkL iI a.2.1) (cnd (chkU [] a.2.2)
 (some ((zb a.2.1 2),[])) none) none)
 (none)))
 (cnd (t.name==([73,110,116]:Str))
 (cnd (v0.kind==2)
 (cnd (decide (v0.n≥(-2147483648)))
 (some ((.bool (decide (v0.n<=2147483647))),[]))
 (some ((.bool false),[])))
 (some ((.bool false),[])))
 (cnd (t.name==([83,116,114,105,110,103]:Str))
 (some ((.bool (v0.kind==4)),[]))
 (cnd (t.name==([66,111,111,108,101,97,110]:Str))
 (some ((.bool (v0.kind==1)),[]))
 (cnd (t.name==([73,68]:Str))
 (cnd (v0.kind==4)
 (some ((.bool true),[]))
 (some ((.bool (v0.kind==2)),[])))
 (aQ O 164 [(eS s),(.str t.name)] fun b=>cnd (chk (.tup [vS,.bool]) b)
 (cnd ((iv (tg b 0) 0)==4)
 (cnd (v0.kind==5)
 (aQ O 29 [(zs (tg b 0) 4),(.str v0.s)] fun f=>cnd (chk .bool f)
 (some ((.bool (bM f)),[])) none)
 (some ((.bool false),[])))
 (cnd ((iv (tg b 0) 0)==5)
 (cnd (v0.kind==7)
 (aQ O 225 [(eS s),(zs (tg b 0) 5),(zq aD v0.m)] fun e=>cnd (chk .bool e)
 (some ((.bool (bM e)),[])) none)
 (some ((.bool false),[])))
 (some ((.bool false),[])))) none))))))) fun j =>
 cnd (bM (tv c 1))
 (cnd (v0.kind != 6)
 (cnd d
 (aQ O 192 [(eS s),(.agg [(zt (tg c 0) 0),(zn (tg c 0) 1),(zn (tg c 0) 2)]),(eV v0),(.bool true)] fun g=>cnd (chk .bool g)
 (some ((.bool (bM g)),[])) none)
 (some ((.bool false),[])))
 (j true))
 (j false)) none)))) none
def xP (s:GSchema) (v0:GValue) (d:GType×Bool):Int->Option (Int⊕(Unit⊕Unit))
 | a =>
 cnd (decide (a<(List.length v0.l:Int)))
  (bnd (nthI v0.l a) fun c =>
  bnd (xK s d.1 c false) fun b =>
  cnd (!b)
  (some (.inr (.inr ())))
  (some (.inl (IntKind.wrap .i64 (a+1)))))
  (some (.inr (.inl ())))
abbrev aCE (s:GSchema) (t:GType) (v0:GValue) (a:GType×Bool) (b:PV):List PV:=[(.ptr 0 4 0),(.ptr 0 6 0),(.bool false),(.ptr 0 9 0),b,(.str a.1.name),(i6 a.1.lists),(i6 a.1.musts),(i6 v0.kind),(i6 v0.n),(.str v0.s),(zq aJ v0.l),(zq aD v0.m),(.str t.name),(i6 t.lists),(i6 t.musts),(zq aL s.defs),(.str s.query),(.str s.mutation)]
abbrev aIR (s:GSchema) (t:GType) (v0:GValue) (a:GType×Bool) (st:Int) (l:List PV) (u:UP):Prop:=l=(aCE s t v0 a (i6 st))/\u=[]
abbrev aSV (s:GSchema) (t:GType) (v0:GValue) (c:GType×Bool) (p:Unit⊕Unit) (r:EU):Prop:=elim p (fun (p:Unit)=>∃ (a:Int),r=(Ex.brk 0,(aCE s t v0 c (i6 a)),[])) (fun (p:Unit)=>∃ (b:Int),r=(Ex.ret,(aCE s t v0 c (i6 b)),[]))
def aDK (s:GSchema) (t:GType) (v0:GValue) (b:Bool):Option Bool :=
 bnd (sO t) fun k =>
 cnd (!k)
 (some false)
 (cnd (v0.kind==8)
 (some true)
 (cnd (v0.kind==0)
 (some ((bits .and .i64 t.musts 1)==0))
 (bnd (aVK t) fun d =>
 jn (fun (i:Bool) =>
 (cnd d.2
 (bnd (aX (xP s v0 d) 0) fun c=>elim c
 (fun h =>
 some true)
 (fun h =>
 some false))
 (cnd (t.name==([73,110,116]:Str))
 (cnd (v0.kind==2)
 (cnd (decide (v0.n≥(-2147483648)))
 (some (decide (v0.n<=2147483647)))
 (some false))
 (some false))
 (cnd (t.name==([83,116,114,105,110,103]:Str))
 (some (v0.kind==4))
 (cnd (t.name==([66,111,111,108,101,97,110]:Str))
 (some (v0.kind==1))
 (cnd (t.name==([73,68]:Str))
 (cnd (v0.kind==4)
 (some true)
 (some (v0.kind==2)))
 (bnd (aAN s t.name) fun a =>
 cnd (a.1.kind==4)
 (cnd (v0.kind==5)
 (bnd (xJ a.1.parts v0.s) fun f =>
 some f)
 (some false))
 (cnd (a.1.kind==5)
 (cnd (v0.kind==7)
 (bnd (aDF s a.1.params v0.m) fun g =>
 some g)
 (some false))
 (some false))))))))) fun j =>
 cnd d.2
 (cnd (v0.kind != 6)
 (cnd b
 (bnd (xK s d.1 v0 true) fun e =>
 some e)
 (some false))
 (j true))
 (j false))))
def aV3:Decs:={decs:=[(15,.bool),(29,(.tup [aYz,.bool])),(43,.bool),(58,(.ref mM)),(60,.bool),(103,(.tup [vS,.bool])),(117,.bool),(133,.bool)],loops:=[(12,[(9,3),(6,5),(5,3),(4,3)],⟨iI,[],[(some 0,iI,[]),(none,iI,[])]⟩)]}
theorem aV4 O b s t v0 a:eW 192 aV3 Tryz.f192 O b [(eS s),(eT t),(eV v0),(.bool a)] []=aFi O b s t v0 a:=by kernel_rfl
theorem aM8 s t v0 b:∀ st l u,aIR s t v0 b st l u->Imp (xP s v0 b st) (aFh O aG l u) (oY (aIR s t v0 b) (aSV s t v0 b)):=by
 rintro a l u ⟨rfl,rfl⟩;simp only [xP,aFh,zd,zr];refine zG ?_;try simp only [evs,tys]
 apply Imp.cnd
 ·refine zX aJ aAc fun d _ => ?_;try simp only [evs,tys]
  refine zC rfl fun c _ => ?_;try simp only [zes,evs,tys]
  apply Imp.cnd;·exact zT ⟨a,zE⟩
  ·exact zN
 ·exact zB ⟨a,zE⟩
theorem aSW s t v0 b:Imp (aDK s t v0 b) (aFi O aG s t v0 b) (Ri aA):=by
 simp only [aDK,aFi,zd,zr];try simp only [evs,tys]
 refine zC rfl fun q _ => ?_;try simp only [zes,evs,tys]
 apply Imp.cnd;·exact zR
 ·apply Imp.cnd;·exact zR
  ·apply Imp.cnd;·exact zR
   ·refine zC rfl fun j _ => ?_;try simp only [zes,evs,tys]
    refine Imp.jn (fun I h n=>∀ (a:Bool),I (h a) (n a)) (fun a => ?_) fun r o d => ?_
    ·dsimp only;try simp only [evs,tys]
     apply Imp.cnd
     ·refine zL (aM8 s t v0 j) ?_;rintro (p | p) e c
      ·try simp only [aO,aP]
       obtain ⟨f,rfl⟩:=c;refine zH ?_;try simp only [evs,tys]
       exact zR
      ·try simp only [aO,aP]
       obtain ⟨g,rfl⟩:=c;refine Imp.exMiss rfl ?_;refine zH ?_;try simp only [evs,tys]
       exact zR
     ·apply Imp.cnd
      ·apply Imp.cnd
       ·apply Imp.cnd;·exact zR
        ·exact zR
       ·exact zR
      ·apply Imp.cnd;·exact zR
       ·apply Imp.cnd;·exact zR
        ·apply Imp.cnd
         ·apply Imp.cnd;·exact zR
          ·exact zR
         ·refine zC rfl fun l _ => ?_;try simp only [zes,evs,tys]
          apply Imp.cnd
          ·apply Imp.cnd
           ·refine zC rfl fun k _ => ?_;try simp only [zes,evs,tys]
            exact zR
           ·exact zR
          ·apply Imp.cnd
           ·apply Imp.cnd
            ·refine zC rfl fun m _ => ?_;try simp only [zes,evs,tys]
             exact zR
            ·exact zR
           ·exact zR
    apply Imp.cnd
    ·apply Imp.cnd
     ·apply Imp.cnd
      ·refine zC rfl fun i _ => ?_;try simp only [zes,evs,tys]
       exact zR
      ·exact zR
     ·first | exact d _ | simpa only [evs,tys,evl] using d _
    ·first | exact d _ | simpa only [evs,tys,evl] using d _
theorem aSX {s t v0 a r} (h:aDK s t v0 a=some r):xK s t v0 a=some r:=zV aE (aSW s t v0 a) Tryz.func192 (aV4 _ _ s t v0 a) h
abbrev dO:List Sh:=[st',(.ptr 0 2 0),n6,n6,n6,.str,sf,sf]
def aAl (O:Orc) (e:LBs):bO:=fun b d=>cnd (chkL dO b) (cnd (chkU [] d)
 (cnd (decide ((iv b 2)<(List.length (ev b 6):Int)))
 (cnd ((iv b 3)==6)
 (bnd (ix 5 (zs b 6) (zn b 2)) fun a=>cnd (chk (.ref mM) a)
 (aQ O 236 [(.agg [(zn (rf a) 0),(zn (rf a) 1),(zt (rf a) 2),(zs (rf a) 3),(zs (rf a) 4)]),(zo b 0)] fun c=>cnd (chk st' c)
 (some (.nrm,(pu (pu (rb dO b) 0 (.slice (esV c) [] true)) 2 (i6 (w6 ((iv b 2)+1)))),[])) none) none)
 (some (.brk 0,(rb dO b),[])))
 (some (.brk 0,(rb dO b),[]))) none) none
abbrev aAU:List Sh:=[st',(.ptr 0 2 0),n6,n6,n6,.str,sf,sf]
def aAm (O:Orc) (e:LBs):bO:=fun a c=>cnd (chkL aAU a) (cnd (chkU [] c)
 (cnd (decide ((iv a 2)<(List.length (ev a 7):Int)))
 (cnd ((iv a 3)==7)
 (bnd (ix 6 (zs a 7) (zn a 2)) fun b=>cnd (chk (.ref dA) b)
 (aQ O 236 [(.agg [(zn (rf b) 1),(zn (rf b) 2),(zt (rf b) 3),(zs (rf b) 4),(zs (rf b) 5)]),(zo a 0)] fun d=>cnd (chk st' d)
 (some (.nrm,(pu (pu (rb aAU a) 0 (.slice (esV d) [] true)) 2 (i6 (w6 ((iv a 2)+1)))),[])) none) none)
 (some (.brk 2,(rb aAU a),[])))
 (some (.brk 2,(rb aAU a),[]))) none) none
def aHE (O:Orc) (e:LBs) (v0:GValue) (d:List Str):Option (PV×UP) :=
 cnd (v0.kind==8)
 (aQ O 29 [(zq PV.str d),(.str v0.s)] fun i=>cnd (chk .bool i)
 (cnd (!(bM i))
 (bnd (apd 1 (zp PV.str d) (.slice [(.str v0.s)] [] true)) fun x3=>cnd (chk st' x3)
 (bnd (e (aAl O e) [(.slice (esV x3) [] true),(.ptr 0 2 0),(i6 0),(i6 v0.kind),(i6 v0.n),(.str v0.s),(zq aJ v0.l),(zq aD v0.m)] []) fun c =>
 exIs c.1 (some 0) (cnd (chkL dO c.2.1) (cnd (chkU [] c.2.2)
 (bnd (e (aAm O e) [(zo c.2.1 0),(.ptr 0 2 0),(i6 0),(zn c.2.1 3),(zn c.2.1 4),(zt c.2.1 5),(zs c.2.1 6),(zs c.2.1 7)] []) fun h =>
 exIs h.1 (some 2) (cnd (chkL dO h.2.1) (cnd (chkU [] h.2.2)
 (some ((zo h.2.1 0),[])) none) none)
 (none)) none) none)
 (none)) none)
 (bnd (e (aAl O e) [(zp PV.str d),(.ptr 0 2 0),(i6 0),(i6 v0.kind),(i6 v0.n),(.str v0.s),(zq aJ v0.l),(zq aD v0.m)] []) fun a =>
 exIs a.1 (some 0) (cnd (chkL dO a.2.1) (cnd (chkU [] a.2.2)
 (bnd (e (aAm O e) [(zo a.2.1 0),(.ptr 0 2 0),(i6 0),(zn a.2.1 3),(zn a.2.1 4),(zt a.2.1 5),(zs a.2.1 6),(zs a.2.1 7)] []) fun g =>
 exIs g.1 (some 2) (cnd (chkL dO g.2.1) (cnd (chkU [] g.2.2)
 (some ((zo g.2.1 0),[])) none) none)
 (none)) none) none)
 (none))) none)
 (bnd (e (aAl O e) [(zp PV.str d),(.ptr 0 2 0),(i6 0),(i6 v0.kind),(i6 v0.n),(.str v0.s),(zq aJ v0.l),(zq aD v0.m)] []) fun b =>
 exIs b.1 (some 0) (cnd (chkL dO b.2.1) (cnd (chkU [] b.2.2)
 (bnd (e (aAm O e) [(zo b.2.1 0),(.ptr 0 2 0),(i6 0),(zn b.2.1 3),(zn b.2.1 4),(zt b.2.1 5),(zs b.2.1 6),(zs b.2.1 7)] []) fun f =>
 exIs f.1 (some 2) (cnd (chkL dO f.2.1) (cnd (chkU [] f.2.2)
 (some ((zo f.2.1 0),[])) none) none)
 (none)) none) none)
 (none))
def dP (v0:GValue):((List Str)×Int)->Option (((List Str)×Int)⊕((List Str)))
 | (a,b) =>
 cnd (decide (b<(List.length v0.l:Int)))
  (cnd (v0.kind==6)
  (bnd (nthI v0.l b) fun d =>
  bnd (aLb d a) fun c =>
  some (.inl (c,(IntKind.wrap .i64 (b+1)))))
  (some (.inr a)))
  (some (.inr a))
abbrev aLq (v0:GValue) (a b:PV):List PV:=[a,(.ptr 0 2 0),b,(i6 v0.kind),(i6 v0.n),(.str v0.s),(zq aJ v0.l),(zq aD v0.m)]
abbrev aV5 (v0:GValue) (st:(List Str)×Int) (l:List PV) (u:UP):Prop:=l=(aLq v0 (zp PV.str st.1) (i6 st.2))/\u=[]
abbrev aV6 (v0:GValue) (p:(List Str)) (r:EU):Prop:=∃ (a:Int),r=(Ex.brk 0,(aLq v0 (zp PV.str p) (i6 a)),[])
def dQ (v0:GValue):((List Str)×Int)->Option (((List Str)×Int)⊕((List Str)))
 | (a,b) =>
 cnd (decide (b<(List.length v0.m:Int)))
  (cnd (v0.kind==7)
  (bnd (nthI v0.m b) fun d =>
  bnd (aLb d.v a) fun c =>
  some (.inl (c,(IntKind.wrap .i64 (b+1)))))
  (some (.inr a)))
  (some (.inr a))
abbrev aLr (v0:GValue) (a b:PV):List PV:=[a,(.ptr 0 2 0),b,(i6 v0.kind),(i6 v0.n),(.str v0.s),(zq aJ v0.l),(zq aD v0.m)]
abbrev aV7 (v0:GValue) (st:(List Str)×Int) (l:List PV) (u:UP):Prop:=l=(aLr v0 (zp PV.str st.1) (i6 st.2))/\u=[]
abbrev aV8 (v0:GValue) (p:(List Str)) (r:EU):Prop:=∃ (a:Int),r=(Ex.brk 2,(aLr v0 (zp PV.str p) (i6 a)),[])
def aGy (v0:GValue) (a:List Str):Option (List Str) :=
 cnd (v0.kind==8)
 (bnd (xJ a v0.s) fun i =>
 cnd (!i)
 (bnd (tapp a [v0.s]) fun h =>
 bnd (aX (dP v0) (h,0)) fun g =>
 bnd (aX (dQ v0) (g,0)) fun f =>
 some f)
 (bnd (aX (dP v0) (a,0)) fun d =>
 bnd (aX (dQ v0) (d,0)) fun e =>
 some e))
 (bnd (aX (dP v0) (a,0)) fun b =>
 bnd (aX (dQ v0) (b,0)) fun c =>
 some c)
def bAv:Decs:={decs:=[(14,.bool),(21,st'),(37,(.ref mM)),(40,st'),(56,(.ref dA)),(60,st')],loops:=[(4,[(2,5)],⟨dO,[],[(some 0,dO,[])]⟩),(8,[(2,5)],⟨dO,[],[(some 2,dO,[])]⟩)]}
theorem bAw O b v0 (a:List Str):eW 236 bAv Tryz.f236 O b [(eV v0),(zp PV.str a)] []=aHE O b v0 a:=by kernel_rfl
theorem aAV v0:Lok (aV5 v0) (dP v0) (aAl O aG) (aV6 v0):=by
 rintro ⟨b,a⟩ l u ⟨rfl,rfl⟩;simp only [dP,aAl,zd,zr];refine zG ?_;try simp only [evs,tys]
 apply Imp.cnd
 ·apply Imp.cnd
  ·refine zX aJ aAc fun d _ => ?_;try simp only [evs,tys]
   refine zC rfl fun c _ => ?_;try simp only [zes,evs,tys]
   exact zN
  ·exact zB ⟨a,zE⟩
 ·exact zB ⟨a,zE⟩
theorem aAW v0:Lok (aV7 v0) (dQ v0) (aAm O aG) (aV8 v0):=by
 rintro ⟨b,a⟩ l u ⟨rfl,rfl⟩;simp only [dQ,aAm,zd,zr];refine zG ?_;try simp only [evs,tys]
 apply Imp.cnd
 ·apply Imp.cnd
  ·refine zX aD eE fun d _ => ?_;try simp only [evs,tys]
   refine zC rfl fun c _ => ?_;try simp only [zes,evs,tys]
   exact zN
  ·exact zB ⟨a,zE⟩
 ·exact zB ⟨a,zE⟩
theorem aV9 v0 b:Imp (aGy v0 b) (aHE O aG v0 b) (Ri fA):=by
 simp only [aGy,aHE,zd,zr];try simp only [evs,tys]
 apply Imp.cnd
 ·refine zC rfl fun s _ => ?_;try simp only [zes,evs,tys]
  apply Imp.cnd
  ·refine Imp.op (f:=fun a => .slice (List.map PV.str a) [] true) (fun a h=>uA (enc:=PV.str) zI zI (fun a=>by first | rfl | simp only [evs,tys,evc]) h) (fun a=>rfl) fun r q => ?_;try simp only [evs,tys]
   refine zL (aAV v0) ?_;rintro g _ ⟨n,rfl⟩;refine zH ?_;try simp only [evs,tys]
   refine zL (aAW v0) ?_;rintro e _ ⟨m,rfl⟩;refine zH ?_;try simp only [evs,tys]
   exact zR
  ·refine zL (aAV v0) ?_;rintro d _ ⟨k,rfl⟩;refine zH ?_;try simp only [evs,tys]
   refine zL (aAW v0) ?_;rintro j _ ⟨o,rfl⟩;refine zH ?_;try simp only [evs,tys]
   exact zR
 ·refine zL (aAV v0) ?_;rintro c _ ⟨p,rfl⟩;refine zH ?_;try simp only [evs,tys]
  refine zL (aAW v0) ?_;rintro i _ ⟨l,rfl⟩;refine zH ?_;try simp only [evs,tys]
  exact zR
theorem aWa {v0 a r} (h:aGy v0 a=some r):aLb v0 a=some r:=zV sN (aV9 v0 a) Tryz.func236 (bAw _ _ v0 a) h
def aAX (O:Orc) (LP:LBs) (s:Str):Option (PV×UP) :=
 jn (fun (d:Int) (t_5:Bool) (t_6:Bool) =>
 (aQ O 250 [(.str s),(i6 d)] fun x7=>cnd (chk n6 x7)
 (cnd ((intV x7)==0)
 (some ((.tuple [(i6 0),(i6 0)]),[]))
 (jn (fun (c:Int) (t_14:Bool) =>
 (jn (fun (a:Int) (b:Int) (t_24:Bool) (t_25:Bool) (t_26:Bool) (t_27:Bool) =>
 (cnd (decide (a<(List.length s:Int)))
 (bnd (yA (.str s) (i6 a)) fun r=>cnd (chk (.int .u8) r)
 (cnd ((intV r)==101)
 (jn (fun (g:Int) (t_36:Bool) (t_37:Bool) =>
 (aQ O 250 [(.str s),(i6 g)] fun k=>cnd (chk n6 k)
 (cnd (decide ((intV k)>0))
 (aQ O 250 [(.str s),(i6 g)] fun m=>cnd (chk n6 m)
 (some ((.tuple [(i6 (w6 (g+(intV m)))),(i6 4)]),[])) none)
 (some ((.tuple [(i6 a),(i6 b)]),[]))) none)) fun h =>
 cnd (decide ((w6 (a+1))<(List.length s:Int)))
 (bnd (yA (.str s) (i6 (w6 (a+1)))) fun n=>cnd (chk (.int .u8) n)
 (cnd ((intV n)==43)
 (h (w6 ((w6 (a+1))+1)) true true)
 (bnd (yA (.str s) (i6 (w6 (a+1)))) fun o=>cnd (chk (.int .u8) o)
 (cnd ((intV o)==45)
 (h (w6 ((w6 (a+1))+1)) true true)
 (h (w6 (a+1)) true false)) none)) none)
 (h (w6 (a+1)) false false))
 (bnd (yA (.str s) (i6 a)) fun p=>cnd (chk (.int .u8) p)
 (cnd ((intV p)==69)
 (jn (fun (e:Int) (t_50:Bool) (t_51:Bool) =>
 (aQ O 250 [(.str s),(i6 e)] fun x52=>cnd (chk n6 x52)
 (cnd (decide ((intV x52)>0))
 (aQ O 250 [(.str s),(i6 e)] fun x54=>cnd (chk n6 x54)
 (some ((.tuple [(i6 (w6 (e+(intV x54)))),(i6 4)]),[])) none)
 (some ((.tuple [(i6 a),(i6 b)]),[]))) none)) fun i =>
 cnd (decide ((w6 (a+1))<(List.length s:Int)))
 (bnd (yA (.str s) (i6 (w6 (a+1)))) fun x45=>cnd (chk (.int .u8) x45)
 (cnd ((intV x45)==43)
 (i (w6 ((w6 (a+1))+1)) true true)
 (bnd (yA (.str s) (i6 (w6 (a+1)))) fun t=>cnd (chk (.int .u8) t)
 (cnd ((intV t)==45)
 (i (w6 ((w6 (a+1))+1)) true true)
 (i (w6 (a+1)) true false)) none)) none)
 (i (w6 (a+1)) false false))
 (some ((.tuple [(i6 a),(i6 b)]),[]))) none)) none)
 (some ((.tuple [(i6 a),(i6 b)]),[])))) fun j =>
 cnd (decide ((w6 (d+c))<(List.length s:Int)))
 (bnd (yA (.str s) (i6 (w6 (d+c)))) fun f=>cnd (chk (.int .u8) f)
 (cnd ((intV f)==46)
 (aQ O 250 [(.str s),(i6 (w6 ((w6 (d+c))+1)))] fun x18=>cnd (chk n6 x18)
 (cnd (decide ((intV x18)>0))
 (aQ O 250 [(.str s),(i6 (w6 ((w6 (d+c))+1)))] fun q=>cnd (chk n6 q)
 (j (w6 ((w6 ((w6 (d+c))+1))+(intV q))) 4 true ((intV f)==46) true true) none)
 (j (w6 (d+c)) 3 true ((intV f)==46) true false)) none)
 (j (w6 (d+c)) 3 true ((intV f)==46) false false)) none)
 (j (w6 (d+c)) 3 false false false false))) fun k10 =>
 bnd (yA (.str s) (i6 d)) fun l=>cnd (chk (.int .u8) l)
 (cnd ((intV l)==48)
 (k10 1 true)
 (k10 (intV x7) false)) none)) none)) fun k1 =>
 cnd (decide ((0:Int)<(List.length s:Int)))
 (bnd (yA (.str s) (i6 0)) fun x2=>cnd (chk (.int .u8) x2)
 (cnd ((intV x2)==45)
 (k1 1 true true)
 (k1 0 true false)) none)
 (k1 0 false false)
def sS (s:Str):Option (Int×Int) :=
 jn (fun (d:Int) (t_5:Bool) (t_6:Bool) =>
 (bnd (aCt s d) fun y8 =>
 cnd (y8==0)
 (some (0,0))
 (jn (fun (c:Int) (t_14:Bool) =>
 (jn (fun (a:Int) (b:Int) (t_24:Bool) (t_25:Bool) (t_26:Bool) (t_27:Bool) =>
 (cnd (decide (a<(List.length s:Int)))
 (bnd (nthI s a) fun l =>
 cnd ((l.toNat:Int)==101)
 (jn (fun (f:Int) (t_36:Bool) (t_37:Bool) =>
 (bnd (aCt s f) fun y39 =>
 cnd (decide (y39>0))
 (bnd (aCt s f) fun r =>
 some ((IntKind.wrap .i64 (f+r)),4))
 (some (a,b)))) fun g =>
 cnd (decide ((IntKind.wrap .i64 (a+1))<(List.length s:Int)))
 (bnd (nthI s (IntKind.wrap .i64 (a+1))) fun y32 =>
 cnd ((y32.toNat:Int)==43)
 (g (IntKind.wrap .i64 ((IntKind.wrap .i64 (a+1))+1)) true true)
 (bnd (nthI s (IntKind.wrap .i64 (a+1))) fun m =>
 cnd ((m.toNat:Int)==45)
 (g (IntKind.wrap .i64 ((IntKind.wrap .i64 (a+1))+1)) true true)
 (g (IntKind.wrap .i64 (a+1)) true false)))
 (g (IntKind.wrap .i64 (a+1)) false false))
 (bnd (nthI s a) fun y43 =>
 cnd ((y43.toNat:Int)==69)
 (jn (fun (e:Int) (t_50:Bool) (t_51:Bool) =>
 (bnd (aCt s e) fun q =>
 cnd (decide (q>0))
 (bnd (aCt s e) fun y55 =>
 some ((IntKind.wrap .i64 (e+y55)),4))
 (some (a,b)))) fun h =>
 cnd (decide ((IntKind.wrap .i64 (a+1))<(List.length s:Int)))
 (bnd (nthI s (IntKind.wrap .i64 (a+1))) fun y46 =>
 cnd ((y46.toNat:Int)==43)
 (h (IntKind.wrap .i64 ((IntKind.wrap .i64 (a+1))+1)) true true)
 (bnd (nthI s (IntKind.wrap .i64 (a+1))) fun t =>
 cnd ((t.toNat:Int)==45)
 (h (IntKind.wrap .i64 ((IntKind.wrap .i64 (a+1))+1)) true true)
 (h (IntKind.wrap .i64 (a+1)) true false)))
 (h (IntKind.wrap .i64 (a+1)) false false))
 (some (a,b))))
 (some (a,b)))) fun i =>
 cnd (decide ((IntKind.wrap .i64 (d+c))<(List.length s:Int)))
 (bnd (nthI s (IntKind.wrap .i64 (d+c))) fun j =>
 cnd ((j.toNat:Int)==46)
 (bnd (aCt s (IntKind.wrap .i64 ((IntKind.wrap .i64 (d+c))+1))) fun n =>
 cnd (decide (n>0))
 (bnd (aCt s (IntKind.wrap .i64 ((IntKind.wrap .i64 (d+c))+1))) fun o =>
 i (IntKind.wrap .i64 ((IntKind.wrap .i64 ((IntKind.wrap .i64 (d+c))+1))+o)) 4 true ((j.toNat:Int)==46) true true)
 (i (IntKind.wrap .i64 (d+c)) 3 true ((j.toNat:Int)==46) true false))
 (i (IntKind.wrap .i64 (d+c)) 3 true ((j.toNat:Int)==46) false false))
 (i (IntKind.wrap .i64 (d+c)) 3 false false false false))) fun k =>
 bnd (nthI s d) fun p =>
 cnd ((p.toNat:Int)==48)
 (k 1 true)
 (k y8 false)))) fun k1 =>
 cnd (decide ((0:Int)<(List.length s:Int)))
 (bnd (nthI s 0) fun y3 =>
 cnd ((y3.toNat:Int)==45)
 (k1 1 true true)
 (k1 0 true false))
 (k1 0 false false)
def aP6:Decs:={decs:=[(15,(.int .u8)),(22,n6),(27,(.int .u8)),(39,(.int .u8)),(46,n6),(54,n6),(63,(.int .u8)),(68,(.int .u8)),(81,(.int .u8)),(86,(.int .u8)),(94,n6),(99,n6)]}
theorem aP7 O a (s:Str):eW 238 aP6 Tryz.f238 O a [(.str s)] []=aAX O a s:=by kernel_rfl
theorem aM9 s:Imp (sS s) (aAX O aG s) (Ri jV):=by
 simp only [sS,aAX,zd,zr];try simp only [evs,tys]
 refine Imp.jn (fun I w v=>∀ (y:Int) (z:Bool) (B:Bool),I (w y z B) (v y z B)) (fun y z B => ?_) fun v U A => ?_
 ·dsimp only;try simp only [evs,tys]
  refine zC rfl fun y8 _ => ?_;try simp only [zes,evs,tys]
  apply Imp.cnd;·exact zR
  ·refine Imp.jn (fun I w v=>∀ (p:Int) (m:Bool),I (w p m) (v p m)) (fun p m => ?_) fun k10 K x => ?_
   ·dsimp only;try simp only [evs,tys]
    refine Imp.jn (fun I w v=>∀ (t:Int) (b:Int) (n:Bool) (l:Bool) (r:Bool) (j:Bool),I (w t b n l r j) (v t b n l r j)) (fun t b n l r j => ?_) fun Y C c => ?_
    ·dsimp only;try simp only [evs,tys]
     apply Imp.cnd
     ·refine Imp.op (f:=fun a => .int .u8 (a.toNat:Int)) (fun a h=>jP h) (fun a=>rfl) fun Q L => ?_;try simp only [evs,tys]
      apply Imp.cnd
      ·refine Imp.jn (fun I w v=>∀ (k:Int) (i:Bool) (u:Bool),I (w k i u) (v k i u)) (fun k i u => ?_) fun W E d => ?_
       ·dsimp only;try simp only [evs,tys]
        refine zC rfl fun y39 _ => ?_;try simp only [zes,evs,tys]
        apply Imp.cnd
        ·refine zC rfl fun y41 _ => ?_;try simp only [zes,evs,tys]
         exact zR
        ·exact zR
       apply Imp.cnd
       ·refine Imp.op (f:=fun a => .int .u8 (a.toNat:Int)) (fun a h=>jP h) (fun a=>rfl) fun y32 M => ?_;try simp only [evs,tys]
        apply Imp.cnd;·first | exact d _ _ _ | simpa only [evs,tys,evl] using d _ _ _
        ·refine Imp.op (f:=fun a => .int .u8 (a.toNat:Int)) (fun a h=>jP h) (fun a=>rfl) fun R J => ?_;try simp only [evs,tys]
         apply Imp.cnd;·first | exact d _ _ _ | simpa only [evs,tys,evl] using d _ _ _
         ·first | exact d _ _ _ | simpa only [evs,tys,evl] using d _ _ _
       ·first | exact d _ _ _ | simpa only [evs,tys,evl] using d _ _ _
      ·refine Imp.op (f:=fun a => .int .u8 (a.toNat:Int)) (fun a h=>jP h) (fun a=>rfl) fun y43 H => ?_;try simp only [evs,tys]
       apply Imp.cnd
       ·refine Imp.jn (fun I w v=>∀ (g:Int) (q:Bool) (o:Bool),I (w g q o) (v g q o)) (fun g q o => ?_) fun k44 G e => ?_
        ·dsimp only;try simp only [evs,tys]
         refine zC rfl fun X _ => ?_;try simp only [zes,evs,tys]
         apply Imp.cnd
         ·refine zC rfl fun y55 _ => ?_;try simp only [zes,evs,tys]
          exact zR
         ·exact zR
        apply Imp.cnd
        ·refine Imp.op (f:=fun a => .int .u8 (a.toNat:Int)) (fun a h=>jP h) (fun a=>rfl) fun y46 P => ?_;try simp only [evs,tys]
         apply Imp.cnd;·first | exact e _ _ _ | simpa only [evs,tys,evl] using e _ _ _
         ·refine Imp.op (f:=fun a => .int .u8 (a.toNat:Int)) (fun a h=>jP h) (fun a=>rfl) fun Z F => ?_;try simp only [evs,tys]
          apply Imp.cnd;·first | exact e _ _ _ | simpa only [evs,tys,evl] using e _ _ _
          ·first | exact e _ _ _ | simpa only [evs,tys,evl] using e _ _ _
        ·first | exact e _ _ _ | simpa only [evs,tys,evl] using e _ _ _
       ·exact zR
     ·exact zR
    apply Imp.cnd
    ·refine Imp.op (f:=fun a => .int .u8 (a.toNat:Int)) (fun a h=>jP h) (fun a=>rfl) fun y17 D => ?_;try simp only [evs,tys]
     apply Imp.cnd
     ·refine zC rfl fun y19 _ => ?_;try simp only [zes,evs,tys]
      apply Imp.cnd
      ·refine zC rfl fun T _ => ?_;try simp only [zes,evs,tys]
       first | exact c _ _ _ _ _ _ | simpa only [evs,tys,evl] using c _ _ _ _ _ _
      ·first | exact c _ _ _ _ _ _ | simpa only [evs,tys,evl] using c _ _ _ _ _ _
     ·first | exact c _ _ _ _ _ _ | simpa only [evs,tys,evl] using c _ _ _ _ _ _
    ·first | exact c _ _ _ _ _ _ | simpa only [evs,tys,evl] using c _ _ _ _ _ _
   refine Imp.op (f:=fun a => .int .u8 (a.toNat:Int)) (fun a h=>jP h) (fun a=>rfl) fun V N => ?_;try simp only [evs,tys]
   apply Imp.cnd;·first | exact x _ _ | simpa only [evs,tys,evl] using x _ _
   ·first | exact x _ _ | simpa only [evs,tys,evl] using x _ _
 apply Imp.cnd
 ·refine Imp.op (f:=fun a => .int .u8 (a.toNat:Int)) (fun a h=>jP h) (fun a=>rfl) fun y3 S => ?_;try simp only [evs,tys]
  apply Imp.cnd;·first | exact A _ _ _ | simpa only [evs,tys,evl] using A _ _ _
  ·first | exact A _ _ _ | simpa only [evs,tys,evl] using A _ _ _
 ·first | exact A _ _ _ | simpa only [evs,tys,evl] using A _ _ _
theorem aNa {s r} (h:sS s=some r):aOy s=some r:=zV aII (aM9 s) Tryz.func238 (aP7 _ _ s) h
abbrev lP:List Sh:=[.str,st',.bool,st',n6]
def aFj (O:Orc) (e:LBs):bO:=fun a d=>cnd (chkL lP a) (cnd (chkU [] d)
 (cnd (decide ((iv a 4)<(List.length (sv a 0):Int)))
 (aQ O 251 [(zt a 0),(zn a 4)] fun c=>cnd (chk (.tup [n6,n6]) c)
 (cnd ((intV (tv c 1))==0)
 (some (.ret,[(zt a 0),(.slice [] [] true),(.bool false),(zo a 3),(zn a 4)],[]))
 (bnd (apd 1 (zo a 3) (.slice [(i6 (intV (tv c 0)))] [] true)) fun b=>cnd (chk st' b)
 (some (.nrm,[(zt a 0),(zo a 1),(zb a 2),(.slice (esV b) [] true),(i6 (w6 ((iv a 4)+(intV (tv c 1)))))],[])) none)) none)
 (some (.brk 0,(rb lP a),[]))) none) none
def aFk (O:Orc) (b:LBs) (s:Str):Option (PV×UP) :=
 bnd (b (aFj O b) [(.str s),(.slice [] [] true),(.bool false),(.slice [] [] true),(i6 0)] []) fun a =>
 exIs a.1 (some 0) (cnd (chkL lP a.2.1) (cnd (chkU [] a.2.2)
 (some ((.tuple [(zs a.2.1 3),(.bool true)]),[])) none) none)
 (exIs a.1 none (cnd (chkL lP a.2.1) (cnd (chkU [] a.2.2)
 (some ((.tuple [(zs a.2.1 1),(zb a.2.1 2)]),[])) none) none)
 (none))
def aCF (s:Str):((List Int)×Int)->Option (((List Int)×Int)⊕((List Int)⊕Unit))
 | (a,b) =>
 cnd (decide (b<(List.length s:Int)))
  (bnd (aVL s b) fun d =>
  cnd (d.2==0)
  (some (.inr (.inr ())))
  (bnd (tapp a [d.1]) fun c =>
  some (.inl (c,(IntKind.wrap .i64 (b+d.2))))))
  (some (.inr (.inl a)))
abbrev aSY (s:Str) (st:(List Int)×Int) (l:List PV) (u:UP):Prop:=l=[(.str s),(.slice [] [] true),(.bool false),(.slice (List.map (PV.int .i64) st.1) [] true),(i6 st.2)]/\u=[]
abbrev aSZ (s:Str) (p:(List Int)⊕Unit) (r:EU):Prop:=elim p (fun (p:(List Int))=>∃ (b:Int),r=(Ex.brk 0,[(.str s),(.slice [] [] true),(.bool false),(.slice (List.map (PV.int .i64) p) [] true),(i6 b)],[])) (fun d=>(fun (p:Unit)=>∃ (a:List Int),∃ (c:Int),r=(Ex.ret,[(.str s),(.slice [] [] true),(.bool false),(.slice (List.map (PV.int .i64) a) [] true),(i6 c)],[])) d)
def aDL (s:Str):Option ((List Int)×Bool) :=
 bnd (aX (aCF s) ([],0)) fun b=>elim b
 (fun a =>
 some (a,true))
 (fun c =>
 some (([]:List Int),false))
def aWb:Decs:={decs:=[(15,(.tup [n6,n6])),(23,st')],loops:=[(3,[],⟨lP,[],[(some 0,lP,[]),(none,lP,[])]⟩)]}
theorem aWc O a (s:Str):eW 239 aWb Tryz.f239 O a [(.str s)] []=aFk O a s:=by kernel_rfl
theorem aNb s:Lok (aSY s) (aCF s) (aFj O aG) (aSZ s):=by
 rintro ⟨b,c⟩ l u ⟨rfl,rfl⟩;simp only [aCF,aFj,zd,zr];refine zG ?_;try simp only [evs,tys]
 apply Imp.cnd
 ·refine zC rfl fun g _ => ?_;try simp only [zes,evs,tys]
  apply Imp.cnd;·exact zT ⟨b,c,zE⟩
  ·refine Imp.op (f:=fun a => .slice (List.map (PV.int .i64) a) [] true) (fun a h=>uA (enc:=(PV.int .i64)) zI zI (fun a=>by first | rfl | simp only [evs,tys,evc]) h) (fun a=>rfl) fun e d => ?_;try simp only [evs,tys]
   exact zN
 ·exact zB ⟨c,zE⟩
theorem aS0 s:Imp (aDL s) (aFk O aG s) (Ri vV):=by
 simp only [aDL,aFk,zd,zr];try simp only [evs,tys]
 refine zL (aNb s) ?_;rintro (c | p) e a
 ·try simp only [aO,aP]
  obtain ⟨d,rfl⟩:=a;refine zH ?_;try simp only [evs,tys]
  exact zR
 ·try simp only [aO,aP]
  obtain ⟨b,f,rfl⟩:=a;refine Imp.exMiss rfl ?_;refine zH ?_;try simp only [evs,tys]
  exact zR
theorem aS1 {s r} (h:aDL s=some r):aYH s=some r:=zV bAh (aS0 s) Tryz.func239 (aWc _ _ s) h
def yM (O:Orc) (b:LBs) (v0:GVarDef) (u0_6:GOp) (u0_5:GDoc) (u0_4:GSchema):Option (PV×UP) :=
 aQ O 146 [(eS u0_4),(.str v0.t.name)] fun a=>cnd (chk .bool a)
 (some ((.bool (!(bM a))),[[(6,[(i6 u0_6.kind),(.str u0_6.name),(zq aB u0_6.vars),(zq aI u0_6.dirs),(zq aF u0_6.sels)]),(5,[(zq aR u0_5.ops),(zq aH u0_5.frags)]),(4,[(zq aL u0_4.defs),(.str u0_4.query),(.str u0_4.mutation)])]])) none
def uL (v0:GVarDef) (u0_6:GOp) (u0_5:GDoc) (u0_4:GSchema):Option Bool :=
 bnd (aPO u0_4 v0.t.name) fun a =>
 some (!a)
def aNc:Decs:={decs:=[(8,.bool)]}
theorem aNd O a v0 u0_6 u0_5 u0_4:eW 145 aNc Tryz.f145 O a [(.agg [(.str v0.name),(.str v0.t.name),(i6 v0.t.lists),(i6 v0.t.musts),(.bool v0.has),(i6 v0.default.kind),(i6 v0.default.n),(.str v0.default.s),(zq aJ v0.default.l),(zq aD v0.default.m)]),(.ptr 1 4 0)] [[(6,[(i6 u0_6.kind),(.str u0_6.name),(zq aB u0_6.vars),(zq aI u0_6.dirs),(zq aF u0_6.sels)]),(5,[(zq aR u0_5.ops),(zq aH u0_5.frags)]),(4,[(zq aL u0_4.defs),(.str u0_4.query),(.str u0_4.mutation)])]]=yM O a v0 u0_6 u0_5 u0_4:=by kernel_rfl
theorem aLs v0 u0_6 u0_5 u0_4:Imp (uL v0 u0_6 u0_5 u0_4) (yM O aG v0 u0_6 u0_5 u0_4) (fun r v=>v=(aA r,(lK v0 u0_6 u0_5 u0_4 r))):=by
 simp only [uL,yM,zd,zr];try simp only [evs,tys]
 refine zC rfl fun a _ => ?_;try simp only [zes,evs,tys]
 exact Imp.some (by first | rfl | simp only [zes,lK,evs,tys,evl])
theorem aLt {v0 u0_6 u0_5 u0_4 r} (h:uL v0 u0_6 u0_5 u0_4=some r):aEX v0 u0_6 u0_5 u0_4=some r:=zV aE (aLs v0 u0_6 u0_5 u0_4) Tryz.func145 (aNd _ _ v0 u0_6 u0_5 u0_4) h
abbrev jZ:List Sh:=[sf,(.func 145 [] [(.ptr 1 4 0)]),n6,n6,n6]
def aCG (O:Orc) (e:LBs):bO:=fun c a=>cnd (chkL jZ c) (cnd (chkU [[(6,[n6,.str,sf,sf,sf]),(5,[sf,sf]),(4,[sf,.str,.str])]] a)
 (cnd (decide ((iv c 4)<(iv c 3)))
 (bnd (ix 10 (zs c 0) (zn c 4)) fun d=>cnd (chk (.ref eZ) d)
 (bnd (O 145 [(.agg [(zt (rf d) 0),(zt (rf d) 1),(zn (rf d) 2),(zn (rf d) 3),(zb (rf d) 4),(zn (rf d) 5),(zn (rf d) 6),(zt (rf d) 7),(zs (rf d) 8),(zs (rf d) 9)]),(.ptr 2 4 0)] [[],[(6,[(zn (bx a 0 0) 0),(zt (bx a 0 0) 1),(zs (bx a 0 0) 2),(zs (bx a 0 0) 3),(zs (bx a 0 0) 4)]),(5,[(zs (bx a 0 1) 0),(zs (bx a 0 1) 1)]),(4,[(zs (bx a 0 2) 0),(zt (bx a 0 2) 1),(zt (bx a 0 2) 2)])]]) fun b=>cnd (chkU [[],[(6,[n6,.str,sf,sf,sf]),(5,[sf,sf]),(4,[sf,.str,.str])]] b.2) (cnd (chk .bool b.1)
 (cnd (bM b.1)
 (some (.ret,[(zs c 0),(.func (.func 145) [] [(.ptr 1 4 0)]),(zn c 4),(zn c 3),(zn c 4)],[[(6,[(zn (bx b.2 1 0) 0),(zt (bx b.2 1 0) 1),(zs (bx b.2 1 0) 2),(zs (bx b.2 1 0) 3),(zs (bx b.2 1 0) 4)]),(5,[(zs (bx b.2 1 1) 0),(zs (bx b.2 1 1) 1)]),(4,[(zs (bx b.2 1 2) 0),(zt (bx b.2 1 2) 1),(zt (bx b.2 1 2) 2)])]]))
 (some (.nrm,[(zs c 0),(.func (.func 145) [] [(.ptr 1 4 0)]),(zn c 2),(zn c 3),(i6 (w6 ((iv c 4)+1)))],[[(6,[(zn (bx b.2 1 0) 0),(zt (bx b.2 1 0) 1),(zs (bx b.2 1 0) 2),(zs (bx b.2 1 0) 3),(zs (bx b.2 1 0) 4)]),(5,[(zs (bx b.2 1 1) 0),(zs (bx b.2 1 1) 1)]),(4,[(zs (bx b.2 1 2) 0),(zt (bx b.2 1 2) 1),(zt (bx b.2 1 2) 2)])]]))) none) none) none)
 (some (.brk 0,(pu (rb jZ c) 1 (.func (.func 145) [] [(.ptr 1 4 0)])),[[(6,[(zn (bx a 0 0) 0),(zt (bx a 0 0) 1),(zs (bx a 0 0) 2),(zs (bx a 0 0) 3),(zs (bx a 0 0) 4)]),(5,[(zs (bx a 0 1) 0),(zs (bx a 0 1) 1)]),(4,[(zs (bx a 0 2) 0),(zt (bx a 0 2) 1),(zt (bx a 0 2) 2)])]]))) none) none
def aCH (O:Orc) (b:LBs) (s:List GVarDef) (u0_6:GOp) (u0_5:GDoc) (u0_4:GSchema):Option (PV×UP) :=
 bnd (b (aCG O b) [(zq aB s),(.func (.func 145) [] [(.ptr 1 4 0)]),(i6 0),(i6 (List.length (List.map aB s):Int)),(i6 0)] [[(6,[(i6 u0_6.kind),(.str u0_6.name),(zq aB u0_6.vars),(zq aI u0_6.dirs),(zq aF u0_6.sels)]),(5,[(zq aR u0_5.ops),(zq aH u0_5.frags)]),(4,[(zq aL u0_4.defs),(.str u0_4.query),(.str u0_4.mutation)])]]) fun a =>
 exIs a.1 (some 0) (cnd (chkL jZ a.2.1) (cnd (chkU [[(6,[n6,.str,sf,sf,sf]),(5,[sf,sf]),(4,[sf,.str,.str])]] a.2.2)
 (some ((i6 (-1)),[[(6,[(zn (bx a.2.2 0 0) 0),(zt (bx a.2.2 0 0) 1),(zs (bx a.2.2 0 0) 2),(zs (bx a.2.2 0 0) 3),(zs (bx a.2.2 0 0) 4)]),(5,[(zs (bx a.2.2 0 1) 0),(zs (bx a.2.2 0 1) 1)]),(4,[(zs (bx a.2.2 0 2) 0),(zt (bx a.2.2 0 2) 1),(zt (bx a.2.2 0 2) 2)])]])) none) none)
 (exIs a.1 none (cnd (chkL jZ a.2.1) (cnd (chkU [[(6,[n6,.str,sf,sf,sf]),(5,[sf,sf]),(4,[sf,.str,.str])]] a.2.2)
 (some ((zn a.2.1 2),[[(6,[(zn (bx a.2.2 0 0) 0),(zt (bx a.2.2 0 0) 1),(zs (bx a.2.2 0 0) 2),(zs (bx a.2.2 0 0) 3),(zs (bx a.2.2 0 0) 4)]),(5,[(zs (bx a.2.2 0 1) 0),(zs (bx a.2.2 0 1) 1)]),(4,[(zs (bx a.2.2 0 2) 0),(zt (bx a.2.2 0 2) 1),(zt (bx a.2.2 0 2) 2)])]])) none) none)
 (none))
def mH (s:List GVarDef) (u0_6:GOp) (u0_5:GDoc) (u0_4:GSchema):Int->Option (Int⊕(Unit⊕Int))
 | a =>
 cnd (decide (a<(List.length s:Int)))
  (bnd (nthI s a) fun c =>
  bnd (aEX c u0_6 u0_5 u0_4) fun b =>
  cnd b
  (some (.inr (.inr a)))
  (some (.inl (IntKind.wrap .i64 (a+1)))))
  (some (.inr (.inl ())))
abbrev aP8 (s:List GVarDef) (u0_6:GOp) (u0_5:GDoc) (u0_4:GSchema) (st:Int) (l:List PV) (u:UP):Prop:=l=[(zq aB s),(.func (.func 145) [] [(.ptr 1 4 0)]),(i6 0),(i6 (List.length s:Int)),(i6 st)]/\u=[[(6,[(i6 u0_6.kind),(.str u0_6.name),(zq aB u0_6.vars),(zq aI u0_6.dirs),(zq aF u0_6.sels)]),(5,[(zq aR u0_5.ops),(zq aH u0_5.frags)]),(4,[(zq aL u0_4.defs),(.str u0_4.query),(.str u0_4.mutation)])]]
abbrev aP9 (s:List GVarDef) (u0_6:GOp) (u0_5:GDoc) (u0_4:GSchema) (p:Unit⊕Int) (r:EU):Prop:=elim p (fun (p:Unit)=>∃ (a:Int),r=(Ex.brk 0,[(zq aB s),(.func (.func 145) [] [(.ptr 1 4 0)]),(i6 0),(i6 (List.length s:Int)),(i6 a)],[[(6,[(i6 u0_6.kind),(.str u0_6.name),(zq aB u0_6.vars),(zq aI u0_6.dirs),(zq aF u0_6.sels)]),(5,[(zq aR u0_5.ops),(zq aH u0_5.frags)]),(4,[(zq aL u0_4.defs),(.str u0_4.query),(.str u0_4.mutation)])]])) (fun c=>(fun (p:Int)=>∃ (b:Int),r=(Ex.ret,[(zq aB s),(.func (.func 145) [] [(.ptr 1 4 0)]),(i6 p),(i6 (List.length s:Int)),(i6 b)],[[(6,[(i6 u0_6.kind),(.str u0_6.name),(zq aB u0_6.vars),(zq aI u0_6.dirs),(zq aF u0_6.sels)]),(5,[(zq aR u0_5.ops),(zq aH u0_5.frags)]),(4,[(zq aL u0_4.defs),(.str u0_4.query),(.str u0_4.mutation)])]])) c)
def aAY (s:List GVarDef) (u0_6:GOp) (u0_5:GDoc) (u0_4:GSchema):Option Int :=
 bnd (aX (mH s u0_6 u0_5 u0_4) 0) fun a=>elim a
 (fun c =>
 some (-1))
 (fun b =>
 some b)
def aS2:Decs:={decs:=[(14,(.ref eZ)),(16,.bool)],ups:=[(16,[[],[(6,[n6,.str,sf,sf,sf]),(5,[sf,sf]),(4,[sf,.str,.str])]])],loops:=[(2,[],⟨jZ,[[(6,[n6,.str,sf,sf,sf]),(5,[sf,sf]),(4,[sf,.str,.str])]],[(some 0,jZ,[[(6,[n6,.str,sf,sf,sf]),(5,[sf,sf]),(4,[sf,.str,.str])]]),(none,jZ,[[(6,[n6,.str,sf,sf,sf]),(5,[sf,sf]),(4,[sf,.str,.str])]])]⟩)]}
theorem aS3 O a s u0_6 u0_5 u0_4:eW 204 aS2 Tryz.f204 O a [(zq aB s),(.func (.func 145) [] [(.ptr 1 4 0)])] [[(6,[(i6 u0_6.kind),(.str u0_6.name),(zq aB u0_6.vars),(zq aI u0_6.dirs),(zq aF u0_6.sels)]),(5,[(zq aR u0_5.ops),(zq aH u0_5.frags)]),(4,[(zq aL u0_4.defs),(.str u0_4.query),(.str u0_4.mutation)])]]=aCH O a s u0_6 u0_5 u0_4:=by kernel_rfl
theorem aLu s u0_6 u0_5 u0_4:Lok (aP8 s u0_6 u0_5 u0_4) (mH s u0_6 u0_5 u0_4) (aCG O aG) (aP9 s u0_6 u0_5 u0_4):=by
 rintro b l u ⟨rfl,rfl⟩;simp only [mH,aCG,zd,zr];refine zG ?_;try simp only [evs,tys]
 apply Imp.cnd
 ·refine zX aB jR fun g _ => ?_;try simp only [evs,tys]
  refine Imp.gcall (f:=aA) (fu:=fun a=>[]::lK g u0_6 u0_5 u0_4 a) (fun a h=>by first | exact fQ rfl rfl (by first | rfl | (simp only [zes,tys];rfl)) (bA h) | (have c:=bA h;simp only [evs,tys,evl,lK] at c;exact fQ rfl rfl (by first | rfl | (simp only [zes,tys];rfl)) c)) zK (fun a=>by first | rfl | (simp only [lK,evs,tys];first | rfl | (cases w<;>rfl))) fun e d => ?_;try simp only [aA,lK,evs,tys]
  apply Imp.cnd;·exact zT ⟨b,zE⟩
  ·exact zN
 ·exact zB ⟨b,zE⟩
theorem aQa s u0_6 u0_5 u0_4:Imp (aAY s u0_6 u0_5 u0_4) (aCH O aG s u0_6 u0_5 u0_4) (fun r v=>v=(aZ r,(oH s u0_6 u0_5 u0_4 r))):=by
 simp only [aAY,aCH,zd,zr];try simp only [evs,tys]
 refine zL (aLu s u0_6 u0_5 u0_4) ?_;rintro (p | e) d a
 ·try simp only [aO,aP]
  obtain ⟨b,rfl⟩:=a;refine zH ?_;try simp only [evs,tys]
  exact Imp.some (by first | rfl | simp only [zes,oH,evs,tys,evl])
 ·try simp only [aO,aP]
  obtain ⟨c,rfl⟩:=a;refine Imp.exMiss rfl ?_;refine zH ?_;try simp only [evs,tys]
  exact Imp.some (by first | rfl | simp only [zes,oH,evs,tys,evl])
theorem aQb {s u0_6 u0_5 u0_4 r} (h:aAY s u0_6 u0_5 u0_4=some r):aSu s u0_6 u0_5 u0_4=some r:=zV iZ (aQa s u0_6 u0_5 u0_4) Tryz.func204 (aS3 _ _ s u0_6 u0_5 u0_4) h
def fH (O:Orc) (b:LBs) (s:List GVarDef) (u0_6:GOp) (u0_5:GDoc) (u0_4:GSchema):Option (PV×UP) :=
 bnd (O 204 [(zq aB s),(.func (.func 145) [] [(.ptr 2 4 0)])] [[],[(6,[(i6 u0_6.kind),(.str u0_6.name),(zq aB u0_6.vars),(zq aI u0_6.dirs),(zq aF u0_6.sels)]),(5,[(zq aR u0_5.ops),(zq aH u0_5.frags)]),(4,[(zq aL u0_4.defs),(.str u0_4.query),(.str u0_4.mutation)])]]) fun a=>cnd (chkU [[],[(6,[n6,.str,sf,sf,sf]),(5,[sf,sf]),(4,[sf,.str,.str])]] a.2) (cnd (chk n6 a.1)
 (some ((.bool (decide ((intV a.1)≥0))),[[(6,[(zn (bx a.2 1 0) 0),(zt (bx a.2 1 0) 1),(zs (bx a.2 1 0) 2),(zs (bx a.2 1 0) 3),(zs (bx a.2 1 0) 4)]),(5,[(zs (bx a.2 1 1) 0),(zs (bx a.2 1 1) 1)]),(4,[(zs (bx a.2 1 2) 0),(zt (bx a.2 1 2) 1),(zt (bx a.2 1 2) 2)])]])) none) none
def dK (s:List GVarDef) (u0_6:GOp) (u0_5:GDoc) (u0_4:GSchema):Option Bool :=
 bnd (aSu s u0_6 u0_5 u0_4) fun a =>
 some (decide (a≥0))
def tN:Decs:={decs:=[(7,n6)],ups:=[(7,[[],[(6,[n6,.str,sf,sf,sf]),(5,[sf,sf]),(4,[sf,.str,.str])]])]}
theorem tP O a s u0_6 u0_5 u0_4:eW 144 tN Tryz.f144 O a [(zq aB s),(.func (.func 145) [] [(.ptr 1 4 0)])] [[(6,[(i6 u0_6.kind),(.str u0_6.name),(zq aB u0_6.vars),(zq aI u0_6.dirs),(zq aF u0_6.sels)]),(5,[(zq aR u0_5.ops),(zq aH u0_5.frags)]),(4,[(zq aL u0_4.defs),(.str u0_4.query),(.str u0_4.mutation)])]]=fH O a s u0_6 u0_5 u0_4:=by kernel_rfl
theorem sT s u0_6 u0_5 u0_4:Imp (dK s u0_6 u0_5 u0_4) (fH O aG s u0_6 u0_5 u0_4) (fun r v=>v=(aA r,(bP s u0_6 u0_5 u0_4 r))):=by
 simp only [dK,fH,zd,zr];try simp only [evs,tys]
 refine Imp.gcall (f:=aZ) (fu:=fun a=>[]::oH s u0_6 u0_5 u0_4 a) (fun a h=>by first | exact fQ rfl rfl (by first | rfl | (simp only [zes,tys];rfl)) (bA h) | (have b:=bA h;simp only [evs,tys,evl,oH] at b;exact fQ rfl rfl (by first | rfl | (simp only [zes,tys];rfl)) b)) zK (fun a=>by first | rfl | (simp only [oH,evs,tys];first | rfl | (cases w<;>rfl))) fun d c => ?_;try simp only [aZ,oH,evs,tys]
 exact Imp.some (by first | rfl | simp only [zes,bP,evs,tys,evl])
theorem sU {s u0_6 u0_5 u0_4 r} (h:dK s u0_6 u0_5 u0_4=some r):gR s u0_6 u0_5 u0_4=some r:=zV aE (sT s u0_6 u0_5 u0_4) Tryz.func144 (tP _ _ s u0_6 u0_5 u0_4) h
def yN (O:Orc) (c:LBs) (a:Str) (u0_6:GOp) (u0_5:GDoc) (u0_4:GSchema):Option (PV×UP) :=
 aQ O 149 [(.agg [(i6 u0_6.kind),(.str u0_6.name),(zq aB u0_6.vars),(zq aI u0_6.dirs),(zq aF u0_6.sels)]),(.str a)] fun b=>cnd (chk (.tup [eZ,.bool]) b)
 (some ((.bool (!(bM (tv b 1)))),[[(6,[(i6 u0_6.kind),(.str u0_6.name),(zq aB u0_6.vars),(zq aI u0_6.dirs),(zq aF u0_6.sels)]),(5,[(zq aR u0_5.ops),(zq aH u0_5.frags)]),(4,[(zq aL u0_4.defs),(.str u0_4.query),(.str u0_4.mutation)])]])) none
def uM (a:Str) (u0_6:GOp) (u0_5:GDoc) (u0_4:GSchema):Option Bool :=
 bnd (aPP u0_6 a) fun b =>
 some (!b.2)
def aNe:Decs:={decs:=[(9,(.tup [eZ,.bool]))]}
theorem aNf O b (a:Str) u0_6 u0_5 u0_4:eW 148 aNe Tryz.f148 O b [(.str a),(.ptr 1 6 0)] [[(6,[(i6 u0_6.kind),(.str u0_6.name),(zq aB u0_6.vars),(zq aI u0_6.dirs),(zq aF u0_6.sels)]),(5,[(zq aR u0_5.ops),(zq aH u0_5.frags)]),(4,[(zq aL u0_4.defs),(.str u0_4.query),(.str u0_4.mutation)])]]=yN O b a u0_6 u0_5 u0_4:=by kernel_rfl
theorem aLv a u0_6 u0_5 u0_4:Imp (uM a u0_6 u0_5 u0_4) (yN O aG a u0_6 u0_5 u0_4) (fun r v=>v=(aA r,(lL a u0_6 u0_5 u0_4 r))):=by
 simp only [uM,yN,zd,zr];try simp only [evs,tys]
 refine zC rfl fun b _ => ?_;try simp only [zes,evs,tys]
 exact Imp.some (by first | rfl | simp only [zes,lL,evs,tys,evl])
theorem aLw {a u0_6 u0_5 u0_4 r} (h:uM a u0_6 u0_5 u0_4=some r):aEY a u0_6 u0_5 u0_4=some r:=zV aE (aLv a u0_6 u0_5 u0_4) Tryz.func148 (aNf _ _ a u0_6 u0_5 u0_4) h
def nP (O:Orc) (e:LBs):bO:=fun c a=>cnd (chkL [sf,(.func 148 [] [(.ptr 1 6 0)]),n6,n6,n6] c) (cnd (chkU [[(6,[n6,.str,sf,sf,sf]),(5,[sf,sf]),(4,[sf,.str,.str])]] a)
 (cnd (decide ((iv c 4)<(iv c 3)))
 (bnd (ix 1 (zs c 0) (zn c 4)) fun d=>cnd (chk (.ref .str) d)
 (bnd (O 148 [(.str (strV (refV d))),(.ptr 2 6 0)] [[],[(6,[(zn (bx a 0 0) 0),(zt (bx a 0 0) 1),(zs (bx a 0 0) 2),(zs (bx a 0 0) 3),(zs (bx a 0 0) 4)]),(5,[(zs (bx a 0 1) 0),(zs (bx a 0 1) 1)]),(4,[(zs (bx a 0 2) 0),(zt (bx a 0 2) 1),(zt (bx a 0 2) 2)])]]) fun b=>cnd (chkU [[],[(6,[n6,.str,sf,sf,sf]),(5,[sf,sf]),(4,[sf,.str,.str])]] b.2) (cnd (chk .bool b.1)
 (cnd (bM b.1)
 (some (.ret,[(zs c 0),(.func (.func 148) [] [(.ptr 1 6 0)]),(zn c 4),(zn c 3),(zn c 4)],[[(6,[(zn (bx b.2 1 0) 0),(zt (bx b.2 1 0) 1),(zs (bx b.2 1 0) 2),(zs (bx b.2 1 0) 3),(zs (bx b.2 1 0) 4)]),(5,[(zs (bx b.2 1 1) 0),(zs (bx b.2 1 1) 1)]),(4,[(zs (bx b.2 1 2) 0),(zt (bx b.2 1 2) 1),(zt (bx b.2 1 2) 2)])]]))
 (some (.nrm,[(zs c 0),(.func (.func 148) [] [(.ptr 1 6 0)]),(zn c 2),(zn c 3),(i6 (w6 ((iv c 4)+1)))],[[(6,[(zn (bx b.2 1 0) 0),(zt (bx b.2 1 0) 1),(zs (bx b.2 1 0) 2),(zs (bx b.2 1 0) 3),(zs (bx b.2 1 0) 4)]),(5,[(zs (bx b.2 1 1) 0),(zs (bx b.2 1 1) 1)]),(4,[(zs (bx b.2 1 2) 0),(zt (bx b.2 1 2) 1),(zt (bx b.2 1 2) 2)])]]))) none) none) none)
 (some (.brk 0,[(zs c 0),(.func (.func 148) [] [(.ptr 1 6 0)]),(zn c 2),(zn c 3),(zn c 4)],[[(6,[(zn (bx a 0 0) 0),(zt (bx a 0 0) 1),(zs (bx a 0 0) 2),(zs (bx a 0 0) 3),(zs (bx a 0 0) 4)]),(5,[(zs (bx a 0 1) 0),(zs (bx a 0 1) 1)]),(4,[(zs (bx a 0 2) 0),(zt (bx a 0 2) 1),(zt (bx a 0 2) 2)])]]))) none) none
def nQ (O:Orc) (b:LBs) (s:List Str) (u0_6:GOp) (u0_5:GDoc) (u0_4:GSchema):Option (PV×UP) :=
 bnd (b (nP O b) [(zq PV.str s),(.func (.func 148) [] [(.ptr 1 6 0)]),(i6 0),(i6 (List.length (List.map PV.str s):Int)),(i6 0)] [[(6,[(i6 u0_6.kind),(.str u0_6.name),(zq aB u0_6.vars),(zq aI u0_6.dirs),(zq aF u0_6.sels)]),(5,[(zq aR u0_5.ops),(zq aH u0_5.frags)]),(4,[(zq aL u0_4.defs),(.str u0_4.query),(.str u0_4.mutation)])]]) fun a =>
 exIs a.1 (some 0) (cnd (chkL [sf,(.func 148 [] [(.ptr 1 6 0)]),n6,n6,n6] a.2.1) (cnd (chkU [[(6,[n6,.str,sf,sf,sf]),(5,[sf,sf]),(4,[sf,.str,.str])]] a.2.2)
 (some ((i6 (-1)),[[(6,[(zn (bx a.2.2 0 0) 0),(zt (bx a.2.2 0 0) 1),(zs (bx a.2.2 0 0) 2),(zs (bx a.2.2 0 0) 3),(zs (bx a.2.2 0 0) 4)]),(5,[(zs (bx a.2.2 0 1) 0),(zs (bx a.2.2 0 1) 1)]),(4,[(zs (bx a.2.2 0 2) 0),(zt (bx a.2.2 0 2) 1),(zt (bx a.2.2 0 2) 2)])]])) none) none)
 (exIs a.1 none (cnd (chkL [sf,(.func 148 [] [(.ptr 1 6 0)]),n6,n6,n6] a.2.1) (cnd (chkU [[(6,[n6,.str,sf,sf,sf]),(5,[sf,sf]),(4,[sf,.str,.str])]] a.2.2)
 (some ((zn a.2.1 2),[[(6,[(zn (bx a.2.2 0 0) 0),(zt (bx a.2.2 0 0) 1),(zs (bx a.2.2 0 0) 2),(zs (bx a.2.2 0 0) 3),(zs (bx a.2.2 0 0) 4)]),(5,[(zs (bx a.2.2 0 1) 0),(zs (bx a.2.2 0 1) 1)]),(4,[(zs (bx a.2.2 0 2) 0),(zt (bx a.2.2 0 2) 1),(zt (bx a.2.2 0 2) 2)])]])) none) none)
 (none))
def dU (s:List Str) (u0_6:GOp) (u0_5:GDoc) (u0_4:GSchema):Int->Option (Int⊕(Unit⊕Int))
 | a =>
 cnd (decide (a<(List.length s:Int)))
  (bnd (nthI s a) fun c =>
  bnd (aEY c u0_6 u0_5 u0_4) fun b =>
  cnd b
  (some (.inr (.inr a)))
  (some (.inl (IntKind.wrap .i64 (a+1)))))
  (some (.inr (.inl ())))
abbrev aEb (s:List Str) (u0_6:GOp) (u0_5:GDoc) (u0_4:GSchema) (st:Int) (l:List PV) (u:UP):Prop:=l=[(zq PV.str s),(.func (.func 148) [] [(.ptr 1 6 0)]),(i6 0),(i6 (List.length s:Int)),(i6 st)]/\u=[[(6,[(i6 u0_6.kind),(.str u0_6.name),(zq aB u0_6.vars),(zq aI u0_6.dirs),(zq aF u0_6.sels)]),(5,[(zq aR u0_5.ops),(zq aH u0_5.frags)]),(4,[(zq aL u0_4.defs),(.str u0_4.query),(.str u0_4.mutation)])]]
abbrev aEc (s:List Str) (u0_6:GOp) (u0_5:GDoc) (u0_4:GSchema) (p:Unit⊕Int) (r:EU):Prop:=elim p (fun (p:Unit)=>∃ (a:Int),r=(Ex.brk 0,[(zq PV.str s),(.func (.func 148) [] [(.ptr 1 6 0)]),(i6 0),(i6 (List.length s:Int)),(i6 a)],[[(6,[(i6 u0_6.kind),(.str u0_6.name),(zq aB u0_6.vars),(zq aI u0_6.dirs),(zq aF u0_6.sels)]),(5,[(zq aR u0_5.ops),(zq aH u0_5.frags)]),(4,[(zq aL u0_4.defs),(.str u0_4.query),(.str u0_4.mutation)])]])) (fun c=>(fun (p:Int)=>∃ (b:Int),r=(Ex.ret,[(zq PV.str s),(.func (.func 148) [] [(.ptr 1 6 0)]),(i6 p),(i6 (List.length s:Int)),(i6 b)],[[(6,[(i6 u0_6.kind),(.str u0_6.name),(zq aB u0_6.vars),(zq aI u0_6.dirs),(zq aF u0_6.sels)]),(5,[(zq aR u0_5.ops),(zq aH u0_5.frags)]),(4,[(zq aL u0_4.defs),(.str u0_4.query),(.str u0_4.mutation)])]])) c)
def kV (s:List Str) (u0_6:GOp) (u0_5:GDoc) (u0_4:GSchema):Option Int :=
 bnd (aX (dU s u0_6 u0_5 u0_4) 0) fun a=>elim a
 (fun c =>
 some (-1))
 (fun b =>
 some b)
def aFl:Decs:={decs:=[(14,(.ref .str)),(16,.bool)],ups:=[(16,[[],[(6,[n6,.str,sf,sf,sf]),(5,[sf,sf]),(4,[sf,.str,.str])]])],loops:=[(2,[],⟨[sf,(.func 148 [] [(.ptr 1 6 0)]),n6,n6,n6],[[(6,[n6,.str,sf,sf,sf]),(5,[sf,sf]),(4,[sf,.str,.str])]],[(some 0,[sf,(.func 148 [] [(.ptr 1 6 0)]),n6,n6,n6],[[(6,[n6,.str,sf,sf,sf]),(5,[sf,sf]),(4,[sf,.str,.str])]]),(none,[sf,(.func 148 [] [(.ptr 1 6 0)]),n6,n6,n6],[[(6,[n6,.str,sf,sf,sf]),(5,[sf,sf]),(4,[sf,.str,.str])]])]⟩)]}
theorem aFm O a (s:List Str) u0_6 u0_5 u0_4:eW 205 aFl Tryz.f205 O a [(zq PV.str s),(.func (.func 148) [] [(.ptr 1 6 0)])] [[(6,[(i6 u0_6.kind),(.str u0_6.name),(zq aB u0_6.vars),(zq aI u0_6.dirs),(zq aF u0_6.sels)]),(5,[(zq aR u0_5.ops),(zq aH u0_5.frags)]),(4,[(zq aL u0_4.defs),(.str u0_4.query),(.str u0_4.mutation)])]]=nQ O a s u0_6 u0_5 u0_4:=by kernel_rfl
theorem aBE s u0_6 u0_5 u0_4:Lok (aEb s u0_6 u0_5 u0_4) (dU s u0_6 u0_5 u0_4) (nP O aG) (aEc s u0_6 u0_5 u0_4):=by
 rintro b l u ⟨rfl,rfl⟩;simp only [dU,nP,zd,zr];refine zG ?_;try simp only [evs,tys]
 apply Imp.cnd
 ·refine zX PV.str (fun _=>rfl) fun g _ => ?_;try simp only [evs,tys]
  refine Imp.gcall (f:=aA) (fu:=fun a=>[]::lL g u0_6 u0_5 u0_4 a) (fun a h=>by first | exact fQ rfl rfl (by first | rfl | (simp only [zes,tys];rfl)) (bA h) | (have c:=bA h;simp only [evs,tys,evl,lL] at c;exact fQ rfl rfl (by first | rfl | (simp only [zes,tys];rfl)) c)) zK (fun a=>by first | rfl | (simp only [lL,evs,tys];first | rfl | (cases w<;>rfl))) fun e d => ?_;try simp only [aA,lL,evs,tys]
  apply Imp.cnd;·exact zT ⟨b,zE⟩
  ·exact zN
 ·exact zB ⟨b,zE⟩
theorem aEd s u0_6 u0_5 u0_4:Imp (kV s u0_6 u0_5 u0_4) (nQ O aG s u0_6 u0_5 u0_4) (fun r v=>v=(aZ r,(dH s u0_6 u0_5 u0_4 r))):=by
 simp only [kV,nQ,zd,zr];try simp only [evs,tys]
 refine zL (aBE s u0_6 u0_5 u0_4) ?_;rintro (p | e) d a
 ·try simp only [aO,aP]
  obtain ⟨b,rfl⟩:=a;refine zH ?_;try simp only [evs,tys]
  exact Imp.some (by first | rfl | simp only [zes,dH,evs,tys,evl])
 ·try simp only [aO,aP]
  obtain ⟨c,rfl⟩:=a;refine Imp.exMiss rfl ?_;refine zH ?_;try simp only [evs,tys]
  exact Imp.some (by first | rfl | simp only [zes,dH,evs,tys,evl])
theorem aEe {s u0_6 u0_5 u0_4 r} (h:kV s u0_6 u0_5 u0_4=some r):aBx s u0_6 u0_5 u0_4=some r:=zV iZ (aEd s u0_6 u0_5 u0_4) Tryz.func205 (aFm _ _ s u0_6 u0_5 u0_4) h
def dB (O:Orc) (b:LBs) (s:List Str) (u0_6:GOp) (u0_5:GDoc) (u0_4:GSchema):Option (PV×UP) :=
 bnd (O 205 [(zq PV.str s),(.func (.func 148) [] [(.ptr 2 6 0)])] [[],[(6,[(i6 u0_6.kind),(.str u0_6.name),(zq aB u0_6.vars),(zq aI u0_6.dirs),(zq aF u0_6.sels)]),(5,[(zq aR u0_5.ops),(zq aH u0_5.frags)]),(4,[(zq aL u0_4.defs),(.str u0_4.query),(.str u0_4.mutation)])]]) fun a=>cnd (chkU [[],[(6,[n6,.str,sf,sf,sf]),(5,[sf,sf]),(4,[sf,.str,.str])]] a.2) (cnd (chk n6 a.1)
 (some ((.bool (decide ((intV a.1)≥0))),[[(6,[(zn (bx a.2 1 0) 0),(zt (bx a.2 1 0) 1),(zs (bx a.2 1 0) 2),(zs (bx a.2 1 0) 3),(zs (bx a.2 1 0) 4)]),(5,[(zs (bx a.2 1 1) 0),(zs (bx a.2 1 1) 1)]),(4,[(zs (bx a.2 1 2) 0),(zt (bx a.2 1 2) 1),(zt (bx a.2 1 2) 2)])]])) none) none
def cG (s:List Str) (u0_6:GOp) (u0_5:GDoc) (u0_4:GSchema):Option Bool :=
 bnd (aBx s u0_6 u0_5 u0_4) fun a =>
 some (decide (a≥0))
def mW:Decs:={decs:=[(7,n6)],ups:=[(7,[[],[(6,[n6,.str,sf,sf,sf]),(5,[sf,sf]),(4,[sf,.str,.str])]])]}
theorem mX O a (s:List Str) u0_6 u0_5 u0_4:eW 147 mW Tryz.f147 O a [(zq PV.str s),(.func (.func 148) [] [(.ptr 1 6 0)])] [[(6,[(i6 u0_6.kind),(.str u0_6.name),(zq aB u0_6.vars),(zq aI u0_6.dirs),(zq aF u0_6.sels)]),(5,[(zq aR u0_5.ops),(zq aH u0_5.frags)]),(4,[(zq aL u0_4.defs),(.str u0_4.query),(.str u0_4.mutation)])]]=dB O a s u0_6 u0_5 u0_4:=by kernel_rfl
theorem mO s u0_6 u0_5 u0_4:Imp (cG s u0_6 u0_5 u0_4) (dB O aG s u0_6 u0_5 u0_4) (fun r v=>v=(aA r,(aW s u0_6 u0_5 u0_4 r))):=by
 simp only [cG,dB,zd,zr];try simp only [evs,tys]
 refine Imp.gcall (f:=aZ) (fu:=fun a=>[]::dH s u0_6 u0_5 u0_4 a) (fun a h=>by first | exact fQ rfl rfl (by first | rfl | (simp only [zes,tys];rfl)) (bA h) | (have b:=bA h;simp only [evs,tys,evl,dH] at b;exact fQ rfl rfl (by first | rfl | (simp only [zes,tys];rfl)) b)) zK (fun a=>by first | rfl | (simp only [dH,evs,tys];first | rfl | (cases w<;>rfl))) fun d c => ?_;try simp only [aZ,dH,evs,tys]
 exact Imp.some (by first | rfl | simp only [zes,aW,evs,tys,evl])
theorem mP {s u0_6 u0_5 u0_4 r} (h:cG s u0_6 u0_5 u0_4=some r):dN s u0_6 u0_5 u0_4=some r:=zV aE (mO s u0_6 u0_5 u0_4) Tryz.func147 (mX _ _ s u0_6 u0_5 u0_4) h
def yO (O:Orc) (b:LBs) (v0:GVarDef) (u0_9:List Str) (u0_6:GOp) (u0_5:GDoc) (u0_4:GSchema):Option (PV×UP) :=
 aQ O 136 [(zq PV.str u0_9),(.str v0.name)] fun a=>cnd (chk .bool a)
 (some ((.bool (!(bM a))),[[(9,[(zq PV.str u0_9)]),(6,[(i6 u0_6.kind),(.str u0_6.name),(zq aB u0_6.vars),(zq aI u0_6.dirs),(zq aF u0_6.sels)]),(5,[(zq aR u0_5.ops),(zq aH u0_5.frags)]),(4,[(zq aL u0_4.defs),(.str u0_4.query),(.str u0_4.mutation)])]])) none
def uN (v0:GVarDef) (u0_9:List Str) (u0_6:GOp) (u0_5:GDoc) (u0_4:GSchema):Option Bool :=
 bnd (bJ u0_9 v0.name) fun a =>
 some (!a)
def aNg:Decs:={decs:=[(7,.bool)]}
theorem aNh O a v0 (u0_9:List Str) u0_6 u0_5 u0_4:eW 150 aNg Tryz.f150 O a [(.agg [(.str v0.name),(.str v0.t.name),(i6 v0.t.lists),(i6 v0.t.musts),(.bool v0.has),(i6 v0.default.kind),(i6 v0.default.n),(.str v0.default.s),(zq aJ v0.default.l),(zq aD v0.default.m)]),(.ptr 1 9 0)] [[(9,[(zq PV.str u0_9)]),(6,[(i6 u0_6.kind),(.str u0_6.name),(zq aB u0_6.vars),(zq aI u0_6.dirs),(zq aF u0_6.sels)]),(5,[(zq aR u0_5.ops),(zq aH u0_5.frags)]),(4,[(zq aL u0_4.defs),(.str u0_4.query),(.str u0_4.mutation)])]]=yO O a v0 u0_9 u0_6 u0_5 u0_4:=by kernel_rfl
theorem aLx v0 u0_9 u0_6 u0_5 u0_4:Imp (uN v0 u0_9 u0_6 u0_5 u0_4) (yO O aG v0 u0_9 u0_6 u0_5 u0_4) (fun r v=>v=(aA r,(lM v0 u0_9 u0_6 u0_5 u0_4 r))):=by
 simp only [uN,yO,zd,zr];try simp only [evs,tys]
 refine zC rfl fun a _ => ?_;try simp only [zes,evs,tys]
 exact Imp.some (by first | rfl | simp only [zes,lM,evs,tys,evl])
theorem aLy {v0 u0_9 u0_6 u0_5 u0_4 r} (h:uN v0 u0_9 u0_6 u0_5 u0_4=some r):aEZ v0 u0_9 u0_6 u0_5 u0_4=some r:=zV aE (aLx v0 u0_9 u0_6 u0_5 u0_4) Tryz.func150 (aNh _ _ v0 u0_9 u0_6 u0_5 u0_4) h
def wB (O:Orc) (e:LBs):bO:=fun c a=>cnd (chkL [sf,(.func 150 [] [(.ptr 1 9 0)]),n6,n6,n6] c) (cnd (chkU [[(9,[sf]),(6,[n6,.str,sf,sf,sf]),(5,[sf,sf]),(4,[sf,.str,.str])]] a)
 (cnd (decide ((iv c 4)<(iv c 3)))
 (bnd (ix 10 (zs c 0) (zn c 4)) fun d=>cnd (chk (.ref eZ) d)
 (bnd (O 150 [(.agg [(zt (rf d) 0),(zt (rf d) 1),(zn (rf d) 2),(zn (rf d) 3),(zb (rf d) 4),(zn (rf d) 5),(zn (rf d) 6),(zt (rf d) 7),(zs (rf d) 8),(zs (rf d) 9)]),(.ptr 2 9 0)] [[],[(9,[(zs (bx a 0 0) 0)]),(6,[(zn (bx a 0 1) 0),(zt (bx a 0 1) 1),(zs (bx a 0 1) 2),(zs (bx a 0 1) 3),(zs (bx a 0 1) 4)]),(5,[(zs (bx a 0 2) 0),(zs (bx a 0 2) 1)]),(4,[(zs (bx a 0 3) 0),(zt (bx a 0 3) 1),(zt (bx a 0 3) 2)])]]) fun b=>cnd (chkU [[],[(9,[sf]),(6,[n6,.str,sf,sf,sf]),(5,[sf,sf]),(4,[sf,.str,.str])]] b.2) (cnd (chk .bool b.1)
 (cnd (bM b.1)
 (some (.ret,[(zs c 0),(.func (.func 150) [] [(.ptr 1 9 0)]),(zn c 4),(zn c 3),(zn c 4)],[[(9,[(zs (bx b.2 1 0) 0)]),(6,[(zn (bx b.2 1 1) 0),(zt (bx b.2 1 1) 1),(zs (bx b.2 1 1) 2),(zs (bx b.2 1 1) 3),(zs (bx b.2 1 1) 4)]),(5,[(zs (bx b.2 1 2) 0),(zs (bx b.2 1 2) 1)]),(4,[(zs (bx b.2 1 3) 0),(zt (bx b.2 1 3) 1),(zt (bx b.2 1 3) 2)])]]))
 (some (.nrm,[(zs c 0),(.func (.func 150) [] [(.ptr 1 9 0)]),(zn c 2),(zn c 3),(i6 (w6 ((iv c 4)+1)))],[[(9,[(zs (bx b.2 1 0) 0)]),(6,[(zn (bx b.2 1 1) 0),(zt (bx b.2 1 1) 1),(zs (bx b.2 1 1) 2),(zs (bx b.2 1 1) 3),(zs (bx b.2 1 1) 4)]),(5,[(zs (bx b.2 1 2) 0),(zs (bx b.2 1 2) 1)]),(4,[(zs (bx b.2 1 3) 0),(zt (bx b.2 1 3) 1),(zt (bx b.2 1 3) 2)])]]))) none) none) none)
 (some (.brk 0,[(zs c 0),(.func (.func 150) [] [(.ptr 1 9 0)]),(zn c 2),(zn c 3),(zn c 4)],[[(9,[(zs (bx a 0 0) 0)]),(6,[(zn (bx a 0 1) 0),(zt (bx a 0 1) 1),(zs (bx a 0 1) 2),(zs (bx a 0 1) 3),(zs (bx a 0 1) 4)]),(5,[(zs (bx a 0 2) 0),(zs (bx a 0 2) 1)]),(4,[(zs (bx a 0 3) 0),(zt (bx a 0 3) 1),(zt (bx a 0 3) 2)])]]))) none) none
def wC (O:Orc) (b:LBs) (s:List GVarDef) (u0_9:List Str) (u0_6:GOp) (u0_5:GDoc) (u0_4:GSchema):Option (PV×UP) :=
 bnd (b (wB O b) [(zq aB s),(.func (.func 150) [] [(.ptr 1 9 0)]),(i6 0),(i6 (List.length (List.map aB s):Int)),(i6 0)] [[(9,[(zq PV.str u0_9)]),(6,[(i6 u0_6.kind),(.str u0_6.name),(zq aB u0_6.vars),(zq aI u0_6.dirs),(zq aF u0_6.sels)]),(5,[(zq aR u0_5.ops),(zq aH u0_5.frags)]),(4,[(zq aL u0_4.defs),(.str u0_4.query),(.str u0_4.mutation)])]]) fun a =>
 exIs a.1 (some 0) (cnd (chkL [sf,(.func 150 [] [(.ptr 1 9 0)]),n6,n6,n6] a.2.1) (cnd (chkU [[(9,[sf]),(6,[n6,.str,sf,sf,sf]),(5,[sf,sf]),(4,[sf,.str,.str])]] a.2.2)
 (some ((i6 (-1)),[[(9,[(zs (bx a.2.2 0 0) 0)]),(6,[(zn (bx a.2.2 0 1) 0),(zt (bx a.2.2 0 1) 1),(zs (bx a.2.2 0 1) 2),(zs (bx a.2.2 0 1) 3),(zs (bx a.2.2 0 1) 4)]),(5,[(zs (bx a.2.2 0 2) 0),(zs (bx a.2.2 0 2) 1)]),(4,[(zs (bx a.2.2 0 3) 0),(zt (bx a.2.2 0 3) 1),(zt (bx a.2.2 0 3) 2)])]])) none) none)
 (exIs a.1 none (cnd (chkL [sf,(.func 150 [] [(.ptr 1 9 0)]),n6,n6,n6] a.2.1) (cnd (chkU [[(9,[sf]),(6,[n6,.str,sf,sf,sf]),(5,[sf,sf]),(4,[sf,.str,.str])]] a.2.2)
 (some ((zn a.2.1 2),[[(9,[(zs (bx a.2.2 0 0) 0)]),(6,[(zn (bx a.2.2 0 1) 0),(zt (bx a.2.2 0 1) 1),(zs (bx a.2.2 0 1) 2),(zs (bx a.2.2 0 1) 3),(zs (bx a.2.2 0 1) 4)]),(5,[(zs (bx a.2.2 0 2) 0),(zs (bx a.2.2 0 2) 1)]),(4,[(zs (bx a.2.2 0 3) 0),(zt (bx a.2.2 0 3) 1),(zt (bx a.2.2 0 3) 2)])]])) none) none)
 (none))
def gX (s:List GVarDef) (u0_9:List Str) (u0_6:GOp) (u0_5:GDoc) (u0_4:GSchema):Int->Option (Int⊕(Unit⊕Int))
 | a =>
 cnd (decide (a<(List.length s:Int)))
  (bnd (nthI s a) fun c =>
  bnd (aEZ c u0_9 u0_6 u0_5 u0_4) fun b =>
  cnd b
  (some (.inr (.inr a)))
  (some (.inl (IntKind.wrap .i64 (a+1)))))
  (some (.inr (.inl ())))
abbrev aJm (s:List GVarDef) (u0_9:List Str) (u0_6:GOp) (u0_5:GDoc) (u0_4:GSchema) (st:Int) (l:List PV) (u:UP):Prop:=l=[(zq aB s),(.func (.func 150) [] [(.ptr 1 9 0)]),(i6 0),(i6 (List.length s:Int)),(i6 st)]/\u=[[(9,[(zq PV.str u0_9)]),(6,[(i6 u0_6.kind),(.str u0_6.name),(zq aB u0_6.vars),(zq aI u0_6.dirs),(zq aF u0_6.sels)]),(5,[(zq aR u0_5.ops),(zq aH u0_5.frags)]),(4,[(zq aL u0_4.defs),(.str u0_4.query),(.str u0_4.mutation)])]]
abbrev aJn (s:List GVarDef) (u0_9:List Str) (u0_6:GOp) (u0_5:GDoc) (u0_4:GSchema) (p:Unit⊕Int) (r:EU):Prop:=elim p (fun (p:Unit)=>∃ (a:Int),r=(Ex.brk 0,[(zq aB s),(.func (.func 150) [] [(.ptr 1 9 0)]),(i6 0),(i6 (List.length s:Int)),(i6 a)],[[(9,[(zq PV.str u0_9)]),(6,[(i6 u0_6.kind),(.str u0_6.name),(zq aB u0_6.vars),(zq aI u0_6.dirs),(zq aF u0_6.sels)]),(5,[(zq aR u0_5.ops),(zq aH u0_5.frags)]),(4,[(zq aL u0_4.defs),(.str u0_4.query),(.str u0_4.mutation)])]])) (fun c=>(fun (p:Int)=>∃ (b:Int),r=(Ex.ret,[(zq aB s),(.func (.func 150) [] [(.ptr 1 9 0)]),(i6 p),(i6 (List.length s:Int)),(i6 b)],[[(9,[(zq PV.str u0_9)]),(6,[(i6 u0_6.kind),(.str u0_6.name),(zq aB u0_6.vars),(zq aI u0_6.dirs),(zq aF u0_6.sels)]),(5,[(zq aR u0_5.ops),(zq aH u0_5.frags)]),(4,[(zq aL u0_4.defs),(.str u0_4.query),(.str u0_4.mutation)])]])) c)
def rZ (s:List GVarDef) (u0_9:List Str) (u0_6:GOp) (u0_5:GDoc) (u0_4:GSchema):Option Int :=
 bnd (aX (gX s u0_9 u0_6 u0_5 u0_4) 0) fun a=>elim a
 (fun c =>
 some (-1))
 (fun b =>
 some b)
def aLz:Decs:={decs:=[(14,(.ref eZ)),(16,.bool)],ups:=[(16,[[],[(9,[sf]),(6,[n6,.str,sf,sf,sf]),(5,[sf,sf]),(4,[sf,.str,.str])]])],loops:=[(2,[],⟨[sf,(.func 150 [] [(.ptr 1 9 0)]),n6,n6,n6],[[(9,[sf]),(6,[n6,.str,sf,sf,sf]),(5,[sf,sf]),(4,[sf,.str,.str])]],[(some 0,[sf,(.func 150 [] [(.ptr 1 9 0)]),n6,n6,n6],[[(9,[sf]),(6,[n6,.str,sf,sf,sf]),(5,[sf,sf]),(4,[sf,.str,.str])]]),(none,[sf,(.func 150 [] [(.ptr 1 9 0)]),n6,n6,n6],[[(9,[sf]),(6,[n6,.str,sf,sf,sf]),(5,[sf,sf]),(4,[sf,.str,.str])]])]⟩)]}
theorem aLA O a s (u0_9:List Str) u0_6 u0_5 u0_4:eW 204 aLz Tryz.f204 O a [(zq aB s),(.func (.func 150) [] [(.ptr 1 9 0)])] [[(9,[(zq PV.str u0_9)]),(6,[(i6 u0_6.kind),(.str u0_6.name),(zq aB u0_6.vars),(zq aI u0_6.dirs),(zq aF u0_6.sels)]),(5,[(zq aR u0_5.ops),(zq aH u0_5.frags)]),(4,[(zq aL u0_4.defs),(.str u0_4.query),(.str u0_4.mutation)])]]=wC O a s u0_9 u0_6 u0_5 u0_4:=by kernel_rfl
theorem aGz s u0_9 u0_6 u0_5 u0_4:Lok (aJm s u0_9 u0_6 u0_5 u0_4) (gX s u0_9 u0_6 u0_5 u0_4) (wB O aG) (aJn s u0_9 u0_6 u0_5 u0_4):=by
 rintro b l u ⟨rfl,rfl⟩;simp only [gX,wB,zd,zr];refine zG ?_;try simp only [evs,tys]
 apply Imp.cnd
 ·refine zX aB jR fun g _ => ?_;try simp only [evs,tys]
  refine Imp.gcall (f:=aA) (fu:=fun a=>[]::lM g u0_9 u0_6 u0_5 u0_4 a) (fun a h=>by first | exact fQ rfl rfl (by first | rfl | (simp only [zes,tys];rfl)) (bA h) | (have c:=bA h;simp only [evs,tys,evl,lM] at c;exact fQ rfl rfl (by first | rfl | (simp only [zes,tys];rfl)) c)) zK (fun a=>by first | rfl | (simp only [lM,evs,tys];first | rfl | (cases w<;>rfl))) fun e d => ?_;try simp only [aA,lM,evs,tys]
  apply Imp.cnd;·exact zT ⟨b,zE⟩
  ·exact zN
 ·exact zB ⟨b,zE⟩
theorem aJo s u0_9 u0_6 u0_5 u0_4:Imp (rZ s u0_9 u0_6 u0_5 u0_4) (wC O aG s u0_9 u0_6 u0_5 u0_4) (fun r v=>v=(aZ r,(iE s u0_9 u0_6 u0_5 u0_4 r))):=by
 simp only [rZ,wC,zd,zr];try simp only [evs,tys]
 refine zL (aGz s u0_9 u0_6 u0_5 u0_4) ?_;rintro (p | e) d a
 ·try simp only [aO,aP]
  obtain ⟨b,rfl⟩:=a;refine zH ?_;try simp only [evs,tys]
  exact Imp.some (by first | rfl | simp only [zes,iE,evs,tys,evl])
 ·try simp only [aO,aP]
  obtain ⟨c,rfl⟩:=a;refine Imp.exMiss rfl ?_;refine zH ?_;try simp only [evs,tys]
  exact Imp.some (by first | rfl | simp only [zes,iE,evs,tys,evl])
theorem aJp {s u0_9 u0_6 u0_5 u0_4 r} (h:rZ s u0_9 u0_6 u0_5 u0_4=some r):aIJ s u0_9 u0_6 u0_5 u0_4=some r:=zV iZ (aJo s u0_9 u0_6 u0_5 u0_4) Tryz.func204 (aLA _ _ s u0_9 u0_6 u0_5 u0_4) h
def dW (O:Orc) (b:LBs) (s:List GVarDef) (u0_9:List Str) (u0_6:GOp) (u0_5:GDoc) (u0_4:GSchema):Option (PV×UP) :=
 bnd (O 204 [(zq aB s),(.func (.func 150) [] [(.ptr 2 9 0)])] [[],[(9,[(zq PV.str u0_9)]),(6,[(i6 u0_6.kind),(.str u0_6.name),(zq aB u0_6.vars),(zq aI u0_6.dirs),(zq aF u0_6.sels)]),(5,[(zq aR u0_5.ops),(zq aH u0_5.frags)]),(4,[(zq aL u0_4.defs),(.str u0_4.query),(.str u0_4.mutation)])]]) fun a=>cnd (chkU [[],[(9,[sf]),(6,[n6,.str,sf,sf,sf]),(5,[sf,sf]),(4,[sf,.str,.str])]] a.2) (cnd (chk n6 a.1)
 (some ((.bool (decide ((intV a.1)≥0))),[[(9,[(zs (bx a.2 1 0) 0)]),(6,[(zn (bx a.2 1 1) 0),(zt (bx a.2 1 1) 1),(zs (bx a.2 1 1) 2),(zs (bx a.2 1 1) 3),(zs (bx a.2 1 1) 4)]),(5,[(zs (bx a.2 1 2) 0),(zs (bx a.2 1 2) 1)]),(4,[(zs (bx a.2 1 3) 0),(zt (bx a.2 1 3) 1),(zt (bx a.2 1 3) 2)])]])) none) none
def cX (s:List GVarDef) (u0_9:List Str) (u0_6:GOp) (u0_5:GDoc) (u0_4:GSchema):Option Bool :=
 bnd (aIJ s u0_9 u0_6 u0_5 u0_4) fun a =>
 some (decide (a≥0))
def qJ:Decs:={decs:=[(7,n6)],ups:=[(7,[[],[(9,[sf]),(6,[n6,.str,sf,sf,sf]),(5,[sf,sf]),(4,[sf,.str,.str])]])]}
theorem qK O a s (u0_9:List Str) u0_6 u0_5 u0_4:eW 144 qJ Tryz.f144 O a [(zq aB s),(.func (.func 150) [] [(.ptr 1 9 0)])] [[(9,[(zq PV.str u0_9)]),(6,[(i6 u0_6.kind),(.str u0_6.name),(zq aB u0_6.vars),(zq aI u0_6.dirs),(zq aF u0_6.sels)]),(5,[(zq aR u0_5.ops),(zq aH u0_5.frags)]),(4,[(zq aL u0_4.defs),(.str u0_4.query),(.str u0_4.mutation)])]]=dW O a s u0_9 u0_6 u0_5 u0_4:=by kernel_rfl
theorem pS s u0_9 u0_6 u0_5 u0_4:Imp (cX s u0_9 u0_6 u0_5 u0_4) (dW O aG s u0_9 u0_6 u0_5 u0_4) (fun r v=>v=(aA r,(bC s u0_9 u0_6 u0_5 u0_4 r))):=by
 simp only [cX,dW,zd,zr];try simp only [evs,tys]
 refine Imp.gcall (f:=aZ) (fu:=fun a=>[]::iE s u0_9 u0_6 u0_5 u0_4 a) (fun a h=>by first | exact fQ rfl rfl (by first | rfl | (simp only [zes,tys];rfl)) (bA h) | (have b:=bA h;simp only [evs,tys,evl,iE] at b;exact fQ rfl rfl (by first | rfl | (simp only [zes,tys];rfl)) b)) zK (fun a=>by first | rfl | (simp only [iE,evs,tys];first | rfl | (cases w<;>rfl))) fun d c => ?_;try simp only [aZ,iE,evs,tys]
 exact Imp.some (by first | rfl | simp only [zes,bC,evs,tys,evl])
theorem pT {s u0_9 u0_6 u0_5 u0_4 r} (h:cX s u0_9 u0_6 u0_5 u0_4=some r):fF s u0_9 u0_6 u0_5 u0_4=some r:=zV aE (pS s u0_9 u0_6 u0_5 u0_4) Tryz.func144 (qK _ _ s u0_9 u0_6 u0_5 u0_4) h
def aCI (O:Orc) (g:LBs) (s:GSchema) (d:GDoc) (o:GOp) (n:Int):Option (PV×UP) :=
 cnd (n==18)
 (aQ O 143 [(.agg [(i6 o.kind),(.str o.name),(zq aB o.vars),(zq aI o.dirs),(zq aF o.sels)])] fun f=>cnd (chk .bool f)
 (some ((.bool (bM f)),[])) none)
 (cnd (n==19)
 (bnd (O 144 [(zq aB o.vars),(.func (.func 145) [] [(.ptr 1 4 0)])] [[(6,[(i6 o.kind),(.str o.name),(zq aB o.vars),(zq aI o.dirs),(zq aF o.sels)]),(5,[(zq aR d.ops),(zq aH d.frags)]),(4,[(zq aL s.defs),(.str s.query),(.str s.mutation)])]]) fun x3=>cnd (chkU [[(6,[n6,.str,sf,sf,sf]),(5,[sf,sf]),(4,[sf,.str,.str])]] x3.2) (cnd (chk .bool x3.1)
 (some ((.bool (!(bM x3.1))),[])) none) none)
 (cnd (n==20)
 (aQ O 28 [(eD d),(zq aF o.sels)] fun e=>cnd (chk sf e)
 (bnd (O 147 [(.slice (esV e) [] false),(.func (.func 148) [] [(.ptr 1 6 0)])] [[(6,[(i6 o.kind),(.str o.name),(zq aB o.vars),(zq aI o.dirs),(zq aF o.sels)]),(5,[(zq aR d.ops),(zq aH d.frags)]),(4,[(zq aL s.defs),(.str s.query),(.str s.mutation)])]]) fun b=>cnd (chkU [[(6,[n6,.str,sf,sf,sf]),(5,[sf,sf]),(4,[sf,.str,.str])]] b.2) (cnd (chk .bool b.1)
 (some ((.bool (!(bM b.1))),[])) none) none) none)
 (aQ O 28 [(eD d),(zq aF o.sels)] fun c=>cnd (chk sf c)
 (bnd (O 144 [(zq aB o.vars),(.func (.func 150) [] [(.ptr 1 9 0)])] [[(9,[(.slice (esV c) [] false)]),(6,[(i6 o.kind),(.str o.name),(zq aB o.vars),(zq aI o.dirs),(zq aF o.sels)]),(5,[(zq aR d.ops),(zq aH d.frags)]),(4,[(zq aL s.defs),(.str s.query),(.str s.mutation)])]]) fun a=>cnd (chkU [[(9,[sf]),(6,[n6,.str,sf,sf,sf]),(5,[sf,sf]),(4,[sf,.str,.str])]] a.2) (cnd (chk .bool a.1)
 (some ((.bool (!(bM a.1))),[])) none) none) none)))
def aAZ (s:GSchema) (d:GDoc) (o:GOp) (n:Int):Option Bool :=
 cnd (n==18)
 (bnd (aLd o) fun f =>
 some f)
 (cnd (n==19)
 (bnd (gR o.vars o d s) fun e =>
 some (!e))
 (cnd (n==20)
 (bnd (pR d o.sels) fun c =>
 bnd (dN c o d s) fun g =>
 some (!g))
 (bnd (pR d o.sels) fun a =>
 bnd (fF o.vars a o d s) fun b =>
 some (!b))))
def aS4:Decs:={decs:=[(14,.bool),(20,.bool),(27,sf),(29,.bool),(34,sf),(38,.bool)],ups:=[(20,[[(6,[n6,.str,sf,sf,sf]),(5,[sf,sf]),(4,[sf,.str,.str])]]),(29,[[(6,[n6,.str,sf,sf,sf]),(5,[sf,sf]),(4,[sf,.str,.str])]]),(38,[[(9,[sf]),(6,[n6,.str,sf,sf,sf]),(5,[sf,sf]),(4,[sf,.str,.str])]])]}
theorem aS5 O a s d o n:eW 79 aS4 Tryz.f79 O a [(eS s),(eD d),(.agg [(i6 o.kind),(.str o.name),(zq aB o.vars),(zq aI o.dirs),(zq aF o.sels)]),(i6 n)] []=aCI O a s d o n:=by kernel_rfl
theorem aQc s d o n:Imp (aAZ s d o n) (aCI O aG s d o n) (Ri aA):=by
 simp only [aAZ,aCI,zd,zr];try simp only [evs,tys]
 apply Imp.cnd
 ·refine zC rfl fun m _ => ?_;try simp only [zes,evs,tys]
  exact zR
 ·apply Imp.cnd
  ·refine Imp.gcall (f:=aA) (fu:=fun a=>bP o.vars o d s a) (fun a h=>by first | exact bA h | (have b:=bA h;simp only [evs,tys,evl,bP] at b;exact b)) zK (fun a=>by first | rfl | (simp only [bP,evs,tys];first | rfl | (cases w<;>rfl))) fun l j => ?_;try simp only [aA,bP,evs,tys]
   exact zR
  ·apply Imp.cnd
   ·refine zC rfl fun g _ => ?_;try simp only [zes,evs,tys]
    refine Imp.gcall (f:=aA) (fu:=fun a=>aW g o d s a) (fun a h=>by first | exact bA h | (have b:=bA h;simp only [evs,tys,evl,aW] at b;exact b)) zK (fun a=>by first | rfl | (simp only [aW,evs,tys];first | rfl | (cases w<;>rfl))) fun p k => ?_;try simp only [aA,aW,evs,tys]
    exact zR
   ·refine zC rfl fun c _ => ?_;try simp only [zes,evs,tys]
    refine Imp.gcall (f:=aA) (fu:=fun a=>bC o.vars c o d s a) (fun a h=>by first | exact bA h | (have b:=bA h;simp only [evs,tys,evl,bC] at b;exact b)) zK (fun a=>by first | rfl | (simp only [bC,evs,tys];first | rfl | (cases w<;>rfl))) fun i e => ?_;try simp only [aA,bC,evs,tys]
    exact zR
theorem aQd {s d o n r} (h:aAZ s d o n=some r):aLc s d o n=some r:=zV aE (aQc s d o n) Tryz.func79 (aS5 _ _ s d o n) h
abbrev wD:List Sh:=[(.vec 1),sf,n6,n6,sf,n6,n6,.str,n6,n6,.str,sf,sf]
def aHF (O:Orc) (e:LBs):bO:=fun a b=>cnd (chkL wD a) (cnd (chkU [] b)
 (cnd (decide ((iv a 6)<(iv a 5)))
 (bnd (ix 1 (zs a 4) (zn a 6)) fun d=>cnd (chk (.ref .str) d)
 (aQ O 208 [(.vec 1 (vecV (gt a 0))),(.str (strV (refV d)))] fun c=>cnd (chk (.vec 1) c)
 (some (.nrm,(pu (pu (rb wD a) 0 (.vec 1 (vecV c))) 6 (i6 (w6 ((iv a 6)+1)))),[])) none) none)
 (some (.brk 2,(pu (rb wD a) 0 (.vec 1 (vecV (gt a 0)))),[]))) none) none
abbrev wE:List Sh:=[(.vec 1),sf,n6,n6]
def aHG (O:Orc) (f:LBs):bO:=fun c e=>cnd (chkL wE c) (cnd (chkU [] e)
 (cnd (decide ((iv c 3)<(iv c 2)))
 (bnd (ix 6 (zs c 1) (zn c 3)) fun a=>cnd (chk (.ref dA) a)
 (aQ O 207 [(.agg [(zn (rf a) 1),(zn (rf a) 2),(zt (rf a) 3),(zs (rf a) 4),(zs (rf a) 5)])] fun d=>cnd (chk sf d)
 (bnd (f (aHF O f) [(.vec 1 (vecV (gt c 0))),(zs c 1),(zn c 2),(zn c 3),(.slice (esV d) [] false),(i6 (List.length (esV d):Int)),(i6 0),(zt (rf a) 0),(zn (rf a) 1),(zn (rf a) 2),(zt (rf a) 3),(zs (rf a) 4),(zs (rf a) 5)] []) fun b =>
 exIs b.1 (some 2) (cnd (chkL [(.vec 1),sf,n6,n6,sf,n6,n6,.str,n6,n6,.str,sf,sf] b.2.1) (cnd (chkU [] b.2.2)
 (some (.nrm,[(.vec 1 (vecV (gt b.2.1 0))),(zs b.2.1 1),(zn b.2.1 2),(i6 (w6 ((iv b.2.1 3)+1)))],[])) none) none)
 (none)) none) none)
 (some (.brk 0,(pu (rb wE c) 0 (.vec 1 (vecV (gt c 0)))),[]))) none) none
def aHH (O:Orc) (b:LBs) (c:List Str) (args:List GMember):Option (PV×UP) :=
 bnd (b (aHG O b) [(.vec 1 (List.map PV.str c)),(zq aD args),(i6 (List.length (List.map aD args):Int)),(i6 0)] []) fun a =>
 exIs a.1 (some 0) (cnd (chkL wE a.2.1) (cnd (chkU [] a.2.2)
 (some ((.vec 1 (vecV (gt a.2.1 0))),[])) none) none)
 (none)
def nR (c:List Str):((List Str)×Int)->Option (((List Str)×Int)⊕((List Str)))
 | (b,a) =>
 cnd (decide (a<(List.length c:Int)))
  (bnd (nthI c a) fun e =>
  bnd (aE2 b e) fun d =>
  some (.inl (d,(IntKind.wrap .i64 (a+1)))))
  (some (.inr b))
abbrev aLB (args:List GMember) (c:Int) (a:GMember) (b:List Str) (d e:PV):List PV:=[d,(zq aD args),(i6 (List.length args:Int)),(i6 c),(zq PV.str b),(i6 (List.length b:Int)),e,(.str a.name),(i6 a.v.kind),(i6 a.v.n),(.str a.v.s),(zq aJ a.v.l),(zq aD a.v.m)]
abbrev aLC (args:List GMember) (a:Int) (c:GMember) (b:List Str) (st:(List Str)×Int) (l:List PV) (u:UP):Prop:=l=(aLB args a c b (.vec 1 (List.map PV.str st.1)) (i6 st.2))/\u=[]
abbrev aWd (args:List GMember) (a:Int) (d:GMember) (c:List Str) (p:(List Str)) (r:EU):Prop:=∃ (b:Int),r=(Ex.brk 2,(aLB args a d c (.vec 1 (List.map PV.str p)) (i6 b)),[])
def rE (args:List GMember):((List Str)×Int)->Option (((List Str)×Int)⊕((List Str)))
 | (b,a) =>
 cnd (decide (a<(List.length args:Int)))
  (bnd (nthI args a) fun e =>
  bnd (aHy e.v) fun d =>
  bnd (aX (nR d) (b,0)) fun c =>
  some (.inl (c,(IntKind.wrap .i64 (a+1)))))
  (some (.inr b))
abbrev aWe (args:List GMember) (st:(List Str)×Int) (l:List PV) (u:UP):Prop:=l=[(.vec 1 (List.map PV.str st.1)),(zq aD args),(i6 (List.length args:Int)),(i6 st.2)]/\u=[]
abbrev aWf (args:List GMember) (p:(List Str)) (r:EU):Prop:=(fun (p:(List Str))=>∃ (a:Int),r=(Ex.brk 0,[(.vec 1 (List.map PV.str p)),(zq aD args),(i6 (List.length args:Int)),(i6 a)],[])) p
def aGA (b:List Str) (args:List GMember):Option (List Str) :=
 bnd (aX (rE args) (b,0)) fun a =>
 some a
def bAx:Decs:={decs:=[(13,(.ref dA)),(17,sf),(21,(.ref .str)),(25,(.vec 1))],loops:=[(2,[],⟨wE,[],[(some 0,wE,[])]⟩),(5,[(6,6)],⟨wD,[],[(some 2,wD,[])]⟩)]}
theorem bAy O a (b:List Str) args:eW 151 bAx Tryz.f151 O a [(.vec 1 (List.map PV.str b)),(zq aD args)] []=aHH O a b args:=by kernel_rfl
theorem aQe args a c b:∀ st l u,aLC args a c b st l u->Imp (nR b st) (aHF O aG l u) (oY (aLC args a c b) (aWd args a c b)):=by
 rintro ⟨e,d⟩ l u ⟨rfl,rfl⟩;simp only [nR,aHF,zd,zr];refine zG ?_;try simp only [evs,tys]
 apply Imp.cnd
 ·refine zX PV.str (fun _=>rfl) fun g _ => ?_;try simp only [evs,tys]
  refine zC rfl fun f _ => ?_;try simp only [zes,evs,tys]
  exact zN
 ·exact zB ⟨d,zE⟩
theorem aQf args:Lok (aWe args) (rE args) (aHG O aG) (aWf args):=by
 rintro ⟨d,a⟩ l u ⟨rfl,rfl⟩;simp only [rE,aHG,zd,zr];refine zG ?_;try simp only [evs,tys]
 apply Imp.cnd
 ·refine zX aD eE fun c _ => ?_;try simp only [evs,tys]
  refine zC rfl fun b _ => ?_;try simp only [zes,evs,tys]
  refine zL (aQe args a c b) ?_;rintro e _ ⟨f,rfl⟩;refine zH ?_;try simp only [evs,tys]
  exact zN
 ·exact zB ⟨a,zE⟩
theorem aWg c args:Imp (aGA c args) (aHH O aG c args) (Ri eJ):=by
 simp only [aGA,aHH,zd,zr];try simp only [evs,tys]
 refine zL (aQf args) ?_;rintro b _ ⟨a,rfl⟩;refine zH ?_;try simp only [evs,tys]
 exact zR
theorem aWh {a args r} (h:aGA a args=some r):aHu a args=some r:=zV rW (aWg a args) Tryz.func151 (bAy _ _ a args) h
abbrev gJ:List Sh:=[(.vec 1),(.ptr 0 6 0),sf,n6,n6,sf,n6,n6,n6,.str,.str,sf,sf,.str,sf]
def pU (O:Orc) (e:LBs):bO:=fun a c=>cnd (chkL gJ a) (cnd (chkU [] c)
 (cnd (decide ((iv a 7)<(iv a 6)))
 (bnd (ix 2 (zs a 5) (zn a 7)) fun d=>cnd (chk (.ref aJc) d)
 (aQ O 151 [(.vec 1 (vecV (gt a 0))),(zs (rf d) 1)] fun b=>cnd (chk (.vec 1) b)
 (some (.nrm,(pu (pu (rb gJ a) 0 (.vec 1 (vecV b))) 7 (i6 (w6 ((iv a 7)+1)))),[])) none) none)
 (some (.brk 2,(pu (rb gJ a) 0 (.vec 1 (vecV (gt a 0)))),[]))) none) none
def pV (O:Orc) (g:LBs):bO:=fun c f=>cnd (chkL [(.vec 1),sf,n6,n6] c) (cnd (chkU [] f)
 (cnd (decide ((iv c 3)<(iv c 2)))
 (bnd (ix 7 (zs c 1) (zn c 3)) fun a=>cnd (chk (.ref mB) a)
 (aQ O 151 [(.vec 1 (vecV (gt c 0))),(zs (rf a) 3)] fun e=>cnd (chk (.vec 1) e)
 (bnd (g (pU O g) [(.vec 1 (vecV e)),(.ptr 0 6 0),(zs c 1),(zn c 2),(zn c 3),(zs (rf a) 4),(i6 (List.length (ev (rf a) 4):Int)),(i6 0),(zn (rf a) 0),(zt (rf a) 1),(zt (rf a) 2),(zs (rf a) 3),(zs (rf a) 4),(zt (rf a) 5),(zs (rf a) 6)] []) fun b =>
 exIs b.1 (some 2) (cnd (chkL [(.vec 1),(.ptr 0 6 0),sf,n6,n6,sf,n6,n6,n6,.str,.str,sf,sf,.str,sf] b.2.1) (cnd (chkU [] b.2.2)
 (aQ O 80 [(.vec 1 (vecV (gt b.2.1 0))),(zs b.2.1 14)] fun d=>cnd (chk (.vec 1) d)
 (some (.nrm,[(.vec 1 (vecV d)),(zs b.2.1 2),(zn b.2.1 3),(i6 (w6 ((iv b.2.1 4)+1)))],[])) none) none) none)
 (none)) none) none)
 (some (.brk 0,[(.vec 1 (vecV (gt c 0))),(zs c 1),(zn c 2),(zn c 3)],[]))) none) none
def pW (O:Orc) (c:LBs) (d:List Str) (b:List GSel):Option (PV×UP) :=
 bnd (c (pV O c) [(.vec 1 (List.map PV.str d)),(zq aF b),(i6 (List.length (List.map aF b):Int)),(i6 0)] []) fun a =>
 exIs a.1 (some 0) (cnd (chkL [(.vec 1),sf,n6,n6] a.2.1) (cnd (chkU [] a.2.2)
 (some ((.vec 1 (vecV (gt a.2.1 0))),[])) none) none)
 (none)
def eF (c:GSel):((List Str)×Int)->Option (((List Str)×Int)⊕((List Str)))
 | (b,a) =>
 cnd (decide (a<(List.length c.dirs:Int)))
  (bnd (nthI c.dirs a) fun d =>
  bnd (aHu b d.args) fun e =>
  some (.inl (e,(IntKind.wrap .i64 (a+1)))))
  (some (.inr b))
abbrev wF (b:List GSel) (c:Int) (a:GSel) (d e:PV):List PV:=[d,(.ptr 0 6 0),(zq aF b),(i6 (List.length b:Int)),(i6 c),(zq aI a.dirs),(i6 (List.length a.dirs:Int)),e,(i6 a.kind),(.str a.alias),(.str a.name),(zq aD a.args),(zq aI a.dirs),(.str a.on_),(zq aF a.sels)]
abbrev wG (b:List GSel) (a:Int) (c:GSel) (st:(List Str)×Int) (l:List PV) (u:UP):Prop:=l=(wF b a c (.vec 1 (List.map PV.str st.1)) (i6 st.2))/\u=[]
abbrev aFn (b:List GSel) (a:Int) (d:GSel) (p:(List Str)) (r:EU):Prop:=∃ (c:Int),r=(Ex.brk 2,(wF b a d (.vec 1 (List.map PV.str p)) (i6 c)),[])
def dF (c:List GSel):((List Str)×Int)->Option (((List Str)×Int)⊕((List Str)))
 | (b,a) =>
 cnd (decide (a<(List.length c:Int)))
  (bnd (nthI c a) fun d =>
  bnd (aHu b d.args) fun f =>
  bnd (aX (eF d) (f,0)) fun e =>
  bnd (jA e d.sels) fun g =>
  some (.inl (g,(IntKind.wrap .i64 (a+1)))))
  (some (.inr b))
abbrev aFo (a:List GSel) (st:(List Str)×Int) (l:List PV) (u:UP):Prop:=l=[(.vec 1 (List.map PV.str st.1)),(zq aF a),(i6 (List.length a:Int)),(i6 st.2)]/\u=[]
abbrev aFp (a:List GSel) (p:(List Str)) (r:EU):Prop:=(fun (p:(List Str))=>∃ (b:Int),r=(Ex.brk 0,[(.vec 1 (List.map PV.str p)),(zq aF a),(i6 (List.length a:Int)),(i6 b)],[])) p
def jB (c:List Str) (a:List GSel):Option (List Str) :=
 bnd (aX (dF a) (c,0)) fun b =>
 some b
def aGB:Decs:={decs:=[(13,(.ref mB)),(18,(.vec 1)),(24,(.ref aJc)),(29,(.vec 1)),(34,(.vec 1))],loops:=[(2,[],⟨[(.vec 1),sf,n6,n6],[],[(some 0,[(.vec 1),sf,n6,n6],[])]⟩),(6,[(6,7)],⟨gJ,[],[(some 2,gJ,[])]⟩)]}
theorem aGC O b (c:List Str) a:eW 80 aGB Tryz.f80 O b [(.vec 1 (List.map PV.str c)),(zq aF a)] []=pW O b c a:=by kernel_rfl
theorem aCJ b a c:∀ st l u,wG b a c st l u->Imp (eF c st) (pU O aG l u) (oY (wG b a c) (aFn b a c)):=by
 rintro ⟨e,d⟩ l u ⟨rfl,rfl⟩;simp only [eF,pU,zd,zr];refine zG ?_;try simp only [evs,tys]
 apply Imp.cnd
 ·refine zX aI aDw fun f _ => ?_;try simp only [evs,tys]
  refine zC rfl fun g _ => ?_;try simp only [zes,evs,tys]
  exact zN
 ·exact zB ⟨d,zE⟩
theorem aCK a:Lok (aFo a) (dF a) (pV O aG) (aFp a):=by
 rintro ⟨d,b⟩ l u ⟨rfl,rfl⟩;simp only [dF,pV,zd,zr];refine zG ?_;try simp only [evs,tys]
 apply Imp.cnd
 ·refine zX aF gN fun c _ => ?_;try simp only [evs,tys]
  refine zC rfl fun g _ => ?_;try simp only [zes,evs,tys]
  refine zL (aCJ a b c) ?_;rintro f _ ⟨e,rfl⟩;refine zH ?_;try simp only [evs,tys]
  refine zC rfl fun h _ => ?_;try simp only [zes,evs,tys]
  exact zN
 ·exact zB ⟨b,zE⟩
theorem aFq d a:Imp (jB d a) (pW O aG d a) (Ri eJ):=by
 simp only [jB,pW,zd,zr];try simp only [evs,tys]
 refine zL (aCK a) ?_;rintro c _ ⟨b,rfl⟩;refine zH ?_;try simp only [evs,tys]
 exact zR
theorem wH {b a r} (h:jB b a=some r):jA b a=some r:=zV rW (aFq b a) Tryz.func80 (aGC _ _ b a) h
abbrev eU:List Sh:=[sf,st',sf,n6,n6,sf,sf]
def yP (O:Orc) (g:LBs):bO:=fun a f=>cnd (chkL eU a) (cnd (chkU [] f)
 (cnd (decide ((iv a 4)<(iv a 3)))
 (bnd (ix 4 (zs a 2) (zn a 4)) fun b=>cnd (chk (.ref gP) b)
 (aQ O 136 [(zs a 0),(zt (rf b) 0)] fun d=>cnd (chk .bool d)
 (cnd (bM d)
 (aQ O 136 [(zs a 1),(zt (rf b) 0)] fun c=>cnd (chk .bool c)
 (cnd (!(bM c))
 (bnd (apd 1 (zo a 1) (.slice [(zt (rf b) 0)] [] true)) fun e=>cnd (chk st' e)
 (some (.nrm,(pu (pu (rb eU a) 1 (.slice (esV e) [] true)) 4 (i6 (w6 ((iv a 4)+1)))),[])) none)
 (some (.nrm,(pu (rb eU a) 4 (i6 (w6 ((iv a 4)+1)))),[]))) none)
 (some (.nrm,(pu (rb eU a) 4 (i6 (w6 ((iv a 4)+1)))),[]))) none) none)
 (some (.brk 0,(rb eU a),[]))) none) none
def yQ (O:Orc) (c:LBs) (d:GDoc) (e:List GSel):Option (PV×UP) :=
 aQ O 152 [(eD d),(zq aF e)] fun b=>cnd (chk sf b)
 (bnd (c (yP O c) [(.slice (esV b) [] false),(.slice [] [] true),(zq aH d.frags),(i6 (List.length (List.map aH d.frags):Int)),(i6 0),(zq aR d.ops),(zq aH d.frags)] []) fun a =>
 exIs a.1 (some 0) (cnd (chkL eU a.2.1) (cnd (chkU [] a.2.2)
 (some ((zs a.2.1 1),[])) none) none)
 (none)) none
def jC (d:GDoc) (h:List Str):((List Str)×Int)->Option (((List Str)×Int)⊕((List Str)))
 | (a,b) =>
 cnd (decide (b<(List.length d.frags:Int)))
  (bnd (nthI d.frags b) fun c =>
  bnd (bJ h c.name) fun g =>
  cnd g
  (bnd (bJ a c.name) fun e =>
  cnd (!e)
   (bnd (tapp a [c.name]) fun f =>
   some (.inl (f,(IntKind.wrap .i64 (b+1)))))
   (some (.inl (a,(IntKind.wrap .i64 (b+1))))))
  (some (.inl (a,(IntKind.wrap .i64 (b+1))))))
  (some (.inr a))
abbrev aCL (d:GDoc) (c:List Str) (a b:PV):List PV:=[(zq PV.str c),a,(zq aH d.frags),(i6 (List.length d.frags:Int)),b,(zq aR d.ops),(zq aH d.frags)]
abbrev aLD (d:GDoc) (a:List Str) (st:(List Str)×Int) (l:List PV) (u:UP):Prop:=l=(aCL d a (zp PV.str st.1) (i6 st.2))/\u=[]
abbrev aLE (d:GDoc) (b:List Str) (p:(List Str)) (r:EU):Prop:=∃ (a:Int),r=(Ex.brk 0,(aCL d b (zp PV.str p) (i6 a)),[])
def uO (d:GDoc) (c:List GSel):Option (List Str) :=
 bnd (aAO d c) fun b =>
 bnd (aX (jC d b) ([],0)) fun a =>
 some a
def aNi:Decs:={decs:=[(11,sf),(17,(.ref gP)),(22,.bool),(27,.bool),(34,st')],loops:=[(4,[(2,2)],⟨eU,[],[(some 0,eU,[])]⟩)]}
theorem aNj O a d b:eW 81 aNi Tryz.f81 O a [(eD d),(zq aF b)] []=yQ O a d b:=by kernel_rfl
theorem aHI d e:Lok (aLD d e) (jC d e) (yP O aG) (aLE d e):=by
 rintro ⟨c,b⟩ l u ⟨rfl,rfl⟩;simp only [jC,yP,zd,zr];refine zG ?_;try simp only [evs,tys]
 apply Imp.cnd
 ·refine zX aH lG fun k _ => ?_;try simp only [evs,tys]
  refine zC rfl fun m _ => ?_;try simp only [zes,evs,tys]
  apply Imp.cnd
  ·refine zC rfl fun i _ => ?_;try simp only [zes,evs,tys]
   apply Imp.cnd
   ·refine Imp.op (f:=fun a => .slice (List.map PV.str a) [] true) (fun a h=>uA (enc:=PV.str) zI zI (fun a=>by first | rfl | simp only [evs,tys,evc]) h) (fun a=>rfl) fun j g => ?_;try simp only [evs,tys]
    exact zN
   ·exact zN
  ·exact zN
 ·exact zB ⟨b,zE⟩
theorem aLF d c:Imp (uO d c) (yQ O aG d c) (Ri bU):=by
 simp only [uO,yQ,zd,zr];try simp only [evs,tys]
 refine zC rfl fun e _ => ?_;try simp only [zes,evs,tys]
 refine zL (aHI d e) ?_;rintro a _ ⟨b,rfl⟩;refine zH ?_;try simp only [evs,tys]
 exact zR
theorem aLG {d a r} (h:uO d a=some r):aAL d a=some r:=zV jU (aLF d a) Tryz.func81 (aNj _ _ d a) h
def wI (O:Orc) (c:LBs) (f:GFrag) (u0_4:Str) (b:Str) (u0_3:Str) (a:GDoc):Option (PV×UP) :=
 some ((.bool (f.name==u0_3)),[[(4,[(.str u0_4),(.str b),(.slice [] [] true),(.slice [] [] true)]),(3,[(.str u0_3)]),(2,[(zq aR a.ops),(zq aH a.frags)])]])
def yR (f:GFrag) (u0_4:Str) (a:Str) (u0_3:Str) (b:GDoc):Option Bool :=
 some (f.name==u0_3)
def aLH:Decs:={}
theorem aLI O c f (u0_4:Str) (b:Str) (u0_3:Str) a:eW 154 aLH Tryz.f154 O c [(.agg [(.str f.name),(.str f.on_),(zq aI f.dirs),(zq aF f.sels)]),(.ptr 1 3 0)] [[(4,[(.str u0_4),(.str b),(.slice [] [] true),(.slice [] [] true)]),(3,[(.str u0_3)]),(2,[(zq aR a.ops),(zq aH a.frags)])]]=wI O c f u0_4 b u0_3 a:=by kernel_rfl
theorem aJq f u0_4 a u0_3 b:Imp (yR f u0_4 a u0_3 b) (wI O aG f u0_4 a u0_3 b) (fun r v=>v=(aA r,(jW f u0_4 a u0_3 b r))):=by
 simp only [yR,wI,zd,zr];try simp only [evs,tys]
 exact Imp.some (by first | rfl | simp only [zes,jW,evs,tys,evl])
theorem aJr {f u0_4 a u0_3 b r} (h:yR f u0_4 a u0_3 b=some r):aCr f u0_4 a u0_3 b=some r:=zV aE (aJq f u0_4 a u0_3 b) Tryz.func154 (aLI _ _ f u0_4 a u0_3 b) h
abbrev nS:List Sh:=[sf,(.func 154 [] [(.ptr 1 3 0)]),n6,n6,n6]
def aHJ (O:Orc) (e:LBs):bO:=fun c a=>cnd (chkL nS c) (cnd (chkU [[(4,[.str,.str,st',st']),(3,[.str]),(2,[sf,sf])]] a)
 (cnd (decide ((iv c 4)<(iv c 3)))
 (bnd (ix 4 (zs c 0) (zn c 4)) fun d=>cnd (chk (.ref gP) d)
 (bnd (O 154 [(.agg [(zt (rf d) 0),(zt (rf d) 1),(zs (rf d) 2),(zs (rf d) 3)]),(.ptr 2 3 0)] [[],[(4,[(zt (bx a 0 0) 0),(zt (bx a 0 0) 1),(zo (bx a 0 0) 2),(zo (bx a 0 0) 3)]),(3,[(zt (bx a 0 1) 0)]),(2,[(zs (bx a 0 2) 0),(zs (bx a 0 2) 1)])]]) fun b=>cnd (chkU [[],[(4,[.str,.str,st',st']),(3,[.str]),(2,[sf,sf])]] b.2) (cnd (chk .bool b.1)
 (cnd (bM b.1)
 (some (.ret,[(zs c 0),(.func (.func 154) [] [(.ptr 1 3 0)]),(zn c 4),(zn c 3),(zn c 4)],[[(4,[(zt (bx b.2 1 0) 0),(zt (bx b.2 1 0) 1),(zo (bx b.2 1 0) 2),(zo (bx b.2 1 0) 3)]),(3,[(zt (bx b.2 1 1) 0)]),(2,[(zs (bx b.2 1 2) 0),(zs (bx b.2 1 2) 1)])]]))
 (some (.nrm,[(zs c 0),(.func (.func 154) [] [(.ptr 1 3 0)]),(zn c 2),(zn c 3),(i6 (w6 ((iv c 4)+1)))],[[(4,[(zt (bx b.2 1 0) 0),(zt (bx b.2 1 0) 1),(zo (bx b.2 1 0) 2),(zo (bx b.2 1 0) 3)]),(3,[(zt (bx b.2 1 1) 0)]),(2,[(zs (bx b.2 1 2) 0),(zs (bx b.2 1 2) 1)])]]))) none) none) none)
 (some (.brk 0,(pu (rb nS c) 1 (.func (.func 154) [] [(.ptr 1 3 0)])),[[(4,[(zt (bx a 0 0) 0),(zt (bx a 0 0) 1),(zo (bx a 0 0) 2),(zo (bx a 0 0) 3)]),(3,[(zt (bx a 0 1) 0)]),(2,[(zs (bx a 0 2) 0),(zs (bx a 0 2) 1)])]]))) none) none
def aHK (O:Orc) (d:LBs) (s:List GFrag) (u0_4:Str) (c:Str) (u0_3:Str) (b:GDoc):Option (PV×UP) :=
 bnd (d (aHJ O d) [(zq aH s),(.func (.func 154) [] [(.ptr 1 3 0)]),(i6 0),(i6 (List.length (List.map aH s):Int)),(i6 0)] [[(4,[(.str u0_4),(.str c),(.slice [] [] true),(.slice [] [] true)]),(3,[(.str u0_3)]),(2,[(zq aR b.ops),(zq aH b.frags)])]]) fun a =>
 exIs a.1 (some 0) (cnd (chkL nS a.2.1) (cnd (chkU [[(4,[.str,.str,st',st']),(3,[.str]),(2,[sf,sf])]] a.2.2)
 (some ((i6 (-1)),[[(4,[(zt (bx a.2.2 0 0) 0),(zt (bx a.2.2 0 0) 1),(zo (bx a.2.2 0 0) 2),(zo (bx a.2.2 0 0) 3)]),(3,[(zt (bx a.2.2 0 1) 0)]),(2,[(zs (bx a.2.2 0 2) 0),(zs (bx a.2.2 0 2) 1)])]])) none) none)
 (exIs a.1 none (cnd (chkL nS a.2.1) (cnd (chkU [[(4,[.str,.str,st',st']),(3,[.str]),(2,[sf,sf])]] a.2.2)
 (some ((zn a.2.1 2),[[(4,[(zt (bx a.2.2 0 0) 0),(zt (bx a.2.2 0 0) 1),(zo (bx a.2.2 0 0) 2),(zo (bx a.2.2 0 0) 3)]),(3,[(zt (bx a.2.2 0 1) 0)]),(2,[(zs (bx a.2.2 0 2) 0),(zs (bx a.2.2 0 2) 1)])]])) none) none)
 (none))
def rG (s:List GFrag) (u0_4:Str) (b:Str) (u0_3:Str) (c:GDoc):Int->Option (Int⊕(Unit⊕Int))
 | a =>
 cnd (decide (a<(List.length s:Int)))
  (bnd (nthI s a) fun e =>
  bnd (aCr e u0_4 b u0_3 c) fun d =>
  cnd d
  (some (.inr (.inr a)))
  (some (.inl (IntKind.wrap .i64 (a+1)))))
  (some (.inr (.inl ())))
abbrev aWi (s:List GFrag) (u0_4:Str) (b:Str) (u0_3:Str) (a:GDoc) (st:Int) (l:List PV) (u:UP):Prop:=l=[(zq aH s),(.func (.func 154) [] [(.ptr 1 3 0)]),(i6 0),(i6 (List.length s:Int)),(i6 st)]/\u=[[(4,[(.str u0_4),(.str b),(.slice [] [] true),(.slice [] [] true)]),(3,[(.str u0_3)]),(2,[(zq aR a.ops),(zq aH a.frags)])]]
abbrev aWj (s:List GFrag) (u0_4:Str) (b:Str) (u0_3:Str) (a:GDoc) (p:Unit⊕Int) (r:EU):Prop:=elim p (fun (p:Unit)=>∃ (c:Int),r=(Ex.brk 0,[(zq aH s),(.func (.func 154) [] [(.ptr 1 3 0)]),(i6 0),(i6 (List.length s:Int)),(i6 c)],[[(4,[(.str u0_4),(.str b),(.slice [] [] true),(.slice [] [] true)]),(3,[(.str u0_3)]),(2,[(zq aR a.ops),(zq aH a.frags)])]])) (fun e=>(fun (p:Int)=>∃ (d:Int),r=(Ex.ret,[(zq aH s),(.func (.func 154) [] [(.ptr 1 3 0)]),(i6 p),(i6 (List.length s:Int)),(i6 d)],[[(4,[(.str u0_4),(.str b),(.slice [] [] true),(.slice [] [] true)]),(3,[(.str u0_3)]),(2,[(zq aR a.ops),(zq aH a.frags)])]])) e)
def aCM (s:List GFrag) (u0_4:Str) (b:Str) (u0_3:Str) (d:GDoc):Option Int :=
 bnd (aX (rG s u0_4 b u0_3 d) 0) fun a=>elim a
 (fun e =>
 some (-1))
 (fun c =>
 some c)
def bAz:Decs:={decs:=[(14,(.ref gP)),(16,.bool)],ups:=[(16,[[],[(4,[.str,.str,st',st']),(3,[.str]),(2,[sf,sf])]])],loops:=[(2,[],⟨nS,[[(4,[.str,.str,st',st']),(3,[.str]),(2,[sf,sf])]],[(some 0,nS,[[(4,[.str,.str,st',st']),(3,[.str]),(2,[sf,sf])]]),(none,nS,[[(4,[.str,.str,st',st']),(3,[.str]),(2,[sf,sf])]])]⟩)]}
theorem bAA O c s (u0_4:Str) (b:Str) (u0_3:Str) a:eW 153 bAz Tryz.f153 O c [(zq aH s),(.func (.func 154) [] [(.ptr 1 3 0)])] [[(4,[(.str u0_4),(.str b),(.slice [] [] true),(.slice [] [] true)]),(3,[(.str u0_3)]),(2,[(zq aR a.ops),(zq aH a.frags)])]]=aHK O c s u0_4 b u0_3 a:=by kernel_rfl
theorem aQg s u0_4 b u0_3 c:Lok (aWi s u0_4 b u0_3 c) (rG s u0_4 b u0_3 c) (aHJ O aG) (aWj s u0_4 b u0_3 c):=by
 rintro d l u ⟨rfl,rfl⟩;simp only [rG,aHJ,zd,zr];refine zG ?_;try simp only [evs,tys]
 apply Imp.cnd
 ·refine zX aH lG fun j _ => ?_;try simp only [evs,tys]
  refine Imp.gcall (f:=aA) (fu:=fun a=>[]::jW j u0_4 b u0_3 c a) (fun a h=>by first | exact fQ rfl rfl (by first | rfl | (simp only [zes,tys];rfl)) (bA h) | (have e:=bA h;simp only [evs,tys,evl,jW] at e;exact fQ rfl rfl (by first | rfl | (simp only [zes,tys];rfl)) e)) zK (fun a=>by first | rfl | (simp only [jW,evs,tys];first | rfl | (cases w<;>rfl))) fun i g => ?_;try simp only [aA,jW,evs,tys]
  apply Imp.cnd;·exact zT ⟨d,zE⟩
  ·exact zN
 ·exact zB ⟨d,zE⟩
theorem aWk s u0_4 a u0_3 b:Imp (aCM s u0_4 a u0_3 b) (aHK O aG s u0_4 a u0_3 b) (fun r v=>v=(aZ r,(xL s u0_4 a u0_3 b r))):=by
 simp only [aCM,aHK,zd,zr];try simp only [evs,tys]
 refine zL (aQg s u0_4 a u0_3 b) ?_;rintro (p | g) f c
 ·try simp only [aO,aP]
  obtain ⟨d,rfl⟩:=c;refine zH ?_;try simp only [evs,tys]
  exact Imp.some (by first | rfl | simp only [zes,xL,evs,tys,evl])
 ·try simp only [aO,aP]
  obtain ⟨e,rfl⟩:=c;refine Imp.exMiss rfl ?_;refine zH ?_;try simp only [evs,tys]
  exact Imp.some (by first | rfl | simp only [zes,xL,evs,tys,evl])
theorem aWl {s u0_4 a u0_3 b r} (h:aCM s u0_4 a u0_3 b=some r):aPK s u0_4 a u0_3 b=some r:=zV iZ (aWk s u0_4 a u0_3 b) Tryz.func153 (bAA _ _ s u0_4 a u0_3 b) h
end Go.Proofs.YtphmfillajagdaaGreat

import Derived.Test.YtphmfillajagdaaGreatGa
set_option maxRecDepth 100000
set_option linter.unusedVariables false
set_option linter.unusedSimpArgs false
set_option linter.unusedSimpArgs false
open Go Go.Ev Go.Ev.PV
namespace Go.Proofs.YtphmfillajagdaaGreat
def lS (O:Orc) (b:LBs) (s:GSchema) (d:GDoc):Option (PV×UP) :=
 aQ O 30 [(eS s)] fun a=>cnd (chk .bool a)
 (cnd (bG a)
 (aQ O 31 [(eD d)] fun x3=>cnd (chk .bool x3)
 (some ((.bool (bG x3)),[])) none)
 (some ((.bool false),[]))) none
noncomputable def jG (s:GSchema) (d:GDoc):Option Bool :=
 bnd (aAV s) fun b =>
 cnd b
 (bnd (aAW d) fun a =>
 some a)
 (some false)
def aDt:Decs:={decs:=[(6,.bool),(9,.bool)]}
theorem aDu O a s d:eW 9 aDt Tryz.f9 O a [(eS s),(eD d)] []=lS O a s d:=by kernel_rfl
theorem aCB s d:Imp (jG s d) (lS O aE s d) (Ri aA):=by
 simp only [jG,lS,zd,zr];try simp only [evs,tys]
 refine zC rfl fun b _ => ?_;try simp only [zes,evs,tys]
 apply Imp.cnd
 ·refine zC rfl fun a _ => ?_;try simp only [zes,evs,tys]
  exact zR
 ·exact zR
theorem aCC {s d r} (h:jG s d=some r):qS s d=some r:=zV aD (aCB s d) Tryz.func9 (aDu _ _ s d) h
abbrev iK:List Sh:=[n6,(.ptr 0 3 0),(.ptr 0 4 0),.bool,n6,sf,sf,sf,.str,.str]
def aF9 (O:Orc) (d:LBs):bL:=fun a b=>cnd (chkL iK a) (cnd (chkU [] b)
 (cnd (decide ((iv a 4)<(iv a 0)))
 (aQ O 20 [(.agg [(zs a 7),(zt a 8),(zt a 9)]),(.agg [(zs a 5),(zs a 6)]),(zn a 4)] fun c=>cnd (chk .bool c)
 (cnd (!(bG c))
 (some (.ret,(pu (rb iK a) 3 (.bool false)),[]))
 (some (.nrm,(pu (rb iK a) 4 (i6 (w6 ((iv a 4)+1)))),[]))) none)
 (some (.brk 0,(rb iK a),[]))) none) none
def aGa (O:Orc) (c:LBs) (s:GSchema) (d:GDoc) (n:Int):Option (PV×UP) :=
 aQ O 33 [(eD d)] fun b=>cnd (chk .bool b)
 (cnd (!(bG b))
 (some ((.bool false),[]))
 (bnd (c (aF9 O c) [(i6 n),(.ptr 0 3 0),(.ptr 0 4 0),(.bool false),(i6 1),(zq aU d.ops),(zq aG d.frags),(zq aH s.defs),(.str s.query),(.str s.mutation)] []) fun a =>
 exIs a.1 (some 0) (cnd (chkL iK a.2.1) (cnd (chkU [] a.2.2)
 (some ((.bool true),[])) none) none)
 (exIs a.1 none (cnd (chkL iK a.2.1) (cnd (chkU [] a.2.2)
 (some ((zb a.2.1 3),[])) none) none)
 (none)))) none
noncomputable def lT (s:GSchema) (d:GDoc) (n:Int):Int->Option (Int⊕(Unit⊕Unit))
 | a =>
 cnd (decide (a<n))
  (bnd (xL s d a) fun b =>
  cnd (!b)
  (some (.inr (.inr ())))
  (some (.inl (IntKind.wrap .i64 (a+1)))))
  (some (.inr (.inl ())))
abbrev aDv (s:GSchema) (d:GDoc) (n:Int) (a:PV):List PV:=[(i6 n),(.ptr 0 3 0),(.ptr 0 4 0),(.bool false),a,(zq aU d.ops),(zq aG d.frags),(zq aH s.defs),(.str s.query),(.str s.mutation)]
abbrev aSP (s:GSchema) (d:GDoc) (n:Int) (st:Int) (l:List PV) (u:UP):Prop:=l=(aDv s d n (i6 st))/\u=[]
abbrev aSQ (s:GSchema) (d:GDoc) (n:Int) (p:Unit⊕Unit) (r:EU):Prop:=elim p (fun (p:Unit)=>∃ (b:Int),r=(Ex.brk 0,(aDv s d n (i6 b)),[])) (fun (p:Unit)=>∃ (a:Int),r=(Ex.ret,(aDv s d n (i6 a)),[]))
noncomputable def wD (s:GSchema) (d:GDoc) (n:Int):Option Bool :=
 bnd (aVu d) fun c =>
 cnd (!c)
 (some false)
 (bnd (aY (lT s d n) 1) fun a=>elim a
 (fun b =>
 some true)
 (fun b =>
 some false))
def aWZ:Decs:={decs:=[(9,.bool),(19,.bool)],loops:=[(4,[(4,2),(3,3)],⟨iK,[],[(some 0,iK,[]),(none,iK,[])]⟩)]}
theorem aW0 O a s d n:eW 11 aWZ Tryz.f11 O a [(eS s),(eD d),(i6 n)] []=aGa O a s d n:=by kernel_rfl
theorem aNk s d n:Lok (aSP s d n) (lT s d n) (aF9 O aE) (aSQ s d n):=by
 rintro a l u ⟨rfl,rfl⟩;simp only [lT,aF9,zd,zr];refine zG ?_;try simp only [evs,tys]
 apply Imp.cnd
 ·refine zC rfl fun b _ => ?_;try simp only [zes,evs,tys]
  apply Imp.cnd;·exact zT ⟨a,zE⟩
  ·exact zN
 ·exact zB ⟨a,zE⟩
theorem aSR s d n:Imp (wD s d n) (aGa O aE s d n) (Ri aA):=by
 simp only [wD,aGa,zd,zr];try simp only [evs,tys]
 refine zC rfl fun f _ => ?_;try simp only [zes,evs,tys]
 apply Imp.cnd;·exact zR
 ·refine zL (aNk s d n) ?_;rintro (p | p) b a
  ·try simp only [aK,aM]
   obtain ⟨e,rfl⟩:=a;refine zH ?_;try simp only [evs,tys]
   exact zR
  ·try simp only [aK,aM]
   obtain ⟨c,rfl⟩:=a;refine Imp.exMiss rfl ?_;refine zH ?_;try simp only [evs,tys]
   exact zR
theorem aDw {s d n r} (h:wD s d n=some r):aSH s d n=some r:=zV aD (aSR s d n) Tryz.func11 (aW0 _ _ s d n) h
theorem aCD {r} n (h:aPf Tryz.prog MT XT n 12 [] []=some (aA r,[])):qT=some r:=aPj (xC aD) (bBf n h)
def oT (O:Orc) (b:LBs) (a:Str):Option (PV×UP) :=
 some ((.agg [(.str a),(.slice [(.agg [(.str [105,102]),(i6 1),(i6 1),(.str []),(.slice [] [] false),(.slice [] [] false)])] [] false)]),[])
noncomputable def lI (a:Str):Option GDir :=
 some (GDir.mk a [(GMember.mk [105,102] (GValue.mk 1 1 [] ([]:List GValue) ([]:List GMember)))])
def aGb:Decs:={}
theorem aGc O b (a:Str):eW 14 aGb Tryz.f14 O b [(.str a)] []=oT O b a:=by kernel_rfl
theorem aE6 a:Imp (lI a) (oT O aE a) (Ri gN):=by
 simp only [lI,oT,zd,zr];try simp only [evs,tys]
 exact zR
theorem aE7 {a r} (h:lI a=some r):aCT a=some r:=zV aHF (aE6 a) Tryz.func14 (aGc _ _ a) h
abbrev dJ:List Sh:=[(.func 39 [] []),.bool,sf,n6,n6,sf,sf]
def xP (O:Orc) (e:LBs):bL:=fun a c=>cnd (chkL dJ a) (cnd (chkU [] c)
 (cnd (decide ((iv a 4)<(iv a 3)))
 (bnd (ix 1 (zs a 2) (zn a 4)) fun d=>cnd (chk (.ref sf) d)
 (aQ O 39 [(.slice (esV (refV d)) [] false)] fun b=>cnd (chk .bool b)
 (cnd (!(bG b))
 (some (.ret,(pu (pu (rb dJ a) 0 (.func (.func 39) [] [])) 1 (.bool false)),[]))
 (some (.nrm,(pu (pu (rb dJ a) 0 (.func (.func 39) [] [])) 4 (i6 (w6 ((iv a 4)+1)))),[]))) none) none)
 (some (.brk 0,(pu (rb dJ a) 0 (.func (.func 39) [] [])),[]))) none) none
def xQ (O:Orc) (c:LBs) (d:GDoc):Option (PV×UP) :=
 aQ O 104 [(eD d)] fun b=>cnd (chk sf b)
 (bnd (c (xP O c) [(.func (.func 39) [] []),(.bool false),(.slice (esV b) [] false),(i6 (List.length (esV b):Int)),(i6 0),(zq aU d.ops),(zq aG d.frags)] []) fun a =>
 exIs a.1 (some 0) (cnd (chkL dJ a.2.1) (cnd (chkU [] a.2.2)
 (some ((.bool true),[])) none) none)
 (exIs a.1 none (cnd (chkL dJ a.2.1) (cnd (chkU [] a.2.2)
 (some ((zb a.2.1 1),[])) none) none)
 (none))) none
noncomputable def iX (d:List (List GDir)):Int->Option (Int⊕(Unit⊕Unit))
 | a =>
 cnd (decide (a<(List.length d:Int)))
  (bnd (nthI d a) fun b =>
  bnd (aB9 b) fun c =>
  cnd (!c)
  (some (.inr (.inr ())))
  (some (.inl (IntKind.wrap .i64 (a+1)))))
  (some (.inr (.inl ())))
abbrev uV (d:GDoc) (a:List (List GDir)) (b:PV):List PV:=[(.func (.func 39) [] []),(.bool false),(.slice (List.map (cL aF) a) [] false),(i6 (List.length a:Int)),b,(zq aU d.ops),(zq aG d.frags)]
abbrev aCV (d:GDoc) (a:List (List GDir)) (st:Int) (l:List PV) (u:UP):Prop:=l=(uV d a (i6 st))/\u=[]
abbrev aKD (d:GDoc) (c:List (List GDir)) (p:Unit⊕Unit) (r:EU):Prop:=elim p (fun (p:Unit)=>∃ (a:Int),r=(Ex.brk 0,(uV d c (i6 a)),[])) (fun (p:Unit)=>∃ (b:Int),r=(Ex.ret,(uV d c (i6 b)),[]))
noncomputable def tZ (d:GDoc):Option Bool :=
 bnd (aE2 d) fun c =>
 bnd (aY (iX c) 0) fun a=>elim a
 (fun b =>
 some true)
 (fun b =>
 some false)
def aNl:Decs:={decs:=[(8,sf),(12,(.ref sf)),(16,.bool)],loops:=[(2,[(2,2)],⟨dJ,[],[(some 0,dJ,[]),(none,dJ,[])]⟩)]}
theorem aNm O a d:eW 38 aNl Tryz.f38 O a [(eD d),(.func (.func 39) [] [])] []=xQ O a d:=by kernel_rfl
theorem aHG d c:∀ st l u,aCV d c st l u->Imp (iX c st) (xP O aE l u) (kE (aCV d c) (aKD d c)):=by
 rintro b l u ⟨rfl,rfl⟩;simp only [iX,xP,zd,zr];refine zG ?_;try simp only [evs,tys]
 apply Imp.cnd
 ·refine Imp.op (f:=fun a => .ref ((cL aF) a)) (fun a h=>aI0 (enc:=(cL aF)) zI ⟨zA,by decide⟩ h) (fun a=>rfl) fun g e => ?_;try simp only [evs,tys]
  refine zC rfl fun i _ => ?_;try simp only [zes,evs,tys]
  apply Imp.cnd;·exact zT ⟨b,zE⟩
  ·exact zN
 ·exact zB ⟨b,zE⟩
theorem aKE d:Imp (tZ d) (xQ O aE d) (Ri aA):=by
 simp only [tZ,xQ,zd,zr];try simp only [evs,tys]
 refine zC rfl fun f _ => ?_;try simp only [zes,evs,tys]
 refine zL (aHG d f) ?_;rintro (p | p) c a
 ·try simp only [aK,aM]
  obtain ⟨b,rfl⟩:=a;refine zH ?_;try simp only [evs,tys]
  exact zR
 ·try simp only [aK,aM]
  obtain ⟨e,rfl⟩:=a;refine Imp.exMiss rfl ?_;refine zH ?_;try simp only [evs,tys]
  exact zR
theorem aKF {d r} (h:tZ d=some r):aF3 d=some r:=zV aD (aKE d) Tryz.func38 (aNm _ _ d) h
def nT (O:Orc) (c:LBs) (a:Str) (x:GSel) (u0_4:GDoc) (u0_3:GSchema):Option (PV×UP) :=
 aQ O 39 [(zq aF x.dirs)] fun b=>cnd (chk .bool b)
 (some ((.bool (bG b)),[[(5,[(.func (.func 39) [] [])]),(4,[(zq aU u0_4.ops),(zq aG u0_4.frags)]),(3,[(zq aH u0_3.defs),(.str u0_3.query),(.str u0_3.mutation)])]])) none
noncomputable def kJ (a:Str) (x:GSel) (u0_4:GDoc) (u0_3:GSchema):Option Bool :=
 bnd (aB9 x.dirs) fun b =>
 some b
def aE8:Decs:={decs:=[(9,.bool)]}
theorem aE9 O b (a:Str) x u0_4 u0_3:eW 105 aE8 Tryz.f105 O b [(.str a),(eL x),(.ptr 1 5 0)] [[(5,[(.func (.func 39) [] [])]),(4,[(zq aU u0_4.ops),(zq aG u0_4.frags)]),(3,[(zq aH u0_3.defs),(.str u0_3.query),(.str u0_3.mutation)])]]=nT O b a x u0_4 u0_3:=by kernel_rfl
theorem aDx a x u0_4 u0_3:Imp (kJ a x u0_4 u0_3) (nT O aE a x u0_4 u0_3) (fun r v=>v=(aA r,(dW a x u0_4 u0_3 r))):=by
 simp only [kJ,nT,zd,zr];try simp only [evs,tys]
 refine zC rfl fun b _ => ?_;try simp only [zes,evs,tys]
 exact Imp.some (by first | rfl | simp only [zes,dW,evs,tys,evl])
theorem aDy {a x u0_4 u0_3 r} (h:kJ a x u0_4 u0_3=some r):sQ a x u0_4 u0_3=some r:=zV aD (aDx a x u0_4 u0_3) Tryz.func105 (aE9 _ _ a x u0_4 u0_3) h
abbrev oU:List Sh:=[.str,(.func 105 [] [(.ptr 1 5 0)]),(.ptr 0 4 0),.bool,sf,n6,n6,sf,.str,.str]
def aJq (O:Orc) (g:LBs):bL:=fun e d=>cnd (chkL oU e) (cnd (chkU [[(5,[(.func 39 [] [])]),(4,[sf,sf]),(3,[sf,.str,.str])]] d)
 (cnd (decide ((iv e 6)<(iv e 5)))
 (bnd (ix 7 (zs e 4) (zn e 6)) fun c=>cnd (chk (.ref rJ) c)
 (bnd (O 105 [(zt e 0),(.agg [(zn (rf c) 0),(zt (rf c) 1),(zt (rf c) 2),(zs (rf c) 3),(zs (rf c) 4),(zt (rf c) 5),(zs (rf c) 6)]),(.ptr 2 5 0)] [[(11,[(zn (rf c) 0),(zt (rf c) 1),(zt (rf c) 2),(zs (rf c) 3),(zs (rf c) 4),(zt (rf c) 5),(zs (rf c) 6)]),(4,[(zs e 7),(zt e 8),(zt e 9)])],[(5,[(.func (.func 39) [] [])]),(4,[(zs (bx d 0 1) 0),(zs (bx d 0 1) 1)]),(3,[(zs (bx d 0 2) 0),(zt (bx d 0 2) 1),(zt (bx d 0 2) 2)])]]) fun a=>cnd (chkU [[(11,[n6,.str,.str,sf,sf,.str,sf]),(4,[sf,.str,.str])],[(5,[(.func 39 [] [])]),(4,[sf,sf]),(3,[sf,.str,.str])]] a.2) (cnd (chk .bool a.1)
 (cnd (bG a.1)
 (aQ O 138 [(.agg [(zs (bx a.2 0 1) 0),(zt (bx a.2 0 1) 1),(zt (bx a.2 0 1) 2)]),(zt e 0),(.agg [(zn (bx a.2 0 0) 0),(zt (bx a.2 0 0) 1),(zt (bx a.2 0 0) 2),(zs (bx a.2 0 0) 3),(zs (bx a.2 0 0) 4),(zt (bx a.2 0 0) 5),(zs (bx a.2 0 0) 6)])] fun f=>cnd (chk .str f)
 (bnd (O 137 [(.agg [(zs (bx a.2 0 1) 0),(zt (bx a.2 0 1) 1),(zt (bx a.2 0 1) 2)]),(.str (strV f)),(zs (bx a.2 0 0) 6),(.func (.func 105) [] [(.ptr 2 5 0)])] [[(11,[(zn (bx a.2 0 0) 0),(zt (bx a.2 0 0) 1),(zt (bx a.2 0 0) 2),(zs (bx a.2 0 0) 3),(zs (bx a.2 0 0) 4),(zt (bx a.2 0 0) 5),(zs (bx a.2 0 0) 6)]),(4,[(zs (bx a.2 0 1) 0),(zt (bx a.2 0 1) 1),(zt (bx a.2 0 1) 2)])],[(5,[(.func (.func 39) [] [])]),(4,[(zs (bx a.2 1 1) 0),(zs (bx a.2 1 1) 1)]),(3,[(zs (bx a.2 1 2) 0),(zt (bx a.2 1 2) 1),(zt (bx a.2 1 2) 2)])]]) fun b=>cnd (chkU [[(11,[n6,.str,.str,sf,sf,.str,sf]),(4,[sf,.str,.str])],[(5,[(.func 39 [] [])]),(4,[sf,sf]),(3,[sf,.str,.str])]] b.2) (cnd (chk .bool b.1)
 (cnd (!(bG b.1))
 (some (.brk 0,(pu (pu (pu (pu (pu (rb oU e) 1 (.func (.func 105) [] [(.ptr 1 5 0)])) 3 (.bool (bG b.1))) 7 (zs (bx b.2 0 1) 0)) 8 (zt (bx b.2 0 1) 1)) 9 (zt (bx b.2 0 1) 2)),[[(5,[(.func (.func 39) [] [])]),(4,[(zs (bx b.2 1 1) 0),(zs (bx b.2 1 1) 1)]),(3,[(zs (bx b.2 1 2) 0),(zt (bx b.2 1 2) 1),(zt (bx b.2 1 2) 2)])]]))
 (some (.nrm,[(zt e 0),(.func (.func 105) [] [(.ptr 1 5 0)]),(.ptr 0 4 0),(.bool (bG b.1)),(zs e 4),(zn e 5),(i6 (w6 ((iv e 6)+1))),(zs (bx b.2 0 1) 0),(zt (bx b.2 0 1) 1),(zt (bx b.2 0 1) 2)],[[(5,[(.func (.func 39) [] [])]),(4,[(zs (bx b.2 1 1) 0),(zs (bx b.2 1 1) 1)]),(3,[(zs (bx b.2 1 2) 0),(zt (bx b.2 1 2) 1),(zt (bx b.2 1 2) 2)])]]))) none) none) none)
 (some (.brk 0,(pu (pu (pu (pu (pu (rb oU e) 1 (.func (.func 105) [] [(.ptr 1 5 0)])) 3 (.bool false)) 7 (zs (bx a.2 0 1) 0)) 8 (zt (bx a.2 0 1) 1)) 9 (zt (bx a.2 0 1) 2)),[[(5,[(.func (.func 39) [] [])]),(4,[(zs (bx a.2 1 1) 0),(zs (bx a.2 1 1) 1)]),(3,[(zs (bx a.2 1 2) 0),(zt (bx a.2 1 2) 1),(zt (bx a.2 1 2) 2)])]]))) none) none) none)
 (some (.brk 0,(pu (rb oU e) 1 (.func (.func 105) [] [(.ptr 1 5 0)])),[[(5,[(.func (.func 39) [] [])]),(4,[(zs (bx d 0 1) 0),(zs (bx d 0 1) 1)]),(3,[(zs (bx d 0 2) 0),(zt (bx d 0 2) 1),(zt (bx d 0 2) 2)])]]))) none) none
def aJr (O:Orc) (c:LBs) (s:GSchema) (b:Str) (d:List GSel) (u0_4:GDoc) (u0_3:GSchema):Option (PV×UP) :=
 bnd (c (aJq O c) [(.str b),(.func (.func 105) [] [(.ptr 1 5 0)]),(.ptr 0 4 0),(.bool true),(zq aI d),(i6 (List.length (List.map aI d):Int)),(i6 0),(zq aH s.defs),(.str s.query),(.str s.mutation)] [[(5,[(.func (.func 39) [] [])]),(4,[(zq aU u0_4.ops),(zq aG u0_4.frags)]),(3,[(zq aH u0_3.defs),(.str u0_3.query),(.str u0_3.mutation)])]]) fun a =>
 exIs a.1 (some 0) (cnd (chkL oU a.2.1) (cnd (chkU [[(5,[(.func 39 [] [])]),(4,[sf,sf]),(3,[sf,.str,.str])]] a.2.2)
 (some ((zb a.2.1 3),[[(5,[(.func (.func 39) [] [])]),(4,[(zs (bx a.2.2 0 1) 0),(zs (bx a.2.2 0 1) 1)]),(3,[(zs (bx a.2.2 0 2) 0),(zt (bx a.2.2 0 2) 1),(zt (bx a.2.2 0 2) 2)])]])) none) none)
 (none)
noncomputable def wE (s:GSchema) (e:Str) (h:List GSel) (u0_4:GDoc) (u0_3:GSchema):(Bool×Int)->Option ((Bool×Int)⊕Bool)
 | (d,a) =>
 cnd (decide (a<(List.length h:Int)))
  (bnd (nthI h a) fun c =>
  bnd (sQ e c u0_4 u0_3) fun f =>
  cnd f
  (bnd (wB s e c) fun g =>
  bnd (aJk s g c.sels u0_4 u0_3) fun b =>
  cnd (!b)
   (some (.inr b))
   (some (.inl (b,(IntKind.wrap .i64 (a+1))))))
  (some (.inr false)))
  (some (.inr d))
abbrev aW1 (s:GSchema) (a:Str) (b:List GSel) (u0_4:GDoc) (u0_3:GSchema) (st:Bool×Int) (l:List PV) (u:UP):Prop:=l=[(.str a),(.func (.func 105) [] [(.ptr 1 5 0)]),(.ptr 0 4 0),(.bool st.1),(zq aI b),(i6 (List.length b:Int)),(i6 st.2),(zq aH s.defs),(.str s.query),(.str s.mutation)]/\u=[[(5,[(.func (.func 39) [] [])]),(4,[(zq aU u0_4.ops),(zq aG u0_4.frags)]),(3,[(zq aH u0_3.defs),(.str u0_3.query),(.str u0_3.mutation)])]]
abbrev aW2 (s:GSchema) (b:Str) (c:List GSel) (u0_4:GDoc) (u0_3:GSchema) (p:Bool) (r:EU):Prop:=(fun (p:Bool)=>∃ (a:Int),r=(Ex.brk 0,[(.str b),(.func (.func 105) [] [(.ptr 1 5 0)]),(.ptr 0 4 0),(.bool p),(zq aI c),(i6 (List.length c:Int)),(i6 a),(zq aH s.defs),(.str s.query),(.str s.mutation)],[[(5,[(.func (.func 39) [] [])]),(4,[(zq aU u0_4.ops),(zq aG u0_4.frags)]),(3,[(zq aH u0_3.defs),(.str u0_3.query),(.str u0_3.mutation)])]])) p
noncomputable def aIh (s:GSchema) (b:Str) (c:List GSel) (u0_4:GDoc) (u0_3:GSchema):Option Bool :=
 bnd (aY (wE s b c u0_4 u0_3) (true,0)) fun a =>
 some a
def aZM:Decs:={decs:=[(16,(.ref rJ)),(21,.bool),(27,.str),(31,.bool)],ups:=[(21,[[(11,[n6,.str,.str,sf,sf,.str,sf]),(4,[sf,.str,.str])],[(5,[(.func 39 [] [])]),(4,[sf,sf]),(3,[sf,.str,.str])]]),(31,[[(11,[n6,.str,.str,sf,sf,.str,sf]),(4,[sf,.str,.str])],[(5,[(.func 39 [] [])]),(4,[sf,sf]),(3,[sf,.str,.str])]])],loops:=[(3,[(4,3)],⟨oU,[[(5,[(.func 39 [] [])]),(4,[sf,sf]),(3,[sf,.str,.str])]],[(some 0,oU,[[(5,[(.func 39 [] [])]),(4,[sf,sf]),(3,[sf,.str,.str])]])]⟩)]}
theorem aZN O b s (a:Str) c u0_4 u0_3:eW 137 aZM Tryz.f137 O b [(eS s),(.str a),(zq aI c),(.func (.func 105) [] [(.ptr 1 5 0)])] [[(5,[(.func (.func 39) [] [])]),(4,[(zq aU u0_4.ops),(zq aG u0_4.frags)]),(3,[(zq aH u0_3.defs),(.str u0_3.query),(.str u0_3.mutation)])]]=aJr O b s a c u0_4 u0_3:=by kernel_rfl
theorem aPH s d i u0_4 u0_3:Lok (aW1 s d i u0_4 u0_3) (wE s d i u0_4 u0_3) (aJq O aE) (aW2 s d i u0_4 u0_3):=by
 rintro ⟨j,c⟩ l u ⟨rfl,rfl⟩;simp only [wE,aJq,zd,zr];refine zG ?_;try simp only [evs,tys]
 apply Imp.cnd
 ·refine zX aI kG fun b _ => ?_;try simp only [evs,tys]
  refine Imp.gcall (f:=aA) (fu:=fun a=>[(11,[(i6 b.kind),(.str b.alias),(.str b.name),(zq aC b.args),(zq aF b.dirs),(.str b.on_),(zq aI b.sels)]),(4,[(zq aH s.defs),(.str s.query),(.str s.mutation)])]::dW d b u0_4 u0_3 a) (fun a h=>by first | exact jC rfl rfl (by first | rfl | (simp only [zes,tys];rfl)) (bH h) | (have e:=bH h;simp only [evs,tys,evl,dW] at e;exact jC rfl rfl (by first | rfl | (simp only [zes,tys];rfl)) e)) zK (fun a=>by first | rfl | (simp only [dW,evs,tys];first | rfl | (cases w<;>rfl))) fun o m => ?_;try simp only [aA,dW,evs,tys]
  apply Imp.cnd
  ·refine zC rfl fun g _ => ?_;try simp only [zes,evs,tys]
   refine Imp.gcall (f:=aA) (fu:=fun a=>[(11,[(i6 b.kind),(.str b.alias),(.str b.name),(zq aC b.args),(zq aF b.dirs),(.str b.on_),(zq aI b.sels)]),(4,[(zq aH s.defs),(.str s.query),(.str s.mutation)])]::lP s g b.sels u0_4 u0_3 a) (fun a h=>by first | exact jC rfl rfl (by first | rfl | (simp only [zes,tys];rfl)) (bH h) | (have e:=bH h;simp only [evs,tys,evl,lP] at e;exact jC rfl rfl (by first | rfl | (simp only [zes,tys];rfl)) e)) zK (fun a=>by first | rfl | (simp only [lP,evs,tys];first | rfl | (cases w<;>rfl))) fun n k => ?_;try simp only [aA,lP,evs,tys]
   apply Imp.cnd;·exact zB ⟨c,zE⟩
   ·exact zN
  ·exact zB ⟨c,zE⟩
 ·exact zB ⟨c,zE⟩
theorem aW3 s a b u0_4 u0_3:Imp (aIh s a b u0_4 u0_3) (aJr O aE s a b u0_4 u0_3) (fun r v=>v=(aA r,(lP s a b u0_4 u0_3 r))):=by
 simp only [aIh,aJr,zd,zr];try simp only [evs,tys]
 refine zL (aPH s a b u0_4 u0_3) ?_;rintro c _ ⟨d,rfl⟩;refine zH ?_;try simp only [evs,tys]
 exact Imp.some (by first | rfl | simp only [zes,lP,evs,tys,evl])
theorem aW4 {s a b u0_4 u0_3 r} (h:aIh s a b u0_4 u0_3=some r):aJk s a b u0_4 u0_3=some r:=zV aD (aW3 s a b u0_4 u0_3) Tryz.func137 (aZN _ _ s a b u0_4 u0_3) h
open Go Go.Ev Go.Ev.PV
abbrev lU:List Sh:=[(.func 105 [] [(.ptr 1 5 0)]),(.ptr 0 3 0),(.ptr 0 4 0),.bool,sf,n6,n6,sf,sf,sf,.str,.str]
def aGd (O:Orc) (f:LBs):bL:=fun b c=>cnd (chkL lU b) (cnd (chkU [[(5,[(.func 39 [] [])]),(4,[sf,sf]),(3,[sf,.str,.str])]] c)
 (cnd (decide ((iv b 6)<(iv b 5)))
 (bnd (ix 5 (zs b 4) (zn b 6)) fun d=>cnd (chk (.ref shOp) d)
 (aQ O 68 [(.agg [(zs b 9),(zt b 10),(zt b 11)]),(.agg [(zn (rf d) 0),(zt (rf d) 1),(zs (rf d) 2),(zs (rf d) 3),(zs (rf d) 4)])] fun e=>cnd (chk .str e)
 (bnd (O 137 [(.agg [(zs b 9),(zt b 10),(zt b 11)]),(.str (strV e)),(zs (rf d) 4),(.func (.func 105) [] [(.ptr 2 5 0)])] [[(8,[(zn (rf d) 0),(zt (rf d) 1),(zs (rf d) 2),(zs (rf d) 3),(zs (rf d) 4)]),(4,[(zs b 7),(zs b 8)]),(3,[(zs b 9),(zt b 10),(zt b 11)])],[(5,[(.func (.func 39) [] [])]),(4,[(zs (bx c 0 1) 0),(zs (bx c 0 1) 1)]),(3,[(zs (bx c 0 2) 0),(zt (bx c 0 2) 1),(zt (bx c 0 2) 2)])]]) fun a=>cnd (chkU [[(8,[n6,.str,sf,sf,sf]),(4,[sf,sf]),(3,[sf,.str,.str])],[(5,[(.func 39 [] [])]),(4,[sf,sf]),(3,[sf,.str,.str])]] a.2) (cnd (chk .bool a.1)
 (cnd (!(bG a.1))
 (some (.ret,[(.func (.func 105) [] [(.ptr 1 5 0)]),(.ptr 0 3 0),(.ptr 0 4 0),(.bool false),(zs b 4),(zn b 5),(zn b 6),(zs (bx a.2 0 1) 0),(zs (bx a.2 0 1) 1),(zs (bx a.2 0 2) 0),(zt (bx a.2 0 2) 1),(zt (bx a.2 0 2) 2)],[[(5,[(.func (.func 39) [] [])]),(4,[(zs (bx a.2 1 1) 0),(zs (bx a.2 1 1) 1)]),(3,[(zs (bx a.2 1 2) 0),(zt (bx a.2 1 2) 1),(zt (bx a.2 1 2) 2)])]]))
 (some (.nrm,[(.func (.func 105) [] [(.ptr 1 5 0)]),(.ptr 0 3 0),(.ptr 0 4 0),(zb b 3),(zs b 4),(zn b 5),(i6 (w6 ((iv b 6)+1))),(zs (bx a.2 0 1) 0),(zs (bx a.2 0 1) 1),(zs (bx a.2 0 2) 0),(zt (bx a.2 0 2) 1),(zt (bx a.2 0 2) 2)],[[(5,[(.func (.func 39) [] [])]),(4,[(zs (bx a.2 1 1) 0),(zs (bx a.2 1 1) 1)]),(3,[(zs (bx a.2 1 2) 0),(zt (bx a.2 1 2) 1),(zt (bx a.2 1 2) 2)])]]))) none) none) none) none)
 (some (.brk 0,(pu (rb lU b) 0 (.func (.func 105) [] [(.ptr 1 5 0)])),[[(5,[(.func (.func 39) [] [])]),(4,[(zs (bx c 0 1) 0),(zs (bx c 0 1) 1)]),(3,[(zs (bx c 0 2) 0),(zt (bx c 0 2) 1),(zt (bx c 0 2) 2)])]]))) none) none
abbrev lV:List Sh:=[(.func 105 [] [(.ptr 1 5 0)]),(.ptr 0 3 0),.bool,sf,n6,n6,sf,sf,sf,.str,.str]
def aGe (O:Orc) (e:LBs):bL:=fun b c=>cnd (chkL lV b) (cnd (chkU [[(5,[(.func 39 [] [])]),(4,[sf,sf]),(3,[sf,.str,.str])]] c)
 (cnd (decide ((iv b 5)<(iv b 4)))
 (bnd (ix 4 (zs b 3) (zn b 5)) fun d=>cnd (chk (.ref gW) d)
 (bnd (O 137 [(.agg [(zs b 8),(zt b 9),(zt b 10)]),(zt (rf d) 1),(zs (rf d) 3),(.func (.func 105) [] [(.ptr 2 5 0)])] [[(10,[(zt (rf d) 0),(zt (rf d) 1),(zs (rf d) 2),(zs (rf d) 3)]),(4,[(zs b 6),(zs b 7)]),(3,[(zs b 8),(zt b 9),(zt b 10)])],[(5,[(.func (.func 39) [] [])]),(4,[(zs (bx c 0 1) 0),(zs (bx c 0 1) 1)]),(3,[(zs (bx c 0 2) 0),(zt (bx c 0 2) 1),(zt (bx c 0 2) 2)])]]) fun a=>cnd (chkU [[(10,[.str,.str,sf,sf]),(4,[sf,sf]),(3,[sf,.str,.str])],[(5,[(.func 39 [] [])]),(4,[sf,sf]),(3,[sf,.str,.str])]] a.2) (cnd (chk .bool a.1)
 (cnd (!(bG a.1))
 (some (.ret,[(.func (.func 105) [] [(.ptr 1 5 0)]),(.ptr 0 3 0),(.bool false),(zs b 3),(zn b 4),(zn b 5),(zs (bx a.2 0 1) 0),(zs (bx a.2 0 1) 1),(zs (bx a.2 0 2) 0),(zt (bx a.2 0 2) 1),(zt (bx a.2 0 2) 2)],[[(5,[(.func (.func 39) [] [])]),(4,[(zs (bx a.2 1 1) 0),(zs (bx a.2 1 1) 1)]),(3,[(zs (bx a.2 1 2) 0),(zt (bx a.2 1 2) 1),(zt (bx a.2 1 2) 2)])]]))
 (some (.nrm,[(.func (.func 105) [] [(.ptr 1 5 0)]),(.ptr 0 3 0),(zb b 2),(zs b 3),(zn b 4),(i6 (w6 ((iv b 5)+1))),(zs (bx a.2 0 1) 0),(zs (bx a.2 0 1) 1),(zs (bx a.2 0 2) 0),(zt (bx a.2 0 2) 1),(zt (bx a.2 0 2) 2)],[[(5,[(.func (.func 39) [] [])]),(4,[(zs (bx a.2 1 1) 0),(zs (bx a.2 1 1) 1)]),(3,[(zs (bx a.2 1 2) 0),(zt (bx a.2 1 2) 1),(zt (bx a.2 1 2) 2)])]]))) none) none) none)
 (some (.brk 2,(pu (rb lV b) 0 (.func (.func 105) [] [(.ptr 1 5 0)])),[[(5,[(.func (.func 39) [] [])]),(4,[(zs (bx c 0 1) 0),(zs (bx c 0 1) 1)]),(3,[(zs (bx c 0 2) 0),(zt (bx c 0 2) 1),(zt (bx c 0 2) 2)])]]))) none) none
def aGf (O:Orc) (c:LBs) (s:GSchema) (d:GDoc) (u0_4:GDoc) (u0_3:GSchema):Option (PV×UP) :=
 bnd (c (aGd O c) [(.func (.func 105) [] [(.ptr 1 5 0)]),(.ptr 0 3 0),(.ptr 0 4 0),(.bool false),(zq aU d.ops),(i6 (List.length (List.map aU d.ops):Int)),(i6 0),(zq aU d.ops),(zq aG d.frags),(zq aH s.defs),(.str s.query),(.str s.mutation)] [[(5,[(.func (.func 39) [] [])]),(4,[(zq aU u0_4.ops),(zq aG u0_4.frags)]),(3,[(zq aH u0_3.defs),(.str u0_3.query),(.str u0_3.mutation)])]]) fun a =>
 exIs a.1 (some 0) (cnd (chkL lU a.2.1) (cnd (chkU [[(5,[(.func 39 [] [])]),(4,[sf,sf]),(3,[sf,.str,.str])]] a.2.2)
 (bnd (c (aGe O c) [(.func (.func 105) [] [(.ptr 1 5 0)]),(.ptr 0 3 0),(zb a.2.1 3),(zs a.2.1 8),(i6 (List.length (ev a.2.1 8):Int)),(i6 0),(zs a.2.1 7),(zs a.2.1 8),(zs a.2.1 9),(zt a.2.1 10),(zt a.2.1 11)] [[(5,[(.func (.func 39) [] [])]),(4,[(zs (bx a.2.2 0 1) 0),(zs (bx a.2.2 0 1) 1)]),(3,[(zs (bx a.2.2 0 2) 0),(zt (bx a.2.2 0 2) 1),(zt (bx a.2.2 0 2) 2)])]]) fun b =>
 exIs b.1 (some 2) (cnd (chkL lV b.2.1) (cnd (chkU [[(5,[(.func 39 [] [])]),(4,[sf,sf]),(3,[sf,.str,.str])]] b.2.2)
 (some ((.bool true),[[(5,[(.func (.func 39) [] [])]),(4,[(zs (bx b.2.2 0 1) 0),(zs (bx b.2.2 0 1) 1)]),(3,[(zs (bx b.2.2 0 2) 0),(zt (bx b.2.2 0 2) 1),(zt (bx b.2.2 0 2) 2)])]])) none) none)
 (exIs b.1 none (cnd (chkL lV b.2.1) (cnd (chkU [[(5,[(.func 39 [] [])]),(4,[sf,sf]),(3,[sf,.str,.str])]] b.2.2)
 (some ((zb b.2.1 2),[[(5,[(.func (.func 39) [] [])]),(4,[(zs (bx b.2.2 0 1) 0),(zs (bx b.2.2 0 1) 1)]),(3,[(zs (bx b.2.2 0 2) 0),(zt (bx b.2.2 0 2) 1),(zt (bx b.2.2 0 2) 2)])]])) none) none)
 (none))) none) none)
 (exIs a.1 none (cnd (chkL lU a.2.1) (cnd (chkU [[(5,[(.func 39 [] [])]),(4,[sf,sf]),(3,[sf,.str,.str])]] a.2.2)
 (some ((zb a.2.1 3),[[(5,[(.func (.func 39) [] [])]),(4,[(zs (bx a.2.2 0 1) 0),(zs (bx a.2.2 0 1) 1)]),(3,[(zs (bx a.2.2 0 2) 0),(zt (bx a.2.2 0 2) 1),(zt (bx a.2.2 0 2) 2)])]])) none) none)
 (none))
noncomputable def xR (s:GSchema) (d:GDoc) (u0_4:GDoc) (u0_3:GSchema):Int->Option (Int⊕(Unit⊕Unit))
 | a =>
 cnd (decide (a<(List.length d.ops:Int)))
  (bnd (nthI d.ops a) fun b =>
  bnd (aJl s b) fun e =>
  bnd (aJk s e b.sels u0_4 u0_3) fun c =>
  cnd (!c)
  (some (.inr (.inr ())))
  (some (.inl (IntKind.wrap .i64 (a+1)))))
  (some (.inr (.inl ())))
abbrev aDz (s:GSchema) (d:GDoc) (u0_4:GDoc) (u0_3:GSchema) (a:PV):List PV:=[(.func (.func 105) [] [(.ptr 1 5 0)]),(.ptr 0 3 0),(.ptr 0 4 0),(.bool false),(zq aU d.ops),(i6 (List.length d.ops:Int)),a,(zq aU d.ops),(zq aG d.frags),(zq aH s.defs),(.str s.query),(.str s.mutation)]
abbrev aSS (s:GSchema) (d:GDoc) (u0_4:GDoc) (u0_3:GSchema) (st:Int) (l:List PV) (u:UP):Prop:=l=(aDz s d u0_4 u0_3 (i6 st))/\u=[[(5,[(.func (.func 39) [] [])]),(4,[(zq aU u0_4.ops),(zq aG u0_4.frags)]),(3,[(zq aH u0_3.defs),(.str u0_3.query),(.str u0_3.mutation)])]]
abbrev aST (s:GSchema) (d:GDoc) (u0_4:GDoc) (u0_3:GSchema) (p:Unit⊕Unit) (r:EU):Prop:=elim p (fun (p:Unit)=>∃ (b:Int),r=(Ex.brk 0,(aDz s d u0_4 u0_3 (i6 b)),[[(5,[(.func (.func 39) [] [])]),(4,[(zq aU u0_4.ops),(zq aG u0_4.frags)]),(3,[(zq aH u0_3.defs),(.str u0_3.query),(.str u0_3.mutation)])]])) (fun (p:Unit)=>∃ (a:Int),r=(Ex.ret,(aDz s d u0_4 u0_3 (i6 a)),[[(5,[(.func (.func 39) [] [])]),(4,[(zq aU u0_4.ops),(zq aG u0_4.frags)]),(3,[(zq aH u0_3.defs),(.str u0_3.query),(.str u0_3.mutation)])]]))
noncomputable def xS (s:GSchema) (d:GDoc) (u0_4:GDoc) (u0_3:GSchema):Int->Option (Int⊕(Unit⊕Unit))
 | a =>
 cnd (decide (a<(List.length d.frags:Int)))
  (bnd (nthI d.frags a) fun b =>
  bnd (aJk s b.on_ b.sels u0_4 u0_3) fun c =>
  cnd (!c)
  (some (.inr (.inr ())))
  (some (.inl (IntKind.wrap .i64 (a+1)))))
  (some (.inr (.inl ())))
abbrev aDA (s:GSchema) (d:GDoc) (u0_4:GDoc) (u0_3:GSchema) (a:PV):List PV:=[(.func (.func 105) [] [(.ptr 1 5 0)]),(.ptr 0 3 0),(.bool false),(zq aG d.frags),(i6 (List.length d.frags:Int)),a,(zq aU d.ops),(zq aG d.frags),(zq aH s.defs),(.str s.query),(.str s.mutation)]
abbrev aSU (s:GSchema) (d:GDoc) (u0_4:GDoc) (u0_3:GSchema) (st:Int) (l:List PV) (u:UP):Prop:=l=(aDA s d u0_4 u0_3 (i6 st))/\u=[[(5,[(.func (.func 39) [] [])]),(4,[(zq aU u0_4.ops),(zq aG u0_4.frags)]),(3,[(zq aH u0_3.defs),(.str u0_3.query),(.str u0_3.mutation)])]]
abbrev aSV (s:GSchema) (d:GDoc) (u0_4:GDoc) (u0_3:GSchema) (p:Unit⊕Unit) (r:EU):Prop:=elim p (fun (p:Unit)=>∃ (b:Int),r=(Ex.brk 2,(aDA s d u0_4 u0_3 (i6 b)),[[(5,[(.func (.func 39) [] [])]),(4,[(zq aU u0_4.ops),(zq aG u0_4.frags)]),(3,[(zq aH u0_3.defs),(.str u0_3.query),(.str u0_3.mutation)])]])) (fun (p:Unit)=>∃ (a:Int),r=(Ex.ret,(aDA s d u0_4 u0_3 (i6 a)),[[(5,[(.func (.func 39) [] [])]),(4,[(zq aU u0_4.ops),(zq aG u0_4.frags)]),(3,[(zq aH u0_3.defs),(.str u0_3.query),(.str u0_3.mutation)])]]))
noncomputable def aJs (s:GSchema) (d:GDoc) (u0_4:GDoc) (u0_3:GSchema):Option Bool :=
 bnd (aY (xR s d u0_4 u0_3) 0) fun a=>elim a
 (fun c =>
 bnd (aY (xS s d u0_4 u0_3) 0) fun b=>elim b
 (fun e =>
 some true)
 (fun e =>
 some false))
 (fun c =>
 some false)
def aW5:Decs:={decs:=[(16,(.ref shOp)),(21,.str),(25,.bool),(33,(.ref gW)),(41,.bool)],ups:=[(25,[[(8,[n6,.str,sf,sf,sf]),(4,[sf,sf]),(3,[sf,.str,.str])],[(5,[(.func 39 [] [])]),(4,[sf,sf]),(3,[sf,.str,.str])]]),(41,[[(10,[.str,.str,sf,sf]),(4,[sf,sf]),(3,[sf,.str,.str])],[(5,[(.func 39 [] [])]),(4,[sf,sf]),(3,[sf,.str,.str])]])],loops:=[(2,[(4,2),(3,3)],⟨lU,[[(5,[(.func 39 [] [])]),(4,[sf,sf]),(3,[sf,.str,.str])]],[(some 0,lU,[[(5,[(.func 39 [] [])]),(4,[sf,sf]),(3,[sf,.str,.str])]]),(none,lU,[[(5,[(.func 39 [] [])]),(4,[sf,sf]),(3,[sf,.str,.str])]])]⟩),(8,[(4,2),(3,3)],⟨lV,[[(5,[(.func 39 [] [])]),(4,[sf,sf]),(3,[sf,.str,.str])]],[(some 2,lV,[[(5,[(.func 39 [] [])]),(4,[sf,sf]),(3,[sf,.str,.str])]]),(none,lV,[[(5,[(.func 39 [] [])]),(4,[sf,sf]),(3,[sf,.str,.str])]])]⟩)]}
theorem aW6 O a s d u0_4 u0_3:eW 70 aW5 Tryz.f70 O a [(eS s),(eD d),(.func (.func 105) [] [(.ptr 1 5 0)])] [[(5,[(.func (.func 39) [] [])]),(4,[(zq aU u0_4.ops),(zq aG u0_4.frags)]),(3,[(zq aH u0_3.defs),(.str u0_3.query),(.str u0_3.mutation)])]]=aGf O a s d u0_4 u0_3:=by kernel_rfl
theorem aNn s d u0_4 u0_3:Lok (aSS s d u0_4 u0_3) (xR s d u0_4 u0_3) (aGd O aE) (aST s d u0_4 u0_3):=by
 rintro c l u ⟨rfl,rfl⟩;simp only [xR,aGd,zd,zr];refine zG ?_;try simp only [evs,tys]
 apply Imp.cnd
 ·refine zX aU aDo fun b _ => ?_;try simp only [evs,tys]
  refine zC rfl fun e _ => ?_;try simp only [zes,evs,tys]
  refine Imp.gcall (f:=aA) (fu:=fun a=>[(8,[(i6 b.kind),(.str b.name),(zq bC b.vars),(zq aF b.dirs),(zq aI b.sels)]),(4,[(zq aU d.ops),(zq aG d.frags)]),(3,[(zq aH s.defs),(.str s.query),(.str s.mutation)])]::lP s e b.sels u0_4 u0_3 a) (fun a h=>by first | exact jC rfl rfl (by first | rfl | (simp only [zes,tys];rfl)) (bH h) | (have g:=bH h;simp only [evs,tys,evl,lP] at g;exact jC rfl rfl (by first | rfl | (simp only [zes,tys];rfl)) g)) zK (fun a=>by first | rfl | (simp only [lP,evs,tys];first | rfl | (cases w<;>rfl))) fun j i => ?_;try simp only [aA,lP,evs,tys]
  apply Imp.cnd;·exact zT ⟨c,zE⟩
  ·exact zN
 ·exact zB ⟨c,zE⟩
theorem aNo s d u0_4 u0_3:Lok (aSU s d u0_4 u0_3) (xS s d u0_4 u0_3) (aGe O aE) (aSV s d u0_4 u0_3):=by
 rintro c l u ⟨rfl,rfl⟩;simp only [xS,aGe,zd,zr];refine zG ?_;try simp only [evs,tys]
 apply Imp.cnd
 ·refine zX aG iS fun b _ => ?_;try simp only [evs,tys]
  refine Imp.gcall (f:=aA) (fu:=fun a=>[(10,[(.str b.name),(.str b.on_),(zq aF b.dirs),(zq aI b.sels)]),(4,[(zq aU d.ops),(zq aG d.frags)]),(3,[(zq aH s.defs),(.str s.query),(.str s.mutation)])]::lP s b.on_ b.sels u0_4 u0_3 a) (fun a h=>by first | exact jC rfl rfl (by first | rfl | (simp only [zes,tys];rfl)) (bH h) | (have e:=bH h;simp only [evs,tys,evl,lP] at e;exact jC rfl rfl (by first | rfl | (simp only [zes,tys];rfl)) e)) zK (fun a=>by first | rfl | (simp only [lP,evs,tys];first | rfl | (cases w<;>rfl))) fun i g => ?_;try simp only [aA,lP,evs,tys]
  apply Imp.cnd;·exact zT ⟨c,zE⟩
  ·exact zN
 ·exact zB ⟨c,zE⟩
theorem aSW s d u0_4 u0_3:Imp (aJs s d u0_4 u0_3) (aGf O aE s d u0_4 u0_3) (fun r v=>v=(aA r,(rM s d u0_4 u0_3 r))):=by
 simp only [aJs,aGf,zd,zr];try simp only [evs,tys]
 refine zL (aNn s d u0_4 u0_3) ?_;rintro (p | p) e b
 ·try simp only [aK,aM]
  obtain ⟨g,rfl⟩:=b;refine zH ?_;try simp only [evs,tys]
  refine zL (aNo s d u0_4 u0_3) ?_;rintro (p | p) f a
  ·try simp only [aK,aM]
   obtain ⟨i,rfl⟩:=a;refine zH ?_;try simp only [evs,tys]
   exact Imp.some (by first | rfl | simp only [zes,rM,evs,tys,evl])
  ·try simp only [aK,aM]
   obtain ⟨h,rfl⟩:=a;refine Imp.exMiss rfl ?_;refine zH ?_;try simp only [evs,tys]
   exact Imp.some (by first | rfl | simp only [zes,rM,evs,tys,evl])
 ·try simp only [aK,aM]
  obtain ⟨c,rfl⟩:=b;refine Imp.exMiss rfl ?_;refine zH ?_;try simp only [evs,tys]
  exact Imp.some (by first | rfl | simp only [zes,rM,evs,tys,evl])
theorem aSX {s d u0_4 u0_3 r} (h:aJs s d u0_4 u0_3=some r):aZE s d u0_4 u0_3=some r:=zV aD (aSW s d u0_4 u0_3) Tryz.func70 (aW6 _ _ s d u0_4 u0_3) h
def qV (O:Orc) (b:LBs) (s:GSchema) (d:GDoc):Option (PV×UP) :=
 bnd (O 70 [(eS s),(eD d),(.func (.func 105) [] [(.ptr 1 5 0)])] [[(5,[(.func (.func 39) [] [])]),(4,[(zq aU d.ops),(zq aG d.frags)]),(3,[(zq aH s.defs),(.str s.query),(.str s.mutation)])]]) fun a=>cnd (chkU [[(5,[(.func 39 [] [])]),(4,[sf,sf]),(3,[sf,.str,.str])]] a.2) (cnd (chk .bool a.1)
 (some ((.bool (bG a.1)),[])) none) none
noncomputable def nU (s:GSchema) (d:GDoc):Option Bool :=
 bnd (aZE s d d s) fun a =>
 some a
def aHH:Decs:={decs:=[(10,.bool)],ups:=[(10,[[(5,[(.func 39 [] [])]),(4,[sf,sf]),(3,[sf,.str,.str])]])]}
theorem aHI O a s d:eW 40 aHH Tryz.f40 O a [(eS s),(eD d),(.func (.func 39) [] [])] []=qV O a s d:=by kernel_rfl
theorem aGg s d:Imp (nU s d) (qV O aE s d) (Ri aA):=by
 simp only [nU,qV,zd,zr];try simp only [evs,tys]
 refine Imp.gcall (f:=aA) (fu:=fun a=>rM s d d s a) (fun a h=>by first | exact bH h | (have b:=bH h;simp only [evs,tys,evl,rM] at b;exact b)) zK (fun a=>by first | rfl | (simp only [rM,evs,tys];first | rfl | (cases w<;>rfl))) fun e c => ?_;try simp only [aA,rM,evs,tys]
 exact zR
theorem aGh {s d r} (h:nU s d=some r):xI s d=some r:=zV aD (aGg s d) Tryz.func40 (aHI _ _ s d) h
abbrev cI:List Sh:=[(.func 41 [] []),.bool,sf,n6,n6,sf,sf]
def qW (O:Orc) (e:LBs):bL:=fun a c=>cnd (chkL cI a) (cnd (chkU [] c)
 (cnd (decide ((iv a 4)<(iv a 3)))
 (bnd (ix 1 (zs a 2) (zn a 4)) fun d=>cnd (chk (.ref sf) d)
 (aQ O 41 [(.slice (esV (refV d)) [] false)] fun b=>cnd (chk .bool b)
 (cnd (!(bG b))
 (some (.ret,(pu (pu (rb cI a) 0 (.func (.func 41) [] [])) 1 (.bool false)),[]))
 (some (.nrm,(pu (pu (rb cI a) 0 (.func (.func 41) [] [])) 4 (i6 (w6 ((iv a 4)+1)))),[]))) none) none)
 (some (.brk 0,(pu (rb cI a) 0 (.func (.func 41) [] [])),[]))) none) none
def qX (O:Orc) (c:LBs) (d:GDoc):Option (PV×UP) :=
 aQ O 104 [(eD d)] fun b=>cnd (chk sf b)
 (bnd (c (qW O c) [(.func (.func 41) [] []),(.bool false),(.slice (esV b) [] false),(i6 (List.length (esV b):Int)),(i6 0),(zq aU d.ops),(zq aG d.frags)] []) fun a =>
 exIs a.1 (some 0) (cnd (chkL cI a.2.1) (cnd (chkU [] a.2.2)
 (some ((.bool true),[])) none) none)
 (exIs a.1 none (cnd (chkL cI a.2.1) (cnd (chkU [] a.2.2)
 (some ((zb a.2.1 1),[])) none) none)
 (none))) none
noncomputable def eO (d:List (List GDir)):Int->Option (Int⊕(Unit⊕Unit))
 | a =>
 cnd (decide (a<(List.length d:Int)))
  (bnd (nthI d a) fun b =>
  bnd (aF4 b) fun c =>
  cnd (!c)
  (some (.inr (.inr ())))
  (some (.inl (IntKind.wrap .i64 (a+1)))))
  (some (.inr (.inl ())))
abbrev oV (d:GDoc) (a:List (List GDir)) (b:PV):List PV:=[(.func (.func 41) [] []),(.bool false),(.slice (List.map (cL aF) a) [] false),(i6 (List.length a:Int)),b,(zq aU d.ops),(zq aG d.frags)]
abbrev wF (d:GDoc) (a:List (List GDir)) (st:Int) (l:List PV) (u:UP):Prop:=l=(oV d a (i6 st))/\u=[]
abbrev aGi (d:GDoc) (c:List (List GDir)) (p:Unit⊕Unit) (r:EU):Prop:=elim p (fun (p:Unit)=>∃ (a:Int),r=(Ex.brk 0,(oV d c (i6 a)),[])) (fun (p:Unit)=>∃ (b:Int),r=(Ex.ret,(oV d c (i6 b)),[]))
noncomputable def nV (d:GDoc):Option Bool :=
 bnd (aE2 d) fun c =>
 bnd (aY (eO c) 0) fun a=>elim a
 (fun b =>
 some true)
 (fun b =>
 some false)
def aHJ:Decs:={decs:=[(8,sf),(12,(.ref sf)),(16,.bool)],loops:=[(2,[(2,2)],⟨cI,[],[(some 0,cI,[]),(none,cI,[])]⟩)]}
theorem aHK O a d:eW 38 aHJ Tryz.f38 O a [(eD d),(.func (.func 41) [] [])] []=qX O a d:=by kernel_rfl
theorem aDB d c:∀ st l u,wF d c st l u->Imp (eO c st) (qW O aE l u) (kE (wF d c) (aGi d c)):=by
 rintro b l u ⟨rfl,rfl⟩;simp only [eO,qW,zd,zr];refine zG ?_;try simp only [evs,tys]
 apply Imp.cnd
 ·refine Imp.op (f:=fun a => .ref ((cL aF) a)) (fun a h=>aI0 (enc:=(cL aF)) zI ⟨zA,by decide⟩ h) (fun a=>rfl) fun g e => ?_;try simp only [evs,tys]
  refine zC rfl fun i _ => ?_;try simp only [zes,evs,tys]
  apply Imp.cnd;·exact zT ⟨b,zE⟩
  ·exact zN
 ·exact zB ⟨b,zE⟩
theorem aGj d:Imp (nV d) (qX O aE d) (Ri aA):=by
 simp only [nV,qX,zd,zr];try simp only [evs,tys]
 refine zC rfl fun f _ => ?_;try simp only [zes,evs,tys]
 refine zL (aDB d f) ?_;rintro (p | p) c a
 ·try simp only [aK,aM]
  obtain ⟨b,rfl⟩:=a;refine zH ?_;try simp only [evs,tys]
  exact zR
 ·try simp only [aK,aM]
  obtain ⟨e,rfl⟩:=a;refine Imp.exMiss rfl ?_;refine zH ?_;try simp only [evs,tys]
  exact zR
theorem aGk {d r} (h:nV d=some r):xJ d=some r:=zV aD (aGj d) Tryz.func38 (aHK _ _ d) h
abbrev cJ:List Sh:=[(.func 42 [] []),.bool,sf,n6,n6,sf,sf]
def qY (O:Orc) (e:LBs):bL:=fun a c=>cnd (chkL cJ a) (cnd (chkU [] c)
 (cnd (decide ((iv a 4)<(iv a 3)))
 (bnd (ix 1 (zs a 2) (zn a 4)) fun d=>cnd (chk (.ref sf) d)
 (aQ O 42 [(.slice (esV (refV d)) [] false)] fun b=>cnd (chk .bool b)
 (cnd (!(bG b))
 (some (.ret,(pu (pu (rb cJ a) 0 (.func (.func 42) [] [])) 1 (.bool false)),[]))
 (some (.nrm,(pu (pu (rb cJ a) 0 (.func (.func 42) [] [])) 4 (i6 (w6 ((iv a 4)+1)))),[]))) none) none)
 (some (.brk 0,(pu (rb cJ a) 0 (.func (.func 42) [] [])),[]))) none) none
def qZ (O:Orc) (c:LBs) (d:GDoc):Option (PV×UP) :=
 aQ O 104 [(eD d)] fun b=>cnd (chk sf b)
 (bnd (c (qY O c) [(.func (.func 42) [] []),(.bool false),(.slice (esV b) [] false),(i6 (List.length (esV b):Int)),(i6 0),(zq aU d.ops),(zq aG d.frags)] []) fun a =>
 exIs a.1 (some 0) (cnd (chkL cJ a.2.1) (cnd (chkU [] a.2.2)
 (some ((.bool true),[])) none) none)
 (exIs a.1 none (cnd (chkL cJ a.2.1) (cnd (chkU [] a.2.2)
 (some ((zb a.2.1 1),[])) none) none)
 (none))) none
noncomputable def eP (d:List (List GDir)):Int->Option (Int⊕(Unit⊕Unit))
 | a =>
 cnd (decide (a<(List.length d:Int)))
  (bnd (nthI d a) fun b =>
  bnd (aE4 b) fun c =>
  cnd (!c)
  (some (.inr (.inr ())))
  (some (.inl (IntKind.wrap .i64 (a+1)))))
  (some (.inr (.inl ())))
abbrev oX (d:GDoc) (a:List (List GDir)) (b:PV):List PV:=[(.func (.func 42) [] []),(.bool false),(.slice (List.map (cL aF) a) [] false),(i6 (List.length a:Int)),b,(zq aU d.ops),(zq aG d.frags)]
abbrev wG (d:GDoc) (a:List (List GDir)) (st:Int) (l:List PV) (u:UP):Prop:=l=(oX d a (i6 st))/\u=[]
abbrev aGl (d:GDoc) (c:List (List GDir)) (p:Unit⊕Unit) (r:EU):Prop:=elim p (fun (p:Unit)=>∃ (a:Int),r=(Ex.brk 0,(oX d c (i6 a)),[])) (fun (p:Unit)=>∃ (b:Int),r=(Ex.ret,(oX d c (i6 b)),[]))
noncomputable def nW (d:GDoc):Option Bool :=
 bnd (aE2 d) fun c =>
 bnd (aY (eP c) 0) fun a=>elim a
 (fun b =>
 some true)
 (fun b =>
 some false)
def aHL:Decs:={decs:=[(8,sf),(12,(.ref sf)),(16,.bool)],loops:=[(2,[(2,2)],⟨cJ,[],[(some 0,cJ,[]),(none,cJ,[])]⟩)]}
theorem aHM O a d:eW 38 aHL Tryz.f38 O a [(eD d),(.func (.func 42) [] [])] []=qZ O a d:=by kernel_rfl
theorem aDC d c:∀ st l u,wG d c st l u->Imp (eP c st) (qY O aE l u) (kE (wG d c) (aGl d c)):=by
 rintro b l u ⟨rfl,rfl⟩;simp only [eP,qY,zd,zr];refine zG ?_;try simp only [evs,tys]
 apply Imp.cnd
 ·refine Imp.op (f:=fun a => .ref ((cL aF) a)) (fun a h=>aI0 (enc:=(cL aF)) zI ⟨zA,by decide⟩ h) (fun a=>rfl) fun g e => ?_;try simp only [evs,tys]
  refine zC rfl fun i _ => ?_;try simp only [zes,evs,tys]
  apply Imp.cnd;·exact zT ⟨b,zE⟩
  ·exact zN
 ·exact zB ⟨b,zE⟩
theorem aGm d:Imp (nW d) (qZ O aE d) (Ri aA):=by
 simp only [nW,qZ,zd,zr];try simp only [evs,tys]
 refine zC rfl fun f _ => ?_;try simp only [zes,evs,tys]
 refine zL (aDC d f) ?_;rintro (p | p) c a
 ·try simp only [aK,aM]
  obtain ⟨b,rfl⟩:=a;refine zH ?_;try simp only [evs,tys]
  exact zR
 ·try simp only [aK,aM]
  obtain ⟨e,rfl⟩:=a;refine Imp.exMiss rfl ?_;refine zH ?_;try simp only [evs,tys]
  exact zR
theorem aGn {d r} (h:nW d=some r):xK d=some r:=zV aD (aGm d) Tryz.func38 (aHM _ _ d) h
def jS (O:Orc) (c:LBs) (a:Str) (x:GSel) (u0_4:GDoc) (u0_3:GSchema):Option (PV×UP) :=
 aQ O 42 [(zq aF x.dirs)] fun b=>cnd (chk .bool b)
 (some ((.bool (bG b)),[[(5,[(.func (.func 42) [] [])]),(4,[(zq aU u0_4.ops),(zq aG u0_4.frags)]),(3,[(zq aH u0_3.defs),(.str u0_3.query),(.str u0_3.mutation)])]])) none
noncomputable def gF (a:Str) (x:GSel) (u0_4:GDoc) (u0_3:GSchema):Option Bool :=
 bnd (aE4 x.dirs) fun b =>
 some b
def aA3:Decs:={decs:=[(9,.bool)]}
theorem aA4 O b (a:Str) x u0_4 u0_3:eW 105 aA3 Tryz.f105 O b [(.str a),(eL x),(.ptr 1 5 0)] [[(5,[(.func (.func 42) [] [])]),(4,[(zq aU u0_4.ops),(zq aG u0_4.frags)]),(3,[(zq aH u0_3.defs),(.str u0_3.query),(.str u0_3.mutation)])]]=jS O b a x u0_4 u0_3:=by kernel_rfl
theorem aAb a x u0_4 u0_3:Imp (gF a x u0_4 u0_3) (jS O aE a x u0_4 u0_3) (fun r v=>v=(aA r,(cN a x u0_4 u0_3 r))):=by
 simp only [gF,jS,zd,zr];try simp only [evs,tys]
 refine zC rfl fun b _ => ?_;try simp only [zes,evs,tys]
 exact Imp.some (by first | rfl | simp only [zes,cN,evs,tys,evl])
theorem aAc {a x u0_4 u0_3 r} (h:gF a x u0_4 u0_3=some r):nR a x u0_4 u0_3=some r:=zV aD (aAb a x u0_4 u0_3) Tryz.func105 (aA4 _ _ a x u0_4 u0_3) h
abbrev iL:List Sh:=[.str,(.func 105 [] [(.ptr 1 5 0)]),(.ptr 0 4 0),.bool,sf,n6,n6,sf,.str,.str]
def aA5 (O:Orc) (g:LBs):bL:=fun e d=>cnd (chkL iL e) (cnd (chkU [[(5,[(.func 42 [] [])]),(4,[sf,sf]),(3,[sf,.str,.str])]] d)
 (cnd (decide ((iv e 6)<(iv e 5)))
 (bnd (ix 7 (zs e 4) (zn e 6)) fun c=>cnd (chk (.ref rJ) c)
 (bnd (O 105 [(zt e 0),(.agg [(zn (rf c) 0),(zt (rf c) 1),(zt (rf c) 2),(zs (rf c) 3),(zs (rf c) 4),(zt (rf c) 5),(zs (rf c) 6)]),(.ptr 2 5 0)] [[(11,[(zn (rf c) 0),(zt (rf c) 1),(zt (rf c) 2),(zs (rf c) 3),(zs (rf c) 4),(zt (rf c) 5),(zs (rf c) 6)]),(4,[(zs e 7),(zt e 8),(zt e 9)])],[(5,[(.func (.func 42) [] [])]),(4,[(zs (bx d 0 1) 0),(zs (bx d 0 1) 1)]),(3,[(zs (bx d 0 2) 0),(zt (bx d 0 2) 1),(zt (bx d 0 2) 2)])]]) fun a=>cnd (chkU [[(11,[n6,.str,.str,sf,sf,.str,sf]),(4,[sf,.str,.str])],[(5,[(.func 42 [] [])]),(4,[sf,sf]),(3,[sf,.str,.str])]] a.2) (cnd (chk .bool a.1)
 (cnd (bG a.1)
 (aQ O 138 [(.agg [(zs (bx a.2 0 1) 0),(zt (bx a.2 0 1) 1),(zt (bx a.2 0 1) 2)]),(zt e 0),(.agg [(zn (bx a.2 0 0) 0),(zt (bx a.2 0 0) 1),(zt (bx a.2 0 0) 2),(zs (bx a.2 0 0) 3),(zs (bx a.2 0 0) 4),(zt (bx a.2 0 0) 5),(zs (bx a.2 0 0) 6)])] fun f=>cnd (chk .str f)
 (bnd (O 137 [(.agg [(zs (bx a.2 0 1) 0),(zt (bx a.2 0 1) 1),(zt (bx a.2 0 1) 2)]),(.str (strV f)),(zs (bx a.2 0 0) 6),(.func (.func 105) [] [(.ptr 2 5 0)])] [[(11,[(zn (bx a.2 0 0) 0),(zt (bx a.2 0 0) 1),(zt (bx a.2 0 0) 2),(zs (bx a.2 0 0) 3),(zs (bx a.2 0 0) 4),(zt (bx a.2 0 0) 5),(zs (bx a.2 0 0) 6)]),(4,[(zs (bx a.2 0 1) 0),(zt (bx a.2 0 1) 1),(zt (bx a.2 0 1) 2)])],[(5,[(.func (.func 42) [] [])]),(4,[(zs (bx a.2 1 1) 0),(zs (bx a.2 1 1) 1)]),(3,[(zs (bx a.2 1 2) 0),(zt (bx a.2 1 2) 1),(zt (bx a.2 1 2) 2)])]]) fun b=>cnd (chkU [[(11,[n6,.str,.str,sf,sf,.str,sf]),(4,[sf,.str,.str])],[(5,[(.func 42 [] [])]),(4,[sf,sf]),(3,[sf,.str,.str])]] b.2) (cnd (chk .bool b.1)
 (cnd (!(bG b.1))
 (some (.brk 0,(pu (pu (pu (pu (pu (rb iL e) 1 (.func (.func 105) [] [(.ptr 1 5 0)])) 3 (.bool (bG b.1))) 7 (zs (bx b.2 0 1) 0)) 8 (zt (bx b.2 0 1) 1)) 9 (zt (bx b.2 0 1) 2)),[[(5,[(.func (.func 42) [] [])]),(4,[(zs (bx b.2 1 1) 0),(zs (bx b.2 1 1) 1)]),(3,[(zs (bx b.2 1 2) 0),(zt (bx b.2 1 2) 1),(zt (bx b.2 1 2) 2)])]]))
 (some (.nrm,[(zt e 0),(.func (.func 105) [] [(.ptr 1 5 0)]),(.ptr 0 4 0),(.bool (bG b.1)),(zs e 4),(zn e 5),(i6 (w6 ((iv e 6)+1))),(zs (bx b.2 0 1) 0),(zt (bx b.2 0 1) 1),(zt (bx b.2 0 1) 2)],[[(5,[(.func (.func 42) [] [])]),(4,[(zs (bx b.2 1 1) 0),(zs (bx b.2 1 1) 1)]),(3,[(zs (bx b.2 1 2) 0),(zt (bx b.2 1 2) 1),(zt (bx b.2 1 2) 2)])]]))) none) none) none)
 (some (.brk 0,(pu (pu (pu (pu (pu (rb iL e) 1 (.func (.func 105) [] [(.ptr 1 5 0)])) 3 (.bool false)) 7 (zs (bx a.2 0 1) 0)) 8 (zt (bx a.2 0 1) 1)) 9 (zt (bx a.2 0 1) 2)),[[(5,[(.func (.func 42) [] [])]),(4,[(zs (bx a.2 1 1) 0),(zs (bx a.2 1 1) 1)]),(3,[(zs (bx a.2 1 2) 0),(zt (bx a.2 1 2) 1),(zt (bx a.2 1 2) 2)])]]))) none) none) none)
 (some (.brk 0,(pu (rb iL e) 1 (.func (.func 105) [] [(.ptr 1 5 0)])),[[(5,[(.func (.func 42) [] [])]),(4,[(zs (bx d 0 1) 0),(zs (bx d 0 1) 1)]),(3,[(zs (bx d 0 2) 0),(zt (bx d 0 2) 1),(zt (bx d 0 2) 2)])]]))) none) none
def aA6 (O:Orc) (c:LBs) (s:GSchema) (b:Str) (d:List GSel) (u0_4:GDoc) (u0_3:GSchema):Option (PV×UP) :=
 bnd (c (aA5 O c) [(.str b),(.func (.func 105) [] [(.ptr 1 5 0)]),(.ptr 0 4 0),(.bool true),(zq aI d),(i6 (List.length (List.map aI d):Int)),(i6 0),(zq aH s.defs),(.str s.query),(.str s.mutation)] [[(5,[(.func (.func 42) [] [])]),(4,[(zq aU u0_4.ops),(zq aG u0_4.frags)]),(3,[(zq aH u0_3.defs),(.str u0_3.query),(.str u0_3.mutation)])]]) fun a =>
 exIs a.1 (some 0) (cnd (chkL iL a.2.1) (cnd (chkU [[(5,[(.func 42 [] [])]),(4,[sf,sf]),(3,[sf,.str,.str])]] a.2.2)
 (some ((zb a.2.1 3),[[(5,[(.func (.func 42) [] [])]),(4,[(zs (bx a.2.2 0 1) 0),(zs (bx a.2.2 0 1) 1)]),(3,[(zs (bx a.2.2 0 2) 0),(zt (bx a.2.2 0 2) 1),(zt (bx a.2.2 0 2) 2)])]])) none) none)
 (none)
noncomputable def nX (s:GSchema) (e:Str) (h:List GSel) (u0_4:GDoc) (u0_3:GSchema):(Bool×Int)->Option ((Bool×Int)⊕Bool)
 | (d,a) =>
 cnd (decide (a<(List.length h:Int)))
  (bnd (nthI h a) fun c =>
  bnd (nR e c u0_4 u0_3) fun f =>
  cnd f
  (bnd (wB s e c) fun g =>
  bnd (sR s g c.sels u0_4 u0_3) fun b =>
  cnd (!b)
   (some (.inr b))
   (some (.inl (b,(IntKind.wrap .i64 (a+1))))))
  (some (.inr false)))
  (some (.inr d))
abbrev aNp (s:GSchema) (a:Str) (b:List GSel) (u0_4:GDoc) (u0_3:GSchema) (st:Bool×Int) (l:List PV) (u:UP):Prop:=l=[(.str a),(.func (.func 105) [] [(.ptr 1 5 0)]),(.ptr 0 4 0),(.bool st.1),(zq aI b),(i6 (List.length b:Int)),(i6 st.2),(zq aH s.defs),(.str s.query),(.str s.mutation)]/\u=[[(5,[(.func (.func 42) [] [])]),(4,[(zq aU u0_4.ops),(zq aG u0_4.frags)]),(3,[(zq aH u0_3.defs),(.str u0_3.query),(.str u0_3.mutation)])]]
abbrev aNq (s:GSchema) (b:Str) (c:List GSel) (u0_4:GDoc) (u0_3:GSchema) (p:Bool) (r:EU):Prop:=(fun (p:Bool)=>∃ (a:Int),r=(Ex.brk 0,[(.str b),(.func (.func 105) [] [(.ptr 1 5 0)]),(.ptr 0 4 0),(.bool p),(zq aI c),(i6 (List.length c:Int)),(i6 a),(zq aH s.defs),(.str s.query),(.str s.mutation)],[[(5,[(.func (.func 42) [] [])]),(4,[(zq aU u0_4.ops),(zq aG u0_4.frags)]),(3,[(zq aH u0_3.defs),(.str u0_3.query),(.str u0_3.mutation)])]])) p
noncomputable def xT (s:GSchema) (b:Str) (c:List GSel) (u0_4:GDoc) (u0_3:GSchema):Option Bool :=
 bnd (aY (nX s b c u0_4 u0_3) (true,0)) fun a =>
 some a
def aPI:Decs:={decs:=[(16,(.ref rJ)),(21,.bool),(27,.str),(31,.bool)],ups:=[(21,[[(11,[n6,.str,.str,sf,sf,.str,sf]),(4,[sf,.str,.str])],[(5,[(.func 42 [] [])]),(4,[sf,sf]),(3,[sf,.str,.str])]]),(31,[[(11,[n6,.str,.str,sf,sf,.str,sf]),(4,[sf,.str,.str])],[(5,[(.func 42 [] [])]),(4,[sf,sf]),(3,[sf,.str,.str])]])],loops:=[(3,[(4,3)],⟨iL,[[(5,[(.func 42 [] [])]),(4,[sf,sf]),(3,[sf,.str,.str])]],[(some 0,iL,[[(5,[(.func 42 [] [])]),(4,[sf,sf]),(3,[sf,.str,.str])]])]⟩)]}
theorem aPJ O b s (a:Str) c u0_4 u0_3:eW 137 aPI Tryz.f137 O b [(eS s),(.str a),(zq aI c),(.func (.func 105) [] [(.ptr 1 5 0)])] [[(5,[(.func (.func 42) [] [])]),(4,[(zq aU u0_4.ops),(zq aG u0_4.frags)]),(3,[(zq aH u0_3.defs),(.str u0_3.query),(.str u0_3.mutation)])]]=aA6 O b s a c u0_4 u0_3:=by kernel_rfl
theorem aJt s d i u0_4 u0_3:Lok (aNp s d i u0_4 u0_3) (nX s d i u0_4 u0_3) (aA5 O aE) (aNq s d i u0_4 u0_3):=by
 rintro ⟨j,c⟩ l u ⟨rfl,rfl⟩;simp only [nX,aA5,zd,zr];refine zG ?_;try simp only [evs,tys]
 apply Imp.cnd
 ·refine zX aI kG fun b _ => ?_;try simp only [evs,tys]
  refine Imp.gcall (f:=aA) (fu:=fun a=>[(11,[(i6 b.kind),(.str b.alias),(.str b.name),(zq aC b.args),(zq aF b.dirs),(.str b.on_),(zq aI b.sels)]),(4,[(zq aH s.defs),(.str s.query),(.str s.mutation)])]::cN d b u0_4 u0_3 a) (fun a h=>by first | exact jC rfl rfl (by first | rfl | (simp only [zes,tys];rfl)) (bH h) | (have e:=bH h;simp only [evs,tys,evl,cN] at e;exact jC rfl rfl (by first | rfl | (simp only [zes,tys];rfl)) e)) zK (fun a=>by first | rfl | (simp only [cN,evs,tys];first | rfl | (cases w<;>rfl))) fun o m => ?_;try simp only [aA,cN,evs,tys]
  apply Imp.cnd
  ·refine zC rfl fun g _ => ?_;try simp only [zes,evs,tys]
   refine Imp.gcall (f:=aA) (fu:=fun a=>[(11,[(i6 b.kind),(.str b.alias),(.str b.name),(zq aC b.args),(zq aF b.dirs),(.str b.on_),(zq aI b.sels)]),(4,[(zq aH s.defs),(.str s.query),(.str s.mutation)])]::dF s g b.sels u0_4 u0_3 a) (fun a h=>by first | exact jC rfl rfl (by first | rfl | (simp only [zes,tys];rfl)) (bH h) | (have e:=bH h;simp only [evs,tys,evl,dF] at e;exact jC rfl rfl (by first | rfl | (simp only [zes,tys];rfl)) e)) zK (fun a=>by first | rfl | (simp only [dF,evs,tys];first | rfl | (cases w<;>rfl))) fun n k => ?_;try simp only [aA,dF,evs,tys]
   apply Imp.cnd;·exact zB ⟨c,zE⟩
   ·exact zN
  ·exact zB ⟨c,zE⟩
 ·exact zB ⟨c,zE⟩
theorem aNr s a b u0_4 u0_3:Imp (xT s a b u0_4 u0_3) (aA6 O aE s a b u0_4 u0_3) (fun r v=>v=(aA r,(dF s a b u0_4 u0_3 r))):=by
 simp only [xT,aA6,zd,zr];try simp only [evs,tys]
 refine zL (aJt s a b u0_4 u0_3) ?_;rintro c _ ⟨d,rfl⟩;refine zH ?_;try simp only [evs,tys]
 exact Imp.some (by first | rfl | simp only [zes,dF,evs,tys,evl])
theorem aNs {s a b u0_4 u0_3 r} (h:xT s a b u0_4 u0_3=some r):sR s a b u0_4 u0_3=some r:=zV aD (aNr s a b u0_4 u0_3) Tryz.func137 (aPJ _ _ s a b u0_4 u0_3) h
abbrev fW:List Sh:=[(.func 105 [] [(.ptr 1 5 0)]),(.ptr 0 3 0),(.ptr 0 4 0),.bool,sf,n6,n6,sf,sf,sf,.str,.str]
def xU (O:Orc) (f:LBs):bL:=fun b c=>cnd (chkL fW b) (cnd (chkU [[(5,[(.func 42 [] [])]),(4,[sf,sf]),(3,[sf,.str,.str])]] c)
 (cnd (decide ((iv b 6)<(iv b 5)))
 (bnd (ix 5 (zs b 4) (zn b 6)) fun d=>cnd (chk (.ref shOp) d)
 (aQ O 68 [(.agg [(zs b 9),(zt b 10),(zt b 11)]),(.agg [(zn (rf d) 0),(zt (rf d) 1),(zs (rf d) 2),(zs (rf d) 3),(zs (rf d) 4)])] fun e=>cnd (chk .str e)
 (bnd (O 137 [(.agg [(zs b 9),(zt b 10),(zt b 11)]),(.str (strV e)),(zs (rf d) 4),(.func (.func 105) [] [(.ptr 2 5 0)])] [[(8,[(zn (rf d) 0),(zt (rf d) 1),(zs (rf d) 2),(zs (rf d) 3),(zs (rf d) 4)]),(4,[(zs b 7),(zs b 8)]),(3,[(zs b 9),(zt b 10),(zt b 11)])],[(5,[(.func (.func 42) [] [])]),(4,[(zs (bx c 0 1) 0),(zs (bx c 0 1) 1)]),(3,[(zs (bx c 0 2) 0),(zt (bx c 0 2) 1),(zt (bx c 0 2) 2)])]]) fun a=>cnd (chkU [[(8,[n6,.str,sf,sf,sf]),(4,[sf,sf]),(3,[sf,.str,.str])],[(5,[(.func 42 [] [])]),(4,[sf,sf]),(3,[sf,.str,.str])]] a.2) (cnd (chk .bool a.1)
 (cnd (!(bG a.1))
 (some (.ret,[(.func (.func 105) [] [(.ptr 1 5 0)]),(.ptr 0 3 0),(.ptr 0 4 0),(.bool false),(zs b 4),(zn b 5),(zn b 6),(zs (bx a.2 0 1) 0),(zs (bx a.2 0 1) 1),(zs (bx a.2 0 2) 0),(zt (bx a.2 0 2) 1),(zt (bx a.2 0 2) 2)],[[(5,[(.func (.func 42) [] [])]),(4,[(zs (bx a.2 1 1) 0),(zs (bx a.2 1 1) 1)]),(3,[(zs (bx a.2 1 2) 0),(zt (bx a.2 1 2) 1),(zt (bx a.2 1 2) 2)])]]))
 (some (.nrm,[(.func (.func 105) [] [(.ptr 1 5 0)]),(.ptr 0 3 0),(.ptr 0 4 0),(zb b 3),(zs b 4),(zn b 5),(i6 (w6 ((iv b 6)+1))),(zs (bx a.2 0 1) 0),(zs (bx a.2 0 1) 1),(zs (bx a.2 0 2) 0),(zt (bx a.2 0 2) 1),(zt (bx a.2 0 2) 2)],[[(5,[(.func (.func 42) [] [])]),(4,[(zs (bx a.2 1 1) 0),(zs (bx a.2 1 1) 1)]),(3,[(zs (bx a.2 1 2) 0),(zt (bx a.2 1 2) 1),(zt (bx a.2 1 2) 2)])]]))) none) none) none) none)
 (some (.brk 0,(pu (rb fW b) 0 (.func (.func 105) [] [(.ptr 1 5 0)])),[[(5,[(.func (.func 42) [] [])]),(4,[(zs (bx c 0 1) 0),(zs (bx c 0 1) 1)]),(3,[(zs (bx c 0 2) 0),(zt (bx c 0 2) 1),(zt (bx c 0 2) 2)])]]))) none) none
abbrev fX:List Sh:=[(.func 105 [] [(.ptr 1 5 0)]),(.ptr 0 3 0),.bool,sf,n6,n6,sf,sf,sf,.str,.str]
def xV (O:Orc) (e:LBs):bL:=fun b c=>cnd (chkL fX b) (cnd (chkU [[(5,[(.func 42 [] [])]),(4,[sf,sf]),(3,[sf,.str,.str])]] c)
 (cnd (decide ((iv b 5)<(iv b 4)))
 (bnd (ix 4 (zs b 3) (zn b 5)) fun d=>cnd (chk (.ref gW) d)
 (bnd (O 137 [(.agg [(zs b 8),(zt b 9),(zt b 10)]),(zt (rf d) 1),(zs (rf d) 3),(.func (.func 105) [] [(.ptr 2 5 0)])] [[(10,[(zt (rf d) 0),(zt (rf d) 1),(zs (rf d) 2),(zs (rf d) 3)]),(4,[(zs b 6),(zs b 7)]),(3,[(zs b 8),(zt b 9),(zt b 10)])],[(5,[(.func (.func 42) [] [])]),(4,[(zs (bx c 0 1) 0),(zs (bx c 0 1) 1)]),(3,[(zs (bx c 0 2) 0),(zt (bx c 0 2) 1),(zt (bx c 0 2) 2)])]]) fun a=>cnd (chkU [[(10,[.str,.str,sf,sf]),(4,[sf,sf]),(3,[sf,.str,.str])],[(5,[(.func 42 [] [])]),(4,[sf,sf]),(3,[sf,.str,.str])]] a.2) (cnd (chk .bool a.1)
 (cnd (!(bG a.1))
 (some (.ret,[(.func (.func 105) [] [(.ptr 1 5 0)]),(.ptr 0 3 0),(.bool false),(zs b 3),(zn b 4),(zn b 5),(zs (bx a.2 0 1) 0),(zs (bx a.2 0 1) 1),(zs (bx a.2 0 2) 0),(zt (bx a.2 0 2) 1),(zt (bx a.2 0 2) 2)],[[(5,[(.func (.func 42) [] [])]),(4,[(zs (bx a.2 1 1) 0),(zs (bx a.2 1 1) 1)]),(3,[(zs (bx a.2 1 2) 0),(zt (bx a.2 1 2) 1),(zt (bx a.2 1 2) 2)])]]))
 (some (.nrm,[(.func (.func 105) [] [(.ptr 1 5 0)]),(.ptr 0 3 0),(zb b 2),(zs b 3),(zn b 4),(i6 (w6 ((iv b 5)+1))),(zs (bx a.2 0 1) 0),(zs (bx a.2 0 1) 1),(zs (bx a.2 0 2) 0),(zt (bx a.2 0 2) 1),(zt (bx a.2 0 2) 2)],[[(5,[(.func (.func 42) [] [])]),(4,[(zs (bx a.2 1 1) 0),(zs (bx a.2 1 1) 1)]),(3,[(zs (bx a.2 1 2) 0),(zt (bx a.2 1 2) 1),(zt (bx a.2 1 2) 2)])]]))) none) none) none)
 (some (.brk 2,(pu (rb fX b) 0 (.func (.func 105) [] [(.ptr 1 5 0)])),[[(5,[(.func (.func 42) [] [])]),(4,[(zs (bx c 0 1) 0),(zs (bx c 0 1) 1)]),(3,[(zs (bx c 0 2) 0),(zt (bx c 0 2) 1),(zt (bx c 0 2) 2)])]]))) none) none
def xW (O:Orc) (c:LBs) (s:GSchema) (d:GDoc) (u0_4:GDoc) (u0_3:GSchema):Option (PV×UP) :=
 bnd (c (xU O c) [(.func (.func 105) [] [(.ptr 1 5 0)]),(.ptr 0 3 0),(.ptr 0 4 0),(.bool false),(zq aU d.ops),(i6 (List.length (List.map aU d.ops):Int)),(i6 0),(zq aU d.ops),(zq aG d.frags),(zq aH s.defs),(.str s.query),(.str s.mutation)] [[(5,[(.func (.func 42) [] [])]),(4,[(zq aU u0_4.ops),(zq aG u0_4.frags)]),(3,[(zq aH u0_3.defs),(.str u0_3.query),(.str u0_3.mutation)])]]) fun a =>
 exIs a.1 (some 0) (cnd (chkL fW a.2.1) (cnd (chkU [[(5,[(.func 42 [] [])]),(4,[sf,sf]),(3,[sf,.str,.str])]] a.2.2)
 (bnd (c (xV O c) [(.func (.func 105) [] [(.ptr 1 5 0)]),(.ptr 0 3 0),(zb a.2.1 3),(zs a.2.1 8),(i6 (List.length (ev a.2.1 8):Int)),(i6 0),(zs a.2.1 7),(zs a.2.1 8),(zs a.2.1 9),(zt a.2.1 10),(zt a.2.1 11)] [[(5,[(.func (.func 42) [] [])]),(4,[(zs (bx a.2.2 0 1) 0),(zs (bx a.2.2 0 1) 1)]),(3,[(zs (bx a.2.2 0 2) 0),(zt (bx a.2.2 0 2) 1),(zt (bx a.2.2 0 2) 2)])]]) fun b =>
 exIs b.1 (some 2) (cnd (chkL fX b.2.1) (cnd (chkU [[(5,[(.func 42 [] [])]),(4,[sf,sf]),(3,[sf,.str,.str])]] b.2.2)
 (some ((.bool true),[[(5,[(.func (.func 42) [] [])]),(4,[(zs (bx b.2.2 0 1) 0),(zs (bx b.2.2 0 1) 1)]),(3,[(zs (bx b.2.2 0 2) 0),(zt (bx b.2.2 0 2) 1),(zt (bx b.2.2 0 2) 2)])]])) none) none)
 (exIs b.1 none (cnd (chkL fX b.2.1) (cnd (chkU [[(5,[(.func 42 [] [])]),(4,[sf,sf]),(3,[sf,.str,.str])]] b.2.2)
 (some ((zb b.2.1 2),[[(5,[(.func (.func 42) [] [])]),(4,[(zs (bx b.2.2 0 1) 0),(zs (bx b.2.2 0 1) 1)]),(3,[(zs (bx b.2.2 0 2) 0),(zt (bx b.2.2 0 2) 1),(zt (bx b.2.2 0 2) 2)])]])) none) none)
 (none))) none) none)
 (exIs a.1 none (cnd (chkL fW a.2.1) (cnd (chkU [[(5,[(.func 42 [] [])]),(4,[sf,sf]),(3,[sf,.str,.str])]] a.2.2)
 (some ((zb a.2.1 3),[[(5,[(.func (.func 42) [] [])]),(4,[(zs (bx a.2.2 0 1) 0),(zs (bx a.2.2 0 1) 1)]),(3,[(zs (bx a.2.2 0 2) 0),(zt (bx a.2.2 0 2) 1),(zt (bx a.2.2 0 2) 2)])]])) none) none)
 (none))
noncomputable def pK (s:GSchema) (d:GDoc) (u0_4:GDoc) (u0_3:GSchema):Int->Option (Int⊕(Unit⊕Unit))
 | a =>
 cnd (decide (a<(List.length d.ops:Int)))
  (bnd (nthI d.ops a) fun b =>
  bnd (aJl s b) fun e =>
  bnd (sR s e b.sels u0_4 u0_3) fun c =>
  cnd (!c)
  (some (.inr (.inr ())))
  (some (.inl (IntKind.wrap .i64 (a+1)))))
  (some (.inr (.inl ())))
abbrev uW (s:GSchema) (d:GDoc) (u0_4:GDoc) (u0_3:GSchema) (a:PV):List PV:=[(.func (.func 105) [] [(.ptr 1 5 0)]),(.ptr 0 3 0),(.ptr 0 4 0),(.bool false),(zq aU d.ops),(i6 (List.length d.ops:Int)),a,(zq aU d.ops),(zq aG d.frags),(zq aH s.defs),(.str s.query),(.str s.mutation)]
abbrev aKG (s:GSchema) (d:GDoc) (u0_4:GDoc) (u0_3:GSchema) (st:Int) (l:List PV) (u:UP):Prop:=l=(uW s d u0_4 u0_3 (i6 st))/\u=[[(5,[(.func (.func 42) [] [])]),(4,[(zq aU u0_4.ops),(zq aG u0_4.frags)]),(3,[(zq aH u0_3.defs),(.str u0_3.query),(.str u0_3.mutation)])]]
abbrev aKH (s:GSchema) (d:GDoc) (u0_4:GDoc) (u0_3:GSchema) (p:Unit⊕Unit) (r:EU):Prop:=elim p (fun (p:Unit)=>∃ (b:Int),r=(Ex.brk 0,(uW s d u0_4 u0_3 (i6 b)),[[(5,[(.func (.func 42) [] [])]),(4,[(zq aU u0_4.ops),(zq aG u0_4.frags)]),(3,[(zq aH u0_3.defs),(.str u0_3.query),(.str u0_3.mutation)])]])) (fun (p:Unit)=>∃ (a:Int),r=(Ex.ret,(uW s d u0_4 u0_3 (i6 a)),[[(5,[(.func (.func 42) [] [])]),(4,[(zq aU u0_4.ops),(zq aG u0_4.frags)]),(3,[(zq aH u0_3.defs),(.str u0_3.query),(.str u0_3.mutation)])]]))
noncomputable def pL (s:GSchema) (d:GDoc) (u0_4:GDoc) (u0_3:GSchema):Int->Option (Int⊕(Unit⊕Unit))
 | a =>
 cnd (decide (a<(List.length d.frags:Int)))
  (bnd (nthI d.frags a) fun b =>
  bnd (sR s b.on_ b.sels u0_4 u0_3) fun c =>
  cnd (!c)
  (some (.inr (.inr ())))
  (some (.inl (IntKind.wrap .i64 (a+1)))))
  (some (.inr (.inl ())))
abbrev uX (s:GSchema) (d:GDoc) (u0_4:GDoc) (u0_3:GSchema) (a:PV):List PV:=[(.func (.func 105) [] [(.ptr 1 5 0)]),(.ptr 0 3 0),(.bool false),(zq aG d.frags),(i6 (List.length d.frags:Int)),a,(zq aU d.ops),(zq aG d.frags),(zq aH s.defs),(.str s.query),(.str s.mutation)]
abbrev aKI (s:GSchema) (d:GDoc) (u0_4:GDoc) (u0_3:GSchema) (st:Int) (l:List PV) (u:UP):Prop:=l=(uX s d u0_4 u0_3 (i6 st))/\u=[[(5,[(.func (.func 42) [] [])]),(4,[(zq aU u0_4.ops),(zq aG u0_4.frags)]),(3,[(zq aH u0_3.defs),(.str u0_3.query),(.str u0_3.mutation)])]]
abbrev aKJ (s:GSchema) (d:GDoc) (u0_4:GDoc) (u0_3:GSchema) (p:Unit⊕Unit) (r:EU):Prop:=elim p (fun (p:Unit)=>∃ (b:Int),r=(Ex.brk 2,(uX s d u0_4 u0_3 (i6 b)),[[(5,[(.func (.func 42) [] [])]),(4,[(zq aU u0_4.ops),(zq aG u0_4.frags)]),(3,[(zq aH u0_3.defs),(.str u0_3.query),(.str u0_3.mutation)])]])) (fun (p:Unit)=>∃ (a:Int),r=(Ex.ret,(uX s d u0_4 u0_3 (i6 a)),[[(5,[(.func (.func 42) [] [])]),(4,[(zq aU u0_4.ops),(zq aG u0_4.frags)]),(3,[(zq aH u0_3.defs),(.str u0_3.query),(.str u0_3.mutation)])]]))
noncomputable def aA7 (s:GSchema) (d:GDoc) (u0_4:GDoc) (u0_3:GSchema):Option Bool :=
 bnd (aY (pK s d u0_4 u0_3) 0) fun a=>elim a
 (fun c =>
 bnd (aY (pL s d u0_4 u0_3) 0) fun b=>elim b
 (fun e =>
 some true)
 (fun e =>
 some false))
 (fun c =>
 some false)
def aNt:Decs:={decs:=[(16,(.ref shOp)),(21,.str),(25,.bool),(33,(.ref gW)),(41,.bool)],ups:=[(25,[[(8,[n6,.str,sf,sf,sf]),(4,[sf,sf]),(3,[sf,.str,.str])],[(5,[(.func 42 [] [])]),(4,[sf,sf]),(3,[sf,.str,.str])]]),(41,[[(10,[.str,.str,sf,sf]),(4,[sf,sf]),(3,[sf,.str,.str])],[(5,[(.func 42 [] [])]),(4,[sf,sf]),(3,[sf,.str,.str])]])],loops:=[(2,[(4,2),(3,3)],⟨fW,[[(5,[(.func 42 [] [])]),(4,[sf,sf]),(3,[sf,.str,.str])]],[(some 0,fW,[[(5,[(.func 42 [] [])]),(4,[sf,sf]),(3,[sf,.str,.str])]]),(none,fW,[[(5,[(.func 42 [] [])]),(4,[sf,sf]),(3,[sf,.str,.str])]])]⟩),(8,[(4,2),(3,3)],⟨fX,[[(5,[(.func 42 [] [])]),(4,[sf,sf]),(3,[sf,.str,.str])]],[(some 2,fX,[[(5,[(.func 42 [] [])]),(4,[sf,sf]),(3,[sf,.str,.str])]]),(none,fX,[[(5,[(.func 42 [] [])]),(4,[sf,sf]),(3,[sf,.str,.str])]])]⟩)]}
theorem aNu O a s d u0_4 u0_3:eW 70 aNt Tryz.f70 O a [(eS s),(eD d),(.func (.func 105) [] [(.ptr 1 5 0)])] [[(5,[(.func (.func 42) [] [])]),(4,[(zq aU u0_4.ops),(zq aG u0_4.frags)]),(3,[(zq aH u0_3.defs),(.str u0_3.query),(.str u0_3.mutation)])]]=xW O a s d u0_4 u0_3:=by kernel_rfl
theorem aHN s d u0_4 u0_3:Lok (aKG s d u0_4 u0_3) (pK s d u0_4 u0_3) (xU O aE) (aKH s d u0_4 u0_3):=by
 rintro c l u ⟨rfl,rfl⟩;simp only [pK,xU,zd,zr];refine zG ?_;try simp only [evs,tys]
 apply Imp.cnd
 ·refine zX aU aDo fun b _ => ?_;try simp only [evs,tys]
  refine zC rfl fun e _ => ?_;try simp only [zes,evs,tys]
  refine Imp.gcall (f:=aA) (fu:=fun a=>[(8,[(i6 b.kind),(.str b.name),(zq bC b.vars),(zq aF b.dirs),(zq aI b.sels)]),(4,[(zq aU d.ops),(zq aG d.frags)]),(3,[(zq aH s.defs),(.str s.query),(.str s.mutation)])]::dF s e b.sels u0_4 u0_3 a) (fun a h=>by first | exact jC rfl rfl (by first | rfl | (simp only [zes,tys];rfl)) (bH h) | (have g:=bH h;simp only [evs,tys,evl,dF] at g;exact jC rfl rfl (by first | rfl | (simp only [zes,tys];rfl)) g)) zK (fun a=>by first | rfl | (simp only [dF,evs,tys];first | rfl | (cases w<;>rfl))) fun j i => ?_;try simp only [aA,dF,evs,tys]
  apply Imp.cnd;·exact zT ⟨c,zE⟩
  ·exact zN
 ·exact zB ⟨c,zE⟩
theorem aHO s d u0_4 u0_3:Lok (aKI s d u0_4 u0_3) (pL s d u0_4 u0_3) (xV O aE) (aKJ s d u0_4 u0_3):=by
 rintro c l u ⟨rfl,rfl⟩;simp only [pL,xV,zd,zr];refine zG ?_;try simp only [evs,tys]
 apply Imp.cnd
 ·refine zX aG iS fun b _ => ?_;try simp only [evs,tys]
  refine Imp.gcall (f:=aA) (fu:=fun a=>[(10,[(.str b.name),(.str b.on_),(zq aF b.dirs),(zq aI b.sels)]),(4,[(zq aU d.ops),(zq aG d.frags)]),(3,[(zq aH s.defs),(.str s.query),(.str s.mutation)])]::dF s b.on_ b.sels u0_4 u0_3 a) (fun a h=>by first | exact jC rfl rfl (by first | rfl | (simp only [zes,tys];rfl)) (bH h) | (have e:=bH h;simp only [evs,tys,evl,dF] at e;exact jC rfl rfl (by first | rfl | (simp only [zes,tys];rfl)) e)) zK (fun a=>by first | rfl | (simp only [dF,evs,tys];first | rfl | (cases w<;>rfl))) fun i g => ?_;try simp only [aA,dF,evs,tys]
  apply Imp.cnd;·exact zT ⟨c,zE⟩
  ·exact zN
 ·exact zB ⟨c,zE⟩
theorem aKK s d u0_4 u0_3:Imp (aA7 s d u0_4 u0_3) (xW O aE s d u0_4 u0_3) (fun r v=>v=(aA r,(iH s d u0_4 u0_3 r))):=by
 simp only [aA7,xW,zd,zr];try simp only [evs,tys]
 refine zL (aHN s d u0_4 u0_3) ?_;rintro (p | p) e b
 ·try simp only [aK,aM]
  obtain ⟨g,rfl⟩:=b;refine zH ?_;try simp only [evs,tys]
  refine zL (aHO s d u0_4 u0_3) ?_;rintro (p | p) f a
  ·try simp only [aK,aM]
   obtain ⟨i,rfl⟩:=a;refine zH ?_;try simp only [evs,tys]
   exact Imp.some (by first | rfl | simp only [zes,iH,evs,tys,evl])
  ·try simp only [aK,aM]
   obtain ⟨h,rfl⟩:=a;refine Imp.exMiss rfl ?_;refine zH ?_;try simp only [evs,tys]
   exact Imp.some (by first | rfl | simp only [zes,iH,evs,tys,evl])
 ·try simp only [aK,aM]
  obtain ⟨c,rfl⟩:=b;refine Imp.exMiss rfl ?_;refine zH ?_;try simp only [evs,tys]
  exact Imp.some (by first | rfl | simp only [zes,iH,evs,tys,evl])
theorem aKL {s d u0_4 u0_3 r} (h:aA7 s d u0_4 u0_3=some r):aL9 s d u0_4 u0_3=some r:=zV aD (aKK s d u0_4 u0_3) Tryz.func70 (aNu _ _ s d u0_4 u0_3) h
def lW (O:Orc) (b:LBs) (s:GSchema) (d:GDoc):Option (PV×UP) :=
 bnd (O 70 [(eS s),(eD d),(.func (.func 105) [] [(.ptr 1 5 0)])] [[(5,[(.func (.func 42) [] [])]),(4,[(zq aU d.ops),(zq aG d.frags)]),(3,[(zq aH s.defs),(.str s.query),(.str s.mutation)])]]) fun a=>cnd (chkU [[(5,[(.func 42 [] [])]),(4,[sf,sf]),(3,[sf,.str,.str])]] a.2) (cnd (chk .bool a.1)
 (some ((.bool (bG a.1)),[])) none) none
noncomputable def jH (s:GSchema) (d:GDoc):Option Bool :=
 bnd (aL9 s d d s) fun a =>
 some a
def aDD:Decs:={decs:=[(10,.bool)],ups:=[(10,[[(5,[(.func 42 [] [])]),(4,[sf,sf]),(3,[sf,.str,.str])]])]}
theorem aDE O a s d:eW 40 aDD Tryz.f40 O a [(eS s),(eD d),(.func (.func 42) [] [])] []=lW O a s d:=by kernel_rfl
theorem aCE s d:Imp (jH s d) (lW O aE s d) (Ri aA):=by
 simp only [jH,lW,zd,zr];try simp only [evs,tys]
 refine Imp.gcall (f:=aA) (fu:=fun a=>iH s d d s a) (fun a h=>by first | exact bH h | (have b:=bH h;simp only [evs,tys,evl,iH] at b;exact b)) zK (fun a=>by first | rfl | (simp only [iH,evs,tys];first | rfl | (cases w<;>rfl))) fun e c => ?_;try simp only [aA,iH,evs,tys]
 exact zR
theorem aCF {s d r} (h:jH s d=some r):qU s d=some r:=zV aD (aCE s d) Tryz.func40 (aDE _ _ s d) h
def aA8 (O:Orc) (f:LBs) (s:GSchema) (d:GDoc) (n:Int):Option (PV×UP) :=
 cnd (n==12)
 (aQ O 38 [(eD d),(.func (.func 39) [] [])] fun c=>cnd (chk .bool c)
 (cnd (bG c)
 (aQ O 40 [(eS s),(eD d),(.func (.func 39) [] [])] fun x3=>cnd (chk .bool x3)
 (some ((.bool (bG x3)),[])) none)
 (some ((.bool false),[]))) none)
 (cnd (n==13)
 (aQ O 38 [(eD d),(.func (.func 41) [] [])] fun b=>cnd (chk .bool b)
 (some ((.bool (bG b)),[])) none)
 (cnd (n==14)
 (aQ O 38 [(eD d),(.func (.func 42) [] [])] fun e=>cnd (chk .bool e)
 (cnd (bG e)
 (aQ O 40 [(eS s),(eD d),(.func (.func 42) [] [])] fun a=>cnd (chk .bool a)
 (some ((.bool (bG a)),[])) none)
 (some ((.bool false),[]))) none)
 (some ((.bool false),[]))))
noncomputable def oY (s:GSchema) (d:GDoc) (n:Int):Option Bool :=
 cnd (n==12)
 (bnd (aF3 d) fun e =>
 cnd e
 (bnd (xI s d) fun c =>
 some c)
 (some false))
 (cnd (n==13)
 (bnd (xJ d) fun b =>
 some b)
 (cnd (n==14)
 (bnd (xK d) fun f =>
 cnd f
 (bnd (qU s d) fun a =>
 some a)
 (some false))
 (some false)))
def aPK:Decs:={decs:=[(11,.bool),(15,.bool),(20,.bool),(24,.bool),(28,.bool)]}
theorem aPL O a s d n:eW 15 aPK Tryz.f15 O a [(eS s),(eD d),(i6 n)] []=aA8 O a s d n:=by kernel_rfl
theorem aNv s d n:Imp (oY s d n) (aA8 O aE s d n) (Ri aA):=by
 simp only [oY,aA8,zd,zr];try simp only [evs,tys]
 apply Imp.cnd
 ·refine zC rfl fun e _ => ?_;try simp only [zes,evs,tys]
  apply Imp.cnd
  ·refine zC rfl fun c _ => ?_;try simp only [zes,evs,tys]
   exact zR
  ·exact zR
 ·apply Imp.cnd
  ·refine zC rfl fun b _ => ?_;try simp only [zes,evs,tys]
   exact zR
  ·apply Imp.cnd
   ·refine zC rfl fun f _ => ?_;try simp only [zes,evs,tys]
    apply Imp.cnd
    ·refine zC rfl fun a _ => ?_;try simp only [zes,evs,tys]
     exact zR
    ·exact zR
   ·exact zR
theorem xX {s d n r} (h:oY s d n=some r):dQ s d n=some r:=zV aD (aNv s d n) Tryz.func15 (aPL _ _ s d n) h
def aGo (O:Orc) (h:LBs):bL:=fun b g=>cnd (chkL [sf,st',n6] b) (cnd (chkU [] g)
 (cnd (decide ((iv b 2)<(List.length (ev b 0):Int)))
 (bnd (ix 7 (zs b 0) (zn b 2)) fun a=>cnd (chk (.ref rJ) a)
 (aQ O 103 [(zs (rf a) 3)] fun d=>cnd (chk sf d)
 (aQ O 36 [(zs (rf a) 4)] fun c=>cnd (chk sf c)
 (aQ O 37 [(zs (rf a) 6)] fun e=>cnd (chk sf e)
 (bnd (apd 7 (zo b 1) (.slice [(.agg [(zn (rf a) 0),(zt (rf a) 1),(zt (rf a) 2),(.slice (esV d) [] false),(.slice (esV c) [] false),(zt (rf a) 5),(.slice (esV e) [] false)])] [] true)) fun f=>cnd (chk st' f)
 (some (.nrm,[(zs b 0),(.slice (esV f) [] true),(i6 (w6 ((iv b 2)+1)))],[])) none) none) none) none) none)
 (some (.brk 0,[(zs b 0),(zo b 1),(zn b 2)],[]))) none) none
def aGp (O:Orc) (b:LBs) (c:List GSel):Option (PV×UP) :=
 bnd (b (aGo O b) [(zq aI c),(.slice [] [] true),(i6 0)] []) fun a =>
 exIs a.1 (some 0) (cnd (chkL [sf,st',n6] a.2.1) (cnd (chkU [] a.2.2)
 (some ((zs a.2.1 1),[])) none) none)
 (none)
noncomputable def lX (h:List GSel):((List GSel)×Int)->Option (((List GSel)×Int)⊕((List GSel)))
 | (b,c) =>
 cnd (decide (c<(List.length h:Int)))
  (bnd (nthI h c) fun a =>
  bnd (wC a.args) fun g =>
  bnd (aSI a.dirs) fun d =>
  bnd (aNf a.sels) fun e =>
  bnd (tapp b [(GSel.mk a.kind a.alias a.name g d a.on_ e)]) fun f =>
  some (.inl (f,(IntKind.wrap .i64 (c+1)))))
  (some (.inr b))
abbrev aSY (a:List GSel) (st:(List GSel)×Int) (l:List PV) (u:UP):Prop:=l=[(zq aI a),(zp aI st.1),(i6 st.2)]/\u=[]
abbrev aSZ (b:List GSel) (p:(List GSel)) (r:EU):Prop:=(fun (p:(List GSel))=>∃ (a:Int),r=(Ex.brk 0,[(zq aI b),(zp aI p),(i6 a)],[])) p
noncomputable def aA9 (b:List GSel):Option (List GSel) :=
 bnd (aY (lX b) ([],0)) fun a =>
 some a
def aW7:Decs:={decs:=[(14,(.ref rJ)),(18,sf),(21,sf),(24,sf),(31,st')],loops:=[(3,[],⟨[sf,st',n6],[],[(some 0,[sf,st',n6],[])]⟩)]}
theorem aW8 O a b:eW 37 aW7 Tryz.f37 O a [(zq aI b)] []=aGp O a b:=by kernel_rfl
theorem aNw d:Lok (aSY d) (lX d) (aGo O aE) (aSZ d):=by
 rintro ⟨c,b⟩ l u ⟨rfl,rfl⟩;simp only [lX,aGo,zd,zr];refine zG ?_;try simp only [evs,tys]
 apply Imp.cnd
 ·refine zX aI kG fun j _ => ?_;try simp only [evs,tys]
  refine zC rfl fun m _ => ?_;try simp only [zes,evs,tys]
  refine zC rfl fun g _ => ?_;try simp only [zes,evs,tys]
  refine zC rfl fun i _ => ?_;try simp only [zes,evs,tys]
  refine Imp.op (f:=fun a => .slice (List.map aI a) [] true) (fun a h=>pX (enc:=aI) zI zI (fun a=>by first | rfl | simp only [evs,tys,evc]) h) (fun a=>rfl) fun k e => ?_;try simp only [evs,tys]
  exact zN
 ·exact zB ⟨b,zE⟩
theorem aS0 b:Imp (aA9 b) (aGp O aE b) (Ri aB6):=by
 simp only [aA9,aGp,zd,zr];try simp only [evs,tys]
 refine zL (aNw b) ?_;rintro a _ ⟨c,rfl⟩;refine zH ?_;try simp only [evs,tys]
 exact zR
theorem aJu {a r} (h:aA9 a=some r):aNf a=some r:=zV aZF (aS0 a) Tryz.func37 (aW8 _ _ a) h
abbrev fM:List Sh:=[(.ptr 0 2 0),(.ptr 0 3 0),st',n6,sf,sf,sf,.str,.str]
def aDF (O:Orc) (g:LBs):bL:=fun a f=>cnd (chkL fM a) (cnd (chkU [] f)
 (cnd (decide ((iv a 3)<(List.length (ev a 4):Int)))
 (bnd (ix 5 (zs a 4) (zn a 3)) fun b=>cnd (chk (.ref shOp) b)
 (aQ O 116 [(.agg [(zs a 6),(zt a 7),(zt a 8)]),(.agg [(zn (rf b) 0),(zt (rf b) 1),(zs (rf b) 2),(zs (rf b) 3),(zs (rf b) 4)])] fun d=>cnd (chk .str d)
 (bnd (ix 5 (zs a 4) (zn a 3)) fun e=>cnd (chk (.ref shOp) e)
 (aQ O 115 [(.agg [(zs a 6),(zt a 7),(zt a 8)]),(.str (strV d)),(zs (rf e) 4),(zo a 2)] fun c=>cnd (chk st' c)
 (some (.nrm,(pu (pu (rb fM a) 2 (.slice (esV c) [] true)) 3 (i6 (w6 ((iv a 3)+1)))),[])) none) none) none) none)
 (some (.brk 0,(rb fM a),[]))) none) none
abbrev aBa:List Sh:=[(.ptr 0 2 0),(.ptr 0 3 0),st',n6,sf,sf,sf,.str,.str]
def aDG (O:Orc) (f:LBs):bL:=fun a c=>cnd (chkL aBa a) (cnd (chkU [] c)
 (cnd (decide ((iv a 3)<(List.length (ev a 5):Int)))
 (bnd (ix 4 (zs a 5) (zn a 3)) fun d=>cnd (chk (.ref gW) d)
 (bnd (ix 4 (zs a 5) (zn a 3)) fun b=>cnd (chk (.ref gW) b)
 (aQ O 115 [(.agg [(zs a 6),(zt a 7),(zt a 8)]),(zt (rf d) 1),(zs (rf b) 3),(zo a 2)] fun e=>cnd (chk st' e)
 (some (.nrm,(pu (pu (rb aBa a) 2 (.slice (esV e) [] true)) 3 (i6 (w6 ((iv a 3)+1)))),[])) none) none) none)
 (some (.brk 2,(rb aBa a),[]))) none) none
def aDH (O:Orc) (c:LBs) (s:GSchema) (d:GDoc):Option (PV×UP) :=
 bnd (c (aDF O c) [(.ptr 0 2 0),(.ptr 0 3 0),(.slice [] [] true),(i6 0),(zq aU d.ops),(zq aG d.frags),(zq aH s.defs),(.str s.query),(.str s.mutation)] []) fun a =>
 exIs a.1 (some 0) (cnd (chkL fM a.2.1) (cnd (chkU [] a.2.2)
 (bnd (c (aDG O c) [(.ptr 0 2 0),(.ptr 0 3 0),(zo a.2.1 2),(i6 0),(zs a.2.1 4),(zs a.2.1 5),(zs a.2.1 6),(zt a.2.1 7),(zt a.2.1 8)] []) fun b =>
 exIs b.1 (some 2) (cnd (chkL fM b.2.1) (cnd (chkU [] b.2.2)
 (some ((zs b.2.1 2),[])) none) none)
 (none)) none) none)
 (none)
noncomputable def mJ (s:GSchema) (d:GDoc):((List GSeineref13Spot)×Int)->Option (((List GSeineref13Spot)×Int)⊕((List GSeineref13Spot)))
 | (b,a) =>
 cnd (decide (a<(List.length d.ops:Int)))
  (bnd (nthI d.ops a) fun g =>
  bnd (aSJ s g) fun e =>
  bnd (nthI d.ops a) fun f =>
  bnd (aE5 s e f.sels b) fun c =>
  some (.inl (c,(IntKind.wrap .i64 (a+1)))))
  (some (.inr b))
abbrev aHb (s:GSchema) (d:GDoc) (a b:PV):List PV:=[(.ptr 0 2 0),(.ptr 0 3 0),a,b,(zq aU d.ops),(zq aG d.frags),(zq aH s.defs),(.str s.query),(.str s.mutation)]
abbrev aPM (s:GSchema) (d:GDoc) (st:(List GSeineref13Spot)×Int) (l:List PV) (u:UP):Prop:=l=(aHb s d (zp aJ st.1) (i6 st.2))/\u=[]
abbrev aPN (s:GSchema) (d:GDoc) (p:(List GSeineref13Spot)) (r:EU):Prop:=∃ (a:Int),r=(Ex.brk 0,(aHb s d (zp aJ p) (i6 a)),[])
noncomputable def mK (s:GSchema) (d:GDoc):((List GSeineref13Spot)×Int)->Option (((List GSeineref13Spot)×Int)⊕((List GSeineref13Spot)))
 | (a,b) =>
 cnd (decide (b<(List.length d.frags:Int)))
  (bnd (nthI d.frags b) fun f =>
  bnd (nthI d.frags b) fun c =>
  bnd (aE5 s f.on_ c.sels a) fun e =>
  some (.inl (e,(IntKind.wrap .i64 (b+1)))))
  (some (.inr a))
abbrev aHc (s:GSchema) (d:GDoc) (a b:PV):List PV:=[(.ptr 0 2 0),(.ptr 0 3 0),a,b,(zq aU d.ops),(zq aG d.frags),(zq aH s.defs),(.str s.query),(.str s.mutation)]
abbrev aPO (s:GSchema) (d:GDoc) (st:(List GSeineref13Spot)×Int) (l:List PV) (u:UP):Prop:=l=(aHc s d (zp aJ st.1) (i6 st.2))/\u=[]
abbrev aPP (s:GSchema) (d:GDoc) (p:(List GSeineref13Spot)) (r:EU):Prop:=∃ (a:Int),r=(Ex.brk 2,(aHc s d (zp aJ p) (i6 a)),[])
noncomputable def aCg (s:GSchema) (d:GDoc):Option (List GSeineref13Spot) :=
 bnd (aY (mJ s d) ([],0)) fun b =>
 bnd (aY (mK s d) (b,0)) fun a =>
 some a
def aS1:Decs:={decs:=[(20,(.ref shOp)),(22,.str),(26,(.ref shOp)),(30,st'),(42,(.ref gW)),(48,(.ref gW)),(52,st')],loops:=[(3,[(3,2),(2,3)],⟨fM,[],[(some 0,fM,[])]⟩),(7,[(3,2),(2,3)],⟨fM,[],[(some 2,fM,[])]⟩)]}
theorem aS2 O a s d:eW 58 aS1 Tryz.f58 O a [(eS s),(eD d)] []=aDH O a s d:=by kernel_rfl
theorem aKM s d:Lok (aPM s d) (mJ s d) (aDF O aE) (aPN s d):=by
 rintro ⟨b,a⟩ l u ⟨rfl,rfl⟩;simp only [mJ,aDF,zd,zr];refine zG ?_;try simp only [evs,tys]
 apply Imp.cnd
 ·refine zX aU aDo fun g _ => ?_;try simp only [evs,tys]
  refine zC rfl fun e _ => ?_;try simp only [zes,evs,tys]
  refine zX aU aDo fun f _ => ?_;try simp only [evs,tys]
  refine zC rfl fun c _ => ?_;try simp only [zes,evs,tys]
  exact zN
 ·exact zB ⟨a,zE⟩
theorem aKN s d:Lok (aPO s d) (mK s d) (aDG O aE) (aPP s d):=by
 rintro ⟨b,a⟩ l u ⟨rfl,rfl⟩;simp only [mK,aDG,zd,zr];refine zG ?_;try simp only [evs,tys]
 apply Imp.cnd
 ·refine zX aG iS fun f _ => ?_;try simp only [evs,tys]
  refine zX aG iS fun c _ => ?_;try simp only [evs,tys]
  refine zC rfl fun e _ => ?_;try simp only [zes,evs,tys]
  exact zN
 ·exact zB ⟨a,zE⟩
theorem aPQ s d:Imp (aCg s d) (aDH O aE s d) (Ri wA):=by
 simp only [aCg,aDH,zd,zr];try simp only [evs,tys]
 refine zL (aKM s d) ?_;rintro b _ ⟨e,rfl⟩;refine zH ?_;try simp only [evs,tys]
 refine zL (aKN s d) ?_;rintro a _ ⟨c,rfl⟩;refine zH ?_;try simp only [evs,tys]
 exact zR
theorem aPR {s d r} (h:aCg s d=some r):aB7 s d=some r:=zV aWV (aPQ s d) Tryz.func58 (aS2 _ _ s d) h
abbrev mL:List Sh:=[(.ptr 0 1 0),n6,st',n6,st',n6,sf,.str,.str]
def aDI (O:Orc) (g:LBs):bL:=fun a f=>cnd (chkL mL a) (cnd (chkU [] f)
 (cnd (decide ((iv a 5)<(List.length (ev a 4):Int)))
 (bnd (ix 1 (zs a 4) (zn a 5)) fun d=>cnd (chk (.ref .str) d)
 (aQ O 29 [(zs a 2),(.str (strV (refV d)))] fun b=>cnd (chk .bool b)
 (cnd (!(bG b))
 (bnd (ix 1 (zs a 4) (zn a 5)) fun c=>cnd (chk (.ref .str) c)
 (bnd (apd 1 (zo a 2) (.slice [(.str (strV (refV c)))] [] true)) fun e=>cnd (chk st' e)
 (some (.nrm,(pu (pu (rb mL a) 2 (.slice (esV e) [] true)) 5 (i6 (w6 ((iv a 5)+1)))),[])) none) none)
 (some (.nrm,(pu (rb mL a) 5 (i6 (w6 ((iv a 5)+1)))),[]))) none) none)
 (some (.brk 4,(rb mL a),[]))) none) none
abbrev uA:List Sh:=[(.ptr 0 1 0),n6,st',n6,sf,.str,.str]
def aDJ (O:Orc) (f:LBs):bL:=fun a e=>cnd (chkL uA a) (cnd (chkU [] e)
 (cnd (decide ((iv a 3)<(List.length (ev a 2):Int)))
 (bnd (ix 1 (zs a 2) (zn a 3)) fun c=>cnd (chk (.ref .str) c)
 (aQ O 166 [(.agg [(zs a 4),(zt a 5),(zt a 6)]),(.str (strV (refV c)))] fun d=>cnd (chk st' d)
 (bnd (f (aDI O f) [(.ptr 0 1 0),(zn a 1),(zo a 2),(zn a 3),(.slice (esV d) [] true),(i6 0),(zs a 4),(zt a 5),(zt a 6)] []) fun b =>
 exIs b.1 (some 4) (cnd (chkL [(.ptr 0 1 0),n6,st',n6,st',n6,sf,.str,.str] b.2.1) (cnd (chkU [] b.2.2)
 (some (.nrm,[(.ptr 0 1 0),(zn b.2.1 1),(zo b.2.1 2),(i6 (w6 ((iv b.2.1 3)+1))),(zs b.2.1 6),(zt b.2.1 7),(zt b.2.1 8)],[])) none) none)
 (none)) none) none)
 (some (.brk 2,(rb uA a),[]))) none) none
abbrev qE:List Sh:=[(.ptr 0 1 0),.any,n6,sf,.str,.str]
def aDK (O:Orc) (h:LBs):bL:=fun b g=>cnd (chkL qE b) (cnd (chkU [] g)
 (cnd (decide ((iv b 2)<(List.length (ev b 3):Int)))
 (bnd (ix 6 (zs b 3) (zn b 2)) fun f=>cnd (chk (.ref pY) f)
 (aQ O 166 [(.agg [(zs b 3),(zt b 4),(zt b 5)]),(zt (rf f) 1)] fun e=>cnd (chk st' e)
 (bnd (h (aDJ O h) [(.ptr 0 1 0),(zn b 2),(.slice (esV e) [] true),(i6 0),(zs b 3),(zt b 4),(zt b 5)] []) fun a =>
 exIs a.1 (some 2) (cnd (chkL [(.ptr 0 1 0),n6,st',n6,sf,.str,.str] a.2.1) (cnd (chkU [] a.2.2)
 (bnd (ix 6 (zs a.2.1 4) (zn a.2.1 1)) fun d=>cnd (chk (.ref pY) d)
 (aQ O 29 [(zs a.2.1 2),(zt (rf d) 1)] fun c=>cnd (chk .bool c)
 (cnd (bG c)
 (some (.ret,[(.ptr 0 1 0),(.bool false),(zn a.2.1 1),(zs a.2.1 4),(zt a.2.1 5),(zt a.2.1 6)],[]))
 (some (.nrm,[(.ptr 0 1 0),.bot,(i6 (w6 ((iv a.2.1 1)+1))),(zs a.2.1 4),(zt a.2.1 5),(zt a.2.1 6)],[]))) none) none) none) none)
 (none)) none) none)
 (some (.brk 0,(pu (rb qE b) 1 (gt b 1)),[]))) none) none
def aDL (O:Orc) (b:LBs) (s:GSchema):Option (PV×UP) :=
 bnd (b (aDK O b) [(.ptr 0 1 0),(.bool false),(i6 0),(zq aH s.defs),(.str s.query),(.str s.mutation)] []) fun a =>
 exIs a.1 (some 0) (cnd (chkL qE a.2.1) (cnd (chkU [] a.2.2)
 (some ((.bool true),[])) none) none)
 (exIs a.1 none (cnd (chkL [(.ptr 0 1 0),.bool,n6,sf,.str,.str] a.2.1) (cnd (chkU [] a.2.2)
 (some ((zb a.2.1 1),[])) none) none)
 (none))
noncomputable def qF (c:List Str):((List Str)×Int)->Option (((List Str)×Int)⊕((List Str)))
 | (b,a) =>
 cnd (decide (a<(List.length c:Int)))
  (bnd (nthI c a) fun e =>
  bnd (aCU b e) fun d =>
  cnd (!d)
  (bnd (nthI c a) fun f =>
  bnd (tapp b [f]) fun g =>
  some (.inl (g,(IntKind.wrap .i64 (a+1)))))
  (some (.inl (b,(IntKind.wrap .i64 (a+1))))))
  (some (.inr b))
abbrev aHd (s:GSchema) (c:Int) (a:Int) (b:List Str) (st:(List Str)×Int) (l:List PV) (u:UP):Prop:=l=[(.ptr 0 1 0),(i6 c),(zp PV.str st.1),(i6 a),(zp PV.str b),(i6 st.2),(zq aH s.defs),(.str s.query),(.str s.mutation)]/\u=[]
abbrev aPS (s:GSchema) (d:Int) (b:Int) (c:List Str) (p:(List Str)) (r:EU):Prop:=(fun (p:(List Str))=>∃ (a:Int),r=(Ex.brk 4,[(.ptr 0 1 0),(i6 d),(zp PV.str p),(i6 b),(zp PV.str c),(i6 a),(zq aH s.defs),(.str s.query),(.str s.mutation)],[])) p
noncomputable def qG (s:GSchema):((List Str)×Int)->Option (((List Str)×Int)⊕((List Str)))
 | (a,b) =>
 cnd (decide (b<(List.length a:Int)))
  (bnd (nthI a b) fun d =>
  bnd (aIe s d) fun e =>
  bnd (aY (qF e) (a,0)) fun c =>
  some (.inl (c,(IntKind.wrap .i64 (b+1)))))
  (some (.inr a))
abbrev aHe (s:GSchema) (a:Int) (st:(List Str)×Int) (l:List PV) (u:UP):Prop:=l=[(.ptr 0 1 0),(i6 a),(zp PV.str st.1),(i6 st.2),(zq aH s.defs),(.str s.query),(.str s.mutation)]/\u=[]
abbrev aPT (s:GSchema) (b:Int) (p:(List Str)) (r:EU):Prop:=(fun (p:(List Str))=>∃ (a:Int),r=(Ex.brk 2,[(.ptr 0 1 0),(i6 b),(zp PV.str p),(i6 a),(zq aH s.defs),(.str s.query),(.str s.mutation)],[])) p
noncomputable def aBb (s:GSchema):Int->Option (Int⊕(Unit⊕Unit))
 | a =>
 cnd (decide (a<(List.length s.defs:Int)))
  (bnd (nthI s.defs a) fun e =>
  bnd (aIe s e.name) fun f =>
  bnd (aY (qG s) (f,0)) fun b =>
  bnd (nthI s.defs a) fun c =>
  bnd (aCU b c.name) fun d =>
  cnd d
  (some (.inr (.inr ())))
  (some (.inl (IntKind.wrap .i64 (a+1)))))
  (some (.inr (.inl ())))
abbrev aBc (s:GSchema) (a b:PV):List PV:=[(.ptr 0 1 0),a,b,(zq aH s.defs),(.str s.query),(.str s.mutation)]
abbrev aPU (s:GSchema) (st:Int) (l:List PV) (u:UP):Prop:=∃ (a:PV),l=(aBc s a (i6 st))/\u=[]
abbrev aPV (s:GSchema) (p:Unit⊕Unit) (r:EU):Prop:=elim p (fun (p:Unit)=>∃ (c:PV),∃ (b:Int),r=(Ex.brk 0,(aBc s c (i6 b)),[])) (fun (p:Unit)=>∃ (a:Int),r=(Ex.ret,(aBc s (.bool false) (i6 a)),[]))
noncomputable def aCh (s:GSchema):Option Bool :=
 bnd (aY (aBb s) 0) fun a=>elim a
 (fun b =>
 some true)
 (fun b =>
 some false)
def aS3:Decs:={decs:=[(19,(.ref pY)),(22,st'),(32,(.ref .str)),(34,st'),(44,(.ref .str)),(46,.bool),(51,(.ref .str)),(54,st'),(59,(.ref pY)),(62,.bool)],loops:=[(2,[(1,3)],⟨qE,[],[(some 0,qE,[]),(none,[(.ptr 0 1 0),.bool,n6,sf,.str,.str],[])]⟩),(6,[(1,3)],⟨uA,[],[(some 2,uA,[])]⟩),(10,[(1,3)],⟨mL,[],[(some 4,mL,[])]⟩)]}
theorem aS4 O a s:eW 96 aS3 Tryz.f96 O a [(eS s)] []=aDL O a s:=by kernel_rfl
theorem aKO s d b c:∀ st l u,aHd s d b c st l u->Imp (qF c st) (aDI O aE l u) (kE (aHd s d b c) (aPS s d b c)):=by
 rintro ⟨g,e⟩ l u ⟨rfl,rfl⟩;simp only [qF,aDI,zd,zr];refine zG ?_;try simp only [evs,tys]
 apply Imp.cnd
 ·refine zX PV.str (fun _=>rfl) fun k _ => ?_;try simp only [evs,tys]
  refine zC rfl fun j _ => ?_;try simp only [zes,evs,tys]
  apply Imp.cnd
  ·refine zX PV.str (fun _=>rfl) fun m _ => ?_;try simp only [evs,tys]
   refine Imp.op (f:=fun a => .slice (List.map PV.str a) [] true) (fun a h=>pX (enc:=PV.str) zI zI (fun a=>by first | rfl | simp only [evs,tys,evc]) h) (fun a=>rfl) fun n i => ?_;try simp only [evs,tys]
   exact zN
  ·exact zN
 ·exact zB ⟨e,zE⟩
theorem aKP s a:∀ st l u,aHe s a st l u->Imp (qG s st) (aDJ O aE l u) (kE (aHe s a) (aPT s a)):=by
 rintro ⟨f,b⟩ l u ⟨rfl,rfl⟩;simp only [qG,aDJ,zd,zr];refine zG ?_;try simp only [evs,tys]
 apply Imp.cnd
 ·refine zX PV.str (fun _=>rfl) fun g _ => ?_;try simp only [evs,tys]
  refine zC rfl fun c _ => ?_;try simp only [zes,evs,tys]
  refine zL (aKO s a b c) ?_;rintro e _ ⟨d,rfl⟩;refine zH ?_;try simp only [evs,tys]
  exact zN
 ·exact zB ⟨b,zE⟩
theorem aKQ s:Lok (aPU s) (aBb s) (aDK O aE) (aPV s):=by
 rintro a l u ⟨g,rfl,rfl⟩;simp only [aBb,aDK,zd,zr];refine zG ?_;try simp only [evs,tys]
 apply Imp.cnd
 ·refine zX aH aB2 fun f _ => ?_;try simp only [evs,tys]
  refine zC rfl fun h _ => ?_;try simp only [zes,evs,tys]
  refine zL (aKP s a) ?_;rintro b _ ⟨c,rfl⟩;refine zH ?_;try simp only [evs,tys]
  refine zX aH aB2 fun d _ => ?_;try simp only [evs,tys]
  refine zC rfl fun e _ => ?_;try simp only [zes,evs,tys]
  apply Imp.cnd;·exact zT ⟨a,zE⟩
  ·exact Imp.some (kE.next ⟨_,zI,rfl⟩)
 ·exact zB ⟨_,a,zE⟩
theorem aPW s:Imp (aCh s) (aDL O aE s) (Ri aA):=by
 simp only [aCh,aDL,zd,zr];try simp only [evs,tys]
 refine Imp.bnd (Imp.loop (aKQ s) ⟨_,zI,rfl⟩) ?_;rintro (p | p) c a
 ·try simp only [aK,aM]
  obtain ⟨e,d,rfl⟩:=a;refine zH ?_;try simp only [evs,tys]
  exact zR
 ·try simp only [aK,aM]
  obtain ⟨b,rfl⟩:=a;refine Imp.exMiss rfl ?_;refine zH ?_;try simp only [evs,tys]
  exact zR
theorem aPX {s r} (h:aCh s=some r):aVr s=some r:=zV aD (aPW s) Tryz.func96 (aS4 _ _ s) h
abbrev mM:List Sh:=[(.ptr 0 2 0),st',n6,sf,sf]
def aDM (O:Orc) (f:LBs):bL:=fun a e=>cnd (chkL mM a) (cnd (chkU [] e)
 (cnd (decide ((iv a 2)<(List.length (ev a 1):Int)))
 (bnd (ix 1 (zs a 1) (zn a 2)) fun d=>cnd (chk (.ref .str) d)
 (aQ O 113 [(.agg [(zs a 3),(zs a 4)]),(.str (strV (refV d)))] fun b=>cnd (chk (.tup [gW,.bool]) b)
 (cnd (bG (tv b 1))
 (aQ O 183 [(zs (tg b 0) 3),(zo a 1)] fun c=>cnd (chk st' c)
 (some (.nrm,[(.ptr 0 2 0),(.slice (esV c) [] true),(i6 (w6 ((iv a 2)+1))),(zs a 3),(zs a 4)],[])) none)
 (some (.nrm,(pu (rb mM a) 2 (i6 (w6 ((iv a 2)+1)))),[]))) none) none)
 (some (.brk 0,(rb mM a),[]))) none) none
abbrev gY:List Sh:=[(.ptr 0 2 0),st',st',n6,sf,sf]
def aDN (O:Orc) (i:LBs):bL:=fun a d=>cnd (chkL gY a) (cnd (chkU [] d)
 (cnd (decide ((iv a 3)<(List.length (ev a 5):Int)))
 (bnd (ix 4 (zs a 5) (zn a 3)) fun h=>cnd (chk (.ref gW) h)
 (aQ O 29 [(zs a 1),(zt (rf h) 0)] fun c=>cnd (chk .bool c)
 (cnd (bG c)
 (bnd (ix 4 (zs a 5) (zn a 3)) fun g=>cnd (chk (.ref gW) g)
 (aQ O 29 [(zs a 2),(zt (rf g) 0)] fun b=>cnd (chk .bool b)
 (cnd (!(bG b))
 (bnd (ix 4 (zs a 5) (zn a 3)) fun f=>cnd (chk (.ref gW) f)
 (bnd (apd 1 (zo a 2) (.slice [(zt (rf f) 0)] [] true)) fun e=>cnd (chk st' e)
 (some (.nrm,(pu (pu (rb gY a) 2 (.slice (esV e) [] true)) 3 (i6 (w6 ((iv a 3)+1)))),[])) none) none)
 (some (.nrm,(pu (rb gY a) 3 (i6 (w6 ((iv a 3)+1)))),[]))) none) none)
 (some (.nrm,(pu (rb gY a) 3 (i6 (w6 ((iv a 3)+1)))),[]))) none) none)
 (some (.brk 2,(rb gY a),[]))) none) none
def aDO (O:Orc) (c:LBs) (d:GDoc) (f:List GSel):Option (PV×UP) :=
 aQ O 182 [(zq aI f)] fun e=>cnd (chk st' e)
 (bnd (c (aDM O c) [(.ptr 0 2 0),(.slice (esV e) [] true),(i6 0),(zq aU d.ops),(zq aG d.frags)] []) fun a =>
 exIs a.1 (some 0) (cnd (chkL mM a.2.1) (cnd (chkU [] a.2.2)
 (bnd (c (aDN O c) [(.ptr 0 2 0),(zo a.2.1 1),(.slice [] [] true),(i6 0),(zs a.2.1 3),(zs a.2.1 4)] []) fun b =>
 exIs b.1 (some 2) (cnd (chkL gY b.2.1) (cnd (chkU [] b.2.2)
 (some ((zs b.2.1 2),[])) none) none)
 (none)) none) none)
 (none)) none
noncomputable def gZ (d:GDoc):((List Str)×Int)->Option (((List Str)×Int)⊕((List Str)))
 | (a,b) =>
 cnd (decide (b<(List.length a:Int)))
  (bnd (nthI a b) fun f =>
  bnd (aSK d f) fun c =>
  cnd c.2
  (bnd (kI c.1.sels a) fun e =>
  some (.inl (e,(IntKind.wrap .i64 (b+1)))))
  (some (.inl (a,(IntKind.wrap .i64 (b+1))))))
  (some (.inr a))
abbrev aPY (d:GDoc) (st:(List Str)×Int) (l:List PV) (u:UP):Prop:=l=[(.ptr 0 2 0),(zp PV.str st.1),(i6 st.2),(zq aU d.ops),(zq aG d.frags)]/\u=[]
abbrev aPZ (d:GDoc) (p:(List Str)) (r:EU):Prop:=(fun (p:(List Str))=>∃ (a:Int),r=(Ex.brk 0,[(.ptr 0 2 0),(zp PV.str p),(i6 a),(zq aU d.ops),(zq aG d.frags)],[])) p
noncomputable def mN (d:GDoc) (c:List Str):((List Str)×Int)->Option (((List Str)×Int)⊕((List Str)))
 | (a,b) =>
 cnd (decide (b<(List.length d.frags:Int)))
  (bnd (nthI d.frags b) fun f =>
  bnd (aCU c f.name) fun h =>
  cnd h
  (bnd (nthI d.frags b) fun e =>
  bnd (aCU a e.name) fun j =>
  cnd (!j)
   (bnd (nthI d.frags b) fun i =>
   bnd (tapp a [i.name]) fun g =>
   some (.inl (g,(IntKind.wrap .i64 (b+1)))))
   (some (.inl (a,(IntKind.wrap .i64 (b+1))))))
  (some (.inl (a,(IntKind.wrap .i64 (b+1))))))
  (some (.inr a))
abbrev aP0 (d:GDoc) (a:List Str) (st:(List Str)×Int) (l:List PV) (u:UP):Prop:=l=[(.ptr 0 2 0),(zp PV.str a),(zp PV.str st.1),(i6 st.2),(zq aU d.ops),(zq aG d.frags)]/\u=[]
abbrev aP1 (d:GDoc) (a:List Str) (p:(List Str)) (r:EU):Prop:=(fun (p:(List Str))=>∃ (b:Int),r=(Ex.brk 2,[(.ptr 0 2 0),(zp PV.str a),(zp PV.str p),(i6 b),(zq aU d.ops),(zq aG d.frags)],[])) p
noncomputable def aCi (d:GDoc) (e:List GSel):Option (List Str) :=
 bnd (aF5 e) fun c =>
 bnd (aY (gZ d) (c,0)) fun a =>
 bnd (aY (mN d a) ([],0)) fun b =>
 some b
def aS5:Decs:={decs:=[(12,st'),(23,(.ref .str)),(25,(.tup [gW,.bool])),(32,st'),(44,(.ref gW)),(47,.bool),(53,(.ref gW)),(56,.bool),(63,(.ref gW)),(67,st')],loops:=[(3,[(2,2)],⟨mM,[],[(some 0,mM,[])]⟩),(10,[(2,2)],⟨gY,[],[(some 2,gY,[])]⟩)]}
theorem aS6 O a d b:eW 114 aS5 Tryz.f114 O a [(eD d),(zq aI b)] []=aDO O a d b:=by kernel_rfl
theorem aKR d:Lok (aPY d) (gZ d) (aDM O aE) (aPZ d):=by
 rintro ⟨b,a⟩ l u ⟨rfl,rfl⟩;simp only [gZ,aDM,zd,zr];refine zG ?_;try simp only [evs,tys]
 apply Imp.cnd
 ·refine zX PV.str (fun _=>rfl) fun f _ => ?_;try simp only [evs,tys]
  refine zC rfl fun c _ => ?_;try simp only [zes,evs,tys]
  apply Imp.cnd
  ·refine zC rfl fun e _ => ?_;try simp only [zes,evs,tys]
   exact zN
  ·exact zN
 ·exact zB ⟨a,zE⟩
theorem aKS d b:Lok (aP0 d b) (mN d b) (aDN O aE) (aP1 d b):=by
 rintro ⟨e,c⟩ l u ⟨rfl,rfl⟩;simp only [mN,aDN,zd,zr];refine zG ?_;try simp only [evs,tys]
 apply Imp.cnd
 ·refine zX aG iS fun j _ => ?_;try simp only [evs,tys]
  refine zC rfl fun m _ => ?_;try simp only [zes,evs,tys]
  apply Imp.cnd
  ·refine zX aG iS fun i _ => ?_;try simp only [evs,tys]
   refine zC rfl fun o _ => ?_;try simp only [zes,evs,tys]
   apply Imp.cnd
   ·refine zX aG iS fun n _ => ?_;try simp only [evs,tys]
    refine Imp.op (f:=fun a => .slice (List.map PV.str a) [] true) (fun a h=>pX (enc:=PV.str) zI zI (fun a=>by first | rfl | simp only [evs,tys,evc]) h) (fun a=>rfl) fun k g => ?_;try simp only [evs,tys]
    exact zN
   ·exact zN
  ·exact zN
 ·exact zB ⟨c,zE⟩
theorem aP2 d f:Imp (aCi d f) (aDO O aE d f) (Ri lA):=by
 simp only [aCi,aDO,zd,zr];try simp only [evs,tys]
 refine zC rfl fun g _ => ?_;try simp only [zes,evs,tys]
 refine zL (aKR d) ?_;rintro a _ ⟨e,rfl⟩;refine zH ?_;try simp only [evs,tys]
 refine zL (aKS d a) ?_;rintro b _ ⟨c,rfl⟩;refine zH ?_;try simp only [evs,tys]
 exact zR
theorem aP3 {d a r} (h:aCi d a=some r):aVs d a=some r:=zV aMa (aP2 d a) Tryz.func114 (aS6 _ _ d a) h
abbrev fN:List Sh:=[(.ptr 0 4 0),(.ptr 0 6 0),.bool,(.ptr 0 9 0),n6,.str,n6,n6,n6,n6,.str,sf,sf,.str,n6,n6,sf,.str,.str]
def aDP (O:Orc) (e:LBs):bL:=fun a c=>cnd (chkL fN a) (cnd (chkU [] c)
 (cnd (decide ((iv a 4)<(List.length (ev a 11):Int)))
 (bnd (ix 5 (zs a 11) (zn a 4)) fun b=>cnd (chk (.ref nO) b)
 (aQ O 192 [(.agg [(zs a 16),(zt a 17),(zt a 18)]),(.agg [(zt a 5),(zn a 6),(zn a 7)]),(.agg [(zn (rf b) 0),(zn (rf b) 1),(zt (rf b) 2),(zs (rf b) 3),(zs (rf b) 4)]),(.bool false)] fun d=>cnd (chk .bool d)
 (cnd (!(bG d))
 (some (.ret,(pu (rb fN a) 2 (.bool false)),[]))
 (some (.nrm,(pu (rb fN a) 4 (i6 (w6 ((iv a 4)+1)))),[]))) none) none)
 (some (.brk 0,(rb fN a),[]))) none) none
def aDQ (O:Orc) (i:LBs) (s:GSchema) (t:GType) (v0:GValue) (d:Bool):Option (PV×UP) :=
 aQ O 101 [(eT t)] fun x2=>cnd (chk .bool x2)
 (cnd (!(bG x2))
 (some ((.bool false),[]))
 (cnd (v0.kind==8)
 (some ((.bool true),[]))
 (cnd (v0.kind==0)
 (some ((.bool ((bits .and .i64 t.musts 1)==0)),[]))
 (aQ O 224 [(eT t)] fun c=>cnd (chk (.tup [aVl,.bool]) c)
 (jn (fun (h:Bool) =>
 (cnd (bG (tv c 1))
 (bnd (i (aDP O i) [(.ptr 0 4 0),(.ptr 0 6 0),(.bool false),(.ptr 0 9 0),(i6 0),(zt (tg c 0) 0),(zn (tg c 0) 1),(zn (tg c 0) 2),(i6 v0.kind),(i6 v0.n),(.str v0.s),(zq aP v0.l),(zq aC v0.m),(.str t.name),(i6 t.lists),(i6 t.musts),(zq aH s.defs),(.str s.query),(.str s.mutation)] []) fun a =>
 exIs a.1 (some 0) (cnd (chkL fN a.2.1) (cnd (chkU [] a.2.2)
 (some ((.bool true),[])) none) none)
 (exIs a.1 none (cnd (chkL fN a.2.1) (cnd (chkU [] a.2.2)
 (some ((zb a.2.1 2),[])) none) none)
 (none)))
 (cnd (t.name==([73,110,116]:Str))
 (cnd (v0.kind==2)
 (cnd (decide (v0.n≥(-2147483648)))
 (some ((.bool (decide (v0.n<=2147483647))),[]))
 (some ((.bool false),[])))
 (some ((.bool false),[])))
 (cnd (t.name==([83,116,114,105,110,103]:Str))
 (some ((.bool (v0.kind==4)),[]))
 (cnd (t.name==([66,111,111,108,101,97,110]:Str))
 (some ((.bool (v0.kind==1)),[]))
 (cnd (t.name==([73,68]:Str))
 (cnd (v0.kind==4)
 (some ((.bool true),[]))
 (some ((.bool (v0.kind==2)),[])))
 (aQ O 164 [(eS s),(.str t.name)] fun b=>cnd (chk (.tup [pY,.bool]) b)
 (cnd ((iv (tg b 0) 0)==4)
 (cnd (v0.kind==5)
 (aQ O 29 [(zs (tg b 0) 4),(.str v0.s)] fun f=>cnd (chk .bool f)
 (some ((.bool (bG f)),[])) none)
 (some ((.bool false),[])))
 (cnd ((iv (tg b 0) 0)==5)
 (cnd (v0.kind==7)
 (aQ O 225 [(eS s),(zs (tg b 0) 5),(zq aC v0.m)] fun e=>cnd (chk .bool e)
 (some ((.bool (bG e)),[])) none)
 (some ((.bool false),[])))
 (some ((.bool false),[])))) none))))))) fun j =>
 cnd (bG (tv c 1))
 (cnd (v0.kind != 6)
 (cnd d
 (aQ O 192 [(eS s),(.agg [(zt (tg c 0) 0),(zn (tg c 0) 1),(zn (tg c 0) 2)]),(eV v0),(.bool true)] fun g=>cnd (chk .bool g)
 (some ((.bool (bG g)),[])) none)
 (some ((.bool false),[])))
 (j true))
 (j false)) none)))) none
noncomputable def uB (s:GSchema) (v0:GValue) (d:GType×Bool):Int->Option (Int⊕(Unit⊕Unit))
 | a =>
 cnd (decide (a<(List.length v0.l:Int)))
  (bnd (nthI v0.l a) fun c =>
  bnd (tX s d.1 c false) fun b =>
  cnd (!b)
  (some (.inr (.inr ())))
  (some (.inl (IntKind.wrap .i64 (a+1)))))
  (some (.inr (.inl ())))
abbrev aBd (s:GSchema) (t:GType) (v0:GValue) (a:GType×Bool) (b:PV):List PV:=[(.ptr 0 4 0),(.ptr 0 6 0),(.bool false),(.ptr 0 9 0),b,(.str a.1.name),(i6 a.1.lists),(i6 a.1.musts),(i6 v0.kind),(i6 v0.n),(.str v0.s),(zq aP v0.l),(zq aC v0.m),(.str t.name),(i6 t.lists),(i6 t.musts),(zq aH s.defs),(.str s.query),(.str s.mutation)]
abbrev aHf (s:GSchema) (t:GType) (v0:GValue) (a:GType×Bool) (st:Int) (l:List PV) (u:UP):Prop:=l=(aBd s t v0 a (i6 st))/\u=[]
abbrev aP4 (s:GSchema) (t:GType) (v0:GValue) (c:GType×Bool) (p:Unit⊕Unit) (r:EU):Prop:=elim p (fun (p:Unit)=>∃ (a:Int),r=(Ex.brk 0,(aBd s t v0 c (i6 a)),[])) (fun (p:Unit)=>∃ (b:Int),r=(Ex.ret,(aBd s t v0 c (i6 b)),[]))
noncomputable def aCj (s:GSchema) (t:GType) (v0:GValue) (b:Bool):Option Bool :=
 bnd (qC t) fun k =>
 cnd (!k)
 (some false)
 (cnd (v0.kind==8)
 (some true)
 (cnd (v0.kind==0)
 (some ((bits .and .i64 t.musts 1)==0))
 (bnd (aSL t) fun d =>
 jn (fun (i:Bool) =>
 (cnd d.2
 (bnd (aY (uB s v0 d) 0) fun c=>elim c
 (fun h =>
 some true)
 (fun h =>
 some false))
 (cnd (t.name==([73,110,116]:Str))
 (cnd (v0.kind==2)
 (cnd (decide (v0.n≥(-2147483648)))
 (some (decide (v0.n<=2147483647)))
 (some false))
 (some false))
 (cnd (t.name==([83,116,114,105,110,103]:Str))
 (some (v0.kind==4))
 (cnd (t.name==([66,111,111,108,101,97,110]:Str))
 (some (v0.kind==1))
 (cnd (t.name==([73,68]:Str))
 (cnd (v0.kind==4)
 (some true)
 (some (v0.kind==2)))
 (bnd (xM s t.name) fun a =>
 cnd (a.1.kind==4)
 (cnd (v0.kind==5)
 (bnd (aCU a.1.parts v0.s) fun f =>
 some f)
 (some false))
 (cnd (a.1.kind==5)
 (cnd (v0.kind==7)
 (bnd (aCd s a.1.params v0.m) fun g =>
 some g)
 (some false))
 (some false))))))))) fun j =>
 cnd d.2
 (cnd (v0.kind != 6)
 (cnd b
 (bnd (tX s d.1 v0 true) fun e =>
 some e)
 (some false))
 (j true))
 (j false))))
def aS7:Decs:={decs:=[(15,.bool),(29,(.tup [aVl,.bool])),(43,.bool),(58,(.ref nO)),(60,.bool),(103,(.tup [pY,.bool])),(117,.bool),(133,.bool)],loops:=[(12,[(9,3),(6,5),(5,3),(4,3)],⟨fN,[],[(some 0,fN,[]),(none,fN,[])]⟩)]}
theorem aS8 O b s t v0 a:eW 192 aS7 Tryz.f192 O b [(eS s),(eT t),(eV v0),(.bool a)] []=aDQ O b s t v0 a:=by kernel_rfl
theorem aKT s t v0 b:∀ st l u,aHf s t v0 b st l u->Imp (uB s v0 b st) (aDP O aE l u) (kE (aHf s t v0 b) (aP4 s t v0 b)):=by
 rintro a l u ⟨rfl,rfl⟩;simp only [uB,aDP,zd,zr];refine zG ?_;try simp only [evs,tys]
 apply Imp.cnd
 ·refine zX aP aB1 fun d _ => ?_;try simp only [evs,tys]
  refine zC rfl fun c _ => ?_;try simp only [zes,evs,tys]
  apply Imp.cnd;·exact zT ⟨a,zE⟩
  ·exact zN
 ·exact zB ⟨a,zE⟩
theorem aP5 s t v0 b:Imp (aCj s t v0 b) (aDQ O aE s t v0 b) (Ri aA):=by
 simp only [aCj,aDQ,zd,zr];try simp only [evs,tys]
 refine zC rfl fun q _ => ?_;try simp only [zes,evs,tys]
 apply Imp.cnd;·exact zR
 ·apply Imp.cnd;·exact zR
  ·apply Imp.cnd;·exact zR
   ·refine zC rfl fun j _ => ?_;try simp only [zes,evs,tys]
    refine Imp.jn (fun I h n=>∀ (a:Bool),I (h a) (n a)) (fun a => ?_) fun r o d => ?_
    ·dsimp only;try simp only [evs,tys]
     apply Imp.cnd
     ·refine zL (aKT s t v0 j) ?_;rintro (p | p) e c
      ·try simp only [aK,aM]
       obtain ⟨f,rfl⟩:=c;refine zH ?_;try simp only [evs,tys]
       exact zR
      ·try simp only [aK,aM]
       obtain ⟨g,rfl⟩:=c;refine Imp.exMiss rfl ?_;refine zH ?_;try simp only [evs,tys]
       exact zR
     ·apply Imp.cnd
      ·apply Imp.cnd
       ·apply Imp.cnd;·exact zR
        ·exact zR
       ·exact zR
      ·apply Imp.cnd;·exact zR
       ·apply Imp.cnd;·exact zR
        ·apply Imp.cnd
         ·apply Imp.cnd;·exact zR
          ·exact zR
         ·refine zC rfl fun l _ => ?_;try simp only [zes,evs,tys]
          apply Imp.cnd
          ·apply Imp.cnd
           ·refine zC rfl fun k _ => ?_;try simp only [zes,evs,tys]
            exact zR
           ·exact zR
          ·apply Imp.cnd
           ·apply Imp.cnd
            ·refine zC rfl fun m _ => ?_;try simp only [zes,evs,tys]
             exact zR
            ·exact zR
           ·exact zR
    apply Imp.cnd
    ·apply Imp.cnd
     ·apply Imp.cnd
      ·refine zC rfl fun i _ => ?_;try simp only [zes,evs,tys]
       exact zR
      ·exact zR
     ·first | exact d _ | simpa only [evs,tys,evl] using d _
    ·first | exact d _ | simpa only [evs,tys,evl] using d _
theorem aP6 {s t v0 a r} (h:aCj s t v0 a=some r):tX s t v0 a=some r:=zV aD (aP5 s t v0 a) Tryz.func192 (aS8 _ _ s t v0 a) h
abbrev cT:List Sh:=[st',(.ptr 0 2 0),n6,n6,n6,.str,sf,sf]
def wH (O:Orc) (e:LBs):bL:=fun b d=>cnd (chkL cT b) (cnd (chkU [] d)
 (cnd (decide ((iv b 2)<(List.length (ev b 6):Int)))
 (cnd ((iv b 3)==6)
 (bnd (ix 5 (zs b 6) (zn b 2)) fun a=>cnd (chk (.ref nO) a)
 (aQ O 236 [(.agg [(zn (rf a) 0),(zn (rf a) 1),(zt (rf a) 2),(zs (rf a) 3),(zs (rf a) 4)]),(zo b 0)] fun c=>cnd (chk st' c)
 (some (.nrm,(pu (pu (rb cT b) 0 (.slice (esV c) [] true)) 2 (i6 (w6 ((iv b 2)+1)))),[])) none) none)
 (some (.brk 0,(rb cT b),[])))
 (some (.brk 0,(rb cT b),[]))) none) none
abbrev xY:List Sh:=[st',(.ptr 0 2 0),n6,n6,n6,.str,sf,sf]
def wI (O:Orc) (e:LBs):bL:=fun a c=>cnd (chkL xY a) (cnd (chkU [] c)
 (cnd (decide ((iv a 2)<(List.length (ev a 7):Int)))
 (cnd ((iv a 3)==7)
 (bnd (ix 6 (zs a 7) (zn a 2)) fun b=>cnd (chk (.ref dU) b)
 (aQ O 236 [(.agg [(zn (rf b) 1),(zn (rf b) 2),(zt (rf b) 3),(zs (rf b) 4),(zs (rf b) 5)]),(zo a 0)] fun d=>cnd (chk st' d)
 (some (.nrm,(pu (pu (rb xY a) 0 (.slice (esV d) [] true)) 2 (i6 (w6 ((iv a 2)+1)))),[])) none) none)
 (some (.brk 2,(rb xY a),[])))
 (some (.brk 2,(rb xY a),[]))) none) none
def aGq (O:Orc) (e:LBs) (v0:GValue) (d:List Str):Option (PV×UP) :=
 cnd (v0.kind==8)
 (aQ O 29 [(zq PV.str d),(.str v0.s)] fun i=>cnd (chk .bool i)
 (cnd (!(bG i))
 (bnd (apd 1 (zp PV.str d) (.slice [(.str v0.s)] [] true)) fun x3=>cnd (chk st' x3)
 (bnd (e (wH O e) [(.slice (esV x3) [] true),(.ptr 0 2 0),(i6 0),(i6 v0.kind),(i6 v0.n),(.str v0.s),(zq aP v0.l),(zq aC v0.m)] []) fun c =>
 exIs c.1 (some 0) (cnd (chkL cT c.2.1) (cnd (chkU [] c.2.2)
 (bnd (e (wI O e) [(zo c.2.1 0),(.ptr 0 2 0),(i6 0),(zn c.2.1 3),(zn c.2.1 4),(zt c.2.1 5),(zs c.2.1 6),(zs c.2.1 7)] []) fun h =>
 exIs h.1 (some 2) (cnd (chkL cT h.2.1) (cnd (chkU [] h.2.2)
 (some ((zo h.2.1 0),[])) none) none)
 (none)) none) none)
 (none)) none)
 (bnd (e (wH O e) [(zp PV.str d),(.ptr 0 2 0),(i6 0),(i6 v0.kind),(i6 v0.n),(.str v0.s),(zq aP v0.l),(zq aC v0.m)] []) fun a =>
 exIs a.1 (some 0) (cnd (chkL cT a.2.1) (cnd (chkU [] a.2.2)
 (bnd (e (wI O e) [(zo a.2.1 0),(.ptr 0 2 0),(i6 0),(zn a.2.1 3),(zn a.2.1 4),(zt a.2.1 5),(zs a.2.1 6),(zs a.2.1 7)] []) fun g =>
 exIs g.1 (some 2) (cnd (chkL cT g.2.1) (cnd (chkU [] g.2.2)
 (some ((zo g.2.1 0),[])) none) none)
 (none)) none) none)
 (none))) none)
 (bnd (e (wH O e) [(zp PV.str d),(.ptr 0 2 0),(i6 0),(i6 v0.kind),(i6 v0.n),(.str v0.s),(zq aP v0.l),(zq aC v0.m)] []) fun b =>
 exIs b.1 (some 0) (cnd (chkL cT b.2.1) (cnd (chkU [] b.2.2)
 (bnd (e (wI O e) [(zo b.2.1 0),(.ptr 0 2 0),(i6 0),(zn b.2.1 3),(zn b.2.1 4),(zt b.2.1 5),(zs b.2.1 6),(zs b.2.1 7)] []) fun f =>
 exIs f.1 (some 2) (cnd (chkL cT f.2.1) (cnd (chkU [] f.2.2)
 (some ((zo f.2.1 0),[])) none) none)
 (none)) none) none)
 (none))
noncomputable def cU (v0:GValue):((List Str)×Int)->Option (((List Str)×Int)⊕((List Str)))
 | (a,b) =>
 cnd (decide (b<(List.length v0.l:Int)))
  (cnd (v0.kind==6)
  (bnd (nthI v0.l b) fun d =>
  bnd (aNg d a) fun c =>
  some (.inl (c,(IntKind.wrap .i64 (b+1)))))
  (some (.inr a)))
  (some (.inr a))
abbrev aJv (v0:GValue) (a b:PV):List PV:=[a,(.ptr 0 2 0),b,(i6 v0.kind),(i6 v0.n),(.str v0.s),(zq aP v0.l),(zq aC v0.m)]
abbrev aS9 (v0:GValue) (st:(List Str)×Int) (l:List PV) (u:UP):Prop:=l=(aJv v0 (zp PV.str st.1) (i6 st.2))/\u=[]
abbrev aTa (v0:GValue) (p:(List Str)) (r:EU):Prop:=∃ (a:Int),r=(Ex.brk 0,(aJv v0 (zp PV.str p) (i6 a)),[])
noncomputable def cW (v0:GValue):((List Str)×Int)->Option (((List Str)×Int)⊕((List Str)))
 | (a,b) =>
 cnd (decide (b<(List.length v0.m:Int)))
  (cnd (v0.kind==7)
  (bnd (nthI v0.m b) fun d =>
  bnd (aNg d.v a) fun c =>
  some (.inl (c,(IntKind.wrap .i64 (b+1)))))
  (some (.inr a)))
  (some (.inr a))
abbrev aJw (v0:GValue) (a b:PV):List PV:=[a,(.ptr 0 2 0),b,(i6 v0.kind),(i6 v0.n),(.str v0.s),(zq aP v0.l),(zq aC v0.m)]
abbrev aTb (v0:GValue) (st:(List Str)×Int) (l:List PV) (u:UP):Prop:=l=(aJw v0 (zp PV.str st.1) (i6 st.2))/\u=[]
abbrev aTc (v0:GValue) (p:(List Str)) (r:EU):Prop:=∃ (a:Int),r=(Ex.brk 2,(aJw v0 (zp PV.str p) (i6 a)),[])
noncomputable def aFa (v0:GValue) (a:List Str):Option (List Str) :=
 cnd (v0.kind==8)
 (bnd (aCU a v0.s) fun i =>
 cnd (!i)
 (bnd (tapp a [v0.s]) fun h =>
 bnd (aY (cU v0) (h,0)) fun g =>
 bnd (aY (cW v0) (g,0)) fun f =>
 some f)
 (bnd (aY (cU v0) (a,0)) fun d =>
 bnd (aY (cW v0) (d,0)) fun e =>
 some e))
 (bnd (aY (cU v0) (a,0)) fun b =>
 bnd (aY (cW v0) (b,0)) fun c =>
 some c)
def aW9:Decs:={decs:=[(14,.bool),(21,st'),(37,(.ref nO)),(40,st'),(56,(.ref dU)),(60,st')],loops:=[(4,[(2,5)],⟨cT,[],[(some 0,cT,[])]⟩),(8,[(2,5)],⟨cT,[],[(some 2,cT,[])]⟩)]}
theorem aXa O b v0 (a:List Str):eW 236 aW9 Tryz.f236 O b [(eV v0),(zp PV.str a)] []=aGq O b v0 a:=by kernel_rfl
theorem xZ v0:Lok (aS9 v0) (cU v0) (wH O aE) (aTa v0):=by
 rintro ⟨b,a⟩ l u ⟨rfl,rfl⟩;simp only [cU,wH,zd,zr];refine zG ?_;try simp only [evs,tys]
 apply Imp.cnd
 ·apply Imp.cnd
  ·refine zX aP aB1 fun d _ => ?_;try simp only [evs,tys]
   refine zC rfl fun c _ => ?_;try simp only [zes,evs,tys]
   exact zN
  ·exact zB ⟨a,zE⟩
 ·exact zB ⟨a,zE⟩
theorem yA v0:Lok (aTb v0) (cW v0) (wI O aE) (aTc v0):=by
 rintro ⟨b,a⟩ l u ⟨rfl,rfl⟩;simp only [cW,wI,zd,zr];refine zG ?_;try simp only [evs,tys]
 apply Imp.cnd
 ·apply Imp.cnd
  ·refine zX aC fU fun d _ => ?_;try simp only [evs,tys]
   refine zC rfl fun c _ => ?_;try simp only [zes,evs,tys]
   exact zN
  ·exact zB ⟨a,zE⟩
 ·exact zB ⟨a,zE⟩
theorem aTd v0 b:Imp (aFa v0 b) (aGq O aE v0 b) (Ri lH):=by
 simp only [aFa,aGq,zd,zr];try simp only [evs,tys]
 apply Imp.cnd
 ·refine zC rfl fun s _ => ?_;try simp only [zes,evs,tys]
  apply Imp.cnd
  ·refine Imp.op (f:=fun a => .slice (List.map PV.str a) [] true) (fun a h=>pX (enc:=PV.str) zI zI (fun a=>by first | rfl | simp only [evs,tys,evc]) h) (fun a=>rfl) fun r q => ?_;try simp only [evs,tys]
   refine zL (xZ v0) ?_;rintro g _ ⟨n,rfl⟩;refine zH ?_;try simp only [evs,tys]
   refine zL (yA v0) ?_;rintro e _ ⟨m,rfl⟩;refine zH ?_;try simp only [evs,tys]
   exact zR
  ·refine zL (xZ v0) ?_;rintro d _ ⟨k,rfl⟩;refine zH ?_;try simp only [evs,tys]
   refine zL (yA v0) ?_;rintro j _ ⟨o,rfl⟩;refine zH ?_;try simp only [evs,tys]
   exact zR
 ·refine zL (xZ v0) ?_;rintro c _ ⟨p,rfl⟩;refine zH ?_;try simp only [evs,tys]
  refine zL (yA v0) ?_;rintro i _ ⟨l,rfl⟩;refine zH ?_;try simp only [evs,tys]
  exact zR
theorem aTe {v0 a r} (h:aFa v0 a=some r):aNg v0 a=some r:=zV aE1 (aTd v0 a) Tryz.func236 (aXa _ _ v0 a) h
def yB (O:Orc) (LP:LBs) (s:Str):Option (PV×UP) :=
 jn (fun (d:Int) (t_5:Bool) (t_6:Bool) =>
 (aQ O 250 [(.str s),(i6 d)] fun x7=>cnd (chk n6 x7)
 (cnd ((intV x7)==0)
 (some ((.tuple [(i6 0),(i6 0)]),[]))
 (jn (fun (c:Int) (t_14:Bool) =>
 (jn (fun (a:Int) (b:Int) (t_24:Bool) (t_25:Bool) (t_26:Bool) (t_27:Bool) =>
 (cnd (decide (a<(List.length s:Int)))
 (bnd (uO (.str s) (i6 a)) fun r=>cnd (chk (.int .u8) r)
 (cnd ((intV r)==101)
 (jn (fun (g:Int) (t_36:Bool) (t_37:Bool) =>
 (aQ O 250 [(.str s),(i6 g)] fun k=>cnd (chk n6 k)
 (cnd (decide ((intV k)>0))
 (aQ O 250 [(.str s),(i6 g)] fun m=>cnd (chk n6 m)
 (some ((.tuple [(i6 (w6 (g+(intV m)))),(i6 4)]),[])) none)
 (some ((.tuple [(i6 a),(i6 b)]),[]))) none)) fun h =>
 cnd (decide ((w6 (a+1))<(List.length s:Int)))
 (bnd (uO (.str s) (i6 (w6 (a+1)))) fun n=>cnd (chk (.int .u8) n)
 (cnd ((intV n)==43)
 (h (w6 ((w6 (a+1))+1)) true true)
 (bnd (uO (.str s) (i6 (w6 (a+1)))) fun o=>cnd (chk (.int .u8) o)
 (cnd ((intV o)==45)
 (h (w6 ((w6 (a+1))+1)) true true)
 (h (w6 (a+1)) true false)) none)) none)
 (h (w6 (a+1)) false false))
 (bnd (uO (.str s) (i6 a)) fun p=>cnd (chk (.int .u8) p)
 (cnd ((intV p)==69)
 (jn (fun (e:Int) (t_50:Bool) (t_51:Bool) =>
 (aQ O 250 [(.str s),(i6 e)] fun x52=>cnd (chk n6 x52)
 (cnd (decide ((intV x52)>0))
 (aQ O 250 [(.str s),(i6 e)] fun x54=>cnd (chk n6 x54)
 (some ((.tuple [(i6 (w6 (e+(intV x54)))),(i6 4)]),[])) none)
 (some ((.tuple [(i6 a),(i6 b)]),[]))) none)) fun i =>
 cnd (decide ((w6 (a+1))<(List.length s:Int)))
 (bnd (uO (.str s) (i6 (w6 (a+1)))) fun x45=>cnd (chk (.int .u8) x45)
 (cnd ((intV x45)==43)
 (i (w6 ((w6 (a+1))+1)) true true)
 (bnd (uO (.str s) (i6 (w6 (a+1)))) fun t=>cnd (chk (.int .u8) t)
 (cnd ((intV t)==45)
 (i (w6 ((w6 (a+1))+1)) true true)
 (i (w6 (a+1)) true false)) none)) none)
 (i (w6 (a+1)) false false))
 (some ((.tuple [(i6 a),(i6 b)]),[]))) none)) none)
 (some ((.tuple [(i6 a),(i6 b)]),[])))) fun j =>
 cnd (decide ((w6 (d+c))<(List.length s:Int)))
 (bnd (uO (.str s) (i6 (w6 (d+c)))) fun f=>cnd (chk (.int .u8) f)
 (cnd ((intV f)==46)
 (aQ O 250 [(.str s),(i6 (w6 ((w6 (d+c))+1)))] fun x18=>cnd (chk n6 x18)
 (cnd (decide ((intV x18)>0))
 (aQ O 250 [(.str s),(i6 (w6 ((w6 (d+c))+1)))] fun q=>cnd (chk n6 q)
 (j (w6 ((w6 ((w6 (d+c))+1))+(intV q))) 4 true ((intV f)==46) true true) none)
 (j (w6 (d+c)) 3 true ((intV f)==46) true false)) none)
 (j (w6 (d+c)) 3 true ((intV f)==46) false false)) none)
 (j (w6 (d+c)) 3 false false false false))) fun k10 =>
 bnd (uO (.str s) (i6 d)) fun l=>cnd (chk (.int .u8) l)
 (cnd ((intV l)==48)
 (k10 1 true)
 (k10 (intV x7) false)) none)) none)) fun k1 =>
 cnd (decide ((0:Int)<(List.length s:Int)))
 (bnd (uO (.str s) (i6 0)) fun x2=>cnd (chk (.int .u8) x2)
 (cnd ((intV x2)==45)
 (k1 1 true true)
 (k1 0 true false)) none)
 (k1 0 false false)
noncomputable def qH (s:Str):Option (Int×Int) :=
 jn (fun (d:Int) (t_5:Bool) (t_6:Bool) =>
 (bnd (aAZ s d) fun y8 =>
 cnd (y8==0)
 (some (0,0))
 (jn (fun (c:Int) (t_14:Bool) =>
 (jn (fun (a:Int) (b:Int) (t_24:Bool) (t_25:Bool) (t_26:Bool) (t_27:Bool) =>
 (cnd (decide (a<(List.length s:Int)))
 (bnd (nthI s a) fun l =>
 cnd ((l.toNat:Int)==101)
 (jn (fun (f:Int) (t_36:Bool) (t_37:Bool) =>
 (bnd (aAZ s f) fun y39 =>
 cnd (decide (y39>0))
 (bnd (aAZ s f) fun r =>
 some ((IntKind.wrap .i64 (f+r)),4))
 (some (a,b)))) fun g =>
 cnd (decide ((IntKind.wrap .i64 (a+1))<(List.length s:Int)))
 (bnd (nthI s (IntKind.wrap .i64 (a+1))) fun y32 =>
 cnd ((y32.toNat:Int)==43)
 (g (IntKind.wrap .i64 ((IntKind.wrap .i64 (a+1))+1)) true true)
 (bnd (nthI s (IntKind.wrap .i64 (a+1))) fun m =>
 cnd ((m.toNat:Int)==45)
 (g (IntKind.wrap .i64 ((IntKind.wrap .i64 (a+1))+1)) true true)
 (g (IntKind.wrap .i64 (a+1)) true false)))
 (g (IntKind.wrap .i64 (a+1)) false false))
 (bnd (nthI s a) fun y43 =>
 cnd ((y43.toNat:Int)==69)
 (jn (fun (e:Int) (t_50:Bool) (t_51:Bool) =>
 (bnd (aAZ s e) fun q =>
 cnd (decide (q>0))
 (bnd (aAZ s e) fun y55 =>
 some ((IntKind.wrap .i64 (e+y55)),4))
 (some (a,b)))) fun h =>
 cnd (decide ((IntKind.wrap .i64 (a+1))<(List.length s:Int)))
 (bnd (nthI s (IntKind.wrap .i64 (a+1))) fun y46 =>
 cnd ((y46.toNat:Int)==43)
 (h (IntKind.wrap .i64 ((IntKind.wrap .i64 (a+1))+1)) true true)
 (bnd (nthI s (IntKind.wrap .i64 (a+1))) fun t =>
 cnd ((t.toNat:Int)==45)
 (h (IntKind.wrap .i64 ((IntKind.wrap .i64 (a+1))+1)) true true)
 (h (IntKind.wrap .i64 (a+1)) true false)))
 (h (IntKind.wrap .i64 (a+1)) false false))
 (some (a,b))))
 (some (a,b)))) fun i =>
 cnd (decide ((IntKind.wrap .i64 (d+c))<(List.length s:Int)))
 (bnd (nthI s (IntKind.wrap .i64 (d+c))) fun j =>
 cnd ((j.toNat:Int)==46)
 (bnd (aAZ s (IntKind.wrap .i64 ((IntKind.wrap .i64 (d+c))+1))) fun n =>
 cnd (decide (n>0))
 (bnd (aAZ s (IntKind.wrap .i64 ((IntKind.wrap .i64 (d+c))+1))) fun o =>
 i (IntKind.wrap .i64 ((IntKind.wrap .i64 ((IntKind.wrap .i64 (d+c))+1))+o)) 4 true ((j.toNat:Int)==46) true true)
 (i (IntKind.wrap .i64 (d+c)) 3 true ((j.toNat:Int)==46) true false))
 (i (IntKind.wrap .i64 (d+c)) 3 true ((j.toNat:Int)==46) false false))
 (i (IntKind.wrap .i64 (d+c)) 3 false false false false))) fun k =>
 bnd (nthI s d) fun p =>
 cnd ((p.toNat:Int)==48)
 (k 1 true)
 (k y8 false)))) fun k1 =>
 cnd (decide ((0:Int)<(List.length s:Int)))
 (bnd (nthI s 0) fun y3 =>
 cnd ((y3.toNat:Int)==45)
 (k1 1 true true)
 (k1 0 true false))
 (k1 0 false false)
def aNx:Decs:={decs:=[(15,(.int .u8)),(22,n6),(27,(.int .u8)),(39,(.int .u8)),(46,n6),(54,n6),(63,(.int .u8)),(68,(.int .u8)),(81,(.int .u8)),(86,(.int .u8)),(94,n6),(99,n6)]}
theorem aNy O a (s:Str):eW 238 aNx Tryz.f238 O a [(.str s)] []=yB O a s:=by kernel_rfl
theorem aKU s:Imp (qH s) (yB O aE s) (Ri iI):=by
 simp only [qH,yB,zd,zr];try simp only [evs,tys]
 refine Imp.jn (fun I w v=>∀ (y:Int) (z:Bool) (B:Bool),I (w y z B) (v y z B)) (fun y z B => ?_) fun v U A => ?_
 ·dsimp only;try simp only [evs,tys]
  refine zC rfl fun y8 _ => ?_;try simp only [zes,evs,tys]
  apply Imp.cnd;·exact zR
  ·refine Imp.jn (fun I w v=>∀ (p:Int) (m:Bool),I (w p m) (v p m)) (fun p m => ?_) fun k10 K x => ?_
   ·dsimp only;try simp only [evs,tys]
    refine Imp.jn (fun I w v=>∀ (t:Int) (b:Int) (n:Bool) (l:Bool) (r:Bool) (j:Bool),I (w t b n l r j) (v t b n l r j)) (fun t b n l r j => ?_) fun Y C c => ?_
    ·dsimp only;try simp only [evs,tys]
     apply Imp.cnd
     ·refine Imp.op (f:=fun a => .int .u8 (a.toNat:Int)) (fun a h=>iE h) (fun a=>rfl) fun Q L => ?_;try simp only [evs,tys]
      apply Imp.cnd
      ·refine Imp.jn (fun I w v=>∀ (k:Int) (i:Bool) (u:Bool),I (w k i u) (v k i u)) (fun k i u => ?_) fun W E d => ?_
       ·dsimp only;try simp only [evs,tys]
        refine zC rfl fun y39 _ => ?_;try simp only [zes,evs,tys]
        apply Imp.cnd
        ·refine zC rfl fun y41 _ => ?_;try simp only [zes,evs,tys]
         exact zR
        ·exact zR
       apply Imp.cnd
       ·refine Imp.op (f:=fun a => .int .u8 (a.toNat:Int)) (fun a h=>iE h) (fun a=>rfl) fun y32 M => ?_;try simp only [evs,tys]
        apply Imp.cnd;·first | exact d _ _ _ | simpa only [evs,tys,evl] using d _ _ _
        ·refine Imp.op (f:=fun a => .int .u8 (a.toNat:Int)) (fun a h=>iE h) (fun a=>rfl) fun R J => ?_;try simp only [evs,tys]
         apply Imp.cnd;·first | exact d _ _ _ | simpa only [evs,tys,evl] using d _ _ _
         ·first | exact d _ _ _ | simpa only [evs,tys,evl] using d _ _ _
       ·first | exact d _ _ _ | simpa only [evs,tys,evl] using d _ _ _
      ·refine Imp.op (f:=fun a => .int .u8 (a.toNat:Int)) (fun a h=>iE h) (fun a=>rfl) fun y43 H => ?_;try simp only [evs,tys]
       apply Imp.cnd
       ·refine Imp.jn (fun I w v=>∀ (g:Int) (q:Bool) (o:Bool),I (w g q o) (v g q o)) (fun g q o => ?_) fun k44 G e => ?_
        ·dsimp only;try simp only [evs,tys]
         refine zC rfl fun X _ => ?_;try simp only [zes,evs,tys]
         apply Imp.cnd
         ·refine zC rfl fun y55 _ => ?_;try simp only [zes,evs,tys]
          exact zR
         ·exact zR
        apply Imp.cnd
        ·refine Imp.op (f:=fun a => .int .u8 (a.toNat:Int)) (fun a h=>iE h) (fun a=>rfl) fun y46 P => ?_;try simp only [evs,tys]
         apply Imp.cnd;·first | exact e _ _ _ | simpa only [evs,tys,evl] using e _ _ _
         ·refine Imp.op (f:=fun a => .int .u8 (a.toNat:Int)) (fun a h=>iE h) (fun a=>rfl) fun Z F => ?_;try simp only [evs,tys]
          apply Imp.cnd;·first | exact e _ _ _ | simpa only [evs,tys,evl] using e _ _ _
          ·first | exact e _ _ _ | simpa only [evs,tys,evl] using e _ _ _
        ·first | exact e _ _ _ | simpa only [evs,tys,evl] using e _ _ _
       ·exact zR
     ·exact zR
    apply Imp.cnd
    ·refine Imp.op (f:=fun a => .int .u8 (a.toNat:Int)) (fun a h=>iE h) (fun a=>rfl) fun y17 D => ?_;try simp only [evs,tys]
     apply Imp.cnd
     ·refine zC rfl fun y19 _ => ?_;try simp only [zes,evs,tys]
      apply Imp.cnd
      ·refine zC rfl fun T _ => ?_;try simp only [zes,evs,tys]
       first | exact c _ _ _ _ _ _ | simpa only [evs,tys,evl] using c _ _ _ _ _ _
      ·first | exact c _ _ _ _ _ _ | simpa only [evs,tys,evl] using c _ _ _ _ _ _
     ·first | exact c _ _ _ _ _ _ | simpa only [evs,tys,evl] using c _ _ _ _ _ _
    ·first | exact c _ _ _ _ _ _ | simpa only [evs,tys,evl] using c _ _ _ _ _ _
   refine Imp.op (f:=fun a => .int .u8 (a.toNat:Int)) (fun a h=>iE h) (fun a=>rfl) fun V N => ?_;try simp only [evs,tys]
   apply Imp.cnd;·first | exact x _ _ | simpa only [evs,tys,evl] using x _ _
   ·first | exact x _ _ | simpa only [evs,tys,evl] using x _ _
 apply Imp.cnd
 ·refine Imp.op (f:=fun a => .int .u8 (a.toNat:Int)) (fun a h=>iE h) (fun a=>rfl) fun y3 S => ?_;try simp only [evs,tys]
  apply Imp.cnd;·first | exact A _ _ _ | simpa only [evs,tys,evl] using A _ _ _
  ·first | exact A _ _ _ | simpa only [evs,tys,evl] using A _ _ _
 ·first | exact A _ _ _ | simpa only [evs,tys,evl] using A _ _ _
theorem aKV {s r} (h:qH s=some r):aMb s=some r:=zV aHa (aKU s) Tryz.func238 (aNy _ _ s) h
abbrev jT:List Sh:=[.str,st',.bool,st',n6]
def aDR (O:Orc) (e:LBs):bL:=fun a d=>cnd (chkL jT a) (cnd (chkU [] d)
 (cnd (decide ((iv a 4)<(List.length (sv a 0):Int)))
 (aQ O 251 [(zt a 0),(zn a 4)] fun c=>cnd (chk (.tup [n6,n6]) c)
 (cnd ((intV (tv c 1))==0)
 (some (.ret,[(zt a 0),(.slice [] [] true),(.bool false),(zo a 3),(zn a 4)],[]))
 (bnd (apd 1 (zo a 3) (.slice [(i6 (intV (tv c 0)))] [] true)) fun b=>cnd (chk st' b)
 (some (.nrm,[(zt a 0),(zo a 1),(zb a 2),(.slice (esV b) [] true),(i6 (w6 ((iv a 4)+(intV (tv c 1)))))],[])) none)) none)
 (some (.brk 0,(rb jT a),[]))) none) none
def aDS (O:Orc) (b:LBs) (s:Str):Option (PV×UP) :=
 bnd (b (aDR O b) [(.str s),(.slice [] [] true),(.bool false),(.slice [] [] true),(i6 0)] []) fun a =>
 exIs a.1 (some 0) (cnd (chkL jT a.2.1) (cnd (chkU [] a.2.2)
 (some ((.tuple [(zs a.2.1 3),(.bool true)]),[])) none) none)
 (exIs a.1 none (cnd (chkL jT a.2.1) (cnd (chkU [] a.2.2)
 (some ((.tuple [(zs a.2.1 1),(zb a.2.1 2)]),[])) none) none)
 (none))
noncomputable def aBe (s:Str):((List Int)×Int)->Option (((List Int)×Int)⊕((List Int)⊕Unit))
 | (a,b) =>
 cnd (decide (b<(List.length s:Int)))
  (bnd (aSM s b) fun d =>
  cnd (d.2==0)
  (some (.inr (.inr ())))
  (bnd (tapp a [d.1]) fun c =>
  some (.inl (c,(IntKind.wrap .i64 (b+d.2))))))
  (some (.inr (.inl a)))
abbrev aP7 (s:Str) (st:(List Int)×Int) (l:List PV) (u:UP):Prop:=l=[(.str s),(.slice [] [] true),(.bool false),(.slice (List.map (PV.int .i64) st.1) [] true),(i6 st.2)]/\u=[]
abbrev aP8 (s:Str) (p:(List Int)⊕Unit) (r:EU):Prop:=elim p (fun (p:(List Int))=>∃ (b:Int),r=(Ex.brk 0,[(.str s),(.slice [] [] true),(.bool false),(.slice (List.map (PV.int .i64) p) [] true),(i6 b)],[])) (fun d=>(fun (p:Unit)=>∃ (a:List Int),∃ (c:Int),r=(Ex.ret,[(.str s),(.slice [] [] true),(.bool false),(.slice (List.map (PV.int .i64) a) [] true),(i6 c)],[])) d)
noncomputable def aCk (s:Str):Option ((List Int)×Bool) :=
 bnd (aY (aBe s) ([],0)) fun b=>elim b
 (fun a =>
 some (a,true))
 (fun c =>
 some (([]:List Int),false))
def aTf:Decs:={decs:=[(15,(.tup [n6,n6])),(23,st')],loops:=[(3,[],⟨jT,[],[(some 0,jT,[]),(none,jT,[])]⟩)]}
theorem aTg O a (s:Str):eW 239 aTf Tryz.f239 O a [(.str s)] []=aDS O a s:=by kernel_rfl
theorem aKW s:Lok (aP7 s) (aBe s) (aDR O aE) (aP8 s):=by
 rintro ⟨b,c⟩ l u ⟨rfl,rfl⟩;simp only [aBe,aDR,zd,zr];refine zG ?_;try simp only [evs,tys]
 apply Imp.cnd
 ·refine zC rfl fun g _ => ?_;try simp only [zes,evs,tys]
  apply Imp.cnd;·exact zT ⟨b,c,zE⟩
  ·refine Imp.op (f:=fun a => .slice (List.map (PV.int .i64) a) [] true) (fun a h=>pX (enc:=(PV.int .i64)) zI zI (fun a=>by first | rfl | simp only [evs,tys,evc]) h) (fun a=>rfl) fun e d => ?_;try simp only [evs,tys]
   exact zN
 ·exact zB ⟨c,zE⟩
theorem aP9 s:Imp (aCk s) (aDS O aE s) (Ri sS):=by
 simp only [aCk,aDS,zd,zr];try simp only [evs,tys]
 refine zL (aKW s) ?_;rintro (c | p) e a
 ·try simp only [aK,aM]
  obtain ⟨d,rfl⟩:=a;refine zH ?_;try simp only [evs,tys]
  exact zR
 ·try simp only [aK,aM]
  obtain ⟨b,f,rfl⟩:=a;refine Imp.exMiss rfl ?_;refine zH ?_;try simp only [evs,tys]
  exact zR
theorem aQa {s r} (h:aCk s=some r):aVt s=some r:=zV aWW (aP9 s) Tryz.func239 (aTg _ _ s) h
abbrev dG:List Sh:=[n6,(.ptr 0 3 0),(.ptr 0 4 0),.bool,sf,n6,sf,sf,sf,.str,.str]
def wJ (O:Orc) (e:LBs):bL:=fun a c=>cnd (chkL dG a) (cnd (chkU [] c)
 (cnd (decide ((iv a 5)<(List.length (ev a 4):Int)))
 (bnd (ix 8 (zs a 4) (zn a 5)) fun b=>cnd (chk (.ref fE) b)
 (aQ O 59 [(.agg [(zs a 8),(zt a 9),(zt a 10)]),(.agg [(zs a 6),(zs a 7)]),(.agg [(zt (rf b) 0),(zn (rf b) 1),(zt (rf b) 2),(zt (rf b) 3),(zs (rf b) 4),(zs (rf b) 5),(zt (rf b) 6),(zs (rf b) 7)]),(zn a 0)] fun d=>cnd (chk .bool d)
 (cnd (!(bG d))
 (some (.ret,(pu (rb dG a) 3 (.bool false)),[]))
 (some (.nrm,(pu (rb dG a) 5 (i6 (w6 ((iv a 5)+1)))),[]))) none) none)
 (some (.brk 1,(rb dG a),[]))) none) none
def aGr (O:Orc) (e:LBs) (s:GSchema) (d:GDoc) (n:Int):Option (PV×UP) :=
 cnd (n==1)
 (aQ O 51 [(eD d)] fun E=>cnd (chk sf E)
 (aQ O 50 [(.slice (esV E) [] false)] fun x3=>cnd (chk .bool x3)
 (some ((.bool (!(bG x3))),[])) none) none)
 (cnd (n==2)
 (cnd (decide ((List.length (List.map aU d.ops):Int)>0))
 (cnd ((List.length (List.map aU d.ops):Int)==1)
 (some ((.bool true),[]))
 (aQ O 51 [(eD d)] fun D=>cnd (chk sf D)
 (some ((.bool ((List.length (esV D):Int)==(List.length (List.map aU d.ops):Int))),[])) none))
 (some ((.bool false),[])))
 (cnd (n==3)
 (aQ O 52 [(eS s),(eD d)] fun F=>cnd (chk .bool F)
 (some ((.bool (bG F)),[])) none)
 (cnd (n==4)
 (aQ O 53 [(eD d)] fun C=>cnd (chk sf C)
 (aQ O 50 [(.slice (esV C) [] false)] fun j=>cnd (chk .bool j)
 (some ((.bool (!(bG j))),[])) none) none)
 (cnd (n==5)
 (aQ O 54 [(eS s),(eD d)] fun m=>cnd (chk .bool m)
 (some ((.bool (bG m)),[])) none)
 (cnd (n==6)
 (aQ O 55 [(eS s),(eD d)] fun k=>cnd (chk .bool k)
 (some ((.bool (bG k)),[])) none)
 (cnd (n==7)
 (aQ O 56 [(eD d)] fun u=>cnd (chk .bool u)
 (some ((.bool (!(bG u))),[])) none)
 (cnd (n==8)
 (aQ O 57 [(eD d)] fun B=>cnd (chk .bool B)
 (some ((.bool (bG B)),[])) none)
 (cnd (n==9)
 (aQ O 58 [(eS s),(eD d)] fun y=>cnd (chk sf y)
 (bnd (e (wJ O e) [(i6 n),(.ptr 0 3 0),(.ptr 0 4 0),(.bool false),(.slice (esV y) [] false),(i6 0),(zq aU d.ops),(zq aG d.frags),(zq aH s.defs),(.str s.query),(.str s.mutation)] []) fun a =>
 exIs a.1 (some 1) (cnd (chkL dG a.2.1) (cnd (chkU [] a.2.2)
 (some ((.bool true),[])) none) none)
 (exIs a.1 none (cnd (chkL dG a.2.1) (cnd (chkU [] a.2.2)
 (some ((zb a.2.1 3),[])) none) none)
 (none))) none)
 (cnd (n==10)
 (aQ O 58 [(eS s),(eD d)] fun v=>cnd (chk sf v)
 (bnd (e (wJ O e) [(i6 n),(.ptr 0 3 0),(.ptr 0 4 0),(.bool false),(.slice (esV v) [] false),(i6 0),(zq aU d.ops),(zq aG d.frags),(zq aH s.defs),(.str s.query),(.str s.mutation)] []) fun b =>
 exIs b.1 (some 1) (cnd (chkL dG b.2.1) (cnd (chkU [] b.2.2)
 (some ((.bool true),[])) none) none)
 (exIs b.1 none (cnd (chkL dG b.2.1) (cnd (chkU [] b.2.2)
 (some ((zb b.2.1 3),[])) none) none)
 (none))) none)
 (cnd (n==11)
 (aQ O 58 [(eS s),(eD d)] fun g=>cnd (chk sf g)
 (bnd (e (wJ O e) [(i6 n),(.ptr 0 3 0),(.ptr 0 4 0),(.bool false),(.slice (esV g) [] false),(i6 0),(zq aU d.ops),(zq aG d.frags),(zq aH s.defs),(.str s.query),(.str s.mutation)] []) fun c =>
 exIs c.1 (some 1) (cnd (chkL dG c.2.1) (cnd (chkU [] c.2.2)
 (some ((.bool true),[])) none) none)
 (exIs c.1 none (cnd (chkL dG c.2.1) (cnd (chkU [] c.2.2)
 (some ((zb c.2.1 3),[])) none) none)
 (none))) none)
 (cnd (n==12)
 (aQ O 60 [(eS s),(eD d),(i6 n)] fun A=>cnd (chk .bool A)
 (some ((.bool (bG A)),[])) none)
 (cnd (n==13)
 (aQ O 60 [(eS s),(eD d),(i6 n)] fun o=>cnd (chk .bool o)
 (some ((.bool (bG o)),[])) none)
 (cnd (n==14)
 (aQ O 60 [(eS s),(eD d),(i6 n)] fun h=>cnd (chk .bool h)
 (some ((.bool (bG h)),[])) none)
 (cnd (n==15)
 (aQ O 61 [(eS s),(eD d),(i6 n)] fun w=>cnd (chk .bool w)
 (some ((.bool (bG w)),[])) none)
 (cnd (n==16)
 (aQ O 61 [(eS s),(eD d),(i6 n)] fun l=>cnd (chk .bool l)
 (some ((.bool (bG l)),[])) none)
 (cnd (n==17)
 (aQ O 61 [(eS s),(eD d),(i6 n)] fun q=>cnd (chk .bool q)
 (some ((.bool (bG q)),[])) none)
 (cnd (n==18)
 (aQ O 62 [(eS s),(eD d),(i6 n)] fun t=>cnd (chk .bool t)
 (some ((.bool (bG t)),[])) none)
 (cnd (n==19)
 (aQ O 62 [(eS s),(eD d),(i6 n)] fun z=>cnd (chk .bool z)
 (some ((.bool (bG z)),[])) none)
 (cnd (n==20)
 (aQ O 62 [(eS s),(eD d),(i6 n)] fun f=>cnd (chk .bool f)
 (some ((.bool (bG f)),[])) none)
 (cnd (n==21)
 (aQ O 62 [(eS s),(eD d),(i6 n)] fun p=>cnd (chk .bool p)
 (some ((.bool (bG p)),[])) none)
 (cnd (n==22)
 (aQ O 63 [(eS s),(eD d)] fun x=>cnd (chk .bool x)
 (some ((.bool (bG x)),[])) none)
 (cnd (n==23)
 (aQ O 64 [(eS s),(eD d)] fun i=>cnd (chk .bool i)
 (some ((.bool (bG i)),[])) none)
 (cnd (n==24)
 (aQ O 65 [(eS s),(eD d)] fun r=>cnd (chk .bool r)
 (some ((.bool (bG r)),[])) none)
 (some ((.bool false),[])))))))))))))))))))))))))
noncomputable def sV (s:GSchema) (d:GDoc) (n:Int) (b:List GSeineref13Spot):Int->Option (Int⊕(Unit⊕Unit))
 | a =>
 cnd (decide (a<(List.length b:Int)))
  (bnd (nthI b a) fun c =>
  bnd (aPG s d c n) fun e =>
  cnd (!e)
  (some (.inr (.inr ())))
  (some (.inl (IntKind.wrap .i64 (a+1)))))
  (some (.inr (.inl ())))
abbrev aDT (s:GSchema) (d:GDoc) (n:Int) (a:List GSeineref13Spot) (b:PV):List PV:=[(i6 n),(.ptr 0 3 0),(.ptr 0 4 0),(.bool false),(zq aJ a),b,(zq aU d.ops),(zq aG d.frags),(zq aH s.defs),(.str s.query),(.str s.mutation)]
abbrev aTh (s:GSchema) (d:GDoc) (n:Int) (a:List GSeineref13Spot) (st:Int) (l:List PV) (u:UP):Prop:=l=(aDT s d n a (i6 st))/\u=[]
abbrev aTi (s:GSchema) (d:GDoc) (n:Int) (a:List GSeineref13Spot) (p:Unit⊕Unit) (r:EU):Prop:=elim p (fun (p:Unit)=>∃ (c:Int),r=(Ex.brk 1,(aDT s d n a (i6 c)),[])) (fun (p:Unit)=>∃ (b:Int),r=(Ex.ret,(aDT s d n a (i6 b)),[]))
noncomputable def wK (s:GSchema) (d:GDoc) (n:Int):Option Bool :=
 cnd (n==1)
 (bnd (aVv d) fun y2 =>
 bnd (xN y2) fun y4 =>
 some (!y4))
 (cnd (n==2)
 (cnd (decide ((List.length d.ops:Int)>0))
 (cnd ((List.length d.ops:Int)==1)
 (some true)
 (bnd (aVv d) fun y6 =>
 some ((List.length y6:Int)==(List.length d.ops:Int))))
 (some false))
 (cnd (n==3)
 (bnd (bBL s d) fun y8 =>
 some y8)
 (cnd (n==4)
 (bnd (aPF d) fun e =>
 bnd (xN e) fun f =>
 some (!f))
 (cnd (n==5)
 (bnd (bBM s d) fun y14 =>
 some y14)
 (cnd (n==6)
 (bnd (bBN s d) fun p =>
 some p)
 (cnd (n==7)
 (bnd (bBO d) fun y18 =>
 some (!y18))
 (cnd (n==8)
 (bnd (bBP d) fun y20 =>
 some y20)
 (cnd (n==9)
 (bnd (aB7 s d) fun y22 =>
 bnd (aY (sV s d n y22) 0) fun c=>elim c
 (fun p35 =>
 some true)
 (fun p35 =>
 some false))
 (cnd (n==10)
 (bnd (aB7 s d) fun m =>
 bnd (aY (sV s d n m) 0) fun b=>elim b
 (fun o =>
 some true)
 (fun o =>
 some false))
 (cnd (n==11)
 (bnd (aB7 s d) fun y52 =>
 bnd (aY (sV s d n y52) 0) fun a=>elim a
 (fun k =>
 some true)
 (fun k =>
 some false))
 (cnd (n==12)
 (bnd (oS s d n) fun y67 =>
 some y67)
 (cnd (n==13)
 (bnd (oS s d n) fun q =>
 some q)
 (cnd (n==14)
 (bnd (oS s d n) fun y71 =>
 some y71)
 (cnd (n==15)
 (bnd (aF6 s d n) fun j =>
 some j)
 (cnd (n==16)
 (bnd (aF6 s d n) fun r =>
 some r)
 (cnd (n==17)
 (bnd (aF6 s d n) fun h =>
 some h)
 (cnd (n==18)
 (bnd (aCe s d n) fun g =>
 some g)
 (cnd (n==19)
 (bnd (aCe s d n) fun l =>
 some l)
 (cnd (n==20)
 (bnd (aCe s d n) fun y83 =>
 some y83)
 (cnd (n==21)
 (bnd (aCe s d n) fun y85 =>
 some y85)
 (cnd (n==22)
 (bnd (aZJ s d) fun i =>
 some i)
 (cnd (n==23)
 (bnd (aZK s d) fun y89 =>
 some y89)
 (cnd (n==24)
 (bnd (aZL s d) fun y91 =>
 some y91)
 (some false))))))))))))))))))))))))
def aXb:Decs:={decs:=[(13,sf),(14,.bool),(29,sf),(41,.bool),(45,sf),(46,.bool),(52,.bool),(57,.bool),(61,.bool),(66,.bool),(73,sf),(84,(.ref fE)),(87,.bool),(96,.bool),(104,.bool),(113,.bool),(118,.bool),(123,.bool),(128,.bool)],loops:=[(23,[(4,2),(3,3)],⟨dG,[],[(some 1,dG,[]),(none,dG,[])]⟩)]}
theorem aXc O a s d n:eW 20 aXb Tryz.f20 O a [(eS s),(eD d),(i6 n)] []=aGr O a s d n:=by kernel_rfl
theorem yC s d n b:Lok (aTh s d n b) (sV s d n b) (wJ O aE) (aTi s d n b):=by
 rintro a l u ⟨rfl,rfl⟩;simp only [sV,wJ,zd,zr];refine zG ?_;try simp only [evs,tys]
 apply Imp.cnd
 ·refine zX aJ lO fun c _ => ?_;try simp only [evs,tys]
  refine zC rfl fun e _ => ?_;try simp only [zes,evs,tys]
  apply Imp.cnd;·exact zT ⟨a,zE⟩
  ·exact zN
 ·exact zB ⟨a,zE⟩
theorem aTj s d n:Imp (wK s d n) (aGr O aE s d n) (Ri aA):=by
 simp only [wK,aGr,zd,zr];try simp only [evs,tys]
 apply Imp.cnd
 ·refine zC rfl fun y2 _ => ?_;try simp only [zes,evs,tys]
  refine zC rfl fun y4 _ => ?_;try simp only [zes,evs,tys]
  exact zR
 ·apply Imp.cnd
  ·apply Imp.cnd
   ·apply Imp.cnd;·exact zR
    ·refine zC rfl fun y6 _ => ?_;try simp only [zes,evs,tys]
     exact zR
   ·exact zR
  ·apply Imp.cnd
   ·refine zC rfl fun y8 _ => ?_;try simp only [zes,evs,tys]
    exact zR
   ·apply Imp.cnd
    ·refine zC rfl fun t _ => ?_;try simp only [zes,evs,tys]
     refine zC rfl fun u _ => ?_;try simp only [zes,evs,tys]
     exact zR
    ·apply Imp.cnd
     ·refine zC rfl fun y14 _ => ?_;try simp only [zes,evs,tys]
      exact zR
     ·apply Imp.cnd
      ·refine zC rfl fun y16 _ => ?_;try simp only [zes,evs,tys]
       exact zR
      ·apply Imp.cnd
       ·refine zC rfl fun y18 _ => ?_;try simp only [zes,evs,tys]
        exact zR
       ·apply Imp.cnd
        ·refine zC rfl fun y20 _ => ?_;try simp only [zes,evs,tys]
         exact zR
        ·apply Imp.cnd
         ·refine zC rfl fun g _ => ?_;try simp only [zes,evs,tys]
          refine zL (yC s d n g) ?_;rintro (p | p) m a
          ·try simp only [aK,aM]
           obtain ⟨r,rfl⟩:=a;refine zH ?_;try simp only [evs,tys]
           exact zR
          ·try simp only [aK,aM]
           obtain ⟨k,rfl⟩:=a;refine Imp.exMiss rfl ?_;refine zH ?_;try simp only [evs,tys]
           exact zR
         ·apply Imp.cnd
          ·refine zC rfl fun e _ => ?_;try simp only [zes,evs,tys]
           refine zL (yC s d n e) ?_;rintro (p | p) i b
           ·try simp only [aK,aM]
            obtain ⟨j,rfl⟩:=b;refine zH ?_;try simp only [evs,tys]
            exact zR
           ·try simp only [aK,aM]
            obtain ⟨l,rfl⟩:=b;refine Imp.exMiss rfl ?_;refine zH ?_;try simp only [evs,tys]
            exact zR
          ·apply Imp.cnd
           ·refine zC rfl fun f _ => ?_;try simp only [zes,evs,tys]
            refine zL (yC s d n f) ?_;rintro (p | p) o c
            ·try simp only [aK,aM]
             obtain ⟨h,rfl⟩:=c;refine zH ?_;try simp only [evs,tys]
             exact zR
            ·try simp only [aK,aM]
             obtain ⟨q,rfl⟩:=c;refine Imp.exMiss rfl ?_;refine zH ?_;try simp only [evs,tys]
             exact zR
           ·apply Imp.cnd
            ·refine zC rfl fun y67 _ => ?_;try simp only [zes,evs,tys]
             exact zR
            ·apply Imp.cnd
             ·refine zC rfl fun y69 _ => ?_;try simp only [zes,evs,tys]
              exact zR
             ·apply Imp.cnd
              ·refine zC rfl fun y71 _ => ?_;try simp only [zes,evs,tys]
               exact zR
              ·apply Imp.cnd
               ·refine zC rfl fun y73 _ => ?_;try simp only [zes,evs,tys]
                exact zR
               ·apply Imp.cnd
                ·refine zC rfl fun y75 _ => ?_;try simp only [zes,evs,tys]
                 exact zR
                ·apply Imp.cnd
                 ·refine zC rfl fun w _ => ?_;try simp only [zes,evs,tys]
                  exact zR
                 ·apply Imp.cnd
                  ·refine zC rfl fun v _ => ?_;try simp only [zes,evs,tys]
                   exact zR
                  ·apply Imp.cnd
                   ·refine zC rfl fun y81 _ => ?_;try simp only [zes,evs,tys]
                    exact zR
                   ·apply Imp.cnd
                    ·refine zC rfl fun y83 _ => ?_;try simp only [zes,evs,tys]
                     exact zR
                    ·apply Imp.cnd
                     ·refine zC rfl fun y85 _ => ?_;try simp only [zes,evs,tys]
                      exact zR
                     ·apply Imp.cnd
                      ·refine zC rfl fun y87 _ => ?_;try simp only [zes,evs,tys]
                       exact zR
                      ·apply Imp.cnd
                       ·refine zC rfl fun y89 _ => ?_;try simp only [zes,evs,tys]
                        exact zR
                       ·apply Imp.cnd
                        ·refine zC rfl fun y91 _ => ?_;try simp only [zes,evs,tys]
                         exact zR
                        ·exact zR
theorem aDU {s d n r} (h:wK s d n=some r):xL s d n=some r:=zV aD (aTj s d n) Tryz.func20 (aXc _ _ s d n) h
def yD (O:Orc) (b:LBs) (a:Str):Option (PV×UP) :=
 cnd (!(a==([115,107,105,112]:Str)))
 (cnd (!(a==([105,110,99,108,117,100,101]:Str)))
 (some ((.tuple [(.agg [(.str []),(.str []),(i6 0),(i6 0),(.bool false),(i6 0),(i6 0),(.str []),(.slice [] [] false),(.slice [] [] false)]),(.bool false)]),[]))
 (some ((.tuple [(.agg [(.str [105,102]),(.str [66,111,111,108,101,97,110]),(i6 0),(i6 1),(.bool false),(i6 0),(i6 0),(.str []),(.slice [] [] false),(.slice [] [] false)]),(.bool true)]),[])))
 (some ((.tuple [(.agg [(.str [105,102]),(.str [66,111,111,108,101,97,110]),(i6 0),(i6 1),(.bool false),(i6 0),(i6 0),(.str []),(.slice [] [] false),(.slice [] [] false)]),(.bool true)]),[]))
noncomputable def uC (a:Str):Option (GParam×Bool) :=
 cnd (!(a==([115,107,105,112]:Str)))
 (cnd (!(a==([105,110,99,108,117,100,101]:Str)))
 (some ((GParam.mk [] (GType.mk [] 0 0) false (GValue.mk 0 0 [] ([]:List GValue) ([]:List GMember))),false))
 (some ((GParam.mk [105,102] (GType.mk [66,111,111,108,101,97,110] 0 1) false (GValue.mk 0 0 [] ([]:List GValue) ([]:List GMember))),true)))
 (some ((GParam.mk [105,102] (GType.mk [66,111,111,108,101,97,110] 0 1) false (GValue.mk 0 0 [] ([]:List GValue) ([]:List GMember))),true))
def aNz:Decs:={}
theorem aNA O b (a:Str):eW 34 aNz Tryz.f34 O b [(.str a)] []=yD O b a:=by kernel_rfl
theorem aKX a:Imp (uC a) (yD O aE a) (Ri fV):=by
 simp only [uC,yD,zd,zr];try simp only [evs,tys]
 apply Imp.cnd
 ·apply Imp.cnd;·exact zR
  ·exact zR
 ·exact zR
theorem aKY {a r} (h:uC a=some r):aB8 a=some r:=zV aAX (aKX a) Tryz.func34 (aNA _ _ a) h
abbrev mO:List Sh:=[(.ptr 0 1 0),st',sf,n6,n6,sf,sf]
def aDV (O:Orc) (e:LBs):bL:=fun a c=>cnd (chkL mO a) (cnd (chkU [] c)
 (cnd (decide ((iv a 4)<(iv a 3)))
 (bnd (ix 5 (zs a 2) (zn a 4)) fun d=>cnd (chk (.ref shOp) d)
 (bnd (apd 1 (zo a 1) (.slice [(zs (rf d) 3)] [] true)) fun b=>cnd (chk st' b)
 (some (.nrm,(pu (pu (rb mO a) 1 (.slice (esV b) [] true)) 4 (i6 (w6 ((iv a 4)+1)))),[])) none) none)
 (some (.brk 0,(rb mO a),[]))) none) none
abbrev mP:List Sh:=[st',sf,n6,n6,sf,sf]
def aDW (O:Orc) (e:LBs):bL:=fun a c=>cnd (chkL mP a) (cnd (chkU [] c)
 (cnd (decide ((iv a 3)<(iv a 2)))
 (bnd (ix 4 (zs a 1) (zn a 3)) fun d=>cnd (chk (.ref gW) d)
 (bnd (apd 1 (zo a 0) (.slice [(zs (rf d) 2)] [] true)) fun b=>cnd (chk st' b)
 (some (.nrm,(pu (pu (rb mP a) 0 (.slice (esV b) [] true)) 3 (i6 (w6 ((iv a 3)+1)))),[])) none) none)
 (some (.brk 2,(rb mP a),[]))) none) none
def aDX (O:Orc) (c:LBs) (d:GDoc):Option (PV×UP) :=
 bnd (c (aDV O c) [(.ptr 0 1 0),(.slice [] [] true),(zq aU d.ops),(i6 (List.length (List.map aU d.ops):Int)),(i6 0),(zq aU d.ops),(zq aG d.frags)] []) fun a =>
 exIs a.1 (some 0) (cnd (chkL mO a.2.1) (cnd (chkU [] a.2.2)
 (bnd (c (aDW O c) [(zo a.2.1 1),(zs a.2.1 6),(i6 (List.length (ev a.2.1 6):Int)),(i6 0),(zs a.2.1 5),(zs a.2.1 6)] []) fun b =>
 exIs b.1 (some 2) (cnd (chkL mP b.2.1) (cnd (chkU [] b.2.2)
 (some ((zs b.2.1 0),[])) none) none)
 (none)) none) none)
 (none)
noncomputable def mQ (d:GDoc):((List (List GDir))×Int)->Option (((List (List GDir))×Int)⊕((List (List GDir))))
 | (b,a) =>
 cnd (decide (a<(List.length d.ops:Int)))
  (bnd (nthI d.ops a) fun e =>
  bnd (tapp b [e.dirs]) fun c =>
  some (.inl (c,(IntKind.wrap .i64 (a+1)))))
  (some (.inr b))
abbrev aHg (d:GDoc) (a b:PV):List PV:=[(.ptr 0 1 0),a,(zq aU d.ops),(i6 (List.length d.ops:Int)),b,(zq aU d.ops),(zq aG d.frags)]
abbrev aQb (d:GDoc) (st:(List (List GDir))×Int) (l:List PV) (u:UP):Prop:=l=(aHg d (.slice (List.map (cL aF) st.1) [] true) (i6 st.2))/\u=[]
abbrev aQc (d:GDoc) (p:(List (List GDir))) (r:EU):Prop:=∃ (a:Int),r=(Ex.brk 0,(aHg d (.slice (List.map (cL aF) p) [] true) (i6 a)),[])
noncomputable def mR (d:GDoc):((List (List GDir))×Int)->Option (((List (List GDir))×Int)⊕((List (List GDir))))
 | (b,a) =>
 cnd (decide (a<(List.length d.frags:Int)))
  (bnd (nthI d.frags a) fun e =>
  bnd (tapp b [e.dirs]) fun c =>
  some (.inl (c,(IntKind.wrap .i64 (a+1)))))
  (some (.inr b))
abbrev aHh (d:GDoc) (a b:PV):List PV:=[a,(zq aG d.frags),(i6 (List.length d.frags:Int)),b,(zq aU d.ops),(zq aG d.frags)]
abbrev aQd (d:GDoc) (st:(List (List GDir))×Int) (l:List PV) (u:UP):Prop:=l=(aHh d (.slice (List.map (cL aF) st.1) [] true) (i6 st.2))/\u=[]
abbrev aQe (d:GDoc) (p:(List (List GDir))) (r:EU):Prop:=∃ (a:Int),r=(Ex.brk 2,(aHh d (.slice (List.map (cL aF) p) [] true) (i6 a)),[])
noncomputable def aCl (d:GDoc):Option (List (List GDir)) :=
 bnd (aY (mQ d) ([],0)) fun a =>
 bnd (aY (mR d) (a,0)) fun b =>
 some b
def aTk:Decs:={decs:=[(13,(.ref shOp)),(19,st'),(26,(.ref gW)),(32,st')],loops:=[(3,[(1,2)],⟨mO,[],[(some 0,mO,[])]⟩),(8,[(1,2)],⟨mP,[],[(some 2,mP,[])]⟩)]}
theorem aTl O a d:eW 104 aTk Tryz.f104 O a [(eD d)] []=aDX O a d:=by kernel_rfl
theorem aKZ d:Lok (aQb d) (mQ d) (aDV O aE) (aQc d):=by
 rintro ⟨e,b⟩ l u ⟨rfl,rfl⟩;simp only [mQ,aDV,zd,zr];refine zG ?_;try simp only [evs,tys]
 apply Imp.cnd
 ·refine zX aU aDo fun i _ => ?_;try simp only [evs,tys]
  refine Imp.op (f:=fun a => .slice (List.map (cL aF) a) [] true) (fun a h=>pX (enc:=(cL aF)) zI zI (fun a=>by first | rfl | simp only [evs,tys,evc]) h) (fun a=>rfl) fun g c => ?_;try simp only [evs,tys]
  exact zN
 ·exact zB ⟨b,zE⟩
theorem aK0 d:Lok (aQd d) (mR d) (aDW O aE) (aQe d):=by
 rintro ⟨c,b⟩ l u ⟨rfl,rfl⟩;simp only [mR,aDW,zd,zr];refine zG ?_;try simp only [evs,tys]
 apply Imp.cnd
 ·refine zX aG iS fun i _ => ?_;try simp only [evs,tys]
  refine Imp.op (f:=fun a => .slice (List.map (cL aF) a) [] true) (fun a h=>pX (enc:=(cL aF)) zI zI (fun a=>by first | rfl | simp only [evs,tys,evc]) h) (fun a=>rfl) fun g e => ?_;try simp only [evs,tys]
  exact zN
 ·exact zB ⟨b,zE⟩
theorem aQf d:Imp (aCl d) (aDX O aE d) (Ri sT):=by
 simp only [aCl,aDX,zd,zr];try simp only [evs,tys]
 refine zL (aKZ d) ?_;rintro a _ ⟨b,rfl⟩;refine zH ?_;try simp only [evs,tys]
 refine zL (aK0 d) ?_;rintro c _ ⟨e,rfl⟩;refine zH ?_;try simp only [evs,tys]
 exact zR
theorem aQg {d r} (h:aCl d=some r):aE2 d=some r:=zV aMc (aQf d) Tryz.func104 (aTl _ _ d) h
end Go.Proofs.YtphmfillajagdaaGreat

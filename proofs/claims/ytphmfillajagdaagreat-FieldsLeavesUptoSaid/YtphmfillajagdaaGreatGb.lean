import Derived.Test.YtphmfillajagdaaGreatGa
set_option maxRecDepth 100000
set_option linter.unusedVariables false
set_option linter.unusedSimpArgs false
set_option linter.unusedSimpArgs false
open Go Go.Ev Go.Ev.PV
namespace Go.Proofs.YtphmfillajagdaaGreat
abbrev fI:List Sh:=[(.ptr 0 1 0),n6,n6,sf,.str,.str]
def aBM (O:Orc) (LP:LBs):cG:=fun s1 s1u=>cnd (chkL fI s1) (cnd (chkU [] s1u)
 (cnd (decide ((iv s1 2)≤9))
 (aM O 32 [(.agg [(zs s1 3),(zt s1 4),(zt s1 5)]),(zn s1 2)] fun x5=>cnd (chk .bool x5)
 (cnd (!(aV x5))
 (some (.ret,(pu (rb fI s1) 1 (zn s1 2)),[]))
 (some (.nrm,(pu (rb fI s1) 2 (i6 (w6 ((iv s1 2)+1)))),[]))) none)
 (some (.brk 0,(rb fI s1),[]))) none) none
def aBN (O:Orc) (LP:LBs) (s:GSchema):Option (PV×UP) :=
 bnd (LP (aBM O LP) [(.ptr 0 1 0),(i6 0),(i6 1),(zq aK s.defs),(.str s.query),(.str s.mutation)] []) fun y10 =>
 exIs y10.1 (some 0) (cnd (chkL fI y10.2.1) (cnd (chkU [] y10.2.2)
 (some ((i6 0),[])) none) none)
 (exIs y10.1 none (cnd (chkL fI y10.2.1) (cnd (chkU [] y10.2.2)
 (some ((zn y10.2.1 1),[])) none) none)
 (none))
noncomputable def iW (s:GSchema):Int→Option (Int⊕(Unit⊕Int))
 | n_4 =>
 cnd (decide (n_4≤9))
  (bnd (yM s n_4) fun y6 =>
  cnd (!y6)
  (some (.inr (.inr n_4)))
  (some (.inl (IntKind.wrap .i64 (n_4+1)))))
  (some (.inr (.inl ())))
abbrev yT (s:GSchema) (a0 a1:PV):List PV:=[(.ptr 0 1 0),a0,a1,(zq aK s.defs),(.str s.query),(.str s.mutation)]
abbrev aMA (s:GSchema) (st:Int) (l:List PV) (u:UP):Prop:=l=(yT s (i6 0) (i6 st))∧u=[]
abbrev aMB (s:GSchema) (p:Unit⊕Int) (r:EU):Prop:=elim p (fun (p:Unit)=>∃ (n_7:Int),r=(Ex.brk 0,(yT s (i6 0) (i6 n_7)),[])) (fun (p:Int)=>∃ (n_9:Int),r=(Ex.ret,(yT s (i6 p) (i6 n_9)),[]))
noncomputable def aAL (s:GSchema):Option Int :=
 bnd (bJ (iW s) 1) fun e10_2=>elim e10_2
 (fun p10 =>
 some 0)
 (fun t_8 =>
 some t_8)
def aPz:Decs:={decs:=[(10,.bool)],loops:=[(2,[(1,3)],⟨fI,[],[(some 0,fI,[]),(none,fI,[])]⟩)]}
theorem aPA (O:Orc) (LP:LBs) (s:GSchema):eW 10 aPz Tryz.f10 O LP [(eS s)] []=aBN O LP s:=by kernel_rfl
theorem aH9 (s:GSchema):Lok (aMA s) (iW s) (aBM O aE) (aMB s):=by
 rintro n_4 l u ⟨rfl,rfl⟩
 simp only [iW,aBM,zd,zr]
 refine zG ?_
 try simp only [evs,tys]
 apply Imp.cnd
 ·refine zC rfl fun y6 _ => ?_
  try simp only [zes,evs,tys]
  apply Imp.cnd
  ·exact zT ⟨n_4,zE⟩
  ·exact zN
 ·exact zB ⟨n_4,zE⟩
theorem aMC (s:GSchema):Imp (aAL s) (aBN O aE s) (Ri cM):=by
 simp only [aAL,aBN,zd,zr]
 try simp only [evs,tys]
 refine zL (aH9 s) ?_
 rintro (p | t_8) vy10 hy10
 ·try simp only [aO,aP]
  obtain ⟨n_7,rfl⟩:=hy10
  refine zH ?_
  try simp only [evs,tys]
  exact zR
 ·try simp only [aO,aP]
  obtain ⟨n_9,rfl⟩:=hy10
  refine Imp.exMiss rfl ?_
  refine zH ?_
  try simp only [evs,tys]
  exact zR
theorem aMD {s:GSchema} {r:Int} (h:aAL s=some r):sG s=some r:=zV qI (aMC s) Tryz.func10 (aPA _ _ s) h
abbrev gY:List Sh:=[n6,(.ptr 0 3 0),(.ptr 0 4 0),.bool,n6,sf,sf,sf,.str,.str]
def aEf (O:Orc) (LP:LBs):cG:=fun s3 s3u=>cnd (chkL gY s3) (cnd (chkU [] s3u)
 (cnd (decide ((iv s3 4)<(iv s3 0)))
 (aM O 20 [(.agg [(zs s3 7),(zt s3 8),(zt s3 9)]),(.agg [(zs s3 5),(zs s3 6)]),(zn s3 4)] fun x7=>cnd (chk .bool x7)
 (cnd (!(aV x7))
 (some (.ret,(pu (rb gY s3) 3 (.bool false)),[]))
 (some (.nrm,(pu (rb gY s3) 4 (i6 (w6 ((iv s3 4)+1)))),[]))) none)
 (some (.brk 0,(rb gY s3),[]))) none) none
def aEg (O:Orc) (LP:LBs) (s:GSchema) (d:GDoc) (n:Int):Option (PV×UP) :=
 aM O 33 [(eD d)] fun x1=>cnd (chk .bool x1)
 (cnd (!(aV x1))
 (some ((.bool false),[]))
 (bnd (LP (aEf O LP) [(i6 n),(.ptr 0 3 0),(.ptr 0 4 0),(.bool false),(i6 1),(zq bL d.ops),(zq aJ d.frags),(zq aK s.defs),(.str s.query),(.str s.mutation)] []) fun y11 =>
 exIs y11.1 (some 0) (cnd (chkL gY y11.2.1) (cnd (chkU [] y11.2.2)
 (some ((.bool true),[])) none) none)
 (exIs y11.1 none (cnd (chkL gY y11.2.1) (cnd (chkU [] y11.2.2)
 (some ((zb y11.2.1 3),[])) none) none)
 (none)))) none
noncomputable def kR (s:GSchema) (d:GDoc) (n:Int):Int→Option (Int⊕(Unit⊕Unit))
 | k_6 =>
 cnd (decide (k_6<n))
  (bnd (yN s d k_6) fun y8 =>
  cnd (!y8)
  (some (.inr (.inr ())))
  (some (.inl (IntKind.wrap .i64 (k_6+1)))))
  (some (.inr (.inl ())))
abbrev aBO (s:GSchema) (d:GDoc) (n:Int) (a0:PV):List PV:=[(i6 n),(.ptr 0 3 0),(.ptr 0 4 0),(.bool false),a0,(zq bL d.ops),(zq aJ d.frags),(zq aK s.defs),(.str s.query),(.str s.mutation)]
abbrev aPB (s:GSchema) (d:GDoc) (n:Int) (st:Int) (l:List PV) (u:UP):Prop:=l=(aBO s d n (i6 st))∧u=[]
abbrev aPC (s:GSchema) (d:GDoc) (n:Int) (p:Unit⊕Unit) (r:EU):Prop:=elim p (fun (p:Unit)=>∃ (k_9:Int),r=(Ex.brk 0,(aBO s d n (i6 k_9)),[])) (fun (p:Unit)=>∃ (k_10:Int),r=(Ex.ret,(aBO s d n (i6 k_10)),[]))
noncomputable def uD (s:GSchema) (d:GDoc) (n:Int):Option Bool :=
 bnd (aSg d) fun y2 =>
 cnd (!y2)
 (some false)
 (bnd (bJ (kR s d n) 1) fun e11_2=>elim e11_2
 (fun p11 =>
 some true)
 (fun p11 =>
 some false))
def aTJ:Decs:={decs:=[(9,.bool),(19,.bool)],loops:=[(4,[(4,2),(3,3)],⟨gY,[],[(some 0,gY,[]),(none,gY,[])]⟩)]}
theorem aTK (O:Orc) (LP:LBs) (s:GSchema) (d:GDoc) (n:Int):eW 11 aTJ Tryz.f11 O LP [(eS s),(eD d),(i6 n)] []=aEg O LP s d n:=by kernel_rfl
theorem aKz (s:GSchema) (d:GDoc) (n:Int):Lok (aPB s d n) (kR s d n) (aEf O aE) (aPC s d n):=by
 rintro k_6 l u ⟨rfl,rfl⟩
 simp only [kR,aEf,zd,zr]
 refine zG ?_
 try simp only [evs,tys]
 apply Imp.cnd
 ·refine zC rfl fun y8 _ => ?_
  try simp only [zes,evs,tys]
  apply Imp.cnd
  ·exact zT ⟨k_6,zE⟩
  ·exact zN
 ·exact zB ⟨k_6,zE⟩
theorem aPD (s:GSchema) (d:GDoc) (n:Int):Imp (uD s d n) (aEg O aE s d n) (Ri aA):=by
 simp only [uD,aEg,zd,zr]
 try simp only [evs,tys]
 refine zC rfl fun y2 _ => ?_
 try simp only [zes,evs,tys]
 apply Imp.cnd
 ·exact zR
 ·refine zL (aKz s d n) ?_
  rintro (p | p) vy11 hy11
  ·try simp only [aO,aP]
   obtain ⟨k_9,rfl⟩:=hy11
   refine zH ?_
   try simp only [evs,tys]
   exact zR
  ·try simp only [aO,aP]
   obtain ⟨k_10,rfl⟩:=hy11
   refine Imp.exMiss rfl ?_
   refine zH ?_
   try simp only [evs,tys]
   exact zR
theorem aBP {s:GSchema} {d:GDoc} {n:Int} {r:Bool} (h:uD s d n=some r):aG3 s d n=some r:=zV aC (aPD s d n) Tryz.func11 (aTK _ _ s d n) h
def kS (O:Orc) (LP:LBs) (s:GSchema) (d:GDoc):Option (PV×UP) :=
 aM O 30 [(eS s)] fun x1=>cnd (chk .bool x1)
 (cnd (aV x1)
 (aM O 31 [(eD d)] fun x3=>cnd (chk .bool x3)
 (some ((.bool (aV x3)),[])) none)
 (some ((.bool false),[]))) none
noncomputable def iM (s:GSchema) (d:GDoc):Option Bool :=
 bnd (yO s) fun y2 =>
 cnd y2
 (bnd (yP d) fun y4 =>
 some y4)
 (some false)
def aBQ:Decs:={decs:=[(6,.bool),(9,.bool)]}
theorem aBR (O:Orc) (LP:LBs) (s:GSchema) (d:GDoc):eW 21 aBQ Tryz.f21 O LP [(eS s),(eD d)] []=kS O LP s d:=by kernel_rfl
theorem aA4 (s:GSchema) (d:GDoc):Imp (iM s d) (kS O aE s d) (Ri aA):=by
 simp only [iM,kS,zd,zr]
 try simp only [evs,tys]
 refine zC rfl fun y2 _ => ?_
 try simp only [zes,evs,tys]
 apply Imp.cnd
 ·refine zC rfl fun y4 _ => ?_
  try simp only [zes,evs,tys]
  exact zR
 ·exact zR
theorem aA5 {s:GSchema} {d:GDoc} {r:Bool} (h:iM s d=some r):iD s d=some r:=zV aC (aA4 s d) Tryz.func21 (aBR _ _ s d) h
theorem aA6 {r:Bool} (n:Nat) (h:aL9 Tryz.prog MT XT n 22 [] []=some (aA r,[])):kI=some r:=aH4 (pV aC) (aXE n h)
def pH (O:Orc) (LP:LBs) (l0:List GSel):Option (PV×UP) :=
 aM O 69 [(.slice [] [] true),(zq aF l0)] fun x1=>cnd (chk st' x1)
 (some ((.slice (esV x1) [] false),[])) none
noncomputable def mR (l0:List GSel):Option (List Str) :=
 bnd (fH ([]:List Str) l0) fun y2 =>
 some y2
def aFC:Decs:={decs:=[(4,st')]}
theorem aFD (O:Orc) (LP:LBs) (l0:List GSel):eW 23 aFC Tryz.f23 O LP [(zq aF l0)] []=pH O LP l0:=by kernel_rfl
theorem aEh (l0:List GSel):Imp (mR l0) (pH O aE l0) (Ri cN):=by
 simp only [mR,pH,zd,zr]
 try simp only [evs,tys]
 refine zC rfl fun y2 _ => ?_
 try simp only [zes,evs,tys]
 exact zR
theorem aEi {l0:List GSel} {r:List Str} (h:mR l0=some r):qA l0=some r:=zV yK (aEh l0) Tryz.func23 (aFD _ _ l0) h
def yU (O:Orc) (LP:LBs) (typ:Str) (x:GSel) (u0_5:Int) (u0_4:GDoc) (u0_3:GSchema):Option (PV×UP) :=
 cnd (u0_5==9)
 (aM O 72 [(eS u0_3),(.str typ),(eL x)] fun x1=>cnd (chk .bool x1)
 (some ((.bool (aV x1)),[[(5,[(i6 u0_5)]),(4,[(zq bL u0_4.ops),(zq aJ u0_4.frags)]),(3,[(zq aK u0_3.defs),(.str u0_3.query),(.str u0_3.mutation)])]])) none)
 (cnd (u0_5==10)
 (aM O 73 [(eS u0_3),(.str typ),(eL x)] fun x3=>cnd (chk .bool x3)
 (some ((.bool (aV x3)),[[(5,[(i6 u0_5)]),(4,[(zq bL u0_4.ops),(zq aJ u0_4.frags)]),(3,[(zq aK u0_3.defs),(.str u0_3.query),(.str u0_3.mutation)])]])) none)
 (cnd (u0_5==11)
 (aM O 74 [(eS u0_3),(eD u0_4),(.str typ),(eL x)] fun x5=>cnd (chk .bool x5)
 (some ((.bool (aV x5)),[[(5,[(i6 u0_5)]),(4,[(zq bL u0_4.ops),(zq aJ u0_4.frags)]),(3,[(zq aK u0_3.defs),(.str u0_3.query),(.str u0_3.mutation)])]])) none)
 (some ((.bool false),[[(5,[(i6 u0_5)]),(4,[(zq bL u0_4.ops),(zq aJ u0_4.frags)]),(3,[(zq aK u0_3.defs),(.str u0_3.query),(.str u0_3.mutation)])]]))))
noncomputable def vM (typ:Str) (x:GSel) (u0_5:Int) (u0_4:GDoc) (u0_3:GSchema):Option Bool :=
 cnd (u0_5==9)
 (bnd (aKt u0_3 typ x) fun y2 =>
 some y2)
 (cnd (u0_5==10)
 (bnd (aPt u0_3 typ x) fun y4 =>
 some y4)
 (cnd (u0_5==11)
 (bnd (aYa u0_3 u0_4 typ x) fun y6 =>
 some y6)
 (some false)))
def aME:Decs:={decs:=[(14,.bool),(20,.bool),(27,.bool)]}
theorem aMF (O:Orc) (LP:LBs) (typ:Str) (x:GSel) (u0_5:Int) (u0_4:GDoc) (u0_3:GSchema):eW 71 aME Tryz.f71 O LP [(.str typ),(eL x),(.ptr 1 5 0),(.ptr 1 3 0),(.ptr 1 4 0)] [[(5,[(i6 u0_5)]),(4,[(zq bL u0_4.ops),(zq aJ u0_4.frags)]),(3,[(zq aK u0_3.defs),(.str u0_3.query),(.str u0_3.mutation)])]]=yU O LP typ x u0_5 u0_4 u0_3:=by kernel_rfl
theorem aKA (typ:Str) (x:GSel) (u0_5:Int) (u0_4:GDoc) (u0_3:GSchema):Imp (vM typ x u0_5 u0_4 u0_3) (yU O aE typ x u0_5 u0_4 u0_3) (fun r v=>v=(aA r,(iJ typ x u0_5 u0_4 u0_3 r))):=by
 simp only [vM,yU,zd,zr]
 try simp only [evs,tys]
 apply Imp.cnd
 ·refine zC rfl fun y2 _ => ?_
  try simp only [zes,evs,tys]
  exact Imp.some (by first | rfl | simp only [zes,iJ,evs,tys,evl])
 ·apply Imp.cnd
  ·refine zC rfl fun y4 _ => ?_
   try simp only [zes,evs,tys]
   exact Imp.some (by first | rfl | simp only [zes,iJ,evs,tys,evl])
  ·apply Imp.cnd
   ·refine zC rfl fun y6 _ => ?_
    try simp only [zes,evs,tys]
    exact Imp.some (by first | rfl | simp only [zes,iJ,evs,tys,evl])
   ·exact Imp.some (by first | rfl | simp only [zes,iJ,evs,tys,evl])
theorem aKB {typ:Str} {x:GSel} {u0_5:Int} {u0_4:GDoc} {u0_3:GSchema} {r:Bool} (h:vM typ x u0_5 u0_4 u0_3=some r):aG4 typ x u0_5 u0_4 u0_3=some r:=zV aC (aKA typ x u0_5 u0_4 u0_3) Tryz.func71 (aMF _ _ typ x u0_5 u0_4 u0_3) h
abbrev nN:List Sh:=[.str,(.func 71 [] [(.ptr 1 5 0),(.ptr 1 3 0),(.ptr 1 4 0)]),(.ptr 0 4 0),.bool,sf,n6,n6,sf,.str,.str]
def aHa (O:Orc) (LP:LBs):cG:=fun s1 s1u=>cnd (chkL nN s1) (cnd (chkU [[(5,[n6]),(4,[sf,sf]),(3,[sf,.str,.str])]] s1u)
 (cnd (decide ((iv s1 6)<(iv s1 5)))
 (bnd (ix 7 (zs s1 4) (zn s1 6)) fun x12=>cnd (chk (.ref pW) x12)
 (bnd (O 71 [(zt s1 0),(.agg [(zn (rf x12) 0),(zt (rf x12) 1),(zt (rf x12) 2),(zs (rf x12) 3),(zs (rf x12) 4),(zt (rf x12) 5),(zs (rf x12) 6)]),(.ptr 2 5 0),(.ptr 2 3 0),(.ptr 2 4 0)] [[(11,[(zn (rf x12) 0),(zt (rf x12) 1),(zt (rf x12) 2),(zs (rf x12) 3),(zs (rf x12) 4),(zt (rf x12) 5),(zs (rf x12) 6)]),(4,[(zs s1 7),(zt s1 8),(zt s1 9)])],[(5,[(zn (bx s1u 0 0) 0)]),(4,[(zs (bx s1u 0 1) 0),(zs (bx s1u 0 1) 1)]),(3,[(zs (bx s1u 0 2) 0),(zt (bx s1u 0 2) 1),(zt (bx s1u 0 2) 2)])]]) fun x14=>cnd (chkU [[(11,[n6,.str,.str,sf,sf,.str,sf]),(4,[sf,.str,.str])],[(5,[n6]),(4,[sf,sf]),(3,[sf,.str,.str])]] x14.2) (cnd (chk .bool x14.1)
 (cnd (aV x14.1)
 (aM O 138 [(.agg [(zs (bx x14.2 0 1) 0),(zt (bx x14.2 0 1) 1),(zt (bx x14.2 0 1) 2)]),(zt s1 0),(.agg [(zn (bx x14.2 0 0) 0),(zt (bx x14.2 0 0) 1),(zt (bx x14.2 0 0) 2),(zs (bx x14.2 0 0) 3),(zs (bx x14.2 0 0) 4),(zt (bx x14.2 0 0) 5),(zs (bx x14.2 0 0) 6)])] fun x16=>cnd (chk .str x16)
 (bnd (O 137 [(.agg [(zs (bx x14.2 0 1) 0),(zt (bx x14.2 0 1) 1),(zt (bx x14.2 0 1) 2)]),(.str (strV x16)),(zs (bx x14.2 0 0) 6),(.func (.func 71) [] [(.ptr 2 5 0),(.ptr 2 3 0),(.ptr 2 4 0)])] [[(11,[(zn (bx x14.2 0 0) 0),(zt (bx x14.2 0 0) 1),(zt (bx x14.2 0 0) 2),(zs (bx x14.2 0 0) 3),(zs (bx x14.2 0 0) 4),(zt (bx x14.2 0 0) 5),(zs (bx x14.2 0 0) 6)]),(4,[(zs (bx x14.2 0 1) 0),(zt (bx x14.2 0 1) 1),(zt (bx x14.2 0 1) 2)])],[(5,[(zn (bx x14.2 1 0) 0)]),(4,[(zs (bx x14.2 1 1) 0),(zs (bx x14.2 1 1) 1)]),(3,[(zs (bx x14.2 1 2) 0),(zt (bx x14.2 1 2) 1),(zt (bx x14.2 1 2) 2)])]]) fun x18=>cnd (chkU [[(11,[n6,.str,.str,sf,sf,.str,sf]),(4,[sf,.str,.str])],[(5,[n6]),(4,[sf,sf]),(3,[sf,.str,.str])]] x18.2) (cnd (chk .bool x18.1)
 (cnd (!(aV x18.1))
 (some (.brk 0,(pu (pu (pu (pu (pu (rb nN s1) 1 (.func (.func 71) [] [(.ptr 1 5 0),(.ptr 1 3 0),(.ptr 1 4 0)])) 3 (.bool (aV x18.1))) 7 (zs (bx x18.2 0 1) 0)) 8 (zt (bx x18.2 0 1) 1)) 9 (zt (bx x18.2 0 1) 2)),[[(5,[(zn (bx x18.2 1 0) 0)]),(4,[(zs (bx x18.2 1 1) 0),(zs (bx x18.2 1 1) 1)]),(3,[(zs (bx x18.2 1 2) 0),(zt (bx x18.2 1 2) 1),(zt (bx x18.2 1 2) 2)])]]))
 (some (.nrm,[(zt s1 0),(.func (.func 71) [] [(.ptr 1 5 0),(.ptr 1 3 0),(.ptr 1 4 0)]),(.ptr 0 4 0),(.bool (aV x18.1)),(zs s1 4),(zn s1 5),(i6 (w6 ((iv s1 6)+1))),(zs (bx x18.2 0 1) 0),(zt (bx x18.2 0 1) 1),(zt (bx x18.2 0 1) 2)],[[(5,[(zn (bx x18.2 1 0) 0)]),(4,[(zs (bx x18.2 1 1) 0),(zs (bx x18.2 1 1) 1)]),(3,[(zs (bx x18.2 1 2) 0),(zt (bx x18.2 1 2) 1),(zt (bx x18.2 1 2) 2)])]]))) none) none) none)
 (some (.brk 0,(pu (pu (pu (pu (pu (rb nN s1) 1 (.func (.func 71) [] [(.ptr 1 5 0),(.ptr 1 3 0),(.ptr 1 4 0)])) 3 (.bool false)) 7 (zs (bx x14.2 0 1) 0)) 8 (zt (bx x14.2 0 1) 1)) 9 (zt (bx x14.2 0 1) 2)),[[(5,[(zn (bx x14.2 1 0) 0)]),(4,[(zs (bx x14.2 1 1) 0),(zs (bx x14.2 1 1) 1)]),(3,[(zs (bx x14.2 1 2) 0),(zt (bx x14.2 1 2) 1),(zt (bx x14.2 1 2) 2)])]]))) none) none) none)
 (some (.brk 0,(pu (rb nN s1) 1 (.func (.func 71) [] [(.ptr 1 5 0),(.ptr 1 3 0),(.ptr 1 4 0)])),[[(5,[(zn (bx s1u 0 0) 0)]),(4,[(zs (bx s1u 0 1) 0),(zs (bx s1u 0 1) 1)]),(3,[(zs (bx s1u 0 2) 0),(zt (bx s1u 0 2) 1),(zt (bx s1u 0 2) 2)])]]))) none) none
def aHb (O:Orc) (LP:LBs) (s:GSchema) (typ:Str) (l0:List GSel) (u0_5:Int) (u0_4:GDoc) (u0_3:GSchema):Option (PV×UP) :=
 bnd (LP (aHa O LP) [(.str typ),(.func (.func 71) [] [(.ptr 1 5 0),(.ptr 1 3 0),(.ptr 1 4 0)]),(.ptr 0 4 0),(.bool true),(zq aF l0),(i6 (List.length (List.map aF l0):Int)),(i6 0),(zq aK s.defs),(.str s.query),(.str s.mutation)] [[(5,[(i6 u0_5)]),(4,[(zq bL u0_4.ops),(zq aJ u0_4.frags)]),(3,[(zq aK u0_3.defs),(.str u0_3.query),(.str u0_3.mutation)])]]) fun y22 =>
 exIs y22.1 (some 0) (cnd (chkL nN y22.2.1) (cnd (chkU [[(5,[n6]),(4,[sf,sf]),(3,[sf,.str,.str])]] y22.2.2)
 (some ((zb y22.2.1 3),[[(5,[(zn (bx y22.2.2 0 0) 0)]),(4,[(zs (bx y22.2.2 0 1) 0),(zs (bx y22.2.2 0 1) 1)]),(3,[(zs (bx y22.2.2 0 2) 0),(zt (bx y22.2.2 0 2) 1),(zt (bx y22.2.2 0 2) 2)])]])) none) none)
 (none)
noncomputable def nO (s:GSchema) (typ:Str) (l0:List GSel) (u0_5:Int) (u0_4:GDoc) (u0_3:GSchema):(Bool×Int)→Option ((Bool×Int)⊕Bool)
 | (ok_10,t_11) =>
 cnd (decide (t_11<(List.length l0:Int)))
  (bnd (nthI l0 t_11) fun y13 =>
  bnd (aG4 typ y13 u0_5 u0_4 u0_3) fun y15 =>
  cnd y15
  (bnd (aDf s typ y13) fun y17 =>
  bnd (aMv s y17 y13.sels u0_5 u0_4 u0_3) fun y19 =>
  cnd (!y19)
   (some (.inr y19))
   (some (.inl (y19,(IntKind.wrap .i64 (t_11+1))))))
  (some (.inr false)))
  (some (.inr ok_10))
abbrev aTL (s:GSchema) (typ:Str) (l0:List GSel) (u0_5:Int) (u0_4:GDoc) (u0_3:GSchema) (st:Bool×Int) (l:List PV) (u:UP):Prop:=l=[(.str typ),(.func (.func 71) [] [(.ptr 1 5 0),(.ptr 1 3 0),(.ptr 1 4 0)]),(.ptr 0 4 0),(.bool st.1),(zq aF l0),(i6 (List.length l0:Int)),(i6 st.2),(zq aK s.defs),(.str s.query),(.str s.mutation)]∧u=[[(5,[(i6 u0_5)]),(4,[(zq bL u0_4.ops),(zq aJ u0_4.frags)]),(3,[(zq aK u0_3.defs),(.str u0_3.query),(.str u0_3.mutation)])]]
abbrev aTM (s:GSchema) (typ:Str) (l0:List GSel) (u0_5:Int) (u0_4:GDoc) (u0_3:GSchema) (p:Bool) (r:EU):Prop:=(fun (p:Bool)=>∃ (t_21:Int),r=(Ex.brk 0,[(.str typ),(.func (.func 71) [] [(.ptr 1 5 0),(.ptr 1 3 0),(.ptr 1 4 0)]),(.ptr 0 4 0),(.bool p),(zq aF l0),(i6 (List.length l0:Int)),(i6 t_21),(zq aK s.defs),(.str s.query),(.str s.mutation)],[[(5,[(i6 u0_5)]),(4,[(zq bL u0_4.ops),(zq aJ u0_4.frags)]),(3,[(zq aK u0_3.defs),(.str u0_3.query),(.str u0_3.mutation)])]])) p
noncomputable def aDh (s:GSchema) (typ:Str) (l0:List GSel) (u0_5:Int) (u0_4:GDoc) (u0_3:GSchema):Option Bool :=
 bnd (bJ (nO s typ l0 u0_5 u0_4 u0_3) (true,0)) fun ok_20 =>
 some ok_20
def aWt:Decs:={decs:=[(16,(.ref pW)),(21,.bool),(27,.str),(31,.bool)],ups:=[(21,[[(11,[n6,.str,.str,sf,sf,.str,sf]),(4,[sf,.str,.str])],[(5,[n6]),(4,[sf,sf]),(3,[sf,.str,.str])]]),(31,[[(11,[n6,.str,.str,sf,sf,.str,sf]),(4,[sf,.str,.str])],[(5,[n6]),(4,[sf,sf]),(3,[sf,.str,.str])]])],loops:=[(3,[(4,3)],⟨nN,[[(5,[n6]),(4,[sf,sf]),(3,[sf,.str,.str])]],[(some 0,nN,[[(5,[n6]),(4,[sf,sf]),(3,[sf,.str,.str])]])]⟩)]}
theorem aWu (O:Orc) (LP:LBs) (s:GSchema) (typ:Str) (l0:List GSel) (u0_5:Int) (u0_4:GDoc) (u0_3:GSchema):eW 137 aWt Tryz.f137 O LP [(eS s),(.str typ),(zq aF l0),(.func (.func 71) [] [(.ptr 1 5 0),(.ptr 1 3 0),(.ptr 1 4 0)])] [[(5,[(i6 u0_5)]),(4,[(zq bL u0_4.ops),(zq aJ u0_4.frags)]),(3,[(zq aK u0_3.defs),(.str u0_3.query),(.str u0_3.mutation)])]]=aHb O LP s typ l0 u0_5 u0_4 u0_3:=by kernel_rfl
theorem aMG (s:GSchema) (typ:Str) (l0:List GSel) (u0_5:Int) (u0_4:GDoc) (u0_3:GSchema):Lok (aTL s typ l0 u0_5 u0_4 u0_3) (nO s typ l0 u0_5 u0_4 u0_3) (aHa O aE) (aTM s typ l0 u0_5 u0_4 u0_3):=by
 rintro ⟨ok_10,t_11⟩ l u ⟨rfl,rfl⟩
 simp only [nO,aHa,zd,zr]
 refine zG ?_
 try simp only [evs,tys]
 apply Imp.cnd
 ·refine zX aF jI fun y13 _ => ?_
  try simp only [evs,tys]
  refine Imp.gcall (f:=aA) (fu:=fun a=>[(11,[(i6 y13.kind),(.str y13.alias),(.str y13.name),(zq aD y13.args),(zq aU y13.dirs),(.str y13.on_),(zq aF y13.sels)]),(4,[(zq aK s.defs),(.str s.query),(.str s.mutation)])]::iJ typ y13 u0_5 u0_4 u0_3 a) (fun a h=>by first | exact tF rfl rfl (by first | rfl | (simp only [zes,tys];rfl)) (bU h) | (have h':=bU h;simp only [evs,tys,evl,iJ] at h';exact tF rfl rfl (by first | rfl | (simp only [zes,tys];rfl)) h')) zK (fun a=>by first | rfl | (simp only [iJ,evs,tys];first | rfl | (cases w<;>rfl))) fun y15 hy15 => ?_
  try simp only [aA,iJ,evs,tys]
  apply Imp.cnd
  ·refine zC rfl fun y17 _ => ?_
   try simp only [zes,evs,tys]
   refine Imp.gcall (f:=aA) (fu:=fun a=>[(11,[(i6 y13.kind),(.str y13.alias),(.str y13.name),(zq aD y13.args),(zq aU y13.dirs),(.str y13.on_),(zq aF y13.sels)]),(4,[(zq aK s.defs),(.str s.query),(.str s.mutation)])]::kO s y17 y13.sels u0_5 u0_4 u0_3 a) (fun a h=>by first | exact tF rfl rfl (by first | rfl | (simp only [zes,tys];rfl)) (bU h) | (have h':=bU h;simp only [evs,tys,evl,kO] at h';exact tF rfl rfl (by first | rfl | (simp only [zes,tys];rfl)) h')) zK (fun a=>by first | rfl | (simp only [kO,evs,tys];first | rfl | (cases w<;>rfl))) fun y19 hy19 => ?_
   try simp only [aA,kO,evs,tys]
   apply Imp.cnd
   ·exact zB ⟨t_11,zE⟩
   ·exact zN
  ·exact zB ⟨t_11,zE⟩
 ·exact zB ⟨t_11,zE⟩
theorem aTN (s:GSchema) (typ:Str) (l0:List GSel) (u0_5:Int) (u0_4:GDoc) (u0_3:GSchema):Imp (aDh s typ l0 u0_5 u0_4 u0_3) (aHb O aE s typ l0 u0_5 u0_4 u0_3) (fun r v=>v=(aA r,(kO s typ l0 u0_5 u0_4 u0_3 r))):=by
 simp only [aDh,aHb,zd,zr]
 try simp only [evs,tys]
 refine zL (aMG s typ l0 u0_5 u0_4 u0_3) ?_
 rintro ok_20 _ ⟨t_21,rfl⟩
 refine zH ?_
 try simp only [evs,tys]
 exact Imp.some (by first | rfl | simp only [zes,kO,evs,tys,evl])
theorem aJh {s:GSchema} {typ:Str} {l0:List GSel} {u0_5:Int} {u0_4:GDoc} {u0_3:GSchema} {r:Bool} (h:aDh s typ l0 u0_5 u0_4 u0_3=some r):aMv s typ l0 u0_5 u0_4 u0_3=some r:=zV aC (aTN s typ l0 u0_5 u0_4 u0_3) Tryz.func137 (aWu _ _ s typ l0 u0_5 u0_4 u0_3) h
open Go Go.Ev Go.Ev.PV
abbrev kT:List Sh:=[(.func 71 [] [(.ptr 1 5 0),(.ptr 1 3 0),(.ptr 1 4 0)]),(.ptr 0 3 0),(.ptr 0 4 0),.bool,sf,n6,n6,sf,sf,sf,.str,.str]
def aEj (O:Orc) (LP:LBs):cG:=fun s1 s1u=>cnd (chkL kT s1) (cnd (chkU [[(5,[n6]),(4,[sf,sf]),(3,[sf,.str,.str])]] s1u)
 (cnd (decide ((iv s1 6)<(iv s1 5)))
 (bnd (ix 5 (zs s1 4) (zn s1 6)) fun x9=>cnd (chk (.ref shOp) x9)
 (aM O 68 [(.agg [(zs s1 9),(zt s1 10),(zt s1 11)]),(.agg [(zn (rf x9) 0),(zt (rf x9) 1),(zs (rf x9) 2),(zs (rf x9) 3),(zs (rf x9) 4)])] fun x11=>cnd (chk .str x11)
 (bnd (O 137 [(.agg [(zs s1 9),(zt s1 10),(zt s1 11)]),(.str (strV x11)),(zs (rf x9) 4),(.func (.func 71) [] [(.ptr 2 5 0),(.ptr 2 3 0),(.ptr 2 4 0)])] [[(8,[(zn (rf x9) 0),(zt (rf x9) 1),(zs (rf x9) 2),(zs (rf x9) 3),(zs (rf x9) 4)]),(4,[(zs s1 7),(zs s1 8)]),(3,[(zs s1 9),(zt s1 10),(zt s1 11)])],[(5,[(zn (bx s1u 0 0) 0)]),(4,[(zs (bx s1u 0 1) 0),(zs (bx s1u 0 1) 1)]),(3,[(zs (bx s1u 0 2) 0),(zt (bx s1u 0 2) 1),(zt (bx s1u 0 2) 2)])]]) fun x13=>cnd (chkU [[(8,[n6,.str,sf,sf,sf]),(4,[sf,sf]),(3,[sf,.str,.str])],[(5,[n6]),(4,[sf,sf]),(3,[sf,.str,.str])]] x13.2) (cnd (chk .bool x13.1)
 (cnd (!(aV x13.1))
 (some (.ret,[(.func (.func 71) [] [(.ptr 1 5 0),(.ptr 1 3 0),(.ptr 1 4 0)]),(.ptr 0 3 0),(.ptr 0 4 0),(.bool false),(zs s1 4),(zn s1 5),(zn s1 6),(zs (bx x13.2 0 1) 0),(zs (bx x13.2 0 1) 1),(zs (bx x13.2 0 2) 0),(zt (bx x13.2 0 2) 1),(zt (bx x13.2 0 2) 2)],[[(5,[(zn (bx x13.2 1 0) 0)]),(4,[(zs (bx x13.2 1 1) 0),(zs (bx x13.2 1 1) 1)]),(3,[(zs (bx x13.2 1 2) 0),(zt (bx x13.2 1 2) 1),(zt (bx x13.2 1 2) 2)])]]))
 (some (.nrm,[(.func (.func 71) [] [(.ptr 1 5 0),(.ptr 1 3 0),(.ptr 1 4 0)]),(.ptr 0 3 0),(.ptr 0 4 0),(zb s1 3),(zs s1 4),(zn s1 5),(i6 (w6 ((iv s1 6)+1))),(zs (bx x13.2 0 1) 0),(zs (bx x13.2 0 1) 1),(zs (bx x13.2 0 2) 0),(zt (bx x13.2 0 2) 1),(zt (bx x13.2 0 2) 2)],[[(5,[(zn (bx x13.2 1 0) 0)]),(4,[(zs (bx x13.2 1 1) 0),(zs (bx x13.2 1 1) 1)]),(3,[(zs (bx x13.2 1 2) 0),(zt (bx x13.2 1 2) 1),(zt (bx x13.2 1 2) 2)])]]))) none) none) none) none)
 (some (.brk 0,(pu (rb kT s1) 0 (.func (.func 71) [] [(.ptr 1 5 0),(.ptr 1 3 0),(.ptr 1 4 0)])),[[(5,[(zn (bx s1u 0 0) 0)]),(4,[(zs (bx s1u 0 1) 0),(zs (bx s1u 0 1) 1)]),(3,[(zs (bx s1u 0 2) 0),(zt (bx s1u 0 2) 1),(zt (bx s1u 0 2) 2)])]]))) none) none
abbrev kU:List Sh:=[(.func 71 [] [(.ptr 1 5 0),(.ptr 1 3 0),(.ptr 1 4 0)]),(.ptr 0 3 0),.bool,sf,n6,n6,sf,sf,sf,.str,.str]
def aEk (O:Orc) (LP:LBs):cG:=fun s18 s18u=>cnd (chkL kU s18) (cnd (chkU [[(5,[n6]),(4,[sf,sf]),(3,[sf,.str,.str])]] s18u)
 (cnd (decide ((iv s18 5)<(iv s18 4)))
 (bnd (ix 4 (zs s18 3) (zn s18 5)) fun x24=>cnd (chk (.ref jO) x24)
 (bnd (O 137 [(.agg [(zs s18 8),(zt s18 9),(zt s18 10)]),(zt (rf x24) 1),(zs (rf x24) 3),(.func (.func 71) [] [(.ptr 2 5 0),(.ptr 2 3 0),(.ptr 2 4 0)])] [[(10,[(zt (rf x24) 0),(zt (rf x24) 1),(zs (rf x24) 2),(zs (rf x24) 3)]),(4,[(zs s18 6),(zs s18 7)]),(3,[(zs s18 8),(zt s18 9),(zt s18 10)])],[(5,[(zn (bx s18u 0 0) 0)]),(4,[(zs (bx s18u 0 1) 0),(zs (bx s18u 0 1) 1)]),(3,[(zs (bx s18u 0 2) 0),(zt (bx s18u 0 2) 1),(zt (bx s18u 0 2) 2)])]]) fun x26=>cnd (chkU [[(10,[.str,.str,sf,sf]),(4,[sf,sf]),(3,[sf,.str,.str])],[(5,[n6]),(4,[sf,sf]),(3,[sf,.str,.str])]] x26.2) (cnd (chk .bool x26.1)
 (cnd (!(aV x26.1))
 (some (.ret,[(.func (.func 71) [] [(.ptr 1 5 0),(.ptr 1 3 0),(.ptr 1 4 0)]),(.ptr 0 3 0),(.bool false),(zs s18 3),(zn s18 4),(zn s18 5),(zs (bx x26.2 0 1) 0),(zs (bx x26.2 0 1) 1),(zs (bx x26.2 0 2) 0),(zt (bx x26.2 0 2) 1),(zt (bx x26.2 0 2) 2)],[[(5,[(zn (bx x26.2 1 0) 0)]),(4,[(zs (bx x26.2 1 1) 0),(zs (bx x26.2 1 1) 1)]),(3,[(zs (bx x26.2 1 2) 0),(zt (bx x26.2 1 2) 1),(zt (bx x26.2 1 2) 2)])]]))
 (some (.nrm,[(.func (.func 71) [] [(.ptr 1 5 0),(.ptr 1 3 0),(.ptr 1 4 0)]),(.ptr 0 3 0),(zb s18 2),(zs s18 3),(zn s18 4),(i6 (w6 ((iv s18 5)+1))),(zs (bx x26.2 0 1) 0),(zs (bx x26.2 0 1) 1),(zs (bx x26.2 0 2) 0),(zt (bx x26.2 0 2) 1),(zt (bx x26.2 0 2) 2)],[[(5,[(zn (bx x26.2 1 0) 0)]),(4,[(zs (bx x26.2 1 1) 0),(zs (bx x26.2 1 1) 1)]),(3,[(zs (bx x26.2 1 2) 0),(zt (bx x26.2 1 2) 1),(zt (bx x26.2 1 2) 2)])]]))) none) none) none)
 (some (.brk 2,(pu (rb kU s18) 0 (.func (.func 71) [] [(.ptr 1 5 0),(.ptr 1 3 0),(.ptr 1 4 0)])),[[(5,[(zn (bx s18u 0 0) 0)]),(4,[(zs (bx s18u 0 1) 0),(zs (bx s18u 0 1) 1)]),(3,[(zs (bx s18u 0 2) 0),(zt (bx s18u 0 2) 1),(zt (bx s18u 0 2) 2)])]]))) none) none
def aEl (O:Orc) (LP:LBs) (s:GSchema) (d:GDoc) (u0_5:Int) (u0_4:GDoc) (u0_3:GSchema):Option (PV×UP) :=
 bnd (LP (aEj O LP) [(.func (.func 71) [] [(.ptr 1 5 0),(.ptr 1 3 0),(.ptr 1 4 0)]),(.ptr 0 3 0),(.ptr 0 4 0),(.bool false),(zq bL d.ops),(i6 (List.length (List.map bL d.ops):Int)),(i6 0),(zq bL d.ops),(zq aJ d.frags),(zq aK s.defs),(.str s.query),(.str s.mutation)] [[(5,[(i6 u0_5)]),(4,[(zq bL u0_4.ops),(zq aJ u0_4.frags)]),(3,[(zq aK u0_3.defs),(.str u0_3.query),(.str u0_3.mutation)])]]) fun y17 =>
 exIs y17.1 (some 0) (cnd (chkL kT y17.2.1) (cnd (chkU [[(5,[n6]),(4,[sf,sf]),(3,[sf,.str,.str])]] y17.2.2)
 (bnd (LP (aEk O LP) [(.func (.func 71) [] [(.ptr 1 5 0),(.ptr 1 3 0),(.ptr 1 4 0)]),(.ptr 0 3 0),(zb y17.2.1 3),(zs y17.2.1 8),(i6 (List.length (ev y17.2.1 8):Int)),(i6 0),(zs y17.2.1 7),(zs y17.2.1 8),(zs y17.2.1 9),(zt y17.2.1 10),(zt y17.2.1 11)] [[(5,[(zn (bx y17.2.2 0 0) 0)]),(4,[(zs (bx y17.2.2 0 1) 0),(zs (bx y17.2.2 0 1) 1)]),(3,[(zs (bx y17.2.2 0 2) 0),(zt (bx y17.2.2 0 2) 1),(zt (bx y17.2.2 0 2) 2)])]]) fun y30 =>
 exIs y30.1 (some 2) (cnd (chkL kU y30.2.1) (cnd (chkU [[(5,[n6]),(4,[sf,sf]),(3,[sf,.str,.str])]] y30.2.2)
 (some ((.bool true),[[(5,[(zn (bx y30.2.2 0 0) 0)]),(4,[(zs (bx y30.2.2 0 1) 0),(zs (bx y30.2.2 0 1) 1)]),(3,[(zs (bx y30.2.2 0 2) 0),(zt (bx y30.2.2 0 2) 1),(zt (bx y30.2.2 0 2) 2)])]])) none) none)
 (exIs y30.1 none (cnd (chkL kU y30.2.1) (cnd (chkU [[(5,[n6]),(4,[sf,sf]),(3,[sf,.str,.str])]] y30.2.2)
 (some ((zb y30.2.1 2),[[(5,[(zn (bx y30.2.2 0 0) 0)]),(4,[(zs (bx y30.2.2 0 1) 0),(zs (bx y30.2.2 0 1) 1)]),(3,[(zs (bx y30.2.2 0 2) 0),(zt (bx y30.2.2 0 2) 1),(zt (bx y30.2.2 0 2) 2)])]])) none) none)
 (none))) none) none)
 (exIs y17.1 none (cnd (chkL kT y17.2.1) (cnd (chkU [[(5,[n6]),(4,[sf,sf]),(3,[sf,.str,.str])]] y17.2.2)
 (some ((zb y17.2.1 3),[[(5,[(zn (bx y17.2.2 0 0) 0)]),(4,[(zs (bx y17.2.2 0 1) 0),(zs (bx y17.2.2 0 1) 1)]),(3,[(zs (bx y17.2.2 0 2) 0),(zt (bx y17.2.2 0 2) 1),(zt (bx y17.2.2 0 2) 2)])]])) none) none)
 (none))
noncomputable def nP (s:GSchema) (d:GDoc) (u0_5:Int) (u0_4:GDoc) (u0_3:GSchema):Int→Option (Int⊕(Unit⊕Unit))
 | t_8 =>
 cnd (decide (t_8<(List.length d.ops:Int)))
  (bnd (nthI d.ops t_8) fun y10 =>
  bnd (aPs s y10) fun y12 =>
  bnd (aMv s y12 y10.sels u0_5 u0_4 u0_3) fun y14 =>
  cnd (!y14)
  (some (.inr (.inr ())))
  (some (.inl (IntKind.wrap .i64 (t_8+1)))))
  (some (.inr (.inl ())))
abbrev aBS (s:GSchema) (d:GDoc) (u0_5:Int) (u0_4:GDoc) (u0_3:GSchema) (a0:PV):List PV:=[(.func (.func 71) [] [(.ptr 1 5 0),(.ptr 1 3 0),(.ptr 1 4 0)]),(.ptr 0 3 0),(.ptr 0 4 0),(.bool false),(zq bL d.ops),(i6 (List.length d.ops:Int)),a0,(zq bL d.ops),(zq aJ d.frags),(zq aK s.defs),(.str s.query),(.str s.mutation)]
abbrev aPE (s:GSchema) (d:GDoc) (u0_5:Int) (u0_4:GDoc) (u0_3:GSchema) (st:Int) (l:List PV) (u:UP):Prop:=l=(aBS s d u0_5 u0_4 u0_3 (i6 st))∧u=[[(5,[(i6 u0_5)]),(4,[(zq bL u0_4.ops),(zq aJ u0_4.frags)]),(3,[(zq aK u0_3.defs),(.str u0_3.query),(.str u0_3.mutation)])]]
abbrev aPF (s:GSchema) (d:GDoc) (u0_5:Int) (u0_4:GDoc) (u0_3:GSchema) (p:Unit⊕Unit) (r:EU):Prop:=elim p (fun (p:Unit)=>∃ (t_15:Int),r=(Ex.brk 0,(aBS s d u0_5 u0_4 u0_3 (i6 t_15)),[[(5,[(i6 u0_5)]),(4,[(zq bL u0_4.ops),(zq aJ u0_4.frags)]),(3,[(zq aK u0_3.defs),(.str u0_3.query),(.str u0_3.mutation)])]])) (fun (p:Unit)=>∃ (t_16:Int),r=(Ex.ret,(aBS s d u0_5 u0_4 u0_3 (i6 t_16)),[[(5,[(i6 u0_5)]),(4,[(zq bL u0_4.ops),(zq aJ u0_4.frags)]),(3,[(zq aK u0_3.defs),(.str u0_3.query),(.str u0_3.mutation)])]]))
noncomputable def nQ (s:GSchema) (d:GDoc) (u0_5:Int) (u0_4:GDoc) (u0_3:GSchema):Int→Option (Int⊕(Unit⊕Unit))
 | t_23 =>
 cnd (decide (t_23<(List.length d.frags:Int)))
  (bnd (nthI d.frags t_23) fun y25 =>
  bnd (aMv s y25.on_ y25.sels u0_5 u0_4 u0_3) fun y27 =>
  cnd (!y27)
  (some (.inr (.inr ())))
  (some (.inl (IntKind.wrap .i64 (t_23+1)))))
  (some (.inr (.inl ())))
abbrev aBT (s:GSchema) (d:GDoc) (u0_5:Int) (u0_4:GDoc) (u0_3:GSchema) (a0:PV):List PV:=[(.func (.func 71) [] [(.ptr 1 5 0),(.ptr 1 3 0),(.ptr 1 4 0)]),(.ptr 0 3 0),(.bool false),(zq aJ d.frags),(i6 (List.length d.frags:Int)),a0,(zq bL d.ops),(zq aJ d.frags),(zq aK s.defs),(.str s.query),(.str s.mutation)]
abbrev aPG (s:GSchema) (d:GDoc) (u0_5:Int) (u0_4:GDoc) (u0_3:GSchema) (st:Int) (l:List PV) (u:UP):Prop:=l=(aBT s d u0_5 u0_4 u0_3 (i6 st))∧u=[[(5,[(i6 u0_5)]),(4,[(zq bL u0_4.ops),(zq aJ u0_4.frags)]),(3,[(zq aK u0_3.defs),(.str u0_3.query),(.str u0_3.mutation)])]]
abbrev aPH (s:GSchema) (d:GDoc) (u0_5:Int) (u0_4:GDoc) (u0_3:GSchema) (p:Unit⊕Unit) (r:EU):Prop:=elim p (fun (p:Unit)=>∃ (t_28:Int),r=(Ex.brk 2,(aBT s d u0_5 u0_4 u0_3 (i6 t_28)),[[(5,[(i6 u0_5)]),(4,[(zq bL u0_4.ops),(zq aJ u0_4.frags)]),(3,[(zq aK u0_3.defs),(.str u0_3.query),(.str u0_3.mutation)])]])) (fun (p:Unit)=>∃ (t_29:Int),r=(Ex.ret,(aBT s d u0_5 u0_4 u0_3 (i6 t_29)),[[(5,[(i6 u0_5)]),(4,[(zq bL u0_4.ops),(zq aJ u0_4.frags)]),(3,[(zq aK u0_3.defs),(.str u0_3.query),(.str u0_3.mutation)])]]))
noncomputable def aDi (s:GSchema) (d:GDoc) (u0_5:Int) (u0_4:GDoc) (u0_3:GSchema):Option Bool :=
 bnd (bJ (nP s d u0_5 u0_4 u0_3) 0) fun e17_2=>elim e17_2
 (fun p17 =>
 bnd (bJ (nQ s d u0_5 u0_4 u0_3) 0) fun e30_2=>elim e30_2
 (fun p30 =>
 some true)
 (fun p30 =>
 some false))
 (fun p17 =>
 some false)
def aTO:Decs:={decs:=[(16,(.ref shOp)),(21,.str),(25,.bool),(33,(.ref jO)),(41,.bool)],ups:=[(25,[[(8,[n6,.str,sf,sf,sf]),(4,[sf,sf]),(3,[sf,.str,.str])],[(5,[n6]),(4,[sf,sf]),(3,[sf,.str,.str])]]),(41,[[(10,[.str,.str,sf,sf]),(4,[sf,sf]),(3,[sf,.str,.str])],[(5,[n6]),(4,[sf,sf]),(3,[sf,.str,.str])]])],loops:=[(2,[(4,2),(3,3)],⟨kT,[[(5,[n6]),(4,[sf,sf]),(3,[sf,.str,.str])]],[(some 0,kT,[[(5,[n6]),(4,[sf,sf]),(3,[sf,.str,.str])]]),(none,kT,[[(5,[n6]),(4,[sf,sf]),(3,[sf,.str,.str])]])]⟩),(8,[(4,2),(3,3)],⟨kU,[[(5,[n6]),(4,[sf,sf]),(3,[sf,.str,.str])]],[(some 2,kU,[[(5,[n6]),(4,[sf,sf]),(3,[sf,.str,.str])]]),(none,kU,[[(5,[n6]),(4,[sf,sf]),(3,[sf,.str,.str])]])]⟩)]}
theorem aTP (O:Orc) (LP:LBs) (s:GSchema) (d:GDoc) (u0_5:Int) (u0_4:GDoc) (u0_3:GSchema):eW 70 aTO Tryz.f70 O LP [(eS s),(eD d),(.func (.func 71) [] [(.ptr 1 5 0),(.ptr 1 3 0),(.ptr 1 4 0)])] [[(5,[(i6 u0_5)]),(4,[(zq bL u0_4.ops),(zq aJ u0_4.frags)]),(3,[(zq aK u0_3.defs),(.str u0_3.query),(.str u0_3.mutation)])]]=aEl O LP s d u0_5 u0_4 u0_3:=by kernel_rfl
theorem aKC (s:GSchema) (d:GDoc) (u0_5:Int) (u0_4:GDoc) (u0_3:GSchema):Lok (aPE s d u0_5 u0_4 u0_3) (nP s d u0_5 u0_4 u0_3) (aEj O aE) (aPF s d u0_5 u0_4 u0_3):=by
 rintro t_8 l u ⟨rfl,rfl⟩
 simp only [nP,aEj,zd,zr]
 refine zG ?_
 try simp only [evs,tys]
 apply Imp.cnd
 ·refine zX bL aKn fun y10 _ => ?_
  try simp only [evs,tys]
  refine zC rfl fun y12 _ => ?_
  try simp only [zes,evs,tys]
  refine Imp.gcall (f:=aA) (fu:=fun a=>[(8,[(i6 y10.kind),(.str y10.name),(zq aY y10.vars),(zq aU y10.dirs),(zq aF y10.sels)]),(4,[(zq bL d.ops),(zq aJ d.frags)]),(3,[(zq aK s.defs),(.str s.query),(.str s.mutation)])]::kO s y12 y10.sels u0_5 u0_4 u0_3 a) (fun a h=>by first | exact tF rfl rfl (by first | rfl | (simp only [zes,tys];rfl)) (bU h) | (have h':=bU h;simp only [evs,tys,evl,kO] at h';exact tF rfl rfl (by first | rfl | (simp only [zes,tys];rfl)) h')) zK (fun a=>by first | rfl | (simp only [kO,evs,tys];first | rfl | (cases w<;>rfl))) fun y14 hy14 => ?_
  try simp only [aA,kO,evs,tys]
  apply Imp.cnd
  ·exact zT ⟨t_8,zE⟩
  ·exact zN
 ·exact zB ⟨t_8,zE⟩
theorem aKD (s:GSchema) (d:GDoc) (u0_5:Int) (u0_4:GDoc) (u0_3:GSchema):Lok (aPG s d u0_5 u0_4 u0_3) (nQ s d u0_5 u0_4 u0_3) (aEk O aE) (aPH s d u0_5 u0_4 u0_3):=by
 rintro t_23 l u ⟨rfl,rfl⟩
 simp only [nQ,aEk,zd,zr]
 refine zG ?_
 try simp only [evs,tys]
 apply Imp.cnd
 ·refine zX aJ mM fun y25 _ => ?_
  try simp only [evs,tys]
  refine Imp.gcall (f:=aA) (fu:=fun a=>[(10,[(.str y25.name),(.str y25.on_),(zq aU y25.dirs),(zq aF y25.sels)]),(4,[(zq bL d.ops),(zq aJ d.frags)]),(3,[(zq aK s.defs),(.str s.query),(.str s.mutation)])]::kO s y25.on_ y25.sels u0_5 u0_4 u0_3 a) (fun a h=>by first | exact tF rfl rfl (by first | rfl | (simp only [zes,tys];rfl)) (bU h) | (have h':=bU h;simp only [evs,tys,evl,kO] at h';exact tF rfl rfl (by first | rfl | (simp only [zes,tys];rfl)) h')) zK (fun a=>by first | rfl | (simp only [kO,evs,tys];first | rfl | (cases w<;>rfl))) fun y27 hy27 => ?_
  try simp only [aA,kO,evs,tys]
  apply Imp.cnd
  ·exact zT ⟨t_23,zE⟩
  ·exact zN
 ·exact zB ⟨t_23,zE⟩
theorem aPI (s:GSchema) (d:GDoc) (u0_5:Int) (u0_4:GDoc) (u0_3:GSchema):Imp (aDi s d u0_5 u0_4 u0_3) (aEl O aE s d u0_5 u0_4 u0_3) (fun r v=>v=(aA r,(qB s d u0_5 u0_4 u0_3 r))):=by
 simp only [aDi,aEl,zd,zr]
 try simp only [evs,tys]
 refine zL (aKC s d u0_5 u0_4 u0_3) ?_
 rintro (p | p) vy17 hy17
 ·try simp only [aO,aP]
  obtain ⟨t_15,rfl⟩:=hy17
  refine zH ?_
  try simp only [evs,tys]
  refine zL (aKD s d u0_5 u0_4 u0_3) ?_
  rintro (p | p) vy30 hy30
  ·try simp only [aO,aP]
   obtain ⟨t_28,rfl⟩:=hy30
   refine zH ?_
   try simp only [evs,tys]
   exact Imp.some (by first | rfl | simp only [zes,qB,evs,tys,evl])
  ·try simp only [aO,aP]
   obtain ⟨t_29,rfl⟩:=hy30
   refine Imp.exMiss rfl ?_
   refine zH ?_
   try simp only [evs,tys]
   exact Imp.some (by first | rfl | simp only [zes,qB,evs,tys,evl])
 ·try simp only [aO,aP]
  obtain ⟨t_16,rfl⟩:=hy17
  refine Imp.exMiss rfl ?_
  refine zH ?_
  try simp only [evs,tys]
  exact Imp.some (by first | rfl | simp only [zes,qB,evs,tys,evl])
theorem aPJ {s:GSchema} {d:GDoc} {u0_5:Int} {u0_4:GDoc} {u0_3:GSchema} {r:Bool} (h:aDi s d u0_5 u0_4 u0_3=some r):aPr s d u0_5 u0_4 u0_3=some r:=zV aC (aPI s d u0_5 u0_4 u0_3) Tryz.func70 (aTP _ _ s d u0_5 u0_4 u0_3) h
def aEm (O:Orc) (LP:LBs) (s:GSchema) (d:GDoc) (n:Int):Option (PV×UP) :=
 bnd (O 70 [(eS s),(eD d),(.func (.func 71) [] [(.ptr 1 5 0),(.ptr 1 3 0),(.ptr 1 4 0)])] [[(5,[(i6 n)]),(4,[(zq bL d.ops),(zq aJ d.frags)]),(3,[(zq aK s.defs),(.str s.query),(.str s.mutation)])]]) fun x1=>cnd (chkU [[(5,[n6]),(4,[sf,sf]),(3,[sf,.str,.str])]] x1.2) (cnd (chk .bool x1.1)
 (cnd (aV x1.1)
 (cnd (decide ((iv (bx x1.2 0 0) 0)≥9))
 (some ((.bool (decide ((iv (bx x1.2 0 0) 0)≤11))),[]))
 (some ((.bool false),[])))
 (some ((.bool false),[]))) none) none
noncomputable def aDj (s:GSchema) (d:GDoc) (n:Int):Option Bool :=
 bnd (aPr s d n d s) fun y2 =>
 cnd y2
 (cnd (decide (n≥9))
 (some (decide (n≤11)))
 (some false))
 (some false)
def aTQ:Decs:={decs:=[(10,.bool)],ups:=[(10,[[(5,[n6]),(4,[sf,sf]),(3,[sf,.str,.str])]])]}
theorem aTR (O:Orc) (LP:LBs) (s:GSchema) (d:GDoc) (n:Int):eW 24 aTQ Tryz.f24 O LP [(eS s),(eD d),(i6 n)] []=aEm O LP s d n:=by kernel_rfl
theorem aPK (s:GSchema) (d:GDoc) (n:Int):Imp (aDj s d n) (aEm O aE s d n) (Ri aA):=by
 simp only [aDj,aEm,zd,zr]
 try simp only [evs,tys]
 refine Imp.gcall (f:=aA) (fu:=fun a=>qB s d n d s a) (fun a h=>by first | exact bU h | (have h':=bU h;simp only [evs,tys,evl,qB] at h';exact h')) zK (fun a=>by first | rfl | (simp only [qB,evs,tys];first | rfl | (cases w<;>rfl))) fun y2 hy2 => ?_
 try simp only [aA,qB,evs,tys]
 apply Imp.cnd
 ·apply Imp.cnd
  ·exact zR
  ·exact zR
 ·exact zR
theorem aPL {s:GSchema} {d:GDoc} {n:Int} {r:Bool} (h:aDj s d n=some r):tH s d n=some r:=zV aC (aPK s d n) Tryz.func24 (aTR _ _ s d n) h
def aEn (O:Orc) (LP:LBs):cG:=fun s1 s1u=>cnd (chkL [sf,st',n6] s1) (cnd (chkU [] s1u)
 (cnd (decide ((iv s1 2)<(List.length (ev s1 0):Int)))
 (bnd (ix 7 (zs s1 0) (zn s1 2)) fun x14=>cnd (chk (.ref pW) x14)
 (aM O 103 [(zs (rf x14) 3)] fun x16=>cnd (chk sf x16)
 (aM O 36 [(zs (rf x14) 4)] fun x18=>cnd (chk sf x18)
 (aM O 37 [(zs (rf x14) 6)] fun x20=>cnd (chk sf x20)
 (bnd (apd 7 (zo s1 1) (.slice [(.agg [(zn (rf x14) 0),(zt (rf x14) 1),(zt (rf x14) 2),(.slice (esV x16) [] false),(.slice (esV x18) [] false),(zt (rf x14) 5),(.slice (esV x20) [] false)])] [] true)) fun x22=>cnd (chk st' x22)
 (some (.nrm,[(zs s1 0),(.slice (esV x22) [] true),(i6 (w6 ((iv s1 2)+1)))],[])) none) none) none) none) none)
 (some (.brk 0,[(zs s1 0),(zo s1 1),(zn s1 2)],[]))) none) none
def aEo (O:Orc) (LP:LBs) (l0:List GSel):Option (PV×UP) :=
 bnd (LP (aEn O LP) [(zq aF l0),(.slice [] [] true),(i6 0)] []) fun y26 =>
 exIs y26.1 (some 0) (cnd (chkL [sf,st',n6] y26.2.1) (cnd (chkU [] y26.2.2)
 (some ((zs y26.2.1 1),[])) none) none)
 (none)
noncomputable def kV (l0:List GSel):((List GSel)×Int)→Option (((List GSel)×Int)⊕((List GSel)))
 | (out_12,i_13) =>
 cnd (decide (i_13<(List.length l0:Int)))
  (bnd (nthI l0 i_13) fun y15 =>
  bnd (qJ y15.args) fun y17 =>
  bnd (aKu y15.dirs) fun y19 =>
  bnd (aG5 y15.sels) fun y21 =>
  bnd (tapp out_12 [(GSel.mk y15.kind y15.alias y15.name y17 y19 y15.on_ y21)]) fun y23 =>
  some (.inl (y23,(IntKind.wrap .i64 (i_13+1)))))
  (some (.inr out_12))
abbrev aPM (l0:List GSel) (st:(List GSel)×Int) (l:List PV) (u:UP):Prop:=l=[(zq aF l0),(zp aF st.1),(i6 st.2)]∧u=[]
abbrev aPN (l0:List GSel) (p:(List GSel)) (r:EU):Prop:=(fun (p:(List GSel))=>∃ (i_25:Int),r=(Ex.brk 0,[(zq aF l0),(zp aF p),(i6 i_25)],[])) p
noncomputable def yV (l0:List GSel):Option (List GSel) :=
 bnd (bJ (kV l0) ([],0)) fun out_24 =>
 some out_24
def aTS:Decs:={decs:=[(14,(.ref pW)),(18,sf),(21,sf),(24,sf),(31,st')],loops:=[(3,[],⟨[sf,st',n6],[],[(some 0,[sf,st',n6],[])]⟩)]}
theorem aTT (O:Orc) (LP:LBs) (l0:List GSel):eW 37 aTS Tryz.f37 O LP [(zq aF l0)] []=aEo O LP l0:=by kernel_rfl
theorem aKE (l0:List GSel):Lok (aPM l0) (kV l0) (aEn O aE) (aPN l0):=by
 rintro ⟨out_12,i_13⟩ l u ⟨rfl,rfl⟩
 simp only [kV,aEn,zd,zr]
 refine zG ?_
 try simp only [evs,tys]
 apply Imp.cnd
 ·refine zX aF jI fun y15 _ => ?_
  try simp only [evs,tys]
  refine zC rfl fun y17 _ => ?_
  try simp only [zes,evs,tys]
  refine zC rfl fun y19 _ => ?_
  try simp only [zes,evs,tys]
  refine zC rfl fun y21 _ => ?_
  try simp only [zes,evs,tys]
  refine Imp.op (f:=fun a => .slice (List.map aF a) [] true) (fun a h=>wK (enc:=aF) zI zI (fun a=>by first | rfl | simp only [evs,tys,evc]) h) (fun a=>rfl) fun y23 hy23 => ?_
  try simp only [evs,tys]
  exact zN
 ·exact zB ⟨i_13,zE⟩
theorem aPO (l0:List GSel):Imp (yV l0) (aEo O aE l0) (Ri aAE):=by
 simp only [yV,aEo,zd,zr]
 try simp only [evs,tys]
 refine zL (aKE l0) ?_
 rintro out_24 _ ⟨i_25,rfl⟩
 refine zH ?_
 try simp only [evs,tys]
 exact zR
theorem aHc {l0:List GSel} {r:List GSel} (h:yV l0=some r):aG5 l0=some r:=zV aWl (aPO l0) Tryz.func37 (aTT _ _ l0) h
abbrev fJ:List Sh:=[(.ptr 0 2 0),(.ptr 0 3 0),st',n6,sf,sf,sf,.str,.str]
def aBU (O:Orc) (LP:LBs):cG:=fun s1 s1u=>cnd (chkL fJ s1) (cnd (chkU [] s1u)
 (cnd (decide ((iv s1 3)<(List.length (ev s1 4):Int)))
 (bnd (ix 5 (zs s1 4) (zn s1 3)) fun x12=>cnd (chk (.ref shOp) x12)
 (aM O 116 [(.agg [(zs s1 6),(zt s1 7),(zt s1 8)]),(.agg [(zn (rf x12) 0),(zt (rf x12) 1),(zs (rf x12) 2),(zs (rf x12) 3),(zs (rf x12) 4)])] fun x14=>cnd (chk .str x14)
 (bnd (ix 5 (zs s1 4) (zn s1 3)) fun x16=>cnd (chk (.ref shOp) x16)
 (aM O 115 [(.agg [(zs s1 6),(zt s1 7),(zt s1 8)]),(.str (strV x14)),(zs (rf x16) 4),(zo s1 2)] fun x18=>cnd (chk st' x18)
 (some (.nrm,(pu (pu (rb fJ s1) 2 (.slice (esV x18) [] true)) 3 (i6 (w6 ((iv s1 3)+1)))),[])) none) none) none) none)
 (some (.brk 0,(rb fJ s1),[]))) none) none
abbrev yW:List Sh:=[(.ptr 0 2 0),(.ptr 0 3 0),st',n6,sf,sf,sf,.str,.str]
def aBV (O:Orc) (LP:LBs):cG:=fun s23 s23u=>cnd (chkL yW s23) (cnd (chkU [] s23u)
 (cnd (decide ((iv s23 3)<(List.length (ev s23 5):Int)))
 (bnd (ix 4 (zs s23 5) (zn s23 3)) fun x32=>cnd (chk (.ref jO) x32)
 (bnd (ix 4 (zs s23 5) (zn s23 3)) fun x34=>cnd (chk (.ref jO) x34)
 (aM O 115 [(.agg [(zs s23 6),(zt s23 7),(zt s23 8)]),(zt (rf x32) 1),(zs (rf x34) 3),(zo s23 2)] fun x36=>cnd (chk st' x36)
 (some (.nrm,(pu (pu (rb yW s23) 2 (.slice (esV x36) [] true)) 3 (i6 (w6 ((iv s23 3)+1)))),[])) none) none) none)
 (some (.brk 2,(rb yW s23),[]))) none) none
def aBW (O:Orc) (LP:LBs) (s:GSchema) (d:GDoc):Option (PV×UP) :=
 bnd (LP (aBU O LP) [(.ptr 0 2 0),(.ptr 0 3 0),(.slice [] [] true),(i6 0),(zq bL d.ops),(zq aJ d.frags),(zq aK s.defs),(.str s.query),(.str s.mutation)] []) fun y22 =>
 exIs y22.1 (some 0) (cnd (chkL fJ y22.2.1) (cnd (chkU [] y22.2.2)
 (bnd (LP (aBV O LP) [(.ptr 0 2 0),(.ptr 0 3 0),(zo y22.2.1 2),(i6 0),(zs y22.2.1 4),(zs y22.2.1 5),(zs y22.2.1 6),(zt y22.2.1 7),(zt y22.2.1 8)] []) fun y40 =>
 exIs y40.1 (some 2) (cnd (chkL fJ y40.2.1) (cnd (chkU [] y40.2.2)
 (some ((zs y40.2.1 2),[])) none) none)
 (none)) none) none)
 (none)
noncomputable def lM (s:GSchema) (d:GDoc):((List GSeineref13Spot)×Int)→Option (((List GSeineref13Spot)×Int)⊕((List GSeineref13Spot)))
 | (out_10,i_11) =>
 cnd (decide (i_11<(List.length d.ops:Int)))
  (bnd (nthI d.ops i_11) fun y13 =>
  bnd (aPu s y13) fun y15 =>
  bnd (nthI d.ops i_11) fun y17 =>
  bnd (aDg s y15 y17.sels out_10) fun y19 =>
  some (.inl (y19,(IntKind.wrap .i64 (i_11+1)))))
  (some (.inr out_10))
abbrev aFb (s:GSchema) (d:GDoc) (a0 a1:PV):List PV:=[(.ptr 0 2 0),(.ptr 0 3 0),a0,a1,(zq bL d.ops),(zq aJ d.frags),(zq aK s.defs),(.str s.query),(.str s.mutation)]
abbrev aMH (s:GSchema) (d:GDoc) (st:(List GSeineref13Spot)×Int) (l:List PV) (u:UP):Prop:=l=(aFb s d (zp aH st.1) (i6 st.2))∧u=[]
abbrev aMI (s:GSchema) (d:GDoc) (p:(List GSeineref13Spot)) (r:EU):Prop:=∃ (i_21:Int),r=(Ex.brk 0,(aFb s d (zp aH p) (i6 i_21)),[])
noncomputable def lN (s:GSchema) (d:GDoc):((List GSeineref13Spot)×Int)→Option (((List GSeineref13Spot)×Int)⊕((List GSeineref13Spot)))
 | (out_30,i_31) =>
 cnd (decide (i_31<(List.length d.frags:Int)))
  (bnd (nthI d.frags i_31) fun y33 =>
  bnd (nthI d.frags i_31) fun y35 =>
  bnd (aDg s y33.on_ y35.sels out_30) fun y37 =>
  some (.inl (y37,(IntKind.wrap .i64 (i_31+1)))))
  (some (.inr out_30))
abbrev aFc (s:GSchema) (d:GDoc) (a0 a1:PV):List PV:=[(.ptr 0 2 0),(.ptr 0 3 0),a0,a1,(zq bL d.ops),(zq aJ d.frags),(zq aK s.defs),(.str s.query),(.str s.mutation)]
abbrev aMJ (s:GSchema) (d:GDoc) (st:(List GSeineref13Spot)×Int) (l:List PV) (u:UP):Prop:=l=(aFc s d (zp aH st.1) (i6 st.2))∧u=[]
abbrev aMK (s:GSchema) (d:GDoc) (p:(List GSeineref13Spot)) (r:EU):Prop:=∃ (i_39:Int),r=(Ex.brk 2,(aFc s d (zp aH p) (i6 i_39)),[])
noncomputable def aAM (s:GSchema) (d:GDoc):Option (List GSeineref13Spot) :=
 bnd (bJ (lM s d) ([],0)) fun out_20 =>
 bnd (bJ (lN s d) (out_20,0)) fun out_38 =>
 some out_38
def aPP:Decs:={decs:=[(20,(.ref shOp)),(22,.str),(26,(.ref shOp)),(30,st'),(42,(.ref jO)),(48,(.ref jO)),(52,st')],loops:=[(3,[(3,2),(2,3)],⟨fJ,[],[(some 0,fJ,[])]⟩),(7,[(3,2),(2,3)],⟨fJ,[],[(some 2,fJ,[])]⟩)]}
theorem aPQ (O:Orc) (LP:LBs) (s:GSchema) (d:GDoc):eW 58 aPP Tryz.f58 O LP [(eS s),(eD d)] []=aBW O LP s d:=by kernel_rfl
theorem aIa (s:GSchema) (d:GDoc):Lok (aMH s d) (lM s d) (aBU O aE) (aMI s d):=by
 rintro ⟨out_10,i_11⟩ l u ⟨rfl,rfl⟩
 simp only [lM,aBU,zd,zr]
 refine zG ?_
 try simp only [evs,tys]
 apply Imp.cnd
 ·refine zX bL aKn fun y13 _ => ?_
  try simp only [evs,tys]
  refine zC rfl fun y15 _ => ?_
  try simp only [zes,evs,tys]
  refine zX bL aKn fun y17 _ => ?_
  try simp only [evs,tys]
  refine zC rfl fun y19 _ => ?_
  try simp only [zes,evs,tys]
  exact zN
 ·exact zB ⟨i_11,zE⟩
theorem aIb (s:GSchema) (d:GDoc):Lok (aMJ s d) (lN s d) (aBV O aE) (aMK s d):=by
 rintro ⟨out_30,i_31⟩ l u ⟨rfl,rfl⟩
 simp only [lN,aBV,zd,zr]
 refine zG ?_
 try simp only [evs,tys]
 apply Imp.cnd
 ·refine zX aJ mM fun y33 _ => ?_
  try simp only [evs,tys]
  refine zX aJ mM fun y35 _ => ?_
  try simp only [evs,tys]
  refine zC rfl fun y37 _ => ?_
  try simp only [zes,evs,tys]
  exact zN
 ·exact zB ⟨i_31,zE⟩
theorem aML (s:GSchema) (d:GDoc):Imp (aAM s d) (aBW O aE s d) (Ri uB):=by
 simp only [aAM,aBW,zd,zr]
 try simp only [evs,tys]
 refine zL (aIa s d) ?_
 rintro out_20 _ ⟨i_21,rfl⟩
 refine zH ?_
 try simp only [evs,tys]
 refine zL (aIb s d) ?_
 rintro out_38 _ ⟨i_39,rfl⟩
 refine zH ?_
 try simp only [evs,tys]
 exact zR
theorem aMM {s:GSchema} {d:GDoc} {r:List GSeineref13Spot} (h:aAM s d=some r):aDd s d=some r:=zV aTE (aML s d) Tryz.func58 (aPQ _ _ s d) h
def rE (O:Orc) (LP:LBs) (s:GSchema) (d:GDoc) (x:GSeineref13Spot) (n:Int):Option (PV×UP) :=
 aM O 117 [(eS s),(.str x.typ),(.str x.x.name)] fun x1=>cnd (chk (.tup [bG,.bool]) x1)
 (cnd (n==9)
 (cnd (x.x.kind != 0)
 (some ((.bool true),[]))
 (some ((.bool (aV (tv x1 1))),[])))
 (cnd (n==10)
 (cnd (x.x.kind != 0)
 (some ((.bool true),[]))
 (aM O 118 [(eS s),(zt (tg x1 0) 2)] fun x3=>cnd (chk .bool x3)
 (cnd (aV x3)
 (cnd (decide ((List.length (List.map aF x.x.sels):Int)>0))
 (some ((.bool false),[]))
 (aM O 112 [(eS s),(zt (tg x1 0) 2)] fun x5=>cnd (chk .bool x5)
 (cnd (!(aV x5))
 (some ((.bool true),[]))
 (some ((.bool (decide ((List.length (List.map aF x.x.sels):Int)>0))),[]))) none))
 (aM O 112 [(eS s),(zt (tg x1 0) 2)] fun x7=>cnd (chk .bool x7)
 (cnd (!(aV x7))
 (some ((.bool true),[]))
 (some ((.bool (decide ((List.length (List.map aF x.x.sels):Int)>0))),[]))) none)) none))
 (cnd (x.x.kind==2)
 (cnd (x.x.on_==([]:Str))
 (some ((.bool true),[]))
 (aM O 119 [(eS s),(.str x.typ),(.str x.x.on_)] fun x9=>cnd (chk .bool x9)
 (some ((.bool (aV x9)),[])) none))
 (cnd (x.x.kind==1)
 (aM O 113 [(eD d),(.str x.x.name)] fun x11=>cnd (chk (.tup [jO,.bool]) x11)
 (aM O 119 [(eS s),(.str x.typ),(zt (tg x11 0) 1)] fun x13=>cnd (chk .bool x13)
 (some ((.bool (aV x13)),[])) none) none)
 (some ((.bool true),[])))))) none
noncomputable def jX (s:GSchema) (d:GDoc) (x:GSeineref13Spot) (n:Int):Option Bool :=
 bnd (aF3 s x.typ x.x.name) fun y2 =>
 cnd (n==9)
 (cnd (x.x.kind != 0)
 (some true)
 (some y2.2))
 (cnd (n==10)
 (cnd (x.x.kind != 0)
 (some true)
 (bnd (aKv s y2.1.t.name) fun y4 =>
 cnd y4
 (cnd (decide ((List.length x.x.sels:Int)>0))
 (some false)
 (bnd (lJ s y2.1.t.name) fun y6 =>
 cnd (!y6)
 (some true)
 (some (decide ((List.length x.x.sels:Int)>0)))))
 (bnd (lJ s y2.1.t.name) fun y8 =>
 cnd (!y8)
 (some true)
 (some (decide ((List.length x.x.sels:Int)>0))))))
 (cnd (x.x.kind==2)
 (cnd (x.x.on_==([]:Str))
 (some true)
 (bnd (aSh s x.typ x.x.on_) fun y10 =>
 some y10))
 (cnd (x.x.kind==1)
 (bnd (aKw d x.x.name) fun y12 =>
 bnd (aSh s x.typ y12.1.on_) fun y14 =>
 some y14)
 (some true))))
def aHd:Decs:={decs:=[(20,(.tup [bG,.bool])),(44,.bool),(56,.bool),(81,.bool),(93,(.tup [jO,.bool])),(101,.bool)]}
theorem aHe (O:Orc) (LP:LBs) (s:GSchema) (d:GDoc) (x:GSeineref13Spot) (n:Int):eW 59 aHd Tryz.f59 O LP [(eS s),(eD d),(.agg [(.str x.typ),(i6 x.x.kind),(.str x.x.alias),(.str x.x.name),(zq aD x.x.args),(zq aU x.x.dirs),(.str x.x.on_),(zq aF x.x.sels)]),(i6 n)] []=rE O LP s d x n:=by kernel_rfl
theorem aFE (s:GSchema) (d:GDoc) (x:GSeineref13Spot) (n:Int):Imp (jX s d x n) (rE O aE s d x n) (Ri aA):=by
 simp only [jX,rE,zd,zr]
 try simp only [evs,tys]
 refine zC rfl fun y2 _ => ?_
 try simp only [zes,evs,tys]
 apply Imp.cnd
 ·apply Imp.cnd
  ·exact zR
  ·exact zR
 ·apply Imp.cnd
  ·apply Imp.cnd
   ·exact zR
   ·refine zC rfl fun y4 _ => ?_
    try simp only [zes,evs,tys]
    apply Imp.cnd
    ·apply Imp.cnd
     ·exact zR
     ·refine zC rfl fun y6 _ => ?_
      try simp only [zes,evs,tys]
      apply Imp.cnd
      ·exact zR
      ·exact zR
    ·refine zC rfl fun y8 _ => ?_
     try simp only [zes,evs,tys]
     apply Imp.cnd
     ·exact zR
     ·exact zR
  ·apply Imp.cnd
   ·apply Imp.cnd
    ·exact zR
    ·refine zC rfl fun y10 _ => ?_
     try simp only [zes,evs,tys]
     exact zR
   ·apply Imp.cnd
    ·refine zC rfl fun y12 _ => ?_
     try simp only [zes,evs,tys]
     refine zC rfl fun y14 _ => ?_
     try simp only [zes,evs,tys]
     exact zR
    ·exact zR
theorem wN {s:GSchema} {d:GDoc} {x:GSeineref13Spot} {n:Int} {r:Bool} (h:jX s d x n=some r):sH s d x n=some r:=zV aC (aFE s d x n) Tryz.func59 (aHe _ _ s d x n) h
abbrev eC:List Sh:=[(.ptr 0 1 0),.bool,n6,(.ptr 0 4 0),n6,n6,.str,sf,sf,sf,sf,sf,.str,.str]
def aBX (O:Orc) (LP:LBs):cG:=fun s44 s44u=>cnd (chkL eC s44) (cnd (chkU [] s44u)
 (cnd (decide ((iv s44 4)<(List.length (ev s44 8):Int)))
 (bnd (ix 6 (zs s44 8) (zn s44 4)) fun x60=>cnd (chk (.ref bG) x60)
 (aM O 118 [(.agg [(zs s44 11),(zt s44 12),(zt s44 13)]),(zt (rf x60) 2)] fun x62=>cnd (chk .bool x62)
 (cnd (!(aV x62))
 (aM O 112 [(.agg [(zs s44 11),(zt s44 12),(zt s44 13)]),(zt (rf x60) 2)] fun x64=>cnd (chk .bool x64)
 (cnd (!(aV x64))
 (some (.ret,(pu (rb eC s44) 1 (.bool false)),[]))
 (bnd (ix 6 (zs s44 8) (zn s44 4)) fun x66=>cnd (chk (.ref bG) x66)
 (aM O 163 [(.agg [(zs s44 11),(zt s44 12),(zt s44 13)]),(zs (rf x66) 1)] fun x68=>cnd (chk .bool x68)
 (cnd (!(aV x68))
 (some (.ret,(pu (rb eC s44) 1 (.bool false)),[]))
 (some (.nrm,(pu (rb eC s44) 4 (i6 (w6 ((iv s44 4)+1)))),[]))) none) none)) none)
 (bnd (ix 6 (zs s44 8) (zn s44 4)) fun x70=>cnd (chk (.ref bG) x70)
 (aM O 163 [(.agg [(zs s44 11),(zt s44 12),(zt s44 13)]),(zs (rf x70) 1)] fun x72=>cnd (chk .bool x72)
 (cnd (!(aV x72))
 (some (.ret,(pu (rb eC s44) 1 (.bool false)),[]))
 (some (.nrm,(pu (rb eC s44) 4 (i6 (w6 ((iv s44 4)+1)))),[]))) none) none)) none) none)
 (some (.brk 2,(rb eC s44),[]))) none) none
abbrev gI:List Sh:=[(.ptr 0 1 0),.bool,n6,sf,.str,.str]
def aBY (O:Orc) (LP:LBs):cG:=fun s1 s1u=>cnd (chkL gI s1) (cnd (chkU [] s1u)
 (cnd (decide ((iv s1 2)<(List.length (ev s1 3):Int)))
 (bnd (ix 6 (zs s1 3) (zn s1 2)) fun x40=>cnd (chk (.ref mW) x40)
 (aM O 163 [(.agg [(zs s1 3),(zt s1 4),(zt s1 5)]),(zs (rf x40) 5)] fun x42=>cnd (chk .bool x42)
 (cnd (!(aV x42))
 (some (.ret,(pu (rb gI s1) 1 (.bool false)),[]))
 (bnd (LP (aBX O LP) [(.ptr 0 1 0),(zb s1 1),(zn s1 2),(.ptr 0 4 0),(i6 0),(zn (rf x40) 0),(zt (rf x40) 1),(zs (rf x40) 2),(zs (rf x40) 3),(zs (rf x40) 4),(zs (rf x40) 5),(zs s1 3),(zt s1 4),(zt s1 5)] []) fun y76 =>
 exIs y76.1 (some 2) (cnd (chkL [(.ptr 0 1 0),.bool,n6,(.ptr 0 4 0),n6,n6,.str,sf,sf,sf,sf,sf,.str,.str] y76.2.1) (cnd (chkU [] y76.2.2)
 (some (.nrm,[(.ptr 0 1 0),(zb y76.2.1 1),(i6 (w6 ((iv y76.2.1 2)+1))),(zs y76.2.1 11),(zt y76.2.1 12),(zt y76.2.1 13)],[])) none) none)
 (exIs y76.1 none (cnd (chkL [(.ptr 0 1 0),.bool,n6,(.ptr 0 4 0),n6,n6,.str,sf,sf,sf,sf,sf,.str,.str] y76.2.1) (cnd (chkU [] y76.2.2)
 (some (.ret,[(.ptr 0 1 0),(zb y76.2.1 1),(zn y76.2.1 2),(zs y76.2.1 11),(zt y76.2.1 12),(zt y76.2.1 13)],[])) none) none)
 (none)))) none) none)
 (some (.brk 0,(rb gI s1),[]))) none) none
def aBZ (O:Orc) (LP:LBs) (s:GSchema):Option (PV×UP) :=
 bnd (LP (aBY O LP) [(.ptr 0 1 0),(.bool false),(i6 0),(zq aK s.defs),(.str s.query),(.str s.mutation)] []) fun y79 =>
 exIs y79.1 (some 0) (cnd (chkL gI y79.2.1) (cnd (chkU [] y79.2.2)
 (some ((.bool true),[])) none) none)
 (exIs y79.1 none (cnd (chkL gI y79.2.1) (cnd (chkU [] y79.2.2)
 (some ((zb y79.2.1 1),[])) none) none)
 (none))
noncomputable def iX (s:GSchema) (y41:GDef):Int→Option (Int⊕(Unit⊕Unit))
 | k_59 =>
 cnd (decide (k_59<(List.length y41.fields:Int)))
  (bnd (nthI y41.fields k_59) fun y61 =>
  bnd (aKv s y61.t.name) fun y63 =>
  cnd (!y63)
  (bnd (lJ s y61.t.name) fun y65 =>
  cnd (!y65)
   (some (.inr (.inr ())))
   (bnd (nthI y41.fields k_59) fun y67 =>
   bnd (lK s y67.params) fun y69 =>
   cnd (!y69)
   (some (.inr (.inr ())))
   (some (.inl (IntKind.wrap .i64 (k_59+1))))))
  (bnd (nthI y41.fields k_59) fun y71 =>
  bnd (lK s y71.params) fun y73 =>
  cnd (!y73)
   (some (.inr (.inr ())))
   (some (.inl (IntKind.wrap .i64 (k_59+1))))))
  (some (.inr (.inl ())))
abbrev yX (s:GSchema) (i_39:Int) (y41:GDef) (a0:PV):List PV:=[(.ptr 0 1 0),(.bool false),(i6 i_39),(.ptr 0 4 0),a0,(i6 y41.kind),(.str y41.name),(zq PV.str y41.faces),(zq aG y41.fields),(zq PV.str y41.parts),(zq aQ y41.params),(zq aK s.defs),(.str s.query),(.str s.mutation)]
abbrev aFd (s:GSchema) (i_39:Int) (y41:GDef) (st:Int) (l:List PV) (u:UP):Prop:=l=(yX s i_39 y41 (i6 st))∧u=[]
abbrev aMN (s:GSchema) (i_39:Int) (y41:GDef) (p:Unit⊕Unit) (r:EU):Prop:=elim p (fun (p:Unit)=>∃ (k_74:Int),r=(Ex.brk 2,(yX s i_39 y41 (i6 k_74)),[])) (fun (p:Unit)=>∃ (k_75:Int),r=(Ex.ret,(yX s i_39 y41 (i6 k_75)),[]))
noncomputable def lO (s : GSchema) : Int → Option (Int ⊕ (Unit ⊕ Unit))
 | i_39 =>
 cnd (decide (i_39 < (List.length s.defs : Int)))
  (bnd (nthI s.defs i_39) fun y41 =>
  bnd (lK s y41.params) fun y43 =>
  cnd (!y43)
  (some (.inr (.inr ())))
  (bnd (bJ (iX s y41) 0) fun e76_2 => elim e76_2
  (fun p76 =>
   some (.inl (IntKind.wrap .i64 (i_39 + 1))))
  (fun p76 =>
  some (.inr (.inr ())))))
  (some (.inr (.inl ())))
abbrev yY (s:GSchema) (a0:PV):List PV:=[(.ptr 0 1 0),(.bool false),a0,(zq aK s.defs),(.str s.query),(.str s.mutation)]
abbrev aMO (s:GSchema) (st:Int) (l:List PV) (u:UP):Prop:=l=(yY s (i6 st))∧u=[]
abbrev aMP (s:GSchema) (p:Unit⊕Unit) (r:EU):Prop:=elim p (fun (p:Unit)=>∃ (i_77:Int),r=(Ex.brk 0,(yY s (i6 i_77)),[])) (fun (p:Unit)=>∃ (i_78:Int),r=(Ex.ret,(yY s (i6 i_78)),[]))
noncomputable def aAN (s:GSchema):Option Bool :=
 bnd (bJ (lO s) 0) fun e79_2=>elim e79_2
 (fun p79 =>
 some true)
 (fun p79 =>
 some false)
def aPR:Decs:={decs:=[(17,(.ref mW)),(22,.bool),(34,(.ref bG)),(40,.bool),(45,.bool),(53,(.ref bG)),(56,.bool)],loops:=[(2,[(1,3)],⟨gI,[],[(some 0,gI,[]),(none,gI,[])]⟩),(8,[(4,6),(1,3)],⟨eC,[],[(some 2,eC,[]),(none,eC,[])]⟩)]}
theorem aPS (O:Orc) (LP:LBs) (s:GSchema):eW 92 aPR Tryz.f92 O LP [(eS s)] []=aBZ O LP s:=by kernel_rfl
theorem aIc (s:GSchema) (i_39:Int) (y41:GDef):∀ st l u,aFd s i_39 y41 st l u→Imp (iX s y41 st) (aBX O aE l u) (pF (aFd s i_39 y41) (aMN s i_39 y41)):=by
 rintro k_59 l u ⟨rfl,rfl⟩
 simp only [iX,aBX,zd,zr]
 refine zG ?_
 try simp only [evs,tys]
 apply Imp.cnd
 ·refine zX aG cS fun y61 _ => ?_
  try simp only [evs,tys]
  refine zC rfl fun y63 _ => ?_
  try simp only [zes,evs,tys]
  apply Imp.cnd
  ·refine zC rfl fun y65 _ => ?_
   try simp only [zes,evs,tys]
   apply Imp.cnd
   ·exact zT ⟨k_59,zE⟩
   ·refine zX aG cS fun y67 _ => ?_
    try simp only [evs,tys]
    refine zC rfl fun y69 _ => ?_
    try simp only [zes,evs,tys]
    apply Imp.cnd
    ·exact zT ⟨k_59,zE⟩
    ·exact zN
  ·refine zX aG cS fun y71 _ => ?_
   try simp only [evs,tys]
   refine zC rfl fun y73 _ => ?_
   try simp only [zes,evs,tys]
   apply Imp.cnd
   ·exact zT ⟨k_59,zE⟩
   ·exact zN
 ·exact zB ⟨k_59,zE⟩
theorem aId (s:GSchema):Lok (aMO s) (lO s) (aBY O aE) (aMP s):=by
 rintro i_39 l u ⟨rfl,rfl⟩
 simp only [lO,aBY,zd,zr]
 refine zG ?_
 try simp only [evs,tys]
 apply Imp.cnd
 ·refine zX aK vI fun y41 _ => ?_
  try simp only [evs,tys]
  refine zC rfl fun y43 _ => ?_
  try simp only [zes,evs,tys]
  apply Imp.cnd
  ·exact zT ⟨i_39,zE⟩
  ·refine zL (aIc s i_39 y41) ?_
   rintro (p | p) vy76 hy76
   ·try simp only [aO,aP]
    obtain ⟨k_74,rfl⟩:=hy76
    refine zH ?_
    try simp only [evs,tys]
    exact zN
   ·try simp only [aO,aP]
    obtain ⟨k_75,rfl⟩:=hy76
    refine Imp.exMiss rfl ?_
    refine zH ?_
    try simp only [evs,tys]
    exact zT ⟨i_39,zE⟩
 ·exact zB ⟨i_39,zE⟩
theorem aMQ (s:GSchema):Imp (aAN s) (aBZ O aE s) (Ri aA):=by
 simp only [aAN,aBZ,zd,zr]
 try simp only [evs,tys]
 refine zL (aId s) ?_
 rintro (p | p) vy79 hy79
 ·try simp only [aO,aP]
  obtain ⟨i_77,rfl⟩:=hy79
  refine zH ?_
  try simp only [evs,tys]
  exact zR
 ·try simp only [aO,aP]
  obtain ⟨i_78,rfl⟩:=hy79
  refine Imp.exMiss rfl ?_
  refine zH ?_
  try simp only [evs,tys]
  exact zR
theorem aMR {s:GSchema} {r:Bool} (h:aAN s=some r):aKq s=some r:=zV aC (aMQ s) Tryz.func92 (aPS _ _ s) h
abbrev lP:List Sh:=[(.ptr 0 1 0),n6,st',n6,st',n6,sf,.str,.str]
def aB0 (O:Orc) (LP:LBs):cG:=fun s107 s107u=>cnd (chkL lP s107) (cnd (chkU [] s107u)
 (cnd (decide ((iv s107 5)<(List.length (ev s107 4):Int)))
 (bnd (ix 1 (zs s107 4) (zn s107 5)) fun x118=>cnd (chk (.ref .str) x118)
 (aM O 29 [(zs s107 2),(.str (strV (refV x118)))] fun x120=>cnd (chk .bool x120)
 (cnd (!(aV x120))
 (bnd (ix 1 (zs s107 4) (zn s107 5)) fun x122=>cnd (chk (.ref .str) x122)
 (bnd (apd 1 (zo s107 2) (.slice [(.str (strV (refV x122)))] [] true)) fun x124=>cnd (chk st' x124)
 (some (.nrm,(pu (pu (rb lP s107) 2 (.slice (esV x124) [] true)) 5 (i6 (w6 ((iv s107 5)+1)))),[])) none) none)
 (some (.nrm,(pu (rb lP s107) 5 (i6 (w6 ((iv s107 5)+1)))),[]))) none) none)
 (some (.brk 4,(rb lP s107),[]))) none) none
abbrev sK:List Sh:=[(.ptr 0 1 0),n6,st',n6,sf,.str,.str]
def aB1 (O:Orc) (LP:LBs):cG:=fun s74 s74u=>cnd (chkL sK s74) (cnd (chkU [] s74u)
 (cnd (decide ((iv s74 3)<(List.length (ev s74 2):Int)))
 (bnd (ix 1 (zs s74 2) (zn s74 3)) fun x103=>cnd (chk (.ref .str) x103)
 (aM O 166 [(.agg [(zs s74 4),(zt s74 5),(zt s74 6)]),(.str (strV (refV x103)))] fun x105=>cnd (chk st' x105)
 (bnd (LP (aB0 O LP) [(.ptr 0 1 0),(zn s74 1),(zo s74 2),(zn s74 3),(.slice (esV x105) [] true),(i6 0),(zs s74 4),(zt s74 5),(zt s74 6)] []) fun y128 =>
 exIs y128.1 (some 4) (cnd (chkL [(.ptr 0 1 0),n6,st',n6,st',n6,sf,.str,.str] y128.2.1) (cnd (chkU [] y128.2.2)
 (some (.nrm,[(.ptr 0 1 0),(zn y128.2.1 1),(zo y128.2.1 2),(i6 (w6 ((iv y128.2.1 3)+1))),(zs y128.2.1 6),(zt y128.2.1 7),(zt y128.2.1 8)],[])) none) none)
 (none)) none) none)
 (some (.brk 2,(rb sK s74),[]))) none) none
abbrev oO:List Sh:=[(.ptr 0 1 0),.any,n6,sf,.str,.str]
def aB2 (O:Orc) (LP:LBs):cG:=fun s1 s1u=>cnd (chkL oO s1) (cnd (chkU [] s1u)
 (cnd (decide ((iv s1 2)<(List.length (ev s1 3):Int)))
 (bnd (ix 6 (zs s1 3) (zn s1 2)) fun x70=>cnd (chk (.ref mW) x70)
 (aM O 166 [(.agg [(zs s1 3),(zt s1 4),(zt s1 5)]),(zt (rf x70) 1)] fun x72=>cnd (chk st' x72)
 (bnd (LP (aB1 O LP) [(.ptr 0 1 0),(zn s1 2),(.slice (esV x72) [] true),(i6 0),(zs s1 3),(zt s1 4),(zt s1 5)] []) fun y131 =>
 exIs y131.1 (some 2) (cnd (chkL [(.ptr 0 1 0),n6,st',n6,sf,.str,.str] y131.2.1) (cnd (chkU [] y131.2.2)
 (bnd (ix 6 (zs y131.2.1 4) (zn y131.2.1 1)) fun x132=>cnd (chk (.ref mW) x132)
 (aM O 29 [(zs y131.2.1 2),(zt (rf x132) 1)] fun x134=>cnd (chk .bool x134)
 (cnd (aV x134)
 (some (.ret,[(.ptr 0 1 0),(.bool false),(zn y131.2.1 1),(zs y131.2.1 4),(zt y131.2.1 5),(zt y131.2.1 6)],[]))
 (some (.nrm,[(.ptr 0 1 0),.bot,(i6 (w6 ((iv y131.2.1 1)+1))),(zs y131.2.1 4),(zt y131.2.1 5),(zt y131.2.1 6)],[]))) none) none) none) none)
 (none)) none) none)
 (some (.brk 0,(pu (rb oO s1) 1 (gt s1 1)),[]))) none) none
def aB3 (O:Orc) (LP:LBs) (s:GSchema):Option (PV×UP) :=
 bnd (LP (aB2 O LP) [(.ptr 0 1 0),(.bool false),(i6 0),(zq aK s.defs),(.str s.query),(.str s.mutation)] []) fun y139 =>
 exIs y139.1 (some 0) (cnd (chkL oO y139.2.1) (cnd (chkU [] y139.2.2)
 (some ((.bool true),[])) none) none)
 (exIs y139.1 none (cnd (chkL [(.ptr 0 1 0),.bool,n6,sf,.str,.str] y139.2.1) (cnd (chkU [] y139.2.2)
 (some ((zb y139.2.1 1),[])) none) none)
 (none))
noncomputable def oP (y106:List Str):((List Str)×Int)→Option (((List Str)×Int)⊕((List Str)))
 | (l_116,j_117) =>
 cnd (decide (j_117<(List.length y106:Int)))
  (bnd (nthI y106 j_117) fun y119 =>
  bnd (aBj l_116 y119) fun y121 =>
  cnd (!y121)
  (bnd (nthI y106 j_117) fun y123 =>
  bnd (tapp l_116 [y123]) fun y125 =>
  some (.inl (y125,(IntKind.wrap .i64 (j_117+1)))))
  (some (.inl (l_116,(IntKind.wrap .i64 (j_117+1))))))
  (some (.inr l_116))
abbrev aFe (s:GSchema) (i_69:Int) (k_102:Int) (y106:List Str) (st:(List Str)×Int) (l:List PV) (u:UP):Prop:=l=[(.ptr 0 1 0),(i6 i_69),(zp PV.str st.1),(i6 k_102),(zp PV.str y106),(i6 st.2),(zq aK s.defs),(.str s.query),(.str s.mutation)]∧u=[]
abbrev aMS (s:GSchema) (i_69:Int) (k_102:Int) (y106:List Str) (p:(List Str)) (r:EU):Prop:=(fun (p:(List Str))=>∃ (j_127:Int),r=(Ex.brk 4,[(.ptr 0 1 0),(i6 i_69),(zp PV.str p),(i6 k_102),(zp PV.str y106),(i6 j_127),(zq aK s.defs),(.str s.query),(.str s.mutation)],[])) p
noncomputable def oQ (s:GSchema):((List Str)×Int)→Option (((List Str)×Int)⊕((List Str)))
 | (l_101,k_102) =>
 cnd (decide (k_102<(List.length l_101:Int)))
  (bnd (nthI l_101 k_102) fun y104 =>
  bnd (aF4 s y104) fun y106 =>
  bnd (bJ (oP y106) (l_101,0)) fun l_126 =>
  some (.inl (l_126,(IntKind.wrap .i64 (k_102+1)))))
  (some (.inr l_101))
abbrev aFf (s:GSchema) (i_69:Int) (st:(List Str)×Int) (l:List PV) (u:UP):Prop:=l=[(.ptr 0 1 0),(i6 i_69),(zp PV.str st.1),(i6 st.2),(zq aK s.defs),(.str s.query),(.str s.mutation)]∧u=[]
abbrev aMT (s:GSchema) (i_69:Int) (p:(List Str)) (r:EU):Prop:=(fun (p:(List Str))=>∃ (k_130:Int),r=(Ex.brk 2,[(.ptr 0 1 0),(i6 i_69),(zp PV.str p),(i6 k_130),(zq aK s.defs),(.str s.query),(.str s.mutation)],[])) p
noncomputable def sL (s:GSchema):Int→Option (Int⊕(Unit⊕Unit))
 | i_69 =>
 cnd (decide (i_69<(List.length s.defs:Int)))
  (bnd (nthI s.defs i_69) fun y71 =>
  bnd (aF4 s y71.name) fun y73 =>
  bnd (bJ (oQ s) (y73,0)) fun l_129 =>
  bnd (nthI s.defs i_69) fun y133 =>
  bnd (aBj l_129 y133.name) fun y135 =>
  cnd y135
  (some (.inr (.inr ())))
  (some (.inl (IntKind.wrap .i64 (i_69+1)))))
  (some (.inr (.inl ())))
abbrev yZ (s:GSchema) (a0 a1:PV):List PV:=[(.ptr 0 1 0),a0,a1,(zq aK s.defs),(.str s.query),(.str s.mutation)]
abbrev aMU (s:GSchema) (st:Int) (l:List PV) (u:UP):Prop:=∃ (j68:PV),l=(yZ s j68 (i6 st))∧u=[]
abbrev aMV (s:GSchema) (p:Unit⊕Unit) (r:EU):Prop:=elim p (fun (p:Unit)=>∃ (j136:PV),∃ (i_137:Int),r=(Ex.brk 0,(yZ s j136 (i6 i_137)),[])) (fun (p:Unit)=>∃ (i_138:Int),r=(Ex.ret,(yZ s (.bool false) (i6 i_138)),[]))
noncomputable def uE (s:GSchema):Option Bool :=
 bnd (bJ (sL s) 0) fun e139_2=>elim e139_2
 (fun p139 =>
 some true)
 (fun p139 =>
 some false)
def aPT:Decs:={decs:=[(19,(.ref mW)),(22,st'),(32,(.ref .str)),(34,st'),(44,(.ref .str)),(46,.bool),(51,(.ref .str)),(54,st'),(59,(.ref mW)),(62,.bool)],loops:=[(2,[(1,3)],⟨oO,[],[(some 0,oO,[]),(none,[(.ptr 0 1 0),.bool,n6,sf,.str,.str],[])]⟩),(6,[(1,3)],⟨sK,[],[(some 2,sK,[])]⟩),(10,[(1,3)],⟨lP,[],[(some 4,lP,[])]⟩)]}
theorem aPU (O:Orc) (LP:LBs) (s:GSchema):eW 96 aPT Tryz.f96 O LP [(eS s)] []=aB3 O LP s:=by kernel_rfl
theorem aIe (s:GSchema) (i_69:Int) (k_102:Int) (y106:List Str):∀ st l u,aFe s i_69 k_102 y106 st l u→Imp (oP y106 st) (aB0 O aE l u) (pF (aFe s i_69 k_102 y106) (aMS s i_69 k_102 y106)):=by
 rintro ⟨l_116,j_117⟩ l u ⟨rfl,rfl⟩
 simp only [oP,aB0,zd,zr]
 refine zG ?_
 try simp only [evs,tys]
 apply Imp.cnd
 ·refine zX PV.str (fun _=>rfl) fun y119 _ => ?_
  try simp only [evs,tys]
  refine zC rfl fun y121 _ => ?_
  try simp only [zes,evs,tys]
  apply Imp.cnd
  ·refine zX PV.str (fun _=>rfl) fun y123 _ => ?_
   try simp only [evs,tys]
   refine Imp.op (f:=fun a => .slice (List.map PV.str a) [] true) (fun a h=>wK (enc:=PV.str) zI zI (fun a=>by first | rfl | simp only [evs,tys,evc]) h) (fun a=>rfl) fun y125 hy125 => ?_
   try simp only [evs,tys]
   exact zN
  ·exact zN
 ·exact zB ⟨j_117,zE⟩
theorem aIf (s:GSchema) (i_69:Int):∀ st l u,aFf s i_69 st l u→Imp (oQ s st) (aB1 O aE l u) (pF (aFf s i_69) (aMT s i_69)):=by
 rintro ⟨l_101,k_102⟩ l u ⟨rfl,rfl⟩
 simp only [oQ,aB1,zd,zr]
 refine zG ?_
 try simp only [evs,tys]
 apply Imp.cnd
 ·refine zX PV.str (fun _=>rfl) fun y104 _ => ?_
  try simp only [evs,tys]
  refine zC rfl fun y106 _ => ?_
  try simp only [zes,evs,tys]
  refine zL (aIe s i_69 k_102 y106) ?_
  rintro l_126 _ ⟨j_127,rfl⟩
  refine zH ?_
  try simp only [evs,tys]
  exact zN
 ·exact zB ⟨k_102,zE⟩
theorem aIg (s:GSchema):Lok (aMU s) (sL s) (aB2 O aE) (aMV s):=by
 rintro i_69 l u ⟨j68,rfl,rfl⟩
 simp only [sL,aB2,zd,zr]
 refine zG ?_
 try simp only [evs,tys]
 apply Imp.cnd
 ·refine zX aK vI fun y71 _ => ?_
  try simp only [evs,tys]
  refine zC rfl fun y73 _ => ?_
  try simp only [zes,evs,tys]
  refine zL (aIf s i_69) ?_
  rintro l_129 _ ⟨k_130,rfl⟩
  refine zH ?_
  try simp only [evs,tys]
  refine zX aK vI fun y133 _ => ?_
  try simp only [evs,tys]
  refine zC rfl fun y135 _ => ?_
  try simp only [zes,evs,tys]
  apply Imp.cnd
  ·exact zT ⟨i_69,zE⟩
  ·exact Imp.some (pF.next ⟨_,zI,rfl⟩)
 ·exact zB ⟨_,i_69,zE⟩
theorem aMW (s:GSchema):Imp (uE s) (aB3 O aE s) (Ri aA):=by
 simp only [uE,aB3,zd,zr]
 try simp only [evs,tys]
 refine Imp.bnd (Imp.loop (aIg s) ⟨_,zI,rfl⟩) ?_
 rintro (p | p) vy139 hy139
 ·try simp only [aO,aP]
  obtain ⟨j136,i_137,rfl⟩:=hy139
  refine zH ?_
  try simp only [evs,tys]
  exact zR
 ·try simp only [aO,aP]
  obtain ⟨i_138,rfl⟩:=hy139
  refine Imp.exMiss rfl ?_
  refine zH ?_
  try simp only [evs,tys]
  exact zR
theorem aMX {s:GSchema} {r:Bool} (h:uE s=some r):aKr s=some r:=zV aC (aMW s) Tryz.func96 (aPU _ _ s) h
abbrev lQ:List Sh:=[(.ptr 0 2 0),st',n6,sf,sf]
def aB4 (O:Orc) (LP:LBs):cG:=fun s3 s3u=>cnd (chkL lQ s3) (cnd (chkU [] s3u)
 (cnd (decide ((iv s3 2)<(List.length (ev s3 1):Int)))
 (bnd (ix 1 (zs s3 1) (zn s3 2)) fun x12=>cnd (chk (.ref .str) x12)
 (aM O 113 [(.agg [(zs s3 3),(zs s3 4)]),(.str (strV (refV x12)))] fun x14=>cnd (chk (.tup [jO,.bool]) x14)
 (cnd (aV (tv x14 1))
 (aM O 183 [(zs (tg x14 0) 3),(zo s3 1)] fun x16=>cnd (chk st' x16)
 (some (.nrm,[(.ptr 0 2 0),(.slice (esV x16) [] true),(i6 (w6 ((iv s3 2)+1))),(zs s3 3),(zs s3 4)],[])) none)
 (some (.nrm,(pu (rb lQ s3) 2 (i6 (w6 ((iv s3 2)+1)))),[]))) none) none)
 (some (.brk 0,(rb lQ s3),[]))) none) none
abbrev gJ:List Sh:=[(.ptr 0 2 0),st',st',n6,sf,sf]
def aB5 (O:Orc) (LP:LBs):cG:=fun s21 s21u=>cnd (chkL gJ s21) (cnd (chkU [] s21u)
 (cnd (decide ((iv s21 3)<(List.length (ev s21 5):Int)))
 (bnd (ix 4 (zs s21 5) (zn s21 3)) fun x36=>cnd (chk (.ref jO) x36)
 (aM O 29 [(zs s21 1),(zt (rf x36) 0)] fun x38=>cnd (chk .bool x38)
 (cnd (aV x38)
 (bnd (ix 4 (zs s21 5) (zn s21 3)) fun x40=>cnd (chk (.ref jO) x40)
 (aM O 29 [(zs s21 2),(zt (rf x40) 0)] fun x42=>cnd (chk .bool x42)
 (cnd (!(aV x42))
 (bnd (ix 4 (zs s21 5) (zn s21 3)) fun x44=>cnd (chk (.ref jO) x44)
 (bnd (apd 1 (zo s21 2) (.slice [(zt (rf x44) 0)] [] true)) fun x46=>cnd (chk st' x46)
 (some (.nrm,(pu (pu (rb gJ s21) 2 (.slice (esV x46) [] true)) 3 (i6 (w6 ((iv s21 3)+1)))),[])) none) none)
 (some (.nrm,(pu (rb gJ s21) 3 (i6 (w6 ((iv s21 3)+1)))),[]))) none) none)
 (some (.nrm,(pu (rb gJ s21) 3 (i6 (w6 ((iv s21 3)+1)))),[]))) none) none)
 (some (.brk 2,(rb gJ s21),[]))) none) none
def aB6 (O:Orc) (LP:LBs) (d:GDoc) (l0:List GSel):Option (PV×UP) :=
 aM O 182 [(zq aF l0)] fun x1=>cnd (chk st' x1)
 (bnd (LP (aB4 O LP) [(.ptr 0 2 0),(.slice (esV x1) [] true),(i6 0),(zq bL d.ops),(zq aJ d.frags)] []) fun y20 =>
 exIs y20.1 (some 0) (cnd (chkL lQ y20.2.1) (cnd (chkU [] y20.2.2)
 (bnd (LP (aB5 O LP) [(.ptr 0 2 0),(zo y20.2.1 1),(.slice [] [] true),(i6 0),(zs y20.2.1 3),(zs y20.2.1 4)] []) fun y50 =>
 exIs y50.1 (some 2) (cnd (chkL gJ y50.2.1) (cnd (chkU [] y50.2.2)
 (some ((zs y50.2.1 2),[])) none) none)
 (none)) none) none)
 (none)) none
noncomputable def gK (d:GDoc):((List Str)×Int)→Option (((List Str)×Int)⊕((List Str)))
 | (all_10,i_11) =>
 cnd (decide (i_11<(List.length all_10:Int)))
  (bnd (nthI all_10 i_11) fun y13 =>
  bnd (aKw d y13) fun y15 =>
  cnd y15.2
  (bnd (jM y15.1.sels all_10) fun y17 =>
  some (.inl (y17,(IntKind.wrap .i64 (i_11+1)))))
  (some (.inl (all_10,(IntKind.wrap .i64 (i_11+1))))))
  (some (.inr all_10))
abbrev aMY (d:GDoc) (st:(List Str)×Int) (l:List PV) (u:UP):Prop:=l=[(.ptr 0 2 0),(zp PV.str st.1),(i6 st.2),(zq bL d.ops),(zq aJ d.frags)]∧u=[]
abbrev aMZ (d:GDoc) (p:(List Str)) (r:EU):Prop:=(fun (p:(List Str))=>∃ (i_19:Int),r=(Ex.brk 0,[(.ptr 0 2 0),(zp PV.str p),(i6 i_19),(zq bL d.ops),(zq aJ d.frags)],[])) p
noncomputable def lR (d:GDoc) (all_18:List Str):((List Str)×Int)→Option (((List Str)×Int)⊕((List Str)))
 | (out_34,i_35) =>
 cnd (decide (i_35<(List.length d.frags:Int)))
  (bnd (nthI d.frags i_35) fun y37 =>
  bnd (aBj all_18 y37.name) fun y39 =>
  cnd y39
  (bnd (nthI d.frags i_35) fun y41 =>
  bnd (aBj out_34 y41.name) fun y43 =>
  cnd (!y43)
   (bnd (nthI d.frags i_35) fun y45 =>
   bnd (tapp out_34 [y45.name]) fun y47 =>
   some (.inl (y47,(IntKind.wrap .i64 (i_35+1)))))
   (some (.inl (out_34,(IntKind.wrap .i64 (i_35+1))))))
  (some (.inl (out_34,(IntKind.wrap .i64 (i_35+1))))))
  (some (.inr out_34))
abbrev aM0 (d:GDoc) (all_18:List Str) (st:(List Str)×Int) (l:List PV) (u:UP):Prop:=l=[(.ptr 0 2 0),(zp PV.str all_18),(zp PV.str st.1),(i6 st.2),(zq bL d.ops),(zq aJ d.frags)]∧u=[]
abbrev aM1 (d:GDoc) (all_18:List Str) (p:(List Str)) (r:EU):Prop:=(fun (p:(List Str))=>∃ (i_49:Int),r=(Ex.brk 2,[(.ptr 0 2 0),(zp PV.str all_18),(zp PV.str p),(i6 i_49),(zq bL d.ops),(zq aJ d.frags)],[])) p
noncomputable def aAO (d:GDoc) (l0:List GSel):Option (List Str) :=
 bnd (aEa l0) fun y2 =>
 bnd (bJ (gK d) (y2,0)) fun all_18 =>
 bnd (bJ (lR d all_18) ([],0)) fun out_48 =>
 some out_48
def aPV:Decs:={decs:=[(12,st'),(23,(.ref .str)),(25,(.tup [jO,.bool])),(32,st'),(44,(.ref jO)),(47,.bool),(53,(.ref jO)),(56,.bool),(63,(.ref jO)),(67,st')],loops:=[(3,[(2,2)],⟨lQ,[],[(some 0,lQ,[])]⟩),(10,[(2,2)],⟨gJ,[],[(some 2,gJ,[])]⟩)]}
theorem aPW (O:Orc) (LP:LBs) (d:GDoc) (l0:List GSel):eW 114 aPV Tryz.f114 O LP [(eD d),(zq aF l0)] []=aB6 O LP d l0:=by kernel_rfl
theorem aIh (d:GDoc):Lok (aMY d) (gK d) (aB4 O aE) (aMZ d):=by
 rintro ⟨all_10,i_11⟩ l u ⟨rfl,rfl⟩
 simp only [gK,aB4,zd,zr]
 refine zG ?_
 try simp only [evs,tys]
 apply Imp.cnd
 ·refine zX PV.str (fun _=>rfl) fun y13 _ => ?_
  try simp only [evs,tys]
  refine zC rfl fun y15 _ => ?_
  try simp only [zes,evs,tys]
  apply Imp.cnd
  ·refine zC rfl fun y17 _ => ?_
   try simp only [zes,evs,tys]
   exact zN
  ·exact zN
 ·exact zB ⟨i_11,zE⟩
theorem aIi (d:GDoc) (all_18:List Str):Lok (aM0 d all_18) (lR d all_18) (aB5 O aE) (aM1 d all_18):=by
 rintro ⟨out_34,i_35⟩ l u ⟨rfl,rfl⟩
 simp only [lR,aB5,zd,zr]
 refine zG ?_
 try simp only [evs,tys]
 apply Imp.cnd
 ·refine zX aJ mM fun y37 _ => ?_
  try simp only [evs,tys]
  refine zC rfl fun y39 _ => ?_
  try simp only [zes,evs,tys]
  apply Imp.cnd
  ·refine zX aJ mM fun y41 _ => ?_
   try simp only [evs,tys]
   refine zC rfl fun y43 _ => ?_
   try simp only [zes,evs,tys]
   apply Imp.cnd
   ·refine zX aJ mM fun y45 _ => ?_
    try simp only [evs,tys]
    refine Imp.op (f:=fun a => .slice (List.map PV.str a) [] true) (fun a h=>wK (enc:=PV.str) zI zI (fun a=>by first | rfl | simp only [evs,tys,evc]) h) (fun a=>rfl) fun y47 hy47 => ?_
    try simp only [evs,tys]
    exact zN
   ·exact zN
  ·exact zN
 ·exact zB ⟨i_35,zE⟩
theorem aM2 (d:GDoc) (l0:List GSel):Imp (aAO d l0) (aB6 O aE d l0) (Ri cN):=by
 simp only [aAO,aB6,zd,zr]
 try simp only [evs,tys]
 refine zC rfl fun y2 _ => ?_
 try simp only [zes,evs,tys]
 refine zL (aIh d) ?_
 rintro all_18 _ ⟨i_19,rfl⟩
 refine zH ?_
 try simp only [evs,tys]
 refine zL (aIi d all_18) ?_
 rintro out_48 _ ⟨i_49,rfl⟩
 refine zH ?_
 try simp only [evs,tys]
 exact zR
theorem aM3 {d:GDoc} {l0:List GSel} {r:List Str} (h:aAO d l0=some r):aSe d l0=some r:=zV yK (aM2 d l0) Tryz.func114 (aPW _ _ d l0) h
abbrev fK:List Sh:=[(.ptr 0 4 0),(.ptr 0 6 0),.bool,(.ptr 0 9 0),n6,.str,n6,n6,n6,n6,.str,sf,sf,.str,n6,n6,sf,.str,.str]
def aB7 (O:Orc) (LP:LBs):cG:=fun s13 s13u=>cnd (chkL fK s13) (cnd (chkU [] s13u)
 (cnd (decide ((iv s13 4)<(List.length (ev s13 11):Int)))
 (bnd (ix 5 (zs s13 11) (zn s13 4)) fun x21=>cnd (chk (.ref mL) x21)
 (aM O 192 [(.agg [(zs s13 16),(zt s13 17),(zt s13 18)]),(.agg [(zt s13 5),(zn s13 6),(zn s13 7)]),(.agg [(zn (rf x21) 0),(zn (rf x21) 1),(zt (rf x21) 2),(zs (rf x21) 3),(zs (rf x21) 4)]),(.bool false)] fun x23=>cnd (chk .bool x23)
 (cnd (!(aV x23))
 (some (.ret,(pu (rb fK s13) 2 (.bool false)),[]))
 (some (.nrm,(pu (rb fK s13) 4 (i6 (w6 ((iv s13 4)+1)))),[]))) none) none)
 (some (.brk 0,(rb fK s13),[]))) none) none
def aB8 (O:Orc) (LP:LBs) (s:GSchema) (t:GType) (v0:GValue) (alone:Bool):Option (PV×UP) :=
 aM O 101 [(eT t)] fun x2=>cnd (chk .bool x2)
 (cnd (!(aV x2))
 (some ((.bool false),[]))
 (cnd (v0.kind==8)
 (some ((.bool true),[]))
 (cnd (v0.kind==0)
 (some ((.bool ((bits .and .i64 t.musts 1)==0)),[]))
 (aM O 224 [(eT t)] fun x6=>cnd (chk (.tup [aR8,.bool]) x6)
 (jn (fun (t_11:Bool) =>
 (cnd (aV (tv x6 1))
 (bnd (LP (aB7 O LP) [(.ptr 0 4 0),(.ptr 0 6 0),(.bool false),(.ptr 0 9 0),(i6 0),(zt (tg x6 0) 0),(zn (tg x6 0) 1),(zn (tg x6 0) 2),(i6 v0.kind),(i6 v0.n),(.str v0.s),(zq aN v0.l),(zq aD v0.m),(.str t.name),(i6 t.lists),(i6 t.musts),(zq aK s.defs),(.str s.query),(.str s.mutation)] []) fun y27 =>
 exIs y27.1 (some 0) (cnd (chkL fK y27.2.1) (cnd (chkU [] y27.2.2)
 (some ((.bool true),[])) none) none)
 (exIs y27.1 none (cnd (chkL fK y27.2.1) (cnd (chkU [] y27.2.2)
 (some ((zb y27.2.1 2),[])) none) none)
 (none)))
 (cnd (t.name==([73,110,116]:Str))
 (cnd (v0.kind==2)
 (cnd (decide (v0.n≥(-2147483648)))
 (some ((.bool (decide (v0.n≤2147483647))),[]))
 (some ((.bool false),[])))
 (some ((.bool false),[])))
 (cnd (t.name==([83,116,114,105,110,103]:Str))
 (some ((.bool (v0.kind==4)),[]))
 (cnd (t.name==([66,111,111,108,101,97,110]:Str))
 (some ((.bool (v0.kind==1)),[]))
 (cnd (t.name==([73,68]:Str))
 (cnd (v0.kind==4)
 (some ((.bool true),[]))
 (some ((.bool (v0.kind==2)),[])))
 (aM O 164 [(eS s),(.str t.name)] fun x29=>cnd (chk (.tup [mW,.bool]) x29)
 (cnd ((iv (tg x29 0) 0)==4)
 (cnd (v0.kind==5)
 (aM O 29 [(zs (tg x29 0) 4),(.str v0.s)] fun x32=>cnd (chk .bool x32)
 (some ((.bool (aV x32)),[])) none)
 (some ((.bool false),[])))
 (cnd ((iv (tg x29 0) 0)==5)
 (cnd (v0.kind==7)
 (aM O 225 [(eS s),(zs (tg x29 0) 5),(zq aD v0.m)] fun x34=>cnd (chk .bool x34)
 (some ((.bool (aV x34)),[])) none)
 (some ((.bool false),[])))
 (some ((.bool false),[])))) none))))))) fun k8 =>
 cnd (aV (tv x6 1))
 (cnd (v0.kind != 6)
 (cnd alone
 (aM O 192 [(eS s),(.agg [(zt (tg x6 0) 0),(zn (tg x6 0) 1),(zn (tg x6 0) 2)]),(eV v0),(.bool true)] fun x9=>cnd (chk .bool x9)
 (some ((.bool (aV x9)),[])) none)
 (some ((.bool false),[])))
 (k8 true))
 (k8 false)) none)))) none
noncomputable def oR (s:GSchema) (v0:GValue) (y7:GType×Bool):Int→Option (Int⊕(Unit⊕Unit))
 | i_19 =>
 cnd (decide (i_19<(List.length v0.l:Int)))
  (bnd (nthI v0.l i_19) fun y22 =>
  bnd (sI s y7.1 y22 false) fun y24 =>
  cnd (!y24)
  (some (.inr (.inr ())))
  (some (.inl (IntKind.wrap .i64 (i_19+1)))))
  (some (.inr (.inl ())))
abbrev zD (s:GSchema) (t:GType) (v0:GValue) (y7:GType×Bool) (a0:PV):List PV:=[(.ptr 0 4 0),(.ptr 0 6 0),(.bool false),(.ptr 0 9 0),a0,(.str y7.1.name),(i6 y7.1.lists),(i6 y7.1.musts),(i6 v0.kind),(i6 v0.n),(.str v0.s),(zq aN v0.l),(zq aD v0.m),(.str t.name),(i6 t.lists),(i6 t.musts),(zq aK s.defs),(.str s.query),(.str s.mutation)]
abbrev aFg (s:GSchema) (t:GType) (v0:GValue) (y7:GType×Bool) (st:Int) (l:List PV) (u:UP):Prop:=l=(zD s t v0 y7 (i6 st))∧u=[]
abbrev aM4 (s:GSchema) (t:GType) (v0:GValue) (y7:GType×Bool) (p:Unit⊕Unit) (r:EU):Prop:=elim p (fun (p:Unit)=>∃ (i_25:Int),r=(Ex.brk 0,(zD s t v0 y7 (i6 i_25)),[])) (fun (p:Unit)=>∃ (i_26:Int),r=(Ex.ret,(zD s t v0 y7 (i6 i_26)),[]))
noncomputable def uF (s:GSchema) (t:GType) (v0:GValue) (alone:Bool):Option Bool :=
 bnd (oN t) fun y3 =>
 cnd (!y3)
 (some false)
 (cnd (v0.kind==8)
 (some true)
 (cnd (v0.kind==0)
 (some ((bits .and .i64 t.musts 1)==0))
 (bnd (aPv t) fun y7 =>
 jn (fun (t_11:Bool) =>
 (cnd y7.2
 (bnd (bJ (oR s v0 y7) 0) fun e27_2=>elim e27_2
 (fun p27 =>
 some true)
 (fun p27 =>
 some false))
 (cnd (t.name==([73,110,116]:Str))
 (cnd (v0.kind==2)
 (cnd (decide (v0.n≥(-2147483648)))
 (some (decide (v0.n≤2147483647)))
 (some false))
 (some false))
 (cnd (t.name==([83,116,114,105,110,103]:Str))
 (some (v0.kind==4))
 (cnd (t.name==([66,111,111,108,101,97,110]:Str))
 (some (v0.kind==1))
 (cnd (t.name==([73,68]:Str))
 (cnd (v0.kind==4)
 (some true)
 (some (v0.kind==2)))
 (bnd (vL s t.name) fun y30 =>
 cnd (y30.1.kind==4)
 (cnd (v0.kind==5)
 (bnd (aBj y30.1.parts v0.s) fun y33 =>
 some y33)
 (some false))
 (cnd (y30.1.kind==5)
 (cnd (v0.kind==7)
 (bnd (aAI s y30.1.params v0.m) fun y35 =>
 some y35)
 (some false))
 (some false))))))))) fun k8 =>
 cnd y7.2
 (cnd (v0.kind != 6)
 (cnd alone
 (bnd (sI s y7.1 v0 true) fun y10 =>
 some y10)
 (some false))
 (k8 true))
 (k8 false))))
def aPX:Decs:={decs:=[(15,.bool),(29,(.tup [aR8,.bool])),(43,.bool),(58,(.ref mL)),(60,.bool),(103,(.tup [mW,.bool])),(117,.bool),(133,.bool)],loops:=[(12,[(9,3),(6,5),(5,3),(4,3)],⟨fK,[],[(some 0,fK,[]),(none,fK,[])]⟩)]}
theorem aPY (O:Orc) (LP:LBs) (s:GSchema) (t:GType) (v0:GValue) (alone:Bool):eW 192 aPX Tryz.f192 O LP [(eS s),(eT t),(eV v0),(.bool alone)] []=aB8 O LP s t v0 alone:=by kernel_rfl
theorem aIj (s:GSchema) (t:GType) (v0:GValue) (y7:GType×Bool):∀ st l u,aFg s t v0 y7 st l u→Imp (oR s v0 y7 st) (aB7 O aE l u) (pF (aFg s t v0 y7) (aM4 s t v0 y7)):=by
 rintro i_19 l u ⟨rfl,rfl⟩
 simp only [oR,aB7,zd,zr]
 refine zG ?_
 try simp only [evs,tys]
 apply Imp.cnd
 ·refine zX aN aAA fun y22 _ => ?_
  try simp only [evs,tys]
  refine zC rfl fun y24 _ => ?_
  try simp only [zes,evs,tys]
  apply Imp.cnd
  ·exact zT ⟨i_19,zE⟩
  ·exact zN
 ·exact zB ⟨i_19,zE⟩
theorem aM5 (s:GSchema) (t:GType) (v0:GValue) (alone:Bool):Imp (uF s t v0 alone) (aB8 O aE s t v0 alone) (Ri aA):=by
 simp only [uF,aB8,zd,zr]
 try simp only [evs,tys]
 refine zC rfl fun y3 _ => ?_
 try simp only [zes,evs,tys]
 apply Imp.cnd
 ·exact zR
 ·apply Imp.cnd
  ·exact zR
  ·apply Imp.cnd
   ·exact zR
   ·refine zC rfl fun y7 _ => ?_
    try simp only [zes,evs,tys]
    refine Imp.jn (fun I k2 k1=>∀ (t_11:Bool),I (k2 t_11) (k1 t_11)) (fun t_11 => ?_) fun k8 k8t hk8 => ?_
    ·dsimp only
     try simp only [evs,tys]
     apply Imp.cnd
     ·refine zL (aIj s t v0 y7) ?_
      rintro (p | p) vy27 hy27
      ·try simp only [aO,aP]
       obtain ⟨i_25,rfl⟩:=hy27
       refine zH ?_
       try simp only [evs,tys]
       exact zR
      ·try simp only [aO,aP]
       obtain ⟨i_26,rfl⟩:=hy27
       refine Imp.exMiss rfl ?_
       refine zH ?_
       try simp only [evs,tys]
       exact zR
     ·apply Imp.cnd
      ·apply Imp.cnd
       ·apply Imp.cnd
        ·exact zR
        ·exact zR
       ·exact zR
      ·apply Imp.cnd
       ·exact zR
       ·apply Imp.cnd
        ·exact zR
        ·apply Imp.cnd
         ·apply Imp.cnd
          ·exact zR
          ·exact zR
         ·refine zC rfl fun y30 _ => ?_
          try simp only [zes,evs,tys]
          apply Imp.cnd
          ·apply Imp.cnd
           ·refine zC rfl fun y33 _ => ?_
            try simp only [zes,evs,tys]
            exact zR
           ·exact zR
          ·apply Imp.cnd
           ·apply Imp.cnd
            ·refine zC rfl fun y35 _ => ?_
             try simp only [zes,evs,tys]
             exact zR
            ·exact zR
           ·exact zR
    apply Imp.cnd
    ·apply Imp.cnd
     ·apply Imp.cnd
      ·refine zC rfl fun y10 _ => ?_
       try simp only [zes,evs,tys]
       exact zR
      ·exact zR
     ·first | exact hk8 _ | simpa only [evs,tys,evl] using hk8 _
    ·first | exact hk8 _ | simpa only [evs,tys,evl] using hk8 _
theorem aM6 {s:GSchema} {t:GType} {v0:GValue} {alone:Bool} {r:Bool} (h:uF s t v0 alone=some r):sI s t v0 alone=some r:=zV aC (aM5 s t v0 alone) Tryz.func192 (aPY _ _ s t v0 alone) h
abbrev cT:List Sh:=[st',(.ptr 0 2 0),n6,n6,n6,.str,sf,sf]
def uG (O:Orc) (LP:LBs):cG:=fun s5 s5u=>cnd (chkL cT s5) (cnd (chkU [] s5u)
 (cnd (decide ((iv s5 2)<(List.length (ev s5 6):Int)))
 (cnd ((iv s5 3)==6)
 (bnd (ix 5 (zs s5 6) (zn s5 2)) fun x12=>cnd (chk (.ref mL) x12)
 (aM O 236 [(.agg [(zn (rf x12) 0),(zn (rf x12) 1),(zt (rf x12) 2),(zs (rf x12) 3),(zs (rf x12) 4)]),(zo s5 0)] fun x14=>cnd (chk st' x14)
 (some (.nrm,(pu (pu (rb cT s5) 0 (.slice (esV x14) [] true)) 2 (i6 (w6 ((iv s5 2)+1)))),[])) none) none)
 (some (.brk 0,(rb cT s5),[])))
 (some (.brk 0,(rb cT s5),[]))) none) none
abbrev vN:List Sh:=[st',(.ptr 0 2 0),n6,n6,n6,.str,sf,sf]
def uH (O:Orc) (LP:LBs):cG:=fun s19 s19u=>cnd (chkL vN s19) (cnd (chkU [] s19u)
 (cnd (decide ((iv s19 2)<(List.length (ev s19 7):Int)))
 (cnd ((iv s19 3)==7)
 (bnd (ix 6 (zs s19 7) (zn s19 2)) fun x26=>cnd (chk (.ref dP) x26)
 (aM O 236 [(.agg [(zn (rf x26) 1),(zn (rf x26) 2),(zt (rf x26) 3),(zs (rf x26) 4),(zs (rf x26) 5)]),(zo s19 0)] fun x28=>cnd (chk st' x28)
 (some (.nrm,(pu (pu (rb vN s19) 0 (.slice (esV x28) [] true)) 2 (i6 (w6 ((iv s19 2)+1)))),[])) none) none)
 (some (.brk 2,(rb vN s19),[])))
 (some (.brk 2,(rb vN s19),[]))) none) none
def aEp (O:Orc) (LP:LBs) (v0:GValue) (out0:List Str):Option (PV×UP) :=
 cnd (v0.kind==8)
 (aM O 29 [(zq PV.str out0),(.str v0.s)] fun x1=>cnd (chk .bool x1)
 (cnd (!(aV x1))
 (bnd (apd 1 (zp PV.str out0) (.slice [(.str v0.s)] [] true)) fun x3=>cnd (chk st' x3)
 (bnd (LP (uG O LP) [(.slice (esV x3) [] true),(.ptr 0 2 0),(i6 0),(i6 v0.kind),(i6 v0.n),(.str v0.s),(zq aN v0.l),(zq aD v0.m)] []) fun y18 =>
 exIs y18.1 (some 0) (cnd (chkL cT y18.2.1) (cnd (chkU [] y18.2.2)
 (bnd (LP (uH O LP) [(zo y18.2.1 0),(.ptr 0 2 0),(i6 0),(zn y18.2.1 3),(zn y18.2.1 4),(zt y18.2.1 5),(zs y18.2.1 6),(zs y18.2.1 7)] []) fun y32 =>
 exIs y32.1 (some 2) (cnd (chkL cT y32.2.1) (cnd (chkU [] y32.2.2)
 (some ((zo y32.2.1 0),[])) none) none)
 (none)) none) none)
 (none)) none)
 (bnd (LP (uG O LP) [(zp PV.str out0),(.ptr 0 2 0),(i6 0),(i6 v0.kind),(i6 v0.n),(.str v0.s),(zq aN v0.l),(zq aD v0.m)] []) fun y46 =>
 exIs y46.1 (some 0) (cnd (chkL cT y46.2.1) (cnd (chkU [] y46.2.2)
 (bnd (LP (uH O LP) [(zo y46.2.1 0),(.ptr 0 2 0),(i6 0),(zn y46.2.1 3),(zn y46.2.1 4),(zt y46.2.1 5),(zs y46.2.1 6),(zs y46.2.1 7)] []) fun y60 =>
 exIs y60.1 (some 2) (cnd (chkL cT y60.2.1) (cnd (chkU [] y60.2.2)
 (some ((zo y60.2.1 0),[])) none) none)
 (none)) none) none)
 (none))) none)
 (bnd (LP (uG O LP) [(zp PV.str out0),(.ptr 0 2 0),(i6 0),(i6 v0.kind),(i6 v0.n),(.str v0.s),(zq aN v0.l),(zq aD v0.m)] []) fun y74 =>
 exIs y74.1 (some 0) (cnd (chkL cT y74.2.1) (cnd (chkU [] y74.2.2)
 (bnd (LP (uH O LP) [(zo y74.2.1 0),(.ptr 0 2 0),(i6 0),(zn y74.2.1 3),(zn y74.2.1 4),(zt y74.2.1 5),(zs y74.2.1 6),(zs y74.2.1 7)] []) fun y88 =>
 exIs y88.1 (some 2) (cnd (chkL cT y88.2.1) (cnd (chkU [] y88.2.2)
 (some ((zo y88.2.1 0),[])) none) none)
 (none)) none) none)
 (none))
noncomputable def cU (v0:GValue):((List Str)×Int)→Option (((List Str)×Int)⊕((List Str)))
 | (out_10,i_11) =>
 cnd (decide (i_11<(List.length v0.l:Int)))
  (cnd (v0.kind==6)
  (bnd (nthI v0.l i_11) fun y13 =>
  bnd (aKs y13 out_10) fun y15 =>
  some (.inl (y15,(IntKind.wrap .i64 (i_11+1)))))
  (some (.inr out_10)))
  (some (.inr out_10))
abbrev aHf (v0:GValue) (a0 a1:PV):List PV:=[a0,(.ptr 0 2 0),a1,(i6 v0.kind),(i6 v0.n),(.str v0.s),(zq aN v0.l),(zq aD v0.m)]
abbrev aPZ (v0:GValue) (st:(List Str)×Int) (l:List PV) (u:UP):Prop:=l=(aHf v0 (zp PV.str st.1) (i6 st.2))∧u=[]
abbrev aP0 (v0:GValue) (p:(List Str)) (r:EU):Prop:=∃ (i_17:Int),r=(Ex.brk 0,(aHf v0 (zp PV.str p) (i6 i_17)),[])
noncomputable def cW (v0:GValue):((List Str)×Int)→Option (((List Str)×Int)⊕((List Str)))
 | (out_24,i_25) =>
 cnd (decide (i_25<(List.length v0.m:Int)))
  (cnd (v0.kind==7)
  (bnd (nthI v0.m i_25) fun y27 =>
  bnd (aKs y27.v out_24) fun y29 =>
  some (.inl (y29,(IntKind.wrap .i64 (i_25+1)))))
  (some (.inr out_24)))
  (some (.inr out_24))
abbrev aHg (v0:GValue) (a0 a1:PV):List PV:=[a0,(.ptr 0 2 0),a1,(i6 v0.kind),(i6 v0.n),(.str v0.s),(zq aN v0.l),(zq aD v0.m)]
abbrev aP1 (v0:GValue) (st:(List Str)×Int) (l:List PV) (u:UP):Prop:=l=(aHg v0 (zp PV.str st.1) (i6 st.2))∧u=[]
abbrev aP2 (v0:GValue) (p:(List Str)) (r:EU):Prop:=∃ (i_31:Int),r=(Ex.brk 2,(aHg v0 (zp PV.str p) (i6 i_31)),[])
noncomputable def aDk (v0:GValue) (out0:List Str):Option (List Str) :=
 cnd (v0.kind==8)
 (bnd (aBj out0 v0.s) fun y2 =>
 cnd (!y2)
 (bnd (tapp out0 [v0.s]) fun y4 =>
 bnd (bJ (cU v0) (y4,0)) fun out_16 =>
 bnd (bJ (cW v0) (out_16,0)) fun out_30 =>
 some out_30)
 (bnd (bJ (cU v0) (out0,0)) fun out_44 =>
 bnd (bJ (cW v0) (out_44,0)) fun out_58 =>
 some out_58))
 (bnd (bJ (cU v0) (out0,0)) fun out_72 =>
 bnd (bJ (cW v0) (out_72,0)) fun out_86 =>
 some out_86)
def aTU:Decs:={decs:=[(14,.bool),(21,st'),(37,(.ref mL)),(40,st'),(56,(.ref dP)),(60,st')],loops:=[(4,[(2,5)],⟨cT,[],[(some 0,cT,[])]⟩),(8,[(2,5)],⟨cT,[],[(some 2,cT,[])]⟩)]}
theorem aTV (O:Orc) (LP:LBs) (v0:GValue) (out0:List Str):eW 236 aTU Tryz.f236 O LP [(eV v0),(zp PV.str out0)] []=aEp O LP v0 out0:=by kernel_rfl
theorem vO (v0:GValue):Lok (aPZ v0) (cU v0) (uG O aE) (aP0 v0):=by
 rintro ⟨out_10,i_11⟩ l u ⟨rfl,rfl⟩
 simp only [cU,uG,zd,zr]
 refine zG ?_
 try simp only [evs,tys]
 apply Imp.cnd
 ·apply Imp.cnd
  ·refine zX aN aAA fun y13 _ => ?_
   try simp only [evs,tys]
   refine zC rfl fun y15 _ => ?_
   try simp only [zes,evs,tys]
   exact zN
  ·exact zB ⟨i_11,zE⟩
 ·exact zB ⟨i_11,zE⟩
theorem vP (v0:GValue):Lok (aP1 v0) (cW v0) (uH O aE) (aP2 v0):=by
 rintro ⟨out_24,i_25⟩ l u ⟨rfl,rfl⟩
 simp only [cW,uH,zd,zr]
 refine zG ?_
 try simp only [evs,tys]
 apply Imp.cnd
 ·apply Imp.cnd
  ·refine zX aD fP fun y27 _ => ?_
   try simp only [evs,tys]
   refine zC rfl fun y29 _ => ?_
   try simp only [zes,evs,tys]
   exact zN
  ·exact zB ⟨i_25,zE⟩
 ·exact zB ⟨i_25,zE⟩
theorem aP3 (v0:GValue) (out0:List Str):Imp (aDk v0 out0) (aEp O aE v0 out0) (Ri iL):=by
 simp only [aDk,aEp,zd,zr]
 try simp only [evs,tys]
 apply Imp.cnd
 ·refine zC rfl fun y2 _ => ?_
  try simp only [zes,evs,tys]
  apply Imp.cnd
  ·refine Imp.op (f:=fun a => .slice (List.map PV.str a) [] true) (fun a h=>wK (enc:=PV.str) zI zI (fun a=>by first | rfl | simp only [evs,tys,evc]) h) (fun a=>rfl) fun y4 hy4 => ?_
   try simp only [evs,tys]
   refine zL (vO v0) ?_
   rintro out_16 _ ⟨i_17,rfl⟩
   refine zH ?_
   try simp only [evs,tys]
   refine zL (vP v0) ?_
   rintro out_30 _ ⟨i_31,rfl⟩
   refine zH ?_
   try simp only [evs,tys]
   exact zR
  ·refine zL (vO v0) ?_
   rintro out_44 _ ⟨i_45,rfl⟩
   refine zH ?_
   try simp only [evs,tys]
   refine zL (vP v0) ?_
   rintro out_58 _ ⟨i_59,rfl⟩
   refine zH ?_
   try simp only [evs,tys]
   exact zR
 ·refine zL (vO v0) ?_
  rintro out_72 _ ⟨i_73,rfl⟩
  refine zH ?_
  try simp only [evs,tys]
  refine zL (vP v0) ?_
  rintro out_86 _ ⟨i_87,rfl⟩
  refine zH ?_
  try simp only [evs,tys]
  exact zR
theorem aP4 {v0:GValue} {out0:List Str} {r:List Str} (h:aDk v0 out0=some r):aKs v0 out0=some r:=zV yL (aP3 v0 out0) Tryz.func236 (aTV _ _ v0 out0) h
def vQ (O:Orc) (LP:LBs) (s:Str):Option (PV×UP) :=
 jn (fun (i_4:Int) (t_5:Bool) (t_6:Bool) =>
 (aM O 250 [(.str s),(i6 i_4)] fun x7=>cnd (chk n6 x7)
 (cnd ((intV x7)==0)
 (some ((.tuple [(i6 0),(i6 0)]),[]))
 (jn (fun (n_13:Int) (t_14:Bool) =>
 (jn (fun (i_22:Int) (kind_23:Int) (t_24:Bool) (t_25:Bool) (t_26:Bool) (t_27:Bool) =>
 (cnd (decide (i_22<(List.length s:Int)))
 (bnd (sZ (.str s) (i6 i_22)) fun x28=>cnd (chk (.int .u8) x28)
 (cnd ((intV x28)==101)
 (jn (fun (k_35:Int) (t_36:Bool) (t_37:Bool) =>
 (aM O 250 [(.str s),(i6 k_35)] fun x38=>cnd (chk n6 x38)
 (cnd (decide ((intV x38)>0))
 (aM O 250 [(.str s),(i6 k_35)] fun x40=>cnd (chk n6 x40)
 (some ((.tuple [(i6 (w6 (k_35+(intV x40)))),(i6 4)]),[])) none)
 (some ((.tuple [(i6 i_22),(i6 kind_23)]),[]))) none)) fun k30 =>
 cnd (decide ((w6 (i_22+1))<(List.length s:Int)))
 (bnd (sZ (.str s) (i6 (w6 (i_22+1)))) fun x31=>cnd (chk (.int .u8) x31)
 (cnd ((intV x31)==43)
 (k30 (w6 ((w6 (i_22+1))+1)) true true)
 (bnd (sZ (.str s) (i6 (w6 (i_22+1)))) fun x33=>cnd (chk (.int .u8) x33)
 (cnd ((intV x33)==45)
 (k30 (w6 ((w6 (i_22+1))+1)) true true)
 (k30 (w6 (i_22+1)) true false)) none)) none)
 (k30 (w6 (i_22+1)) false false))
 (bnd (sZ (.str s) (i6 i_22)) fun x42=>cnd (chk (.int .u8) x42)
 (cnd ((intV x42)==69)
 (jn (fun (k_49:Int) (t_50:Bool) (t_51:Bool) =>
 (aM O 250 [(.str s),(i6 k_49)] fun x52=>cnd (chk n6 x52)
 (cnd (decide ((intV x52)>0))
 (aM O 250 [(.str s),(i6 k_49)] fun x54=>cnd (chk n6 x54)
 (some ((.tuple [(i6 (w6 (k_49+(intV x54)))),(i6 4)]),[])) none)
 (some ((.tuple [(i6 i_22),(i6 kind_23)]),[]))) none)) fun k44 =>
 cnd (decide ((w6 (i_22+1))<(List.length s:Int)))
 (bnd (sZ (.str s) (i6 (w6 (i_22+1)))) fun x45=>cnd (chk (.int .u8) x45)
 (cnd ((intV x45)==43)
 (k44 (w6 ((w6 (i_22+1))+1)) true true)
 (bnd (sZ (.str s) (i6 (w6 (i_22+1)))) fun x47=>cnd (chk (.int .u8) x47)
 (cnd ((intV x47)==45)
 (k44 (w6 ((w6 (i_22+1))+1)) true true)
 (k44 (w6 (i_22+1)) true false)) none)) none)
 (k44 (w6 (i_22+1)) false false))
 (some ((.tuple [(i6 i_22),(i6 kind_23)]),[]))) none)) none)
 (some ((.tuple [(i6 i_22),(i6 kind_23)]),[])))) fun k15 =>
 cnd (decide ((w6 (i_4+n_13))<(List.length s:Int)))
 (bnd (sZ (.str s) (i6 (w6 (i_4+n_13)))) fun x16=>cnd (chk (.int .u8) x16)
 (cnd ((intV x16)==46)
 (aM O 250 [(.str s),(i6 (w6 ((w6 (i_4+n_13))+1)))] fun x18=>cnd (chk n6 x18)
 (cnd (decide ((intV x18)>0))
 (aM O 250 [(.str s),(i6 (w6 ((w6 (i_4+n_13))+1)))] fun x20=>cnd (chk n6 x20)
 (k15 (w6 ((w6 ((w6 (i_4+n_13))+1))+(intV x20))) 4 true ((intV x16)==46) true true) none)
 (k15 (w6 (i_4+n_13)) 3 true ((intV x16)==46) true false)) none)
 (k15 (w6 (i_4+n_13)) 3 true ((intV x16)==46) false false)) none)
 (k15 (w6 (i_4+n_13)) 3 false false false false))) fun k10 =>
 bnd (sZ (.str s) (i6 i_4)) fun x11=>cnd (chk (.int .u8) x11)
 (cnd ((intV x11)==48)
 (k10 1 true)
 (k10 (intV x7) false)) none)) none)) fun k1 =>
 cnd (decide ((0:Int)<(List.length s:Int)))
 (bnd (sZ (.str s) (i6 0)) fun x2=>cnd (chk (.int .u8) x2)
 (cnd ((intV x2)==45)
 (k1 1 true true)
 (k1 0 true false)) none)
 (k1 0 false false)
noncomputable def oS (s:Str):Option (Int×Int) :=
 jn (fun (i_4:Int) (t_5:Bool) (t_6:Bool) =>
 (bnd (yR s i_4) fun y8 =>
 cnd (y8==0)
 (some (0,0))
 (jn (fun (n_13:Int) (t_14:Bool) =>
 (jn (fun (i_22:Int) (kind_23:Int) (t_24:Bool) (t_25:Bool) (t_26:Bool) (t_27:Bool) =>
 (cnd (decide (i_22<(List.length s:Int)))
 (bnd (nthI s i_22) fun y29 =>
 cnd ((y29.toNat:Int)==101)
 (jn (fun (k_35:Int) (t_36:Bool) (t_37:Bool) =>
 (bnd (yR s k_35) fun y39 =>
 cnd (decide (y39>0))
 (bnd (yR s k_35) fun y41 =>
 some ((IntKind.wrap .i64 (k_35+y41)),4))
 (some (i_22,kind_23)))) fun k30 =>
 cnd (decide ((IntKind.wrap .i64 (i_22+1))<(List.length s:Int)))
 (bnd (nthI s (IntKind.wrap .i64 (i_22+1))) fun y32 =>
 cnd ((y32.toNat:Int)==43)
 (k30 (IntKind.wrap .i64 ((IntKind.wrap .i64 (i_22+1))+1)) true true)
 (bnd (nthI s (IntKind.wrap .i64 (i_22+1))) fun y34 =>
 cnd ((y34.toNat:Int)==45)
 (k30 (IntKind.wrap .i64 ((IntKind.wrap .i64 (i_22+1))+1)) true true)
 (k30 (IntKind.wrap .i64 (i_22+1)) true false)))
 (k30 (IntKind.wrap .i64 (i_22+1)) false false))
 (bnd (nthI s i_22) fun y43 =>
 cnd ((y43.toNat:Int)==69)
 (jn (fun (k_49:Int) (t_50:Bool) (t_51:Bool) =>
 (bnd (yR s k_49) fun y53 =>
 cnd (decide (y53>0))
 (bnd (yR s k_49) fun y55 =>
 some ((IntKind.wrap .i64 (k_49+y55)),4))
 (some (i_22,kind_23)))) fun k44 =>
 cnd (decide ((IntKind.wrap .i64 (i_22+1))<(List.length s:Int)))
 (bnd (nthI s (IntKind.wrap .i64 (i_22+1))) fun y46 =>
 cnd ((y46.toNat:Int)==43)
 (k44 (IntKind.wrap .i64 ((IntKind.wrap .i64 (i_22+1))+1)) true true)
 (bnd (nthI s (IntKind.wrap .i64 (i_22+1))) fun y48 =>
 cnd ((y48.toNat:Int)==45)
 (k44 (IntKind.wrap .i64 ((IntKind.wrap .i64 (i_22+1))+1)) true true)
 (k44 (IntKind.wrap .i64 (i_22+1)) true false)))
 (k44 (IntKind.wrap .i64 (i_22+1)) false false))
 (some (i_22,kind_23))))
 (some (i_22,kind_23)))) fun k15 =>
 cnd (decide ((IntKind.wrap .i64 (i_4+n_13))<(List.length s:Int)))
 (bnd (nthI s (IntKind.wrap .i64 (i_4+n_13))) fun y17 =>
 cnd ((y17.toNat:Int)==46)
 (bnd (yR s (IntKind.wrap .i64 ((IntKind.wrap .i64 (i_4+n_13))+1))) fun y19 =>
 cnd (decide (y19>0))
 (bnd (yR s (IntKind.wrap .i64 ((IntKind.wrap .i64 (i_4+n_13))+1))) fun y21 =>
 k15 (IntKind.wrap .i64 ((IntKind.wrap .i64 ((IntKind.wrap .i64 (i_4+n_13))+1))+y21)) 4 true ((y17.toNat:Int)==46) true true)
 (k15 (IntKind.wrap .i64 (i_4+n_13)) 3 true ((y17.toNat:Int)==46) true false))
 (k15 (IntKind.wrap .i64 (i_4+n_13)) 3 true ((y17.toNat:Int)==46) false false))
 (k15 (IntKind.wrap .i64 (i_4+n_13)) 3 false false false false))) fun k10 =>
 bnd (nthI s i_4) fun y12 =>
 cnd ((y12.toNat:Int)==48)
 (k10 1 true)
 (k10 y8 false)))) fun k1 =>
 cnd (decide ((0:Int)<(List.length s:Int)))
 (bnd (nthI s 0) fun y3 =>
 cnd ((y3.toNat:Int)==45)
 (k1 1 true true)
 (k1 0 true false))
 (k1 0 false false)
def aKF:Decs:={decs:=[(15,(.int .u8)),(22,n6),(27,(.int .u8)),(39,(.int .u8)),(46,n6),(54,n6),(63,(.int .u8)),(68,(.int .u8)),(81,(.int .u8)),(86,(.int .u8)),(94,n6),(99,n6)]}
theorem aKG (O:Orc) (LP:LBs) (s:Str):eW 238 aKF Tryz.f238 O LP [(.str s)] []=vQ O LP s:=by kernel_rfl
theorem aIk (s:Str):Imp (oS s) (vQ O aE s) (Ri gW):=by
 simp only [oS,vQ,zd,zr]
 try simp only [evs,tys]
 refine Imp.jn (fun I k2 k1=>∀ (i_4:Int) (t_5:Bool) (t_6:Bool),I (k2 i_4 t_5 t_6) (k1 i_4 t_5 t_6)) (fun i_4 t_5 t_6 => ?_) fun k1 k1t hk1 => ?_
 ·dsimp only
  try simp only [evs,tys]
  refine zC rfl fun y8 _ => ?_
  try simp only [zes,evs,tys]
  apply Imp.cnd
  ·exact zR
  ·refine Imp.jn (fun I k2 k1=>∀ (n_13:Int) (t_14:Bool),I (k2 n_13 t_14) (k1 n_13 t_14)) (fun n_13 t_14 => ?_) fun k10 k10t hk10 => ?_
   ·dsimp only
    try simp only [evs,tys]
    refine Imp.jn (fun I k2 k1=>∀ (i_22:Int) (kind_23:Int) (t_24:Bool) (t_25:Bool) (t_26:Bool) (t_27:Bool),I (k2 i_22 kind_23 t_24 t_25 t_26 t_27) (k1 i_22 kind_23 t_24 t_25 t_26 t_27)) (fun i_22 kind_23 t_24 t_25 t_26 t_27 => ?_) fun k15 k15t hk15 => ?_
    ·dsimp only
     try simp only [evs,tys]
     apply Imp.cnd
     ·refine Imp.op (f:=fun a => .int .u8 (a.toNat:Int)) (fun a h=>gR h) (fun a=>rfl) fun y29 hy29 => ?_
      try simp only [evs,tys]
      apply Imp.cnd
      ·refine Imp.jn (fun I k2 k1=>∀ (k_35:Int) (t_36:Bool) (t_37:Bool),I (k2 k_35 t_36 t_37) (k1 k_35 t_36 t_37)) (fun k_35 t_36 t_37 => ?_) fun k30 k30t hk30 => ?_
       ·dsimp only
        try simp only [evs,tys]
        refine zC rfl fun y39 _ => ?_
        try simp only [zes,evs,tys]
        apply Imp.cnd
        ·refine zC rfl fun y41 _ => ?_
         try simp only [zes,evs,tys]
         exact zR
        ·exact zR
       apply Imp.cnd
       ·refine Imp.op (f:=fun a => .int .u8 (a.toNat:Int)) (fun a h=>gR h) (fun a=>rfl) fun y32 hy32 => ?_
        try simp only [evs,tys]
        apply Imp.cnd
        ·first | exact hk30 _ _ _ | simpa only [evs,tys,evl] using hk30 _ _ _
        ·refine Imp.op (f:=fun a => .int .u8 (a.toNat:Int)) (fun a h=>gR h) (fun a=>rfl) fun y34 hy34 => ?_
         try simp only [evs,tys]
         apply Imp.cnd
         ·first | exact hk30 _ _ _ | simpa only [evs,tys,evl] using hk30 _ _ _
         ·first | exact hk30 _ _ _ | simpa only [evs,tys,evl] using hk30 _ _ _
       ·first | exact hk30 _ _ _ | simpa only [evs,tys,evl] using hk30 _ _ _
      ·refine Imp.op (f:=fun a => .int .u8 (a.toNat:Int)) (fun a h=>gR h) (fun a=>rfl) fun y43 hy43 => ?_
       try simp only [evs,tys]
       apply Imp.cnd
       ·refine Imp.jn (fun I k2 k1=>∀ (k_49:Int) (t_50:Bool) (t_51:Bool),I (k2 k_49 t_50 t_51) (k1 k_49 t_50 t_51)) (fun k_49 t_50 t_51 => ?_) fun k44 k44t hk44 => ?_
        ·dsimp only
         try simp only [evs,tys]
         refine zC rfl fun y53 _ => ?_
         try simp only [zes,evs,tys]
         apply Imp.cnd
         ·refine zC rfl fun y55 _ => ?_
          try simp only [zes,evs,tys]
          exact zR
         ·exact zR
        apply Imp.cnd
        ·refine Imp.op (f:=fun a => .int .u8 (a.toNat:Int)) (fun a h=>gR h) (fun a=>rfl) fun y46 hy46 => ?_
         try simp only [evs,tys]
         apply Imp.cnd
         ·first | exact hk44 _ _ _ | simpa only [evs,tys,evl] using hk44 _ _ _
         ·refine Imp.op (f:=fun a => .int .u8 (a.toNat:Int)) (fun a h=>gR h) (fun a=>rfl) fun y48 hy48 => ?_
          try simp only [evs,tys]
          apply Imp.cnd
          ·first | exact hk44 _ _ _ | simpa only [evs,tys,evl] using hk44 _ _ _
          ·first | exact hk44 _ _ _ | simpa only [evs,tys,evl] using hk44 _ _ _
        ·first | exact hk44 _ _ _ | simpa only [evs,tys,evl] using hk44 _ _ _
       ·exact zR
     ·exact zR
    apply Imp.cnd
    ·refine Imp.op (f:=fun a => .int .u8 (a.toNat:Int)) (fun a h=>gR h) (fun a=>rfl) fun y17 hy17 => ?_
     try simp only [evs,tys]
     apply Imp.cnd
     ·refine zC rfl fun y19 _ => ?_
      try simp only [zes,evs,tys]
      apply Imp.cnd
      ·refine zC rfl fun y21 _ => ?_
       try simp only [zes,evs,tys]
       first | exact hk15 _ _ _ _ _ _ | simpa only [evs,tys,evl] using hk15 _ _ _ _ _ _
      ·first | exact hk15 _ _ _ _ _ _ | simpa only [evs,tys,evl] using hk15 _ _ _ _ _ _
     ·first | exact hk15 _ _ _ _ _ _ | simpa only [evs,tys,evl] using hk15 _ _ _ _ _ _
    ·first | exact hk15 _ _ _ _ _ _ | simpa only [evs,tys,evl] using hk15 _ _ _ _ _ _
   refine Imp.op (f:=fun a => .int .u8 (a.toNat:Int)) (fun a h=>gR h) (fun a=>rfl) fun y12 hy12 => ?_
   try simp only [evs,tys]
   apply Imp.cnd
   ·first | exact hk10 _ _ | simpa only [evs,tys,evl] using hk10 _ _
   ·first | exact hk10 _ _ | simpa only [evs,tys,evl] using hk10 _ _
 apply Imp.cnd
 ·refine Imp.op (f:=fun a => .int .u8 (a.toNat:Int)) (fun a h=>gR h) (fun a=>rfl) fun y3 hy3 => ?_
  try simp only [evs,tys]
  apply Imp.cnd
  ·first | exact hk1 _ _ _ | simpa only [evs,tys,evl] using hk1 _ _ _
  ·first | exact hk1 _ _ _ | simpa only [evs,tys,evl] using hk1 _ _ _
 ·first | exact hk1 _ _ _ | simpa only [evs,tys,evl] using hk1 _ _ _
theorem aIl {s:Str} {r:Int×Int} (h:oS s=some r):aJf s=some r:=zV aFa (aIk s) Tryz.func238 (aKG _ _ s) h
abbrev iY:List Sh:=[.str,st',.bool,st',n6]
def aB9 (O:Orc) (LP:LBs):cG:=fun s1 s1u=>cnd (chkL iY s1) (cnd (chkU [] s1u)
 (cnd (decide ((iv s1 4)<(List.length (sv s1 0):Int)))
 (aM O 251 [(zt s1 0),(zn s1 4)] fun x8=>cnd (chk (.tup [n6,n6]) x8)
 (cnd ((intV (tv x8 1))==0)
 (some (.ret,[(zt s1 0),(.slice [] [] true),(.bool false),(zo s1 3),(zn s1 4)],[]))
 (bnd (apd 1 (zo s1 3) (.slice [(i6 (intV (tv x8 0)))] [] true)) fun x10=>cnd (chk st' x10)
 (some (.nrm,[(zt s1 0),(zo s1 1),(zb s1 2),(.slice (esV x10) [] true),(i6 (w6 ((iv s1 4)+(intV (tv x8 1)))))],[])) none)) none)
 (some (.brk 0,(rb iY s1),[]))) none) none
def aCa (O:Orc) (LP:LBs) (s:Str):Option (PV×UP) :=
 bnd (LP (aB9 O LP) [(.str s),(.slice [] [] true),(.bool false),(.slice [] [] true),(i6 0)] []) fun y16 =>
 exIs y16.1 (some 0) (cnd (chkL iY y16.2.1) (cnd (chkU [] y16.2.2)
 (some ((.tuple [(zs y16.2.1 3),(.bool true)]),[])) none) none)
 (exIs y16.1 none (cnd (chkL iY y16.2.1) (cnd (chkU [] y16.2.2)
 (some ((.tuple [(zs y16.2.1 1),(zb y16.2.1 2)]),[])) none) none)
 (none))
noncomputable def sM (s:Str):((List Int)×Int)→Option (((List Int)×Int)⊕((List Int)⊕Unit))
 | (out_6,i_7) =>
 cnd (decide (i_7<(List.length s:Int)))
  (bnd (aPw s i_7) fun y9 =>
  cnd (y9.2==0)
  (some (.inr (.inr ())))
  (bnd (tapp out_6 [y9.1]) fun y11 =>
  some (.inl (y11,(IntKind.wrap .i64 (i_7+y9.2))))))
  (some (.inr (.inl out_6)))
abbrev aM7 (s:Str) (st:(List Int)×Int) (l:List PV) (u:UP):Prop:=l=[(.str s),(.slice [] [] true),(.bool false),(.slice (List.map (PV.int .i64) st.1) [] true),(i6 st.2)]∧u=[]
abbrev aM8 (s:Str) (p:(List Int)⊕Unit) (r:EU):Prop:=elim p (fun (p:(List Int))=>∃ (i_13:Int),r=(Ex.brk 0,[(.str s),(.slice [] [] true),(.bool false),(.slice (List.map (PV.int .i64) p) [] true),(i6 i_13)],[])) (fun q2=>(fun (p:Unit)=>∃ (out_14:List Int),∃ (i_15:Int),r=(Ex.ret,[(.str s),(.slice [] [] true),(.bool false),(.slice (List.map (PV.int .i64) out_14) [] true),(i6 i_15)],[])) q2)
noncomputable def uI (s:Str):Option ((List Int)×Bool) :=
 bnd (bJ (sM s) ([],0)) fun e16_2=>elim e16_2
 (fun out_12 =>
 some (out_12,true))
 (fun p16 =>
 some (([]:List Int),false))
def aP5:Decs:={decs:=[(15,(.tup [n6,n6])),(23,st')],loops:=[(3,[],⟨iY,[],[(some 0,iY,[]),(none,iY,[])]⟩)]}
theorem aP6 (O:Orc) (LP:LBs) (s:Str):eW 239 aP5 Tryz.f239 O LP [(.str s)] []=aCa O LP s:=by kernel_rfl
theorem aIm (s:Str):Lok (aM7 s) (sM s) (aB9 O aE) (aM8 s):=by
 rintro ⟨out_6,i_7⟩ l u ⟨rfl,rfl⟩
 simp only [sM,aB9,zd,zr]
 refine zG ?_
 try simp only [evs,tys]
 apply Imp.cnd
 ·refine zC rfl fun y9 _ => ?_
  try simp only [zes,evs,tys]
  apply Imp.cnd
  ·exact zT ⟨out_6,i_7,zE⟩
  ·refine Imp.op (f:=fun a => .slice (List.map (PV.int .i64) a) [] true) (fun a h=>wK (enc:=(PV.int .i64)) zI zI (fun a=>by first | rfl | simp only [evs,tys,evc]) h) (fun a=>rfl) fun y11 hy11 => ?_
   try simp only [evs,tys]
   exact zN
 ·exact zB ⟨i_7,zE⟩
theorem aM9 (s:Str):Imp (uI s) (aCa O aE s) (Ri rD):=by
 simp only [uI,aCa,zd,zr]
 try simp only [evs,tys]
 refine zL (aIm s) ?_
 rintro (out_12 | p) vy16 hy16
 ·try simp only [aO,aP]
  obtain ⟨i_13,rfl⟩:=hy16
  refine zH ?_
  try simp only [evs,tys]
  exact zR
 ·try simp only [aO,aP]
  obtain ⟨out_14,i_15,rfl⟩:=hy16
  refine Imp.exMiss rfl ?_
  refine zH ?_
  try simp only [evs,tys]
  exact zR
theorem aNa {s:Str} {r:(List Int)×Bool} (h:uI s=some r):aSf s=some r:=zV aTF (aM9 s) Tryz.func239 (aP6 _ _ s) h
def aEq (O:Orc) (LP:LBs) (s:GSchema) (n:Int):Option (PV×UP) :=
 cnd (n==1)
 (aM O 89 [(eS s)] fun x1=>cnd (chk .bool x1)
 (some ((.bool (aV x1)),[])) none)
 (cnd (n==2)
 (aM O 90 [(eS s),(.str s.query)] fun x3=>cnd (chk .bool x3)
 (cnd (aV x3)
 (cnd (s.mutation==([]:Str))
 (some ((.bool true),[]))
 (cnd (!(s.mutation==s.query))
 (aM O 90 [(eS s),(.str s.mutation)] fun x5=>cnd (chk .bool x5)
 (some ((.bool (aV x5)),[])) none)
 (some ((.bool false),[]))))
 (some ((.bool false),[]))) none)
 (cnd (n==3)
 (aM O 91 [(eS s)] fun x7=>cnd (chk .bool x7)
 (some ((.bool (aV x7)),[])) none)
 (cnd (n==4)
 (aM O 92 [(eS s)] fun x9=>cnd (chk .bool x9)
 (some ((.bool (aV x9)),[])) none)
 (cnd (n==5)
 (aM O 93 [(eS s)] fun x11=>cnd (chk .bool x11)
 (some ((.bool (aV x11)),[])) none)
 (cnd (n==6)
 (aM O 94 [(eS s)] fun x13=>cnd (chk .bool x13)
 (some ((.bool (aV x13)),[])) none)
 (cnd (n==7)
 (aM O 95 [(eS s)] fun x15=>cnd (chk .bool x15)
 (some ((.bool (aV x15)),[])) none)
 (cnd (n==8)
 (aM O 96 [(eS s)] fun x17=>cnd (chk .bool x17)
 (some ((.bool (aV x17)),[])) none)
 (cnd (n==9)
 (aM O 97 [(eS s)] fun x19=>cnd (chk .bool x19)
 (some ((.bool (aV x19)),[])) none)
 (some ((.bool false),[]))))))))))
noncomputable def aDl (s:GSchema) (n:Int):Option Bool :=
 cnd (n==1)
 (bnd (aYb s) fun y2 =>
 some y2)
 (cnd (n==2)
 (bnd (aMy s s.query) fun y4 =>
 cnd y4
 (cnd (s.mutation==([]:Str))
 (some true)
 (cnd (!(s.mutation==s.query))
 (bnd (aMy s s.mutation) fun y6 =>
 some y6)
 (some false)))
 (some false))
 (cnd (n==3)
 (bnd (aYc s) fun y8 =>
 some y8)
 (cnd (n==4)
 (bnd (aKq s) fun y10 =>
 some y10)
 (cnd (n==5)
 (bnd (aYd s) fun y12 =>
 some y12)
 (cnd (n==6)
 (bnd (aYe s) fun y14 =>
 some y14)
 (cnd (n==7)
 (bnd (aYf s) fun y16 =>
 some y16)
 (cnd (n==8)
 (bnd (aKr s) fun y18 =>
 some y18)
 (cnd (n==9)
 (bnd (aYg s) fun y20 =>
 some y20)
 (some false)))))))))
def aTW:Decs:={decs:=[(9,.bool),(15,.bool),(30,.bool),(37,.bool),(41,.bool),(45,.bool),(49,.bool),(53,.bool),(57,.bool),(61,.bool)]}
theorem aTX (O:Orc) (LP:LBs) (s:GSchema) (n:Int):eW 32 aTW Tryz.f32 O LP [(eS s),(i6 n)] []=aEq O LP s n:=by kernel_rfl
theorem aP7 (s:GSchema) (n:Int):Imp (aDl s n) (aEq O aE s n) (Ri aA):=by
 simp only [aDl,aEq,zd,zr]
 try simp only [evs,tys]
 apply Imp.cnd
 ·refine zC rfl fun y2 _ => ?_
  try simp only [zes,evs,tys]
  exact zR
 ·apply Imp.cnd
  ·refine zC rfl fun y4 _ => ?_
   try simp only [zes,evs,tys]
   apply Imp.cnd
   ·apply Imp.cnd
    ·exact zR
    ·apply Imp.cnd
     ·refine zC rfl fun y6 _ => ?_
      try simp only [zes,evs,tys]
      exact zR
     ·exact zR
   ·exact zR
  ·apply Imp.cnd
   ·refine zC rfl fun y8 _ => ?_
    try simp only [zes,evs,tys]
    exact zR
   ·apply Imp.cnd
    ·refine zC rfl fun y10 _ => ?_
     try simp only [zes,evs,tys]
     exact zR
    ·apply Imp.cnd
     ·refine zC rfl fun y12 _ => ?_
      try simp only [zes,evs,tys]
      exact zR
     ·apply Imp.cnd
      ·refine zC rfl fun y14 _ => ?_
       try simp only [zes,evs,tys]
       exact zR
      ·apply Imp.cnd
       ·refine zC rfl fun y16 _ => ?_
        try simp only [zes,evs,tys]
        exact zR
       ·apply Imp.cnd
        ·refine zC rfl fun y18 _ => ?_
         try simp only [zes,evs,tys]
         exact zR
        ·apply Imp.cnd
         ·refine zC rfl fun y20 _ => ?_
          try simp only [zes,evs,tys]
          exact zR
         ·exact zR
theorem aP8 {s:GSchema} {n:Int} {r:Bool} (h:aDl s n=some r):yM s n=some r:=zV aC (aP7 s n) Tryz.func32 (aTX _ _ s n) h
abbrev dG:List Sh:=[n6,(.ptr 0 3 0),(.ptr 0 4 0),.bool,sf,n6,sf,sf,sf,.str,.str]
def uJ (O:Orc) (LP:LBs):cG:=fun s23 s23u=>cnd (chkL dG s23) (cnd (chkU [] s23u)
 (cnd (decide ((iv s23 5)<(List.length (ev s23 4):Int)))
 (bnd (ix 8 (zs s23 4) (zn s23 5)) fun x29=>cnd (chk (.ref kH) x29)
 (aM O 59 [(.agg [(zs s23 8),(zt s23 9),(zt s23 10)]),(.agg [(zs s23 6),(zs s23 7)]),(.agg [(zt (rf x29) 0),(zn (rf x29) 1),(zt (rf x29) 2),(zt (rf x29) 3),(zs (rf x29) 4),(zs (rf x29) 5),(zt (rf x29) 6),(zs (rf x29) 7)]),(zn s23 0)] fun x31=>cnd (chk .bool x31)
 (cnd (!(aV x31))
 (some (.ret,(pu (rb dG s23) 3 (.bool false)),[]))
 (some (.nrm,(pu (rb dG s23) 5 (i6 (w6 ((iv s23 5)+1)))),[]))) none) none)
 (some (.brk 1,(rb dG s23),[]))) none) none
def aEr (O:Orc) (LP:LBs) (s:GSchema) (d:GDoc) (n:Int):Option (PV×UP) :=
 cnd (n==1)
 (aM O 51 [(eD d)] fun x1=>cnd (chk sf x1)
 (aM O 50 [(.slice (esV x1) [] false)] fun x3=>cnd (chk .bool x3)
 (some ((.bool (!(aV x3))),[])) none) none)
 (cnd (n==2)
 (cnd (decide ((List.length (List.map bL d.ops):Int)>0))
 (cnd ((List.length (List.map bL d.ops):Int)==1)
 (some ((.bool true),[]))
 (aM O 51 [(eD d)] fun x5=>cnd (chk sf x5)
 (some ((.bool ((List.length (esV x5):Int)==(List.length (List.map bL d.ops):Int))),[])) none))
 (some ((.bool false),[])))
 (cnd (n==3)
 (aM O 52 [(eS s),(eD d)] fun x7=>cnd (chk .bool x7)
 (some ((.bool (aV x7)),[])) none)
 (cnd (n==4)
 (aM O 53 [(eD d)] fun x9=>cnd (chk sf x9)
 (aM O 50 [(.slice (esV x9) [] false)] fun x11=>cnd (chk .bool x11)
 (some ((.bool (!(aV x11))),[])) none) none)
 (cnd (n==5)
 (aM O 54 [(eS s),(eD d)] fun x13=>cnd (chk .bool x13)
 (some ((.bool (aV x13)),[])) none)
 (cnd (n==6)
 (aM O 55 [(eS s),(eD d)] fun x15=>cnd (chk .bool x15)
 (some ((.bool (aV x15)),[])) none)
 (cnd (n==7)
 (aM O 56 [(eD d)] fun x17=>cnd (chk .bool x17)
 (some ((.bool (!(aV x17))),[])) none)
 (cnd (n==8)
 (aM O 57 [(eD d)] fun x19=>cnd (chk .bool x19)
 (some ((.bool (aV x19)),[])) none)
 (cnd (n==9)
 (aM O 58 [(eS s),(eD d)] fun x21=>cnd (chk sf x21)
 (bnd (LP (uJ O LP) [(i6 n),(.ptr 0 3 0),(.ptr 0 4 0),(.bool false),(.slice (esV x21) [] false),(i6 0),(zq bL d.ops),(zq aJ d.frags),(zq aK s.defs),(.str s.query),(.str s.mutation)] []) fun y35 =>
 exIs y35.1 (some 1) (cnd (chkL dG y35.2.1) (cnd (chkU [] y35.2.2)
 (some ((.bool true),[])) none) none)
 (exIs y35.1 none (cnd (chkL dG y35.2.1) (cnd (chkU [] y35.2.2)
 (some ((zb y35.2.1 3),[])) none) none)
 (none))) none)
 (cnd (n==10)
 (aM O 58 [(eS s),(eD d)] fun x36=>cnd (chk sf x36)
 (bnd (LP (uJ O LP) [(i6 n),(.ptr 0 3 0),(.ptr 0 4 0),(.bool false),(.slice (esV x36) [] false),(i6 0),(zq bL d.ops),(zq aJ d.frags),(zq aK s.defs),(.str s.query),(.str s.mutation)] []) fun y50 =>
 exIs y50.1 (some 1) (cnd (chkL dG y50.2.1) (cnd (chkU [] y50.2.2)
 (some ((.bool true),[])) none) none)
 (exIs y50.1 none (cnd (chkL dG y50.2.1) (cnd (chkU [] y50.2.2)
 (some ((zb y50.2.1 3),[])) none) none)
 (none))) none)
 (cnd (n==11)
 (aM O 58 [(eS s),(eD d)] fun x51=>cnd (chk sf x51)
 (bnd (LP (uJ O LP) [(i6 n),(.ptr 0 3 0),(.ptr 0 4 0),(.bool false),(.slice (esV x51) [] false),(i6 0),(zq bL d.ops),(zq aJ d.frags),(zq aK s.defs),(.str s.query),(.str s.mutation)] []) fun y65 =>
 exIs y65.1 (some 1) (cnd (chkL dG y65.2.1) (cnd (chkU [] y65.2.2)
 (some ((.bool true),[])) none) none)
 (exIs y65.1 none (cnd (chkL dG y65.2.1) (cnd (chkU [] y65.2.2)
 (some ((zb y65.2.1 3),[])) none) none)
 (none))) none)
 (cnd (n==12)
 (aM O 60 [(eS s),(eD d),(i6 n)] fun x66=>cnd (chk .bool x66)
 (some ((.bool (aV x66)),[])) none)
 (cnd (n==13)
 (aM O 60 [(eS s),(eD d),(i6 n)] fun x68=>cnd (chk .bool x68)
 (some ((.bool (aV x68)),[])) none)
 (cnd (n==14)
 (aM O 60 [(eS s),(eD d),(i6 n)] fun x70=>cnd (chk .bool x70)
 (some ((.bool (aV x70)),[])) none)
 (cnd (n==15)
 (aM O 61 [(eS s),(eD d),(i6 n)] fun x72=>cnd (chk .bool x72)
 (some ((.bool (aV x72)),[])) none)
 (cnd (n==16)
 (aM O 61 [(eS s),(eD d),(i6 n)] fun x74=>cnd (chk .bool x74)
 (some ((.bool (aV x74)),[])) none)
 (cnd (n==17)
 (aM O 61 [(eS s),(eD d),(i6 n)] fun x76=>cnd (chk .bool x76)
 (some ((.bool (aV x76)),[])) none)
 (cnd (n==18)
 (aM O 62 [(eS s),(eD d),(i6 n)] fun x78=>cnd (chk .bool x78)
 (some ((.bool (aV x78)),[])) none)
 (cnd (n==19)
 (aM O 62 [(eS s),(eD d),(i6 n)] fun x80=>cnd (chk .bool x80)
 (some ((.bool (aV x80)),[])) none)
 (cnd (n==20)
 (aM O 62 [(eS s),(eD d),(i6 n)] fun x82=>cnd (chk .bool x82)
 (some ((.bool (aV x82)),[])) none)
 (cnd (n==21)
 (aM O 62 [(eS s),(eD d),(i6 n)] fun x84=>cnd (chk .bool x84)
 (some ((.bool (aV x84)),[])) none)
 (cnd (n==22)
 (aM O 63 [(eS s),(eD d)] fun x86=>cnd (chk .bool x86)
 (some ((.bool (aV x86)),[])) none)
 (cnd (n==23)
 (aM O 64 [(eS s),(eD d)] fun x88=>cnd (chk .bool x88)
 (some ((.bool (aV x88)),[])) none)
 (cnd (n==24)
 (aM O 65 [(eS s),(eD d)] fun x90=>cnd (chk .bool x90)
 (some ((.bool (aV x90)),[])) none)
 (some ((.bool false),[])))))))))))))))))))))))))
noncomputable def eQ (s:GSchema) (d:GDoc) (n:Int) (y22:List GSeineref13Spot):Int→Option (Int⊕(Unit⊕Unit))
 | i_28 =>
 cnd (decide (i_28<(List.length y22:Int)))
  (bnd (nthI y22 i_28) fun y30 =>
  bnd (sH s d y30 n) fun y32 =>
  cnd (!y32)
  (some (.inr (.inr ())))
  (some (.inl (IntKind.wrap .i64 (i_28+1)))))
  (some (.inr (.inl ())))
abbrev aCb (s:GSchema) (d:GDoc) (n:Int) (y22:List GSeineref13Spot) (a0:PV):List PV:=[(i6 n),(.ptr 0 3 0),(.ptr 0 4 0),(.bool false),(zq aH y22),a0,(zq bL d.ops),(zq aJ d.frags),(zq aK s.defs),(.str s.query),(.str s.mutation)]
abbrev aP9 (s:GSchema) (d:GDoc) (n:Int) (y22:List GSeineref13Spot) (st:Int) (l:List PV) (u:UP):Prop:=l=(aCb s d n y22 (i6 st))∧u=[]
abbrev aQa (s:GSchema) (d:GDoc) (n:Int) (y22:List GSeineref13Spot) (p:Unit⊕Unit) (r:EU):Prop:=elim p (fun (p:Unit)=>∃ (i_33:Int),r=(Ex.brk 1,(aCb s d n y22 (i6 i_33)),[])) (fun (p:Unit)=>∃ (i_34:Int),r=(Ex.ret,(aCb s d n y22 (i6 i_34)),[]))
noncomputable def zJ (s:GSchema) (d:GDoc) (n:Int):Option Bool :=
 cnd (n==1)
 (bnd (aSi d) fun y2 =>
 bnd (aSj y2) fun y4 =>
 some (!y4))
 (cnd (n==2)
 (cnd (decide ((List.length d.ops:Int)>0))
 (cnd ((List.length d.ops:Int)==1)
 (some true)
 (bnd (aSi d) fun y6 =>
 some ((List.length y6:Int)==(List.length d.ops:Int))))
 (some false))
 (cnd (n==3)
 (bnd (aYh s d) fun y8 =>
 some y8)
 (cnd (n==4)
 (bnd (aMz d) fun y10 =>
 bnd (aSj y10) fun y12 =>
 some (!y12))
 (cnd (n==5)
 (bnd (aYi s d) fun y14 =>
 some y14)
 (cnd (n==6)
 (bnd (aYj s d) fun y16 =>
 some y16)
 (cnd (n==7)
 (bnd (aYk d) fun y18 =>
 some (!y18))
 (cnd (n==8)
 (bnd (aYl d) fun y20 =>
 some y20)
 (cnd (n==9)
 (bnd (aDd s d) fun y22 =>
 bnd (bJ (eQ s d n y22) 0) fun e35_2=>elim e35_2
 (fun p35 =>
 some true)
 (fun p35 =>
 some false))
 (cnd (n==10)
 (bnd (aDd s d) fun y37 =>
 bnd (bJ (eQ s d n y37) 0) fun e50_2=>elim e50_2
 (fun p50 =>
 some true)
 (fun p50 =>
 some false))
 (cnd (n==11)
 (bnd (aDd s d) fun y52 =>
 bnd (bJ (eQ s d n y52) 0) fun e65_2=>elim e65_2
 (fun p65 =>
 some true)
 (fun p65 =>
 some false))
 (cnd (n==12)
 (bnd (aEb s d n) fun y67 =>
 some y67)
 (cnd (n==13)
 (bnd (aEb s d n) fun y69 =>
 some y69)
 (cnd (n==14)
 (bnd (aEb s d n) fun y71 =>
 some y71)
 (cnd (n==15)
 (bnd (aEc s d n) fun y73 =>
 some y73)
 (cnd (n==16)
 (bnd (aEc s d n) fun y75 =>
 some y75)
 (cnd (n==17)
 (bnd (aEc s d n) fun y77 =>
 some y77)
 (cnd (n==18)
 (bnd (aAJ s d n) fun y79 =>
 some y79)
 (cnd (n==19)
 (bnd (aAJ s d n) fun y81 =>
 some y81)
 (cnd (n==20)
 (bnd (aAJ s d n) fun y83 =>
 some y83)
 (cnd (n==21)
 (bnd (aAJ s d n) fun y85 =>
 some y85)
 (cnd (n==22)
 (bnd (aWp s d) fun y87 =>
 some y87)
 (cnd (n==23)
 (bnd (aWq s d) fun y89 =>
 some y89)
 (cnd (n==24)
 (bnd (aWr s d) fun y91 =>
 some y91)
 (some false))))))))))))))))))))))))
def aTY:Decs:={decs:=[(13,sf),(14,.bool),(29,sf),(41,.bool),(45,sf),(46,.bool),(52,.bool),(57,.bool),(61,.bool),(66,.bool),(73,sf),(84,(.ref kH)),(87,.bool),(96,.bool),(104,.bool),(113,.bool),(118,.bool),(123,.bool),(128,.bool)],loops:=[(23,[(4,2),(3,3)],⟨dG,[],[(some 1,dG,[]),(none,dG,[])]⟩)]}
theorem aTZ (O:Orc) (LP:LBs) (s:GSchema) (d:GDoc) (n:Int):eW 20 aTY Tryz.f20 O LP [(eS s),(eD d),(i6 n)] []=aEr O LP s d n:=by kernel_rfl
theorem vR (s:GSchema) (d:GDoc) (n:Int) (y22:List GSeineref13Spot):Lok (aP9 s d n y22) (eQ s d n y22) (uJ O aE) (aQa s d n y22):=by
 rintro i_28 l u ⟨rfl,rfl⟩
 simp only [eQ,uJ,zd,zr]
 refine zG ?_
 try simp only [evs,tys]
 apply Imp.cnd
 ·refine zX aH qZ fun y30 _ => ?_
  try simp only [evs,tys]
  refine zC rfl fun y32 _ => ?_
  try simp only [zes,evs,tys]
  apply Imp.cnd
  ·exact zT ⟨i_28,zE⟩
  ·exact zN
 ·exact zB ⟨i_28,zE⟩
theorem aQb (s:GSchema) (d:GDoc) (n:Int):Imp (zJ s d n) (aEr O aE s d n) (Ri aA):=by
 simp only [zJ,aEr,zd,zr]
 try simp only [evs,tys]
 apply Imp.cnd
 ·refine zC rfl fun y2 _ => ?_
  try simp only [zes,evs,tys]
  refine zC rfl fun y4 _ => ?_
  try simp only [zes,evs,tys]
  exact zR
 ·apply Imp.cnd
  ·apply Imp.cnd
   ·apply Imp.cnd
    ·exact zR
    ·refine zC rfl fun y6 _ => ?_
     try simp only [zes,evs,tys]
     exact zR
   ·exact zR
  ·apply Imp.cnd
   ·refine zC rfl fun y8 _ => ?_
    try simp only [zes,evs,tys]
    exact zR
   ·apply Imp.cnd
    ·refine zC rfl fun y10 _ => ?_
     try simp only [zes,evs,tys]
     refine zC rfl fun y12 _ => ?_
     try simp only [zes,evs,tys]
     exact zR
    ·apply Imp.cnd
     ·refine zC rfl fun y14 _ => ?_
      try simp only [zes,evs,tys]
      exact zR
     ·apply Imp.cnd
      ·refine zC rfl fun y16 _ => ?_
       try simp only [zes,evs,tys]
       exact zR
      ·apply Imp.cnd
       ·refine zC rfl fun y18 _ => ?_
        try simp only [zes,evs,tys]
        exact zR
       ·apply Imp.cnd
        ·refine zC rfl fun y20 _ => ?_
         try simp only [zes,evs,tys]
         exact zR
        ·apply Imp.cnd
         ·refine zC rfl fun y22 _ => ?_
          try simp only [zes,evs,tys]
          refine zL (vR s d n y22) ?_
          rintro (p | p) vy35 hy35
          ·try simp only [aO,aP]
           obtain ⟨i_33,rfl⟩:=hy35
           refine zH ?_
           try simp only [evs,tys]
           exact zR
          ·try simp only [aO,aP]
           obtain ⟨i_34,rfl⟩:=hy35
           refine Imp.exMiss rfl ?_
           refine zH ?_
           try simp only [evs,tys]
           exact zR
         ·apply Imp.cnd
          ·refine zC rfl fun y37 _ => ?_
           try simp only [zes,evs,tys]
           refine zL (vR s d n y37) ?_
           rintro (p | p) vy50 hy50
           ·try simp only [aO,aP]
            obtain ⟨i_48,rfl⟩:=hy50
            refine zH ?_
            try simp only [evs,tys]
            exact zR
           ·try simp only [aO,aP]
            obtain ⟨i_49,rfl⟩:=hy50
            refine Imp.exMiss rfl ?_
            refine zH ?_
            try simp only [evs,tys]
            exact zR
          ·apply Imp.cnd
           ·refine zC rfl fun y52 _ => ?_
            try simp only [zes,evs,tys]
            refine zL (vR s d n y52) ?_
            rintro (p | p) vy65 hy65
            ·try simp only [aO,aP]
             obtain ⟨i_63,rfl⟩:=hy65
             refine zH ?_
             try simp only [evs,tys]
             exact zR
            ·try simp only [aO,aP]
             obtain ⟨i_64,rfl⟩:=hy65
             refine Imp.exMiss rfl ?_
             refine zH ?_
             try simp only [evs,tys]
             exact zR
           ·apply Imp.cnd
            ·refine zC rfl fun y67 _ => ?_
             try simp only [zes,evs,tys]
             exact zR
            ·apply Imp.cnd
             ·refine zC rfl fun y69 _ => ?_
              try simp only [zes,evs,tys]
              exact zR
             ·apply Imp.cnd
              ·refine zC rfl fun y71 _ => ?_
               try simp only [zes,evs,tys]
               exact zR
              ·apply Imp.cnd
               ·refine zC rfl fun y73 _ => ?_
                try simp only [zes,evs,tys]
                exact zR
               ·apply Imp.cnd
                ·refine zC rfl fun y75 _ => ?_
                 try simp only [zes,evs,tys]
                 exact zR
                ·apply Imp.cnd
                 ·refine zC rfl fun y77 _ => ?_
                  try simp only [zes,evs,tys]
                  exact zR
                 ·apply Imp.cnd
                  ·refine zC rfl fun y79 _ => ?_
                   try simp only [zes,evs,tys]
                   exact zR
                  ·apply Imp.cnd
                   ·refine zC rfl fun y81 _ => ?_
                    try simp only [zes,evs,tys]
                    exact zR
                   ·apply Imp.cnd
                    ·refine zC rfl fun y83 _ => ?_
                     try simp only [zes,evs,tys]
                     exact zR
                    ·apply Imp.cnd
                     ·refine zC rfl fun y85 _ => ?_
                      try simp only [zes,evs,tys]
                      exact zR
                     ·apply Imp.cnd
                      ·refine zC rfl fun y87 _ => ?_
                       try simp only [zes,evs,tys]
                       exact zR
                      ·apply Imp.cnd
                       ·refine zC rfl fun y89 _ => ?_
                        try simp only [zes,evs,tys]
                        exact zR
                       ·apply Imp.cnd
                        ·refine zC rfl fun y91 _ => ?_
                         try simp only [zes,evs,tys]
                         exact zR
                        ·exact zR
theorem aHh {s:GSchema} {d:GDoc} {n:Int} {r:Bool} (h:zJ s d n=some r):yN s d n=some r:=zV aC (aQb s d n) Tryz.func20 (aTZ _ _ s d n) h
def aEs (O:Orc) (LP:LBs) (s:GSchema) (o:GOp):Option (PV×UP) :=
 cnd (o.kind==1)
 (some ((.str s.mutation),[]))
 (some ((.str s.query),[]))
noncomputable def aDm (s:GSchema) (o:GOp):Option Str :=
 cnd (o.kind==1)
 (some s.mutation)
 (some s.query)
def aT0:Decs:={}
theorem aT1 (O:Orc) (LP:LBs) (s:GSchema) (o:GOp):eW 68 aT0 Tryz.f68 O LP [(eS s),(.agg [(i6 o.kind),(.str o.name),(zq aY o.vars),(zq aU o.dirs),(zq aF o.sels)])] []=aEs O LP s o:=by kernel_rfl
theorem aQc (s:GSchema) (o:GOp):Imp (aDm s o) (aEs O aE s o) (Ri mQ):=by
 simp only [aDm,aEs,zd,zr]
 try simp only [evs,tys]
 apply Imp.cnd
 ·exact zR
 ·exact zR
theorem aQd {s:GSchema} {o:GOp} {r:Str} (h:aDm s o=some r):aPs s o=some r:=zV aDe (aQc s o) Tryz.func68 (aT1 _ _ s o) h
abbrev gC:List Sh:=[st',sf,n6,n6]
def pI (O:Orc) (LP:LBs):cG:=fun s1 s1u=>cnd (chkL gC s1) (cnd (chkU [] s1u)
 (cnd (decide ((iv s1 3)<(iv s1 2)))
 (bnd (ix 7 (zs s1 1) (zn s1 3)) fun x16=>cnd (chk (.ref pW) x16)
 (cnd ((iv (rf x16) 0)==1)
 (aM O 136 [(zs s1 0),(zt (rf x16) 2)] fun x18=>cnd (chk .bool x18)
 (cnd (!(aV x18))
 (bnd (apd 1 (zo s1 0) (.slice [(zt (rf x16) 2)] [] true)) fun x20=>cnd (chk st' x20)
 (aM O 69 [(.slice (esV x20) [] true),(zs (rf x16) 6)] fun x22=>cnd (chk st' x22)
 (some (.nrm,[(.slice (esV x22) [] true),(zs s1 1),(zn s1 2),(i6 (w6 ((iv s1 3)+1)))],[])) none) none)
 (aM O 69 [(zo s1 0),(zs (rf x16) 6)] fun x24=>cnd (chk st' x24)
 (some (.nrm,[(.slice (esV x24) [] true),(zs s1 1),(zn s1 2),(i6 (w6 ((iv s1 3)+1)))],[])) none)) none)
 (aM O 69 [(zo s1 0),(zs (rf x16) 6)] fun x26=>cnd (chk st' x26)
 (some (.nrm,[(.slice (esV x26) [] true),(zs s1 1),(zn s1 2),(i6 (w6 ((iv s1 3)+1)))],[])) none)) none)
 (some (.brk 0,(rb gC s1),[]))) none) none
def pJ (O:Orc) (LP:LBs) (l0:List Str) (sels:List GSel):Option (PV×UP) :=
 bnd (LP (pI O LP) [(zp PV.str l0),(zq aF sels),(i6 (List.length (List.map aF sels):Int)),(i6 0)] []) fun y30 =>
 exIs y30.1 (some 0) (cnd (chkL gC y30.2.1) (cnd (chkU [] y30.2.2)
 (some ((zo y30.2.1 0),[])) none) none)
 (none)
noncomputable def dH (sels:List GSel):((List Str)×Int)→Option (((List Str)×Int)⊕((List Str)))
 | (l_14,t_15) =>
 cnd (decide (t_15<(List.length sels:Int)))
  (bnd (nthI sels t_15) fun y17 =>
  cnd (y17.kind==1)
  (bnd (dQ l_14 y17.name) fun y19 =>
  cnd (!y19)
   (bnd (tapp l_14 [y17.name]) fun y21 =>
   bnd (fH y21 y17.sels) fun y23 =>
   some (.inl (y23,(IntKind.wrap .i64 (t_15+1)))))
   (bnd (fH l_14 y17.sels) fun y25 =>
   some (.inl (y25,(IntKind.wrap .i64 (t_15+1))))))
  (bnd (fH l_14 y17.sels) fun y27 =>
  some (.inl (y27,(IntKind.wrap .i64 (t_15+1))))))
  (some (.inr l_14))
abbrev aEt (sels:List GSel) (st:(List Str)×Int) (l:List PV) (u:UP):Prop:=l=[(zp PV.str st.1),(zq aF sels),(i6 (List.length sels:Int)),(i6 st.2)]∧u=[]
abbrev aEu (sels:List GSel) (p:(List Str)) (r:EU):Prop:=(fun (p:(List Str))=>∃ (t_29:Int),r=(Ex.brk 0,[(zp PV.str p),(zq aF sels),(i6 (List.length sels:Int)),(i6 t_29)],[])) p
noncomputable def iZ (l0:List Str) (sels:List GSel):Option (List Str) :=
 bnd (bJ (dH sels) (l0,0)) fun l_28 =>
 some l_28
def aFF:Decs:={decs:=[(11,(.ref pW)),(20,.bool),(27,st'),(31,st')],loops:=[(2,[],⟨gC,[],[(some 0,gC,[])]⟩)]}
theorem aFG (O:Orc) (LP:LBs) (l0:List Str) (sels:List GSel):eW 69 aFF Tryz.f69 O LP [(zp PV.str l0),(zq aF sels)] []=pJ O LP l0 sels:=by kernel_rfl
theorem aCc (sels:List GSel):Lok (aEt sels) (dH sels) (pI O aE) (aEu sels):=by
 rintro ⟨l_14,t_15⟩ l u ⟨rfl,rfl⟩
 simp only [dH,pI,zd,zr]
 refine zG ?_
 try simp only [evs,tys]
 apply Imp.cnd
 ·refine zX aF jI fun y17 _ => ?_
  try simp only [evs,tys]
  apply Imp.cnd
  ·refine zC rfl fun y19 _ => ?_
   try simp only [zes,evs,tys]
   apply Imp.cnd
   ·refine Imp.op (f:=fun a => .slice (List.map PV.str a) [] true) (fun a h=>wK (enc:=PV.str) zI zI (fun a=>by first | rfl | simp only [evs,tys,evc]) h) (fun a=>rfl) fun y21 hy21 => ?_
    try simp only [evs,tys]
    refine zC rfl fun y23 _ => ?_
    try simp only [zes,evs,tys]
    exact zN
   ·refine zC rfl fun y25 _ => ?_
    try simp only [zes,evs,tys]
    exact zN
  ·refine zC rfl fun y27 _ => ?_
   try simp only [zes,evs,tys]
   exact zN
 ·exact zB ⟨t_15,zE⟩
theorem aEv (l0:List Str) (sels:List GSel):Imp (iZ l0 sels) (pJ O aE l0 sels) (Ri iL):=by
 simp only [iZ,pJ,zd,zr]
 try simp only [evs,tys]
 refine zL (aCc sels) ?_
 rintro l_28 _ ⟨t_29,rfl⟩
 refine zH ?_
 try simp only [evs,tys]
 exact zR
theorem uK {l0:List Str} {sels:List GSel} {r:List Str} (h:iZ l0 sels=some r):fH l0 sels=some r:=zV yL (aEv l0 sels) Tryz.func69 (aFG _ _ l0 sels) h
def aCd (O:Orc) (LP:LBs) (s:GSchema) (typ:Str) (x:GSel):Option (PV×UP) :=
 aM O 109 [(eS s),(.str typ),(.str x.name)] fun x1=>cnd (chk (.tup [bG,.bool]) x1)
 (cnd (x.kind != 0)
 (some ((.bool true),[]))
 (some ((.bool (aV (tv x1 1))),[]))) none
noncomputable def aAP (s:GSchema) (typ:Str) (x:GSel):Option Bool :=
 bnd (aF5 s typ x.name) fun y2 =>
 cnd (x.kind != 0)
 (some true)
 (some y2.2)
def aQe:Decs:={decs:=[(14,(.tup [bG,.bool]))]}
theorem aQf (O:Orc) (LP:LBs) (s:GSchema) (typ:Str) (x:GSel):eW 72 aQe Tryz.f72 O LP [(eS s),(.str typ),(eL x)] []=aCd O LP s typ x:=by kernel_rfl
theorem aNb (s:GSchema) (typ:Str) (x:GSel):Imp (aAP s typ x) (aCd O aE s typ x) (Ri aA):=by
 simp only [aAP,aCd,zd,zr]
 try simp only [evs,tys]
 refine zC rfl fun y2 _ => ?_
 try simp only [zes,evs,tys]
 apply Imp.cnd
 ·exact zR
 ·exact zR
theorem aNc {s:GSchema} {typ:Str} {x:GSel} {r:Bool} (h:aAP s typ x=some r):aKt s typ x=some r:=zV aC (aNb s typ x) Tryz.func72 (aQf _ _ s typ x) h
def aEw (O:Orc) (LP:LBs) (s:GSchema) (typ:Str) (x:GSel):Option (PV×UP) :=
 cnd (x.kind != 0)
 (some ((.bool true),[]))
 (aM O 138 [(eS s),(.str typ),(eL x)] fun x1=>cnd (chk .str x1)
 (aM O 139 [(eS s),(.str (strV x1))] fun x3=>cnd (chk .bool x3)
 (cnd (!(aV x3))
 (aM O 140 [(eS s),(.str (strV x1))] fun x5=>cnd (chk .bool x5)
 (cnd (!(aV x5))
 (some ((.bool true),[]))
 (aM O 140 [(eS s),(.str (strV x1))] fun x7=>cnd (chk .bool x7)
 (some ((.bool ((aV x7)==(decide ((List.length (List.map aF x.sels):Int)>0)))),[])) none)) none)
 (aM O 140 [(eS s),(.str (strV x1))] fun x9=>cnd (chk .bool x9)
 (some ((.bool ((aV x9)==(decide ((List.length (List.map aF x.sels):Int)>0)))),[])) none)) none) none)
noncomputable def aDn (s:GSchema) (typ:Str) (x:GSel):Option Bool :=
 cnd (x.kind != 0)
 (some true)
 (bnd (aDf s typ x) fun y2 =>
 bnd (aPy s y2) fun y4 =>
 cnd (!y4)
 (bnd (lL s y2) fun y6 =>
 cnd (!y6)
 (some true)
 (bnd (lL s y2) fun y8 =>
 some (y8==(decide ((List.length x.sels:Int)>0)))))
 (bnd (lL s y2) fun y10 =>
 some (y10==(decide ((List.length x.sels:Int)>0)))))
def aT2:Decs:={decs:=[(14,.str),(17,.bool),(22,.bool),(28,.bool)]}
theorem aT3 (O:Orc) (LP:LBs) (s:GSchema) (typ:Str) (x:GSel):eW 73 aT2 Tryz.f73 O LP [(eS s),(.str typ),(eL x)] []=aEw O LP s typ x:=by kernel_rfl
theorem aQg (s:GSchema) (typ:Str) (x:GSel):Imp (aDn s typ x) (aEw O aE s typ x) (Ri aA):=by
 simp only [aDn,aEw,zd,zr]
 try simp only [evs,tys]
 apply Imp.cnd
 ·exact zR
 ·refine zC rfl fun y2 _ => ?_
  try simp only [zes,evs,tys]
  refine zC rfl fun y4 _ => ?_
  try simp only [zes,evs,tys]
  apply Imp.cnd
  ·refine zC rfl fun y6 _ => ?_
   try simp only [zes,evs,tys]
   apply Imp.cnd
   ·exact zR
   ·refine zC rfl fun y8 _ => ?_
    try simp only [zes,evs,tys]
    exact zR
  ·refine zC rfl fun y10 _ => ?_
   try simp only [zes,evs,tys]
   exact zR
theorem aQh {s:GSchema} {typ:Str} {x:GSel} {r:Bool} (h:aDn s typ x=some r):aPt s typ x=some r:=zV aC (aQg s typ x) Tryz.func73 (aT3 _ _ s typ x) h
def zM (O:Orc) (LP:LBs) (s:GSchema) (typ:Str) (x:GSel):Option (PV×UP) :=
 cnd (x.kind==0)
 (aM O 109 [(eS s),(.str typ),(.str x.name)] fun x1=>cnd (chk (.tup [bG,.bool]) x1)
 (some ((zt (tg x1 0) 2),[])) none)
 (cnd (x.kind==2)
 (cnd (!(x.on_==([]:Str)))
 (some ((.str x.on_),[]))
 (cnd (x.kind==2)
 (some ((.str typ),[]))
 (some ((.str []),[]))))
 (cnd (x.kind==2)
 (some ((.str typ),[]))
 (some ((.str []),[]))))
noncomputable def vS (s:GSchema) (typ:Str) (x:GSel):Option Str :=
 cnd (x.kind==0)
 (bnd (aF5 s typ x.name) fun y2 =>
 some y2.1.t.name)
 (cnd (x.kind==2)
 (cnd (!(x.on_==([]:Str)))
 (some x.on_)
 (cnd (x.kind==2)
 (some typ)
 (some [])))
 (cnd (x.kind==2)
 (some typ)
 (some [])))
def aNd:Decs:={decs:=[(18,(.tup [bG,.bool]))]}
theorem aNe (O:Orc) (LP:LBs) (s:GSchema) (typ:Str) (x:GSel):eW 138 aNd Tryz.f138 O LP [(eS s),(.str typ),(eL x)] []=zM O LP s typ x:=by kernel_rfl
theorem aKH (s:GSchema) (typ:Str) (x:GSel):Imp (vS s typ x) (zM O aE s typ x) (Ri mQ):=by
 simp only [vS,zM,zd,zr]
 try simp only [evs,tys]
 apply Imp.cnd
 ·refine zC rfl fun y2 _ => ?_
  try simp only [zes,evs,tys]
  exact zR
 ·apply Imp.cnd
  ·apply Imp.cnd
   ·exact zR
   ·apply Imp.cnd
    ·exact zR
    ·exact zR
  ·apply Imp.cnd
   ·exact zR
   ·exact zR
theorem aKI {s:GSchema} {typ:Str} {x:GSel} {r:Str} (h:vS s typ x=some r):aDf s typ x=some r:=zV aDe (aKH s typ x) Tryz.func138 (aNe _ _ s typ x) h
def vT (O:Orc) (LP:LBs):cG:=fun s1 s1u=>cnd (chkL [sf,st',n6] s1) (cnd (chkU [] s1u)
 (cnd (decide ((iv s1 2)<(List.length (ev s1 0):Int)))
 (bnd (ix 6 (zs s1 0) (zn s1 2)) fun x12=>cnd (chk (.ref dP) x12)
 (bnd (ix 6 (zs s1 0) (zn s1 2)) fun x14=>cnd (chk (.ref dP) x14)
 (aM O 175 [(.agg [(zn (rf x14) 1),(zn (rf x14) 2),(zt (rf x14) 3),(zs (rf x14) 4),(zs (rf x14) 5)])] fun x16=>cnd (chk mL x16)
 (bnd (apd 6 (zo s1 1) (.slice [(.agg [(zt (rf x12) 0),(i6 (intV (gt (aggV x16) 0))),(i6 (intV (gt (aggV x16) 1))),(.str (strV (gt (aggV x16) 2))),(.slice (esV (gt (aggV x16) 3)) [] false),(.slice (esV (gt (aggV x16) 4)) [] false)])] [] true)) fun x18=>cnd (chk st' x18)
 (some (.nrm,[(zs s1 0),(.slice (esV x18) [] true),(i6 (w6 ((iv s1 2)+1)))],[])) none) none) none) none)
 (some (.brk 0,[(zs s1 0),(zo s1 1),(zn s1 2)],[]))) none) none
def vU (O:Orc) (LP:LBs) (l0:List GMember):Option (PV×UP) :=
 bnd (LP (vT O LP) [(zq aD l0),(.slice [] [] true),(i6 0)] []) fun y22 =>
 exIs y22.1 (some 0) (cnd (chkL [sf,st',n6] y22.2.1) (cnd (chkU [] y22.2.2)
 (some ((zs y22.2.1 1),[])) none) none)
 (none)
noncomputable def iK (l0:List GMember):((List GMember)×Int)→Option (((List GMember)×Int)⊕((List GMember)))
 | (out_10,i_11) =>
 cnd (decide (i_11<(List.length l0:Int)))
  (bnd (nthI l0 i_11) fun y13 =>
  bnd (nthI l0 i_11) fun y15 =>
  bnd (aAK y15.v) fun y17 =>
  bnd (tapp out_10 [(GMember.mk y13.name y17)]) fun y19 =>
  some (.inl (y19,(IntKind.wrap .i64 (i_11+1)))))
  (some (.inr out_10))
abbrev aIn (l0:List GMember) (st:(List GMember)×Int) (l:List PV) (u:UP):Prop:=l=[(zq aD l0),(zp aD st.1),(i6 st.2)]∧u=[]
abbrev aIo (l0:List GMember) (p:(List GMember)) (r:EU):Prop:=(fun (p:(List GMember))=>∃ (i_21:Int),r=(Ex.brk 0,[(zq aD l0),(zp aD p),(i6 i_21)],[])) p
noncomputable def sN (l0:List GMember):Option (List GMember) :=
 bnd (bJ (iK l0) ([],0)) fun out_20 =>
 some out_20
def aKJ:Decs:={decs:=[(14,(.ref dP)),(19,(.ref dP)),(22,mL),(25,st')],loops:=[(3,[],⟨[sf,st',n6],[],[(some 0,[sf,st',n6],[])]⟩)]}
theorem aKK (O:Orc) (LP:LBs) (l0:List GMember):eW 103 aKJ Tryz.f103 O LP [(zq aD l0)] []=vU O LP l0:=by kernel_rfl
theorem aFH (l0:List GMember):Lok (aIn l0) (iK l0) (vT O aE) (aIo l0):=by
 rintro ⟨out_10,i_11⟩ l u ⟨rfl,rfl⟩
 simp only [iK,vT,zd,zr]
 refine zG ?_
 try simp only [evs,tys]
 apply Imp.cnd
 ·refine zX aD fP fun y13 _ => ?_
  try simp only [evs,tys]
  refine zX aD fP fun y15 _ => ?_
  try simp only [evs,tys]
  refine zC rfl fun y17 _ => ?_
  try simp only [zes,evs,tys]
  refine Imp.op (f:=fun a => .slice (List.map aD a) [] true) (fun a h=>wK (enc:=aD) zI zI (fun a=>by first | rfl | simp only [evs,tys,evc]) h) (fun a=>rfl) fun y19 hy19 => ?_
  try simp only [evs,tys]
  exact zN
 ·exact zB ⟨i_11,zE⟩
theorem aIp (l0:List GMember):Imp (sN l0) (vU O aE l0) (Ri nM):=by
 simp only [sN,vU,zd,zr]
 try simp only [evs,tys]
 refine zL (aFH l0) ?_
 rintro out_20 _ ⟨i_21,rfl⟩
 refine zH ?_
 try simp only [evs,tys]
 exact zR
theorem aIq {l0:List GMember} {r:List GMember} (h:sN l0=some r):qJ l0=some r:=zV aMw (aIp l0) Tryz.func103 (aKK _ _ l0) h
def aEx (O:Orc) (LP:LBs):cG:=fun s1 s1u=>cnd (chkL [sf,st',n6] s1) (cnd (chkU [] s1u)
 (cnd (decide ((iv s1 2)<(List.length (ev s1 0):Int)))
 (bnd (ix 2 (zs s1 0) (zn s1 2)) fun x12=>cnd (chk (.ref aTA) x12)
 (bnd (ix 2 (zs s1 0) (zn s1 2)) fun x14=>cnd (chk (.ref aTA) x14)
 (aM O 103 [(zs (rf x14) 1)] fun x16=>cnd (chk sf x16)
 (bnd (apd 2 (zo s1 1) (.slice [(.agg [(zt (rf x12) 0),(.slice (esV x16) [] false)])] [] true)) fun x18=>cnd (chk st' x18)
 (some (.nrm,[(zs s1 0),(.slice (esV x18) [] true),(i6 (w6 ((iv s1 2)+1)))],[])) none) none) none) none)
 (some (.brk 0,[(zs s1 0),(zo s1 1),(zn s1 2)],[]))) none) none
def aEy (O:Orc) (LP:LBs) (l0:List GDir):Option (PV×UP) :=
 bnd (LP (aEx O LP) [(zq aU l0),(.slice [] [] true),(i6 0)] []) fun y22 =>
 exIs y22.1 (some 0) (cnd (chkL [sf,st',n6] y22.2.1) (cnd (chkU [] y22.2.2)
 (some ((zs y22.2.1 1),[])) none) none)
 (none)
noncomputable def nR (l0:List GDir):((List GDir)×Int)→Option (((List GDir)×Int)⊕((List GDir)))
 | (out_10,i_11) =>
 cnd (decide (i_11<(List.length l0:Int)))
  (bnd (nthI l0 i_11) fun y13 =>
  bnd (nthI l0 i_11) fun y15 =>
  bnd (qJ y15.args) fun y17 =>
  bnd (tapp out_10 [(GDir.mk y13.name y17)]) fun y19 =>
  some (.inl (y19,(IntKind.wrap .i64 (i_11+1)))))
  (some (.inr out_10))
abbrev aQi (l0:List GDir) (st:(List GDir)×Int) (l:List PV) (u:UP):Prop:=l=[(zq aU l0),(zp aU st.1),(i6 st.2)]∧u=[]
abbrev aQj (l0:List GDir) (p:(List GDir)) (r:EU):Prop:=(fun (p:(List GDir))=>∃ (i_21:Int),r=(Ex.brk 0,[(zq aU l0),(zp aU p),(i6 i_21)],[])) p
noncomputable def aDo (l0:List GDir):Option (List GDir) :=
 bnd (bJ (nR l0) ([],0)) fun out_20 =>
 some out_20
def aT4:Decs:={decs:=[(14,(.ref aTA)),(19,(.ref aTA)),(22,sf),(25,st')],loops:=[(3,[],⟨[sf,st',n6],[],[(some 0,[sf,st',n6],[])]⟩)]}
theorem aT5 (O:Orc) (LP:LBs) (l0:List GDir):eW 36 aT4 Tryz.f36 O LP [(zq aU l0)] []=aEy O LP l0:=by kernel_rfl
theorem aKL (l0:List GDir):Lok (aQi l0) (nR l0) (aEx O aE) (aQj l0):=by
 rintro ⟨out_10,i_11⟩ l u ⟨rfl,rfl⟩
 simp only [nR,aEx,zd,zr]
 refine zG ?_
 try simp only [evs,tys]
 apply Imp.cnd
 ·refine zX aU aKm fun y13 _ => ?_
  try simp only [evs,tys]
  refine zX aU aKm fun y15 _ => ?_
  try simp only [evs,tys]
  refine zC rfl fun y17 _ => ?_
  try simp only [zes,evs,tys]
  refine Imp.op (f:=fun a => .slice (List.map aU a) [] true) (fun a h=>wK (enc:=aU) zI zI (fun a=>by first | rfl | simp only [evs,tys,evc]) h) (fun a=>rfl) fun y19 hy19 => ?_
  try simp only [evs,tys]
  exact zN
 ·exact zB ⟨i_11,zE⟩
theorem aQk (l0:List GDir):Imp (aDo l0) (aEy O aE l0) (Ri aAF):=by
 simp only [aDo,aEy,zd,zr]
 try simp only [evs,tys]
 refine zL (aKL l0) ?_
 rintro out_20 _ ⟨i_21,rfl⟩
 refine zH ?_
 try simp only [evs,tys]
 exact zR
theorem aQl {l0:List GDir} {r:List GDir} (h:aDo l0=some r):aKu l0=some r:=zV aWm (aQk l0) Tryz.func36 (aT5 _ _ l0) h
def aEz (O:Orc) (LP:LBs) (s:GSchema) (o:GOp):Option (PV×UP) :=
 cnd (o.kind==1)
 (some ((.str s.mutation),[]))
 (some ((.str s.query),[]))
noncomputable def aDp (s:GSchema) (o:GOp):Option Str :=
 cnd (o.kind==1)
 (some s.mutation)
 (some s.query)
def aT6:Decs:={}
theorem aT7 (O:Orc) (LP:LBs) (s:GSchema) (o:GOp):eW 116 aT6 Tryz.f116 O LP [(eS s),(.agg [(i6 o.kind),(.str o.name),(zq aY o.vars),(zq aU o.dirs),(zq aF o.sels)])] []=aEz O LP s o:=by kernel_rfl
theorem aQm (s:GSchema) (o:GOp):Imp (aDp s o) (aEz O aE s o) (Ri mQ):=by
 simp only [aDp,aEz,zd,zr]
 try simp only [evs,tys]
 apply Imp.cnd
 ·exact zR
 ·exact zR
theorem aQn {s:GSchema} {o:GOp} {r:Str} (h:aDp s o=some r):aPu s o=some r:=zV aDe (aQm s o) Tryz.func116 (aT7 _ _ s o) h
abbrev lS:List Sh:=[.str,sf,st',(.ptr 0 4 0),n6,sf,.str,.str]
def aCe (O:Orc) (LP:LBs):cG:=fun s1 s1u=>cnd (chkL lS s1) (cnd (chkU [] s1u)
 (cnd (decide ((iv s1 4)<(List.length (ev s1 1):Int)))
 (bnd (ix 7 (zs s1 1) (zn s1 4)) fun x16=>cnd (chk (.ref pW) x16)
 (bnd (apd 8 (zo s1 2) (.slice [(.agg [(zt s1 0),(zn (rf x16) 0),(zt (rf x16) 1),(zt (rf x16) 2),(zs (rf x16) 3),(zs (rf x16) 4),(zt (rf x16) 5),(zs (rf x16) 6)])] [] true)) fun x18=>cnd (chk st' x18)
 (bnd (ix 7 (zs s1 1) (zn s1 4)) fun x20=>cnd (chk (.ref pW) x20)
 (aM O 184 [(.agg [(zs s1 5),(zt s1 6),(zt s1 7)]),(zt s1 0),(.agg [(zn (rf x20) 0),(zt (rf x20) 1),(zt (rf x20) 2),(zs (rf x20) 3),(zs (rf x20) 4),(zt (rf x20) 5),(zs (rf x20) 6)])] fun x22=>cnd (chk .str x22)
 (bnd (ix 7 (zs s1 1) (zn s1 4)) fun x24=>cnd (chk (.ref pW) x24)
 (aM O 115 [(.agg [(zs s1 5),(zt s1 6),(zt s1 7)]),(.str (strV x22)),(zs (rf x24) 6),(.slice (esV x18) [] true)] fun x26=>cnd (chk st' x26)
 (some (.nrm,(pu (pu (rb lS s1) 2 (.slice (esV x26) [] true)) 4 (i6 (w6 ((iv s1 4)+1)))),[])) none) none) none) none) none) none)
 (some (.brk 0,(rb lS s1),[]))) none) none
def aCf (O:Orc) (LP:LBs) (s:GSchema) (typ:Str) (l0:List GSel) (out0:List GSeineref13Spot):Option (PV×UP) :=
 bnd (LP (aCe O LP) [(.str typ),(zq aF l0),(zp aH out0),(.ptr 0 4 0),(i6 0),(zq aK s.defs),(.str s.query),(.str s.mutation)] []) fun y30 =>
 exIs y30.1 (some 0) (cnd (chkL lS y30.2.1) (cnd (chkU [] y30.2.2)
 (some ((zo y30.2.1 2),[])) none) none)
 (none)
noncomputable def jA (s:GSchema) (typ:Str) (l0:List GSel):((List GSeineref13Spot)×Int)→Option (((List GSeineref13Spot)×Int)⊕((List GSeineref13Spot)))
 | (out_14,i_15) =>
 cnd (decide (i_15<(List.length l0:Int)))
  (bnd (nthI l0 i_15) fun y17 =>
  bnd (tapp out_14 [(GSeineref13Spot.mk typ y17)]) fun y19 =>
  bnd (nthI l0 i_15) fun y21 =>
  bnd (aG6 s typ y21) fun y23 =>
  bnd (nthI l0 i_15) fun y25 =>
  bnd (aDg s y23 y25.sels y19) fun y27 =>
  some (.inl (y27,(IntKind.wrap .i64 (i_15+1)))))
  (some (.inr out_14))
abbrev aNf (s:GSchema) (typ:Str) (l0:List GSel) (st:(List GSeineref13Spot)×Int) (l:List PV) (u:UP):Prop:=l=[(.str typ),(zq aF l0),(zp aH st.1),(.ptr 0 4 0),(i6 st.2),(zq aK s.defs),(.str s.query),(.str s.mutation)]∧u=[]
abbrev aNg (s:GSchema) (typ:Str) (l0:List GSel) (p:(List GSeineref13Spot)) (r:EU):Prop:=(fun (p:(List GSeineref13Spot))=>∃ (i_29:Int),r=(Ex.brk 0,[(.str typ),(zq aF l0),(zp aH p),(.ptr 0 4 0),(i6 i_29),(zq aK s.defs),(.str s.query),(.str s.mutation)],[])) p
noncomputable def uL (s:GSchema) (typ:Str) (l0:List GSel) (out0:List GSeineref13Spot):Option (List GSeineref13Spot) :=
 bnd (bJ (jA s typ l0) (out0,0)) fun out_28 =>
 some out_28
def aQo:Decs:={decs:=[(20,(.ref pW)),(24,st'),(30,(.ref pW)),(32,.str),(35,(.ref pW)),(39,st')],loops:=[(2,[(4,3)],⟨lS,[],[(some 0,lS,[])]⟩)]}
theorem aQp (O:Orc) (LP:LBs) (s:GSchema) (typ:Str) (l0:List GSel) (out0:List GSeineref13Spot):eW 115 aQo Tryz.f115 O LP [(eS s),(.str typ),(zq aF l0),(zp aH out0)] []=aCf O LP s typ l0 out0:=by kernel_rfl
theorem aIr (s:GSchema) (typ:Str) (l0:List GSel):Lok (aNf s typ l0) (jA s typ l0) (aCe O aE) (aNg s typ l0):=by
 rintro ⟨out_14,i_15⟩ l u ⟨rfl,rfl⟩
 simp only [jA,aCe,zd,zr]
 refine zG ?_
 try simp only [evs,tys]
 apply Imp.cnd
 ·refine zX aF jI fun y17 _ => ?_
  try simp only [evs,tys]
  refine Imp.op (f:=fun a => .slice (List.map aH a) [] true) (fun a h=>wK (enc:=aH) zI zI (fun a=>by first | rfl | simp only [evs,tys,evc]) h) (fun a=>rfl) fun y19 hy19 => ?_
  try simp only [evs,tys]
  refine zX aF jI fun y21 _ => ?_
  try simp only [evs,tys]
  refine zC rfl fun y23 _ => ?_
  try simp only [zes,evs,tys]
  refine zX aF jI fun y25 _ => ?_
  try simp only [evs,tys]
  refine zC rfl fun y27 _ => ?_
  try simp only [zes,evs,tys]
  exact zN
 ·exact zB ⟨i_15,zE⟩
theorem aNh (s:GSchema) (typ:Str) (l0:List GSel) (out0:List GSeineref13Spot):Imp (uL s typ l0 out0) (aCf O aE s typ l0 out0) (Ri yQ):=by
 simp only [uL,aCf,zd,zr]
 try simp only [evs,tys]
 refine zL (aIr s typ l0) ?_
 rintro out_28 _ ⟨i_29,rfl⟩
 refine zH ?_
 try simp only [evs,tys]
 exact zR
theorem aFh {s:GSchema} {typ:Str} {l0:List GSel} {out0:List GSeineref13Spot} {r:List GSeineref13Spot} (h:uL s typ l0 out0=some r):aDg s typ l0 out0=some r:=zV aTG (aNh s typ l0 out0) Tryz.func115 (aQp _ _ s typ l0 out0) h
end Go.Proofs.YtphmfillajagdaaGreat

import Derived.Test.YtphmfillajagdaaGreatGa
set_option maxRecDepth 100000
set_option linter.unusedVariables false
set_option linter.unusedSimpArgs false
set_option linter.unusedSimpArgs false
open Go Go.Ev Go.Ev.PV
namespace Go.Proofs.YtphmfillajagdaaGreat
abbrev lU:List Sh:=[(.ptr 0 2 0),(.vec 1),sf,n6,n6,sf,sf]
def aCn (O:Orc) (LP:LBs):bM:=fun s5 s5u=>cnd (chkL lU s5) (cnd (chkU [] s5u)
 (cnd (decide ((iv s5 4)<(iv s5 3)))
 (bnd (ix 1 (zs s5 2) (zn s5 4)) fun x14=>cnd (chk (.ref .str) x14)
 (aQ O 82 [(.agg [(zs s5 5),(zs s5 6)]),(.str (strV (refV x14)))] fun x16=>cnd (chk (.tup [gH,.bool]) x16)
 (aQ O 80 [(.vec 1 (vecV (gt s5 1))),(zs (tg x16 0) 3)] fun x18=>cnd (chk (.vec 1) x18)
 (some (.nrm,(pu (pu (rb lU s5) 1 (.vec 1 (vecV x18))) 4 (i6 (w6 ((iv s5 4)+1)))),[])) none) none) none)
 (some (.brk 0,(pu (rb lU s5) 1 (.vec 1 (vecV (gt s5 1)))),[]))) none) none
def aCo (O:Orc) (LP:LBs) (d:GDoc) (l0:List GSel):Option (PV×UP) :=
 aQ O 80 [(.slice [] [] true),(zq aG l0)] fun x1=>cnd (chk (.vec 1) x1)
 (aQ O 81 [(eD d),(zq aG l0)] fun x3=>cnd (chk sf x3)
 (bnd (LP (aCn O LP) [(.ptr 0 2 0),(.vec 1 (vecV x1)),(.slice (esV x3) [] false),(i6 (List.length (esV x3):Int)),(i6 0),(zq aT d.ops),(zq aH d.frags)] []) fun y22 =>
 exIs y22.1 (some 0) (cnd (chkL lU y22.2.1) (cnd (chkU [] y22.2.2)
 (some ((.slice (vecV (gt y22.2.1 1)) [] false),[])) none) none)
 (none)) none) none
noncomputable def lV (d:GDoc) (y4:List Str):((List Str)×Int)→Option (((List Str)×Int)⊕((List Str)))
 | (out_12,t_13) =>
 cnd (decide (t_13<(List.length y4:Int)))
  (bnd (nthI y4 t_13) fun y15 =>
  bnd (aC9 d y15) fun y17 =>
  bnd (iO out_12 y17.1.sels) fun y19 =>
  some (.inl (y19,(IntKind.wrap .i64 (t_13+1)))))
  (some (.inr out_12))
abbrev aFU (d:GDoc) (y4:List Str) (a0 a1:PV):List PV:=[(.ptr 0 2 0),a0,(zq PV.str y4),(i6 (List.length y4:Int)),a1,(zq aT d.ops),(zq aH d.frags)]
abbrev aOD (d:GDoc) (y4:List Str) (st:(List Str)×Int) (l:List PV) (u:UP):Prop:=l=(aFU d y4 (.vec 1 (List.map PV.str st.1)) (i6 st.2))∧u=[]
abbrev aOE (d:GDoc) (y4:List Str) (p:(List Str)) (r:EU):Prop:=∃ (t_21:Int),r=(Ex.brk 0,(aFU d y4 (.vec 1 (List.map PV.str p)) (i6 t_21)),[])
noncomputable def aAN (d:GDoc) (l0:List GSel):Option (List Str) :=
 bnd (aB7 l0) fun y2 =>
 bnd (aAy d l0) fun y4 =>
 bnd (aY (lV d y4) (y2,0)) fun out_20 =>
 some out_20
def aRI:Decs:={decs:=[(11,(.vec 1)),(14,sf),(18,(.ref .str)),(23,(.tup [gH,.bool])),(29,(.vec 1))],loops:=[(3,[(2,2)],⟨lU,[],[(some 0,lU,[])]⟩)]}
theorem aRJ (O:Orc) (LP:LBs) (d:GDoc) (l0:List GSel):eW 28 aRI Tryz.f28 O LP [(eD d),(zq aG l0)] []=aCo O LP d l0:=by kernel_rfl
theorem aKs (d:GDoc) (y4:List Str):Lok (aOD d y4) (lV d y4) (aCn O aF) (aOE d y4):=by
 rintro ⟨out_12,t_13⟩ l u ⟨rfl,rfl⟩
 simp only [lV,aCn,zd,zr]
 refine zG ?_
 try simp only [evs,tys]
 apply Imp.cnd
 ·refine zX PV.str (fun _=>rfl) fun y15 _ => ?_
  try simp only [evs,tys]
  refine zC rfl fun y17 _ => ?_
  try simp only [zes,evs,tys]
  refine zC rfl fun y19 _ => ?_
  try simp only [zes,evs,tys]
  exact zN
 ·exact zB ⟨t_13,zE⟩
theorem aOF (d:GDoc) (l0:List GSel):Imp (aAN d l0) (aCo O aF d l0) (Ri cO):=by
 simp only [aAN,aCo,zd,zr]
 try simp only [evs,tys]
 refine zC rfl fun y2 _ => ?_
 try simp only [zes,evs,tys]
 refine zC rfl fun y4 _ => ?_
 try simp only [zes,evs,tys]
 refine zL (aKs d y4) ?_
 rintro out_20 _ ⟨t_21,rfl⟩
 refine zH ?_
 try simp only [evs,tys]
 exact zR
theorem aOG {d:GDoc} {l0:List GSel} {r:List Str} (h:aAN d l0=some r):yT d l0=some r:=zV lO (aOF d l0) Tryz.func28 (aRJ _ _ d l0) h
def xQ (O:Orc) (LP:LBs) (v0:GVarDef) (u0_6:GOp) (u0_5:GDoc) (u0_4:GSchema):Option (PV×UP) :=
 aQ O 146 [(eS u0_4),(.str v0.t.name)] fun x1=>cnd (chk .bool x1)
 (some ((.bool (!(bC x1))),[[(6,[(i6 u0_6.kind),(.str u0_6.name),(zq aC u0_6.vars),(zq aK u0_6.dirs),(zq aG u0_6.sels)]),(5,[(zq aT u0_5.ops),(zq aH u0_5.frags)]),(4,[(zq aM u0_4.defs),(.str u0_4.query),(.str u0_4.mutation)])]])) none
noncomputable def tI (v0:GVarDef) (u0_6:GOp) (u0_5:GDoc) (u0_4:GSchema):Option Bool :=
 bnd (aOg u0_4 v0.t.name) fun y2 =>
 some (!y2)
def aL7:Decs:={decs:=[(8,.bool)]}
theorem aL8 (O:Orc) (LP:LBs) (v0:GVarDef) (u0_6:GOp) (u0_5:GDoc) (u0_4:GSchema):eW 145 aL7 Tryz.f145 O LP [(.agg [(.str v0.name),(.str v0.t.name),(i6 v0.t.lists),(i6 v0.t.musts),(.bool v0.has),(i6 v0.default.kind),(i6 v0.default.n),(.str v0.default.s),(zq aI v0.default.l),(zq aE v0.default.m)]),(.ptr 1 4 0)] [[(6,[(i6 u0_6.kind),(.str u0_6.name),(zq aC u0_6.vars),(zq aK u0_6.dirs),(zq aG u0_6.sels)]),(5,[(zq aT u0_5.ops),(zq aH u0_5.frags)]),(4,[(zq aM u0_4.defs),(.str u0_4.query),(.str u0_4.mutation)])]]=xQ O LP v0 u0_6 u0_5 u0_4:=by kernel_rfl
theorem aKt (v0:GVarDef) (u0_6:GOp) (u0_5:GDoc) (u0_4:GSchema):Imp (tI v0 u0_6 u0_5 u0_4) (xQ O aF v0 u0_6 u0_5 u0_4) (fun r v=>v=(aA r,(kW v0 u0_6 u0_5 u0_4 r))):=by
 simp only [tI,xQ,zd,zr]
 try simp only [evs,tys]
 refine zC rfl fun y2 _ => ?_
 try simp only [zes,evs,tys]
 exact Imp.some (by first | rfl | simp only [zes,kW,evs,tys,evl])
theorem aKu {v0:GVarDef} {u0_6:GOp} {u0_5:GDoc} {u0_4:GSchema} {r:Bool} (h:tI v0 u0_6 u0_5 u0_4=some r):aEd v0 u0_6 u0_5 u0_4=some r:=zV aD (aKt v0 u0_6 u0_5 u0_4) Tryz.func145 (aL8 _ _ v0 u0_6 u0_5 u0_4) h
abbrev jQ:List Sh:=[sf,(.func 145 [] [(.ptr 1 4 0)]),n6,n6,n6]
def aCp (O:Orc) (LP:LBs):bM:=fun s1 s1u=>cnd (chkL jQ s1) (cnd (chkU [[(6,[n6,.str,sf,sf,sf]),(5,[sf,sf]),(4,[sf,.str,.str])]] s1u)
 (cnd (decide ((iv s1 4)<(iv s1 3)))
 (bnd (ix 10 (zs s1 0) (zn s1 4)) fun x7=>cnd (chk (.ref eY) x7)
 (bnd (O 145 [(.agg [(zt (rf x7) 0),(zt (rf x7) 1),(zn (rf x7) 2),(zn (rf x7) 3),(zb (rf x7) 4),(zn (rf x7) 5),(zn (rf x7) 6),(zt (rf x7) 7),(zs (rf x7) 8),(zs (rf x7) 9)]),(.ptr 2 4 0)] [[],[(6,[(zn (bx s1u 0 0) 0),(zt (bx s1u 0 0) 1),(zs (bx s1u 0 0) 2),(zs (bx s1u 0 0) 3),(zs (bx s1u 0 0) 4)]),(5,[(zs (bx s1u 0 1) 0),(zs (bx s1u 0 1) 1)]),(4,[(zs (bx s1u 0 2) 0),(zt (bx s1u 0 2) 1),(zt (bx s1u 0 2) 2)])]]) fun x9=>cnd (chkU [[],[(6,[n6,.str,sf,sf,sf]),(5,[sf,sf]),(4,[sf,.str,.str])]] x9.2) (cnd (chk .bool x9.1)
 (cnd (bC x9.1)
 (some (.ret,[(zs s1 0),(.func (.func 145) [] [(.ptr 1 4 0)]),(zn s1 4),(zn s1 3),(zn s1 4)],[[(6,[(zn (bx x9.2 1 0) 0),(zt (bx x9.2 1 0) 1),(zs (bx x9.2 1 0) 2),(zs (bx x9.2 1 0) 3),(zs (bx x9.2 1 0) 4)]),(5,[(zs (bx x9.2 1 1) 0),(zs (bx x9.2 1 1) 1)]),(4,[(zs (bx x9.2 1 2) 0),(zt (bx x9.2 1 2) 1),(zt (bx x9.2 1 2) 2)])]]))
 (some (.nrm,[(zs s1 0),(.func (.func 145) [] [(.ptr 1 4 0)]),(zn s1 2),(zn s1 3),(i6 (w6 ((iv s1 4)+1)))],[[(6,[(zn (bx x9.2 1 0) 0),(zt (bx x9.2 1 0) 1),(zs (bx x9.2 1 0) 2),(zs (bx x9.2 1 0) 3),(zs (bx x9.2 1 0) 4)]),(5,[(zs (bx x9.2 1 1) 0),(zs (bx x9.2 1 1) 1)]),(4,[(zs (bx x9.2 1 2) 0),(zt (bx x9.2 1 2) 1),(zt (bx x9.2 1 2) 2)])]]))) none) none) none)
 (some (.brk 0,(pu (rb jQ s1) 1 (.func (.func 145) [] [(.ptr 1 4 0)])),[[(6,[(zn (bx s1u 0 0) 0),(zt (bx s1u 0 0) 1),(zs (bx s1u 0 0) 2),(zs (bx s1u 0 0) 3),(zs (bx s1u 0 0) 4)]),(5,[(zs (bx s1u 0 1) 0),(zs (bx s1u 0 1) 1)]),(4,[(zs (bx s1u 0 2) 0),(zt (bx s1u 0 2) 1),(zt (bx s1u 0 2) 2)])]]))) none) none
def aCq (O:Orc) (LP:LBs) (s:List GVarDef) (u0_6:GOp) (u0_5:GDoc) (u0_4:GSchema):Option (PV×UP) :=
 bnd (LP (aCp O LP) [(zq aC s),(.func (.func 145) [] [(.ptr 1 4 0)]),(i6 0),(i6 (List.length (List.map aC s):Int)),(i6 0)] [[(6,[(i6 u0_6.kind),(.str u0_6.name),(zq aC u0_6.vars),(zq aK u0_6.dirs),(zq aG u0_6.sels)]),(5,[(zq aT u0_5.ops),(zq aH u0_5.frags)]),(4,[(zq aM u0_4.defs),(.str u0_4.query),(.str u0_4.mutation)])]]) fun y14 =>
 exIs y14.1 (some 0) (cnd (chkL jQ y14.2.1) (cnd (chkU [[(6,[n6,.str,sf,sf,sf]),(5,[sf,sf]),(4,[sf,.str,.str])]] y14.2.2)
 (some ((i6 (-1)),[[(6,[(zn (bx y14.2.2 0 0) 0),(zt (bx y14.2.2 0 0) 1),(zs (bx y14.2.2 0 0) 2),(zs (bx y14.2.2 0 0) 3),(zs (bx y14.2.2 0 0) 4)]),(5,[(zs (bx y14.2.2 0 1) 0),(zs (bx y14.2.2 0 1) 1)]),(4,[(zs (bx y14.2.2 0 2) 0),(zt (bx y14.2.2 0 2) 1),(zt (bx y14.2.2 0 2) 2)])]])) none) none)
 (exIs y14.1 none (cnd (chkL jQ y14.2.1) (cnd (chkU [[(6,[n6,.str,sf,sf,sf]),(5,[sf,sf]),(4,[sf,.str,.str])]] y14.2.2)
 (some ((zn y14.2.1 2),[[(6,[(zn (bx y14.2.2 0 0) 0),(zt (bx y14.2.2 0 0) 1),(zs (bx y14.2.2 0 0) 2),(zs (bx y14.2.2 0 0) 3),(zs (bx y14.2.2 0 0) 4)]),(5,[(zs (bx y14.2.2 0 1) 0),(zs (bx y14.2.2 0 1) 1)]),(4,[(zs (bx y14.2.2 0 2) 0),(zt (bx y14.2.2 0 2) 1),(zt (bx y14.2.2 0 2) 2)])]])) none) none)
 (none))
noncomputable def lW (s:List GVarDef) (u0_6:GOp) (u0_5:GDoc) (u0_4:GSchema):Int→Option (Int⊕(Unit⊕Int))
 | t_6 =>
 cnd (decide (t_6<(List.length s:Int)))
  (bnd (nthI s t_6) fun y8 =>
  bnd (aEd y8 u0_6 u0_5 u0_4) fun y10 =>
  cnd y10
  (some (.inr (.inr t_6)))
  (some (.inl (IntKind.wrap .i64 (t_6+1)))))
  (some (.inr (.inl ())))
abbrev aOH (s:List GVarDef) (u0_6:GOp) (u0_5:GDoc) (u0_4:GSchema) (st:Int) (l:List PV) (u:UP):Prop:=l=[(zq aC s),(.func (.func 145) [] [(.ptr 1 4 0)]),(i6 0),(i6 (List.length s:Int)),(i6 st)]∧u=[[(6,[(i6 u0_6.kind),(.str u0_6.name),(zq aC u0_6.vars),(zq aK u0_6.dirs),(zq aG u0_6.sels)]),(5,[(zq aT u0_5.ops),(zq aH u0_5.frags)]),(4,[(zq aM u0_4.defs),(.str u0_4.query),(.str u0_4.mutation)])]]
abbrev aOI (s:List GVarDef) (u0_6:GOp) (u0_5:GDoc) (u0_4:GSchema) (p:Unit⊕Int) (r:EU):Prop:=elim p (fun (p:Unit)=>∃ (t_11:Int),r=(Ex.brk 0,[(zq aC s),(.func (.func 145) [] [(.ptr 1 4 0)]),(i6 0),(i6 (List.length s:Int)),(i6 t_11)],[[(6,[(i6 u0_6.kind),(.str u0_6.name),(zq aC u0_6.vars),(zq aK u0_6.dirs),(zq aG u0_6.sels)]),(5,[(zq aT u0_5.ops),(zq aH u0_5.frags)]),(4,[(zq aM u0_4.defs),(.str u0_4.query),(.str u0_4.mutation)])]])) (fun q2=>(fun (p:Int)=>∃ (t_13:Int),r=(Ex.ret,[(zq aC s),(.func (.func 145) [] [(.ptr 1 4 0)]),(i6 p),(i6 (List.length s:Int)),(i6 t_13)],[[(6,[(i6 u0_6.kind),(.str u0_6.name),(zq aC u0_6.vars),(zq aK u0_6.dirs),(zq aG u0_6.sels)]),(5,[(zq aT u0_5.ops),(zq aH u0_5.frags)]),(4,[(zq aM u0_4.defs),(.str u0_4.query),(.str u0_4.mutation)])]])) q2)
noncomputable def aAO (s:List GVarDef) (u0_6:GOp) (u0_5:GDoc) (u0_4:GSchema):Option Int :=
 bnd (aY (lW s u0_6 u0_5 u0_4) 0) fun e14_2=>elim e14_2
 (fun p14 =>
 some (-1))
 (fun t_12 =>
 some t_12)
def aRK:Decs:={decs:=[(14,(.ref eY)),(16,.bool)],ups:=[(16,[[],[(6,[n6,.str,sf,sf,sf]),(5,[sf,sf]),(4,[sf,.str,.str])]])],loops:=[(2,[],⟨jQ,[[(6,[n6,.str,sf,sf,sf]),(5,[sf,sf]),(4,[sf,.str,.str])]],[(some 0,jQ,[[(6,[n6,.str,sf,sf,sf]),(5,[sf,sf]),(4,[sf,.str,.str])]]),(none,jQ,[[(6,[n6,.str,sf,sf,sf]),(5,[sf,sf]),(4,[sf,.str,.str])]])]⟩)]}
theorem aRL (O:Orc) (LP:LBs) (s:List GVarDef) (u0_6:GOp) (u0_5:GDoc) (u0_4:GSchema):eW 204 aRK Tryz.f204 O LP [(zq aC s),(.func (.func 145) [] [(.ptr 1 4 0)])] [[(6,[(i6 u0_6.kind),(.str u0_6.name),(zq aC u0_6.vars),(zq aK u0_6.dirs),(zq aG u0_6.sels)]),(5,[(zq aT u0_5.ops),(zq aH u0_5.frags)]),(4,[(zq aM u0_4.defs),(.str u0_4.query),(.str u0_4.mutation)])]]=aCq O LP s u0_6 u0_5 u0_4:=by kernel_rfl
theorem aKv (s:List GVarDef) (u0_6:GOp) (u0_5:GDoc) (u0_4:GSchema):Lok (aOH s u0_6 u0_5 u0_4) (lW s u0_6 u0_5 u0_4) (aCp O aF) (aOI s u0_6 u0_5 u0_4):=by
 rintro t_6 l u ⟨rfl,rfl⟩
 simp only [lW,aCp,zd,zr]
 refine zG ?_
 try simp only [evs,tys]
 apply Imp.cnd
 ·refine zX aC jL fun y8 _ => ?_
  try simp only [evs,tys]
  refine Imp.gcall (f:=aA) (fu:=fun a=>[]::kW y8 u0_6 u0_5 u0_4 a) (fun a h=>by first | exact fI rfl rfl (by first | rfl | (simp only [zes,tys];rfl)) (bN h) | (have h':=bN h;simp only [evs,tys,evl,kW] at h';exact fI rfl rfl (by first | rfl | (simp only [zes,tys];rfl)) h')) zK (fun a=>by first | rfl | (simp only [kW,evs,tys];first | rfl | (cases w<;>rfl))) fun y10 hy10 => ?_
  try simp only [aA,kW,evs,tys]
  apply Imp.cnd
  ·exact zT ⟨t_6,zE⟩
  ·exact zN
 ·exact zB ⟨t_6,zE⟩
theorem aOJ (s:List GVarDef) (u0_6:GOp) (u0_5:GDoc) (u0_4:GSchema):Imp (aAO s u0_6 u0_5 u0_4) (aCq O aF s u0_6 u0_5 u0_4) (fun r v=>v=(dP r,(nP s u0_6 u0_5 u0_4 r))):=by
 simp only [aAO,aCq,zd,zr]
 try simp only [evs,tys]
 refine zL (aKv s u0_6 u0_5 u0_4) ?_
 rintro (p | t_12) vy14 hy14
 ·try simp only [aN,aO]
  obtain ⟨t_11,rfl⟩:=hy14
  refine zH ?_
  try simp only [evs,tys]
  exact Imp.some (by first | rfl | simp only [zes,nP,evs,tys,evl])
 ·try simp only [aN,aO]
  obtain ⟨t_13,rfl⟩:=hy14
  refine Imp.exMiss rfl ?_
  refine zH ?_
  try simp only [evs,tys]
  exact Imp.some (by first | rfl | simp only [zes,nP,evs,tys,evl])
theorem aOK {s:List GVarDef} {u0_6:GOp} {u0_5:GDoc} {u0_4:GSchema} {r:Int} (h:aAO s u0_6 u0_5 u0_4=some r):aQQ s u0_6 u0_5 u0_4=some r:=zV uN (aOJ s u0_6 u0_5 u0_4) Tryz.func204 (aRL _ _ s u0_6 u0_5 u0_4) h
def fD (O:Orc) (LP:LBs) (s:List GVarDef) (u0_6:GOp) (u0_5:GDoc) (u0_4:GSchema):Option (PV×UP) :=
 bnd (O 204 [(zq aC s),(.func (.func 145) [] [(.ptr 2 4 0)])] [[],[(6,[(i6 u0_6.kind),(.str u0_6.name),(zq aC u0_6.vars),(zq aK u0_6.dirs),(zq aG u0_6.sels)]),(5,[(zq aT u0_5.ops),(zq aH u0_5.frags)]),(4,[(zq aM u0_4.defs),(.str u0_4.query),(.str u0_4.mutation)])]]) fun x1=>cnd (chkU [[],[(6,[n6,.str,sf,sf,sf]),(5,[sf,sf]),(4,[sf,.str,.str])]] x1.2) (cnd (chk n6 x1.1)
 (some ((.bool (decide ((intV x1.1)≥0))),[[(6,[(zn (bx x1.2 1 0) 0),(zt (bx x1.2 1 0) 1),(zs (bx x1.2 1 0) 2),(zs (bx x1.2 1 0) 3),(zs (bx x1.2 1 0) 4)]),(5,[(zs (bx x1.2 1 1) 0),(zs (bx x1.2 1 1) 1)]),(4,[(zs (bx x1.2 1 2) 0),(zt (bx x1.2 1 2) 1),(zt (bx x1.2 1 2) 2)])]])) none) none
noncomputable def dC (s:List GVarDef) (u0_6:GOp) (u0_5:GDoc) (u0_4:GSchema):Option Bool :=
 bnd (aQQ s u0_6 u0_5 u0_4) fun y2 =>
 some (decide (y2≥0))
def sL:Decs:={decs:=[(7,n6)],ups:=[(7,[[],[(6,[n6,.str,sf,sf,sf]),(5,[sf,sf]),(4,[sf,.str,.str])]])]}
theorem sM (O:Orc) (LP:LBs) (s:List GVarDef) (u0_6:GOp) (u0_5:GDoc) (u0_4:GSchema):eW 144 sL Tryz.f144 O LP [(zq aC s),(.func (.func 145) [] [(.ptr 1 4 0)])] [[(6,[(i6 u0_6.kind),(.str u0_6.name),(zq aC u0_6.vars),(zq aK u0_6.dirs),(zq aG u0_6.sels)]),(5,[(zq aT u0_5.ops),(zq aH u0_5.frags)]),(4,[(zq aM u0_4.defs),(.str u0_4.query),(.str u0_4.mutation)])]]=fD O LP s u0_6 u0_5 u0_4:=by kernel_rfl
theorem rV (s:List GVarDef) (u0_6:GOp) (u0_5:GDoc) (u0_4:GSchema):Imp (dC s u0_6 u0_5 u0_4) (fD O aF s u0_6 u0_5 u0_4) (fun r v=>v=(aA r,(bP s u0_6 u0_5 u0_4 r))):=by
 simp only [dC,fD,zd,zr]
 try simp only [evs,tys]
 refine Imp.gcall (f:=dP) (fu:=fun a=>[]::nP s u0_6 u0_5 u0_4 a) (fun a h=>by first | exact fI rfl rfl (by first | rfl | (simp only [zes,tys];rfl)) (bN h) | (have h':=bN h;simp only [evs,tys,evl,nP] at h';exact fI rfl rfl (by first | rfl | (simp only [zes,tys];rfl)) h')) zK (fun a=>by first | rfl | (simp only [nP,evs,tys];first | rfl | (cases w<;>rfl))) fun y2 hy2 => ?_
 try simp only [dP,nP,evs,tys]
 exact Imp.some (by first | rfl | simp only [zes,bP,evs,tys,evl])
theorem rW {s:List GVarDef} {u0_6:GOp} {u0_5:GDoc} {u0_4:GSchema} {r:Bool} (h:dC s u0_6 u0_5 u0_4=some r):gI s u0_6 u0_5 u0_4=some r:=zV aD (rV s u0_6 u0_5 u0_4) Tryz.func144 (sM _ _ s u0_6 u0_5 u0_4) h
def xR (O:Orc) (LP:LBs) (name:Str) (u0_6:GOp) (u0_5:GDoc) (u0_4:GSchema):Option (PV×UP) :=
 aQ O 149 [(.agg [(i6 u0_6.kind),(.str u0_6.name),(zq aC u0_6.vars),(zq aK u0_6.dirs),(zq aG u0_6.sels)]),(.str name)] fun x1=>cnd (chk (.tup [eY,.bool]) x1)
 (some ((.bool (!(bC (tv x1 1)))),[[(6,[(i6 u0_6.kind),(.str u0_6.name),(zq aC u0_6.vars),(zq aK u0_6.dirs),(zq aG u0_6.sels)]),(5,[(zq aT u0_5.ops),(zq aH u0_5.frags)]),(4,[(zq aM u0_4.defs),(.str u0_4.query),(.str u0_4.mutation)])]])) none
noncomputable def tJ (name:Str) (u0_6:GOp) (u0_5:GDoc) (u0_4:GSchema):Option Bool :=
 bnd (aOh u0_6 name) fun y2 =>
 some (!y2.2)
def aL9:Decs:={decs:=[(9,(.tup [eY,.bool]))]}
theorem aMa (O:Orc) (LP:LBs) (name:Str) (u0_6:GOp) (u0_5:GDoc) (u0_4:GSchema):eW 148 aL9 Tryz.f148 O LP [(.str name),(.ptr 1 6 0)] [[(6,[(i6 u0_6.kind),(.str u0_6.name),(zq aC u0_6.vars),(zq aK u0_6.dirs),(zq aG u0_6.sels)]),(5,[(zq aT u0_5.ops),(zq aH u0_5.frags)]),(4,[(zq aM u0_4.defs),(.str u0_4.query),(.str u0_4.mutation)])]]=xR O LP name u0_6 u0_5 u0_4:=by kernel_rfl
theorem aKw (name:Str) (u0_6:GOp) (u0_5:GDoc) (u0_4:GSchema):Imp (tJ name u0_6 u0_5 u0_4) (xR O aF name u0_6 u0_5 u0_4) (fun r v=>v=(aA r,(kX name u0_6 u0_5 u0_4 r))):=by
 simp only [tJ,xR,zd,zr]
 try simp only [evs,tys]
 refine zC rfl fun y2 _ => ?_
 try simp only [zes,evs,tys]
 exact Imp.some (by first | rfl | simp only [zes,kX,evs,tys,evl])
theorem aKx {name:Str} {u0_6:GOp} {u0_5:GDoc} {u0_4:GSchema} {r:Bool} (h:tJ name u0_6 u0_5 u0_4=some r):aEe name u0_6 u0_5 u0_4=some r:=zV aD (aKw name u0_6 u0_5 u0_4) Tryz.func148 (aMa _ _ name u0_6 u0_5 u0_4) h
def nC (O:Orc) (LP:LBs):bM:=fun s1 s1u=>cnd (chkL [sf,(.func 148 [] [(.ptr 1 6 0)]),n6,n6,n6] s1) (cnd (chkU [[(6,[n6,.str,sf,sf,sf]),(5,[sf,sf]),(4,[sf,.str,.str])]] s1u)
 (cnd (decide ((iv s1 4)<(iv s1 3)))
 (bnd (ix 1 (zs s1 0) (zn s1 4)) fun x7=>cnd (chk (.ref .str) x7)
 (bnd (O 148 [(.str (strV (refV x7))),(.ptr 2 6 0)] [[],[(6,[(zn (bx s1u 0 0) 0),(zt (bx s1u 0 0) 1),(zs (bx s1u 0 0) 2),(zs (bx s1u 0 0) 3),(zs (bx s1u 0 0) 4)]),(5,[(zs (bx s1u 0 1) 0),(zs (bx s1u 0 1) 1)]),(4,[(zs (bx s1u 0 2) 0),(zt (bx s1u 0 2) 1),(zt (bx s1u 0 2) 2)])]]) fun x9=>cnd (chkU [[],[(6,[n6,.str,sf,sf,sf]),(5,[sf,sf]),(4,[sf,.str,.str])]] x9.2) (cnd (chk .bool x9.1)
 (cnd (bC x9.1)
 (some (.ret,[(zs s1 0),(.func (.func 148) [] [(.ptr 1 6 0)]),(zn s1 4),(zn s1 3),(zn s1 4)],[[(6,[(zn (bx x9.2 1 0) 0),(zt (bx x9.2 1 0) 1),(zs (bx x9.2 1 0) 2),(zs (bx x9.2 1 0) 3),(zs (bx x9.2 1 0) 4)]),(5,[(zs (bx x9.2 1 1) 0),(zs (bx x9.2 1 1) 1)]),(4,[(zs (bx x9.2 1 2) 0),(zt (bx x9.2 1 2) 1),(zt (bx x9.2 1 2) 2)])]]))
 (some (.nrm,[(zs s1 0),(.func (.func 148) [] [(.ptr 1 6 0)]),(zn s1 2),(zn s1 3),(i6 (w6 ((iv s1 4)+1)))],[[(6,[(zn (bx x9.2 1 0) 0),(zt (bx x9.2 1 0) 1),(zs (bx x9.2 1 0) 2),(zs (bx x9.2 1 0) 3),(zs (bx x9.2 1 0) 4)]),(5,[(zs (bx x9.2 1 1) 0),(zs (bx x9.2 1 1) 1)]),(4,[(zs (bx x9.2 1 2) 0),(zt (bx x9.2 1 2) 1),(zt (bx x9.2 1 2) 2)])]]))) none) none) none)
 (some (.brk 0,[(zs s1 0),(.func (.func 148) [] [(.ptr 1 6 0)]),(zn s1 2),(zn s1 3),(zn s1 4)],[[(6,[(zn (bx s1u 0 0) 0),(zt (bx s1u 0 0) 1),(zs (bx s1u 0 0) 2),(zs (bx s1u 0 0) 3),(zs (bx s1u 0 0) 4)]),(5,[(zs (bx s1u 0 1) 0),(zs (bx s1u 0 1) 1)]),(4,[(zs (bx s1u 0 2) 0),(zt (bx s1u 0 2) 1),(zt (bx s1u 0 2) 2)])]]))) none) none
def nD (O:Orc) (LP:LBs) (s:List Str) (u0_6:GOp) (u0_5:GDoc) (u0_4:GSchema):Option (PV×UP) :=
 bnd (LP (nC O LP) [(zq PV.str s),(.func (.func 148) [] [(.ptr 1 6 0)]),(i6 0),(i6 (List.length (List.map PV.str s):Int)),(i6 0)] [[(6,[(i6 u0_6.kind),(.str u0_6.name),(zq aC u0_6.vars),(zq aK u0_6.dirs),(zq aG u0_6.sels)]),(5,[(zq aT u0_5.ops),(zq aH u0_5.frags)]),(4,[(zq aM u0_4.defs),(.str u0_4.query),(.str u0_4.mutation)])]]) fun y14 =>
 exIs y14.1 (some 0) (cnd (chkL [sf,(.func 148 [] [(.ptr 1 6 0)]),n6,n6,n6] y14.2.1) (cnd (chkU [[(6,[n6,.str,sf,sf,sf]),(5,[sf,sf]),(4,[sf,.str,.str])]] y14.2.2)
 (some ((i6 (-1)),[[(6,[(zn (bx y14.2.2 0 0) 0),(zt (bx y14.2.2 0 0) 1),(zs (bx y14.2.2 0 0) 2),(zs (bx y14.2.2 0 0) 3),(zs (bx y14.2.2 0 0) 4)]),(5,[(zs (bx y14.2.2 0 1) 0),(zs (bx y14.2.2 0 1) 1)]),(4,[(zs (bx y14.2.2 0 2) 0),(zt (bx y14.2.2 0 2) 1),(zt (bx y14.2.2 0 2) 2)])]])) none) none)
 (exIs y14.1 none (cnd (chkL [sf,(.func 148 [] [(.ptr 1 6 0)]),n6,n6,n6] y14.2.1) (cnd (chkU [[(6,[n6,.str,sf,sf,sf]),(5,[sf,sf]),(4,[sf,.str,.str])]] y14.2.2)
 (some ((zn y14.2.1 2),[[(6,[(zn (bx y14.2.2 0 0) 0),(zt (bx y14.2.2 0 0) 1),(zs (bx y14.2.2 0 0) 2),(zs (bx y14.2.2 0 0) 3),(zs (bx y14.2.2 0 0) 4)]),(5,[(zs (bx y14.2.2 0 1) 0),(zs (bx y14.2.2 0 1) 1)]),(4,[(zs (bx y14.2.2 0 2) 0),(zt (bx y14.2.2 0 2) 1),(zt (bx y14.2.2 0 2) 2)])]])) none) none)
 (none))
noncomputable def dN (s:List Str) (u0_6:GOp) (u0_5:GDoc) (u0_4:GSchema):Int→Option (Int⊕(Unit⊕Int))
 | t_6 =>
 cnd (decide (t_6<(List.length s:Int)))
  (bnd (nthI s t_6) fun y8 =>
  bnd (aEe y8 u0_6 u0_5 u0_4) fun y10 =>
  cnd y10
  (some (.inr (.inr t_6)))
  (some (.inl (IntKind.wrap .i64 (t_6+1)))))
  (some (.inr (.inl ())))
abbrev aDu (s:List Str) (u0_6:GOp) (u0_5:GDoc) (u0_4:GSchema) (st:Int) (l:List PV) (u:UP):Prop:=l=[(zq PV.str s),(.func (.func 148) [] [(.ptr 1 6 0)]),(i6 0),(i6 (List.length s:Int)),(i6 st)]∧u=[[(6,[(i6 u0_6.kind),(.str u0_6.name),(zq aC u0_6.vars),(zq aK u0_6.dirs),(zq aG u0_6.sels)]),(5,[(zq aT u0_5.ops),(zq aH u0_5.frags)]),(4,[(zq aM u0_4.defs),(.str u0_4.query),(.str u0_4.mutation)])]]
abbrev aDv (s:List Str) (u0_6:GOp) (u0_5:GDoc) (u0_4:GSchema) (p:Unit⊕Int) (r:EU):Prop:=elim p (fun (p:Unit)=>∃ (t_11:Int),r=(Ex.brk 0,[(zq PV.str s),(.func (.func 148) [] [(.ptr 1 6 0)]),(i6 0),(i6 (List.length s:Int)),(i6 t_11)],[[(6,[(i6 u0_6.kind),(.str u0_6.name),(zq aC u0_6.vars),(zq aK u0_6.dirs),(zq aG u0_6.sels)]),(5,[(zq aT u0_5.ops),(zq aH u0_5.frags)]),(4,[(zq aM u0_4.defs),(.str u0_4.query),(.str u0_4.mutation)])]])) (fun q2=>(fun (p:Int)=>∃ (t_13:Int),r=(Ex.ret,[(zq PV.str s),(.func (.func 148) [] [(.ptr 1 6 0)]),(i6 p),(i6 (List.length s:Int)),(i6 t_13)],[[(6,[(i6 u0_6.kind),(.str u0_6.name),(zq aC u0_6.vars),(zq aK u0_6.dirs),(zq aG u0_6.sels)]),(5,[(zq aT u0_5.ops),(zq aH u0_5.frags)]),(4,[(zq aM u0_4.defs),(.str u0_4.query),(.str u0_4.mutation)])]])) q2)
noncomputable def kJ (s:List Str) (u0_6:GOp) (u0_5:GDoc) (u0_4:GSchema):Option Int :=
 bnd (aY (dN s u0_6 u0_5 u0_4) 0) fun e14_2=>elim e14_2
 (fun p14 =>
 some (-1))
 (fun t_12 =>
 some t_12)
def aEP:Decs:={decs:=[(14,(.ref .str)),(16,.bool)],ups:=[(16,[[],[(6,[n6,.str,sf,sf,sf]),(5,[sf,sf]),(4,[sf,.str,.str])]])],loops:=[(2,[],⟨[sf,(.func 148 [] [(.ptr 1 6 0)]),n6,n6,n6],[[(6,[n6,.str,sf,sf,sf]),(5,[sf,sf]),(4,[sf,.str,.str])]],[(some 0,[sf,(.func 148 [] [(.ptr 1 6 0)]),n6,n6,n6],[[(6,[n6,.str,sf,sf,sf]),(5,[sf,sf]),(4,[sf,.str,.str])]]),(none,[sf,(.func 148 [] [(.ptr 1 6 0)]),n6,n6,n6],[[(6,[n6,.str,sf,sf,sf]),(5,[sf,sf]),(4,[sf,.str,.str])]])]⟩)]}
theorem aEQ (O:Orc) (LP:LBs) (s:List Str) (u0_6:GOp) (u0_5:GDoc) (u0_4:GSchema):eW 205 aEP Tryz.f205 O LP [(zq PV.str s),(.func (.func 148) [] [(.ptr 1 6 0)])] [[(6,[(i6 u0_6.kind),(.str u0_6.name),(zq aC u0_6.vars),(zq aK u0_6.dirs),(zq aG u0_6.sels)]),(5,[(zq aT u0_5.ops),(zq aH u0_5.frags)]),(4,[(zq aM u0_4.defs),(.str u0_4.query),(.str u0_4.mutation)])]]=nD O LP s u0_6 u0_5 u0_4:=by kernel_rfl
theorem aBt (s:List Str) (u0_6:GOp) (u0_5:GDoc) (u0_4:GSchema):Lok (aDu s u0_6 u0_5 u0_4) (dN s u0_6 u0_5 u0_4) (nC O aF) (aDv s u0_6 u0_5 u0_4):=by
 rintro t_6 l u ⟨rfl,rfl⟩
 simp only [dN,nC,zd,zr]
 refine zG ?_
 try simp only [evs,tys]
 apply Imp.cnd
 ·refine zX PV.str (fun _=>rfl) fun y8 _ => ?_
  try simp only [evs,tys]
  refine Imp.gcall (f:=aA) (fu:=fun a=>[]::kX y8 u0_6 u0_5 u0_4 a) (fun a h=>by first | exact fI rfl rfl (by first | rfl | (simp only [zes,tys];rfl)) (bN h) | (have h':=bN h;simp only [evs,tys,evl,kX] at h';exact fI rfl rfl (by first | rfl | (simp only [zes,tys];rfl)) h')) zK (fun a=>by first | rfl | (simp only [kX,evs,tys];first | rfl | (cases w<;>rfl))) fun y10 hy10 => ?_
  try simp only [aA,kX,evs,tys]
  apply Imp.cnd
  ·exact zT ⟨t_6,zE⟩
  ·exact zN
 ·exact zB ⟨t_6,zE⟩
theorem aDw (s:List Str) (u0_6:GOp) (u0_5:GDoc) (u0_4:GSchema):Imp (kJ s u0_6 u0_5 u0_4) (nD O aF s u0_6 u0_5 u0_4) (fun r v=>v=(dP r,(dB s u0_6 u0_5 u0_4 r))):=by
 simp only [kJ,nD,zd,zr]
 try simp only [evs,tys]
 refine zL (aBt s u0_6 u0_5 u0_4) ?_
 rintro (p | t_12) vy14 hy14
 ·try simp only [aN,aO]
  obtain ⟨t_11,rfl⟩:=hy14
  refine zH ?_
  try simp only [evs,tys]
  exact Imp.some (by first | rfl | simp only [zes,dB,evs,tys,evl])
 ·try simp only [aN,aO]
  obtain ⟨t_13,rfl⟩:=hy14
  refine Imp.exMiss rfl ?_
  refine zH ?_
  try simp only [evs,tys]
  exact Imp.some (by first | rfl | simp only [zes,dB,evs,tys,evl])
theorem aDx {s:List Str} {u0_6:GOp} {u0_5:GDoc} {u0_4:GSchema} {r:Int} (h:kJ s u0_6 u0_5 u0_4=some r):aBj s u0_6 u0_5 u0_4=some r:=zV uN (aDw s u0_6 u0_5 u0_4) Tryz.func205 (aEQ _ _ s u0_6 u0_5 u0_4) h
def cU (O:Orc) (LP:LBs) (s:List Str) (u0_6:GOp) (u0_5:GDoc) (u0_4:GSchema):Option (PV×UP) :=
 bnd (O 205 [(zq PV.str s),(.func (.func 148) [] [(.ptr 2 6 0)])] [[],[(6,[(i6 u0_6.kind),(.str u0_6.name),(zq aC u0_6.vars),(zq aK u0_6.dirs),(zq aG u0_6.sels)]),(5,[(zq aT u0_5.ops),(zq aH u0_5.frags)]),(4,[(zq aM u0_4.defs),(.str u0_4.query),(.str u0_4.mutation)])]]) fun x1=>cnd (chkU [[],[(6,[n6,.str,sf,sf,sf]),(5,[sf,sf]),(4,[sf,.str,.str])]] x1.2) (cnd (chk n6 x1.1)
 (some ((.bool (decide ((intV x1.1)≥0))),[[(6,[(zn (bx x1.2 1 0) 0),(zt (bx x1.2 1 0) 1),(zs (bx x1.2 1 0) 2),(zs (bx x1.2 1 0) 3),(zs (bx x1.2 1 0) 4)]),(5,[(zs (bx x1.2 1 1) 0),(zs (bx x1.2 1 1) 1)]),(4,[(zs (bx x1.2 1 2) 0),(zt (bx x1.2 1 2) 1),(zt (bx x1.2 1 2) 2)])]])) none) none
noncomputable def bZ (s:List Str) (u0_6:GOp) (u0_5:GDoc) (u0_4:GSchema):Option Bool :=
 bnd (aBj s u0_6 u0_5 u0_4) fun y2 =>
 some (decide (y2≥0))
def mM:Decs:={decs:=[(7,n6)],ups:=[(7,[[],[(6,[n6,.str,sf,sf,sf]),(5,[sf,sf]),(4,[sf,.str,.str])]])]}
theorem mN (O:Orc) (LP:LBs) (s:List Str) (u0_6:GOp) (u0_5:GDoc) (u0_4:GSchema):eW 147 mM Tryz.f147 O LP [(zq PV.str s),(.func (.func 148) [] [(.ptr 1 6 0)])] [[(6,[(i6 u0_6.kind),(.str u0_6.name),(zq aC u0_6.vars),(zq aK u0_6.dirs),(zq aG u0_6.sels)]),(5,[(zq aT u0_5.ops),(zq aH u0_5.frags)]),(4,[(zq aM u0_4.defs),(.str u0_4.query),(.str u0_4.mutation)])]]=cU O LP s u0_6 u0_5 u0_4:=by kernel_rfl
theorem mB (s:List Str) (u0_6:GOp) (u0_5:GDoc) (u0_4:GSchema):Imp (bZ s u0_6 u0_5 u0_4) (cU O aF s u0_6 u0_5 u0_4) (fun r v=>v=(aA r,(aU s u0_6 u0_5 u0_4 r))):=by
 simp only [bZ,cU,zd,zr]
 try simp only [evs,tys]
 refine Imp.gcall (f:=dP) (fu:=fun a=>[]::dB s u0_6 u0_5 u0_4 a) (fun a h=>by first | exact fI rfl rfl (by first | rfl | (simp only [zes,tys];rfl)) (bN h) | (have h':=bN h;simp only [evs,tys,evl,dB] at h';exact fI rfl rfl (by first | rfl | (simp only [zes,tys];rfl)) h')) zK (fun a=>by first | rfl | (simp only [dB,evs,tys];first | rfl | (cases w<;>rfl))) fun y2 hy2 => ?_
 try simp only [dP,dB,evs,tys]
 exact Imp.some (by first | rfl | simp only [zes,aU,evs,tys,evl])
theorem mC {s:List Str} {u0_6:GOp} {u0_5:GDoc} {u0_4:GSchema} {r:Bool} (h:bZ s u0_6 u0_5 u0_4=some r):dG s u0_6 u0_5 u0_4=some r:=zV aD (mB s u0_6 u0_5 u0_4) Tryz.func147 (mN _ _ s u0_6 u0_5 u0_4) h
def xS (O:Orc) (LP:LBs) (v0:GVarDef) (u0_9:List Str) (u0_6:GOp) (u0_5:GDoc) (u0_4:GSchema):Option (PV×UP) :=
 aQ O 136 [(zq PV.str u0_9),(.str v0.name)] fun x1=>cnd (chk .bool x1)
 (some ((.bool (!(bC x1))),[[(9,[(zq PV.str u0_9)]),(6,[(i6 u0_6.kind),(.str u0_6.name),(zq aC u0_6.vars),(zq aK u0_6.dirs),(zq aG u0_6.sels)]),(5,[(zq aT u0_5.ops),(zq aH u0_5.frags)]),(4,[(zq aM u0_4.defs),(.str u0_4.query),(.str u0_4.mutation)])]])) none
noncomputable def tK (v0:GVarDef) (u0_9:List Str) (u0_6:GOp) (u0_5:GDoc) (u0_4:GSchema):Option Bool :=
 bnd (bL u0_9 v0.name) fun y2 =>
 some (!y2)
def aMb:Decs:={decs:=[(7,.bool)]}
theorem aMc (O:Orc) (LP:LBs) (v0:GVarDef) (u0_9:List Str) (u0_6:GOp) (u0_5:GDoc) (u0_4:GSchema):eW 150 aMb Tryz.f150 O LP [(.agg [(.str v0.name),(.str v0.t.name),(i6 v0.t.lists),(i6 v0.t.musts),(.bool v0.has),(i6 v0.default.kind),(i6 v0.default.n),(.str v0.default.s),(zq aI v0.default.l),(zq aE v0.default.m)]),(.ptr 1 9 0)] [[(9,[(zq PV.str u0_9)]),(6,[(i6 u0_6.kind),(.str u0_6.name),(zq aC u0_6.vars),(zq aK u0_6.dirs),(zq aG u0_6.sels)]),(5,[(zq aT u0_5.ops),(zq aH u0_5.frags)]),(4,[(zq aM u0_4.defs),(.str u0_4.query),(.str u0_4.mutation)])]]=xS O LP v0 u0_9 u0_6 u0_5 u0_4:=by kernel_rfl
theorem aKy (v0:GVarDef) (u0_9:List Str) (u0_6:GOp) (u0_5:GDoc) (u0_4:GSchema):Imp (tK v0 u0_9 u0_6 u0_5 u0_4) (xS O aF v0 u0_9 u0_6 u0_5 u0_4) (fun r v=>v=(aA r,(kY v0 u0_9 u0_6 u0_5 u0_4 r))):=by
 simp only [tK,xS,zd,zr]
 try simp only [evs,tys]
 refine zC rfl fun y2 _ => ?_
 try simp only [zes,evs,tys]
 exact Imp.some (by first | rfl | simp only [zes,kY,evs,tys,evl])
theorem aKz {v0:GVarDef} {u0_9:List Str} {u0_6:GOp} {u0_5:GDoc} {u0_4:GSchema} {r:Bool} (h:tK v0 u0_9 u0_6 u0_5 u0_4=some r):aEf v0 u0_9 u0_6 u0_5 u0_4=some r:=zV aD (aKy v0 u0_9 u0_6 u0_5 u0_4) Tryz.func150 (aMc _ _ v0 u0_9 u0_6 u0_5 u0_4) h
open Go Go.Ev Go.Ev.PV
def uU (O:Orc) (LP:LBs):bM:=fun s1 s1u=>cnd (chkL [sf,(.func 150 [] [(.ptr 1 9 0)]),n6,n6,n6] s1) (cnd (chkU [[(9,[sf]),(6,[n6,.str,sf,sf,sf]),(5,[sf,sf]),(4,[sf,.str,.str])]] s1u)
 (cnd (decide ((iv s1 4)<(iv s1 3)))
 (bnd (ix 10 (zs s1 0) (zn s1 4)) fun x7=>cnd (chk (.ref eY) x7)
 (bnd (O 150 [(.agg [(zt (rf x7) 0),(zt (rf x7) 1),(zn (rf x7) 2),(zn (rf x7) 3),(zb (rf x7) 4),(zn (rf x7) 5),(zn (rf x7) 6),(zt (rf x7) 7),(zs (rf x7) 8),(zs (rf x7) 9)]),(.ptr 2 9 0)] [[],[(9,[(zs (bx s1u 0 0) 0)]),(6,[(zn (bx s1u 0 1) 0),(zt (bx s1u 0 1) 1),(zs (bx s1u 0 1) 2),(zs (bx s1u 0 1) 3),(zs (bx s1u 0 1) 4)]),(5,[(zs (bx s1u 0 2) 0),(zs (bx s1u 0 2) 1)]),(4,[(zs (bx s1u 0 3) 0),(zt (bx s1u 0 3) 1),(zt (bx s1u 0 3) 2)])]]) fun x9=>cnd (chkU [[],[(9,[sf]),(6,[n6,.str,sf,sf,sf]),(5,[sf,sf]),(4,[sf,.str,.str])]] x9.2) (cnd (chk .bool x9.1)
 (cnd (bC x9.1)
 (some (.ret,[(zs s1 0),(.func (.func 150) [] [(.ptr 1 9 0)]),(zn s1 4),(zn s1 3),(zn s1 4)],[[(9,[(zs (bx x9.2 1 0) 0)]),(6,[(zn (bx x9.2 1 1) 0),(zt (bx x9.2 1 1) 1),(zs (bx x9.2 1 1) 2),(zs (bx x9.2 1 1) 3),(zs (bx x9.2 1 1) 4)]),(5,[(zs (bx x9.2 1 2) 0),(zs (bx x9.2 1 2) 1)]),(4,[(zs (bx x9.2 1 3) 0),(zt (bx x9.2 1 3) 1),(zt (bx x9.2 1 3) 2)])]]))
 (some (.nrm,[(zs s1 0),(.func (.func 150) [] [(.ptr 1 9 0)]),(zn s1 2),(zn s1 3),(i6 (w6 ((iv s1 4)+1)))],[[(9,[(zs (bx x9.2 1 0) 0)]),(6,[(zn (bx x9.2 1 1) 0),(zt (bx x9.2 1 1) 1),(zs (bx x9.2 1 1) 2),(zs (bx x9.2 1 1) 3),(zs (bx x9.2 1 1) 4)]),(5,[(zs (bx x9.2 1 2) 0),(zs (bx x9.2 1 2) 1)]),(4,[(zs (bx x9.2 1 3) 0),(zt (bx x9.2 1 3) 1),(zt (bx x9.2 1 3) 2)])]]))) none) none) none)
 (some (.brk 0,[(zs s1 0),(.func (.func 150) [] [(.ptr 1 9 0)]),(zn s1 2),(zn s1 3),(zn s1 4)],[[(9,[(zs (bx s1u 0 0) 0)]),(6,[(zn (bx s1u 0 1) 0),(zt (bx s1u 0 1) 1),(zs (bx s1u 0 1) 2),(zs (bx s1u 0 1) 3),(zs (bx s1u 0 1) 4)]),(5,[(zs (bx s1u 0 2) 0),(zs (bx s1u 0 2) 1)]),(4,[(zs (bx s1u 0 3) 0),(zt (bx s1u 0 3) 1),(zt (bx s1u 0 3) 2)])]]))) none) none
def uV (O:Orc) (LP:LBs) (s:List GVarDef) (u0_9:List Str) (u0_6:GOp) (u0_5:GDoc) (u0_4:GSchema):Option (PV×UP) :=
 bnd (LP (uU O LP) [(zq aC s),(.func (.func 150) [] [(.ptr 1 9 0)]),(i6 0),(i6 (List.length (List.map aC s):Int)),(i6 0)] [[(9,[(zq PV.str u0_9)]),(6,[(i6 u0_6.kind),(.str u0_6.name),(zq aC u0_6.vars),(zq aK u0_6.dirs),(zq aG u0_6.sels)]),(5,[(zq aT u0_5.ops),(zq aH u0_5.frags)]),(4,[(zq aM u0_4.defs),(.str u0_4.query),(.str u0_4.mutation)])]]) fun y14 =>
 exIs y14.1 (some 0) (cnd (chkL [sf,(.func 150 [] [(.ptr 1 9 0)]),n6,n6,n6] y14.2.1) (cnd (chkU [[(9,[sf]),(6,[n6,.str,sf,sf,sf]),(5,[sf,sf]),(4,[sf,.str,.str])]] y14.2.2)
 (some ((i6 (-1)),[[(9,[(zs (bx y14.2.2 0 0) 0)]),(6,[(zn (bx y14.2.2 0 1) 0),(zt (bx y14.2.2 0 1) 1),(zs (bx y14.2.2 0 1) 2),(zs (bx y14.2.2 0 1) 3),(zs (bx y14.2.2 0 1) 4)]),(5,[(zs (bx y14.2.2 0 2) 0),(zs (bx y14.2.2 0 2) 1)]),(4,[(zs (bx y14.2.2 0 3) 0),(zt (bx y14.2.2 0 3) 1),(zt (bx y14.2.2 0 3) 2)])]])) none) none)
 (exIs y14.1 none (cnd (chkL [sf,(.func 150 [] [(.ptr 1 9 0)]),n6,n6,n6] y14.2.1) (cnd (chkU [[(9,[sf]),(6,[n6,.str,sf,sf,sf]),(5,[sf,sf]),(4,[sf,.str,.str])]] y14.2.2)
 (some ((zn y14.2.1 2),[[(9,[(zs (bx y14.2.2 0 0) 0)]),(6,[(zn (bx y14.2.2 0 1) 0),(zt (bx y14.2.2 0 1) 1),(zs (bx y14.2.2 0 1) 2),(zs (bx y14.2.2 0 1) 3),(zs (bx y14.2.2 0 1) 4)]),(5,[(zs (bx y14.2.2 0 2) 0),(zs (bx y14.2.2 0 2) 1)]),(4,[(zs (bx y14.2.2 0 3) 0),(zt (bx y14.2.2 0 3) 1),(zt (bx y14.2.2 0 3) 2)])]])) none) none)
 (none))
noncomputable def gN (s:List GVarDef) (u0_9:List Str) (u0_6:GOp) (u0_5:GDoc) (u0_4:GSchema):Int→Option (Int⊕(Unit⊕Int))
 | t_6 =>
 cnd (decide (t_6<(List.length s:Int)))
  (bnd (nthI s t_6) fun y8 =>
  bnd (aEf y8 u0_9 u0_6 u0_5 u0_4) fun y10 =>
  cnd y10
  (some (.inr (.inr t_6)))
  (some (.inl (IntKind.wrap .i64 (t_6+1)))))
  (some (.inr (.inl ())))
abbrev aIq (s:List GVarDef) (u0_9:List Str) (u0_6:GOp) (u0_5:GDoc) (u0_4:GSchema) (st:Int) (l:List PV) (u:UP):Prop:=l=[(zq aC s),(.func (.func 150) [] [(.ptr 1 9 0)]),(i6 0),(i6 (List.length s:Int)),(i6 st)]∧u=[[(9,[(zq PV.str u0_9)]),(6,[(i6 u0_6.kind),(.str u0_6.name),(zq aC u0_6.vars),(zq aK u0_6.dirs),(zq aG u0_6.sels)]),(5,[(zq aT u0_5.ops),(zq aH u0_5.frags)]),(4,[(zq aM u0_4.defs),(.str u0_4.query),(.str u0_4.mutation)])]]
abbrev aIr (s:List GVarDef) (u0_9:List Str) (u0_6:GOp) (u0_5:GDoc) (u0_4:GSchema) (p:Unit⊕Int) (r:EU):Prop:=elim p (fun (p:Unit)=>∃ (t_11:Int),r=(Ex.brk 0,[(zq aC s),(.func (.func 150) [] [(.ptr 1 9 0)]),(i6 0),(i6 (List.length s:Int)),(i6 t_11)],[[(9,[(zq PV.str u0_9)]),(6,[(i6 u0_6.kind),(.str u0_6.name),(zq aC u0_6.vars),(zq aK u0_6.dirs),(zq aG u0_6.sels)]),(5,[(zq aT u0_5.ops),(zq aH u0_5.frags)]),(4,[(zq aM u0_4.defs),(.str u0_4.query),(.str u0_4.mutation)])]])) (fun q2=>(fun (p:Int)=>∃ (t_13:Int),r=(Ex.ret,[(zq aC s),(.func (.func 150) [] [(.ptr 1 9 0)]),(i6 p),(i6 (List.length s:Int)),(i6 t_13)],[[(9,[(zq PV.str u0_9)]),(6,[(i6 u0_6.kind),(.str u0_6.name),(zq aC u0_6.vars),(zq aK u0_6.dirs),(zq aG u0_6.sels)]),(5,[(zq aT u0_5.ops),(zq aH u0_5.frags)]),(4,[(zq aM u0_4.defs),(.str u0_4.query),(.str u0_4.mutation)])]])) q2)
noncomputable def qY (s:List GVarDef) (u0_9:List Str) (u0_6:GOp) (u0_5:GDoc) (u0_4:GSchema):Option Int :=
 bnd (aY (gN s u0_9 u0_6 u0_5 u0_4) 0) fun e14_2=>elim e14_2
 (fun p14 =>
 some (-1))
 (fun t_12 =>
 some t_12)
def aKA:Decs:={decs:=[(14,(.ref eY)),(16,.bool)],ups:=[(16,[[],[(9,[sf]),(6,[n6,.str,sf,sf,sf]),(5,[sf,sf]),(4,[sf,.str,.str])]])],loops:=[(2,[],⟨[sf,(.func 150 [] [(.ptr 1 9 0)]),n6,n6,n6],[[(9,[sf]),(6,[n6,.str,sf,sf,sf]),(5,[sf,sf]),(4,[sf,.str,.str])]],[(some 0,[sf,(.func 150 [] [(.ptr 1 9 0)]),n6,n6,n6],[[(9,[sf]),(6,[n6,.str,sf,sf,sf]),(5,[sf,sf]),(4,[sf,.str,.str])]]),(none,[sf,(.func 150 [] [(.ptr 1 9 0)]),n6,n6,n6],[[(9,[sf]),(6,[n6,.str,sf,sf,sf]),(5,[sf,sf]),(4,[sf,.str,.str])]])]⟩)]}
theorem aKB (O:Orc) (LP:LBs) (s:List GVarDef) (u0_9:List Str) (u0_6:GOp) (u0_5:GDoc) (u0_4:GSchema):eW 204 aKA Tryz.f204 O LP [(zq aC s),(.func (.func 150) [] [(.ptr 1 9 0)])] [[(9,[(zq PV.str u0_9)]),(6,[(i6 u0_6.kind),(.str u0_6.name),(zq aC u0_6.vars),(zq aK u0_6.dirs),(zq aG u0_6.sels)]),(5,[(zq aT u0_5.ops),(zq aH u0_5.frags)]),(4,[(zq aM u0_4.defs),(.str u0_4.query),(.str u0_4.mutation)])]]=uV O LP s u0_9 u0_6 u0_5 u0_4:=by kernel_rfl
theorem aFV (s:List GVarDef) (u0_9:List Str) (u0_6:GOp) (u0_5:GDoc) (u0_4:GSchema):Lok (aIq s u0_9 u0_6 u0_5 u0_4) (gN s u0_9 u0_6 u0_5 u0_4) (uU O aF) (aIr s u0_9 u0_6 u0_5 u0_4):=by
 rintro t_6 l u ⟨rfl,rfl⟩
 simp only [gN,uU,zd,zr]
 refine zG ?_
 try simp only [evs,tys]
 apply Imp.cnd
 ·refine zX aC jL fun y8 _ => ?_
  try simp only [evs,tys]
  refine Imp.gcall (f:=aA) (fu:=fun a=>[]::kY y8 u0_9 u0_6 u0_5 u0_4 a) (fun a h=>by first | exact fI rfl rfl (by first | rfl | (simp only [zes,tys];rfl)) (bN h) | (have h':=bN h;simp only [evs,tys,evl,kY] at h';exact fI rfl rfl (by first | rfl | (simp only [zes,tys];rfl)) h')) zK (fun a=>by first | rfl | (simp only [kY,evs,tys];first | rfl | (cases w<;>rfl))) fun y10 hy10 => ?_
  try simp only [aA,kY,evs,tys]
  apply Imp.cnd
  ·exact zT ⟨t_6,zE⟩
  ·exact zN
 ·exact zB ⟨t_6,zE⟩
theorem aIs (s:List GVarDef) (u0_9:List Str) (u0_6:GOp) (u0_5:GDoc) (u0_4:GSchema):Imp (qY s u0_9 u0_6 u0_5 u0_4) (uV O aF s u0_9 u0_6 u0_5 u0_4) (fun r v=>v=(dP r,(gV s u0_9 u0_6 u0_5 u0_4 r))):=by
 simp only [qY,uV,zd,zr]
 try simp only [evs,tys]
 refine zL (aFV s u0_9 u0_6 u0_5 u0_4) ?_
 rintro (p | t_12) vy14 hy14
 ·try simp only [aN,aO]
  obtain ⟨t_11,rfl⟩:=hy14
  refine zH ?_
  try simp only [evs,tys]
  exact Imp.some (by first | rfl | simp only [zes,gV,evs,tys,evl])
 ·try simp only [aN,aO]
  obtain ⟨t_13,rfl⟩:=hy14
  refine Imp.exMiss rfl ?_
  refine zH ?_
  try simp only [evs,tys]
  exact Imp.some (by first | rfl | simp only [zes,gV,evs,tys,evl])
theorem aIt {s:List GVarDef} {u0_9:List Str} {u0_6:GOp} {u0_5:GDoc} {u0_4:GSchema} {r:Int} (h:qY s u0_9 u0_6 u0_5 u0_4=some r):aHQ s u0_9 u0_6 u0_5 u0_4=some r:=zV uN (aIs s u0_9 u0_6 u0_5 u0_4) Tryz.func204 (aKB _ _ s u0_9 u0_6 u0_5 u0_4) h
def dQ (O:Orc) (LP:LBs) (s:List GVarDef) (u0_9:List Str) (u0_6:GOp) (u0_5:GDoc) (u0_4:GSchema):Option (PV×UP) :=
 bnd (O 204 [(zq aC s),(.func (.func 150) [] [(.ptr 2 9 0)])] [[],[(9,[(zq PV.str u0_9)]),(6,[(i6 u0_6.kind),(.str u0_6.name),(zq aC u0_6.vars),(zq aK u0_6.dirs),(zq aG u0_6.sels)]),(5,[(zq aT u0_5.ops),(zq aH u0_5.frags)]),(4,[(zq aM u0_4.defs),(.str u0_4.query),(.str u0_4.mutation)])]]) fun x1=>cnd (chkU [[],[(9,[sf]),(6,[n6,.str,sf,sf,sf]),(5,[sf,sf]),(4,[sf,.str,.str])]] x1.2) (cnd (chk n6 x1.1)
 (some ((.bool (decide ((intV x1.1)≥0))),[[(9,[(zs (bx x1.2 1 0) 0)]),(6,[(zn (bx x1.2 1 1) 0),(zt (bx x1.2 1 1) 1),(zs (bx x1.2 1 1) 2),(zs (bx x1.2 1 1) 3),(zs (bx x1.2 1 1) 4)]),(5,[(zs (bx x1.2 1 2) 0),(zs (bx x1.2 1 2) 1)]),(4,[(zs (bx x1.2 1 3) 0),(zt (bx x1.2 1 3) 1),(zt (bx x1.2 1 3) 2)])]])) none) none
noncomputable def cQ (s:List GVarDef) (u0_9:List Str) (u0_6:GOp) (u0_5:GDoc) (u0_4:GSchema):Option Bool :=
 bnd (aHQ s u0_9 u0_6 u0_5 u0_4) fun y2 =>
 some (decide (y2≥0))
def pL:Decs:={decs:=[(7,n6)],ups:=[(7,[[],[(9,[sf]),(6,[n6,.str,sf,sf,sf]),(5,[sf,sf]),(4,[sf,.str,.str])]])]}
theorem pM (O:Orc) (LP:LBs) (s:List GVarDef) (u0_9:List Str) (u0_6:GOp) (u0_5:GDoc) (u0_4:GSchema):eW 144 pL Tryz.f144 O LP [(zq aC s),(.func (.func 150) [] [(.ptr 1 9 0)])] [[(9,[(zq PV.str u0_9)]),(6,[(i6 u0_6.kind),(.str u0_6.name),(zq aC u0_6.vars),(zq aK u0_6.dirs),(zq aG u0_6.sels)]),(5,[(zq aT u0_5.ops),(zq aH u0_5.frags)]),(4,[(zq aM u0_4.defs),(.str u0_4.query),(.str u0_4.mutation)])]]=dQ O LP s u0_9 u0_6 u0_5 u0_4:=by kernel_rfl
theorem oU (s:List GVarDef) (u0_9:List Str) (u0_6:GOp) (u0_5:GDoc) (u0_4:GSchema):Imp (cQ s u0_9 u0_6 u0_5 u0_4) (dQ O aF s u0_9 u0_6 u0_5 u0_4) (fun r v=>v=(aA r,(bD s u0_9 u0_6 u0_5 u0_4 r))):=by
 simp only [cQ,dQ,zd,zr]
 try simp only [evs,tys]
 refine Imp.gcall (f:=dP) (fu:=fun a=>[]::gV s u0_9 u0_6 u0_5 u0_4 a) (fun a h=>by first | exact fI rfl rfl (by first | rfl | (simp only [zes,tys];rfl)) (bN h) | (have h':=bN h;simp only [evs,tys,evl,gV] at h';exact fI rfl rfl (by first | rfl | (simp only [zes,tys];rfl)) h')) zK (fun a=>by first | rfl | (simp only [gV,evs,tys];first | rfl | (cases w<;>rfl))) fun y2 hy2 => ?_
 try simp only [dP,gV,evs,tys]
 exact Imp.some (by first | rfl | simp only [zes,bD,evs,tys,evl])
theorem oV {s:List GVarDef} {u0_9:List Str} {u0_6:GOp} {u0_5:GDoc} {u0_4:GSchema} {r:Bool} (h:cQ s u0_9 u0_6 u0_5 u0_4=some r):fB s u0_9 u0_6 u0_5 u0_4=some r:=zV aD (oU s u0_9 u0_6 u0_5 u0_4) Tryz.func144 (pM _ _ s u0_9 u0_6 u0_5 u0_4) h
def aCr (O:Orc) (LP:LBs) (s:GSchema) (d:GDoc) (o:GOp) (n:Int):Option (PV×UP) :=
 cnd (n==18)
 (aQ O 143 [(.agg [(i6 o.kind),(.str o.name),(zq aC o.vars),(zq aK o.dirs),(zq aG o.sels)])] fun x1=>cnd (chk .bool x1)
 (some ((.bool (bC x1)),[])) none)
 (cnd (n==19)
 (bnd (O 144 [(zq aC o.vars),(.func (.func 145) [] [(.ptr 1 4 0)])] [[(6,[(i6 o.kind),(.str o.name),(zq aC o.vars),(zq aK o.dirs),(zq aG o.sels)]),(5,[(zq aT d.ops),(zq aH d.frags)]),(4,[(zq aM s.defs),(.str s.query),(.str s.mutation)])]]) fun x3=>cnd (chkU [[(6,[n6,.str,sf,sf,sf]),(5,[sf,sf]),(4,[sf,.str,.str])]] x3.2) (cnd (chk .bool x3.1)
 (some ((.bool (!(bC x3.1))),[])) none) none)
 (cnd (n==20)
 (aQ O 28 [(eD d),(zq aG o.sels)] fun x5=>cnd (chk sf x5)
 (bnd (O 147 [(.slice (esV x5) [] false),(.func (.func 148) [] [(.ptr 1 6 0)])] [[(6,[(i6 o.kind),(.str o.name),(zq aC o.vars),(zq aK o.dirs),(zq aG o.sels)]),(5,[(zq aT d.ops),(zq aH d.frags)]),(4,[(zq aM s.defs),(.str s.query),(.str s.mutation)])]]) fun x7=>cnd (chkU [[(6,[n6,.str,sf,sf,sf]),(5,[sf,sf]),(4,[sf,.str,.str])]] x7.2) (cnd (chk .bool x7.1)
 (some ((.bool (!(bC x7.1))),[])) none) none) none)
 (aQ O 28 [(eD d),(zq aG o.sels)] fun x9=>cnd (chk sf x9)
 (bnd (O 144 [(zq aC o.vars),(.func (.func 150) [] [(.ptr 1 9 0)])] [[(9,[(.slice (esV x9) [] false)]),(6,[(i6 o.kind),(.str o.name),(zq aC o.vars),(zq aK o.dirs),(zq aG o.sels)]),(5,[(zq aT d.ops),(zq aH d.frags)]),(4,[(zq aM s.defs),(.str s.query),(.str s.mutation)])]]) fun x11=>cnd (chkU [[(9,[sf]),(6,[n6,.str,sf,sf,sf]),(5,[sf,sf]),(4,[sf,.str,.str])]] x11.2) (cnd (chk .bool x11.1)
 (some ((.bool (!(bC x11.1))),[])) none) none) none)))
noncomputable def aAP (s:GSchema) (d:GDoc) (o:GOp) (n:Int):Option Bool :=
 cnd (n==18)
 (bnd (aJ6 o) fun y2 =>
 some y2)
 (cnd (n==19)
 (bnd (gI o.vars o d s) fun y4 =>
 some (!y4))
 (cnd (n==20)
 (bnd (yT d o.sels) fun y6 =>
 bnd (dG y6 o d s) fun y8 =>
 some (!y8))
 (bnd (yT d o.sels) fun y10 =>
 bnd (fB o.vars y10 o d s) fun y12 =>
 some (!y12))))
def aRM:Decs:={decs:=[(14,.bool),(20,.bool),(27,sf),(29,.bool),(34,sf),(38,.bool)],ups:=[(20,[[(6,[n6,.str,sf,sf,sf]),(5,[sf,sf]),(4,[sf,.str,.str])]]),(29,[[(6,[n6,.str,sf,sf,sf]),(5,[sf,sf]),(4,[sf,.str,.str])]]),(38,[[(9,[sf]),(6,[n6,.str,sf,sf,sf]),(5,[sf,sf]),(4,[sf,.str,.str])]])]}
theorem aRN (O:Orc) (LP:LBs) (s:GSchema) (d:GDoc) (o:GOp) (n:Int):eW 79 aRM Tryz.f79 O LP [(eS s),(eD d),(.agg [(i6 o.kind),(.str o.name),(zq aC o.vars),(zq aK o.dirs),(zq aG o.sels)]),(i6 n)] []=aCr O LP s d o n:=by kernel_rfl
theorem aOL (s:GSchema) (d:GDoc) (o:GOp) (n:Int):Imp (aAP s d o n) (aCr O aF s d o n) (Ri aA):=by
 simp only [aAP,aCr,zd,zr]
 try simp only [evs,tys]
 apply Imp.cnd
 ·refine zC rfl fun y2 _ => ?_
  try simp only [zes,evs,tys]
  exact zR
 ·apply Imp.cnd
  ·refine Imp.gcall (f:=aA) (fu:=fun a=>bP o.vars o d s a) (fun a h=>by first | exact bN h | (have h':=bN h;simp only [evs,tys,evl,bP] at h';exact h')) zK (fun a=>by first | rfl | (simp only [bP,evs,tys];first | rfl | (cases w<;>rfl))) fun y4 hy4 => ?_
   try simp only [aA,bP,evs,tys]
   exact zR
  ·apply Imp.cnd
   ·refine zC rfl fun y6 _ => ?_
    try simp only [zes,evs,tys]
    refine Imp.gcall (f:=aA) (fu:=fun a=>aU y6 o d s a) (fun a h=>by first | exact bN h | (have h':=bN h;simp only [evs,tys,evl,aU] at h';exact h')) zK (fun a=>by first | rfl | (simp only [aU,evs,tys];first | rfl | (cases w<;>rfl))) fun y8 hy8 => ?_
    try simp only [aA,aU,evs,tys]
    exact zR
   ·refine zC rfl fun y10 _ => ?_
    try simp only [zes,evs,tys]
    refine Imp.gcall (f:=aA) (fu:=fun a=>bD o.vars y10 o d s a) (fun a h=>by first | exact bN h | (have h':=bN h;simp only [evs,tys,evl,bD] at h';exact h')) zK (fun a=>by first | rfl | (simp only [bD,evs,tys];first | rfl | (cases w<;>rfl))) fun y12 hy12 => ?_
    try simp only [aA,bD,evs,tys]
    exact zR
theorem aOM {s:GSchema} {d:GDoc} {o:GOp} {n:Int} {r:Bool} (h:aAP s d o n=some r):aJ2 s d o n=some r:=zV aD (aOL s d o n) Tryz.func79 (aRN _ _ s d o n) h
def aCs (O:Orc) (LP:LBs) (s:GSchema) (typ:Str) (x:GSel):Option (PV×UP) :=
 cnd (x.kind==0)
 (aQ O 117 [(eS s),(.str typ),(.str x.name)] fun x1=>cnd (chk (.tup [nO,.bool]) x1)
 (some ((zt (tg x1 0) 2),[])) none)
 (cnd (x.kind==2)
 (cnd (x.on_==([]:Str))
 (some ((.str typ),[]))
 (some ((.str x.on_),[])))
 (some ((.str []),[])))
noncomputable def aAQ (s:GSchema) (typ:Str) (x:GSel):Option Str :=
 cnd (x.kind==0)
 (bnd (aOi s typ x.name) fun y2 =>
 some y2.1.t.name)
 (cnd (x.kind==2)
 (cnd (x.on_==([]:Str))
 (some typ)
 (some x.on_))
 (some []))
def aRO:Decs:={decs:=[(18,(.tup [nO,.bool]))]}
theorem aRP (O:Orc) (LP:LBs) (s:GSchema) (typ:Str) (x:GSel):eW 184 aRO Tryz.f184 O LP [(eS s),(.str typ),(eL x)] []=aCs O LP s typ x:=by kernel_rfl
theorem aON (s:GSchema) (typ:Str) (x:GSel):Imp (aAQ s typ x) (aCs O aF s typ x) (Ri aAw):=by
 simp only [aAQ,aCs,zd,zr]
 try simp only [evs,tys]
 apply Imp.cnd
 ·refine zC rfl fun y2 _ => ?_
  try simp only [zes,evs,tys]
  exact zR
 ·apply Imp.cnd
  ·apply Imp.cnd
   ·exact zR
   ·exact zR
  ·exact zR
theorem aOO {s:GSchema} {typ:Str} {x:GSel} {r:Str} (h:aAQ s typ x=some r):aJ3 s typ x=some r:=zV aQN (aON s typ x) Tryz.func184 (aRP _ _ s typ x) h
abbrev oW:List Sh:=[sf,st',n6,n6]
def xT (O:Orc) (LP:LBs):bM:=fun s38 s38u=>cnd (chkL oW s38) (cnd (chkU [] s38u)
 (bnd (ix 7 (zs s38 0) (zn s38 2)) fun x49=>cnd (chk (.ref mG) x49)
 (cnd (decide ((iv s38 3)<(List.length (ev (rf x49) 4):Int)))
 (bnd (ix 7 (zs s38 0) (zn s38 2)) fun x51=>cnd (chk (.ref mG) x51)
 (bnd (ix 2 (zs (rf x51) 4) (zn s38 3)) fun x53=>cnd (chk (.ref aQL) x53)
 (aQ O 220 [(zs (rf x53) 1),(zo s38 1)] fun x55=>cnd (chk st' x55)
 (some (.nrm,[(zs s38 0),(.slice (esV x55) [] true),(zn s38 2),(i6 (w6 ((iv s38 3)+1)))],[])) none) none) none)
 (some (.brk 2,(rb oW s38),[]))) none) none) none
def xU (O:Orc) (LP:LBs):bM:=fun s1 s1u=>cnd (chkL [sf,st',n6] s1) (cnd (chkU [] s1u)
 (cnd (decide ((iv s1 2)<(List.length (ev s1 0):Int)))
 (bnd (ix 7 (zs s1 0) (zn s1 2)) fun x34=>cnd (chk (.ref mG) x34)
 (aQ O 220 [(zs (rf x34) 3),(zo s1 1)] fun x36=>cnd (chk st' x36)
 (bnd (LP (xT O LP) [(zs s1 0),(.slice (esV x36) [] true),(zn s1 2),(i6 0)] []) fun y59 =>
 exIs y59.1 (some 2) (cnd (chkL [sf,st',n6,n6] y59.2.1) (cnd (chkU [] y59.2.2)
 (bnd (ix 7 (zs y59.2.1 0) (zn y59.2.1 2)) fun x60=>cnd (chk (.ref mG) x60)
 (aQ O 189 [(zs (rf x60) 6),(zo y59.2.1 1)] fun x62=>cnd (chk st' x62)
 (some (.nrm,[(zs y59.2.1 0),(.slice (esV x62) [] true),(i6 (w6 ((iv y59.2.1 2)+1)))],[])) none) none) none) none)
 (none)) none) none)
 (some (.brk 0,[(zs s1 0),(zo s1 1),(zn s1 2)],[]))) none) none
def xV (O:Orc) (LP:LBs) (l0:List GSel) (out0:List Str):Option (PV×UP) :=
 bnd (LP (xU O LP) [(zq aG l0),(zp PV.str out0),(i6 0)] []) fun y66 =>
 exIs y66.1 (some 0) (cnd (chkL [sf,st',n6] y66.2.1) (cnd (chkU [] y66.2.2)
 (some ((zo y66.2.1 1),[])) none) none)
 (none)
noncomputable def fZ (l0:List GSel) (i_33:Int):((List Str)×Int)→Option (((List Str)×Int)⊕((List Str)))
 | (out_47,k_48) =>
 bnd (nthI l0 i_33) fun y50 =>
 cnd (decide (k_48<(List.length y50.dirs:Int)))
  (bnd (nthI l0 i_33) fun y52 =>
  bnd (nthI y52.dirs k_48) fun y54 =>
  bnd (aOj y54.args out_47) fun y56 =>
  some (.inl (y56,(IntKind.wrap .i64 (k_48+1)))))
  (some (.inr out_47))
abbrev aKC (l0:List GSel) (i_33:Int) (st:(List Str)×Int) (l:List PV) (u:UP):Prop:=l=[(zq aG l0),(zp PV.str st.1),(i6 i_33),(i6 st.2)]∧u=[]
abbrev aKD (l0:List GSel) (i_33:Int) (p:(List Str)) (r:EU):Prop:=(fun (p:(List Str))=>∃ (k_58:Int),r=(Ex.brk 2,[(zq aG l0),(zp PV.str p),(i6 i_33),(i6 k_58)],[])) p
noncomputable def gA (l0:List GSel):((List Str)×Int)→Option (((List Str)×Int)⊕((List Str)))
 | (out_32,i_33) =>
 cnd (decide (i_33<(List.length l0:Int)))
  (bnd (nthI l0 i_33) fun y35 =>
  bnd (aOj y35.args out_32) fun y37 =>
  bnd (aY (fZ l0 i_33) (y37,0)) fun out_57 =>
  bnd (nthI l0 i_33) fun y61 =>
  bnd (qE y61.sels out_57) fun y63 =>
  some (.inl (y63,(IntKind.wrap .i64 (i_33+1)))))
  (some (.inr out_32))
abbrev aKE (l0:List GSel) (st:(List Str)×Int) (l:List PV) (u:UP):Prop:=l=[(zq aG l0),(zp PV.str st.1),(i6 st.2)]∧u=[]
abbrev aKF (l0:List GSel) (p:(List Str)) (r:EU):Prop:=(fun (p:(List Str))=>∃ (i_65:Int),r=(Ex.brk 0,[(zq aG l0),(zp PV.str p),(i6 i_65)],[])) p
noncomputable def oX (l0:List GSel) (out0:List Str):Option (List Str) :=
 bnd (aY (gA l0) (out0,0)) fun out_64 =>
 some out_64
def aMd:Decs:={decs:=[(15,(.ref mG)),(19,st'),(23,(.ref mG)),(32,(.ref mG)),(36,(.ref aQL)),(40,st'),(43,(.ref mG)),(47,st')],loops:=[(2,[],⟨[sf,st',n6],[],[(some 0,[sf,st',n6],[])]⟩),(6,[],⟨oW,[],[(some 2,oW,[])]⟩)]}
theorem aMe (O:Orc) (LP:LBs) (l0:List GSel) (out0:List Str):eW 189 aMd Tryz.f189 O LP [(zq aG l0),(zp PV.str out0)] []=xV O LP l0 out0:=by kernel_rfl
theorem aG1 (l0:List GSel) (i_33:Int):Lok (aKC l0 i_33) (fZ l0 i_33) (xT O aF) (aKD l0 i_33):=by
 rintro ⟨out_47,k_48⟩ l u ⟨rfl,rfl⟩
 simp only [fZ,xT,zd,zr]
 refine zG ?_
 try simp only [evs,tys]
 refine zX aG gU fun y50 _ => ?_
 try simp only [evs,tys]
 apply Imp.cnd
 ·refine zX aG gU fun y52 _ => ?_
  try simp only [evs,tys]
  refine zX aK aIX fun y54 _ => ?_
  try simp only [evs,tys]
  refine zC rfl fun y56 _ => ?_
  try simp only [zes,evs,tys]
  exact zN
 ·exact zB ⟨k_48,zE⟩
theorem aG2 (l0:List GSel):Lok (aKE l0) (gA l0) (xU O aF) (aKF l0):=by
 rintro ⟨out_32,i_33⟩ l u ⟨rfl,rfl⟩
 simp only [gA,xU,zd,zr]
 refine zG ?_
 try simp only [evs,tys]
 apply Imp.cnd
 ·refine zX aG gU fun y35 _ => ?_
  try simp only [evs,tys]
  refine zC rfl fun y37 _ => ?_
  try simp only [zes,evs,tys]
  refine zL (aG1 l0 i_33) ?_
  rintro out_57 _ ⟨k_58,rfl⟩
  refine zH ?_
  try simp only [evs,tys]
  refine zX aG gU fun y61 _ => ?_
  try simp only [evs,tys]
  refine zC rfl fun y63 _ => ?_
  try simp only [zes,evs,tys]
  exact zN
 ·exact zB ⟨i_33,zE⟩
theorem aKG (l0:List GSel) (out0:List Str):Imp (oX l0 out0) (xV O aF l0 out0) (Ri eZ):=by
 simp only [oX,xV,zd,zr]
 try simp only [evs,tys]
 refine zL (aG2 l0) ?_
 rintro out_64 _ ⟨i_65,rfl⟩
 refine zH ?_
 try simp only [evs,tys]
 exact zR
theorem aCt {l0:List GSel} {out0:List Str} {r:List Str} (h:oX l0 out0=some r):qE l0 out0=some r:=zV rN (aKG l0 out0) Tryz.func189 (aMe _ _ l0 out0) h
def aCu (O:Orc) (LP:LBs):bM:=fun s60 s60u=>cnd (chkL [(.rsl 0 7 1),n6,n6,(.vec 1)] s60) (cnd (chkU [] s60u)
 (cnd (decide ((iv s60 2)>0))
 (bnd (ix 1 (.rsl 0 7 (rlnV (gt s60 0)) 1) (zn s60 2)) fun x87=>cnd (chk (.ptx 0 7) x87)
 (bnd (aNp 1 (vecV (gt s60 3)) (offV x87) 1 false) fun x89=>cnd (chk .str x89)
 (bnd (ix 1 (.rsl 0 7 (rlnV (gt s60 0)) 1) (i6 (w6 ((iv s60 2)-1)))) fun x91=>cnd (chk (.ptx 0 7) x91)
 (bnd (aNp 1 (vecV (gt s60 3)) (offV x91) 1 false) fun x93=>cnd (chk .str x93)
 (cnd (Op.bytesLess (strV x89) (strV x93))
 (bnd (ix 1 (.rsl 0 7 (rlnV (gt s60 0)) 1) (i6 (w6 ((iv s60 2)-1)))) fun x95=>cnd (chk (.ptx 0 7) x95)
 (bnd (aNp 1 (vecV (gt s60 3)) (offV x95) 1 false) fun x97=>cnd (chk .str x97)
 (bnd (ix 1 (.rsl 0 7 (rlnV (gt s60 0)) 1) (zn s60 2)) fun x99=>cnd (chk (.ptx 0 7) x99)
 (bnd (aNp 1 (vecV (gt s60 3)) (offV x99) 1 false) fun x101=>cnd (chk .str x101)
 (bnd (ix 1 (.rsl 0 7 (rlnV (gt s60 0)) 1) (zn s60 2)) fun x103=>cnd (chk (.ptx 0 7) x103)
 (bnd (vput 1 (vecV (gt s60 3)) (offV x103) [(.str (strV x97))]) fun x105 =>
 bnd (ix 1 (.rsl 0 7 (rlnV (gt s60 0)) 1) (i6 (w6 ((iv s60 2)-1)))) fun x107=>cnd (chk (.ptx 0 7) x107)
 (bnd (vput 1 x105 (offV x107) [(.str (strV x101))]) fun x109 =>
 some (.nrm,[(.rsl 0 7 (rlnV (gt s60 0)) 1),(zn s60 1),(i6 (w6 ((iv s60 2)-1))),(.vec 1 x109)],[])) none) none) none) none) none) none)
 (some (.brk 2,[(.rsl 0 7 (rlnV (gt s60 0)) 1),(zn s60 1),(zn s60 2),(.vec 1 (vecV (gt s60 3)))],[]))) none) none) none) none)
 (some (.brk 2,[(.rsl 0 7 (rlnV (gt s60 0)) 1),(zn s60 1),(zn s60 2),(.vec 1 (vecV (gt s60 3)))],[]))) none) none
def aCv (O:Orc) (LP:LBs):bM:=fun s3 s3u=>cnd (chkL [(.rsl 0 7 1),n6,(.vec 1)] s3) (cnd (chkU [] s3u)
 (cnd (decide ((iv s3 1)<((rlnV (gt s3 0)):Int)))
 (bnd (LP (aCu O LP) [(.rsl 0 7 (rlnV (gt s3 0)) 1),(zn s3 1),(zn s3 1),(.vec 1 (vecV (gt s3 2)))] []) fun y113 =>
 exIs y113.1 (some 2) (cnd (chkL [(.rsl 0 7 1),n6,n6,(.vec 1)] y113.2.1) (cnd (chkU [] y113.2.2)
 (some (.nrm,[(.rsl 0 7 (rlnV (gt y113.2.1 0)) 1),(i6 (w6 ((iv y113.2.1 1)+1))),(.vec 1 (vecV (gt y113.2.1 3)))],[])) none) none)
 (none))
 (some (.brk 0,[(.rsl 0 7 (rlnV (gt s3 0)) 1),(zn s3 1),(.vec 1 (vecV (gt s3 2)))],[]))) none) none
def aCw (O:Orc) (LP:LBs) (l0:List Str):Option (PV×UP) :=
 bnd (apdV 1 (.slice [] [] true) (zq PV.str l0)) fun x1 =>
 bnd (LP (aCv O LP) [(.rsl 0 7 (List.length x1) 1),(i6 1),(.vec 1 x1)] []) fun y116 =>
 exIs y116.1 (some 0) (cnd (chkL [(.rsl 0 7 1),n6,(.vec 1)] y116.2.1) (cnd (chkU [] y116.2.2)
 (cnd (Nat.ble (rlnV (gt y116.2.1 0)) (List.length (vecV (gt y116.2.1 2))))
 (some ((.slice (List.take (rlnV (gt y116.2.1 0)) (vecV (gt y116.2.1 2))) [] false),[]))
 (none)) none) none)
 (none)
noncomputable def iB (y2:List Str):(Int×(List Str))→Option ((Int×(List Str))⊕((List Str)))
 | (k_85,b_86) =>
 cnd (decide (k_85>0))
  (bnd (tixR (List.length y2) k_85) fun y88 =>
  bnd (tget b_86 y88 (fun z:Str=>z)) fun y90 =>
  bnd (tixR (List.length y2) (IntKind.wrap .i64 (k_85-1))) fun y92 =>
  bnd (tget b_86 y92 (fun z:Str=>z)) fun y94 =>
  cnd (Op.bytesLess y90 y94)
  (bnd (tixR (List.length y2) (IntKind.wrap .i64 (k_85-1))) fun y96 =>
  bnd (tget b_86 y96 (fun z:Str=>z)) fun y98 =>
  bnd (tixR (List.length y2) k_85) fun y100 =>
  bnd (tget b_86 y100 (fun z:Str=>z)) fun y102 =>
  bnd (tixR (List.length y2) k_85) fun y104 =>
  bnd (tput b_86 y104 (fun _:Str=>y98)) fun y106 =>
  bnd (tixR (List.length y2) (IntKind.wrap .i64 (k_85-1))) fun y108 =>
  bnd (tput y106 y108 (fun _:Str=>y102)) fun y110 =>
  some (.inl ((IntKind.wrap .i64 (k_85-1)),y110)))
  (some (.inr b_86)))
  (some (.inr b_86))
abbrev aFW (y2:List Str) (i_58:Int) (st:Int×(List Str)) (l:List PV) (u:UP):Prop:=l=[(.rsl 0 7 (List.length y2) 1),(i6 i_58),(i6 st.1),(.vec 1 (List.map PV.str st.2))]∧u=[]
abbrev aOP (y2:List Str) (i_58:Int) (p:(List Str)) (r:EU):Prop:=(fun (p:(List Str))=>∃ (k_111:Int),r=(Ex.brk 2,[(.rsl 0 7 (List.length y2) 1),(i6 i_58),(i6 k_111),(.vec 1 (List.map PV.str p))],[])) p
noncomputable def jR (y2:List Str):(Int×(List Str))→Option ((Int×(List Str))⊕((List Str)))
 | (i_58,b_59) =>
 cnd (decide (i_58<((List.length y2):Int)))
  (bnd (aY (iB y2) (i_58,b_59)) fun b_112 =>
  some (.inl ((IntKind.wrap .i64 (i_58+1)),b_112)))
  (some (.inr b_59))
abbrev aOQ (y2:List Str) (st:Int×(List Str)) (l:List PV) (u:UP):Prop:=l=[(.rsl 0 7 (List.length y2) 1),(i6 st.1),(.vec 1 (List.map PV.str st.2))]∧u=[]
abbrev aOR (y2:List Str) (p:(List Str)) (r:EU):Prop:=(fun (p:(List Str))=>∃ (i_114:Int),r=(Ex.brk 0,[(.rsl 0 7 (List.length y2) 1),(i6 i_114),(.vec 1 (List.map PV.str p))],[])) p
noncomputable def aAR (l0:List Str):Option (List Str) :=
 bnd (tapl l0) fun y2 =>
 bnd (aY (jR y2) (1,y2)) fun b_115 =>
 cnd (Nat.ble (List.length y2) (List.length b_115))
 (some (List.take (List.length y2) b_115))
 (none)
def aRQ:Decs:={decs:=[(20,(.ptx 0 7)),(21,.str),(25,(.ptx 0 7)),(26,.str),(39,(.ptx 0 7)),(40,.str),(43,(.ptx 0 7)),(44,.str),(45,(.ptx 0 7)),(46,(.ptx 0 7))],loops:=[(3,[(7,1)],⟨[(.rsl 0 7 1),n6,(.vec 1)],[],[(some 0,[(.rsl 0 7 1),n6,(.vec 1)],[])]⟩),(6,[(7,1)],⟨[(.rsl 0 7 1),n6,n6,(.vec 1)],[],[(some 2,[(.rsl 0 7 1),n6,n6,(.vec 1)],[])]⟩)]}
theorem aRR (O:Orc) (LP:LBs) (l0:List Str):eW 190 aRQ Tryz.f190 O LP [(zq PV.str l0)] []=aCw O LP l0:=by kernel_rfl
theorem aKH (y2:List Str) (i_58:Int):∀ st l u,aFW y2 i_58 st l u→Imp (iB y2 st) (aCu O aF l u) (oE (aFW y2 i_58) (aOP y2 i_58)):=by
 rintro ⟨k_85,b_86⟩ l u ⟨rfl,rfl⟩
 simp only [iB,aCu,zd,zr]
 refine zG ?_
 try simp only [evs,tys]
 apply Imp.cnd
 ·refine Imp.op (f:=fun a => .ptr 0 7 (a*1)) (fun a h=>aM0 h) (fun a=>rfl) fun y88 hy88 => ?_
  try simp only [evs,tys]
  refine Imp.op (f:=fun a=>PV.str a) (fun a h=>aFz (enc:=PV.str) (encT:=fun a=>PV.str a) (f:=fun z=>z) zI (by decide) (fun z=>by first | rfl | (simp only [evs,tys,evc,part];rfl)) (fun a=>by first | rfl | (simp only [evs,tys];rfl)) h) (fun a=>rfl) fun y90 hy90 => ?_
  try simp only [evs,tys]
  refine Imp.op (f:=fun a => .ptr 0 7 (a*1)) (fun a h=>aM0 h) (fun a=>rfl) fun y92 hy92 => ?_
  try simp only [evs,tys]
  refine Imp.op (f:=fun a=>PV.str a) (fun a h=>aFz (enc:=PV.str) (encT:=fun a=>PV.str a) (f:=fun z=>z) zI (by decide) (fun z=>by first | rfl | (simp only [evs,tys,evc,part];rfl)) (fun a=>by first | rfl | (simp only [evs,tys];rfl)) h) (fun a=>rfl) fun y94 hy94 => ?_
  try simp only [evs,tys]
  apply Imp.cnd
  ·refine Imp.op (f:=fun a => .ptr 0 7 (a*1)) (fun a h=>aM0 h) (fun a=>rfl) fun y96 hy96 => ?_
   try simp only [evs,tys]
   refine Imp.op (f:=fun a=>PV.str a) (fun a h=>aFz (enc:=PV.str) (encT:=fun a=>PV.str a) (f:=fun z=>z) zI (by decide) (fun z=>by first | rfl | (simp only [evs,tys,evc,part];rfl)) (fun a=>by first | rfl | (simp only [evs,tys];rfl)) h) (fun a=>rfl) fun y98 hy98 => ?_
   try simp only [evs,tys]
   refine Imp.op (f:=fun a => .ptr 0 7 (a*1)) (fun a h=>aM0 h) (fun a=>rfl) fun y100 hy100 => ?_
   try simp only [evs,tys]
   refine Imp.op (f:=fun a=>PV.str a) (fun a h=>aFz (enc:=PV.str) (encT:=fun a=>PV.str a) (f:=fun z=>z) zI (by decide) (fun z=>by first | rfl | (simp only [evs,tys,evc,part];rfl)) (fun a=>by first | rfl | (simp only [evs,tys];rfl)) h) (fun a=>rfl) fun y102 hy102 => ?_
   try simp only [evs,tys]
   refine Imp.op (f:=fun a => .ptr 0 7 (a*1)) (fun a h=>aM0 h) (fun a=>rfl) fun y104 hy104 => ?_
   try simp only [evs,tys]
   refine Imp.opr (f:=fun a=>List.map PV.str a) (fun a h=>aV2 (enc:=PV.str) zI (by decide) (by simp) (by rfl) (fun z=>by first | rfl | (simp only [evs,tys,evl,evc];rfl)) h) fun y106 hy106 => ?_
   try simp only [evs,tys]
   refine Imp.op (f:=fun a => .ptr 0 7 (a*1)) (fun a h=>aM0 h) (fun a=>rfl) fun y108 hy108 => ?_
   try simp only [evs,tys]
   refine Imp.opr (f:=fun a=>List.map PV.str a) (fun a h=>aV2 (enc:=PV.str) zI (by decide) (by simp) (by rfl) (fun z=>by first | rfl | (simp only [evs,tys,evl,evc];rfl)) h) fun y110 hy110 => ?_
   try simp only [evs,tys]
   exact zN
  ·exact zB ⟨k_85,zE⟩
 ·exact zB ⟨k_85,zE⟩
theorem aKI (y2:List Str):Lok (aOQ y2) (jR y2) (aCv O aF) (aOR y2):=by
 rintro ⟨i_58,b_59⟩ l u ⟨rfl,rfl⟩
 simp only [jR,aCv,zd,zr]
 refine zG ?_
 try simp only [evs,tys]
 apply Imp.cnd
 ·refine zL (aKH y2 i_58) ?_
  rintro b_112 _ ⟨k_111,rfl⟩
  refine zH ?_
  try simp only [evs,tys]
  exact zN
 ·exact zB ⟨i_58,zE⟩
theorem aOS (l0:List Str):Imp (aAR l0) (aCw O aF l0) (Ri cO):=by
 simp only [aAR,aCw,zd,zr]
 try simp only [evs,tys]
 refine Imp.opr (f:=fun a=>List.map PV.str a) (fun a h=>bD4 (enc:=PV.str) zI (fun a=>by first | rfl | simp only [evs,tys,evc]) h) fun y2 hy2 => ?_
 try simp only [evs,tys]
 refine zL (aKI y2) ?_
 rintro b_115 _ ⟨i_114,rfl⟩
 refine zH ?_
 try simp only [evs,tys]
 apply Imp.cnd
 ·exact zR
 ·exact Imp.none
theorem aOT {l0:List Str} {r:List Str} (h:aAR l0=some r):aJ4 l0=some r:=zV lO (aOS l0) Tryz.func190 (aRR _ _ l0) h
def aOU (O:Orc) (LP:LBs) (s:GSchema) (name:Str) (a:Int) (b:Int) (c:Int):Option (PV×UP) :=
 aQ O 164 [(eS s),(.str name)] fun x1=>cnd (chk (.tup [uK,.bool]) x1)
 (cnd (bC (tv x1 1))
 (cnd ((iv (tg x1 0) 0)==a)
 (some ((.bool true),[]))
 (cnd ((iv (tg x1 0) 0)==b)
 (some ((.bool true),[]))
 (some ((.bool ((iv (tg x1 0) 0)==c)),[]))))
 (some ((.bool false),[]))) none
noncomputable def aOV (s:GSchema) (name:Str) (a:Int) (b:Int) (c:Int):Option Bool :=
 bnd (aAx s name) fun y2 =>
 cnd y2.2
 (cnd (y2.1.kind==a)
 (some true)
 (cnd (y2.1.kind==b)
 (some true)
 (some (y2.1.kind==c))))
 (some false)
def bCj:Decs:={decs:=[(16,(.tup [uK,.bool]))]}
theorem bCk (O:Orc) (LP:LBs) (s:GSchema) (name:Str) (a:Int) (b:Int) (c:Int):eW 159 bCj Tryz.f159 O LP [(eS s),(.str name),(i6 a),(i6 b),(i6 c)] []=aOU O LP s name a b c:=by kernel_rfl
theorem bAN (s:GSchema) (name:Str) (a:Int) (b:Int) (c:Int):Imp (aOV s name a b c) (aOU O aF s name a b c) (Ri aA):=by
 simp only [aOV,aOU,zd,zr]
 try simp only [evs,tys]
 refine zC rfl fun y2 _ => ?_
 try simp only [zes,evs,tys]
 apply Imp.cnd
 ·apply Imp.cnd
  ·exact zR
  ·apply Imp.cnd
   ·exact zR
   ·exact zR
 ·exact zR
theorem bAO {s:GSchema} {name:Str} {a:Int} {b:Int} {c:Int} {r:Bool} (h:aOV s name a b c=some r):bAv s name a b c=some r:=zV aD (bAN s name a b c) Tryz.func159 (bCk _ _ s name a b c) h
def aG3 (O:Orc) (LP:LBs):bM:=fun s5 s5u=>cnd (chkL [.str,.bool,n6] s5) (cnd (chkU [] s5u)
 (cnd (decide ((iv s5 2)<(List.length (sv s5 0):Int)))
 (bnd (xA (zt s5 0) (zn s5 2)) fun x15=>cnd (chk (.int .u8) x15)
 (aQ O 169 [(.int .u8 (intV x15))] fun x17=>cnd (chk .bool x17)
 (cnd (!(bC x17))
 (bnd (xA (zt s5 0) (zn s5 2)) fun x19=>cnd (chk (.int .u8) x19)
 (aQ O 170 [(.int .u8 (intV x19))] fun x21=>cnd (chk .bool x21)
 (cnd (!(bC x21))
 (some (.ret,[(zt s5 0),(.bool false),(zn s5 2)],[]))
 (some (.nrm,[(zt s5 0),(zb s5 1),(i6 (w6 ((iv s5 2)+1)))],[]))) none) none)
 (some (.nrm,[(zt s5 0),(zb s5 1),(i6 (w6 ((iv s5 2)+1)))],[]))) none) none)
 (some (.brk 0,[(zt s5 0),(zb s5 1),(zn s5 2)],[]))) none) none
def aG4 (O:Orc) (LP:LBs) (s:Str):Option (PV×UP) :=
 cnd (s==([]:Str))
 (some ((.bool false),[]))
 (bnd (xA (.str s) (i6 0)) fun x1=>cnd (chk (.int .u8) x1)
 (aQ O 169 [(.int .u8 (intV x1))] fun x3=>cnd (chk .bool x3)
 (cnd (!(bC x3))
 (some ((.bool false),[]))
 (bnd (LP (aG3 O LP) [(.str s),(.bool false),(i6 1)] []) fun y25 =>
 exIs y25.1 (some 0) (cnd (chkL [.str,.bool,n6] y25.2.1) (cnd (chkU [] y25.2.2)
 (some ((.bool true),[])) none) none)
 (exIs y25.1 none (cnd (chkL [.str,.bool,n6] y25.2.1) (cnd (chkU [] y25.2.2)
 (some ((zb y25.2.1 1),[])) none) none)
 (none)))) none) none)
noncomputable def qM (s:Str):Int→Option (Int⊕(Unit⊕Unit))
 | i_14 =>
 cnd (decide (i_14<(List.length s:Int)))
  (bnd (nthI s i_14) fun y16 =>
  bnd (aI2 (y16.toNat:Int)) fun y18 =>
  cnd (!y18)
  (bnd (nthI s i_14) fun y20 =>
  bnd (aI1 (y20.toNat:Int)) fun y22 =>
  cnd (!y22)
   (some (.inr (.inr ())))
   (some (.inl (IntKind.wrap .i64 (i_14+1)))))
  (some (.inl (IntKind.wrap .i64 (i_14+1)))))
  (some (.inr (.inl ())))
abbrev aUE (s:Str) (st:Int) (l:List PV) (u:UP):Prop:=l=[(.str s),(.bool false),(i6 st)]∧u=[]
abbrev aUF (s:Str) (p:Unit⊕Unit) (r:EU):Prop:=elim p (fun (p:Unit)=>∃ (i_23:Int),r=(Ex.brk 0,[(.str s),(.bool false),(i6 i_23)],[])) (fun q2=>(fun (p:Unit)=>∃ (i_24:Int),r=(Ex.ret,[(.str s),(.bool false),(i6 i_24)],[])) q2)
noncomputable def aFX (s:Str):Option Bool :=
 cnd (s==([]:Str))
 (some false)
 (bnd (nthI s 0) fun y2 =>
 bnd (aI2 (y2.toNat:Int)) fun y4 =>
 cnd (!y4)
 (some false)
 (bnd (aY (qM s) 1) fun e25_2=>elim e25_2
 (fun p25 =>
 some true)
 (fun p25 =>
 some false)))
def aYo:Decs:={decs:=[(8,(.int .u8)),(9,.bool),(20,(.int .u8)),(21,.bool),(26,(.int .u8)),(27,.bool)],loops:=[(4,[],⟨[.str,.bool,n6],[],[(some 0,[.str,.bool,n6],[]),(none,[.str,.bool,n6],[])]⟩)]}
theorem aYp (O:Orc) (LP:LBs) (s:Str):eW 98 aYo Tryz.f98 O LP [(.str s)] []=aG4 O LP s:=by kernel_rfl
theorem aOW (s:Str):Lok (aUE s) (qM s) (aG3 O aF) (aUF s):=by
 rintro i_14 l u ⟨rfl,rfl⟩
 simp only [qM,aG3,zd,zr]
 refine zG ?_
 try simp only [evs,tys]
 apply Imp.cnd
 ·refine Imp.op (f:=fun a => .int .u8 (a.toNat:Int)) (fun a h=>jJ h) (fun a=>rfl) fun y16 hy16 => ?_
  try simp only [evs,tys]
  refine zC rfl fun y18 _ => ?_
  try simp only [zes,evs,tys]
  apply Imp.cnd
  ·refine Imp.op (f:=fun a => .int .u8 (a.toNat:Int)) (fun a h=>jJ h) (fun a=>rfl) fun y20 hy20 => ?_
   try simp only [evs,tys]
   refine zC rfl fun y22 _ => ?_
   try simp only [zes,evs,tys]
   apply Imp.cnd
   ·exact zT ⟨i_14,zE⟩
   ·exact zN
  ·exact zN
 ·exact zB ⟨i_14,zE⟩
theorem aUG (s:Str):Imp (aFX s) (aG4 O aF s) (Ri aA):=by
 simp only [aFX,aG4,zd,zr]
 try simp only [evs,tys]
 apply Imp.cnd
 ·exact zR
 ·refine Imp.op (f:=fun a => .int .u8 (a.toNat:Int)) (fun a h=>jJ h) (fun a=>rfl) fun y2 hy2 => ?_
  try simp only [evs,tys]
  refine zC rfl fun y4 _ => ?_
  try simp only [zes,evs,tys]
  apply Imp.cnd
  ·exact zR
  ·refine zL (aOW s) ?_
   rintro (p | p) vy25 hy25
   ·try simp only [aN,aO]
    obtain ⟨i_23,rfl⟩:=hy25
    refine zH ?_
    try simp only [evs,tys]
    exact zR
   ·try simp only [aN,aO]
    obtain ⟨i_24,rfl⟩:=hy25
    refine Imp.exMiss rfl ?_
    refine zH ?_
    try simp only [evs,tys]
    exact zR
theorem aUH {s:Str} {r:Bool} (h:aFX s=some r):aTM s=some r:=zV aD (aUG s) Tryz.func98 (aYp _ _ s) h
def aCx (O:Orc) (LP:LBs) (name:Str):Option (PV×UP) :=
 cnd (name==([73,110,116]:Str))
 (some ((.bool true),[]))
 (cnd (name==([83,116,114,105,110,103]:Str))
 (some ((.bool true),[]))
 (cnd (name==([66,111,111,108,101,97,110]:Str))
 (some ((.bool true),[]))
 (some ((.bool (name==([73,68]:Str))),[]))))
noncomputable def aAS (name:Str):Option Bool :=
 cnd (name==([73,110,116]:Str))
 (some true)
 (cnd (name==([83,116,114,105,110,103]:Str))
 (some true)
 (cnd (name==([66,111,111,108,101,97,110]:Str))
 (some true)
 (some (name==([73,68]:Str)))))
def aRS:Decs:={}
theorem aRT (O:Orc) (LP:LBs) (name:Str):eW 156 aRS Tryz.f156 O LP [(.str name)] []=aCx O LP name:=by kernel_rfl
theorem aOX (name:Str):Imp (aAS name) (aCx O aF name) (Ri aA):=by
 simp only [aAS,aCx,zd,zr]
 try simp only [evs,tys]
 apply Imp.cnd
 ·exact zR
 ·apply Imp.cnd
  ·exact zR
  ·apply Imp.cnd
   ·exact zR
   ·exact zR
theorem aOY {name:Str} {r:Bool} (h:aAS name=some r):aJ5 name=some r:=zV aD (aOX name) Tryz.func156 (aRT _ _ name) h
abbrev nY:List Sh:=[sf,.str,(.ptr 0 4 0),.bool,n6,.str,.str,n6,n6,.bool,n6,n6,.str,st',st']
def aER (O:Orc) (LP:LBs):bM:=fun s1 s1u=>cnd (chkL nY s1) (cnd (chkU [] s1u)
 (cnd (decide ((iv s1 4)<(List.length (ev s1 0):Int)))
 (bnd (ix 10 (zs s1 0) (zn s1 4)) fun x7=>cnd (chk (.ref mA) x7)
 (cnd ((sv (rf x7) 0)==(sv s1 1))
 (bnd (ix 10 (zs s1 0) (zn s1 4)) fun x9=>cnd (chk (.ref mA) x9)
 (some (.ret,[(zs s1 0),(zt s1 1),(.ptr 0 4 0),(.bool true),(zn s1 4),(zt (rf x9) 0),(zt (rf x9) 1),(zn (rf x9) 2),(zn (rf x9) 3),(zb (rf x9) 4),(zn (rf x9) 5),(zn (rf x9) 6),(zt (rf x9) 7),(zs (rf x9) 8),(zs (rf x9) 9)],[])) none)
 (some (.nrm,(pu (rb nY s1) 4 (i6 (w6 ((iv s1 4)+1)))),[]))) none)
 (some (.brk 0,(rb nY s1),[]))) none) none
def aES (O:Orc) (LP:LBs) (l0:List GParam) (name:Str):Option (PV×UP) :=
 bnd (LP (aER O LP) [(zq aX l0),(.str name),(.ptr 0 4 0),(.bool false),(i6 0),(.str []),(.str []),(i6 0),(i6 0),(.bool false),(i6 0),(i6 0),(.str []),(.slice [] [] true),(.slice [] [] true)] []) fun y23 =>
 exIs y23.1 (some 0) (cnd (chkL nY y23.2.1) (cnd (chkU [] y23.2.2)
 (some ((.tuple [(.agg [(.str []),(.str []),(i6 0),(i6 0),(.bool false),(i6 0),(i6 0),(.str []),(.slice [] [] false),(.slice [] [] false)]),(.bool false)]),[])) none) none)
 (exIs y23.1 none (cnd (chkL [sf,.str,(.ptr 0 4 0),.bool,n6,.str,.str,n6,n6,.bool,n6,n6,.str,sf,sf] y23.2.1) (cnd (chkU [] y23.2.2)
 (some ((.tuple [(.agg [(zt y23.2.1 5),(zt y23.2.1 6),(zn y23.2.1 7),(zn y23.2.1 8),(zb y23.2.1 9),(zn y23.2.1 10),(zn y23.2.1 11),(zt y23.2.1 12),(zs y23.2.1 13),(zs y23.2.1 14)]),(zb y23.2.1 3)]),[])) none) none)
 (none))
noncomputable def wR (l0:List GParam) (name:Str):Int→Option (Int⊕(Unit⊕(Str×Str×Int×Int×Bool×Int×Int×Str×(List GValue)×(List GMember))))
 | i_6 =>
 cnd (decide (i_6<(List.length l0:Int)))
  (bnd (nthI l0 i_6) fun y8 =>
  cnd (y8.name==name)
  (bnd (nthI l0 i_6) fun y10 =>
  some (.inr (.inr (y10.name,y10.t.name,y10.t.lists,y10.t.musts,y10.has,y10.default.kind,y10.default.n,y10.default.s,y10.default.l,y10.default.m))))
  (some (.inl (IntKind.wrap .i64 (i_6+1)))))
  (some (.inr (.inl ())))
abbrev aRU (l0:List GParam) (name:Str) (st:Int) (l:List PV) (u:UP):Prop:=l=[(zq aX l0),(.str name),(.ptr 0 4 0),(.bool false),(i6 st),(.str []),(.str []),(i6 0),(i6 0),(.bool false),(i6 0),(i6 0),(.str []),(.slice [] [] true),(.slice [] [] true)]∧u=[]
abbrev aRV (l0:List GParam) (name:Str) (p:Unit⊕(Str×Str×Int×Int×Bool×Int×Int×Str×(List GValue)×(List GMember))) (r:EU):Prop:=elim p (fun (p:Unit)=>∃ (i_11:Int),r=(Ex.brk 0,[(zq aX l0),(.str name),(.ptr 0 4 0),(.bool false),(i6 i_11),(.str []),(.str []),(i6 0),(i6 0),(.bool false),(i6 0),(i6 0),(.str []),(.slice [] [] true),(.slice [] [] true)],[])) (fun q2=>(fun (p:Str×Str×Int×Int×Bool×Int×Int×Str×(List GValue)×(List GMember))=>∃ (i_12:Int),r=(Ex.ret,[(zq aX l0),(.str name),(.ptr 0 4 0),(.bool true),(i6 i_12),(.str p.1),(.str p.2.1),(i6 p.2.2.1),(i6 p.2.2.2.1),(.bool p.2.2.2.2.1),(i6 p.2.2.2.2.2.1),(i6 p.2.2.2.2.2.2.1),(.str p.2.2.2.2.2.2.2.1),(zq aI p.2.2.2.2.2.2.2.2.1),(zq aE p.2.2.2.2.2.2.2.2.2)],[])) q2)
noncomputable def zY (l0:List GParam) (name:Str):Option (GParam×Bool) :=
 bnd (aY (wR l0 name) 0) fun e23_2=>elim e23_2
 (fun p23 =>
 some ((GParam.mk [] (GType.mk [] 0 0) false (GValue.mk 0 0 [] ([]:List GValue) ([]:List GMember))),false))
 (fun p23 =>
 some ((GParam.mk p23.1 (GType.mk p23.2.1 p23.2.2.1 p23.2.2.2.1) p23.2.2.2.2.1 (GValue.mk p23.2.2.2.2.2.1 p23.2.2.2.2.2.2.1 p23.2.2.2.2.2.2.2.1 p23.2.2.2.2.2.2.2.2.1 p23.2.2.2.2.2.2.2.2.2)),true))
def aUI:Decs:={decs:=[(15,(.ref mA)),(22,(.ref mA))],loops:=[(2,[(4,10)],⟨nY,[],[(some 0,nY,[]),(none,[sf,.str,(.ptr 0 4 0),.bool,n6,.str,.str,n6,n6,.bool,n6,n6,.str,sf,sf],[])]⟩)]}
theorem aUJ (O:Orc) (LP:LBs) (l0:List GParam) (name:Str):eW 193 aUI Tryz.f193 O LP [(zq aX l0),(.str name)] []=aES O LP l0 name:=by kernel_rfl
theorem aMf (l0:List GParam) (name:Str):Lok (aRU l0 name) (wR l0 name) (aER O aF) (aRV l0 name):=by
 rintro i_6 l u ⟨rfl,rfl⟩
 simp only [wR,aER,zd,zr]
 refine zG ?_
 try simp only [evs,tys]
 apply Imp.cnd
 ·refine zX aX qD fun y8 _ => ?_
  try simp only [evs,tys]
  apply Imp.cnd
  ·refine zX aX qD fun y10 _ => ?_
   try simp only [evs,tys]
   exact zT ⟨i_6,zE⟩
  ·exact zN
 ·exact zB ⟨i_6,zE⟩
theorem aRW (l0:List GParam) (name:Str):Imp (zY l0 name) (aES O aF l0 name) (Ri yU):=by
 simp only [zY,aES,zd,zr]
 try simp only [evs,tys]
 refine zL (aMf l0 name) ?_
 rintro (p | ⟨b_13,b_14,b_15,b_16,b_17,b_18,b_19,b_20,b_21,b_22⟩) vy23 hy23
 ·try simp only [aN,aO]
  obtain ⟨i_11,rfl⟩:=hy23
  refine zH ?_
  try simp only [evs,tys]
  exact zR
 ·try simp only [aN,aO]
  obtain ⟨i_12,rfl⟩:=hy23
  refine Imp.exMiss rfl ?_
  refine zH ?_
  try simp only [evs,tys]
  exact zR
theorem aRX {l0:List GParam} {name:Str} {r:GParam×Bool} (h:zY l0 name=some r):aOe l0 name=some r:=zV aXS (aRW l0 name) Tryz.func193 (aUJ _ _ l0 name) h
abbrev tV:List Sh:=[.str,sf,(.ptr 0 4 0),.bool,n6,n6,n6,.str,st',st']
def aKJ (O:Orc) (LP:LBs):bM:=fun s1 s1u=>cnd (chkL tV s1) (cnd (chkU [] s1u)
 (cnd (decide ((iv s1 4)<(List.length (ev s1 1):Int)))
 (bnd (ix 6 (zs s1 1) (zn s1 4)) fun x7=>cnd (chk (.ref dU) x7)
 (cnd ((sv (rf x7) 0)==(sv s1 0))
 (bnd (ix 6 (zs s1 1) (zn s1 4)) fun x9=>cnd (chk (.ref dU) x9)
 (some (.ret,[(zt s1 0),(zs s1 1),(.ptr 0 4 0),(.bool true),(zn s1 4),(zn (rf x9) 1),(zn (rf x9) 2),(zt (rf x9) 3),(zs (rf x9) 4),(zs (rf x9) 5)],[])) none)
 (some (.nrm,(pu (rb tV s1) 4 (i6 (w6 ((iv s1 4)+1)))),[]))) none)
 (some (.brk 0,(rb tV s1),[]))) none) none
def aKK (O:Orc) (LP:LBs) (name:Str) (l0:List GMember):Option (PV×UP) :=
 bnd (LP (aKJ O LP) [(.str name),(zq aE l0),(.ptr 0 4 0),(.bool false),(i6 0),(i6 0),(i6 0),(.str []),(.slice [] [] true),(.slice [] [] true)] []) fun y18 =>
 exIs y18.1 (some 0) (cnd (chkL tV y18.2.1) (cnd (chkU [] y18.2.2)
 (some ((.tuple [(.agg [(i6 0),(i6 0),(.str []),(.slice [] [] false),(.slice [] [] false)]),(.bool false)]),[])) none) none)
 (exIs y18.1 none (cnd (chkL [.str,sf,(.ptr 0 4 0),.bool,n6,n6,n6,.str,sf,sf] y18.2.1) (cnd (chkU [] y18.2.2)
 (some ((.tuple [(.agg [(zn y18.2.1 5),(zn y18.2.1 6),(zt y18.2.1 7),(zs y18.2.1 8),(zs y18.2.1 9)]),(zb y18.2.1 3)]),[])) none) none)
 (none))
noncomputable def tW (name:Str) (l0:List GMember):Int→Option (Int⊕(Unit⊕(Int×Int×Str×(List GValue)×(List GMember))))
 | i_6 =>
 cnd (decide (i_6<(List.length l0:Int)))
  (bnd (nthI l0 i_6) fun y8 =>
  cnd (y8.name==name)
  (bnd (nthI l0 i_6) fun y10 =>
  some (.inr (.inr (y10.v.kind,y10.v.n,y10.v.s,y10.v.l,y10.v.m))))
  (some (.inl (IntKind.wrap .i64 (i_6+1)))))
  (some (.inr (.inl ())))
abbrev aYq (name:Str) (l0:List GMember) (st:Int) (l:List PV) (u:UP):Prop:=l=[(.str name),(zq aE l0),(.ptr 0 4 0),(.bool false),(i6 st),(i6 0),(i6 0),(.str []),(.slice [] [] true),(.slice [] [] true)]∧u=[]
abbrev aYr (name:Str) (l0:List GMember) (p:Unit⊕(Int×Int×Str×(List GValue)×(List GMember))) (r:EU):Prop:=elim p (fun (p:Unit)=>∃ (i_11:Int),r=(Ex.brk 0,[(.str name),(zq aE l0),(.ptr 0 4 0),(.bool false),(i6 i_11),(i6 0),(i6 0),(.str []),(.slice [] [] true),(.slice [] [] true)],[])) (fun q2=>(fun (p:Int×Int×Str×(List GValue)×(List GMember))=>∃ (i_12:Int),r=(Ex.ret,[(.str name),(zq aE l0),(.ptr 0 4 0),(.bool true),(i6 i_12),(i6 p.1),(i6 p.2.1),(.str p.2.2.1),(zq aI p.2.2.2.1),(zq aE p.2.2.2.2)],[])) q2)
noncomputable def aFY (name:Str) (l0:List GMember):Option (GValue×Bool) :=
 bnd (aY (tW name l0) 0) fun e18_2=>elim e18_2
 (fun p18 =>
 some ((GValue.mk 0 0 [] ([]:List GValue) ([]:List GMember)),false))
 (fun p18 =>
 some ((GValue.mk p18.1 p18.2.1 p18.2.2.1 p18.2.2.2.1 p18.2.2.2.2),true))
def bAP:Decs:={decs:=[(15,(.ref dU)),(22,(.ref dU))],loops:=[(2,[(4,5)],⟨tV,[],[(some 0,tV,[]),(none,[.str,sf,(.ptr 0 4 0),.bool,n6,n6,n6,.str,sf,sf],[])]⟩)]}
theorem bAQ (O:Orc) (LP:LBs) (name:Str) (l0:List GMember):eW 219 bAP Tryz.f219 O LP [(.str name),(zq aE l0)] []=aKK O LP name l0:=by kernel_rfl
theorem aRY (name:Str) (l0:List GMember):Lok (aYq name l0) (tW name l0) (aKJ O aF) (aYr name l0):=by
 rintro i_6 l u ⟨rfl,rfl⟩
 simp only [tW,aKJ,zd,zr]
 refine zG ?_
 try simp only [evs,tys]
 apply Imp.cnd
 ·refine zX aE fY fun y8 _ => ?_
  try simp only [evs,tys]
  apply Imp.cnd
  ·refine zX aE fY fun y10 _ => ?_
   try simp only [evs,tys]
   exact zT ⟨i_6,zE⟩
  ·exact zN
 ·exact zB ⟨i_6,zE⟩
theorem aYs (name:Str) (l0:List GMember):Imp (aFY name l0) (aKK O aF name l0) (Ri aGJ):=by
 simp only [aFY,aKK,zd,zr]
 try simp only [evs,tys]
 refine zL (aRY name l0) ?_
 rintro (p | ⟨b_13,b_14,b_15,b_16,b_17⟩) vy18 hy18
 ·try simp only [aN,aO]
  obtain ⟨i_11,rfl⟩:=hy18
  refine zH ?_
  try simp only [evs,tys]
  exact zR
 ·try simp only [aN,aO]
  obtain ⟨i_12,rfl⟩:=hy18
  refine Imp.exMiss rfl ?_
  refine zH ?_
  try simp only [evs,tys]
  exact zR
theorem aM9 {name:Str} {l0:List GMember} {r:GValue×Bool} (h:aFY name l0=some r):aWs name l0=some r:=zV bB6 (aYs name l0) Tryz.func219 (bAQ _ _ name l0) h
def aOZ (O:Orc) (LP:LBs) (t:GType):Option (PV×UP) :=
 aQ O 101 [(eT t)] fun x1=>cnd (chk .bool x1)
 (cnd (bC x1)
 (some ((.bool ((bits .and .i64 t.musts 1)==1)),[]))
 (some ((.bool false),[]))) none
noncomputable def aO0 (t:GType):Option Bool :=
 bnd (rO t) fun y2 =>
 cnd y2
 (some ((bits .and .i64 t.musts 1)==1))
 (some false)
def bCl:Decs:={decs:=[(4,.bool)]}
theorem bCm (O:Orc) (LP:LBs) (t:GType):eW 195 bCl Tryz.f195 O LP [(eT t)] []=aOZ O LP t:=by kernel_rfl
theorem bAR (t:GType):Imp (aO0 t) (aOZ O aF t) (Ri aA):=by
 simp only [aO0,aOZ,zd,zr]
 try simp only [evs,tys]
 refine zC rfl fun y2 _ => ?_
 try simp only [zes,evs,tys]
 apply Imp.cnd
 ·exact zR
 ·exact zR
theorem bAS {t:GType} {r:Bool} (h:aO0 t=some r):bEf t=some r:=zV aD (bAR t) Tryz.func195 (bCm _ _ t) h
def aET (O:Orc) (LP:LBs) (c:Int):Option (PV×UP) :=
 cnd (decide (c≥48))
 (some ((.bool (decide (c≤57))),[]))
 (some ((.bool false),[]))
noncomputable def aDg (c:Int):Option Bool :=
 cnd (decide (c≥48))
 (some (decide (c≤57)))
 (some false)
def aUK:Decs:={}
theorem aUL (O:Orc) (LP:LBs) (c:Int):eW 170 aUK Tryz.f170 O LP [(.int .u8 c)] []=aET O LP c:=by kernel_rfl
theorem aRZ (c:Int):Imp (aDg c) (aET O aF c) (Ri aA):=by
 simp only [aDg,aET,zd,zr]
 try simp only [evs,tys]
 apply Imp.cnd
 ·exact zR
 ·exact zR
theorem aR0 {c:Int} {r:Bool} (h:aDg c=some r):aI1 c=some r:=zV aD (aRZ c) Tryz.func170 (aUL _ _ c) h
abbrev uW:List Sh:=[(.vec 1),sf,n6,n6,sf,n6,n6,.str,n6,n6,.str,sf,sf]
def aG5 (O:Orc) (LP:LBs):bM:=fun s26 s26u=>cnd (chkL uW s26) (cnd (chkU [] s26u)
 (cnd (decide ((iv s26 6)<(iv s26 5)))
 (bnd (ix 1 (zs s26 4) (zn s26 6)) fun x33=>cnd (chk (.ref .str) x33)
 (aQ O 208 [(.vec 1 (vecV (gt s26 0))),(.str (strV (refV x33)))] fun x35=>cnd (chk (.vec 1) x35)
 (some (.nrm,(pu (pu (rb uW s26) 0 (.vec 1 (vecV x35))) 6 (i6 (w6 ((iv s26 6)+1)))),[])) none) none)
 (some (.brk 2,(pu (rb uW s26) 0 (.vec 1 (vecV (gt s26 0)))),[]))) none) none
abbrev uX:List Sh:=[(.vec 1),sf,n6,n6]
def aG6 (O:Orc) (LP:LBs):bM:=fun s1 s1u=>cnd (chkL uX s1) (cnd (chkU [] s1u)
 (cnd (decide ((iv s1 3)<(iv s1 2)))
 (bnd (ix 6 (zs s1 1) (zn s1 3)) fun x22=>cnd (chk (.ref dU) x22)
 (aQ O 207 [(.agg [(zn (rf x22) 1),(zn (rf x22) 2),(zt (rf x22) 3),(zs (rf x22) 4),(zs (rf x22) 5)])] fun x24=>cnd (chk sf x24)
 (bnd (LP (aG5 O LP) [(.vec 1 (vecV (gt s1 0))),(zs s1 1),(zn s1 2),(zn s1 3),(.slice (esV x24) [] false),(i6 (List.length (esV x24):Int)),(i6 0),(zt (rf x22) 0),(zn (rf x22) 1),(zn (rf x22) 2),(zt (rf x22) 3),(zs (rf x22) 4),(zs (rf x22) 5)] []) fun y39 =>
 exIs y39.1 (some 2) (cnd (chkL [(.vec 1),sf,n6,n6,sf,n6,n6,.str,n6,n6,.str,sf,sf] y39.2.1) (cnd (chkU [] y39.2.2)
 (some (.nrm,[(.vec 1 (vecV (gt y39.2.1 0))),(zs y39.2.1 1),(zn y39.2.1 2),(i6 (w6 ((iv y39.2.1 3)+1)))],[])) none) none)
 (none)) none) none)
 (some (.brk 0,(pu (rb uX s1) 0 (.vec 1 (vecV (gt s1 0)))),[]))) none) none
def aG7 (O:Orc) (LP:LBs) (l0:List Str) (args:List GMember):Option (PV×UP) :=
 bnd (LP (aG6 O LP) [(.vec 1 (List.map PV.str l0)),(zq aE args),(i6 (List.length (List.map aE args):Int)),(i6 0)] []) fun y42 =>
 exIs y42.1 (some 0) (cnd (chkL uX y42.2.1) (cnd (chkU [] y42.2.2)
 (some ((.vec 1 (vecV (gt y42.2.1 0))),[])) none) none)
 (none)
noncomputable def nE (y25:List Str):((List Str)×Int)→Option (((List Str)×Int)⊕((List Str)))
 | (l_31,t_32) =>
 cnd (decide (t_32<(List.length y25:Int)))
  (bnd (nthI y25 t_32) fun y34 =>
  bnd (aEh l_31 y34) fun y36 =>
  some (.inl (y36,(IntKind.wrap .i64 (t_32+1)))))
  (some (.inr l_31))
abbrev aKL (args:List GMember) (t_21:Int) (y23:GMember) (y25:List Str) (a0 a1:PV):List PV:=[a0,(zq aE args),(i6 (List.length args:Int)),(i6 t_21),(zq PV.str y25),(i6 (List.length y25:Int)),a1,(.str y23.name),(i6 y23.v.kind),(i6 y23.v.n),(.str y23.v.s),(zq aI y23.v.l),(zq aE y23.v.m)]
abbrev aKM (args:List GMember) (t_21:Int) (y23:GMember) (y25:List Str) (st:(List Str)×Int) (l:List PV) (u:UP):Prop:=l=(aKL args t_21 y23 y25 (.vec 1 (List.map PV.str st.1)) (i6 st.2))∧u=[]
abbrev aUM (args:List GMember) (t_21:Int) (y23:GMember) (y25:List Str) (p:(List Str)) (r:EU):Prop:=∃ (t_38:Int),r=(Ex.brk 2,(aKL args t_21 y23 y25 (.vec 1 (List.map PV.str p)) (i6 t_38)),[])
noncomputable def qN (args:List GMember):((List Str)×Int)→Option (((List Str)×Int)⊕((List Str)))
 | (l_20,t_21) =>
 cnd (decide (t_21<(List.length args:Int)))
  (bnd (nthI args t_21) fun y23 =>
  bnd (aGM y23.v) fun y25 =>
  bnd (aY (nE y25) (l_20,0)) fun l_37 =>
  some (.inl (l_37,(IntKind.wrap .i64 (t_21+1)))))
  (some (.inr l_20))
abbrev aUN (args:List GMember) (st:(List Str)×Int) (l:List PV) (u:UP):Prop:=l=[(.vec 1 (List.map PV.str st.1)),(zq aE args),(i6 (List.length args:Int)),(i6 st.2)]∧u=[]
abbrev aUO (args:List GMember) (p:(List Str)) (r:EU):Prop:=(fun (p:(List Str))=>∃ (t_41:Int),r=(Ex.brk 0,[(.vec 1 (List.map PV.str p)),(zq aE args),(i6 (List.length args:Int)),(i6 t_41)],[])) p
noncomputable def aFZ (l0:List Str) (args:List GMember):Option (List Str) :=
 bnd (aY (qN args) (l0,0)) fun l_40 =>
 some l_40
def aYt:Decs:={decs:=[(13,(.ref dU)),(17,sf),(21,(.ref .str)),(25,(.vec 1))],loops:=[(2,[],⟨uX,[],[(some 0,uX,[])]⟩),(5,[(6,6)],⟨uW,[],[(some 2,uW,[])]⟩)]}
theorem aYu (O:Orc) (LP:LBs) (l0:List Str) (args:List GMember):eW 151 aYt Tryz.f151 O LP [(.vec 1 (List.map PV.str l0)),(zq aE args)] []=aG7 O LP l0 args:=by kernel_rfl
theorem aO1 (args:List GMember) (t_21:Int) (y23:GMember) (y25:List Str):∀ st l u,aKM args t_21 y23 y25 st l u→Imp (nE y25 st) (aG5 O aF l u) (oE (aKM args t_21 y23 y25) (aUM args t_21 y23 y25)):=by
 rintro ⟨l_31,t_32⟩ l u ⟨rfl,rfl⟩
 simp only [nE,aG5,zd,zr]
 refine zG ?_
 try simp only [evs,tys]
 apply Imp.cnd
 ·refine zX PV.str (fun _=>rfl) fun y34 _ => ?_
  try simp only [evs,tys]
  refine zC rfl fun y36 _ => ?_
  try simp only [zes,evs,tys]
  exact zN
 ·exact zB ⟨t_32,zE⟩
theorem aO2 (args:List GMember):Lok (aUN args) (qN args) (aG6 O aF) (aUO args):=by
 rintro ⟨l_20,t_21⟩ l u ⟨rfl,rfl⟩
 simp only [qN,aG6,zd,zr]
 refine zG ?_
 try simp only [evs,tys]
 apply Imp.cnd
 ·refine zX aE fY fun y23 _ => ?_
  try simp only [evs,tys]
  refine zC rfl fun y25 _ => ?_
  try simp only [zes,evs,tys]
  refine zL (aO1 args t_21 y23 y25) ?_
  rintro l_37 _ ⟨t_38,rfl⟩
  refine zH ?_
  try simp only [evs,tys]
  exact zN
 ·exact zB ⟨t_21,zE⟩
theorem aUP (l0:List Str) (args:List GMember):Imp (aFZ l0 args) (aG7 O aF l0 args) (Ri eF):=by
 simp only [aFZ,aG7,zd,zr]
 try simp only [evs,tys]
 refine zL (aO2 args) ?_
 rintro l_40 _ ⟨t_41,rfl⟩
 refine zH ?_
 try simp only [evs,tys]
 exact zR
theorem aUQ {l0:List Str} {args:List GMember} {r:List Str} (h:aFZ l0 args=some r):aGK l0 args=some r:=zV qU (aUP l0 args) Tryz.func151 (aYu _ _ l0 args) h
abbrev gB:List Sh:=[(.vec 1),(.ptr 0 6 0),sf,n6,n6,sf,n6,n6,n6,.str,.str,sf,sf,.str,sf]
def oY (O:Orc) (LP:LBs):bM:=fun s28 s28u=>cnd (chkL gB s28) (cnd (chkU [] s28u)
 (cnd (decide ((iv s28 7)<(iv s28 6)))
 (bnd (ix 2 (zs s28 5) (zn s28 7)) fun x35=>cnd (chk (.ref aQL) x35)
 (aQ O 151 [(.vec 1 (vecV (gt s28 0))),(zs (rf x35) 1)] fun x37=>cnd (chk (.vec 1) x37)
 (some (.nrm,(pu (pu (rb gB s28) 0 (.vec 1 (vecV x37))) 7 (i6 (w6 ((iv s28 7)+1)))),[])) none) none)
 (some (.brk 2,(pu (rb gB s28) 0 (.vec 1 (vecV (gt s28 0)))),[]))) none) none
def oZ (O:Orc) (LP:LBs):bM:=fun s1 s1u=>cnd (chkL [(.vec 1),sf,n6,n6] s1) (cnd (chkU [] s1u)
 (cnd (decide ((iv s1 3)<(iv s1 2)))
 (bnd (ix 7 (zs s1 1) (zn s1 3)) fun x24=>cnd (chk (.ref mG) x24)
 (aQ O 151 [(.vec 1 (vecV (gt s1 0))),(zs (rf x24) 3)] fun x26=>cnd (chk (.vec 1) x26)
 (bnd (LP (oY O LP) [(.vec 1 (vecV x26)),(.ptr 0 6 0),(zs s1 1),(zn s1 2),(zn s1 3),(zs (rf x24) 4),(i6 (List.length (ev (rf x24) 4):Int)),(i6 0),(zn (rf x24) 0),(zt (rf x24) 1),(zt (rf x24) 2),(zs (rf x24) 3),(zs (rf x24) 4),(zt (rf x24) 5),(zs (rf x24) 6)] []) fun y41 =>
 exIs y41.1 (some 2) (cnd (chkL [(.vec 1),(.ptr 0 6 0),sf,n6,n6,sf,n6,n6,n6,.str,.str,sf,sf,.str,sf] y41.2.1) (cnd (chkU [] y41.2.2)
 (aQ O 80 [(.vec 1 (vecV (gt y41.2.1 0))),(zs y41.2.1 14)] fun x42=>cnd (chk (.vec 1) x42)
 (some (.nrm,[(.vec 1 (vecV x42)),(zs y41.2.1 2),(zn y41.2.1 3),(i6 (w6 ((iv y41.2.1 4)+1)))],[])) none) none) none)
 (none)) none) none)
 (some (.brk 0,[(.vec 1 (vecV (gt s1 0))),(zs s1 1),(zn s1 2),(zn s1 3)],[]))) none) none
def pA (O:Orc) (LP:LBs) (l0:List Str) (sels:List GSel):Option (PV×UP) :=
 bnd (LP (oZ O LP) [(.vec 1 (List.map PV.str l0)),(zq aG sels),(i6 (List.length (List.map aG sels):Int)),(i6 0)] []) fun y46 =>
 exIs y46.1 (some 0) (cnd (chkL [(.vec 1),sf,n6,n6] y46.2.1) (cnd (chkU [] y46.2.2)
 (some ((.vec 1 (vecV (gt y46.2.1 0))),[])) none) none)
 (none)
noncomputable def eA (y25:GSel):((List Str)×Int)→Option (((List Str)×Int)⊕((List Str)))
 | (l_33,t_34) =>
 cnd (decide (t_34<(List.length y25.dirs:Int)))
  (bnd (nthI y25.dirs t_34) fun y36 =>
  bnd (aGK l_33 y36.args) fun y38 =>
  some (.inl (y38,(IntKind.wrap .i64 (t_34+1)))))
  (some (.inr l_33))
abbrev uY (sels:List GSel) (t_23:Int) (y25:GSel) (a0 a1:PV):List PV:=[a0,(.ptr 0 6 0),(zq aG sels),(i6 (List.length sels:Int)),(i6 t_23),(zq aK y25.dirs),(i6 (List.length y25.dirs:Int)),a1,(i6 y25.kind),(.str y25.alias),(.str y25.name),(zq aE y25.args),(zq aK y25.dirs),(.str y25.on_),(zq aG y25.sels)]
abbrev uZ (sels:List GSel) (t_23:Int) (y25:GSel) (st:(List Str)×Int) (l:List PV) (u:UP):Prop:=l=(uY sels t_23 y25 (.vec 1 (List.map PV.str st.1)) (i6 st.2))∧u=[]
abbrev aEU (sels:List GSel) (t_23:Int) (y25:GSel) (p:(List Str)) (r:EU):Prop:=∃ (t_40:Int),r=(Ex.brk 2,(uY sels t_23 y25 (.vec 1 (List.map PV.str p)) (i6 t_40)),[])
noncomputable def dA (sels:List GSel):((List Str)×Int)→Option (((List Str)×Int)⊕((List Str)))
 | (l_22,t_23) =>
 cnd (decide (t_23<(List.length sels:Int)))
  (bnd (nthI sels t_23) fun y25 =>
  bnd (aGK l_22 y25.args) fun y27 =>
  bnd (aY (eA y25) (y27,0)) fun l_39 =>
  bnd (iO l_39 y25.sels) fun y43 =>
  some (.inl (y43,(IntKind.wrap .i64 (t_23+1)))))
  (some (.inr l_22))
abbrev aEV (sels:List GSel) (st:(List Str)×Int) (l:List PV) (u:UP):Prop:=l=[(.vec 1 (List.map PV.str st.1)),(zq aG sels),(i6 (List.length sels:Int)),(i6 st.2)]∧u=[]
abbrev aEW (sels:List GSel) (p:(List Str)) (r:EU):Prop:=(fun (p:(List Str))=>∃ (t_45:Int),r=(Ex.brk 0,[(.vec 1 (List.map PV.str p)),(zq aG sels),(i6 (List.length sels:Int)),(i6 t_45)],[])) p
noncomputable def iR (l0:List Str) (sels:List GSel):Option (List Str) :=
 bnd (aY (dA sels) (l0,0)) fun l_44 =>
 some l_44
def aF0:Decs:={decs:=[(13,(.ref mG)),(18,(.vec 1)),(24,(.ref aQL)),(29,(.vec 1)),(34,(.vec 1))],loops:=[(2,[],⟨[(.vec 1),sf,n6,n6],[],[(some 0,[(.vec 1),sf,n6,n6],[])]⟩),(6,[(6,7)],⟨gB,[],[(some 2,gB,[])]⟩)]}
theorem aF1 (O:Orc) (LP:LBs) (l0:List Str) (sels:List GSel):eW 80 aF0 Tryz.f80 O LP [(.vec 1 (List.map PV.str l0)),(zq aG sels)] []=pA O LP l0 sels:=by kernel_rfl
theorem aCy (sels:List GSel) (t_23:Int) (y25:GSel):∀ st l u,uZ sels t_23 y25 st l u→Imp (eA y25 st) (oY O aF l u) (oE (uZ sels t_23 y25) (aEU sels t_23 y25)):=by
 rintro ⟨l_33,t_34⟩ l u ⟨rfl,rfl⟩
 simp only [eA,oY,zd,zr]
 refine zG ?_
 try simp only [evs,tys]
 apply Imp.cnd
 ·refine zX aK aIX fun y36 _ => ?_
  try simp only [evs,tys]
  refine zC rfl fun y38 _ => ?_
  try simp only [zes,evs,tys]
  exact zN
 ·exact zB ⟨t_34,zE⟩
theorem aCz (sels:List GSel):Lok (aEV sels) (dA sels) (oZ O aF) (aEW sels):=by
 rintro ⟨l_22,t_23⟩ l u ⟨rfl,rfl⟩
 simp only [dA,oZ,zd,zr]
 refine zG ?_
 try simp only [evs,tys]
 apply Imp.cnd
 ·refine zX aG gU fun y25 _ => ?_
  try simp only [evs,tys]
  refine zC rfl fun y27 _ => ?_
  try simp only [zes,evs,tys]
  refine zL (aCy sels t_23 y25) ?_
  rintro l_39 _ ⟨t_40,rfl⟩
  refine zH ?_
  try simp only [evs,tys]
  refine zC rfl fun y43 _ => ?_
  try simp only [zes,evs,tys]
  exact zN
 ·exact zB ⟨t_23,zE⟩
theorem aEX (l0:List Str) (sels:List GSel):Imp (iR l0 sels) (pA O aF l0 sels) (Ri eF):=by
 simp only [iR,pA,zd,zr]
 try simp only [evs,tys]
 refine zL (aCz sels) ?_
 rintro l_44 _ ⟨t_45,rfl⟩
 refine zH ?_
 try simp only [evs,tys]
 exact zR
theorem vA {l0:List Str} {sels:List GSel} {r:List Str} (h:iR l0 sels=some r):iO l0 sels=some r:=zV qU (aEX l0 sels) Tryz.func80 (aF1 _ _ l0 sels) h
abbrev eP:List Sh:=[sf,st',sf,n6,n6,sf,sf]
def xW (O:Orc) (LP:LBs):bM:=fun s3 s3u=>cnd (chkL eP s3) (cnd (chkU [] s3u)
 (cnd (decide ((iv s3 4)<(iv s3 3)))
 (bnd (ix 4 (zs s3 2) (zn s3 4)) fun x14=>cnd (chk (.ref gH) x14)
 (aQ O 136 [(zs s3 0),(zt (rf x14) 0)] fun x16=>cnd (chk .bool x16)
 (cnd (bC x16)
 (aQ O 136 [(zs s3 1),(zt (rf x14) 0)] fun x18=>cnd (chk .bool x18)
 (cnd (!(bC x18))
 (bnd (apd 1 (zo s3 1) (.slice [(zt (rf x14) 0)] [] true)) fun x20=>cnd (chk st' x20)
 (some (.nrm,(pu (pu (rb eP s3) 1 (.slice (esV x20) [] true)) 4 (i6 (w6 ((iv s3 4)+1)))),[])) none)
 (some (.nrm,(pu (rb eP s3) 4 (i6 (w6 ((iv s3 4)+1)))),[]))) none)
 (some (.nrm,(pu (rb eP s3) 4 (i6 (w6 ((iv s3 4)+1)))),[]))) none) none)
 (some (.brk 0,(rb eP s3),[]))) none) none
def xX (O:Orc) (LP:LBs) (d:GDoc) (l0:List GSel):Option (PV×UP) :=
 aQ O 152 [(eD d),(zq aG l0)] fun x1=>cnd (chk sf x1)
 (bnd (LP (xW O LP) [(.slice (esV x1) [] false),(.slice [] [] true),(zq aH d.frags),(i6 (List.length (List.map aH d.frags):Int)),(i6 0),(zq aT d.ops),(zq aH d.frags)] []) fun y24 =>
 exIs y24.1 (some 0) (cnd (chkL eP y24.2.1) (cnd (chkU [] y24.2.2)
 (some ((zs y24.2.1 1),[])) none) none)
 (none)) none
noncomputable def iS (d:GDoc) (y2:List Str):((List Str)×Int)→Option (((List Str)×Int)⊕((List Str)))
 | (out_12,t_13) =>
 cnd (decide (t_13<(List.length d.frags:Int)))
  (bnd (nthI d.frags t_13) fun y15 =>
  bnd (bL y2 y15.name) fun y17 =>
  cnd y17
  (bnd (bL out_12 y15.name) fun y19 =>
  cnd (!y19)
   (bnd (tapp out_12 [y15.name]) fun y21 =>
   some (.inl (y21,(IntKind.wrap .i64 (t_13+1)))))
   (some (.inl (out_12,(IntKind.wrap .i64 (t_13+1))))))
  (some (.inl (out_12,(IntKind.wrap .i64 (t_13+1))))))
  (some (.inr out_12))
abbrev aCA (d:GDoc) (y2:List Str) (a0 a1:PV):List PV:=[(zq PV.str y2),a0,(zq aH d.frags),(i6 (List.length d.frags:Int)),a1,(zq aT d.ops),(zq aH d.frags)]
abbrev aKN (d:GDoc) (y2:List Str) (st:(List Str)×Int) (l:List PV) (u:UP):Prop:=l=(aCA d y2 (zp PV.str st.1) (i6 st.2))∧u=[]
abbrev aKO (d:GDoc) (y2:List Str) (p:(List Str)) (r:EU):Prop:=∃ (t_23:Int),r=(Ex.brk 0,(aCA d y2 (zp PV.str p) (i6 t_23)),[])
noncomputable def tL (d:GDoc) (l0:List GSel):Option (List Str) :=
 bnd (aAz d l0) fun y2 =>
 bnd (aY (iS d y2) ([],0)) fun out_22 =>
 some out_22
def aMg:Decs:={decs:=[(11,sf),(17,(.ref gH)),(22,.bool),(27,.bool),(34,st')],loops:=[(4,[(2,2)],⟨eP,[],[(some 0,eP,[])]⟩)]}
theorem aMh (O:Orc) (LP:LBs) (d:GDoc) (l0:List GSel):eW 81 aMg Tryz.f81 O LP [(eD d),(zq aG l0)] []=xX O LP d l0:=by kernel_rfl
theorem aG8 (d:GDoc) (y2:List Str):Lok (aKN d y2) (iS d y2) (xW O aF) (aKO d y2):=by
 rintro ⟨out_12,t_13⟩ l u ⟨rfl,rfl⟩
 simp only [iS,xW,zd,zr]
 refine zG ?_
 try simp only [evs,tys]
 apply Imp.cnd
 ·refine zX aH kU fun y15 _ => ?_
  try simp only [evs,tys]
  refine zC rfl fun y17 _ => ?_
  try simp only [zes,evs,tys]
  apply Imp.cnd
  ·refine zC rfl fun y19 _ => ?_
   try simp only [zes,evs,tys]
   apply Imp.cnd
   ·refine Imp.op (f:=fun a => .slice (List.map PV.str a) [] true) (fun a h=>aBg (enc:=PV.str) zI zI (fun a=>by first | rfl | simp only [evs,tys,evc]) h) (fun a=>rfl) fun y21 hy21 => ?_
    try simp only [evs,tys]
    exact zN
   ·exact zN
  ·exact zN
 ·exact zB ⟨t_13,zE⟩
theorem aKP (d:GDoc) (l0:List GSel):Imp (tL d l0) (xX O aF d l0) (Ri cO):=by
 simp only [tL,xX,zd,zr]
 try simp only [evs,tys]
 refine zC rfl fun y2 _ => ?_
 try simp only [zes,evs,tys]
 refine zL (aG8 d y2) ?_
 rintro out_22 _ ⟨t_23,rfl⟩
 refine zH ?_
 try simp only [evs,tys]
 exact zR
theorem aKQ {d:GDoc} {l0:List GSel} {r:List Str} (h:tL d l0=some r):aAy d l0=some r:=zV lO (aKP d l0) Tryz.func81 (aMh _ _ d l0) h
def vB (O:Orc) (LP:LBs) (f:GFrag) (u0_4:Str) (u0_40:Str) (u0_3:Str) (u0_2:GDoc):Option (PV×UP) :=
 some ((.bool (f.name==u0_3)),[[(4,[(.str u0_4),(.str u0_40),(.slice [] [] true),(.slice [] [] true)]),(3,[(.str u0_3)]),(2,[(zq aT u0_2.ops),(zq aH u0_2.frags)])]])
noncomputable def xY (f:GFrag) (u0_4:Str) (u0_40:Str) (u0_3:Str) (u0_2:GDoc):Option Bool :=
 some (f.name==u0_3)
def aKR:Decs:={}
theorem aKS (O:Orc) (LP:LBs) (f:GFrag) (u0_4:Str) (u0_40:Str) (u0_3:Str) (u0_2:GDoc):eW 154 aKR Tryz.f154 O LP [(.agg [(.str f.name),(.str f.on_),(zq aK f.dirs),(zq aG f.sels)]),(.ptr 1 3 0)] [[(4,[(.str u0_4),(.str u0_40),(.slice [] [] true),(.slice [] [] true)]),(3,[(.str u0_3)]),(2,[(zq aT u0_2.ops),(zq aH u0_2.frags)])]]=vB O LP f u0_4 u0_40 u0_3 u0_2:=by kernel_rfl
theorem aIu (f:GFrag) (u0_4:Str) (u0_40:Str) (u0_3:Str) (u0_2:GDoc):Imp (xY f u0_4 u0_40 u0_3 u0_2) (vB O aF f u0_4 u0_40 u0_3 u0_2) (fun r v=>v=(aA r,(jN f u0_4 u0_40 u0_3 u0_2 r))):=by
 simp only [xY,vB,zd,zr]
 try simp only [evs,tys]
 exact Imp.some (by first | rfl | simp only [zes,jN,evs,tys,evl])
theorem aIv {f:GFrag} {u0_4:Str} {u0_40:Str} {u0_3:Str} {u0_2:GDoc} {r:Bool} (h:xY f u0_4 u0_40 u0_3 u0_2=some r):aB8 f u0_4 u0_40 u0_3 u0_2=some r:=zV aD (aIu f u0_4 u0_40 u0_3 u0_2) Tryz.func154 (aKS _ _ f u0_4 u0_40 u0_3 u0_2) h
abbrev nF:List Sh:=[sf,(.func 154 [] [(.ptr 1 3 0)]),n6,n6,n6]
def aG9 (O:Orc) (LP:LBs):bM:=fun s1 s1u=>cnd (chkL nF s1) (cnd (chkU [[(4,[.str,.str,st',st']),(3,[.str]),(2,[sf,sf])]] s1u)
 (cnd (decide ((iv s1 4)<(iv s1 3)))
 (bnd (ix 4 (zs s1 0) (zn s1 4)) fun x7=>cnd (chk (.ref gH) x7)
 (bnd (O 154 [(.agg [(zt (rf x7) 0),(zt (rf x7) 1),(zs (rf x7) 2),(zs (rf x7) 3)]),(.ptr 2 3 0)] [[],[(4,[(zt (bx s1u 0 0) 0),(zt (bx s1u 0 0) 1),(zo (bx s1u 0 0) 2),(zo (bx s1u 0 0) 3)]),(3,[(zt (bx s1u 0 1) 0)]),(2,[(zs (bx s1u 0 2) 0),(zs (bx s1u 0 2) 1)])]]) fun x9=>cnd (chkU [[],[(4,[.str,.str,st',st']),(3,[.str]),(2,[sf,sf])]] x9.2) (cnd (chk .bool x9.1)
 (cnd (bC x9.1)
 (some (.ret,[(zs s1 0),(.func (.func 154) [] [(.ptr 1 3 0)]),(zn s1 4),(zn s1 3),(zn s1 4)],[[(4,[(zt (bx x9.2 1 0) 0),(zt (bx x9.2 1 0) 1),(zo (bx x9.2 1 0) 2),(zo (bx x9.2 1 0) 3)]),(3,[(zt (bx x9.2 1 1) 0)]),(2,[(zs (bx x9.2 1 2) 0),(zs (bx x9.2 1 2) 1)])]]))
 (some (.nrm,[(zs s1 0),(.func (.func 154) [] [(.ptr 1 3 0)]),(zn s1 2),(zn s1 3),(i6 (w6 ((iv s1 4)+1)))],[[(4,[(zt (bx x9.2 1 0) 0),(zt (bx x9.2 1 0) 1),(zo (bx x9.2 1 0) 2),(zo (bx x9.2 1 0) 3)]),(3,[(zt (bx x9.2 1 1) 0)]),(2,[(zs (bx x9.2 1 2) 0),(zs (bx x9.2 1 2) 1)])]]))) none) none) none)
 (some (.brk 0,(pu (rb nF s1) 1 (.func (.func 154) [] [(.ptr 1 3 0)])),[[(4,[(zt (bx s1u 0 0) 0),(zt (bx s1u 0 0) 1),(zo (bx s1u 0 0) 2),(zo (bx s1u 0 0) 3)]),(3,[(zt (bx s1u 0 1) 0)]),(2,[(zs (bx s1u 0 2) 0),(zs (bx s1u 0 2) 1)])]]))) none) none
def aHa (O:Orc) (LP:LBs) (s:List GFrag) (u0_4:Str) (u0_40:Str) (u0_3:Str) (u0_2:GDoc):Option (PV×UP) :=
 bnd (LP (aG9 O LP) [(zq aH s),(.func (.func 154) [] [(.ptr 1 3 0)]),(i6 0),(i6 (List.length (List.map aH s):Int)),(i6 0)] [[(4,[(.str u0_4),(.str u0_40),(.slice [] [] true),(.slice [] [] true)]),(3,[(.str u0_3)]),(2,[(zq aT u0_2.ops),(zq aH u0_2.frags)])]]) fun y14 =>
 exIs y14.1 (some 0) (cnd (chkL nF y14.2.1) (cnd (chkU [[(4,[.str,.str,st',st']),(3,[.str]),(2,[sf,sf])]] y14.2.2)
 (some ((i6 (-1)),[[(4,[(zt (bx y14.2.2 0 0) 0),(zt (bx y14.2.2 0 0) 1),(zo (bx y14.2.2 0 0) 2),(zo (bx y14.2.2 0 0) 3)]),(3,[(zt (bx y14.2.2 0 1) 0)]),(2,[(zs (bx y14.2.2 0 2) 0),(zs (bx y14.2.2 0 2) 1)])]])) none) none)
 (exIs y14.1 none (cnd (chkL nF y14.2.1) (cnd (chkU [[(4,[.str,.str,st',st']),(3,[.str]),(2,[sf,sf])]] y14.2.2)
 (some ((zn y14.2.1 2),[[(4,[(zt (bx y14.2.2 0 0) 0),(zt (bx y14.2.2 0 0) 1),(zo (bx y14.2.2 0 0) 2),(zo (bx y14.2.2 0 0) 3)]),(3,[(zt (bx y14.2.2 0 1) 0)]),(2,[(zs (bx y14.2.2 0 2) 0),(zs (bx y14.2.2 0 2) 1)])]])) none) none)
 (none))
noncomputable def qO (s:List GFrag) (u0_4:Str) (u0_40:Str) (u0_3:Str) (u0_2:GDoc):Int→Option (Int⊕(Unit⊕Int))
 | t_6 =>
 cnd (decide (t_6<(List.length s:Int)))
  (bnd (nthI s t_6) fun y8 =>
  bnd (aB8 y8 u0_4 u0_40 u0_3 u0_2) fun y10 =>
  cnd y10
  (some (.inr (.inr t_6)))
  (some (.inl (IntKind.wrap .i64 (t_6+1)))))
  (some (.inr (.inl ())))
abbrev aUR (s:List GFrag) (u0_4:Str) (u0_40:Str) (u0_3:Str) (u0_2:GDoc) (st:Int) (l:List PV) (u:UP):Prop:=l=[(zq aH s),(.func (.func 154) [] [(.ptr 1 3 0)]),(i6 0),(i6 (List.length s:Int)),(i6 st)]∧u=[[(4,[(.str u0_4),(.str u0_40),(.slice [] [] true),(.slice [] [] true)]),(3,[(.str u0_3)]),(2,[(zq aT u0_2.ops),(zq aH u0_2.frags)])]]
abbrev aUS (s:List GFrag) (u0_4:Str) (u0_40:Str) (u0_3:Str) (u0_2:GDoc) (p:Unit⊕Int) (r:EU):Prop:=elim p (fun (p:Unit)=>∃ (t_11:Int),r=(Ex.brk 0,[(zq aH s),(.func (.func 154) [] [(.ptr 1 3 0)]),(i6 0),(i6 (List.length s:Int)),(i6 t_11)],[[(4,[(.str u0_4),(.str u0_40),(.slice [] [] true),(.slice [] [] true)]),(3,[(.str u0_3)]),(2,[(zq aT u0_2.ops),(zq aH u0_2.frags)])]])) (fun q2=>(fun (p:Int)=>∃ (t_13:Int),r=(Ex.ret,[(zq aH s),(.func (.func 154) [] [(.ptr 1 3 0)]),(i6 p),(i6 (List.length s:Int)),(i6 t_13)],[[(4,[(.str u0_4),(.str u0_40),(.slice [] [] true),(.slice [] [] true)]),(3,[(.str u0_3)]),(2,[(zq aT u0_2.ops),(zq aH u0_2.frags)])]])) q2)
noncomputable def aCB (s:List GFrag) (u0_4:Str) (u0_40:Str) (u0_3:Str) (u0_2:GDoc):Option Int :=
 bnd (aY (qO s u0_4 u0_40 u0_3 u0_2) 0) fun e14_2=>elim e14_2
 (fun p14 =>
 some (-1))
 (fun t_12 =>
 some t_12)
def aYv:Decs:={decs:=[(14,(.ref gH)),(16,.bool)],ups:=[(16,[[],[(4,[.str,.str,st',st']),(3,[.str]),(2,[sf,sf])]])],loops:=[(2,[],⟨nF,[[(4,[.str,.str,st',st']),(3,[.str]),(2,[sf,sf])]],[(some 0,nF,[[(4,[.str,.str,st',st']),(3,[.str]),(2,[sf,sf])]]),(none,nF,[[(4,[.str,.str,st',st']),(3,[.str]),(2,[sf,sf])]])]⟩)]}
theorem aYw (O:Orc) (LP:LBs) (s:List GFrag) (u0_4:Str) (u0_40:Str) (u0_3:Str) (u0_2:GDoc):eW 153 aYv Tryz.f153 O LP [(zq aH s),(.func (.func 154) [] [(.ptr 1 3 0)])] [[(4,[(.str u0_4),(.str u0_40),(.slice [] [] true),(.slice [] [] true)]),(3,[(.str u0_3)]),(2,[(zq aT u0_2.ops),(zq aH u0_2.frags)])]]=aHa O LP s u0_4 u0_40 u0_3 u0_2:=by kernel_rfl
theorem aO3 (s:List GFrag) (u0_4:Str) (u0_40:Str) (u0_3:Str) (u0_2:GDoc):Lok (aUR s u0_4 u0_40 u0_3 u0_2) (qO s u0_4 u0_40 u0_3 u0_2) (aG9 O aF) (aUS s u0_4 u0_40 u0_3 u0_2):=by
 rintro t_6 l u ⟨rfl,rfl⟩
 simp only [qO,aG9,zd,zr]
 refine zG ?_
 try simp only [evs,tys]
 apply Imp.cnd
 ·refine zX aH kU fun y8 _ => ?_
  try simp only [evs,tys]
  refine Imp.gcall (f:=aA) (fu:=fun a=>[]::jN y8 u0_4 u0_40 u0_3 u0_2 a) (fun a h=>by first | exact fI rfl rfl (by first | rfl | (simp only [zes,tys];rfl)) (bN h) | (have h':=bN h;simp only [evs,tys,evl,jN] at h';exact fI rfl rfl (by first | rfl | (simp only [zes,tys];rfl)) h')) zK (fun a=>by first | rfl | (simp only [jN,evs,tys];first | rfl | (cases w<;>rfl))) fun y10 hy10 => ?_
  try simp only [aA,jN,evs,tys]
  apply Imp.cnd
  ·exact zT ⟨t_6,zE⟩
  ·exact zN
 ·exact zB ⟨t_6,zE⟩
theorem aUT (s:List GFrag) (u0_4:Str) (u0_40:Str) (u0_3:Str) (u0_2:GDoc):Imp (aCB s u0_4 u0_40 u0_3 u0_2) (aHa O aF s u0_4 u0_40 u0_3 u0_2) (fun r v=>v=(dP r,(wH s u0_4 u0_40 u0_3 u0_2 r))):=by
 simp only [aCB,aHa,zd,zr]
 try simp only [evs,tys]
 refine zL (aO3 s u0_4 u0_40 u0_3 u0_2) ?_
 rintro (p | t_12) vy14 hy14
 ·try simp only [aN,aO]
  obtain ⟨t_11,rfl⟩:=hy14
  refine zH ?_
  try simp only [evs,tys]
  exact Imp.some (by first | rfl | simp only [zes,wH,evs,tys,evl])
 ·try simp only [aN,aO]
  obtain ⟨t_13,rfl⟩:=hy14
  refine Imp.exMiss rfl ?_
  refine zH ?_
  try simp only [evs,tys]
  exact Imp.some (by first | rfl | simp only [zes,wH,evs,tys,evl])
theorem aUU {s:List GFrag} {u0_4:Str} {u0_40:Str} {u0_3:Str} {u0_2:GDoc} {r:Int} (h:aCB s u0_4 u0_40 u0_3 u0_2=some r):aOf s u0_4 u0_40 u0_3 u0_2=some r:=zV uN (aUT s u0_4 u0_40 u0_3 u0_2) Tryz.func153 (aYw _ _ s u0_4 u0_40 u0_3 u0_2) h
def aAT (O:Orc) (LP:LBs) (d:GDoc) (name:Str):Option (PV×UP) :=
 bnd (O 153 [(zq aH d.frags),(.func (.func 154) [] [(.ptr 1 3 0)])] [[(4,[(.str []),(.str []),(.slice [] [] true),(.slice [] [] true)]),(3,[(.str name)]),(2,[(zq aT d.ops),(zq aH d.frags)])]]) fun x1=>cnd (chkU [[(4,[.str,.str,st',st']),(3,[.str]),(2,[sf,sf])]] x1.2) (cnd (chk n6 x1.1)
 (cnd (decide ((intV x1.1)<0))
 (some ((.tuple [(.agg [(.str []),(.str []),(.slice [] [] false),(.slice [] [] false)]),(.bool false)]),[]))
 (bnd (ix 4 (zs (bx x1.2 0 2) 1) (i6 (intV x1.1))) fun x3=>cnd (chk (.ref gH) x3)
 (some ((.tuple [(.agg [(zt (rf x3) 0),(zt (rf x3) 1),(zs (rf x3) 2),(zs (rf x3) 3)]),(.bool true)]),[])) none)) none) none
noncomputable def wS (d:GDoc) (name:Str):Option (GFrag×Bool) :=
 bnd (aOf d.frags [] [] name d) fun y2 =>
 cnd (decide (y2<0))
 (some ((GFrag.mk [] [] ([]:List GDir) ([]:List GSel)),false))
 (bnd (nthI d.frags y2) fun y4 =>
 some (y4,true))
def aO4:Decs:={decs:=[(10,n6),(17,(.ref gH))],ups:=[(10,[[(4,[.str,.str,st',st']),(3,[.str]),(2,[sf,sf])]])]}
theorem aO5 (O:Orc) (LP:LBs) (d:GDoc) (name:Str):eW 82 aO4 Tryz.f82 O LP [(eD d),(.str name)] []=aAT O LP d name:=by kernel_rfl
theorem aMi (d:GDoc) (name:Str):Imp (wS d name) (aAT O aF d name) (Ri wF):=by
 simp only [wS,aAT,zd,zr]
 try simp only [evs,tys]
 refine Imp.gcall (f:=dP) (fu:=fun a=>wH d.frags [] [] name d a) (fun a h=>by first | exact bN h | (have h':=bN h;simp only [evs,tys,evl,wH] at h';exact h')) zK (fun a=>by first | rfl | (simp only [wH,evs,tys];first | rfl | (cases w<;>rfl))) fun y2 hy2 => ?_
 try simp only [dP,wH,evs,tys]
 apply Imp.cnd
 ·exact zR
 ·refine zX aH kU fun y4 _ => ?_
  try simp only [evs,tys]
  exact zR
theorem aMj {d:GDoc} {name:Str} {r:GFrag×Bool} (h:wS d name=some r):aC9 d name=some r:=zV aQO (aMi d name) Tryz.func82 (aO5 _ _ d name) h
def xZ (O:Orc) (LP:LBs) (x:GVarDef) (u0_4:GVarDef) (u0_1:GOp):Option (PV×UP) :=
 some ((.bool (x.name==u0_4.name)),[[(4,[(.str u0_4.name),(.str u0_4.t.name),(i6 u0_4.t.lists),(i6 u0_4.t.musts),(.bool u0_4.has),(i6 u0_4.default.kind),(i6 u0_4.default.n),(.str u0_4.default.s),(zq aI u0_4.default.l),(zq aE u0_4.default.m)]),(1,[(i6 u0_1.kind),(.str u0_1.name),(zq aC u0_1.vars),(zq aK u0_1.dirs),(zq aG u0_1.sels)])]])
noncomputable def tM (x:GVarDef) (u0_4:GVarDef) (u0_1:GOp):Option Bool :=
 some (x.name==u0_4.name)
def aMk:Decs:={}
theorem aMl (O:Orc) (LP:LBs) (x:GVarDef) (u0_4:GVarDef) (u0_1:GOp):eW 203 aMk Tryz.f203 O LP [(.agg [(.str x.name),(.str x.t.name),(i6 x.t.lists),(i6 x.t.musts),(.bool x.has),(i6 x.default.kind),(i6 x.default.n),(.str x.default.s),(zq aI x.default.l),(zq aE x.default.m)]),(.ptr 1 4 0)] [[(4,[(.str u0_4.name),(.str u0_4.t.name),(i6 u0_4.t.lists),(i6 u0_4.t.musts),(.bool u0_4.has),(i6 u0_4.default.kind),(i6 u0_4.default.n),(.str u0_4.default.s),(zq aI u0_4.default.l),(zq aE u0_4.default.m)]),(1,[(i6 u0_1.kind),(.str u0_1.name),(zq aC u0_1.vars),(zq aK u0_1.dirs),(zq aG u0_1.sels)])]]=xZ O LP x u0_4 u0_1:=by kernel_rfl
theorem aKT (x:GVarDef) (u0_4:GVarDef) (u0_1:GOp):Imp (tM x u0_4 u0_1) (xZ O aF x u0_4 u0_1) (fun r v=>v=(aA r,(kZ x u0_4 u0_1 r))):=by
 simp only [tM,xZ,zd,zr]
 try simp only [evs,tys]
 exact Imp.some (by first | rfl | simp only [zes,kZ,evs,tys,evl])
theorem aKU {x:GVarDef} {u0_4:GVarDef} {u0_1:GOp} {r:Bool} (h:tM x u0_4 u0_1=some r):aEg x u0_4 u0_1=some r:=zV aD (aKT x u0_4 u0_1) Tryz.func203 (aMl _ _ x u0_4 u0_1) h
def vC (O:Orc) (LP:LBs):bM:=fun s1 s1u=>cnd (chkL [sf,(.func 203 [] [(.ptr 1 4 0)]),n6,n6,n6] s1) (cnd (chkU [[(4,[.str,.str,n6,n6,.bool,n6,n6,.str,sf,sf]),(1,[n6,.str,sf,sf,sf])]] s1u)
 (cnd (decide ((iv s1 4)<(iv s1 3)))
 (bnd (ix 10 (zs s1 0) (zn s1 4)) fun x7=>cnd (chk (.ref eY) x7)
 (bnd (O 203 [(.agg [(zt (rf x7) 0),(zt (rf x7) 1),(zn (rf x7) 2),(zn (rf x7) 3),(zb (rf x7) 4),(zn (rf x7) 5),(zn (rf x7) 6),(zt (rf x7) 7),(zs (rf x7) 8),(zs (rf x7) 9)]),(.ptr 2 4 0)] [[],[(4,[(zt (bx s1u 0 0) 0),(zt (bx s1u 0 0) 1),(zn (bx s1u 0 0) 2),(zn (bx s1u 0 0) 3),(zb (bx s1u 0 0) 4),(zn (bx s1u 0 0) 5),(zn (bx s1u 0 0) 6),(zt (bx s1u 0 0) 7),(zs (bx s1u 0 0) 8),(zs (bx s1u 0 0) 9)]),(1,[(zn (bx s1u 0 1) 0),(zt (bx s1u 0 1) 1),(zs (bx s1u 0 1) 2),(zs (bx s1u 0 1) 3),(zs (bx s1u 0 1) 4)])]]) fun x9=>cnd (chkU [[],[(4,[.str,.str,n6,n6,.bool,n6,n6,.str,sf,sf]),(1,[n6,.str,sf,sf,sf])]] x9.2) (cnd (chk .bool x9.1)
 (cnd (bC x9.1)
 (some (.ret,[(zs s1 0),(.func (.func 203) [] [(.ptr 1 4 0)]),(zn s1 4),(zn s1 3),(zn s1 4)],[[(4,[(zt (bx x9.2 1 0) 0),(zt (bx x9.2 1 0) 1),(zn (bx x9.2 1 0) 2),(zn (bx x9.2 1 0) 3),(zb (bx x9.2 1 0) 4),(zn (bx x9.2 1 0) 5),(zn (bx x9.2 1 0) 6),(zt (bx x9.2 1 0) 7),(zs (bx x9.2 1 0) 8),(zs (bx x9.2 1 0) 9)]),(1,[(zn (bx x9.2 1 1) 0),(zt (bx x9.2 1 1) 1),(zs (bx x9.2 1 1) 2),(zs (bx x9.2 1 1) 3),(zs (bx x9.2 1 1) 4)])]]))
 (some (.nrm,[(zs s1 0),(.func (.func 203) [] [(.ptr 1 4 0)]),(zn s1 2),(zn s1 3),(i6 (w6 ((iv s1 4)+1)))],[[(4,[(zt (bx x9.2 1 0) 0),(zt (bx x9.2 1 0) 1),(zn (bx x9.2 1 0) 2),(zn (bx x9.2 1 0) 3),(zb (bx x9.2 1 0) 4),(zn (bx x9.2 1 0) 5),(zn (bx x9.2 1 0) 6),(zt (bx x9.2 1 0) 7),(zs (bx x9.2 1 0) 8),(zs (bx x9.2 1 0) 9)]),(1,[(zn (bx x9.2 1 1) 0),(zt (bx x9.2 1 1) 1),(zs (bx x9.2 1 1) 2),(zs (bx x9.2 1 1) 3),(zs (bx x9.2 1 1) 4)])]]))) none) none) none)
 (some (.brk 0,[(zs s1 0),(.func (.func 203) [] [(.ptr 1 4 0)]),(zn s1 2),(zn s1 3),(zn s1 4)],[[(4,[(zt (bx s1u 0 0) 0),(zt (bx s1u 0 0) 1),(zn (bx s1u 0 0) 2),(zn (bx s1u 0 0) 3),(zb (bx s1u 0 0) 4),(zn (bx s1u 0 0) 5),(zn (bx s1u 0 0) 6),(zt (bx s1u 0 0) 7),(zs (bx s1u 0 0) 8),(zs (bx s1u 0 0) 9)]),(1,[(zn (bx s1u 0 1) 0),(zt (bx s1u 0 1) 1),(zs (bx s1u 0 1) 2),(zs (bx s1u 0 1) 3),(zs (bx s1u 0 1) 4)])]]))) none) none
def vD (O:Orc) (LP:LBs) (s:List GVarDef) (u0_4:GVarDef) (u0_1:GOp):Option (PV×UP) :=
 bnd (LP (vC O LP) [(zq aC s),(.func (.func 203) [] [(.ptr 1 4 0)]),(i6 0),(i6 (List.length (List.map aC s):Int)),(i6 0)] [[(4,[(.str u0_4.name),(.str u0_4.t.name),(i6 u0_4.t.lists),(i6 u0_4.t.musts),(.bool u0_4.has),(i6 u0_4.default.kind),(i6 u0_4.default.n),(.str u0_4.default.s),(zq aI u0_4.default.l),(zq aE u0_4.default.m)]),(1,[(i6 u0_1.kind),(.str u0_1.name),(zq aC u0_1.vars),(zq aK u0_1.dirs),(zq aG u0_1.sels)])]]) fun y14 =>
 exIs y14.1 (some 0) (cnd (chkL [sf,(.func 203 [] [(.ptr 1 4 0)]),n6,n6,n6] y14.2.1) (cnd (chkU [[(4,[.str,.str,n6,n6,.bool,n6,n6,.str,sf,sf]),(1,[n6,.str,sf,sf,sf])]] y14.2.2)
 (some ((i6 (-1)),[[(4,[(zt (bx y14.2.2 0 0) 0),(zt (bx y14.2.2 0 0) 1),(zn (bx y14.2.2 0 0) 2),(zn (bx y14.2.2 0 0) 3),(zb (bx y14.2.2 0 0) 4),(zn (bx y14.2.2 0 0) 5),(zn (bx y14.2.2 0 0) 6),(zt (bx y14.2.2 0 0) 7),(zs (bx y14.2.2 0 0) 8),(zs (bx y14.2.2 0 0) 9)]),(1,[(zn (bx y14.2.2 0 1) 0),(zt (bx y14.2.2 0 1) 1),(zs (bx y14.2.2 0 1) 2),(zs (bx y14.2.2 0 1) 3),(zs (bx y14.2.2 0 1) 4)])]])) none) none)
 (exIs y14.1 none (cnd (chkL [sf,(.func 203 [] [(.ptr 1 4 0)]),n6,n6,n6] y14.2.1) (cnd (chkU [[(4,[.str,.str,n6,n6,.bool,n6,n6,.str,sf,sf]),(1,[n6,.str,sf,sf,sf])]] y14.2.2)
 (some ((zn y14.2.1 2),[[(4,[(zt (bx y14.2.2 0 0) 0),(zt (bx y14.2.2 0 0) 1),(zn (bx y14.2.2 0 0) 2),(zn (bx y14.2.2 0 0) 3),(zb (bx y14.2.2 0 0) 4),(zn (bx y14.2.2 0 0) 5),(zn (bx y14.2.2 0 0) 6),(zt (bx y14.2.2 0 0) 7),(zs (bx y14.2.2 0 0) 8),(zs (bx y14.2.2 0 0) 9)]),(1,[(zn (bx y14.2.2 0 1) 0),(zt (bx y14.2.2 0 1) 1),(zs (bx y14.2.2 0 1) 2),(zs (bx y14.2.2 0 1) 3),(zs (bx y14.2.2 0 1) 4)])]])) none) none)
 (none))
noncomputable def gO (s:List GVarDef) (u0_4:GVarDef) (u0_1:GOp):Int→Option (Int⊕(Unit⊕Int))
 | t_6 =>
 cnd (decide (t_6<(List.length s:Int)))
  (bnd (nthI s t_6) fun y8 =>
  bnd (aEg y8 u0_4 u0_1) fun y10 =>
  cnd y10
  (some (.inr (.inr t_6)))
  (some (.inl (IntKind.wrap .i64 (t_6+1)))))
  (some (.inr (.inl ())))
abbrev aIw (s:List GVarDef) (u0_4:GVarDef) (u0_1:GOp) (st:Int) (l:List PV) (u:UP):Prop:=l=[(zq aC s),(.func (.func 203) [] [(.ptr 1 4 0)]),(i6 0),(i6 (List.length s:Int)),(i6 st)]∧u=[[(4,[(.str u0_4.name),(.str u0_4.t.name),(i6 u0_4.t.lists),(i6 u0_4.t.musts),(.bool u0_4.has),(i6 u0_4.default.kind),(i6 u0_4.default.n),(.str u0_4.default.s),(zq aI u0_4.default.l),(zq aE u0_4.default.m)]),(1,[(i6 u0_1.kind),(.str u0_1.name),(zq aC u0_1.vars),(zq aK u0_1.dirs),(zq aG u0_1.sels)])]]
abbrev aIy (s:List GVarDef) (u0_4:GVarDef) (u0_1:GOp) (p:Unit⊕Int) (r:EU):Prop:=elim p (fun (p:Unit)=>∃ (t_11:Int),r=(Ex.brk 0,[(zq aC s),(.func (.func 203) [] [(.ptr 1 4 0)]),(i6 0),(i6 (List.length s:Int)),(i6 t_11)],[[(4,[(.str u0_4.name),(.str u0_4.t.name),(i6 u0_4.t.lists),(i6 u0_4.t.musts),(.bool u0_4.has),(i6 u0_4.default.kind),(i6 u0_4.default.n),(.str u0_4.default.s),(zq aI u0_4.default.l),(zq aE u0_4.default.m)]),(1,[(i6 u0_1.kind),(.str u0_1.name),(zq aC u0_1.vars),(zq aK u0_1.dirs),(zq aG u0_1.sels)])]])) (fun q2=>(fun (p:Int)=>∃ (t_13:Int),r=(Ex.ret,[(zq aC s),(.func (.func 203) [] [(.ptr 1 4 0)]),(i6 p),(i6 (List.length s:Int)),(i6 t_13)],[[(4,[(.str u0_4.name),(.str u0_4.t.name),(i6 u0_4.t.lists),(i6 u0_4.t.musts),(.bool u0_4.has),(i6 u0_4.default.kind),(i6 u0_4.default.n),(.str u0_4.default.s),(zq aI u0_4.default.l),(zq aE u0_4.default.m)]),(1,[(i6 u0_1.kind),(.str u0_1.name),(zq aC u0_1.vars),(zq aK u0_1.dirs),(zq aG u0_1.sels)])]])) q2)
noncomputable def qZ (s:List GVarDef) (u0_4:GVarDef) (u0_1:GOp):Option Int :=
 bnd (aY (gO s u0_4 u0_1) 0) fun e14_2=>elim e14_2
 (fun p14 =>
 some (-1))
 (fun t_12 =>
 some t_12)
def aKV:Decs:={decs:=[(14,(.ref eY)),(16,.bool)],ups:=[(16,[[],[(4,[.str,.str,n6,n6,.bool,n6,n6,.str,sf,sf]),(1,[n6,.str,sf,sf,sf])]])],loops:=[(2,[],⟨[sf,(.func 203 [] [(.ptr 1 4 0)]),n6,n6,n6],[[(4,[.str,.str,n6,n6,.bool,n6,n6,.str,sf,sf]),(1,[n6,.str,sf,sf,sf])]],[(some 0,[sf,(.func 203 [] [(.ptr 1 4 0)]),n6,n6,n6],[[(4,[.str,.str,n6,n6,.bool,n6,n6,.str,sf,sf]),(1,[n6,.str,sf,sf,sf])]]),(none,[sf,(.func 203 [] [(.ptr 1 4 0)]),n6,n6,n6],[[(4,[.str,.str,n6,n6,.bool,n6,n6,.str,sf,sf]),(1,[n6,.str,sf,sf,sf])]])]⟩)]}
theorem aKW (O:Orc) (LP:LBs) (s:List GVarDef) (u0_4:GVarDef) (u0_1:GOp):eW 204 aKV Tryz.f204 O LP [(zq aC s),(.func (.func 203) [] [(.ptr 1 4 0)])] [[(4,[(.str u0_4.name),(.str u0_4.t.name),(i6 u0_4.t.lists),(i6 u0_4.t.musts),(.bool u0_4.has),(i6 u0_4.default.kind),(i6 u0_4.default.n),(.str u0_4.default.s),(zq aI u0_4.default.l),(zq aE u0_4.default.m)]),(1,[(i6 u0_1.kind),(.str u0_1.name),(zq aC u0_1.vars),(zq aK u0_1.dirs),(zq aG u0_1.sels)])]]=vD O LP s u0_4 u0_1:=by kernel_rfl
theorem aF2 (s:List GVarDef) (u0_4:GVarDef) (u0_1:GOp):Lok (aIw s u0_4 u0_1) (gO s u0_4 u0_1) (vC O aF) (aIy s u0_4 u0_1):=by
 rintro t_6 l u ⟨rfl,rfl⟩
 simp only [gO,vC,zd,zr]
 refine zG ?_
 try simp only [evs,tys]
 apply Imp.cnd
 ·refine zX aC jL fun y8 _ => ?_
  try simp only [evs,tys]
  refine Imp.gcall (f:=aA) (fu:=fun a=>[]::kZ y8 u0_4 u0_1 a) (fun a h=>by first | exact fI rfl rfl (by first | rfl | (simp only [zes,tys];rfl)) (bN h) | (have h':=bN h;simp only [evs,tys,evl,kZ] at h';exact fI rfl rfl (by first | rfl | (simp only [zes,tys];rfl)) h')) zK (fun a=>by first | rfl | (simp only [kZ,evs,tys];first | rfl | (cases w<;>rfl))) fun y10 hy10 => ?_
  try simp only [aA,kZ,evs,tys]
  apply Imp.cnd
  ·exact zT ⟨t_6,zE⟩
  ·exact zN
 ·exact zB ⟨t_6,zE⟩
theorem aIz (s:List GVarDef) (u0_4:GVarDef) (u0_1:GOp):Imp (qZ s u0_4 u0_1) (vD O aF s u0_4 u0_1) (fun r v=>v=(dP r,(gW s u0_4 u0_1 r))):=by
 simp only [qZ,vD,zd,zr]
 try simp only [evs,tys]
 refine zL (aF2 s u0_4 u0_1) ?_
 rintro (p | t_12) vy14 hy14
 ·try simp only [aN,aO]
  obtain ⟨t_11,rfl⟩:=hy14
  refine zH ?_
  try simp only [evs,tys]
  exact Imp.some (by first | rfl | simp only [zes,gW,evs,tys,evl])
 ·try simp only [aN,aO]
  obtain ⟨t_13,rfl⟩:=hy14
  refine Imp.exMiss rfl ?_
  refine zH ?_
  try simp only [evs,tys]
  exact Imp.some (by first | rfl | simp only [zes,gW,evs,tys,evl])
theorem aIA {s:List GVarDef} {u0_4:GVarDef} {u0_1:GOp} {r:Int} (h:qZ s u0_4 u0_1=some r):aHR s u0_4 u0_1=some r:=zV uN (aIz s u0_4 u0_1) Tryz.func204 (aKW _ _ s u0_4 u0_1) h
def dR (O:Orc) (LP:LBs) (s:List GVarDef) (u0_4:GVarDef) (u0_1:GOp):Option (PV×UP) :=
 bnd (O 204 [(zq aC s),(.func (.func 203) [] [(.ptr 2 4 0)])] [[],[(4,[(.str u0_4.name),(.str u0_4.t.name),(i6 u0_4.t.lists),(i6 u0_4.t.musts),(.bool u0_4.has),(i6 u0_4.default.kind),(i6 u0_4.default.n),(.str u0_4.default.s),(zq aI u0_4.default.l),(zq aE u0_4.default.m)]),(1,[(i6 u0_1.kind),(.str u0_1.name),(zq aC u0_1.vars),(zq aK u0_1.dirs),(zq aG u0_1.sels)])]]) fun x1=>cnd (chkU [[],[(4,[.str,.str,n6,n6,.bool,n6,n6,.str,sf,sf]),(1,[n6,.str,sf,sf,sf])]] x1.2) (cnd (chk n6 x1.1)
 (some ((.bool (decide ((intV x1.1)≥0))),[[(4,[(zt (bx x1.2 1 0) 0),(zt (bx x1.2 1 0) 1),(zn (bx x1.2 1 0) 2),(zn (bx x1.2 1 0) 3),(zb (bx x1.2 1 0) 4),(zn (bx x1.2 1 0) 5),(zn (bx x1.2 1 0) 6),(zt (bx x1.2 1 0) 7),(zs (bx x1.2 1 0) 8),(zs (bx x1.2 1 0) 9)]),(1,[(zn (bx x1.2 1 1) 0),(zt (bx x1.2 1 1) 1),(zs (bx x1.2 1 1) 2),(zs (bx x1.2 1 1) 3),(zs (bx x1.2 1 1) 4)])]])) none) none
noncomputable def cR (s:List GVarDef) (u0_4:GVarDef) (u0_1:GOp):Option Bool :=
 bnd (aHR s u0_4 u0_1) fun y2 =>
 some (decide (y2≥0))
def pN:Decs:={decs:=[(7,n6)],ups:=[(7,[[],[(4,[.str,.str,n6,n6,.bool,n6,n6,.str,sf,sf]),(1,[n6,.str,sf,sf,sf])]])]}
theorem pO (O:Orc) (LP:LBs) (s:List GVarDef) (u0_4:GVarDef) (u0_1:GOp):eW 144 pN Tryz.f144 O LP [(zq aC s),(.func (.func 203) [] [(.ptr 1 4 0)])] [[(4,[(.str u0_4.name),(.str u0_4.t.name),(i6 u0_4.t.lists),(i6 u0_4.t.musts),(.bool u0_4.has),(i6 u0_4.default.kind),(i6 u0_4.default.n),(.str u0_4.default.s),(zq aI u0_4.default.l),(zq aE u0_4.default.m)]),(1,[(i6 u0_1.kind),(.str u0_1.name),(zq aC u0_1.vars),(zq aK u0_1.dirs),(zq aG u0_1.sels)])]]=dR O LP s u0_4 u0_1:=by kernel_rfl
theorem pB (s:List GVarDef) (u0_4:GVarDef) (u0_1:GOp):Imp (cR s u0_4 u0_1) (dR O aF s u0_4 u0_1) (fun r v=>v=(aA r,(bE s u0_4 u0_1 r))):=by
 simp only [cR,dR,zd,zr]
 try simp only [evs,tys]
 refine Imp.gcall (f:=dP) (fu:=fun a=>[]::gW s u0_4 u0_1 a) (fun a h=>by first | exact fI rfl rfl (by first | rfl | (simp only [zes,tys];rfl)) (bN h) | (have h':=bN h;simp only [evs,tys,evl,gW] at h';exact fI rfl rfl (by first | rfl | (simp only [zes,tys];rfl)) h')) zK (fun a=>by first | rfl | (simp only [gW,evs,tys];first | rfl | (cases w<;>rfl))) fun y2 hy2 => ?_
 try simp only [dP,gW,evs,tys]
 exact Imp.some (by first | rfl | simp only [zes,bE,evs,tys,evl])
theorem pC {s:List GVarDef} {u0_4:GVarDef} {u0_1:GOp} {r:Bool} (h:cR s u0_4 u0_1=some r):fC s u0_4 u0_1=some r:=zV aD (pB s u0_4 u0_1) Tryz.func144 (pO _ _ s u0_4 u0_1) h
abbrev jS:List Sh:=[(.ptr 0 1 0),.bool,sf,n6,n6,n6,.str,sf,sf,sf]
def aCC (O:Orc) (LP:LBs):bM:=fun s1 s1u=>cnd (chkL jS s1) (cnd (chkU [] s1u)
 (cnd (decide ((iv s1 4)<(iv s1 3)))
 (bnd (ix 10 (zs s1 2) (zn s1 4)) fun x9=>cnd (chk (.ref eY) x9)
 (bnd (aXi 10 (zs s1 7) (zn s1 4)) fun x11=>cnd (chk (.slb false) x11)
 (bnd (O 144 [(.slice (esV x11) [] false),(.func (.func 203) [] [(.ptr 1 4 0)])] [[(4,[(zt (rf x9) 0),(zt (rf x9) 1),(zn (rf x9) 2),(zn (rf x9) 3),(zb (rf x9) 4),(zn (rf x9) 5),(zn (rf x9) 6),(zt (rf x9) 7),(zs (rf x9) 8),(zs (rf x9) 9)]),(1,[(zn s1 5),(zt s1 6),(zs s1 7),(zs s1 8),(zs s1 9)])]]) fun x13=>cnd (chkU [[(4,[.str,.str,n6,n6,.bool,n6,n6,.str,sf,sf]),(1,[n6,.str,sf,sf,sf])]] x13.2) (cnd (chk .bool x13.1)
 (cnd (bC x13.1)
 (some (.ret,[(.ptr 0 1 0),(.bool false),(zs s1 2),(zn s1 3),(zn s1 4),(zn (bx x13.2 0 1) 0),(zt (bx x13.2 0 1) 1),(zs (bx x13.2 0 1) 2),(zs (bx x13.2 0 1) 3),(zs (bx x13.2 0 1) 4)],[]))
 (some (.nrm,[(.ptr 0 1 0),(zb s1 1),(zs s1 2),(zn s1 3),(i6 (w6 ((iv s1 4)+1))),(zn (bx x13.2 0 1) 0),(zt (bx x13.2 0 1) 1),(zs (bx x13.2 0 1) 2),(zs (bx x13.2 0 1) 3),(zs (bx x13.2 0 1) 4)],[]))) none) none) none) none)
 (some (.brk 0,(rb jS s1),[]))) none) none
def aCD (O:Orc) (LP:LBs) (o:GOp):Option (PV×UP) :=
 bnd (LP (aCC O LP) [(.ptr 0 1 0),(.bool false),(zq aC o.vars),(i6 (List.length (List.map aC o.vars):Int)),(i6 0),(i6 o.kind),(.str o.name),(zq aC o.vars),(zq aK o.dirs),(zq aG o.sels)] []) fun y17 =>
 exIs y17.1 (some 0) (cnd (chkL jS y17.2.1) (cnd (chkU [] y17.2.2)
 (some ((.bool true),[])) none) none)
 (exIs y17.1 none (cnd (chkL jS y17.2.1) (cnd (chkU [] y17.2.2)
 (some ((zb y17.2.1 1),[])) none) none)
 (none))
noncomputable def lX (o:GOp):Int→Option (Int⊕(Unit⊕Unit))
 | t_8 =>
 cnd (decide (t_8<(List.length o.vars:Int)))
  (bnd (nthI o.vars t_8) fun y10 =>
  bnd (tslc (o.vars:List GVarDef) 0 t_8) fun y12 =>
  bnd (fC y12 y10 o) fun y14 =>
  cnd y14
  (some (.inr (.inr ())))
  (some (.inl (IntKind.wrap .i64 (t_8+1)))))
  (some (.inr (.inl ())))
abbrev aAU (o:GOp) (a0:PV):List PV:=[(.ptr 0 1 0),(.bool false),(zq aC o.vars),(i6 (List.length o.vars:Int)),a0,(i6 o.kind),(.str o.name),(zq aC o.vars),(zq aK o.dirs),(zq aG o.sels)]
abbrev aO6 (o:GOp) (st:Int) (l:List PV) (u:UP):Prop:=l=(aAU o (i6 st))∧u=[]
abbrev aO7 (o:GOp) (p:Unit⊕Unit) (r:EU):Prop:=elim p (fun (p:Unit)=>∃ (t_15:Int),r=(Ex.brk 0,(aAU o (i6 t_15)),[])) (fun (p:Unit)=>∃ (t_16:Int),r=(Ex.ret,(aAU o (i6 t_16)),[]))
noncomputable def aAV (o:GOp):Option Bool :=
 bnd (aY (lX o) 0) fun e17_2=>elim e17_2
 (fun p17 =>
 some true)
 (fun p17 =>
 some false)
def aR1:Decs:={decs:=[(11,(.ref eY)),(16,(.slb false)),(18,.bool)],ups:=[(18,[[(4,[.str,.str,n6,n6,.bool,n6,n6,.str,sf,sf]),(1,[n6,.str,sf,sf,sf])]])],loops:=[(2,[(1,5)],⟨jS,[],[(some 0,jS,[]),(none,jS,[])]⟩)]}
theorem aR2 (O:Orc) (LP:LBs) (o:GOp):eW 143 aR1 Tryz.f143 O LP [(.agg [(i6 o.kind),(.str o.name),(zq aC o.vars),(zq aK o.dirs),(zq aG o.sels)])] []=aCD O LP o:=by kernel_rfl
theorem aKX (o:GOp):Lok (aO6 o) (lX o) (aCC O aF) (aO7 o):=by
 rintro t_8 l u ⟨rfl,rfl⟩
 simp only [lX,aCC,zd,zr]
 refine zG ?_
 try simp only [evs,tys]
 apply Imp.cnd
 ·refine zX aC jL fun y10 _ => ?_
  try simp only [evs,tys]
  refine Imp.op2 (f:=fun a b => .slice (List.map aC a) (List.map aC b) false) (fun a h=>bBR (enc:=aC) (b:=_) zI (by first | rfl | exact List.map_nil.symm | simp only [evs,tys,evl]) (fun a=>by first | rfl | simp only [evs,tys,evc]) h) (fun a b=>rfl) fun y12 jby12 hy12 => ?_
  try simp only [evs,tys]
  refine Imp.gcall (f:=aA) (fu:=fun a=>bE y12 y10 o a) (fun a h=>by first | exact bN h | (have h':=bN h;simp only [evs,tys,evl,bE] at h';exact h')) zK (fun a=>by first | rfl | (simp only [bE,evs,tys];first | rfl | (cases w<;>rfl))) fun y14 hy14 => ?_
  try simp only [aA,bE,evs,tys]
  apply Imp.cnd
  ·exact zT ⟨t_8,zE⟩
  ·exact zN
 ·exact zB ⟨t_8,zE⟩
theorem aO8 (o:GOp):Imp (aAV o) (aCD O aF o) (Ri aA):=by
 simp only [aAV,aCD,zd,zr]
 try simp only [evs,tys]
 refine zL (aKX o) ?_
 rintro (p | p) vy17 hy17
 ·try simp only [aN,aO]
  obtain ⟨t_15,rfl⟩:=hy17
  refine zH ?_
  try simp only [evs,tys]
  exact zR
 ·try simp only [aN,aO]
  obtain ⟨t_16,rfl⟩:=hy17
  refine Imp.exMiss rfl ?_
  refine zH ?_
  try simp only [evs,tys]
  exact zR
theorem aO9 {o:GOp} {r:Bool} (h:aAV o=some r):aJ6 o=some r:=zV aD (aO8 o) Tryz.func143 (aR2 _ _ o) h
def aEY (O:Orc) (LP:LBs) (s:GSchema) (name:Str):Option (PV×UP) :=
 aQ O 201 [(eS s),(.str name),(.slice [(i6 0),(i6 4),(i6 5)] [] false)] fun x1=>cnd (chk .bool x1)
 (some ((.bool (bC x1)),[])) none
noncomputable def aDh (s:GSchema) (name:Str):Option Bool :=
 bnd (aTN s name [0,4,5]) fun y2 =>
 some y2
def aUV:Decs:={decs:=[(8,.bool)]}
theorem aUW (O:Orc) (LP:LBs) (s:GSchema) (name:Str):eW 146 aUV Tryz.f146 O LP [(eS s),(.str name)] []=aEY O LP s name:=by kernel_rfl
theorem aR3 (s:GSchema) (name:Str):Imp (aDh s name) (aEY O aF s name) (Ri aA):=by
 simp only [aDh,aEY,zd,zr]
 try simp only [evs,tys]
 refine zC rfl fun y2 _ => ?_
 try simp only [zes,evs,tys]
 exact zR
theorem aR4 {s:GSchema} {name:Str} {r:Bool} (h:aDh s name=some r):aOg s name=some r:=zV aD (aR3 s name) Tryz.func146 (aUW _ _ s name) h
def aAW (O:Orc) (LP:LBs) (v0:GVarDef) (u0_4:Str) (u0_40:Str) (u0_400:Int) (u0_4000:Int) (u0_40000:Bool) (u0_400000:Int) (u0_4000000:Int) (u0_40000000:Str) (u0_3:Str) (u0_2:GOp):Option (PV×UP) :=
 some ((.bool (v0.name==u0_3)),[[(4,[(.str u0_4),(.str u0_40),(i6 u0_400),(i6 u0_4000),(.bool u0_40000),(i6 u0_400000),(i6 u0_4000000),(.str u0_40000000),(.slice [] [] true),(.slice [] [] true)]),(3,[(.str u0_3)]),(2,[(i6 u0_2.kind),(.str u0_2.name),(zq aC u0_2.vars),(zq aK u0_2.dirs),(zq aG u0_2.sels)])]])
noncomputable def wT (v0:GVarDef) (u0_4:Str) (u0_40:Str) (u0_400:Int) (u0_4000:Int) (u0_40000:Bool) (u0_400000:Int) (u0_4000000:Int) (u0_40000000:Str) (u0_3:Str) (u0_2:GOp):Option Bool :=
 some (v0.name==u0_3)
def aPa:Decs:={}
theorem aPb (O:Orc) (LP:LBs) (v0:GVarDef) (u0_4:Str) (u0_40:Str) (u0_400:Int) (u0_4000:Int) (u0_40000:Bool) (u0_400000:Int) (u0_4000000:Int) (u0_40000000:Str) (u0_3:Str) (u0_2:GOp):eW 206 aPa Tryz.f206 O LP [(.agg [(.str v0.name),(.str v0.t.name),(i6 v0.t.lists),(i6 v0.t.musts),(.bool v0.has),(i6 v0.default.kind),(i6 v0.default.n),(.str v0.default.s),(zq aI v0.default.l),(zq aE v0.default.m)]),(.ptr 1 3 0)] [[(4,[(.str u0_4),(.str u0_40),(i6 u0_400),(i6 u0_4000),(.bool u0_40000),(i6 u0_400000),(i6 u0_4000000),(.str u0_40000000),(.slice [] [] true),(.slice [] [] true)]),(3,[(.str u0_3)]),(2,[(i6 u0_2.kind),(.str u0_2.name),(zq aC u0_2.vars),(zq aK u0_2.dirs),(zq aG u0_2.sels)])]]=aAW O LP v0 u0_4 u0_40 u0_400 u0_4000 u0_40000 u0_400000 u0_4000000 u0_40000000 u0_3 u0_2:=by kernel_rfl
theorem aMm (v0:GVarDef) (u0_4:Str) (u0_40:Str) (u0_400:Int) (u0_4000:Int) (u0_40000:Bool) (u0_400000:Int) (u0_4000000:Int) (u0_40000000:Str) (u0_3:Str) (u0_2:GOp):Imp (wT v0 u0_4 u0_40 u0_400 u0_4000 u0_40000 u0_400000 u0_4000000 u0_40000000 u0_3 u0_2) (aAW O aF v0 u0_4 u0_40 u0_400 u0_4000 u0_40000 u0_400000 u0_4000000 u0_40000000 u0_3 u0_2) (fun r v=>v=(aA r,(mY v0 u0_4 u0_40 u0_400 u0_4000 u0_40000 u0_400000 u0_4000000 u0_40000000 u0_3 u0_2 r))):=by
 simp only [wT,aAW,zd,zr]
 try simp only [evs,tys]
 exact Imp.some (by first | rfl | simp only [zes,mY,evs,tys,evl])
theorem aMn {v0:GVarDef} {u0_4:Str} {u0_40:Str} {u0_400:Int} {u0_4000:Int} {u0_40000:Bool} {u0_400000:Int} {u0_4000000:Int} {u0_40000000:Str} {u0_3:Str} {u0_2:GOp} {r:Bool} (h:wT v0 u0_4 u0_40 u0_400 u0_4000 u0_40000 u0_400000 u0_4000000 u0_40000000 u0_3 u0_2=some r):aGL v0 u0_4 u0_40 u0_400 u0_4000 u0_40000 u0_400000 u0_4000000 u0_40000000 u0_3 u0_2=some r:=zV aD (aMm v0 u0_4 u0_40 u0_400 u0_4000 u0_40000 u0_400000 u0_4000000 u0_40000000 u0_3 u0_2) Tryz.func206 (aPb _ _ v0 u0_4 u0_40 u0_400 u0_4000 u0_40000 u0_400000 u0_4000000 u0_40000000 u0_3 u0_2) h
def vE (O:Orc) (LP:LBs):bM:=fun s1 s1u=>cnd (chkL [sf,(.func 206 [] [(.ptr 1 3 0)]),n6,n6,n6] s1) (cnd (chkU [[(4,[.str,.str,n6,n6,.bool,n6,n6,.str,st',st']),(3,[.str]),(2,[n6,.str,sf,sf,sf])]] s1u)
 (cnd (decide ((iv s1 4)<(iv s1 3)))
 (bnd (ix 10 (zs s1 0) (zn s1 4)) fun x7=>cnd (chk (.ref eY) x7)
 (bnd (O 206 [(.agg [(zt (rf x7) 0),(zt (rf x7) 1),(zn (rf x7) 2),(zn (rf x7) 3),(zb (rf x7) 4),(zn (rf x7) 5),(zn (rf x7) 6),(zt (rf x7) 7),(zs (rf x7) 8),(zs (rf x7) 9)]),(.ptr 2 3 0)] [[],[(4,[(zt (bx s1u 0 0) 0),(zt (bx s1u 0 0) 1),(zn (bx s1u 0 0) 2),(zn (bx s1u 0 0) 3),(zb (bx s1u 0 0) 4),(zn (bx s1u 0 0) 5),(zn (bx s1u 0 0) 6),(zt (bx s1u 0 0) 7),(zo (bx s1u 0 0) 8),(zo (bx s1u 0 0) 9)]),(3,[(zt (bx s1u 0 1) 0)]),(2,[(zn (bx s1u 0 2) 0),(zt (bx s1u 0 2) 1),(zs (bx s1u 0 2) 2),(zs (bx s1u 0 2) 3),(zs (bx s1u 0 2) 4)])]]) fun x9=>cnd (chkU [[],[(4,[.str,.str,n6,n6,.bool,n6,n6,.str,st',st']),(3,[.str]),(2,[n6,.str,sf,sf,sf])]] x9.2) (cnd (chk .bool x9.1)
 (cnd (bC x9.1)
 (some (.ret,[(zs s1 0),(.func (.func 206) [] [(.ptr 1 3 0)]),(zn s1 4),(zn s1 3),(zn s1 4)],[[(4,[(zt (bx x9.2 1 0) 0),(zt (bx x9.2 1 0) 1),(zn (bx x9.2 1 0) 2),(zn (bx x9.2 1 0) 3),(zb (bx x9.2 1 0) 4),(zn (bx x9.2 1 0) 5),(zn (bx x9.2 1 0) 6),(zt (bx x9.2 1 0) 7),(zo (bx x9.2 1 0) 8),(zo (bx x9.2 1 0) 9)]),(3,[(zt (bx x9.2 1 1) 0)]),(2,[(zn (bx x9.2 1 2) 0),(zt (bx x9.2 1 2) 1),(zs (bx x9.2 1 2) 2),(zs (bx x9.2 1 2) 3),(zs (bx x9.2 1 2) 4)])]]))
 (some (.nrm,[(zs s1 0),(.func (.func 206) [] [(.ptr 1 3 0)]),(zn s1 2),(zn s1 3),(i6 (w6 ((iv s1 4)+1)))],[[(4,[(zt (bx x9.2 1 0) 0),(zt (bx x9.2 1 0) 1),(zn (bx x9.2 1 0) 2),(zn (bx x9.2 1 0) 3),(zb (bx x9.2 1 0) 4),(zn (bx x9.2 1 0) 5),(zn (bx x9.2 1 0) 6),(zt (bx x9.2 1 0) 7),(zo (bx x9.2 1 0) 8),(zo (bx x9.2 1 0) 9)]),(3,[(zt (bx x9.2 1 1) 0)]),(2,[(zn (bx x9.2 1 2) 0),(zt (bx x9.2 1 2) 1),(zs (bx x9.2 1 2) 2),(zs (bx x9.2 1 2) 3),(zs (bx x9.2 1 2) 4)])]]))) none) none) none)
 (some (.brk 0,[(zs s1 0),(.func (.func 206) [] [(.ptr 1 3 0)]),(zn s1 2),(zn s1 3),(zn s1 4)],[[(4,[(zt (bx s1u 0 0) 0),(zt (bx s1u 0 0) 1),(zn (bx s1u 0 0) 2),(zn (bx s1u 0 0) 3),(zb (bx s1u 0 0) 4),(zn (bx s1u 0 0) 5),(zn (bx s1u 0 0) 6),(zt (bx s1u 0 0) 7),(zo (bx s1u 0 0) 8),(zo (bx s1u 0 0) 9)]),(3,[(zt (bx s1u 0 1) 0)]),(2,[(zn (bx s1u 0 2) 0),(zt (bx s1u 0 2) 1),(zs (bx s1u 0 2) 2),(zs (bx s1u 0 2) 3),(zs (bx s1u 0 2) 4)])]]))) none) none
def vF (O:Orc) (LP:LBs) (s:List GVarDef) (u0_4:Str) (u0_40:Str) (u0_400:Int) (u0_4000:Int) (u0_40000:Bool) (u0_400000:Int) (u0_4000000:Int) (u0_40000000:Str) (u0_3:Str) (u0_2:GOp):Option (PV×UP) :=
 bnd (LP (vE O LP) [(zq aC s),(.func (.func 206) [] [(.ptr 1 3 0)]),(i6 0),(i6 (List.length (List.map aC s):Int)),(i6 0)] [[(4,[(.str u0_4),(.str u0_40),(i6 u0_400),(i6 u0_4000),(.bool u0_40000),(i6 u0_400000),(i6 u0_4000000),(.str u0_40000000),(.slice [] [] true),(.slice [] [] true)]),(3,[(.str u0_3)]),(2,[(i6 u0_2.kind),(.str u0_2.name),(zq aC u0_2.vars),(zq aK u0_2.dirs),(zq aG u0_2.sels)])]]) fun y14 =>
 exIs y14.1 (some 0) (cnd (chkL [sf,(.func 206 [] [(.ptr 1 3 0)]),n6,n6,n6] y14.2.1) (cnd (chkU [[(4,[.str,.str,n6,n6,.bool,n6,n6,.str,st',st']),(3,[.str]),(2,[n6,.str,sf,sf,sf])]] y14.2.2)
 (some ((i6 (-1)),[[(4,[(zt (bx y14.2.2 0 0) 0),(zt (bx y14.2.2 0 0) 1),(zn (bx y14.2.2 0 0) 2),(zn (bx y14.2.2 0 0) 3),(zb (bx y14.2.2 0 0) 4),(zn (bx y14.2.2 0 0) 5),(zn (bx y14.2.2 0 0) 6),(zt (bx y14.2.2 0 0) 7),(zo (bx y14.2.2 0 0) 8),(zo (bx y14.2.2 0 0) 9)]),(3,[(zt (bx y14.2.2 0 1) 0)]),(2,[(zn (bx y14.2.2 0 2) 0),(zt (bx y14.2.2 0 2) 1),(zs (bx y14.2.2 0 2) 2),(zs (bx y14.2.2 0 2) 3),(zs (bx y14.2.2 0 2) 4)])]])) none) none)
 (exIs y14.1 none (cnd (chkL [sf,(.func 206 [] [(.ptr 1 3 0)]),n6,n6,n6] y14.2.1) (cnd (chkU [[(4,[.str,.str,n6,n6,.bool,n6,n6,.str,st',st']),(3,[.str]),(2,[n6,.str,sf,sf,sf])]] y14.2.2)
 (some ((zn y14.2.1 2),[[(4,[(zt (bx y14.2.2 0 0) 0),(zt (bx y14.2.2 0 0) 1),(zn (bx y14.2.2 0 0) 2),(zn (bx y14.2.2 0 0) 3),(zb (bx y14.2.2 0 0) 4),(zn (bx y14.2.2 0 0) 5),(zn (bx y14.2.2 0 0) 6),(zt (bx y14.2.2 0 0) 7),(zo (bx y14.2.2 0 0) 8),(zo (bx y14.2.2 0 0) 9)]),(3,[(zt (bx y14.2.2 0 1) 0)]),(2,[(zn (bx y14.2.2 0 2) 0),(zt (bx y14.2.2 0 2) 1),(zs (bx y14.2.2 0 2) 2),(zs (bx y14.2.2 0 2) 3),(zs (bx y14.2.2 0 2) 4)])]])) none) none)
 (none))
noncomputable def gP (s:List GVarDef) (u0_4:Str) (u0_40:Str) (u0_400:Int) (u0_4000:Int) (u0_40000:Bool) (u0_400000:Int) (u0_4000000:Int) (u0_40000000:Str) (u0_3:Str) (u0_2:GOp):Int→Option (Int⊕(Unit⊕Int))
 | t_6 =>
 cnd (decide (t_6<(List.length s:Int)))
  (bnd (nthI s t_6) fun y8 =>
  bnd (aGL y8 u0_4 u0_40 u0_400 u0_4000 u0_40000 u0_400000 u0_4000000 u0_40000000 u0_3 u0_2) fun y10 =>
  cnd y10
  (some (.inr (.inr t_6)))
  (some (.inl (IntKind.wrap .i64 (t_6+1)))))
  (some (.inr (.inl ())))
abbrev aIB (s:List GVarDef) (u0_4:Str) (u0_40:Str) (u0_400:Int) (u0_4000:Int) (u0_40000:Bool) (u0_400000:Int) (u0_4000000:Int) (u0_40000000:Str) (u0_3:Str) (u0_2:GOp) (st:Int) (l:List PV) (u:UP):Prop:=l=[(zq aC s),(.func (.func 206) [] [(.ptr 1 3 0)]),(i6 0),(i6 (List.length s:Int)),(i6 st)]∧u=[[(4,[(.str u0_4),(.str u0_40),(i6 u0_400),(i6 u0_4000),(.bool u0_40000),(i6 u0_400000),(i6 u0_4000000),(.str u0_40000000),(.slice [] [] true),(.slice [] [] true)]),(3,[(.str u0_3)]),(2,[(i6 u0_2.kind),(.str u0_2.name),(zq aC u0_2.vars),(zq aK u0_2.dirs),(zq aG u0_2.sels)])]]
abbrev aIC (s:List GVarDef) (u0_4:Str) (u0_40:Str) (u0_400:Int) (u0_4000:Int) (u0_40000:Bool) (u0_400000:Int) (u0_4000000:Int) (u0_40000000:Str) (u0_3:Str) (u0_2:GOp) (p:Unit⊕Int) (r:EU):Prop:=elim p (fun (p:Unit)=>∃ (t_11:Int),r=(Ex.brk 0,[(zq aC s),(.func (.func 206) [] [(.ptr 1 3 0)]),(i6 0),(i6 (List.length s:Int)),(i6 t_11)],[[(4,[(.str u0_4),(.str u0_40),(i6 u0_400),(i6 u0_4000),(.bool u0_40000),(i6 u0_400000),(i6 u0_4000000),(.str u0_40000000),(.slice [] [] true),(.slice [] [] true)]),(3,[(.str u0_3)]),(2,[(i6 u0_2.kind),(.str u0_2.name),(zq aC u0_2.vars),(zq aK u0_2.dirs),(zq aG u0_2.sels)])]])) (fun q2=>(fun (p:Int)=>∃ (t_13:Int),r=(Ex.ret,[(zq aC s),(.func (.func 206) [] [(.ptr 1 3 0)]),(i6 p),(i6 (List.length s:Int)),(i6 t_13)],[[(4,[(.str u0_4),(.str u0_40),(i6 u0_400),(i6 u0_4000),(.bool u0_40000),(i6 u0_400000),(i6 u0_4000000),(.str u0_40000000),(.slice [] [] true),(.slice [] [] true)]),(3,[(.str u0_3)]),(2,[(i6 u0_2.kind),(.str u0_2.name),(zq aC u0_2.vars),(zq aK u0_2.dirs),(zq aG u0_2.sels)])]])) q2)
noncomputable def rA (s:List GVarDef) (u0_4:Str) (u0_40:Str) (u0_400:Int) (u0_4000:Int) (u0_40000:Bool) (u0_400000:Int) (u0_4000000:Int) (u0_40000000:Str) (u0_3:Str) (u0_2:GOp):Option Int :=
 bnd (aY (gP s u0_4 u0_40 u0_400 u0_4000 u0_40000 u0_400000 u0_4000000 u0_40000000 u0_3 u0_2) 0) fun e14_2=>elim e14_2
 (fun p14 =>
 some (-1))
 (fun t_12 =>
 some t_12)
def aKY:Decs:={decs:=[(14,(.ref eY)),(16,.bool)],ups:=[(16,[[],[(4,[.str,.str,n6,n6,.bool,n6,n6,.str,st',st']),(3,[.str]),(2,[n6,.str,sf,sf,sf])]])],loops:=[(2,[],⟨[sf,(.func 206 [] [(.ptr 1 3 0)]),n6,n6,n6],[[(4,[.str,.str,n6,n6,.bool,n6,n6,.str,st',st']),(3,[.str]),(2,[n6,.str,sf,sf,sf])]],[(some 0,[sf,(.func 206 [] [(.ptr 1 3 0)]),n6,n6,n6],[[(4,[.str,.str,n6,n6,.bool,n6,n6,.str,st',st']),(3,[.str]),(2,[n6,.str,sf,sf,sf])]]),(none,[sf,(.func 206 [] [(.ptr 1 3 0)]),n6,n6,n6],[[(4,[.str,.str,n6,n6,.bool,n6,n6,.str,st',st']),(3,[.str]),(2,[n6,.str,sf,sf,sf])]])]⟩)]}
theorem aKZ (O:Orc) (LP:LBs) (s:List GVarDef) (u0_4:Str) (u0_40:Str) (u0_400:Int) (u0_4000:Int) (u0_40000:Bool) (u0_400000:Int) (u0_4000000:Int) (u0_40000000:Str) (u0_3:Str) (u0_2:GOp):eW 204 aKY Tryz.f204 O LP [(zq aC s),(.func (.func 206) [] [(.ptr 1 3 0)])] [[(4,[(.str u0_4),(.str u0_40),(i6 u0_400),(i6 u0_4000),(.bool u0_40000),(i6 u0_400000),(i6 u0_4000000),(.str u0_40000000),(.slice [] [] true),(.slice [] [] true)]),(3,[(.str u0_3)]),(2,[(i6 u0_2.kind),(.str u0_2.name),(zq aC u0_2.vars),(zq aK u0_2.dirs),(zq aG u0_2.sels)])]]=vF O LP s u0_4 u0_40 u0_400 u0_4000 u0_40000 u0_400000 u0_4000000 u0_40000000 u0_3 u0_2:=by kernel_rfl
theorem aF3 (s:List GVarDef) (u0_4:Str) (u0_40:Str) (u0_400:Int) (u0_4000:Int) (u0_40000:Bool) (u0_400000:Int) (u0_4000000:Int) (u0_40000000:Str) (u0_3:Str) (u0_2:GOp):Lok (aIB s u0_4 u0_40 u0_400 u0_4000 u0_40000 u0_400000 u0_4000000 u0_40000000 u0_3 u0_2) (gP s u0_4 u0_40 u0_400 u0_4000 u0_40000 u0_400000 u0_4000000 u0_40000000 u0_3 u0_2) (vE O aF) (aIC s u0_4 u0_40 u0_400 u0_4000 u0_40000 u0_400000 u0_4000000 u0_40000000 u0_3 u0_2):=by
 rintro t_6 l u ⟨rfl,rfl⟩
 simp only [gP,vE,zd,zr]
 refine zG ?_
 try simp only [evs,tys]
 apply Imp.cnd
 ·refine zX aC jL fun y8 _ => ?_
  try simp only [evs,tys]
  refine Imp.gcall (f:=aA) (fu:=fun a=>[]::mY y8 u0_4 u0_40 u0_400 u0_4000 u0_40000 u0_400000 u0_4000000 u0_40000000 u0_3 u0_2 a) (fun a h=>by first | exact fI rfl rfl (by first | rfl | (simp only [zes,tys];rfl)) (bN h) | (have h':=bN h;simp only [evs,tys,evl,mY] at h';exact fI rfl rfl (by first | rfl | (simp only [zes,tys];rfl)) h')) zK (fun a=>by first | rfl | (simp only [mY,evs,tys];first | rfl | (cases w<;>rfl))) fun y10 hy10 => ?_
  try simp only [aA,mY,evs,tys]
  apply Imp.cnd
  ·exact zT ⟨t_6,zE⟩
  ·exact zN
 ·exact zB ⟨t_6,zE⟩
theorem aID (s:List GVarDef) (u0_4:Str) (u0_40:Str) (u0_400:Int) (u0_4000:Int) (u0_40000:Bool) (u0_400000:Int) (u0_4000000:Int) (u0_40000000:Str) (u0_3:Str) (u0_2:GOp):Imp (rA s u0_4 u0_40 u0_400 u0_4000 u0_40000 u0_400000 u0_4000000 u0_40000000 u0_3 u0_2) (vF O aF s u0_4 u0_40 u0_400 u0_4000 u0_40000 u0_400000 u0_4000000 u0_40000000 u0_3 u0_2) (fun r v=>v=(dP r,(gX s u0_4 u0_40 u0_400 u0_4000 u0_40000 u0_400000 u0_4000000 u0_40000000 u0_3 u0_2 r))):=by
 simp only [rA,vF,zd,zr]
 try simp only [evs,tys]
 refine zL (aF3 s u0_4 u0_40 u0_400 u0_4000 u0_40000 u0_400000 u0_4000000 u0_40000000 u0_3 u0_2) ?_
 rintro (p | t_12) vy14 hy14
 ·try simp only [aN,aO]
  obtain ⟨t_11,rfl⟩:=hy14
  refine zH ?_
  try simp only [evs,tys]
  exact Imp.some (by first | rfl | simp only [zes,gX,evs,tys,evl])
 ·try simp only [aN,aO]
  obtain ⟨t_13,rfl⟩:=hy14
  refine Imp.exMiss rfl ?_
  refine zH ?_
  try simp only [evs,tys]
  exact Imp.some (by first | rfl | simp only [zes,gX,evs,tys,evl])
theorem aIE {s:List GVarDef} {u0_4:Str} {u0_40:Str} {u0_400:Int} {u0_4000:Int} {u0_40000:Bool} {u0_400000:Int} {u0_4000000:Int} {u0_40000000:Str} {u0_3:Str} {u0_2:GOp} {r:Int} (h:rA s u0_4 u0_40 u0_400 u0_4000 u0_40000 u0_400000 u0_4000000 u0_40000000 u0_3 u0_2=some r):aB9 s u0_4 u0_40 u0_400 u0_4000 u0_40000 u0_400000 u0_4000000 u0_40000000 u0_3 u0_2=some r:=zV uN (aID s u0_4 u0_40 u0_400 u0_4000 u0_40000 u0_400000 u0_4000000 u0_40000000 u0_3 u0_2) Tryz.func204 (aKZ _ _ s u0_4 u0_40 u0_400 u0_4000 u0_40000 u0_400000 u0_4000000 u0_40000000 u0_3 u0_2) h
def aEZ (O:Orc) (LP:LBs) (o:GOp) (name:Str):Option (PV×UP) :=
 bnd (O 204 [(zq aC o.vars),(.func (.func 206) [] [(.ptr 1 3 0)])] [[(4,[(.str []),(.str []),(i6 0),(i6 0),(.bool false),(i6 0),(i6 0),(.str []),(.slice [] [] true),(.slice [] [] true)]),(3,[(.str name)]),(2,[(i6 o.kind),(.str o.name),(zq aC o.vars),(zq aK o.dirs),(zq aG o.sels)])]]) fun x1=>cnd (chkU [[(4,[.str,.str,n6,n6,.bool,n6,n6,.str,st',st']),(3,[.str]),(2,[n6,.str,sf,sf,sf])]] x1.2) (cnd (chk n6 x1.1)
 (cnd (decide ((intV x1.1)<0))
 (some ((.tuple [(.agg [(.str []),(.str []),(i6 0),(i6 0),(.bool false),(i6 0),(i6 0),(.str []),(.slice [] [] false),(.slice [] [] false)]),(.bool false)]),[]))
 (bnd (ix 10 (zs (bx x1.2 0 2) 2) (i6 (intV x1.1))) fun x3=>cnd (chk (.ref eY) x3)
 (some ((.tuple [(.agg [(zt (rf x3) 0),(zt (rf x3) 1),(zn (rf x3) 2),(zn (rf x3) 3),(zb (rf x3) 4),(zn (rf x3) 5),(zn (rf x3) 6),(zt (rf x3) 7),(zs (rf x3) 8),(zs (rf x3) 9)]),(.bool true)]),[])) none)) none) none
noncomputable def zZ (o:GOp) (name:Str):Option (GVarDef×Bool) :=
 bnd (aB9 o.vars [] [] 0 0 false 0 0 [] name o) fun y2 =>
 cnd (decide (y2<0))
 (some ((GVarDef.mk [] (GType.mk [] 0 0) false (GValue.mk 0 0 [] ([]:List GValue) ([]:List GMember))),false))
 (bnd (nthI o.vars y2) fun y4 =>
 some (y4,true))
def aUX:Decs:={decs:=[(10,n6),(17,(.ref eY))],ups:=[(10,[[(4,[.str,.str,n6,n6,.bool,n6,n6,.str,st',st']),(3,[.str]),(2,[n6,.str,sf,sf,sf])]])]}
theorem aUY (O:Orc) (LP:LBs) (o:GOp) (name:Str):eW 149 aUX Tryz.f149 O LP [(.agg [(i6 o.kind),(.str o.name),(zq aC o.vars),(zq aK o.dirs),(zq aG o.sels)]),(.str name)] []=aEZ O LP o name:=by kernel_rfl
theorem aR5 (o:GOp) (name:Str):Imp (zZ o name) (aEZ O aF o name) (Ri yV):=by
 simp only [zZ,aEZ,zd,zr]
 try simp only [evs,tys]
 refine Imp.gcall (f:=dP) (fu:=fun a=>gX o.vars [] [] 0 0 false 0 0 [] name o a) (fun a h=>by first | exact bN h | (have h':=bN h;simp only [evs,tys,evl,gX] at h';exact h')) zK (fun a=>by first | rfl | (simp only [gX,evs,tys];first | rfl | (cases w<;>rfl))) fun y2 hy2 => ?_
 try simp only [dP,gX,evs,tys]
 apply Imp.cnd
 ·exact zR
 ·refine zX aC jL fun y4 _ => ?_
  try simp only [evs,tys]
  exact zR
theorem aH1 {o:GOp} {name:Str} {r:GVarDef×Bool} (h:zZ o name=some r):aOh o name=some r:=zV aXT (aR5 o name) Tryz.func149 (aUY _ _ o name) h
def dS (O:Orc) (LP:LBs) (s:List Str) (v0:Str):Option (PV×UP) :=
 aQ O 200 [(zq PV.str s),(.str v0)] fun x1=>cnd (chk n6 x1)
 (some ((.bool (decide ((intV x1)≥0))),[])) none
noncomputable def cS (s:List Str) (v0:Str):Option Bool :=
 bnd (dV s v0) fun y2 =>
 some (decide (y2≥0))
def pP:Decs:={decs:=[(7,n6)]}
theorem pQ (O:Orc) (LP:LBs) (s:List Str) (v0:Str):eW 136 pP Tryz.f136 O LP [(zq PV.str s),(.str v0)] []=dS O LP s v0:=by kernel_rfl
theorem pD (s:List Str) (v0:Str):Imp (cS s v0) (dS O aF s v0) (Ri aA):=by
 simp only [cS,dS,zd,zr]
 try simp only [evs,tys]
 refine zC rfl fun y2 _ => ?_
 try simp only [zes,evs,tys]
 exact zR
theorem pE {s:List Str} {v0:Str} {r:Bool} (h:cS s v0=some r):bL s v0=some r:=zV aD (pD s v0) Tryz.func136 (pQ _ _ s v0) h
def vG (O:Orc) (LP:LBs) (s:GSchema) (name:Str):Option (PV×UP) :=
 aQ O 159 [(eS s),(.str name),(i6 1),(i6 2),(i6 3)] fun x1=>cnd (chk .bool x1)
 (some ((.bool (bC x1)),[])) none
noncomputable def rB (s:GSchema) (name:Str):Option Bool :=
 bnd (bAv s name 1 2 3) fun y2 =>
 some y2
def aK0:Decs:={decs:=[(7,.bool)]}
theorem aK1 (O:Orc) (LP:LBs) (s:GSchema) (name:Str):eW 112 aK0 Tryz.f112 O LP [(eS s),(.str name)] []=vG O LP s name:=by kernel_rfl
theorem aIF (s:GSchema) (name:Str):Imp (rB s name) (vG O aF s name) (Ri aA):=by
 simp only [rB,vG,zd,zr]
 try simp only [evs,tys]
 refine zC rfl fun y2 _ => ?_
 try simp only [zes,evs,tys]
 exact zR
theorem aIG {s:GSchema} {name:Str} {r:Bool} (h:rB s name=some r):aCa s name=some r:=zV aD (aIF s name) Tryz.func112 (aK1 _ _ s name) h
abbrev fP:List Sh:=[.str,(.ptr 0 6 0),.bool,(.ptr 0 8 0),n6,n6,.str,sf,sf,sf,sf,.str,st',.str,n6,n6,st',sf,.str,.str]
def qP (O:Orc) (LP:LBs):bM:=fun s5 s5u=>cnd (chkL fP s5) (cnd (chkU [] s5u)
 (cnd (decide ((iv s5 4)<(List.length (ev s5 8):Int)))
 (bnd (ix 6 (zs s5 8) (zn s5 4)) fun x11=>cnd (chk (.ref nO) x11)
 (cnd ((sv (rf x11) 0)==(sv s5 0))
 (bnd (ix 6 (zs s5 8) (zn s5 4)) fun x13=>cnd (chk (.ref nO) x13)
 (some (.ret,(pu (pu (pu (pu (pu (pu (pu (rb fP s5) 2 (.bool true)) 11 (zt (rf x13) 0)) 12 (zs (rf x13) 1)) 13 (zt (rf x13) 2)) 14 (zn (rf x13) 3)) 15 (zn (rf x13) 4)) 16 (zs (rf x13) 5)),[])) none)
 (some (.nrm,(pu (rb fP s5) 4 (i6 (w6 ((iv s5 4)+1)))),[]))) none)
 (some (.brk 0,(rb fP s5),[]))) none) none
def aE0 (O:Orc) (LP:LBs) (s:GSchema) (typ:Str) (name:Str):Option (PV×UP) :=
 cnd (name==([95,95,116,121,112,101,110,97,109,101]:Str))
 (aQ O 112 [(eS s),(.str typ)] fun x1=>cnd (chk .bool x1)
 (cnd (bC x1)
 (some ((.tuple [(.agg [(.str name),(.slice [] [] false),(.str [83,116,114,105,110,103]),(i6 0),(i6 1),(.slice [] [] false)]),(.bool true)]),[]))
 (aQ O 164 [(eS s),(.str typ)] fun x3=>cnd (chk (.tup [uK,.bool]) x3)
 (cnd ((iv (tg x3 0) 0) != 1)
 (cnd ((iv (tg x3 0) 0) != 2)
 (some ((.tuple [(.agg [(.str []),(.slice [] [] false),(.str []),(i6 0),(i6 0),(.slice [] [] false)]),(.bool false)]),[]))
 (bnd (LP (qP O LP) [(.str name),(.ptr 0 6 0),(.bool false),(.ptr 0 8 0),(i6 0),(zn (tg x3 0) 0),(zt (tg x3 0) 1),(zs (tg x3 0) 2),(zs (tg x3 0) 3),(zs (tg x3 0) 4),(zs (tg x3 0) 5),(.str []),(.slice [] [] true),(.str []),(i6 0),(i6 0),(.slice [] [] true),(zq aM s.defs),(.str s.query),(.str s.mutation)] []) fun y23 =>
 exIs y23.1 (some 0) (cnd (chkL fP y23.2.1) (cnd (chkU [] y23.2.2)
 (some ((.tuple [(.agg [(.str []),(.slice [] [] false),(.str []),(i6 0),(i6 0),(.slice [] [] false)]),(.bool false)]),[])) none) none)
 (exIs y23.1 none (cnd (chkL [.str,(.ptr 0 6 0),.bool,(.ptr 0 8 0),n6,n6,.str,sf,sf,sf,sf,.str,sf,.str,n6,n6,sf,sf,.str,.str] y23.2.1) (cnd (chkU [] y23.2.2)
 (some ((.tuple [(.agg [(zt y23.2.1 11),(zs y23.2.1 12),(zt y23.2.1 13),(zn y23.2.1 14),(zn y23.2.1 15),(zs y23.2.1 16)]),(zb y23.2.1 2)]),[])) none) none)
 (none))))
 (bnd (LP (qP O LP) [(.str name),(.ptr 0 6 0),(.bool false),(.ptr 0 8 0),(i6 0),(zn (tg x3 0) 0),(zt (tg x3 0) 1),(zs (tg x3 0) 2),(zs (tg x3 0) 3),(zs (tg x3 0) 4),(zs (tg x3 0) 5),(.str []),(.slice [] [] true),(.str []),(i6 0),(i6 0),(.slice [] [] true),(zq aM s.defs),(.str s.query),(.str s.mutation)] []) fun y42 =>
 exIs y42.1 (some 0) (cnd (chkL fP y42.2.1) (cnd (chkU [] y42.2.2)
 (some ((.tuple [(.agg [(.str []),(.slice [] [] false),(.str []),(i6 0),(i6 0),(.slice [] [] false)]),(.bool false)]),[])) none) none)
 (exIs y42.1 none (cnd (chkL [.str,(.ptr 0 6 0),.bool,(.ptr 0 8 0),n6,n6,.str,sf,sf,sf,sf,.str,sf,.str,n6,n6,sf,sf,.str,.str] y42.2.1) (cnd (chkU [] y42.2.2)
 (some ((.tuple [(.agg [(zt y42.2.1 11),(zs y42.2.1 12),(zt y42.2.1 13),(zn y42.2.1 14),(zn y42.2.1 15),(zs y42.2.1 16)]),(zb y42.2.1 2)]),[])) none) none)
 (none)))) none)) none)
 (aQ O 164 [(eS s),(.str typ)] fun x43=>cnd (chk (.tup [uK,.bool]) x43)
 (cnd ((iv (tg x43 0) 0) != 1)
 (cnd ((iv (tg x43 0) 0) != 2)
 (some ((.tuple [(.agg [(.str []),(.slice [] [] false),(.str []),(i6 0),(i6 0),(.slice [] [] false)]),(.bool false)]),[]))
 (bnd (LP (qP O LP) [(.str name),(.ptr 0 6 0),(.bool false),(.ptr 0 8 0),(i6 0),(zn (tg x43 0) 0),(zt (tg x43 0) 1),(zs (tg x43 0) 2),(zs (tg x43 0) 3),(zs (tg x43 0) 4),(zs (tg x43 0) 5),(.str []),(.slice [] [] true),(.str []),(i6 0),(i6 0),(.slice [] [] true),(zq aM s.defs),(.str s.query),(.str s.mutation)] []) fun y63 =>
 exIs y63.1 (some 0) (cnd (chkL fP y63.2.1) (cnd (chkU [] y63.2.2)
 (some ((.tuple [(.agg [(.str []),(.slice [] [] false),(.str []),(i6 0),(i6 0),(.slice [] [] false)]),(.bool false)]),[])) none) none)
 (exIs y63.1 none (cnd (chkL [.str,(.ptr 0 6 0),.bool,(.ptr 0 8 0),n6,n6,.str,sf,sf,sf,sf,.str,sf,.str,n6,n6,sf,sf,.str,.str] y63.2.1) (cnd (chkU [] y63.2.2)
 (some ((.tuple [(.agg [(zt y63.2.1 11),(zs y63.2.1 12),(zt y63.2.1 13),(zn y63.2.1 14),(zn y63.2.1 15),(zs y63.2.1 16)]),(zb y63.2.1 2)]),[])) none) none)
 (none))))
 (bnd (LP (qP O LP) [(.str name),(.ptr 0 6 0),(.bool false),(.ptr 0 8 0),(i6 0),(zn (tg x43 0) 0),(zt (tg x43 0) 1),(zs (tg x43 0) 2),(zs (tg x43 0) 3),(zs (tg x43 0) 4),(zs (tg x43 0) 5),(.str []),(.slice [] [] true),(.str []),(i6 0),(i6 0),(.slice [] [] true),(zq aM s.defs),(.str s.query),(.str s.mutation)] []) fun y82 =>
 exIs y82.1 (some 0) (cnd (chkL fP y82.2.1) (cnd (chkU [] y82.2.2)
 (some ((.tuple [(.agg [(.str []),(.slice [] [] false),(.str []),(i6 0),(i6 0),(.slice [] [] false)]),(.bool false)]),[])) none) none)
 (exIs y82.1 none (cnd (chkL [.str,(.ptr 0 6 0),.bool,(.ptr 0 8 0),n6,n6,.str,sf,sf,sf,sf,.str,sf,.str,n6,n6,sf,sf,.str,.str] y82.2.1) (cnd (chkU [] y82.2.2)
 (some ((.tuple [(.agg [(zt y82.2.1 11),(zs y82.2.1 12),(zt y82.2.1 13),(zn y82.2.1 14),(zn y82.2.1 15),(zs y82.2.1 16)]),(zb y82.2.1 2)]),[])) none) none)
 (none)))) none)
noncomputable def fQ (name:Str) (y4:GDef×Bool):Int→Option (Int⊕(Unit⊕(Str×(List GParam)×Str×Int×Int×(List GDir))))
 | i_10 =>
 cnd (decide (i_10<(List.length y4.1.fields:Int)))
  (bnd (nthI y4.1.fields i_10) fun y12 =>
  cnd (y12.name==name)
  (bnd (nthI y4.1.fields i_10) fun y14 =>
  some (.inr (.inr (y14.name,y14.params,y14.t.name,y14.t.lists,y14.t.musts,y14.dirs))))
  (some (.inl (IntKind.wrap .i64 (i_10+1)))))
  (some (.inr (.inl ())))
abbrev aCE (s:GSchema) (name:Str) (y4:GDef×Bool) (a0 a1 a2 a3 a4 a5 a6 a7:PV):List PV:=[(.str name),(.ptr 0 6 0),a0,(.ptr 0 8 0),a1,(i6 y4.1.kind),(.str y4.1.name),(zq PV.str y4.1.faces),(zq bO y4.1.fields),(zq PV.str y4.1.parts),(zq aX y4.1.params),a2,a3,a4,a5,a6,a7,(zq aM s.defs),(.str s.query),(.str s.mutation)]
abbrev aH2 (s:GSchema) (name:Str) (y4:GDef×Bool) (st:Int) (l:List PV) (u:UP):Prop:=l=(aCE s name y4 (.bool false) (i6 st) (.str []) (.slice [] [] true) (.str []) (i6 0) (i6 0) (.slice [] [] true))∧u=[]
abbrev aR6 (s:GSchema) (name:Str) (y4:GDef×Bool) (p:Unit⊕(Str×(List GParam)×Str×Int×Int×(List GDir))) (r:EU):Prop:=elim p (fun (p:Unit)=>∃ (i_15:Int),r=(Ex.brk 0,(aCE s name y4 (.bool false) (i6 i_15) (.str []) (.slice [] [] true) (.str []) (i6 0) (i6 0) (.slice [] [] true)),[])) (fun (p:Str×(List GParam)×Str×Int×Int×(List GDir))=>∃ (i_16:Int),r=(Ex.ret,(aCE s name y4 (.bool true) (i6 i_16) (.str p.1) (zq aX p.2.1) (.str p.2.2.1) (i6 p.2.2.2.1) (i6 p.2.2.2.2.1) (zq aK p.2.2.2.2.2)),[]))
noncomputable def aDi (s:GSchema) (typ:Str) (name:Str):Option (GFieldDef×Bool) :=
 cnd (name==([95,95,116,121,112,101,110,97,109,101]:Str))
 (bnd (aCa s typ) fun y2 =>
 cnd y2
 (some ((GFieldDef.mk name ([]:List GParam) (GType.mk [83,116,114,105,110,103] 0 1) ([]:List GDir)),true))
 (bnd (aAx s typ) fun y4 =>
 cnd (y4.1.kind != 1)
 (cnd (y4.1.kind != 2)
 (some ((GFieldDef.mk [] ([]:List GParam) (GType.mk [] 0 0) ([]:List GDir)),false))
 (bnd (aY (fQ name y4) 0) fun e23_2=>elim e23_2
 (fun p23 =>
 some ((GFieldDef.mk [] ([]:List GParam) (GType.mk [] 0 0) ([]:List GDir)),false))
 (fun p23 =>
 some ((GFieldDef.mk p23.1 p23.2.1 (GType.mk p23.2.2.1 p23.2.2.2.1 p23.2.2.2.2.1) p23.2.2.2.2.2),true))))
 (bnd (aY (fQ name y4) 0) fun e42_2=>elim e42_2
 (fun p42 =>
 some ((GFieldDef.mk [] ([]:List GParam) (GType.mk [] 0 0) ([]:List GDir)),false))
 (fun p42 =>
 some ((GFieldDef.mk p42.1 p42.2.1 (GType.mk p42.2.2.1 p42.2.2.2.1 p42.2.2.2.2.1) p42.2.2.2.2.2),true)))))
 (bnd (aAx s typ) fun y44 =>
 cnd (y44.1.kind != 1)
 (cnd (y44.1.kind != 2)
 (some ((GFieldDef.mk [] ([]:List GParam) (GType.mk [] 0 0) ([]:List GDir)),false))
 (bnd (aY (fQ name y44) 0) fun e63_2=>elim e63_2
 (fun p63 =>
 some ((GFieldDef.mk [] ([]:List GParam) (GType.mk [] 0 0) ([]:List GDir)),false))
 (fun p63 =>
 some ((GFieldDef.mk p63.1 p63.2.1 (GType.mk p63.2.2.1 p63.2.2.2.1 p63.2.2.2.2.1) p63.2.2.2.2.2),true))))
 (bnd (aY (fQ name y44) 0) fun e82_2=>elim e82_2
 (fun p82 =>
 some ((GFieldDef.mk [] ([]:List GParam) (GType.mk [] 0 0) ([]:List GDir)),false))
 (fun p82 =>
 some ((GFieldDef.mk p82.1 p82.2.1 (GType.mk p82.2.2.1 p82.2.2.2.1 p82.2.2.2.2.1) p82.2.2.2.2.2),true))))
def aUZ:Decs:={decs:=[(16,.bool),(24,(.tup [uK,.bool])),(46,(.ref nO)),(54,(.ref nO))],loops:=[(7,[(8,6),(6,6),(3,3)],⟨fP,[],[(some 0,fP,[]),(none,[.str,(.ptr 0 6 0),.bool,(.ptr 0 8 0),n6,n6,.str,sf,sf,sf,sf,.str,sf,.str,n6,n6,sf,sf,.str,.str],[])]⟩)]}
theorem aU0 (O:Orc) (LP:LBs) (s:GSchema) (typ:Str) (name:Str):eW 117 aUZ Tryz.f117 O LP [(eS s),(.str typ),(.str name)] []=aE0 O LP s typ name:=by kernel_rfl
theorem rC (s:GSchema) (name:Str) (y4:GDef×Bool):∀ st l u,aH2 s name y4 st l u→Imp (fQ name y4 st) (qP O aF l u) (oE (aH2 s name y4) (aR6 s name y4)):=by
 rintro i_10 l u ⟨rfl,rfl⟩
 simp only [fQ,qP,zd,zr]
 refine zG ?_
 try simp only [evs,tys]
 apply Imp.cnd
 ·refine zX bO aAv fun y12 _ => ?_
  try simp only [evs,tys]
  apply Imp.cnd
  ·refine zX bO aAv fun y14 _ => ?_
   try simp only [evs,tys]
   exact zT ⟨i_10,zE⟩
  ·exact zN
 ·exact zB ⟨i_10,zE⟩
theorem aR7 (s:GSchema) (typ:Str) (name:Str):Imp (aDi s typ name) (aE0 O aF s typ name) (Ri yW):=by
 simp only [aDi,aE0,zd,zr]
 try simp only [evs,tys]
 apply Imp.cnd
 ·refine zC rfl fun y2 _ => ?_
  try simp only [zes,evs,tys]
  apply Imp.cnd
  ·exact zR
  ·refine zC rfl fun y4 _ => ?_
   try simp only [zes,evs,tys]
   apply Imp.cnd
   ·apply Imp.cnd
    ·exact zR
    ·refine zL (rC s name y4) ?_
     rintro (p | ⟨b_17,b_18,b_19,b_20,b_21,b_22⟩) vy23 hy23
     ·try simp only [aN,aO]
      obtain ⟨i_15,rfl⟩:=hy23
      refine zH ?_
      try simp only [evs,tys]
      exact zR
     ·try simp only [aN,aO]
      obtain ⟨i_16,rfl⟩:=hy23
      refine Imp.exMiss rfl ?_
      refine zH ?_
      try simp only [evs,tys]
      exact zR
   ·refine zL (rC s name y4) ?_
    rintro (p | ⟨b_36,b_37,b_38,b_39,b_40,b_41⟩) vy42 hy42
    ·try simp only [aN,aO]
     obtain ⟨i_34,rfl⟩:=hy42
     refine zH ?_
     try simp only [evs,tys]
     exact zR
    ·try simp only [aN,aO]
     obtain ⟨i_35,rfl⟩:=hy42
     refine Imp.exMiss rfl ?_
     refine zH ?_
     try simp only [evs,tys]
     exact zR
 ·refine zC rfl fun y44 _ => ?_
  try simp only [zes,evs,tys]
  apply Imp.cnd
  ·apply Imp.cnd
   ·exact zR
   ·refine zL (rC s name y44) ?_
    rintro (p | ⟨b_57,b_58,b_59,b_60,b_61,b_62⟩) vy63 hy63
    ·try simp only [aN,aO]
     obtain ⟨i_55,rfl⟩:=hy63
     refine zH ?_
     try simp only [evs,tys]
     exact zR
    ·try simp only [aN,aO]
     obtain ⟨i_56,rfl⟩:=hy63
     refine Imp.exMiss rfl ?_
     refine zH ?_
     try simp only [evs,tys]
     exact zR
  ·refine zL (rC s name y44) ?_
   rintro (p | ⟨b_76,b_77,b_78,b_79,b_80,b_81⟩) vy82 hy82
   ·try simp only [aN,aO]
    obtain ⟨i_74,rfl⟩:=hy82
    refine zH ?_
    try simp only [evs,tys]
    exact zR
   ·try simp only [aN,aO]
    obtain ⟨i_75,rfl⟩:=hy82
    refine Imp.exMiss rfl ?_
    refine zH ?_
    try simp only [evs,tys]
    exact zR
theorem aR8 {s:GSchema} {typ:Str} {name:Str} {r:GFieldDef×Bool} (h:aDi s typ name=some r):aOi s typ name=some r:=zV aXU (aR7 s typ name) Tryz.func117 (aU0 _ _ s typ name) h
abbrev vH:List Sh:=[sf,st',n6,sf,n6]
def aHb (O:Orc) (LP:LBs):bM:=fun s34 s34u=>cnd (chkL vH s34) (cnd (chkU [] s34u)
 (cnd (decide ((iv s34 4)<(List.length (ev s34 3):Int)))
 (bnd (ix 1 (zs s34 3) (zn s34 4)) fun x45=>cnd (chk (.ref .str) x45)
 (aQ O 29 [(zs s34 1),(.str (strV (refV x45)))] fun x47=>cnd (chk .bool x47)
 (cnd (!(bC x47))
 (bnd (ix 1 (zs s34 3) (zn s34 4)) fun x49=>cnd (chk (.ref .str) x49)
 (bnd (apd 1 (zo s34 1) (.slice [(.str (strV (refV x49)))] [] true)) fun x51=>cnd (chk st' x51)
 (some (.nrm,[(zs s34 0),(.slice (esV x51) [] true),(zn s34 2),(zs s34 3),(i6 (w6 ((iv s34 4)+1)))],[])) none) none)
 (some (.nrm,(pu (rb vH s34) 4 (i6 (w6 ((iv s34 4)+1)))),[]))) none) none)
 (some (.brk 2,(rb vH s34),[]))) none) none
def aHc (O:Orc) (LP:LBs):bM:=fun s1 s1u=>cnd (chkL [sf,st',n6] s1) (cnd (chkU [] s1u)
 (cnd (decide ((iv s1 2)<(List.length (ev s1 0):Int)))
 (bnd (ix 6 (zs s1 0) (zn s1 2)) fun x30=>cnd (chk (.ref dU) x30)
 (aQ O 214 [(.agg [(zn (rf x30) 1),(zn (rf x30) 2),(zt (rf x30) 3),(zs (rf x30) 4),(zs (rf x30) 5)])] fun x32=>cnd (chk sf x32)
 (bnd (LP (aHb O LP) [(zs s1 0),(zo s1 1),(zn s1 2),(.slice (esV x32) [] false),(i6 0)] []) fun y55 =>
 exIs y55.1 (some 2) (cnd (chkL [sf,st',n6,sf,n6] y55.2.1) (cnd (chkU [] y55.2.2)
 (some (.nrm,[(zs y55.2.1 0),(zo y55.2.1 1),(i6 (w6 ((iv y55.2.1 2)+1)))],[])) none) none)
 (none)) none) none)
 (some (.brk 0,[(zs s1 0),(zo s1 1),(zn s1 2)],[]))) none) none
def aHd (O:Orc) (LP:LBs) (m:List GMember) (out0:List Str):Option (PV×UP) :=
 bnd (LP (aHc O LP) [(zq aE m),(zp PV.str out0),(i6 0)] []) fun y58 =>
 exIs y58.1 (some 0) (cnd (chkL [sf,st',n6] y58.2.1) (cnd (chkU [] y58.2.2)
 (some ((zo y58.2.1 1),[])) none) none)
 (none)
noncomputable def nG (y33:List Str):((List Str)×Int)→Option (((List Str)×Int)⊕((List Str)))
 | (out_43,k_44) =>
 cnd (decide (k_44<(List.length y33:Int)))
  (bnd (nthI y33 k_44) fun y46 =>
  bnd (aBi out_43 y46) fun y48 =>
  cnd (!y48)
  (bnd (nthI y33 k_44) fun y50 =>
  bnd (tapp out_43 [y50]) fun y52 =>
  some (.inl (y52,(IntKind.wrap .i64 (k_44+1)))))
  (some (.inl (out_43,(IntKind.wrap .i64 (k_44+1))))))
  (some (.inr out_43))
abbrev aK2 (m:List GMember) (i_29:Int) (y33:List Str) (st:(List Str)×Int) (l:List PV) (u:UP):Prop:=l=[(zq aE m),(zp PV.str st.1),(i6 i_29),(zq PV.str y33),(i6 st.2)]∧u=[]
abbrev aU1 (m:List GMember) (i_29:Int) (y33:List Str) (p:(List Str)) (r:EU):Prop:=(fun (p:(List Str))=>∃ (k_54:Int),r=(Ex.brk 2,[(zq aE m),(zp PV.str p),(i6 i_29),(zq PV.str y33),(i6 k_54)],[])) p
noncomputable def qQ (m:List GMember):((List Str)×Int)→Option (((List Str)×Int)⊕((List Str)))
 | (out_28,i_29) =>
 cnd (decide (i_29<(List.length m:Int)))
  (bnd (nthI m i_29) fun y31 =>
  bnd (aTO y31.v) fun y33 =>
  bnd (aY (nG y33) (out_28,0)) fun out_53 =>
  some (.inl (out_53,(IntKind.wrap .i64 (i_29+1)))))
  (some (.inr out_28))
abbrev aU2 (m:List GMember) (st:(List Str)×Int) (l:List PV) (u:UP):Prop:=l=[(zq aE m),(zp PV.str st.1),(i6 st.2)]∧u=[]
abbrev aU3 (m:List GMember) (p:(List Str)) (r:EU):Prop:=(fun (p:(List Str))=>∃ (i_57:Int),r=(Ex.brk 0,[(zq aE m),(zp PV.str p),(i6 i_57)],[])) p
noncomputable def aF4 (m:List GMember) (out0:List Str):Option (List Str) :=
 bnd (aY (qQ m) (out0,0)) fun out_56 =>
 some out_56
def aYx:Decs:={decs:=[(16,(.ref dU)),(19,sf),(29,(.ref .str)),(31,.bool),(36,(.ref .str)),(39,st')],loops:=[(2,[],⟨[sf,st',n6],[],[(some 0,[sf,st',n6],[])]⟩),(6,[],⟨vH,[],[(some 2,vH,[])]⟩)]}
theorem aYy (O:Orc) (LP:LBs) (m:List GMember) (out0:List Str):eW 220 aYx Tryz.f220 O LP [(zq aE m),(zp PV.str out0)] []=aHd O LP m out0:=by kernel_rfl
theorem aPc (m:List GMember) (i_29:Int) (y33:List Str):∀ st l u,aK2 m i_29 y33 st l u→Imp (nG y33 st) (aHb O aF l u) (oE (aK2 m i_29 y33) (aU1 m i_29 y33)):=by
 rintro ⟨out_43,k_44⟩ l u ⟨rfl,rfl⟩
 simp only [nG,aHb,zd,zr]
 refine zG ?_
 try simp only [evs,tys]
 apply Imp.cnd
 ·refine zX PV.str (fun _=>rfl) fun y46 _ => ?_
  try simp only [evs,tys]
  refine zC rfl fun y48 _ => ?_
  try simp only [zes,evs,tys]
  apply Imp.cnd
  ·refine zX PV.str (fun _=>rfl) fun y50 _ => ?_
   try simp only [evs,tys]
   refine Imp.op (f:=fun a => .slice (List.map PV.str a) [] true) (fun a h=>aBg (enc:=PV.str) zI zI (fun a=>by first | rfl | simp only [evs,tys,evc]) h) (fun a=>rfl) fun y52 hy52 => ?_
   try simp only [evs,tys]
   exact zN
  ·exact zN
 ·exact zB ⟨k_44,zE⟩
theorem aPd (m:List GMember):Lok (aU2 m) (qQ m) (aHc O aF) (aU3 m):=by
 rintro ⟨out_28,i_29⟩ l u ⟨rfl,rfl⟩
 simp only [qQ,aHc,zd,zr]
 refine zG ?_
 try simp only [evs,tys]
 apply Imp.cnd
 ·refine zX aE fY fun y31 _ => ?_
  try simp only [evs,tys]
  refine zC rfl fun y33 _ => ?_
  try simp only [zes,evs,tys]
  refine zL (aPc m i_29 y33) ?_
  rintro out_53 _ ⟨k_54,rfl⟩
  refine zH ?_
  try simp only [evs,tys]
  exact zN
 ·exact zB ⟨i_29,zE⟩
theorem aU4 (m:List GMember) (out0:List Str):Imp (aF4 m out0) (aHd O aF m out0) (Ri eZ):=by
 simp only [aF4,aHd,zd,zr]
 try simp only [evs,tys]
 refine zL (aPd m) ?_
 rintro out_56 _ ⟨i_57,rfl⟩
 refine zH ?_
 try simp only [evs,tys]
 exact zR
theorem aU5 {m:List GMember} {out0:List Str} {r:List Str} (h:aF4 m out0=some r):aOj m out0=some r:=zV rN (aU4 m out0) Tryz.func220 (aYy _ _ m out0) h
def aE1 (O:Orc) (LP:LBs) (c:Int):Option (PV×UP) :=
 cnd (decide (c≥97))
 (cnd (decide (c≤122))
 (some ((.bool true),[]))
 (cnd (decide (c≥65))
 (cnd (decide (c≤90))
 (some ((.bool true),[]))
 (some ((.bool (c==95)),[])))
 (some ((.bool (c==95)),[]))))
 (cnd (decide (c≥65))
 (cnd (decide (c≤90))
 (some ((.bool true),[]))
 (some ((.bool (c==95)),[])))
 (some ((.bool (c==95)),[])))
noncomputable def aDj (c:Int):Option Bool :=
 cnd (decide (c≥97))
 (cnd (decide (c≤122))
 (some true)
 (cnd (decide (c≥65))
 (cnd (decide (c≤90))
 (some true)
 (some (c==95)))
 (some (c==95))))
 (cnd (decide (c≥65))
 (cnd (decide (c≤90))
 (some true)
 (some (c==95)))
 (some (c==95)))
def aU6:Decs:={}
theorem aU7 (O:Orc) (LP:LBs) (c:Int):eW 169 aU6 Tryz.f169 O LP [(.int .u8 c)] []=aE1 O LP c:=by kernel_rfl
theorem aR9 (c:Int):Imp (aDj c) (aE1 O aF c) (Ri aA):=by
 simp only [aDj,aE1,zd,zr]
 try simp only [evs,tys]
 apply Imp.cnd
 ·apply Imp.cnd
  ·exact zR
  ·apply Imp.cnd
   ·apply Imp.cnd
    ·exact zR
    ·exact zR
   ·exact zR
 ·apply Imp.cnd
  ·apply Imp.cnd
   ·exact zR
   ·exact zR
  ·exact zR
theorem aSa {c:Int} {r:Bool} (h:aDj c=some r):aI2 c=some r:=zV aD (aR9 c) Tryz.func169 (aU7 _ _ c) h
def aAX (O:Orc) (LP:LBs) (v0:GValue):Option (PV×UP) :=
 aQ O 230 [(.slice [] [] true),(eV v0)] fun x1=>cnd (chk st' x1)
 (some ((.slice (esV x1) [] false),[])) none
noncomputable def wU (v0:GValue):Option (List Str) :=
 bnd (yX ([]:List Str) v0) fun y2 =>
 some y2
def aPe:Decs:={decs:=[(4,st')]}
theorem aPf (O:Orc) (LP:LBs) (v0:GValue):eW 207 aPe Tryz.f207 O LP [(eV v0)] []=aAX O LP v0:=by kernel_rfl
theorem aMo (v0:GValue):Imp (wU v0) (aAX O aF v0) (Ri cO):=by
 simp only [wU,aAX,zd,zr]
 try simp only [evs,tys]
 refine zC rfl fun y2 _ => ?_
 try simp only [zes,evs,tys]
 exact zR
theorem aMp {v0:GValue} {r:List Str} (h:wU v0=some r):aGM v0=some r:=zV lO (aMo v0) Tryz.func207 (aPf _ _ v0) h
theorem aK3 {l0:List Str} {name:Str} {r:List Str} (h:aJY l0 name=some r):aEh l0 name=some r:=aQu (aAp qU) (bFa (g:=aD9) rfl (aXN h))
end Go.Proofs.YtphmfillajagdaaGreat

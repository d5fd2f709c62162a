import Derived.Test.YtphmfillajagdaaGreatGa
import Derived.LoopTactic
import Derived.Test.YtphmfillajagdaaGreatEx
import Derived.WalkKit
import Derived.KernelRfl
import Derived.Test.YtphmfillajagdaaGreatGc
import Derived.Test.YtphmfillajagdaaGreatGb
set_option maxRecDepth 100000
set_option linter.unusedVariables false
set_option linter.unusedSimpArgs false
set_option linter.unusedSimpArgs false
open Go Go.Ev Go.Ev.PV
namespace Go.Proofs.YtphmfillajagdaaGreat
abbrev fS:List Sh:=[(.ptr 0 2 0),st',n6,sf,sf]
def sN (O:Orc) (LP:LBs):bM:=fun s3 s3u=>cnd (chkL fS s3) (cnd (chkU [] s3u)
 (cnd (decide ((iv s3 2)≥(List.length (ev s3 1):Int)))
 (some (.brk 0,(rb fS s3),[]))
 (bnd (ix 1 (zs s3 1) (zn s3 2)) fun x12=>cnd (chk (.ref .str) x12)
 (aQ O 82 [(.agg [(zs s3 3),(zs s3 4)]),(.str (strV (refV x12)))] fun x14=>cnd (chk (.tup [gH,.bool]) x14)
 (cnd (!(bC (tv x14 1)))
 (some (.nrm,(pu (rb fS s3) 2 (i6 (w6 ((iv s3 2)+1)))),[]))
 (aQ O 69 [(zo s3 1),(zs (tg x14 0) 3)] fun x16=>cnd (chk st' x16)
 (some (.nrm,[(.ptr 0 2 0),(.slice (esV x16) [] true),(i6 (w6 ((iv s3 2)+1))),(zs s3 3),(zs s3 4)],[])) none)) none) none)) none) none
def sO (O:Orc) (LP:LBs) (d:GDoc) (sels:List GSel):Option (PV×UP) :=
 aQ O 69 [(.slice [] [] true),(zq aG sels)] fun x1=>cnd (chk st' x1)
 (bnd (LP (sN O LP) [(.ptr 0 2 0),(.slice (esV x1) [] true),(i6 0),(zq aT d.ops),(zq aH d.frags)] []) fun y20 =>
 exIs y20.1 (some 0) (cnd (chkL fS y20.2.1) (cnd (chkU [] y20.2.2)
 (some ((zs y20.2.1 1),[])) none) none)
 (none)) none
noncomputable def eB (d:GDoc) (sels:List GSel):(Int×(List Str))→Option ((Int×(List Str))⊕((List Str)))
 | (i_10,l_11) =>
 cnd (decide (i_10≥(List.length l_11:Int)))
  (some (.inr l_11))
  (bnd (nthI l_11 i_10) fun y13 =>
  bnd (aC9 d y13) fun y15 =>
  cnd (!y15.2)
  (some (.inl ((IntKind.wrap .i64 (i_10+1)),l_11)))
  (bnd (eG l_11 y15.1.sels) fun y17 =>
  some (.inl ((IntKind.wrap .i64 (i_10+1)),y17))))
abbrev aHe (d:GDoc) (sels:List GSel) (st:Int×(List Str)) (l:List PV) (u:UP):Prop:=l=[(.ptr 0 2 0),(zp PV.str st.2),(i6 st.1),(zq aT d.ops),(zq aH d.frags)]∧u=[]
abbrev aHf (d:GDoc) (sels:List GSel) (p:(List Str)) (r:EU):Prop:=(fun (p:(List Str))=>∃ (i_19:Int),r=(Ex.brk 0,[(.ptr 0 2 0),(zp PV.str p),(i6 i_19),(zq aT d.ops),(zq aH d.frags)],[])) p
noncomputable def pF (d:GDoc) (sels:List GSel):Option (List Str) :=
 bnd (eG ([]:List Str) sels) fun y2 =>
 bnd (aY (eB d sels) (0,y2)) fun l_18 =>
 some l_18
def aIH:Decs:={decs:=[(10,st'),(21,(.ref .str)),(23,(.tup [gH,.bool])),(31,st')],loops:=[(4,[(2,2)],⟨fS,[],[(some 0,fS,[])]⟩)]}
theorem aII (O:Orc) (LP:LBs) (d:GDoc) (sels:List GSel):eW 152 aIH Tryz.f152 O LP [(eD d),(zq aG sels)] []=sO O LP d sels:=by kernel_rfl
theorem aE2 (d:GDoc) (sels:List GSel):Lok (aHe d sels) (eB d sels) (sN O aF) (aHf d sels):=by
 rintro ⟨i_10,l_11⟩ l u ⟨rfl,rfl⟩
 simp only [eB,sN,zd,zr]
 refine zG ?_
 try simp only [evs,tys]
 apply Imp.cnd
 ·exact zB ⟨i_10,zE⟩
 ·refine zX PV.str (fun _=>rfl) fun y13 _ => ?_
  try simp only [evs,tys]
  refine zC rfl fun y15 _ => ?_
  try simp only [zes,evs,tys]
  apply Imp.cnd
  ·exact zN
  ·refine zC rfl fun y17 _ => ?_
   try simp only [zes,evs,tys]
   exact zN
theorem aHg (d:GDoc) (sels:List GSel):Imp (pF d sels) (sO O aF d sels) (Ri cO):=by
 simp only [pF,sO,zd,zr]
 try simp only [evs,tys]
 refine zC rfl fun y2 _ => ?_
 try simp only [zes,evs,tys]
 refine zL (aE2 d sels) ?_
 rintro l_18 _ ⟨i_19,rfl⟩
 refine zH ?_
 try simp only [evs,tys]
 exact zR
theorem aHh {d:GDoc} {sels:List GSel} {r:List Str} (h:pF d sels=some r):aAz d sels=some r:=zV lO (aHg d sels) Tryz.func152 (aII _ _ d sels) h
def aHi (O:Orc) (LP:LBs) (s:GSchema) (name:Str) (kinds:List Int):Option (PV×UP) :=
 aQ O 178 [(eS s),(.str name)] fun x1=>cnd (chk (.tup [uK,.bool]) x1)
 (cnd (bC (tv x1 1))
 (aQ O 228 [(.slice (List.map (PV.int .i64) kinds) [] false),(zn (tg x1 0) 0)] fun x3=>cnd (chk .bool x3)
 (some ((.bool (bC x3)),[])) none)
 (some ((.bool false),[]))) none
noncomputable def aF5 (s:GSchema) (name:Str) (kinds:List Int):Option Bool :=
 bnd (aTP s name) fun y2 =>
 cnd y2.2
 (bnd (jO kinds y2.1.kind) fun y4 =>
 some y4)
 (some false)
def aYz:Decs:={decs:=[(12,(.tup [uK,.bool])),(20,.bool)]}
theorem aYA (O:Orc) (LP:LBs) (s:GSchema) (name:Str) (kinds:List Int):eW 201 aYz Tryz.f201 O LP [(eS s),(.str name),(.slice (List.map (PV.int .i64) kinds) [] false)] []=aHi O LP s name kinds:=by kernel_rfl
theorem aU8 (s:GSchema) (name:Str) (kinds:List Int):Imp (aF5 s name kinds) (aHi O aF s name kinds) (Ri aA):=by
 simp only [aF5,aHi,zd,zr]
 try simp only [evs,tys]
 refine zC rfl fun y2 _ => ?_
 try simp only [zes,evs,tys]
 apply Imp.cnd
 ·refine zC rfl fun y4 _ => ?_
  try simp only [zes,evs,tys]
  exact zR
 ·exact zR
theorem aU9 {s:GSchema} {name:Str} {kinds:List Int} {r:Bool} (h:aF5 s name kinds=some r):aTN s name kinds=some r:=zV aD (aU8 s name kinds) Tryz.func201 (aYA _ _ s name kinds) h
abbrev bF:List Sh:=[sf,.str,n6,n6,n6]
def fE (O:Orc) (LP:LBs):bM:=fun s1 s1u=>cnd (chkL bF s1) (cnd (chkU [] s1u)
 (cnd (decide ((iv s1 4)<(iv s1 3)))
 (bnd (ix 1 (zs s1 0) (zn s1 4)) fun x5=>cnd (chk (.ref .str) x5)
 (cnd ((sv s1 1)==(strV (refV x5)))
 (some (.ret,[(zs s1 0),(zt s1 1),(zn s1 4),(zn s1 3),(zn s1 4)],[]))
 (some (.nrm,[(zs s1 0),(zt s1 1),(zn s1 2),(zn s1 3),(i6 (w6 ((iv s1 4)+1)))],[]))) none)
 (some (.brk 0,(rb bF s1),[]))) none) none
def fF (O:Orc) (LP:LBs) (s:List Str) (v0:Str):Option (PV×UP) :=
 bnd (LP (fE O LP) [(zq PV.str s),(.str v0),(i6 0),(i6 (List.length (List.map PV.str s):Int)),(i6 0)] []) fun y10 =>
 exIs y10.1 (some 0) (cnd (chkL bF y10.2.1) (cnd (chkU [] y10.2.2)
 (some ((i6 (-1)),[])) none) none)
 (exIs y10.1 none (cnd (chkL bF y10.2.1) (cnd (chkU [] y10.2.2)
 (some ((zn y10.2.1 2),[])) none) none)
 (none))
noncomputable def bQ (s:List Str) (v0:Str):Int→Option (Int⊕(Unit⊕Int))
 | t_4 =>
 cnd (decide (t_4<(List.length s:Int)))
  (bnd (nthI s t_4) fun y6 =>
  cnd (v0==y6)
  (some (.inr (.inr t_4)))
  (some (.inl (IntKind.wrap .i64 (t_4+1)))))
  (some (.inr (.inl ())))
abbrev rX (s:List Str) (v0:Str) (st:Int) (l:List PV) (u:UP):Prop:=l=[(zq PV.str s),(.str v0),(i6 0),(i6 (List.length s:Int)),(i6 st)]∧u=[]
abbrev rY (s:List Str) (v0:Str) (p:Unit⊕Int) (r:EU):Prop:=elim p (fun (p:Unit)=>∃ (t_7:Int),r=(Ex.brk 0,[(zq PV.str s),(.str v0),(i6 0),(i6 (List.length s:Int)),(i6 t_7)],[])) (fun q2=>(fun (p:Int)=>∃ (t_9:Int),r=(Ex.ret,[(zq PV.str s),(.str v0),(i6 p),(i6 (List.length s:Int)),(i6 t_9)],[])) q2)
noncomputable def cH (s:List Str) (v0:Str):Option Int :=
 bnd (aY (bQ s v0) 0) fun e10_2=>elim e10_2
 (fun p10 =>
 some (-1))
 (fun t_8 =>
 some t_8)
def sP:Decs:={decs:=[(14,(.ref .str))],loops:=[(2,[],⟨bF,[],[(some 0,bF,[]),(none,bF,[])]⟩)]}
theorem sQ (O:Orc) (LP:LBs) (s:List Str) (v0:Str):eW 200 sP Tryz.f200 O LP [(zq PV.str s),(.str v0)] []=fF O LP s v0:=by kernel_rfl
theorem pR (s:List Str) (v0:Str):Lok (rX s v0) (bQ s v0) (fE O aF) (rY s v0):=by
 rintro t_4 l u ⟨rfl,rfl⟩
 simp only [bQ,fE,zd,zr]
 refine zG ?_
 try simp only [evs,tys]
 apply Imp.cnd
 ·refine zX PV.str (fun _=>rfl) fun y6 _ => ?_
  try simp only [evs,tys]
  apply Imp.cnd
  ·exact zT ⟨t_4,zE⟩
  ·exact zN
 ·exact zB ⟨t_4,zE⟩
theorem rZ (s:List Str) (v0:Str):Imp (cH s v0) (fF O aF s v0) (Ri dP):=by
 simp only [cH,fF,zd,zr]
 try simp only [evs,tys]
 refine zL (pR s v0) ?_
 rintro (p | t_8) vy10 hy10
 ·try simp only [aN,aO]
  obtain ⟨t_7,rfl⟩:=hy10
  refine zH ?_
  try simp only [evs,tys]
  exact zR
 ·try simp only [aN,aO]
  obtain ⟨t_9,rfl⟩:=hy10
  refine Imp.exMiss rfl ?_
  refine zH ?_
  try simp only [evs,tys]
  exact zR
theorem sA {s:List Str} {v0:Str} {r:Int} (h:cH s v0=some r):dV s v0=some r:=zV uN (rZ s v0) Tryz.func200 (sQ _ _ s v0) h
def aHj (O:Orc) (LP:LBs) (v0:GValue):Option (PV×UP) :=
 aQ O 236 [(eV v0),(.slice [] [] true)] fun x1=>cnd (chk st' x1)
 (some ((.slice (esV x1) [] false),[])) none
noncomputable def aF6 (v0:GValue):Option (List Str) :=
 bnd (aJ1 v0 ([]:List Str)) fun y2 =>
 some y2
def aYB:Decs:={decs:=[(4,st')]}
theorem aYC (O:Orc) (LP:LBs) (v0:GValue):eW 214 aYB Tryz.f214 O LP [(eV v0)] []=aHj O LP v0:=by kernel_rfl
theorem aVa (v0:GValue):Imp (aF6 v0) (aHj O aF v0) (Ri cO):=by
 simp only [aF6,aHj,zd,zr]
 try simp only [evs,tys]
 refine zC rfl fun y2 _ => ?_
 try simp only [zes,evs,tys]
 exact zR
theorem aVb {v0:GValue} {r:List Str} (h:aF6 v0=some r):aTO v0=some r:=zV lO (aVa v0) Tryz.func214 (aYC _ _ v0) h
abbrev eH:List Sh:=[st',sf,n6,n6,n6,n6,.str,sf,sf]
def aAY (O:Orc) (LP:LBs):bM:=fun s5 s5u=>cnd (chkL eH s5) (cnd (chkU [] s5u)
 (cnd (decide ((iv s5 3)<(iv s5 2)))
 (bnd (ix 5 (zs s5 1) (zn s5 3)) fun x12=>cnd (chk (.ref xH) x12)
 (aQ O 230 [(zo s5 0),(.agg [(zn (rf x12) 0),(zn (rf x12) 1),(zt (rf x12) 2),(zs (rf x12) 3),(zs (rf x12) 4)])] fun x14=>cnd (chk st' x14)
 (some (.nrm,(pu (pu (rb eH s5) 0 (.slice (esV x14) [] true)) 3 (i6 (w6 ((iv s5 3)+1)))),[])) none) none)
 (some (.brk 1,(rb eH s5),[]))) none) none
abbrev yA:List Sh:=[st',sf,n6,n6,n6,n6,.str,sf,sf]
def aAZ (O:Orc) (LP:LBs):bM:=fun s19 s19u=>cnd (chkL yA s19) (cnd (chkU [] s19u)
 (cnd (decide ((iv s19 3)<(iv s19 2)))
 (bnd (ix 6 (zs s19 1) (zn s19 3)) fun x26=>cnd (chk (.ref dU) x26)
 (aQ O 230 [(zo s19 0),(.agg [(zn (rf x26) 1),(zn (rf x26) 2),(zt (rf x26) 3),(zs (rf x26) 4),(zs (rf x26) 5)])] fun x28=>cnd (chk st' x28)
 (some (.nrm,(pu (pu (rb yA s19) 0 (.slice (esV x28) [] true)) 3 (i6 (w6 ((iv s19 3)+1)))),[])) none) none)
 (some (.brk 3,(rb yA s19),[]))) none) none
def aA0 (O:Orc) (LP:LBs) (l0:List Str) (v0:GValue):Option (PV×UP) :=
 cnd (v0.kind==8)
 (aQ O 136 [(zq PV.str l0),(.str v0.s)] fun x1=>cnd (chk .bool x1)
 (cnd (!(bC x1))
 (bnd (apd 1 (zp PV.str l0) (.slice [(.str v0.s)] [] true)) fun x3=>cnd (chk st' x3)
 (some ((.slice (esV x3) [] true),[])) none)
 (some ((zp PV.str l0),[]))) none)
 (cnd (v0.kind==6)
 (bnd (LP (aAY O LP) [(zp PV.str l0),(zq aI v0.l),(i6 (List.length (List.map aI v0.l):Int)),(i6 0),(i6 v0.kind),(i6 v0.n),(.str v0.s),(zq aI v0.l),(zq aE v0.m)] []) fun y18 =>
 exIs y18.1 (some 1) (cnd (chkL eH y18.2.1) (cnd (chkU [] y18.2.2)
 (some ((zo y18.2.1 0),[])) none) none)
 (none))
 (cnd (v0.kind==7)
 (bnd (LP (aAZ O LP) [(zp PV.str l0),(zq aE v0.m),(i6 (List.length (List.map aE v0.m):Int)),(i6 0),(i6 v0.kind),(i6 v0.n),(.str v0.s),(zq aI v0.l),(zq aE v0.m)] []) fun y32 =>
 exIs y32.1 (some 3) (cnd (chkL eH y32.2.1) (cnd (chkU [] y32.2.2)
 (some ((zo y32.2.1 0),[])) none) none)
 (none))
 (some ((zp PV.str l0),[]))))
noncomputable def kE (v0:GValue):((List Str)×Int)→Option (((List Str)×Int)⊕((List Str)))
 | (l_10,t_11) =>
 cnd (decide (t_11<(List.length v0.l:Int)))
  (bnd (nthI v0.l t_11) fun y13 =>
  bnd (yX l_10 y13) fun y15 =>
  some (.inl (y15,(IntKind.wrap .i64 (t_11+1)))))
  (some (.inr l_10))
abbrev aDL (v0:GValue) (a0 a1:PV):List PV:=[a0,(zq aI v0.l),(i6 (List.length v0.l:Int)),a1,(i6 v0.kind),(i6 v0.n),(.str v0.s),(zq aI v0.l),(zq aE v0.m)]
abbrev aMq (v0:GValue) (st:(List Str)×Int) (l:List PV) (u:UP):Prop:=l=(aDL v0 (zp PV.str st.1) (i6 st.2))∧u=[]
abbrev aMr (v0:GValue) (p:(List Str)) (r:EU):Prop:=∃ (t_17:Int),r=(Ex.brk 1,(aDL v0 (zp PV.str p) (i6 t_17)),[])
noncomputable def kF (v0:GValue):((List Str)×Int)→Option (((List Str)×Int)⊕((List Str)))
 | (l_24,t_25) =>
 cnd (decide (t_25<(List.length v0.m:Int)))
  (bnd (nthI v0.m t_25) fun y27 =>
  bnd (yX l_24 y27.v) fun y29 =>
  some (.inl (y29,(IntKind.wrap .i64 (t_25+1)))))
  (some (.inr l_24))
abbrev aDM (v0:GValue) (a0 a1:PV):List PV:=[a0,(zq aE v0.m),(i6 (List.length v0.m:Int)),a1,(i6 v0.kind),(i6 v0.n),(.str v0.s),(zq aI v0.l),(zq aE v0.m)]
abbrev aMs (v0:GValue) (st:(List Str)×Int) (l:List PV) (u:UP):Prop:=l=(aDM v0 (zp PV.str st.1) (i6 st.2))∧u=[]
abbrev aMt (v0:GValue) (p:(List Str)) (r:EU):Prop:=∃ (t_31:Int),r=(Ex.brk 3,(aDM v0 (zp PV.str p) (i6 t_31)),[])
noncomputable def wV (l0:List Str) (v0:GValue):Option (List Str) :=
 cnd (v0.kind==8)
 (bnd (bL l0 v0.s) fun y2 =>
 cnd (!y2)
 (bnd (tapp l0 [v0.s]) fun y4 =>
 some y4)
 (some l0))
 (cnd (v0.kind==6)
 (bnd (aY (kE v0) (l0,0)) fun l_16 =>
 some l_16)
 (cnd (v0.kind==7)
 (bnd (aY (kF v0) (l0,0)) fun l_30 =>
 some l_30)
 (some l0)))
def aPg:Decs:={decs:=[(16,.bool),(22,st'),(30,(.ref xH)),(34,st'),(43,(.ref dU)),(48,st')],loops:=[(7,[(3,5)],⟨eH,[],[(some 1,eH,[])]⟩),(13,[(3,5)],⟨eH,[],[(some 3,eH,[])]⟩)]}
theorem aPh (O:Orc) (LP:LBs) (l0:List Str) (v0:GValue):eW 230 aPg Tryz.f230 O LP [(zp PV.str l0),(eV v0)] []=aA0 O LP l0 v0:=by kernel_rfl
theorem aIJ (v0:GValue):Lok (aMq v0) (kE v0) (aAY O aF) (aMr v0):=by
 rintro ⟨l_10,t_11⟩ l u ⟨rfl,rfl⟩
 simp only [kE,aAY,zd,zr]
 refine zG ?_
 try simp only [evs,tys]
 apply Imp.cnd
 ·refine zX aI aC4 fun y13 _ => ?_
  try simp only [evs,tys]
  refine zC rfl fun y15 _ => ?_
  try simp only [zes,evs,tys]
  exact zN
 ·exact zB ⟨t_11,zE⟩
theorem aIK (v0:GValue):Lok (aMs v0) (kF v0) (aAZ O aF) (aMt v0):=by
 rintro ⟨l_24,t_25⟩ l u ⟨rfl,rfl⟩
 simp only [kF,aAZ,zd,zr]
 refine zG ?_
 try simp only [evs,tys]
 apply Imp.cnd
 ·refine zX aE fY fun y27 _ => ?_
  try simp only [evs,tys]
  refine zC rfl fun y29 _ => ?_
  try simp only [zes,evs,tys]
  exact zN
 ·exact zB ⟨t_25,zE⟩
theorem aMu (l0:List Str) (v0:GValue):Imp (wV l0 v0) (aA0 O aF l0 v0) (Ri eZ):=by
 simp only [wV,aA0,zd,zr]
 try simp only [evs,tys]
 apply Imp.cnd
 ·refine zC rfl fun y2 _ => ?_
  try simp only [zes,evs,tys]
  apply Imp.cnd
  ·refine Imp.op (f:=fun a => .slice (List.map PV.str a) [] true) (fun a h=>aBg (enc:=PV.str) zI zI (fun a=>by first | rfl | simp only [evs,tys,evc]) h) (fun a=>rfl) fun y4 hy4 => ?_
   try simp only [evs,tys]
   exact zR
  ·exact zR
 ·apply Imp.cnd
  ·refine zL (aIJ v0) ?_
   rintro l_16 _ ⟨t_17,rfl⟩
   refine zH ?_
   try simp only [evs,tys]
   exact zR
  ·apply Imp.cnd
   ·refine zL (aIK v0) ?_
    rintro l_30 _ ⟨t_31,rfl⟩
    refine zH ?_
    try simp only [evs,tys]
    exact zR
   ·exact zR
theorem aMv {l0:List Str} {v0:GValue} {r:List Str} (h:wV l0 v0=some r):yX l0 v0=some r:=zV rN (aMu l0 v0) Tryz.func230 (aPh _ _ l0 v0) h
abbrev iT:List Sh:=[st',sf,n6,n6]
def sR (O:Orc) (LP:LBs):bM:=fun s1 s1u=>cnd (chkL iT s1) (cnd (chkU [] s1u)
 (cnd (decide ((iv s1 3)<(iv s1 2)))
 (bnd (ix 7 (zs s1 1) (zn s1 3)) fun x16=>cnd (chk (.ref mG) x16)
 (cnd ((iv (rf x16) 0)==1)
 (aQ O 136 [(zs s1 0),(zt (rf x16) 2)] fun x18=>cnd (chk .bool x18)
 (cnd (!(bC x18))
 (bnd (apd 1 (zo s1 0) (.slice [(zt (rf x16) 2)] [] true)) fun x20=>cnd (chk st' x20)
 (aQ O 69 [(.slice (esV x20) [] true),(zs (rf x16) 6)] fun x22=>cnd (chk st' x22)
 (some (.nrm,[(.slice (esV x22) [] true),(zs s1 1),(zn s1 2),(i6 (w6 ((iv s1 3)+1)))],[])) none) none)
 (aQ O 69 [(zo s1 0),(zs (rf x16) 6)] fun x24=>cnd (chk st' x24)
 (some (.nrm,[(.slice (esV x24) [] true),(zs s1 1),(zn s1 2),(i6 (w6 ((iv s1 3)+1)))],[])) none)) none)
 (aQ O 69 [(zo s1 0),(zs (rf x16) 6)] fun x26=>cnd (chk st' x26)
 (some (.nrm,[(.slice (esV x26) [] true),(zs s1 1),(zn s1 2),(i6 (w6 ((iv s1 3)+1)))],[])) none)) none)
 (some (.brk 0,(rb iT s1),[]))) none) none
def sS (O:Orc) (LP:LBs) (l0:List Str) (sels:List GSel):Option (PV×UP) :=
 bnd (LP (sR O LP) [(zp PV.str l0),(zq aG sels),(i6 (List.length (List.map aG sels):Int)),(i6 0)] []) fun y30 =>
 exIs y30.1 (some 0) (cnd (chkL iT y30.2.1) (cnd (chkU [] y30.2.2)
 (some ((zo y30.2.1 0),[])) none) none)
 (none)
noncomputable def eC (sels:List GSel):((List Str)×Int)→Option (((List Str)×Int)⊕((List Str)))
 | (l_14,t_15) =>
 cnd (decide (t_15<(List.length sels:Int)))
  (bnd (nthI sels t_15) fun y17 =>
  cnd (y17.kind==1)
  (bnd (bL l_14 y17.name) fun y19 =>
  cnd (!y19)
   (bnd (tapp l_14 [y17.name]) fun y21 =>
   bnd (eG y21 y17.sels) fun y23 =>
   some (.inl (y23,(IntKind.wrap .i64 (t_15+1)))))
   (bnd (eG l_14 y17.sels) fun y25 =>
   some (.inl (y25,(IntKind.wrap .i64 (t_15+1))))))
  (bnd (eG l_14 y17.sels) fun y27 =>
  some (.inl (y27,(IntKind.wrap .i64 (t_15+1))))))
  (some (.inr l_14))
abbrev aHk (sels:List GSel) (st:(List Str)×Int) (l:List PV) (u:UP):Prop:=l=[(zp PV.str st.1),(zq aG sels),(i6 (List.length sels:Int)),(i6 st.2)]∧u=[]
abbrev aHl (sels:List GSel) (p:(List Str)) (r:EU):Prop:=(fun (p:(List Str))=>∃ (t_29:Int),r=(Ex.brk 0,[(zp PV.str p),(zq aG sels),(i6 (List.length sels:Int)),(i6 t_29)],[])) p
noncomputable def lG (l0:List Str) (sels:List GSel):Option (List Str) :=
 bnd (aY (eC sels) (l0,0)) fun l_28 =>
 some l_28
def aIL:Decs:={decs:=[(11,(.ref mG)),(20,.bool),(27,st'),(31,st')],loops:=[(2,[],⟨iT,[],[(some 0,iT,[])]⟩)]}
theorem aIM (O:Orc) (LP:LBs) (l0:List Str) (sels:List GSel):eW 69 aIL Tryz.f69 O LP [(zp PV.str l0),(zq aG sels)] []=sS O LP l0 sels:=by kernel_rfl
theorem aE3 (sels:List GSel):Lok (aHk sels) (eC sels) (sR O aF) (aHl sels):=by
 rintro ⟨l_14,t_15⟩ l u ⟨rfl,rfl⟩
 simp only [eC,sR,zd,zr]
 refine zG ?_
 try simp only [evs,tys]
 apply Imp.cnd
 ·refine zX aG gU fun y17 _ => ?_
  try simp only [evs,tys]
  apply Imp.cnd
  ·refine zC rfl fun y19 _ => ?_
   try simp only [zes,evs,tys]
   apply Imp.cnd
   ·refine Imp.op (f:=fun a => .slice (List.map PV.str a) [] true) (fun a h=>aBg (enc:=PV.str) zI zI (fun a=>by first | rfl | simp only [evs,tys,evc]) h) (fun a=>rfl) fun y21 hy21 => ?_
    try simp only [evs,tys]
    refine zC rfl fun y23 _ => ?_
    try simp only [zes,evs,tys]
    exact zN
   ·refine zC rfl fun y25 _ => ?_
    try simp only [zes,evs,tys]
    exact zN
  ·refine zC rfl fun y27 _ => ?_
   try simp only [zes,evs,tys]
   exact zN
 ·exact zB ⟨t_15,zE⟩
theorem aHm (l0:List Str) (sels:List GSel):Imp (lG l0 sels) (sS O aF l0 sels) (Ri eZ):=by
 simp only [lG,sS,zd,zr]
 try simp only [evs,tys]
 refine zL (aE3 sels) ?_
 rintro l_28 _ ⟨t_29,rfl⟩
 refine zH ?_
 try simp only [evs,tys]
 exact zR
theorem aAa {l0:List Str} {sels:List GSel} {r:List Str} (h:lG l0 sels=some r):eG l0 sels=some r:=zV rN (aHm l0 sels) Tryz.func69 (aIM _ _ l0 sels) h
abbrev nH:List Sh:=[.str,(.ptr 0 4 0),.bool,sf,n6,n6,n6,.str,st',st',st',st',sf,.str,.str]
def aHn (O:Orc) (LP:LBs):bM:=fun s3 s3u=>cnd (chkL nH s3) (cnd (chkU [] s3u)
 (cnd (decide ((iv s3 5)<(iv s3 4)))
 (bnd (ix 6 (zs s3 3) (zn s3 5)) fun x7=>cnd (chk (.ref uK) x7)
 (cnd ((sv (rf x7) 1)==(sv s3 0))
 (some (.ret,(pu (pu (pu (pu (pu (pu (pu (rb nH s3) 2 (.bool true)) 6 (zn (rf x7) 0)) 7 (zt (rf x7) 1)) 8 (zs (rf x7) 2)) 9 (zs (rf x7) 3)) 10 (zs (rf x7) 4)) 11 (zs (rf x7) 5)),[]))
 (some (.nrm,(pu (rb nH s3) 5 (i6 (w6 ((iv s3 5)+1)))),[]))) none)
 (some (.brk 0,(rb nH s3),[]))) none) none
def aHo (O:Orc) (LP:LBs) (s:GSchema) (name:Str):Option (PV×UP) :=
 aQ O 216 [(.str name)] fun x1=>cnd (chk .bool x1)
 (cnd (bC x1)
 (some ((.tuple [(.agg [(i6 0),(.str name),(.slice [] [] false),(.slice [] [] false),(.slice [] [] false),(.slice [] [] false)]),(.bool true)]),[]))
 (bnd (LP (aHn O LP) [(.str name),(.ptr 0 4 0),(.bool false),(zq aM s.defs),(i6 (List.length (List.map aM s.defs):Int)),(i6 0),(i6 0),(.str []),(.slice [] [] true),(.slice [] [] true),(.slice [] [] true),(.slice [] [] true),(zq aM s.defs),(.str s.query),(.str s.mutation)] []) fun y17 =>
 exIs y17.1 (some 0) (cnd (chkL nH y17.2.1) (cnd (chkU [] y17.2.2)
 (some ((.tuple [(.agg [(i6 0),(.str []),(.slice [] [] false),(.slice [] [] false),(.slice [] [] false),(.slice [] [] false)]),(.bool false)]),[])) none) none)
 (exIs y17.1 none (cnd (chkL [.str,(.ptr 0 4 0),.bool,sf,n6,n6,n6,.str,sf,sf,sf,sf,sf,.str,.str] y17.2.1) (cnd (chkU [] y17.2.2)
 (some ((.tuple [(.agg [(zn y17.2.1 6),(zt y17.2.1 7),(zs y17.2.1 8),(zs y17.2.1 9),(zs y17.2.1 10),(zs y17.2.1 11)]),(zb y17.2.1 2)]),[])) none) none)
 (none)))) none
noncomputable def qR (s:GSchema) (name:Str):Int→Option (Int⊕(Unit⊕(Int×Str×(List Str)×(List GFieldDef)×(List Str)×(List GParam))))
 | t_6 =>
 cnd (decide (t_6<(List.length s.defs:Int)))
  (bnd (nthI s.defs t_6) fun y8 =>
  cnd (y8.name==name)
  (some (.inr (.inr (y8.kind,y8.name,y8.faces,y8.fields,y8.parts,y8.params))))
  (some (.inl (IntKind.wrap .i64 (t_6+1)))))
  (some (.inr (.inl ())))
abbrev aE4 (s:GSchema) (name:Str) (a0 a1 a2 a3 a4 a5 a6 a7:PV):List PV:=[(.str name),(.ptr 0 4 0),a0,(zq aM s.defs),(i6 (List.length s.defs:Int)),a1,a2,a3,a4,a5,a6,a7,(zq aM s.defs),(.str s.query),(.str s.mutation)]
abbrev aVc (s:GSchema) (name:Str) (st:Int) (l:List PV) (u:UP):Prop:=l=(aE4 s name (.bool false) (i6 st) (i6 0) (.str []) (.slice [] [] true) (.slice [] [] true) (.slice [] [] true) (.slice [] [] true))∧u=[]
abbrev aVd (s:GSchema) (name:Str) (p:Unit⊕(Int×Str×(List Str)×(List GFieldDef)×(List Str)×(List GParam))) (r:EU):Prop:=elim p (fun (p:Unit)=>∃ (t_9:Int),r=(Ex.brk 0,(aE4 s name (.bool false) (i6 t_9) (i6 0) (.str []) (.slice [] [] true) (.slice [] [] true) (.slice [] [] true) (.slice [] [] true)),[])) (fun (p:Int×Str×(List Str)×(List GFieldDef)×(List Str)×(List GParam))=>∃ (t_10:Int),r=(Ex.ret,(aE4 s name (.bool true) (i6 t_10) (i6 p.1) (.str p.2.1) (zq PV.str p.2.2.1) (zq bO p.2.2.2.1) (zq PV.str p.2.2.2.2.1) (zq aX p.2.2.2.2.2)),[]))
noncomputable def aF7 (s:GSchema) (name:Str):Option (GDef×Bool) :=
 bnd (aJ7 name) fun y2 =>
 cnd y2
 (some ((GDef.mk 0 name ([]:List Str) ([]:List GFieldDef) ([]:List Str) ([]:List GParam)),true))
 (bnd (aY (qR s name) 0) fun e17_2=>elim e17_2
 (fun p17 =>
 some ((GDef.mk 0 [] ([]:List Str) ([]:List GFieldDef) ([]:List Str) ([]:List GParam)),false))
 (fun p17 =>
 some ((GDef.mk p17.1 p17.2.1 p17.2.2.1 p17.2.2.2.1 p17.2.2.2.2.1 p17.2.2.2.2.2),true)))
def aYD:Decs:={decs:=[(9,.bool),(17,(.ref uK))],loops:=[(4,[(4,6),(2,3)],⟨nH,[],[(some 0,nH,[]),(none,[.str,(.ptr 0 4 0),.bool,sf,n6,n6,n6,.str,sf,sf,sf,sf,sf,.str,.str],[])]⟩)]}
theorem aYE (O:Orc) (LP:LBs) (s:GSchema) (name:Str):eW 178 aYD Tryz.f178 O LP [(eS s),(.str name)] []=aHo O LP s name:=by kernel_rfl
theorem aPi (s:GSchema) (name:Str):Lok (aVc s name) (qR s name) (aHn O aF) (aVd s name):=by
 rintro t_6 l u ⟨rfl,rfl⟩
 simp only [qR,aHn,zd,zr]
 refine zG ?_
 try simp only [evs,tys]
 apply Imp.cnd
 ·refine zX aM aC5 fun y8 _ => ?_
  try simp only [evs,tys]
  apply Imp.cnd
  ·exact zT ⟨t_6,zE⟩
  ·exact zN
 ·exact zB ⟨t_6,zE⟩
theorem aVe (s:GSchema) (name:Str):Imp (aF7 s name) (aHo O aF s name) (Ri wG):=by
 simp only [aF7,aHo,zd,zr]
 try simp only [evs,tys]
 refine zC rfl fun y2 _ => ?_
 try simp only [zes,evs,tys]
 apply Imp.cnd
 ·exact zR
 ·refine zL (aPi s name) ?_
  rintro (p | ⟨b_11,b_12,b_13,b_14,b_15,b_16⟩) vy17 hy17
  ·try simp only [aN,aO]
   obtain ⟨t_9,rfl⟩:=hy17
   refine zH ?_
   try simp only [evs,tys]
   exact zR
  ·try simp only [aN,aO]
   obtain ⟨t_10,rfl⟩:=hy17
   refine Imp.exMiss rfl ?_
   refine zH ?_
   try simp only [evs,tys]
   exact zR
theorem aVf {s:GSchema} {name:Str} {r:GDef×Bool} (h:aF7 s name=some r):aTP s name=some r:=zV aQP (aVe s name) Tryz.func178 (aYE _ _ s name) h
def gJ (O:Orc) (LP:LBs) (s:List Int) (v0:Int):Option (PV×UP) :=
 aQ O 245 [(.slice (List.map (PV.int .i64) s) [] false),(i6 v0)] fun x1=>cnd (chk n6 x1)
 (some ((.bool (decide ((intV x1)≥0))),[])) none
noncomputable def eI (s:List Int) (v0:Int):Option Bool :=
 bnd (iM s v0) fun y2 =>
 some (decide (y2≥0))
def vP:Decs:={decs:=[(7,n6)]}
theorem vQ (O:Orc) (LP:LBs) (s:List Int) (v0:Int):eW 228 vP Tryz.f228 O LP [(.slice (List.map (PV.int .i64) s) [] false),(i6 v0)] []=gJ O LP s v0:=by kernel_rfl
theorem vI (s:List Int) (v0:Int):Imp (eI s v0) (gJ O aF s v0) (Ri aA):=by
 simp only [eI,gJ,zd,zr]
 try simp only [evs,tys]
 refine zC rfl fun y2 _ => ?_
 try simp only [zes,evs,tys]
 exact zR
theorem vJ {s:List Int} {v0:Int} {r:Bool} (h:eI s v0=some r):jO s v0=some r:=zV aD (vI s v0) Tryz.func228 (vQ _ _ s v0) h
def aCF (O:Orc) (LP:LBs) (name:Str):Option (PV×UP) :=
 cnd (name==([73,110,116]:Str))
 (some ((.bool true),[]))
 (cnd (name==([83,116,114,105,110,103]:Str))
 (some ((.bool true),[]))
 (cnd (name==([66,111,111,108,101,97,110]:Str))
 (some ((.bool true),[]))
 (some ((.bool (name==([73,68]:Str))),[]))))
noncomputable def aA1 (name:Str):Option Bool :=
 cnd (name==([73,110,116]:Str))
 (some true)
 (cnd (name==([83,116,114,105,110,103]:Str))
 (some true)
 (cnd (name==([66,111,111,108,101,97,110]:Str))
 (some true)
 (some (name==([73,68]:Str)))))
def aSb:Decs:={}
theorem aSc (O:Orc) (LP:LBs) (name:Str):eW 216 aSb Tryz.f216 O LP [(.str name)] []=aCF O LP name:=by kernel_rfl
theorem aPj (name:Str):Imp (aA1 name) (aCF O aF name) (Ri aA):=by
 simp only [aA1,aCF,zd,zr]
 try simp only [evs,tys]
 apply Imp.cnd
 ·exact zR
 ·apply Imp.cnd
  ·exact zR
  ·apply Imp.cnd
   ·exact zR
   ·exact zR
theorem aPk {name:Str} {r:Bool} (h:aA1 name=some r):aJ7 name=some r:=zV aD (aPj name) Tryz.func216 (aSc _ _ name) h
abbrev bK:List Sh:=[sf,n6,n6,n6,n6]
def jT (O:Orc) (LP:LBs):bM:=fun s1 s1u=>cnd (chkL bK s1) (cnd (chkU [] s1u)
 (cnd (decide ((iv s1 4)<(iv s1 3)))
 (bnd (ix 1 (zs s1 0) (zn s1 4)) fun x5=>cnd (chk (.ref n6) x5)
 (cnd ((iv s1 1)==(intV (refV x5)))
 (some (.ret,(pu (rb bK s1) 2 (zn s1 4)),[]))
 (some (.nrm,(pu (rb bK s1) 4 (i6 (w6 ((iv s1 4)+1)))),[]))) none)
 (some (.brk 0,(rb bK s1),[]))) none) none
def jU (O:Orc) (LP:LBs) (s:List Int) (v0:Int):Option (PV×UP) :=
 bnd (LP (jT O LP) [(.slice (List.map (PV.int .i64) s) [] false),(i6 v0),(i6 0),(i6 (List.length (List.map (PV.int .i64) s):Int)),(i6 0)] []) fun y10 =>
 exIs y10.1 (some 0) (cnd (chkL bK y10.2.1) (cnd (chkU [] y10.2.2)
 (some ((i6 (-1)),[])) none) none)
 (exIs y10.1 none (cnd (chkL bK y10.2.1) (cnd (chkU [] y10.2.2)
 (some ((zn y10.2.1 2),[])) none) none)
 (none))
noncomputable def cL (s:List Int) (v0:Int):Int→Option (Int⊕(Unit⊕Int))
 | t_4 =>
 cnd (decide (t_4<(List.length s:Int)))
  (bnd (nthI s t_4) fun y6 =>
  cnd (v0==y6)
  (some (.inr (.inr t_4)))
  (some (.inl (IntKind.wrap .i64 (t_4+1)))))
  (some (.inr (.inl ())))
abbrev iU (s:List Int) (v0:Int) (a0 a1:PV):List PV:=[(.slice (List.map (PV.int .i64) s) [] false),(i6 v0),a0,(i6 (List.length s:Int)),a1]
abbrev aAb (s:List Int) (v0:Int) (st:Int) (l:List PV) (u:UP):Prop:=l=(iU s v0 (i6 0) (i6 st))∧u=[]
abbrev aAc (s:List Int) (v0:Int) (p:Unit⊕Int) (r:EU):Prop:=elim p (fun (p:Unit)=>∃ (t_7:Int),r=(Ex.brk 0,(iU s v0 (i6 0) (i6 t_7)),[])) (fun (p:Int)=>∃ (t_9:Int),r=(Ex.ret,(iU s v0 (i6 p) (i6 t_9)),[]))
noncomputable def dY (s:List Int) (v0:Int):Option Int :=
 bnd (aY (cL s v0) 0) fun e10_2=>elim e10_2
 (fun p10 =>
 some (-1))
 (fun t_8 =>
 some t_8)
def aA2:Decs:={decs:=[(14,(.ref n6))],loops:=[(2,[],⟨bK,[],[(some 0,bK,[]),(none,bK,[])]⟩)]}
theorem aA3 (O:Orc) (LP:LBs) (s:List Int) (v0:Int):eW 245 aA2 Tryz.f245 O LP [(.slice (List.map (PV.int .i64) s) [] false),(i6 v0)] []=jU O LP s v0:=by kernel_rfl
theorem vR (s:List Int) (v0:Int):Lok (aAb s v0) (cL s v0) (jT O aF) (aAc s v0):=by
 rintro t_4 l u ⟨rfl,rfl⟩
 simp only [cL,jT,zd,zr]
 refine zG ?_
 try simp only [evs,tys]
 apply Imp.cnd
 ·refine Imp.op (f:=fun a => .ref ((PV.int .i64) a)) (fun a h=>bFd (enc:=(PV.int .i64)) zI ⟨zA,by decide⟩ h) (fun a=>rfl) fun y6 hy6 => ?_
  try simp only [evs,tys]
  apply Imp.cnd
  ·exact zT ⟨t_4,zE⟩
  ·exact zN
 ·exact zB ⟨t_4,zE⟩
theorem aAd (s:List Int) (v0:Int):Imp (dY s v0) (jU O aF s v0) (Ri dP):=by
 simp only [dY,jU,zd,zr]
 try simp only [evs,tys]
 refine zL (vR s v0) ?_
 rintro (p | t_8) vy10 hy10
 ·try simp only [aN,aO]
  obtain ⟨t_7,rfl⟩:=hy10
  refine zH ?_
  try simp only [evs,tys]
  exact zR
 ·try simp only [aN,aO]
  obtain ⟨t_9,rfl⟩:=hy10
  refine Imp.exMiss rfl ?_
  refine zH ?_
  try simp only [evs,tys]
  exact zR
theorem aAe {s:List Int} {v0:Int} {r:Int} (h:dY s v0=some r):iM s v0=some r:=zV uN (aAd s v0) Tryz.func245 (aA3 _ _ s v0) h
open Go Go.Ev Go.Ev.PV
open Go.Shelf Go.RowKit
def GM:Mem:=fun _ _=>none
def Tryz.laysIns_ren:Go.Shelf.Ren:=⟨fun | 22=>231 | 29=>246 | 30=>247 | 36=>253 | 17=>254 | n=>n,fun | 24=>46 | 9=>9 | 3=>3 | 4=>4 | 0=>0 | n=>n,fun | n=>n⟩
theorem Tryz.laysIns:Go.Proofs.Lays2.n22 Tryz.prog Tryz.laysIns_ren:={
 mixed:=by kernel_rfl
 f17:=Tryz.func254.trans (congrArg some (by kernel_rfl))
 f22:=Tryz.func231.trans (congrArg some (by kernel_rfl))
 f29:=Tryz.func246.trans (congrArg some (by kernel_rfl))
 f30:=Tryz.func247.trans (congrArg some (by kernel_rfl))
 f36:=Tryz.func253.trans (congrArg some (by kernel_rfl))
 t0:=Tryz.underlying0
 a0:=Tryz.isAgg0
 z0:=Tryz.sizeOf0
 v0:=Tryz.zeroValue0
 t3:=Tryz.underlying3
 a3:=Tryz.isAgg3
 z3:=Tryz.sizeOf3
 v3:=Tryz.zeroValue3
 t4:=Tryz.underlying4
 a4:=Tryz.isAgg4
 z4:=Tryz.sizeOf4
 v4:=Tryz.zeroValue4
 t9:=Tryz.underlying9
 a9:=Tryz.isAgg9
 z9:=Tryz.sizeOf9
 v9:=Tryz.zeroValue9
 t24:=Tryz.underlying46
 a24:=Tryz.isAgg46
 z24:=Tryz.sizeOf46
 v24:=Tryz.zeroValue46
 i9:=by kernel_rfl}
theorem aNa (s:Str):∀ (l:List Str) (m:Nat),m≤l.length→(∀ (j:Nat) (x:Str),j<m→l[j]?=some x→Op.bytesLess x s=true) →
  (m=l.length→insS l s=insL l m s)∧∀ x,l[m]?=some x→Op.bytesLess x s=false→insS l s=if x=s then l else insL l m s
 | [],m,hm,_=>by
  have:m=0:=by simpa using hm
  subst this
  exact ⟨fun _=>rfl,fun x hx=>by simp at hx⟩
 | y::l,0,_,_=>by
  refine ⟨fun h=>by simp at h,fun x hx hless => ?_⟩
  simp at hx;subst hx
  simp only [insS,hless,Bool.false_eq_true,if_false]
  rfl
 | y::l,m+1,hm,h=>by
  have hy:=h 0 y (by omega) rfl
  obtain ⟨h1,h2⟩:=aNa s l m (by simpa using hm) (fun j x hj hx=>h (j+1) x (by omega) (by simpa using hx))
  have e:∀ z,insL (y::l) (m+1) z=y::insL l m z:=fun z=>rfl
  simp only [insS,hy,if_true]
  refine ⟨fun hl=>by rw [h1 (by simpa using hl),e],fun x hx hless => ?_⟩
  rw [h2 x (by simpa using hx) hless]
  split
  ·rfl
  ·rw [e]
theorem aWu {α β:Type} (f:α→β) (l:List α) (i:Nat) (x:α):(insL l i x).map f=insL (l.map f) i (f x):=by
 unfold insL;rw [List.map_append,List.map_cons,List.map_take,List.map_drop]
set_option maxHeartbeats 4000000 in
theorem aVg (b c:Nat) (l:List Str) (s:Str) (w:World) (hne:l≠[]) (hn:l.length<lim) (hc:l.length≤c) (hc63:c≤9223372036854775807)
  (hrow:∃ arr T fz,w.heap[b]?=some (.cells arr T fz)∧c≤arr.size∧(∀ i,i<c→¬ (fz.1≤i∧i<fz.2))∧∀ (j:Nat) (v:Value),(l.map sVal)[j]?=some v→arr[j]?=some v) :
  Calls Tryz.prog 208 #[.slice (some ⟨b,0,none⟩) l.length c,sVal s] w fun e w'=>∃ v',e = .returned v'∧uJ w b ((insS l s).map sVal) v' w':=by
 obtain ⟨n,hln⟩:∃ n,l.length=n:=⟨_,rfl⟩
 have hn':n<274877906944:=by have:l.length<274877906944:=hn;omega
 have hpos:0<n:=by rw [← hln];exact List.length_pos_iff.2 hne
 rw [hln] at hc ⊢
 have hins:∀ m,m≤n→Calls Tryz.prog 231 #[.slice (some ⟨b,0,none⟩) n c,.int .i64 m,.slice (some ⟨w.heap.size,0,none⟩) 1 1] (w.alloc (.cells #[sVal s] 9)) fun e w'=>∃ v',e = .returned v'∧uJ w b (insL (l.map sVal) m (sVal s)) v' w':=by
  intro m hm
  exact aXL Tryz.laysIns b n c m (l.map sVal) (sVal s) 9 w hm (by rw [List.length_map];exact hln) hc (by omega) hc63 hpos hrow (by
   intro v hv
   obtain ⟨x,_,rfl⟩:=List.mem_map.1 hv
   rfl) rfl
 have hcell:∀ (j:Nat) (x:Str),l[j]?=some x→w.cell? ⟨b,j,none⟩=some (sVal x):=by
  obtain ⟨arr,T,fz,h1,h2,h3,h4⟩:=hrow
  intro j x hx
  have:=h4 j (sVal x) (by rw [List.getElem?_map,hx];rfl)
  simp [World.cell?,h1,this]
 have hsplit:=fun m (hm:m≤n) h=>aNa s l m (by omega) h
 have hsame:uJ w b (l.map sVal) (.slice (some ⟨b,0,none⟩) n c) w:=by
  obtain ⟨arr,T,fz,h1,h2,h3,h4⟩:=hrow
  exact ⟨⟨b,c,by rw [List.length_map,hln],by rw [List.length_map];omega,hc63,.inl rfl,arr,T,fz,h1,h2,h3,h4⟩,fun _ _ _=>rfl,Nat.le_refl _,rfl,rfl,rfl⟩
 clear hrow
 unfold sVal at hins hcell ⊢
 go_enter Tryz.func208,Tryz.ntmps208
 go_wp2
 go_step3
 go_wp2
 go_step3
 go_wp2
 go_loop [5,6,7,10] (fun a i t k=>∃ m:Nat,m≤n∧a = .int .i64 m∧k = .int .i64 m∧∀ (j:Nat) (x:Str),j<m→l[j]?=some x→Op.bytesLess x s=true) (fun _ _ _ k=>n-(RowKit.intOf k).toNat)
 case atStart=>exact ⟨0,Nat.zero_le _,rfl,rfl,fun j x hj=>absurd hj (Nat.not_lt_zero _)⟩
 case round =>
  obtain ⟨m,hm,rfl,rfl,hless⟩:=hrel
  obtain ⟨x,hx⟩:∃ x,m<n→l[m]?=some x:=by
   by_cases h:m<n
   ·exact ⟨l[m]'(by omega),fun _=>List.getElem?_eq_getElem (by omega)⟩
   ·exact ⟨[],fun h'=>absurd h' h⟩
  have hcell':m<n→w.cell? ⟨b,m,none⟩=some (.string ⟨x.toArray⟩):=fun h=>hcell m x (hx h)
  have hins':=hins m hm
  clear hins hcell
  go_wp2_with (go_at_fn 231;fail)
  ·go_round
   case rel =>
    have hlt:m<n:=by assumption
    have hb:Op.bytesLess x s=true:=by assumption
    refine ⟨m+1,by omega,by go_num,by go_num,fun j y hj hy => ?_⟩
    rcases Nat.lt_or_ge j m with h | h
    ·exact hless j y h hy
    ·obtain rfl:j=m:=by omega
     rw [hx hlt] at hy
     cases hy
     exact hb
   case measure=>simp [RowKit.intOf];omega
  ·have hlt:m<n:=by assumption
   have hb:Op.bytesLess x s=false:=by assumption
   have he:(x==s)=true:=by assumption
   go_ret
   refine ⟨_,rfl,?_⟩
   have:=(hsplit m hm hless).2 x (hx hlt) hb
   rw [if_pos (eq_of_beq he)] at this
   rw [this]
   exact hsame
  ·have hlt:m<n:=by assumption
   have hb:Op.bytesLess x s=false:=by assumption
   have he:(x==s)=false:=by assumption
   have hfin:=(hsplit m hm hless).2 x (hx hlt) hb
   rw [if_neg (by simpa using he)] at hfin
   refine hins'.mono ?_
   rintro e w' ⟨v',rfl,hpost⟩
   go_wp2
   rw [Exit.noGoto_ret]
   go_ret
   refine ⟨_,rfl,?_⟩
   rw [hfin,aWu]
   exact hpost
  ·have hge:¬ m<n:=by assumption
   have hfin:=(hsplit m hm hless).1 (by omega)
   refine hins'.mono ?_
   rintro e w' ⟨v',rfl,hpost⟩
   go_wp2
   rw [Exit.noGoto_ret]
   go_ret
   refine ⟨_,rfl,?_⟩
   rw [hfin,aWu]
   exact hpost
set_option maxHeartbeats 4000000 in
theorem aSd (oa:Option Addr) (b:Nat) (s:Str) (w:World) :
  Calls Tryz.prog 208 #[.slice oa 0 0,sVal s] w fun e w'=>∃ v',e = .returned v'∧uJ w b [sVal s] v' w':=by
 have hins:=aXM Tryz.laysIns oa b (sVal s) 9 w rfl
 have hins:Calls Tryz.prog 231 #[.slice oa 0 0,.int .i64 0,.slice (some ⟨w.heap.size,0,none⟩) 1 1] (w.alloc (.cells #[sVal s] 9)) fun e w'=>∃ v',e = .returned v'∧uJ w b [sVal s] v' w':=hins
 unfold sVal at hins ⊢
 go_enter Tryz.func208,Tryz.ntmps208
 go_wp2
 go_step3
 go_wp2
 go_step3
 go_wp2
 refine wp_loop_rounds 1 ?_;rw [rounds_succ];go_wp2_with (go_at_fn 231;fail)
 refine hins.mono ?_
 rintro e w' ⟨v',rfl,hpost⟩
 go_wp2
 rw [Exit.noGoto_ret]
 go_ret
 exact ⟨_,rfl,hpost⟩
theorem aYF:∀ args up r up',aD9 args up=some (r,up')→∀ (n:Nat) w M B vals,CallPre ⟨n,GM⟩ M B args up vals w→xE Tryz.prog 208 vals w (jH ⟨n,GM⟩ M B args up vals w r up') :=
 aXO (fun _ _=>enters_of Tryz.func208 (by kernel_rfl) rfl _ _) aSd aVg
theorem xok:aXE Tryz.prog GM XT:=by
 intro f g h
 unfold XT at h
 simp only [Go.Ev.look] at h
 split at h
 ·rename_i e;subst e;cases h;exact aYF
 simp at h
end Go.Proofs.YtphmfillajagdaaGreat

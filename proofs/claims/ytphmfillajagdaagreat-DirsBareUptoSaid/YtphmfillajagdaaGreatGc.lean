import Derived.Test.YtphmfillajagdaaGreatGa
import Derived.Test.YtphmfillajagdaaGreatEd
import Derived.WalkKit
import Derived.KernelRfl
import Derived.Test.YtphmfillajagdaaGreatGb
set_option maxRecDepth 100000
set_option linter.unusedVariables false
set_option linter.unusedSimpArgs false
set_option linter.unusedSimpArgs false
open Go Go.Ev Go.Ev.PV
namespace Go.Proofs.YtphmfillajagdaaGreat
abbrev jI:List Sh:=[sf,sf,(.ptr 0 3 0),.bool,n6,n6,.str,.str,n6,n6,.bool,n6,n6,.str,sf,sf,sf,.str,.str]
def aCU (O:Orc) (LP:LBs):bL:=fun s32 s32u=>cnd (chkL jI s32) (cnd (chkU [] s32u)
 (cnd (decide ((iv s32 5)<(iv s32 4)))
 (bnd (ix 6 (zs s32 1) (zn s32 5)) fun x38=>cnd (chk (.ref dS) x38)
 (bnd (ix 6 (zs s32 1) (zn s32 4)) fun x40=>cnd (chk (.ref dS) x40)
 (cnd ((sv (rf x38) 0)==(sv (rf x40) 0))
 (some (.ret,(pu (rb jI s32) 3 (.bool false)),[]))
 (some (.nrm,(pu (rb jI s32) 5 (i6 (w6 ((iv s32 5)+1)))),[]))) none) none)
 (some (.brk 2,(rb jI s32),[]))) none) none
abbrev fK:List Sh:=[sf,sf,(.ptr 0 3 0),.bool,n6,sf,.str,.str]
def aCV (O:Orc) (LP:LBs):bL:=fun s1 s1u=>cnd (chkL fK s1) (cnd (chkU [] s1u)
 (cnd (decide ((iv s1 4)<(List.length (ev s1 1):Int)))
 (bnd (ix 6 (zs s1 1) (zn s1 4)) fun x24=>cnd (chk (.ref dS) x24)
 (aT O 193 [(zs s1 0),(zt (rf x24) 0)] fun x26=>cnd (chk (.tup [iK,.bool]) x26)
 (cnd (!(bP (tv x26 1)))
 (some (.ret,(pu (rb fK s1) 3 (.bool false)),[]))
 (bnd (ix 6 (zs s1 1) (zn s1 4)) fun x28=>cnd (chk (.ref dS) x28)
 (aT O 192 [(.agg [(zs s1 5),(zt s1 6),(zt s1 7)]),(.agg [(zt (tg x26 0) 1),(zn (tg x26 0) 2),(zn (tg x26 0) 3)]),(.agg [(zn (rf x28) 1),(zn (rf x28) 2),(zt (rf x28) 3),(zs (rf x28) 4),(zs (rf x28) 5)]),(.bool true)] fun x30=>cnd (chk .bool x30)
 (cnd (!(bP x30))
 (some (.ret,(pu (rb fK s1) 3 (.bool false)),[]))
 (bnd (LP (aCU O LP) [(zs s1 0),(zs s1 1),(.ptr 0 3 0),(zb s1 3),(zn s1 4),(i6 0),(zt (tg x26 0) 0),(zt (tg x26 0) 1),(zn (tg x26 0) 2),(zn (tg x26 0) 3),(zb (tg x26 0) 4),(zn (tg x26 0) 5),(zn (tg x26 0) 6),(zt (tg x26 0) 7),(zs (tg x26 0) 8),(zs (tg x26 0) 9),(zs s1 5),(zt s1 6),(zt s1 7)] []) fun y44 =>
 exIs y44.1 (some 2) (cnd (chkL [sf,sf,(.ptr 0 3 0),.bool,n6,n6,.str,.str,n6,n6,.bool,n6,n6,.str,sf,sf,sf,.str,.str] y44.2.1) (cnd (chkU [] y44.2.2)
 (some (.nrm,[(zs y44.2.1 0),(zs y44.2.1 1),(.ptr 0 3 0),(zb y44.2.1 3),(i6 (w6 ((iv y44.2.1 4)+1))),(zs y44.2.1 16),(zt y44.2.1 17),(zt y44.2.1 18)],[])) none) none)
 (exIs y44.1 none (cnd (chkL [sf,sf,(.ptr 0 3 0),.bool,n6,n6,.str,.str,n6,n6,.bool,n6,n6,.str,sf,sf,sf,.str,.str] y44.2.1) (cnd (chkU [] y44.2.2)
 (some (.ret,[(zs y44.2.1 0),(zs y44.2.1 1),(.ptr 0 3 0),(zb y44.2.1 3),(zn y44.2.1 4),(zs y44.2.1 16),(zt y44.2.1 17),(zt y44.2.1 18)],[])) none) none)
 (none)))) none) none)) none) none)
 (some (.brk 0,(rb fK s1),[]))) none) none
abbrev dQ:List Sh:=[sf,sf,.bool,n6,sf,.str,.str]
def aCW (O:Orc) (LP:LBs):bL:=fun s48 s48u=>cnd (chkL dQ s48) (cnd (chkU [] s48u)
 (cnd (decide ((iv s48 3)<(List.length (ev s48 0):Int)))
 (bnd (ix 10 (zs s48 0) (zn s48 3)) fun x60=>cnd (chk (.ref iK) x60)
 (aT O 219 [(zt (rf x60) 0),(zs s48 1)] fun x62=>cnd (chk (.tup [mK,.bool]) x62)
 (cnd (!(bP (tv x62 1)))
 (bnd (ix 10 (zs s48 0) (zn s48 3)) fun x64=>cnd (chk (.ref iK) x64)
 (aT O 195 [(.agg [(zt (rf x64) 1),(zn (rf x64) 2),(zn (rf x64) 3)])] fun x66=>cnd (chk .bool x66)
 (cnd (bP x66)
 (bnd (ix 10 (zs s48 0) (zn s48 3)) fun x68=>cnd (chk (.ref iK) x68)
 (cnd (!(bv (rf x68) 4))
 (some (.ret,(pu (rb dQ s48) 2 (.bool false)),[]))
 (some (.nrm,(pu (rb dQ s48) 3 (i6 (w6 ((iv s48 3)+1)))),[]))) none)
 (some (.nrm,(pu (rb dQ s48) 3 (i6 (w6 ((iv s48 3)+1)))),[]))) none) none)
 (some (.nrm,(pu (rb dQ s48) 3 (i6 (w6 ((iv s48 3)+1)))),[]))) none) none)
 (some (.brk 4,(rb dQ s48),[]))) none) none
def aCX (O:Orc) (LP:LBs) (s:GSchema) (l0:List GParam) (m:List GMember):Option (PV×UP) :=
 bnd (LP (aCV O LP) [(zq aQ l0),(zq aD m),(.ptr 0 3 0),(.bool false),(i6 0),(zq aI s.defs),(.str s.query),(.str s.mutation)] []) fun y47 =>
 exIs y47.1 (some 0) (cnd (chkL fK y47.2.1) (cnd (chkU [] y47.2.2)
 (bnd (LP (aCW O LP) [(zs y47.2.1 0),(zs y47.2.1 1),(zb y47.2.1 3),(i6 0),(zs y47.2.1 5),(zt y47.2.1 6),(zt y47.2.1 7)] []) fun y72 =>
 exIs y72.1 (some 4) (cnd (chkL dQ y72.2.1) (cnd (chkU [] y72.2.2)
 (some ((.bool true),[])) none) none)
 (exIs y72.1 none (cnd (chkL dQ y72.2.1) (cnd (chkU [] y72.2.2)
 (some ((zb y72.2.1 2),[])) none) none)
 (none))) none) none)
 (exIs y47.1 none (cnd (chkL fK y47.2.1) (cnd (chkU [] y47.2.2)
 (some ((zb y47.2.1 3),[])) none) none)
 (none))
noncomputable def sQ (m:List GMember) (i_23:Int):Int→Option (Int⊕(Unit⊕Unit))
 | k_37 =>
 cnd (decide (k_37<i_23))
  (bnd (nthI m k_37) fun y39 =>
  bnd (nthI m i_23) fun y41 =>
  cnd (y39.name==y41.name)
  (some (.inr (.inr ())))
  (some (.inl (IntKind.wrap .i64 (k_37+1)))))
  (some (.inr (.inl ())))
abbrev aAD (s:GSchema) (l0:List GParam) (m:List GMember) (i_23:Int) (y27:GParam×Bool) (a0:PV):List PV:=[(zq aQ l0),(zq aD m),(.ptr 0 3 0),(.bool false),(i6 i_23),a0,(.str y27.1.name),(.str y27.1.t.name),(i6 y27.1.t.lists),(i6 y27.1.t.musts),(.bool y27.1.has),(i6 y27.1.default.kind),(i6 y27.1.default.n),(.str y27.1.default.s),(zq aN y27.1.default.l),(zq aD y27.1.default.m),(zq aI s.defs),(.str s.query),(.str s.mutation)]
abbrev aFT (s:GSchema) (l0:List GParam) (m:List GMember) (i_23:Int) (y27:GParam×Bool) (st:Int) (l:List PV) (u:UP):Prop:=l=(aAD s l0 m i_23 y27 (i6 st))∧u=[]
abbrev aN9 (s:GSchema) (l0:List GParam) (m:List GMember) (i_23:Int) (y27:GParam×Bool) (p:Unit⊕Unit) (r:EU):Prop:=elim p (fun (p:Unit)=>∃ (k_42:Int),r=(Ex.brk 2,(aAD s l0 m i_23 y27 (i6 k_42)),[])) (fun (p:Unit)=>∃ (k_43:Int),r=(Ex.ret,(aAD s l0 m i_23 y27 (i6 k_43)),[]))
noncomputable def sR (s:GSchema) (l0:List GParam) (m:List GMember):Int→Option (Int⊕(Unit⊕Unit))
 | i_23 =>
 cnd (decide (i_23<(List.length m:Int)))
  (bnd (nthI m i_23) fun y25 =>
  bnd (aLf l0 y25.name) fun y27 =>
  cnd (!y27.2)
  (some (.inr (.inr ())))
  (bnd (nthI m i_23) fun y29 =>
  bnd (sH s y27.1.t y29.v true) fun y31 =>
  cnd (!y31)
   (some (.inr (.inr ())))
   (bnd (bG (sQ m i_23) 0) fun e44_2=>elim e44_2
   (fun p44 =>
   some (.inl (IntKind.wrap .i64 (i_23+1))))
   (fun p44 =>
   some (.inr (.inr ()))))))
  (some (.inr (.inl ())))
abbrev aAE (s:GSchema) (l0:List GParam) (m:List GMember) (a0:PV):List PV:=[(zq aQ l0),(zq aD m),(.ptr 0 3 0),(.bool false),a0,(zq aI s.defs),(.str s.query),(.str s.mutation)]
abbrev aOa (s:GSchema) (l0:List GParam) (m:List GMember) (st:Int) (l:List PV) (u:UP):Prop:=l=(aAE s l0 m (i6 st))∧u=[]
abbrev aOb (s:GSchema) (l0:List GParam) (m:List GMember) (p:Unit⊕Unit) (r:EU):Prop:=elim p (fun (p:Unit)=>∃ (i_45:Int),r=(Ex.brk 0,(aAE s l0 m (i6 i_45)),[])) (fun (p:Unit)=>∃ (i_46:Int),r=(Ex.ret,(aAE s l0 m (i6 i_46)),[]))
noncomputable def sS (l0:List GParam) (m:List GMember):Int→Option (Int⊕(Unit⊕Unit))
 | i_59 =>
 cnd (decide (i_59<(List.length l0:Int)))
  (bnd (nthI l0 i_59) fun y61 =>
  bnd (aSV y61.name m) fun y63 =>
  cnd (!y63.2)
  (bnd (nthI l0 i_59) fun y65 =>
  bnd (bA3 y65.t) fun y67 =>
  cnd y67
   (bnd (nthI l0 i_59) fun y69 =>
   cnd (!y69.has)
   (some (.inr (.inr ())))
   (some (.inl (IntKind.wrap .i64 (i_59+1)))))
   (some (.inl (IntKind.wrap .i64 (i_59+1)))))
  (some (.inl (IntKind.wrap .i64 (i_59+1)))))
  (some (.inr (.inl ())))
abbrev aAF (s:GSchema) (l0:List GParam) (m:List GMember) (a0:PV):List PV:=[(zq aQ l0),(zq aD m),(.bool false),a0,(zq aI s.defs),(.str s.query),(.str s.mutation)]
abbrev aFU (s:GSchema) (l0:List GParam) (m:List GMember) (st:Int) (l:List PV) (u:UP):Prop:=l=(aAF s l0 m (i6 st))∧u=[]
abbrev aOc (s:GSchema) (l0:List GParam) (m:List GMember) (p:Unit⊕Unit) (r:EU):Prop:=elim p (fun (p:Unit)=>∃ (i_70:Int),r=(Ex.brk 4,(aAF s l0 m (i6 i_70)),[])) (fun (p:Unit)=>∃ (i_71:Int),r=(Ex.ret,(aAF s l0 m (i6 i_71)),[]))
noncomputable def uX (s:GSchema) (l0:List GParam) (m:List GMember):Option Bool :=
 bnd (bG (sR s l0 m) 0) fun e47_2=>elim e47_2
 (fun p47 =>
 bnd (bG (sS l0 m) 0) fun e72_2=>elim e72_2
 (fun p72 =>
 some true)
 (fun p72 =>
 some false))
 (fun p47 =>
 some false)
def aRg:Decs:={decs:=[(24,(.ref dS)),(27,(.tup [iK,.bool])),(38,(.ref dS)),(41,.bool),(51,(.ref dS)),(56,(.ref dS)),(69,(.ref iK)),(73,(.tup [mK,.bool])),(81,(.ref iK)),(84,.bool),(89,(.ref iK))],loops:=[(2,[(3,3)],⟨fK,[],[(some 0,fK,[]),(none,fK,[])]⟩),(8,[(8,10),(3,3)],⟨jI,[],[(some 2,jI,[]),(none,jI,[])]⟩),(13,[(3,3)],⟨dQ,[],[(some 4,dQ,[]),(none,dQ,[])]⟩)]}
theorem aRh (O:Orc) (LP:LBs) (s:GSchema) (l0:List GParam) (m:List GMember):eW 225 aRg Tryz.f225 O LP [(eS s),(zq aQ l0),(zq aD m)] []=aCX O LP s l0 m:=by kernel_rfl
theorem aJi (s:GSchema) (l0:List GParam) (m:List GMember) (i_23:Int) (y27:GParam×Bool):∀ st l u,aFT s l0 m i_23 y27 st l u→Imp (sQ m i_23 st) (aCU O aE l u) (mH (aFT s l0 m i_23 y27) (aN9 s l0 m i_23 y27)):=by
 rintro k_37 l u ⟨rfl,rfl⟩
 simp only [sQ,aCU,zd,zr]
 refine zG ?_
 try simp only [evs,tys]
 apply Imp.cnd
 ·refine zX aD fO fun y39 _ => ?_
  try simp only [evs,tys]
  refine zX aD fO fun y41 _ => ?_
  try simp only [evs,tys]
  apply Imp.cnd
  ·exact zT ⟨k_37,zE⟩
  ·exact zN
 ·exact zB ⟨k_37,zE⟩
theorem aJj (s:GSchema) (l0:List GParam) (m:List GMember):Lok (aOa s l0 m) (sR s l0 m) (aCV O aE) (aOb s l0 m):=by
 rintro i_23 l u ⟨rfl,rfl⟩
 simp only [sR,aCV,zd,zr]
 refine zG ?_
 try simp only [evs,tys]
 apply Imp.cnd
 ·refine zX aD fO fun y25 _ => ?_
  try simp only [evs,tys]
  refine zC rfl fun y27 _ => ?_
  try simp only [zes,evs,tys]
  apply Imp.cnd
  ·exact zT ⟨i_23,zE⟩
  ·refine zX aD fO fun y29 _ => ?_
   try simp only [evs,tys]
   refine zC rfl fun y31 _ => ?_
   try simp only [zes,evs,tys]
   apply Imp.cnd
   ·exact zT ⟨i_23,zE⟩
   ·refine zL (aJi s l0 m i_23 y27) ?_
    rintro (p | p) vy44 hy44
    ·try simp only [aO,aP]
     obtain ⟨k_42,rfl⟩:=hy44
     refine zH ?_
     try simp only [evs,tys]
     exact zN
    ·try simp only [aO,aP]
     obtain ⟨k_43,rfl⟩:=hy44
     refine Imp.exMiss rfl ?_
     refine zH ?_
     try simp only [evs,tys]
     exact zT ⟨i_23,zE⟩
 ·exact zB ⟨i_23,zE⟩
theorem aJk (s:GSchema) (l0:List GParam) (m:List GMember):∀ st l u,aFU s l0 m st l u→Imp (sS l0 m st) (aCW O aE l u) (mH (aFU s l0 m) (aOc s l0 m)):=by
 rintro i_59 l u ⟨rfl,rfl⟩
 simp only [sS,aCW,zd,zr]
 refine zG ?_
 try simp only [evs,tys]
 apply Imp.cnd
 ·refine zX aQ nN fun y61 _ => ?_
  try simp only [evs,tys]
  refine zC rfl fun y63 _ => ?_
  try simp only [zes,evs,tys]
  apply Imp.cnd
  ·refine zX aQ nN fun y65 _ => ?_
   try simp only [evs,tys]
   refine zC rfl fun y67 _ => ?_
   try simp only [zes,evs,tys]
   apply Imp.cnd
   ·refine zX aQ nN fun y69 _ => ?_
    try simp only [evs,tys]
    apply Imp.cnd
    ·exact zT ⟨i_59,zE⟩
    ·exact zN
   ·exact zN
  ·exact zN
 ·exact zB ⟨i_59,zE⟩
theorem aOd (s:GSchema) (l0:List GParam) (m:List GMember):Imp (uX s l0 m) (aCX O aE s l0 m) (Ri aA):=by
 simp only [uX,aCX,zd,zr]
 try simp only [evs,tys]
 refine zL (aJj s l0 m) ?_
 rintro (p | p) vy47 hy47
 ·try simp only [aO,aP]
  obtain ⟨i_45,rfl⟩:=hy47
  refine zH ?_
  try simp only [evs,tys]
  refine zL (aJk s l0 m) ?_
  rintro (p | p) vy72 hy72
  ·try simp only [aO,aP]
   obtain ⟨i_70,rfl⟩:=hy72
   refine zH ?_
   try simp only [evs,tys]
   exact zR
  ·try simp only [aO,aP]
   obtain ⟨i_71,rfl⟩:=hy72
   refine Imp.exMiss rfl ?_
   refine zH ?_
   try simp only [evs,tys]
   exact zR
 ·try simp only [aO,aP]
  obtain ⟨i_46,rfl⟩:=hy47
  refine Imp.exMiss rfl ?_
  refine zH ?_
  try simp only [evs,tys]
  exact zR
theorem aOe {s:GSchema} {l0:List GParam} {m:List GMember} {r:Bool} (h:uX s l0 m=some r):aBo s l0 m=some r:=zV aC (aOd s l0 m) Tryz.func225 (aRh _ _ s l0 m) h
def aHY (O:Orc) (LP:LBs):bL:=fun s1 s1u=>cnd (chkL [.str,n6,n6] s1) (cnd (chkU [] s1u)
 (cnd (decide ((w6 ((iv s1 1)+(iv s1 2)))<(List.length (sv s1 0):Int)))
 (bnd (tD (zt s1 0) (i6 (w6 ((iv s1 1)+(iv s1 2))))) fun x7=>cnd (chk (.int .u8) x7)
 (aT O 170 [(.int .u8 (intV x7))] fun x9=>cnd (chk .bool x9)
 (cnd (bP x9)
 (some (.nrm,[(zt s1 0),(zn s1 1),(i6 (w6 ((iv s1 2)+1)))],[]))
 (some (.brk 0,[(zt s1 0),(zn s1 1),(zn s1 2)],[]))) none) none)
 (some (.brk 0,[(zt s1 0),(zn s1 1),(zn s1 2)],[]))) none) none
def aHZ (O:Orc) (LP:LBs) (s:Str) (i:Int):Option (PV×UP) :=
 bnd (LP (aHY O LP) [(.str s),(i6 i),(i6 0)] []) fun y12 =>
 exIs y12.1 (some 0) (cnd (chkL [.str,n6,n6] y12.2.1) (cnd (chkU [] y12.2.2)
 (some ((zn y12.2.1 2),[])) none) none)
 (none)
noncomputable def aBv (s:Str) (i:Int):Int→Option (Int⊕Int)
 | n_6 =>
 cnd (decide ((IntKind.wrap .i64 (i+n_6))<(List.length s:Int)))
  (bnd (nthI s (IntKind.wrap .i64 (i+n_6))) fun y8 =>
  bnd (aGJ (y8.toNat:Int)) fun y10 =>
  cnd y10
  (some (.inl (IntKind.wrap .i64 (n_6+1))))
  (some (.inr n_6)))
  (some (.inr n_6))
abbrev aUQ (s:Str) (i:Int) (st:Int) (l:List PV) (u:UP):Prop:=l=[(.str s),(i6 i),(i6 st)]∧u=[]
abbrev aUR (s:Str) (i:Int) (p:Int) (r:EU):Prop:=(fun (p:Int)=>r=(Ex.brk 0,[(.str s),(i6 i),(i6 p)],[])) p
noncomputable def aD6 (s:Str) (i:Int):Option Int :=
 bnd (bG (aBv s i) 0) fun n_11 =>
 some n_11
def aW8:Decs:={decs:=[(17,(.int .u8)),(18,.bool)],loops:=[(2,[],⟨[.str,n6,n6],[],[(some 0,[.str,n6,n6],[])]⟩)]}
theorem aW9 (O:Orc) (LP:LBs) (s:Str) (i:Int):eW 250 aW8 Tryz.f250 O LP [(.str s),(i6 i)] []=aHZ O LP s i:=by kernel_rfl
theorem aOf (s:Str) (i:Int):Lok (aUQ s i) (aBv s i) (aHY O aE) (aUR s i):=by
 rintro n_6 l u ⟨rfl,rfl⟩
 simp only [aBv,aHY,zd,zr]
 refine zG ?_
 try simp only [evs,tys]
 apply Imp.cnd
 ·refine Imp.op (f:=fun a => .int .u8 (a.toNat:Int)) (fun a h=>gO h) (fun a=>rfl) fun y8 hy8 => ?_
  try simp only [evs,tys]
  refine zC rfl fun y10 _ => ?_
  try simp only [zes,evs,tys]
  apply Imp.cnd
  ·exact zN
  ·exact Imp.some (mH.brk zE)
 ·exact Imp.some (mH.brk zE)
theorem aUS (s:Str) (i:Int):Imp (aD6 s i) (aHZ O aE s i) (Ri dC):=by
 simp only [aD6,aHZ,zd,zr]
 try simp only [evs,tys]
 refine zL (aOf s i) ?_
 rintro n_11 vy12 hy12
 cases hy12
 refine zH ?_
 try simp only [evs,tys]
 exact zR
theorem aUT {s:Str} {i:Int} {r:Int} (h:aD6 s i=some r):aAm s i=some r:=zV aBk (aUS s i) Tryz.func250 (aW9 _ _ s i) h
abbrev fS:List Sh:=[.str,n6,n6,n6,n6,n6,n6,n6]
def aFl (O:Orc) (LP:LBs):bL:=fun s14 s14u=>cnd (chkL fS s14) (cnd (chkU [] s14u)
 (cnd (decide ((iv s14 7)<(iv s14 5)))
 (bnd (tD (zt s14 0) (i6 (w6 ((iv s14 1)+(iv s14 7))))) fun x21=>cnd (chk (.int .u8) x21)
 (cnd (decide ((w6 (intV x21))<128))
 (some (.ret,(pu (pu (rb fS s14) 2 (i6 0)) 3 (i6 0)),[]))
 (cnd (decide ((w6 (intV x21))>191))
 (some (.ret,(pu (pu (rb fS s14) 2 (i6 0)) 3 (i6 0)),[]))
 (some (.nrm,(pu (pu (rb fS s14) 4 (i6 (bits .or .i64 (w6 ((iv s14 4)*2 ^ min (Int.toNat 6) 64)) (bits .and .i64 (w6 (intV x21)) 63)))) 7 (i6 (w6 ((iv s14 7)+1)))),[])))) none)
 (some (.brk 1,(rb fS s14),[]))) none) none
def aFm (O:Orc) (LP:LBs) (s:Str) (i:Int):Option (PV×UP) :=
 cnd (decide (i<0))
 (some ((.tuple [(i6 0),(i6 0)]),[]))
 (cnd (decide (i≥(List.length s:Int)))
 (some ((.tuple [(i6 0),(i6 0)]),[]))
 (bnd (tD (.str s) (i6 i)) fun x2=>cnd (chk (.int .u8) x2)
 (cnd (decide ((w6 (intV x2))<128))
 (some ((.tuple [(i6 (w6 (intV x2))),(i6 1)]),[]))
 (jn (fun (c_6:Int) (n_7:Int) (low_8:Int) (t_9:Bool) (t_10:Bool) (t_11:Bool) =>
 (cnd (decide (n_7>(w6 ((List.length s:Int)-i))))
 (some ((.tuple [(i6 0),(i6 0)]),[]))
 (bnd (LP (aFl O LP) [(.str s),(i6 i),(i6 0),(i6 0),(i6 c_6),(i6 n_7),(i6 low_8),(i6 1)] []) fun y27 =>
 exIs y27.1 (some 1) (cnd (chkL fS y27.2.1) (cnd (chkU [] y27.2.2)
 (cnd (decide ((iv y27.2.1 4)<(iv y27.2.1 6)))
 (some ((.tuple [(i6 0),(i6 0)]),[]))
 (cnd (decide ((iv y27.2.1 4)>1114111))
 (some ((.tuple [(i6 0),(i6 0)]),[]))
 (cnd (decide ((iv y27.2.1 4)≥55296))
 (cnd (decide ((iv y27.2.1 4)<57344))
 (some ((.tuple [(i6 0),(i6 0)]),[]))
 (some ((.tuple [(zn y27.2.1 4),(zn y27.2.1 5)]),[])))
 (some ((.tuple [(zn y27.2.1 4),(zn y27.2.1 5)]),[]))))) none) none)
 (exIs y27.1 none (cnd (chkL fS y27.2.1) (cnd (chkU [] y27.2.2)
 (some ((.tuple [(zn y27.2.1 2),(zn y27.2.1 3)]),[])) none) none)
 (none))))) fun k5 =>
 cnd (decide ((w6 (intV x2))≥194))
 (cnd (decide ((w6 (intV x2))<224))
 (k5 (bits .and .i64 (w6 (intV x2)) 31) 2 128 true true (decide ((w6 (intV x2))<224)))
 (cnd (decide ((w6 (intV x2))≥224))
 (cnd (decide ((w6 (intV x2))<240))
 (k5 (bits .and .i64 (w6 (intV x2)) 15) 3 2048 false true (decide ((w6 (intV x2))<224)))
 (cnd (decide ((w6 (intV x2))≥240))
 (cnd (decide ((w6 (intV x2))<245))
 (k5 (bits .and .i64 (w6 (intV x2)) 7) 4 65536 false true (decide ((w6 (intV x2))<224)))
 (some ((.tuple [(i6 0),(i6 0)]),[])))
 (some ((.tuple [(i6 0),(i6 0)]),[]))))
 (cnd (decide ((w6 (intV x2))≥240))
 (cnd (decide ((w6 (intV x2))<245))
 (k5 (bits .and .i64 (w6 (intV x2)) 7) 4 65536 false true (decide ((w6 (intV x2))<224)))
 (some ((.tuple [(i6 0),(i6 0)]),[])))
 (some ((.tuple [(i6 0),(i6 0)]),[])))))
 (cnd (decide ((w6 (intV x2))≥224))
 (cnd (decide ((w6 (intV x2))<240))
 (k5 (bits .and .i64 (w6 (intV x2)) 15) 3 2048 false false false)
 (cnd (decide ((w6 (intV x2))≥240))
 (cnd (decide ((w6 (intV x2))<245))
 (k5 (bits .and .i64 (w6 (intV x2)) 7) 4 65536 false false false)
 (some ((.tuple [(i6 0),(i6 0)]),[])))
 (some ((.tuple [(i6 0),(i6 0)]),[]))))
 (cnd (decide ((w6 (intV x2))≥240))
 (cnd (decide ((w6 (intV x2))<245))
 (k5 (bits .and .i64 (w6 (intV x2)) 7) 4 65536 false false false)
 (some ((.tuple [(i6 0),(i6 0)]),[])))
 (some ((.tuple [(i6 0),(i6 0)]),[])))))) none))
noncomputable def aCY (s : Str) (i : Int) (n_7 : Int) : (Int × Int) → Option ((Int × Int) ⊕ (Int ⊕ Unit))
 | (c_18, k_19) =>
 cnd (decide (k_19 < n_7))
  (bnd (nthI s (IntKind.wrap .i64 (i + k_19))) fun y22 =>
  cnd (decide ((IntKind.wrap .i64 (y22.toNat : Int)) < 128))
  (some (.inr (.inr ())))
  (cnd (decide ((IntKind.wrap .i64 (y22.toNat : Int)) > 191))
   (some (.inr (.inr ())))
   (some (.inl ((bits .or .i64 (IntKind.wrap .i64 (c_18 * 2 ^ min (Int.toNat 6) 64)) (bits .and .i64 (IntKind.wrap .i64 (y22.toNat : Int)) 63)), (IntKind.wrap .i64 (k_19 + 1)))))))
  (some (.inr (.inl c_18)))
abbrev aH0 (s:Str) (i:Int) (n_7:Int) (low_8:Int) (st:Int×Int) (l:List PV) (u:UP):Prop:=l=[(.str s),(i6 i),(i6 0),(i6 0),(i6 st.1),(i6 n_7),(i6 low_8),(i6 st.2)]∧u=[]
abbrev aRi (s:Str) (i:Int) (n_7:Int) (low_8:Int) (p:Int⊕Unit) (r:EU):Prop:=elim p (fun (p:Int)=>∃ (k_24:Int),r=(Ex.brk 1,[(.str s),(i6 i),(i6 0),(i6 0),(i6 p),(i6 n_7),(i6 low_8),(i6 k_24)],[])) (fun q2=>(fun (p:Unit)=>∃ (c_25:Int),∃ (k_26:Int),r=(Ex.ret,[(.str s),(i6 i),(i6 0),(i6 0),(i6 c_25),(i6 n_7),(i6 low_8),(i6 k_26)],[])) q2)
noncomputable def aAG (s:Str) (i:Int):Option (Int×Int) :=
 cnd (decide (i<0))
 (some (0,0))
 (cnd (decide (i≥(List.length s:Int)))
 (some (0,0))
 (bnd (nthI s i) fun y3 =>
 cnd (decide ((IntKind.wrap .i64 (y3.toNat:Int))<128))
 (some ((IntKind.wrap .i64 (y3.toNat:Int)),1))
 (jn (fun (c_6:Int) (n_7:Int) (low_8:Int) (t_9:Bool) (t_10:Bool) (t_11:Bool) =>
 (cnd (decide (n_7>(IntKind.wrap .i64 ((List.length s:Int)-i))))
 (some (0,0))
 (bnd (bG (aCY s i n_7) (c_6,1)) fun e27_2=>elim e27_2
 (fun c_23 =>
 cnd (decide (c_23<low_8))
 (some (0,0))
 (cnd (decide (c_23>1114111))
 (some (0,0))
 (cnd (decide (c_23≥55296))
 (cnd (decide (c_23<57344))
 (some (0,0))
 (some (c_23,n_7)))
 (some (c_23,n_7)))))
 (fun p27 =>
 some (0,0))))) fun k5 =>
 cnd (decide ((IntKind.wrap .i64 (y3.toNat:Int))≥194))
 (cnd (decide ((IntKind.wrap .i64 (y3.toNat:Int))<224))
 (k5 (bits .and .i64 (IntKind.wrap .i64 (y3.toNat:Int)) 31) 2 128 true true (decide ((IntKind.wrap .i64 (y3.toNat:Int))<224)))
 (cnd (decide ((IntKind.wrap .i64 (y3.toNat:Int))≥224))
 (cnd (decide ((IntKind.wrap .i64 (y3.toNat:Int))<240))
 (k5 (bits .and .i64 (IntKind.wrap .i64 (y3.toNat:Int)) 15) 3 2048 false true (decide ((IntKind.wrap .i64 (y3.toNat:Int))<224)))
 (cnd (decide ((IntKind.wrap .i64 (y3.toNat:Int))≥240))
 (cnd (decide ((IntKind.wrap .i64 (y3.toNat:Int))<245))
 (k5 (bits .and .i64 (IntKind.wrap .i64 (y3.toNat:Int)) 7) 4 65536 false true (decide ((IntKind.wrap .i64 (y3.toNat:Int))<224)))
 (some (0,0)))
 (some (0,0))))
 (cnd (decide ((IntKind.wrap .i64 (y3.toNat:Int))≥240))
 (cnd (decide ((IntKind.wrap .i64 (y3.toNat:Int))<245))
 (k5 (bits .and .i64 (IntKind.wrap .i64 (y3.toNat:Int)) 7) 4 65536 false true (decide ((IntKind.wrap .i64 (y3.toNat:Int))<224)))
 (some (0,0)))
 (some (0,0)))))
 (cnd (decide ((IntKind.wrap .i64 (y3.toNat:Int))≥224))
 (cnd (decide ((IntKind.wrap .i64 (y3.toNat:Int))<240))
 (k5 (bits .and .i64 (IntKind.wrap .i64 (y3.toNat:Int)) 15) 3 2048 false false false)
 (cnd (decide ((IntKind.wrap .i64 (y3.toNat:Int))≥240))
 (cnd (decide ((IntKind.wrap .i64 (y3.toNat:Int))<245))
 (k5 (bits .and .i64 (IntKind.wrap .i64 (y3.toNat:Int)) 7) 4 65536 false false false)
 (some (0,0)))
 (some (0,0))))
 (cnd (decide ((IntKind.wrap .i64 (y3.toNat:Int))≥240))
 (cnd (decide ((IntKind.wrap .i64 (y3.toNat:Int))<245))
 (k5 (bits .and .i64 (IntKind.wrap .i64 (y3.toNat:Int)) 7) 4 65536 false false false)
 (some (0,0)))
 (some (0,0)))))))
def aUU:Decs:={decs:=[(21,(.int .u8)),(68,(.int .u8))],loops:=[(17,[],⟨fS,[],[(some 1,fS,[]),(none,fS,[])]⟩)]}
theorem aUV (O:Orc) (LP:LBs) (s:Str) (i:Int):eW 251 aUU Tryz.f251 O LP [(.str s),(i6 i)] []=aFm O LP s i:=by kernel_rfl
theorem aLF (s:Str) (i:Int) (n_7:Int) (low_8:Int):∀ st l u,aH0 s i n_7 low_8 st l u→Imp (aCY s i n_7 st) (aFl O aE l u) (mH (aH0 s i n_7 low_8) (aRi s i n_7 low_8)):=by
 rintro ⟨c_18,k_19⟩ l u ⟨rfl,rfl⟩
 simp only [aCY,aFl,zd,zr]
 refine zG ?_
 try simp only [evs,tys]
 apply Imp.cnd
 ·refine Imp.op (f:=fun a => .int .u8 (a.toNat:Int)) (fun a h=>gO h) (fun a=>rfl) fun y22 hy22 => ?_
  try simp only [evs,tys]
  apply Imp.cnd
  ·exact zT ⟨c_18,k_19,zE⟩
  ·apply Imp.cnd
   ·exact zT ⟨c_18,k_19,zE⟩
   ·exact zN
 ·exact zB ⟨k_19,zE⟩
theorem aRj (s:Str) (i:Int):Imp (aAG s i) (aFm O aE s i) (Ri gR):=by
 simp only [aAG,aFm,zd,zr]
 try simp only [evs,tys]
 apply Imp.cnd
 ·exact zR
 ·apply Imp.cnd
  ·exact zR
  ·refine Imp.op (f:=fun a => .int .u8 (a.toNat:Int)) (fun a h=>gO h) (fun a=>rfl) fun y3 hy3 => ?_
   try simp only [evs,tys]
   apply Imp.cnd
   ·exact zR
   ·refine Imp.jn (fun I k2 k1=>∀ (c_6:Int) (n_7:Int) (low_8:Int) (t_9:Bool) (t_10:Bool) (t_11:Bool),I (k2 c_6 n_7 low_8 t_9 t_10 t_11) (k1 c_6 n_7 low_8 t_9 t_10 t_11)) (fun c_6 n_7 low_8 t_9 t_10 t_11 => ?_) fun k5 k5t hk5 => ?_
    ·dsimp only
     try simp only [evs,tys]
     apply Imp.cnd
     ·exact zR
     ·refine zL (aLF s i n_7 low_8) ?_
      rintro (c_23 | p) vy27 hy27
      ·try simp only [aO,aP]
       obtain ⟨k_24,rfl⟩:=hy27
       refine zH ?_
       try simp only [evs,tys]
       apply Imp.cnd
       ·exact zR
       ·apply Imp.cnd
        ·exact zR
        ·apply Imp.cnd
         ·apply Imp.cnd
          ·exact zR
          ·exact zR
         ·exact zR
      ·try simp only [aO,aP]
       obtain ⟨c_25,k_26,rfl⟩:=hy27
       refine Imp.exMiss rfl ?_
       refine zH ?_
       try simp only [evs,tys]
       exact zR
    apply Imp.cnd
    ·apply Imp.cnd
     ·first | exact hk5 _ _ _ _ _ _ | simpa only [evs,tys,evl] using hk5 _ _ _ _ _ _
     ·apply Imp.cnd
      ·apply Imp.cnd
       ·first | exact hk5 _ _ _ _ _ _ | simpa only [evs,tys,evl] using hk5 _ _ _ _ _ _
       ·apply Imp.cnd
        ·apply Imp.cnd
         ·first | exact hk5 _ _ _ _ _ _ | simpa only [evs,tys,evl] using hk5 _ _ _ _ _ _
         ·exact zR
        ·exact zR
      ·apply Imp.cnd
       ·apply Imp.cnd
        ·first | exact hk5 _ _ _ _ _ _ | simpa only [evs,tys,evl] using hk5 _ _ _ _ _ _
        ·exact zR
       ·exact zR
    ·apply Imp.cnd
     ·apply Imp.cnd
      ·first | exact hk5 _ _ _ _ _ _ | simpa only [evs,tys,evl] using hk5 _ _ _ _ _ _
      ·apply Imp.cnd
       ·apply Imp.cnd
        ·first | exact hk5 _ _ _ _ _ _ | simpa only [evs,tys,evl] using hk5 _ _ _ _ _ _
        ·exact zR
       ·exact zR
     ·apply Imp.cnd
      ·apply Imp.cnd
       ·first | exact hk5 _ _ _ _ _ _ | simpa only [evs,tys,evl] using hk5 _ _ _ _ _ _
       ·exact zR
      ·exact zR
theorem aRk {s:Str} {i:Int} {r:Int×Int} (h:aAG s i=some r):aQu s i=some r:=zV aFK (aRj s i) Tryz.func251 (aUV _ _ s i) h
def wX (O:Orc) (LP:LBs) (name:Str):Option (PV×UP) :=
 cnd (!(name==([115,107,105,112]:Str)))
 (cnd (!(name==([105,110,99,108,117,100,101]:Str)))
 (some ((.tuple [(.agg [(.str []),(.str []),(i6 0),(i6 0),(.bool false),(i6 0),(i6 0),(.str []),(.slice [] [] false),(.slice [] [] false)]),(.bool false)]),[]))
 (some ((.tuple [(.agg [(.str [105,102]),(.str [66,111,111,108,101,97,110]),(i6 0),(i6 1),(.bool false),(i6 0),(i6 0),(.str []),(.slice [] [] false),(.slice [] [] false)]),(.bool true)]),[])))
 (some ((.tuple [(.agg [(.str [105,102]),(.str [66,111,111,108,101,97,110]),(i6 0),(i6 1),(.bool false),(i6 0),(i6 0),(.str []),(.slice [] [] false),(.slice [] [] false)]),(.bool true)]),[]))
noncomputable def sT (name:Str):Option (GParam×Bool) :=
 cnd (!(name==([115,107,105,112]:Str)))
 (cnd (!(name==([105,110,99,108,117,100,101]:Str)))
 (some ((GParam.mk [] (GType.mk [] 0 0) false (GValue.mk 0 0 [] ([]:List GValue) ([]:List GMember))),false))
 (some ((GParam.mk [105,102] (GType.mk [66,111,111,108,101,97,110] 0 1) false (GValue.mk 0 0 [] ([]:List GValue) ([]:List GMember))),true)))
 (some ((GParam.mk [105,102] (GType.mk [66,111,111,108,101,97,110] 0 1) false (GValue.mk 0 0 [] ([]:List GValue) ([]:List GMember))),true))
def aLG:Decs:={}
theorem aLH (O:Orc) (LP:LBs) (name:Str):eW 34 aLG Tryz.f34 O LP [(.str name)] []=wX O LP name:=by kernel_rfl
theorem aJl (name:Str):Imp (sT name) (wX O aE name) (Ri jE):=by
 simp only [sT,wX,zd,zr]
 try simp only [evs,tys]
 apply Imp.cnd
 ·apply Imp.cnd
  ·exact zR
  ·exact zR
 ·exact zR
theorem aJm {name:Str} {r:GParam×Bool} (h:sT name=some r):aBp name=some r:=zV aFL (aJl name) Tryz.func34 (aLH _ _ name) h
open Go Go.Ev Go.Ev.PV
abbrev lM:List Sh:=[(.ptr 0 1 0),st',sf,n6,n6,sf,sf]
def aCZ (O:Orc) (LP:LBs):bL:=fun s1 s1u=>cnd (chkL lM s1) (cnd (chkU [] s1u)
 (cnd (decide ((iv s1 4)<(iv s1 3)))
 (bnd (ix 5 (zs s1 2) (zn s1 4)) fun x8=>cnd (chk (.ref shOp) x8)
 (bnd (apd 1 (zo s1 1) (.slice [(zs (rf x8) 3)] [] true)) fun x10=>cnd (chk st' x10)
 (some (.nrm,(pu (pu (rb lM s1) 1 (.slice (esV x10) [] true)) 4 (i6 (w6 ((iv s1 4)+1)))),[])) none) none)
 (some (.brk 0,(rb lM s1),[]))) none) none
abbrev lN:List Sh:=[st',sf,n6,n6,sf,sf]
def aC0 (O:Orc) (LP:LBs):bL:=fun s15 s15u=>cnd (chkL lN s15) (cnd (chkU [] s15u)
 (cnd (decide ((iv s15 3)<(iv s15 2)))
 (bnd (ix 4 (zs s15 1) (zn s15 3)) fun x22=>cnd (chk (.ref iP) x22)
 (bnd (apd 1 (zo s15 0) (.slice [(zs (rf x22) 2)] [] true)) fun x24=>cnd (chk st' x24)
 (some (.nrm,(pu (pu (rb lN s15) 0 (.slice (esV x24) [] true)) 3 (i6 (w6 ((iv s15 3)+1)))),[])) none) none)
 (some (.brk 2,(rb lN s15),[]))) none) none
def aC1 (O:Orc) (LP:LBs) (d:GDoc):Option (PV×UP) :=
 bnd (LP (aCZ O LP) [(.ptr 0 1 0),(.slice [] [] true),(zq aU d.ops),(i6 (List.length (List.map aU d.ops):Int)),(i6 0),(zq aU d.ops),(zq aF d.frags)] []) fun y14 =>
 exIs y14.1 (some 0) (cnd (chkL lM y14.2.1) (cnd (chkU [] y14.2.2)
 (bnd (LP (aC0 O LP) [(zo y14.2.1 1),(zs y14.2.1 6),(i6 (List.length (ev y14.2.1 6):Int)),(i6 0),(zs y14.2.1 5),(zs y14.2.1 6)] []) fun y28 =>
 exIs y28.1 (some 2) (cnd (chkL lN y28.2.1) (cnd (chkU [] y28.2.2)
 (some ((zs y28.2.1 0),[])) none) none)
 (none)) none) none)
 (none)
noncomputable def lO (d:GDoc):((List (List GDir))×Int)→Option (((List (List GDir))×Int)⊕((List (List GDir))))
 | (l_6,t_7) =>
 cnd (decide (t_7<(List.length d.ops:Int)))
  (bnd (nthI d.ops t_7) fun y9 =>
  bnd (tapp l_6 [y9.dirs]) fun y11 =>
  some (.inl (y11,(IntKind.wrap .i64 (t_7+1)))))
  (some (.inr l_6))
abbrev aFV (d:GDoc) (a0 a1:PV):List PV:=[(.ptr 0 1 0),a0,(zq aU d.ops),(i6 (List.length d.ops:Int)),a1,(zq aU d.ops),(zq aF d.frags)]
abbrev aOg (d:GDoc) (st:(List (List GDir))×Int) (l:List PV) (u:UP):Prop:=l=(aFV d (.slice (List.map (hJ aH) st.1) [] true) (i6 st.2))∧u=[]
abbrev aOh (d:GDoc) (p:(List (List GDir))) (r:EU):Prop:=∃ (t_13:Int),r=(Ex.brk 0,(aFV d (.slice (List.map (hJ aH) p) [] true) (i6 t_13)),[])
noncomputable def lP (d:GDoc):((List (List GDir))×Int)→Option (((List (List GDir))×Int)⊕((List (List GDir))))
 | (l_20,t_21) =>
 cnd (decide (t_21<(List.length d.frags:Int)))
  (bnd (nthI d.frags t_21) fun y23 =>
  bnd (tapp l_20 [y23.dirs]) fun y25 =>
  some (.inl (y25,(IntKind.wrap .i64 (t_21+1)))))
  (some (.inr l_20))
abbrev aFW (d:GDoc) (a0 a1:PV):List PV:=[a0,(zq aF d.frags),(i6 (List.length d.frags:Int)),a1,(zq aU d.ops),(zq aF d.frags)]
abbrev aOi (d:GDoc) (st:(List (List GDir))×Int) (l:List PV) (u:UP):Prop:=l=(aFW d (.slice (List.map (hJ aH) st.1) [] true) (i6 st.2))∧u=[]
abbrev aOj (d:GDoc) (p:(List (List GDir))) (r:EU):Prop:=∃ (t_27:Int),r=(Ex.brk 2,(aFW d (.slice (List.map (hJ aH) p) [] true) (i6 t_27)),[])
noncomputable def aBw (d:GDoc):Option (List (List GDir)) :=
 bnd (bG (lO d) ([],0)) fun l_12 =>
 bnd (bG (lP d) (l_12,0)) fun l_26 =>
 some l_26
def aRl:Decs:={decs:=[(13,(.ref shOp)),(19,st'),(26,(.ref iP)),(32,st')],loops:=[(3,[(1,2)],⟨lM,[],[(some 0,lM,[])]⟩),(8,[(1,2)],⟨lN,[],[(some 2,lN,[])]⟩)]}
theorem aRm (O:Orc) (LP:LBs) (d:GDoc):eW 104 aRl Tryz.f104 O LP [(eD d)] []=aC1 O LP d:=by kernel_rfl
theorem aJn (d:GDoc):Lok (aOg d) (lO d) (aCZ O aE) (aOh d):=by
 rintro ⟨l_6,t_7⟩ l u ⟨rfl,rfl⟩
 simp only [lO,aCZ,zd,zr]
 refine zG ?_
 try simp only [evs,tys]
 apply Imp.cnd
 ·refine zX aU aEM fun y9 _ => ?_
  try simp only [evs,tys]
  refine Imp.op (f:=fun a => .slice (List.map (hJ aH) a) [] true) (fun a h=>sD (enc:=(hJ aH)) zI zI (fun a=>by first | rfl | simp only [evs,tys,evc]) h) (fun a=>rfl) fun y11 hy11 => ?_
  try simp only [evs,tys]
  exact zN
 ·exact zB ⟨t_7,zE⟩
theorem aJo (d:GDoc):Lok (aOi d) (lP d) (aC0 O aE) (aOj d):=by
 rintro ⟨l_20,t_21⟩ l u ⟨rfl,rfl⟩
 simp only [lP,aC0,zd,zr]
 refine zG ?_
 try simp only [evs,tys]
 apply Imp.cnd
 ·refine zX aF jD fun y23 _ => ?_
  try simp only [evs,tys]
  refine Imp.op (f:=fun a => .slice (List.map (hJ aH) a) [] true) (fun a h=>sD (enc:=(hJ aH)) zI zI (fun a=>by first | rfl | simp only [evs,tys,evc]) h) (fun a=>rfl) fun y25 hy25 => ?_
  try simp only [evs,tys]
  exact zN
 ·exact zB ⟨t_21,zE⟩
theorem aOk (d:GDoc):Imp (aBw d) (aC1 O aE d) (Ri aAp):=by
 simp only [aBw,aC1,zd,zr]
 try simp only [evs,tys]
 refine zL (aJn d) ?_
 rintro l_12 _ ⟨t_13,rfl⟩
 refine zH ?_
 try simp only [evs,tys]
 refine zL (aJo d) ?_
 rintro l_26 _ ⟨t_27,rfl⟩
 refine zH ?_
 try simp only [evs,tys]
 exact zR
theorem aOl {d:GDoc} {r:List (List GDir)} (h:aBw d=some r):aDW d=some r:=zV aUq (aOk d) Tryz.func104 (aRm _ _ d) h
abbrev dJ:List Sh:=[.bool,sf,n6,n6]
def wY (O:Orc) (LP:LBs):bL:=fun s1 s1u=>cnd (chkL dJ s1) (cnd (chkU [] s1u)
 (cnd (decide ((iv s1 3)<(iv s1 2)))
 (bnd (ix 2 (zs s1 1) (zn s1 3)) fun x7=>cnd (chk (.ref aGa) x7)
 (aT O 34 [(zt (rf x7) 0)] fun x9=>cnd (chk (.tup [iK,.bool]) x9)
 (cnd (!(bP (tv x9 1)))
 (some (.ret,(pu (rb dJ s1) 0 (.bool false)),[]))
 (some (.nrm,(pu (rb dJ s1) 3 (i6 (w6 ((iv s1 3)+1)))),[]))) none) none)
 (some (.brk 0,(rb dJ s1),[]))) none) none
def wZ (O:Orc) (LP:LBs) (l0:List GDir):Option (PV×UP) :=
 bnd (LP (wY O LP) [(.bool false),(zq aH l0),(i6 (List.length (List.map aH l0):Int)),(i6 0)] []) fun y13 =>
 exIs y13.1 (some 0) (cnd (chkL dJ y13.2.1) (cnd (chkU [] y13.2.2)
 (some ((.bool true),[])) none) none)
 (exIs y13.1 none (cnd (chkL dJ y13.2.1) (cnd (chkU [] y13.2.2)
 (some ((zb y13.2.1 0),[])) none) none)
 (none))
noncomputable def iG (l0:List GDir):Int→Option (Int⊕(Unit⊕Unit))
 | t_6 =>
 cnd (decide (t_6<(List.length l0:Int)))
  (bnd (nthI l0 t_6) fun y8 =>
  bnd (aBp y8.name) fun y10 =>
  cnd (!y10.2)
  (some (.inr (.inr ())))
  (some (.inl (IntKind.wrap .i64 (t_6+1)))))
  (some (.inr (.inl ())))
abbrev tR (l0:List GDir) (a0:PV):List PV:=[(.bool false),(zq aH l0),(i6 (List.length l0:Int)),a0]
abbrev aJp (l0:List GDir) (st:Int) (l:List PV) (u:UP):Prop:=l=(tR l0 (i6 st))∧u=[]
abbrev aJq (l0:List GDir) (p:Unit⊕Unit) (r:EU):Prop:=elim p (fun (p:Unit)=>∃ (t_11:Int),r=(Ex.brk 0,(tR l0 (i6 t_11)),[])) (fun (p:Unit)=>∃ (t_12:Int),r=(Ex.ret,(tR l0 (i6 t_12)),[]))
noncomputable def sU (l0:List GDir):Option Bool :=
 bnd (bG (iG l0) 0) fun e13_2=>elim e13_2
 (fun p13 =>
 some true)
 (fun p13 =>
 some false)
def aLI:Decs:={decs:=[(11,(.ref aGa)),(16,(.tup [iK,.bool]))],loops:=[(2,[],⟨dJ,[],[(some 0,dJ,[]),(none,dJ,[])]⟩)]}
theorem aLJ (O:Orc) (LP:LBs) (l0:List GDir):eW 39 aLI Tryz.f39 O LP [(zq aH l0)] []=wZ O LP l0:=by kernel_rfl
theorem aGq (l0:List GDir):Lok (aJp l0) (iG l0) (wY O aE) (aJq l0):=by
 rintro t_6 l u ⟨rfl,rfl⟩
 simp only [iG,wY,zd,zr]
 refine zG ?_
 try simp only [evs,tys]
 apply Imp.cnd
 ·refine zX aH aBg fun y8 _ => ?_
  try simp only [evs,tys]
  refine zC rfl fun y10 _ => ?_
  try simp only [zes,evs,tys]
  apply Imp.cnd
  ·exact zT ⟨t_6,zE⟩
  ·exact zN
 ·exact zB ⟨t_6,zE⟩
theorem aJr (l0:List GDir):Imp (sU l0) (wZ O aE l0) (Ri aA):=by
 simp only [sU,wZ,zd,zr]
 try simp only [evs,tys]
 refine zL (aGq l0) ?_
 rintro (p | p) vy13 hy13
 ·try simp only [aO,aP]
  obtain ⟨t_11,rfl⟩:=hy13
  refine zH ?_
  try simp only [evs,tys]
  exact zR
 ·try simp only [aO,aP]
  obtain ⟨t_12,rfl⟩:=hy13
  refine Imp.exMiss rfl ?_
  refine zH ?_
  try simp only [evs,tys]
  exact zR
theorem aJs {l0:List GDir} {r:Bool} (h:sU l0=some r):aBq l0=some r:=zV aC (aJr l0) Tryz.func39 (aLJ _ _ l0) h
def aFn (O:Orc) (LP:LBs) (s:GSchema) (o:GOp):Option (PV×UP) :=
 cnd (o.kind==1)
 (some ((.str s.mutation),[]))
 (some ((.str s.query),[]))
noncomputable def aD7 (s:GSchema) (o:GOp):Option Str :=
 cnd (o.kind==1)
 (some s.mutation)
 (some s.query)
def aUW:Decs:={}
theorem aUX (O:Orc) (LP:LBs) (s:GSchema) (o:GOp):eW 68 aUW Tryz.f68 O LP [(eS s),(.agg [(i6 o.kind),(.str o.name),(zq aY o.vars),(zq aH o.dirs),(zq aG o.sels)])] []=aFn O LP s o:=by kernel_rfl
theorem aRn (s:GSchema) (o:GOp):Imp (aD7 s o) (aFn O aE s o) (Ri mR):=by
 simp only [aD7,aFn,zd,zr]
 try simp only [evs,tys]
 apply Imp.cnd
 ·exact zR
 ·exact zR
theorem aRo {s:GSchema} {o:GOp} {r:Str} (h:aD7 s o=some r):aHI s o=some r:=zV aDU (aRn s o) Tryz.func68 (aUX _ _ s o) h
def aAH (O:Orc) (LP:LBs) (s:GSchema) (typ:Str) (x:GSel):Option (PV×UP) :=
 cnd (x.kind==0)
 (aT O 109 [(eS s),(.str typ),(.str x.name)] fun x1=>cnd (chk (.tup [cQ,.bool]) x1)
 (some ((zt (tg x1 0) 2),[])) none)
 (cnd (x.kind==2)
 (cnd (!(x.on_==([]:Str)))
 (some ((.str x.on_),[]))
 (cnd (x.kind==2)
 (some ((.str typ),[]))
 (some ((.str []),[]))))
 (cnd (x.kind==2)
 (some ((.str typ),[]))
 (some ((.str []),[]))))
noncomputable def xA (s:GSchema) (typ:Str) (x:GSel):Option Str :=
 cnd (x.kind==0)
 (bnd (aLg s typ x.name) fun y2 =>
 some y2.1.t.name)
 (cnd (x.kind==2)
 (cnd (!(x.on_==([]:Str)))
 (some x.on_)
 (cnd (x.kind==2)
 (some typ)
 (some [])))
 (cnd (x.kind==2)
 (some typ)
 (some [])))
def aOm:Decs:={decs:=[(18,(.tup [cQ,.bool]))]}
theorem aOn (O:Orc) (LP:LBs) (s:GSchema) (typ:Str) (x:GSel):eW 138 aOm Tryz.f138 O LP [(eS s),(.str typ),(eL x)] []=aAH O LP s typ x:=by kernel_rfl
theorem aLK (s:GSchema) (typ:Str) (x:GSel):Imp (xA s typ x) (aAH O aE s typ x) (Ri mR):=by
 simp only [xA,aAH,zd,zr]
 try simp only [evs,tys]
 apply Imp.cnd
 ·refine zC rfl fun y2 _ => ?_
  try simp only [zes,evs,tys]
  exact zR
 ·apply Imp.cnd
  ·apply Imp.cnd
   ·exact zR
   ·apply Imp.cnd
    ·exact zR
    ·exact zR
  ·apply Imp.cnd
   ·exact zR
   ·exact zR
theorem aLL {s:GSchema} {typ:Str} {x:GSel} {r:Str} (h:xA s typ x=some r):uM s typ x=some r:=zV aDU (aLK s typ x) Tryz.func138 (aOn _ _ s typ x) h
def xB (O:Orc) (LP:LBs) (l0:List GDir):Option (PV×UP) :=
 some ((.bool ((List.length (List.map aH l0):Int)==0)),[])
noncomputable def sV (l0:List GDir):Option Bool :=
 some ((List.length l0:Int)==0)
def aLM:Decs:={}
theorem aLN (O:Orc) (LP:LBs) (l0:List GDir):eW 41 aLM Tryz.f41 O LP [(zq aH l0)] []=xB O LP l0:=by kernel_rfl
theorem aJt (l0:List GDir):Imp (sV l0) (xB O aE l0) (Ri aA):=by
 simp only [sV,xB,zd,zr]
 try simp only [evs,tys]
 exact zR
theorem aJu {l0:List GDir} {r:Bool} (h:sV l0=some r):aEW l0=some r:=zV aC (aJt l0) Tryz.func41 (aLN _ _ l0) h
abbrev gV:List Sh:=[sf,.bool,(.ptr 0 5 0),sf,n6,n6,(.slb false),n6,n6,.str,sf]
def aAI (O:Orc) (LP:LBs):bL:=fun s22 s22u=>cnd (chkL gV s22) (cnd (chkU [] s22u)
 (cnd (decide ((iv s22 8)<(iv s22 7)))
 (bnd (ix 2 (.slice (ev s22 6) (bsV (gt s22 6)) false) (zn s22 8)) fun x26=>cnd (chk (.ref aGa) x26)
 (cnd ((sv (rf x26) 0)==(sv s22 9))
 (some (.brk 0,(pu (pu (rb gV s22) 1 (.bool false)) 6 (.slice (ev s22 6) (bsV (gt s22 6)) false)),[]))
 (some (.nrm,(pu (pu (rb gV s22) 6 (.slice (ev s22 6) (bsV (gt s22 6)) false)) 8 (i6 (w6 ((iv s22 8)+1)))),[]))) none)
 (some (.brk 2,(pu (rb gV s22) 6 (.slice (ev s22 6) (bsV (gt s22 6)) false)),[]))) none) none
abbrev mY:List Sh:=[sf,.bool,sf,n6,n6]
def aAJ (O:Orc) (LP:LBs):bL:=fun s1 s1u=>cnd (chkL mY s1) (cnd (chkU [] s1u)
 (cnd (decide ((iv s1 4)<(iv s1 3)))
 (bnd (ix 2 (zs s1 2) (zn s1 4)) fun x18=>cnd (chk (.ref aGa) x18)
 (bnd (aTQ 2 (zs s1 0) (zn s1 4)) fun x20=>cnd (chk (.slb false) x20)
 (bnd (LP (aAI O LP) [(zs s1 0),(zb s1 1),(.ptr 0 5 0),(zs s1 2),(zn s1 3),(zn s1 4),(.slice (esV x20) (bsV x20) false),(i6 (List.length (esV x20):Int)),(i6 0),(zt (rf x18) 0),(zs (rf x18) 1)] []) fun y32 =>
 exIs y32.1 (some 2) (cnd (chkL [sf,.bool,(.ptr 0 5 0),sf,n6,n6,(.slb false),n6,n6,.str,sf] y32.2.1) (cnd (chkU [] y32.2.2)
 (some (.nrm,[(zs y32.2.1 0),(zb y32.2.1 1),(zs y32.2.1 3),(zn y32.2.1 4),(i6 (w6 ((iv y32.2.1 5)+1)))],[])) none) none)
 (exIs y32.1 (some 0) (cnd (chkL [sf,.bool,(.ptr 0 5 0),sf,n6,n6,(.slb false),n6,n6,.str,sf] y32.2.1) (cnd (chkU [] y32.2.2)
 (some (.brk 0,[(zs y32.2.1 0),(zb y32.2.1 1),(zs y32.2.1 3),(zn y32.2.1 4),(zn y32.2.1 5)],[])) none) none)
 (none))) none) none)
 (some (.brk 0,(rb mY s1),[]))) none) none
def aAK (O:Orc) (LP:LBs) (l0:List GDir):Option (PV×UP) :=
 bnd (LP (aAJ O LP) [(zq aH l0),(.bool true),(zq aH l0),(i6 (List.length (List.map aH l0):Int)),(i6 0)] []) fun y35 =>
 exIs y35.1 (some 0) (cnd (chkL mY y35.2.1) (cnd (chkU [] y35.2.2)
 (some ((zb y35.2.1 1),[])) none) none)
 (none)
noncomputable def gW (y19:GDir) (y21:List GDir):Int→Option (Int⊕(Unit⊕Unit))
 | t_25 =>
 cnd (decide (t_25<(List.length y21:Int)))
  (bnd (nthI y21 t_25) fun y27 =>
  cnd (y27.name==y19.name)
  (some (.inr (.inr ())))
  (some (.inl (IntKind.wrap .i64 (t_25+1)))))
  (some (.inr (.inl ())))
abbrev xC (l0:List GDir) (t_17:Int) (y19:GDir) (y21:List GDir) (a0 a1 a2:PV):List PV:=[(zq aH l0),a0,(.ptr 0 5 0),(zq aH l0),(i6 (List.length l0:Int)),(i6 t_17),a1,(i6 (List.length y21:Int)),a2,(.str y19.name),(zq aD y19.args)]
abbrev aD8 (l0:List GDir) (t_17:Int) (y19:GDir) (y21:List GDir) (st:Int) (l:List PV) (u:UP):Prop:=∃ (jby21:List GDir),l=(xC l0 t_17 y19 y21 (.bool true) (.slice (List.map aH y21) (List.map aH jby21) false) (i6 st))∧u=[]
abbrev aLO (l0:List GDir) (t_17:Int) (y19:GDir) (y21:List GDir) (p:Unit⊕Unit) (r:EU):Prop:=elim p (fun (p:Unit)=>∃ (jby21:List GDir),∃ (t_29:Int),r=(Ex.brk 2,(xC l0 t_17 y19 y21 (.bool true) (.slice (List.map aH y21) (List.map aH jby21) false) (i6 t_29)),[])) (fun (p:Unit)=>∃ (jby21:List GDir),∃ (t_31:Int),r=(Ex.brk 0,(xC l0 t_17 y19 y21 (.bool false) (.slice (List.map aH y21) (List.map aH jby21) false) (i6 t_31)),[]))
noncomputable def jQ (l0:List GDir):Int→Option (Int⊕Bool)
 | t_17 =>
 cnd (decide (t_17<(List.length l0:Int)))
  (bnd (nthI l0 t_17) fun y19 =>
  bnd (tslc (l0:List GDir) 0 t_17) fun y21 =>
  bnd (bG (gW y19 y21) 0) fun e32_2=>elim e32_2
  (fun p32 =>
  some (.inl (IntKind.wrap .i64 (t_17+1))))
  (fun p32 =>
  some (.inr false)))
  (some (.inr true))
abbrev aLP (l0:List GDir) (st:Int) (l:List PV) (u:UP):Prop:=l=[(zq aH l0),(.bool true),(zq aH l0),(i6 (List.length l0:Int)),(i6 st)]∧u=[]
abbrev aLQ (l0:List GDir) (p:Bool) (r:EU):Prop:=(fun (p:Bool)=>∃ (t_33:Int),r=(Ex.brk 0,[(zq aH l0),(.bool p),(zq aH l0),(i6 (List.length l0:Int)),(i6 t_33)],[])) p
noncomputable def xD (l0:List GDir):Option Bool :=
 bnd (bG (jQ l0) 0) fun ok_34 =>
 some ok_34
def aOo:Decs:={decs:=[(13,(.ref aGa)),(17,(.slb false)),(21,(.ref aGa))],loops:=[(3,[],⟨mY,[],[(some 0,mY,[])]⟩),(6,[(5,2)],⟨gV,[],[(some 2,gV,[]),(some 0,gV,[])]⟩)]}
theorem aOq (O:Orc) (LP:LBs) (l0:List GDir):eW 42 aOo Tryz.f42 O LP [(zq aH l0)] []=aAK O LP l0:=by kernel_rfl
theorem aH1 (l0:List GDir) (t_17:Int) (y19:GDir) (y21:List GDir):∀ st l u,aD8 l0 t_17 y19 y21 st l u→Imp (gW y19 y21 st) (aAI O aE l u) (mH (aD8 l0 t_17 y19 y21) (aLO l0 t_17 y19 y21)):=by
 rintro t_25 l u ⟨jby21,rfl,rfl⟩
 simp only [gW,aAI,zd,zr]
 refine zG ?_
 try simp only [evs,tys]
 apply Imp.cnd
 ·refine zX aH aBg fun y27 _ => ?_
  try simp only [evs,tys]
  apply Imp.cnd
  ·exact zB ⟨jby21,t_25,zE⟩
  ·exact Imp.some (mH.next ⟨jby21,zI,rfl⟩)
 ·exact zB ⟨jby21,t_25,zE⟩
theorem aH2 (l0:List GDir):Lok (aLP l0) (jQ l0) (aAJ O aE) (aLQ l0):=by
 rintro t_17 l u ⟨rfl,rfl⟩
 simp only [jQ,aAJ,zd,zr]
 refine zG ?_
 try simp only [evs,tys]
 apply Imp.cnd
 ·refine zX aH aBg fun y19 _ => ?_
  try simp only [evs,tys]
  refine Imp.op2 (f:=fun a b => .slice (List.map aH a) (List.map aH b) false) (fun a h=>aYf (enc:=aH) (b:=_) zI (by first | rfl | exact List.map_nil.symm | simp only [evs,tys,evl]) (fun a=>by first | rfl | simp only [evs,tys,evc]) h) (fun a b=>rfl) fun y21 jby21 hy21 => ?_
  try simp only [evs,tys]
  refine Imp.bnd (Imp.loop (aH1 l0 t_17 y19 y21) ⟨jby21,zI,rfl⟩) ?_
  rintro (p | p) vy32 hy32
  ·try simp only [aO,aP]
   obtain ⟨jby21,t_29,rfl⟩:=hy32
   refine zH ?_
   try simp only [evs,tys]
   exact zN
  ·try simp only [aO,aP]
   obtain ⟨jby21,t_31,rfl⟩:=hy32
   refine Imp.exMiss rfl ?_
   refine zH ?_
   try simp only [evs,tys]
   exact zB ⟨t_17,zE⟩
 ·exact zB ⟨t_17,zE⟩
theorem aLR (l0:List GDir):Imp (xD l0) (aAK O aE l0) (Ri aA):=by
 simp only [xD,aAK,zd,zr]
 try simp only [evs,tys]
 refine zL (aH2 l0) ?_
 rintro ok_34 _ ⟨t_33,rfl⟩
 refine zH ?_
 try simp only [evs,tys]
 exact zR
theorem aLS {l0:List GDir} {r:Bool} (h:xD l0=some r):aDX l0=some r:=zV aC (aLR l0) Tryz.func42 (aOq _ _ l0) h
abbrev lQ:List Sh:=[(.ptr 0 1 0),(.ptr 0 2 0),st',n6,n6,n6,.str,st',st',n6,n6,.str,sf,sf]
def aC2 (O:Orc) (LP:LBs):bL:=fun s1 s1u=>cnd (chkL lQ s1) (cnd (chkU [] s1u)
 (cnd (decide ((iv s1 3)<(List.length (ev s1 12):Int)))
 (bnd (ix 5 (zs s1 12) (zn s1 3)) fun x10=>cnd (chk (.ref mK) x10)
 (aT O 175 [(.agg [(zn (rf x10) 0),(zn (rf x10) 1),(zt (rf x10) 2),(zs (rf x10) 3),(zs (rf x10) 4)])] fun x12=>cnd (chk mK x12)
 (bnd (apd 5 (zo s1 2) (.slice [(.agg [(i6 (intV (gt (aggV x12) 0))),(i6 (intV (gt (aggV x12) 1))),(.str (strV (gt (aggV x12) 2))),(.slice (esV (gt (aggV x12) 3)) [] false),(.slice (esV (gt (aggV x12) 4)) [] false)])] [] true)) fun x14=>cnd (chk st' x14)
 (some (.nrm,(pu (pu (rb lQ s1) 2 (.slice (esV x14) [] true)) 3 (i6 (w6 ((iv s1 3)+1)))),[])) none) none) none)
 (some (.brk 0,(rb lQ s1),[]))) none) none
def aC3 (O:Orc) (LP:LBs) (v0:GValue):Option (PV×UP) :=
 bnd (LP (aC2 O LP) [(.ptr 0 1 0),(.ptr 0 2 0),(.slice [] [] true),(i6 0),(i6 0),(i6 0),(.str []),(.slice [] [] true),(.slice [] [] true),(i6 v0.kind),(i6 v0.n),(.str v0.s),(zq aN v0.l),(zq aD v0.m)] []) fun y18 =>
 exIs y18.1 (some 0) (cnd (chkL lQ y18.2.1) (cnd (chkU [] y18.2.2)
 (aT O 103 [(zs y18.2.1 13)] fun x19=>cnd (chk sf x19)
 (some ((.agg [(zn y18.2.1 9),(zn y18.2.1 10),(zt y18.2.1 11),(zs y18.2.1 2),(.slice (esV x19) [] false)]),[])) none) none) none)
 (none)
noncomputable def lR (v0:GValue):((List GValue)×Int)→Option (((List GValue)×Int)⊕((List GValue)))
 | (l_8,i_9) =>
 cnd (decide (i_9<(List.length v0.l:Int)))
  (bnd (nthI v0.l i_9) fun y11 =>
  bnd (aBs y11) fun y13 =>
  bnd (tapp l_8 [y13]) fun y15 =>
  some (.inl (y15,(IntKind.wrap .i64 (i_9+1)))))
  (some (.inr l_8))
abbrev aFX (v0:GValue) (a0 a1:PV):List PV:=[(.ptr 0 1 0),(.ptr 0 2 0),a0,a1,(i6 0),(i6 0),(.str []),(.slice [] [] true),(.slice [] [] true),(i6 v0.kind),(i6 v0.n),(.str v0.s),(zq aN v0.l),(zq aD v0.m)]
abbrev aOr (v0:GValue) (st:(List GValue)×Int) (l:List PV) (u:UP):Prop:=l=(aFX v0 (zp aN st.1) (i6 st.2))∧u=[]
abbrev aOs (v0:GValue) (p:(List GValue)) (r:EU):Prop:=∃ (i_17:Int),r=(Ex.brk 0,(aFX v0 (zp aN p) (i6 i_17)),[])
noncomputable def aBx (v0:GValue):Option GValue :=
 bnd (bG (lR v0) ([],0)) fun l_16 =>
 bnd (uL v0.m) fun y20 =>
 some (GValue.mk v0.kind v0.n v0.s l_16 y20)
def aRp:Decs:={decs:=[(16,(.ref mK)),(18,mK),(20,st'),(24,sf)],loops:=[(3,[(2,5),(1,5)],⟨lQ,[],[(some 0,lQ,[])]⟩)]}
theorem aRq (O:Orc) (LP:LBs) (v0:GValue):eW 175 aRp Tryz.f175 O LP [(eV v0)] []=aC3 O LP v0:=by kernel_rfl
theorem aJv (v0:GValue):Lok (aOr v0) (lR v0) (aC2 O aE) (aOs v0):=by
 rintro ⟨l_8,i_9⟩ l u ⟨rfl,rfl⟩
 simp only [lR,aC2,zd,zr]
 refine zG ?_
 try simp only [evs,tys]
 apply Imp.cnd
 ·refine zX aN aBf fun y11 _ => ?_
  try simp only [evs,tys]
  refine zC rfl fun y13 _ => ?_
  try simp only [zes,evs,tys]
  refine Imp.op (f:=fun a => .slice (List.map aN a) [] true) (fun a h=>sD (enc:=aN) zI zI (fun a=>by first | rfl | simp only [evs,tys,evc]) h) (fun a=>rfl) fun y15 hy15 => ?_
  try simp only [evs,tys]
  exact zN
 ·exact zB ⟨i_9,zE⟩
theorem aOt (v0:GValue):Imp (aBx v0) (aC3 O aE v0) (Ri aAq):=by
 simp only [aBx,aC3,zd,zr]
 try simp only [evs,tys]
 refine zL (aJv v0) ?_
 rintro l_16 _ ⟨i_17,rfl⟩
 refine zH ?_
 try simp only [evs,tys]
 refine zC rfl fun y20 _ => ?_
 try simp only [zes,evs,tys]
 exact zR
theorem aOu {v0:GValue} {r:GValue} (h:aBx v0=some r):aBs v0=some r:=zV aUr (aOt v0) Tryz.func175 (aRq _ _ v0) h
def aAL (O:Orc) (LP:LBs) (s:GSchema) (typ:Str) (x:GSel):Option (PV×UP) :=
 cnd (x.kind==0)
 (aT O 117 [(eS s),(.str typ),(.str x.name)] fun x1=>cnd (chk (.tup [cQ,.bool]) x1)
 (some ((zt (tg x1 0) 2),[])) none)
 (cnd (x.kind==2)
 (cnd (x.on_==([]:Str))
 (some ((.str typ),[]))
 (some ((.str x.on_),[])))
 (some ((.str []),[])))
noncomputable def xE (s:GSchema) (typ:Str) (x:GSel):Option Str :=
 cnd (x.kind==0)
 (bnd (aLh s typ x.name) fun y2 =>
 some y2.1.t.name)
 (cnd (x.kind==2)
 (cnd (x.on_==([]:Str))
 (some typ)
 (some x.on_))
 (some []))
def aOv:Decs:={decs:=[(18,(.tup [cQ,.bool]))]}
theorem aOw (O:Orc) (LP:LBs) (s:GSchema) (typ:Str) (x:GSel):eW 184 aOv Tryz.f184 O LP [(eS s),(.str typ),(eL x)] []=aAL O LP s typ x:=by kernel_rfl
theorem aLT (s:GSchema) (typ:Str) (x:GSel):Imp (xE s typ x) (aAL O aE s typ x) (Ri mR):=by
 simp only [xE,aAL,zd,zr]
 try simp only [evs,tys]
 apply Imp.cnd
 ·refine zC rfl fun y2 _ => ?_
  try simp only [zes,evs,tys]
  exact zR
 ·apply Imp.cnd
  ·apply Imp.cnd
   ·exact zR
   ·exact zR
  ·exact zR
theorem aLU {s:GSchema} {typ:Str} {x:GSel} {r:Str} (h:xE s typ x=some r):aHJ s typ x=some r:=zV aDU (aLT s typ x) Tryz.func184 (aOw _ _ s typ x) h
def aLV (O:Orc) (LP:LBs) (s:GSchema) (name:Str) (a:Int) (b:Int) (c:Int):Option (PV×UP) :=
 aT O 164 [(eS s),(.str name)] fun x1=>cnd (chk (.tup [oS,.bool]) x1)
 (cnd (bP (tv x1 1))
 (cnd ((iv (tg x1 0) 0)==a)
 (some ((.bool true),[]))
 (cnd ((iv (tg x1 0) 0)==b)
 (some ((.bool true),[]))
 (some ((.bool ((iv (tg x1 0) 0)==c)),[]))))
 (some ((.bool false),[]))) none
noncomputable def aLW (s:GSchema) (name:Str) (a:Int) (b:Int) (c:Int):Option Bool :=
 bnd (vZ s name) fun y2 =>
 cnd y2.2
 (cnd (y2.1.kind==a)
 (some true)
 (cnd (y2.1.kind==b)
 (some true)
 (some (y2.1.kind==c))))
 (some false)
def aYH:Decs:={decs:=[(16,(.tup [oS,.bool]))]}
theorem aYI (O:Orc) (LP:LBs) (s:GSchema) (name:Str) (a:Int) (b:Int) (c:Int):eW 159 aYH Tryz.f159 O LP [(eS s),(.str name),(i6 a),(i6 b),(i6 c)] []=aLV O LP s name a b c:=by kernel_rfl
theorem aXa (s:GSchema) (name:Str) (a:Int) (b:Int) (c:Int):Imp (aLW s name a b c) (aLV O aE s name a b c) (Ri aA):=by
 simp only [aLW,aLV,zd,zr]
 try simp only [evs,tys]
 refine zC rfl fun y2 _ => ?_
 try simp only [zes,evs,tys]
 apply Imp.cnd
 ·apply Imp.cnd
  ·exact zR
  ·apply Imp.cnd
   ·exact zR
   ·exact zR
 ·exact zR
theorem aXb {s:GSchema} {name:Str} {a:Int} {b:Int} {c:Int} {r:Bool} (h:aLW s name a b c=some r):aYF s name a b c=some r:=zV aC (aXa s name a b c) Tryz.func159 (aYI _ _ s name a b c) h
def aFo (O:Orc) (LP:LBs):bL:=fun s5 s5u=>cnd (chkL [.str,.bool,n6] s5) (cnd (chkU [] s5u)
 (cnd (decide ((iv s5 2)<(List.length (sv s5 0):Int)))
 (bnd (tD (zt s5 0) (zn s5 2)) fun x15=>cnd (chk (.int .u8) x15)
 (aT O 169 [(.int .u8 (intV x15))] fun x17=>cnd (chk .bool x17)
 (cnd (!(bP x17))
 (bnd (tD (zt s5 0) (zn s5 2)) fun x19=>cnd (chk (.int .u8) x19)
 (aT O 170 [(.int .u8 (intV x19))] fun x21=>cnd (chk .bool x21)
 (cnd (!(bP x21))
 (some (.ret,[(zt s5 0),(.bool false),(zn s5 2)],[]))
 (some (.nrm,[(zt s5 0),(zb s5 1),(i6 (w6 ((iv s5 2)+1)))],[]))) none) none)
 (some (.nrm,[(zt s5 0),(zb s5 1),(i6 (w6 ((iv s5 2)+1)))],[]))) none) none)
 (some (.brk 0,[(zt s5 0),(zb s5 1),(zn s5 2)],[]))) none) none
def aFp (O:Orc) (LP:LBs) (s:Str):Option (PV×UP) :=
 cnd (s==([]:Str))
 (some ((.bool false),[]))
 (bnd (tD (.str s) (i6 0)) fun x1=>cnd (chk (.int .u8) x1)
 (aT O 169 [(.int .u8 (intV x1))] fun x3=>cnd (chk .bool x3)
 (cnd (!(bP x3))
 (some ((.bool false),[]))
 (bnd (LP (aFo O LP) [(.str s),(.bool false),(i6 1)] []) fun y25 =>
 exIs y25.1 (some 0) (cnd (chkL [.str,.bool,n6] y25.2.1) (cnd (chkU [] y25.2.2)
 (some ((.bool true),[])) none) none)
 (exIs y25.1 none (cnd (chkL [.str,.bool,n6] y25.2.1) (cnd (chkU [] y25.2.2)
 (some ((zb y25.2.1 1),[])) none) none)
 (none)))) none) none)
noncomputable def nX (s:Str):Int→Option (Int⊕(Unit⊕Unit))
 | i_14 =>
 cnd (decide (i_14<(List.length s:Int)))
  (bnd (nthI s i_14) fun y16 =>
  bnd (aGK (y16.toNat:Int)) fun y18 =>
  cnd (!y18)
  (bnd (nthI s i_14) fun y20 =>
  bnd (aGJ (y20.toNat:Int)) fun y22 =>
  cnd (!y22)
   (some (.inr (.inr ())))
   (some (.inl (IntKind.wrap .i64 (i_14+1)))))
  (some (.inl (IntKind.wrap .i64 (i_14+1)))))
  (some (.inr (.inl ())))
abbrev aRr (s:Str) (st:Int) (l:List PV) (u:UP):Prop:=l=[(.str s),(.bool false),(i6 st)]∧u=[]
abbrev aRs (s:Str) (p:Unit⊕Unit) (r:EU):Prop:=elim p (fun (p:Unit)=>∃ (i_23:Int),r=(Ex.brk 0,[(.str s),(.bool false),(i6 i_23)],[])) (fun q2=>(fun (p:Unit)=>∃ (i_24:Int),r=(Ex.ret,[(.str s),(.bool false),(i6 i_24)],[])) q2)
noncomputable def aD9 (s:Str):Option Bool :=
 cnd (s==([]:Str))
 (some false)
 (bnd (nthI s 0) fun y2 =>
 bnd (aGK (y2.toNat:Int)) fun y4 =>
 cnd (!y4)
 (some false)
 (bnd (bG (nX s) 1) fun e25_2=>elim e25_2
 (fun p25 =>
 some true)
 (fun p25 =>
 some false)))
def aUY:Decs:={decs:=[(8,(.int .u8)),(9,.bool),(20,(.int .u8)),(21,.bool),(26,(.int .u8)),(27,.bool)],loops:=[(4,[],⟨[.str,.bool,n6],[],[(some 0,[.str,.bool,n6],[]),(none,[.str,.bool,n6],[])]⟩)]}
theorem aUZ (O:Orc) (LP:LBs) (s:Str):eW 98 aUY Tryz.f98 O LP [(.str s)] []=aFp O LP s:=by kernel_rfl
theorem aLX (s:Str):Lok (aRr s) (nX s) (aFo O aE) (aRs s):=by
 rintro i_14 l u ⟨rfl,rfl⟩
 simp only [nX,aFo,zd,zr]
 refine zG ?_
 try simp only [evs,tys]
 apply Imp.cnd
 ·refine Imp.op (f:=fun a => .int .u8 (a.toNat:Int)) (fun a h=>gO h) (fun a=>rfl) fun y16 hy16 => ?_
  try simp only [evs,tys]
  refine zC rfl fun y18 _ => ?_
  try simp only [zes,evs,tys]
  apply Imp.cnd
  ·refine Imp.op (f:=fun a => .int .u8 (a.toNat:Int)) (fun a h=>gO h) (fun a=>rfl) fun y20 hy20 => ?_
   try simp only [evs,tys]
   refine zC rfl fun y22 _ => ?_
   try simp only [zes,evs,tys]
   apply Imp.cnd
   ·exact zT ⟨i_14,zE⟩
   ·exact zN
  ·exact zN
 ·exact zB ⟨i_14,zE⟩
theorem aRt (s:Str):Imp (aD9 s) (aFp O aE s) (Ri aA):=by
 simp only [aD9,aFp,zd,zr]
 try simp only [evs,tys]
 apply Imp.cnd
 ·exact zR
 ·refine Imp.op (f:=fun a => .int .u8 (a.toNat:Int)) (fun a h=>gO h) (fun a=>rfl) fun y2 hy2 => ?_
  try simp only [evs,tys]
  refine zC rfl fun y4 _ => ?_
  try simp only [zes,evs,tys]
  apply Imp.cnd
  ·exact zR
  ·refine zL (aLX s) ?_
   rintro (p | p) vy25 hy25
   ·try simp only [aO,aP]
    obtain ⟨i_23,rfl⟩:=hy25
    refine zH ?_
    try simp only [evs,tys]
    exact zR
   ·try simp only [aO,aP]
    obtain ⟨i_24,rfl⟩:=hy25
    refine Imp.exMiss rfl ?_
    refine zH ?_
    try simp only [evs,tys]
    exact zR
theorem aRu {s:Str} {r:Bool} (h:aD9 s=some r):aQv s=some r:=zV aC (aRt s) Tryz.func98 (aUZ _ _ s) h
def aAM (O:Orc) (LP:LBs) (name:Str):Option (PV×UP) :=
 cnd (name==([73,110,116]:Str))
 (some ((.bool true),[]))
 (cnd (name==([83,116,114,105,110,103]:Str))
 (some ((.bool true),[]))
 (cnd (name==([66,111,111,108,101,97,110]:Str))
 (some ((.bool true),[]))
 (some ((.bool (name==([73,68]:Str))),[]))))
noncomputable def xF (name:Str):Option Bool :=
 cnd (name==([73,110,116]:Str))
 (some true)
 (cnd (name==([83,116,114,105,110,103]:Str))
 (some true)
 (cnd (name==([66,111,111,108,101,97,110]:Str))
 (some true)
 (some (name==([73,68]:Str)))))
def aOx:Decs:={}
theorem aOy (O:Orc) (LP:LBs) (name:Str):eW 156 aOx Tryz.f156 O LP [(.str name)] []=aAM O LP name:=by kernel_rfl
theorem aLY (name:Str):Imp (xF name) (aAM O aE name) (Ri aA):=by
 simp only [xF,aAM,zd,zr]
 try simp only [evs,tys]
 apply Imp.cnd
 ·exact zR
 ·apply Imp.cnd
  ·exact zR
  ·apply Imp.cnd
   ·exact zR
   ·exact zR
theorem aLZ {name:Str} {r:Bool} (h:xF name=some r):aHK name=some r:=zV aC (aLY name) Tryz.func156 (aOy _ _ name) h
abbrev lS:List Sh:=[sf,.str,(.ptr 0 4 0),.bool,n6,.str,.str,n6,n6,.bool,n6,n6,.str,st',st']
def aC4 (O:Orc) (LP:LBs):bL:=fun s1 s1u=>cnd (chkL lS s1) (cnd (chkU [] s1u)
 (cnd (decide ((iv s1 4)<(List.length (ev s1 0):Int)))
 (bnd (ix 10 (zs s1 0) (zn s1 4)) fun x7=>cnd (chk (.ref iK) x7)
 (cnd ((sv (rf x7) 0)==(sv s1 1))
 (bnd (ix 10 (zs s1 0) (zn s1 4)) fun x9=>cnd (chk (.ref iK) x9)
 (some (.ret,[(zs s1 0),(zt s1 1),(.ptr 0 4 0),(.bool true),(zn s1 4),(zt (rf x9) 0),(zt (rf x9) 1),(zn (rf x9) 2),(zn (rf x9) 3),(zb (rf x9) 4),(zn (rf x9) 5),(zn (rf x9) 6),(zt (rf x9) 7),(zs (rf x9) 8),(zs (rf x9) 9)],[])) none)
 (some (.nrm,(pu (rb lS s1) 4 (i6 (w6 ((iv s1 4)+1)))),[]))) none)
 (some (.brk 0,(rb lS s1),[]))) none) none
def aC5 (O:Orc) (LP:LBs) (l0:List GParam) (name:Str):Option (PV×UP) :=
 bnd (LP (aC4 O LP) [(zq aQ l0),(.str name),(.ptr 0 4 0),(.bool false),(i6 0),(.str []),(.str []),(i6 0),(i6 0),(.bool false),(i6 0),(i6 0),(.str []),(.slice [] [] true),(.slice [] [] true)] []) fun y23 =>
 exIs y23.1 (some 0) (cnd (chkL lS y23.2.1) (cnd (chkU [] y23.2.2)
 (some ((.tuple [(.agg [(.str []),(.str []),(i6 0),(i6 0),(.bool false),(i6 0),(i6 0),(.str []),(.slice [] [] false),(.slice [] [] false)]),(.bool false)]),[])) none) none)
 (exIs y23.1 none (cnd (chkL [sf,.str,(.ptr 0 4 0),.bool,n6,.str,.str,n6,n6,.bool,n6,n6,.str,sf,sf] y23.2.1) (cnd (chkU [] y23.2.2)
 (some ((.tuple [(.agg [(zt y23.2.1 5),(zt y23.2.1 6),(zn y23.2.1 7),(zn y23.2.1 8),(zb y23.2.1 9),(zn y23.2.1 10),(zn y23.2.1 11),(zt y23.2.1 12),(zs y23.2.1 13),(zs y23.2.1 14)]),(zb y23.2.1 3)]),[])) none) none)
 (none))
noncomputable def sW (l0:List GParam) (name:Str):Int→Option (Int⊕(Unit⊕(Str×Str×Int×Int×Bool×Int×Int×Str×(List GValue)×(List GMember))))
 | i_6 =>
 cnd (decide (i_6<(List.length l0:Int)))
  (bnd (nthI l0 i_6) fun y8 =>
  cnd (y8.name==name)
  (bnd (nthI l0 i_6) fun y10 =>
  some (.inr (.inr (y10.name,y10.t.name,y10.t.lists,y10.t.musts,y10.has,y10.default.kind,y10.default.n,y10.default.s,y10.default.l,y10.default.m))))
  (some (.inl (IntKind.wrap .i64 (i_6+1)))))
  (some (.inr (.inl ())))
abbrev aOz (l0:List GParam) (name:Str) (st:Int) (l:List PV) (u:UP):Prop:=l=[(zq aQ l0),(.str name),(.ptr 0 4 0),(.bool false),(i6 st),(.str []),(.str []),(i6 0),(i6 0),(.bool false),(i6 0),(i6 0),(.str []),(.slice [] [] true),(.slice [] [] true)]∧u=[]
abbrev aOA (l0:List GParam) (name:Str) (p:Unit⊕(Str×Str×Int×Int×Bool×Int×Int×Str×(List GValue)×(List GMember))) (r:EU):Prop:=elim p (fun (p:Unit)=>∃ (i_11:Int),r=(Ex.brk 0,[(zq aQ l0),(.str name),(.ptr 0 4 0),(.bool false),(i6 i_11),(.str []),(.str []),(i6 0),(i6 0),(.bool false),(i6 0),(i6 0),(.str []),(.slice [] [] true),(.slice [] [] true)],[])) (fun q2=>(fun (p:Str×Str×Int×Int×Bool×Int×Int×Str×(List GValue)×(List GMember))=>∃ (i_12:Int),r=(Ex.ret,[(zq aQ l0),(.str name),(.ptr 0 4 0),(.bool true),(i6 i_12),(.str p.1),(.str p.2.1),(i6 p.2.2.1),(i6 p.2.2.2.1),(.bool p.2.2.2.2.1),(i6 p.2.2.2.2.2.1),(i6 p.2.2.2.2.2.2.1),(.str p.2.2.2.2.2.2.2.1),(zq aN p.2.2.2.2.2.2.2.2.1),(zq aD p.2.2.2.2.2.2.2.2.2)],[])) q2)
noncomputable def uY (l0:List GParam) (name:Str):Option (GParam×Bool) :=
 bnd (bG (sW l0 name) 0) fun e23_2=>elim e23_2
 (fun p23 =>
 some ((GParam.mk [] (GType.mk [] 0 0) false (GValue.mk 0 0 [] ([]:List GValue) ([]:List GMember))),false))
 (fun p23 =>
 some ((GParam.mk p23.1 (GType.mk p23.2.1 p23.2.2.1 p23.2.2.2.1) p23.2.2.2.2.1 (GValue.mk p23.2.2.2.2.2.1 p23.2.2.2.2.2.2.1 p23.2.2.2.2.2.2.2.1 p23.2.2.2.2.2.2.2.2.1 p23.2.2.2.2.2.2.2.2.2)),true))
def aRv:Decs:={decs:=[(15,(.ref iK)),(22,(.ref iK))],loops:=[(2,[(4,10)],⟨lS,[],[(some 0,lS,[]),(none,[sf,.str,(.ptr 0 4 0),.bool,n6,.str,.str,n6,n6,.bool,n6,n6,.str,sf,sf],[])]⟩)]}
theorem aRw (O:Orc) (LP:LBs) (l0:List GParam) (name:Str):eW 193 aRv Tryz.f193 O LP [(zq aQ l0),(.str name)] []=aC5 O LP l0 name:=by kernel_rfl
theorem aJw (l0:List GParam) (name:Str):Lok (aOz l0 name) (sW l0 name) (aC4 O aE) (aOA l0 name):=by
 rintro i_6 l u ⟨rfl,rfl⟩
 simp only [sW,aC4,zd,zr]
 refine zG ?_
 try simp only [evs,tys]
 apply Imp.cnd
 ·refine zX aQ nN fun y8 _ => ?_
  try simp only [evs,tys]
  apply Imp.cnd
  ·refine zX aQ nN fun y10 _ => ?_
   try simp only [evs,tys]
   exact zT ⟨i_6,zE⟩
  ·exact zN
 ·exact zB ⟨i_6,zE⟩
theorem aOB (l0:List GParam) (name:Str):Imp (uY l0 name) (aC5 O aE l0 name) (Ri jE):=by
 simp only [uY,aC5,zd,zr]
 try simp only [evs,tys]
 refine zL (aJw l0 name) ?_
 rintro (p | ⟨b_13,b_14,b_15,b_16,b_17,b_18,b_19,b_20,b_21,b_22⟩) vy23 hy23
 ·try simp only [aO,aP]
  obtain ⟨i_11,rfl⟩:=hy23
  refine zH ?_
  try simp only [evs,tys]
  exact zR
 ·try simp only [aO,aP]
  obtain ⟨i_12,rfl⟩:=hy23
  refine Imp.exMiss rfl ?_
  refine zH ?_
  try simp only [evs,tys]
  exact zR
theorem aOC {l0:List GParam} {name:Str} {r:GParam×Bool} (h:uY l0 name=some r):aLf l0 name=some r:=zV aFL (aOB l0 name) Tryz.func193 (aRw _ _ l0 name) h
abbrev qN:List Sh:=[.str,sf,(.ptr 0 4 0),.bool,n6,n6,n6,.str,st',st']
def aH3 (O:Orc) (LP:LBs):bL:=fun s1 s1u=>cnd (chkL qN s1) (cnd (chkU [] s1u)
 (cnd (decide ((iv s1 4)<(List.length (ev s1 1):Int)))
 (bnd (ix 6 (zs s1 1) (zn s1 4)) fun x7=>cnd (chk (.ref dS) x7)
 (cnd ((sv (rf x7) 0)==(sv s1 0))
 (bnd (ix 6 (zs s1 1) (zn s1 4)) fun x9=>cnd (chk (.ref dS) x9)
 (some (.ret,[(zt s1 0),(zs s1 1),(.ptr 0 4 0),(.bool true),(zn s1 4),(zn (rf x9) 1),(zn (rf x9) 2),(zt (rf x9) 3),(zs (rf x9) 4),(zs (rf x9) 5)],[])) none)
 (some (.nrm,(pu (rb qN s1) 4 (i6 (w6 ((iv s1 4)+1)))),[]))) none)
 (some (.brk 0,(rb qN s1),[]))) none) none
def aH4 (O:Orc) (LP:LBs) (name:Str) (l0:List GMember):Option (PV×UP) :=
 bnd (LP (aH3 O LP) [(.str name),(zq aD l0),(.ptr 0 4 0),(.bool false),(i6 0),(i6 0),(i6 0),(.str []),(.slice [] [] true),(.slice [] [] true)] []) fun y18 =>
 exIs y18.1 (some 0) (cnd (chkL qN y18.2.1) (cnd (chkU [] y18.2.2)
 (some ((.tuple [(.agg [(i6 0),(i6 0),(.str []),(.slice [] [] false),(.slice [] [] false)]),(.bool false)]),[])) none) none)
 (exIs y18.1 none (cnd (chkL [.str,sf,(.ptr 0 4 0),.bool,n6,n6,n6,.str,sf,sf] y18.2.1) (cnd (chkU [] y18.2.2)
 (some ((.tuple [(.agg [(zn y18.2.1 5),(zn y18.2.1 6),(zt y18.2.1 7),(zs y18.2.1 8),(zs y18.2.1 9)]),(zb y18.2.1 3)]),[])) none) none)
 (none))
noncomputable def qO (name:Str) (l0:List GMember):Int→Option (Int⊕(Unit⊕(Int×Int×Str×(List GValue)×(List GMember))))
 | i_6 =>
 cnd (decide (i_6<(List.length l0:Int)))
  (bnd (nthI l0 i_6) fun y8 =>
  cnd (y8.name==name)
  (bnd (nthI l0 i_6) fun y10 =>
  some (.inr (.inr (y10.v.kind,y10.v.n,y10.v.s,y10.v.l,y10.v.m))))
  (some (.inl (IntKind.wrap .i64 (i_6+1)))))
  (some (.inr (.inl ())))
abbrev aU0 (name:Str) (l0:List GMember) (st:Int) (l:List PV) (u:UP):Prop:=l=[(.str name),(zq aD l0),(.ptr 0 4 0),(.bool false),(i6 st),(i6 0),(i6 0),(.str []),(.slice [] [] true),(.slice [] [] true)]∧u=[]
abbrev aU1 (name:Str) (l0:List GMember) (p:Unit⊕(Int×Int×Str×(List GValue)×(List GMember))) (r:EU):Prop:=elim p (fun (p:Unit)=>∃ (i_11:Int),r=(Ex.brk 0,[(.str name),(zq aD l0),(.ptr 0 4 0),(.bool false),(i6 i_11),(i6 0),(i6 0),(.str []),(.slice [] [] true),(.slice [] [] true)],[])) (fun q2=>(fun (p:Int×Int×Str×(List GValue)×(List GMember))=>∃ (i_12:Int),r=(Ex.ret,[(.str name),(zq aD l0),(.ptr 0 4 0),(.bool true),(i6 i_12),(i6 p.1),(i6 p.2.1),(.str p.2.2.1),(zq aN p.2.2.2.1),(zq aD p.2.2.2.2)],[])) q2)
noncomputable def aEa (name:Str) (l0:List GMember):Option (GValue×Bool) :=
 bnd (bG (qO name l0) 0) fun e18_2=>elim e18_2
 (fun p18 =>
 some ((GValue.mk 0 0 [] ([]:List GValue) ([]:List GMember)),false))
 (fun p18 =>
 some ((GValue.mk p18.1 p18.2.1 p18.2.2.1 p18.2.2.2.1 p18.2.2.2.2),true))
def aXc:Decs:={decs:=[(15,(.ref dS)),(22,(.ref dS))],loops:=[(2,[(4,5)],⟨qN,[],[(some 0,qN,[]),(none,[.str,sf,(.ptr 0 4 0),.bool,n6,n6,n6,.str,sf,sf],[])]⟩)]}
theorem aXd (O:Orc) (LP:LBs) (name:Str) (l0:List GMember):eW 219 aXc Tryz.f219 O LP [(.str name),(zq aD l0)] []=aH4 O LP name l0:=by kernel_rfl
theorem aOD (name:Str) (l0:List GMember):Lok (aU0 name l0) (qO name l0) (aH3 O aE) (aU1 name l0):=by
 rintro i_6 l u ⟨rfl,rfl⟩
 simp only [qO,aH3,zd,zr]
 refine zG ?_
 try simp only [evs,tys]
 apply Imp.cnd
 ·refine zX aD fO fun y8 _ => ?_
  try simp only [evs,tys]
  apply Imp.cnd
  ·refine zX aD fO fun y10 _ => ?_
   try simp only [evs,tys]
   exact zT ⟨i_6,zE⟩
  ·exact zN
 ·exact zB ⟨i_6,zE⟩
theorem aU2 (name:Str) (l0:List GMember):Imp (aEa name l0) (aH4 O aE name l0) (Ri aEX):=by
 simp only [aEa,aH4,zd,zr]
 try simp only [evs,tys]
 refine zL (aOD name l0) ?_
 rintro (p | ⟨b_13,b_14,b_15,b_16,b_17⟩) vy18 hy18
 ·try simp only [aO,aP]
  obtain ⟨i_11,rfl⟩:=hy18
  refine zH ?_
  try simp only [evs,tys]
  exact zR
 ·try simp only [aO,aP]
  obtain ⟨i_12,rfl⟩:=hy18
  refine Imp.exMiss rfl ?_
  refine zH ?_
  try simp only [evs,tys]
  exact zR
theorem aKb {name:Str} {l0:List GMember} {r:GValue×Bool} (h:aEa name l0=some r):aSV name l0=some r:=zV aYG (aU2 name l0) Tryz.func219 (aXd _ _ name l0) h
def aL0 (O:Orc) (LP:LBs) (t:GType):Option (PV×UP) :=
 aT O 101 [(eT t)] fun x1=>cnd (chk .bool x1)
 (cnd (bP x1)
 (some ((.bool ((bits .and .i64 t.musts 1)==1)),[]))
 (some ((.bool false),[]))) none
noncomputable def aL1 (t:GType):Option Bool :=
 bnd (oX t) fun y2 =>
 cnd y2
 (some ((bits .and .i64 t.musts 1)==1))
 (some false)
def aYJ:Decs:={decs:=[(4,.bool)]}
theorem aYK (O:Orc) (LP:LBs) (t:GType):eW 195 aYJ Tryz.f195 O LP [(eT t)] []=aL0 O LP t:=by kernel_rfl
theorem aXe (t:GType):Imp (aL1 t) (aL0 O aE t) (Ri aA):=by
 simp only [aL1,aL0,zd,zr]
 try simp only [evs,tys]
 refine zC rfl fun y2 _ => ?_
 try simp only [zes,evs,tys]
 apply Imp.cnd
 ·exact zR
 ·exact zR
theorem aXf {t:GType} {r:Bool} (h:aL1 t=some r):bA3 t=some r:=zV aC (aXe t) Tryz.func195 (aYK _ _ t) h
def aC6 (O:Orc) (LP:LBs) (c:Int):Option (PV×UP) :=
 cnd (decide (c≥48))
 (some ((.bool (decide (c≤57))),[]))
 (some ((.bool false),[]))
noncomputable def aBy (c:Int):Option Bool :=
 cnd (decide (c≥48))
 (some (decide (c≤57)))
 (some false)
def aRx:Decs:={}
theorem aRy (O:Orc) (LP:LBs) (c:Int):eW 170 aRx Tryz.f170 O LP [(.int .u8 c)] []=aC6 O LP c:=by kernel_rfl
theorem aOE (c:Int):Imp (aBy c) (aC6 O aE c) (Ri aA):=by
 simp only [aBy,aC6,zd,zr]
 try simp only [evs,tys]
 apply Imp.cnd
 ·exact zR
 ·exact zR
theorem aOF {c:Int} {r:Bool} (h:aBy c=some r):aGJ c=some r:=zV aC (aOE c) Tryz.func170 (aRy _ _ c) h
def xG (O:Orc) (LP:LBs) (f:GFieldDef) (u0_8:GDef) (u0_6:Str) (u0_60:Str) (u0_600:Int) (u0_6000:Int) (u0_5:Str) (u0_3:GSchema):Option (PV×UP) :=
 some ((.bool (f.name==u0_5)),[[(8,[(i6 u0_8.kind),(.str u0_8.name),(zq PV.str u0_8.faces),(zq aK u0_8.fields),(zq PV.str u0_8.parts),(zq aQ u0_8.params)]),(6,[(.str u0_6),(.slice [] [] true),(.str u0_60),(i6 u0_600),(i6 u0_6000),(.slice [] [] true)]),(5,[(.str u0_5)]),(3,[(zq aI u0_3.defs),(.str u0_3.query),(.str u0_3.mutation)])]])
noncomputable def aAN (f:GFieldDef) (u0_8:GDef) (u0_6:Str) (u0_60:Str) (u0_600:Int) (u0_6000:Int) (u0_5:Str) (u0_3:GSchema):Option Bool :=
 some (f.name==u0_5)
def aL2:Decs:={}
theorem aL3 (O:Orc) (LP:LBs) (f:GFieldDef) (u0_8:GDef) (u0_6:Str) (u0_60:Str) (u0_600:Int) (u0_6000:Int) (u0_5:Str) (u0_3:GSchema):eW 180 aL2 Tryz.f180 O LP [(.agg [(.str f.name),(zq aQ f.params),(.str f.t.name),(i6 f.t.lists),(i6 f.t.musts),(zq aH f.dirs)]),(.ptr 1 5 0)] [[(8,[(i6 u0_8.kind),(.str u0_8.name),(zq PV.str u0_8.faces),(zq aK u0_8.fields),(zq PV.str u0_8.parts),(zq aQ u0_8.params)]),(6,[(.str u0_6),(.slice [] [] true),(.str u0_60),(i6 u0_600),(i6 u0_6000),(.slice [] [] true)]),(5,[(.str u0_5)]),(3,[(zq aI u0_3.defs),(.str u0_3.query),(.str u0_3.mutation)])]]=xG O LP f u0_8 u0_6 u0_60 u0_600 u0_6000 u0_5 u0_3:=by kernel_rfl
theorem aJx (f:GFieldDef) (u0_8:GDef) (u0_6:Str) (u0_60:Str) (u0_600:Int) (u0_6000:Int) (u0_5:Str) (u0_3:GSchema):Imp (aAN f u0_8 u0_6 u0_60 u0_600 u0_6000 u0_5 u0_3) (xG O aE f u0_8 u0_6 u0_60 u0_600 u0_6000 u0_5 u0_3) (fun r v=>v=(aA r,(kQ f u0_8 u0_6 u0_60 u0_600 u0_6000 u0_5 u0_3 r))):=by
 simp only [aAN,xG,zd,zr]
 try simp only [evs,tys]
 exact Imp.some (by first | rfl | simp only [zes,kQ,evs,tys,evl])
theorem aJy {f:GFieldDef} {u0_8:GDef} {u0_6:Str} {u0_60:Str} {u0_600:Int} {u0_6000:Int} {u0_5:Str} {u0_3:GSchema} {r:Bool} (h:aAN f u0_8 u0_6 u0_60 u0_600 u0_6000 u0_5 u0_3=some r):aEY f u0_8 u0_6 u0_60 u0_600 u0_6000 u0_5 u0_3=some r:=zV aC (aJx f u0_8 u0_6 u0_60 u0_600 u0_6000 u0_5 u0_3) Tryz.func180 (aL3 _ _ f u0_8 u0_6 u0_60 u0_600 u0_6000 u0_5 u0_3) h
abbrev eQ:List Sh:=[sf,(.func 180 [] [(.ptr 1 5 0)]),n6,n6,n6]
def tS (O:Orc) (LP:LBs):bL:=fun s1 s1u=>cnd (chkL eQ s1) (cnd (chkU [[(8,[n6,.str,sf,sf,sf,sf]),(6,[.str,st',.str,n6,n6,st']),(5,[.str]),(3,[sf,.str,.str])]] s1u)
 (cnd (decide ((iv s1 4)<(iv s1 3)))
 (bnd (ix 6 (zs s1 0) (zn s1 4)) fun x7=>cnd (chk (.ref cQ) x7)
 (bnd (O 180 [(.agg [(zt (rf x7) 0),(zs (rf x7) 1),(zt (rf x7) 2),(zn (rf x7) 3),(zn (rf x7) 4),(zs (rf x7) 5)]),(.ptr 2 5 0)] [[],[(8,[(zn (bx s1u 0 0) 0),(zt (bx s1u 0 0) 1),(zs (bx s1u 0 0) 2),(zs (bx s1u 0 0) 3),(zs (bx s1u 0 0) 4),(zs (bx s1u 0 0) 5)]),(6,[(zt (bx s1u 0 1) 0),(zo (bx s1u 0 1) 1),(zt (bx s1u 0 1) 2),(zn (bx s1u 0 1) 3),(zn (bx s1u 0 1) 4),(zo (bx s1u 0 1) 5)]),(5,[(zt (bx s1u 0 2) 0)]),(3,[(zs (bx s1u 0 3) 0),(zt (bx s1u 0 3) 1),(zt (bx s1u 0 3) 2)])]]) fun x9=>cnd (chkU [[],[(8,[n6,.str,sf,sf,sf,sf]),(6,[.str,st',.str,n6,n6,st']),(5,[.str]),(3,[sf,.str,.str])]] x9.2) (cnd (chk .bool x9.1)
 (cnd (bP x9.1)
 (some (.ret,[(zs s1 0),(.func (.func 180) [] [(.ptr 1 5 0)]),(zn s1 4),(zn s1 3),(zn s1 4)],[[(8,[(zn (bx x9.2 1 0) 0),(zt (bx x9.2 1 0) 1),(zs (bx x9.2 1 0) 2),(zs (bx x9.2 1 0) 3),(zs (bx x9.2 1 0) 4),(zs (bx x9.2 1 0) 5)]),(6,[(zt (bx x9.2 1 1) 0),(zo (bx x9.2 1 1) 1),(zt (bx x9.2 1 1) 2),(zn (bx x9.2 1 1) 3),(zn (bx x9.2 1 1) 4),(zo (bx x9.2 1 1) 5)]),(5,[(zt (bx x9.2 1 2) 0)]),(3,[(zs (bx x9.2 1 3) 0),(zt (bx x9.2 1 3) 1),(zt (bx x9.2 1 3) 2)])]]))
 (some (.nrm,[(zs s1 0),(.func (.func 180) [] [(.ptr 1 5 0)]),(zn s1 2),(zn s1 3),(i6 (w6 ((iv s1 4)+1)))],[[(8,[(zn (bx x9.2 1 0) 0),(zt (bx x9.2 1 0) 1),(zs (bx x9.2 1 0) 2),(zs (bx x9.2 1 0) 3),(zs (bx x9.2 1 0) 4),(zs (bx x9.2 1 0) 5)]),(6,[(zt (bx x9.2 1 1) 0),(zo (bx x9.2 1 1) 1),(zt (bx x9.2 1 1) 2),(zn (bx x9.2 1 1) 3),(zn (bx x9.2 1 1) 4),(zo (bx x9.2 1 1) 5)]),(5,[(zt (bx x9.2 1 2) 0)]),(3,[(zs (bx x9.2 1 3) 0),(zt (bx x9.2 1 3) 1),(zt (bx x9.2 1 3) 2)])]]))) none) none) none)
 (some (.brk 0,(pu (rb eQ s1) 1 (.func (.func 180) [] [(.ptr 1 5 0)])),[[(8,[(zn (bx s1u 0 0) 0),(zt (bx s1u 0 0) 1),(zs (bx s1u 0 0) 2),(zs (bx s1u 0 0) 3),(zs (bx s1u 0 0) 4),(zs (bx s1u 0 0) 5)]),(6,[(zt (bx s1u 0 1) 0),(zo (bx s1u 0 1) 1),(zt (bx s1u 0 1) 2),(zn (bx s1u 0 1) 3),(zn (bx s1u 0 1) 4),(zo (bx s1u 0 1) 5)]),(5,[(zt (bx s1u 0 2) 0)]),(3,[(zs (bx s1u 0 3) 0),(zt (bx s1u 0 3) 1),(zt (bx s1u 0 3) 2)])]]))) none) none
def tT (O:Orc) (LP:LBs) (s:List GFieldDef) (u0_8:GDef) (u0_6:Str) (u0_60:Str) (u0_600:Int) (u0_6000:Int) (u0_5:Str) (u0_3:GSchema):Option (PV×UP) :=
 bnd (LP (tS O LP) [(zq aK s),(.func (.func 180) [] [(.ptr 1 5 0)]),(i6 0),(i6 (List.length (List.map aK s):Int)),(i6 0)] [[(8,[(i6 u0_8.kind),(.str u0_8.name),(zq PV.str u0_8.faces),(zq aK u0_8.fields),(zq PV.str u0_8.parts),(zq aQ u0_8.params)]),(6,[(.str u0_6),(.slice [] [] true),(.str u0_60),(i6 u0_600),(i6 u0_6000),(.slice [] [] true)]),(5,[(.str u0_5)]),(3,[(zq aI u0_3.defs),(.str u0_3.query),(.str u0_3.mutation)])]]) fun y14 =>
 exIs y14.1 (some 0) (cnd (chkL eQ y14.2.1) (cnd (chkU [[(8,[n6,.str,sf,sf,sf,sf]),(6,[.str,st',.str,n6,n6,st']),(5,[.str]),(3,[sf,.str,.str])]] y14.2.2)
 (some ((i6 (-1)),[[(8,[(zn (bx y14.2.2 0 0) 0),(zt (bx y14.2.2 0 0) 1),(zs (bx y14.2.2 0 0) 2),(zs (bx y14.2.2 0 0) 3),(zs (bx y14.2.2 0 0) 4),(zs (bx y14.2.2 0 0) 5)]),(6,[(zt (bx y14.2.2 0 1) 0),(zo (bx y14.2.2 0 1) 1),(zt (bx y14.2.2 0 1) 2),(zn (bx y14.2.2 0 1) 3),(zn (bx y14.2.2 0 1) 4),(zo (bx y14.2.2 0 1) 5)]),(5,[(zt (bx y14.2.2 0 2) 0)]),(3,[(zs (bx y14.2.2 0 3) 0),(zt (bx y14.2.2 0 3) 1),(zt (bx y14.2.2 0 3) 2)])]])) none) none)
 (exIs y14.1 none (cnd (chkL eQ y14.2.1) (cnd (chkU [[(8,[n6,.str,sf,sf,sf,sf]),(6,[.str,st',.str,n6,n6,st']),(5,[.str]),(3,[sf,.str,.str])]] y14.2.2)
 (some ((zn y14.2.1 2),[[(8,[(zn (bx y14.2.2 0 0) 0),(zt (bx y14.2.2 0 0) 1),(zs (bx y14.2.2 0 0) 2),(zs (bx y14.2.2 0 0) 3),(zs (bx y14.2.2 0 0) 4),(zs (bx y14.2.2 0 0) 5)]),(6,[(zt (bx y14.2.2 0 1) 0),(zo (bx y14.2.2 0 1) 1),(zt (bx y14.2.2 0 1) 2),(zn (bx y14.2.2 0 1) 3),(zn (bx y14.2.2 0 1) 4),(zo (bx y14.2.2 0 1) 5)]),(5,[(zt (bx y14.2.2 0 2) 0)]),(3,[(zs (bx y14.2.2 0 3) 0),(zt (bx y14.2.2 0 3) 1),(zt (bx y14.2.2 0 3) 2)])]])) none) none)
 (none))
noncomputable def gC (s:List GFieldDef) (u0_8:GDef) (u0_6:Str) (u0_60:Str) (u0_600:Int) (u0_6000:Int) (u0_5:Str) (u0_3:GSchema):Int→Option (Int⊕(Unit⊕Int))
 | t_6 =>
 cnd (decide (t_6<(List.length s:Int)))
  (bnd (nthI s t_6) fun y8 =>
  bnd (aEY y8 u0_8 u0_6 u0_60 u0_600 u0_6000 u0_5 u0_3) fun y10 =>
  cnd y10
  (some (.inr (.inr t_6)))
  (some (.inl (IntKind.wrap .i64 (t_6+1)))))
  (some (.inr (.inl ())))
abbrev aH5 (s:List GFieldDef) (u0_8:GDef) (u0_6:Str) (u0_60:Str) (u0_600:Int) (u0_6000:Int) (u0_5:Str) (u0_3:GSchema) (st:Int) (l:List PV) (u:UP):Prop:=l=[(zq aK s),(.func (.func 180) [] [(.ptr 1 5 0)]),(i6 0),(i6 (List.length s:Int)),(i6 st)]∧u=[[(8,[(i6 u0_8.kind),(.str u0_8.name),(zq PV.str u0_8.faces),(zq aK u0_8.fields),(zq PV.str u0_8.parts),(zq aQ u0_8.params)]),(6,[(.str u0_6),(.slice [] [] true),(.str u0_60),(i6 u0_600),(i6 u0_6000),(.slice [] [] true)]),(5,[(.str u0_5)]),(3,[(zq aI u0_3.defs),(.str u0_3.query),(.str u0_3.mutation)])]]
abbrev aH6 (s:List GFieldDef) (u0_8:GDef) (u0_6:Str) (u0_60:Str) (u0_600:Int) (u0_6000:Int) (u0_5:Str) (u0_3:GSchema) (p:Unit⊕Int) (r:EU):Prop:=elim p (fun (p:Unit)=>∃ (t_11:Int),r=(Ex.brk 0,[(zq aK s),(.func (.func 180) [] [(.ptr 1 5 0)]),(i6 0),(i6 (List.length s:Int)),(i6 t_11)],[[(8,[(i6 u0_8.kind),(.str u0_8.name),(zq PV.str u0_8.faces),(zq aK u0_8.fields),(zq PV.str u0_8.parts),(zq aQ u0_8.params)]),(6,[(.str u0_6),(.slice [] [] true),(.str u0_60),(i6 u0_600),(i6 u0_6000),(.slice [] [] true)]),(5,[(.str u0_5)]),(3,[(zq aI u0_3.defs),(.str u0_3.query),(.str u0_3.mutation)])]])) (fun q2=>(fun (p:Int)=>∃ (t_13:Int),r=(Ex.ret,[(zq aK s),(.func (.func 180) [] [(.ptr 1 5 0)]),(i6 p),(i6 (List.length s:Int)),(i6 t_13)],[[(8,[(i6 u0_8.kind),(.str u0_8.name),(zq PV.str u0_8.faces),(zq aK u0_8.fields),(zq PV.str u0_8.parts),(zq aQ u0_8.params)]),(6,[(.str u0_6),(.slice [] [] true),(.str u0_60),(i6 u0_600),(i6 u0_6000),(.slice [] [] true)]),(5,[(.str u0_5)]),(3,[(zq aI u0_3.defs),(.str u0_3.query),(.str u0_3.mutation)])]])) q2)
noncomputable def mZ (s:List GFieldDef) (u0_8:GDef) (u0_6:Str) (u0_60:Str) (u0_600:Int) (u0_6000:Int) (u0_5:Str) (u0_3:GSchema):Option Int :=
 bnd (bG (gC s u0_8 u0_6 u0_60 u0_600 u0_6000 u0_5 u0_3) 0) fun e14_2=>elim e14_2
 (fun p14 =>
 some (-1))
 (fun t_12 =>
 some t_12)
def aJz:Decs:={decs:=[(14,(.ref cQ)),(16,.bool)],ups:=[(16,[[],[(8,[n6,.str,sf,sf,sf,sf]),(6,[.str,st',.str,n6,n6,st']),(5,[.str]),(3,[sf,.str,.str])]])],loops:=[(2,[],⟨eQ,[[(8,[n6,.str,sf,sf,sf,sf]),(6,[.str,st',.str,n6,n6,st']),(5,[.str]),(3,[sf,.str,.str])]],[(some 0,eQ,[[(8,[n6,.str,sf,sf,sf,sf]),(6,[.str,st',.str,n6,n6,st']),(5,[.str]),(3,[sf,.str,.str])]]),(none,eQ,[[(8,[n6,.str,sf,sf,sf,sf]),(6,[.str,st',.str,n6,n6,st']),(5,[.str]),(3,[sf,.str,.str])]])]⟩)]}
theorem aJA (O:Orc) (LP:LBs) (s:List GFieldDef) (u0_8:GDef) (u0_6:Str) (u0_60:Str) (u0_600:Int) (u0_6000:Int) (u0_5:Str) (u0_3:GSchema):eW 179 aJz Tryz.f179 O LP [(zq aK s),(.func (.func 180) [] [(.ptr 1 5 0)])] [[(8,[(i6 u0_8.kind),(.str u0_8.name),(zq PV.str u0_8.faces),(zq aK u0_8.fields),(zq PV.str u0_8.parts),(zq aQ u0_8.params)]),(6,[(.str u0_6),(.slice [] [] true),(.str u0_60),(i6 u0_600),(i6 u0_6000),(.slice [] [] true)]),(5,[(.str u0_5)]),(3,[(zq aI u0_3.defs),(.str u0_3.query),(.str u0_3.mutation)])]]=tT O LP s u0_8 u0_6 u0_60 u0_600 u0_6000 u0_5 u0_3:=by kernel_rfl
theorem aFq (s:List GFieldDef) (u0_8:GDef) (u0_6:Str) (u0_60:Str) (u0_600:Int) (u0_6000:Int) (u0_5:Str) (u0_3:GSchema):Lok (aH5 s u0_8 u0_6 u0_60 u0_600 u0_6000 u0_5 u0_3) (gC s u0_8 u0_6 u0_60 u0_600 u0_6000 u0_5 u0_3) (tS O aE) (aH6 s u0_8 u0_6 u0_60 u0_600 u0_6000 u0_5 u0_3):=by
 rintro t_6 l u ⟨rfl,rfl⟩
 simp only [gC,tS,zd,zr]
 refine zG ?_
 try simp only [evs,tys]
 apply Imp.cnd
 ·refine zX aK fG fun y8 _ => ?_
  try simp only [evs,tys]
  refine Imp.gcall (f:=aA) (fu:=fun a=>[]::kQ y8 u0_8 u0_6 u0_60 u0_600 u0_6000 u0_5 u0_3 a) (fun a h=>by first | exact iJ rfl rfl (by first | rfl | (simp only [zes,tys];rfl)) (bM h) | (have h':=bM h;simp only [evs,tys,evl,kQ] at h';exact iJ rfl rfl (by first | rfl | (simp only [zes,tys];rfl)) h')) zK (fun a=>by first | rfl | (simp only [kQ,evs,tys];first | rfl | (cases w<;>rfl))) fun y10 hy10 => ?_
  try simp only [aA,kQ,evs,tys]
  apply Imp.cnd
  ·exact zT ⟨t_6,zE⟩
  ·exact zN
 ·exact zB ⟨t_6,zE⟩
theorem aH7 (s:List GFieldDef) (u0_8:GDef) (u0_6:Str) (u0_60:Str) (u0_600:Int) (u0_6000:Int) (u0_5:Str) (u0_3:GSchema):Imp (mZ s u0_8 u0_6 u0_60 u0_600 u0_6000 u0_5 u0_3) (tT O aE s u0_8 u0_6 u0_60 u0_600 u0_6000 u0_5 u0_3) (fun r v=>v=(dC r,(bH s u0_8 u0_6 u0_60 u0_600 u0_6000 u0_5 u0_3 r))):=by
 simp only [mZ,tT,zd,zr]
 try simp only [evs,tys]
 refine zL (aFq s u0_8 u0_6 u0_60 u0_600 u0_6000 u0_5 u0_3) ?_
 rintro (p | t_12) vy14 hy14
 ·try simp only [aO,aP]
  obtain ⟨t_11,rfl⟩:=hy14
  refine zH ?_
  try simp only [evs,tys]
  exact Imp.some (by first | rfl | simp only [zes,bH,evs,tys,evl])
 ·try simp only [aO,aP]
  obtain ⟨t_13,rfl⟩:=hy14
  refine Imp.exMiss rfl ?_
  refine zH ?_
  try simp only [evs,tys]
  exact Imp.some (by first | rfl | simp only [zes,bH,evs,tys,evl])
theorem aH8 {s:List GFieldDef} {u0_8:GDef} {u0_6:Str} {u0_60:Str} {u0_600:Int} {u0_6000:Int} {u0_5:Str} {u0_3:GSchema} {r:Int} (h:mZ s u0_8 u0_6 u0_60 u0_600 u0_6000 u0_5 u0_3=some r):kR s u0_8 u0_6 u0_60 u0_600 u0_6000 u0_5 u0_3=some r:=zV aBk (aH7 s u0_8 u0_6 u0_60 u0_600 u0_6000 u0_5 u0_3) Tryz.func179 (aJA _ _ s u0_8 u0_6 u0_60 u0_600 u0_6000 u0_5 u0_3) h
def aC7 (O:Orc) (LP:LBs) (s:GSchema) (typ:Str) (name:Str):Option (PV×UP) :=
 cnd (name==([95,95,116,121,112,101,110,97,109,101]:Str))
 (aT O 140 [(eS s),(.str typ)] fun x1=>cnd (chk .bool x1)
 (cnd (bP x1)
 (some ((.tuple [(.agg [(.str [95,95,116,121,112,101,110,97,109,101]),(.slice [] [] false),(.str [83,116,114,105,110,103]),(i6 0),(i6 1),(.slice [] [] false)]),(.bool true)]),[]))
 (aT O 178 [(eS s),(.str typ)] fun x3=>cnd (chk (.tup [oS,.bool]) x3)
 (cnd (!(bP (tv x3 1)))
 (some ((.tuple [(.agg [(.str []),(.slice [] [] false),(.str []),(i6 0),(i6 0),(.slice [] [] false)]),(.bool false)]),[]))
 (cnd ((iv (tg x3 0) 0) != 1)
 (cnd ((iv (tg x3 0) 0) != 2)
 (some ((.tuple [(.agg [(.str []),(.slice [] [] false),(.str []),(i6 0),(i6 0),(.slice [] [] false)]),(.bool false)]),[]))
 (bnd (O 179 [(zs (tg x3 0) 3),(.func (.func 180) [] [(.ptr 1 5 0)])] [[(8,[(zn (tg x3 0) 0),(zt (tg x3 0) 1),(zs (tg x3 0) 2),(zs (tg x3 0) 3),(zs (tg x3 0) 4),(zs (tg x3 0) 5)]),(6,[(.str []),(.slice [] [] true),(.str []),(i6 0),(i6 0),(.slice [] [] true)]),(5,[(.str name)]),(3,[(zq aI s.defs),(.str s.query),(.str s.mutation)])]]) fun x5=>cnd (chkU [[(8,[n6,.str,sf,sf,sf,sf]),(6,[.str,st',.str,n6,n6,st']),(5,[.str]),(3,[sf,.str,.str])]] x5.2) (cnd (chk n6 x5.1)
 (cnd (decide ((intV x5.1)<0))
 (some ((.tuple [(.agg [(.str []),(.slice [] [] false),(.str []),(i6 0),(i6 0),(.slice [] [] false)]),(.bool false)]),[]))
 (bnd (ix 6 (zs (bx x5.2 0 0) 3) (i6 (intV x5.1))) fun x7=>cnd (chk (.ref cQ) x7)
 (some ((.tuple [(.agg [(zt (rf x7) 0),(zs (rf x7) 1),(zt (rf x7) 2),(zn (rf x7) 3),(zn (rf x7) 4),(zs (rf x7) 5)]),(.bool true)]),[])) none)) none) none))
 (bnd (O 179 [(zs (tg x3 0) 3),(.func (.func 180) [] [(.ptr 1 5 0)])] [[(8,[(zn (tg x3 0) 0),(zt (tg x3 0) 1),(zs (tg x3 0) 2),(zs (tg x3 0) 3),(zs (tg x3 0) 4),(zs (tg x3 0) 5)]),(6,[(.str []),(.slice [] [] true),(.str []),(i6 0),(i6 0),(.slice [] [] true)]),(5,[(.str name)]),(3,[(zq aI s.defs),(.str s.query),(.str s.mutation)])]]) fun x9=>cnd (chkU [[(8,[n6,.str,sf,sf,sf,sf]),(6,[.str,st',.str,n6,n6,st']),(5,[.str]),(3,[sf,.str,.str])]] x9.2) (cnd (chk n6 x9.1)
 (cnd (decide ((intV x9.1)<0))
 (some ((.tuple [(.agg [(.str []),(.slice [] [] false),(.str []),(i6 0),(i6 0),(.slice [] [] false)]),(.bool false)]),[]))
 (bnd (ix 6 (zs (bx x9.2 0 0) 3) (i6 (intV x9.1))) fun x11=>cnd (chk (.ref cQ) x11)
 (some ((.tuple [(.agg [(zt (rf x11) 0),(zs (rf x11) 1),(zt (rf x11) 2),(zn (rf x11) 3),(zn (rf x11) 4),(zs (rf x11) 5)]),(.bool true)]),[])) none)) none) none))) none)) none)
 (aT O 178 [(eS s),(.str typ)] fun x13=>cnd (chk (.tup [oS,.bool]) x13)
 (cnd (!(bP (tv x13 1)))
 (some ((.tuple [(.agg [(.str []),(.slice [] [] false),(.str []),(i6 0),(i6 0),(.slice [] [] false)]),(.bool false)]),[]))
 (cnd ((iv (tg x13 0) 0) != 1)
 (cnd ((iv (tg x13 0) 0) != 2)
 (some ((.tuple [(.agg [(.str []),(.slice [] [] false),(.str []),(i6 0),(i6 0),(.slice [] [] false)]),(.bool false)]),[]))
 (bnd (O 179 [(zs (tg x13 0) 3),(.func (.func 180) [] [(.ptr 1 5 0)])] [[(8,[(zn (tg x13 0) 0),(zt (tg x13 0) 1),(zs (tg x13 0) 2),(zs (tg x13 0) 3),(zs (tg x13 0) 4),(zs (tg x13 0) 5)]),(6,[(.str []),(.slice [] [] true),(.str []),(i6 0),(i6 0),(.slice [] [] true)]),(5,[(.str name)]),(3,[(zq aI s.defs),(.str s.query),(.str s.mutation)])]]) fun x15=>cnd (chkU [[(8,[n6,.str,sf,sf,sf,sf]),(6,[.str,st',.str,n6,n6,st']),(5,[.str]),(3,[sf,.str,.str])]] x15.2) (cnd (chk n6 x15.1)
 (cnd (decide ((intV x15.1)<0))
 (some ((.tuple [(.agg [(.str []),(.slice [] [] false),(.str []),(i6 0),(i6 0),(.slice [] [] false)]),(.bool false)]),[]))
 (bnd (ix 6 (zs (bx x15.2 0 0) 3) (i6 (intV x15.1))) fun x17=>cnd (chk (.ref cQ) x17)
 (some ((.tuple [(.agg [(zt (rf x17) 0),(zs (rf x17) 1),(zt (rf x17) 2),(zn (rf x17) 3),(zn (rf x17) 4),(zs (rf x17) 5)]),(.bool true)]),[])) none)) none) none))
 (bnd (O 179 [(zs (tg x13 0) 3),(.func (.func 180) [] [(.ptr 1 5 0)])] [[(8,[(zn (tg x13 0) 0),(zt (tg x13 0) 1),(zs (tg x13 0) 2),(zs (tg x13 0) 3),(zs (tg x13 0) 4),(zs (tg x13 0) 5)]),(6,[(.str []),(.slice [] [] true),(.str []),(i6 0),(i6 0),(.slice [] [] true)]),(5,[(.str name)]),(3,[(zq aI s.defs),(.str s.query),(.str s.mutation)])]]) fun x19=>cnd (chkU [[(8,[n6,.str,sf,sf,sf,sf]),(6,[.str,st',.str,n6,n6,st']),(5,[.str]),(3,[sf,.str,.str])]] x19.2) (cnd (chk n6 x19.1)
 (cnd (decide ((intV x19.1)<0))
 (some ((.tuple [(.agg [(.str []),(.slice [] [] false),(.str []),(i6 0),(i6 0),(.slice [] [] false)]),(.bool false)]),[]))
 (bnd (ix 6 (zs (bx x19.2 0 0) 3) (i6 (intV x19.1))) fun x21=>cnd (chk (.ref cQ) x21)
 (some ((.tuple [(.agg [(zt (rf x21) 0),(zs (rf x21) 1),(zt (rf x21) 2),(zn (rf x21) 3),(zn (rf x21) 4),(zs (rf x21) 5)]),(.bool true)]),[])) none)) none) none))) none)
noncomputable def aBz (s:GSchema) (typ:Str) (name:Str):Option (GFieldDef×Bool) :=
 cnd (name==([95,95,116,121,112,101,110,97,109,101]:Str))
 (bnd (aAs s typ) fun y2 =>
 cnd y2
 (some ((GFieldDef.mk [95,95,116,121,112,101,110,97,109,101] ([]:List GParam) (GType.mk [83,116,114,105,110,103] 0 1) ([]:List GDir)),true))
 (bnd (aHL s typ) fun y4 =>
 cnd (!y4.2)
 (some ((GFieldDef.mk [] ([]:List GParam) (GType.mk [] 0 0) ([]:List GDir)),false))
 (cnd (y4.1.kind != 1)
 (cnd (y4.1.kind != 2)
 (some ((GFieldDef.mk [] ([]:List GParam) (GType.mk [] 0 0) ([]:List GDir)),false))
 (bnd (kR y4.1.fields y4.1 [] [] 0 0 name s) fun y6 =>
 cnd (decide (y6<0))
 (some ((GFieldDef.mk [] ([]:List GParam) (GType.mk [] 0 0) ([]:List GDir)),false))
 (bnd (nthI y4.1.fields y6) fun y8 =>
 some (y8,true))))
 (bnd (kR y4.1.fields y4.1 [] [] 0 0 name s) fun y10 =>
 cnd (decide (y10<0))
 (some ((GFieldDef.mk [] ([]:List GParam) (GType.mk [] 0 0) ([]:List GDir)),false))
 (bnd (nthI y4.1.fields y10) fun y12 =>
 some (y12,true))))))
 (bnd (aHL s typ) fun y14 =>
 cnd (!y14.2)
 (some ((GFieldDef.mk [] ([]:List GParam) (GType.mk [] 0 0) ([]:List GDir)),false))
 (cnd (y14.1.kind != 1)
 (cnd (y14.1.kind != 2)
 (some ((GFieldDef.mk [] ([]:List GParam) (GType.mk [] 0 0) ([]:List GDir)),false))
 (bnd (kR y14.1.fields y14.1 [] [] 0 0 name s) fun y16 =>
 cnd (decide (y16<0))
 (some ((GFieldDef.mk [] ([]:List GParam) (GType.mk [] 0 0) ([]:List GDir)),false))
 (bnd (nthI y14.1.fields y16) fun y18 =>
 some (y18,true))))
 (bnd (kR y14.1.fields y14.1 [] [] 0 0 name s) fun y20 =>
 cnd (decide (y20<0))
 (some ((GFieldDef.mk [] ([]:List GParam) (GType.mk [] 0 0) ([]:List GDir)),false))
 (bnd (nthI y14.1.fields y20) fun y22 =>
 some (y22,true)))))
def aRz:Decs:={decs:=[(16,.bool),(23,(.tup [oS,.bool])),(42,n6),(49,(.ref cQ))],ups:=[(42,[[(8,[n6,.str,sf,sf,sf,sf]),(6,[.str,st',.str,n6,n6,st']),(5,[.str]),(3,[sf,.str,.str])]])]}
theorem aRA (O:Orc) (LP:LBs) (s:GSchema) (typ:Str) (name:Str):eW 109 aRz Tryz.f109 O LP [(eS s),(.str typ),(.str name)] []=aC7 O LP s typ name:=by kernel_rfl
theorem aOG (s:GSchema) (typ:Str) (name:Str):Imp (aBz s typ name) (aC7 O aE s typ name) (Ri oY):=by
 simp only [aBz,aC7,zd,zr]
 try simp only [evs,tys]
 apply Imp.cnd
 ·refine zC rfl fun y2 _ => ?_
  try simp only [zes,evs,tys]
  apply Imp.cnd
  ·exact zR
  ·refine zC rfl fun y4 _ => ?_
   try simp only [zes,evs,tys]
   apply Imp.cnd
   ·exact zR
   ·apply Imp.cnd
    ·apply Imp.cnd
     ·exact zR
     ·refine Imp.gcall (f:=dC) (fu:=fun a=>bH y4.1.fields y4.1 [] [] 0 0 name s a) (fun a h=>by first | exact bM h | (have h':=bM h;simp only [evs,tys,evl,bH] at h';exact h')) zK (fun a=>by first | rfl | (simp only [bH,evs,tys];first | rfl | (cases w<;>rfl))) fun y6 hy6 => ?_
      try simp only [dC,bH,evs,tys]
      apply Imp.cnd
      ·exact zR
      ·refine zX aK fG fun y8 _ => ?_
       try simp only [evs,tys]
       exact zR
    ·refine Imp.gcall (f:=dC) (fu:=fun a=>bH y4.1.fields y4.1 [] [] 0 0 name s a) (fun a h=>by first | exact bM h | (have h':=bM h;simp only [evs,tys,evl,bH] at h';exact h')) zK (fun a=>by first | rfl | (simp only [bH,evs,tys];first | rfl | (cases w<;>rfl))) fun y10 hy10 => ?_
     try simp only [dC,bH,evs,tys]
     apply Imp.cnd
     ·exact zR
     ·refine zX aK fG fun y12 _ => ?_
      try simp only [evs,tys]
      exact zR
 ·refine zC rfl fun y14 _ => ?_
  try simp only [zes,evs,tys]
  apply Imp.cnd
  ·exact zR
  ·apply Imp.cnd
   ·apply Imp.cnd
    ·exact zR
    ·refine Imp.gcall (f:=dC) (fu:=fun a=>bH y14.1.fields y14.1 [] [] 0 0 name s a) (fun a h=>by first | exact bM h | (have h':=bM h;simp only [evs,tys,evl,bH] at h';exact h')) zK (fun a=>by first | rfl | (simp only [bH,evs,tys];first | rfl | (cases w<;>rfl))) fun y16 hy16 => ?_
     try simp only [dC,bH,evs,tys]
     apply Imp.cnd
     ·exact zR
     ·refine zX aK fG fun y18 _ => ?_
      try simp only [evs,tys]
      exact zR
   ·refine Imp.gcall (f:=dC) (fu:=fun a=>bH y14.1.fields y14.1 [] [] 0 0 name s a) (fun a h=>by first | exact bM h | (have h':=bM h;simp only [evs,tys,evl,bH] at h';exact h')) zK (fun a=>by first | rfl | (simp only [bH,evs,tys];first | rfl | (cases w<;>rfl))) fun y20 hy20 => ?_
    try simp only [dC,bH,evs,tys]
    apply Imp.cnd
    ·exact zR
    ·refine zX aK fG fun y22 _ => ?_
     try simp only [evs,tys]
     exact zR
theorem aOH {s:GSchema} {typ:Str} {name:Str} {r:GFieldDef×Bool} (h:aBz s typ name=some r):aLg s typ name=some r:=zV aKa (aOG s typ name) Tryz.func109 (aRA _ _ s typ name) h
abbrev eF:List Sh:=[.str,(.ptr 0 6 0),.bool,(.ptr 0 8 0),n6,n6,.str,sf,sf,sf,sf,.str,st',.str,n6,n6,st',sf,.str,.str]
def nY (O:Orc) (LP:LBs):bL:=fun s5 s5u=>cnd (chkL eF s5) (cnd (chkU [] s5u)
 (cnd (decide ((iv s5 4)<(List.length (ev s5 8):Int)))
 (bnd (ix 6 (zs s5 8) (zn s5 4)) fun x11=>cnd (chk (.ref cQ) x11)
 (cnd ((sv (rf x11) 0)==(sv s5 0))
 (bnd (ix 6 (zs s5 8) (zn s5 4)) fun x13=>cnd (chk (.ref cQ) x13)
 (some (.ret,(pu (pu (pu (pu (pu (pu (pu (rb eF s5) 2 (.bool true)) 11 (zt (rf x13) 0)) 12 (zs (rf x13) 1)) 13 (zt (rf x13) 2)) 14 (zn (rf x13) 3)) 15 (zn (rf x13) 4)) 16 (zs (rf x13) 5)),[])) none)
 (some (.nrm,(pu (rb eF s5) 4 (i6 (w6 ((iv s5 4)+1)))),[]))) none)
 (some (.brk 0,(rb eF s5),[]))) none) none
def aC8 (O:Orc) (LP:LBs) (s:GSchema) (typ:Str) (name:Str):Option (PV×UP) :=
 cnd (name==([95,95,116,121,112,101,110,97,109,101]:Str))
 (aT O 112 [(eS s),(.str typ)] fun x1=>cnd (chk .bool x1)
 (cnd (bP x1)
 (some ((.tuple [(.agg [(.str name),(.slice [] [] false),(.str [83,116,114,105,110,103]),(i6 0),(i6 1),(.slice [] [] false)]),(.bool true)]),[]))
 (aT O 164 [(eS s),(.str typ)] fun x3=>cnd (chk (.tup [oS,.bool]) x3)
 (cnd ((iv (tg x3 0) 0) != 1)
 (cnd ((iv (tg x3 0) 0) != 2)
 (some ((.tuple [(.agg [(.str []),(.slice [] [] false),(.str []),(i6 0),(i6 0),(.slice [] [] false)]),(.bool false)]),[]))
 (bnd (LP (nY O LP) [(.str name),(.ptr 0 6 0),(.bool false),(.ptr 0 8 0),(i6 0),(zn (tg x3 0) 0),(zt (tg x3 0) 1),(zs (tg x3 0) 2),(zs (tg x3 0) 3),(zs (tg x3 0) 4),(zs (tg x3 0) 5),(.str []),(.slice [] [] true),(.str []),(i6 0),(i6 0),(.slice [] [] true),(zq aI s.defs),(.str s.query),(.str s.mutation)] []) fun y23 =>
 exIs y23.1 (some 0) (cnd (chkL eF y23.2.1) (cnd (chkU [] y23.2.2)
 (some ((.tuple [(.agg [(.str []),(.slice [] [] false),(.str []),(i6 0),(i6 0),(.slice [] [] false)]),(.bool false)]),[])) none) none)
 (exIs y23.1 none (cnd (chkL [.str,(.ptr 0 6 0),.bool,(.ptr 0 8 0),n6,n6,.str,sf,sf,sf,sf,.str,sf,.str,n6,n6,sf,sf,.str,.str] y23.2.1) (cnd (chkU [] y23.2.2)
 (some ((.tuple [(.agg [(zt y23.2.1 11),(zs y23.2.1 12),(zt y23.2.1 13),(zn y23.2.1 14),(zn y23.2.1 15),(zs y23.2.1 16)]),(zb y23.2.1 2)]),[])) none) none)
 (none))))
 (bnd (LP (nY O LP) [(.str name),(.ptr 0 6 0),(.bool false),(.ptr 0 8 0),(i6 0),(zn (tg x3 0) 0),(zt (tg x3 0) 1),(zs (tg x3 0) 2),(zs (tg x3 0) 3),(zs (tg x3 0) 4),(zs (tg x3 0) 5),(.str []),(.slice [] [] true),(.str []),(i6 0),(i6 0),(.slice [] [] true),(zq aI s.defs),(.str s.query),(.str s.mutation)] []) fun y42 =>
 exIs y42.1 (some 0) (cnd (chkL eF y42.2.1) (cnd (chkU [] y42.2.2)
 (some ((.tuple [(.agg [(.str []),(.slice [] [] false),(.str []),(i6 0),(i6 0),(.slice [] [] false)]),(.bool false)]),[])) none) none)
 (exIs y42.1 none (cnd (chkL [.str,(.ptr 0 6 0),.bool,(.ptr 0 8 0),n6,n6,.str,sf,sf,sf,sf,.str,sf,.str,n6,n6,sf,sf,.str,.str] y42.2.1) (cnd (chkU [] y42.2.2)
 (some ((.tuple [(.agg [(zt y42.2.1 11),(zs y42.2.1 12),(zt y42.2.1 13),(zn y42.2.1 14),(zn y42.2.1 15),(zs y42.2.1 16)]),(zb y42.2.1 2)]),[])) none) none)
 (none)))) none)) none)
 (aT O 164 [(eS s),(.str typ)] fun x43=>cnd (chk (.tup [oS,.bool]) x43)
 (cnd ((iv (tg x43 0) 0) != 1)
 (cnd ((iv (tg x43 0) 0) != 2)
 (some ((.tuple [(.agg [(.str []),(.slice [] [] false),(.str []),(i6 0),(i6 0),(.slice [] [] false)]),(.bool false)]),[]))
 (bnd (LP (nY O LP) [(.str name),(.ptr 0 6 0),(.bool false),(.ptr 0 8 0),(i6 0),(zn (tg x43 0) 0),(zt (tg x43 0) 1),(zs (tg x43 0) 2),(zs (tg x43 0) 3),(zs (tg x43 0) 4),(zs (tg x43 0) 5),(.str []),(.slice [] [] true),(.str []),(i6 0),(i6 0),(.slice [] [] true),(zq aI s.defs),(.str s.query),(.str s.mutation)] []) fun y63 =>
 exIs y63.1 (some 0) (cnd (chkL eF y63.2.1) (cnd (chkU [] y63.2.2)
 (some ((.tuple [(.agg [(.str []),(.slice [] [] false),(.str []),(i6 0),(i6 0),(.slice [] [] false)]),(.bool false)]),[])) none) none)
 (exIs y63.1 none (cnd (chkL [.str,(.ptr 0 6 0),.bool,(.ptr 0 8 0),n6,n6,.str,sf,sf,sf,sf,.str,sf,.str,n6,n6,sf,sf,.str,.str] y63.2.1) (cnd (chkU [] y63.2.2)
 (some ((.tuple [(.agg [(zt y63.2.1 11),(zs y63.2.1 12),(zt y63.2.1 13),(zn y63.2.1 14),(zn y63.2.1 15),(zs y63.2.1 16)]),(zb y63.2.1 2)]),[])) none) none)
 (none))))
 (bnd (LP (nY O LP) [(.str name),(.ptr 0 6 0),(.bool false),(.ptr 0 8 0),(i6 0),(zn (tg x43 0) 0),(zt (tg x43 0) 1),(zs (tg x43 0) 2),(zs (tg x43 0) 3),(zs (tg x43 0) 4),(zs (tg x43 0) 5),(.str []),(.slice [] [] true),(.str []),(i6 0),(i6 0),(.slice [] [] true),(zq aI s.defs),(.str s.query),(.str s.mutation)] []) fun y82 =>
 exIs y82.1 (some 0) (cnd (chkL eF y82.2.1) (cnd (chkU [] y82.2.2)
 (some ((.tuple [(.agg [(.str []),(.slice [] [] false),(.str []),(i6 0),(i6 0),(.slice [] [] false)]),(.bool false)]),[])) none) none)
 (exIs y82.1 none (cnd (chkL [.str,(.ptr 0 6 0),.bool,(.ptr 0 8 0),n6,n6,.str,sf,sf,sf,sf,.str,sf,.str,n6,n6,sf,sf,.str,.str] y82.2.1) (cnd (chkU [] y82.2.2)
 (some ((.tuple [(.agg [(zt y82.2.1 11),(zs y82.2.1 12),(zt y82.2.1 13),(zn y82.2.1 14),(zn y82.2.1 15),(zs y82.2.1 16)]),(zb y82.2.1 2)]),[])) none) none)
 (none)))) none)
noncomputable def eG (name:Str) (y4:GDef×Bool):Int→Option (Int⊕(Unit⊕(Str×(List GParam)×Str×Int×Int×(List GDir))))
 | i_10 =>
 cnd (decide (i_10<(List.length y4.1.fields:Int)))
  (bnd (nthI y4.1.fields i_10) fun y12 =>
  cnd (y12.name==name)
  (bnd (nthI y4.1.fields i_10) fun y14 =>
  some (.inr (.inr (y14.name,y14.params,y14.t.name,y14.t.lists,y14.t.musts,y14.dirs))))
  (some (.inl (IntKind.wrap .i64 (i_10+1)))))
  (some (.inr (.inl ())))
abbrev aAO (s:GSchema) (name:Str) (y4:GDef×Bool) (a0 a1 a2 a3 a4 a5 a6 a7:PV):List PV:=[(.str name),(.ptr 0 6 0),a0,(.ptr 0 8 0),a1,(i6 y4.1.kind),(.str y4.1.name),(zq PV.str y4.1.faces),(zq aK y4.1.fields),(zq PV.str y4.1.parts),(zq aQ y4.1.params),a2,a3,a4,a5,a6,a7,(zq aI s.defs),(.str s.query),(.str s.mutation)]
abbrev aFY (s:GSchema) (name:Str) (y4:GDef×Bool) (st:Int) (l:List PV) (u:UP):Prop:=l=(aAO s name y4 (.bool false) (i6 st) (.str []) (.slice [] [] true) (.str []) (i6 0) (i6 0) (.slice [] [] true))∧u=[]
abbrev aOI (s:GSchema) (name:Str) (y4:GDef×Bool) (p:Unit⊕(Str×(List GParam)×Str×Int×Int×(List GDir))) (r:EU):Prop:=elim p (fun (p:Unit)=>∃ (i_15:Int),r=(Ex.brk 0,(aAO s name y4 (.bool false) (i6 i_15) (.str []) (.slice [] [] true) (.str []) (i6 0) (i6 0) (.slice [] [] true)),[])) (fun (p:Str×(List GParam)×Str×Int×Int×(List GDir))=>∃ (i_16:Int),r=(Ex.ret,(aAO s name y4 (.bool true) (i6 i_16) (.str p.1) (zq aQ p.2.1) (.str p.2.2.1) (i6 p.2.2.2.1) (i6 p.2.2.2.2.1) (zq aH p.2.2.2.2.2)),[]))
noncomputable def aBA (s:GSchema) (typ:Str) (name:Str):Option (GFieldDef×Bool) :=
 cnd (name==([95,95,116,121,112,101,110,97,109,101]:Str))
 (bnd (aAr s typ) fun y2 =>
 cnd y2
 (some ((GFieldDef.mk name ([]:List GParam) (GType.mk [83,116,114,105,110,103] 0 1) ([]:List GDir)),true))
 (bnd (vZ s typ) fun y4 =>
 cnd (y4.1.kind != 1)
 (cnd (y4.1.kind != 2)
 (some ((GFieldDef.mk [] ([]:List GParam) (GType.mk [] 0 0) ([]:List GDir)),false))
 (bnd (bG (eG name y4) 0) fun e23_2=>elim e23_2
 (fun p23 =>
 some ((GFieldDef.mk [] ([]:List GParam) (GType.mk [] 0 0) ([]:List GDir)),false))
 (fun p23 =>
 some ((GFieldDef.mk p23.1 p23.2.1 (GType.mk p23.2.2.1 p23.2.2.2.1 p23.2.2.2.2.1) p23.2.2.2.2.2),true))))
 (bnd (bG (eG name y4) 0) fun e42_2=>elim e42_2
 (fun p42 =>
 some ((GFieldDef.mk [] ([]:List GParam) (GType.mk [] 0 0) ([]:List GDir)),false))
 (fun p42 =>
 some ((GFieldDef.mk p42.1 p42.2.1 (GType.mk p42.2.2.1 p42.2.2.2.1 p42.2.2.2.2.1) p42.2.2.2.2.2),true)))))
 (bnd (vZ s typ) fun y44 =>
 cnd (y44.1.kind != 1)
 (cnd (y44.1.kind != 2)
 (some ((GFieldDef.mk [] ([]:List GParam) (GType.mk [] 0 0) ([]:List GDir)),false))
 (bnd (bG (eG name y44) 0) fun e63_2=>elim e63_2
 (fun p63 =>
 some ((GFieldDef.mk [] ([]:List GParam) (GType.mk [] 0 0) ([]:List GDir)),false))
 (fun p63 =>
 some ((GFieldDef.mk p63.1 p63.2.1 (GType.mk p63.2.2.1 p63.2.2.2.1 p63.2.2.2.2.1) p63.2.2.2.2.2),true))))
 (bnd (bG (eG name y44) 0) fun e82_2=>elim e82_2
 (fun p82 =>
 some ((GFieldDef.mk [] ([]:List GParam) (GType.mk [] 0 0) ([]:List GDir)),false))
 (fun p82 =>
 some ((GFieldDef.mk p82.1 p82.2.1 (GType.mk p82.2.2.1 p82.2.2.2.1 p82.2.2.2.2.1) p82.2.2.2.2.2),true))))
def aRB:Decs:={decs:=[(16,.bool),(24,(.tup [oS,.bool])),(46,(.ref cQ)),(54,(.ref cQ))],loops:=[(7,[(8,6),(6,6),(3,3)],⟨eF,[],[(some 0,eF,[]),(none,[.str,(.ptr 0 6 0),.bool,(.ptr 0 8 0),n6,n6,.str,sf,sf,sf,sf,.str,sf,.str,n6,n6,sf,sf,.str,.str],[])]⟩)]}
theorem aRC (O:Orc) (LP:LBs) (s:GSchema) (typ:Str) (name:Str):eW 117 aRB Tryz.f117 O LP [(eS s),(.str typ),(.str name)] []=aC8 O LP s typ name:=by kernel_rfl
theorem oK (s:GSchema) (name:Str) (y4:GDef×Bool):∀ st l u,aFY s name y4 st l u→Imp (eG name y4 st) (nY O aE l u) (mH (aFY s name y4) (aOI s name y4)):=by
 rintro i_10 l u ⟨rfl,rfl⟩
 simp only [eG,nY,zd,zr]
 refine zG ?_
 try simp only [evs,tys]
 apply Imp.cnd
 ·refine zX aK fG fun y12 _ => ?_
  try simp only [evs,tys]
  apply Imp.cnd
  ·refine zX aK fG fun y14 _ => ?_
   try simp only [evs,tys]
   exact zT ⟨i_10,zE⟩
  ·exact zN
 ·exact zB ⟨i_10,zE⟩
theorem aOJ (s:GSchema) (typ:Str) (name:Str):Imp (aBA s typ name) (aC8 O aE s typ name) (Ri oY):=by
 simp only [aBA,aC8,zd,zr]
 try simp only [evs,tys]
 apply Imp.cnd
 ·refine zC rfl fun y2 _ => ?_
  try simp only [zes,evs,tys]
  apply Imp.cnd
  ·exact zR
  ·refine zC rfl fun y4 _ => ?_
   try simp only [zes,evs,tys]
   apply Imp.cnd
   ·apply Imp.cnd
    ·exact zR
    ·refine zL (oK s name y4) ?_
     rintro (p | ⟨b_17,b_18,b_19,b_20,b_21,b_22⟩) vy23 hy23
     ·try simp only [aO,aP]
      obtain ⟨i_15,rfl⟩:=hy23
      refine zH ?_
      try simp only [evs,tys]
      exact zR
     ·try simp only [aO,aP]
      obtain ⟨i_16,rfl⟩:=hy23
      refine Imp.exMiss rfl ?_
      refine zH ?_
      try simp only [evs,tys]
      exact zR
   ·refine zL (oK s name y4) ?_
    rintro (p | ⟨b_36,b_37,b_38,b_39,b_40,b_41⟩) vy42 hy42
    ·try simp only [aO,aP]
     obtain ⟨i_34,rfl⟩:=hy42
     refine zH ?_
     try simp only [evs,tys]
     exact zR
    ·try simp only [aO,aP]
     obtain ⟨i_35,rfl⟩:=hy42
     refine Imp.exMiss rfl ?_
     refine zH ?_
     try simp only [evs,tys]
     exact zR
 ·refine zC rfl fun y44 _ => ?_
  try simp only [zes,evs,tys]
  apply Imp.cnd
  ·apply Imp.cnd
   ·exact zR
   ·refine zL (oK s name y44) ?_
    rintro (p | ⟨b_57,b_58,b_59,b_60,b_61,b_62⟩) vy63 hy63
    ·try simp only [aO,aP]
     obtain ⟨i_55,rfl⟩:=hy63
     refine zH ?_
     try simp only [evs,tys]
     exact zR
    ·try simp only [aO,aP]
     obtain ⟨i_56,rfl⟩:=hy63
     refine Imp.exMiss rfl ?_
     refine zH ?_
     try simp only [evs,tys]
     exact zR
  ·refine zL (oK s name y44) ?_
   rintro (p | ⟨b_76,b_77,b_78,b_79,b_80,b_81⟩) vy82 hy82
   ·try simp only [aO,aP]
    obtain ⟨i_74,rfl⟩:=hy82
    refine zH ?_
    try simp only [evs,tys]
    exact zR
   ·try simp only [aO,aP]
    obtain ⟨i_75,rfl⟩:=hy82
    refine Imp.exMiss rfl ?_
    refine zH ?_
    try simp only [evs,tys]
    exact zR
theorem aOK {s:GSchema} {typ:Str} {name:Str} {r:GFieldDef×Bool} (h:aBA s typ name=some r):aLh s typ name=some r:=zV aKa (aOJ s typ name) Tryz.func117 (aRC _ _ s typ name) h
def aC9 (O:Orc) (LP:LBs) (c:Int):Option (PV×UP) :=
 cnd (decide (c≥97))
 (cnd (decide (c≤122))
 (some ((.bool true),[]))
 (cnd (decide (c≥65))
 (cnd (decide (c≤90))
 (some ((.bool true),[]))
 (some ((.bool (c==95)),[])))
 (some ((.bool (c==95)),[]))))
 (cnd (decide (c≥65))
 (cnd (decide (c≤90))
 (some ((.bool true),[]))
 (some ((.bool (c==95)),[])))
 (some ((.bool (c==95)),[])))
noncomputable def aBB (c:Int):Option Bool :=
 cnd (decide (c≥97))
 (cnd (decide (c≤122))
 (some true)
 (cnd (decide (c≥65))
 (cnd (decide (c≤90))
 (some true)
 (some (c==95)))
 (some (c==95))))
 (cnd (decide (c≥65))
 (cnd (decide (c≤90))
 (some true)
 (some (c==95)))
 (some (c==95)))
def aRD:Decs:={}
theorem aRE (O:Orc) (LP:LBs) (c:Int):eW 169 aRD Tryz.f169 O LP [(.int .u8 c)] []=aC9 O LP c:=by kernel_rfl
theorem aOL (c:Int):Imp (aBB c) (aC9 O aE c) (Ri aA):=by
 simp only [aBB,aC9,zd,zr]
 try simp only [evs,tys]
 apply Imp.cnd
 ·apply Imp.cnd
  ·exact zR
  ·apply Imp.cnd
   ·apply Imp.cnd
    ·exact zR
    ·exact zR
   ·exact zR
 ·apply Imp.cnd
  ·apply Imp.cnd
   ·exact zR
   ·exact zR
  ·exact zR
theorem aOM {c:Int} {r:Bool} (h:aBB c=some r):aGK c=some r:=zV aC (aOL c) Tryz.func169 (aRE _ _ c) h
def rK (O:Orc) (LP:LBs) (s:GSchema) (name:Str):Option (PV×UP) :=
 aT O 159 [(eS s),(.str name),(i6 1),(i6 2),(i6 3)] fun x1=>cnd (chk .bool x1)
 (some ((.bool (bP x1)),[])) none
noncomputable def oL (s:GSchema) (name:Str):Option Bool :=
 bnd (aYF s name 1 2 3) fun y2 =>
 some y2
def aH9:Decs:={decs:=[(7,.bool)]}
theorem aIa (O:Orc) (LP:LBs) (s:GSchema) (name:Str):eW 112 aH9 Tryz.f112 O LP [(eS s),(.str name)] []=rK O LP s name:=by kernel_rfl
theorem aGr (s:GSchema) (name:Str):Imp (oL s name) (rK O aE s name) (Ri aA):=by
 simp only [oL,rK,zd,zr]
 try simp only [evs,tys]
 refine zC rfl fun y2 _ => ?_
 try simp only [zes,evs,tys]
 exact zR
theorem aGs {s:GSchema} {name:Str} {r:Bool} (h:oL s name=some r):aAr s name=some r:=zV aC (aGr s name) Tryz.func112 (aIa _ _ s name) h
def rL (O:Orc) (LP:LBs) (s:GSchema) (name:Str):Option (PV×UP) :=
 aT O 201 [(eS s),(.str name),(.slice [(i6 1),(i6 2),(i6 3)] [] false)] fun x1=>cnd (chk .bool x1)
 (some ((.bool (bP x1)),[])) none
noncomputable def oM (s:GSchema) (name:Str):Option Bool :=
 bnd (aQw s name [1,2,3]) fun y2 =>
 some y2
def aIb:Decs:={decs:=[(8,.bool)]}
theorem aIc (O:Orc) (LP:LBs) (s:GSchema) (name:Str):eW 140 aIb Tryz.f140 O LP [(eS s),(.str name)] []=rL O LP s name:=by kernel_rfl
theorem aGt (s:GSchema) (name:Str):Imp (oM s name) (rL O aE s name) (Ri aA):=by
 simp only [oM,rL,zd,zr]
 try simp only [evs,tys]
 refine zC rfl fun y2 _ => ?_
 try simp only [zes,evs,tys]
 exact zR
theorem aGu {s:GSchema} {name:Str} {r:Bool} (h:oM s name=some r):aAs s name=some r:=zV aC (aGt s name) Tryz.func140 (aIc _ _ s name) h
abbrev kZ:List Sh:=[.str,(.ptr 0 4 0),.bool,sf,n6,n6,n6,.str,st',st',st',st',sf,.str,.str]
def aFr (O:Orc) (LP:LBs):bL:=fun s3 s3u=>cnd (chkL kZ s3) (cnd (chkU [] s3u)
 (cnd (decide ((iv s3 5)<(iv s3 4)))
 (bnd (ix 6 (zs s3 3) (zn s3 5)) fun x7=>cnd (chk (.ref oS) x7)
 (cnd ((sv (rf x7) 1)==(sv s3 0))
 (some (.ret,(pu (pu (pu (pu (pu (pu (pu (rb kZ s3) 2 (.bool true)) 6 (zn (rf x7) 0)) 7 (zt (rf x7) 1)) 8 (zs (rf x7) 2)) 9 (zs (rf x7) 3)) 10 (zs (rf x7) 4)) 11 (zs (rf x7) 5)),[]))
 (some (.nrm,(pu (rb kZ s3) 5 (i6 (w6 ((iv s3 5)+1)))),[]))) none)
 (some (.brk 0,(rb kZ s3),[]))) none) none
def aFs (O:Orc) (LP:LBs) (s:GSchema) (name:Str):Option (PV×UP) :=
 aT O 216 [(.str name)] fun x1=>cnd (chk .bool x1)
 (cnd (bP x1)
 (some ((.tuple [(.agg [(i6 0),(.str name),(.slice [] [] false),(.slice [] [] false),(.slice [] [] false),(.slice [] [] false)]),(.bool true)]),[]))
 (bnd (LP (aFr O LP) [(.str name),(.ptr 0 4 0),(.bool false),(zq aI s.defs),(i6 (List.length (List.map aI s.defs):Int)),(i6 0),(i6 0),(.str []),(.slice [] [] true),(.slice [] [] true),(.slice [] [] true),(.slice [] [] true),(zq aI s.defs),(.str s.query),(.str s.mutation)] []) fun y17 =>
 exIs y17.1 (some 0) (cnd (chkL kZ y17.2.1) (cnd (chkU [] y17.2.2)
 (some ((.tuple [(.agg [(i6 0),(.str []),(.slice [] [] false),(.slice [] [] false),(.slice [] [] false),(.slice [] [] false)]),(.bool false)]),[])) none) none)
 (exIs y17.1 none (cnd (chkL [.str,(.ptr 0 4 0),.bool,sf,n6,n6,n6,.str,sf,sf,sf,sf,sf,.str,.str] y17.2.1) (cnd (chkU [] y17.2.2)
 (some ((.tuple [(.agg [(zn y17.2.1 6),(zt y17.2.1 7),(zs y17.2.1 8),(zs y17.2.1 9),(zs y17.2.1 10),(zs y17.2.1 11)]),(zb y17.2.1 2)]),[])) none) none)
 (none)))) none
noncomputable def nZ (s:GSchema) (name:Str):Int→Option (Int⊕(Unit⊕(Int×Str×(List Str)×(List GFieldDef)×(List Str)×(List GParam))))
 | t_6 =>
 cnd (decide (t_6<(List.length s.defs:Int)))
  (bnd (nthI s.defs t_6) fun y8 =>
  cnd (y8.name==name)
  (some (.inr (.inr (y8.kind,y8.name,y8.faces,y8.fields,y8.parts,y8.params))))
  (some (.inl (IntKind.wrap .i64 (t_6+1)))))
  (some (.inr (.inl ())))
abbrev aDa (s:GSchema) (name:Str) (a0 a1 a2 a3 a4 a5 a6 a7:PV):List PV:=[(.str name),(.ptr 0 4 0),a0,(zq aI s.defs),(i6 (List.length s.defs:Int)),a1,a2,a3,a4,a5,a6,a7,(zq aI s.defs),(.str s.query),(.str s.mutation)]
abbrev aRF (s:GSchema) (name:Str) (st:Int) (l:List PV) (u:UP):Prop:=l=(aDa s name (.bool false) (i6 st) (i6 0) (.str []) (.slice [] [] true) (.slice [] [] true) (.slice [] [] true) (.slice [] [] true))∧u=[]
abbrev aRG (s:GSchema) (name:Str) (p:Unit⊕(Int×Str×(List Str)×(List GFieldDef)×(List Str)×(List GParam))) (r:EU):Prop:=elim p (fun (p:Unit)=>∃ (t_9:Int),r=(Ex.brk 0,(aDa s name (.bool false) (i6 t_9) (i6 0) (.str []) (.slice [] [] true) (.slice [] [] true) (.slice [] [] true) (.slice [] [] true)),[])) (fun (p:Int×Str×(List Str)×(List GFieldDef)×(List Str)×(List GParam))=>∃ (t_10:Int),r=(Ex.ret,(aDa s name (.bool true) (i6 t_10) (i6 p.1) (.str p.2.1) (zq PV.str p.2.2.1) (zq aK p.2.2.2.1) (zq PV.str p.2.2.2.2.1) (zq aQ p.2.2.2.2.2)),[]))
noncomputable def aEb (s:GSchema) (name:Str):Option (GDef×Bool) :=
 bnd (aHM name) fun y2 =>
 cnd y2
 (some ((GDef.mk 0 name ([]:List Str) ([]:List GFieldDef) ([]:List Str) ([]:List GParam)),true))
 (bnd (bG (nZ s name) 0) fun e17_2=>elim e17_2
 (fun p17 =>
 some ((GDef.mk 0 [] ([]:List Str) ([]:List GFieldDef) ([]:List Str) ([]:List GParam)),false))
 (fun p17 =>
 some ((GDef.mk p17.1 p17.2.1 p17.2.2.1 p17.2.2.2.1 p17.2.2.2.2.1 p17.2.2.2.2.2),true)))
def aU3:Decs:={decs:=[(9,.bool),(17,(.ref oS))],loops:=[(4,[(4,6),(2,3)],⟨kZ,[],[(some 0,kZ,[]),(none,[.str,(.ptr 0 4 0),.bool,sf,n6,n6,n6,.str,sf,sf,sf,sf,sf,.str,.str],[])]⟩)]}
theorem aU4 (O:Orc) (LP:LBs) (s:GSchema) (name:Str):eW 178 aU3 Tryz.f178 O LP [(eS s),(.str name)] []=aFs O LP s name:=by kernel_rfl
theorem aL4 (s:GSchema) (name:Str):Lok (aRF s name) (nZ s name) (aFr O aE) (aRG s name):=by
 rintro t_6 l u ⟨rfl,rfl⟩
 simp only [nZ,aFr,zd,zr]
 refine zG ?_
 try simp only [evs,tys]
 apply Imp.cnd
 ·refine zX aI aBh fun y8 _ => ?_
  try simp only [evs,tys]
  apply Imp.cnd
  ·exact zT ⟨t_6,zE⟩
  ·exact zN
 ·exact zB ⟨t_6,zE⟩
theorem aRH (s:GSchema) (name:Str):Imp (aEb s name) (aFs O aE s name) (Ri sI):=by
 simp only [aEb,aFs,zd,zr]
 try simp only [evs,tys]
 refine zC rfl fun y2 _ => ?_
 try simp only [zes,evs,tys]
 apply Imp.cnd
 ·exact zR
 ·refine zL (aL4 s name) ?_
  rintro (p | ⟨b_11,b_12,b_13,b_14,b_15,b_16⟩) vy17 hy17
  ·try simp only [aO,aP]
   obtain ⟨t_9,rfl⟩:=hy17
   refine zH ?_
   try simp only [evs,tys]
   exact zR
  ·try simp only [aO,aP]
   obtain ⟨t_10,rfl⟩:=hy17
   refine Imp.exMiss rfl ?_
   refine zH ?_
   try simp only [evs,tys]
   exact zR
theorem aRI {s:GSchema} {name:Str} {r:GDef×Bool} (h:aEb s name=some r):aHL s name=some r:=zV aNw (aRH s name) Tryz.func178 (aU4 _ _ s name) h
def aFt (O:Orc) (LP:LBs) (s:GSchema) (name:Str) (kinds:List Int):Option (PV×UP) :=
 aT O 178 [(eS s),(.str name)] fun x1=>cnd (chk (.tup [oS,.bool]) x1)
 (cnd (bP (tv x1 1))
 (aT O 228 [(.slice (List.map (PV.int .i64) kinds) [] false),(zn (tg x1 0) 0)] fun x3=>cnd (chk .bool x3)
 (some ((.bool (bP x3)),[])) none)
 (some ((.bool false),[]))) none
noncomputable def aEc (s:GSchema) (name:Str) (kinds:List Int):Option Bool :=
 bnd (aHL s name) fun y2 =>
 cnd y2.2
 (bnd (gT kinds y2.1.kind) fun y4 =>
 some y4)
 (some false)
def aU5:Decs:={decs:=[(12,(.tup [oS,.bool])),(20,.bool)]}
theorem aU6 (O:Orc) (LP:LBs) (s:GSchema) (name:Str) (kinds:List Int):eW 201 aU5 Tryz.f201 O LP [(eS s),(.str name),(.slice (List.map (PV.int .i64) kinds) [] false)] []=aFt O LP s name kinds:=by kernel_rfl
theorem aRJ (s:GSchema) (name:Str) (kinds:List Int):Imp (aEc s name kinds) (aFt O aE s name kinds) (Ri aA):=by
 simp only [aEc,aFt,zd,zr]
 try simp only [evs,tys]
 refine zC rfl fun y2 _ => ?_
 try simp only [zes,evs,tys]
 apply Imp.cnd
 ·refine zC rfl fun y4 _ => ?_
  try simp only [zes,evs,tys]
  exact zR
 ·exact zR
theorem aRK {s:GSchema} {name:Str} {kinds:List Int} {r:Bool} (h:aEc s name kinds=some r):aQw s name kinds=some r:=zV aC (aRJ s name kinds) Tryz.func201 (aU6 _ _ s name kinds) h
def aAP (O:Orc) (LP:LBs) (name:Str):Option (PV×UP) :=
 cnd (name==([73,110,116]:Str))
 (some ((.bool true),[]))
 (cnd (name==([83,116,114,105,110,103]:Str))
 (some ((.bool true),[]))
 (cnd (name==([66,111,111,108,101,97,110]:Str))
 (some ((.bool true),[]))
 (some ((.bool (name==([73,68]:Str))),[]))))
noncomputable def xH (name:Str):Option Bool :=
 cnd (name==([73,110,116]:Str))
 (some true)
 (cnd (name==([83,116,114,105,110,103]:Str))
 (some true)
 (cnd (name==([66,111,111,108,101,97,110]:Str))
 (some true)
 (some (name==([73,68]:Str)))))
def aON:Decs:={}
theorem aOO (O:Orc) (LP:LBs) (name:Str):eW 216 aON Tryz.f216 O LP [(.str name)] []=aAP O LP name:=by kernel_rfl
theorem aL5 (name:Str):Imp (xH name) (aAP O aE name) (Ri aA):=by
 simp only [xH,aAP,zd,zr]
 try simp only [evs,tys]
 apply Imp.cnd
 ·exact zR
 ·apply Imp.cnd
  ·exact zR
  ·apply Imp.cnd
   ·exact zR
   ·exact zR
theorem aL6 {name:Str} {r:Bool} (h:xH name=some r):aHM name=some r:=zV aC (aL5 name) Tryz.func216 (aOO _ _ name) h
def eY (O:Orc) (LP:LBs) (s:List Int) (v0:Int):Option (PV×UP) :=
 aT O 245 [(.slice (List.map (PV.int .i64) s) [] false),(i6 v0)] fun x1=>cnd (chk n6 x1)
 (some ((.bool (decide ((intV x1)≥0))),[])) none
noncomputable def dK (s:List Int) (v0:Int):Option Bool :=
 bnd (fW s v0) fun y2 =>
 some (decide (y2≥0))
def rR:Decs:={decs:=[(7,n6)]}
theorem rS (O:Orc) (LP:LBs) (s:List Int) (v0:Int):eW 228 rR Tryz.f228 O LP [(.slice (List.map (PV.int .i64) s) [] false),(i6 v0)] []=eY O LP s v0:=by kernel_rfl
theorem rM (s:List Int) (v0:Int):Imp (dK s v0) (eY O aE s v0) (Ri aA):=by
 simp only [dK,eY,zd,zr]
 try simp only [evs,tys]
 refine zC rfl fun y2 _ => ?_
 try simp only [zes,evs,tys]
 exact zR
theorem rN {s:List Int} {v0:Int} {r:Bool} (h:dK s v0=some r):gT s v0=some r:=zV aC (rM s v0) Tryz.func228 (rS _ _ s v0) h
abbrev bE:List Sh:=[sf,n6,n6,n6,n6]
def gX (O:Orc) (LP:LBs):bL:=fun s1 s1u=>cnd (chkL bE s1) (cnd (chkU [] s1u)
 (cnd (decide ((iv s1 4)<(iv s1 3)))
 (bnd (ix 1 (zs s1 0) (zn s1 4)) fun x5=>cnd (chk (.ref n6) x5)
 (cnd ((iv s1 1)==(intV (refV x5)))
 (some (.ret,(pu (rb bE s1) 2 (zn s1 4)),[]))
 (some (.nrm,(pu (rb bE s1) 4 (i6 (w6 ((iv s1 4)+1)))),[]))) none)
 (some (.brk 0,(rb bE s1),[]))) none) none
def gY (O:Orc) (LP:LBs) (s:List Int) (v0:Int):Option (PV×UP) :=
 bnd (LP (gX O LP) [(.slice (List.map (PV.int .i64) s) [] false),(i6 v0),(i6 0),(i6 (List.length (List.map (PV.int .i64) s):Int)),(i6 0)] []) fun y10 =>
 exIs y10.1 (some 0) (cnd (chkL bE y10.2.1) (cnd (chkU [] y10.2.2)
 (some ((i6 (-1)),[])) none) none)
 (exIs y10.1 none (cnd (chkL bE y10.2.1) (cnd (chkU [] y10.2.2)
 (some ((zn y10.2.1 2),[])) none) none)
 (none))
noncomputable def cG (s:List Int) (v0:Int):Int→Option (Int⊕(Unit⊕Int))
 | t_4 =>
 cnd (decide (t_4<(List.length s:Int)))
  (bnd (nthI s t_4) fun y6 =>
  cnd (v0==y6)
  (some (.inr (.inr t_4)))
  (some (.inl (IntKind.wrap .i64 (t_4+1)))))
  (some (.inr (.inl ())))
abbrev gD (s:List Int) (v0:Int) (a0 a1:PV):List PV:=[(.slice (List.map (PV.int .i64) s) [] false),(i6 v0),a0,(i6 (List.length s:Int)),a1]
abbrev uZ (s:List Int) (v0:Int) (st:Int) (l:List PV) (u:UP):Prop:=l=(gD s v0 (i6 0) (i6 st))∧u=[]
abbrev vA (s:List Int) (v0:Int) (p:Unit⊕Int) (r:EU):Prop:=elim p (fun (p:Unit)=>∃ (t_7:Int),r=(Ex.brk 0,(gD s v0 (i6 0) (i6 t_7)),[])) (fun (p:Int)=>∃ (t_9:Int),r=(Ex.ret,(gD s v0 (i6 p) (i6 t_9)),[]))
noncomputable def dD (s:List Int) (v0:Int):Option Int :=
 bnd (bG (cG s v0) 0) fun e10_2=>elim e10_2
 (fun p10 =>
 some (-1))
 (fun t_8 =>
 some t_8)
def xI:Decs:={decs:=[(14,(.ref n6))],loops:=[(2,[],⟨bE,[],[(some 0,bE,[]),(none,bE,[])]⟩)]}
theorem xJ (O:Orc) (LP:LBs) (s:List Int) (v0:Int):eW 245 xI Tryz.f245 O LP [(.slice (List.map (PV.int .i64) s) [] false),(i6 v0)] []=gY O LP s v0:=by kernel_rfl
theorem rT (s:List Int) (v0:Int):Lok (uZ s v0) (cG s v0) (gX O aE) (vA s v0):=by
 rintro t_4 l u ⟨rfl,rfl⟩
 simp only [cG,gX,zd,zr]
 refine zG ?_
 try simp only [evs,tys]
 apply Imp.cnd
 ·refine Imp.op (f:=fun a => .ref ((PV.int .i64) a)) (fun a h=>aWg (enc:=(PV.int .i64)) zI ⟨zA,by decide⟩ h) (fun a=>rfl) fun y6 hy6 => ?_
  try simp only [evs,tys]
  apply Imp.cnd
  ·exact zT ⟨t_4,zE⟩
  ·exact zN
 ·exact zB ⟨t_4,zE⟩
theorem vB (s:List Int) (v0:Int):Imp (dD s v0) (gY O aE s v0) (Ri dC):=by
 simp only [dD,gY,zd,zr]
 try simp only [evs,tys]
 refine zL (rT s v0) ?_
 rintro (p | t_8) vy10 hy10
 ·try simp only [aO,aP]
  obtain ⟨t_7,rfl⟩:=hy10
  refine zH ?_
  try simp only [evs,tys]
  exact zR
 ·try simp only [aO,aP]
  obtain ⟨t_9,rfl⟩:=hy10
  refine Imp.exMiss rfl ?_
  refine zH ?_
  try simp only [evs,tys]
  exact zR
theorem vC {s:List Int} {v0:Int} {r:Int} (h:dD s v0=some r):fW s v0=some r:=zV aBk (vB s v0) Tryz.func245 (xJ _ _ s v0) h
open Go.RowKit
def GM:Mem:=fun _ _=>none
theorem xok:aP0 Tryz.prog GM XT:=by
 intro f g h
 simp only [XT,Go.Ev.look] at h
 repeat (split at h;· rename_i hf;subst hf;cases h;exact aYq)
 simp at h
theorem bB1:Tryz.prog.follows .mixedOrders=true:=by kernel_rfl
theorem bB2 : (Tryz.prog.funcs.toList.all fun fn => !fn.body.isSome || !(fn.name == "runtime.NumGoroutine")) = true := by kernel_rfl
theorem pokX:POk Tryz.prog:=by
 refine ⟨bB1,fun f fn hf hb => ?_⟩
 have hm:fn∈Tryz.prog.funcs.toList:=by
  have:=Array.mem_of_getElem? hf
  simpa using this
 have:=List.all_eq_true.1 bB2 fn hm
 rw [hb] at this
 simpa using this
end Go.Proofs.YtphmfillajagdaaGreat

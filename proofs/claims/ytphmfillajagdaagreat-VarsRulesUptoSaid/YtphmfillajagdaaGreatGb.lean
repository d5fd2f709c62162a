import Derived.Test.YtphmfillajagdaaGreatGa
set_option maxRecDepth 100000
set_option linter.unusedVariables false
set_option linter.unusedSimpArgs false
set_option linter.unusedSimpArgs false
open Go Go.Ev Go.Ev.PV
namespace Go.Proofs.YtphmfillajagdaaGreat
def jP (O:Orc) (LP:LBs) (s:GSchema) (d:GDoc) (n:Int):Option (PV×UP) :=
 aQ O 25 [(eS s),(eD d)] fun x1=>cnd (chk .bool x1)
 (cnd (!(bC x1))
 (aQ O 26 [] fun x3=>cnd (chk .bool x3)
 (some ((.bool (bC x3)),[])) none)
 (cnd (decide (n<18))
 (aQ O 27 [(eS s),(eD d),(i6 n)] fun x5=>cnd (chk .bool x5)
 (cnd (!(bC x5))
 (aQ O 26 [] fun x7=>cnd (chk .bool x7)
 (some ((.bool (bC x7)),[])) none)
 (some ((.bool false),[]))) none)
 (cnd (decide (n>21))
 (aQ O 27 [(eS s),(eD d),(i6 n)] fun x9=>cnd (chk .bool x9)
 (cnd (!(bC x9))
 (aQ O 26 [] fun x11=>cnd (chk .bool x11)
 (some ((.bool (bC x11)),[])) none)
 (some ((.bool false),[]))) none)
 (aQ O 10 [(eS s)] fun x13=>cnd (chk n6 x13)
 (cnd ((intV x13) != 0)
 (aQ O 26 [] fun x15=>cnd (chk .bool x15)
 (some ((.bool (bC x15)),[])) none)
 (aQ O 11 [(eS s),(eD d),(i6 n)] fun x17=>cnd (chk .bool x17)
 (cnd (!(bC x17))
 (aQ O 26 [] fun x19=>cnd (chk .bool x19)
 (some ((.bool (bC x19)),[])) none)
 (aQ O 27 [(eS s),(eD d),(i6 n)] fun x21=>cnd (chk .bool x21)
 (aQ O 20 [(eS s),(eD d),(i6 n)] fun x23=>cnd (chk .bool x23)
 (cnd ((bC x21)==(bC x23))
 (aQ O 26 [] fun x25=>cnd (chk .bool x25)
 (some ((.bool (bC x25)),[])) none)
 (some ((.bool false),[]))) none) none)) none)) none)))) none
noncomputable def gE (s:GSchema) (d:GDoc) (n:Int):Option Bool :=
 bnd (sJ s d) fun y2 =>
 cnd (!y2)
 (bnd (dO) fun y4 =>
 some y4)
 (cnd (decide (n<18))
 (bnd (yS s d n) fun y6 =>
 cnd (!y6)
 (bnd (dO) fun y8 =>
 some y8)
 (some false))
 (cnd (decide (n>21))
 (bnd (yS s d n) fun y10 =>
 cnd (!y10)
 (bnd (dO) fun y12 =>
 some y12)
 (some false))
 (bnd (aWr s) fun y14 =>
 cnd (y14 != 0)
 (bnd (dO) fun y16 =>
 some y16)
 (bnd (bAs s d n) fun y18 =>
 cnd (!y18)
 (bnd (dO) fun y20 =>
 some y20)
 (bnd (yS s d n) fun y22 =>
 bnd (bAt s d n) fun y24 =>
 cnd (y22==y24)
 (bnd (dO) fun y26 =>
 some y26)
 (some false))))))
def aAB:Decs:={decs:=[(9,.bool),(11,.bool),(21,.bool),(24,.bool),(27,n6),(33,.bool),(36,.bool),(40,.bool),(44,.bool),(47,.bool)]}
theorem aAC (O:Orc) (LP:LBs) (s:GSchema) (d:GDoc) (n:Int):eW 7 aAB Tryz.f7 O LP [(eS s),(eD d),(i6 n)] []=jP O LP s d n:=by kernel_rfl
theorem yY (s:GSchema) (d:GDoc) (n:Int):Imp (gE s d n) (jP O aF s d n) (Ri aA):=by
 simp only [gE,jP,zd,zr]
 try simp only [evs,tys]
 refine zC rfl fun y2 _ => ?_
 try simp only [zes,evs,tys]
 apply Imp.cnd
 ·refine zC rfl fun y4 _ => ?_
  try simp only [zes,evs,tys]
  exact zR
 ·apply Imp.cnd
  ·refine zC rfl fun y6 _ => ?_
   try simp only [zes,evs,tys]
   apply Imp.cnd
   ·refine zC rfl fun y8 _ => ?_
    try simp only [zes,evs,tys]
    exact zR
   ·exact zR
  ·apply Imp.cnd
   ·refine zC rfl fun y10 _ => ?_
    try simp only [zes,evs,tys]
    apply Imp.cnd
    ·refine zC rfl fun y12 _ => ?_
     try simp only [zes,evs,tys]
     exact zR
    ·exact zR
   ·refine zC rfl fun y14 _ => ?_
    try simp only [zes,evs,tys]
    apply Imp.cnd
    ·refine zC rfl fun y16 _ => ?_
     try simp only [zes,evs,tys]
     exact zR
    ·refine zC rfl fun y18 _ => ?_
     try simp only [zes,evs,tys]
     apply Imp.cnd
     ·refine zC rfl fun y20 _ => ?_
      try simp only [zes,evs,tys]
      exact zR
     ·refine zC rfl fun y22 _ => ?_
      try simp only [zes,evs,tys]
      refine zC rfl fun y24 _ => ?_
      try simp only [zes,evs,tys]
      apply Imp.cnd
      ·refine zC rfl fun y26 _ => ?_
       try simp only [zes,evs,tys]
       exact zR
      ·exact zR
theorem yZ {s:GSchema} {d:GDoc} {n:Int} {r:Bool} (h:gE s d n=some r):sX s d n=some r:=zV aD (yY s d n) Tryz.func7 (aAC _ _ s d n) h
abbrev hJ:List Sh:=[(.ptr 0 2 0),(.ptr 0 3 0),st',n6,sf,sf,sf,.str,.str]
def aEl (O:Orc) (LP:LBs):bM:=fun s1 s1u=>cnd (chkL hJ s1) (cnd (chkU [] s1u)
 (cnd (decide ((iv s1 3)<(List.length (ev s1 4):Int)))
 (bnd (ix 5 (zs s1 4) (zn s1 3)) fun x12=>cnd (chk (.ref shOp) x12)
 (aQ O 116 [(.agg [(zs s1 6),(zt s1 7),(zt s1 8)]),(.agg [(zn (rf x12) 0),(zt (rf x12) 1),(zs (rf x12) 2),(zs (rf x12) 3),(zs (rf x12) 4)])] fun x14=>cnd (chk .str x14)
 (bnd (ix 5 (zs s1 4) (zn s1 3)) fun x16=>cnd (chk (.ref shOp) x16)
 (aQ O 115 [(.agg [(zs s1 6),(zt s1 7),(zt s1 8)]),(.str (strV x14)),(zs (rf x16) 4),(zo s1 2)] fun x18=>cnd (chk st' x18)
 (some (.nrm,(pu (pu (rb hJ s1) 2 (.slice (esV x18) [] true)) 3 (i6 (w6 ((iv s1 3)+1)))),[])) none) none) none) none)
 (some (.brk 0,(rb hJ s1),[]))) none) none
abbrev aCf:List Sh:=[(.ptr 0 2 0),(.ptr 0 3 0),st',n6,sf,sf,sf,.str,.str]
def aEm (O:Orc) (LP:LBs):bM:=fun s23 s23u=>cnd (chkL aCf s23) (cnd (chkU [] s23u)
 (cnd (decide ((iv s23 3)<(List.length (ev s23 5):Int)))
 (bnd (ix 4 (zs s23 5) (zn s23 3)) fun x32=>cnd (chk (.ref gH) x32)
 (bnd (ix 4 (zs s23 5) (zn s23 3)) fun x34=>cnd (chk (.ref gH) x34)
 (aQ O 115 [(.agg [(zs s23 6),(zt s23 7),(zt s23 8)]),(zt (rf x32) 1),(zs (rf x34) 3),(zo s23 2)] fun x36=>cnd (chk st' x36)
 (some (.nrm,(pu (pu (rb aCf s23) 2 (.slice (esV x36) [] true)) 3 (i6 (w6 ((iv s23 3)+1)))),[])) none) none) none)
 (some (.brk 2,(rb aCf s23),[]))) none) none
def aEn (O:Orc) (LP:LBs) (s:GSchema) (d:GDoc):Option (PV×UP) :=
 bnd (LP (aEl O LP) [(.ptr 0 2 0),(.ptr 0 3 0),(.slice [] [] true),(i6 0),(zq aT d.ops),(zq aH d.frags),(zq aM s.defs),(.str s.query),(.str s.mutation)] []) fun y22 =>
 exIs y22.1 (some 0) (cnd (chkL hJ y22.2.1) (cnd (chkU [] y22.2.2)
 (bnd (LP (aEm O LP) [(.ptr 0 2 0),(.ptr 0 3 0),(zo y22.2.1 2),(i6 0),(zs y22.2.1 4),(zs y22.2.1 5),(zs y22.2.1 6),(zt y22.2.1 7),(zt y22.2.1 8)] []) fun y40 =>
 exIs y40.1 (some 2) (cnd (chkL hJ y40.2.1) (cnd (chkU [] y40.2.2)
 (some ((zs y40.2.1 2),[])) none) none)
 (none)) none) none)
 (none)
noncomputable def nQ (s:GSchema) (d:GDoc):((List GSeineref13Spot)×Int)→Option (((List GSeineref13Spot)×Int)⊕((List GSeineref13Spot)))
 | (out_10,i_11) =>
 cnd (decide (i_11<(List.length d.ops:Int)))
  (bnd (nthI d.ops i_11) fun y13 =>
  bnd (aTJ s y13) fun y15 =>
  bnd (nthI d.ops i_11) fun y17 =>
  bnd (aFH s y15 y17.sels out_10) fun y19 =>
  some (.inl (y19,(IntKind.wrap .i64 (i_11+1)))))
  (some (.inr out_10))
abbrev aHS (s:GSchema) (d:GDoc) (a0 a1:PV):List PV:=[(.ptr 0 2 0),(.ptr 0 3 0),a0,a1,(zq aT d.ops),(zq aH d.frags),(zq aM s.defs),(.str s.query),(.str s.mutation)]
abbrev aQT (s:GSchema) (d:GDoc) (st:(List GSeineref13Spot)×Int) (l:List PV) (u:UP):Prop:=l=(aHS s d (zp aL st.1) (i6 st.2))∧u=[]
abbrev aQU (s:GSchema) (d:GDoc) (p:(List GSeineref13Spot)) (r:EU):Prop:=∃ (i_21:Int),r=(Ex.brk 0,(aHS s d (zp aL p) (i6 i_21)),[])
noncomputable def nR (s:GSchema) (d:GDoc):((List GSeineref13Spot)×Int)→Option (((List GSeineref13Spot)×Int)⊕((List GSeineref13Spot)))
 | (out_30,i_31) =>
 cnd (decide (i_31<(List.length d.frags:Int)))
  (bnd (nthI d.frags i_31) fun y33 =>
  bnd (nthI d.frags i_31) fun y35 =>
  bnd (aFH s y33.on_ y35.sels out_30) fun y37 =>
  some (.inl (y37,(IntKind.wrap .i64 (i_31+1)))))
  (some (.inr out_30))
abbrev aHT (s:GSchema) (d:GDoc) (a0 a1:PV):List PV:=[(.ptr 0 2 0),(.ptr 0 3 0),a0,a1,(zq aT d.ops),(zq aH d.frags),(zq aM s.defs),(.str s.query),(.str s.mutation)]
abbrev aQV (s:GSchema) (d:GDoc) (st:(List GSeineref13Spot)×Int) (l:List PV) (u:UP):Prop:=l=(aHT s d (zp aL st.1) (i6 st.2))∧u=[]
abbrev aQW (s:GSchema) (d:GDoc) (p:(List GSeineref13Spot)) (r:EU):Prop:=∃ (i_39:Int),r=(Ex.brk 2,(aHT s d (zp aL p) (i6 i_39)),[])
noncomputable def aDb (s:GSchema) (d:GDoc):Option (List GSeineref13Spot) :=
 bnd (aY (nQ s d) ([],0)) fun out_20 =>
 bnd (aY (nR s d) (out_20,0)) fun out_38 =>
 some out_38
def aTU:Decs:={decs:=[(20,(.ref shOp)),(22,.str),(26,(.ref shOp)),(30,st'),(42,(.ref gH)),(48,(.ref gH)),(52,st')],loops:=[(3,[(3,2),(2,3)],⟨hJ,[],[(some 0,hJ,[])]⟩),(7,[(3,2),(2,3)],⟨hJ,[],[(some 2,hJ,[])]⟩)]}
theorem aTV (O:Orc) (LP:LBs) (s:GSchema) (d:GDoc):eW 58 aTU Tryz.f58 O LP [(eS s),(eD d)] []=aEn O LP s d:=by kernel_rfl
theorem aLB (s:GSchema) (d:GDoc):Lok (aQT s d) (nQ s d) (aEl O aF) (aQU s d):=by
 rintro ⟨out_10,i_11⟩ l u ⟨rfl,rfl⟩
 simp only [nQ,aEl,zd,zr]
 refine zG ?_
 try simp only [evs,tys]
 apply Imp.cnd
 ·refine zX aT aJ0 fun y13 _ => ?_
  try simp only [evs,tys]
  refine zC rfl fun y15 _ => ?_
  try simp only [zes,evs,tys]
  refine zX aT aJ0 fun y17 _ => ?_
  try simp only [evs,tys]
  refine zC rfl fun y19 _ => ?_
  try simp only [zes,evs,tys]
  exact zN
 ·exact zB ⟨i_11,zE⟩
theorem aLC (s:GSchema) (d:GDoc):Lok (aQV s d) (nR s d) (aEm O aF) (aQW s d):=by
 rintro ⟨out_30,i_31⟩ l u ⟨rfl,rfl⟩
 simp only [nR,aEm,zd,zr]
 refine zG ?_
 try simp only [evs,tys]
 apply Imp.cnd
 ·refine zX aH kU fun y33 _ => ?_
  try simp only [evs,tys]
  refine zX aH kU fun y35 _ => ?_
  try simp only [evs,tys]
  refine zC rfl fun y37 _ => ?_
  try simp only [zes,evs,tys]
  exact zN
 ·exact zB ⟨i_31,zE⟩
theorem aQX (s:GSchema) (d:GDoc):Imp (aDb s d) (aEn O aF s d) (Ri yR):=by
 simp only [aDb,aEn,zd,zr]
 try simp only [evs,tys]
 refine zL (aLB s d) ?_
 rintro out_20 _ ⟨i_21,rfl⟩
 refine zH ?_
 try simp only [evs,tys]
 refine zL (aLC s d) ?_
 rintro out_38 _ ⟨i_39,rfl⟩
 refine zH ?_
 try simp only [evs,tys]
 exact zR
theorem aQY {s:GSchema} {d:GDoc} {r:List GSeineref13Spot} (h:aDb s d=some r):aWo s d=some r:=zV aXP (aQX s d) Tryz.func58 (aTV _ _ s d) h
abbrev fM:List Sh:=[n6,(.ptr 0 3 0),(.ptr 0 4 0),.bool,n6,(.ptr 0 8 0),n6,n6,.str,sf,sf,sf,sf,sf,sf,.str,.str]
def aAD (O:Orc) (LP:LBs):bM:=fun s76 s76u=>cnd (chkL fM s76) (cnd (chkU [] s76u)
 (cnd (decide ((iv s76 6)<(List.length (ev s76 9):Int)))
 (cnd ((iv s76 0)==19)
 (bnd (ix 10 (zs s76 9) (zn s76 6)) fun x84=>cnd (chk (.ref eY) x84)
 (aQ O 129 [(.agg [(zs s76 14),(zt s76 15),(zt s76 16)]),(zt (rf x84) 1)] fun x86=>cnd (chk .bool x86)
 (cnd (!(bC x86))
 (some (.ret,(pu (rb fM s76) 3 (.bool false)),[]))
 (some (.nrm,(pu (rb fM s76) 6 (i6 (w6 ((iv s76 6)+1)))),[]))) none) none)
 (some (.brk 2,(rb fM s76),[])))
 (some (.brk 2,(rb fM s76),[]))) none) none
abbrev bU:List Sh:=[n6,(.ptr 0 3 0),(.ptr 0 4 0),.bool,n6,sf,sf,sf,.str,.str]
def aAE (O:Orc) (LP:LBs):bM:=fun s1 s1u=>cnd (chkL bU s1) (cnd (chkU [] s1u)
 (cnd (decide ((iv s1 4)<(List.length (ev s1 5):Int)))
 (bnd (ix 5 (zs s1 5) (zn s1 4)) fun x48=>cnd (chk (.ref shOp) x48)
 (aQ O 126 [(zs (rf x48) 2)] fun x50=>cnd (chk sf x50)
 (aQ O 127 [(.agg [(zs s1 5),(zs s1 6)]),(zs (rf x48) 4)] fun x52=>cnd (chk sf x52)
 (jn (fun (t_69:Bool) (t_70:Bool) (t_71:Bool) (t_72:Bool) (t_73:Bool) (t_74:Bool) (t_75:Bool) =>
 (bnd (LP (aAD O LP) [(zn s1 0),(.ptr 0 3 0),(.ptr 0 4 0),(zb s1 3),(zn s1 4),(.ptr 0 8 0),(i6 0),(zn (rf x48) 0),(zt (rf x48) 1),(zs (rf x48) 2),(zs (rf x48) 3),(zs (rf x48) 4),(zs s1 5),(zs s1 6),(zs s1 7),(zt s1 8),(zt s1 9)] []) fun y90 =>
 exIs y90.1 (some 2) (cnd (chkL [n6,(.ptr 0 3 0),(.ptr 0 4 0),.bool,n6,(.ptr 0 8 0),n6,n6,.str,sf,sf,sf,sf,sf,sf,.str,.str] y90.2.1) (cnd (chkU [] y90.2.2)
 (some (.nrm,[(zn y90.2.1 0),(.ptr 0 3 0),(.ptr 0 4 0),(zb y90.2.1 3),(i6 (w6 ((iv y90.2.1 4)+1))),(zs y90.2.1 12),(zs y90.2.1 13),(zs y90.2.1 14),(zt y90.2.1 15),(zt y90.2.1 16)],[])) none) none)
 (exIs y90.1 none (cnd (chkL [n6,(.ptr 0 3 0),(.ptr 0 4 0),.bool,n6,(.ptr 0 8 0),n6,n6,.str,sf,sf,sf,sf,sf,sf,.str,.str] y90.2.1) (cnd (chkU [] y90.2.2)
 (some (.ret,[(zn y90.2.1 0),(.ptr 0 3 0),(.ptr 0 4 0),(zb y90.2.1 3),(zn y90.2.1 4),(zs y90.2.1 12),(zs y90.2.1 13),(zs y90.2.1 14),(zt y90.2.1 15),(zt y90.2.1 16)],[])) none) none)
 (none)))) fun k54 =>
 cnd ((iv s1 0)==18)
 (aQ O 50 [(.slice (esV x50) [] false)] fun x55=>cnd (chk .bool x55)
 (cnd (bC x55)
 (some (.ret,(pu (rb bU s1) 3 (.bool false)),[]))
 (cnd ((iv s1 0)==20)
 (aQ O 128 [(.slice (esV x52) [] false),(.slice (esV x50) [] false)] fun x57=>cnd (chk .bool x57)
 (cnd (!(bC x57))
 (some (.ret,(pu (rb bU s1) 3 (.bool false)),[]))
 (cnd ((iv s1 0)==21)
 (aQ O 128 [(.slice (esV x50) [] false),(.slice (esV x52) [] false)] fun x59=>cnd (chk .bool x59)
 (cnd (!(bC x59))
 (some (.ret,(pu (rb bU s1) 3 (.bool false)),[]))
 (k54 true (bC x55) true (!(bC x57)) (!(bC x57)) true (!(bC x59)))) none)
 (k54 true (bC x55) true (!(bC x57)) (!(bC x57)) false false))) none)
 (cnd ((iv s1 0)==21)
 (aQ O 128 [(.slice (esV x50) [] false),(.slice (esV x52) [] false)] fun x61=>cnd (chk .bool x61)
 (cnd (!(bC x61))
 (some (.ret,(pu (rb bU s1) 3 (.bool false)),[]))
 (k54 true (bC x55) false false false true (!(bC x61)))) none)
 (k54 true (bC x55) false false false false false)))) none)
 (cnd ((iv s1 0)==20)
 (aQ O 128 [(.slice (esV x52) [] false),(.slice (esV x50) [] false)] fun x63=>cnd (chk .bool x63)
 (cnd (!(bC x63))
 (some (.ret,(pu (rb bU s1) 3 (.bool false)),[]))
 (cnd ((iv s1 0)==21)
 (aQ O 128 [(.slice (esV x50) [] false),(.slice (esV x52) [] false)] fun x65=>cnd (chk .bool x65)
 (cnd (!(bC x65))
 (some (.ret,(pu (rb bU s1) 3 (.bool false)),[]))
 (k54 false false true (!(bC x63)) (!(bC x63)) true (!(bC x65)))) none)
 (k54 false false true (!(bC x63)) (!(bC x63)) false false))) none)
 (cnd ((iv s1 0)==21)
 (aQ O 128 [(.slice (esV x50) [] false),(.slice (esV x52) [] false)] fun x67=>cnd (chk .bool x67)
 (cnd (!(bC x67))
 (some (.ret,(pu (rb bU s1) 3 (.bool false)),[]))
 (k54 false false false false false true (!(bC x67)))) none)
 (k54 false false false false false false false)))) none) none) none)
 (some (.brk 0,(rb bU s1),[]))) none) none
def aAF (O:Orc) (LP:LBs) (s:GSchema) (d:GDoc) (n:Int):Option (PV×UP) :=
 bnd (LP (aAE O LP) [(i6 n),(.ptr 0 3 0),(.ptr 0 4 0),(.bool false),(i6 0),(zq aT d.ops),(zq aH d.frags),(zq aM s.defs),(.str s.query),(.str s.mutation)] []) fun y93 =>
 exIs y93.1 (some 0) (cnd (chkL bU y93.2.1) (cnd (chkU [] y93.2.2)
 (some ((.bool true),[])) none) none)
 (exIs y93.1 none (cnd (chkL bU y93.2.1) (cnd (chkU [] y93.2.2)
 (some ((zb y93.2.1 3),[])) none) none)
 (none))
noncomputable def fN (s:GSchema) (n:Int) (y49:GOp):Int→Option (Int⊕(Unit⊕Unit))
 | k_82 =>
 cnd (decide (k_82<(List.length y49.vars:Int)))
  (cnd (n==19)
  (bnd (nthI y49.vars k_82) fun y85 =>
  bnd (aOc s y85.t.name) fun y87 =>
  cnd (!y87)
   (some (.inr (.inr ())))
   (some (.inl (IntKind.wrap .i64 (k_82+1)))))
  (some (.inr (.inl ()))))
  (some (.inr (.inl ())))
abbrev xJ (s:GSchema) (d:GDoc) (n:Int) (i_46:Int) (y49:GOp) (a0:PV):List PV:=[(i6 n),(.ptr 0 3 0),(.ptr 0 4 0),(.bool false),(i6 i_46),(.ptr 0 8 0),a0,(i6 y49.kind),(.str y49.name),(zq aC y49.vars),(zq aK y49.dirs),(zq aG y49.sels),(zq aT d.ops),(zq aH d.frags),(zq aM s.defs),(.str s.query),(.str s.mutation)]
abbrev aDJ (s:GSchema) (d:GDoc) (n:Int) (i_46:Int) (y49:GOp) (st:Int) (l:List PV) (u:UP):Prop:=l=(xJ s d n i_46 y49 (i6 st))∧u=[]
abbrev aLD (s:GSchema) (d:GDoc) (n:Int) (i_46:Int) (y49:GOp) (p:Unit⊕Unit) (r:EU):Prop:=elim p (fun (p:Unit)=>∃ (k_88:Int),r=(Ex.brk 2,(xJ s d n i_46 y49 (i6 k_88)),[])) (fun (p:Unit)=>∃ (k_89:Int),r=(Ex.ret,(xJ s d n i_46 y49 (i6 k_89)),[]))
noncomputable def kD (s : GSchema) (d : GDoc) (n : Int) : Int → Option (Int ⊕ (Unit ⊕ Unit))
 | i_46 =>
 cnd (decide (i_46 < (List.length d.ops : Int)))
  (bnd (nthI d.ops i_46) fun y49 =>
  bnd (aEc y49.vars) fun y51 =>
  bnd (aGH d y49.sels) fun y53 =>
  jn (fun (t_69 : Bool) (t_70 : Bool) (t_71 : Bool) (t_72 : Bool) (t_73 : Bool) (t_74 : Bool) (t_75 : Bool) =>
  (bnd (aY (fN s n y49) 0) fun e90_2 => elim e90_2
  (fun p90 =>
   some (.inl (IntKind.wrap .i64 (i_46 + 1))))
  (fun p90 =>
  some (.inr (.inr ()))))) fun k54 =>
  cnd (n == 18)
  (bnd (aOb y51) fun y56 =>
  cnd y56
   (some (.inr (.inr ())))
   (cnd (n == 20)
   (bnd (aHP y53 y51) fun y58 =>
   cnd (!y58)
    (some (.inr (.inr ())))
    (cnd (n == 21)
    (bnd (aHP y51 y53) fun y60 =>
    cnd (!y60)
     (some (.inr (.inr ())))
     (k54 true y56 true (!y58) (!y58) true (!y60)))
    (k54 true y56 true (!y58) (!y58) false false)))
   (cnd (n == 21)
    (bnd (aHP y51 y53) fun y62 =>
    cnd (!y62)
    (some (.inr (.inr ())))
    (k54 true y56 false false false true (!y62)))
    (k54 true y56 false false false false false))))
  (cnd (n == 20)
   (bnd (aHP y53 y51) fun y64 =>
   cnd (!y64)
   (some (.inr (.inr ())))
   (cnd (n == 21)
    (bnd (aHP y51 y53) fun y66 =>
    cnd (!y66)
    (some (.inr (.inr ())))
    (k54 false false true (!y64) (!y64) true (!y66)))
    (k54 false false true (!y64) (!y64) false false)))
   (cnd (n == 21)
   (bnd (aHP y51 y53) fun y68 =>
   cnd (!y68)
    (some (.inr (.inr ())))
    (k54 false false false false false true (!y68)))
   (k54 false false false false false false false))))
  (some (.inr (.inl ())))
abbrev xK (s:GSchema) (d:GDoc) (n:Int) (a0:PV):List PV:=[(i6 n),(.ptr 0 3 0),(.ptr 0 4 0),(.bool false),a0,(zq aT d.ops),(zq aH d.frags),(zq aM s.defs),(.str s.query),(.str s.mutation)]
abbrev aLE (s:GSchema) (d:GDoc) (n:Int) (st:Int) (l:List PV) (u:UP):Prop:=l=(xK s d n (i6 st))∧u=[]
abbrev aLF (s:GSchema) (d:GDoc) (n:Int) (p:Unit⊕Unit) (r:EU):Prop:=elim p (fun (p:Unit)=>∃ (i_91:Int),r=(Ex.brk 0,(xK s d n (i6 i_91)),[])) (fun (p:Unit)=>∃ (i_92:Int),r=(Ex.ret,(xK s d n (i6 i_92)),[]))
noncomputable def wI (s:GSchema) (d:GDoc) (n:Int):Option Bool :=
 bnd (aY (kD s d n) 0) fun e93_2=>elim e93_2
 (fun p93 =>
 some true)
 (fun p93 =>
 some false)
def aOm:Decs:={decs:=[(22,(.ref shOp)),(26,sf),(30,sf),(35,.bool),(43,.bool),(53,.bool),(72,(.ref eY)),(76,.bool)],loops:=[(2,[(4,2),(3,3)],⟨bU,[],[(some 0,bU,[]),(none,bU,[])]⟩),(9,[(8,5),(4,2),(3,3)],⟨fM,[],[(some 2,fM,[]),(none,fM,[])]⟩)]}
theorem aOn (O:Orc) (LP:LBs) (s:GSchema) (d:GDoc) (n:Int):eW 62 aOm Tryz.f62 O LP [(eS s),(eD d),(i6 n)] []=aAF O LP s d n:=by kernel_rfl
theorem aIg (s:GSchema) (d:GDoc) (n:Int) (i_46:Int) (y49:GOp):∀ st l u,aDJ s d n i_46 y49 st l u→Imp (fN s n y49 st) (aAD O aF l u) (oE (aDJ s d n i_46 y49) (aLD s d n i_46 y49)):=by
 rintro k_82 l u ⟨rfl,rfl⟩
 simp only [fN,aAD,zd,zr]
 refine zG ?_
 try simp only [evs,tys]
 apply Imp.cnd
 ·apply Imp.cnd
  ·refine zX aC jL fun y85 _ => ?_
   try simp only [evs,tys]
   refine zC rfl fun y87 _ => ?_
   try simp only [zes,evs,tys]
   apply Imp.cnd
   ·exact zT ⟨k_82,zE⟩
   ·exact zN
  ·exact zB ⟨k_82,zE⟩
 ·exact zB ⟨k_82,zE⟩
theorem aIh (s:GSchema) (d:GDoc) (n:Int):Lok (aLE s d n) (kD s d n) (aAE O aF) (aLF s d n):=by
 rintro i_46 l u ⟨rfl,rfl⟩
 simp only [kD,aAE,zd,zr]
 refine zG ?_
 try simp only [evs,tys]
 apply Imp.cnd
 ·refine zX aT aJ0 fun y49 _ => ?_
  try simp only [evs,tys]
  refine zC rfl fun y51 _ => ?_
  try simp only [zes,evs,tys]
  refine zC rfl fun y53 _ => ?_
  try simp only [zes,evs,tys]
  refine Imp.jn (fun I k2 k1=>∀ (t_69:Bool) (t_70:Bool) (t_71:Bool) (t_72:Bool) (t_73:Bool) (t_74:Bool) (t_75:Bool),I (k2 t_69 t_70 t_71 t_72 t_73 t_74 t_75) (k1 t_69 t_70 t_71 t_72 t_73 t_74 t_75)) (fun t_69 t_70 t_71 t_72 t_73 t_74 t_75 => ?_) fun k54 k54t hk54 => ?_
  ·dsimp only
   try simp only [evs,tys]
   refine zL (aIg s d n i_46 y49) ?_
   rintro (p | p) vy90 hy90
   ·try simp only [aN,aO]
    obtain ⟨k_88,rfl⟩:=hy90
    refine zH ?_
    try simp only [evs,tys]
    exact zN
   ·try simp only [aN,aO]
    obtain ⟨k_89,rfl⟩:=hy90
    refine Imp.exMiss rfl ?_
    refine zH ?_
    try simp only [evs,tys]
    exact zT ⟨i_46,zE⟩
  apply Imp.cnd
  ·refine zC rfl fun y56 _ => ?_
   try simp only [zes,evs,tys]
   apply Imp.cnd
   ·exact zT ⟨i_46,zE⟩
   ·apply Imp.cnd
    ·refine zC rfl fun y58 _ => ?_
     try simp only [zes,evs,tys]
     apply Imp.cnd
     ·exact zT ⟨i_46,zE⟩
     ·apply Imp.cnd
      ·refine zC rfl fun y60 _ => ?_
       try simp only [zes,evs,tys]
       apply Imp.cnd
       ·exact zT ⟨i_46,zE⟩
       ·first | exact hk54 _ _ _ _ _ _ _ | simpa only [evs,tys,evl] using hk54 _ _ _ _ _ _ _
      ·first | exact hk54 _ _ _ _ _ _ _ | simpa only [evs,tys,evl] using hk54 _ _ _ _ _ _ _
    ·apply Imp.cnd
     ·refine zC rfl fun y62 _ => ?_
      try simp only [zes,evs,tys]
      apply Imp.cnd
      ·exact zT ⟨i_46,zE⟩
      ·first | exact hk54 _ _ _ _ _ _ _ | simpa only [evs,tys,evl] using hk54 _ _ _ _ _ _ _
     ·first | exact hk54 _ _ _ _ _ _ _ | simpa only [evs,tys,evl] using hk54 _ _ _ _ _ _ _
  ·apply Imp.cnd
   ·refine zC rfl fun y64 _ => ?_
    try simp only [zes,evs,tys]
    apply Imp.cnd
    ·exact zT ⟨i_46,zE⟩
    ·apply Imp.cnd
     ·refine zC rfl fun y66 _ => ?_
      try simp only [zes,evs,tys]
      apply Imp.cnd
      ·exact zT ⟨i_46,zE⟩
      ·first | exact hk54 _ _ _ _ _ _ _ | simpa only [evs,tys,evl] using hk54 _ _ _ _ _ _ _
     ·first | exact hk54 _ _ _ _ _ _ _ | simpa only [evs,tys,evl] using hk54 _ _ _ _ _ _ _
   ·apply Imp.cnd
    ·refine zC rfl fun y68 _ => ?_
     try simp only [zes,evs,tys]
     apply Imp.cnd
     ·exact zT ⟨i_46,zE⟩
     ·first | exact hk54 _ _ _ _ _ _ _ | simpa only [evs,tys,evl] using hk54 _ _ _ _ _ _ _
    ·first | exact hk54 _ _ _ _ _ _ _ | simpa only [evs,tys,evl] using hk54 _ _ _ _ _ _ _
 ·exact zB ⟨i_46,zE⟩
theorem aLG (s:GSchema) (d:GDoc) (n:Int):Imp (wI s d n) (aAF O aF s d n) (Ri aA):=by
 simp only [wI,aAF,zd,zr]
 try simp only [evs,tys]
 refine zL (aIh s d n) ?_
 rintro (p | p) vy93 hy93
 ·try simp only [aN,aO]
  obtain ⟨i_91,rfl⟩:=hy93
  refine zH ?_
  try simp only [evs,tys]
  exact zR
 ·try simp only [aN,aO]
  obtain ⟨i_92,rfl⟩:=hy93
  refine Imp.exMiss rfl ?_
  refine zH ?_
  try simp only [evs,tys]
  exact zR
theorem aLH {s:GSchema} {d:GDoc} {n:Int} {r:Bool} (h:wI s d n=some r):aGG s d n=some r:=zV aD (aLG s d n) Tryz.func62 (aOn _ _ s d n) h
open Go Go.Ev Go.Ev.PV
abbrev nS:List Sh:=[(.ptr 0 1 0),n6,st',n6,st',n6,sf,.str,.str]
def aEo (O:Orc) (LP:LBs):bM:=fun s107 s107u=>cnd (chkL nS s107) (cnd (chkU [] s107u)
 (cnd (decide ((iv s107 5)<(List.length (ev s107 4):Int)))
 (bnd (ix 1 (zs s107 4) (zn s107 5)) fun x118=>cnd (chk (.ref .str) x118)
 (aQ O 29 [(zs s107 2),(.str (strV (refV x118)))] fun x120=>cnd (chk .bool x120)
 (cnd (!(bC x120))
 (bnd (ix 1 (zs s107 4) (zn s107 5)) fun x122=>cnd (chk (.ref .str) x122)
 (bnd (apd 1 (zo s107 2) (.slice [(.str (strV (refV x122)))] [] true)) fun x124=>cnd (chk st' x124)
 (some (.nrm,(pu (pu (rb nS s107) 2 (.slice (esV x124) [] true)) 5 (i6 (w6 ((iv s107 5)+1)))),[])) none) none)
 (some (.nrm,(pu (rb nS s107) 5 (i6 (w6 ((iv s107 5)+1)))),[]))) none) none)
 (some (.brk 4,(rb nS s107),[]))) none) none
abbrev wJ:List Sh:=[(.ptr 0 1 0),n6,st',n6,sf,.str,.str]
def aEp (O:Orc) (LP:LBs):bM:=fun s74 s74u=>cnd (chkL wJ s74) (cnd (chkU [] s74u)
 (cnd (decide ((iv s74 3)<(List.length (ev s74 2):Int)))
 (bnd (ix 1 (zs s74 2) (zn s74 3)) fun x103=>cnd (chk (.ref .str) x103)
 (aQ O 166 [(.agg [(zs s74 4),(zt s74 5),(zt s74 6)]),(.str (strV (refV x103)))] fun x105=>cnd (chk st' x105)
 (bnd (LP (aEo O LP) [(.ptr 0 1 0),(zn s74 1),(zo s74 2),(zn s74 3),(.slice (esV x105) [] true),(i6 0),(zs s74 4),(zt s74 5),(zt s74 6)] []) fun y128 =>
 exIs y128.1 (some 4) (cnd (chkL [(.ptr 0 1 0),n6,st',n6,st',n6,sf,.str,.str] y128.2.1) (cnd (chkU [] y128.2.2)
 (some (.nrm,[(.ptr 0 1 0),(zn y128.2.1 1),(zo y128.2.1 2),(i6 (w6 ((iv y128.2.1 3)+1))),(zs y128.2.1 6),(zt y128.2.1 7),(zt y128.2.1 8)],[])) none) none)
 (none)) none) none)
 (some (.brk 2,(rb wJ s74),[]))) none) none
abbrev rP:List Sh:=[(.ptr 0 1 0),.any,n6,sf,.str,.str]
def aEq (O:Orc) (LP:LBs):bM:=fun s1 s1u=>cnd (chkL rP s1) (cnd (chkU [] s1u)
 (cnd (decide ((iv s1 2)<(List.length (ev s1 3):Int)))
 (bnd (ix 6 (zs s1 3) (zn s1 2)) fun x70=>cnd (chk (.ref uK) x70)
 (aQ O 166 [(.agg [(zs s1 3),(zt s1 4),(zt s1 5)]),(zt (rf x70) 1)] fun x72=>cnd (chk st' x72)
 (bnd (LP (aEp O LP) [(.ptr 0 1 0),(zn s1 2),(.slice (esV x72) [] true),(i6 0),(zs s1 3),(zt s1 4),(zt s1 5)] []) fun y131 =>
 exIs y131.1 (some 2) (cnd (chkL [(.ptr 0 1 0),n6,st',n6,sf,.str,.str] y131.2.1) (cnd (chkU [] y131.2.2)
 (bnd (ix 6 (zs y131.2.1 4) (zn y131.2.1 1)) fun x132=>cnd (chk (.ref uK) x132)
 (aQ O 29 [(zs y131.2.1 2),(zt (rf x132) 1)] fun x134=>cnd (chk .bool x134)
 (cnd (bC x134)
 (some (.ret,[(.ptr 0 1 0),(.bool false),(zn y131.2.1 1),(zs y131.2.1 4),(zt y131.2.1 5),(zt y131.2.1 6)],[]))
 (some (.nrm,[(.ptr 0 1 0),.bot,(i6 (w6 ((iv y131.2.1 1)+1))),(zs y131.2.1 4),(zt y131.2.1 5),(zt y131.2.1 6)],[]))) none) none) none) none)
 (none)) none) none)
 (some (.brk 0,(pu (rb rP s1) 1 (gt s1 1)),[]))) none) none
def aEr (O:Orc) (LP:LBs) (s:GSchema):Option (PV×UP) :=
 bnd (LP (aEq O LP) [(.ptr 0 1 0),(.bool false),(i6 0),(zq aM s.defs),(.str s.query),(.str s.mutation)] []) fun y139 =>
 exIs y139.1 (some 0) (cnd (chkL rP y139.2.1) (cnd (chkU [] y139.2.2)
 (some ((.bool true),[])) none) none)
 (exIs y139.1 none (cnd (chkL [(.ptr 0 1 0),.bool,n6,sf,.str,.str] y139.2.1) (cnd (chkU [] y139.2.2)
 (some ((zb y139.2.1 1),[])) none) none)
 (none))
noncomputable def rQ (y106:List Str):((List Str)×Int)→Option (((List Str)×Int)⊕((List Str)))
 | (l_116,j_117) =>
 cnd (decide (j_117<(List.length y106:Int)))
  (bnd (nthI y106 j_117) fun y119 =>
  bnd (aBi l_116 y119) fun y121 =>
  cnd (!y121)
  (bnd (nthI y106 j_117) fun y123 =>
  bnd (tapp l_116 [y123]) fun y125 =>
  some (.inl (y125,(IntKind.wrap .i64 (j_117+1)))))
  (some (.inl (l_116,(IntKind.wrap .i64 (j_117+1))))))
  (some (.inr l_116))
abbrev aHU (s:GSchema) (i_69:Int) (k_102:Int) (y106:List Str) (st:(List Str)×Int) (l:List PV) (u:UP):Prop:=l=[(.ptr 0 1 0),(i6 i_69),(zp PV.str st.1),(i6 k_102),(zp PV.str y106),(i6 st.2),(zq aM s.defs),(.str s.query),(.str s.mutation)]∧u=[]
abbrev aQZ (s:GSchema) (i_69:Int) (k_102:Int) (y106:List Str) (p:(List Str)) (r:EU):Prop:=(fun (p:(List Str))=>∃ (j_127:Int),r=(Ex.brk 4,[(.ptr 0 1 0),(i6 i_69),(zp PV.str p),(i6 k_102),(zp PV.str y106),(i6 j_127),(zq aM s.defs),(.str s.query),(.str s.mutation)],[])) p
noncomputable def rR (s:GSchema):((List Str)×Int)→Option (((List Str)×Int)⊕((List Str)))
 | (l_101,k_102) =>
 cnd (decide (k_102<(List.length l_101:Int)))
  (bnd (nthI l_101 k_102) fun y104 =>
  bnd (aI0 s y104) fun y106 =>
  bnd (aY (rQ y106) (l_101,0)) fun l_126 =>
  some (.inl (l_126,(IntKind.wrap .i64 (k_102+1)))))
  (some (.inr l_101))
abbrev aHV (s:GSchema) (i_69:Int) (st:(List Str)×Int) (l:List PV) (u:UP):Prop:=l=[(.ptr 0 1 0),(i6 i_69),(zp PV.str st.1),(i6 st.2),(zq aM s.defs),(.str s.query),(.str s.mutation)]∧u=[]
abbrev aQ0 (s:GSchema) (i_69:Int) (p:(List Str)) (r:EU):Prop:=(fun (p:(List Str))=>∃ (k_130:Int),r=(Ex.brk 2,[(.ptr 0 1 0),(i6 i_69),(zp PV.str p),(i6 k_130),(zq aM s.defs),(.str s.query),(.str s.mutation)],[])) p
noncomputable def wK (s:GSchema):Int→Option (Int⊕(Unit⊕Unit))
 | i_69 =>
 cnd (decide (i_69<(List.length s.defs:Int)))
  (bnd (nthI s.defs i_69) fun y71 =>
  bnd (aI0 s y71.name) fun y73 =>
  bnd (aY (rR s) (y73,0)) fun l_129 =>
  bnd (nthI s.defs i_69) fun y133 =>
  bnd (aBi l_129 y133.name) fun y135 =>
  cnd y135
  (some (.inr (.inr ())))
  (some (.inl (IntKind.wrap .i64 (i_69+1)))))
  (some (.inr (.inl ())))
abbrev aCg (s:GSchema) (a0 a1:PV):List PV:=[(.ptr 0 1 0),a0,a1,(zq aM s.defs),(.str s.query),(.str s.mutation)]
abbrev aQ1 (s:GSchema) (st:Int) (l:List PV) (u:UP):Prop:=∃ (j68:PV),l=(aCg s j68 (i6 st))∧u=[]
abbrev aQ2 (s:GSchema) (p:Unit⊕Unit) (r:EU):Prop:=elim p (fun (p:Unit)=>∃ (j136:PV),∃ (i_137:Int),r=(Ex.brk 0,(aCg s j136 (i6 i_137)),[])) (fun (p:Unit)=>∃ (i_138:Int),r=(Ex.ret,(aCg s (.bool false) (i6 i_138)),[]))
noncomputable def zD (s:GSchema):Option Bool :=
 bnd (aY (wK s) 0) fun e139_2=>elim e139_2
 (fun p139 =>
 some true)
 (fun p139 =>
 some false)
def aTW:Decs:={decs:=[(19,(.ref uK)),(22,st'),(32,(.ref .str)),(34,st'),(44,(.ref .str)),(46,.bool),(51,(.ref .str)),(54,st'),(59,(.ref uK)),(62,.bool)],loops:=[(2,[(1,3)],⟨rP,[],[(some 0,rP,[]),(none,[(.ptr 0 1 0),.bool,n6,sf,.str,.str],[])]⟩),(6,[(1,3)],⟨wJ,[],[(some 2,wJ,[])]⟩),(10,[(1,3)],⟨nS,[],[(some 4,nS,[])]⟩)]}
theorem aTX (O:Orc) (LP:LBs) (s:GSchema):eW 96 aTW Tryz.f96 O LP [(eS s)] []=aEr O LP s:=by kernel_rfl
theorem aLI (s:GSchema) (i_69:Int) (k_102:Int) (y106:List Str):∀ st l u,aHU s i_69 k_102 y106 st l u→Imp (rQ y106 st) (aEo O aF l u) (oE (aHU s i_69 k_102 y106) (aQZ s i_69 k_102 y106)):=by
 rintro ⟨l_116,j_117⟩ l u ⟨rfl,rfl⟩
 simp only [rQ,aEo,zd,zr]
 refine zG ?_
 try simp only [evs,tys]
 apply Imp.cnd
 ·refine zX PV.str (fun _=>rfl) fun y119 _ => ?_
  try simp only [evs,tys]
  refine zC rfl fun y121 _ => ?_
  try simp only [zes,evs,tys]
  apply Imp.cnd
  ·refine zX PV.str (fun _=>rfl) fun y123 _ => ?_
   try simp only [evs,tys]
   refine Imp.op (f:=fun a => .slice (List.map PV.str a) [] true) (fun a h=>aBg (enc:=PV.str) zI zI (fun a=>by first | rfl | simp only [evs,tys,evc]) h) (fun a=>rfl) fun y125 hy125 => ?_
   try simp only [evs,tys]
   exact zN
  ·exact zN
 ·exact zB ⟨j_117,zE⟩
theorem aLJ (s:GSchema) (i_69:Int):∀ st l u,aHV s i_69 st l u→Imp (rR s st) (aEp O aF l u) (oE (aHV s i_69) (aQ0 s i_69)):=by
 rintro ⟨l_101,k_102⟩ l u ⟨rfl,rfl⟩
 simp only [rR,aEp,zd,zr]
 refine zG ?_
 try simp only [evs,tys]
 apply Imp.cnd
 ·refine zX PV.str (fun _=>rfl) fun y104 _ => ?_
  try simp only [evs,tys]
  refine zC rfl fun y106 _ => ?_
  try simp only [zes,evs,tys]
  refine zL (aLI s i_69 k_102 y106) ?_
  rintro l_126 _ ⟨j_127,rfl⟩
  refine zH ?_
  try simp only [evs,tys]
  exact zN
 ·exact zB ⟨k_102,zE⟩
theorem aLK (s:GSchema):Lok (aQ1 s) (wK s) (aEq O aF) (aQ2 s):=by
 rintro i_69 l u ⟨j68,rfl,rfl⟩
 simp only [wK,aEq,zd,zr]
 refine zG ?_
 try simp only [evs,tys]
 apply Imp.cnd
 ·refine zX aM aC5 fun y71 _ => ?_
  try simp only [evs,tys]
  refine zC rfl fun y73 _ => ?_
  try simp only [zes,evs,tys]
  refine zL (aLJ s i_69) ?_
  rintro l_129 _ ⟨k_130,rfl⟩
  refine zH ?_
  try simp only [evs,tys]
  refine zX aM aC5 fun y133 _ => ?_
  try simp only [evs,tys]
  refine zC rfl fun y135 _ => ?_
  try simp only [zes,evs,tys]
  apply Imp.cnd
  ·exact zT ⟨i_69,zE⟩
  ·exact Imp.some (oE.next ⟨_,zI,rfl⟩)
 ·exact zB ⟨_,i_69,zE⟩
theorem aQ3 (s:GSchema):Imp (zD s) (aEr O aF s) (Ri aA):=by
 simp only [zD,aEr,zd,zr]
 try simp only [evs,tys]
 refine Imp.bnd (Imp.loop (aLK s) ⟨_,zI,rfl⟩) ?_
 rintro (p | p) vy139 hy139
 ·try simp only [aN,aO]
  obtain ⟨j136,i_137,rfl⟩:=hy139
  refine zH ?_
  try simp only [evs,tys]
  exact zR
 ·try simp only [aN,aO]
  obtain ⟨i_138,rfl⟩:=hy139
  refine Imp.exMiss rfl ?_
  refine zH ?_
  try simp only [evs,tys]
  exact zR
theorem aQ4 {s:GSchema} {r:Bool} (h:zD s=some r):aWp s=some r:=zV aD (aQ3 s) Tryz.func96 (aTX _ _ s) h
abbrev nT:List Sh:=[(.ptr 0 2 0),st',n6,sf,sf]
def aEs (O:Orc) (LP:LBs):bM:=fun s3 s3u=>cnd (chkL nT s3) (cnd (chkU [] s3u)
 (cnd (decide ((iv s3 2)<(List.length (ev s3 1):Int)))
 (bnd (ix 1 (zs s3 1) (zn s3 2)) fun x12=>cnd (chk (.ref .str) x12)
 (aQ O 113 [(.agg [(zs s3 3),(zs s3 4)]),(.str (strV (refV x12)))] fun x14=>cnd (chk (.tup [gH,.bool]) x14)
 (cnd (bC (tv x14 1))
 (aQ O 183 [(zs (tg x14 0) 3),(zo s3 1)] fun x16=>cnd (chk st' x16)
 (some (.nrm,[(.ptr 0 2 0),(.slice (esV x16) [] true),(i6 (w6 ((iv s3 2)+1))),(zs s3 3),(zs s3 4)],[])) none)
 (some (.nrm,(pu (rb nT s3) 2 (i6 (w6 ((iv s3 2)+1)))),[]))) none) none)
 (some (.brk 0,(rb nT s3),[]))) none) none
abbrev iZ:List Sh:=[(.ptr 0 2 0),st',st',n6,sf,sf]
def aEt (O:Orc) (LP:LBs):bM:=fun s21 s21u=>cnd (chkL iZ s21) (cnd (chkU [] s21u)
 (cnd (decide ((iv s21 3)<(List.length (ev s21 5):Int)))
 (bnd (ix 4 (zs s21 5) (zn s21 3)) fun x36=>cnd (chk (.ref gH) x36)
 (aQ O 29 [(zs s21 1),(zt (rf x36) 0)] fun x38=>cnd (chk .bool x38)
 (cnd (bC x38)
 (bnd (ix 4 (zs s21 5) (zn s21 3)) fun x40=>cnd (chk (.ref gH) x40)
 (aQ O 29 [(zs s21 2),(zt (rf x40) 0)] fun x42=>cnd (chk .bool x42)
 (cnd (!(bC x42))
 (bnd (ix 4 (zs s21 5) (zn s21 3)) fun x44=>cnd (chk (.ref gH) x44)
 (bnd (apd 1 (zo s21 2) (.slice [(zt (rf x44) 0)] [] true)) fun x46=>cnd (chk st' x46)
 (some (.nrm,(pu (pu (rb iZ s21) 2 (.slice (esV x46) [] true)) 3 (i6 (w6 ((iv s21 3)+1)))),[])) none) none)
 (some (.nrm,(pu (rb iZ s21) 3 (i6 (w6 ((iv s21 3)+1)))),[]))) none) none)
 (some (.nrm,(pu (rb iZ s21) 3 (i6 (w6 ((iv s21 3)+1)))),[]))) none) none)
 (some (.brk 2,(rb iZ s21),[]))) none) none
def aEu (O:Orc) (LP:LBs) (d:GDoc) (l0:List GSel):Option (PV×UP) :=
 aQ O 182 [(zq aG l0)] fun x1=>cnd (chk st' x1)
 (bnd (LP (aEs O LP) [(.ptr 0 2 0),(.slice (esV x1) [] true),(i6 0),(zq aT d.ops),(zq aH d.frags)] []) fun y20 =>
 exIs y20.1 (some 0) (cnd (chkL nT y20.2.1) (cnd (chkU [] y20.2.2)
 (bnd (LP (aEt O LP) [(.ptr 0 2 0),(zo y20.2.1 1),(.slice [] [] true),(i6 0),(zs y20.2.1 3),(zs y20.2.1 4)] []) fun y50 =>
 exIs y50.1 (some 2) (cnd (chkL iZ y50.2.1) (cnd (chkU [] y50.2.2)
 (some ((zs y50.2.1 2),[])) none) none)
 (none)) none) none)
 (none)) none
noncomputable def jA (d:GDoc):((List Str)×Int)→Option (((List Str)×Int)⊕((List Str)))
 | (all_10,i_11) =>
 cnd (decide (i_11<(List.length all_10:Int)))
  (bnd (nthI all_10 i_11) fun y13 =>
  bnd (aOd d y13) fun y15 =>
  cnd y15.2
  (bnd (lP y15.1.sels all_10) fun y17 =>
  some (.inl (y17,(IntKind.wrap .i64 (i_11+1)))))
  (some (.inl (all_10,(IntKind.wrap .i64 (i_11+1))))))
  (some (.inr all_10))
abbrev aQ5 (d:GDoc) (st:(List Str)×Int) (l:List PV) (u:UP):Prop:=l=[(.ptr 0 2 0),(zp PV.str st.1),(i6 st.2),(zq aT d.ops),(zq aH d.frags)]∧u=[]
abbrev aQ6 (d:GDoc) (p:(List Str)) (r:EU):Prop:=(fun (p:(List Str))=>∃ (i_19:Int),r=(Ex.brk 0,[(.ptr 0 2 0),(zp PV.str p),(i6 i_19),(zq aT d.ops),(zq aH d.frags)],[])) p
noncomputable def nU (d:GDoc) (all_18:List Str):((List Str)×Int)→Option (((List Str)×Int)⊕((List Str)))
 | (out_34,i_35) =>
 cnd (decide (i_35<(List.length d.frags:Int)))
  (bnd (nthI d.frags i_35) fun y37 =>
  bnd (aBi all_18 y37.name) fun y39 =>
  cnd y39
  (bnd (nthI d.frags i_35) fun y41 =>
  bnd (aBi out_34 y41.name) fun y43 =>
  cnd (!y43)
   (bnd (nthI d.frags i_35) fun y45 =>
   bnd (tapp out_34 [y45.name]) fun y47 =>
   some (.inl (y47,(IntKind.wrap .i64 (i_35+1)))))
   (some (.inl (out_34,(IntKind.wrap .i64 (i_35+1))))))
  (some (.inl (out_34,(IntKind.wrap .i64 (i_35+1))))))
  (some (.inr out_34))
abbrev aQ7 (d:GDoc) (all_18:List Str) (st:(List Str)×Int) (l:List PV) (u:UP):Prop:=l=[(.ptr 0 2 0),(zp PV.str all_18),(zp PV.str st.1),(i6 st.2),(zq aT d.ops),(zq aH d.frags)]∧u=[]
abbrev aQ8 (d:GDoc) (all_18:List Str) (p:(List Str)) (r:EU):Prop:=(fun (p:(List Str))=>∃ (i_49:Int),r=(Ex.brk 2,[(.ptr 0 2 0),(zp PV.str all_18),(zp PV.str p),(i6 i_49),(zq aT d.ops),(zq aH d.frags)],[])) p
noncomputable def aDc (d:GDoc) (l0:List GSel):Option (List Str) :=
 bnd (aGI l0) fun y2 =>
 bnd (aY (jA d) (y2,0)) fun all_18 =>
 bnd (aY (nU d all_18) ([],0)) fun out_48 =>
 some out_48
def aTY:Decs:={decs:=[(12,st'),(23,(.ref .str)),(25,(.tup [gH,.bool])),(32,st'),(44,(.ref gH)),(47,.bool),(53,(.ref gH)),(56,.bool),(63,(.ref gH)),(67,st')],loops:=[(3,[(2,2)],⟨nT,[],[(some 0,nT,[])]⟩),(10,[(2,2)],⟨iZ,[],[(some 2,iZ,[])]⟩)]}
theorem aTZ (O:Orc) (LP:LBs) (d:GDoc) (l0:List GSel):eW 114 aTY Tryz.f114 O LP [(eD d),(zq aG l0)] []=aEu O LP d l0:=by kernel_rfl
theorem aLL (d:GDoc):Lok (aQ5 d) (jA d) (aEs O aF) (aQ6 d):=by
 rintro ⟨all_10,i_11⟩ l u ⟨rfl,rfl⟩
 simp only [jA,aEs,zd,zr]
 refine zG ?_
 try simp only [evs,tys]
 apply Imp.cnd
 ·refine zX PV.str (fun _=>rfl) fun y13 _ => ?_
  try simp only [evs,tys]
  refine zC rfl fun y15 _ => ?_
  try simp only [zes,evs,tys]
  apply Imp.cnd
  ·refine zC rfl fun y17 _ => ?_
   try simp only [zes,evs,tys]
   exact zN
  ·exact zN
 ·exact zB ⟨i_11,zE⟩
theorem aLM (d:GDoc) (all_18:List Str):Lok (aQ7 d all_18) (nU d all_18) (aEt O aF) (aQ8 d all_18):=by
 rintro ⟨out_34,i_35⟩ l u ⟨rfl,rfl⟩
 simp only [nU,aEt,zd,zr]
 refine zG ?_
 try simp only [evs,tys]
 apply Imp.cnd
 ·refine zX aH kU fun y37 _ => ?_
  try simp only [evs,tys]
  refine zC rfl fun y39 _ => ?_
  try simp only [zes,evs,tys]
  apply Imp.cnd
  ·refine zX aH kU fun y41 _ => ?_
   try simp only [evs,tys]
   refine zC rfl fun y43 _ => ?_
   try simp only [zes,evs,tys]
   apply Imp.cnd
   ·refine zX aH kU fun y45 _ => ?_
    try simp only [evs,tys]
    refine Imp.op (f:=fun a => .slice (List.map PV.str a) [] true) (fun a h=>aBg (enc:=PV.str) zI zI (fun a=>by first | rfl | simp only [evs,tys,evc]) h) (fun a=>rfl) fun y47 hy47 => ?_
    try simp only [evs,tys]
    exact zN
   ·exact zN
  ·exact zN
 ·exact zB ⟨i_35,zE⟩
theorem aQ9 (d:GDoc) (l0:List GSel):Imp (aDc d l0) (aEu O aF d l0) (Ri cO):=by
 simp only [aDc,aEu,zd,zr]
 try simp only [evs,tys]
 refine zC rfl fun y2 _ => ?_
 try simp only [zes,evs,tys]
 refine zL (aLL d) ?_
 rintro all_18 _ ⟨i_19,rfl⟩
 refine zH ?_
 try simp only [evs,tys]
 refine zL (aLM d all_18) ?_
 rintro out_48 _ ⟨i_49,rfl⟩
 refine zH ?_
 try simp only [evs,tys]
 exact zR
theorem aRa {d:GDoc} {l0:List GSel} {r:List Str} (h:aDc d l0=some r):aIZ d l0=some r:=zV lO (aQ9 d l0) Tryz.func114 (aTZ _ _ d l0) h
abbrev hZ:List Sh:=[(.ptr 0 4 0),(.ptr 0 6 0),.bool,(.ptr 0 9 0),n6,.str,n6,n6,n6,n6,.str,sf,sf,.str,n6,n6,sf,.str,.str]
def aEv (O:Orc) (LP:LBs):bM:=fun s13 s13u=>cnd (chkL hZ s13) (cnd (chkU [] s13u)
 (cnd (decide ((iv s13 4)<(List.length (ev s13 11):Int)))
 (bnd (ix 5 (zs s13 11) (zn s13 4)) fun x21=>cnd (chk (.ref xH) x21)
 (aQ O 192 [(.agg [(zs s13 16),(zt s13 17),(zt s13 18)]),(.agg [(zt s13 5),(zn s13 6),(zn s13 7)]),(.agg [(zn (rf x21) 0),(zn (rf x21) 1),(zt (rf x21) 2),(zs (rf x21) 3),(zs (rf x21) 4)]),(.bool false)] fun x23=>cnd (chk .bool x23)
 (cnd (!(bC x23))
 (some (.ret,(pu (rb hZ s13) 2 (.bool false)),[]))
 (some (.nrm,(pu (rb hZ s13) 4 (i6 (w6 ((iv s13 4)+1)))),[]))) none) none)
 (some (.brk 0,(rb hZ s13),[]))) none) none
def aEw (O:Orc) (LP:LBs) (s:GSchema) (t:GType) (v0:GValue) (alone:Bool):Option (PV×UP) :=
 aQ O 101 [(eT t)] fun x2=>cnd (chk .bool x2)
 (cnd (!(bC x2))
 (some ((.bool false),[]))
 (cnd (v0.kind==8)
 (some ((.bool true),[]))
 (cnd (v0.kind==0)
 (some ((.bool ((bits .and .i64 t.musts 1)==0)),[]))
 (aQ O 224 [(eT t)] fun x6=>cnd (chk (.tup [aWm,.bool]) x6)
 (jn (fun (t_11:Bool) =>
 (cnd (bC (tv x6 1))
 (bnd (LP (aEv O LP) [(.ptr 0 4 0),(.ptr 0 6 0),(.bool false),(.ptr 0 9 0),(i6 0),(zt (tg x6 0) 0),(zn (tg x6 0) 1),(zn (tg x6 0) 2),(i6 v0.kind),(i6 v0.n),(.str v0.s),(zq aI v0.l),(zq aE v0.m),(.str t.name),(i6 t.lists),(i6 t.musts),(zq aM s.defs),(.str s.query),(.str s.mutation)] []) fun y27 =>
 exIs y27.1 (some 0) (cnd (chkL hZ y27.2.1) (cnd (chkU [] y27.2.2)
 (some ((.bool true),[])) none) none)
 (exIs y27.1 none (cnd (chkL hZ y27.2.1) (cnd (chkU [] y27.2.2)
 (some ((zb y27.2.1 2),[])) none) none)
 (none)))
 (cnd (t.name==([73,110,116]:Str))
 (cnd (v0.kind==2)
 (cnd (decide (v0.n≥(-2147483648)))
 (some ((.bool (decide (v0.n≤2147483647))),[]))
 (some ((.bool false),[])))
 (some ((.bool false),[])))
 (cnd (t.name==([83,116,114,105,110,103]:Str))
 (some ((.bool (v0.kind==4)),[]))
 (cnd (t.name==([66,111,111,108,101,97,110]:Str))
 (some ((.bool (v0.kind==1)),[]))
 (cnd (t.name==([73,68]:Str))
 (cnd (v0.kind==4)
 (some ((.bool true),[]))
 (some ((.bool (v0.kind==2)),[])))
 (aQ O 164 [(eS s),(.str t.name)] fun x29=>cnd (chk (.tup [uK,.bool]) x29)
 (cnd ((iv (tg x29 0) 0)==4)
 (cnd (v0.kind==5)
 (aQ O 29 [(zs (tg x29 0) 4),(.str v0.s)] fun x32=>cnd (chk .bool x32)
 (some ((.bool (bC x32)),[])) none)
 (some ((.bool false),[])))
 (cnd ((iv (tg x29 0) 0)==5)
 (cnd (v0.kind==7)
 (aQ O 225 [(eS s),(zs (tg x29 0) 5),(zq aE v0.m)] fun x34=>cnd (chk .bool x34)
 (some ((.bool (bC x34)),[])) none)
 (some ((.bool false),[])))
 (some ((.bool false),[])))) none))))))) fun k8 =>
 cnd (bC (tv x6 1))
 (cnd (v0.kind != 6)
 (cnd alone
 (aQ O 192 [(eS s),(.agg [(zt (tg x6 0) 0),(zn (tg x6 0) 1),(zn (tg x6 0) 2)]),(eV v0),(.bool true)] fun x9=>cnd (chk .bool x9)
 (some ((.bool (bC x9)),[])) none)
 (some ((.bool false),[])))
 (k8 true))
 (k8 false)) none)))) none
noncomputable def rS (s:GSchema) (v0:GValue) (y7:GType×Bool):Int→Option (Int⊕(Unit⊕Unit))
 | i_19 =>
 cnd (decide (i_19<(List.length v0.l:Int)))
  (bnd (nthI v0.l i_19) fun y22 =>
  bnd (wE s y7.1 y22 false) fun y24 =>
  cnd (!y24)
  (some (.inr (.inr ())))
  (some (.inl (IntKind.wrap .i64 (i_19+1)))))
  (some (.inr (.inl ())))
abbrev aCh (s:GSchema) (t:GType) (v0:GValue) (y7:GType×Bool) (a0:PV):List PV:=[(.ptr 0 4 0),(.ptr 0 6 0),(.bool false),(.ptr 0 9 0),a0,(.str y7.1.name),(i6 y7.1.lists),(i6 y7.1.musts),(i6 v0.kind),(i6 v0.n),(.str v0.s),(zq aI v0.l),(zq aE v0.m),(.str t.name),(i6 t.lists),(i6 t.musts),(zq aM s.defs),(.str s.query),(.str s.mutation)]
abbrev aHW (s:GSchema) (t:GType) (v0:GValue) (y7:GType×Bool) (st:Int) (l:List PV) (u:UP):Prop:=l=(aCh s t v0 y7 (i6 st))∧u=[]
abbrev aRb (s:GSchema) (t:GType) (v0:GValue) (y7:GType×Bool) (p:Unit⊕Unit) (r:EU):Prop:=elim p (fun (p:Unit)=>∃ (i_25:Int),r=(Ex.brk 0,(aCh s t v0 y7 (i6 i_25)),[])) (fun (p:Unit)=>∃ (i_26:Int),r=(Ex.ret,(aCh s t v0 y7 (i6 i_26)),[]))
noncomputable def zJ (s:GSchema) (t:GType) (v0:GValue) (alone:Bool):Option Bool :=
 bnd (rO t) fun y3 =>
 cnd (!y3)
 (some false)
 (cnd (v0.kind==8)
 (some true)
 (cnd (v0.kind==0)
 (some ((bits .and .i64 t.musts 1)==0))
 (bnd (aTK t) fun y7 =>
 jn (fun (t_11:Bool) =>
 (cnd y7.2
 (bnd (aY (rS s v0 y7) 0) fun e27_2=>elim e27_2
 (fun p27 =>
 some true)
 (fun p27 =>
 some false))
 (cnd (t.name==([73,110,116]:Str))
 (cnd (v0.kind==2)
 (cnd (decide (v0.n≥(-2147483648)))
 (some (decide (v0.n≤2147483647)))
 (some false))
 (some false))
 (cnd (t.name==([83,116,114,105,110,103]:Str))
 (some (v0.kind==4))
 (cnd (t.name==([66,111,111,108,101,97,110]:Str))
 (some (v0.kind==1))
 (cnd (t.name==([73,68]:Str))
 (cnd (v0.kind==4)
 (some true)
 (some (v0.kind==2)))
 (bnd (aAx s t.name) fun y30 =>
 cnd (y30.1.kind==4)
 (cnd (v0.kind==5)
 (bnd (aBi y30.1.parts v0.s) fun y33 =>
 some y33)
 (some false))
 (cnd (y30.1.kind==5)
 (cnd (v0.kind==7)
 (bnd (aC8 s y30.1.params v0.m) fun y35 =>
 some y35)
 (some false))
 (some false))))))))) fun k8 =>
 cnd y7.2
 (cnd (v0.kind != 6)
 (cnd alone
 (bnd (wE s y7.1 v0 true) fun y10 =>
 some y10)
 (some false))
 (k8 true))
 (k8 false))))
def aT0:Decs:={decs:=[(15,.bool),(29,(.tup [aWm,.bool])),(43,.bool),(58,(.ref xH)),(60,.bool),(103,(.tup [uK,.bool])),(117,.bool),(133,.bool)],loops:=[(12,[(9,3),(6,5),(5,3),(4,3)],⟨hZ,[],[(some 0,hZ,[]),(none,hZ,[])]⟩)]}
theorem aT1 (O:Orc) (LP:LBs) (s:GSchema) (t:GType) (v0:GValue) (alone:Bool):eW 192 aT0 Tryz.f192 O LP [(eS s),(eT t),(eV v0),(.bool alone)] []=aEw O LP s t v0 alone:=by kernel_rfl
theorem aLN (s:GSchema) (t:GType) (v0:GValue) (y7:GType×Bool):∀ st l u,aHW s t v0 y7 st l u→Imp (rS s v0 y7 st) (aEv O aF l u) (oE (aHW s t v0 y7) (aRb s t v0 y7)):=by
 rintro i_19 l u ⟨rfl,rfl⟩
 simp only [rS,aEv,zd,zr]
 refine zG ?_
 try simp only [evs,tys]
 apply Imp.cnd
 ·refine zX aI aC4 fun y22 _ => ?_
  try simp only [evs,tys]
  refine zC rfl fun y24 _ => ?_
  try simp only [zes,evs,tys]
  apply Imp.cnd
  ·exact zT ⟨i_19,zE⟩
  ·exact zN
 ·exact zB ⟨i_19,zE⟩
theorem aRc (s:GSchema) (t:GType) (v0:GValue) (alone:Bool):Imp (zJ s t v0 alone) (aEw O aF s t v0 alone) (Ri aA):=by
 simp only [zJ,aEw,zd,zr]
 try simp only [evs,tys]
 refine zC rfl fun y3 _ => ?_
 try simp only [zes,evs,tys]
 apply Imp.cnd
 ·exact zR
 ·apply Imp.cnd
  ·exact zR
  ·apply Imp.cnd
   ·exact zR
   ·refine zC rfl fun y7 _ => ?_
    try simp only [zes,evs,tys]
    refine Imp.jn (fun I k2 k1=>∀ (t_11:Bool),I (k2 t_11) (k1 t_11)) (fun t_11 => ?_) fun k8 k8t hk8 => ?_
    ·dsimp only
     try simp only [evs,tys]
     apply Imp.cnd
     ·refine zL (aLN s t v0 y7) ?_
      rintro (p | p) vy27 hy27
      ·try simp only [aN,aO]
       obtain ⟨i_25,rfl⟩:=hy27
       refine zH ?_
       try simp only [evs,tys]
       exact zR
      ·try simp only [aN,aO]
       obtain ⟨i_26,rfl⟩:=hy27
       refine Imp.exMiss rfl ?_
       refine zH ?_
       try simp only [evs,tys]
       exact zR
     ·apply Imp.cnd
      ·apply Imp.cnd
       ·apply Imp.cnd
        ·exact zR
        ·exact zR
       ·exact zR
      ·apply Imp.cnd
       ·exact zR
       ·apply Imp.cnd
        ·exact zR
        ·apply Imp.cnd
         ·apply Imp.cnd
          ·exact zR
          ·exact zR
         ·refine zC rfl fun y30 _ => ?_
          try simp only [zes,evs,tys]
          apply Imp.cnd
          ·apply Imp.cnd
           ·refine zC rfl fun y33 _ => ?_
            try simp only [zes,evs,tys]
            exact zR
           ·exact zR
          ·apply Imp.cnd
           ·apply Imp.cnd
            ·refine zC rfl fun y35 _ => ?_
             try simp only [zes,evs,tys]
             exact zR
            ·exact zR
           ·exact zR
    apply Imp.cnd
    ·apply Imp.cnd
     ·apply Imp.cnd
      ·refine zC rfl fun y10 _ => ?_
       try simp only [zes,evs,tys]
       exact zR
      ·exact zR
     ·first | exact hk8 _ | simpa only [evs,tys,evl] using hk8 _
    ·first | exact hk8 _ | simpa only [evs,tys,evl] using hk8 _
theorem aRd {s:GSchema} {t:GType} {v0:GValue} {alone:Bool} {r:Bool} (h:zJ s t v0 alone=some r):wE s t v0 alone=some r:=zV aD (aRc s t v0 alone) Tryz.func192 (aT1 _ _ s t v0 alone) h
abbrev dI:List Sh:=[st',(.ptr 0 2 0),n6,n6,n6,.str,sf,sf]
def zM (O:Orc) (LP:LBs):bM:=fun s5 s5u=>cnd (chkL dI s5) (cnd (chkU [] s5u)
 (cnd (decide ((iv s5 2)<(List.length (ev s5 6):Int)))
 (cnd ((iv s5 3)==6)
 (bnd (ix 5 (zs s5 6) (zn s5 2)) fun x12=>cnd (chk (.ref xH) x12)
 (aQ O 236 [(.agg [(zn (rf x12) 0),(zn (rf x12) 1),(zt (rf x12) 2),(zs (rf x12) 3),(zs (rf x12) 4)]),(zo s5 0)] fun x14=>cnd (chk st' x14)
 (some (.nrm,(pu (pu (rb dI s5) 0 (.slice (esV x14) [] true)) 2 (i6 (w6 ((iv s5 2)+1)))),[])) none) none)
 (some (.brk 0,(rb dI s5),[])))
 (some (.brk 0,(rb dI s5),[]))) none) none
abbrev aAG:List Sh:=[st',(.ptr 0 2 0),n6,n6,n6,.str,sf,sf]
def zO (O:Orc) (LP:LBs):bM:=fun s19 s19u=>cnd (chkL aAG s19) (cnd (chkU [] s19u)
 (cnd (decide ((iv s19 2)<(List.length (ev s19 7):Int)))
 (cnd ((iv s19 3)==7)
 (bnd (ix 6 (zs s19 7) (zn s19 2)) fun x26=>cnd (chk (.ref dU) x26)
 (aQ O 236 [(.agg [(zn (rf x26) 1),(zn (rf x26) 2),(zt (rf x26) 3),(zs (rf x26) 4),(zs (rf x26) 5)]),(zo s19 0)] fun x28=>cnd (chk st' x28)
 (some (.nrm,(pu (pu (rb aAG s19) 0 (.slice (esV x28) [] true)) 2 (i6 (w6 ((iv s19 2)+1)))),[])) none) none)
 (some (.brk 2,(rb aAG s19),[])))
 (some (.brk 2,(rb aAG s19),[]))) none) none
def aGP (O:Orc) (LP:LBs) (v0:GValue) (out0:List Str):Option (PV×UP) :=
 cnd (v0.kind==8)
 (aQ O 29 [(zq PV.str out0),(.str v0.s)] fun x1=>cnd (chk .bool x1)
 (cnd (!(bC x1))
 (bnd (apd 1 (zp PV.str out0) (.slice [(.str v0.s)] [] true)) fun x3=>cnd (chk st' x3)
 (bnd (LP (zM O LP) [(.slice (esV x3) [] true),(.ptr 0 2 0),(i6 0),(i6 v0.kind),(i6 v0.n),(.str v0.s),(zq aI v0.l),(zq aE v0.m)] []) fun y18 =>
 exIs y18.1 (some 0) (cnd (chkL dI y18.2.1) (cnd (chkU [] y18.2.2)
 (bnd (LP (zO O LP) [(zo y18.2.1 0),(.ptr 0 2 0),(i6 0),(zn y18.2.1 3),(zn y18.2.1 4),(zt y18.2.1 5),(zs y18.2.1 6),(zs y18.2.1 7)] []) fun y32 =>
 exIs y32.1 (some 2) (cnd (chkL dI y32.2.1) (cnd (chkU [] y32.2.2)
 (some ((zo y32.2.1 0),[])) none) none)
 (none)) none) none)
 (none)) none)
 (bnd (LP (zM O LP) [(zp PV.str out0),(.ptr 0 2 0),(i6 0),(i6 v0.kind),(i6 v0.n),(.str v0.s),(zq aI v0.l),(zq aE v0.m)] []) fun y46 =>
 exIs y46.1 (some 0) (cnd (chkL dI y46.2.1) (cnd (chkU [] y46.2.2)
 (bnd (LP (zO O LP) [(zo y46.2.1 0),(.ptr 0 2 0),(i6 0),(zn y46.2.1 3),(zn y46.2.1 4),(zt y46.2.1 5),(zs y46.2.1 6),(zs y46.2.1 7)] []) fun y60 =>
 exIs y60.1 (some 2) (cnd (chkL dI y60.2.1) (cnd (chkU [] y60.2.2)
 (some ((zo y60.2.1 0),[])) none) none)
 (none)) none) none)
 (none))) none)
 (bnd (LP (zM O LP) [(zp PV.str out0),(.ptr 0 2 0),(i6 0),(i6 v0.kind),(i6 v0.n),(.str v0.s),(zq aI v0.l),(zq aE v0.m)] []) fun y74 =>
 exIs y74.1 (some 0) (cnd (chkL dI y74.2.1) (cnd (chkU [] y74.2.2)
 (bnd (LP (zO O LP) [(zo y74.2.1 0),(.ptr 0 2 0),(i6 0),(zn y74.2.1 3),(zn y74.2.1 4),(zt y74.2.1 5),(zs y74.2.1 6),(zs y74.2.1 7)] []) fun y88 =>
 exIs y88.1 (some 2) (cnd (chkL dI y88.2.1) (cnd (chkU [] y88.2.2)
 (some ((zo y88.2.1 0),[])) none) none)
 (none)) none) none)
 (none))
noncomputable def dJ (v0:GValue):((List Str)×Int)→Option (((List Str)×Int)⊕((List Str)))
 | (out_10,i_11) =>
 cnd (decide (i_11<(List.length v0.l:Int)))
  (cnd (v0.kind==6)
  (bnd (nthI v0.l i_11) fun y13 =>
  bnd (aJ1 y13 out_10) fun y15 =>
  some (.inl (y15,(IntKind.wrap .i64 (i_11+1)))))
  (some (.inr out_10)))
  (some (.inr out_10))
abbrev aJ9 (v0:GValue) (a0 a1:PV):List PV:=[a0,(.ptr 0 2 0),a1,(i6 v0.kind),(i6 v0.n),(.str v0.s),(zq aI v0.l),(zq aE v0.m)]
abbrev aT2 (v0:GValue) (st:(List Str)×Int) (l:List PV) (u:UP):Prop:=l=(aJ9 v0 (zp PV.str st.1) (i6 st.2))∧u=[]
abbrev aT3 (v0:GValue) (p:(List Str)) (r:EU):Prop:=∃ (i_17:Int),r=(Ex.brk 0,(aJ9 v0 (zp PV.str p) (i6 i_17)),[])
noncomputable def dK (v0:GValue):((List Str)×Int)→Option (((List Str)×Int)⊕((List Str)))
 | (out_24,i_25) =>
 cnd (decide (i_25<(List.length v0.m:Int)))
  (cnd (v0.kind==7)
  (bnd (nthI v0.m i_25) fun y27 =>
  bnd (aJ1 y27.v out_24) fun y29 =>
  some (.inl (y29,(IntKind.wrap .i64 (i_25+1)))))
  (some (.inr out_24)))
  (some (.inr out_24))
abbrev aKa (v0:GValue) (a0 a1:PV):List PV:=[a0,(.ptr 0 2 0),a1,(i6 v0.kind),(i6 v0.n),(.str v0.s),(zq aI v0.l),(zq aE v0.m)]
abbrev aT4 (v0:GValue) (st:(List Str)×Int) (l:List PV) (u:UP):Prop:=l=(aKa v0 (zp PV.str st.1) (i6 st.2))∧u=[]
abbrev aT5 (v0:GValue) (p:(List Str)) (r:EU):Prop:=∃ (i_31:Int),r=(Ex.brk 2,(aKa v0 (zp PV.str p) (i6 i_31)),[])
noncomputable def aFK (v0:GValue) (out0:List Str):Option (List Str) :=
 cnd (v0.kind==8)
 (bnd (aBi out0 v0.s) fun y2 =>
 cnd (!y2)
 (bnd (tapp out0 [v0.s]) fun y4 =>
 bnd (aY (dJ v0) (y4,0)) fun out_16 =>
 bnd (aY (dK v0) (out_16,0)) fun out_30 =>
 some out_30)
 (bnd (aY (dJ v0) (out0,0)) fun out_44 =>
 bnd (aY (dK v0) (out_44,0)) fun out_58 =>
 some out_58))
 (bnd (aY (dJ v0) (out0,0)) fun out_72 =>
 bnd (aY (dK v0) (out_72,0)) fun out_86 =>
 some out_86)
def aXY:Decs:={decs:=[(14,.bool),(21,st'),(37,(.ref xH)),(40,st'),(56,(.ref dU)),(60,st')],loops:=[(4,[(2,5)],⟨dI,[],[(some 0,dI,[])]⟩),(8,[(2,5)],⟨dI,[],[(some 2,dI,[])]⟩)]}
theorem aXZ (O:Orc) (LP:LBs) (v0:GValue) (out0:List Str):eW 236 aXY Tryz.f236 O LP [(eV v0),(zp PV.str out0)] []=aGP O LP v0 out0:=by kernel_rfl
theorem aAH (v0:GValue):Lok (aT2 v0) (dJ v0) (zM O aF) (aT3 v0):=by
 rintro ⟨out_10,i_11⟩ l u ⟨rfl,rfl⟩
 simp only [dJ,zM,zd,zr]
 refine zG ?_
 try simp only [evs,tys]
 apply Imp.cnd
 ·apply Imp.cnd
  ·refine zX aI aC4 fun y13 _ => ?_
   try simp only [evs,tys]
   refine zC rfl fun y15 _ => ?_
   try simp only [zes,evs,tys]
   exact zN
  ·exact zB ⟨i_11,zE⟩
 ·exact zB ⟨i_11,zE⟩
theorem aAI (v0:GValue):Lok (aT4 v0) (dK v0) (zO O aF) (aT5 v0):=by
 rintro ⟨out_24,i_25⟩ l u ⟨rfl,rfl⟩
 simp only [dK,zO,zd,zr]
 refine zG ?_
 try simp only [evs,tys]
 apply Imp.cnd
 ·apply Imp.cnd
  ·refine zX aE fY fun y27 _ => ?_
   try simp only [evs,tys]
   refine zC rfl fun y29 _ => ?_
   try simp only [zes,evs,tys]
   exact zN
  ·exact zB ⟨i_25,zE⟩
 ·exact zB ⟨i_25,zE⟩
theorem aT6 (v0:GValue) (out0:List Str):Imp (aFK v0 out0) (aGP O aF v0 out0) (Ri eZ):=by
 simp only [aFK,aGP,zd,zr]
 try simp only [evs,tys]
 apply Imp.cnd
 ·refine zC rfl fun y2 _ => ?_
  try simp only [zes,evs,tys]
  apply Imp.cnd
  ·refine Imp.op (f:=fun a => .slice (List.map PV.str a) [] true) (fun a h=>aBg (enc:=PV.str) zI zI (fun a=>by first | rfl | simp only [evs,tys,evc]) h) (fun a=>rfl) fun y4 hy4 => ?_
   try simp only [evs,tys]
   refine zL (aAH v0) ?_
   rintro out_16 _ ⟨i_17,rfl⟩
   refine zH ?_
   try simp only [evs,tys]
   refine zL (aAI v0) ?_
   rintro out_30 _ ⟨i_31,rfl⟩
   refine zH ?_
   try simp only [evs,tys]
   exact zR
  ·refine zL (aAH v0) ?_
   rintro out_44 _ ⟨i_45,rfl⟩
   refine zH ?_
   try simp only [evs,tys]
   refine zL (aAI v0) ?_
   rintro out_58 _ ⟨i_59,rfl⟩
   refine zH ?_
   try simp only [evs,tys]
   exact zR
 ·refine zL (aAH v0) ?_
  rintro out_72 _ ⟨i_73,rfl⟩
  refine zH ?_
  try simp only [evs,tys]
  refine zL (aAI v0) ?_
  rintro out_86 _ ⟨i_87,rfl⟩
  refine zH ?_
  try simp only [evs,tys]
  exact zR
theorem aT7 {v0:GValue} {out0:List Str} {r:List Str} (h:aFK v0 out0=some r):aJ1 v0 out0=some r:=zV rN (aT6 v0 out0) Tryz.func236 (aXZ _ _ v0 out0) h
def aAJ (O:Orc) (LP:LBs) (s:Str):Option (PV×UP) :=
 jn (fun (i_4:Int) (t_5:Bool) (t_6:Bool) =>
 (aQ O 250 [(.str s),(i6 i_4)] fun x7=>cnd (chk n6 x7)
 (cnd ((intV x7)==0)
 (some ((.tuple [(i6 0),(i6 0)]),[]))
 (jn (fun (n_13:Int) (t_14:Bool) =>
 (jn (fun (i_22:Int) (kind_23:Int) (t_24:Bool) (t_25:Bool) (t_26:Bool) (t_27:Bool) =>
 (cnd (decide (i_22<(List.length s:Int)))
 (bnd (xA (.str s) (i6 i_22)) fun x28=>cnd (chk (.int .u8) x28)
 (cnd ((intV x28)==101)
 (jn (fun (k_35:Int) (t_36:Bool) (t_37:Bool) =>
 (aQ O 250 [(.str s),(i6 k_35)] fun x38=>cnd (chk n6 x38)
 (cnd (decide ((intV x38)>0))
 (aQ O 250 [(.str s),(i6 k_35)] fun x40=>cnd (chk n6 x40)
 (some ((.tuple [(i6 (w6 (k_35+(intV x40)))),(i6 4)]),[])) none)
 (some ((.tuple [(i6 i_22),(i6 kind_23)]),[]))) none)) fun k30 =>
 cnd (decide ((w6 (i_22+1))<(List.length s:Int)))
 (bnd (xA (.str s) (i6 (w6 (i_22+1)))) fun x31=>cnd (chk (.int .u8) x31)
 (cnd ((intV x31)==43)
 (k30 (w6 ((w6 (i_22+1))+1)) true true)
 (bnd (xA (.str s) (i6 (w6 (i_22+1)))) fun x33=>cnd (chk (.int .u8) x33)
 (cnd ((intV x33)==45)
 (k30 (w6 ((w6 (i_22+1))+1)) true true)
 (k30 (w6 (i_22+1)) true false)) none)) none)
 (k30 (w6 (i_22+1)) false false))
 (bnd (xA (.str s) (i6 i_22)) fun x42=>cnd (chk (.int .u8) x42)
 (cnd ((intV x42)==69)
 (jn (fun (k_49:Int) (t_50:Bool) (t_51:Bool) =>
 (aQ O 250 [(.str s),(i6 k_49)] fun x52=>cnd (chk n6 x52)
 (cnd (decide ((intV x52)>0))
 (aQ O 250 [(.str s),(i6 k_49)] fun x54=>cnd (chk n6 x54)
 (some ((.tuple [(i6 (w6 (k_49+(intV x54)))),(i6 4)]),[])) none)
 (some ((.tuple [(i6 i_22),(i6 kind_23)]),[]))) none)) fun k44 =>
 cnd (decide ((w6 (i_22+1))<(List.length s:Int)))
 (bnd (xA (.str s) (i6 (w6 (i_22+1)))) fun x45=>cnd (chk (.int .u8) x45)
 (cnd ((intV x45)==43)
 (k44 (w6 ((w6 (i_22+1))+1)) true true)
 (bnd (xA (.str s) (i6 (w6 (i_22+1)))) fun x47=>cnd (chk (.int .u8) x47)
 (cnd ((intV x47)==45)
 (k44 (w6 ((w6 (i_22+1))+1)) true true)
 (k44 (w6 (i_22+1)) true false)) none)) none)
 (k44 (w6 (i_22+1)) false false))
 (some ((.tuple [(i6 i_22),(i6 kind_23)]),[]))) none)) none)
 (some ((.tuple [(i6 i_22),(i6 kind_23)]),[])))) fun k15 =>
 cnd (decide ((w6 (i_4+n_13))<(List.length s:Int)))
 (bnd (xA (.str s) (i6 (w6 (i_4+n_13)))) fun x16=>cnd (chk (.int .u8) x16)
 (cnd ((intV x16)==46)
 (aQ O 250 [(.str s),(i6 (w6 ((w6 (i_4+n_13))+1)))] fun x18=>cnd (chk n6 x18)
 (cnd (decide ((intV x18)>0))
 (aQ O 250 [(.str s),(i6 (w6 ((w6 (i_4+n_13))+1)))] fun x20=>cnd (chk n6 x20)
 (k15 (w6 ((w6 ((w6 (i_4+n_13))+1))+(intV x20))) 4 true ((intV x16)==46) true true) none)
 (k15 (w6 (i_4+n_13)) 3 true ((intV x16)==46) true false)) none)
 (k15 (w6 (i_4+n_13)) 3 true ((intV x16)==46) false false)) none)
 (k15 (w6 (i_4+n_13)) 3 false false false false))) fun k10 =>
 bnd (xA (.str s) (i6 i_4)) fun x11=>cnd (chk (.int .u8) x11)
 (cnd ((intV x11)==48)
 (k10 1 true)
 (k10 (intV x7) false)) none)) none)) fun k1 =>
 cnd (decide ((0:Int)<(List.length s:Int)))
 (bnd (xA (.str s) (i6 0)) fun x2=>cnd (chk (.int .u8) x2)
 (cnd ((intV x2)==45)
 (k1 1 true true)
 (k1 0 true false)) none)
 (k1 0 false false)
noncomputable def rT (s:Str):Option (Int×Int) :=
 jn (fun (i_4:Int) (t_5:Bool) (t_6:Bool) =>
 (bnd (aB4 s i_4) fun y8 =>
 cnd (y8==0)
 (some (0,0))
 (jn (fun (n_13:Int) (t_14:Bool) =>
 (jn (fun (i_22:Int) (kind_23:Int) (t_24:Bool) (t_25:Bool) (t_26:Bool) (t_27:Bool) =>
 (cnd (decide (i_22<(List.length s:Int)))
 (bnd (nthI s i_22) fun y29 =>
 cnd ((y29.toNat:Int)==101)
 (jn (fun (k_35:Int) (t_36:Bool) (t_37:Bool) =>
 (bnd (aB4 s k_35) fun y39 =>
 cnd (decide (y39>0))
 (bnd (aB4 s k_35) fun y41 =>
 some ((IntKind.wrap .i64 (k_35+y41)),4))
 (some (i_22,kind_23)))) fun k30 =>
 cnd (decide ((IntKind.wrap .i64 (i_22+1))<(List.length s:Int)))
 (bnd (nthI s (IntKind.wrap .i64 (i_22+1))) fun y32 =>
 cnd ((y32.toNat:Int)==43)
 (k30 (IntKind.wrap .i64 ((IntKind.wrap .i64 (i_22+1))+1)) true true)
 (bnd (nthI s (IntKind.wrap .i64 (i_22+1))) fun y34 =>
 cnd ((y34.toNat:Int)==45)
 (k30 (IntKind.wrap .i64 ((IntKind.wrap .i64 (i_22+1))+1)) true true)
 (k30 (IntKind.wrap .i64 (i_22+1)) true false)))
 (k30 (IntKind.wrap .i64 (i_22+1)) false false))
 (bnd (nthI s i_22) fun y43 =>
 cnd ((y43.toNat:Int)==69)
 (jn (fun (k_49:Int) (t_50:Bool) (t_51:Bool) =>
 (bnd (aB4 s k_49) fun y53 =>
 cnd (decide (y53>0))
 (bnd (aB4 s k_49) fun y55 =>
 some ((IntKind.wrap .i64 (k_49+y55)),4))
 (some (i_22,kind_23)))) fun k44 =>
 cnd (decide ((IntKind.wrap .i64 (i_22+1))<(List.length s:Int)))
 (bnd (nthI s (IntKind.wrap .i64 (i_22+1))) fun y46 =>
 cnd ((y46.toNat:Int)==43)
 (k44 (IntKind.wrap .i64 ((IntKind.wrap .i64 (i_22+1))+1)) true true)
 (bnd (nthI s (IntKind.wrap .i64 (i_22+1))) fun y48 =>
 cnd ((y48.toNat:Int)==45)
 (k44 (IntKind.wrap .i64 ((IntKind.wrap .i64 (i_22+1))+1)) true true)
 (k44 (IntKind.wrap .i64 (i_22+1)) true false)))
 (k44 (IntKind.wrap .i64 (i_22+1)) false false))
 (some (i_22,kind_23))))
 (some (i_22,kind_23)))) fun k15 =>
 cnd (decide ((IntKind.wrap .i64 (i_4+n_13))<(List.length s:Int)))
 (bnd (nthI s (IntKind.wrap .i64 (i_4+n_13))) fun y17 =>
 cnd ((y17.toNat:Int)==46)
 (bnd (aB4 s (IntKind.wrap .i64 ((IntKind.wrap .i64 (i_4+n_13))+1))) fun y19 =>
 cnd (decide (y19>0))
 (bnd (aB4 s (IntKind.wrap .i64 ((IntKind.wrap .i64 (i_4+n_13))+1))) fun y21 =>
 k15 (IntKind.wrap .i64 ((IntKind.wrap .i64 ((IntKind.wrap .i64 (i_4+n_13))+1))+y21)) 4 true ((y17.toNat:Int)==46) true true)
 (k15 (IntKind.wrap .i64 (i_4+n_13)) 3 true ((y17.toNat:Int)==46) true false))
 (k15 (IntKind.wrap .i64 (i_4+n_13)) 3 true ((y17.toNat:Int)==46) false false))
 (k15 (IntKind.wrap .i64 (i_4+n_13)) 3 false false false false))) fun k10 =>
 bnd (nthI s i_4) fun y12 =>
 cnd ((y12.toNat:Int)==48)
 (k10 1 true)
 (k10 y8 false)))) fun k1 =>
 cnd (decide ((0:Int)<(List.length s:Int)))
 (bnd (nthI s 0) fun y3 =>
 cnd ((y3.toNat:Int)==45)
 (k1 1 true true)
 (k1 0 true false))
 (k1 0 false false)
def aOo:Decs:={decs:=[(15,(.int .u8)),(22,n6),(27,(.int .u8)),(39,(.int .u8)),(46,n6),(54,n6),(63,(.int .u8)),(68,(.int .u8)),(81,(.int .u8)),(86,(.int .u8)),(94,n6),(99,n6)]}
theorem aOq (O:Orc) (LP:LBs) (s:Str):eW 238 aOo Tryz.f238 O LP [(.str s)] []=aAJ O LP s:=by kernel_rfl
theorem aLO (s:Str):Imp (rT s) (aAJ O aF s) (Ri jM):=by
 simp only [rT,aAJ,zd,zr]
 try simp only [evs,tys]
 refine Imp.jn (fun I k2 k1=>∀ (i_4:Int) (t_5:Bool) (t_6:Bool),I (k2 i_4 t_5 t_6) (k1 i_4 t_5 t_6)) (fun i_4 t_5 t_6 => ?_) fun k1 k1t hk1 => ?_
 ·dsimp only
  try simp only [evs,tys]
  refine zC rfl fun y8 _ => ?_
  try simp only [zes,evs,tys]
  apply Imp.cnd
  ·exact zR
  ·refine Imp.jn (fun I k2 k1=>∀ (n_13:Int) (t_14:Bool),I (k2 n_13 t_14) (k1 n_13 t_14)) (fun n_13 t_14 => ?_) fun k10 k10t hk10 => ?_
   ·dsimp only
    try simp only [evs,tys]
    refine Imp.jn (fun I k2 k1=>∀ (i_22:Int) (kind_23:Int) (t_24:Bool) (t_25:Bool) (t_26:Bool) (t_27:Bool),I (k2 i_22 kind_23 t_24 t_25 t_26 t_27) (k1 i_22 kind_23 t_24 t_25 t_26 t_27)) (fun i_22 kind_23 t_24 t_25 t_26 t_27 => ?_) fun k15 k15t hk15 => ?_
    ·dsimp only
     try simp only [evs,tys]
     apply Imp.cnd
     ·refine Imp.op (f:=fun a => .int .u8 (a.toNat:Int)) (fun a h=>jJ h) (fun a=>rfl) fun y29 hy29 => ?_
      try simp only [evs,tys]
      apply Imp.cnd
      ·refine Imp.jn (fun I k2 k1=>∀ (k_35:Int) (t_36:Bool) (t_37:Bool),I (k2 k_35 t_36 t_37) (k1 k_35 t_36 t_37)) (fun k_35 t_36 t_37 => ?_) fun k30 k30t hk30 => ?_
       ·dsimp only
        try simp only [evs,tys]
        refine zC rfl fun y39 _ => ?_
        try simp only [zes,evs,tys]
        apply Imp.cnd
        ·refine zC rfl fun y41 _ => ?_
         try simp only [zes,evs,tys]
         exact zR
        ·exact zR
       apply Imp.cnd
       ·refine Imp.op (f:=fun a => .int .u8 (a.toNat:Int)) (fun a h=>jJ h) (fun a=>rfl) fun y32 hy32 => ?_
        try simp only [evs,tys]
        apply Imp.cnd
        ·first | exact hk30 _ _ _ | simpa only [evs,tys,evl] using hk30 _ _ _
        ·refine Imp.op (f:=fun a => .int .u8 (a.toNat:Int)) (fun a h=>jJ h) (fun a=>rfl) fun y34 hy34 => ?_
         try simp only [evs,tys]
         apply Imp.cnd
         ·first | exact hk30 _ _ _ | simpa only [evs,tys,evl] using hk30 _ _ _
         ·first | exact hk30 _ _ _ | simpa only [evs,tys,evl] using hk30 _ _ _
       ·first | exact hk30 _ _ _ | simpa only [evs,tys,evl] using hk30 _ _ _
      ·refine Imp.op (f:=fun a => .int .u8 (a.toNat:Int)) (fun a h=>jJ h) (fun a=>rfl) fun y43 hy43 => ?_
       try simp only [evs,tys]
       apply Imp.cnd
       ·refine Imp.jn (fun I k2 k1=>∀ (k_49:Int) (t_50:Bool) (t_51:Bool),I (k2 k_49 t_50 t_51) (k1 k_49 t_50 t_51)) (fun k_49 t_50 t_51 => ?_) fun k44 k44t hk44 => ?_
        ·dsimp only
         try simp only [evs,tys]
         refine zC rfl fun y53 _ => ?_
         try simp only [zes,evs,tys]
         apply Imp.cnd
         ·refine zC rfl fun y55 _ => ?_
          try simp only [zes,evs,tys]
          exact zR
         ·exact zR
        apply Imp.cnd
        ·refine Imp.op (f:=fun a => .int .u8 (a.toNat:Int)) (fun a h=>jJ h) (fun a=>rfl) fun y46 hy46 => ?_
         try simp only [evs,tys]
         apply Imp.cnd
         ·first | exact hk44 _ _ _ | simpa only [evs,tys,evl] using hk44 _ _ _
         ·refine Imp.op (f:=fun a => .int .u8 (a.toNat:Int)) (fun a h=>jJ h) (fun a=>rfl) fun y48 hy48 => ?_
          try simp only [evs,tys]
          apply Imp.cnd
          ·first | exact hk44 _ _ _ | simpa only [evs,tys,evl] using hk44 _ _ _
          ·first | exact hk44 _ _ _ | simpa only [evs,tys,evl] using hk44 _ _ _
        ·first | exact hk44 _ _ _ | simpa only [evs,tys,evl] using hk44 _ _ _
       ·exact zR
     ·exact zR
    apply Imp.cnd
    ·refine Imp.op (f:=fun a => .int .u8 (a.toNat:Int)) (fun a h=>jJ h) (fun a=>rfl) fun y17 hy17 => ?_
     try simp only [evs,tys]
     apply Imp.cnd
     ·refine zC rfl fun y19 _ => ?_
      try simp only [zes,evs,tys]
      apply Imp.cnd
      ·refine zC rfl fun y21 _ => ?_
       try simp only [zes,evs,tys]
       first | exact hk15 _ _ _ _ _ _ | simpa only [evs,tys,evl] using hk15 _ _ _ _ _ _
      ·first | exact hk15 _ _ _ _ _ _ | simpa only [evs,tys,evl] using hk15 _ _ _ _ _ _
     ·first | exact hk15 _ _ _ _ _ _ | simpa only [evs,tys,evl] using hk15 _ _ _ _ _ _
    ·first | exact hk15 _ _ _ _ _ _ | simpa only [evs,tys,evl] using hk15 _ _ _ _ _ _
   refine Imp.op (f:=fun a => .int .u8 (a.toNat:Int)) (fun a h=>jJ h) (fun a=>rfl) fun y12 hy12 => ?_
   try simp only [evs,tys]
   apply Imp.cnd
   ·first | exact hk10 _ _ | simpa only [evs,tys,evl] using hk10 _ _
   ·first | exact hk10 _ _ | simpa only [evs,tys,evl] using hk10 _ _
 apply Imp.cnd
 ·refine Imp.op (f:=fun a => .int .u8 (a.toNat:Int)) (fun a h=>jJ h) (fun a=>rfl) fun y3 hy3 => ?_
  try simp only [evs,tys]
  apply Imp.cnd
  ·first | exact hk1 _ _ _ | simpa only [evs,tys,evl] using hk1 _ _ _
  ·first | exact hk1 _ _ _ | simpa only [evs,tys,evl] using hk1 _ _ _
 ·first | exact hk1 _ _ _ | simpa only [evs,tys,evl] using hk1 _ _ _
theorem aLP {s:Str} {r:Int×Int} (h:rT s=some r):aM8 s=some r:=zV aHN (aLO s) Tryz.func238 (aOq _ _ s) h
abbrev lA:List Sh:=[.str,st',.bool,st',n6]
def aEx (O:Orc) (LP:LBs):bM:=fun s1 s1u=>cnd (chkL lA s1) (cnd (chkU [] s1u)
 (cnd (decide ((iv s1 4)<(List.length (sv s1 0):Int)))
 (aQ O 251 [(zt s1 0),(zn s1 4)] fun x8=>cnd (chk (.tup [n6,n6]) x8)
 (cnd ((intV (tv x8 1))==0)
 (some (.ret,[(zt s1 0),(.slice [] [] true),(.bool false),(zo s1 3),(zn s1 4)],[]))
 (bnd (apd 1 (zo s1 3) (.slice [(i6 (intV (tv x8 0)))] [] true)) fun x10=>cnd (chk st' x10)
 (some (.nrm,[(zt s1 0),(zo s1 1),(zb s1 2),(.slice (esV x10) [] true),(i6 (w6 ((iv s1 4)+(intV (tv x8 1)))))],[])) none)) none)
 (some (.brk 0,(rb lA s1),[]))) none) none
def aEy (O:Orc) (LP:LBs) (s:Str):Option (PV×UP) :=
 bnd (LP (aEx O LP) [(.str s),(.slice [] [] true),(.bool false),(.slice [] [] true),(i6 0)] []) fun y16 =>
 exIs y16.1 (some 0) (cnd (chkL lA y16.2.1) (cnd (chkU [] y16.2.2)
 (some ((.tuple [(zs y16.2.1 3),(.bool true)]),[])) none) none)
 (exIs y16.1 none (cnd (chkL lA y16.2.1) (cnd (chkU [] y16.2.2)
 (some ((.tuple [(zs y16.2.1 1),(zb y16.2.1 2)]),[])) none) none)
 (none))
noncomputable def wL (s:Str):((List Int)×Int)→Option (((List Int)×Int)⊕((List Int)⊕Unit))
 | (out_6,i_7) =>
 cnd (decide (i_7<(List.length s:Int)))
  (bnd (aTL s i_7) fun y9 =>
  cnd (y9.2==0)
  (some (.inr (.inr ())))
  (bnd (tapp out_6 [y9.1]) fun y11 =>
  some (.inl (y11,(IntKind.wrap .i64 (i_7+y9.2))))))
  (some (.inr (.inl out_6)))
abbrev aRe (s:Str) (st:(List Int)×Int) (l:List PV) (u:UP):Prop:=l=[(.str s),(.slice [] [] true),(.bool false),(.slice (List.map (PV.int .i64) st.1) [] true),(i6 st.2)]∧u=[]
abbrev aRf (s:Str) (p:(List Int)⊕Unit) (r:EU):Prop:=elim p (fun (p:(List Int))=>∃ (i_13:Int),r=(Ex.brk 0,[(.str s),(.slice [] [] true),(.bool false),(.slice (List.map (PV.int .i64) p) [] true),(i6 i_13)],[])) (fun q2=>(fun (p:Unit)=>∃ (out_14:List Int),∃ (i_15:Int),r=(Ex.ret,[(.str s),(.slice [] [] true),(.bool false),(.slice (List.map (PV.int .i64) out_14) [] true),(i6 i_15)],[])) q2)
noncomputable def zP (s:Str):Option ((List Int)×Bool) :=
 bnd (aY (wL s) ([],0)) fun e16_2=>elim e16_2
 (fun out_12 =>
 some (out_12,true))
 (fun p16 =>
 some (([]:List Int),false))
def aT8:Decs:={decs:=[(15,(.tup [n6,n6])),(23,st')],loops:=[(3,[],⟨lA,[],[(some 0,lA,[]),(none,lA,[])]⟩)]}
theorem aT9 (O:Orc) (LP:LBs) (s:Str):eW 239 aT8 Tryz.f239 O LP [(.str s)] []=aEy O LP s:=by kernel_rfl
theorem aLQ (s:Str):Lok (aRe s) (wL s) (aEx O aF) (aRf s):=by
 rintro ⟨out_6,i_7⟩ l u ⟨rfl,rfl⟩
 simp only [wL,aEx,zd,zr]
 refine zG ?_
 try simp only [evs,tys]
 apply Imp.cnd
 ·refine zC rfl fun y9 _ => ?_
  try simp only [zes,evs,tys]
  apply Imp.cnd
  ·exact zT ⟨out_6,i_7,zE⟩
  ·refine Imp.op (f:=fun a => .slice (List.map (PV.int .i64) a) [] true) (fun a h=>aBg (enc:=(PV.int .i64)) zI zI (fun a=>by first | rfl | simp only [evs,tys,evc]) h) (fun a=>rfl) fun y11 hy11 => ?_
   try simp only [evs,tys]
   exact zN
 ·exact zB ⟨i_7,zE⟩
theorem aRg (s:Str):Imp (zP s) (aEy O aF s) (Ri uM):=by
 simp only [zP,aEy,zd,zr]
 try simp only [evs,tys]
 refine zL (aLQ s) ?_
 rintro (out_12 | p) vy16 hy16
 ·try simp only [aN,aO]
  obtain ⟨i_13,rfl⟩:=hy16
  refine zH ?_
  try simp only [evs,tys]
  exact zR
 ·try simp only [aN,aO]
  obtain ⟨out_14,i_15,rfl⟩:=hy16
  refine Imp.exMiss rfl ?_
  refine zH ?_
  try simp only [evs,tys]
  exact zR
theorem aRh {s:Str} {r:(List Int)×Bool} (h:zP s=some r):aWq s=some r:=zV aXQ (aRg s) Tryz.func239 (aT9 _ _ s) h
def mZ (O:Orc) (LP:LBs) (s:GSchema) (d:GDoc):Option (PV×UP) :=
 aQ O 30 [(eS s)] fun x1=>cnd (chk .bool x1)
 (cnd (bC x1)
 (aQ O 31 [(eD d)] fun x3=>cnd (chk .bool x3)
 (some ((.bool (bC x3)),[])) none)
 (some ((.bool false),[]))) none
noncomputable def kI (s:GSchema) (d:GDoc):Option Bool :=
 bnd (aB5 s) fun y2 =>
 cnd y2
 (bnd (aB6 d) fun y4 =>
 some y4)
 (some false)
def aEz:Decs:={decs:=[(6,.bool),(9,.bool)]}
theorem aEA (O:Orc) (LP:LBs) (s:GSchema) (d:GDoc):eW 25 aEz Tryz.f25 O LP [(eS s),(eD d)] []=mZ O LP s d:=by kernel_rfl
theorem aDr (s:GSchema) (d:GDoc):Imp (kI s d) (mZ O aF s d) (Ri aA):=by
 simp only [kI,mZ,zd,zr]
 try simp only [evs,tys]
 refine zC rfl fun y2 _ => ?_
 try simp only [zes,evs,tys]
 apply Imp.cnd
 ·refine zC rfl fun y4 _ => ?_
  try simp only [zes,evs,tys]
  exact zR
 ·exact zR
theorem aDs {s:GSchema} {d:GDoc} {r:Bool} (h:kI s d=some r):sJ s d=some r:=zV aD (aDr s d) Tryz.func25 (aEA _ _ s d) h
theorem aDt {r:Bool} (n:Nat) (h:aQq Tryz.prog MT XT n 26 [] []=some (aA r,[])):dO=some r:=aQu (aAp aD) (bBN n h)
def xL (O:Orc) (LP:LBs) (o:GOp) (u0_5:Int) (u0_4:GDoc) (u0_3:GSchema):Option (PV×UP) :=
 aQ O 79 [(eS u0_3),(eD u0_4),(.agg [(i6 o.kind),(.str o.name),(zq aC o.vars),(zq aK o.dirs),(zq aG o.sels)]),(i6 u0_5)] fun x1=>cnd (chk .bool x1)
 (some ((.bool (!(bC x1))),[[(5,[(i6 u0_5)]),(4,[(zq aT u0_4.ops),(zq aH u0_4.frags)]),(3,[(zq aM u0_3.defs),(.str u0_3.query),(.str u0_3.mutation)])]])) none
noncomputable def tG (o:GOp) (u0_5:Int) (u0_4:GDoc) (u0_3:GSchema):Option Bool :=
 bnd (aJ2 u0_3 u0_4 o u0_5) fun y2 =>
 some (!y2)
def aLR:Decs:={decs:=[(10,.bool)]}
theorem aLS (O:Orc) (LP:LBs) (o:GOp) (u0_5:Int) (u0_4:GDoc) (u0_3:GSchema):eW 78 aLR Tryz.f78 O LP [(.agg [(i6 o.kind),(.str o.name),(zq aC o.vars),(zq aK o.dirs),(zq aG o.sels)]),(.ptr 1 3 0),(.ptr 1 4 0),(.ptr 1 5 0)] [[(5,[(i6 u0_5)]),(4,[(zq aT u0_4.ops),(zq aH u0_4.frags)]),(3,[(zq aM u0_3.defs),(.str u0_3.query),(.str u0_3.mutation)])]]=xL O LP o u0_5 u0_4 u0_3:=by kernel_rfl
theorem aKb (o:GOp) (u0_5:Int) (u0_4:GDoc) (u0_3:GSchema):Imp (tG o u0_5 u0_4 u0_3) (xL O aF o u0_5 u0_4 u0_3) (fun r v=>v=(aA r,(kV o u0_5 u0_4 u0_3 r))):=by
 simp only [tG,xL,zd,zr]
 try simp only [evs,tys]
 refine zC rfl fun y2 _ => ?_
 try simp only [zes,evs,tys]
 exact Imp.some (by first | rfl | simp only [zes,kV,evs,tys,evl])
theorem aKc {o:GOp} {u0_5:Int} {u0_4:GDoc} {u0_3:GSchema} {r:Bool} (h:tG o u0_5 u0_4 u0_3=some r):aEb o u0_5 u0_4 u0_3=some r:=zV aD (aKb o u0_5 u0_4 u0_3) Tryz.func78 (aLS _ _ o u0_5 u0_4 u0_3) h
abbrev uP:List Sh:=[sf,(.func 78 [] [(.ptr 1 3 0),(.ptr 1 4 0),(.ptr 1 5 0)]),n6,n6,n6]
def aOr (O:Orc) (LP:LBs):bM:=fun s1 s1u=>cnd (chkL uP s1) (cnd (chkU [[(5,[n6]),(4,[sf,sf]),(3,[sf,.str,.str])]] s1u)
 (cnd (decide ((iv s1 4)<(iv s1 3)))
 (bnd (ix 5 (zs s1 0) (zn s1 4)) fun x7=>cnd (chk (.ref shOp) x7)
 (bnd (O 78 [(.agg [(zn (rf x7) 0),(zt (rf x7) 1),(zs (rf x7) 2),(zs (rf x7) 3),(zs (rf x7) 4)]),(.ptr 2 3 0),(.ptr 2 4 0),(.ptr 2 5 0)] [[],[(5,[(zn (bx s1u 0 0) 0)]),(4,[(zs (bx s1u 0 1) 0),(zs (bx s1u 0 1) 1)]),(3,[(zs (bx s1u 0 2) 0),(zt (bx s1u 0 2) 1),(zt (bx s1u 0 2) 2)])]]) fun x9=>cnd (chkU [[],[(5,[n6]),(4,[sf,sf]),(3,[sf,.str,.str])]] x9.2) (cnd (chk .bool x9.1)
 (cnd (bC x9.1)
 (some (.ret,[(zs s1 0),(.func (.func 78) [] [(.ptr 1 3 0),(.ptr 1 4 0),(.ptr 1 5 0)]),(zn s1 4),(zn s1 3),(zn s1 4)],[[(5,[(zn (bx x9.2 1 0) 0)]),(4,[(zs (bx x9.2 1 1) 0),(zs (bx x9.2 1 1) 1)]),(3,[(zs (bx x9.2 1 2) 0),(zt (bx x9.2 1 2) 1),(zt (bx x9.2 1 2) 2)])]]))
 (some (.nrm,[(zs s1 0),(.func (.func 78) [] [(.ptr 1 3 0),(.ptr 1 4 0),(.ptr 1 5 0)]),(zn s1 2),(zn s1 3),(i6 (w6 ((iv s1 4)+1)))],[[(5,[(zn (bx x9.2 1 0) 0)]),(4,[(zs (bx x9.2 1 1) 0),(zs (bx x9.2 1 1) 1)]),(3,[(zs (bx x9.2 1 2) 0),(zt (bx x9.2 1 2) 1),(zt (bx x9.2 1 2) 2)])]]))) none) none) none)
 (some (.brk 0,(pu (rb uP s1) 1 (.func (.func 78) [] [(.ptr 1 3 0),(.ptr 1 4 0),(.ptr 1 5 0)])),[[(5,[(zn (bx s1u 0 0) 0)]),(4,[(zs (bx s1u 0 1) 0),(zs (bx s1u 0 1) 1)]),(3,[(zs (bx s1u 0 2) 0),(zt (bx s1u 0 2) 1),(zt (bx s1u 0 2) 2)])]]))) none) none
def aOs (O:Orc) (LP:LBs) (s:List GOp) (u0_5:Int) (u0_4:GDoc) (u0_3:GSchema):Option (PV×UP) :=
 bnd (LP (aOr O LP) [(zq aT s),(.func (.func 78) [] [(.ptr 1 3 0),(.ptr 1 4 0),(.ptr 1 5 0)]),(i6 0),(i6 (List.length (List.map aT s):Int)),(i6 0)] [[(5,[(i6 u0_5)]),(4,[(zq aT u0_4.ops),(zq aH u0_4.frags)]),(3,[(zq aM u0_3.defs),(.str u0_3.query),(.str u0_3.mutation)])]]) fun y14 =>
 exIs y14.1 (some 0) (cnd (chkL uP y14.2.1) (cnd (chkU [[(5,[n6]),(4,[sf,sf]),(3,[sf,.str,.str])]] y14.2.2)
 (some ((i6 (-1)),[[(5,[(zn (bx y14.2.2 0 0) 0)]),(4,[(zs (bx y14.2.2 0 1) 0),(zs (bx y14.2.2 0 1) 1)]),(3,[(zs (bx y14.2.2 0 2) 0),(zt (bx y14.2.2 0 2) 1),(zt (bx y14.2.2 0 2) 2)])]])) none) none)
 (exIs y14.1 none (cnd (chkL uP y14.2.1) (cnd (chkU [[(5,[n6]),(4,[sf,sf]),(3,[sf,.str,.str])]] y14.2.2)
 (some ((zn y14.2.1 2),[[(5,[(zn (bx y14.2.2 0 0) 0)]),(4,[(zs (bx y14.2.2 0 1) 0),(zs (bx y14.2.2 0 1) 1)]),(3,[(zs (bx y14.2.2 0 2) 0),(zt (bx y14.2.2 0 2) 1),(zt (bx y14.2.2 0 2) 2)])]])) none) none)
 (none))
noncomputable def zQ (s:List GOp) (u0_5:Int) (u0_4:GDoc) (u0_3:GSchema):Int→Option (Int⊕(Unit⊕Int))
 | t_6 =>
 cnd (decide (t_6<(List.length s:Int)))
  (bnd (nthI s t_6) fun y8 =>
  bnd (aEb y8 u0_5 u0_4 u0_3) fun y10 =>
  cnd y10
  (some (.inr (.inr t_6)))
  (some (.inl (IntKind.wrap .i64 (t_6+1)))))
  (some (.inr (.inl ())))
abbrev bAD (s:List GOp) (u0_5:Int) (u0_4:GDoc) (u0_3:GSchema) (st:Int) (l:List PV) (u:UP):Prop:=l=[(zq aT s),(.func (.func 78) [] [(.ptr 1 3 0),(.ptr 1 4 0),(.ptr 1 5 0)]),(i6 0),(i6 (List.length s:Int)),(i6 st)]∧u=[[(5,[(i6 u0_5)]),(4,[(zq aT u0_4.ops),(zq aH u0_4.frags)]),(3,[(zq aM u0_3.defs),(.str u0_3.query),(.str u0_3.mutation)])]]
abbrev bAE (s:List GOp) (u0_5:Int) (u0_4:GDoc) (u0_3:GSchema) (p:Unit⊕Int) (r:EU):Prop:=elim p (fun (p:Unit)=>∃ (t_11:Int),r=(Ex.brk 0,[(zq aT s),(.func (.func 78) [] [(.ptr 1 3 0),(.ptr 1 4 0),(.ptr 1 5 0)]),(i6 0),(i6 (List.length s:Int)),(i6 t_11)],[[(5,[(i6 u0_5)]),(4,[(zq aT u0_4.ops),(zq aH u0_4.frags)]),(3,[(zq aM u0_3.defs),(.str u0_3.query),(.str u0_3.mutation)])]])) (fun q2=>(fun (p:Int)=>∃ (t_13:Int),r=(Ex.ret,[(zq aT s),(.func (.func 78) [] [(.ptr 1 3 0),(.ptr 1 4 0),(.ptr 1 5 0)]),(i6 p),(i6 (List.length s:Int)),(i6 t_13)],[[(5,[(i6 u0_5)]),(4,[(zq aT u0_4.ops),(zq aH u0_4.frags)]),(3,[(zq aM u0_3.defs),(.str u0_3.query),(.str u0_3.mutation)])]])) q2)
noncomputable def aOt (s:List GOp) (u0_5:Int) (u0_4:GDoc) (u0_3:GSchema):Option Int :=
 bnd (aY (zQ s u0_5 u0_4 u0_3) 0) fun e14_2=>elim e14_2
 (fun p14 =>
 some (-1))
 (fun t_12 =>
 some t_12)
def bCh:Decs:={decs:=[(14,(.ref shOp)),(16,.bool)],ups:=[(16,[[],[(5,[n6]),(4,[sf,sf]),(3,[sf,.str,.str])]])],loops:=[(2,[],⟨uP,[[(5,[n6]),(4,[sf,sf]),(3,[sf,.str,.str])]],[(some 0,uP,[[(5,[n6]),(4,[sf,sf]),(3,[sf,.str,.str])]]),(none,uP,[[(5,[n6]),(4,[sf,sf]),(3,[sf,.str,.str])]])]⟩)]}
theorem bCi (O:Orc) (LP:LBs) (s:List GOp) (u0_5:Int) (u0_4:GDoc) (u0_3:GSchema):eW 142 bCh Tryz.f142 O LP [(zq aT s),(.func (.func 78) [] [(.ptr 1 3 0),(.ptr 1 4 0),(.ptr 1 5 0)])] [[(5,[(i6 u0_5)]),(4,[(zq aT u0_4.ops),(zq aH u0_4.frags)]),(3,[(zq aM u0_3.defs),(.str u0_3.query),(.str u0_3.mutation)])]]=aOs O LP s u0_5 u0_4 u0_3:=by kernel_rfl
theorem aUa (s:List GOp) (u0_5:Int) (u0_4:GDoc) (u0_3:GSchema):Lok (bAD s u0_5 u0_4 u0_3) (zQ s u0_5 u0_4 u0_3) (aOr O aF) (bAE s u0_5 u0_4 u0_3):=by
 rintro t_6 l u ⟨rfl,rfl⟩
 simp only [zQ,aOr,zd,zr]
 refine zG ?_
 try simp only [evs,tys]
 apply Imp.cnd
 ·refine zX aT aJ0 fun y8 _ => ?_
  try simp only [evs,tys]
  refine Imp.gcall (f:=aA) (fu:=fun a=>[]::kV y8 u0_5 u0_4 u0_3 a) (fun a h=>by first | exact fI rfl rfl (by first | rfl | (simp only [zes,tys];rfl)) (bN h) | (have h':=bN h;simp only [evs,tys,evl,kV] at h';exact fI rfl rfl (by first | rfl | (simp only [zes,tys];rfl)) h')) zK (fun a=>by first | rfl | (simp only [kV,evs,tys];first | rfl | (cases w<;>rfl))) fun y10 hy10 => ?_
  try simp only [aA,kV,evs,tys]
  apply Imp.cnd
  ·exact zT ⟨t_6,zE⟩
  ·exact zN
 ·exact zB ⟨t_6,zE⟩
theorem bAF (s:List GOp) (u0_5:Int) (u0_4:GDoc) (u0_3:GSchema):Imp (aOt s u0_5 u0_4 u0_3) (aOs O aF s u0_5 u0_4 u0_3) (fun r v=>v=(dP r,(aHO s u0_5 u0_4 u0_3 r))):=by
 simp only [aOt,aOs,zd,zr]
 try simp only [evs,tys]
 refine zL (aUa s u0_5 u0_4 u0_3) ?_
 rintro (p | t_12) vy14 hy14
 ·try simp only [aN,aO]
  obtain ⟨t_11,rfl⟩:=hy14
  refine zH ?_
  try simp only [evs,tys]
  exact Imp.some (by first | rfl | simp only [zes,aHO,evs,tys,evl])
 ·try simp only [aN,aO]
  obtain ⟨t_13,rfl⟩:=hy14
  refine Imp.exMiss rfl ?_
  refine zH ?_
  try simp only [evs,tys]
  exact Imp.some (by first | rfl | simp only [zes,aHO,evs,tys,evl])
theorem bAG {s:List GOp} {u0_5:Int} {u0_4:GDoc} {u0_3:GSchema} {r:Int} (h:aOt s u0_5 u0_4 u0_3=some r):bFm s u0_5 u0_4 u0_3=some r:=zV uN (bAF s u0_5 u0_4 u0_3) Tryz.func142 (bCi _ _ s u0_5 u0_4 u0_3) h
def iG (O:Orc) (LP:LBs) (s:List GOp) (u0_5:Int) (u0_4:GDoc) (u0_3:GSchema):Option (PV×UP) :=
 bnd (O 142 [(zq aT s),(.func (.func 78) [] [(.ptr 2 3 0),(.ptr 2 4 0),(.ptr 2 5 0)])] [[],[(5,[(i6 u0_5)]),(4,[(zq aT u0_4.ops),(zq aH u0_4.frags)]),(3,[(zq aM u0_3.defs),(.str u0_3.query),(.str u0_3.mutation)])]]) fun x1=>cnd (chkU [[],[(5,[n6]),(4,[sf,sf]),(3,[sf,.str,.str])]] x1.2) (cnd (chk n6 x1.1)
 (some ((.bool (decide ((intV x1.1)≥0))),[[(5,[(zn (bx x1.2 1 0) 0)]),(4,[(zs (bx x1.2 1 1) 0),(zs (bx x1.2 1 1) 1)]),(3,[(zs (bx x1.2 1 2) 0),(zt (bx x1.2 1 2) 1),(zt (bx x1.2 1 2) 2)])]])) none) none
noncomputable def fA (s:List GOp) (u0_5:Int) (u0_4:GDoc) (u0_3:GSchema):Option Bool :=
 bnd (bFm s u0_5 u0_4 u0_3) fun y2 =>
 some (decide (y2≥0))
def xM:Decs:={decs:=[(7,n6)],ups:=[(7,[[],[(5,[n6]),(4,[sf,sf]),(3,[sf,.str,.str])]])]}
theorem xN (O:Orc) (LP:LBs) (s:List GOp) (u0_5:Int) (u0_4:GDoc) (u0_3:GSchema):eW 77 xM Tryz.f77 O LP [(zq aT s),(.func (.func 78) [] [(.ptr 1 3 0),(.ptr 1 4 0),(.ptr 1 5 0)])] [[(5,[(i6 u0_5)]),(4,[(zq aT u0_4.ops),(zq aH u0_4.frags)]),(3,[(zq aM u0_3.defs),(.str u0_3.query),(.str u0_3.mutation)])]]=iG O LP s u0_5 u0_4 u0_3:=by kernel_rfl
theorem vN (s:List GOp) (u0_5:Int) (u0_4:GDoc) (u0_3:GSchema):Imp (fA s u0_5 u0_4 u0_3) (iG O aF s u0_5 u0_4 u0_3) (fun r v=>v=(aA r,(bY s u0_5 u0_4 u0_3 r))):=by
 simp only [fA,iG,zd,zr]
 try simp only [evs,tys]
 refine Imp.gcall (f:=dP) (fu:=fun a=>[]::aHO s u0_5 u0_4 u0_3 a) (fun a h=>by first | exact fI rfl rfl (by first | rfl | (simp only [zes,tys];rfl)) (bN h) | (have h':=bN h;simp only [evs,tys,evl,aHO] at h';exact fI rfl rfl (by first | rfl | (simp only [zes,tys];rfl)) h')) zK (fun a=>by first | rfl | (simp only [aHO,evs,tys];first | rfl | (cases w<;>rfl))) fun y2 hy2 => ?_
 try simp only [dP,aHO,evs,tys]
 exact Imp.some (by first | rfl | simp only [zes,bY,evs,tys,evl])
theorem vO {s:List GOp} {u0_5:Int} {u0_4:GDoc} {u0_3:GSchema} {r:Bool} (h:fA s u0_5 u0_4 u0_3=some r):pT s u0_5 u0_4 u0_3=some r:=zV aD (vN s u0_5 u0_4 u0_3) Tryz.func77 (xN _ _ s u0_5 u0_4 u0_3) h
def aCi (O:Orc) (LP:LBs) (s:GSchema) (d:GDoc) (n:Int):Option (PV×UP) :=
 cnd (decide (n≥18))
 (cnd (decide (n≤21))
 (bnd (O 77 [(zq aT d.ops),(.func (.func 78) [] [(.ptr 1 3 0),(.ptr 1 4 0),(.ptr 1 5 0)])] [[(5,[(i6 n)]),(4,[(zq aT d.ops),(zq aH d.frags)]),(3,[(zq aM s.defs),(.str s.query),(.str s.mutation)])]]) fun x1=>cnd (chkU [[(5,[n6]),(4,[sf,sf]),(3,[sf,.str,.str])]] x1.2) (cnd (chk .bool x1.1)
 (some ((.bool (!(bC x1.1))),[])) none) none)
 (some ((.bool false),[])))
 (some ((.bool false),[]))
noncomputable def qH (s:GSchema) (d:GDoc) (n:Int):Option Bool :=
 cnd (decide (n≥18))
 (cnd (decide (n≤21))
 (bnd (pT d.ops n d s) fun y2 =>
 some (!y2))
 (some false))
 (some false)
def aRi:Decs:={decs:=[(17,.bool)],ups:=[(17,[[(5,[n6]),(4,[sf,sf]),(3,[sf,.str,.str])]])]}
theorem aRj (O:Orc) (LP:LBs) (s:GSchema) (d:GDoc) (n:Int):eW 27 aRi Tryz.f27 O LP [(eS s),(eD d),(i6 n)] []=aCi O LP s d n:=by kernel_rfl
theorem aOu (s:GSchema) (d:GDoc) (n:Int):Imp (qH s d n) (aCi O aF s d n) (Ri aA):=by
 simp only [qH,aCi,zd,zr]
 try simp only [evs,tys]
 apply Imp.cnd
 ·apply Imp.cnd
  ·refine Imp.gcall (f:=aA) (fu:=fun a=>bY d.ops n d s a) (fun a h=>by first | exact bN h | (have h':=bN h;simp only [evs,tys,evl,bY] at h';exact h')) zK (fun a=>by first | rfl | (simp only [bY,evs,tys];first | rfl | (cases w<;>rfl))) fun y2 hy2 => ?_
   try simp only [aA,bY,evs,tys]
   exact zR
  ·exact zR
 ·exact zR
theorem aFL {s:GSchema} {d:GDoc} {n:Int} {r:Bool} (h:qH s d n=some r):yS s d n=some r:=zV aD (aOu s d n) Tryz.func27 (aRj _ _ s d n) h
def aGQ (O:Orc) (LP:LBs) (s:GSchema) (o:GOp):Option (PV×UP) :=
 cnd (o.kind==1)
 (some ((.str s.mutation),[]))
 (some ((.str s.query),[]))
noncomputable def aFM (s:GSchema) (o:GOp):Option Str :=
 cnd (o.kind==1)
 (some s.mutation)
 (some s.query)
def aX0:Decs:={}
theorem aX1 (O:Orc) (LP:LBs) (s:GSchema) (o:GOp):eW 116 aX0 Tryz.f116 O LP [(eS s),(.agg [(i6 o.kind),(.str o.name),(zq aC o.vars),(zq aK o.dirs),(zq aG o.sels)])] []=aGQ O LP s o:=by kernel_rfl
theorem aUb (s:GSchema) (o:GOp):Imp (aFM s o) (aGQ O aF s o) (Ri aAw):=by
 simp only [aFM,aGQ,zd,zr]
 try simp only [evs,tys]
 apply Imp.cnd
 ·exact zR
 ·exact zR
theorem aUc {s:GSchema} {o:GOp} {r:Str} (h:aFM s o=some r):aTJ s o=some r:=zV aQN (aUb s o) Tryz.func116 (aX1 _ _ s o) h
abbrev nW:List Sh:=[.str,sf,st',(.ptr 0 4 0),n6,sf,.str,.str]
def aEB (O:Orc) (LP:LBs):bM:=fun s1 s1u=>cnd (chkL nW s1) (cnd (chkU [] s1u)
 (cnd (decide ((iv s1 4)<(List.length (ev s1 1):Int)))
 (bnd (ix 7 (zs s1 1) (zn s1 4)) fun x16=>cnd (chk (.ref mG) x16)
 (bnd (apd 8 (zo s1 2) (.slice [(.agg [(zt s1 0),(zn (rf x16) 0),(zt (rf x16) 1),(zt (rf x16) 2),(zs (rf x16) 3),(zs (rf x16) 4),(zt (rf x16) 5),(zs (rf x16) 6)])] [] true)) fun x18=>cnd (chk st' x18)
 (bnd (ix 7 (zs s1 1) (zn s1 4)) fun x20=>cnd (chk (.ref mG) x20)
 (aQ O 184 [(.agg [(zs s1 5),(zt s1 6),(zt s1 7)]),(zt s1 0),(.agg [(zn (rf x20) 0),(zt (rf x20) 1),(zt (rf x20) 2),(zs (rf x20) 3),(zs (rf x20) 4),(zt (rf x20) 5),(zs (rf x20) 6)])] fun x22=>cnd (chk .str x22)
 (bnd (ix 7 (zs s1 1) (zn s1 4)) fun x24=>cnd (chk (.ref mG) x24)
 (aQ O 115 [(.agg [(zs s1 5),(zt s1 6),(zt s1 7)]),(.str (strV x22)),(zs (rf x24) 6),(.slice (esV x18) [] true)] fun x26=>cnd (chk st' x26)
 (some (.nrm,(pu (pu (rb nW s1) 2 (.slice (esV x26) [] true)) 4 (i6 (w6 ((iv s1 4)+1)))),[])) none) none) none) none) none) none)
 (some (.brk 0,(rb nW s1),[]))) none) none
def aEC (O:Orc) (LP:LBs) (s:GSchema) (typ:Str) (l0:List GSel) (out0:List GSeineref13Spot):Option (PV×UP) :=
 bnd (LP (aEB O LP) [(.str typ),(zq aG l0),(zp aL out0),(.ptr 0 4 0),(i6 0),(zq aM s.defs),(.str s.query),(.str s.mutation)] []) fun y30 =>
 exIs y30.1 (some 0) (cnd (chkL nW y30.2.1) (cnd (chkU [] y30.2.2)
 (some ((zo y30.2.1 2),[])) none) none)
 (none)
noncomputable def lB (s:GSchema) (typ:Str) (l0:List GSel):((List GSeineref13Spot)×Int)→Option (((List GSeineref13Spot)×Int)⊕((List GSeineref13Spot)))
 | (out_14,i_15) =>
 cnd (decide (i_15<(List.length l0:Int)))
  (bnd (nthI l0 i_15) fun y17 =>
  bnd (tapp out_14 [(GSeineref13Spot.mk typ y17)]) fun y19 =>
  bnd (nthI l0 i_15) fun y21 =>
  bnd (aJ3 s typ y21) fun y23 =>
  bnd (nthI l0 i_15) fun y25 =>
  bnd (aFH s y23 y25.sels y19) fun y27 =>
  some (.inl (y27,(IntKind.wrap .i64 (i_15+1)))))
  (some (.inr out_14))
abbrev aRk (s:GSchema) (typ:Str) (l0:List GSel) (st:(List GSeineref13Spot)×Int) (l:List PV) (u:UP):Prop:=l=[(.str typ),(zq aG l0),(zp aL st.1),(.ptr 0 4 0),(i6 st.2),(zq aM s.defs),(.str s.query),(.str s.mutation)]∧u=[]
abbrev aRl (s:GSchema) (typ:Str) (l0:List GSel) (p:(List GSeineref13Spot)) (r:EU):Prop:=(fun (p:(List GSeineref13Spot))=>∃ (i_29:Int),r=(Ex.brk 0,[(.str typ),(zq aG l0),(zp aL p),(.ptr 0 4 0),(i6 i_29),(zq aM s.defs),(.str s.query),(.str s.mutation)],[])) p
noncomputable def zS (s:GSchema) (typ:Str) (l0:List GSel) (out0:List GSeineref13Spot):Option (List GSeineref13Spot) :=
 bnd (aY (lB s typ l0) (out0,0)) fun out_28 =>
 some out_28
def aUd:Decs:={decs:=[(20,(.ref mG)),(24,st'),(30,(.ref mG)),(32,.str),(35,(.ref mG)),(39,st')],loops:=[(2,[(4,3)],⟨nW,[],[(some 0,nW,[])]⟩)]}
theorem aUe (O:Orc) (LP:LBs) (s:GSchema) (typ:Str) (l0:List GSel) (out0:List GSeineref13Spot):eW 115 aUd Tryz.f115 O LP [(eS s),(.str typ),(zq aG l0),(zp aL out0)] []=aEC O LP s typ l0 out0:=by kernel_rfl
theorem aLT (s:GSchema) (typ:Str) (l0:List GSel):Lok (aRk s typ l0) (lB s typ l0) (aEB O aF) (aRl s typ l0):=by
 rintro ⟨out_14,i_15⟩ l u ⟨rfl,rfl⟩
 simp only [lB,aEB,zd,zr]
 refine zG ?_
 try simp only [evs,tys]
 apply Imp.cnd
 ·refine zX aG gU fun y17 _ => ?_
  try simp only [evs,tys]
  refine Imp.op (f:=fun a => .slice (List.map aL a) [] true) (fun a h=>aBg (enc:=aL) zI zI (fun a=>by first | rfl | simp only [evs,tys,evc]) h) (fun a=>rfl) fun y19 hy19 => ?_
  try simp only [evs,tys]
  refine zX aG gU fun y21 _ => ?_
  try simp only [evs,tys]
  refine zC rfl fun y23 _ => ?_
  try simp only [zes,evs,tys]
  refine zX aG gU fun y25 _ => ?_
  try simp only [evs,tys]
  refine zC rfl fun y27 _ => ?_
  try simp only [zes,evs,tys]
  exact zN
 ·exact zB ⟨i_15,zE⟩
theorem aRm (s:GSchema) (typ:Str) (l0:List GSel) (out0:List GSeineref13Spot):Imp (zS s typ l0 out0) (aEC O aF s typ l0 out0) (Ri aB3):=by
 simp only [zS,aEC,zd,zr]
 try simp only [evs,tys]
 refine zL (aLT s typ l0) ?_
 rintro out_28 _ ⟨i_29,rfl⟩
 refine zH ?_
 try simp only [evs,tys]
 exact zR
theorem aHX {s:GSchema} {typ:Str} {l0:List GSel} {out0:List GSeineref13Spot} {r:List GSeineref13Spot} (h:zS s typ l0 out0=some r):aFH s typ l0 out0=some r:=zV aXR (aRm s typ l0 out0) Tryz.func115 (aUe _ _ s typ l0 out0) h
def xO (O:Orc) (LP:LBs):bM:=fun s1 s1u=>cnd (chkL [sf,st',n6] s1) (cnd (chkU [] s1u)
 (cnd (decide ((iv s1 2)<(List.length (ev s1 0):Int)))
 (bnd (ix 10 (zs s1 0) (zn s1 2)) fun x8=>cnd (chk (.ref eY) x8)
 (bnd (apd 1 (zo s1 1) (.slice [(zt (rf x8) 0)] [] true)) fun x10=>cnd (chk st' x10)
 (some (.nrm,[(zs s1 0),(.slice (esV x10) [] true),(i6 (w6 ((iv s1 2)+1)))],[])) none) none)
 (some (.brk 0,[(zs s1 0),(zo s1 1),(zn s1 2)],[]))) none) none
def xP (O:Orc) (LP:LBs) (l0:List GVarDef):Option (PV×UP) :=
 bnd (LP (xO O LP) [(zq aC l0),(.slice [] [] true),(i6 0)] []) fun y14 =>
 exIs y14.1 (some 0) (cnd (chkL [sf,st',n6] y14.2.1) (cnd (chkU [] y14.2.2)
 (some ((zs y14.2.1 1),[])) none) none)
 (none)
noncomputable def iQ (l0:List GVarDef):((List Str)×Int)→Option (((List Str)×Int)⊕((List Str)))
 | (out_6,i_7) =>
 cnd (decide (i_7<(List.length l0:Int)))
  (bnd (nthI l0 i_7) fun y9 =>
  bnd (tapp out_6 [y9.name]) fun y11 =>
  some (.inl (y11,(IntKind.wrap .i64 (i_7+1)))))
  (some (.inr out_6))
abbrev aKd (l0:List GVarDef) (st:(List Str)×Int) (l:List PV) (u:UP):Prop:=l=[(zq aC l0),(zp PV.str st.1),(i6 st.2)]∧u=[]
abbrev aKe (l0:List GVarDef) (p:(List Str)) (r:EU):Prop:=(fun (p:(List Str))=>∃ (i_13:Int),r=(Ex.brk 0,[(zq aC l0),(zp PV.str p),(i6 i_13)],[])) p
noncomputable def tH (l0:List GVarDef):Option (List Str) :=
 bnd (aY (iQ l0) ([],0)) fun out_12 =>
 some out_12
def aLU:Decs:={decs:=[(14,(.ref eY)),(18,st')],loops:=[(3,[],⟨[sf,st',n6],[],[(some 0,[sf,st',n6],[])]⟩)]}
theorem aLV (O:Orc) (LP:LBs) (l0:List GVarDef):eW 126 aLU Tryz.f126 O LP [(zq aC l0)] []=xP O LP l0:=by kernel_rfl
theorem aGR (l0:List GVarDef):Lok (aKd l0) (iQ l0) (xO O aF) (aKe l0):=by
 rintro ⟨out_6,i_7⟩ l u ⟨rfl,rfl⟩
 simp only [iQ,xO,zd,zr]
 refine zG ?_
 try simp only [evs,tys]
 apply Imp.cnd
 ·refine zX aC jL fun y9 _ => ?_
  try simp only [evs,tys]
  refine Imp.op (f:=fun a => .slice (List.map PV.str a) [] true) (fun a h=>aBg (enc:=PV.str) zI zI (fun a=>by first | rfl | simp only [evs,tys,evc]) h) (fun a=>rfl) fun y11 hy11 => ?_
  try simp only [evs,tys]
  exact zN
 ·exact zB ⟨i_7,zE⟩
theorem aKf (l0:List GVarDef):Imp (tH l0) (xP O aF l0) (Ri cO):=by
 simp only [tH,xP,zd,zr]
 try simp only [evs,tys]
 refine zL (aGR l0) ?_
 rintro out_12 _ ⟨i_13,rfl⟩
 refine zH ?_
 try simp only [evs,tys]
 exact zR
theorem aKg {l0:List GVarDef} {r:List Str} (h:tH l0=some r):aEc l0=some r:=zV lO (aKf l0) Tryz.func126 (aLV _ _ l0) h
abbrev qI:List Sh:=[(.ptr 0 2 0),st',sf,n6,sf,sf]
def aGS (O:Orc) (LP:LBs):bM:=fun s5 s5u=>cnd (chkL qI s5) (cnd (chkU [] s5u)
 (cnd (decide ((iv s5 3)<(List.length (ev s5 2):Int)))
 (bnd (ix 1 (zs s5 2) (zn s5 3)) fun x14=>cnd (chk (.ref .str) x14)
 (aQ O 113 [(.agg [(zs s5 4),(zs s5 5)]),(.str (strV (refV x14)))] fun x16=>cnd (chk (.tup [gH,.bool]) x16)
 (aQ O 189 [(zs (tg x16 0) 3),(zo s5 1)] fun x18=>cnd (chk st' x18)
 (some (.nrm,(pu (pu (rb qI s5) 1 (.slice (esV x18) [] true)) 3 (i6 (w6 ((iv s5 3)+1)))),[])) none) none) none)
 (some (.brk 0,(rb qI s5),[]))) none) none
def aGT (O:Orc) (LP:LBs) (d:GDoc) (l0:List GSel):Option (PV×UP) :=
 aQ O 189 [(zq aG l0),(.slice [] [] true)] fun x1=>cnd (chk st' x1)
 (aQ O 114 [(eD d),(zq aG l0)] fun x3=>cnd (chk sf x3)
 (bnd (LP (aGS O LP) [(.ptr 0 2 0),(.slice (esV x1) [] true),(.slice (esV x3) [] false),(i6 0),(zq aT d.ops),(zq aH d.frags)] []) fun y22 =>
 exIs y22.1 (some 0) (cnd (chkL qI y22.2.1) (cnd (chkU [] y22.2.2)
 (aQ O 190 [(zs y22.2.1 1)] fun x23=>cnd (chk sf x23)
 (some ((.slice (esV x23) [] false),[])) none) none) none)
 (none)) none) none
noncomputable def qJ (d:GDoc) (y4:List Str):((List Str)×Int)→Option (((List Str)×Int)⊕((List Str)))
 | (out_12,i_13) =>
 cnd (decide (i_13<(List.length y4:Int)))
  (bnd (nthI y4 i_13) fun y15 =>
  bnd (aOd d y15) fun y17 =>
  bnd (qE y17.1.sels out_12) fun y19 =>
  some (.inl (y19,(IntKind.wrap .i64 (i_13+1)))))
  (some (.inr out_12))
abbrev aUf (d:GDoc) (y4:List Str) (st:(List Str)×Int) (l:List PV) (u:UP):Prop:=l=[(.ptr 0 2 0),(zp PV.str st.1),(zq PV.str y4),(i6 st.2),(zq aT d.ops),(zq aH d.frags)]∧u=[]
abbrev aUg (d:GDoc) (y4:List Str) (p:(List Str)) (r:EU):Prop:=(fun (p:(List Str))=>∃ (i_21:Int),r=(Ex.brk 0,[(.ptr 0 2 0),(zp PV.str p),(zq PV.str y4),(i6 i_21),(zq aT d.ops),(zq aH d.frags)],[])) p
noncomputable def aFN (d:GDoc) (l0:List GSel):Option (List Str) :=
 bnd (qE l0 ([]:List Str)) fun y2 =>
 bnd (aIZ d l0) fun y4 =>
 bnd (aY (qJ d y4) (y2,0)) fun out_20 =>
 bnd (aJ4 out_20) fun y24 =>
 some y24
def aX2:Decs:={decs:=[(11,st'),(14,sf),(25,(.ref .str)),(27,(.tup [gH,.bool])),(33,st'),(35,sf)],loops:=[(4,[(2,2)],⟨qI,[],[(some 0,qI,[])]⟩)]}
theorem aX3 (O:Orc) (LP:LBs) (d:GDoc) (l0:List GSel):eW 127 aX2 Tryz.f127 O LP [(eD d),(zq aG l0)] []=aGT O LP d l0:=by kernel_rfl
theorem aOv (d:GDoc) (y4:List Str):Lok (aUf d y4) (qJ d y4) (aGS O aF) (aUg d y4):=by
 rintro ⟨out_12,i_13⟩ l u ⟨rfl,rfl⟩
 simp only [qJ,aGS,zd,zr]
 refine zG ?_
 try simp only [evs,tys]
 apply Imp.cnd
 ·refine zX PV.str (fun _=>rfl) fun y15 _ => ?_
  try simp only [evs,tys]
  refine zC rfl fun y17 _ => ?_
  try simp only [zes,evs,tys]
  refine zC rfl fun y19 _ => ?_
  try simp only [zes,evs,tys]
  exact zN
 ·exact zB ⟨i_13,zE⟩
theorem aUh (d:GDoc) (l0:List GSel):Imp (aFN d l0) (aGT O aF d l0) (Ri cO):=by
 simp only [aFN,aGT,zd,zr]
 try simp only [evs,tys]
 refine zC rfl fun y2 _ => ?_
 try simp only [zes,evs,tys]
 refine zC rfl fun y4 _ => ?_
 try simp only [zes,evs,tys]
 refine zL (aOv d y4) ?_
 rintro out_20 _ ⟨i_21,rfl⟩
 refine zH ?_
 try simp only [evs,tys]
 refine zC rfl fun y24 _ => ?_
 try simp only [zes,evs,tys]
 exact zR
theorem aUi {d:GDoc} {l0:List GSel} {r:List Str} (h:aFN d l0=some r):aGH d l0=some r:=zV lO (aUh d l0) Tryz.func127 (aX3 _ _ d l0) h
abbrev lC:List Sh:=[sf,.bool,n6,n6]
def aED (O:Orc) (LP:LBs):bM:=fun s16 s16u=>cnd (chkL lC s16) (cnd (chkU [] s16u)
 (cnd (decide ((iv s16 3)<(iv s16 2)))
 (bnd (ix 1 (zs s16 0) (zn s16 2)) fun x22=>cnd (chk (.ref .str) x22)
 (bnd (ix 1 (zs s16 0) (zn s16 3)) fun x24=>cnd (chk (.ref .str) x24)
 (cnd ((strV (refV x22))==(strV (refV x24)))
 (some (.ret,(pu (rb lC s16) 1 (.bool true)),[]))
 (some (.nrm,(pu (rb lC s16) 3 (i6 (w6 ((iv s16 3)+1)))),[]))) none) none)
 (some (.brk 2,(rb lC s16),[]))) none) none
def aEE (O:Orc) (LP:LBs):bM:=fun s1 s1u=>cnd (chkL [sf,.bool,n6] s1) (cnd (chkU [] s1u)
 (cnd (decide ((iv s1 2)<(List.length (ev s1 0):Int)))
 (bnd (LP (aED O LP) [(zs s1 0),(zb s1 1),(zn s1 2),(i6 0)] []) fun y28 =>
 exIs y28.1 (some 2) (cnd (chkL [sf,.bool,n6,n6] y28.2.1) (cnd (chkU [] y28.2.2)
 (some (.nrm,[(zs y28.2.1 0),(zb y28.2.1 1),(i6 (w6 ((iv y28.2.1 2)+1)))],[])) none) none)
 (exIs y28.1 none (cnd (chkL [sf,.bool,n6,n6] y28.2.1) (cnd (chkU [] y28.2.2)
 (some (.ret,[(zs y28.2.1 0),(zb y28.2.1 1),(zn y28.2.1 2)],[])) none) none)
 (none)))
 (some (.brk 0,[(zs s1 0),(zb s1 1),(zn s1 2)],[]))) none) none
def aEF (O:Orc) (LP:LBs) (l0:List Str):Option (PV×UP) :=
 bnd (LP (aEE O LP) [(zq PV.str l0),(.bool false),(i6 0)] []) fun y31 =>
 exIs y31.1 (some 0) (cnd (chkL [sf,.bool,n6] y31.2.1) (cnd (chkU [] y31.2.2)
 (some ((.bool false),[])) none) none)
 (exIs y31.1 none (cnd (chkL [sf,.bool,n6] y31.2.1) (cnd (chkU [] y31.2.2)
 (some ((zb y31.2.1 1),[])) none) none)
 (none))
noncomputable def lD (l0:List Str) (i_15:Int):Int→Option (Int⊕(Unit⊕Unit))
 | k_21 =>
 cnd (decide (k_21<i_15))
  (bnd (nthI l0 i_15) fun y23 =>
  bnd (nthI l0 k_21) fun y25 =>
  cnd (y23==y25)
  (some (.inr (.inr ())))
  (some (.inl (IntKind.wrap .i64 (k_21+1)))))
  (some (.inr (.inl ())))
abbrev aRn (l0:List Str) (i_15:Int) (st:Int) (l:List PV) (u:UP):Prop:=l=[(zq PV.str l0),(.bool false),(i6 i_15),(i6 st)]∧u=[]
abbrev aRo (l0:List Str) (i_15:Int) (p:Unit⊕Unit) (r:EU):Prop:=elim p (fun (p:Unit)=>∃ (k_26:Int),r=(Ex.brk 2,[(zq PV.str l0),(.bool false),(i6 i_15),(i6 k_26)],[])) (fun q2=>(fun (p:Unit)=>∃ (k_27:Int),r=(Ex.ret,[(zq PV.str l0),(.bool true),(i6 i_15),(i6 k_27)],[])) q2)
noncomputable def nX (l0:List Str):Int→Option (Int⊕(Unit⊕Unit))
 | i_15 =>
 cnd (decide (i_15<(List.length l0:Int)))
  (bnd (aY (lD l0 i_15) 0) fun e28_2=>elim e28_2
  (fun p28 =>
  some (.inl (IntKind.wrap .i64 (i_15+1))))
  (fun p28 =>
  some (.inr (.inr ()))))
  (some (.inr (.inl ())))
abbrev aRp (l0:List Str) (st:Int) (l:List PV) (u:UP):Prop:=l=[(zq PV.str l0),(.bool false),(i6 st)]∧u=[]
abbrev aRq (l0:List Str) (p:Unit⊕Unit) (r:EU):Prop:=elim p (fun (p:Unit)=>∃ (i_29:Int),r=(Ex.brk 0,[(zq PV.str l0),(.bool false),(i6 i_29)],[])) (fun q2=>(fun (p:Unit)=>∃ (i_30:Int),r=(Ex.ret,[(zq PV.str l0),(.bool true),(i6 i_30)],[])) q2)
noncomputable def aDd (l0:List Str):Option Bool :=
 bnd (aY (nX l0) 0) fun e31_2=>elim e31_2
 (fun p31 =>
 some false)
 (fun p31 =>
 some true)
def aUj:Decs:={decs:=[(18,(.ref .str)),(22,(.ref .str))],loops:=[(2,[],⟨[sf,.bool,n6],[],[(some 0,[sf,.bool,n6],[]),(none,[sf,.bool,n6],[])]⟩),(5,[],⟨lC,[],[(some 2,lC,[]),(none,lC,[])]⟩)]}
theorem aUk (O:Orc) (LP:LBs) (l0:List Str):eW 50 aUj Tryz.f50 O LP [(zq PV.str l0)] []=aEF O LP l0:=by kernel_rfl
theorem aLW (l0:List Str) (i_15:Int):Lok (aRn l0 i_15) (lD l0 i_15) (aED O aF) (aRo l0 i_15):=by
 rintro k_21 l u ⟨rfl,rfl⟩
 simp only [lD,aED,zd,zr]
 refine zG ?_
 try simp only [evs,tys]
 apply Imp.cnd
 ·refine zX PV.str (fun _=>rfl) fun y23 _ => ?_
  try simp only [evs,tys]
  refine zX PV.str (fun _=>rfl) fun y25 _ => ?_
  try simp only [evs,tys]
  apply Imp.cnd
  ·exact zT ⟨k_21,zE⟩
  ·exact zN
 ·exact zB ⟨k_21,zE⟩
theorem aLX (l0:List Str):Lok (aRp l0) (nX l0) (aEE O aF) (aRq l0):=by
 rintro i_15 l u ⟨rfl,rfl⟩
 simp only [nX,aEE,zd,zr]
 refine zG ?_
 try simp only [evs,tys]
 apply Imp.cnd
 ·refine zL (aLW l0 i_15) ?_
  rintro (p | p) vy28 hy28
  ·try simp only [aN,aO]
   obtain ⟨k_26,rfl⟩:=hy28
   refine zH ?_
   try simp only [evs,tys]
   exact zN
  ·try simp only [aN,aO]
   obtain ⟨k_27,rfl⟩:=hy28
   refine Imp.exMiss rfl ?_
   refine zH ?_
   try simp only [evs,tys]
   exact zT ⟨i_15,zE⟩
 ·exact zB ⟨i_15,zE⟩
theorem aRr (l0:List Str):Imp (aDd l0) (aEF O aF l0) (Ri aA):=by
 simp only [aDd,aEF,zd,zr]
 try simp only [evs,tys]
 refine zL (aLX l0) ?_
 rintro (p | p) vy31 hy31
 ·try simp only [aN,aO]
  obtain ⟨i_29,rfl⟩:=hy31
  refine zH ?_
  try simp only [evs,tys]
  exact zR
 ·try simp only [aN,aO]
  obtain ⟨i_30,rfl⟩:=hy31
  refine Imp.exMiss rfl ?_
  refine zH ?_
  try simp only [evs,tys]
  exact zR
theorem aRs {l0:List Str} {r:Bool} (h:aDd l0=some r):aOb l0=some r:=zV aD (aRr l0) Tryz.func50 (aUk _ _ l0) h
abbrev lS:List Sh:=[sf,sf,.bool,n6]
def aKh (O:Orc) (LP:LBs):bM:=fun s1 s1u=>cnd (chkL lS s1) (cnd (chkU [] s1u)
 (cnd (decide ((iv s1 3)<(List.length (ev s1 0):Int)))
 (bnd (ix 1 (zs s1 0) (zn s1 3)) fun x7=>cnd (chk (.ref .str) x7)
 (aQ O 29 [(zs s1 1),(.str (strV (refV x7)))] fun x9=>cnd (chk .bool x9)
 (cnd (!(bC x9))
 (some (.ret,(pu (rb lS s1) 2 (.bool false)),[]))
 (some (.nrm,(pu (rb lS s1) 3 (i6 (w6 ((iv s1 3)+1)))),[]))) none) none)
 (some (.brk 0,(rb lS s1),[]))) none) none
def aKi (O:Orc) (LP:LBs) (a:List Str) (b:List Str):Option (PV×UP) :=
 bnd (LP (aKh O LP) [(zq PV.str a),(zq PV.str b),(.bool false),(i6 0)] []) fun y13 =>
 exIs y13.1 (some 0) (cnd (chkL lS y13.2.1) (cnd (chkU [] y13.2.2)
 (some ((.bool true),[])) none) none)
 (exIs y13.1 none (cnd (chkL lS y13.2.1) (cnd (chkU [] y13.2.2)
 (some ((zb y13.2.1 2),[])) none) none)
 (none))
noncomputable def tT (a:List Str) (b:List Str):Int→Option (Int⊕(Unit⊕Unit))
 | i_6 =>
 cnd (decide (i_6<(List.length a:Int)))
  (bnd (nthI a i_6) fun y8 =>
  bnd (aBi b y8) fun y10 =>
  cnd (!y10)
  (some (.inr (.inr ())))
  (some (.inl (IntKind.wrap .i64 (i_6+1)))))
  (some (.inr (.inl ())))
abbrev aX4 (a:List Str) (b:List Str) (st:Int) (l:List PV) (u:UP):Prop:=l=[(zq PV.str a),(zq PV.str b),(.bool false),(i6 st)]∧u=[]
abbrev aX5 (a:List Str) (b:List Str) (p:Unit⊕Unit) (r:EU):Prop:=elim p (fun (p:Unit)=>∃ (i_11:Int),r=(Ex.brk 0,[(zq PV.str a),(zq PV.str b),(.bool false),(i6 i_11)],[])) (fun q2=>(fun (p:Unit)=>∃ (i_12:Int),r=(Ex.ret,[(zq PV.str a),(zq PV.str b),(.bool false),(i6 i_12)],[])) q2)
noncomputable def aI4 (a:List Str) (b:List Str):Option Bool :=
 bnd (aY (tT a b) 0) fun e13_2=>elim e13_2
 (fun p13 =>
 some true)
 (fun p13 =>
 some false)
def bAH:Decs:={decs:=[(15,(.ref .str)),(17,.bool)],loops:=[(2,[],⟨lS,[],[(some 0,lS,[]),(none,lS,[])]⟩)]}
theorem bAI (O:Orc) (LP:LBs) (a:List Str) (b:List Str):eW 128 bAH Tryz.f128 O LP [(zq PV.str a),(zq PV.str b)] []=aKi O LP a b:=by kernel_rfl
theorem aRt (a:List Str) (b:List Str):Lok (aX4 a b) (tT a b) (aKh O aF) (aX5 a b):=by
 rintro i_6 l u ⟨rfl,rfl⟩
 simp only [tT,aKh,zd,zr]
 refine zG ?_
 try simp only [evs,tys]
 apply Imp.cnd
 ·refine zX PV.str (fun _=>rfl) fun y8 _ => ?_
  try simp only [evs,tys]
  refine zC rfl fun y10 _ => ?_
  try simp only [zes,evs,tys]
  apply Imp.cnd
  ·exact zT ⟨i_6,zE⟩
  ·exact zN
 ·exact zB ⟨i_6,zE⟩
theorem aX6 (a:List Str) (b:List Str):Imp (aI4 a b) (aKi O aF a b) (Ri aA):=by
 simp only [aI4,aKi,zd,zr]
 try simp only [evs,tys]
 refine zL (aRt a b) ?_
 rintro (p | p) vy13 hy13
 ·try simp only [aN,aO]
  obtain ⟨i_11,rfl⟩:=hy13
  refine zH ?_
  try simp only [evs,tys]
  exact zR
 ·try simp only [aN,aO]
  obtain ⟨i_12,rfl⟩:=hy13
  refine Imp.exMiss rfl ?_
  refine zH ?_
  try simp only [evs,tys]
  exact zR
theorem aX7 {a:List Str} {b:List Str} {r:Bool} (h:aI4 a b=some r):aHP a b=some r:=zV aD (aX6 a b) Tryz.func128 (bAI _ _ a b) h
def aEG (O:Orc) (LP:LBs) (s:GSchema) (name:Str):Option (PV×UP) :=
 aQ O 159 [(eS s),(.str name),(i6 0),(i6 4),(i6 5)] fun x1=>cnd (chk .bool x1)
 (some ((.bool (bC x1)),[])) none
noncomputable def aDe (s:GSchema) (name:Str):Option Bool :=
 bnd (bAv s name 0 4 5) fun y2 =>
 some y2
def aUl:Decs:={decs:=[(7,.bool)]}
theorem aUm (O:Orc) (LP:LBs) (s:GSchema) (name:Str):eW 129 aUl Tryz.f129 O LP [(eS s),(.str name)] []=aEG O LP s name:=by kernel_rfl
theorem aRu (s:GSchema) (name:Str):Imp (aDe s name) (aEG O aF s name) (Ri aA):=by
 simp only [aDe,aEG,zd,zr]
 try simp only [evs,tys]
 refine zC rfl fun y2 _ => ?_
 try simp only [zes,evs,tys]
 exact zR
theorem aRv {s:GSchema} {name:Str} {r:Bool} (h:aDe s name=some r):aOc s name=some r:=zV aD (aRu s name) Tryz.func129 (aUm _ _ s name) h
abbrev fO:List Sh:=[(.ptr 0 2 0),st',(.ptr 0 6 0),n6,n6,.str,sf,sf,sf,sf,sf,.str,.str]
def aEH (O:Orc) (LP:LBs):bM:=fun s3 s3u=>cnd (chkL fO s3) (cnd (chkU [] s3u)
 (cnd (decide ((iv s3 3)<(List.length (ev s3 9):Int)))
 (cnd ((iv s3 4)==5)
 (bnd (ix 10 (zs s3 9) (zn s3 3)) fun x12=>cnd (chk (.ref mA) x12)
 (cnd ((iv (rf x12) 2)==0)
 (cnd ((iv (rf x12) 3)==1)
 (aQ O 159 [(.agg [(zs s3 10),(zt s3 11),(zt s3 12)]),(zt (rf x12) 1),(i6 5),(i6 5),(i6 5)] fun x14=>cnd (chk .bool x14)
 (cnd (bC x14)
 (bnd (apd 1 (zo s3 1) (.slice [(zt (rf x12) 1)] [] true)) fun x16=>cnd (chk st' x16)
 (some (.nrm,(pu (pu (rb fO s3) 1 (.slice (esV x16) [] true)) 3 (i6 (w6 ((iv s3 3)+1)))),[])) none)
 (some (.nrm,(pu (rb fO s3) 3 (i6 (w6 ((iv s3 3)+1)))),[]))) none)
 (some (.nrm,(pu (rb fO s3) 3 (i6 (w6 ((iv s3 3)+1)))),[])))
 (some (.nrm,(pu (rb fO s3) 3 (i6 (w6 ((iv s3 3)+1)))),[]))) none)
 (some (.brk 0,(rb fO s3),[])))
 (some (.brk 0,(rb fO s3),[]))) none) none
def aEI (O:Orc) (LP:LBs) (s:GSchema) (name:Str):Option (PV×UP) :=
 aQ O 164 [(eS s),(.str name)] fun x1=>cnd (chk (.tup [uK,.bool]) x1)
 (bnd (LP (aEH O LP) [(.ptr 0 2 0),(.slice [] [] true),(.ptr 0 6 0),(i6 0),(zn (tg x1 0) 0),(zt (tg x1 0) 1),(zs (tg x1 0) 2),(zs (tg x1 0) 3),(zs (tg x1 0) 4),(zs (tg x1 0) 5),(zq aM s.defs),(.str s.query),(.str s.mutation)] []) fun y20 =>
 exIs y20.1 (some 0) (cnd (chkL fO y20.2.1) (cnd (chkU [] y20.2.2)
 (some ((zo y20.2.1 1),[])) none) none)
 (none)) none
noncomputable def wM (s:GSchema) (name:Str) (y2:GDef×Bool):((List Str)×Int)→Option (((List Str)×Int)⊕((List Str)))
 | (out_10,i_11) =>
 cnd (decide (i_11<(List.length y2.1.params:Int)))
  (cnd (y2.1.kind==5)
  (bnd (nthI y2.1.params i_11) fun y13 =>
  cnd (y13.t.lists==0)
   (cnd (y13.t.musts==1)
   (bnd (bAv s y13.t.name 5 5 5) fun y15 =>
   cnd y15
    (bnd (tapp out_10 [y13.t.name]) fun y17 =>
    some (.inl (y17,(IntKind.wrap .i64 (i_11+1)))))
    (some (.inl (out_10,(IntKind.wrap .i64 (i_11+1))))))
   (some (.inl (out_10,(IntKind.wrap .i64 (i_11+1))))))
   (some (.inl (out_10,(IntKind.wrap .i64 (i_11+1))))))
  (some (.inr out_10)))
  (some (.inr out_10))
abbrev aHY (s:GSchema) (name:Str) (y2:GDef×Bool) (a0 a1:PV):List PV:=[(.ptr 0 2 0),a0,(.ptr 0 6 0),a1,(i6 y2.1.kind),(.str y2.1.name),(zq PV.str y2.1.faces),(zq bO y2.1.fields),(zq PV.str y2.1.parts),(zq aX y2.1.params),(zq aM s.defs),(.str s.query),(.str s.mutation)]
abbrev aRw (s:GSchema) (name:Str) (y2:GDef×Bool) (st:(List Str)×Int) (l:List PV) (u:UP):Prop:=l=(aHY s name y2 (zp PV.str st.1) (i6 st.2))∧u=[]
abbrev aRx (s:GSchema) (name:Str) (y2:GDef×Bool) (p:(List Str)) (r:EU):Prop:=∃ (i_19:Int),r=(Ex.brk 0,(aHY s name y2 (zp PV.str p) (i6 i_19)),[])
noncomputable def zU (s:GSchema) (name:Str):Option (List Str) :=
 bnd (aAx s name) fun y2 =>
 bnd (aY (wM s name y2) ([],0)) fun out_18 =>
 some out_18
def aUn:Decs:={decs:=[(13,(.tup [uK,.bool])),(31,(.ref mA)),(46,.bool),(52,st')],loops:=[(4,[(6,6),(2,3)],⟨fO,[],[(some 0,fO,[])]⟩)]}
theorem aUo (O:Orc) (LP:LBs) (s:GSchema) (name:Str):eW 166 aUn Tryz.f166 O LP [(eS s),(.str name)] []=aEI O LP s name:=by kernel_rfl
theorem aLY (s:GSchema) (name:Str) (y2:GDef×Bool):Lok (aRw s name y2) (wM s name y2) (aEH O aF) (aRx s name y2):=by
 rintro ⟨out_10,i_11⟩ l u ⟨rfl,rfl⟩
 simp only [wM,aEH,zd,zr]
 refine zG ?_
 try simp only [evs,tys]
 apply Imp.cnd
 ·apply Imp.cnd
  ·refine zX aX qD fun y13 _ => ?_
   try simp only [evs,tys]
   apply Imp.cnd
   ·apply Imp.cnd
    ·refine zC rfl fun y15 _ => ?_
     try simp only [zes,evs,tys]
     apply Imp.cnd
     ·refine Imp.op (f:=fun a => .slice (List.map PV.str a) [] true) (fun a h=>aBg (enc:=PV.str) zI zI (fun a=>by first | rfl | simp only [evs,tys,evc]) h) (fun a=>rfl) fun y17 hy17 => ?_
      try simp only [evs,tys]
      exact zN
     ·exact zN
    ·exact zN
   ·exact zN
  ·exact zB ⟨i_11,zE⟩
 ·exact zB ⟨i_11,zE⟩
theorem aRy (s:GSchema) (name:Str):Imp (zU s name) (aEI O aF s name) (Ri eZ):=by
 simp only [zU,aEI,zd,zr]
 try simp only [evs,tys]
 refine zC rfl fun y2 _ => ?_
 try simp only [zes,evs,tys]
 refine zL (aLY s name y2) ?_
 rintro out_18 _ ⟨i_19,rfl⟩
 refine zH ?_
 try simp only [evs,tys]
 exact zR
theorem aRz {s:GSchema} {name:Str} {r:List Str} (h:zU s name=some r):aI0 s name=some r:=zV rN (aRy s name) Tryz.func166 (aUo _ _ s name) h
abbrev lT:List Sh:=[sf,.str,.bool,n6]
def aKj (O:Orc) (LP:LBs):bM:=fun s1 s1u=>cnd (chkL lT s1) (cnd (chkU [] s1u)
 (cnd (decide ((iv s1 3)<(List.length (ev s1 0):Int)))
 (bnd (ix 1 (zs s1 0) (zn s1 3)) fun x5=>cnd (chk (.ref .str) x5)
 (cnd ((strV (refV x5))==(sv s1 1))
 (some (.ret,(pu (rb lT s1) 2 (.bool true)),[]))
 (some (.nrm,(pu (rb lT s1) 3 (i6 (w6 ((iv s1 3)+1)))),[]))) none)
 (some (.brk 0,(rb lT s1),[]))) none) none
def aKk (O:Orc) (LP:LBs) (l0:List Str) (s:Str):Option (PV×UP) :=
 bnd (LP (aKj O LP) [(zq PV.str l0),(.str s),(.bool false),(i6 0)] []) fun y9 =>
 exIs y9.1 (some 0) (cnd (chkL lT y9.2.1) (cnd (chkU [] y9.2.2)
 (some ((.bool false),[])) none) none)
 (exIs y9.1 none (cnd (chkL lT y9.2.1) (cnd (chkU [] y9.2.2)
 (some ((zb y9.2.1 2),[])) none) none)
 (none))
noncomputable def tU (l0:List Str) (s:Str):Int→Option (Int⊕(Unit⊕Unit))
 | i_4 =>
 cnd (decide (i_4<(List.length l0:Int)))
  (bnd (nthI l0 i_4) fun y6 =>
  cnd (y6==s)
  (some (.inr (.inr ())))
  (some (.inl (IntKind.wrap .i64 (i_4+1)))))
  (some (.inr (.inl ())))
abbrev aX8 (l0:List Str) (s:Str) (st:Int) (l:List PV) (u:UP):Prop:=l=[(zq PV.str l0),(.str s),(.bool false),(i6 st)]∧u=[]
abbrev aX9 (l0:List Str) (s:Str) (p:Unit⊕Unit) (r:EU):Prop:=elim p (fun (p:Unit)=>∃ (i_7:Int),r=(Ex.brk 0,[(zq PV.str l0),(.str s),(.bool false),(i6 i_7)],[])) (fun q2=>(fun (p:Unit)=>∃ (i_8:Int),r=(Ex.ret,[(zq PV.str l0),(.str s),(.bool true),(i6 i_8)],[])) q2)
noncomputable def aI5 (l0:List Str) (s:Str):Option Bool :=
 bnd (aY (tU l0 s) 0) fun e9_2=>elim e9_2
 (fun p9 =>
 some false)
 (fun p9 =>
 some true)
def bAJ:Decs:={decs:=[(14,(.ref .str))],loops:=[(2,[],⟨lT,[],[(some 0,lT,[]),(none,lT,[])]⟩)]}
theorem bAK (O:Orc) (LP:LBs) (l0:List Str) (s:Str):eW 29 bAJ Tryz.f29 O LP [(zq PV.str l0),(.str s)] []=aKk O LP l0 s:=by kernel_rfl
theorem aRA (l0:List Str) (s:Str):Lok (aX8 l0 s) (tU l0 s) (aKj O aF) (aX9 l0 s):=by
 rintro i_4 l u ⟨rfl,rfl⟩
 simp only [tU,aKj,zd,zr]
 refine zG ?_
 try simp only [evs,tys]
 apply Imp.cnd
 ·refine zX PV.str (fun _=>rfl) fun y6 _ => ?_
  try simp only [evs,tys]
  apply Imp.cnd
  ·exact zT ⟨i_4,zE⟩
  ·exact zN
 ·exact zB ⟨i_4,zE⟩
theorem aYa (l0:List Str) (s:Str):Imp (aI5 l0 s) (aKk O aF l0 s) (Ri aA):=by
 simp only [aI5,aKk,zd,zr]
 try simp only [evs,tys]
 refine zL (aRA l0 s) ?_
 rintro (p | p) vy9 hy9
 ·try simp only [aN,aO]
  obtain ⟨i_7,rfl⟩:=hy9
  refine zH ?_
  try simp only [evs,tys]
  exact zR
 ·try simp only [aN,aO]
  obtain ⟨i_8,rfl⟩:=hy9
  refine Imp.exMiss rfl ?_
  refine zH ?_
  try simp only [evs,tys]
  exact zR
theorem aYb {l0:List Str} {s:Str} {r:Bool} (h:aI5 l0 s=some r):aBi l0 s=some r:=zV aD (aYa l0 s) Tryz.func29 (bAK _ _ l0 s) h
def aAK (O:Orc) (LP:LBs) (l0:List GSel):Option (PV×UP) :=
 aQ O 183 [(zq aG l0),(.slice [] [] true)] fun x1=>cnd (chk st' x1)
 (some ((.slice (esV x1) [] true),[])) none
noncomputable def wN (l0:List GSel):Option (List Str) :=
 bnd (lP l0 ([]:List Str)) fun y2 =>
 some y2
def aOw:Decs:={decs:=[(4,st')]}
theorem aOx (O:Orc) (LP:LBs) (l0:List GSel):eW 182 aOw Tryz.f182 O LP [(zq aG l0)] []=aAK O LP l0:=by kernel_rfl
theorem aLZ (l0:List GSel):Imp (wN l0) (aAK O aF l0) (Ri eZ):=by
 simp only [wN,aAK,zd,zr]
 try simp only [evs,tys]
 refine zC rfl fun y2 _ => ?_
 try simp only [zes,evs,tys]
 exact zR
theorem aL0 {l0:List GSel} {r:List Str} (h:wN l0=some r):aGI l0=some r:=zV rN (aLZ l0) Tryz.func182 (aOx _ _ l0) h
abbrev nA:List Sh:=[.str,(.ptr 0 2 0),(.ptr 0 4 0),.bool,n6,.str,.str,st',st',sf,sf]
def aGU (O:Orc) (LP:LBs):bM:=fun s1 s1u=>cnd (chkL nA s1) (cnd (chkU [] s1u)
 (cnd (decide ((iv s1 4)<(List.length (ev s1 10):Int)))
 (bnd (ix 4 (zs s1 10) (zn s1 4)) fun x7=>cnd (chk (.ref gH) x7)
 (cnd ((sv (rf x7) 0)==(sv s1 0))
 (bnd (ix 4 (zs s1 10) (zn s1 4)) fun x9=>cnd (chk (.ref gH) x9)
 (some (.ret,(pu (pu (pu (pu (pu (rb nA s1) 3 (.bool true)) 5 (zt (rf x9) 0)) 6 (zt (rf x9) 1)) 7 (zs (rf x9) 2)) 8 (zs (rf x9) 3)),[])) none)
 (some (.nrm,(pu (rb nA s1) 4 (i6 (w6 ((iv s1 4)+1)))),[]))) none)
 (some (.brk 0,(rb nA s1),[]))) none) none
def aGV (O:Orc) (LP:LBs) (d:GDoc) (name:Str):Option (PV×UP) :=
 bnd (LP (aGU O LP) [(.str name),(.ptr 0 2 0),(.ptr 0 4 0),(.bool false),(i6 0),(.str []),(.str []),(.slice [] [] true),(.slice [] [] true),(zq aT d.ops),(zq aH d.frags)] []) fun y17 =>
 exIs y17.1 (some 0) (cnd (chkL nA y17.2.1) (cnd (chkU [] y17.2.2)
 (some ((.tuple [(.agg [(.str []),(.str []),(.slice [] [] false),(.slice [] [] false)]),(.bool false)]),[])) none) none)
 (exIs y17.1 none (cnd (chkL [.str,(.ptr 0 2 0),(.ptr 0 4 0),.bool,n6,.str,.str,sf,sf,sf,sf] y17.2.1) (cnd (chkU [] y17.2.2)
 (some ((.tuple [(.agg [(zt y17.2.1 5),(zt y17.2.1 6),(zs y17.2.1 7),(zs y17.2.1 8)]),(zb y17.2.1 3)]),[])) none) none)
 (none))
noncomputable def qK (d:GDoc) (name:Str):Int→Option (Int⊕(Unit⊕(Str×Str×(List GDir)×(List GSel))))
 | i_6 =>
 cnd (decide (i_6<(List.length d.frags:Int)))
  (bnd (nthI d.frags i_6) fun y8 =>
  cnd (y8.name==name)
  (bnd (nthI d.frags i_6) fun y10 =>
  some (.inr (.inr (y10.name,y10.on_,y10.dirs,y10.sels))))
  (some (.inl (IntKind.wrap .i64 (i_6+1)))))
  (some (.inr (.inl ())))
abbrev aUp (d:GDoc) (name:Str) (st:Int) (l:List PV) (u:UP):Prop:=l=[(.str name),(.ptr 0 2 0),(.ptr 0 4 0),(.bool false),(i6 st),(.str []),(.str []),(.slice [] [] true),(.slice [] [] true),(zq aT d.ops),(zq aH d.frags)]∧u=[]
abbrev aUq (d:GDoc) (name:Str) (p:Unit⊕(Str×Str×(List GDir)×(List GSel))) (r:EU):Prop:=elim p (fun (p:Unit)=>∃ (i_11:Int),r=(Ex.brk 0,[(.str name),(.ptr 0 2 0),(.ptr 0 4 0),(.bool false),(i6 i_11),(.str []),(.str []),(.slice [] [] true),(.slice [] [] true),(zq aT d.ops),(zq aH d.frags)],[])) (fun q2=>(fun (p:Str×Str×(List GDir)×(List GSel))=>∃ (i_12:Int),r=(Ex.ret,[(.str name),(.ptr 0 2 0),(.ptr 0 4 0),(.bool true),(i6 i_12),(.str p.1),(.str p.2.1),(zq aK p.2.2.1),(zq aG p.2.2.2),(zq aT d.ops),(zq aH d.frags)],[])) q2)
noncomputable def aFO (d:GDoc) (name:Str):Option (GFrag×Bool) :=
 bnd (aY (qK d name) 0) fun e17_2=>elim e17_2
 (fun p17 =>
 some ((GFrag.mk [] [] ([]:List GDir) ([]:List GSel)),false))
 (fun p17 =>
 some ((GFrag.mk p17.1 p17.2.1 p17.2.2.1 p17.2.2.2),true))
def aYc:Decs:={decs:=[(17,(.ref gH)),(25,(.ref gH))],loops:=[(2,[(4,4),(2,2)],⟨nA,[],[(some 0,nA,[]),(none,[.str,(.ptr 0 2 0),(.ptr 0 4 0),.bool,n6,.str,.str,sf,sf,sf,sf],[])]⟩)]}
theorem aYd (O:Orc) (LP:LBs) (d:GDoc) (name:Str):eW 113 aYc Tryz.f113 O LP [(eD d),(.str name)] []=aGV O LP d name:=by kernel_rfl
theorem aOy (d:GDoc) (name:Str):Lok (aUp d name) (qK d name) (aGU O aF) (aUq d name):=by
 rintro i_6 l u ⟨rfl,rfl⟩
 simp only [qK,aGU,zd,zr]
 refine zG ?_
 try simp only [evs,tys]
 apply Imp.cnd
 ·refine zX aH kU fun y8 _ => ?_
  try simp only [evs,tys]
  apply Imp.cnd
  ·refine zX aH kU fun y10 _ => ?_
   try simp only [evs,tys]
   exact zT ⟨i_6,zE⟩
  ·exact zN
 ·exact zB ⟨i_6,zE⟩
theorem aUr (d:GDoc) (name:Str):Imp (aFO d name) (aGV O aF d name) (Ri wF):=by
 simp only [aFO,aGV,zd,zr]
 try simp only [evs,tys]
 refine zL (aOy d name) ?_
 rintro (p | ⟨b_13,b_14,b_15,b_16⟩) vy17 hy17
 ·try simp only [aN,aO]
  obtain ⟨i_11,rfl⟩:=hy17
  refine zH ?_
  try simp only [evs,tys]
  exact zR
 ·try simp only [aN,aO]
  obtain ⟨i_12,rfl⟩:=hy17
  refine Imp.exMiss rfl ?_
  refine zH ?_
  try simp only [evs,tys]
  exact zR
theorem aUs {d:GDoc} {name:Str} {r:GFrag×Bool} (h:aFO d name=some r):aOd d name=some r:=zV aQO (aUr d name) Tryz.func113 (aYd _ _ d name) h
def aAL (O:Orc) (LP:LBs):bM:=fun s1 s1u=>cnd (chkL [sf,st',n6] s1) (cnd (chkU [] s1u)
 (cnd (decide ((iv s1 2)<(List.length (ev s1 0):Int)))
 (bnd (ix 7 (zs s1 0) (zn s1 2)) fun x26=>cnd (chk (.ref mG) x26)
 (cnd ((iv (rf x26) 0)==1)
 (bnd (ix 7 (zs s1 0) (zn s1 2)) fun x28=>cnd (chk (.ref mG) x28)
 (aQ O 29 [(zs s1 1),(zt (rf x28) 2)] fun x30=>cnd (chk .bool x30)
 (cnd (!(bC x30))
 (bnd (ix 7 (zs s1 0) (zn s1 2)) fun x32=>cnd (chk (.ref mG) x32)
 (bnd (apd 1 (zo s1 1) (.slice [(zt (rf x32) 2)] [] true)) fun x34=>cnd (chk st' x34)
 (bnd (ix 7 (zs s1 0) (zn s1 2)) fun x36=>cnd (chk (.ref mG) x36)
 (aQ O 183 [(zs (rf x36) 6),(.slice (esV x34) [] true)] fun x38=>cnd (chk st' x38)
 (some (.nrm,[(zs s1 0),(.slice (esV x38) [] true),(i6 (w6 ((iv s1 2)+1)))],[])) none) none) none) none)
 (bnd (ix 7 (zs s1 0) (zn s1 2)) fun x40=>cnd (chk (.ref mG) x40)
 (aQ O 183 [(zs (rf x40) 6),(zo s1 1)] fun x42=>cnd (chk st' x42)
 (some (.nrm,[(zs s1 0),(.slice (esV x42) [] true),(i6 (w6 ((iv s1 2)+1)))],[])) none) none)) none) none)
 (bnd (ix 7 (zs s1 0) (zn s1 2)) fun x44=>cnd (chk (.ref mG) x44)
 (aQ O 183 [(zs (rf x44) 6),(zo s1 1)] fun x46=>cnd (chk st' x46)
 (some (.nrm,[(zs s1 0),(.slice (esV x46) [] true),(i6 (w6 ((iv s1 2)+1)))],[])) none) none)) none)
 (some (.brk 0,[(zs s1 0),(zo s1 1),(zn s1 2)],[]))) none) none
def aAM (O:Orc) (LP:LBs) (l0:List GSel) (out0:List Str):Option (PV×UP) :=
 bnd (LP (aAL O LP) [(zq aG l0),(zp PV.str out0),(i6 0)] []) fun y50 =>
 exIs y50.1 (some 0) (cnd (chkL [sf,st',n6] y50.2.1) (cnd (chkU [] y50.2.2)
 (some ((zo y50.2.1 1),[])) none) none)
 (none)
noncomputable def iH (l0:List GSel):((List Str)×Int)→Option (((List Str)×Int)⊕((List Str)))
 | (out_24,i_25) =>
 cnd (decide (i_25<(List.length l0:Int)))
  (bnd (nthI l0 i_25) fun y27 =>
  cnd (y27.kind==1)
  (bnd (nthI l0 i_25) fun y29 =>
  bnd (aBi out_24 y29.name) fun y31 =>
  cnd (!y31)
   (bnd (nthI l0 i_25) fun y33 =>
   bnd (tapp out_24 [y33.name]) fun y35 =>
   bnd (nthI l0 i_25) fun y37 =>
   bnd (lP y37.sels y35) fun y39 =>
   some (.inl (y39,(IntKind.wrap .i64 (i_25+1)))))
   (bnd (nthI l0 i_25) fun y41 =>
   bnd (lP y41.sels out_24) fun y43 =>
   some (.inl (y43,(IntKind.wrap .i64 (i_25+1))))))
  (bnd (nthI l0 i_25) fun y45 =>
  bnd (lP y45.sels out_24) fun y47 =>
  some (.inl (y47,(IntKind.wrap .i64 (i_25+1))))))
  (some (.inr out_24))
abbrev aL1 (l0:List GSel) (st:(List Str)×Int) (l:List PV) (u:UP):Prop:=l=[(zq aG l0),(zp PV.str st.1),(i6 st.2)]∧u=[]
abbrev aL2 (l0:List GSel) (p:(List Str)) (r:EU):Prop:=(fun (p:(List Str))=>∃ (i_49:Int),r=(Ex.brk 0,[(zq aG l0),(zp PV.str p),(i6 i_49)],[])) p
noncomputable def rU (l0:List GSel) (out0:List Str):Option (List Str) :=
 bnd (aY (iH l0) (out0,0)) fun out_48 =>
 some out_48
def aOz:Decs:={decs:=[(14,(.ref mG)),(22,(.ref mG)),(25,.bool),(31,(.ref mG)),(35,st'),(38,(.ref mG)),(42,st')],loops:=[(2,[],⟨[sf,st',n6],[],[(some 0,[sf,st',n6],[])]⟩)]}
theorem aOA (O:Orc) (LP:LBs) (l0:List GSel) (out0:List Str):eW 183 aOz Tryz.f183 O LP [(zq aG l0),(zp PV.str out0)] []=aAM O LP l0 out0:=by kernel_rfl
theorem aIi (l0:List GSel):Lok (aL1 l0) (iH l0) (aAL O aF) (aL2 l0):=by
 rintro ⟨out_24,i_25⟩ l u ⟨rfl,rfl⟩
 simp only [iH,aAL,zd,zr]
 refine zG ?_
 try simp only [evs,tys]
 apply Imp.cnd
 ·refine zX aG gU fun y27 _ => ?_
  try simp only [evs,tys]
  apply Imp.cnd
  ·refine zX aG gU fun y29 _ => ?_
   try simp only [evs,tys]
   refine zC rfl fun y31 _ => ?_
   try simp only [zes,evs,tys]
   apply Imp.cnd
   ·refine zX aG gU fun y33 _ => ?_
    try simp only [evs,tys]
    refine Imp.op (f:=fun a => .slice (List.map PV.str a) [] true) (fun a h=>aBg (enc:=PV.str) zI zI (fun a=>by first | rfl | simp only [evs,tys,evc]) h) (fun a=>rfl) fun y35 hy35 => ?_
    try simp only [evs,tys]
    refine zX aG gU fun y37 _ => ?_
    try simp only [evs,tys]
    refine zC rfl fun y39 _ => ?_
    try simp only [zes,evs,tys]
    exact zN
   ·refine zX aG gU fun y41 _ => ?_
    try simp only [evs,tys]
    refine zC rfl fun y43 _ => ?_
    try simp only [zes,evs,tys]
    exact zN
  ·refine zX aG gU fun y45 _ => ?_
   try simp only [evs,tys]
   refine zC rfl fun y47 _ => ?_
   try simp only [zes,evs,tys]
   exact zN
 ·exact zB ⟨i_25,zE⟩
theorem aL3 (l0:List GSel) (out0:List Str):Imp (rU l0 out0) (aAM O aF l0 out0) (Ri eZ):=by
 simp only [rU,aAM,zd,zr]
 try simp only [evs,tys]
 refine zL (aIi l0) ?_
 rintro out_48 _ ⟨i_49,rfl⟩
 refine zH ?_
 try simp only [evs,tys]
 exact zR
theorem aDK {l0:List GSel} {out0:List Str} {r:List Str} (h:rU l0 out0=some r):lP l0 out0=some r:=zV rN (aL3 l0 out0) Tryz.func183 (aOA _ _ l0 out0) h
def uQ (O:Orc) (LP:LBs) (t:GType):Option (PV×UP) :=
 aQ O 98 [(.str t.name)] fun x1=>cnd (chk .bool x1)
 (cnd (bC x1)
 (cnd (decide (t.lists≥0))
 (cnd (decide (t.lists≤4))
 (cnd (decide (t.musts≥0))
 (bnd (bin .shl (i6 2) (.int .u64 (IntKind.wrap .u64 t.lists))) fun x3=>cnd (chk n6 x3)
 (some ((.bool (decide (t.musts<(intV x3)))),[])) none)
 (some ((.bool false),[])))
 (some ((.bool false),[])))
 (some ((.bool false),[])))
 (some ((.bool false),[]))) none
noncomputable def mL (t:GType):Option Bool :=
 bnd (aTM t.name) fun y2 =>
 cnd y2
 (cnd (decide (t.lists≥0))
 (cnd (decide (t.lists≤4))
 (cnd (decide (t.musts≥0))
 (bnd (tshl .i64 2 (IntKind.wrap .u64 t.lists)) fun y4 =>
 some (decide (t.musts<y4)))
 (some false))
 (some false))
 (some false))
 (some false)
def aKl:Decs:={decs:=[(5,.bool),(27,n6)]}
theorem aKm (O:Orc) (LP:LBs) (t:GType):eW 101 aKl Tryz.f101 O LP [(eT t)] []=uQ O LP t:=by kernel_rfl
theorem aIj (t:GType):Imp (mL t) (uQ O aF t) (Ri aA):=by
 simp only [mL,uQ,zd,zr]
 try simp only [evs,tys]
 refine zC rfl fun y2 _ => ?_
 try simp only [zes,evs,tys]
 apply Imp.cnd
 ·apply Imp.cnd
  ·apply Imp.cnd
   ·apply Imp.cnd
    ·refine Imp.op (f:=fun a => .int _ a) (fun a h=>bFf h) (fun a=>rfl) fun y4 hy4 => ?_
     try simp only [evs,tys]
     exact zR
    ·exact zR
   ·exact zR
  ·exact zR
 ·exact zR
theorem aIk {t:GType} {r:Bool} (h:mL t=some r):rO t=some r:=zV aD (aIj t) Tryz.func101 (aKm _ _ t) h
def aGW (O:Orc) (LP:LBs) (t:GType):Option (PV×UP) :=
 aQ O 101 [(eT t)] fun x1=>cnd (chk .bool x1)
 (cnd (!(bC x1))
 (some ((.tuple [(.agg [(.str []),(i6 0),(i6 0)]),(.bool false)]),[]))
 (cnd (t.lists==0)
 (some ((.tuple [(.agg [(.str []),(i6 0),(i6 0)]),(.bool false)]),[]))
 (some ((.tuple [(.agg [(.str t.name),(i6 (w6 (t.lists-1))),(i6 (Int.fdiv t.musts (2 ^ min (Int.toNat 1) 64)))]),(.bool true)]),[])))) none
noncomputable def aFP (t:GType):Option (GType×Bool) :=
 bnd (rO t) fun y2 =>
 cnd (!y2)
 (some ((GType.mk [] 0 0),false))
 (cnd (t.lists==0)
 (some ((GType.mk [] 0 0),false))
 (some ((GType.mk t.name (IntKind.wrap .i64 (t.lists-1)) (Int.fdiv t.musts (2 ^ min (Int.toNat 1) 64))),true)))
def aYe:Decs:={decs:=[(5,.bool)]}
theorem aYf (O:Orc) (LP:LBs) (t:GType):eW 224 aYe Tryz.f224 O LP [(eT t)] []=aGW O LP t:=by kernel_rfl
theorem aUt (t:GType):Imp (aFP t) (aGW O aF t) (Ri aC7):=by
 simp only [aFP,aGW,zd,zr]
 try simp only [evs,tys]
 refine zC rfl fun y2 _ => ?_
 try simp only [zes,evs,tys]
 apply Imp.cnd
 ·exact zR
 ·apply Imp.cnd
  ·exact zR
  ·exact zR
theorem aUu {t:GType} {r:GType×Bool} (h:aFP t=some r):aTK t=some r:=zV bAu (aUt t) Tryz.func224 (aYf _ _ t) h
abbrev nB:List Sh:=[.str,(.ptr 0 2 0),(.ptr 0 4 0),.bool,n6,n6,.str,st',st',st',st',sf,.str,.str]
def aGX (O:Orc) (LP:LBs):bM:=fun s3 s3u=>cnd (chkL nB s3) (cnd (chkU [] s3u)
 (cnd (decide ((iv s3 4)<(List.length (ev s3 11):Int)))
 (bnd (ix 6 (zs s3 11) (zn s3 4)) fun x9=>cnd (chk (.ref uK) x9)
 (cnd ((sv (rf x9) 1)==(sv s3 0))
 (bnd (ix 6 (zs s3 11) (zn s3 4)) fun x11=>cnd (chk (.ref uK) x11)
 (some (.ret,(pu (pu (pu (pu (pu (pu (pu (rb nB s3) 3 (.bool true)) 5 (zn (rf x11) 0)) 6 (zt (rf x11) 1)) 7 (zs (rf x11) 2)) 8 (zs (rf x11) 3)) 9 (zs (rf x11) 4)) 10 (zs (rf x11) 5)),[])) none)
 (some (.nrm,(pu (rb nB s3) 4 (i6 (w6 ((iv s3 4)+1)))),[]))) none)
 (some (.brk 0,(rb nB s3),[]))) none) none
def aGY (O:Orc) (LP:LBs) (s:GSchema) (name:Str):Option (PV×UP) :=
 aQ O 156 [(.str name)] fun x1=>cnd (chk .bool x1)
 (cnd (bC x1)
 (some ((.tuple [(.agg [(i6 0),(.str name),(.slice [] [] false),(.slice [] [] false),(.slice [] [] false),(.slice [] [] false)]),(.bool true)]),[]))
 (bnd (LP (aGX O LP) [(.str name),(.ptr 0 2 0),(.ptr 0 4 0),(.bool false),(i6 0),(i6 0),(.str []),(.slice [] [] true),(.slice [] [] true),(.slice [] [] true),(.slice [] [] true),(zq aM s.defs),(.str s.query),(.str s.mutation)] []) fun y21 =>
 exIs y21.1 (some 0) (cnd (chkL nB y21.2.1) (cnd (chkU [] y21.2.2)
 (some ((.tuple [(.agg [(i6 0),(.str []),(.slice [] [] false),(.slice [] [] false),(.slice [] [] false),(.slice [] [] false)]),(.bool false)]),[])) none) none)
 (exIs y21.1 none (cnd (chkL [.str,(.ptr 0 2 0),(.ptr 0 4 0),.bool,n6,n6,.str,sf,sf,sf,sf,sf,.str,.str] y21.2.1) (cnd (chkU [] y21.2.2)
 (some ((.tuple [(.agg [(zn y21.2.1 5),(zt y21.2.1 6),(zs y21.2.1 7),(zs y21.2.1 8),(zs y21.2.1 9),(zs y21.2.1 10)]),(zb y21.2.1 3)]),[])) none) none)
 (none)))) none
noncomputable def qL (s:GSchema) (name:Str):Int→Option (Int⊕(Unit⊕(Int×Str×(List Str)×(List GFieldDef)×(List Str)×(List GParam))))
 | i_8 =>
 cnd (decide (i_8<(List.length s.defs:Int)))
  (bnd (nthI s.defs i_8) fun y10 =>
  cnd (y10.name==name)
  (bnd (nthI s.defs i_8) fun y12 =>
  some (.inr (.inr (y12.kind,y12.name,y12.faces,y12.fields,y12.parts,y12.params))))
  (some (.inl (IntKind.wrap .i64 (i_8+1)))))
  (some (.inr (.inl ())))
abbrev aEJ (s:GSchema) (name:Str) (a0 a1 a2 a3 a4 a5 a6 a7:PV):List PV:=[(.str name),(.ptr 0 2 0),(.ptr 0 4 0),a0,a1,a2,a3,a4,a5,a6,a7,(zq aM s.defs),(.str s.query),(.str s.mutation)]
abbrev aUv (s:GSchema) (name:Str) (st:Int) (l:List PV) (u:UP):Prop:=l=(aEJ s name (.bool false) (i6 st) (i6 0) (.str []) (.slice [] [] true) (.slice [] [] true) (.slice [] [] true) (.slice [] [] true))∧u=[]
abbrev aUw (s:GSchema) (name:Str) (p:Unit⊕(Int×Str×(List Str)×(List GFieldDef)×(List Str)×(List GParam))) (r:EU):Prop:=elim p (fun (p:Unit)=>∃ (i_13:Int),r=(Ex.brk 0,(aEJ s name (.bool false) (i6 i_13) (i6 0) (.str []) (.slice [] [] true) (.slice [] [] true) (.slice [] [] true) (.slice [] [] true)),[])) (fun (p:Int×Str×(List Str)×(List GFieldDef)×(List Str)×(List GParam))=>∃ (i_14:Int),r=(Ex.ret,(aEJ s name (.bool true) (i6 i_14) (i6 p.1) (.str p.2.1) (zq PV.str p.2.2.1) (zq bO p.2.2.2.1) (zq PV.str p.2.2.2.2.1) (zq aX p.2.2.2.2.2)),[]))
noncomputable def aFQ (s:GSchema) (name:Str):Option (GDef×Bool) :=
 bnd (aJ5 name) fun y2 =>
 cnd y2
 (some ((GDef.mk 0 name ([]:List Str) ([]:List GFieldDef) ([]:List Str) ([]:List GParam)),true))
 (bnd (aY (qL s name) 0) fun e21_2=>elim e21_2
 (fun p21 =>
 some ((GDef.mk 0 [] ([]:List Str) ([]:List GFieldDef) ([]:List Str) ([]:List GParam)),false))
 (fun p21 =>
 some ((GDef.mk p21.1 p21.2.1 p21.2.2.1 p21.2.2.2.1 p21.2.2.2.2.1 p21.2.2.2.2.2),true)))
def aYg:Decs:={decs:=[(8,.bool),(21,(.ref uK)),(29,(.ref uK))],loops:=[(4,[(4,6),(2,3)],⟨nB,[],[(some 0,nB,[]),(none,[.str,(.ptr 0 2 0),(.ptr 0 4 0),.bool,n6,n6,.str,sf,sf,sf,sf,sf,.str,.str],[])]⟩)]}
theorem aYh (O:Orc) (LP:LBs) (s:GSchema) (name:Str):eW 164 aYg Tryz.f164 O LP [(eS s),(.str name)] []=aGY O LP s name:=by kernel_rfl
theorem aOB (s:GSchema) (name:Str):Lok (aUv s name) (qL s name) (aGX O aF) (aUw s name):=by
 rintro i_8 l u ⟨rfl,rfl⟩
 simp only [qL,aGX,zd,zr]
 refine zG ?_
 try simp only [evs,tys]
 apply Imp.cnd
 ·refine zX aM aC5 fun y10 _ => ?_
  try simp only [evs,tys]
  apply Imp.cnd
  ·refine zX aM aC5 fun y12 _ => ?_
   try simp only [evs,tys]
   exact zT ⟨i_8,zE⟩
  ·exact zN
 ·exact zB ⟨i_8,zE⟩
theorem aUx (s:GSchema) (name:Str):Imp (aFQ s name) (aGY O aF s name) (Ri wG):=by
 simp only [aFQ,aGY,zd,zr]
 try simp only [evs,tys]
 refine zC rfl fun y2 _ => ?_
 try simp only [zes,evs,tys]
 apply Imp.cnd
 ·exact zR
 ·refine zL (aOB s name) ?_
  rintro (p | ⟨b_15,b_16,b_17,b_18,b_19,b_20⟩) vy21 hy21
  ·try simp only [aN,aO]
   obtain ⟨i_13,rfl⟩:=hy21
   refine zH ?_
   try simp only [evs,tys]
   exact zR
  ·try simp only [aN,aO]
   obtain ⟨i_14,rfl⟩:=hy21
   refine Imp.exMiss rfl ?_
   refine zH ?_
   try simp only [evs,tys]
   exact zR
theorem aUy {s:GSchema} {name:Str} {r:GDef×Bool} (h:aFQ s name=some r):aAx s name=some r:=zV aQP (aUx s name) Tryz.func164 (aYh _ _ s name) h
abbrev lF:List Sh:=[sf,sf,(.ptr 0 3 0),.bool,n6,n6,.str,.str,n6,n6,.bool,n6,n6,.str,sf,sf,sf,.str,.str]
def aEK (O:Orc) (LP:LBs):bM:=fun s32 s32u=>cnd (chkL lF s32) (cnd (chkU [] s32u)
 (cnd (decide ((iv s32 5)<(iv s32 4)))
 (bnd (ix 6 (zs s32 1) (zn s32 5)) fun x38=>cnd (chk (.ref dU) x38)
 (bnd (ix 6 (zs s32 1) (zn s32 4)) fun x40=>cnd (chk (.ref dU) x40)
 (cnd ((sv (rf x38) 0)==(sv (rf x40) 0))
 (some (.ret,(pu (rb lF s32) 3 (.bool false)),[]))
 (some (.nrm,(pu (rb lF s32) 5 (i6 (w6 ((iv s32 5)+1)))),[]))) none) none)
 (some (.brk 2,(rb lF s32),[]))) none) none
abbrev iA:List Sh:=[sf,sf,(.ptr 0 3 0),.bool,n6,sf,.str,.str]
def aEL (O:Orc) (LP:LBs):bM:=fun s1 s1u=>cnd (chkL iA s1) (cnd (chkU [] s1u)
 (cnd (decide ((iv s1 4)<(List.length (ev s1 1):Int)))
 (bnd (ix 6 (zs s1 1) (zn s1 4)) fun x24=>cnd (chk (.ref dU) x24)
 (aQ O 193 [(zs s1 0),(zt (rf x24) 0)] fun x26=>cnd (chk (.tup [mA,.bool]) x26)
 (cnd (!(bC (tv x26 1)))
 (some (.ret,(pu (rb iA s1) 3 (.bool false)),[]))
 (bnd (ix 6 (zs s1 1) (zn s1 4)) fun x28=>cnd (chk (.ref dU) x28)
 (aQ O 192 [(.agg [(zs s1 5),(zt s1 6),(zt s1 7)]),(.agg [(zt (tg x26 0) 1),(zn (tg x26 0) 2),(zn (tg x26 0) 3)]),(.agg [(zn (rf x28) 1),(zn (rf x28) 2),(zt (rf x28) 3),(zs (rf x28) 4),(zs (rf x28) 5)]),(.bool true)] fun x30=>cnd (chk .bool x30)
 (cnd (!(bC x30))
 (some (.ret,(pu (rb iA s1) 3 (.bool false)),[]))
 (bnd (LP (aEK O LP) [(zs s1 0),(zs s1 1),(.ptr 0 3 0),(zb s1 3),(zn s1 4),(i6 0),(zt (tg x26 0) 0),(zt (tg x26 0) 1),(zn (tg x26 0) 2),(zn (tg x26 0) 3),(zb (tg x26 0) 4),(zn (tg x26 0) 5),(zn (tg x26 0) 6),(zt (tg x26 0) 7),(zs (tg x26 0) 8),(zs (tg x26 0) 9),(zs s1 5),(zt s1 6),(zt s1 7)] []) fun y44 =>
 exIs y44.1 (some 2) (cnd (chkL [sf,sf,(.ptr 0 3 0),.bool,n6,n6,.str,.str,n6,n6,.bool,n6,n6,.str,sf,sf,sf,.str,.str] y44.2.1) (cnd (chkU [] y44.2.2)
 (some (.nrm,[(zs y44.2.1 0),(zs y44.2.1 1),(.ptr 0 3 0),(zb y44.2.1 3),(i6 (w6 ((iv y44.2.1 4)+1))),(zs y44.2.1 16),(zt y44.2.1 17),(zt y44.2.1 18)],[])) none) none)
 (exIs y44.1 none (cnd (chkL [sf,sf,(.ptr 0 3 0),.bool,n6,n6,.str,.str,n6,n6,.bool,n6,n6,.str,sf,sf,sf,.str,.str] y44.2.1) (cnd (chkU [] y44.2.2)
 (some (.ret,[(zs y44.2.1 0),(zs y44.2.1 1),(.ptr 0 3 0),(zb y44.2.1 3),(zn y44.2.1 4),(zs y44.2.1 16),(zt y44.2.1 17),(zt y44.2.1 18)],[])) none) none)
 (none)))) none) none)) none) none)
 (some (.brk 0,(rb iA s1),[]))) none) none
abbrev eO:List Sh:=[sf,sf,.bool,n6,sf,.str,.str]
def aEM (O:Orc) (LP:LBs):bM:=fun s48 s48u=>cnd (chkL eO s48) (cnd (chkU [] s48u)
 (cnd (decide ((iv s48 3)<(List.length (ev s48 0):Int)))
 (bnd (ix 10 (zs s48 0) (zn s48 3)) fun x60=>cnd (chk (.ref mA) x60)
 (aQ O 219 [(zt (rf x60) 0),(zs s48 1)] fun x62=>cnd (chk (.tup [xH,.bool]) x62)
 (cnd (!(bC (tv x62 1)))
 (bnd (ix 10 (zs s48 0) (zn s48 3)) fun x64=>cnd (chk (.ref mA) x64)
 (aQ O 195 [(.agg [(zt (rf x64) 1),(zn (rf x64) 2),(zn (rf x64) 3)])] fun x66=>cnd (chk .bool x66)
 (cnd (bC x66)
 (bnd (ix 10 (zs s48 0) (zn s48 3)) fun x68=>cnd (chk (.ref mA) x68)
 (cnd (!(bv (rf x68) 4))
 (some (.ret,(pu (rb eO s48) 2 (.bool false)),[]))
 (some (.nrm,(pu (rb eO s48) 3 (i6 (w6 ((iv s48 3)+1)))),[]))) none)
 (some (.nrm,(pu (rb eO s48) 3 (i6 (w6 ((iv s48 3)+1)))),[]))) none) none)
 (some (.nrm,(pu (rb eO s48) 3 (i6 (w6 ((iv s48 3)+1)))),[]))) none) none)
 (some (.brk 4,(rb eO s48),[]))) none) none
def aEN (O:Orc) (LP:LBs) (s:GSchema) (l0:List GParam) (m:List GMember):Option (PV×UP) :=
 bnd (LP (aEL O LP) [(zq aX l0),(zq aE m),(.ptr 0 3 0),(.bool false),(i6 0),(zq aM s.defs),(.str s.query),(.str s.mutation)] []) fun y47 =>
 exIs y47.1 (some 0) (cnd (chkL iA y47.2.1) (cnd (chkU [] y47.2.2)
 (bnd (LP (aEM O LP) [(zs y47.2.1 0),(zs y47.2.1 1),(zb y47.2.1 3),(i6 0),(zs y47.2.1 5),(zt y47.2.1 6),(zt y47.2.1 7)] []) fun y72 =>
 exIs y72.1 (some 4) (cnd (chkL eO y72.2.1) (cnd (chkU [] y72.2.2)
 (some ((.bool true),[])) none) none)
 (exIs y72.1 none (cnd (chkL eO y72.2.1) (cnd (chkU [] y72.2.2)
 (some ((zb y72.2.1 2),[])) none) none)
 (none))) none) none)
 (exIs y47.1 none (cnd (chkL iA y47.2.1) (cnd (chkU [] y47.2.2)
 (some ((zb y47.2.1 3),[])) none) none)
 (none))
noncomputable def wO (m:List GMember) (i_23:Int):Int→Option (Int⊕(Unit⊕Unit))
 | k_37 =>
 cnd (decide (k_37<i_23))
  (bnd (nthI m k_37) fun y39 =>
  bnd (nthI m i_23) fun y41 =>
  cnd (y39.name==y41.name)
  (some (.inr (.inr ())))
  (some (.inl (IntKind.wrap .i64 (k_37+1)))))
  (some (.inr (.inl ())))
abbrev aCj (s:GSchema) (l0:List GParam) (m:List GMember) (i_23:Int) (y27:GParam×Bool) (a0:PV):List PV:=[(zq aX l0),(zq aE m),(.ptr 0 3 0),(.bool false),(i6 i_23),a0,(.str y27.1.name),(.str y27.1.t.name),(i6 y27.1.t.lists),(i6 y27.1.t.musts),(.bool y27.1.has),(i6 y27.1.default.kind),(i6 y27.1.default.n),(.str y27.1.default.s),(zq aI y27.1.default.l),(zq aE y27.1.default.m),(zq aM s.defs),(.str s.query),(.str s.mutation)]
abbrev aHZ (s:GSchema) (l0:List GParam) (m:List GMember) (i_23:Int) (y27:GParam×Bool) (st:Int) (l:List PV) (u:UP):Prop:=l=(aCj s l0 m i_23 y27 (i6 st))∧u=[]
abbrev aRB (s:GSchema) (l0:List GParam) (m:List GMember) (i_23:Int) (y27:GParam×Bool) (p:Unit⊕Unit) (r:EU):Prop:=elim p (fun (p:Unit)=>∃ (k_42:Int),r=(Ex.brk 2,(aCj s l0 m i_23 y27 (i6 k_42)),[])) (fun (p:Unit)=>∃ (k_43:Int),r=(Ex.ret,(aCj s l0 m i_23 y27 (i6 k_43)),[]))
noncomputable def wP (s:GSchema) (l0:List GParam) (m:List GMember):Int→Option (Int⊕(Unit⊕Unit))
 | i_23 =>
 cnd (decide (i_23<(List.length m:Int)))
  (bnd (nthI m i_23) fun y25 =>
  bnd (aOe l0 y25.name) fun y27 =>
  cnd (!y27.2)
  (some (.inr (.inr ())))
  (bnd (nthI m i_23) fun y29 =>
  bnd (wE s y27.1.t y29.v true) fun y31 =>
  cnd (!y31)
   (some (.inr (.inr ())))
   (bnd (aY (wO m i_23) 0) fun e44_2=>elim e44_2
   (fun p44 =>
   some (.inl (IntKind.wrap .i64 (i_23+1))))
   (fun p44 =>
   some (.inr (.inr ()))))))
  (some (.inr (.inl ())))
abbrev aCk (s:GSchema) (l0:List GParam) (m:List GMember) (a0:PV):List PV:=[(zq aX l0),(zq aE m),(.ptr 0 3 0),(.bool false),a0,(zq aM s.defs),(.str s.query),(.str s.mutation)]
abbrev aRC (s:GSchema) (l0:List GParam) (m:List GMember) (st:Int) (l:List PV) (u:UP):Prop:=l=(aCk s l0 m (i6 st))∧u=[]
abbrev aRD (s:GSchema) (l0:List GParam) (m:List GMember) (p:Unit⊕Unit) (r:EU):Prop:=elim p (fun (p:Unit)=>∃ (i_45:Int),r=(Ex.brk 0,(aCk s l0 m (i6 i_45)),[])) (fun (p:Unit)=>∃ (i_46:Int),r=(Ex.ret,(aCk s l0 m (i6 i_46)),[]))
noncomputable def wQ (l0:List GParam) (m:List GMember):Int→Option (Int⊕(Unit⊕Unit))
 | i_59 =>
 cnd (decide (i_59<(List.length l0:Int)))
  (bnd (nthI l0 i_59) fun y61 =>
  bnd (aWs y61.name m) fun y63 =>
  cnd (!y63.2)
  (bnd (nthI l0 i_59) fun y65 =>
  bnd (bEf y65.t) fun y67 =>
  cnd y67
   (bnd (nthI l0 i_59) fun y69 =>
   cnd (!y69.has)
   (some (.inr (.inr ())))
   (some (.inl (IntKind.wrap .i64 (i_59+1)))))
   (some (.inl (IntKind.wrap .i64 (i_59+1)))))
  (some (.inl (IntKind.wrap .i64 (i_59+1)))))
  (some (.inr (.inl ())))
abbrev aCl (s:GSchema) (l0:List GParam) (m:List GMember) (a0:PV):List PV:=[(zq aX l0),(zq aE m),(.bool false),a0,(zq aM s.defs),(.str s.query),(.str s.mutation)]
abbrev aH0 (s:GSchema) (l0:List GParam) (m:List GMember) (st:Int) (l:List PV) (u:UP):Prop:=l=(aCl s l0 m (i6 st))∧u=[]
abbrev aRE (s:GSchema) (l0:List GParam) (m:List GMember) (p:Unit⊕Unit) (r:EU):Prop:=elim p (fun (p:Unit)=>∃ (i_70:Int),r=(Ex.brk 4,(aCl s l0 m (i6 i_70)),[])) (fun (p:Unit)=>∃ (i_71:Int),r=(Ex.ret,(aCl s l0 m (i6 i_71)),[]))
noncomputable def zW (s:GSchema) (l0:List GParam) (m:List GMember):Option Bool :=
 bnd (aY (wP s l0 m) 0) fun e47_2=>elim e47_2
 (fun p47 =>
 bnd (aY (wQ l0 m) 0) fun e72_2=>elim e72_2
 (fun p72 =>
 some true)
 (fun p72 =>
 some false))
 (fun p47 =>
 some false)
def aUz:Decs:={decs:=[(24,(.ref dU)),(27,(.tup [mA,.bool])),(38,(.ref dU)),(41,.bool),(51,(.ref dU)),(56,(.ref dU)),(69,(.ref mA)),(73,(.tup [xH,.bool])),(81,(.ref mA)),(84,.bool),(89,(.ref mA))],loops:=[(2,[(3,3)],⟨iA,[],[(some 0,iA,[]),(none,iA,[])]⟩),(8,[(8,10),(3,3)],⟨lF,[],[(some 2,lF,[]),(none,lF,[])]⟩),(13,[(3,3)],⟨eO,[],[(some 4,eO,[]),(none,eO,[])]⟩)]}
theorem aUA (O:Orc) (LP:LBs) (s:GSchema) (l0:List GParam) (m:List GMember):eW 225 aUz Tryz.f225 O LP [(eS s),(zq aX l0),(zq aE m)] []=aEN O LP s l0 m:=by kernel_rfl
theorem aL4 (s:GSchema) (l0:List GParam) (m:List GMember) (i_23:Int) (y27:GParam×Bool):∀ st l u,aHZ s l0 m i_23 y27 st l u→Imp (wO m i_23 st) (aEK O aF l u) (oE (aHZ s l0 m i_23 y27) (aRB s l0 m i_23 y27)):=by
 rintro k_37 l u ⟨rfl,rfl⟩
 simp only [wO,aEK,zd,zr]
 refine zG ?_
 try simp only [evs,tys]
 apply Imp.cnd
 ·refine zX aE fY fun y39 _ => ?_
  try simp only [evs,tys]
  refine zX aE fY fun y41 _ => ?_
  try simp only [evs,tys]
  apply Imp.cnd
  ·exact zT ⟨k_37,zE⟩
  ·exact zN
 ·exact zB ⟨k_37,zE⟩
theorem aL5 (s:GSchema) (l0:List GParam) (m:List GMember):Lok (aRC s l0 m) (wP s l0 m) (aEL O aF) (aRD s l0 m):=by
 rintro i_23 l u ⟨rfl,rfl⟩
 simp only [wP,aEL,zd,zr]
 refine zG ?_
 try simp only [evs,tys]
 apply Imp.cnd
 ·refine zX aE fY fun y25 _ => ?_
  try simp only [evs,tys]
  refine zC rfl fun y27 _ => ?_
  try simp only [zes,evs,tys]
  apply Imp.cnd
  ·exact zT ⟨i_23,zE⟩
  ·refine zX aE fY fun y29 _ => ?_
   try simp only [evs,tys]
   refine zC rfl fun y31 _ => ?_
   try simp only [zes,evs,tys]
   apply Imp.cnd
   ·exact zT ⟨i_23,zE⟩
   ·refine zL (aL4 s l0 m i_23 y27) ?_
    rintro (p | p) vy44 hy44
    ·try simp only [aN,aO]
     obtain ⟨k_42,rfl⟩:=hy44
     refine zH ?_
     try simp only [evs,tys]
     exact zN
    ·try simp only [aN,aO]
     obtain ⟨k_43,rfl⟩:=hy44
     refine Imp.exMiss rfl ?_
     refine zH ?_
     try simp only [evs,tys]
     exact zT ⟨i_23,zE⟩
 ·exact zB ⟨i_23,zE⟩
theorem aL6 (s:GSchema) (l0:List GParam) (m:List GMember):∀ st l u,aH0 s l0 m st l u→Imp (wQ l0 m st) (aEM O aF l u) (oE (aH0 s l0 m) (aRE s l0 m)):=by
 rintro i_59 l u ⟨rfl,rfl⟩
 simp only [wQ,aEM,zd,zr]
 refine zG ?_
 try simp only [evs,tys]
 apply Imp.cnd
 ·refine zX aX qD fun y61 _ => ?_
  try simp only [evs,tys]
  refine zC rfl fun y63 _ => ?_
  try simp only [zes,evs,tys]
  apply Imp.cnd
  ·refine zX aX qD fun y65 _ => ?_
   try simp only [evs,tys]
   refine zC rfl fun y67 _ => ?_
   try simp only [zes,evs,tys]
   apply Imp.cnd
   ·refine zX aX qD fun y69 _ => ?_
    try simp only [evs,tys]
    apply Imp.cnd
    ·exact zT ⟨i_59,zE⟩
    ·exact zN
   ·exact zN
  ·exact zN
 ·exact zB ⟨i_59,zE⟩
theorem aRF (s:GSchema) (l0:List GParam) (m:List GMember):Imp (zW s l0 m) (aEN O aF s l0 m) (Ri aA):=by
 simp only [zW,aEN,zd,zr]
 try simp only [evs,tys]
 refine zL (aL5 s l0 m) ?_
 rintro (p | p) vy47 hy47
 ·try simp only [aN,aO]
  obtain ⟨i_45,rfl⟩:=hy47
  refine zH ?_
  try simp only [evs,tys]
  refine zL (aL6 s l0 m) ?_
  rintro (p | p) vy72 hy72
  ·try simp only [aN,aO]
   obtain ⟨i_70,rfl⟩:=hy72
   refine zH ?_
   try simp only [evs,tys]
   exact zR
  ·try simp only [aN,aO]
   obtain ⟨i_71,rfl⟩:=hy72
   refine Imp.exMiss rfl ?_
   refine zH ?_
   try simp only [evs,tys]
   exact zR
 ·try simp only [aN,aO]
  obtain ⟨i_46,rfl⟩:=hy47
  refine Imp.exMiss rfl ?_
  refine zH ?_
  try simp only [evs,tys]
  exact zR
theorem aRG {s:GSchema} {l0:List GParam} {m:List GMember} {r:Bool} (h:zW s l0 m=some r):aC8 s l0 m=some r:=zV aD (aRF s l0 m) Tryz.func225 (aUA _ _ s l0 m) h
def aKn (O:Orc) (LP:LBs):bM:=fun s1 s1u=>cnd (chkL [.str,n6,n6] s1) (cnd (chkU [] s1u)
 (cnd (decide ((w6 ((iv s1 1)+(iv s1 2)))<(List.length (sv s1 0):Int)))
 (bnd (xA (zt s1 0) (i6 (w6 ((iv s1 1)+(iv s1 2))))) fun x7=>cnd (chk (.int .u8) x7)
 (aQ O 170 [(.int .u8 (intV x7))] fun x9=>cnd (chk .bool x9)
 (cnd (bC x9)
 (some (.nrm,[(zt s1 0),(zn s1 1),(i6 (w6 ((iv s1 2)+1)))],[]))
 (some (.brk 0,[(zt s1 0),(zn s1 1),(zn s1 2)],[]))) none) none)
 (some (.brk 0,[(zt s1 0),(zn s1 1),(zn s1 2)],[]))) none) none
def aKo (O:Orc) (LP:LBs) (s:Str) (i:Int):Option (PV×UP) :=
 bnd (LP (aKn O LP) [(.str s),(i6 i),(i6 0)] []) fun y12 =>
 exIs y12.1 (some 0) (cnd (chkL [.str,n6,n6] y12.2.1) (cnd (chkU [] y12.2.2)
 (some ((zn y12.2.1 2),[])) none) none)
 (none)
noncomputable def aDf (s:Str) (i:Int):Int→Option (Int⊕Int)
 | n_6 =>
 cnd (decide ((IntKind.wrap .i64 (i+n_6))<(List.length s:Int)))
  (bnd (nthI s (IntKind.wrap .i64 (i+n_6))) fun y8 =>
  bnd (aI1 (y8.toNat:Int)) fun y10 =>
  cnd y10
  (some (.inl (IntKind.wrap .i64 (n_6+1))))
  (some (.inr n_6)))
  (some (.inr n_6))
abbrev aYi (s:Str) (i:Int) (st:Int) (l:List PV) (u:UP):Prop:=l=[(.str s),(i6 i),(i6 st)]∧u=[]
abbrev aYj (s:Str) (i:Int) (p:Int) (r:EU):Prop:=(fun (p:Int)=>r=(Ex.brk 0,[(.str s),(i6 i),(i6 p)],[])) p
noncomputable def aFR (s:Str) (i:Int):Option Int :=
 bnd (aY (aDf s i) 0) fun n_11 =>
 some n_11
def bAL:Decs:={decs:=[(17,(.int .u8)),(18,.bool)],loops:=[(2,[],⟨[.str,n6,n6],[],[(some 0,[.str,n6,n6],[])]⟩)]}
theorem bAM (O:Orc) (LP:LBs) (s:Str) (i:Int):eW 250 bAL Tryz.f250 O LP [(.str s),(i6 i)] []=aKo O LP s i:=by kernel_rfl
theorem aRH (s:Str) (i:Int):Lok (aYi s i) (aDf s i) (aKn O aF) (aYj s i):=by
 rintro n_6 l u ⟨rfl,rfl⟩
 simp only [aDf,aKn,zd,zr]
 refine zG ?_
 try simp only [evs,tys]
 apply Imp.cnd
 ·refine Imp.op (f:=fun a => .int .u8 (a.toNat:Int)) (fun a h=>jJ h) (fun a=>rfl) fun y8 hy8 => ?_
  try simp only [evs,tys]
  refine zC rfl fun y10 _ => ?_
  try simp only [zes,evs,tys]
  apply Imp.cnd
  ·exact zN
  ·exact Imp.some (oE.brk zE)
 ·exact Imp.some (oE.brk zE)
theorem aYk (s:Str) (i:Int):Imp (aFR s i) (aKo O aF s i) (Ri dP):=by
 simp only [aFR,aKo,zd,zr]
 try simp only [evs,tys]
 refine zL (aRH s i) ?_
 rintro n_11 vy12 hy12
 cases hy12
 refine zH ?_
 try simp only [evs,tys]
 exact zR
theorem aYl {s:Str} {i:Int} {r:Int} (h:aFR s i=some r):aB4 s i=some r:=zV uN (aYk s i) Tryz.func250 (bAM _ _ s i) h
abbrev iI:List Sh:=[.str,n6,n6,n6,n6,n6,n6,n6]
def aGZ (O:Orc) (LP:LBs):bM:=fun s14 s14u=>cnd (chkL iI s14) (cnd (chkU [] s14u)
 (cnd (decide ((iv s14 7)<(iv s14 5)))
 (bnd (xA (zt s14 0) (i6 (w6 ((iv s14 1)+(iv s14 7))))) fun x21=>cnd (chk (.int .u8) x21)
 (cnd (decide ((w6 (intV x21))<128))
 (some (.ret,(pu (pu (rb iI s14) 2 (i6 0)) 3 (i6 0)),[]))
 (cnd (decide ((w6 (intV x21))>191))
 (some (.ret,(pu (pu (rb iI s14) 2 (i6 0)) 3 (i6 0)),[]))
 (some (.nrm,(pu (pu (rb iI s14) 4 (i6 (bits .or .i64 (w6 ((iv s14 4)*2 ^ min (Int.toNat 6) 64)) (bits .and .i64 (w6 (intV x21)) 63)))) 7 (i6 (w6 ((iv s14 7)+1)))),[])))) none)
 (some (.brk 1,(rb iI s14),[]))) none) none
def aG0 (O:Orc) (LP:LBs) (s:Str) (i:Int):Option (PV×UP) :=
 cnd (decide (i<0))
 (some ((.tuple [(i6 0),(i6 0)]),[]))
 (cnd (decide (i≥(List.length s:Int)))
 (some ((.tuple [(i6 0),(i6 0)]),[]))
 (bnd (xA (.str s) (i6 i)) fun x2=>cnd (chk (.int .u8) x2)
 (cnd (decide ((w6 (intV x2))<128))
 (some ((.tuple [(i6 (w6 (intV x2))),(i6 1)]),[]))
 (jn (fun (c_6:Int) (n_7:Int) (low_8:Int) (t_9:Bool) (t_10:Bool) (t_11:Bool) =>
 (cnd (decide (n_7>(w6 ((List.length s:Int)-i))))
 (some ((.tuple [(i6 0),(i6 0)]),[]))
 (bnd (LP (aGZ O LP) [(.str s),(i6 i),(i6 0),(i6 0),(i6 c_6),(i6 n_7),(i6 low_8),(i6 1)] []) fun y27 =>
 exIs y27.1 (some 1) (cnd (chkL iI y27.2.1) (cnd (chkU [] y27.2.2)
 (cnd (decide ((iv y27.2.1 4)<(iv y27.2.1 6)))
 (some ((.tuple [(i6 0),(i6 0)]),[]))
 (cnd (decide ((iv y27.2.1 4)>1114111))
 (some ((.tuple [(i6 0),(i6 0)]),[]))
 (cnd (decide ((iv y27.2.1 4)≥55296))
 (cnd (decide ((iv y27.2.1 4)<57344))
 (some ((.tuple [(i6 0),(i6 0)]),[]))
 (some ((.tuple [(zn y27.2.1 4),(zn y27.2.1 5)]),[])))
 (some ((.tuple [(zn y27.2.1 4),(zn y27.2.1 5)]),[]))))) none) none)
 (exIs y27.1 none (cnd (chkL iI y27.2.1) (cnd (chkU [] y27.2.2)
 (some ((.tuple [(zn y27.2.1 2),(zn y27.2.1 3)]),[])) none) none)
 (none))))) fun k5 =>
 cnd (decide ((w6 (intV x2))≥194))
 (cnd (decide ((w6 (intV x2))<224))
 (k5 (bits .and .i64 (w6 (intV x2)) 31) 2 128 true true (decide ((w6 (intV x2))<224)))
 (cnd (decide ((w6 (intV x2))≥224))
 (cnd (decide ((w6 (intV x2))<240))
 (k5 (bits .and .i64 (w6 (intV x2)) 15) 3 2048 false true (decide ((w6 (intV x2))<224)))
 (cnd (decide ((w6 (intV x2))≥240))
 (cnd (decide ((w6 (intV x2))<245))
 (k5 (bits .and .i64 (w6 (intV x2)) 7) 4 65536 false true (decide ((w6 (intV x2))<224)))
 (some ((.tuple [(i6 0),(i6 0)]),[])))
 (some ((.tuple [(i6 0),(i6 0)]),[]))))
 (cnd (decide ((w6 (intV x2))≥240))
 (cnd (decide ((w6 (intV x2))<245))
 (k5 (bits .and .i64 (w6 (intV x2)) 7) 4 65536 false true (decide ((w6 (intV x2))<224)))
 (some ((.tuple [(i6 0),(i6 0)]),[])))
 (some ((.tuple [(i6 0),(i6 0)]),[])))))
 (cnd (decide ((w6 (intV x2))≥224))
 (cnd (decide ((w6 (intV x2))<240))
 (k5 (bits .and .i64 (w6 (intV x2)) 15) 3 2048 false false false)
 (cnd (decide ((w6 (intV x2))≥240))
 (cnd (decide ((w6 (intV x2))<245))
 (k5 (bits .and .i64 (w6 (intV x2)) 7) 4 65536 false false false)
 (some ((.tuple [(i6 0),(i6 0)]),[])))
 (some ((.tuple [(i6 0),(i6 0)]),[]))))
 (cnd (decide ((w6 (intV x2))≥240))
 (cnd (decide ((w6 (intV x2))<245))
 (k5 (bits .and .i64 (w6 (intV x2)) 7) 4 65536 false false false)
 (some ((.tuple [(i6 0),(i6 0)]),[])))
 (some ((.tuple [(i6 0),(i6 0)]),[])))))) none))
noncomputable def aEO (s : Str) (i : Int) (n_7 : Int) : (Int × Int) → Option ((Int × Int) ⊕ (Int ⊕ Unit))
 | (c_18, k_19) =>
 cnd (decide (k_19 < n_7))
  (bnd (nthI s (IntKind.wrap .i64 (i + k_19))) fun y22 =>
  cnd (decide ((IntKind.wrap .i64 (y22.toNat : Int)) < 128))
  (some (.inr (.inr ())))
  (cnd (decide ((IntKind.wrap .i64 (y22.toNat : Int)) > 191))
   (some (.inr (.inr ())))
   (some (.inl ((bits .or .i64 (IntKind.wrap .i64 (c_18 * 2 ^ min (Int.toNat 6) 64)) (bits .and .i64 (IntKind.wrap .i64 (y22.toNat : Int)) 63)), (IntKind.wrap .i64 (k_19 + 1)))))))
  (some (.inr (.inl c_18)))
abbrev aKp (s:Str) (i:Int) (n_7:Int) (low_8:Int) (st:Int×Int) (l:List PV) (u:UP):Prop:=l=[(.str s),(i6 i),(i6 0),(i6 0),(i6 st.1),(i6 n_7),(i6 low_8),(i6 st.2)]∧u=[]
abbrev aUB (s:Str) (i:Int) (n_7:Int) (low_8:Int) (p:Int⊕Unit) (r:EU):Prop:=elim p (fun (p:Int)=>∃ (k_24:Int),r=(Ex.brk 1,[(.str s),(i6 i),(i6 0),(i6 0),(i6 p),(i6 n_7),(i6 low_8),(i6 k_24)],[])) (fun q2=>(fun (p:Unit)=>∃ (c_25:Int),∃ (k_26:Int),r=(Ex.ret,[(.str s),(i6 i),(i6 0),(i6 0),(i6 c_25),(i6 n_7),(i6 low_8),(i6 k_26)],[])) q2)
noncomputable def aCm (s:Str) (i:Int):Option (Int×Int) :=
 cnd (decide (i<0))
 (some (0,0))
 (cnd (decide (i≥(List.length s:Int)))
 (some (0,0))
 (bnd (nthI s i) fun y3 =>
 cnd (decide ((IntKind.wrap .i64 (y3.toNat:Int))<128))
 (some ((IntKind.wrap .i64 (y3.toNat:Int)),1))
 (jn (fun (c_6:Int) (n_7:Int) (low_8:Int) (t_9:Bool) (t_10:Bool) (t_11:Bool) =>
 (cnd (decide (n_7>(IntKind.wrap .i64 ((List.length s:Int)-i))))
 (some (0,0))
 (bnd (aY (aEO s i n_7) (c_6,1)) fun e27_2=>elim e27_2
 (fun c_23 =>
 cnd (decide (c_23<low_8))
 (some (0,0))
 (cnd (decide (c_23>1114111))
 (some (0,0))
 (cnd (decide (c_23≥55296))
 (cnd (decide (c_23<57344))
 (some (0,0))
 (some (c_23,n_7)))
 (some (c_23,n_7)))))
 (fun p27 =>
 some (0,0))))) fun k5 =>
 cnd (decide ((IntKind.wrap .i64 (y3.toNat:Int))≥194))
 (cnd (decide ((IntKind.wrap .i64 (y3.toNat:Int))<224))
 (k5 (bits .and .i64 (IntKind.wrap .i64 (y3.toNat:Int)) 31) 2 128 true true (decide ((IntKind.wrap .i64 (y3.toNat:Int))<224)))
 (cnd (decide ((IntKind.wrap .i64 (y3.toNat:Int))≥224))
 (cnd (decide ((IntKind.wrap .i64 (y3.toNat:Int))<240))
 (k5 (bits .and .i64 (IntKind.wrap .i64 (y3.toNat:Int)) 15) 3 2048 false true (decide ((IntKind.wrap .i64 (y3.toNat:Int))<224)))
 (cnd (decide ((IntKind.wrap .i64 (y3.toNat:Int))≥240))
 (cnd (decide ((IntKind.wrap .i64 (y3.toNat:Int))<245))
 (k5 (bits .and .i64 (IntKind.wrap .i64 (y3.toNat:Int)) 7) 4 65536 false true (decide ((IntKind.wrap .i64 (y3.toNat:Int))<224)))
 (some (0,0)))
 (some (0,0))))
 (cnd (decide ((IntKind.wrap .i64 (y3.toNat:Int))≥240))
 (cnd (decide ((IntKind.wrap .i64 (y3.toNat:Int))<245))
 (k5 (bits .and .i64 (IntKind.wrap .i64 (y3.toNat:Int)) 7) 4 65536 false true (decide ((IntKind.wrap .i64 (y3.toNat:Int))<224)))
 (some (0,0)))
 (some (0,0)))))
 (cnd (decide ((IntKind.wrap .i64 (y3.toNat:Int))≥224))
 (cnd (decide ((IntKind.wrap .i64 (y3.toNat:Int))<240))
 (k5 (bits .and .i64 (IntKind.wrap .i64 (y3.toNat:Int)) 15) 3 2048 false false false)
 (cnd (decide ((IntKind.wrap .i64 (y3.toNat:Int))≥240))
 (cnd (decide ((IntKind.wrap .i64 (y3.toNat:Int))<245))
 (k5 (bits .and .i64 (IntKind.wrap .i64 (y3.toNat:Int)) 7) 4 65536 false false false)
 (some (0,0)))
 (some (0,0))))
 (cnd (decide ((IntKind.wrap .i64 (y3.toNat:Int))≥240))
 (cnd (decide ((IntKind.wrap .i64 (y3.toNat:Int))<245))
 (k5 (bits .and .i64 (IntKind.wrap .i64 (y3.toNat:Int)) 7) 4 65536 false false false)
 (some (0,0)))
 (some (0,0)))))))
def aYm:Decs:={decs:=[(21,(.int .u8)),(68,(.int .u8))],loops:=[(17,[],⟨iI,[],[(some 1,iI,[]),(none,iI,[])]⟩)]}
theorem aYn (O:Orc) (LP:LBs) (s:Str) (i:Int):eW 251 aYm Tryz.f251 O LP [(.str s),(i6 i)] []=aG0 O LP s i:=by kernel_rfl
theorem aOC (s:Str) (i:Int) (n_7:Int) (low_8:Int):∀ st l u,aKp s i n_7 low_8 st l u→Imp (aEO s i n_7 st) (aGZ O aF l u) (oE (aKp s i n_7 low_8) (aUB s i n_7 low_8)):=by
 rintro ⟨c_18,k_19⟩ l u ⟨rfl,rfl⟩
 simp only [aEO,aGZ,zd,zr]
 refine zG ?_
 try simp only [evs,tys]
 apply Imp.cnd
 ·refine Imp.op (f:=fun a => .int .u8 (a.toNat:Int)) (fun a h=>jJ h) (fun a=>rfl) fun y22 hy22 => ?_
  try simp only [evs,tys]
  apply Imp.cnd
  ·exact zT ⟨c_18,k_19,zE⟩
  ·apply Imp.cnd
   ·exact zT ⟨c_18,k_19,zE⟩
   ·exact zN
 ·exact zB ⟨k_19,zE⟩
theorem aUC (s:Str) (i:Int):Imp (aCm s i) (aG0 O aF s i) (Ri jM):=by
 simp only [aCm,aG0,zd,zr]
 try simp only [evs,tys]
 apply Imp.cnd
 ·exact zR
 ·apply Imp.cnd
  ·exact zR
  ·refine Imp.op (f:=fun a => .int .u8 (a.toNat:Int)) (fun a h=>jJ h) (fun a=>rfl) fun y3 hy3 => ?_
   try simp only [evs,tys]
   apply Imp.cnd
   ·exact zR
   ·refine Imp.jn (fun I k2 k1=>∀ (c_6:Int) (n_7:Int) (low_8:Int) (t_9:Bool) (t_10:Bool) (t_11:Bool),I (k2 c_6 n_7 low_8 t_9 t_10 t_11) (k1 c_6 n_7 low_8 t_9 t_10 t_11)) (fun c_6 n_7 low_8 t_9 t_10 t_11 => ?_) fun k5 k5t hk5 => ?_
    ·dsimp only
     try simp only [evs,tys]
     apply Imp.cnd
     ·exact zR
     ·refine zL (aOC s i n_7 low_8) ?_
      rintro (c_23 | p) vy27 hy27
      ·try simp only [aN,aO]
       obtain ⟨k_24,rfl⟩:=hy27
       refine zH ?_
       try simp only [evs,tys]
       apply Imp.cnd
       ·exact zR
       ·apply Imp.cnd
        ·exact zR
        ·apply Imp.cnd
         ·apply Imp.cnd
          ·exact zR
          ·exact zR
         ·exact zR
      ·try simp only [aN,aO]
       obtain ⟨c_25,k_26,rfl⟩:=hy27
       refine Imp.exMiss rfl ?_
       refine zH ?_
       try simp only [evs,tys]
       exact zR
    apply Imp.cnd
    ·apply Imp.cnd
     ·first | exact hk5 _ _ _ _ _ _ | simpa only [evs,tys,evl] using hk5 _ _ _ _ _ _
     ·apply Imp.cnd
      ·apply Imp.cnd
       ·first | exact hk5 _ _ _ _ _ _ | simpa only [evs,tys,evl] using hk5 _ _ _ _ _ _
       ·apply Imp.cnd
        ·apply Imp.cnd
         ·first | exact hk5 _ _ _ _ _ _ | simpa only [evs,tys,evl] using hk5 _ _ _ _ _ _
         ·exact zR
        ·exact zR
      ·apply Imp.cnd
       ·apply Imp.cnd
        ·first | exact hk5 _ _ _ _ _ _ | simpa only [evs,tys,evl] using hk5 _ _ _ _ _ _
        ·exact zR
       ·exact zR
    ·apply Imp.cnd
     ·apply Imp.cnd
      ·first | exact hk5 _ _ _ _ _ _ | simpa only [evs,tys,evl] using hk5 _ _ _ _ _ _
      ·apply Imp.cnd
       ·apply Imp.cnd
        ·first | exact hk5 _ _ _ _ _ _ | simpa only [evs,tys,evl] using hk5 _ _ _ _ _ _
        ·exact zR
       ·exact zR
     ·apply Imp.cnd
      ·apply Imp.cnd
       ·first | exact hk5 _ _ _ _ _ _ | simpa only [evs,tys,evl] using hk5 _ _ _ _ _ _
       ·exact zR
      ·exact zR
theorem aUD {s:Str} {i:Int} {r:Int×Int} (h:aCm s i=some r):aTL s i=some r:=zV aHN (aUC s i) Tryz.func251 (aYn _ _ s i) h
abbrev jX:List Sh:=[(.vec 1),(.ptr 0 6 0),sf,n6,n6,sf,n6,n6,n6,.str,.str,sf,sf,.str,sf]
def uR (O:Orc) (LP:LBs):bM:=fun s28 s28u=>cnd (chkL jX s28) (cnd (chkU [] s28u)
 (cnd (decide ((iv s28 7)<(iv s28 6)))
 (bnd (ix 2 (zs s28 5) (zn s28 7)) fun x35=>cnd (chk (.ref aQL) x35)
 (aQ O 151 [(.vec 1 (vecV (gt s28 0))),(zs (rf x35) 1)] fun x37=>cnd (chk (.vec 1) x37)
 (some (.nrm,(pu (pu (rb jX s28) 0 (.vec 1 (vecV x37))) 7 (i6 (w6 ((iv s28 7)+1)))),[])) none) none)
 (some (.brk 2,(pu (rb jX s28) 0 (.vec 1 (vecV (gt s28 0)))),[]))) none) none
abbrev jY:List Sh:=[(.vec 1),sf,n6,n6]
def uS (O:Orc) (LP:LBs):bM:=fun s1 s1u=>cnd (chkL jY s1) (cnd (chkU [] s1u)
 (cnd (decide ((iv s1 3)<(iv s1 2)))
 (bnd (ix 7 (zs s1 1) (zn s1 3)) fun x24=>cnd (chk (.ref mG) x24)
 (aQ O 151 [(.vec 1 (vecV (gt s1 0))),(zs (rf x24) 3)] fun x26=>cnd (chk (.vec 1) x26)
 (bnd (LP (uR O LP) [(.vec 1 (vecV x26)),(.ptr 0 6 0),(zs s1 1),(zn s1 2),(zn s1 3),(zs (rf x24) 4),(i6 (List.length (ev (rf x24) 4):Int)),(i6 0),(zn (rf x24) 0),(zt (rf x24) 1),(zt (rf x24) 2),(zs (rf x24) 3),(zs (rf x24) 4),(zt (rf x24) 5),(zs (rf x24) 6)] []) fun y41 =>
 exIs y41.1 (some 2) (cnd (chkL [(.vec 1),(.ptr 0 6 0),sf,n6,n6,sf,n6,n6,n6,.str,.str,sf,sf,.str,sf] y41.2.1) (cnd (chkU [] y41.2.2)
 (aQ O 80 [(.vec 1 (vecV (gt y41.2.1 0))),(zs y41.2.1 14)] fun x42=>cnd (chk (.vec 1) x42)
 (some (.nrm,[(.vec 1 (vecV x42)),(zs y41.2.1 2),(zn y41.2.1 3),(i6 (w6 ((iv y41.2.1 4)+1)))],[])) none) none) none)
 (none)) none) none)
 (some (.brk 0,(pu (rb jY s1) 0 (.vec 1 (vecV (gt s1 0)))),[]))) none) none
def uT (O:Orc) (LP:LBs) (sels:List GSel):Option (PV×UP) :=
 bnd (LP (uS O LP) [(.vec 1 []),(zq aG sels),(i6 (List.length (List.map aG sels):Int)),(i6 0)] []) fun y46 =>
 exIs y46.1 (some 0) (cnd (chkL jY y46.2.1) (cnd (chkU [] y46.2.2)
 (some ((.vec 1 (vecV (gt y46.2.1 0))),[])) none) none)
 (none)
noncomputable def gL (y25:GSel):((List Str)×Int)→Option (((List Str)×Int)⊕((List Str)))
 | (l_33,t_34) =>
 cnd (decide (t_34<(List.length y25.dirs:Int)))
  (bnd (nthI y25.dirs t_34) fun y36 =>
  bnd (aGK l_33 y36.args) fun y38 =>
  some (.inl (y38,(IntKind.wrap .i64 (t_34+1)))))
  (some (.inr l_33))
abbrev aBm (sels:List GSel) (t_23:Int) (y25:GSel) (a0 a1:PV):List PV:=[a0,(.ptr 0 6 0),(zq aG sels),(i6 (List.length sels:Int)),(i6 t_23),(zq aK y25.dirs),(i6 (List.length y25.dirs:Int)),a1,(i6 y25.kind),(.str y25.alias),(.str y25.name),(zq aE y25.args),(zq aK y25.dirs),(.str y25.on_),(zq aG y25.sels)]
abbrev aBn (sels:List GSel) (t_23:Int) (y25:GSel) (st:(List Str)×Int) (l:List PV) (u:UP):Prop:=l=(aBm sels t_23 y25 (.vec 1 (List.map PV.str st.1)) (i6 st.2))∧u=[]
abbrev aIl (sels:List GSel) (t_23:Int) (y25:GSel) (p:(List Str)) (r:EU):Prop:=∃ (t_40:Int),r=(Ex.brk 2,(aBm sels t_23 y25 (.vec 1 (List.map PV.str p)) (i6 t_40)),[])
noncomputable def gM (sels:List GSel):((List Str)×Int)→Option (((List Str)×Int)⊕((List Str)))
 | (l_22,t_23) =>
 cnd (decide (t_23<(List.length sels:Int)))
  (bnd (nthI sels t_23) fun y25 =>
  bnd (aGK l_22 y25.args) fun y27 =>
  bnd (aY (gL y25) (y27,0)) fun l_39 =>
  bnd (iO l_39 y25.sels) fun y43 =>
  some (.inl (y43,(IntKind.wrap .i64 (t_23+1)))))
  (some (.inr l_22))
abbrev aIm (sels:List GSel) (st:(List Str)×Int) (l:List PV) (u:UP):Prop:=l=[(.vec 1 (List.map PV.str st.1)),(zq aG sels),(i6 (List.length sels:Int)),(i6 st.2)]∧u=[]
abbrev aIn (sels:List GSel) (p:(List Str)) (r:EU):Prop:=(fun (p:(List Str))=>∃ (t_45:Int),r=(Ex.brk 0,[(.vec 1 (List.map PV.str p)),(zq aG sels),(i6 (List.length sels:Int)),(i6 t_45)],[])) p
noncomputable def qX (sels:List GSel):Option (List Str) :=
 bnd (aY (gM sels) ([],0)) fun l_44 =>
 some l_44
def aKq:Decs:={decs:=[(13,(.ref mG)),(18,(.vec 1)),(24,(.ref aQL)),(29,(.vec 1)),(34,(.vec 1))],loops:=[(2,[],⟨jY,[],[(some 0,jY,[])]⟩),(6,[(6,7)],⟨jX,[],[(some 2,jX,[])]⟩)]}
theorem aKr (O:Orc) (LP:LBs) (sels:List GSel):eW 80 aKq Tryz.f80 O LP [(.slice [] [] true),(zq aG sels)] []=uT O LP sels:=by kernel_rfl
theorem aFS (sels:List GSel) (t_23:Int) (y25:GSel):∀ st l u,aBn sels t_23 y25 st l u→Imp (gL y25 st) (uR O aF l u) (oE (aBn sels t_23 y25) (aIl sels t_23 y25)):=by
 rintro ⟨l_33,t_34⟩ l u ⟨rfl,rfl⟩
 simp only [gL,uR,zd,zr]
 refine zG ?_
 try simp only [evs,tys]
 apply Imp.cnd
 ·refine zX aK aIX fun y36 _ => ?_
  try simp only [evs,tys]
  refine zC rfl fun y38 _ => ?_
  try simp only [zes,evs,tys]
  exact zN
 ·exact zB ⟨t_34,zE⟩
theorem aFT (sels:List GSel):Lok (aIm sels) (gM sels) (uS O aF) (aIn sels):=by
 rintro ⟨l_22,t_23⟩ l u ⟨rfl,rfl⟩
 simp only [gM,uS,zd,zr]
 refine zG ?_
 try simp only [evs,tys]
 apply Imp.cnd
 ·refine zX aG gU fun y25 _ => ?_
  try simp only [evs,tys]
  refine zC rfl fun y27 _ => ?_
  try simp only [zes,evs,tys]
  refine zL (aFS sels t_23 y25) ?_
  rintro l_39 _ ⟨t_40,rfl⟩
  refine zH ?_
  try simp only [evs,tys]
  refine zC rfl fun y43 _ => ?_
  try simp only [zes,evs,tys]
  exact zN
 ·exact zB ⟨t_23,zE⟩
theorem aIo (sels:List GSel):Imp (qX sels) (uT O aF sels) (Ri eF):=by
 simp only [qX,uT,zd,zr]
 try simp only [evs,tys]
 refine zL (aFT sels) ?_
 rintro l_44 _ ⟨t_45,rfl⟩
 refine zH ?_
 try simp only [evs,tys]
 exact zR
theorem aIp {sels:List GSel} {r:List Str} (h:qX sels=some r):aB7 sels=some r:=zV qU (aIo sels) Tryz.func80 (aKr _ _ sels) h
end Go.Proofs.YtphmfillajagdaaGreat

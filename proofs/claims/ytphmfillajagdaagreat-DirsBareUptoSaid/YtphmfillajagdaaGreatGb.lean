import Derived.Test.YtphmfillajagdaaGreatGa
set_option maxRecDepth 100000
set_option linter.unusedVariables false
set_option linter.unusedSimpArgs false
set_option linter.unusedSimpArgs false
open Go Go.Ev Go.Ev.PV
namespace Go.Proofs.YtphmfillajagdaaGreat
def iM (O:Orc) (LP:LBs) (s:GSchema) (d:GDoc):Option (PV×UP) :=
 aT O 9 [(eS s),(eD d)] fun x1=>cnd (chk .bool x1)
 (cnd (!(bP x1))
 (aT O 12 [] fun x3=>cnd (chk .bool x3)
 (some ((.bool (bP x3)),[])) none)
 (aT O 16 [(eD d)] fun x5=>cnd (chk aYs x5)
 (aT O 10 [(eS s)] fun x7=>cnd (chk n6 x7)
 (cnd ((intV x7) != 0)
 (aT O 12 [] fun x9=>cnd (chk .bool x9)
 (some ((.bool (bP x9)),[])) none)
 (aT O 11 [(eS s),(.agg [(.slice (esV (gt (aggV x5) 0)) [] false),(.slice (esV (gt (aggV x5) 1)) [] false)]),(i6 12)] fun x11=>cnd (chk .bool x11)
 (cnd (!(bP x11))
 (aT O 12 [] fun x13=>cnd (chk .bool x13)
 (some ((.bool (bP x13)),[])) none)
 (aT O 15 [(eS s),(.agg [(.slice (esV (gt (aggV x5) 0)) [] false),(.slice (esV (gt (aggV x5) 1)) [] false)]),(i6 12)] fun x15=>cnd (chk .bool x15)
 (cnd (bP x15)
 (aT O 15 [(eS s),(.agg [(.slice (esV (gt (aggV x5) 0)) [] false),(.slice (esV (gt (aggV x5) 1)) [] false)]),(i6 13)] fun x17=>cnd (chk .bool x17)
 (cnd (bP x17)
 (aT O 15 [(eS s),(.agg [(.slice (esV (gt (aggV x5) 0)) [] false),(.slice (esV (gt (aggV x5) 1)) [] false)]),(i6 14)] fun x19=>cnd (chk .bool x19)
 (cnd (bP x19)
 (aT O 12 [] fun x21=>cnd (chk .bool x21)
 (some ((.bool (bP x21)),[])) none)
 (some ((.bool false),[]))) none)
 (some ((.bool false),[]))) none)
 (some ((.bool false),[]))) none)) none)) none) none)) none
noncomputable def fH (s:GSchema) (d:GDoc):Option Bool :=
 bnd (pM s d) fun y2 =>
 cnd (!y2)
 (bnd (fA) fun y4 =>
 some y4)
 (bnd (mP d) fun y6 =>
 bnd (aSU s) fun y8 =>
 cnd (y8 != 0)
 (bnd (fA) fun y10 =>
 some y10)
 (bnd (aW0 s y6 12) fun y12 =>
 cnd (!y12)
 (bnd (fA) fun y14 =>
 some y14)
 (bnd (rH s y6 12) fun y16 =>
 cnd y16
 (bnd (rH s y6 13) fun y18 =>
 cnd y18
 (bnd (rH s y6 14) fun y20 =>
 cnd y20
 (bnd (fA) fun y22 =>
 some y22)
 (some false))
 (some false))
 (some false))))
def yB:Decs:={decs:=[(8,.bool),(10,.bool),(12,aYs),(14,n6),(19,.bool),(22,.bool),(25,.bool),(29,.bool),(34,.bool),(37,.bool)]}
theorem yC (O:Orc) (LP:LBs) (s:GSchema) (d:GDoc):eW 4 yB Tryz.f4 O LP [(eS s),(eD d)] []=iM O LP s d:=by kernel_rfl
theorem wA (s:GSchema) (d:GDoc):Imp (fH s d) (iM O aE s d) (Ri aA):=by
 simp only [fH,iM,zd,zr]
 try simp only [evs,tys]
 refine zC rfl fun y2 _ => ?_
 try simp only [zes,evs,tys]
 apply Imp.cnd
 ·refine zC rfl fun y4 _ => ?_
  try simp only [zes,evs,tys]
  exact zR
 ·refine zC rfl fun y6 _ => ?_
  try simp only [zes,evs,tys]
  refine zC rfl fun y8 _ => ?_
  try simp only [zes,evs,tys]
  apply Imp.cnd
  ·refine zC rfl fun y10 _ => ?_
   try simp only [zes,evs,tys]
   exact zR
  ·refine zC rfl fun y12 _ => ?_
   try simp only [zes,evs,tys]
   apply Imp.cnd
   ·refine zC rfl fun y14 _ => ?_
    try simp only [zes,evs,tys]
    exact zR
   ·refine zC rfl fun y16 _ => ?_
    try simp only [zes,evs,tys]
    apply Imp.cnd
    ·refine zC rfl fun y18 _ => ?_
     try simp only [zes,evs,tys]
     apply Imp.cnd
     ·refine zC rfl fun y20 _ => ?_
      try simp only [zes,evs,tys]
      apply Imp.cnd
      ·refine zC rfl fun y22 _ => ?_
       try simp only [zes,evs,tys]
       exact zR
      ·exact zR
     ·exact zR
    ·exact zR
theorem wB {s:GSchema} {d:GDoc} {r:Bool} (h:fH s d=some r):rC s d=some r:=zV aC (wA s d) Tryz.func4 (yC _ _ s d) h
def aEZ (O:Orc) (LP:LBs):bL:=fun s1 s1u=>cnd (chkL [sf,st',n6] s1) (cnd (chkU [] s1u)
 (cnd (decide ((iv s1 2)<(List.length (ev s1 0):Int)))
 (bnd (ix 7 (zs s1 0) (zn s1 2)) fun x14=>cnd (chk (.ref oT) x14)
 (aT O 103 [(zs (rf x14) 3)] fun x16=>cnd (chk sf x16)
 (aT O 36 [(zs (rf x14) 4)] fun x18=>cnd (chk sf x18)
 (aT O 37 [(zs (rf x14) 6)] fun x20=>cnd (chk sf x20)
 (bnd (apd 7 (zo s1 1) (.slice [(.agg [(zn (rf x14) 0),(zt (rf x14) 1),(zt (rf x14) 2),(.slice (esV x16) [] false),(.slice (esV x18) [] false),(zt (rf x14) 5),(.slice (esV x20) [] false)])] [] true)) fun x22=>cnd (chk st' x22)
 (some (.nrm,[(zs s1 0),(.slice (esV x22) [] true),(i6 (w6 ((iv s1 2)+1)))],[])) none) none) none) none) none)
 (some (.brk 0,[(zs s1 0),(zo s1 1),(zn s1 2)],[]))) none) none
def aE0 (O:Orc) (LP:LBs) (l0:List GSel):Option (PV×UP) :=
 bnd (LP (aEZ O LP) [(zq aG l0),(.slice [] [] true),(i6 0)] []) fun y26 =>
 exIs y26.1 (some 0) (cnd (chkL [sf,st',n6] y26.2.1) (cnd (chkU [] y26.2.2)
 (some ((zs y26.2.1 1),[])) none) none)
 (none)
noncomputable def kS (l0:List GSel):((List GSel)×Int)→Option (((List GSel)×Int)⊕((List GSel)))
 | (out_12,i_13) =>
 cnd (decide (i_13<(List.length l0:Int)))
  (bnd (nthI l0 i_13) fun y15 =>
  bnd (uL y15.args) fun y17 =>
  bnd (aLe y15.dirs) fun y19 =>
  bnd (aHG y15.sels) fun y21 =>
  bnd (tapp out_12 [(GSel.mk y15.kind y15.alias y15.name y17 y19 y15.on_ y21)]) fun y23 =>
  some (.inl (y23,(IntKind.wrap .i64 (i_13+1)))))
  (some (.inr out_12))
abbrev aQx (l0:List GSel) (st:(List GSel)×Int) (l:List PV) (u:UP):Prop:=l=[(zq aG l0),(zp aG st.1),(i6 st.2)]∧u=[]
abbrev aQy (l0:List GSel) (p:(List GSel)) (r:EU):Prop:=(fun (p:(List GSel))=>∃ (i_25:Int),r=(Ex.brk 0,[(zq aG l0),(zp aG p),(i6 i_25)],[])) p
noncomputable def aAt (l0:List GSel):Option (List GSel) :=
 bnd (bG (kS l0) ([],0)) fun out_24 =>
 some out_24
def aUs:Decs:={decs:=[(14,(.ref oT)),(18,sf),(21,sf),(24,sf),(31,st')],loops:=[(3,[],⟨[sf,st',n6],[],[(some 0,[sf,st',n6],[])]⟩)]}
theorem aUt (O:Orc) (LP:LBs) (l0:List GSel):eW 37 aUs Tryz.f37 O LP [(zq aG l0)] []=aE0 O LP l0:=by kernel_rfl
theorem aLi (l0:List GSel):Lok (aQx l0) (kS l0) (aEZ O aE) (aQy l0):=by
 rintro ⟨out_12,i_13⟩ l u ⟨rfl,rfl⟩
 simp only [kS,aEZ,zd,zr]
 refine zG ?_
 try simp only [evs,tys]
 apply Imp.cnd
 ·refine zX aG iQ fun y15 _ => ?_
  try simp only [evs,tys]
  refine zC rfl fun y17 _ => ?_
  try simp only [zes,evs,tys]
  refine zC rfl fun y19 _ => ?_
  try simp only [zes,evs,tys]
  refine zC rfl fun y21 _ => ?_
  try simp only [zes,evs,tys]
  refine Imp.op (f:=fun a => .slice (List.map aG a) [] true) (fun a h=>sD (enc:=aG) zI zI (fun a=>by first | rfl | simp only [evs,tys,evc]) h) (fun a=>rfl) fun y23 hy23 => ?_
  try simp only [evs,tys]
  exact zN
 ·exact zB ⟨i_13,zE⟩
theorem aQz (l0:List GSel):Imp (aAt l0) (aE0 O aE l0) (Ri qF):=by
 simp only [aAt,aE0,zd,zr]
 try simp only [evs,tys]
 refine zL (aLi l0) ?_
 rintro out_24 _ ⟨i_25,rfl⟩
 refine zH ?_
 try simp only [evs,tys]
 exact zR
theorem aHN {l0:List GSel} {r:List GSel} (h:aAt l0=some r):aHG l0=some r:=zV aNu (aQz l0) Tryz.func37 (aUt _ _ l0) h
def iN (O:Orc) (LP:LBs):bL:=fun s1 s1u=>cnd (chkL [sf,st',n6] s1) (cnd (chkU [] s1u)
 (cnd (decide ((iv s1 2)<(List.length (ev s1 0):Int)))
 (bnd (ix 7 (zs s1 0) (zn s1 2)) fun x10=>cnd (chk (.ref oT) x10)
 (aT O 43 [(zs (rf x10) 6)] fun x12=>cnd (chk sf x12)
 (bnd (apd 7 (zo s1 1) (.slice [(.agg [(zn (rf x10) 0),(zt (rf x10) 1),(zt (rf x10) 2),(zs (rf x10) 3),(.slice [] [] false),(zt (rf x10) 5),(.slice (esV x12) [] false)])] [] true)) fun x14=>cnd (chk st' x14)
 (some (.nrm,[(zs s1 0),(.slice (esV x14) [] true),(i6 (w6 ((iv s1 2)+1)))],[])) none) none) none)
 (some (.brk 0,[(zs s1 0),(zo s1 1),(zn s1 2)],[]))) none) none
def iO (O:Orc) (LP:LBs) (l0:List GSel):Option (PV×UP) :=
 bnd (LP (iN O LP) [(zq aG l0),(.slice [] [] true),(i6 0)] []) fun y18 =>
 exIs y18.1 (some 0) (cnd (chkL [sf,st',n6] y18.2.1) (cnd (chkU [] y18.2.2)
 (some ((zs y18.2.1 1),[])) none) none)
 (none)
noncomputable def bU (l0:List GSel):((List GSel)×Int)→Option (((List GSel)×Int)⊕((List GSel)))
 | (out_8,i_9) =>
 cnd (decide (i_9<(List.length l0:Int)))
  (bnd (nthI l0 i_9) fun y11 =>
  bnd (eP y11.sels) fun y13 =>
  bnd (tapp out_8 [(GSel.mk y11.kind y11.alias y11.name y11.args ([]:List GDir) y11.on_ y13)]) fun y15 =>
  some (.inl (y15,(IntKind.wrap .i64 (i_9+1)))))
  (some (.inr out_8))
abbrev wC (l0:List GSel) (st:(List GSel)×Int) (l:List PV) (u:UP):Prop:=l=[(zq aG l0),(zp aG st.1),(i6 st.2)]∧u=[]
abbrev wD (l0:List GSel) (p:(List GSel)) (r:EU):Prop:=(fun (p:(List GSel))=>∃ (i_17:Int),r=(Ex.brk 0,[(zq aG l0),(zp aG p),(i6 i_17)],[])) p
noncomputable def dP (l0:List GSel):Option (List GSel) :=
 bnd (bG (bU l0) ([],0)) fun out_16 =>
 some out_16
def yD:Decs:={decs:=[(14,(.ref oT)),(18,sf),(24,st')],loops:=[(3,[],⟨[sf,st',n6],[],[(some 0,[sf,st',n6],[])]⟩)]}
theorem yE (O:Orc) (LP:LBs) (l0:List GSel):eW 43 yD Tryz.f43 O LP [(zq aG l0)] []=iO O LP l0:=by kernel_rfl
theorem tM (l0:List GSel):Lok (wC l0) (bU l0) (iN O aE) (wD l0):=by
 rintro ⟨out_8,i_9⟩ l u ⟨rfl,rfl⟩
 simp only [bU,iN,zd,zr]
 refine zG ?_
 try simp only [evs,tys]
 apply Imp.cnd
 ·refine zX aG iQ fun y11 _ => ?_
  try simp only [evs,tys]
  refine zC rfl fun y13 _ => ?_
  try simp only [zes,evs,tys]
  refine Imp.op (f:=fun a => .slice (List.map aG a) [] true) (fun a h=>sD (enc:=aG) zI zI (fun a=>by first | rfl | simp only [evs,tys,evc]) h) (fun a=>rfl) fun y15 hy15 => ?_
  try simp only [evs,tys]
  exact zN
 ·exact zB ⟨i_9,zE⟩
theorem wE (l0:List GSel):Imp (dP l0) (iO O aE l0) (Ri qF):=by
 simp only [dP,iO,zd,zr]
 try simp only [evs,tys]
 refine zL (tM l0) ?_
 rintro out_16 _ ⟨i_17,rfl⟩
 refine zH ?_
 try simp only [evs,tys]
 exact zR
theorem mS {l0:List GSel} {r:List GSel} (h:dP l0=some r):eP l0=some r:=zV aNu (wE l0) Tryz.func43 (yE _ _ l0) h
abbrev fI:List Sh:=[(.ptr 0 2 0),(.ptr 0 3 0),st',n6,sf,sf,sf,.str,.str]
def aCr (O:Orc) (LP:LBs):bL:=fun s1 s1u=>cnd (chkL fI s1) (cnd (chkU [] s1u)
 (cnd (decide ((iv s1 3)<(List.length (ev s1 4):Int)))
 (bnd (ix 5 (zs s1 4) (zn s1 3)) fun x12=>cnd (chk (.ref shOp) x12)
 (aT O 116 [(.agg [(zs s1 6),(zt s1 7),(zt s1 8)]),(.agg [(zn (rf x12) 0),(zt (rf x12) 1),(zs (rf x12) 2),(zs (rf x12) 3),(zs (rf x12) 4)])] fun x14=>cnd (chk .str x14)
 (bnd (ix 5 (zs s1 4) (zn s1 3)) fun x16=>cnd (chk (.ref shOp) x16)
 (aT O 115 [(.agg [(zs s1 6),(zt s1 7),(zt s1 8)]),(.str (strV x14)),(zs (rf x16) 4),(zo s1 2)] fun x18=>cnd (chk st' x18)
 (some (.nrm,(pu (pu (rb fI s1) 2 (.slice (esV x18) [] true)) 3 (i6 (w6 ((iv s1 3)+1)))),[])) none) none) none) none)
 (some (.brk 0,(rb fI s1),[]))) none) none
abbrev aAu:List Sh:=[(.ptr 0 2 0),(.ptr 0 3 0),st',n6,sf,sf,sf,.str,.str]
def aCs (O:Orc) (LP:LBs):bL:=fun s23 s23u=>cnd (chkL aAu s23) (cnd (chkU [] s23u)
 (cnd (decide ((iv s23 3)<(List.length (ev s23 5):Int)))
 (bnd (ix 4 (zs s23 5) (zn s23 3)) fun x32=>cnd (chk (.ref iP) x32)
 (bnd (ix 4 (zs s23 5) (zn s23 3)) fun x34=>cnd (chk (.ref iP) x34)
 (aT O 115 [(.agg [(zs s23 6),(zt s23 7),(zt s23 8)]),(zt (rf x32) 1),(zs (rf x34) 3),(zo s23 2)] fun x36=>cnd (chk st' x36)
 (some (.nrm,(pu (pu (rb aAu s23) 2 (.slice (esV x36) [] true)) 3 (i6 (w6 ((iv s23 3)+1)))),[])) none) none) none)
 (some (.brk 2,(rb aAu s23),[]))) none) none
def aCt (O:Orc) (LP:LBs) (s:GSchema) (d:GDoc):Option (PV×UP) :=
 bnd (LP (aCr O LP) [(.ptr 0 2 0),(.ptr 0 3 0),(.slice [] [] true),(i6 0),(zq aU d.ops),(zq aF d.frags),(zq aI s.defs),(.str s.query),(.str s.mutation)] []) fun y22 =>
 exIs y22.1 (some 0) (cnd (chkL fI y22.2.1) (cnd (chkU [] y22.2.2)
 (bnd (LP (aCs O LP) [(.ptr 0 2 0),(.ptr 0 3 0),(zo y22.2.1 2),(i6 0),(zs y22.2.1 4),(zs y22.2.1 5),(zs y22.2.1 6),(zt y22.2.1 7),(zt y22.2.1 8)] []) fun y40 =>
 exIs y40.1 (some 2) (cnd (chkL fI y40.2.1) (cnd (chkU [] y40.2.2)
 (some ((zs y40.2.1 2),[])) none) none)
 (none)) none) none)
 (none)
noncomputable def lG (s:GSchema) (d:GDoc):((List GSeineref13Spot)×Int)→Option (((List GSeineref13Spot)×Int)⊕((List GSeineref13Spot)))
 | (out_10,i_11) =>
 cnd (decide (i_11<(List.length d.ops:Int)))
  (bnd (nthI d.ops i_11) fun y13 =>
  bnd (aQr s y13) fun y15 =>
  bnd (nthI d.ops i_11) fun y17 =>
  bnd (aDV s y15 y17.sels out_10) fun y19 =>
  some (.inl (y19,(IntKind.wrap .i64 (i_11+1)))))
  (some (.inr out_10))
abbrev aFM (s:GSchema) (d:GDoc) (a0 a1:PV):List PV:=[(.ptr 0 2 0),(.ptr 0 3 0),a0,a1,(zq aU d.ops),(zq aF d.frags),(zq aI s.defs),(.str s.query),(.str s.mutation)]
abbrev aNx (s:GSchema) (d:GDoc) (st:(List GSeineref13Spot)×Int) (l:List PV) (u:UP):Prop:=l=(aFM s d (zp aL st.1) (i6 st.2))∧u=[]
abbrev aNy (s:GSchema) (d:GDoc) (p:(List GSeineref13Spot)) (r:EU):Prop:=∃ (i_21:Int),r=(Ex.brk 0,(aFM s d (zp aL p) (i6 i_21)),[])
noncomputable def lH (s:GSchema) (d:GDoc):((List GSeineref13Spot)×Int)→Option (((List GSeineref13Spot)×Int)⊕((List GSeineref13Spot)))
 | (out_30,i_31) =>
 cnd (decide (i_31<(List.length d.frags:Int)))
  (bnd (nthI d.frags i_31) fun y33 =>
  bnd (nthI d.frags i_31) fun y35 =>
  bnd (aDV s y33.on_ y35.sels out_30) fun y37 =>
  some (.inl (y37,(IntKind.wrap .i64 (i_31+1)))))
  (some (.inr out_30))
abbrev aFN (s:GSchema) (d:GDoc) (a0 a1:PV):List PV:=[(.ptr 0 2 0),(.ptr 0 3 0),a0,a1,(zq aU d.ops),(zq aF d.frags),(zq aI s.defs),(.str s.query),(.str s.mutation)]
abbrev aNz (s:GSchema) (d:GDoc) (st:(List GSeineref13Spot)×Int) (l:List PV) (u:UP):Prop:=l=(aFN s d (zp aL st.1) (i6 st.2))∧u=[]
abbrev aNA (s:GSchema) (d:GDoc) (p:(List GSeineref13Spot)) (r:EU):Prop:=∃ (i_39:Int),r=(Ex.brk 2,(aFN s d (zp aL p) (i6 i_39)),[])
noncomputable def aBt (s:GSchema) (d:GDoc):Option (List GSeineref13Spot) :=
 bnd (bG (lG s d) ([],0)) fun out_20 =>
 bnd (bG (lH s d) (out_20,0)) fun out_38 =>
 some out_38
def aQA:Decs:={decs:=[(20,(.ref shOp)),(22,.str),(26,(.ref shOp)),(30,st'),(42,(.ref iP)),(48,(.ref iP)),(52,st')],loops:=[(3,[(3,2),(2,3)],⟨fI,[],[(some 0,fI,[])]⟩),(7,[(3,2),(2,3)],⟨fI,[],[(some 2,fI,[])]⟩)]}
theorem aQB (O:Orc) (LP:LBs) (s:GSchema) (d:GDoc):eW 58 aQA Tryz.f58 O LP [(eS s),(eD d)] []=aCt O LP s d:=by kernel_rfl
theorem aIN (s:GSchema) (d:GDoc):Lok (aNx s d) (lG s d) (aCr O aE) (aNy s d):=by
 rintro ⟨out_10,i_11⟩ l u ⟨rfl,rfl⟩
 simp only [lG,aCr,zd,zr]
 refine zG ?_
 try simp only [evs,tys]
 apply Imp.cnd
 ·refine zX aU aEM fun y13 _ => ?_
  try simp only [evs,tys]
  refine zC rfl fun y15 _ => ?_
  try simp only [zes,evs,tys]
  refine zX aU aEM fun y17 _ => ?_
  try simp only [evs,tys]
  refine zC rfl fun y19 _ => ?_
  try simp only [zes,evs,tys]
  exact zN
 ·exact zB ⟨i_11,zE⟩
theorem aIO (s:GSchema) (d:GDoc):Lok (aNz s d) (lH s d) (aCs O aE) (aNA s d):=by
 rintro ⟨out_30,i_31⟩ l u ⟨rfl,rfl⟩
 simp only [lH,aCs,zd,zr]
 refine zG ?_
 try simp only [evs,tys]
 apply Imp.cnd
 ·refine zX aF jD fun y33 _ => ?_
  try simp only [evs,tys]
  refine zX aF jD fun y35 _ => ?_
  try simp only [evs,tys]
  refine zC rfl fun y37 _ => ?_
  try simp only [zes,evs,tys]
  exact zN
 ·exact zB ⟨i_31,zE⟩
theorem aNB (s:GSchema) (d:GDoc):Imp (aBt s d) (aCt O aE s d) (Ri uJ):=by
 simp only [aBt,aCt,zd,zr]
 try simp only [evs,tys]
 refine zL (aIN s d) ?_
 rintro out_20 _ ⟨i_21,rfl⟩
 refine zH ?_
 try simp only [evs,tys]
 refine zL (aIO s d) ?_
 rintro out_38 _ ⟨i_39,rfl⟩
 refine zH ?_
 try simp only [evs,tys]
 exact zR
theorem aNC {s:GSchema} {d:GDoc} {r:List GSeineref13Spot} (h:aBt s d=some r):aSQ s d=some r:=zV aUm (aNB s d) Tryz.func58 (aQB _ _ s d) h
abbrev lI:List Sh:=[(.ptr 0 1 0),n6,st',n6,st',n6,sf,.str,.str]
def aCu (O:Orc) (LP:LBs):bL:=fun s107 s107u=>cnd (chkL lI s107) (cnd (chkU [] s107u)
 (cnd (decide ((iv s107 5)<(List.length (ev s107 4):Int)))
 (bnd (ix 1 (zs s107 4) (zn s107 5)) fun x118=>cnd (chk (.ref .str) x118)
 (aT O 29 [(zs s107 2),(.str (strV (refV x118)))] fun x120=>cnd (chk .bool x120)
 (cnd (!(bP x120))
 (bnd (ix 1 (zs s107 4) (zn s107 5)) fun x122=>cnd (chk (.ref .str) x122)
 (bnd (apd 1 (zo s107 2) (.slice [(.str (strV (refV x122)))] [] true)) fun x124=>cnd (chk st' x124)
 (some (.nrm,(pu (pu (rb lI s107) 2 (.slice (esV x124) [] true)) 5 (i6 (w6 ((iv s107 5)+1)))),[])) none) none)
 (some (.nrm,(pu (rb lI s107) 5 (i6 (w6 ((iv s107 5)+1)))),[]))) none) none)
 (some (.brk 4,(rb lI s107),[]))) none) none
abbrev sJ:List Sh:=[(.ptr 0 1 0),n6,st',n6,sf,.str,.str]
def aCv (O:Orc) (LP:LBs):bL:=fun s74 s74u=>cnd (chkL sJ s74) (cnd (chkU [] s74u)
 (cnd (decide ((iv s74 3)<(List.length (ev s74 2):Int)))
 (bnd (ix 1 (zs s74 2) (zn s74 3)) fun x103=>cnd (chk (.ref .str) x103)
 (aT O 166 [(.agg [(zs s74 4),(zt s74 5),(zt s74 6)]),(.str (strV (refV x103)))] fun x105=>cnd (chk st' x105)
 (bnd (LP (aCu O LP) [(.ptr 0 1 0),(zn s74 1),(zo s74 2),(zn s74 3),(.slice (esV x105) [] true),(i6 0),(zs s74 4),(zt s74 5),(zt s74 6)] []) fun y128 =>
 exIs y128.1 (some 4) (cnd (chkL [(.ptr 0 1 0),n6,st',n6,st',n6,sf,.str,.str] y128.2.1) (cnd (chkU [] y128.2.2)
 (some (.nrm,[(.ptr 0 1 0),(zn y128.2.1 1),(zo y128.2.1 2),(i6 (w6 ((iv y128.2.1 3)+1))),(zs y128.2.1 6),(zt y128.2.1 7),(zt y128.2.1 8)],[])) none) none)
 (none)) none) none)
 (some (.brk 2,(rb sJ s74),[]))) none) none
abbrev oZ:List Sh:=[(.ptr 0 1 0),.any,n6,sf,.str,.str]
def aCw (O:Orc) (LP:LBs):bL:=fun s1 s1u=>cnd (chkL oZ s1) (cnd (chkU [] s1u)
 (cnd (decide ((iv s1 2)<(List.length (ev s1 3):Int)))
 (bnd (ix 6 (zs s1 3) (zn s1 2)) fun x70=>cnd (chk (.ref oS) x70)
 (aT O 166 [(.agg [(zs s1 3),(zt s1 4),(zt s1 5)]),(zt (rf x70) 1)] fun x72=>cnd (chk st' x72)
 (bnd (LP (aCv O LP) [(.ptr 0 1 0),(zn s1 2),(.slice (esV x72) [] true),(i6 0),(zs s1 3),(zt s1 4),(zt s1 5)] []) fun y131 =>
 exIs y131.1 (some 2) (cnd (chkL [(.ptr 0 1 0),n6,st',n6,sf,.str,.str] y131.2.1) (cnd (chkU [] y131.2.2)
 (bnd (ix 6 (zs y131.2.1 4) (zn y131.2.1 1)) fun x132=>cnd (chk (.ref oS) x132)
 (aT O 29 [(zs y131.2.1 2),(zt (rf x132) 1)] fun x134=>cnd (chk .bool x134)
 (cnd (bP x134)
 (some (.ret,[(.ptr 0 1 0),(.bool false),(zn y131.2.1 1),(zs y131.2.1 4),(zt y131.2.1 5),(zt y131.2.1 6)],[]))
 (some (.nrm,[(.ptr 0 1 0),.bot,(i6 (w6 ((iv y131.2.1 1)+1))),(zs y131.2.1 4),(zt y131.2.1 5),(zt y131.2.1 6)],[]))) none) none) none) none)
 (none)) none) none)
 (some (.brk 0,(pu (rb oZ s1) 1 (gt s1 1)),[]))) none) none
def aCx (O:Orc) (LP:LBs) (s:GSchema):Option (PV×UP) :=
 bnd (LP (aCw O LP) [(.ptr 0 1 0),(.bool false),(i6 0),(zq aI s.defs),(.str s.query),(.str s.mutation)] []) fun y139 =>
 exIs y139.1 (some 0) (cnd (chkL oZ y139.2.1) (cnd (chkU [] y139.2.2)
 (some ((.bool true),[])) none) none)
 (exIs y139.1 none (cnd (chkL [(.ptr 0 1 0),.bool,n6,sf,.str,.str] y139.2.1) (cnd (chkU [] y139.2.2)
 (some ((zb y139.2.1 1),[])) none) none)
 (none))
noncomputable def pA (y106:List Str):((List Str)×Int)→Option (((List Str)×Int)⊕((List Str)))
 | (l_116,j_117) =>
 cnd (decide (j_117<(List.length y106:Int)))
  (bnd (nthI y106 j_117) fun y119 =>
  bnd (aBY l_116 y119) fun y121 =>
  cnd (!y121)
  (bnd (nthI y106 j_117) fun y123 =>
  bnd (tapp l_116 [y123]) fun y125 =>
  some (.inl (y125,(IntKind.wrap .i64 (j_117+1)))))
  (some (.inl (l_116,(IntKind.wrap .i64 (j_117+1))))))
  (some (.inr l_116))
abbrev aFO (s:GSchema) (i_69:Int) (k_102:Int) (y106:List Str) (st:(List Str)×Int) (l:List PV) (u:UP):Prop:=l=[(.ptr 0 1 0),(i6 i_69),(zp PV.str st.1),(i6 k_102),(zp PV.str y106),(i6 st.2),(zq aI s.defs),(.str s.query),(.str s.mutation)]∧u=[]
abbrev aND (s:GSchema) (i_69:Int) (k_102:Int) (y106:List Str) (p:(List Str)) (r:EU):Prop:=(fun (p:(List Str))=>∃ (j_127:Int),r=(Ex.brk 4,[(.ptr 0 1 0),(i6 i_69),(zp PV.str p),(i6 k_102),(zp PV.str y106),(i6 j_127),(zq aI s.defs),(.str s.query),(.str s.mutation)],[])) p
noncomputable def pB (s:GSchema):((List Str)×Int)→Option (((List Str)×Int)⊕((List Str)))
 | (l_101,k_102) =>
 cnd (decide (k_102<(List.length l_101:Int)))
  (bnd (nthI l_101 k_102) fun y104 =>
  bnd (aGI s y104) fun y106 =>
  bnd (bG (pA y106) (l_101,0)) fun l_126 =>
  some (.inl (l_126,(IntKind.wrap .i64 (k_102+1)))))
  (some (.inr l_101))
abbrev aFP (s:GSchema) (i_69:Int) (st:(List Str)×Int) (l:List PV) (u:UP):Prop:=l=[(.ptr 0 1 0),(i6 i_69),(zp PV.str st.1),(i6 st.2),(zq aI s.defs),(.str s.query),(.str s.mutation)]∧u=[]
abbrev aNE (s:GSchema) (i_69:Int) (p:(List Str)) (r:EU):Prop:=(fun (p:(List Str))=>∃ (k_130:Int),r=(Ex.brk 2,[(.ptr 0 1 0),(i6 i_69),(zp PV.str p),(i6 k_130),(zq aI s.defs),(.str s.query),(.str s.mutation)],[])) p
noncomputable def sK (s:GSchema):Int→Option (Int⊕(Unit⊕Unit))
 | i_69 =>
 cnd (decide (i_69<(List.length s.defs:Int)))
  (bnd (nthI s.defs i_69) fun y71 =>
  bnd (aGI s y71.name) fun y73 =>
  bnd (bG (pB s) (y73,0)) fun l_129 =>
  bnd (nthI s.defs i_69) fun y133 =>
  bnd (aBY l_129 y133.name) fun y135 =>
  cnd y135
  (some (.inr (.inr ())))
  (some (.inl (IntKind.wrap .i64 (i_69+1)))))
  (some (.inr (.inl ())))
abbrev aAv (s:GSchema) (a0 a1:PV):List PV:=[(.ptr 0 1 0),a0,a1,(zq aI s.defs),(.str s.query),(.str s.mutation)]
abbrev aNF (s:GSchema) (st:Int) (l:List PV) (u:UP):Prop:=∃ (j68:PV),l=(aAv s j68 (i6 st))∧u=[]
abbrev aNG (s:GSchema) (p:Unit⊕Unit) (r:EU):Prop:=elim p (fun (p:Unit)=>∃ (j136:PV),∃ (i_137:Int),r=(Ex.brk 0,(aAv s j136 (i6 i_137)),[])) (fun (p:Unit)=>∃ (i_138:Int),r=(Ex.ret,(aAv s (.bool false) (i6 i_138)),[]))
noncomputable def uN (s:GSchema):Option Bool :=
 bnd (bG (sK s) 0) fun e139_2=>elim e139_2
 (fun p139 =>
 some true)
 (fun p139 =>
 some false)
def aQC:Decs:={decs:=[(19,(.ref oS)),(22,st'),(32,(.ref .str)),(34,st'),(44,(.ref .str)),(46,.bool),(51,(.ref .str)),(54,st'),(59,(.ref oS)),(62,.bool)],loops:=[(2,[(1,3)],⟨oZ,[],[(some 0,oZ,[]),(none,[(.ptr 0 1 0),.bool,n6,sf,.str,.str],[])]⟩),(6,[(1,3)],⟨sJ,[],[(some 2,sJ,[])]⟩),(10,[(1,3)],⟨lI,[],[(some 4,lI,[])]⟩)]}
theorem aQD (O:Orc) (LP:LBs) (s:GSchema):eW 96 aQC Tryz.f96 O LP [(eS s)] []=aCx O LP s:=by kernel_rfl
theorem aIP (s:GSchema) (i_69:Int) (k_102:Int) (y106:List Str):∀ st l u,aFO s i_69 k_102 y106 st l u→Imp (pA y106 st) (aCu O aE l u) (mH (aFO s i_69 k_102 y106) (aND s i_69 k_102 y106)):=by
 rintro ⟨l_116,j_117⟩ l u ⟨rfl,rfl⟩
 simp only [pA,aCu,zd,zr]
 refine zG ?_
 try simp only [evs,tys]
 apply Imp.cnd
 ·refine zX PV.str (fun _=>rfl) fun y119 _ => ?_
  try simp only [evs,tys]
  refine zC rfl fun y121 _ => ?_
  try simp only [zes,evs,tys]
  apply Imp.cnd
  ·refine zX PV.str (fun _=>rfl) fun y123 _ => ?_
   try simp only [evs,tys]
   refine Imp.op (f:=fun a => .slice (List.map PV.str a) [] true) (fun a h=>sD (enc:=PV.str) zI zI (fun a=>by first | rfl | simp only [evs,tys,evc]) h) (fun a=>rfl) fun y125 hy125 => ?_
   try simp only [evs,tys]
   exact zN
  ·exact zN
 ·exact zB ⟨j_117,zE⟩
theorem aIQ (s:GSchema) (i_69:Int):∀ st l u,aFP s i_69 st l u→Imp (pB s st) (aCv O aE l u) (mH (aFP s i_69) (aNE s i_69)):=by
 rintro ⟨l_101,k_102⟩ l u ⟨rfl,rfl⟩
 simp only [pB,aCv,zd,zr]
 refine zG ?_
 try simp only [evs,tys]
 apply Imp.cnd
 ·refine zX PV.str (fun _=>rfl) fun y104 _ => ?_
  try simp only [evs,tys]
  refine zC rfl fun y106 _ => ?_
  try simp only [zes,evs,tys]
  refine zL (aIP s i_69 k_102 y106) ?_
  rintro l_126 _ ⟨j_127,rfl⟩
  refine zH ?_
  try simp only [evs,tys]
  exact zN
 ·exact zB ⟨k_102,zE⟩
theorem aIR (s:GSchema):Lok (aNF s) (sK s) (aCw O aE) (aNG s):=by
 rintro i_69 l u ⟨j68,rfl,rfl⟩
 simp only [sK,aCw,zd,zr]
 refine zG ?_
 try simp only [evs,tys]
 apply Imp.cnd
 ·refine zX aI aBh fun y71 _ => ?_
  try simp only [evs,tys]
  refine zC rfl fun y73 _ => ?_
  try simp only [zes,evs,tys]
  refine zL (aIQ s i_69) ?_
  rintro l_129 _ ⟨k_130,rfl⟩
  refine zH ?_
  try simp only [evs,tys]
  refine zX aI aBh fun y133 _ => ?_
  try simp only [evs,tys]
  refine zC rfl fun y135 _ => ?_
  try simp only [zes,evs,tys]
  apply Imp.cnd
  ·exact zT ⟨i_69,zE⟩
  ·exact Imp.some (mH.next ⟨_,zI,rfl⟩)
 ·exact zB ⟨_,i_69,zE⟩
theorem aNH (s:GSchema):Imp (uN s) (aCx O aE s) (Ri aA):=by
 simp only [uN,aCx,zd,zr]
 try simp only [evs,tys]
 refine Imp.bnd (Imp.loop (aIR s) ⟨_,zI,rfl⟩) ?_
 rintro (p | p) vy139 hy139
 ·try simp only [aO,aP]
  obtain ⟨j136,i_137,rfl⟩:=hy139
  refine zH ?_
  try simp only [evs,tys]
  exact zR
 ·try simp only [aO,aP]
  obtain ⟨i_138,rfl⟩:=hy139
  refine Imp.exMiss rfl ?_
  refine zH ?_
  try simp only [evs,tys]
  exact zR
theorem aNI {s:GSchema} {r:Bool} (h:uN s=some r):aSR s=some r:=zV aC (aNH s) Tryz.func96 (aQD _ _ s) h
open Go Go.Ev Go.Ev.PV
abbrev lJ:List Sh:=[(.ptr 0 2 0),st',n6,sf,sf]
def aCy (O:Orc) (LP:LBs):bL:=fun s3 s3u=>cnd (chkL lJ s3) (cnd (chkU [] s3u)
 (cnd (decide ((iv s3 2)<(List.length (ev s3 1):Int)))
 (bnd (ix 1 (zs s3 1) (zn s3 2)) fun x12=>cnd (chk (.ref .str) x12)
 (aT O 113 [(.agg [(zs s3 3),(zs s3 4)]),(.str (strV (refV x12)))] fun x14=>cnd (chk (.tup [iP,.bool]) x14)
 (cnd (bP (tv x14 1))
 (aT O 183 [(zs (tg x14 0) 3),(zo s3 1)] fun x16=>cnd (chk st' x16)
 (some (.nrm,[(.ptr 0 2 0),(.slice (esV x16) [] true),(i6 (w6 ((iv s3 2)+1))),(zs s3 3),(zs s3 4)],[])) none)
 (some (.nrm,(pu (rb lJ s3) 2 (i6 (w6 ((iv s3 2)+1)))),[]))) none) none)
 (some (.brk 0,(rb lJ s3),[]))) none) none
abbrev gF:List Sh:=[(.ptr 0 2 0),st',st',n6,sf,sf]
def aCz (O:Orc) (LP:LBs):bL:=fun s21 s21u=>cnd (chkL gF s21) (cnd (chkU [] s21u)
 (cnd (decide ((iv s21 3)<(List.length (ev s21 5):Int)))
 (bnd (ix 4 (zs s21 5) (zn s21 3)) fun x36=>cnd (chk (.ref iP) x36)
 (aT O 29 [(zs s21 1),(zt (rf x36) 0)] fun x38=>cnd (chk .bool x38)
 (cnd (bP x38)
 (bnd (ix 4 (zs s21 5) (zn s21 3)) fun x40=>cnd (chk (.ref iP) x40)
 (aT O 29 [(zs s21 2),(zt (rf x40) 0)] fun x42=>cnd (chk .bool x42)
 (cnd (!(bP x42))
 (bnd (ix 4 (zs s21 5) (zn s21 3)) fun x44=>cnd (chk (.ref iP) x44)
 (bnd (apd 1 (zo s21 2) (.slice [(zt (rf x44) 0)] [] true)) fun x46=>cnd (chk st' x46)
 (some (.nrm,(pu (pu (rb gF s21) 2 (.slice (esV x46) [] true)) 3 (i6 (w6 ((iv s21 3)+1)))),[])) none) none)
 (some (.nrm,(pu (rb gF s21) 3 (i6 (w6 ((iv s21 3)+1)))),[]))) none) none)
 (some (.nrm,(pu (rb gF s21) 3 (i6 (w6 ((iv s21 3)+1)))),[]))) none) none)
 (some (.brk 2,(rb gF s21),[]))) none) none
def aCA (O:Orc) (LP:LBs) (d:GDoc) (l0:List GSel):Option (PV×UP) :=
 aT O 182 [(zq aG l0)] fun x1=>cnd (chk st' x1)
 (bnd (LP (aCy O LP) [(.ptr 0 2 0),(.slice (esV x1) [] true),(i6 0),(zq aU d.ops),(zq aF d.frags)] []) fun y20 =>
 exIs y20.1 (some 0) (cnd (chkL lJ y20.2.1) (cnd (chkU [] y20.2.2)
 (bnd (LP (aCz O LP) [(.ptr 0 2 0),(zo y20.2.1 1),(.slice [] [] true),(i6 0),(zs y20.2.1 3),(zs y20.2.1 4)] []) fun y50 =>
 exIs y50.1 (some 2) (cnd (chkL gF y50.2.1) (cnd (chkU [] y50.2.2)
 (some ((zs y50.2.1 2),[])) none) none)
 (none)) none) none)
 (none)) none
noncomputable def gG (d:GDoc):((List Str)×Int)→Option (((List Str)×Int)⊕((List Str)))
 | (all_10,i_11) =>
 cnd (decide (i_11<(List.length all_10:Int)))
  (bnd (nthI all_10 i_11) fun y13 =>
  bnd (aQs d y13) fun y15 =>
  cnd y15.2
  (bnd (jN y15.1.sels all_10) fun y17 =>
  some (.inl (y17,(IntKind.wrap .i64 (i_11+1)))))
  (some (.inl (all_10,(IntKind.wrap .i64 (i_11+1))))))
  (some (.inr all_10))
abbrev aNJ (d:GDoc) (st:(List Str)×Int) (l:List PV) (u:UP):Prop:=l=[(.ptr 0 2 0),(zp PV.str st.1),(i6 st.2),(zq aU d.ops),(zq aF d.frags)]∧u=[]
abbrev aNK (d:GDoc) (p:(List Str)) (r:EU):Prop:=(fun (p:(List Str))=>∃ (i_19:Int),r=(Ex.brk 0,[(.ptr 0 2 0),(zp PV.str p),(i6 i_19),(zq aU d.ops),(zq aF d.frags)],[])) p
noncomputable def lK (d:GDoc) (all_18:List Str):((List Str)×Int)→Option (((List Str)×Int)⊕((List Str)))
 | (out_34,i_35) =>
 cnd (decide (i_35<(List.length d.frags:Int)))
  (bnd (nthI d.frags i_35) fun y37 =>
  bnd (aBY all_18 y37.name) fun y39 =>
  cnd y39
  (bnd (nthI d.frags i_35) fun y41 =>
  bnd (aBY out_34 y41.name) fun y43 =>
  cnd (!y43)
   (bnd (nthI d.frags i_35) fun y45 =>
   bnd (tapp out_34 [y45.name]) fun y47 =>
   some (.inl (y47,(IntKind.wrap .i64 (i_35+1)))))
   (some (.inl (out_34,(IntKind.wrap .i64 (i_35+1))))))
  (some (.inl (out_34,(IntKind.wrap .i64 (i_35+1))))))
  (some (.inr out_34))
abbrev aNL (d:GDoc) (all_18:List Str) (st:(List Str)×Int) (l:List PV) (u:UP):Prop:=l=[(.ptr 0 2 0),(zp PV.str all_18),(zp PV.str st.1),(i6 st.2),(zq aU d.ops),(zq aF d.frags)]∧u=[]
abbrev aNM (d:GDoc) (all_18:List Str) (p:(List Str)) (r:EU):Prop:=(fun (p:(List Str))=>∃ (i_49:Int),r=(Ex.brk 2,[(.ptr 0 2 0),(zp PV.str all_18),(zp PV.str p),(i6 i_49),(zq aU d.ops),(zq aF d.frags)],[])) p
noncomputable def aBu (d:GDoc) (l0:List GSel):Option (List Str) :=
 bnd (aEV l0) fun y2 =>
 bnd (bG (gG d) (y2,0)) fun all_18 =>
 bnd (bG (lK d all_18) ([],0)) fun out_48 =>
 some out_48
def aQE:Decs:={decs:=[(12,st'),(23,(.ref .str)),(25,(.tup [iP,.bool])),(32,st'),(44,(.ref iP)),(47,.bool),(53,(.ref iP)),(56,.bool),(63,(.ref iP)),(67,st')],loops:=[(3,[(2,2)],⟨lJ,[],[(some 0,lJ,[])]⟩),(10,[(2,2)],⟨gF,[],[(some 2,gF,[])]⟩)]}
theorem aQF (O:Orc) (LP:LBs) (d:GDoc) (l0:List GSel):eW 114 aQE Tryz.f114 O LP [(eD d),(zq aG l0)] []=aCA O LP d l0:=by kernel_rfl
theorem aIS (d:GDoc):Lok (aNJ d) (gG d) (aCy O aE) (aNK d):=by
 rintro ⟨all_10,i_11⟩ l u ⟨rfl,rfl⟩
 simp only [gG,aCy,zd,zr]
 refine zG ?_
 try simp only [evs,tys]
 apply Imp.cnd
 ·refine zX PV.str (fun _=>rfl) fun y13 _ => ?_
  try simp only [evs,tys]
  refine zC rfl fun y15 _ => ?_
  try simp only [zes,evs,tys]
  apply Imp.cnd
  ·refine zC rfl fun y17 _ => ?_
   try simp only [zes,evs,tys]
   exact zN
  ·exact zN
 ·exact zB ⟨i_11,zE⟩
theorem aIT (d:GDoc) (all_18:List Str):Lok (aNL d all_18) (lK d all_18) (aCz O aE) (aNM d all_18):=by
 rintro ⟨out_34,i_35⟩ l u ⟨rfl,rfl⟩
 simp only [lK,aCz,zd,zr]
 refine zG ?_
 try simp only [evs,tys]
 apply Imp.cnd
 ·refine zX aF jD fun y37 _ => ?_
  try simp only [evs,tys]
  refine zC rfl fun y39 _ => ?_
  try simp only [zes,evs,tys]
  apply Imp.cnd
  ·refine zX aF jD fun y41 _ => ?_
   try simp only [evs,tys]
   refine zC rfl fun y43 _ => ?_
   try simp only [zes,evs,tys]
   apply Imp.cnd
   ·refine zX aF jD fun y45 _ => ?_
    try simp only [evs,tys]
    refine Imp.op (f:=fun a => .slice (List.map PV.str a) [] true) (fun a h=>sD (enc:=PV.str) zI zI (fun a=>by first | rfl | simp only [evs,tys,evc]) h) (fun a=>rfl) fun y47 hy47 => ?_
    try simp only [evs,tys]
    exact zN
   ·exact zN
  ·exact zN
 ·exact zB ⟨i_35,zE⟩
theorem aNN (d:GDoc) (l0:List GSel):Imp (aBu d l0) (aCA O aE d l0) (Ri uK):=by
 simp only [aBu,aCA,zd,zr]
 try simp only [evs,tys]
 refine zC rfl fun y2 _ => ?_
 try simp only [zes,evs,tys]
 refine zL (aIS d) ?_
 rintro all_18 _ ⟨i_19,rfl⟩
 refine zH ?_
 try simp only [evs,tys]
 refine zL (aIT d all_18) ?_
 rintro out_48 _ ⟨i_49,rfl⟩
 refine zH ?_
 try simp only [evs,tys]
 exact zR
theorem aNO {d:GDoc} {l0:List GSel} {r:List Str} (h:aBu d l0=some r):aSS d l0=some r:=zV aUn (aNN d l0) Tryz.func114 (aQF _ _ d l0) h
abbrev fJ:List Sh:=[(.ptr 0 4 0),(.ptr 0 6 0),.bool,(.ptr 0 9 0),n6,.str,n6,n6,n6,n6,.str,sf,sf,.str,n6,n6,sf,.str,.str]
def aCB (O:Orc) (LP:LBs):bL:=fun s13 s13u=>cnd (chkL fJ s13) (cnd (chkU [] s13u)
 (cnd (decide ((iv s13 4)<(List.length (ev s13 11):Int)))
 (bnd (ix 5 (zs s13 11) (zn s13 4)) fun x21=>cnd (chk (.ref mK) x21)
 (aT O 192 [(.agg [(zs s13 16),(zt s13 17),(zt s13 18)]),(.agg [(zt s13 5),(zn s13 6),(zn s13 7)]),(.agg [(zn (rf x21) 0),(zn (rf x21) 1),(zt (rf x21) 2),(zs (rf x21) 3),(zs (rf x21) 4)]),(.bool false)] fun x23=>cnd (chk .bool x23)
 (cnd (!(bP x23))
 (some (.ret,(pu (rb fJ s13) 2 (.bool false)),[]))
 (some (.nrm,(pu (rb fJ s13) 4 (i6 (w6 ((iv s13 4)+1)))),[]))) none) none)
 (some (.brk 0,(rb fJ s13),[]))) none) none
def aCC (O:Orc) (LP:LBs) (s:GSchema) (t:GType) (v0:GValue) (alone:Bool):Option (PV×UP) :=
 aT O 101 [(eT t)] fun x2=>cnd (chk .bool x2)
 (cnd (!(bP x2))
 (some ((.bool false),[]))
 (cnd (v0.kind==8)
 (some ((.bool true),[]))
 (cnd (v0.kind==0)
 (some ((.bool ((bits .and .i64 t.musts 1)==0)),[]))
 (aT O 224 [(eT t)] fun x6=>cnd (chk (.tup [aSL,.bool]) x6)
 (jn (fun (t_11:Bool) =>
 (cnd (bP (tv x6 1))
 (bnd (LP (aCB O LP) [(.ptr 0 4 0),(.ptr 0 6 0),(.bool false),(.ptr 0 9 0),(i6 0),(zt (tg x6 0) 0),(zn (tg x6 0) 1),(zn (tg x6 0) 2),(i6 v0.kind),(i6 v0.n),(.str v0.s),(zq aN v0.l),(zq aD v0.m),(.str t.name),(i6 t.lists),(i6 t.musts),(zq aI s.defs),(.str s.query),(.str s.mutation)] []) fun y27 =>
 exIs y27.1 (some 0) (cnd (chkL fJ y27.2.1) (cnd (chkU [] y27.2.2)
 (some ((.bool true),[])) none) none)
 (exIs y27.1 none (cnd (chkL fJ y27.2.1) (cnd (chkU [] y27.2.2)
 (some ((zb y27.2.1 2),[])) none) none)
 (none)))
 (cnd (t.name==([73,110,116]:Str))
 (cnd (v0.kind==2)
 (cnd (decide (v0.n≥(-2147483648)))
 (some ((.bool (decide (v0.n≤2147483647))),[]))
 (some ((.bool false),[])))
 (some ((.bool false),[])))
 (cnd (t.name==([83,116,114,105,110,103]:Str))
 (some ((.bool (v0.kind==4)),[]))
 (cnd (t.name==([66,111,111,108,101,97,110]:Str))
 (some ((.bool (v0.kind==1)),[]))
 (cnd (t.name==([73,68]:Str))
 (cnd (v0.kind==4)
 (some ((.bool true),[]))
 (some ((.bool (v0.kind==2)),[])))
 (aT O 164 [(eS s),(.str t.name)] fun x29=>cnd (chk (.tup [oS,.bool]) x29)
 (cnd ((iv (tg x29 0) 0)==4)
 (cnd (v0.kind==5)
 (aT O 29 [(zs (tg x29 0) 4),(.str v0.s)] fun x32=>cnd (chk .bool x32)
 (some ((.bool (bP x32)),[])) none)
 (some ((.bool false),[])))
 (cnd ((iv (tg x29 0) 0)==5)
 (cnd (v0.kind==7)
 (aT O 225 [(eS s),(zs (tg x29 0) 5),(zq aD v0.m)] fun x34=>cnd (chk .bool x34)
 (some ((.bool (bP x34)),[])) none)
 (some ((.bool false),[])))
 (some ((.bool false),[])))) none))))))) fun k8 =>
 cnd (bP (tv x6 1))
 (cnd (v0.kind != 6)
 (cnd alone
 (aT O 192 [(eS s),(.agg [(zt (tg x6 0) 0),(zn (tg x6 0) 1),(zn (tg x6 0) 2)]),(eV v0),(.bool true)] fun x9=>cnd (chk .bool x9)
 (some ((.bool (bP x9)),[])) none)
 (some ((.bool false),[])))
 (k8 true))
 (k8 false)) none)))) none
noncomputable def pC (s:GSchema) (v0:GValue) (y7:GType×Bool):Int→Option (Int⊕(Unit⊕Unit))
 | i_19 =>
 cnd (decide (i_19<(List.length v0.l:Int)))
  (bnd (nthI v0.l i_19) fun y22 =>
  bnd (sH s y7.1 y22 false) fun y24 =>
  cnd (!y24)
  (some (.inr (.inr ())))
  (some (.inl (IntKind.wrap .i64 (i_19+1)))))
  (some (.inr (.inl ())))
abbrev aAw (s:GSchema) (t:GType) (v0:GValue) (y7:GType×Bool) (a0:PV):List PV:=[(.ptr 0 4 0),(.ptr 0 6 0),(.bool false),(.ptr 0 9 0),a0,(.str y7.1.name),(i6 y7.1.lists),(i6 y7.1.musts),(i6 v0.kind),(i6 v0.n),(.str v0.s),(zq aN v0.l),(zq aD v0.m),(.str t.name),(i6 t.lists),(i6 t.musts),(zq aI s.defs),(.str s.query),(.str s.mutation)]
abbrev aFQ (s:GSchema) (t:GType) (v0:GValue) (y7:GType×Bool) (st:Int) (l:List PV) (u:UP):Prop:=l=(aAw s t v0 y7 (i6 st))∧u=[]
abbrev aNP (s:GSchema) (t:GType) (v0:GValue) (y7:GType×Bool) (p:Unit⊕Unit) (r:EU):Prop:=elim p (fun (p:Unit)=>∃ (i_25:Int),r=(Ex.brk 0,(aAw s t v0 y7 (i6 i_25)),[])) (fun (p:Unit)=>∃ (i_26:Int),r=(Ex.ret,(aAw s t v0 y7 (i6 i_26)),[]))
noncomputable def uO (s:GSchema) (t:GType) (v0:GValue) (alone:Bool):Option Bool :=
 bnd (oX t) fun y3 =>
 cnd (!y3)
 (some false)
 (cnd (v0.kind==8)
 (some true)
 (cnd (v0.kind==0)
 (some ((bits .and .i64 t.musts 1)==0))
 (bnd (aQt t) fun y7 =>
 jn (fun (t_11:Bool) =>
 (cnd y7.2
 (bnd (bG (pC s v0 y7) 0) fun e27_2=>elim e27_2
 (fun p27 =>
 some true)
 (fun p27 =>
 some false))
 (cnd (t.name==([73,110,116]:Str))
 (cnd (v0.kind==2)
 (cnd (decide (v0.n≥(-2147483648)))
 (some (decide (v0.n≤2147483647)))
 (some false))
 (some false))
 (cnd (t.name==([83,116,114,105,110,103]:Str))
 (some (v0.kind==4))
 (cnd (t.name==([66,111,111,108,101,97,110]:Str))
 (some (v0.kind==1))
 (cnd (t.name==([73,68]:Str))
 (cnd (v0.kind==4)
 (some true)
 (some (v0.kind==2)))
 (bnd (vZ s t.name) fun y30 =>
 cnd (y30.1.kind==4)
 (cnd (v0.kind==5)
 (bnd (aBY y30.1.parts v0.s) fun y33 =>
 some y33)
 (some false))
 (cnd (y30.1.kind==5)
 (cnd (v0.kind==7)
 (bnd (aBo s y30.1.params v0.m) fun y35 =>
 some y35)
 (some false))
 (some false))))))))) fun k8 =>
 cnd y7.2
 (cnd (v0.kind != 6)
 (cnd alone
 (bnd (sH s y7.1 v0 true) fun y10 =>
 some y10)
 (some false))
 (k8 true))
 (k8 false))))
def aQG:Decs:={decs:=[(15,.bool),(29,(.tup [aSL,.bool])),(43,.bool),(58,(.ref mK)),(60,.bool),(103,(.tup [oS,.bool])),(117,.bool),(133,.bool)],loops:=[(12,[(9,3),(6,5),(5,3),(4,3)],⟨fJ,[],[(some 0,fJ,[]),(none,fJ,[])]⟩)]}
theorem aQH (O:Orc) (LP:LBs) (s:GSchema) (t:GType) (v0:GValue) (alone:Bool):eW 192 aQG Tryz.f192 O LP [(eS s),(eT t),(eV v0),(.bool alone)] []=aCC O LP s t v0 alone:=by kernel_rfl
theorem aIU (s:GSchema) (t:GType) (v0:GValue) (y7:GType×Bool):∀ st l u,aFQ s t v0 y7 st l u→Imp (pC s v0 y7 st) (aCB O aE l u) (mH (aFQ s t v0 y7) (aNP s t v0 y7)):=by
 rintro i_19 l u ⟨rfl,rfl⟩
 simp only [pC,aCB,zd,zr]
 refine zG ?_
 try simp only [evs,tys]
 apply Imp.cnd
 ·refine zX aN aBf fun y22 _ => ?_
  try simp only [evs,tys]
  refine zC rfl fun y24 _ => ?_
  try simp only [zes,evs,tys]
  apply Imp.cnd
  ·exact zT ⟨i_19,zE⟩
  ·exact zN
 ·exact zB ⟨i_19,zE⟩
theorem aNQ (s:GSchema) (t:GType) (v0:GValue) (alone:Bool):Imp (uO s t v0 alone) (aCC O aE s t v0 alone) (Ri aA):=by
 simp only [uO,aCC,zd,zr]
 try simp only [evs,tys]
 refine zC rfl fun y3 _ => ?_
 try simp only [zes,evs,tys]
 apply Imp.cnd
 ·exact zR
 ·apply Imp.cnd
  ·exact zR
  ·apply Imp.cnd
   ·exact zR
   ·refine zC rfl fun y7 _ => ?_
    try simp only [zes,evs,tys]
    refine Imp.jn (fun I k2 k1=>∀ (t_11:Bool),I (k2 t_11) (k1 t_11)) (fun t_11 => ?_) fun k8 k8t hk8 => ?_
    ·dsimp only
     try simp only [evs,tys]
     apply Imp.cnd
     ·refine zL (aIU s t v0 y7) ?_
      rintro (p | p) vy27 hy27
      ·try simp only [aO,aP]
       obtain ⟨i_25,rfl⟩:=hy27
       refine zH ?_
       try simp only [evs,tys]
       exact zR
      ·try simp only [aO,aP]
       obtain ⟨i_26,rfl⟩:=hy27
       refine Imp.exMiss rfl ?_
       refine zH ?_
       try simp only [evs,tys]
       exact zR
     ·apply Imp.cnd
      ·apply Imp.cnd
       ·apply Imp.cnd
        ·exact zR
        ·exact zR
       ·exact zR
      ·apply Imp.cnd
       ·exact zR
       ·apply Imp.cnd
        ·exact zR
        ·apply Imp.cnd
         ·apply Imp.cnd
          ·exact zR
          ·exact zR
         ·refine zC rfl fun y30 _ => ?_
          try simp only [zes,evs,tys]
          apply Imp.cnd
          ·apply Imp.cnd
           ·refine zC rfl fun y33 _ => ?_
            try simp only [zes,evs,tys]
            exact zR
           ·exact zR
          ·apply Imp.cnd
           ·apply Imp.cnd
            ·refine zC rfl fun y35 _ => ?_
             try simp only [zes,evs,tys]
             exact zR
            ·exact zR
           ·exact zR
    apply Imp.cnd
    ·apply Imp.cnd
     ·apply Imp.cnd
      ·refine zC rfl fun y10 _ => ?_
       try simp only [zes,evs,tys]
       exact zR
      ·exact zR
     ·first | exact hk8 _ | simpa only [evs,tys,evl] using hk8 _
    ·first | exact hk8 _ | simpa only [evs,tys,evl] using hk8 _
theorem aNR {s:GSchema} {t:GType} {v0:GValue} {alone:Bool} {r:Bool} (h:uO s t v0 alone=some r):sH s t v0 alone=some r:=zV aC (aNQ s t v0 alone) Tryz.func192 (aQH _ _ s t v0 alone) h
abbrev cT:List Sh:=[st',(.ptr 0 2 0),n6,n6,n6,.str,sf,sf]
def uP (O:Orc) (LP:LBs):bL:=fun s5 s5u=>cnd (chkL cT s5) (cnd (chkU [] s5u)
 (cnd (decide ((iv s5 2)<(List.length (ev s5 6):Int)))
 (cnd ((iv s5 3)==6)
 (bnd (ix 5 (zs s5 6) (zn s5 2)) fun x12=>cnd (chk (.ref mK) x12)
 (aT O 236 [(.agg [(zn (rf x12) 0),(zn (rf x12) 1),(zt (rf x12) 2),(zs (rf x12) 3),(zs (rf x12) 4)]),(zo s5 0)] fun x14=>cnd (chk st' x14)
 (some (.nrm,(pu (pu (rb cT s5) 0 (.slice (esV x14) [] true)) 2 (i6 (w6 ((iv s5 2)+1)))),[])) none) none)
 (some (.brk 0,(rb cT s5),[])))
 (some (.brk 0,(rb cT s5),[]))) none) none
abbrev wF:List Sh:=[st',(.ptr 0 2 0),n6,n6,n6,.str,sf,sf]
def uQ (O:Orc) (LP:LBs):bL:=fun s19 s19u=>cnd (chkL wF s19) (cnd (chkU [] s19u)
 (cnd (decide ((iv s19 2)<(List.length (ev s19 7):Int)))
 (cnd ((iv s19 3)==7)
 (bnd (ix 6 (zs s19 7) (zn s19 2)) fun x26=>cnd (chk (.ref dS) x26)
 (aT O 236 [(.agg [(zn (rf x26) 1),(zn (rf x26) 2),(zt (rf x26) 3),(zs (rf x26) 4),(zs (rf x26) 5)]),(zo s19 0)] fun x28=>cnd (chk st' x28)
 (some (.nrm,(pu (pu (rb wF s19) 0 (.slice (esV x28) [] true)) 2 (i6 (w6 ((iv s19 2)+1)))),[])) none) none)
 (some (.brk 2,(rb wF s19),[])))
 (some (.brk 2,(rb wF s19),[]))) none) none
def aE1 (O:Orc) (LP:LBs) (v0:GValue) (out0:List Str):Option (PV×UP) :=
 cnd (v0.kind==8)
 (aT O 29 [(zq PV.str out0),(.str v0.s)] fun x1=>cnd (chk .bool x1)
 (cnd (!(bP x1))
 (bnd (apd 1 (zp PV.str out0) (.slice [(.str v0.s)] [] true)) fun x3=>cnd (chk st' x3)
 (bnd (LP (uP O LP) [(.slice (esV x3) [] true),(.ptr 0 2 0),(i6 0),(i6 v0.kind),(i6 v0.n),(.str v0.s),(zq aN v0.l),(zq aD v0.m)] []) fun y18 =>
 exIs y18.1 (some 0) (cnd (chkL cT y18.2.1) (cnd (chkU [] y18.2.2)
 (bnd (LP (uQ O LP) [(zo y18.2.1 0),(.ptr 0 2 0),(i6 0),(zn y18.2.1 3),(zn y18.2.1 4),(zt y18.2.1 5),(zs y18.2.1 6),(zs y18.2.1 7)] []) fun y32 =>
 exIs y32.1 (some 2) (cnd (chkL cT y32.2.1) (cnd (chkU [] y32.2.2)
 (some ((zo y32.2.1 0),[])) none) none)
 (none)) none) none)
 (none)) none)
 (bnd (LP (uP O LP) [(zp PV.str out0),(.ptr 0 2 0),(i6 0),(i6 v0.kind),(i6 v0.n),(.str v0.s),(zq aN v0.l),(zq aD v0.m)] []) fun y46 =>
 exIs y46.1 (some 0) (cnd (chkL cT y46.2.1) (cnd (chkU [] y46.2.2)
 (bnd (LP (uQ O LP) [(zo y46.2.1 0),(.ptr 0 2 0),(i6 0),(zn y46.2.1 3),(zn y46.2.1 4),(zt y46.2.1 5),(zs y46.2.1 6),(zs y46.2.1 7)] []) fun y60 =>
 exIs y60.1 (some 2) (cnd (chkL cT y60.2.1) (cnd (chkU [] y60.2.2)
 (some ((zo y60.2.1 0),[])) none) none)
 (none)) none) none)
 (none))) none)
 (bnd (LP (uP O LP) [(zp PV.str out0),(.ptr 0 2 0),(i6 0),(i6 v0.kind),(i6 v0.n),(.str v0.s),(zq aN v0.l),(zq aD v0.m)] []) fun y74 =>
 exIs y74.1 (some 0) (cnd (chkL cT y74.2.1) (cnd (chkU [] y74.2.2)
 (bnd (LP (uQ O LP) [(zo y74.2.1 0),(.ptr 0 2 0),(i6 0),(zn y74.2.1 3),(zn y74.2.1 4),(zt y74.2.1 5),(zs y74.2.1 6),(zs y74.2.1 7)] []) fun y88 =>
 exIs y88.1 (some 2) (cnd (chkL cT y88.2.1) (cnd (chkU [] y88.2.2)
 (some ((zo y88.2.1 0),[])) none) none)
 (none)) none) none)
 (none))
noncomputable def cU (v0:GValue):((List Str)×Int)→Option (((List Str)×Int)⊕((List Str)))
 | (out_10,i_11) =>
 cnd (decide (i_11<(List.length v0.l:Int)))
  (cnd (v0.kind==6)
  (bnd (nthI v0.l i_11) fun y13 =>
  bnd (aLd y13 out_10) fun y15 =>
  some (.inl (y15,(IntKind.wrap .i64 (i_11+1)))))
  (some (.inr out_10)))
  (some (.inr out_10))
abbrev aHO (v0:GValue) (a0 a1:PV):List PV:=[a0,(.ptr 0 2 0),a1,(i6 v0.kind),(i6 v0.n),(.str v0.s),(zq aN v0.l),(zq aD v0.m)]
abbrev aQI (v0:GValue) (st:(List Str)×Int) (l:List PV) (u:UP):Prop:=l=(aHO v0 (zp PV.str st.1) (i6 st.2))∧u=[]
abbrev aQJ (v0:GValue) (p:(List Str)) (r:EU):Prop:=∃ (i_17:Int),r=(Ex.brk 0,(aHO v0 (zp PV.str p) (i6 i_17)),[])
noncomputable def cW (v0:GValue):((List Str)×Int)→Option (((List Str)×Int)⊕((List Str)))
 | (out_24,i_25) =>
 cnd (decide (i_25<(List.length v0.m:Int)))
  (cnd (v0.kind==7)
  (bnd (nthI v0.m i_25) fun y27 =>
  bnd (aLd y27.v out_24) fun y29 =>
  some (.inl (y29,(IntKind.wrap .i64 (i_25+1)))))
  (some (.inr out_24)))
  (some (.inr out_24))
abbrev aHP (v0:GValue) (a0 a1:PV):List PV:=[a0,(.ptr 0 2 0),a1,(i6 v0.kind),(i6 v0.n),(.str v0.s),(zq aN v0.l),(zq aD v0.m)]
abbrev aQK (v0:GValue) (st:(List Str)×Int) (l:List PV) (u:UP):Prop:=l=(aHP v0 (zp PV.str st.1) (i6 st.2))∧u=[]
abbrev aQL (v0:GValue) (p:(List Str)) (r:EU):Prop:=∃ (i_31:Int),r=(Ex.brk 2,(aHP v0 (zp PV.str p) (i6 i_31)),[])
noncomputable def aDY (v0:GValue) (out0:List Str):Option (List Str) :=
 cnd (v0.kind==8)
 (bnd (aBY out0 v0.s) fun y2 =>
 cnd (!y2)
 (bnd (tapp out0 [v0.s]) fun y4 =>
 bnd (bG (cU v0) (y4,0)) fun out_16 =>
 bnd (bG (cW v0) (out_16,0)) fun out_30 =>
 some out_30)
 (bnd (bG (cU v0) (out0,0)) fun out_44 =>
 bnd (bG (cW v0) (out_44,0)) fun out_58 =>
 some out_58))
 (bnd (bG (cU v0) (out0,0)) fun out_72 =>
 bnd (bG (cW v0) (out_72,0)) fun out_86 =>
 some out_86)
def aUu:Decs:={decs:=[(14,.bool),(21,st'),(37,(.ref mK)),(40,st'),(56,(.ref dS)),(60,st')],loops:=[(4,[(2,5)],⟨cT,[],[(some 0,cT,[])]⟩),(8,[(2,5)],⟨cT,[],[(some 2,cT,[])]⟩)]}
theorem aUv (O:Orc) (LP:LBs) (v0:GValue) (out0:List Str):eW 236 aUu Tryz.f236 O LP [(eV v0),(zp PV.str out0)] []=aE1 O LP v0 out0:=by kernel_rfl
theorem wG (v0:GValue):Lok (aQI v0) (cU v0) (uP O aE) (aQJ v0):=by
 rintro ⟨out_10,i_11⟩ l u ⟨rfl,rfl⟩
 simp only [cU,uP,zd,zr]
 refine zG ?_
 try simp only [evs,tys]
 apply Imp.cnd
 ·apply Imp.cnd
  ·refine zX aN aBf fun y13 _ => ?_
   try simp only [evs,tys]
   refine zC rfl fun y15 _ => ?_
   try simp only [zes,evs,tys]
   exact zN
  ·exact zB ⟨i_11,zE⟩
 ·exact zB ⟨i_11,zE⟩
theorem wH (v0:GValue):Lok (aQK v0) (cW v0) (uQ O aE) (aQL v0):=by
 rintro ⟨out_24,i_25⟩ l u ⟨rfl,rfl⟩
 simp only [cW,uQ,zd,zr]
 refine zG ?_
 try simp only [evs,tys]
 apply Imp.cnd
 ·apply Imp.cnd
  ·refine zX aD fO fun y27 _ => ?_
   try simp only [evs,tys]
   refine zC rfl fun y29 _ => ?_
   try simp only [zes,evs,tys]
   exact zN
  ·exact zB ⟨i_25,zE⟩
 ·exact zB ⟨i_25,zE⟩
theorem aQM (v0:GValue) (out0:List Str):Imp (aDY v0 out0) (aE1 O aE v0 out0) (Ri kG):=by
 simp only [aDY,aE1,zd,zr]
 try simp only [evs,tys]
 apply Imp.cnd
 ·refine zC rfl fun y2 _ => ?_
  try simp only [zes,evs,tys]
  apply Imp.cnd
  ·refine Imp.op (f:=fun a => .slice (List.map PV.str a) [] true) (fun a h=>sD (enc:=PV.str) zI zI (fun a=>by first | rfl | simp only [evs,tys,evc]) h) (fun a=>rfl) fun y4 hy4 => ?_
   try simp only [evs,tys]
   refine zL (wG v0) ?_
   rintro out_16 _ ⟨i_17,rfl⟩
   refine zH ?_
   try simp only [evs,tys]
   refine zL (wH v0) ?_
   rintro out_30 _ ⟨i_31,rfl⟩
   refine zH ?_
   try simp only [evs,tys]
   exact zR
  ·refine zL (wG v0) ?_
   rintro out_44 _ ⟨i_45,rfl⟩
   refine zH ?_
   try simp only [evs,tys]
   refine zL (wH v0) ?_
   rintro out_58 _ ⟨i_59,rfl⟩
   refine zH ?_
   try simp only [evs,tys]
   exact zR
 ·refine zL (wG v0) ?_
  rintro out_72 _ ⟨i_73,rfl⟩
  refine zH ?_
  try simp only [evs,tys]
  refine zL (wH v0) ?_
  rintro out_86 _ ⟨i_87,rfl⟩
  refine zH ?_
  try simp only [evs,tys]
  exact zR
theorem aQN {v0:GValue} {out0:List Str} {r:List Str} (h:aDY v0 out0=some r):aLd v0 out0=some r:=zV aDT (aQM v0 out0) Tryz.func236 (aUv _ _ v0 out0) h
def wI (O:Orc) (LP:LBs) (s:Str):Option (PV×UP) :=
 jn (fun (i_4:Int) (t_5:Bool) (t_6:Bool) =>
 (aT O 250 [(.str s),(i6 i_4)] fun x7=>cnd (chk n6 x7)
 (cnd ((intV x7)==0)
 (some ((.tuple [(i6 0),(i6 0)]),[]))
 (jn (fun (n_13:Int) (t_14:Bool) =>
 (jn (fun (i_22:Int) (kind_23:Int) (t_24:Bool) (t_25:Bool) (t_26:Bool) (t_27:Bool) =>
 (cnd (decide (i_22<(List.length s:Int)))
 (bnd (tD (.str s) (i6 i_22)) fun x28=>cnd (chk (.int .u8) x28)
 (cnd ((intV x28)==101)
 (jn (fun (k_35:Int) (t_36:Bool) (t_37:Bool) =>
 (aT O 250 [(.str s),(i6 k_35)] fun x38=>cnd (chk n6 x38)
 (cnd (decide ((intV x38)>0))
 (aT O 250 [(.str s),(i6 k_35)] fun x40=>cnd (chk n6 x40)
 (some ((.tuple [(i6 (w6 (k_35+(intV x40)))),(i6 4)]),[])) none)
 (some ((.tuple [(i6 i_22),(i6 kind_23)]),[]))) none)) fun k30 =>
 cnd (decide ((w6 (i_22+1))<(List.length s:Int)))
 (bnd (tD (.str s) (i6 (w6 (i_22+1)))) fun x31=>cnd (chk (.int .u8) x31)
 (cnd ((intV x31)==43)
 (k30 (w6 ((w6 (i_22+1))+1)) true true)
 (bnd (tD (.str s) (i6 (w6 (i_22+1)))) fun x33=>cnd (chk (.int .u8) x33)
 (cnd ((intV x33)==45)
 (k30 (w6 ((w6 (i_22+1))+1)) true true)
 (k30 (w6 (i_22+1)) true false)) none)) none)
 (k30 (w6 (i_22+1)) false false))
 (bnd (tD (.str s) (i6 i_22)) fun x42=>cnd (chk (.int .u8) x42)
 (cnd ((intV x42)==69)
 (jn (fun (k_49:Int) (t_50:Bool) (t_51:Bool) =>
 (aT O 250 [(.str s),(i6 k_49)] fun x52=>cnd (chk n6 x52)
 (cnd (decide ((intV x52)>0))
 (aT O 250 [(.str s),(i6 k_49)] fun x54=>cnd (chk n6 x54)
 (some ((.tuple [(i6 (w6 (k_49+(intV x54)))),(i6 4)]),[])) none)
 (some ((.tuple [(i6 i_22),(i6 kind_23)]),[]))) none)) fun k44 =>
 cnd (decide ((w6 (i_22+1))<(List.length s:Int)))
 (bnd (tD (.str s) (i6 (w6 (i_22+1)))) fun x45=>cnd (chk (.int .u8) x45)
 (cnd ((intV x45)==43)
 (k44 (w6 ((w6 (i_22+1))+1)) true true)
 (bnd (tD (.str s) (i6 (w6 (i_22+1)))) fun x47=>cnd (chk (.int .u8) x47)
 (cnd ((intV x47)==45)
 (k44 (w6 ((w6 (i_22+1))+1)) true true)
 (k44 (w6 (i_22+1)) true false)) none)) none)
 (k44 (w6 (i_22+1)) false false))
 (some ((.tuple [(i6 i_22),(i6 kind_23)]),[]))) none)) none)
 (some ((.tuple [(i6 i_22),(i6 kind_23)]),[])))) fun k15 =>
 cnd (decide ((w6 (i_4+n_13))<(List.length s:Int)))
 (bnd (tD (.str s) (i6 (w6 (i_4+n_13)))) fun x16=>cnd (chk (.int .u8) x16)
 (cnd ((intV x16)==46)
 (aT O 250 [(.str s),(i6 (w6 ((w6 (i_4+n_13))+1)))] fun x18=>cnd (chk n6 x18)
 (cnd (decide ((intV x18)>0))
 (aT O 250 [(.str s),(i6 (w6 ((w6 (i_4+n_13))+1)))] fun x20=>cnd (chk n6 x20)
 (k15 (w6 ((w6 ((w6 (i_4+n_13))+1))+(intV x20))) 4 true ((intV x16)==46) true true) none)
 (k15 (w6 (i_4+n_13)) 3 true ((intV x16)==46) true false)) none)
 (k15 (w6 (i_4+n_13)) 3 true ((intV x16)==46) false false)) none)
 (k15 (w6 (i_4+n_13)) 3 false false false false))) fun k10 =>
 bnd (tD (.str s) (i6 i_4)) fun x11=>cnd (chk (.int .u8) x11)
 (cnd ((intV x11)==48)
 (k10 1 true)
 (k10 (intV x7) false)) none)) none)) fun k1 =>
 cnd (decide ((0:Int)<(List.length s:Int)))
 (bnd (tD (.str s) (i6 0)) fun x2=>cnd (chk (.int .u8) x2)
 (cnd ((intV x2)==45)
 (k1 1 true true)
 (k1 0 true false)) none)
 (k1 0 false false)
noncomputable def pD (s:Str):Option (Int×Int) :=
 jn (fun (i_4:Int) (t_5:Bool) (t_6:Bool) =>
 (bnd (aAm s i_4) fun y8 =>
 cnd (y8==0)
 (some (0,0))
 (jn (fun (n_13:Int) (t_14:Bool) =>
 (jn (fun (i_22:Int) (kind_23:Int) (t_24:Bool) (t_25:Bool) (t_26:Bool) (t_27:Bool) =>
 (cnd (decide (i_22<(List.length s:Int)))
 (bnd (nthI s i_22) fun y29 =>
 cnd ((y29.toNat:Int)==101)
 (jn (fun (k_35:Int) (t_36:Bool) (t_37:Bool) =>
 (bnd (aAm s k_35) fun y39 =>
 cnd (decide (y39>0))
 (bnd (aAm s k_35) fun y41 =>
 some ((IntKind.wrap .i64 (k_35+y41)),4))
 (some (i_22,kind_23)))) fun k30 =>
 cnd (decide ((IntKind.wrap .i64 (i_22+1))<(List.length s:Int)))
 (bnd (nthI s (IntKind.wrap .i64 (i_22+1))) fun y32 =>
 cnd ((y32.toNat:Int)==43)
 (k30 (IntKind.wrap .i64 ((IntKind.wrap .i64 (i_22+1))+1)) true true)
 (bnd (nthI s (IntKind.wrap .i64 (i_22+1))) fun y34 =>
 cnd ((y34.toNat:Int)==45)
 (k30 (IntKind.wrap .i64 ((IntKind.wrap .i64 (i_22+1))+1)) true true)
 (k30 (IntKind.wrap .i64 (i_22+1)) true false)))
 (k30 (IntKind.wrap .i64 (i_22+1)) false false))
 (bnd (nthI s i_22) fun y43 =>
 cnd ((y43.toNat:Int)==69)
 (jn (fun (k_49:Int) (t_50:Bool) (t_51:Bool) =>
 (bnd (aAm s k_49) fun y53 =>
 cnd (decide (y53>0))
 (bnd (aAm s k_49) fun y55 =>
 some ((IntKind.wrap .i64 (k_49+y55)),4))
 (some (i_22,kind_23)))) fun k44 =>
 cnd (decide ((IntKind.wrap .i64 (i_22+1))<(List.length s:Int)))
 (bnd (nthI s (IntKind.wrap .i64 (i_22+1))) fun y46 =>
 cnd ((y46.toNat:Int)==43)
 (k44 (IntKind.wrap .i64 ((IntKind.wrap .i64 (i_22+1))+1)) true true)
 (bnd (nthI s (IntKind.wrap .i64 (i_22+1))) fun y48 =>
 cnd ((y48.toNat:Int)==45)
 (k44 (IntKind.wrap .i64 ((IntKind.wrap .i64 (i_22+1))+1)) true true)
 (k44 (IntKind.wrap .i64 (i_22+1)) true false)))
 (k44 (IntKind.wrap .i64 (i_22+1)) false false))
 (some (i_22,kind_23))))
 (some (i_22,kind_23)))) fun k15 =>
 cnd (decide ((IntKind.wrap .i64 (i_4+n_13))<(List.length s:Int)))
 (bnd (nthI s (IntKind.wrap .i64 (i_4+n_13))) fun y17 =>
 cnd ((y17.toNat:Int)==46)
 (bnd (aAm s (IntKind.wrap .i64 ((IntKind.wrap .i64 (i_4+n_13))+1))) fun y19 =>
 cnd (decide (y19>0))
 (bnd (aAm s (IntKind.wrap .i64 ((IntKind.wrap .i64 (i_4+n_13))+1))) fun y21 =>
 k15 (IntKind.wrap .i64 ((IntKind.wrap .i64 ((IntKind.wrap .i64 (i_4+n_13))+1))+y21)) 4 true ((y17.toNat:Int)==46) true true)
 (k15 (IntKind.wrap .i64 (i_4+n_13)) 3 true ((y17.toNat:Int)==46) true false))
 (k15 (IntKind.wrap .i64 (i_4+n_13)) 3 true ((y17.toNat:Int)==46) false false))
 (k15 (IntKind.wrap .i64 (i_4+n_13)) 3 false false false false))) fun k10 =>
 bnd (nthI s i_4) fun y12 =>
 cnd ((y12.toNat:Int)==48)
 (k10 1 true)
 (k10 y8 false)))) fun k1 =>
 cnd (decide ((0:Int)<(List.length s:Int)))
 (bnd (nthI s 0) fun y3 =>
 cnd ((y3.toNat:Int)==45)
 (k1 1 true true)
 (k1 0 true false))
 (k1 0 false false)
def aLj:Decs:={decs:=[(15,(.int .u8)),(22,n6),(27,(.int .u8)),(39,(.int .u8)),(46,n6),(54,n6),(63,(.int .u8)),(68,(.int .u8)),(81,(.int .u8)),(86,(.int .u8)),(94,n6),(99,n6)]}
theorem aLk (O:Orc) (LP:LBs) (s:Str):eW 238 aLj Tryz.f238 O LP [(.str s)] []=wI O LP s:=by kernel_rfl
theorem aIV (s:Str):Imp (pD s) (wI O aE s) (Ri gR):=by
 simp only [pD,wI,zd,zr]
 try simp only [evs,tys]
 refine Imp.jn (fun I k2 k1=>∀ (i_4:Int) (t_5:Bool) (t_6:Bool),I (k2 i_4 t_5 t_6) (k1 i_4 t_5 t_6)) (fun i_4 t_5 t_6 => ?_) fun k1 k1t hk1 => ?_
 ·dsimp only
  try simp only [evs,tys]
  refine zC rfl fun y8 _ => ?_
  try simp only [zes,evs,tys]
  apply Imp.cnd
  ·exact zR
  ·refine Imp.jn (fun I k2 k1=>∀ (n_13:Int) (t_14:Bool),I (k2 n_13 t_14) (k1 n_13 t_14)) (fun n_13 t_14 => ?_) fun k10 k10t hk10 => ?_
   ·dsimp only
    try simp only [evs,tys]
    refine Imp.jn (fun I k2 k1=>∀ (i_22:Int) (kind_23:Int) (t_24:Bool) (t_25:Bool) (t_26:Bool) (t_27:Bool),I (k2 i_22 kind_23 t_24 t_25 t_26 t_27) (k1 i_22 kind_23 t_24 t_25 t_26 t_27)) (fun i_22 kind_23 t_24 t_25 t_26 t_27 => ?_) fun k15 k15t hk15 => ?_
    ·dsimp only
     try simp only [evs,tys]
     apply Imp.cnd
     ·refine Imp.op (f:=fun a => .int .u8 (a.toNat:Int)) (fun a h=>gO h) (fun a=>rfl) fun y29 hy29 => ?_
      try simp only [evs,tys]
      apply Imp.cnd
      ·refine Imp.jn (fun I k2 k1=>∀ (k_35:Int) (t_36:Bool) (t_37:Bool),I (k2 k_35 t_36 t_37) (k1 k_35 t_36 t_37)) (fun k_35 t_36 t_37 => ?_) fun k30 k30t hk30 => ?_
       ·dsimp only
        try simp only [evs,tys]
        refine zC rfl fun y39 _ => ?_
        try simp only [zes,evs,tys]
        apply Imp.cnd
        ·refine zC rfl fun y41 _ => ?_
         try simp only [zes,evs,tys]
         exact zR
        ·exact zR
       apply Imp.cnd
       ·refine Imp.op (f:=fun a => .int .u8 (a.toNat:Int)) (fun a h=>gO h) (fun a=>rfl) fun y32 hy32 => ?_
        try simp only [evs,tys]
        apply Imp.cnd
        ·first | exact hk30 _ _ _ | simpa only [evs,tys,evl] using hk30 _ _ _
        ·refine Imp.op (f:=fun a => .int .u8 (a.toNat:Int)) (fun a h=>gO h) (fun a=>rfl) fun y34 hy34 => ?_
         try simp only [evs,tys]
         apply Imp.cnd
         ·first | exact hk30 _ _ _ | simpa only [evs,tys,evl] using hk30 _ _ _
         ·first | exact hk30 _ _ _ | simpa only [evs,tys,evl] using hk30 _ _ _
       ·first | exact hk30 _ _ _ | simpa only [evs,tys,evl] using hk30 _ _ _
      ·refine Imp.op (f:=fun a => .int .u8 (a.toNat:Int)) (fun a h=>gO h) (fun a=>rfl) fun y43 hy43 => ?_
       try simp only [evs,tys]
       apply Imp.cnd
       ·refine Imp.jn (fun I k2 k1=>∀ (k_49:Int) (t_50:Bool) (t_51:Bool),I (k2 k_49 t_50 t_51) (k1 k_49 t_50 t_51)) (fun k_49 t_50 t_51 => ?_) fun k44 k44t hk44 => ?_
        ·dsimp only
         try simp only [evs,tys]
         refine zC rfl fun y53 _ => ?_
         try simp only [zes,evs,tys]
         apply Imp.cnd
         ·refine zC rfl fun y55 _ => ?_
          try simp only [zes,evs,tys]
          exact zR
         ·exact zR
        apply Imp.cnd
        ·refine Imp.op (f:=fun a => .int .u8 (a.toNat:Int)) (fun a h=>gO h) (fun a=>rfl) fun y46 hy46 => ?_
         try simp only [evs,tys]
         apply Imp.cnd
         ·first | exact hk44 _ _ _ | simpa only [evs,tys,evl] using hk44 _ _ _
         ·refine Imp.op (f:=fun a => .int .u8 (a.toNat:Int)) (fun a h=>gO h) (fun a=>rfl) fun y48 hy48 => ?_
          try simp only [evs,tys]
          apply Imp.cnd
          ·first | exact hk44 _ _ _ | simpa only [evs,tys,evl] using hk44 _ _ _
          ·first | exact hk44 _ _ _ | simpa only [evs,tys,evl] using hk44 _ _ _
        ·first | exact hk44 _ _ _ | simpa only [evs,tys,evl] using hk44 _ _ _
       ·exact zR
     ·exact zR
    apply Imp.cnd
    ·refine Imp.op (f:=fun a => .int .u8 (a.toNat:Int)) (fun a h=>gO h) (fun a=>rfl) fun y17 hy17 => ?_
     try simp only [evs,tys]
     apply Imp.cnd
     ·refine zC rfl fun y19 _ => ?_
      try simp only [zes,evs,tys]
      apply Imp.cnd
      ·refine zC rfl fun y21 _ => ?_
       try simp only [zes,evs,tys]
       first | exact hk15 _ _ _ _ _ _ | simpa only [evs,tys,evl] using hk15 _ _ _ _ _ _
      ·first | exact hk15 _ _ _ _ _ _ | simpa only [evs,tys,evl] using hk15 _ _ _ _ _ _
     ·first | exact hk15 _ _ _ _ _ _ | simpa only [evs,tys,evl] using hk15 _ _ _ _ _ _
    ·first | exact hk15 _ _ _ _ _ _ | simpa only [evs,tys,evl] using hk15 _ _ _ _ _ _
   refine Imp.op (f:=fun a => .int .u8 (a.toNat:Int)) (fun a h=>gO h) (fun a=>rfl) fun y12 hy12 => ?_
   try simp only [evs,tys]
   apply Imp.cnd
   ·first | exact hk10 _ _ | simpa only [evs,tys,evl] using hk10 _ _
   ·first | exact hk10 _ _ | simpa only [evs,tys,evl] using hk10 _ _
 apply Imp.cnd
 ·refine Imp.op (f:=fun a => .int .u8 (a.toNat:Int)) (fun a h=>gO h) (fun a=>rfl) fun y3 hy3 => ?_
  try simp only [evs,tys]
  apply Imp.cnd
  ·first | exact hk1 _ _ _ | simpa only [evs,tys,evl] using hk1 _ _ _
  ·first | exact hk1 _ _ _ | simpa only [evs,tys,evl] using hk1 _ _ _
 ·first | exact hk1 _ _ _ | simpa only [evs,tys,evl] using hk1 _ _ _
theorem aIW {s:Str} {r:Int×Int} (h:pD s=some r):aJ9 s=some r:=zV aFK (aIV s) Tryz.func238 (aLk _ _ s) h
abbrev jF:List Sh:=[.str,st',.bool,st',n6]
def aCD (O:Orc) (LP:LBs):bL:=fun s1 s1u=>cnd (chkL jF s1) (cnd (chkU [] s1u)
 (cnd (decide ((iv s1 4)<(List.length (sv s1 0):Int)))
 (aT O 251 [(zt s1 0),(zn s1 4)] fun x8=>cnd (chk (.tup [n6,n6]) x8)
 (cnd ((intV (tv x8 1))==0)
 (some (.ret,[(zt s1 0),(.slice [] [] true),(.bool false),(zo s1 3),(zn s1 4)],[]))
 (bnd (apd 1 (zo s1 3) (.slice [(i6 (intV (tv x8 0)))] [] true)) fun x10=>cnd (chk st' x10)
 (some (.nrm,[(zt s1 0),(zo s1 1),(zb s1 2),(.slice (esV x10) [] true),(i6 (w6 ((iv s1 4)+(intV (tv x8 1)))))],[])) none)) none)
 (some (.brk 0,(rb jF s1),[]))) none) none
def aCE (O:Orc) (LP:LBs) (s:Str):Option (PV×UP) :=
 bnd (LP (aCD O LP) [(.str s),(.slice [] [] true),(.bool false),(.slice [] [] true),(i6 0)] []) fun y16 =>
 exIs y16.1 (some 0) (cnd (chkL jF y16.2.1) (cnd (chkU [] y16.2.2)
 (some ((.tuple [(zs y16.2.1 3),(.bool true)]),[])) none) none)
 (exIs y16.1 none (cnd (chkL jF y16.2.1) (cnd (chkU [] y16.2.2)
 (some ((.tuple [(zs y16.2.1 1),(zb y16.2.1 2)]),[])) none) none)
 (none))
noncomputable def sL (s:Str):((List Int)×Int)→Option (((List Int)×Int)⊕((List Int)⊕Unit))
 | (out_6,i_7) =>
 cnd (decide (i_7<(List.length s:Int)))
  (bnd (aQu s i_7) fun y9 =>
  cnd (y9.2==0)
  (some (.inr (.inr ())))
  (bnd (tapp out_6 [y9.1]) fun y11 =>
  some (.inl (y11,(IntKind.wrap .i64 (i_7+y9.2))))))
  (some (.inr (.inl out_6)))
abbrev aNS (s:Str) (st:(List Int)×Int) (l:List PV) (u:UP):Prop:=l=[(.str s),(.slice [] [] true),(.bool false),(.slice (List.map (PV.int .i64) st.1) [] true),(i6 st.2)]∧u=[]
abbrev aNT (s:Str) (p:(List Int)⊕Unit) (r:EU):Prop:=elim p (fun (p:(List Int))=>∃ (i_13:Int),r=(Ex.brk 0,[(.str s),(.slice [] [] true),(.bool false),(.slice (List.map (PV.int .i64) p) [] true),(i6 i_13)],[])) (fun q2=>(fun (p:Unit)=>∃ (out_14:List Int),∃ (i_15:Int),r=(Ex.ret,[(.str s),(.slice [] [] true),(.bool false),(.slice (List.map (PV.int .i64) out_14) [] true),(i6 i_15)],[])) q2)
noncomputable def uR (s:Str):Option ((List Int)×Bool) :=
 bnd (bG (sL s) ([],0)) fun e16_2=>elim e16_2
 (fun out_12 =>
 some (out_12,true))
 (fun p16 =>
 some (([]:List Int),false))
def aQO:Decs:={decs:=[(15,(.tup [n6,n6])),(23,st')],loops:=[(3,[],⟨jF,[],[(some 0,jF,[]),(none,jF,[])]⟩)]}
theorem aQP (O:Orc) (LP:LBs) (s:Str):eW 239 aQO Tryz.f239 O LP [(.str s)] []=aCE O LP s:=by kernel_rfl
theorem aIX (s:Str):Lok (aNS s) (sL s) (aCD O aE) (aNT s):=by
 rintro ⟨out_6,i_7⟩ l u ⟨rfl,rfl⟩
 simp only [sL,aCD,zd,zr]
 refine zG ?_
 try simp only [evs,tys]
 apply Imp.cnd
 ·refine zC rfl fun y9 _ => ?_
  try simp only [zes,evs,tys]
  apply Imp.cnd
  ·exact zT ⟨out_6,i_7,zE⟩
  ·refine Imp.op (f:=fun a => .slice (List.map (PV.int .i64) a) [] true) (fun a h=>sD (enc:=(PV.int .i64)) zI zI (fun a=>by first | rfl | simp only [evs,tys,evc]) h) (fun a=>rfl) fun y11 hy11 => ?_
   try simp only [evs,tys]
   exact zN
 ·exact zB ⟨i_7,zE⟩
theorem aNU (s:Str):Imp (uR s) (aCE O aE s) (Ri rD):=by
 simp only [uR,aCE,zd,zr]
 try simp only [evs,tys]
 refine zL (aIX s) ?_
 rintro (out_12 | p) vy16 hy16
 ·try simp only [aO,aP]
  obtain ⟨i_13,rfl⟩:=hy16
  refine zH ?_
  try simp only [evs,tys]
  exact zR
 ·try simp only [aO,aP]
  obtain ⟨out_14,i_15,rfl⟩:=hy16
  refine Imp.exMiss rfl ?_
  refine zH ?_
  try simp only [evs,tys]
  exact zR
theorem aNV {s:Str} {r:(List Int)×Bool} (h:uR s=some r):aST s=some r:=zV aUo (aNU s) Tryz.func239 (aQP _ _ s) h
def kT (O:Orc) (LP:LBs) (s:GSchema) (d:GDoc):Option (PV×UP) :=
 aT O 30 [(eS s)] fun x1=>cnd (chk .bool x1)
 (cnd (bP x1)
 (aT O 31 [(eD d)] fun x3=>cnd (chk .bool x3)
 (some ((.bool (bP x3)),[])) none)
 (some ((.bool false),[]))) none
noncomputable def iR (s:GSchema) (d:GDoc):Option Bool :=
 bnd (aAn s) fun y2 =>
 cnd y2
 (bnd (aAo d) fun y4 =>
 some y4)
 (some false)
def aCF:Decs:={decs:=[(6,.bool),(9,.bool)]}
theorem aCG (O:Orc) (LP:LBs) (s:GSchema) (d:GDoc):eW 9 aCF Tryz.f9 O LP [(eS s),(eD d)] []=kT O LP s d:=by kernel_rfl
theorem aBI (s:GSchema) (d:GDoc):Imp (iR s d) (kT O aE s d) (Ri aA):=by
 simp only [iR,kT,zd,zr]
 try simp only [evs,tys]
 refine zC rfl fun y2 _ => ?_
 try simp only [zes,evs,tys]
 apply Imp.cnd
 ·refine zC rfl fun y4 _ => ?_
  try simp only [zes,evs,tys]
  exact zR
 ·exact zR
theorem aBJ {s:GSchema} {d:GDoc} {r:Bool} (h:iR s d=some r):pM s d=some r:=zV aC (aBI s d) Tryz.func9 (aCG _ _ s d) h
theorem aBK {r:Bool} (n:Nat) (h:aM7 Tryz.prog MT XT n 12 [] []=some (aA r,[])):fA=some r:=aP4 (aA9 aC) (aYb n h)
abbrev dI:List Sh:=[(.func 39 [] []),.bool,sf,n6,n6,sf,sf]
def wJ (O:Orc) (LP:LBs):bL:=fun s3 s3u=>cnd (chkL dI s3) (cnd (chkU [] s3u)
 (cnd (decide ((iv s3 4)<(iv s3 3)))
 (bnd (ix 1 (zs s3 2) (zn s3 4)) fun x9=>cnd (chk (.ref sf) x9)
 (aT O 39 [(.slice (esV (refV x9)) [] false)] fun x11=>cnd (chk .bool x11)
 (cnd (!(bP x11))
 (some (.ret,(pu (pu (rb dI s3) 0 (.func (.func 39) [] [])) 1 (.bool false)),[]))
 (some (.nrm,(pu (pu (rb dI s3) 0 (.func (.func 39) [] [])) 4 (i6 (w6 ((iv s3 4)+1)))),[]))) none) none)
 (some (.brk 0,(pu (rb dI s3) 0 (.func (.func 39) [] [])),[]))) none) none
def wK (O:Orc) (LP:LBs) (d:GDoc):Option (PV×UP) :=
 aT O 104 [(eD d)] fun x1=>cnd (chk sf x1)
 (bnd (LP (wJ O LP) [(.func (.func 39) [] []),(.bool false),(.slice (esV x1) [] false),(i6 (List.length (esV x1):Int)),(i6 0),(zq aU d.ops),(zq aF d.frags)] []) fun y15 =>
 exIs y15.1 (some 0) (cnd (chkL dI y15.2.1) (cnd (chkU [] y15.2.2)
 (some ((.bool true),[])) none) none)
 (exIs y15.1 none (cnd (chkL dI y15.2.1) (cnd (chkU [] y15.2.2)
 (some ((zb y15.2.1 1),[])) none) none)
 (none))) none
noncomputable def iE (y2:List (List GDir)):Int→Option (Int⊕(Unit⊕Unit))
 | t_8 =>
 cnd (decide (t_8<(List.length y2:Int)))
  (bnd (nthI y2 t_8) fun y10 =>
  bnd (aBq y10) fun y12 =>
  cnd (!y12)
  (some (.inr (.inr ())))
  (some (.inl (IntKind.wrap .i64 (t_8+1)))))
  (some (.inr (.inl ())))
abbrev tN (d:GDoc) (y2:List (List GDir)) (a0:PV):List PV:=[(.func (.func 39) [] []),(.bool false),(.slice (List.map (hJ aH) y2) [] false),(i6 (List.length y2:Int)),a0,(zq aU d.ops),(zq aF d.frags)]
abbrev aBZ (d:GDoc) (y2:List (List GDir)) (st:Int) (l:List PV) (u:UP):Prop:=l=(tN d y2 (i6 st))∧u=[]
abbrev aIY (d:GDoc) (y2:List (List GDir)) (p:Unit⊕Unit) (r:EU):Prop:=elim p (fun (p:Unit)=>∃ (t_13:Int),r=(Ex.brk 0,(tN d y2 (i6 t_13)),[])) (fun (p:Unit)=>∃ (t_14:Int),r=(Ex.ret,(tN d y2 (i6 t_14)),[]))
noncomputable def sM (d:GDoc):Option Bool :=
 bnd (aDW d) fun y2 =>
 bnd (bG (iE y2) 0) fun e15_2=>elim e15_2
 (fun p15 =>
 some true)
 (fun p15 =>
 some false)
def aLl:Decs:={decs:=[(8,sf),(12,(.ref sf)),(16,.bool)],loops:=[(2,[(2,2)],⟨dI,[],[(some 0,dI,[]),(none,dI,[])]⟩)]}
theorem aLm (O:Orc) (LP:LBs) (d:GDoc):eW 38 aLl Tryz.f38 O LP [(eD d),(.func (.func 39) [] [])] []=wK O LP d:=by kernel_rfl
theorem aGd (d:GDoc) (y2:List (List GDir)):∀ st l u,aBZ d y2 st l u→Imp (iE y2 st) (wJ O aE l u) (mH (aBZ d y2) (aIY d y2)):=by
 rintro t_8 l u ⟨rfl,rfl⟩
 simp only [iE,wJ,zd,zr]
 refine zG ?_
 try simp only [evs,tys]
 apply Imp.cnd
 ·refine Imp.op (f:=fun a => .ref ((hJ aH) a)) (fun a h=>aWg (enc:=(hJ aH)) zI ⟨zA,by decide⟩ h) (fun a=>rfl) fun y10 hy10 => ?_
  try simp only [evs,tys]
  refine zC rfl fun y12 _ => ?_
  try simp only [zes,evs,tys]
  apply Imp.cnd
  ·exact zT ⟨t_8,zE⟩
  ·exact zN
 ·exact zB ⟨t_8,zE⟩
theorem aIZ (d:GDoc):Imp (sM d) (wK O aE d) (Ri aA):=by
 simp only [sM,wK,zd,zr]
 try simp only [evs,tys]
 refine zC rfl fun y2 _ => ?_
 try simp only [zes,evs,tys]
 refine zL (aGd d y2) ?_
 rintro (p | p) vy15 hy15
 ·try simp only [aO,aP]
  obtain ⟨t_13,rfl⟩:=hy15
  refine zH ?_
  try simp only [evs,tys]
  exact zR
 ·try simp only [aO,aP]
  obtain ⟨t_14,rfl⟩:=hy15
  refine Imp.exMiss rfl ?_
  refine zH ?_
  try simp only [evs,tys]
  exact zR
theorem aI0 {d:GDoc} {r:Bool} (h:sM d=some r):aET d=some r:=zV aC (aIZ d) Tryz.func38 (aLm _ _ d) h
def mT (O:Orc) (LP:LBs) (a:Str) (x:GSel) (u0_4:GDoc) (u0_3:GSchema):Option (PV×UP) :=
 aT O 39 [(zq aH x.dirs)] fun x1=>cnd (chk .bool x1)
 (some ((.bool (bP x1)),[[(5,[(.func (.func 39) [] [])]),(4,[(zq aU u0_4.ops),(zq aF u0_4.frags)]),(3,[(zq aI u0_3.defs),(.str u0_3.query),(.str u0_3.mutation)])]])) none
noncomputable def jO (a:Str) (x:GSel) (u0_4:GDoc) (u0_3:GSchema):Option Bool :=
 bnd (aBq x.dirs) fun y2 =>
 some y2
def aDZ:Decs:={decs:=[(9,.bool)]}
theorem aD0 (O:Orc) (LP:LBs) (a:Str) (x:GSel) (u0_4:GDoc) (u0_3:GSchema):eW 105 aDZ Tryz.f105 O LP [(.str a),(eL x),(.ptr 1 5 0)] [[(5,[(.func (.func 39) [] [])]),(4,[(zq aU u0_4.ops),(zq aF u0_4.frags)]),(3,[(zq aI u0_3.defs),(.str u0_3.query),(.str u0_3.mutation)])]]=mT O LP a x u0_4 u0_3:=by kernel_rfl
theorem aCH (a:Str) (x:GSel) (u0_4:GDoc) (u0_3:GSchema):Imp (jO a x u0_4 u0_3) (mT O aE a x u0_4 u0_3) (fun r v=>v=(aA r,(dU a x u0_4 u0_3 r))):=by
 simp only [jO,mT,zd,zr]
 try simp only [evs,tys]
 refine zC rfl fun y2 _ => ?_
 try simp only [zes,evs,tys]
 exact Imp.some (by first | rfl | simp only [zes,dU,evs,tys,evl])
theorem aCI {a:Str} {x:GSel} {u0_4:GDoc} {u0_3:GSchema} {r:Bool} (h:jO a x u0_4 u0_3=some r):rE a x u0_4 u0_3=some r:=zV aC (aCH a x u0_4 u0_3) Tryz.func105 (aD0 _ _ a x u0_4 u0_3) h
abbrev nQ:List Sh:=[.str,(.func 105 [] [(.ptr 1 5 0)]),(.ptr 0 4 0),.bool,sf,n6,n6,sf,.str,.str]
def aHQ (O:Orc) (LP:LBs):bL:=fun s1 s1u=>cnd (chkL nQ s1) (cnd (chkU [[(5,[(.func 39 [] [])]),(4,[sf,sf]),(3,[sf,.str,.str])]] s1u)
 (cnd (decide ((iv s1 6)<(iv s1 5)))
 (bnd (ix 7 (zs s1 4) (zn s1 6)) fun x12=>cnd (chk (.ref oT) x12)
 (bnd (O 105 [(zt s1 0),(.agg [(zn (rf x12) 0),(zt (rf x12) 1),(zt (rf x12) 2),(zs (rf x12) 3),(zs (rf x12) 4),(zt (rf x12) 5),(zs (rf x12) 6)]),(.ptr 2 5 0)] [[(11,[(zn (rf x12) 0),(zt (rf x12) 1),(zt (rf x12) 2),(zs (rf x12) 3),(zs (rf x12) 4),(zt (rf x12) 5),(zs (rf x12) 6)]),(4,[(zs s1 7),(zt s1 8),(zt s1 9)])],[(5,[(.func (.func 39) [] [])]),(4,[(zs (bx s1u 0 1) 0),(zs (bx s1u 0 1) 1)]),(3,[(zs (bx s1u 0 2) 0),(zt (bx s1u 0 2) 1),(zt (bx s1u 0 2) 2)])]]) fun x14=>cnd (chkU [[(11,[n6,.str,.str,sf,sf,.str,sf]),(4,[sf,.str,.str])],[(5,[(.func 39 [] [])]),(4,[sf,sf]),(3,[sf,.str,.str])]] x14.2) (cnd (chk .bool x14.1)
 (cnd (bP x14.1)
 (aT O 138 [(.agg [(zs (bx x14.2 0 1) 0),(zt (bx x14.2 0 1) 1),(zt (bx x14.2 0 1) 2)]),(zt s1 0),(.agg [(zn (bx x14.2 0 0) 0),(zt (bx x14.2 0 0) 1),(zt (bx x14.2 0 0) 2),(zs (bx x14.2 0 0) 3),(zs (bx x14.2 0 0) 4),(zt (bx x14.2 0 0) 5),(zs (bx x14.2 0 0) 6)])] fun x16=>cnd (chk .str x16)
 (bnd (O 137 [(.agg [(zs (bx x14.2 0 1) 0),(zt (bx x14.2 0 1) 1),(zt (bx x14.2 0 1) 2)]),(.str (strV x16)),(zs (bx x14.2 0 0) 6),(.func (.func 105) [] [(.ptr 2 5 0)])] [[(11,[(zn (bx x14.2 0 0) 0),(zt (bx x14.2 0 0) 1),(zt (bx x14.2 0 0) 2),(zs (bx x14.2 0 0) 3),(zs (bx x14.2 0 0) 4),(zt (bx x14.2 0 0) 5),(zs (bx x14.2 0 0) 6)]),(4,[(zs (bx x14.2 0 1) 0),(zt (bx x14.2 0 1) 1),(zt (bx x14.2 0 1) 2)])],[(5,[(.func (.func 39) [] [])]),(4,[(zs (bx x14.2 1 1) 0),(zs (bx x14.2 1 1) 1)]),(3,[(zs (bx x14.2 1 2) 0),(zt (bx x14.2 1 2) 1),(zt (bx x14.2 1 2) 2)])]]) fun x18=>cnd (chkU [[(11,[n6,.str,.str,sf,sf,.str,sf]),(4,[sf,.str,.str])],[(5,[(.func 39 [] [])]),(4,[sf,sf]),(3,[sf,.str,.str])]] x18.2) (cnd (chk .bool x18.1)
 (cnd (!(bP x18.1))
 (some (.brk 0,(pu (pu (pu (pu (pu (rb nQ s1) 1 (.func (.func 105) [] [(.ptr 1 5 0)])) 3 (.bool (bP x18.1))) 7 (zs (bx x18.2 0 1) 0)) 8 (zt (bx x18.2 0 1) 1)) 9 (zt (bx x18.2 0 1) 2)),[[(5,[(.func (.func 39) [] [])]),(4,[(zs (bx x18.2 1 1) 0),(zs (bx x18.2 1 1) 1)]),(3,[(zs (bx x18.2 1 2) 0),(zt (bx x18.2 1 2) 1),(zt (bx x18.2 1 2) 2)])]]))
 (some (.nrm,[(zt s1 0),(.func (.func 105) [] [(.ptr 1 5 0)]),(.ptr 0 4 0),(.bool (bP x18.1)),(zs s1 4),(zn s1 5),(i6 (w6 ((iv s1 6)+1))),(zs (bx x18.2 0 1) 0),(zt (bx x18.2 0 1) 1),(zt (bx x18.2 0 1) 2)],[[(5,[(.func (.func 39) [] [])]),(4,[(zs (bx x18.2 1 1) 0),(zs (bx x18.2 1 1) 1)]),(3,[(zs (bx x18.2 1 2) 0),(zt (bx x18.2 1 2) 1),(zt (bx x18.2 1 2) 2)])]]))) none) none) none)
 (some (.brk 0,(pu (pu (pu (pu (pu (rb nQ s1) 1 (.func (.func 105) [] [(.ptr 1 5 0)])) 3 (.bool false)) 7 (zs (bx x14.2 0 1) 0)) 8 (zt (bx x14.2 0 1) 1)) 9 (zt (bx x14.2 0 1) 2)),[[(5,[(.func (.func 39) [] [])]),(4,[(zs (bx x14.2 1 1) 0),(zs (bx x14.2 1 1) 1)]),(3,[(zs (bx x14.2 1 2) 0),(zt (bx x14.2 1 2) 1),(zt (bx x14.2 1 2) 2)])]]))) none) none) none)
 (some (.brk 0,(pu (rb nQ s1) 1 (.func (.func 105) [] [(.ptr 1 5 0)])),[[(5,[(.func (.func 39) [] [])]),(4,[(zs (bx s1u 0 1) 0),(zs (bx s1u 0 1) 1)]),(3,[(zs (bx s1u 0 2) 0),(zt (bx s1u 0 2) 1),(zt (bx s1u 0 2) 2)])]]))) none) none
def aHR (O:Orc) (LP:LBs) (s:GSchema) (typ:Str) (l0:List GSel) (u0_4:GDoc) (u0_3:GSchema):Option (PV×UP) :=
 bnd (LP (aHQ O LP) [(.str typ),(.func (.func 105) [] [(.ptr 1 5 0)]),(.ptr 0 4 0),(.bool true),(zq aG l0),(i6 (List.length (List.map aG l0):Int)),(i6 0),(zq aI s.defs),(.str s.query),(.str s.mutation)] [[(5,[(.func (.func 39) [] [])]),(4,[(zq aU u0_4.ops),(zq aF u0_4.frags)]),(3,[(zq aI u0_3.defs),(.str u0_3.query),(.str u0_3.mutation)])]]) fun y22 =>
 exIs y22.1 (some 0) (cnd (chkL nQ y22.2.1) (cnd (chkU [[(5,[(.func 39 [] [])]),(4,[sf,sf]),(3,[sf,.str,.str])]] y22.2.2)
 (some ((zb y22.2.1 3),[[(5,[(.func (.func 39) [] [])]),(4,[(zs (bx y22.2.2 0 1) 0),(zs (bx y22.2.2 0 1) 1)]),(3,[(zs (bx y22.2.2 0 2) 0),(zt (bx y22.2.2 0 2) 1),(zt (bx y22.2.2 0 2) 2)])]])) none) none)
 (none)
noncomputable def uS (s:GSchema) (typ:Str) (l0:List GSel) (u0_4:GDoc) (u0_3:GSchema):(Bool×Int)→Option ((Bool×Int)⊕Bool)
 | (ok_10,t_11) =>
 cnd (decide (t_11<(List.length l0:Int)))
  (bnd (nthI l0 t_11) fun y13 =>
  bnd (rE typ y13 u0_4 u0_3) fun y15 =>
  cnd y15
  (bnd (uM s typ y13) fun y17 =>
  bnd (aHH s y17 y13.sels u0_4 u0_3) fun y19 =>
  cnd (!y19)
   (some (.inr y19))
   (some (.inl (y19,(IntKind.wrap .i64 (t_11+1))))))
  (some (.inr false)))
  (some (.inr ok_10))
abbrev aUw (s:GSchema) (typ:Str) (l0:List GSel) (u0_4:GDoc) (u0_3:GSchema) (st:Bool×Int) (l:List PV) (u:UP):Prop:=l=[(.str typ),(.func (.func 105) [] [(.ptr 1 5 0)]),(.ptr 0 4 0),(.bool st.1),(zq aG l0),(i6 (List.length l0:Int)),(i6 st.2),(zq aI s.defs),(.str s.query),(.str s.mutation)]∧u=[[(5,[(.func (.func 39) [] [])]),(4,[(zq aU u0_4.ops),(zq aF u0_4.frags)]),(3,[(zq aI u0_3.defs),(.str u0_3.query),(.str u0_3.mutation)])]]
abbrev aUx (s:GSchema) (typ:Str) (l0:List GSel) (u0_4:GDoc) (u0_3:GSchema) (p:Bool) (r:EU):Prop:=(fun (p:Bool)=>∃ (t_21:Int),r=(Ex.brk 0,[(.str typ),(.func (.func 105) [] [(.ptr 1 5 0)]),(.ptr 0 4 0),(.bool p),(zq aG l0),(i6 (List.length l0:Int)),(i6 t_21),(zq aI s.defs),(.str s.query),(.str s.mutation)],[[(5,[(.func (.func 39) [] [])]),(4,[(zq aU u0_4.ops),(zq aF u0_4.frags)]),(3,[(zq aI u0_3.defs),(.str u0_3.query),(.str u0_3.mutation)])]])) p
noncomputable def aGL (s:GSchema) (typ:Str) (l0:List GSel) (u0_4:GDoc) (u0_3:GSchema):Option Bool :=
 bnd (bG (uS s typ l0 u0_4 u0_3) (true,0)) fun ok_20 =>
 some ok_20
def aW4:Decs:={decs:=[(16,(.ref oT)),(21,.bool),(27,.str),(31,.bool)],ups:=[(21,[[(11,[n6,.str,.str,sf,sf,.str,sf]),(4,[sf,.str,.str])],[(5,[(.func 39 [] [])]),(4,[sf,sf]),(3,[sf,.str,.str])]]),(31,[[(11,[n6,.str,.str,sf,sf,.str,sf]),(4,[sf,.str,.str])],[(5,[(.func 39 [] [])]),(4,[sf,sf]),(3,[sf,.str,.str])]])],loops:=[(3,[(4,3)],⟨nQ,[[(5,[(.func 39 [] [])]),(4,[sf,sf]),(3,[sf,.str,.str])]],[(some 0,nQ,[[(5,[(.func 39 [] [])]),(4,[sf,sf]),(3,[sf,.str,.str])]])]⟩)]}
theorem aW5 (O:Orc) (LP:LBs) (s:GSchema) (typ:Str) (l0:List GSel) (u0_4:GDoc) (u0_3:GSchema):eW 137 aW4 Tryz.f137 O LP [(eS s),(.str typ),(zq aG l0),(.func (.func 105) [] [(.ptr 1 5 0)])] [[(5,[(.func (.func 39) [] [])]),(4,[(zq aU u0_4.ops),(zq aF u0_4.frags)]),(3,[(zq aI u0_3.defs),(.str u0_3.query),(.str u0_3.mutation)])]]=aHR O LP s typ l0 u0_4 u0_3:=by kernel_rfl
theorem aNW (s:GSchema) (typ:Str) (l0:List GSel) (u0_4:GDoc) (u0_3:GSchema):Lok (aUw s typ l0 u0_4 u0_3) (uS s typ l0 u0_4 u0_3) (aHQ O aE) (aUx s typ l0 u0_4 u0_3):=by
 rintro ⟨ok_10,t_11⟩ l u ⟨rfl,rfl⟩
 simp only [uS,aHQ,zd,zr]
 refine zG ?_
 try simp only [evs,tys]
 apply Imp.cnd
 ·refine zX aG iQ fun y13 _ => ?_
  try simp only [evs,tys]
  refine Imp.gcall (f:=aA) (fu:=fun a=>[(11,[(i6 y13.kind),(.str y13.alias),(.str y13.name),(zq aD y13.args),(zq aH y13.dirs),(.str y13.on_),(zq aG y13.sels)]),(4,[(zq aI s.defs),(.str s.query),(.str s.mutation)])]::dU typ y13 u0_4 u0_3 a) (fun a h=>by first | exact iJ rfl rfl (by first | rfl | (simp only [zes,tys];rfl)) (bM h) | (have h':=bM h;simp only [evs,tys,evl,dU] at h';exact iJ rfl rfl (by first | rfl | (simp only [zes,tys];rfl)) h')) zK (fun a=>by first | rfl | (simp only [dU,evs,tys];first | rfl | (cases w<;>rfl))) fun y15 hy15 => ?_
  try simp only [aA,dU,evs,tys]
  apply Imp.cnd
  ·refine zC rfl fun y17 _ => ?_
   try simp only [zes,evs,tys]
   refine Imp.gcall (f:=aA) (fu:=fun a=>[(11,[(i6 y13.kind),(.str y13.alias),(.str y13.name),(zq aD y13.args),(zq aH y13.dirs),(.str y13.on_),(zq aG y13.sels)]),(4,[(zq aI s.defs),(.str s.query),(.str s.mutation)])]::kP s y17 y13.sels u0_4 u0_3 a) (fun a h=>by first | exact iJ rfl rfl (by first | rfl | (simp only [zes,tys];rfl)) (bM h) | (have h':=bM h;simp only [evs,tys,evl,kP] at h';exact iJ rfl rfl (by first | rfl | (simp only [zes,tys];rfl)) h')) zK (fun a=>by first | rfl | (simp only [kP,evs,tys];first | rfl | (cases w<;>rfl))) fun y19 hy19 => ?_
   try simp only [aA,kP,evs,tys]
   apply Imp.cnd
   ·exact zB ⟨t_11,zE⟩
   ·exact zN
  ·exact zB ⟨t_11,zE⟩
 ·exact zB ⟨t_11,zE⟩
theorem aUy (s:GSchema) (typ:Str) (l0:List GSel) (u0_4:GDoc) (u0_3:GSchema):Imp (aGL s typ l0 u0_4 u0_3) (aHR O aE s typ l0 u0_4 u0_3) (fun r v=>v=(aA r,(kP s typ l0 u0_4 u0_3 r))):=by
 simp only [aGL,aHR,zd,zr]
 try simp only [evs,tys]
 refine zL (aNW s typ l0 u0_4 u0_3) ?_
 rintro ok_20 _ ⟨t_21,rfl⟩
 refine zH ?_
 try simp only [evs,tys]
 exact Imp.some (by first | rfl | simp only [zes,kP,evs,tys,evl])
theorem aUz {s:GSchema} {typ:Str} {l0:List GSel} {u0_4:GDoc} {u0_3:GSchema} {r:Bool} (h:aGL s typ l0 u0_4 u0_3=some r):aHH s typ l0 u0_4 u0_3=some r:=zV aC (aUy s typ l0 u0_4 u0_3) Tryz.func137 (aW5 _ _ s typ l0 u0_4 u0_3) h
abbrev kU:List Sh:=[(.func 105 [] [(.ptr 1 5 0)]),(.ptr 0 3 0),(.ptr 0 4 0),.bool,sf,n6,n6,sf,sf,sf,.str,.str]
def aE2 (O:Orc) (LP:LBs):bL:=fun s1 s1u=>cnd (chkL kU s1) (cnd (chkU [[(5,[(.func 39 [] [])]),(4,[sf,sf]),(3,[sf,.str,.str])]] s1u)
 (cnd (decide ((iv s1 6)<(iv s1 5)))
 (bnd (ix 5 (zs s1 4) (zn s1 6)) fun x9=>cnd (chk (.ref shOp) x9)
 (aT O 68 [(.agg [(zs s1 9),(zt s1 10),(zt s1 11)]),(.agg [(zn (rf x9) 0),(zt (rf x9) 1),(zs (rf x9) 2),(zs (rf x9) 3),(zs (rf x9) 4)])] fun x11=>cnd (chk .str x11)
 (bnd (O 137 [(.agg [(zs s1 9),(zt s1 10),(zt s1 11)]),(.str (strV x11)),(zs (rf x9) 4),(.func (.func 105) [] [(.ptr 2 5 0)])] [[(8,[(zn (rf x9) 0),(zt (rf x9) 1),(zs (rf x9) 2),(zs (rf x9) 3),(zs (rf x9) 4)]),(4,[(zs s1 7),(zs s1 8)]),(3,[(zs s1 9),(zt s1 10),(zt s1 11)])],[(5,[(.func (.func 39) [] [])]),(4,[(zs (bx s1u 0 1) 0),(zs (bx s1u 0 1) 1)]),(3,[(zs (bx s1u 0 2) 0),(zt (bx s1u 0 2) 1),(zt (bx s1u 0 2) 2)])]]) fun x13=>cnd (chkU [[(8,[n6,.str,sf,sf,sf]),(4,[sf,sf]),(3,[sf,.str,.str])],[(5,[(.func 39 [] [])]),(4,[sf,sf]),(3,[sf,.str,.str])]] x13.2) (cnd (chk .bool x13.1)
 (cnd (!(bP x13.1))
 (some (.ret,[(.func (.func 105) [] [(.ptr 1 5 0)]),(.ptr 0 3 0),(.ptr 0 4 0),(.bool false),(zs s1 4),(zn s1 5),(zn s1 6),(zs (bx x13.2 0 1) 0),(zs (bx x13.2 0 1) 1),(zs (bx x13.2 0 2) 0),(zt (bx x13.2 0 2) 1),(zt (bx x13.2 0 2) 2)],[[(5,[(.func (.func 39) [] [])]),(4,[(zs (bx x13.2 1 1) 0),(zs (bx x13.2 1 1) 1)]),(3,[(zs (bx x13.2 1 2) 0),(zt (bx x13.2 1 2) 1),(zt (bx x13.2 1 2) 2)])]]))
 (some (.nrm,[(.func (.func 105) [] [(.ptr 1 5 0)]),(.ptr 0 3 0),(.ptr 0 4 0),(zb s1 3),(zs s1 4),(zn s1 5),(i6 (w6 ((iv s1 6)+1))),(zs (bx x13.2 0 1) 0),(zs (bx x13.2 0 1) 1),(zs (bx x13.2 0 2) 0),(zt (bx x13.2 0 2) 1),(zt (bx x13.2 0 2) 2)],[[(5,[(.func (.func 39) [] [])]),(4,[(zs (bx x13.2 1 1) 0),(zs (bx x13.2 1 1) 1)]),(3,[(zs (bx x13.2 1 2) 0),(zt (bx x13.2 1 2) 1),(zt (bx x13.2 1 2) 2)])]]))) none) none) none) none)
 (some (.brk 0,(pu (rb kU s1) 0 (.func (.func 105) [] [(.ptr 1 5 0)])),[[(5,[(.func (.func 39) [] [])]),(4,[(zs (bx s1u 0 1) 0),(zs (bx s1u 0 1) 1)]),(3,[(zs (bx s1u 0 2) 0),(zt (bx s1u 0 2) 1),(zt (bx s1u 0 2) 2)])]]))) none) none
abbrev kV:List Sh:=[(.func 105 [] [(.ptr 1 5 0)]),(.ptr 0 3 0),.bool,sf,n6,n6,sf,sf,sf,.str,.str]
def aE3 (O:Orc) (LP:LBs):bL:=fun s18 s18u=>cnd (chkL kV s18) (cnd (chkU [[(5,[(.func 39 [] [])]),(4,[sf,sf]),(3,[sf,.str,.str])]] s18u)
 (cnd (decide ((iv s18 5)<(iv s18 4)))
 (bnd (ix 4 (zs s18 3) (zn s18 5)) fun x24=>cnd (chk (.ref iP) x24)
 (bnd (O 137 [(.agg [(zs s18 8),(zt s18 9),(zt s18 10)]),(zt (rf x24) 1),(zs (rf x24) 3),(.func (.func 105) [] [(.ptr 2 5 0)])] [[(10,[(zt (rf x24) 0),(zt (rf x24) 1),(zs (rf x24) 2),(zs (rf x24) 3)]),(4,[(zs s18 6),(zs s18 7)]),(3,[(zs s18 8),(zt s18 9),(zt s18 10)])],[(5,[(.func (.func 39) [] [])]),(4,[(zs (bx s18u 0 1) 0),(zs (bx s18u 0 1) 1)]),(3,[(zs (bx s18u 0 2) 0),(zt (bx s18u 0 2) 1),(zt (bx s18u 0 2) 2)])]]) fun x26=>cnd (chkU [[(10,[.str,.str,sf,sf]),(4,[sf,sf]),(3,[sf,.str,.str])],[(5,[(.func 39 [] [])]),(4,[sf,sf]),(3,[sf,.str,.str])]] x26.2) (cnd (chk .bool x26.1)
 (cnd (!(bP x26.1))
 (some (.ret,[(.func (.func 105) [] [(.ptr 1 5 0)]),(.ptr 0 3 0),(.bool false),(zs s18 3),(zn s18 4),(zn s18 5),(zs (bx x26.2 0 1) 0),(zs (bx x26.2 0 1) 1),(zs (bx x26.2 0 2) 0),(zt (bx x26.2 0 2) 1),(zt (bx x26.2 0 2) 2)],[[(5,[(.func (.func 39) [] [])]),(4,[(zs (bx x26.2 1 1) 0),(zs (bx x26.2 1 1) 1)]),(3,[(zs (bx x26.2 1 2) 0),(zt (bx x26.2 1 2) 1),(zt (bx x26.2 1 2) 2)])]]))
 (some (.nrm,[(.func (.func 105) [] [(.ptr 1 5 0)]),(.ptr 0 3 0),(zb s18 2),(zs s18 3),(zn s18 4),(i6 (w6 ((iv s18 5)+1))),(zs (bx x26.2 0 1) 0),(zs (bx x26.2 0 1) 1),(zs (bx x26.2 0 2) 0),(zt (bx x26.2 0 2) 1),(zt (bx x26.2 0 2) 2)],[[(5,[(.func (.func 39) [] [])]),(4,[(zs (bx x26.2 1 1) 0),(zs (bx x26.2 1 1) 1)]),(3,[(zs (bx x26.2 1 2) 0),(zt (bx x26.2 1 2) 1),(zt (bx x26.2 1 2) 2)])]]))) none) none) none)
 (some (.brk 2,(pu (rb kV s18) 0 (.func (.func 105) [] [(.ptr 1 5 0)])),[[(5,[(.func (.func 39) [] [])]),(4,[(zs (bx s18u 0 1) 0),(zs (bx s18u 0 1) 1)]),(3,[(zs (bx s18u 0 2) 0),(zt (bx s18u 0 2) 1),(zt (bx s18u 0 2) 2)])]]))) none) none
def aE4 (O:Orc) (LP:LBs) (s:GSchema) (d:GDoc) (u0_4:GDoc) (u0_3:GSchema):Option (PV×UP) :=
 bnd (LP (aE2 O LP) [(.func (.func 105) [] [(.ptr 1 5 0)]),(.ptr 0 3 0),(.ptr 0 4 0),(.bool false),(zq aU d.ops),(i6 (List.length (List.map aU d.ops):Int)),(i6 0),(zq aU d.ops),(zq aF d.frags),(zq aI s.defs),(.str s.query),(.str s.mutation)] [[(5,[(.func (.func 39) [] [])]),(4,[(zq aU u0_4.ops),(zq aF u0_4.frags)]),(3,[(zq aI u0_3.defs),(.str u0_3.query),(.str u0_3.mutation)])]]) fun y17 =>
 exIs y17.1 (some 0) (cnd (chkL kU y17.2.1) (cnd (chkU [[(5,[(.func 39 [] [])]),(4,[sf,sf]),(3,[sf,.str,.str])]] y17.2.2)
 (bnd (LP (aE3 O LP) [(.func (.func 105) [] [(.ptr 1 5 0)]),(.ptr 0 3 0),(zb y17.2.1 3),(zs y17.2.1 8),(i6 (List.length (ev y17.2.1 8):Int)),(i6 0),(zs y17.2.1 7),(zs y17.2.1 8),(zs y17.2.1 9),(zt y17.2.1 10),(zt y17.2.1 11)] [[(5,[(.func (.func 39) [] [])]),(4,[(zs (bx y17.2.2 0 1) 0),(zs (bx y17.2.2 0 1) 1)]),(3,[(zs (bx y17.2.2 0 2) 0),(zt (bx y17.2.2 0 2) 1),(zt (bx y17.2.2 0 2) 2)])]]) fun y30 =>
 exIs y30.1 (some 2) (cnd (chkL kV y30.2.1) (cnd (chkU [[(5,[(.func 39 [] [])]),(4,[sf,sf]),(3,[sf,.str,.str])]] y30.2.2)
 (some ((.bool true),[[(5,[(.func (.func 39) [] [])]),(4,[(zs (bx y30.2.2 0 1) 0),(zs (bx y30.2.2 0 1) 1)]),(3,[(zs (bx y30.2.2 0 2) 0),(zt (bx y30.2.2 0 2) 1),(zt (bx y30.2.2 0 2) 2)])]])) none) none)
 (exIs y30.1 none (cnd (chkL kV y30.2.1) (cnd (chkU [[(5,[(.func 39 [] [])]),(4,[sf,sf]),(3,[sf,.str,.str])]] y30.2.2)
 (some ((zb y30.2.1 2),[[(5,[(.func (.func 39) [] [])]),(4,[(zs (bx y30.2.2 0 1) 0),(zs (bx y30.2.2 0 1) 1)]),(3,[(zs (bx y30.2.2 0 2) 0),(zt (bx y30.2.2 0 2) 1),(zt (bx y30.2.2 0 2) 2)])]])) none) none)
 (none))) none) none)
 (exIs y17.1 none (cnd (chkL kU y17.2.1) (cnd (chkU [[(5,[(.func 39 [] [])]),(4,[sf,sf]),(3,[sf,.str,.str])]] y17.2.2)
 (some ((zb y17.2.1 3),[[(5,[(.func (.func 39) [] [])]),(4,[(zs (bx y17.2.2 0 1) 0),(zs (bx y17.2.2 0 1) 1)]),(3,[(zs (bx y17.2.2 0 2) 0),(zt (bx y17.2.2 0 2) 1),(zt (bx y17.2.2 0 2) 2)])]])) none) none)
 (none))
noncomputable def wL (s:GSchema) (d:GDoc) (u0_4:GDoc) (u0_3:GSchema):Int→Option (Int⊕(Unit⊕Unit))
 | t_8 =>
 cnd (decide (t_8<(List.length d.ops:Int)))
  (bnd (nthI d.ops t_8) fun y10 =>
  bnd (aHI s y10) fun y12 =>
  bnd (aHH s y12 y10.sels u0_4 u0_3) fun y14 =>
  cnd (!y14)
  (some (.inr (.inr ())))
  (some (.inl (IntKind.wrap .i64 (t_8+1)))))
  (some (.inr (.inl ())))
abbrev aCJ (s:GSchema) (d:GDoc) (u0_4:GDoc) (u0_3:GSchema) (a0:PV):List PV:=[(.func (.func 105) [] [(.ptr 1 5 0)]),(.ptr 0 3 0),(.ptr 0 4 0),(.bool false),(zq aU d.ops),(i6 (List.length d.ops:Int)),a0,(zq aU d.ops),(zq aF d.frags),(zq aI s.defs),(.str s.query),(.str s.mutation)]
abbrev aQQ (s:GSchema) (d:GDoc) (u0_4:GDoc) (u0_3:GSchema) (st:Int) (l:List PV) (u:UP):Prop:=l=(aCJ s d u0_4 u0_3 (i6 st))∧u=[[(5,[(.func (.func 39) [] [])]),(4,[(zq aU u0_4.ops),(zq aF u0_4.frags)]),(3,[(zq aI u0_3.defs),(.str u0_3.query),(.str u0_3.mutation)])]]
abbrev aQR (s:GSchema) (d:GDoc) (u0_4:GDoc) (u0_3:GSchema) (p:Unit⊕Unit) (r:EU):Prop:=elim p (fun (p:Unit)=>∃ (t_15:Int),r=(Ex.brk 0,(aCJ s d u0_4 u0_3 (i6 t_15)),[[(5,[(.func (.func 39) [] [])]),(4,[(zq aU u0_4.ops),(zq aF u0_4.frags)]),(3,[(zq aI u0_3.defs),(.str u0_3.query),(.str u0_3.mutation)])]])) (fun (p:Unit)=>∃ (t_16:Int),r=(Ex.ret,(aCJ s d u0_4 u0_3 (i6 t_16)),[[(5,[(.func (.func 39) [] [])]),(4,[(zq aU u0_4.ops),(zq aF u0_4.frags)]),(3,[(zq aI u0_3.defs),(.str u0_3.query),(.str u0_3.mutation)])]]))
noncomputable def wM (s:GSchema) (d:GDoc) (u0_4:GDoc) (u0_3:GSchema):Int→Option (Int⊕(Unit⊕Unit))
 | t_23 =>
 cnd (decide (t_23<(List.length d.frags:Int)))
  (bnd (nthI d.frags t_23) fun y25 =>
  bnd (aHH s y25.on_ y25.sels u0_4 u0_3) fun y27 =>
  cnd (!y27)
  (some (.inr (.inr ())))
  (some (.inl (IntKind.wrap .i64 (t_23+1)))))
  (some (.inr (.inl ())))
abbrev aCK (s:GSchema) (d:GDoc) (u0_4:GDoc) (u0_3:GSchema) (a0:PV):List PV:=[(.func (.func 105) [] [(.ptr 1 5 0)]),(.ptr 0 3 0),(.bool false),(zq aF d.frags),(i6 (List.length d.frags:Int)),a0,(zq aU d.ops),(zq aF d.frags),(zq aI s.defs),(.str s.query),(.str s.mutation)]
abbrev aQS (s:GSchema) (d:GDoc) (u0_4:GDoc) (u0_3:GSchema) (st:Int) (l:List PV) (u:UP):Prop:=l=(aCK s d u0_4 u0_3 (i6 st))∧u=[[(5,[(.func (.func 39) [] [])]),(4,[(zq aU u0_4.ops),(zq aF u0_4.frags)]),(3,[(zq aI u0_3.defs),(.str u0_3.query),(.str u0_3.mutation)])]]
abbrev aQT (s:GSchema) (d:GDoc) (u0_4:GDoc) (u0_3:GSchema) (p:Unit⊕Unit) (r:EU):Prop:=elim p (fun (p:Unit)=>∃ (t_28:Int),r=(Ex.brk 2,(aCK s d u0_4 u0_3 (i6 t_28)),[[(5,[(.func (.func 39) [] [])]),(4,[(zq aU u0_4.ops),(zq aF u0_4.frags)]),(3,[(zq aI u0_3.defs),(.str u0_3.query),(.str u0_3.mutation)])]])) (fun (p:Unit)=>∃ (t_29:Int),r=(Ex.ret,(aCK s d u0_4 u0_3 (i6 t_29)),[[(5,[(.func (.func 39) [] [])]),(4,[(zq aU u0_4.ops),(zq aF u0_4.frags)]),(3,[(zq aI u0_3.defs),(.str u0_3.query),(.str u0_3.mutation)])]]))
noncomputable def aHS (s:GSchema) (d:GDoc) (u0_4:GDoc) (u0_3:GSchema):Option Bool :=
 bnd (bG (wL s d u0_4 u0_3) 0) fun e17_2=>elim e17_2
 (fun p17 =>
 bnd (bG (wM s d u0_4 u0_3) 0) fun e30_2=>elim e30_2
 (fun p30 =>
 some true)
 (fun p30 =>
 some false))
 (fun p17 =>
 some false)
def aUA:Decs:={decs:=[(16,(.ref shOp)),(21,.str),(25,.bool),(33,(.ref iP)),(41,.bool)],ups:=[(25,[[(8,[n6,.str,sf,sf,sf]),(4,[sf,sf]),(3,[sf,.str,.str])],[(5,[(.func 39 [] [])]),(4,[sf,sf]),(3,[sf,.str,.str])]]),(41,[[(10,[.str,.str,sf,sf]),(4,[sf,sf]),(3,[sf,.str,.str])],[(5,[(.func 39 [] [])]),(4,[sf,sf]),(3,[sf,.str,.str])]])],loops:=[(2,[(4,2),(3,3)],⟨kU,[[(5,[(.func 39 [] [])]),(4,[sf,sf]),(3,[sf,.str,.str])]],[(some 0,kU,[[(5,[(.func 39 [] [])]),(4,[sf,sf]),(3,[sf,.str,.str])]]),(none,kU,[[(5,[(.func 39 [] [])]),(4,[sf,sf]),(3,[sf,.str,.str])]])]⟩),(8,[(4,2),(3,3)],⟨kV,[[(5,[(.func 39 [] [])]),(4,[sf,sf]),(3,[sf,.str,.str])]],[(some 2,kV,[[(5,[(.func 39 [] [])]),(4,[sf,sf]),(3,[sf,.str,.str])]]),(none,kV,[[(5,[(.func 39 [] [])]),(4,[sf,sf]),(3,[sf,.str,.str])]])]⟩)]}
theorem aUB (O:Orc) (LP:LBs) (s:GSchema) (d:GDoc) (u0_4:GDoc) (u0_3:GSchema):eW 70 aUA Tryz.f70 O LP [(eS s),(eD d),(.func (.func 105) [] [(.ptr 1 5 0)])] [[(5,[(.func (.func 39) [] [])]),(4,[(zq aU u0_4.ops),(zq aF u0_4.frags)]),(3,[(zq aI u0_3.defs),(.str u0_3.query),(.str u0_3.mutation)])]]=aE4 O LP s d u0_4 u0_3:=by kernel_rfl
theorem aLn (s:GSchema) (d:GDoc) (u0_4:GDoc) (u0_3:GSchema):Lok (aQQ s d u0_4 u0_3) (wL s d u0_4 u0_3) (aE2 O aE) (aQR s d u0_4 u0_3):=by
 rintro t_8 l u ⟨rfl,rfl⟩
 simp only [wL,aE2,zd,zr]
 refine zG ?_
 try simp only [evs,tys]
 apply Imp.cnd
 ·refine zX aU aEM fun y10 _ => ?_
  try simp only [evs,tys]
  refine zC rfl fun y12 _ => ?_
  try simp only [zes,evs,tys]
  refine Imp.gcall (f:=aA) (fu:=fun a=>[(8,[(i6 y10.kind),(.str y10.name),(zq aY y10.vars),(zq aH y10.dirs),(zq aG y10.sels)]),(4,[(zq aU d.ops),(zq aF d.frags)]),(3,[(zq aI s.defs),(.str s.query),(.str s.mutation)])]::kP s y12 y10.sels u0_4 u0_3 a) (fun a h=>by first | exact iJ rfl rfl (by first | rfl | (simp only [zes,tys];rfl)) (bM h) | (have h':=bM h;simp only [evs,tys,evl,kP] at h';exact iJ rfl rfl (by first | rfl | (simp only [zes,tys];rfl)) h')) zK (fun a=>by first | rfl | (simp only [kP,evs,tys];first | rfl | (cases w<;>rfl))) fun y14 hy14 => ?_
  try simp only [aA,kP,evs,tys]
  apply Imp.cnd
  ·exact zT ⟨t_8,zE⟩
  ·exact zN
 ·exact zB ⟨t_8,zE⟩
theorem aLo (s:GSchema) (d:GDoc) (u0_4:GDoc) (u0_3:GSchema):Lok (aQS s d u0_4 u0_3) (wM s d u0_4 u0_3) (aE3 O aE) (aQT s d u0_4 u0_3):=by
 rintro t_23 l u ⟨rfl,rfl⟩
 simp only [wM,aE3,zd,zr]
 refine zG ?_
 try simp only [evs,tys]
 apply Imp.cnd
 ·refine zX aF jD fun y25 _ => ?_
  try simp only [evs,tys]
  refine Imp.gcall (f:=aA) (fu:=fun a=>[(10,[(.str y25.name),(.str y25.on_),(zq aH y25.dirs),(zq aG y25.sels)]),(4,[(zq aU d.ops),(zq aF d.frags)]),(3,[(zq aI s.defs),(.str s.query),(.str s.mutation)])]::kP s y25.on_ y25.sels u0_4 u0_3 a) (fun a h=>by first | exact iJ rfl rfl (by first | rfl | (simp only [zes,tys];rfl)) (bM h) | (have h':=bM h;simp only [evs,tys,evl,kP] at h';exact iJ rfl rfl (by first | rfl | (simp only [zes,tys];rfl)) h')) zK (fun a=>by first | rfl | (simp only [kP,evs,tys];first | rfl | (cases w<;>rfl))) fun y27 hy27 => ?_
  try simp only [aA,kP,evs,tys]
  apply Imp.cnd
  ·exact zT ⟨t_23,zE⟩
  ·exact zN
 ·exact zB ⟨t_23,zE⟩
theorem aQU (s:GSchema) (d:GDoc) (u0_4:GDoc) (u0_3:GSchema):Imp (aHS s d u0_4 u0_3) (aE4 O aE s d u0_4 u0_3) (fun r v=>v=(aA r,(qG s d u0_4 u0_3 r))):=by
 simp only [aHS,aE4,zd,zr]
 try simp only [evs,tys]
 refine zL (aLn s d u0_4 u0_3) ?_
 rintro (p | p) vy17 hy17
 ·try simp only [aO,aP]
  obtain ⟨t_15,rfl⟩:=hy17
  refine zH ?_
  try simp only [evs,tys]
  refine zL (aLo s d u0_4 u0_3) ?_
  rintro (p | p) vy30 hy30
  ·try simp only [aO,aP]
   obtain ⟨t_28,rfl⟩:=hy30
   refine zH ?_
   try simp only [evs,tys]
   exact Imp.some (by first | rfl | simp only [zes,qG,evs,tys,evl])
  ·try simp only [aO,aP]
   obtain ⟨t_29,rfl⟩:=hy30
   refine Imp.exMiss rfl ?_
   refine zH ?_
   try simp only [evs,tys]
   exact Imp.some (by first | rfl | simp only [zes,qG,evs,tys,evl])
 ·try simp only [aO,aP]
  obtain ⟨t_16,rfl⟩:=hy17
  refine Imp.exMiss rfl ?_
  refine zH ?_
  try simp only [evs,tys]
  exact Imp.some (by first | rfl | simp only [zes,qG,evs,tys,evl])
theorem aQV {s:GSchema} {d:GDoc} {u0_4:GDoc} {u0_3:GSchema} {r:Bool} (h:aHS s d u0_4 u0_3=some r):aQq s d u0_4 u0_3=some r:=zV aC (aQU s d u0_4 u0_3) Tryz.func70 (aUB _ _ s d u0_4 u0_3) h
def pO (O:Orc) (LP:LBs) (s:GSchema) (d:GDoc):Option (PV×UP) :=
 bnd (O 70 [(eS s),(eD d),(.func (.func 105) [] [(.ptr 1 5 0)])] [[(5,[(.func (.func 39) [] [])]),(4,[(zq aU d.ops),(zq aF d.frags)]),(3,[(zq aI s.defs),(.str s.query),(.str s.mutation)])]]) fun x1=>cnd (chkU [[(5,[(.func 39 [] [])]),(4,[sf,sf]),(3,[sf,.str,.str])]] x1.2) (cnd (chk .bool x1.1)
 (some ((.bool (bP x1.1)),[])) none) none
noncomputable def mU (s:GSchema) (d:GDoc):Option Bool :=
 bnd (aQq s d d s) fun y2 =>
 some y2
def aGe:Decs:={decs:=[(10,.bool)],ups:=[(10,[[(5,[(.func 39 [] [])]),(4,[sf,sf]),(3,[sf,.str,.str])]])]}
theorem aGf (O:Orc) (LP:LBs) (s:GSchema) (d:GDoc):eW 40 aGe Tryz.f40 O LP [(eS s),(eD d),(.func (.func 39) [] [])] []=pO O LP s d:=by kernel_rfl
theorem aE5 (s:GSchema) (d:GDoc):Imp (mU s d) (pO O aE s d) (Ri aA):=by
 simp only [mU,pO,zd,zr]
 try simp only [evs,tys]
 refine Imp.gcall (f:=aA) (fu:=fun a=>qG s d d s a) (fun a h=>by first | exact bM h | (have h':=bM h;simp only [evs,tys,evl,qG] at h';exact h')) zK (fun a=>by first | rfl | (simp only [qG,evs,tys];first | rfl | (cases w<;>rfl))) fun y2 hy2 => ?_
 try simp only [aA,qG,evs,tys]
 exact zR
theorem aE6 {s:GSchema} {d:GDoc} {r:Bool} (h:mU s d=some r):vW s d=some r:=zV aC (aE5 s d) Tryz.func40 (aGf _ _ s d) h
abbrev cI:List Sh:=[(.func 41 [] []),.bool,sf,n6,n6,sf,sf]
def pP (O:Orc) (LP:LBs):bL:=fun s3 s3u=>cnd (chkL cI s3) (cnd (chkU [] s3u)
 (cnd (decide ((iv s3 4)<(iv s3 3)))
 (bnd (ix 1 (zs s3 2) (zn s3 4)) fun x9=>cnd (chk (.ref sf) x9)
 (aT O 41 [(.slice (esV (refV x9)) [] false)] fun x11=>cnd (chk .bool x11)
 (cnd (!(bP x11))
 (some (.ret,(pu (pu (rb cI s3) 0 (.func (.func 41) [] [])) 1 (.bool false)),[]))
 (some (.nrm,(pu (pu (rb cI s3) 0 (.func (.func 41) [] [])) 4 (i6 (w6 ((iv s3 4)+1)))),[]))) none) none)
 (some (.brk 0,(pu (rb cI s3) 0 (.func (.func 41) [] [])),[]))) none) none
def pQ (O:Orc) (LP:LBs) (d:GDoc):Option (PV×UP) :=
 aT O 104 [(eD d)] fun x1=>cnd (chk sf x1)
 (bnd (LP (pP O LP) [(.func (.func 41) [] []),(.bool false),(.slice (esV x1) [] false),(i6 (List.length (esV x1):Int)),(i6 0),(zq aU d.ops),(zq aF d.frags)] []) fun y15 =>
 exIs y15.1 (some 0) (cnd (chkL cI y15.2.1) (cnd (chkU [] y15.2.2)
 (some ((.bool true),[])) none) none)
 (exIs y15.1 none (cnd (chkL cI y15.2.1) (cnd (chkU [] y15.2.2)
 (some ((zb y15.2.1 1),[])) none) none)
 (none))) none
noncomputable def eI (y2:List (List GDir)):Int→Option (Int⊕(Unit⊕Unit))
 | t_8 =>
 cnd (decide (t_8<(List.length y2:Int)))
  (bnd (nthI y2 t_8) fun y10 =>
  bnd (aEW y10) fun y12 =>
  cnd (!y12)
  (some (.inr (.inr ())))
  (some (.inl (IntKind.wrap .i64 (t_8+1)))))
  (some (.inr (.inl ())))
abbrev nR (d:GDoc) (y2:List (List GDir)) (a0:PV):List PV:=[(.func (.func 41) [] []),(.bool false),(.slice (List.map (hJ aH) y2) [] false),(i6 (List.length y2:Int)),a0,(zq aU d.ops),(zq aF d.frags)]
abbrev uT (d:GDoc) (y2:List (List GDir)) (st:Int) (l:List PV) (u:UP):Prop:=l=(nR d y2 (i6 st))∧u=[]
abbrev aE7 (d:GDoc) (y2:List (List GDir)) (p:Unit⊕Unit) (r:EU):Prop:=elim p (fun (p:Unit)=>∃ (t_13:Int),r=(Ex.brk 0,(nR d y2 (i6 t_13)),[])) (fun (p:Unit)=>∃ (t_14:Int),r=(Ex.ret,(nR d y2 (i6 t_14)),[]))
noncomputable def mV (d:GDoc):Option Bool :=
 bnd (aDW d) fun y2 =>
 bnd (bG (eI y2) 0) fun e15_2=>elim e15_2
 (fun p15 =>
 some true)
 (fun p15 =>
 some false)
def aGg:Decs:={decs:=[(8,sf),(12,(.ref sf)),(16,.bool)],loops:=[(2,[(2,2)],⟨cI,[],[(some 0,cI,[]),(none,cI,[])]⟩)]}
theorem aGh (O:Orc) (LP:LBs) (d:GDoc):eW 38 aGg Tryz.f38 O LP [(eD d),(.func (.func 41) [] [])] []=pQ O LP d:=by kernel_rfl
theorem aCL (d:GDoc) (y2:List (List GDir)):∀ st l u,uT d y2 st l u→Imp (eI y2 st) (pP O aE l u) (mH (uT d y2) (aE7 d y2)):=by
 rintro t_8 l u ⟨rfl,rfl⟩
 simp only [eI,pP,zd,zr]
 refine zG ?_
 try simp only [evs,tys]
 apply Imp.cnd
 ·refine Imp.op (f:=fun a => .ref ((hJ aH) a)) (fun a h=>aWg (enc:=(hJ aH)) zI ⟨zA,by decide⟩ h) (fun a=>rfl) fun y10 hy10 => ?_
  try simp only [evs,tys]
  refine zC rfl fun y12 _ => ?_
  try simp only [zes,evs,tys]
  apply Imp.cnd
  ·exact zT ⟨t_8,zE⟩
  ·exact zN
 ·exact zB ⟨t_8,zE⟩
theorem aE8 (d:GDoc):Imp (mV d) (pQ O aE d) (Ri aA):=by
 simp only [mV,pQ,zd,zr]
 try simp only [evs,tys]
 refine zC rfl fun y2 _ => ?_
 try simp only [zes,evs,tys]
 refine zL (aCL d y2) ?_
 rintro (p | p) vy15 hy15
 ·try simp only [aO,aP]
  obtain ⟨t_13,rfl⟩:=hy15
  refine zH ?_
  try simp only [evs,tys]
  exact zR
 ·try simp only [aO,aP]
  obtain ⟨t_14,rfl⟩:=hy15
  refine Imp.exMiss rfl ?_
  refine zH ?_
  try simp only [evs,tys]
  exact zR
theorem aE9 {d:GDoc} {r:Bool} (h:mV d=some r):vX d=some r:=zV aC (aE8 d) Tryz.func38 (aGh _ _ d) h
abbrev cJ:List Sh:=[(.func 42 [] []),.bool,sf,n6,n6,sf,sf]
def pR (O:Orc) (LP:LBs):bL:=fun s3 s3u=>cnd (chkL cJ s3) (cnd (chkU [] s3u)
 (cnd (decide ((iv s3 4)<(iv s3 3)))
 (bnd (ix 1 (zs s3 2) (zn s3 4)) fun x9=>cnd (chk (.ref sf) x9)
 (aT O 42 [(.slice (esV (refV x9)) [] false)] fun x11=>cnd (chk .bool x11)
 (cnd (!(bP x11))
 (some (.ret,(pu (pu (rb cJ s3) 0 (.func (.func 42) [] [])) 1 (.bool false)),[]))
 (some (.nrm,(pu (pu (rb cJ s3) 0 (.func (.func 42) [] [])) 4 (i6 (w6 ((iv s3 4)+1)))),[]))) none) none)
 (some (.brk 0,(pu (rb cJ s3) 0 (.func (.func 42) [] [])),[]))) none) none
def pS (O:Orc) (LP:LBs) (d:GDoc):Option (PV×UP) :=
 aT O 104 [(eD d)] fun x1=>cnd (chk sf x1)
 (bnd (LP (pR O LP) [(.func (.func 42) [] []),(.bool false),(.slice (esV x1) [] false),(i6 (List.length (esV x1):Int)),(i6 0),(zq aU d.ops),(zq aF d.frags)] []) fun y15 =>
 exIs y15.1 (some 0) (cnd (chkL cJ y15.2.1) (cnd (chkU [] y15.2.2)
 (some ((.bool true),[])) none) none)
 (exIs y15.1 none (cnd (chkL cJ y15.2.1) (cnd (chkU [] y15.2.2)
 (some ((zb y15.2.1 1),[])) none) none)
 (none))) none
noncomputable def eJ (y2:List (List GDir)):Int→Option (Int⊕(Unit⊕Unit))
 | t_8 =>
 cnd (decide (t_8<(List.length y2:Int)))
  (bnd (nthI y2 t_8) fun y10 =>
  bnd (aDX y10) fun y12 =>
  cnd (!y12)
  (some (.inr (.inr ())))
  (some (.inl (IntKind.wrap .i64 (t_8+1)))))
  (some (.inr (.inl ())))
abbrev nS (d:GDoc) (y2:List (List GDir)) (a0:PV):List PV:=[(.func (.func 42) [] []),(.bool false),(.slice (List.map (hJ aH) y2) [] false),(i6 (List.length y2:Int)),a0,(zq aU d.ops),(zq aF d.frags)]
abbrev uU (d:GDoc) (y2:List (List GDir)) (st:Int) (l:List PV) (u:UP):Prop:=l=(nS d y2 (i6 st))∧u=[]
abbrev aFa (d:GDoc) (y2:List (List GDir)) (p:Unit⊕Unit) (r:EU):Prop:=elim p (fun (p:Unit)=>∃ (t_13:Int),r=(Ex.brk 0,(nS d y2 (i6 t_13)),[])) (fun (p:Unit)=>∃ (t_14:Int),r=(Ex.ret,(nS d y2 (i6 t_14)),[]))
noncomputable def mW (d:GDoc):Option Bool :=
 bnd (aDW d) fun y2 =>
 bnd (bG (eJ y2) 0) fun e15_2=>elim e15_2
 (fun p15 =>
 some true)
 (fun p15 =>
 some false)
def aGi:Decs:={decs:=[(8,sf),(12,(.ref sf)),(16,.bool)],loops:=[(2,[(2,2)],⟨cJ,[],[(some 0,cJ,[]),(none,cJ,[])]⟩)]}
theorem aGj (O:Orc) (LP:LBs) (d:GDoc):eW 38 aGi Tryz.f38 O LP [(eD d),(.func (.func 42) [] [])] []=pS O LP d:=by kernel_rfl
theorem aCM (d:GDoc) (y2:List (List GDir)):∀ st l u,uU d y2 st l u→Imp (eJ y2 st) (pR O aE l u) (mH (uU d y2) (aFa d y2)):=by
 rintro t_8 l u ⟨rfl,rfl⟩
 simp only [eJ,pR,zd,zr]
 refine zG ?_
 try simp only [evs,tys]
 apply Imp.cnd
 ·refine Imp.op (f:=fun a => .ref ((hJ aH) a)) (fun a h=>aWg (enc:=(hJ aH)) zI ⟨zA,by decide⟩ h) (fun a=>rfl) fun y10 hy10 => ?_
  try simp only [evs,tys]
  refine zC rfl fun y12 _ => ?_
  try simp only [zes,evs,tys]
  apply Imp.cnd
  ·exact zT ⟨t_8,zE⟩
  ·exact zN
 ·exact zB ⟨t_8,zE⟩
theorem aFb (d:GDoc):Imp (mW d) (pS O aE d) (Ri aA):=by
 simp only [mW,pS,zd,zr]
 try simp only [evs,tys]
 refine zC rfl fun y2 _ => ?_
 try simp only [zes,evs,tys]
 refine zL (aCM d y2) ?_
 rintro (p | p) vy15 hy15
 ·try simp only [aO,aP]
  obtain ⟨t_13,rfl⟩:=hy15
  refine zH ?_
  try simp only [evs,tys]
  exact zR
 ·try simp only [aO,aP]
  obtain ⟨t_14,rfl⟩:=hy15
  refine Imp.exMiss rfl ?_
  refine zH ?_
  try simp only [evs,tys]
  exact zR
theorem aFc {d:GDoc} {r:Bool} (h:mW d=some r):vY d=some r:=zV aC (aFb d) Tryz.func38 (aGj _ _ d) h
def jG (O:Orc) (LP:LBs) (a:Str) (x:GSel) (u0_4:GDoc) (u0_3:GSchema):Option (PV×UP) :=
 aT O 42 [(zq aH x.dirs)] fun x1=>cnd (chk .bool x1)
 (some ((.bool (bP x1)),[[(5,[(.func (.func 42) [] [])]),(4,[(zq aU u0_4.ops),(zq aF u0_4.frags)]),(3,[(zq aI u0_3.defs),(.str u0_3.query),(.str u0_3.mutation)])]])) none
noncomputable def fX (a:Str) (x:GSel) (u0_4:GDoc) (u0_3:GSchema):Option Bool :=
 bnd (aDX x.dirs) fun y2 =>
 some y2
def aAx:Decs:={decs:=[(9,.bool)]}
theorem aAy (O:Orc) (LP:LBs) (a:Str) (x:GSel) (u0_4:GDoc) (u0_3:GSchema):eW 105 aAx Tryz.f105 O LP [(.str a),(eL x),(.ptr 1 5 0)] [[(5,[(.func (.func 42) [] [])]),(4,[(zq aU u0_4.ops),(zq aF u0_4.frags)]),(3,[(zq aI u0_3.defs),(.str u0_3.query),(.str u0_3.mutation)])]]=jG O LP a x u0_4 u0_3:=by kernel_rfl
theorem yF (a:Str) (x:GSel) (u0_4:GDoc) (u0_3:GSchema):Imp (fX a x u0_4 u0_3) (jG O aE a x u0_4 u0_3) (fun r v=>v=(aA r,(cP a x u0_4 u0_3 r))):=by
 simp only [fX,jG,zd,zr]
 try simp only [evs,tys]
 refine zC rfl fun y2 _ => ?_
 try simp only [zes,evs,tys]
 exact Imp.some (by first | rfl | simp only [zes,cP,evs,tys,evl])
theorem yG {a:Str} {x:GSel} {u0_4:GDoc} {u0_3:GSchema} {r:Bool} (h:fX a x u0_4 u0_3=some r):mQ a x u0_4 u0_3=some r:=zV aC (yF a x u0_4 u0_3) Tryz.func105 (aAy _ _ a x u0_4 u0_3) h
abbrev gU:List Sh:=[.str,(.func 105 [] [(.ptr 1 5 0)]),(.ptr 0 4 0),.bool,sf,n6,n6,sf,.str,.str]
def aAz (O:Orc) (LP:LBs):bL:=fun s1 s1u=>cnd (chkL gU s1) (cnd (chkU [[(5,[(.func 42 [] [])]),(4,[sf,sf]),(3,[sf,.str,.str])]] s1u)
 (cnd (decide ((iv s1 6)<(iv s1 5)))
 (bnd (ix 7 (zs s1 4) (zn s1 6)) fun x12=>cnd (chk (.ref oT) x12)
 (bnd (O 105 [(zt s1 0),(.agg [(zn (rf x12) 0),(zt (rf x12) 1),(zt (rf x12) 2),(zs (rf x12) 3),(zs (rf x12) 4),(zt (rf x12) 5),(zs (rf x12) 6)]),(.ptr 2 5 0)] [[(11,[(zn (rf x12) 0),(zt (rf x12) 1),(zt (rf x12) 2),(zs (rf x12) 3),(zs (rf x12) 4),(zt (rf x12) 5),(zs (rf x12) 6)]),(4,[(zs s1 7),(zt s1 8),(zt s1 9)])],[(5,[(.func (.func 42) [] [])]),(4,[(zs (bx s1u 0 1) 0),(zs (bx s1u 0 1) 1)]),(3,[(zs (bx s1u 0 2) 0),(zt (bx s1u 0 2) 1),(zt (bx s1u 0 2) 2)])]]) fun x14=>cnd (chkU [[(11,[n6,.str,.str,sf,sf,.str,sf]),(4,[sf,.str,.str])],[(5,[(.func 42 [] [])]),(4,[sf,sf]),(3,[sf,.str,.str])]] x14.2) (cnd (chk .bool x14.1)
 (cnd (bP x14.1)
 (aT O 138 [(.agg [(zs (bx x14.2 0 1) 0),(zt (bx x14.2 0 1) 1),(zt (bx x14.2 0 1) 2)]),(zt s1 0),(.agg [(zn (bx x14.2 0 0) 0),(zt (bx x14.2 0 0) 1),(zt (bx x14.2 0 0) 2),(zs (bx x14.2 0 0) 3),(zs (bx x14.2 0 0) 4),(zt (bx x14.2 0 0) 5),(zs (bx x14.2 0 0) 6)])] fun x16=>cnd (chk .str x16)
 (bnd (O 137 [(.agg [(zs (bx x14.2 0 1) 0),(zt (bx x14.2 0 1) 1),(zt (bx x14.2 0 1) 2)]),(.str (strV x16)),(zs (bx x14.2 0 0) 6),(.func (.func 105) [] [(.ptr 2 5 0)])] [[(11,[(zn (bx x14.2 0 0) 0),(zt (bx x14.2 0 0) 1),(zt (bx x14.2 0 0) 2),(zs (bx x14.2 0 0) 3),(zs (bx x14.2 0 0) 4),(zt (bx x14.2 0 0) 5),(zs (bx x14.2 0 0) 6)]),(4,[(zs (bx x14.2 0 1) 0),(zt (bx x14.2 0 1) 1),(zt (bx x14.2 0 1) 2)])],[(5,[(.func (.func 42) [] [])]),(4,[(zs (bx x14.2 1 1) 0),(zs (bx x14.2 1 1) 1)]),(3,[(zs (bx x14.2 1 2) 0),(zt (bx x14.2 1 2) 1),(zt (bx x14.2 1 2) 2)])]]) fun x18=>cnd (chkU [[(11,[n6,.str,.str,sf,sf,.str,sf]),(4,[sf,.str,.str])],[(5,[(.func 42 [] [])]),(4,[sf,sf]),(3,[sf,.str,.str])]] x18.2) (cnd (chk .bool x18.1)
 (cnd (!(bP x18.1))
 (some (.brk 0,(pu (pu (pu (pu (pu (rb gU s1) 1 (.func (.func 105) [] [(.ptr 1 5 0)])) 3 (.bool (bP x18.1))) 7 (zs (bx x18.2 0 1) 0)) 8 (zt (bx x18.2 0 1) 1)) 9 (zt (bx x18.2 0 1) 2)),[[(5,[(.func (.func 42) [] [])]),(4,[(zs (bx x18.2 1 1) 0),(zs (bx x18.2 1 1) 1)]),(3,[(zs (bx x18.2 1 2) 0),(zt (bx x18.2 1 2) 1),(zt (bx x18.2 1 2) 2)])]]))
 (some (.nrm,[(zt s1 0),(.func (.func 105) [] [(.ptr 1 5 0)]),(.ptr 0 4 0),(.bool (bP x18.1)),(zs s1 4),(zn s1 5),(i6 (w6 ((iv s1 6)+1))),(zs (bx x18.2 0 1) 0),(zt (bx x18.2 0 1) 1),(zt (bx x18.2 0 1) 2)],[[(5,[(.func (.func 42) [] [])]),(4,[(zs (bx x18.2 1 1) 0),(zs (bx x18.2 1 1) 1)]),(3,[(zs (bx x18.2 1 2) 0),(zt (bx x18.2 1 2) 1),(zt (bx x18.2 1 2) 2)])]]))) none) none) none)
 (some (.brk 0,(pu (pu (pu (pu (pu (rb gU s1) 1 (.func (.func 105) [] [(.ptr 1 5 0)])) 3 (.bool false)) 7 (zs (bx x14.2 0 1) 0)) 8 (zt (bx x14.2 0 1) 1)) 9 (zt (bx x14.2 0 1) 2)),[[(5,[(.func (.func 42) [] [])]),(4,[(zs (bx x14.2 1 1) 0),(zs (bx x14.2 1 1) 1)]),(3,[(zs (bx x14.2 1 2) 0),(zt (bx x14.2 1 2) 1),(zt (bx x14.2 1 2) 2)])]]))) none) none) none)
 (some (.brk 0,(pu (rb gU s1) 1 (.func (.func 105) [] [(.ptr 1 5 0)])),[[(5,[(.func (.func 42) [] [])]),(4,[(zs (bx s1u 0 1) 0),(zs (bx s1u 0 1) 1)]),(3,[(zs (bx s1u 0 2) 0),(zt (bx s1u 0 2) 1),(zt (bx s1u 0 2) 2)])]]))) none) none
def aAA (O:Orc) (LP:LBs) (s:GSchema) (typ:Str) (l0:List GSel) (u0_4:GDoc) (u0_3:GSchema):Option (PV×UP) :=
 bnd (LP (aAz O LP) [(.str typ),(.func (.func 105) [] [(.ptr 1 5 0)]),(.ptr 0 4 0),(.bool true),(zq aG l0),(i6 (List.length (List.map aG l0):Int)),(i6 0),(zq aI s.defs),(.str s.query),(.str s.mutation)] [[(5,[(.func (.func 42) [] [])]),(4,[(zq aU u0_4.ops),(zq aF u0_4.frags)]),(3,[(zq aI u0_3.defs),(.str u0_3.query),(.str u0_3.mutation)])]]) fun y22 =>
 exIs y22.1 (some 0) (cnd (chkL gU y22.2.1) (cnd (chkU [[(5,[(.func 42 [] [])]),(4,[sf,sf]),(3,[sf,.str,.str])]] y22.2.2)
 (some ((zb y22.2.1 3),[[(5,[(.func (.func 42) [] [])]),(4,[(zs (bx y22.2.2 0 1) 0),(zs (bx y22.2.2 0 1) 1)]),(3,[(zs (bx y22.2.2 0 2) 0),(zt (bx y22.2.2 0 2) 1),(zt (bx y22.2.2 0 2) 2)])]])) none) none)
 (none)
noncomputable def mX (s:GSchema) (typ:Str) (l0:List GSel) (u0_4:GDoc) (u0_3:GSchema):(Bool×Int)→Option ((Bool×Int)⊕Bool)
 | (ok_10,t_11) =>
 cnd (decide (t_11<(List.length l0:Int)))
  (bnd (nthI l0 t_11) fun y13 =>
  bnd (mQ typ y13 u0_4 u0_3) fun y15 =>
  cnd y15
  (bnd (uM s typ y13) fun y17 =>
  bnd (rG s y17 y13.sels u0_4 u0_3) fun y19 =>
  cnd (!y19)
   (some (.inr y19))
   (some (.inl (y19,(IntKind.wrap .i64 (t_11+1))))))
  (some (.inr false)))
  (some (.inr ok_10))
abbrev aLp (s:GSchema) (typ:Str) (l0:List GSel) (u0_4:GDoc) (u0_3:GSchema) (st:Bool×Int) (l:List PV) (u:UP):Prop:=l=[(.str typ),(.func (.func 105) [] [(.ptr 1 5 0)]),(.ptr 0 4 0),(.bool st.1),(zq aG l0),(i6 (List.length l0:Int)),(i6 st.2),(zq aI s.defs),(.str s.query),(.str s.mutation)]∧u=[[(5,[(.func (.func 42) [] [])]),(4,[(zq aU u0_4.ops),(zq aF u0_4.frags)]),(3,[(zq aI u0_3.defs),(.str u0_3.query),(.str u0_3.mutation)])]]
abbrev aLq (s:GSchema) (typ:Str) (l0:List GSel) (u0_4:GDoc) (u0_3:GSchema) (p:Bool) (r:EU):Prop:=(fun (p:Bool)=>∃ (t_21:Int),r=(Ex.brk 0,[(.str typ),(.func (.func 105) [] [(.ptr 1 5 0)]),(.ptr 0 4 0),(.bool p),(zq aG l0),(i6 (List.length l0:Int)),(i6 t_21),(zq aI s.defs),(.str s.query),(.str s.mutation)],[[(5,[(.func (.func 42) [] [])]),(4,[(zq aU u0_4.ops),(zq aF u0_4.frags)]),(3,[(zq aI u0_3.defs),(.str u0_3.query),(.str u0_3.mutation)])]])) p
noncomputable def wN (s:GSchema) (typ:Str) (l0:List GSel) (u0_4:GDoc) (u0_3:GSchema):Option Bool :=
 bnd (bG (mX s typ l0 u0_4 u0_3) (true,0)) fun ok_20 =>
 some ok_20
def aNX:Decs:={decs:=[(16,(.ref oT)),(21,.bool),(27,.str),(31,.bool)],ups:=[(21,[[(11,[n6,.str,.str,sf,sf,.str,sf]),(4,[sf,.str,.str])],[(5,[(.func 42 [] [])]),(4,[sf,sf]),(3,[sf,.str,.str])]]),(31,[[(11,[n6,.str,.str,sf,sf,.str,sf]),(4,[sf,.str,.str])],[(5,[(.func 42 [] [])]),(4,[sf,sf]),(3,[sf,.str,.str])]])],loops:=[(3,[(4,3)],⟨gU,[[(5,[(.func 42 [] [])]),(4,[sf,sf]),(3,[sf,.str,.str])]],[(some 0,gU,[[(5,[(.func 42 [] [])]),(4,[sf,sf]),(3,[sf,.str,.str])]])]⟩)]}
theorem aNY (O:Orc) (LP:LBs) (s:GSchema) (typ:Str) (l0:List GSel) (u0_4:GDoc) (u0_3:GSchema):eW 137 aNX Tryz.f137 O LP [(eS s),(.str typ),(zq aG l0),(.func (.func 105) [] [(.ptr 1 5 0)])] [[(5,[(.func (.func 42) [] [])]),(4,[(zq aU u0_4.ops),(zq aF u0_4.frags)]),(3,[(zq aI u0_3.defs),(.str u0_3.query),(.str u0_3.mutation)])]]=aAA O LP s typ l0 u0_4 u0_3:=by kernel_rfl
theorem aHT (s:GSchema) (typ:Str) (l0:List GSel) (u0_4:GDoc) (u0_3:GSchema):Lok (aLp s typ l0 u0_4 u0_3) (mX s typ l0 u0_4 u0_3) (aAz O aE) (aLq s typ l0 u0_4 u0_3):=by
 rintro ⟨ok_10,t_11⟩ l u ⟨rfl,rfl⟩
 simp only [mX,aAz,zd,zr]
 refine zG ?_
 try simp only [evs,tys]
 apply Imp.cnd
 ·refine zX aG iQ fun y13 _ => ?_
  try simp only [evs,tys]
  refine Imp.gcall (f:=aA) (fu:=fun a=>[(11,[(i6 y13.kind),(.str y13.alias),(.str y13.name),(zq aD y13.args),(zq aH y13.dirs),(.str y13.on_),(zq aG y13.sels)]),(4,[(zq aI s.defs),(.str s.query),(.str s.mutation)])]::cP typ y13 u0_4 u0_3 a) (fun a h=>by first | exact iJ rfl rfl (by first | rfl | (simp only [zes,tys];rfl)) (bM h) | (have h':=bM h;simp only [evs,tys,evl,cP] at h';exact iJ rfl rfl (by first | rfl | (simp only [zes,tys];rfl)) h')) zK (fun a=>by first | rfl | (simp only [cP,evs,tys];first | rfl | (cases w<;>rfl))) fun y15 hy15 => ?_
  try simp only [aA,cP,evs,tys]
  apply Imp.cnd
  ·refine zC rfl fun y17 _ => ?_
   try simp only [zes,evs,tys]
   refine Imp.gcall (f:=aA) (fu:=fun a=>[(11,[(i6 y13.kind),(.str y13.alias),(.str y13.name),(zq aD y13.args),(zq aH y13.dirs),(.str y13.on_),(zq aG y13.sels)]),(4,[(zq aI s.defs),(.str s.query),(.str s.mutation)])]::dG s y17 y13.sels u0_4 u0_3 a) (fun a h=>by first | exact iJ rfl rfl (by first | rfl | (simp only [zes,tys];rfl)) (bM h) | (have h':=bM h;simp only [evs,tys,evl,dG] at h';exact iJ rfl rfl (by first | rfl | (simp only [zes,tys];rfl)) h')) zK (fun a=>by first | rfl | (simp only [dG,evs,tys];first | rfl | (cases w<;>rfl))) fun y19 hy19 => ?_
   try simp only [aA,dG,evs,tys]
   apply Imp.cnd
   ·exact zB ⟨t_11,zE⟩
   ·exact zN
  ·exact zB ⟨t_11,zE⟩
 ·exact zB ⟨t_11,zE⟩
theorem aLr (s:GSchema) (typ:Str) (l0:List GSel) (u0_4:GDoc) (u0_3:GSchema):Imp (wN s typ l0 u0_4 u0_3) (aAA O aE s typ l0 u0_4 u0_3) (fun r v=>v=(aA r,(dG s typ l0 u0_4 u0_3 r))):=by
 simp only [wN,aAA,zd,zr]
 try simp only [evs,tys]
 refine zL (aHT s typ l0 u0_4 u0_3) ?_
 rintro ok_20 _ ⟨t_21,rfl⟩
 refine zH ?_
 try simp only [evs,tys]
 exact Imp.some (by first | rfl | simp only [zes,dG,evs,tys,evl])
theorem aLs {s:GSchema} {typ:Str} {l0:List GSel} {u0_4:GDoc} {u0_3:GSchema} {r:Bool} (h:wN s typ l0 u0_4 u0_3=some r):rG s typ l0 u0_4 u0_3=some r:=zV aC (aLr s typ l0 u0_4 u0_3) Tryz.func137 (aNY _ _ s typ l0 u0_4 u0_3) h
abbrev fP:List Sh:=[(.func 105 [] [(.ptr 1 5 0)]),(.ptr 0 3 0),(.ptr 0 4 0),.bool,sf,n6,n6,sf,sf,sf,.str,.str]
def wO (O:Orc) (LP:LBs):bL:=fun s1 s1u=>cnd (chkL fP s1) (cnd (chkU [[(5,[(.func 42 [] [])]),(4,[sf,sf]),(3,[sf,.str,.str])]] s1u)
 (cnd (decide ((iv s1 6)<(iv s1 5)))
 (bnd (ix 5 (zs s1 4) (zn s1 6)) fun x9=>cnd (chk (.ref shOp) x9)
 (aT O 68 [(.agg [(zs s1 9),(zt s1 10),(zt s1 11)]),(.agg [(zn (rf x9) 0),(zt (rf x9) 1),(zs (rf x9) 2),(zs (rf x9) 3),(zs (rf x9) 4)])] fun x11=>cnd (chk .str x11)
 (bnd (O 137 [(.agg [(zs s1 9),(zt s1 10),(zt s1 11)]),(.str (strV x11)),(zs (rf x9) 4),(.func (.func 105) [] [(.ptr 2 5 0)])] [[(8,[(zn (rf x9) 0),(zt (rf x9) 1),(zs (rf x9) 2),(zs (rf x9) 3),(zs (rf x9) 4)]),(4,[(zs s1 7),(zs s1 8)]),(3,[(zs s1 9),(zt s1 10),(zt s1 11)])],[(5,[(.func (.func 42) [] [])]),(4,[(zs (bx s1u 0 1) 0),(zs (bx s1u 0 1) 1)]),(3,[(zs (bx s1u 0 2) 0),(zt (bx s1u 0 2) 1),(zt (bx s1u 0 2) 2)])]]) fun x13=>cnd (chkU [[(8,[n6,.str,sf,sf,sf]),(4,[sf,sf]),(3,[sf,.str,.str])],[(5,[(.func 42 [] [])]),(4,[sf,sf]),(3,[sf,.str,.str])]] x13.2) (cnd (chk .bool x13.1)
 (cnd (!(bP x13.1))
 (some (.ret,[(.func (.func 105) [] [(.ptr 1 5 0)]),(.ptr 0 3 0),(.ptr 0 4 0),(.bool false),(zs s1 4),(zn s1 5),(zn s1 6),(zs (bx x13.2 0 1) 0),(zs (bx x13.2 0 1) 1),(zs (bx x13.2 0 2) 0),(zt (bx x13.2 0 2) 1),(zt (bx x13.2 0 2) 2)],[[(5,[(.func (.func 42) [] [])]),(4,[(zs (bx x13.2 1 1) 0),(zs (bx x13.2 1 1) 1)]),(3,[(zs (bx x13.2 1 2) 0),(zt (bx x13.2 1 2) 1),(zt (bx x13.2 1 2) 2)])]]))
 (some (.nrm,[(.func (.func 105) [] [(.ptr 1 5 0)]),(.ptr 0 3 0),(.ptr 0 4 0),(zb s1 3),(zs s1 4),(zn s1 5),(i6 (w6 ((iv s1 6)+1))),(zs (bx x13.2 0 1) 0),(zs (bx x13.2 0 1) 1),(zs (bx x13.2 0 2) 0),(zt (bx x13.2 0 2) 1),(zt (bx x13.2 0 2) 2)],[[(5,[(.func (.func 42) [] [])]),(4,[(zs (bx x13.2 1 1) 0),(zs (bx x13.2 1 1) 1)]),(3,[(zs (bx x13.2 1 2) 0),(zt (bx x13.2 1 2) 1),(zt (bx x13.2 1 2) 2)])]]))) none) none) none) none)
 (some (.brk 0,(pu (rb fP s1) 0 (.func (.func 105) [] [(.ptr 1 5 0)])),[[(5,[(.func (.func 42) [] [])]),(4,[(zs (bx s1u 0 1) 0),(zs (bx s1u 0 1) 1)]),(3,[(zs (bx s1u 0 2) 0),(zt (bx s1u 0 2) 1),(zt (bx s1u 0 2) 2)])]]))) none) none
abbrev fQ:List Sh:=[(.func 105 [] [(.ptr 1 5 0)]),(.ptr 0 3 0),.bool,sf,n6,n6,sf,sf,sf,.str,.str]
def wP (O:Orc) (LP:LBs):bL:=fun s18 s18u=>cnd (chkL fQ s18) (cnd (chkU [[(5,[(.func 42 [] [])]),(4,[sf,sf]),(3,[sf,.str,.str])]] s18u)
 (cnd (decide ((iv s18 5)<(iv s18 4)))
 (bnd (ix 4 (zs s18 3) (zn s18 5)) fun x24=>cnd (chk (.ref iP) x24)
 (bnd (O 137 [(.agg [(zs s18 8),(zt s18 9),(zt s18 10)]),(zt (rf x24) 1),(zs (rf x24) 3),(.func (.func 105) [] [(.ptr 2 5 0)])] [[(10,[(zt (rf x24) 0),(zt (rf x24) 1),(zs (rf x24) 2),(zs (rf x24) 3)]),(4,[(zs s18 6),(zs s18 7)]),(3,[(zs s18 8),(zt s18 9),(zt s18 10)])],[(5,[(.func (.func 42) [] [])]),(4,[(zs (bx s18u 0 1) 0),(zs (bx s18u 0 1) 1)]),(3,[(zs (bx s18u 0 2) 0),(zt (bx s18u 0 2) 1),(zt (bx s18u 0 2) 2)])]]) fun x26=>cnd (chkU [[(10,[.str,.str,sf,sf]),(4,[sf,sf]),(3,[sf,.str,.str])],[(5,[(.func 42 [] [])]),(4,[sf,sf]),(3,[sf,.str,.str])]] x26.2) (cnd (chk .bool x26.1)
 (cnd (!(bP x26.1))
 (some (.ret,[(.func (.func 105) [] [(.ptr 1 5 0)]),(.ptr 0 3 0),(.bool false),(zs s18 3),(zn s18 4),(zn s18 5),(zs (bx x26.2 0 1) 0),(zs (bx x26.2 0 1) 1),(zs (bx x26.2 0 2) 0),(zt (bx x26.2 0 2) 1),(zt (bx x26.2 0 2) 2)],[[(5,[(.func (.func 42) [] [])]),(4,[(zs (bx x26.2 1 1) 0),(zs (bx x26.2 1 1) 1)]),(3,[(zs (bx x26.2 1 2) 0),(zt (bx x26.2 1 2) 1),(zt (bx x26.2 1 2) 2)])]]))
 (some (.nrm,[(.func (.func 105) [] [(.ptr 1 5 0)]),(.ptr 0 3 0),(zb s18 2),(zs s18 3),(zn s18 4),(i6 (w6 ((iv s18 5)+1))),(zs (bx x26.2 0 1) 0),(zs (bx x26.2 0 1) 1),(zs (bx x26.2 0 2) 0),(zt (bx x26.2 0 2) 1),(zt (bx x26.2 0 2) 2)],[[(5,[(.func (.func 42) [] [])]),(4,[(zs (bx x26.2 1 1) 0),(zs (bx x26.2 1 1) 1)]),(3,[(zs (bx x26.2 1 2) 0),(zt (bx x26.2 1 2) 1),(zt (bx x26.2 1 2) 2)])]]))) none) none) none)
 (some (.brk 2,(pu (rb fQ s18) 0 (.func (.func 105) [] [(.ptr 1 5 0)])),[[(5,[(.func (.func 42) [] [])]),(4,[(zs (bx s18u 0 1) 0),(zs (bx s18u 0 1) 1)]),(3,[(zs (bx s18u 0 2) 0),(zt (bx s18u 0 2) 1),(zt (bx s18u 0 2) 2)])]]))) none) none
def wQ (O:Orc) (LP:LBs) (s:GSchema) (d:GDoc) (u0_4:GDoc) (u0_3:GSchema):Option (PV×UP) :=
 bnd (LP (wO O LP) [(.func (.func 105) [] [(.ptr 1 5 0)]),(.ptr 0 3 0),(.ptr 0 4 0),(.bool false),(zq aU d.ops),(i6 (List.length (List.map aU d.ops):Int)),(i6 0),(zq aU d.ops),(zq aF d.frags),(zq aI s.defs),(.str s.query),(.str s.mutation)] [[(5,[(.func (.func 42) [] [])]),(4,[(zq aU u0_4.ops),(zq aF u0_4.frags)]),(3,[(zq aI u0_3.defs),(.str u0_3.query),(.str u0_3.mutation)])]]) fun y17 =>
 exIs y17.1 (some 0) (cnd (chkL fP y17.2.1) (cnd (chkU [[(5,[(.func 42 [] [])]),(4,[sf,sf]),(3,[sf,.str,.str])]] y17.2.2)
 (bnd (LP (wP O LP) [(.func (.func 105) [] [(.ptr 1 5 0)]),(.ptr 0 3 0),(zb y17.2.1 3),(zs y17.2.1 8),(i6 (List.length (ev y17.2.1 8):Int)),(i6 0),(zs y17.2.1 7),(zs y17.2.1 8),(zs y17.2.1 9),(zt y17.2.1 10),(zt y17.2.1 11)] [[(5,[(.func (.func 42) [] [])]),(4,[(zs (bx y17.2.2 0 1) 0),(zs (bx y17.2.2 0 1) 1)]),(3,[(zs (bx y17.2.2 0 2) 0),(zt (bx y17.2.2 0 2) 1),(zt (bx y17.2.2 0 2) 2)])]]) fun y30 =>
 exIs y30.1 (some 2) (cnd (chkL fQ y30.2.1) (cnd (chkU [[(5,[(.func 42 [] [])]),(4,[sf,sf]),(3,[sf,.str,.str])]] y30.2.2)
 (some ((.bool true),[[(5,[(.func (.func 42) [] [])]),(4,[(zs (bx y30.2.2 0 1) 0),(zs (bx y30.2.2 0 1) 1)]),(3,[(zs (bx y30.2.2 0 2) 0),(zt (bx y30.2.2 0 2) 1),(zt (bx y30.2.2 0 2) 2)])]])) none) none)
 (exIs y30.1 none (cnd (chkL fQ y30.2.1) (cnd (chkU [[(5,[(.func 42 [] [])]),(4,[sf,sf]),(3,[sf,.str,.str])]] y30.2.2)
 (some ((zb y30.2.1 2),[[(5,[(.func (.func 42) [] [])]),(4,[(zs (bx y30.2.2 0 1) 0),(zs (bx y30.2.2 0 1) 1)]),(3,[(zs (bx y30.2.2 0 2) 0),(zt (bx y30.2.2 0 2) 1),(zt (bx y30.2.2 0 2) 2)])]])) none) none)
 (none))) none) none)
 (exIs y17.1 none (cnd (chkL fP y17.2.1) (cnd (chkU [[(5,[(.func 42 [] [])]),(4,[sf,sf]),(3,[sf,.str,.str])]] y17.2.2)
 (some ((zb y17.2.1 3),[[(5,[(.func (.func 42) [] [])]),(4,[(zs (bx y17.2.2 0 1) 0),(zs (bx y17.2.2 0 1) 1)]),(3,[(zs (bx y17.2.2 0 2) 0),(zt (bx y17.2.2 0 2) 1),(zt (bx y17.2.2 0 2) 2)])]])) none) none)
 (none))
noncomputable def oI (s:GSchema) (d:GDoc) (u0_4:GDoc) (u0_3:GSchema):Int→Option (Int⊕(Unit⊕Unit))
 | t_8 =>
 cnd (decide (t_8<(List.length d.ops:Int)))
  (bnd (nthI d.ops t_8) fun y10 =>
  bnd (aHI s y10) fun y12 =>
  bnd (rG s y12 y10.sels u0_4 u0_3) fun y14 =>
  cnd (!y14)
  (some (.inr (.inr ())))
  (some (.inl (IntKind.wrap .i64 (t_8+1)))))
  (some (.inr (.inl ())))
abbrev tP (s:GSchema) (d:GDoc) (u0_4:GDoc) (u0_3:GSchema) (a0:PV):List PV:=[(.func (.func 105) [] [(.ptr 1 5 0)]),(.ptr 0 3 0),(.ptr 0 4 0),(.bool false),(zq aU d.ops),(i6 (List.length d.ops:Int)),a0,(zq aU d.ops),(zq aF d.frags),(zq aI s.defs),(.str s.query),(.str s.mutation)]
abbrev aI1 (s:GSchema) (d:GDoc) (u0_4:GDoc) (u0_3:GSchema) (st:Int) (l:List PV) (u:UP):Prop:=l=(tP s d u0_4 u0_3 (i6 st))∧u=[[(5,[(.func (.func 42) [] [])]),(4,[(zq aU u0_4.ops),(zq aF u0_4.frags)]),(3,[(zq aI u0_3.defs),(.str u0_3.query),(.str u0_3.mutation)])]]
abbrev aI2 (s:GSchema) (d:GDoc) (u0_4:GDoc) (u0_3:GSchema) (p:Unit⊕Unit) (r:EU):Prop:=elim p (fun (p:Unit)=>∃ (t_15:Int),r=(Ex.brk 0,(tP s d u0_4 u0_3 (i6 t_15)),[[(5,[(.func (.func 42) [] [])]),(4,[(zq aU u0_4.ops),(zq aF u0_4.frags)]),(3,[(zq aI u0_3.defs),(.str u0_3.query),(.str u0_3.mutation)])]])) (fun (p:Unit)=>∃ (t_16:Int),r=(Ex.ret,(tP s d u0_4 u0_3 (i6 t_16)),[[(5,[(.func (.func 42) [] [])]),(4,[(zq aU u0_4.ops),(zq aF u0_4.frags)]),(3,[(zq aI u0_3.defs),(.str u0_3.query),(.str u0_3.mutation)])]]))
noncomputable def oJ (s:GSchema) (d:GDoc) (u0_4:GDoc) (u0_3:GSchema):Int→Option (Int⊕(Unit⊕Unit))
 | t_23 =>
 cnd (decide (t_23<(List.length d.frags:Int)))
  (bnd (nthI d.frags t_23) fun y25 =>
  bnd (rG s y25.on_ y25.sels u0_4 u0_3) fun y27 =>
  cnd (!y27)
  (some (.inr (.inr ())))
  (some (.inl (IntKind.wrap .i64 (t_23+1)))))
  (some (.inr (.inl ())))
abbrev tQ (s:GSchema) (d:GDoc) (u0_4:GDoc) (u0_3:GSchema) (a0:PV):List PV:=[(.func (.func 105) [] [(.ptr 1 5 0)]),(.ptr 0 3 0),(.bool false),(zq aF d.frags),(i6 (List.length d.frags:Int)),a0,(zq aU d.ops),(zq aF d.frags),(zq aI s.defs),(.str s.query),(.str s.mutation)]
abbrev aI3 (s:GSchema) (d:GDoc) (u0_4:GDoc) (u0_3:GSchema) (st:Int) (l:List PV) (u:UP):Prop:=l=(tQ s d u0_4 u0_3 (i6 st))∧u=[[(5,[(.func (.func 42) [] [])]),(4,[(zq aU u0_4.ops),(zq aF u0_4.frags)]),(3,[(zq aI u0_3.defs),(.str u0_3.query),(.str u0_3.mutation)])]]
abbrev aI4 (s:GSchema) (d:GDoc) (u0_4:GDoc) (u0_3:GSchema) (p:Unit⊕Unit) (r:EU):Prop:=elim p (fun (p:Unit)=>∃ (t_28:Int),r=(Ex.brk 2,(tQ s d u0_4 u0_3 (i6 t_28)),[[(5,[(.func (.func 42) [] [])]),(4,[(zq aU u0_4.ops),(zq aF u0_4.frags)]),(3,[(zq aI u0_3.defs),(.str u0_3.query),(.str u0_3.mutation)])]])) (fun (p:Unit)=>∃ (t_29:Int),r=(Ex.ret,(tQ s d u0_4 u0_3 (i6 t_29)),[[(5,[(.func (.func 42) [] [])]),(4,[(zq aU u0_4.ops),(zq aF u0_4.frags)]),(3,[(zq aI u0_3.defs),(.str u0_3.query),(.str u0_3.mutation)])]]))
noncomputable def aAB (s:GSchema) (d:GDoc) (u0_4:GDoc) (u0_3:GSchema):Option Bool :=
 bnd (bG (oI s d u0_4 u0_3) 0) fun e17_2=>elim e17_2
 (fun p17 =>
 bnd (bG (oJ s d u0_4 u0_3) 0) fun e30_2=>elim e30_2
 (fun p30 =>
 some true)
 (fun p30 =>
 some false))
 (fun p17 =>
 some false)
def aLt:Decs:={decs:=[(16,(.ref shOp)),(21,.str),(25,.bool),(33,(.ref iP)),(41,.bool)],ups:=[(25,[[(8,[n6,.str,sf,sf,sf]),(4,[sf,sf]),(3,[sf,.str,.str])],[(5,[(.func 42 [] [])]),(4,[sf,sf]),(3,[sf,.str,.str])]]),(41,[[(10,[.str,.str,sf,sf]),(4,[sf,sf]),(3,[sf,.str,.str])],[(5,[(.func 42 [] [])]),(4,[sf,sf]),(3,[sf,.str,.str])]])],loops:=[(2,[(4,2),(3,3)],⟨fP,[[(5,[(.func 42 [] [])]),(4,[sf,sf]),(3,[sf,.str,.str])]],[(some 0,fP,[[(5,[(.func 42 [] [])]),(4,[sf,sf]),(3,[sf,.str,.str])]]),(none,fP,[[(5,[(.func 42 [] [])]),(4,[sf,sf]),(3,[sf,.str,.str])]])]⟩),(8,[(4,2),(3,3)],⟨fQ,[[(5,[(.func 42 [] [])]),(4,[sf,sf]),(3,[sf,.str,.str])]],[(some 2,fQ,[[(5,[(.func 42 [] [])]),(4,[sf,sf]),(3,[sf,.str,.str])]]),(none,fQ,[[(5,[(.func 42 [] [])]),(4,[sf,sf]),(3,[sf,.str,.str])]])]⟩)]}
theorem aLu (O:Orc) (LP:LBs) (s:GSchema) (d:GDoc) (u0_4:GDoc) (u0_3:GSchema):eW 70 aLt Tryz.f70 O LP [(eS s),(eD d),(.func (.func 105) [] [(.ptr 1 5 0)])] [[(5,[(.func (.func 42) [] [])]),(4,[(zq aU u0_4.ops),(zq aF u0_4.frags)]),(3,[(zq aI u0_3.defs),(.str u0_3.query),(.str u0_3.mutation)])]]=wQ O LP s d u0_4 u0_3:=by kernel_rfl
theorem aGk (s:GSchema) (d:GDoc) (u0_4:GDoc) (u0_3:GSchema):Lok (aI1 s d u0_4 u0_3) (oI s d u0_4 u0_3) (wO O aE) (aI2 s d u0_4 u0_3):=by
 rintro t_8 l u ⟨rfl,rfl⟩
 simp only [oI,wO,zd,zr]
 refine zG ?_
 try simp only [evs,tys]
 apply Imp.cnd
 ·refine zX aU aEM fun y10 _ => ?_
  try simp only [evs,tys]
  refine zC rfl fun y12 _ => ?_
  try simp only [zes,evs,tys]
  refine Imp.gcall (f:=aA) (fu:=fun a=>[(8,[(i6 y10.kind),(.str y10.name),(zq aY y10.vars),(zq aH y10.dirs),(zq aG y10.sels)]),(4,[(zq aU d.ops),(zq aF d.frags)]),(3,[(zq aI s.defs),(.str s.query),(.str s.mutation)])]::dG s y12 y10.sels u0_4 u0_3 a) (fun a h=>by first | exact iJ rfl rfl (by first | rfl | (simp only [zes,tys];rfl)) (bM h) | (have h':=bM h;simp only [evs,tys,evl,dG] at h';exact iJ rfl rfl (by first | rfl | (simp only [zes,tys];rfl)) h')) zK (fun a=>by first | rfl | (simp only [dG,evs,tys];first | rfl | (cases w<;>rfl))) fun y14 hy14 => ?_
  try simp only [aA,dG,evs,tys]
  apply Imp.cnd
  ·exact zT ⟨t_8,zE⟩
  ·exact zN
 ·exact zB ⟨t_8,zE⟩
theorem aGl (s:GSchema) (d:GDoc) (u0_4:GDoc) (u0_3:GSchema):Lok (aI3 s d u0_4 u0_3) (oJ s d u0_4 u0_3) (wP O aE) (aI4 s d u0_4 u0_3):=by
 rintro t_23 l u ⟨rfl,rfl⟩
 simp only [oJ,wP,zd,zr]
 refine zG ?_
 try simp only [evs,tys]
 apply Imp.cnd
 ·refine zX aF jD fun y25 _ => ?_
  try simp only [evs,tys]
  refine Imp.gcall (f:=aA) (fu:=fun a=>[(10,[(.str y25.name),(.str y25.on_),(zq aH y25.dirs),(zq aG y25.sels)]),(4,[(zq aU d.ops),(zq aF d.frags)]),(3,[(zq aI s.defs),(.str s.query),(.str s.mutation)])]::dG s y25.on_ y25.sels u0_4 u0_3 a) (fun a h=>by first | exact iJ rfl rfl (by first | rfl | (simp only [zes,tys];rfl)) (bM h) | (have h':=bM h;simp only [evs,tys,evl,dG] at h';exact iJ rfl rfl (by first | rfl | (simp only [zes,tys];rfl)) h')) zK (fun a=>by first | rfl | (simp only [dG,evs,tys];first | rfl | (cases w<;>rfl))) fun y27 hy27 => ?_
  try simp only [aA,dG,evs,tys]
  apply Imp.cnd
  ·exact zT ⟨t_23,zE⟩
  ·exact zN
 ·exact zB ⟨t_23,zE⟩
theorem aI5 (s:GSchema) (d:GDoc) (u0_4:GDoc) (u0_3:GSchema):Imp (aAB s d u0_4 u0_3) (wQ O aE s d u0_4 u0_3) (fun r v=>v=(aA r,(gS s d u0_4 u0_3 r))):=by
 simp only [aAB,wQ,zd,zr]
 try simp only [evs,tys]
 refine zL (aGk s d u0_4 u0_3) ?_
 rintro (p | p) vy17 hy17
 ·try simp only [aO,aP]
  obtain ⟨t_15,rfl⟩:=hy17
  refine zH ?_
  try simp only [evs,tys]
  refine zL (aGl s d u0_4 u0_3) ?_
  rintro (p | p) vy30 hy30
  ·try simp only [aO,aP]
   obtain ⟨t_28,rfl⟩:=hy30
   refine zH ?_
   try simp only [evs,tys]
   exact Imp.some (by first | rfl | simp only [zes,gS,evs,tys,evl])
  ·try simp only [aO,aP]
   obtain ⟨t_29,rfl⟩:=hy30
   refine Imp.exMiss rfl ?_
   refine zH ?_
   try simp only [evs,tys]
   exact Imp.some (by first | rfl | simp only [zes,gS,evs,tys,evl])
 ·try simp only [aO,aP]
  obtain ⟨t_16,rfl⟩:=hy17
  refine Imp.exMiss rfl ?_
  refine zH ?_
  try simp only [evs,tys]
  exact Imp.some (by first | rfl | simp only [zes,gS,evs,tys,evl])
theorem aI6 {s:GSchema} {d:GDoc} {u0_4:GDoc} {u0_3:GSchema} {r:Bool} (h:aAB s d u0_4 u0_3=some r):aEU s d u0_4 u0_3=some r:=zV aC (aI5 s d u0_4 u0_3) Tryz.func70 (aLu _ _ s d u0_4 u0_3) h
def kW (O:Orc) (LP:LBs) (s:GSchema) (d:GDoc):Option (PV×UP) :=
 bnd (O 70 [(eS s),(eD d),(.func (.func 105) [] [(.ptr 1 5 0)])] [[(5,[(.func (.func 42) [] [])]),(4,[(zq aU d.ops),(zq aF d.frags)]),(3,[(zq aI s.defs),(.str s.query),(.str s.mutation)])]]) fun x1=>cnd (chkU [[(5,[(.func 42 [] [])]),(4,[sf,sf]),(3,[sf,.str,.str])]] x1.2) (cnd (chk .bool x1.1)
 (some ((.bool (bP x1.1)),[])) none) none
noncomputable def iS (s:GSchema) (d:GDoc):Option Bool :=
 bnd (aEU s d d s) fun y2 =>
 some y2
def aCN:Decs:={decs:=[(10,.bool)],ups:=[(10,[[(5,[(.func 42 [] [])]),(4,[sf,sf]),(3,[sf,.str,.str])]])]}
theorem aCO (O:Orc) (LP:LBs) (s:GSchema) (d:GDoc):eW 40 aCN Tryz.f40 O LP [(eS s),(eD d),(.func (.func 42) [] [])] []=kW O LP s d:=by kernel_rfl
theorem aBL (s:GSchema) (d:GDoc):Imp (iS s d) (kW O aE s d) (Ri aA):=by
 simp only [iS,kW,zd,zr]
 try simp only [evs,tys]
 refine Imp.gcall (f:=aA) (fu:=fun a=>gS s d d s a) (fun a h=>by first | exact bM h | (have h':=bM h;simp only [evs,tys,evl,gS] at h';exact h')) zK (fun a=>by first | rfl | (simp only [gS,evs,tys];first | rfl | (cases w<;>rfl))) fun y2 hy2 => ?_
 try simp only [aA,gS,evs,tys]
 exact zR
theorem aBM {s:GSchema} {d:GDoc} {r:Bool} (h:iS s d=some r):pN s d=some r:=zV aC (aBL s d) Tryz.func40 (aCO _ _ s d) h
def aAC (O:Orc) (LP:LBs) (s:GSchema) (d:GDoc) (n:Int):Option (PV×UP) :=
 cnd (n==12)
 (aT O 38 [(eD d),(.func (.func 39) [] [])] fun x1=>cnd (chk .bool x1)
 (cnd (bP x1)
 (aT O 40 [(eS s),(eD d),(.func (.func 39) [] [])] fun x3=>cnd (chk .bool x3)
 (some ((.bool (bP x3)),[])) none)
 (some ((.bool false),[]))) none)
 (cnd (n==13)
 (aT O 38 [(eD d),(.func (.func 41) [] [])] fun x5=>cnd (chk .bool x5)
 (some ((.bool (bP x5)),[])) none)
 (cnd (n==14)
 (aT O 38 [(eD d),(.func (.func 42) [] [])] fun x7=>cnd (chk .bool x7)
 (cnd (bP x7)
 (aT O 40 [(eS s),(eD d),(.func (.func 42) [] [])] fun x9=>cnd (chk .bool x9)
 (some ((.bool (bP x9)),[])) none)
 (some ((.bool false),[]))) none)
 (some ((.bool false),[]))))
noncomputable def nT (s:GSchema) (d:GDoc) (n:Int):Option Bool :=
 cnd (n==12)
 (bnd (aET d) fun y2 =>
 cnd y2
 (bnd (vW s d) fun y4 =>
 some y4)
 (some false))
 (cnd (n==13)
 (bnd (vX d) fun y6 =>
 some y6)
 (cnd (n==14)
 (bnd (vY d) fun y8 =>
 cnd y8
 (bnd (pN s d) fun y10 =>
 some y10)
 (some false))
 (some false)))
def aNZ:Decs:={decs:=[(11,.bool),(15,.bool),(20,.bool),(24,.bool),(28,.bool)]}
theorem aN0 (O:Orc) (LP:LBs) (s:GSchema) (d:GDoc) (n:Int):eW 15 aNZ Tryz.f15 O LP [(eS s),(eD d),(i6 n)] []=aAC O LP s d n:=by kernel_rfl
theorem aLv (s:GSchema) (d:GDoc) (n:Int):Imp (nT s d n) (aAC O aE s d n) (Ri aA):=by
 simp only [nT,aAC,zd,zr]
 try simp only [evs,tys]
 apply Imp.cnd
 ·refine zC rfl fun y2 _ => ?_
  try simp only [zes,evs,tys]
  apply Imp.cnd
  ·refine zC rfl fun y4 _ => ?_
   try simp only [zes,evs,tys]
   exact zR
  ·exact zR
 ·apply Imp.cnd
  ·refine zC rfl fun y6 _ => ?_
   try simp only [zes,evs,tys]
   exact zR
  ·apply Imp.cnd
   ·refine zC rfl fun y8 _ => ?_
    try simp only [zes,evs,tys]
    apply Imp.cnd
    ·refine zC rfl fun y10 _ => ?_
     try simp only [zes,evs,tys]
     exact zR
    ·exact zR
   ·exact zR
theorem wR {s:GSchema} {d:GDoc} {n:Int} {r:Bool} (h:nT s d n=some r):rH s d n=some r:=zV aC (aLv s d n) Tryz.func15 (aN0 _ _ s d n) h
def wS (O:Orc) (LP:LBs):bL:=fun s1 s1u=>cnd (chkL [sf,st',n6] s1) (cnd (chkU [] s1u)
 (cnd (decide ((iv s1 2)<(List.length (ev s1 0):Int)))
 (bnd (ix 6 (zs s1 0) (zn s1 2)) fun x12=>cnd (chk (.ref dS) x12)
 (bnd (ix 6 (zs s1 0) (zn s1 2)) fun x14=>cnd (chk (.ref dS) x14)
 (aT O 175 [(.agg [(zn (rf x14) 1),(zn (rf x14) 2),(zt (rf x14) 3),(zs (rf x14) 4),(zs (rf x14) 5)])] fun x16=>cnd (chk mK x16)
 (bnd (apd 6 (zo s1 1) (.slice [(.agg [(zt (rf x12) 0),(i6 (intV (gt (aggV x16) 0))),(i6 (intV (gt (aggV x16) 1))),(.str (strV (gt (aggV x16) 2))),(.slice (esV (gt (aggV x16) 3)) [] false),(.slice (esV (gt (aggV x16) 4)) [] false)])] [] true)) fun x18=>cnd (chk st' x18)
 (some (.nrm,[(zs s1 0),(.slice (esV x18) [] true),(i6 (w6 ((iv s1 2)+1)))],[])) none) none) none) none)
 (some (.brk 0,[(zs s1 0),(zo s1 1),(zn s1 2)],[]))) none) none
def wT (O:Orc) (LP:LBs) (l0:List GMember):Option (PV×UP) :=
 bnd (LP (wS O LP) [(zq aD l0),(.slice [] [] true),(i6 0)] []) fun y22 =>
 exIs y22.1 (some 0) (cnd (chkL [sf,st',n6] y22.2.1) (cnd (chkU [] y22.2.2)
 (some ((zs y22.2.1 1),[])) none) none)
 (none)
noncomputable def iF (l0:List GMember):((List GMember)×Int)→Option (((List GMember)×Int)⊕((List GMember)))
 | (out_10,i_11) =>
 cnd (decide (i_11<(List.length l0:Int)))
  (bnd (nthI l0 i_11) fun y13 =>
  bnd (nthI l0 i_11) fun y15 =>
  bnd (aBs y15.v) fun y17 =>
  bnd (tapp out_10 [(GMember.mk y13.name y17)]) fun y19 =>
  some (.inl (y19,(IntKind.wrap .i64 (i_11+1)))))
  (some (.inr out_10))
abbrev aI7 (l0:List GMember) (st:(List GMember)×Int) (l:List PV) (u:UP):Prop:=l=[(zq aD l0),(zp aD st.1),(i6 st.2)]∧u=[]
abbrev aI8 (l0:List GMember) (p:(List GMember)) (r:EU):Prop:=(fun (p:(List GMember))=>∃ (i_21:Int),r=(Ex.brk 0,[(zq aD l0),(zp aD p),(i6 i_21)],[])) p
noncomputable def sN (l0:List GMember):Option (List GMember) :=
 bnd (bG (iF l0) ([],0)) fun out_20 =>
 some out_20
def aLw:Decs:={decs:=[(14,(.ref dS)),(19,(.ref dS)),(22,mK),(25,st')],loops:=[(3,[],⟨[sf,st',n6],[],[(some 0,[sf,st',n6],[])]⟩)]}
theorem aLx (O:Orc) (LP:LBs) (l0:List GMember):eW 103 aLw Tryz.f103 O LP [(zq aD l0)] []=wT O LP l0:=by kernel_rfl
theorem aGm (l0:List GMember):Lok (aI7 l0) (iF l0) (wS O aE) (aI8 l0):=by
 rintro ⟨out_10,i_11⟩ l u ⟨rfl,rfl⟩
 simp only [iF,wS,zd,zr]
 refine zG ?_
 try simp only [evs,tys]
 apply Imp.cnd
 ·refine zX aD fO fun y13 _ => ?_
  try simp only [evs,tys]
  refine zX aD fO fun y15 _ => ?_
  try simp only [evs,tys]
  refine zC rfl fun y17 _ => ?_
  try simp only [zes,evs,tys]
  refine Imp.op (f:=fun a => .slice (List.map aD a) [] true) (fun a h=>sD (enc:=aD) zI zI (fun a=>by first | rfl | simp only [evs,tys,evc]) h) (fun a=>rfl) fun y19 hy19 => ?_
  try simp only [evs,tys]
  exact zN
 ·exact zB ⟨i_11,zE⟩
theorem aI9 (l0:List GMember):Imp (sN l0) (wT O aE l0) (Ri rI):=by
 simp only [sN,wT,zd,zr]
 try simp only [evs,tys]
 refine zL (aGm l0) ?_
 rintro out_20 _ ⟨i_21,rfl⟩
 refine zH ?_
 try simp only [evs,tys]
 exact zR
theorem aJa {l0:List GMember} {r:List GMember} (h:sN l0=some r):uL l0=some r:=zV aNv (aI9 l0) Tryz.func103 (aLx _ _ l0) h
def aFd (O:Orc) (LP:LBs):bL:=fun s1 s1u=>cnd (chkL [sf,st',n6] s1) (cnd (chkU [] s1u)
 (cnd (decide ((iv s1 2)<(List.length (ev s1 0):Int)))
 (bnd (ix 2 (zs s1 0) (zn s1 2)) fun x12=>cnd (chk (.ref aGa) x12)
 (bnd (ix 2 (zs s1 0) (zn s1 2)) fun x14=>cnd (chk (.ref aGa) x14)
 (aT O 103 [(zs (rf x14) 1)] fun x16=>cnd (chk sf x16)
 (bnd (apd 2 (zo s1 1) (.slice [(.agg [(zt (rf x12) 0),(.slice (esV x16) [] false)])] [] true)) fun x18=>cnd (chk st' x18)
 (some (.nrm,[(zs s1 0),(.slice (esV x18) [] true),(i6 (w6 ((iv s1 2)+1)))],[])) none) none) none) none)
 (some (.brk 0,[(zs s1 0),(zo s1 1),(zn s1 2)],[]))) none) none
def aFe (O:Orc) (LP:LBs) (l0:List GDir):Option (PV×UP) :=
 bnd (LP (aFd O LP) [(zq aH l0),(.slice [] [] true),(i6 0)] []) fun y22 =>
 exIs y22.1 (some 0) (cnd (chkL [sf,st',n6] y22.2.1) (cnd (chkU [] y22.2.2)
 (some ((zs y22.2.1 1),[])) none) none)
 (none)
noncomputable def nU (l0:List GDir):((List GDir)×Int)→Option (((List GDir)×Int)⊕((List GDir)))
 | (out_10,i_11) =>
 cnd (decide (i_11<(List.length l0:Int)))
  (bnd (nthI l0 i_11) fun y13 =>
  bnd (nthI l0 i_11) fun y15 =>
  bnd (uL y15.args) fun y17 =>
  bnd (tapp out_10 [(GDir.mk y13.name y17)]) fun y19 =>
  some (.inl (y19,(IntKind.wrap .i64 (i_11+1)))))
  (some (.inr out_10))
abbrev aQW (l0:List GDir) (st:(List GDir)×Int) (l:List PV) (u:UP):Prop:=l=[(zq aH l0),(zp aH st.1),(i6 st.2)]∧u=[]
abbrev aQX (l0:List GDir) (p:(List GDir)) (r:EU):Prop:=(fun (p:(List GDir))=>∃ (i_21:Int),r=(Ex.brk 0,[(zq aH l0),(zp aH p),(i6 i_21)],[])) p
noncomputable def aD1 (l0:List GDir):Option (List GDir) :=
 bnd (bG (nU l0) ([],0)) fun out_20 =>
 some out_20
def aUC:Decs:={decs:=[(14,(.ref aGa)),(19,(.ref aGa)),(22,sf),(25,st')],loops:=[(3,[],⟨[sf,st',n6],[],[(some 0,[sf,st',n6],[])]⟩)]}
theorem aUD (O:Orc) (LP:LBs) (l0:List GDir):eW 36 aUC Tryz.f36 O LP [(zq aH l0)] []=aFe O LP l0:=by kernel_rfl
theorem aLy (l0:List GDir):Lok (aQW l0) (nU l0) (aFd O aE) (aQX l0):=by
 rintro ⟨out_10,i_11⟩ l u ⟨rfl,rfl⟩
 simp only [nU,aFd,zd,zr]
 refine zG ?_
 try simp only [evs,tys]
 apply Imp.cnd
 ·refine zX aH aBg fun y13 _ => ?_
  try simp only [evs,tys]
  refine zX aH aBg fun y15 _ => ?_
  try simp only [evs,tys]
  refine zC rfl fun y17 _ => ?_
  try simp only [zes,evs,tys]
  refine Imp.op (f:=fun a => .slice (List.map aH a) [] true) (fun a h=>sD (enc:=aH) zI zI (fun a=>by first | rfl | simp only [evs,tys,evc]) h) (fun a=>rfl) fun y19 hy19 => ?_
  try simp only [evs,tys]
  exact zN
 ·exact zB ⟨i_11,zE⟩
theorem aQY (l0:List GDir):Imp (aD1 l0) (aFe O aE l0) (Ri aBl):=by
 simp only [aD1,aFe,zd,zr]
 try simp only [evs,tys]
 refine zL (aLy l0) ?_
 rintro out_20 _ ⟨i_21,rfl⟩
 refine zH ?_
 try simp only [evs,tys]
 exact zR
theorem aQZ {l0:List GDir} {r:List GDir} (h:aD1 l0=some r):aLe l0=some r:=zV aW1 (aQY l0) Tryz.func36 (aUD _ _ l0) h
def aFf (O:Orc) (LP:LBs) (s:GSchema) (o:GOp):Option (PV×UP) :=
 cnd (o.kind==1)
 (some ((.str s.mutation),[]))
 (some ((.str s.query),[]))
noncomputable def aD2 (s:GSchema) (o:GOp):Option Str :=
 cnd (o.kind==1)
 (some s.mutation)
 (some s.query)
def aUE:Decs:={}
theorem aUF (O:Orc) (LP:LBs) (s:GSchema) (o:GOp):eW 116 aUE Tryz.f116 O LP [(eS s),(.agg [(i6 o.kind),(.str o.name),(zq aY o.vars),(zq aH o.dirs),(zq aG o.sels)])] []=aFf O LP s o:=by kernel_rfl
theorem aQ0 (s:GSchema) (o:GOp):Imp (aD2 s o) (aFf O aE s o) (Ri mR):=by
 simp only [aD2,aFf,zd,zr]
 try simp only [evs,tys]
 apply Imp.cnd
 ·exact zR
 ·exact zR
theorem aQ1 {s:GSchema} {o:GOp} {r:Str} (h:aD2 s o=some r):aQr s o=some r:=zV aDU (aQ0 s o) Tryz.func116 (aUF _ _ s o) h
abbrev lL:List Sh:=[.str,sf,st',(.ptr 0 4 0),n6,sf,.str,.str]
def aCP (O:Orc) (LP:LBs):bL:=fun s1 s1u=>cnd (chkL lL s1) (cnd (chkU [] s1u)
 (cnd (decide ((iv s1 4)<(List.length (ev s1 1):Int)))
 (bnd (ix 7 (zs s1 1) (zn s1 4)) fun x16=>cnd (chk (.ref oT) x16)
 (bnd (apd 8 (zo s1 2) (.slice [(.agg [(zt s1 0),(zn (rf x16) 0),(zt (rf x16) 1),(zt (rf x16) 2),(zs (rf x16) 3),(zs (rf x16) 4),(zt (rf x16) 5),(zs (rf x16) 6)])] [] true)) fun x18=>cnd (chk st' x18)
 (bnd (ix 7 (zs s1 1) (zn s1 4)) fun x20=>cnd (chk (.ref oT) x20)
 (aT O 184 [(.agg [(zs s1 5),(zt s1 6),(zt s1 7)]),(zt s1 0),(.agg [(zn (rf x20) 0),(zt (rf x20) 1),(zt (rf x20) 2),(zs (rf x20) 3),(zs (rf x20) 4),(zt (rf x20) 5),(zs (rf x20) 6)])] fun x22=>cnd (chk .str x22)
 (bnd (ix 7 (zs s1 1) (zn s1 4)) fun x24=>cnd (chk (.ref oT) x24)
 (aT O 115 [(.agg [(zs s1 5),(zt s1 6),(zt s1 7)]),(.str (strV x22)),(zs (rf x24) 6),(.slice (esV x18) [] true)] fun x26=>cnd (chk st' x26)
 (some (.nrm,(pu (pu (rb lL s1) 2 (.slice (esV x26) [] true)) 4 (i6 (w6 ((iv s1 4)+1)))),[])) none) none) none) none) none) none)
 (some (.brk 0,(rb lL s1),[]))) none) none
def aCQ (O:Orc) (LP:LBs) (s:GSchema) (typ:Str) (l0:List GSel) (out0:List GSeineref13Spot):Option (PV×UP) :=
 bnd (LP (aCP O LP) [(.str typ),(zq aG l0),(zp aL out0),(.ptr 0 4 0),(i6 0),(zq aI s.defs),(.str s.query),(.str s.mutation)] []) fun y30 =>
 exIs y30.1 (some 0) (cnd (chkL lL y30.2.1) (cnd (chkU [] y30.2.2)
 (some ((zo y30.2.1 2),[])) none) none)
 (none)
noncomputable def jH (s:GSchema) (typ:Str) (l0:List GSel):((List GSeineref13Spot)×Int)→Option (((List GSeineref13Spot)×Int)⊕((List GSeineref13Spot)))
 | (out_14,i_15) =>
 cnd (decide (i_15<(List.length l0:Int)))
  (bnd (nthI l0 i_15) fun y17 =>
  bnd (tapp out_14 [(GSeineref13Spot.mk typ y17)]) fun y19 =>
  bnd (nthI l0 i_15) fun y21 =>
  bnd (aHJ s typ y21) fun y23 =>
  bnd (nthI l0 i_15) fun y25 =>
  bnd (aDV s y23 y25.sels y19) fun y27 =>
  some (.inl (y27,(IntKind.wrap .i64 (i_15+1)))))
  (some (.inr out_14))
abbrev aN1 (s:GSchema) (typ:Str) (l0:List GSel) (st:(List GSeineref13Spot)×Int) (l:List PV) (u:UP):Prop:=l=[(.str typ),(zq aG l0),(zp aL st.1),(.ptr 0 4 0),(i6 st.2),(zq aI s.defs),(.str s.query),(.str s.mutation)]∧u=[]
abbrev aN2 (s:GSchema) (typ:Str) (l0:List GSel) (p:(List GSeineref13Spot)) (r:EU):Prop:=(fun (p:(List GSeineref13Spot))=>∃ (i_29:Int),r=(Ex.brk 0,[(.str typ),(zq aG l0),(zp aL p),(.ptr 0 4 0),(i6 i_29),(zq aI s.defs),(.str s.query),(.str s.mutation)],[])) p
noncomputable def uV (s:GSchema) (typ:Str) (l0:List GSel) (out0:List GSeineref13Spot):Option (List GSeineref13Spot) :=
 bnd (bG (jH s typ l0) (out0,0)) fun out_28 =>
 some out_28
def aQ2:Decs:={decs:=[(20,(.ref oT)),(24,st'),(30,(.ref oT)),(32,.str),(35,(.ref oT)),(39,st')],loops:=[(2,[(4,3)],⟨lL,[],[(some 0,lL,[])]⟩)]}
theorem aQ3 (O:Orc) (LP:LBs) (s:GSchema) (typ:Str) (l0:List GSel) (out0:List GSeineref13Spot):eW 115 aQ2 Tryz.f115 O LP [(eS s),(.str typ),(zq aG l0),(zp aL out0)] []=aCQ O LP s typ l0 out0:=by kernel_rfl
theorem aJb (s:GSchema) (typ:Str) (l0:List GSel):Lok (aN1 s typ l0) (jH s typ l0) (aCP O aE) (aN2 s typ l0):=by
 rintro ⟨out_14,i_15⟩ l u ⟨rfl,rfl⟩
 simp only [jH,aCP,zd,zr]
 refine zG ?_
 try simp only [evs,tys]
 apply Imp.cnd
 ·refine zX aG iQ fun y17 _ => ?_
  try simp only [evs,tys]
  refine Imp.op (f:=fun a => .slice (List.map aL a) [] true) (fun a h=>sD (enc:=aL) zI zI (fun a=>by first | rfl | simp only [evs,tys,evc]) h) (fun a=>rfl) fun y19 hy19 => ?_
  try simp only [evs,tys]
  refine zX aG iQ fun y21 _ => ?_
  try simp only [evs,tys]
  refine zC rfl fun y23 _ => ?_
  try simp only [zes,evs,tys]
  refine zX aG iQ fun y25 _ => ?_
  try simp only [evs,tys]
  refine zC rfl fun y27 _ => ?_
  try simp only [zes,evs,tys]
  exact zN
 ·exact zB ⟨i_15,zE⟩
theorem aN3 (s:GSchema) (typ:Str) (l0:List GSel) (out0:List GSeineref13Spot):Imp (uV s typ l0 out0) (aCQ O aE s typ l0 out0) (Ri aAl):=by
 simp only [uV,aCQ,zd,zr]
 try simp only [evs,tys]
 refine zL (aJb s typ l0) ?_
 rintro out_28 _ ⟨i_29,rfl⟩
 refine zH ?_
 try simp only [evs,tys]
 exact zR
theorem aFR {s:GSchema} {typ:Str} {l0:List GSel} {out0:List GSeineref13Spot} {r:List GSeineref13Spot} (h:uV s typ l0 out0=some r):aDV s typ l0 out0=some r:=zV aUp (aN3 s typ l0 out0) Tryz.func115 (aQ3 _ _ s typ l0 out0) h
abbrev eE:List Sh:=[(.ptr 0 2 0),st',(.ptr 0 6 0),n6,n6,.str,sf,sf,sf,sf,sf,.str,.str]
def aCR (O:Orc) (LP:LBs):bL:=fun s3 s3u=>cnd (chkL eE s3) (cnd (chkU [] s3u)
 (cnd (decide ((iv s3 3)<(List.length (ev s3 9):Int)))
 (cnd ((iv s3 4)==5)
 (bnd (ix 10 (zs s3 9) (zn s3 3)) fun x12=>cnd (chk (.ref iK) x12)
 (cnd ((iv (rf x12) 2)==0)
 (cnd ((iv (rf x12) 3)==1)
 (aT O 159 [(.agg [(zs s3 10),(zt s3 11),(zt s3 12)]),(zt (rf x12) 1),(i6 5),(i6 5),(i6 5)] fun x14=>cnd (chk .bool x14)
 (cnd (bP x14)
 (bnd (apd 1 (zo s3 1) (.slice [(zt (rf x12) 1)] [] true)) fun x16=>cnd (chk st' x16)
 (some (.nrm,(pu (pu (rb eE s3) 1 (.slice (esV x16) [] true)) 3 (i6 (w6 ((iv s3 3)+1)))),[])) none)
 (some (.nrm,(pu (rb eE s3) 3 (i6 (w6 ((iv s3 3)+1)))),[]))) none)
 (some (.nrm,(pu (rb eE s3) 3 (i6 (w6 ((iv s3 3)+1)))),[])))
 (some (.nrm,(pu (rb eE s3) 3 (i6 (w6 ((iv s3 3)+1)))),[]))) none)
 (some (.brk 0,(rb eE s3),[])))
 (some (.brk 0,(rb eE s3),[]))) none) none
def aCS (O:Orc) (LP:LBs) (s:GSchema) (name:Str):Option (PV×UP) :=
 aT O 164 [(eS s),(.str name)] fun x1=>cnd (chk (.tup [oS,.bool]) x1)
 (bnd (LP (aCR O LP) [(.ptr 0 2 0),(.slice [] [] true),(.ptr 0 6 0),(i6 0),(zn (tg x1 0) 0),(zt (tg x1 0) 1),(zs (tg x1 0) 2),(zs (tg x1 0) 3),(zs (tg x1 0) 4),(zs (tg x1 0) 5),(zq aI s.defs),(.str s.query),(.str s.mutation)] []) fun y20 =>
 exIs y20.1 (some 0) (cnd (chkL eE y20.2.1) (cnd (chkU [] y20.2.2)
 (some ((zo y20.2.1 1),[])) none) none)
 (none)) none
noncomputable def sO (s:GSchema) (name:Str) (y2:GDef×Bool):((List Str)×Int)→Option (((List Str)×Int)⊕((List Str)))
 | (out_10,i_11) =>
 cnd (decide (i_11<(List.length y2.1.params:Int)))
  (cnd (y2.1.kind==5)
  (bnd (nthI y2.1.params i_11) fun y13 =>
  cnd (y13.t.lists==0)
   (cnd (y13.t.musts==1)
   (bnd (aYF s y13.t.name 5 5 5) fun y15 =>
   cnd y15
    (bnd (tapp out_10 [y13.t.name]) fun y17 =>
    some (.inl (y17,(IntKind.wrap .i64 (i_11+1)))))
    (some (.inl (out_10,(IntKind.wrap .i64 (i_11+1))))))
   (some (.inl (out_10,(IntKind.wrap .i64 (i_11+1))))))
   (some (.inl (out_10,(IntKind.wrap .i64 (i_11+1))))))
  (some (.inr out_10)))
  (some (.inr out_10))
abbrev aFS (s:GSchema) (name:Str) (y2:GDef×Bool) (a0 a1:PV):List PV:=[(.ptr 0 2 0),a0,(.ptr 0 6 0),a1,(i6 y2.1.kind),(.str y2.1.name),(zq PV.str y2.1.faces),(zq aK y2.1.fields),(zq PV.str y2.1.parts),(zq aQ y2.1.params),(zq aI s.defs),(.str s.query),(.str s.mutation)]
abbrev aN4 (s:GSchema) (name:Str) (y2:GDef×Bool) (st:(List Str)×Int) (l:List PV) (u:UP):Prop:=l=(aFS s name y2 (zp PV.str st.1) (i6 st.2))∧u=[]
abbrev aN5 (s:GSchema) (name:Str) (y2:GDef×Bool) (p:(List Str)) (r:EU):Prop:=∃ (i_19:Int),r=(Ex.brk 0,(aFS s name y2 (zp PV.str p) (i6 i_19)),[])
noncomputable def uW (s:GSchema) (name:Str):Option (List Str) :=
 bnd (vZ s name) fun y2 =>
 bnd (bG (sO s name y2) ([],0)) fun out_18 =>
 some out_18
def aQ4:Decs:={decs:=[(13,(.tup [oS,.bool])),(31,(.ref iK)),(46,.bool),(52,st')],loops:=[(4,[(6,6),(2,3)],⟨eE,[],[(some 0,eE,[])]⟩)]}
theorem aQ5 (O:Orc) (LP:LBs) (s:GSchema) (name:Str):eW 166 aQ4 Tryz.f166 O LP [(eS s),(.str name)] []=aCS O LP s name:=by kernel_rfl
theorem aJc (s:GSchema) (name:Str) (y2:GDef×Bool):Lok (aN4 s name y2) (sO s name y2) (aCR O aE) (aN5 s name y2):=by
 rintro ⟨out_10,i_11⟩ l u ⟨rfl,rfl⟩
 simp only [sO,aCR,zd,zr]
 refine zG ?_
 try simp only [evs,tys]
 apply Imp.cnd
 ·apply Imp.cnd
  ·refine zX aQ nN fun y13 _ => ?_
   try simp only [evs,tys]
   apply Imp.cnd
   ·apply Imp.cnd
    ·refine zC rfl fun y15 _ => ?_
     try simp only [zes,evs,tys]
     apply Imp.cnd
     ·refine Imp.op (f:=fun a => .slice (List.map PV.str a) [] true) (fun a h=>sD (enc:=PV.str) zI zI (fun a=>by first | rfl | simp only [evs,tys,evc]) h) (fun a=>rfl) fun y17 hy17 => ?_
      try simp only [evs,tys]
      exact zN
     ·exact zN
    ·exact zN
   ·exact zN
  ·exact zB ⟨i_11,zE⟩
 ·exact zB ⟨i_11,zE⟩
theorem aN6 (s:GSchema) (name:Str):Imp (uW s name) (aCS O aE s name) (Ri kG):=by
 simp only [uW,aCS,zd,zr]
 try simp only [evs,tys]
 refine zC rfl fun y2 _ => ?_
 try simp only [zes,evs,tys]
 refine zL (aJc s name y2) ?_
 rintro out_18 _ ⟨i_19,rfl⟩
 refine zH ?_
 try simp only [evs,tys]
 exact zR
theorem aN7 {s:GSchema} {name:Str} {r:List Str} (h:uW s name=some r):aGI s name=some r:=zV aDT (aN6 s name) Tryz.func166 (aQ5 _ _ s name) h
abbrev jP:List Sh:=[sf,.str,.bool,n6]
def aHU (O:Orc) (LP:LBs):bL:=fun s1 s1u=>cnd (chkL jP s1) (cnd (chkU [] s1u)
 (cnd (decide ((iv s1 3)<(List.length (ev s1 0):Int)))
 (bnd (ix 1 (zs s1 0) (zn s1 3)) fun x5=>cnd (chk (.ref .str) x5)
 (cnd ((strV (refV x5))==(sv s1 1))
 (some (.ret,(pu (rb jP s1) 2 (.bool true)),[]))
 (some (.nrm,(pu (rb jP s1) 3 (i6 (w6 ((iv s1 3)+1)))),[]))) none)
 (some (.brk 0,(rb jP s1),[]))) none) none
def aHV (O:Orc) (LP:LBs) (l0:List Str) (s:Str):Option (PV×UP) :=
 bnd (LP (aHU O LP) [(zq PV.str l0),(.str s),(.bool false),(i6 0)] []) fun y9 =>
 exIs y9.1 (some 0) (cnd (chkL jP y9.2.1) (cnd (chkU [] y9.2.2)
 (some ((.bool false),[])) none) none)
 (exIs y9.1 none (cnd (chkL jP y9.2.1) (cnd (chkU [] y9.2.2)
 (some ((zb y9.2.1 2),[])) none) none)
 (none))
noncomputable def qM (l0:List Str) (s:Str):Int→Option (Int⊕(Unit⊕Unit))
 | i_4 =>
 cnd (decide (i_4<(List.length l0:Int)))
  (bnd (nthI l0 i_4) fun y6 =>
  cnd (y6==s)
  (some (.inr (.inr ())))
  (some (.inl (IntKind.wrap .i64 (i_4+1)))))
  (some (.inr (.inl ())))
abbrev aUG (l0:List Str) (s:Str) (st:Int) (l:List PV) (u:UP):Prop:=l=[(zq PV.str l0),(.str s),(.bool false),(i6 st)]∧u=[]
abbrev aUH (l0:List Str) (s:Str) (p:Unit⊕Unit) (r:EU):Prop:=elim p (fun (p:Unit)=>∃ (i_7:Int),r=(Ex.brk 0,[(zq PV.str l0),(.str s),(.bool false),(i6 i_7)],[])) (fun q2=>(fun (p:Unit)=>∃ (i_8:Int),r=(Ex.ret,[(zq PV.str l0),(.str s),(.bool true),(i6 i_8)],[])) q2)
noncomputable def aGM (l0:List Str) (s:Str):Option Bool :=
 bnd (bG (qM l0 s) 0) fun e9_2=>elim e9_2
 (fun p9 =>
 some false)
 (fun p9 =>
 some true)
def aW6:Decs:={decs:=[(14,(.ref .str))],loops:=[(2,[],⟨jP,[],[(some 0,jP,[]),(none,jP,[])]⟩)]}
theorem aW7 (O:Orc) (LP:LBs) (l0:List Str) (s:Str):eW 29 aW6 Tryz.f29 O LP [(zq PV.str l0),(.str s)] []=aHV O LP l0 s:=by kernel_rfl
theorem aN8 (l0:List Str) (s:Str):Lok (aUG l0 s) (qM l0 s) (aHU O aE) (aUH l0 s):=by
 rintro i_4 l u ⟨rfl,rfl⟩
 simp only [qM,aHU,zd,zr]
 refine zG ?_
 try simp only [evs,tys]
 apply Imp.cnd
 ·refine zX PV.str (fun _=>rfl) fun y6 _ => ?_
  try simp only [evs,tys]
  apply Imp.cnd
  ·exact zT ⟨i_4,zE⟩
  ·exact zN
 ·exact zB ⟨i_4,zE⟩
theorem aUI (l0:List Str) (s:Str):Imp (aGM l0 s) (aHV O aE l0 s) (Ri aA):=by
 simp only [aGM,aHV,zd,zr]
 try simp only [evs,tys]
 refine zL (aN8 l0 s) ?_
 rintro (p | p) vy9 hy9
 ·try simp only [aO,aP]
  obtain ⟨i_7,rfl⟩:=hy9
  refine zH ?_
  try simp only [evs,tys]
  exact zR
 ·try simp only [aO,aP]
  obtain ⟨i_8,rfl⟩:=hy9
  refine Imp.exMiss rfl ?_
  refine zH ?_
  try simp only [evs,tys]
  exact zR
theorem aUJ {l0:List Str} {s:Str} {r:Bool} (h:aGM l0 s=some r):aBY l0 s=some r:=zV aC (aUI l0 s) Tryz.func29 (aW7 _ _ l0 s) h
def wU (O:Orc) (LP:LBs) (l0:List GSel):Option (PV×UP) :=
 aT O 183 [(zq aG l0),(.slice [] [] true)] fun x1=>cnd (chk st' x1)
 (some ((.slice (esV x1) [] true),[])) none
noncomputable def sP (l0:List GSel):Option (List Str) :=
 bnd (jN l0 ([]:List Str)) fun y2 =>
 some y2
def aLz:Decs:={decs:=[(4,st')]}
theorem aLA (O:Orc) (LP:LBs) (l0:List GSel):eW 182 aLz Tryz.f182 O LP [(zq aG l0)] []=wU O LP l0:=by kernel_rfl
theorem aJd (l0:List GSel):Imp (sP l0) (wU O aE l0) (Ri kG):=by
 simp only [sP,wU,zd,zr]
 try simp only [evs,tys]
 refine zC rfl fun y2 _ => ?_
 try simp only [zes,evs,tys]
 exact zR
theorem aJe {l0:List GSel} {r:List Str} (h:sP l0=some r):aEV l0=some r:=zV aDT (aJd l0) Tryz.func182 (aLA _ _ l0) h
abbrev kX:List Sh:=[.str,(.ptr 0 2 0),(.ptr 0 4 0),.bool,n6,.str,.str,st',st',sf,sf]
def aFg (O:Orc) (LP:LBs):bL:=fun s1 s1u=>cnd (chkL kX s1) (cnd (chkU [] s1u)
 (cnd (decide ((iv s1 4)<(List.length (ev s1 10):Int)))
 (bnd (ix 4 (zs s1 10) (zn s1 4)) fun x7=>cnd (chk (.ref iP) x7)
 (cnd ((sv (rf x7) 0)==(sv s1 0))
 (bnd (ix 4 (zs s1 10) (zn s1 4)) fun x9=>cnd (chk (.ref iP) x9)
 (some (.ret,(pu (pu (pu (pu (pu (rb kX s1) 3 (.bool true)) 5 (zt (rf x9) 0)) 6 (zt (rf x9) 1)) 7 (zs (rf x9) 2)) 8 (zs (rf x9) 3)),[])) none)
 (some (.nrm,(pu (rb kX s1) 4 (i6 (w6 ((iv s1 4)+1)))),[]))) none)
 (some (.brk 0,(rb kX s1),[]))) none) none
def aFh (O:Orc) (LP:LBs) (d:GDoc) (name:Str):Option (PV×UP) :=
 bnd (LP (aFg O LP) [(.str name),(.ptr 0 2 0),(.ptr 0 4 0),(.bool false),(i6 0),(.str []),(.str []),(.slice [] [] true),(.slice [] [] true),(zq aU d.ops),(zq aF d.frags)] []) fun y17 =>
 exIs y17.1 (some 0) (cnd (chkL kX y17.2.1) (cnd (chkU [] y17.2.2)
 (some ((.tuple [(.agg [(.str []),(.str []),(.slice [] [] false),(.slice [] [] false)]),(.bool false)]),[])) none) none)
 (exIs y17.1 none (cnd (chkL [.str,(.ptr 0 2 0),(.ptr 0 4 0),.bool,n6,.str,.str,sf,sf,sf,sf] y17.2.1) (cnd (chkU [] y17.2.2)
 (some ((.tuple [(.agg [(zt y17.2.1 5),(zt y17.2.1 6),(zs y17.2.1 7),(zs y17.2.1 8)]),(zb y17.2.1 3)]),[])) none) none)
 (none))
noncomputable def nV (d:GDoc) (name:Str):Int→Option (Int⊕(Unit⊕(Str×Str×(List GDir)×(List GSel))))
 | i_6 =>
 cnd (decide (i_6<(List.length d.frags:Int)))
  (bnd (nthI d.frags i_6) fun y8 =>
  cnd (y8.name==name)
  (bnd (nthI d.frags i_6) fun y10 =>
  some (.inr (.inr (y10.name,y10.on_,y10.dirs,y10.sels))))
  (some (.inl (IntKind.wrap .i64 (i_6+1)))))
  (some (.inr (.inl ())))
abbrev aQ6 (d:GDoc) (name:Str) (st:Int) (l:List PV) (u:UP):Prop:=l=[(.str name),(.ptr 0 2 0),(.ptr 0 4 0),(.bool false),(i6 st),(.str []),(.str []),(.slice [] [] true),(.slice [] [] true),(zq aU d.ops),(zq aF d.frags)]∧u=[]
abbrev aQ7 (d:GDoc) (name:Str) (p:Unit⊕(Str×Str×(List GDir)×(List GSel))) (r:EU):Prop:=elim p (fun (p:Unit)=>∃ (i_11:Int),r=(Ex.brk 0,[(.str name),(.ptr 0 2 0),(.ptr 0 4 0),(.bool false),(i6 i_11),(.str []),(.str []),(.slice [] [] true),(.slice [] [] true),(zq aU d.ops),(zq aF d.frags)],[])) (fun q2=>(fun (p:Str×Str×(List GDir)×(List GSel))=>∃ (i_12:Int),r=(Ex.ret,[(.str name),(.ptr 0 2 0),(.ptr 0 4 0),(.bool true),(i6 i_12),(.str p.1),(.str p.2.1),(zq aH p.2.2.1),(zq aG p.2.2.2),(zq aU d.ops),(zq aF d.frags)],[])) q2)
noncomputable def aD3 (d:GDoc) (name:Str):Option (GFrag×Bool) :=
 bnd (bG (nV d name) 0) fun e17_2=>elim e17_2
 (fun p17 =>
 some ((GFrag.mk [] [] ([]:List GDir) ([]:List GSel)),false))
 (fun p17 =>
 some ((GFrag.mk p17.1 p17.2.1 p17.2.2.1 p17.2.2.2),true))
def aUK:Decs:={decs:=[(17,(.ref iP)),(25,(.ref iP))],loops:=[(2,[(4,4),(2,2)],⟨kX,[],[(some 0,kX,[]),(none,[.str,(.ptr 0 2 0),(.ptr 0 4 0),.bool,n6,.str,.str,sf,sf,sf,sf],[])]⟩)]}
theorem aUL (O:Orc) (LP:LBs) (d:GDoc) (name:Str):eW 113 aUK Tryz.f113 O LP [(eD d),(.str name)] []=aFh O LP d name:=by kernel_rfl
theorem aLB (d:GDoc) (name:Str):Lok (aQ6 d name) (nV d name) (aFg O aE) (aQ7 d name):=by
 rintro i_6 l u ⟨rfl,rfl⟩
 simp only [nV,aFg,zd,zr]
 refine zG ?_
 try simp only [evs,tys]
 apply Imp.cnd
 ·refine zX aF jD fun y8 _ => ?_
  try simp only [evs,tys]
  apply Imp.cnd
  ·refine zX aF jD fun y10 _ => ?_
   try simp only [evs,tys]
   exact zT ⟨i_6,zE⟩
  ·exact zN
 ·exact zB ⟨i_6,zE⟩
theorem aQ8 (d:GDoc) (name:Str):Imp (aD3 d name) (aFh O aE d name) (Ri aBm):=by
 simp only [aD3,aFh,zd,zr]
 try simp only [evs,tys]
 refine zL (aLB d name) ?_
 rintro (p | ⟨b_13,b_14,b_15,b_16⟩) vy17 hy17
 ·try simp only [aO,aP]
  obtain ⟨i_11,rfl⟩:=hy17
  refine zH ?_
  try simp only [evs,tys]
  exact zR
 ·try simp only [aO,aP]
  obtain ⟨i_12,rfl⟩:=hy17
  refine Imp.exMiss rfl ?_
  refine zH ?_
  try simp only [evs,tys]
  exact zR
theorem aQ9 {d:GDoc} {name:Str} {r:GFrag×Bool} (h:aD3 d name=some r):aQs d name=some r:=zV aW2 (aQ8 d name) Tryz.func113 (aUL _ _ d name) h
def wV (O:Orc) (LP:LBs):bL:=fun s1 s1u=>cnd (chkL [sf,st',n6] s1) (cnd (chkU [] s1u)
 (cnd (decide ((iv s1 2)<(List.length (ev s1 0):Int)))
 (bnd (ix 7 (zs s1 0) (zn s1 2)) fun x26=>cnd (chk (.ref oT) x26)
 (cnd ((iv (rf x26) 0)==1)
 (bnd (ix 7 (zs s1 0) (zn s1 2)) fun x28=>cnd (chk (.ref oT) x28)
 (aT O 29 [(zs s1 1),(zt (rf x28) 2)] fun x30=>cnd (chk .bool x30)
 (cnd (!(bP x30))
 (bnd (ix 7 (zs s1 0) (zn s1 2)) fun x32=>cnd (chk (.ref oT) x32)
 (bnd (apd 1 (zo s1 1) (.slice [(zt (rf x32) 2)] [] true)) fun x34=>cnd (chk st' x34)
 (bnd (ix 7 (zs s1 0) (zn s1 2)) fun x36=>cnd (chk (.ref oT) x36)
 (aT O 183 [(zs (rf x36) 6),(.slice (esV x34) [] true)] fun x38=>cnd (chk st' x38)
 (some (.nrm,[(zs s1 0),(.slice (esV x38) [] true),(i6 (w6 ((iv s1 2)+1)))],[])) none) none) none) none)
 (bnd (ix 7 (zs s1 0) (zn s1 2)) fun x40=>cnd (chk (.ref oT) x40)
 (aT O 183 [(zs (rf x40) 6),(zo s1 1)] fun x42=>cnd (chk st' x42)
 (some (.nrm,[(zs s1 0),(.slice (esV x42) [] true),(i6 (w6 ((iv s1 2)+1)))],[])) none) none)) none) none)
 (bnd (ix 7 (zs s1 0) (zn s1 2)) fun x44=>cnd (chk (.ref oT) x44)
 (aT O 183 [(zs (rf x44) 6),(zo s1 1)] fun x46=>cnd (chk st' x46)
 (some (.nrm,[(zs s1 0),(.slice (esV x46) [] true),(i6 (w6 ((iv s1 2)+1)))],[])) none) none)) none)
 (some (.brk 0,[(zs s1 0),(zo s1 1),(zn s1 2)],[]))) none) none
def wW (O:Orc) (LP:LBs) (l0:List GSel) (out0:List Str):Option (PV×UP) :=
 bnd (LP (wV O LP) [(zq aG l0),(zp PV.str out0),(i6 0)] []) fun y50 =>
 exIs y50.1 (some 0) (cnd (chkL [sf,st',n6] y50.2.1) (cnd (chkU [] y50.2.2)
 (some ((zo y50.2.1 1),[])) none) none)
 (none)
noncomputable def fR (l0:List GSel):((List Str)×Int)→Option (((List Str)×Int)⊕((List Str)))
 | (out_24,i_25) =>
 cnd (decide (i_25<(List.length l0:Int)))
  (bnd (nthI l0 i_25) fun y27 =>
  cnd (y27.kind==1)
  (bnd (nthI l0 i_25) fun y29 =>
  bnd (aBY out_24 y29.name) fun y31 =>
  cnd (!y31)
   (bnd (nthI l0 i_25) fun y33 =>
   bnd (tapp out_24 [y33.name]) fun y35 =>
   bnd (nthI l0 i_25) fun y37 =>
   bnd (jN y37.sels y35) fun y39 =>
   some (.inl (y39,(IntKind.wrap .i64 (i_25+1)))))
   (bnd (nthI l0 i_25) fun y41 =>
   bnd (jN y41.sels out_24) fun y43 =>
   some (.inl (y43,(IntKind.wrap .i64 (i_25+1))))))
  (bnd (nthI l0 i_25) fun y45 =>
  bnd (jN y45.sels out_24) fun y47 =>
  some (.inl (y47,(IntKind.wrap .i64 (i_25+1))))))
  (some (.inr out_24))
abbrev aJf (l0:List GSel) (st:(List Str)×Int) (l:List PV) (u:UP):Prop:=l=[(zq aG l0),(zp PV.str st.1),(i6 st.2)]∧u=[]
abbrev aJg (l0:List GSel) (p:(List Str)) (r:EU):Prop:=(fun (p:(List Str))=>∃ (i_49:Int),r=(Ex.brk 0,[(zq aG l0),(zp PV.str p),(i6 i_49)],[])) p
noncomputable def pE (l0:List GSel) (out0:List Str):Option (List Str) :=
 bnd (bG (fR l0) (out0,0)) fun out_48 =>
 some out_48
def aLC:Decs:={decs:=[(14,(.ref oT)),(22,(.ref oT)),(25,.bool),(31,(.ref oT)),(35,st'),(38,(.ref oT)),(42,st')],loops:=[(2,[],⟨[sf,st',n6],[],[(some 0,[sf,st',n6],[])]⟩)]}
theorem aLD (O:Orc) (LP:LBs) (l0:List GSel) (out0:List Str):eW 183 aLC Tryz.f183 O LP [(zq aG l0),(zp PV.str out0)] []=wW O LP l0 out0:=by kernel_rfl
theorem aGn (l0:List GSel):Lok (aJf l0) (fR l0) (wV O aE) (aJg l0):=by
 rintro ⟨out_24,i_25⟩ l u ⟨rfl,rfl⟩
 simp only [fR,wV,zd,zr]
 refine zG ?_
 try simp only [evs,tys]
 apply Imp.cnd
 ·refine zX aG iQ fun y27 _ => ?_
  try simp only [evs,tys]
  apply Imp.cnd
  ·refine zX aG iQ fun y29 _ => ?_
   try simp only [evs,tys]
   refine zC rfl fun y31 _ => ?_
   try simp only [zes,evs,tys]
   apply Imp.cnd
   ·refine zX aG iQ fun y33 _ => ?_
    try simp only [evs,tys]
    refine Imp.op (f:=fun a => .slice (List.map PV.str a) [] true) (fun a h=>sD (enc:=PV.str) zI zI (fun a=>by first | rfl | simp only [evs,tys,evc]) h) (fun a=>rfl) fun y35 hy35 => ?_
    try simp only [evs,tys]
    refine zX aG iQ fun y37 _ => ?_
    try simp only [evs,tys]
    refine zC rfl fun y39 _ => ?_
    try simp only [zes,evs,tys]
    exact zN
   ·refine zX aG iQ fun y41 _ => ?_
    try simp only [evs,tys]
    refine zC rfl fun y43 _ => ?_
    try simp only [zes,evs,tys]
    exact zN
  ·refine zX aG iQ fun y45 _ => ?_
   try simp only [evs,tys]
   refine zC rfl fun y47 _ => ?_
   try simp only [zes,evs,tys]
   exact zN
 ·exact zB ⟨i_25,zE⟩
theorem aJh (l0:List GSel) (out0:List Str):Imp (pE l0 out0) (wW O aE l0 out0) (Ri kG):=by
 simp only [pE,wW,zd,zr]
 try simp only [evs,tys]
 refine zL (aGn l0) ?_
 rintro out_48 _ ⟨i_49,rfl⟩
 refine zH ?_
 try simp only [evs,tys]
 exact zR
theorem aB0 {l0:List GSel} {out0:List Str} {r:List Str} (h:pE l0 out0=some r):jN l0 out0=some r:=zV aDT (aJh l0 out0) Tryz.func183 (aLD _ _ l0 out0) h
def rJ (O:Orc) (LP:LBs) (t:GType):Option (PV×UP) :=
 aT O 98 [(.str t.name)] fun x1=>cnd (chk .bool x1)
 (cnd (bP x1)
 (cnd (decide (t.lists≥0))
 (cnd (decide (t.lists≤4))
 (cnd (decide (t.musts≥0))
 (bnd (bin .shl (i6 2) (.int .u64 (IntKind.wrap .u64 t.lists))) fun x3=>cnd (chk n6 x3)
 (some ((.bool (decide (t.musts<(intV x3)))),[])) none)
 (some ((.bool false),[])))
 (some ((.bool false),[])))
 (some ((.bool false),[])))
 (some ((.bool false),[]))) none
noncomputable def jZ (t:GType):Option Bool :=
 bnd (aQv t.name) fun y2 =>
 cnd y2
 (cnd (decide (t.lists≥0))
 (cnd (decide (t.lists≤4))
 (cnd (decide (t.musts≥0))
 (bnd (tshl .i64 2 (IntKind.wrap .u64 t.lists)) fun y4 =>
 some (decide (t.musts<y4)))
 (some false))
 (some false))
 (some false))
 (some false)
def aHW:Decs:={decs:=[(5,.bool),(27,n6)]}
theorem aHX (O:Orc) (LP:LBs) (t:GType):eW 101 aHW Tryz.f101 O LP [(eT t)] []=rJ O LP t:=by kernel_rfl
theorem aGo (t:GType):Imp (jZ t) (rJ O aE t) (Ri aA):=by
 simp only [jZ,rJ,zd,zr]
 try simp only [evs,tys]
 refine zC rfl fun y2 _ => ?_
 try simp only [zes,evs,tys]
 apply Imp.cnd
 ·apply Imp.cnd
  ·apply Imp.cnd
   ·apply Imp.cnd
    ·refine Imp.op (f:=fun a => .int _ a) (fun a h=>bBO h) (fun a=>rfl) fun y4 hy4 => ?_
     try simp only [evs,tys]
     exact zR
    ·exact zR
   ·exact zR
  ·exact zR
 ·exact zR
theorem aGp {t:GType} {r:Bool} (h:jZ t=some r):oX t=some r:=zV aC (aGo t) Tryz.func101 (aHX _ _ t) h
def aFi (O:Orc) (LP:LBs) (t:GType):Option (PV×UP) :=
 aT O 101 [(eT t)] fun x1=>cnd (chk .bool x1)
 (cnd (!(bP x1))
 (some ((.tuple [(.agg [(.str []),(i6 0),(i6 0)]),(.bool false)]),[]))
 (cnd (t.lists==0)
 (some ((.tuple [(.agg [(.str []),(i6 0),(i6 0)]),(.bool false)]),[]))
 (some ((.tuple [(.agg [(.str t.name),(i6 (w6 (t.lists-1))),(i6 (Int.fdiv t.musts (2 ^ min (Int.toNat 1) 64)))]),(.bool true)]),[])))) none
noncomputable def aD4 (t:GType):Option (GType×Bool) :=
 bnd (oX t) fun y2 =>
 cnd (!y2)
 (some ((GType.mk [] 0 0),false))
 (cnd (t.lists==0)
 (some ((GType.mk [] 0 0),false))
 (some ((GType.mk t.name (IntKind.wrap .i64 (t.lists-1)) (Int.fdiv t.musts (2 ^ min (Int.toNat 1) 64))),true)))
def aUM:Decs:={decs:=[(5,.bool)]}
theorem aUN (O:Orc) (LP:LBs) (t:GType):eW 224 aUM Tryz.f224 O LP [(eT t)] []=aFi O LP t:=by kernel_rfl
theorem aRa (t:GType):Imp (aD4 t) (aFi O aE t) (Ri aBn):=by
 simp only [aD4,aFi,zd,zr]
 try simp only [evs,tys]
 refine zC rfl fun y2 _ => ?_
 try simp only [zes,evs,tys]
 apply Imp.cnd
 ·exact zR
 ·apply Imp.cnd
  ·exact zR
  ·exact zR
theorem aRb {t:GType} {r:GType×Bool} (h:aD4 t=some r):aQt t=some r:=zV aW3 (aRa t) Tryz.func224 (aUN _ _ t) h
abbrev kY:List Sh:=[.str,(.ptr 0 2 0),(.ptr 0 4 0),.bool,n6,n6,.str,st',st',st',st',sf,.str,.str]
def aFj (O:Orc) (LP:LBs):bL:=fun s3 s3u=>cnd (chkL kY s3) (cnd (chkU [] s3u)
 (cnd (decide ((iv s3 4)<(List.length (ev s3 11):Int)))
 (bnd (ix 6 (zs s3 11) (zn s3 4)) fun x9=>cnd (chk (.ref oS) x9)
 (cnd ((sv (rf x9) 1)==(sv s3 0))
 (bnd (ix 6 (zs s3 11) (zn s3 4)) fun x11=>cnd (chk (.ref oS) x11)
 (some (.ret,(pu (pu (pu (pu (pu (pu (pu (rb kY s3) 3 (.bool true)) 5 (zn (rf x11) 0)) 6 (zt (rf x11) 1)) 7 (zs (rf x11) 2)) 8 (zs (rf x11) 3)) 9 (zs (rf x11) 4)) 10 (zs (rf x11) 5)),[])) none)
 (some (.nrm,(pu (rb kY s3) 4 (i6 (w6 ((iv s3 4)+1)))),[]))) none)
 (some (.brk 0,(rb kY s3),[]))) none) none
def aFk (O:Orc) (LP:LBs) (s:GSchema) (name:Str):Option (PV×UP) :=
 aT O 156 [(.str name)] fun x1=>cnd (chk .bool x1)
 (cnd (bP x1)
 (some ((.tuple [(.agg [(i6 0),(.str name),(.slice [] [] false),(.slice [] [] false),(.slice [] [] false),(.slice [] [] false)]),(.bool true)]),[]))
 (bnd (LP (aFj O LP) [(.str name),(.ptr 0 2 0),(.ptr 0 4 0),(.bool false),(i6 0),(i6 0),(.str []),(.slice [] [] true),(.slice [] [] true),(.slice [] [] true),(.slice [] [] true),(zq aI s.defs),(.str s.query),(.str s.mutation)] []) fun y21 =>
 exIs y21.1 (some 0) (cnd (chkL kY y21.2.1) (cnd (chkU [] y21.2.2)
 (some ((.tuple [(.agg [(i6 0),(.str []),(.slice [] [] false),(.slice [] [] false),(.slice [] [] false),(.slice [] [] false)]),(.bool false)]),[])) none) none)
 (exIs y21.1 none (cnd (chkL [.str,(.ptr 0 2 0),(.ptr 0 4 0),.bool,n6,n6,.str,sf,sf,sf,sf,sf,.str,.str] y21.2.1) (cnd (chkU [] y21.2.2)
 (some ((.tuple [(.agg [(zn y21.2.1 5),(zt y21.2.1 6),(zs y21.2.1 7),(zs y21.2.1 8),(zs y21.2.1 9),(zs y21.2.1 10)]),(zb y21.2.1 3)]),[])) none) none)
 (none)))) none
noncomputable def nW (s:GSchema) (name:Str):Int→Option (Int⊕(Unit⊕(Int×Str×(List Str)×(List GFieldDef)×(List Str)×(List GParam))))
 | i_8 =>
 cnd (decide (i_8<(List.length s.defs:Int)))
  (bnd (nthI s.defs i_8) fun y10 =>
  cnd (y10.name==name)
  (bnd (nthI s.defs i_8) fun y12 =>
  some (.inr (.inr (y12.kind,y12.name,y12.faces,y12.fields,y12.parts,y12.params))))
  (some (.inl (IntKind.wrap .i64 (i_8+1)))))
  (some (.inr (.inl ())))
abbrev aCT (s:GSchema) (name:Str) (a0 a1 a2 a3 a4 a5 a6 a7:PV):List PV:=[(.str name),(.ptr 0 2 0),(.ptr 0 4 0),a0,a1,a2,a3,a4,a5,a6,a7,(zq aI s.defs),(.str s.query),(.str s.mutation)]
abbrev aRc (s:GSchema) (name:Str) (st:Int) (l:List PV) (u:UP):Prop:=l=(aCT s name (.bool false) (i6 st) (i6 0) (.str []) (.slice [] [] true) (.slice [] [] true) (.slice [] [] true) (.slice [] [] true))∧u=[]
abbrev aRd (s:GSchema) (name:Str) (p:Unit⊕(Int×Str×(List Str)×(List GFieldDef)×(List Str)×(List GParam))) (r:EU):Prop:=elim p (fun (p:Unit)=>∃ (i_13:Int),r=(Ex.brk 0,(aCT s name (.bool false) (i6 i_13) (i6 0) (.str []) (.slice [] [] true) (.slice [] [] true) (.slice [] [] true) (.slice [] [] true)),[])) (fun (p:Int×Str×(List Str)×(List GFieldDef)×(List Str)×(List GParam))=>∃ (i_14:Int),r=(Ex.ret,(aCT s name (.bool true) (i6 i_14) (i6 p.1) (.str p.2.1) (zq PV.str p.2.2.1) (zq aK p.2.2.2.1) (zq PV.str p.2.2.2.2.1) (zq aQ p.2.2.2.2.2)),[]))
noncomputable def aD5 (s:GSchema) (name:Str):Option (GDef×Bool) :=
 bnd (aHK name) fun y2 =>
 cnd y2
 (some ((GDef.mk 0 name ([]:List Str) ([]:List GFieldDef) ([]:List Str) ([]:List GParam)),true))
 (bnd (bG (nW s name) 0) fun e21_2=>elim e21_2
 (fun p21 =>
 some ((GDef.mk 0 [] ([]:List Str) ([]:List GFieldDef) ([]:List Str) ([]:List GParam)),false))
 (fun p21 =>
 some ((GDef.mk p21.1 p21.2.1 p21.2.2.1 p21.2.2.2.1 p21.2.2.2.2.1 p21.2.2.2.2.2),true)))
def aUO:Decs:={decs:=[(8,.bool),(21,(.ref oS)),(29,(.ref oS))],loops:=[(4,[(4,6),(2,3)],⟨kY,[],[(some 0,kY,[]),(none,[.str,(.ptr 0 2 0),(.ptr 0 4 0),.bool,n6,n6,.str,sf,sf,sf,sf,sf,.str,.str],[])]⟩)]}
theorem aUP (O:Orc) (LP:LBs) (s:GSchema) (name:Str):eW 164 aUO Tryz.f164 O LP [(eS s),(.str name)] []=aFk O LP s name:=by kernel_rfl
theorem aLE (s:GSchema) (name:Str):Lok (aRc s name) (nW s name) (aFj O aE) (aRd s name):=by
 rintro i_8 l u ⟨rfl,rfl⟩
 simp only [nW,aFj,zd,zr]
 refine zG ?_
 try simp only [evs,tys]
 apply Imp.cnd
 ·refine zX aI aBh fun y10 _ => ?_
  try simp only [evs,tys]
  apply Imp.cnd
  ·refine zX aI aBh fun y12 _ => ?_
   try simp only [evs,tys]
   exact zT ⟨i_8,zE⟩
  ·exact zN
 ·exact zB ⟨i_8,zE⟩
theorem aRe (s:GSchema) (name:Str):Imp (aD5 s name) (aFk O aE s name) (Ri sI):=by
 simp only [aD5,aFk,zd,zr]
 try simp only [evs,tys]
 refine zC rfl fun y2 _ => ?_
 try simp only [zes,evs,tys]
 apply Imp.cnd
 ·exact zR
 ·refine zL (aLE s name) ?_
  rintro (p | ⟨b_15,b_16,b_17,b_18,b_19,b_20⟩) vy21 hy21
  ·try simp only [aO,aP]
   obtain ⟨i_13,rfl⟩:=hy21
   refine zH ?_
   try simp only [evs,tys]
   exact zR
  ·try simp only [aO,aP]
   obtain ⟨i_14,rfl⟩:=hy21
   refine Imp.exMiss rfl ?_
   refine zH ?_
   try simp only [evs,tys]
   exact zR
theorem aRf {s:GSchema} {name:Str} {r:GDef×Bool} (h:aD5 s name=some r):vZ s name=some r:=zV aNw (aRe s name) Tryz.func164 (aUP _ _ s name) h
end Go.Proofs.YtphmfillajagdaaGreat

import Derived.Test.YtphmfillajagdaaGreatGa
import Derived.Test.YtphmfillajagdaaGreatEd
import Derived.Test.YtphmfillajagdaaGreatEx
import Derived.LoopTactic
import Derived.WalkKit
import Derived.KernelRfl
import Derived.Test.YtphmfillajagdaaGreatGb
set_option maxRecDepth 100000
set_option linter.unusedVariables false
set_option linter.unusedSimpArgs false
set_option linter.unusedSimpArgs false
open Go Go.Ev Go.Ev.PV
namespace Go.Proofs.YtphmfillajagdaaGreat
abbrev eE:List Sh:=[.str,(.ptr 0 6 0),.bool,(.ptr 0 8 0),n6,n6,.str,sf,sf,sf,sf,.str,st',.str,n6,n6,st',sf,.str,.str]
def nS (O:Orc) (LP:LBs):cG:=fun s5 s5u=>cnd (chkL eE s5) (cnd (chkU [] s5u)
 (cnd (decide ((iv s5 4)<(List.length (ev s5 8):Int)))
 (bnd (ix 6 (zs s5 8) (zn s5 4)) fun x11=>cnd (chk (.ref bG) x11)
 (cnd ((sv (rf x11) 0)==(sv s5 0))
 (bnd (ix 6 (zs s5 8) (zn s5 4)) fun x13=>cnd (chk (.ref bG) x13)
 (some (.ret,(pu (pu (pu (pu (pu (pu (pu (rb eE s5) 2 (.bool true)) 11 (zt (rf x13) 0)) 12 (zs (rf x13) 1)) 13 (zt (rf x13) 2)) 14 (zn (rf x13) 3)) 15 (zn (rf x13) 4)) 16 (zs (rf x13) 5)),[])) none)
 (some (.nrm,(pu (rb eE s5) 4 (i6 (w6 ((iv s5 4)+1)))),[]))) none)
 (some (.brk 0,(rb eE s5),[]))) none) none
def aCg (O:Orc) (LP:LBs) (s:GSchema) (typ:Str) (name:Str):Option (PV×UP) :=
 cnd (name==([95,95,116,121,112,101,110,97,109,101]:Str))
 (aM O 112 [(eS s),(.str typ)] fun x1=>cnd (chk .bool x1)
 (cnd (aV x1)
 (some ((.tuple [(.agg [(.str name),(.slice [] [] false),(.str [83,116,114,105,110,103]),(i6 0),(i6 1),(.slice [] [] false)]),(.bool true)]),[]))
 (aM O 164 [(eS s),(.str typ)] fun x3=>cnd (chk (.tup [mW,.bool]) x3)
 (cnd ((iv (tg x3 0) 0) != 1)
 (cnd ((iv (tg x3 0) 0) != 2)
 (some ((.tuple [(.agg [(.str []),(.slice [] [] false),(.str []),(i6 0),(i6 0),(.slice [] [] false)]),(.bool false)]),[]))
 (bnd (LP (nS O LP) [(.str name),(.ptr 0 6 0),(.bool false),(.ptr 0 8 0),(i6 0),(zn (tg x3 0) 0),(zt (tg x3 0) 1),(zs (tg x3 0) 2),(zs (tg x3 0) 3),(zs (tg x3 0) 4),(zs (tg x3 0) 5),(.str []),(.slice [] [] true),(.str []),(i6 0),(i6 0),(.slice [] [] true),(zq aK s.defs),(.str s.query),(.str s.mutation)] []) fun y23 =>
 exIs y23.1 (some 0) (cnd (chkL eE y23.2.1) (cnd (chkU [] y23.2.2)
 (some ((.tuple [(.agg [(.str []),(.slice [] [] false),(.str []),(i6 0),(i6 0),(.slice [] [] false)]),(.bool false)]),[])) none) none)
 (exIs y23.1 none (cnd (chkL [.str,(.ptr 0 6 0),.bool,(.ptr 0 8 0),n6,n6,.str,sf,sf,sf,sf,.str,sf,.str,n6,n6,sf,sf,.str,.str] y23.2.1) (cnd (chkU [] y23.2.2)
 (some ((.tuple [(.agg [(zt y23.2.1 11),(zs y23.2.1 12),(zt y23.2.1 13),(zn y23.2.1 14),(zn y23.2.1 15),(zs y23.2.1 16)]),(zb y23.2.1 2)]),[])) none) none)
 (none))))
 (bnd (LP (nS O LP) [(.str name),(.ptr 0 6 0),(.bool false),(.ptr 0 8 0),(i6 0),(zn (tg x3 0) 0),(zt (tg x3 0) 1),(zs (tg x3 0) 2),(zs (tg x3 0) 3),(zs (tg x3 0) 4),(zs (tg x3 0) 5),(.str []),(.slice [] [] true),(.str []),(i6 0),(i6 0),(.slice [] [] true),(zq aK s.defs),(.str s.query),(.str s.mutation)] []) fun y42 =>
 exIs y42.1 (some 0) (cnd (chkL eE y42.2.1) (cnd (chkU [] y42.2.2)
 (some ((.tuple [(.agg [(.str []),(.slice [] [] false),(.str []),(i6 0),(i6 0),(.slice [] [] false)]),(.bool false)]),[])) none) none)
 (exIs y42.1 none (cnd (chkL [.str,(.ptr 0 6 0),.bool,(.ptr 0 8 0),n6,n6,.str,sf,sf,sf,sf,.str,sf,.str,n6,n6,sf,sf,.str,.str] y42.2.1) (cnd (chkU [] y42.2.2)
 (some ((.tuple [(.agg [(zt y42.2.1 11),(zs y42.2.1 12),(zt y42.2.1 13),(zn y42.2.1 14),(zn y42.2.1 15),(zs y42.2.1 16)]),(zb y42.2.1 2)]),[])) none) none)
 (none)))) none)) none)
 (aM O 164 [(eS s),(.str typ)] fun x43=>cnd (chk (.tup [mW,.bool]) x43)
 (cnd ((iv (tg x43 0) 0) != 1)
 (cnd ((iv (tg x43 0) 0) != 2)
 (some ((.tuple [(.agg [(.str []),(.slice [] [] false),(.str []),(i6 0),(i6 0),(.slice [] [] false)]),(.bool false)]),[]))
 (bnd (LP (nS O LP) [(.str name),(.ptr 0 6 0),(.bool false),(.ptr 0 8 0),(i6 0),(zn (tg x43 0) 0),(zt (tg x43 0) 1),(zs (tg x43 0) 2),(zs (tg x43 0) 3),(zs (tg x43 0) 4),(zs (tg x43 0) 5),(.str []),(.slice [] [] true),(.str []),(i6 0),(i6 0),(.slice [] [] true),(zq aK s.defs),(.str s.query),(.str s.mutation)] []) fun y63 =>
 exIs y63.1 (some 0) (cnd (chkL eE y63.2.1) (cnd (chkU [] y63.2.2)
 (some ((.tuple [(.agg [(.str []),(.slice [] [] false),(.str []),(i6 0),(i6 0),(.slice [] [] false)]),(.bool false)]),[])) none) none)
 (exIs y63.1 none (cnd (chkL [.str,(.ptr 0 6 0),.bool,(.ptr 0 8 0),n6,n6,.str,sf,sf,sf,sf,.str,sf,.str,n6,n6,sf,sf,.str,.str] y63.2.1) (cnd (chkU [] y63.2.2)
 (some ((.tuple [(.agg [(zt y63.2.1 11),(zs y63.2.1 12),(zt y63.2.1 13),(zn y63.2.1 14),(zn y63.2.1 15),(zs y63.2.1 16)]),(zb y63.2.1 2)]),[])) none) none)
 (none))))
 (bnd (LP (nS O LP) [(.str name),(.ptr 0 6 0),(.bool false),(.ptr 0 8 0),(i6 0),(zn (tg x43 0) 0),(zt (tg x43 0) 1),(zs (tg x43 0) 2),(zs (tg x43 0) 3),(zs (tg x43 0) 4),(zs (tg x43 0) 5),(.str []),(.slice [] [] true),(.str []),(i6 0),(i6 0),(.slice [] [] true),(zq aK s.defs),(.str s.query),(.str s.mutation)] []) fun y82 =>
 exIs y82.1 (some 0) (cnd (chkL eE y82.2.1) (cnd (chkU [] y82.2.2)
 (some ((.tuple [(.agg [(.str []),(.slice [] [] false),(.str []),(i6 0),(i6 0),(.slice [] [] false)]),(.bool false)]),[])) none) none)
 (exIs y82.1 none (cnd (chkL [.str,(.ptr 0 6 0),.bool,(.ptr 0 8 0),n6,n6,.str,sf,sf,sf,sf,.str,sf,.str,n6,n6,sf,sf,.str,.str] y82.2.1) (cnd (chkU [] y82.2.2)
 (some ((.tuple [(.agg [(zt y82.2.1 11),(zs y82.2.1 12),(zt y82.2.1 13),(zn y82.2.1 14),(zn y82.2.1 15),(zs y82.2.1 16)]),(zb y82.2.1 2)]),[])) none) none)
 (none)))) none)
noncomputable def eF (name:Str) (y4:GDef×Bool):Int→Option (Int⊕(Unit⊕(Str×(List GParam)×Str×Int×Int×(List GDir))))
 | i_10 =>
 cnd (decide (i_10<(List.length y4.1.fields:Int)))
  (bnd (nthI y4.1.fields i_10) fun y12 =>
  cnd (y12.name==name)
  (bnd (nthI y4.1.fields i_10) fun y14 =>
  some (.inr (.inr (y14.name,y14.params,y14.t.name,y14.t.lists,y14.t.musts,y14.dirs))))
  (some (.inl (IntKind.wrap .i64 (i_10+1)))))
  (some (.inr (.inl ())))
abbrev zO (s:GSchema) (name:Str) (y4:GDef×Bool) (a0 a1 a2 a3 a4 a5 a6 a7:PV):List PV:=[(.str name),(.ptr 0 6 0),a0,(.ptr 0 8 0),a1,(i6 y4.1.kind),(.str y4.1.name),(zq PV.str y4.1.faces),(zq aG y4.1.fields),(zq PV.str y4.1.parts),(zq aQ y4.1.params),a2,a3,a4,a5,a6,a7,(zq aK s.defs),(.str s.query),(.str s.mutation)]
abbrev aFi (s:GSchema) (name:Str) (y4:GDef×Bool) (st:Int) (l:List PV) (u:UP):Prop:=l=(zO s name y4 (.bool false) (i6 st) (.str []) (.slice [] [] true) (.str []) (i6 0) (i6 0) (.slice [] [] true))∧u=[]
abbrev aNi (s:GSchema) (name:Str) (y4:GDef×Bool) (p:Unit⊕(Str×(List GParam)×Str×Int×Int×(List GDir))) (r:EU):Prop:=elim p (fun (p:Unit)=>∃ (i_15:Int),r=(Ex.brk 0,(zO s name y4 (.bool false) (i6 i_15) (.str []) (.slice [] [] true) (.str []) (i6 0) (i6 0) (.slice [] [] true)),[])) (fun (p:Str×(List GParam)×Str×Int×Int×(List GDir))=>∃ (i_16:Int),r=(Ex.ret,(zO s name y4 (.bool true) (i6 i_16) (.str p.1) (zq aQ p.2.1) (.str p.2.2.1) (i6 p.2.2.2.1) (i6 p.2.2.2.2.1) (zq aU p.2.2.2.2.2)),[]))
noncomputable def aAQ (s:GSchema) (typ:Str) (name:Str):Option (GFieldDef×Bool) :=
 cnd (name==([95,95,116,121,112,101,110,97,109,101]:Str))
 (bnd (lJ s typ) fun y2 =>
 cnd y2
 (some ((GFieldDef.mk name ([]:List GParam) (GType.mk [83,116,114,105,110,103] 0 1) ([]:List GDir)),true))
 (bnd (vL s typ) fun y4 =>
 cnd (y4.1.kind != 1)
 (cnd (y4.1.kind != 2)
 (some ((GFieldDef.mk [] ([]:List GParam) (GType.mk [] 0 0) ([]:List GDir)),false))
 (bnd (bJ (eF name y4) 0) fun e23_2=>elim e23_2
 (fun p23 =>
 some ((GFieldDef.mk [] ([]:List GParam) (GType.mk [] 0 0) ([]:List GDir)),false))
 (fun p23 =>
 some ((GFieldDef.mk p23.1 p23.2.1 (GType.mk p23.2.2.1 p23.2.2.2.1 p23.2.2.2.2.1) p23.2.2.2.2.2),true))))
 (bnd (bJ (eF name y4) 0) fun e42_2=>elim e42_2
 (fun p42 =>
 some ((GFieldDef.mk [] ([]:List GParam) (GType.mk [] 0 0) ([]:List GDir)),false))
 (fun p42 =>
 some ((GFieldDef.mk p42.1 p42.2.1 (GType.mk p42.2.2.1 p42.2.2.2.1 p42.2.2.2.2.1) p42.2.2.2.2.2),true)))))
 (bnd (vL s typ) fun y44 =>
 cnd (y44.1.kind != 1)
 (cnd (y44.1.kind != 2)
 (some ((GFieldDef.mk [] ([]:List GParam) (GType.mk [] 0 0) ([]:List GDir)),false))
 (bnd (bJ (eF name y44) 0) fun e63_2=>elim e63_2
 (fun p63 =>
 some ((GFieldDef.mk [] ([]:List GParam) (GType.mk [] 0 0) ([]:List GDir)),false))
 (fun p63 =>
 some ((GFieldDef.mk p63.1 p63.2.1 (GType.mk p63.2.2.1 p63.2.2.2.1 p63.2.2.2.2.1) p63.2.2.2.2.2),true))))
 (bnd (bJ (eF name y44) 0) fun e82_2=>elim e82_2
 (fun p82 =>
 some ((GFieldDef.mk [] ([]:List GParam) (GType.mk [] 0 0) ([]:List GDir)),false))
 (fun p82 =>
 some ((GFieldDef.mk p82.1 p82.2.1 (GType.mk p82.2.2.1 p82.2.2.2.1 p82.2.2.2.2.1) p82.2.2.2.2.2),true))))
def aQq:Decs:={decs:=[(16,.bool),(24,(.tup [mW,.bool])),(46,(.ref bG)),(54,(.ref bG))],loops:=[(7,[(8,6),(6,6),(3,3)],⟨eE,[],[(some 0,eE,[]),(none,[.str,(.ptr 0 6 0),.bool,(.ptr 0 8 0),n6,n6,.str,sf,sf,sf,sf,.str,sf,.str,n6,n6,sf,sf,.str,.str],[])]⟩)]}
theorem aQr (O:Orc) (LP:LBs) (s:GSchema) (typ:Str) (name:Str):eW 117 aQq Tryz.f117 O LP [(eS s),(.str typ),(.str name)] []=aCg O LP s typ name:=by kernel_rfl
theorem oD (s:GSchema) (name:Str) (y4:GDef×Bool):∀ st l u,aFi s name y4 st l u→Imp (eF name y4 st) (nS O aE l u) (pF (aFi s name y4) (aNi s name y4)):=by
 rintro i_10 l u ⟨rfl,rfl⟩
 simp only [eF,nS,zd,zr]
 refine zG ?_
 try simp only [evs,tys]
 apply Imp.cnd
 ·refine zX aG cS fun y12 _ => ?_
  try simp only [evs,tys]
  apply Imp.cnd
  ·refine zX aG cS fun y14 _ => ?_
   try simp only [evs,tys]
   exact zT ⟨i_10,zE⟩
  ·exact zN
 ·exact zB ⟨i_10,zE⟩
theorem aNj (s:GSchema) (typ:Str) (name:Str):Imp (aAQ s typ name) (aCg O aE s typ name) (Ri oM):=by
 simp only [aAQ,aCg,zd,zr]
 try simp only [evs,tys]
 apply Imp.cnd
 ·refine zC rfl fun y2 _ => ?_
  try simp only [zes,evs,tys]
  apply Imp.cnd
  ·exact zR
  ·refine zC rfl fun y4 _ => ?_
   try simp only [zes,evs,tys]
   apply Imp.cnd
   ·apply Imp.cnd
    ·exact zR
    ·refine zL (oD s name y4) ?_
     rintro (p | ⟨b_17,b_18,b_19,b_20,b_21,b_22⟩) vy23 hy23
     ·try simp only [aO,aP]
      obtain ⟨i_15,rfl⟩:=hy23
      refine zH ?_
      try simp only [evs,tys]
      exact zR
     ·try simp only [aO,aP]
      obtain ⟨i_16,rfl⟩:=hy23
      refine Imp.exMiss rfl ?_
      refine zH ?_
      try simp only [evs,tys]
      exact zR
   ·refine zL (oD s name y4) ?_
    rintro (p | ⟨b_36,b_37,b_38,b_39,b_40,b_41⟩) vy42 hy42
    ·try simp only [aO,aP]
     obtain ⟨i_34,rfl⟩:=hy42
     refine zH ?_
     try simp only [evs,tys]
     exact zR
    ·try simp only [aO,aP]
     obtain ⟨i_35,rfl⟩:=hy42
     refine Imp.exMiss rfl ?_
     refine zH ?_
     try simp only [evs,tys]
     exact zR
 ·refine zC rfl fun y44 _ => ?_
  try simp only [zes,evs,tys]
  apply Imp.cnd
  ·apply Imp.cnd
   ·exact zR
   ·refine zL (oD s name y44) ?_
    rintro (p | ⟨b_57,b_58,b_59,b_60,b_61,b_62⟩) vy63 hy63
    ·try simp only [aO,aP]
     obtain ⟨i_55,rfl⟩:=hy63
     refine zH ?_
     try simp only [evs,tys]
     exact zR
    ·try simp only [aO,aP]
     obtain ⟨i_56,rfl⟩:=hy63
     refine Imp.exMiss rfl ?_
     refine zH ?_
     try simp only [evs,tys]
     exact zR
  ·refine zL (oD s name y44) ?_
   rintro (p | ⟨b_76,b_77,b_78,b_79,b_80,b_81⟩) vy82 hy82
   ·try simp only [aO,aP]
    obtain ⟨i_74,rfl⟩:=hy82
    refine zH ?_
    try simp only [evs,tys]
    exact zR
   ·try simp only [aO,aP]
    obtain ⟨i_75,rfl⟩:=hy82
    refine Imp.exMiss rfl ?_
    refine zH ?_
    try simp only [evs,tys]
    exact zR
theorem aNk {s:GSchema} {typ:Str} {name:Str} {r:GFieldDef×Bool} (h:aAQ s typ name=some r):aF3 s typ name=some r:=zV aJg (aNj s typ name) Tryz.func117 (aQr _ _ s typ name) h
def aEA (O:Orc) (LP:LBs) (s:GSchema) (name:Str):Option (PV×UP) :=
 aM O 159 [(eS s),(.str name),(i6 0),(i6 4),(i6 4)] fun x1=>cnd (chk .bool x1)
 (some ((.bool (aV x1)),[])) none
noncomputable def aDq (s:GSchema) (name:Str):Option Bool :=
 bnd (aWs s name 0 4 4) fun y2 =>
 some y2
def aT8:Decs:={decs:=[(7,.bool)]}
theorem aT9 (O:Orc) (LP:LBs) (s:GSchema) (name:Str):eW 118 aT8 Tryz.f118 O LP [(eS s),(.str name)] []=aEA O LP s name:=by kernel_rfl
theorem aQs (s:GSchema) (name:Str):Imp (aDq s name) (aEA O aE s name) (Ri aA):=by
 simp only [aDq,aEA,zd,zr]
 try simp only [evs,tys]
 refine zC rfl fun y2 _ => ?_
 try simp only [zes,evs,tys]
 exact zR
theorem aQt {s:GSchema} {name:Str} {r:Bool} (h:aDq s name=some r):aKv s name=some r:=zV aC (aQs s name) Tryz.func118 (aT9 _ _ s name) h
def rG (O:Orc) (LP:LBs) (s:GSchema) (name:Str):Option (PV×UP) :=
 aM O 159 [(eS s),(.str name),(i6 1),(i6 2),(i6 3)] fun x1=>cnd (chk .bool x1)
 (some ((.bool (aV x1)),[])) none
noncomputable def oE (s:GSchema) (name:Str):Option Bool :=
 bnd (aWs s name 1 2 3) fun y2 =>
 some y2
def aHi:Decs:={decs:=[(7,.bool)]}
theorem aHj (O:Orc) (LP:LBs) (s:GSchema) (name:Str):eW 112 aHi Tryz.f112 O LP [(eS s),(.str name)] []=rG O LP s name:=by kernel_rfl
theorem aFI (s:GSchema) (name:Str):Imp (oE s name) (rG O aE s name) (Ri aA):=by
 simp only [oE,rG,zd,zr]
 try simp only [evs,tys]
 refine zC rfl fun y2 _ => ?_
 try simp only [zes,evs,tys]
 exact zR
theorem aFJ {s:GSchema} {name:Str} {r:Bool} (h:oE s name=some r):lJ s name=some r:=zV aC (aFI s name) Tryz.func112 (aHj _ _ s name) h
abbrev kW:List Sh:=[.str,(.ptr 0 2 0),(.ptr 0 4 0),.bool,n6,.str,.str,st',st',sf,sf]
def aEB (O:Orc) (LP:LBs):cG:=fun s1 s1u=>cnd (chkL kW s1) (cnd (chkU [] s1u)
 (cnd (decide ((iv s1 4)<(List.length (ev s1 10):Int)))
 (bnd (ix 4 (zs s1 10) (zn s1 4)) fun x7=>cnd (chk (.ref jO) x7)
 (cnd ((sv (rf x7) 0)==(sv s1 0))
 (bnd (ix 4 (zs s1 10) (zn s1 4)) fun x9=>cnd (chk (.ref jO) x9)
 (some (.ret,(pu (pu (pu (pu (pu (rb kW s1) 3 (.bool true)) 5 (zt (rf x9) 0)) 6 (zt (rf x9) 1)) 7 (zs (rf x9) 2)) 8 (zs (rf x9) 3)),[])) none)
 (some (.nrm,(pu (rb kW s1) 4 (i6 (w6 ((iv s1 4)+1)))),[]))) none)
 (some (.brk 0,(rb kW s1),[]))) none) none
def aEC (O:Orc) (LP:LBs) (d:GDoc) (name:Str):Option (PV×UP) :=
 bnd (LP (aEB O LP) [(.str name),(.ptr 0 2 0),(.ptr 0 4 0),(.bool false),(i6 0),(.str []),(.str []),(.slice [] [] true),(.slice [] [] true),(zq bL d.ops),(zq aJ d.frags)] []) fun y17 =>
 exIs y17.1 (some 0) (cnd (chkL kW y17.2.1) (cnd (chkU [] y17.2.2)
 (some ((.tuple [(.agg [(.str []),(.str []),(.slice [] [] false),(.slice [] [] false)]),(.bool false)]),[])) none) none)
 (exIs y17.1 none (cnd (chkL [.str,(.ptr 0 2 0),(.ptr 0 4 0),.bool,n6,.str,.str,sf,sf,sf,sf] y17.2.1) (cnd (chkU [] y17.2.2)
 (some ((.tuple [(.agg [(zt y17.2.1 5),(zt y17.2.1 6),(zs y17.2.1 7),(zs y17.2.1 8)]),(zb y17.2.1 3)]),[])) none) none)
 (none))
noncomputable def nT (d:GDoc) (name:Str):Int→Option (Int⊕(Unit⊕(Str×Str×(List GDir)×(List GSel))))
 | i_6 =>
 cnd (decide (i_6<(List.length d.frags:Int)))
  (bnd (nthI d.frags i_6) fun y8 =>
  cnd (y8.name==name)
  (bnd (nthI d.frags i_6) fun y10 =>
  some (.inr (.inr (y10.name,y10.on_,y10.dirs,y10.sels))))
  (some (.inl (IntKind.wrap .i64 (i_6+1)))))
  (some (.inr (.inl ())))
abbrev aQu (d:GDoc) (name:Str) (st:Int) (l:List PV) (u:UP):Prop:=l=[(.str name),(.ptr 0 2 0),(.ptr 0 4 0),(.bool false),(i6 st),(.str []),(.str []),(.slice [] [] true),(.slice [] [] true),(zq bL d.ops),(zq aJ d.frags)]∧u=[]
abbrev aQv (d:GDoc) (name:Str) (p:Unit⊕(Str×Str×(List GDir)×(List GSel))) (r:EU):Prop:=elim p (fun (p:Unit)=>∃ (i_11:Int),r=(Ex.brk 0,[(.str name),(.ptr 0 2 0),(.ptr 0 4 0),(.bool false),(i6 i_11),(.str []),(.str []),(.slice [] [] true),(.slice [] [] true),(zq bL d.ops),(zq aJ d.frags)],[])) (fun q2=>(fun (p:Str×Str×(List GDir)×(List GSel))=>∃ (i_12:Int),r=(Ex.ret,[(.str name),(.ptr 0 2 0),(.ptr 0 4 0),(.bool true),(i6 i_12),(.str p.1),(.str p.2.1),(zq aU p.2.2.1),(zq aF p.2.2.2),(zq bL d.ops),(zq aJ d.frags)],[])) q2)
noncomputable def aDr (d:GDoc) (name:Str):Option (GFrag×Bool) :=
 bnd (bJ (nT d name) 0) fun e17_2=>elim e17_2
 (fun p17 =>
 some ((GFrag.mk [] [] ([]:List GDir) ([]:List GSel)),false))
 (fun p17 =>
 some ((GFrag.mk p17.1 p17.2.1 p17.2.2.1 p17.2.2.2),true))
def aUa:Decs:={decs:=[(17,(.ref jO)),(25,(.ref jO))],loops:=[(2,[(4,4),(2,2)],⟨kW,[],[(some 0,kW,[]),(none,[.str,(.ptr 0 2 0),(.ptr 0 4 0),.bool,n6,.str,.str,sf,sf,sf,sf],[])]⟩)]}
theorem aUb (O:Orc) (LP:LBs) (d:GDoc) (name:Str):eW 113 aUa Tryz.f113 O LP [(eD d),(.str name)] []=aEC O LP d name:=by kernel_rfl
theorem aKM (d:GDoc) (name:Str):Lok (aQu d name) (nT d name) (aEB O aE) (aQv d name):=by
 rintro i_6 l u ⟨rfl,rfl⟩
 simp only [nT,aEB,zd,zr]
 refine zG ?_
 try simp only [evs,tys]
 apply Imp.cnd
 ·refine zX aJ mM fun y8 _ => ?_
  try simp only [evs,tys]
  apply Imp.cnd
  ·refine zX aJ mM fun y10 _ => ?_
   try simp only [evs,tys]
   exact zT ⟨i_6,zE⟩
  ·exact zN
 ·exact zB ⟨i_6,zE⟩
theorem aQw (d:GDoc) (name:Str):Imp (aDr d name) (aEC O aE d name) (Ri aAG):=by
 simp only [aDr,aEC,zd,zr]
 try simp only [evs,tys]
 refine zL (aKM d name) ?_
 rintro (p | ⟨b_13,b_14,b_15,b_16⟩) vy17 hy17
 ·try simp only [aO,aP]
  obtain ⟨i_11,rfl⟩:=hy17
  refine zH ?_
  try simp only [evs,tys]
  exact zR
 ·try simp only [aO,aP]
  obtain ⟨i_12,rfl⟩:=hy17
  refine Imp.exMiss rfl ?_
  refine zH ?_
  try simp only [evs,tys]
  exact zR
theorem aQx {d:GDoc} {name:Str} {r:GFrag×Bool} (h:aDr d name=some r):aKw d name=some r:=zV aWn (aQw d name) Tryz.func113 (aUb _ _ d name) h
open Go Go.Ev Go.Ev.PV
abbrev eG:List Sh:=[(.ptr 0 2 0),st',(.ptr 0 6 0),n6,n6,.str,sf,sf,sf,sf,sf,.str,.str]
def aCh (O:Orc) (LP:LBs):cG:=fun s3 s3u=>cnd (chkL eG s3) (cnd (chkU [] s3u)
 (cnd (decide ((iv s3 3)<(List.length (ev s3 9):Int)))
 (cnd ((iv s3 4)==5)
 (bnd (ix 10 (zs s3 9) (zn s3 3)) fun x12=>cnd (chk (.ref jR) x12)
 (cnd ((iv (rf x12) 2)==0)
 (cnd ((iv (rf x12) 3)==1)
 (aM O 159 [(.agg [(zs s3 10),(zt s3 11),(zt s3 12)]),(zt (rf x12) 1),(i6 5),(i6 5),(i6 5)] fun x14=>cnd (chk .bool x14)
 (cnd (aV x14)
 (bnd (apd 1 (zo s3 1) (.slice [(zt (rf x12) 1)] [] true)) fun x16=>cnd (chk st' x16)
 (some (.nrm,(pu (pu (rb eG s3) 1 (.slice (esV x16) [] true)) 3 (i6 (w6 ((iv s3 3)+1)))),[])) none)
 (some (.nrm,(pu (rb eG s3) 3 (i6 (w6 ((iv s3 3)+1)))),[]))) none)
 (some (.nrm,(pu (rb eG s3) 3 (i6 (w6 ((iv s3 3)+1)))),[])))
 (some (.nrm,(pu (rb eG s3) 3 (i6 (w6 ((iv s3 3)+1)))),[]))) none)
 (some (.brk 0,(rb eG s3),[])))
 (some (.brk 0,(rb eG s3),[]))) none) none
def aCi (O:Orc) (LP:LBs) (s:GSchema) (name:Str):Option (PV×UP) :=
 aM O 164 [(eS s),(.str name)] fun x1=>cnd (chk (.tup [mW,.bool]) x1)
 (bnd (LP (aCh O LP) [(.ptr 0 2 0),(.slice [] [] true),(.ptr 0 6 0),(i6 0),(zn (tg x1 0) 0),(zt (tg x1 0) 1),(zs (tg x1 0) 2),(zs (tg x1 0) 3),(zs (tg x1 0) 4),(zs (tg x1 0) 5),(zq aK s.defs),(.str s.query),(.str s.mutation)] []) fun y20 =>
 exIs y20.1 (some 0) (cnd (chkL eG y20.2.1) (cnd (chkU [] y20.2.2)
 (some ((zo y20.2.1 1),[])) none) none)
 (none)) none
noncomputable def sO (s:GSchema) (name:Str) (y2:GDef×Bool):((List Str)×Int)→Option (((List Str)×Int)⊕((List Str)))
 | (out_10,i_11) =>
 cnd (decide (i_11<(List.length y2.1.params:Int)))
  (cnd (y2.1.kind==5)
  (bnd (nthI y2.1.params i_11) fun y13 =>
  cnd (y13.t.lists==0)
   (cnd (y13.t.musts==1)
   (bnd (aWs s y13.t.name 5 5 5) fun y15 =>
   cnd y15
    (bnd (tapp out_10 [y13.t.name]) fun y17 =>
    some (.inl (y17,(IntKind.wrap .i64 (i_11+1)))))
    (some (.inl (out_10,(IntKind.wrap .i64 (i_11+1))))))
   (some (.inl (out_10,(IntKind.wrap .i64 (i_11+1))))))
   (some (.inl (out_10,(IntKind.wrap .i64 (i_11+1))))))
  (some (.inr out_10)))
  (some (.inr out_10))
abbrev aFj (s:GSchema) (name:Str) (y2:GDef×Bool) (a0 a1:PV):List PV:=[(.ptr 0 2 0),a0,(.ptr 0 6 0),a1,(i6 y2.1.kind),(.str y2.1.name),(zq PV.str y2.1.faces),(zq aG y2.1.fields),(zq PV.str y2.1.parts),(zq aQ y2.1.params),(zq aK s.defs),(.str s.query),(.str s.mutation)]
abbrev aNl (s:GSchema) (name:Str) (y2:GDef×Bool) (st:(List Str)×Int) (l:List PV) (u:UP):Prop:=l=(aFj s name y2 (zp PV.str st.1) (i6 st.2))∧u=[]
abbrev aNm (s:GSchema) (name:Str) (y2:GDef×Bool) (p:(List Str)) (r:EU):Prop:=∃ (i_19:Int),r=(Ex.brk 0,(aFj s name y2 (zp PV.str p) (i6 i_19)),[])
noncomputable def uM (s:GSchema) (name:Str):Option (List Str) :=
 bnd (vL s name) fun y2 =>
 bnd (bJ (sO s name y2) ([],0)) fun out_18 =>
 some out_18
def aQy:Decs:={decs:=[(13,(.tup [mW,.bool])),(31,(.ref jR)),(46,.bool),(52,st')],loops:=[(4,[(6,6),(2,3)],⟨eG,[],[(some 0,eG,[])]⟩)]}
theorem aQz (O:Orc) (LP:LBs) (s:GSchema) (name:Str):eW 166 aQy Tryz.f166 O LP [(eS s),(.str name)] []=aCi O LP s name:=by kernel_rfl
theorem aIs (s:GSchema) (name:Str) (y2:GDef×Bool):Lok (aNl s name y2) (sO s name y2) (aCh O aE) (aNm s name y2):=by
 rintro ⟨out_10,i_11⟩ l u ⟨rfl,rfl⟩
 simp only [sO,aCh,zd,zr]
 refine zG ?_
 try simp only [evs,tys]
 apply Imp.cnd
 ·apply Imp.cnd
  ·refine zX aQ nK fun y13 _ => ?_
   try simp only [evs,tys]
   apply Imp.cnd
   ·apply Imp.cnd
    ·refine zC rfl fun y15 _ => ?_
     try simp only [zes,evs,tys]
     apply Imp.cnd
     ·refine Imp.op (f:=fun a => .slice (List.map PV.str a) [] true) (fun a h=>wK (enc:=PV.str) zI zI (fun a=>by first | rfl | simp only [evs,tys,evc]) h) (fun a=>rfl) fun y17 hy17 => ?_
      try simp only [evs,tys]
      exact zN
     ·exact zN
    ·exact zN
   ·exact zN
  ·exact zB ⟨i_11,zE⟩
 ·exact zB ⟨i_11,zE⟩
theorem aNn (s:GSchema) (name:Str):Imp (uM s name) (aCi O aE s name) (Ri iL):=by
 simp only [uM,aCi,zd,zr]
 try simp only [evs,tys]
 refine zC rfl fun y2 _ => ?_
 try simp only [zes,evs,tys]
 refine zL (aIs s name y2) ?_
 rintro out_18 _ ⟨i_19,rfl⟩
 refine zH ?_
 try simp only [evs,tys]
 exact zR
theorem aNo {s:GSchema} {name:Str} {r:List Str} (h:uM s name=some r):aF4 s name=some r:=zV yL (aNn s name) Tryz.func166 (aQz _ _ s name) h
abbrev jN:List Sh:=[sf,.str,.bool,n6]
def aHk (O:Orc) (LP:LBs):cG:=fun s1 s1u=>cnd (chkL jN s1) (cnd (chkU [] s1u)
 (cnd (decide ((iv s1 3)<(List.length (ev s1 0):Int)))
 (bnd (ix 1 (zs s1 0) (zn s1 3)) fun x5=>cnd (chk (.ref .str) x5)
 (cnd ((strV (refV x5))==(sv s1 1))
 (some (.ret,(pu (rb jN s1) 2 (.bool true)),[]))
 (some (.nrm,(pu (rb jN s1) 3 (i6 (w6 ((iv s1 3)+1)))),[]))) none)
 (some (.brk 0,(rb jN s1),[]))) none) none
def aHl (O:Orc) (LP:LBs) (l0:List Str) (s:Str):Option (PV×UP) :=
 bnd (LP (aHk O LP) [(zq PV.str l0),(.str s),(.bool false),(i6 0)] []) fun y9 =>
 exIs y9.1 (some 0) (cnd (chkL jN y9.2.1) (cnd (chkU [] y9.2.2)
 (some ((.bool false),[])) none) none)
 (exIs y9.1 none (cnd (chkL jN y9.2.1) (cnd (chkU [] y9.2.2)
 (some ((zb y9.2.1 2),[])) none) none)
 (none))
noncomputable def qK (l0:List Str) (s:Str):Int→Option (Int⊕(Unit⊕Unit))
 | i_4 =>
 cnd (decide (i_4<(List.length l0:Int)))
  (bnd (nthI l0 i_4) fun y6 =>
  cnd (y6==s)
  (some (.inr (.inr ())))
  (some (.inl (IntKind.wrap .i64 (i_4+1)))))
  (some (.inr (.inl ())))
abbrev aUc (l0:List Str) (s:Str) (st:Int) (l:List PV) (u:UP):Prop:=l=[(zq PV.str l0),(.str s),(.bool false),(i6 st)]∧u=[]
abbrev aUd (l0:List Str) (s:Str) (p:Unit⊕Unit) (r:EU):Prop:=elim p (fun (p:Unit)=>∃ (i_7:Int),r=(Ex.brk 0,[(zq PV.str l0),(.str s),(.bool false),(i6 i_7)],[])) (fun q2=>(fun (p:Unit)=>∃ (i_8:Int),r=(Ex.ret,[(zq PV.str l0),(.str s),(.bool true),(i6 i_8)],[])) q2)
noncomputable def aF8 (l0:List Str) (s:Str):Option Bool :=
 bnd (bJ (qK l0 s) 0) fun e9_2=>elim e9_2
 (fun p9 =>
 some false)
 (fun p9 =>
 some true)
def aWv:Decs:={decs:=[(14,(.ref .str))],loops:=[(2,[],⟨jN,[],[(some 0,jN,[]),(none,jN,[])]⟩)]}
theorem aWw (O:Orc) (LP:LBs) (l0:List Str) (s:Str):eW 29 aWv Tryz.f29 O LP [(zq PV.str l0),(.str s)] []=aHl O LP l0 s:=by kernel_rfl
theorem aNp (l0:List Str) (s:Str):Lok (aUc l0 s) (qK l0 s) (aHk O aE) (aUd l0 s):=by
 rintro i_4 l u ⟨rfl,rfl⟩
 simp only [qK,aHk,zd,zr]
 refine zG ?_
 try simp only [evs,tys]
 apply Imp.cnd
 ·refine zX PV.str (fun _=>rfl) fun y6 _ => ?_
  try simp only [evs,tys]
  apply Imp.cnd
  ·exact zT ⟨i_4,zE⟩
  ·exact zN
 ·exact zB ⟨i_4,zE⟩
theorem aUe (l0:List Str) (s:Str):Imp (aF8 l0 s) (aHl O aE l0 s) (Ri aA):=by
 simp only [aF8,aHl,zd,zr]
 try simp only [evs,tys]
 refine zL (aNp l0 s) ?_
 rintro (p | p) vy9 hy9
 ·try simp only [aO,aP]
  obtain ⟨i_7,rfl⟩:=hy9
  refine zH ?_
  try simp only [evs,tys]
  exact zR
 ·try simp only [aO,aP]
  obtain ⟨i_8,rfl⟩:=hy9
  refine Imp.exMiss rfl ?_
  refine zH ?_
  try simp only [evs,tys]
  exact zR
theorem aUf {l0:List Str} {s:Str} {r:Bool} (h:aF8 l0 s=some r):aBj l0 s=some r:=zV aC (aUe l0 s) Tryz.func29 (aWw _ _ l0 s) h
def vV (O:Orc) (LP:LBs) (l0:List GSel):Option (PV×UP) :=
 aM O 183 [(zq aF l0),(.slice [] [] true)] fun x1=>cnd (chk st' x1)
 (some ((.slice (esV x1) [] true),[])) none
noncomputable def sP (l0:List GSel):Option (List Str) :=
 bnd (jM l0 ([]:List Str)) fun y2 =>
 some y2
def aKN:Decs:={decs:=[(4,st')]}
theorem aKO (O:Orc) (LP:LBs) (l0:List GSel):eW 182 aKN Tryz.f182 O LP [(zq aF l0)] []=vV O LP l0:=by kernel_rfl
theorem aIt (l0:List GSel):Imp (sP l0) (vV O aE l0) (Ri iL):=by
 simp only [sP,vV,zd,zr]
 try simp only [evs,tys]
 refine zC rfl fun y2 _ => ?_
 try simp only [zes,evs,tys]
 exact zR
theorem aIu {l0:List GSel} {r:List Str} (h:sP l0=some r):aEa l0=some r:=zV yL (aIt l0) Tryz.func182 (aKO _ _ l0) h
def vW (O:Orc) (LP:LBs):cG:=fun s1 s1u=>cnd (chkL [sf,st',n6] s1) (cnd (chkU [] s1u)
 (cnd (decide ((iv s1 2)<(List.length (ev s1 0):Int)))
 (bnd (ix 7 (zs s1 0) (zn s1 2)) fun x26=>cnd (chk (.ref pW) x26)
 (cnd ((iv (rf x26) 0)==1)
 (bnd (ix 7 (zs s1 0) (zn s1 2)) fun x28=>cnd (chk (.ref pW) x28)
 (aM O 29 [(zs s1 1),(zt (rf x28) 2)] fun x30=>cnd (chk .bool x30)
 (cnd (!(aV x30))
 (bnd (ix 7 (zs s1 0) (zn s1 2)) fun x32=>cnd (chk (.ref pW) x32)
 (bnd (apd 1 (zo s1 1) (.slice [(zt (rf x32) 2)] [] true)) fun x34=>cnd (chk st' x34)
 (bnd (ix 7 (zs s1 0) (zn s1 2)) fun x36=>cnd (chk (.ref pW) x36)
 (aM O 183 [(zs (rf x36) 6),(.slice (esV x34) [] true)] fun x38=>cnd (chk st' x38)
 (some (.nrm,[(zs s1 0),(.slice (esV x38) [] true),(i6 (w6 ((iv s1 2)+1)))],[])) none) none) none) none)
 (bnd (ix 7 (zs s1 0) (zn s1 2)) fun x40=>cnd (chk (.ref pW) x40)
 (aM O 183 [(zs (rf x40) 6),(zo s1 1)] fun x42=>cnd (chk st' x42)
 (some (.nrm,[(zs s1 0),(.slice (esV x42) [] true),(i6 (w6 ((iv s1 2)+1)))],[])) none) none)) none) none)
 (bnd (ix 7 (zs s1 0) (zn s1 2)) fun x44=>cnd (chk (.ref pW) x44)
 (aM O 183 [(zs (rf x44) 6),(zo s1 1)] fun x46=>cnd (chk st' x46)
 (some (.nrm,[(zs s1 0),(.slice (esV x46) [] true),(i6 (w6 ((iv s1 2)+1)))],[])) none) none)) none)
 (some (.brk 0,[(zs s1 0),(zo s1 1),(zn s1 2)],[]))) none) none
def vX (O:Orc) (LP:LBs) (l0:List GSel) (out0:List Str):Option (PV×UP) :=
 bnd (LP (vW O LP) [(zq aF l0),(zp PV.str out0),(i6 0)] []) fun y50 =>
 exIs y50.1 (some 0) (cnd (chkL [sf,st',n6] y50.2.1) (cnd (chkU [] y50.2.2)
 (some ((zo y50.2.1 1),[])) none) none)
 (none)
noncomputable def fR (l0:List GSel):((List Str)×Int)→Option (((List Str)×Int)⊕((List Str)))
 | (out_24,i_25) =>
 cnd (decide (i_25<(List.length l0:Int)))
  (bnd (nthI l0 i_25) fun y27 =>
  cnd (y27.kind==1)
  (bnd (nthI l0 i_25) fun y29 =>
  bnd (aBj out_24 y29.name) fun y31 =>
  cnd (!y31)
   (bnd (nthI l0 i_25) fun y33 =>
   bnd (tapp out_24 [y33.name]) fun y35 =>
   bnd (nthI l0 i_25) fun y37 =>
   bnd (jM y37.sels y35) fun y39 =>
   some (.inl (y39,(IntKind.wrap .i64 (i_25+1)))))
   (bnd (nthI l0 i_25) fun y41 =>
   bnd (jM y41.sels out_24) fun y43 =>
   some (.inl (y43,(IntKind.wrap .i64 (i_25+1))))))
  (bnd (nthI l0 i_25) fun y45 =>
  bnd (jM y45.sels out_24) fun y47 =>
  some (.inl (y47,(IntKind.wrap .i64 (i_25+1))))))
  (some (.inr out_24))
abbrev aIv (l0:List GSel) (st:(List Str)×Int) (l:List PV) (u:UP):Prop:=l=[(zq aF l0),(zp PV.str st.1),(i6 st.2)]∧u=[]
abbrev aIw (l0:List GSel) (p:(List Str)) (r:EU):Prop:=(fun (p:(List Str))=>∃ (i_49:Int),r=(Ex.brk 0,[(zq aF l0),(zp PV.str p),(i6 i_49)],[])) p
noncomputable def oT (l0:List GSel) (out0:List Str):Option (List Str) :=
 bnd (bJ (fR l0) (out0,0)) fun out_48 =>
 some out_48
def aKP:Decs:={decs:=[(14,(.ref pW)),(22,(.ref pW)),(25,.bool),(31,(.ref pW)),(35,st'),(38,(.ref pW)),(42,st')],loops:=[(2,[],⟨[sf,st',n6],[],[(some 0,[sf,st',n6],[])]⟩)]}
theorem aKQ (O:Orc) (LP:LBs) (l0:List GSel) (out0:List Str):eW 183 aKP Tryz.f183 O LP [(zq aF l0),(zp PV.str out0)] []=vX O LP l0 out0:=by kernel_rfl
theorem aFK (l0:List GSel):Lok (aIv l0) (fR l0) (vW O aE) (aIw l0):=by
 rintro ⟨out_24,i_25⟩ l u ⟨rfl,rfl⟩
 simp only [fR,vW,zd,zr]
 refine zG ?_
 try simp only [evs,tys]
 apply Imp.cnd
 ·refine zX aF jI fun y27 _ => ?_
  try simp only [evs,tys]
  apply Imp.cnd
  ·refine zX aF jI fun y29 _ => ?_
   try simp only [evs,tys]
   refine zC rfl fun y31 _ => ?_
   try simp only [zes,evs,tys]
   apply Imp.cnd
   ·refine zX aF jI fun y33 _ => ?_
    try simp only [evs,tys]
    refine Imp.op (f:=fun a => .slice (List.map PV.str a) [] true) (fun a h=>wK (enc:=PV.str) zI zI (fun a=>by first | rfl | simp only [evs,tys,evc]) h) (fun a=>rfl) fun y35 hy35 => ?_
    try simp only [evs,tys]
    refine zX aF jI fun y37 _ => ?_
    try simp only [evs,tys]
    refine zC rfl fun y39 _ => ?_
    try simp only [zes,evs,tys]
    exact zN
   ·refine zX aF jI fun y41 _ => ?_
    try simp only [evs,tys]
    refine zC rfl fun y43 _ => ?_
    try simp only [zes,evs,tys]
    exact zN
  ·refine zX aF jI fun y45 _ => ?_
   try simp only [evs,tys]
   refine zC rfl fun y47 _ => ?_
   try simp only [zes,evs,tys]
   exact zN
 ·exact zB ⟨i_25,zE⟩
theorem aIy (l0:List GSel) (out0:List Str):Imp (oT l0 out0) (vX O aE l0 out0) (Ri iL):=by
 simp only [oT,vX,zd,zr]
 try simp only [evs,tys]
 refine zL (aFK l0) ?_
 rintro out_48 _ ⟨i_49,rfl⟩
 refine zH ?_
 try simp only [evs,tys]
 exact zR
theorem aBk {l0:List GSel} {out0:List Str} {r:List Str} (h:oT l0 out0=some r):jM l0 out0=some r:=zV yL (aIy l0 out0) Tryz.func183 (aKQ _ _ l0 out0) h
def rH (O:Orc) (LP:LBs) (t:GType):Option (PV×UP) :=
 aM O 98 [(.str t.name)] fun x1=>cnd (chk .bool x1)
 (cnd (aV x1)
 (cnd (decide (t.lists≥0))
 (cnd (decide (t.lists≤4))
 (cnd (decide (t.musts≥0))
 (bnd (bin .shl (i6 2) (.int .u64 (IntKind.wrap .u64 t.lists))) fun x3=>cnd (chk n6 x3)
 (some ((.bool (decide (t.musts<(intV x3)))),[])) none)
 (some ((.bool false),[])))
 (some ((.bool false),[])))
 (some ((.bool false),[])))
 (some ((.bool false),[]))) none
noncomputable def jY (t:GType):Option Bool :=
 bnd (aPx t.name) fun y2 =>
 cnd y2
 (cnd (decide (t.lists≥0))
 (cnd (decide (t.lists≤4))
 (cnd (decide (t.musts≥0))
 (bnd (tshl .i64 2 (IntKind.wrap .u64 t.lists)) fun y4 =>
 some (decide (t.musts<y4)))
 (some false))
 (some false))
 (some false))
 (some false)
def aHm:Decs:={decs:=[(5,.bool),(27,n6)]}
theorem aHn (O:Orc) (LP:LBs) (t:GType):eW 101 aHm Tryz.f101 O LP [(eT t)] []=rH O LP t:=by kernel_rfl
theorem aFL (t:GType):Imp (jY t) (rH O aE t) (Ri aA):=by
 simp only [jY,rH,zd,zr]
 try simp only [evs,tys]
 refine zC rfl fun y2 _ => ?_
 try simp only [zes,evs,tys]
 apply Imp.cnd
 ·apply Imp.cnd
  ·apply Imp.cnd
   ·apply Imp.cnd
    ·refine Imp.op (f:=fun a => .int _ a) (fun a h=>bBz h) (fun a=>rfl) fun y4 hy4 => ?_
     try simp only [evs,tys]
     exact zR
    ·exact zR
   ·exact zR
  ·exact zR
 ·exact zR
theorem aFM {t:GType} {r:Bool} (h:jY t=some r):oN t=some r:=zV aC (aFL t) Tryz.func101 (aHn _ _ t) h
def aED (O:Orc) (LP:LBs) (t:GType):Option (PV×UP) :=
 aM O 101 [(eT t)] fun x1=>cnd (chk .bool x1)
 (cnd (!(aV x1))
 (some ((.tuple [(.agg [(.str []),(i6 0),(i6 0)]),(.bool false)]),[]))
 (cnd (t.lists==0)
 (some ((.tuple [(.agg [(.str []),(i6 0),(i6 0)]),(.bool false)]),[]))
 (some ((.tuple [(.agg [(.str t.name),(i6 (w6 (t.lists-1))),(i6 (Int.fdiv t.musts (2 ^ min (Int.toNat 1) 64)))]),(.bool true)]),[])))) none
noncomputable def aDs (t:GType):Option (GType×Bool) :=
 bnd (oN t) fun y2 =>
 cnd (!y2)
 (some ((GType.mk [] 0 0),false))
 (cnd (t.lists==0)
 (some ((GType.mk [] 0 0),false))
 (some ((GType.mk t.name (IntKind.wrap .i64 (t.lists-1)) (Int.fdiv t.musts (2 ^ min (Int.toNat 1) 64))),true)))
def aUg:Decs:={decs:=[(5,.bool)]}
theorem aUh (O:Orc) (LP:LBs) (t:GType):eW 224 aUg Tryz.f224 O LP [(eT t)] []=aED O LP t:=by kernel_rfl
theorem aQA (t:GType):Imp (aDs t) (aED O aE t) (Ri aAH):=by
 simp only [aDs,aED,zd,zr]
 try simp only [evs,tys]
 refine zC rfl fun y2 _ => ?_
 try simp only [zes,evs,tys]
 apply Imp.cnd
 ·exact zR
 ·apply Imp.cnd
  ·exact zR
  ·exact zR
theorem aQB {t:GType} {r:GType×Bool} (h:aDs t=some r):aPv t=some r:=zV aWo (aQA t) Tryz.func224 (aUh _ _ t) h
abbrev kX:List Sh:=[.str,(.ptr 0 2 0),(.ptr 0 4 0),.bool,n6,n6,.str,st',st',st',st',sf,.str,.str]
def aEE (O:Orc) (LP:LBs):cG:=fun s3 s3u=>cnd (chkL kX s3) (cnd (chkU [] s3u)
 (cnd (decide ((iv s3 4)<(List.length (ev s3 11):Int)))
 (bnd (ix 6 (zs s3 11) (zn s3 4)) fun x9=>cnd (chk (.ref mW) x9)
 (cnd ((sv (rf x9) 1)==(sv s3 0))
 (bnd (ix 6 (zs s3 11) (zn s3 4)) fun x11=>cnd (chk (.ref mW) x11)
 (some (.ret,(pu (pu (pu (pu (pu (pu (pu (rb kX s3) 3 (.bool true)) 5 (zn (rf x11) 0)) 6 (zt (rf x11) 1)) 7 (zs (rf x11) 2)) 8 (zs (rf x11) 3)) 9 (zs (rf x11) 4)) 10 (zs (rf x11) 5)),[])) none)
 (some (.nrm,(pu (rb kX s3) 4 (i6 (w6 ((iv s3 4)+1)))),[]))) none)
 (some (.brk 0,(rb kX s3),[]))) none) none
def aEF (O:Orc) (LP:LBs) (s:GSchema) (name:Str):Option (PV×UP) :=
 aM O 156 [(.str name)] fun x1=>cnd (chk .bool x1)
 (cnd (aV x1)
 (some ((.tuple [(.agg [(i6 0),(.str name),(.slice [] [] false),(.slice [] [] false),(.slice [] [] false),(.slice [] [] false)]),(.bool true)]),[]))
 (bnd (LP (aEE O LP) [(.str name),(.ptr 0 2 0),(.ptr 0 4 0),(.bool false),(i6 0),(i6 0),(.str []),(.slice [] [] true),(.slice [] [] true),(.slice [] [] true),(.slice [] [] true),(zq aK s.defs),(.str s.query),(.str s.mutation)] []) fun y21 =>
 exIs y21.1 (some 0) (cnd (chkL kX y21.2.1) (cnd (chkU [] y21.2.2)
 (some ((.tuple [(.agg [(i6 0),(.str []),(.slice [] [] false),(.slice [] [] false),(.slice [] [] false),(.slice [] [] false)]),(.bool false)]),[])) none) none)
 (exIs y21.1 none (cnd (chkL [.str,(.ptr 0 2 0),(.ptr 0 4 0),.bool,n6,n6,.str,sf,sf,sf,sf,sf,.str,.str] y21.2.1) (cnd (chkU [] y21.2.2)
 (some ((.tuple [(.agg [(zn y21.2.1 5),(zt y21.2.1 6),(zs y21.2.1 7),(zs y21.2.1 8),(zs y21.2.1 9),(zs y21.2.1 10)]),(zb y21.2.1 3)]),[])) none) none)
 (none)))) none
noncomputable def nU (s:GSchema) (name:Str):Int→Option (Int⊕(Unit⊕(Int×Str×(List Str)×(List GFieldDef)×(List Str)×(List GParam))))
 | i_8 =>
 cnd (decide (i_8<(List.length s.defs:Int)))
  (bnd (nthI s.defs i_8) fun y10 =>
  cnd (y10.name==name)
  (bnd (nthI s.defs i_8) fun y12 =>
  some (.inr (.inr (y12.kind,y12.name,y12.faces,y12.fields,y12.parts,y12.params))))
  (some (.inl (IntKind.wrap .i64 (i_8+1)))))
  (some (.inr (.inl ())))
abbrev aCj (s:GSchema) (name:Str) (a0 a1 a2 a3 a4 a5 a6 a7:PV):List PV:=[(.str name),(.ptr 0 2 0),(.ptr 0 4 0),a0,a1,a2,a3,a4,a5,a6,a7,(zq aK s.defs),(.str s.query),(.str s.mutation)]
abbrev aQC (s:GSchema) (name:Str) (st:Int) (l:List PV) (u:UP):Prop:=l=(aCj s name (.bool false) (i6 st) (i6 0) (.str []) (.slice [] [] true) (.slice [] [] true) (.slice [] [] true) (.slice [] [] true))∧u=[]
abbrev aQD (s:GSchema) (name:Str) (p:Unit⊕(Int×Str×(List Str)×(List GFieldDef)×(List Str)×(List GParam))) (r:EU):Prop:=elim p (fun (p:Unit)=>∃ (i_13:Int),r=(Ex.brk 0,(aCj s name (.bool false) (i6 i_13) (i6 0) (.str []) (.slice [] [] true) (.slice [] [] true) (.slice [] [] true) (.slice [] [] true)),[])) (fun (p:Int×Str×(List Str)×(List GFieldDef)×(List Str)×(List GParam))=>∃ (i_14:Int),r=(Ex.ret,(aCj s name (.bool true) (i6 i_14) (i6 p.1) (.str p.2.1) (zq PV.str p.2.2.1) (zq aG p.2.2.2.1) (zq PV.str p.2.2.2.2.1) (zq aQ p.2.2.2.2.2)),[]))
noncomputable def aDt (s:GSchema) (name:Str):Option (GDef×Bool) :=
 bnd (aG7 name) fun y2 =>
 cnd y2
 (some ((GDef.mk 0 name ([]:List Str) ([]:List GFieldDef) ([]:List Str) ([]:List GParam)),true))
 (bnd (bJ (nU s name) 0) fun e21_2=>elim e21_2
 (fun p21 =>
 some ((GDef.mk 0 [] ([]:List Str) ([]:List GFieldDef) ([]:List Str) ([]:List GParam)),false))
 (fun p21 =>
 some ((GDef.mk p21.1 p21.2.1 p21.2.2.1 p21.2.2.2.1 p21.2.2.2.2.1 p21.2.2.2.2.2),true)))
def aUi:Decs:={decs:=[(8,.bool),(21,(.ref mW)),(29,(.ref mW))],loops:=[(4,[(4,6),(2,3)],⟨kX,[],[(some 0,kX,[]),(none,[.str,(.ptr 0 2 0),(.ptr 0 4 0),.bool,n6,n6,.str,sf,sf,sf,sf,sf,.str,.str],[])]⟩)]}
theorem aUj (O:Orc) (LP:LBs) (s:GSchema) (name:Str):eW 164 aUi Tryz.f164 O LP [(eS s),(.str name)] []=aEF O LP s name:=by kernel_rfl
theorem aKR (s:GSchema) (name:Str):Lok (aQC s name) (nU s name) (aEE O aE) (aQD s name):=by
 rintro i_8 l u ⟨rfl,rfl⟩
 simp only [nU,aEE,zd,zr]
 refine zG ?_
 try simp only [evs,tys]
 apply Imp.cnd
 ·refine zX aK vI fun y10 _ => ?_
  try simp only [evs,tys]
  apply Imp.cnd
  ·refine zX aK vI fun y12 _ => ?_
   try simp only [evs,tys]
   exact zT ⟨i_8,zE⟩
  ·exact zN
 ·exact zB ⟨i_8,zE⟩
theorem aQE (s:GSchema) (name:Str):Imp (aDt s name) (aEF O aE s name) (Ri sJ):=by
 simp only [aDt,aEF,zd,zr]
 try simp only [evs,tys]
 refine zC rfl fun y2 _ => ?_
 try simp only [zes,evs,tys]
 apply Imp.cnd
 ·exact zR
 ·refine zL (aKR s name) ?_
  rintro (p | ⟨b_15,b_16,b_17,b_18,b_19,b_20⟩) vy21 hy21
  ·try simp only [aO,aP]
   obtain ⟨i_13,rfl⟩:=hy21
   refine zH ?_
   try simp only [evs,tys]
   exact zR
  ·try simp only [aO,aP]
   obtain ⟨i_14,rfl⟩:=hy21
   refine Imp.exMiss rfl ?_
   refine zH ?_
   try simp only [evs,tys]
   exact zR
theorem aQF {s:GSchema} {name:Str} {r:GDef×Bool} (h:aDt s name=some r):vL s name=some r:=zV aMx (aQE s name) Tryz.func164 (aUj _ _ s name) h
abbrev jB:List Sh:=[sf,sf,(.ptr 0 3 0),.bool,n6,n6,.str,.str,n6,n6,.bool,n6,n6,.str,sf,sf,sf,.str,.str]
def aCk (O:Orc) (LP:LBs):cG:=fun s32 s32u=>cnd (chkL jB s32) (cnd (chkU [] s32u)
 (cnd (decide ((iv s32 5)<(iv s32 4)))
 (bnd (ix 6 (zs s32 1) (zn s32 5)) fun x38=>cnd (chk (.ref dP) x38)
 (bnd (ix 6 (zs s32 1) (zn s32 4)) fun x40=>cnd (chk (.ref dP) x40)
 (cnd ((sv (rf x38) 0)==(sv (rf x40) 0))
 (some (.ret,(pu (rb jB s32) 3 (.bool false)),[]))
 (some (.nrm,(pu (rb jB s32) 5 (i6 (w6 ((iv s32 5)+1)))),[]))) none) none)
 (some (.brk 2,(rb jB s32),[]))) none) none
abbrev fL:List Sh:=[sf,sf,(.ptr 0 3 0),.bool,n6,sf,.str,.str]
def aCl (O:Orc) (LP:LBs):cG:=fun s1 s1u=>cnd (chkL fL s1) (cnd (chkU [] s1u)
 (cnd (decide ((iv s1 4)<(List.length (ev s1 1):Int)))
 (bnd (ix 6 (zs s1 1) (zn s1 4)) fun x24=>cnd (chk (.ref dP) x24)
 (aM O 193 [(zs s1 0),(zt (rf x24) 0)] fun x26=>cnd (chk (.tup [jR,.bool]) x26)
 (cnd (!(aV (tv x26 1)))
 (some (.ret,(pu (rb fL s1) 3 (.bool false)),[]))
 (bnd (ix 6 (zs s1 1) (zn s1 4)) fun x28=>cnd (chk (.ref dP) x28)
 (aM O 192 [(.agg [(zs s1 5),(zt s1 6),(zt s1 7)]),(.agg [(zt (tg x26 0) 1),(zn (tg x26 0) 2),(zn (tg x26 0) 3)]),(.agg [(zn (rf x28) 1),(zn (rf x28) 2),(zt (rf x28) 3),(zs (rf x28) 4),(zs (rf x28) 5)]),(.bool true)] fun x30=>cnd (chk .bool x30)
 (cnd (!(aV x30))
 (some (.ret,(pu (rb fL s1) 3 (.bool false)),[]))
 (bnd (LP (aCk O LP) [(zs s1 0),(zs s1 1),(.ptr 0 3 0),(zb s1 3),(zn s1 4),(i6 0),(zt (tg x26 0) 0),(zt (tg x26 0) 1),(zn (tg x26 0) 2),(zn (tg x26 0) 3),(zb (tg x26 0) 4),(zn (tg x26 0) 5),(zn (tg x26 0) 6),(zt (tg x26 0) 7),(zs (tg x26 0) 8),(zs (tg x26 0) 9),(zs s1 5),(zt s1 6),(zt s1 7)] []) fun y44 =>
 exIs y44.1 (some 2) (cnd (chkL [sf,sf,(.ptr 0 3 0),.bool,n6,n6,.str,.str,n6,n6,.bool,n6,n6,.str,sf,sf,sf,.str,.str] y44.2.1) (cnd (chkU [] y44.2.2)
 (some (.nrm,[(zs y44.2.1 0),(zs y44.2.1 1),(.ptr 0 3 0),(zb y44.2.1 3),(i6 (w6 ((iv y44.2.1 4)+1))),(zs y44.2.1 16),(zt y44.2.1 17),(zt y44.2.1 18)],[])) none) none)
 (exIs y44.1 none (cnd (chkL [sf,sf,(.ptr 0 3 0),.bool,n6,n6,.str,.str,n6,n6,.bool,n6,n6,.str,sf,sf,sf,.str,.str] y44.2.1) (cnd (chkU [] y44.2.2)
 (some (.ret,[(zs y44.2.1 0),(zs y44.2.1 1),(.ptr 0 3 0),(zb y44.2.1 3),(zn y44.2.1 4),(zs y44.2.1 16),(zt y44.2.1 17),(zt y44.2.1 18)],[])) none) none)
 (none)))) none) none)) none) none)
 (some (.brk 0,(rb fL s1),[]))) none) none
abbrev dO:List Sh:=[sf,sf,.bool,n6,sf,.str,.str]
def aCm (O:Orc) (LP:LBs):cG:=fun s48 s48u=>cnd (chkL dO s48) (cnd (chkU [] s48u)
 (cnd (decide ((iv s48 3)<(List.length (ev s48 0):Int)))
 (bnd (ix 10 (zs s48 0) (zn s48 3)) fun x60=>cnd (chk (.ref jR) x60)
 (aM O 219 [(zt (rf x60) 0),(zs s48 1)] fun x62=>cnd (chk (.tup [mL,.bool]) x62)
 (cnd (!(aV (tv x62 1)))
 (bnd (ix 10 (zs s48 0) (zn s48 3)) fun x64=>cnd (chk (.ref jR) x64)
 (aM O 195 [(.agg [(zt (rf x64) 1),(zn (rf x64) 2),(zn (rf x64) 3)])] fun x66=>cnd (chk .bool x66)
 (cnd (aV x66)
 (bnd (ix 10 (zs s48 0) (zn s48 3)) fun x68=>cnd (chk (.ref jR) x68)
 (cnd (!(bv (rf x68) 4))
 (some (.ret,(pu (rb dO s48) 2 (.bool false)),[]))
 (some (.nrm,(pu (rb dO s48) 3 (i6 (w6 ((iv s48 3)+1)))),[]))) none)
 (some (.nrm,(pu (rb dO s48) 3 (i6 (w6 ((iv s48 3)+1)))),[]))) none) none)
 (some (.nrm,(pu (rb dO s48) 3 (i6 (w6 ((iv s48 3)+1)))),[]))) none) none)
 (some (.brk 4,(rb dO s48),[]))) none) none
def aCn (O:Orc) (LP:LBs) (s:GSchema) (l0:List GParam) (m:List GMember):Option (PV×UP) :=
 bnd (LP (aCl O LP) [(zq aQ l0),(zq aD m),(.ptr 0 3 0),(.bool false),(i6 0),(zq aK s.defs),(.str s.query),(.str s.mutation)] []) fun y47 =>
 exIs y47.1 (some 0) (cnd (chkL fL y47.2.1) (cnd (chkU [] y47.2.2)
 (bnd (LP (aCm O LP) [(zs y47.2.1 0),(zs y47.2.1 1),(zb y47.2.1 3),(i6 0),(zs y47.2.1 5),(zt y47.2.1 6),(zt y47.2.1 7)] []) fun y72 =>
 exIs y72.1 (some 4) (cnd (chkL dO y72.2.1) (cnd (chkU [] y72.2.2)
 (some ((.bool true),[])) none) none)
 (exIs y72.1 none (cnd (chkL dO y72.2.1) (cnd (chkU [] y72.2.2)
 (some ((zb y72.2.1 2),[])) none) none)
 (none))) none) none)
 (exIs y47.1 none (cnd (chkL fL y47.2.1) (cnd (chkU [] y47.2.2)
 (some ((zb y47.2.1 3),[])) none) none)
 (none))
noncomputable def sQ (m:List GMember) (i_23:Int):Int→Option (Int⊕(Unit⊕Unit))
 | k_37 =>
 cnd (decide (k_37<i_23))
  (bnd (nthI m k_37) fun y39 =>
  bnd (nthI m i_23) fun y41 =>
  cnd (y39.name==y41.name)
  (some (.inr (.inr ())))
  (some (.inl (IntKind.wrap .i64 (k_37+1)))))
  (some (.inr (.inl ())))
abbrev zP (s:GSchema) (l0:List GParam) (m:List GMember) (i_23:Int) (y27:GParam×Bool) (a0:PV):List PV:=[(zq aQ l0),(zq aD m),(.ptr 0 3 0),(.bool false),(i6 i_23),a0,(.str y27.1.name),(.str y27.1.t.name),(i6 y27.1.t.lists),(i6 y27.1.t.musts),(.bool y27.1.has),(i6 y27.1.default.kind),(i6 y27.1.default.n),(.str y27.1.default.s),(zq aN y27.1.default.l),(zq aD y27.1.default.m),(zq aK s.defs),(.str s.query),(.str s.mutation)]
abbrev aFk (s:GSchema) (l0:List GParam) (m:List GMember) (i_23:Int) (y27:GParam×Bool) (st:Int) (l:List PV) (u:UP):Prop:=l=(zP s l0 m i_23 y27 (i6 st))∧u=[]
abbrev aNq (s:GSchema) (l0:List GParam) (m:List GMember) (i_23:Int) (y27:GParam×Bool) (p:Unit⊕Unit) (r:EU):Prop:=elim p (fun (p:Unit)=>∃ (k_42:Int),r=(Ex.brk 2,(zP s l0 m i_23 y27 (i6 k_42)),[])) (fun (p:Unit)=>∃ (k_43:Int),r=(Ex.ret,(zP s l0 m i_23 y27 (i6 k_43)),[]))
noncomputable def sR (s:GSchema) (l0:List GParam) (m:List GMember):Int→Option (Int⊕(Unit⊕Unit))
 | i_23 =>
 cnd (decide (i_23<(List.length m:Int)))
  (bnd (nthI m i_23) fun y25 =>
  bnd (aKx l0 y25.name) fun y27 =>
  cnd (!y27.2)
  (some (.inr (.inr ())))
  (bnd (nthI m i_23) fun y29 =>
  bnd (sI s y27.1.t y29.v true) fun y31 =>
  cnd (!y31)
   (some (.inr (.inr ())))
   (bnd (bJ (sQ m i_23) 0) fun e44_2=>elim e44_2
   (fun p44 =>
   some (.inl (IntKind.wrap .i64 (i_23+1))))
   (fun p44 =>
   some (.inr (.inr ()))))))
  (some (.inr (.inl ())))
abbrev zQ (s:GSchema) (l0:List GParam) (m:List GMember) (a0:PV):List PV:=[(zq aQ l0),(zq aD m),(.ptr 0 3 0),(.bool false),a0,(zq aK s.defs),(.str s.query),(.str s.mutation)]
abbrev aNr (s:GSchema) (l0:List GParam) (m:List GMember) (st:Int) (l:List PV) (u:UP):Prop:=l=(zQ s l0 m (i6 st))∧u=[]
abbrev aNs (s:GSchema) (l0:List GParam) (m:List GMember) (p:Unit⊕Unit) (r:EU):Prop:=elim p (fun (p:Unit)=>∃ (i_45:Int),r=(Ex.brk 0,(zQ s l0 m (i6 i_45)),[])) (fun (p:Unit)=>∃ (i_46:Int),r=(Ex.ret,(zQ s l0 m (i6 i_46)),[]))
noncomputable def sS (l0:List GParam) (m:List GMember):Int→Option (Int⊕(Unit⊕Unit))
 | i_59 =>
 cnd (decide (i_59<(List.length l0:Int)))
  (bnd (nthI l0 i_59) fun y61 =>
  bnd (aSk y61.name m) fun y63 =>
  cnd (!y63.2)
  (bnd (nthI l0 i_59) fun y65 =>
  bnd (bAJ y65.t) fun y67 =>
  cnd y67
   (bnd (nthI l0 i_59) fun y69 =>
   cnd (!y69.has)
   (some (.inr (.inr ())))
   (some (.inl (IntKind.wrap .i64 (i_59+1)))))
   (some (.inl (IntKind.wrap .i64 (i_59+1)))))
  (some (.inl (IntKind.wrap .i64 (i_59+1)))))
  (some (.inr (.inl ())))
abbrev zS (s:GSchema) (l0:List GParam) (m:List GMember) (a0:PV):List PV:=[(zq aQ l0),(zq aD m),(.bool false),a0,(zq aK s.defs),(.str s.query),(.str s.mutation)]
abbrev aFl (s:GSchema) (l0:List GParam) (m:List GMember) (st:Int) (l:List PV) (u:UP):Prop:=l=(zS s l0 m (i6 st))∧u=[]
abbrev aNt (s:GSchema) (l0:List GParam) (m:List GMember) (p:Unit⊕Unit) (r:EU):Prop:=elim p (fun (p:Unit)=>∃ (i_70:Int),r=(Ex.brk 4,(zS s l0 m (i6 i_70)),[])) (fun (p:Unit)=>∃ (i_71:Int),r=(Ex.ret,(zS s l0 m (i6 i_71)),[]))
noncomputable def uN (s:GSchema) (l0:List GParam) (m:List GMember):Option Bool :=
 bnd (bJ (sR s l0 m) 0) fun e47_2=>elim e47_2
 (fun p47 =>
 bnd (bJ (sS l0 m) 0) fun e72_2=>elim e72_2
 (fun p72 =>
 some true)
 (fun p72 =>
 some false))
 (fun p47 =>
 some false)
def aQG:Decs:={decs:=[(24,(.ref dP)),(27,(.tup [jR,.bool])),(38,(.ref dP)),(41,.bool),(51,(.ref dP)),(56,(.ref dP)),(69,(.ref jR)),(73,(.tup [mL,.bool])),(81,(.ref jR)),(84,.bool),(89,(.ref jR))],loops:=[(2,[(3,3)],⟨fL,[],[(some 0,fL,[]),(none,fL,[])]⟩),(8,[(8,10),(3,3)],⟨jB,[],[(some 2,jB,[]),(none,jB,[])]⟩),(13,[(3,3)],⟨dO,[],[(some 4,dO,[]),(none,dO,[])]⟩)]}
theorem aQH (O:Orc) (LP:LBs) (s:GSchema) (l0:List GParam) (m:List GMember):eW 225 aQG Tryz.f225 O LP [(eS s),(zq aQ l0),(zq aD m)] []=aCn O LP s l0 m:=by kernel_rfl
theorem aIz (s:GSchema) (l0:List GParam) (m:List GMember) (i_23:Int) (y27:GParam×Bool):∀ st l u,aFk s l0 m i_23 y27 st l u→Imp (sQ m i_23 st) (aCk O aE l u) (pF (aFk s l0 m i_23 y27) (aNq s l0 m i_23 y27)):=by
 rintro k_37 l u ⟨rfl,rfl⟩
 simp only [sQ,aCk,zd,zr]
 refine zG ?_
 try simp only [evs,tys]
 apply Imp.cnd
 ·refine zX aD fP fun y39 _ => ?_
  try simp only [evs,tys]
  refine zX aD fP fun y41 _ => ?_
  try simp only [evs,tys]
  apply Imp.cnd
  ·exact zT ⟨k_37,zE⟩
  ·exact zN
 ·exact zB ⟨k_37,zE⟩
theorem aIA (s:GSchema) (l0:List GParam) (m:List GMember):Lok (aNr s l0 m) (sR s l0 m) (aCl O aE) (aNs s l0 m):=by
 rintro i_23 l u ⟨rfl,rfl⟩
 simp only [sR,aCl,zd,zr]
 refine zG ?_
 try simp only [evs,tys]
 apply Imp.cnd
 ·refine zX aD fP fun y25 _ => ?_
  try simp only [evs,tys]
  refine zC rfl fun y27 _ => ?_
  try simp only [zes,evs,tys]
  apply Imp.cnd
  ·exact zT ⟨i_23,zE⟩
  ·refine zX aD fP fun y29 _ => ?_
   try simp only [evs,tys]
   refine zC rfl fun y31 _ => ?_
   try simp only [zes,evs,tys]
   apply Imp.cnd
   ·exact zT ⟨i_23,zE⟩
   ·refine zL (aIz s l0 m i_23 y27) ?_
    rintro (p | p) vy44 hy44
    ·try simp only [aO,aP]
     obtain ⟨k_42,rfl⟩:=hy44
     refine zH ?_
     try simp only [evs,tys]
     exact zN
    ·try simp only [aO,aP]
     obtain ⟨k_43,rfl⟩:=hy44
     refine Imp.exMiss rfl ?_
     refine zH ?_
     try simp only [evs,tys]
     exact zT ⟨i_23,zE⟩
 ·exact zB ⟨i_23,zE⟩
theorem aIB (s:GSchema) (l0:List GParam) (m:List GMember):∀ st l u,aFl s l0 m st l u→Imp (sS l0 m st) (aCm O aE l u) (pF (aFl s l0 m) (aNt s l0 m)):=by
 rintro i_59 l u ⟨rfl,rfl⟩
 simp only [sS,aCm,zd,zr]
 refine zG ?_
 try simp only [evs,tys]
 apply Imp.cnd
 ·refine zX aQ nK fun y61 _ => ?_
  try simp only [evs,tys]
  refine zC rfl fun y63 _ => ?_
  try simp only [zes,evs,tys]
  apply Imp.cnd
  ·refine zX aQ nK fun y65 _ => ?_
   try simp only [evs,tys]
   refine zC rfl fun y67 _ => ?_
   try simp only [zes,evs,tys]
   apply Imp.cnd
   ·refine zX aQ nK fun y69 _ => ?_
    try simp only [evs,tys]
    apply Imp.cnd
    ·exact zT ⟨i_59,zE⟩
    ·exact zN
   ·exact zN
  ·exact zN
 ·exact zB ⟨i_59,zE⟩
theorem aNu (s:GSchema) (l0:List GParam) (m:List GMember):Imp (uN s l0 m) (aCn O aE s l0 m) (Ri aA):=by
 simp only [uN,aCn,zd,zr]
 try simp only [evs,tys]
 refine zL (aIA s l0 m) ?_
 rintro (p | p) vy47 hy47
 ·try simp only [aO,aP]
  obtain ⟨i_45,rfl⟩:=hy47
  refine zH ?_
  try simp only [evs,tys]
  refine zL (aIB s l0 m) ?_
  rintro (p | p) vy72 hy72
  ·try simp only [aO,aP]
   obtain ⟨i_70,rfl⟩:=hy72
   refine zH ?_
   try simp only [evs,tys]
   exact zR
  ·try simp only [aO,aP]
   obtain ⟨i_71,rfl⟩:=hy72
   refine Imp.exMiss rfl ?_
   refine zH ?_
   try simp only [evs,tys]
   exact zR
 ·try simp only [aO,aP]
  obtain ⟨i_46,rfl⟩:=hy47
  refine Imp.exMiss rfl ?_
  refine zH ?_
  try simp only [evs,tys]
  exact zR
theorem aNv {s:GSchema} {l0:List GParam} {m:List GMember} {r:Bool} (h:uN s l0 m=some r):aAI s l0 m=some r:=zV aC (aNu s l0 m) Tryz.func225 (aQH _ _ s l0 m) h
def aHo (O:Orc) (LP:LBs):cG:=fun s1 s1u=>cnd (chkL [.str,n6,n6] s1) (cnd (chkU [] s1u)
 (cnd (decide ((w6 ((iv s1 1)+(iv s1 2)))<(List.length (sv s1 0):Int)))
 (bnd (sZ (zt s1 0) (i6 (w6 ((iv s1 1)+(iv s1 2))))) fun x7=>cnd (chk (.int .u8) x7)
 (aM O 170 [(.int .u8 (intV x7))] fun x9=>cnd (chk .bool x9)
 (cnd (aV x9)
 (some (.nrm,[(zt s1 0),(zn s1 1),(i6 (w6 ((iv s1 2)+1)))],[]))
 (some (.brk 0,[(zt s1 0),(zn s1 1),(zn s1 2)],[]))) none) none)
 (some (.brk 0,[(zt s1 0),(zn s1 1),(zn s1 2)],[]))) none) none
def aHp (O:Orc) (LP:LBs) (s:Str) (i:Int):Option (PV×UP) :=
 bnd (LP (aHo O LP) [(.str s),(i6 i),(i6 0)] []) fun y12 =>
 exIs y12.1 (some 0) (cnd (chkL [.str,n6,n6] y12.2.1) (cnd (chkU [] y12.2.2)
 (some ((zn y12.2.1 2),[])) none) none)
 (none)
noncomputable def aAR (s:Str) (i:Int):Int→Option (Int⊕Int)
 | n_6 =>
 cnd (decide ((IntKind.wrap .i64 (i+n_6))<(List.length s:Int)))
  (bnd (nthI s (IntKind.wrap .i64 (i+n_6))) fun y8 =>
  bnd (aF6 (y8.toNat:Int)) fun y10 =>
  cnd y10
  (some (.inl (IntKind.wrap .i64 (n_6+1))))
  (some (.inr n_6)))
  (some (.inr n_6))
abbrev aUk (s:Str) (i:Int) (st:Int) (l:List PV) (u:UP):Prop:=l=[(.str s),(i6 i),(i6 st)]∧u=[]
abbrev aUl (s:Str) (i:Int) (p:Int) (r:EU):Prop:=(fun (p:Int)=>r=(Ex.brk 0,[(.str s),(i6 i),(i6 p)],[])) p
noncomputable def aDu (s:Str) (i:Int):Option Int :=
 bnd (bJ (aAR s i) 0) fun n_11 =>
 some n_11
def aWx:Decs:={decs:=[(17,(.int .u8)),(18,.bool)],loops:=[(2,[],⟨[.str,n6,n6],[],[(some 0,[.str,n6,n6],[])]⟩)]}
theorem aWy (O:Orc) (LP:LBs) (s:Str) (i:Int):eW 250 aWx Tryz.f250 O LP [(.str s),(i6 i)] []=aHp O LP s i:=by kernel_rfl
theorem aNw (s:Str) (i:Int):Lok (aUk s i) (aAR s i) (aHo O aE) (aUl s i):=by
 rintro n_6 l u ⟨rfl,rfl⟩
 simp only [aAR,aHo,zd,zr]
 refine zG ?_
 try simp only [evs,tys]
 apply Imp.cnd
 ·refine Imp.op (f:=fun a => .int .u8 (a.toNat:Int)) (fun a h=>gR h) (fun a=>rfl) fun y8 hy8 => ?_
  try simp only [evs,tys]
  refine zC rfl fun y10 _ => ?_
  try simp only [zes,evs,tys]
  apply Imp.cnd
  ·exact zN
  ·exact Imp.some (pF.brk zE)
 ·exact Imp.some (pF.brk zE)
theorem aUm (s:Str) (i:Int):Imp (aDu s i) (aHp O aE s i) (Ri cM):=by
 simp only [aDu,aHp,zd,zr]
 try simp only [evs,tys]
 refine zL (aNw s i) ?_
 rintro n_11 vy12 hy12
 cases hy12
 refine zH ?_
 try simp only [evs,tys]
 exact zR
theorem aUn {s:Str} {i:Int} {r:Int} (h:aDu s i=some r):yR s i=some r:=zV qI (aUm s i) Tryz.func250 (aWy _ _ s i) h
abbrev fS:List Sh:=[.str,n6,n6,n6,n6,n6,n6,n6]
def aEG (O:Orc) (LP:LBs):cG:=fun s14 s14u=>cnd (chkL fS s14) (cnd (chkU [] s14u)
 (cnd (decide ((iv s14 7)<(iv s14 5)))
 (bnd (sZ (zt s14 0) (i6 (w6 ((iv s14 1)+(iv s14 7))))) fun x21=>cnd (chk (.int .u8) x21)
 (cnd (decide ((w6 (intV x21))<128))
 (some (.ret,(pu (pu (rb fS s14) 2 (i6 0)) 3 (i6 0)),[]))
 (cnd (decide ((w6 (intV x21))>191))
 (some (.ret,(pu (pu (rb fS s14) 2 (i6 0)) 3 (i6 0)),[]))
 (some (.nrm,(pu (pu (rb fS s14) 4 (i6 (bits .or .i64 (w6 ((iv s14 4)*2 ^ min (Int.toNat 6) 64)) (bits .and .i64 (w6 (intV x21)) 63)))) 7 (i6 (w6 ((iv s14 7)+1)))),[])))) none)
 (some (.brk 1,(rb fS s14),[]))) none) none
def aEH (O:Orc) (LP:LBs) (s:Str) (i:Int):Option (PV×UP) :=
 cnd (decide (i<0))
 (some ((.tuple [(i6 0),(i6 0)]),[]))
 (cnd (decide (i≥(List.length s:Int)))
 (some ((.tuple [(i6 0),(i6 0)]),[]))
 (bnd (sZ (.str s) (i6 i)) fun x2=>cnd (chk (.int .u8) x2)
 (cnd (decide ((w6 (intV x2))<128))
 (some ((.tuple [(i6 (w6 (intV x2))),(i6 1)]),[]))
 (jn (fun (c_6:Int) (n_7:Int) (low_8:Int) (t_9:Bool) (t_10:Bool) (t_11:Bool) =>
 (cnd (decide (n_7>(w6 ((List.length s:Int)-i))))
 (some ((.tuple [(i6 0),(i6 0)]),[]))
 (bnd (LP (aEG O LP) [(.str s),(i6 i),(i6 0),(i6 0),(i6 c_6),(i6 n_7),(i6 low_8),(i6 1)] []) fun y27 =>
 exIs y27.1 (some 1) (cnd (chkL fS y27.2.1) (cnd (chkU [] y27.2.2)
 (cnd (decide ((iv y27.2.1 4)<(iv y27.2.1 6)))
 (some ((.tuple [(i6 0),(i6 0)]),[]))
 (cnd (decide ((iv y27.2.1 4)>1114111))
 (some ((.tuple [(i6 0),(i6 0)]),[]))
 (cnd (decide ((iv y27.2.1 4)≥55296))
 (cnd (decide ((iv y27.2.1 4)<57344))
 (some ((.tuple [(i6 0),(i6 0)]),[]))
 (some ((.tuple [(zn y27.2.1 4),(zn y27.2.1 5)]),[])))
 (some ((.tuple [(zn y27.2.1 4),(zn y27.2.1 5)]),[]))))) none) none)
 (exIs y27.1 none (cnd (chkL fS y27.2.1) (cnd (chkU [] y27.2.2)
 (some ((.tuple [(zn y27.2.1 2),(zn y27.2.1 3)]),[])) none) none)
 (none))))) fun k5 =>
 cnd (decide ((w6 (intV x2))≥194))
 (cnd (decide ((w6 (intV x2))<224))
 (k5 (bits .and .i64 (w6 (intV x2)) 31) 2 128 true true (decide ((w6 (intV x2))<224)))
 (cnd (decide ((w6 (intV x2))≥224))
 (cnd (decide ((w6 (intV x2))<240))
 (k5 (bits .and .i64 (w6 (intV x2)) 15) 3 2048 false true (decide ((w6 (intV x2))<224)))
 (cnd (decide ((w6 (intV x2))≥240))
 (cnd (decide ((w6 (intV x2))<245))
 (k5 (bits .and .i64 (w6 (intV x2)) 7) 4 65536 false true (decide ((w6 (intV x2))<224)))
 (some ((.tuple [(i6 0),(i6 0)]),[])))
 (some ((.tuple [(i6 0),(i6 0)]),[]))))
 (cnd (decide ((w6 (intV x2))≥240))
 (cnd (decide ((w6 (intV x2))<245))
 (k5 (bits .and .i64 (w6 (intV x2)) 7) 4 65536 false true (decide ((w6 (intV x2))<224)))
 (some ((.tuple [(i6 0),(i6 0)]),[])))
 (some ((.tuple [(i6 0),(i6 0)]),[])))))
 (cnd (decide ((w6 (intV x2))≥224))
 (cnd (decide ((w6 (intV x2))<240))
 (k5 (bits .and .i64 (w6 (intV x2)) 15) 3 2048 false false false)
 (cnd (decide ((w6 (intV x2))≥240))
 (cnd (decide ((w6 (intV x2))<245))
 (k5 (bits .and .i64 (w6 (intV x2)) 7) 4 65536 false false false)
 (some ((.tuple [(i6 0),(i6 0)]),[])))
 (some ((.tuple [(i6 0),(i6 0)]),[]))))
 (cnd (decide ((w6 (intV x2))≥240))
 (cnd (decide ((w6 (intV x2))<245))
 (k5 (bits .and .i64 (w6 (intV x2)) 7) 4 65536 false false false)
 (some ((.tuple [(i6 0),(i6 0)]),[])))
 (some ((.tuple [(i6 0),(i6 0)]),[])))))) none))
noncomputable def aCo (s : Str) (i : Int) (n_7 : Int) : (Int × Int) → Option ((Int × Int) ⊕ (Int ⊕ Unit))
 | (c_18, k_19) =>
 cnd (decide (k_19 < n_7))
  (bnd (nthI s (IntKind.wrap .i64 (i + k_19))) fun y22 =>
  cnd (decide ((IntKind.wrap .i64 (y22.toNat : Int)) < 128))
  (some (.inr (.inr ())))
  (cnd (decide ((IntKind.wrap .i64 (y22.toNat : Int)) > 191))
   (some (.inr (.inr ())))
   (some (.inl ((bits .or .i64 (IntKind.wrap .i64 (c_18 * 2 ^ min (Int.toNat 6) 64)) (bits .and .i64 (IntKind.wrap .i64 (y22.toNat : Int)) 63)), (IntKind.wrap .i64 (k_19 + 1)))))))
  (some (.inr (.inl c_18)))
abbrev aHq (s:Str) (i:Int) (n_7:Int) (low_8:Int) (st:Int×Int) (l:List PV) (u:UP):Prop:=l=[(.str s),(i6 i),(i6 0),(i6 0),(i6 st.1),(i6 n_7),(i6 low_8),(i6 st.2)]∧u=[]
abbrev aQI (s:Str) (i:Int) (n_7:Int) (low_8:Int) (p:Int⊕Unit) (r:EU):Prop:=elim p (fun (p:Int)=>∃ (k_24:Int),r=(Ex.brk 1,[(.str s),(i6 i),(i6 0),(i6 0),(i6 p),(i6 n_7),(i6 low_8),(i6 k_24)],[])) (fun q2=>(fun (p:Unit)=>∃ (c_25:Int),∃ (k_26:Int),r=(Ex.ret,[(.str s),(i6 i),(i6 0),(i6 0),(i6 c_25),(i6 n_7),(i6 low_8),(i6 k_26)],[])) q2)
noncomputable def zU (s:Str) (i:Int):Option (Int×Int) :=
 cnd (decide (i<0))
 (some (0,0))
 (cnd (decide (i≥(List.length s:Int)))
 (some (0,0))
 (bnd (nthI s i) fun y3 =>
 cnd (decide ((IntKind.wrap .i64 (y3.toNat:Int))<128))
 (some ((IntKind.wrap .i64 (y3.toNat:Int)),1))
 (jn (fun (c_6:Int) (n_7:Int) (low_8:Int) (t_9:Bool) (t_10:Bool) (t_11:Bool) =>
 (cnd (decide (n_7>(IntKind.wrap .i64 ((List.length s:Int)-i))))
 (some (0,0))
 (bnd (bJ (aCo s i n_7) (c_6,1)) fun e27_2=>elim e27_2
 (fun c_23 =>
 cnd (decide (c_23<low_8))
 (some (0,0))
 (cnd (decide (c_23>1114111))
 (some (0,0))
 (cnd (decide (c_23≥55296))
 (cnd (decide (c_23<57344))
 (some (0,0))
 (some (c_23,n_7)))
 (some (c_23,n_7)))))
 (fun p27 =>
 some (0,0))))) fun k5 =>
 cnd (decide ((IntKind.wrap .i64 (y3.toNat:Int))≥194))
 (cnd (decide ((IntKind.wrap .i64 (y3.toNat:Int))<224))
 (k5 (bits .and .i64 (IntKind.wrap .i64 (y3.toNat:Int)) 31) 2 128 true true (decide ((IntKind.wrap .i64 (y3.toNat:Int))<224)))
 (cnd (decide ((IntKind.wrap .i64 (y3.toNat:Int))≥224))
 (cnd (decide ((IntKind.wrap .i64 (y3.toNat:Int))<240))
 (k5 (bits .and .i64 (IntKind.wrap .i64 (y3.toNat:Int)) 15) 3 2048 false true (decide ((IntKind.wrap .i64 (y3.toNat:Int))<224)))
 (cnd (decide ((IntKind.wrap .i64 (y3.toNat:Int))≥240))
 (cnd (decide ((IntKind.wrap .i64 (y3.toNat:Int))<245))
 (k5 (bits .and .i64 (IntKind.wrap .i64 (y3.toNat:Int)) 7) 4 65536 false true (decide ((IntKind.wrap .i64 (y3.toNat:Int))<224)))
 (some (0,0)))
 (some (0,0))))
 (cnd (decide ((IntKind.wrap .i64 (y3.toNat:Int))≥240))
 (cnd (decide ((IntKind.wrap .i64 (y3.toNat:Int))<245))
 (k5 (bits .and .i64 (IntKind.wrap .i64 (y3.toNat:Int)) 7) 4 65536 false true (decide ((IntKind.wrap .i64 (y3.toNat:Int))<224)))
 (some (0,0)))
 (some (0,0)))))
 (cnd (decide ((IntKind.wrap .i64 (y3.toNat:Int))≥224))
 (cnd (decide ((IntKind.wrap .i64 (y3.toNat:Int))<240))
 (k5 (bits .and .i64 (IntKind.wrap .i64 (y3.toNat:Int)) 15) 3 2048 false false false)
 (cnd (decide ((IntKind.wrap .i64 (y3.toNat:Int))≥240))
 (cnd (decide ((IntKind.wrap .i64 (y3.toNat:Int))<245))
 (k5 (bits .and .i64 (IntKind.wrap .i64 (y3.toNat:Int)) 7) 4 65536 false false false)
 (some (0,0)))
 (some (0,0))))
 (cnd (decide ((IntKind.wrap .i64 (y3.toNat:Int))≥240))
 (cnd (decide ((IntKind.wrap .i64 (y3.toNat:Int))<245))
 (k5 (bits .and .i64 (IntKind.wrap .i64 (y3.toNat:Int)) 7) 4 65536 false false false)
 (some (0,0)))
 (some (0,0)))))))
def aUo:Decs:={decs:=[(21,(.int .u8)),(68,(.int .u8))],loops:=[(17,[],⟨fS,[],[(some 1,fS,[]),(none,fS,[])]⟩)]}
theorem aUp (O:Orc) (LP:LBs) (s:Str) (i:Int):eW 251 aUo Tryz.f251 O LP [(.str s),(i6 i)] []=aEH O LP s i:=by kernel_rfl
theorem aKS (s:Str) (i:Int) (n_7:Int) (low_8:Int):∀ st l u,aHq s i n_7 low_8 st l u→Imp (aCo s i n_7 st) (aEG O aE l u) (pF (aHq s i n_7 low_8) (aQI s i n_7 low_8)):=by
 rintro ⟨c_18,k_19⟩ l u ⟨rfl,rfl⟩
 simp only [aCo,aEG,zd,zr]
 refine zG ?_
 try simp only [evs,tys]
 apply Imp.cnd
 ·refine Imp.op (f:=fun a => .int .u8 (a.toNat:Int)) (fun a h=>gR h) (fun a=>rfl) fun y22 hy22 => ?_
  try simp only [evs,tys]
  apply Imp.cnd
  ·exact zT ⟨c_18,k_19,zE⟩
  ·apply Imp.cnd
   ·exact zT ⟨c_18,k_19,zE⟩
   ·exact zN
 ·exact zB ⟨k_19,zE⟩
theorem aQJ (s:Str) (i:Int):Imp (zU s i) (aEH O aE s i) (Ri gW):=by
 simp only [zU,aEH,zd,zr]
 try simp only [evs,tys]
 apply Imp.cnd
 ·exact zR
 ·apply Imp.cnd
  ·exact zR
  ·refine Imp.op (f:=fun a => .int .u8 (a.toNat:Int)) (fun a h=>gR h) (fun a=>rfl) fun y3 hy3 => ?_
   try simp only [evs,tys]
   apply Imp.cnd
   ·exact zR
   ·refine Imp.jn (fun I k2 k1=>∀ (c_6:Int) (n_7:Int) (low_8:Int) (t_9:Bool) (t_10:Bool) (t_11:Bool),I (k2 c_6 n_7 low_8 t_9 t_10 t_11) (k1 c_6 n_7 low_8 t_9 t_10 t_11)) (fun c_6 n_7 low_8 t_9 t_10 t_11 => ?_) fun k5 k5t hk5 => ?_
    ·dsimp only
     try simp only [evs,tys]
     apply Imp.cnd
     ·exact zR
     ·refine zL (aKS s i n_7 low_8) ?_
      rintro (c_23 | p) vy27 hy27
      ·try simp only [aO,aP]
       obtain ⟨k_24,rfl⟩:=hy27
       refine zH ?_
       try simp only [evs,tys]
       apply Imp.cnd
       ·exact zR
       ·apply Imp.cnd
        ·exact zR
        ·apply Imp.cnd
         ·apply Imp.cnd
          ·exact zR
          ·exact zR
         ·exact zR
      ·try simp only [aO,aP]
       obtain ⟨c_25,k_26,rfl⟩:=hy27
       refine Imp.exMiss rfl ?_
       refine zH ?_
       try simp only [evs,tys]
       exact zR
    apply Imp.cnd
    ·apply Imp.cnd
     ·first | exact hk5 _ _ _ _ _ _ | simpa only [evs,tys,evl] using hk5 _ _ _ _ _ _
     ·apply Imp.cnd
      ·apply Imp.cnd
       ·first | exact hk5 _ _ _ _ _ _ | simpa only [evs,tys,evl] using hk5 _ _ _ _ _ _
       ·apply Imp.cnd
        ·apply Imp.cnd
         ·first | exact hk5 _ _ _ _ _ _ | simpa only [evs,tys,evl] using hk5 _ _ _ _ _ _
         ·exact zR
        ·exact zR
      ·apply Imp.cnd
       ·apply Imp.cnd
        ·first | exact hk5 _ _ _ _ _ _ | simpa only [evs,tys,evl] using hk5 _ _ _ _ _ _
        ·exact zR
       ·exact zR
    ·apply Imp.cnd
     ·apply Imp.cnd
      ·first | exact hk5 _ _ _ _ _ _ | simpa only [evs,tys,evl] using hk5 _ _ _ _ _ _
      ·apply Imp.cnd
       ·apply Imp.cnd
        ·first | exact hk5 _ _ _ _ _ _ | simpa only [evs,tys,evl] using hk5 _ _ _ _ _ _
        ·exact zR
       ·exact zR
     ·apply Imp.cnd
      ·apply Imp.cnd
       ·first | exact hk5 _ _ _ _ _ _ | simpa only [evs,tys,evl] using hk5 _ _ _ _ _ _
       ·exact zR
      ·exact zR
theorem aQK {s:Str} {i:Int} {r:Int×Int} (h:zU s i=some r):aPw s i=some r:=zV aFa (aQJ s i) Tryz.func251 (aUp _ _ s i) h
def aEI (O:Orc) (LP:LBs):cG:=fun s5 s5u=>cnd (chkL [.str,.bool,n6] s5) (cnd (chkU [] s5u)
 (cnd (decide ((iv s5 2)<(List.length (sv s5 0):Int)))
 (bnd (sZ (zt s5 0) (zn s5 2)) fun x15=>cnd (chk (.int .u8) x15)
 (aM O 169 [(.int .u8 (intV x15))] fun x17=>cnd (chk .bool x17)
 (cnd (!(aV x17))
 (bnd (sZ (zt s5 0) (zn s5 2)) fun x19=>cnd (chk (.int .u8) x19)
 (aM O 170 [(.int .u8 (intV x19))] fun x21=>cnd (chk .bool x21)
 (cnd (!(aV x21))
 (some (.ret,[(zt s5 0),(.bool false),(zn s5 2)],[]))
 (some (.nrm,[(zt s5 0),(zb s5 1),(i6 (w6 ((iv s5 2)+1)))],[]))) none) none)
 (some (.nrm,[(zt s5 0),(zb s5 1),(i6 (w6 ((iv s5 2)+1)))],[]))) none) none)
 (some (.brk 0,[(zt s5 0),(zb s5 1),(zn s5 2)],[]))) none) none
def aEJ (O:Orc) (LP:LBs) (s:Str):Option (PV×UP) :=
 cnd (s==([]:Str))
 (some ((.bool false),[]))
 (bnd (sZ (.str s) (i6 0)) fun x1=>cnd (chk (.int .u8) x1)
 (aM O 169 [(.int .u8 (intV x1))] fun x3=>cnd (chk .bool x3)
 (cnd (!(aV x3))
 (some ((.bool false),[]))
 (bnd (LP (aEI O LP) [(.str s),(.bool false),(i6 1)] []) fun y25 =>
 exIs y25.1 (some 0) (cnd (chkL [.str,.bool,n6] y25.2.1) (cnd (chkU [] y25.2.2)
 (some ((.bool true),[])) none) none)
 (exIs y25.1 none (cnd (chkL [.str,.bool,n6] y25.2.1) (cnd (chkU [] y25.2.2)
 (some ((zb y25.2.1 1),[])) none) none)
 (none)))) none) none)
noncomputable def nV (s:Str):Int→Option (Int⊕(Unit⊕Unit))
 | i_14 =>
 cnd (decide (i_14<(List.length s:Int)))
  (bnd (nthI s i_14) fun y16 =>
  bnd (aF7 (y16.toNat:Int)) fun y18 =>
  cnd (!y18)
  (bnd (nthI s i_14) fun y20 =>
  bnd (aF6 (y20.toNat:Int)) fun y22 =>
  cnd (!y22)
   (some (.inr (.inr ())))
   (some (.inl (IntKind.wrap .i64 (i_14+1)))))
  (some (.inl (IntKind.wrap .i64 (i_14+1)))))
  (some (.inr (.inl ())))
abbrev aQL (s:Str) (st:Int) (l:List PV) (u:UP):Prop:=l=[(.str s),(.bool false),(i6 st)]∧u=[]
abbrev aQM (s:Str) (p:Unit⊕Unit) (r:EU):Prop:=elim p (fun (p:Unit)=>∃ (i_23:Int),r=(Ex.brk 0,[(.str s),(.bool false),(i6 i_23)],[])) (fun q2=>(fun (p:Unit)=>∃ (i_24:Int),r=(Ex.ret,[(.str s),(.bool false),(i6 i_24)],[])) q2)
noncomputable def aDv (s:Str):Option Bool :=
 cnd (s==([]:Str))
 (some false)
 (bnd (nthI s 0) fun y2 =>
 bnd (aF7 (y2.toNat:Int)) fun y4 =>
 cnd (!y4)
 (some false)
 (bnd (bJ (nV s) 1) fun e25_2=>elim e25_2
 (fun p25 =>
 some true)
 (fun p25 =>
 some false)))
def aUq:Decs:={decs:=[(8,(.int .u8)),(9,.bool),(20,(.int .u8)),(21,.bool),(26,(.int .u8)),(27,.bool)],loops:=[(4,[],⟨[.str,.bool,n6],[],[(some 0,[.str,.bool,n6],[]),(none,[.str,.bool,n6],[])]⟩)]}
theorem aUr (O:Orc) (LP:LBs) (s:Str):eW 98 aUq Tryz.f98 O LP [(.str s)] []=aEJ O LP s:=by kernel_rfl
theorem aKT (s:Str):Lok (aQL s) (nV s) (aEI O aE) (aQM s):=by
 rintro i_14 l u ⟨rfl,rfl⟩
 simp only [nV,aEI,zd,zr]
 refine zG ?_
 try simp only [evs,tys]
 apply Imp.cnd
 ·refine Imp.op (f:=fun a => .int .u8 (a.toNat:Int)) (fun a h=>gR h) (fun a=>rfl) fun y16 hy16 => ?_
  try simp only [evs,tys]
  refine zC rfl fun y18 _ => ?_
  try simp only [zes,evs,tys]
  apply Imp.cnd
  ·refine Imp.op (f:=fun a => .int .u8 (a.toNat:Int)) (fun a h=>gR h) (fun a=>rfl) fun y20 hy20 => ?_
   try simp only [evs,tys]
   refine zC rfl fun y22 _ => ?_
   try simp only [zes,evs,tys]
   apply Imp.cnd
   ·exact zT ⟨i_14,zE⟩
   ·exact zN
  ·exact zN
 ·exact zB ⟨i_14,zE⟩
theorem aQN (s:Str):Imp (aDv s) (aEJ O aE s) (Ri aA):=by
 simp only [aDv,aEJ,zd,zr]
 try simp only [evs,tys]
 apply Imp.cnd
 ·exact zR
 ·refine Imp.op (f:=fun a => .int .u8 (a.toNat:Int)) (fun a h=>gR h) (fun a=>rfl) fun y2 hy2 => ?_
  try simp only [evs,tys]
  refine zC rfl fun y4 _ => ?_
  try simp only [zes,evs,tys]
  apply Imp.cnd
  ·exact zR
  ·refine zL (aKT s) ?_
   rintro (p | p) vy25 hy25
   ·try simp only [aO,aP]
    obtain ⟨i_23,rfl⟩:=hy25
    refine zH ?_
    try simp only [evs,tys]
    exact zR
   ·try simp only [aO,aP]
    obtain ⟨i_24,rfl⟩:=hy25
    refine Imp.exMiss rfl ?_
    refine zH ?_
    try simp only [evs,tys]
    exact zR
theorem aQO {s:Str} {r:Bool} (h:aDv s=some r):aPx s=some r:=zV aC (aQN s) Tryz.func98 (aUr _ _ s) h
def dA (O:Orc) (LP:LBs) (s:List Str) (v0:Str):Option (PV×UP) :=
 aM O 200 [(zq PV.str s),(.str v0)] fun x1=>cnd (chk n6 x1)
 (some ((.bool (decide ((intV x1)≥0))),[])) none
noncomputable def cK (s:List Str) (v0:Str):Option Bool :=
 bnd (dB s v0) fun y2 =>
 some (decide (y2≥0))
def mX:Decs:={decs:=[(7,n6)]}
theorem mY (O:Orc) (LP:LBs) (s:List Str) (v0:Str):eW 136 mX Tryz.f136 O LP [(zq PV.str s),(.str v0)] []=dA O LP s v0:=by kernel_rfl
theorem mS (s:List Str) (v0:Str):Imp (cK s v0) (dA O aE s v0) (Ri aA):=by
 simp only [cK,dA,zd,zr]
 try simp only [evs,tys]
 refine zC rfl fun y2 _ => ?_
 try simp only [zes,evs,tys]
 exact zR
theorem mT {s:List Str} {v0:Str} {r:Bool} (h:cK s v0=some r):dQ s v0=some r:=zV aC (mS s v0) Tryz.func136 (mY _ _ s v0) h
def vY (O:Orc) (LP:LBs) (f:GFieldDef) (u0_8:GDef) (u0_6:Str) (u0_60:Str) (u0_600:Int) (u0_6000:Int) (u0_5:Str) (u0_3:GSchema):Option (PV×UP) :=
 some ((.bool (f.name==u0_5)),[[(8,[(i6 u0_8.kind),(.str u0_8.name),(zq PV.str u0_8.faces),(zq aG u0_8.fields),(zq PV.str u0_8.parts),(zq aQ u0_8.params)]),(6,[(.str u0_6),(.slice [] [] true),(.str u0_60),(i6 u0_600),(i6 u0_6000),(.slice [] [] true)]),(5,[(.str u0_5)]),(3,[(zq aK u0_3.defs),(.str u0_3.query),(.str u0_3.mutation)])]])
noncomputable def zW (f:GFieldDef) (u0_8:GDef) (u0_6:Str) (u0_60:Str) (u0_600:Int) (u0_6000:Int) (u0_5:Str) (u0_3:GSchema):Option Bool :=
 some (f.name==u0_5)
def aKU:Decs:={}
theorem aKV (O:Orc) (LP:LBs) (f:GFieldDef) (u0_8:GDef) (u0_6:Str) (u0_60:Str) (u0_600:Int) (u0_6000:Int) (u0_5:Str) (u0_3:GSchema):eW 180 aKU Tryz.f180 O LP [(.agg [(.str f.name),(zq aQ f.params),(.str f.t.name),(i6 f.t.lists),(i6 f.t.musts),(zq aU f.dirs)]),(.ptr 1 5 0)] [[(8,[(i6 u0_8.kind),(.str u0_8.name),(zq PV.str u0_8.faces),(zq aG u0_8.fields),(zq PV.str u0_8.parts),(zq aQ u0_8.params)]),(6,[(.str u0_6),(.slice [] [] true),(.str u0_60),(i6 u0_600),(i6 u0_6000),(.slice [] [] true)]),(5,[(.str u0_5)]),(3,[(zq aK u0_3.defs),(.str u0_3.query),(.str u0_3.mutation)])]]=vY O LP f u0_8 u0_6 u0_60 u0_600 u0_6000 u0_5 u0_3:=by kernel_rfl
theorem aIC (f:GFieldDef) (u0_8:GDef) (u0_6:Str) (u0_60:Str) (u0_600:Int) (u0_6000:Int) (u0_5:Str) (u0_3:GSchema):Imp (zW f u0_8 u0_6 u0_60 u0_600 u0_6000 u0_5 u0_3) (vY O aE f u0_8 u0_6 u0_60 u0_600 u0_6000 u0_5 u0_3) (fun r v=>v=(aA r,(kP f u0_8 u0_6 u0_60 u0_600 u0_6000 u0_5 u0_3 r))):=by
 simp only [zW,vY,zd,zr]
 try simp only [evs,tys]
 exact Imp.some (by first | rfl | simp only [zes,kP,evs,tys,evl])
theorem aID {f:GFieldDef} {u0_8:GDef} {u0_6:Str} {u0_60:Str} {u0_600:Int} {u0_6000:Int} {u0_5:Str} {u0_3:GSchema} {r:Bool} (h:zW f u0_8 u0_6 u0_60 u0_600 u0_6000 u0_5 u0_3=some r):aEd f u0_8 u0_6 u0_60 u0_600 u0_6000 u0_5 u0_3=some r:=zV aC (aIC f u0_8 u0_6 u0_60 u0_600 u0_6000 u0_5 u0_3) Tryz.func180 (aKV _ _ f u0_8 u0_6 u0_60 u0_600 u0_6000 u0_5 u0_3) h
abbrev eU:List Sh:=[sf,(.func 180 [] [(.ptr 1 5 0)]),n6,n6,n6]
def tI (O:Orc) (LP:LBs):cG:=fun s1 s1u=>cnd (chkL eU s1) (cnd (chkU [[(8,[n6,.str,sf,sf,sf,sf]),(6,[.str,st',.str,n6,n6,st']),(5,[.str]),(3,[sf,.str,.str])]] s1u)
 (cnd (decide ((iv s1 4)<(iv s1 3)))
 (bnd (ix 6 (zs s1 0) (zn s1 4)) fun x7=>cnd (chk (.ref bG) x7)
 (bnd (O 180 [(.agg [(zt (rf x7) 0),(zs (rf x7) 1),(zt (rf x7) 2),(zn (rf x7) 3),(zn (rf x7) 4),(zs (rf x7) 5)]),(.ptr 2 5 0)] [[],[(8,[(zn (bx s1u 0 0) 0),(zt (bx s1u 0 0) 1),(zs (bx s1u 0 0) 2),(zs (bx s1u 0 0) 3),(zs (bx s1u 0 0) 4),(zs (bx s1u 0 0) 5)]),(6,[(zt (bx s1u 0 1) 0),(zo (bx s1u 0 1) 1),(zt (bx s1u 0 1) 2),(zn (bx s1u 0 1) 3),(zn (bx s1u 0 1) 4),(zo (bx s1u 0 1) 5)]),(5,[(zt (bx s1u 0 2) 0)]),(3,[(zs (bx s1u 0 3) 0),(zt (bx s1u 0 3) 1),(zt (bx s1u 0 3) 2)])]]) fun x9=>cnd (chkU [[],[(8,[n6,.str,sf,sf,sf,sf]),(6,[.str,st',.str,n6,n6,st']),(5,[.str]),(3,[sf,.str,.str])]] x9.2) (cnd (chk .bool x9.1)
 (cnd (aV x9.1)
 (some (.ret,[(zs s1 0),(.func (.func 180) [] [(.ptr 1 5 0)]),(zn s1 4),(zn s1 3),(zn s1 4)],[[(8,[(zn (bx x9.2 1 0) 0),(zt (bx x9.2 1 0) 1),(zs (bx x9.2 1 0) 2),(zs (bx x9.2 1 0) 3),(zs (bx x9.2 1 0) 4),(zs (bx x9.2 1 0) 5)]),(6,[(zt (bx x9.2 1 1) 0),(zo (bx x9.2 1 1) 1),(zt (bx x9.2 1 1) 2),(zn (bx x9.2 1 1) 3),(zn (bx x9.2 1 1) 4),(zo (bx x9.2 1 1) 5)]),(5,[(zt (bx x9.2 1 2) 0)]),(3,[(zs (bx x9.2 1 3) 0),(zt (bx x9.2 1 3) 1),(zt (bx x9.2 1 3) 2)])]]))
 (some (.nrm,[(zs s1 0),(.func (.func 180) [] [(.ptr 1 5 0)]),(zn s1 2),(zn s1 3),(i6 (w6 ((iv s1 4)+1)))],[[(8,[(zn (bx x9.2 1 0) 0),(zt (bx x9.2 1 0) 1),(zs (bx x9.2 1 0) 2),(zs (bx x9.2 1 0) 3),(zs (bx x9.2 1 0) 4),(zs (bx x9.2 1 0) 5)]),(6,[(zt (bx x9.2 1 1) 0),(zo (bx x9.2 1 1) 1),(zt (bx x9.2 1 1) 2),(zn (bx x9.2 1 1) 3),(zn (bx x9.2 1 1) 4),(zo (bx x9.2 1 1) 5)]),(5,[(zt (bx x9.2 1 2) 0)]),(3,[(zs (bx x9.2 1 3) 0),(zt (bx x9.2 1 3) 1),(zt (bx x9.2 1 3) 2)])]]))) none) none) none)
 (some (.brk 0,(pu (rb eU s1) 1 (.func (.func 180) [] [(.ptr 1 5 0)])),[[(8,[(zn (bx s1u 0 0) 0),(zt (bx s1u 0 0) 1),(zs (bx s1u 0 0) 2),(zs (bx s1u 0 0) 3),(zs (bx s1u 0 0) 4),(zs (bx s1u 0 0) 5)]),(6,[(zt (bx s1u 0 1) 0),(zo (bx s1u 0 1) 1),(zt (bx s1u 0 1) 2),(zn (bx s1u 0 1) 3),(zn (bx s1u 0 1) 4),(zo (bx s1u 0 1) 5)]),(5,[(zt (bx s1u 0 2) 0)]),(3,[(zs (bx s1u 0 3) 0),(zt (bx s1u 0 3) 1),(zt (bx s1u 0 3) 2)])]]))) none) none
def tJ (O:Orc) (LP:LBs) (s:List GFieldDef) (u0_8:GDef) (u0_6:Str) (u0_60:Str) (u0_600:Int) (u0_6000:Int) (u0_5:Str) (u0_3:GSchema):Option (PV×UP) :=
 bnd (LP (tI O LP) [(zq aG s),(.func (.func 180) [] [(.ptr 1 5 0)]),(i6 0),(i6 (List.length (List.map aG s):Int)),(i6 0)] [[(8,[(i6 u0_8.kind),(.str u0_8.name),(zq PV.str u0_8.faces),(zq aG u0_8.fields),(zq PV.str u0_8.parts),(zq aQ u0_8.params)]),(6,[(.str u0_6),(.slice [] [] true),(.str u0_60),(i6 u0_600),(i6 u0_6000),(.slice [] [] true)]),(5,[(.str u0_5)]),(3,[(zq aK u0_3.defs),(.str u0_3.query),(.str u0_3.mutation)])]]) fun y14 =>
 exIs y14.1 (some 0) (cnd (chkL eU y14.2.1) (cnd (chkU [[(8,[n6,.str,sf,sf,sf,sf]),(6,[.str,st',.str,n6,n6,st']),(5,[.str]),(3,[sf,.str,.str])]] y14.2.2)
 (some ((i6 (-1)),[[(8,[(zn (bx y14.2.2 0 0) 0),(zt (bx y14.2.2 0 0) 1),(zs (bx y14.2.2 0 0) 2),(zs (bx y14.2.2 0 0) 3),(zs (bx y14.2.2 0 0) 4),(zs (bx y14.2.2 0 0) 5)]),(6,[(zt (bx y14.2.2 0 1) 0),(zo (bx y14.2.2 0 1) 1),(zt (bx y14.2.2 0 1) 2),(zn (bx y14.2.2 0 1) 3),(zn (bx y14.2.2 0 1) 4),(zo (bx y14.2.2 0 1) 5)]),(5,[(zt (bx y14.2.2 0 2) 0)]),(3,[(zs (bx y14.2.2 0 3) 0),(zt (bx y14.2.2 0 3) 1),(zt (bx y14.2.2 0 3) 2)])]])) none) none)
 (exIs y14.1 none (cnd (chkL eU y14.2.1) (cnd (chkU [[(8,[n6,.str,sf,sf,sf,sf]),(6,[.str,st',.str,n6,n6,st']),(5,[.str]),(3,[sf,.str,.str])]] y14.2.2)
 (some ((zn y14.2.1 2),[[(8,[(zn (bx y14.2.2 0 0) 0),(zt (bx y14.2.2 0 0) 1),(zs (bx y14.2.2 0 0) 2),(zs (bx y14.2.2 0 0) 3),(zs (bx y14.2.2 0 0) 4),(zs (bx y14.2.2 0 0) 5)]),(6,[(zt (bx y14.2.2 0 1) 0),(zo (bx y14.2.2 0 1) 1),(zt (bx y14.2.2 0 1) 2),(zn (bx y14.2.2 0 1) 3),(zn (bx y14.2.2 0 1) 4),(zo (bx y14.2.2 0 1) 5)]),(5,[(zt (bx y14.2.2 0 2) 0)]),(3,[(zs (bx y14.2.2 0 3) 0),(zt (bx y14.2.2 0 3) 1),(zt (bx y14.2.2 0 3) 2)])]])) none) none)
 (none))
noncomputable def gD (s:List GFieldDef) (u0_8:GDef) (u0_6:Str) (u0_60:Str) (u0_600:Int) (u0_6000:Int) (u0_5:Str) (u0_3:GSchema):Int→Option (Int⊕(Unit⊕Int))
 | t_6 =>
 cnd (decide (t_6<(List.length s:Int)))
  (bnd (nthI s t_6) fun y8 =>
  bnd (aEd y8 u0_8 u0_6 u0_60 u0_600 u0_6000 u0_5 u0_3) fun y10 =>
  cnd y10
  (some (.inr (.inr t_6)))
  (some (.inl (IntKind.wrap .i64 (t_6+1)))))
  (some (.inr (.inl ())))
abbrev aHr (s:List GFieldDef) (u0_8:GDef) (u0_6:Str) (u0_60:Str) (u0_600:Int) (u0_6000:Int) (u0_5:Str) (u0_3:GSchema) (st:Int) (l:List PV) (u:UP):Prop:=l=[(zq aG s),(.func (.func 180) [] [(.ptr 1 5 0)]),(i6 0),(i6 (List.length s:Int)),(i6 st)]∧u=[[(8,[(i6 u0_8.kind),(.str u0_8.name),(zq PV.str u0_8.faces),(zq aG u0_8.fields),(zq PV.str u0_8.parts),(zq aQ u0_8.params)]),(6,[(.str u0_6),(.slice [] [] true),(.str u0_60),(i6 u0_600),(i6 u0_6000),(.slice [] [] true)]),(5,[(.str u0_5)]),(3,[(zq aK u0_3.defs),(.str u0_3.query),(.str u0_3.mutation)])]]
abbrev aHs (s:List GFieldDef) (u0_8:GDef) (u0_6:Str) (u0_60:Str) (u0_600:Int) (u0_6000:Int) (u0_5:Str) (u0_3:GSchema) (p:Unit⊕Int) (r:EU):Prop:=elim p (fun (p:Unit)=>∃ (t_11:Int),r=(Ex.brk 0,[(zq aG s),(.func (.func 180) [] [(.ptr 1 5 0)]),(i6 0),(i6 (List.length s:Int)),(i6 t_11)],[[(8,[(i6 u0_8.kind),(.str u0_8.name),(zq PV.str u0_8.faces),(zq aG u0_8.fields),(zq PV.str u0_8.parts),(zq aQ u0_8.params)]),(6,[(.str u0_6),(.slice [] [] true),(.str u0_60),(i6 u0_600),(i6 u0_6000),(.slice [] [] true)]),(5,[(.str u0_5)]),(3,[(zq aK u0_3.defs),(.str u0_3.query),(.str u0_3.mutation)])]])) (fun q2=>(fun (p:Int)=>∃ (t_13:Int),r=(Ex.ret,[(zq aG s),(.func (.func 180) [] [(.ptr 1 5 0)]),(i6 p),(i6 (List.length s:Int)),(i6 t_13)],[[(8,[(i6 u0_8.kind),(.str u0_8.name),(zq PV.str u0_8.faces),(zq aG u0_8.fields),(zq PV.str u0_8.parts),(zq aQ u0_8.params)]),(6,[(.str u0_6),(.slice [] [] true),(.str u0_60),(i6 u0_600),(i6 u0_6000),(.slice [] [] true)]),(5,[(.str u0_5)]),(3,[(zq aK u0_3.defs),(.str u0_3.query),(.str u0_3.mutation)])]])) q2)
noncomputable def mU (s:List GFieldDef) (u0_8:GDef) (u0_6:Str) (u0_60:Str) (u0_600:Int) (u0_6000:Int) (u0_5:Str) (u0_3:GSchema):Option Int :=
 bnd (bJ (gD s u0_8 u0_6 u0_60 u0_600 u0_6000 u0_5 u0_3) 0) fun e14_2=>elim e14_2
 (fun p14 =>
 some (-1))
 (fun t_12 =>
 some t_12)
def aIE:Decs:={decs:=[(14,(.ref bG)),(16,.bool)],ups:=[(16,[[],[(8,[n6,.str,sf,sf,sf,sf]),(6,[.str,st',.str,n6,n6,st']),(5,[.str]),(3,[sf,.str,.str])]])],loops:=[(2,[],⟨eU,[[(8,[n6,.str,sf,sf,sf,sf]),(6,[.str,st',.str,n6,n6,st']),(5,[.str]),(3,[sf,.str,.str])]],[(some 0,eU,[[(8,[n6,.str,sf,sf,sf,sf]),(6,[.str,st',.str,n6,n6,st']),(5,[.str]),(3,[sf,.str,.str])]]),(none,eU,[[(8,[n6,.str,sf,sf,sf,sf]),(6,[.str,st',.str,n6,n6,st']),(5,[.str]),(3,[sf,.str,.str])]])]⟩)]}
theorem aIF (O:Orc) (LP:LBs) (s:List GFieldDef) (u0_8:GDef) (u0_6:Str) (u0_60:Str) (u0_600:Int) (u0_6000:Int) (u0_5:Str) (u0_3:GSchema):eW 179 aIE Tryz.f179 O LP [(zq aG s),(.func (.func 180) [] [(.ptr 1 5 0)])] [[(8,[(i6 u0_8.kind),(.str u0_8.name),(zq PV.str u0_8.faces),(zq aG u0_8.fields),(zq PV.str u0_8.parts),(zq aQ u0_8.params)]),(6,[(.str u0_6),(.slice [] [] true),(.str u0_60),(i6 u0_600),(i6 u0_6000),(.slice [] [] true)]),(5,[(.str u0_5)]),(3,[(zq aK u0_3.defs),(.str u0_3.query),(.str u0_3.mutation)])]]=tJ O LP s u0_8 u0_6 u0_60 u0_600 u0_6000 u0_5 u0_3:=by kernel_rfl
theorem aEK (s:List GFieldDef) (u0_8:GDef) (u0_6:Str) (u0_60:Str) (u0_600:Int) (u0_6000:Int) (u0_5:Str) (u0_3:GSchema):Lok (aHr s u0_8 u0_6 u0_60 u0_600 u0_6000 u0_5 u0_3) (gD s u0_8 u0_6 u0_60 u0_600 u0_6000 u0_5 u0_3) (tI O aE) (aHs s u0_8 u0_6 u0_60 u0_600 u0_6000 u0_5 u0_3):=by
 rintro t_6 l u ⟨rfl,rfl⟩
 simp only [gD,tI,zd,zr]
 refine zG ?_
 try simp only [evs,tys]
 apply Imp.cnd
 ·refine zX aG cS fun y8 _ => ?_
  try simp only [evs,tys]
  refine Imp.gcall (f:=aA) (fu:=fun a=>[]::kP y8 u0_8 u0_6 u0_60 u0_600 u0_6000 u0_5 u0_3 a) (fun a h=>by first | exact tF rfl rfl (by first | rfl | (simp only [zes,tys];rfl)) (bU h) | (have h':=bU h;simp only [evs,tys,evl,kP] at h';exact tF rfl rfl (by first | rfl | (simp only [zes,tys];rfl)) h')) zK (fun a=>by first | rfl | (simp only [kP,evs,tys];first | rfl | (cases w<;>rfl))) fun y10 hy10 => ?_
  try simp only [aA,kP,evs,tys]
  apply Imp.cnd
  ·exact zT ⟨t_6,zE⟩
  ·exact zN
 ·exact zB ⟨t_6,zE⟩
theorem aHt (s:List GFieldDef) (u0_8:GDef) (u0_6:Str) (u0_60:Str) (u0_600:Int) (u0_6000:Int) (u0_5:Str) (u0_3:GSchema):Imp (mU s u0_8 u0_6 u0_60 u0_600 u0_6000 u0_5 u0_3) (tJ O aE s u0_8 u0_6 u0_60 u0_600 u0_6000 u0_5 u0_3) (fun r v=>v=(cM r,(bH s u0_8 u0_6 u0_60 u0_600 u0_6000 u0_5 u0_3 r))):=by
 simp only [mU,tJ,zd,zr]
 try simp only [evs,tys]
 refine zL (aEK s u0_8 u0_6 u0_60 u0_600 u0_6000 u0_5 u0_3) ?_
 rintro (p | t_12) vy14 hy14
 ·try simp only [aO,aP]
  obtain ⟨t_11,rfl⟩:=hy14
  refine zH ?_
  try simp only [evs,tys]
  exact Imp.some (by first | rfl | simp only [zes,bH,evs,tys,evl])
 ·try simp only [aO,aP]
  obtain ⟨t_13,rfl⟩:=hy14
  refine Imp.exMiss rfl ?_
  refine zH ?_
  try simp only [evs,tys]
  exact Imp.some (by first | rfl | simp only [zes,bH,evs,tys,evl])
theorem aHu {s:List GFieldDef} {u0_8:GDef} {u0_6:Str} {u0_60:Str} {u0_600:Int} {u0_6000:Int} {u0_5:Str} {u0_3:GSchema} {r:Int} (h:mU s u0_8 u0_6 u0_60 u0_600 u0_6000 u0_5 u0_3=some r):kQ s u0_8 u0_6 u0_60 u0_600 u0_6000 u0_5 u0_3=some r:=zV qI (aHt s u0_8 u0_6 u0_60 u0_600 u0_6000 u0_5 u0_3) Tryz.func179 (aIF _ _ s u0_8 u0_6 u0_60 u0_600 u0_6000 u0_5 u0_3) h
def aCp (O:Orc) (LP:LBs) (s:GSchema) (typ:Str) (name:Str):Option (PV×UP) :=
 cnd (name==([95,95,116,121,112,101,110,97,109,101]:Str))
 (aM O 140 [(eS s),(.str typ)] fun x1=>cnd (chk .bool x1)
 (cnd (aV x1)
 (some ((.tuple [(.agg [(.str [95,95,116,121,112,101,110,97,109,101]),(.slice [] [] false),(.str [83,116,114,105,110,103]),(i6 0),(i6 1),(.slice [] [] false)]),(.bool true)]),[]))
 (aM O 178 [(eS s),(.str typ)] fun x3=>cnd (chk (.tup [mW,.bool]) x3)
 (cnd (!(aV (tv x3 1)))
 (some ((.tuple [(.agg [(.str []),(.slice [] [] false),(.str []),(i6 0),(i6 0),(.slice [] [] false)]),(.bool false)]),[]))
 (cnd ((iv (tg x3 0) 0) != 1)
 (cnd ((iv (tg x3 0) 0) != 2)
 (some ((.tuple [(.agg [(.str []),(.slice [] [] false),(.str []),(i6 0),(i6 0),(.slice [] [] false)]),(.bool false)]),[]))
 (bnd (O 179 [(zs (tg x3 0) 3),(.func (.func 180) [] [(.ptr 1 5 0)])] [[(8,[(zn (tg x3 0) 0),(zt (tg x3 0) 1),(zs (tg x3 0) 2),(zs (tg x3 0) 3),(zs (tg x3 0) 4),(zs (tg x3 0) 5)]),(6,[(.str []),(.slice [] [] true),(.str []),(i6 0),(i6 0),(.slice [] [] true)]),(5,[(.str name)]),(3,[(zq aK s.defs),(.str s.query),(.str s.mutation)])]]) fun x5=>cnd (chkU [[(8,[n6,.str,sf,sf,sf,sf]),(6,[.str,st',.str,n6,n6,st']),(5,[.str]),(3,[sf,.str,.str])]] x5.2) (cnd (chk n6 x5.1)
 (cnd (decide ((intV x5.1)<0))
 (some ((.tuple [(.agg [(.str []),(.slice [] [] false),(.str []),(i6 0),(i6 0),(.slice [] [] false)]),(.bool false)]),[]))
 (bnd (ix 6 (zs (bx x5.2 0 0) 3) (i6 (intV x5.1))) fun x7=>cnd (chk (.ref bG) x7)
 (some ((.tuple [(.agg [(zt (rf x7) 0),(zs (rf x7) 1),(zt (rf x7) 2),(zn (rf x7) 3),(zn (rf x7) 4),(zs (rf x7) 5)]),(.bool true)]),[])) none)) none) none))
 (bnd (O 179 [(zs (tg x3 0) 3),(.func (.func 180) [] [(.ptr 1 5 0)])] [[(8,[(zn (tg x3 0) 0),(zt (tg x3 0) 1),(zs (tg x3 0) 2),(zs (tg x3 0) 3),(zs (tg x3 0) 4),(zs (tg x3 0) 5)]),(6,[(.str []),(.slice [] [] true),(.str []),(i6 0),(i6 0),(.slice [] [] true)]),(5,[(.str name)]),(3,[(zq aK s.defs),(.str s.query),(.str s.mutation)])]]) fun x9=>cnd (chkU [[(8,[n6,.str,sf,sf,sf,sf]),(6,[.str,st',.str,n6,n6,st']),(5,[.str]),(3,[sf,.str,.str])]] x9.2) (cnd (chk n6 x9.1)
 (cnd (decide ((intV x9.1)<0))
 (some ((.tuple [(.agg [(.str []),(.slice [] [] false),(.str []),(i6 0),(i6 0),(.slice [] [] false)]),(.bool false)]),[]))
 (bnd (ix 6 (zs (bx x9.2 0 0) 3) (i6 (intV x9.1))) fun x11=>cnd (chk (.ref bG) x11)
 (some ((.tuple [(.agg [(zt (rf x11) 0),(zs (rf x11) 1),(zt (rf x11) 2),(zn (rf x11) 3),(zn (rf x11) 4),(zs (rf x11) 5)]),(.bool true)]),[])) none)) none) none))) none)) none)
 (aM O 178 [(eS s),(.str typ)] fun x13=>cnd (chk (.tup [mW,.bool]) x13)
 (cnd (!(aV (tv x13 1)))
 (some ((.tuple [(.agg [(.str []),(.slice [] [] false),(.str []),(i6 0),(i6 0),(.slice [] [] false)]),(.bool false)]),[]))
 (cnd ((iv (tg x13 0) 0) != 1)
 (cnd ((iv (tg x13 0) 0) != 2)
 (some ((.tuple [(.agg [(.str []),(.slice [] [] false),(.str []),(i6 0),(i6 0),(.slice [] [] false)]),(.bool false)]),[]))
 (bnd (O 179 [(zs (tg x13 0) 3),(.func (.func 180) [] [(.ptr 1 5 0)])] [[(8,[(zn (tg x13 0) 0),(zt (tg x13 0) 1),(zs (tg x13 0) 2),(zs (tg x13 0) 3),(zs (tg x13 0) 4),(zs (tg x13 0) 5)]),(6,[(.str []),(.slice [] [] true),(.str []),(i6 0),(i6 0),(.slice [] [] true)]),(5,[(.str name)]),(3,[(zq aK s.defs),(.str s.query),(.str s.mutation)])]]) fun x15=>cnd (chkU [[(8,[n6,.str,sf,sf,sf,sf]),(6,[.str,st',.str,n6,n6,st']),(5,[.str]),(3,[sf,.str,.str])]] x15.2) (cnd (chk n6 x15.1)
 (cnd (decide ((intV x15.1)<0))
 (some ((.tuple [(.agg [(.str []),(.slice [] [] false),(.str []),(i6 0),(i6 0),(.slice [] [] false)]),(.bool false)]),[]))
 (bnd (ix 6 (zs (bx x15.2 0 0) 3) (i6 (intV x15.1))) fun x17=>cnd (chk (.ref bG) x17)
 (some ((.tuple [(.agg [(zt (rf x17) 0),(zs (rf x17) 1),(zt (rf x17) 2),(zn (rf x17) 3),(zn (rf x17) 4),(zs (rf x17) 5)]),(.bool true)]),[])) none)) none) none))
 (bnd (O 179 [(zs (tg x13 0) 3),(.func (.func 180) [] [(.ptr 1 5 0)])] [[(8,[(zn (tg x13 0) 0),(zt (tg x13 0) 1),(zs (tg x13 0) 2),(zs (tg x13 0) 3),(zs (tg x13 0) 4),(zs (tg x13 0) 5)]),(6,[(.str []),(.slice [] [] true),(.str []),(i6 0),(i6 0),(.slice [] [] true)]),(5,[(.str name)]),(3,[(zq aK s.defs),(.str s.query),(.str s.mutation)])]]) fun x19=>cnd (chkU [[(8,[n6,.str,sf,sf,sf,sf]),(6,[.str,st',.str,n6,n6,st']),(5,[.str]),(3,[sf,.str,.str])]] x19.2) (cnd (chk n6 x19.1)
 (cnd (decide ((intV x19.1)<0))
 (some ((.tuple [(.agg [(.str []),(.slice [] [] false),(.str []),(i6 0),(i6 0),(.slice [] [] false)]),(.bool false)]),[]))
 (bnd (ix 6 (zs (bx x19.2 0 0) 3) (i6 (intV x19.1))) fun x21=>cnd (chk (.ref bG) x21)
 (some ((.tuple [(.agg [(zt (rf x21) 0),(zs (rf x21) 1),(zt (rf x21) 2),(zn (rf x21) 3),(zn (rf x21) 4),(zs (rf x21) 5)]),(.bool true)]),[])) none)) none) none))) none)
noncomputable def aAS (s:GSchema) (typ:Str) (name:Str):Option (GFieldDef×Bool) :=
 cnd (name==([95,95,116,121,112,101,110,97,109,101]:Str))
 (bnd (lL s typ) fun y2 =>
 cnd y2
 (some ((GFieldDef.mk [95,95,116,121,112,101,110,97,109,101] ([]:List GParam) (GType.mk [83,116,114,105,110,103] 0 1) ([]:List GDir)),true))
 (bnd (aG8 s typ) fun y4 =>
 cnd (!y4.2)
 (some ((GFieldDef.mk [] ([]:List GParam) (GType.mk [] 0 0) ([]:List GDir)),false))
 (cnd (y4.1.kind != 1)
 (cnd (y4.1.kind != 2)
 (some ((GFieldDef.mk [] ([]:List GParam) (GType.mk [] 0 0) ([]:List GDir)),false))
 (bnd (kQ y4.1.fields y4.1 [] [] 0 0 name s) fun y6 =>
 cnd (decide (y6<0))
 (some ((GFieldDef.mk [] ([]:List GParam) (GType.mk [] 0 0) ([]:List GDir)),false))
 (bnd (nthI y4.1.fields y6) fun y8 =>
 some (y8,true))))
 (bnd (kQ y4.1.fields y4.1 [] [] 0 0 name s) fun y10 =>
 cnd (decide (y10<0))
 (some ((GFieldDef.mk [] ([]:List GParam) (GType.mk [] 0 0) ([]:List GDir)),false))
 (bnd (nthI y4.1.fields y10) fun y12 =>
 some (y12,true))))))
 (bnd (aG8 s typ) fun y14 =>
 cnd (!y14.2)
 (some ((GFieldDef.mk [] ([]:List GParam) (GType.mk [] 0 0) ([]:List GDir)),false))
 (cnd (y14.1.kind != 1)
 (cnd (y14.1.kind != 2)
 (some ((GFieldDef.mk [] ([]:List GParam) (GType.mk [] 0 0) ([]:List GDir)),false))
 (bnd (kQ y14.1.fields y14.1 [] [] 0 0 name s) fun y16 =>
 cnd (decide (y16<0))
 (some ((GFieldDef.mk [] ([]:List GParam) (GType.mk [] 0 0) ([]:List GDir)),false))
 (bnd (nthI y14.1.fields y16) fun y18 =>
 some (y18,true))))
 (bnd (kQ y14.1.fields y14.1 [] [] 0 0 name s) fun y20 =>
 cnd (decide (y20<0))
 (some ((GFieldDef.mk [] ([]:List GParam) (GType.mk [] 0 0) ([]:List GDir)),false))
 (bnd (nthI y14.1.fields y20) fun y22 =>
 some (y22,true)))))
def aQP:Decs:={decs:=[(16,.bool),(23,(.tup [mW,.bool])),(42,n6),(49,(.ref bG))],ups:=[(42,[[(8,[n6,.str,sf,sf,sf,sf]),(6,[.str,st',.str,n6,n6,st']),(5,[.str]),(3,[sf,.str,.str])]])]}
theorem aQQ (O:Orc) (LP:LBs) (s:GSchema) (typ:Str) (name:Str):eW 109 aQP Tryz.f109 O LP [(eS s),(.str typ),(.str name)] []=aCp O LP s typ name:=by kernel_rfl
theorem aNx (s:GSchema) (typ:Str) (name:Str):Imp (aAS s typ name) (aCp O aE s typ name) (Ri oM):=by
 simp only [aAS,aCp,zd,zr]
 try simp only [evs,tys]
 apply Imp.cnd
 ·refine zC rfl fun y2 _ => ?_
  try simp only [zes,evs,tys]
  apply Imp.cnd
  ·exact zR
  ·refine zC rfl fun y4 _ => ?_
   try simp only [zes,evs,tys]
   apply Imp.cnd
   ·exact zR
   ·apply Imp.cnd
    ·apply Imp.cnd
     ·exact zR
     ·refine Imp.gcall (f:=cM) (fu:=fun a=>bH y4.1.fields y4.1 [] [] 0 0 name s a) (fun a h=>by first | exact bU h | (have h':=bU h;simp only [evs,tys,evl,bH] at h';exact h')) zK (fun a=>by first | rfl | (simp only [bH,evs,tys];first | rfl | (cases w<;>rfl))) fun y6 hy6 => ?_
      try simp only [cM,bH,evs,tys]
      apply Imp.cnd
      ·exact zR
      ·refine zX aG cS fun y8 _ => ?_
       try simp only [evs,tys]
       exact zR
    ·refine Imp.gcall (f:=cM) (fu:=fun a=>bH y4.1.fields y4.1 [] [] 0 0 name s a) (fun a h=>by first | exact bU h | (have h':=bU h;simp only [evs,tys,evl,bH] at h';exact h')) zK (fun a=>by first | rfl | (simp only [bH,evs,tys];first | rfl | (cases w<;>rfl))) fun y10 hy10 => ?_
     try simp only [cM,bH,evs,tys]
     apply Imp.cnd
     ·exact zR
     ·refine zX aG cS fun y12 _ => ?_
      try simp only [evs,tys]
      exact zR
 ·refine zC rfl fun y14 _ => ?_
  try simp only [zes,evs,tys]
  apply Imp.cnd
  ·exact zR
  ·apply Imp.cnd
   ·apply Imp.cnd
    ·exact zR
    ·refine Imp.gcall (f:=cM) (fu:=fun a=>bH y14.1.fields y14.1 [] [] 0 0 name s a) (fun a h=>by first | exact bU h | (have h':=bU h;simp only [evs,tys,evl,bH] at h';exact h')) zK (fun a=>by first | rfl | (simp only [bH,evs,tys];first | rfl | (cases w<;>rfl))) fun y16 hy16 => ?_
     try simp only [cM,bH,evs,tys]
     apply Imp.cnd
     ·exact zR
     ·refine zX aG cS fun y18 _ => ?_
      try simp only [evs,tys]
      exact zR
   ·refine Imp.gcall (f:=cM) (fu:=fun a=>bH y14.1.fields y14.1 [] [] 0 0 name s a) (fun a h=>by first | exact bU h | (have h':=bU h;simp only [evs,tys,evl,bH] at h';exact h')) zK (fun a=>by first | rfl | (simp only [bH,evs,tys];first | rfl | (cases w<;>rfl))) fun y20 hy20 => ?_
    try simp only [cM,bH,evs,tys]
    apply Imp.cnd
    ·exact zR
    ·refine zX aG cS fun y22 _ => ?_
     try simp only [evs,tys]
     exact zR
theorem aNy {s:GSchema} {typ:Str} {name:Str} {r:GFieldDef×Bool} (h:aAS s typ name=some r):aF5 s typ name=some r:=zV aJg (aNx s typ name) Tryz.func109 (aQQ _ _ s typ name) h
def aEL (O:Orc) (LP:LBs) (s:GSchema) (name:Str):Option (PV×UP) :=
 aM O 201 [(eS s),(.str name),(.slice [(i6 0),(i6 4)] [] false)] fun x1=>cnd (chk .bool x1)
 (some ((.bool (aV x1)),[])) none
noncomputable def aDw (s:GSchema) (name:Str):Option Bool :=
 bnd (aKy s name [0,4]) fun y2 =>
 some y2
def aUs:Decs:={decs:=[(8,.bool)]}
theorem aUt (O:Orc) (LP:LBs) (s:GSchema) (name:Str):eW 139 aUs Tryz.f139 O LP [(eS s),(.str name)] []=aEL O LP s name:=by kernel_rfl
theorem aQR (s:GSchema) (name:Str):Imp (aDw s name) (aEL O aE s name) (Ri aA):=by
 simp only [aDw,aEL,zd,zr]
 try simp only [evs,tys]
 refine zC rfl fun y2 _ => ?_
 try simp only [zes,evs,tys]
 exact zR
theorem aQS {s:GSchema} {name:Str} {r:Bool} (h:aDw s name=some r):aPy s name=some r:=zV aC (aQR s name) Tryz.func139 (aUt _ _ s name) h
def rI (O:Orc) (LP:LBs) (s:GSchema) (name:Str):Option (PV×UP) :=
 aM O 201 [(eS s),(.str name),(.slice [(i6 1),(i6 2),(i6 3)] [] false)] fun x1=>cnd (chk .bool x1)
 (some ((.bool (aV x1)),[])) none
noncomputable def oF (s:GSchema) (name:Str):Option Bool :=
 bnd (aKy s name [1,2,3]) fun y2 =>
 some y2
def aHv:Decs:={decs:=[(8,.bool)]}
theorem aHw (O:Orc) (LP:LBs) (s:GSchema) (name:Str):eW 140 aHv Tryz.f140 O LP [(eS s),(.str name)] []=rI O LP s name:=by kernel_rfl
theorem aFN (s:GSchema) (name:Str):Imp (oF s name) (rI O aE s name) (Ri aA):=by
 simp only [oF,rI,zd,zr]
 try simp only [evs,tys]
 refine zC rfl fun y2 _ => ?_
 try simp only [zes,evs,tys]
 exact zR
theorem aFO {s:GSchema} {name:Str} {r:Bool} (h:oF s name=some r):lL s name=some r:=zV aC (aFN s name) Tryz.func140 (aHw _ _ s name) h
abbrev lT:List Sh:=[(.ptr 0 1 0),(.ptr 0 2 0),st',n6,n6,n6,.str,st',st',n6,n6,.str,sf,sf]
def aCq (O:Orc) (LP:LBs):cG:=fun s1 s1u=>cnd (chkL lT s1) (cnd (chkU [] s1u)
 (cnd (decide ((iv s1 3)<(List.length (ev s1 12):Int)))
 (bnd (ix 5 (zs s1 12) (zn s1 3)) fun x10=>cnd (chk (.ref mL) x10)
 (aM O 175 [(.agg [(zn (rf x10) 0),(zn (rf x10) 1),(zt (rf x10) 2),(zs (rf x10) 3),(zs (rf x10) 4)])] fun x12=>cnd (chk mL x12)
 (bnd (apd 5 (zo s1 2) (.slice [(.agg [(i6 (intV (gt (aggV x12) 0))),(i6 (intV (gt (aggV x12) 1))),(.str (strV (gt (aggV x12) 2))),(.slice (esV (gt (aggV x12) 3)) [] false),(.slice (esV (gt (aggV x12) 4)) [] false)])] [] true)) fun x14=>cnd (chk st' x14)
 (some (.nrm,(pu (pu (rb lT s1) 2 (.slice (esV x14) [] true)) 3 (i6 (w6 ((iv s1 3)+1)))),[])) none) none) none)
 (some (.brk 0,(rb lT s1),[]))) none) none
def aCr (O:Orc) (LP:LBs) (v0:GValue):Option (PV×UP) :=
 bnd (LP (aCq O LP) [(.ptr 0 1 0),(.ptr 0 2 0),(.slice [] [] true),(i6 0),(i6 0),(i6 0),(.str []),(.slice [] [] true),(.slice [] [] true),(i6 v0.kind),(i6 v0.n),(.str v0.s),(zq aN v0.l),(zq aD v0.m)] []) fun y18 =>
 exIs y18.1 (some 0) (cnd (chkL lT y18.2.1) (cnd (chkU [] y18.2.2)
 (aM O 103 [(zs y18.2.1 13)] fun x19=>cnd (chk sf x19)
 (some ((.agg [(zn y18.2.1 9),(zn y18.2.1 10),(zt y18.2.1 11),(zs y18.2.1 2),(.slice (esV x19) [] false)]),[])) none) none) none)
 (none)
noncomputable def lU (v0:GValue):((List GValue)×Int)→Option (((List GValue)×Int)⊕((List GValue)))
 | (l_8,i_9) =>
 cnd (decide (i_9<(List.length v0.l:Int)))
  (bnd (nthI v0.l i_9) fun y11 =>
  bnd (aAK y11) fun y13 =>
  bnd (tapp l_8 [y13]) fun y15 =>
  some (.inl (y15,(IntKind.wrap .i64 (i_9+1)))))
  (some (.inr l_8))
abbrev aFm (v0:GValue) (a0 a1:PV):List PV:=[(.ptr 0 1 0),(.ptr 0 2 0),a0,a1,(i6 0),(i6 0),(.str []),(.slice [] [] true),(.slice [] [] true),(i6 v0.kind),(i6 v0.n),(.str v0.s),(zq aN v0.l),(zq aD v0.m)]
abbrev aNz (v0:GValue) (st:(List GValue)×Int) (l:List PV) (u:UP):Prop:=l=(aFm v0 (zp aN st.1) (i6 st.2))∧u=[]
abbrev aNA (v0:GValue) (p:(List GValue)) (r:EU):Prop:=∃ (i_17:Int),r=(Ex.brk 0,(aFm v0 (zp aN p) (i6 i_17)),[])
noncomputable def aAT (v0:GValue):Option GValue :=
 bnd (bJ (lU v0) ([],0)) fun l_16 =>
 bnd (qJ v0.m) fun y20 =>
 some (GValue.mk v0.kind v0.n v0.s l_16 y20)
def aQT:Decs:={decs:=[(16,(.ref mL)),(18,mL),(20,st'),(24,sf)],loops:=[(3,[(2,5),(1,5)],⟨lT,[],[(some 0,lT,[])]⟩)]}
theorem aQU (O:Orc) (LP:LBs) (v0:GValue):eW 175 aQT Tryz.f175 O LP [(eV v0)] []=aCr O LP v0:=by kernel_rfl
theorem aIG (v0:GValue):Lok (aNz v0) (lU v0) (aCq O aE) (aNA v0):=by
 rintro ⟨l_8,i_9⟩ l u ⟨rfl,rfl⟩
 simp only [lU,aCq,zd,zr]
 refine zG ?_
 try simp only [evs,tys]
 apply Imp.cnd
 ·refine zX aN aAA fun y11 _ => ?_
  try simp only [evs,tys]
  refine zC rfl fun y13 _ => ?_
  try simp only [zes,evs,tys]
  refine Imp.op (f:=fun a => .slice (List.map aN a) [] true) (fun a h=>wK (enc:=aN) zI zI (fun a=>by first | rfl | simp only [evs,tys,evc]) h) (fun a=>rfl) fun y15 hy15 => ?_
  try simp only [evs,tys]
  exact zN
 ·exact zB ⟨i_9,zE⟩
theorem aNB (v0:GValue):Imp (aAT v0) (aCr O aE v0) (Ri yS):=by
 simp only [aAT,aCr,zd,zr]
 try simp only [evs,tys]
 refine zL (aIG v0) ?_
 rintro l_16 _ ⟨i_17,rfl⟩
 refine zH ?_
 try simp only [evs,tys]
 refine zC rfl fun y20 _ => ?_
 try simp only [zes,evs,tys]
 exact zR
theorem aNC {v0:GValue} {r:GValue} (h:aAT v0=some r):aAK v0=some r:=zV aTH (aNB v0) Tryz.func175 (aQU _ _ v0) h
def zY (O:Orc) (LP:LBs) (s:GSchema) (typ:Str) (x:GSel):Option (PV×UP) :=
 cnd (x.kind==0)
 (aM O 117 [(eS s),(.str typ),(.str x.name)] fun x1=>cnd (chk (.tup [bG,.bool]) x1)
 (some ((zt (tg x1 0) 2),[])) none)
 (cnd (x.kind==2)
 (cnd (x.on_==([]:Str))
 (some ((.str typ),[]))
 (some ((.str x.on_),[])))
 (some ((.str []),[])))
noncomputable def vZ (s:GSchema) (typ:Str) (x:GSel):Option Str :=
 cnd (x.kind==0)
 (bnd (aF3 s typ x.name) fun y2 =>
 some y2.1.t.name)
 (cnd (x.kind==2)
 (cnd (x.on_==([]:Str))
 (some typ)
 (some x.on_))
 (some []))
def aND:Decs:={decs:=[(18,(.tup [bG,.bool]))]}
theorem aNE (O:Orc) (LP:LBs) (s:GSchema) (typ:Str) (x:GSel):eW 184 aND Tryz.f184 O LP [(eS s),(.str typ),(eL x)] []=zY O LP s typ x:=by kernel_rfl
theorem aKW (s:GSchema) (typ:Str) (x:GSel):Imp (vZ s typ x) (zY O aE s typ x) (Ri mQ):=by
 simp only [vZ,zY,zd,zr]
 try simp only [evs,tys]
 apply Imp.cnd
 ·refine zC rfl fun y2 _ => ?_
  try simp only [zes,evs,tys]
  exact zR
 ·apply Imp.cnd
  ·apply Imp.cnd
   ·exact zR
   ·exact zR
  ·exact zR
theorem aKX {s:GSchema} {typ:Str} {x:GSel} {r:Str} (h:vZ s typ x=some r):aG6 s typ x=some r:=zV aDe (aKW s typ x) Tryz.func184 (aNE _ _ s typ x) h
def aKY (O:Orc) (LP:LBs) (s:GSchema) (name:Str) (a:Int) (b:Int) (c:Int):Option (PV×UP) :=
 aM O 164 [(eS s),(.str name)] fun x1=>cnd (chk (.tup [mW,.bool]) x1)
 (cnd (aV (tv x1 1))
 (cnd ((iv (tg x1 0) 0)==a)
 (some ((.bool true),[]))
 (cnd ((iv (tg x1 0) 0)==b)
 (some ((.bool true),[]))
 (some ((.bool ((iv (tg x1 0) 0)==c)),[]))))
 (some ((.bool false),[]))) none
noncomputable def aKZ (s:GSchema) (name:Str) (a:Int) (b:Int) (c:Int):Option Bool :=
 bnd (vL s name) fun y2 =>
 cnd y2.2
 (cnd (y2.1.kind==a)
 (some true)
 (cnd (y2.1.kind==b)
 (some true)
 (some (y2.1.kind==c))))
 (some false)
def aYn:Decs:={decs:=[(16,(.tup [mW,.bool]))]}
theorem aYo (O:Orc) (LP:LBs) (s:GSchema) (name:Str) (a:Int) (b:Int) (c:Int):eW 159 aYn Tryz.f159 O LP [(eS s),(.str name),(i6 a),(i6 b),(i6 c)] []=aKY O LP s name a b c:=by kernel_rfl
theorem aWz (s:GSchema) (name:Str) (a:Int) (b:Int) (c:Int):Imp (aKZ s name a b c) (aKY O aE s name a b c) (Ri aA):=by
 simp only [aKZ,aKY,zd,zr]
 try simp only [evs,tys]
 refine zC rfl fun y2 _ => ?_
 try simp only [zes,evs,tys]
 apply Imp.cnd
 ·apply Imp.cnd
  ·exact zR
  ·apply Imp.cnd
   ·exact zR
   ·exact zR
 ·exact zR
theorem aWA {s:GSchema} {name:Str} {a:Int} {b:Int} {c:Int} {r:Bool} (h:aKZ s name a b c=some r):aWs s name a b c=some r:=zV aC (aWz s name a b c) Tryz.func159 (aYo _ _ s name a b c) h
def zZ (O:Orc) (LP:LBs) (name:Str):Option (PV×UP) :=
 cnd (name==([73,110,116]:Str))
 (some ((.bool true),[]))
 (cnd (name==([83,116,114,105,110,103]:Str))
 (some ((.bool true),[]))
 (cnd (name==([66,111,111,108,101,97,110]:Str))
 (some ((.bool true),[]))
 (some ((.bool (name==([73,68]:Str))),[]))))
noncomputable def wA (name:Str):Option Bool :=
 cnd (name==([73,110,116]:Str))
 (some true)
 (cnd (name==([83,116,114,105,110,103]:Str))
 (some true)
 (cnd (name==([66,111,111,108,101,97,110]:Str))
 (some true)
 (some (name==([73,68]:Str)))))
def aNF:Decs:={}
theorem aNG (O:Orc) (LP:LBs) (name:Str):eW 156 aNF Tryz.f156 O LP [(.str name)] []=zZ O LP name:=by kernel_rfl
theorem aK0 (name:Str):Imp (wA name) (zZ O aE name) (Ri aA):=by
 simp only [wA,zZ,zd,zr]
 try simp only [evs,tys]
 apply Imp.cnd
 ·exact zR
 ·apply Imp.cnd
  ·exact zR
  ·apply Imp.cnd
   ·exact zR
   ·exact zR
theorem aK1 {name:Str} {r:Bool} (h:wA name=some r):aG7 name=some r:=zV aC (aK0 name) Tryz.func156 (aNG _ _ name) h
abbrev lV:List Sh:=[sf,.str,(.ptr 0 4 0),.bool,n6,.str,.str,n6,n6,.bool,n6,n6,.str,st',st']
def aCs (O:Orc) (LP:LBs):cG:=fun s1 s1u=>cnd (chkL lV s1) (cnd (chkU [] s1u)
 (cnd (decide ((iv s1 4)<(List.length (ev s1 0):Int)))
 (bnd (ix 10 (zs s1 0) (zn s1 4)) fun x7=>cnd (chk (.ref jR) x7)
 (cnd ((sv (rf x7) 0)==(sv s1 1))
 (bnd (ix 10 (zs s1 0) (zn s1 4)) fun x9=>cnd (chk (.ref jR) x9)
 (some (.ret,[(zs s1 0),(zt s1 1),(.ptr 0 4 0),(.bool true),(zn s1 4),(zt (rf x9) 0),(zt (rf x9) 1),(zn (rf x9) 2),(zn (rf x9) 3),(zb (rf x9) 4),(zn (rf x9) 5),(zn (rf x9) 6),(zt (rf x9) 7),(zs (rf x9) 8),(zs (rf x9) 9)],[])) none)
 (some (.nrm,(pu (rb lV s1) 4 (i6 (w6 ((iv s1 4)+1)))),[]))) none)
 (some (.brk 0,(rb lV s1),[]))) none) none
def aCt (O:Orc) (LP:LBs) (l0:List GParam) (name:Str):Option (PV×UP) :=
 bnd (LP (aCs O LP) [(zq aQ l0),(.str name),(.ptr 0 4 0),(.bool false),(i6 0),(.str []),(.str []),(i6 0),(i6 0),(.bool false),(i6 0),(i6 0),(.str []),(.slice [] [] true),(.slice [] [] true)] []) fun y23 =>
 exIs y23.1 (some 0) (cnd (chkL lV y23.2.1) (cnd (chkU [] y23.2.2)
 (some ((.tuple [(.agg [(.str []),(.str []),(i6 0),(i6 0),(.bool false),(i6 0),(i6 0),(.str []),(.slice [] [] false),(.slice [] [] false)]),(.bool false)]),[])) none) none)
 (exIs y23.1 none (cnd (chkL [sf,.str,(.ptr 0 4 0),.bool,n6,.str,.str,n6,n6,.bool,n6,n6,.str,sf,sf] y23.2.1) (cnd (chkU [] y23.2.2)
 (some ((.tuple [(.agg [(zt y23.2.1 5),(zt y23.2.1 6),(zn y23.2.1 7),(zn y23.2.1 8),(zb y23.2.1 9),(zn y23.2.1 10),(zn y23.2.1 11),(zt y23.2.1 12),(zs y23.2.1 13),(zs y23.2.1 14)]),(zb y23.2.1 3)]),[])) none) none)
 (none))
noncomputable def sT (l0:List GParam) (name:Str):Int→Option (Int⊕(Unit⊕(Str×Str×Int×Int×Bool×Int×Int×Str×(List GValue)×(List GMember))))
 | i_6 =>
 cnd (decide (i_6<(List.length l0:Int)))
  (bnd (nthI l0 i_6) fun y8 =>
  cnd (y8.name==name)
  (bnd (nthI l0 i_6) fun y10 =>
  some (.inr (.inr (y10.name,y10.t.name,y10.t.lists,y10.t.musts,y10.has,y10.default.kind,y10.default.n,y10.default.s,y10.default.l,y10.default.m))))
  (some (.inl (IntKind.wrap .i64 (i_6+1)))))
  (some (.inr (.inl ())))
abbrev aNH (l0:List GParam) (name:Str) (st:Int) (l:List PV) (u:UP):Prop:=l=[(zq aQ l0),(.str name),(.ptr 0 4 0),(.bool false),(i6 st),(.str []),(.str []),(i6 0),(i6 0),(.bool false),(i6 0),(i6 0),(.str []),(.slice [] [] true),(.slice [] [] true)]∧u=[]
abbrev aNI (l0:List GParam) (name:Str) (p:Unit⊕(Str×Str×Int×Int×Bool×Int×Int×Str×(List GValue)×(List GMember))) (r:EU):Prop:=elim p (fun (p:Unit)=>∃ (i_11:Int),r=(Ex.brk 0,[(zq aQ l0),(.str name),(.ptr 0 4 0),(.bool false),(i6 i_11),(.str []),(.str []),(i6 0),(i6 0),(.bool false),(i6 0),(i6 0),(.str []),(.slice [] [] true),(.slice [] [] true)],[])) (fun q2=>(fun (p:Str×Str×Int×Int×Bool×Int×Int×Str×(List GValue)×(List GMember))=>∃ (i_12:Int),r=(Ex.ret,[(zq aQ l0),(.str name),(.ptr 0 4 0),(.bool true),(i6 i_12),(.str p.1),(.str p.2.1),(i6 p.2.2.1),(i6 p.2.2.2.1),(.bool p.2.2.2.2.1),(i6 p.2.2.2.2.2.1),(i6 p.2.2.2.2.2.2.1),(.str p.2.2.2.2.2.2.2.1),(zq aN p.2.2.2.2.2.2.2.2.1),(zq aD p.2.2.2.2.2.2.2.2.2)],[])) q2)
noncomputable def uO (l0:List GParam) (name:Str):Option (GParam×Bool) :=
 bnd (bJ (sT l0 name) 0) fun e23_2=>elim e23_2
 (fun p23 =>
 some ((GParam.mk [] (GType.mk [] 0 0) false (GValue.mk 0 0 [] ([]:List GValue) ([]:List GMember))),false))
 (fun p23 =>
 some ((GParam.mk p23.1 (GType.mk p23.2.1 p23.2.2.1 p23.2.2.2.1) p23.2.2.2.2.1 (GValue.mk p23.2.2.2.2.2.1 p23.2.2.2.2.2.2.1 p23.2.2.2.2.2.2.2.1 p23.2.2.2.2.2.2.2.2.1 p23.2.2.2.2.2.2.2.2.2)),true))
def aQV:Decs:={decs:=[(15,(.ref jR)),(22,(.ref jR))],loops:=[(2,[(4,10)],⟨lV,[],[(some 0,lV,[]),(none,[sf,.str,(.ptr 0 4 0),.bool,n6,.str,.str,n6,n6,.bool,n6,n6,.str,sf,sf],[])]⟩)]}
theorem aQW (O:Orc) (LP:LBs) (l0:List GParam) (name:Str):eW 193 aQV Tryz.f193 O LP [(zq aQ l0),(.str name)] []=aCt O LP l0 name:=by kernel_rfl
theorem aIH (l0:List GParam) (name:Str):Lok (aNH l0 name) (sT l0 name) (aCs O aE) (aNI l0 name):=by
 rintro i_6 l u ⟨rfl,rfl⟩
 simp only [sT,aCs,zd,zr]
 refine zG ?_
 try simp only [evs,tys]
 apply Imp.cnd
 ·refine zX aQ nK fun y8 _ => ?_
  try simp only [evs,tys]
  apply Imp.cnd
  ·refine zX aQ nK fun y10 _ => ?_
   try simp only [evs,tys]
   exact zT ⟨i_6,zE⟩
  ·exact zN
 ·exact zB ⟨i_6,zE⟩
theorem aNJ (l0:List GParam) (name:Str):Imp (uO l0 name) (aCt O aE l0 name) (Ri uC):=by
 simp only [uO,aCt,zd,zr]
 try simp only [evs,tys]
 refine zL (aIH l0 name) ?_
 rintro (p | ⟨b_13,b_14,b_15,b_16,b_17,b_18,b_19,b_20,b_21,b_22⟩) vy23 hy23
 ·try simp only [aO,aP]
  obtain ⟨i_11,rfl⟩:=hy23
  refine zH ?_
  try simp only [evs,tys]
  exact zR
 ·try simp only [aO,aP]
  obtain ⟨i_12,rfl⟩:=hy23
  refine Imp.exMiss rfl ?_
  refine zH ?_
  try simp only [evs,tys]
  exact zR
theorem aNK {l0:List GParam} {name:Str} {r:GParam×Bool} (h:uO l0 name=some r):aKx l0 name=some r:=zV aTI (aNJ l0 name) Tryz.func193 (aQW _ _ l0 name) h
abbrev qL:List Sh:=[.str,sf,(.ptr 0 4 0),.bool,n6,n6,n6,.str,st',st']
def aHx (O:Orc) (LP:LBs):cG:=fun s1 s1u=>cnd (chkL qL s1) (cnd (chkU [] s1u)
 (cnd (decide ((iv s1 4)<(List.length (ev s1 1):Int)))
 (bnd (ix 6 (zs s1 1) (zn s1 4)) fun x7=>cnd (chk (.ref dP) x7)
 (cnd ((sv (rf x7) 0)==(sv s1 0))
 (bnd (ix 6 (zs s1 1) (zn s1 4)) fun x9=>cnd (chk (.ref dP) x9)
 (some (.ret,[(zt s1 0),(zs s1 1),(.ptr 0 4 0),(.bool true),(zn s1 4),(zn (rf x9) 1),(zn (rf x9) 2),(zt (rf x9) 3),(zs (rf x9) 4),(zs (rf x9) 5)],[])) none)
 (some (.nrm,(pu (rb qL s1) 4 (i6 (w6 ((iv s1 4)+1)))),[]))) none)
 (some (.brk 0,(rb qL s1),[]))) none) none
def aHy (O:Orc) (LP:LBs) (name:Str) (l0:List GMember):Option (PV×UP) :=
 bnd (LP (aHx O LP) [(.str name),(zq aD l0),(.ptr 0 4 0),(.bool false),(i6 0),(i6 0),(i6 0),(.str []),(.slice [] [] true),(.slice [] [] true)] []) fun y18 =>
 exIs y18.1 (some 0) (cnd (chkL qL y18.2.1) (cnd (chkU [] y18.2.2)
 (some ((.tuple [(.agg [(i6 0),(i6 0),(.str []),(.slice [] [] false),(.slice [] [] false)]),(.bool false)]),[])) none) none)
 (exIs y18.1 none (cnd (chkL [.str,sf,(.ptr 0 4 0),.bool,n6,n6,n6,.str,sf,sf] y18.2.1) (cnd (chkU [] y18.2.2)
 (some ((.tuple [(.agg [(zn y18.2.1 5),(zn y18.2.1 6),(zt y18.2.1 7),(zs y18.2.1 8),(zs y18.2.1 9)]),(zb y18.2.1 3)]),[])) none) none)
 (none))
noncomputable def qM (name:Str) (l0:List GMember):Int→Option (Int⊕(Unit⊕(Int×Int×Str×(List GValue)×(List GMember))))
 | i_6 =>
 cnd (decide (i_6<(List.length l0:Int)))
  (bnd (nthI l0 i_6) fun y8 =>
  cnd (y8.name==name)
  (bnd (nthI l0 i_6) fun y10 =>
  some (.inr (.inr (y10.v.kind,y10.v.n,y10.v.s,y10.v.l,y10.v.m))))
  (some (.inl (IntKind.wrap .i64 (i_6+1)))))
  (some (.inr (.inl ())))
abbrev aUu (name:Str) (l0:List GMember) (st:Int) (l:List PV) (u:UP):Prop:=l=[(.str name),(zq aD l0),(.ptr 0 4 0),(.bool false),(i6 st),(i6 0),(i6 0),(.str []),(.slice [] [] true),(.slice [] [] true)]∧u=[]
abbrev aUv (name:Str) (l0:List GMember) (p:Unit⊕(Int×Int×Str×(List GValue)×(List GMember))) (r:EU):Prop:=elim p (fun (p:Unit)=>∃ (i_11:Int),r=(Ex.brk 0,[(.str name),(zq aD l0),(.ptr 0 4 0),(.bool false),(i6 i_11),(i6 0),(i6 0),(.str []),(.slice [] [] true),(.slice [] [] true)],[])) (fun q2=>(fun (p:Int×Int×Str×(List GValue)×(List GMember))=>∃ (i_12:Int),r=(Ex.ret,[(.str name),(zq aD l0),(.ptr 0 4 0),(.bool true),(i6 i_12),(i6 p.1),(i6 p.2.1),(.str p.2.2.1),(zq aN p.2.2.2.1),(zq aD p.2.2.2.2)],[])) q2)
noncomputable def aDx (name:Str) (l0:List GMember):Option (GValue×Bool) :=
 bnd (bJ (qM name l0) 0) fun e18_2=>elim e18_2
 (fun p18 =>
 some ((GValue.mk 0 0 [] ([]:List GValue) ([]:List GMember)),false))
 (fun p18 =>
 some ((GValue.mk p18.1 p18.2.1 p18.2.2.1 p18.2.2.2.1 p18.2.2.2.2),true))
def aWB:Decs:={decs:=[(15,(.ref dP)),(22,(.ref dP))],loops:=[(2,[(4,5)],⟨qL,[],[(some 0,qL,[]),(none,[.str,sf,(.ptr 0 4 0),.bool,n6,n6,n6,.str,sf,sf],[])]⟩)]}
theorem aWC (O:Orc) (LP:LBs) (name:Str) (l0:List GMember):eW 219 aWB Tryz.f219 O LP [(.str name),(zq aD l0)] []=aHy O LP name l0:=by kernel_rfl
theorem aNL (name:Str) (l0:List GMember):Lok (aUu name l0) (qM name l0) (aHx O aE) (aUv name l0):=by
 rintro i_6 l u ⟨rfl,rfl⟩
 simp only [qM,aHx,zd,zr]
 refine zG ?_
 try simp only [evs,tys]
 apply Imp.cnd
 ·refine zX aD fP fun y8 _ => ?_
  try simp only [evs,tys]
  apply Imp.cnd
  ·refine zX aD fP fun y10 _ => ?_
   try simp only [evs,tys]
   exact zT ⟨i_6,zE⟩
  ·exact zN
 ·exact zB ⟨i_6,zE⟩
theorem aUw (name:Str) (l0:List GMember):Imp (aDx name l0) (aHy O aE name l0) (Ri aEe):=by
 simp only [aDx,aHy,zd,zr]
 try simp only [evs,tys]
 refine zL (aNL name l0) ?_
 rintro (p | ⟨b_13,b_14,b_15,b_16,b_17⟩) vy18 hy18
 ·try simp only [aO,aP]
  obtain ⟨i_11,rfl⟩:=hy18
  refine zH ?_
  try simp only [evs,tys]
  exact zR
 ·try simp only [aO,aP]
  obtain ⟨i_12,rfl⟩:=hy18
  refine Imp.exMiss rfl ?_
  refine zH ?_
  try simp only [evs,tys]
  exact zR
theorem aJi {name:Str} {l0:List GMember} {r:GValue×Bool} (h:aDx name l0=some r):aSk name l0=some r:=zV aYm (aUw name l0) Tryz.func219 (aWC _ _ name l0) h
def aK2 (O:Orc) (LP:LBs) (t:GType):Option (PV×UP) :=
 aM O 101 [(eT t)] fun x1=>cnd (chk .bool x1)
 (cnd (aV x1)
 (some ((.bool ((bits .and .i64 t.musts 1)==1)),[]))
 (some ((.bool false),[]))) none
noncomputable def aK3 (t:GType):Option Bool :=
 bnd (oN t) fun y2 =>
 cnd y2
 (some ((bits .and .i64 t.musts 1)==1))
 (some false)
def aYp:Decs:={decs:=[(4,.bool)]}
theorem aYq (O:Orc) (LP:LBs) (t:GType):eW 195 aYp Tryz.f195 O LP [(eT t)] []=aK2 O LP t:=by kernel_rfl
theorem aWD (t:GType):Imp (aK3 t) (aK2 O aE t) (Ri aA):=by
 simp only [aK3,aK2,zd,zr]
 try simp only [evs,tys]
 refine zC rfl fun y2 _ => ?_
 try simp only [zes,evs,tys]
 apply Imp.cnd
 ·exact zR
 ·exact zR
theorem aWE {t:GType} {r:Bool} (h:aK3 t=some r):bAJ t=some r:=zV aC (aWD t) Tryz.func195 (aYq _ _ t) h
def aCu (O:Orc) (LP:LBs) (c:Int):Option (PV×UP) :=
 cnd (decide (c≥48))
 (some ((.bool (decide (c≤57))),[]))
 (some ((.bool false),[]))
noncomputable def aAU (c:Int):Option Bool :=
 cnd (decide (c≥48))
 (some (decide (c≤57)))
 (some false)
def aQX:Decs:={}
theorem aQY (O:Orc) (LP:LBs) (c:Int):eW 170 aQX Tryz.f170 O LP [(.int .u8 c)] []=aCu O LP c:=by kernel_rfl
theorem aNM (c:Int):Imp (aAU c) (aCu O aE c) (Ri aA):=by
 simp only [aAU,aCu,zd,zr]
 try simp only [evs,tys]
 apply Imp.cnd
 ·exact zR
 ·exact zR
theorem aNN {c:Int} {r:Bool} (h:aAU c=some r):aF6 c=some r:=zV aC (aNM c) Tryz.func170 (aQY _ _ c) h
def aCv (O:Orc) (LP:LBs) (c:Int):Option (PV×UP) :=
 cnd (decide (c≥97))
 (cnd (decide (c≤122))
 (some ((.bool true),[]))
 (cnd (decide (c≥65))
 (cnd (decide (c≤90))
 (some ((.bool true),[]))
 (some ((.bool (c==95)),[])))
 (some ((.bool (c==95)),[]))))
 (cnd (decide (c≥65))
 (cnd (decide (c≤90))
 (some ((.bool true),[]))
 (some ((.bool (c==95)),[])))
 (some ((.bool (c==95)),[])))
noncomputable def aAV (c:Int):Option Bool :=
 cnd (decide (c≥97))
 (cnd (decide (c≤122))
 (some true)
 (cnd (decide (c≥65))
 (cnd (decide (c≤90))
 (some true)
 (some (c==95)))
 (some (c==95))))
 (cnd (decide (c≥65))
 (cnd (decide (c≤90))
 (some true)
 (some (c==95)))
 (some (c==95)))
def aQZ:Decs:={}
theorem aQ0 (O:Orc) (LP:LBs) (c:Int):eW 169 aQZ Tryz.f169 O LP [(.int .u8 c)] []=aCv O LP c:=by kernel_rfl
theorem aNO (c:Int):Imp (aAV c) (aCv O aE c) (Ri aA):=by
 simp only [aAV,aCv,zd,zr]
 try simp only [evs,tys]
 apply Imp.cnd
 ·apply Imp.cnd
  ·exact zR
  ·apply Imp.cnd
   ·apply Imp.cnd
    ·exact zR
    ·exact zR
   ·exact zR
 ·apply Imp.cnd
  ·apply Imp.cnd
   ·exact zR
   ·exact zR
  ·exact zR
theorem aNP {c:Int} {r:Bool} (h:aAV c=some r):aF7 c=some r:=zV aC (aNO c) Tryz.func169 (aQ0 _ _ c) h
abbrev aZ:List Sh:=[sf,.str,n6,n6,n6]
def dR (O:Orc) (LP:LBs):cG:=fun s1 s1u=>cnd (chkL aZ s1) (cnd (chkU [] s1u)
 (cnd (decide ((iv s1 4)<(iv s1 3)))
 (bnd (ix 1 (zs s1 0) (zn s1 4)) fun x5=>cnd (chk (.ref .str) x5)
 (cnd ((sv s1 1)==(strV (refV x5)))
 (some (.ret,[(zs s1 0),(zt s1 1),(zn s1 4),(zn s1 3),(zn s1 4)],[]))
 (some (.nrm,[(zs s1 0),(zt s1 1),(zn s1 2),(zn s1 3),(i6 (w6 ((iv s1 4)+1)))],[]))) none)
 (some (.brk 0,(rb aZ s1),[]))) none) none
def dS (O:Orc) (LP:LBs) (s:List Str) (v0:Str):Option (PV×UP) :=
 bnd (LP (dR O LP) [(zq PV.str s),(.str v0),(i6 0),(i6 (List.length (List.map PV.str s):Int)),(i6 0)] []) fun y10 =>
 exIs y10.1 (some 0) (cnd (chkL aZ y10.2.1) (cnd (chkU [] y10.2.2)
 (some ((i6 (-1)),[])) none) none)
 (exIs y10.1 none (cnd (chkL aZ y10.2.1) (cnd (chkU [] y10.2.2)
 (some ((zn y10.2.1 2),[])) none) none)
 (none))
noncomputable def bI (s:List Str) (v0:Str):Int→Option (Int⊕(Unit⊕Int))
 | t_4 =>
 cnd (decide (t_4<(List.length s:Int)))
  (bnd (nthI s t_4) fun y6 =>
  cnd (v0==y6)
  (some (.inr (.inr t_4)))
  (some (.inl (IntKind.wrap .i64 (t_4+1)))))
  (some (.inr (.inl ())))
abbrev oU (s:List Str) (v0:Str) (st:Int) (l:List PV) (u:UP):Prop:=l=[(zq PV.str s),(.str v0),(i6 0),(i6 (List.length s:Int)),(i6 st)]∧u=[]
abbrev oV (s:List Str) (v0:Str) (p:Unit⊕Int) (r:EU):Prop:=elim p (fun (p:Unit)=>∃ (t_7:Int),r=(Ex.brk 0,[(zq PV.str s),(.str v0),(i6 0),(i6 (List.length s:Int)),(i6 t_7)],[])) (fun q2=>(fun (p:Int)=>∃ (t_9:Int),r=(Ex.ret,[(zq PV.str s),(.str v0),(i6 p),(i6 (List.length s:Int)),(i6 t_9)],[])) q2)
noncomputable def bY (s:List Str) (v0:Str):Option Int :=
 bnd (bJ (bI s v0) 0) fun e10_2=>elim e10_2
 (fun p10 =>
 some (-1))
 (fun t_8 =>
 some t_8)
def pK:Decs:={decs:=[(14,(.ref .str))],loops:=[(2,[],⟨aZ,[],[(some 0,aZ,[]),(none,aZ,[])]⟩)]}
theorem pL (O:Orc) (LP:LBs) (s:List Str) (v0:Str):eW 200 pK Tryz.f200 O LP [(zq PV.str s),(.str v0)] []=dS O LP s v0:=by kernel_rfl
theorem mZ (s:List Str) (v0:Str):Lok (oU s v0) (bI s v0) (dR O aE) (oV s v0):=by
 rintro t_4 l u ⟨rfl,rfl⟩
 simp only [bI,dR,zd,zr]
 refine zG ?_
 try simp only [evs,tys]
 apply Imp.cnd
 ·refine zX PV.str (fun _=>rfl) fun y6 _ => ?_
  try simp only [evs,tys]
  apply Imp.cnd
  ·exact zT ⟨t_4,zE⟩
  ·exact zN
 ·exact zB ⟨t_4,zE⟩
theorem oW (s:List Str) (v0:Str):Imp (bY s v0) (dS O aE s v0) (Ri cM):=by
 simp only [bY,dS,zd,zr]
 try simp only [evs,tys]
 refine zL (mZ s v0) ?_
 rintro (p | t_8) vy10 hy10
 ·try simp only [aO,aP]
  obtain ⟨t_7,rfl⟩:=hy10
  refine zH ?_
  try simp only [evs,tys]
  exact zR
 ·try simp only [aO,aP]
  obtain ⟨t_9,rfl⟩:=hy10
  refine Imp.exMiss rfl ?_
  refine zH ?_
  try simp only [evs,tys]
  exact zR
theorem oX {s:List Str} {v0:Str} {r:Int} (h:bY s v0=some r):dB s v0=some r:=zV qI (oW s v0) Tryz.func200 (pL _ _ s v0) h
abbrev kY:List Sh:=[.str,(.ptr 0 4 0),.bool,sf,n6,n6,n6,.str,st',st',st',st',sf,.str,.str]
def aEM (O:Orc) (LP:LBs):cG:=fun s3 s3u=>cnd (chkL kY s3) (cnd (chkU [] s3u)
 (cnd (decide ((iv s3 5)<(iv s3 4)))
 (bnd (ix 6 (zs s3 3) (zn s3 5)) fun x7=>cnd (chk (.ref mW) x7)
 (cnd ((sv (rf x7) 1)==(sv s3 0))
 (some (.ret,(pu (pu (pu (pu (pu (pu (pu (rb kY s3) 2 (.bool true)) 6 (zn (rf x7) 0)) 7 (zt (rf x7) 1)) 8 (zs (rf x7) 2)) 9 (zs (rf x7) 3)) 10 (zs (rf x7) 4)) 11 (zs (rf x7) 5)),[]))
 (some (.nrm,(pu (rb kY s3) 5 (i6 (w6 ((iv s3 5)+1)))),[]))) none)
 (some (.brk 0,(rb kY s3),[]))) none) none
def aEN (O:Orc) (LP:LBs) (s:GSchema) (name:Str):Option (PV×UP) :=
 aM O 216 [(.str name)] fun x1=>cnd (chk .bool x1)
 (cnd (aV x1)
 (some ((.tuple [(.agg [(i6 0),(.str name),(.slice [] [] false),(.slice [] [] false),(.slice [] [] false),(.slice [] [] false)]),(.bool true)]),[]))
 (bnd (LP (aEM O LP) [(.str name),(.ptr 0 4 0),(.bool false),(zq aK s.defs),(i6 (List.length (List.map aK s.defs):Int)),(i6 0),(i6 0),(.str []),(.slice [] [] true),(.slice [] [] true),(.slice [] [] true),(.slice [] [] true),(zq aK s.defs),(.str s.query),(.str s.mutation)] []) fun y17 =>
 exIs y17.1 (some 0) (cnd (chkL kY y17.2.1) (cnd (chkU [] y17.2.2)
 (some ((.tuple [(.agg [(i6 0),(.str []),(.slice [] [] false),(.slice [] [] false),(.slice [] [] false),(.slice [] [] false)]),(.bool false)]),[])) none) none)
 (exIs y17.1 none (cnd (chkL [.str,(.ptr 0 4 0),.bool,sf,n6,n6,n6,.str,sf,sf,sf,sf,sf,.str,.str] y17.2.1) (cnd (chkU [] y17.2.2)
 (some ((.tuple [(.agg [(zn y17.2.1 6),(zt y17.2.1 7),(zs y17.2.1 8),(zs y17.2.1 9),(zs y17.2.1 10),(zs y17.2.1 11)]),(zb y17.2.1 2)]),[])) none) none)
 (none)))) none
noncomputable def nW (s:GSchema) (name:Str):Int→Option (Int⊕(Unit⊕(Int×Str×(List Str)×(List GFieldDef)×(List Str)×(List GParam))))
 | t_6 =>
 cnd (decide (t_6<(List.length s.defs:Int)))
  (bnd (nthI s.defs t_6) fun y8 =>
  cnd (y8.name==name)
  (some (.inr (.inr (y8.kind,y8.name,y8.faces,y8.fields,y8.parts,y8.params))))
  (some (.inl (IntKind.wrap .i64 (t_6+1)))))
  (some (.inr (.inl ())))
abbrev aCw (s:GSchema) (name:Str) (a0 a1 a2 a3 a4 a5 a6 a7:PV):List PV:=[(.str name),(.ptr 0 4 0),a0,(zq aK s.defs),(i6 (List.length s.defs:Int)),a1,a2,a3,a4,a5,a6,a7,(zq aK s.defs),(.str s.query),(.str s.mutation)]
abbrev aQ1 (s:GSchema) (name:Str) (st:Int) (l:List PV) (u:UP):Prop:=l=(aCw s name (.bool false) (i6 st) (i6 0) (.str []) (.slice [] [] true) (.slice [] [] true) (.slice [] [] true) (.slice [] [] true))∧u=[]
abbrev aQ2 (s:GSchema) (name:Str) (p:Unit⊕(Int×Str×(List Str)×(List GFieldDef)×(List Str)×(List GParam))) (r:EU):Prop:=elim p (fun (p:Unit)=>∃ (t_9:Int),r=(Ex.brk 0,(aCw s name (.bool false) (i6 t_9) (i6 0) (.str []) (.slice [] [] true) (.slice [] [] true) (.slice [] [] true) (.slice [] [] true)),[])) (fun (p:Int×Str×(List Str)×(List GFieldDef)×(List Str)×(List GParam))=>∃ (t_10:Int),r=(Ex.ret,(aCw s name (.bool true) (i6 t_10) (i6 p.1) (.str p.2.1) (zq PV.str p.2.2.1) (zq aG p.2.2.2.1) (zq PV.str p.2.2.2.2.1) (zq aQ p.2.2.2.2.2)),[]))
noncomputable def aDy (s:GSchema) (name:Str):Option (GDef×Bool) :=
 bnd (aG9 name) fun y2 =>
 cnd y2
 (some ((GDef.mk 0 name ([]:List Str) ([]:List GFieldDef) ([]:List Str) ([]:List GParam)),true))
 (bnd (bJ (nW s name) 0) fun e17_2=>elim e17_2
 (fun p17 =>
 some ((GDef.mk 0 [] ([]:List Str) ([]:List GFieldDef) ([]:List Str) ([]:List GParam)),false))
 (fun p17 =>
 some ((GDef.mk p17.1 p17.2.1 p17.2.2.1 p17.2.2.2.1 p17.2.2.2.2.1 p17.2.2.2.2.2),true)))
def aUx:Decs:={decs:=[(9,.bool),(17,(.ref mW))],loops:=[(4,[(4,6),(2,3)],⟨kY,[],[(some 0,kY,[]),(none,[.str,(.ptr 0 4 0),.bool,sf,n6,n6,n6,.str,sf,sf,sf,sf,sf,.str,.str],[])]⟩)]}
theorem aUy (O:Orc) (LP:LBs) (s:GSchema) (name:Str):eW 178 aUx Tryz.f178 O LP [(eS s),(.str name)] []=aEN O LP s name:=by kernel_rfl
theorem aK4 (s:GSchema) (name:Str):Lok (aQ1 s name) (nW s name) (aEM O aE) (aQ2 s name):=by
 rintro t_6 l u ⟨rfl,rfl⟩
 simp only [nW,aEM,zd,zr]
 refine zG ?_
 try simp only [evs,tys]
 apply Imp.cnd
 ·refine zX aK vI fun y8 _ => ?_
  try simp only [evs,tys]
  apply Imp.cnd
  ·exact zT ⟨t_6,zE⟩
  ·exact zN
 ·exact zB ⟨t_6,zE⟩
theorem aQ3 (s:GSchema) (name:Str):Imp (aDy s name) (aEN O aE s name) (Ri sJ):=by
 simp only [aDy,aEN,zd,zr]
 try simp only [evs,tys]
 refine zC rfl fun y2 _ => ?_
 try simp only [zes,evs,tys]
 apply Imp.cnd
 ·exact zR
 ·refine zL (aK4 s name) ?_
  rintro (p | ⟨b_11,b_12,b_13,b_14,b_15,b_16⟩) vy17 hy17
  ·try simp only [aO,aP]
   obtain ⟨t_9,rfl⟩:=hy17
   refine zH ?_
   try simp only [evs,tys]
   exact zR
  ·try simp only [aO,aP]
   obtain ⟨t_10,rfl⟩:=hy17
   refine Imp.exMiss rfl ?_
   refine zH ?_
   try simp only [evs,tys]
   exact zR
theorem aQ4 {s:GSchema} {name:Str} {r:GDef×Bool} (h:aDy s name=some r):aG8 s name=some r:=zV aMx (aQ3 s name) Tryz.func178 (aUy _ _ s name) h
def aEO (O:Orc) (LP:LBs) (s:GSchema) (name:Str) (kinds:List Int):Option (PV×UP) :=
 aM O 178 [(eS s),(.str name)] fun x1=>cnd (chk (.tup [mW,.bool]) x1)
 (cnd (aV (tv x1 1))
 (aM O 228 [(.slice (List.map (PV.int .i64) kinds) [] false),(zn (tg x1 0) 0)] fun x3=>cnd (chk .bool x3)
 (some ((.bool (aV x3)),[])) none)
 (some ((.bool false),[]))) none
noncomputable def aDz (s:GSchema) (name:Str) (kinds:List Int):Option Bool :=
 bnd (aG8 s name) fun y2 =>
 cnd y2.2
 (bnd (gX kinds y2.1.kind) fun y4 =>
 some y4)
 (some false)
def aUz:Decs:={decs:=[(12,(.tup [mW,.bool])),(20,.bool)]}
theorem aUA (O:Orc) (LP:LBs) (s:GSchema) (name:Str) (kinds:List Int):eW 201 aUz Tryz.f201 O LP [(eS s),(.str name),(.slice (List.map (PV.int .i64) kinds) [] false)] []=aEO O LP s name kinds:=by kernel_rfl
theorem aQ5 (s:GSchema) (name:Str) (kinds:List Int):Imp (aDz s name kinds) (aEO O aE s name kinds) (Ri aA):=by
 simp only [aDz,aEO,zd,zr]
 try simp only [evs,tys]
 refine zC rfl fun y2 _ => ?_
 try simp only [zes,evs,tys]
 apply Imp.cnd
 ·refine zC rfl fun y4 _ => ?_
  try simp only [zes,evs,tys]
  exact zR
 ·exact zR
theorem aQ6 {s:GSchema} {name:Str} {kinds:List Int} {r:Bool} (h:aDz s name kinds=some r):aKy s name kinds=some r:=zV aC (aQ5 s name kinds) Tryz.func201 (aUA _ _ s name kinds) h
def aAa (O:Orc) (LP:LBs) (name:Str):Option (PV×UP) :=
 cnd (name==([73,110,116]:Str))
 (some ((.bool true),[]))
 (cnd (name==([83,116,114,105,110,103]:Str))
 (some ((.bool true),[]))
 (cnd (name==([66,111,111,108,101,97,110]:Str))
 (some ((.bool true),[]))
 (some ((.bool (name==([73,68]:Str))),[]))))
noncomputable def wB (name:Str):Option Bool :=
 cnd (name==([73,110,116]:Str))
 (some true)
 (cnd (name==([83,116,114,105,110,103]:Str))
 (some true)
 (cnd (name==([66,111,111,108,101,97,110]:Str))
 (some true)
 (some (name==([73,68]:Str)))))
def aNQ:Decs:={}
theorem aNR (O:Orc) (LP:LBs) (name:Str):eW 216 aNQ Tryz.f216 O LP [(.str name)] []=aAa O LP name:=by kernel_rfl
theorem aK5 (name:Str):Imp (wB name) (aAa O aE name) (Ri aA):=by
 simp only [wB,aAa,zd,zr]
 try simp only [evs,tys]
 apply Imp.cnd
 ·exact zR
 ·apply Imp.cnd
  ·exact zR
  ·apply Imp.cnd
   ·exact zR
   ·exact zR
theorem aK6 {name:Str} {r:Bool} (h:wB name=some r):aG9 name=some r:=zV aC (aK5 name) Tryz.func216 (aNR _ _ name) h
def eY (O:Orc) (LP:LBs) (s:List Int) (v0:Int):Option (PV×UP) :=
 aM O 245 [(.slice (List.map (PV.int .i64) s) [] false),(i6 v0)] fun x1=>cnd (chk n6 x1)
 (some ((.bool (decide ((intV x1)≥0))),[])) none
noncomputable def dJ (s:List Int) (v0:Int):Option Bool :=
 bnd (fU s v0) fun y2 =>
 some (decide (y2≥0))
def rR:Decs:={decs:=[(7,n6)]}
theorem rS (O:Orc) (LP:LBs) (s:List Int) (v0:Int):eW 228 rR Tryz.f228 O LP [(.slice (List.map (PV.int .i64) s) [] false),(i6 v0)] []=eY O LP s v0:=by kernel_rfl
theorem rJ (s:List Int) (v0:Int):Imp (dJ s v0) (eY O aE s v0) (Ri aA):=by
 simp only [dJ,eY,zd,zr]
 try simp only [evs,tys]
 refine zC rfl fun y2 _ => ?_
 try simp only [zes,evs,tys]
 exact zR
theorem rK {s:List Int} {v0:Int} {r:Bool} (h:dJ s v0=some r):gX s v0=some r:=zV aC (rJ s v0) Tryz.func228 (rS _ _ s v0) h
abbrev bC:List Sh:=[sf,n6,n6,n6,n6]
def gZ (O:Orc) (LP:LBs):cG:=fun s1 s1u=>cnd (chkL bC s1) (cnd (chkU [] s1u)
 (cnd (decide ((iv s1 4)<(iv s1 3)))
 (bnd (ix 1 (zs s1 0) (zn s1 4)) fun x5=>cnd (chk (.ref n6) x5)
 (cnd ((iv s1 1)==(intV (refV x5)))
 (some (.ret,(pu (rb bC s1) 2 (zn s1 4)),[]))
 (some (.nrm,(pu (rb bC s1) 4 (i6 (w6 ((iv s1 4)+1)))),[]))) none)
 (some (.brk 0,(rb bC s1),[]))) none) none
def hJ (O:Orc) (LP:LBs) (s:List Int) (v0:Int):Option (PV×UP) :=
 bnd (LP (gZ O LP) [(.slice (List.map (PV.int .i64) s) [] false),(i6 v0),(i6 0),(i6 (List.length (List.map (PV.int .i64) s):Int)),(i6 0)] []) fun y10 =>
 exIs y10.1 (some 0) (cnd (chkL bC y10.2.1) (cnd (chkU [] y10.2.2)
 (some ((i6 (-1)),[])) none) none)
 (exIs y10.1 none (cnd (chkL bC y10.2.1) (cnd (chkU [] y10.2.2)
 (some ((zn y10.2.1 2),[])) none) none)
 (none))
noncomputable def cE (s:List Int) (v0:Int):Int→Option (Int⊕(Unit⊕Int))
 | t_4 =>
 cnd (decide (t_4<(List.length s:Int)))
  (bnd (nthI s t_4) fun y6 =>
  cnd (v0==y6)
  (some (.inr (.inr t_4)))
  (some (.inl (IntKind.wrap .i64 (t_4+1)))))
  (some (.inr (.inl ())))
abbrev gE (s:List Int) (v0:Int) (a0 a1:PV):List PV:=[(.slice (List.map (PV.int .i64) s) [] false),(i6 v0),a0,(i6 (List.length s:Int)),a1]
abbrev uP (s:List Int) (v0:Int) (st:Int) (l:List PV) (u:UP):Prop:=l=(gE s v0 (i6 0) (i6 st))∧u=[]
abbrev uQ (s:List Int) (v0:Int) (p:Unit⊕Int) (r:EU):Prop:=elim p (fun (p:Unit)=>∃ (t_7:Int),r=(Ex.brk 0,(gE s v0 (i6 0) (i6 t_7)),[])) (fun (p:Int)=>∃ (t_9:Int),r=(Ex.ret,(gE s v0 (i6 p) (i6 t_9)),[]))
noncomputable def dD (s:List Int) (v0:Int):Option Int :=
 bnd (bJ (cE s v0) 0) fun e10_2=>elim e10_2
 (fun p10 =>
 some (-1))
 (fun t_8 =>
 some t_8)
def wC:Decs:={decs:=[(14,(.ref n6))],loops:=[(2,[],⟨bC,[],[(some 0,bC,[]),(none,bC,[])]⟩)]}
theorem wD (O:Orc) (LP:LBs) (s:List Int) (v0:Int):eW 245 wC Tryz.f245 O LP [(.slice (List.map (PV.int .i64) s) [] false),(i6 v0)] []=hJ O LP s v0:=by kernel_rfl
theorem rT (s:List Int) (v0:Int):Lok (uP s v0) (cE s v0) (gZ O aE) (uQ s v0):=by
 rintro t_4 l u ⟨rfl,rfl⟩
 simp only [cE,gZ,zd,zr]
 refine zG ?_
 try simp only [evs,tys]
 apply Imp.cnd
 ·refine Imp.op (f:=fun a => .ref ((PV.int .i64) a)) (fun a h=>bBy (enc:=(PV.int .i64)) zI ⟨zA,by decide⟩ h) (fun a=>rfl) fun y6 hy6 => ?_
  try simp only [evs,tys]
  apply Imp.cnd
  ·exact zT ⟨t_4,zE⟩
  ·exact zN
 ·exact zB ⟨t_4,zE⟩
theorem uR (s:List Int) (v0:Int):Imp (dD s v0) (hJ O aE s v0) (Ri cM):=by
 simp only [dD,hJ,zd,zr]
 try simp only [evs,tys]
 refine zL (rT s v0) ?_
 rintro (p | t_8) vy10 hy10
 ·try simp only [aO,aP]
  obtain ⟨t_7,rfl⟩:=hy10
  refine zH ?_
  try simp only [evs,tys]
  exact zR
 ·try simp only [aO,aP]
  obtain ⟨t_9,rfl⟩:=hy10
  refine Imp.exMiss rfl ?_
  refine zH ?_
  try simp only [evs,tys]
  exact zR
theorem uS {s:List Int} {v0:Int} {r:Int} (h:dD s v0=some r):fU s v0=some r:=zV qI (uR s v0) Tryz.func245 (wD _ _ s v0) h
open Go.RowKit
def GM:Mem:=fun _ _=>none
theorem xok:aOZ Tryz.prog GM XT:=by
 intro f g h
 unfold XT at h
 simp only [Go.Ev.look] at h
 split at h
 ·rename_i e;subst e;cases h;exact aXV
 simp at h
theorem bBO:Tryz.prog.follows .mixedOrders=true:=by kernel_rfl
theorem bBP : (Tryz.prog.funcs.toList.all fun fn => !fn.body.isSome || !(fn.name == "runtime.NumGoroutine")) = true := by kernel_rfl
theorem pokX:POk Tryz.prog:=by
 refine ⟨bBO,fun f fn hf hb => ?_⟩
 have hm:fn∈Tryz.prog.funcs.toList:=by
  have:=Array.mem_of_getElem? hf
  simpa using this
 have:=List.all_eq_true.1 bBP fn hm
 rw [hb] at this
 simpa using this
end Go.Proofs.YtphmfillajagdaaGreat

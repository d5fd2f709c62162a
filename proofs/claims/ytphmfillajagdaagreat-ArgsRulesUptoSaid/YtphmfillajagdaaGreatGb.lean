import Derived.Test.YtphmfillajagdaaGreatGa
set_option maxRecDepth 100000
set_option linter.unusedVariables false
set_option linter.unusedSimpArgs false
set_option linter.unusedSimpArgs false
open Go Go.Ev Go.Ev.PV
namespace Go.Proofs.YtphmfillajagdaaGreat
def s6_ArgsRules_T1 (O : Orc) (LP : LBs) (s : GSchema) (d : GDoc) (n : Int) : Option (PV × UP) :=
 callp O 17 [(eS s),(eD d)] fun x1 => cnd (chk .bool x1)
 (cnd (!(boolV x1))
 (callp O 18 [] fun x3 => cnd (chk .bool x3)
 (some ((.bool (boolV x3)),[])) none)
 (cnd (decide (n < 15))
 (callp O 19 [(eS s),(eD d),(i6 n)] fun x5 => cnd (chk .bool x5)
 (cnd (!(boolV x5))
 (callp O 18 [] fun x7 => cnd (chk .bool x7)
 (some ((.bool (boolV x7)),[])) none)
 (some ((.bool false),[]))) none)
 (cnd (decide (n > 17))
 (callp O 19 [(eS s),(eD d),(i6 n)] fun x9 => cnd (chk .bool x9)
 (cnd (!(boolV x9))
 (callp O 18 [] fun x11 => cnd (chk .bool x11)
 (some ((.bool (boolV x11)),[])) none)
 (some ((.bool false),[]))) none)
 (callp O 10 [(eS s)] fun x13 => cnd (chk n6 x13)
 (cnd ((intV x13) != 0)
 (callp O 18 [] fun x15 => cnd (chk .bool x15)
 (some ((.bool (boolV x15)),[])) none)
 (callp O 11 [(eS s),(eD d),(i6 n)] fun x17 => cnd (chk .bool x17)
 (cnd (!(boolV x17))
 (callp O 18 [] fun x19 => cnd (chk .bool x19)
 (some ((.bool (boolV x19)),[])) none)
 (callp O 19 [(eS s),(eD d),(i6 n)] fun x21 => cnd (chk .bool x21)
 (callp O 20 [(eS s),(eD d),(i6 n)] fun x23 => cnd (chk .bool x23)
 (cnd ((boolV x21) == (boolV x23))
 (callp O 18 [] fun x25 => cnd (chk .bool x25)
 (some ((.bool (boolV x25)),[])) none)
 (some ((.bool false),[]))) none) none)) none)) none)))) none
noncomputable def s6_ArgsRules_B (s : GSchema) (d : GDoc) (n : Int) : Option Bool :=
 bnd (s6_light s d) fun y2 =>
 cnd (!y2)
 (bnd (s6_awake) fun y4 =>
 some y4)
 (cnd (decide (n < 15))
 (bnd (ar_Rule s d n) fun y6 =>
 cnd (!y6)
 (bnd (s6_awake) fun y8 =>
 some y8)
 (some false))
 (cnd (decide (n > 17))
 (bnd (ar_Rule s d n) fun y10 =>
 cnd (!y10)
 (bnd (s6_awake) fun y12 =>
 some y12)
 (some false))
 (bnd (r9_Check s) fun y14 =>
 cnd (y14 != 0)
 (bnd (s6_awake) fun y16 =>
 some y16)
 (bnd (r3_Kept s d n) fun y18 =>
 cnd (!y18)
 (bnd (s6_awake) fun y20 =>
 some y20)
 (bnd (ar_Rule s d n) fun y22 =>
 bnd (r3_Rule s d n) fun y24 =>
 cnd (y22 == y24)
 (bnd (s6_awake) fun y26 =>
 some y26)
 (some false))))))
def s6_ArgsRules_ds : Decs := { decs := [(9,.bool),(11,.bool),(21,.bool),(24,.bool),(27,n6),(33,.bool),(36,.bool),(40,.bool),(44,.bool),(47,.bool)] }
theorem s6_ArgsRules_t1 (O : Orc) (LP : LBs) (s : GSchema) (d : GDoc) (n : Int) : eW 5 s6_ArgsRules_ds Tryz.f5 O LP [(eS s),(eD d),(i6 n)] [] = s6_ArgsRules_T1 O LP s d n := by kernel_rfl
theorem s6_ArgsRules_imp (s : GSchema) (d : GDoc) (n : Int) : Imp (s6_ArgsRules_B s d n) (s6_ArgsRules_T1 O loopLim s d n) (Ri s6_ArgsRulesE) := by
 simp only [s6_ArgsRules_B,s6_ArgsRules_T1,zd,zr]
 try simp only [evs,tys]
 refine zC rfl fun y2 _ => ?_
 try simp only [zes,evs,tys]
 apply Imp.cnd
 ·refine zC rfl fun y4 _ => ?_
  try simp only [zes,evs,tys]
  exact zR
 ·apply Imp.cnd
  ·refine zC rfl fun y6 _ => ?_
   try simp only [zes,evs,tys]
   apply Imp.cnd
   ·refine zC rfl fun y8 _ => ?_
    try simp only [zes,evs,tys]
    exact zR
   ·exact zR
  ·apply Imp.cnd
   ·refine zC rfl fun y10 _ => ?_
    try simp only [zes,evs,tys]
    apply Imp.cnd
    ·refine zC rfl fun y12 _ => ?_
     try simp only [zes,evs,tys]
     exact zR
    ·exact zR
   ·refine zC rfl fun y14 _ => ?_
    try simp only [zes,evs,tys]
    apply Imp.cnd
    ·refine zC rfl fun y16 _ => ?_
     try simp only [zes,evs,tys]
     exact zR
    ·refine zC rfl fun y18 _ => ?_
     try simp only [zes,evs,tys]
     apply Imp.cnd
     ·refine zC rfl fun y20 _ => ?_
      try simp only [zes,evs,tys]
      exact zR
     ·refine zC rfl fun y22 _ => ?_
      try simp only [zes,evs,tys]
      refine zC rfl fun y24 _ => ?_
      try simp only [zes,evs,tys]
      apply Imp.cnd
      ·refine zC rfl fun y26 _ => ?_
       try simp only [zes,evs,tys]
       exact zR
      ·exact zR
theorem s6_ArgsRules_run {s : GSchema} {d : GDoc} {n : Int} {r : Bool} (h : s6_ArgsRules_B s d n = some r) : s6_ArgsRules s d n = some r := zV s6_ArgsRulesEj (s6_ArgsRules_imp s d n) Tryz.func5 (s6_ArgsRules_t1 _ _ s d n) h
abbrev r3_argRule_l1F : List Sh := [n6,(.ptr 0 3 0),.bool,sf,n6,n6,sf,sf,sf,.str,.str]
def r3_argRule_l1 (O : Orc) (LP : LBs) : LBody := fun s91 s91u => cnd (chkL r3_argRule_l1F s91) (cnd (chkU [] s91u)
 (bnd (ix 8 (zs s91 3) (zn s91 4)) fun x107 => cnd (chk (.ref shSeineref13Spot) x107)
 (cnd (decide ((iv s91 5) < (List.length (ev (rf x107) 5) : Int)))
 (bnd (ix 8 (zs s91 3) (zn s91 4)) fun x109 => cnd (chk (.ref shSeineref13Spot) x109)
 (bnd (ix 2 (zs (rf x109) 5) (zn s91 5)) fun x111 => cnd (chk (.ref shDir) x111)
 (callp O 125 [(.agg [(zt (rf x111) 0),(zs (rf x111) 1)])] fun x113 => cnd (chk sf x113)
 (bnd (ix 8 (zs s91 3) (zn s91 4)) fun x115 => cnd (chk (.ref shSeineref13Spot) x115)
 (bnd (ix 2 (zs (rf x115) 5) (zn s91 5)) fun x117 => cnd (chk (.ref shDir) x117)
 (callp O 123 [(.slice (esV x113) [] false),(zs (rf x117) 1),(zn s91 0)] fun x119 => cnd (chk .bool x119)
 (cnd (!(boolV x119))
 (some (.ret,(pu (rb r3_argRule_l1F s91) 2 (.bool false)),[]))
 (some (.nrm,(pu (rb r3_argRule_l1F s91) 5 (i6 (w6 ((iv s91 5) + 1)))),[]))) none) none) none) none) none) none)
 (some (.brk 2,(rb r3_argRule_l1F s91),[]))) none) none) none
abbrev r3_argRule_l3F : List Sh := [n6,(.ptr 0 3 0),.bool,sf,n6,sf,sf,sf,.str,.str]
def r3_argRule_l3 (O : Orc) (LP : LBs) : LBody := fun s3 s3u => cnd (chkL r3_argRule_l3F s3) (cnd (chkU [] s3u)
 (cnd (decide ((iv s3 4) < (List.length (ev s3 3) : Int)))
 (bnd (ix 8 (zs s3 3) (zn s3 4)) fun x81 => cnd (chk (.ref shSeineref13Spot) x81)
 (cnd ((iv (rf x81) 1) == 0)
 (bnd (ix 8 (zs s3 3) (zn s3 4)) fun x83 => cnd (chk (.ref shSeineref13Spot) x83)
 (callp O 124 [(.agg [(zs s3 7),(zt s3 8),(zt s3 9)]),(.agg [(zt (rf x83) 0),(zn (rf x83) 1),(zt (rf x83) 2),(zt (rf x83) 3),(zs (rf x83) 4),(zs (rf x83) 5),(zt (rf x83) 6),(zs (rf x83) 7)])] fun x85 => cnd (chk sf x85)
 (bnd (ix 8 (zs s3 3) (zn s3 4)) fun x87 => cnd (chk (.ref shSeineref13Spot) x87)
 (callp O 123 [(.slice (esV x85) [] false),(zs (rf x87) 4),(zn s3 0)] fun x89 => cnd (chk .bool x89)
 (cnd (!(boolV x89))
 (some (.ret,(pu (rb r3_argRule_l3F s3) 2 (.bool false)),[]))
 (bnd (LP (r3_argRule_l1 O LP) [(zn s3 0),(.ptr 0 3 0),(zb s3 2),(zs s3 3),(zn s3 4),(i6 0),(zs s3 5),(zs s3 6),(zs s3 7),(zt s3 8),(zt s3 9)] []) fun y123 =>
 exIs y123.1 (some 2) (cnd (chkL [n6,(.ptr 0 3 0),.bool,sf,n6,n6,sf,sf,sf,.str,.str] y123.2.1) (cnd (chkU [] y123.2.2)
 (some (.nrm,[(zn y123.2.1 0),(.ptr 0 3 0),(zb y123.2.1 2),(zs y123.2.1 3),(i6 (w6 ((iv y123.2.1 4) + 1))),(zs y123.2.1 6),(zs y123.2.1 7),(zs y123.2.1 8),(zt y123.2.1 9),(zt y123.2.1 10)],[])) none) none)
 (exIs y123.1 none (cnd (chkL [n6,(.ptr 0 3 0),.bool,sf,n6,n6,sf,sf,sf,.str,.str] y123.2.1) (cnd (chkU [] y123.2.2)
 (some (.ret,[(zn y123.2.1 0),(.ptr 0 3 0),(zb y123.2.1 2),(zs y123.2.1 3),(zn y123.2.1 4),(zs y123.2.1 6),(zs y123.2.1 7),(zs y123.2.1 8),(zt y123.2.1 9),(zt y123.2.1 10)],[])) none) none)
 (none)))) none) none) none) none)
 (bnd (LP (r3_argRule_l1 O LP) [(zn s3 0),(.ptr 0 3 0),(zb s3 2),(zs s3 3),(zn s3 4),(i6 0),(zs s3 5),(zs s3 6),(zs s3 7),(zt s3 8),(zt s3 9)] []) fun y156 =>
 exIs y156.1 (some 2) (cnd (chkL [n6,(.ptr 0 3 0),.bool,sf,n6,n6,sf,sf,sf,.str,.str] y156.2.1) (cnd (chkU [] y156.2.2)
 (some (.nrm,[(zn y156.2.1 0),(.ptr 0 3 0),(zb y156.2.1 2),(zs y156.2.1 3),(i6 (w6 ((iv y156.2.1 4) + 1))),(zs y156.2.1 6),(zs y156.2.1 7),(zs y156.2.1 8),(zt y156.2.1 9),(zt y156.2.1 10)],[])) none) none)
 (exIs y156.1 none (cnd (chkL [n6,(.ptr 0 3 0),.bool,sf,n6,n6,sf,sf,sf,.str,.str] y156.2.1) (cnd (chkU [] y156.2.2)
 (some (.ret,[(zn y156.2.1 0),(.ptr 0 3 0),(zb y156.2.1 2),(zs y156.2.1 3),(zn y156.2.1 4),(zs y156.2.1 6),(zs y156.2.1 7),(zs y156.2.1 8),(zt y156.2.1 9),(zt y156.2.1 10)],[])) none) none)
 (none)))) none)
 (some (.brk 0,(rb r3_argRule_l3F s3),[]))) none) none
def r3_argRule_T1 (O : Orc) (LP : LBs) (s : GSchema) (d : GDoc) (n : Int) : Option (PV × UP) :=
 callp O 58 [(eS s),(eD d)] fun x1 => cnd (chk sf x1)
 (bnd (LP (r3_argRule_l3 O LP) [(i6 n),(.ptr 0 3 0),(.bool false),(.slice (esV x1) [] false),(i6 0),(zq encOp d.ops),(zq encFrag d.frags),(zq encDef s.defs),(.str s.query),(.str s.mutation)] []) fun y159 =>
 exIs y159.1 (some 0) (cnd (chkL r3_argRule_l3F y159.2.1) (cnd (chkU [] y159.2.2)
 (some ((.bool true),[])) none) none)
 (exIs y159.1 none (cnd (chkL r3_argRule_l3F y159.2.1) (cnd (chkU [] y159.2.2)
 (some ((zb y159.2.1 2),[])) none) none)
 (none))) none
noncomputable def r3_argRule_l1T (n : Int) (y2 : List GSeineref13Spot) (i_80 : Int) : Int → Option (Int ⊕ (Unit ⊕ Unit))
 | k_106 =>
 bnd (nthI y2 i_80) fun y108 =>
 cnd (decide (k_106 < (List.length y108.x.dirs : Int)))
  (bnd (nthI y2 i_80) fun y110 =>
  bnd (nthI y110.x.dirs k_106) fun y112 =>
  bnd (r3_dirParams y112) fun y114 =>
  bnd (nthI y2 i_80) fun y116 =>
  bnd (nthI y116.x.dirs k_106) fun y118 =>
  bnd (r3_argsRule y114 y118.args n) fun y120 =>
  cnd (!y120)
  (some (.inr (.inr ())))
  (some (.inl (IntKind.wrap .i64 (k_106 + 1)))))
  (some (.inr (.inl ())))
abbrev r3_argRule_l1P (s : GSchema) (d : GDoc) (n : Int) (y2 : List GSeineref13Spot) (i_80 : Int) (a0 : PV) : List PV := [(i6 n),(.ptr 0 3 0),(.bool false),(zq encSeineref13Spot y2),(i6 i_80),a0,(zq encOp d.ops),(zq encFrag d.frags),(zq encDef s.defs),(.str s.query),(.str s.mutation)]
abbrev r3_argRule_l1R (s : GSchema) (d : GDoc) (n : Int) (y2 : List GSeineref13Spot) (i_80 : Int) (st : Int) (l : List PV) (u : UP) : Prop := l = (r3_argRule_l1P s d n y2 i_80 (i6 st)) ∧ u = []
abbrev r3_argRule_l1X (s : GSchema) (d : GDoc) (n : Int) (y2 : List GSeineref13Spot) (i_80 : Int) (p : Unit ⊕ Unit) (r : EU) : Prop := elim p (fun (p : Unit) => ∃ (k_121 : Int),r = (Ex.brk 2,(r3_argRule_l1P s d n y2 i_80 (i6 k_121)),[])) (fun (p : Unit) => ∃ (k_122 : Int),r = (Ex.ret,(r3_argRule_l1P s d n y2 i_80 (i6 k_122)),[]))
noncomputable def r3_argRule_l3T (s : GSchema) (n : Int) (y2 : List GSeineref13Spot) : Int → Option (Int ⊕ (Unit ⊕ Unit))
 | i_80 =>
 cnd (decide (i_80 < (List.length y2 : Int)))
  (bnd (nthI y2 i_80) fun y82 =>
  cnd (y82.x.kind == 0)
  (bnd (nthI y2 i_80) fun y84 =>
  bnd (r3_params s y84) fun y86 =>
  bnd (nthI y2 i_80) fun y88 =>
  bnd (r3_argsRule y86 y88.x.args n) fun y90 =>
  cnd (!y90)
   (some (.inr (.inr ())))
   (bnd (tloop (r3_argRule_l1T n y2 i_80) 0) fun e123_2 => elim e123_2
   (fun p123 =>
   some (.inl (IntKind.wrap .i64 (i_80 + 1))))
   (fun p123 =>
   some (.inr (.inr ())))))
  (bnd (tloop (r3_argRule_l1T n y2 i_80) 0) fun e156_2 => elim e156_2
  (fun p156 =>
   some (.inl (IntKind.wrap .i64 (i_80 + 1))))
  (fun p156 =>
  some (.inr (.inr ())))))
  (some (.inr (.inl ())))
abbrev r3_argRule_l3P (s : GSchema) (d : GDoc) (n : Int) (y2 : List GSeineref13Spot) (a0 : PV) : List PV := [(i6 n),(.ptr 0 3 0),(.bool false),(zq encSeineref13Spot y2),a0,(zq encOp d.ops),(zq encFrag d.frags),(zq encDef s.defs),(.str s.query),(.str s.mutation)]
abbrev r3_argRule_l3R (s : GSchema) (d : GDoc) (n : Int) (y2 : List GSeineref13Spot) (st : Int) (l : List PV) (u : UP) : Prop := l = (r3_argRule_l3P s d n y2 (i6 st)) ∧ u = []
abbrev r3_argRule_l3X (s : GSchema) (d : GDoc) (n : Int) (y2 : List GSeineref13Spot) (p : Unit ⊕ Unit) (r : EU) : Prop := elim p (fun (p : Unit) => ∃ (i_157 : Int),r = (Ex.brk 0,(r3_argRule_l3P s d n y2 (i6 i_157)),[])) (fun (p : Unit) => ∃ (i_158 : Int),r = (Ex.ret,(r3_argRule_l3P s d n y2 (i6 i_158)),[]))
noncomputable def r3_argRule_B (s : GSchema) (d : GDoc) (n : Int) : Option Bool :=
 bnd (r3_Spots s d) fun y2 =>
 bnd (tloop (r3_argRule_l3T s n y2) 0) fun e159_2 => elim e159_2
 (fun p159 =>
 some true)
 (fun p159 =>
 some false)
def r3_argRule_ds : Decs := { decs := [(12,sf),(21,(.ref shSeineref13Spot)),(30,(.ref shSeineref13Spot)),(32,sf),(35,(.ref shSeineref13Spot)),(40,.bool),(46,(.ref shSeineref13Spot)),(56,(.ref shSeineref13Spot)),(61,(.ref shDir)),(63,sf),(66,(.ref shSeineref13Spot)),(71,(.ref shDir)),(75,.bool)],loops := [(3,[(4,2),(3,3)],⟨r3_argRule_l3F,[],[(some 0,r3_argRule_l3F,[]),(none,r3_argRule_l3F,[])]⟩),(8,[(4,2),(3,3)],⟨r3_argRule_l1F,[],[(some 2,r3_argRule_l1F,[]),(none,r3_argRule_l1F,[])]⟩)] }
theorem r3_argRule_t1 (O : Orc) (LP : LBs) (s : GSchema) (d : GDoc) (n : Int) : eW 61 r3_argRule_ds Tryz.f61 O LP [(eS s),(eD d),(i6 n)] [] = r3_argRule_T1 O LP s d n := by kernel_rfl
theorem r3_argRule_l1_ok (s : GSchema) (d : GDoc) (n : Int) (y2 : List GSeineref13Spot) (i_80 : Int) : ∀ st l u,r3_argRule_l1R s d n y2 i_80 st l u → Imp (r3_argRule_l1T n y2 i_80 st) (r3_argRule_l1 O loopLim l u) (StepR (r3_argRule_l1R s d n y2 i_80) (r3_argRule_l1X s d n y2 i_80)) := by
 rintro k_106 l u ⟨rfl,rfl⟩
 simp only [r3_argRule_l1T,r3_argRule_l1,zd,zr]
 refine zG ?_
 try simp only [evs,tys]
 refine zX encSeineref13Spot chk_GSeineref13Spot fun y108 _ => ?_
 try simp only [evs,tys]
 apply Imp.cnd
 ·refine zX encSeineref13Spot chk_GSeineref13Spot fun y110 _ => ?_
  try simp only [evs,tys]
  refine zX encDir chk_GDir fun y112 _ => ?_
  try simp only [evs,tys]
  refine zC rfl fun y114 _ => ?_
  try simp only [zes,evs,tys]
  refine zX encSeineref13Spot chk_GSeineref13Spot fun y116 _ => ?_
  try simp only [evs,tys]
  refine zX encDir chk_GDir fun y118 _ => ?_
  try simp only [evs,tys]
  refine zC rfl fun y120 _ => ?_
  try simp only [zes,evs,tys]
  apply Imp.cnd
  ·exact zT ⟨k_106,zE⟩
  ·exact zN
 ·exact zB ⟨k_106,zE⟩
theorem r3_argRule_l3_ok (s : GSchema) (d : GDoc) (n : Int) (y2 : List GSeineref13Spot) : ∀ st l u,r3_argRule_l3R s d n y2 st l u → Imp (r3_argRule_l3T s n y2 st) (r3_argRule_l3 O loopLim l u) (StepR (r3_argRule_l3R s d n y2) (r3_argRule_l3X s d n y2)) := by
 rintro i_80 l u ⟨rfl,rfl⟩
 simp only [r3_argRule_l3T,r3_argRule_l3,zd,zr]
 refine zG ?_
 try simp only [evs,tys]
 apply Imp.cnd
 ·refine zX encSeineref13Spot chk_GSeineref13Spot fun y82 _ => ?_
  try simp only [evs,tys]
  apply Imp.cnd
  ·refine zX encSeineref13Spot chk_GSeineref13Spot fun y84 _ => ?_
   try simp only [evs,tys]
   refine zC rfl fun y86 _ => ?_
   try simp only [zes,evs,tys]
   refine zX encSeineref13Spot chk_GSeineref13Spot fun y88 _ => ?_
   try simp only [evs,tys]
   refine zC rfl fun y90 _ => ?_
   try simp only [zes,evs,tys]
   apply Imp.cnd
   ·exact zT ⟨i_80,zE⟩
   ·refine zL (r3_argRule_l1_ok s d n y2 i_80) ?_
    rintro (p | p) vy123 hy123
    ·try simp only [elim_inl,elim_inr]
     obtain ⟨k_121,rfl⟩ := hy123
     refine zH ?_
     try simp only [evs,tys]
     exact zN
    ·try simp only [elim_inl,elim_inr]
     obtain ⟨k_122,rfl⟩ := hy123
     refine Imp.exMiss rfl ?_
     refine zH ?_
     try simp only [evs,tys]
     exact zT ⟨i_80,zE⟩
  ·refine zL (r3_argRule_l1_ok s d n y2 i_80) ?_
   rintro (p | p) vy156 hy156
   ·try simp only [elim_inl,elim_inr]
    obtain ⟨k_154,rfl⟩ := hy156
    refine zH ?_
    try simp only [evs,tys]
    exact zN
   ·try simp only [elim_inl,elim_inr]
    obtain ⟨k_155,rfl⟩ := hy156
    refine Imp.exMiss rfl ?_
    refine zH ?_
    try simp only [evs,tys]
    exact zT ⟨i_80,zE⟩
 ·exact zB ⟨i_80,zE⟩
theorem r3_argRule_imp (s : GSchema) (d : GDoc) (n : Int) : Imp (r3_argRule_B s d n) (r3_argRule_T1 O loopLim s d n) (Ri s6_ArgsRulesE) := by
 simp only [r3_argRule_B,r3_argRule_T1,zd,zr]
 try simp only [evs,tys]
 refine zC rfl fun y2 _ => ?_
 try simp only [zes,evs,tys]
 refine zL (r3_argRule_l3_ok s d n y2) ?_
 rintro (p | p) vy159 hy159
 ·try simp only [elim_inl,elim_inr]
  obtain ⟨i_157,rfl⟩ := hy159
  refine zH ?_
  try simp only [evs,tys]
  exact zR
 ·try simp only [elim_inl,elim_inr]
  obtain ⟨i_158,rfl⟩ := hy159
  refine Imp.exMiss rfl ?_
  refine zH ?_
  try simp only [evs,tys]
  exact zR
theorem r3_argRule_run {s : GSchema} {d : GDoc} {n : Int} {r : Bool} (h : r3_argRule_B s d n = some r) : r3_argRule s d n = some r := zV s6_ArgsRulesEj (r3_argRule_imp s d n) Tryz.func61 (r3_argRule_t1 _ _ s d n) h
abbrev r9_rule8_l1F : List Sh := [(.ptr 0 1 0),n6,st',n6,st',n6,sf,.str,.str]
def r9_rule8_l1 (O : Orc) (LP : LBs) : LBody := fun s107 s107u => cnd (chkL r9_rule8_l1F s107) (cnd (chkU [] s107u)
 (cnd (decide ((iv s107 5) < (List.length (ev s107 4) : Int)))
 (bnd (ix 1 (zs s107 4) (zn s107 5)) fun x118 => cnd (chk (.ref .str) x118)
 (callp O 29 [(zs s107 2),(.str (strV (refV x118)))] fun x120 => cnd (chk .bool x120)
 (cnd (!(boolV x120))
 (bnd (ix 1 (zs s107 4) (zn s107 5)) fun x122 => cnd (chk (.ref .str) x122)
 (bnd (apd 1 (zo s107 2) (.slice [(.str (strV (refV x122)))] [] true)) fun x124 => cnd (chk st' x124)
 (some (.nrm,(pu (pu (rb r9_rule8_l1F s107) 2 (.slice (esV x124) [] true)) 5 (i6 (w6 ((iv s107 5) + 1)))),[])) none) none)
 (some (.nrm,(pu (rb r9_rule8_l1F s107) 5 (i6 (w6 ((iv s107 5) + 1)))),[]))) none) none)
 (some (.brk 4,(rb r9_rule8_l1F s107),[]))) none) none
abbrev r9_rule8_l2F : List Sh := [(.ptr 0 1 0),n6,st',n6,sf,.str,.str]
def r9_rule8_l2 (O : Orc) (LP : LBs) : LBody := fun s74 s74u => cnd (chkL r9_rule8_l2F s74) (cnd (chkU [] s74u)
 (cnd (decide ((iv s74 3) < (List.length (ev s74 2) : Int)))
 (bnd (ix 1 (zs s74 2) (zn s74 3)) fun x103 => cnd (chk (.ref .str) x103)
 (callp O 166 [(.agg [(zs s74 4),(zt s74 5),(zt s74 6)]),(.str (strV (refV x103)))] fun x105 => cnd (chk st' x105)
 (bnd (LP (r9_rule8_l1 O LP) [(.ptr 0 1 0),(zn s74 1),(zo s74 2),(zn s74 3),(.slice (esV x105) [] true),(i6 0),(zs s74 4),(zt s74 5),(zt s74 6)] []) fun y128 =>
 exIs y128.1 (some 4) (cnd (chkL [(.ptr 0 1 0),n6,st',n6,st',n6,sf,.str,.str] y128.2.1) (cnd (chkU [] y128.2.2)
 (some (.nrm,[(.ptr 0 1 0),(zn y128.2.1 1),(zo y128.2.1 2),(i6 (w6 ((iv y128.2.1 3) + 1))),(zs y128.2.1 6),(zt y128.2.1 7),(zt y128.2.1 8)],[])) none) none)
 (none)) none) none)
 (some (.brk 2,(rb r9_rule8_l2F s74),[]))) none) none
abbrev r9_rule8_l3F : List Sh := [(.ptr 0 1 0),.any,n6,sf,.str,.str]
def r9_rule8_l3 (O : Orc) (LP : LBs) : LBody := fun s1 s1u => cnd (chkL r9_rule8_l3F s1) (cnd (chkU [] s1u)
 (cnd (decide ((iv s1 2) < (List.length (ev s1 3) : Int)))
 (bnd (ix 6 (zs s1 3) (zn s1 2)) fun x70 => cnd (chk (.ref shDef) x70)
 (callp O 166 [(.agg [(zs s1 3),(zt s1 4),(zt s1 5)]),(zt (rf x70) 1)] fun x72 => cnd (chk st' x72)
 (bnd (LP (r9_rule8_l2 O LP) [(.ptr 0 1 0),(zn s1 2),(.slice (esV x72) [] true),(i6 0),(zs s1 3),(zt s1 4),(zt s1 5)] []) fun y131 =>
 exIs y131.1 (some 2) (cnd (chkL [(.ptr 0 1 0),n6,st',n6,sf,.str,.str] y131.2.1) (cnd (chkU [] y131.2.2)
 (bnd (ix 6 (zs y131.2.1 4) (zn y131.2.1 1)) fun x132 => cnd (chk (.ref shDef) x132)
 (callp O 29 [(zs y131.2.1 2),(zt (rf x132) 1)] fun x134 => cnd (chk .bool x134)
 (cnd (boolV x134)
 (some (.ret,[(.ptr 0 1 0),(.bool false),(zn y131.2.1 1),(zs y131.2.1 4),(zt y131.2.1 5),(zt y131.2.1 6)],[]))
 (some (.nrm,[(.ptr 0 1 0),.bot,(i6 (w6 ((iv y131.2.1 1) + 1))),(zs y131.2.1 4),(zt y131.2.1 5),(zt y131.2.1 6)],[]))) none) none) none) none)
 (none)) none) none)
 (some (.brk 0,(pu (rb r9_rule8_l3F s1) 1 (gt s1 1)),[]))) none) none
def r9_rule8_T1 (O : Orc) (LP : LBs) (s : GSchema) : Option (PV × UP) :=
 bnd (LP (r9_rule8_l3 O LP) [(.ptr 0 1 0),(.bool false),(i6 0),(zq encDef s.defs),(.str s.query),(.str s.mutation)] []) fun y139 =>
 exIs y139.1 (some 0) (cnd (chkL r9_rule8_l3F y139.2.1) (cnd (chkU [] y139.2.2)
 (some ((.bool true),[])) none) none)
 (exIs y139.1 none (cnd (chkL [(.ptr 0 1 0),.bool,n6,sf,.str,.str] y139.2.1) (cnd (chkU [] y139.2.2)
 (some ((zb y139.2.1 1),[])) none) none)
 (none))
noncomputable def r9_rule8_l1T (y106 : List Str) : ((List Str) × Int) → Option (((List Str) × Int) ⊕ ((List Str)))
 | (l_116,j_117) =>
 cnd (decide (j_117 < (List.length y106 : Int)))
  (bnd (nthI y106 j_117) fun y119 =>
  bnd (r1_Has l_116 y119) fun y121 =>
  cnd (!y121)
  (bnd (nthI y106 j_117) fun y123 =>
  bnd (tapp l_116 [y123]) fun y125 =>
  some (.inl (y125,(IntKind.wrap .i64 (j_117 + 1)))))
  (some (.inl (l_116,(IntKind.wrap .i64 (j_117 + 1))))))
  (some (.inr l_116))
abbrev r9_rule8_l1R (s : GSchema) (i_69 : Int) (k_102 : Int) (y106 : List Str) (st : (List Str) × Int) (l : List PV) (u : UP) : Prop := l = [(.ptr 0 1 0),(i6 i_69),(zp PV.str st.1),(i6 k_102),(zp PV.str y106),(i6 st.2),(zq encDef s.defs),(.str s.query),(.str s.mutation)] ∧ u = []
abbrev r9_rule8_l1X (s : GSchema) (i_69 : Int) (k_102 : Int) (y106 : List Str) (p : (List Str)) (r : EU) : Prop := (fun (p : (List Str)) => ∃ (j_127 : Int),r = (Ex.brk 4,[(.ptr 0 1 0),(i6 i_69),(zp PV.str p),(i6 k_102),(zp PV.str y106),(i6 j_127),(zq encDef s.defs),(.str s.query),(.str s.mutation)],[])) p
noncomputable def r9_rule8_l2T (s : GSchema) : ((List Str) × Int) → Option (((List Str) × Int) ⊕ ((List Str)))
 | (l_101,k_102) =>
 cnd (decide (k_102 < (List.length l_101 : Int)))
  (bnd (nthI l_101 k_102) fun y104 =>
  bnd (r9_needs s y104) fun y106 =>
  bnd (tloop (r9_rule8_l1T y106) (l_101,0)) fun l_126 =>
  some (.inl (l_126,(IntKind.wrap .i64 (k_102 + 1)))))
  (some (.inr l_101))
abbrev r9_rule8_l2R (s : GSchema) (i_69 : Int) (st : (List Str) × Int) (l : List PV) (u : UP) : Prop := l = [(.ptr 0 1 0),(i6 i_69),(zp PV.str st.1),(i6 st.2),(zq encDef s.defs),(.str s.query),(.str s.mutation)] ∧ u = []
abbrev r9_rule8_l2X (s : GSchema) (i_69 : Int) (p : (List Str)) (r : EU) : Prop := (fun (p : (List Str)) => ∃ (k_130 : Int),r = (Ex.brk 2,[(.ptr 0 1 0),(i6 i_69),(zp PV.str p),(i6 k_130),(zq encDef s.defs),(.str s.query),(.str s.mutation)],[])) p
noncomputable def r9_rule8_l3T (s : GSchema) : Int → Option (Int ⊕ (Unit ⊕ Unit))
 | i_69 =>
 cnd (decide (i_69 < (List.length s.defs : Int)))
  (bnd (nthI s.defs i_69) fun y71 =>
  bnd (r9_needs s y71.name) fun y73 =>
  bnd (tloop (r9_rule8_l2T s) (y73,0)) fun l_129 =>
  bnd (nthI s.defs i_69) fun y133 =>
  bnd (r1_Has l_129 y133.name) fun y135 =>
  cnd y135
  (some (.inr (.inr ())))
  (some (.inl (IntKind.wrap .i64 (i_69 + 1)))))
  (some (.inr (.inl ())))
abbrev r9_rule8_l3P (s : GSchema) (a0 a1 : PV) : List PV := [(.ptr 0 1 0),a0,a1,(zq encDef s.defs),(.str s.query),(.str s.mutation)]
abbrev r9_rule8_l3R (s : GSchema) (st : Int) (l : List PV) (u : UP) : Prop := ∃ (j68 : PV),l = (r9_rule8_l3P s j68 (i6 st)) ∧ u = []
abbrev r9_rule8_l3X (s : GSchema) (p : Unit ⊕ Unit) (r : EU) : Prop := elim p (fun (p : Unit) => ∃ (j136 : PV),∃ (i_137 : Int),r = (Ex.brk 0,(r9_rule8_l3P s j136 (i6 i_137)),[])) (fun (p : Unit) => ∃ (i_138 : Int),r = (Ex.ret,(r9_rule8_l3P s (.bool false) (i6 i_138)),[]))
noncomputable def r9_rule8_B (s : GSchema) : Option Bool :=
 bnd (tloop (r9_rule8_l3T s) 0) fun e139_2 => elim e139_2
 (fun p139 =>
 some true)
 (fun p139 =>
 some false)
def r9_rule8_ds : Decs := { decs := [(19,(.ref shDef)),(22,st'),(32,(.ref .str)),(34,st'),(44,(.ref .str)),(46,.bool),(51,(.ref .str)),(54,st'),(59,(.ref shDef)),(62,.bool)],loops := [(2,[(1,3)],⟨r9_rule8_l3F,[],[(some 0,r9_rule8_l3F,[]),(none,[(.ptr 0 1 0),.bool,n6,sf,.str,.str],[])]⟩),(6,[(1,3)],⟨r9_rule8_l2F,[],[(some 2,r9_rule8_l2F,[])]⟩),(10,[(1,3)],⟨r9_rule8_l1F,[],[(some 4,r9_rule8_l1F,[])]⟩)] }
theorem r9_rule8_t1 (O : Orc) (LP : LBs) (s : GSchema) : eW 96 r9_rule8_ds Tryz.f96 O LP [(eS s)] [] = r9_rule8_T1 O LP s := by kernel_rfl
theorem r9_rule8_l1_ok (s : GSchema) (i_69 : Int) (k_102 : Int) (y106 : List Str) : ∀ st l u,r9_rule8_l1R s i_69 k_102 y106 st l u → Imp (r9_rule8_l1T y106 st) (r9_rule8_l1 O loopLim l u) (StepR (r9_rule8_l1R s i_69 k_102 y106) (r9_rule8_l1X s i_69 k_102 y106)) := by
 rintro ⟨l_116,j_117⟩ l u ⟨rfl,rfl⟩
 simp only [r9_rule8_l1T,r9_rule8_l1,zd,zr]
 refine zG ?_
 try simp only [evs,tys]
 apply Imp.cnd
 ·refine zX PV.str (fun _ => rfl) fun y119 _ => ?_
  try simp only [evs,tys]
  refine zC rfl fun y121 _ => ?_
  try simp only [zes,evs,tys]
  apply Imp.cnd
  ·refine zX PV.str (fun _ => rfl) fun y123 _ => ?_
   try simp only [evs,tys]
   refine Imp.op (f := fun a => .slice (List.map PV.str a) [] true) (fun a h => op_apd (enc := PV.str) zI zI (fun a => by first | rfl | simp only [evs,tys,evc]) h) (fun a => rfl) fun y125 hy125 => ?_
   try simp only [evs,tys]
   exact zN
  ·exact zN
 ·exact zB ⟨j_117,zE⟩
theorem r9_rule8_l2_ok (s : GSchema) (i_69 : Int) : ∀ st l u,r9_rule8_l2R s i_69 st l u → Imp (r9_rule8_l2T s st) (r9_rule8_l2 O loopLim l u) (StepR (r9_rule8_l2R s i_69) (r9_rule8_l2X s i_69)) := by
 rintro ⟨l_101,k_102⟩ l u ⟨rfl,rfl⟩
 simp only [r9_rule8_l2T,r9_rule8_l2,zd,zr]
 refine zG ?_
 try simp only [evs,tys]
 apply Imp.cnd
 ·refine zX PV.str (fun _ => rfl) fun y104 _ => ?_
  try simp only [evs,tys]
  refine zC rfl fun y106 _ => ?_
  try simp only [zes,evs,tys]
  refine zL (r9_rule8_l1_ok s i_69 k_102 y106) ?_
  rintro l_126 _ ⟨j_127,rfl⟩
  refine zH ?_
  try simp only [evs,tys]
  exact zN
 ·exact zB ⟨k_102,zE⟩
theorem r9_rule8_l3_ok (s : GSchema) : Lok (r9_rule8_l3R s) (r9_rule8_l3T s) (r9_rule8_l3 O loopLim) (r9_rule8_l3X s) := by
 rintro i_69 l u ⟨j68,rfl,rfl⟩
 simp only [r9_rule8_l3T,r9_rule8_l3,zd,zr]
 refine zG ?_
 try simp only [evs,tys]
 apply Imp.cnd
 ·refine zX encDef chk_GDef fun y71 _ => ?_
  try simp only [evs,tys]
  refine zC rfl fun y73 _ => ?_
  try simp only [zes,evs,tys]
  refine zL (r9_rule8_l2_ok s i_69) ?_
  rintro l_129 _ ⟨k_130,rfl⟩
  refine zH ?_
  try simp only [evs,tys]
  refine zX encDef chk_GDef fun y133 _ => ?_
  try simp only [evs,tys]
  refine zC rfl fun y135 _ => ?_
  try simp only [zes,evs,tys]
  apply Imp.cnd
  ·exact zT ⟨i_69,zE⟩
  ·exact Imp.some (StepR.next ⟨_,zI,rfl⟩)
 ·exact zB ⟨_,i_69,zE⟩
theorem r9_rule8_imp (s : GSchema) : Imp (r9_rule8_B s) (r9_rule8_T1 O loopLim s) (Ri s6_ArgsRulesE) := by
 simp only [r9_rule8_B,r9_rule8_T1,zd,zr]
 try simp only [evs,tys]
 refine Imp.bnd (Imp.loop (r9_rule8_l3_ok s) ⟨_,zI,rfl⟩) ?_
 rintro (p | p) vy139 hy139
 ·try simp only [elim_inl,elim_inr]
  obtain ⟨j136,i_137,rfl⟩ := hy139
  refine zH ?_
  try simp only [evs,tys]
  exact zR
 ·try simp only [elim_inl,elim_inr]
  obtain ⟨i_138,rfl⟩ := hy139
  refine Imp.exMiss rfl ?_
  refine zH ?_
  try simp only [evs,tys]
  exact zR
theorem r9_rule8_run {s : GSchema} {r : Bool} (h : r9_rule8_B s = some r) : r9_rule8 s = some r := zV s6_ArgsRulesEj (r9_rule8_imp s) Tryz.func96 (r9_rule8_t1 _ _ s) h
open Go Go.Ev Go.Ev.PV
abbrev r3_Reach_l1F : List Sh := [(.ptr 0 2 0),st',n6,sf,sf]
def r3_Reach_l1 (O : Orc) (LP : LBs) : LBody := fun s3 s3u => cnd (chkL r3_Reach_l1F s3) (cnd (chkU [] s3u)
 (cnd (decide ((iv s3 2) < (List.length (ev s3 1) : Int)))
 (bnd (ix 1 (zs s3 1) (zn s3 2)) fun x12 => cnd (chk (.ref .str) x12)
 (callp O 113 [(.agg [(zs s3 3),(zs s3 4)]),(.str (strV (refV x12)))] fun x14 => cnd (chk (.tup [shFrag,.bool]) x14)
 (cnd (boolV (tv x14 1))
 (callp O 183 [(zs (tg x14 0) 3),(zo s3 1)] fun x16 => cnd (chk st' x16)
 (some (.nrm,[(.ptr 0 2 0),(.slice (esV x16) [] true),(i6 (w6 ((iv s3 2) + 1))),(zs s3 3),(zs s3 4)],[])) none)
 (some (.nrm,(pu (rb r3_Reach_l1F s3) 2 (i6 (w6 ((iv s3 2) + 1)))),[]))) none) none)
 (some (.brk 0,(rb r3_Reach_l1F s3),[]))) none) none
abbrev r3_Reach_l2F : List Sh := [(.ptr 0 2 0),st',st',n6,sf,sf]
def r3_Reach_l2 (O : Orc) (LP : LBs) : LBody := fun s21 s21u => cnd (chkL r3_Reach_l2F s21) (cnd (chkU [] s21u)
 (cnd (decide ((iv s21 3) < (List.length (ev s21 5) : Int)))
 (bnd (ix 4 (zs s21 5) (zn s21 3)) fun x36 => cnd (chk (.ref shFrag) x36)
 (callp O 29 [(zs s21 1),(zt (rf x36) 0)] fun x38 => cnd (chk .bool x38)
 (cnd (boolV x38)
 (bnd (ix 4 (zs s21 5) (zn s21 3)) fun x40 => cnd (chk (.ref shFrag) x40)
 (callp O 29 [(zs s21 2),(zt (rf x40) 0)] fun x42 => cnd (chk .bool x42)
 (cnd (!(boolV x42))
 (bnd (ix 4 (zs s21 5) (zn s21 3)) fun x44 => cnd (chk (.ref shFrag) x44)
 (bnd (apd 1 (zo s21 2) (.slice [(zt (rf x44) 0)] [] true)) fun x46 => cnd (chk st' x46)
 (some (.nrm,(pu (pu (rb r3_Reach_l2F s21) 2 (.slice (esV x46) [] true)) 3 (i6 (w6 ((iv s21 3) + 1)))),[])) none) none)
 (some (.nrm,(pu (rb r3_Reach_l2F s21) 3 (i6 (w6 ((iv s21 3) + 1)))),[]))) none) none)
 (some (.nrm,(pu (rb r3_Reach_l2F s21) 3 (i6 (w6 ((iv s21 3) + 1)))),[]))) none) none)
 (some (.brk 2,(rb r3_Reach_l2F s21),[]))) none) none
def r3_Reach_T1 (O : Orc) (LP : LBs) (d : GDoc) (l0 : List GSel) : Option (PV × UP) :=
 callp O 182 [(zq encSel l0)] fun x1 => cnd (chk st' x1)
 (bnd (LP (r3_Reach_l1 O LP) [(.ptr 0 2 0),(.slice (esV x1) [] true),(i6 0),(zq encOp d.ops),(zq encFrag d.frags)] []) fun y20 =>
 exIs y20.1 (some 0) (cnd (chkL r3_Reach_l1F y20.2.1) (cnd (chkU [] y20.2.2)
 (bnd (LP (r3_Reach_l2 O LP) [(.ptr 0 2 0),(zo y20.2.1 1),(.slice [] [] true),(i6 0),(zs y20.2.1 3),(zs y20.2.1 4)] []) fun y50 =>
 exIs y50.1 (some 2) (cnd (chkL r3_Reach_l2F y50.2.1) (cnd (chkU [] y50.2.2)
 (some ((zs y50.2.1 2),[])) none) none)
 (none)) none) none)
 (none)) none
noncomputable def r3_Reach_l1T (d : GDoc) : ((List Str) × Int) → Option (((List Str) × Int) ⊕ ((List Str)))
 | (all_10,i_11) =>
 cnd (decide (i_11 < (List.length all_10 : Int)))
  (bnd (nthI all_10 i_11) fun y13 =>
  bnd (r3_Frag d y13) fun y15 =>
  cnd y15.2
  (bnd (r3_spreads y15.1.sels all_10) fun y17 =>
  some (.inl (y17,(IntKind.wrap .i64 (i_11 + 1)))))
  (some (.inl (all_10,(IntKind.wrap .i64 (i_11 + 1))))))
  (some (.inr all_10))
abbrev r3_Reach_l1R (d : GDoc) (st : (List Str) × Int) (l : List PV) (u : UP) : Prop := l = [(.ptr 0 2 0),(zp PV.str st.1),(i6 st.2),(zq encOp d.ops),(zq encFrag d.frags)] ∧ u = []
abbrev r3_Reach_l1X (d : GDoc) (p : (List Str)) (r : EU) : Prop := (fun (p : (List Str)) => ∃ (i_19 : Int),r = (Ex.brk 0,[(.ptr 0 2 0),(zp PV.str p),(i6 i_19),(zq encOp d.ops),(zq encFrag d.frags)],[])) p
noncomputable def r3_Reach_l2T (d : GDoc) (all_18 : List Str) : ((List Str) × Int) → Option (((List Str) × Int) ⊕ ((List Str)))
 | (out_34,i_35) =>
 cnd (decide (i_35 < (List.length d.frags : Int)))
  (bnd (nthI d.frags i_35) fun y37 =>
  bnd (r1_Has all_18 y37.name) fun y39 =>
  cnd y39
  (bnd (nthI d.frags i_35) fun y41 =>
  bnd (r1_Has out_34 y41.name) fun y43 =>
  cnd (!y43)
   (bnd (nthI d.frags i_35) fun y45 =>
   bnd (tapp out_34 [y45.name]) fun y47 =>
   some (.inl (y47,(IntKind.wrap .i64 (i_35 + 1)))))
   (some (.inl (out_34,(IntKind.wrap .i64 (i_35 + 1))))))
  (some (.inl (out_34,(IntKind.wrap .i64 (i_35 + 1))))))
  (some (.inr out_34))
abbrev r3_Reach_l2R (d : GDoc) (all_18 : List Str) (st : (List Str) × Int) (l : List PV) (u : UP) : Prop := l = [(.ptr 0 2 0),(zp PV.str all_18),(zp PV.str st.1),(i6 st.2),(zq encOp d.ops),(zq encFrag d.frags)] ∧ u = []
abbrev r3_Reach_l2X (d : GDoc) (all_18 : List Str) (p : (List Str)) (r : EU) : Prop := (fun (p : (List Str)) => ∃ (i_49 : Int),r = (Ex.brk 2,[(.ptr 0 2 0),(zp PV.str all_18),(zp PV.str p),(i6 i_49),(zq encOp d.ops),(zq encFrag d.frags)],[])) p
noncomputable def r3_Reach_B (d : GDoc) (l0 : List GSel) : Option (List Str) :=
 bnd (r3_Spreads l0) fun y2 =>
 bnd (tloop (r3_Reach_l1T d) (y2,0)) fun all_18 =>
 bnd (tloop (r3_Reach_l2T d all_18) ([],0)) fun out_48 =>
 some out_48
def r3_Reach_ds : Decs := { decs := [(12,st'),(23,(.ref .str)),(25,(.tup [shFrag,.bool])),(32,st'),(44,(.ref shFrag)),(47,.bool),(53,(.ref shFrag)),(56,.bool),(63,(.ref shFrag)),(67,st')],loops := [(3,[(2,2)],⟨r3_Reach_l1F,[],[(some 0,r3_Reach_l1F,[])]⟩),(10,[(2,2)],⟨r3_Reach_l2F,[],[(some 2,r3_Reach_l2F,[])]⟩)] }
theorem r3_Reach_t1 (O : Orc) (LP : LBs) (d : GDoc) (l0 : List GSel) : eW 114 r3_Reach_ds Tryz.f114 O LP [(eD d),(zq encSel l0)] [] = r3_Reach_T1 O LP d l0 := by kernel_rfl
theorem r3_Reach_l1_ok (d : GDoc) : Lok (r3_Reach_l1R d) (r3_Reach_l1T d) (r3_Reach_l1 O loopLim) (r3_Reach_l1X d) := by
 rintro ⟨all_10,i_11⟩ l u ⟨rfl,rfl⟩
 simp only [r3_Reach_l1T,r3_Reach_l1,zd,zr]
 refine zG ?_
 try simp only [evs,tys]
 apply Imp.cnd
 ·refine zX PV.str (fun _ => rfl) fun y13 _ => ?_
  try simp only [evs,tys]
  refine zC rfl fun y15 _ => ?_
  try simp only [zes,evs,tys]
  apply Imp.cnd
  ·refine zC rfl fun y17 _ => ?_
   try simp only [zes,evs,tys]
   exact zN
  ·exact zN
 ·exact zB ⟨i_11,zE⟩
theorem r3_Reach_l2_ok (d : GDoc) (all_18 : List Str) : Lok (r3_Reach_l2R d all_18) (r3_Reach_l2T d all_18) (r3_Reach_l2 O loopLim) (r3_Reach_l2X d all_18) := by
 rintro ⟨out_34,i_35⟩ l u ⟨rfl,rfl⟩
 simp only [r3_Reach_l2T,r3_Reach_l2,zd,zr]
 refine zG ?_
 try simp only [evs,tys]
 apply Imp.cnd
 ·refine zX encFrag chk_GFrag fun y37 _ => ?_
  try simp only [evs,tys]
  refine zC rfl fun y39 _ => ?_
  try simp only [zes,evs,tys]
  apply Imp.cnd
  ·refine zX encFrag chk_GFrag fun y41 _ => ?_
   try simp only [evs,tys]
   refine zC rfl fun y43 _ => ?_
   try simp only [zes,evs,tys]
   apply Imp.cnd
   ·refine zX encFrag chk_GFrag fun y45 _ => ?_
    try simp only [evs,tys]
    refine Imp.op (f := fun a => .slice (List.map PV.str a) [] true) (fun a h => op_apd (enc := PV.str) zI zI (fun a => by first | rfl | simp only [evs,tys,evc]) h) (fun a => rfl) fun y47 hy47 => ?_
    try simp only [evs,tys]
    exact zN
   ·exact zN
  ·exact zN
 ·exact zB ⟨i_35,zE⟩
theorem r3_Reach_imp (d : GDoc) (l0 : List GSel) : Imp (r3_Reach_B d l0) (r3_Reach_T1 O loopLim d l0) (Ri r3_ReachE) := by
 simp only [r3_Reach_B,r3_Reach_T1,zd,zr]
 try simp only [evs,tys]
 refine zC rfl fun y2 _ => ?_
 try simp only [zes,evs,tys]
 refine zL (r3_Reach_l1_ok d) ?_
 rintro all_18 _ ⟨i_19,rfl⟩
 refine zH ?_
 try simp only [evs,tys]
 refine zL (r3_Reach_l2_ok d all_18) ?_
 rintro out_48 _ ⟨i_49,rfl⟩
 refine zH ?_
 try simp only [evs,tys]
 exact zR
theorem r3_Reach_run {d : GDoc} {l0 : List GSel} {r : List Str} (h : r3_Reach_B d l0 = some r) : r3_Reach d l0 = some r := zV r3_ReachEj (r3_Reach_imp d l0) Tryz.func114 (r3_Reach_t1 _ _ d l0) h
abbrev r9_right_l1F : List Sh := [(.ptr 0 4 0),(.ptr 0 6 0),.bool,(.ptr 0 9 0),n6,.str,n6,n6,n6,n6,.str,sf,sf,.str,n6,n6,sf,.str,.str]
def r9_right_l1 (O : Orc) (LP : LBs) : LBody := fun s7 s7u => cnd (chkL r9_right_l1F s7) (cnd (chkU [] s7u)
 (cnd (decide ((iv s7 4) < (List.length (ev s7 11) : Int)))
 (bnd (ix 5 (zs s7 11) (zn s7 4)) fun x13 => cnd (chk (.ref shValue) x13)
 (callp O 192 [(.agg [(zs s7 16),(zt s7 17),(zt s7 18)]),(.agg [(zt s7 5),(zn s7 6),(zn s7 7)]),(.agg [(zn (rf x13) 0),(zn (rf x13) 1),(zt (rf x13) 2),(zs (rf x13) 3),(zs (rf x13) 4)]),(.bool false)] fun x15 => cnd (chk .bool x15)
 (cnd (!(boolV x15))
 (some (.ret,(pu (rb r9_right_l1F s7) 2 (.bool false)),[]))
 (some (.nrm,(pu (rb r9_right_l1F s7) 4 (i6 (w6 ((iv s7 4) + 1)))),[]))) none) none)
 (some (.brk 0,(rb r9_right_l1F s7),[]))) none) none
def r9_right_T1 (O : Orc) (LP : LBs) (s : GSchema) (t : GType) (v0 : GValue) (alone : Bool) : Option (PV × UP) :=
 callp O 101 [(eT t)] fun x1 => cnd (chk .bool x1)
 (cnd (!(boolV x1))
 (some ((.bool false),[]))
 (cnd (v0.kind == 8)
 (some ((.bool true),[]))
 (cnd (v0.kind == 0)
 (some ((.bool ((bits .and .i64 t.musts 1) == 0)),[]))
 (callp O 224 [(eT t)] fun x3 => cnd (chk (.tup [shType,.bool]) x3)
 (cnd (boolV (tv x3 1))
 (cnd (v0.kind != 6)
 (cnd alone
 (callp O 192 [(eS s),(.agg [(zt (tg x3 0) 0),(zn (tg x3 0) 1),(zn (tg x3 0) 2)]),(eV v0),(.bool true)] fun x5 => cnd (chk .bool x5)
 (some ((.bool (boolV x5)),[])) none)
 (some ((.bool false),[])))
 (cnd (boolV (tv x3 1))
 (bnd (LP (r9_right_l1 O LP) [(.ptr 0 4 0),(.ptr 0 6 0),(.bool false),(.ptr 0 9 0),(i6 0),(zt (tg x3 0) 0),(zn (tg x3 0) 1),(zn (tg x3 0) 2),(i6 v0.kind),(i6 v0.n),(.str v0.s),(zq encValue v0.l),(zq encMember v0.m),(.str t.name),(i6 t.lists),(i6 t.musts),(zq encDef s.defs),(.str s.query),(.str s.mutation)] []) fun y19 =>
 exIs y19.1 (some 0) (cnd (chkL r9_right_l1F y19.2.1) (cnd (chkU [] y19.2.2)
 (some ((.bool true),[])) none) none)
 (exIs y19.1 none (cnd (chkL r9_right_l1F y19.2.1) (cnd (chkU [] y19.2.2)
 (some ((zb y19.2.1 2),[])) none) none)
 (none)))
 (cnd (t.name == ([73,110,116] : Str))
 (cnd (v0.kind == 2)
 (cnd (decide (v0.n ≥ (-2147483648)))
 (some ((.bool (decide (v0.n ≤ 2147483647))),[]))
 (some ((.bool false),[])))
 (some ((.bool false),[])))
 (cnd (t.name == ([83,116,114,105,110,103] : Str))
 (some ((.bool (v0.kind == 4)),[]))
 (cnd (t.name == ([66,111,111,108,101,97,110] : Str))
 (some ((.bool (v0.kind == 1)),[]))
 (cnd (t.name == ([73,68] : Str))
 (cnd (v0.kind == 4)
 (some ((.bool true),[]))
 (some ((.bool (v0.kind == 2)),[])))
 (callp O 164 [(eS s),(.str t.name)] fun x20 => cnd (chk (.tup [shDef,.bool]) x20)
 (cnd ((iv (tg x20 0) 0) == 4)
 (cnd (v0.kind == 5)
 (callp O 29 [(zs (tg x20 0) 4),(.str v0.s)] fun x22 => cnd (chk .bool x22)
 (some ((.bool (boolV x22)),[])) none)
 (some ((.bool false),[])))
 (cnd ((iv (tg x20 0) 0) == 5)
 (cnd (v0.kind == 7)
 (callp O 225 [(eS s),(zs (tg x20 0) 5),(zq encMember v0.m)] fun x24 => cnd (chk .bool x24)
 (some ((.bool (boolV x24)),[])) none)
 (some ((.bool false),[])))
 (some ((.bool false),[])))) none)))))))
 (cnd (boolV (tv x3 1))
 (bnd (LP (r9_right_l1 O LP) [(.ptr 0 4 0),(.ptr 0 6 0),(.bool false),(.ptr 0 9 0),(i6 0),(zt (tg x3 0) 0),(zn (tg x3 0) 1),(zn (tg x3 0) 2),(i6 v0.kind),(i6 v0.n),(.str v0.s),(zq encValue v0.l),(zq encMember v0.m),(.str t.name),(i6 t.lists),(i6 t.musts),(zq encDef s.defs),(.str s.query),(.str s.mutation)] []) fun y38 =>
 exIs y38.1 (some 0) (cnd (chkL r9_right_l1F y38.2.1) (cnd (chkU [] y38.2.2)
 (some ((.bool true),[])) none) none)
 (exIs y38.1 none (cnd (chkL r9_right_l1F y38.2.1) (cnd (chkU [] y38.2.2)
 (some ((zb y38.2.1 2),[])) none) none)
 (none)))
 (cnd (t.name == ([73,110,116] : Str))
 (cnd (v0.kind == 2)
 (cnd (decide (v0.n ≥ (-2147483648)))
 (some ((.bool (decide (v0.n ≤ 2147483647))),[]))
 (some ((.bool false),[])))
 (some ((.bool false),[])))
 (cnd (t.name == ([83,116,114,105,110,103] : Str))
 (some ((.bool (v0.kind == 4)),[]))
 (cnd (t.name == ([66,111,111,108,101,97,110] : Str))
 (some ((.bool (v0.kind == 1)),[]))
 (cnd (t.name == ([73,68] : Str))
 (cnd (v0.kind == 4)
 (some ((.bool true),[]))
 (some ((.bool (v0.kind == 2)),[])))
 (callp O 164 [(eS s),(.str t.name)] fun x39 => cnd (chk (.tup [shDef,.bool]) x39)
 (cnd ((iv (tg x39 0) 0) == 4)
 (cnd (v0.kind == 5)
 (callp O 29 [(zs (tg x39 0) 4),(.str v0.s)] fun x41 => cnd (chk .bool x41)
 (some ((.bool (boolV x41)),[])) none)
 (some ((.bool false),[])))
 (cnd ((iv (tg x39 0) 0) == 5)
 (cnd (v0.kind == 7)
 (callp O 225 [(eS s),(zs (tg x39 0) 5),(zq encMember v0.m)] fun x43 => cnd (chk .bool x43)
 (some ((.bool (boolV x43)),[])) none)
 (some ((.bool false),[])))
 (some ((.bool false),[])))) none))))))) none)))) none
noncomputable def r9_right_l1T (s : GSchema) (v0 : GValue) (y4 : GType × Bool) : Int → Option (Int ⊕ (Unit ⊕ Unit))
 | i_12 =>
 cnd (decide (i_12 < (List.length v0.l : Int)))
  (bnd (nthI v0.l i_12) fun y14 =>
  bnd (r9_right s y4.1 y14 false) fun y16 =>
  cnd (!y16)
  (some (.inr (.inr ())))
  (some (.inl (IntKind.wrap .i64 (i_12 + 1)))))
  (some (.inr (.inl ())))
abbrev r9_right_l1P (s : GSchema) (t : GType) (v0 : GValue) (y4 : GType × Bool) (a0 : PV) : List PV := [(.ptr 0 4 0),(.ptr 0 6 0),(.bool false),(.ptr 0 9 0),a0,(.str y4.1.name),(i6 y4.1.lists),(i6 y4.1.musts),(i6 v0.kind),(i6 v0.n),(.str v0.s),(zq encValue v0.l),(zq encMember v0.m),(.str t.name),(i6 t.lists),(i6 t.musts),(zq encDef s.defs),(.str s.query),(.str s.mutation)]
abbrev r9_right_l1R (s : GSchema) (t : GType) (v0 : GValue) (y4 : GType × Bool) (st : Int) (l : List PV) (u : UP) : Prop := l = (r9_right_l1P s t v0 y4 (i6 st)) ∧ u = []
abbrev r9_right_l1X (s : GSchema) (t : GType) (v0 : GValue) (y4 : GType × Bool) (p : Unit ⊕ Unit) (r : EU) : Prop := elim p (fun (p : Unit) => ∃ (i_17 : Int),r = (Ex.brk 0,(r9_right_l1P s t v0 y4 (i6 i_17)),[])) (fun (p : Unit) => ∃ (i_18 : Int),r = (Ex.ret,(r9_right_l1P s t v0 y4 (i6 i_18)),[]))
noncomputable def r9_right_B (s : GSchema) (t : GType) (v0 : GValue) (alone : Bool) : Option Bool :=
 bnd (r1_RightType t) fun y2 =>
 cnd (!y2)
 (some false)
 (cnd (v0.kind == 8)
 (some true)
 (cnd (v0.kind == 0)
 (some ((bits .and .i64 t.musts 1) == 0))
 (bnd (r1_Item t) fun y4 =>
 cnd y4.2
 (cnd (v0.kind != 6)
 (cnd alone
 (bnd (r9_right s y4.1 v0 true) fun y6 =>
 some y6)
 (some false))
 (cnd y4.2
 (bnd (tloop (r9_right_l1T s v0 y4) 0) fun e19_2 => elim e19_2
 (fun p19 =>
 some true)
 (fun p19 =>
 some false))
 (cnd (t.name == ([73,110,116] : Str))
 (cnd (v0.kind == 2)
 (cnd (decide (v0.n ≥ (-2147483648)))
 (some (decide (v0.n ≤ 2147483647)))
 (some false))
 (some false))
 (cnd (t.name == ([83,116,114,105,110,103] : Str))
 (some (v0.kind == 4))
 (cnd (t.name == ([66,111,111,108,101,97,110] : Str))
 (some (v0.kind == 1))
 (cnd (t.name == ([73,68] : Str))
 (cnd (v0.kind == 4)
 (some true)
 (some (v0.kind == 2)))
 (bnd (r9_Find s t.name) fun y21 =>
 cnd (y21.1.kind == 4)
 (cnd (v0.kind == 5)
 (bnd (r1_Has y21.1.parts v0.s) fun y23 =>
 some y23)
 (some false))
 (cnd (y21.1.kind == 5)
 (cnd (v0.kind == 7)
 (bnd (r9_input s y21.1.params v0.m) fun y25 =>
 some y25)
 (some false))
 (some false)))))))))
 (cnd y4.2
 (bnd (tloop (r9_right_l1T s v0 y4) 0) fun e38_2 => elim e38_2
 (fun p38 =>
 some true)
 (fun p38 =>
 some false))
 (cnd (t.name == ([73,110,116] : Str))
 (cnd (v0.kind == 2)
 (cnd (decide (v0.n ≥ (-2147483648)))
 (some (decide (v0.n ≤ 2147483647)))
 (some false))
 (some false))
 (cnd (t.name == ([83,116,114,105,110,103] : Str))
 (some (v0.kind == 4))
 (cnd (t.name == ([66,111,111,108,101,97,110] : Str))
 (some (v0.kind == 1))
 (cnd (t.name == ([73,68] : Str))
 (cnd (v0.kind == 4)
 (some true)
 (some (v0.kind == 2)))
 (bnd (r9_Find s t.name) fun y40 =>
 cnd (y40.1.kind == 4)
 (cnd (v0.kind == 5)
 (bnd (r1_Has y40.1.parts v0.s) fun y42 =>
 some y42)
 (some false))
 (cnd (y40.1.kind == 5)
 (cnd (v0.kind == 7)
 (bnd (r9_input s y40.1.params v0.m) fun y44 =>
 some y44)
 (some false))
 (some false)))))))))))
def r9_right_ds : Decs := { decs := [(15,.bool),(29,(.tup [shType,.bool])),(43,.bool),(58,(.ref shValue)),(60,.bool),(103,(.tup [shDef,.bool])),(117,.bool),(133,.bool)],loops := [(12,[(9,3),(6,5),(5,3),(4,3)],⟨r9_right_l1F,[],[(some 0,r9_right_l1F,[]),(none,r9_right_l1F,[])]⟩)] }
theorem r9_right_t1 (O : Orc) (LP : LBs) (s : GSchema) (t : GType) (v0 : GValue) (alone : Bool) : eW 192 r9_right_ds Tryz.f192 O LP [(eS s),(eT t),(eV v0),(.bool alone)] [] = r9_right_T1 O LP s t v0 alone := by kernel_rfl
theorem r9_right_l1_ok (s : GSchema) (t : GType) (v0 : GValue) (y4 : GType × Bool) : ∀ st l u,r9_right_l1R s t v0 y4 st l u → Imp (r9_right_l1T s v0 y4 st) (r9_right_l1 O loopLim l u) (StepR (r9_right_l1R s t v0 y4) (r9_right_l1X s t v0 y4)) := by
 rintro i_12 l u ⟨rfl,rfl⟩
 simp only [r9_right_l1T,r9_right_l1,zd,zr]
 refine zG ?_
 try simp only [evs,tys]
 apply Imp.cnd
 ·refine zX encValue chk_GValue fun y14 _ => ?_
  try simp only [evs,tys]
  refine zC rfl fun y16 _ => ?_
  try simp only [zes,evs,tys]
  apply Imp.cnd
  ·exact zT ⟨i_12,zE⟩
  ·exact zN
 ·exact zB ⟨i_12,zE⟩
theorem r9_right_imp (s : GSchema) (t : GType) (v0 : GValue) (alone : Bool) : Imp (r9_right_B s t v0 alone) (r9_right_T1 O loopLim s t v0 alone) (Ri s6_ArgsRulesE) := by
 simp only [r9_right_B,r9_right_T1,zd,zr]
 try simp only [evs,tys]
 refine zC rfl fun y2 _ => ?_
 try simp only [zes,evs,tys]
 apply Imp.cnd
 ·exact zR
 ·apply Imp.cnd
  ·exact zR
  ·apply Imp.cnd
   ·exact zR
   ·refine zC rfl fun y4 _ => ?_
    try simp only [zes,evs,tys]
    apply Imp.cnd
    ·apply Imp.cnd
     ·apply Imp.cnd
      ·refine zC rfl fun y6 _ => ?_
       try simp only [zes,evs,tys]
       exact zR
      ·exact zR
     ·apply Imp.cnd
      ·refine zL (r9_right_l1_ok s t v0 y4) ?_
       rintro (p | p) vy19 hy19
       ·try simp only [elim_inl,elim_inr]
        obtain ⟨i_17,rfl⟩ := hy19
        refine zH ?_
        try simp only [evs,tys]
        exact zR
       ·try simp only [elim_inl,elim_inr]
        obtain ⟨i_18,rfl⟩ := hy19
        refine Imp.exMiss rfl ?_
        refine zH ?_
        try simp only [evs,tys]
        exact zR
      ·apply Imp.cnd
       ·apply Imp.cnd
        ·apply Imp.cnd
         ·exact zR
         ·exact zR
        ·exact zR
       ·apply Imp.cnd
        ·exact zR
        ·apply Imp.cnd
         ·exact zR
         ·apply Imp.cnd
          ·apply Imp.cnd
           ·exact zR
           ·exact zR
          ·refine zC rfl fun y21 _ => ?_
           try simp only [zes,evs,tys]
           apply Imp.cnd
           ·apply Imp.cnd
            ·refine zC rfl fun y23 _ => ?_
             try simp only [zes,evs,tys]
             exact zR
            ·exact zR
           ·apply Imp.cnd
            ·apply Imp.cnd
             ·refine zC rfl fun y25 _ => ?_
              try simp only [zes,evs,tys]
              exact zR
             ·exact zR
            ·exact zR
    ·apply Imp.cnd
     ·refine zL (r9_right_l1_ok s t v0 y4) ?_
      rintro (p | p) vy38 hy38
      ·try simp only [elim_inl,elim_inr]
       obtain ⟨i_36,rfl⟩ := hy38
       refine zH ?_
       try simp only [evs,tys]
       exact zR
      ·try simp only [elim_inl,elim_inr]
       obtain ⟨i_37,rfl⟩ := hy38
       refine Imp.exMiss rfl ?_
       refine zH ?_
       try simp only [evs,tys]
       exact zR
     ·apply Imp.cnd
      ·apply Imp.cnd
       ·apply Imp.cnd
        ·exact zR
        ·exact zR
       ·exact zR
      ·apply Imp.cnd
       ·exact zR
       ·apply Imp.cnd
        ·exact zR
        ·apply Imp.cnd
         ·apply Imp.cnd
          ·exact zR
          ·exact zR
         ·refine zC rfl fun y40 _ => ?_
          try simp only [zes,evs,tys]
          apply Imp.cnd
          ·apply Imp.cnd
           ·refine zC rfl fun y42 _ => ?_
            try simp only [zes,evs,tys]
            exact zR
           ·exact zR
          ·apply Imp.cnd
           ·apply Imp.cnd
            ·refine zC rfl fun y44 _ => ?_
             try simp only [zes,evs,tys]
             exact zR
            ·exact zR
           ·exact zR
theorem r9_right_run {s : GSchema} {t : GType} {v0 : GValue} {alone : Bool} {r : Bool} (h : r9_right_B s t v0 alone = some r) : r9_right s t v0 alone = some r := zV s6_ArgsRulesEj (r9_right_imp s t v0 alone) Tryz.func192 (r9_right_t1 _ _ s t v0 alone) h
abbrev r1_vars_l1F : List Sh := [st',(.ptr 0 2 0),n6,n6,n6,.str,sf,sf]
def r1_vars_l1 (O : Orc) (LP : LBs) : LBody := fun s5 s5u => cnd (chkL r1_vars_l1F s5) (cnd (chkU [] s5u)
 (cnd (decide ((iv s5 2) < (List.length (ev s5 6) : Int)))
 (cnd ((iv s5 3) == 6)
 (bnd (ix 5 (zs s5 6) (zn s5 2)) fun x12 => cnd (chk (.ref shValue) x12)
 (callp O 236 [(.agg [(zn (rf x12) 0),(zn (rf x12) 1),(zt (rf x12) 2),(zs (rf x12) 3),(zs (rf x12) 4)]),(zo s5 0)] fun x14 => cnd (chk st' x14)
 (some (.nrm,(pu (pu (rb r1_vars_l1F s5) 0 (.slice (esV x14) [] true)) 2 (i6 (w6 ((iv s5 2) + 1)))),[])) none) none)
 (some (.brk 0,(rb r1_vars_l1F s5),[])))
 (some (.brk 0,(rb r1_vars_l1F s5),[]))) none) none
abbrev r1_vars_l2F : List Sh := [st',(.ptr 0 2 0),n6,n6,n6,.str,sf,sf]
def r1_vars_l2 (O : Orc) (LP : LBs) : LBody := fun s19 s19u => cnd (chkL r1_vars_l2F s19) (cnd (chkU [] s19u)
 (cnd (decide ((iv s19 2) < (List.length (ev s19 7) : Int)))
 (cnd ((iv s19 3) == 7)
 (bnd (ix 6 (zs s19 7) (zn s19 2)) fun x26 => cnd (chk (.ref shMember) x26)
 (callp O 236 [(.agg [(zn (rf x26) 1),(zn (rf x26) 2),(zt (rf x26) 3),(zs (rf x26) 4),(zs (rf x26) 5)]),(zo s19 0)] fun x28 => cnd (chk st' x28)
 (some (.nrm,(pu (pu (rb r1_vars_l2F s19) 0 (.slice (esV x28) [] true)) 2 (i6 (w6 ((iv s19 2) + 1)))),[])) none) none)
 (some (.brk 2,(rb r1_vars_l2F s19),[])))
 (some (.brk 2,(rb r1_vars_l2F s19),[]))) none) none
def r1_vars_T1 (O : Orc) (LP : LBs) (v0 : GValue) (out0 : List Str) : Option (PV × UP) :=
 cnd (v0.kind == 8)
 (callp O 29 [(zq PV.str out0),(.str v0.s)] fun x1 => cnd (chk .bool x1)
 (cnd (!(boolV x1))
 (bnd (apd 1 (zp PV.str out0) (.slice [(.str v0.s)] [] true)) fun x3 => cnd (chk st' x3)
 (bnd (LP (r1_vars_l1 O LP) [(.slice (esV x3) [] true),(.ptr 0 2 0),(i6 0),(i6 v0.kind),(i6 v0.n),(.str v0.s),(zq encValue v0.l),(zq encMember v0.m)] []) fun y18 =>
 exIs y18.1 (some 0) (cnd (chkL r1_vars_l1F y18.2.1) (cnd (chkU [] y18.2.2)
 (bnd (LP (r1_vars_l2 O LP) [(zo y18.2.1 0),(.ptr 0 2 0),(i6 0),(zn y18.2.1 3),(zn y18.2.1 4),(zt y18.2.1 5),(zs y18.2.1 6),(zs y18.2.1 7)] []) fun y32 =>
 exIs y32.1 (some 2) (cnd (chkL r1_vars_l1F y32.2.1) (cnd (chkU [] y32.2.2)
 (some ((zo y32.2.1 0),[])) none) none)
 (none)) none) none)
 (none)) none)
 (bnd (LP (r1_vars_l1 O LP) [(zp PV.str out0),(.ptr 0 2 0),(i6 0),(i6 v0.kind),(i6 v0.n),(.str v0.s),(zq encValue v0.l),(zq encMember v0.m)] []) fun y46 =>
 exIs y46.1 (some 0) (cnd (chkL r1_vars_l1F y46.2.1) (cnd (chkU [] y46.2.2)
 (bnd (LP (r1_vars_l2 O LP) [(zo y46.2.1 0),(.ptr 0 2 0),(i6 0),(zn y46.2.1 3),(zn y46.2.1 4),(zt y46.2.1 5),(zs y46.2.1 6),(zs y46.2.1 7)] []) fun y60 =>
 exIs y60.1 (some 2) (cnd (chkL r1_vars_l1F y60.2.1) (cnd (chkU [] y60.2.2)
 (some ((zo y60.2.1 0),[])) none) none)
 (none)) none) none)
 (none))) none)
 (bnd (LP (r1_vars_l1 O LP) [(zp PV.str out0),(.ptr 0 2 0),(i6 0),(i6 v0.kind),(i6 v0.n),(.str v0.s),(zq encValue v0.l),(zq encMember v0.m)] []) fun y74 =>
 exIs y74.1 (some 0) (cnd (chkL r1_vars_l1F y74.2.1) (cnd (chkU [] y74.2.2)
 (bnd (LP (r1_vars_l2 O LP) [(zo y74.2.1 0),(.ptr 0 2 0),(i6 0),(zn y74.2.1 3),(zn y74.2.1 4),(zt y74.2.1 5),(zs y74.2.1 6),(zs y74.2.1 7)] []) fun y88 =>
 exIs y88.1 (some 2) (cnd (chkL r1_vars_l1F y88.2.1) (cnd (chkU [] y88.2.2)
 (some ((zo y88.2.1 0),[])) none) none)
 (none)) none) none)
 (none))
noncomputable def r1_vars_l1T (v0 : GValue) : ((List Str) × Int) → Option (((List Str) × Int) ⊕ ((List Str)))
 | (out_10,i_11) =>
 cnd (decide (i_11 < (List.length v0.l : Int)))
  (cnd (v0.kind == 6)
  (bnd (nthI v0.l i_11) fun y13 =>
  bnd (r1_vars y13 out_10) fun y15 =>
  some (.inl (y15,(IntKind.wrap .i64 (i_11 + 1)))))
  (some (.inr out_10)))
  (some (.inr out_10))
abbrev r1_vars_l1P (v0 : GValue) (a0 a1 : PV) : List PV := [a0,(.ptr 0 2 0),a1,(i6 v0.kind),(i6 v0.n),(.str v0.s),(zq encValue v0.l),(zq encMember v0.m)]
abbrev r1_vars_l1R (v0 : GValue) (st : (List Str) × Int) (l : List PV) (u : UP) : Prop := l = (r1_vars_l1P v0 (zp PV.str st.1) (i6 st.2)) ∧ u = []
abbrev r1_vars_l1X (v0 : GValue) (p : (List Str)) (r : EU) : Prop := ∃ (i_17 : Int),r = (Ex.brk 0,(r1_vars_l1P v0 (zp PV.str p) (i6 i_17)),[])
noncomputable def r1_vars_l2T (v0 : GValue) : ((List Str) × Int) → Option (((List Str) × Int) ⊕ ((List Str)))
 | (out_24,i_25) =>
 cnd (decide (i_25 < (List.length v0.m : Int)))
  (cnd (v0.kind == 7)
  (bnd (nthI v0.m i_25) fun y27 =>
  bnd (r1_vars y27.v out_24) fun y29 =>
  some (.inl (y29,(IntKind.wrap .i64 (i_25 + 1)))))
  (some (.inr out_24)))
  (some (.inr out_24))
abbrev r1_vars_l2P (v0 : GValue) (a0 a1 : PV) : List PV := [a0,(.ptr 0 2 0),a1,(i6 v0.kind),(i6 v0.n),(.str v0.s),(zq encValue v0.l),(zq encMember v0.m)]
abbrev r1_vars_l2R (v0 : GValue) (st : (List Str) × Int) (l : List PV) (u : UP) : Prop := l = (r1_vars_l2P v0 (zp PV.str st.1) (i6 st.2)) ∧ u = []
abbrev r1_vars_l2X (v0 : GValue) (p : (List Str)) (r : EU) : Prop := ∃ (i_31 : Int),r = (Ex.brk 2,(r1_vars_l2P v0 (zp PV.str p) (i6 i_31)),[])
noncomputable def r1_vars_B (v0 : GValue) (out0 : List Str) : Option (List Str) :=
 cnd (v0.kind == 8)
 (bnd (r1_Has out0 v0.s) fun y2 =>
 cnd (!y2)
 (bnd (tapp out0 [v0.s]) fun y4 =>
 bnd (tloop (r1_vars_l1T v0) (y4,0)) fun out_16 =>
 bnd (tloop (r1_vars_l2T v0) (out_16,0)) fun out_30 =>
 some out_30)
 (bnd (tloop (r1_vars_l1T v0) (out0,0)) fun out_44 =>
 bnd (tloop (r1_vars_l2T v0) (out_44,0)) fun out_58 =>
 some out_58))
 (bnd (tloop (r1_vars_l1T v0) (out0,0)) fun out_72 =>
 bnd (tloop (r1_vars_l2T v0) (out_72,0)) fun out_86 =>
 some out_86)
def r1_vars_ds : Decs := { decs := [(14,.bool),(21,st'),(37,(.ref shValue)),(40,st'),(56,(.ref shMember)),(60,st')],loops := [(4,[(2,5)],⟨r1_vars_l1F,[],[(some 0,r1_vars_l1F,[])]⟩),(8,[(2,5)],⟨r1_vars_l1F,[],[(some 2,r1_vars_l1F,[])]⟩)] }
theorem r1_vars_t1 (O : Orc) (LP : LBs) (v0 : GValue) (out0 : List Str) : eW 236 r1_vars_ds Tryz.f236 O LP [(eV v0),(zp PV.str out0)] [] = r1_vars_T1 O LP v0 out0 := by kernel_rfl
theorem r1_vars_l1_ok (v0 : GValue) : Lok (r1_vars_l1R v0) (r1_vars_l1T v0) (r1_vars_l1 O loopLim) (r1_vars_l1X v0) := by
 rintro ⟨out_10,i_11⟩ l u ⟨rfl,rfl⟩
 simp only [r1_vars_l1T,r1_vars_l1,zd,zr]
 refine zG ?_
 try simp only [evs,tys]
 apply Imp.cnd
 ·apply Imp.cnd
  ·refine zX encValue chk_GValue fun y13 _ => ?_
   try simp only [evs,tys]
   refine zC rfl fun y15 _ => ?_
   try simp only [zes,evs,tys]
   exact zN
  ·exact zB ⟨i_11,zE⟩
 ·exact zB ⟨i_11,zE⟩
theorem r1_vars_l2_ok (v0 : GValue) : Lok (r1_vars_l2R v0) (r1_vars_l2T v0) (r1_vars_l2 O loopLim) (r1_vars_l2X v0) := by
 rintro ⟨out_24,i_25⟩ l u ⟨rfl,rfl⟩
 simp only [r1_vars_l2T,r1_vars_l2,zd,zr]
 refine zG ?_
 try simp only [evs,tys]
 apply Imp.cnd
 ·apply Imp.cnd
  ·refine zX encMember chk_GMember fun y27 _ => ?_
   try simp only [evs,tys]
   refine zC rfl fun y29 _ => ?_
   try simp only [zes,evs,tys]
   exact zN
  ·exact zB ⟨i_25,zE⟩
 ·exact zB ⟨i_25,zE⟩
theorem r1_vars_imp (v0 : GValue) (out0 : List Str) : Imp (r1_vars_B v0 out0) (r1_vars_T1 O loopLim v0 out0) (Ri r1_varsE) := by
 simp only [r1_vars_B,r1_vars_T1,zd,zr]
 try simp only [evs,tys]
 apply Imp.cnd
 ·refine zC rfl fun y2 _ => ?_
  try simp only [zes,evs,tys]
  apply Imp.cnd
  ·refine Imp.op (f := fun a => .slice (List.map PV.str a) [] true) (fun a h => op_apd (enc := PV.str) zI zI (fun a => by first | rfl | simp only [evs,tys,evc]) h) (fun a => rfl) fun y4 hy4 => ?_
   try simp only [evs,tys]
   refine zL (r1_vars_l1_ok v0) ?_
   rintro out_16 _ ⟨i_17,rfl⟩
   refine zH ?_
   try simp only [evs,tys]
   refine zL (r1_vars_l2_ok v0) ?_
   rintro out_30 _ ⟨i_31,rfl⟩
   refine zH ?_
   try simp only [evs,tys]
   exact zR
  ·refine zL (r1_vars_l1_ok v0) ?_
   rintro out_44 _ ⟨i_45,rfl⟩
   refine zH ?_
   try simp only [evs,tys]
   refine zL (r1_vars_l2_ok v0) ?_
   rintro out_58 _ ⟨i_59,rfl⟩
   refine zH ?_
   try simp only [evs,tys]
   exact zR
 ·refine zL (r1_vars_l1_ok v0) ?_
  rintro out_72 _ ⟨i_73,rfl⟩
  refine zH ?_
  try simp only [evs,tys]
  refine zL (r1_vars_l2_ok v0) ?_
  rintro out_86 _ ⟨i_87,rfl⟩
  refine zH ?_
  try simp only [evs,tys]
  exact zR
theorem r1_vars_run {v0 : GValue} {out0 : List Str} {r : List Str} (h : r1_vars_B v0 out0 = some r) : r1_vars v0 out0 = some r := zV r1_varsEj (r1_vars_imp v0 out0) Tryz.func236 (r1_vars_t1 _ _ v0 out0) h
def r1_numeral_T1 (O : Orc) (LP : LBs) (s : Str) : Option (PV × UP) :=
 jn (fun (i_4 : Int) (t_5 : Bool) (t_6 : Bool) =>
 (callp O 250 [(.str s),(i6 i_4)] fun x7 => cnd (chk n6 x7)
 (cnd ((intV x7) == 0)
 (some ((.tuple [(i6 0),(i6 0)]),[]))
 (jn (fun (n_13 : Int) (t_14 : Bool) =>
 (jn (fun (i_22 : Int) (kind_23 : Int) (t_24 : Bool) (t_25 : Bool) (t_26 : Bool) (t_27 : Bool) =>
 (cnd (decide (i_22 < (List.length s : Int)))
 (bnd (ixStr (.str s) (i6 i_22)) fun x28 => cnd (chk (.int .u8) x28)
 (cnd ((intV x28) == 101)
 (jn (fun (k_35 : Int) (t_36 : Bool) (t_37 : Bool) =>
 (callp O 250 [(.str s),(i6 k_35)] fun x38 => cnd (chk n6 x38)
 (cnd (decide ((intV x38) > 0))
 (callp O 250 [(.str s),(i6 k_35)] fun x40 => cnd (chk n6 x40)
 (some ((.tuple [(i6 (w6 (k_35 + (intV x40)))),(i6 4)]),[])) none)
 (some ((.tuple [(i6 i_22),(i6 kind_23)]),[]))) none)) fun k30 =>
 cnd (decide ((w6 (i_22 + 1)) < (List.length s : Int)))
 (bnd (ixStr (.str s) (i6 (w6 (i_22 + 1)))) fun x31 => cnd (chk (.int .u8) x31)
 (cnd ((intV x31) == 43)
 (k30 (w6 ((w6 (i_22 + 1)) + 1)) true true)
 (bnd (ixStr (.str s) (i6 (w6 (i_22 + 1)))) fun x33 => cnd (chk (.int .u8) x33)
 (cnd ((intV x33) == 45)
 (k30 (w6 ((w6 (i_22 + 1)) + 1)) true true)
 (k30 (w6 (i_22 + 1)) true false)) none)) none)
 (k30 (w6 (i_22 + 1)) false false))
 (bnd (ixStr (.str s) (i6 i_22)) fun x42 => cnd (chk (.int .u8) x42)
 (cnd ((intV x42) == 69)
 (jn (fun (k_49 : Int) (t_50 : Bool) (t_51 : Bool) =>
 (callp O 250 [(.str s),(i6 k_49)] fun x52 => cnd (chk n6 x52)
 (cnd (decide ((intV x52) > 0))
 (callp O 250 [(.str s),(i6 k_49)] fun x54 => cnd (chk n6 x54)
 (some ((.tuple [(i6 (w6 (k_49 + (intV x54)))),(i6 4)]),[])) none)
 (some ((.tuple [(i6 i_22),(i6 kind_23)]),[]))) none)) fun k44 =>
 cnd (decide ((w6 (i_22 + 1)) < (List.length s : Int)))
 (bnd (ixStr (.str s) (i6 (w6 (i_22 + 1)))) fun x45 => cnd (chk (.int .u8) x45)
 (cnd ((intV x45) == 43)
 (k44 (w6 ((w6 (i_22 + 1)) + 1)) true true)
 (bnd (ixStr (.str s) (i6 (w6 (i_22 + 1)))) fun x47 => cnd (chk (.int .u8) x47)
 (cnd ((intV x47) == 45)
 (k44 (w6 ((w6 (i_22 + 1)) + 1)) true true)
 (k44 (w6 (i_22 + 1)) true false)) none)) none)
 (k44 (w6 (i_22 + 1)) false false))
 (some ((.tuple [(i6 i_22),(i6 kind_23)]),[]))) none)) none)
 (some ((.tuple [(i6 i_22),(i6 kind_23)]),[])))) fun k15 =>
 cnd (decide ((w6 (i_4 + n_13)) < (List.length s : Int)))
 (bnd (ixStr (.str s) (i6 (w6 (i_4 + n_13)))) fun x16 => cnd (chk (.int .u8) x16)
 (cnd ((intV x16) == 46)
 (callp O 250 [(.str s),(i6 (w6 ((w6 (i_4 + n_13)) + 1)))] fun x18 => cnd (chk n6 x18)
 (cnd (decide ((intV x18) > 0))
 (callp O 250 [(.str s),(i6 (w6 ((w6 (i_4 + n_13)) + 1)))] fun x20 => cnd (chk n6 x20)
 (k15 (w6 ((w6 ((w6 (i_4 + n_13)) + 1)) + (intV x20))) 4 true ((intV x16) == 46) true true) none)
 (k15 (w6 (i_4 + n_13)) 3 true ((intV x16) == 46) true false)) none)
 (k15 (w6 (i_4 + n_13)) 3 true ((intV x16) == 46) false false)) none)
 (k15 (w6 (i_4 + n_13)) 3 false false false false))) fun k10 =>
 bnd (ixStr (.str s) (i6 i_4)) fun x11 => cnd (chk (.int .u8) x11)
 (cnd ((intV x11) == 48)
 (k10 1 true)
 (k10 (intV x7) false)) none)) none)) fun k1 =>
 cnd (decide ((0 : Int) < (List.length s : Int)))
 (bnd (ixStr (.str s) (i6 0)) fun x2 => cnd (chk (.int .u8) x2)
 (cnd ((intV x2) == 45)
 (k1 1 true true)
 (k1 0 true false)) none)
 (k1 0 false false)
noncomputable def r1_numeral_B (s : Str) : Option (Int × Int) :=
 jn (fun (i_4 : Int) (t_5 : Bool) (t_6 : Bool) =>
 (bnd (r1_run s i_4) fun y8 =>
 cnd (y8 == 0)
 (some (0,0))
 (jn (fun (n_13 : Int) (t_14 : Bool) =>
 (jn (fun (i_22 : Int) (kind_23 : Int) (t_24 : Bool) (t_25 : Bool) (t_26 : Bool) (t_27 : Bool) =>
 (cnd (decide (i_22 < (List.length s : Int)))
 (bnd (nthI s i_22) fun y29 =>
 cnd ((y29.toNat : Int) == 101)
 (jn (fun (k_35 : Int) (t_36 : Bool) (t_37 : Bool) =>
 (bnd (r1_run s k_35) fun y39 =>
 cnd (decide (y39 > 0))
 (bnd (r1_run s k_35) fun y41 =>
 some ((IntKind.wrap .i64 (k_35 + y41)),4))
 (some (i_22,kind_23)))) fun k30 =>
 cnd (decide ((IntKind.wrap .i64 (i_22 + 1)) < (List.length s : Int)))
 (bnd (nthI s (IntKind.wrap .i64 (i_22 + 1))) fun y32 =>
 cnd ((y32.toNat : Int) == 43)
 (k30 (IntKind.wrap .i64 ((IntKind.wrap .i64 (i_22 + 1)) + 1)) true true)
 (bnd (nthI s (IntKind.wrap .i64 (i_22 + 1))) fun y34 =>
 cnd ((y34.toNat : Int) == 45)
 (k30 (IntKind.wrap .i64 ((IntKind.wrap .i64 (i_22 + 1)) + 1)) true true)
 (k30 (IntKind.wrap .i64 (i_22 + 1)) true false)))
 (k30 (IntKind.wrap .i64 (i_22 + 1)) false false))
 (bnd (nthI s i_22) fun y43 =>
 cnd ((y43.toNat : Int) == 69)
 (jn (fun (k_49 : Int) (t_50 : Bool) (t_51 : Bool) =>
 (bnd (r1_run s k_49) fun y53 =>
 cnd (decide (y53 > 0))
 (bnd (r1_run s k_49) fun y55 =>
 some ((IntKind.wrap .i64 (k_49 + y55)),4))
 (some (i_22,kind_23)))) fun k44 =>
 cnd (decide ((IntKind.wrap .i64 (i_22 + 1)) < (List.length s : Int)))
 (bnd (nthI s (IntKind.wrap .i64 (i_22 + 1))) fun y46 =>
 cnd ((y46.toNat : Int) == 43)
 (k44 (IntKind.wrap .i64 ((IntKind.wrap .i64 (i_22 + 1)) + 1)) true true)
 (bnd (nthI s (IntKind.wrap .i64 (i_22 + 1))) fun y48 =>
 cnd ((y48.toNat : Int) == 45)
 (k44 (IntKind.wrap .i64 ((IntKind.wrap .i64 (i_22 + 1)) + 1)) true true)
 (k44 (IntKind.wrap .i64 (i_22 + 1)) true false)))
 (k44 (IntKind.wrap .i64 (i_22 + 1)) false false))
 (some (i_22,kind_23))))
 (some (i_22,kind_23)))) fun k15 =>
 cnd (decide ((IntKind.wrap .i64 (i_4 + n_13)) < (List.length s : Int)))
 (bnd (nthI s (IntKind.wrap .i64 (i_4 + n_13))) fun y17 =>
 cnd ((y17.toNat : Int) == 46)
 (bnd (r1_run s (IntKind.wrap .i64 ((IntKind.wrap .i64 (i_4 + n_13)) + 1))) fun y19 =>
 cnd (decide (y19 > 0))
 (bnd (r1_run s (IntKind.wrap .i64 ((IntKind.wrap .i64 (i_4 + n_13)) + 1))) fun y21 =>
 k15 (IntKind.wrap .i64 ((IntKind.wrap .i64 ((IntKind.wrap .i64 (i_4 + n_13)) + 1)) + y21)) 4 true ((y17.toNat : Int) == 46) true true)
 (k15 (IntKind.wrap .i64 (i_4 + n_13)) 3 true ((y17.toNat : Int) == 46) true false))
 (k15 (IntKind.wrap .i64 (i_4 + n_13)) 3 true ((y17.toNat : Int) == 46) false false))
 (k15 (IntKind.wrap .i64 (i_4 + n_13)) 3 false false false false))) fun k10 =>
 bnd (nthI s i_4) fun y12 =>
 cnd ((y12.toNat : Int) == 48)
 (k10 1 true)
 (k10 y8 false)))) fun k1 =>
 cnd (decide ((0 : Int) < (List.length s : Int)))
 (bnd (nthI s 0) fun y3 =>
 cnd ((y3.toNat : Int) == 45)
 (k1 1 true true)
 (k1 0 true false))
 (k1 0 false false)
def r1_numeral_ds : Decs := { decs := [(15,(.int .u8)),(22,n6),(27,(.int .u8)),(39,(.int .u8)),(46,n6),(54,n6),(63,(.int .u8)),(68,(.int .u8)),(81,(.int .u8)),(86,(.int .u8)),(94,n6),(99,n6)] }
theorem r1_numeral_t1 (O : Orc) (LP : LBs) (s : Str) : eW 238 r1_numeral_ds Tryz.f238 O LP [(.str s)] [] = r1_numeral_T1 O LP s := by kernel_rfl
theorem r1_numeral_imp (s : Str) : Imp (r1_numeral_B s) (r1_numeral_T1 O loopLim s) (Ri r1_numeralE) := by
 simp only [r1_numeral_B,r1_numeral_T1,zd,zr]
 try simp only [evs,tys]
 refine Imp.jn (fun I k2 k1 => ∀ (i_4 : Int) (t_5 : Bool) (t_6 : Bool),I (k2 i_4 t_5 t_6) (k1 i_4 t_5 t_6)) (fun i_4 t_5 t_6 => ?_) fun k1 k1t hk1 => ?_
 ·dsimp only
  try simp only [evs,tys]
  refine zC rfl fun y8 _ => ?_
  try simp only [zes,evs,tys]
  apply Imp.cnd
  ·exact zR
  ·refine Imp.jn (fun I k2 k1 => ∀ (n_13 : Int) (t_14 : Bool),I (k2 n_13 t_14) (k1 n_13 t_14)) (fun n_13 t_14 => ?_) fun k10 k10t hk10 => ?_
   ·dsimp only
    try simp only [evs,tys]
    refine Imp.jn (fun I k2 k1 => ∀ (i_22 : Int) (kind_23 : Int) (t_24 : Bool) (t_25 : Bool) (t_26 : Bool) (t_27 : Bool),I (k2 i_22 kind_23 t_24 t_25 t_26 t_27) (k1 i_22 kind_23 t_24 t_25 t_26 t_27)) (fun i_22 kind_23 t_24 t_25 t_26 t_27 => ?_) fun k15 k15t hk15 => ?_
    ·dsimp only
     try simp only [evs,tys]
     apply Imp.cnd
     ·refine Imp.op (f := fun a => .int .u8 (a.toNat : Int)) (fun a h => op_ixStr h) (fun a => rfl) fun y29 hy29 => ?_
      try simp only [evs,tys]
      apply Imp.cnd
      ·refine Imp.jn (fun I k2 k1 => ∀ (k_35 : Int) (t_36 : Bool) (t_37 : Bool),I (k2 k_35 t_36 t_37) (k1 k_35 t_36 t_37)) (fun k_35 t_36 t_37 => ?_) fun k30 k30t hk30 => ?_
       ·dsimp only
        try simp only [evs,tys]
        refine zC rfl fun y39 _ => ?_
        try simp only [zes,evs,tys]
        apply Imp.cnd
        ·refine zC rfl fun y41 _ => ?_
         try simp only [zes,evs,tys]
         exact zR
        ·exact zR
       apply Imp.cnd
       ·refine Imp.op (f := fun a => .int .u8 (a.toNat : Int)) (fun a h => op_ixStr h) (fun a => rfl) fun y32 hy32 => ?_
        try simp only [evs,tys]
        apply Imp.cnd
        ·first | exact hk30 _ _ _ | simpa only [evs,tys,evl] using hk30 _ _ _
        ·refine Imp.op (f := fun a => .int .u8 (a.toNat : Int)) (fun a h => op_ixStr h) (fun a => rfl) fun y34 hy34 => ?_
         try simp only [evs,tys]
         apply Imp.cnd
         ·first | exact hk30 _ _ _ | simpa only [evs,tys,evl] using hk30 _ _ _
         ·first | exact hk30 _ _ _ | simpa only [evs,tys,evl] using hk30 _ _ _
       ·first | exact hk30 _ _ _ | simpa only [evs,tys,evl] using hk30 _ _ _
      ·refine Imp.op (f := fun a => .int .u8 (a.toNat : Int)) (fun a h => op_ixStr h) (fun a => rfl) fun y43 hy43 => ?_
       try simp only [evs,tys]
       apply Imp.cnd
       ·refine Imp.jn (fun I k2 k1 => ∀ (k_49 : Int) (t_50 : Bool) (t_51 : Bool),I (k2 k_49 t_50 t_51) (k1 k_49 t_50 t_51)) (fun k_49 t_50 t_51 => ?_) fun k44 k44t hk44 => ?_
        ·dsimp only
         try simp only [evs,tys]
         refine zC rfl fun y53 _ => ?_
         try simp only [zes,evs,tys]
         apply Imp.cnd
         ·refine zC rfl fun y55 _ => ?_
          try simp only [zes,evs,tys]
          exact zR
         ·exact zR
        apply Imp.cnd
        ·refine Imp.op (f := fun a => .int .u8 (a.toNat : Int)) (fun a h => op_ixStr h) (fun a => rfl) fun y46 hy46 => ?_
         try simp only [evs,tys]
         apply Imp.cnd
         ·first | exact hk44 _ _ _ | simpa only [evs,tys,evl] using hk44 _ _ _
         ·refine Imp.op (f := fun a => .int .u8 (a.toNat : Int)) (fun a h => op_ixStr h) (fun a => rfl) fun y48 hy48 => ?_
          try simp only [evs,tys]
          apply Imp.cnd
          ·first | exact hk44 _ _ _ | simpa only [evs,tys,evl] using hk44 _ _ _
          ·first | exact hk44 _ _ _ | simpa only [evs,tys,evl] using hk44 _ _ _
        ·first | exact hk44 _ _ _ | simpa only [evs,tys,evl] using hk44 _ _ _
       ·exact zR
     ·exact zR
    apply Imp.cnd
    ·refine Imp.op (f := fun a => .int .u8 (a.toNat : Int)) (fun a h => op_ixStr h) (fun a => rfl) fun y17 hy17 => ?_
     try simp only [evs,tys]
     apply Imp.cnd
     ·refine zC rfl fun y19 _ => ?_
      try simp only [zes,evs,tys]
      apply Imp.cnd
      ·refine zC rfl fun y21 _ => ?_
       try simp only [zes,evs,tys]
       first | exact hk15 _ _ _ _ _ _ | simpa only [evs,tys,evl] using hk15 _ _ _ _ _ _
      ·first | exact hk15 _ _ _ _ _ _ | simpa only [evs,tys,evl] using hk15 _ _ _ _ _ _
     ·first | exact hk15 _ _ _ _ _ _ | simpa only [evs,tys,evl] using hk15 _ _ _ _ _ _
    ·first | exact hk15 _ _ _ _ _ _ | simpa only [evs,tys,evl] using hk15 _ _ _ _ _ _
   refine Imp.op (f := fun a => .int .u8 (a.toNat : Int)) (fun a h => op_ixStr h) (fun a => rfl) fun y12 hy12 => ?_
   try simp only [evs,tys]
   apply Imp.cnd
   ·first | exact hk10 _ _ | simpa only [evs,tys,evl] using hk10 _ _
   ·first | exact hk10 _ _ | simpa only [evs,tys,evl] using hk10 _ _
 apply Imp.cnd
 ·refine Imp.op (f := fun a => .int .u8 (a.toNat : Int)) (fun a h => op_ixStr h) (fun a => rfl) fun y3 hy3 => ?_
  try simp only [evs,tys]
  apply Imp.cnd
  ·first | exact hk1 _ _ _ | simpa only [evs,tys,evl] using hk1 _ _ _
  ·first | exact hk1 _ _ _ | simpa only [evs,tys,evl] using hk1 _ _ _
 ·first | exact hk1 _ _ _ | simpa only [evs,tys,evl] using hk1 _ _ _
theorem r1_numeral_run {s : Str} {r : Int × Int} (h : r1_numeral_B s = some r) : r1_numeral s = some r := zV r1_numeralEj (r1_numeral_imp s) Tryz.func238 (r1_numeral_t1 _ _ s) h
abbrev r1_Codes_l1F : List Sh := [.str,st',.bool,st',n6]
def r1_Codes_l1 (O : Orc) (LP : LBs) : LBody := fun s1 s1u => cnd (chkL r1_Codes_l1F s1) (cnd (chkU [] s1u)
 (cnd (decide ((iv s1 4) < (List.length (sv s1 0) : Int)))
 (callp O 251 [(zt s1 0),(zn s1 4)] fun x8 => cnd (chk (.tup [n6,n6]) x8)
 (cnd ((intV (tv x8 1)) == 0)
 (some (.ret,[(zt s1 0),(.slice [] [] true),(.bool false),(zo s1 3),(zn s1 4)],[]))
 (bnd (apd 1 (zo s1 3) (.slice [(i6 (intV (tv x8 0)))] [] true)) fun x10 => cnd (chk st' x10)
 (some (.nrm,[(zt s1 0),(zo s1 1),(zb s1 2),(.slice (esV x10) [] true),(i6 (w6 ((iv s1 4) + (intV (tv x8 1)))))],[])) none)) none)
 (some (.brk 0,(rb r1_Codes_l1F s1),[]))) none) none
def r1_Codes_T1 (O : Orc) (LP : LBs) (s : Str) : Option (PV × UP) :=
 bnd (LP (r1_Codes_l1 O LP) [(.str s),(.slice [] [] true),(.bool false),(.slice [] [] true),(i6 0)] []) fun y16 =>
 exIs y16.1 (some 0) (cnd (chkL r1_Codes_l1F y16.2.1) (cnd (chkU [] y16.2.2)
 (some ((.tuple [(zs y16.2.1 3),(.bool true)]),[])) none) none)
 (exIs y16.1 none (cnd (chkL r1_Codes_l1F y16.2.1) (cnd (chkU [] y16.2.2)
 (some ((.tuple [(zs y16.2.1 1),(zb y16.2.1 2)]),[])) none) none)
 (none))
noncomputable def r1_Codes_l1T (s : Str) : ((List Int) × Int) → Option (((List Int) × Int) ⊕ ((List Int) ⊕ Unit))
 | (out_6,i_7) =>
 cnd (decide (i_7 < (List.length s : Int)))
  (bnd (r1_Code s i_7) fun y9 =>
  cnd (y9.2 == 0)
  (some (.inr (.inr ())))
  (bnd (tapp out_6 [y9.1]) fun y11 =>
  some (.inl (y11,(IntKind.wrap .i64 (i_7 + y9.2))))))
  (some (.inr (.inl out_6)))
abbrev r1_Codes_l1R (s : Str) (st : (List Int) × Int) (l : List PV) (u : UP) : Prop := l = [(.str s),(.slice [] [] true),(.bool false),(.slice (List.map (PV.int .i64) st.1) [] true),(i6 st.2)] ∧ u = []
abbrev r1_Codes_l1X (s : Str) (p : (List Int) ⊕ Unit) (r : EU) : Prop := elim p (fun (p : (List Int)) => ∃ (i_13 : Int),r = (Ex.brk 0,[(.str s),(.slice [] [] true),(.bool false),(.slice (List.map (PV.int .i64) p) [] true),(i6 i_13)],[])) (fun q2 => (fun (p : Unit) => ∃ (out_14 : List Int),∃ (i_15 : Int),r = (Ex.ret,[(.str s),(.slice [] [] true),(.bool false),(.slice (List.map (PV.int .i64) out_14) [] true),(i6 i_15)],[])) q2)
noncomputable def r1_Codes_B (s : Str) : Option ((List Int) × Bool) :=
 bnd (tloop (r1_Codes_l1T s) ([],0)) fun e16_2 => elim e16_2
 (fun out_12 =>
 some (out_12,true))
 (fun p16 =>
 some (([] : List Int),false))
def r1_Codes_ds : Decs := { decs := [(15,(.tup [n6,n6])),(23,st')],loops := [(3,[],⟨r1_Codes_l1F,[],[(some 0,r1_Codes_l1F,[]),(none,r1_Codes_l1F,[])]⟩)] }
theorem r1_Codes_t1 (O : Orc) (LP : LBs) (s : Str) : eW 239 r1_Codes_ds Tryz.f239 O LP [(.str s)] [] = r1_Codes_T1 O LP s := by kernel_rfl
theorem r1_Codes_l1_ok (s : Str) : Lok (r1_Codes_l1R s) (r1_Codes_l1T s) (r1_Codes_l1 O loopLim) (r1_Codes_l1X s) := by
 rintro ⟨out_6,i_7⟩ l u ⟨rfl,rfl⟩
 simp only [r1_Codes_l1T,r1_Codes_l1,zd,zr]
 refine zG ?_
 try simp only [evs,tys]
 apply Imp.cnd
 ·refine zC rfl fun y9 _ => ?_
  try simp only [zes,evs,tys]
  apply Imp.cnd
  ·exact zT ⟨out_6,i_7,zE⟩
  ·refine Imp.op (f := fun a => .slice (List.map (PV.int .i64) a) [] true) (fun a h => op_apd (enc := (PV.int .i64)) zI zI (fun a => by first | rfl | simp only [evs,tys,evc]) h) (fun a => rfl) fun y11 hy11 => ?_
   try simp only [evs,tys]
   exact zN
 ·exact zB ⟨i_7,zE⟩
theorem r1_Codes_imp (s : Str) : Imp (r1_Codes_B s) (r1_Codes_T1 O loopLim s) (Ri r1_CodesE) := by
 simp only [r1_Codes_B,r1_Codes_T1,zd,zr]
 try simp only [evs,tys]
 refine zL (r1_Codes_l1_ok s) ?_
 rintro (out_12 | p) vy16 hy16
 ·try simp only [elim_inl,elim_inr]
  obtain ⟨i_13,rfl⟩ := hy16
  refine zH ?_
  try simp only [evs,tys]
  exact zR
 ·try simp only [elim_inl,elim_inr]
  obtain ⟨out_14,i_15,rfl⟩ := hy16
  refine Imp.exMiss rfl ?_
  refine zH ?_
  try simp only [evs,tys]
  exact zR
theorem r1_Codes_run {s : Str} {r : (List Int) × Bool} (h : r1_Codes_B s = some r) : r1_Codes s = some r := zV r1_CodesEj (r1_Codes_imp s) Tryz.func239 (r1_Codes_t1 _ _ s) h
def s6_light_T1 (O : Orc) (LP : LBs) (s : GSchema) (d : GDoc) : Option (PV × UP) :=
 callp O 30 [(eS s)] fun x1 => cnd (chk .bool x1)
 (cnd (boolV x1)
 (callp O 31 [(eD d)] fun x3 => cnd (chk .bool x3)
 (some ((.bool (boolV x3)),[])) none)
 (some ((.bool false),[]))) none
noncomputable def s6_light_B (s : GSchema) (d : GDoc) : Option Bool :=
 bnd (seinelaw8_Light s) fun y2 =>
 cnd y2
 (bnd (seinelaw7_Light d) fun y4 =>
 some y4)
 (some false)
def s6_light_ds : Decs := { decs := [(6,.bool),(9,.bool)] }
theorem s6_light_t1 (O : Orc) (LP : LBs) (s : GSchema) (d : GDoc) : eW 17 s6_light_ds Tryz.f17 O LP [(eS s),(eD d)] [] = s6_light_T1 O LP s d := by kernel_rfl
theorem s6_light_imp (s : GSchema) (d : GDoc) : Imp (s6_light_B s d) (s6_light_T1 O loopLim s d) (Ri s6_ArgsRulesE) := by
 simp only [s6_light_B,s6_light_T1,zd,zr]
 try simp only [evs,tys]
 refine zC rfl fun y2 _ => ?_
 try simp only [zes,evs,tys]
 apply Imp.cnd
 ·refine zC rfl fun y4 _ => ?_
  try simp only [zes,evs,tys]
  exact zR
 ·exact zR
theorem s6_light_run {s : GSchema} {d : GDoc} {r : Bool} (h : s6_light_B s d = some r) : s6_light s d = some r := zV s6_ArgsRulesEj (s6_light_imp s d) Tryz.func17 (s6_light_t1 _ _ s d) h
theorem s6_awake_run {r : Bool} (n : Nat) (h : evalK Tryz.prog MT XT n 18 [] [] = some (s6_ArgsRulesE r,[])) : s6_awake = some r := tO_of (pair_inj s6_ArgsRulesEj) (evalK_OL n h)
abbrev ar_Walk_1_l1F : List Sh := [(.ptr 1 5 0),.bool,sf,n6,n6,.str,sf,.str,n6,n6,sf,n6,.str,.str,sf,sf,.str,sf]
def ar_Walk_1_l1 (w : W3) (O : Orc) (LP : LBs) : LBody := fun s5 s5u => cnd (chkL ar_Walk_1_l1F s5) (cnd (chkU [[(5,[(.func (fw w) [] [])]),(4,[sf,sf]),(3,[sf,.str,.str])]] s5u)
 (cnd (decide ((iv s5 4) < (iv s5 3)))
 (bnd (ix 2 (zs s5 2) (zn s5 4)) fun x13 => cnd (chk (.ref shDir) x13)
 (callp O 110 [(.agg [(zt (rf x13) 0),(zs (rf x13) 1)])] fun x15 => cnd (chk sf x15)
 (callp O (fw w) [(.slice (esV x15) [] false),(zs (rf x13) 1)] fun x17 => cnd (chk .bool x17)
 (cnd (!(boolV x17))
 (some (.ret,(pu (rb ar_Walk_1_l1F s5) 1 (.bool false)),[[(5,[(.func (.func (fw w)) [] [])]),(4,[(zs (bx s5u 0 1) 0),(zs (bx s5u 0 1) 1)]),(3,[(zs (bx s5u 0 2) 0),(zt (bx s5u 0 2) 1),(zt (bx s5u 0 2) 2)])]]))
 (some (.nrm,(pu (rb ar_Walk_1_l1F s5) 4 (i6 (w6 ((iv s5 4) + 1)))),[[(5,[(.func (.func (fw w)) [] [])]),(4,[(zs (bx s5u 0 1) 0),(zs (bx s5u 0 1) 1)]),(3,[(zs (bx s5u 0 2) 0),(zt (bx s5u 0 2) 1),(zt (bx s5u 0 2) 2)])]]))) none) none) none)
 (some (.brk 0,(rb ar_Walk_1_l1F s5),[[(5,[(.func (.func (fw w)) [] [])]),(4,[(zs (bx s5u 0 1) 0),(zs (bx s5u 0 1) 1)]),(3,[(zs (bx s5u 0 2) 0),(zt (bx s5u 0 2) 1),(zt (bx s5u 0 2) 2)])]]))) none) none
abbrev ar_Walk_1_l2F : List Sh := [(.ptr 1 5 0),.bool,sf,n6,n6,n6,.str,.str,sf,sf,.str,sf]
def ar_Walk_1_l2 (w : W3) (O : Orc) (LP : LBs) : LBody := fun s22 s22u => cnd (chkL ar_Walk_1_l2F s22) (cnd (chkU [[(5,[(.func (fw w) [] [])]),(4,[sf,sf]),(3,[sf,.str,.str])]] s22u)
 (cnd (decide ((iv s22 4) < (iv s22 3)))
 (bnd (ix 2 (zs s22 2) (zn s22 4)) fun x30 => cnd (chk (.ref shDir) x30)
 (callp O 110 [(.agg [(zt (rf x30) 0),(zs (rf x30) 1)])] fun x32 => cnd (chk sf x32)
 (callp O (fw w) [(.slice (esV x32) [] false),(zs (rf x30) 1)] fun x34 => cnd (chk .bool x34)
 (cnd (!(boolV x34))
 (some (.ret,(pu (rb ar_Walk_1_l2F s22) 1 (.bool false)),[[(5,[(.func (.func (fw w)) [] [])]),(4,[(zs (bx s22u 0 1) 0),(zs (bx s22u 0 1) 1)]),(3,[(zs (bx s22u 0 2) 0),(zt (bx s22u 0 2) 1),(zt (bx s22u 0 2) 2)])]]))
 (some (.nrm,(pu (rb ar_Walk_1_l2F s22) 4 (i6 (w6 ((iv s22 4) + 1)))),[[(5,[(.func (.func (fw w)) [] [])]),(4,[(zs (bx s22u 0 1) 0),(zs (bx s22u 0 1) 1)]),(3,[(zs (bx s22u 0 2) 0),(zt (bx s22u 0 2) 1),(zt (bx s22u 0 2) 2)])]]))) none) none) none)
 (some (.brk 0,(rb ar_Walk_1_l2F s22),[[(5,[(.func (.func (fw w)) [] [])]),(4,[(zs (bx s22u 0 1) 0),(zs (bx s22u 0 1) 1)]),(3,[(zs (bx s22u 0 2) 0),(zt (bx s22u 0 2) 1),(zt (bx s22u 0 2) 2)])]]))) none) none
def ar_Walk_1_T1 (w : W3) (O : Orc) (LP : LBs) (typ : Str) (x : GSel) (u0_4 : GDoc) (u0_3 : GSchema) : Option (PV × UP) :=
 cnd (x.kind == 0)
 (callp O 109 [(eS u0_3),(.str typ),(.str x.name)] fun x1 => cnd (chk (.tup [shFieldDef,.bool]) x1)
 (callp O (fw w) [(zs (tg x1 0) 1),(zq encMember x.args)] fun x3 => cnd (chk .bool x3)
 (cnd (!(boolV x3))
 (some ((.bool false),[[(5,[(.func (.func (fw w)) [] [])]),(4,[(zq encOp u0_4.ops),(zq encFrag u0_4.frags)]),(3,[(zq encDef u0_3.defs),(.str u0_3.query),(.str u0_3.mutation)])]]))
 (bnd (LP ((ar_Walk_1_l1 w) O LP) [(.ptr 1 5 0),(.bool false),(zq encDir x.dirs),(i6 (List.length (List.map encDir x.dirs) : Int)),(i6 0),(zt (tg x1 0) 0),(zs (tg x1 0) 1),(zt (tg x1 0) 2),(zn (tg x1 0) 3),(zn (tg x1 0) 4),(zs (tg x1 0) 5),(i6 x.kind),(.str x.alias),(.str x.name),(zq encMember x.args),(zq encDir x.dirs),(.str x.on_),(zq encSel x.sels)] [[(5,[(.func (.func (fw w)) [] [])]),(4,[(zq encOp u0_4.ops),(zq encFrag u0_4.frags)]),(3,[(zq encDef u0_3.defs),(.str u0_3.query),(.str u0_3.mutation)])]]) fun y21 =>
 exIs y21.1 (some 0) (cnd (chkL ar_Walk_1_l1F y21.2.1) (cnd (chkU [[(5,[(.func (fw w) [] [])]),(4,[sf,sf]),(3,[sf,.str,.str])]] y21.2.2)
 (some ((.bool true),[[(5,[(.func (.func (fw w)) [] [])]),(4,[(zs (bx y21.2.2 0 1) 0),(zs (bx y21.2.2 0 1) 1)]),(3,[(zs (bx y21.2.2 0 2) 0),(zt (bx y21.2.2 0 2) 1),(zt (bx y21.2.2 0 2) 2)])]])) none) none)
 (exIs y21.1 none (cnd (chkL ar_Walk_1_l1F y21.2.1) (cnd (chkU [[(5,[(.func (fw w) [] [])]),(4,[sf,sf]),(3,[sf,.str,.str])]] y21.2.2)
 (some ((zb y21.2.1 1),[[(5,[(.func (.func (fw w)) [] [])]),(4,[(zs (bx y21.2.2 0 1) 0),(zs (bx y21.2.2 0 1) 1)]),(3,[(zs (bx y21.2.2 0 2) 0),(zt (bx y21.2.2 0 2) 1),(zt (bx y21.2.2 0 2) 2)])]])) none) none)
 (none)))) none) none)
 (bnd (LP ((ar_Walk_1_l2 w) O LP) [(.ptr 1 5 0),(.bool false),(zq encDir x.dirs),(i6 (List.length (List.map encDir x.dirs) : Int)),(i6 0),(i6 x.kind),(.str x.alias),(.str x.name),(zq encMember x.args),(zq encDir x.dirs),(.str x.on_),(zq encSel x.sels)] [[(5,[(.func (.func (fw w)) [] [])]),(4,[(zq encOp u0_4.ops),(zq encFrag u0_4.frags)]),(3,[(zq encDef u0_3.defs),(.str u0_3.query),(.str u0_3.mutation)])]]) fun y38 =>
 exIs y38.1 (some 0) (cnd (chkL ar_Walk_1_l2F y38.2.1) (cnd (chkU [[(5,[(.func (fw w) [] [])]),(4,[sf,sf]),(3,[sf,.str,.str])]] y38.2.2)
 (some ((.bool true),[[(5,[(.func (.func (fw w)) [] [])]),(4,[(zs (bx y38.2.2 0 1) 0),(zs (bx y38.2.2 0 1) 1)]),(3,[(zs (bx y38.2.2 0 2) 0),(zt (bx y38.2.2 0 2) 1),(zt (bx y38.2.2 0 2) 2)])]])) none) none)
 (exIs y38.1 none (cnd (chkL ar_Walk_1_l2F y38.2.1) (cnd (chkU [[(5,[(.func (fw w) [] [])]),(4,[sf,sf]),(3,[sf,.str,.str])]] y38.2.2)
 (some ((zb y38.2.1 1),[[(5,[(.func (.func (fw w)) [] [])]),(4,[(zs (bx y38.2.2 0 1) 0),(zs (bx y38.2.2 0 1) 1)]),(3,[(zs (bx y38.2.2 0 2) 0),(zt (bx y38.2.2 0 2) 1),(zt (bx y38.2.2 0 2) 2)])]])) none) none)
 (none)))
noncomputable def ar_Walk_1_l1T (w : W3) (x : GSel) : Int → Option (Int ⊕ (Unit ⊕ Unit))
 | t_12 =>
 cnd (decide (t_12 < (List.length x.dirs : Int)))
  (bnd (nthI x.dirs t_12) fun y14 =>
  bnd (ar_Params y14) fun y16 =>
  bnd (argsW w y16 y14.args) fun y18 =>
  cnd (!y18)
  (some (.inr (.inr ())))
  (some (.inl (IntKind.wrap .i64 (t_12 + 1)))))
  (some (.inr (.inl ())))
abbrev ar_Walk_1_l1P (w : W3) (x : GSel) (u0_4 : GDoc) (u0_3 : GSchema) (y2 : GFieldDef × Bool) (a0 : PV) : List PV := [(.ptr 1 5 0),(.bool false),(zq encDir x.dirs),(i6 (List.length x.dirs : Int)),a0,(.str y2.1.name),(zq encParam y2.1.params),(.str y2.1.t.name),(i6 y2.1.t.lists),(i6 y2.1.t.musts),(zq encDir y2.1.dirs),(i6 x.kind),(.str x.alias),(.str x.name),(zq encMember x.args),(zq encDir x.dirs),(.str x.on_),(zq encSel x.sels)]
abbrev ar_Walk_1_l1R (w : W3) (x : GSel) (u0_4 : GDoc) (u0_3 : GSchema) (y2 : GFieldDef × Bool) (st : Int) (l : List PV) (u : UP) : Prop := l = (ar_Walk_1_l1P w x u0_4 u0_3 y2 (i6 st)) ∧ u = [[(5,[(.func (.func (fw w)) [] [])]),(4,[(zq encOp u0_4.ops),(zq encFrag u0_4.frags)]),(3,[(zq encDef u0_3.defs),(.str u0_3.query),(.str u0_3.mutation)])]]
abbrev ar_Walk_1_l1X (w : W3) (x : GSel) (u0_4 : GDoc) (u0_3 : GSchema) (y2 : GFieldDef × Bool) (p : Unit ⊕ Unit) (r : EU) : Prop := elim p (fun (p : Unit) => ∃ (t_19 : Int),r = (Ex.brk 0,(ar_Walk_1_l1P w x u0_4 u0_3 y2 (i6 t_19)),[[(5,[(.func (.func (fw w)) [] [])]),(4,[(zq encOp u0_4.ops),(zq encFrag u0_4.frags)]),(3,[(zq encDef u0_3.defs),(.str u0_3.query),(.str u0_3.mutation)])]])) (fun (p : Unit) => ∃ (t_20 : Int),r = (Ex.ret,(ar_Walk_1_l1P w x u0_4 u0_3 y2 (i6 t_20)),[[(5,[(.func (.func (fw w)) [] [])]),(4,[(zq encOp u0_4.ops),(zq encFrag u0_4.frags)]),(3,[(zq encDef u0_3.defs),(.str u0_3.query),(.str u0_3.mutation)])]]))
noncomputable def ar_Walk_1_l2T (w : W3) (x : GSel) : Int → Option (Int ⊕ (Unit ⊕ Unit))
 | t_29 =>
 cnd (decide (t_29 < (List.length x.dirs : Int)))
  (bnd (nthI x.dirs t_29) fun y31 =>
  bnd (ar_Params y31) fun y33 =>
  bnd (argsW w y33 y31.args) fun y35 =>
  cnd (!y35)
  (some (.inr (.inr ())))
  (some (.inl (IntKind.wrap .i64 (t_29 + 1)))))
  (some (.inr (.inl ())))
abbrev ar_Walk_1_l2P (w : W3) (x : GSel) (u0_4 : GDoc) (u0_3 : GSchema) (a0 : PV) : List PV := [(.ptr 1 5 0),(.bool false),(zq encDir x.dirs),(i6 (List.length x.dirs : Int)),a0,(i6 x.kind),(.str x.alias),(.str x.name),(zq encMember x.args),(zq encDir x.dirs),(.str x.on_),(zq encSel x.sels)]
abbrev ar_Walk_1_l2R (w : W3) (x : GSel) (u0_4 : GDoc) (u0_3 : GSchema) (st : Int) (l : List PV) (u : UP) : Prop := l = (ar_Walk_1_l2P w x u0_4 u0_3 (i6 st)) ∧ u = [[(5,[(.func (.func (fw w)) [] [])]),(4,[(zq encOp u0_4.ops),(zq encFrag u0_4.frags)]),(3,[(zq encDef u0_3.defs),(.str u0_3.query),(.str u0_3.mutation)])]]
abbrev ar_Walk_1_l2X (w : W3) (x : GSel) (u0_4 : GDoc) (u0_3 : GSchema) (p : Unit ⊕ Unit) (r : EU) : Prop := elim p (fun (p : Unit) => ∃ (t_36 : Int),r = (Ex.brk 0,(ar_Walk_1_l2P w x u0_4 u0_3 (i6 t_36)),[[(5,[(.func (.func (fw w)) [] [])]),(4,[(zq encOp u0_4.ops),(zq encFrag u0_4.frags)]),(3,[(zq encDef u0_3.defs),(.str u0_3.query),(.str u0_3.mutation)])]])) (fun (p : Unit) => ∃ (t_37 : Int),r = (Ex.ret,(ar_Walk_1_l2P w x u0_4 u0_3 (i6 t_37)),[[(5,[(.func (.func (fw w)) [] [])]),(4,[(zq encOp u0_4.ops),(zq encFrag u0_4.frags)]),(3,[(zq encDef u0_3.defs),(.str u0_3.query),(.str u0_3.mutation)])]]))
noncomputable def ar_Walk_1_B (w : W3) (typ : Str) (x : GSel) (u0_4 : GDoc) (u0_3 : GSchema) : Option Bool :=
 cnd (x.kind == 0)
 (bnd (de_Field u0_3 typ x.name) fun y2 =>
 bnd (argsW w y2.1.params x.args) fun y4 =>
 cnd (!y4)
 (some false)
 (bnd (tloop ((ar_Walk_1_l1T w) x) 0) fun e21_2 => elim e21_2
 (fun p21 =>
 some true)
 (fun p21 =>
 some false)))
 (bnd (tloop ((ar_Walk_1_l2T w) x) 0) fun e38_2 => elim e38_2
 (fun p38 =>
 some true)
 (fun p38 =>
 some false))
def ar_Walk_1_ds (w : W3) : Decs := { decs := [(19,(.tup [shFieldDef,.bool])),(27,.bool),(34,(.ref shDir)),(38,sf),(41,.bool)],loops := [(6,[(5,7)],⟨ar_Walk_1_l2F,[[(5,[(.func (fw w) [] [])]),(4,[sf,sf]),(3,[sf,.str,.str])]],[(some 0,ar_Walk_1_l2F,[[(5,[(.func (fw w) [] [])]),(4,[sf,sf]),(3,[sf,.str,.str])]]),(none,ar_Walk_1_l2F,[[(5,[(.func (fw w) [] [])]),(4,[sf,sf]),(3,[sf,.str,.str])]])]⟩),(6,[(7,6),(5,7)],⟨ar_Walk_1_l1F,[[(5,[(.func (fw w) [] [])]),(4,[sf,sf]),(3,[sf,.str,.str])]],[(some 0,ar_Walk_1_l1F,[[(5,[(.func (fw w) [] [])]),(4,[sf,sf]),(3,[sf,.str,.str])]]),(none,ar_Walk_1_l1F,[[(5,[(.func (fw w) [] [])]),(4,[sf,sf]),(3,[sf,.str,.str])]])]⟩)] }
theorem ar_Walk_1_t1 (w : W3) (O : Orc) (LP : LBs) (typ : Str) (x : GSel) (u0_4 : GDoc) (u0_3 : GSchema) : eW 108 (ar_Walk_1_ds w) Tryz.f108 O LP [(.str typ),(eL x),(.ptr 1 3 0),(.ptr 1 5 0)] [[(5,[(.func (.func (fw w)) [] [])]),(4,[(zq encOp u0_4.ops),(zq encFrag u0_4.frags)]),(3,[(zq encDef u0_3.defs),(.str u0_3.query),(.str u0_3.mutation)])]] = (ar_Walk_1_T1 w) O LP typ x u0_4 u0_3 := by cases w <;> kernel_rfl
theorem ar_Walk_1_l1_ok (w : W3) (x : GSel) (u0_4 : GDoc) (u0_3 : GSchema) (y2 : GFieldDef × Bool) : ∀ st l u,(ar_Walk_1_l1R w) x u0_4 u0_3 y2 st l u → Imp ((ar_Walk_1_l1T w) x st) ((ar_Walk_1_l1 w) O loopLim l u) (StepR ((ar_Walk_1_l1R w) x u0_4 u0_3 y2) ((ar_Walk_1_l1X w) x u0_4 u0_3 y2)) := by
 rintro t_12 l u ⟨rfl,rfl⟩
 simp only [ar_Walk_1_l1T,ar_Walk_1_l1,zd,zr]
 refine zG ?_
 try simp only [evs,tys]
 apply Imp.cnd
 ·refine zX encDir chk_GDir fun y14 _ => ?_
  try simp only [evs,tys]
  refine zC rfl fun y16 _ => ?_
  try simp only [zes,evs,tys]
  refine zC rfl fun y18 _ => ?_
  try simp only [zes,evs,tys]
  apply Imp.cnd
  ·exact zT ⟨t_12,zE⟩
  ·exact zN
 ·exact zB ⟨t_12,zE⟩
theorem ar_Walk_1_l2_ok (w : W3) (x : GSel) (u0_4 : GDoc) (u0_3 : GSchema) : ∀ st l u,(ar_Walk_1_l2R w) x u0_4 u0_3 st l u → Imp ((ar_Walk_1_l2T w) x st) ((ar_Walk_1_l2 w) O loopLim l u) (StepR ((ar_Walk_1_l2R w) x u0_4 u0_3) ((ar_Walk_1_l2X w) x u0_4 u0_3)) := by
 rintro t_29 l u ⟨rfl,rfl⟩
 simp only [ar_Walk_1_l2T,ar_Walk_1_l2,zd,zr]
 refine zG ?_
 try simp only [evs,tys]
 apply Imp.cnd
 ·refine zX encDir chk_GDir fun y31 _ => ?_
  try simp only [evs,tys]
  refine zC rfl fun y33 _ => ?_
  try simp only [zes,evs,tys]
  refine zC rfl fun y35 _ => ?_
  try simp only [zes,evs,tys]
  apply Imp.cnd
  ·exact zT ⟨t_29,zE⟩
  ·exact zN
 ·exact zB ⟨t_29,zE⟩
theorem ar_Walk_1_imp (w : W3) (typ : Str) (x : GSel) (u0_4 : GDoc) (u0_3 : GSchema) : Imp ((ar_Walk_1_B w) typ x u0_4 u0_3) ((ar_Walk_1_T1 w) O loopLim typ x u0_4 u0_3) (fun r v => v = (s6_ArgsRulesE r,((ar_Walk_1U w) typ x u0_4 u0_3 r))) := by
 simp only [ar_Walk_1_B,ar_Walk_1_T1,zd,zr]
 try simp only [evs,tys]
 apply Imp.cnd
 ·refine zC rfl fun y2 _ => ?_
  try simp only [zes,evs,tys]
  refine zC rfl fun y4 _ => ?_
  try simp only [zes,evs,tys]
  apply Imp.cnd
  ·exact Imp.some (by first | rfl | simp only [zes,ar_Walk_1U,evs,tys,evl])
  ·refine zL ((ar_Walk_1_l1_ok w) x u0_4 u0_3 y2) ?_
   rintro (p | p) vy21 hy21
   ·try simp only [elim_inl,elim_inr]
    obtain ⟨t_19,rfl⟩ := hy21
    refine zH ?_
    try simp only [evs,tys]
    exact Imp.some (by first | rfl | simp only [zes,ar_Walk_1U,evs,tys,evl])
   ·try simp only [elim_inl,elim_inr]
    obtain ⟨t_20,rfl⟩ := hy21
    refine Imp.exMiss rfl ?_
    refine zH ?_
    try simp only [evs,tys]
    exact Imp.some (by first | rfl | simp only [zes,ar_Walk_1U,evs,tys,evl])
 ·refine zL ((ar_Walk_1_l2_ok w) x u0_4 u0_3) ?_
  rintro (p | p) vy38 hy38
  ·try simp only [elim_inl,elim_inr]
   obtain ⟨t_36,rfl⟩ := hy38
   refine zH ?_
   try simp only [evs,tys]
   exact Imp.some (by first | rfl | simp only [zes,ar_Walk_1U,evs,tys,evl])
  ·try simp only [elim_inl,elim_inr]
   obtain ⟨t_37,rfl⟩ := hy38
   refine Imp.exMiss rfl ?_
   refine zH ?_
   try simp only [evs,tys]
   exact Imp.some (by first | rfl | simp only [zes,ar_Walk_1U,evs,tys,evl])
theorem ar_Walk_1_run (w : W3) {typ : Str} {x : GSel} {u0_4 : GDoc} {u0_3 : GSchema} {r : Bool} (h : (ar_Walk_1_B w) typ x u0_4 u0_3 = some r) : (ar_Walk_1 w) typ x u0_4 u0_3 = some r := zV s6_ArgsRulesEj ((ar_Walk_1_imp w) typ x u0_4 u0_3) Tryz.func108 ((ar_Walk_1_t1 w) _ _ typ x u0_4 u0_3) h
abbrev fi_all_l1F : List Sh := [.str,(.func 108 [] [(.ptr 1 3 0),(.ptr 1 5 0)]),(.ptr 0 4 0),.bool,sf,n6,n6,sf,.str,.str]
def fi_all_l1 (w : W3) (O : Orc) (LP : LBs) : LBody := fun s1 s1u => cnd (chkL fi_all_l1F s1) (cnd (chkU [[(5,[(.func (fw w) [] [])]),(4,[sf,sf]),(3,[sf,.str,.str])]] s1u)
 (cnd (decide ((iv s1 6) < (iv s1 5)))
 (bnd (ix 7 (zs s1 4) (zn s1 6)) fun x12 => cnd (chk (.ref shSel) x12)
 (bnd (O 108 [(zt s1 0),(.agg [(zn (rf x12) 0),(zt (rf x12) 1),(zt (rf x12) 2),(zs (rf x12) 3),(zs (rf x12) 4),(zt (rf x12) 5),(zs (rf x12) 6)]),(.ptr 2 3 0),(.ptr 2 5 0)] [[(11,[(zn (rf x12) 0),(zt (rf x12) 1),(zt (rf x12) 2),(zs (rf x12) 3),(zs (rf x12) 4),(zt (rf x12) 5),(zs (rf x12) 6)]),(4,[(zs s1 7),(zt s1 8),(zt s1 9)])],[(5,[(.func (.func (fw w)) [] [])]),(4,[(zs (bx s1u 0 1) 0),(zs (bx s1u 0 1) 1)]),(3,[(zs (bx s1u 0 2) 0),(zt (bx s1u 0 2) 1),(zt (bx s1u 0 2) 2)])]]) fun x14 => cnd (chkU [[(11,[n6,.str,.str,sf,sf,.str,sf]),(4,[sf,.str,.str])],[(5,[(.func (fw w) [] [])]),(4,[sf,sf]),(3,[sf,.str,.str])]] x14.2) (cnd (chk .bool x14.1)
 (cnd (boolV x14.1)
 (callp O 138 [(.agg [(zs (bx x14.2 0 1) 0),(zt (bx x14.2 0 1) 1),(zt (bx x14.2 0 1) 2)]),(zt s1 0),(.agg [(zn (bx x14.2 0 0) 0),(zt (bx x14.2 0 0) 1),(zt (bx x14.2 0 0) 2),(zs (bx x14.2 0 0) 3),(zs (bx x14.2 0 0) 4),(zt (bx x14.2 0 0) 5),(zs (bx x14.2 0 0) 6)])] fun x16 => cnd (chk .str x16)
 (bnd (O 137 [(.agg [(zs (bx x14.2 0 1) 0),(zt (bx x14.2 0 1) 1),(zt (bx x14.2 0 1) 2)]),(.str (strV x16)),(zs (bx x14.2 0 0) 6),(.func (.func 108) [] [(.ptr 2 3 0),(.ptr 2 5 0)])] [[(11,[(zn (bx x14.2 0 0) 0),(zt (bx x14.2 0 0) 1),(zt (bx x14.2 0 0) 2),(zs (bx x14.2 0 0) 3),(zs (bx x14.2 0 0) 4),(zt (bx x14.2 0 0) 5),(zs (bx x14.2 0 0) 6)]),(4,[(zs (bx x14.2 0 1) 0),(zt (bx x14.2 0 1) 1),(zt (bx x14.2 0 1) 2)])],[(5,[(.func (.func (fw w)) [] [])]),(4,[(zs (bx x14.2 1 1) 0),(zs (bx x14.2 1 1) 1)]),(3,[(zs (bx x14.2 1 2) 0),(zt (bx x14.2 1 2) 1),(zt (bx x14.2 1 2) 2)])]]) fun x18 => cnd (chkU [[(11,[n6,.str,.str,sf,sf,.str,sf]),(4,[sf,.str,.str])],[(5,[(.func (fw w) [] [])]),(4,[sf,sf]),(3,[sf,.str,.str])]] x18.2) (cnd (chk .bool x18.1)
 (cnd (!(boolV x18.1))
 (some (.brk 0,(pu (pu (pu (pu (pu (rb fi_all_l1F s1) 1 (.func (.func 108) [] [(.ptr 1 3 0),(.ptr 1 5 0)])) 3 (.bool (boolV x18.1))) 7 (zs (bx x18.2 0 1) 0)) 8 (zt (bx x18.2 0 1) 1)) 9 (zt (bx x18.2 0 1) 2)),[[(5,[(.func (.func (fw w)) [] [])]),(4,[(zs (bx x18.2 1 1) 0),(zs (bx x18.2 1 1) 1)]),(3,[(zs (bx x18.2 1 2) 0),(zt (bx x18.2 1 2) 1),(zt (bx x18.2 1 2) 2)])]]))
 (some (.nrm,[(zt s1 0),(.func (.func 108) [] [(.ptr 1 3 0),(.ptr 1 5 0)]),(.ptr 0 4 0),(.bool (boolV x18.1)),(zs s1 4),(zn s1 5),(i6 (w6 ((iv s1 6) + 1))),(zs (bx x18.2 0 1) 0),(zt (bx x18.2 0 1) 1),(zt (bx x18.2 0 1) 2)],[[(5,[(.func (.func (fw w)) [] [])]),(4,[(zs (bx x18.2 1 1) 0),(zs (bx x18.2 1 1) 1)]),(3,[(zs (bx x18.2 1 2) 0),(zt (bx x18.2 1 2) 1),(zt (bx x18.2 1 2) 2)])]]))) none) none) none)
 (some (.brk 0,(pu (pu (pu (pu (pu (rb fi_all_l1F s1) 1 (.func (.func 108) [] [(.ptr 1 3 0),(.ptr 1 5 0)])) 3 (.bool false)) 7 (zs (bx x14.2 0 1) 0)) 8 (zt (bx x14.2 0 1) 1)) 9 (zt (bx x14.2 0 1) 2)),[[(5,[(.func (.func (fw w)) [] [])]),(4,[(zs (bx x14.2 1 1) 0),(zs (bx x14.2 1 1) 1)]),(3,[(zs (bx x14.2 1 2) 0),(zt (bx x14.2 1 2) 1),(zt (bx x14.2 1 2) 2)])]]))) none) none) none)
 (some (.brk 0,(pu (rb fi_all_l1F s1) 1 (.func (.func 108) [] [(.ptr 1 3 0),(.ptr 1 5 0)])),[[(5,[(.func (.func (fw w)) [] [])]),(4,[(zs (bx s1u 0 1) 0),(zs (bx s1u 0 1) 1)]),(3,[(zs (bx s1u 0 2) 0),(zt (bx s1u 0 2) 1),(zt (bx s1u 0 2) 2)])]]))) none) none
def fi_all_T1 (w : W3) (O : Orc) (LP : LBs) (s : GSchema) (typ : Str) (l0 : List GSel) (u0_4 : GDoc) (u0_3 : GSchema) : Option (PV × UP) :=
 bnd (LP ((fi_all_l1 w) O LP) [(.str typ),(.func (.func 108) [] [(.ptr 1 3 0),(.ptr 1 5 0)]),(.ptr 0 4 0),(.bool true),(zq encSel l0),(i6 (List.length (List.map encSel l0) : Int)),(i6 0),(zq encDef s.defs),(.str s.query),(.str s.mutation)] [[(5,[(.func (.func (fw w)) [] [])]),(4,[(zq encOp u0_4.ops),(zq encFrag u0_4.frags)]),(3,[(zq encDef u0_3.defs),(.str u0_3.query),(.str u0_3.mutation)])]]) fun y22 =>
 exIs y22.1 (some 0) (cnd (chkL fi_all_l1F y22.2.1) (cnd (chkU [[(5,[(.func (fw w) [] [])]),(4,[sf,sf]),(3,[sf,.str,.str])]] y22.2.2)
 (some ((zb y22.2.1 3),[[(5,[(.func (.func (fw w)) [] [])]),(4,[(zs (bx y22.2.2 0 1) 0),(zs (bx y22.2.2 0 1) 1)]),(3,[(zs (bx y22.2.2 0 2) 0),(zt (bx y22.2.2 0 2) 1),(zt (bx y22.2.2 0 2) 2)])]])) none) none)
 (none)
noncomputable def fi_all_l1T (w : W3) (s : GSchema) (typ : Str) (l0 : List GSel) (u0_4 : GDoc) (u0_3 : GSchema) : (Bool × Int) → Option ((Bool × Int) ⊕ Bool)
 | (ok_10,t_11) =>
 cnd (decide (t_11 < (List.length l0 : Int)))
  (bnd (nthI l0 t_11) fun y13 =>
  bnd ((ar_Walk_1 w) typ y13 u0_4 u0_3) fun y15 =>
  cnd y15
  (bnd (fi_Within s typ y13) fun y17 =>
  bnd ((fi_all w) s y17 y13.sels u0_4 u0_3) fun y19 =>
  cnd (!y19)
   (some (.inr y19))
   (some (.inl (y19,(IntKind.wrap .i64 (t_11 + 1))))))
  (some (.inr false)))
  (some (.inr ok_10))
abbrev fi_all_l1R (w : W3) (s : GSchema) (typ : Str) (l0 : List GSel) (u0_4 : GDoc) (u0_3 : GSchema) (st : Bool × Int) (l : List PV) (u : UP) : Prop := l = [(.str typ),(.func (.func 108) [] [(.ptr 1 3 0),(.ptr 1 5 0)]),(.ptr 0 4 0),(.bool st.1),(zq encSel l0),(i6 (List.length l0 : Int)),(i6 st.2),(zq encDef s.defs),(.str s.query),(.str s.mutation)] ∧ u = [[(5,[(.func (.func (fw w)) [] [])]),(4,[(zq encOp u0_4.ops),(zq encFrag u0_4.frags)]),(3,[(zq encDef u0_3.defs),(.str u0_3.query),(.str u0_3.mutation)])]]
abbrev fi_all_l1X (w : W3) (s : GSchema) (typ : Str) (l0 : List GSel) (u0_4 : GDoc) (u0_3 : GSchema) (p : Bool) (r : EU) : Prop := (fun (p : Bool) => ∃ (t_21 : Int),r = (Ex.brk 0,[(.str typ),(.func (.func 108) [] [(.ptr 1 3 0),(.ptr 1 5 0)]),(.ptr 0 4 0),(.bool p),(zq encSel l0),(i6 (List.length l0 : Int)),(i6 t_21),(zq encDef s.defs),(.str s.query),(.str s.mutation)],[[(5,[(.func (.func (fw w)) [] [])]),(4,[(zq encOp u0_4.ops),(zq encFrag u0_4.frags)]),(3,[(zq encDef u0_3.defs),(.str u0_3.query),(.str u0_3.mutation)])]])) p
noncomputable def fi_all_B (w : W3) (s : GSchema) (typ : Str) (l0 : List GSel) (u0_4 : GDoc) (u0_3 : GSchema) : Option Bool :=
 bnd (tloop ((fi_all_l1T w) s typ l0 u0_4 u0_3) (true,0)) fun ok_20 =>
 some ok_20
def fi_all_ds (w : W3) : Decs := { decs := [(16,(.ref shSel)),(21,.bool),(27,.str),(31,.bool)],ups := [(21,[[(11,[n6,.str,.str,sf,sf,.str,sf]),(4,[sf,.str,.str])],[(5,[(.func (fw w) [] [])]),(4,[sf,sf]),(3,[sf,.str,.str])]]),(31,[[(11,[n6,.str,.str,sf,sf,.str,sf]),(4,[sf,.str,.str])],[(5,[(.func (fw w) [] [])]),(4,[sf,sf]),(3,[sf,.str,.str])]])],loops := [(3,[(4,3)],⟨fi_all_l1F,[[(5,[(.func (fw w) [] [])]),(4,[sf,sf]),(3,[sf,.str,.str])]],[(some 0,fi_all_l1F,[[(5,[(.func (fw w) [] [])]),(4,[sf,sf]),(3,[sf,.str,.str])]])]⟩)] }
theorem fi_all_t1 (w : W3) (O : Orc) (LP : LBs) (s : GSchema) (typ : Str) (l0 : List GSel) (u0_4 : GDoc) (u0_3 : GSchema) : eW 137 (fi_all_ds w) Tryz.f137 O LP [(eS s),(.str typ),(zq encSel l0),(.func (.func 108) [] [(.ptr 1 3 0),(.ptr 1 5 0)])] [[(5,[(.func (.func (fw w)) [] [])]),(4,[(zq encOp u0_4.ops),(zq encFrag u0_4.frags)]),(3,[(zq encDef u0_3.defs),(.str u0_3.query),(.str u0_3.mutation)])]] = (fi_all_T1 w) O LP s typ l0 u0_4 u0_3 := by cases w <;> kernel_rfl
theorem fi_all_l1_ok (w : W3) (s : GSchema) (typ : Str) (l0 : List GSel) (u0_4 : GDoc) (u0_3 : GSchema) : Lok ((fi_all_l1R w) s typ l0 u0_4 u0_3) ((fi_all_l1T w) s typ l0 u0_4 u0_3) ((fi_all_l1 w) O loopLim) ((fi_all_l1X w) s typ l0 u0_4 u0_3) := by
 rintro ⟨ok_10,t_11⟩ l u ⟨rfl,rfl⟩
 simp only [fi_all_l1T,fi_all_l1,zd,zr]
 refine zG ?_
 try simp only [evs,tys]
 apply Imp.cnd
 ·refine zX encSel chk_GSel fun y13 _ => ?_
  try simp only [evs,tys]
  refine Imp.gcall (f := s6_ArgsRulesE) (fu := fun a => [(11,[(i6 y13.kind),(.str y13.alias),(.str y13.name),(zq encMember y13.args),(zq encDir y13.dirs),(.str y13.on_),(zq encSel y13.sels)]),(4,[(zq encDef s.defs),(.str s.query),(.str s.mutation)])] :: (ar_Walk_1U w) typ y13 u0_4 u0_3 a) (fun a h => by first | exact OL_drop rfl rfl (by first | rfl | (simp only [zes,tys]; rfl)) (tO_spec h) | (have h' := tO_spec h; simp only [evs,tys,evl,ar_Walk_1U] at h'; exact OL_drop rfl rfl (by first | rfl | (simp only [zes,tys]; rfl)) h')) zK (fun a => by first | rfl | (simp only [ar_Walk_1U,evs,tys]; first | rfl | (cases w <;> rfl))) fun y15 hy15 => ?_
  try simp only [s6_ArgsRulesE,ar_Walk_1U,evs,tys]
  apply Imp.cnd
  ·refine zC rfl fun y17 _ => ?_
   try simp only [zes,evs,tys]
   refine Imp.gcall (f := s6_ArgsRulesE) (fu := fun a => [(11,[(i6 y13.kind),(.str y13.alias),(.str y13.name),(zq encMember y13.args),(zq encDir y13.dirs),(.str y13.on_),(zq encSel y13.sels)]),(4,[(zq encDef s.defs),(.str s.query),(.str s.mutation)])] :: (fi_allU w) s y17 y13.sels u0_4 u0_3 a) (fun a h => by first | exact OL_drop rfl rfl (by first | rfl | (simp only [zes,tys]; rfl)) (tO_spec h) | (have h' := tO_spec h; simp only [evs,tys,evl,fi_allU] at h'; exact OL_drop rfl rfl (by first | rfl | (simp only [zes,tys]; rfl)) h')) zK (fun a => by first | rfl | (simp only [fi_allU,evs,tys]; first | rfl | (cases w <;> rfl))) fun y19 hy19 => ?_
   try simp only [s6_ArgsRulesE,fi_allU,evs,tys]
   apply Imp.cnd
   ·exact zB ⟨t_11,zE⟩
   ·exact zN
  ·exact zB ⟨t_11,zE⟩
 ·exact zB ⟨t_11,zE⟩
theorem fi_all_imp (w : W3) (s : GSchema) (typ : Str) (l0 : List GSel) (u0_4 : GDoc) (u0_3 : GSchema) : Imp ((fi_all_B w) s typ l0 u0_4 u0_3) ((fi_all_T1 w) O loopLim s typ l0 u0_4 u0_3) (fun r v => v = (s6_ArgsRulesE r,((fi_allU w) s typ l0 u0_4 u0_3 r))) := by
 simp only [fi_all_B,fi_all_T1,zd,zr]
 try simp only [evs,tys]
 refine zL ((fi_all_l1_ok w) s typ l0 u0_4 u0_3) ?_
 rintro ok_20 _ ⟨t_21,rfl⟩
 refine zH ?_
 try simp only [evs,tys]
 exact Imp.some (by first | rfl | simp only [zes,fi_allU,evs,tys,evl])
theorem fi_all_run (w : W3) {s : GSchema} {typ : Str} {l0 : List GSel} {u0_4 : GDoc} {u0_3 : GSchema} {r : Bool} (h : (fi_all_B w) s typ l0 u0_4 u0_3 = some r) : (fi_all w) s typ l0 u0_4 u0_3 = some r := zV s6_ArgsRulesEj ((fi_all_imp w) s typ l0 u0_4 u0_3) Tryz.func137 ((fi_all_t1 w) _ _ s typ l0 u0_4 u0_3) h
abbrev fi_Walk_l1F : List Sh := [(.func 108 [] [(.ptr 1 3 0),(.ptr 1 5 0)]),(.ptr 0 3 0),(.ptr 0 4 0),.bool,sf,n6,n6,sf,sf,sf,.str,.str]
def fi_Walk_l1 (w : W3) (O : Orc) (LP : LBs) : LBody := fun s1 s1u => cnd (chkL fi_Walk_l1F s1) (cnd (chkU [[(5,[(.func (fw w) [] [])]),(4,[sf,sf]),(3,[sf,.str,.str])]] s1u)
 (cnd (decide ((iv s1 6) < (iv s1 5)))
 (bnd (ix 5 (zs s1 4) (zn s1 6)) fun x9 => cnd (chk (.ref shOp) x9)
 (callp O 68 [(.agg [(zs s1 9),(zt s1 10),(zt s1 11)]),(.agg [(zn (rf x9) 0),(zt (rf x9) 1),(zs (rf x9) 2),(zs (rf x9) 3),(zs (rf x9) 4)])] fun x11 => cnd (chk .str x11)
 (bnd (O 137 [(.agg [(zs s1 9),(zt s1 10),(zt s1 11)]),(.str (strV x11)),(zs (rf x9) 4),(.func (.func 108) [] [(.ptr 2 3 0),(.ptr 2 5 0)])] [[(8,[(zn (rf x9) 0),(zt (rf x9) 1),(zs (rf x9) 2),(zs (rf x9) 3),(zs (rf x9) 4)]),(4,[(zs s1 7),(zs s1 8)]),(3,[(zs s1 9),(zt s1 10),(zt s1 11)])],[(5,[(.func (.func (fw w)) [] [])]),(4,[(zs (bx s1u 0 1) 0),(zs (bx s1u 0 1) 1)]),(3,[(zs (bx s1u 0 2) 0),(zt (bx s1u 0 2) 1),(zt (bx s1u 0 2) 2)])]]) fun x13 => cnd (chkU [[(8,[n6,.str,sf,sf,sf]),(4,[sf,sf]),(3,[sf,.str,.str])],[(5,[(.func (fw w) [] [])]),(4,[sf,sf]),(3,[sf,.str,.str])]] x13.2) (cnd (chk .bool x13.1)
 (cnd (!(boolV x13.1))
 (some (.ret,[(.func (.func 108) [] [(.ptr 1 3 0),(.ptr 1 5 0)]),(.ptr 0 3 0),(.ptr 0 4 0),(.bool false),(zs s1 4),(zn s1 5),(zn s1 6),(zs (bx x13.2 0 1) 0),(zs (bx x13.2 0 1) 1),(zs (bx x13.2 0 2) 0),(zt (bx x13.2 0 2) 1),(zt (bx x13.2 0 2) 2)],[[(5,[(.func (.func (fw w)) [] [])]),(4,[(zs (bx x13.2 1 1) 0),(zs (bx x13.2 1 1) 1)]),(3,[(zs (bx x13.2 1 2) 0),(zt (bx x13.2 1 2) 1),(zt (bx x13.2 1 2) 2)])]]))
 (some (.nrm,[(.func (.func 108) [] [(.ptr 1 3 0),(.ptr 1 5 0)]),(.ptr 0 3 0),(.ptr 0 4 0),(zb s1 3),(zs s1 4),(zn s1 5),(i6 (w6 ((iv s1 6) + 1))),(zs (bx x13.2 0 1) 0),(zs (bx x13.2 0 1) 1),(zs (bx x13.2 0 2) 0),(zt (bx x13.2 0 2) 1),(zt (bx x13.2 0 2) 2)],[[(5,[(.func (.func (fw w)) [] [])]),(4,[(zs (bx x13.2 1 1) 0),(zs (bx x13.2 1 1) 1)]),(3,[(zs (bx x13.2 1 2) 0),(zt (bx x13.2 1 2) 1),(zt (bx x13.2 1 2) 2)])]]))) none) none) none) none)
 (some (.brk 0,(pu (rb fi_Walk_l1F s1) 0 (.func (.func 108) [] [(.ptr 1 3 0),(.ptr 1 5 0)])),[[(5,[(.func (.func (fw w)) [] [])]),(4,[(zs (bx s1u 0 1) 0),(zs (bx s1u 0 1) 1)]),(3,[(zs (bx s1u 0 2) 0),(zt (bx s1u 0 2) 1),(zt (bx s1u 0 2) 2)])]]))) none) none
abbrev fi_Walk_l2F : List Sh := [(.func 108 [] [(.ptr 1 3 0),(.ptr 1 5 0)]),(.ptr 0 3 0),.bool,sf,n6,n6,sf,sf,sf,.str,.str]
def fi_Walk_l2 (w : W3) (O : Orc) (LP : LBs) : LBody := fun s18 s18u => cnd (chkL fi_Walk_l2F s18) (cnd (chkU [[(5,[(.func (fw w) [] [])]),(4,[sf,sf]),(3,[sf,.str,.str])]] s18u)
 (cnd (decide ((iv s18 5) < (iv s18 4)))
 (bnd (ix 4 (zs s18 3) (zn s18 5)) fun x24 => cnd (chk (.ref shFrag) x24)
 (bnd (O 137 [(.agg [(zs s18 8),(zt s18 9),(zt s18 10)]),(zt (rf x24) 1),(zs (rf x24) 3),(.func (.func 108) [] [(.ptr 2 3 0),(.ptr 2 5 0)])] [[(10,[(zt (rf x24) 0),(zt (rf x24) 1),(zs (rf x24) 2),(zs (rf x24) 3)]),(4,[(zs s18 6),(zs s18 7)]),(3,[(zs s18 8),(zt s18 9),(zt s18 10)])],[(5,[(.func (.func (fw w)) [] [])]),(4,[(zs (bx s18u 0 1) 0),(zs (bx s18u 0 1) 1)]),(3,[(zs (bx s18u 0 2) 0),(zt (bx s18u 0 2) 1),(zt (bx s18u 0 2) 2)])]]) fun x26 => cnd (chkU [[(10,[.str,.str,sf,sf]),(4,[sf,sf]),(3,[sf,.str,.str])],[(5,[(.func (fw w) [] [])]),(4,[sf,sf]),(3,[sf,.str,.str])]] x26.2) (cnd (chk .bool x26.1)
 (cnd (!(boolV x26.1))
 (some (.ret,[(.func (.func 108) [] [(.ptr 1 3 0),(.ptr 1 5 0)]),(.ptr 0 3 0),(.bool false),(zs s18 3),(zn s18 4),(zn s18 5),(zs (bx x26.2 0 1) 0),(zs (bx x26.2 0 1) 1),(zs (bx x26.2 0 2) 0),(zt (bx x26.2 0 2) 1),(zt (bx x26.2 0 2) 2)],[[(5,[(.func (.func (fw w)) [] [])]),(4,[(zs (bx x26.2 1 1) 0),(zs (bx x26.2 1 1) 1)]),(3,[(zs (bx x26.2 1 2) 0),(zt (bx x26.2 1 2) 1),(zt (bx x26.2 1 2) 2)])]]))
 (some (.nrm,[(.func (.func 108) [] [(.ptr 1 3 0),(.ptr 1 5 0)]),(.ptr 0 3 0),(zb s18 2),(zs s18 3),(zn s18 4),(i6 (w6 ((iv s18 5) + 1))),(zs (bx x26.2 0 1) 0),(zs (bx x26.2 0 1) 1),(zs (bx x26.2 0 2) 0),(zt (bx x26.2 0 2) 1),(zt (bx x26.2 0 2) 2)],[[(5,[(.func (.func (fw w)) [] [])]),(4,[(zs (bx x26.2 1 1) 0),(zs (bx x26.2 1 1) 1)]),(3,[(zs (bx x26.2 1 2) 0),(zt (bx x26.2 1 2) 1),(zt (bx x26.2 1 2) 2)])]]))) none) none) none)
 (some (.brk 2,(pu (rb fi_Walk_l2F s18) 0 (.func (.func 108) [] [(.ptr 1 3 0),(.ptr 1 5 0)])),[[(5,[(.func (.func (fw w)) [] [])]),(4,[(zs (bx s18u 0 1) 0),(zs (bx s18u 0 1) 1)]),(3,[(zs (bx s18u 0 2) 0),(zt (bx s18u 0 2) 1),(zt (bx s18u 0 2) 2)])]]))) none) none
def fi_Walk_T1 (w : W3) (O : Orc) (LP : LBs) (s : GSchema) (d : GDoc) (u0_4 : GDoc) (u0_3 : GSchema) : Option (PV × UP) :=
 bnd (LP ((fi_Walk_l1 w) O LP) [(.func (.func 108) [] [(.ptr 1 3 0),(.ptr 1 5 0)]),(.ptr 0 3 0),(.ptr 0 4 0),(.bool false),(zq encOp d.ops),(i6 (List.length (List.map encOp d.ops) : Int)),(i6 0),(zq encOp d.ops),(zq encFrag d.frags),(zq encDef s.defs),(.str s.query),(.str s.mutation)] [[(5,[(.func (.func (fw w)) [] [])]),(4,[(zq encOp u0_4.ops),(zq encFrag u0_4.frags)]),(3,[(zq encDef u0_3.defs),(.str u0_3.query),(.str u0_3.mutation)])]]) fun y17 =>
 exIs y17.1 (some 0) (cnd (chkL fi_Walk_l1F y17.2.1) (cnd (chkU [[(5,[(.func (fw w) [] [])]),(4,[sf,sf]),(3,[sf,.str,.str])]] y17.2.2)
 (bnd (LP ((fi_Walk_l2 w) O LP) [(.func (.func 108) [] [(.ptr 1 3 0),(.ptr 1 5 0)]),(.ptr 0 3 0),(zb y17.2.1 3),(zs y17.2.1 8),(i6 (List.length (ev y17.2.1 8) : Int)),(i6 0),(zs y17.2.1 7),(zs y17.2.1 8),(zs y17.2.1 9),(zt y17.2.1 10),(zt y17.2.1 11)] [[(5,[(.func (.func (fw w)) [] [])]),(4,[(zs (bx y17.2.2 0 1) 0),(zs (bx y17.2.2 0 1) 1)]),(3,[(zs (bx y17.2.2 0 2) 0),(zt (bx y17.2.2 0 2) 1),(zt (bx y17.2.2 0 2) 2)])]]) fun y30 =>
 exIs y30.1 (some 2) (cnd (chkL fi_Walk_l2F y30.2.1) (cnd (chkU [[(5,[(.func (fw w) [] [])]),(4,[sf,sf]),(3,[sf,.str,.str])]] y30.2.2)
 (some ((.bool true),[[(5,[(.func (.func (fw w)) [] [])]),(4,[(zs (bx y30.2.2 0 1) 0),(zs (bx y30.2.2 0 1) 1)]),(3,[(zs (bx y30.2.2 0 2) 0),(zt (bx y30.2.2 0 2) 1),(zt (bx y30.2.2 0 2) 2)])]])) none) none)
 (exIs y30.1 none (cnd (chkL fi_Walk_l2F y30.2.1) (cnd (chkU [[(5,[(.func (fw w) [] [])]),(4,[sf,sf]),(3,[sf,.str,.str])]] y30.2.2)
 (some ((zb y30.2.1 2),[[(5,[(.func (.func (fw w)) [] [])]),(4,[(zs (bx y30.2.2 0 1) 0),(zs (bx y30.2.2 0 1) 1)]),(3,[(zs (bx y30.2.2 0 2) 0),(zt (bx y30.2.2 0 2) 1),(zt (bx y30.2.2 0 2) 2)])]])) none) none)
 (none))) none) none)
 (exIs y17.1 none (cnd (chkL fi_Walk_l1F y17.2.1) (cnd (chkU [[(5,[(.func (fw w) [] [])]),(4,[sf,sf]),(3,[sf,.str,.str])]] y17.2.2)
 (some ((zb y17.2.1 3),[[(5,[(.func (.func (fw w)) [] [])]),(4,[(zs (bx y17.2.2 0 1) 0),(zs (bx y17.2.2 0 1) 1)]),(3,[(zs (bx y17.2.2 0 2) 0),(zt (bx y17.2.2 0 2) 1),(zt (bx y17.2.2 0 2) 2)])]])) none) none)
 (none))
noncomputable def fi_Walk_l1T (w : W3) (s : GSchema) (d : GDoc) (u0_4 : GDoc) (u0_3 : GSchema) : Int → Option (Int ⊕ (Unit ⊕ Unit))
 | t_8 =>
 cnd (decide (t_8 < (List.length d.ops : Int)))
  (bnd (nthI d.ops t_8) fun y10 =>
  bnd (fi_Root s y10) fun y12 =>
  bnd ((fi_all w) s y12 y10.sels u0_4 u0_3) fun y14 =>
  cnd (!y14)
  (some (.inr (.inr ())))
  (some (.inl (IntKind.wrap .i64 (t_8 + 1)))))
  (some (.inr (.inl ())))
abbrev fi_Walk_l1P (w : W3) (s : GSchema) (d : GDoc) (u0_4 : GDoc) (u0_3 : GSchema) (a0 : PV) : List PV := [(.func (.func 108) [] [(.ptr 1 3 0),(.ptr 1 5 0)]),(.ptr 0 3 0),(.ptr 0 4 0),(.bool false),(zq encOp d.ops),(i6 (List.length d.ops : Int)),a0,(zq encOp d.ops),(zq encFrag d.frags),(zq encDef s.defs),(.str s.query),(.str s.mutation)]
abbrev fi_Walk_l1R (w : W3) (s : GSchema) (d : GDoc) (u0_4 : GDoc) (u0_3 : GSchema) (st : Int) (l : List PV) (u : UP) : Prop := l = (fi_Walk_l1P w s d u0_4 u0_3 (i6 st)) ∧ u = [[(5,[(.func (.func (fw w)) [] [])]),(4,[(zq encOp u0_4.ops),(zq encFrag u0_4.frags)]),(3,[(zq encDef u0_3.defs),(.str u0_3.query),(.str u0_3.mutation)])]]
abbrev fi_Walk_l1X (w : W3) (s : GSchema) (d : GDoc) (u0_4 : GDoc) (u0_3 : GSchema) (p : Unit ⊕ Unit) (r : EU) : Prop := elim p (fun (p : Unit) => ∃ (t_15 : Int),r = (Ex.brk 0,(fi_Walk_l1P w s d u0_4 u0_3 (i6 t_15)),[[(5,[(.func (.func (fw w)) [] [])]),(4,[(zq encOp u0_4.ops),(zq encFrag u0_4.frags)]),(3,[(zq encDef u0_3.defs),(.str u0_3.query),(.str u0_3.mutation)])]])) (fun (p : Unit) => ∃ (t_16 : Int),r = (Ex.ret,(fi_Walk_l1P w s d u0_4 u0_3 (i6 t_16)),[[(5,[(.func (.func (fw w)) [] [])]),(4,[(zq encOp u0_4.ops),(zq encFrag u0_4.frags)]),(3,[(zq encDef u0_3.defs),(.str u0_3.query),(.str u0_3.mutation)])]]))
noncomputable def fi_Walk_l2T (w : W3) (s : GSchema) (d : GDoc) (u0_4 : GDoc) (u0_3 : GSchema) : Int → Option (Int ⊕ (Unit ⊕ Unit))
 | t_23 =>
 cnd (decide (t_23 < (List.length d.frags : Int)))
  (bnd (nthI d.frags t_23) fun y25 =>
  bnd ((fi_all w) s y25.on_ y25.sels u0_4 u0_3) fun y27 =>
  cnd (!y27)
  (some (.inr (.inr ())))
  (some (.inl (IntKind.wrap .i64 (t_23 + 1)))))
  (some (.inr (.inl ())))
abbrev fi_Walk_l2P (w : W3) (s : GSchema) (d : GDoc) (u0_4 : GDoc) (u0_3 : GSchema) (a0 : PV) : List PV := [(.func (.func 108) [] [(.ptr 1 3 0),(.ptr 1 5 0)]),(.ptr 0 3 0),(.bool false),(zq encFrag d.frags),(i6 (List.length d.frags : Int)),a0,(zq encOp d.ops),(zq encFrag d.frags),(zq encDef s.defs),(.str s.query),(.str s.mutation)]
abbrev fi_Walk_l2R (w : W3) (s : GSchema) (d : GDoc) (u0_4 : GDoc) (u0_3 : GSchema) (st : Int) (l : List PV) (u : UP) : Prop := l = (fi_Walk_l2P w s d u0_4 u0_3 (i6 st)) ∧ u = [[(5,[(.func (.func (fw w)) [] [])]),(4,[(zq encOp u0_4.ops),(zq encFrag u0_4.frags)]),(3,[(zq encDef u0_3.defs),(.str u0_3.query),(.str u0_3.mutation)])]]
abbrev fi_Walk_l2X (w : W3) (s : GSchema) (d : GDoc) (u0_4 : GDoc) (u0_3 : GSchema) (p : Unit ⊕ Unit) (r : EU) : Prop := elim p (fun (p : Unit) => ∃ (t_28 : Int),r = (Ex.brk 2,(fi_Walk_l2P w s d u0_4 u0_3 (i6 t_28)),[[(5,[(.func (.func (fw w)) [] [])]),(4,[(zq encOp u0_4.ops),(zq encFrag u0_4.frags)]),(3,[(zq encDef u0_3.defs),(.str u0_3.query),(.str u0_3.mutation)])]])) (fun (p : Unit) => ∃ (t_29 : Int),r = (Ex.ret,(fi_Walk_l2P w s d u0_4 u0_3 (i6 t_29)),[[(5,[(.func (.func (fw w)) [] [])]),(4,[(zq encOp u0_4.ops),(zq encFrag u0_4.frags)]),(3,[(zq encDef u0_3.defs),(.str u0_3.query),(.str u0_3.mutation)])]]))
noncomputable def fi_Walk_B (w : W3) (s : GSchema) (d : GDoc) (u0_4 : GDoc) (u0_3 : GSchema) : Option Bool :=
 bnd (tloop ((fi_Walk_l1T w) s d u0_4 u0_3) 0) fun e17_2 => elim e17_2
 (fun p17 =>
 bnd (tloop ((fi_Walk_l2T w) s d u0_4 u0_3) 0) fun e30_2 => elim e30_2
 (fun p30 =>
 some true)
 (fun p30 =>
 some false))
 (fun p17 =>
 some false)
def fi_Walk_ds (w : W3) : Decs := { decs := [(16,(.ref shOp)),(21,.str),(25,.bool),(33,(.ref shFrag)),(41,.bool)],ups := [(25,[[(8,[n6,.str,sf,sf,sf]),(4,[sf,sf]),(3,[sf,.str,.str])],[(5,[(.func (fw w) [] [])]),(4,[sf,sf]),(3,[sf,.str,.str])]]),(41,[[(10,[.str,.str,sf,sf]),(4,[sf,sf]),(3,[sf,.str,.str])],[(5,[(.func (fw w) [] [])]),(4,[sf,sf]),(3,[sf,.str,.str])]])],loops := [(2,[(4,2),(3,3)],⟨fi_Walk_l1F,[[(5,[(.func (fw w) [] [])]),(4,[sf,sf]),(3,[sf,.str,.str])]],[(some 0,fi_Walk_l1F,[[(5,[(.func (fw w) [] [])]),(4,[sf,sf]),(3,[sf,.str,.str])]]),(none,fi_Walk_l1F,[[(5,[(.func (fw w) [] [])]),(4,[sf,sf]),(3,[sf,.str,.str])]])]⟩),(8,[(4,2),(3,3)],⟨fi_Walk_l2F,[[(5,[(.func (fw w) [] [])]),(4,[sf,sf]),(3,[sf,.str,.str])]],[(some 2,fi_Walk_l2F,[[(5,[(.func (fw w) [] [])]),(4,[sf,sf]),(3,[sf,.str,.str])]]),(none,fi_Walk_l2F,[[(5,[(.func (fw w) [] [])]),(4,[sf,sf]),(3,[sf,.str,.str])]])]⟩)] }
theorem fi_Walk_t1 (w : W3) (O : Orc) (LP : LBs) (s : GSchema) (d : GDoc) (u0_4 : GDoc) (u0_3 : GSchema) : eW 70 (fi_Walk_ds w) Tryz.f70 O LP [(eS s),(eD d),(.func (.func 108) [] [(.ptr 1 3 0),(.ptr 1 5 0)])] [[(5,[(.func (.func (fw w)) [] [])]),(4,[(zq encOp u0_4.ops),(zq encFrag u0_4.frags)]),(3,[(zq encDef u0_3.defs),(.str u0_3.query),(.str u0_3.mutation)])]] = (fi_Walk_T1 w) O LP s d u0_4 u0_3 := by cases w <;> kernel_rfl
theorem fi_Walk_l1_ok (w : W3) (s : GSchema) (d : GDoc) (u0_4 : GDoc) (u0_3 : GSchema) : Lok ((fi_Walk_l1R w) s d u0_4 u0_3) ((fi_Walk_l1T w) s d u0_4 u0_3) ((fi_Walk_l1 w) O loopLim) ((fi_Walk_l1X w) s d u0_4 u0_3) := by
 rintro t_8 l u ⟨rfl,rfl⟩
 simp only [fi_Walk_l1T,fi_Walk_l1,zd,zr]
 refine zG ?_
 try simp only [evs,tys]
 apply Imp.cnd
 ·refine zX encOp chk_GOp fun y10 _ => ?_
  try simp only [evs,tys]
  refine zC rfl fun y12 _ => ?_
  try simp only [zes,evs,tys]
  refine Imp.gcall (f := s6_ArgsRulesE) (fu := fun a => [(8,[(i6 y10.kind),(.str y10.name),(zq encVarDef y10.vars),(zq encDir y10.dirs),(zq encSel y10.sels)]),(4,[(zq encOp d.ops),(zq encFrag d.frags)]),(3,[(zq encDef s.defs),(.str s.query),(.str s.mutation)])] :: (fi_allU w) s y12 y10.sels u0_4 u0_3 a) (fun a h => by first | exact OL_drop rfl rfl (by first | rfl | (simp only [zes,tys]; rfl)) (tO_spec h) | (have h' := tO_spec h; simp only [evs,tys,evl,fi_allU] at h'; exact OL_drop rfl rfl (by first | rfl | (simp only [zes,tys]; rfl)) h')) zK (fun a => by first | rfl | (simp only [fi_allU,evs,tys]; first | rfl | (cases w <;> rfl))) fun y14 hy14 => ?_
  try simp only [s6_ArgsRulesE,fi_allU,evs,tys]
  apply Imp.cnd
  ·exact zT ⟨t_8,zE⟩
  ·exact zN
 ·exact zB ⟨t_8,zE⟩
theorem fi_Walk_l2_ok (w : W3) (s : GSchema) (d : GDoc) (u0_4 : GDoc) (u0_3 : GSchema) : Lok ((fi_Walk_l2R w) s d u0_4 u0_3) ((fi_Walk_l2T w) s d u0_4 u0_3) ((fi_Walk_l2 w) O loopLim) ((fi_Walk_l2X w) s d u0_4 u0_3) := by
 rintro t_23 l u ⟨rfl,rfl⟩
 simp only [fi_Walk_l2T,fi_Walk_l2,zd,zr]
 refine zG ?_
 try simp only [evs,tys]
 apply Imp.cnd
 ·refine zX encFrag chk_GFrag fun y25 _ => ?_
  try simp only [evs,tys]
  refine Imp.gcall (f := s6_ArgsRulesE) (fu := fun a => [(10,[(.str y25.name),(.str y25.on_),(zq encDir y25.dirs),(zq encSel y25.sels)]),(4,[(zq encOp d.ops),(zq encFrag d.frags)]),(3,[(zq encDef s.defs),(.str s.query),(.str s.mutation)])] :: (fi_allU w) s y25.on_ y25.sels u0_4 u0_3 a) (fun a h => by first | exact OL_drop rfl rfl (by first | rfl | (simp only [zes,tys]; rfl)) (tO_spec h) | (have h' := tO_spec h; simp only [evs,tys,evl,fi_allU] at h'; exact OL_drop rfl rfl (by first | rfl | (simp only [zes,tys]; rfl)) h')) zK (fun a => by first | rfl | (simp only [fi_allU,evs,tys]; first | rfl | (cases w <;> rfl))) fun y27 hy27 => ?_
  try simp only [s6_ArgsRulesE,fi_allU,evs,tys]
  apply Imp.cnd
  ·exact zT ⟨t_23,zE⟩
  ·exact zN
 ·exact zB ⟨t_23,zE⟩
theorem fi_Walk_imp (w : W3) (s : GSchema) (d : GDoc) (u0_4 : GDoc) (u0_3 : GSchema) : Imp ((fi_Walk_B w) s d u0_4 u0_3) ((fi_Walk_T1 w) O loopLim s d u0_4 u0_3) (fun r v => v = (s6_ArgsRulesE r,((fi_WalkU w) s d u0_4 u0_3 r))) := by
 simp only [fi_Walk_B,fi_Walk_T1,zd,zr]
 try simp only [evs,tys]
 refine zL ((fi_Walk_l1_ok w) s d u0_4 u0_3) ?_
 rintro (p | p) vy17 hy17
 ·try simp only [elim_inl,elim_inr]
  obtain ⟨t_15,rfl⟩ := hy17
  refine zH ?_
  try simp only [evs,tys]
  refine zL ((fi_Walk_l2_ok w) s d u0_4 u0_3) ?_
  rintro (p | p) vy30 hy30
  ·try simp only [elim_inl,elim_inr]
   obtain ⟨t_28,rfl⟩ := hy30
   refine zH ?_
   try simp only [evs,tys]
   exact Imp.some (by first | rfl | simp only [zes,fi_WalkU,evs,tys,evl])
  ·try simp only [elim_inl,elim_inr]
   obtain ⟨t_29,rfl⟩ := hy30
   refine Imp.exMiss rfl ?_
   refine zH ?_
   try simp only [evs,tys]
   exact Imp.some (by first | rfl | simp only [zes,fi_WalkU,evs,tys,evl])
 ·try simp only [elim_inl,elim_inr]
  obtain ⟨t_16,rfl⟩ := hy17
  refine Imp.exMiss rfl ?_
  refine zH ?_
  try simp only [evs,tys]
  exact Imp.some (by first | rfl | simp only [zes,fi_WalkU,evs,tys,evl])
theorem fi_Walk_run (w : W3) {s : GSchema} {d : GDoc} {u0_4 : GDoc} {u0_3 : GSchema} {r : Bool} (h : (fi_Walk_B w) s d u0_4 u0_3 = some r) : (fi_Walk w) s d u0_4 u0_3 = some r := zV s6_ArgsRulesEj ((fi_Walk_imp w) s d u0_4 u0_3) Tryz.func70 ((fi_Walk_t1 w) _ _ s d u0_4 u0_3) h
def ar_Walk_T1 (w : W3) (O : Orc) (LP : LBs) (s : GSchema) (d : GDoc) : Option (PV × UP) :=
 bnd (O 70 [(eS s),(eD d),(.func (.func 108) [] [(.ptr 1 3 0),(.ptr 1 5 0)])] [[(5,[(.func (.func (fw w)) [] [])]),(4,[(zq encOp d.ops),(zq encFrag d.frags)]),(3,[(zq encDef s.defs),(.str s.query),(.str s.mutation)])]]) fun x1 => cnd (chkU [[(5,[(.func (fw w) [] [])]),(4,[sf,sf]),(3,[sf,.str,.str])]] x1.2) (cnd (chk .bool x1.1)
 (some ((.bool (boolV x1.1)),[])) none) none
noncomputable def ar_Walk_B (w : W3) (s : GSchema) (d : GDoc) : Option Bool :=
 bnd ((fi_Walk w) s d d s) fun y2 =>
 some y2
def ar_Walk_ds (w : W3) : Decs := { decs := [(10,.bool)],ups := [(10,[[(5,[(.func (fw w) [] [])]),(4,[sf,sf]),(3,[sf,.str,.str])]])] }
theorem ar_Walk_t1 (w : W3) (O : Orc) (LP : LBs) (s : GSchema) (d : GDoc) : eW 47 (ar_Walk_ds w) Tryz.f47 O LP [(eS s),(eD d),(.func (.func (fw w)) [] [])] [] = (ar_Walk_T1 w) O LP s d := by cases w <;> kernel_rfl
theorem ar_Walk_imp (w : W3) (s : GSchema) (d : GDoc) : Imp ((ar_Walk_B w) s d) ((ar_Walk_T1 w) O loopLim s d) (Ri s6_ArgsRulesE) := by
 simp only [ar_Walk_B,ar_Walk_T1,zd,zr]
 try simp only [evs,tys]
 refine Imp.gcall (f := s6_ArgsRulesE) (fu := fun a => (fi_WalkU w) s d d s a) (fun a h => by first | exact tO_spec h | (have h' := tO_spec h; simp only [evs,tys,evl,fi_WalkU] at h'; exact h')) zK (fun a => by first | rfl | (simp only [fi_WalkU,evs,tys]; first | rfl | (cases w <;> rfl))) fun y2 hy2 => ?_
 try simp only [s6_ArgsRulesE,fi_WalkU,evs,tys]
 exact zR
theorem ar_Walk_run (w : W3) {s : GSchema} {d : GDoc} {r : Bool} (h : (ar_Walk_B w) s d = some r) : (ar_Walk w) s d = some r := zV s6_ArgsRulesEj ((ar_Walk_imp w) s d) Tryz.func47 ((ar_Walk_t1 w) _ _ s d) h
def ar_Rule_T1 (O : Orc) (LP : LBs) (s : GSchema) (d : GDoc) (n : Int) : Option (PV × UP) :=
 cnd (n == 15)
 (callp O 47 [(eS s),(eD d),(.func (.func 46) [] [])] fun x1 => cnd (chk .bool x1)
 (some ((.bool (boolV x1)),[])) none)
 (cnd (n == 16)
 (callp O 47 [(eS s),(eD d),(.func (.func 48) [] [])] fun x3 => cnd (chk .bool x3)
 (some ((.bool (boolV x3)),[])) none)
 (cnd (n == 17)
 (callp O 47 [(eS s),(eD d),(.func (.func 49) [] [])] fun x5 => cnd (chk .bool x5)
 (some ((.bool (boolV x5)),[])) none)
 (some ((.bool false),[]))))
noncomputable def ar_Rule_B (s : GSchema) (d : GDoc) (n : Int) : Option Bool :=
 cnd (n == 15)
 (bnd ((ar_Walk .a) s d) fun y2 =>
 some y2)
 (cnd (n == 16)
 (bnd ((ar_Walk .b) s d) fun y4 =>
 some y4)
 (cnd (n == 17)
 (bnd ((ar_Walk .c) s d) fun y6 =>
 some y6)
 (some false)))
def ar_Rule_ds : Decs := { decs := [(12,.bool),(17,.bool),(22,.bool)] }
theorem ar_Rule_t1 (O : Orc) (LP : LBs) (s : GSchema) (d : GDoc) (n : Int) : eW 19 ar_Rule_ds Tryz.f19 O LP [(eS s),(eD d),(i6 n)] [] = ar_Rule_T1 O LP s d n := by kernel_rfl
theorem ar_Rule_imp (s : GSchema) (d : GDoc) (n : Int) : Imp (ar_Rule_B s d n) (ar_Rule_T1 O loopLim s d n) (Ri s6_ArgsRulesE) := by
 simp only [ar_Rule_B,ar_Rule_T1,zd,zr]
 try simp only [evs,tys]
 apply Imp.cnd
 ·refine zC rfl fun y2 _ => ?_
  try simp only [zes,evs,tys]
  exact zR
 ·apply Imp.cnd
  ·refine zC rfl fun y4 _ => ?_
   try simp only [zes,evs,tys]
   exact zR
  ·apply Imp.cnd
   ·refine zC rfl fun y6 _ => ?_
    try simp only [zes,evs,tys]
    exact zR
   ·exact zR
theorem ar_Rule_run {s : GSchema} {d : GDoc} {n : Int} {r : Bool} (h : ar_Rule_B s d n = some r) : ar_Rule s d n = some r := zV s6_ArgsRulesEj (ar_Rule_imp s d n) Tryz.func19 (ar_Rule_t1 _ _ s d n) h
abbrev r3_Spots_l1F : List Sh := [(.ptr 0 2 0),(.ptr 0 3 0),st',n6,sf,sf,sf,.str,.str]
def r3_Spots_l1 (O : Orc) (LP : LBs) : LBody := fun s1 s1u => cnd (chkL r3_Spots_l1F s1) (cnd (chkU [] s1u)
 (cnd (decide ((iv s1 3) < (List.length (ev s1 4) : Int)))
 (bnd (ix 5 (zs s1 4) (zn s1 3)) fun x12 => cnd (chk (.ref shOp) x12)
 (callp O 116 [(.agg [(zs s1 6),(zt s1 7),(zt s1 8)]),(.agg [(zn (rf x12) 0),(zt (rf x12) 1),(zs (rf x12) 2),(zs (rf x12) 3),(zs (rf x12) 4)])] fun x14 => cnd (chk .str x14)
 (bnd (ix 5 (zs s1 4) (zn s1 3)) fun x16 => cnd (chk (.ref shOp) x16)
 (callp O 115 [(.agg [(zs s1 6),(zt s1 7),(zt s1 8)]),(.str (strV x14)),(zs (rf x16) 4),(zo s1 2)] fun x18 => cnd (chk st' x18)
 (some (.nrm,(pu (pu (rb r3_Spots_l1F s1) 2 (.slice (esV x18) [] true)) 3 (i6 (w6 ((iv s1 3) + 1)))),[])) none) none) none) none)
 (some (.brk 0,(rb r3_Spots_l1F s1),[]))) none) none
abbrev r3_Spots_l2F : List Sh := [(.ptr 0 2 0),(.ptr 0 3 0),st',n6,sf,sf,sf,.str,.str]
def r3_Spots_l2 (O : Orc) (LP : LBs) : LBody := fun s23 s23u => cnd (chkL r3_Spots_l2F s23) (cnd (chkU [] s23u)
 (cnd (decide ((iv s23 3) < (List.length (ev s23 5) : Int)))
 (bnd (ix 4 (zs s23 5) (zn s23 3)) fun x32 => cnd (chk (.ref shFrag) x32)
 (bnd (ix 4 (zs s23 5) (zn s23 3)) fun x34 => cnd (chk (.ref shFrag) x34)
 (callp O 115 [(.agg [(zs s23 6),(zt s23 7),(zt s23 8)]),(zt (rf x32) 1),(zs (rf x34) 3),(zo s23 2)] fun x36 => cnd (chk st' x36)
 (some (.nrm,(pu (pu (rb r3_Spots_l2F s23) 2 (.slice (esV x36) [] true)) 3 (i6 (w6 ((iv s23 3) + 1)))),[])) none) none) none)
 (some (.brk 2,(rb r3_Spots_l2F s23),[]))) none) none
def r3_Spots_T1 (O : Orc) (LP : LBs) (s : GSchema) (d : GDoc) : Option (PV × UP) :=
 bnd (LP (r3_Spots_l1 O LP) [(.ptr 0 2 0),(.ptr 0 3 0),(.slice [] [] true),(i6 0),(zq encOp d.ops),(zq encFrag d.frags),(zq encDef s.defs),(.str s.query),(.str s.mutation)] []) fun y22 =>
 exIs y22.1 (some 0) (cnd (chkL r3_Spots_l1F y22.2.1) (cnd (chkU [] y22.2.2)
 (bnd (LP (r3_Spots_l2 O LP) [(.ptr 0 2 0),(.ptr 0 3 0),(zo y22.2.1 2),(i6 0),(zs y22.2.1 4),(zs y22.2.1 5),(zs y22.2.1 6),(zt y22.2.1 7),(zt y22.2.1 8)] []) fun y40 =>
 exIs y40.1 (some 2) (cnd (chkL r3_Spots_l1F y40.2.1) (cnd (chkU [] y40.2.2)
 (some ((zs y40.2.1 2),[])) none) none)
 (none)) none) none)
 (none)
noncomputable def r3_Spots_l1T (s : GSchema) (d : GDoc) : ((List GSeineref13Spot) × Int) → Option (((List GSeineref13Spot) × Int) ⊕ ((List GSeineref13Spot)))
 | (out_10,i_11) =>
 cnd (decide (i_11 < (List.length d.ops : Int)))
  (bnd (nthI d.ops i_11) fun y13 =>
  bnd (r3_Root s y13) fun y15 =>
  bnd (nthI d.ops i_11) fun y17 =>
  bnd (r3_spots s y15 y17.sels out_10) fun y19 =>
  some (.inl (y19,(IntKind.wrap .i64 (i_11 + 1)))))
  (some (.inr out_10))
abbrev r3_Spots_l1P (s : GSchema) (d : GDoc) (a0 a1 : PV) : List PV := [(.ptr 0 2 0),(.ptr 0 3 0),a0,a1,(zq encOp d.ops),(zq encFrag d.frags),(zq encDef s.defs),(.str s.query),(.str s.mutation)]
abbrev r3_Spots_l1R (s : GSchema) (d : GDoc) (st : (List GSeineref13Spot) × Int) (l : List PV) (u : UP) : Prop := l = (r3_Spots_l1P s d (zp encSeineref13Spot st.1) (i6 st.2)) ∧ u = []
abbrev r3_Spots_l1X (s : GSchema) (d : GDoc) (p : (List GSeineref13Spot)) (r : EU) : Prop := ∃ (i_21 : Int),r = (Ex.brk 0,(r3_Spots_l1P s d (zp encSeineref13Spot p) (i6 i_21)),[])
noncomputable def r3_Spots_l2T (s : GSchema) (d : GDoc) : ((List GSeineref13Spot) × Int) → Option (((List GSeineref13Spot) × Int) ⊕ ((List GSeineref13Spot)))
 | (out_30,i_31) =>
 cnd (decide (i_31 < (List.length d.frags : Int)))
  (bnd (nthI d.frags i_31) fun y33 =>
  bnd (nthI d.frags i_31) fun y35 =>
  bnd (r3_spots s y33.on_ y35.sels out_30) fun y37 =>
  some (.inl (y37,(IntKind.wrap .i64 (i_31 + 1)))))
  (some (.inr out_30))
abbrev r3_Spots_l2P (s : GSchema) (d : GDoc) (a0 a1 : PV) : List PV := [(.ptr 0 2 0),(.ptr 0 3 0),a0,a1,(zq encOp d.ops),(zq encFrag d.frags),(zq encDef s.defs),(.str s.query),(.str s.mutation)]
abbrev r3_Spots_l2R (s : GSchema) (d : GDoc) (st : (List GSeineref13Spot) × Int) (l : List PV) (u : UP) : Prop := l = (r3_Spots_l2P s d (zp encSeineref13Spot st.1) (i6 st.2)) ∧ u = []
abbrev r3_Spots_l2X (s : GSchema) (d : GDoc) (p : (List GSeineref13Spot)) (r : EU) : Prop := ∃ (i_39 : Int),r = (Ex.brk 2,(r3_Spots_l2P s d (zp encSeineref13Spot p) (i6 i_39)),[])
noncomputable def r3_Spots_B (s : GSchema) (d : GDoc) : Option (List GSeineref13Spot) :=
 bnd (tloop (r3_Spots_l1T s d) ([],0)) fun out_20 =>
 bnd (tloop (r3_Spots_l2T s d) (out_20,0)) fun out_38 =>
 some out_38
def r3_Spots_ds : Decs := { decs := [(20,(.ref shOp)),(22,.str),(26,(.ref shOp)),(30,st'),(42,(.ref shFrag)),(48,(.ref shFrag)),(52,st')],loops := [(3,[(3,2),(2,3)],⟨r3_Spots_l1F,[],[(some 0,r3_Spots_l1F,[])]⟩),(7,[(3,2),(2,3)],⟨r3_Spots_l1F,[],[(some 2,r3_Spots_l1F,[])]⟩)] }
theorem r3_Spots_t1 (O : Orc) (LP : LBs) (s : GSchema) (d : GDoc) : eW 58 r3_Spots_ds Tryz.f58 O LP [(eS s),(eD d)] [] = r3_Spots_T1 O LP s d := by kernel_rfl
theorem r3_Spots_l1_ok (s : GSchema) (d : GDoc) : Lok (r3_Spots_l1R s d) (r3_Spots_l1T s d) (r3_Spots_l1 O loopLim) (r3_Spots_l1X s d) := by
 rintro ⟨out_10,i_11⟩ l u ⟨rfl,rfl⟩
 simp only [r3_Spots_l1T,r3_Spots_l1,zd,zr]
 refine zG ?_
 try simp only [evs,tys]
 apply Imp.cnd
 ·refine zX encOp chk_GOp fun y13 _ => ?_
  try simp only [evs,tys]
  refine zC rfl fun y15 _ => ?_
  try simp only [zes,evs,tys]
  refine zX encOp chk_GOp fun y17 _ => ?_
  try simp only [evs,tys]
  refine zC rfl fun y19 _ => ?_
  try simp only [zes,evs,tys]
  exact zN
 ·exact zB ⟨i_11,zE⟩
theorem r3_Spots_l2_ok (s : GSchema) (d : GDoc) : Lok (r3_Spots_l2R s d) (r3_Spots_l2T s d) (r3_Spots_l2 O loopLim) (r3_Spots_l2X s d) := by
 rintro ⟨out_30,i_31⟩ l u ⟨rfl,rfl⟩
 simp only [r3_Spots_l2T,r3_Spots_l2,zd,zr]
 refine zG ?_
 try simp only [evs,tys]
 apply Imp.cnd
 ·refine zX encFrag chk_GFrag fun y33 _ => ?_
  try simp only [evs,tys]
  refine zX encFrag chk_GFrag fun y35 _ => ?_
  try simp only [evs,tys]
  refine zC rfl fun y37 _ => ?_
  try simp only [zes,evs,tys]
  exact zN
 ·exact zB ⟨i_31,zE⟩
theorem r3_Spots_imp (s : GSchema) (d : GDoc) : Imp (r3_Spots_B s d) (r3_Spots_T1 O loopLim s d) (Ri r3_SpotsE) := by
 simp only [r3_Spots_B,r3_Spots_T1,zd,zr]
 try simp only [evs,tys]
 refine zL (r3_Spots_l1_ok s d) ?_
 rintro out_20 _ ⟨i_21,rfl⟩
 refine zH ?_
 try simp only [evs,tys]
 refine zL (r3_Spots_l2_ok s d) ?_
 rintro out_38 _ ⟨i_39,rfl⟩
 refine zH ?_
 try simp only [evs,tys]
 exact zR
theorem r3_Spots_run {s : GSchema} {d : GDoc} {r : List GSeineref13Spot} (h : r3_Spots_B s d = some r) : r3_Spots s d = some r := zV r3_SpotsEj (r3_Spots_imp s d) Tryz.func58 (r3_Spots_t1 _ _ s d) h
def r3_params_T1 (O : Orc) (LP : LBs) (s : GSchema) (x : GSeineref13Spot) : Option (PV × UP) :=
 callp O 117 [(eS s),(.str x.typ),(.str x.x.name)] fun x1 => cnd (chk (.tup [shFieldDef,.bool]) x1)
 (some ((zs (tg x1 0) 1),[])) none
noncomputable def r3_params_B (s : GSchema) (x : GSeineref13Spot) : Option (List GParam) :=
 bnd (r9_Field s x.typ x.x.name) fun y2 =>
 some y2.1.params
def r3_params_ds : Decs := { decs := [(14,(.tup [shFieldDef,.bool]))] }
theorem r3_params_t1 (O : Orc) (LP : LBs) (s : GSchema) (x : GSeineref13Spot) : eW 124 r3_params_ds Tryz.f124 O LP [(eS s),(.agg [(.str x.typ),(i6 x.x.kind),(.str x.x.alias),(.str x.x.name),(zq encMember x.x.args),(zq encDir x.x.dirs),(.str x.x.on_),(zq encSel x.x.sels)])] [] = r3_params_T1 O LP s x := by kernel_rfl
theorem r3_params_imp (s : GSchema) (x : GSeineref13Spot) : Imp (r3_params_B s x) (r3_params_T1 O loopLim s x) (Ri r3_paramsE) := by
 simp only [r3_params_B,r3_params_T1,zd,zr]
 try simp only [evs,tys]
 refine zC rfl fun y2 _ => ?_
 try simp only [zes,evs,tys]
 exact zR
theorem r3_params_run {s : GSchema} {x : GSeineref13Spot} {r : List GParam} (h : r3_params_B s x = some r) : r3_params s x = some r := zV r3_paramsEj (r3_params_imp s x) Tryz.func124 (r3_params_t1 _ _ s x) h
def r3_argsRule_T1 (O : Orc) (LP : LBs) (l0 : List GParam) (m : List GMember) (n : Int) : Option (PV × UP) :=
 cnd (n == 15)
 (callp O 186 [(zq encParam l0),(zq encMember m)] fun x1 => cnd (chk .bool x1)
 (some ((.bool (boolV x1)),[])) none)
 (cnd (n == 16)
 (callp O 187 [(zq encMember m)] fun x3 => cnd (chk .bool x3)
 (some ((.bool (boolV x3)),[])) none)
 (callp O 188 [(zq encParam l0),(zq encMember m)] fun x5 => cnd (chk .bool x5)
 (some ((.bool (boolV x5)),[])) none))
noncomputable def r3_argsRule_B (l0 : List GParam) (m : List GMember) (n : Int) : Option Bool :=
 cnd (n == 15)
 (bnd (r3_Known l0 m) fun y2 =>
 some y2)
 (cnd (n == 16)
 (bnd (r3_Once m) fun y4 =>
 some y4)
 (bnd (r3_Needed l0 m) fun y6 =>
 some y6))
def r3_argsRule_ds : Decs := { decs := [(12,.bool),(16,.bool),(19,.bool)] }
theorem r3_argsRule_t1 (O : Orc) (LP : LBs) (l0 : List GParam) (m : List GMember) (n : Int) : eW 123 r3_argsRule_ds Tryz.f123 O LP [(zq encParam l0),(zq encMember m),(i6 n)] [] = r3_argsRule_T1 O LP l0 m n := by kernel_rfl
theorem r3_argsRule_imp (l0 : List GParam) (m : List GMember) (n : Int) : Imp (r3_argsRule_B l0 m n) (r3_argsRule_T1 O loopLim l0 m n) (Ri s6_ArgsRulesE) := by
 simp only [r3_argsRule_B,r3_argsRule_T1,zd,zr]
 try simp only [evs,tys]
 apply Imp.cnd
 ·refine zC rfl fun y2 _ => ?_
  try simp only [zes,evs,tys]
  exact zR
 ·apply Imp.cnd
  ·refine zC rfl fun y4 _ => ?_
   try simp only [zes,evs,tys]
   exact zR
  ·refine zC rfl fun y6 _ => ?_
   try simp only [zes,evs,tys]
   exact zR
theorem r3_argsRule_run {l0 : List GParam} {m : List GMember} {n : Int} {r : Bool} (h : r3_argsRule_B l0 m n = some r) : r3_argsRule l0 m n = some r := zV s6_ArgsRulesEj (r3_argsRule_imp l0 m n) Tryz.func123 (r3_argsRule_t1 _ _ l0 m n) h
def r3_dirParams_T1 (O : Orc) (LP : LBs) (d : GDir) : Option (PV × UP) :=
 callp O 121 [(.str d.name)] fun x1 => cnd (chk (.tup [shParam,.bool]) x1)
 (cnd (!(boolV (tv x1 1)))
 (some ((.slice [] [] false),[]))
 (some ((.slice [(.agg [(zt (tg x1 0) 0),(zt (tg x1 0) 1),(zn (tg x1 0) 2),(zn (tg x1 0) 3),(zb (tg x1 0) 4),(zn (tg x1 0) 5),(zn (tg x1 0) 6),(zt (tg x1 0) 7),(zs (tg x1 0) 8),(zs (tg x1 0) 9)])] [] false),[]))) none
noncomputable def r3_dirParams_B (d : GDir) : Option (List GParam) :=
 bnd (r3_DirParam d.name) fun y2 =>
 cnd (!y2.2)
 (some ([] : List GParam))
 (some [y2.1])
def r3_dirParams_ds : Decs := { decs := [(8,(.tup [shParam,.bool]))] }
theorem r3_dirParams_t1 (O : Orc) (LP : LBs) (d : GDir) : eW 125 r3_dirParams_ds Tryz.f125 O LP [(eR d)] [] = r3_dirParams_T1 O LP d := by kernel_rfl
theorem r3_dirParams_imp (d : GDir) : Imp (r3_dirParams_B d) (r3_dirParams_T1 O loopLim d) (Ri r3_paramsE) := by
 simp only [r3_dirParams_B,r3_dirParams_T1,zd,zr]
 try simp only [evs,tys]
 refine zC rfl fun y2 _ => ?_
 try simp only [zes,evs,tys]
 apply Imp.cnd
 ·exact zR
 ·exact zR
theorem r3_dirParams_run {d : GDir} {r : List GParam} (h : r3_dirParams_B d = some r) : r3_dirParams d = some r := zV r3_paramsEj (r3_dirParams_imp d) Tryz.func125 (r3_dirParams_t1 _ _ d) h
abbrev r9_needs_l1F : List Sh := [(.ptr 0 2 0),st',(.ptr 0 6 0),n6,n6,.str,sf,sf,sf,sf,sf,.str,.str]
def r9_needs_l1 (O : Orc) (LP : LBs) : LBody := fun s3 s3u => cnd (chkL r9_needs_l1F s3) (cnd (chkU [] s3u)
 (cnd (decide ((iv s3 3) < (List.length (ev s3 9) : Int)))
 (cnd ((iv s3 4) == 5)
 (bnd (ix 10 (zs s3 9) (zn s3 3)) fun x12 => cnd (chk (.ref shParam) x12)
 (cnd ((iv (rf x12) 2) == 0)
 (cnd ((iv (rf x12) 3) == 1)
 (callp O 159 [(.agg [(zs s3 10),(zt s3 11),(zt s3 12)]),(zt (rf x12) 1),(i6 5),(i6 5),(i6 5)] fun x14 => cnd (chk .bool x14)
 (cnd (boolV x14)
 (bnd (apd 1 (zo s3 1) (.slice [(zt (rf x12) 1)] [] true)) fun x16 => cnd (chk st' x16)
 (some (.nrm,(pu (pu (rb r9_needs_l1F s3) 1 (.slice (esV x16) [] true)) 3 (i6 (w6 ((iv s3 3) + 1)))),[])) none)
 (some (.nrm,(pu (rb r9_needs_l1F s3) 3 (i6 (w6 ((iv s3 3) + 1)))),[]))) none)
 (some (.nrm,(pu (rb r9_needs_l1F s3) 3 (i6 (w6 ((iv s3 3) + 1)))),[])))
 (some (.nrm,(pu (rb r9_needs_l1F s3) 3 (i6 (w6 ((iv s3 3) + 1)))),[]))) none)
 (some (.brk 0,(rb r9_needs_l1F s3),[])))
 (some (.brk 0,(rb r9_needs_l1F s3),[]))) none) none
def r9_needs_T1 (O : Orc) (LP : LBs) (s : GSchema) (name : Str) : Option (PV × UP) :=
 callp O 164 [(eS s),(.str name)] fun x1 => cnd (chk (.tup [shDef,.bool]) x1)
 (bnd (LP (r9_needs_l1 O LP) [(.ptr 0 2 0),(.slice [] [] true),(.ptr 0 6 0),(i6 0),(zn (tg x1 0) 0),(zt (tg x1 0) 1),(zs (tg x1 0) 2),(zs (tg x1 0) 3),(zs (tg x1 0) 4),(zs (tg x1 0) 5),(zq encDef s.defs),(.str s.query),(.str s.mutation)] []) fun y20 =>
 exIs y20.1 (some 0) (cnd (chkL r9_needs_l1F y20.2.1) (cnd (chkU [] y20.2.2)
 (some ((zo y20.2.1 1),[])) none) none)
 (none)) none
noncomputable def r9_needs_l1T (s : GSchema) (name : Str) (y2 : GDef × Bool) : ((List Str) × Int) → Option (((List Str) × Int) ⊕ ((List Str)))
 | (out_10,i_11) =>
 cnd (decide (i_11 < (List.length y2.1.params : Int)))
  (cnd (y2.1.kind == 5)
  (bnd (nthI y2.1.params i_11) fun y13 =>
  cnd (y13.t.lists == 0)
   (cnd (y13.t.musts == 1)
   (bnd (r9_is s y13.t.name 5 5 5) fun y15 =>
   cnd y15
    (bnd (tapp out_10 [y13.t.name]) fun y17 =>
    some (.inl (y17,(IntKind.wrap .i64 (i_11 + 1)))))
    (some (.inl (out_10,(IntKind.wrap .i64 (i_11 + 1))))))
   (some (.inl (out_10,(IntKind.wrap .i64 (i_11 + 1))))))
   (some (.inl (out_10,(IntKind.wrap .i64 (i_11 + 1))))))
  (some (.inr out_10)))
  (some (.inr out_10))
abbrev r9_needs_l1P (s : GSchema) (name : Str) (y2 : GDef × Bool) (a0 a1 : PV) : List PV := [(.ptr 0 2 0),a0,(.ptr 0 6 0),a1,(i6 y2.1.kind),(.str y2.1.name),(zq PV.str y2.1.faces),(zq encFieldDef y2.1.fields),(zq PV.str y2.1.parts),(zq encParam y2.1.params),(zq encDef s.defs),(.str s.query),(.str s.mutation)]
abbrev r9_needs_l1R (s : GSchema) (name : Str) (y2 : GDef × Bool) (st : (List Str) × Int) (l : List PV) (u : UP) : Prop := l = (r9_needs_l1P s name y2 (zp PV.str st.1) (i6 st.2)) ∧ u = []
abbrev r9_needs_l1X (s : GSchema) (name : Str) (y2 : GDef × Bool) (p : (List Str)) (r : EU) : Prop := ∃ (i_19 : Int),r = (Ex.brk 0,(r9_needs_l1P s name y2 (zp PV.str p) (i6 i_19)),[])
noncomputable def r9_needs_B (s : GSchema) (name : Str) : Option (List Str) :=
 bnd (r9_Find s name) fun y2 =>
 bnd (tloop (r9_needs_l1T s name y2) ([],0)) fun out_18 =>
 some out_18
def r9_needs_ds : Decs := { decs := [(13,(.tup [shDef,.bool])),(31,(.ref shParam)),(46,.bool),(52,st')],loops := [(4,[(6,6),(2,3)],⟨r9_needs_l1F,[],[(some 0,r9_needs_l1F,[])]⟩)] }
theorem r9_needs_t1 (O : Orc) (LP : LBs) (s : GSchema) (name : Str) : eW 166 r9_needs_ds Tryz.f166 O LP [(eS s),(.str name)] [] = r9_needs_T1 O LP s name := by kernel_rfl
theorem r9_needs_l1_ok (s : GSchema) (name : Str) (y2 : GDef × Bool) : Lok (r9_needs_l1R s name y2) (r9_needs_l1T s name y2) (r9_needs_l1 O loopLim) (r9_needs_l1X s name y2) := by
 rintro ⟨out_10,i_11⟩ l u ⟨rfl,rfl⟩
 simp only [r9_needs_l1T,r9_needs_l1,zd,zr]
 refine zG ?_
 try simp only [evs,tys]
 apply Imp.cnd
 ·apply Imp.cnd
  ·refine zX encParam chk_GParam fun y13 _ => ?_
   try simp only [evs,tys]
   apply Imp.cnd
   ·apply Imp.cnd
    ·refine zC rfl fun y15 _ => ?_
     try simp only [zes,evs,tys]
     apply Imp.cnd
     ·refine Imp.op (f := fun a => .slice (List.map PV.str a) [] true) (fun a h => op_apd (enc := PV.str) zI zI (fun a => by first | rfl | simp only [evs,tys,evc]) h) (fun a => rfl) fun y17 hy17 => ?_
      try simp only [evs,tys]
      exact zN
     ·exact zN
    ·exact zN
   ·exact zN
  ·exact zB ⟨i_11,zE⟩
 ·exact zB ⟨i_11,zE⟩
theorem r9_needs_imp (s : GSchema) (name : Str) : Imp (r9_needs_B s name) (r9_needs_T1 O loopLim s name) (Ri r1_varsE) := by
 simp only [r9_needs_B,r9_needs_T1,zd,zr]
 try simp only [evs,tys]
 refine zC rfl fun y2 _ => ?_
 try simp only [zes,evs,tys]
 refine zL (r9_needs_l1_ok s name y2) ?_
 rintro out_18 _ ⟨i_19,rfl⟩
 refine zH ?_
 try simp only [evs,tys]
 exact zR
theorem r9_needs_run {s : GSchema} {name : Str} {r : List Str} (h : r9_needs_B s name = some r) : r9_needs s name = some r := zV r1_varsEj (r9_needs_imp s name) Tryz.func166 (r9_needs_t1 _ _ s name) h
abbrev r1_Has_l1F : List Sh := [sf,.str,.bool,n6]
def r1_Has_l1 (O : Orc) (LP : LBs) : LBody := fun s1 s1u => cnd (chkL r1_Has_l1F s1) (cnd (chkU [] s1u)
 (cnd (decide ((iv s1 3) < (List.length (ev s1 0) : Int)))
 (bnd (ix 1 (zs s1 0) (zn s1 3)) fun x5 => cnd (chk (.ref .str) x5)
 (cnd ((strV (refV x5)) == (sv s1 1))
 (some (.ret,(pu (rb r1_Has_l1F s1) 2 (.bool true)),[]))
 (some (.nrm,(pu (rb r1_Has_l1F s1) 3 (i6 (w6 ((iv s1 3) + 1)))),[]))) none)
 (some (.brk 0,(rb r1_Has_l1F s1),[]))) none) none
def r1_Has_T1 (O : Orc) (LP : LBs) (l0 : List Str) (s : Str) : Option (PV × UP) :=
 bnd (LP (r1_Has_l1 O LP) [(zq PV.str l0),(.str s),(.bool false),(i6 0)] []) fun y9 =>
 exIs y9.1 (some 0) (cnd (chkL r1_Has_l1F y9.2.1) (cnd (chkU [] y9.2.2)
 (some ((.bool false),[])) none) none)
 (exIs y9.1 none (cnd (chkL r1_Has_l1F y9.2.1) (cnd (chkU [] y9.2.2)
 (some ((zb y9.2.1 2),[])) none) none)
 (none))
noncomputable def r1_Has_l1T (l0 : List Str) (s : Str) : Int → Option (Int ⊕ (Unit ⊕ Unit))
 | i_4 =>
 cnd (decide (i_4 < (List.length l0 : Int)))
  (bnd (nthI l0 i_4) fun y6 =>
  cnd (y6 == s)
  (some (.inr (.inr ())))
  (some (.inl (IntKind.wrap .i64 (i_4 + 1)))))
  (some (.inr (.inl ())))
abbrev r1_Has_l1R (l0 : List Str) (s : Str) (st : Int) (l : List PV) (u : UP) : Prop := l = [(zq PV.str l0),(.str s),(.bool false),(i6 st)] ∧ u = []
abbrev r1_Has_l1X (l0 : List Str) (s : Str) (p : Unit ⊕ Unit) (r : EU) : Prop := elim p (fun (p : Unit) => ∃ (i_7 : Int),r = (Ex.brk 0,[(zq PV.str l0),(.str s),(.bool false),(i6 i_7)],[])) (fun q2 => (fun (p : Unit) => ∃ (i_8 : Int),r = (Ex.ret,[(zq PV.str l0),(.str s),(.bool true),(i6 i_8)],[])) q2)
noncomputable def r1_Has_B (l0 : List Str) (s : Str) : Option Bool :=
 bnd (tloop (r1_Has_l1T l0 s) 0) fun e9_2 => elim e9_2
 (fun p9 =>
 some false)
 (fun p9 =>
 some true)
def r1_Has_ds : Decs := { decs := [(14,(.ref .str))],loops := [(2,[],⟨r1_Has_l1F,[],[(some 0,r1_Has_l1F,[]),(none,r1_Has_l1F,[])]⟩)] }
theorem r1_Has_t1 (O : Orc) (LP : LBs) (l0 : List Str) (s : Str) : eW 29 r1_Has_ds Tryz.f29 O LP [(zq PV.str l0),(.str s)] [] = r1_Has_T1 O LP l0 s := by kernel_rfl
theorem r1_Has_l1_ok (l0 : List Str) (s : Str) : Lok (r1_Has_l1R l0 s) (r1_Has_l1T l0 s) (r1_Has_l1 O loopLim) (r1_Has_l1X l0 s) := by
 rintro i_4 l u ⟨rfl,rfl⟩
 simp only [r1_Has_l1T,r1_Has_l1,zd,zr]
 refine zG ?_
 try simp only [evs,tys]
 apply Imp.cnd
 ·refine zX PV.str (fun _ => rfl) fun y6 _ => ?_
  try simp only [evs,tys]
  apply Imp.cnd
  ·exact zT ⟨i_4,zE⟩
  ·exact zN
 ·exact zB ⟨i_4,zE⟩
theorem r1_Has_imp (l0 : List Str) (s : Str) : Imp (r1_Has_B l0 s) (r1_Has_T1 O loopLim l0 s) (Ri s6_ArgsRulesE) := by
 simp only [r1_Has_B,r1_Has_T1,zd,zr]
 try simp only [evs,tys]
 refine zL (r1_Has_l1_ok l0 s) ?_
 rintro (p | p) vy9 hy9
 ·try simp only [elim_inl,elim_inr]
  obtain ⟨i_7,rfl⟩ := hy9
  refine zH ?_
  try simp only [evs,tys]
  exact zR
 ·try simp only [elim_inl,elim_inr]
  obtain ⟨i_8,rfl⟩ := hy9
  refine Imp.exMiss rfl ?_
  refine zH ?_
  try simp only [evs,tys]
  exact zR
theorem r1_Has_run {l0 : List Str} {s : Str} {r : Bool} (h : r1_Has_B l0 s = some r) : r1_Has l0 s = some r := zV s6_ArgsRulesEj (r1_Has_imp l0 s) Tryz.func29 (r1_Has_t1 _ _ l0 s) h
def r3_Spreads_T1 (O : Orc) (LP : LBs) (l0 : List GSel) : Option (PV × UP) :=
 callp O 183 [(zq encSel l0),(.slice [] [] true)] fun x1 => cnd (chk st' x1)
 (some ((.slice (esV x1) [] true),[])) none
noncomputable def r3_Spreads_B (l0 : List GSel) : Option (List Str) :=
 bnd (r3_spreads l0 ([] : List Str)) fun y2 =>
 some y2
def r3_Spreads_ds : Decs := { decs := [(4,st')] }
theorem r3_Spreads_t1 (O : Orc) (LP : LBs) (l0 : List GSel) : eW 182 r3_Spreads_ds Tryz.f182 O LP [(zq encSel l0)] [] = r3_Spreads_T1 O LP l0 := by kernel_rfl
theorem r3_Spreads_imp (l0 : List GSel) : Imp (r3_Spreads_B l0) (r3_Spreads_T1 O loopLim l0) (Ri r1_varsE) := by
 simp only [r3_Spreads_B,r3_Spreads_T1,zd,zr]
 try simp only [evs,tys]
 refine zC rfl fun y2 _ => ?_
 try simp only [zes,evs,tys]
 exact zR
theorem r3_Spreads_run {l0 : List GSel} {r : List Str} (h : r3_Spreads_B l0 = some r) : r3_Spreads l0 = some r := zV r1_varsEj (r3_Spreads_imp l0) Tryz.func182 (r3_Spreads_t1 _ _ l0) h
abbrev r3_Frag_l1F : List Sh := [.str,(.ptr 0 2 0),(.ptr 0 4 0),.bool,n6,.str,.str,st',st',sf,sf]
def r3_Frag_l1 (O : Orc) (LP : LBs) : LBody := fun s1 s1u => cnd (chkL r3_Frag_l1F s1) (cnd (chkU [] s1u)
 (cnd (decide ((iv s1 4) < (List.length (ev s1 10) : Int)))
 (bnd (ix 4 (zs s1 10) (zn s1 4)) fun x7 => cnd (chk (.ref shFrag) x7)
 (cnd ((sv (rf x7) 0) == (sv s1 0))
 (bnd (ix 4 (zs s1 10) (zn s1 4)) fun x9 => cnd (chk (.ref shFrag) x9)
 (some (.ret,(pu (pu (pu (pu (pu (rb r3_Frag_l1F s1) 3 (.bool true)) 5 (zt (rf x9) 0)) 6 (zt (rf x9) 1)) 7 (zs (rf x9) 2)) 8 (zs (rf x9) 3)),[])) none)
 (some (.nrm,(pu (rb r3_Frag_l1F s1) 4 (i6 (w6 ((iv s1 4) + 1)))),[]))) none)
 (some (.brk 0,(rb r3_Frag_l1F s1),[]))) none) none
def r3_Frag_T1 (O : Orc) (LP : LBs) (d : GDoc) (name : Str) : Option (PV × UP) :=
 bnd (LP (r3_Frag_l1 O LP) [(.str name),(.ptr 0 2 0),(.ptr 0 4 0),(.bool false),(i6 0),(.str []),(.str []),(.slice [] [] true),(.slice [] [] true),(zq encOp d.ops),(zq encFrag d.frags)] []) fun y17 =>
 exIs y17.1 (some 0) (cnd (chkL r3_Frag_l1F y17.2.1) (cnd (chkU [] y17.2.2)
 (some ((.tuple [(.agg [(.str []),(.str []),(.slice [] [] false),(.slice [] [] false)]),(.bool false)]),[])) none) none)
 (exIs y17.1 none (cnd (chkL [.str,(.ptr 0 2 0),(.ptr 0 4 0),.bool,n6,.str,.str,sf,sf,sf,sf] y17.2.1) (cnd (chkU [] y17.2.2)
 (some ((.tuple [(.agg [(zt y17.2.1 5),(zt y17.2.1 6),(zs y17.2.1 7),(zs y17.2.1 8)]),(zb y17.2.1 3)]),[])) none) none)
 (none))
noncomputable def r3_Frag_l1T (d : GDoc) (name : Str) : Int → Option (Int ⊕ (Unit ⊕ (Str × Str × (List GDir) × (List GSel))))
 | i_6 =>
 cnd (decide (i_6 < (List.length d.frags : Int)))
  (bnd (nthI d.frags i_6) fun y8 =>
  cnd (y8.name == name)
  (bnd (nthI d.frags i_6) fun y10 =>
  some (.inr (.inr (y10.name,y10.on_,y10.dirs,y10.sels))))
  (some (.inl (IntKind.wrap .i64 (i_6 + 1)))))
  (some (.inr (.inl ())))
abbrev r3_Frag_l1R (d : GDoc) (name : Str) (st : Int) (l : List PV) (u : UP) : Prop := l = [(.str name),(.ptr 0 2 0),(.ptr 0 4 0),(.bool false),(i6 st),(.str []),(.str []),(.slice [] [] true),(.slice [] [] true),(zq encOp d.ops),(zq encFrag d.frags)] ∧ u = []
abbrev r3_Frag_l1X (d : GDoc) (name : Str) (p : Unit ⊕ (Str × Str × (List GDir) × (List GSel))) (r : EU) : Prop := elim p (fun (p : Unit) => ∃ (i_11 : Int),r = (Ex.brk 0,[(.str name),(.ptr 0 2 0),(.ptr 0 4 0),(.bool false),(i6 i_11),(.str []),(.str []),(.slice [] [] true),(.slice [] [] true),(zq encOp d.ops),(zq encFrag d.frags)],[])) (fun q2 => (fun (p : Str × Str × (List GDir) × (List GSel)) => ∃ (i_12 : Int),r = (Ex.ret,[(.str name),(.ptr 0 2 0),(.ptr 0 4 0),(.bool true),(i6 i_12),(.str p.1),(.str p.2.1),(zq encDir p.2.2.1),(zq encSel p.2.2.2),(zq encOp d.ops),(zq encFrag d.frags)],[])) q2)
noncomputable def r3_Frag_B (d : GDoc) (name : Str) : Option (GFrag × Bool) :=
 bnd (tloop (r3_Frag_l1T d name) 0) fun e17_2 => elim e17_2
 (fun p17 =>
 some ((GFrag.mk [] [] ([] : List GDir) ([] : List GSel)),false))
 (fun p17 =>
 some ((GFrag.mk p17.1 p17.2.1 p17.2.2.1 p17.2.2.2),true))
def r3_Frag_ds : Decs := { decs := [(17,(.ref shFrag)),(25,(.ref shFrag))],loops := [(2,[(4,4),(2,2)],⟨r3_Frag_l1F,[],[(some 0,r3_Frag_l1F,[]),(none,[.str,(.ptr 0 2 0),(.ptr 0 4 0),.bool,n6,.str,.str,sf,sf,sf,sf],[])]⟩)] }
theorem r3_Frag_t1 (O : Orc) (LP : LBs) (d : GDoc) (name : Str) : eW 113 r3_Frag_ds Tryz.f113 O LP [(eD d),(.str name)] [] = r3_Frag_T1 O LP d name := by kernel_rfl
theorem r3_Frag_l1_ok (d : GDoc) (name : Str) : Lok (r3_Frag_l1R d name) (r3_Frag_l1T d name) (r3_Frag_l1 O loopLim) (r3_Frag_l1X d name) := by
 rintro i_6 l u ⟨rfl,rfl⟩
 simp only [r3_Frag_l1T,r3_Frag_l1,zd,zr]
 refine zG ?_
 try simp only [evs,tys]
 apply Imp.cnd
 ·refine zX encFrag chk_GFrag fun y8 _ => ?_
  try simp only [evs,tys]
  apply Imp.cnd
  ·refine zX encFrag chk_GFrag fun y10 _ => ?_
   try simp only [evs,tys]
   exact zT ⟨i_6,zE⟩
  ·exact zN
 ·exact zB ⟨i_6,zE⟩
theorem r3_Frag_imp (d : GDoc) (name : Str) : Imp (r3_Frag_B d name) (r3_Frag_T1 O loopLim d name) (Ri r3_FragE) := by
 simp only [r3_Frag_B,r3_Frag_T1,zd,zr]
 try simp only [evs,tys]
 refine zL (r3_Frag_l1_ok d name) ?_
 rintro (p | ⟨b_13,b_14,b_15,b_16⟩) vy17 hy17
 ·try simp only [elim_inl,elim_inr]
  obtain ⟨i_11,rfl⟩ := hy17
  refine zH ?_
  try simp only [evs,tys]
  exact zR
 ·try simp only [elim_inl,elim_inr]
  obtain ⟨i_12,rfl⟩ := hy17
  refine Imp.exMiss rfl ?_
  refine zH ?_
  try simp only [evs,tys]
  exact zR
theorem r3_Frag_run {d : GDoc} {name : Str} {r : GFrag × Bool} (h : r3_Frag_B d name = some r) : r3_Frag d name = some r := zV r3_FragEj (r3_Frag_imp d name) Tryz.func113 (r3_Frag_t1 _ _ d name) h
def r3_spreads_l1 (O : Orc) (LP : LBs) : LBody := fun s1 s1u => cnd (chkL [sf,st',n6] s1) (cnd (chkU [] s1u)
 (cnd (decide ((iv s1 2) < (List.length (ev s1 0) : Int)))
 (bnd (ix 7 (zs s1 0) (zn s1 2)) fun x26 => cnd (chk (.ref shSel) x26)
 (cnd ((iv (rf x26) 0) == 1)
 (bnd (ix 7 (zs s1 0) (zn s1 2)) fun x28 => cnd (chk (.ref shSel) x28)
 (callp O 29 [(zs s1 1),(zt (rf x28) 2)] fun x30 => cnd (chk .bool x30)
 (cnd (!(boolV x30))
 (bnd (ix 7 (zs s1 0) (zn s1 2)) fun x32 => cnd (chk (.ref shSel) x32)
 (bnd (apd 1 (zo s1 1) (.slice [(zt (rf x32) 2)] [] true)) fun x34 => cnd (chk st' x34)
 (bnd (ix 7 (zs s1 0) (zn s1 2)) fun x36 => cnd (chk (.ref shSel) x36)
 (callp O 183 [(zs (rf x36) 6),(.slice (esV x34) [] true)] fun x38 => cnd (chk st' x38)
 (some (.nrm,[(zs s1 0),(.slice (esV x38) [] true),(i6 (w6 ((iv s1 2) + 1)))],[])) none) none) none) none)
 (bnd (ix 7 (zs s1 0) (zn s1 2)) fun x40 => cnd (chk (.ref shSel) x40)
 (callp O 183 [(zs (rf x40) 6),(zo s1 1)] fun x42 => cnd (chk st' x42)
 (some (.nrm,[(zs s1 0),(.slice (esV x42) [] true),(i6 (w6 ((iv s1 2) + 1)))],[])) none) none)) none) none)
 (bnd (ix 7 (zs s1 0) (zn s1 2)) fun x44 => cnd (chk (.ref shSel) x44)
 (callp O 183 [(zs (rf x44) 6),(zo s1 1)] fun x46 => cnd (chk st' x46)
 (some (.nrm,[(zs s1 0),(.slice (esV x46) [] true),(i6 (w6 ((iv s1 2) + 1)))],[])) none) none)) none)
 (some (.brk 0,[(zs s1 0),(zo s1 1),(zn s1 2)],[]))) none) none
def r3_spreads_T1 (O : Orc) (LP : LBs) (l0 : List GSel) (out0 : List Str) : Option (PV × UP) :=
 bnd (LP (r3_spreads_l1 O LP) [(zq encSel l0),(zp PV.str out0),(i6 0)] []) fun y50 =>
 exIs y50.1 (some 0) (cnd (chkL [sf,st',n6] y50.2.1) (cnd (chkU [] y50.2.2)
 (some ((zo y50.2.1 1),[])) none) none)
 (none)
noncomputable def r3_spreads_l1T (l0 : List GSel) : ((List Str) × Int) → Option (((List Str) × Int) ⊕ ((List Str)))
 | (out_24,i_25) =>
 cnd (decide (i_25 < (List.length l0 : Int)))
  (bnd (nthI l0 i_25) fun y27 =>
  cnd (y27.kind == 1)
  (bnd (nthI l0 i_25) fun y29 =>
  bnd (r1_Has out_24 y29.name) fun y31 =>
  cnd (!y31)
   (bnd (nthI l0 i_25) fun y33 =>
   bnd (tapp out_24 [y33.name]) fun y35 =>
   bnd (nthI l0 i_25) fun y37 =>
   bnd (r3_spreads y37.sels y35) fun y39 =>
   some (.inl (y39,(IntKind.wrap .i64 (i_25 + 1)))))
   (bnd (nthI l0 i_25) fun y41 =>
   bnd (r3_spreads y41.sels out_24) fun y43 =>
   some (.inl (y43,(IntKind.wrap .i64 (i_25 + 1))))))
  (bnd (nthI l0 i_25) fun y45 =>
  bnd (r3_spreads y45.sels out_24) fun y47 =>
  some (.inl (y47,(IntKind.wrap .i64 (i_25 + 1))))))
  (some (.inr out_24))
abbrev r3_spreads_l1R (l0 : List GSel) (st : (List Str) × Int) (l : List PV) (u : UP) : Prop := l = [(zq encSel l0),(zp PV.str st.1),(i6 st.2)] ∧ u = []
abbrev r3_spreads_l1X (l0 : List GSel) (p : (List Str)) (r : EU) : Prop := (fun (p : (List Str)) => ∃ (i_49 : Int),r = (Ex.brk 0,[(zq encSel l0),(zp PV.str p),(i6 i_49)],[])) p
noncomputable def r3_spreads_B (l0 : List GSel) (out0 : List Str) : Option (List Str) :=
 bnd (tloop (r3_spreads_l1T l0) (out0,0)) fun out_48 =>
 some out_48
def r3_spreads_ds : Decs := { decs := [(14,(.ref shSel)),(22,(.ref shSel)),(25,.bool),(31,(.ref shSel)),(35,st'),(38,(.ref shSel)),(42,st')],loops := [(2,[],⟨[sf,st',n6],[],[(some 0,[sf,st',n6],[])]⟩)] }
theorem r3_spreads_t1 (O : Orc) (LP : LBs) (l0 : List GSel) (out0 : List Str) : eW 183 r3_spreads_ds Tryz.f183 O LP [(zq encSel l0),(zp PV.str out0)] [] = r3_spreads_T1 O LP l0 out0 := by kernel_rfl
theorem r3_spreads_l1_ok (l0 : List GSel) : Lok (r3_spreads_l1R l0) (r3_spreads_l1T l0) (r3_spreads_l1 O loopLim) (r3_spreads_l1X l0) := by
 rintro ⟨out_24,i_25⟩ l u ⟨rfl,rfl⟩
 simp only [r3_spreads_l1T,r3_spreads_l1,zd,zr]
 refine zG ?_
 try simp only [evs,tys]
 apply Imp.cnd
 ·refine zX encSel chk_GSel fun y27 _ => ?_
  try simp only [evs,tys]
  apply Imp.cnd
  ·refine zX encSel chk_GSel fun y29 _ => ?_
   try simp only [evs,tys]
   refine zC rfl fun y31 _ => ?_
   try simp only [zes,evs,tys]
   apply Imp.cnd
   ·refine zX encSel chk_GSel fun y33 _ => ?_
    try simp only [evs,tys]
    refine Imp.op (f := fun a => .slice (List.map PV.str a) [] true) (fun a h => op_apd (enc := PV.str) zI zI (fun a => by first | rfl | simp only [evs,tys,evc]) h) (fun a => rfl) fun y35 hy35 => ?_
    try simp only [evs,tys]
    refine zX encSel chk_GSel fun y37 _ => ?_
    try simp only [evs,tys]
    refine zC rfl fun y39 _ => ?_
    try simp only [zes,evs,tys]
    exact zN
   ·refine zX encSel chk_GSel fun y41 _ => ?_
    try simp only [evs,tys]
    refine zC rfl fun y43 _ => ?_
    try simp only [zes,evs,tys]
    exact zN
  ·refine zX encSel chk_GSel fun y45 _ => ?_
   try simp only [evs,tys]
   refine zC rfl fun y47 _ => ?_
   try simp only [zes,evs,tys]
   exact zN
 ·exact zB ⟨i_25,zE⟩
theorem r3_spreads_imp (l0 : List GSel) (out0 : List Str) : Imp (r3_spreads_B l0 out0) (r3_spreads_T1 O loopLim l0 out0) (Ri r1_varsE) := by
 simp only [r3_spreads_B,r3_spreads_T1,zd,zr]
 try simp only [evs,tys]
 refine zL (r3_spreads_l1_ok l0) ?_
 rintro out_48 _ ⟨i_49,rfl⟩
 refine zH ?_
 try simp only [evs,tys]
 exact zR
theorem r3_spreads_run {l0 : List GSel} {out0 : List Str} {r : List Str} (h : r3_spreads_B l0 out0 = some r) : r3_spreads l0 out0 = some r := zV r1_varsEj (r3_spreads_imp l0 out0) Tryz.func183 (r3_spreads_t1 _ _ l0 out0) h
def r1_RightType_T1 (O : Orc) (LP : LBs) (t : GType) : Option (PV × UP) :=
 callp O 98 [(.str t.name)] fun x1 => cnd (chk .bool x1)
 (cnd (boolV x1)
 (cnd (decide (t.lists ≥ 0))
 (cnd (decide (t.lists ≤ 4))
 (cnd (decide (t.musts ≥ 0))
 (bnd (bin .shl (i6 2) (.int .u64 (IntKind.wrap .u64 t.lists))) fun x3 => cnd (chk n6 x3)
 (some ((.bool (decide (t.musts < (intV x3)))),[])) none)
 (some ((.bool false),[])))
 (some ((.bool false),[])))
 (some ((.bool false),[])))
 (some ((.bool false),[]))) none
noncomputable def r1_RightType_B (t : GType) : Option Bool :=
 bnd (r1_Name t.name) fun y2 =>
 cnd y2
 (cnd (decide (t.lists ≥ 0))
 (cnd (decide (t.lists ≤ 4))
 (cnd (decide (t.musts ≥ 0))
 (bnd (tshl .i64 2 (IntKind.wrap .u64 t.lists)) fun y4 =>
 some (decide (t.musts < y4)))
 (some false))
 (some false))
 (some false))
 (some false)
def r1_RightType_ds : Decs := { decs := [(5,.bool),(27,n6)] }
theorem r1_RightType_t1 (O : Orc) (LP : LBs) (t : GType) : eW 101 r1_RightType_ds Tryz.f101 O LP [(eT t)] [] = r1_RightType_T1 O LP t := by kernel_rfl
theorem r1_RightType_imp (t : GType) : Imp (r1_RightType_B t) (r1_RightType_T1 O loopLim t) (Ri s6_ArgsRulesE) := by
 simp only [r1_RightType_B,r1_RightType_T1,zd,zr]
 try simp only [evs,tys]
 refine zC rfl fun y2 _ => ?_
 try simp only [zes,evs,tys]
 apply Imp.cnd
 ·apply Imp.cnd
  ·apply Imp.cnd
   ·apply Imp.cnd
    ·refine Imp.op (f := fun a => .int _ a) (fun a h => op_shl h) (fun a => rfl) fun y4 hy4 => ?_
     try simp only [evs,tys]
     exact zR
    ·exact zR
   ·exact zR
  ·exact zR
 ·exact zR
theorem r1_RightType_run {t : GType} {r : Bool} (h : r1_RightType_B t = some r) : r1_RightType t = some r := zV s6_ArgsRulesEj (r1_RightType_imp t) Tryz.func101 (r1_RightType_t1 _ _ t) h
def r1_Item_T1 (O : Orc) (LP : LBs) (t : GType) : Option (PV × UP) :=
 callp O 101 [(eT t)] fun x1 => cnd (chk .bool x1)
 (cnd (!(boolV x1))
 (some ((.tuple [(.agg [(.str []),(i6 0),(i6 0)]),(.bool false)]),[]))
 (cnd (t.lists == 0)
 (some ((.tuple [(.agg [(.str []),(i6 0),(i6 0)]),(.bool false)]),[]))
 (some ((.tuple [(.agg [(.str t.name),(i6 (w6 (t.lists - 1))),(i6 (Int.fdiv t.musts (2 ^ min (Int.toNat 1) 64)))]),(.bool true)]),[])))) none
noncomputable def r1_Item_B (t : GType) : Option (GType × Bool) :=
 bnd (r1_RightType t) fun y2 =>
 cnd (!y2)
 (some ((GType.mk [] 0 0),false))
 (cnd (t.lists == 0)
 (some ((GType.mk [] 0 0),false))
 (some ((GType.mk t.name (IntKind.wrap .i64 (t.lists - 1)) (Int.fdiv t.musts (2 ^ min (Int.toNat 1) 64))),true)))
def r1_Item_ds : Decs := { decs := [(5,.bool)] }
theorem r1_Item_t1 (O : Orc) (LP : LBs) (t : GType) : eW 224 r1_Item_ds Tryz.f224 O LP [(eT t)] [] = r1_Item_T1 O LP t := by kernel_rfl
theorem r1_Item_imp (t : GType) : Imp (r1_Item_B t) (r1_Item_T1 O loopLim t) (Ri r1_ItemE) := by
 simp only [r1_Item_B,r1_Item_T1,zd,zr]
 try simp only [evs,tys]
 refine zC rfl fun y2 _ => ?_
 try simp only [zes,evs,tys]
 apply Imp.cnd
 ·exact zR
 ·apply Imp.cnd
  ·exact zR
  ·exact zR
theorem r1_Item_run {t : GType} {r : GType × Bool} (h : r1_Item_B t = some r) : r1_Item t = some r := zV r1_ItemEj (r1_Item_imp t) Tryz.func224 (r1_Item_t1 _ _ t) h
abbrev r9_Find_l1F : List Sh := [.str,(.ptr 0 2 0),(.ptr 0 4 0),.bool,n6,n6,.str,st',st',st',st',sf,.str,.str]
def r9_Find_l1 (O : Orc) (LP : LBs) : LBody := fun s3 s3u => cnd (chkL r9_Find_l1F s3) (cnd (chkU [] s3u)
 (cnd (decide ((iv s3 4) < (List.length (ev s3 11) : Int)))
 (bnd (ix 6 (zs s3 11) (zn s3 4)) fun x9 => cnd (chk (.ref shDef) x9)
 (cnd ((sv (rf x9) 1) == (sv s3 0))
 (bnd (ix 6 (zs s3 11) (zn s3 4)) fun x11 => cnd (chk (.ref shDef) x11)
 (some (.ret,(pu (pu (pu (pu (pu (pu (pu (rb r9_Find_l1F s3) 3 (.bool true)) 5 (zn (rf x11) 0)) 6 (zt (rf x11) 1)) 7 (zs (rf x11) 2)) 8 (zs (rf x11) 3)) 9 (zs (rf x11) 4)) 10 (zs (rf x11) 5)),[])) none)
 (some (.nrm,(pu (rb r9_Find_l1F s3) 4 (i6 (w6 ((iv s3 4) + 1)))),[]))) none)
 (some (.brk 0,(rb r9_Find_l1F s3),[]))) none) none
def r9_Find_T1 (O : Orc) (LP : LBs) (s : GSchema) (name : Str) : Option (PV × UP) :=
 callp O 156 [(.str name)] fun x1 => cnd (chk .bool x1)
 (cnd (boolV x1)
 (some ((.tuple [(.agg [(i6 0),(.str name),(.slice [] [] false),(.slice [] [] false),(.slice [] [] false),(.slice [] [] false)]),(.bool true)]),[]))
 (bnd (LP (r9_Find_l1 O LP) [(.str name),(.ptr 0 2 0),(.ptr 0 4 0),(.bool false),(i6 0),(i6 0),(.str []),(.slice [] [] true),(.slice [] [] true),(.slice [] [] true),(.slice [] [] true),(zq encDef s.defs),(.str s.query),(.str s.mutation)] []) fun y21 =>
 exIs y21.1 (some 0) (cnd (chkL r9_Find_l1F y21.2.1) (cnd (chkU [] y21.2.2)
 (some ((.tuple [(.agg [(i6 0),(.str []),(.slice [] [] false),(.slice [] [] false),(.slice [] [] false),(.slice [] [] false)]),(.bool false)]),[])) none) none)
 (exIs y21.1 none (cnd (chkL [.str,(.ptr 0 2 0),(.ptr 0 4 0),.bool,n6,n6,.str,sf,sf,sf,sf,sf,.str,.str] y21.2.1) (cnd (chkU [] y21.2.2)
 (some ((.tuple [(.agg [(zn y21.2.1 5),(zt y21.2.1 6),(zs y21.2.1 7),(zs y21.2.1 8),(zs y21.2.1 9),(zs y21.2.1 10)]),(zb y21.2.1 3)]),[])) none) none)
 (none)))) none
noncomputable def r9_Find_l1T (s : GSchema) (name : Str) : Int → Option (Int ⊕ (Unit ⊕ (Int × Str × (List Str) × (List GFieldDef) × (List Str) × (List GParam))))
 | i_8 =>
 cnd (decide (i_8 < (List.length s.defs : Int)))
  (bnd (nthI s.defs i_8) fun y10 =>
  cnd (y10.name == name)
  (bnd (nthI s.defs i_8) fun y12 =>
  some (.inr (.inr (y12.kind,y12.name,y12.faces,y12.fields,y12.parts,y12.params))))
  (some (.inl (IntKind.wrap .i64 (i_8 + 1)))))
  (some (.inr (.inl ())))
abbrev r9_Find_l1P (s : GSchema) (name : Str) (a0 a1 a2 a3 a4 a5 a6 a7 : PV) : List PV := [(.str name),(.ptr 0 2 0),(.ptr 0 4 0),a0,a1,a2,a3,a4,a5,a6,a7,(zq encDef s.defs),(.str s.query),(.str s.mutation)]
abbrev r9_Find_l1R (s : GSchema) (name : Str) (st : Int) (l : List PV) (u : UP) : Prop := l = (r9_Find_l1P s name (.bool false) (i6 st) (i6 0) (.str []) (.slice [] [] true) (.slice [] [] true) (.slice [] [] true) (.slice [] [] true)) ∧ u = []
abbrev r9_Find_l1X (s : GSchema) (name : Str) (p : Unit ⊕ (Int × Str × (List Str) × (List GFieldDef) × (List Str) × (List GParam))) (r : EU) : Prop := elim p (fun (p : Unit) => ∃ (i_13 : Int),r = (Ex.brk 0,(r9_Find_l1P s name (.bool false) (i6 i_13) (i6 0) (.str []) (.slice [] [] true) (.slice [] [] true) (.slice [] [] true) (.slice [] [] true)),[])) (fun (p : Int × Str × (List Str) × (List GFieldDef) × (List Str) × (List GParam)) => ∃ (i_14 : Int),r = (Ex.ret,(r9_Find_l1P s name (.bool true) (i6 i_14) (i6 p.1) (.str p.2.1) (zq PV.str p.2.2.1) (zq encFieldDef p.2.2.2.1) (zq PV.str p.2.2.2.2.1) (zq encParam p.2.2.2.2.2)),[]))
noncomputable def r9_Find_B (s : GSchema) (name : Str) : Option (GDef × Bool) :=
 bnd (r9_scalar name) fun y2 =>
 cnd y2
 (some ((GDef.mk 0 name ([] : List Str) ([] : List GFieldDef) ([] : List Str) ([] : List GParam)),true))
 (bnd (tloop (r9_Find_l1T s name) 0) fun e21_2 => elim e21_2
 (fun p21 =>
 some ((GDef.mk 0 [] ([] : List Str) ([] : List GFieldDef) ([] : List Str) ([] : List GParam)),false))
 (fun p21 =>
 some ((GDef.mk p21.1 p21.2.1 p21.2.2.1 p21.2.2.2.1 p21.2.2.2.2.1 p21.2.2.2.2.2),true)))
def r9_Find_ds : Decs := { decs := [(8,.bool),(21,(.ref shDef)),(29,(.ref shDef))],loops := [(4,[(4,6),(2,3)],⟨r9_Find_l1F,[],[(some 0,r9_Find_l1F,[]),(none,[.str,(.ptr 0 2 0),(.ptr 0 4 0),.bool,n6,n6,.str,sf,sf,sf,sf,sf,.str,.str],[])]⟩)] }
theorem r9_Find_t1 (O : Orc) (LP : LBs) (s : GSchema) (name : Str) : eW 164 r9_Find_ds Tryz.f164 O LP [(eS s),(.str name)] [] = r9_Find_T1 O LP s name := by kernel_rfl
theorem r9_Find_l1_ok (s : GSchema) (name : Str) : Lok (r9_Find_l1R s name) (r9_Find_l1T s name) (r9_Find_l1 O loopLim) (r9_Find_l1X s name) := by
 rintro i_8 l u ⟨rfl,rfl⟩
 simp only [r9_Find_l1T,r9_Find_l1,zd,zr]
 refine zG ?_
 try simp only [evs,tys]
 apply Imp.cnd
 ·refine zX encDef chk_GDef fun y10 _ => ?_
  try simp only [evs,tys]
  apply Imp.cnd
  ·refine zX encDef chk_GDef fun y12 _ => ?_
   try simp only [evs,tys]
   exact zT ⟨i_8,zE⟩
  ·exact zN
 ·exact zB ⟨i_8,zE⟩
theorem r9_Find_imp (s : GSchema) (name : Str) : Imp (r9_Find_B s name) (r9_Find_T1 O loopLim s name) (Ri r9_FindE) := by
 simp only [r9_Find_B,r9_Find_T1,zd,zr]
 try simp only [evs,tys]
 refine zC rfl fun y2 _ => ?_
 try simp only [zes,evs,tys]
 apply Imp.cnd
 ·exact zR
 ·refine zL (r9_Find_l1_ok s name) ?_
  rintro (p | ⟨b_15,b_16,b_17,b_18,b_19,b_20⟩) vy21 hy21
  ·try simp only [elim_inl,elim_inr]
   obtain ⟨i_13,rfl⟩ := hy21
   refine zH ?_
   try simp only [evs,tys]
   exact zR
  ·try simp only [elim_inl,elim_inr]
   obtain ⟨i_14,rfl⟩ := hy21
   refine Imp.exMiss rfl ?_
   refine zH ?_
   try simp only [evs,tys]
   exact zR
theorem r9_Find_run {s : GSchema} {name : Str} {r : GDef × Bool} (h : r9_Find_B s name = some r) : r9_Find s name = some r := zV r9_FindEj (r9_Find_imp s name) Tryz.func164 (r9_Find_t1 _ _ s name) h
abbrev r9_input_l1F : List Sh := [sf,sf,(.ptr 0 3 0),.bool,n6,n6,.str,.str,n6,n6,.bool,n6,n6,.str,sf,sf,sf,.str,.str]
def r9_input_l1 (O : Orc) (LP : LBs) : LBody := fun s32 s32u => cnd (chkL r9_input_l1F s32) (cnd (chkU [] s32u)
 (cnd (decide ((iv s32 5) < (iv s32 4)))
 (bnd (ix 6 (zs s32 1) (zn s32 5)) fun x38 => cnd (chk (.ref shMember) x38)
 (bnd (ix 6 (zs s32 1) (zn s32 4)) fun x40 => cnd (chk (.ref shMember) x40)
 (cnd ((sv (rf x38) 0) == (sv (rf x40) 0))
 (some (.ret,(pu (rb r9_input_l1F s32) 3 (.bool false)),[]))
 (some (.nrm,(pu (rb r9_input_l1F s32) 5 (i6 (w6 ((iv s32 5) + 1)))),[]))) none) none)
 (some (.brk 2,(rb r9_input_l1F s32),[]))) none) none
abbrev r9_input_l2F : List Sh := [sf,sf,(.ptr 0 3 0),.bool,n6,sf,.str,.str]
def r9_input_l2 (O : Orc) (LP : LBs) : LBody := fun s1 s1u => cnd (chkL r9_input_l2F s1) (cnd (chkU [] s1u)
 (cnd (decide ((iv s1 4) < (List.length (ev s1 1) : Int)))
 (bnd (ix 6 (zs s1 1) (zn s1 4)) fun x24 => cnd (chk (.ref shMember) x24)
 (callp O 193 [(zs s1 0),(zt (rf x24) 0)] fun x26 => cnd (chk (.tup [shParam,.bool]) x26)
 (cnd (!(boolV (tv x26 1)))
 (some (.ret,(pu (rb r9_input_l2F s1) 3 (.bool false)),[]))
 (bnd (ix 6 (zs s1 1) (zn s1 4)) fun x28 => cnd (chk (.ref shMember) x28)
 (callp O 192 [(.agg [(zs s1 5),(zt s1 6),(zt s1 7)]),(.agg [(zt (tg x26 0) 1),(zn (tg x26 0) 2),(zn (tg x26 0) 3)]),(.agg [(zn (rf x28) 1),(zn (rf x28) 2),(zt (rf x28) 3),(zs (rf x28) 4),(zs (rf x28) 5)]),(.bool true)] fun x30 => cnd (chk .bool x30)
 (cnd (!(boolV x30))
 (some (.ret,(pu (rb r9_input_l2F s1) 3 (.bool false)),[]))
 (bnd (LP (r9_input_l1 O LP) [(zs s1 0),(zs s1 1),(.ptr 0 3 0),(zb s1 3),(zn s1 4),(i6 0),(zt (tg x26 0) 0),(zt (tg x26 0) 1),(zn (tg x26 0) 2),(zn (tg x26 0) 3),(zb (tg x26 0) 4),(zn (tg x26 0) 5),(zn (tg x26 0) 6),(zt (tg x26 0) 7),(zs (tg x26 0) 8),(zs (tg x26 0) 9),(zs s1 5),(zt s1 6),(zt s1 7)] []) fun y44 =>
 exIs y44.1 (some 2) (cnd (chkL [sf,sf,(.ptr 0 3 0),.bool,n6,n6,.str,.str,n6,n6,.bool,n6,n6,.str,sf,sf,sf,.str,.str] y44.2.1) (cnd (chkU [] y44.2.2)
 (some (.nrm,[(zs y44.2.1 0),(zs y44.2.1 1),(.ptr 0 3 0),(zb y44.2.1 3),(i6 (w6 ((iv y44.2.1 4) + 1))),(zs y44.2.1 16),(zt y44.2.1 17),(zt y44.2.1 18)],[])) none) none)
 (exIs y44.1 none (cnd (chkL [sf,sf,(.ptr 0 3 0),.bool,n6,n6,.str,.str,n6,n6,.bool,n6,n6,.str,sf,sf,sf,.str,.str] y44.2.1) (cnd (chkU [] y44.2.2)
 (some (.ret,[(zs y44.2.1 0),(zs y44.2.1 1),(.ptr 0 3 0),(zb y44.2.1 3),(zn y44.2.1 4),(zs y44.2.1 16),(zt y44.2.1 17),(zt y44.2.1 18)],[])) none) none)
 (none)))) none) none)) none) none)
 (some (.brk 0,(rb r9_input_l2F s1),[]))) none) none
abbrev r9_input_l3F : List Sh := [sf,sf,.bool,n6,sf,.str,.str]
def r9_input_l3 (O : Orc) (LP : LBs) : LBody := fun s48 s48u => cnd (chkL r9_input_l3F s48) (cnd (chkU [] s48u)
 (cnd (decide ((iv s48 3) < (List.length (ev s48 0) : Int)))
 (bnd (ix 10 (zs s48 0) (zn s48 3)) fun x60 => cnd (chk (.ref shParam) x60)
 (callp O 219 [(zt (rf x60) 0),(zs s48 1)] fun x62 => cnd (chk (.tup [shValue,.bool]) x62)
 (cnd (!(boolV (tv x62 1)))
 (bnd (ix 10 (zs s48 0) (zn s48 3)) fun x64 => cnd (chk (.ref shParam) x64)
 (callp O 195 [(.agg [(zt (rf x64) 1),(zn (rf x64) 2),(zn (rf x64) 3)])] fun x66 => cnd (chk .bool x66)
 (cnd (boolV x66)
 (bnd (ix 10 (zs s48 0) (zn s48 3)) fun x68 => cnd (chk (.ref shParam) x68)
 (cnd (!(bv (rf x68) 4))
 (some (.ret,(pu (rb r9_input_l3F s48) 2 (.bool false)),[]))
 (some (.nrm,(pu (rb r9_input_l3F s48) 3 (i6 (w6 ((iv s48 3) + 1)))),[]))) none)
 (some (.nrm,(pu (rb r9_input_l3F s48) 3 (i6 (w6 ((iv s48 3) + 1)))),[]))) none) none)
 (some (.nrm,(pu (rb r9_input_l3F s48) 3 (i6 (w6 ((iv s48 3) + 1)))),[]))) none) none)
 (some (.brk 4,(rb r9_input_l3F s48),[]))) none) none
def r9_input_T1 (O : Orc) (LP : LBs) (s : GSchema) (l0 : List GParam) (m : List GMember) : Option (PV × UP) :=
 bnd (LP (r9_input_l2 O LP) [(zq encParam l0),(zq encMember m),(.ptr 0 3 0),(.bool false),(i6 0),(zq encDef s.defs),(.str s.query),(.str s.mutation)] []) fun y47 =>
 exIs y47.1 (some 0) (cnd (chkL r9_input_l2F y47.2.1) (cnd (chkU [] y47.2.2)
 (bnd (LP (r9_input_l3 O LP) [(zs y47.2.1 0),(zs y47.2.1 1),(zb y47.2.1 3),(i6 0),(zs y47.2.1 5),(zt y47.2.1 6),(zt y47.2.1 7)] []) fun y72 =>
 exIs y72.1 (some 4) (cnd (chkL r9_input_l3F y72.2.1) (cnd (chkU [] y72.2.2)
 (some ((.bool true),[])) none) none)
 (exIs y72.1 none (cnd (chkL r9_input_l3F y72.2.1) (cnd (chkU [] y72.2.2)
 (some ((zb y72.2.1 2),[])) none) none)
 (none))) none) none)
 (exIs y47.1 none (cnd (chkL r9_input_l2F y47.2.1) (cnd (chkU [] y47.2.2)
 (some ((zb y47.2.1 3),[])) none) none)
 (none))
noncomputable def r9_input_l1T (m : List GMember) (i_23 : Int) : Int → Option (Int ⊕ (Unit ⊕ Unit))
 | k_37 =>
 cnd (decide (k_37 < i_23))
  (bnd (nthI m k_37) fun y39 =>
  bnd (nthI m i_23) fun y41 =>
  cnd (y39.name == y41.name)
  (some (.inr (.inr ())))
  (some (.inl (IntKind.wrap .i64 (k_37 + 1)))))
  (some (.inr (.inl ())))
abbrev r9_input_l1P (s : GSchema) (l0 : List GParam) (m : List GMember) (i_23 : Int) (y27 : GParam × Bool) (a0 : PV) : List PV := [(zq encParam l0),(zq encMember m),(.ptr 0 3 0),(.bool false),(i6 i_23),a0,(.str y27.1.name),(.str y27.1.t.name),(i6 y27.1.t.lists),(i6 y27.1.t.musts),(.bool y27.1.has),(i6 y27.1.default.kind),(i6 y27.1.default.n),(.str y27.1.default.s),(zq encValue y27.1.default.l),(zq encMember y27.1.default.m),(zq encDef s.defs),(.str s.query),(.str s.mutation)]
abbrev r9_input_l1R (s : GSchema) (l0 : List GParam) (m : List GMember) (i_23 : Int) (y27 : GParam × Bool) (st : Int) (l : List PV) (u : UP) : Prop := l = (r9_input_l1P s l0 m i_23 y27 (i6 st)) ∧ u = []
abbrev r9_input_l1X (s : GSchema) (l0 : List GParam) (m : List GMember) (i_23 : Int) (y27 : GParam × Bool) (p : Unit ⊕ Unit) (r : EU) : Prop := elim p (fun (p : Unit) => ∃ (k_42 : Int),r = (Ex.brk 2,(r9_input_l1P s l0 m i_23 y27 (i6 k_42)),[])) (fun (p : Unit) => ∃ (k_43 : Int),r = (Ex.ret,(r9_input_l1P s l0 m i_23 y27 (i6 k_43)),[]))
noncomputable def r9_input_l2T (s : GSchema) (l0 : List GParam) (m : List GMember) : Int → Option (Int ⊕ (Unit ⊕ Unit))
 | i_23 =>
 cnd (decide (i_23 < (List.length m : Int)))
  (bnd (nthI m i_23) fun y25 =>
  bnd (r9_Param l0 y25.name) fun y27 =>
  cnd (!y27.2)
  (some (.inr (.inr ())))
  (bnd (nthI m i_23) fun y29 =>
  bnd (r9_right s y27.1.t y29.v true) fun y31 =>
  cnd (!y31)
   (some (.inr (.inr ())))
   (bnd (tloop (r9_input_l1T m i_23) 0) fun e44_2 => elim e44_2
   (fun p44 =>
   some (.inl (IntKind.wrap .i64 (i_23 + 1))))
   (fun p44 =>
   some (.inr (.inr ()))))))
  (some (.inr (.inl ())))
abbrev r9_input_l2P (s : GSchema) (l0 : List GParam) (m : List GMember) (a0 : PV) : List PV := [(zq encParam l0),(zq encMember m),(.ptr 0 3 0),(.bool false),a0,(zq encDef s.defs),(.str s.query),(.str s.mutation)]
abbrev r9_input_l2R (s : GSchema) (l0 : List GParam) (m : List GMember) (st : Int) (l : List PV) (u : UP) : Prop := l = (r9_input_l2P s l0 m (i6 st)) ∧ u = []
abbrev r9_input_l2X (s : GSchema) (l0 : List GParam) (m : List GMember) (p : Unit ⊕ Unit) (r : EU) : Prop := elim p (fun (p : Unit) => ∃ (i_45 : Int),r = (Ex.brk 0,(r9_input_l2P s l0 m (i6 i_45)),[])) (fun (p : Unit) => ∃ (i_46 : Int),r = (Ex.ret,(r9_input_l2P s l0 m (i6 i_46)),[]))
noncomputable def r9_input_l3T (l0 : List GParam) (m : List GMember) : Int → Option (Int ⊕ (Unit ⊕ Unit))
 | i_59 =>
 cnd (decide (i_59 < (List.length l0 : Int)))
  (bnd (nthI l0 i_59) fun y61 =>
  bnd (r1_Get y61.name m) fun y63 =>
  cnd (!y63.2)
  (bnd (nthI l0 i_59) fun y65 =>
  bnd (r1_Is y65.t) fun y67 =>
  cnd y67
   (bnd (nthI l0 i_59) fun y69 =>
   cnd (!y69.has)
   (some (.inr (.inr ())))
   (some (.inl (IntKind.wrap .i64 (i_59 + 1)))))
   (some (.inl (IntKind.wrap .i64 (i_59 + 1)))))
  (some (.inl (IntKind.wrap .i64 (i_59 + 1)))))
  (some (.inr (.inl ())))
abbrev r9_input_l3P (s : GSchema) (l0 : List GParam) (m : List GMember) (a0 : PV) : List PV := [(zq encParam l0),(zq encMember m),(.bool false),a0,(zq encDef s.defs),(.str s.query),(.str s.mutation)]
abbrev r9_input_l3R (s : GSchema) (l0 : List GParam) (m : List GMember) (st : Int) (l : List PV) (u : UP) : Prop := l = (r9_input_l3P s l0 m (i6 st)) ∧ u = []
abbrev r9_input_l3X (s : GSchema) (l0 : List GParam) (m : List GMember) (p : Unit ⊕ Unit) (r : EU) : Prop := elim p (fun (p : Unit) => ∃ (i_70 : Int),r = (Ex.brk 4,(r9_input_l3P s l0 m (i6 i_70)),[])) (fun (p : Unit) => ∃ (i_71 : Int),r = (Ex.ret,(r9_input_l3P s l0 m (i6 i_71)),[]))
noncomputable def r9_input_B (s : GSchema) (l0 : List GParam) (m : List GMember) : Option Bool :=
 bnd (tloop (r9_input_l2T s l0 m) 0) fun e47_2 => elim e47_2
 (fun p47 =>
 bnd (tloop (r9_input_l3T l0 m) 0) fun e72_2 => elim e72_2
 (fun p72 =>
 some true)
 (fun p72 =>
 some false))
 (fun p47 =>
 some false)
def r9_input_ds : Decs := { decs := [(24,(.ref shMember)),(27,(.tup [shParam,.bool])),(38,(.ref shMember)),(41,.bool),(51,(.ref shMember)),(56,(.ref shMember)),(69,(.ref shParam)),(73,(.tup [shValue,.bool])),(81,(.ref shParam)),(84,.bool),(89,(.ref shParam))],loops := [(2,[(3,3)],⟨r9_input_l2F,[],[(some 0,r9_input_l2F,[]),(none,r9_input_l2F,[])]⟩),(8,[(8,10),(3,3)],⟨r9_input_l1F,[],[(some 2,r9_input_l1F,[]),(none,r9_input_l1F,[])]⟩),(13,[(3,3)],⟨r9_input_l3F,[],[(some 4,r9_input_l3F,[]),(none,r9_input_l3F,[])]⟩)] }
theorem r9_input_t1 (O : Orc) (LP : LBs) (s : GSchema) (l0 : List GParam) (m : List GMember) : eW 225 r9_input_ds Tryz.f225 O LP [(eS s),(zq encParam l0),(zq encMember m)] [] = r9_input_T1 O LP s l0 m := by kernel_rfl
theorem r9_input_l1_ok (s : GSchema) (l0 : List GParam) (m : List GMember) (i_23 : Int) (y27 : GParam × Bool) : ∀ st l u,r9_input_l1R s l0 m i_23 y27 st l u → Imp (r9_input_l1T m i_23 st) (r9_input_l1 O loopLim l u) (StepR (r9_input_l1R s l0 m i_23 y27) (r9_input_l1X s l0 m i_23 y27)) := by
 rintro k_37 l u ⟨rfl,rfl⟩
 simp only [r9_input_l1T,r9_input_l1,zd,zr]
 refine zG ?_
 try simp only [evs,tys]
 apply Imp.cnd
 ·refine zX encMember chk_GMember fun y39 _ => ?_
  try simp only [evs,tys]
  refine zX encMember chk_GMember fun y41 _ => ?_
  try simp only [evs,tys]
  apply Imp.cnd
  ·exact zT ⟨k_37,zE⟩
  ·exact zN
 ·exact zB ⟨k_37,zE⟩
theorem r9_input_l2_ok (s : GSchema) (l0 : List GParam) (m : List GMember) : Lok (r9_input_l2R s l0 m) (r9_input_l2T s l0 m) (r9_input_l2 O loopLim) (r9_input_l2X s l0 m) := by
 rintro i_23 l u ⟨rfl,rfl⟩
 simp only [r9_input_l2T,r9_input_l2,zd,zr]
 refine zG ?_
 try simp only [evs,tys]
 apply Imp.cnd
 ·refine zX encMember chk_GMember fun y25 _ => ?_
  try simp only [evs,tys]
  refine zC rfl fun y27 _ => ?_
  try simp only [zes,evs,tys]
  apply Imp.cnd
  ·exact zT ⟨i_23,zE⟩
  ·refine zX encMember chk_GMember fun y29 _ => ?_
   try simp only [evs,tys]
   refine zC rfl fun y31 _ => ?_
   try simp only [zes,evs,tys]
   apply Imp.cnd
   ·exact zT ⟨i_23,zE⟩
   ·refine zL (r9_input_l1_ok s l0 m i_23 y27) ?_
    rintro (p | p) vy44 hy44
    ·try simp only [elim_inl,elim_inr]
     obtain ⟨k_42,rfl⟩ := hy44
     refine zH ?_
     try simp only [evs,tys]
     exact zN
    ·try simp only [elim_inl,elim_inr]
     obtain ⟨k_43,rfl⟩ := hy44
     refine Imp.exMiss rfl ?_
     refine zH ?_
     try simp only [evs,tys]
     exact zT ⟨i_23,zE⟩
 ·exact zB ⟨i_23,zE⟩
theorem r9_input_l3_ok (s : GSchema) (l0 : List GParam) (m : List GMember) : ∀ st l u,r9_input_l3R s l0 m st l u → Imp (r9_input_l3T l0 m st) (r9_input_l3 O loopLim l u) (StepR (r9_input_l3R s l0 m) (r9_input_l3X s l0 m)) := by
 rintro i_59 l u ⟨rfl,rfl⟩
 simp only [r9_input_l3T,r9_input_l3,zd,zr]
 refine zG ?_
 try simp only [evs,tys]
 apply Imp.cnd
 ·refine zX encParam chk_GParam fun y61 _ => ?_
  try simp only [evs,tys]
  refine zC rfl fun y63 _ => ?_
  try simp only [zes,evs,tys]
  apply Imp.cnd
  ·refine zX encParam chk_GParam fun y65 _ => ?_
   try simp only [evs,tys]
   refine zC rfl fun y67 _ => ?_
   try simp only [zes,evs,tys]
   apply Imp.cnd
   ·refine zX encParam chk_GParam fun y69 _ => ?_
    try simp only [evs,tys]
    apply Imp.cnd
    ·exact zT ⟨i_59,zE⟩
    ·exact zN
   ·exact zN
  ·exact zN
 ·exact zB ⟨i_59,zE⟩
theorem r9_input_imp (s : GSchema) (l0 : List GParam) (m : List GMember) : Imp (r9_input_B s l0 m) (r9_input_T1 O loopLim s l0 m) (Ri s6_ArgsRulesE) := by
 simp only [r9_input_B,r9_input_T1,zd,zr]
 try simp only [evs,tys]
 refine zL (r9_input_l2_ok s l0 m) ?_
 rintro (p | p) vy47 hy47
 ·try simp only [elim_inl,elim_inr]
  obtain ⟨i_45,rfl⟩ := hy47
  refine zH ?_
  try simp only [evs,tys]
  refine zL (r9_input_l3_ok s l0 m) ?_
  rintro (p | p) vy72 hy72
  ·try simp only [elim_inl,elim_inr]
   obtain ⟨i_70,rfl⟩ := hy72
   refine zH ?_
   try simp only [evs,tys]
   exact zR
  ·try simp only [elim_inl,elim_inr]
   obtain ⟨i_71,rfl⟩ := hy72
   refine Imp.exMiss rfl ?_
   refine zH ?_
   try simp only [evs,tys]
   exact zR
 ·try simp only [elim_inl,elim_inr]
  obtain ⟨i_46,rfl⟩ := hy47
  refine Imp.exMiss rfl ?_
  refine zH ?_
  try simp only [evs,tys]
  exact zR
theorem r9_input_run {s : GSchema} {l0 : List GParam} {m : List GMember} {r : Bool} (h : r9_input_B s l0 m = some r) : r9_input s l0 m = some r := zV s6_ArgsRulesEj (r9_input_imp s l0 m) Tryz.func225 (r9_input_t1 _ _ s l0 m) h
def r1_run_l1 (O : Orc) (LP : LBs) : LBody := fun s1 s1u => cnd (chkL [.str,n6,n6] s1) (cnd (chkU [] s1u)
 (cnd (decide ((w6 ((iv s1 1) + (iv s1 2))) < (List.length (sv s1 0) : Int)))
 (bnd (ixStr (zt s1 0) (i6 (w6 ((iv s1 1) + (iv s1 2))))) fun x7 => cnd (chk (.int .u8) x7)
 (callp O 170 [(.int .u8 (intV x7))] fun x9 => cnd (chk .bool x9)
 (cnd (boolV x9)
 (some (.nrm,[(zt s1 0),(zn s1 1),(i6 (w6 ((iv s1 2) + 1)))],[]))
 (some (.brk 0,[(zt s1 0),(zn s1 1),(zn s1 2)],[]))) none) none)
 (some (.brk 0,[(zt s1 0),(zn s1 1),(zn s1 2)],[]))) none) none
def r1_run_T1 (O : Orc) (LP : LBs) (s : Str) (i : Int) : Option (PV × UP) :=
 bnd (LP (r1_run_l1 O LP) [(.str s),(i6 i),(i6 0)] []) fun y12 =>
 exIs y12.1 (some 0) (cnd (chkL [.str,n6,n6] y12.2.1) (cnd (chkU [] y12.2.2)
 (some ((zn y12.2.1 2),[])) none) none)
 (none)
noncomputable def r1_run_l1T (s : Str) (i : Int) : Int → Option (Int ⊕ Int)
 | n_6 =>
 cnd (decide ((IntKind.wrap .i64 (i + n_6)) < (List.length s : Int)))
  (bnd (nthI s (IntKind.wrap .i64 (i + n_6))) fun y8 =>
  bnd (r1_digit (y8.toNat : Int)) fun y10 =>
  cnd y10
  (some (.inl (IntKind.wrap .i64 (n_6 + 1))))
  (some (.inr n_6)))
  (some (.inr n_6))
abbrev r1_run_l1R (s : Str) (i : Int) (st : Int) (l : List PV) (u : UP) : Prop := l = [(.str s),(i6 i),(i6 st)] ∧ u = []
abbrev r1_run_l1X (s : Str) (i : Int) (p : Int) (r : EU) : Prop := (fun (p : Int) => r = (Ex.brk 0,[(.str s),(i6 i),(i6 p)],[])) p
noncomputable def r1_run_B (s : Str) (i : Int) : Option Int :=
 bnd (tloop (r1_run_l1T s i) 0) fun n_11 =>
 some n_11
def r1_run_ds : Decs := { decs := [(17,(.int .u8)),(18,.bool)],loops := [(2,[],⟨[.str,n6,n6],[],[(some 0,[.str,n6,n6],[])]⟩)] }
theorem r1_run_t1 (O : Orc) (LP : LBs) (s : Str) (i : Int) : eW 250 r1_run_ds Tryz.f250 O LP [(.str s),(i6 i)] [] = r1_run_T1 O LP s i := by kernel_rfl
theorem r1_run_l1_ok (s : Str) (i : Int) : Lok (r1_run_l1R s i) (r1_run_l1T s i) (r1_run_l1 O loopLim) (r1_run_l1X s i) := by
 rintro n_6 l u ⟨rfl,rfl⟩
 simp only [r1_run_l1T,r1_run_l1,zd,zr]
 refine zG ?_
 try simp only [evs,tys]
 apply Imp.cnd
 ·refine Imp.op (f := fun a => .int .u8 (a.toNat : Int)) (fun a h => op_ixStr h) (fun a => rfl) fun y8 hy8 => ?_
  try simp only [evs,tys]
  refine zC rfl fun y10 _ => ?_
  try simp only [zes,evs,tys]
  apply Imp.cnd
  ·exact zN
  ·exact Imp.some (StepR.brk zE)
 ·exact Imp.some (StepR.brk zE)
theorem r1_run_imp (s : Str) (i : Int) : Imp (r1_run_B s i) (r1_run_T1 O loopLim s i) (Ri r9_CheckE) := by
 simp only [r1_run_B,r1_run_T1,zd,zr]
 try simp only [evs,tys]
 refine zL (r1_run_l1_ok s i) ?_
 rintro n_11 vy12 hy12
 cases hy12
 refine zH ?_
 try simp only [evs,tys]
 exact zR
theorem r1_run_run {s : Str} {i : Int} {r : Int} (h : r1_run_B s i = some r) : r1_run s i = some r := zV r9_CheckEj (r1_run_imp s i) Tryz.func250 (r1_run_t1 _ _ s i) h
end Go.Proofs.YtphmfillajagdaaGreat

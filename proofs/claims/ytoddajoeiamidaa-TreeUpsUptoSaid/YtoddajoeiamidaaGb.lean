import Derived.Test.YtoddajoeiamidaaGa
set_option linter.unusedVariables false
set_option linter.unusedSimpArgs false
/- Printed by symgen.py: typed functions of this seat, and why they tell what the program does. -/
set_option linter.unusedVariables false
set_option linter.unusedSimpArgs false
open Go Go.Ev Go.Ev.PV
namespace Go.Proofs.Ytoddajoeiamidaa
def seinelaw18_UsageAllows_T1 (O : Orc) (LP : LBody → LBody) (v0 : GVarDef) (t : GType) (has0 : Bool) : Option (PV × UP) :=
  callp O 9 [(.agg [(.int .i64 v0.default.kind), (.int .i64 v0.default.n), (.str v0.default.s), (.slice (List.map encValue v0.default.l) [] false), (.slice (List.map encMember v0.default.m) [] false)])] fun x1 => cnd (chk (.int .i64) x1)
  (cnd (decide ((IntKind.wrap .i64 ((IntKind.wrap .i64 ((IntKind.wrap .i64 ((List.length v0.name : Int) + (List.length v0.t.name : Int))) + (List.length t.name : Int))) + (intV x1))) > 3000))
   (callp O 10 [] fun x3 => cnd (chk .bool x3)
   (some ((.bool (boolV x3)), [])) none)
   (callp O 11 [(.agg [(.str v0.name), (.str v0.t.name), (.int .i64 v0.t.lists), (.int .i64 v0.t.musts), (.bool v0.has), (.int .i64 v0.default.kind), (.int .i64 v0.default.n), (.str v0.default.s), (.slice (List.map encValue v0.default.l) [] false), (.slice (List.map encMember v0.default.m) [] false)]), (.agg [(.str t.name), (.int .i64 t.lists), (.int .i64 t.musts)]), (.bool has0)] fun x5 => cnd (chk .bool x5)
   (callp O 12 [(.agg [(.str v0.name), (.str v0.t.name), (.int .i64 v0.t.lists), (.int .i64 v0.t.musts), (.bool v0.has), (.int .i64 v0.default.kind), (.int .i64 v0.default.n), (.str v0.default.s), (.slice (List.map encValue v0.default.l) [] false), (.slice (List.map encMember v0.default.m) [] false)]), (.agg [(.str t.name), (.int .i64 t.lists), (.int .i64 t.musts)]), (.bool has0)] fun x7 => cnd (chk .bool x7)
   (cnd ((boolV x5) == (boolV x7))
    (callp O 11 [(.agg [(.str v0.name), (.str v0.t.name), (.int .i64 v0.t.lists), (.int .i64 v0.t.musts), (.bool v0.has), (.int .i64 v0.default.kind), (.int .i64 v0.default.n), (.str v0.default.s), (.slice (List.map encValue v0.default.l) [] false), (.slice (List.map encMember v0.default.m) [] false)]), (.agg [(.str t.name), (.int .i64 t.lists), (.int .i64 t.musts)]), (.bool false)] fun x9 => cnd (chk .bool x9)
    (cnd (!(boolV x9))
     (callp O 10 [] fun x11 => cnd (chk .bool x11)
     (some ((.bool (boolV x11)), [])) none)
     (callp O 11 [(.agg [(.str v0.name), (.str v0.t.name), (.int .i64 v0.t.lists), (.int .i64 v0.t.musts), (.bool v0.has), (.int .i64 v0.default.kind), (.int .i64 v0.default.n), (.str v0.default.s), (.slice (List.map encValue v0.default.l) [] false), (.slice (List.map encMember v0.default.m) [] false)]), (.agg [(.str t.name), (.int .i64 t.lists), (.int .i64 t.musts)]), (.bool true)] fun x13 => cnd (chk .bool x13)
     (cnd (boolV x13)
      (callp O 10 [] fun x15 => cnd (chk .bool x15)
      (some ((.bool (boolV x15)), [])) none)
      (some ((.bool false), []))) none)) none)
    (some ((.bool false), []))) none) none)) none
noncomputable def seinelaw18_UsageAllows_B (v0 : GVarDef) (t : GType) (has0 : Bool) : Option Bool :=
  bnd (seinekeep_Size v0.default) fun y2 =>
  cnd (decide ((IntKind.wrap .i64 ((IntKind.wrap .i64 ((IntKind.wrap .i64 ((List.length v0.name : Int) + (List.length v0.t.name : Int))) + (List.length t.name : Int))) + y2)) > 3000))
   (bnd (seinelaw18_awake) fun y4 =>
   some y4)
   (bnd (usage_Allowed v0 t has0) fun y6 =>
   bnd (seineref13_Allowed v0 t has0) fun y8 =>
   cnd (y6 == y8)
    (bnd (usage_Allowed v0 t false) fun y10 =>
    cnd (!y10)
     (bnd (seinelaw18_awake) fun y12 =>
     some y12)
     (bnd (usage_Allowed v0 t true) fun y14 =>
     cnd y14
      (bnd (seinelaw18_awake) fun y16 =>
      some y16)
      (some false)))
    (some false))
def seinelaw18_UsageAllows_ds : Decs := { decs := [(21, (.int .i64)), (24, .bool), (28, .bool), (32, .bool), (37, .bool), (42, .bool), (46, .bool)], loops := [] }
set_option maxRecDepth 100000 in
theorem seinelaw18_UsageAllows_t1 (O : Orc) (LP : LBody → LBody) (v0 : GVarDef) (t : GType) (has0 : Bool) : evalBodyD Try.prog (MT 3) seinelaw18_UsageAllows_ds Try.f3.ntmps O LP Try.f3 [(.agg [(.str v0.name), (.str v0.t.name), (.int .i64 v0.t.lists), (.int .i64 v0.t.musts), (.bool v0.has), (.int .i64 v0.default.kind), (.int .i64 v0.default.n), (.str v0.default.s), (.slice (List.map encValue v0.default.l) [] false), (.slice (List.map encMember v0.default.m) [] false)]), (.agg [(.str t.name), (.int .i64 t.lists), (.int .i64 t.musts)]), (.bool has0)] [] = seinelaw18_UsageAllows_T1 O LP v0 t has0 := by kernel_rfl
theorem seinelaw18_UsageAllows_imp (v0 : GVarDef) (t : GType) (has0 : Bool) : Imp (seinelaw18_UsageAllows_B v0 t has0) (seinelaw18_UsageAllows_T1 O loopLim v0 t has0) (fun r v => v = (seinelaw18_UsageAllowsE r, [])) := by
  simp only [seinelaw18_UsageAllows_B, seinelaw18_UsageAllows_T1]
  try simp only [evs, tys]
  refine Imp.call (f := seinekeep_SizeE) rfl (fun a h => by first | exact seinekeep_Size_spec h | simpa only [evs, tys, evl] using seinekeep_Size_spec h) (fun a => by first | rfl | simp only [seinekeep_SizeE, evk, chks]) fun y2 hy2 => ?_
  try simp only [seinekeep_SizeE, evs, tys]
  refine Imp.cnd ?_ ?_
  · refine Imp.call (f := seinelaw18_awakeE) rfl (fun a h => by first | exact seinelaw18_awake_spec h | simpa only [evs, tys, evl] using seinelaw18_awake_spec h) (fun a => by first | rfl | simp only [seinelaw18_awakeE, evk, chks]) fun y4 hy4 => ?_
    try simp only [seinelaw18_awakeE, evs, tys]
    exact Imp.some (by first | rfl | simp only [seinelaw18_UsageAllowsE, evs, tys, evl])
  · refine Imp.call (f := usage_AllowedE) rfl (fun a h => by first | exact usage_Allowed_spec h | simpa only [evs, tys, evl] using usage_Allowed_spec h) (fun a => by first | rfl | simp only [usage_AllowedE, evk, chks]) fun y6 hy6 => ?_
    try simp only [usage_AllowedE, evs, tys]
    refine Imp.call (f := seineref13_AllowedE) rfl (fun a h => by first | exact seineref13_Allowed_spec h | simpa only [evs, tys, evl] using seineref13_Allowed_spec h) (fun a => by first | rfl | simp only [seineref13_AllowedE, evk, chks]) fun y8 hy8 => ?_
    try simp only [seineref13_AllowedE, evs, tys]
    refine Imp.cnd ?_ ?_
    · refine Imp.call (f := usage_AllowedE) rfl (fun a h => by first | exact usage_Allowed_spec h | simpa only [evs, tys, evl] using usage_Allowed_spec h) (fun a => by first | rfl | simp only [usage_AllowedE, evk, chks]) fun y10 hy10 => ?_
      try simp only [usage_AllowedE, evs, tys]
      refine Imp.cnd ?_ ?_
      · refine Imp.call (f := seinelaw18_awakeE) rfl (fun a h => by first | exact seinelaw18_awake_spec h | simpa only [evs, tys, evl] using seinelaw18_awake_spec h) (fun a => by first | rfl | simp only [seinelaw18_awakeE, evk, chks]) fun y12 hy12 => ?_
        try simp only [seinelaw18_awakeE, evs, tys]
        exact Imp.some (by first | rfl | simp only [seinelaw18_UsageAllowsE, evs, tys, evl])
      · refine Imp.call (f := usage_AllowedE) rfl (fun a h => by first | exact usage_Allowed_spec h | simpa only [evs, tys, evl] using usage_Allowed_spec h) (fun a => by first | rfl | simp only [usage_AllowedE, evk, chks]) fun y14 hy14 => ?_
        try simp only [usage_AllowedE, evs, tys]
        refine Imp.cnd ?_ ?_
        · refine Imp.call (f := seinelaw18_awakeE) rfl (fun a h => by first | exact seinelaw18_awake_spec h | simpa only [evs, tys, evl] using seinelaw18_awake_spec h) (fun a => by first | rfl | simp only [seinelaw18_awakeE, evk, chks]) fun y16 hy16 => ?_
          try simp only [seinelaw18_awakeE, evs, tys]
          exact Imp.some (by first | rfl | simp only [seinelaw18_UsageAllowsE, evs, tys, evl])
        · exact Imp.some (by first | rfl | simp only [seinelaw18_UsageAllowsE, evs, tys, evl])
    · exact Imp.some (by first | rfl | simp only [seinelaw18_UsageAllowsE, evs, tys, evl])
theorem seinelaw18_UsageAllows_run {v0 : GVarDef} {t : GType} {has0 : Bool} {r : Bool} (h : seinelaw18_UsageAllows_B v0 t has0 = some r) : seinelaw18_UsageAllows v0 t has0 = some r := by
  obtain ⟨v, hv, rfl⟩ := seinelaw18_UsageAllows_imp v0 t has0 r h
  exact tO_of (pair_inj seinelaw18_UsageAllowsEj) (OL_runD seinelaw18_UsageAllows_ds rfl Try.func3 ((seinelaw18_UsageAllows_t1 _ _ v0 t has0).trans hv))

def seinelaw18_UsageOwn_T1 (O : Orc) (LP : LBody → LBody) (v0 : GVarDef) (has0 : Bool) : Option (PV × UP) :=
  callp O 9 [(.agg [(.int .i64 v0.default.kind), (.int .i64 v0.default.n), (.str v0.default.s), (.slice (List.map encValue v0.default.l) [] false), (.slice (List.map encMember v0.default.m) [] false)])] fun x1 => cnd (chk (.int .i64) x1)
  (cnd (decide ((IntKind.wrap .i64 ((IntKind.wrap .i64 ((List.length v0.name : Int) + (List.length v0.t.name : Int))) + (intV x1))) > 3000))
   (callp O 10 [] fun x3 => cnd (chk .bool x3)
   (some ((.bool (boolV x3)), [])) none)
   (callp O 13 [(.agg [(.str v0.t.name), (.int .i64 v0.t.lists), (.int .i64 v0.t.musts)])] fun x5 => cnd (chk .bool x5)
   (callp O 14 [(.agg [(.str v0.t.name), (.int .i64 v0.t.lists), (.int .i64 v0.t.musts)])] fun x7 => cnd (chk shType x7)
   (callp O 11 [(.agg [(.str v0.name), (.str v0.t.name), (.int .i64 v0.t.lists), (.int .i64 v0.t.musts), (.bool v0.has), (.int .i64 v0.default.kind), (.int .i64 v0.default.n), (.str v0.default.s), (.slice (List.map encValue v0.default.l) [] false), (.slice (List.map encMember v0.default.m) [] false)]), (.agg [(.str v0.t.name), (.int .i64 v0.t.lists), (.int .i64 v0.t.musts)]), (.bool has0)] fun x9 => cnd (chk .bool x9)
   (cnd ((boolV x9) == (boolV x5))
    (callp O 15 [(.agg [(.str v0.t.name), (.int .i64 v0.t.lists), (.int .i64 v0.t.musts)])] fun x11 => cnd (chk shType x11)
    (callp O 11 [(.agg [(.str v0.name), (.str (strV (gt (aggV x7) 0))), (.int .i64 (intV (gt (aggV x7) 1))), (.int .i64 (intV (gt (aggV x7) 2))), (.bool v0.has), (.int .i64 v0.default.kind), (.int .i64 v0.default.n), (.str v0.default.s), (.slice (List.map encValue v0.default.l) [] false), (.slice (List.map encMember v0.default.m) [] false)]), (.agg [(.str (strV (gt (aggV x11) 0))), (.int .i64 (intV (gt (aggV x11) 1))), (.int .i64 (intV (gt (aggV x11) 2)))]), (.bool has0)] fun x13 => cnd (chk .bool x13)
    (cnd ((boolV x13) == (boolV x5))
     (callp O 14 [(.agg [(.str v0.t.name), (.int .i64 v0.t.lists), (.int .i64 v0.t.musts)])] fun x15 => cnd (chk shType x15)
     (callp O 11 [(.agg [(.str v0.name), (.str (strV (gt (aggV x7) 0))), (.int .i64 (intV (gt (aggV x7) 1))), (.int .i64 (intV (gt (aggV x7) 2))), (.bool v0.has), (.int .i64 v0.default.kind), (.int .i64 v0.default.n), (.str v0.default.s), (.slice (List.map encValue v0.default.l) [] false), (.slice (List.map encMember v0.default.m) [] false)]), (.agg [(.str (strV (gt (aggV x15) 0))), (.int .i64 (intV (gt (aggV x15) 1))), (.int .i64 (intV (gt (aggV x15) 2)))]), (.bool has0)] fun x17 => cnd (chk .bool x17)
     (cnd ((boolV x17) == (boolV x5))
      (callp O 10 [] fun x19 => cnd (chk .bool x19)
      (some ((.bool (boolV x19)), [])) none)
      (some ((.bool false), []))) none) none)
     (some ((.bool false), []))) none) none)
    (some ((.bool false), []))) none) none) none)) none
noncomputable def seinelaw18_UsageOwn_B (v0 : GVarDef) (has0 : Bool) : Option Bool :=
  bnd (seinekeep_Size v0.default) fun y2 =>
  cnd (decide ((IntKind.wrap .i64 ((IntKind.wrap .i64 ((List.length v0.name : Int) + (List.length v0.t.name : Int))) + y2)) > 3000))
   (bnd (seinelaw18_awake) fun y4 =>
   some y4)
   (bnd (wrap_Right v0.t) fun y6 =>
   bnd (wrap_Must v0.t) fun y8 =>
   bnd (usage_Allowed v0 v0.t has0) fun y10 =>
   cnd (y10 == y6)
    (bnd (wrap_Bare v0.t) fun y12 =>
    bnd (usage_Allowed (GVarDef.mk v0.name y8 v0.has v0.default) y12 has0) fun y14 =>
    cnd (y14 == y6)
     (bnd (wrap_Must v0.t) fun y16 =>
     bnd (usage_Allowed (GVarDef.mk v0.name y8 v0.has v0.default) y16 has0) fun y18 =>
     cnd (y18 == y6)
      (bnd (seinelaw18_awake) fun y20 =>
      some y20)
      (some false))
     (some false))
    (some false))
def seinelaw18_UsageOwn_ds : Decs := { decs := [(17, (.int .i64)), (20, .bool), (23, .bool), (27, shType), (33, .bool), (40, shType), (42, .bool), (50, shType), (52, .bool), (57, .bool)], loops := [] }
set_option maxRecDepth 100000 in
theorem seinelaw18_UsageOwn_t1 (O : Orc) (LP : LBody → LBody) (v0 : GVarDef) (has0 : Bool) : evalBodyD Try.prog (MT 4) seinelaw18_UsageOwn_ds Try.f4.ntmps O LP Try.f4 [(.agg [(.str v0.name), (.str v0.t.name), (.int .i64 v0.t.lists), (.int .i64 v0.t.musts), (.bool v0.has), (.int .i64 v0.default.kind), (.int .i64 v0.default.n), (.str v0.default.s), (.slice (List.map encValue v0.default.l) [] false), (.slice (List.map encMember v0.default.m) [] false)]), (.bool has0)] [] = seinelaw18_UsageOwn_T1 O LP v0 has0 := by kernel_rfl
theorem seinelaw18_UsageOwn_imp (v0 : GVarDef) (has0 : Bool) : Imp (seinelaw18_UsageOwn_B v0 has0) (seinelaw18_UsageOwn_T1 O loopLim v0 has0) (fun r v => v = (seinelaw18_UsageOwnE r, [])) := by
  simp only [seinelaw18_UsageOwn_B, seinelaw18_UsageOwn_T1]
  try simp only [evs, tys]
  refine Imp.call (f := seinekeep_SizeE) rfl (fun a h => by first | exact seinekeep_Size_spec h | simpa only [evs, tys, evl] using seinekeep_Size_spec h) (fun a => by first | rfl | simp only [seinekeep_SizeE, evk, chks]) fun y2 hy2 => ?_
  try simp only [seinekeep_SizeE, evs, tys]
  refine Imp.cnd ?_ ?_
  · refine Imp.call (f := seinelaw18_awakeE) rfl (fun a h => by first | exact seinelaw18_awake_spec h | simpa only [evs, tys, evl] using seinelaw18_awake_spec h) (fun a => by first | rfl | simp only [seinelaw18_awakeE, evk, chks]) fun y4 hy4 => ?_
    try simp only [seinelaw18_awakeE, evs, tys]
    exact Imp.some (by first | rfl | simp only [seinelaw18_UsageOwnE, evs, tys, evl])
  · refine Imp.call (f := wrap_RightE) rfl (fun a h => by first | exact wrap_Right_spec h | simpa only [evs, tys, evl] using wrap_Right_spec h) (fun a => by first | rfl | simp only [wrap_RightE, evk, chks]) fun y6 hy6 => ?_
    try simp only [wrap_RightE, evs, tys]
    refine Imp.call (f := wrap_MustE) rfl (fun a h => by first | exact wrap_Must_spec h | simpa only [evs, tys, evl] using wrap_Must_spec h) (fun a => by first | rfl | simp only [wrap_MustE, evk, chks]) fun y8 hy8 => ?_
    try simp only [wrap_MustE, evs, tys]
    refine Imp.call (f := usage_AllowedE) rfl (fun a h => by first | exact usage_Allowed_spec h | simpa only [evs, tys, evl] using usage_Allowed_spec h) (fun a => by first | rfl | simp only [usage_AllowedE, evk, chks]) fun y10 hy10 => ?_
    try simp only [usage_AllowedE, evs, tys]
    refine Imp.cnd ?_ ?_
    · refine Imp.call (f := wrap_BareE) rfl (fun a h => by first | exact wrap_Bare_spec h | simpa only [evs, tys, evl] using wrap_Bare_spec h) (fun a => by first | rfl | simp only [wrap_BareE, evk, chks]) fun y12 hy12 => ?_
      try simp only [wrap_BareE, evs, tys]
      refine Imp.call (f := usage_AllowedE) rfl (fun a h => by first | exact usage_Allowed_spec h | simpa only [evs, tys, evl] using usage_Allowed_spec h) (fun a => by first | rfl | simp only [usage_AllowedE, evk, chks]) fun y14 hy14 => ?_
      try simp only [usage_AllowedE, evs, tys]
      refine Imp.cnd ?_ ?_
      · refine Imp.call (f := wrap_MustE) rfl (fun a h => by first | exact wrap_Must_spec h | simpa only [evs, tys, evl] using wrap_Must_spec h) (fun a => by first | rfl | simp only [wrap_MustE, evk, chks]) fun y16 hy16 => ?_
        try simp only [wrap_MustE, evs, tys]
        refine Imp.call (f := usage_AllowedE) rfl (fun a h => by first | exact usage_Allowed_spec h | simpa only [evs, tys, evl] using usage_Allowed_spec h) (fun a => by first | rfl | simp only [usage_AllowedE, evk, chks]) fun y18 hy18 => ?_
        try simp only [usage_AllowedE, evs, tys]
        refine Imp.cnd ?_ ?_
        · refine Imp.call (f := seinelaw18_awakeE) rfl (fun a h => by first | exact seinelaw18_awake_spec h | simpa only [evs, tys, evl] using seinelaw18_awake_spec h) (fun a => by first | rfl | simp only [seinelaw18_awakeE, evk, chks]) fun y20 hy20 => ?_
          try simp only [seinelaw18_awakeE, evs, tys]
          exact Imp.some (by first | rfl | simp only [seinelaw18_UsageOwnE, evs, tys, evl])
        · exact Imp.some (by first | rfl | simp only [seinelaw18_UsageOwnE, evs, tys, evl])
      · exact Imp.some (by first | rfl | simp only [seinelaw18_UsageOwnE, evs, tys, evl])
    · exact Imp.some (by first | rfl | simp only [seinelaw18_UsageOwnE, evs, tys, evl])
theorem seinelaw18_UsageOwn_run {v0 : GVarDef} {has0 : Bool} {r : Bool} (h : seinelaw18_UsageOwn_B v0 has0 = some r) : seinelaw18_UsageOwn v0 has0 = some r := by
  obtain ⟨v, hv, rfl⟩ := seinelaw18_UsageOwn_imp v0 has0 r h
  exact tO_of (pair_inj seinelaw18_UsageOwnEj) (OL_runD seinelaw18_UsageOwn_ds rfl Try.func4 ((seinelaw18_UsageOwn_t1 _ _ v0 has0).trans hv))

def seinelaw32_TreeUps_T1 (O : Orc) (LP : LBody → LBody) (n : GNode) : Option (PV × UP) :=
  callp O 16 [(.agg [(.int .i64 n.kind), (.bool n.must), (.int .i64 n.v.kind), (.int .i64 n.v.n), (.str n.v.s), (.slice (List.map encValue n.v.l) [] false), (.slice (List.map encMember n.v.m) [] false), (.slice (List.map PV.str n.keys) [] false), (.slice (List.map encNode n.l) [] false)])] fun x1 => cnd (chk (.int .i64) x1)
  (cnd (decide ((intV x1) > 2000))
   (callp O 17 [] fun x3 => cnd (chk .bool x3)
   (some ((.bool (boolV x3)), [])) none)
   (callp O 18 [(.agg [(.int .i64 n.kind), (.bool n.must), (.int .i64 n.v.kind), (.int .i64 n.v.n), (.str n.v.s), (.slice (List.map encValue n.v.l) [] false), (.slice (List.map encMember n.v.m) [] false), (.slice (List.map PV.str n.keys) [] false), (.slice (List.map encNode n.l) [] false)])] fun x5 => cnd (chk (.tup [shValue, .bool]) x5)
   (callp O 19 [(.agg [(.int .i64 n.kind), (.bool n.must), (.int .i64 n.v.kind), (.int .i64 n.v.n), (.str n.v.s), (.slice (List.map encValue n.v.l) [] false), (.slice (List.map encMember n.v.m) [] false), (.slice (List.map PV.str n.keys) [] false), (.slice (List.map encNode n.l) [] false)])] fun x7 => cnd (chk (.tup [shValue, .bool]) x7)
   (cnd ((boolV (gt (tupV x5) 1)) == (boolV (gt (tupV x7) 1)))
    (callp O 20 [(.agg [(.int .i64 (intV (gt (aggV (gt (tupV x5) 0)) 0))), (.int .i64 (intV (gt (aggV (gt (tupV x5) 0)) 1))), (.str (strV (gt (aggV (gt (tupV x5) 0)) 2))), (.slice (esV (gt (aggV (gt (tupV x5) 0)) 3)) [] false), (.slice (esV (gt (aggV (gt (tupV x5) 0)) 4)) [] false)]), (.agg [(.int .i64 (intV (gt (aggV (gt (tupV x7) 0)) 0))), (.int .i64 (intV (gt (aggV (gt (tupV x7) 0)) 1))), (.str (strV (gt (aggV (gt (tupV x7) 0)) 2))), (.slice (esV (gt (aggV (gt (tupV x7) 0)) 3)) [] false), (.slice (esV (gt (aggV (gt (tupV x7) 0)) 4)) [] false)])] fun x9 => cnd (chk .bool x9)
    (cnd (boolV x9)
     (callp O 17 [] fun x11 => cnd (chk .bool x11)
     (some ((.bool (boolV x11)), [])) none)
     (some ((.bool false), []))) none)
    (some ((.bool false), []))) none) none)) none
noncomputable def seinelaw32_TreeUps_B (n : GNode) : Option Bool :=
  bnd (seinelaw32_Size n) fun y2 =>
  cnd (decide (y2 > 2000))
   (bnd (seinelaw32_awake) fun y4 =>
   some y4)
   (bnd (tree_Up n) fun y6 =>
   bnd (seineref31_Up n) fun y8 =>
   cnd (y6.2 == y8.2)
    (bnd (seineref1_Same y6.1 y8.1) fun y10 =>
    cnd y10
     (bnd (seinelaw32_awake) fun y12 =>
     some y12)
     (some false))
    (some false))
def seinelaw32_TreeUps_ds : Decs := { decs := [(8, (.int .i64)), (10, .bool), (13, (.tup [shValue, .bool])), (18, (.tup [shValue, .bool])), (27, .bool), (30, .bool)], loops := [] }
set_option maxRecDepth 100000 in
theorem seinelaw32_TreeUps_t1 (O : Orc) (LP : LBody → LBody) (n : GNode) : evalBodyD Try.prog (MT 5) seinelaw32_TreeUps_ds Try.f5.ntmps O LP Try.f5 [(.agg [(.int .i64 n.kind), (.bool n.must), (.int .i64 n.v.kind), (.int .i64 n.v.n), (.str n.v.s), (.slice (List.map encValue n.v.l) [] false), (.slice (List.map encMember n.v.m) [] false), (.slice (List.map PV.str n.keys) [] false), (.slice (List.map encNode n.l) [] false)])] [] = seinelaw32_TreeUps_T1 O LP n := by kernel_rfl
theorem seinelaw32_TreeUps_imp (n : GNode) : Imp (seinelaw32_TreeUps_B n) (seinelaw32_TreeUps_T1 O loopLim n) (fun r v => v = (seinelaw32_TreeUpsE r, [])) := by
  simp only [seinelaw32_TreeUps_B, seinelaw32_TreeUps_T1]
  try simp only [evs, tys]
  refine Imp.call (f := seinelaw32_SizeE) rfl (fun a h => by first | exact seinelaw32_Size_spec h | simpa only [evs, tys, evl] using seinelaw32_Size_spec h) (fun a => by first | rfl | simp only [seinelaw32_SizeE, evk, chks]) fun y2 hy2 => ?_
  try simp only [seinelaw32_SizeE, evs, tys]
  refine Imp.cnd ?_ ?_
  · refine Imp.call (f := seinelaw32_awakeE) rfl (fun a h => by first | exact seinelaw32_awake_spec h | simpa only [evs, tys, evl] using seinelaw32_awake_spec h) (fun a => by first | rfl | simp only [seinelaw32_awakeE, evk, chks]) fun y4 hy4 => ?_
    try simp only [seinelaw32_awakeE, evs, tys]
    exact Imp.some (by first | rfl | simp only [seinelaw32_TreeUpsE, evs, tys, evl])
  · refine Imp.call (f := tree_UpE) rfl (fun a h => by first | exact tree_Up_spec h | simpa only [evs, tys, evl] using tree_Up_spec h) (fun a => by first | rfl | simp only [tree_UpE, evk, chks]) fun y6 hy6 => ?_
    try simp only [tree_UpE, evs, tys]
    refine Imp.call (f := seineref31_UpE) rfl (fun a h => by first | exact seineref31_Up_spec h | simpa only [evs, tys, evl] using seineref31_Up_spec h) (fun a => by first | rfl | simp only [seineref31_UpE, evk, chks]) fun y8 hy8 => ?_
    try simp only [seineref31_UpE, evs, tys]
    refine Imp.cnd ?_ ?_
    · refine Imp.call (f := seineref1_SameE) rfl (fun a h => by first | exact seineref1_Same_spec h | simpa only [evs, tys, evl] using seineref1_Same_spec h) (fun a => by first | rfl | simp only [seineref1_SameE, evk, chks]) fun y10 hy10 => ?_
      try simp only [seineref1_SameE, evs, tys]
      refine Imp.cnd ?_ ?_
      · refine Imp.call (f := seinelaw32_awakeE) rfl (fun a h => by first | exact seinelaw32_awake_spec h | simpa only [evs, tys, evl] using seinelaw32_awake_spec h) (fun a => by first | rfl | simp only [seinelaw32_awakeE, evk, chks]) fun y12 hy12 => ?_
        try simp only [seinelaw32_awakeE, evs, tys]
        exact Imp.some (by first | rfl | simp only [seinelaw32_TreeUpsE, evs, tys, evl])
      · exact Imp.some (by first | rfl | simp only [seinelaw32_TreeUpsE, evs, tys, evl])
    · exact Imp.some (by first | rfl | simp only [seinelaw32_TreeUpsE, evs, tys, evl])
theorem seinelaw32_TreeUps_run {n : GNode} {r : Bool} (h : seinelaw32_TreeUps_B n = some r) : seinelaw32_TreeUps n = some r := by
  obtain ⟨v, hv, rfl⟩ := seinelaw32_TreeUps_imp n r h
  exact tO_of (pair_inj seinelaw32_TreeUpsEj) (OL_runD seinelaw32_TreeUps_ds rfl Try.func5 ((seinelaw32_TreeUps_t1 _ _ n).trans hv))

def seinelaw32_TreeChains_T1 (O : Orc) (LP : LBody → LBody) (n : GNode) : Option (PV × UP) :=
  callp O 16 [(.agg [(.int .i64 n.kind), (.bool n.must), (.int .i64 n.v.kind), (.int .i64 n.v.n), (.str n.v.s), (.slice (List.map encValue n.v.l) [] false), (.slice (List.map encMember n.v.m) [] false), (.slice (List.map PV.str n.keys) [] false), (.slice (List.map encNode n.l) [] false)])] fun x1 => cnd (chk (.int .i64) x1)
  (cnd (decide ((intV x1) > 2000))
   (callp O 17 [] fun x3 => cnd (chk .bool x3)
   (some ((.bool (boolV x3)), [])) none)
   (callp O 18 [(.agg [(.int .i64 n.kind), (.bool n.must), (.int .i64 n.v.kind), (.int .i64 n.v.n), (.str n.v.s), (.slice (List.map encValue n.v.l) [] false), (.slice (List.map encMember n.v.m) [] false), (.slice (List.map PV.str n.keys) [] false), (.slice (List.map encNode n.l) [] false)])] fun x5 => cnd (chk (.tup [shValue, .bool]) x5)
   (callp O 21 [(.agg [(.int .i64 n.kind), (.bool n.must), (.int .i64 n.v.kind), (.int .i64 n.v.n), (.str n.v.s), (.slice (List.map encValue n.v.l) [] false), (.slice (List.map encMember n.v.m) [] false), (.slice (List.map PV.str n.keys) [] false), (.slice (List.map encNode n.l) [] false)])] fun x7 => cnd (chk .bool x7)
   (cnd n.must
    (cnd ((boolV (gt (tupV x5) 1)) == (!(boolV x7)))
     (cnd (((intV (gt (aggV (gt (tupV x5) 0)) 0)) == 0) == (boolV x7))
      (callp O 17 [] fun x9 => cnd (chk .bool x9)
      (some ((.bool (boolV x9)), [])) none)
      (some ((.bool false), [])))
     (some ((.bool false), [])))
    (cnd ((boolV (gt (tupV x5) 1)) == true)
     (cnd (((intV (gt (aggV (gt (tupV x5) 0)) 0)) == 0) == (boolV x7))
      (callp O 17 [] fun x11 => cnd (chk .bool x11)
      (some ((.bool (boolV x11)), [])) none)
      (some ((.bool false), [])))
     (some ((.bool false), [])))) none) none)) none
noncomputable def seinelaw32_TreeChains_B (n : GNode) : Option Bool :=
  bnd (seinelaw32_Size n) fun y2 =>
  cnd (decide (y2 > 2000))
   (bnd (seinelaw32_awake) fun y4 =>
   some y4)
   (bnd (tree_Up n) fun y6 =>
   bnd (seinelaw32_empty n) fun y8 =>
   cnd n.must
    (cnd (y6.2 == (!y8))
     (cnd ((y6.1.kind == 0) == y8)
      (bnd (seinelaw32_awake) fun y10 =>
      some y10)
      (some false))
     (some false))
    (cnd (y6.2 == true)
     (cnd ((y6.1.kind == 0) == y8)
      (bnd (seinelaw32_awake) fun y12 =>
      some y12)
      (some false))
     (some false)))
def seinelaw32_TreeChains_ds : Decs := { decs := [(7, (.int .i64)), (9, .bool), (12, (.tup [shValue, .bool])), (16, .bool), (33, .bool)], loops := [] }
set_option maxRecDepth 100000 in
theorem seinelaw32_TreeChains_t1 (O : Orc) (LP : LBody → LBody) (n : GNode) : evalBodyD Try.prog (MT 6) seinelaw32_TreeChains_ds Try.f6.ntmps O LP Try.f6 [(.agg [(.int .i64 n.kind), (.bool n.must), (.int .i64 n.v.kind), (.int .i64 n.v.n), (.str n.v.s), (.slice (List.map encValue n.v.l) [] false), (.slice (List.map encMember n.v.m) [] false), (.slice (List.map PV.str n.keys) [] false), (.slice (List.map encNode n.l) [] false)])] [] = seinelaw32_TreeChains_T1 O LP n := by kernel_rfl
theorem seinelaw32_TreeChains_imp (n : GNode) : Imp (seinelaw32_TreeChains_B n) (seinelaw32_TreeChains_T1 O loopLim n) (fun r v => v = (seinelaw32_TreeChainsE r, [])) := by
  simp only [seinelaw32_TreeChains_B, seinelaw32_TreeChains_T1]
  try simp only [evs, tys]
  refine Imp.call (f := seinelaw32_SizeE) rfl (fun a h => by first | exact seinelaw32_Size_spec h | simpa only [evs, tys, evl] using seinelaw32_Size_spec h) (fun a => by first | rfl | simp only [seinelaw32_SizeE, evk, chks]) fun y2 hy2 => ?_
  try simp only [seinelaw32_SizeE, evs, tys]
  refine Imp.cnd ?_ ?_
  · refine Imp.call (f := seinelaw32_awakeE) rfl (fun a h => by first | exact seinelaw32_awake_spec h | simpa only [evs, tys, evl] using seinelaw32_awake_spec h) (fun a => by first | rfl | simp only [seinelaw32_awakeE, evk, chks]) fun y4 hy4 => ?_
    try simp only [seinelaw32_awakeE, evs, tys]
    exact Imp.some (by first | rfl | simp only [seinelaw32_TreeChainsE, evs, tys, evl])
  · refine Imp.call (f := tree_UpE) rfl (fun a h => by first | exact tree_Up_spec h | simpa only [evs, tys, evl] using tree_Up_spec h) (fun a => by first | rfl | simp only [tree_UpE, evk, chks]) fun y6 hy6 => ?_
    try simp only [tree_UpE, evs, tys]
    refine Imp.call (f := seinelaw32_emptyE) rfl (fun a h => by first | exact seinelaw32_empty_spec h | simpa only [evs, tys, evl] using seinelaw32_empty_spec h) (fun a => by first | rfl | simp only [seinelaw32_emptyE, evk, chks]) fun y8 hy8 => ?_
    try simp only [seinelaw32_emptyE, evs, tys]
    refine Imp.cnd ?_ ?_
    · refine Imp.cnd ?_ ?_
      · refine Imp.cnd ?_ ?_
        · refine Imp.call (f := seinelaw32_awakeE) rfl (fun a h => by first | exact seinelaw32_awake_spec h | simpa only [evs, tys, evl] using seinelaw32_awake_spec h) (fun a => by first | rfl | simp only [seinelaw32_awakeE, evk, chks]) fun y10 hy10 => ?_
          try simp only [seinelaw32_awakeE, evs, tys]
          exact Imp.some (by first | rfl | simp only [seinelaw32_TreeChainsE, evs, tys, evl])
        · exact Imp.some (by first | rfl | simp only [seinelaw32_TreeChainsE, evs, tys, evl])
      · exact Imp.some (by first | rfl | simp only [seinelaw32_TreeChainsE, evs, tys, evl])
    · refine Imp.cnd ?_ ?_
      · refine Imp.cnd ?_ ?_
        · refine Imp.call (f := seinelaw32_awakeE) rfl (fun a h => by first | exact seinelaw32_awake_spec h | simpa only [evs, tys, evl] using seinelaw32_awake_spec h) (fun a => by first | rfl | simp only [seinelaw32_awakeE, evk, chks]) fun y12 hy12 => ?_
          try simp only [seinelaw32_awakeE, evs, tys]
          exact Imp.some (by first | rfl | simp only [seinelaw32_TreeChainsE, evs, tys, evl])
        · exact Imp.some (by first | rfl | simp only [seinelaw32_TreeChainsE, evs, tys, evl])
      · exact Imp.some (by first | rfl | simp only [seinelaw32_TreeChainsE, evs, tys, evl])
theorem seinelaw32_TreeChains_run {n : GNode} {r : Bool} (h : seinelaw32_TreeChains_B n = some r) : seinelaw32_TreeChains n = some r := by
  obtain ⟨v, hv, rfl⟩ := seinelaw32_TreeChains_imp n r h
  exact tO_of (pair_inj seinelaw32_TreeChainsEj) (OL_runD seinelaw32_TreeChains_ds rfl Try.func6 ((seinelaw32_TreeChains_t1 _ _ n).trans hv))

def seinelaw32_TreeMusts_T1 (O : Orc) (LP : LBody → LBody) (n : GNode) : Option (PV × UP) :=
  callp O 16 [(.agg [(.int .i64 n.kind), (.bool n.must), (.int .i64 n.v.kind), (.int .i64 n.v.n), (.str n.v.s), (.slice (List.map encValue n.v.l) [] false), (.slice (List.map encMember n.v.m) [] false), (.slice (List.map PV.str n.keys) [] false), (.slice (List.map encNode n.l) [] false)])] fun x1 => cnd (chk (.int .i64) x1)
  (cnd (decide ((intV x1) > 2000))
   (callp O 17 [] fun x3 => cnd (chk .bool x3)
   (some ((.bool (boolV x3)), [])) none)
   (callp O 18 [(.agg [(.int .i64 n.kind), (.bool true), (.int .i64 n.v.kind), (.int .i64 n.v.n), (.str n.v.s), (.slice (List.map encValue n.v.l) [] false), (.slice (List.map encMember n.v.m) [] false), (.slice (List.map PV.str n.keys) [] false), (.slice (List.map encNode n.l) [] false)])] fun x5 => cnd (chk (.tup [shValue, .bool]) x5)
   (callp O 18 [(.agg [(.int .i64 n.kind), (.bool false), (.int .i64 n.v.kind), (.int .i64 n.v.n), (.str n.v.s), (.slice (List.map encValue n.v.l) [] false), (.slice (List.map encMember n.v.m) [] false), (.slice (List.map PV.str n.keys) [] false), (.slice (List.map encNode n.l) [] false)])] fun x7 => cnd (chk (.tup [shValue, .bool]) x7)
   (cnd ((intV (gt (aggV (gt (tupV x7) 0)) 0)) == 0)
    (cnd (boolV (gt (tupV x7) 1))
     (cnd (!(boolV (gt (tupV x5) 1)))
      (callp O 20 [(.agg [(.int .i64 (intV (gt (aggV (gt (tupV x5) 0)) 0))), (.int .i64 (intV (gt (aggV (gt (tupV x5) 0)) 1))), (.str (strV (gt (aggV (gt (tupV x5) 0)) 2))), (.slice (esV (gt (aggV (gt (tupV x5) 0)) 3)) [] false), (.slice (esV (gt (aggV (gt (tupV x5) 0)) 4)) [] false)]), (.agg [(.int .i64 0), (.int .i64 0), (.str []), (.slice [] [] false), (.slice [] [] false)])] fun x9 => cnd (chk .bool x9)
      (cnd (boolV x9)
       (callp O 17 [] fun x11 => cnd (chk .bool x11)
       (some ((.bool (boolV x11)), [])) none)
       (some ((.bool false), []))) none)
      (some ((.bool false), [])))
     (some ((.bool false), [])))
    (cnd (boolV (gt (tupV x7) 1))
     (cnd (boolV (gt (tupV x5) 1))
      (callp O 20 [(.agg [(.int .i64 (intV (gt (aggV (gt (tupV x5) 0)) 0))), (.int .i64 (intV (gt (aggV (gt (tupV x5) 0)) 1))), (.str (strV (gt (aggV (gt (tupV x5) 0)) 2))), (.slice (esV (gt (aggV (gt (tupV x5) 0)) 3)) [] false), (.slice (esV (gt (aggV (gt (tupV x5) 0)) 4)) [] false)]), (.agg [(.int .i64 (intV (gt (aggV (gt (tupV x7) 0)) 0))), (.int .i64 (intV (gt (aggV (gt (tupV x7) 0)) 1))), (.str (strV (gt (aggV (gt (tupV x7) 0)) 2))), (.slice (esV (gt (aggV (gt (tupV x7) 0)) 3)) [] false), (.slice (esV (gt (aggV (gt (tupV x7) 0)) 4)) [] false)])] fun x13 => cnd (chk .bool x13)
      (cnd (boolV x13)
       (callp O 17 [] fun x15 => cnd (chk .bool x15)
       (some ((.bool (boolV x15)), [])) none)
       (some ((.bool false), []))) none)
      (some ((.bool false), [])))
     (some ((.bool false), [])))) none) none)) none
noncomputable def seinelaw32_TreeMusts_B (n : GNode) : Option Bool :=
  bnd (seinelaw32_Size n) fun y2 =>
  cnd (decide (y2 > 2000))
   (bnd (seinelaw32_awake) fun y4 =>
   some y4)
   (bnd (tree_Up (GNode.mk n.kind true n.v n.keys n.l)) fun y6 =>
   bnd (tree_Up (GNode.mk n.kind false n.v n.keys n.l)) fun y8 =>
   cnd (y8.1.kind == 0)
    (cnd y8.2
     (cnd (!y6.2)
      (bnd (seineref1_Same y6.1 (GValue.mk 0 0 [] ([] : List GValue) ([] : List GMember))) fun y10 =>
      cnd y10
       (bnd (seinelaw32_awake) fun y12 =>
       some y12)
       (some false))
      (some false))
     (some false))
    (cnd y8.2
     (cnd y6.2
      (bnd (seineref1_Same y6.1 y8.1) fun y14 =>
      cnd y14
       (bnd (seinelaw32_awake) fun y16 =>
       some y16)
       (some false))
      (some false))
     (some false)))
def seinelaw32_TreeMusts_ds : Decs := { decs := [(10, (.int .i64)), (12, .bool), (19, (.tup [shValue, .bool])), (24, (.tup [shValue, .bool])), (38, .bool), (41, .bool), (50, .bool), (53, .bool)], loops := [] }
set_option maxRecDepth 100000 in
theorem seinelaw32_TreeMusts_t1 (O : Orc) (LP : LBody → LBody) (n : GNode) : evalBodyD Try.prog (MT 7) seinelaw32_TreeMusts_ds Try.f7.ntmps O LP Try.f7 [(.agg [(.int .i64 n.kind), (.bool n.must), (.int .i64 n.v.kind), (.int .i64 n.v.n), (.str n.v.s), (.slice (List.map encValue n.v.l) [] false), (.slice (List.map encMember n.v.m) [] false), (.slice (List.map PV.str n.keys) [] false), (.slice (List.map encNode n.l) [] false)])] [] = seinelaw32_TreeMusts_T1 O LP n := by kernel_rfl
theorem seinelaw32_TreeMusts_imp (n : GNode) : Imp (seinelaw32_TreeMusts_B n) (seinelaw32_TreeMusts_T1 O loopLim n) (fun r v => v = (seinelaw32_TreeMustsE r, [])) := by
  simp only [seinelaw32_TreeMusts_B, seinelaw32_TreeMusts_T1]
  try simp only [evs, tys]
  refine Imp.call (f := seinelaw32_SizeE) rfl (fun a h => by first | exact seinelaw32_Size_spec h | simpa only [evs, tys, evl] using seinelaw32_Size_spec h) (fun a => by first | rfl | simp only [seinelaw32_SizeE, evk, chks]) fun y2 hy2 => ?_
  try simp only [seinelaw32_SizeE, evs, tys]
  refine Imp.cnd ?_ ?_
  · refine Imp.call (f := seinelaw32_awakeE) rfl (fun a h => by first | exact seinelaw32_awake_spec h | simpa only [evs, tys, evl] using seinelaw32_awake_spec h) (fun a => by first | rfl | simp only [seinelaw32_awakeE, evk, chks]) fun y4 hy4 => ?_
    try simp only [seinelaw32_awakeE, evs, tys]
    exact Imp.some (by first | rfl | simp only [seinelaw32_TreeMustsE, evs, tys, evl])
  · refine Imp.call (f := tree_UpE) rfl (fun a h => by first | exact tree_Up_spec h | simpa only [evs, tys, evl] using tree_Up_spec h) (fun a => by first | rfl | simp only [tree_UpE, evk, chks]) fun y6 hy6 => ?_
    try simp only [tree_UpE, evs, tys]
    refine Imp.call (f := tree_UpE) rfl (fun a h => by first | exact tree_Up_spec h | simpa only [evs, tys, evl] using tree_Up_spec h) (fun a => by first | rfl | simp only [tree_UpE, evk, chks]) fun y8 hy8 => ?_
    try simp only [tree_UpE, evs, tys]
    refine Imp.cnd ?_ ?_
    · refine Imp.cnd ?_ ?_
      · refine Imp.cnd ?_ ?_
        · refine Imp.call (f := seineref1_SameE) rfl (fun a h => by first | exact seineref1_Same_spec h | simpa only [evs, tys, evl] using seineref1_Same_spec h) (fun a => by first | rfl | simp only [seineref1_SameE, evk, chks]) fun y10 hy10 => ?_
          try simp only [seineref1_SameE, evs, tys]
          refine Imp.cnd ?_ ?_
          · refine Imp.call (f := seinelaw32_awakeE) rfl (fun a h => by first | exact seinelaw32_awake_spec h | simpa only [evs, tys, evl] using seinelaw32_awake_spec h) (fun a => by first | rfl | simp only [seinelaw32_awakeE, evk, chks]) fun y12 hy12 => ?_
            try simp only [seinelaw32_awakeE, evs, tys]
            exact Imp.some (by first | rfl | simp only [seinelaw32_TreeMustsE, evs, tys, evl])
          · exact Imp.some (by first | rfl | simp only [seinelaw32_TreeMustsE, evs, tys, evl])
        · exact Imp.some (by first | rfl | simp only [seinelaw32_TreeMustsE, evs, tys, evl])
      · exact Imp.some (by first | rfl | simp only [seinelaw32_TreeMustsE, evs, tys, evl])
    · refine Imp.cnd ?_ ?_
      · refine Imp.cnd ?_ ?_
        · refine Imp.call (f := seineref1_SameE) rfl (fun a h => by first | exact seineref1_Same_spec h | simpa only [evs, tys, evl] using seineref1_Same_spec h) (fun a => by first | rfl | simp only [seineref1_SameE, evk, chks]) fun y14 hy14 => ?_
          try simp only [seineref1_SameE, evs, tys]
          refine Imp.cnd ?_ ?_
          · refine Imp.call (f := seinelaw32_awakeE) rfl (fun a h => by first | exact seinelaw32_awake_spec h | simpa only [evs, tys, evl] using seinelaw32_awake_spec h) (fun a => by first | rfl | simp only [seinelaw32_awakeE, evk, chks]) fun y16 hy16 => ?_
            try simp only [seinelaw32_awakeE, evs, tys]
            exact Imp.some (by first | rfl | simp only [seinelaw32_TreeMustsE, evs, tys, evl])
          · exact Imp.some (by first | rfl | simp only [seinelaw32_TreeMustsE, evs, tys, evl])
        · exact Imp.some (by first | rfl | simp only [seinelaw32_TreeMustsE, evs, tys, evl])
      · exact Imp.some (by first | rfl | simp only [seinelaw32_TreeMustsE, evs, tys, evl])
theorem seinelaw32_TreeMusts_run {n : GNode} {r : Bool} (h : seinelaw32_TreeMusts_B n = some r) : seinelaw32_TreeMusts n = some r := by
  obtain ⟨v, hv, rfl⟩ := seinelaw32_TreeMusts_imp n r h
  exact tO_of (pair_inj seinelaw32_TreeMustsEj) (OL_runD seinelaw32_TreeMusts_ds rfl Try.func7 ((seinelaw32_TreeMusts_t1 _ _ n).trans hv))
end Go.Proofs.Ytoddajoeiamidaa

/- Printed by symgen.py: typed functions of this seat, and why they tell what the program does. -/
set_option linter.unusedVariables false
set_option linter.unusedSimpArgs false
open Go Go.Ev Go.Ev.PV
namespace Go.Proofs.Ytoddajoeiamidaa
def seinelaw32_TreeParts_l1 (O : Orc) (LP : LBody → LBody) : LBody := fun s9 s9u => cnd (chkL [(.sl false), (.sl false), (.ptr 0 5 0), (.ptr 0 7 0), .bool, (.int .i64), (.int .i64), (.int .i64), .str, (.sl false), (.sl false), (.int .i64), (.int .i64), .str, (.sl false), (.sl false)] s9) (cnd (chkU [] s9u)
  (cnd (decide ((intV (gt s9 5)) < (List.length (esV (gt s9 0)) : Int)))
   (bnd (ix 9 (.slice (esV (gt s9 0)) [] false) (.int .i64 (intV (gt s9 5)))) fun x16 => cnd (chk (.ref shNode) x16)
   (callp O 18 [(.agg [(.int .i64 (intV (gt (aggV (refV x16)) 0))), (.bool (boolV (gt (aggV (refV x16)) 1))), (.int .i64 (intV (gt (aggV (refV x16)) 2))), (.int .i64 (intV (gt (aggV (refV x16)) 3))), (.str (strV (gt (aggV (refV x16)) 4))), (.slice (esV (gt (aggV (refV x16)) 5)) [] false), (.slice (esV (gt (aggV (refV x16)) 6)) [] false), (.slice (esV (gt (aggV (refV x16)) 7)) [] false), (.slice (esV (gt (aggV (refV x16)) 8)) [] false)])] fun x18 => cnd (chk (.tup [shValue, .bool]) x18)
   (cnd (boolV (gt s9 4))
    (some (.nrm, [(.slice (esV (gt s9 0)) [] false), (.slice (esV (gt s9 1)) [] false), (.ptr 0 5 0), (.ptr 0 7 0), (.bool (boolV (gt (tupV x18) 1))), (.int .i64 (IntKind.wrap .i64 ((intV (gt s9 5)) + 1))), (.int .i64 (intV (gt s9 6))), (.int .i64 (intV (gt s9 7))), (.str (strV (gt s9 8))), (.slice (esV (gt s9 9)) [] false), (.slice (esV (gt s9 10)) [] false), (.int .i64 (intV (gt s9 11))), (.int .i64 (intV (gt s9 12))), (.str (strV (gt s9 13))), (.slice (esV (gt s9 14)) [] false), (.slice (esV (gt s9 15)) [] false)], []))
    (some (.nrm, [(.slice (esV (gt s9 0)) [] false), (.slice (esV (gt s9 1)) [] false), (.ptr 0 5 0), (.ptr 0 7 0), (.bool false), (.int .i64 (IntKind.wrap .i64 ((intV (gt s9 5)) + 1))), (.int .i64 (intV (gt s9 6))), (.int .i64 (intV (gt s9 7))), (.str (strV (gt s9 8))), (.slice (esV (gt s9 9)) [] false), (.slice (esV (gt s9 10)) [] false), (.int .i64 (intV (gt s9 11))), (.int .i64 (intV (gt s9 12))), (.str (strV (gt s9 13))), (.slice (esV (gt s9 14)) [] false), (.slice (esV (gt s9 15)) [] false)], []))) none) none)
   (some (.brk 0, [(.slice (esV (gt s9 0)) [] false), (.slice (esV (gt s9 1)) [] false), (.ptr 0 5 0), (.ptr 0 7 0), (.bool (boolV (gt s9 4))), (.int .i64 (intV (gt s9 5))), (.int .i64 (intV (gt s9 6))), (.int .i64 (intV (gt s9 7))), (.str (strV (gt s9 8))), (.slice (esV (gt s9 9)) [] false), (.slice (esV (gt s9 10)) [] false), (.int .i64 (intV (gt s9 11))), (.int .i64 (intV (gt s9 12))), (.str (strV (gt s9 13))), (.slice (esV (gt s9 14)) [] false), (.slice (esV (gt s9 15)) [] false)], []))) none) none
def seinelaw32_TreeParts_l2 (O : Orc) (LP : LBody → LBody) : LBody := fun s25 s25u => cnd (chkL [(.sl false), (.sl false), .bot, (.ptr 0 5 0), (.ptr 0 7 0), (.int .i64), (.int .i64), (.int .i64), .str, (.sl false), (.sl false), (.int .i64), (.int .i64), .str, (.sl false), (.sl false)] s25) (cnd (chkU [] s25u)
  (cnd (decide ((intV (gt s25 5)) < (List.length (esV (gt s25 0)) : Int)))
   (bnd (ix 9 (.slice (esV (gt s25 0)) [] false) (.int .i64 (intV (gt s25 5)))) fun x43 => cnd (chk (.ref shNode) x43)
   (callp O 18 [(.agg [(.int .i64 (intV (gt (aggV (refV x43)) 0))), (.bool (boolV (gt (aggV (refV x43)) 1))), (.int .i64 (intV (gt (aggV (refV x43)) 2))), (.int .i64 (intV (gt (aggV (refV x43)) 3))), (.str (strV (gt (aggV (refV x43)) 4))), (.slice (esV (gt (aggV (refV x43)) 5)) [] false), (.slice (esV (gt (aggV (refV x43)) 6)) [] false), (.slice (esV (gt (aggV (refV x43)) 7)) [] false), (.slice (esV (gt (aggV (refV x43)) 8)) [] false)])] fun x45 => cnd (chk (.tup [shValue, .bool]) x45)
   (callp O 22 [(.agg [(.int .i64 (intV (gt s25 11))), (.int .i64 (intV (gt s25 12))), (.str (strV (gt s25 13))), (.slice (esV (gt s25 14)) [] false), (.slice (esV (gt s25 15)) [] false)]), (.slice [(.agg [(.str []), (.int .i64 (intV (gt s25 5)))])] [] false)] fun x47 => cnd (chk (.tup [shValue, .bool]) x47)
   (cnd (!(boolV (gt (tupV x47) 1)))
    (some (.ret, [(.slice (esV (gt s25 0)) [] false), (.slice (esV (gt s25 1)) [] false), (.bool false), (.ptr 0 5 0), (.ptr 0 7 0), (.int .i64 (intV (gt s25 5))), (.int .i64 (intV (gt s25 6))), (.int .i64 (intV (gt s25 7))), (.str (strV (gt s25 8))), (.slice (esV (gt s25 9)) [] false), (.slice (esV (gt s25 10)) [] false), (.int .i64 (intV (gt s25 11))), (.int .i64 (intV (gt s25 12))), (.str (strV (gt s25 13))), (.slice (esV (gt s25 14)) [] false), (.slice (esV (gt s25 15)) [] false)], []))
    (callp O 20 [(.agg [(.int .i64 (intV (gt (aggV (gt (tupV x45) 0)) 0))), (.int .i64 (intV (gt (aggV (gt (tupV x45) 0)) 1))), (.str (strV (gt (aggV (gt (tupV x45) 0)) 2))), (.slice (esV (gt (aggV (gt (tupV x45) 0)) 3)) [] false), (.slice (esV (gt (aggV (gt (tupV x45) 0)) 4)) [] false)]), (.agg [(.int .i64 (intV (gt (aggV (gt (tupV x47) 0)) 0))), (.int .i64 (intV (gt (aggV (gt (tupV x47) 0)) 1))), (.str (strV (gt (aggV (gt (tupV x47) 0)) 2))), (.slice (esV (gt (aggV (gt (tupV x47) 0)) 3)) [] false), (.slice (esV (gt (aggV (gt (tupV x47) 0)) 4)) [] false)])] fun x49 => cnd (chk .bool x49)
    (cnd (!(boolV x49))
     (some (.ret, [(.slice (esV (gt s25 0)) [] false), (.slice (esV (gt s25 1)) [] false), (.bool false), (.ptr 0 5 0), (.ptr 0 7 0), (.int .i64 (intV (gt s25 5))), (.int .i64 (intV (gt s25 6))), (.int .i64 (intV (gt s25 7))), (.str (strV (gt s25 8))), (.slice (esV (gt s25 9)) [] false), (.slice (esV (gt s25 10)) [] false), (.int .i64 (intV (gt s25 11))), (.int .i64 (intV (gt s25 12))), (.str (strV (gt s25 13))), (.slice (esV (gt s25 14)) [] false), (.slice (esV (gt s25 15)) [] false)], []))
     (bnd (ix 6 (.slice (esV (gt s25 10)) [] false) (.int .i64 (intV (gt s25 5)))) fun x51 => cnd (chk (.ref shMember) x51)
     (callp O 20 [(.agg [(.int .i64 (intV (gt (aggV (refV x51)) 1))), (.int .i64 (intV (gt (aggV (refV x51)) 2))), (.str (strV (gt (aggV (refV x51)) 3))), (.slice (esV (gt (aggV (refV x51)) 4)) [] false), (.slice (esV (gt (aggV (refV x51)) 5)) [] false)]), (.agg [(.int .i64 (intV (gt (aggV (gt (tupV x45) 0)) 0))), (.int .i64 (intV (gt (aggV (gt (tupV x45) 0)) 1))), (.str (strV (gt (aggV (gt (tupV x45) 0)) 2))), (.slice (esV (gt (aggV (gt (tupV x45) 0)) 3)) [] false), (.slice (esV (gt (aggV (gt (tupV x45) 0)) 4)) [] false)])] fun x53 => cnd (chk .bool x53)
     (cnd (!(boolV x53))
      (some (.ret, [(.slice (esV (gt s25 0)) [] false), (.slice (esV (gt s25 1)) [] false), (.bool false), (.ptr 0 5 0), (.ptr 0 7 0), (.int .i64 (intV (gt s25 5))), (.int .i64 (intV (gt s25 6))), (.int .i64 (intV (gt s25 7))), (.str (strV (gt s25 8))), (.slice (esV (gt s25 9)) [] false), (.slice (esV (gt s25 10)) [] false), (.int .i64 (intV (gt s25 11))), (.int .i64 (intV (gt s25 12))), (.str (strV (gt s25 13))), (.slice (esV (gt s25 14)) [] false), (.slice (esV (gt s25 15)) [] false)], []))
      (cnd (decide ((intV (gt s25 5)) < (List.length (esV (gt s25 1)) : Int)))
       (bnd (ix 6 (.slice (esV (gt s25 10)) [] false) (.int .i64 (intV (gt s25 5)))) fun x55 => cnd (chk (.ref shMember) x55)
       (bnd (ix 1 (.slice (esV (gt s25 1)) [] false) (.int .i64 (intV (gt s25 5)))) fun x57 => cnd (chk (.ref .str) x57)
       (cnd (!((strV (gt (aggV (refV x55)) 0)) == (strV (refV x57))))
        (some (.ret, [(.slice (esV (gt s25 0)) [] false), (.slice (esV (gt s25 1)) [] false), (.bool false), (.ptr 0 5 0), (.ptr 0 7 0), (.int .i64 (intV (gt s25 5))), (.int .i64 (intV (gt s25 6))), (.int .i64 (intV (gt s25 7))), (.str (strV (gt s25 8))), (.slice (esV (gt s25 9)) [] false), (.slice (esV (gt s25 10)) [] false), (.int .i64 (intV (gt s25 11))), (.int .i64 (intV (gt s25 12))), (.str (strV (gt s25 13))), (.slice (esV (gt s25 14)) [] false), (.slice (esV (gt s25 15)) [] false)], []))
        (some (.nrm, [(.slice (esV (gt s25 0)) [] false), (.slice (esV (gt s25 1)) [] false), .bot, (.ptr 0 5 0), (.ptr 0 7 0), (.int .i64 (IntKind.wrap .i64 ((intV (gt s25 5)) + 1))), (.int .i64 (intV (gt s25 6))), (.int .i64 (intV (gt s25 7))), (.str (strV (gt s25 8))), (.slice (esV (gt s25 9)) [] false), (.slice (esV (gt s25 10)) [] false), (.int .i64 (intV (gt s25 11))), (.int .i64 (intV (gt s25 12))), (.str (strV (gt s25 13))), (.slice (esV (gt s25 14)) [] false), (.slice (esV (gt s25 15)) [] false)], []))) none) none)
       (some (.nrm, [(.slice (esV (gt s25 0)) [] false), (.slice (esV (gt s25 1)) [] false), .bot, (.ptr 0 5 0), (.ptr 0 7 0), (.int .i64 (IntKind.wrap .i64 ((intV (gt s25 5)) + 1))), (.int .i64 (intV (gt s25 6))), (.int .i64 (intV (gt s25 7))), (.str (strV (gt s25 8))), (.slice (esV (gt s25 9)) [] false), (.slice (esV (gt s25 10)) [] false), (.int .i64 (intV (gt s25 11))), (.int .i64 (intV (gt s25 12))), (.str (strV (gt s25 13))), (.slice (esV (gt s25 14)) [] false), (.slice (esV (gt s25 15)) [] false)], [])))) none) none)) none)) none) none) none)
   (some (.brk 2, [(.slice (esV (gt s25 0)) [] false), (.slice (esV (gt s25 1)) [] false), .bot, (.ptr 0 5 0), (.ptr 0 7 0), (.int .i64 (intV (gt s25 5))), (.int .i64 (intV (gt s25 6))), (.int .i64 (intV (gt s25 7))), (.str (strV (gt s25 8))), (.slice (esV (gt s25 9)) [] false), (.slice (esV (gt s25 10)) [] false), (.int .i64 (intV (gt s25 11))), (.int .i64 (intV (gt s25 12))), (.str (strV (gt s25 13))), (.slice (esV (gt s25 14)) [] false), (.slice (esV (gt s25 15)) [] false)], []))) none) none
def seinelaw32_TreeParts_T1 (O : Orc) (LP : LBody → LBody) (l0 : List GNode) (keys : List Str) : Option (PV × UP) :=
  callp O 16 [(.agg [(.int .i64 0), (.bool false), (.int .i64 0), (.int .i64 0), (.str []), (.slice [] [] false), (.slice [] [] false), (.slice (List.map PV.str keys) [] false), (.slice (List.map encNode l0) [] false)])] fun x1 => cnd (chk (.int .i64) x1)
  (cnd (decide ((intV x1) > 2000))
   (callp O 17 [] fun x3 => cnd (chk .bool x3)
   (some ((.bool (boolV x3)), [])) none)
   (callp O 18 [(.agg [(.int .i64 1), (.bool false), (.int .i64 0), (.int .i64 0), (.str []), (.slice [] [] false), (.slice [] [] false), (.slice [] [] false), (.slice (List.map encNode l0) [] false)])] fun x5 => cnd (chk (.tup [shValue, .bool]) x5)
   (callp O 18 [(.agg [(.int .i64 2), (.bool false), (.int .i64 0), (.int .i64 0), (.str []), (.slice [] [] false), (.slice [] [] false), (.slice (List.map PV.str keys) [] false), (.slice (List.map encNode l0) [] false)])] fun x7 => cnd (chk (.tup [shValue, .bool]) x7)
   (bnd (LP (seinelaw32_TreeParts_l1 O LP) [(.slice (List.map encNode l0) [] false), (.slice (List.map PV.str keys) [] false), (.ptr 0 5 0), (.ptr 0 7 0), (.bool true), (.int .i64 0), (.int .i64 (intV (gt (aggV (gt (tupV x7) 0)) 0))), (.int .i64 (intV (gt (aggV (gt (tupV x7) 0)) 1))), (.str (strV (gt (aggV (gt (tupV x7) 0)) 2))), (.slice (esV (gt (aggV (gt (tupV x7) 0)) 3)) [] false), (.slice (esV (gt (aggV (gt (tupV x7) 0)) 4)) [] false), (.int .i64 (intV (gt (aggV (gt (tupV x5) 0)) 0))), (.int .i64 (intV (gt (aggV (gt (tupV x5) 0)) 1))), (.str (strV (gt (aggV (gt (tupV x5) 0)) 2))), (.slice (esV (gt (aggV (gt (tupV x5) 0)) 3)) [] false), (.slice (esV (gt (aggV (gt (tupV x5) 0)) 4)) [] false)] []) fun y22 =>
   exIs y22.1 (some 0) (cnd (chkL [(.sl false), (.sl false), (.ptr 0 5 0), (.ptr 0 7 0), .bool, (.int .i64), (.int .i64), (.int .i64), .str, (.sl false), (.sl false), (.int .i64), (.int .i64), .str, (.sl false), (.sl false)] y22.2.1) (cnd (chkU [] y22.2.2)
    (cnd (!(boolV (gt y22.2.1 4)))
     (cnd ((intV (gt y22.2.1 11)) == 0)
      (cnd ((intV (gt y22.2.1 6)) == 0)
       (callp O 17 [] fun x23 => cnd (chk .bool x23)
       (some ((.bool (boolV x23)), [])) none)
       (some ((.bool false), [])))
      (some ((.bool false), [])))
     (cnd ((intV (gt y22.2.1 11)) != 6)
      (some ((.bool false), []))
      (cnd ((intV (gt y22.2.1 6)) != 7)
       (some ((.bool false), []))
       (cnd ((List.length (esV (gt y22.2.1 14)) : Int) != (List.length (esV (gt y22.2.1 0)) : Int))
        (some ((.bool false), []))
        (cnd ((List.length (esV (gt y22.2.1 10)) : Int) != (List.length (esV (gt y22.2.1 0)) : Int))
         (some ((.bool false), []))
         (bnd (LP (seinelaw32_TreeParts_l2 O LP) [(.slice (esV (gt y22.2.1 0)) [] false), (.slice (esV (gt y22.2.1 1)) [] false), .bot, (.ptr 0 5 0), (.ptr 0 7 0), (.int .i64 0), (.int .i64 (intV (gt y22.2.1 6))), (.int .i64 (intV (gt y22.2.1 7))), (.str (strV (gt y22.2.1 8))), (.slice (esV (gt y22.2.1 9)) [] false), (.slice (esV (gt y22.2.1 10)) [] false), (.int .i64 (intV (gt y22.2.1 11))), (.int .i64 (intV (gt y22.2.1 12))), (.str (strV (gt y22.2.1 13))), (.slice (esV (gt y22.2.1 14)) [] false), (.slice (esV (gt y22.2.1 15)) [] false)] []) fun y61 =>
         exIs y61.1 (some 2) (cnd (chkL [(.sl false), (.sl false), .bot, (.ptr 0 5 0), (.ptr 0 7 0), (.int .i64), (.int .i64), (.int .i64), .str, (.sl false), (.sl false), (.int .i64), (.int .i64), .str, (.sl false), (.sl false)] y61.2.1) (cnd (chkU [] y61.2.2)
          (callp O 22 [(.agg [(.int .i64 (intV (gt y61.2.1 11))), (.int .i64 (intV (gt y61.2.1 12))), (.str (strV (gt y61.2.1 13))), (.slice (esV (gt y61.2.1 14)) [] false), (.slice (esV (gt y61.2.1 15)) [] false)]), (.slice [(.agg [(.str []), (.int .i64 (List.length (esV (gt y61.2.1 0)) : Int))])] [] false)] fun x62 => cnd (chk (.tup [shValue, .bool]) x62)
          (cnd (!(boolV (gt (tupV x62) 1)))
           (callp O 17 [] fun x64 => cnd (chk .bool x64)
           (some ((.bool (boolV x64)), [])) none)
           (some ((.bool false), []))) none) none) none)
         (exIs y61.1 none (cnd (chkL [(.sl false), (.sl false), .bool, (.ptr 0 5 0), (.ptr 0 7 0), (.int .i64), (.int .i64), (.int .i64), .str, (.sl false), (.sl false), (.int .i64), (.int .i64), .str, (.sl false), (.sl false)] y61.2.1) (cnd (chkU [] y61.2.2)
          (some ((.bool (boolV (gt y61.2.1 2))), [])) none) none)
         (none)))))))) none) none)
   (none)) none) none)) none
noncomputable def seinelaw32_TreeParts_l1T (l0 : List GNode) : (Bool × Int) → Option ((Bool × Int) ⊕ Bool)
  | (good_14, i_15) =>
  cnd (decide (i_15 < (List.length l0 : Int)))
   (bnd (nthI l0 i_15) fun y17 =>
   bnd (tree_Up y17) fun y19 =>
   cnd good_14
    (some (.inl (y19.2, (IntKind.wrap .i64 (i_15 + 1)))))
    (some (.inl (false, (IntKind.wrap .i64 (i_15 + 1))))))
   (some (.inr good_14))
abbrev seinelaw32_TreeParts_l1R (l0 : List GNode) (keys : List Str) (y6 : GValue × Bool) (y8 : GValue × Bool) (st : Bool × Int) (l : List PV) (u : UP) : Prop := l = [(.slice (List.map encNode l0) [] false), (.slice (List.map PV.str keys) [] false), (.ptr 0 5 0), (.ptr 0 7 0), (.bool st.1), (.int .i64 st.2), (.int .i64 y8.1.kind), (.int .i64 y8.1.n), (.str y8.1.s), (.slice (List.map encValue y8.1.l) [] false), (.slice (List.map encMember y8.1.m) [] false), (.int .i64 y6.1.kind), (.int .i64 y6.1.n), (.str y6.1.s), (.slice (List.map encValue y6.1.l) [] false), (.slice (List.map encMember y6.1.m) [] false)] ∧ u = []
abbrev seinelaw32_TreeParts_l1X (l0 : List GNode) (keys : List Str) (y6 : GValue × Bool) (y8 : GValue × Bool) (p : Bool) (r : Ex × List PV × UP) : Prop := (fun (p : Bool) => ∃ (i_21 : Int), r = (Ex.brk 0, [(.slice (List.map encNode l0) [] false), (.slice (List.map PV.str keys) [] false), (.ptr 0 5 0), (.ptr 0 7 0), (.bool p), (.int .i64 i_21), (.int .i64 y8.1.kind), (.int .i64 y8.1.n), (.str y8.1.s), (.slice (List.map encValue y8.1.l) [] false), (.slice (List.map encMember y8.1.m) [] false), (.int .i64 y6.1.kind), (.int .i64 y6.1.n), (.str y6.1.s), (.slice (List.map encValue y6.1.l) [] false), (.slice (List.map encMember y6.1.m) [] false)], [])) p
noncomputable def seinelaw32_TreeParts_l2T (l0 : List GNode) (keys : List Str) (y6 : GValue × Bool) (y8 : GValue × Bool) : Int → Option (Int ⊕ (Unit ⊕ Unit))
  | i_42 =>
  cnd (decide (i_42 < (List.length l0 : Int)))
   (bnd (nthI l0 i_42) fun y44 =>
   bnd (tree_Up y44) fun y46 =>
   bnd (tree_At y6.1 [(GStep.mk [] i_42)]) fun y48 =>
   cnd (!y48.2)
    (some (.inr (.inr ())))
    (bnd (seineref1_Same y46.1 y48.1) fun y50 =>
    cnd (!y50)
     (some (.inr (.inr ())))
     (bnd (nthI y8.1.m i_42) fun y52 =>
     bnd (seineref1_Same y52.v y46.1) fun y54 =>
     cnd (!y54)
      (some (.inr (.inr ())))
      (cnd (decide (i_42 < (List.length keys : Int)))
       (bnd (nthI y8.1.m i_42) fun y56 =>
       bnd (nthI keys i_42) fun y58 =>
       cnd (!(y56.name == y58))
        (some (.inr (.inr ())))
        (some (.inl (IntKind.wrap .i64 (i_42 + 1)))))
       (some (.inl (IntKind.wrap .i64 (i_42 + 1))))))))
   (some (.inr (.inl ())))
abbrev seinelaw32_TreeParts_l2R (l0 : List GNode) (keys : List Str) (y6 : GValue × Bool) (y8 : GValue × Bool) (st : Int) (l : List PV) (u : UP) : Prop := l = [(.slice (List.map encNode l0) [] false), (.slice (List.map PV.str keys) [] false), .bot, (.ptr 0 5 0), (.ptr 0 7 0), (.int .i64 st), (.int .i64 y8.1.kind), (.int .i64 y8.1.n), (.str y8.1.s), (.slice (List.map encValue y8.1.l) [] false), (.slice (List.map encMember y8.1.m) [] false), (.int .i64 y6.1.kind), (.int .i64 y6.1.n), (.str y6.1.s), (.slice (List.map encValue y6.1.l) [] false), (.slice (List.map encMember y6.1.m) [] false)] ∧ u = []
abbrev seinelaw32_TreeParts_l2X (l0 : List GNode) (keys : List Str) (y6 : GValue × Bool) (y8 : GValue × Bool) (p : Unit ⊕ Unit) (r : Ex × List PV × UP) : Prop := elim p (fun (p : Unit) => ∃ (i_59 : Int), r = (Ex.brk 2, [(.slice (List.map encNode l0) [] false), (.slice (List.map PV.str keys) [] false), .bot, (.ptr 0 5 0), (.ptr 0 7 0), (.int .i64 i_59), (.int .i64 y8.1.kind), (.int .i64 y8.1.n), (.str y8.1.s), (.slice (List.map encValue y8.1.l) [] false), (.slice (List.map encMember y8.1.m) [] false), (.int .i64 y6.1.kind), (.int .i64 y6.1.n), (.str y6.1.s), (.slice (List.map encValue y6.1.l) [] false), (.slice (List.map encMember y6.1.m) [] false)], [])) (fun q2 => (fun (p : Unit) => ∃ (i_60 : Int), r = (Ex.ret, [(.slice (List.map encNode l0) [] false), (.slice (List.map PV.str keys) [] false), (.bool false), (.ptr 0 5 0), (.ptr 0 7 0), (.int .i64 i_60), (.int .i64 y8.1.kind), (.int .i64 y8.1.n), (.str y8.1.s), (.slice (List.map encValue y8.1.l) [] false), (.slice (List.map encMember y8.1.m) [] false), (.int .i64 y6.1.kind), (.int .i64 y6.1.n), (.str y6.1.s), (.slice (List.map encValue y6.1.l) [] false), (.slice (List.map encMember y6.1.m) [] false)], [])) q2)
noncomputable def seinelaw32_TreeParts_B (l0 : List GNode) (keys : List Str) : Option Bool :=
  bnd (seinelaw32_Size (GNode.mk 0 false (GValue.mk 0 0 [] ([] : List GValue) ([] : List GMember)) keys l0)) fun y2 =>
  cnd (decide (y2 > 2000))
   (bnd (seinelaw32_awake) fun y4 =>
   some y4)
   (bnd (tree_Up (GNode.mk 1 false (GValue.mk 0 0 [] ([] : List GValue) ([] : List GMember)) ([] : List Str) l0)) fun y6 =>
   bnd (tree_Up (GNode.mk 2 false (GValue.mk 0 0 [] ([] : List GValue) ([] : List GMember)) keys l0)) fun y8 =>
   bnd (tloop (seinelaw32_TreeParts_l1T l0) (true, 0)) fun good_20 =>
   cnd (!good_20)
    (cnd (y6.1.kind == 0)
     (cnd (y8.1.kind == 0)
      (bnd (seinelaw32_awake) fun y24 =>
      some y24)
      (some false))
     (some false))
    (cnd (y6.1.kind != 6)
     (some false)
     (cnd (y8.1.kind != 7)
      (some false)
      (cnd ((List.length y6.1.l : Int) != (List.length l0 : Int))
       (some false)
       (cnd ((List.length y8.1.m : Int) != (List.length l0 : Int))
        (some false)
        (bnd (tloop (seinelaw32_TreeParts_l2T l0 keys y6 y8) 0) fun e61_2 => elim e61_2
        (fun p61 =>
         bnd (tree_At y6.1 [(GStep.mk [] (List.length l0 : Int))]) fun y63 =>
         cnd (!y63.2)
          (bnd (seinelaw32_awake) fun y65 =>
          some y65)
          (some false))
        (fun p61 =>
        some false)))))))
def seinelaw32_TreeParts_ds : Decs := { decs := [(23, (.int .i64)), (25, .bool), (29, (.tup [shValue, .bool])), (36, (.tup [shValue, .bool])), (48, (.ref shNode)), (50, (.tup [shValue, .bool])), (68, .bool), (103, (.ref shNode)), (105, (.tup [shValue, .bool])), (113, (.tup [shValue, .bool])), (121, .bool), (128, (.ref shMember)), (132, .bool), (144, (.ref shMember)), (149, (.ref .str)), (160, (.tup [shValue, .bool])), (166, .bool)], loops := [(7, ⟨[(.sl false), (.sl false), (.ptr 0 5 0), (.ptr 0 7 0), .bool, (.int .i64), (.int .i64), (.int .i64), .str, (.sl false), (.sl false), (.int .i64), (.int .i64), .str, (.sl false), (.sl false)], [], [(some 0, [(.sl false), (.sl false), (.ptr 0 5 0), (.ptr 0 7 0), .bool, (.int .i64), (.int .i64), (.int .i64), .str, (.sl false), (.sl false), (.int .i64), (.int .i64), .str, (.sl false), (.sl false)], [])]⟩), (16, ⟨[(.sl false), (.sl false), .bot, (.ptr 0 5 0), (.ptr 0 7 0), (.int .i64), (.int .i64), (.int .i64), .str, (.sl false), (.sl false), (.int .i64), (.int .i64), .str, (.sl false), (.sl false)], [], [(some 2, [(.sl false), (.sl false), .bot, (.ptr 0 5 0), (.ptr 0 7 0), (.int .i64), (.int .i64), (.int .i64), .str, (.sl false), (.sl false), (.int .i64), (.int .i64), .str, (.sl false), (.sl false)], []), (none, [(.sl false), (.sl false), .bool, (.ptr 0 5 0), (.ptr 0 7 0), (.int .i64), (.int .i64), (.int .i64), .str, (.sl false), (.sl false), (.int .i64), (.int .i64), .str, (.sl false), (.sl false)], [])]⟩)] }
set_option maxRecDepth 100000 in
theorem seinelaw32_TreeParts_t1 (O : Orc) (LP : LBody → LBody) (l0 : List GNode) (keys : List Str) : evalBodyD Try.prog (MT 8) seinelaw32_TreeParts_ds Try.f8.ntmps O LP Try.f8 [(.slice (List.map encNode l0) [] false), (.slice (List.map PV.str keys) [] false)] [] = seinelaw32_TreeParts_T1 O LP l0 keys := by kernel_rfl
theorem seinelaw32_TreeParts_l1_ok (l0 : List GNode) (keys : List Str) (y6 : GValue × Bool) (y8 : GValue × Bool) : ∀ st l u, seinelaw32_TreeParts_l1R l0 keys y6 y8 st l u → Imp (seinelaw32_TreeParts_l1T l0 st) (seinelaw32_TreeParts_l1 O loopLim l u) (StepR (seinelaw32_TreeParts_l1R l0 keys y6 y8) (seinelaw32_TreeParts_l1X l0 keys y6 y8)) := by
  rintro ⟨good_14, i_15⟩ l u ⟨rfl, rfl⟩
  simp only [seinelaw32_TreeParts_l1T, seinelaw32_TreeParts_l1]
  refine Imp.chk rfl (Imp.chk rfl ?_)
  try simp only [evs, tys]
  refine Imp.cnd ?_ ?_
  · refine Imp.op (f := fun a => .ref (encNode a)) (fun a h => op_ix (enc := encNode) (by first | rfl | simp only [evs, tys, evl]) ⟨by first | rfl | simp only [evs, tys, evc], by decide⟩ h) (fun a => chk_GNode a) fun y17 hy17 => ?_
    try simp only [evs, tys]
    refine Imp.call (f := tree_UpE) rfl (fun a h => by first | exact tree_Up_spec h | simpa only [evs, tys, evl] using tree_Up_spec h) (fun a => by first | rfl | simp only [tree_UpE, evk, chks]) fun y19 hy19 => ?_
    try simp only [tree_UpE, evs, tys]
    refine Imp.cnd ?_ ?_
    · exact Imp.some (StepR.next ⟨by first | rfl | simp only [evs, tys, evl], rfl⟩)
    · exact Imp.some (StepR.next ⟨by first | rfl | simp only [evs, tys, evl], rfl⟩)
  · exact Imp.some (StepR.brk ⟨i_15, by first | rfl | simp only [evs, tys, evl, elim_inl, elim_inr]⟩)
theorem seinelaw32_TreeParts_l2_ok (l0 : List GNode) (keys : List Str) (y6 : GValue × Bool) (y8 : GValue × Bool) : ∀ st l u, seinelaw32_TreeParts_l2R l0 keys y6 y8 st l u → Imp (seinelaw32_TreeParts_l2T l0 keys y6 y8 st) (seinelaw32_TreeParts_l2 O loopLim l u) (StepR (seinelaw32_TreeParts_l2R l0 keys y6 y8) (seinelaw32_TreeParts_l2X l0 keys y6 y8)) := by
  rintro i_42 l u ⟨rfl, rfl⟩
  simp only [seinelaw32_TreeParts_l2T, seinelaw32_TreeParts_l2]
  refine Imp.chk rfl (Imp.chk rfl ?_)
  try simp only [evs, tys]
  refine Imp.cnd ?_ ?_
  · refine Imp.op (f := fun a => .ref (encNode a)) (fun a h => op_ix (enc := encNode) (by first | rfl | simp only [evs, tys, evl]) ⟨by first | rfl | simp only [evs, tys, evc], by decide⟩ h) (fun a => chk_GNode a) fun y44 hy44 => ?_
    try simp only [evs, tys]
    refine Imp.call (f := tree_UpE) rfl (fun a h => by first | exact tree_Up_spec h | simpa only [evs, tys, evl] using tree_Up_spec h) (fun a => by first | rfl | simp only [tree_UpE, evk, chks]) fun y46 hy46 => ?_
    try simp only [tree_UpE, evs, tys]
    refine Imp.call (f := tree_AtE) rfl (fun a h => by first | exact tree_At_spec h | simpa only [evs, tys, evl] using tree_At_spec h) (fun a => by first | rfl | simp only [tree_AtE, evk, chks]) fun y48 hy48 => ?_
    try simp only [tree_AtE, evs, tys]
    refine Imp.cnd ?_ ?_
    · exact Imp.some (StepR.ret ⟨i_42, by first | rfl | simp only [evs, tys, evl, elim_inl, elim_inr]⟩)
    · refine Imp.call (f := seineref1_SameE) rfl (fun a h => by first | exact seineref1_Same_spec h | simpa only [evs, tys, evl] using seineref1_Same_spec h) (fun a => by first | rfl | simp only [seineref1_SameE, evk, chks]) fun y50 hy50 => ?_
      try simp only [seineref1_SameE, evs, tys]
      refine Imp.cnd ?_ ?_
      · exact Imp.some (StepR.ret ⟨i_42, by first | rfl | simp only [evs, tys, evl, elim_inl, elim_inr]⟩)
      · refine Imp.op (f := fun a => .ref (encMember a)) (fun a h => op_ix (enc := encMember) (by first | rfl | simp only [evs, tys, evl]) ⟨by first | rfl | simp only [evs, tys, evc], by decide⟩ h) (fun a => chk_GMember a) fun y52 hy52 => ?_
        try simp only [evs, tys]
        refine Imp.call (f := seineref1_SameE) rfl (fun a h => by first | exact seineref1_Same_spec h | simpa only [evs, tys, evl] using seineref1_Same_spec h) (fun a => by first | rfl | simp only [seineref1_SameE, evk, chks]) fun y54 hy54 => ?_
        try simp only [seineref1_SameE, evs, tys]
        refine Imp.cnd ?_ ?_
        · exact Imp.some (StepR.ret ⟨i_42, by first | rfl | simp only [evs, tys, evl, elim_inl, elim_inr]⟩)
        · refine Imp.cnd ?_ ?_
          · refine Imp.op (f := fun a => .ref (encMember a)) (fun a h => op_ix (enc := encMember) (by first | rfl | simp only [evs, tys, evl]) ⟨by first | rfl | simp only [evs, tys, evc], by decide⟩ h) (fun a => chk_GMember a) fun y56 hy56 => ?_
            try simp only [evs, tys]
            refine Imp.op (f := fun a => .ref (PV.str a)) (fun a h => op_ix (enc := PV.str) (by first | rfl | simp only [evs, tys, evl]) ⟨by first | rfl | simp only [evs, tys, evc], by decide⟩ h) (fun a => rfl) fun y58 hy58 => ?_
            try simp only [evs, tys]
            refine Imp.cnd ?_ ?_
            · exact Imp.some (StepR.ret ⟨i_42, by first | rfl | simp only [evs, tys, evl, elim_inl, elim_inr]⟩)
            · exact Imp.some (StepR.next ⟨by first | rfl | simp only [evs, tys, evl], rfl⟩)
          · exact Imp.some (StepR.next ⟨by first | rfl | simp only [evs, tys, evl], rfl⟩)
  · exact Imp.some (StepR.brk ⟨i_42, by first | rfl | simp only [evs, tys, evl, elim_inl, elim_inr]⟩)
theorem seinelaw32_TreeParts_imp (l0 : List GNode) (keys : List Str) : Imp (seinelaw32_TreeParts_B l0 keys) (seinelaw32_TreeParts_T1 O loopLim l0 keys) (fun r v => v = (seinelaw32_TreePartsE r, [])) := by
  simp only [seinelaw32_TreeParts_B, seinelaw32_TreeParts_T1]
  try simp only [evs, tys]
  refine Imp.call (f := seinelaw32_SizeE) rfl (fun a h => by first | exact seinelaw32_Size_spec h | simpa only [evs, tys, evl] using seinelaw32_Size_spec h) (fun a => by first | rfl | simp only [seinelaw32_SizeE, evk, chks]) fun y2 hy2 => ?_
  try simp only [seinelaw32_SizeE, evs, tys]
  refine Imp.cnd ?_ ?_
  · refine Imp.call (f := seinelaw32_awakeE) rfl (fun a h => by first | exact seinelaw32_awake_spec h | simpa only [evs, tys, evl] using seinelaw32_awake_spec h) (fun a => by first | rfl | simp only [seinelaw32_awakeE, evk, chks]) fun y4 hy4 => ?_
    try simp only [seinelaw32_awakeE, evs, tys]
    exact Imp.some (by first | rfl | simp only [seinelaw32_TreePartsE, evs, tys, evl])
  · refine Imp.call (f := tree_UpE) rfl (fun a h => by first | exact tree_Up_spec h | simpa only [evs, tys, evl] using tree_Up_spec h) (fun a => by first | rfl | simp only [tree_UpE, evk, chks]) fun y6 hy6 => ?_
    try simp only [tree_UpE, evs, tys]
    refine Imp.call (f := tree_UpE) rfl (fun a h => by first | exact tree_Up_spec h | simpa only [evs, tys, evl] using tree_Up_spec h) (fun a => by first | rfl | simp only [tree_UpE, evk, chks]) fun y8 hy8 => ?_
    try simp only [tree_UpE, evs, tys]
    refine Imp.bnd (Imp.loop (seinelaw32_TreeParts_l1_ok l0 keys y6 y8) ⟨by first | rfl | simp only [evs, tys, evl], rfl⟩) ?_
    rintro good_20 vy22 hy22
    obtain ⟨i_21, rfl⟩ := hy22
    refine Imp.exHit rfl (Imp.chk rfl (Imp.chk rfl ?_))
    try simp only [evs, tys]
    refine Imp.cnd ?_ ?_
    · refine Imp.cnd ?_ ?_
      · refine Imp.cnd ?_ ?_
        · refine Imp.call (f := seinelaw32_awakeE) rfl (fun a h => by first | exact seinelaw32_awake_spec h | simpa only [evs, tys, evl] using seinelaw32_awake_spec h) (fun a => by first | rfl | simp only [seinelaw32_awakeE, evk, chks]) fun y24 hy24 => ?_
          try simp only [seinelaw32_awakeE, evs, tys]
          exact Imp.some (by first | rfl | simp only [seinelaw32_TreePartsE, evs, tys, evl])
        · exact Imp.some (by first | rfl | simp only [seinelaw32_TreePartsE, evs, tys, evl])
      · exact Imp.some (by first | rfl | simp only [seinelaw32_TreePartsE, evs, tys, evl])
    · refine Imp.cnd ?_ ?_
      · exact Imp.some (by first | rfl | simp only [seinelaw32_TreePartsE, evs, tys, evl])
      · refine Imp.cnd ?_ ?_
        · exact Imp.some (by first | rfl | simp only [seinelaw32_TreePartsE, evs, tys, evl])
        · refine Imp.cnd ?_ ?_
          · exact Imp.some (by first | rfl | simp only [seinelaw32_TreePartsE, evs, tys, evl])
          · refine Imp.cnd ?_ ?_
            · exact Imp.some (by first | rfl | simp only [seinelaw32_TreePartsE, evs, tys, evl])
            · refine Imp.bnd (Imp.loop (seinelaw32_TreeParts_l2_ok l0 keys y6 y8) ⟨by first | rfl | simp only [evs, tys, evl], rfl⟩) ?_
              rintro (p | p) vy61 hy61
              · try simp only [elim_inl, elim_inr]
                obtain ⟨i_59, rfl⟩ := hy61
                refine Imp.exHit rfl (Imp.chk rfl (Imp.chk rfl ?_))
                try simp only [evs, tys]
                refine Imp.call (f := tree_AtE) rfl (fun a h => by first | exact tree_At_spec h | simpa only [evs, tys, evl] using tree_At_spec h) (fun a => by first | rfl | simp only [tree_AtE, evk, chks]) fun y63 hy63 => ?_
                try simp only [tree_AtE, evs, tys]
                refine Imp.cnd ?_ ?_
                · refine Imp.call (f := seinelaw32_awakeE) rfl (fun a h => by first | exact seinelaw32_awake_spec h | simpa only [evs, tys, evl] using seinelaw32_awake_spec h) (fun a => by first | rfl | simp only [seinelaw32_awakeE, evk, chks]) fun y65 hy65 => ?_
                  try simp only [seinelaw32_awakeE, evs, tys]
                  exact Imp.some (by first | rfl | simp only [seinelaw32_TreePartsE, evs, tys, evl])
                · exact Imp.some (by first | rfl | simp only [seinelaw32_TreePartsE, evs, tys, evl])
              · try simp only [elim_inl, elim_inr]
                obtain ⟨i_60, rfl⟩ := hy61
                refine Imp.exMiss rfl ?_
                refine Imp.exHit rfl (Imp.chk rfl (Imp.chk rfl ?_))
                try simp only [evs, tys]
                exact Imp.some (by first | rfl | simp only [seinelaw32_TreePartsE, evs, tys, evl])
theorem seinelaw32_TreeParts_run {l0 : List GNode} {keys : List Str} {r : Bool} (h : seinelaw32_TreeParts_B l0 keys = some r) : seinelaw32_TreeParts l0 keys = some r := by
  obtain ⟨v, hv, rfl⟩ := seinelaw32_TreeParts_imp l0 keys r h
  exact tO_of (pair_inj seinelaw32_TreePartsEj) (OL_runD seinelaw32_TreeParts_ds rfl Try.func8 ((seinelaw32_TreeParts_t1 _ _ l0 keys).trans hv))
end Go.Proofs.Ytoddajoeiamidaa

/- Printed by symgen.py: typed functions of this seat, and why they tell what the program does. -/
set_option linter.unusedVariables false
set_option linter.unusedSimpArgs false
open Go Go.Ev Go.Ev.PV
namespace Go.Proofs.Ytoddajoeiamidaa
def seinekeep_Size_l1 (O : Orc) (LP : LBody → LBody) : LBody := fun s1 s1u => cnd (chkL [(.ptr 0 1 0), (.int .i64), (.int .i64), (.int .i64), (.int .i64), .str, (.sl false), (.sl false)] s1) (cnd (chkU [] s1u)
  (cnd (decide ((intV (gt s1 2)) < (List.length (esV (gt s1 6)) : Int)))
   (bnd (ix 5 (.slice (esV (gt s1 6)) [] false) (.int .i64 (intV (gt s1 2)))) fun x8 => cnd (chk (.ref shValue) x8)
   (callp O 9 [(.agg [(.int .i64 (intV (gt (aggV (refV x8)) 0))), (.int .i64 (intV (gt (aggV (refV x8)) 1))), (.str (strV (gt (aggV (refV x8)) 2))), (.slice (esV (gt (aggV (refV x8)) 3)) [] false), (.slice (esV (gt (aggV (refV x8)) 4)) [] false)])] fun x10 => cnd (chk (.int .i64) x10)
   (some (.nrm, [(.ptr 0 1 0), (.int .i64 (IntKind.wrap .i64 ((intV (gt s1 1)) + (intV x10)))), (.int .i64 (IntKind.wrap .i64 ((intV (gt s1 2)) + 1))), (.int .i64 (intV (gt s1 3))), (.int .i64 (intV (gt s1 4))), (.str (strV (gt s1 5))), (.slice (esV (gt s1 6)) [] false), (.slice (esV (gt s1 7)) [] false)], [])) none) none)
   (some (.brk 0, [(.ptr 0 1 0), (.int .i64 (intV (gt s1 1))), (.int .i64 (intV (gt s1 2))), (.int .i64 (intV (gt s1 3))), (.int .i64 (intV (gt s1 4))), (.str (strV (gt s1 5))), (.slice (esV (gt s1 6)) [] false), (.slice (esV (gt s1 7)) [] false)], []))) none) none
def seinekeep_Size_l2 (O : Orc) (LP : LBody → LBody) : LBody := fun s15 s15u => cnd (chkL [(.ptr 0 1 0), (.int .i64), (.int .i64), (.int .i64), (.int .i64), .str, (.sl false), (.sl false)] s15) (cnd (chkU [] s15u)
  (cnd (decide ((intV (gt s15 2)) < (List.length (esV (gt s15 7)) : Int)))
   (bnd (ix 6 (.slice (esV (gt s15 7)) [] false) (.int .i64 (intV (gt s15 2)))) fun x24 => cnd (chk (.ref shMember) x24)
   (bnd (ix 6 (.slice (esV (gt s15 7)) [] false) (.int .i64 (intV (gt s15 2)))) fun x26 => cnd (chk (.ref shMember) x26)
   (callp O 9 [(.agg [(.int .i64 (intV (gt (aggV (refV x26)) 1))), (.int .i64 (intV (gt (aggV (refV x26)) 2))), (.str (strV (gt (aggV (refV x26)) 3))), (.slice (esV (gt (aggV (refV x26)) 4)) [] false), (.slice (esV (gt (aggV (refV x26)) 5)) [] false)])] fun x28 => cnd (chk (.int .i64) x28)
   (some (.nrm, [(.ptr 0 1 0), (.int .i64 (IntKind.wrap .i64 ((IntKind.wrap .i64 ((intV (gt s15 1)) + (List.length (strV (gt (aggV (refV x24)) 0)) : Int))) + (intV x28)))), (.int .i64 (IntKind.wrap .i64 ((intV (gt s15 2)) + 1))), (.int .i64 (intV (gt s15 3))), (.int .i64 (intV (gt s15 4))), (.str (strV (gt s15 5))), (.slice (esV (gt s15 6)) [] false), (.slice (esV (gt s15 7)) [] false)], [])) none) none) none)
   (some (.brk 2, [(.ptr 0 1 0), (.int .i64 (intV (gt s15 1))), (.int .i64 (intV (gt s15 2))), (.int .i64 (intV (gt s15 3))), (.int .i64 (intV (gt s15 4))), (.str (strV (gt s15 5))), (.slice (esV (gt s15 6)) [] false), (.slice (esV (gt s15 7)) [] false)], []))) none) none
def seinekeep_Size_T1 (O : Orc) (LP : LBody → LBody) (v0 : GValue) : Option (PV × UP) :=
  bnd (LP (seinekeep_Size_l1 O LP) [(.ptr 0 1 0), (.int .i64 (IntKind.wrap .i64 (1 + (List.length v0.s : Int)))), (.int .i64 0), (.int .i64 v0.kind), (.int .i64 v0.n), (.str v0.s), (.slice (List.map encValue v0.l) [] false), (.slice (List.map encMember v0.m) [] false)] []) fun y14 =>
  exIs y14.1 (some 0) (cnd (chkL [(.ptr 0 1 0), (.int .i64), (.int .i64), (.int .i64), (.int .i64), .str, (.sl false), (.sl false)] y14.2.1) (cnd (chkU [] y14.2.2)
   (bnd (LP (seinekeep_Size_l2 O LP) [(.ptr 0 1 0), (.int .i64 (intV (gt y14.2.1 1))), (.int .i64 0), (.int .i64 (intV (gt y14.2.1 3))), (.int .i64 (intV (gt y14.2.1 4))), (.str (strV (gt y14.2.1 5))), (.slice (esV (gt y14.2.1 6)) [] false), (.slice (esV (gt y14.2.1 7)) [] false)] []) fun y32 =>
   exIs y32.1 (some 2) (cnd (chkL [(.ptr 0 1 0), (.int .i64), (.int .i64), (.int .i64), (.int .i64), .str, (.sl false), (.sl false)] y32.2.1) (cnd (chkU [] y32.2.2)
    (some ((.int .i64 (intV (gt y32.2.1 1))), [])) none) none)
   (none)) none) none)
  (none)
noncomputable def seinekeep_Size_l1T (v0 : GValue) : (Int × Int) → Option ((Int × Int) ⊕ Int)
  | (n_6, i_7) =>
  cnd (decide (i_7 < (List.length v0.l : Int)))
   (bnd (nthI v0.l i_7) fun y9 =>
   bnd (seinekeep_Size y9) fun y11 =>
   some (.inl ((IntKind.wrap .i64 (n_6 + y11)), (IntKind.wrap .i64 (i_7 + 1)))))
   (some (.inr n_6))
abbrev seinekeep_Size_l1R (v0 : GValue) (st : Int × Int) (l : List PV) (u : UP) : Prop := l = [(.ptr 0 1 0), (.int .i64 st.1), (.int .i64 st.2), (.int .i64 v0.kind), (.int .i64 v0.n), (.str v0.s), (.slice (List.map encValue v0.l) [] false), (.slice (List.map encMember v0.m) [] false)] ∧ u = []
abbrev seinekeep_Size_l1X (v0 : GValue) (p : Int) (r : Ex × List PV × UP) : Prop := (fun (p : Int) => ∃ (i_13 : Int), r = (Ex.brk 0, [(.ptr 0 1 0), (.int .i64 p), (.int .i64 i_13), (.int .i64 v0.kind), (.int .i64 v0.n), (.str v0.s), (.slice (List.map encValue v0.l) [] false), (.slice (List.map encMember v0.m) [] false)], [])) p
noncomputable def seinekeep_Size_l2T (v0 : GValue) : (Int × Int) → Option ((Int × Int) ⊕ Int)
  | (n_22, i_23) =>
  cnd (decide (i_23 < (List.length v0.m : Int)))
   (bnd (nthI v0.m i_23) fun y25 =>
   bnd (nthI v0.m i_23) fun y27 =>
   bnd (seinekeep_Size y27.v) fun y29 =>
   some (.inl ((IntKind.wrap .i64 ((IntKind.wrap .i64 (n_22 + (List.length y25.name : Int))) + y29)), (IntKind.wrap .i64 (i_23 + 1)))))
   (some (.inr n_22))
abbrev seinekeep_Size_l2R (v0 : GValue) (st : Int × Int) (l : List PV) (u : UP) : Prop := l = [(.ptr 0 1 0), (.int .i64 st.1), (.int .i64 st.2), (.int .i64 v0.kind), (.int .i64 v0.n), (.str v0.s), (.slice (List.map encValue v0.l) [] false), (.slice (List.map encMember v0.m) [] false)] ∧ u = []
abbrev seinekeep_Size_l2X (v0 : GValue) (p : Int) (r : Ex × List PV × UP) : Prop := (fun (p : Int) => ∃ (i_31 : Int), r = (Ex.brk 2, [(.ptr 0 1 0), (.int .i64 p), (.int .i64 i_31), (.int .i64 v0.kind), (.int .i64 v0.n), (.str v0.s), (.slice (List.map encValue v0.l) [] false), (.slice (List.map encMember v0.m) [] false)], [])) p
noncomputable def seinekeep_Size_B (v0 : GValue) : Option Int :=
  bnd (tloop (seinekeep_Size_l1T v0) ((IntKind.wrap .i64 (1 + (List.length v0.s : Int))), 0)) fun n_12 =>
  bnd (tloop (seinekeep_Size_l2T v0) (n_12, 0)) fun n_30 =>
  some n_30
def seinekeep_Size_ds : Decs := { decs := [(21, (.ref shValue)), (23, (.int .i64)), (36, (.ref shMember)), (44, (.ref shMember)), (47, (.int .i64))], loops := [(3, ⟨[(.ptr 0 1 0), (.int .i64), (.int .i64), (.int .i64), (.int .i64), .str, (.sl false), (.sl false)], [], [(some 0, [(.ptr 0 1 0), (.int .i64), (.int .i64), (.int .i64), (.int .i64), .str, (.sl false), (.sl false)], [])]⟩), (7, ⟨[(.ptr 0 1 0), (.int .i64), (.int .i64), (.int .i64), (.int .i64), .str, (.sl false), (.sl false)], [], [(some 2, [(.ptr 0 1 0), (.int .i64), (.int .i64), (.int .i64), (.int .i64), .str, (.sl false), (.sl false)], [])]⟩)] }
set_option maxRecDepth 100000 in
theorem seinekeep_Size_t1 (O : Orc) (LP : LBody → LBody) (v0 : GValue) : evalBodyD Try.prog (MT 9) seinekeep_Size_ds Try.f9.ntmps O LP Try.f9 [(.agg [(.int .i64 v0.kind), (.int .i64 v0.n), (.str v0.s), (.slice (List.map encValue v0.l) [] false), (.slice (List.map encMember v0.m) [] false)])] [] = seinekeep_Size_T1 O LP v0 := by kernel_rfl
theorem seinekeep_Size_l1_ok (v0 : GValue) : ∀ st l u, seinekeep_Size_l1R v0 st l u → Imp (seinekeep_Size_l1T v0 st) (seinekeep_Size_l1 O loopLim l u) (StepR (seinekeep_Size_l1R v0) (seinekeep_Size_l1X v0)) := by
  rintro ⟨n_6, i_7⟩ l u ⟨rfl, rfl⟩
  simp only [seinekeep_Size_l1T, seinekeep_Size_l1]
  refine Imp.chk rfl (Imp.chk rfl ?_)
  try simp only [evs, tys]
  refine Imp.cnd ?_ ?_
  · refine Imp.op (f := fun a => .ref (encValue a)) (fun a h => op_ix (enc := encValue) (by first | rfl | simp only [evs, tys, evl]) ⟨by first | rfl | simp only [evs, tys, evc], by decide⟩ h) (fun a => chk_GValue a) fun y9 hy9 => ?_
    try simp only [evs, tys]
    refine Imp.call (f := seinekeep_SizeE) rfl (fun a h => by first | exact seinekeep_Size_spec h | simpa only [evs, tys, evl] using seinekeep_Size_spec h) (fun a => by first | rfl | simp only [seinekeep_SizeE, evk, chks]) fun y11 hy11 => ?_
    try simp only [seinekeep_SizeE, evs, tys]
    exact Imp.some (StepR.next ⟨by first | rfl | simp only [evs, tys, evl], rfl⟩)
  · exact Imp.some (StepR.brk ⟨i_7, by first | rfl | simp only [evs, tys, evl, elim_inl, elim_inr]⟩)
theorem seinekeep_Size_l2_ok (v0 : GValue) : ∀ st l u, seinekeep_Size_l2R v0 st l u → Imp (seinekeep_Size_l2T v0 st) (seinekeep_Size_l2 O loopLim l u) (StepR (seinekeep_Size_l2R v0) (seinekeep_Size_l2X v0)) := by
  rintro ⟨n_22, i_23⟩ l u ⟨rfl, rfl⟩
  simp only [seinekeep_Size_l2T, seinekeep_Size_l2]
  refine Imp.chk rfl (Imp.chk rfl ?_)
  try simp only [evs, tys]
  refine Imp.cnd ?_ ?_
  · refine Imp.op (f := fun a => .ref (encMember a)) (fun a h => op_ix (enc := encMember) (by first | rfl | simp only [evs, tys, evl]) ⟨by first | rfl | simp only [evs, tys, evc], by decide⟩ h) (fun a => chk_GMember a) fun y25 hy25 => ?_
    try simp only [evs, tys]
    refine Imp.op (f := fun a => .ref (encMember a)) (fun a h => op_ix (enc := encMember) (by first | rfl | simp only [evs, tys, evl]) ⟨by first | rfl | simp only [evs, tys, evc], by decide⟩ h) (fun a => chk_GMember a) fun y27 hy27 => ?_
    try simp only [evs, tys]
    refine Imp.call (f := seinekeep_SizeE) rfl (fun a h => by first | exact seinekeep_Size_spec h | simpa only [evs, tys, evl] using seinekeep_Size_spec h) (fun a => by first | rfl | simp only [seinekeep_SizeE, evk, chks]) fun y29 hy29 => ?_
    try simp only [seinekeep_SizeE, evs, tys]
    exact Imp.some (StepR.next ⟨by first | rfl | simp only [evs, tys, evl], rfl⟩)
  · exact Imp.some (StepR.brk ⟨i_23, by first | rfl | simp only [evs, tys, evl, elim_inl, elim_inr]⟩)
theorem seinekeep_Size_imp (v0 : GValue) : Imp (seinekeep_Size_B v0) (seinekeep_Size_T1 O loopLim v0) (fun r v => v = (seinekeep_SizeE r, [])) := by
  simp only [seinekeep_Size_B, seinekeep_Size_T1]
  try simp only [evs, tys]
  refine Imp.bnd (Imp.loop (seinekeep_Size_l1_ok v0) ⟨by first | rfl | simp only [evs, tys, evl], rfl⟩) ?_
  rintro n_12 vy14 hy14
  obtain ⟨i_13, rfl⟩ := hy14
  refine Imp.exHit rfl (Imp.chk rfl (Imp.chk rfl ?_))
  try simp only [evs, tys]
  refine Imp.bnd (Imp.loop (seinekeep_Size_l2_ok v0) ⟨by first | rfl | simp only [evs, tys, evl], rfl⟩) ?_
  rintro n_30 vy32 hy32
  obtain ⟨i_31, rfl⟩ := hy32
  refine Imp.exHit rfl (Imp.chk rfl (Imp.chk rfl ?_))
  try simp only [evs, tys]
  exact Imp.some (by first | rfl | simp only [seinekeep_SizeE, evs, tys, evl])
theorem seinekeep_Size_run {v0 : GValue} {r : Int} (h : seinekeep_Size_B v0 = some r) : seinekeep_Size v0 = some r := by
  obtain ⟨v, hv, rfl⟩ := seinekeep_Size_imp v0 r h
  exact tO_of (pair_inj seinekeep_SizeEj) (OL_runD seinekeep_Size_ds rfl Try.func9 ((seinekeep_Size_t1 _ _ v0).trans hv))

def seinelaw18_awake_T1 (O : Orc) (LP : LBody → LBody) : Option (PV × UP) :=
  callp O 23 [(.str [73, 110, 116]), (.int .i64 0)] fun x1 => cnd (chk shType x1)
  (callp O 23 [(.str [73, 110, 116]), (.int .i64 0)] fun x3 => cnd (chk shType x3)
  (callp O 23 [(.str [73, 110, 116]), (.int .i64 1)] fun x5 => cnd (chk shType x5)
  (callp O 11 [(.agg [(.str [120]), (.str (strV (gt (aggV x3) 0))), (.int .i64 (intV (gt (aggV x3) 1))), (.int .i64 (intV (gt (aggV x3) 2))), (.bool true), (.int .i64 2), (.int .i64 1), (.str []), (.slice [] [] false), (.slice [] [] false)]), (.agg [(.str (strV (gt (aggV x5) 0))), (.int .i64 (intV (gt (aggV x5) 1))), (.int .i64 (intV (gt (aggV x5) 2)))]), (.bool false)] fun x7 => cnd (chk .bool x7)
  (cnd (boolV x7)
   (callp O 23 [(.str [73, 110, 116]), (.int .i64 1)] fun x9 => cnd (chk shType x9)
   (callp O 11 [(.agg [(.str [120]), (.str (strV (gt (aggV x1) 0))), (.int .i64 (intV (gt (aggV x1) 1))), (.int .i64 (intV (gt (aggV x1) 2))), (.bool false), (.int .i64 0), (.int .i64 0), (.str []), (.slice [] [] false), (.slice [] [] false)]), (.agg [(.str (strV (gt (aggV x9) 0))), (.int .i64 (intV (gt (aggV x9) 1))), (.int .i64 (intV (gt (aggV x9) 2)))]), (.bool true)] fun x11 => cnd (chk .bool x11)
   (cnd (boolV x11)
    (callp O 23 [(.str [73, 110, 116]), (.int .i64 1)] fun x13 => cnd (chk shType x13)
    (callp O 11 [(.agg [(.str [120]), (.str (strV (gt (aggV x1) 0))), (.int .i64 (intV (gt (aggV x1) 1))), (.int .i64 (intV (gt (aggV x1) 2))), (.bool false), (.int .i64 0), (.int .i64 0), (.str []), (.slice [] [] false), (.slice [] [] false)]), (.agg [(.str (strV (gt (aggV x13) 0))), (.int .i64 (intV (gt (aggV x13) 1))), (.int .i64 (intV (gt (aggV x13) 2)))]), (.bool false)] fun x15 => cnd (chk .bool x15)
    (some ((.bool (!(boolV x15))), [])) none) none)
    (some ((.bool false), []))) none) none)
   (some ((.bool false), []))) none) none) none) none
noncomputable def seinelaw18_awake_B : Option Bool :=
  bnd (seinelaw18_typ [73, 110, 116] 0) fun y2 =>
  bnd (seinelaw18_typ [73, 110, 116] 0) fun y4 =>
  bnd (seinelaw18_typ [73, 110, 116] 1) fun y6 =>
  bnd (usage_Allowed (GVarDef.mk [120] y4 true (GValue.mk 2 1 [] ([] : List GValue) ([] : List GMember))) y6 false) fun y8 =>
  cnd y8
   (bnd (seinelaw18_typ [73, 110, 116] 1) fun y10 =>
   bnd (usage_Allowed (GVarDef.mk [120] y2 false (GValue.mk 0 0 [] ([] : List GValue) ([] : List GMember))) y10 true) fun y12 =>
   cnd y12
    (bnd (seinelaw18_typ [73, 110, 116] 1) fun y14 =>
    bnd (usage_Allowed (GVarDef.mk [120] y2 false (GValue.mk 0 0 [] ([] : List GValue) ([] : List GMember))) y14 false) fun y16 =>
    some (!y16))
    (some false))
   (some false)
def seinelaw18_awake_ds : Decs := { decs := [(3, shType), (5, shType), (9, shType), (10, .bool), (13, shType), (14, .bool), (18, shType), (19, .bool)], loops := [] }
set_option maxRecDepth 100000 in
theorem seinelaw18_awake_t1 (O : Orc) (LP : LBody → LBody) : evalBodyD Try.prog (MT 10) seinelaw18_awake_ds Try.f10.ntmps O LP Try.f10 [] [] = seinelaw18_awake_T1 O LP := by kernel_rfl
theorem seinelaw18_awake_imp : Imp (seinelaw18_awake_B) (seinelaw18_awake_T1 O loopLim) (fun r v => v = (seinelaw18_awakeE r, [])) := by
  simp only [seinelaw18_awake_B, seinelaw18_awake_T1]
  try simp only [evs, tys]
  refine Imp.call (f := seinelaw18_typE) rfl (fun a h => by first | exact seinelaw18_typ_spec h | simpa only [evs, tys, evl] using seinelaw18_typ_spec h) (fun a => by first | rfl | simp only [seinelaw18_typE, evk, chks]) fun y2 hy2 => ?_
  try simp only [seinelaw18_typE, evs, tys]
  refine Imp.call (f := seinelaw18_typE) rfl (fun a h => by first | exact seinelaw18_typ_spec h | simpa only [evs, tys, evl] using seinelaw18_typ_spec h) (fun a => by first | rfl | simp only [seinelaw18_typE, evk, chks]) fun y4 hy4 => ?_
  try simp only [seinelaw18_typE, evs, tys]
  refine Imp.call (f := seinelaw18_typE) rfl (fun a h => by first | exact seinelaw18_typ_spec h | simpa only [evs, tys, evl] using seinelaw18_typ_spec h) (fun a => by first | rfl | simp only [seinelaw18_typE, evk, chks]) fun y6 hy6 => ?_
  try simp only [seinelaw18_typE, evs, tys]
  refine Imp.call (f := usage_AllowedE) rfl (fun a h => by first | exact usage_Allowed_spec h | simpa only [evs, tys, evl] using usage_Allowed_spec h) (fun a => by first | rfl | simp only [usage_AllowedE, evk, chks]) fun y8 hy8 => ?_
  try simp only [usage_AllowedE, evs, tys]
  refine Imp.cnd ?_ ?_
  · refine Imp.call (f := seinelaw18_typE) rfl (fun a h => by first | exact seinelaw18_typ_spec h | simpa only [evs, tys, evl] using seinelaw18_typ_spec h) (fun a => by first | rfl | simp only [seinelaw18_typE, evk, chks]) fun y10 hy10 => ?_
    try simp only [seinelaw18_typE, evs, tys]
    refine Imp.call (f := usage_AllowedE) rfl (fun a h => by first | exact usage_Allowed_spec h | simpa only [evs, tys, evl] using usage_Allowed_spec h) (fun a => by first | rfl | simp only [usage_AllowedE, evk, chks]) fun y12 hy12 => ?_
    try simp only [usage_AllowedE, evs, tys]
    refine Imp.cnd ?_ ?_
    · refine Imp.call (f := seinelaw18_typE) rfl (fun a h => by first | exact seinelaw18_typ_spec h | simpa only [evs, tys, evl] using seinelaw18_typ_spec h) (fun a => by first | rfl | simp only [seinelaw18_typE, evk, chks]) fun y14 hy14 => ?_
      try simp only [seinelaw18_typE, evs, tys]
      refine Imp.call (f := usage_AllowedE) rfl (fun a h => by first | exact usage_Allowed_spec h | simpa only [evs, tys, evl] using usage_Allowed_spec h) (fun a => by first | rfl | simp only [usage_AllowedE, evk, chks]) fun y16 hy16 => ?_
      try simp only [usage_AllowedE, evs, tys]
      exact Imp.some (by first | rfl | simp only [seinelaw18_awakeE, evs, tys, evl])
    · exact Imp.some (by first | rfl | simp only [seinelaw18_awakeE, evs, tys, evl])
  · exact Imp.some (by first | rfl | simp only [seinelaw18_awakeE, evs, tys, evl])
theorem seinelaw18_awake_run {r : Bool} (h : seinelaw18_awake_B = some r) : seinelaw18_awake = some r := by
  obtain ⟨v, hv, rfl⟩ := seinelaw18_awake_imp r h
  exact tO_of (pair_inj seinelaw18_awakeEj) (OL_runD seinelaw18_awake_ds rfl Try.func10 ((seinelaw18_awake_t1 _ _).trans hv))

def usage_Allowed_T1 (O : Orc) (LP : LBody → LBody) (v0 : GVarDef) (t : GType) (has0 : Bool) : Option (PV × UP) :=
  callp O 24 [(.agg [(.str t.name), (.int .i64 t.lists), (.int .i64 t.musts)])] fun x1 => cnd (chk .bool x1)
  (cnd (!(boolV x1))
   (callp O 25 [(.agg [(.str v0.t.name), (.int .i64 v0.t.lists), (.int .i64 v0.t.musts)]), (.agg [(.str t.name), (.int .i64 t.lists), (.int .i64 t.musts)])] fun x3 => cnd (chk .bool x3)
   (some ((.bool (boolV x3)), [])) none)
   (callp O 24 [(.agg [(.str v0.t.name), (.int .i64 v0.t.lists), (.int .i64 v0.t.musts)])] fun x5 => cnd (chk .bool x5)
   (cnd (boolV x5)
    (callp O 25 [(.agg [(.str v0.t.name), (.int .i64 v0.t.lists), (.int .i64 v0.t.musts)]), (.agg [(.str t.name), (.int .i64 t.lists), (.int .i64 t.musts)])] fun x7 => cnd (chk .bool x7)
    (some ((.bool (boolV x7)), [])) none)
    (cnd has0
     (callp O 15 [(.agg [(.str t.name), (.int .i64 t.lists), (.int .i64 t.musts)])] fun x9 => cnd (chk shType x9)
     (callp O 25 [(.agg [(.str v0.t.name), (.int .i64 v0.t.lists), (.int .i64 v0.t.musts)]), (.agg [(.str (strV (gt (aggV x9) 0))), (.int .i64 (intV (gt (aggV x9) 1))), (.int .i64 (intV (gt (aggV x9) 2)))])] fun x11 => cnd (chk .bool x11)
     (some ((.bool (boolV x11)), [])) none) none)
     (cnd v0.has
      (cnd (v0.default.kind != 0)
       (callp O 15 [(.agg [(.str t.name), (.int .i64 t.lists), (.int .i64 t.musts)])] fun x13 => cnd (chk shType x13)
       (callp O 25 [(.agg [(.str v0.t.name), (.int .i64 v0.t.lists), (.int .i64 v0.t.musts)]), (.agg [(.str (strV (gt (aggV x13) 0))), (.int .i64 (intV (gt (aggV x13) 1))), (.int .i64 (intV (gt (aggV x13) 2)))])] fun x15 => cnd (chk .bool x15)
       (some ((.bool (boolV x15)), [])) none) none)
       (some ((.bool false), [])))
      (some ((.bool false), []))))) none)) none
noncomputable def usage_Allowed_B (v0 : GVarDef) (t : GType) (has0 : Bool) : Option Bool :=
  bnd (wrap_Is t) fun y2 =>
  cnd (!y2)
   (bnd (wrap_Sub v0.t t) fun y4 =>
   some y4)
   (bnd (wrap_Is v0.t) fun y6 =>
   cnd y6
    (bnd (wrap_Sub v0.t t) fun y8 =>
    some y8)
    (cnd has0
     (bnd (wrap_Bare t) fun y10 =>
     bnd (wrap_Sub v0.t y10) fun y12 =>
     some y12)
     (cnd v0.has
      (cnd (v0.default.kind != 0)
       (bnd (wrap_Bare t) fun y14 =>
       bnd (wrap_Sub v0.t y14) fun y16 =>
       some y16)
       (some false))
      (some false))))
def usage_Allowed_ds : Decs := { decs := [(8, .bool), (13, .bool), (18, .bool), (34, shType), (35, .bool)], loops := [] }
set_option maxRecDepth 100000 in
theorem usage_Allowed_t1 (O : Orc) (LP : LBody → LBody) (v0 : GVarDef) (t : GType) (has0 : Bool) : evalBodyD Try.prog (MT 11) usage_Allowed_ds Try.f11.ntmps O LP Try.f11 [(.agg [(.str v0.name), (.str v0.t.name), (.int .i64 v0.t.lists), (.int .i64 v0.t.musts), (.bool v0.has), (.int .i64 v0.default.kind), (.int .i64 v0.default.n), (.str v0.default.s), (.slice (List.map encValue v0.default.l) [] false), (.slice (List.map encMember v0.default.m) [] false)]), (.agg [(.str t.name), (.int .i64 t.lists), (.int .i64 t.musts)]), (.bool has0)] [] = usage_Allowed_T1 O LP v0 t has0 := by kernel_rfl
theorem usage_Allowed_imp (v0 : GVarDef) (t : GType) (has0 : Bool) : Imp (usage_Allowed_B v0 t has0) (usage_Allowed_T1 O loopLim v0 t has0) (fun r v => v = (usage_AllowedE r, [])) := by
  simp only [usage_Allowed_B, usage_Allowed_T1]
  try simp only [evs, tys]
  refine Imp.call (f := wrap_IsE) rfl (fun a h => by first | exact wrap_Is_spec h | simpa only [evs, tys, evl] using wrap_Is_spec h) (fun a => by first | rfl | simp only [wrap_IsE, evk, chks]) fun y2 hy2 => ?_
  try simp only [wrap_IsE, evs, tys]
  refine Imp.cnd ?_ ?_
  · refine Imp.call (f := wrap_SubE) rfl (fun a h => by first | exact wrap_Sub_spec h | simpa only [evs, tys, evl] using wrap_Sub_spec h) (fun a => by first | rfl | simp only [wrap_SubE, evk, chks]) fun y4 hy4 => ?_
    try simp only [wrap_SubE, evs, tys]
    exact Imp.some (by first | rfl | simp only [usage_AllowedE, evs, tys, evl])
  · refine Imp.call (f := wrap_IsE) rfl (fun a h => by first | exact wrap_Is_spec h | simpa only [evs, tys, evl] using wrap_Is_spec h) (fun a => by first | rfl | simp only [wrap_IsE, evk, chks]) fun y6 hy6 => ?_
    try simp only [wrap_IsE, evs, tys]
    refine Imp.cnd ?_ ?_
    · refine Imp.call (f := wrap_SubE) rfl (fun a h => by first | exact wrap_Sub_spec h | simpa only [evs, tys, evl] using wrap_Sub_spec h) (fun a => by first | rfl | simp only [wrap_SubE, evk, chks]) fun y8 hy8 => ?_
      try simp only [wrap_SubE, evs, tys]
      exact Imp.some (by first | rfl | simp only [usage_AllowedE, evs, tys, evl])
    · refine Imp.cnd ?_ ?_
      · refine Imp.call (f := wrap_BareE) rfl (fun a h => by first | exact wrap_Bare_spec h | simpa only [evs, tys, evl] using wrap_Bare_spec h) (fun a => by first | rfl | simp only [wrap_BareE, evk, chks]) fun y10 hy10 => ?_
        try simp only [wrap_BareE, evs, tys]
        refine Imp.call (f := wrap_SubE) rfl (fun a h => by first | exact wrap_Sub_spec h | simpa only [evs, tys, evl] using wrap_Sub_spec h) (fun a => by first | rfl | simp only [wrap_SubE, evk, chks]) fun y12 hy12 => ?_
        try simp only [wrap_SubE, evs, tys]
        exact Imp.some (by first | rfl | simp only [usage_AllowedE, evs, tys, evl])
      · refine Imp.cnd ?_ ?_
        · refine Imp.cnd ?_ ?_
          · refine Imp.call (f := wrap_BareE) rfl (fun a h => by first | exact wrap_Bare_spec h | simpa only [evs, tys, evl] using wrap_Bare_spec h) (fun a => by first | rfl | simp only [wrap_BareE, evk, chks]) fun y14 hy14 => ?_
            try simp only [wrap_BareE, evs, tys]
            refine Imp.call (f := wrap_SubE) rfl (fun a h => by first | exact wrap_Sub_spec h | simpa only [evs, tys, evl] using wrap_Sub_spec h) (fun a => by first | rfl | simp only [wrap_SubE, evk, chks]) fun y16 hy16 => ?_
            try simp only [wrap_SubE, evs, tys]
            exact Imp.some (by first | rfl | simp only [usage_AllowedE, evs, tys, evl])
          · exact Imp.some (by first | rfl | simp only [usage_AllowedE, evs, tys, evl])
        · exact Imp.some (by first | rfl | simp only [usage_AllowedE, evs, tys, evl])
theorem usage_Allowed_run {v0 : GVarDef} {t : GType} {has0 : Bool} {r : Bool} (h : usage_Allowed_B v0 t has0 = some r) : usage_Allowed v0 t has0 = some r := by
  obtain ⟨v, hv, rfl⟩ := usage_Allowed_imp v0 t has0 r h
  exact tO_of (pair_inj usage_AllowedEj) (OL_runD usage_Allowed_ds rfl Try.func11 ((usage_Allowed_t1 _ _ v0 t has0).trans hv))

def seineref13_Allowed_T1 (O : Orc) (LP : LBody → LBody) (v0 : GVarDef) (t : GType) (has0 : Bool) : Option (PV × UP) :=
  callp O 26 [(.agg [(.str t.name), (.int .i64 t.lists), (.int .i64 t.musts)])] fun x1 => cnd (chk .bool x1)
  (cnd (boolV x1)
   (callp O 26 [(.agg [(.str v0.t.name), (.int .i64 v0.t.lists), (.int .i64 v0.t.musts)])] fun x3 => cnd (chk .bool x3)
   (cnd (!(boolV x3))
    (cnd (!has0)
     (cnd (!v0.has)
      (some ((.bool false), []))
      (cnd (v0.default.kind == 0)
       (some ((.bool false), []))
       (callp O 27 [(.agg [(.str t.name), (.int .i64 t.lists), (.int .i64 t.musts)])] fun x5 => cnd (chk shType x5)
       (callp O 28 [(.agg [(.str v0.t.name), (.int .i64 v0.t.lists), (.int .i64 v0.t.musts)]), (.agg [(.str (strV (gt (aggV x5) 0))), (.int .i64 (intV (gt (aggV x5) 1))), (.int .i64 (intV (gt (aggV x5) 2)))])] fun x7 => cnd (chk .bool x7)
       (some ((.bool (boolV x7)), [])) none) none)))
     (callp O 27 [(.agg [(.str t.name), (.int .i64 t.lists), (.int .i64 t.musts)])] fun x9 => cnd (chk shType x9)
     (callp O 28 [(.agg [(.str v0.t.name), (.int .i64 v0.t.lists), (.int .i64 v0.t.musts)]), (.agg [(.str (strV (gt (aggV x9) 0))), (.int .i64 (intV (gt (aggV x9) 1))), (.int .i64 (intV (gt (aggV x9) 2)))])] fun x11 => cnd (chk .bool x11)
     (some ((.bool (boolV x11)), [])) none) none))
    (callp O 28 [(.agg [(.str v0.t.name), (.int .i64 v0.t.lists), (.int .i64 v0.t.musts)]), (.agg [(.str t.name), (.int .i64 t.lists), (.int .i64 t.musts)])] fun x13 => cnd (chk .bool x13)
    (some ((.bool (boolV x13)), [])) none)) none)
   (callp O 28 [(.agg [(.str v0.t.name), (.int .i64 v0.t.lists), (.int .i64 v0.t.musts)]), (.agg [(.str t.name), (.int .i64 t.lists), (.int .i64 t.musts)])] fun x15 => cnd (chk .bool x15)
   (some ((.bool (boolV x15)), [])) none)) none
noncomputable def seineref13_Allowed_B (v0 : GVarDef) (t : GType) (has0 : Bool) : Option Bool :=
  bnd (seineref1_Is t) fun y2 =>
  cnd y2
   (bnd (seineref1_Is v0.t) fun y4 =>
   cnd (!y4)
    (cnd (!has0)
     (cnd (!v0.has)
      (some false)
      (cnd (v0.default.kind == 0)
       (some false)
       (bnd (seineref1_Bare t) fun y6 =>
       bnd (seineref1_SubType v0.t y6) fun y8 =>
       some y8)))
     (bnd (seineref1_Bare t) fun y10 =>
     bnd (seineref1_SubType v0.t y10) fun y12 =>
     some y12))
    (bnd (seineref1_SubType v0.t t) fun y14 =>
    some y14))
   (bnd (seineref1_SubType v0.t t) fun y16 =>
   some y16)
def seineref13_Allowed_ds : Decs := { decs := [(8, .bool), (12, .bool), (29, shType), (33, .bool)], loops := [] }
set_option maxRecDepth 100000 in
theorem seineref13_Allowed_t1 (O : Orc) (LP : LBody → LBody) (v0 : GVarDef) (t : GType) (has0 : Bool) : evalBodyD Try.prog (MT 12) seineref13_Allowed_ds Try.f12.ntmps O LP Try.f12 [(.agg [(.str v0.name), (.str v0.t.name), (.int .i64 v0.t.lists), (.int .i64 v0.t.musts), (.bool v0.has), (.int .i64 v0.default.kind), (.int .i64 v0.default.n), (.str v0.default.s), (.slice (List.map encValue v0.default.l) [] false), (.slice (List.map encMember v0.default.m) [] false)]), (.agg [(.str t.name), (.int .i64 t.lists), (.int .i64 t.musts)]), (.bool has0)] [] = seineref13_Allowed_T1 O LP v0 t has0 := by kernel_rfl
theorem seineref13_Allowed_imp (v0 : GVarDef) (t : GType) (has0 : Bool) : Imp (seineref13_Allowed_B v0 t has0) (seineref13_Allowed_T1 O loopLim v0 t has0) (fun r v => v = (seineref13_AllowedE r, [])) := by
  simp only [seineref13_Allowed_B, seineref13_Allowed_T1]
  try simp only [evs, tys]
  refine Imp.call (f := seineref1_IsE) rfl (fun a h => by first | exact seineref1_Is_spec h | simpa only [evs, tys, evl] using seineref1_Is_spec h) (fun a => by first | rfl | simp only [seineref1_IsE, evk, chks]) fun y2 hy2 => ?_
  try simp only [seineref1_IsE, evs, tys]
  refine Imp.cnd ?_ ?_
  · refine Imp.call (f := seineref1_IsE) rfl (fun a h => by first | exact seineref1_Is_spec h | simpa only [evs, tys, evl] using seineref1_Is_spec h) (fun a => by first | rfl | simp only [seineref1_IsE, evk, chks]) fun y4 hy4 => ?_
    try simp only [seineref1_IsE, evs, tys]
    refine Imp.cnd ?_ ?_
    · refine Imp.cnd ?_ ?_
      · refine Imp.cnd ?_ ?_
        · exact Imp.some (by first | rfl | simp only [seineref13_AllowedE, evs, tys, evl])
        · refine Imp.cnd ?_ ?_
          · exact Imp.some (by first | rfl | simp only [seineref13_AllowedE, evs, tys, evl])
          · refine Imp.call (f := seineref1_BareE) rfl (fun a h => by first | exact seineref1_Bare_spec h | simpa only [evs, tys, evl] using seineref1_Bare_spec h) (fun a => by first | rfl | simp only [seineref1_BareE, evk, chks]) fun y6 hy6 => ?_
            try simp only [seineref1_BareE, evs, tys]
            refine Imp.call (f := seineref1_SubTypeE) rfl (fun a h => by first | exact seineref1_SubType_spec h | simpa only [evs, tys, evl] using seineref1_SubType_spec h) (fun a => by first | rfl | simp only [seineref1_SubTypeE, evk, chks]) fun y8 hy8 => ?_
            try simp only [seineref1_SubTypeE, evs, tys]
            exact Imp.some (by first | rfl | simp only [seineref13_AllowedE, evs, tys, evl])
      · refine Imp.call (f := seineref1_BareE) rfl (fun a h => by first | exact seineref1_Bare_spec h | simpa only [evs, tys, evl] using seineref1_Bare_spec h) (fun a => by first | rfl | simp only [seineref1_BareE, evk, chks]) fun y10 hy10 => ?_
        try simp only [seineref1_BareE, evs, tys]
        refine Imp.call (f := seineref1_SubTypeE) rfl (fun a h => by first | exact seineref1_SubType_spec h | simpa only [evs, tys, evl] using seineref1_SubType_spec h) (fun a => by first | rfl | simp only [seineref1_SubTypeE, evk, chks]) fun y12 hy12 => ?_
        try simp only [seineref1_SubTypeE, evs, tys]
        exact Imp.some (by first | rfl | simp only [seineref13_AllowedE, evs, tys, evl])
    · refine Imp.call (f := seineref1_SubTypeE) rfl (fun a h => by first | exact seineref1_SubType_spec h | simpa only [evs, tys, evl] using seineref1_SubType_spec h) (fun a => by first | rfl | simp only [seineref1_SubTypeE, evk, chks]) fun y14 hy14 => ?_
      try simp only [seineref1_SubTypeE, evs, tys]
      exact Imp.some (by first | rfl | simp only [seineref13_AllowedE, evs, tys, evl])
  · refine Imp.call (f := seineref1_SubTypeE) rfl (fun a h => by first | exact seineref1_SubType_spec h | simpa only [evs, tys, evl] using seineref1_SubType_spec h) (fun a => by first | rfl | simp only [seineref1_SubTypeE, evk, chks]) fun y16 hy16 => ?_
    try simp only [seineref1_SubTypeE, evs, tys]
    exact Imp.some (by first | rfl | simp only [seineref13_AllowedE, evs, tys, evl])
theorem seineref13_Allowed_run {v0 : GVarDef} {t : GType} {has0 : Bool} {r : Bool} (h : seineref13_Allowed_B v0 t has0 = some r) : seineref13_Allowed v0 t has0 = some r := by
  obtain ⟨v, hv, rfl⟩ := seineref13_Allowed_imp v0 t has0 r h
  exact tO_of (pair_inj seineref13_AllowedEj) (OL_runD seineref13_Allowed_ds rfl Try.func12 ((seineref13_Allowed_t1 _ _ v0 t has0).trans hv))

def wrap_Right_T1 (O : Orc) (LP : LBody → LBody) (t : GType) : Option (PV × UP) :=
  callp O 29 [(.str t.name)] fun x1 => cnd (chk .bool x1)
  (cnd (boolV x1)
   (cnd (decide (t.lists ≥ 0))
    (cnd (decide (t.lists ≤ 4))
     (cnd (decide (t.musts ≥ 0))
      (bnd (bin .shr (.int .i64 t.musts) (.int .i64 (IntKind.wrap .i64 (t.lists + 1)))) fun x3 => cnd (chk (.int .i64) x3)
      (some ((.bool ((intV x3) == 0)), [])) none)
      (some ((.bool false), [])))
     (some ((.bool false), [])))
    (some ((.bool false), [])))
   (some ((.bool false), []))) none
noncomputable def wrap_Right_B (t : GType) : Option Bool :=
  bnd (letters_Name t.name) fun y2 =>
  cnd y2
   (cnd (decide (t.lists ≥ 0))
    (cnd (decide (t.lists ≤ 4))
     (cnd (decide (t.musts ≥ 0))
      (bnd (tshr .i64 t.musts (IntKind.wrap .i64 (t.lists + 1))) fun y4 =>
      some (y4 == 0))
      (some false))
     (some false))
    (some false))
   (some false)
def wrap_Right_ds : Decs := { decs := [(5, .bool), (27, (.int .i64))], loops := [] }
set_option maxRecDepth 100000 in
theorem wrap_Right_t1 (O : Orc) (LP : LBody → LBody) (t : GType) : evalBodyD Try.prog (MT 13) wrap_Right_ds Try.f13.ntmps O LP Try.f13 [(.agg [(.str t.name), (.int .i64 t.lists), (.int .i64 t.musts)])] [] = wrap_Right_T1 O LP t := by kernel_rfl
theorem wrap_Right_imp (t : GType) : Imp (wrap_Right_B t) (wrap_Right_T1 O loopLim t) (fun r v => v = (wrap_RightE r, [])) := by
  simp only [wrap_Right_B, wrap_Right_T1]
  try simp only [evs, tys]
  refine Imp.call (f := letters_NameE) rfl (fun a h => by first | exact letters_Name_spec h | simpa only [evs, tys, evl] using letters_Name_spec h) (fun a => by first | rfl | simp only [letters_NameE, evk, chks]) fun y2 hy2 => ?_
  try simp only [letters_NameE, evs, tys]
  refine Imp.cnd ?_ ?_
  · refine Imp.cnd ?_ ?_
    · refine Imp.cnd ?_ ?_
      · refine Imp.cnd ?_ ?_
        · refine Imp.op (f := fun a => .int _ a) (fun a h => op_shr h) (fun a => rfl) fun y4 hy4 => ?_
          try simp only [evs, tys]
          exact Imp.some (by first | rfl | simp only [wrap_RightE, evs, tys, evl])
        · exact Imp.some (by first | rfl | simp only [wrap_RightE, evs, tys, evl])
      · exact Imp.some (by first | rfl | simp only [wrap_RightE, evs, tys, evl])
    · exact Imp.some (by first | rfl | simp only [wrap_RightE, evs, tys, evl])
  · exact Imp.some (by first | rfl | simp only [wrap_RightE, evs, tys, evl])
theorem wrap_Right_run {t : GType} {r : Bool} (h : wrap_Right_B t = some r) : wrap_Right t = some r := by
  obtain ⟨v, hv, rfl⟩ := wrap_Right_imp t r h
  exact tO_of (pair_inj wrap_RightEj) (OL_runD wrap_Right_ds rfl Try.func13 ((wrap_Right_t1 _ _ t).trans hv))

def wrap_Must_T1 (O : Orc) (LP : LBody → LBody) (t : GType) : Option (PV × UP) :=
  callp O 13 [(.agg [(.str t.name), (.int .i64 t.lists), (.int .i64 t.musts)])] fun x1 => cnd (chk .bool x1)
  (cnd (boolV x1)
   (some ((.agg [(.str t.name), (.int .i64 t.lists), (.int .i64 (bits .or .i64 t.musts 1))]), []))
   (some ((.agg [(.str t.name), (.int .i64 t.lists), (.int .i64 t.musts)]), []))) none
noncomputable def wrap_Must_B (t : GType) : Option GType :=
  bnd (wrap_Right t) fun y2 =>
  cnd y2
   (some (GType.mk t.name t.lists (bits .or .i64 t.musts 1)))
   (some t)
def wrap_Must_ds : Decs := { decs := [(4, .bool)], loops := [] }
set_option maxRecDepth 100000 in
theorem wrap_Must_t1 (O : Orc) (LP : LBody → LBody) (t : GType) : evalBodyD Try.prog (MT 14) wrap_Must_ds Try.f14.ntmps O LP Try.f14 [(.agg [(.str t.name), (.int .i64 t.lists), (.int .i64 t.musts)])] [] = wrap_Must_T1 O LP t := by kernel_rfl
theorem wrap_Must_imp (t : GType) : Imp (wrap_Must_B t) (wrap_Must_T1 O loopLim t) (fun r v => v = (wrap_MustE r, [])) := by
  simp only [wrap_Must_B, wrap_Must_T1]
  try simp only [evs, tys]
  refine Imp.call (f := wrap_RightE) rfl (fun a h => by first | exact wrap_Right_spec h | simpa only [evs, tys, evl] using wrap_Right_spec h) (fun a => by first | rfl | simp only [wrap_RightE, evk, chks]) fun y2 hy2 => ?_
  try simp only [wrap_RightE, evs, tys]
  refine Imp.cnd ?_ ?_
  · exact Imp.some (by first | rfl | simp only [wrap_MustE, evs, tys, evl])
  · exact Imp.some (by first | rfl | simp only [wrap_MustE, evs, tys, evl])
theorem wrap_Must_run {t : GType} {r : GType} (h : wrap_Must_B t = some r) : wrap_Must t = some r := by
  obtain ⟨v, hv, rfl⟩ := wrap_Must_imp t r h
  exact tO_of (pair_inj wrap_MustEj) (OL_runD wrap_Must_ds rfl Try.func14 ((wrap_Must_t1 _ _ t).trans hv))

def wrap_Bare_T1 (O : Orc) (LP : LBody → LBody) (t : GType) : Option (PV × UP) :=
  callp O 13 [(.agg [(.str t.name), (.int .i64 t.lists), (.int .i64 t.musts)])] fun x1 => cnd (chk .bool x1)
  (cnd (boolV x1)
   (some ((.agg [(.str t.name), (.int .i64 t.lists), (.int .i64 (bits .andNot .i64 t.musts 1))]), []))
   (some ((.agg [(.str t.name), (.int .i64 t.lists), (.int .i64 t.musts)]), []))) none
noncomputable def wrap_Bare_B (t : GType) : Option GType :=
  bnd (wrap_Right t) fun y2 =>
  cnd y2
   (some (GType.mk t.name t.lists (bits .andNot .i64 t.musts 1)))
   (some t)
def wrap_Bare_ds : Decs := { decs := [(4, .bool)], loops := [] }
set_option maxRecDepth 100000 in
theorem wrap_Bare_t1 (O : Orc) (LP : LBody → LBody) (t : GType) : evalBodyD Try.prog (MT 15) wrap_Bare_ds Try.f15.ntmps O LP Try.f15 [(.agg [(.str t.name), (.int .i64 t.lists), (.int .i64 t.musts)])] [] = wrap_Bare_T1 O LP t := by kernel_rfl
theorem wrap_Bare_imp (t : GType) : Imp (wrap_Bare_B t) (wrap_Bare_T1 O loopLim t) (fun r v => v = (wrap_BareE r, [])) := by
  simp only [wrap_Bare_B, wrap_Bare_T1]
  try simp only [evs, tys]
  refine Imp.call (f := wrap_RightE) rfl (fun a h => by first | exact wrap_Right_spec h | simpa only [evs, tys, evl] using wrap_Right_spec h) (fun a => by first | rfl | simp only [wrap_RightE, evk, chks]) fun y2 hy2 => ?_
  try simp only [wrap_RightE, evs, tys]
  refine Imp.cnd ?_ ?_
  · exact Imp.some (by first | rfl | simp only [wrap_BareE, evs, tys, evl])
  · exact Imp.some (by first | rfl | simp only [wrap_BareE, evs, tys, evl])
theorem wrap_Bare_run {t : GType} {r : GType} (h : wrap_Bare_B t = some r) : wrap_Bare t = some r := by
  obtain ⟨v, hv, rfl⟩ := wrap_Bare_imp t r h
  exact tO_of (pair_inj wrap_BareEj) (OL_runD wrap_Bare_ds rfl Try.func15 ((wrap_Bare_t1 _ _ t).trans hv))
end Go.Proofs.Ytoddajoeiamidaa

/- Printed by symgen.py: typed functions of this seat, and why they tell what the program does. -/
set_option linter.unusedVariables false
set_option linter.unusedSimpArgs false
open Go Go.Ev Go.Ev.PV
namespace Go.Proofs.Ytoddajoeiamidaa
def seinelaw32_Size_l1 (O : Orc) (LP : LBody → LBody) : LBody := fun s3 s3u => cnd (chkL [(.ptr 0 1 0), (.int .i64), (.int .i64), (.int .i64), .bool, (.int .i64), (.int .i64), .str, (.sl false), (.sl false), (.sl false), (.sl false)] s3) (cnd (chkU [] s3u)
  (cnd (decide ((intV (gt s3 2)) < (List.length (esV (gt s3 10)) : Int)))
   (bnd (ix 1 (.slice (esV (gt s3 10)) [] false) (.int .i64 (intV (gt s3 2)))) fun x8 => cnd (chk (.ref .str) x8)
   (some (.nrm, [(.ptr 0 1 0), (.int .i64 (IntKind.wrap .i64 ((intV (gt s3 1)) + (List.length (strV (refV x8)) : Int)))), (.int .i64 (IntKind.wrap .i64 ((intV (gt s3 2)) + 1))), (.int .i64 (intV (gt s3 3))), (.bool (boolV (gt s3 4))), (.int .i64 (intV (gt s3 5))), (.int .i64 (intV (gt s3 6))), (.str (strV (gt s3 7))), (.slice (esV (gt s3 8)) [] false), (.slice (esV (gt s3 9)) [] false), (.slice (esV (gt s3 10)) [] false), (.slice (esV (gt s3 11)) [] false)], [])) none)
   (some (.brk 0, [(.ptr 0 1 0), (.int .i64 (intV (gt s3 1))), (.int .i64 (intV (gt s3 2))), (.int .i64 (intV (gt s3 3))), (.bool (boolV (gt s3 4))), (.int .i64 (intV (gt s3 5))), (.int .i64 (intV (gt s3 6))), (.str (strV (gt s3 7))), (.slice (esV (gt s3 8)) [] false), (.slice (esV (gt s3 9)) [] false), (.slice (esV (gt s3 10)) [] false), (.slice (esV (gt s3 11)) [] false)], []))) none) none
def seinelaw32_Size_l2 (O : Orc) (LP : LBody → LBody) : LBody := fun s13 s13u => cnd (chkL [(.ptr 0 1 0), (.int .i64), (.int .i64), (.int .i64), .bool, (.int .i64), (.int .i64), .str, (.sl false), (.sl false), (.sl false), (.sl false)] s13) (cnd (chkU [] s13u)
  (cnd (decide ((intV (gt s13 2)) < (List.length (esV (gt s13 11)) : Int)))
   (bnd (ix 9 (.slice (esV (gt s13 11)) [] false) (.int .i64 (intV (gt s13 2)))) fun x20 => cnd (chk (.ref shNode) x20)
   (callp O 16 [(.agg [(.int .i64 (intV (gt (aggV (refV x20)) 0))), (.bool (boolV (gt (aggV (refV x20)) 1))), (.int .i64 (intV (gt (aggV (refV x20)) 2))), (.int .i64 (intV (gt (aggV (refV x20)) 3))), (.str (strV (gt (aggV (refV x20)) 4))), (.slice (esV (gt (aggV (refV x20)) 5)) [] false), (.slice (esV (gt (aggV (refV x20)) 6)) [] false), (.slice (esV (gt (aggV (refV x20)) 7)) [] false), (.slice (esV (gt (aggV (refV x20)) 8)) [] false)])] fun x22 => cnd (chk (.int .i64) x22)
   (some (.nrm, [(.ptr 0 1 0), (.int .i64 (IntKind.wrap .i64 ((intV (gt s13 1)) + (intV x22)))), (.int .i64 (IntKind.wrap .i64 ((intV (gt s13 2)) + 1))), (.int .i64 (intV (gt s13 3))), (.bool (boolV (gt s13 4))), (.int .i64 (intV (gt s13 5))), (.int .i64 (intV (gt s13 6))), (.str (strV (gt s13 7))), (.slice (esV (gt s13 8)) [] false), (.slice (esV (gt s13 9)) [] false), (.slice (esV (gt s13 10)) [] false), (.slice (esV (gt s13 11)) [] false)], [])) none) none)
   (some (.brk 2, [(.ptr 0 1 0), (.int .i64 (intV (gt s13 1))), (.int .i64 (intV (gt s13 2))), (.int .i64 (intV (gt s13 3))), (.bool (boolV (gt s13 4))), (.int .i64 (intV (gt s13 5))), (.int .i64 (intV (gt s13 6))), (.str (strV (gt s13 7))), (.slice (esV (gt s13 8)) [] false), (.slice (esV (gt s13 9)) [] false), (.slice (esV (gt s13 10)) [] false), (.slice (esV (gt s13 11)) [] false)], []))) none) none
def seinelaw32_Size_T1 (O : Orc) (LP : LBody → LBody) (n : GNode) : Option (PV × UP) :=
  callp O 9 [(.agg [(.int .i64 n.v.kind), (.int .i64 n.v.n), (.str n.v.s), (.slice (List.map encValue n.v.l) [] false), (.slice (List.map encMember n.v.m) [] false)])] fun x1 => cnd (chk (.int .i64) x1)
  (bnd (LP (seinelaw32_Size_l1 O LP) [(.ptr 0 1 0), (.int .i64 (IntKind.wrap .i64 ((IntKind.wrap .i64 (1 + (intV x1))) + (List.length (List.map PV.str n.keys) : Int)))), (.int .i64 0), (.int .i64 n.kind), (.bool n.must), (.int .i64 n.v.kind), (.int .i64 n.v.n), (.str n.v.s), (.slice (List.map encValue n.v.l) [] false), (.slice (List.map encMember n.v.m) [] false), (.slice (List.map PV.str n.keys) [] false), (.slice (List.map encNode n.l) [] false)] []) fun y12 =>
  exIs y12.1 (some 0) (cnd (chkL [(.ptr 0 1 0), (.int .i64), (.int .i64), (.int .i64), .bool, (.int .i64), (.int .i64), .str, (.sl false), (.sl false), (.sl false), (.sl false)] y12.2.1) (cnd (chkU [] y12.2.2)
   (bnd (LP (seinelaw32_Size_l2 O LP) [(.ptr 0 1 0), (.int .i64 (intV (gt y12.2.1 1))), (.int .i64 0), (.int .i64 (intV (gt y12.2.1 3))), (.bool (boolV (gt y12.2.1 4))), (.int .i64 (intV (gt y12.2.1 5))), (.int .i64 (intV (gt y12.2.1 6))), (.str (strV (gt y12.2.1 7))), (.slice (esV (gt y12.2.1 8)) [] false), (.slice (esV (gt y12.2.1 9)) [] false), (.slice (esV (gt y12.2.1 10)) [] false), (.slice (esV (gt y12.2.1 11)) [] false)] []) fun y26 =>
   exIs y26.1 (some 2) (cnd (chkL [(.ptr 0 1 0), (.int .i64), (.int .i64), (.int .i64), .bool, (.int .i64), (.int .i64), .str, (.sl false), (.sl false), (.sl false), (.sl false)] y26.2.1) (cnd (chkU [] y26.2.2)
    (some ((.int .i64 (intV (gt y26.2.1 1))), [])) none) none)
   (none)) none) none)
  (none)) none
noncomputable def seinelaw32_Size_l1T (n : GNode) : (Int × Int) → Option ((Int × Int) ⊕ Int)
  | (out_6, i_7) =>
  cnd (decide (i_7 < (List.length n.keys : Int)))
   (bnd (nthI n.keys i_7) fun y9 =>
   some (.inl ((IntKind.wrap .i64 (out_6 + (List.length y9 : Int))), (IntKind.wrap .i64 (i_7 + 1)))))
   (some (.inr out_6))
abbrev seinelaw32_Size_l1R (n : GNode) (st : Int × Int) (l : List PV) (u : UP) : Prop := l = [(.ptr 0 1 0), (.int .i64 st.1), (.int .i64 st.2), (.int .i64 n.kind), (.bool n.must), (.int .i64 n.v.kind), (.int .i64 n.v.n), (.str n.v.s), (.slice (List.map encValue n.v.l) [] false), (.slice (List.map encMember n.v.m) [] false), (.slice (List.map PV.str n.keys) [] false), (.slice (List.map encNode n.l) [] false)] ∧ u = []
abbrev seinelaw32_Size_l1X (n : GNode) (p : Int) (r : Ex × List PV × UP) : Prop := (fun (p : Int) => ∃ (i_11 : Int), r = (Ex.brk 0, [(.ptr 0 1 0), (.int .i64 p), (.int .i64 i_11), (.int .i64 n.kind), (.bool n.must), (.int .i64 n.v.kind), (.int .i64 n.v.n), (.str n.v.s), (.slice (List.map encValue n.v.l) [] false), (.slice (List.map encMember n.v.m) [] false), (.slice (List.map PV.str n.keys) [] false), (.slice (List.map encNode n.l) [] false)], [])) p
noncomputable def seinelaw32_Size_l2T (n : GNode) : (Int × Int) → Option ((Int × Int) ⊕ Int)
  | (out_18, i_19) =>
  cnd (decide (i_19 < (List.length n.l : Int)))
   (bnd (nthI n.l i_19) fun y21 =>
   bnd (seinelaw32_Size y21) fun y23 =>
   some (.inl ((IntKind.wrap .i64 (out_18 + y23)), (IntKind.wrap .i64 (i_19 + 1)))))
   (some (.inr out_18))
abbrev seinelaw32_Size_l2R (n : GNode) (st : Int × Int) (l : List PV) (u : UP) : Prop := l = [(.ptr 0 1 0), (.int .i64 st.1), (.int .i64 st.2), (.int .i64 n.kind), (.bool n.must), (.int .i64 n.v.kind), (.int .i64 n.v.n), (.str n.v.s), (.slice (List.map encValue n.v.l) [] false), (.slice (List.map encMember n.v.m) [] false), (.slice (List.map PV.str n.keys) [] false), (.slice (List.map encNode n.l) [] false)] ∧ u = []
abbrev seinelaw32_Size_l2X (n : GNode) (p : Int) (r : Ex × List PV × UP) : Prop := (fun (p : Int) => ∃ (i_25 : Int), r = (Ex.brk 2, [(.ptr 0 1 0), (.int .i64 p), (.int .i64 i_25), (.int .i64 n.kind), (.bool n.must), (.int .i64 n.v.kind), (.int .i64 n.v.n), (.str n.v.s), (.slice (List.map encValue n.v.l) [] false), (.slice (List.map encMember n.v.m) [] false), (.slice (List.map PV.str n.keys) [] false), (.slice (List.map encNode n.l) [] false)], [])) p
noncomputable def seinelaw32_Size_B (n : GNode) : Option Int :=
  bnd (seinekeep_Size n.v) fun y2 =>
  bnd (tloop (seinelaw32_Size_l1T n) ((IntKind.wrap .i64 ((IntKind.wrap .i64 (1 + y2)) + (List.length n.keys : Int))), 0)) fun out_10 =>
  bnd (tloop (seinelaw32_Size_l2T n) (out_10, 0)) fun out_24 =>
  some out_24
def seinelaw32_Size_ds : Decs := { decs := [(8, (.int .i64)), (25, (.ref .str)), (40, (.ref shNode)), (42, (.int .i64))], loops := [(3, ⟨[(.ptr 0 1 0), (.int .i64), (.int .i64), (.int .i64), .bool, (.int .i64), (.int .i64), .str, (.sl false), (.sl false), (.sl false), (.sl false)], [], [(some 0, [(.ptr 0 1 0), (.int .i64), (.int .i64), (.int .i64), .bool, (.int .i64), (.int .i64), .str, (.sl false), (.sl false), (.sl false), (.sl false)], [])]⟩), (7, ⟨[(.ptr 0 1 0), (.int .i64), (.int .i64), (.int .i64), .bool, (.int .i64), (.int .i64), .str, (.sl false), (.sl false), (.sl false), (.sl false)], [], [(some 2, [(.ptr 0 1 0), (.int .i64), (.int .i64), (.int .i64), .bool, (.int .i64), (.int .i64), .str, (.sl false), (.sl false), (.sl false), (.sl false)], [])]⟩)] }
set_option maxRecDepth 100000 in
theorem seinelaw32_Size_t1 (O : Orc) (LP : LBody → LBody) (n : GNode) : evalBodyD Try.prog (MT 16) seinelaw32_Size_ds Try.f16.ntmps O LP Try.f16 [(.agg [(.int .i64 n.kind), (.bool n.must), (.int .i64 n.v.kind), (.int .i64 n.v.n), (.str n.v.s), (.slice (List.map encValue n.v.l) [] false), (.slice (List.map encMember n.v.m) [] false), (.slice (List.map PV.str n.keys) [] false), (.slice (List.map encNode n.l) [] false)])] [] = seinelaw32_Size_T1 O LP n := by kernel_rfl
theorem seinelaw32_Size_l1_ok (n : GNode) : ∀ st l u, seinelaw32_Size_l1R n st l u → Imp (seinelaw32_Size_l1T n st) (seinelaw32_Size_l1 O loopLim l u) (StepR (seinelaw32_Size_l1R n) (seinelaw32_Size_l1X n)) := by
  rintro ⟨out_6, i_7⟩ l u ⟨rfl, rfl⟩
  simp only [seinelaw32_Size_l1T, seinelaw32_Size_l1]
  refine Imp.chk rfl (Imp.chk rfl ?_)
  try simp only [evs, tys]
  refine Imp.cnd ?_ ?_
  · refine Imp.op (f := fun a => .ref (PV.str a)) (fun a h => op_ix (enc := PV.str) (by first | rfl | simp only [evs, tys, evl]) ⟨by first | rfl | simp only [evs, tys, evc], by decide⟩ h) (fun a => rfl) fun y9 hy9 => ?_
    try simp only [evs, tys]
    exact Imp.some (StepR.next ⟨by first | rfl | simp only [evs, tys, evl], rfl⟩)
  · exact Imp.some (StepR.brk ⟨i_7, by first | rfl | simp only [evs, tys, evl, elim_inl, elim_inr]⟩)
theorem seinelaw32_Size_l2_ok (n : GNode) : ∀ st l u, seinelaw32_Size_l2R n st l u → Imp (seinelaw32_Size_l2T n st) (seinelaw32_Size_l2 O loopLim l u) (StepR (seinelaw32_Size_l2R n) (seinelaw32_Size_l2X n)) := by
  rintro ⟨out_18, i_19⟩ l u ⟨rfl, rfl⟩
  simp only [seinelaw32_Size_l2T, seinelaw32_Size_l2]
  refine Imp.chk rfl (Imp.chk rfl ?_)
  try simp only [evs, tys]
  refine Imp.cnd ?_ ?_
  · refine Imp.op (f := fun a => .ref (encNode a)) (fun a h => op_ix (enc := encNode) (by first | rfl | simp only [evs, tys, evl]) ⟨by first | rfl | simp only [evs, tys, evc], by decide⟩ h) (fun a => chk_GNode a) fun y21 hy21 => ?_
    try simp only [evs, tys]
    refine Imp.call (f := seinelaw32_SizeE) rfl (fun a h => by first | exact seinelaw32_Size_spec h | simpa only [evs, tys, evl] using seinelaw32_Size_spec h) (fun a => by first | rfl | simp only [seinelaw32_SizeE, evk, chks]) fun y23 hy23 => ?_
    try simp only [seinelaw32_SizeE, evs, tys]
    exact Imp.some (StepR.next ⟨by first | rfl | simp only [evs, tys, evl], rfl⟩)
  · exact Imp.some (StepR.brk ⟨i_19, by first | rfl | simp only [evs, tys, evl, elim_inl, elim_inr]⟩)
theorem seinelaw32_Size_imp (n : GNode) : Imp (seinelaw32_Size_B n) (seinelaw32_Size_T1 O loopLim n) (fun r v => v = (seinelaw32_SizeE r, [])) := by
  simp only [seinelaw32_Size_B, seinelaw32_Size_T1]
  try simp only [evs, tys]
  refine Imp.call (f := seinekeep_SizeE) rfl (fun a h => by first | exact seinekeep_Size_spec h | simpa only [evs, tys, evl] using seinekeep_Size_spec h) (fun a => by first | rfl | simp only [seinekeep_SizeE, evk, chks]) fun y2 hy2 => ?_
  try simp only [seinekeep_SizeE, evs, tys]
  refine Imp.bnd (Imp.loop (seinelaw32_Size_l1_ok n) ⟨by first | rfl | simp only [evs, tys, evl], rfl⟩) ?_
  rintro out_10 vy12 hy12
  obtain ⟨i_11, rfl⟩ := hy12
  refine Imp.exHit rfl (Imp.chk rfl (Imp.chk rfl ?_))
  try simp only [evs, tys]
  refine Imp.bnd (Imp.loop (seinelaw32_Size_l2_ok n) ⟨by first | rfl | simp only [evs, tys, evl], rfl⟩) ?_
  rintro out_24 vy26 hy26
  obtain ⟨i_25, rfl⟩ := hy26
  refine Imp.exHit rfl (Imp.chk rfl (Imp.chk rfl ?_))
  try simp only [evs, tys]
  exact Imp.some (by first | rfl | simp only [seinelaw32_SizeE, evs, tys, evl])
theorem seinelaw32_Size_run {n : GNode} {r : Int} (h : seinelaw32_Size_B n = some r) : seinelaw32_Size n = some r := by
  obtain ⟨v, hv, rfl⟩ := seinelaw32_Size_imp n r h
  exact tO_of (pair_inj seinelaw32_SizeEj) (OL_runD seinelaw32_Size_ds rfl Try.func16 ((seinelaw32_Size_t1 _ _ n).trans hv))

def seinelaw32_awake_T1 (O : Orc) (LP : LBody → LBody) : Option (PV × UP) :=
  callp O 18 [(.agg [(.int .i64 1), (.bool false), (.int .i64 0), (.int .i64 0), (.str []), (.slice [] [] false), (.slice [] [] false), (.slice [] [] false), (.slice [(.agg [(.int .i64 3), (.bool true), (.int .i64 0), (.int .i64 0), (.str []), (.slice [] [] false), (.slice [] [] false), (.slice [] [] false), (.slice [] [] false)])] [] false)])] fun x1 => cnd (chk (.tup [shValue, .bool]) x1)
  (callp O 18 [(.agg [(.int .i64 1), (.bool true), (.int .i64 0), (.int .i64 0), (.str []), (.slice [] [] false), (.slice [] [] false), (.slice [] [] false), (.slice [(.agg [(.int .i64 3), (.bool true), (.int .i64 0), (.int .i64 0), (.str []), (.slice [] [] false), (.slice [] [] false), (.slice [] [] false), (.slice [] [] false)])] [] false)])] fun x3 => cnd (chk (.tup [shValue, .bool]) x3)
  (callp O 22 [(.agg [(.int .i64 6), (.int .i64 0), (.str []), (.slice [(.agg [(.int .i64 2), (.int .i64 4), (.str []), (.slice [] [] false), (.slice [] [] false)])] [] false), (.slice [] [] false)]), (.slice [(.agg [(.str []), (.int .i64 0)])] [] false)] fun x5 => cnd (chk (.tup [shValue, .bool]) x5)
  (cnd (boolV (gt (tupV x1) 1))
   (cnd ((intV (gt (aggV (gt (tupV x1) 0)) 0)) == 0)
    (cnd (!(boolV (gt (tupV x3) 1)))
     (cnd (boolV (gt (tupV x5) 1))
      (some ((.bool ((intV (gt (aggV (gt (tupV x5) 0)) 1)) == 4)), []))
      (some ((.bool false), [])))
     (some ((.bool false), [])))
    (some ((.bool false), [])))
   (some ((.bool false), []))) none) none) none
noncomputable def seinelaw32_awake_B : Option Bool :=
  bnd (tree_Up (GNode.mk 1 false (GValue.mk 0 0 [] ([] : List GValue) ([] : List GMember)) ([] : List Str) [(GNode.mk 3 true (GValue.mk 0 0 [] ([] : List GValue) ([] : List GMember)) ([] : List Str) ([] : List GNode))])) fun y2 =>
  bnd (tree_Up (GNode.mk 1 true (GValue.mk 0 0 [] ([] : List GValue) ([] : List GMember)) ([] : List Str) [(GNode.mk 3 true (GValue.mk 0 0 [] ([] : List GValue) ([] : List GMember)) ([] : List Str) ([] : List GNode))])) fun y4 =>
  bnd (tree_At (GValue.mk 6 0 [] [(GValue.mk 2 4 [] ([] : List GValue) ([] : List GMember))] ([] : List GMember)) [(GStep.mk [] 0)]) fun y6 =>
  cnd y2.2
   (cnd (y2.1.kind == 0)
    (cnd (!y4.2)
     (cnd y6.2
      (some (y6.1.n == 4))
      (some false))
     (some false))
    (some false))
   (some false)
def seinelaw32_awake_ds : Decs := { decs := [(11, (.tup [shValue, .bool])), (18, (.tup [shValue, .bool])), (27, (.tup [shValue, .bool]))], loops := [] }
set_option maxRecDepth 100000 in
theorem seinelaw32_awake_t1 (O : Orc) (LP : LBody → LBody) : evalBodyD Try.prog (MT 17) seinelaw32_awake_ds Try.f17.ntmps O LP Try.f17 [] [] = seinelaw32_awake_T1 O LP := by kernel_rfl
theorem seinelaw32_awake_imp : Imp (seinelaw32_awake_B) (seinelaw32_awake_T1 O loopLim) (fun r v => v = (seinelaw32_awakeE r, [])) := by
  simp only [seinelaw32_awake_B, seinelaw32_awake_T1]
  try simp only [evs, tys]
  refine Imp.call (f := tree_UpE) rfl (fun a h => by first | exact tree_Up_spec h | simpa only [evs, tys, evl] using tree_Up_spec h) (fun a => by first | rfl | simp only [tree_UpE, evk, chks]) fun y2 hy2 => ?_
  try simp only [tree_UpE, evs, tys]
  refine Imp.call (f := tree_UpE) rfl (fun a h => by first | exact tree_Up_spec h | simpa only [evs, tys, evl] using tree_Up_spec h) (fun a => by first | rfl | simp only [tree_UpE, evk, chks]) fun y4 hy4 => ?_
  try simp only [tree_UpE, evs, tys]
  refine Imp.call (f := tree_AtE) rfl (fun a h => by first | exact tree_At_spec h | simpa only [evs, tys, evl] using tree_At_spec h) (fun a => by first | rfl | simp only [tree_AtE, evk, chks]) fun y6 hy6 => ?_
  try simp only [tree_AtE, evs, tys]
  refine Imp.cnd ?_ ?_
  · refine Imp.cnd ?_ ?_
    · refine Imp.cnd ?_ ?_
      · refine Imp.cnd ?_ ?_
        · exact Imp.some (by first | rfl | simp only [seinelaw32_awakeE, evs, tys, evl])
        · exact Imp.some (by first | rfl | simp only [seinelaw32_awakeE, evs, tys, evl])
      · exact Imp.some (by first | rfl | simp only [seinelaw32_awakeE, evs, tys, evl])
    · exact Imp.some (by first | rfl | simp only [seinelaw32_awakeE, evs, tys, evl])
  · exact Imp.some (by first | rfl | simp only [seinelaw32_awakeE, evs, tys, evl])
theorem seinelaw32_awake_run {r : Bool} (h : seinelaw32_awake_B = some r) : seinelaw32_awake = some r := by
  obtain ⟨v, hv, rfl⟩ := seinelaw32_awake_imp r h
  exact tO_of (pair_inj seinelaw32_awakeEj) (OL_runD seinelaw32_awake_ds rfl Try.func17 ((seinelaw32_awake_t1 _ _).trans hv))

def tree_Up_T1 (O : Orc) (LP : LBody → LBody) (n : GNode) : Option (PV × UP) :=
  callp O 30 [(.agg [(.int .i64 n.kind), (.bool n.must), (.int .i64 n.v.kind), (.int .i64 n.v.n), (.str n.v.s), (.slice (List.map encValue n.v.l) [] false), (.slice (List.map encMember n.v.m) [] false), (.slice (List.map PV.str n.keys) [] false), (.slice (List.map encNode n.l) [] false)])] fun x1 => cnd (chk shValue x1)
  (cnd n.must
   (cnd ((intV (gt (aggV x1) 0)) == 0)
    (some ((.tuple [(.agg [(.int .i64 0), (.int .i64 0), (.str []), (.slice [] [] false), (.slice [] [] false)]), (.bool false)]), []))
    (some ((.tuple [(.agg [(.int .i64 (intV (gt (aggV x1) 0))), (.int .i64 (intV (gt (aggV x1) 1))), (.str (strV (gt (aggV x1) 2))), (.slice (esV (gt (aggV x1) 3)) [] false), (.slice (esV (gt (aggV x1) 4)) [] false)]), (.bool true)]), [])))
   (some ((.tuple [(.agg [(.int .i64 (intV (gt (aggV x1) 0))), (.int .i64 (intV (gt (aggV x1) 1))), (.str (strV (gt (aggV x1) 2))), (.slice (esV (gt (aggV x1) 3)) [] false), (.slice (esV (gt (aggV x1) 4)) [] false)]), (.bool true)]), []))) none
noncomputable def tree_Up_B (n : GNode) : Option (GValue × Bool) :=
  bnd (tree_inner n) fun y2 =>
  cnd n.must
   (cnd (y2.kind == 0)
    (some ((GValue.mk 0 0 [] ([] : List GValue) ([] : List GMember)), false))
    (some (y2, true)))
   (some (y2, true))
def tree_Up_ds : Decs := { decs := [(6, shValue)], loops := [] }
set_option maxRecDepth 100000 in
theorem tree_Up_t1 (O : Orc) (LP : LBody → LBody) (n : GNode) : evalBodyD Try.prog (MT 18) tree_Up_ds Try.f18.ntmps O LP Try.f18 [(.agg [(.int .i64 n.kind), (.bool n.must), (.int .i64 n.v.kind), (.int .i64 n.v.n), (.str n.v.s), (.slice (List.map encValue n.v.l) [] false), (.slice (List.map encMember n.v.m) [] false), (.slice (List.map PV.str n.keys) [] false), (.slice (List.map encNode n.l) [] false)])] [] = tree_Up_T1 O LP n := by kernel_rfl
theorem tree_Up_imp (n : GNode) : Imp (tree_Up_B n) (tree_Up_T1 O loopLim n) (fun r v => v = (tree_UpE r, [])) := by
  simp only [tree_Up_B, tree_Up_T1]
  try simp only [evs, tys]
  refine Imp.call (f := tree_innerE) rfl (fun a h => by first | exact tree_inner_spec h | simpa only [evs, tys, evl] using tree_inner_spec h) (fun a => by first | rfl | simp only [tree_innerE, evk, chks]) fun y2 hy2 => ?_
  try simp only [tree_innerE, evs, tys]
  refine Imp.cnd ?_ ?_
  · refine Imp.cnd ?_ ?_
    · exact Imp.some (by first | rfl | simp only [tree_UpE, evs, tys, evl])
    · exact Imp.some (by first | rfl | simp only [tree_UpE, evs, tys, evl])
  · exact Imp.some (by first | rfl | simp only [tree_UpE, evs, tys, evl])
theorem tree_Up_run {n : GNode} {r : GValue × Bool} (h : tree_Up_B n = some r) : tree_Up n = some r := by
  obtain ⟨v, hv, rfl⟩ := tree_Up_imp n r h
  exact tO_of (pair_inj tree_UpEj) (OL_runD tree_Up_ds rfl Try.func18 ((tree_Up_t1 _ _ n).trans hv))

def seineref31_Up_T1 (O : Orc) (LP : LBody → LBody) (n : GNode) : Option (PV × UP) :=
  cnd (n.kind == 0)
   (cnd (n.v.kind == 0)
    (cnd n.must
     (some ((.tuple [(.agg [(.int .i64 0), (.int .i64 0), (.str []), (.slice [] [] false), (.slice [] [] false)]), (.bool false)]), []))
     (some ((.tuple [(.agg [(.int .i64 n.v.kind), (.int .i64 n.v.n), (.str n.v.s), (.slice (List.map encValue n.v.l) [] false), (.slice (List.map encMember n.v.m) [] false)]), (.bool true)]), [])))
    (some ((.tuple [(.agg [(.int .i64 n.v.kind), (.int .i64 n.v.n), (.str n.v.s), (.slice (List.map encValue n.v.l) [] false), (.slice (List.map encMember n.v.m) [] false)]), (.bool true)]), [])))
   (cnd (n.kind == 1)
    (callp O 31 [(.slice (List.map encNode n.l) [] false)] fun x1 => cnd (chk shValue x1)
    (cnd ((intV (gt (aggV x1) 0)) == 0)
     (cnd n.must
      (some ((.tuple [(.agg [(.int .i64 0), (.int .i64 0), (.str []), (.slice [] [] false), (.slice [] [] false)]), (.bool false)]), []))
      (some ((.tuple [(.agg [(.int .i64 (intV (gt (aggV x1) 0))), (.int .i64 (intV (gt (aggV x1) 1))), (.str (strV (gt (aggV x1) 2))), (.slice (esV (gt (aggV x1) 3)) [] false), (.slice (esV (gt (aggV x1) 4)) [] false)]), (.bool true)]), [])))
     (some ((.tuple [(.agg [(.int .i64 (intV (gt (aggV x1) 0))), (.int .i64 (intV (gt (aggV x1) 1))), (.str (strV (gt (aggV x1) 2))), (.slice (esV (gt (aggV x1) 3)) [] false), (.slice (esV (gt (aggV x1) 4)) [] false)]), (.bool true)]), []))) none)
    (cnd (n.kind == 2)
     (callp O 32 [(.slice (List.map PV.str n.keys) [] false), (.slice (List.map encNode n.l) [] false)] fun x3 => cnd (chk shValue x3)
     (cnd ((intV (gt (aggV x3) 0)) == 0)
      (cnd n.must
       (some ((.tuple [(.agg [(.int .i64 0), (.int .i64 0), (.str []), (.slice [] [] false), (.slice [] [] false)]), (.bool false)]), []))
       (some ((.tuple [(.agg [(.int .i64 (intV (gt (aggV x3) 0))), (.int .i64 (intV (gt (aggV x3) 1))), (.str (strV (gt (aggV x3) 2))), (.slice (esV (gt (aggV x3) 3)) [] false), (.slice (esV (gt (aggV x3) 4)) [] false)]), (.bool true)]), [])))
      (some ((.tuple [(.agg [(.int .i64 (intV (gt (aggV x3) 0))), (.int .i64 (intV (gt (aggV x3) 1))), (.str (strV (gt (aggV x3) 2))), (.slice (esV (gt (aggV x3) 3)) [] false), (.slice (esV (gt (aggV x3) 4)) [] false)]), (.bool true)]), []))) none)
     (cnd n.must
      (some ((.tuple [(.agg [(.int .i64 0), (.int .i64 0), (.str []), (.slice [] [] false), (.slice [] [] false)]), (.bool false)]), []))
      (some ((.tuple [(.agg [(.int .i64 0), (.int .i64 0), (.str []), (.slice [] [] false), (.slice [] [] false)]), (.bool true)]), [])))))
noncomputable def seineref31_Up_B (n : GNode) : Option (GValue × Bool) :=
  cnd (n.kind == 0)
   (cnd (n.v.kind == 0)
    (cnd n.must
     (some ((GValue.mk 0 0 [] ([] : List GValue) ([] : List GMember)), false))
     (some (n.v, true)))
    (some (n.v, true)))
   (cnd (n.kind == 1)
    (bnd (seineref31_items n.l) fun y2 =>
    cnd (y2.kind == 0)
     (cnd n.must
      (some ((GValue.mk 0 0 [] ([] : List GValue) ([] : List GMember)), false))
      (some (y2, true)))
     (some (y2, true)))
    (cnd (n.kind == 2)
     (bnd (seineref31_parts n.keys n.l) fun y4 =>
     cnd (y4.kind == 0)
      (cnd n.must
       (some ((GValue.mk 0 0 [] ([] : List GValue) ([] : List GMember)), false))
       (some (y4, true)))
      (some (y4, true)))
     (cnd n.must
      (some ((GValue.mk 0 0 [] ([] : List GValue) ([] : List GMember)), false))
      (some ((GValue.mk 0 0 [] ([] : List GValue) ([] : List GMember)), true)))))
def seineref31_Up_ds : Decs := { decs := [(16, shValue), (23, shValue)], loops := [] }
set_option maxRecDepth 100000 in
theorem seineref31_Up_t1 (O : Orc) (LP : LBody → LBody) (n : GNode) : evalBodyD Try.prog (MT 19) seineref31_Up_ds Try.f19.ntmps O LP Try.f19 [(.agg [(.int .i64 n.kind), (.bool n.must), (.int .i64 n.v.kind), (.int .i64 n.v.n), (.str n.v.s), (.slice (List.map encValue n.v.l) [] false), (.slice (List.map encMember n.v.m) [] false), (.slice (List.map PV.str n.keys) [] false), (.slice (List.map encNode n.l) [] false)])] [] = seineref31_Up_T1 O LP n := by kernel_rfl
theorem seineref31_Up_imp (n : GNode) : Imp (seineref31_Up_B n) (seineref31_Up_T1 O loopLim n) (fun r v => v = (seineref31_UpE r, [])) := by
  simp only [seineref31_Up_B, seineref31_Up_T1]
  try simp only [evs, tys]
  refine Imp.cnd ?_ ?_
  · refine Imp.cnd ?_ ?_
    · refine Imp.cnd ?_ ?_
      · exact Imp.some (by first | rfl | simp only [seineref31_UpE, evs, tys, evl])
      · exact Imp.some (by first | rfl | simp only [seineref31_UpE, evs, tys, evl])
    · exact Imp.some (by first | rfl | simp only [seineref31_UpE, evs, tys, evl])
  · refine Imp.cnd ?_ ?_
    · refine Imp.call (f := seineref31_itemsE) rfl (fun a h => by first | exact seineref31_items_spec h | simpa only [evs, tys, evl] using seineref31_items_spec h) (fun a => by first | rfl | simp only [seineref31_itemsE, evk, chks]) fun y2 hy2 => ?_
      try simp only [seineref31_itemsE, evs, tys]
      refine Imp.cnd ?_ ?_
      · refine Imp.cnd ?_ ?_
        · exact Imp.some (by first | rfl | simp only [seineref31_UpE, evs, tys, evl])
        · exact Imp.some (by first | rfl | simp only [seineref31_UpE, evs, tys, evl])
      · exact Imp.some (by first | rfl | simp only [seineref31_UpE, evs, tys, evl])
    · refine Imp.cnd ?_ ?_
      · refine Imp.call (f := seineref31_partsE) rfl (fun a h => by first | exact seineref31_parts_spec h | simpa only [evs, tys, evl] using seineref31_parts_spec h) (fun a => by first | rfl | simp only [seineref31_partsE, evk, chks]) fun y4 hy4 => ?_
        try simp only [seineref31_partsE, evs, tys]
        refine Imp.cnd ?_ ?_
        · refine Imp.cnd ?_ ?_
          · exact Imp.some (by first | rfl | simp only [seineref31_UpE, evs, tys, evl])
          · exact Imp.some (by first | rfl | simp only [seineref31_UpE, evs, tys, evl])
        · exact Imp.some (by first | rfl | simp only [seineref31_UpE, evs, tys, evl])
      · refine Imp.cnd ?_ ?_
        · exact Imp.some (by first | rfl | simp only [seineref31_UpE, evs, tys, evl])
        · exact Imp.some (by first | rfl | simp only [seineref31_UpE, evs, tys, evl])
theorem seineref31_Up_run {n : GNode} {r : GValue × Bool} (h : seineref31_Up_B n = some r) : seineref31_Up n = some r := by
  obtain ⟨v, hv, rfl⟩ := seineref31_Up_imp n r h
  exact tO_of (pair_inj seineref31_UpEj) (OL_runD seineref31_Up_ds rfl Try.func19 ((seineref31_Up_t1 _ _ n).trans hv))

def seineref1_Same_l1 (O : Orc) (LP : LBody → LBody) : LBody := fun s1 s1u => cnd (chkL [(.ptr 0 2 0), (.ptr 0 3 0), .bool, (.int .i64), (.int .i64), (.int .i64), .str, (.sl false), (.sl false), (.int .i64), (.int .i64), .str, (.sl false), (.sl false)] s1) (cnd (chkU [] s1u)
  (cnd (decide ((intV (gt s1 3)) < (List.length (esV (gt s1 12)) : Int)))
   (bnd (ix 5 (.slice (esV (gt s1 12)) [] false) (.int .i64 (intV (gt s1 3)))) fun x9 => cnd (chk (.ref shValue) x9)
   (bnd (ix 5 (.slice (esV (gt s1 7)) [] false) (.int .i64 (intV (gt s1 3)))) fun x11 => cnd (chk (.ref shValue) x11)
   (callp O 20 [(.agg [(.int .i64 (intV (gt (aggV (refV x9)) 0))), (.int .i64 (intV (gt (aggV (refV x9)) 1))), (.str (strV (gt (aggV (refV x9)) 2))), (.slice (esV (gt (aggV (refV x9)) 3)) [] false), (.slice (esV (gt (aggV (refV x9)) 4)) [] false)]), (.agg [(.int .i64 (intV (gt (aggV (refV x11)) 0))), (.int .i64 (intV (gt (aggV (refV x11)) 1))), (.str (strV (gt (aggV (refV x11)) 2))), (.slice (esV (gt (aggV (refV x11)) 3)) [] false), (.slice (esV (gt (aggV (refV x11)) 4)) [] false)])] fun x13 => cnd (chk .bool x13)
   (cnd (!(boolV x13))
    (some (.ret, [(.ptr 0 2 0), (.ptr 0 3 0), (.bool false), (.int .i64 (intV (gt s1 3))), (.int .i64 (intV (gt s1 4))), (.int .i64 (intV (gt s1 5))), (.str (strV (gt s1 6))), (.slice (esV (gt s1 7)) [] false), (.slice (esV (gt s1 8)) [] false), (.int .i64 (intV (gt s1 9))), (.int .i64 (intV (gt s1 10))), (.str (strV (gt s1 11))), (.slice (esV (gt s1 12)) [] false), (.slice (esV (gt s1 13)) [] false)], []))
    (some (.nrm, [(.ptr 0 2 0), (.ptr 0 3 0), (.bool (boolV (gt s1 2))), (.int .i64 (IntKind.wrap .i64 ((intV (gt s1 3)) + 1))), (.int .i64 (intV (gt s1 4))), (.int .i64 (intV (gt s1 5))), (.str (strV (gt s1 6))), (.slice (esV (gt s1 7)) [] false), (.slice (esV (gt s1 8)) [] false), (.int .i64 (intV (gt s1 9))), (.int .i64 (intV (gt s1 10))), (.str (strV (gt s1 11))), (.slice (esV (gt s1 12)) [] false), (.slice (esV (gt s1 13)) [] false)], []))) none) none) none)
   (some (.brk 0, [(.ptr 0 2 0), (.ptr 0 3 0), (.bool (boolV (gt s1 2))), (.int .i64 (intV (gt s1 3))), (.int .i64 (intV (gt s1 4))), (.int .i64 (intV (gt s1 5))), (.str (strV (gt s1 6))), (.slice (esV (gt s1 7)) [] false), (.slice (esV (gt s1 8)) [] false), (.int .i64 (intV (gt s1 9))), (.int .i64 (intV (gt s1 10))), (.str (strV (gt s1 11))), (.slice (esV (gt s1 12)) [] false), (.slice (esV (gt s1 13)) [] false)], []))) none) none
def seineref1_Same_T1 (O : Orc) (LP : LBody → LBody) (a : GValue) (b : GValue) : Option (PV × UP) :=
  cnd (a.kind != b.kind)
   (some ((.bool false), []))
   (cnd (a.n != b.n)
    (some ((.bool false), []))
    (cnd (!(a.s == b.s))
     (some ((.bool false), []))
     (cnd ((List.length (List.map encValue a.l) : Int) != (List.length (List.map encValue b.l) : Int))
      (some ((.bool false), []))
      (bnd (LP (seineref1_Same_l1 O LP) [(.ptr 0 2 0), (.ptr 0 3 0), (.bool false), (.int .i64 0), (.int .i64 b.kind), (.int .i64 b.n), (.str b.s), (.slice (List.map encValue b.l) [] false), (.slice (List.map encMember b.m) [] false), (.int .i64 a.kind), (.int .i64 a.n), (.str a.s), (.slice (List.map encValue a.l) [] false), (.slice (List.map encMember a.m) [] false)] []) fun y17 =>
      exIs y17.1 (some 0) (cnd (chkL [(.ptr 0 2 0), (.ptr 0 3 0), .bool, (.int .i64), (.int .i64), (.int .i64), .str, (.sl false), (.sl false), (.int .i64), (.int .i64), .str, (.sl false), (.sl false)] y17.2.1) (cnd (chkU [] y17.2.2)
       (callp O 33 [(.slice (esV (gt y17.2.1 13)) [] false), (.slice (esV (gt y17.2.1 8)) [] false)] fun x18 => cnd (chk .bool x18)
       (some ((.bool (boolV x18)), [])) none) none) none)
      (exIs y17.1 none (cnd (chkL [(.ptr 0 2 0), (.ptr 0 3 0), .bool, (.int .i64), (.int .i64), (.int .i64), .str, (.sl false), (.sl false), (.int .i64), (.int .i64), .str, (.sl false), (.sl false)] y17.2.1) (cnd (chkU [] y17.2.2)
       (some ((.bool (boolV (gt y17.2.1 2))), [])) none) none)
      (none))))))
noncomputable def seineref1_Same_l1T (a : GValue) (b : GValue) : Int → Option (Int ⊕ (Unit ⊕ Unit))
  | i_8 =>
  cnd (decide (i_8 < (List.length a.l : Int)))
   (bnd (nthI a.l i_8) fun y10 =>
   bnd (nthI b.l i_8) fun y12 =>
   bnd (seineref1_Same y10 y12) fun y14 =>
   cnd (!y14)
    (some (.inr (.inr ())))
    (some (.inl (IntKind.wrap .i64 (i_8 + 1)))))
   (some (.inr (.inl ())))
abbrev seineref1_Same_l1R (a : GValue) (b : GValue) (st : Int) (l : List PV) (u : UP) : Prop := l = [(.ptr 0 2 0), (.ptr 0 3 0), (.bool false), (.int .i64 st), (.int .i64 b.kind), (.int .i64 b.n), (.str b.s), (.slice (List.map encValue b.l) [] false), (.slice (List.map encMember b.m) [] false), (.int .i64 a.kind), (.int .i64 a.n), (.str a.s), (.slice (List.map encValue a.l) [] false), (.slice (List.map encMember a.m) [] false)] ∧ u = []
abbrev seineref1_Same_l1X (a : GValue) (b : GValue) (p : Unit ⊕ Unit) (r : Ex × List PV × UP) : Prop := elim p (fun (p : Unit) => ∃ (i_15 : Int), r = (Ex.brk 0, [(.ptr 0 2 0), (.ptr 0 3 0), (.bool false), (.int .i64 i_15), (.int .i64 b.kind), (.int .i64 b.n), (.str b.s), (.slice (List.map encValue b.l) [] false), (.slice (List.map encMember b.m) [] false), (.int .i64 a.kind), (.int .i64 a.n), (.str a.s), (.slice (List.map encValue a.l) [] false), (.slice (List.map encMember a.m) [] false)], [])) (fun q2 => (fun (p : Unit) => ∃ (i_16 : Int), r = (Ex.ret, [(.ptr 0 2 0), (.ptr 0 3 0), (.bool false), (.int .i64 i_16), (.int .i64 b.kind), (.int .i64 b.n), (.str b.s), (.slice (List.map encValue b.l) [] false), (.slice (List.map encMember b.m) [] false), (.int .i64 a.kind), (.int .i64 a.n), (.str a.s), (.slice (List.map encValue a.l) [] false), (.slice (List.map encMember a.m) [] false)], [])) q2)
noncomputable def seineref1_Same_B (a : GValue) (b : GValue) : Option Bool :=
  cnd (a.kind != b.kind)
   (some false)
   (cnd (a.n != b.n)
    (some false)
    (cnd (!(a.s == b.s))
     (some false)
     (cnd ((List.length a.l : Int) != (List.length b.l : Int))
      (some false)
      (bnd (tloop (seineref1_Same_l1T a b) 0) fun e17_2 => elim e17_2
      (fun p17 =>
       bnd (seineref1_Members a.m b.m) fun y19 =>
       some y19)
      (fun p17 =>
      some false)))))
def seineref1_Same_ds : Decs := { decs := [(44, (.ref shValue)), (49, (.ref shValue)), (51, .bool), (57, .bool)], loops := [(4, ⟨[(.ptr 0 2 0), (.ptr 0 3 0), .bool, (.int .i64), (.int .i64), (.int .i64), .str, (.sl false), (.sl false), (.int .i64), (.int .i64), .str, (.sl false), (.sl false)], [], [(some 0, [(.ptr 0 2 0), (.ptr 0 3 0), .bool, (.int .i64), (.int .i64), (.int .i64), .str, (.sl false), (.sl false), (.int .i64), (.int .i64), .str, (.sl false), (.sl false)], []), (none, [(.ptr 0 2 0), (.ptr 0 3 0), .bool, (.int .i64), (.int .i64), (.int .i64), .str, (.sl false), (.sl false), (.int .i64), (.int .i64), .str, (.sl false), (.sl false)], [])]⟩)] }
set_option maxRecDepth 100000 in
theorem seineref1_Same_t1 (O : Orc) (LP : LBody → LBody) (a : GValue) (b : GValue) : evalBodyD Try.prog (MT 20) seineref1_Same_ds Try.f20.ntmps O LP Try.f20 [(.agg [(.int .i64 a.kind), (.int .i64 a.n), (.str a.s), (.slice (List.map encValue a.l) [] false), (.slice (List.map encMember a.m) [] false)]), (.agg [(.int .i64 b.kind), (.int .i64 b.n), (.str b.s), (.slice (List.map encValue b.l) [] false), (.slice (List.map encMember b.m) [] false)])] [] = seineref1_Same_T1 O LP a b := by kernel_rfl
theorem seineref1_Same_l1_ok (a : GValue) (b : GValue) : ∀ st l u, seineref1_Same_l1R a b st l u → Imp (seineref1_Same_l1T a b st) (seineref1_Same_l1 O loopLim l u) (StepR (seineref1_Same_l1R a b) (seineref1_Same_l1X a b)) := by
  rintro i_8 l u ⟨rfl, rfl⟩
  simp only [seineref1_Same_l1T, seineref1_Same_l1]
  refine Imp.chk rfl (Imp.chk rfl ?_)
  try simp only [evs, tys]
  refine Imp.cnd ?_ ?_
  · refine Imp.op (f := fun a => .ref (encValue a)) (fun a h => op_ix (enc := encValue) (by first | rfl | simp only [evs, tys, evl]) ⟨by first | rfl | simp only [evs, tys, evc], by decide⟩ h) (fun a => chk_GValue a) fun y10 hy10 => ?_
    try simp only [evs, tys]
    refine Imp.op (f := fun a => .ref (encValue a)) (fun a h => op_ix (enc := encValue) (by first | rfl | simp only [evs, tys, evl]) ⟨by first | rfl | simp only [evs, tys, evc], by decide⟩ h) (fun a => chk_GValue a) fun y12 hy12 => ?_
    try simp only [evs, tys]
    refine Imp.call (f := seineref1_SameE) rfl (fun a h => by first | exact seineref1_Same_spec h | simpa only [evs, tys, evl] using seineref1_Same_spec h) (fun a => by first | rfl | simp only [seineref1_SameE, evk, chks]) fun y14 hy14 => ?_
    try simp only [seineref1_SameE, evs, tys]
    refine Imp.cnd ?_ ?_
    · exact Imp.some (StepR.ret ⟨i_8, by first | rfl | simp only [evs, tys, evl, elim_inl, elim_inr]⟩)
    · exact Imp.some (StepR.next ⟨by first | rfl | simp only [evs, tys, evl], rfl⟩)
  · exact Imp.some (StepR.brk ⟨i_8, by first | rfl | simp only [evs, tys, evl, elim_inl, elim_inr]⟩)
theorem seineref1_Same_imp (a : GValue) (b : GValue) : Imp (seineref1_Same_B a b) (seineref1_Same_T1 O loopLim a b) (fun r v => v = (seineref1_SameE r, [])) := by
  simp only [seineref1_Same_B, seineref1_Same_T1]
  try simp only [evs, tys]
  refine Imp.cnd ?_ ?_
  · exact Imp.some (by first | rfl | simp only [seineref1_SameE, evs, tys, evl])
  · refine Imp.cnd ?_ ?_
    · exact Imp.some (by first | rfl | simp only [seineref1_SameE, evs, tys, evl])
    · refine Imp.cnd ?_ ?_
      · exact Imp.some (by first | rfl | simp only [seineref1_SameE, evs, tys, evl])
      · refine Imp.cnd ?_ ?_
        · exact Imp.some (by first | rfl | simp only [seineref1_SameE, evs, tys, evl])
        · refine Imp.bnd (Imp.loop (seineref1_Same_l1_ok a b) ⟨by first | rfl | simp only [evs, tys, evl], rfl⟩) ?_
          rintro (p | p) vy17 hy17
          · try simp only [elim_inl, elim_inr]
            obtain ⟨i_15, rfl⟩ := hy17
            refine Imp.exHit rfl (Imp.chk rfl (Imp.chk rfl ?_))
            try simp only [evs, tys]
            refine Imp.call (f := seineref1_MembersE) rfl (fun a h => by first | exact seineref1_Members_spec h | simpa only [evs, tys, evl] using seineref1_Members_spec h) (fun a => by first | rfl | simp only [seineref1_MembersE, evk, chks]) fun y19 hy19 => ?_
            try simp only [seineref1_MembersE, evs, tys]
            exact Imp.some (by first | rfl | simp only [seineref1_SameE, evs, tys, evl])
          · try simp only [elim_inl, elim_inr]
            obtain ⟨i_16, rfl⟩ := hy17
            refine Imp.exMiss rfl ?_
            refine Imp.exHit rfl (Imp.chk rfl (Imp.chk rfl ?_))
            try simp only [evs, tys]
            exact Imp.some (by first | rfl | simp only [seineref1_SameE, evs, tys, evl])
theorem seineref1_Same_run {a : GValue} {b : GValue} {r : Bool} (h : seineref1_Same_B a b = some r) : seineref1_Same a b = some r := by
  obtain ⟨v, hv, rfl⟩ := seineref1_Same_imp a b r h
  exact tO_of (pair_inj seineref1_SameEj) (OL_runD seineref1_Same_ds rfl Try.func20 ((seineref1_Same_t1 _ _ a b).trans hv))
end Go.Proofs.Ytoddajoeiamidaa

/- Printed by symgen.py: typed functions of this seat, and why they tell what the program does. -/
set_option linter.unusedVariables false
set_option linter.unusedSimpArgs false
open Go Go.Ev Go.Ev.PV
namespace Go.Proofs.Ytoddajoeiamidaa
def seinelaw32_empty_l1 (O : Orc) (LP : LBody → LBody) : LBody := fun s1 s1u => cnd (chkL [(.ptr 0 1 0), .bool, (.int .i64), (.int .i64), .bool, (.int .i64), (.int .i64), .str, (.sl false), (.sl false), (.sl false), (.sl false)] s1) (cnd (chkU [] s1u)
  (cnd (decide ((intV (gt s1 2)) < (List.length (esV (gt s1 11)) : Int)))
   (bnd (ix 9 (.slice (esV (gt s1 11)) [] false) (.int .i64 (intV (gt s1 2)))) fun x9 => cnd (chk (.ref shNode) x9)
   (cnd (boolV (gt (aggV (refV x9)) 1))
    (bnd (ix 9 (.slice (esV (gt s1 11)) [] false) (.int .i64 (intV (gt s1 2)))) fun x11 => cnd (chk (.ref shNode) x11)
    (callp O 21 [(.agg [(.int .i64 (intV (gt (aggV (refV x11)) 0))), (.bool (boolV (gt (aggV (refV x11)) 1))), (.int .i64 (intV (gt (aggV (refV x11)) 2))), (.int .i64 (intV (gt (aggV (refV x11)) 3))), (.str (strV (gt (aggV (refV x11)) 4))), (.slice (esV (gt (aggV (refV x11)) 5)) [] false), (.slice (esV (gt (aggV (refV x11)) 6)) [] false), (.slice (esV (gt (aggV (refV x11)) 7)) [] false), (.slice (esV (gt (aggV (refV x11)) 8)) [] false)])] fun x13 => cnd (chk .bool x13)
    (cnd (boolV x13)
     (some (.ret, [(.ptr 0 1 0), (.bool true), (.int .i64 (intV (gt s1 2))), (.int .i64 (intV (gt s1 3))), (.bool (boolV (gt s1 4))), (.int .i64 (intV (gt s1 5))), (.int .i64 (intV (gt s1 6))), (.str (strV (gt s1 7))), (.slice (esV (gt s1 8)) [] false), (.slice (esV (gt s1 9)) [] false), (.slice (esV (gt s1 10)) [] false), (.slice (esV (gt s1 11)) [] false)], []))
     (some (.nrm, [(.ptr 0 1 0), (.bool (boolV (gt s1 1))), (.int .i64 (IntKind.wrap .i64 ((intV (gt s1 2)) + 1))), (.int .i64 (intV (gt s1 3))), (.bool (boolV (gt s1 4))), (.int .i64 (intV (gt s1 5))), (.int .i64 (intV (gt s1 6))), (.str (strV (gt s1 7))), (.slice (esV (gt s1 8)) [] false), (.slice (esV (gt s1 9)) [] false), (.slice (esV (gt s1 10)) [] false), (.slice (esV (gt s1 11)) [] false)], []))) none) none)
    (some (.nrm, [(.ptr 0 1 0), (.bool (boolV (gt s1 1))), (.int .i64 (IntKind.wrap .i64 ((intV (gt s1 2)) + 1))), (.int .i64 (intV (gt s1 3))), (.bool (boolV (gt s1 4))), (.int .i64 (intV (gt s1 5))), (.int .i64 (intV (gt s1 6))), (.str (strV (gt s1 7))), (.slice (esV (gt s1 8)) [] false), (.slice (esV (gt s1 9)) [] false), (.slice (esV (gt s1 10)) [] false), (.slice (esV (gt s1 11)) [] false)], []))) none)
   (some (.brk 1, [(.ptr 0 1 0), (.bool (boolV (gt s1 1))), (.int .i64 (intV (gt s1 2))), (.int .i64 (intV (gt s1 3))), (.bool (boolV (gt s1 4))), (.int .i64 (intV (gt s1 5))), (.int .i64 (intV (gt s1 6))), (.str (strV (gt s1 7))), (.slice (esV (gt s1 8)) [] false), (.slice (esV (gt s1 9)) [] false), (.slice (esV (gt s1 10)) [] false), (.slice (esV (gt s1 11)) [] false)], []))) none) none
def seinelaw32_empty_l2 (O : Orc) (LP : LBody → LBody) : LBody := fun s18 s18u => cnd (chkL [(.ptr 0 1 0), .bool, (.int .i64), (.int .i64), .bool, (.int .i64), (.int .i64), .str, (.sl false), (.sl false), (.sl false), (.sl false)] s18) (cnd (chkU [] s18u)
  (cnd (decide ((intV (gt s18 2)) < (List.length (esV (gt s18 11)) : Int)))
   (bnd (ix 9 (.slice (esV (gt s18 11)) [] false) (.int .i64 (intV (gt s18 2)))) fun x26 => cnd (chk (.ref shNode) x26)
   (cnd (boolV (gt (aggV (refV x26)) 1))
    (bnd (ix 9 (.slice (esV (gt s18 11)) [] false) (.int .i64 (intV (gt s18 2)))) fun x28 => cnd (chk (.ref shNode) x28)
    (callp O 21 [(.agg [(.int .i64 (intV (gt (aggV (refV x28)) 0))), (.bool (boolV (gt (aggV (refV x28)) 1))), (.int .i64 (intV (gt (aggV (refV x28)) 2))), (.int .i64 (intV (gt (aggV (refV x28)) 3))), (.str (strV (gt (aggV (refV x28)) 4))), (.slice (esV (gt (aggV (refV x28)) 5)) [] false), (.slice (esV (gt (aggV (refV x28)) 6)) [] false), (.slice (esV (gt (aggV (refV x28)) 7)) [] false), (.slice (esV (gt (aggV (refV x28)) 8)) [] false)])] fun x30 => cnd (chk .bool x30)
    (cnd (boolV x30)
     (some (.ret, [(.ptr 0 1 0), (.bool true), (.int .i64 (intV (gt s18 2))), (.int .i64 (intV (gt s18 3))), (.bool (boolV (gt s18 4))), (.int .i64 (intV (gt s18 5))), (.int .i64 (intV (gt s18 6))), (.str (strV (gt s18 7))), (.slice (esV (gt s18 8)) [] false), (.slice (esV (gt s18 9)) [] false), (.slice (esV (gt s18 10)) [] false), (.slice (esV (gt s18 11)) [] false)], []))
     (some (.nrm, [(.ptr 0 1 0), (.bool (boolV (gt s18 1))), (.int .i64 (IntKind.wrap .i64 ((intV (gt s18 2)) + 1))), (.int .i64 (intV (gt s18 3))), (.bool (boolV (gt s18 4))), (.int .i64 (intV (gt s18 5))), (.int .i64 (intV (gt s18 6))), (.str (strV (gt s18 7))), (.slice (esV (gt s18 8)) [] false), (.slice (esV (gt s18 9)) [] false), (.slice (esV (gt s18 10)) [] false), (.slice (esV (gt s18 11)) [] false)], []))) none) none)
    (some (.nrm, [(.ptr 0 1 0), (.bool (boolV (gt s18 1))), (.int .i64 (IntKind.wrap .i64 ((intV (gt s18 2)) + 1))), (.int .i64 (intV (gt s18 3))), (.bool (boolV (gt s18 4))), (.int .i64 (intV (gt s18 5))), (.int .i64 (intV (gt s18 6))), (.str (strV (gt s18 7))), (.slice (esV (gt s18 8)) [] false), (.slice (esV (gt s18 9)) [] false), (.slice (esV (gt s18 10)) [] false), (.slice (esV (gt s18 11)) [] false)], []))) none)
   (some (.brk 1, [(.ptr 0 1 0), (.bool (boolV (gt s18 1))), (.int .i64 (intV (gt s18 2))), (.int .i64 (intV (gt s18 3))), (.bool (boolV (gt s18 4))), (.int .i64 (intV (gt s18 5))), (.int .i64 (intV (gt s18 6))), (.str (strV (gt s18 7))), (.slice (esV (gt s18 8)) [] false), (.slice (esV (gt s18 9)) [] false), (.slice (esV (gt s18 10)) [] false), (.slice (esV (gt s18 11)) [] false)], []))) none) none
def seinelaw32_empty_T1 (O : Orc) (LP : LBody → LBody) (n : GNode) : Option (PV × UP) :=
  cnd (n.kind == 0)
   (some ((.bool (n.v.kind == 0)), []))
   (cnd (n.kind == 1)
    (bnd (LP (seinelaw32_empty_l1 O LP) [(.ptr 0 1 0), (.bool false), (.int .i64 0), (.int .i64 n.kind), (.bool n.must), (.int .i64 n.v.kind), (.int .i64 n.v.n), (.str n.v.s), (.slice (List.map encValue n.v.l) [] false), (.slice (List.map encMember n.v.m) [] false), (.slice (List.map PV.str n.keys) [] false), (.slice (List.map encNode n.l) [] false)] []) fun y17 =>
    exIs y17.1 (some 1) (cnd (chkL [(.ptr 0 1 0), .bool, (.int .i64), (.int .i64), .bool, (.int .i64), (.int .i64), .str, (.sl false), (.sl false), (.sl false), (.sl false)] y17.2.1) (cnd (chkU [] y17.2.2)
     (some ((.bool false), [])) none) none)
    (exIs y17.1 none (cnd (chkL [(.ptr 0 1 0), .bool, (.int .i64), (.int .i64), .bool, (.int .i64), (.int .i64), .str, (.sl false), (.sl false), (.sl false), (.sl false)] y17.2.1) (cnd (chkU [] y17.2.2)
     (some ((.bool (boolV (gt y17.2.1 1))), [])) none) none)
    (none)))
    (cnd (n.kind == 2)
     (bnd (LP (seinelaw32_empty_l2 O LP) [(.ptr 0 1 0), (.bool false), (.int .i64 0), (.int .i64 n.kind), (.bool n.must), (.int .i64 n.v.kind), (.int .i64 n.v.n), (.str n.v.s), (.slice (List.map encValue n.v.l) [] false), (.slice (List.map encMember n.v.m) [] false), (.slice (List.map PV.str n.keys) [] false), (.slice (List.map encNode n.l) [] false)] []) fun y34 =>
     exIs y34.1 (some 1) (cnd (chkL [(.ptr 0 1 0), .bool, (.int .i64), (.int .i64), .bool, (.int .i64), (.int .i64), .str, (.sl false), (.sl false), (.sl false), (.sl false)] y34.2.1) (cnd (chkU [] y34.2.2)
      (some ((.bool false), [])) none) none)
     (exIs y34.1 none (cnd (chkL [(.ptr 0 1 0), .bool, (.int .i64), (.int .i64), .bool, (.int .i64), (.int .i64), .str, (.sl false), (.sl false), (.sl false), (.sl false)] y34.2.1) (cnd (chkU [] y34.2.2)
      (some ((.bool (boolV (gt y34.2.1 1))), [])) none) none)
     (none)))
     (some ((.bool true), []))))
noncomputable def seinelaw32_empty_l1T (n : GNode) : Int → Option (Int ⊕ (Unit ⊕ Unit))
  | i_8 =>
  cnd (decide (i_8 < (List.length n.l : Int)))
   (bnd (nthI n.l i_8) fun y10 =>
   cnd y10.must
    (bnd (nthI n.l i_8) fun y12 =>
    bnd (seinelaw32_empty y12) fun y14 =>
    cnd y14
     (some (.inr (.inr ())))
     (some (.inl (IntKind.wrap .i64 (i_8 + 1)))))
    (some (.inl (IntKind.wrap .i64 (i_8 + 1)))))
   (some (.inr (.inl ())))
abbrev seinelaw32_empty_l1R (n : GNode) (st : Int) (l : List PV) (u : UP) : Prop := l = [(.ptr 0 1 0), (.bool false), (.int .i64 st), (.int .i64 n.kind), (.bool n.must), (.int .i64 n.v.kind), (.int .i64 n.v.n), (.str n.v.s), (.slice (List.map encValue n.v.l) [] false), (.slice (List.map encMember n.v.m) [] false), (.slice (List.map PV.str n.keys) [] false), (.slice (List.map encNode n.l) [] false)] ∧ u = []
abbrev seinelaw32_empty_l1X (n : GNode) (p : Unit ⊕ Unit) (r : Ex × List PV × UP) : Prop := elim p (fun (p : Unit) => ∃ (i_15 : Int), r = (Ex.brk 1, [(.ptr 0 1 0), (.bool false), (.int .i64 i_15), (.int .i64 n.kind), (.bool n.must), (.int .i64 n.v.kind), (.int .i64 n.v.n), (.str n.v.s), (.slice (List.map encValue n.v.l) [] false), (.slice (List.map encMember n.v.m) [] false), (.slice (List.map PV.str n.keys) [] false), (.slice (List.map encNode n.l) [] false)], [])) (fun q2 => (fun (p : Unit) => ∃ (i_16 : Int), r = (Ex.ret, [(.ptr 0 1 0), (.bool true), (.int .i64 i_16), (.int .i64 n.kind), (.bool n.must), (.int .i64 n.v.kind), (.int .i64 n.v.n), (.str n.v.s), (.slice (List.map encValue n.v.l) [] false), (.slice (List.map encMember n.v.m) [] false), (.slice (List.map PV.str n.keys) [] false), (.slice (List.map encNode n.l) [] false)], [])) q2)
noncomputable def seinelaw32_empty_l2T (n : GNode) : Int → Option (Int ⊕ (Unit ⊕ Unit))
  | i_25 =>
  cnd (decide (i_25 < (List.length n.l : Int)))
   (bnd (nthI n.l i_25) fun y27 =>
   cnd y27.must
    (bnd (nthI n.l i_25) fun y29 =>
    bnd (seinelaw32_empty y29) fun y31 =>
    cnd y31
     (some (.inr (.inr ())))
     (some (.inl (IntKind.wrap .i64 (i_25 + 1)))))
    (some (.inl (IntKind.wrap .i64 (i_25 + 1)))))
   (some (.inr (.inl ())))
abbrev seinelaw32_empty_l2R (n : GNode) (st : Int) (l : List PV) (u : UP) : Prop := l = [(.ptr 0 1 0), (.bool false), (.int .i64 st), (.int .i64 n.kind), (.bool n.must), (.int .i64 n.v.kind), (.int .i64 n.v.n), (.str n.v.s), (.slice (List.map encValue n.v.l) [] false), (.slice (List.map encMember n.v.m) [] false), (.slice (List.map PV.str n.keys) [] false), (.slice (List.map encNode n.l) [] false)] ∧ u = []
abbrev seinelaw32_empty_l2X (n : GNode) (p : Unit ⊕ Unit) (r : Ex × List PV × UP) : Prop := elim p (fun (p : Unit) => ∃ (i_32 : Int), r = (Ex.brk 1, [(.ptr 0 1 0), (.bool false), (.int .i64 i_32), (.int .i64 n.kind), (.bool n.must), (.int .i64 n.v.kind), (.int .i64 n.v.n), (.str n.v.s), (.slice (List.map encValue n.v.l) [] false), (.slice (List.map encMember n.v.m) [] false), (.slice (List.map PV.str n.keys) [] false), (.slice (List.map encNode n.l) [] false)], [])) (fun q2 => (fun (p : Unit) => ∃ (i_33 : Int), r = (Ex.ret, [(.ptr 0 1 0), (.bool true), (.int .i64 i_33), (.int .i64 n.kind), (.bool n.must), (.int .i64 n.v.kind), (.int .i64 n.v.n), (.str n.v.s), (.slice (List.map encValue n.v.l) [] false), (.slice (List.map encMember n.v.m) [] false), (.slice (List.map PV.str n.keys) [] false), (.slice (List.map encNode n.l) [] false)], [])) q2)
noncomputable def seinelaw32_empty_B (n : GNode) : Option Bool :=
  cnd (n.kind == 0)
   (some (n.v.kind == 0))
   (cnd (n.kind == 1)
    (bnd (tloop (seinelaw32_empty_l1T n) 0) fun e17_2 => elim e17_2
    (fun p17 =>
     some false)
    (fun p17 =>
    some true))
    (cnd (n.kind == 2)
     (bnd (tloop (seinelaw32_empty_l2T n) 0) fun e34_2 => elim e34_2
     (fun p34 =>
      some false)
     (fun p34 =>
     some true))
     (some true)))
def seinelaw32_empty_ds : Decs := { decs := [(25, (.ref shNode)), (32, (.ref shNode)), (34, .bool)], loops := [(7, ⟨[(.ptr 0 1 0), .bool, (.int .i64), (.int .i64), .bool, (.int .i64), (.int .i64), .str, (.sl false), (.sl false), (.sl false), (.sl false)], [], [(some 1, [(.ptr 0 1 0), .bool, (.int .i64), (.int .i64), .bool, (.int .i64), (.int .i64), .str, (.sl false), (.sl false), (.sl false), (.sl false)], []), (none, [(.ptr 0 1 0), .bool, (.int .i64), (.int .i64), .bool, (.int .i64), (.int .i64), .str, (.sl false), (.sl false), (.sl false), (.sl false)], [])]⟩)] }
set_option maxRecDepth 100000 in
theorem seinelaw32_empty_t1 (O : Orc) (LP : LBody → LBody) (n : GNode) : evalBodyD Try.prog (MT 21) seinelaw32_empty_ds Try.f21.ntmps O LP Try.f21 [(.agg [(.int .i64 n.kind), (.bool n.must), (.int .i64 n.v.kind), (.int .i64 n.v.n), (.str n.v.s), (.slice (List.map encValue n.v.l) [] false), (.slice (List.map encMember n.v.m) [] false), (.slice (List.map PV.str n.keys) [] false), (.slice (List.map encNode n.l) [] false)])] [] = seinelaw32_empty_T1 O LP n := by kernel_rfl
theorem seinelaw32_empty_l1_ok (n : GNode) : ∀ st l u, seinelaw32_empty_l1R n st l u → Imp (seinelaw32_empty_l1T n st) (seinelaw32_empty_l1 O loopLim l u) (StepR (seinelaw32_empty_l1R n) (seinelaw32_empty_l1X n)) := by
  rintro i_8 l u ⟨rfl, rfl⟩
  simp only [seinelaw32_empty_l1T, seinelaw32_empty_l1]
  refine Imp.chk rfl (Imp.chk rfl ?_)
  try simp only [evs, tys]
  refine Imp.cnd ?_ ?_
  · refine Imp.op (f := fun a => .ref (encNode a)) (fun a h => op_ix (enc := encNode) (by first | rfl | simp only [evs, tys, evl]) ⟨by first | rfl | simp only [evs, tys, evc], by decide⟩ h) (fun a => chk_GNode a) fun y10 hy10 => ?_
    try simp only [evs, tys]
    refine Imp.cnd ?_ ?_
    · refine Imp.op (f := fun a => .ref (encNode a)) (fun a h => op_ix (enc := encNode) (by first | rfl | simp only [evs, tys, evl]) ⟨by first | rfl | simp only [evs, tys, evc], by decide⟩ h) (fun a => chk_GNode a) fun y12 hy12 => ?_
      try simp only [evs, tys]
      refine Imp.call (f := seinelaw32_emptyE) rfl (fun a h => by first | exact seinelaw32_empty_spec h | simpa only [evs, tys, evl] using seinelaw32_empty_spec h) (fun a => by first | rfl | simp only [seinelaw32_emptyE, evk, chks]) fun y14 hy14 => ?_
      try simp only [seinelaw32_emptyE, evs, tys]
      refine Imp.cnd ?_ ?_
      · exact Imp.some (StepR.ret ⟨i_8, by first | rfl | simp only [evs, tys, evl, elim_inl, elim_inr]⟩)
      · exact Imp.some (StepR.next ⟨by first | rfl | simp only [evs, tys, evl], rfl⟩)
    · exact Imp.some (StepR.next ⟨by first | rfl | simp only [evs, tys, evl], rfl⟩)
  · exact Imp.some (StepR.brk ⟨i_8, by first | rfl | simp only [evs, tys, evl, elim_inl, elim_inr]⟩)
theorem seinelaw32_empty_l2_ok (n : GNode) : ∀ st l u, seinelaw32_empty_l2R n st l u → Imp (seinelaw32_empty_l2T n st) (seinelaw32_empty_l2 O loopLim l u) (StepR (seinelaw32_empty_l2R n) (seinelaw32_empty_l2X n)) := by
  rintro i_25 l u ⟨rfl, rfl⟩
  simp only [seinelaw32_empty_l2T, seinelaw32_empty_l2]
  refine Imp.chk rfl (Imp.chk rfl ?_)
  try simp only [evs, tys]
  refine Imp.cnd ?_ ?_
  · refine Imp.op (f := fun a => .ref (encNode a)) (fun a h => op_ix (enc := encNode) (by first | rfl | simp only [evs, tys, evl]) ⟨by first | rfl | simp only [evs, tys, evc], by decide⟩ h) (fun a => chk_GNode a) fun y27 hy27 => ?_
    try simp only [evs, tys]
    refine Imp.cnd ?_ ?_
    · refine Imp.op (f := fun a => .ref (encNode a)) (fun a h => op_ix (enc := encNode) (by first | rfl | simp only [evs, tys, evl]) ⟨by first | rfl | simp only [evs, tys, evc], by decide⟩ h) (fun a => chk_GNode a) fun y29 hy29 => ?_
      try simp only [evs, tys]
      refine Imp.call (f := seinelaw32_emptyE) rfl (fun a h => by first | exact seinelaw32_empty_spec h | simpa only [evs, tys, evl] using seinelaw32_empty_spec h) (fun a => by first | rfl | simp only [seinelaw32_emptyE, evk, chks]) fun y31 hy31 => ?_
      try simp only [seinelaw32_emptyE, evs, tys]
      refine Imp.cnd ?_ ?_
      · exact Imp.some (StepR.ret ⟨i_25, by first | rfl | simp only [evs, tys, evl, elim_inl, elim_inr]⟩)
      · exact Imp.some (StepR.next ⟨by first | rfl | simp only [evs, tys, evl], rfl⟩)
    · exact Imp.some (StepR.next ⟨by first | rfl | simp only [evs, tys, evl], rfl⟩)
  · exact Imp.some (StepR.brk ⟨i_25, by first | rfl | simp only [evs, tys, evl, elim_inl, elim_inr]⟩)
theorem seinelaw32_empty_imp (n : GNode) : Imp (seinelaw32_empty_B n) (seinelaw32_empty_T1 O loopLim n) (fun r v => v = (seinelaw32_emptyE r, [])) := by
  simp only [seinelaw32_empty_B, seinelaw32_empty_T1]
  try simp only [evs, tys]
  refine Imp.cnd ?_ ?_
  · exact Imp.some (by first | rfl | simp only [seinelaw32_emptyE, evs, tys, evl])
  · refine Imp.cnd ?_ ?_
    · refine Imp.bnd (Imp.loop (seinelaw32_empty_l1_ok n) ⟨by first | rfl | simp only [evs, tys, evl], rfl⟩) ?_
      rintro (p | p) vy17 hy17
      · try simp only [elim_inl, elim_inr]
        obtain ⟨i_15, rfl⟩ := hy17
        refine Imp.exHit rfl (Imp.chk rfl (Imp.chk rfl ?_))
        try simp only [evs, tys]
        exact Imp.some (by first | rfl | simp only [seinelaw32_emptyE, evs, tys, evl])
      · try simp only [elim_inl, elim_inr]
        obtain ⟨i_16, rfl⟩ := hy17
        refine Imp.exMiss rfl ?_
        refine Imp.exHit rfl (Imp.chk rfl (Imp.chk rfl ?_))
        try simp only [evs, tys]
        exact Imp.some (by first | rfl | simp only [seinelaw32_emptyE, evs, tys, evl])
    · refine Imp.cnd ?_ ?_
      · refine Imp.bnd (Imp.loop (seinelaw32_empty_l2_ok n) ⟨by first | rfl | simp only [evs, tys, evl], rfl⟩) ?_
        rintro (p | p) vy34 hy34
        · try simp only [elim_inl, elim_inr]
          obtain ⟨i_32, rfl⟩ := hy34
          refine Imp.exHit rfl (Imp.chk rfl (Imp.chk rfl ?_))
          try simp only [evs, tys]
          exact Imp.some (by first | rfl | simp only [seinelaw32_emptyE, evs, tys, evl])
        · try simp only [elim_inl, elim_inr]
          obtain ⟨i_33, rfl⟩ := hy34
          refine Imp.exMiss rfl ?_
          refine Imp.exHit rfl (Imp.chk rfl (Imp.chk rfl ?_))
          try simp only [evs, tys]
          exact Imp.some (by first | rfl | simp only [seinelaw32_emptyE, evs, tys, evl])
      · exact Imp.some (by first | rfl | simp only [seinelaw32_emptyE, evs, tys, evl])
theorem seinelaw32_empty_run {n : GNode} {r : Bool} (h : seinelaw32_empty_B n = some r) : seinelaw32_empty n = some r := by
  obtain ⟨v, hv, rfl⟩ := seinelaw32_empty_imp n r h
  exact tO_of (pair_inj seinelaw32_emptyEj) (OL_runD seinelaw32_empty_ds rfl Try.func21 ((seinelaw32_empty_t1 _ _ n).trans hv))

def tree_At_l1 (O : Orc) (LP : LBody → LBody) : LBody := fun s1 s1u => cnd (chkL [(.ptr 0 2 0), (.ptr 0 4 0), .bool, (.sl false), (.int .i64), (.int .i64), (.int .i64), (.int .i64), .str, (.sl true), (.sl true), (.int .i64), (.int .i64), .str, (.sl false), (.sl false)] s1) (cnd (chkU [] s1u)
  (cnd (decide ((intV (gt s1 5)) < (intV (gt s1 4))))
   (bnd (ix 2 (.slice (esV (gt s1 3)) [] false) (.int .i64 (intV (gt s1 5)))) fun x16 => cnd (chk (.ref shStep) x16)
   (cnd ((intV (gt s1 11)) == 0)
    (some (.brk 0, [(.ptr 0 2 0), (.ptr 0 4 0), (.bool (boolV (gt s1 2))), (.slice (esV (gt s1 3)) [] false), (.int .i64 (intV (gt s1 4))), (.int .i64 (intV (gt s1 5))), (.int .i64 (intV (gt s1 6))), (.int .i64 (intV (gt s1 7))), (.str (strV (gt s1 8))), (.slice (esV (gt s1 9)) [] true), (.slice (esV (gt s1 10)) [] true), (.int .i64 (intV (gt s1 11))), (.int .i64 (intV (gt s1 12))), (.str (strV (gt s1 13))), (.slice (esV (gt s1 14)) [] false), (.slice (esV (gt s1 15)) [] false)], []))
    (cnd (!((strV (gt (aggV (refV x16)) 0)) == ([] : Str)))
     (cnd ((intV (gt s1 11)) == 7)
      (callp O 34 [(.str (strV (gt (aggV (refV x16)) 0))), (.slice (esV (gt s1 15)) [] false)] fun x18 => cnd (chk (.tup [shValue, .bool]) x18)
      (cnd (!(boolV (gt (tupV x18) 1)))
       (some (.ret, [(.ptr 0 2 0), (.ptr 0 4 0), (.bool false), (.slice (esV (gt s1 3)) [] false), (.int .i64 (intV (gt s1 4))), (.int .i64 (intV (gt s1 5))), (.int .i64 0), (.int .i64 0), (.str []), (.slice [] [] true), (.slice [] [] true), (.int .i64 (intV (gt s1 11))), (.int .i64 (intV (gt s1 12))), (.str (strV (gt s1 13))), (.slice (esV (gt s1 14)) [] false), (.slice (esV (gt s1 15)) [] false)], []))
       (some (.nrm, [(.ptr 0 2 0), (.ptr 0 4 0), (.bool (boolV (gt s1 2))), (.slice (esV (gt s1 3)) [] false), (.int .i64 (intV (gt s1 4))), (.int .i64 (IntKind.wrap .i64 ((intV (gt s1 5)) + 1))), (.int .i64 (intV (gt s1 6))), (.int .i64 (intV (gt s1 7))), (.str (strV (gt s1 8))), (.slice (esV (gt s1 9)) [] true), (.slice (esV (gt s1 10)) [] true), (.int .i64 (intV (gt (aggV (gt (tupV x18) 0)) 0))), (.int .i64 (intV (gt (aggV (gt (tupV x18) 0)) 1))), (.str (strV (gt (aggV (gt (tupV x18) 0)) 2))), (.slice (esV (gt (aggV (gt (tupV x18) 0)) 3)) [] false), (.slice (esV (gt (aggV (gt (tupV x18) 0)) 4)) [] false)], []))) none)
      (cnd ((strV (gt (aggV (refV x16)) 0)) == ([] : Str))
       (cnd ((intV (gt s1 11)) == 6)
        (cnd (decide ((intV (gt (aggV (refV x16)) 1)) ≥ 0))
         (cnd (decide ((intV (gt (aggV (refV x16)) 1)) < (List.length (esV (gt s1 14)) : Int)))
          (bnd (ix 5 (.slice (esV (gt s1 14)) [] false) (.int .i64 (intV (gt (aggV (refV x16)) 1)))) fun x20 => cnd (chk (.ref shValue) x20)
          (some (.nrm, [(.ptr 0 2 0), (.ptr 0 4 0), (.bool (boolV (gt s1 2))), (.slice (esV (gt s1 3)) [] false), (.int .i64 (intV (gt s1 4))), (.int .i64 (IntKind.wrap .i64 ((intV (gt s1 5)) + 1))), (.int .i64 (intV (gt s1 6))), (.int .i64 (intV (gt s1 7))), (.str (strV (gt s1 8))), (.slice (esV (gt s1 9)) [] true), (.slice (esV (gt s1 10)) [] true), (.int .i64 (intV (gt (aggV (refV x20)) 0))), (.int .i64 (intV (gt (aggV (refV x20)) 1))), (.str (strV (gt (aggV (refV x20)) 2))), (.slice (esV (gt (aggV (refV x20)) 3)) [] false), (.slice (esV (gt (aggV (refV x20)) 4)) [] false)], [])) none)
          (some (.ret, [(.ptr 0 2 0), (.ptr 0 4 0), (.bool false), (.slice (esV (gt s1 3)) [] false), (.int .i64 (intV (gt s1 4))), (.int .i64 (intV (gt s1 5))), (.int .i64 0), (.int .i64 0), (.str []), (.slice [] [] true), (.slice [] [] true), (.int .i64 (intV (gt s1 11))), (.int .i64 (intV (gt s1 12))), (.str (strV (gt s1 13))), (.slice (esV (gt s1 14)) [] false), (.slice (esV (gt s1 15)) [] false)], [])))
         (some (.ret, [(.ptr 0 2 0), (.ptr 0 4 0), (.bool false), (.slice (esV (gt s1 3)) [] false), (.int .i64 (intV (gt s1 4))), (.int .i64 (intV (gt s1 5))), (.int .i64 0), (.int .i64 0), (.str []), (.slice [] [] true), (.slice [] [] true), (.int .i64 (intV (gt s1 11))), (.int .i64 (intV (gt s1 12))), (.str (strV (gt s1 13))), (.slice (esV (gt s1 14)) [] false), (.slice (esV (gt s1 15)) [] false)], [])))
        (some (.ret, [(.ptr 0 2 0), (.ptr 0 4 0), (.bool false), (.slice (esV (gt s1 3)) [] false), (.int .i64 (intV (gt s1 4))), (.int .i64 (intV (gt s1 5))), (.int .i64 0), (.int .i64 0), (.str []), (.slice [] [] true), (.slice [] [] true), (.int .i64 (intV (gt s1 11))), (.int .i64 (intV (gt s1 12))), (.str (strV (gt s1 13))), (.slice (esV (gt s1 14)) [] false), (.slice (esV (gt s1 15)) [] false)], [])))
       (some (.ret, [(.ptr 0 2 0), (.ptr 0 4 0), (.bool false), (.slice (esV (gt s1 3)) [] false), (.int .i64 (intV (gt s1 4))), (.int .i64 (intV (gt s1 5))), (.int .i64 0), (.int .i64 0), (.str []), (.slice [] [] true), (.slice [] [] true), (.int .i64 (intV (gt s1 11))), (.int .i64 (intV (gt s1 12))), (.str (strV (gt s1 13))), (.slice (esV (gt s1 14)) [] false), (.slice (esV (gt s1 15)) [] false)], []))))
     (cnd ((strV (gt (aggV (refV x16)) 0)) == ([] : Str))
      (cnd ((intV (gt s1 11)) == 6)
       (cnd (decide ((intV (gt (aggV (refV x16)) 1)) ≥ 0))
        (cnd (decide ((intV (gt (aggV (refV x16)) 1)) < (List.length (esV (gt s1 14)) : Int)))
         (bnd (ix 5 (.slice (esV (gt s1 14)) [] false) (.int .i64 (intV (gt (aggV (refV x16)) 1)))) fun x22 => cnd (chk (.ref shValue) x22)
         (some (.nrm, [(.ptr 0 2 0), (.ptr 0 4 0), (.bool (boolV (gt s1 2))), (.slice (esV (gt s1 3)) [] false), (.int .i64 (intV (gt s1 4))), (.int .i64 (IntKind.wrap .i64 ((intV (gt s1 5)) + 1))), (.int .i64 (intV (gt s1 6))), (.int .i64 (intV (gt s1 7))), (.str (strV (gt s1 8))), (.slice (esV (gt s1 9)) [] true), (.slice (esV (gt s1 10)) [] true), (.int .i64 (intV (gt (aggV (refV x22)) 0))), (.int .i64 (intV (gt (aggV (refV x22)) 1))), (.str (strV (gt (aggV (refV x22)) 2))), (.slice (esV (gt (aggV (refV x22)) 3)) [] false), (.slice (esV (gt (aggV (refV x22)) 4)) [] false)], [])) none)
         (some (.ret, [(.ptr 0 2 0), (.ptr 0 4 0), (.bool false), (.slice (esV (gt s1 3)) [] false), (.int .i64 (intV (gt s1 4))), (.int .i64 (intV (gt s1 5))), (.int .i64 0), (.int .i64 0), (.str []), (.slice [] [] true), (.slice [] [] true), (.int .i64 (intV (gt s1 11))), (.int .i64 (intV (gt s1 12))), (.str (strV (gt s1 13))), (.slice (esV (gt s1 14)) [] false), (.slice (esV (gt s1 15)) [] false)], [])))
        (some (.ret, [(.ptr 0 2 0), (.ptr 0 4 0), (.bool false), (.slice (esV (gt s1 3)) [] false), (.int .i64 (intV (gt s1 4))), (.int .i64 (intV (gt s1 5))), (.int .i64 0), (.int .i64 0), (.str []), (.slice [] [] true), (.slice [] [] true), (.int .i64 (intV (gt s1 11))), (.int .i64 (intV (gt s1 12))), (.str (strV (gt s1 13))), (.slice (esV (gt s1 14)) [] false), (.slice (esV (gt s1 15)) [] false)], [])))
       (some (.ret, [(.ptr 0 2 0), (.ptr 0 4 0), (.bool false), (.slice (esV (gt s1 3)) [] false), (.int .i64 (intV (gt s1 4))), (.int .i64 (intV (gt s1 5))), (.int .i64 0), (.int .i64 0), (.str []), (.slice [] [] true), (.slice [] [] true), (.int .i64 (intV (gt s1 11))), (.int .i64 (intV (gt s1 12))), (.str (strV (gt s1 13))), (.slice (esV (gt s1 14)) [] false), (.slice (esV (gt s1 15)) [] false)], [])))
      (some (.ret, [(.ptr 0 2 0), (.ptr 0 4 0), (.bool false), (.slice (esV (gt s1 3)) [] false), (.int .i64 (intV (gt s1 4))), (.int .i64 (intV (gt s1 5))), (.int .i64 0), (.int .i64 0), (.str []), (.slice [] [] true), (.slice [] [] true), (.int .i64 (intV (gt s1 11))), (.int .i64 (intV (gt s1 12))), (.str (strV (gt s1 13))), (.slice (esV (gt s1 14)) [] false), (.slice (esV (gt s1 15)) [] false)], []))))) none)
   (some (.brk 0, [(.ptr 0 2 0), (.ptr 0 4 0), (.bool (boolV (gt s1 2))), (.slice (esV (gt s1 3)) [] false), (.int .i64 (intV (gt s1 4))), (.int .i64 (intV (gt s1 5))), (.int .i64 (intV (gt s1 6))), (.int .i64 (intV (gt s1 7))), (.str (strV (gt s1 8))), (.slice (esV (gt s1 9)) [] true), (.slice (esV (gt s1 10)) [] true), (.int .i64 (intV (gt s1 11))), (.int .i64 (intV (gt s1 12))), (.str (strV (gt s1 13))), (.slice (esV (gt s1 14)) [] false), (.slice (esV (gt s1 15)) [] false)], []))) none) none
def tree_At_T1 (O : Orc) (LP : LBody → LBody) (v0 : GValue) (p0 : List GStep) : Option (PV × UP) :=
  bnd (LP (tree_At_l1 O LP) [(.ptr 0 2 0), (.ptr 0 4 0), (.bool false), (.slice (List.map encStep p0) [] false), (.int .i64 (List.length (List.map encStep p0) : Int)), (.int .i64 0), (.int .i64 0), (.int .i64 0), (.str []), (.slice [] [] true), (.slice [] [] true), (.int .i64 v0.kind), (.int .i64 v0.n), (.str v0.s), (.slice (List.map encValue v0.l) [] false), (.slice (List.map encMember v0.m) [] false)] []) fun y36 =>
  exIs y36.1 (some 0) (cnd (chkL [(.ptr 0 2 0), (.ptr 0 4 0), .bool, (.sl false), (.int .i64), (.int .i64), (.int .i64), (.int .i64), .str, (.sl true), (.sl true), (.int .i64), (.int .i64), .str, (.sl false), (.sl false)] y36.2.1) (cnd (chkU [] y36.2.2)
   (some ((.tuple [(.agg [(.int .i64 (intV (gt y36.2.1 11))), (.int .i64 (intV (gt y36.2.1 12))), (.str (strV (gt y36.2.1 13))), (.slice (esV (gt y36.2.1 14)) [] false), (.slice (esV (gt y36.2.1 15)) [] false)]), (.bool true)]), [])) none) none)
  (exIs y36.1 none (cnd (chkL [(.ptr 0 2 0), (.ptr 0 4 0), .bool, (.sl false), (.int .i64), (.int .i64), (.int .i64), (.int .i64), .str, (.sl true), (.sl true), (.int .i64), (.int .i64), .str, (.sl false), (.sl false)] y36.2.1) (cnd (chkU [] y36.2.2)
   (some ((.tuple [(.agg [(.int .i64 (intV (gt y36.2.1 6))), (.int .i64 (intV (gt y36.2.1 7))), (.str (strV (gt y36.2.1 8))), (.slice (esV (gt y36.2.1 9)) [] false), (.slice (esV (gt y36.2.1 10)) [] false)]), (.bool (boolV (gt y36.2.1 2)))]), [])) none) none)
  (none))
noncomputable def tree_At_l1T (p0 : List GStep) : (Int × Int × Int × Str × (List GValue) × (List GMember)) → Option ((Int × Int × Int × Str × (List GValue) × (List GMember)) ⊕ ((Int × Int × Str × (List GValue) × (List GMember)) ⊕ Unit))
  | (t_10, v_11, v_12, v_13, v_14, v_15) =>
  cnd (decide (t_10 < (List.length p0 : Int)))
   (bnd (nthI p0 t_10) fun y17 =>
   cnd (v_11 == 0)
    (some (.inr (.inl (v_11, v_12, v_13, v_14, v_15))))
    (cnd (!(y17.name == ([] : Str)))
     (cnd (v_11 == 7)
      (bnd (value_Get y17.name v_15) fun y19 =>
      cnd (!y19.2)
       (some (.inr (.inr ())))
       (some (.inl ((IntKind.wrap .i64 (t_10 + 1)), y19.1.kind, y19.1.n, y19.1.s, y19.1.l, y19.1.m))))
      (cnd (y17.name == ([] : Str))
       (cnd (v_11 == 6)
        (cnd (decide (y17.at_ ≥ 0))
         (cnd (decide (y17.at_ < (List.length v_14 : Int)))
          (bnd (nthI v_14 y17.at_) fun y21 =>
          some (.inl ((IntKind.wrap .i64 (t_10 + 1)), y21.kind, y21.n, y21.s, y21.l, y21.m)))
          (some (.inr (.inr ()))))
         (some (.inr (.inr ()))))
        (some (.inr (.inr ()))))
       (some (.inr (.inr ())))))
     (cnd (y17.name == ([] : Str))
      (cnd (v_11 == 6)
       (cnd (decide (y17.at_ ≥ 0))
        (cnd (decide (y17.at_ < (List.length v_14 : Int)))
         (bnd (nthI v_14 y17.at_) fun y23 =>
         some (.inl ((IntKind.wrap .i64 (t_10 + 1)), y23.kind, y23.n, y23.s, y23.l, y23.m)))
         (some (.inr (.inr ()))))
        (some (.inr (.inr ()))))
       (some (.inr (.inr ()))))
      (some (.inr (.inr ()))))))
   (some (.inr (.inl (v_11, v_12, v_13, v_14, v_15))))
abbrev tree_At_l1R (p0 : List GStep) (st : Int × Int × Int × Str × (List GValue) × (List GMember)) (l : List PV) (u : UP) : Prop := l = [(.ptr 0 2 0), (.ptr 0 4 0), (.bool false), (.slice (List.map encStep p0) [] false), (.int .i64 (List.length p0 : Int)), (.int .i64 st.1), (.int .i64 0), (.int .i64 0), (.str []), (.slice [] [] true), (.slice [] [] true), (.int .i64 st.2.1), (.int .i64 st.2.2.1), (.str st.2.2.2.1), (.slice (List.map encValue st.2.2.2.2.1) [] false), (.slice (List.map encMember st.2.2.2.2.2) [] false)] ∧ u = []
abbrev tree_At_l1X (p0 : List GStep) (p : (Int × Int × Str × (List GValue) × (List GMember)) ⊕ Unit) (r : Ex × List PV × UP) : Prop := elim p (fun (p : Int × Int × Str × (List GValue) × (List GMember)) => ∃ (t_24 : Int), r = (Ex.brk 0, [(.ptr 0 2 0), (.ptr 0 4 0), (.bool false), (.slice (List.map encStep p0) [] false), (.int .i64 (List.length p0 : Int)), (.int .i64 t_24), (.int .i64 0), (.int .i64 0), (.str []), (.slice [] [] true), (.slice [] [] true), (.int .i64 p.1), (.int .i64 p.2.1), (.str p.2.2.1), (.slice (List.map encValue p.2.2.2.1) [] false), (.slice (List.map encMember p.2.2.2.2) [] false)], [])) (fun q2 => (fun (p : Unit) => ∃ (t_30 : Int), ∃ (v_31 : Int), ∃ (v_32 : Int), ∃ (v_33 : Str), ∃ (v_34 : List GValue), ∃ (v_35 : List GMember), r = (Ex.ret, [(.ptr 0 2 0), (.ptr 0 4 0), (.bool false), (.slice (List.map encStep p0) [] false), (.int .i64 (List.length p0 : Int)), (.int .i64 t_30), (.int .i64 0), (.int .i64 0), (.str []), (.slice [] [] true), (.slice [] [] true), (.int .i64 v_31), (.int .i64 v_32), (.str v_33), (.slice (List.map encValue v_34) [] false), (.slice (List.map encMember v_35) [] false)], [])) q2)
noncomputable def tree_At_B (v0 : GValue) (p0 : List GStep) : Option (GValue × Bool) :=
  bnd (tloop (tree_At_l1T p0) (0, v0.kind, v0.n, v0.s, v0.l, v0.m)) fun e36_2 => elim e36_2
  (fun p36 =>
   some ((GValue.mk p36.1 p36.2.1 p36.2.2.1 p36.2.2.2.1 p36.2.2.2.2), true))
  (fun p36 =>
  some ((GValue.mk 0 0 [] ([] : List GValue) ([] : List GMember)), false))
def tree_At_ds : Decs := { decs := [(14, (.ref shStep)), (34, (.tup [shValue, .bool])), (67, (.ref shValue))], loops := [(2, ⟨[(.ptr 0 2 0), (.ptr 0 4 0), .bool, (.sl false), (.int .i64), (.int .i64), (.int .i64), (.int .i64), .str, (.sl true), (.sl true), (.int .i64), (.int .i64), .str, (.sl false), (.sl false)], [], [(some 0, [(.ptr 0 2 0), (.ptr 0 4 0), .bool, (.sl false), (.int .i64), (.int .i64), (.int .i64), (.int .i64), .str, (.sl true), (.sl true), (.int .i64), (.int .i64), .str, (.sl false), (.sl false)], []), (none, [(.ptr 0 2 0), (.ptr 0 4 0), .bool, (.sl false), (.int .i64), (.int .i64), (.int .i64), (.int .i64), .str, (.sl true), (.sl true), (.int .i64), (.int .i64), .str, (.sl false), (.sl false)], [])]⟩)] }
set_option maxRecDepth 100000 in
theorem tree_At_t1 (O : Orc) (LP : LBody → LBody) (v0 : GValue) (p0 : List GStep) : evalBodyD Try.prog (MT 22) tree_At_ds Try.f22.ntmps O LP Try.f22 [(.agg [(.int .i64 v0.kind), (.int .i64 v0.n), (.str v0.s), (.slice (List.map encValue v0.l) [] false), (.slice (List.map encMember v0.m) [] false)]), (.slice (List.map encStep p0) [] false)] [] = tree_At_T1 O LP v0 p0 := by kernel_rfl
theorem tree_At_l1_ok (p0 : List GStep) : ∀ st l u, tree_At_l1R p0 st l u → Imp (tree_At_l1T p0 st) (tree_At_l1 O loopLim l u) (StepR (tree_At_l1R p0) (tree_At_l1X p0)) := by
  rintro ⟨t_10, v_11, v_12, v_13, v_14, v_15⟩ l u ⟨rfl, rfl⟩
  simp only [tree_At_l1T, tree_At_l1]
  refine Imp.chk rfl (Imp.chk rfl ?_)
  try simp only [evs, tys]
  refine Imp.cnd ?_ ?_
  · refine Imp.op (f := fun a => .ref (encStep a)) (fun a h => op_ix (enc := encStep) (by first | rfl | simp only [evs, tys, evl]) ⟨by first | rfl | simp only [evs, tys, evc], by decide⟩ h) (fun a => chk_GStep a) fun y17 hy17 => ?_
    try simp only [evs, tys]
    refine Imp.cnd ?_ ?_
    · exact Imp.some (StepR.brk ⟨t_10, by first | rfl | simp only [evs, tys, evl, elim_inl, elim_inr]⟩)
    · refine Imp.cnd ?_ ?_
      · refine Imp.cnd ?_ ?_
        · refine Imp.call (f := value_GetE) rfl (fun a h => by first | exact value_Get_spec h | simpa only [evs, tys, evl] using value_Get_spec h) (fun a => by first | rfl | simp only [value_GetE, evk, chks]) fun y19 hy19 => ?_
          try simp only [value_GetE, evs, tys]
          refine Imp.cnd ?_ ?_
          · exact Imp.some (StepR.ret ⟨t_10, v_11, v_12, v_13, v_14, v_15, by first | rfl | simp only [evs, tys, evl, elim_inl, elim_inr]⟩)
          · exact Imp.some (StepR.next ⟨by first | rfl | simp only [evs, tys, evl], rfl⟩)
        · refine Imp.cnd ?_ ?_
          · refine Imp.cnd ?_ ?_
            · refine Imp.cnd ?_ ?_
              · refine Imp.cnd ?_ ?_
                · refine Imp.op (f := fun a => .ref (encValue a)) (fun a h => op_ix (enc := encValue) (by first | rfl | simp only [evs, tys, evl]) ⟨by first | rfl | simp only [evs, tys, evc], by decide⟩ h) (fun a => chk_GValue a) fun y21 hy21 => ?_
                  try simp only [evs, tys]
                  exact Imp.some (StepR.next ⟨by first | rfl | simp only [evs, tys, evl], rfl⟩)
                · exact Imp.some (StepR.ret ⟨t_10, v_11, v_12, v_13, v_14, v_15, by first | rfl | simp only [evs, tys, evl, elim_inl, elim_inr]⟩)
              · exact Imp.some (StepR.ret ⟨t_10, v_11, v_12, v_13, v_14, v_15, by first | rfl | simp only [evs, tys, evl, elim_inl, elim_inr]⟩)
            · exact Imp.some (StepR.ret ⟨t_10, v_11, v_12, v_13, v_14, v_15, by first | rfl | simp only [evs, tys, evl, elim_inl, elim_inr]⟩)
          · exact Imp.some (StepR.ret ⟨t_10, v_11, v_12, v_13, v_14, v_15, by first | rfl | simp only [evs, tys, evl, elim_inl, elim_inr]⟩)
      · refine Imp.cnd ?_ ?_
        · refine Imp.cnd ?_ ?_
          · refine Imp.cnd ?_ ?_
            · refine Imp.cnd ?_ ?_
              · refine Imp.op (f := fun a => .ref (encValue a)) (fun a h => op_ix (enc := encValue) (by first | rfl | simp only [evs, tys, evl]) ⟨by first | rfl | simp only [evs, tys, evc], by decide⟩ h) (fun a => chk_GValue a) fun y23 hy23 => ?_
                try simp only [evs, tys]
                exact Imp.some (StepR.next ⟨by first | rfl | simp only [evs, tys, evl], rfl⟩)
              · exact Imp.some (StepR.ret ⟨t_10, v_11, v_12, v_13, v_14, v_15, by first | rfl | simp only [evs, tys, evl, elim_inl, elim_inr]⟩)
            · exact Imp.some (StepR.ret ⟨t_10, v_11, v_12, v_13, v_14, v_15, by first | rfl | simp only [evs, tys, evl, elim_inl, elim_inr]⟩)
          · exact Imp.some (StepR.ret ⟨t_10, v_11, v_12, v_13, v_14, v_15, by first | rfl | simp only [evs, tys, evl, elim_inl, elim_inr]⟩)
        · exact Imp.some (StepR.ret ⟨t_10, v_11, v_12, v_13, v_14, v_15, by first | rfl | simp only [evs, tys, evl, elim_inl, elim_inr]⟩)
  · exact Imp.some (StepR.brk ⟨t_10, by first | rfl | simp only [evs, tys, evl, elim_inl, elim_inr]⟩)
theorem tree_At_imp (v0 : GValue) (p0 : List GStep) : Imp (tree_At_B v0 p0) (tree_At_T1 O loopLim v0 p0) (fun r v => v = (tree_AtE r, [])) := by
  simp only [tree_At_B, tree_At_T1]
  try simp only [evs, tys]
  refine Imp.bnd (Imp.loop (tree_At_l1_ok p0) ⟨by first | rfl | simp only [evs, tys, evl], rfl⟩) ?_
  rintro (⟨v_25, v_26, v_27, v_28, v_29⟩ | p) vy36 hy36
  · try simp only [elim_inl, elim_inr]
    obtain ⟨t_24, rfl⟩ := hy36
    refine Imp.exHit rfl (Imp.chk rfl (Imp.chk rfl ?_))
    try simp only [evs, tys]
    exact Imp.some (by first | rfl | simp only [tree_AtE, evs, tys, evl])
  · try simp only [elim_inl, elim_inr]
    obtain ⟨t_30, v_31, v_32, v_33, v_34, v_35, rfl⟩ := hy36
    refine Imp.exMiss rfl ?_
    refine Imp.exHit rfl (Imp.chk rfl (Imp.chk rfl ?_))
    try simp only [evs, tys]
    exact Imp.some (by first | rfl | simp only [tree_AtE, evs, tys, evl])
theorem tree_At_run {v0 : GValue} {p0 : List GStep} {r : GValue × Bool} (h : tree_At_B v0 p0 = some r) : tree_At v0 p0 = some r := by
  obtain ⟨v, hv, rfl⟩ := tree_At_imp v0 p0 r h
  exact tO_of (pair_inj tree_AtEj) (OL_runD tree_At_ds rfl Try.func22 ((tree_At_t1 _ _ v0 p0).trans hv))

def seinelaw18_typ_T1 (O : Orc) (LP : LBody → LBody) (name : Str) (musts : Int) : Option (PV × UP) :=
  some ((.agg [(.str name), (.int .i64 0), (.int .i64 musts)]), [])
noncomputable def seinelaw18_typ_B (name : Str) (musts : Int) : Option GType :=
  some (GType.mk name 0 musts)
def seinelaw18_typ_ds : Decs := { decs := [], loops := [] }
set_option maxRecDepth 100000 in
theorem seinelaw18_typ_t1 (O : Orc) (LP : LBody → LBody) (name : Str) (musts : Int) : evalBodyD Try.prog (MT 23) seinelaw18_typ_ds Try.f23.ntmps O LP Try.f23 [(.str name), (.int .i64 musts)] [] = seinelaw18_typ_T1 O LP name musts := by kernel_rfl
theorem seinelaw18_typ_imp (name : Str) (musts : Int) : Imp (seinelaw18_typ_B name musts) (seinelaw18_typ_T1 O loopLim name musts) (fun r v => v = (seinelaw18_typE r, [])) := by
  simp only [seinelaw18_typ_B, seinelaw18_typ_T1]
  try simp only [evs, tys]
  exact Imp.some (by first | rfl | simp only [seinelaw18_typE, evs, tys, evl])
theorem seinelaw18_typ_run {name : Str} {musts : Int} {r : GType} (h : seinelaw18_typ_B name musts = some r) : seinelaw18_typ name musts = some r := by
  obtain ⟨v, hv, rfl⟩ := seinelaw18_typ_imp name musts r h
  exact tO_of (pair_inj seinelaw18_typEj) (OL_runD seinelaw18_typ_ds rfl Try.func23 ((seinelaw18_typ_t1 _ _ name musts).trans hv))
end Go.Proofs.Ytoddajoeiamidaa

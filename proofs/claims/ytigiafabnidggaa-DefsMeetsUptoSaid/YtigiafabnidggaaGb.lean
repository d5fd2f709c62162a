import Derived.Test.YtigiafabnidggaaGa
set_option linter.unusedVariables false
set_option linter.unusedSimpArgs false
/- Printed by symgen.py: typed functions of this seat, and why they tell what the program does. -/
set_option linter.unusedVariables false
set_option linter.unusedSimpArgs false
open Go Go.Ev Go.Ev.PV
namespace Go.Proofs.Ytigiafabnidggaa
def seinelaw9_DefsFields_T1 (O : Orc) (LP : LBody → LBody) (s : GSchema) (typ : Str) (name : Str) : Option (PV × UP) :=
  callp O 8 [(.agg [(.slice (List.map encDef s.defs) [] false), (.str s.query), (.str s.mutation)])] fun x1 => cnd (chk .bool x1)
  (cnd (!(boolV x1))
   (callp O 9 [] fun x3 => cnd (chk .bool x3)
   (some ((.bool (boolV x3)), [])) none)
   (cnd (decide ((IntKind.wrap .i64 ((List.length typ : Int) + (List.length name : Int))) > 2000))
    (callp O 9 [] fun x5 => cnd (chk .bool x5)
    (some ((.bool (boolV x5)), [])) none)
    (callp O 10 [(.agg [(.slice (List.map encDef s.defs) [] false), (.str s.query), (.str s.mutation)]), (.str typ), (.str name)] fun x7 => cnd (chk (.tup [shFieldDef, .bool]) x7)
    (callp O 11 [(.agg [(.slice (List.map encDef s.defs) [] false), (.str s.query), (.str s.mutation)]), (.str typ), (.str name)] fun x9 => cnd (chk (.tup [shFieldDef, .bool]) x9)
    (callp O 10 [(.agg [(.slice (List.map encDef s.defs) [] false), (.str s.query), (.str s.mutation)]), (.str typ), (.str [95, 95, 116, 121, 112, 101, 110, 97, 109, 101])] fun x11 => cnd (chk (.tup [shFieldDef, .bool]) x11)
    (cnd (boolV (gt (tupV x11) 1))
     (cnd (!(((strV (gt (aggV (gt (tupV x11) 0)) 2)) == [83, 116, 114, 105, 110, 103]) && (((intV (gt (aggV (gt (tupV x11) 0)) 3)) == 0) && (((intV (gt (aggV (gt (tupV x11) 0)) 4)) == 1) && true))))
      (some ((.bool false), []))
      (cnd (decide ((IntKind.wrap .i64 ((List.length (esV (gt (aggV (gt (tupV x11) 0)) 1)) : Int) + (List.length (esV (gt (aggV (gt (tupV x11) 0)) 5)) : Int))) > 0))
       (some ((.bool false), []))
       (cnd ((boolV (gt (tupV x7) 1)) == (boolV (gt (tupV x9) 1)))
        (callp O 12 [(.agg [(.str (strV (gt (aggV (gt (tupV x7) 0)) 0))), (.slice (esV (gt (aggV (gt (tupV x7) 0)) 1)) [] false), (.str (strV (gt (aggV (gt (tupV x7) 0)) 2))), (.int .i64 (intV (gt (aggV (gt (tupV x7) 0)) 3))), (.int .i64 (intV (gt (aggV (gt (tupV x7) 0)) 4))), (.slice (esV (gt (aggV (gt (tupV x7) 0)) 5)) [] false)]), (.agg [(.str (strV (gt (aggV (gt (tupV x9) 0)) 0))), (.slice (esV (gt (aggV (gt (tupV x9) 0)) 1)) [] false), (.str (strV (gt (aggV (gt (tupV x9) 0)) 2))), (.int .i64 (intV (gt (aggV (gt (tupV x9) 0)) 3))), (.int .i64 (intV (gt (aggV (gt (tupV x9) 0)) 4))), (.slice (esV (gt (aggV (gt (tupV x9) 0)) 5)) [] false)])] fun x13 => cnd (chk .bool x13)
        (cnd (boolV x13)
         (callp O 13 [(.agg [(.slice (List.map encDef s.defs) [] false), (.str s.query), (.str s.mutation)]), (.str typ)] fun x15 => cnd (chk .bool x15)
         (cnd ((boolV (gt (tupV x11) 1)) == (boolV x15))
          (callp O 9 [] fun x17 => cnd (chk .bool x17)
          (some ((.bool (boolV x17)), [])) none)
          (some ((.bool false), []))) none)
         (some ((.bool false), []))) none)
        (some ((.bool false), [])))))
     (cnd ((boolV (gt (tupV x7) 1)) == (boolV (gt (tupV x9) 1)))
      (callp O 12 [(.agg [(.str (strV (gt (aggV (gt (tupV x7) 0)) 0))), (.slice (esV (gt (aggV (gt (tupV x7) 0)) 1)) [] false), (.str (strV (gt (aggV (gt (tupV x7) 0)) 2))), (.int .i64 (intV (gt (aggV (gt (tupV x7) 0)) 3))), (.int .i64 (intV (gt (aggV (gt (tupV x7) 0)) 4))), (.slice (esV (gt (aggV (gt (tupV x7) 0)) 5)) [] false)]), (.agg [(.str (strV (gt (aggV (gt (tupV x9) 0)) 0))), (.slice (esV (gt (aggV (gt (tupV x9) 0)) 1)) [] false), (.str (strV (gt (aggV (gt (tupV x9) 0)) 2))), (.int .i64 (intV (gt (aggV (gt (tupV x9) 0)) 3))), (.int .i64 (intV (gt (aggV (gt (tupV x9) 0)) 4))), (.slice (esV (gt (aggV (gt (tupV x9) 0)) 5)) [] false)])] fun x19 => cnd (chk .bool x19)
      (cnd (boolV x19)
       (callp O 13 [(.agg [(.slice (List.map encDef s.defs) [] false), (.str s.query), (.str s.mutation)]), (.str typ)] fun x21 => cnd (chk .bool x21)
       (cnd ((boolV (gt (tupV x11) 1)) == (boolV x21))
        (callp O 9 [] fun x23 => cnd (chk .bool x23)
        (some ((.bool (boolV x23)), [])) none)
        (some ((.bool false), []))) none)
       (some ((.bool false), []))) none)
      (some ((.bool false), [])))) none) none) none))) none
noncomputable def seinelaw9_DefsFields_B (s : GSchema) (typ : Str) (name : Str) : Option Bool :=
  bnd (seinelaw8_Light s) fun y2 =>
  cnd (!y2)
   (bnd (seinelaw9_awake) fun y4 =>
   some y4)
   (cnd (decide ((IntKind.wrap .i64 ((List.length typ : Int) + (List.length name : Int))) > 2000))
    (bnd (seinelaw9_awake) fun y6 =>
    some y6)
    (bnd (defs_Field s typ name) fun y8 =>
    bnd (seineref9_Field s typ name) fun y10 =>
    bnd (defs_Field s typ [95, 95, 116, 121, 112, 101, 110, 97, 109, 101]) fun y12 =>
    cnd y12.2
     (cnd (!((y12.1.t.name == [83, 116, 114, 105, 110, 103]) && ((y12.1.t.lists == 0) && ((y12.1.t.musts == 1) && true))))
      (some false)
      (cnd (decide ((IntKind.wrap .i64 ((List.length y12.1.params : Int) + (List.length y12.1.dirs : Int))) > 0))
       (some false)
       (cnd (y8.2 == y10.2)
        (bnd (seineref6_SameField y8.1 y10.1) fun y14 =>
        cnd y14
         (bnd (defs_Composite s typ) fun y16 =>
         cnd (y12.2 == y16)
          (bnd (seinelaw9_awake) fun y18 =>
          some y18)
          (some false))
         (some false))
        (some false))))
     (cnd (y8.2 == y10.2)
      (bnd (seineref6_SameField y8.1 y10.1) fun y20 =>
      cnd y20
       (bnd (defs_Composite s typ) fun y22 =>
       cnd (y12.2 == y22)
        (bnd (seinelaw9_awake) fun y24 =>
        some y24)
        (some false))
       (some false))
      (some false))))
def seinelaw9_DefsFields_ds : Decs := { decs := [(14, .bool), (24, .bool), (29, (.tup [shFieldDef, .bool])), (36, (.tup [shFieldDef, .bool])), (42, (.tup [shFieldDef, .bool])), (68, .bool), (74, .bool), (78, .bool)], ups := [], loops := [] }
set_option maxRecDepth 100000 in
theorem seinelaw9_DefsFields_t1 (O : Orc) (LP : LBody → LBody) (s : GSchema) (typ : Str) (name : Str) : evalBodyD Try.prog (MT 3) seinelaw9_DefsFields_ds Try.f3.ntmps O LP Try.f3 [(.agg [(.slice (List.map encDef s.defs) [] false), (.str s.query), (.str s.mutation)]), (.str typ), (.str name)] [] = seinelaw9_DefsFields_T1 O LP s typ name := by kernel_rfl
theorem seinelaw9_DefsFields_imp (s : GSchema) (typ : Str) (name : Str) : Imp (seinelaw9_DefsFields_B s typ name) (seinelaw9_DefsFields_T1 O loopLim s typ name) (fun r v => v = (seinelaw9_DefsFieldsE r, [])) := by
  simp only [seinelaw9_DefsFields_B, seinelaw9_DefsFields_T1]
  try simp only [evs, tys]
  refine Imp.call (f := seinelaw8_LightE) rfl (fun a h => by first | exact seinelaw8_Light_spec h | simpa only [evs, tys, evl] using seinelaw8_Light_spec h) (fun a => by first | rfl | simp only [seinelaw8_LightE, evk, chks]) fun y2 hy2 => ?_
  try simp only [seinelaw8_LightE, evs, tys]
  refine Imp.cnd ?_ ?_
  · refine Imp.call (f := seinelaw9_awakeE) rfl (fun a h => by first | exact seinelaw9_awake_spec h | simpa only [evs, tys, evl] using seinelaw9_awake_spec h) (fun a => by first | rfl | simp only [seinelaw9_awakeE, evk, chks]) fun y4 hy4 => ?_
    try simp only [seinelaw9_awakeE, evs, tys]
    exact Imp.some (by first | rfl | simp only [seinelaw9_DefsFieldsE, evs, tys, evl])
  · refine Imp.cnd ?_ ?_
    · refine Imp.call (f := seinelaw9_awakeE) rfl (fun a h => by first | exact seinelaw9_awake_spec h | simpa only [evs, tys, evl] using seinelaw9_awake_spec h) (fun a => by first | rfl | simp only [seinelaw9_awakeE, evk, chks]) fun y6 hy6 => ?_
      try simp only [seinelaw9_awakeE, evs, tys]
      exact Imp.some (by first | rfl | simp only [seinelaw9_DefsFieldsE, evs, tys, evl])
    · refine Imp.call (f := defs_FieldE) rfl (fun a h => by first | exact defs_Field_spec h | simpa only [evs, tys, evl] using defs_Field_spec h) (fun a => by first | rfl | simp only [defs_FieldE, evk, chks]) fun y8 hy8 => ?_
      try simp only [defs_FieldE, evs, tys]
      refine Imp.call (f := seineref9_FieldE) rfl (fun a h => by first | exact seineref9_Field_spec h | simpa only [evs, tys, evl] using seineref9_Field_spec h) (fun a => by first | rfl | simp only [seineref9_FieldE, evk, chks]) fun y10 hy10 => ?_
      try simp only [seineref9_FieldE, evs, tys]
      refine Imp.call (f := defs_FieldE) rfl (fun a h => by first | exact defs_Field_spec h | simpa only [evs, tys, evl] using defs_Field_spec h) (fun a => by first | rfl | simp only [defs_FieldE, evk, chks]) fun y12 hy12 => ?_
      try simp only [defs_FieldE, evs, tys]
      refine Imp.cnd ?_ ?_
      · refine Imp.cnd ?_ ?_
        · exact Imp.some (by first | rfl | simp only [seinelaw9_DefsFieldsE, evs, tys, evl])
        · refine Imp.cnd ?_ ?_
          · exact Imp.some (by first | rfl | simp only [seinelaw9_DefsFieldsE, evs, tys, evl])
          · refine Imp.cnd ?_ ?_
            · refine Imp.call (f := seineref6_SameFieldE) rfl (fun a h => by first | exact seineref6_SameField_spec h | simpa only [evs, tys, evl] using seineref6_SameField_spec h) (fun a => by first | rfl | simp only [seineref6_SameFieldE, evk, chks]) fun y14 hy14 => ?_
              try simp only [seineref6_SameFieldE, evs, tys]
              refine Imp.cnd ?_ ?_
              · refine Imp.call (f := defs_CompositeE) rfl (fun a h => by first | exact defs_Composite_spec h | simpa only [evs, tys, evl] using defs_Composite_spec h) (fun a => by first | rfl | simp only [defs_CompositeE, evk, chks]) fun y16 hy16 => ?_
                try simp only [defs_CompositeE, evs, tys]
                refine Imp.cnd ?_ ?_
                · refine Imp.call (f := seinelaw9_awakeE) rfl (fun a h => by first | exact seinelaw9_awake_spec h | simpa only [evs, tys, evl] using seinelaw9_awake_spec h) (fun a => by first | rfl | simp only [seinelaw9_awakeE, evk, chks]) fun y18 hy18 => ?_
                  try simp only [seinelaw9_awakeE, evs, tys]
                  exact Imp.some (by first | rfl | simp only [seinelaw9_DefsFieldsE, evs, tys, evl])
                · exact Imp.some (by first | rfl | simp only [seinelaw9_DefsFieldsE, evs, tys, evl])
              · exact Imp.some (by first | rfl | simp only [seinelaw9_DefsFieldsE, evs, tys, evl])
            · exact Imp.some (by first | rfl | simp only [seinelaw9_DefsFieldsE, evs, tys, evl])
      · refine Imp.cnd ?_ ?_
        · refine Imp.call (f := seineref6_SameFieldE) rfl (fun a h => by first | exact seineref6_SameField_spec h | simpa only [evs, tys, evl] using seineref6_SameField_spec h) (fun a => by first | rfl | simp only [seineref6_SameFieldE, evk, chks]) fun y20 hy20 => ?_
          try simp only [seineref6_SameFieldE, evs, tys]
          refine Imp.cnd ?_ ?_
          · refine Imp.call (f := defs_CompositeE) rfl (fun a h => by first | exact defs_Composite_spec h | simpa only [evs, tys, evl] using defs_Composite_spec h) (fun a => by first | rfl | simp only [defs_CompositeE, evk, chks]) fun y22 hy22 => ?_
            try simp only [defs_CompositeE, evs, tys]
            refine Imp.cnd ?_ ?_
            · refine Imp.call (f := seinelaw9_awakeE) rfl (fun a h => by first | exact seinelaw9_awake_spec h | simpa only [evs, tys, evl] using seinelaw9_awake_spec h) (fun a => by first | rfl | simp only [seinelaw9_awakeE, evk, chks]) fun y24 hy24 => ?_
              try simp only [seinelaw9_awakeE, evs, tys]
              exact Imp.some (by first | rfl | simp only [seinelaw9_DefsFieldsE, evs, tys, evl])
            · exact Imp.some (by first | rfl | simp only [seinelaw9_DefsFieldsE, evs, tys, evl])
          · exact Imp.some (by first | rfl | simp only [seinelaw9_DefsFieldsE, evs, tys, evl])
        · exact Imp.some (by first | rfl | simp only [seinelaw9_DefsFieldsE, evs, tys, evl])
theorem seinelaw9_DefsFields_run {s : GSchema} {typ : Str} {name : Str} {r : Bool} (h : seinelaw9_DefsFields_B s typ name = some r) : seinelaw9_DefsFields s typ name = some r := by
  obtain ⟨v, hv, rfl⟩ := seinelaw9_DefsFields_imp s typ name r h
  exact tO_of (pair_inj seinelaw9_DefsFieldsEj) (OL_runD seinelaw9_DefsFields_ds rfl Try.func3 ((seinelaw9_DefsFields_t1 _ _ s typ name).trans hv))

def seinelaw9_DefsMeets_T1 (O : Orc) (LP : LBody → LBody) (s : GSchema) (a : Str) (b : Str) : Option (PV × UP) :=
  callp O 8 [(.agg [(.slice (List.map encDef s.defs) [] false), (.str s.query), (.str s.mutation)])] fun x1 => cnd (chk .bool x1)
  (cnd (!(boolV x1))
   (callp O 9 [] fun x3 => cnd (chk .bool x3)
   (some ((.bool (boolV x3)), [])) none)
   (cnd (decide ((IntKind.wrap .i64 ((List.length a : Int) + (List.length b : Int))) > 2000))
    (callp O 9 [] fun x5 => cnd (chk .bool x5)
    (some ((.bool (boolV x5)), [])) none)
    (callp O 14 [(.agg [(.slice (List.map encDef s.defs) [] false), (.str s.query), (.str s.mutation)]), (.str a), (.str b)] fun x7 => cnd (chk .bool x7)
    (callp O 15 [(.agg [(.slice (List.map encDef s.defs) [] false), (.str s.query), (.str s.mutation)]), (.str a), (.str b)] fun x9 => cnd (chk .bool x9)
    (cnd ((boolV x7) == (boolV x9))
     (callp O 14 [(.agg [(.slice (List.map encDef s.defs) [] false), (.str s.query), (.str s.mutation)]), (.str b), (.str a)] fun x11 => cnd (chk .bool x11)
     (cnd ((boolV x7) == (boolV x11))
      (callp O 14 [(.agg [(.slice (List.map encDef s.defs) [] false), (.str s.query), (.str s.mutation)]), (.str a), (.str a)] fun x13 => cnd (chk .bool x13)
      (callp O 16 [(.agg [(.slice (List.map encDef s.defs) [] false), (.str s.query), (.str s.mutation)]), (.str a)] fun x15 => cnd (chk (.sl false) x15)
      (cnd ((boolV x13) == (decide ((List.length (esV x15) : Int) > 0)))
       (callp O 9 [] fun x17 => cnd (chk .bool x17)
       (some ((.bool (boolV x17)), [])) none)
       (some ((.bool false), []))) none) none)
      (some ((.bool false), []))) none)
     (some ((.bool false), []))) none) none))) none
noncomputable def seinelaw9_DefsMeets_B (s : GSchema) (a : Str) (b : Str) : Option Bool :=
  bnd (seinelaw8_Light s) fun y2 =>
  cnd (!y2)
   (bnd (seinelaw9_awake) fun y4 =>
   some y4)
   (cnd (decide ((IntKind.wrap .i64 ((List.length a : Int) + (List.length b : Int))) > 2000))
    (bnd (seinelaw9_awake) fun y6 =>
    some y6)
    (bnd (defs_Meets s a b) fun y8 =>
    bnd (seineref9_Meets s a b) fun y10 =>
    cnd (y8 == y10)
     (bnd (defs_Meets s b a) fun y12 =>
     cnd (y8 == y12)
      (bnd (defs_Meets s a a) fun y14 =>
      bnd (defs_Possible s a) fun y16 =>
      cnd (y14 == (decide ((List.length y16 : Int) > 0)))
       (bnd (seinelaw9_awake) fun y18 =>
       some y18)
       (some false))
      (some false))
     (some false)))
def seinelaw9_DefsMeets_ds : Decs := { decs := [(9, .bool), (19, .bool), (23, .bool), (28, .bool), (35, .bool), (42, .bool), (45, (.sl false)), (51, .bool)], ups := [], loops := [] }
set_option maxRecDepth 100000 in
theorem seinelaw9_DefsMeets_t1 (O : Orc) (LP : LBody → LBody) (s : GSchema) (a : Str) (b : Str) : evalBodyD Try.prog (MT 4) seinelaw9_DefsMeets_ds Try.f4.ntmps O LP Try.f4 [(.agg [(.slice (List.map encDef s.defs) [] false), (.str s.query), (.str s.mutation)]), (.str a), (.str b)] [] = seinelaw9_DefsMeets_T1 O LP s a b := by kernel_rfl
theorem seinelaw9_DefsMeets_imp (s : GSchema) (a : Str) (b : Str) : Imp (seinelaw9_DefsMeets_B s a b) (seinelaw9_DefsMeets_T1 O loopLim s a b) (fun r v => v = (seinelaw9_DefsMeetsE r, [])) := by
  simp only [seinelaw9_DefsMeets_B, seinelaw9_DefsMeets_T1]
  try simp only [evs, tys]
  refine Imp.call (f := seinelaw8_LightE) rfl (fun a h => by first | exact seinelaw8_Light_spec h | simpa only [evs, tys, evl] using seinelaw8_Light_spec h) (fun a => by first | rfl | simp only [seinelaw8_LightE, evk, chks]) fun y2 hy2 => ?_
  try simp only [seinelaw8_LightE, evs, tys]
  refine Imp.cnd ?_ ?_
  · refine Imp.call (f := seinelaw9_awakeE) rfl (fun a h => by first | exact seinelaw9_awake_spec h | simpa only [evs, tys, evl] using seinelaw9_awake_spec h) (fun a => by first | rfl | simp only [seinelaw9_awakeE, evk, chks]) fun y4 hy4 => ?_
    try simp only [seinelaw9_awakeE, evs, tys]
    exact Imp.some (by first | rfl | simp only [seinelaw9_DefsMeetsE, evs, tys, evl])
  · refine Imp.cnd ?_ ?_
    · refine Imp.call (f := seinelaw9_awakeE) rfl (fun a h => by first | exact seinelaw9_awake_spec h | simpa only [evs, tys, evl] using seinelaw9_awake_spec h) (fun a => by first | rfl | simp only [seinelaw9_awakeE, evk, chks]) fun y6 hy6 => ?_
      try simp only [seinelaw9_awakeE, evs, tys]
      exact Imp.some (by first | rfl | simp only [seinelaw9_DefsMeetsE, evs, tys, evl])
    · refine Imp.call (f := defs_MeetsE) rfl (fun a h => by first | exact defs_Meets_spec h | simpa only [evs, tys, evl] using defs_Meets_spec h) (fun a => by first | rfl | simp only [defs_MeetsE, evk, chks]) fun y8 hy8 => ?_
      try simp only [defs_MeetsE, evs, tys]
      refine Imp.call (f := seineref9_MeetsE) rfl (fun a h => by first | exact seineref9_Meets_spec h | simpa only [evs, tys, evl] using seineref9_Meets_spec h) (fun a => by first | rfl | simp only [seineref9_MeetsE, evk, chks]) fun y10 hy10 => ?_
      try simp only [seineref9_MeetsE, evs, tys]
      refine Imp.cnd ?_ ?_
      · refine Imp.call (f := defs_MeetsE) rfl (fun a h => by first | exact defs_Meets_spec h | simpa only [evs, tys, evl] using defs_Meets_spec h) (fun a => by first | rfl | simp only [defs_MeetsE, evk, chks]) fun y12 hy12 => ?_
        try simp only [defs_MeetsE, evs, tys]
        refine Imp.cnd ?_ ?_
        · refine Imp.call (f := defs_MeetsE) rfl (fun a h => by first | exact defs_Meets_spec h | simpa only [evs, tys, evl] using defs_Meets_spec h) (fun a => by first | rfl | simp only [defs_MeetsE, evk, chks]) fun y14 hy14 => ?_
          try simp only [defs_MeetsE, evs, tys]
          refine Imp.call (f := defs_PossibleE) rfl (fun a h => by first | exact defs_Possible_spec h | simpa only [evs, tys, evl] using defs_Possible_spec h) (fun a => by first | rfl | simp only [defs_PossibleE, evk, chks]) fun y16 hy16 => ?_
          try simp only [defs_PossibleE, evs, tys]
          refine Imp.cnd ?_ ?_
          · refine Imp.call (f := seinelaw9_awakeE) rfl (fun a h => by first | exact seinelaw9_awake_spec h | simpa only [evs, tys, evl] using seinelaw9_awake_spec h) (fun a => by first | rfl | simp only [seinelaw9_awakeE, evk, chks]) fun y18 hy18 => ?_
            try simp only [seinelaw9_awakeE, evs, tys]
            exact Imp.some (by first | rfl | simp only [seinelaw9_DefsMeetsE, evs, tys, evl])
          · exact Imp.some (by first | rfl | simp only [seinelaw9_DefsMeetsE, evs, tys, evl])
        · exact Imp.some (by first | rfl | simp only [seinelaw9_DefsMeetsE, evs, tys, evl])
      · exact Imp.some (by first | rfl | simp only [seinelaw9_DefsMeetsE, evs, tys, evl])
theorem seinelaw9_DefsMeets_run {s : GSchema} {a : Str} {b : Str} {r : Bool} (h : seinelaw9_DefsMeets_B s a b = some r) : seinelaw9_DefsMeets s a b = some r := by
  obtain ⟨v, hv, rfl⟩ := seinelaw9_DefsMeets_imp s a b r h
  exact tO_of (pair_inj seinelaw9_DefsMeetsEj) (OL_runD seinelaw9_DefsMeets_ds rfl Try.func4 ((seinelaw9_DefsMeets_t1 _ _ s a b).trans hv))
end Go.Proofs.Ytigiafabnidggaa

/- Printed by symgen.py: typed functions of this seat, and why they tell what the program does. -/
set_option linter.unusedVariables false
set_option linter.unusedSimpArgs false
open Go Go.Ev Go.Ev.PV
namespace Go.Proofs.Ytigiafabnidggaa
def seinelaw9_DefsPossible_l1 (O : Orc) (LP : LBody → LBody) : LBody := fun s48 s48u => cnd (chkL [.str, (.ptr 0 2 0), .bool, (.sl false), (.int .i64), (.int .i64), (.sl false), .str, .str] s48) (cnd (chkU [] s48u)
  (cnd (decide ((intV (gt s48 5)) < (intV (gt s48 4))))
   (bnd (ix 1 (.slice (esV (gt s48 3)) [] false) (.int .i64 (intV (gt s48 4)))) fun x54 => cnd (chk (.ref .str) x54)
   (bnd (ix 1 (.slice (esV (gt s48 3)) [] false) (.int .i64 (intV (gt s48 5)))) fun x56 => cnd (chk (.ref .str) x56)
   (cnd ((strV (refV x54)) == (strV (refV x56)))
    (some (.ret, [(.str (strV (gt s48 0))), (.ptr 0 2 0), (.bool false), (.slice (esV (gt s48 3)) [] false), (.int .i64 (intV (gt s48 4))), (.int .i64 (intV (gt s48 5))), (.slice (esV (gt s48 6)) [] false), (.str (strV (gt s48 7))), (.str (strV (gt s48 8)))], []))
    (some (.nrm, [(.str (strV (gt s48 0))), (.ptr 0 2 0), (.bool (boolV (gt s48 2))), (.slice (esV (gt s48 3)) [] false), (.int .i64 (intV (gt s48 4))), (.int .i64 (IntKind.wrap .i64 ((intV (gt s48 5)) + 1))), (.slice (esV (gt s48 6)) [] false), (.str (strV (gt s48 7))), (.str (strV (gt s48 8)))], []))) none) none)
   (some (.brk 2, [(.str (strV (gt s48 0))), (.ptr 0 2 0), (.bool (boolV (gt s48 2))), (.slice (esV (gt s48 3)) [] false), (.int .i64 (intV (gt s48 4))), (.int .i64 (intV (gt s48 5))), (.slice (esV (gt s48 6)) [] false), (.str (strV (gt s48 7))), (.str (strV (gt s48 8)))], []))) none) none
def seinelaw9_DefsPossible_l2 (O : Orc) (LP : LBody → LBody) : LBody := fun s11 s11u => cnd (chkL [.str, (.ptr 0 2 0), .bool, (.sl false), (.int .i64), (.sl false), .str, .str] s11) (cnd (chkU [] s11u)
  (cnd (decide ((intV (gt s11 4)) < (List.length (esV (gt s11 3)) : Int)))
   (bnd (LP (seinelaw9_DefsPossible_l1 O LP) [(.str (strV (gt s11 0))), (.ptr 0 2 0), (.bool (boolV (gt s11 2))), (.slice (esV (gt s11 3)) [] false), (.int .i64 (intV (gt s11 4))), (.int .i64 0), (.slice (esV (gt s11 5)) [] false), (.str (strV (gt s11 6))), (.str (strV (gt s11 7)))] []) fun y60 =>
   exIs y60.1 (some 2) (cnd (chkL [.str, (.ptr 0 2 0), .bool, (.sl false), (.int .i64), (.int .i64), (.sl false), .str, .str] y60.2.1) (cnd (chkU [] y60.2.2)
    (callp O 17 [(.agg [(.slice (esV (gt y60.2.1 6)) [] false), (.str (strV (gt y60.2.1 7))), (.str (strV (gt y60.2.1 8)))]), (.str (strV (gt y60.2.1 0)))] fun x61 => cnd (chk (.tup [shDef, .bool]) x61)
    (bnd (ix 1 (.slice (esV (gt y60.2.1 3)) [] false) (.int .i64 (intV (gt y60.2.1 4)))) fun x63 => cnd (chk (.ref .str) x63)
    (callp O 16 [(.agg [(.slice (esV (gt y60.2.1 6)) [] false), (.str (strV (gt y60.2.1 7))), (.str (strV (gt y60.2.1 8)))]), (.str (strV (refV x63)))] fun x65 => cnd (chk (.sl false) x65)
    (cnd (boolV (gt (tupV x61) 1))
     (cnd ((intV (gt (aggV (gt (tupV x61) 0)) 0)) == 2)
      (some (.nrm, [(.str (strV (gt y60.2.1 0))), (.ptr 0 2 0), (.bool (boolV (gt y60.2.1 2))), (.slice (esV (gt y60.2.1 3)) [] false), (.int .i64 (IntKind.wrap .i64 ((intV (gt y60.2.1 4)) + 1))), (.slice (esV (gt y60.2.1 6)) [] false), (.str (strV (gt y60.2.1 7))), (.str (strV (gt y60.2.1 8)))], []))
      (cnd ((List.length (esV x65) : Int) != 1)
       (some (.ret, [(.str (strV (gt y60.2.1 0))), (.ptr 0 2 0), (.bool false), (.slice (esV (gt y60.2.1 3)) [] false), (.int .i64 (intV (gt y60.2.1 4))), (.slice (esV (gt y60.2.1 6)) [] false), (.str (strV (gt y60.2.1 7))), (.str (strV (gt y60.2.1 8)))], []))
       (bnd (ix 1 (.slice (esV x65) [] false) (.int .i64 0)) fun x67 => cnd (chk (.ref .str) x67)
       (bnd (ix 1 (.slice (esV (gt y60.2.1 3)) [] false) (.int .i64 (intV (gt y60.2.1 4)))) fun x69 => cnd (chk (.ref .str) x69)
       (cnd (!((strV (refV x67)) == (strV (refV x69))))
        (some (.ret, [(.str (strV (gt y60.2.1 0))), (.ptr 0 2 0), (.bool false), (.slice (esV (gt y60.2.1 3)) [] false), (.int .i64 (intV (gt y60.2.1 4))), (.slice (esV (gt y60.2.1 6)) [] false), (.str (strV (gt y60.2.1 7))), (.str (strV (gt y60.2.1 8)))], []))
        (bnd (ix 1 (.slice (esV (gt y60.2.1 3)) [] false) (.int .i64 (intV (gt y60.2.1 4)))) fun x71 => cnd (chk (.ref .str) x71)
        (callp O 14 [(.agg [(.slice (esV (gt y60.2.1 6)) [] false), (.str (strV (gt y60.2.1 7))), (.str (strV (gt y60.2.1 8)))]), (.str (strV (gt y60.2.1 0))), (.str (strV (refV x71)))] fun x73 => cnd (chk .bool x73)
        (cnd (!(boolV x73))
         (some (.ret, [(.str (strV (gt y60.2.1 0))), (.ptr 0 2 0), (.bool false), (.slice (esV (gt y60.2.1 3)) [] false), (.int .i64 (intV (gt y60.2.1 4))), (.slice (esV (gt y60.2.1 6)) [] false), (.str (strV (gt y60.2.1 7))), (.str (strV (gt y60.2.1 8)))], []))
         (some (.nrm, [(.str (strV (gt y60.2.1 0))), (.ptr 0 2 0), (.bool (boolV (gt y60.2.1 2))), (.slice (esV (gt y60.2.1 3)) [] false), (.int .i64 (IntKind.wrap .i64 ((intV (gt y60.2.1 4)) + 1))), (.slice (esV (gt y60.2.1 6)) [] false), (.str (strV (gt y60.2.1 7))), (.str (strV (gt y60.2.1 8)))], []))) none) none)) none) none)))
     (cnd ((List.length (esV x65) : Int) != 1)
      (some (.ret, [(.str (strV (gt y60.2.1 0))), (.ptr 0 2 0), (.bool false), (.slice (esV (gt y60.2.1 3)) [] false), (.int .i64 (intV (gt y60.2.1 4))), (.slice (esV (gt y60.2.1 6)) [] false), (.str (strV (gt y60.2.1 7))), (.str (strV (gt y60.2.1 8)))], []))
      (bnd (ix 1 (.slice (esV x65) [] false) (.int .i64 0)) fun x75 => cnd (chk (.ref .str) x75)
      (bnd (ix 1 (.slice (esV (gt y60.2.1 3)) [] false) (.int .i64 (intV (gt y60.2.1 4)))) fun x77 => cnd (chk (.ref .str) x77)
      (cnd (!((strV (refV x75)) == (strV (refV x77))))
       (some (.ret, [(.str (strV (gt y60.2.1 0))), (.ptr 0 2 0), (.bool false), (.slice (esV (gt y60.2.1 3)) [] false), (.int .i64 (intV (gt y60.2.1 4))), (.slice (esV (gt y60.2.1 6)) [] false), (.str (strV (gt y60.2.1 7))), (.str (strV (gt y60.2.1 8)))], []))
       (bnd (ix 1 (.slice (esV (gt y60.2.1 3)) [] false) (.int .i64 (intV (gt y60.2.1 4)))) fun x79 => cnd (chk (.ref .str) x79)
       (callp O 14 [(.agg [(.slice (esV (gt y60.2.1 6)) [] false), (.str (strV (gt y60.2.1 7))), (.str (strV (gt y60.2.1 8)))]), (.str (strV (gt y60.2.1 0))), (.str (strV (refV x79)))] fun x81 => cnd (chk .bool x81)
       (cnd (!(boolV x81))
        (some (.ret, [(.str (strV (gt y60.2.1 0))), (.ptr 0 2 0), (.bool false), (.slice (esV (gt y60.2.1 3)) [] false), (.int .i64 (intV (gt y60.2.1 4))), (.slice (esV (gt y60.2.1 6)) [] false), (.str (strV (gt y60.2.1 7))), (.str (strV (gt y60.2.1 8)))], []))
        (some (.nrm, [(.str (strV (gt y60.2.1 0))), (.ptr 0 2 0), (.bool (boolV (gt y60.2.1 2))), (.slice (esV (gt y60.2.1 3)) [] false), (.int .i64 (IntKind.wrap .i64 ((intV (gt y60.2.1 4)) + 1))), (.slice (esV (gt y60.2.1 6)) [] false), (.str (strV (gt y60.2.1 7))), (.str (strV (gt y60.2.1 8)))], []))) none) none)) none) none))) none) none) none) none) none)
   (exIs y60.1 none (cnd (chkL [.str, (.ptr 0 2 0), .bool, (.sl false), (.int .i64), (.int .i64), (.sl false), .str, .str] y60.2.1) (cnd (chkU [] y60.2.2)
    (some (.ret, [(.str (strV (gt y60.2.1 0))), (.ptr 0 2 0), (.bool (boolV (gt y60.2.1 2))), (.slice (esV (gt y60.2.1 3)) [] false), (.int .i64 (intV (gt y60.2.1 4))), (.slice (esV (gt y60.2.1 6)) [] false), (.str (strV (gt y60.2.1 7))), (.str (strV (gt y60.2.1 8)))], [])) none) none)
   (none)))
   (some (.brk 0, [(.str (strV (gt s11 0))), (.ptr 0 2 0), (.bool (boolV (gt s11 2))), (.slice (esV (gt s11 3)) [] false), (.int .i64 (intV (gt s11 4))), (.slice (esV (gt s11 5)) [] false), (.str (strV (gt s11 6))), (.str (strV (gt s11 7)))], []))) none) none
def seinelaw9_DefsPossible_l3 (O : Orc) (LP : LBody → LBody) : LBody := fun s125 s125u => cnd (chkL [.str, (.ptr 0 2 0), .bool, (.sl false), (.int .i64), (.int .i64), (.sl false), .str, .str] s125) (cnd (chkU [] s125u)
  (cnd (decide ((intV (gt s125 5)) < (intV (gt s125 4))))
   (bnd (ix 1 (.slice (esV (gt s125 3)) [] false) (.int .i64 (intV (gt s125 4)))) fun x131 => cnd (chk (.ref .str) x131)
   (bnd (ix 1 (.slice (esV (gt s125 3)) [] false) (.int .i64 (intV (gt s125 5)))) fun x133 => cnd (chk (.ref .str) x133)
   (cnd ((strV (refV x131)) == (strV (refV x133)))
    (some (.ret, [(.str (strV (gt s125 0))), (.ptr 0 2 0), (.bool false), (.slice (esV (gt s125 3)) [] false), (.int .i64 (intV (gt s125 4))), (.int .i64 (intV (gt s125 5))), (.slice (esV (gt s125 6)) [] false), (.str (strV (gt s125 7))), (.str (strV (gt s125 8)))], []))
    (some (.nrm, [(.str (strV (gt s125 0))), (.ptr 0 2 0), (.bool (boolV (gt s125 2))), (.slice (esV (gt s125 3)) [] false), (.int .i64 (intV (gt s125 4))), (.int .i64 (IntKind.wrap .i64 ((intV (gt s125 5)) + 1))), (.slice (esV (gt s125 6)) [] false), (.str (strV (gt s125 7))), (.str (strV (gt s125 8)))], []))) none) none)
   (some (.brk 2, [(.str (strV (gt s125 0))), (.ptr 0 2 0), (.bool (boolV (gt s125 2))), (.slice (esV (gt s125 3)) [] false), (.int .i64 (intV (gt s125 4))), (.int .i64 (intV (gt s125 5))), (.slice (esV (gt s125 6)) [] false), (.str (strV (gt s125 7))), (.str (strV (gt s125 8)))], []))) none) none
def seinelaw9_DefsPossible_l4 (O : Orc) (LP : LBody → LBody) : LBody := fun s88 s88u => cnd (chkL [.str, (.ptr 0 2 0), .bool, (.sl false), (.int .i64), (.sl false), .str, .str] s88) (cnd (chkU [] s88u)
  (cnd (decide ((intV (gt s88 4)) < (List.length (esV (gt s88 3)) : Int)))
   (bnd (LP (seinelaw9_DefsPossible_l3 O LP) [(.str (strV (gt s88 0))), (.ptr 0 2 0), (.bool (boolV (gt s88 2))), (.slice (esV (gt s88 3)) [] false), (.int .i64 (intV (gt s88 4))), (.int .i64 0), (.slice (esV (gt s88 5)) [] false), (.str (strV (gt s88 6))), (.str (strV (gt s88 7)))] []) fun y137 =>
   exIs y137.1 (some 2) (cnd (chkL [.str, (.ptr 0 2 0), .bool, (.sl false), (.int .i64), (.int .i64), (.sl false), .str, .str] y137.2.1) (cnd (chkU [] y137.2.2)
    (callp O 17 [(.agg [(.slice (esV (gt y137.2.1 6)) [] false), (.str (strV (gt y137.2.1 7))), (.str (strV (gt y137.2.1 8)))]), (.str (strV (gt y137.2.1 0)))] fun x138 => cnd (chk (.tup [shDef, .bool]) x138)
    (bnd (ix 1 (.slice (esV (gt y137.2.1 3)) [] false) (.int .i64 (intV (gt y137.2.1 4)))) fun x140 => cnd (chk (.ref .str) x140)
    (callp O 16 [(.agg [(.slice (esV (gt y137.2.1 6)) [] false), (.str (strV (gt y137.2.1 7))), (.str (strV (gt y137.2.1 8)))]), (.str (strV (refV x140)))] fun x142 => cnd (chk (.sl false) x142)
    (cnd (boolV (gt (tupV x138) 1))
     (cnd ((intV (gt (aggV (gt (tupV x138) 0)) 0)) == 2)
      (some (.nrm, [(.str (strV (gt y137.2.1 0))), (.ptr 0 2 0), (.bool (boolV (gt y137.2.1 2))), (.slice (esV (gt y137.2.1 3)) [] false), (.int .i64 (IntKind.wrap .i64 ((intV (gt y137.2.1 4)) + 1))), (.slice (esV (gt y137.2.1 6)) [] false), (.str (strV (gt y137.2.1 7))), (.str (strV (gt y137.2.1 8)))], []))
      (cnd ((List.length (esV x142) : Int) != 1)
       (some (.ret, [(.str (strV (gt y137.2.1 0))), (.ptr 0 2 0), (.bool false), (.slice (esV (gt y137.2.1 3)) [] false), (.int .i64 (intV (gt y137.2.1 4))), (.slice (esV (gt y137.2.1 6)) [] false), (.str (strV (gt y137.2.1 7))), (.str (strV (gt y137.2.1 8)))], []))
       (bnd (ix 1 (.slice (esV x142) [] false) (.int .i64 0)) fun x144 => cnd (chk (.ref .str) x144)
       (bnd (ix 1 (.slice (esV (gt y137.2.1 3)) [] false) (.int .i64 (intV (gt y137.2.1 4)))) fun x146 => cnd (chk (.ref .str) x146)
       (cnd (!((strV (refV x144)) == (strV (refV x146))))
        (some (.ret, [(.str (strV (gt y137.2.1 0))), (.ptr 0 2 0), (.bool false), (.slice (esV (gt y137.2.1 3)) [] false), (.int .i64 (intV (gt y137.2.1 4))), (.slice (esV (gt y137.2.1 6)) [] false), (.str (strV (gt y137.2.1 7))), (.str (strV (gt y137.2.1 8)))], []))
        (bnd (ix 1 (.slice (esV (gt y137.2.1 3)) [] false) (.int .i64 (intV (gt y137.2.1 4)))) fun x148 => cnd (chk (.ref .str) x148)
        (callp O 14 [(.agg [(.slice (esV (gt y137.2.1 6)) [] false), (.str (strV (gt y137.2.1 7))), (.str (strV (gt y137.2.1 8)))]), (.str (strV (gt y137.2.1 0))), (.str (strV (refV x148)))] fun x150 => cnd (chk .bool x150)
        (cnd (!(boolV x150))
         (some (.ret, [(.str (strV (gt y137.2.1 0))), (.ptr 0 2 0), (.bool false), (.slice (esV (gt y137.2.1 3)) [] false), (.int .i64 (intV (gt y137.2.1 4))), (.slice (esV (gt y137.2.1 6)) [] false), (.str (strV (gt y137.2.1 7))), (.str (strV (gt y137.2.1 8)))], []))
         (some (.nrm, [(.str (strV (gt y137.2.1 0))), (.ptr 0 2 0), (.bool (boolV (gt y137.2.1 2))), (.slice (esV (gt y137.2.1 3)) [] false), (.int .i64 (IntKind.wrap .i64 ((intV (gt y137.2.1 4)) + 1))), (.slice (esV (gt y137.2.1 6)) [] false), (.str (strV (gt y137.2.1 7))), (.str (strV (gt y137.2.1 8)))], []))) none) none)) none) none)))
     (cnd ((List.length (esV x142) : Int) != 1)
      (some (.ret, [(.str (strV (gt y137.2.1 0))), (.ptr 0 2 0), (.bool false), (.slice (esV (gt y137.2.1 3)) [] false), (.int .i64 (intV (gt y137.2.1 4))), (.slice (esV (gt y137.2.1 6)) [] false), (.str (strV (gt y137.2.1 7))), (.str (strV (gt y137.2.1 8)))], []))
      (bnd (ix 1 (.slice (esV x142) [] false) (.int .i64 0)) fun x152 => cnd (chk (.ref .str) x152)
      (bnd (ix 1 (.slice (esV (gt y137.2.1 3)) [] false) (.int .i64 (intV (gt y137.2.1 4)))) fun x154 => cnd (chk (.ref .str) x154)
      (cnd (!((strV (refV x152)) == (strV (refV x154))))
       (some (.ret, [(.str (strV (gt y137.2.1 0))), (.ptr 0 2 0), (.bool false), (.slice (esV (gt y137.2.1 3)) [] false), (.int .i64 (intV (gt y137.2.1 4))), (.slice (esV (gt y137.2.1 6)) [] false), (.str (strV (gt y137.2.1 7))), (.str (strV (gt y137.2.1 8)))], []))
       (bnd (ix 1 (.slice (esV (gt y137.2.1 3)) [] false) (.int .i64 (intV (gt y137.2.1 4)))) fun x156 => cnd (chk (.ref .str) x156)
       (callp O 14 [(.agg [(.slice (esV (gt y137.2.1 6)) [] false), (.str (strV (gt y137.2.1 7))), (.str (strV (gt y137.2.1 8)))]), (.str (strV (gt y137.2.1 0))), (.str (strV (refV x156)))] fun x158 => cnd (chk .bool x158)
       (cnd (!(boolV x158))
        (some (.ret, [(.str (strV (gt y137.2.1 0))), (.ptr 0 2 0), (.bool false), (.slice (esV (gt y137.2.1 3)) [] false), (.int .i64 (intV (gt y137.2.1 4))), (.slice (esV (gt y137.2.1 6)) [] false), (.str (strV (gt y137.2.1 7))), (.str (strV (gt y137.2.1 8)))], []))
        (some (.nrm, [(.str (strV (gt y137.2.1 0))), (.ptr 0 2 0), (.bool (boolV (gt y137.2.1 2))), (.slice (esV (gt y137.2.1 3)) [] false), (.int .i64 (IntKind.wrap .i64 ((intV (gt y137.2.1 4)) + 1))), (.slice (esV (gt y137.2.1 6)) [] false), (.str (strV (gt y137.2.1 7))), (.str (strV (gt y137.2.1 8)))], []))) none) none)) none) none))) none) none) none) none) none)
   (exIs y137.1 none (cnd (chkL [.str, (.ptr 0 2 0), .bool, (.sl false), (.int .i64), (.int .i64), (.sl false), .str, .str] y137.2.1) (cnd (chkU [] y137.2.2)
    (some (.ret, [(.str (strV (gt y137.2.1 0))), (.ptr 0 2 0), (.bool (boolV (gt y137.2.1 2))), (.slice (esV (gt y137.2.1 3)) [] false), (.int .i64 (intV (gt y137.2.1 4))), (.slice (esV (gt y137.2.1 6)) [] false), (.str (strV (gt y137.2.1 7))), (.str (strV (gt y137.2.1 8)))], [])) none) none)
   (none)))
   (some (.brk 0, [(.str (strV (gt s88 0))), (.ptr 0 2 0), (.bool (boolV (gt s88 2))), (.slice (esV (gt s88 3)) [] false), (.int .i64 (intV (gt s88 4))), (.slice (esV (gt s88 5)) [] false), (.str (strV (gt s88 6))), (.str (strV (gt s88 7)))], []))) none) none
def seinelaw9_DefsPossible_T1 (O : Orc) (LP : LBody → LBody) (s : GSchema) (name : Str) : Option (PV × UP) :=
  callp O 8 [(.agg [(.slice (List.map encDef s.defs) [] false), (.str s.query), (.str s.mutation)])] fun x1 => cnd (chk .bool x1)
  (cnd (!(boolV x1))
   (callp O 9 [] fun x3 => cnd (chk .bool x3)
   (some ((.bool (boolV x3)), [])) none)
   (cnd (decide ((List.length name : Int) > 2000))
    (callp O 9 [] fun x5 => cnd (chk .bool x5)
    (some ((.bool (boolV x5)), [])) none)
    (callp O 16 [(.agg [(.slice (List.map encDef s.defs) [] false), (.str s.query), (.str s.mutation)]), (.str name)] fun x7 => cnd (chk (.sl false) x7)
    (cnd (decide ((List.length (esV x7) : Int) > 0))
     (callp O 13 [(.agg [(.slice (List.map encDef s.defs) [] false), (.str s.query), (.str s.mutation)]), (.str name)] fun x9 => cnd (chk .bool x9)
     (cnd (!(boolV x9))
      (some ((.bool false), []))
      (bnd (LP (seinelaw9_DefsPossible_l2 O LP) [(.str name), (.ptr 0 2 0), (.bool false), (.slice (esV x7) [] false), (.int .i64 0), (.slice (List.map encDef s.defs) [] false), (.str s.query), (.str s.mutation)] []) fun y85 =>
      exIs y85.1 (some 0) (cnd (chkL [.str, (.ptr 0 2 0), .bool, (.sl false), (.int .i64), (.sl false), .str, .str] y85.2.1) (cnd (chkU [] y85.2.2)
       (callp O 9 [] fun x86 => cnd (chk .bool x86)
       (some ((.bool (boolV x86)), [])) none) none) none)
      (exIs y85.1 none (cnd (chkL [.str, (.ptr 0 2 0), .bool, (.sl false), (.int .i64), (.sl false), .str, .str] y85.2.1) (cnd (chkU [] y85.2.2)
       (some ((.bool (boolV (gt y85.2.1 2))), [])) none) none)
      (none)))) none)
     (bnd (LP (seinelaw9_DefsPossible_l4 O LP) [(.str name), (.ptr 0 2 0), (.bool false), (.slice (esV x7) [] false), (.int .i64 0), (.slice (List.map encDef s.defs) [] false), (.str s.query), (.str s.mutation)] []) fun y162 =>
     exIs y162.1 (some 0) (cnd (chkL [.str, (.ptr 0 2 0), .bool, (.sl false), (.int .i64), (.sl false), .str, .str] y162.2.1) (cnd (chkU [] y162.2.2)
      (callp O 9 [] fun x163 => cnd (chk .bool x163)
      (some ((.bool (boolV x163)), [])) none) none) none)
     (exIs y162.1 none (cnd (chkL [.str, (.ptr 0 2 0), .bool, (.sl false), (.int .i64), (.sl false), .str, .str] y162.2.1) (cnd (chkU [] y162.2.2)
      (some ((.bool (boolV (gt y162.2.1 2))), [])) none) none)
     (none)))) none))) none
noncomputable def seinelaw9_DefsPossible_l1T (y8 : List Str) (i_47 : Int) : Int → Option (Int ⊕ (Unit ⊕ Unit))
  | k_53 =>
  cnd (decide (k_53 < i_47))
   (bnd (nthI y8 i_47) fun y55 =>
   bnd (nthI y8 k_53) fun y57 =>
   cnd (y55 == y57)
    (some (.inr (.inr ())))
    (some (.inl (IntKind.wrap .i64 (k_53 + 1)))))
   (some (.inr (.inl ())))
abbrev seinelaw9_DefsPossible_l1R (s : GSchema) (name : Str) (y8 : List Str) (i_47 : Int) (st : Int) (l : List PV) (u : UP) : Prop := l = [(.str name), (.ptr 0 2 0), (.bool false), (.slice (List.map PV.str y8) [] false), (.int .i64 i_47), (.int .i64 st), (.slice (List.map encDef s.defs) [] false), (.str s.query), (.str s.mutation)] ∧ u = []
abbrev seinelaw9_DefsPossible_l1X (s : GSchema) (name : Str) (y8 : List Str) (i_47 : Int) (p : Unit ⊕ Unit) (r : Ex × List PV × UP) : Prop := elim p (fun (p : Unit) => ∃ (k_58 : Int), r = (Ex.brk 2, [(.str name), (.ptr 0 2 0), (.bool false), (.slice (List.map PV.str y8) [] false), (.int .i64 i_47), (.int .i64 k_58), (.slice (List.map encDef s.defs) [] false), (.str s.query), (.str s.mutation)], [])) (fun q2 => (fun (p : Unit) => ∃ (k_59 : Int), r = (Ex.ret, [(.str name), (.ptr 0 2 0), (.bool false), (.slice (List.map PV.str y8) [] false), (.int .i64 i_47), (.int .i64 k_59), (.slice (List.map encDef s.defs) [] false), (.str s.query), (.str s.mutation)], [])) q2)
noncomputable def seinelaw9_DefsPossible_l2T (s : GSchema) (name : Str) (y8 : List Str) : Int → Option (Int ⊕ (Unit ⊕ Unit))
  | i_47 =>
  cnd (decide (i_47 < (List.length y8 : Int)))
   (bnd (tloop (seinelaw9_DefsPossible_l1T y8 i_47) 0) fun e60_2 => elim e60_2
   (fun p60 =>
    bnd (defs_Find s name) fun y62 =>
    bnd (nthI y8 i_47) fun y64 =>
    bnd (defs_Possible s y64) fun y66 =>
    cnd y62.2
     (cnd (y62.1.kind == 2)
      (some (.inl (IntKind.wrap .i64 (i_47 + 1))))
      (cnd ((List.length y66 : Int) != 1)
       (some (.inr (.inr ())))
       (bnd (nthI y66 0) fun y68 =>
       bnd (nthI y8 i_47) fun y70 =>
       cnd (!(y68 == y70))
        (some (.inr (.inr ())))
        (bnd (nthI y8 i_47) fun y72 =>
        bnd (defs_Meets s name y72) fun y74 =>
        cnd (!y74)
         (some (.inr (.inr ())))
         (some (.inl (IntKind.wrap .i64 (i_47 + 1))))))))
     (cnd ((List.length y66 : Int) != 1)
      (some (.inr (.inr ())))
      (bnd (nthI y66 0) fun y76 =>
      bnd (nthI y8 i_47) fun y78 =>
      cnd (!(y76 == y78))
       (some (.inr (.inr ())))
       (bnd (nthI y8 i_47) fun y80 =>
       bnd (defs_Meets s name y80) fun y82 =>
       cnd (!y82)
        (some (.inr (.inr ())))
        (some (.inl (IntKind.wrap .i64 (i_47 + 1))))))))
   (fun p60 =>
   some (.inr (.inr ()))))
   (some (.inr (.inl ())))
abbrev seinelaw9_DefsPossible_l2R (s : GSchema) (name : Str) (y8 : List Str) (st : Int) (l : List PV) (u : UP) : Prop := l = [(.str name), (.ptr 0 2 0), (.bool false), (.slice (List.map PV.str y8) [] false), (.int .i64 st), (.slice (List.map encDef s.defs) [] false), (.str s.query), (.str s.mutation)] ∧ u = []
abbrev seinelaw9_DefsPossible_l2X (s : GSchema) (name : Str) (y8 : List Str) (p : Unit ⊕ Unit) (r : Ex × List PV × UP) : Prop := elim p (fun (p : Unit) => ∃ (i_83 : Int), r = (Ex.brk 0, [(.str name), (.ptr 0 2 0), (.bool false), (.slice (List.map PV.str y8) [] false), (.int .i64 i_83), (.slice (List.map encDef s.defs) [] false), (.str s.query), (.str s.mutation)], [])) (fun q2 => (fun (p : Unit) => ∃ (i_84 : Int), r = (Ex.ret, [(.str name), (.ptr 0 2 0), (.bool false), (.slice (List.map PV.str y8) [] false), (.int .i64 i_84), (.slice (List.map encDef s.defs) [] false), (.str s.query), (.str s.mutation)], [])) q2)
noncomputable def seinelaw9_DefsPossible_l3T (y8 : List Str) (i_124 : Int) : Int → Option (Int ⊕ (Unit ⊕ Unit))
  | k_130 =>
  cnd (decide (k_130 < i_124))
   (bnd (nthI y8 i_124) fun y132 =>
   bnd (nthI y8 k_130) fun y134 =>
   cnd (y132 == y134)
    (some (.inr (.inr ())))
    (some (.inl (IntKind.wrap .i64 (k_130 + 1)))))
   (some (.inr (.inl ())))
abbrev seinelaw9_DefsPossible_l3R (s : GSchema) (name : Str) (y8 : List Str) (i_124 : Int) (st : Int) (l : List PV) (u : UP) : Prop := l = [(.str name), (.ptr 0 2 0), (.bool false), (.slice (List.map PV.str y8) [] false), (.int .i64 i_124), (.int .i64 st), (.slice (List.map encDef s.defs) [] false), (.str s.query), (.str s.mutation)] ∧ u = []
abbrev seinelaw9_DefsPossible_l3X (s : GSchema) (name : Str) (y8 : List Str) (i_124 : Int) (p : Unit ⊕ Unit) (r : Ex × List PV × UP) : Prop := elim p (fun (p : Unit) => ∃ (k_135 : Int), r = (Ex.brk 2, [(.str name), (.ptr 0 2 0), (.bool false), (.slice (List.map PV.str y8) [] false), (.int .i64 i_124), (.int .i64 k_135), (.slice (List.map encDef s.defs) [] false), (.str s.query), (.str s.mutation)], [])) (fun q2 => (fun (p : Unit) => ∃ (k_136 : Int), r = (Ex.ret, [(.str name), (.ptr 0 2 0), (.bool false), (.slice (List.map PV.str y8) [] false), (.int .i64 i_124), (.int .i64 k_136), (.slice (List.map encDef s.defs) [] false), (.str s.query), (.str s.mutation)], [])) q2)
noncomputable def seinelaw9_DefsPossible_l4T (s : GSchema) (name : Str) (y8 : List Str) : Int → Option (Int ⊕ (Unit ⊕ Unit))
  | i_124 =>
  cnd (decide (i_124 < (List.length y8 : Int)))
   (bnd (tloop (seinelaw9_DefsPossible_l3T y8 i_124) 0) fun e137_2 => elim e137_2
   (fun p137 =>
    bnd (defs_Find s name) fun y139 =>
    bnd (nthI y8 i_124) fun y141 =>
    bnd (defs_Possible s y141) fun y143 =>
    cnd y139.2
     (cnd (y139.1.kind == 2)
      (some (.inl (IntKind.wrap .i64 (i_124 + 1))))
      (cnd ((List.length y143 : Int) != 1)
       (some (.inr (.inr ())))
       (bnd (nthI y143 0) fun y145 =>
       bnd (nthI y8 i_124) fun y147 =>
       cnd (!(y145 == y147))
        (some (.inr (.inr ())))
        (bnd (nthI y8 i_124) fun y149 =>
        bnd (defs_Meets s name y149) fun y151 =>
        cnd (!y151)
         (some (.inr (.inr ())))
         (some (.inl (IntKind.wrap .i64 (i_124 + 1))))))))
     (cnd ((List.length y143 : Int) != 1)
      (some (.inr (.inr ())))
      (bnd (nthI y143 0) fun y153 =>
      bnd (nthI y8 i_124) fun y155 =>
      cnd (!(y153 == y155))
       (some (.inr (.inr ())))
       (bnd (nthI y8 i_124) fun y157 =>
       bnd (defs_Meets s name y157) fun y159 =>
       cnd (!y159)
        (some (.inr (.inr ())))
        (some (.inl (IntKind.wrap .i64 (i_124 + 1))))))))
   (fun p137 =>
   some (.inr (.inr ()))))
   (some (.inr (.inl ())))
abbrev seinelaw9_DefsPossible_l4R (s : GSchema) (name : Str) (y8 : List Str) (st : Int) (l : List PV) (u : UP) : Prop := l = [(.str name), (.ptr 0 2 0), (.bool false), (.slice (List.map PV.str y8) [] false), (.int .i64 st), (.slice (List.map encDef s.defs) [] false), (.str s.query), (.str s.mutation)] ∧ u = []
abbrev seinelaw9_DefsPossible_l4X (s : GSchema) (name : Str) (y8 : List Str) (p : Unit ⊕ Unit) (r : Ex × List PV × UP) : Prop := elim p (fun (p : Unit) => ∃ (i_160 : Int), r = (Ex.brk 0, [(.str name), (.ptr 0 2 0), (.bool false), (.slice (List.map PV.str y8) [] false), (.int .i64 i_160), (.slice (List.map encDef s.defs) [] false), (.str s.query), (.str s.mutation)], [])) (fun q2 => (fun (p : Unit) => ∃ (i_161 : Int), r = (Ex.ret, [(.str name), (.ptr 0 2 0), (.bool false), (.slice (List.map PV.str y8) [] false), (.int .i64 i_161), (.slice (List.map encDef s.defs) [] false), (.str s.query), (.str s.mutation)], [])) q2)
noncomputable def seinelaw9_DefsPossible_B (s : GSchema) (name : Str) : Option Bool :=
  bnd (seinelaw8_Light s) fun y2 =>
  cnd (!y2)
   (bnd (seinelaw9_awake) fun y4 =>
   some y4)
   (cnd (decide ((List.length name : Int) > 2000))
    (bnd (seinelaw9_awake) fun y6 =>
    some y6)
    (bnd (defs_Possible s name) fun y8 =>
    cnd (decide ((List.length y8 : Int) > 0))
     (bnd (defs_Composite s name) fun y10 =>
     cnd (!y10)
      (some false)
      (bnd (tloop (seinelaw9_DefsPossible_l2T s name y8) 0) fun e85_2 => elim e85_2
      (fun p85 =>
       bnd (seinelaw9_awake) fun y87 =>
       some y87)
      (fun p85 =>
      some false)))
     (bnd (tloop (seinelaw9_DefsPossible_l4T s name y8) 0) fun e162_2 => elim e162_2
     (fun p162 =>
      bnd (seinelaw9_awake) fun y164 =>
      some y164)
     (fun p162 =>
     some false))))
def seinelaw9_DefsPossible_ds : Decs := { decs := [(12, .bool), (19, .bool), (22, (.sl false)), (29, .bool), (45, (.ref .str)), (49, (.ref .str)), (55, (.tup [shDef, .bool])), (61, (.ref .str)), (63, (.sl false)), (75, (.ref .str)), (79, (.ref .str)), (88, (.ref .str)), (90, .bool), (93, .bool)], ups := [], loops := [(7, ⟨[.str, (.ptr 0 2 0), .bool, (.sl false), (.int .i64), (.sl false), .str, .str], [], [(some 0, [.str, (.ptr 0 2 0), .bool, (.sl false), (.int .i64), (.sl false), .str, .str], []), (none, [.str, (.ptr 0 2 0), .bool, (.sl false), (.int .i64), (.sl false), .str, .str], [])]⟩), (10, ⟨[.str, (.ptr 0 2 0), .bool, (.sl false), (.int .i64), (.int .i64), (.sl false), .str, .str], [], [(some 2, [.str, (.ptr 0 2 0), .bool, (.sl false), (.int .i64), (.int .i64), (.sl false), .str, .str], []), (none, [.str, (.ptr 0 2 0), .bool, (.sl false), (.int .i64), (.int .i64), (.sl false), .str, .str], [])]⟩)] }
set_option maxRecDepth 100000 in
theorem seinelaw9_DefsPossible_t1 (O : Orc) (LP : LBody → LBody) (s : GSchema) (name : Str) : evalBodyD Try.prog (MT 5) seinelaw9_DefsPossible_ds Try.f5.ntmps O LP Try.f5 [(.agg [(.slice (List.map encDef s.defs) [] false), (.str s.query), (.str s.mutation)]), (.str name)] [] = seinelaw9_DefsPossible_T1 O LP s name := by kernel_rfl
theorem seinelaw9_DefsPossible_l1_ok (s : GSchema) (name : Str) (y8 : List Str) (i_47 : Int) : ∀ st l u, seinelaw9_DefsPossible_l1R s name y8 i_47 st l u → Imp (seinelaw9_DefsPossible_l1T y8 i_47 st) (seinelaw9_DefsPossible_l1 O loopLim l u) (StepR (seinelaw9_DefsPossible_l1R s name y8 i_47) (seinelaw9_DefsPossible_l1X s name y8 i_47)) := by
  rintro k_53 l u ⟨rfl, rfl⟩
  simp only [seinelaw9_DefsPossible_l1T, seinelaw9_DefsPossible_l1]
  refine Imp.chk rfl (Imp.chk rfl ?_)
  try simp only [evs, tys]
  refine Imp.cnd ?_ ?_
  · refine Imp.op (f := fun a => .ref (PV.str a)) (fun a h => op_ix (enc := PV.str) (by first | rfl | simp only [evs, tys, evl]) ⟨by first | rfl | simp only [evs, tys, evc], by decide⟩ h) (fun a => rfl) fun y55 hy55 => ?_
    try simp only [evs, tys]
    refine Imp.op (f := fun a => .ref (PV.str a)) (fun a h => op_ix (enc := PV.str) (by first | rfl | simp only [evs, tys, evl]) ⟨by first | rfl | simp only [evs, tys, evc], by decide⟩ h) (fun a => rfl) fun y57 hy57 => ?_
    try simp only [evs, tys]
    refine Imp.cnd ?_ ?_
    · exact Imp.some (StepR.ret ⟨k_53, by first | rfl | simp only [evs, tys, evl, elim_inl, elim_inr]⟩)
    · exact Imp.some (StepR.next ⟨by first | rfl | simp only [evs, tys, evl], rfl⟩)
  · exact Imp.some (StepR.brk ⟨k_53, by first | rfl | simp only [evs, tys, evl, elim_inl, elim_inr]⟩)
theorem seinelaw9_DefsPossible_l2_ok (s : GSchema) (name : Str) (y8 : List Str) : ∀ st l u, seinelaw9_DefsPossible_l2R s name y8 st l u → Imp (seinelaw9_DefsPossible_l2T s name y8 st) (seinelaw9_DefsPossible_l2 O loopLim l u) (StepR (seinelaw9_DefsPossible_l2R s name y8) (seinelaw9_DefsPossible_l2X s name y8)) := by
  rintro i_47 l u ⟨rfl, rfl⟩
  simp only [seinelaw9_DefsPossible_l2T, seinelaw9_DefsPossible_l2]
  refine Imp.chk rfl (Imp.chk rfl ?_)
  try simp only [evs, tys]
  refine Imp.cnd ?_ ?_
  · refine Imp.bnd (Imp.loop (seinelaw9_DefsPossible_l1_ok s name y8 i_47) ⟨by first | rfl | simp only [evs, tys, evl], rfl⟩) ?_
    rintro (p | p) vy60 hy60
    · try simp only [elim_inl, elim_inr]
      obtain ⟨k_58, rfl⟩ := hy60
      refine Imp.exHit rfl (Imp.chk rfl (Imp.chk rfl ?_))
      try simp only [evs, tys]
      refine Imp.call (f := defs_FindE) rfl (fun a h => by first | exact defs_Find_spec h | simpa only [evs, tys, evl] using defs_Find_spec h) (fun a => by first | rfl | simp only [defs_FindE, evk, chks]) fun y62 hy62 => ?_
      try simp only [defs_FindE, evs, tys]
      refine Imp.op (f := fun a => .ref (PV.str a)) (fun a h => op_ix (enc := PV.str) (by first | rfl | simp only [evs, tys, evl]) ⟨by first | rfl | simp only [evs, tys, evc], by decide⟩ h) (fun a => rfl) fun y64 hy64 => ?_
      try simp only [evs, tys]
      refine Imp.call (f := defs_PossibleE) rfl (fun a h => by first | exact defs_Possible_spec h | simpa only [evs, tys, evl] using defs_Possible_spec h) (fun a => by first | rfl | simp only [defs_PossibleE, evk, chks]) fun y66 hy66 => ?_
      try simp only [defs_PossibleE, evs, tys]
      refine Imp.cnd ?_ ?_
      · refine Imp.cnd ?_ ?_
        · exact Imp.some (StepR.next ⟨by first | rfl | simp only [evs, tys, evl], rfl⟩)
        · refine Imp.cnd ?_ ?_
          · exact Imp.some (StepR.ret ⟨i_47, by first | rfl | simp only [evs, tys, evl, elim_inl, elim_inr]⟩)
          · refine Imp.op (f := fun a => .ref (PV.str a)) (fun a h => op_ix (enc := PV.str) (by first | rfl | simp only [evs, tys, evl]) ⟨by first | rfl | simp only [evs, tys, evc], by decide⟩ h) (fun a => rfl) fun y68 hy68 => ?_
            try simp only [evs, tys]
            refine Imp.op (f := fun a => .ref (PV.str a)) (fun a h => op_ix (enc := PV.str) (by first | rfl | simp only [evs, tys, evl]) ⟨by first | rfl | simp only [evs, tys, evc], by decide⟩ h) (fun a => rfl) fun y70 hy70 => ?_
            try simp only [evs, tys]
            refine Imp.cnd ?_ ?_
            · exact Imp.some (StepR.ret ⟨i_47, by first | rfl | simp only [evs, tys, evl, elim_inl, elim_inr]⟩)
            · refine Imp.op (f := fun a => .ref (PV.str a)) (fun a h => op_ix (enc := PV.str) (by first | rfl | simp only [evs, tys, evl]) ⟨by first | rfl | simp only [evs, tys, evc], by decide⟩ h) (fun a => rfl) fun y72 hy72 => ?_
              try simp only [evs, tys]
              refine Imp.call (f := defs_MeetsE) rfl (fun a h => by first | exact defs_Meets_spec h | simpa only [evs, tys, evl] using defs_Meets_spec h) (fun a => by first | rfl | simp only [defs_MeetsE, evk, chks]) fun y74 hy74 => ?_
              try simp only [defs_MeetsE, evs, tys]
              refine Imp.cnd ?_ ?_
              · exact Imp.some (StepR.ret ⟨i_47, by first | rfl | simp only [evs, tys, evl, elim_inl, elim_inr]⟩)
              · exact Imp.some (StepR.next ⟨by first | rfl | simp only [evs, tys, evl], rfl⟩)
      · refine Imp.cnd ?_ ?_
        · exact Imp.some (StepR.ret ⟨i_47, by first | rfl | simp only [evs, tys, evl, elim_inl, elim_inr]⟩)
        · refine Imp.op (f := fun a => .ref (PV.str a)) (fun a h => op_ix (enc := PV.str) (by first | rfl | simp only [evs, tys, evl]) ⟨by first | rfl | simp only [evs, tys, evc], by decide⟩ h) (fun a => rfl) fun y76 hy76 => ?_
          try simp only [evs, tys]
          refine Imp.op (f := fun a => .ref (PV.str a)) (fun a h => op_ix (enc := PV.str) (by first | rfl | simp only [evs, tys, evl]) ⟨by first | rfl | simp only [evs, tys, evc], by decide⟩ h) (fun a => rfl) fun y78 hy78 => ?_
          try simp only [evs, tys]
          refine Imp.cnd ?_ ?_
          · exact Imp.some (StepR.ret ⟨i_47, by first | rfl | simp only [evs, tys, evl, elim_inl, elim_inr]⟩)
          · refine Imp.op (f := fun a => .ref (PV.str a)) (fun a h => op_ix (enc := PV.str) (by first | rfl | simp only [evs, tys, evl]) ⟨by first | rfl | simp only [evs, tys, evc], by decide⟩ h) (fun a => rfl) fun y80 hy80 => ?_
            try simp only [evs, tys]
            refine Imp.call (f := defs_MeetsE) rfl (fun a h => by first | exact defs_Meets_spec h | simpa only [evs, tys, evl] using defs_Meets_spec h) (fun a => by first | rfl | simp only [defs_MeetsE, evk, chks]) fun y82 hy82 => ?_
            try simp only [defs_MeetsE, evs, tys]
            refine Imp.cnd ?_ ?_
            · exact Imp.some (StepR.ret ⟨i_47, by first | rfl | simp only [evs, tys, evl, elim_inl, elim_inr]⟩)
            · exact Imp.some (StepR.next ⟨by first | rfl | simp only [evs, tys, evl], rfl⟩)
    · try simp only [elim_inl, elim_inr]
      obtain ⟨k_59, rfl⟩ := hy60
      refine Imp.exMiss rfl ?_
      refine Imp.exHit rfl (Imp.chk rfl (Imp.chk rfl ?_))
      try simp only [evs, tys]
      exact Imp.some (StepR.ret ⟨i_47, by first | rfl | simp only [evs, tys, evl, elim_inl, elim_inr]⟩)
  · exact Imp.some (StepR.brk ⟨i_47, by first | rfl | simp only [evs, tys, evl, elim_inl, elim_inr]⟩)
theorem seinelaw9_DefsPossible_l3_ok (s : GSchema) (name : Str) (y8 : List Str) (i_124 : Int) : ∀ st l u, seinelaw9_DefsPossible_l3R s name y8 i_124 st l u → Imp (seinelaw9_DefsPossible_l3T y8 i_124 st) (seinelaw9_DefsPossible_l3 O loopLim l u) (StepR (seinelaw9_DefsPossible_l3R s name y8 i_124) (seinelaw9_DefsPossible_l3X s name y8 i_124)) := by
  rintro k_130 l u ⟨rfl, rfl⟩
  simp only [seinelaw9_DefsPossible_l3T, seinelaw9_DefsPossible_l3]
  refine Imp.chk rfl (Imp.chk rfl ?_)
  try simp only [evs, tys]
  refine Imp.cnd ?_ ?_
  · refine Imp.op (f := fun a => .ref (PV.str a)) (fun a h => op_ix (enc := PV.str) (by first | rfl | simp only [evs, tys, evl]) ⟨by first | rfl | simp only [evs, tys, evc], by decide⟩ h) (fun a => rfl) fun y132 hy132 => ?_
    try simp only [evs, tys]
    refine Imp.op (f := fun a => .ref (PV.str a)) (fun a h => op_ix (enc := PV.str) (by first | rfl | simp only [evs, tys, evl]) ⟨by first | rfl | simp only [evs, tys, evc], by decide⟩ h) (fun a => rfl) fun y134 hy134 => ?_
    try simp only [evs, tys]
    refine Imp.cnd ?_ ?_
    · exact Imp.some (StepR.ret ⟨k_130, by first | rfl | simp only [evs, tys, evl, elim_inl, elim_inr]⟩)
    · exact Imp.some (StepR.next ⟨by first | rfl | simp only [evs, tys, evl], rfl⟩)
  · exact Imp.some (StepR.brk ⟨k_130, by first | rfl | simp only [evs, tys, evl, elim_inl, elim_inr]⟩)
theorem seinelaw9_DefsPossible_l4_ok (s : GSchema) (name : Str) (y8 : List Str) : ∀ st l u, seinelaw9_DefsPossible_l4R s name y8 st l u → Imp (seinelaw9_DefsPossible_l4T s name y8 st) (seinelaw9_DefsPossible_l4 O loopLim l u) (StepR (seinelaw9_DefsPossible_l4R s name y8) (seinelaw9_DefsPossible_l4X s name y8)) := by
  rintro i_124 l u ⟨rfl, rfl⟩
  simp only [seinelaw9_DefsPossible_l4T, seinelaw9_DefsPossible_l4]
  refine Imp.chk rfl (Imp.chk rfl ?_)
  try simp only [evs, tys]
  refine Imp.cnd ?_ ?_
  · refine Imp.bnd (Imp.loop (seinelaw9_DefsPossible_l3_ok s name y8 i_124) ⟨by first | rfl | simp only [evs, tys, evl], rfl⟩) ?_
    rintro (p | p) vy137 hy137
    · try simp only [elim_inl, elim_inr]
      obtain ⟨k_135, rfl⟩ := hy137
      refine Imp.exHit rfl (Imp.chk rfl (Imp.chk rfl ?_))
      try simp only [evs, tys]
      refine Imp.call (f := defs_FindE) rfl (fun a h => by first | exact defs_Find_spec h | simpa only [evs, tys, evl] using defs_Find_spec h) (fun a => by first | rfl | simp only [defs_FindE, evk, chks]) fun y139 hy139 => ?_
      try simp only [defs_FindE, evs, tys]
      refine Imp.op (f := fun a => .ref (PV.str a)) (fun a h => op_ix (enc := PV.str) (by first | rfl | simp only [evs, tys, evl]) ⟨by first | rfl | simp only [evs, tys, evc], by decide⟩ h) (fun a => rfl) fun y141 hy141 => ?_
      try simp only [evs, tys]
      refine Imp.call (f := defs_PossibleE) rfl (fun a h => by first | exact defs_Possible_spec h | simpa only [evs, tys, evl] using defs_Possible_spec h) (fun a => by first | rfl | simp only [defs_PossibleE, evk, chks]) fun y143 hy143 => ?_
      try simp only [defs_PossibleE, evs, tys]
      refine Imp.cnd ?_ ?_
      · refine Imp.cnd ?_ ?_
        · exact Imp.some (StepR.next ⟨by first | rfl | simp only [evs, tys, evl], rfl⟩)
        · refine Imp.cnd ?_ ?_
          · exact Imp.some (StepR.ret ⟨i_124, by first | rfl | simp only [evs, tys, evl, elim_inl, elim_inr]⟩)
          · refine Imp.op (f := fun a => .ref (PV.str a)) (fun a h => op_ix (enc := PV.str) (by first | rfl | simp only [evs, tys, evl]) ⟨by first | rfl | simp only [evs, tys, evc], by decide⟩ h) (fun a => rfl) fun y145 hy145 => ?_
            try simp only [evs, tys]
            refine Imp.op (f := fun a => .ref (PV.str a)) (fun a h => op_ix (enc := PV.str) (by first | rfl | simp only [evs, tys, evl]) ⟨by first | rfl | simp only [evs, tys, evc], by decide⟩ h) (fun a => rfl) fun y147 hy147 => ?_
            try simp only [evs, tys]
            refine Imp.cnd ?_ ?_
            · exact Imp.some (StepR.ret ⟨i_124, by first | rfl | simp only [evs, tys, evl, elim_inl, elim_inr]⟩)
            · refine Imp.op (f := fun a => .ref (PV.str a)) (fun a h => op_ix (enc := PV.str) (by first | rfl | simp only [evs, tys, evl]) ⟨by first | rfl | simp only [evs, tys, evc], by decide⟩ h) (fun a => rfl) fun y149 hy149 => ?_
              try simp only [evs, tys]
              refine Imp.call (f := defs_MeetsE) rfl (fun a h => by first | exact defs_Meets_spec h | simpa only [evs, tys, evl] using defs_Meets_spec h) (fun a => by first | rfl | simp only [defs_MeetsE, evk, chks]) fun y151 hy151 => ?_
              try simp only [defs_MeetsE, evs, tys]
              refine Imp.cnd ?_ ?_
              · exact Imp.some (StepR.ret ⟨i_124, by first | rfl | simp only [evs, tys, evl, elim_inl, elim_inr]⟩)
              · exact Imp.some (StepR.next ⟨by first | rfl | simp only [evs, tys, evl], rfl⟩)
      · refine Imp.cnd ?_ ?_
        · exact Imp.some (StepR.ret ⟨i_124, by first | rfl | simp only [evs, tys, evl, elim_inl, elim_inr]⟩)
        · refine Imp.op (f := fun a => .ref (PV.str a)) (fun a h => op_ix (enc := PV.str) (by first | rfl | simp only [evs, tys, evl]) ⟨by first | rfl | simp only [evs, tys, evc], by decide⟩ h) (fun a => rfl) fun y153 hy153 => ?_
          try simp only [evs, tys]
          refine Imp.op (f := fun a => .ref (PV.str a)) (fun a h => op_ix (enc := PV.str) (by first | rfl | simp only [evs, tys, evl]) ⟨by first | rfl | simp only [evs, tys, evc], by decide⟩ h) (fun a => rfl) fun y155 hy155 => ?_
          try simp only [evs, tys]
          refine Imp.cnd ?_ ?_
          · exact Imp.some (StepR.ret ⟨i_124, by first | rfl | simp only [evs, tys, evl, elim_inl, elim_inr]⟩)
          · refine Imp.op (f := fun a => .ref (PV.str a)) (fun a h => op_ix (enc := PV.str) (by first | rfl | simp only [evs, tys, evl]) ⟨by first | rfl | simp only [evs, tys, evc], by decide⟩ h) (fun a => rfl) fun y157 hy157 => ?_
            try simp only [evs, tys]
            refine Imp.call (f := defs_MeetsE) rfl (fun a h => by first | exact defs_Meets_spec h | simpa only [evs, tys, evl] using defs_Meets_spec h) (fun a => by first | rfl | simp only [defs_MeetsE, evk, chks]) fun y159 hy159 => ?_
            try simp only [defs_MeetsE, evs, tys]
            refine Imp.cnd ?_ ?_
            · exact Imp.some (StepR.ret ⟨i_124, by first | rfl | simp only [evs, tys, evl, elim_inl, elim_inr]⟩)
            · exact Imp.some (StepR.next ⟨by first | rfl | simp only [evs, tys, evl], rfl⟩)
    · try simp only [elim_inl, elim_inr]
      obtain ⟨k_136, rfl⟩ := hy137
      refine Imp.exMiss rfl ?_
      refine Imp.exHit rfl (Imp.chk rfl (Imp.chk rfl ?_))
      try simp only [evs, tys]
      exact Imp.some (StepR.ret ⟨i_124, by first | rfl | simp only [evs, tys, evl, elim_inl, elim_inr]⟩)
  · exact Imp.some (StepR.brk ⟨i_124, by first | rfl | simp only [evs, tys, evl, elim_inl, elim_inr]⟩)
theorem seinelaw9_DefsPossible_imp (s : GSchema) (name : Str) : Imp (seinelaw9_DefsPossible_B s name) (seinelaw9_DefsPossible_T1 O loopLim s name) (fun r v => v = (seinelaw9_DefsPossibleE r, [])) := by
  simp only [seinelaw9_DefsPossible_B, seinelaw9_DefsPossible_T1]
  try simp only [evs, tys]
  refine Imp.call (f := seinelaw8_LightE) rfl (fun a h => by first | exact seinelaw8_Light_spec h | simpa only [evs, tys, evl] using seinelaw8_Light_spec h) (fun a => by first | rfl | simp only [seinelaw8_LightE, evk, chks]) fun y2 hy2 => ?_
  try simp only [seinelaw8_LightE, evs, tys]
  refine Imp.cnd ?_ ?_
  · refine Imp.call (f := seinelaw9_awakeE) rfl (fun a h => by first | exact seinelaw9_awake_spec h | simpa only [evs, tys, evl] using seinelaw9_awake_spec h) (fun a => by first | rfl | simp only [seinelaw9_awakeE, evk, chks]) fun y4 hy4 => ?_
    try simp only [seinelaw9_awakeE, evs, tys]
    exact Imp.some (by first | rfl | simp only [seinelaw9_DefsPossibleE, evs, tys, evl])
  · refine Imp.cnd ?_ ?_
    · refine Imp.call (f := seinelaw9_awakeE) rfl (fun a h => by first | exact seinelaw9_awake_spec h | simpa only [evs, tys, evl] using seinelaw9_awake_spec h) (fun a => by first | rfl | simp only [seinelaw9_awakeE, evk, chks]) fun y6 hy6 => ?_
      try simp only [seinelaw9_awakeE, evs, tys]
      exact Imp.some (by first | rfl | simp only [seinelaw9_DefsPossibleE, evs, tys, evl])
    · refine Imp.call (f := defs_PossibleE) rfl (fun a h => by first | exact defs_Possible_spec h | simpa only [evs, tys, evl] using defs_Possible_spec h) (fun a => by first | rfl | simp only [defs_PossibleE, evk, chks]) fun y8 hy8 => ?_
      try simp only [defs_PossibleE, evs, tys]
      refine Imp.cnd ?_ ?_
      · refine Imp.call (f := defs_CompositeE) rfl (fun a h => by first | exact defs_Composite_spec h | simpa only [evs, tys, evl] using defs_Composite_spec h) (fun a => by first | rfl | simp only [defs_CompositeE, evk, chks]) fun y10 hy10 => ?_
        try simp only [defs_CompositeE, evs, tys]
        refine Imp.cnd ?_ ?_
        · exact Imp.some (by first | rfl | simp only [seinelaw9_DefsPossibleE, evs, tys, evl])
        · refine Imp.bnd (Imp.loop (seinelaw9_DefsPossible_l2_ok s name y8) ⟨by first | rfl | simp only [evs, tys, evl], rfl⟩) ?_
          rintro (p | p) vy85 hy85
          · try simp only [elim_inl, elim_inr]
            obtain ⟨i_83, rfl⟩ := hy85
            refine Imp.exHit rfl (Imp.chk rfl (Imp.chk rfl ?_))
            try simp only [evs, tys]
            refine Imp.call (f := seinelaw9_awakeE) rfl (fun a h => by first | exact seinelaw9_awake_spec h | simpa only [evs, tys, evl] using seinelaw9_awake_spec h) (fun a => by first | rfl | simp only [seinelaw9_awakeE, evk, chks]) fun y87 hy87 => ?_
            try simp only [seinelaw9_awakeE, evs, tys]
            exact Imp.some (by first | rfl | simp only [seinelaw9_DefsPossibleE, evs, tys, evl])
          · try simp only [elim_inl, elim_inr]
            obtain ⟨i_84, rfl⟩ := hy85
            refine Imp.exMiss rfl ?_
            refine Imp.exHit rfl (Imp.chk rfl (Imp.chk rfl ?_))
            try simp only [evs, tys]
            exact Imp.some (by first | rfl | simp only [seinelaw9_DefsPossibleE, evs, tys, evl])
      · refine Imp.bnd (Imp.loop (seinelaw9_DefsPossible_l4_ok s name y8) ⟨by first | rfl | simp only [evs, tys, evl], rfl⟩) ?_
        rintro (p | p) vy162 hy162
        · try simp only [elim_inl, elim_inr]
          obtain ⟨i_160, rfl⟩ := hy162
          refine Imp.exHit rfl (Imp.chk rfl (Imp.chk rfl ?_))
          try simp only [evs, tys]
          refine Imp.call (f := seinelaw9_awakeE) rfl (fun a h => by first | exact seinelaw9_awake_spec h | simpa only [evs, tys, evl] using seinelaw9_awake_spec h) (fun a => by first | rfl | simp only [seinelaw9_awakeE, evk, chks]) fun y164 hy164 => ?_
          try simp only [seinelaw9_awakeE, evs, tys]
          exact Imp.some (by first | rfl | simp only [seinelaw9_DefsPossibleE, evs, tys, evl])
        · try simp only [elim_inl, elim_inr]
          obtain ⟨i_161, rfl⟩ := hy162
          refine Imp.exMiss rfl ?_
          refine Imp.exHit rfl (Imp.chk rfl (Imp.chk rfl ?_))
          try simp only [evs, tys]
          exact Imp.some (by first | rfl | simp only [seinelaw9_DefsPossibleE, evs, tys, evl])
theorem seinelaw9_DefsPossible_run {s : GSchema} {name : Str} {r : Bool} (h : seinelaw9_DefsPossible_B s name = some r) : seinelaw9_DefsPossible s name = some r := by
  obtain ⟨v, hv, rfl⟩ := seinelaw9_DefsPossible_imp s name r h
  exact tO_of (pair_inj seinelaw9_DefsPossibleEj) (OL_runD seinelaw9_DefsPossible_ds rfl Try.func5 ((seinelaw9_DefsPossible_t1 _ _ s name).trans hv))
end Go.Proofs.Ytigiafabnidggaa

/- Printed by symgen.py: typed functions of this seat, and why they tell what the program does. -/
set_option linter.unusedVariables false
set_option linter.unusedSimpArgs false
open Go Go.Ev Go.Ev.PV
namespace Go.Proofs.Ytigiafabnidggaa
def seinelaw9_DefsSays_T1 (O : Orc) (LP : LBody → LBody) (s : GSchema) (name : Str) : Option (PV × UP) :=
  callp O 8 [(.agg [(.slice (List.map encDef s.defs) [] false), (.str s.query), (.str s.mutation)])] fun x1 => cnd (chk .bool x1)
  (cnd (!(boolV x1))
   (callp O 9 [] fun x3 => cnd (chk .bool x3)
   (some ((.bool (boolV x3)), [])) none)
   (cnd (decide ((List.length name : Int) > 2000))
    (callp O 9 [] fun x5 => cnd (chk .bool x5)
    (some ((.bool (boolV x5)), [])) none)
    (callp O 18 [(.agg [(.slice (List.map encDef s.defs) [] false), (.str s.query), (.str s.mutation)])] fun x7 => cnd (chk shSchema x7)
    (callp O 17 [(.agg [(.slice (esV (gt (aggV x7) 0)) [] false), (.str (strV (gt (aggV x7) 1))), (.str (strV (gt (aggV x7) 2)))]), (.str name)] fun x9 => cnd (chk (.tup [shDef, .bool]) x9)
    (callp O 19 [(.agg [(.slice (List.map encDef s.defs) [] false), (.str s.query), (.str s.mutation)]), (.str name)] fun x11 => cnd (chk (.tup [shDef, .bool]) x11)
    (cnd (!((boolV (gt (tupV x9) 1)) == (boolV (gt (tupV x11) 1))))
     (some ((.bool false), []))
     (callp O 20 [(.agg [(.int .i64 (intV (gt (aggV (gt (tupV x9) 0)) 0))), (.str (strV (gt (aggV (gt (tupV x9) 0)) 1))), (.slice (esV (gt (aggV (gt (tupV x9) 0)) 2)) [] false), (.slice (esV (gt (aggV (gt (tupV x9) 0)) 3)) [] false), (.slice (esV (gt (aggV (gt (tupV x9) 0)) 4)) [] false), (.slice (esV (gt (aggV (gt (tupV x9) 0)) 5)) [] false)]), (.agg [(.int .i64 (intV (gt (aggV (gt (tupV x11) 0)) 0))), (.str (strV (gt (aggV (gt (tupV x11) 0)) 1))), (.slice (esV (gt (aggV (gt (tupV x11) 0)) 2)) [] false), (.slice (esV (gt (aggV (gt (tupV x11) 0)) 3)) [] false), (.slice (esV (gt (aggV (gt (tupV x11) 0)) 4)) [] false), (.slice (esV (gt (aggV (gt (tupV x11) 0)) 5)) [] false)])] fun x13 => cnd (chk .bool x13)
     (cnd (!(boolV x13))
      (some ((.bool false), []))
      (callp O 21 [(.agg [(.slice (esV (gt (aggV x7) 0)) [] false), (.str (strV (gt (aggV x7) 1))), (.str (strV (gt (aggV x7) 2)))]), (.str name)] fun x15 => cnd (chk .bool x15)
      (callp O 22 [(.agg [(.slice (List.map encDef s.defs) [] false), (.str s.query), (.str s.mutation)]), (.str name)] fun x17 => cnd (chk .bool x17)
      (cnd ((boolV x15) == (boolV x17))
       (callp O 13 [(.agg [(.slice (esV (gt (aggV x7) 0)) [] false), (.str (strV (gt (aggV x7) 1))), (.str (strV (gt (aggV x7) 2)))]), (.str name)] fun x19 => cnd (chk .bool x19)
       (callp O 23 [(.agg [(.slice (List.map encDef s.defs) [] false), (.str s.query), (.str s.mutation)]), (.str name)] fun x21 => cnd (chk .bool x21)
       (cnd ((boolV x19) == (boolV x21))
        (callp O 24 [(.agg [(.slice (esV (gt (aggV x7) 0)) [] false), (.str (strV (gt (aggV x7) 1))), (.str (strV (gt (aggV x7) 2)))]), (.str name)] fun x23 => cnd (chk .bool x23)
        (callp O 25 [(.agg [(.slice (List.map encDef s.defs) [] false), (.str s.query), (.str s.mutation)]), (.str name)] fun x25 => cnd (chk .bool x25)
        (cnd ((boolV x23) == (boolV x25))
         (callp O 16 [(.agg [(.slice (esV (gt (aggV x7) 0)) [] false), (.str (strV (gt (aggV x7) 1))), (.str (strV (gt (aggV x7) 2)))]), (.str name)] fun x27 => cnd (chk (.sl false) x27)
         (callp O 27 [(.agg [(.slice (List.map encDef s.defs) [] false), (.str s.query), (.str s.mutation)]), (.str name)] fun x29 => cnd (chk (.sl false) x29)
         (callp O 26 [(.slice (esV x27) [] false), (.slice (esV x29) [] false)] fun x31 => cnd (chk .bool x31)
         (cnd (boolV x31)
          (callp O 28 [(.agg [(.slice (esV (gt (aggV x7) 0)) [] false), (.str (strV (gt (aggV x7) 1))), (.str (strV (gt (aggV x7) 2)))]), (.agg [(.slice (List.map encDef s.defs) [] false), (.str s.query), (.str s.mutation)])] fun x33 => cnd (chk .bool x33)
          (cnd (boolV x33)
           (callp O 9 [] fun x35 => cnd (chk .bool x35)
           (some ((.bool (boolV x35)), [])) none)
           (some ((.bool false), []))) none)
          (some ((.bool false), []))) none) none) none)
         (some ((.bool false), []))) none) none)
        (some ((.bool false), []))) none) none)
       (some ((.bool false), []))) none) none)) none)) none) none) none))) none
noncomputable def seinelaw9_DefsSays_B (s : GSchema) (name : Str) : Option Bool :=
  bnd (seinelaw8_Light s) fun y2 =>
  cnd (!y2)
   (bnd (seinelaw9_awake) fun y4 =>
   some y4)
   (cnd (decide ((List.length name : Int) > 2000))
    (bnd (seinelaw9_awake) fun y6 =>
    some y6)
    (bnd (seinekeep_Schema s) fun y8 =>
    bnd (defs_Find y8 name) fun y10 =>
    bnd (seineref9_Find s name) fun y12 =>
    cnd (!(y10.2 == y12.2))
     (some false)
     (bnd (seineref6_SameDef y10.1 y12.1) fun y14 =>
     cnd (!y14)
      (some false)
      (bnd (defs_Leaf y8 name) fun y16 =>
      bnd (seineref9_Leaf s name) fun y18 =>
      cnd (y16 == y18)
       (bnd (defs_Composite y8 name) fun y20 =>
       bnd (seineref9_Composite s name) fun y22 =>
       cnd (y20 == y22)
        (bnd (defs_Entry y8 name) fun y24 =>
        bnd (seineref9_Entry s name) fun y26 =>
        cnd (y24 == y26)
         (bnd (defs_Possible y8 name) fun y28 =>
         bnd (seineref9_Possible s name) fun y30 =>
         bnd (seinekeep_SameTexts y28 y30) fun y32 =>
         cnd y32
          (bnd (seineref6_SameSchema y8 s) fun y34 =>
          cnd y34
           (bnd (seinelaw9_awake) fun y36 =>
           some y36)
           (some false))
          (some false))
         (some false))
        (some false))
       (some false)))))
def seinelaw9_DefsSays_ds : Decs := { decs := [(11, .bool), (18, .bool), (20, shSchema), (24, (.tup [shDef, .bool])), (30, (.tup [shDef, .bool])), (39, .bool), (44, .bool), (47, .bool), (52, .bool), (55, .bool), (61, .bool), (64, .bool), (70, (.sl false)), (73, (.sl false)), (74, .bool), (79, .bool), (82, .bool)], ups := [], loops := [] }
set_option maxRecDepth 100000 in
theorem seinelaw9_DefsSays_t1 (O : Orc) (LP : LBody → LBody) (s : GSchema) (name : Str) : evalBodyD Try.prog (MT 6) seinelaw9_DefsSays_ds Try.f6.ntmps O LP Try.f6 [(.agg [(.slice (List.map encDef s.defs) [] false), (.str s.query), (.str s.mutation)]), (.str name)] [] = seinelaw9_DefsSays_T1 O LP s name := by kernel_rfl
theorem seinelaw9_DefsSays_imp (s : GSchema) (name : Str) : Imp (seinelaw9_DefsSays_B s name) (seinelaw9_DefsSays_T1 O loopLim s name) (fun r v => v = (seinelaw9_DefsSaysE r, [])) := by
  simp only [seinelaw9_DefsSays_B, seinelaw9_DefsSays_T1]
  try simp only [evs, tys]
  refine Imp.call (f := seinelaw8_LightE) rfl (fun a h => by first | exact seinelaw8_Light_spec h | simpa only [evs, tys, evl] using seinelaw8_Light_spec h) (fun a => by first | rfl | simp only [seinelaw8_LightE, evk, chks]) fun y2 hy2 => ?_
  try simp only [seinelaw8_LightE, evs, tys]
  refine Imp.cnd ?_ ?_
  · refine Imp.call (f := seinelaw9_awakeE) rfl (fun a h => by first | exact seinelaw9_awake_spec h | simpa only [evs, tys, evl] using seinelaw9_awake_spec h) (fun a => by first | rfl | simp only [seinelaw9_awakeE, evk, chks]) fun y4 hy4 => ?_
    try simp only [seinelaw9_awakeE, evs, tys]
    exact Imp.some (by first | rfl | simp only [seinelaw9_DefsSaysE, evs, tys, evl])
  · refine Imp.cnd ?_ ?_
    · refine Imp.call (f := seinelaw9_awakeE) rfl (fun a h => by first | exact seinelaw9_awake_spec h | simpa only [evs, tys, evl] using seinelaw9_awake_spec h) (fun a => by first | rfl | simp only [seinelaw9_awakeE, evk, chks]) fun y6 hy6 => ?_
      try simp only [seinelaw9_awakeE, evs, tys]
      exact Imp.some (by first | rfl | simp only [seinelaw9_DefsSaysE, evs, tys, evl])
    · refine Imp.call (f := seinekeep_SchemaE) rfl (fun a h => by first | exact seinekeep_Schema_spec h | simpa only [evs, tys, evl] using seinekeep_Schema_spec h) (fun a => by first | rfl | simp only [seinekeep_SchemaE, evk, chks]) fun y8 hy8 => ?_
      try simp only [seinekeep_SchemaE, evs, tys]
      refine Imp.call (f := defs_FindE) rfl (fun a h => by first | exact defs_Find_spec h | simpa only [evs, tys, evl] using defs_Find_spec h) (fun a => by first | rfl | simp only [defs_FindE, evk, chks]) fun y10 hy10 => ?_
      try simp only [defs_FindE, evs, tys]
      refine Imp.call (f := seineref9_FindE) rfl (fun a h => by first | exact seineref9_Find_spec h | simpa only [evs, tys, evl] using seineref9_Find_spec h) (fun a => by first | rfl | simp only [seineref9_FindE, evk, chks]) fun y12 hy12 => ?_
      try simp only [seineref9_FindE, evs, tys]
      refine Imp.cnd ?_ ?_
      · exact Imp.some (by first | rfl | simp only [seinelaw9_DefsSaysE, evs, tys, evl])
      · refine Imp.call (f := seineref6_SameDefE) rfl (fun a h => by first | exact seineref6_SameDef_spec h | simpa only [evs, tys, evl] using seineref6_SameDef_spec h) (fun a => by first | rfl | simp only [seineref6_SameDefE, evk, chks]) fun y14 hy14 => ?_
        try simp only [seineref6_SameDefE, evs, tys]
        refine Imp.cnd ?_ ?_
        · exact Imp.some (by first | rfl | simp only [seinelaw9_DefsSaysE, evs, tys, evl])
        · refine Imp.call (f := defs_LeafE) rfl (fun a h => by first | exact defs_Leaf_spec h | simpa only [evs, tys, evl] using defs_Leaf_spec h) (fun a => by first | rfl | simp only [defs_LeafE, evk, chks]) fun y16 hy16 => ?_
          try simp only [defs_LeafE, evs, tys]
          refine Imp.call (f := seineref9_LeafE) rfl (fun a h => by first | exact seineref9_Leaf_spec h | simpa only [evs, tys, evl] using seineref9_Leaf_spec h) (fun a => by first | rfl | simp only [seineref9_LeafE, evk, chks]) fun y18 hy18 => ?_
          try simp only [seineref9_LeafE, evs, tys]
          refine Imp.cnd ?_ ?_
          · refine Imp.call (f := defs_CompositeE) rfl (fun a h => by first | exact defs_Composite_spec h | simpa only [evs, tys, evl] using defs_Composite_spec h) (fun a => by first | rfl | simp only [defs_CompositeE, evk, chks]) fun y20 hy20 => ?_
            try simp only [defs_CompositeE, evs, tys]
            refine Imp.call (f := seineref9_CompositeE) rfl (fun a h => by first | exact seineref9_Composite_spec h | simpa only [evs, tys, evl] using seineref9_Composite_spec h) (fun a => by first | rfl | simp only [seineref9_CompositeE, evk, chks]) fun y22 hy22 => ?_
            try simp only [seineref9_CompositeE, evs, tys]
            refine Imp.cnd ?_ ?_
            · refine Imp.call (f := defs_EntryE) rfl (fun a h => by first | exact defs_Entry_spec h | simpa only [evs, tys, evl] using defs_Entry_spec h) (fun a => by first | rfl | simp only [defs_EntryE, evk, chks]) fun y24 hy24 => ?_
              try simp only [defs_EntryE, evs, tys]
              refine Imp.call (f := seineref9_EntryE) rfl (fun a h => by first | exact seineref9_Entry_spec h | simpa only [evs, tys, evl] using seineref9_Entry_spec h) (fun a => by first | rfl | simp only [seineref9_EntryE, evk, chks]) fun y26 hy26 => ?_
              try simp only [seineref9_EntryE, evs, tys]
              refine Imp.cnd ?_ ?_
              · refine Imp.call (f := defs_PossibleE) rfl (fun a h => by first | exact defs_Possible_spec h | simpa only [evs, tys, evl] using defs_Possible_spec h) (fun a => by first | rfl | simp only [defs_PossibleE, evk, chks]) fun y28 hy28 => ?_
                try simp only [defs_PossibleE, evs, tys]
                refine Imp.call (f := seineref9_PossibleE) rfl (fun a h => by first | exact seineref9_Possible_spec h | simpa only [evs, tys, evl] using seineref9_Possible_spec h) (fun a => by first | rfl | simp only [seineref9_PossibleE, evk, chks]) fun y30 hy30 => ?_
                try simp only [seineref9_PossibleE, evs, tys]
                refine Imp.call (f := seinekeep_SameTextsE) rfl (fun a h => by first | exact seinekeep_SameTexts_spec h | simpa only [evs, tys, evl] using seinekeep_SameTexts_spec h) (fun a => by first | rfl | simp only [seinekeep_SameTextsE, evk, chks]) fun y32 hy32 => ?_
                try simp only [seinekeep_SameTextsE, evs, tys]
                refine Imp.cnd ?_ ?_
                · refine Imp.call (f := seineref6_SameSchemaE) rfl (fun a h => by first | exact seineref6_SameSchema_spec h | simpa only [evs, tys, evl] using seineref6_SameSchema_spec h) (fun a => by first | rfl | simp only [seineref6_SameSchemaE, evk, chks]) fun y34 hy34 => ?_
                  try simp only [seineref6_SameSchemaE, evs, tys]
                  refine Imp.cnd ?_ ?_
                  · refine Imp.call (f := seinelaw9_awakeE) rfl (fun a h => by first | exact seinelaw9_awake_spec h | simpa only [evs, tys, evl] using seinelaw9_awake_spec h) (fun a => by first | rfl | simp only [seinelaw9_awakeE, evk, chks]) fun y36 hy36 => ?_
                    try simp only [seinelaw9_awakeE, evs, tys]
                    exact Imp.some (by first | rfl | simp only [seinelaw9_DefsSaysE, evs, tys, evl])
                  · exact Imp.some (by first | rfl | simp only [seinelaw9_DefsSaysE, evs, tys, evl])
                · exact Imp.some (by first | rfl | simp only [seinelaw9_DefsSaysE, evs, tys, evl])
              · exact Imp.some (by first | rfl | simp only [seinelaw9_DefsSaysE, evs, tys, evl])
            · exact Imp.some (by first | rfl | simp only [seinelaw9_DefsSaysE, evs, tys, evl])
          · exact Imp.some (by first | rfl | simp only [seinelaw9_DefsSaysE, evs, tys, evl])
theorem seinelaw9_DefsSays_run {s : GSchema} {name : Str} {r : Bool} (h : seinelaw9_DefsSays_B s name = some r) : seinelaw9_DefsSays s name = some r := by
  obtain ⟨v, hv, rfl⟩ := seinelaw9_DefsSays_imp s name r h
  exact tO_of (pair_inj seinelaw9_DefsSaysEj) (OL_runD seinelaw9_DefsSays_ds rfl Try.func6 ((seinelaw9_DefsSays_t1 _ _ s name).trans hv))

def seinelaw9_DefsKinds_T1 (O : Orc) (LP : LBody → LBody) (s : GSchema) (name : Str) : Option (PV × UP) :=
  callp O 8 [(.agg [(.slice (List.map encDef s.defs) [] false), (.str s.query), (.str s.mutation)])] fun x1 => cnd (chk .bool x1)
  (cnd (!(boolV x1))
   (callp O 9 [] fun x3 => cnd (chk .bool x3)
   (some ((.bool (boolV x3)), [])) none)
   (cnd (decide ((List.length name : Int) > 2000))
    (callp O 9 [] fun x5 => cnd (chk .bool x5)
    (some ((.bool (boolV x5)), [])) none)
    (callp O 17 [(.agg [(.slice (List.map encDef s.defs) [] false), (.str s.query), (.str s.mutation)]), (.str name)] fun x7 => cnd (chk (.tup [shDef, .bool]) x7)
    (callp O 21 [(.agg [(.slice (List.map encDef s.defs) [] false), (.str s.query), (.str s.mutation)]), (.str name)] fun x9 => cnd (chk .bool x9)
    (callp O 13 [(.agg [(.slice (List.map encDef s.defs) [] false), (.str s.query), (.str s.mutation)]), (.str name)] fun x11 => cnd (chk .bool x11)
    (callp O 24 [(.agg [(.slice (List.map encDef s.defs) [] false), (.str s.query), (.str s.mutation)]), (.str name)] fun x13 => cnd (chk .bool x13)
    (cnd (!(boolV (gt (tupV x7) 1)))
     (cnd (!(boolV x9))
      (cnd (!(boolV x11))
       (cnd (!(boolV x13))
        (cnd ((strV (gt (aggV (gt (tupV x7) 0)) 1)) == ([] : Str))
         (callp O 9 [] fun x15 => cnd (chk .bool x15)
         (some ((.bool (boolV x15)), [])) none)
         (some ((.bool false), [])))
        (some ((.bool false), [])))
       (some ((.bool false), [])))
      (some ((.bool false), [])))
     (cnd ((strV (gt (aggV (gt (tupV x7) 0)) 1)) == name)
      (cnd (boolV x9)
       (cnd (!(boolV x11))
        (cnd (!(boolV x9))
         (cnd (boolV x9)
          (cnd ((boolV x13) == true)
           (cnd (boolV x11)
            (cnd (!(boolV x13))
             (callp O 9 [] fun x17 => cnd (chk .bool x17)
             (some ((.bool (boolV x17)), [])) none)
             (some ((.bool false), [])))
            (callp O 9 [] fun x19 => cnd (chk .bool x19)
            (some ((.bool (boolV x19)), [])) none))
           (some ((.bool false), [])))
          (cnd ((boolV x13) == ((intV (gt (aggV (gt (tupV x7) 0)) 0)) == 5))
           (cnd (boolV x11)
            (cnd (!(boolV x13))
             (callp O 9 [] fun x21 => cnd (chk .bool x21)
             (some ((.bool (boolV x21)), [])) none)
             (some ((.bool false), [])))
            (callp O 9 [] fun x23 => cnd (chk .bool x23)
            (some ((.bool (boolV x23)), [])) none))
           (some ((.bool false), []))))
         (cnd (boolV x13)
          (cnd (boolV x9)
           (cnd ((boolV x13) == true)
            (cnd (boolV x11)
             (cnd (!(boolV x13))
              (callp O 9 [] fun x25 => cnd (chk .bool x25)
              (some ((.bool (boolV x25)), [])) none)
              (some ((.bool false), [])))
             (callp O 9 [] fun x27 => cnd (chk .bool x27)
             (some ((.bool (boolV x27)), [])) none))
            (some ((.bool false), [])))
           (cnd ((boolV x13) == ((intV (gt (aggV (gt (tupV x7) 0)) 0)) == 5))
            (cnd (boolV x11)
             (cnd (!(boolV x13))
              (callp O 9 [] fun x29 => cnd (chk .bool x29)
              (some ((.bool (boolV x29)), [])) none)
              (some ((.bool false), [])))
             (callp O 9 [] fun x31 => cnd (chk .bool x31)
             (some ((.bool (boolV x31)), [])) none))
            (some ((.bool false), []))))
          (some ((.bool false), []))))
        (some ((.bool false), [])))
       (cnd (!(boolV x9))
        (cnd (boolV x9)
         (cnd ((boolV x13) == true)
          (cnd (boolV x11)
           (cnd (!(boolV x13))
            (callp O 9 [] fun x33 => cnd (chk .bool x33)
            (some ((.bool (boolV x33)), [])) none)
            (some ((.bool false), [])))
           (callp O 9 [] fun x35 => cnd (chk .bool x35)
           (some ((.bool (boolV x35)), [])) none))
          (some ((.bool false), [])))
         (cnd ((boolV x13) == ((intV (gt (aggV (gt (tupV x7) 0)) 0)) == 5))
          (cnd (boolV x11)
           (cnd (!(boolV x13))
            (callp O 9 [] fun x37 => cnd (chk .bool x37)
            (some ((.bool (boolV x37)), [])) none)
            (some ((.bool false), [])))
           (callp O 9 [] fun x39 => cnd (chk .bool x39)
           (some ((.bool (boolV x39)), [])) none))
          (some ((.bool false), []))))
        (cnd (boolV x13)
         (cnd (boolV x9)
          (cnd ((boolV x13) == true)
           (cnd (boolV x11)
            (cnd (!(boolV x13))
             (callp O 9 [] fun x41 => cnd (chk .bool x41)
             (some ((.bool (boolV x41)), [])) none)
             (some ((.bool false), [])))
            (callp O 9 [] fun x43 => cnd (chk .bool x43)
            (some ((.bool (boolV x43)), [])) none))
           (some ((.bool false), [])))
          (cnd ((boolV x13) == ((intV (gt (aggV (gt (tupV x7) 0)) 0)) == 5))
           (cnd (boolV x11)
            (cnd (!(boolV x13))
             (callp O 9 [] fun x45 => cnd (chk .bool x45)
             (some ((.bool (boolV x45)), [])) none)
             (some ((.bool false), [])))
            (callp O 9 [] fun x47 => cnd (chk .bool x47)
            (some ((.bool (boolV x47)), [])) none))
           (some ((.bool false), []))))
         (some ((.bool false), [])))))
      (some ((.bool false), [])))) none) none) none) none))) none
noncomputable def seinelaw9_DefsKinds_B (s : GSchema) (name : Str) : Option Bool :=
  bnd (seinelaw8_Light s) fun y2 =>
  cnd (!y2)
   (bnd (seinelaw9_awake) fun y4 =>
   some y4)
   (cnd (decide ((List.length name : Int) > 2000))
    (bnd (seinelaw9_awake) fun y6 =>
    some y6)
    (bnd (defs_Find s name) fun y8 =>
    bnd (defs_Leaf s name) fun y10 =>
    bnd (defs_Composite s name) fun y12 =>
    bnd (defs_Entry s name) fun y14 =>
    cnd (!y8.2)
     (cnd (!y10)
      (cnd (!y12)
       (cnd (!y14)
        (cnd (y8.1.name == ([] : Str))
         (bnd (seinelaw9_awake) fun y16 =>
         some y16)
         (some false))
        (some false))
       (some false))
      (some false))
     (cnd (y8.1.name == name)
      (cnd y10
       (cnd (!y12)
        (cnd (!y10)
         (cnd y10
          (cnd (y14 == true)
           (cnd y12
            (cnd (!y14)
             (bnd (seinelaw9_awake) fun y18 =>
             some y18)
             (some false))
            (bnd (seinelaw9_awake) fun y20 =>
            some y20))
           (some false))
          (cnd (y14 == (y8.1.kind == 5))
           (cnd y12
            (cnd (!y14)
             (bnd (seinelaw9_awake) fun y22 =>
             some y22)
             (some false))
            (bnd (seinelaw9_awake) fun y24 =>
            some y24))
           (some false)))
         (cnd y14
          (cnd y10
           (cnd (y14 == true)
            (cnd y12
             (cnd (!y14)
              (bnd (seinelaw9_awake) fun y26 =>
              some y26)
              (some false))
             (bnd (seinelaw9_awake) fun y28 =>
             some y28))
            (some false))
           (cnd (y14 == (y8.1.kind == 5))
            (cnd y12
             (cnd (!y14)
              (bnd (seinelaw9_awake) fun y30 =>
              some y30)
              (some false))
             (bnd (seinelaw9_awake) fun y32 =>
             some y32))
            (some false)))
          (some false)))
        (some false))
       (cnd (!y10)
        (cnd y10
         (cnd (y14 == true)
          (cnd y12
           (cnd (!y14)
            (bnd (seinelaw9_awake) fun y34 =>
            some y34)
            (some false))
           (bnd (seinelaw9_awake) fun y36 =>
           some y36))
          (some false))
         (cnd (y14 == (y8.1.kind == 5))
          (cnd y12
           (cnd (!y14)
            (bnd (seinelaw9_awake) fun y38 =>
            some y38)
            (some false))
           (bnd (seinelaw9_awake) fun y40 =>
           some y40))
          (some false)))
        (cnd y14
         (cnd y10
          (cnd (y14 == true)
           (cnd y12
            (cnd (!y14)
             (bnd (seinelaw9_awake) fun y42 =>
             some y42)
             (some false))
            (bnd (seinelaw9_awake) fun y44 =>
            some y44))
           (some false))
          (cnd (y14 == (y8.1.kind == 5))
           (cnd y12
            (cnd (!y14)
             (bnd (seinelaw9_awake) fun y46 =>
             some y46)
             (some false))
            (bnd (seinelaw9_awake) fun y48 =>
            some y48))
           (some false)))
         (some false))))
      (some false))))
def seinelaw9_DefsKinds_ds : Decs := { decs := [(11, .bool), (18, .bool), (22, (.tup [shDef, .bool])), (27, .bool), (30, .bool), (33, .bool), (52, .bool), (90, .bool)], ups := [], loops := [] }
set_option maxRecDepth 100000 in
theorem seinelaw9_DefsKinds_t1 (O : Orc) (LP : LBody → LBody) (s : GSchema) (name : Str) : evalBodyD Try.prog (MT 7) seinelaw9_DefsKinds_ds Try.f7.ntmps O LP Try.f7 [(.agg [(.slice (List.map encDef s.defs) [] false), (.str s.query), (.str s.mutation)]), (.str name)] [] = seinelaw9_DefsKinds_T1 O LP s name := by kernel_rfl
theorem seinelaw9_DefsKinds_imp (s : GSchema) (name : Str) : Imp (seinelaw9_DefsKinds_B s name) (seinelaw9_DefsKinds_T1 O loopLim s name) (fun r v => v = (seinelaw9_DefsKindsE r, [])) := by
  simp only [seinelaw9_DefsKinds_B, seinelaw9_DefsKinds_T1]
  try simp only [evs, tys]
  refine Imp.call (f := seinelaw8_LightE) rfl (fun a h => by first | exact seinelaw8_Light_spec h | simpa only [evs, tys, evl] using seinelaw8_Light_spec h) (fun a => by first | rfl | simp only [seinelaw8_LightE, evk, chks]) fun y2 hy2 => ?_
  try simp only [seinelaw8_LightE, evs, tys]
  refine Imp.cnd ?_ ?_
  · refine Imp.call (f := seinelaw9_awakeE) rfl (fun a h => by first | exact seinelaw9_awake_spec h | simpa only [evs, tys, evl] using seinelaw9_awake_spec h) (fun a => by first | rfl | simp only [seinelaw9_awakeE, evk, chks]) fun y4 hy4 => ?_
    try simp only [seinelaw9_awakeE, evs, tys]
    exact Imp.some (by first | rfl | simp only [seinelaw9_DefsKindsE, evs, tys, evl])
  · refine Imp.cnd ?_ ?_
    · refine Imp.call (f := seinelaw9_awakeE) rfl (fun a h => by first | exact seinelaw9_awake_spec h | simpa only [evs, tys, evl] using seinelaw9_awake_spec h) (fun a => by first | rfl | simp only [seinelaw9_awakeE, evk, chks]) fun y6 hy6 => ?_
      try simp only [seinelaw9_awakeE, evs, tys]
      exact Imp.some (by first | rfl | simp only [seinelaw9_DefsKindsE, evs, tys, evl])
    · refine Imp.call (f := defs_FindE) rfl (fun a h => by first | exact defs_Find_spec h | simpa only [evs, tys, evl] using defs_Find_spec h) (fun a => by first | rfl | simp only [defs_FindE, evk, chks]) fun y8 hy8 => ?_
      try simp only [defs_FindE, evs, tys]
      refine Imp.call (f := defs_LeafE) rfl (fun a h => by first | exact defs_Leaf_spec h | simpa only [evs, tys, evl] using defs_Leaf_spec h) (fun a => by first | rfl | simp only [defs_LeafE, evk, chks]) fun y10 hy10 => ?_
      try simp only [defs_LeafE, evs, tys]
      refine Imp.call (f := defs_CompositeE) rfl (fun a h => by first | exact defs_Composite_spec h | simpa only [evs, tys, evl] using defs_Composite_spec h) (fun a => by first | rfl | simp only [defs_CompositeE, evk, chks]) fun y12 hy12 => ?_
      try simp only [defs_CompositeE, evs, tys]
      refine Imp.call (f := defs_EntryE) rfl (fun a h => by first | exact defs_Entry_spec h | simpa only [evs, tys, evl] using defs_Entry_spec h) (fun a => by first | rfl | simp only [defs_EntryE, evk, chks]) fun y14 hy14 => ?_
      try simp only [defs_EntryE, evs, tys]
      refine Imp.cnd ?_ ?_
      · refine Imp.cnd ?_ ?_
        · refine Imp.cnd ?_ ?_
          · refine Imp.cnd ?_ ?_
            · refine Imp.cnd ?_ ?_
              · refine Imp.call (f := seinelaw9_awakeE) rfl (fun a h => by first | exact seinelaw9_awake_spec h | simpa only [evs, tys, evl] using seinelaw9_awake_spec h) (fun a => by first | rfl | simp only [seinelaw9_awakeE, evk, chks]) fun y16 hy16 => ?_
                try simp only [seinelaw9_awakeE, evs, tys]
                exact Imp.some (by first | rfl | simp only [seinelaw9_DefsKindsE, evs, tys, evl])
              · exact Imp.some (by first | rfl | simp only [seinelaw9_DefsKindsE, evs, tys, evl])
            · exact Imp.some (by first | rfl | simp only [seinelaw9_DefsKindsE, evs, tys, evl])
          · exact Imp.some (by first | rfl | simp only [seinelaw9_DefsKindsE, evs, tys, evl])
        · exact Imp.some (by first | rfl | simp only [seinelaw9_DefsKindsE, evs, tys, evl])
      · refine Imp.cnd ?_ ?_
        · refine Imp.cnd ?_ ?_
          · refine Imp.cnd ?_ ?_
            · refine Imp.cnd ?_ ?_
              · refine Imp.cnd ?_ ?_
                · refine Imp.cnd ?_ ?_
                  · refine Imp.cnd ?_ ?_
                    · refine Imp.cnd ?_ ?_
                      · refine Imp.call (f := seinelaw9_awakeE) rfl (fun a h => by first | exact seinelaw9_awake_spec h | simpa only [evs, tys, evl] using seinelaw9_awake_spec h) (fun a => by first | rfl | simp only [seinelaw9_awakeE, evk, chks]) fun y18 hy18 => ?_
                        try simp only [seinelaw9_awakeE, evs, tys]
                        exact Imp.some (by first | rfl | simp only [seinelaw9_DefsKindsE, evs, tys, evl])
                      · exact Imp.some (by first | rfl | simp only [seinelaw9_DefsKindsE, evs, tys, evl])
                    · refine Imp.call (f := seinelaw9_awakeE) rfl (fun a h => by first | exact seinelaw9_awake_spec h | simpa only [evs, tys, evl] using seinelaw9_awake_spec h) (fun a => by first | rfl | simp only [seinelaw9_awakeE, evk, chks]) fun y20 hy20 => ?_
                      try simp only [seinelaw9_awakeE, evs, tys]
                      exact Imp.some (by first | rfl | simp only [seinelaw9_DefsKindsE, evs, tys, evl])
                  · exact Imp.some (by first | rfl | simp only [seinelaw9_DefsKindsE, evs, tys, evl])
                · refine Imp.cnd ?_ ?_
                  · refine Imp.cnd ?_ ?_
                    · refine Imp.cnd ?_ ?_
                      · refine Imp.call (f := seinelaw9_awakeE) rfl (fun a h => by first | exact seinelaw9_awake_spec h | simpa only [evs, tys, evl] using seinelaw9_awake_spec h) (fun a => by first | rfl | simp only [seinelaw9_awakeE, evk, chks]) fun y22 hy22 => ?_
                        try simp only [seinelaw9_awakeE, evs, tys]
                        exact Imp.some (by first | rfl | simp only [seinelaw9_DefsKindsE, evs, tys, evl])
                      · exact Imp.some (by first | rfl | simp only [seinelaw9_DefsKindsE, evs, tys, evl])
                    · refine Imp.call (f := seinelaw9_awakeE) rfl (fun a h => by first | exact seinelaw9_awake_spec h | simpa only [evs, tys, evl] using seinelaw9_awake_spec h) (fun a => by first | rfl | simp only [seinelaw9_awakeE, evk, chks]) fun y24 hy24 => ?_
                      try simp only [seinelaw9_awakeE, evs, tys]
                      exact Imp.some (by first | rfl | simp only [seinelaw9_DefsKindsE, evs, tys, evl])
                  · exact Imp.some (by first | rfl | simp only [seinelaw9_DefsKindsE, evs, tys, evl])
              · refine Imp.cnd ?_ ?_
                · refine Imp.cnd ?_ ?_
                  · refine Imp.cnd ?_ ?_
                    · refine Imp.cnd ?_ ?_
                      · refine Imp.cnd ?_ ?_
                        · refine Imp.call (f := seinelaw9_awakeE) rfl (fun a h => by first | exact seinelaw9_awake_spec h | simpa only [evs, tys, evl] using seinelaw9_awake_spec h) (fun a => by first | rfl | simp only [seinelaw9_awakeE, evk, chks]) fun y26 hy26 => ?_
                          try simp only [seinelaw9_awakeE, evs, tys]
                          exact Imp.some (by first | rfl | simp only [seinelaw9_DefsKindsE, evs, tys, evl])
                        · exact Imp.some (by first | rfl | simp only [seinelaw9_DefsKindsE, evs, tys, evl])
                      · refine Imp.call (f := seinelaw9_awakeE) rfl (fun a h => by first | exact seinelaw9_awake_spec h | simpa only [evs, tys, evl] using seinelaw9_awake_spec h) (fun a => by first | rfl | simp only [seinelaw9_awakeE, evk, chks]) fun y28 hy28 => ?_
                        try simp only [seinelaw9_awakeE, evs, tys]
                        exact Imp.some (by first | rfl | simp only [seinelaw9_DefsKindsE, evs, tys, evl])
                    · exact Imp.some (by first | rfl | simp only [seinelaw9_DefsKindsE, evs, tys, evl])
                  · refine Imp.cnd ?_ ?_
                    · refine Imp.cnd ?_ ?_
                      · refine Imp.cnd ?_ ?_
                        · refine Imp.call (f := seinelaw9_awakeE) rfl (fun a h => by first | exact seinelaw9_awake_spec h | simpa only [evs, tys, evl] using seinelaw9_awake_spec h) (fun a => by first | rfl | simp only [seinelaw9_awakeE, evk, chks]) fun y30 hy30 => ?_
                          try simp only [seinelaw9_awakeE, evs, tys]
                          exact Imp.some (by first | rfl | simp only [seinelaw9_DefsKindsE, evs, tys, evl])
                        · exact Imp.some (by first | rfl | simp only [seinelaw9_DefsKindsE, evs, tys, evl])
                      · refine Imp.call (f := seinelaw9_awakeE) rfl (fun a h => by first | exact seinelaw9_awake_spec h | simpa only [evs, tys, evl] using seinelaw9_awake_spec h) (fun a => by first | rfl | simp only [seinelaw9_awakeE, evk, chks]) fun y32 hy32 => ?_
                        try simp only [seinelaw9_awakeE, evs, tys]
                        exact Imp.some (by first | rfl | simp only [seinelaw9_DefsKindsE, evs, tys, evl])
                    · exact Imp.some (by first | rfl | simp only [seinelaw9_DefsKindsE, evs, tys, evl])
                · exact Imp.some (by first | rfl | simp only [seinelaw9_DefsKindsE, evs, tys, evl])
            · exact Imp.some (by first | rfl | simp only [seinelaw9_DefsKindsE, evs, tys, evl])
          · refine Imp.cnd ?_ ?_
            · refine Imp.cnd ?_ ?_
              · refine Imp.cnd ?_ ?_
                · refine Imp.cnd ?_ ?_
                  · refine Imp.cnd ?_ ?_
                    · refine Imp.call (f := seinelaw9_awakeE) rfl (fun a h => by first | exact seinelaw9_awake_spec h | simpa only [evs, tys, evl] using seinelaw9_awake_spec h) (fun a => by first | rfl | simp only [seinelaw9_awakeE, evk, chks]) fun y34 hy34 => ?_
                      try simp only [seinelaw9_awakeE, evs, tys]
                      exact Imp.some (by first | rfl | simp only [seinelaw9_DefsKindsE, evs, tys, evl])
                    · exact Imp.some (by first | rfl | simp only [seinelaw9_DefsKindsE, evs, tys, evl])
                  · refine Imp.call (f := seinelaw9_awakeE) rfl (fun a h => by first | exact seinelaw9_awake_spec h | simpa only [evs, tys, evl] using seinelaw9_awake_spec h) (fun a => by first | rfl | simp only [seinelaw9_awakeE, evk, chks]) fun y36 hy36 => ?_
                    try simp only [seinelaw9_awakeE, evs, tys]
                    exact Imp.some (by first | rfl | simp only [seinelaw9_DefsKindsE, evs, tys, evl])
                · exact Imp.some (by first | rfl | simp only [seinelaw9_DefsKindsE, evs, tys, evl])
              · refine Imp.cnd ?_ ?_
                · refine Imp.cnd ?_ ?_
                  · refine Imp.cnd ?_ ?_
                    · refine Imp.call (f := seinelaw9_awakeE) rfl (fun a h => by first | exact seinelaw9_awake_spec h | simpa only [evs, tys, evl] using seinelaw9_awake_spec h) (fun a => by first | rfl | simp only [seinelaw9_awakeE, evk, chks]) fun y38 hy38 => ?_
                      try simp only [seinelaw9_awakeE, evs, tys]
                      exact Imp.some (by first | rfl | simp only [seinelaw9_DefsKindsE, evs, tys, evl])
                    · exact Imp.some (by first | rfl | simp only [seinelaw9_DefsKindsE, evs, tys, evl])
                  · refine Imp.call (f := seinelaw9_awakeE) rfl (fun a h => by first | exact seinelaw9_awake_spec h | simpa only [evs, tys, evl] using seinelaw9_awake_spec h) (fun a => by first | rfl | simp only [seinelaw9_awakeE, evk, chks]) fun y40 hy40 => ?_
                    try simp only [seinelaw9_awakeE, evs, tys]
                    exact Imp.some (by first | rfl | simp only [seinelaw9_DefsKindsE, evs, tys, evl])
                · exact Imp.some (by first | rfl | simp only [seinelaw9_DefsKindsE, evs, tys, evl])
            · refine Imp.cnd ?_ ?_
              · refine Imp.cnd ?_ ?_
                · refine Imp.cnd ?_ ?_
                  · refine Imp.cnd ?_ ?_
                    · refine Imp.cnd ?_ ?_
                      · refine Imp.call (f := seinelaw9_awakeE) rfl (fun a h => by first | exact seinelaw9_awake_spec h | simpa only [evs, tys, evl] using seinelaw9_awake_spec h) (fun a => by first | rfl | simp only [seinelaw9_awakeE, evk, chks]) fun y42 hy42 => ?_
                        try simp only [seinelaw9_awakeE, evs, tys]
                        exact Imp.some (by first | rfl | simp only [seinelaw9_DefsKindsE, evs, tys, evl])
                      · exact Imp.some (by first | rfl | simp only [seinelaw9_DefsKindsE, evs, tys, evl])
                    · refine Imp.call (f := seinelaw9_awakeE) rfl (fun a h => by first | exact seinelaw9_awake_spec h | simpa only [evs, tys, evl] using seinelaw9_awake_spec h) (fun a => by first | rfl | simp only [seinelaw9_awakeE, evk, chks]) fun y44 hy44 => ?_
                      try simp only [seinelaw9_awakeE, evs, tys]
                      exact Imp.some (by first | rfl | simp only [seinelaw9_DefsKindsE, evs, tys, evl])
                  · exact Imp.some (by first | rfl | simp only [seinelaw9_DefsKindsE, evs, tys, evl])
                · refine Imp.cnd ?_ ?_
                  · refine Imp.cnd ?_ ?_
                    · refine Imp.cnd ?_ ?_
                      · refine Imp.call (f := seinelaw9_awakeE) rfl (fun a h => by first | exact seinelaw9_awake_spec h | simpa only [evs, tys, evl] using seinelaw9_awake_spec h) (fun a => by first | rfl | simp only [seinelaw9_awakeE, evk, chks]) fun y46 hy46 => ?_
                        try simp only [seinelaw9_awakeE, evs, tys]
                        exact Imp.some (by first | rfl | simp only [seinelaw9_DefsKindsE, evs, tys, evl])
                      · exact Imp.some (by first | rfl | simp only [seinelaw9_DefsKindsE, evs, tys, evl])
                    · refine Imp.call (f := seinelaw9_awakeE) rfl (fun a h => by first | exact seinelaw9_awake_spec h | simpa only [evs, tys, evl] using seinelaw9_awake_spec h) (fun a => by first | rfl | simp only [seinelaw9_awakeE, evk, chks]) fun y48 hy48 => ?_
                      try simp only [seinelaw9_awakeE, evs, tys]
                      exact Imp.some (by first | rfl | simp only [seinelaw9_DefsKindsE, evs, tys, evl])
                  · exact Imp.some (by first | rfl | simp only [seinelaw9_DefsKindsE, evs, tys, evl])
              · exact Imp.some (by first | rfl | simp only [seinelaw9_DefsKindsE, evs, tys, evl])
        · exact Imp.some (by first | rfl | simp only [seinelaw9_DefsKindsE, evs, tys, evl])
theorem seinelaw9_DefsKinds_run {s : GSchema} {name : Str} {r : Bool} (h : seinelaw9_DefsKinds_B s name = some r) : seinelaw9_DefsKinds s name = some r := by
  obtain ⟨v, hv, rfl⟩ := seinelaw9_DefsKinds_imp s name r h
  exact tO_of (pair_inj seinelaw9_DefsKindsEj) (OL_runD seinelaw9_DefsKinds_ds rfl Try.func7 ((seinelaw9_DefsKinds_t1 _ _ s name).trans hv))
end Go.Proofs.Ytigiafabnidggaa

/- Printed by symgen.py: typed functions of this seat, and why they tell what the program does. -/
set_option linter.unusedVariables false
set_option linter.unusedSimpArgs false
open Go Go.Ev Go.Ev.PV
namespace Go.Proofs.Ytigiafabnidggaa
def seinelaw8_Light_l1 (O : Orc) (LP : LBody → LBody) : LBody := fun s46 s46u => cnd (chkL [(.ptr 0 1 0), (.int .i64), (.int .i64), (.ptr 0 5 0), (.int .i64), (.int .i64), .str, (.sl false), (.sl false), (.sl false), (.sl false), (.sl false), .str, .str] s46) (cnd (chkU [] s46u)
  (cnd (decide ((intV (gt s46 4)) < (List.length (esV (gt s46 8)) : Int)))
   (bnd (ix 6 (.slice (esV (gt s46 8)) [] false) (.int .i64 (intV (gt s46 4)))) fun x59 => cnd (chk (.ref shFieldDef) x59)
   (bnd (ix 6 (.slice (esV (gt s46 8)) [] false) (.int .i64 (intV (gt s46 4)))) fun x61 => cnd (chk (.ref shFieldDef) x61)
   (callp O 30 [(.slice (esV (gt (aggV (refV x61)) 1)) [] false)] fun x63 => cnd (chk (.int .i64) x63)
   (bnd (ix 6 (.slice (esV (gt s46 8)) [] false) (.int .i64 (intV (gt s46 4)))) fun x65 => cnd (chk (.ref shFieldDef) x65)
   (callp O 31 [(.slice (esV (gt (aggV (refV x65)) 5)) [] false)] fun x67 => cnd (chk (.int .i64) x67)
   (some (.nrm, [(.ptr 0 1 0), (.int .i64 (IntKind.wrap .i64 ((IntKind.wrap .i64 ((IntKind.wrap .i64 ((IntKind.wrap .i64 ((intV (gt s46 1)) + 1)) + (List.length (strV (gt (aggV (refV x59)) 0)) : Int))) + (intV x63))) + (intV x67)))), (.int .i64 (intV (gt s46 2))), (.ptr 0 5 0), (.int .i64 (IntKind.wrap .i64 ((intV (gt s46 4)) + 1))), (.int .i64 (intV (gt s46 5))), (.str (strV (gt s46 6))), (.slice (esV (gt s46 7)) [] false), (.slice (esV (gt s46 8)) [] false), (.slice (esV (gt s46 9)) [] false), (.slice (esV (gt s46 10)) [] false), (.slice (esV (gt s46 11)) [] false), (.str (strV (gt s46 12))), (.str (strV (gt s46 13)))], [])) none) none) none) none) none)
   (some (.brk 2, [(.ptr 0 1 0), (.int .i64 (intV (gt s46 1))), (.int .i64 (intV (gt s46 2))), (.ptr 0 5 0), (.int .i64 (intV (gt s46 4))), (.int .i64 (intV (gt s46 5))), (.str (strV (gt s46 6))), (.slice (esV (gt s46 7)) [] false), (.slice (esV (gt s46 8)) [] false), (.slice (esV (gt s46 9)) [] false), (.slice (esV (gt s46 10)) [] false), (.slice (esV (gt s46 11)) [] false), (.str (strV (gt s46 12))), (.str (strV (gt s46 13)))], []))) none) none
def seinelaw8_Light_l2 (O : Orc) (LP : LBody → LBody) : LBody := fun s1 s1u => cnd (chkL [(.ptr 0 1 0), (.int .i64), (.int .i64), (.sl false), .str, .str] s1) (cnd (chkU [] s1u)
  (cnd (decide ((intV (gt s1 2)) < (List.length (esV (gt s1 3)) : Int)))
   (bnd (ix 6 (.slice (esV (gt s1 3)) [] false) (.int .i64 (intV (gt s1 2)))) fun x38 => cnd (chk (.ref shDef) x38)
   (callp O 29 [(.slice (esV (gt (aggV (refV x38)) 2)) [] false)] fun x40 => cnd (chk (.int .i64) x40)
   (callp O 29 [(.slice (esV (gt (aggV (refV x38)) 4)) [] false)] fun x42 => cnd (chk (.int .i64) x42)
   (callp O 30 [(.slice (esV (gt (aggV (refV x38)) 5)) [] false)] fun x44 => cnd (chk (.int .i64) x44)
   (bnd (LP (seinelaw8_Light_l1 O LP) [(.ptr 0 1 0), (.int .i64 (IntKind.wrap .i64 ((IntKind.wrap .i64 ((IntKind.wrap .i64 ((IntKind.wrap .i64 ((IntKind.wrap .i64 ((intV (gt s1 1)) + 1)) + (List.length (strV (gt (aggV (refV x38)) 1)) : Int))) + (intV x40))) + (intV x42))) + (intV x44)))), (.int .i64 (intV (gt s1 2))), (.ptr 0 5 0), (.int .i64 0), (.int .i64 (intV (gt (aggV (refV x38)) 0))), (.str (strV (gt (aggV (refV x38)) 1))), (.slice (esV (gt (aggV (refV x38)) 2)) [] false), (.slice (esV (gt (aggV (refV x38)) 3)) [] false), (.slice (esV (gt (aggV (refV x38)) 4)) [] false), (.slice (esV (gt (aggV (refV x38)) 5)) [] false), (.slice (esV (gt s1 3)) [] false), (.str (strV (gt s1 4))), (.str (strV (gt s1 5)))] []) fun y71 =>
   exIs y71.1 (some 2) (cnd (chkL [(.ptr 0 1 0), (.int .i64), (.int .i64), (.ptr 0 5 0), (.int .i64), (.int .i64), .str, (.sl false), (.sl false), (.sl false), (.sl false), (.sl false), .str, .str] y71.2.1) (cnd (chkU [] y71.2.2)
    (some (.nrm, [(.ptr 0 1 0), (.int .i64 (intV (gt y71.2.1 1))), (.int .i64 (IntKind.wrap .i64 ((intV (gt y71.2.1 2)) + 1))), (.slice (esV (gt y71.2.1 11)) [] false), (.str (strV (gt y71.2.1 12))), (.str (strV (gt y71.2.1 13)))], [])) none) none)
   (none)) none) none) none) none)
   (some (.brk 0, [(.ptr 0 1 0), (.int .i64 (intV (gt s1 1))), (.int .i64 (intV (gt s1 2))), (.slice (esV (gt s1 3)) [] false), (.str (strV (gt s1 4))), (.str (strV (gt s1 5)))], []))) none) none
def seinelaw8_Light_T1 (O : Orc) (LP : LBody → LBody) (s : GSchema) : Option (PV × UP) :=
  bnd (LP (seinelaw8_Light_l2 O LP) [(.ptr 0 1 0), (.int .i64 0), (.int .i64 0), (.slice (List.map encDef s.defs) [] false), (.str s.query), (.str s.mutation)] []) fun y74 =>
  exIs y74.1 (some 0) (cnd (chkL [(.ptr 0 1 0), (.int .i64), (.int .i64), (.sl false), .str, .str] y74.2.1) (cnd (chkU [] y74.2.2)
   (some ((.bool (decide ((intV (gt y74.2.1 1)) ≤ 4000))), [])) none) none)
  (none)
noncomputable def seinelaw8_Light_l1T (y39 : GDef) : (Int × Int) → Option ((Int × Int) ⊕ Int)
  | (n_57, k_58) =>
  cnd (decide (k_58 < (List.length y39.fields : Int)))
   (bnd (nthI y39.fields k_58) fun y60 =>
   bnd (nthI y39.fields k_58) fun y62 =>
   bnd (seinelaw8_lightParams y62.params) fun y64 =>
   bnd (nthI y39.fields k_58) fun y66 =>
   bnd (seinelaw8_lightDirs y66.dirs) fun y68 =>
   some (.inl ((IntKind.wrap .i64 ((IntKind.wrap .i64 ((IntKind.wrap .i64 ((IntKind.wrap .i64 (n_57 + 1)) + (List.length y60.name : Int))) + y64)) + y68)), (IntKind.wrap .i64 (k_58 + 1)))))
   (some (.inr n_57))
abbrev seinelaw8_Light_l1R (s : GSchema) (i_37 : Int) (y39 : GDef) (st : Int × Int) (l : List PV) (u : UP) : Prop := l = [(.ptr 0 1 0), (.int .i64 st.1), (.int .i64 i_37), (.ptr 0 5 0), (.int .i64 st.2), (.int .i64 y39.kind), (.str y39.name), (.slice (List.map PV.str y39.faces) [] false), (.slice (List.map encFieldDef y39.fields) [] false), (.slice (List.map PV.str y39.parts) [] false), (.slice (List.map encParam y39.params) [] false), (.slice (List.map encDef s.defs) [] false), (.str s.query), (.str s.mutation)] ∧ u = []
abbrev seinelaw8_Light_l1X (s : GSchema) (i_37 : Int) (y39 : GDef) (p : Int) (r : Ex × List PV × UP) : Prop := (fun (p : Int) => ∃ (k_70 : Int), r = (Ex.brk 2, [(.ptr 0 1 0), (.int .i64 p), (.int .i64 i_37), (.ptr 0 5 0), (.int .i64 k_70), (.int .i64 y39.kind), (.str y39.name), (.slice (List.map PV.str y39.faces) [] false), (.slice (List.map encFieldDef y39.fields) [] false), (.slice (List.map PV.str y39.parts) [] false), (.slice (List.map encParam y39.params) [] false), (.slice (List.map encDef s.defs) [] false), (.str s.query), (.str s.mutation)], [])) p
noncomputable def seinelaw8_Light_l2T (s : GSchema) : (Int × Int) → Option ((Int × Int) ⊕ Int)
  | (n_36, i_37) =>
  cnd (decide (i_37 < (List.length s.defs : Int)))
   (bnd (nthI s.defs i_37) fun y39 =>
   bnd (seinelaw8_lightTexts y39.faces) fun y41 =>
   bnd (seinelaw8_lightTexts y39.parts) fun y43 =>
   bnd (seinelaw8_lightParams y39.params) fun y45 =>
   bnd (tloop (seinelaw8_Light_l1T y39) ((IntKind.wrap .i64 ((IntKind.wrap .i64 ((IntKind.wrap .i64 ((IntKind.wrap .i64 ((IntKind.wrap .i64 (n_36 + 1)) + (List.length y39.name : Int))) + y41)) + y43)) + y45)), 0)) fun n_69 =>
   some (.inl (n_69, (IntKind.wrap .i64 (i_37 + 1)))))
   (some (.inr n_36))
abbrev seinelaw8_Light_l2R (s : GSchema) (st : Int × Int) (l : List PV) (u : UP) : Prop := l = [(.ptr 0 1 0), (.int .i64 st.1), (.int .i64 st.2), (.slice (List.map encDef s.defs) [] false), (.str s.query), (.str s.mutation)] ∧ u = []
abbrev seinelaw8_Light_l2X (s : GSchema) (p : Int) (r : Ex × List PV × UP) : Prop := (fun (p : Int) => ∃ (i_73 : Int), r = (Ex.brk 0, [(.ptr 0 1 0), (.int .i64 p), (.int .i64 i_73), (.slice (List.map encDef s.defs) [] false), (.str s.query), (.str s.mutation)], [])) p
noncomputable def seinelaw8_Light_B (s : GSchema) : Option Bool :=
  bnd (tloop (seinelaw8_Light_l2T s) (0, 0)) fun n_72 =>
  some (decide (n_72 ≤ 4000))
def seinelaw8_Light_ds : Decs := { decs := [(17, (.ref shDef)), (27, (.int .i64)), (31, (.int .i64)), (35, (.int .i64)), (49, (.ref shFieldDef)), (57, (.ref shFieldDef)), (60, (.int .i64)), (65, (.ref shFieldDef)), (68, (.int .i64))], ups := [], loops := [(3, ⟨[(.ptr 0 1 0), (.int .i64), (.int .i64), (.sl false), .str, .str], [], [(some 0, [(.ptr 0 1 0), (.int .i64), (.int .i64), (.sl false), .str, .str], [])]⟩), (8, ⟨[(.ptr 0 1 0), (.int .i64), (.int .i64), (.ptr 0 5 0), (.int .i64), (.int .i64), .str, (.sl false), (.sl false), (.sl false), (.sl false), (.sl false), .str, .str], [], [(some 2, [(.ptr 0 1 0), (.int .i64), (.int .i64), (.ptr 0 5 0), (.int .i64), (.int .i64), .str, (.sl false), (.sl false), (.sl false), (.sl false), (.sl false), .str, .str], [])]⟩)] }
set_option maxRecDepth 100000 in
theorem seinelaw8_Light_t1 (O : Orc) (LP : LBody → LBody) (s : GSchema) : evalBodyD Try.prog (MT 8) seinelaw8_Light_ds Try.f8.ntmps O LP Try.f8 [(.agg [(.slice (List.map encDef s.defs) [] false), (.str s.query), (.str s.mutation)])] [] = seinelaw8_Light_T1 O LP s := by kernel_rfl
theorem seinelaw8_Light_l1_ok (s : GSchema) (i_37 : Int) (y39 : GDef) : ∀ st l u, seinelaw8_Light_l1R s i_37 y39 st l u → Imp (seinelaw8_Light_l1T y39 st) (seinelaw8_Light_l1 O loopLim l u) (StepR (seinelaw8_Light_l1R s i_37 y39) (seinelaw8_Light_l1X s i_37 y39)) := by
  rintro ⟨n_57, k_58⟩ l u ⟨rfl, rfl⟩
  simp only [seinelaw8_Light_l1T, seinelaw8_Light_l1]
  refine Imp.chk rfl (Imp.chk rfl ?_)
  try simp only [evs, tys]
  refine Imp.cnd ?_ ?_
  · refine Imp.op (f := fun a => .ref (encFieldDef a)) (fun a h => op_ix (enc := encFieldDef) (by first | rfl | simp only [evs, tys, evl]) ⟨by first | rfl | simp only [evs, tys, evc], by decide⟩ h) (fun a => chk_GFieldDef a) fun y60 hy60 => ?_
    try simp only [evs, tys]
    refine Imp.op (f := fun a => .ref (encFieldDef a)) (fun a h => op_ix (enc := encFieldDef) (by first | rfl | simp only [evs, tys, evl]) ⟨by first | rfl | simp only [evs, tys, evc], by decide⟩ h) (fun a => chk_GFieldDef a) fun y62 hy62 => ?_
    try simp only [evs, tys]
    refine Imp.call (f := seinelaw8_lightParamsE) rfl (fun a h => by first | exact seinelaw8_lightParams_spec h | simpa only [evs, tys, evl] using seinelaw8_lightParams_spec h) (fun a => by first | rfl | simp only [seinelaw8_lightParamsE, evk, chks]) fun y64 hy64 => ?_
    try simp only [seinelaw8_lightParamsE, evs, tys]
    refine Imp.op (f := fun a => .ref (encFieldDef a)) (fun a h => op_ix (enc := encFieldDef) (by first | rfl | simp only [evs, tys, evl]) ⟨by first | rfl | simp only [evs, tys, evc], by decide⟩ h) (fun a => chk_GFieldDef a) fun y66 hy66 => ?_
    try simp only [evs, tys]
    refine Imp.call (f := seinelaw8_lightDirsE) rfl (fun a h => by first | exact seinelaw8_lightDirs_spec h | simpa only [evs, tys, evl] using seinelaw8_lightDirs_spec h) (fun a => by first | rfl | simp only [seinelaw8_lightDirsE, evk, chks]) fun y68 hy68 => ?_
    try simp only [seinelaw8_lightDirsE, evs, tys]
    exact Imp.some (StepR.next ⟨by first | rfl | simp only [evs, tys, evl], rfl⟩)
  · exact Imp.some (StepR.brk ⟨k_58, by first | rfl | simp only [evs, tys, evl, elim_inl, elim_inr]⟩)
theorem seinelaw8_Light_l2_ok (s : GSchema) : ∀ st l u, seinelaw8_Light_l2R s st l u → Imp (seinelaw8_Light_l2T s st) (seinelaw8_Light_l2 O loopLim l u) (StepR (seinelaw8_Light_l2R s) (seinelaw8_Light_l2X s)) := by
  rintro ⟨n_36, i_37⟩ l u ⟨rfl, rfl⟩
  simp only [seinelaw8_Light_l2T, seinelaw8_Light_l2]
  refine Imp.chk rfl (Imp.chk rfl ?_)
  try simp only [evs, tys]
  refine Imp.cnd ?_ ?_
  · refine Imp.op (f := fun a => .ref (encDef a)) (fun a h => op_ix (enc := encDef) (by first | rfl | simp only [evs, tys, evl]) ⟨by first | rfl | simp only [evs, tys, evc], by decide⟩ h) (fun a => chk_GDef a) fun y39 hy39 => ?_
    try simp only [evs, tys]
    refine Imp.call (f := seinelaw8_lightTextsE) rfl (fun a h => by first | exact seinelaw8_lightTexts_spec h | simpa only [evs, tys, evl] using seinelaw8_lightTexts_spec h) (fun a => by first | rfl | simp only [seinelaw8_lightTextsE, evk, chks]) fun y41 hy41 => ?_
    try simp only [seinelaw8_lightTextsE, evs, tys]
    refine Imp.call (f := seinelaw8_lightTextsE) rfl (fun a h => by first | exact seinelaw8_lightTexts_spec h | simpa only [evs, tys, evl] using seinelaw8_lightTexts_spec h) (fun a => by first | rfl | simp only [seinelaw8_lightTextsE, evk, chks]) fun y43 hy43 => ?_
    try simp only [seinelaw8_lightTextsE, evs, tys]
    refine Imp.call (f := seinelaw8_lightParamsE) rfl (fun a h => by first | exact seinelaw8_lightParams_spec h | simpa only [evs, tys, evl] using seinelaw8_lightParams_spec h) (fun a => by first | rfl | simp only [seinelaw8_lightParamsE, evk, chks]) fun y45 hy45 => ?_
    try simp only [seinelaw8_lightParamsE, evs, tys]
    refine Imp.bnd (Imp.loop (seinelaw8_Light_l1_ok s i_37 y39) ⟨by first | rfl | simp only [evs, tys, evl], rfl⟩) ?_
    rintro n_69 vy71 hy71
    obtain ⟨k_70, rfl⟩ := hy71
    refine Imp.exHit rfl (Imp.chk rfl (Imp.chk rfl ?_))
    try simp only [evs, tys]
    exact Imp.some (StepR.next ⟨by first | rfl | simp only [evs, tys, evl], rfl⟩)
  · exact Imp.some (StepR.brk ⟨i_37, by first | rfl | simp only [evs, tys, evl, elim_inl, elim_inr]⟩)
theorem seinelaw8_Light_imp (s : GSchema) : Imp (seinelaw8_Light_B s) (seinelaw8_Light_T1 O loopLim s) (fun r v => v = (seinelaw8_LightE r, [])) := by
  simp only [seinelaw8_Light_B, seinelaw8_Light_T1]
  try simp only [evs, tys]
  refine Imp.bnd (Imp.loop (seinelaw8_Light_l2_ok s) ⟨by first | rfl | simp only [evs, tys, evl], rfl⟩) ?_
  rintro n_72 vy74 hy74
  obtain ⟨i_73, rfl⟩ := hy74
  refine Imp.exHit rfl (Imp.chk rfl (Imp.chk rfl ?_))
  try simp only [evs, tys]
  exact Imp.some (by first | rfl | simp only [seinelaw8_LightE, evs, tys, evl])
theorem seinelaw8_Light_run {s : GSchema} {r : Bool} (h : seinelaw8_Light_B s = some r) : seinelaw8_Light s = some r := by
  obtain ⟨v, hv, rfl⟩ := seinelaw8_Light_imp s r h
  exact tO_of (pair_inj seinelaw8_LightEj) (OL_runD seinelaw8_Light_ds rfl Try.func8 ((seinelaw8_Light_t1 _ _ s).trans hv))

def seinelaw9_awake_T1 (O : Orc) (LP : LBody → LBody) : Option (PV × UP) :=
  callp O 16 [(.agg [(.slice [(.agg [(.int .i64 1), (.str [65]), (.slice [] [] false), (.slice [(.agg [(.str [120]), (.slice [] [] false), (.str [73, 110, 116]), (.int .i64 0), (.int .i64 0), (.slice [] [] false)])] [] false), (.slice [] [] false), (.slice [] [] false)]), (.agg [(.int .i64 1), (.str [66]), (.slice [] [] false), (.slice [] [] false), (.slice [] [] false), (.slice [] [] false)]), (.agg [(.int .i64 3), (.str [85]), (.slice [] [] false), (.slice [] [] false), (.slice [(.str [65]), (.str [66]), (.str [65])] [] false), (.slice [] [] false)])] [] false), (.str [65]), (.str [])]), (.str [85])] fun x1 => cnd (chk (.sl false) x1)
  (callp O 10 [(.agg [(.slice [(.agg [(.int .i64 1), (.str [65]), (.slice [] [] false), (.slice [(.agg [(.str [120]), (.slice [] [] false), (.str [73, 110, 116]), (.int .i64 0), (.int .i64 0), (.slice [] [] false)])] [] false), (.slice [] [] false), (.slice [] [] false)]), (.agg [(.int .i64 1), (.str [66]), (.slice [] [] false), (.slice [] [] false), (.slice [] [] false), (.slice [] [] false)]), (.agg [(.int .i64 3), (.str [85]), (.slice [] [] false), (.slice [] [] false), (.slice [(.str [65]), (.str [66]), (.str [65])] [] false), (.slice [] [] false)])] [] false), (.str [65]), (.str [])]), (.str [65]), (.str [120])] fun x3 => cnd (chk (.tup [shFieldDef, .bool]) x3)
  (cnd ((List.length (esV x1) : Int) == 2)
   (bnd (ix 1 (.slice (esV x1) [] false) (.int .i64 1)) fun x5 => cnd (chk (.ref .str) x5)
   (cnd ((strV (refV x5)) == ([66] : Str))
    (cnd (boolV (gt (tupV x3) 1))
     (cnd ((strV (gt (aggV (gt (tupV x3) 0)) 2)) == ([73, 110, 116] : Str))
      (callp O 21 [(.agg [(.slice [(.agg [(.int .i64 1), (.str [65]), (.slice [] [] false), (.slice [(.agg [(.str [120]), (.slice [] [] false), (.str [73, 110, 116]), (.int .i64 0), (.int .i64 0), (.slice [] [] false)])] [] false), (.slice [] [] false), (.slice [] [] false)]), (.agg [(.int .i64 1), (.str [66]), (.slice [] [] false), (.slice [] [] false), (.slice [] [] false), (.slice [] [] false)]), (.agg [(.int .i64 3), (.str [85]), (.slice [] [] false), (.slice [] [] false), (.slice [(.str [65]), (.str [66]), (.str [65])] [] false), (.slice [] [] false)])] [] false), (.str [65]), (.str [])]), (.str [73, 110, 116])] fun x7 => cnd (chk .bool x7)
      (cnd (boolV x7)
       (callp O 21 [(.agg [(.slice [(.agg [(.int .i64 1), (.str [65]), (.slice [] [] false), (.slice [(.agg [(.str [120]), (.slice [] [] false), (.str [73, 110, 116]), (.int .i64 0), (.int .i64 0), (.slice [] [] false)])] [] false), (.slice [] [] false), (.slice [] [] false)]), (.agg [(.int .i64 1), (.str [66]), (.slice [] [] false), (.slice [] [] false), (.slice [] [] false), (.slice [] [] false)]), (.agg [(.int .i64 3), (.str [85]), (.slice [] [] false), (.slice [] [] false), (.slice [(.str [65]), (.str [66]), (.str [65])] [] false), (.slice [] [] false)])] [] false), (.str [65]), (.str [])]), (.str [65])] fun x9 => cnd (chk .bool x9)
       (cnd (!(boolV x9))
        (callp O 14 [(.agg [(.slice [(.agg [(.int .i64 1), (.str [65]), (.slice [] [] false), (.slice [(.agg [(.str [120]), (.slice [] [] false), (.str [73, 110, 116]), (.int .i64 0), (.int .i64 0), (.slice [] [] false)])] [] false), (.slice [] [] false), (.slice [] [] false)]), (.agg [(.int .i64 1), (.str [66]), (.slice [] [] false), (.slice [] [] false), (.slice [] [] false), (.slice [] [] false)]), (.agg [(.int .i64 3), (.str [85]), (.slice [] [] false), (.slice [] [] false), (.slice [(.str [65]), (.str [66]), (.str [65])] [] false), (.slice [] [] false)])] [] false), (.str [65]), (.str [])]), (.str [85]), (.str [66])] fun x11 => cnd (chk .bool x11)
        (some ((.bool (boolV x11)), [])) none)
        (some ((.bool false), []))) none)
       (some ((.bool false), []))) none)
      (some ((.bool false), [])))
     (some ((.bool false), [])))
    (some ((.bool false), []))) none)
   (some ((.bool false), []))) none) none
noncomputable def seinelaw9_awake_B : Option Bool :=
  bnd (defs_Possible (GSchema.mk [(GDef.mk 1 [65] ([] : List Str) [(GFieldDef.mk [120] ([] : List GParam) (GType.mk [73, 110, 116] 0 0) ([] : List GDir))] ([] : List Str) ([] : List GParam)), (GDef.mk 1 [66] ([] : List Str) ([] : List GFieldDef) ([] : List Str) ([] : List GParam)), (GDef.mk 3 [85] ([] : List Str) ([] : List GFieldDef) [[65], [66], [65]] ([] : List GParam))] [65] []) [85]) fun y2 =>
  bnd (defs_Field (GSchema.mk [(GDef.mk 1 [65] ([] : List Str) [(GFieldDef.mk [120] ([] : List GParam) (GType.mk [73, 110, 116] 0 0) ([] : List GDir))] ([] : List Str) ([] : List GParam)), (GDef.mk 1 [66] ([] : List Str) ([] : List GFieldDef) ([] : List Str) ([] : List GParam)), (GDef.mk 3 [85] ([] : List Str) ([] : List GFieldDef) [[65], [66], [65]] ([] : List GParam))] [65] []) [65] [120]) fun y4 =>
  cnd ((List.length y2 : Int) == 2)
   (bnd (nthI y2 1) fun y6 =>
   cnd (y6 == ([66] : Str))
    (cnd y4.2
     (cnd (y4.1.t.name == ([73, 110, 116] : Str))
      (bnd (defs_Leaf (GSchema.mk [(GDef.mk 1 [65] ([] : List Str) [(GFieldDef.mk [120] ([] : List GParam) (GType.mk [73, 110, 116] 0 0) ([] : List GDir))] ([] : List Str) ([] : List GParam)), (GDef.mk 1 [66] ([] : List Str) ([] : List GFieldDef) ([] : List Str) ([] : List GParam)), (GDef.mk 3 [85] ([] : List Str) ([] : List GFieldDef) [[65], [66], [65]] ([] : List GParam))] [65] []) [73, 110, 116]) fun y8 =>
      cnd y8
       (bnd (defs_Leaf (GSchema.mk [(GDef.mk 1 [65] ([] : List Str) [(GFieldDef.mk [120] ([] : List GParam) (GType.mk [73, 110, 116] 0 0) ([] : List GDir))] ([] : List Str) ([] : List GParam)), (GDef.mk 1 [66] ([] : List Str) ([] : List GFieldDef) ([] : List Str) ([] : List GParam)), (GDef.mk 3 [85] ([] : List Str) ([] : List GFieldDef) [[65], [66], [65]] ([] : List GParam))] [65] []) [65]) fun y10 =>
       cnd (!y10)
        (bnd (defs_Meets (GSchema.mk [(GDef.mk 1 [65] ([] : List Str) [(GFieldDef.mk [120] ([] : List GParam) (GType.mk [73, 110, 116] 0 0) ([] : List GDir))] ([] : List Str) ([] : List GParam)), (GDef.mk 1 [66] ([] : List Str) ([] : List GFieldDef) ([] : List Str) ([] : List GParam)), (GDef.mk 3 [85] ([] : List Str) ([] : List GFieldDef) [[65], [66], [65]] ([] : List GParam))] [65] []) [85] [66]) fun y12 =>
        some y12)
        (some false))
       (some false))
      (some false))
     (some false))
    (some false))
   (some false)
def seinelaw9_awake_ds : Decs := { decs := [(15, (.sl false)), (18, (.tup [shFieldDef, .bool])), (26, (.ref .str)), (41, .bool), (45, .bool), (50, .bool)], ups := [], loops := [] }
set_option maxRecDepth 100000 in
theorem seinelaw9_awake_t1 (O : Orc) (LP : LBody → LBody) : evalBodyD Try.prog (MT 9) seinelaw9_awake_ds Try.f9.ntmps O LP Try.f9 [] [] = seinelaw9_awake_T1 O LP := by kernel_rfl
theorem seinelaw9_awake_imp : Imp (seinelaw9_awake_B) (seinelaw9_awake_T1 O loopLim) (fun r v => v = (seinelaw9_awakeE r, [])) := by
  simp only [seinelaw9_awake_B, seinelaw9_awake_T1]
  try simp only [evs, tys]
  refine Imp.call (f := defs_PossibleE) rfl (fun a h => by first | exact defs_Possible_spec h | simpa only [evs, tys, evl] using defs_Possible_spec h) (fun a => by first | rfl | simp only [defs_PossibleE, evk, chks]) fun y2 hy2 => ?_
  try simp only [defs_PossibleE, evs, tys]
  refine Imp.call (f := defs_FieldE) rfl (fun a h => by first | exact defs_Field_spec h | simpa only [evs, tys, evl] using defs_Field_spec h) (fun a => by first | rfl | simp only [defs_FieldE, evk, chks]) fun y4 hy4 => ?_
  try simp only [defs_FieldE, evs, tys]
  refine Imp.cnd ?_ ?_
  · refine Imp.op (f := fun a => .ref (PV.str a)) (fun a h => op_ix (enc := PV.str) (by first | rfl | simp only [evs, tys, evl]) ⟨by first | rfl | simp only [evs, tys, evc], by decide⟩ h) (fun a => rfl) fun y6 hy6 => ?_
    try simp only [evs, tys]
    refine Imp.cnd ?_ ?_
    · refine Imp.cnd ?_ ?_
      · refine Imp.cnd ?_ ?_
        · refine Imp.call (f := defs_LeafE) rfl (fun a h => by first | exact defs_Leaf_spec h | simpa only [evs, tys, evl] using defs_Leaf_spec h) (fun a => by first | rfl | simp only [defs_LeafE, evk, chks]) fun y8 hy8 => ?_
          try simp only [defs_LeafE, evs, tys]
          refine Imp.cnd ?_ ?_
          · refine Imp.call (f := defs_LeafE) rfl (fun a h => by first | exact defs_Leaf_spec h | simpa only [evs, tys, evl] using defs_Leaf_spec h) (fun a => by first | rfl | simp only [defs_LeafE, evk, chks]) fun y10 hy10 => ?_
            try simp only [defs_LeafE, evs, tys]
            refine Imp.cnd ?_ ?_
            · refine Imp.call (f := defs_MeetsE) rfl (fun a h => by first | exact defs_Meets_spec h | simpa only [evs, tys, evl] using defs_Meets_spec h) (fun a => by first | rfl | simp only [defs_MeetsE, evk, chks]) fun y12 hy12 => ?_
              try simp only [defs_MeetsE, evs, tys]
              exact Imp.some (by first | rfl | simp only [seinelaw9_awakeE, evs, tys, evl])
            · exact Imp.some (by first | rfl | simp only [seinelaw9_awakeE, evs, tys, evl])
          · exact Imp.some (by first | rfl | simp only [seinelaw9_awakeE, evs, tys, evl])
        · exact Imp.some (by first | rfl | simp only [seinelaw9_awakeE, evs, tys, evl])
      · exact Imp.some (by first | rfl | simp only [seinelaw9_awakeE, evs, tys, evl])
    · exact Imp.some (by first | rfl | simp only [seinelaw9_awakeE, evs, tys, evl])
  · exact Imp.some (by first | rfl | simp only [seinelaw9_awakeE, evs, tys, evl])
theorem seinelaw9_awake_run {r : Bool} (h : seinelaw9_awake_B = some r) : seinelaw9_awake = some r := by
  obtain ⟨v, hv, rfl⟩ := seinelaw9_awake_imp r h
  exact tO_of (pair_inj seinelaw9_awakeEj) (OL_runD seinelaw9_awake_ds rfl Try.func9 ((seinelaw9_awake_t1 _ _).trans hv))

def defs_Field_1_T1 (O : Orc) (LP : LBody → LBody) (f : GFieldDef) (u1_8 : GDef) (u1_6 : Str) (u1_60 : Str) (u1_600 : Int) (u1_6000 : Int) (u1_5 : Str) (u1_3 : GSchema) : Option (PV × UP) :=
  some ((.bool (f.name == u1_5)), [[], [(8, [(.int .i64 u1_8.kind), (.str u1_8.name), (.slice (List.map PV.str u1_8.faces) [] false), (.slice (List.map encFieldDef u1_8.fields) [] false), (.slice (List.map PV.str u1_8.parts) [] false), (.slice (List.map encParam u1_8.params) [] false)]), (6, [(.str u1_6), (.slice [] [] true), (.str u1_60), (.int .i64 u1_600), (.int .i64 u1_6000), (.slice [] [] true)]), (5, [(.str u1_5)]), (3, [(.slice (List.map encDef u1_3.defs) [] false), (.str u1_3.query), (.str u1_3.mutation)])]])
noncomputable def defs_Field_1_B (f : GFieldDef) (u1_8 : GDef) (u1_6 : Str) (u1_60 : Str) (u1_600 : Int) (u1_6000 : Int) (u1_5 : Str) (u1_3 : GSchema) : Option Bool :=
  some (f.name == u1_5)
def defs_Field_1_ds : Decs := { decs := [], ups := [], loops := [] }
set_option maxRecDepth 100000 in
theorem defs_Field_1_t1 (O : Orc) (LP : LBody → LBody) (f : GFieldDef) (u1_8 : GDef) (u1_6 : Str) (u1_60 : Str) (u1_600 : Int) (u1_6000 : Int) (u1_5 : Str) (u1_3 : GSchema) : evalBodyD Try.prog (MT 33) defs_Field_1_ds Try.f33.ntmps O LP Try.f33 [(.agg [(.str f.name), (.slice (List.map encParam f.params) [] false), (.str f.t.name), (.int .i64 f.t.lists), (.int .i64 f.t.musts), (.slice (List.map encDir f.dirs) [] false)]), (.ptr 2 5 0)] [[], [(8, [(.int .i64 u1_8.kind), (.str u1_8.name), (.slice (List.map PV.str u1_8.faces) [] false), (.slice (List.map encFieldDef u1_8.fields) [] false), (.slice (List.map PV.str u1_8.parts) [] false), (.slice (List.map encParam u1_8.params) [] false)]), (6, [(.str u1_6), (.slice [] [] true), (.str u1_60), (.int .i64 u1_600), (.int .i64 u1_6000), (.slice [] [] true)]), (5, [(.str u1_5)]), (3, [(.slice (List.map encDef u1_3.defs) [] false), (.str u1_3.query), (.str u1_3.mutation)])]] = defs_Field_1_T1 O LP f u1_8 u1_6 u1_60 u1_600 u1_6000 u1_5 u1_3 := by kernel_rfl
theorem defs_Field_1_imp (f : GFieldDef) (u1_8 : GDef) (u1_6 : Str) (u1_60 : Str) (u1_600 : Int) (u1_6000 : Int) (u1_5 : Str) (u1_3 : GSchema) : Imp (defs_Field_1_B f u1_8 u1_6 u1_60 u1_600 u1_6000 u1_5 u1_3) (defs_Field_1_T1 O loopLim f u1_8 u1_6 u1_60 u1_600 u1_6000 u1_5 u1_3) (fun r v => v = (defs_Field_1E r, (defs_Field_1U f u1_8 u1_6 u1_60 u1_600 u1_6000 u1_5 u1_3 r))) := by
  simp only [defs_Field_1_B, defs_Field_1_T1]
  try simp only [evs, tys]
  exact Imp.some (by first | rfl | simp only [defs_Field_1E, defs_Field_1U, evs, tys, evl])
theorem defs_Field_1_run {f : GFieldDef} {u1_8 : GDef} {u1_6 : Str} {u1_60 : Str} {u1_600 : Int} {u1_6000 : Int} {u1_5 : Str} {u1_3 : GSchema} {r : Bool} (h : defs_Field_1_B f u1_8 u1_6 u1_60 u1_600 u1_6000 u1_5 u1_3 = some r) : defs_Field_1 f u1_8 u1_6 u1_60 u1_600 u1_6000 u1_5 u1_3 = some r := by
  obtain ⟨v, hv, rfl⟩ := defs_Field_1_imp f u1_8 u1_6 u1_60 u1_600 u1_6000 u1_5 u1_3 r h
  exact tO_of (fun a b h => defs_Field_1Ej a b (Prod.mk.inj h).1) (OL_runD defs_Field_1_ds rfl Try.func33 ((defs_Field_1_t1 _ _ f u1_8 u1_6 u1_60 u1_600 u1_6000 u1_5 u1_3).trans hv))
end Go.Proofs.Ytigiafabnidggaa

/- Printed by symgen.py: typed functions of this seat, and why they tell what the program does. -/
set_option linter.unusedVariables false
set_option linter.unusedSimpArgs false
open Go Go.Ev Go.Ev.PV
namespace Go.Proofs.Ytigiafabnidggaa
def slices_IndexFunc_FieldDef_l1 (O : Orc) (LP : LBody → LBody) : LBody := fun s1 s1u => cnd (chkL [(.sl false), (.func 33 [] [(.ptr 1 5 0)]), (.int .i64), (.int .i64), (.int .i64)] s1) (cnd (chkU [[(8, [(.int .i64), .str, (.sl false), (.sl false), (.sl false), (.sl false)]), (6, [.str, (.sl true), .str, (.int .i64), (.int .i64), (.sl true)]), (5, [.str]), (3, [(.sl false), .str, .str])]] s1u)
  (cnd (decide ((intV (gt s1 4)) < (intV (gt s1 3))))
   (bnd (ix 6 (.slice (esV (gt s1 0)) [] false) (.int .i64 (intV (gt s1 4)))) fun x7 => cnd (chk (.ref shFieldDef) x7)
   (bnd (O 33 [(.agg [(.str (strV (gt (aggV (refV x7)) 0))), (.slice (esV (gt (aggV (refV x7)) 1)) [] false), (.str (strV (gt (aggV (refV x7)) 2))), (.int .i64 (intV (gt (aggV (refV x7)) 3))), (.int .i64 (intV (gt (aggV (refV x7)) 4))), (.slice (esV (gt (aggV (refV x7)) 5)) [] false)]), (.ptr 2 5 0)] [[], [(8, [(.int .i64 (intV (gt (boxI (frI s1u 0) 0) 0))), (.str (strV (gt (boxI (frI s1u 0) 0) 1))), (.slice (esV (gt (boxI (frI s1u 0) 0) 2)) [] false), (.slice (esV (gt (boxI (frI s1u 0) 0) 3)) [] false), (.slice (esV (gt (boxI (frI s1u 0) 0) 4)) [] false), (.slice (esV (gt (boxI (frI s1u 0) 0) 5)) [] false)]), (6, [(.str (strV (gt (boxI (frI s1u 0) 1) 0))), (.slice (esV (gt (boxI (frI s1u 0) 1) 1)) [] true), (.str (strV (gt (boxI (frI s1u 0) 1) 2))), (.int .i64 (intV (gt (boxI (frI s1u 0) 1) 3))), (.int .i64 (intV (gt (boxI (frI s1u 0) 1) 4))), (.slice (esV (gt (boxI (frI s1u 0) 1) 5)) [] true)]), (5, [(.str (strV (gt (boxI (frI s1u 0) 2) 0)))]), (3, [(.slice (esV (gt (boxI (frI s1u 0) 3) 0)) [] false), (.str (strV (gt (boxI (frI s1u 0) 3) 1))), (.str (strV (gt (boxI (frI s1u 0) 3) 2)))])]]) fun x9 => cnd (chkU [[], [(8, [(.int .i64), .str, (.sl false), (.sl false), (.sl false), (.sl false)]), (6, [.str, (.sl true), .str, (.int .i64), (.int .i64), (.sl true)]), (5, [.str]), (3, [(.sl false), .str, .str])]] x9.2) (cnd (chk .bool x9.1)
   (cnd (boolV x9.1)
    (some (.ret, [(.slice (esV (gt s1 0)) [] false), (.func (.func 33) [] [(.ptr 1 5 0)]), (.int .i64 (intV (gt s1 4))), (.int .i64 (intV (gt s1 3))), (.int .i64 (intV (gt s1 4)))], [[(8, [(.int .i64 (intV (gt (boxI (frI x9.2 1) 0) 0))), (.str (strV (gt (boxI (frI x9.2 1) 0) 1))), (.slice (esV (gt (boxI (frI x9.2 1) 0) 2)) [] false), (.slice (esV (gt (boxI (frI x9.2 1) 0) 3)) [] false), (.slice (esV (gt (boxI (frI x9.2 1) 0) 4)) [] false), (.slice (esV (gt (boxI (frI x9.2 1) 0) 5)) [] false)]), (6, [(.str (strV (gt (boxI (frI x9.2 1) 1) 0))), (.slice (esV (gt (boxI (frI x9.2 1) 1) 1)) [] true), (.str (strV (gt (boxI (frI x9.2 1) 1) 2))), (.int .i64 (intV (gt (boxI (frI x9.2 1) 1) 3))), (.int .i64 (intV (gt (boxI (frI x9.2 1) 1) 4))), (.slice (esV (gt (boxI (frI x9.2 1) 1) 5)) [] true)]), (5, [(.str (strV (gt (boxI (frI x9.2 1) 2) 0)))]), (3, [(.slice (esV (gt (boxI (frI x9.2 1) 3) 0)) [] false), (.str (strV (gt (boxI (frI x9.2 1) 3) 1))), (.str (strV (gt (boxI (frI x9.2 1) 3) 2)))])]]))
    (some (.nrm, [(.slice (esV (gt s1 0)) [] false), (.func (.func 33) [] [(.ptr 1 5 0)]), (.int .i64 (intV (gt s1 2))), (.int .i64 (intV (gt s1 3))), (.int .i64 (IntKind.wrap .i64 ((intV (gt s1 4)) + 1)))], [[(8, [(.int .i64 (intV (gt (boxI (frI x9.2 1) 0) 0))), (.str (strV (gt (boxI (frI x9.2 1) 0) 1))), (.slice (esV (gt (boxI (frI x9.2 1) 0) 2)) [] false), (.slice (esV (gt (boxI (frI x9.2 1) 0) 3)) [] false), (.slice (esV (gt (boxI (frI x9.2 1) 0) 4)) [] false), (.slice (esV (gt (boxI (frI x9.2 1) 0) 5)) [] false)]), (6, [(.str (strV (gt (boxI (frI x9.2 1) 1) 0))), (.slice (esV (gt (boxI (frI x9.2 1) 1) 1)) [] true), (.str (strV (gt (boxI (frI x9.2 1) 1) 2))), (.int .i64 (intV (gt (boxI (frI x9.2 1) 1) 3))), (.int .i64 (intV (gt (boxI (frI x9.2 1) 1) 4))), (.slice (esV (gt (boxI (frI x9.2 1) 1) 5)) [] true)]), (5, [(.str (strV (gt (boxI (frI x9.2 1) 2) 0)))]), (3, [(.slice (esV (gt (boxI (frI x9.2 1) 3) 0)) [] false), (.str (strV (gt (boxI (frI x9.2 1) 3) 1))), (.str (strV (gt (boxI (frI x9.2 1) 3) 2)))])]]))) none) none) none)
   (some (.brk 0, [(.slice (esV (gt s1 0)) [] false), (.func (.func 33) [] [(.ptr 1 5 0)]), (.int .i64 (intV (gt s1 2))), (.int .i64 (intV (gt s1 3))), (.int .i64 (intV (gt s1 4)))], [[(8, [(.int .i64 (intV (gt (boxI (frI s1u 0) 0) 0))), (.str (strV (gt (boxI (frI s1u 0) 0) 1))), (.slice (esV (gt (boxI (frI s1u 0) 0) 2)) [] false), (.slice (esV (gt (boxI (frI s1u 0) 0) 3)) [] false), (.slice (esV (gt (boxI (frI s1u 0) 0) 4)) [] false), (.slice (esV (gt (boxI (frI s1u 0) 0) 5)) [] false)]), (6, [(.str (strV (gt (boxI (frI s1u 0) 1) 0))), (.slice (esV (gt (boxI (frI s1u 0) 1) 1)) [] true), (.str (strV (gt (boxI (frI s1u 0) 1) 2))), (.int .i64 (intV (gt (boxI (frI s1u 0) 1) 3))), (.int .i64 (intV (gt (boxI (frI s1u 0) 1) 4))), (.slice (esV (gt (boxI (frI s1u 0) 1) 5)) [] true)]), (5, [(.str (strV (gt (boxI (frI s1u 0) 2) 0)))]), (3, [(.slice (esV (gt (boxI (frI s1u 0) 3) 0)) [] false), (.str (strV (gt (boxI (frI s1u 0) 3) 1))), (.str (strV (gt (boxI (frI s1u 0) 3) 2)))])]]))) none) none
def slices_IndexFunc_FieldDef_T1 (O : Orc) (LP : LBody → LBody) (s : List GFieldDef) (u0_8 : GDef) (u0_6 : Str) (u0_60 : Str) (u0_600 : Int) (u0_6000 : Int) (u0_5 : Str) (u0_3 : GSchema) : Option (PV × UP) :=
  bnd (LP (slices_IndexFunc_FieldDef_l1 O LP) [(.slice (List.map encFieldDef s) [] false), (.func (.func 33) [] [(.ptr 1 5 0)]), (.int .i64 0), (.int .i64 (List.length (List.map encFieldDef s) : Int)), (.int .i64 0)] [[(8, [(.int .i64 u0_8.kind), (.str u0_8.name), (.slice (List.map PV.str u0_8.faces) [] false), (.slice (List.map encFieldDef u0_8.fields) [] false), (.slice (List.map PV.str u0_8.parts) [] false), (.slice (List.map encParam u0_8.params) [] false)]), (6, [(.str u0_6), (.slice [] [] true), (.str u0_60), (.int .i64 u0_600), (.int .i64 u0_6000), (.slice [] [] true)]), (5, [(.str u0_5)]), (3, [(.slice (List.map encDef u0_3.defs) [] false), (.str u0_3.query), (.str u0_3.mutation)])]]) fun y14 =>
  exIs y14.1 (some 0) (cnd (chkL [(.sl false), (.func 33 [] [(.ptr 1 5 0)]), (.int .i64), (.int .i64), (.int .i64)] y14.2.1) (cnd (chkU [[(8, [(.int .i64), .str, (.sl false), (.sl false), (.sl false), (.sl false)]), (6, [.str, (.sl true), .str, (.int .i64), (.int .i64), (.sl true)]), (5, [.str]), (3, [(.sl false), .str, .str])]] y14.2.2)
   (some ((.int .i64 (-1)), [[(8, [(.int .i64 (intV (gt (boxI (frI y14.2.2 0) 0) 0))), (.str (strV (gt (boxI (frI y14.2.2 0) 0) 1))), (.slice (esV (gt (boxI (frI y14.2.2 0) 0) 2)) [] false), (.slice (esV (gt (boxI (frI y14.2.2 0) 0) 3)) [] false), (.slice (esV (gt (boxI (frI y14.2.2 0) 0) 4)) [] false), (.slice (esV (gt (boxI (frI y14.2.2 0) 0) 5)) [] false)]), (6, [(.str (strV (gt (boxI (frI y14.2.2 0) 1) 0))), (.slice (esV (gt (boxI (frI y14.2.2 0) 1) 1)) [] true), (.str (strV (gt (boxI (frI y14.2.2 0) 1) 2))), (.int .i64 (intV (gt (boxI (frI y14.2.2 0) 1) 3))), (.int .i64 (intV (gt (boxI (frI y14.2.2 0) 1) 4))), (.slice (esV (gt (boxI (frI y14.2.2 0) 1) 5)) [] true)]), (5, [(.str (strV (gt (boxI (frI y14.2.2 0) 2) 0)))]), (3, [(.slice (esV (gt (boxI (frI y14.2.2 0) 3) 0)) [] false), (.str (strV (gt (boxI (frI y14.2.2 0) 3) 1))), (.str (strV (gt (boxI (frI y14.2.2 0) 3) 2)))])]])) none) none)
  (exIs y14.1 none (cnd (chkL [(.sl false), (.func 33 [] [(.ptr 1 5 0)]), (.int .i64), (.int .i64), (.int .i64)] y14.2.1) (cnd (chkU [[(8, [(.int .i64), .str, (.sl false), (.sl false), (.sl false), (.sl false)]), (6, [.str, (.sl true), .str, (.int .i64), (.int .i64), (.sl true)]), (5, [.str]), (3, [(.sl false), .str, .str])]] y14.2.2)
   (some ((.int .i64 (intV (gt y14.2.1 2))), [[(8, [(.int .i64 (intV (gt (boxI (frI y14.2.2 0) 0) 0))), (.str (strV (gt (boxI (frI y14.2.2 0) 0) 1))), (.slice (esV (gt (boxI (frI y14.2.2 0) 0) 2)) [] false), (.slice (esV (gt (boxI (frI y14.2.2 0) 0) 3)) [] false), (.slice (esV (gt (boxI (frI y14.2.2 0) 0) 4)) [] false), (.slice (esV (gt (boxI (frI y14.2.2 0) 0) 5)) [] false)]), (6, [(.str (strV (gt (boxI (frI y14.2.2 0) 1) 0))), (.slice (esV (gt (boxI (frI y14.2.2 0) 1) 1)) [] true), (.str (strV (gt (boxI (frI y14.2.2 0) 1) 2))), (.int .i64 (intV (gt (boxI (frI y14.2.2 0) 1) 3))), (.int .i64 (intV (gt (boxI (frI y14.2.2 0) 1) 4))), (.slice (esV (gt (boxI (frI y14.2.2 0) 1) 5)) [] true)]), (5, [(.str (strV (gt (boxI (frI y14.2.2 0) 2) 0)))]), (3, [(.slice (esV (gt (boxI (frI y14.2.2 0) 3) 0)) [] false), (.str (strV (gt (boxI (frI y14.2.2 0) 3) 1))), (.str (strV (gt (boxI (frI y14.2.2 0) 3) 2)))])]])) none) none)
  (none))
noncomputable def slices_IndexFunc_FieldDef_l1T (s : List GFieldDef) (u0_8 : GDef) (u0_6 : Str) (u0_60 : Str) (u0_600 : Int) (u0_6000 : Int) (u0_5 : Str) (u0_3 : GSchema) : Int → Option (Int ⊕ (Unit ⊕ Int))
  | t_6 =>
  cnd (decide (t_6 < (List.length s : Int)))
   (bnd (nthI s t_6) fun y8 =>
   bnd (defs_Field_1 y8 u0_8 u0_6 u0_60 u0_600 u0_6000 u0_5 u0_3) fun y10 =>
   cnd y10
    (some (.inr (.inr t_6)))
    (some (.inl (IntKind.wrap .i64 (t_6 + 1)))))
   (some (.inr (.inl ())))
abbrev slices_IndexFunc_FieldDef_l1R (s : List GFieldDef) (u0_8 : GDef) (u0_6 : Str) (u0_60 : Str) (u0_600 : Int) (u0_6000 : Int) (u0_5 : Str) (u0_3 : GSchema) (st : Int) (l : List PV) (u : UP) : Prop := l = [(.slice (List.map encFieldDef s) [] false), (.func (.func 33) [] [(.ptr 1 5 0)]), (.int .i64 0), (.int .i64 (List.length s : Int)), (.int .i64 st)] ∧ u = [[(8, [(.int .i64 u0_8.kind), (.str u0_8.name), (.slice (List.map PV.str u0_8.faces) [] false), (.slice (List.map encFieldDef u0_8.fields) [] false), (.slice (List.map PV.str u0_8.parts) [] false), (.slice (List.map encParam u0_8.params) [] false)]), (6, [(.str u0_6), (.slice [] [] true), (.str u0_60), (.int .i64 u0_600), (.int .i64 u0_6000), (.slice [] [] true)]), (5, [(.str u0_5)]), (3, [(.slice (List.map encDef u0_3.defs) [] false), (.str u0_3.query), (.str u0_3.mutation)])]]
abbrev slices_IndexFunc_FieldDef_l1X (s : List GFieldDef) (u0_8 : GDef) (u0_6 : Str) (u0_60 : Str) (u0_600 : Int) (u0_6000 : Int) (u0_5 : Str) (u0_3 : GSchema) (p : Unit ⊕ Int) (r : Ex × List PV × UP) : Prop := elim p (fun (p : Unit) => ∃ (t_11 : Int), r = (Ex.brk 0, [(.slice (List.map encFieldDef s) [] false), (.func (.func 33) [] [(.ptr 1 5 0)]), (.int .i64 0), (.int .i64 (List.length s : Int)), (.int .i64 t_11)], [[(8, [(.int .i64 u0_8.kind), (.str u0_8.name), (.slice (List.map PV.str u0_8.faces) [] false), (.slice (List.map encFieldDef u0_8.fields) [] false), (.slice (List.map PV.str u0_8.parts) [] false), (.slice (List.map encParam u0_8.params) [] false)]), (6, [(.str u0_6), (.slice [] [] true), (.str u0_60), (.int .i64 u0_600), (.int .i64 u0_6000), (.slice [] [] true)]), (5, [(.str u0_5)]), (3, [(.slice (List.map encDef u0_3.defs) [] false), (.str u0_3.query), (.str u0_3.mutation)])]])) (fun q2 => (fun (p : Int) => ∃ (t_13 : Int), r = (Ex.ret, [(.slice (List.map encFieldDef s) [] false), (.func (.func 33) [] [(.ptr 1 5 0)]), (.int .i64 p), (.int .i64 (List.length s : Int)), (.int .i64 t_13)], [[(8, [(.int .i64 u0_8.kind), (.str u0_8.name), (.slice (List.map PV.str u0_8.faces) [] false), (.slice (List.map encFieldDef u0_8.fields) [] false), (.slice (List.map PV.str u0_8.parts) [] false), (.slice (List.map encParam u0_8.params) [] false)]), (6, [(.str u0_6), (.slice [] [] true), (.str u0_60), (.int .i64 u0_600), (.int .i64 u0_6000), (.slice [] [] true)]), (5, [(.str u0_5)]), (3, [(.slice (List.map encDef u0_3.defs) [] false), (.str u0_3.query), (.str u0_3.mutation)])]])) q2)
noncomputable def slices_IndexFunc_FieldDef_B (s : List GFieldDef) (u0_8 : GDef) (u0_6 : Str) (u0_60 : Str) (u0_600 : Int) (u0_6000 : Int) (u0_5 : Str) (u0_3 : GSchema) : Option Int :=
  bnd (tloop (slices_IndexFunc_FieldDef_l1T s u0_8 u0_6 u0_60 u0_600 u0_6000 u0_5 u0_3) 0) fun e14_2 => elim e14_2
  (fun p14 =>
   some (-1))
  (fun t_12 =>
  some t_12)
def slices_IndexFunc_FieldDef_ds : Decs := { decs := [(14, (.ref shFieldDef)), (16, .bool)], ups := [(16, [[], [(8, [(.int .i64), .str, (.sl false), (.sl false), (.sl false), (.sl false)]), (6, [.str, (.sl true), .str, (.int .i64), (.int .i64), (.sl true)]), (5, [.str]), (3, [(.sl false), .str, .str])]])], loops := [(2, ⟨[(.sl false), (.func 33 [] [(.ptr 1 5 0)]), (.int .i64), (.int .i64), (.int .i64)], [[(8, [(.int .i64), .str, (.sl false), (.sl false), (.sl false), (.sl false)]), (6, [.str, (.sl true), .str, (.int .i64), (.int .i64), (.sl true)]), (5, [.str]), (3, [(.sl false), .str, .str])]], [(some 0, [(.sl false), (.func 33 [] [(.ptr 1 5 0)]), (.int .i64), (.int .i64), (.int .i64)], [[(8, [(.int .i64), .str, (.sl false), (.sl false), (.sl false), (.sl false)]), (6, [.str, (.sl true), .str, (.int .i64), (.int .i64), (.sl true)]), (5, [.str]), (3, [(.sl false), .str, .str])]]), (none, [(.sl false), (.func 33 [] [(.ptr 1 5 0)]), (.int .i64), (.int .i64), (.int .i64)], [[(8, [(.int .i64), .str, (.sl false), (.sl false), (.sl false), (.sl false)]), (6, [.str, (.sl true), .str, (.int .i64), (.int .i64), (.sl true)]), (5, [.str]), (3, [(.sl false), .str, .str])]])]⟩)] }
set_option maxRecDepth 100000 in
theorem slices_IndexFunc_FieldDef_t1 (O : Orc) (LP : LBody → LBody) (s : List GFieldDef) (u0_8 : GDef) (u0_6 : Str) (u0_60 : Str) (u0_600 : Int) (u0_6000 : Int) (u0_5 : Str) (u0_3 : GSchema) : evalBodyD Try.prog (MT 32) slices_IndexFunc_FieldDef_ds Try.f32.ntmps O LP Try.f32 [(.slice (List.map encFieldDef s) [] false), (.func (.func 33) [] [(.ptr 1 5 0)])] [[(8, [(.int .i64 u0_8.kind), (.str u0_8.name), (.slice (List.map PV.str u0_8.faces) [] false), (.slice (List.map encFieldDef u0_8.fields) [] false), (.slice (List.map PV.str u0_8.parts) [] false), (.slice (List.map encParam u0_8.params) [] false)]), (6, [(.str u0_6), (.slice [] [] true), (.str u0_60), (.int .i64 u0_600), (.int .i64 u0_6000), (.slice [] [] true)]), (5, [(.str u0_5)]), (3, [(.slice (List.map encDef u0_3.defs) [] false), (.str u0_3.query), (.str u0_3.mutation)])]] = slices_IndexFunc_FieldDef_T1 O LP s u0_8 u0_6 u0_60 u0_600 u0_6000 u0_5 u0_3 := by kernel_rfl
theorem slices_IndexFunc_FieldDef_l1_ok (s : List GFieldDef) (u0_8 : GDef) (u0_6 : Str) (u0_60 : Str) (u0_600 : Int) (u0_6000 : Int) (u0_5 : Str) (u0_3 : GSchema) : ∀ st l u, slices_IndexFunc_FieldDef_l1R s u0_8 u0_6 u0_60 u0_600 u0_6000 u0_5 u0_3 st l u → Imp (slices_IndexFunc_FieldDef_l1T s u0_8 u0_6 u0_60 u0_600 u0_6000 u0_5 u0_3 st) (slices_IndexFunc_FieldDef_l1 O loopLim l u) (StepR (slices_IndexFunc_FieldDef_l1R s u0_8 u0_6 u0_60 u0_600 u0_6000 u0_5 u0_3) (slices_IndexFunc_FieldDef_l1X s u0_8 u0_6 u0_60 u0_600 u0_6000 u0_5 u0_3)) := by
  rintro t_6 l u ⟨rfl, rfl⟩
  simp only [slices_IndexFunc_FieldDef_l1T, slices_IndexFunc_FieldDef_l1]
  refine Imp.chk rfl (Imp.chk rfl ?_)
  try simp only [evs, tys]
  refine Imp.cnd ?_ ?_
  · refine Imp.op (f := fun a => .ref (encFieldDef a)) (fun a h => op_ix (enc := encFieldDef) (by first | rfl | simp only [evs, tys, evl]) ⟨by first | rfl | simp only [evs, tys, evc], by decide⟩ h) (fun a => chk_GFieldDef a) fun y8 hy8 => ?_
    try simp only [evs, tys]
    refine Imp.gcall (f := defs_Field_1E) (fu := defs_Field_1U y8 u0_8 u0_6 u0_60 u0_600 u0_6000 u0_5 u0_3) (fun a h => by first | exact defs_Field_1_spec h | simpa only [evs, tys, evl] using defs_Field_1_spec h) (fun a => by first | rfl | simp only [defs_Field_1E, evk, chks]) (fun a => by first | rfl | simp only [defs_Field_1U, evk, chks]) fun y10 hy10 => ?_
    try simp only [defs_Field_1E, defs_Field_1U, evs, tys]
    refine Imp.cnd ?_ ?_
    · exact Imp.some (StepR.ret ⟨t_6, by first | rfl | simp only [evs, tys, evl, elim_inl, elim_inr]⟩)
    · exact Imp.some (StepR.next ⟨by first | rfl | simp only [evs, tys, evl], rfl⟩)
  · exact Imp.some (StepR.brk ⟨t_6, by first | rfl | simp only [evs, tys, evl, elim_inl, elim_inr]⟩)
theorem slices_IndexFunc_FieldDef_imp (s : List GFieldDef) (u0_8 : GDef) (u0_6 : Str) (u0_60 : Str) (u0_600 : Int) (u0_6000 : Int) (u0_5 : Str) (u0_3 : GSchema) : Imp (slices_IndexFunc_FieldDef_B s u0_8 u0_6 u0_60 u0_600 u0_6000 u0_5 u0_3) (slices_IndexFunc_FieldDef_T1 O loopLim s u0_8 u0_6 u0_60 u0_600 u0_6000 u0_5 u0_3) (fun r v => v = (slices_IndexFunc_FieldDefE r, (slices_IndexFunc_FieldDefU s u0_8 u0_6 u0_60 u0_600 u0_6000 u0_5 u0_3 r))) := by
  simp only [slices_IndexFunc_FieldDef_B, slices_IndexFunc_FieldDef_T1]
  try simp only [evs, tys]
  refine Imp.bnd (Imp.loop (slices_IndexFunc_FieldDef_l1_ok s u0_8 u0_6 u0_60 u0_600 u0_6000 u0_5 u0_3) ⟨by first | rfl | simp only [evs, tys, evl], rfl⟩) ?_
  rintro (p | t_12) vy14 hy14
  · try simp only [elim_inl, elim_inr]
    obtain ⟨t_11, rfl⟩ := hy14
    refine Imp.exHit rfl (Imp.chk rfl (Imp.chk rfl ?_))
    try simp only [evs, tys]
    exact Imp.some (by first | rfl | simp only [slices_IndexFunc_FieldDefE, slices_IndexFunc_FieldDefU, evs, tys, evl])
  · try simp only [elim_inl, elim_inr]
    obtain ⟨t_13, rfl⟩ := hy14
    refine Imp.exMiss rfl ?_
    refine Imp.exHit rfl (Imp.chk rfl (Imp.chk rfl ?_))
    try simp only [evs, tys]
    exact Imp.some (by first | rfl | simp only [slices_IndexFunc_FieldDefE, slices_IndexFunc_FieldDefU, evs, tys, evl])
theorem slices_IndexFunc_FieldDef_run {s : List GFieldDef} {u0_8 : GDef} {u0_6 : Str} {u0_60 : Str} {u0_600 : Int} {u0_6000 : Int} {u0_5 : Str} {u0_3 : GSchema} {r : Int} (h : slices_IndexFunc_FieldDef_B s u0_8 u0_6 u0_60 u0_600 u0_6000 u0_5 u0_3 = some r) : slices_IndexFunc_FieldDef s u0_8 u0_6 u0_60 u0_600 u0_6000 u0_5 u0_3 = some r := by
  obtain ⟨v, hv, rfl⟩ := slices_IndexFunc_FieldDef_imp s u0_8 u0_6 u0_60 u0_600 u0_6000 u0_5 u0_3 r h
  exact tO_of (fun a b h => slices_IndexFunc_FieldDefEj a b (Prod.mk.inj h).1) (OL_runD slices_IndexFunc_FieldDef_ds rfl Try.func32 ((slices_IndexFunc_FieldDef_t1 _ _ s u0_8 u0_6 u0_60 u0_600 u0_6000 u0_5 u0_3).trans hv))

def defs_Field_T1 (O : Orc) (LP : LBody → LBody) (s : GSchema) (typ : Str) (name : Str) : Option (PV × UP) :=
  cnd (name == ([95, 95, 116, 121, 112, 101, 110, 97, 109, 101] : Str))
   (callp O 13 [(.agg [(.slice (List.map encDef s.defs) [] false), (.str s.query), (.str s.mutation)]), (.str typ)] fun x1 => cnd (chk .bool x1)
   (cnd (boolV x1)
    (some ((.tuple [(.agg [(.str [95, 95, 116, 121, 112, 101, 110, 97, 109, 101]), (.slice [] [] false), (.str [83, 116, 114, 105, 110, 103]), (.int .i64 0), (.int .i64 1), (.slice [] [] false)]), (.bool true)]), []))
    (callp O 17 [(.agg [(.slice (List.map encDef s.defs) [] false), (.str s.query), (.str s.mutation)]), (.str typ)] fun x3 => cnd (chk (.tup [shDef, .bool]) x3)
    (cnd (!(boolV (gt (tupV x3) 1)))
     (some ((.tuple [(.agg [(.str []), (.slice [] [] false), (.str []), (.int .i64 0), (.int .i64 0), (.slice [] [] false)]), (.bool false)]), []))
     (cnd ((intV (gt (aggV (gt (tupV x3) 0)) 0)) != 1)
      (cnd ((intV (gt (aggV (gt (tupV x3) 0)) 0)) != 2)
       (some ((.tuple [(.agg [(.str []), (.slice [] [] false), (.str []), (.int .i64 0), (.int .i64 0), (.slice [] [] false)]), (.bool false)]), []))
       (bnd (O 32 [(.slice (esV (gt (aggV (gt (tupV x3) 0)) 3)) [] false), (.func (.func 33) [] [(.ptr 1 5 0)])] [[(8, [(.int .i64 (intV (gt (aggV (gt (tupV x3) 0)) 0))), (.str (strV (gt (aggV (gt (tupV x3) 0)) 1))), (.slice (esV (gt (aggV (gt (tupV x3) 0)) 2)) [] false), (.slice (esV (gt (aggV (gt (tupV x3) 0)) 3)) [] false), (.slice (esV (gt (aggV (gt (tupV x3) 0)) 4)) [] false), (.slice (esV (gt (aggV (gt (tupV x3) 0)) 5)) [] false)]), (6, [(.str []), (.slice [] [] true), (.str []), (.int .i64 0), (.int .i64 0), (.slice [] [] true)]), (5, [(.str name)]), (3, [(.slice (List.map encDef s.defs) [] false), (.str s.query), (.str s.mutation)])]]) fun x5 => cnd (chkU [[(8, [(.int .i64), .str, (.sl false), (.sl false), (.sl false), (.sl false)]), (6, [.str, (.sl true), .str, (.int .i64), (.int .i64), (.sl true)]), (5, [.str]), (3, [(.sl false), .str, .str])]] x5.2) (cnd (chk (.int .i64) x5.1)
       (cnd (decide ((intV x5.1) < 0))
        (some ((.tuple [(.agg [(.str []), (.slice [] [] false), (.str []), (.int .i64 0), (.int .i64 0), (.slice [] [] false)]), (.bool false)]), []))
        (bnd (ix 6 (.slice (esV (gt (boxI (frI x5.2 0) 0) 3)) [] false) (.int .i64 (intV x5.1))) fun x7 => cnd (chk (.ref shFieldDef) x7)
        (some ((.tuple [(.agg [(.str (strV (gt (aggV (refV x7)) 0))), (.slice (esV (gt (aggV (refV x7)) 1)) [] false), (.str (strV (gt (aggV (refV x7)) 2))), (.int .i64 (intV (gt (aggV (refV x7)) 3))), (.int .i64 (intV (gt (aggV (refV x7)) 4))), (.slice (esV (gt (aggV (refV x7)) 5)) [] false)]), (.bool true)]), [])) none)) none) none))
      (bnd (O 32 [(.slice (esV (gt (aggV (gt (tupV x3) 0)) 3)) [] false), (.func (.func 33) [] [(.ptr 1 5 0)])] [[(8, [(.int .i64 (intV (gt (aggV (gt (tupV x3) 0)) 0))), (.str (strV (gt (aggV (gt (tupV x3) 0)) 1))), (.slice (esV (gt (aggV (gt (tupV x3) 0)) 2)) [] false), (.slice (esV (gt (aggV (gt (tupV x3) 0)) 3)) [] false), (.slice (esV (gt (aggV (gt (tupV x3) 0)) 4)) [] false), (.slice (esV (gt (aggV (gt (tupV x3) 0)) 5)) [] false)]), (6, [(.str []), (.slice [] [] true), (.str []), (.int .i64 0), (.int .i64 0), (.slice [] [] true)]), (5, [(.str name)]), (3, [(.slice (List.map encDef s.defs) [] false), (.str s.query), (.str s.mutation)])]]) fun x9 => cnd (chkU [[(8, [(.int .i64), .str, (.sl false), (.sl false), (.sl false), (.sl false)]), (6, [.str, (.sl true), .str, (.int .i64), (.int .i64), (.sl true)]), (5, [.str]), (3, [(.sl false), .str, .str])]] x9.2) (cnd (chk (.int .i64) x9.1)
      (cnd (decide ((intV x9.1) < 0))
       (some ((.tuple [(.agg [(.str []), (.slice [] [] false), (.str []), (.int .i64 0), (.int .i64 0), (.slice [] [] false)]), (.bool false)]), []))
       (bnd (ix 6 (.slice (esV (gt (boxI (frI x9.2 0) 0) 3)) [] false) (.int .i64 (intV x9.1))) fun x11 => cnd (chk (.ref shFieldDef) x11)
       (some ((.tuple [(.agg [(.str (strV (gt (aggV (refV x11)) 0))), (.slice (esV (gt (aggV (refV x11)) 1)) [] false), (.str (strV (gt (aggV (refV x11)) 2))), (.int .i64 (intV (gt (aggV (refV x11)) 3))), (.int .i64 (intV (gt (aggV (refV x11)) 4))), (.slice (esV (gt (aggV (refV x11)) 5)) [] false)]), (.bool true)]), [])) none)) none) none))) none)) none)
   (callp O 17 [(.agg [(.slice (List.map encDef s.defs) [] false), (.str s.query), (.str s.mutation)]), (.str typ)] fun x13 => cnd (chk (.tup [shDef, .bool]) x13)
   (cnd (!(boolV (gt (tupV x13) 1)))
    (some ((.tuple [(.agg [(.str []), (.slice [] [] false), (.str []), (.int .i64 0), (.int .i64 0), (.slice [] [] false)]), (.bool false)]), []))
    (cnd ((intV (gt (aggV (gt (tupV x13) 0)) 0)) != 1)
     (cnd ((intV (gt (aggV (gt (tupV x13) 0)) 0)) != 2)
      (some ((.tuple [(.agg [(.str []), (.slice [] [] false), (.str []), (.int .i64 0), (.int .i64 0), (.slice [] [] false)]), (.bool false)]), []))
      (bnd (O 32 [(.slice (esV (gt (aggV (gt (tupV x13) 0)) 3)) [] false), (.func (.func 33) [] [(.ptr 1 5 0)])] [[(8, [(.int .i64 (intV (gt (aggV (gt (tupV x13) 0)) 0))), (.str (strV (gt (aggV (gt (tupV x13) 0)) 1))), (.slice (esV (gt (aggV (gt (tupV x13) 0)) 2)) [] false), (.slice (esV (gt (aggV (gt (tupV x13) 0)) 3)) [] false), (.slice (esV (gt (aggV (gt (tupV x13) 0)) 4)) [] false), (.slice (esV (gt (aggV (gt (tupV x13) 0)) 5)) [] false)]), (6, [(.str []), (.slice [] [] true), (.str []), (.int .i64 0), (.int .i64 0), (.slice [] [] true)]), (5, [(.str name)]), (3, [(.slice (List.map encDef s.defs) [] false), (.str s.query), (.str s.mutation)])]]) fun x15 => cnd (chkU [[(8, [(.int .i64), .str, (.sl false), (.sl false), (.sl false), (.sl false)]), (6, [.str, (.sl true), .str, (.int .i64), (.int .i64), (.sl true)]), (5, [.str]), (3, [(.sl false), .str, .str])]] x15.2) (cnd (chk (.int .i64) x15.1)
      (cnd (decide ((intV x15.1) < 0))
       (some ((.tuple [(.agg [(.str []), (.slice [] [] false), (.str []), (.int .i64 0), (.int .i64 0), (.slice [] [] false)]), (.bool false)]), []))
       (bnd (ix 6 (.slice (esV (gt (boxI (frI x15.2 0) 0) 3)) [] false) (.int .i64 (intV x15.1))) fun x17 => cnd (chk (.ref shFieldDef) x17)
       (some ((.tuple [(.agg [(.str (strV (gt (aggV (refV x17)) 0))), (.slice (esV (gt (aggV (refV x17)) 1)) [] false), (.str (strV (gt (aggV (refV x17)) 2))), (.int .i64 (intV (gt (aggV (refV x17)) 3))), (.int .i64 (intV (gt (aggV (refV x17)) 4))), (.slice (esV (gt (aggV (refV x17)) 5)) [] false)]), (.bool true)]), [])) none)) none) none))
     (bnd (O 32 [(.slice (esV (gt (aggV (gt (tupV x13) 0)) 3)) [] false), (.func (.func 33) [] [(.ptr 1 5 0)])] [[(8, [(.int .i64 (intV (gt (aggV (gt (tupV x13) 0)) 0))), (.str (strV (gt (aggV (gt (tupV x13) 0)) 1))), (.slice (esV (gt (aggV (gt (tupV x13) 0)) 2)) [] false), (.slice (esV (gt (aggV (gt (tupV x13) 0)) 3)) [] false), (.slice (esV (gt (aggV (gt (tupV x13) 0)) 4)) [] false), (.slice (esV (gt (aggV (gt (tupV x13) 0)) 5)) [] false)]), (6, [(.str []), (.slice [] [] true), (.str []), (.int .i64 0), (.int .i64 0), (.slice [] [] true)]), (5, [(.str name)]), (3, [(.slice (List.map encDef s.defs) [] false), (.str s.query), (.str s.mutation)])]]) fun x19 => cnd (chkU [[(8, [(.int .i64), .str, (.sl false), (.sl false), (.sl false), (.sl false)]), (6, [.str, (.sl true), .str, (.int .i64), (.int .i64), (.sl true)]), (5, [.str]), (3, [(.sl false), .str, .str])]] x19.2) (cnd (chk (.int .i64) x19.1)
     (cnd (decide ((intV x19.1) < 0))
      (some ((.tuple [(.agg [(.str []), (.slice [] [] false), (.str []), (.int .i64 0), (.int .i64 0), (.slice [] [] false)]), (.bool false)]), []))
      (bnd (ix 6 (.slice (esV (gt (boxI (frI x19.2 0) 0) 3)) [] false) (.int .i64 (intV x19.1))) fun x21 => cnd (chk (.ref shFieldDef) x21)
      (some ((.tuple [(.agg [(.str (strV (gt (aggV (refV x21)) 0))), (.slice (esV (gt (aggV (refV x21)) 1)) [] false), (.str (strV (gt (aggV (refV x21)) 2))), (.int .i64 (intV (gt (aggV (refV x21)) 3))), (.int .i64 (intV (gt (aggV (refV x21)) 4))), (.slice (esV (gt (aggV (refV x21)) 5)) [] false)]), (.bool true)]), [])) none)) none) none))) none)
noncomputable def defs_Field_B (s : GSchema) (typ : Str) (name : Str) : Option (GFieldDef × Bool) :=
  cnd (name == ([95, 95, 116, 121, 112, 101, 110, 97, 109, 101] : Str))
   (bnd (defs_Composite s typ) fun y2 =>
   cnd y2
    (some ((GFieldDef.mk [95, 95, 116, 121, 112, 101, 110, 97, 109, 101] ([] : List GParam) (GType.mk [83, 116, 114, 105, 110, 103] 0 1) ([] : List GDir)), true))
    (bnd (defs_Find s typ) fun y4 =>
    cnd (!y4.2)
     (some ((GFieldDef.mk [] ([] : List GParam) (GType.mk [] 0 0) ([] : List GDir)), false))
     (cnd (y4.1.kind != 1)
      (cnd (y4.1.kind != 2)
       (some ((GFieldDef.mk [] ([] : List GParam) (GType.mk [] 0 0) ([] : List GDir)), false))
       (bnd (slices_IndexFunc_FieldDef y4.1.fields y4.1 [] [] 0 0 name s) fun y6 =>
       cnd (decide (y6 < 0))
        (some ((GFieldDef.mk [] ([] : List GParam) (GType.mk [] 0 0) ([] : List GDir)), false))
        (bnd (nthI y4.1.fields y6) fun y8 =>
        some (y8, true))))
      (bnd (slices_IndexFunc_FieldDef y4.1.fields y4.1 [] [] 0 0 name s) fun y10 =>
      cnd (decide (y10 < 0))
       (some ((GFieldDef.mk [] ([] : List GParam) (GType.mk [] 0 0) ([] : List GDir)), false))
       (bnd (nthI y4.1.fields y10) fun y12 =>
       some (y12, true))))))
   (bnd (defs_Find s typ) fun y14 =>
   cnd (!y14.2)
    (some ((GFieldDef.mk [] ([] : List GParam) (GType.mk [] 0 0) ([] : List GDir)), false))
    (cnd (y14.1.kind != 1)
     (cnd (y14.1.kind != 2)
      (some ((GFieldDef.mk [] ([] : List GParam) (GType.mk [] 0 0) ([] : List GDir)), false))
      (bnd (slices_IndexFunc_FieldDef y14.1.fields y14.1 [] [] 0 0 name s) fun y16 =>
      cnd (decide (y16 < 0))
       (some ((GFieldDef.mk [] ([] : List GParam) (GType.mk [] 0 0) ([] : List GDir)), false))
       (bnd (nthI y14.1.fields y16) fun y18 =>
       some (y18, true))))
     (bnd (slices_IndexFunc_FieldDef y14.1.fields y14.1 [] [] 0 0 name s) fun y20 =>
     cnd (decide (y20 < 0))
      (some ((GFieldDef.mk [] ([] : List GParam) (GType.mk [] 0 0) ([] : List GDir)), false))
      (bnd (nthI y14.1.fields y20) fun y22 =>
      some (y22, true)))))
def defs_Field_ds : Decs := { decs := [(16, .bool), (23, (.tup [shDef, .bool])), (42, (.int .i64)), (49, (.ref shFieldDef))], ups := [(42, [[(8, [(.int .i64), .str, (.sl false), (.sl false), (.sl false), (.sl false)]), (6, [.str, (.sl true), .str, (.int .i64), (.int .i64), (.sl true)]), (5, [.str]), (3, [(.sl false), .str, .str])]])], loops := [] }
set_option maxRecDepth 100000 in
theorem defs_Field_t1 (O : Orc) (LP : LBody → LBody) (s : GSchema) (typ : Str) (name : Str) : evalBodyD Try.prog (MT 10) defs_Field_ds Try.f10.ntmps O LP Try.f10 [(.agg [(.slice (List.map encDef s.defs) [] false), (.str s.query), (.str s.mutation)]), (.str typ), (.str name)] [] = defs_Field_T1 O LP s typ name := by kernel_rfl
theorem defs_Field_imp (s : GSchema) (typ : Str) (name : Str) : Imp (defs_Field_B s typ name) (defs_Field_T1 O loopLim s typ name) (fun r v => v = (defs_FieldE r, [])) := by
  simp only [defs_Field_B, defs_Field_T1]
  try simp only [evs, tys]
  refine Imp.cnd ?_ ?_
  · refine Imp.call (f := defs_CompositeE) rfl (fun a h => by first | exact defs_Composite_spec h | simpa only [evs, tys, evl] using defs_Composite_spec h) (fun a => by first | rfl | simp only [defs_CompositeE, evk, chks]) fun y2 hy2 => ?_
    try simp only [defs_CompositeE, evs, tys]
    refine Imp.cnd ?_ ?_
    · exact Imp.some (by first | rfl | simp only [defs_FieldE, evs, tys, evl])
    · refine Imp.call (f := defs_FindE) rfl (fun a h => by first | exact defs_Find_spec h | simpa only [evs, tys, evl] using defs_Find_spec h) (fun a => by first | rfl | simp only [defs_FindE, evk, chks]) fun y4 hy4 => ?_
      try simp only [defs_FindE, evs, tys]
      refine Imp.cnd ?_ ?_
      · exact Imp.some (by first | rfl | simp only [defs_FieldE, evs, tys, evl])
      · refine Imp.cnd ?_ ?_
        · refine Imp.cnd ?_ ?_
          · exact Imp.some (by first | rfl | simp only [defs_FieldE, evs, tys, evl])
          · refine Imp.gcall (f := slices_IndexFunc_FieldDefE) (fu := slices_IndexFunc_FieldDefU y4.1.fields y4.1 [] [] 0 0 name s) (fun a h => by first | exact slices_IndexFunc_FieldDef_spec h | simpa only [evs, tys, evl] using slices_IndexFunc_FieldDef_spec h) (fun a => by first | rfl | simp only [slices_IndexFunc_FieldDefE, evk, chks]) (fun a => by first | rfl | simp only [slices_IndexFunc_FieldDefU, evk, chks]) fun y6 hy6 => ?_
            try simp only [slices_IndexFunc_FieldDefE, slices_IndexFunc_FieldDefU, evs, tys]
            refine Imp.cnd ?_ ?_
            · exact Imp.some (by first | rfl | simp only [defs_FieldE, evs, tys, evl])
            · refine Imp.op (f := fun a => .ref (encFieldDef a)) (fun a h => op_ix (enc := encFieldDef) (by first | rfl | simp only [evs, tys, evl]) ⟨by first | rfl | simp only [evs, tys, evc], by decide⟩ h) (fun a => chk_GFieldDef a) fun y8 hy8 => ?_
              try simp only [evs, tys]
              exact Imp.some (by first | rfl | simp only [defs_FieldE, evs, tys, evl])
        · refine Imp.gcall (f := slices_IndexFunc_FieldDefE) (fu := slices_IndexFunc_FieldDefU y4.1.fields y4.1 [] [] 0 0 name s) (fun a h => by first | exact slices_IndexFunc_FieldDef_spec h | simpa only [evs, tys, evl] using slices_IndexFunc_FieldDef_spec h) (fun a => by first | rfl | simp only [slices_IndexFunc_FieldDefE, evk, chks]) (fun a => by first | rfl | simp only [slices_IndexFunc_FieldDefU, evk, chks]) fun y10 hy10 => ?_
          try simp only [slices_IndexFunc_FieldDefE, slices_IndexFunc_FieldDefU, evs, tys]
          refine Imp.cnd ?_ ?_
          · exact Imp.some (by first | rfl | simp only [defs_FieldE, evs, tys, evl])
          · refine Imp.op (f := fun a => .ref (encFieldDef a)) (fun a h => op_ix (enc := encFieldDef) (by first | rfl | simp only [evs, tys, evl]) ⟨by first | rfl | simp only [evs, tys, evc], by decide⟩ h) (fun a => chk_GFieldDef a) fun y12 hy12 => ?_
            try simp only [evs, tys]
            exact Imp.some (by first | rfl | simp only [defs_FieldE, evs, tys, evl])
  · refine Imp.call (f := defs_FindE) rfl (fun a h => by first | exact defs_Find_spec h | simpa only [evs, tys, evl] using defs_Find_spec h) (fun a => by first | rfl | simp only [defs_FindE, evk, chks]) fun y14 hy14 => ?_
    try simp only [defs_FindE, evs, tys]
    refine Imp.cnd ?_ ?_
    · exact Imp.some (by first | rfl | simp only [defs_FieldE, evs, tys, evl])
    · refine Imp.cnd ?_ ?_
      · refine Imp.cnd ?_ ?_
        · exact Imp.some (by first | rfl | simp only [defs_FieldE, evs, tys, evl])
        · refine Imp.gcall (f := slices_IndexFunc_FieldDefE) (fu := slices_IndexFunc_FieldDefU y14.1.fields y14.1 [] [] 0 0 name s) (fun a h => by first | exact slices_IndexFunc_FieldDef_spec h | simpa only [evs, tys, evl] using slices_IndexFunc_FieldDef_spec h) (fun a => by first | rfl | simp only [slices_IndexFunc_FieldDefE, evk, chks]) (fun a => by first | rfl | simp only [slices_IndexFunc_FieldDefU, evk, chks]) fun y16 hy16 => ?_
          try simp only [slices_IndexFunc_FieldDefE, slices_IndexFunc_FieldDefU, evs, tys]
          refine Imp.cnd ?_ ?_
          · exact Imp.some (by first | rfl | simp only [defs_FieldE, evs, tys, evl])
          · refine Imp.op (f := fun a => .ref (encFieldDef a)) (fun a h => op_ix (enc := encFieldDef) (by first | rfl | simp only [evs, tys, evl]) ⟨by first | rfl | simp only [evs, tys, evc], by decide⟩ h) (fun a => chk_GFieldDef a) fun y18 hy18 => ?_
            try simp only [evs, tys]
            exact Imp.some (by first | rfl | simp only [defs_FieldE, evs, tys, evl])
      · refine Imp.gcall (f := slices_IndexFunc_FieldDefE) (fu := slices_IndexFunc_FieldDefU y14.1.fields y14.1 [] [] 0 0 name s) (fun a h => by first | exact slices_IndexFunc_FieldDef_spec h | simpa only [evs, tys, evl] using slices_IndexFunc_FieldDef_spec h) (fun a => by first | rfl | simp only [slices_IndexFunc_FieldDefE, evk, chks]) (fun a => by first | rfl | simp only [slices_IndexFunc_FieldDefU, evk, chks]) fun y20 hy20 => ?_
        try simp only [slices_IndexFunc_FieldDefE, slices_IndexFunc_FieldDefU, evs, tys]
        refine Imp.cnd ?_ ?_
        · exact Imp.some (by first | rfl | simp only [defs_FieldE, evs, tys, evl])
        · refine Imp.op (f := fun a => .ref (encFieldDef a)) (fun a h => op_ix (enc := encFieldDef) (by first | rfl | simp only [evs, tys, evl]) ⟨by first | rfl | simp only [evs, tys, evc], by decide⟩ h) (fun a => chk_GFieldDef a) fun y22 hy22 => ?_
          try simp only [evs, tys]
          exact Imp.some (by first | rfl | simp only [defs_FieldE, evs, tys, evl])
theorem defs_Field_run {s : GSchema} {typ : Str} {name : Str} {r : GFieldDef × Bool} (h : defs_Field_B s typ name = some r) : defs_Field s typ name = some r := by
  obtain ⟨v, hv, rfl⟩ := defs_Field_imp s typ name r h
  exact tO_of (pair_inj defs_FieldEj) (OL_runD defs_Field_ds rfl Try.func10 ((defs_Field_t1 _ _ s typ name).trans hv))
end Go.Proofs.Ytigiafabnidggaa

/- Printed by symgen.py: typed functions of this seat, and why they tell what the program does. -/
set_option linter.unusedVariables false
set_option linter.unusedSimpArgs false
open Go Go.Ev Go.Ev.PV
namespace Go.Proofs.Ytigiafabnidggaa
def seineref9_Field_l1 (O : Orc) (LP : LBody → LBody) : LBody := fun s5 s5u => cnd (chkL [.str, (.ptr 0 6 0), .bool, (.ptr 0 8 0), (.int .i64), (.int .i64), .str, (.sl false), (.sl false), (.sl false), (.sl false), .str, (.sl true), .str, (.int .i64), (.int .i64), (.sl true), (.sl false), .str, .str] s5) (cnd (chkU [] s5u)
  (cnd (decide ((intV (gt s5 4)) < (List.length (esV (gt s5 8)) : Int)))
   (bnd (ix 6 (.slice (esV (gt s5 8)) [] false) (.int .i64 (intV (gt s5 4)))) fun x11 => cnd (chk (.ref shFieldDef) x11)
   (cnd ((strV (gt (aggV (refV x11)) 0)) == (strV (gt s5 0)))
    (bnd (ix 6 (.slice (esV (gt s5 8)) [] false) (.int .i64 (intV (gt s5 4)))) fun x13 => cnd (chk (.ref shFieldDef) x13)
    (some (.ret, [(.str (strV (gt s5 0))), (.ptr 0 6 0), (.bool true), (.ptr 0 8 0), (.int .i64 (intV (gt s5 4))), (.int .i64 (intV (gt s5 5))), (.str (strV (gt s5 6))), (.slice (esV (gt s5 7)) [] false), (.slice (esV (gt s5 8)) [] false), (.slice (esV (gt s5 9)) [] false), (.slice (esV (gt s5 10)) [] false), (.str (strV (gt (aggV (refV x13)) 0))), (.slice (esV (gt (aggV (refV x13)) 1)) [] false), (.str (strV (gt (aggV (refV x13)) 2))), (.int .i64 (intV (gt (aggV (refV x13)) 3))), (.int .i64 (intV (gt (aggV (refV x13)) 4))), (.slice (esV (gt (aggV (refV x13)) 5)) [] false), (.slice (esV (gt s5 17)) [] false), (.str (strV (gt s5 18))), (.str (strV (gt s5 19)))], [])) none)
    (some (.nrm, [(.str (strV (gt s5 0))), (.ptr 0 6 0), (.bool (boolV (gt s5 2))), (.ptr 0 8 0), (.int .i64 (IntKind.wrap .i64 ((intV (gt s5 4)) + 1))), (.int .i64 (intV (gt s5 5))), (.str (strV (gt s5 6))), (.slice (esV (gt s5 7)) [] false), (.slice (esV (gt s5 8)) [] false), (.slice (esV (gt s5 9)) [] false), (.slice (esV (gt s5 10)) [] false), (.str (strV (gt s5 11))), (.slice (esV (gt s5 12)) [] true), (.str (strV (gt s5 13))), (.int .i64 (intV (gt s5 14))), (.int .i64 (intV (gt s5 15))), (.slice (esV (gt s5 16)) [] true), (.slice (esV (gt s5 17)) [] false), (.str (strV (gt s5 18))), (.str (strV (gt s5 19)))], []))) none)
   (some (.brk 0, [(.str (strV (gt s5 0))), (.ptr 0 6 0), (.bool (boolV (gt s5 2))), (.ptr 0 8 0), (.int .i64 (intV (gt s5 4))), (.int .i64 (intV (gt s5 5))), (.str (strV (gt s5 6))), (.slice (esV (gt s5 7)) [] false), (.slice (esV (gt s5 8)) [] false), (.slice (esV (gt s5 9)) [] false), (.slice (esV (gt s5 10)) [] false), (.str (strV (gt s5 11))), (.slice (esV (gt s5 12)) [] true), (.str (strV (gt s5 13))), (.int .i64 (intV (gt s5 14))), (.int .i64 (intV (gt s5 15))), (.slice (esV (gt s5 16)) [] true), (.slice (esV (gt s5 17)) [] false), (.str (strV (gt s5 18))), (.str (strV (gt s5 19)))], []))) none) none
def seineref9_Field_l2 (O : Orc) (LP : LBody → LBody) : LBody := fun s24 s24u => cnd (chkL [.str, (.ptr 0 6 0), .bool, (.ptr 0 8 0), (.int .i64), (.int .i64), .str, (.sl false), (.sl false), (.sl false), (.sl false), .str, (.sl true), .str, (.int .i64), (.int .i64), (.sl true), (.sl false), .str, .str] s24) (cnd (chkU [] s24u)
  (cnd (decide ((intV (gt s24 4)) < (List.length (esV (gt s24 8)) : Int)))
   (bnd (ix 6 (.slice (esV (gt s24 8)) [] false) (.int .i64 (intV (gt s24 4)))) fun x30 => cnd (chk (.ref shFieldDef) x30)
   (cnd ((strV (gt (aggV (refV x30)) 0)) == (strV (gt s24 0)))
    (bnd (ix 6 (.slice (esV (gt s24 8)) [] false) (.int .i64 (intV (gt s24 4)))) fun x32 => cnd (chk (.ref shFieldDef) x32)
    (some (.ret, [(.str (strV (gt s24 0))), (.ptr 0 6 0), (.bool true), (.ptr 0 8 0), (.int .i64 (intV (gt s24 4))), (.int .i64 (intV (gt s24 5))), (.str (strV (gt s24 6))), (.slice (esV (gt s24 7)) [] false), (.slice (esV (gt s24 8)) [] false), (.slice (esV (gt s24 9)) [] false), (.slice (esV (gt s24 10)) [] false), (.str (strV (gt (aggV (refV x32)) 0))), (.slice (esV (gt (aggV (refV x32)) 1)) [] false), (.str (strV (gt (aggV (refV x32)) 2))), (.int .i64 (intV (gt (aggV (refV x32)) 3))), (.int .i64 (intV (gt (aggV (refV x32)) 4))), (.slice (esV (gt (aggV (refV x32)) 5)) [] false), (.slice (esV (gt s24 17)) [] false), (.str (strV (gt s24 18))), (.str (strV (gt s24 19)))], [])) none)
    (some (.nrm, [(.str (strV (gt s24 0))), (.ptr 0 6 0), (.bool (boolV (gt s24 2))), (.ptr 0 8 0), (.int .i64 (IntKind.wrap .i64 ((intV (gt s24 4)) + 1))), (.int .i64 (intV (gt s24 5))), (.str (strV (gt s24 6))), (.slice (esV (gt s24 7)) [] false), (.slice (esV (gt s24 8)) [] false), (.slice (esV (gt s24 9)) [] false), (.slice (esV (gt s24 10)) [] false), (.str (strV (gt s24 11))), (.slice (esV (gt s24 12)) [] true), (.str (strV (gt s24 13))), (.int .i64 (intV (gt s24 14))), (.int .i64 (intV (gt s24 15))), (.slice (esV (gt s24 16)) [] true), (.slice (esV (gt s24 17)) [] false), (.str (strV (gt s24 18))), (.str (strV (gt s24 19)))], []))) none)
   (some (.brk 0, [(.str (strV (gt s24 0))), (.ptr 0 6 0), (.bool (boolV (gt s24 2))), (.ptr 0 8 0), (.int .i64 (intV (gt s24 4))), (.int .i64 (intV (gt s24 5))), (.str (strV (gt s24 6))), (.slice (esV (gt s24 7)) [] false), (.slice (esV (gt s24 8)) [] false), (.slice (esV (gt s24 9)) [] false), (.slice (esV (gt s24 10)) [] false), (.str (strV (gt s24 11))), (.slice (esV (gt s24 12)) [] true), (.str (strV (gt s24 13))), (.int .i64 (intV (gt s24 14))), (.int .i64 (intV (gt s24 15))), (.slice (esV (gt s24 16)) [] true), (.slice (esV (gt s24 17)) [] false), (.str (strV (gt s24 18))), (.str (strV (gt s24 19)))], []))) none) none
def seineref9_Field_l3 (O : Orc) (LP : LBody → LBody) : LBody := fun s45 s45u => cnd (chkL [.str, (.ptr 0 6 0), .bool, (.ptr 0 8 0), (.int .i64), (.int .i64), .str, (.sl false), (.sl false), (.sl false), (.sl false), .str, (.sl true), .str, (.int .i64), (.int .i64), (.sl true), (.sl false), .str, .str] s45) (cnd (chkU [] s45u)
  (cnd (decide ((intV (gt s45 4)) < (List.length (esV (gt s45 8)) : Int)))
   (bnd (ix 6 (.slice (esV (gt s45 8)) [] false) (.int .i64 (intV (gt s45 4)))) fun x51 => cnd (chk (.ref shFieldDef) x51)
   (cnd ((strV (gt (aggV (refV x51)) 0)) == (strV (gt s45 0)))
    (bnd (ix 6 (.slice (esV (gt s45 8)) [] false) (.int .i64 (intV (gt s45 4)))) fun x53 => cnd (chk (.ref shFieldDef) x53)
    (some (.ret, [(.str (strV (gt s45 0))), (.ptr 0 6 0), (.bool true), (.ptr 0 8 0), (.int .i64 (intV (gt s45 4))), (.int .i64 (intV (gt s45 5))), (.str (strV (gt s45 6))), (.slice (esV (gt s45 7)) [] false), (.slice (esV (gt s45 8)) [] false), (.slice (esV (gt s45 9)) [] false), (.slice (esV (gt s45 10)) [] false), (.str (strV (gt (aggV (refV x53)) 0))), (.slice (esV (gt (aggV (refV x53)) 1)) [] false), (.str (strV (gt (aggV (refV x53)) 2))), (.int .i64 (intV (gt (aggV (refV x53)) 3))), (.int .i64 (intV (gt (aggV (refV x53)) 4))), (.slice (esV (gt (aggV (refV x53)) 5)) [] false), (.slice (esV (gt s45 17)) [] false), (.str (strV (gt s45 18))), (.str (strV (gt s45 19)))], [])) none)
    (some (.nrm, [(.str (strV (gt s45 0))), (.ptr 0 6 0), (.bool (boolV (gt s45 2))), (.ptr 0 8 0), (.int .i64 (IntKind.wrap .i64 ((intV (gt s45 4)) + 1))), (.int .i64 (intV (gt s45 5))), (.str (strV (gt s45 6))), (.slice (esV (gt s45 7)) [] false), (.slice (esV (gt s45 8)) [] false), (.slice (esV (gt s45 9)) [] false), (.slice (esV (gt s45 10)) [] false), (.str (strV (gt s45 11))), (.slice (esV (gt s45 12)) [] true), (.str (strV (gt s45 13))), (.int .i64 (intV (gt s45 14))), (.int .i64 (intV (gt s45 15))), (.slice (esV (gt s45 16)) [] true), (.slice (esV (gt s45 17)) [] false), (.str (strV (gt s45 18))), (.str (strV (gt s45 19)))], []))) none)
   (some (.brk 0, [(.str (strV (gt s45 0))), (.ptr 0 6 0), (.bool (boolV (gt s45 2))), (.ptr 0 8 0), (.int .i64 (intV (gt s45 4))), (.int .i64 (intV (gt s45 5))), (.str (strV (gt s45 6))), (.slice (esV (gt s45 7)) [] false), (.slice (esV (gt s45 8)) [] false), (.slice (esV (gt s45 9)) [] false), (.slice (esV (gt s45 10)) [] false), (.str (strV (gt s45 11))), (.slice (esV (gt s45 12)) [] true), (.str (strV (gt s45 13))), (.int .i64 (intV (gt s45 14))), (.int .i64 (intV (gt s45 15))), (.slice (esV (gt s45 16)) [] true), (.slice (esV (gt s45 17)) [] false), (.str (strV (gt s45 18))), (.str (strV (gt s45 19)))], []))) none) none
def seineref9_Field_l4 (O : Orc) (LP : LBody → LBody) : LBody := fun s64 s64u => cnd (chkL [.str, (.ptr 0 6 0), .bool, (.ptr 0 8 0), (.int .i64), (.int .i64), .str, (.sl false), (.sl false), (.sl false), (.sl false), .str, (.sl true), .str, (.int .i64), (.int .i64), (.sl true), (.sl false), .str, .str] s64) (cnd (chkU [] s64u)
  (cnd (decide ((intV (gt s64 4)) < (List.length (esV (gt s64 8)) : Int)))
   (bnd (ix 6 (.slice (esV (gt s64 8)) [] false) (.int .i64 (intV (gt s64 4)))) fun x70 => cnd (chk (.ref shFieldDef) x70)
   (cnd ((strV (gt (aggV (refV x70)) 0)) == (strV (gt s64 0)))
    (bnd (ix 6 (.slice (esV (gt s64 8)) [] false) (.int .i64 (intV (gt s64 4)))) fun x72 => cnd (chk (.ref shFieldDef) x72)
    (some (.ret, [(.str (strV (gt s64 0))), (.ptr 0 6 0), (.bool true), (.ptr 0 8 0), (.int .i64 (intV (gt s64 4))), (.int .i64 (intV (gt s64 5))), (.str (strV (gt s64 6))), (.slice (esV (gt s64 7)) [] false), (.slice (esV (gt s64 8)) [] false), (.slice (esV (gt s64 9)) [] false), (.slice (esV (gt s64 10)) [] false), (.str (strV (gt (aggV (refV x72)) 0))), (.slice (esV (gt (aggV (refV x72)) 1)) [] false), (.str (strV (gt (aggV (refV x72)) 2))), (.int .i64 (intV (gt (aggV (refV x72)) 3))), (.int .i64 (intV (gt (aggV (refV x72)) 4))), (.slice (esV (gt (aggV (refV x72)) 5)) [] false), (.slice (esV (gt s64 17)) [] false), (.str (strV (gt s64 18))), (.str (strV (gt s64 19)))], [])) none)
    (some (.nrm, [(.str (strV (gt s64 0))), (.ptr 0 6 0), (.bool (boolV (gt s64 2))), (.ptr 0 8 0), (.int .i64 (IntKind.wrap .i64 ((intV (gt s64 4)) + 1))), (.int .i64 (intV (gt s64 5))), (.str (strV (gt s64 6))), (.slice (esV (gt s64 7)) [] false), (.slice (esV (gt s64 8)) [] false), (.slice (esV (gt s64 9)) [] false), (.slice (esV (gt s64 10)) [] false), (.str (strV (gt s64 11))), (.slice (esV (gt s64 12)) [] true), (.str (strV (gt s64 13))), (.int .i64 (intV (gt s64 14))), (.int .i64 (intV (gt s64 15))), (.slice (esV (gt s64 16)) [] true), (.slice (esV (gt s64 17)) [] false), (.str (strV (gt s64 18))), (.str (strV (gt s64 19)))], []))) none)
   (some (.brk 0, [(.str (strV (gt s64 0))), (.ptr 0 6 0), (.bool (boolV (gt s64 2))), (.ptr 0 8 0), (.int .i64 (intV (gt s64 4))), (.int .i64 (intV (gt s64 5))), (.str (strV (gt s64 6))), (.slice (esV (gt s64 7)) [] false), (.slice (esV (gt s64 8)) [] false), (.slice (esV (gt s64 9)) [] false), (.slice (esV (gt s64 10)) [] false), (.str (strV (gt s64 11))), (.slice (esV (gt s64 12)) [] true), (.str (strV (gt s64 13))), (.int .i64 (intV (gt s64 14))), (.int .i64 (intV (gt s64 15))), (.slice (esV (gt s64 16)) [] true), (.slice (esV (gt s64 17)) [] false), (.str (strV (gt s64 18))), (.str (strV (gt s64 19)))], []))) none) none
def seineref9_Field_T1 (O : Orc) (LP : LBody → LBody) (s : GSchema) (typ : Str) (name : Str) : Option (PV × UP) :=
  cnd (name == ([95, 95, 116, 121, 112, 101, 110, 97, 109, 101] : Str))
   (callp O 23 [(.agg [(.slice (List.map encDef s.defs) [] false), (.str s.query), (.str s.mutation)]), (.str typ)] fun x1 => cnd (chk .bool x1)
   (cnd (boolV x1)
    (some ((.tuple [(.agg [(.str name), (.slice [] [] false), (.str [83, 116, 114, 105, 110, 103]), (.int .i64 0), (.int .i64 1), (.slice [] [] false)]), (.bool true)]), []))
    (callp O 19 [(.agg [(.slice (List.map encDef s.defs) [] false), (.str s.query), (.str s.mutation)]), (.str typ)] fun x3 => cnd (chk (.tup [shDef, .bool]) x3)
    (cnd ((intV (gt (aggV (gt (tupV x3) 0)) 0)) != 1)
     (cnd ((intV (gt (aggV (gt (tupV x3) 0)) 0)) != 2)
      (some ((.tuple [(.agg [(.str []), (.slice [] [] false), (.str []), (.int .i64 0), (.int .i64 0), (.slice [] [] false)]), (.bool false)]), []))
      (bnd (LP (seineref9_Field_l1 O LP) [(.str name), (.ptr 0 6 0), (.bool false), (.ptr 0 8 0), (.int .i64 0), (.int .i64 (intV (gt (aggV (gt (tupV x3) 0)) 0))), (.str (strV (gt (aggV (gt (tupV x3) 0)) 1))), (.slice (esV (gt (aggV (gt (tupV x3) 0)) 2)) [] false), (.slice (esV (gt (aggV (gt (tupV x3) 0)) 3)) [] false), (.slice (esV (gt (aggV (gt (tupV x3) 0)) 4)) [] false), (.slice (esV (gt (aggV (gt (tupV x3) 0)) 5)) [] false), (.str []), (.slice [] [] true), (.str []), (.int .i64 0), (.int .i64 0), (.slice [] [] true), (.slice (List.map encDef s.defs) [] false), (.str s.query), (.str s.mutation)] []) fun y23 =>
      exIs y23.1 (some 0) (cnd (chkL [.str, (.ptr 0 6 0), .bool, (.ptr 0 8 0), (.int .i64), (.int .i64), .str, (.sl false), (.sl false), (.sl false), (.sl false), .str, (.sl true), .str, (.int .i64), (.int .i64), (.sl true), (.sl false), .str, .str] y23.2.1) (cnd (chkU [] y23.2.2)
       (some ((.tuple [(.agg [(.str []), (.slice [] [] false), (.str []), (.int .i64 0), (.int .i64 0), (.slice [] [] false)]), (.bool false)]), [])) none) none)
      (exIs y23.1 none (cnd (chkL [.str, (.ptr 0 6 0), .bool, (.ptr 0 8 0), (.int .i64), (.int .i64), .str, (.sl false), (.sl false), (.sl false), (.sl false), .str, (.sl false), .str, (.int .i64), (.int .i64), (.sl false), (.sl false), .str, .str] y23.2.1) (cnd (chkU [] y23.2.2)
       (some ((.tuple [(.agg [(.str (strV (gt y23.2.1 11))), (.slice (esV (gt y23.2.1 12)) [] false), (.str (strV (gt y23.2.1 13))), (.int .i64 (intV (gt y23.2.1 14))), (.int .i64 (intV (gt y23.2.1 15))), (.slice (esV (gt y23.2.1 16)) [] false)]), (.bool (boolV (gt y23.2.1 2)))]), [])) none) none)
      (none))))
     (bnd (LP (seineref9_Field_l2 O LP) [(.str name), (.ptr 0 6 0), (.bool false), (.ptr 0 8 0), (.int .i64 0), (.int .i64 (intV (gt (aggV (gt (tupV x3) 0)) 0))), (.str (strV (gt (aggV (gt (tupV x3) 0)) 1))), (.slice (esV (gt (aggV (gt (tupV x3) 0)) 2)) [] false), (.slice (esV (gt (aggV (gt (tupV x3) 0)) 3)) [] false), (.slice (esV (gt (aggV (gt (tupV x3) 0)) 4)) [] false), (.slice (esV (gt (aggV (gt (tupV x3) 0)) 5)) [] false), (.str []), (.slice [] [] true), (.str []), (.int .i64 0), (.int .i64 0), (.slice [] [] true), (.slice (List.map encDef s.defs) [] false), (.str s.query), (.str s.mutation)] []) fun y42 =>
     exIs y42.1 (some 0) (cnd (chkL [.str, (.ptr 0 6 0), .bool, (.ptr 0 8 0), (.int .i64), (.int .i64), .str, (.sl false), (.sl false), (.sl false), (.sl false), .str, (.sl true), .str, (.int .i64), (.int .i64), (.sl true), (.sl false), .str, .str] y42.2.1) (cnd (chkU [] y42.2.2)
      (some ((.tuple [(.agg [(.str []), (.slice [] [] false), (.str []), (.int .i64 0), (.int .i64 0), (.slice [] [] false)]), (.bool false)]), [])) none) none)
     (exIs y42.1 none (cnd (chkL [.str, (.ptr 0 6 0), .bool, (.ptr 0 8 0), (.int .i64), (.int .i64), .str, (.sl false), (.sl false), (.sl false), (.sl false), .str, (.sl false), .str, (.int .i64), (.int .i64), (.sl false), (.sl false), .str, .str] y42.2.1) (cnd (chkU [] y42.2.2)
      (some ((.tuple [(.agg [(.str (strV (gt y42.2.1 11))), (.slice (esV (gt y42.2.1 12)) [] false), (.str (strV (gt y42.2.1 13))), (.int .i64 (intV (gt y42.2.1 14))), (.int .i64 (intV (gt y42.2.1 15))), (.slice (esV (gt y42.2.1 16)) [] false)]), (.bool (boolV (gt y42.2.1 2)))]), [])) none) none)
     (none)))) none)) none)
   (callp O 19 [(.agg [(.slice (List.map encDef s.defs) [] false), (.str s.query), (.str s.mutation)]), (.str typ)] fun x43 => cnd (chk (.tup [shDef, .bool]) x43)
   (cnd ((intV (gt (aggV (gt (tupV x43) 0)) 0)) != 1)
    (cnd ((intV (gt (aggV (gt (tupV x43) 0)) 0)) != 2)
     (some ((.tuple [(.agg [(.str []), (.slice [] [] false), (.str []), (.int .i64 0), (.int .i64 0), (.slice [] [] false)]), (.bool false)]), []))
     (bnd (LP (seineref9_Field_l3 O LP) [(.str name), (.ptr 0 6 0), (.bool false), (.ptr 0 8 0), (.int .i64 0), (.int .i64 (intV (gt (aggV (gt (tupV x43) 0)) 0))), (.str (strV (gt (aggV (gt (tupV x43) 0)) 1))), (.slice (esV (gt (aggV (gt (tupV x43) 0)) 2)) [] false), (.slice (esV (gt (aggV (gt (tupV x43) 0)) 3)) [] false), (.slice (esV (gt (aggV (gt (tupV x43) 0)) 4)) [] false), (.slice (esV (gt (aggV (gt (tupV x43) 0)) 5)) [] false), (.str []), (.slice [] [] true), (.str []), (.int .i64 0), (.int .i64 0), (.slice [] [] true), (.slice (List.map encDef s.defs) [] false), (.str s.query), (.str s.mutation)] []) fun y63 =>
     exIs y63.1 (some 0) (cnd (chkL [.str, (.ptr 0 6 0), .bool, (.ptr 0 8 0), (.int .i64), (.int .i64), .str, (.sl false), (.sl false), (.sl false), (.sl false), .str, (.sl true), .str, (.int .i64), (.int .i64), (.sl true), (.sl false), .str, .str] y63.2.1) (cnd (chkU [] y63.2.2)
      (some ((.tuple [(.agg [(.str []), (.slice [] [] false), (.str []), (.int .i64 0), (.int .i64 0), (.slice [] [] false)]), (.bool false)]), [])) none) none)
     (exIs y63.1 none (cnd (chkL [.str, (.ptr 0 6 0), .bool, (.ptr 0 8 0), (.int .i64), (.int .i64), .str, (.sl false), (.sl false), (.sl false), (.sl false), .str, (.sl false), .str, (.int .i64), (.int .i64), (.sl false), (.sl false), .str, .str] y63.2.1) (cnd (chkU [] y63.2.2)
      (some ((.tuple [(.agg [(.str (strV (gt y63.2.1 11))), (.slice (esV (gt y63.2.1 12)) [] false), (.str (strV (gt y63.2.1 13))), (.int .i64 (intV (gt y63.2.1 14))), (.int .i64 (intV (gt y63.2.1 15))), (.slice (esV (gt y63.2.1 16)) [] false)]), (.bool (boolV (gt y63.2.1 2)))]), [])) none) none)
     (none))))
    (bnd (LP (seineref9_Field_l4 O LP) [(.str name), (.ptr 0 6 0), (.bool false), (.ptr 0 8 0), (.int .i64 0), (.int .i64 (intV (gt (aggV (gt (tupV x43) 0)) 0))), (.str (strV (gt (aggV (gt (tupV x43) 0)) 1))), (.slice (esV (gt (aggV (gt (tupV x43) 0)) 2)) [] false), (.slice (esV (gt (aggV (gt (tupV x43) 0)) 3)) [] false), (.slice (esV (gt (aggV (gt (tupV x43) 0)) 4)) [] false), (.slice (esV (gt (aggV (gt (tupV x43) 0)) 5)) [] false), (.str []), (.slice [] [] true), (.str []), (.int .i64 0), (.int .i64 0), (.slice [] [] true), (.slice (List.map encDef s.defs) [] false), (.str s.query), (.str s.mutation)] []) fun y82 =>
    exIs y82.1 (some 0) (cnd (chkL [.str, (.ptr 0 6 0), .bool, (.ptr 0 8 0), (.int .i64), (.int .i64), .str, (.sl false), (.sl false), (.sl false), (.sl false), .str, (.sl true), .str, (.int .i64), (.int .i64), (.sl true), (.sl false), .str, .str] y82.2.1) (cnd (chkU [] y82.2.2)
     (some ((.tuple [(.agg [(.str []), (.slice [] [] false), (.str []), (.int .i64 0), (.int .i64 0), (.slice [] [] false)]), (.bool false)]), [])) none) none)
    (exIs y82.1 none (cnd (chkL [.str, (.ptr 0 6 0), .bool, (.ptr 0 8 0), (.int .i64), (.int .i64), .str, (.sl false), (.sl false), (.sl false), (.sl false), .str, (.sl false), .str, (.int .i64), (.int .i64), (.sl false), (.sl false), .str, .str] y82.2.1) (cnd (chkU [] y82.2.2)
     (some ((.tuple [(.agg [(.str (strV (gt y82.2.1 11))), (.slice (esV (gt y82.2.1 12)) [] false), (.str (strV (gt y82.2.1 13))), (.int .i64 (intV (gt y82.2.1 14))), (.int .i64 (intV (gt y82.2.1 15))), (.slice (esV (gt y82.2.1 16)) [] false)]), (.bool (boolV (gt y82.2.1 2)))]), [])) none) none)
    (none)))) none)
noncomputable def seineref9_Field_l1T (name : Str) (y4 : GDef × Bool) : Int → Option (Int ⊕ (Unit ⊕ (Str × (List GParam) × Str × Int × Int × (List GDir))))
  | i_10 =>
  cnd (decide (i_10 < (List.length y4.1.fields : Int)))
   (bnd (nthI y4.1.fields i_10) fun y12 =>
   cnd (y12.name == name)
    (bnd (nthI y4.1.fields i_10) fun y14 =>
    some (.inr (.inr (y14.name, y14.params, y14.t.name, y14.t.lists, y14.t.musts, y14.dirs))))
    (some (.inl (IntKind.wrap .i64 (i_10 + 1)))))
   (some (.inr (.inl ())))
abbrev seineref9_Field_l1R (s : GSchema) (name : Str) (y4 : GDef × Bool) (st : Int) (l : List PV) (u : UP) : Prop := l = [(.str name), (.ptr 0 6 0), (.bool false), (.ptr 0 8 0), (.int .i64 st), (.int .i64 y4.1.kind), (.str y4.1.name), (.slice (List.map PV.str y4.1.faces) [] false), (.slice (List.map encFieldDef y4.1.fields) [] false), (.slice (List.map PV.str y4.1.parts) [] false), (.slice (List.map encParam y4.1.params) [] false), (.str []), (.slice [] [] true), (.str []), (.int .i64 0), (.int .i64 0), (.slice [] [] true), (.slice (List.map encDef s.defs) [] false), (.str s.query), (.str s.mutation)] ∧ u = []
abbrev seineref9_Field_l1X (s : GSchema) (name : Str) (y4 : GDef × Bool) (p : Unit ⊕ (Str × (List GParam) × Str × Int × Int × (List GDir))) (r : Ex × List PV × UP) : Prop := elim p (fun (p : Unit) => ∃ (i_15 : Int), r = (Ex.brk 0, [(.str name), (.ptr 0 6 0), (.bool false), (.ptr 0 8 0), (.int .i64 i_15), (.int .i64 y4.1.kind), (.str y4.1.name), (.slice (List.map PV.str y4.1.faces) [] false), (.slice (List.map encFieldDef y4.1.fields) [] false), (.slice (List.map PV.str y4.1.parts) [] false), (.slice (List.map encParam y4.1.params) [] false), (.str []), (.slice [] [] true), (.str []), (.int .i64 0), (.int .i64 0), (.slice [] [] true), (.slice (List.map encDef s.defs) [] false), (.str s.query), (.str s.mutation)], [])) (fun q2 => (fun (p : Str × (List GParam) × Str × Int × Int × (List GDir)) => ∃ (i_16 : Int), r = (Ex.ret, [(.str name), (.ptr 0 6 0), (.bool true), (.ptr 0 8 0), (.int .i64 i_16), (.int .i64 y4.1.kind), (.str y4.1.name), (.slice (List.map PV.str y4.1.faces) [] false), (.slice (List.map encFieldDef y4.1.fields) [] false), (.slice (List.map PV.str y4.1.parts) [] false), (.slice (List.map encParam y4.1.params) [] false), (.str p.1), (.slice (List.map encParam p.2.1) [] false), (.str p.2.2.1), (.int .i64 p.2.2.2.1), (.int .i64 p.2.2.2.2.1), (.slice (List.map encDir p.2.2.2.2.2) [] false), (.slice (List.map encDef s.defs) [] false), (.str s.query), (.str s.mutation)], [])) q2)
noncomputable def seineref9_Field_l2T (name : Str) (y4 : GDef × Bool) : Int → Option (Int ⊕ (Unit ⊕ (Str × (List GParam) × Str × Int × Int × (List GDir))))
  | i_29 =>
  cnd (decide (i_29 < (List.length y4.1.fields : Int)))
   (bnd (nthI y4.1.fields i_29) fun y31 =>
   cnd (y31.name == name)
    (bnd (nthI y4.1.fields i_29) fun y33 =>
    some (.inr (.inr (y33.name, y33.params, y33.t.name, y33.t.lists, y33.t.musts, y33.dirs))))
    (some (.inl (IntKind.wrap .i64 (i_29 + 1)))))
   (some (.inr (.inl ())))
abbrev seineref9_Field_l2R (s : GSchema) (name : Str) (y4 : GDef × Bool) (st : Int) (l : List PV) (u : UP) : Prop := l = [(.str name), (.ptr 0 6 0), (.bool false), (.ptr 0 8 0), (.int .i64 st), (.int .i64 y4.1.kind), (.str y4.1.name), (.slice (List.map PV.str y4.1.faces) [] false), (.slice (List.map encFieldDef y4.1.fields) [] false), (.slice (List.map PV.str y4.1.parts) [] false), (.slice (List.map encParam y4.1.params) [] false), (.str []), (.slice [] [] true), (.str []), (.int .i64 0), (.int .i64 0), (.slice [] [] true), (.slice (List.map encDef s.defs) [] false), (.str s.query), (.str s.mutation)] ∧ u = []
abbrev seineref9_Field_l2X (s : GSchema) (name : Str) (y4 : GDef × Bool) (p : Unit ⊕ (Str × (List GParam) × Str × Int × Int × (List GDir))) (r : Ex × List PV × UP) : Prop := elim p (fun (p : Unit) => ∃ (i_34 : Int), r = (Ex.brk 0, [(.str name), (.ptr 0 6 0), (.bool false), (.ptr 0 8 0), (.int .i64 i_34), (.int .i64 y4.1.kind), (.str y4.1.name), (.slice (List.map PV.str y4.1.faces) [] false), (.slice (List.map encFieldDef y4.1.fields) [] false), (.slice (List.map PV.str y4.1.parts) [] false), (.slice (List.map encParam y4.1.params) [] false), (.str []), (.slice [] [] true), (.str []), (.int .i64 0), (.int .i64 0), (.slice [] [] true), (.slice (List.map encDef s.defs) [] false), (.str s.query), (.str s.mutation)], [])) (fun q2 => (fun (p : Str × (List GParam) × Str × Int × Int × (List GDir)) => ∃ (i_35 : Int), r = (Ex.ret, [(.str name), (.ptr 0 6 0), (.bool true), (.ptr 0 8 0), (.int .i64 i_35), (.int .i64 y4.1.kind), (.str y4.1.name), (.slice (List.map PV.str y4.1.faces) [] false), (.slice (List.map encFieldDef y4.1.fields) [] false), (.slice (List.map PV.str y4.1.parts) [] false), (.slice (List.map encParam y4.1.params) [] false), (.str p.1), (.slice (List.map encParam p.2.1) [] false), (.str p.2.2.1), (.int .i64 p.2.2.2.1), (.int .i64 p.2.2.2.2.1), (.slice (List.map encDir p.2.2.2.2.2) [] false), (.slice (List.map encDef s.defs) [] false), (.str s.query), (.str s.mutation)], [])) q2)
noncomputable def seineref9_Field_l3T (name : Str) (y44 : GDef × Bool) : Int → Option (Int ⊕ (Unit ⊕ (Str × (List GParam) × Str × Int × Int × (List GDir))))
  | i_50 =>
  cnd (decide (i_50 < (List.length y44.1.fields : Int)))
   (bnd (nthI y44.1.fields i_50) fun y52 =>
   cnd (y52.name == name)
    (bnd (nthI y44.1.fields i_50) fun y54 =>
    some (.inr (.inr (y54.name, y54.params, y54.t.name, y54.t.lists, y54.t.musts, y54.dirs))))
    (some (.inl (IntKind.wrap .i64 (i_50 + 1)))))
   (some (.inr (.inl ())))
abbrev seineref9_Field_l3R (s : GSchema) (name : Str) (y44 : GDef × Bool) (st : Int) (l : List PV) (u : UP) : Prop := l = [(.str name), (.ptr 0 6 0), (.bool false), (.ptr 0 8 0), (.int .i64 st), (.int .i64 y44.1.kind), (.str y44.1.name), (.slice (List.map PV.str y44.1.faces) [] false), (.slice (List.map encFieldDef y44.1.fields) [] false), (.slice (List.map PV.str y44.1.parts) [] false), (.slice (List.map encParam y44.1.params) [] false), (.str []), (.slice [] [] true), (.str []), (.int .i64 0), (.int .i64 0), (.slice [] [] true), (.slice (List.map encDef s.defs) [] false), (.str s.query), (.str s.mutation)] ∧ u = []
abbrev seineref9_Field_l3X (s : GSchema) (name : Str) (y44 : GDef × Bool) (p : Unit ⊕ (Str × (List GParam) × Str × Int × Int × (List GDir))) (r : Ex × List PV × UP) : Prop := elim p (fun (p : Unit) => ∃ (i_55 : Int), r = (Ex.brk 0, [(.str name), (.ptr 0 6 0), (.bool false), (.ptr 0 8 0), (.int .i64 i_55), (.int .i64 y44.1.kind), (.str y44.1.name), (.slice (List.map PV.str y44.1.faces) [] false), (.slice (List.map encFieldDef y44.1.fields) [] false), (.slice (List.map PV.str y44.1.parts) [] false), (.slice (List.map encParam y44.1.params) [] false), (.str []), (.slice [] [] true), (.str []), (.int .i64 0), (.int .i64 0), (.slice [] [] true), (.slice (List.map encDef s.defs) [] false), (.str s.query), (.str s.mutation)], [])) (fun q2 => (fun (p : Str × (List GParam) × Str × Int × Int × (List GDir)) => ∃ (i_56 : Int), r = (Ex.ret, [(.str name), (.ptr 0 6 0), (.bool true), (.ptr 0 8 0), (.int .i64 i_56), (.int .i64 y44.1.kind), (.str y44.1.name), (.slice (List.map PV.str y44.1.faces) [] false), (.slice (List.map encFieldDef y44.1.fields) [] false), (.slice (List.map PV.str y44.1.parts) [] false), (.slice (List.map encParam y44.1.params) [] false), (.str p.1), (.slice (List.map encParam p.2.1) [] false), (.str p.2.2.1), (.int .i64 p.2.2.2.1), (.int .i64 p.2.2.2.2.1), (.slice (List.map encDir p.2.2.2.2.2) [] false), (.slice (List.map encDef s.defs) [] false), (.str s.query), (.str s.mutation)], [])) q2)
noncomputable def seineref9_Field_l4T (name : Str) (y44 : GDef × Bool) : Int → Option (Int ⊕ (Unit ⊕ (Str × (List GParam) × Str × Int × Int × (List GDir))))
  | i_69 =>
  cnd (decide (i_69 < (List.length y44.1.fields : Int)))
   (bnd (nthI y44.1.fields i_69) fun y71 =>
   cnd (y71.name == name)
    (bnd (nthI y44.1.fields i_69) fun y73 =>
    some (.inr (.inr (y73.name, y73.params, y73.t.name, y73.t.lists, y73.t.musts, y73.dirs))))
    (some (.inl (IntKind.wrap .i64 (i_69 + 1)))))
   (some (.inr (.inl ())))
abbrev seineref9_Field_l4R (s : GSchema) (name : Str) (y44 : GDef × Bool) (st : Int) (l : List PV) (u : UP) : Prop := l = [(.str name), (.ptr 0 6 0), (.bool false), (.ptr 0 8 0), (.int .i64 st), (.int .i64 y44.1.kind), (.str y44.1.name), (.slice (List.map PV.str y44.1.faces) [] false), (.slice (List.map encFieldDef y44.1.fields) [] false), (.slice (List.map PV.str y44.1.parts) [] false), (.slice (List.map encParam y44.1.params) [] false), (.str []), (.slice [] [] true), (.str []), (.int .i64 0), (.int .i64 0), (.slice [] [] true), (.slice (List.map encDef s.defs) [] false), (.str s.query), (.str s.mutation)] ∧ u = []
abbrev seineref9_Field_l4X (s : GSchema) (name : Str) (y44 : GDef × Bool) (p : Unit ⊕ (Str × (List GParam) × Str × Int × Int × (List GDir))) (r : Ex × List PV × UP) : Prop := elim p (fun (p : Unit) => ∃ (i_74 : Int), r = (Ex.brk 0, [(.str name), (.ptr 0 6 0), (.bool false), (.ptr 0 8 0), (.int .i64 i_74), (.int .i64 y44.1.kind), (.str y44.1.name), (.slice (List.map PV.str y44.1.faces) [] false), (.slice (List.map encFieldDef y44.1.fields) [] false), (.slice (List.map PV.str y44.1.parts) [] false), (.slice (List.map encParam y44.1.params) [] false), (.str []), (.slice [] [] true), (.str []), (.int .i64 0), (.int .i64 0), (.slice [] [] true), (.slice (List.map encDef s.defs) [] false), (.str s.query), (.str s.mutation)], [])) (fun q2 => (fun (p : Str × (List GParam) × Str × Int × Int × (List GDir)) => ∃ (i_75 : Int), r = (Ex.ret, [(.str name), (.ptr 0 6 0), (.bool true), (.ptr 0 8 0), (.int .i64 i_75), (.int .i64 y44.1.kind), (.str y44.1.name), (.slice (List.map PV.str y44.1.faces) [] false), (.slice (List.map encFieldDef y44.1.fields) [] false), (.slice (List.map PV.str y44.1.parts) [] false), (.slice (List.map encParam y44.1.params) [] false), (.str p.1), (.slice (List.map encParam p.2.1) [] false), (.str p.2.2.1), (.int .i64 p.2.2.2.1), (.int .i64 p.2.2.2.2.1), (.slice (List.map encDir p.2.2.2.2.2) [] false), (.slice (List.map encDef s.defs) [] false), (.str s.query), (.str s.mutation)], [])) q2)
noncomputable def seineref9_Field_B (s : GSchema) (typ : Str) (name : Str) : Option (GFieldDef × Bool) :=
  cnd (name == ([95, 95, 116, 121, 112, 101, 110, 97, 109, 101] : Str))
   (bnd (seineref9_Composite s typ) fun y2 =>
   cnd y2
    (some ((GFieldDef.mk name ([] : List GParam) (GType.mk [83, 116, 114, 105, 110, 103] 0 1) ([] : List GDir)), true))
    (bnd (seineref9_Find s typ) fun y4 =>
    cnd (y4.1.kind != 1)
     (cnd (y4.1.kind != 2)
      (some ((GFieldDef.mk [] ([] : List GParam) (GType.mk [] 0 0) ([] : List GDir)), false))
      (bnd (tloop (seineref9_Field_l1T name y4) 0) fun e23_2 => elim e23_2
      (fun p23 =>
       some ((GFieldDef.mk [] ([] : List GParam) (GType.mk [] 0 0) ([] : List GDir)), false))
      (fun p23 =>
      some ((GFieldDef.mk p23.1 p23.2.1 (GType.mk p23.2.2.1 p23.2.2.2.1 p23.2.2.2.2.1) p23.2.2.2.2.2), true))))
     (bnd (tloop (seineref9_Field_l2T name y4) 0) fun e42_2 => elim e42_2
     (fun p42 =>
      some ((GFieldDef.mk [] ([] : List GParam) (GType.mk [] 0 0) ([] : List GDir)), false))
     (fun p42 =>
     some ((GFieldDef.mk p42.1 p42.2.1 (GType.mk p42.2.2.1 p42.2.2.2.1 p42.2.2.2.2.1) p42.2.2.2.2.2), true)))))
   (bnd (seineref9_Find s typ) fun y44 =>
   cnd (y44.1.kind != 1)
    (cnd (y44.1.kind != 2)
     (some ((GFieldDef.mk [] ([] : List GParam) (GType.mk [] 0 0) ([] : List GDir)), false))
     (bnd (tloop (seineref9_Field_l3T name y44) 0) fun e63_2 => elim e63_2
     (fun p63 =>
      some ((GFieldDef.mk [] ([] : List GParam) (GType.mk [] 0 0) ([] : List GDir)), false))
     (fun p63 =>
     some ((GFieldDef.mk p63.1 p63.2.1 (GType.mk p63.2.2.1 p63.2.2.2.1 p63.2.2.2.2.1) p63.2.2.2.2.2), true))))
    (bnd (tloop (seineref9_Field_l4T name y44) 0) fun e82_2 => elim e82_2
    (fun p82 =>
     some ((GFieldDef.mk [] ([] : List GParam) (GType.mk [] 0 0) ([] : List GDir)), false))
    (fun p82 =>
    some ((GFieldDef.mk p82.1 p82.2.1 (GType.mk p82.2.2.1 p82.2.2.2.1 p82.2.2.2.2.1) p82.2.2.2.2.2), true))))
def seineref9_Field_ds : Decs := { decs := [(16, .bool), (24, (.tup [shDef, .bool])), (46, (.ref shFieldDef)), (54, (.ref shFieldDef))], ups := [], loops := [(7, ⟨[.str, (.ptr 0 6 0), .bool, (.ptr 0 8 0), (.int .i64), (.int .i64), .str, (.sl false), (.sl false), (.sl false), (.sl false), .str, (.sl true), .str, (.int .i64), (.int .i64), (.sl true), (.sl false), .str, .str], [], [(some 0, [.str, (.ptr 0 6 0), .bool, (.ptr 0 8 0), (.int .i64), (.int .i64), .str, (.sl false), (.sl false), (.sl false), (.sl false), .str, (.sl true), .str, (.int .i64), (.int .i64), (.sl true), (.sl false), .str, .str], []), (none, [.str, (.ptr 0 6 0), .bool, (.ptr 0 8 0), (.int .i64), (.int .i64), .str, (.sl false), (.sl false), (.sl false), (.sl false), .str, (.sl false), .str, (.int .i64), (.int .i64), (.sl false), (.sl false), .str, .str], [])]⟩)] }
set_option maxRecDepth 100000 in
theorem seineref9_Field_t1 (O : Orc) (LP : LBody → LBody) (s : GSchema) (typ : Str) (name : Str) : evalBodyD Try.prog (MT 11) seineref9_Field_ds Try.f11.ntmps O LP Try.f11 [(.agg [(.slice (List.map encDef s.defs) [] false), (.str s.query), (.str s.mutation)]), (.str typ), (.str name)] [] = seineref9_Field_T1 O LP s typ name := by kernel_rfl
theorem seineref9_Field_l1_ok (s : GSchema) (name : Str) (y4 : GDef × Bool) : ∀ st l u, seineref9_Field_l1R s name y4 st l u → Imp (seineref9_Field_l1T name y4 st) (seineref9_Field_l1 O loopLim l u) (StepR (seineref9_Field_l1R s name y4) (seineref9_Field_l1X s name y4)) := by
  rintro i_10 l u ⟨rfl, rfl⟩
  simp only [seineref9_Field_l1T, seineref9_Field_l1]
  refine Imp.chk rfl (Imp.chk rfl ?_)
  try simp only [evs, tys]
  refine Imp.cnd ?_ ?_
  · refine Imp.op (f := fun a => .ref (encFieldDef a)) (fun a h => op_ix (enc := encFieldDef) (by first | rfl | simp only [evs, tys, evl]) ⟨by first | rfl | simp only [evs, tys, evc], by decide⟩ h) (fun a => chk_GFieldDef a) fun y12 hy12 => ?_
    try simp only [evs, tys]
    refine Imp.cnd ?_ ?_
    · refine Imp.op (f := fun a => .ref (encFieldDef a)) (fun a h => op_ix (enc := encFieldDef) (by first | rfl | simp only [evs, tys, evl]) ⟨by first | rfl | simp only [evs, tys, evc], by decide⟩ h) (fun a => chk_GFieldDef a) fun y14 hy14 => ?_
      try simp only [evs, tys]
      exact Imp.some (StepR.ret ⟨i_10, by first | rfl | simp only [evs, tys, evl, elim_inl, elim_inr]⟩)
    · exact Imp.some (StepR.next ⟨by first | rfl | simp only [evs, tys, evl], rfl⟩)
  · exact Imp.some (StepR.brk ⟨i_10, by first | rfl | simp only [evs, tys, evl, elim_inl, elim_inr]⟩)
theorem seineref9_Field_l2_ok (s : GSchema) (name : Str) (y4 : GDef × Bool) : ∀ st l u, seineref9_Field_l2R s name y4 st l u → Imp (seineref9_Field_l2T name y4 st) (seineref9_Field_l2 O loopLim l u) (StepR (seineref9_Field_l2R s name y4) (seineref9_Field_l2X s name y4)) := by
  rintro i_29 l u ⟨rfl, rfl⟩
  simp only [seineref9_Field_l2T, seineref9_Field_l2]
  refine Imp.chk rfl (Imp.chk rfl ?_)
  try simp only [evs, tys]
  refine Imp.cnd ?_ ?_
  · refine Imp.op (f := fun a => .ref (encFieldDef a)) (fun a h => op_ix (enc := encFieldDef) (by first | rfl | simp only [evs, tys, evl]) ⟨by first | rfl | simp only [evs, tys, evc], by decide⟩ h) (fun a => chk_GFieldDef a) fun y31 hy31 => ?_
    try simp only [evs, tys]
    refine Imp.cnd ?_ ?_
    · refine Imp.op (f := fun a => .ref (encFieldDef a)) (fun a h => op_ix (enc := encFieldDef) (by first | rfl | simp only [evs, tys, evl]) ⟨by first | rfl | simp only [evs, tys, evc], by decide⟩ h) (fun a => chk_GFieldDef a) fun y33 hy33 => ?_
      try simp only [evs, tys]
      exact Imp.some (StepR.ret ⟨i_29, by first | rfl | simp only [evs, tys, evl, elim_inl, elim_inr]⟩)
    · exact Imp.some (StepR.next ⟨by first | rfl | simp only [evs, tys, evl], rfl⟩)
  · exact Imp.some (StepR.brk ⟨i_29, by first | rfl | simp only [evs, tys, evl, elim_inl, elim_inr]⟩)
theorem seineref9_Field_l3_ok (s : GSchema) (name : Str) (y44 : GDef × Bool) : ∀ st l u, seineref9_Field_l3R s name y44 st l u → Imp (seineref9_Field_l3T name y44 st) (seineref9_Field_l3 O loopLim l u) (StepR (seineref9_Field_l3R s name y44) (seineref9_Field_l3X s name y44)) := by
  rintro i_50 l u ⟨rfl, rfl⟩
  simp only [seineref9_Field_l3T, seineref9_Field_l3]
  refine Imp.chk rfl (Imp.chk rfl ?_)
  try simp only [evs, tys]
  refine Imp.cnd ?_ ?_
  · refine Imp.op (f := fun a => .ref (encFieldDef a)) (fun a h => op_ix (enc := encFieldDef) (by first | rfl | simp only [evs, tys, evl]) ⟨by first | rfl | simp only [evs, tys, evc], by decide⟩ h) (fun a => chk_GFieldDef a) fun y52 hy52 => ?_
    try simp only [evs, tys]
    refine Imp.cnd ?_ ?_
    · refine Imp.op (f := fun a => .ref (encFieldDef a)) (fun a h => op_ix (enc := encFieldDef) (by first | rfl | simp only [evs, tys, evl]) ⟨by first | rfl | simp only [evs, tys, evc], by decide⟩ h) (fun a => chk_GFieldDef a) fun y54 hy54 => ?_
      try simp only [evs, tys]
      exact Imp.some (StepR.ret ⟨i_50, by first | rfl | simp only [evs, tys, evl, elim_inl, elim_inr]⟩)
    · exact Imp.some (StepR.next ⟨by first | rfl | simp only [evs, tys, evl], rfl⟩)
  · exact Imp.some (StepR.brk ⟨i_50, by first | rfl | simp only [evs, tys, evl, elim_inl, elim_inr]⟩)
theorem seineref9_Field_l4_ok (s : GSchema) (name : Str) (y44 : GDef × Bool) : ∀ st l u, seineref9_Field_l4R s name y44 st l u → Imp (seineref9_Field_l4T name y44 st) (seineref9_Field_l4 O loopLim l u) (StepR (seineref9_Field_l4R s name y44) (seineref9_Field_l4X s name y44)) := by
  rintro i_69 l u ⟨rfl, rfl⟩
  simp only [seineref9_Field_l4T, seineref9_Field_l4]
  refine Imp.chk rfl (Imp.chk rfl ?_)
  try simp only [evs, tys]
  refine Imp.cnd ?_ ?_
  · refine Imp.op (f := fun a => .ref (encFieldDef a)) (fun a h => op_ix (enc := encFieldDef) (by first | rfl | simp only [evs, tys, evl]) ⟨by first | rfl | simp only [evs, tys, evc], by decide⟩ h) (fun a => chk_GFieldDef a) fun y71 hy71 => ?_
    try simp only [evs, tys]
    refine Imp.cnd ?_ ?_
    · refine Imp.op (f := fun a => .ref (encFieldDef a)) (fun a h => op_ix (enc := encFieldDef) (by first | rfl | simp only [evs, tys, evl]) ⟨by first | rfl | simp only [evs, tys, evc], by decide⟩ h) (fun a => chk_GFieldDef a) fun y73 hy73 => ?_
      try simp only [evs, tys]
      exact Imp.some (StepR.ret ⟨i_69, by first | rfl | simp only [evs, tys, evl, elim_inl, elim_inr]⟩)
    · exact Imp.some (StepR.next ⟨by first | rfl | simp only [evs, tys, evl], rfl⟩)
  · exact Imp.some (StepR.brk ⟨i_69, by first | rfl | simp only [evs, tys, evl, elim_inl, elim_inr]⟩)
theorem seineref9_Field_imp (s : GSchema) (typ : Str) (name : Str) : Imp (seineref9_Field_B s typ name) (seineref9_Field_T1 O loopLim s typ name) (fun r v => v = (seineref9_FieldE r, [])) := by
  simp only [seineref9_Field_B, seineref9_Field_T1]
  try simp only [evs, tys]
  refine Imp.cnd ?_ ?_
  · refine Imp.call (f := seineref9_CompositeE) rfl (fun a h => by first | exact seineref9_Composite_spec h | simpa only [evs, tys, evl] using seineref9_Composite_spec h) (fun a => by first | rfl | simp only [seineref9_CompositeE, evk, chks]) fun y2 hy2 => ?_
    try simp only [seineref9_CompositeE, evs, tys]
    refine Imp.cnd ?_ ?_
    · exact Imp.some (by first | rfl | simp only [seineref9_FieldE, evs, tys, evl])
    · refine Imp.call (f := seineref9_FindE) rfl (fun a h => by first | exact seineref9_Find_spec h | simpa only [evs, tys, evl] using seineref9_Find_spec h) (fun a => by first | rfl | simp only [seineref9_FindE, evk, chks]) fun y4 hy4 => ?_
      try simp only [seineref9_FindE, evs, tys]
      refine Imp.cnd ?_ ?_
      · refine Imp.cnd ?_ ?_
        · exact Imp.some (by first | rfl | simp only [seineref9_FieldE, evs, tys, evl])
        · refine Imp.bnd (Imp.loop (seineref9_Field_l1_ok s name y4) ⟨by first | rfl | simp only [evs, tys, evl], rfl⟩) ?_
          rintro (p | ⟨b_17, b_18, b_19, b_20, b_21, b_22⟩) vy23 hy23
          · try simp only [elim_inl, elim_inr]
            obtain ⟨i_15, rfl⟩ := hy23
            refine Imp.exHit rfl (Imp.chk rfl (Imp.chk rfl ?_))
            try simp only [evs, tys]
            exact Imp.some (by first | rfl | simp only [seineref9_FieldE, evs, tys, evl])
          · try simp only [elim_inl, elim_inr]
            obtain ⟨i_16, rfl⟩ := hy23
            refine Imp.exMiss rfl ?_
            refine Imp.exHit rfl (Imp.chk rfl (Imp.chk rfl ?_))
            try simp only [evs, tys]
            exact Imp.some (by first | rfl | simp only [seineref9_FieldE, evs, tys, evl])
      · refine Imp.bnd (Imp.loop (seineref9_Field_l2_ok s name y4) ⟨by first | rfl | simp only [evs, tys, evl], rfl⟩) ?_
        rintro (p | ⟨b_36, b_37, b_38, b_39, b_40, b_41⟩) vy42 hy42
        · try simp only [elim_inl, elim_inr]
          obtain ⟨i_34, rfl⟩ := hy42
          refine Imp.exHit rfl (Imp.chk rfl (Imp.chk rfl ?_))
          try simp only [evs, tys]
          exact Imp.some (by first | rfl | simp only [seineref9_FieldE, evs, tys, evl])
        · try simp only [elim_inl, elim_inr]
          obtain ⟨i_35, rfl⟩ := hy42
          refine Imp.exMiss rfl ?_
          refine Imp.exHit rfl (Imp.chk rfl (Imp.chk rfl ?_))
          try simp only [evs, tys]
          exact Imp.some (by first | rfl | simp only [seineref9_FieldE, evs, tys, evl])
  · refine Imp.call (f := seineref9_FindE) rfl (fun a h => by first | exact seineref9_Find_spec h | simpa only [evs, tys, evl] using seineref9_Find_spec h) (fun a => by first | rfl | simp only [seineref9_FindE, evk, chks]) fun y44 hy44 => ?_
    try simp only [seineref9_FindE, evs, tys]
    refine Imp.cnd ?_ ?_
    · refine Imp.cnd ?_ ?_
      · exact Imp.some (by first | rfl | simp only [seineref9_FieldE, evs, tys, evl])
      · refine Imp.bnd (Imp.loop (seineref9_Field_l3_ok s name y44) ⟨by first | rfl | simp only [evs, tys, evl], rfl⟩) ?_
        rintro (p | ⟨b_57, b_58, b_59, b_60, b_61, b_62⟩) vy63 hy63
        · try simp only [elim_inl, elim_inr]
          obtain ⟨i_55, rfl⟩ := hy63
          refine Imp.exHit rfl (Imp.chk rfl (Imp.chk rfl ?_))
          try simp only [evs, tys]
          exact Imp.some (by first | rfl | simp only [seineref9_FieldE, evs, tys, evl])
        · try simp only [elim_inl, elim_inr]
          obtain ⟨i_56, rfl⟩ := hy63
          refine Imp.exMiss rfl ?_
          refine Imp.exHit rfl (Imp.chk rfl (Imp.chk rfl ?_))
          try simp only [evs, tys]
          exact Imp.some (by first | rfl | simp only [seineref9_FieldE, evs, tys, evl])
    · refine Imp.bnd (Imp.loop (seineref9_Field_l4_ok s name y44) ⟨by first | rfl | simp only [evs, tys, evl], rfl⟩) ?_
      rintro (p | ⟨b_76, b_77, b_78, b_79, b_80, b_81⟩) vy82 hy82
      · try simp only [elim_inl, elim_inr]
        obtain ⟨i_74, rfl⟩ := hy82
        refine Imp.exHit rfl (Imp.chk rfl (Imp.chk rfl ?_))
        try simp only [evs, tys]
        exact Imp.some (by first | rfl | simp only [seineref9_FieldE, evs, tys, evl])
      · try simp only [elim_inl, elim_inr]
        obtain ⟨i_75, rfl⟩ := hy82
        refine Imp.exMiss rfl ?_
        refine Imp.exHit rfl (Imp.chk rfl (Imp.chk rfl ?_))
        try simp only [evs, tys]
        exact Imp.some (by first | rfl | simp only [seineref9_FieldE, evs, tys, evl])
theorem seineref9_Field_run {s : GSchema} {typ : Str} {name : Str} {r : GFieldDef × Bool} (h : seineref9_Field_B s typ name = some r) : seineref9_Field s typ name = some r := by
  obtain ⟨v, hv, rfl⟩ := seineref9_Field_imp s typ name r h
  exact tO_of (pair_inj seineref9_FieldEj) (OL_runD seineref9_Field_ds rfl Try.func11 ((seineref9_Field_t1 _ _ s typ name).trans hv))
end Go.Proofs.Ytigiafabnidggaa

/- Printed by symgen.py: typed functions of this seat, and why they tell what the program does. -/
set_option linter.unusedVariables false
set_option linter.unusedSimpArgs false
open Go Go.Ev Go.Ev.PV
namespace Go.Proofs.Ytigiafabnidggaa
def seineref6_SameField_T1 (O : Orc) (LP : LBody → LBody) (a : GFieldDef) (b : GFieldDef) : Option (PV × UP) :=
  cnd (a.name == b.name)
   (cnd ((a.t.name == b.t.name) && ((a.t.lists == b.t.lists) && ((a.t.musts == b.t.musts) && true)))
    (callp O 34 [(.slice (List.map encParam a.params) [] false), (.slice (List.map encParam b.params) [] false)] fun x1 => cnd (chk .bool x1)
    (cnd (boolV x1)
     (callp O 35 [(.slice (List.map encDir a.dirs) [] false), (.slice (List.map encDir b.dirs) [] false)] fun x3 => cnd (chk .bool x3)
     (some ((.bool (boolV x3)), [])) none)
     (some ((.bool false), []))) none)
    (some ((.bool false), [])))
   (some ((.bool false), []))
noncomputable def seineref6_SameField_B (a : GFieldDef) (b : GFieldDef) : Option Bool :=
  cnd (a.name == b.name)
   (cnd ((a.t.name == b.t.name) && ((a.t.lists == b.t.lists) && ((a.t.musts == b.t.musts) && true)))
    (bnd (seineref6_SameParams a.params b.params) fun y2 =>
    cnd y2
     (bnd (seineref6_SameDirs a.dirs b.dirs) fun y4 =>
     some y4)
     (some false))
    (some false))
   (some false)
def seineref6_SameField_ds : Decs := { decs := [(22, .bool), (29, .bool)], ups := [], loops := [] }
set_option maxRecDepth 100000 in
theorem seineref6_SameField_t1 (O : Orc) (LP : LBody → LBody) (a : GFieldDef) (b : GFieldDef) : evalBodyD Try.prog (MT 12) seineref6_SameField_ds Try.f12.ntmps O LP Try.f12 [(.agg [(.str a.name), (.slice (List.map encParam a.params) [] false), (.str a.t.name), (.int .i64 a.t.lists), (.int .i64 a.t.musts), (.slice (List.map encDir a.dirs) [] false)]), (.agg [(.str b.name), (.slice (List.map encParam b.params) [] false), (.str b.t.name), (.int .i64 b.t.lists), (.int .i64 b.t.musts), (.slice (List.map encDir b.dirs) [] false)])] [] = seineref6_SameField_T1 O LP a b := by kernel_rfl
theorem seineref6_SameField_imp (a : GFieldDef) (b : GFieldDef) : Imp (seineref6_SameField_B a b) (seineref6_SameField_T1 O loopLim a b) (fun r v => v = (seineref6_SameFieldE r, [])) := by
  simp only [seineref6_SameField_B, seineref6_SameField_T1]
  try simp only [evs, tys]
  refine Imp.cnd ?_ ?_
  · refine Imp.cnd ?_ ?_
    · refine Imp.call (f := seineref6_SameParamsE) rfl (fun a h => by first | exact seineref6_SameParams_spec h | simpa only [evs, tys, evl] using seineref6_SameParams_spec h) (fun a => by first | rfl | simp only [seineref6_SameParamsE, evk, chks]) fun y2 hy2 => ?_
      try simp only [seineref6_SameParamsE, evs, tys]
      refine Imp.cnd ?_ ?_
      · refine Imp.call (f := seineref6_SameDirsE) rfl (fun a h => by first | exact seineref6_SameDirs_spec h | simpa only [evs, tys, evl] using seineref6_SameDirs_spec h) (fun a => by first | rfl | simp only [seineref6_SameDirsE, evk, chks]) fun y4 hy4 => ?_
        try simp only [seineref6_SameDirsE, evs, tys]
        exact Imp.some (by first | rfl | simp only [seineref6_SameFieldE, evs, tys, evl])
      · exact Imp.some (by first | rfl | simp only [seineref6_SameFieldE, evs, tys, evl])
    · exact Imp.some (by first | rfl | simp only [seineref6_SameFieldE, evs, tys, evl])
  · exact Imp.some (by first | rfl | simp only [seineref6_SameFieldE, evs, tys, evl])
theorem seineref6_SameField_run {a : GFieldDef} {b : GFieldDef} {r : Bool} (h : seineref6_SameField_B a b = some r) : seineref6_SameField a b = some r := by
  obtain ⟨v, hv, rfl⟩ := seineref6_SameField_imp a b r h
  exact tO_of (pair_inj seineref6_SameFieldEj) (OL_runD seineref6_SameField_ds rfl Try.func12 ((seineref6_SameField_t1 _ _ a b).trans hv))

def defs_Composite_T1 (O : Orc) (LP : LBody → LBody) (s : GSchema) (name : Str) : Option (PV × UP) :=
  callp O 36 [(.agg [(.slice (List.map encDef s.defs) [] false), (.str s.query), (.str s.mutation)]), (.str name), (.slice [(.int .i64 1), (.int .i64 2), (.int .i64 3)] [] false)] fun x1 => cnd (chk .bool x1)
  (some ((.bool (boolV x1)), [])) none
noncomputable def defs_Composite_B (s : GSchema) (name : Str) : Option Bool :=
  bnd (defs_Kind s name [1, 2, 3]) fun y2 =>
  some y2
def defs_Composite_ds : Decs := { decs := [(8, .bool)], ups := [], loops := [] }
set_option maxRecDepth 100000 in
theorem defs_Composite_t1 (O : Orc) (LP : LBody → LBody) (s : GSchema) (name : Str) : evalBodyD Try.prog (MT 13) defs_Composite_ds Try.f13.ntmps O LP Try.f13 [(.agg [(.slice (List.map encDef s.defs) [] false), (.str s.query), (.str s.mutation)]), (.str name)] [] = defs_Composite_T1 O LP s name := by kernel_rfl
theorem defs_Composite_imp (s : GSchema) (name : Str) : Imp (defs_Composite_B s name) (defs_Composite_T1 O loopLim s name) (fun r v => v = (defs_CompositeE r, [])) := by
  simp only [defs_Composite_B, defs_Composite_T1]
  try simp only [evs, tys]
  refine Imp.call (f := defs_KindE) rfl (fun a h => by first | exact defs_Kind_spec h | simpa only [evs, tys, evl] using defs_Kind_spec h) (fun a => by first | rfl | simp only [defs_KindE, evk, chks]) fun y2 hy2 => ?_
  try simp only [defs_KindE, evs, tys]
  exact Imp.some (by first | rfl | simp only [defs_CompositeE, evs, tys, evl])
theorem defs_Composite_run {s : GSchema} {name : Str} {r : Bool} (h : defs_Composite_B s name = some r) : defs_Composite s name = some r := by
  obtain ⟨v, hv, rfl⟩ := defs_Composite_imp s name r h
  exact tO_of (pair_inj defs_CompositeEj) (OL_runD defs_Composite_ds rfl Try.func13 ((defs_Composite_t1 _ _ s name).trans hv))

def defs_Meets_l1 (O : Orc) (LP : LBody → LBody) : LBody := fun s20 s20u => cnd (chkL [(.sl false), .bool, .str, (.sl false), (.int .i64), (.int .i64), (.sl false), (.int .i64), (.int .i64), (.sl false), .str, .str] s20) (cnd (chkU [] s20u)
  (cnd (decide ((intV (gt s20 8)) < (intV (gt s20 7))))
   (bnd (ix 1 (.slice (esV (gt s20 6)) [] false) (.int .i64 (intV (gt s20 8)))) fun x24 => cnd (chk (.ref .str) x24)
   (cnd ((strV (gt s20 2)) == (strV (refV x24)))
    (some (.brk 0, [(.slice (esV (gt s20 0)) [] false), (.bool true), (.str (strV (gt s20 2))), (.slice (esV (gt s20 3)) [] false), (.int .i64 (intV (gt s20 4))), (.int .i64 (intV (gt s20 5))), (.slice (esV (gt s20 6)) [] false), (.int .i64 (intV (gt s20 7))), (.int .i64 (intV (gt s20 8))), (.slice (esV (gt s20 9)) [] false), (.str (strV (gt s20 10))), (.str (strV (gt s20 11)))], []))
    (some (.nrm, [(.slice (esV (gt s20 0)) [] false), (.bool (boolV (gt s20 1))), (.str (strV (gt s20 2))), (.slice (esV (gt s20 3)) [] false), (.int .i64 (intV (gt s20 4))), (.int .i64 (intV (gt s20 5))), (.slice (esV (gt s20 6)) [] false), (.int .i64 (intV (gt s20 7))), (.int .i64 (IntKind.wrap .i64 ((intV (gt s20 8)) + 1))), (.slice (esV (gt s20 9)) [] false), (.str (strV (gt s20 10))), (.str (strV (gt s20 11)))], []))) none)
   (some (.brk 2, [(.slice (esV (gt s20 0)) [] false), (.bool (boolV (gt s20 1))), (.str (strV (gt s20 2))), (.slice (esV (gt s20 3)) [] false), (.int .i64 (intV (gt s20 4))), (.int .i64 (intV (gt s20 5))), (.slice (esV (gt s20 6)) [] false), (.int .i64 (intV (gt s20 7))), (.int .i64 (intV (gt s20 8))), (.slice (esV (gt s20 9)) [] false), (.str (strV (gt s20 10))), (.str (strV (gt s20 11)))], []))) none) none
def defs_Meets_l2 (O : Orc) (LP : LBody → LBody) : LBody := fun s5 s5u => cnd (chkL [(.sl false), .bool, (.sl false), (.int .i64), (.int .i64), (.sl false), .str, .str] s5) (cnd (chkU [] s5u)
  (cnd (decide ((intV (gt s5 4)) < (intV (gt s5 3))))
   (bnd (ix 1 (.slice (esV (gt s5 2)) [] false) (.int .i64 (intV (gt s5 4)))) fun x18 => cnd (chk (.ref .str) x18)
   (bnd (LP (defs_Meets_l1 O LP) [(.slice (esV (gt s5 0)) [] false), (.bool (boolV (gt s5 1))), (.str (strV (refV x18))), (.slice (esV (gt s5 2)) [] false), (.int .i64 (intV (gt s5 3))), (.int .i64 (intV (gt s5 4))), (.slice (esV (gt s5 0)) [] false), (.int .i64 (List.length (esV (gt s5 0)) : Int)), (.int .i64 0), (.slice (esV (gt s5 5)) [] false), (.str (strV (gt s5 6))), (.str (strV (gt s5 7)))] []) fun y28 =>
   exIs y28.1 (some 2) (cnd (chkL [(.sl false), .bool, .str, (.sl false), (.int .i64), (.int .i64), (.sl false), (.int .i64), (.int .i64), (.sl false), .str, .str] y28.2.1) (cnd (chkU [] y28.2.2)
    (some (.nrm, [(.slice (esV (gt y28.2.1 0)) [] false), (.bool (boolV (gt y28.2.1 1))), (.slice (esV (gt y28.2.1 3)) [] false), (.int .i64 (intV (gt y28.2.1 4))), (.int .i64 (IntKind.wrap .i64 ((intV (gt y28.2.1 5)) + 1))), (.slice (esV (gt y28.2.1 9)) [] false), (.str (strV (gt y28.2.1 10))), (.str (strV (gt y28.2.1 11)))], [])) none) none)
   (exIs y28.1 (some 0) (cnd (chkL [(.sl false), .bool, .str, (.sl false), (.int .i64), (.int .i64), (.sl false), (.int .i64), (.int .i64), (.sl false), .str, .str] y28.2.1) (cnd (chkU [] y28.2.2)
    (some (.brk 0, [(.slice (esV (gt y28.2.1 0)) [] false), (.bool (boolV (gt y28.2.1 1))), (.slice (esV (gt y28.2.1 3)) [] false), (.int .i64 (intV (gt y28.2.1 4))), (.int .i64 (intV (gt y28.2.1 5))), (.slice (esV (gt y28.2.1 9)) [] false), (.str (strV (gt y28.2.1 10))), (.str (strV (gt y28.2.1 11)))], [])) none) none)
   (none))) none)
   (some (.brk 0, [(.slice (esV (gt s5 0)) [] false), (.bool (boolV (gt s5 1))), (.slice (esV (gt s5 2)) [] false), (.int .i64 (intV (gt s5 3))), (.int .i64 (intV (gt s5 4))), (.slice (esV (gt s5 5)) [] false), (.str (strV (gt s5 6))), (.str (strV (gt s5 7)))], []))) none) none
def defs_Meets_T1 (O : Orc) (LP : LBody → LBody) (s : GSchema) (a : Str) (b : Str) : Option (PV × UP) :=
  callp O 16 [(.agg [(.slice (List.map encDef s.defs) [] false), (.str s.query), (.str s.mutation)]), (.str b)] fun x1 => cnd (chk (.sl false) x1)
  (callp O 16 [(.agg [(.slice (List.map encDef s.defs) [] false), (.str s.query), (.str s.mutation)]), (.str a)] fun x3 => cnd (chk (.sl false) x3)
  (bnd (LP (defs_Meets_l2 O LP) [(.slice (esV x1) [] false), (.bool false), (.slice (esV x3) [] false), (.int .i64 (List.length (esV x3) : Int)), (.int .i64 0), (.slice (List.map encDef s.defs) [] false), (.str s.query), (.str s.mutation)] []) fun y31 =>
  exIs y31.1 (some 0) (cnd (chkL [(.sl false), .bool, (.sl false), (.int .i64), (.int .i64), (.sl false), .str, .str] y31.2.1) (cnd (chkU [] y31.2.2)
   (some ((.bool (boolV (gt y31.2.1 1))), [])) none) none)
  (none)) none) none
noncomputable def defs_Meets_l1T (y2 : List Str) (y19 : Str) : Int → Option (Int ⊕ (Unit ⊕ Unit))
  | t_23 =>
  cnd (decide (t_23 < (List.length y2 : Int)))
   (bnd (nthI y2 t_23) fun y25 =>
   cnd (y19 == y25)
    (some (.inr (.inr ())))
    (some (.inl (IntKind.wrap .i64 (t_23 + 1)))))
   (some (.inr (.inl ())))
abbrev defs_Meets_l1R (s : GSchema) (y2 : List Str) (y4 : List Str) (t_17 : Int) (y19 : Str) (st : Int) (l : List PV) (u : UP) : Prop := l = [(.slice (List.map PV.str y2) [] false), (.bool false), (.str y19), (.slice (List.map PV.str y4) [] false), (.int .i64 (List.length y4 : Int)), (.int .i64 t_17), (.slice (List.map PV.str y2) [] false), (.int .i64 (List.length y2 : Int)), (.int .i64 st), (.slice (List.map encDef s.defs) [] false), (.str s.query), (.str s.mutation)] ∧ u = []
abbrev defs_Meets_l1X (s : GSchema) (y2 : List Str) (y4 : List Str) (t_17 : Int) (y19 : Str) (p : Unit ⊕ Unit) (r : Ex × List PV × UP) : Prop := elim p (fun (p : Unit) => ∃ (t_26 : Int), r = (Ex.brk 2, [(.slice (List.map PV.str y2) [] false), (.bool false), (.str y19), (.slice (List.map PV.str y4) [] false), (.int .i64 (List.length y4 : Int)), (.int .i64 t_17), (.slice (List.map PV.str y2) [] false), (.int .i64 (List.length y2 : Int)), (.int .i64 t_26), (.slice (List.map encDef s.defs) [] false), (.str s.query), (.str s.mutation)], [])) (fun q2 => (fun (p : Unit) => ∃ (t_27 : Int), r = (Ex.brk 0, [(.slice (List.map PV.str y2) [] false), (.bool true), (.str y19), (.slice (List.map PV.str y4) [] false), (.int .i64 (List.length y4 : Int)), (.int .i64 t_17), (.slice (List.map PV.str y2) [] false), (.int .i64 (List.length y2 : Int)), (.int .i64 t_27), (.slice (List.map encDef s.defs) [] false), (.str s.query), (.str s.mutation)], [])) q2)
noncomputable def defs_Meets_l2T (y2 : List Str) (y4 : List Str) : Int → Option (Int ⊕ Bool)
  | t_17 =>
  cnd (decide (t_17 < (List.length y4 : Int)))
   (bnd (nthI y4 t_17) fun y19 =>
   bnd (tloop (defs_Meets_l1T y2 y19) 0) fun e28_2 => elim e28_2
   (fun p28 =>
    some (.inl (IntKind.wrap .i64 (t_17 + 1))))
   (fun p28 =>
   some (.inr true)))
   (some (.inr false))
abbrev defs_Meets_l2R (s : GSchema) (y2 : List Str) (y4 : List Str) (st : Int) (l : List PV) (u : UP) : Prop := l = [(.slice (List.map PV.str y2) [] false), (.bool false), (.slice (List.map PV.str y4) [] false), (.int .i64 (List.length y4 : Int)), (.int .i64 st), (.slice (List.map encDef s.defs) [] false), (.str s.query), (.str s.mutation)] ∧ u = []
abbrev defs_Meets_l2X (s : GSchema) (y2 : List Str) (y4 : List Str) (p : Bool) (r : Ex × List PV × UP) : Prop := (fun (p : Bool) => ∃ (t_29 : Int), r = (Ex.brk 0, [(.slice (List.map PV.str y2) [] false), (.bool p), (.slice (List.map PV.str y4) [] false), (.int .i64 (List.length y4 : Int)), (.int .i64 t_29), (.slice (List.map encDef s.defs) [] false), (.str s.query), (.str s.mutation)], [])) p
noncomputable def defs_Meets_B (s : GSchema) (a : Str) (b : Str) : Option Bool :=
  bnd (defs_Possible s b) fun y2 =>
  bnd (defs_Possible s a) fun y4 =>
  bnd (tloop (defs_Meets_l2T y2 y4) 0) fun met_30 =>
  some met_30
def defs_Meets_ds : Decs := { decs := [(15, (.sl false)), (18, (.sl false)), (22, (.ref .str)), (28, (.ref .str))], ups := [], loops := [(4, ⟨[(.sl false), .bool, (.sl false), (.int .i64), (.int .i64), (.sl false), .str, .str], [], [(some 0, [(.sl false), .bool, (.sl false), (.int .i64), (.int .i64), (.sl false), .str, .str], [])]⟩), (7, ⟨[(.sl false), .bool, .str, (.sl false), (.int .i64), (.int .i64), (.sl false), (.int .i64), (.int .i64), (.sl false), .str, .str], [], [(some 2, [(.sl false), .bool, .str, (.sl false), (.int .i64), (.int .i64), (.sl false), (.int .i64), (.int .i64), (.sl false), .str, .str], []), (some 0, [(.sl false), .bool, .str, (.sl false), (.int .i64), (.int .i64), (.sl false), (.int .i64), (.int .i64), (.sl false), .str, .str], [])]⟩)] }
set_option maxRecDepth 100000 in
theorem defs_Meets_t1 (O : Orc) (LP : LBody → LBody) (s : GSchema) (a : Str) (b : Str) : evalBodyD Try.prog (MT 14) defs_Meets_ds Try.f14.ntmps O LP Try.f14 [(.agg [(.slice (List.map encDef s.defs) [] false), (.str s.query), (.str s.mutation)]), (.str a), (.str b)] [] = defs_Meets_T1 O LP s a b := by kernel_rfl
theorem defs_Meets_l1_ok (s : GSchema) (y2 : List Str) (y4 : List Str) (t_17 : Int) (y19 : Str) : ∀ st l u, defs_Meets_l1R s y2 y4 t_17 y19 st l u → Imp (defs_Meets_l1T y2 y19 st) (defs_Meets_l1 O loopLim l u) (StepR (defs_Meets_l1R s y2 y4 t_17 y19) (defs_Meets_l1X s y2 y4 t_17 y19)) := by
  rintro t_23 l u ⟨rfl, rfl⟩
  simp only [defs_Meets_l1T, defs_Meets_l1]
  refine Imp.chk rfl (Imp.chk rfl ?_)
  try simp only [evs, tys]
  refine Imp.cnd ?_ ?_
  · refine Imp.op (f := fun a => .ref (PV.str a)) (fun a h => op_ix (enc := PV.str) (by first | rfl | simp only [evs, tys, evl]) ⟨by first | rfl | simp only [evs, tys, evc], by decide⟩ h) (fun a => rfl) fun y25 hy25 => ?_
    try simp only [evs, tys]
    refine Imp.cnd ?_ ?_
    · exact Imp.some (StepR.brk ⟨t_23, by first | rfl | simp only [evs, tys, evl, elim_inl, elim_inr]⟩)
    · exact Imp.some (StepR.next ⟨by first | rfl | simp only [evs, tys, evl], rfl⟩)
  · exact Imp.some (StepR.brk ⟨t_23, by first | rfl | simp only [evs, tys, evl, elim_inl, elim_inr]⟩)
theorem defs_Meets_l2_ok (s : GSchema) (y2 : List Str) (y4 : List Str) : ∀ st l u, defs_Meets_l2R s y2 y4 st l u → Imp (defs_Meets_l2T y2 y4 st) (defs_Meets_l2 O loopLim l u) (StepR (defs_Meets_l2R s y2 y4) (defs_Meets_l2X s y2 y4)) := by
  rintro t_17 l u ⟨rfl, rfl⟩
  simp only [defs_Meets_l2T, defs_Meets_l2]
  refine Imp.chk rfl (Imp.chk rfl ?_)
  try simp only [evs, tys]
  refine Imp.cnd ?_ ?_
  · refine Imp.op (f := fun a => .ref (PV.str a)) (fun a h => op_ix (enc := PV.str) (by first | rfl | simp only [evs, tys, evl]) ⟨by first | rfl | simp only [evs, tys, evc], by decide⟩ h) (fun a => rfl) fun y19 hy19 => ?_
    try simp only [evs, tys]
    refine Imp.bnd (Imp.loop (defs_Meets_l1_ok s y2 y4 t_17 y19) ⟨by first | rfl | simp only [evs, tys, evl], rfl⟩) ?_
    rintro (p | p) vy28 hy28
    · try simp only [elim_inl, elim_inr]
      obtain ⟨t_26, rfl⟩ := hy28
      refine Imp.exHit rfl (Imp.chk rfl (Imp.chk rfl ?_))
      try simp only [evs, tys]
      exact Imp.some (StepR.next ⟨by first | rfl | simp only [evs, tys, evl], rfl⟩)
    · try simp only [elim_inl, elim_inr]
      obtain ⟨t_27, rfl⟩ := hy28
      refine Imp.exMiss rfl ?_
      refine Imp.exHit rfl (Imp.chk rfl (Imp.chk rfl ?_))
      try simp only [evs, tys]
      exact Imp.some (StepR.brk ⟨t_17, by first | rfl | simp only [evs, tys, evl, elim_inl, elim_inr]⟩)
  · exact Imp.some (StepR.brk ⟨t_17, by first | rfl | simp only [evs, tys, evl, elim_inl, elim_inr]⟩)
theorem defs_Meets_imp (s : GSchema) (a : Str) (b : Str) : Imp (defs_Meets_B s a b) (defs_Meets_T1 O loopLim s a b) (fun r v => v = (defs_MeetsE r, [])) := by
  simp only [defs_Meets_B, defs_Meets_T1]
  try simp only [evs, tys]
  refine Imp.call (f := defs_PossibleE) rfl (fun a h => by first | exact defs_Possible_spec h | simpa only [evs, tys, evl] using defs_Possible_spec h) (fun a => by first | rfl | simp only [defs_PossibleE, evk, chks]) fun y2 hy2 => ?_
  try simp only [defs_PossibleE, evs, tys]
  refine Imp.call (f := defs_PossibleE) rfl (fun a h => by first | exact defs_Possible_spec h | simpa only [evs, tys, evl] using defs_Possible_spec h) (fun a => by first | rfl | simp only [defs_PossibleE, evk, chks]) fun y4 hy4 => ?_
  try simp only [defs_PossibleE, evs, tys]
  refine Imp.bnd (Imp.loop (defs_Meets_l2_ok s y2 y4) ⟨by first | rfl | simp only [evs, tys, evl], rfl⟩) ?_
  rintro met_30 vy31 hy31
  obtain ⟨t_29, rfl⟩ := hy31
  refine Imp.exHit rfl (Imp.chk rfl (Imp.chk rfl ?_))
  try simp only [evs, tys]
  exact Imp.some (by first | rfl | simp only [defs_MeetsE, evs, tys, evl])
theorem defs_Meets_run {s : GSchema} {a : Str} {b : Str} {r : Bool} (h : defs_Meets_B s a b = some r) : defs_Meets s a b = some r := by
  obtain ⟨v, hv, rfl⟩ := defs_Meets_imp s a b r h
  exact tO_of (pair_inj defs_MeetsEj) (OL_runD defs_Meets_ds rfl Try.func14 ((defs_Meets_t1 _ _ s a b).trans hv))

def seineref9_Meets_l1 (O : Orc) (LP : LBody → LBody) : LBody := fun s5 s5u => cnd (chkL [.bool, (.sl false), (.sl false), (.int .i64), (.sl false), .str, .str] s5) (cnd (chkU [] s5u)
  (cnd (decide ((intV (gt s5 3)) < (List.length (esV (gt s5 1)) : Int)))
   (bnd (ix 1 (.slice (esV (gt s5 1)) [] false) (.int .i64 (intV (gt s5 3)))) fun x11 => cnd (chk (.ref .str) x11)
   (callp O 37 [(.slice (esV (gt s5 2)) [] false), (.str (strV (refV x11)))] fun x13 => cnd (chk .bool x13)
   (cnd (boolV x13)
    (some (.ret, [(.bool true), (.slice (esV (gt s5 1)) [] false), (.slice (esV (gt s5 2)) [] false), (.int .i64 (intV (gt s5 3))), (.slice (esV (gt s5 4)) [] false), (.str (strV (gt s5 5))), (.str (strV (gt s5 6)))], []))
    (some (.nrm, [(.bool (boolV (gt s5 0))), (.slice (esV (gt s5 1)) [] false), (.slice (esV (gt s5 2)) [] false), (.int .i64 (IntKind.wrap .i64 ((intV (gt s5 3)) + 1))), (.slice (esV (gt s5 4)) [] false), (.str (strV (gt s5 5))), (.str (strV (gt s5 6)))], []))) none) none)
   (some (.brk 0, [(.bool (boolV (gt s5 0))), (.slice (esV (gt s5 1)) [] false), (.slice (esV (gt s5 2)) [] false), (.int .i64 (intV (gt s5 3))), (.slice (esV (gt s5 4)) [] false), (.str (strV (gt s5 5))), (.str (strV (gt s5 6)))], []))) none) none
def seineref9_Meets_T1 (O : Orc) (LP : LBody → LBody) (s : GSchema) (a : Str) (b : Str) : Option (PV × UP) :=
  callp O 27 [(.agg [(.slice (List.map encDef s.defs) [] false), (.str s.query), (.str s.mutation)]), (.str a)] fun x1 => cnd (chk (.sl false) x1)
  (callp O 27 [(.agg [(.slice (List.map encDef s.defs) [] false), (.str s.query), (.str s.mutation)]), (.str b)] fun x3 => cnd (chk (.sl false) x3)
  (bnd (LP (seineref9_Meets_l1 O LP) [(.bool false), (.slice (esV x1) [] false), (.slice (esV x3) [] false), (.int .i64 0), (.slice (List.map encDef s.defs) [] false), (.str s.query), (.str s.mutation)] []) fun y17 =>
  exIs y17.1 (some 0) (cnd (chkL [.bool, (.sl false), (.sl false), (.int .i64), (.sl false), .str, .str] y17.2.1) (cnd (chkU [] y17.2.2)
   (some ((.bool false), [])) none) none)
  (exIs y17.1 none (cnd (chkL [.bool, (.sl false), (.sl false), (.int .i64), (.sl false), .str, .str] y17.2.1) (cnd (chkU [] y17.2.2)
   (some ((.bool (boolV (gt y17.2.1 0))), [])) none) none)
  (none))) none) none
noncomputable def seineref9_Meets_l1T (y2 : List Str) (y4 : List Str) : Int → Option (Int ⊕ (Unit ⊕ Unit))
  | i_10 =>
  cnd (decide (i_10 < (List.length y2 : Int)))
   (bnd (nthI y2 i_10) fun y12 =>
   bnd (seineref1_Has y4 y12) fun y14 =>
   cnd y14
    (some (.inr (.inr ())))
    (some (.inl (IntKind.wrap .i64 (i_10 + 1)))))
   (some (.inr (.inl ())))
abbrev seineref9_Meets_l1R (s : GSchema) (y2 : List Str) (y4 : List Str) (st : Int) (l : List PV) (u : UP) : Prop := l = [(.bool false), (.slice (List.map PV.str y2) [] false), (.slice (List.map PV.str y4) [] false), (.int .i64 st), (.slice (List.map encDef s.defs) [] false), (.str s.query), (.str s.mutation)] ∧ u = []
abbrev seineref9_Meets_l1X (s : GSchema) (y2 : List Str) (y4 : List Str) (p : Unit ⊕ Unit) (r : Ex × List PV × UP) : Prop := elim p (fun (p : Unit) => ∃ (i_15 : Int), r = (Ex.brk 0, [(.bool false), (.slice (List.map PV.str y2) [] false), (.slice (List.map PV.str y4) [] false), (.int .i64 i_15), (.slice (List.map encDef s.defs) [] false), (.str s.query), (.str s.mutation)], [])) (fun q2 => (fun (p : Unit) => ∃ (i_16 : Int), r = (Ex.ret, [(.bool true), (.slice (List.map PV.str y2) [] false), (.slice (List.map PV.str y4) [] false), (.int .i64 i_16), (.slice (List.map encDef s.defs) [] false), (.str s.query), (.str s.mutation)], [])) q2)
noncomputable def seineref9_Meets_B (s : GSchema) (a : Str) (b : Str) : Option Bool :=
  bnd (seineref9_Possible s a) fun y2 =>
  bnd (seineref9_Possible s b) fun y4 =>
  bnd (tloop (seineref9_Meets_l1T y2 y4) 0) fun e17_2 => elim e17_2
  (fun p17 =>
   some false)
  (fun p17 =>
  some true)
def seineref9_Meets_ds : Decs := { decs := [(12, (.sl false)), (15, (.sl false)), (25, (.ref .str)), (27, .bool)], ups := [], loops := [(3, ⟨[.bool, (.sl false), (.sl false), (.int .i64), (.sl false), .str, .str], [], [(some 0, [.bool, (.sl false), (.sl false), (.int .i64), (.sl false), .str, .str], []), (none, [.bool, (.sl false), (.sl false), (.int .i64), (.sl false), .str, .str], [])]⟩)] }
set_option maxRecDepth 100000 in
theorem seineref9_Meets_t1 (O : Orc) (LP : LBody → LBody) (s : GSchema) (a : Str) (b : Str) : evalBodyD Try.prog (MT 15) seineref9_Meets_ds Try.f15.ntmps O LP Try.f15 [(.agg [(.slice (List.map encDef s.defs) [] false), (.str s.query), (.str s.mutation)]), (.str a), (.str b)] [] = seineref9_Meets_T1 O LP s a b := by kernel_rfl
theorem seineref9_Meets_l1_ok (s : GSchema) (y2 : List Str) (y4 : List Str) : ∀ st l u, seineref9_Meets_l1R s y2 y4 st l u → Imp (seineref9_Meets_l1T y2 y4 st) (seineref9_Meets_l1 O loopLim l u) (StepR (seineref9_Meets_l1R s y2 y4) (seineref9_Meets_l1X s y2 y4)) := by
  rintro i_10 l u ⟨rfl, rfl⟩
  simp only [seineref9_Meets_l1T, seineref9_Meets_l1]
  refine Imp.chk rfl (Imp.chk rfl ?_)
  try simp only [evs, tys]
  refine Imp.cnd ?_ ?_
  · refine Imp.op (f := fun a => .ref (PV.str a)) (fun a h => op_ix (enc := PV.str) (by first | rfl | simp only [evs, tys, evl]) ⟨by first | rfl | simp only [evs, tys, evc], by decide⟩ h) (fun a => rfl) fun y12 hy12 => ?_
    try simp only [evs, tys]
    refine Imp.call (f := seineref1_HasE) rfl (fun a h => by first | exact seineref1_Has_spec h | simpa only [evs, tys, evl] using seineref1_Has_spec h) (fun a => by first | rfl | simp only [seineref1_HasE, evk, chks]) fun y14 hy14 => ?_
    try simp only [seineref1_HasE, evs, tys]
    refine Imp.cnd ?_ ?_
    · exact Imp.some (StepR.ret ⟨i_10, by first | rfl | simp only [evs, tys, evl, elim_inl, elim_inr]⟩)
    · exact Imp.some (StepR.next ⟨by first | rfl | simp only [evs, tys, evl], rfl⟩)
  · exact Imp.some (StepR.brk ⟨i_10, by first | rfl | simp only [evs, tys, evl, elim_inl, elim_inr]⟩)
theorem seineref9_Meets_imp (s : GSchema) (a : Str) (b : Str) : Imp (seineref9_Meets_B s a b) (seineref9_Meets_T1 O loopLim s a b) (fun r v => v = (seineref9_MeetsE r, [])) := by
  simp only [seineref9_Meets_B, seineref9_Meets_T1]
  try simp only [evs, tys]
  refine Imp.call (f := seineref9_PossibleE) rfl (fun a h => by first | exact seineref9_Possible_spec h | simpa only [evs, tys, evl] using seineref9_Possible_spec h) (fun a => by first | rfl | simp only [seineref9_PossibleE, evk, chks]) fun y2 hy2 => ?_
  try simp only [seineref9_PossibleE, evs, tys]
  refine Imp.call (f := seineref9_PossibleE) rfl (fun a h => by first | exact seineref9_Possible_spec h | simpa only [evs, tys, evl] using seineref9_Possible_spec h) (fun a => by first | rfl | simp only [seineref9_PossibleE, evk, chks]) fun y4 hy4 => ?_
  try simp only [seineref9_PossibleE, evs, tys]
  refine Imp.bnd (Imp.loop (seineref9_Meets_l1_ok s y2 y4) ⟨by first | rfl | simp only [evs, tys, evl], rfl⟩) ?_
  rintro (p | p) vy17 hy17
  · try simp only [elim_inl, elim_inr]
    obtain ⟨i_15, rfl⟩ := hy17
    refine Imp.exHit rfl (Imp.chk rfl (Imp.chk rfl ?_))
    try simp only [evs, tys]
    exact Imp.some (by first | rfl | simp only [seineref9_MeetsE, evs, tys, evl])
  · try simp only [elim_inl, elim_inr]
    obtain ⟨i_16, rfl⟩ := hy17
    refine Imp.exMiss rfl ?_
    refine Imp.exHit rfl (Imp.chk rfl (Imp.chk rfl ?_))
    try simp only [evs, tys]
    exact Imp.some (by first | rfl | simp only [seineref9_MeetsE, evs, tys, evl])
theorem seineref9_Meets_run {s : GSchema} {a : Str} {b : Str} {r : Bool} (h : seineref9_Meets_B s a b = some r) : seineref9_Meets s a b = some r := by
  obtain ⟨v, hv, rfl⟩ := seineref9_Meets_imp s a b r h
  exact tO_of (pair_inj seineref9_MeetsEj) (OL_runD seineref9_Meets_ds rfl Try.func15 ((seineref9_Meets_t1 _ _ s a b).trans hv))
end Go.Proofs.Ytigiafabnidggaa

import Derived.Test.YtgelaiohnmpjnaaGa
set_option linter.unusedVariables false
set_option linter.unusedSimpArgs false
/- Printed by symgen.py: typed functions of this seat, and why they tell what the program does. -/
set_option linter.unusedVariables false
set_option linter.unusedSimpArgs false
open Go Go.Ev Go.Ev.PV
namespace Go.Proofs.Ytgelaiohnmpjnaa
def seinelaw9_DefsSubs_T1 (O : Orc) (LP : LBody → LBody) (s : GSchema) (a : GType) (b : GType) : Option (PV × UP) :=
  callp O 17 [(.agg [(.slice (List.map encDef s.defs) [] false), (.str s.query), (.str s.mutation)])] fun x1 => cnd (chk .bool x1)
  (cnd (!(boolV x1))
   (callp O 18 [] fun x3 => cnd (chk .bool x3)
   (some ((.bool (boolV x3)), [])) none)
   (cnd (decide ((IntKind.wrap .i64 ((List.length a.name : Int) + (List.length b.name : Int))) > 2000))
    (callp O 18 [] fun x5 => cnd (chk .bool x5)
    (some ((.bool (boolV x5)), [])) none)
    (callp O 19 [(.agg [(.slice (List.map encDef s.defs) [] false), (.str s.query), (.str s.mutation)]), (.agg [(.str a.name), (.int .i64 a.lists), (.int .i64 a.musts)]), (.agg [(.str b.name), (.int .i64 b.lists), (.int .i64 b.musts)])] fun x7 => cnd (chk .bool x7)
    (callp O 20 [(.agg [(.slice (List.map encDef s.defs) [] false), (.str s.query), (.str s.mutation)]), (.agg [(.str a.name), (.int .i64 a.lists), (.int .i64 a.musts)]), (.agg [(.str b.name), (.int .i64 b.lists), (.int .i64 b.musts)])] fun x9 => cnd (chk .bool x9)
    (cnd ((boolV x7) == (boolV x9))
     (callp O 19 [(.agg [(.slice (List.map encDef s.defs) [] false), (.str s.query), (.str s.mutation)]), (.agg [(.str a.name), (.int .i64 a.lists), (.int .i64 a.musts)]), (.agg [(.str a.name), (.int .i64 a.lists), (.int .i64 a.musts)])] fun x11 => cnd (chk .bool x11)
     (callp O 21 [(.agg [(.str a.name), (.int .i64 a.lists), (.int .i64 a.musts)])] fun x13 => cnd (chk .bool x13)
     (cnd ((boolV x11) == (boolV x13))
      (callp O 22 [(.agg [(.str a.name), (.int .i64 a.lists), (.int .i64 a.musts)]), (.agg [(.str b.name), (.int .i64 b.lists), (.int .i64 b.musts)])] fun x15 => cnd (chk .bool x15)
      (cnd (!(boolV x15))
       (callp O 18 [] fun x17 => cnd (chk .bool x17)
       (some ((.bool (boolV x17)), [])) none)
       (callp O 19 [(.agg [(.slice (List.map encDef s.defs) [] false), (.str s.query), (.str s.mutation)]), (.agg [(.str a.name), (.int .i64 a.lists), (.int .i64 a.musts)]), (.agg [(.str b.name), (.int .i64 b.lists), (.int .i64 b.musts)])] fun x19 => cnd (chk .bool x19)
       (cnd (boolV x19)
        (callp O 18 [] fun x21 => cnd (chk .bool x21)
        (some ((.bool (boolV x21)), [])) none)
        (some ((.bool false), []))) none)) none)
      (some ((.bool false), []))) none) none)
     (some ((.bool false), []))) none) none))) none
noncomputable def seinelaw9_DefsSubs_B (s : GSchema) (a : GType) (b : GType) : Option Bool :=
  bnd (seinelaw8_Light s) fun y2 =>
  cnd (!y2)
   (bnd (seinelaw9_awake) fun y4 =>
   some y4)
   (cnd (decide ((IntKind.wrap .i64 ((List.length a.name : Int) + (List.length b.name : Int))) > 2000))
    (bnd (seinelaw9_awake) fun y6 =>
    some y6)
    (bnd (defs_Sub s a b) fun y8 =>
    bnd (seineref9_Sub s a b) fun y10 =>
    cnd (y8 == y10)
     (bnd (defs_Sub s a a) fun y12 =>
     bnd (wrap_Right a) fun y14 =>
     cnd (y12 == y14)
      (bnd (wrap_Sub a b) fun y16 =>
      cnd (!y16)
       (bnd (seinelaw9_awake) fun y18 =>
       some y18)
       (bnd (defs_Sub s a b) fun y20 =>
       cnd y20
        (bnd (seinelaw9_awake) fun y22 =>
        some y22)
        (some false)))
      (some false))
     (some false)))
def seinelaw9_DefsSubs_ds : Decs := { decs := [(8, .bool), (20, .bool), (24, .bool), (28, .bool), (34, .bool), (36, .bool), (42, .bool), (48, .bool), (52, .bool)], ups := [], loops := [] }
set_option maxRecDepth 100000 in
theorem seinelaw9_DefsSubs_t1 (O : Orc) (LP : LBody → LBody) (s : GSchema) (a : GType) (b : GType) : evalBodyD Try.prog (MT 5) seinelaw9_DefsSubs_ds Try.f5.ntmps O LP Try.f5 [(.agg [(.slice (List.map encDef s.defs) [] false), (.str s.query), (.str s.mutation)]), (.agg [(.str a.name), (.int .i64 a.lists), (.int .i64 a.musts)]), (.agg [(.str b.name), (.int .i64 b.lists), (.int .i64 b.musts)])] [] = seinelaw9_DefsSubs_T1 O LP s a b := by kernel_rfl
theorem seinelaw9_DefsSubs_imp (s : GSchema) (a : GType) (b : GType) : Imp (seinelaw9_DefsSubs_B s a b) (seinelaw9_DefsSubs_T1 O loopLim s a b) (fun r v => v = (seinelaw9_DefsSubsE r, [])) := by
  simp only [seinelaw9_DefsSubs_B, seinelaw9_DefsSubs_T1]
  try simp only [evs, tys]
  refine Imp.call (f := seinelaw8_LightE) rfl (fun a h => by first | exact seinelaw8_Light_spec h | simpa only [evs, tys, evl] using seinelaw8_Light_spec h) (fun a => by first | rfl | simp only [seinelaw8_LightE, evk, chks]) fun y2 hy2 => ?_
  try simp only [seinelaw8_LightE, evs, tys]
  refine Imp.cnd ?_ ?_
  · refine Imp.call (f := seinelaw9_awakeE) rfl (fun a h => by first | exact seinelaw9_awake_spec h | simpa only [evs, tys, evl] using seinelaw9_awake_spec h) (fun a => by first | rfl | simp only [seinelaw9_awakeE, evk, chks]) fun y4 hy4 => ?_
    try simp only [seinelaw9_awakeE, evs, tys]
    exact Imp.some (by first | rfl | simp only [seinelaw9_DefsSubsE, evs, tys, evl])
  · refine Imp.cnd ?_ ?_
    · refine Imp.call (f := seinelaw9_awakeE) rfl (fun a h => by first | exact seinelaw9_awake_spec h | simpa only [evs, tys, evl] using seinelaw9_awake_spec h) (fun a => by first | rfl | simp only [seinelaw9_awakeE, evk, chks]) fun y6 hy6 => ?_
      try simp only [seinelaw9_awakeE, evs, tys]
      exact Imp.some (by first | rfl | simp only [seinelaw9_DefsSubsE, evs, tys, evl])
    · refine Imp.call (f := defs_SubE) rfl (fun a h => by first | exact defs_Sub_spec h | simpa only [evs, tys, evl] using defs_Sub_spec h) (fun a => by first | rfl | simp only [defs_SubE, evk, chks]) fun y8 hy8 => ?_
      try simp only [defs_SubE, evs, tys]
      refine Imp.call (f := seineref9_SubE) rfl (fun a h => by first | exact seineref9_Sub_spec h | simpa only [evs, tys, evl] using seineref9_Sub_spec h) (fun a => by first | rfl | simp only [seineref9_SubE, evk, chks]) fun y10 hy10 => ?_
      try simp only [seineref9_SubE, evs, tys]
      refine Imp.cnd ?_ ?_
      · refine Imp.call (f := defs_SubE) rfl (fun a h => by first | exact defs_Sub_spec h | simpa only [evs, tys, evl] using defs_Sub_spec h) (fun a => by first | rfl | simp only [defs_SubE, evk, chks]) fun y12 hy12 => ?_
        try simp only [defs_SubE, evs, tys]
        refine Imp.call (f := wrap_RightE) rfl (fun a h => by first | exact wrap_Right_spec h | simpa only [evs, tys, evl] using wrap_Right_spec h) (fun a => by first | rfl | simp only [wrap_RightE, evk, chks]) fun y14 hy14 => ?_
        try simp only [wrap_RightE, evs, tys]
        refine Imp.cnd ?_ ?_
        · refine Imp.call (f := wrap_SubE) rfl (fun a h => by first | exact wrap_Sub_spec h | simpa only [evs, tys, evl] using wrap_Sub_spec h) (fun a => by first | rfl | simp only [wrap_SubE, evk, chks]) fun y16 hy16 => ?_
          try simp only [wrap_SubE, evs, tys]
          refine Imp.cnd ?_ ?_
          · refine Imp.call (f := seinelaw9_awakeE) rfl (fun a h => by first | exact seinelaw9_awake_spec h | simpa only [evs, tys, evl] using seinelaw9_awake_spec h) (fun a => by first | rfl | simp only [seinelaw9_awakeE, evk, chks]) fun y18 hy18 => ?_
            try simp only [seinelaw9_awakeE, evs, tys]
            exact Imp.some (by first | rfl | simp only [seinelaw9_DefsSubsE, evs, tys, evl])
          · refine Imp.call (f := defs_SubE) rfl (fun a h => by first | exact defs_Sub_spec h | simpa only [evs, tys, evl] using defs_Sub_spec h) (fun a => by first | rfl | simp only [defs_SubE, evk, chks]) fun y20 hy20 => ?_
            try simp only [defs_SubE, evs, tys]
            refine Imp.cnd ?_ ?_
            · refine Imp.call (f := seinelaw9_awakeE) rfl (fun a h => by first | exact seinelaw9_awake_spec h | simpa only [evs, tys, evl] using seinelaw9_awake_spec h) (fun a => by first | rfl | simp only [seinelaw9_awakeE, evk, chks]) fun y22 hy22 => ?_
              try simp only [seinelaw9_awakeE, evs, tys]
              exact Imp.some (by first | rfl | simp only [seinelaw9_DefsSubsE, evs, tys, evl])
            · exact Imp.some (by first | rfl | simp only [seinelaw9_DefsSubsE, evs, tys, evl])
        · exact Imp.some (by first | rfl | simp only [seinelaw9_DefsSubsE, evs, tys, evl])
      · exact Imp.some (by first | rfl | simp only [seinelaw9_DefsSubsE, evs, tys, evl])
theorem seinelaw9_DefsSubs_run {s : GSchema} {a : GType} {b : GType} {r : Bool} (h : seinelaw9_DefsSubs_B s a b = some r) : seinelaw9_DefsSubs s a b = some r := by
  obtain ⟨v, hv, rfl⟩ := seinelaw9_DefsSubs_imp s a b r h
  exact tO_of (pair_inj seinelaw9_DefsSubsEj) (OL_runD seinelaw9_DefsSubs_ds rfl rfl Try.func5 ((seinelaw9_DefsSubs_t1 _ _ s a b).trans hv))

def seinelaw8_Light_l1 (O : Orc) (LP : LBody → LBody) : LBody := fun s46 s46u => cnd (chkL [(.ptr 0 1 0), (.int .i64), (.int .i64), (.ptr 0 5 0), (.int .i64), (.int .i64), .str, (.sl false), (.sl false), (.sl false), (.sl false), (.sl false), .str, .str] s46) (cnd (chkU [] s46u)
  (cnd (decide ((intV (gt s46 4)) < (List.length (esV (gt s46 8)) : Int)))
   (bnd (ix 6 (.slice (esV (gt s46 8)) [] false) (.int .i64 (intV (gt s46 4)))) fun x59 => cnd (chk (.ref shFieldDef) x59)
   (bnd (ix 6 (.slice (esV (gt s46 8)) [] false) (.int .i64 (intV (gt s46 4)))) fun x61 => cnd (chk (.ref shFieldDef) x61)
   (callp O 47 [(.slice (esV (gt (aggV (refV x61)) 1)) [] false)] fun x63 => cnd (chk (.int .i64) x63)
   (bnd (ix 6 (.slice (esV (gt s46 8)) [] false) (.int .i64 (intV (gt s46 4)))) fun x65 => cnd (chk (.ref shFieldDef) x65)
   (callp O 48 [(.slice (esV (gt (aggV (refV x65)) 5)) [] false)] fun x67 => cnd (chk (.int .i64) x67)
   (some (.nrm, [(.ptr 0 1 0), (.int .i64 (IntKind.wrap .i64 ((IntKind.wrap .i64 ((IntKind.wrap .i64 ((IntKind.wrap .i64 ((intV (gt s46 1)) + 1)) + (List.length (strV (gt (aggV (refV x59)) 0)) : Int))) + (intV x63))) + (intV x67)))), (.int .i64 (intV (gt s46 2))), (.ptr 0 5 0), (.int .i64 (IntKind.wrap .i64 ((intV (gt s46 4)) + 1))), (.int .i64 (intV (gt s46 5))), (.str (strV (gt s46 6))), (.slice (esV (gt s46 7)) [] false), (.slice (esV (gt s46 8)) [] false), (.slice (esV (gt s46 9)) [] false), (.slice (esV (gt s46 10)) [] false), (.slice (esV (gt s46 11)) [] false), (.str (strV (gt s46 12))), (.str (strV (gt s46 13)))], [])) none) none) none) none) none)
   (some (.brk 2, [(.ptr 0 1 0), (.int .i64 (intV (gt s46 1))), (.int .i64 (intV (gt s46 2))), (.ptr 0 5 0), (.int .i64 (intV (gt s46 4))), (.int .i64 (intV (gt s46 5))), (.str (strV (gt s46 6))), (.slice (esV (gt s46 7)) [] false), (.slice (esV (gt s46 8)) [] false), (.slice (esV (gt s46 9)) [] false), (.slice (esV (gt s46 10)) [] false), (.slice (esV (gt s46 11)) [] false), (.str (strV (gt s46 12))), (.str (strV (gt s46 13)))], []))) none) none
def seinelaw8_Light_l2 (O : Orc) (LP : LBody → LBody) : LBody := fun s1 s1u => cnd (chkL [(.ptr 0 1 0), (.int .i64), (.int .i64), (.sl false), .str, .str] s1) (cnd (chkU [] s1u)
  (cnd (decide ((intV (gt s1 2)) < (List.length (esV (gt s1 3)) : Int)))
   (bnd (ix 6 (.slice (esV (gt s1 3)) [] false) (.int .i64 (intV (gt s1 2)))) fun x38 => cnd (chk (.ref shDef) x38)
   (callp O 46 [(.slice (esV (gt (aggV (refV x38)) 2)) [] false)] fun x40 => cnd (chk (.int .i64) x40)
   (callp O 46 [(.slice (esV (gt (aggV (refV x38)) 4)) [] false)] fun x42 => cnd (chk (.int .i64) x42)
   (callp O 47 [(.slice (esV (gt (aggV (refV x38)) 5)) [] false)] fun x44 => cnd (chk (.int .i64) x44)
   (bnd (LP (seinelaw8_Light_l1 O LP) [(.ptr 0 1 0), (.int .i64 (IntKind.wrap .i64 ((IntKind.wrap .i64 ((IntKind.wrap .i64 ((IntKind.wrap .i64 ((IntKind.wrap .i64 ((intV (gt s1 1)) + 1)) + (List.length (strV (gt (aggV (refV x38)) 1)) : Int))) + (intV x40))) + (intV x42))) + (intV x44)))), (.int .i64 (intV (gt s1 2))), (.ptr 0 5 0), (.int .i64 0), (.int .i64 (intV (gt (aggV (refV x38)) 0))), (.str (strV (gt (aggV (refV x38)) 1))), (.slice (esV (gt (aggV (refV x38)) 2)) [] false), (.slice (esV (gt (aggV (refV x38)) 3)) [] false), (.slice (esV (gt (aggV (refV x38)) 4)) [] false), (.slice (esV (gt (aggV (refV x38)) 5)) [] false), (.slice (esV (gt s1 3)) [] false), (.str (strV (gt s1 4))), (.str (strV (gt s1 5)))] []) fun y71 =>
   exIs y71.1 (some 2) (cnd (chkL [(.ptr 0 1 0), (.int .i64), (.int .i64), (.ptr 0 5 0), (.int .i64), (.int .i64), .str, (.sl false), (.sl false), (.sl false), (.sl false), (.sl false), .str, .str] y71.2.1) (cnd (chkU [] y71.2.2)
    (some (.nrm, [(.ptr 0 1 0), (.int .i64 (intV (gt y71.2.1 1))), (.int .i64 (IntKind.wrap .i64 ((intV (gt y71.2.1 2)) + 1))), (.slice (esV (gt y71.2.1 11)) [] false), (.str (strV (gt y71.2.1 12))), (.str (strV (gt y71.2.1 13)))], [])) none) none)
   (none)) none) none) none) none)
   (some (.brk 0, [(.ptr 0 1 0), (.int .i64 (intV (gt s1 1))), (.int .i64 (intV (gt s1 2))), (.slice (esV (gt s1 3)) [] false), (.str (strV (gt s1 4))), (.str (strV (gt s1 5)))], []))) none) none
def seinelaw8_Light_T1 (O : Orc) (LP : LBody → LBody) (s : GSchema) : Option (PV × UP) :=
  bnd (LP (seinelaw8_Light_l2 O LP) [(.ptr 0 1 0), (.int .i64 0), (.int .i64 0), (.slice (List.map encDef s.defs) [] false), (.str s.query), (.str s.mutation)] []) fun y74 =>
  exIs y74.1 (some 0) (cnd (chkL [(.ptr 0 1 0), (.int .i64), (.int .i64), (.sl false), .str, .str] y74.2.1) (cnd (chkU [] y74.2.2)
   (some ((.bool (decide ((intV (gt y74.2.1 1)) ≤ 4000))), [])) none) none)
  (none)
noncomputable def seinelaw8_Light_l1T (y39 : GDef) : (Int × Int) → Option ((Int × Int) ⊕ Int)
  | (n_57, k_58) =>
  cnd (decide (k_58 < (List.length y39.fields : Int)))
   (bnd (nthI y39.fields k_58) fun y60 =>
   bnd (nthI y39.fields k_58) fun y62 =>
   bnd (seinelaw8_lightParams y62.params) fun y64 =>
   bnd (nthI y39.fields k_58) fun y66 =>
   bnd (seinelaw8_lightDirs y66.dirs) fun y68 =>
   some (.inl ((IntKind.wrap .i64 ((IntKind.wrap .i64 ((IntKind.wrap .i64 ((IntKind.wrap .i64 (n_57 + 1)) + (List.length y60.name : Int))) + y64)) + y68)), (IntKind.wrap .i64 (k_58 + 1)))))
   (some (.inr n_57))
abbrev seinelaw8_Light_l1R (s : GSchema) (i_37 : Int) (y39 : GDef) (st : Int × Int) (l : List PV) (u : UP) : Prop := l = [(.ptr 0 1 0), (.int .i64 st.1), (.int .i64 i_37), (.ptr 0 5 0), (.int .i64 st.2), (.int .i64 y39.kind), (.str y39.name), (.slice (List.map PV.str y39.faces) [] false), (.slice (List.map encFieldDef y39.fields) [] false), (.slice (List.map PV.str y39.parts) [] false), (.slice (List.map encParam y39.params) [] false), (.slice (List.map encDef s.defs) [] false), (.str s.query), (.str s.mutation)] ∧ u = []
abbrev seinelaw8_Light_l1X (s : GSchema) (i_37 : Int) (y39 : GDef) (p : Int) (r : Ex × List PV × UP) : Prop := (fun (p : Int) => ∃ (k_70 : Int), r = (Ex.brk 2, [(.ptr 0 1 0), (.int .i64 p), (.int .i64 i_37), (.ptr 0 5 0), (.int .i64 k_70), (.int .i64 y39.kind), (.str y39.name), (.slice (List.map PV.str y39.faces) [] false), (.slice (List.map encFieldDef y39.fields) [] false), (.slice (List.map PV.str y39.parts) [] false), (.slice (List.map encParam y39.params) [] false), (.slice (List.map encDef s.defs) [] false), (.str s.query), (.str s.mutation)], [])) p
noncomputable def seinelaw8_Light_l2T (s : GSchema) : (Int × Int) → Option ((Int × Int) ⊕ Int)
  | (n_36, i_37) =>
  cnd (decide (i_37 < (List.length s.defs : Int)))
   (bnd (nthI s.defs i_37) fun y39 =>
   bnd (seinelaw8_lightTexts y39.faces) fun y41 =>
   bnd (seinelaw8_lightTexts y39.parts) fun y43 =>
   bnd (seinelaw8_lightParams y39.params) fun y45 =>
   bnd (tloop (seinelaw8_Light_l1T y39) ((IntKind.wrap .i64 ((IntKind.wrap .i64 ((IntKind.wrap .i64 ((IntKind.wrap .i64 ((IntKind.wrap .i64 (n_36 + 1)) + (List.length y39.name : Int))) + y41)) + y43)) + y45)), 0)) fun n_69 =>
   some (.inl (n_69, (IntKind.wrap .i64 (i_37 + 1)))))
   (some (.inr n_36))
abbrev seinelaw8_Light_l2R (s : GSchema) (st : Int × Int) (l : List PV) (u : UP) : Prop := l = [(.ptr 0 1 0), (.int .i64 st.1), (.int .i64 st.2), (.slice (List.map encDef s.defs) [] false), (.str s.query), (.str s.mutation)] ∧ u = []
abbrev seinelaw8_Light_l2X (s : GSchema) (p : Int) (r : Ex × List PV × UP) : Prop := (fun (p : Int) => ∃ (i_73 : Int), r = (Ex.brk 0, [(.ptr 0 1 0), (.int .i64 p), (.int .i64 i_73), (.slice (List.map encDef s.defs) [] false), (.str s.query), (.str s.mutation)], [])) p
noncomputable def seinelaw8_Light_B (s : GSchema) : Option Bool :=
  bnd (tloop (seinelaw8_Light_l2T s) (0, 0)) fun n_72 =>
  some (decide (n_72 ≤ 4000))
def seinelaw8_Light_ds : Decs := { decs := [(17, (.ref shDef)), (27, (.int .i64)), (31, (.int .i64)), (35, (.int .i64)), (49, (.ref shFieldDef)), (57, (.ref shFieldDef)), (60, (.int .i64)), (65, (.ref shFieldDef)), (68, (.int .i64))], ups := [], loops := [(3, [(1, 3)], ⟨[(.ptr 0 1 0), (.int .i64), (.int .i64), (.sl false), .str, .str], [], [(some 0, [(.ptr 0 1 0), (.int .i64), (.int .i64), (.sl false), .str, .str], [])]⟩), (8, [(5, 6), (1, 3)], ⟨[(.ptr 0 1 0), (.int .i64), (.int .i64), (.ptr 0 5 0), (.int .i64), (.int .i64), .str, (.sl false), (.sl false), (.sl false), (.sl false), (.sl false), .str, .str], [], [(some 2, [(.ptr 0 1 0), (.int .i64), (.int .i64), (.ptr 0 5 0), (.int .i64), (.int .i64), .str, (.sl false), (.sl false), (.sl false), (.sl false), (.sl false), .str, .str], [])]⟩)] }
set_option maxRecDepth 100000 in
theorem seinelaw8_Light_t1 (O : Orc) (LP : LBody → LBody) (s : GSchema) : evalBodyD Try.prog (MT 17) seinelaw8_Light_ds Try.f17.ntmps O LP Try.f17 [(.agg [(.slice (List.map encDef s.defs) [] false), (.str s.query), (.str s.mutation)])] [] = seinelaw8_Light_T1 O LP s := by kernel_rfl
theorem seinelaw8_Light_l1_ok (s : GSchema) (i_37 : Int) (y39 : GDef) : ∀ st l u, seinelaw8_Light_l1R s i_37 y39 st l u → Imp (seinelaw8_Light_l1T y39 st) (seinelaw8_Light_l1 O loopLim l u) (StepR (seinelaw8_Light_l1R s i_37 y39) (seinelaw8_Light_l1X s i_37 y39)) := by
  rintro ⟨n_57, k_58⟩ l u ⟨rfl, rfl⟩
  simp only [seinelaw8_Light_l1T, seinelaw8_Light_l1]
  refine Imp.chk rfl (Imp.chk rfl ?_)
  try simp only [evs, tys]
  refine Imp.cnd ?_ ?_
  · refine Imp.op (f := fun a => .ref (encFieldDef a)) (fun a h => op_ix (enc := encFieldDef) (by first | rfl | simp only [evs, tys, evl]) ⟨by first | rfl | simp only [evs, tys, evc], by decide⟩ h) (fun a => chk_GFieldDef a) fun y60 hy60 => ?_
    try simp only [evs, tys]
    refine Imp.op (f := fun a => .ref (encFieldDef a)) (fun a h => op_ix (enc := encFieldDef) (by first | rfl | simp only [evs, tys, evl]) ⟨by first | rfl | simp only [evs, tys, evc], by decide⟩ h) (fun a => chk_GFieldDef a) fun y62 hy62 => ?_
    try simp only [evs, tys]
    refine Imp.call (f := seinelaw8_lightParamsE) rfl (fun a h => by first | exact seinelaw8_lightParams_spec h | simpa only [evs, tys, evl] using seinelaw8_lightParams_spec h) (fun a => by first | rfl | simp only [seinelaw8_lightParamsE, evk, chks]) fun y64 hy64 => ?_
    try simp only [seinelaw8_lightParamsE, evs, tys]
    refine Imp.op (f := fun a => .ref (encFieldDef a)) (fun a h => op_ix (enc := encFieldDef) (by first | rfl | simp only [evs, tys, evl]) ⟨by first | rfl | simp only [evs, tys, evc], by decide⟩ h) (fun a => chk_GFieldDef a) fun y66 hy66 => ?_
    try simp only [evs, tys]
    refine Imp.call (f := seinelaw8_lightDirsE) rfl (fun a h => by first | exact seinelaw8_lightDirs_spec h | simpa only [evs, tys, evl] using seinelaw8_lightDirs_spec h) (fun a => by first | rfl | simp only [seinelaw8_lightDirsE, evk, chks]) fun y68 hy68 => ?_
    try simp only [seinelaw8_lightDirsE, evs, tys]
    exact Imp.some (StepR.next ⟨by first | rfl | simp only [evs, tys, evl], rfl⟩)
  · exact Imp.some (StepR.brk ⟨k_58, by first | rfl | simp only [evs, tys, evl, elim_inl, elim_inr]⟩)
theorem seinelaw8_Light_l2_ok (s : GSchema) : ∀ st l u, seinelaw8_Light_l2R s st l u → Imp (seinelaw8_Light_l2T s st) (seinelaw8_Light_l2 O loopLim l u) (StepR (seinelaw8_Light_l2R s) (seinelaw8_Light_l2X s)) := by
  rintro ⟨n_36, i_37⟩ l u ⟨rfl, rfl⟩
  simp only [seinelaw8_Light_l2T, seinelaw8_Light_l2]
  refine Imp.chk rfl (Imp.chk rfl ?_)
  try simp only [evs, tys]
  refine Imp.cnd ?_ ?_
  · refine Imp.op (f := fun a => .ref (encDef a)) (fun a h => op_ix (enc := encDef) (by first | rfl | simp only [evs, tys, evl]) ⟨by first | rfl | simp only [evs, tys, evc], by decide⟩ h) (fun a => chk_GDef a) fun y39 hy39 => ?_
    try simp only [evs, tys]
    refine Imp.call (f := seinelaw8_lightTextsE) rfl (fun a h => by first | exact seinelaw8_lightTexts_spec h | simpa only [evs, tys, evl] using seinelaw8_lightTexts_spec h) (fun a => by first | rfl | simp only [seinelaw8_lightTextsE, evk, chks]) fun y41 hy41 => ?_
    try simp only [seinelaw8_lightTextsE, evs, tys]
    refine Imp.call (f := seinelaw8_lightTextsE) rfl (fun a h => by first | exact seinelaw8_lightTexts_spec h | simpa only [evs, tys, evl] using seinelaw8_lightTexts_spec h) (fun a => by first | rfl | simp only [seinelaw8_lightTextsE, evk, chks]) fun y43 hy43 => ?_
    try simp only [seinelaw8_lightTextsE, evs, tys]
    refine Imp.call (f := seinelaw8_lightParamsE) rfl (fun a h => by first | exact seinelaw8_lightParams_spec h | simpa only [evs, tys, evl] using seinelaw8_lightParams_spec h) (fun a => by first | rfl | simp only [seinelaw8_lightParamsE, evk, chks]) fun y45 hy45 => ?_
    try simp only [seinelaw8_lightParamsE, evs, tys]
    refine Imp.bnd (Imp.loop (seinelaw8_Light_l1_ok s i_37 y39) ⟨by first | rfl | simp only [evs, tys, evl], rfl⟩) ?_
    rintro n_69 vy71 hy71
    obtain ⟨k_70, rfl⟩ := hy71
    refine Imp.exHit rfl (Imp.chk rfl (Imp.chk rfl ?_))
    try simp only [evs, tys]
    exact Imp.some (StepR.next ⟨by first | rfl | simp only [evs, tys, evl], rfl⟩)
  · exact Imp.some (StepR.brk ⟨i_37, by first | rfl | simp only [evs, tys, evl, elim_inl, elim_inr]⟩)
theorem seinelaw8_Light_imp (s : GSchema) : Imp (seinelaw8_Light_B s) (seinelaw8_Light_T1 O loopLim s) (fun r v => v = (seinelaw8_LightE r, [])) := by
  simp only [seinelaw8_Light_B, seinelaw8_Light_T1]
  try simp only [evs, tys]
  refine Imp.bnd (Imp.loop (seinelaw8_Light_l2_ok s) ⟨by first | rfl | simp only [evs, tys, evl], rfl⟩) ?_
  rintro n_72 vy74 hy74
  obtain ⟨i_73, rfl⟩ := hy74
  refine Imp.exHit rfl (Imp.chk rfl (Imp.chk rfl ?_))
  try simp only [evs, tys]
  exact Imp.some (by first | rfl | simp only [seinelaw8_LightE, evs, tys, evl])
theorem seinelaw8_Light_run {s : GSchema} {r : Bool} (h : seinelaw8_Light_B s = some r) : seinelaw8_Light s = some r := by
  obtain ⟨v, hv, rfl⟩ := seinelaw8_Light_imp s r h
  exact tO_of (pair_inj seinelaw8_LightEj) (OL_runD seinelaw8_Light_ds rfl rfl Try.func17 ((seinelaw8_Light_t1 _ _ s).trans hv))

theorem seinelaw9_awake_run {r : Bool} (n : Nat) (h : evalK Try.prog MT n 18 [] [] = some (seinelaw9_awakeE r, [])) : seinelaw9_awake = some r := tO_of (pair_inj seinelaw9_awakeEj) (evalK_OL (fun _ => rfl) n h)

def defs_Sub_T1 (O : Orc) (LP : LBody → LBody) (s : GSchema) (a : GType) (b : GType) : Option (PV × UP) :=
  callp O 21 [(.agg [(.str a.name), (.int .i64 a.lists), (.int .i64 a.musts)])] fun x1 => cnd (chk .bool x1)
  (cnd (!(boolV x1))
   (some ((.bool false), []))
   (callp O 22 [(.agg [(.str b.name), (.int .i64 a.lists), (.int .i64 a.musts)]), (.agg [(.str b.name), (.int .i64 b.lists), (.int .i64 b.musts)])] fun x3 => cnd (chk .bool x3)
   (cnd (!(boolV x3))
    (some ((.bool false), []))
    (cnd (a.name == b.name)
     (some ((.bool true), []))
     (callp O 53 [(.agg [(.slice (List.map encDef s.defs) [] false), (.str s.query), (.str s.mutation)]), (.str a.name)] fun x5 => cnd (chk (.tup [shDef, .bool]) x5)
     (cnd (!(boolV (gt (tupV x5) 1)))
      (some ((.bool false), []))
      (cnd ((intV (gt (aggV (gt (tupV x5) 0)) 0)) == 1)
       (callp O 49 [(.agg [(.slice (List.map encDef s.defs) [] false), (.str s.query), (.str s.mutation)]), (.str b.name)] fun x7 => cnd (chk (.sl false) x7)
       (callp O 54 [(.slice (esV x7) [] false), (.str a.name)] fun x9 => cnd (chk .bool x9)
       (cnd (boolV x9)
        (some ((.bool true), []))
        (cnd ((intV (gt (aggV (gt (tupV x5) 0)) 0)) == 2)
         (callp O 55 [(.agg [(.slice (List.map encDef s.defs) [] false), (.str s.query), (.str s.mutation)]), (.str b.name), (.slice [(.int .i64 2)] [] false)] fun x11 => cnd (chk .bool x11)
         (cnd (boolV x11)
          (callp O 54 [(.slice (esV (gt (aggV (gt (tupV x5) 0)) 2)) [] false), (.str b.name)] fun x13 => cnd (chk .bool x13)
          (some ((.bool (boolV x13)), [])) none)
          (some ((.bool false), []))) none)
         (some ((.bool false), [])))) none) none)
       (cnd ((intV (gt (aggV (gt (tupV x5) 0)) 0)) == 2)
        (callp O 55 [(.agg [(.slice (List.map encDef s.defs) [] false), (.str s.query), (.str s.mutation)]), (.str b.name), (.slice [(.int .i64 2)] [] false)] fun x15 => cnd (chk .bool x15)
        (cnd (boolV x15)
         (callp O 54 [(.slice (esV (gt (aggV (gt (tupV x5) 0)) 2)) [] false), (.str b.name)] fun x17 => cnd (chk .bool x17)
         (some ((.bool (boolV x17)), [])) none)
         (some ((.bool false), []))) none)
        (some ((.bool false), []))))) none))) none)) none
noncomputable def defs_Sub_B (s : GSchema) (a : GType) (b : GType) : Option Bool :=
  bnd (wrap_Right a) fun y2 =>
  cnd (!y2)
   (some false)
   (bnd (wrap_Sub (GType.mk b.name a.lists a.musts) b) fun y4 =>
   cnd (!y4)
    (some false)
    (cnd (a.name == b.name)
     (some true)
     (bnd (defs_Find s a.name) fun y6 =>
     cnd (!y6.2)
      (some false)
      (cnd (y6.1.kind == 1)
       (bnd (defs_Possible s b.name) fun y8 =>
       bnd (slices_Contains_string_string y8 a.name) fun y10 =>
       cnd y10
        (some true)
        (cnd (y6.1.kind == 2)
         (bnd (defs_Kind s b.name [2]) fun y12 =>
         cnd y12
          (bnd (slices_Contains_string_string y6.1.faces b.name) fun y14 =>
          some y14)
          (some false))
         (some false)))
       (cnd (y6.1.kind == 2)
        (bnd (defs_Kind s b.name [2]) fun y16 =>
        cnd y16
         (bnd (slices_Contains_string_string y6.1.faces b.name) fun y18 =>
         some y18)
         (some false))
        (some false))))))
def defs_Sub_ds : Decs := { decs := [(15, .bool), (20, .bool), (32, (.tup [shDef, .bool])), (44, (.sl false)), (47, .bool), (58, .bool), (65, .bool)], ups := [], loops := [] }
set_option maxRecDepth 100000 in
theorem defs_Sub_t1 (O : Orc) (LP : LBody → LBody) (s : GSchema) (a : GType) (b : GType) : evalBodyD Try.prog (MT 19) defs_Sub_ds Try.f19.ntmps O LP Try.f19 [(.agg [(.slice (List.map encDef s.defs) [] false), (.str s.query), (.str s.mutation)]), (.agg [(.str a.name), (.int .i64 a.lists), (.int .i64 a.musts)]), (.agg [(.str b.name), (.int .i64 b.lists), (.int .i64 b.musts)])] [] = defs_Sub_T1 O LP s a b := by kernel_rfl
theorem defs_Sub_imp (s : GSchema) (a : GType) (b : GType) : Imp (defs_Sub_B s a b) (defs_Sub_T1 O loopLim s a b) (fun r v => v = (defs_SubE r, [])) := by
  simp only [defs_Sub_B, defs_Sub_T1]
  try simp only [evs, tys]
  refine Imp.call (f := wrap_RightE) rfl (fun a h => by first | exact wrap_Right_spec h | simpa only [evs, tys, evl] using wrap_Right_spec h) (fun a => by first | rfl | simp only [wrap_RightE, evk, chks]) fun y2 hy2 => ?_
  try simp only [wrap_RightE, evs, tys]
  refine Imp.cnd ?_ ?_
  · exact Imp.some (by first | rfl | simp only [defs_SubE, evs, tys, evl])
  · refine Imp.call (f := wrap_SubE) rfl (fun a h => by first | exact wrap_Sub_spec h | simpa only [evs, tys, evl] using wrap_Sub_spec h) (fun a => by first | rfl | simp only [wrap_SubE, evk, chks]) fun y4 hy4 => ?_
    try simp only [wrap_SubE, evs, tys]
    refine Imp.cnd ?_ ?_
    · exact Imp.some (by first | rfl | simp only [defs_SubE, evs, tys, evl])
    · refine Imp.cnd ?_ ?_
      · exact Imp.some (by first | rfl | simp only [defs_SubE, evs, tys, evl])
      · refine Imp.call (f := defs_FindE) rfl (fun a h => by first | exact defs_Find_spec h | simpa only [evs, tys, evl] using defs_Find_spec h) (fun a => by first | rfl | simp only [defs_FindE, evk, chks]) fun y6 hy6 => ?_
        try simp only [defs_FindE, evs, tys]
        refine Imp.cnd ?_ ?_
        · exact Imp.some (by first | rfl | simp only [defs_SubE, evs, tys, evl])
        · refine Imp.cnd ?_ ?_
          · refine Imp.call (f := defs_PossibleE) rfl (fun a h => by first | exact defs_Possible_spec h | simpa only [evs, tys, evl] using defs_Possible_spec h) (fun a => by first | rfl | simp only [defs_PossibleE, evk, chks]) fun y8 hy8 => ?_
            try simp only [defs_PossibleE, evs, tys]
            refine Imp.call (f := slices_Contains_string_stringE) rfl (fun a h => by first | exact slices_Contains_string_string_spec h | simpa only [evs, tys, evl] using slices_Contains_string_string_spec h) (fun a => by first | rfl | simp only [slices_Contains_string_stringE, evk, chks]) fun y10 hy10 => ?_
            try simp only [slices_Contains_string_stringE, evs, tys]
            refine Imp.cnd ?_ ?_
            · exact Imp.some (by first | rfl | simp only [defs_SubE, evs, tys, evl])
            · refine Imp.cnd ?_ ?_
              · refine Imp.call (f := defs_KindE) rfl (fun a h => by first | exact defs_Kind_spec h | simpa only [evs, tys, evl] using defs_Kind_spec h) (fun a => by first | rfl | simp only [defs_KindE, evk, chks]) fun y12 hy12 => ?_
                try simp only [defs_KindE, evs, tys]
                refine Imp.cnd ?_ ?_
                · refine Imp.call (f := slices_Contains_string_stringE) rfl (fun a h => by first | exact slices_Contains_string_string_spec h | simpa only [evs, tys, evl] using slices_Contains_string_string_spec h) (fun a => by first | rfl | simp only [slices_Contains_string_stringE, evk, chks]) fun y14 hy14 => ?_
                  try simp only [slices_Contains_string_stringE, evs, tys]
                  exact Imp.some (by first | rfl | simp only [defs_SubE, evs, tys, evl])
                · exact Imp.some (by first | rfl | simp only [defs_SubE, evs, tys, evl])
              · exact Imp.some (by first | rfl | simp only [defs_SubE, evs, tys, evl])
          · refine Imp.cnd ?_ ?_
            · refine Imp.call (f := defs_KindE) rfl (fun a h => by first | exact defs_Kind_spec h | simpa only [evs, tys, evl] using defs_Kind_spec h) (fun a => by first | rfl | simp only [defs_KindE, evk, chks]) fun y16 hy16 => ?_
              try simp only [defs_KindE, evs, tys]
              refine Imp.cnd ?_ ?_
              · refine Imp.call (f := slices_Contains_string_stringE) rfl (fun a h => by first | exact slices_Contains_string_string_spec h | simpa only [evs, tys, evl] using slices_Contains_string_string_spec h) (fun a => by first | rfl | simp only [slices_Contains_string_stringE, evk, chks]) fun y18 hy18 => ?_
                try simp only [slices_Contains_string_stringE, evs, tys]
                exact Imp.some (by first | rfl | simp only [defs_SubE, evs, tys, evl])
              · exact Imp.some (by first | rfl | simp only [defs_SubE, evs, tys, evl])
            · exact Imp.some (by first | rfl | simp only [defs_SubE, evs, tys, evl])
theorem defs_Sub_run {s : GSchema} {a : GType} {b : GType} {r : Bool} (h : defs_Sub_B s a b = some r) : defs_Sub s a b = some r := by
  obtain ⟨v, hv, rfl⟩ := defs_Sub_imp s a b r h
  exact tO_of (pair_inj defs_SubEj) (OL_runD defs_Sub_ds rfl rfl Try.func19 ((defs_Sub_t1 _ _ s a b).trans hv))

def seineref9_Sub_T1 (O : Orc) (LP : LBody → LBody) (s : GSchema) (a : GType) (b : GType) : Option (PV × UP) :=
  callp O 56 [(.agg [(.str a.name), (.int .i64 a.lists), (.int .i64 a.musts)])] fun x1 => cnd (chk .bool x1)
  (cnd (!(boolV x1))
   (some ((.bool false), []))
   (callp O 57 [(.agg [(.str b.name), (.int .i64 a.lists), (.int .i64 a.musts)]), (.agg [(.str b.name), (.int .i64 b.lists), (.int .i64 b.musts)])] fun x3 => cnd (chk .bool x3)
   (cnd (!(boolV x3))
    (some ((.bool false), []))
    (cnd (a.name == b.name)
     (some ((.bool true), []))
     (callp O 58 [(.agg [(.slice (List.map encDef s.defs) [] false), (.str s.query), (.str s.mutation)]), (.str a.name)] fun x5 => cnd (chk (.tup [shDef, .bool]) x5)
     (callp O 58 [(.agg [(.slice (List.map encDef s.defs) [] false), (.str s.query), (.str s.mutation)]), (.str b.name)] fun x7 => cnd (chk (.tup [shDef, .bool]) x7)
     (cnd ((intV (gt (aggV (gt (tupV x5) 0)) 0)) == 1)
      (callp O 60 [(.agg [(.slice (List.map encDef s.defs) [] false), (.str s.query), (.str s.mutation)]), (.str b.name)] fun x9 => cnd (chk (.sl false) x9)
      (callp O 59 [(.slice (esV x9) [] false), (.str a.name)] fun x11 => cnd (chk .bool x11)
      (cnd (boolV x11)
       (some ((.bool true), []))
       (cnd ((intV (gt (aggV (gt (tupV x5) 0)) 0)) == 2)
        (cnd ((intV (gt (aggV (gt (tupV x7) 0)) 0)) == 2)
         (callp O 59 [(.slice (esV (gt (aggV (gt (tupV x5) 0)) 2)) [] false), (.str b.name)] fun x13 => cnd (chk .bool x13)
         (some ((.bool (boolV x13)), [])) none)
         (some ((.bool false), [])))
        (some ((.bool false), [])))) none) none)
      (cnd ((intV (gt (aggV (gt (tupV x5) 0)) 0)) == 2)
       (cnd ((intV (gt (aggV (gt (tupV x7) 0)) 0)) == 2)
        (callp O 59 [(.slice (esV (gt (aggV (gt (tupV x5) 0)) 2)) [] false), (.str b.name)] fun x15 => cnd (chk .bool x15)
        (some ((.bool (boolV x15)), [])) none)
        (some ((.bool false), [])))
       (some ((.bool false), [])))) none) none))) none)) none
noncomputable def seineref9_Sub_B (s : GSchema) (a : GType) (b : GType) : Option Bool :=
  bnd (seineref1_RightType a) fun y2 =>
  cnd (!y2)
   (some false)
   (bnd (seineref1_SubType (GType.mk b.name a.lists a.musts) b) fun y4 =>
   cnd (!y4)
    (some false)
    (cnd (a.name == b.name)
     (some true)
     (bnd (seineref9_Find s a.name) fun y6 =>
     bnd (seineref9_Find s b.name) fun y8 =>
     cnd (y6.1.kind == 1)
      (bnd (seineref9_Possible s b.name) fun y10 =>
      bnd (seineref1_Has y10 a.name) fun y12 =>
      cnd y12
       (some true)
       (cnd (y6.1.kind == 2)
        (cnd (y8.1.kind == 2)
         (bnd (seineref1_Has y6.1.faces b.name) fun y14 =>
         some y14)
         (some false))
        (some false)))
      (cnd (y6.1.kind == 2)
       (cnd (y8.1.kind == 2)
        (bnd (seineref1_Has y6.1.faces b.name) fun y16 =>
        some y16)
        (some false))
       (some false)))))
def seineref9_Sub_ds : Decs := { decs := [(17, .bool), (22, .bool), (34, (.tup [shDef, .bool])), (41, (.tup [shDef, .bool])), (51, (.sl false)), (54, .bool), (70, .bool)], ups := [], loops := [] }
set_option maxRecDepth 100000 in
theorem seineref9_Sub_t1 (O : Orc) (LP : LBody → LBody) (s : GSchema) (a : GType) (b : GType) : evalBodyD Try.prog (MT 20) seineref9_Sub_ds Try.f20.ntmps O LP Try.f20 [(.agg [(.slice (List.map encDef s.defs) [] false), (.str s.query), (.str s.mutation)]), (.agg [(.str a.name), (.int .i64 a.lists), (.int .i64 a.musts)]), (.agg [(.str b.name), (.int .i64 b.lists), (.int .i64 b.musts)])] [] = seineref9_Sub_T1 O LP s a b := by kernel_rfl
theorem seineref9_Sub_imp (s : GSchema) (a : GType) (b : GType) : Imp (seineref9_Sub_B s a b) (seineref9_Sub_T1 O loopLim s a b) (fun r v => v = (seineref9_SubE r, [])) := by
  simp only [seineref9_Sub_B, seineref9_Sub_T1]
  try simp only [evs, tys]
  refine Imp.call (f := seineref1_RightTypeE) rfl (fun a h => by first | exact seineref1_RightType_spec h | simpa only [evs, tys, evl] using seineref1_RightType_spec h) (fun a => by first | rfl | simp only [seineref1_RightTypeE, evk, chks]) fun y2 hy2 => ?_
  try simp only [seineref1_RightTypeE, evs, tys]
  refine Imp.cnd ?_ ?_
  · exact Imp.some (by first | rfl | simp only [seineref9_SubE, evs, tys, evl])
  · refine Imp.call (f := seineref1_SubTypeE) rfl (fun a h => by first | exact seineref1_SubType_spec h | simpa only [evs, tys, evl] using seineref1_SubType_spec h) (fun a => by first | rfl | simp only [seineref1_SubTypeE, evk, chks]) fun y4 hy4 => ?_
    try simp only [seineref1_SubTypeE, evs, tys]
    refine Imp.cnd ?_ ?_
    · exact Imp.some (by first | rfl | simp only [seineref9_SubE, evs, tys, evl])
    · refine Imp.cnd ?_ ?_
      · exact Imp.some (by first | rfl | simp only [seineref9_SubE, evs, tys, evl])
      · refine Imp.call (f := seineref9_FindE) rfl (fun a h => by first | exact seineref9_Find_spec h | simpa only [evs, tys, evl] using seineref9_Find_spec h) (fun a => by first | rfl | simp only [seineref9_FindE, evk, chks]) fun y6 hy6 => ?_
        try simp only [seineref9_FindE, evs, tys]
        refine Imp.call (f := seineref9_FindE) rfl (fun a h => by first | exact seineref9_Find_spec h | simpa only [evs, tys, evl] using seineref9_Find_spec h) (fun a => by first | rfl | simp only [seineref9_FindE, evk, chks]) fun y8 hy8 => ?_
        try simp only [seineref9_FindE, evs, tys]
        refine Imp.cnd ?_ ?_
        · refine Imp.call (f := seineref9_PossibleE) rfl (fun a h => by first | exact seineref9_Possible_spec h | simpa only [evs, tys, evl] using seineref9_Possible_spec h) (fun a => by first | rfl | simp only [seineref9_PossibleE, evk, chks]) fun y10 hy10 => ?_
          try simp only [seineref9_PossibleE, evs, tys]
          refine Imp.call (f := seineref1_HasE) rfl (fun a h => by first | exact seineref1_Has_spec h | simpa only [evs, tys, evl] using seineref1_Has_spec h) (fun a => by first | rfl | simp only [seineref1_HasE, evk, chks]) fun y12 hy12 => ?_
          try simp only [seineref1_HasE, evs, tys]
          refine Imp.cnd ?_ ?_
          · exact Imp.some (by first | rfl | simp only [seineref9_SubE, evs, tys, evl])
          · refine Imp.cnd ?_ ?_
            · refine Imp.cnd ?_ ?_
              · refine Imp.call (f := seineref1_HasE) rfl (fun a h => by first | exact seineref1_Has_spec h | simpa only [evs, tys, evl] using seineref1_Has_spec h) (fun a => by first | rfl | simp only [seineref1_HasE, evk, chks]) fun y14 hy14 => ?_
                try simp only [seineref1_HasE, evs, tys]
                exact Imp.some (by first | rfl | simp only [seineref9_SubE, evs, tys, evl])
              · exact Imp.some (by first | rfl | simp only [seineref9_SubE, evs, tys, evl])
            · exact Imp.some (by first | rfl | simp only [seineref9_SubE, evs, tys, evl])
        · refine Imp.cnd ?_ ?_
          · refine Imp.cnd ?_ ?_
            · refine Imp.call (f := seineref1_HasE) rfl (fun a h => by first | exact seineref1_Has_spec h | simpa only [evs, tys, evl] using seineref1_Has_spec h) (fun a => by first | rfl | simp only [seineref1_HasE, evk, chks]) fun y16 hy16 => ?_
              try simp only [seineref1_HasE, evs, tys]
              exact Imp.some (by first | rfl | simp only [seineref9_SubE, evs, tys, evl])
            · exact Imp.some (by first | rfl | simp only [seineref9_SubE, evs, tys, evl])
          · exact Imp.some (by first | rfl | simp only [seineref9_SubE, evs, tys, evl])
theorem seineref9_Sub_run {s : GSchema} {a : GType} {b : GType} {r : Bool} (h : seineref9_Sub_B s a b = some r) : seineref9_Sub s a b = some r := by
  obtain ⟨v, hv, rfl⟩ := seineref9_Sub_imp s a b r h
  exact tO_of (pair_inj seineref9_SubEj) (OL_runD seineref9_Sub_ds rfl rfl Try.func20 ((seineref9_Sub_t1 _ _ s a b).trans hv))
end Go.Proofs.Ytgelaiohnmpjnaa

/- Printed by symgen.py: typed functions of this seat, and why they tell what the program does. -/
set_option linter.unusedVariables false
set_option linter.unusedSimpArgs false
open Go Go.Ev Go.Ev.PV
namespace Go.Proofs.Ytgelaiohnmpjnaa
def wrap_Right_T1 (O : Orc) (LP : LBody → LBody) (t : GType) : Option (PV × UP) :=
  callp O 61 [(.str t.name)] fun x1 => cnd (chk .bool x1)
  (cnd (boolV x1)
   (cnd (decide (t.lists ≥ 0))
    (cnd (decide (t.lists ≤ 4))
     (cnd (decide (t.musts ≥ 0))
      (bnd (bin .shr (.int .i64 t.musts) (.int .i64 (IntKind.wrap .i64 (t.lists + 1)))) fun x3 => cnd (chk (.int .i64) x3)
      (some ((.bool ((intV x3) == 0)), [])) none)
      (some ((.bool false), [])))
     (some ((.bool false), [])))
    (some ((.bool false), [])))
   (some ((.bool false), []))) none
noncomputable def wrap_Right_B (t : GType) : Option Bool :=
  bnd (letters_Name t.name) fun y2 =>
  cnd y2
   (cnd (decide (t.lists ≥ 0))
    (cnd (decide (t.lists ≤ 4))
     (cnd (decide (t.musts ≥ 0))
      (bnd (tshr .i64 t.musts (IntKind.wrap .i64 (t.lists + 1))) fun y4 =>
      some (y4 == 0))
      (some false))
     (some false))
    (some false))
   (some false)
def wrap_Right_ds : Decs := { decs := [(5, .bool), (27, (.int .i64))], ups := [], loops := [] }
set_option maxRecDepth 100000 in
theorem wrap_Right_t1 (O : Orc) (LP : LBody → LBody) (t : GType) : evalBodyD Try.prog (MT 21) wrap_Right_ds Try.f21.ntmps O LP Try.f21 [(.agg [(.str t.name), (.int .i64 t.lists), (.int .i64 t.musts)])] [] = wrap_Right_T1 O LP t := by kernel_rfl
theorem wrap_Right_imp (t : GType) : Imp (wrap_Right_B t) (wrap_Right_T1 O loopLim t) (fun r v => v = (wrap_RightE r, [])) := by
  simp only [wrap_Right_B, wrap_Right_T1]
  try simp only [evs, tys]
  refine Imp.call (f := letters_NameE) rfl (fun a h => by first | exact letters_Name_spec h | simpa only [evs, tys, evl] using letters_Name_spec h) (fun a => by first | rfl | simp only [letters_NameE, evk, chks]) fun y2 hy2 => ?_
  try simp only [letters_NameE, evs, tys]
  refine Imp.cnd ?_ ?_
  · refine Imp.cnd ?_ ?_
    · refine Imp.cnd ?_ ?_
      · refine Imp.cnd ?_ ?_
        · refine Imp.op (f := fun a => .int _ a) (fun a h => op_shr h) (fun a => rfl) fun y4 hy4 => ?_
          try simp only [evs, tys]
          exact Imp.some (by first | rfl | simp only [wrap_RightE, evs, tys, evl])
        · exact Imp.some (by first | rfl | simp only [wrap_RightE, evs, tys, evl])
      · exact Imp.some (by first | rfl | simp only [wrap_RightE, evs, tys, evl])
    · exact Imp.some (by first | rfl | simp only [wrap_RightE, evs, tys, evl])
  · exact Imp.some (by first | rfl | simp only [wrap_RightE, evs, tys, evl])
theorem wrap_Right_run {t : GType} {r : Bool} (h : wrap_Right_B t = some r) : wrap_Right t = some r := by
  obtain ⟨v, hv, rfl⟩ := wrap_Right_imp t r h
  exact tO_of (pair_inj wrap_RightEj) (OL_runD wrap_Right_ds rfl rfl Try.func21 ((wrap_Right_t1 _ _ t).trans hv))

def wrap_Sub_T1 (O : Orc) (LP : LBody → LBody) (a : GType) (b : GType) : Option (PV × UP) :=
  callp O 21 [(.agg [(.str a.name), (.int .i64 a.lists), (.int .i64 a.musts)])] fun x1 => cnd (chk .bool x1)
  (cnd (boolV x1)
   (callp O 21 [(.agg [(.str b.name), (.int .i64 b.lists), (.int .i64 b.musts)])] fun x3 => cnd (chk .bool x3)
   (cnd (boolV x3)
    (cnd (a.name == b.name)
     (cnd (a.lists == b.lists)
      (some ((.bool ((bits .andNot .i64 b.musts a.musts) == 0)), []))
      (some ((.bool false), [])))
     (some ((.bool false), [])))
    (some ((.bool false), []))) none)
   (some ((.bool false), []))) none
noncomputable def wrap_Sub_B (a : GType) (b : GType) : Option Bool :=
  bnd (wrap_Right a) fun y2 =>
  cnd y2
   (bnd (wrap_Right b) fun y4 =>
   cnd y4
    (cnd (a.name == b.name)
     (cnd (a.lists == b.lists)
      (some ((bits .andNot .i64 b.musts a.musts) == 0))
      (some false))
     (some false))
    (some false))
   (some false)
def wrap_Sub_ds : Decs := { decs := [(6, .bool), (9, .bool)], ups := [], loops := [] }
set_option maxRecDepth 100000 in
theorem wrap_Sub_t1 (O : Orc) (LP : LBody → LBody) (a : GType) (b : GType) : evalBodyD Try.prog (MT 22) wrap_Sub_ds Try.f22.ntmps O LP Try.f22 [(.agg [(.str a.name), (.int .i64 a.lists), (.int .i64 a.musts)]), (.agg [(.str b.name), (.int .i64 b.lists), (.int .i64 b.musts)])] [] = wrap_Sub_T1 O LP a b := by kernel_rfl
theorem wrap_Sub_imp (a : GType) (b : GType) : Imp (wrap_Sub_B a b) (wrap_Sub_T1 O loopLim a b) (fun r v => v = (wrap_SubE r, [])) := by
  simp only [wrap_Sub_B, wrap_Sub_T1]
  try simp only [evs, tys]
  refine Imp.call (f := wrap_RightE) rfl (fun a h => by first | exact wrap_Right_spec h | simpa only [evs, tys, evl] using wrap_Right_spec h) (fun a => by first | rfl | simp only [wrap_RightE, evk, chks]) fun y2 hy2 => ?_
  try simp only [wrap_RightE, evs, tys]
  refine Imp.cnd ?_ ?_
  · refine Imp.call (f := wrap_RightE) rfl (fun a h => by first | exact wrap_Right_spec h | simpa only [evs, tys, evl] using wrap_Right_spec h) (fun a => by first | rfl | simp only [wrap_RightE, evk, chks]) fun y4 hy4 => ?_
    try simp only [wrap_RightE, evs, tys]
    refine Imp.cnd ?_ ?_
    · refine Imp.cnd ?_ ?_
      · refine Imp.cnd ?_ ?_
        · exact Imp.some (by first | rfl | simp only [wrap_SubE, evs, tys, evl])
        · exact Imp.some (by first | rfl | simp only [wrap_SubE, evs, tys, evl])
      · exact Imp.some (by first | rfl | simp only [wrap_SubE, evs, tys, evl])
    · exact Imp.some (by first | rfl | simp only [wrap_SubE, evs, tys, evl])
  · exact Imp.some (by first | rfl | simp only [wrap_SubE, evs, tys, evl])
theorem wrap_Sub_run {a : GType} {b : GType} {r : Bool} (h : wrap_Sub_B a b = some r) : wrap_Sub a b = some r := by
  obtain ⟨v, hv, rfl⟩ := wrap_Sub_imp a b r h
  exact tO_of (pair_inj wrap_SubEj) (OL_runD wrap_Sub_ds rfl rfl Try.func22 ((wrap_Sub_t1 _ _ a b).trans hv))

def seinelaw8_lightTexts_l1 (O : Orc) (LP : LBody → LBody) : LBody := fun s1 s1u => cnd (chkL [(.sl false), (.int .i64), (.int .i64)] s1) (cnd (chkU [] s1u)
  (cnd (decide ((intV (gt s1 2)) < (List.length (esV (gt s1 0)) : Int)))
   (bnd (ix 1 (.slice (esV (gt s1 0)) [] false) (.int .i64 (intV (gt s1 2)))) fun x6 => cnd (chk (.ref .str) x6)
   (some (.nrm, [(.slice (esV (gt s1 0)) [] false), (.int .i64 (IntKind.wrap .i64 ((IntKind.wrap .i64 ((intV (gt s1 1)) + 1)) + (List.length (strV (refV x6)) : Int)))), (.int .i64 (IntKind.wrap .i64 ((intV (gt s1 2)) + 1)))], [])) none)
   (some (.brk 0, [(.slice (esV (gt s1 0)) [] false), (.int .i64 (intV (gt s1 1))), (.int .i64 (intV (gt s1 2)))], []))) none) none
def seinelaw8_lightTexts_T1 (O : Orc) (LP : LBody → LBody) (l0 : List Str) : Option (PV × UP) :=
  bnd (LP (seinelaw8_lightTexts_l1 O LP) [(.slice (List.map PV.str l0) [] false), (.int .i64 0), (.int .i64 0)] []) fun y10 =>
  exIs y10.1 (some 0) (cnd (chkL [(.sl false), (.int .i64), (.int .i64)] y10.2.1) (cnd (chkU [] y10.2.2)
   (some ((.int .i64 (intV (gt y10.2.1 1))), [])) none) none)
  (none)
noncomputable def seinelaw8_lightTexts_l1T (l0 : List Str) : (Int × Int) → Option ((Int × Int) ⊕ Int)
  | (n_4, i_5) =>
  cnd (decide (i_5 < (List.length l0 : Int)))
   (bnd (nthI l0 i_5) fun y7 =>
   some (.inl ((IntKind.wrap .i64 ((IntKind.wrap .i64 (n_4 + 1)) + (List.length y7 : Int))), (IntKind.wrap .i64 (i_5 + 1)))))
   (some (.inr n_4))
abbrev seinelaw8_lightTexts_l1R (l0 : List Str) (st : Int × Int) (l : List PV) (u : UP) : Prop := l = [(.slice (List.map PV.str l0) [] false), (.int .i64 st.1), (.int .i64 st.2)] ∧ u = []
abbrev seinelaw8_lightTexts_l1X (l0 : List Str) (p : Int) (r : Ex × List PV × UP) : Prop := (fun (p : Int) => ∃ (i_9 : Int), r = (Ex.brk 0, [(.slice (List.map PV.str l0) [] false), (.int .i64 p), (.int .i64 i_9)], [])) p
noncomputable def seinelaw8_lightTexts_B (l0 : List Str) : Option Int :=
  bnd (tloop (seinelaw8_lightTexts_l1T l0) (0, 0)) fun n_8 =>
  some n_8
def seinelaw8_lightTexts_ds : Decs := { decs := [(15, (.ref .str))], ups := [], loops := [(3, [], ⟨[(.sl false), (.int .i64), (.int .i64)], [], [(some 0, [(.sl false), (.int .i64), (.int .i64)], [])]⟩)] }
set_option maxRecDepth 100000 in
theorem seinelaw8_lightTexts_t1 (O : Orc) (LP : LBody → LBody) (l0 : List Str) : evalBodyD Try.prog (MT 46) seinelaw8_lightTexts_ds Try.f46.ntmps O LP Try.f46 [(.slice (List.map PV.str l0) [] false)] [] = seinelaw8_lightTexts_T1 O LP l0 := by kernel_rfl
theorem seinelaw8_lightTexts_l1_ok (l0 : List Str) : ∀ st l u, seinelaw8_lightTexts_l1R l0 st l u → Imp (seinelaw8_lightTexts_l1T l0 st) (seinelaw8_lightTexts_l1 O loopLim l u) (StepR (seinelaw8_lightTexts_l1R l0) (seinelaw8_lightTexts_l1X l0)) := by
  rintro ⟨n_4, i_5⟩ l u ⟨rfl, rfl⟩
  simp only [seinelaw8_lightTexts_l1T, seinelaw8_lightTexts_l1]
  refine Imp.chk rfl (Imp.chk rfl ?_)
  try simp only [evs, tys]
  refine Imp.cnd ?_ ?_
  · refine Imp.op (f := fun a => .ref (PV.str a)) (fun a h => op_ix (enc := PV.str) (by first | rfl | simp only [evs, tys, evl]) ⟨by first | rfl | simp only [evs, tys, evc], by decide⟩ h) (fun a => rfl) fun y7 hy7 => ?_
    try simp only [evs, tys]
    exact Imp.some (StepR.next ⟨by first | rfl | simp only [evs, tys, evl], rfl⟩)
  · exact Imp.some (StepR.brk ⟨i_5, by first | rfl | simp only [evs, tys, evl, elim_inl, elim_inr]⟩)
theorem seinelaw8_lightTexts_imp (l0 : List Str) : Imp (seinelaw8_lightTexts_B l0) (seinelaw8_lightTexts_T1 O loopLim l0) (fun r v => v = (seinelaw8_lightTextsE r, [])) := by
  simp only [seinelaw8_lightTexts_B, seinelaw8_lightTexts_T1]
  try simp only [evs, tys]
  refine Imp.bnd (Imp.loop (seinelaw8_lightTexts_l1_ok l0) ⟨by first | rfl | simp only [evs, tys, evl], rfl⟩) ?_
  rintro n_8 vy10 hy10
  obtain ⟨i_9, rfl⟩ := hy10
  refine Imp.exHit rfl (Imp.chk rfl (Imp.chk rfl ?_))
  try simp only [evs, tys]
  exact Imp.some (by first | rfl | simp only [seinelaw8_lightTextsE, evs, tys, evl])
theorem seinelaw8_lightTexts_run {l0 : List Str} {r : Int} (h : seinelaw8_lightTexts_B l0 = some r) : seinelaw8_lightTexts l0 = some r := by
  obtain ⟨v, hv, rfl⟩ := seinelaw8_lightTexts_imp l0 r h
  exact tO_of (pair_inj seinelaw8_lightTextsEj) (OL_runD seinelaw8_lightTexts_ds rfl rfl Try.func46 ((seinelaw8_lightTexts_t1 _ _ l0).trans hv))

def seinelaw8_lightParams_l1 (O : Orc) (LP : LBody → LBody) : LBody := fun s1 s1u => cnd (chkL [(.sl false), (.int .i64), (.int .i64)] s1) (cnd (chkU [] s1u)
  (cnd (decide ((intV (gt s1 2)) < (List.length (esV (gt s1 0)) : Int)))
   (bnd (ix 10 (.slice (esV (gt s1 0)) [] false) (.int .i64 (intV (gt s1 2)))) fun x10 => cnd (chk (.ref shParam) x10)
   (bnd (ix 10 (.slice (esV (gt s1 0)) [] false) (.int .i64 (intV (gt s1 2)))) fun x12 => cnd (chk (.ref shParam) x12)
   (callp O 24 [(.agg [(.int .i64 (intV (gt (aggV (refV x12)) 5))), (.int .i64 (intV (gt (aggV (refV x12)) 6))), (.str (strV (gt (aggV (refV x12)) 7))), (.slice (esV (gt (aggV (refV x12)) 8)) [] false), (.slice (esV (gt (aggV (refV x12)) 9)) [] false)])] fun x14 => cnd (chk (.int .i64) x14)
   (some (.nrm, [(.slice (esV (gt s1 0)) [] false), (.int .i64 (IntKind.wrap .i64 ((IntKind.wrap .i64 ((IntKind.wrap .i64 ((intV (gt s1 1)) + 1)) + (List.length (strV (gt (aggV (refV x10)) 0)) : Int))) + (intV x14)))), (.int .i64 (IntKind.wrap .i64 ((intV (gt s1 2)) + 1)))], [])) none) none) none)
   (some (.brk 0, [(.slice (esV (gt s1 0)) [] false), (.int .i64 (intV (gt s1 1))), (.int .i64 (intV (gt s1 2)))], []))) none) none
def seinelaw8_lightParams_T1 (O : Orc) (LP : LBody → LBody) (l0 : List GParam) : Option (PV × UP) :=
  bnd (LP (seinelaw8_lightParams_l1 O LP) [(.slice (List.map encParam l0) [] false), (.int .i64 0), (.int .i64 0)] []) fun y18 =>
  exIs y18.1 (some 0) (cnd (chkL [(.sl false), (.int .i64), (.int .i64)] y18.2.1) (cnd (chkU [] y18.2.2)
   (some ((.int .i64 (intV (gt y18.2.1 1))), [])) none) none)
  (none)
noncomputable def seinelaw8_lightParams_l1T (l0 : List GParam) : (Int × Int) → Option ((Int × Int) ⊕ Int)
  | (n_8, i_9) =>
  cnd (decide (i_9 < (List.length l0 : Int)))
   (bnd (nthI l0 i_9) fun y11 =>
   bnd (nthI l0 i_9) fun y13 =>
   bnd (seinekeep_Size y13.default) fun y15 =>
   some (.inl ((IntKind.wrap .i64 ((IntKind.wrap .i64 ((IntKind.wrap .i64 (n_8 + 1)) + (List.length y11.name : Int))) + y15)), (IntKind.wrap .i64 (i_9 + 1)))))
   (some (.inr n_8))
abbrev seinelaw8_lightParams_l1R (l0 : List GParam) (st : Int × Int) (l : List PV) (u : UP) : Prop := l = [(.slice (List.map encParam l0) [] false), (.int .i64 st.1), (.int .i64 st.2)] ∧ u = []
abbrev seinelaw8_lightParams_l1X (l0 : List GParam) (p : Int) (r : Ex × List PV × UP) : Prop := (fun (p : Int) => ∃ (i_17 : Int), r = (Ex.brk 0, [(.slice (List.map encParam l0) [] false), (.int .i64 p), (.int .i64 i_17)], [])) p
noncomputable def seinelaw8_lightParams_B (l0 : List GParam) : Option Int :=
  bnd (tloop (seinelaw8_lightParams_l1T l0) (0, 0)) fun n_16 =>
  some n_16
def seinelaw8_lightParams_ds : Decs := { decs := [(15, (.ref shParam)), (22, (.ref shParam)), (25, (.int .i64))], ups := [], loops := [(3, [], ⟨[(.sl false), (.int .i64), (.int .i64)], [], [(some 0, [(.sl false), (.int .i64), (.int .i64)], [])]⟩)] }
set_option maxRecDepth 100000 in
theorem seinelaw8_lightParams_t1 (O : Orc) (LP : LBody → LBody) (l0 : List GParam) : evalBodyD Try.prog (MT 47) seinelaw8_lightParams_ds Try.f47.ntmps O LP Try.f47 [(.slice (List.map encParam l0) [] false)] [] = seinelaw8_lightParams_T1 O LP l0 := by kernel_rfl
theorem seinelaw8_lightParams_l1_ok (l0 : List GParam) : ∀ st l u, seinelaw8_lightParams_l1R l0 st l u → Imp (seinelaw8_lightParams_l1T l0 st) (seinelaw8_lightParams_l1 O loopLim l u) (StepR (seinelaw8_lightParams_l1R l0) (seinelaw8_lightParams_l1X l0)) := by
  rintro ⟨n_8, i_9⟩ l u ⟨rfl, rfl⟩
  simp only [seinelaw8_lightParams_l1T, seinelaw8_lightParams_l1]
  refine Imp.chk rfl (Imp.chk rfl ?_)
  try simp only [evs, tys]
  refine Imp.cnd ?_ ?_
  · refine Imp.op (f := fun a => .ref (encParam a)) (fun a h => op_ix (enc := encParam) (by first | rfl | simp only [evs, tys, evl]) ⟨by first | rfl | simp only [evs, tys, evc], by decide⟩ h) (fun a => chk_GParam a) fun y11 hy11 => ?_
    try simp only [evs, tys]
    refine Imp.op (f := fun a => .ref (encParam a)) (fun a h => op_ix (enc := encParam) (by first | rfl | simp only [evs, tys, evl]) ⟨by first | rfl | simp only [evs, tys, evc], by decide⟩ h) (fun a => chk_GParam a) fun y13 hy13 => ?_
    try simp only [evs, tys]
    refine Imp.call (f := seinekeep_SizeE) rfl (fun a h => by first | exact seinekeep_Size_spec h | simpa only [evs, tys, evl] using seinekeep_Size_spec h) (fun a => by first | rfl | simp only [seinekeep_SizeE, evk, chks]) fun y15 hy15 => ?_
    try simp only [seinekeep_SizeE, evs, tys]
    exact Imp.some (StepR.next ⟨by first | rfl | simp only [evs, tys, evl], rfl⟩)
  · exact Imp.some (StepR.brk ⟨i_9, by first | rfl | simp only [evs, tys, evl, elim_inl, elim_inr]⟩)
theorem seinelaw8_lightParams_imp (l0 : List GParam) : Imp (seinelaw8_lightParams_B l0) (seinelaw8_lightParams_T1 O loopLim l0) (fun r v => v = (seinelaw8_lightParamsE r, [])) := by
  simp only [seinelaw8_lightParams_B, seinelaw8_lightParams_T1]
  try simp only [evs, tys]
  refine Imp.bnd (Imp.loop (seinelaw8_lightParams_l1_ok l0) ⟨by first | rfl | simp only [evs, tys, evl], rfl⟩) ?_
  rintro n_16 vy18 hy18
  obtain ⟨i_17, rfl⟩ := hy18
  refine Imp.exHit rfl (Imp.chk rfl (Imp.chk rfl ?_))
  try simp only [evs, tys]
  exact Imp.some (by first | rfl | simp only [seinelaw8_lightParamsE, evs, tys, evl])
theorem seinelaw8_lightParams_run {l0 : List GParam} {r : Int} (h : seinelaw8_lightParams_B l0 = some r) : seinelaw8_lightParams l0 = some r := by
  obtain ⟨v, hv, rfl⟩ := seinelaw8_lightParams_imp l0 r h
  exact tO_of (pair_inj seinelaw8_lightParamsEj) (OL_runD seinelaw8_lightParams_ds rfl rfl Try.func47 ((seinelaw8_lightParams_t1 _ _ l0).trans hv))

def seinelaw8_lightDirs_l1 (O : Orc) (LP : LBody → LBody) : LBody := fun s1 s1u => cnd (chkL [(.sl false), (.int .i64), (.int .i64)] s1) (cnd (chkU [] s1u)
  (cnd (decide ((intV (gt s1 2)) < (List.length (esV (gt s1 0)) : Int)))
   (bnd (ix 2 (.slice (esV (gt s1 0)) [] false) (.int .i64 (intV (gt s1 2)))) fun x10 => cnd (chk (.ref shDir) x10)
   (bnd (ix 2 (.slice (esV (gt s1 0)) [] false) (.int .i64 (intV (gt s1 2)))) fun x12 => cnd (chk (.ref shDir) x12)
   (callp O 24 [(.agg [(.int .i64 0), (.int .i64 0), (.str []), (.slice [] [] false), (.slice (esV (gt (aggV (refV x12)) 1)) [] false)])] fun x14 => cnd (chk (.int .i64) x14)
   (some (.nrm, [(.slice (esV (gt s1 0)) [] false), (.int .i64 (IntKind.wrap .i64 ((IntKind.wrap .i64 ((IntKind.wrap .i64 ((intV (gt s1 1)) + 1)) + (List.length (strV (gt (aggV (refV x10)) 0)) : Int))) + (intV x14)))), (.int .i64 (IntKind.wrap .i64 ((intV (gt s1 2)) + 1)))], [])) none) none) none)
   (some (.brk 0, [(.slice (esV (gt s1 0)) [] false), (.int .i64 (intV (gt s1 1))), (.int .i64 (intV (gt s1 2)))], []))) none) none
def seinelaw8_lightDirs_T1 (O : Orc) (LP : LBody → LBody) (l0 : List GDir) : Option (PV × UP) :=
  bnd (LP (seinelaw8_lightDirs_l1 O LP) [(.slice (List.map encDir l0) [] false), (.int .i64 0), (.int .i64 0)] []) fun y18 =>
  exIs y18.1 (some 0) (cnd (chkL [(.sl false), (.int .i64), (.int .i64)] y18.2.1) (cnd (chkU [] y18.2.2)
   (some ((.int .i64 (intV (gt y18.2.1 1))), [])) none) none)
  (none)
noncomputable def seinelaw8_lightDirs_l1T (l0 : List GDir) : (Int × Int) → Option ((Int × Int) ⊕ Int)
  | (n_8, i_9) =>
  cnd (decide (i_9 < (List.length l0 : Int)))
   (bnd (nthI l0 i_9) fun y11 =>
   bnd (nthI l0 i_9) fun y13 =>
   bnd (seinekeep_Size (GValue.mk 0 0 [] ([] : List GValue) y13.args)) fun y15 =>
   some (.inl ((IntKind.wrap .i64 ((IntKind.wrap .i64 ((IntKind.wrap .i64 (n_8 + 1)) + (List.length y11.name : Int))) + y15)), (IntKind.wrap .i64 (i_9 + 1)))))
   (some (.inr n_8))
abbrev seinelaw8_lightDirs_l1R (l0 : List GDir) (st : Int × Int) (l : List PV) (u : UP) : Prop := l = [(.slice (List.map encDir l0) [] false), (.int .i64 st.1), (.int .i64 st.2)] ∧ u = []
abbrev seinelaw8_lightDirs_l1X (l0 : List GDir) (p : Int) (r : Ex × List PV × UP) : Prop := (fun (p : Int) => ∃ (i_17 : Int), r = (Ex.brk 0, [(.slice (List.map encDir l0) [] false), (.int .i64 p), (.int .i64 i_17)], [])) p
noncomputable def seinelaw8_lightDirs_B (l0 : List GDir) : Option Int :=
  bnd (tloop (seinelaw8_lightDirs_l1T l0) (0, 0)) fun n_16 =>
  some n_16
def seinelaw8_lightDirs_ds : Decs := { decs := [(15, (.ref shDir)), (22, (.ref shDir)), (26, (.int .i64))], ups := [], loops := [(3, [], ⟨[(.sl false), (.int .i64), (.int .i64)], [], [(some 0, [(.sl false), (.int .i64), (.int .i64)], [])]⟩)] }
set_option maxRecDepth 100000 in
theorem seinelaw8_lightDirs_t1 (O : Orc) (LP : LBody → LBody) (l0 : List GDir) : evalBodyD Try.prog (MT 48) seinelaw8_lightDirs_ds Try.f48.ntmps O LP Try.f48 [(.slice (List.map encDir l0) [] false)] [] = seinelaw8_lightDirs_T1 O LP l0 := by kernel_rfl
theorem seinelaw8_lightDirs_l1_ok (l0 : List GDir) : ∀ st l u, seinelaw8_lightDirs_l1R l0 st l u → Imp (seinelaw8_lightDirs_l1T l0 st) (seinelaw8_lightDirs_l1 O loopLim l u) (StepR (seinelaw8_lightDirs_l1R l0) (seinelaw8_lightDirs_l1X l0)) := by
  rintro ⟨n_8, i_9⟩ l u ⟨rfl, rfl⟩
  simp only [seinelaw8_lightDirs_l1T, seinelaw8_lightDirs_l1]
  refine Imp.chk rfl (Imp.chk rfl ?_)
  try simp only [evs, tys]
  refine Imp.cnd ?_ ?_
  · refine Imp.op (f := fun a => .ref (encDir a)) (fun a h => op_ix (enc := encDir) (by first | rfl | simp only [evs, tys, evl]) ⟨by first | rfl | simp only [evs, tys, evc], by decide⟩ h) (fun a => chk_GDir a) fun y11 hy11 => ?_
    try simp only [evs, tys]
    refine Imp.op (f := fun a => .ref (encDir a)) (fun a h => op_ix (enc := encDir) (by first | rfl | simp only [evs, tys, evl]) ⟨by first | rfl | simp only [evs, tys, evc], by decide⟩ h) (fun a => chk_GDir a) fun y13 hy13 => ?_
    try simp only [evs, tys]
    refine Imp.call (f := seinekeep_SizeE) rfl (fun a h => by first | exact seinekeep_Size_spec h | simpa only [evs, tys, evl] using seinekeep_Size_spec h) (fun a => by first | rfl | simp only [seinekeep_SizeE, evk, chks]) fun y15 hy15 => ?_
    try simp only [seinekeep_SizeE, evs, tys]
    exact Imp.some (StepR.next ⟨by first | rfl | simp only [evs, tys, evl], rfl⟩)
  · exact Imp.some (StepR.brk ⟨i_9, by first | rfl | simp only [evs, tys, evl, elim_inl, elim_inr]⟩)
theorem seinelaw8_lightDirs_imp (l0 : List GDir) : Imp (seinelaw8_lightDirs_B l0) (seinelaw8_lightDirs_T1 O loopLim l0) (fun r v => v = (seinelaw8_lightDirsE r, [])) := by
  simp only [seinelaw8_lightDirs_B, seinelaw8_lightDirs_T1]
  try simp only [evs, tys]
  refine Imp.bnd (Imp.loop (seinelaw8_lightDirs_l1_ok l0) ⟨by first | rfl | simp only [evs, tys, evl], rfl⟩) ?_
  rintro n_16 vy18 hy18
  obtain ⟨i_17, rfl⟩ := hy18
  refine Imp.exHit rfl (Imp.chk rfl (Imp.chk rfl ?_))
  try simp only [evs, tys]
  exact Imp.some (by first | rfl | simp only [seinelaw8_lightDirsE, evs, tys, evl])
theorem seinelaw8_lightDirs_run {l0 : List GDir} {r : Int} (h : seinelaw8_lightDirs_B l0 = some r) : seinelaw8_lightDirs l0 = some r := by
  obtain ⟨v, hv, rfl⟩ := seinelaw8_lightDirs_imp l0 r h
  exact tO_of (pair_inj seinelaw8_lightDirsEj) (OL_runD seinelaw8_lightDirs_ds rfl rfl Try.func48 ((seinelaw8_lightDirs_t1 _ _ l0).trans hv))

def defs_Possible_l1 (O : Orc) (LP : LBody → LBody) : LBody := fun s3 s3u => cnd (chkL [.str, (.sl true), (.sl false), (.int .i64), (.int .i64), (.int .i64), .str, (.sl false), (.sl false), (.sl false), (.sl false), (.sl false), .str, .str] s3) (cnd (chkU [] s3u)
  (cnd (decide ((intV (gt s3 4)) < (intV (gt s3 3))))
   (bnd (ix 6 (.slice (esV (gt s3 2)) [] false) (.int .i64 (intV (gt s3 4)))) fun x12 => cnd (chk (.ref shDef) x12)
   (cnd ((intV (gt (aggV (refV x12)) 0)) == 1)
    (callp O 54 [(.slice (esV (gt (aggV (refV x12)) 2)) [] false), (.str (strV (gt s3 0)))] fun x14 => cnd (chk .bool x14)
    (cnd (boolV x14)
     (callp O 81 [(.slice (esV (gt s3 1)) [] true), (.str (strV (gt (aggV (refV x12)) 1)))] fun x16 => cnd (chk (.sl true) x16)
     (some (.nrm, [(.str (strV (gt s3 0))), (.slice (esV x16) [] true), (.slice (esV (gt s3 2)) [] false), (.int .i64 (intV (gt s3 3))), (.int .i64 (IntKind.wrap .i64 ((intV (gt s3 4)) + 1))), (.int .i64 (intV (gt s3 5))), (.str (strV (gt s3 6))), (.slice (esV (gt s3 7)) [] false), (.slice (esV (gt s3 8)) [] false), (.slice (esV (gt s3 9)) [] false), (.slice (esV (gt s3 10)) [] false), (.slice (esV (gt s3 11)) [] false), (.str (strV (gt s3 12))), (.str (strV (gt s3 13)))], [])) none)
     (some (.nrm, [(.str (strV (gt s3 0))), (.slice (esV (gt s3 1)) [] true), (.slice (esV (gt s3 2)) [] false), (.int .i64 (intV (gt s3 3))), (.int .i64 (IntKind.wrap .i64 ((intV (gt s3 4)) + 1))), (.int .i64 (intV (gt s3 5))), (.str (strV (gt s3 6))), (.slice (esV (gt s3 7)) [] false), (.slice (esV (gt s3 8)) [] false), (.slice (esV (gt s3 9)) [] false), (.slice (esV (gt s3 10)) [] false), (.slice (esV (gt s3 11)) [] false), (.str (strV (gt s3 12))), (.str (strV (gt s3 13)))], []))) none)
    (some (.nrm, [(.str (strV (gt s3 0))), (.slice (esV (gt s3 1)) [] true), (.slice (esV (gt s3 2)) [] false), (.int .i64 (intV (gt s3 3))), (.int .i64 (IntKind.wrap .i64 ((intV (gt s3 4)) + 1))), (.int .i64 (intV (gt s3 5))), (.str (strV (gt s3 6))), (.slice (esV (gt s3 7)) [] false), (.slice (esV (gt s3 8)) [] false), (.slice (esV (gt s3 9)) [] false), (.slice (esV (gt s3 10)) [] false), (.slice (esV (gt s3 11)) [] false), (.str (strV (gt s3 12))), (.str (strV (gt s3 13)))], []))) none)
   (some (.brk 1, [(.str (strV (gt s3 0))), (.slice (esV (gt s3 1)) [] true), (.slice (esV (gt s3 2)) [] false), (.int .i64 (intV (gt s3 3))), (.int .i64 (intV (gt s3 4))), (.int .i64 (intV (gt s3 5))), (.str (strV (gt s3 6))), (.slice (esV (gt s3 7)) [] false), (.slice (esV (gt s3 8)) [] false), (.slice (esV (gt s3 9)) [] false), (.slice (esV (gt s3 10)) [] false), (.slice (esV (gt s3 11)) [] false), (.str (strV (gt s3 12))), (.str (strV (gt s3 13)))], []))) none) none
def defs_Possible_l2 (O : Orc) (LP : LBody → LBody) : LBody := fun s21 s21u => cnd (chkL [(.ptr 0 2 0), (.sl true), (.sl false), (.int .i64), (.int .i64), (.int .i64), .str, (.sl false), (.sl false), (.sl false), (.sl false), (.sl false), .str, .str] s21) (cnd (chkU [] s21u)
  (cnd (decide ((intV (gt s21 4)) < (intV (gt s21 3))))
   (bnd (ix 1 (.slice (esV (gt s21 2)) [] false) (.int .i64 (intV (gt s21 4)))) fun x30 => cnd (chk (.ref .str) x30)
   (callp O 55 [(.agg [(.slice (esV (gt s21 11)) [] false), (.str (strV (gt s21 12))), (.str (strV (gt s21 13)))]), (.str (strV (refV x30))), (.slice [(.int .i64 1)] [] false)] fun x32 => cnd (chk .bool x32)
   (cnd (boolV x32)
    (callp O 81 [(.slice (esV (gt s21 1)) [] true), (.str (strV (refV x30)))] fun x34 => cnd (chk (.sl true) x34)
    (some (.nrm, [(.ptr 0 2 0), (.slice (esV x34) [] true), (.slice (esV (gt s21 2)) [] false), (.int .i64 (intV (gt s21 3))), (.int .i64 (IntKind.wrap .i64 ((intV (gt s21 4)) + 1))), (.int .i64 (intV (gt s21 5))), (.str (strV (gt s21 6))), (.slice (esV (gt s21 7)) [] false), (.slice (esV (gt s21 8)) [] false), (.slice (esV (gt s21 9)) [] false), (.slice (esV (gt s21 10)) [] false), (.slice (esV (gt s21 11)) [] false), (.str (strV (gt s21 12))), (.str (strV (gt s21 13)))], [])) none)
    (some (.nrm, [(.ptr 0 2 0), (.slice (esV (gt s21 1)) [] true), (.slice (esV (gt s21 2)) [] false), (.int .i64 (intV (gt s21 3))), (.int .i64 (IntKind.wrap .i64 ((intV (gt s21 4)) + 1))), (.int .i64 (intV (gt s21 5))), (.str (strV (gt s21 6))), (.slice (esV (gt s21 7)) [] false), (.slice (esV (gt s21 8)) [] false), (.slice (esV (gt s21 9)) [] false), (.slice (esV (gt s21 10)) [] false), (.slice (esV (gt s21 11)) [] false), (.str (strV (gt s21 12))), (.str (strV (gt s21 13)))], []))) none) none)
   (some (.brk 3, [(.ptr 0 2 0), (.slice (esV (gt s21 1)) [] true), (.slice (esV (gt s21 2)) [] false), (.int .i64 (intV (gt s21 3))), (.int .i64 (intV (gt s21 4))), (.int .i64 (intV (gt s21 5))), (.str (strV (gt s21 6))), (.slice (esV (gt s21 7)) [] false), (.slice (esV (gt s21 8)) [] false), (.slice (esV (gt s21 9)) [] false), (.slice (esV (gt s21 10)) [] false), (.slice (esV (gt s21 11)) [] false), (.str (strV (gt s21 12))), (.str (strV (gt s21 13)))], []))) none) none
def defs_Possible_T1 (O : Orc) (LP : LBody → LBody) (s : GSchema) (name : Str) : Option (PV × UP) :=
  callp O 53 [(.agg [(.slice (List.map encDef s.defs) [] false), (.str s.query), (.str s.mutation)]), (.str name)] fun x1 => cnd (chk (.tup [shDef, .bool]) x1)
  (cnd (!(boolV (gt (tupV x1) 1)))
   (some ((.slice [] [] false), []))
   (cnd ((intV (gt (aggV (gt (tupV x1) 0)) 0)) == 1)
    (some ((.slice [(.str name)] [] false), []))
    (cnd ((intV (gt (aggV (gt (tupV x1) 0)) 0)) == 2)
     (bnd (LP (defs_Possible_l1 O LP) [(.str name), (.slice [] [] true), (.slice (List.map encDef s.defs) [] false), (.int .i64 (List.length (List.map encDef s.defs) : Int)), (.int .i64 0), (.int .i64 (intV (gt (aggV (gt (tupV x1) 0)) 0))), (.str (strV (gt (aggV (gt (tupV x1) 0)) 1))), (.slice (esV (gt (aggV (gt (tupV x1) 0)) 2)) [] false), (.slice (esV (gt (aggV (gt (tupV x1) 0)) 3)) [] false), (.slice (esV (gt (aggV (gt (tupV x1) 0)) 4)) [] false), (.slice (esV (gt (aggV (gt (tupV x1) 0)) 5)) [] false), (.slice (List.map encDef s.defs) [] false), (.str s.query), (.str s.mutation)] []) fun y20 =>
     exIs y20.1 (some 1) (cnd (chkL [.str, (.sl true), (.sl false), (.int .i64), (.int .i64), (.int .i64), .str, (.sl false), (.sl false), (.sl false), (.sl false), (.sl false), .str, .str] y20.2.1) (cnd (chkU [] y20.2.2)
      (some ((.slice (esV (gt y20.2.1 1)) [] false), [])) none) none)
     (none))
     (cnd ((intV (gt (aggV (gt (tupV x1) 0)) 0)) == 3)
      (bnd (LP (defs_Possible_l2 O LP) [(.ptr 0 2 0), (.slice [] [] true), (.slice (esV (gt (aggV (gt (tupV x1) 0)) 4)) [] false), (.int .i64 (List.length (esV (gt (aggV (gt (tupV x1) 0)) 4)) : Int)), (.int .i64 0), (.int .i64 (intV (gt (aggV (gt (tupV x1) 0)) 0))), (.str (strV (gt (aggV (gt (tupV x1) 0)) 1))), (.slice (esV (gt (aggV (gt (tupV x1) 0)) 2)) [] false), (.slice (esV (gt (aggV (gt (tupV x1) 0)) 3)) [] false), (.slice (esV (gt (aggV (gt (tupV x1) 0)) 4)) [] false), (.slice (esV (gt (aggV (gt (tupV x1) 0)) 5)) [] false), (.slice (List.map encDef s.defs) [] false), (.str s.query), (.str s.mutation)] []) fun y38 =>
      exIs y38.1 (some 3) (cnd (chkL [(.ptr 0 2 0), (.sl true), (.sl false), (.int .i64), (.int .i64), (.int .i64), .str, (.sl false), (.sl false), (.sl false), (.sl false), (.sl false), .str, .str] y38.2.1) (cnd (chkU [] y38.2.2)
       (some ((.slice (esV (gt y38.2.1 1)) [] false), [])) none) none)
      (none))
      (some ((.slice [] [] false), [])))))) none
noncomputable def defs_Possible_l1T (s : GSchema) (name : Str) : ((List Str) × Int) → Option (((List Str) × Int) ⊕ ((List Str)))
  | (l_10, t_11) =>
  cnd (decide (t_11 < (List.length s.defs : Int)))
   (bnd (nthI s.defs t_11) fun y13 =>
   cnd (y13.kind == 1)
    (bnd (slices_Contains_string_string y13.faces name) fun y15 =>
    cnd y15
     (bnd (defs_add l_10 y13.name) fun y17 =>
     some (.inl (y17, (IntKind.wrap .i64 (t_11 + 1)))))
     (some (.inl (l_10, (IntKind.wrap .i64 (t_11 + 1))))))
    (some (.inl (l_10, (IntKind.wrap .i64 (t_11 + 1))))))
   (some (.inr l_10))
abbrev defs_Possible_l1R (s : GSchema) (name : Str) (y2 : GDef × Bool) (st : (List Str) × Int) (l : List PV) (u : UP) : Prop := l = [(.str name), (.slice (List.map PV.str st.1) [] true), (.slice (List.map encDef s.defs) [] false), (.int .i64 (List.length s.defs : Int)), (.int .i64 st.2), (.int .i64 y2.1.kind), (.str y2.1.name), (.slice (List.map PV.str y2.1.faces) [] false), (.slice (List.map encFieldDef y2.1.fields) [] false), (.slice (List.map PV.str y2.1.parts) [] false), (.slice (List.map encParam y2.1.params) [] false), (.slice (List.map encDef s.defs) [] false), (.str s.query), (.str s.mutation)] ∧ u = []
abbrev defs_Possible_l1X (s : GSchema) (name : Str) (y2 : GDef × Bool) (p : (List Str)) (r : Ex × List PV × UP) : Prop := (fun (p : (List Str)) => ∃ (t_19 : Int), r = (Ex.brk 1, [(.str name), (.slice (List.map PV.str p) [] true), (.slice (List.map encDef s.defs) [] false), (.int .i64 (List.length s.defs : Int)), (.int .i64 t_19), (.int .i64 y2.1.kind), (.str y2.1.name), (.slice (List.map PV.str y2.1.faces) [] false), (.slice (List.map encFieldDef y2.1.fields) [] false), (.slice (List.map PV.str y2.1.parts) [] false), (.slice (List.map encParam y2.1.params) [] false), (.slice (List.map encDef s.defs) [] false), (.str s.query), (.str s.mutation)], [])) p
noncomputable def defs_Possible_l2T (s : GSchema) (y2 : GDef × Bool) : ((List Str) × Int) → Option (((List Str) × Int) ⊕ ((List Str)))
  | (l_28, t_29) =>
  cnd (decide (t_29 < (List.length y2.1.parts : Int)))
   (bnd (nthI y2.1.parts t_29) fun y31 =>
   bnd (defs_Kind s y31 [1]) fun y33 =>
   cnd y33
    (bnd (defs_add l_28 y31) fun y35 =>
    some (.inl (y35, (IntKind.wrap .i64 (t_29 + 1)))))
    (some (.inl (l_28, (IntKind.wrap .i64 (t_29 + 1))))))
   (some (.inr l_28))
abbrev defs_Possible_l2R (s : GSchema) (name : Str) (y2 : GDef × Bool) (st : (List Str) × Int) (l : List PV) (u : UP) : Prop := l = [(.ptr 0 2 0), (.slice (List.map PV.str st.1) [] true), (.slice (List.map PV.str y2.1.parts) [] false), (.int .i64 (List.length y2.1.parts : Int)), (.int .i64 st.2), (.int .i64 y2.1.kind), (.str y2.1.name), (.slice (List.map PV.str y2.1.faces) [] false), (.slice (List.map encFieldDef y2.1.fields) [] false), (.slice (List.map PV.str y2.1.parts) [] false), (.slice (List.map encParam y2.1.params) [] false), (.slice (List.map encDef s.defs) [] false), (.str s.query), (.str s.mutation)] ∧ u = []
abbrev defs_Possible_l2X (s : GSchema) (name : Str) (y2 : GDef × Bool) (p : (List Str)) (r : Ex × List PV × UP) : Prop := (fun (p : (List Str)) => ∃ (t_37 : Int), r = (Ex.brk 3, [(.ptr 0 2 0), (.slice (List.map PV.str p) [] true), (.slice (List.map PV.str y2.1.parts) [] false), (.int .i64 (List.length y2.1.parts : Int)), (.int .i64 t_37), (.int .i64 y2.1.kind), (.str y2.1.name), (.slice (List.map PV.str y2.1.faces) [] false), (.slice (List.map encFieldDef y2.1.fields) [] false), (.slice (List.map PV.str y2.1.parts) [] false), (.slice (List.map encParam y2.1.params) [] false), (.slice (List.map encDef s.defs) [] false), (.str s.query), (.str s.mutation)], [])) p
noncomputable def defs_Possible_B (s : GSchema) (name : Str) : Option (List Str) :=
  bnd (defs_Find s name) fun y2 =>
  cnd (!y2.2)
   (some ([] : List Str))
   (cnd (y2.1.kind == 1)
    (some [name])
    (cnd (y2.1.kind == 2)
     (bnd (tloop (defs_Possible_l1T s name) ([], 0)) fun l_18 =>
     some l_18)
     (cnd (y2.1.kind == 3)
      (bnd (tloop (defs_Possible_l2T s y2) ([], 0)) fun l_36 =>
      some l_36)
      (some ([] : List Str)))))
def defs_Possible_ds : Decs := { decs := [(15, (.tup [shDef, .bool])), (33, (.ref shDef)), (42, .bool), (47, (.sl true)), (56, (.ref .str)), (61, .bool), (64, (.sl true))], ups := [], loops := [(10, [(5, 6), (2, 3)], ⟨[.str, (.sl true), (.sl false), (.int .i64), (.int .i64), (.int .i64), .str, (.sl false), (.sl false), (.sl false), (.sl false), (.sl false), .str, .str], [], [(some 1, [.str, (.sl true), (.sl false), (.int .i64), (.int .i64), (.int .i64), .str, (.sl false), (.sl false), (.sl false), (.sl false), (.sl false), .str, .str], [])]⟩), (17, [(5, 6), (2, 3)], ⟨[(.ptr 0 2 0), (.sl true), (.sl false), (.int .i64), (.int .i64), (.int .i64), .str, (.sl false), (.sl false), (.sl false), (.sl false), (.sl false), .str, .str], [], [(some 3, [(.ptr 0 2 0), (.sl true), (.sl false), (.int .i64), (.int .i64), (.int .i64), .str, (.sl false), (.sl false), (.sl false), (.sl false), (.sl false), .str, .str], [])]⟩)] }
set_option maxRecDepth 100000 in
theorem defs_Possible_t1 (O : Orc) (LP : LBody → LBody) (s : GSchema) (name : Str) : evalBodyD Try.prog (MT 49) defs_Possible_ds Try.f49.ntmps O LP Try.f49 [(.agg [(.slice (List.map encDef s.defs) [] false), (.str s.query), (.str s.mutation)]), (.str name)] [] = defs_Possible_T1 O LP s name := by kernel_rfl
theorem defs_Possible_l1_ok (s : GSchema) (name : Str) (y2 : GDef × Bool) : ∀ st l u, defs_Possible_l1R s name y2 st l u → Imp (defs_Possible_l1T s name st) (defs_Possible_l1 O loopLim l u) (StepR (defs_Possible_l1R s name y2) (defs_Possible_l1X s name y2)) := by
  rintro ⟨l_10, t_11⟩ l u ⟨rfl, rfl⟩
  simp only [defs_Possible_l1T, defs_Possible_l1]
  refine Imp.chk rfl (Imp.chk rfl ?_)
  try simp only [evs, tys]
  refine Imp.cnd ?_ ?_
  · refine Imp.op (f := fun a => .ref (encDef a)) (fun a h => op_ix (enc := encDef) (by first | rfl | simp only [evs, tys, evl]) ⟨by first | rfl | simp only [evs, tys, evc], by decide⟩ h) (fun a => chk_GDef a) fun y13 hy13 => ?_
    try simp only [evs, tys]
    refine Imp.cnd ?_ ?_
    · refine Imp.call (f := slices_Contains_string_stringE) rfl (fun a h => by first | exact slices_Contains_string_string_spec h | simpa only [evs, tys, evl] using slices_Contains_string_string_spec h) (fun a => by first | rfl | simp only [slices_Contains_string_stringE, evk, chks]) fun y15 hy15 => ?_
      try simp only [slices_Contains_string_stringE, evs, tys]
      refine Imp.cnd ?_ ?_
      · refine Imp.call (f := defs_addE) rfl (fun a h => by first | exact defs_add_spec h | simpa only [evs, tys, evl] using defs_add_spec h) (fun a => by first | rfl | simp only [defs_addE, evk, chks]) fun y17 hy17 => ?_
        try simp only [defs_addE, evs, tys]
        exact Imp.some (StepR.next ⟨by first | rfl | simp only [evs, tys, evl], rfl⟩)
      · exact Imp.some (StepR.next ⟨by first | rfl | simp only [evs, tys, evl], rfl⟩)
    · exact Imp.some (StepR.next ⟨by first | rfl | simp only [evs, tys, evl], rfl⟩)
  · exact Imp.some (StepR.brk ⟨t_11, by first | rfl | simp only [evs, tys, evl, elim_inl, elim_inr]⟩)
theorem defs_Possible_l2_ok (s : GSchema) (name : Str) (y2 : GDef × Bool) : ∀ st l u, defs_Possible_l2R s name y2 st l u → Imp (defs_Possible_l2T s y2 st) (defs_Possible_l2 O loopLim l u) (StepR (defs_Possible_l2R s name y2) (defs_Possible_l2X s name y2)) := by
  rintro ⟨l_28, t_29⟩ l u ⟨rfl, rfl⟩
  simp only [defs_Possible_l2T, defs_Possible_l2]
  refine Imp.chk rfl (Imp.chk rfl ?_)
  try simp only [evs, tys]
  refine Imp.cnd ?_ ?_
  · refine Imp.op (f := fun a => .ref (PV.str a)) (fun a h => op_ix (enc := PV.str) (by first | rfl | simp only [evs, tys, evl]) ⟨by first | rfl | simp only [evs, tys, evc], by decide⟩ h) (fun a => rfl) fun y31 hy31 => ?_
    try simp only [evs, tys]
    refine Imp.call (f := defs_KindE) rfl (fun a h => by first | exact defs_Kind_spec h | simpa only [evs, tys, evl] using defs_Kind_spec h) (fun a => by first | rfl | simp only [defs_KindE, evk, chks]) fun y33 hy33 => ?_
    try simp only [defs_KindE, evs, tys]
    refine Imp.cnd ?_ ?_
    · refine Imp.call (f := defs_addE) rfl (fun a h => by first | exact defs_add_spec h | simpa only [evs, tys, evl] using defs_add_spec h) (fun a => by first | rfl | simp only [defs_addE, evk, chks]) fun y35 hy35 => ?_
      try simp only [defs_addE, evs, tys]
      exact Imp.some (StepR.next ⟨by first | rfl | simp only [evs, tys, evl], rfl⟩)
    · exact Imp.some (StepR.next ⟨by first | rfl | simp only [evs, tys, evl], rfl⟩)
  · exact Imp.some (StepR.brk ⟨t_29, by first | rfl | simp only [evs, tys, evl, elim_inl, elim_inr]⟩)
theorem defs_Possible_imp (s : GSchema) (name : Str) : Imp (defs_Possible_B s name) (defs_Possible_T1 O loopLim s name) (fun r v => v = (defs_PossibleE r, [])) := by
  simp only [defs_Possible_B, defs_Possible_T1]
  try simp only [evs, tys]
  refine Imp.call (f := defs_FindE) rfl (fun a h => by first | exact defs_Find_spec h | simpa only [evs, tys, evl] using defs_Find_spec h) (fun a => by first | rfl | simp only [defs_FindE, evk, chks]) fun y2 hy2 => ?_
  try simp only [defs_FindE, evs, tys]
  refine Imp.cnd ?_ ?_
  · exact Imp.some (by first | rfl | simp only [defs_PossibleE, evs, tys, evl])
  · refine Imp.cnd ?_ ?_
    · exact Imp.some (by first | rfl | simp only [defs_PossibleE, evs, tys, evl])
    · refine Imp.cnd ?_ ?_
      · refine Imp.bnd (Imp.loop (defs_Possible_l1_ok s name y2) ⟨by first | rfl | simp only [evs, tys, evl], rfl⟩) ?_
        rintro l_18 vy20 hy20
        obtain ⟨t_19, rfl⟩ := hy20
        refine Imp.exHit rfl (Imp.chk rfl (Imp.chk rfl ?_))
        try simp only [evs, tys]
        exact Imp.some (by first | rfl | simp only [defs_PossibleE, evs, tys, evl])
      · refine Imp.cnd ?_ ?_
        · refine Imp.bnd (Imp.loop (defs_Possible_l2_ok s name y2) ⟨by first | rfl | simp only [evs, tys, evl], rfl⟩) ?_
          rintro l_36 vy38 hy38
          obtain ⟨t_37, rfl⟩ := hy38
          refine Imp.exHit rfl (Imp.chk rfl (Imp.chk rfl ?_))
          try simp only [evs, tys]
          exact Imp.some (by first | rfl | simp only [defs_PossibleE, evs, tys, evl])
        · exact Imp.some (by first | rfl | simp only [defs_PossibleE, evs, tys, evl])
theorem defs_Possible_run {s : GSchema} {name : Str} {r : List Str} (h : defs_Possible_B s name = some r) : defs_Possible s name = some r := by
  obtain ⟨v, hv, rfl⟩ := defs_Possible_imp s name r h
  exact tO_of (pair_inj defs_PossibleEj) (OL_runD defs_Possible_ds rfl rfl Try.func49 ((defs_Possible_t1 _ _ s name).trans hv))
end Go.Proofs.Ytgelaiohnmpjnaa

/- Printed by symgen.py: typed functions of this seat, and why they tell what the program does. -/
set_option linter.unusedVariables false
set_option linter.unusedSimpArgs false
open Go Go.Ev Go.Ev.PV
namespace Go.Proofs.Ytgelaiohnmpjnaa
def defs_Find_l1 (O : Orc) (LP : LBody → LBody) : LBody := fun s3 s3u => cnd (chkL [.str, (.ptr 0 4 0), .bool, (.sl false), (.int .i64), (.int .i64), (.int .i64), .str, (.sl true), (.sl true), (.sl true), (.sl true), (.sl false), .str, .str] s3) (cnd (chkU [] s3u)
  (cnd (decide ((intV (gt s3 5)) < (intV (gt s3 4))))
   (bnd (ix 6 (.slice (esV (gt s3 3)) [] false) (.int .i64 (intV (gt s3 5)))) fun x7 => cnd (chk (.ref shDef) x7)
   (cnd ((strV (gt (aggV (refV x7)) 1)) == (strV (gt s3 0)))
    (some (.ret, [(.str (strV (gt s3 0))), (.ptr 0 4 0), (.bool true), (.slice (esV (gt s3 3)) [] false), (.int .i64 (intV (gt s3 4))), (.int .i64 (intV (gt s3 5))), (.int .i64 (intV (gt (aggV (refV x7)) 0))), (.str (strV (gt (aggV (refV x7)) 1))), (.slice (esV (gt (aggV (refV x7)) 2)) [] false), (.slice (esV (gt (aggV (refV x7)) 3)) [] false), (.slice (esV (gt (aggV (refV x7)) 4)) [] false), (.slice (esV (gt (aggV (refV x7)) 5)) [] false), (.slice (esV (gt s3 12)) [] false), (.str (strV (gt s3 13))), (.str (strV (gt s3 14)))], []))
    (some (.nrm, [(.str (strV (gt s3 0))), (.ptr 0 4 0), (.bool (boolV (gt s3 2))), (.slice (esV (gt s3 3)) [] false), (.int .i64 (intV (gt s3 4))), (.int .i64 (IntKind.wrap .i64 ((intV (gt s3 5)) + 1))), (.int .i64 (intV (gt s3 6))), (.str (strV (gt s3 7))), (.slice (esV (gt s3 8)) [] true), (.slice (esV (gt s3 9)) [] true), (.slice (esV (gt s3 10)) [] true), (.slice (esV (gt s3 11)) [] true), (.slice (esV (gt s3 12)) [] false), (.str (strV (gt s3 13))), (.str (strV (gt s3 14)))], []))) none)
   (some (.brk 0, [(.str (strV (gt s3 0))), (.ptr 0 4 0), (.bool (boolV (gt s3 2))), (.slice (esV (gt s3 3)) [] false), (.int .i64 (intV (gt s3 4))), (.int .i64 (intV (gt s3 5))), (.int .i64 (intV (gt s3 6))), (.str (strV (gt s3 7))), (.slice (esV (gt s3 8)) [] true), (.slice (esV (gt s3 9)) [] true), (.slice (esV (gt s3 10)) [] true), (.slice (esV (gt s3 11)) [] true), (.slice (esV (gt s3 12)) [] false), (.str (strV (gt s3 13))), (.str (strV (gt s3 14)))], []))) none) none
def defs_Find_T1 (O : Orc) (LP : LBody → LBody) (s : GSchema) (name : Str) : Option (PV × UP) :=
  callp O 85 [(.str name)] fun x1 => cnd (chk .bool x1)
  (cnd (boolV x1)
   (some ((.tuple [(.agg [(.int .i64 0), (.str name), (.slice [] [] false), (.slice [] [] false), (.slice [] [] false), (.slice [] [] false)]), (.bool true)]), []))
   (bnd (LP (defs_Find_l1 O LP) [(.str name), (.ptr 0 4 0), (.bool false), (.slice (List.map encDef s.defs) [] false), (.int .i64 (List.length (List.map encDef s.defs) : Int)), (.int .i64 0), (.int .i64 0), (.str []), (.slice [] [] true), (.slice [] [] true), (.slice [] [] true), (.slice [] [] true), (.slice (List.map encDef s.defs) [] false), (.str s.query), (.str s.mutation)] []) fun y17 =>
   exIs y17.1 (some 0) (cnd (chkL [.str, (.ptr 0 4 0), .bool, (.sl false), (.int .i64), (.int .i64), (.int .i64), .str, (.sl true), (.sl true), (.sl true), (.sl true), (.sl false), .str, .str] y17.2.1) (cnd (chkU [] y17.2.2)
    (some ((.tuple [(.agg [(.int .i64 0), (.str []), (.slice [] [] false), (.slice [] [] false), (.slice [] [] false), (.slice [] [] false)]), (.bool false)]), [])) none) none)
   (exIs y17.1 none (cnd (chkL [.str, (.ptr 0 4 0), .bool, (.sl false), (.int .i64), (.int .i64), (.int .i64), .str, (.sl false), (.sl false), (.sl false), (.sl false), (.sl false), .str, .str] y17.2.1) (cnd (chkU [] y17.2.2)
    (some ((.tuple [(.agg [(.int .i64 (intV (gt y17.2.1 6))), (.str (strV (gt y17.2.1 7))), (.slice (esV (gt y17.2.1 8)) [] false), (.slice (esV (gt y17.2.1 9)) [] false), (.slice (esV (gt y17.2.1 10)) [] false), (.slice (esV (gt y17.2.1 11)) [] false)]), (.bool (boolV (gt y17.2.1 2)))]), [])) none) none)
   (none)))) none
noncomputable def defs_Find_l1T (s : GSchema) (name : Str) : Int → Option (Int ⊕ (Unit ⊕ (Int × Str × (List Str) × (List GFieldDef) × (List Str) × (List GParam))))
  | t_6 =>
  cnd (decide (t_6 < (List.length s.defs : Int)))
   (bnd (nthI s.defs t_6) fun y8 =>
   cnd (y8.name == name)
    (some (.inr (.inr (y8.kind, y8.name, y8.faces, y8.fields, y8.parts, y8.params))))
    (some (.inl (IntKind.wrap .i64 (t_6 + 1)))))
   (some (.inr (.inl ())))
abbrev defs_Find_l1R (s : GSchema) (name : Str) (st : Int) (l : List PV) (u : UP) : Prop := l = [(.str name), (.ptr 0 4 0), (.bool false), (.slice (List.map encDef s.defs) [] false), (.int .i64 (List.length s.defs : Int)), (.int .i64 st), (.int .i64 0), (.str []), (.slice [] [] true), (.slice [] [] true), (.slice [] [] true), (.slice [] [] true), (.slice (List.map encDef s.defs) [] false), (.str s.query), (.str s.mutation)] ∧ u = []
abbrev defs_Find_l1X (s : GSchema) (name : Str) (p : Unit ⊕ (Int × Str × (List Str) × (List GFieldDef) × (List Str) × (List GParam))) (r : Ex × List PV × UP) : Prop := elim p (fun (p : Unit) => ∃ (t_9 : Int), r = (Ex.brk 0, [(.str name), (.ptr 0 4 0), (.bool false), (.slice (List.map encDef s.defs) [] false), (.int .i64 (List.length s.defs : Int)), (.int .i64 t_9), (.int .i64 0), (.str []), (.slice [] [] true), (.slice [] [] true), (.slice [] [] true), (.slice [] [] true), (.slice (List.map encDef s.defs) [] false), (.str s.query), (.str s.mutation)], [])) (fun q2 => (fun (p : Int × Str × (List Str) × (List GFieldDef) × (List Str) × (List GParam)) => ∃ (t_10 : Int), r = (Ex.ret, [(.str name), (.ptr 0 4 0), (.bool true), (.slice (List.map encDef s.defs) [] false), (.int .i64 (List.length s.defs : Int)), (.int .i64 t_10), (.int .i64 p.1), (.str p.2.1), (.slice (List.map PV.str p.2.2.1) [] false), (.slice (List.map encFieldDef p.2.2.2.1) [] false), (.slice (List.map PV.str p.2.2.2.2.1) [] false), (.slice (List.map encParam p.2.2.2.2.2) [] false), (.slice (List.map encDef s.defs) [] false), (.str s.query), (.str s.mutation)], [])) q2)
noncomputable def defs_Find_B (s : GSchema) (name : Str) : Option (GDef × Bool) :=
  bnd (defs_scalar name) fun y2 =>
  cnd y2
   (some ((GDef.mk 0 name ([] : List Str) ([] : List GFieldDef) ([] : List Str) ([] : List GParam)), true))
   (bnd (tloop (defs_Find_l1T s name) 0) fun e17_2 => elim e17_2
   (fun p17 =>
    some ((GDef.mk 0 [] ([] : List Str) ([] : List GFieldDef) ([] : List Str) ([] : List GParam)), false))
   (fun p17 =>
   some ((GDef.mk p17.1 p17.2.1 p17.2.2.1 p17.2.2.2.1 p17.2.2.2.2.1 p17.2.2.2.2.2), true)))
def defs_Find_ds : Decs := { decs := [(9, .bool), (17, (.ref shDef))], ups := [], loops := [(4, [(4, 6), (2, 3)], ⟨[.str, (.ptr 0 4 0), .bool, (.sl false), (.int .i64), (.int .i64), (.int .i64), .str, (.sl true), (.sl true), (.sl true), (.sl true), (.sl false), .str, .str], [], [(some 0, [.str, (.ptr 0 4 0), .bool, (.sl false), (.int .i64), (.int .i64), (.int .i64), .str, (.sl true), (.sl true), (.sl true), (.sl true), (.sl false), .str, .str], []), (none, [.str, (.ptr 0 4 0), .bool, (.sl false), (.int .i64), (.int .i64), (.int .i64), .str, (.sl false), (.sl false), (.sl false), (.sl false), (.sl false), .str, .str], [])]⟩)] }
set_option maxRecDepth 100000 in
theorem defs_Find_t1 (O : Orc) (LP : LBody → LBody) (s : GSchema) (name : Str) : evalBodyD Try.prog (MT 53) defs_Find_ds Try.f53.ntmps O LP Try.f53 [(.agg [(.slice (List.map encDef s.defs) [] false), (.str s.query), (.str s.mutation)]), (.str name)] [] = defs_Find_T1 O LP s name := by kernel_rfl
theorem defs_Find_l1_ok (s : GSchema) (name : Str) : ∀ st l u, defs_Find_l1R s name st l u → Imp (defs_Find_l1T s name st) (defs_Find_l1 O loopLim l u) (StepR (defs_Find_l1R s name) (defs_Find_l1X s name)) := by
  rintro t_6 l u ⟨rfl, rfl⟩
  simp only [defs_Find_l1T, defs_Find_l1]
  refine Imp.chk rfl (Imp.chk rfl ?_)
  try simp only [evs, tys]
  refine Imp.cnd ?_ ?_
  · refine Imp.op (f := fun a => .ref (encDef a)) (fun a h => op_ix (enc := encDef) (by first | rfl | simp only [evs, tys, evl]) ⟨by first | rfl | simp only [evs, tys, evc], by decide⟩ h) (fun a => chk_GDef a) fun y8 hy8 => ?_
    try simp only [evs, tys]
    refine Imp.cnd ?_ ?_
    · exact Imp.some (StepR.ret ⟨t_6, by first | rfl | simp only [evs, tys, evl, elim_inl, elim_inr]⟩)
    · exact Imp.some (StepR.next ⟨by first | rfl | simp only [evs, tys, evl], rfl⟩)
  · exact Imp.some (StepR.brk ⟨t_6, by first | rfl | simp only [evs, tys, evl, elim_inl, elim_inr]⟩)
theorem defs_Find_imp (s : GSchema) (name : Str) : Imp (defs_Find_B s name) (defs_Find_T1 O loopLim s name) (fun r v => v = (defs_FindE r, [])) := by
  simp only [defs_Find_B, defs_Find_T1]
  try simp only [evs, tys]
  refine Imp.call (f := defs_scalarE) rfl (fun a h => by first | exact defs_scalar_spec h | simpa only [evs, tys, evl] using defs_scalar_spec h) (fun a => by first | rfl | simp only [defs_scalarE, evk, chks]) fun y2 hy2 => ?_
  try simp only [defs_scalarE, evs, tys]
  refine Imp.cnd ?_ ?_
  · exact Imp.some (by first | rfl | simp only [defs_FindE, evs, tys, evl])
  · refine Imp.bnd (Imp.loop (defs_Find_l1_ok s name) ⟨by first | rfl | simp only [evs, tys, evl], rfl⟩) ?_
    rintro (p | ⟨b_11, b_12, b_13, b_14, b_15, b_16⟩) vy17 hy17
    · try simp only [elim_inl, elim_inr]
      obtain ⟨t_9, rfl⟩ := hy17
      refine Imp.exHit rfl (Imp.chk rfl (Imp.chk rfl ?_))
      try simp only [evs, tys]
      exact Imp.some (by first | rfl | simp only [defs_FindE, evs, tys, evl])
    · try simp only [elim_inl, elim_inr]
      obtain ⟨t_10, rfl⟩ := hy17
      refine Imp.exMiss rfl ?_
      refine Imp.exHit rfl (Imp.chk rfl (Imp.chk rfl ?_))
      try simp only [evs, tys]
      exact Imp.some (by first | rfl | simp only [defs_FindE, evs, tys, evl])
theorem defs_Find_run {s : GSchema} {name : Str} {r : GDef × Bool} (h : defs_Find_B s name = some r) : defs_Find s name = some r := by
  obtain ⟨v, hv, rfl⟩ := defs_Find_imp s name r h
  exact tO_of (pair_inj defs_FindEj) (OL_runD defs_Find_ds rfl rfl Try.func53 ((defs_Find_t1 _ _ s name).trans hv))

def slices_Contains_string_string_T1 (O : Orc) (LP : LBody → LBody) (s : List Str) (v0 : Str) : Option (PV × UP) :=
  callp O 86 [(.slice (List.map PV.str s) [] false), (.str v0)] fun x1 => cnd (chk (.int .i64) x1)
  (some ((.bool (decide ((intV x1) ≥ 0))), [])) none
noncomputable def slices_Contains_string_string_B (s : List Str) (v0 : Str) : Option Bool :=
  bnd (slices_Index_string_string s v0) fun y2 =>
  some (decide (y2 ≥ 0))
def slices_Contains_string_string_ds : Decs := { decs := [(7, (.int .i64))], ups := [], loops := [] }
set_option maxRecDepth 100000 in
theorem slices_Contains_string_string_t1 (O : Orc) (LP : LBody → LBody) (s : List Str) (v0 : Str) : evalBodyD Try.prog (MT 54) slices_Contains_string_string_ds Try.f54.ntmps O LP Try.f54 [(.slice (List.map PV.str s) [] false), (.str v0)] [] = slices_Contains_string_string_T1 O LP s v0 := by kernel_rfl
theorem slices_Contains_string_string_imp (s : List Str) (v0 : Str) : Imp (slices_Contains_string_string_B s v0) (slices_Contains_string_string_T1 O loopLim s v0) (fun r v => v = (slices_Contains_string_stringE r, [])) := by
  simp only [slices_Contains_string_string_B, slices_Contains_string_string_T1]
  try simp only [evs, tys]
  refine Imp.call (f := slices_Index_string_stringE) rfl (fun a h => by first | exact slices_Index_string_string_spec h | simpa only [evs, tys, evl] using slices_Index_string_string_spec h) (fun a => by first | rfl | simp only [slices_Index_string_stringE, evk, chks]) fun y2 hy2 => ?_
  try simp only [slices_Index_string_stringE, evs, tys]
  exact Imp.some (by first | rfl | simp only [slices_Contains_string_stringE, evs, tys, evl])
theorem slices_Contains_string_string_run {s : List Str} {v0 : Str} {r : Bool} (h : slices_Contains_string_string_B s v0 = some r) : slices_Contains_string_string s v0 = some r := by
  obtain ⟨v, hv, rfl⟩ := slices_Contains_string_string_imp s v0 r h
  exact tO_of (pair_inj slices_Contains_string_stringEj) (OL_runD slices_Contains_string_string_ds rfl rfl Try.func54 ((slices_Contains_string_string_t1 _ _ s v0).trans hv))

def defs_Kind_T1 (O : Orc) (LP : LBody → LBody) (s : GSchema) (name : Str) (kinds : List Int) : Option (PV × UP) :=
  callp O 53 [(.agg [(.slice (List.map encDef s.defs) [] false), (.str s.query), (.str s.mutation)]), (.str name)] fun x1 => cnd (chk (.tup [shDef, .bool]) x1)
  (cnd (boolV (gt (tupV x1) 1))
   (callp O 87 [(.slice (List.map (PV.int .i64) kinds) [] false), (.int .i64 (intV (gt (aggV (gt (tupV x1) 0)) 0)))] fun x3 => cnd (chk .bool x3)
   (some ((.bool (boolV x3)), [])) none)
   (some ((.bool false), []))) none
noncomputable def defs_Kind_B (s : GSchema) (name : Str) (kinds : List Int) : Option Bool :=
  bnd (defs_Find s name) fun y2 =>
  cnd y2.2
   (bnd (slices_Contains_int_int kinds y2.1.kind) fun y4 =>
   some y4)
   (some false)
def defs_Kind_ds : Decs := { decs := [(12, (.tup [shDef, .bool])), (20, .bool)], ups := [], loops := [] }
set_option maxRecDepth 100000 in
theorem defs_Kind_t1 (O : Orc) (LP : LBody → LBody) (s : GSchema) (name : Str) (kinds : List Int) : evalBodyD Try.prog (MT 55) defs_Kind_ds Try.f55.ntmps O LP Try.f55 [(.agg [(.slice (List.map encDef s.defs) [] false), (.str s.query), (.str s.mutation)]), (.str name), (.slice (List.map (PV.int .i64) kinds) [] false)] [] = defs_Kind_T1 O LP s name kinds := by kernel_rfl
theorem defs_Kind_imp (s : GSchema) (name : Str) (kinds : List Int) : Imp (defs_Kind_B s name kinds) (defs_Kind_T1 O loopLim s name kinds) (fun r v => v = (defs_KindE r, [])) := by
  simp only [defs_Kind_B, defs_Kind_T1]
  try simp only [evs, tys]
  refine Imp.call (f := defs_FindE) rfl (fun a h => by first | exact defs_Find_spec h | simpa only [evs, tys, evl] using defs_Find_spec h) (fun a => by first | rfl | simp only [defs_FindE, evk, chks]) fun y2 hy2 => ?_
  try simp only [defs_FindE, evs, tys]
  refine Imp.cnd ?_ ?_
  · refine Imp.call (f := slices_Contains_int_intE) rfl (fun a h => by first | exact slices_Contains_int_int_spec h | simpa only [evs, tys, evl] using slices_Contains_int_int_spec h) (fun a => by first | rfl | simp only [slices_Contains_int_intE, evk, chks]) fun y4 hy4 => ?_
    try simp only [slices_Contains_int_intE, evs, tys]
    exact Imp.some (by first | rfl | simp only [defs_KindE, evs, tys, evl])
  · exact Imp.some (by first | rfl | simp only [defs_KindE, evs, tys, evl])
theorem defs_Kind_run {s : GSchema} {name : Str} {kinds : List Int} {r : Bool} (h : defs_Kind_B s name kinds = some r) : defs_Kind s name kinds = some r := by
  obtain ⟨v, hv, rfl⟩ := defs_Kind_imp s name kinds r h
  exact tO_of (pair_inj defs_KindEj) (OL_runD defs_Kind_ds rfl rfl Try.func55 ((defs_Kind_t1 _ _ s name kinds).trans hv))

def seineref1_RightType_T1 (O : Orc) (LP : LBody → LBody) (t : GType) : Option (PV × UP) :=
  callp O 88 [(.str t.name)] fun x1 => cnd (chk .bool x1)
  (cnd (boolV x1)
   (cnd (decide (t.lists ≥ 0))
    (cnd (decide (t.lists ≤ 4))
     (cnd (decide (t.musts ≥ 0))
      (bnd (bin .shl (.int .i64 2) (.int .u64 (IntKind.wrap .u64 t.lists))) fun x3 => cnd (chk (.int .i64) x3)
      (some ((.bool (decide (t.musts < (intV x3)))), [])) none)
      (some ((.bool false), [])))
     (some ((.bool false), [])))
    (some ((.bool false), [])))
   (some ((.bool false), []))) none
noncomputable def seineref1_RightType_B (t : GType) : Option Bool :=
  bnd (seineref1_Name t.name) fun y2 =>
  cnd y2
   (cnd (decide (t.lists ≥ 0))
    (cnd (decide (t.lists ≤ 4))
     (cnd (decide (t.musts ≥ 0))
      (bnd (tshl .i64 2 (IntKind.wrap .u64 t.lists)) fun y4 =>
      some (decide (t.musts < y4)))
      (some false))
     (some false))
    (some false))
   (some false)
def seineref1_RightType_ds : Decs := { decs := [(5, .bool), (27, (.int .i64))], ups := [], loops := [] }
set_option maxRecDepth 100000 in
theorem seineref1_RightType_t1 (O : Orc) (LP : LBody → LBody) (t : GType) : evalBodyD Try.prog (MT 56) seineref1_RightType_ds Try.f56.ntmps O LP Try.f56 [(.agg [(.str t.name), (.int .i64 t.lists), (.int .i64 t.musts)])] [] = seineref1_RightType_T1 O LP t := by kernel_rfl
theorem seineref1_RightType_imp (t : GType) : Imp (seineref1_RightType_B t) (seineref1_RightType_T1 O loopLim t) (fun r v => v = (seineref1_RightTypeE r, [])) := by
  simp only [seineref1_RightType_B, seineref1_RightType_T1]
  try simp only [evs, tys]
  refine Imp.call (f := seineref1_NameE) rfl (fun a h => by first | exact seineref1_Name_spec h | simpa only [evs, tys, evl] using seineref1_Name_spec h) (fun a => by first | rfl | simp only [seineref1_NameE, evk, chks]) fun y2 hy2 => ?_
  try simp only [seineref1_NameE, evs, tys]
  refine Imp.cnd ?_ ?_
  · refine Imp.cnd ?_ ?_
    · refine Imp.cnd ?_ ?_
      · refine Imp.cnd ?_ ?_
        · refine Imp.op (f := fun a => .int _ a) (fun a h => op_shl h) (fun a => rfl) fun y4 hy4 => ?_
          try simp only [evs, tys]
          exact Imp.some (by first | rfl | simp only [seineref1_RightTypeE, evs, tys, evl])
        · exact Imp.some (by first | rfl | simp only [seineref1_RightTypeE, evs, tys, evl])
      · exact Imp.some (by first | rfl | simp only [seineref1_RightTypeE, evs, tys, evl])
    · exact Imp.some (by first | rfl | simp only [seineref1_RightTypeE, evs, tys, evl])
  · exact Imp.some (by first | rfl | simp only [seineref1_RightTypeE, evs, tys, evl])
theorem seineref1_RightType_run {t : GType} {r : Bool} (h : seineref1_RightType_B t = some r) : seineref1_RightType t = some r := by
  obtain ⟨v, hv, rfl⟩ := seineref1_RightType_imp t r h
  exact tO_of (pair_inj seineref1_RightTypeEj) (OL_runD seineref1_RightType_ds rfl rfl Try.func56 ((seineref1_RightType_t1 _ _ t).trans hv))

def seineref1_SubType_T1 (O : Orc) (LP : LBody → LBody) (a : GType) (b : GType) : Option (PV × UP) :=
  callp O 56 [(.agg [(.str a.name), (.int .i64 a.lists), (.int .i64 a.musts)])] fun x1 => cnd (chk .bool x1)
  (cnd (boolV x1)
   (callp O 56 [(.agg [(.str b.name), (.int .i64 b.lists), (.int .i64 b.musts)])] fun x3 => cnd (chk .bool x3)
   (cnd (boolV x3)
    (cnd (a.name == b.name)
     (cnd (a.lists == b.lists)
      (some ((.bool ((bits .andNot .i64 b.musts a.musts) == 0)), []))
      (some ((.bool false), [])))
     (some ((.bool false), [])))
    (some ((.bool false), []))) none)
   (some ((.bool false), []))) none
noncomputable def seineref1_SubType_B (a : GType) (b : GType) : Option Bool :=
  bnd (seineref1_RightType a) fun y2 =>
  cnd y2
   (bnd (seineref1_RightType b) fun y4 =>
   cnd y4
    (cnd (a.name == b.name)
     (cnd (a.lists == b.lists)
      (some ((bits .andNot .i64 b.musts a.musts) == 0))
      (some false))
     (some false))
    (some false))
   (some false)
def seineref1_SubType_ds : Decs := { decs := [(6, .bool), (9, .bool)], ups := [], loops := [] }
set_option maxRecDepth 100000 in
theorem seineref1_SubType_t1 (O : Orc) (LP : LBody → LBody) (a : GType) (b : GType) : evalBodyD Try.prog (MT 57) seineref1_SubType_ds Try.f57.ntmps O LP Try.f57 [(.agg [(.str a.name), (.int .i64 a.lists), (.int .i64 a.musts)]), (.agg [(.str b.name), (.int .i64 b.lists), (.int .i64 b.musts)])] [] = seineref1_SubType_T1 O LP a b := by kernel_rfl
theorem seineref1_SubType_imp (a : GType) (b : GType) : Imp (seineref1_SubType_B a b) (seineref1_SubType_T1 O loopLim a b) (fun r v => v = (seineref1_SubTypeE r, [])) := by
  simp only [seineref1_SubType_B, seineref1_SubType_T1]
  try simp only [evs, tys]
  refine Imp.call (f := seineref1_RightTypeE) rfl (fun a h => by first | exact seineref1_RightType_spec h | simpa only [evs, tys, evl] using seineref1_RightType_spec h) (fun a => by first | rfl | simp only [seineref1_RightTypeE, evk, chks]) fun y2 hy2 => ?_
  try simp only [seineref1_RightTypeE, evs, tys]
  refine Imp.cnd ?_ ?_
  · refine Imp.call (f := seineref1_RightTypeE) rfl (fun a h => by first | exact seineref1_RightType_spec h | simpa only [evs, tys, evl] using seineref1_RightType_spec h) (fun a => by first | rfl | simp only [seineref1_RightTypeE, evk, chks]) fun y4 hy4 => ?_
    try simp only [seineref1_RightTypeE, evs, tys]
    refine Imp.cnd ?_ ?_
    · refine Imp.cnd ?_ ?_
      · refine Imp.cnd ?_ ?_
        · exact Imp.some (by first | rfl | simp only [seineref1_SubTypeE, evs, tys, evl])
        · exact Imp.some (by first | rfl | simp only [seineref1_SubTypeE, evs, tys, evl])
      · exact Imp.some (by first | rfl | simp only [seineref1_SubTypeE, evs, tys, evl])
    · exact Imp.some (by first | rfl | simp only [seineref1_SubTypeE, evs, tys, evl])
  · exact Imp.some (by first | rfl | simp only [seineref1_SubTypeE, evs, tys, evl])
theorem seineref1_SubType_run {a : GType} {b : GType} {r : Bool} (h : seineref1_SubType_B a b = some r) : seineref1_SubType a b = some r := by
  obtain ⟨v, hv, rfl⟩ := seineref1_SubType_imp a b r h
  exact tO_of (pair_inj seineref1_SubTypeEj) (OL_runD seineref1_SubType_ds rfl rfl Try.func57 ((seineref1_SubType_t1 _ _ a b).trans hv))

def seineref9_Find_l1 (O : Orc) (LP : LBody → LBody) : LBody := fun s3 s3u => cnd (chkL [.str, (.ptr 0 2 0), (.ptr 0 4 0), .bool, (.int .i64), (.int .i64), .str, (.sl true), (.sl true), (.sl true), (.sl true), (.sl false), .str, .str] s3) (cnd (chkU [] s3u)
  (cnd (decide ((intV (gt s3 4)) < (List.length (esV (gt s3 11)) : Int)))
   (bnd (ix 6 (.slice (esV (gt s3 11)) [] false) (.int .i64 (intV (gt s3 4)))) fun x9 => cnd (chk (.ref shDef) x9)
   (cnd ((strV (gt (aggV (refV x9)) 1)) == (strV (gt s3 0)))
    (bnd (ix 6 (.slice (esV (gt s3 11)) [] false) (.int .i64 (intV (gt s3 4)))) fun x11 => cnd (chk (.ref shDef) x11)
    (some (.ret, [(.str (strV (gt s3 0))), (.ptr 0 2 0), (.ptr 0 4 0), (.bool true), (.int .i64 (intV (gt s3 4))), (.int .i64 (intV (gt (aggV (refV x11)) 0))), (.str (strV (gt (aggV (refV x11)) 1))), (.slice (esV (gt (aggV (refV x11)) 2)) [] false), (.slice (esV (gt (aggV (refV x11)) 3)) [] false), (.slice (esV (gt (aggV (refV x11)) 4)) [] false), (.slice (esV (gt (aggV (refV x11)) 5)) [] false), (.slice (esV (gt s3 11)) [] false), (.str (strV (gt s3 12))), (.str (strV (gt s3 13)))], [])) none)
    (some (.nrm, [(.str (strV (gt s3 0))), (.ptr 0 2 0), (.ptr 0 4 0), (.bool (boolV (gt s3 3))), (.int .i64 (IntKind.wrap .i64 ((intV (gt s3 4)) + 1))), (.int .i64 (intV (gt s3 5))), (.str (strV (gt s3 6))), (.slice (esV (gt s3 7)) [] true), (.slice (esV (gt s3 8)) [] true), (.slice (esV (gt s3 9)) [] true), (.slice (esV (gt s3 10)) [] true), (.slice (esV (gt s3 11)) [] false), (.str (strV (gt s3 12))), (.str (strV (gt s3 13)))], []))) none)
   (some (.brk 0, [(.str (strV (gt s3 0))), (.ptr 0 2 0), (.ptr 0 4 0), (.bool (boolV (gt s3 3))), (.int .i64 (intV (gt s3 4))), (.int .i64 (intV (gt s3 5))), (.str (strV (gt s3 6))), (.slice (esV (gt s3 7)) [] true), (.slice (esV (gt s3 8)) [] true), (.slice (esV (gt s3 9)) [] true), (.slice (esV (gt s3 10)) [] true), (.slice (esV (gt s3 11)) [] false), (.str (strV (gt s3 12))), (.str (strV (gt s3 13)))], []))) none) none
def seineref9_Find_T1 (O : Orc) (LP : LBody → LBody) (s : GSchema) (name : Str) : Option (PV × UP) :=
  callp O 89 [(.str name)] fun x1 => cnd (chk .bool x1)
  (cnd (boolV x1)
   (some ((.tuple [(.agg [(.int .i64 0), (.str name), (.slice [] [] false), (.slice [] [] false), (.slice [] [] false), (.slice [] [] false)]), (.bool true)]), []))
   (bnd (LP (seineref9_Find_l1 O LP) [(.str name), (.ptr 0 2 0), (.ptr 0 4 0), (.bool false), (.int .i64 0), (.int .i64 0), (.str []), (.slice [] [] true), (.slice [] [] true), (.slice [] [] true), (.slice [] [] true), (.slice (List.map encDef s.defs) [] false), (.str s.query), (.str s.mutation)] []) fun y21 =>
   exIs y21.1 (some 0) (cnd (chkL [.str, (.ptr 0 2 0), (.ptr 0 4 0), .bool, (.int .i64), (.int .i64), .str, (.sl true), (.sl true), (.sl true), (.sl true), (.sl false), .str, .str] y21.2.1) (cnd (chkU [] y21.2.2)
    (some ((.tuple [(.agg [(.int .i64 0), (.str []), (.slice [] [] false), (.slice [] [] false), (.slice [] [] false), (.slice [] [] false)]), (.bool false)]), [])) none) none)
   (exIs y21.1 none (cnd (chkL [.str, (.ptr 0 2 0), (.ptr 0 4 0), .bool, (.int .i64), (.int .i64), .str, (.sl false), (.sl false), (.sl false), (.sl false), (.sl false), .str, .str] y21.2.1) (cnd (chkU [] y21.2.2)
    (some ((.tuple [(.agg [(.int .i64 (intV (gt y21.2.1 5))), (.str (strV (gt y21.2.1 6))), (.slice (esV (gt y21.2.1 7)) [] false), (.slice (esV (gt y21.2.1 8)) [] false), (.slice (esV (gt y21.2.1 9)) [] false), (.slice (esV (gt y21.2.1 10)) [] false)]), (.bool (boolV (gt y21.2.1 3)))]), [])) none) none)
   (none)))) none
noncomputable def seineref9_Find_l1T (s : GSchema) (name : Str) : Int → Option (Int ⊕ (Unit ⊕ (Int × Str × (List Str) × (List GFieldDef) × (List Str) × (List GParam))))
  | i_8 =>
  cnd (decide (i_8 < (List.length s.defs : Int)))
   (bnd (nthI s.defs i_8) fun y10 =>
   cnd (y10.name == name)
    (bnd (nthI s.defs i_8) fun y12 =>
    some (.inr (.inr (y12.kind, y12.name, y12.faces, y12.fields, y12.parts, y12.params))))
    (some (.inl (IntKind.wrap .i64 (i_8 + 1)))))
   (some (.inr (.inl ())))
abbrev seineref9_Find_l1R (s : GSchema) (name : Str) (st : Int) (l : List PV) (u : UP) : Prop := l = [(.str name), (.ptr 0 2 0), (.ptr 0 4 0), (.bool false), (.int .i64 st), (.int .i64 0), (.str []), (.slice [] [] true), (.slice [] [] true), (.slice [] [] true), (.slice [] [] true), (.slice (List.map encDef s.defs) [] false), (.str s.query), (.str s.mutation)] ∧ u = []
abbrev seineref9_Find_l1X (s : GSchema) (name : Str) (p : Unit ⊕ (Int × Str × (List Str) × (List GFieldDef) × (List Str) × (List GParam))) (r : Ex × List PV × UP) : Prop := elim p (fun (p : Unit) => ∃ (i_13 : Int), r = (Ex.brk 0, [(.str name), (.ptr 0 2 0), (.ptr 0 4 0), (.bool false), (.int .i64 i_13), (.int .i64 0), (.str []), (.slice [] [] true), (.slice [] [] true), (.slice [] [] true), (.slice [] [] true), (.slice (List.map encDef s.defs) [] false), (.str s.query), (.str s.mutation)], [])) (fun q2 => (fun (p : Int × Str × (List Str) × (List GFieldDef) × (List Str) × (List GParam)) => ∃ (i_14 : Int), r = (Ex.ret, [(.str name), (.ptr 0 2 0), (.ptr 0 4 0), (.bool true), (.int .i64 i_14), (.int .i64 p.1), (.str p.2.1), (.slice (List.map PV.str p.2.2.1) [] false), (.slice (List.map encFieldDef p.2.2.2.1) [] false), (.slice (List.map PV.str p.2.2.2.2.1) [] false), (.slice (List.map encParam p.2.2.2.2.2) [] false), (.slice (List.map encDef s.defs) [] false), (.str s.query), (.str s.mutation)], [])) q2)
noncomputable def seineref9_Find_B (s : GSchema) (name : Str) : Option (GDef × Bool) :=
  bnd (seineref9_scalar name) fun y2 =>
  cnd y2
   (some ((GDef.mk 0 name ([] : List Str) ([] : List GFieldDef) ([] : List Str) ([] : List GParam)), true))
   (bnd (tloop (seineref9_Find_l1T s name) 0) fun e21_2 => elim e21_2
   (fun p21 =>
    some ((GDef.mk 0 [] ([] : List Str) ([] : List GFieldDef) ([] : List Str) ([] : List GParam)), false))
   (fun p21 =>
   some ((GDef.mk p21.1 p21.2.1 p21.2.2.1 p21.2.2.2.1 p21.2.2.2.2.1 p21.2.2.2.2.2), true)))
def seineref9_Find_ds : Decs := { decs := [(8, .bool), (21, (.ref shDef)), (29, (.ref shDef))], ups := [], loops := [(4, [(4, 6), (2, 3)], ⟨[.str, (.ptr 0 2 0), (.ptr 0 4 0), .bool, (.int .i64), (.int .i64), .str, (.sl true), (.sl true), (.sl true), (.sl true), (.sl false), .str, .str], [], [(some 0, [.str, (.ptr 0 2 0), (.ptr 0 4 0), .bool, (.int .i64), (.int .i64), .str, (.sl true), (.sl true), (.sl true), (.sl true), (.sl false), .str, .str], []), (none, [.str, (.ptr 0 2 0), (.ptr 0 4 0), .bool, (.int .i64), (.int .i64), .str, (.sl false), (.sl false), (.sl false), (.sl false), (.sl false), .str, .str], [])]⟩)] }
set_option maxRecDepth 100000 in
theorem seineref9_Find_t1 (O : Orc) (LP : LBody → LBody) (s : GSchema) (name : Str) : evalBodyD Try.prog (MT 58) seineref9_Find_ds Try.f58.ntmps O LP Try.f58 [(.agg [(.slice (List.map encDef s.defs) [] false), (.str s.query), (.str s.mutation)]), (.str name)] [] = seineref9_Find_T1 O LP s name := by kernel_rfl
theorem seineref9_Find_l1_ok (s : GSchema) (name : Str) : ∀ st l u, seineref9_Find_l1R s name st l u → Imp (seineref9_Find_l1T s name st) (seineref9_Find_l1 O loopLim l u) (StepR (seineref9_Find_l1R s name) (seineref9_Find_l1X s name)) := by
  rintro i_8 l u ⟨rfl, rfl⟩
  simp only [seineref9_Find_l1T, seineref9_Find_l1]
  refine Imp.chk rfl (Imp.chk rfl ?_)
  try simp only [evs, tys]
  refine Imp.cnd ?_ ?_
  · refine Imp.op (f := fun a => .ref (encDef a)) (fun a h => op_ix (enc := encDef) (by first | rfl | simp only [evs, tys, evl]) ⟨by first | rfl | simp only [evs, tys, evc], by decide⟩ h) (fun a => chk_GDef a) fun y10 hy10 => ?_
    try simp only [evs, tys]
    refine Imp.cnd ?_ ?_
    · refine Imp.op (f := fun a => .ref (encDef a)) (fun a h => op_ix (enc := encDef) (by first | rfl | simp only [evs, tys, evl]) ⟨by first | rfl | simp only [evs, tys, evc], by decide⟩ h) (fun a => chk_GDef a) fun y12 hy12 => ?_
      try simp only [evs, tys]
      exact Imp.some (StepR.ret ⟨i_8, by first | rfl | simp only [evs, tys, evl, elim_inl, elim_inr]⟩)
    · exact Imp.some (StepR.next ⟨by first | rfl | simp only [evs, tys, evl], rfl⟩)
  · exact Imp.some (StepR.brk ⟨i_8, by first | rfl | simp only [evs, tys, evl, elim_inl, elim_inr]⟩)
theorem seineref9_Find_imp (s : GSchema) (name : Str) : Imp (seineref9_Find_B s name) (seineref9_Find_T1 O loopLim s name) (fun r v => v = (seineref9_FindE r, [])) := by
  simp only [seineref9_Find_B, seineref9_Find_T1]
  try simp only [evs, tys]
  refine Imp.call (f := seineref9_scalarE) rfl (fun a h => by first | exact seineref9_scalar_spec h | simpa only [evs, tys, evl] using seineref9_scalar_spec h) (fun a => by first | rfl | simp only [seineref9_scalarE, evk, chks]) fun y2 hy2 => ?_
  try simp only [seineref9_scalarE, evs, tys]
  refine Imp.cnd ?_ ?_
  · exact Imp.some (by first | rfl | simp only [seineref9_FindE, evs, tys, evl])
  · refine Imp.bnd (Imp.loop (seineref9_Find_l1_ok s name) ⟨by first | rfl | simp only [evs, tys, evl], rfl⟩) ?_
    rintro (p | ⟨b_15, b_16, b_17, b_18, b_19, b_20⟩) vy21 hy21
    · try simp only [elim_inl, elim_inr]
      obtain ⟨i_13, rfl⟩ := hy21
      refine Imp.exHit rfl (Imp.chk rfl (Imp.chk rfl ?_))
      try simp only [evs, tys]
      exact Imp.some (by first | rfl | simp only [seineref9_FindE, evs, tys, evl])
    · try simp only [elim_inl, elim_inr]
      obtain ⟨i_14, rfl⟩ := hy21
      refine Imp.exMiss rfl ?_
      refine Imp.exHit rfl (Imp.chk rfl (Imp.chk rfl ?_))
      try simp only [evs, tys]
      exact Imp.some (by first | rfl | simp only [seineref9_FindE, evs, tys, evl])
theorem seineref9_Find_run {s : GSchema} {name : Str} {r : GDef × Bool} (h : seineref9_Find_B s name = some r) : seineref9_Find s name = some r := by
  obtain ⟨v, hv, rfl⟩ := seineref9_Find_imp s name r h
  exact tO_of (pair_inj seineref9_FindEj) (OL_runD seineref9_Find_ds rfl rfl Try.func58 ((seineref9_Find_t1 _ _ s name).trans hv))
end Go.Proofs.Ytgelaiohnmpjnaa

/- Printed by symgen.py: typed functions of this seat, and why they tell what the program does. -/
set_option linter.unusedVariables false
set_option linter.unusedSimpArgs false
open Go Go.Ev Go.Ev.PV
namespace Go.Proofs.Ytgelaiohnmpjnaa
def seineref9_Possible_l1 (O : Orc) (LP : LBody → LBody) : LBody := fun s5 s5u => cnd (chkL [.str, (.ptr 0 2 0), (.sl true), (.int .i64), (.int .i64), .str, (.sl false), (.sl false), (.sl false), (.sl false), (.sl false), .str, .str] s5) (cnd (chkU [] s5u)
  (cnd (decide ((intV (gt s5 3)) < (List.length (esV (gt s5 10)) : Int)))
   (bnd (ix 6 (.slice (esV (gt s5 10)) [] false) (.int .i64 (intV (gt s5 3)))) fun x16 => cnd (chk (.ref shDef) x16)
   (cnd ((intV (gt (aggV (refV x16)) 0)) == 1)
    (callp O 59 [(.slice (esV (gt (aggV (refV x16)) 2)) [] false), (.str (strV (gt s5 0)))] fun x18 => cnd (chk .bool x18)
    (cnd (boolV x18)
     (callp O 59 [(.slice (esV (gt s5 2)) [] false), (.str (strV (gt (aggV (refV x16)) 1)))] fun x20 => cnd (chk .bool x20)
     (cnd (!(boolV x20))
      (bnd (apd 1 (.slice (esV (gt s5 2)) [] true) (.slice [(.str (strV (gt (aggV (refV x16)) 1)))] [] true)) fun x22 => cnd (chk (.sl true) x22)
      (some (.nrm, [(.str (strV (gt s5 0))), (.ptr 0 2 0), (.slice (esV x22) [] true), (.int .i64 (IntKind.wrap .i64 ((intV (gt s5 3)) + 1))), (.int .i64 (intV (gt s5 4))), (.str (strV (gt s5 5))), (.slice (esV (gt s5 6)) [] false), (.slice (esV (gt s5 7)) [] false), (.slice (esV (gt s5 8)) [] false), (.slice (esV (gt s5 9)) [] false), (.slice (esV (gt s5 10)) [] false), (.str (strV (gt s5 11))), (.str (strV (gt s5 12)))], [])) none)
      (some (.nrm, [(.str (strV (gt s5 0))), (.ptr 0 2 0), (.slice (esV (gt s5 2)) [] true), (.int .i64 (IntKind.wrap .i64 ((intV (gt s5 3)) + 1))), (.int .i64 (intV (gt s5 4))), (.str (strV (gt s5 5))), (.slice (esV (gt s5 6)) [] false), (.slice (esV (gt s5 7)) [] false), (.slice (esV (gt s5 8)) [] false), (.slice (esV (gt s5 9)) [] false), (.slice (esV (gt s5 10)) [] false), (.str (strV (gt s5 11))), (.str (strV (gt s5 12)))], []))) none)
     (some (.nrm, [(.str (strV (gt s5 0))), (.ptr 0 2 0), (.slice (esV (gt s5 2)) [] true), (.int .i64 (IntKind.wrap .i64 ((intV (gt s5 3)) + 1))), (.int .i64 (intV (gt s5 4))), (.str (strV (gt s5 5))), (.slice (esV (gt s5 6)) [] false), (.slice (esV (gt s5 7)) [] false), (.slice (esV (gt s5 8)) [] false), (.slice (esV (gt s5 9)) [] false), (.slice (esV (gt s5 10)) [] false), (.str (strV (gt s5 11))), (.str (strV (gt s5 12)))], []))) none)
    (some (.nrm, [(.str (strV (gt s5 0))), (.ptr 0 2 0), (.slice (esV (gt s5 2)) [] true), (.int .i64 (IntKind.wrap .i64 ((intV (gt s5 3)) + 1))), (.int .i64 (intV (gt s5 4))), (.str (strV (gt s5 5))), (.slice (esV (gt s5 6)) [] false), (.slice (esV (gt s5 7)) [] false), (.slice (esV (gt s5 8)) [] false), (.slice (esV (gt s5 9)) [] false), (.slice (esV (gt s5 10)) [] false), (.str (strV (gt s5 11))), (.str (strV (gt s5 12)))], []))) none)
   (some (.brk 1, [(.str (strV (gt s5 0))), (.ptr 0 2 0), (.slice (esV (gt s5 2)) [] true), (.int .i64 (intV (gt s5 3))), (.int .i64 (intV (gt s5 4))), (.str (strV (gt s5 5))), (.slice (esV (gt s5 6)) [] false), (.slice (esV (gt s5 7)) [] false), (.slice (esV (gt s5 8)) [] false), (.slice (esV (gt s5 9)) [] false), (.slice (esV (gt s5 10)) [] false), (.str (strV (gt s5 11))), (.str (strV (gt s5 12)))], []))) none) none
def seineref9_Possible_l2 (O : Orc) (LP : LBody → LBody) : LBody := fun s27 s27u => cnd (chkL [(.ptr 0 2 0), (.ptr 0 5 0), (.sl true), (.int .i64), (.int .i64), .str, (.sl false), (.sl false), (.sl false), (.sl false), (.sl false), .str, .str] s27) (cnd (chkU [] s27u)
  (cnd (decide ((intV (gt s27 3)) < (List.length (esV (gt s27 8)) : Int)))
   (bnd (ix 1 (.slice (esV (gt s27 8)) [] false) (.int .i64 (intV (gt s27 3)))) fun x42 => cnd (chk (.ref .str) x42)
   (callp O 90 [(.agg [(.slice (esV (gt s27 10)) [] false), (.str (strV (gt s27 11))), (.str (strV (gt s27 12)))]), (.str (strV (refV x42)))] fun x44 => cnd (chk .bool x44)
   (cnd (boolV x44)
    (bnd (ix 1 (.slice (esV (gt s27 8)) [] false) (.int .i64 (intV (gt s27 3)))) fun x46 => cnd (chk (.ref .str) x46)
    (callp O 59 [(.slice (esV (gt s27 2)) [] false), (.str (strV (refV x46)))] fun x48 => cnd (chk .bool x48)
    (cnd (!(boolV x48))
     (bnd (ix 1 (.slice (esV (gt s27 8)) [] false) (.int .i64 (intV (gt s27 3)))) fun x50 => cnd (chk (.ref .str) x50)
     (bnd (apd 1 (.slice (esV (gt s27 2)) [] true) (.slice [(.str (strV (refV x50)))] [] true)) fun x52 => cnd (chk (.sl true) x52)
     (some (.nrm, [(.ptr 0 2 0), (.ptr 0 5 0), (.slice (esV x52) [] true), (.int .i64 (IntKind.wrap .i64 ((intV (gt s27 3)) + 1))), (.int .i64 (intV (gt s27 4))), (.str (strV (gt s27 5))), (.slice (esV (gt s27 6)) [] false), (.slice (esV (gt s27 7)) [] false), (.slice (esV (gt s27 8)) [] false), (.slice (esV (gt s27 9)) [] false), (.slice (esV (gt s27 10)) [] false), (.str (strV (gt s27 11))), (.str (strV (gt s27 12)))], [])) none) none)
     (some (.nrm, [(.ptr 0 2 0), (.ptr 0 5 0), (.slice (esV (gt s27 2)) [] true), (.int .i64 (IntKind.wrap .i64 ((intV (gt s27 3)) + 1))), (.int .i64 (intV (gt s27 4))), (.str (strV (gt s27 5))), (.slice (esV (gt s27 6)) [] false), (.slice (esV (gt s27 7)) [] false), (.slice (esV (gt s27 8)) [] false), (.slice (esV (gt s27 9)) [] false), (.slice (esV (gt s27 10)) [] false), (.str (strV (gt s27 11))), (.str (strV (gt s27 12)))], []))) none) none)
    (some (.nrm, [(.ptr 0 2 0), (.ptr 0 5 0), (.slice (esV (gt s27 2)) [] true), (.int .i64 (IntKind.wrap .i64 ((intV (gt s27 3)) + 1))), (.int .i64 (intV (gt s27 4))), (.str (strV (gt s27 5))), (.slice (esV (gt s27 6)) [] false), (.slice (esV (gt s27 7)) [] false), (.slice (esV (gt s27 8)) [] false), (.slice (esV (gt s27 9)) [] false), (.slice (esV (gt s27 10)) [] false), (.str (strV (gt s27 11))), (.str (strV (gt s27 12)))], []))) none) none)
   (some (.brk 3, [(.ptr 0 2 0), (.ptr 0 5 0), (.slice (esV (gt s27 2)) [] true), (.int .i64 (intV (gt s27 3))), (.int .i64 (intV (gt s27 4))), (.str (strV (gt s27 5))), (.slice (esV (gt s27 6)) [] false), (.slice (esV (gt s27 7)) [] false), (.slice (esV (gt s27 8)) [] false), (.slice (esV (gt s27 9)) [] false), (.slice (esV (gt s27 10)) [] false), (.str (strV (gt s27 11))), (.str (strV (gt s27 12)))], []))) none) none
def seineref9_Possible_T1 (O : Orc) (LP : LBody → LBody) (s : GSchema) (name : Str) : Option (PV × UP) :=
  callp O 58 [(.agg [(.slice (List.map encDef s.defs) [] false), (.str s.query), (.str s.mutation)]), (.str name)] fun x1 => cnd (chk (.tup [shDef, .bool]) x1)
  (cnd (!(boolV (gt (tupV x1) 1)))
   (some ((.slice [] [] false), []))
   (cnd ((intV (gt (aggV (gt (tupV x1) 0)) 0)) == 1)
    (bnd (apd 1 (.slice [] [] true) (.slice [(.str name)] [] true)) fun x3 => cnd (chk (.sl true) x3)
    (some ((.slice (esV x3) [] false), [])) none)
    (cnd ((intV (gt (aggV (gt (tupV x1) 0)) 0)) == 2)
     (bnd (LP (seineref9_Possible_l1 O LP) [(.str name), (.ptr 0 2 0), (.slice [] [] true), (.int .i64 0), (.int .i64 (intV (gt (aggV (gt (tupV x1) 0)) 0))), (.str (strV (gt (aggV (gt (tupV x1) 0)) 1))), (.slice (esV (gt (aggV (gt (tupV x1) 0)) 2)) [] false), (.slice (esV (gt (aggV (gt (tupV x1) 0)) 3)) [] false), (.slice (esV (gt (aggV (gt (tupV x1) 0)) 4)) [] false), (.slice (esV (gt (aggV (gt (tupV x1) 0)) 5)) [] false), (.slice (List.map encDef s.defs) [] false), (.str s.query), (.str s.mutation)] []) fun y26 =>
     exIs y26.1 (some 1) (cnd (chkL [.str, (.ptr 0 2 0), (.sl true), (.int .i64), (.int .i64), .str, (.sl false), (.sl false), (.sl false), (.sl false), (.sl false), .str, .str] y26.2.1) (cnd (chkU [] y26.2.2)
      (some ((.slice (esV (gt y26.2.1 2)) [] false), [])) none) none)
     (none))
     (cnd ((intV (gt (aggV (gt (tupV x1) 0)) 0)) == 3)
      (bnd (LP (seineref9_Possible_l2 O LP) [(.ptr 0 2 0), (.ptr 0 5 0), (.slice [] [] true), (.int .i64 0), (.int .i64 (intV (gt (aggV (gt (tupV x1) 0)) 0))), (.str (strV (gt (aggV (gt (tupV x1) 0)) 1))), (.slice (esV (gt (aggV (gt (tupV x1) 0)) 2)) [] false), (.slice (esV (gt (aggV (gt (tupV x1) 0)) 3)) [] false), (.slice (esV (gt (aggV (gt (tupV x1) 0)) 4)) [] false), (.slice (esV (gt (aggV (gt (tupV x1) 0)) 5)) [] false), (.slice (List.map encDef s.defs) [] false), (.str s.query), (.str s.mutation)] []) fun y56 =>
      exIs y56.1 (some 3) (cnd (chkL [(.ptr 0 2 0), (.ptr 0 5 0), (.sl true), (.int .i64), (.int .i64), .str, (.sl false), (.sl false), (.sl false), (.sl false), (.sl false), .str, .str] y56.2.1) (cnd (chkU [] y56.2.2)
       (some ((.slice (esV (gt y56.2.1 2)) [] false), [])) none) none)
      (none))
      (some ((.slice [] [] false), [])))))) none
noncomputable def seineref9_Possible_l1T (s : GSchema) (name : Str) : ((List Str) × Int) → Option (((List Str) × Int) ⊕ ((List Str)))
  | (out_14, i_15) =>
  cnd (decide (i_15 < (List.length s.defs : Int)))
   (bnd (nthI s.defs i_15) fun y17 =>
   cnd (y17.kind == 1)
    (bnd (seineref1_Has y17.faces name) fun y19 =>
    cnd y19
     (bnd (seineref1_Has out_14 y17.name) fun y21 =>
     cnd (!y21)
      (bnd (tapp out_14 [y17.name]) fun y23 =>
      some (.inl (y23, (IntKind.wrap .i64 (i_15 + 1)))))
      (some (.inl (out_14, (IntKind.wrap .i64 (i_15 + 1))))))
     (some (.inl (out_14, (IntKind.wrap .i64 (i_15 + 1))))))
    (some (.inl (out_14, (IntKind.wrap .i64 (i_15 + 1))))))
   (some (.inr out_14))
abbrev seineref9_Possible_l1R (s : GSchema) (name : Str) (y2 : GDef × Bool) (st : (List Str) × Int) (l : List PV) (u : UP) : Prop := l = [(.str name), (.ptr 0 2 0), (.slice (List.map PV.str st.1) [] true), (.int .i64 st.2), (.int .i64 y2.1.kind), (.str y2.1.name), (.slice (List.map PV.str y2.1.faces) [] false), (.slice (List.map encFieldDef y2.1.fields) [] false), (.slice (List.map PV.str y2.1.parts) [] false), (.slice (List.map encParam y2.1.params) [] false), (.slice (List.map encDef s.defs) [] false), (.str s.query), (.str s.mutation)] ∧ u = []
abbrev seineref9_Possible_l1X (s : GSchema) (name : Str) (y2 : GDef × Bool) (p : (List Str)) (r : Ex × List PV × UP) : Prop := (fun (p : (List Str)) => ∃ (i_25 : Int), r = (Ex.brk 1, [(.str name), (.ptr 0 2 0), (.slice (List.map PV.str p) [] true), (.int .i64 i_25), (.int .i64 y2.1.kind), (.str y2.1.name), (.slice (List.map PV.str y2.1.faces) [] false), (.slice (List.map encFieldDef y2.1.fields) [] false), (.slice (List.map PV.str y2.1.parts) [] false), (.slice (List.map encParam y2.1.params) [] false), (.slice (List.map encDef s.defs) [] false), (.str s.query), (.str s.mutation)], [])) p
noncomputable def seineref9_Possible_l2T (s : GSchema) (y2 : GDef × Bool) : ((List Str) × Int) → Option (((List Str) × Int) ⊕ ((List Str)))
  | (out_40, i_41) =>
  cnd (decide (i_41 < (List.length y2.1.parts : Int)))
   (bnd (nthI y2.1.parts i_41) fun y43 =>
   bnd (seineref9_Object s y43) fun y45 =>
   cnd y45
    (bnd (nthI y2.1.parts i_41) fun y47 =>
    bnd (seineref1_Has out_40 y47) fun y49 =>
    cnd (!y49)
     (bnd (nthI y2.1.parts i_41) fun y51 =>
     bnd (tapp out_40 [y51]) fun y53 =>
     some (.inl (y53, (IntKind.wrap .i64 (i_41 + 1)))))
     (some (.inl (out_40, (IntKind.wrap .i64 (i_41 + 1))))))
    (some (.inl (out_40, (IntKind.wrap .i64 (i_41 + 1))))))
   (some (.inr out_40))
abbrev seineref9_Possible_l2R (s : GSchema) (name : Str) (y2 : GDef × Bool) (st : (List Str) × Int) (l : List PV) (u : UP) : Prop := l = [(.ptr 0 2 0), (.ptr 0 5 0), (.slice (List.map PV.str st.1) [] true), (.int .i64 st.2), (.int .i64 y2.1.kind), (.str y2.1.name), (.slice (List.map PV.str y2.1.faces) [] false), (.slice (List.map encFieldDef y2.1.fields) [] false), (.slice (List.map PV.str y2.1.parts) [] false), (.slice (List.map encParam y2.1.params) [] false), (.slice (List.map encDef s.defs) [] false), (.str s.query), (.str s.mutation)] ∧ u = []
abbrev seineref9_Possible_l2X (s : GSchema) (name : Str) (y2 : GDef × Bool) (p : (List Str)) (r : Ex × List PV × UP) : Prop := (fun (p : (List Str)) => ∃ (i_55 : Int), r = (Ex.brk 3, [(.ptr 0 2 0), (.ptr 0 5 0), (.slice (List.map PV.str p) [] true), (.int .i64 i_55), (.int .i64 y2.1.kind), (.str y2.1.name), (.slice (List.map PV.str y2.1.faces) [] false), (.slice (List.map encFieldDef y2.1.fields) [] false), (.slice (List.map PV.str y2.1.parts) [] false), (.slice (List.map encParam y2.1.params) [] false), (.slice (List.map encDef s.defs) [] false), (.str s.query), (.str s.mutation)], [])) p
noncomputable def seineref9_Possible_B (s : GSchema) (name : Str) : Option (List Str) :=
  bnd (seineref9_Find s name) fun y2 =>
  cnd (!y2.2)
   (some ([] : List Str))
   (cnd (y2.1.kind == 1)
    (bnd (tapp ([] : List Str) [name]) fun y4 =>
    some y4)
    (cnd (y2.1.kind == 2)
     (bnd (tloop (seineref9_Possible_l1T s name) ([], 0)) fun out_24 =>
     some out_24)
     (cnd (y2.1.kind == 3)
      (bnd (tloop (seineref9_Possible_l2T s y2) ([], 0)) fun out_54 =>
      some out_54)
      (some ([] : List Str)))))
def seineref9_Possible_ds : Decs := { decs := [(14, (.tup [shDef, .bool])), (27, (.sl true)), (42, (.ref shDef)), (51, .bool), (57, .bool), (64, (.sl true)), (80, (.ref .str)), (82, .bool), (88, (.ref .str)), (90, .bool), (97, (.ref .str)), (100, (.sl true))], ups := [], loops := [(8, [(5, 6), (2, 3)], ⟨[.str, (.ptr 0 2 0), (.sl true), (.int .i64), (.int .i64), .str, (.sl false), (.sl false), (.sl false), (.sl false), (.sl false), .str, .str], [], [(some 1, [.str, (.ptr 0 2 0), (.sl true), (.int .i64), (.int .i64), .str, (.sl false), (.sl false), (.sl false), (.sl false), (.sl false), .str, .str], [])]⟩), (15, [(5, 6), (2, 3)], ⟨[(.ptr 0 2 0), (.ptr 0 5 0), (.sl true), (.int .i64), (.int .i64), .str, (.sl false), (.sl false), (.sl false), (.sl false), (.sl false), .str, .str], [], [(some 3, [(.ptr 0 2 0), (.ptr 0 5 0), (.sl true), (.int .i64), (.int .i64), .str, (.sl false), (.sl false), (.sl false), (.sl false), (.sl false), .str, .str], [])]⟩)] }
set_option maxRecDepth 100000 in
theorem seineref9_Possible_t1 (O : Orc) (LP : LBody → LBody) (s : GSchema) (name : Str) : evalBodyD Try.prog (MT 60) seineref9_Possible_ds Try.f60.ntmps O LP Try.f60 [(.agg [(.slice (List.map encDef s.defs) [] false), (.str s.query), (.str s.mutation)]), (.str name)] [] = seineref9_Possible_T1 O LP s name := by kernel_rfl
theorem seineref9_Possible_l1_ok (s : GSchema) (name : Str) (y2 : GDef × Bool) : ∀ st l u, seineref9_Possible_l1R s name y2 st l u → Imp (seineref9_Possible_l1T s name st) (seineref9_Possible_l1 O loopLim l u) (StepR (seineref9_Possible_l1R s name y2) (seineref9_Possible_l1X s name y2)) := by
  rintro ⟨out_14, i_15⟩ l u ⟨rfl, rfl⟩
  simp only [seineref9_Possible_l1T, seineref9_Possible_l1]
  refine Imp.chk rfl (Imp.chk rfl ?_)
  try simp only [evs, tys]
  refine Imp.cnd ?_ ?_
  · refine Imp.op (f := fun a => .ref (encDef a)) (fun a h => op_ix (enc := encDef) (by first | rfl | simp only [evs, tys, evl]) ⟨by first | rfl | simp only [evs, tys, evc], by decide⟩ h) (fun a => chk_GDef a) fun y17 hy17 => ?_
    try simp only [evs, tys]
    refine Imp.cnd ?_ ?_
    · refine Imp.call (f := seineref1_HasE) rfl (fun a h => by first | exact seineref1_Has_spec h | simpa only [evs, tys, evl] using seineref1_Has_spec h) (fun a => by first | rfl | simp only [seineref1_HasE, evk, chks]) fun y19 hy19 => ?_
      try simp only [seineref1_HasE, evs, tys]
      refine Imp.cnd ?_ ?_
      · refine Imp.call (f := seineref1_HasE) rfl (fun a h => by first | exact seineref1_Has_spec h | simpa only [evs, tys, evl] using seineref1_Has_spec h) (fun a => by first | rfl | simp only [seineref1_HasE, evk, chks]) fun y21 hy21 => ?_
        try simp only [seineref1_HasE, evs, tys]
        refine Imp.cnd ?_ ?_
        · refine Imp.op (f := fun a => .slice (List.map PV.str a) [] true) (fun a h => op_apd (enc := PV.str) (by first | rfl | simp only [evs, tys, evl]) (by first | rfl | simp only [evs, tys, evl]) (fun a => by first | rfl | simp only [evs, tys, evc]) h) (fun a => rfl) fun y23 hy23 => ?_
          try simp only [evs, tys]
          exact Imp.some (StepR.next ⟨by first | rfl | simp only [evs, tys, evl], rfl⟩)
        · exact Imp.some (StepR.next ⟨by first | rfl | simp only [evs, tys, evl], rfl⟩)
      · exact Imp.some (StepR.next ⟨by first | rfl | simp only [evs, tys, evl], rfl⟩)
    · exact Imp.some (StepR.next ⟨by first | rfl | simp only [evs, tys, evl], rfl⟩)
  · exact Imp.some (StepR.brk ⟨i_15, by first | rfl | simp only [evs, tys, evl, elim_inl, elim_inr]⟩)
theorem seineref9_Possible_l2_ok (s : GSchema) (name : Str) (y2 : GDef × Bool) : ∀ st l u, seineref9_Possible_l2R s name y2 st l u → Imp (seineref9_Possible_l2T s y2 st) (seineref9_Possible_l2 O loopLim l u) (StepR (seineref9_Possible_l2R s name y2) (seineref9_Possible_l2X s name y2)) := by
  rintro ⟨out_40, i_41⟩ l u ⟨rfl, rfl⟩
  simp only [seineref9_Possible_l2T, seineref9_Possible_l2]
  refine Imp.chk rfl (Imp.chk rfl ?_)
  try simp only [evs, tys]
  refine Imp.cnd ?_ ?_
  · refine Imp.op (f := fun a => .ref (PV.str a)) (fun a h => op_ix (enc := PV.str) (by first | rfl | simp only [evs, tys, evl]) ⟨by first | rfl | simp only [evs, tys, evc], by decide⟩ h) (fun a => rfl) fun y43 hy43 => ?_
    try simp only [evs, tys]
    refine Imp.call (f := seineref9_ObjectE) rfl (fun a h => by first | exact seineref9_Object_spec h | simpa only [evs, tys, evl] using seineref9_Object_spec h) (fun a => by first | rfl | simp only [seineref9_ObjectE, evk, chks]) fun y45 hy45 => ?_
    try simp only [seineref9_ObjectE, evs, tys]
    refine Imp.cnd ?_ ?_
    · refine Imp.op (f := fun a => .ref (PV.str a)) (fun a h => op_ix (enc := PV.str) (by first | rfl | simp only [evs, tys, evl]) ⟨by first | rfl | simp only [evs, tys, evc], by decide⟩ h) (fun a => rfl) fun y47 hy47 => ?_
      try simp only [evs, tys]
      refine Imp.call (f := seineref1_HasE) rfl (fun a h => by first | exact seineref1_Has_spec h | simpa only [evs, tys, evl] using seineref1_Has_spec h) (fun a => by first | rfl | simp only [seineref1_HasE, evk, chks]) fun y49 hy49 => ?_
      try simp only [seineref1_HasE, evs, tys]
      refine Imp.cnd ?_ ?_
      · refine Imp.op (f := fun a => .ref (PV.str a)) (fun a h => op_ix (enc := PV.str) (by first | rfl | simp only [evs, tys, evl]) ⟨by first | rfl | simp only [evs, tys, evc], by decide⟩ h) (fun a => rfl) fun y51 hy51 => ?_
        try simp only [evs, tys]
        refine Imp.op (f := fun a => .slice (List.map PV.str a) [] true) (fun a h => op_apd (enc := PV.str) (by first | rfl | simp only [evs, tys, evl]) (by first | rfl | simp only [evs, tys, evl]) (fun a => by first | rfl | simp only [evs, tys, evc]) h) (fun a => rfl) fun y53 hy53 => ?_
        try simp only [evs, tys]
        exact Imp.some (StepR.next ⟨by first | rfl | simp only [evs, tys, evl], rfl⟩)
      · exact Imp.some (StepR.next ⟨by first | rfl | simp only [evs, tys, evl], rfl⟩)
    · exact Imp.some (StepR.next ⟨by first | rfl | simp only [evs, tys, evl], rfl⟩)
  · exact Imp.some (StepR.brk ⟨i_41, by first | rfl | simp only [evs, tys, evl, elim_inl, elim_inr]⟩)
theorem seineref9_Possible_imp (s : GSchema) (name : Str) : Imp (seineref9_Possible_B s name) (seineref9_Possible_T1 O loopLim s name) (fun r v => v = (seineref9_PossibleE r, [])) := by
  simp only [seineref9_Possible_B, seineref9_Possible_T1]
  try simp only [evs, tys]
  refine Imp.call (f := seineref9_FindE) rfl (fun a h => by first | exact seineref9_Find_spec h | simpa only [evs, tys, evl] using seineref9_Find_spec h) (fun a => by first | rfl | simp only [seineref9_FindE, evk, chks]) fun y2 hy2 => ?_
  try simp only [seineref9_FindE, evs, tys]
  refine Imp.cnd ?_ ?_
  · exact Imp.some (by first | rfl | simp only [seineref9_PossibleE, evs, tys, evl])
  · refine Imp.cnd ?_ ?_
    · refine Imp.op (f := fun a => .slice (List.map PV.str a) [] true) (fun a h => op_apd (enc := PV.str) (by first | rfl | simp only [evs, tys, evl]) (by first | rfl | simp only [evs, tys, evl]) (fun a => by first | rfl | simp only [evs, tys, evc]) h) (fun a => rfl) fun y4 hy4 => ?_
      try simp only [evs, tys]
      exact Imp.some (by first | rfl | simp only [seineref9_PossibleE, evs, tys, evl])
    · refine Imp.cnd ?_ ?_
      · refine Imp.bnd (Imp.loop (seineref9_Possible_l1_ok s name y2) ⟨by first | rfl | simp only [evs, tys, evl], rfl⟩) ?_
        rintro out_24 vy26 hy26
        obtain ⟨i_25, rfl⟩ := hy26
        refine Imp.exHit rfl (Imp.chk rfl (Imp.chk rfl ?_))
        try simp only [evs, tys]
        exact Imp.some (by first | rfl | simp only [seineref9_PossibleE, evs, tys, evl])
      · refine Imp.cnd ?_ ?_
        · refine Imp.bnd (Imp.loop (seineref9_Possible_l2_ok s name y2) ⟨by first | rfl | simp only [evs, tys, evl], rfl⟩) ?_
          rintro out_54 vy56 hy56
          obtain ⟨i_55, rfl⟩ := hy56
          refine Imp.exHit rfl (Imp.chk rfl (Imp.chk rfl ?_))
          try simp only [evs, tys]
          exact Imp.some (by first | rfl | simp only [seineref9_PossibleE, evs, tys, evl])
        · exact Imp.some (by first | rfl | simp only [seineref9_PossibleE, evs, tys, evl])
theorem seineref9_Possible_run {s : GSchema} {name : Str} {r : List Str} (h : seineref9_Possible_B s name = some r) : seineref9_Possible s name = some r := by
  obtain ⟨v, hv, rfl⟩ := seineref9_Possible_imp s name r h
  exact tO_of (pair_inj seineref9_PossibleEj) (OL_runD seineref9_Possible_ds rfl rfl Try.func60 ((seineref9_Possible_t1 _ _ s name).trans hv))

def seineref1_Has_l1 (O : Orc) (LP : LBody → LBody) : LBody := fun s1 s1u => cnd (chkL [(.sl false), .str, .bool, (.int .i64)] s1) (cnd (chkU [] s1u)
  (cnd (decide ((intV (gt s1 3)) < (List.length (esV (gt s1 0)) : Int)))
   (bnd (ix 1 (.slice (esV (gt s1 0)) [] false) (.int .i64 (intV (gt s1 3)))) fun x5 => cnd (chk (.ref .str) x5)
   (cnd ((strV (refV x5)) == (strV (gt s1 1)))
    (some (.ret, [(.slice (esV (gt s1 0)) [] false), (.str (strV (gt s1 1))), (.bool true), (.int .i64 (intV (gt s1 3)))], []))
    (some (.nrm, [(.slice (esV (gt s1 0)) [] false), (.str (strV (gt s1 1))), (.bool (boolV (gt s1 2))), (.int .i64 (IntKind.wrap .i64 ((intV (gt s1 3)) + 1)))], []))) none)
   (some (.brk 0, [(.slice (esV (gt s1 0)) [] false), (.str (strV (gt s1 1))), (.bool (boolV (gt s1 2))), (.int .i64 (intV (gt s1 3)))], []))) none) none
def seineref1_Has_T1 (O : Orc) (LP : LBody → LBody) (l0 : List Str) (s : Str) : Option (PV × UP) :=
  bnd (LP (seineref1_Has_l1 O LP) [(.slice (List.map PV.str l0) [] false), (.str s), (.bool false), (.int .i64 0)] []) fun y9 =>
  exIs y9.1 (some 0) (cnd (chkL [(.sl false), .str, .bool, (.int .i64)] y9.2.1) (cnd (chkU [] y9.2.2)
   (some ((.bool false), [])) none) none)
  (exIs y9.1 none (cnd (chkL [(.sl false), .str, .bool, (.int .i64)] y9.2.1) (cnd (chkU [] y9.2.2)
   (some ((.bool (boolV (gt y9.2.1 2))), [])) none) none)
  (none))
noncomputable def seineref1_Has_l1T (l0 : List Str) (s : Str) : Int → Option (Int ⊕ (Unit ⊕ Unit))
  | i_4 =>
  cnd (decide (i_4 < (List.length l0 : Int)))
   (bnd (nthI l0 i_4) fun y6 =>
   cnd (y6 == s)
    (some (.inr (.inr ())))
    (some (.inl (IntKind.wrap .i64 (i_4 + 1)))))
   (some (.inr (.inl ())))
abbrev seineref1_Has_l1R (l0 : List Str) (s : Str) (st : Int) (l : List PV) (u : UP) : Prop := l = [(.slice (List.map PV.str l0) [] false), (.str s), (.bool false), (.int .i64 st)] ∧ u = []
abbrev seineref1_Has_l1X (l0 : List Str) (s : Str) (p : Unit ⊕ Unit) (r : Ex × List PV × UP) : Prop := elim p (fun (p : Unit) => ∃ (i_7 : Int), r = (Ex.brk 0, [(.slice (List.map PV.str l0) [] false), (.str s), (.bool false), (.int .i64 i_7)], [])) (fun q2 => (fun (p : Unit) => ∃ (i_8 : Int), r = (Ex.ret, [(.slice (List.map PV.str l0) [] false), (.str s), (.bool true), (.int .i64 i_8)], [])) q2)
noncomputable def seineref1_Has_B (l0 : List Str) (s : Str) : Option Bool :=
  bnd (tloop (seineref1_Has_l1T l0 s) 0) fun e9_2 => elim e9_2
  (fun p9 =>
   some false)
  (fun p9 =>
  some true)
def seineref1_Has_ds : Decs := { decs := [(14, (.ref .str))], ups := [], loops := [(2, [], ⟨[(.sl false), .str, .bool, (.int .i64)], [], [(some 0, [(.sl false), .str, .bool, (.int .i64)], []), (none, [(.sl false), .str, .bool, (.int .i64)], [])]⟩)] }
set_option maxRecDepth 100000 in
theorem seineref1_Has_t1 (O : Orc) (LP : LBody → LBody) (l0 : List Str) (s : Str) : evalBodyD Try.prog (MT 59) seineref1_Has_ds Try.f59.ntmps O LP Try.f59 [(.slice (List.map PV.str l0) [] false), (.str s)] [] = seineref1_Has_T1 O LP l0 s := by kernel_rfl
theorem seineref1_Has_l1_ok (l0 : List Str) (s : Str) : ∀ st l u, seineref1_Has_l1R l0 s st l u → Imp (seineref1_Has_l1T l0 s st) (seineref1_Has_l1 O loopLim l u) (StepR (seineref1_Has_l1R l0 s) (seineref1_Has_l1X l0 s)) := by
  rintro i_4 l u ⟨rfl, rfl⟩
  simp only [seineref1_Has_l1T, seineref1_Has_l1]
  refine Imp.chk rfl (Imp.chk rfl ?_)
  try simp only [evs, tys]
  refine Imp.cnd ?_ ?_
  · refine Imp.op (f := fun a => .ref (PV.str a)) (fun a h => op_ix (enc := PV.str) (by first | rfl | simp only [evs, tys, evl]) ⟨by first | rfl | simp only [evs, tys, evc], by decide⟩ h) (fun a => rfl) fun y6 hy6 => ?_
    try simp only [evs, tys]
    refine Imp.cnd ?_ ?_
    · exact Imp.some (StepR.ret ⟨i_4, by first | rfl | simp only [evs, tys, evl, elim_inl, elim_inr]⟩)
    · exact Imp.some (StepR.next ⟨by first | rfl | simp only [evs, tys, evl], rfl⟩)
  · exact Imp.some (StepR.brk ⟨i_4, by first | rfl | simp only [evs, tys, evl, elim_inl, elim_inr]⟩)
theorem seineref1_Has_imp (l0 : List Str) (s : Str) : Imp (seineref1_Has_B l0 s) (seineref1_Has_T1 O loopLim l0 s) (fun r v => v = (seineref1_HasE r, [])) := by
  simp only [seineref1_Has_B, seineref1_Has_T1]
  try simp only [evs, tys]
  refine Imp.bnd (Imp.loop (seineref1_Has_l1_ok l0 s) ⟨by first | rfl | simp only [evs, tys, evl], rfl⟩) ?_
  rintro (p | p) vy9 hy9
  · try simp only [elim_inl, elim_inr]
    obtain ⟨i_7, rfl⟩ := hy9
    refine Imp.exHit rfl (Imp.chk rfl (Imp.chk rfl ?_))
    try simp only [evs, tys]
    exact Imp.some (by first | rfl | simp only [seineref1_HasE, evs, tys, evl])
  · try simp only [elim_inl, elim_inr]
    obtain ⟨i_8, rfl⟩ := hy9
    refine Imp.exMiss rfl ?_
    refine Imp.exHit rfl (Imp.chk rfl (Imp.chk rfl ?_))
    try simp only [evs, tys]
    exact Imp.some (by first | rfl | simp only [seineref1_HasE, evs, tys, evl])
theorem seineref1_Has_run {l0 : List Str} {s : Str} {r : Bool} (h : seineref1_Has_B l0 s = some r) : seineref1_Has l0 s = some r := by
  obtain ⟨v, hv, rfl⟩ := seineref1_Has_imp l0 s r h
  exact tO_of (pair_inj seineref1_HasEj) (OL_runD seineref1_Has_ds rfl rfl Try.func59 ((seineref1_Has_t1 _ _ l0 s).trans hv))

def letters_Name_l1 (O : Orc) (LP : LBody → LBody) : LBody := fun s1 s1u => cnd (chkL [.str, .bool, (.int .i64), (.int .i64)] s1) (cnd (chkU [] s1u)
  (cnd (decide ((intV (gt s1 3)) < (intV (gt s1 2))))
   (bnd (ixStr (.str (strV (gt s1 0))) (.int .i64 (intV (gt s1 3)))) fun x11 => cnd (chk (.int .u8) x11)
   (callp O 91 [(.int .u8 (intV x11))] fun x13 => cnd (chk .bool x13)
   (cnd (!(boolV x13))
    (cnd ((intV (gt s1 3)) == 0)
     (some (.ret, [(.str (strV (gt s1 0))), (.bool false), (.int .i64 (intV (gt s1 2))), (.int .i64 (intV (gt s1 3)))], []))
     (bnd (ixStr (.str (strV (gt s1 0))) (.int .i64 (intV (gt s1 3)))) fun x15 => cnd (chk (.int .u8) x15)
     (callp O 92 [(.int .u8 (intV x15))] fun x17 => cnd (chk .bool x17)
     (cnd (!(boolV x17))
      (some (.ret, [(.str (strV (gt s1 0))), (.bool false), (.int .i64 (intV (gt s1 2))), (.int .i64 (intV (gt s1 3)))], []))
      (some (.nrm, [(.str (strV (gt s1 0))), (.bool (boolV (gt s1 1))), (.int .i64 (intV (gt s1 2))), (.int .i64 (IntKind.wrap .i64 ((intV (gt s1 3)) + 1)))], []))) none) none))
    (some (.nrm, [(.str (strV (gt s1 0))), (.bool (boolV (gt s1 1))), (.int .i64 (intV (gt s1 2))), (.int .i64 (IntKind.wrap .i64 ((intV (gt s1 3)) + 1)))], []))) none) none)
   (some (.brk 0, [(.str (strV (gt s1 0))), (.bool (boolV (gt s1 1))), (.int .i64 (intV (gt s1 2))), (.int .i64 (intV (gt s1 3)))], []))) none) none
def letters_Name_T1 (O : Orc) (LP : LBody → LBody) (s : Str) : Option (PV × UP) :=
  bnd (LP (letters_Name_l1 O LP) [(.str s), (.bool false), (.int .i64 (List.length s : Int)), (.int .i64 0)] []) fun y21 =>
  exIs y21.1 (some 0) (cnd (chkL [.str, .bool, (.int .i64), (.int .i64)] y21.2.1) (cnd (chkU [] y21.2.2)
   (some ((.bool (!((strV (gt y21.2.1 0)) == ([] : Str)))), [])) none) none)
  (exIs y21.1 none (cnd (chkL [.str, .bool, (.int .i64), (.int .i64)] y21.2.1) (cnd (chkU [] y21.2.2)
   (some ((.bool (boolV (gt y21.2.1 1))), [])) none) none)
  (none))
noncomputable def letters_Name_l1T (s : Str) : Int → Option (Int ⊕ (Unit ⊕ Unit))
  | t_10 =>
  cnd (decide (t_10 < (List.length s : Int)))
   (bnd (nthI s t_10) fun y12 =>
   bnd (letters_Letter (y12.toNat : Int)) fun y14 =>
   cnd (!y14)
    (cnd (t_10 == 0)
     (some (.inr (.inr ())))
     (bnd (nthI s t_10) fun y16 =>
     bnd (letters_Digit (y16.toNat : Int)) fun y18 =>
     cnd (!y18)
      (some (.inr (.inr ())))
      (some (.inl (IntKind.wrap .i64 (t_10 + 1))))))
    (some (.inl (IntKind.wrap .i64 (t_10 + 1)))))
   (some (.inr (.inl ())))
abbrev letters_Name_l1R (s : Str) (st : Int) (l : List PV) (u : UP) : Prop := l = [(.str s), (.bool false), (.int .i64 (List.length s : Int)), (.int .i64 st)] ∧ u = []
abbrev letters_Name_l1X (s : Str) (p : Unit ⊕ Unit) (r : Ex × List PV × UP) : Prop := elim p (fun (p : Unit) => ∃ (t_19 : Int), r = (Ex.brk 0, [(.str s), (.bool false), (.int .i64 (List.length s : Int)), (.int .i64 t_19)], [])) (fun q2 => (fun (p : Unit) => ∃ (t_20 : Int), r = (Ex.ret, [(.str s), (.bool false), (.int .i64 (List.length s : Int)), (.int .i64 t_20)], [])) q2)
noncomputable def letters_Name_B (s : Str) : Option Bool :=
  bnd (tloop (letters_Name_l1T s) 0) fun e21_2 => elim e21_2
  (fun p21 =>
   some (!(s == ([] : Str))))
  (fun p21 =>
  some false)
def letters_Name_ds : Decs := { decs := [(11, (.int .u8)), (12, .bool), (20, (.int .u8)), (21, .bool)], ups := [], loops := [(2, [], ⟨[.str, .bool, (.int .i64), (.int .i64)], [], [(some 0, [.str, .bool, (.int .i64), (.int .i64)], []), (none, [.str, .bool, (.int .i64), (.int .i64)], [])]⟩)] }
set_option maxRecDepth 100000 in
theorem letters_Name_t1 (O : Orc) (LP : LBody → LBody) (s : Str) : evalBodyD Try.prog (MT 61) letters_Name_ds Try.f61.ntmps O LP Try.f61 [(.str s)] [] = letters_Name_T1 O LP s := by kernel_rfl
theorem letters_Name_l1_ok (s : Str) : ∀ st l u, letters_Name_l1R s st l u → Imp (letters_Name_l1T s st) (letters_Name_l1 O loopLim l u) (StepR (letters_Name_l1R s) (letters_Name_l1X s)) := by
  rintro t_10 l u ⟨rfl, rfl⟩
  simp only [letters_Name_l1T, letters_Name_l1]
  refine Imp.chk rfl (Imp.chk rfl ?_)
  try simp only [evs, tys]
  refine Imp.cnd ?_ ?_
  · refine Imp.op (f := fun a => .int .u8 (a.toNat : Int)) (fun a h => op_ixStr h) (fun a => rfl) fun y12 hy12 => ?_
    try simp only [evs, tys]
    refine Imp.call (f := letters_LetterE) rfl (fun a h => by first | exact letters_Letter_spec h | simpa only [evs, tys, evl] using letters_Letter_spec h) (fun a => by first | rfl | simp only [letters_LetterE, evk, chks]) fun y14 hy14 => ?_
    try simp only [letters_LetterE, evs, tys]
    refine Imp.cnd ?_ ?_
    · refine Imp.cnd ?_ ?_
      · exact Imp.some (StepR.ret ⟨t_10, by first | rfl | simp only [evs, tys, evl, elim_inl, elim_inr]⟩)
      · refine Imp.op (f := fun a => .int .u8 (a.toNat : Int)) (fun a h => op_ixStr h) (fun a => rfl) fun y16 hy16 => ?_
        try simp only [evs, tys]
        refine Imp.call (f := letters_DigitE) rfl (fun a h => by first | exact letters_Digit_spec h | simpa only [evs, tys, evl] using letters_Digit_spec h) (fun a => by first | rfl | simp only [letters_DigitE, evk, chks]) fun y18 hy18 => ?_
        try simp only [letters_DigitE, evs, tys]
        refine Imp.cnd ?_ ?_
        · exact Imp.some (StepR.ret ⟨t_10, by first | rfl | simp only [evs, tys, evl, elim_inl, elim_inr]⟩)
        · exact Imp.some (StepR.next ⟨by first | rfl | simp only [evs, tys, evl], rfl⟩)
    · exact Imp.some (StepR.next ⟨by first | rfl | simp only [evs, tys, evl], rfl⟩)
  · exact Imp.some (StepR.brk ⟨t_10, by first | rfl | simp only [evs, tys, evl, elim_inl, elim_inr]⟩)
theorem letters_Name_imp (s : Str) : Imp (letters_Name_B s) (letters_Name_T1 O loopLim s) (fun r v => v = (letters_NameE r, [])) := by
  simp only [letters_Name_B, letters_Name_T1]
  try simp only [evs, tys]
  refine Imp.bnd (Imp.loop (letters_Name_l1_ok s) ⟨by first | rfl | simp only [evs, tys, evl], rfl⟩) ?_
  rintro (p | p) vy21 hy21
  · try simp only [elim_inl, elim_inr]
    obtain ⟨t_19, rfl⟩ := hy21
    refine Imp.exHit rfl (Imp.chk rfl (Imp.chk rfl ?_))
    try simp only [evs, tys]
    exact Imp.some (by first | rfl | simp only [letters_NameE, evs, tys, evl])
  · try simp only [elim_inl, elim_inr]
    obtain ⟨t_20, rfl⟩ := hy21
    refine Imp.exMiss rfl ?_
    refine Imp.exHit rfl (Imp.chk rfl (Imp.chk rfl ?_))
    try simp only [evs, tys]
    exact Imp.some (by first | rfl | simp only [letters_NameE, evs, tys, evl])
theorem letters_Name_run {s : Str} {r : Bool} (h : letters_Name_B s = some r) : letters_Name s = some r := by
  obtain ⟨v, hv, rfl⟩ := letters_Name_imp s r h
  exact tO_of (pair_inj letters_NameEj) (OL_runD letters_Name_ds rfl rfl Try.func61 ((letters_Name_t1 _ _ s).trans hv))
end Go.Proofs.Ytgelaiohnmpjnaa

/- Printed by symgen.py: typed functions of this seat, and why they tell what the program does. -/
set_option linter.unusedVariables false
set_option linter.unusedSimpArgs false
open Go Go.Ev Go.Ev.PV
namespace Go.Proofs.Ytgelaiohnmpjnaa
def seinekeep_Size_l1 (O : Orc) (LP : LBody → LBody) : LBody := fun s1 s1u => cnd (chkL [(.ptr 0 1 0), (.int .i64), (.int .i64), (.int .i64), (.int .i64), .str, (.sl false), (.sl false)] s1) (cnd (chkU [] s1u)
  (cnd (decide ((intV (gt s1 2)) < (List.length (esV (gt s1 6)) : Int)))
   (bnd (ix 5 (.slice (esV (gt s1 6)) [] false) (.int .i64 (intV (gt s1 2)))) fun x8 => cnd (chk (.ref shValue) x8)
   (callp O 24 [(.agg [(.int .i64 (intV (gt (aggV (refV x8)) 0))), (.int .i64 (intV (gt (aggV (refV x8)) 1))), (.str (strV (gt (aggV (refV x8)) 2))), (.slice (esV (gt (aggV (refV x8)) 3)) [] false), (.slice (esV (gt (aggV (refV x8)) 4)) [] false)])] fun x10 => cnd (chk (.int .i64) x10)
   (some (.nrm, [(.ptr 0 1 0), (.int .i64 (IntKind.wrap .i64 ((intV (gt s1 1)) + (intV x10)))), (.int .i64 (IntKind.wrap .i64 ((intV (gt s1 2)) + 1))), (.int .i64 (intV (gt s1 3))), (.int .i64 (intV (gt s1 4))), (.str (strV (gt s1 5))), (.slice (esV (gt s1 6)) [] false), (.slice (esV (gt s1 7)) [] false)], [])) none) none)
   (some (.brk 0, [(.ptr 0 1 0), (.int .i64 (intV (gt s1 1))), (.int .i64 (intV (gt s1 2))), (.int .i64 (intV (gt s1 3))), (.int .i64 (intV (gt s1 4))), (.str (strV (gt s1 5))), (.slice (esV (gt s1 6)) [] false), (.slice (esV (gt s1 7)) [] false)], []))) none) none
def seinekeep_Size_l2 (O : Orc) (LP : LBody → LBody) : LBody := fun s15 s15u => cnd (chkL [(.ptr 0 1 0), (.int .i64), (.int .i64), (.int .i64), (.int .i64), .str, (.sl false), (.sl false)] s15) (cnd (chkU [] s15u)
  (cnd (decide ((intV (gt s15 2)) < (List.length (esV (gt s15 7)) : Int)))
   (bnd (ix 6 (.slice (esV (gt s15 7)) [] false) (.int .i64 (intV (gt s15 2)))) fun x24 => cnd (chk (.ref shMember) x24)
   (bnd (ix 6 (.slice (esV (gt s15 7)) [] false) (.int .i64 (intV (gt s15 2)))) fun x26 => cnd (chk (.ref shMember) x26)
   (callp O 24 [(.agg [(.int .i64 (intV (gt (aggV (refV x26)) 1))), (.int .i64 (intV (gt (aggV (refV x26)) 2))), (.str (strV (gt (aggV (refV x26)) 3))), (.slice (esV (gt (aggV (refV x26)) 4)) [] false), (.slice (esV (gt (aggV (refV x26)) 5)) [] false)])] fun x28 => cnd (chk (.int .i64) x28)
   (some (.nrm, [(.ptr 0 1 0), (.int .i64 (IntKind.wrap .i64 ((IntKind.wrap .i64 ((intV (gt s15 1)) + (List.length (strV (gt (aggV (refV x24)) 0)) : Int))) + (intV x28)))), (.int .i64 (IntKind.wrap .i64 ((intV (gt s15 2)) + 1))), (.int .i64 (intV (gt s15 3))), (.int .i64 (intV (gt s15 4))), (.str (strV (gt s15 5))), (.slice (esV (gt s15 6)) [] false), (.slice (esV (gt s15 7)) [] false)], [])) none) none) none)
   (some (.brk 2, [(.ptr 0 1 0), (.int .i64 (intV (gt s15 1))), (.int .i64 (intV (gt s15 2))), (.int .i64 (intV (gt s15 3))), (.int .i64 (intV (gt s15 4))), (.str (strV (gt s15 5))), (.slice (esV (gt s15 6)) [] false), (.slice (esV (gt s15 7)) [] false)], []))) none) none
def seinekeep_Size_T1 (O : Orc) (LP : LBody → LBody) (v0 : GValue) : Option (PV × UP) :=
  bnd (LP (seinekeep_Size_l1 O LP) [(.ptr 0 1 0), (.int .i64 (IntKind.wrap .i64 (1 + (List.length v0.s : Int)))), (.int .i64 0), (.int .i64 v0.kind), (.int .i64 v0.n), (.str v0.s), (.slice (List.map encValue v0.l) [] false), (.slice (List.map encMember v0.m) [] false)] []) fun y14 =>
  exIs y14.1 (some 0) (cnd (chkL [(.ptr 0 1 0), (.int .i64), (.int .i64), (.int .i64), (.int .i64), .str, (.sl false), (.sl false)] y14.2.1) (cnd (chkU [] y14.2.2)
   (bnd (LP (seinekeep_Size_l2 O LP) [(.ptr 0 1 0), (.int .i64 (intV (gt y14.2.1 1))), (.int .i64 0), (.int .i64 (intV (gt y14.2.1 3))), (.int .i64 (intV (gt y14.2.1 4))), (.str (strV (gt y14.2.1 5))), (.slice (esV (gt y14.2.1 6)) [] false), (.slice (esV (gt y14.2.1 7)) [] false)] []) fun y32 =>
   exIs y32.1 (some 2) (cnd (chkL [(.ptr 0 1 0), (.int .i64), (.int .i64), (.int .i64), (.int .i64), .str, (.sl false), (.sl false)] y32.2.1) (cnd (chkU [] y32.2.2)
    (some ((.int .i64 (intV (gt y32.2.1 1))), [])) none) none)
   (none)) none) none)
  (none)
noncomputable def seinekeep_Size_l1T (v0 : GValue) : (Int × Int) → Option ((Int × Int) ⊕ Int)
  | (n_6, i_7) =>
  cnd (decide (i_7 < (List.length v0.l : Int)))
   (bnd (nthI v0.l i_7) fun y9 =>
   bnd (seinekeep_Size y9) fun y11 =>
   some (.inl ((IntKind.wrap .i64 (n_6 + y11)), (IntKind.wrap .i64 (i_7 + 1)))))
   (some (.inr n_6))
abbrev seinekeep_Size_l1R (v0 : GValue) (st : Int × Int) (l : List PV) (u : UP) : Prop := l = [(.ptr 0 1 0), (.int .i64 st.1), (.int .i64 st.2), (.int .i64 v0.kind), (.int .i64 v0.n), (.str v0.s), (.slice (List.map encValue v0.l) [] false), (.slice (List.map encMember v0.m) [] false)] ∧ u = []
abbrev seinekeep_Size_l1X (v0 : GValue) (p : Int) (r : Ex × List PV × UP) : Prop := (fun (p : Int) => ∃ (i_13 : Int), r = (Ex.brk 0, [(.ptr 0 1 0), (.int .i64 p), (.int .i64 i_13), (.int .i64 v0.kind), (.int .i64 v0.n), (.str v0.s), (.slice (List.map encValue v0.l) [] false), (.slice (List.map encMember v0.m) [] false)], [])) p
noncomputable def seinekeep_Size_l2T (v0 : GValue) : (Int × Int) → Option ((Int × Int) ⊕ Int)
  | (n_22, i_23) =>
  cnd (decide (i_23 < (List.length v0.m : Int)))
   (bnd (nthI v0.m i_23) fun y25 =>
   bnd (nthI v0.m i_23) fun y27 =>
   bnd (seinekeep_Size y27.v) fun y29 =>
   some (.inl ((IntKind.wrap .i64 ((IntKind.wrap .i64 (n_22 + (List.length y25.name : Int))) + y29)), (IntKind.wrap .i64 (i_23 + 1)))))
   (some (.inr n_22))
abbrev seinekeep_Size_l2R (v0 : GValue) (st : Int × Int) (l : List PV) (u : UP) : Prop := l = [(.ptr 0 1 0), (.int .i64 st.1), (.int .i64 st.2), (.int .i64 v0.kind), (.int .i64 v0.n), (.str v0.s), (.slice (List.map encValue v0.l) [] false), (.slice (List.map encMember v0.m) [] false)] ∧ u = []
abbrev seinekeep_Size_l2X (v0 : GValue) (p : Int) (r : Ex × List PV × UP) : Prop := (fun (p : Int) => ∃ (i_31 : Int), r = (Ex.brk 2, [(.ptr 0 1 0), (.int .i64 p), (.int .i64 i_31), (.int .i64 v0.kind), (.int .i64 v0.n), (.str v0.s), (.slice (List.map encValue v0.l) [] false), (.slice (List.map encMember v0.m) [] false)], [])) p
noncomputable def seinekeep_Size_B (v0 : GValue) : Option Int :=
  bnd (tloop (seinekeep_Size_l1T v0) ((IntKind.wrap .i64 (1 + (List.length v0.s : Int))), 0)) fun n_12 =>
  bnd (tloop (seinekeep_Size_l2T v0) (n_12, 0)) fun n_30 =>
  some n_30
def seinekeep_Size_ds : Decs := { decs := [(21, (.ref shValue)), (23, (.int .i64)), (36, (.ref shMember)), (44, (.ref shMember)), (47, (.int .i64))], ups := [], loops := [(3, [(1, 5)], ⟨[(.ptr 0 1 0), (.int .i64), (.int .i64), (.int .i64), (.int .i64), .str, (.sl false), (.sl false)], [], [(some 0, [(.ptr 0 1 0), (.int .i64), (.int .i64), (.int .i64), (.int .i64), .str, (.sl false), (.sl false)], [])]⟩), (7, [(1, 5)], ⟨[(.ptr 0 1 0), (.int .i64), (.int .i64), (.int .i64), (.int .i64), .str, (.sl false), (.sl false)], [], [(some 2, [(.ptr 0 1 0), (.int .i64), (.int .i64), (.int .i64), (.int .i64), .str, (.sl false), (.sl false)], [])]⟩)] }
set_option maxRecDepth 100000 in
theorem seinekeep_Size_t1 (O : Orc) (LP : LBody → LBody) (v0 : GValue) : evalBodyD Try.prog (MT 24) seinekeep_Size_ds Try.f24.ntmps O LP Try.f24 [(.agg [(.int .i64 v0.kind), (.int .i64 v0.n), (.str v0.s), (.slice (List.map encValue v0.l) [] false), (.slice (List.map encMember v0.m) [] false)])] [] = seinekeep_Size_T1 O LP v0 := by kernel_rfl
theorem seinekeep_Size_l1_ok (v0 : GValue) : ∀ st l u, seinekeep_Size_l1R v0 st l u → Imp (seinekeep_Size_l1T v0 st) (seinekeep_Size_l1 O loopLim l u) (StepR (seinekeep_Size_l1R v0) (seinekeep_Size_l1X v0)) := by
  rintro ⟨n_6, i_7⟩ l u ⟨rfl, rfl⟩
  simp only [seinekeep_Size_l1T, seinekeep_Size_l1]
  refine Imp.chk rfl (Imp.chk rfl ?_)
  try simp only [evs, tys]
  refine Imp.cnd ?_ ?_
  · refine Imp.op (f := fun a => .ref (encValue a)) (fun a h => op_ix (enc := encValue) (by first | rfl | simp only [evs, tys, evl]) ⟨by first | rfl | simp only [evs, tys, evc], by decide⟩ h) (fun a => chk_GValue a) fun y9 hy9 => ?_
    try simp only [evs, tys]
    refine Imp.call (f := seinekeep_SizeE) rfl (fun a h => by first | exact seinekeep_Size_spec h | simpa only [evs, tys, evl] using seinekeep_Size_spec h) (fun a => by first | rfl | simp only [seinekeep_SizeE, evk, chks]) fun y11 hy11 => ?_
    try simp only [seinekeep_SizeE, evs, tys]
    exact Imp.some (StepR.next ⟨by first | rfl | simp only [evs, tys, evl], rfl⟩)
  · exact Imp.some (StepR.brk ⟨i_7, by first | rfl | simp only [evs, tys, evl, elim_inl, elim_inr]⟩)
theorem seinekeep_Size_l2_ok (v0 : GValue) : ∀ st l u, seinekeep_Size_l2R v0 st l u → Imp (seinekeep_Size_l2T v0 st) (seinekeep_Size_l2 O loopLim l u) (StepR (seinekeep_Size_l2R v0) (seinekeep_Size_l2X v0)) := by
  rintro ⟨n_22, i_23⟩ l u ⟨rfl, rfl⟩
  simp only [seinekeep_Size_l2T, seinekeep_Size_l2]
  refine Imp.chk rfl (Imp.chk rfl ?_)
  try simp only [evs, tys]
  refine Imp.cnd ?_ ?_
  · refine Imp.op (f := fun a => .ref (encMember a)) (fun a h => op_ix (enc := encMember) (by first | rfl | simp only [evs, tys, evl]) ⟨by first | rfl | simp only [evs, tys, evc], by decide⟩ h) (fun a => chk_GMember a) fun y25 hy25 => ?_
    try simp only [evs, tys]
    refine Imp.op (f := fun a => .ref (encMember a)) (fun a h => op_ix (enc := encMember) (by first | rfl | simp only [evs, tys, evl]) ⟨by first | rfl | simp only [evs, tys, evc], by decide⟩ h) (fun a => chk_GMember a) fun y27 hy27 => ?_
    try simp only [evs, tys]
    refine Imp.call (f := seinekeep_SizeE) rfl (fun a h => by first | exact seinekeep_Size_spec h | simpa only [evs, tys, evl] using seinekeep_Size_spec h) (fun a => by first | rfl | simp only [seinekeep_SizeE, evk, chks]) fun y29 hy29 => ?_
    try simp only [seinekeep_SizeE, evs, tys]
    exact Imp.some (StepR.next ⟨by first | rfl | simp only [evs, tys, evl], rfl⟩)
  · exact Imp.some (StepR.brk ⟨i_23, by first | rfl | simp only [evs, tys, evl, elim_inl, elim_inr]⟩)
theorem seinekeep_Size_imp (v0 : GValue) : Imp (seinekeep_Size_B v0) (seinekeep_Size_T1 O loopLim v0) (fun r v => v = (seinekeep_SizeE r, [])) := by
  simp only [seinekeep_Size_B, seinekeep_Size_T1]
  try simp only [evs, tys]
  refine Imp.bnd (Imp.loop (seinekeep_Size_l1_ok v0) ⟨by first | rfl | simp only [evs, tys, evl], rfl⟩) ?_
  rintro n_12 vy14 hy14
  obtain ⟨i_13, rfl⟩ := hy14
  refine Imp.exHit rfl (Imp.chk rfl (Imp.chk rfl ?_))
  try simp only [evs, tys]
  refine Imp.bnd (Imp.loop (seinekeep_Size_l2_ok v0) ⟨by first | rfl | simp only [evs, tys, evl], rfl⟩) ?_
  rintro n_30 vy32 hy32
  obtain ⟨i_31, rfl⟩ := hy32
  refine Imp.exHit rfl (Imp.chk rfl (Imp.chk rfl ?_))
  try simp only [evs, tys]
  exact Imp.some (by first | rfl | simp only [seinekeep_SizeE, evs, tys, evl])
theorem seinekeep_Size_run {v0 : GValue} {r : Int} (h : seinekeep_Size_B v0 = some r) : seinekeep_Size v0 = some r := by
  obtain ⟨v, hv, rfl⟩ := seinekeep_Size_imp v0 r h
  exact tO_of (pair_inj seinekeep_SizeEj) (OL_runD seinekeep_Size_ds rfl rfl Try.func24 ((seinekeep_Size_t1 _ _ v0).trans hv))

def defs_add_T1 (O : Orc) (LP : LBody → LBody) (l0 : List Str) (name : Str) : Option (PV × UP) :=
  callp O 54 [(.slice (List.map PV.str l0) [] false), (.str name)] fun x1 => cnd (chk .bool x1)
  (cnd (boolV x1)
   (some ((.slice (List.map PV.str l0) [] true), []))
   (bnd (apd 1 (.slice (List.map PV.str l0) [] true) (.slice [(.str name)] [] true)) fun x3 => cnd (chk (.sl true) x3)
   (some ((.slice (esV x3) [] true), [])) none)) none
noncomputable def defs_add_B (l0 : List Str) (name : Str) : Option (List Str) :=
  bnd (slices_Contains_string_string l0 name) fun y2 =>
  cnd y2
   (some l0)
   (bnd (tapp l0 [name]) fun y4 =>
   some y4)
def defs_add_ds : Decs := { decs := [(7, .bool), (12, (.sl true))], ups := [], loops := [] }
set_option maxRecDepth 100000 in
theorem defs_add_t1 (O : Orc) (LP : LBody → LBody) (l0 : List Str) (name : Str) : evalBodyD Try.prog (MT 81) defs_add_ds Try.f81.ntmps O LP Try.f81 [(.slice (List.map PV.str l0) [] true), (.str name)] [] = defs_add_T1 O LP l0 name := by kernel_rfl
theorem defs_add_imp (l0 : List Str) (name : Str) : Imp (defs_add_B l0 name) (defs_add_T1 O loopLim l0 name) (fun r v => v = (defs_addE r, [])) := by
  simp only [defs_add_B, defs_add_T1]
  try simp only [evs, tys]
  refine Imp.call (f := slices_Contains_string_stringE) rfl (fun a h => by first | exact slices_Contains_string_string_spec h | simpa only [evs, tys, evl] using slices_Contains_string_string_spec h) (fun a => by first | rfl | simp only [slices_Contains_string_stringE, evk, chks]) fun y2 hy2 => ?_
  try simp only [slices_Contains_string_stringE, evs, tys]
  refine Imp.cnd ?_ ?_
  · exact Imp.some (by first | rfl | simp only [defs_addE, evs, tys, evl])
  · refine Imp.op (f := fun a => .slice (List.map PV.str a) [] true) (fun a h => op_apd (enc := PV.str) (by first | rfl | simp only [evs, tys, evl]) (by first | rfl | simp only [evs, tys, evl]) (fun a => by first | rfl | simp only [evs, tys, evc]) h) (fun a => rfl) fun y4 hy4 => ?_
    try simp only [evs, tys]
    exact Imp.some (by first | rfl | simp only [defs_addE, evs, tys, evl])
theorem defs_add_run {l0 : List Str} {name : Str} {r : List Str} (h : defs_add_B l0 name = some r) : defs_add l0 name = some r := by
  obtain ⟨v, hv, rfl⟩ := defs_add_imp l0 name r h
  exact tO_of (pair_inj defs_addEj) (OL_runD defs_add_ds rfl rfl Try.func81 ((defs_add_t1 _ _ l0 name).trans hv))

def defs_scalar_T1 (O : Orc) (LP : LBody → LBody) (name : Str) : Option (PV × UP) :=
  cnd (name == ([73, 110, 116] : Str))
   (some ((.bool true), []))
   (cnd (name == ([83, 116, 114, 105, 110, 103] : Str))
    (some ((.bool true), []))
    (cnd (name == ([66, 111, 111, 108, 101, 97, 110] : Str))
     (some ((.bool true), []))
     (some ((.bool (name == ([73, 68] : Str))), []))))
noncomputable def defs_scalar_B (name : Str) : Option Bool :=
  cnd (name == ([73, 110, 116] : Str))
   (some true)
   (cnd (name == ([83, 116, 114, 105, 110, 103] : Str))
    (some true)
    (cnd (name == ([66, 111, 111, 108, 101, 97, 110] : Str))
     (some true)
     (some (name == ([73, 68] : Str)))))
def defs_scalar_ds : Decs := { decs := [], ups := [], loops := [] }
set_option maxRecDepth 100000 in
theorem defs_scalar_t1 (O : Orc) (LP : LBody → LBody) (name : Str) : evalBodyD Try.prog (MT 85) defs_scalar_ds Try.f85.ntmps O LP Try.f85 [(.str name)] [] = defs_scalar_T1 O LP name := by kernel_rfl
theorem defs_scalar_imp (name : Str) : Imp (defs_scalar_B name) (defs_scalar_T1 O loopLim name) (fun r v => v = (defs_scalarE r, [])) := by
  simp only [defs_scalar_B, defs_scalar_T1]
  try simp only [evs, tys]
  refine Imp.cnd ?_ ?_
  · exact Imp.some (by first | rfl | simp only [defs_scalarE, evs, tys, evl])
  · refine Imp.cnd ?_ ?_
    · exact Imp.some (by first | rfl | simp only [defs_scalarE, evs, tys, evl])
    · refine Imp.cnd ?_ ?_
      · exact Imp.some (by first | rfl | simp only [defs_scalarE, evs, tys, evl])
      · exact Imp.some (by first | rfl | simp only [defs_scalarE, evs, tys, evl])
theorem defs_scalar_run {name : Str} {r : Bool} (h : defs_scalar_B name = some r) : defs_scalar name = some r := by
  obtain ⟨v, hv, rfl⟩ := defs_scalar_imp name r h
  exact tO_of (pair_inj defs_scalarEj) (OL_runD defs_scalar_ds rfl rfl Try.func85 ((defs_scalar_t1 _ _ name).trans hv))

def slices_Index_string_string_l1 (O : Orc) (LP : LBody → LBody) : LBody := fun s1 s1u => cnd (chkL [(.sl false), .str, (.int .i64), (.int .i64), (.int .i64)] s1) (cnd (chkU [] s1u)
  (cnd (decide ((intV (gt s1 4)) < (intV (gt s1 3))))
   (bnd (ix 1 (.slice (esV (gt s1 0)) [] false) (.int .i64 (intV (gt s1 4)))) fun x5 => cnd (chk (.ref .str) x5)
   (cnd ((strV (gt s1 1)) == (strV (refV x5)))
    (some (.ret, [(.slice (esV (gt s1 0)) [] false), (.str (strV (gt s1 1))), (.int .i64 (intV (gt s1 4))), (.int .i64 (intV (gt s1 3))), (.int .i64 (intV (gt s1 4)))], []))
    (some (.nrm, [(.slice (esV (gt s1 0)) [] false), (.str (strV (gt s1 1))), (.int .i64 (intV (gt s1 2))), (.int .i64 (intV (gt s1 3))), (.int .i64 (IntKind.wrap .i64 ((intV (gt s1 4)) + 1)))], []))) none)
   (some (.brk 0, [(.slice (esV (gt s1 0)) [] false), (.str (strV (gt s1 1))), (.int .i64 (intV (gt s1 2))), (.int .i64 (intV (gt s1 3))), (.int .i64 (intV (gt s1 4)))], []))) none) none
def slices_Index_string_string_T1 (O : Orc) (LP : LBody → LBody) (s : List Str) (v0 : Str) : Option (PV × UP) :=
  bnd (LP (slices_Index_string_string_l1 O LP) [(.slice (List.map PV.str s) [] false), (.str v0), (.int .i64 0), (.int .i64 (List.length (List.map PV.str s) : Int)), (.int .i64 0)] []) fun y10 =>
  exIs y10.1 (some 0) (cnd (chkL [(.sl false), .str, (.int .i64), (.int .i64), (.int .i64)] y10.2.1) (cnd (chkU [] y10.2.2)
   (some ((.int .i64 (-1)), [])) none) none)
  (exIs y10.1 none (cnd (chkL [(.sl false), .str, (.int .i64), (.int .i64), (.int .i64)] y10.2.1) (cnd (chkU [] y10.2.2)
   (some ((.int .i64 (intV (gt y10.2.1 2))), [])) none) none)
  (none))
noncomputable def slices_Index_string_string_l1T (s : List Str) (v0 : Str) : Int → Option (Int ⊕ (Unit ⊕ Int))
  | t_4 =>
  cnd (decide (t_4 < (List.length s : Int)))
   (bnd (nthI s t_4) fun y6 =>
   cnd (v0 == y6)
    (some (.inr (.inr t_4)))
    (some (.inl (IntKind.wrap .i64 (t_4 + 1)))))
   (some (.inr (.inl ())))
abbrev slices_Index_string_string_l1R (s : List Str) (v0 : Str) (st : Int) (l : List PV) (u : UP) : Prop := l = [(.slice (List.map PV.str s) [] false), (.str v0), (.int .i64 0), (.int .i64 (List.length s : Int)), (.int .i64 st)] ∧ u = []
abbrev slices_Index_string_string_l1X (s : List Str) (v0 : Str) (p : Unit ⊕ Int) (r : Ex × List PV × UP) : Prop := elim p (fun (p : Unit) => ∃ (t_7 : Int), r = (Ex.brk 0, [(.slice (List.map PV.str s) [] false), (.str v0), (.int .i64 0), (.int .i64 (List.length s : Int)), (.int .i64 t_7)], [])) (fun q2 => (fun (p : Int) => ∃ (t_9 : Int), r = (Ex.ret, [(.slice (List.map PV.str s) [] false), (.str v0), (.int .i64 p), (.int .i64 (List.length s : Int)), (.int .i64 t_9)], [])) q2)
noncomputable def slices_Index_string_string_B (s : List Str) (v0 : Str) : Option Int :=
  bnd (tloop (slices_Index_string_string_l1T s v0) 0) fun e10_2 => elim e10_2
  (fun p10 =>
   some (-1))
  (fun t_8 =>
  some t_8)
def slices_Index_string_string_ds : Decs := { decs := [(14, (.ref .str))], ups := [], loops := [(2, [], ⟨[(.sl false), .str, (.int .i64), (.int .i64), (.int .i64)], [], [(some 0, [(.sl false), .str, (.int .i64), (.int .i64), (.int .i64)], []), (none, [(.sl false), .str, (.int .i64), (.int .i64), (.int .i64)], [])]⟩)] }
set_option maxRecDepth 100000 in
theorem slices_Index_string_string_t1 (O : Orc) (LP : LBody → LBody) (s : List Str) (v0 : Str) : evalBodyD Try.prog (MT 86) slices_Index_string_string_ds Try.f86.ntmps O LP Try.f86 [(.slice (List.map PV.str s) [] false), (.str v0)] [] = slices_Index_string_string_T1 O LP s v0 := by kernel_rfl
theorem slices_Index_string_string_l1_ok (s : List Str) (v0 : Str) : ∀ st l u, slices_Index_string_string_l1R s v0 st l u → Imp (slices_Index_string_string_l1T s v0 st) (slices_Index_string_string_l1 O loopLim l u) (StepR (slices_Index_string_string_l1R s v0) (slices_Index_string_string_l1X s v0)) := by
  rintro t_4 l u ⟨rfl, rfl⟩
  simp only [slices_Index_string_string_l1T, slices_Index_string_string_l1]
  refine Imp.chk rfl (Imp.chk rfl ?_)
  try simp only [evs, tys]
  refine Imp.cnd ?_ ?_
  · refine Imp.op (f := fun a => .ref (PV.str a)) (fun a h => op_ix (enc := PV.str) (by first | rfl | simp only [evs, tys, evl]) ⟨by first | rfl | simp only [evs, tys, evc], by decide⟩ h) (fun a => rfl) fun y6 hy6 => ?_
    try simp only [evs, tys]
    refine Imp.cnd ?_ ?_
    · exact Imp.some (StepR.ret ⟨t_4, by first | rfl | simp only [evs, tys, evl, elim_inl, elim_inr]⟩)
    · exact Imp.some (StepR.next ⟨by first | rfl | simp only [evs, tys, evl], rfl⟩)
  · exact Imp.some (StepR.brk ⟨t_4, by first | rfl | simp only [evs, tys, evl, elim_inl, elim_inr]⟩)
theorem slices_Index_string_string_imp (s : List Str) (v0 : Str) : Imp (slices_Index_string_string_B s v0) (slices_Index_string_string_T1 O loopLim s v0) (fun r v => v = (slices_Index_string_stringE r, [])) := by
  simp only [slices_Index_string_string_B, slices_Index_string_string_T1]
  try simp only [evs, tys]
  refine Imp.bnd (Imp.loop (slices_Index_string_string_l1_ok s v0) ⟨by first | rfl | simp only [evs, tys, evl], rfl⟩) ?_
  rintro (p | t_8) vy10 hy10
  · try simp only [elim_inl, elim_inr]
    obtain ⟨t_7, rfl⟩ := hy10
    refine Imp.exHit rfl (Imp.chk rfl (Imp.chk rfl ?_))
    try simp only [evs, tys]
    exact Imp.some (by first | rfl | simp only [slices_Index_string_stringE, evs, tys, evl])
  · try simp only [elim_inl, elim_inr]
    obtain ⟨t_9, rfl⟩ := hy10
    refine Imp.exMiss rfl ?_
    refine Imp.exHit rfl (Imp.chk rfl (Imp.chk rfl ?_))
    try simp only [evs, tys]
    exact Imp.some (by first | rfl | simp only [slices_Index_string_stringE, evs, tys, evl])
theorem slices_Index_string_string_run {s : List Str} {v0 : Str} {r : Int} (h : slices_Index_string_string_B s v0 = some r) : slices_Index_string_string s v0 = some r := by
  obtain ⟨v, hv, rfl⟩ := slices_Index_string_string_imp s v0 r h
  exact tO_of (pair_inj slices_Index_string_stringEj) (OL_runD slices_Index_string_string_ds rfl rfl Try.func86 ((slices_Index_string_string_t1 _ _ s v0).trans hv))

def slices_Contains_int_int_T1 (O : Orc) (LP : LBody → LBody) (s : List Int) (v0 : Int) : Option (PV × UP) :=
  callp O 111 [(.slice (List.map (PV.int .i64) s) [] false), (.int .i64 v0)] fun x1 => cnd (chk (.int .i64) x1)
  (some ((.bool (decide ((intV x1) ≥ 0))), [])) none
noncomputable def slices_Contains_int_int_B (s : List Int) (v0 : Int) : Option Bool :=
  bnd (slices_Index_int_int s v0) fun y2 =>
  some (decide (y2 ≥ 0))
def slices_Contains_int_int_ds : Decs := { decs := [(7, (.int .i64))], ups := [], loops := [] }
set_option maxRecDepth 100000 in
theorem slices_Contains_int_int_t1 (O : Orc) (LP : LBody → LBody) (s : List Int) (v0 : Int) : evalBodyD Try.prog (MT 87) slices_Contains_int_int_ds Try.f87.ntmps O LP Try.f87 [(.slice (List.map (PV.int .i64) s) [] false), (.int .i64 v0)] [] = slices_Contains_int_int_T1 O LP s v0 := by kernel_rfl
theorem slices_Contains_int_int_imp (s : List Int) (v0 : Int) : Imp (slices_Contains_int_int_B s v0) (slices_Contains_int_int_T1 O loopLim s v0) (fun r v => v = (slices_Contains_int_intE r, [])) := by
  simp only [slices_Contains_int_int_B, slices_Contains_int_int_T1]
  try simp only [evs, tys]
  refine Imp.call (f := slices_Index_int_intE) rfl (fun a h => by first | exact slices_Index_int_int_spec h | simpa only [evs, tys, evl] using slices_Index_int_int_spec h) (fun a => by first | rfl | simp only [slices_Index_int_intE, evk, chks]) fun y2 hy2 => ?_
  try simp only [slices_Index_int_intE, evs, tys]
  exact Imp.some (by first | rfl | simp only [slices_Contains_int_intE, evs, tys, evl])
theorem slices_Contains_int_int_run {s : List Int} {v0 : Int} {r : Bool} (h : slices_Contains_int_int_B s v0 = some r) : slices_Contains_int_int s v0 = some r := by
  obtain ⟨v, hv, rfl⟩ := slices_Contains_int_int_imp s v0 r h
  exact tO_of (pair_inj slices_Contains_int_intEj) (OL_runD slices_Contains_int_int_ds rfl rfl Try.func87 ((slices_Contains_int_int_t1 _ _ s v0).trans hv))

def seineref1_Name_l1 (O : Orc) (LP : LBody → LBody) : LBody := fun s5 s5u => cnd (chkL [.str, .bool, (.int .i64)] s5) (cnd (chkU [] s5u)
  (cnd (decide ((intV (gt s5 2)) < (List.length (strV (gt s5 0)) : Int)))
   (bnd (ixStr (.str (strV (gt s5 0))) (.int .i64 (intV (gt s5 2)))) fun x15 => cnd (chk (.int .u8) x15)
   (callp O 112 [(.int .u8 (intV x15))] fun x17 => cnd (chk .bool x17)
   (cnd (!(boolV x17))
    (bnd (ixStr (.str (strV (gt s5 0))) (.int .i64 (intV (gt s5 2)))) fun x19 => cnd (chk (.int .u8) x19)
    (callp O 113 [(.int .u8 (intV x19))] fun x21 => cnd (chk .bool x21)
    (cnd (!(boolV x21))
     (some (.ret, [(.str (strV (gt s5 0))), (.bool false), (.int .i64 (intV (gt s5 2)))], []))
     (some (.nrm, [(.str (strV (gt s5 0))), (.bool (boolV (gt s5 1))), (.int .i64 (IntKind.wrap .i64 ((intV (gt s5 2)) + 1)))], []))) none) none)
    (some (.nrm, [(.str (strV (gt s5 0))), (.bool (boolV (gt s5 1))), (.int .i64 (IntKind.wrap .i64 ((intV (gt s5 2)) + 1)))], []))) none) none)
   (some (.brk 0, [(.str (strV (gt s5 0))), (.bool (boolV (gt s5 1))), (.int .i64 (intV (gt s5 2)))], []))) none) none
def seineref1_Name_T1 (O : Orc) (LP : LBody → LBody) (s : Str) : Option (PV × UP) :=
  cnd (s == ([] : Str))
   (some ((.bool false), []))
   (bnd (ixStr (.str s) (.int .i64 0)) fun x1 => cnd (chk (.int .u8) x1)
   (callp O 112 [(.int .u8 (intV x1))] fun x3 => cnd (chk .bool x3)
   (cnd (!(boolV x3))
    (some ((.bool false), []))
    (bnd (LP (seineref1_Name_l1 O LP) [(.str s), (.bool false), (.int .i64 1)] []) fun y25 =>
    exIs y25.1 (some 0) (cnd (chkL [.str, .bool, (.int .i64)] y25.2.1) (cnd (chkU [] y25.2.2)
     (some ((.bool true), [])) none) none)
    (exIs y25.1 none (cnd (chkL [.str, .bool, (.int .i64)] y25.2.1) (cnd (chkU [] y25.2.2)
     (some ((.bool (boolV (gt y25.2.1 1))), [])) none) none)
    (none)))) none) none)
noncomputable def seineref1_Name_l1T (s : Str) : Int → Option (Int ⊕ (Unit ⊕ Unit))
  | i_14 =>
  cnd (decide (i_14 < (List.length s : Int)))
   (bnd (nthI s i_14) fun y16 =>
   bnd (seineref1_start (y16.toNat : Int)) fun y18 =>
   cnd (!y18)
    (bnd (nthI s i_14) fun y20 =>
    bnd (seineref1_digit (y20.toNat : Int)) fun y22 =>
    cnd (!y22)
     (some (.inr (.inr ())))
     (some (.inl (IntKind.wrap .i64 (i_14 + 1)))))
    (some (.inl (IntKind.wrap .i64 (i_14 + 1)))))
   (some (.inr (.inl ())))
abbrev seineref1_Name_l1R (s : Str) (st : Int) (l : List PV) (u : UP) : Prop := l = [(.str s), (.bool false), (.int .i64 st)] ∧ u = []
abbrev seineref1_Name_l1X (s : Str) (p : Unit ⊕ Unit) (r : Ex × List PV × UP) : Prop := elim p (fun (p : Unit) => ∃ (i_23 : Int), r = (Ex.brk 0, [(.str s), (.bool false), (.int .i64 i_23)], [])) (fun q2 => (fun (p : Unit) => ∃ (i_24 : Int), r = (Ex.ret, [(.str s), (.bool false), (.int .i64 i_24)], [])) q2)
noncomputable def seineref1_Name_B (s : Str) : Option Bool :=
  cnd (s == ([] : Str))
   (some false)
   (bnd (nthI s 0) fun y2 =>
   bnd (seineref1_start (y2.toNat : Int)) fun y4 =>
   cnd (!y4)
    (some false)
    (bnd (tloop (seineref1_Name_l1T s) 1) fun e25_2 => elim e25_2
    (fun p25 =>
     some true)
    (fun p25 =>
    some false)))
def seineref1_Name_ds : Decs := { decs := [(8, (.int .u8)), (9, .bool), (20, (.int .u8)), (21, .bool), (26, (.int .u8)), (27, .bool)], ups := [], loops := [(4, [], ⟨[.str, .bool, (.int .i64)], [], [(some 0, [.str, .bool, (.int .i64)], []), (none, [.str, .bool, (.int .i64)], [])]⟩)] }
set_option maxRecDepth 100000 in
theorem seineref1_Name_t1 (O : Orc) (LP : LBody → LBody) (s : Str) : evalBodyD Try.prog (MT 88) seineref1_Name_ds Try.f88.ntmps O LP Try.f88 [(.str s)] [] = seineref1_Name_T1 O LP s := by kernel_rfl
theorem seineref1_Name_l1_ok (s : Str) : ∀ st l u, seineref1_Name_l1R s st l u → Imp (seineref1_Name_l1T s st) (seineref1_Name_l1 O loopLim l u) (StepR (seineref1_Name_l1R s) (seineref1_Name_l1X s)) := by
  rintro i_14 l u ⟨rfl, rfl⟩
  simp only [seineref1_Name_l1T, seineref1_Name_l1]
  refine Imp.chk rfl (Imp.chk rfl ?_)
  try simp only [evs, tys]
  refine Imp.cnd ?_ ?_
  · refine Imp.op (f := fun a => .int .u8 (a.toNat : Int)) (fun a h => op_ixStr h) (fun a => rfl) fun y16 hy16 => ?_
    try simp only [evs, tys]
    refine Imp.call (f := seineref1_startE) rfl (fun a h => by first | exact seineref1_start_spec h | simpa only [evs, tys, evl] using seineref1_start_spec h) (fun a => by first | rfl | simp only [seineref1_startE, evk, chks]) fun y18 hy18 => ?_
    try simp only [seineref1_startE, evs, tys]
    refine Imp.cnd ?_ ?_
    · refine Imp.op (f := fun a => .int .u8 (a.toNat : Int)) (fun a h => op_ixStr h) (fun a => rfl) fun y20 hy20 => ?_
      try simp only [evs, tys]
      refine Imp.call (f := seineref1_digitE) rfl (fun a h => by first | exact seineref1_digit_spec h | simpa only [evs, tys, evl] using seineref1_digit_spec h) (fun a => by first | rfl | simp only [seineref1_digitE, evk, chks]) fun y22 hy22 => ?_
      try simp only [seineref1_digitE, evs, tys]
      refine Imp.cnd ?_ ?_
      · exact Imp.some (StepR.ret ⟨i_14, by first | rfl | simp only [evs, tys, evl, elim_inl, elim_inr]⟩)
      · exact Imp.some (StepR.next ⟨by first | rfl | simp only [evs, tys, evl], rfl⟩)
    · exact Imp.some (StepR.next ⟨by first | rfl | simp only [evs, tys, evl], rfl⟩)
  · exact Imp.some (StepR.brk ⟨i_14, by first | rfl | simp only [evs, tys, evl, elim_inl, elim_inr]⟩)
theorem seineref1_Name_imp (s : Str) : Imp (seineref1_Name_B s) (seineref1_Name_T1 O loopLim s) (fun r v => v = (seineref1_NameE r, [])) := by
  simp only [seineref1_Name_B, seineref1_Name_T1]
  try simp only [evs, tys]
  refine Imp.cnd ?_ ?_
  · exact Imp.some (by first | rfl | simp only [seineref1_NameE, evs, tys, evl])
  · refine Imp.op (f := fun a => .int .u8 (a.toNat : Int)) (fun a h => op_ixStr h) (fun a => rfl) fun y2 hy2 => ?_
    try simp only [evs, tys]
    refine Imp.call (f := seineref1_startE) rfl (fun a h => by first | exact seineref1_start_spec h | simpa only [evs, tys, evl] using seineref1_start_spec h) (fun a => by first | rfl | simp only [seineref1_startE, evk, chks]) fun y4 hy4 => ?_
    try simp only [seineref1_startE, evs, tys]
    refine Imp.cnd ?_ ?_
    · exact Imp.some (by first | rfl | simp only [seineref1_NameE, evs, tys, evl])
    · refine Imp.bnd (Imp.loop (seineref1_Name_l1_ok s) ⟨by first | rfl | simp only [evs, tys, evl], rfl⟩) ?_
      rintro (p | p) vy25 hy25
      · try simp only [elim_inl, elim_inr]
        obtain ⟨i_23, rfl⟩ := hy25
        refine Imp.exHit rfl (Imp.chk rfl (Imp.chk rfl ?_))
        try simp only [evs, tys]
        exact Imp.some (by first | rfl | simp only [seineref1_NameE, evs, tys, evl])
      · try simp only [elim_inl, elim_inr]
        obtain ⟨i_24, rfl⟩ := hy25
        refine Imp.exMiss rfl ?_
        refine Imp.exHit rfl (Imp.chk rfl (Imp.chk rfl ?_))
        try simp only [evs, tys]
        exact Imp.some (by first | rfl | simp only [seineref1_NameE, evs, tys, evl])
theorem seineref1_Name_run {s : Str} {r : Bool} (h : seineref1_Name_B s = some r) : seineref1_Name s = some r := by
  obtain ⟨v, hv, rfl⟩ := seineref1_Name_imp s r h
  exact tO_of (pair_inj seineref1_NameEj) (OL_runD seineref1_Name_ds rfl rfl Try.func88 ((seineref1_Name_t1 _ _ s).trans hv))

def seineref9_scalar_T1 (O : Orc) (LP : LBody → LBody) (name : Str) : Option (PV × UP) :=
  cnd (name == ([73, 110, 116] : Str))
   (some ((.bool true), []))
   (cnd (name == ([83, 116, 114, 105, 110, 103] : Str))
    (some ((.bool true), []))
    (cnd (name == ([66, 111, 111, 108, 101, 97, 110] : Str))
     (some ((.bool true), []))
     (some ((.bool (name == ([73, 68] : Str))), []))))
noncomputable def seineref9_scalar_B (name : Str) : Option Bool :=
  cnd (name == ([73, 110, 116] : Str))
   (some true)
   (cnd (name == ([83, 116, 114, 105, 110, 103] : Str))
    (some true)
    (cnd (name == ([66, 111, 111, 108, 101, 97, 110] : Str))
     (some true)
     (some (name == ([73, 68] : Str)))))
def seineref9_scalar_ds : Decs := { decs := [], ups := [], loops := [] }
set_option maxRecDepth 100000 in
theorem seineref9_scalar_t1 (O : Orc) (LP : LBody → LBody) (name : Str) : evalBodyD Try.prog (MT 89) seineref9_scalar_ds Try.f89.ntmps O LP Try.f89 [(.str name)] [] = seineref9_scalar_T1 O LP name := by kernel_rfl
theorem seineref9_scalar_imp (name : Str) : Imp (seineref9_scalar_B name) (seineref9_scalar_T1 O loopLim name) (fun r v => v = (seineref9_scalarE r, [])) := by
  simp only [seineref9_scalar_B, seineref9_scalar_T1]
  try simp only [evs, tys]
  refine Imp.cnd ?_ ?_
  · exact Imp.some (by first | rfl | simp only [seineref9_scalarE, evs, tys, evl])
  · refine Imp.cnd ?_ ?_
    · exact Imp.some (by first | rfl | simp only [seineref9_scalarE, evs, tys, evl])
    · refine Imp.cnd ?_ ?_
      · exact Imp.some (by first | rfl | simp only [seineref9_scalarE, evs, tys, evl])
      · exact Imp.some (by first | rfl | simp only [seineref9_scalarE, evs, tys, evl])
theorem seineref9_scalar_run {name : Str} {r : Bool} (h : seineref9_scalar_B name = some r) : seineref9_scalar name = some r := by
  obtain ⟨v, hv, rfl⟩ := seineref9_scalar_imp name r h
  exact tO_of (pair_inj seineref9_scalarEj) (OL_runD seineref9_scalar_ds rfl rfl Try.func89 ((seineref9_scalar_t1 _ _ name).trans hv))

def seineref9_Object_T1 (O : Orc) (LP : LBody → LBody) (s : GSchema) (name : Str) : Option (PV × UP) :=
  callp O 114 [(.agg [(.slice (List.map encDef s.defs) [] false), (.str s.query), (.str s.mutation)]), (.str name), (.int .i64 1), (.int .i64 1), (.int .i64 1)] fun x1 => cnd (chk .bool x1)
  (some ((.bool (boolV x1)), [])) none
noncomputable def seineref9_Object_B (s : GSchema) (name : Str) : Option Bool :=
  bnd (seineref9_is s name 1 1 1) fun y2 =>
  some y2
def seineref9_Object_ds : Decs := { decs := [(7, .bool)], ups := [], loops := [] }
set_option maxRecDepth 100000 in
theorem seineref9_Object_t1 (O : Orc) (LP : LBody → LBody) (s : GSchema) (name : Str) : evalBodyD Try.prog (MT 90) seineref9_Object_ds Try.f90.ntmps O LP Try.f90 [(.agg [(.slice (List.map encDef s.defs) [] false), (.str s.query), (.str s.mutation)]), (.str name)] [] = seineref9_Object_T1 O LP s name := by kernel_rfl
theorem seineref9_Object_imp (s : GSchema) (name : Str) : Imp (seineref9_Object_B s name) (seineref9_Object_T1 O loopLim s name) (fun r v => v = (seineref9_ObjectE r, [])) := by
  simp only [seineref9_Object_B, seineref9_Object_T1]
  try simp only [evs, tys]
  refine Imp.call (f := seineref9_isE) rfl (fun a h => by first | exact seineref9_is_spec h | simpa only [evs, tys, evl] using seineref9_is_spec h) (fun a => by first | rfl | simp only [seineref9_isE, evk, chks]) fun y2 hy2 => ?_
  try simp only [seineref9_isE, evs, tys]
  exact Imp.some (by first | rfl | simp only [seineref9_ObjectE, evs, tys, evl])
theorem seineref9_Object_run {s : GSchema} {name : Str} {r : Bool} (h : seineref9_Object_B s name = some r) : seineref9_Object s name = some r := by
  obtain ⟨v, hv, rfl⟩ := seineref9_Object_imp s name r h
  exact tO_of (pair_inj seineref9_ObjectEj) (OL_runD seineref9_Object_ds rfl rfl Try.func90 ((seineref9_Object_t1 _ _ s name).trans hv))

def letters_Letter_T1 (O : Orc) (LP : LBody → LBody) (c : Int) : Option (PV × UP) :=
  cnd (decide (c ≥ 97))
   (cnd (decide (c ≤ 122))
    (some ((.bool true), []))
    (cnd (decide (c ≥ 65))
     (cnd (decide (c ≤ 90))
      (some ((.bool true), []))
      (some ((.bool (c == 95)), [])))
     (some ((.bool (c == 95)), []))))
   (cnd (decide (c ≥ 65))
    (cnd (decide (c ≤ 90))
     (some ((.bool true), []))
     (some ((.bool (c == 95)), [])))
    (some ((.bool (c == 95)), [])))
noncomputable def letters_Letter_B (c : Int) : Option Bool :=
  cnd (decide (c ≥ 97))
   (cnd (decide (c ≤ 122))
    (some true)
    (cnd (decide (c ≥ 65))
     (cnd (decide (c ≤ 90))
      (some true)
      (some (c == 95)))
     (some (c == 95))))
   (cnd (decide (c ≥ 65))
    (cnd (decide (c ≤ 90))
     (some true)
     (some (c == 95)))
    (some (c == 95)))
def letters_Letter_ds : Decs := { decs := [], ups := [], loops := [] }
set_option maxRecDepth 100000 in
theorem letters_Letter_t1 (O : Orc) (LP : LBody → LBody) (c : Int) : evalBodyD Try.prog (MT 91) letters_Letter_ds Try.f91.ntmps O LP Try.f91 [(.int .u8 c)] [] = letters_Letter_T1 O LP c := by kernel_rfl
theorem letters_Letter_imp (c : Int) : Imp (letters_Letter_B c) (letters_Letter_T1 O loopLim c) (fun r v => v = (letters_LetterE r, [])) := by
  simp only [letters_Letter_B, letters_Letter_T1]
  try simp only [evs, tys]
  refine Imp.cnd ?_ ?_
  · refine Imp.cnd ?_ ?_
    · exact Imp.some (by first | rfl | simp only [letters_LetterE, evs, tys, evl])
    · refine Imp.cnd ?_ ?_
      · refine Imp.cnd ?_ ?_
        · exact Imp.some (by first | rfl | simp only [letters_LetterE, evs, tys, evl])
        · exact Imp.some (by first | rfl | simp only [letters_LetterE, evs, tys, evl])
      · exact Imp.some (by first | rfl | simp only [letters_LetterE, evs, tys, evl])
  · refine Imp.cnd ?_ ?_
    · refine Imp.cnd ?_ ?_
      · exact Imp.some (by first | rfl | simp only [letters_LetterE, evs, tys, evl])
      · exact Imp.some (by first | rfl | simp only [letters_LetterE, evs, tys, evl])
    · exact Imp.some (by first | rfl | simp only [letters_LetterE, evs, tys, evl])
theorem letters_Letter_run {c : Int} {r : Bool} (h : letters_Letter_B c = some r) : letters_Letter c = some r := by
  obtain ⟨v, hv, rfl⟩ := letters_Letter_imp c r h
  exact tO_of (pair_inj letters_LetterEj) (OL_runD letters_Letter_ds rfl rfl Try.func91 ((letters_Letter_t1 _ _ c).trans hv))

def letters_Digit_T1 (O : Orc) (LP : LBody → LBody) (c : Int) : Option (PV × UP) :=
  cnd (decide (c ≥ 48))
   (some ((.bool (decide (c ≤ 57))), []))
   (some ((.bool false), []))
noncomputable def letters_Digit_B (c : Int) : Option Bool :=
  cnd (decide (c ≥ 48))
   (some (decide (c ≤ 57)))
   (some false)
def letters_Digit_ds : Decs := { decs := [], ups := [], loops := [] }
set_option maxRecDepth 100000 in
theorem letters_Digit_t1 (O : Orc) (LP : LBody → LBody) (c : Int) : evalBodyD Try.prog (MT 92) letters_Digit_ds Try.f92.ntmps O LP Try.f92 [(.int .u8 c)] [] = letters_Digit_T1 O LP c := by kernel_rfl
theorem letters_Digit_imp (c : Int) : Imp (letters_Digit_B c) (letters_Digit_T1 O loopLim c) (fun r v => v = (letters_DigitE r, [])) := by
  simp only [letters_Digit_B, letters_Digit_T1]
  try simp only [evs, tys]
  refine Imp.cnd ?_ ?_
  · exact Imp.some (by first | rfl | simp only [letters_DigitE, evs, tys, evl])
  · exact Imp.some (by first | rfl | simp only [letters_DigitE, evs, tys, evl])
theorem letters_Digit_run {c : Int} {r : Bool} (h : letters_Digit_B c = some r) : letters_Digit c = some r := by
  obtain ⟨v, hv, rfl⟩ := letters_Digit_imp c r h
  exact tO_of (pair_inj letters_DigitEj) (OL_runD letters_Digit_ds rfl rfl Try.func92 ((letters_Digit_t1 _ _ c).trans hv))
end Go.Proofs.Ytgelaiohnmpjnaa

/- Printed by symgen.py: typed functions of this seat, and why they tell what the program does. -/
set_option linter.unusedVariables false
set_option linter.unusedSimpArgs false
open Go Go.Ev Go.Ev.PV
namespace Go.Proofs.Ytgelaiohnmpjnaa
def slices_Index_int_int_l1 (O : Orc) (LP : LBody → LBody) : LBody := fun s1 s1u => cnd (chkL [(.sl false), (.int .i64), (.int .i64), (.int .i64), (.int .i64)] s1) (cnd (chkU [] s1u)
  (cnd (decide ((intV (gt s1 4)) < (intV (gt s1 3))))
   (bnd (ix 1 (.slice (esV (gt s1 0)) [] false) (.int .i64 (intV (gt s1 4)))) fun x5 => cnd (chk (.ref (.int .i64)) x5)
   (cnd ((intV (gt s1 1)) == (intV (refV x5)))
    (some (.ret, [(.slice (esV (gt s1 0)) [] false), (.int .i64 (intV (gt s1 1))), (.int .i64 (intV (gt s1 4))), (.int .i64 (intV (gt s1 3))), (.int .i64 (intV (gt s1 4)))], []))
    (some (.nrm, [(.slice (esV (gt s1 0)) [] false), (.int .i64 (intV (gt s1 1))), (.int .i64 (intV (gt s1 2))), (.int .i64 (intV (gt s1 3))), (.int .i64 (IntKind.wrap .i64 ((intV (gt s1 4)) + 1)))], []))) none)
   (some (.brk 0, [(.slice (esV (gt s1 0)) [] false), (.int .i64 (intV (gt s1 1))), (.int .i64 (intV (gt s1 2))), (.int .i64 (intV (gt s1 3))), (.int .i64 (intV (gt s1 4)))], []))) none) none
def slices_Index_int_int_T1 (O : Orc) (LP : LBody → LBody) (s : List Int) (v0 : Int) : Option (PV × UP) :=
  bnd (LP (slices_Index_int_int_l1 O LP) [(.slice (List.map (PV.int .i64) s) [] false), (.int .i64 v0), (.int .i64 0), (.int .i64 (List.length (List.map (PV.int .i64) s) : Int)), (.int .i64 0)] []) fun y10 =>
  exIs y10.1 (some 0) (cnd (chkL [(.sl false), (.int .i64), (.int .i64), (.int .i64), (.int .i64)] y10.2.1) (cnd (chkU [] y10.2.2)
   (some ((.int .i64 (-1)), [])) none) none)
  (exIs y10.1 none (cnd (chkL [(.sl false), (.int .i64), (.int .i64), (.int .i64), (.int .i64)] y10.2.1) (cnd (chkU [] y10.2.2)
   (some ((.int .i64 (intV (gt y10.2.1 2))), [])) none) none)
  (none))
noncomputable def slices_Index_int_int_l1T (s : List Int) (v0 : Int) : Int → Option (Int ⊕ (Unit ⊕ Int))
  | t_4 =>
  cnd (decide (t_4 < (List.length s : Int)))
   (bnd (nthI s t_4) fun y6 =>
   cnd (v0 == y6)
    (some (.inr (.inr t_4)))
    (some (.inl (IntKind.wrap .i64 (t_4 + 1)))))
   (some (.inr (.inl ())))
abbrev slices_Index_int_int_l1R (s : List Int) (v0 : Int) (st : Int) (l : List PV) (u : UP) : Prop := l = [(.slice (List.map (PV.int .i64) s) [] false), (.int .i64 v0), (.int .i64 0), (.int .i64 (List.length s : Int)), (.int .i64 st)] ∧ u = []
abbrev slices_Index_int_int_l1X (s : List Int) (v0 : Int) (p : Unit ⊕ Int) (r : Ex × List PV × UP) : Prop := elim p (fun (p : Unit) => ∃ (t_7 : Int), r = (Ex.brk 0, [(.slice (List.map (PV.int .i64) s) [] false), (.int .i64 v0), (.int .i64 0), (.int .i64 (List.length s : Int)), (.int .i64 t_7)], [])) (fun q2 => (fun (p : Int) => ∃ (t_9 : Int), r = (Ex.ret, [(.slice (List.map (PV.int .i64) s) [] false), (.int .i64 v0), (.int .i64 p), (.int .i64 (List.length s : Int)), (.int .i64 t_9)], [])) q2)
noncomputable def slices_Index_int_int_B (s : List Int) (v0 : Int) : Option Int :=
  bnd (tloop (slices_Index_int_int_l1T s v0) 0) fun e10_2 => elim e10_2
  (fun p10 =>
   some (-1))
  (fun t_8 =>
  some t_8)
def slices_Index_int_int_ds : Decs := { decs := [(14, (.ref (.int .i64)))], ups := [], loops := [(2, [], ⟨[(.sl false), (.int .i64), (.int .i64), (.int .i64), (.int .i64)], [], [(some 0, [(.sl false), (.int .i64), (.int .i64), (.int .i64), (.int .i64)], []), (none, [(.sl false), (.int .i64), (.int .i64), (.int .i64), (.int .i64)], [])]⟩)] }
set_option maxRecDepth 100000 in
theorem slices_Index_int_int_t1 (O : Orc) (LP : LBody → LBody) (s : List Int) (v0 : Int) : evalBodyD Try.prog (MT 111) slices_Index_int_int_ds Try.f111.ntmps O LP Try.f111 [(.slice (List.map (PV.int .i64) s) [] false), (.int .i64 v0)] [] = slices_Index_int_int_T1 O LP s v0 := by kernel_rfl
theorem slices_Index_int_int_l1_ok (s : List Int) (v0 : Int) : ∀ st l u, slices_Index_int_int_l1R s v0 st l u → Imp (slices_Index_int_int_l1T s v0 st) (slices_Index_int_int_l1 O loopLim l u) (StepR (slices_Index_int_int_l1R s v0) (slices_Index_int_int_l1X s v0)) := by
  rintro t_4 l u ⟨rfl, rfl⟩
  simp only [slices_Index_int_int_l1T, slices_Index_int_int_l1]
  refine Imp.chk rfl (Imp.chk rfl ?_)
  try simp only [evs, tys]
  refine Imp.cnd ?_ ?_
  · refine Imp.op (f := fun a => .ref ((PV.int .i64) a)) (fun a h => op_ix (enc := (PV.int .i64)) (by first | rfl | simp only [evs, tys, evl]) ⟨by first | rfl | simp only [evs, tys, evc], by decide⟩ h) (fun a => rfl) fun y6 hy6 => ?_
    try simp only [evs, tys]
    refine Imp.cnd ?_ ?_
    · exact Imp.some (StepR.ret ⟨t_4, by first | rfl | simp only [evs, tys, evl, elim_inl, elim_inr]⟩)
    · exact Imp.some (StepR.next ⟨by first | rfl | simp only [evs, tys, evl], rfl⟩)
  · exact Imp.some (StepR.brk ⟨t_4, by first | rfl | simp only [evs, tys, evl, elim_inl, elim_inr]⟩)
theorem slices_Index_int_int_imp (s : List Int) (v0 : Int) : Imp (slices_Index_int_int_B s v0) (slices_Index_int_int_T1 O loopLim s v0) (fun r v => v = (slices_Index_int_intE r, [])) := by
  simp only [slices_Index_int_int_B, slices_Index_int_int_T1]
  try simp only [evs, tys]
  refine Imp.bnd (Imp.loop (slices_Index_int_int_l1_ok s v0) ⟨by first | rfl | simp only [evs, tys, evl], rfl⟩) ?_
  rintro (p | t_8) vy10 hy10
  · try simp only [elim_inl, elim_inr]
    obtain ⟨t_7, rfl⟩ := hy10
    refine Imp.exHit rfl (Imp.chk rfl (Imp.chk rfl ?_))
    try simp only [evs, tys]
    exact Imp.some (by first | rfl | simp only [slices_Index_int_intE, evs, tys, evl])
  · try simp only [elim_inl, elim_inr]
    obtain ⟨t_9, rfl⟩ := hy10
    refine Imp.exMiss rfl ?_
    refine Imp.exHit rfl (Imp.chk rfl (Imp.chk rfl ?_))
    try simp only [evs, tys]
    exact Imp.some (by first | rfl | simp only [slices_Index_int_intE, evs, tys, evl])
theorem slices_Index_int_int_run {s : List Int} {v0 : Int} {r : Int} (h : slices_Index_int_int_B s v0 = some r) : slices_Index_int_int s v0 = some r := by
  obtain ⟨v, hv, rfl⟩ := slices_Index_int_int_imp s v0 r h
  exact tO_of (pair_inj slices_Index_int_intEj) (OL_runD slices_Index_int_int_ds rfl rfl Try.func111 ((slices_Index_int_int_t1 _ _ s v0).trans hv))

def seineref1_start_T1 (O : Orc) (LP : LBody → LBody) (c : Int) : Option (PV × UP) :=
  cnd (decide (c ≥ 97))
   (cnd (decide (c ≤ 122))
    (some ((.bool true), []))
    (cnd (decide (c ≥ 65))
     (cnd (decide (c ≤ 90))
      (some ((.bool true), []))
      (some ((.bool (c == 95)), [])))
     (some ((.bool (c == 95)), []))))
   (cnd (decide (c ≥ 65))
    (cnd (decide (c ≤ 90))
     (some ((.bool true), []))
     (some ((.bool (c == 95)), [])))
    (some ((.bool (c == 95)), [])))
noncomputable def seineref1_start_B (c : Int) : Option Bool :=
  cnd (decide (c ≥ 97))
   (cnd (decide (c ≤ 122))
    (some true)
    (cnd (decide (c ≥ 65))
     (cnd (decide (c ≤ 90))
      (some true)
      (some (c == 95)))
     (some (c == 95))))
   (cnd (decide (c ≥ 65))
    (cnd (decide (c ≤ 90))
     (some true)
     (some (c == 95)))
    (some (c == 95)))
def seineref1_start_ds : Decs := { decs := [], ups := [], loops := [] }
set_option maxRecDepth 100000 in
theorem seineref1_start_t1 (O : Orc) (LP : LBody → LBody) (c : Int) : evalBodyD Try.prog (MT 112) seineref1_start_ds Try.f112.ntmps O LP Try.f112 [(.int .u8 c)] [] = seineref1_start_T1 O LP c := by kernel_rfl
theorem seineref1_start_imp (c : Int) : Imp (seineref1_start_B c) (seineref1_start_T1 O loopLim c) (fun r v => v = (seineref1_startE r, [])) := by
  simp only [seineref1_start_B, seineref1_start_T1]
  try simp only [evs, tys]
  refine Imp.cnd ?_ ?_
  · refine Imp.cnd ?_ ?_
    · exact Imp.some (by first | rfl | simp only [seineref1_startE, evs, tys, evl])
    · refine Imp.cnd ?_ ?_
      · refine Imp.cnd ?_ ?_
        · exact Imp.some (by first | rfl | simp only [seineref1_startE, evs, tys, evl])
        · exact Imp.some (by first | rfl | simp only [seineref1_startE, evs, tys, evl])
      · exact Imp.some (by first | rfl | simp only [seineref1_startE, evs, tys, evl])
  · refine Imp.cnd ?_ ?_
    · refine Imp.cnd ?_ ?_
      · exact Imp.some (by first | rfl | simp only [seineref1_startE, evs, tys, evl])
      · exact Imp.some (by first | rfl | simp only [seineref1_startE, evs, tys, evl])
    · exact Imp.some (by first | rfl | simp only [seineref1_startE, evs, tys, evl])
theorem seineref1_start_run {c : Int} {r : Bool} (h : seineref1_start_B c = some r) : seineref1_start c = some r := by
  obtain ⟨v, hv, rfl⟩ := seineref1_start_imp c r h
  exact tO_of (pair_inj seineref1_startEj) (OL_runD seineref1_start_ds rfl rfl Try.func112 ((seineref1_start_t1 _ _ c).trans hv))

def seineref1_digit_T1 (O : Orc) (LP : LBody → LBody) (c : Int) : Option (PV × UP) :=
  cnd (decide (c ≥ 48))
   (some ((.bool (decide (c ≤ 57))), []))
   (some ((.bool false), []))
noncomputable def seineref1_digit_B (c : Int) : Option Bool :=
  cnd (decide (c ≥ 48))
   (some (decide (c ≤ 57)))
   (some false)
def seineref1_digit_ds : Decs := { decs := [], ups := [], loops := [] }
set_option maxRecDepth 100000 in
theorem seineref1_digit_t1 (O : Orc) (LP : LBody → LBody) (c : Int) : evalBodyD Try.prog (MT 113) seineref1_digit_ds Try.f113.ntmps O LP Try.f113 [(.int .u8 c)] [] = seineref1_digit_T1 O LP c := by kernel_rfl
theorem seineref1_digit_imp (c : Int) : Imp (seineref1_digit_B c) (seineref1_digit_T1 O loopLim c) (fun r v => v = (seineref1_digitE r, [])) := by
  simp only [seineref1_digit_B, seineref1_digit_T1]
  try simp only [evs, tys]
  refine Imp.cnd ?_ ?_
  · exact Imp.some (by first | rfl | simp only [seineref1_digitE, evs, tys, evl])
  · exact Imp.some (by first | rfl | simp only [seineref1_digitE, evs, tys, evl])
theorem seineref1_digit_run {c : Int} {r : Bool} (h : seineref1_digit_B c = some r) : seineref1_digit c = some r := by
  obtain ⟨v, hv, rfl⟩ := seineref1_digit_imp c r h
  exact tO_of (pair_inj seineref1_digitEj) (OL_runD seineref1_digit_ds rfl rfl Try.func113 ((seineref1_digit_t1 _ _ c).trans hv))

def seineref9_is_T1 (O : Orc) (LP : LBody → LBody) (s : GSchema) (name : Str) (a : Int) (b : Int) (c : Int) : Option (PV × UP) :=
  callp O 58 [(.agg [(.slice (List.map encDef s.defs) [] false), (.str s.query), (.str s.mutation)]), (.str name)] fun x1 => cnd (chk (.tup [shDef, .bool]) x1)
  (cnd (boolV (gt (tupV x1) 1))
   (cnd ((intV (gt (aggV (gt (tupV x1) 0)) 0)) == a)
    (some ((.bool true), []))
    (cnd ((intV (gt (aggV (gt (tupV x1) 0)) 0)) == b)
     (some ((.bool true), []))
     (some ((.bool ((intV (gt (aggV (gt (tupV x1) 0)) 0)) == c)), []))))
   (some ((.bool false), []))) none
noncomputable def seineref9_is_B (s : GSchema) (name : Str) (a : Int) (b : Int) (c : Int) : Option Bool :=
  bnd (seineref9_Find s name) fun y2 =>
  cnd y2.2
   (cnd (y2.1.kind == a)
    (some true)
    (cnd (y2.1.kind == b)
     (some true)
     (some (y2.1.kind == c))))
   (some false)
def seineref9_is_ds : Decs := { decs := [(16, (.tup [shDef, .bool]))], ups := [], loops := [] }
set_option maxRecDepth 100000 in
theorem seineref9_is_t1 (O : Orc) (LP : LBody → LBody) (s : GSchema) (name : Str) (a : Int) (b : Int) (c : Int) : evalBodyD Try.prog (MT 114) seineref9_is_ds Try.f114.ntmps O LP Try.f114 [(.agg [(.slice (List.map encDef s.defs) [] false), (.str s.query), (.str s.mutation)]), (.str name), (.int .i64 a), (.int .i64 b), (.int .i64 c)] [] = seineref9_is_T1 O LP s name a b c := by kernel_rfl
theorem seineref9_is_imp (s : GSchema) (name : Str) (a : Int) (b : Int) (c : Int) : Imp (seineref9_is_B s name a b c) (seineref9_is_T1 O loopLim s name a b c) (fun r v => v = (seineref9_isE r, [])) := by
  simp only [seineref9_is_B, seineref9_is_T1]
  try simp only [evs, tys]
  refine Imp.call (f := seineref9_FindE) rfl (fun a h => by first | exact seineref9_Find_spec h | simpa only [evs, tys, evl] using seineref9_Find_spec h) (fun a => by first | rfl | simp only [seineref9_FindE, evk, chks]) fun y2 hy2 => ?_
  try simp only [seineref9_FindE, evs, tys]
  refine Imp.cnd ?_ ?_
  · refine Imp.cnd ?_ ?_
    · exact Imp.some (by first | rfl | simp only [seineref9_isE, evs, tys, evl])
    · refine Imp.cnd ?_ ?_
      · exact Imp.some (by first | rfl | simp only [seineref9_isE, evs, tys, evl])
      · exact Imp.some (by first | rfl | simp only [seineref9_isE, evs, tys, evl])
  · exact Imp.some (by first | rfl | simp only [seineref9_isE, evs, tys, evl])
theorem seineref9_is_run {s : GSchema} {name : Str} {a : Int} {b : Int} {c : Int} {r : Bool} (h : seineref9_is_B s name a b c = some r) : seineref9_is s name a b c = some r := by
  obtain ⟨v, hv, rfl⟩ := seineref9_is_imp s name a b c r h
  exact tO_of (pair_inj seineref9_isEj) (OL_runD seineref9_is_ds rfl rfl Try.func114 ((seineref9_is_t1 _ _ s name a b c).trans hv))
end Go.Proofs.Ytgelaiohnmpjnaa



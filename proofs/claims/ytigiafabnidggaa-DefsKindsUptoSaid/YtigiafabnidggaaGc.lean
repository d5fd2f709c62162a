import Derived.Test.YtigiafabnidggaaGa
import Derived.Test.YtigiafabnidggaaGb
set_option linter.unusedVariables false
set_option linter.unusedSimpArgs false
/- Printed by symgen.py: typed functions of this seat, and why they tell what the program does. -/
set_option linter.unusedVariables false
set_option linter.unusedSimpArgs false
open Go Go.Ev Go.Ev.PV
namespace Go.Proofs.Ytigiafabnidggaa
def defs_Possible_l1 (O : Orc) (LP : LBody → LBody) : LBody := fun s3 s3u => cnd (chkL [.str, (.sl true), (.sl false), (.int .i64), (.int .i64), (.int .i64), .str, (.sl false), (.sl false), (.sl false), (.sl false), (.sl false), .str, .str] s3) (cnd (chkU [] s3u)
  (cnd (decide ((intV (gt s3 4)) < (intV (gt s3 3))))
   (bnd (ix 6 (.slice (esV (gt s3 2)) [] false) (.int .i64 (intV (gt s3 4)))) fun x12 => cnd (chk (.ref shDef) x12)
   (cnd ((intV (gt (aggV (refV x12)) 0)) == 1)
    (callp O 38 [(.slice (esV (gt (aggV (refV x12)) 2)) [] false), (.str (strV (gt s3 0)))] fun x14 => cnd (chk .bool x14)
    (cnd (boolV x14)
     (callp O 39 [(.slice (esV (gt s3 1)) [] true), (.str (strV (gt (aggV (refV x12)) 1)))] fun x16 => cnd (chk (.sl true) x16)
     (some (.nrm, [(.str (strV (gt s3 0))), (.slice (esV x16) [] true), (.slice (esV (gt s3 2)) [] false), (.int .i64 (intV (gt s3 3))), (.int .i64 (IntKind.wrap .i64 ((intV (gt s3 4)) + 1))), (.int .i64 (intV (gt s3 5))), (.str (strV (gt s3 6))), (.slice (esV (gt s3 7)) [] false), (.slice (esV (gt s3 8)) [] false), (.slice (esV (gt s3 9)) [] false), (.slice (esV (gt s3 10)) [] false), (.slice (esV (gt s3 11)) [] false), (.str (strV (gt s3 12))), (.str (strV (gt s3 13)))], [])) none)
     (some (.nrm, [(.str (strV (gt s3 0))), (.slice (esV (gt s3 1)) [] true), (.slice (esV (gt s3 2)) [] false), (.int .i64 (intV (gt s3 3))), (.int .i64 (IntKind.wrap .i64 ((intV (gt s3 4)) + 1))), (.int .i64 (intV (gt s3 5))), (.str (strV (gt s3 6))), (.slice (esV (gt s3 7)) [] false), (.slice (esV (gt s3 8)) [] false), (.slice (esV (gt s3 9)) [] false), (.slice (esV (gt s3 10)) [] false), (.slice (esV (gt s3 11)) [] false), (.str (strV (gt s3 12))), (.str (strV (gt s3 13)))], []))) none)
    (some (.nrm, [(.str (strV (gt s3 0))), (.slice (esV (gt s3 1)) [] true), (.slice (esV (gt s3 2)) [] false), (.int .i64 (intV (gt s3 3))), (.int .i64 (IntKind.wrap .i64 ((intV (gt s3 4)) + 1))), (.int .i64 (intV (gt s3 5))), (.str (strV (gt s3 6))), (.slice (esV (gt s3 7)) [] false), (.slice (esV (gt s3 8)) [] false), (.slice (esV (gt s3 9)) [] false), (.slice (esV (gt s3 10)) [] false), (.slice (esV (gt s3 11)) [] false), (.str (strV (gt s3 12))), (.str (strV (gt s3 13)))], []))) none)
   (some (.brk 1, [(.str (strV (gt s3 0))), (.slice (esV (gt s3 1)) [] true), (.slice (esV (gt s3 2)) [] false), (.int .i64 (intV (gt s3 3))), (.int .i64 (intV (gt s3 4))), (.int .i64 (intV (gt s3 5))), (.str (strV (gt s3 6))), (.slice (esV (gt s3 7)) [] false), (.slice (esV (gt s3 8)) [] false), (.slice (esV (gt s3 9)) [] false), (.slice (esV (gt s3 10)) [] false), (.slice (esV (gt s3 11)) [] false), (.str (strV (gt s3 12))), (.str (strV (gt s3 13)))], []))) none) none
def defs_Possible_l2 (O : Orc) (LP : LBody → LBody) : LBody := fun s21 s21u => cnd (chkL [(.ptr 0 2 0), (.sl true), (.sl false), (.int .i64), (.int .i64), (.int .i64), .str, (.sl false), (.sl false), (.sl false), (.sl false), (.sl false), .str, .str] s21) (cnd (chkU [] s21u)
  (cnd (decide ((intV (gt s21 4)) < (intV (gt s21 3))))
   (bnd (ix 1 (.slice (esV (gt s21 2)) [] false) (.int .i64 (intV (gt s21 4)))) fun x30 => cnd (chk (.ref .str) x30)
   (callp O 36 [(.agg [(.slice (esV (gt s21 11)) [] false), (.str (strV (gt s21 12))), (.str (strV (gt s21 13)))]), (.str (strV (refV x30))), (.slice [(.int .i64 1)] [] false)] fun x32 => cnd (chk .bool x32)
   (cnd (boolV x32)
    (callp O 39 [(.slice (esV (gt s21 1)) [] true), (.str (strV (refV x30)))] fun x34 => cnd (chk (.sl true) x34)
    (some (.nrm, [(.ptr 0 2 0), (.slice (esV x34) [] true), (.slice (esV (gt s21 2)) [] false), (.int .i64 (intV (gt s21 3))), (.int .i64 (IntKind.wrap .i64 ((intV (gt s21 4)) + 1))), (.int .i64 (intV (gt s21 5))), (.str (strV (gt s21 6))), (.slice (esV (gt s21 7)) [] false), (.slice (esV (gt s21 8)) [] false), (.slice (esV (gt s21 9)) [] false), (.slice (esV (gt s21 10)) [] false), (.slice (esV (gt s21 11)) [] false), (.str (strV (gt s21 12))), (.str (strV (gt s21 13)))], [])) none)
    (some (.nrm, [(.ptr 0 2 0), (.slice (esV (gt s21 1)) [] true), (.slice (esV (gt s21 2)) [] false), (.int .i64 (intV (gt s21 3))), (.int .i64 (IntKind.wrap .i64 ((intV (gt s21 4)) + 1))), (.int .i64 (intV (gt s21 5))), (.str (strV (gt s21 6))), (.slice (esV (gt s21 7)) [] false), (.slice (esV (gt s21 8)) [] false), (.slice (esV (gt s21 9)) [] false), (.slice (esV (gt s21 10)) [] false), (.slice (esV (gt s21 11)) [] false), (.str (strV (gt s21 12))), (.str (strV (gt s21 13)))], []))) none) none)
   (some (.brk 3, [(.ptr 0 2 0), (.slice (esV (gt s21 1)) [] true), (.slice (esV (gt s21 2)) [] false), (.int .i64 (intV (gt s21 3))), (.int .i64 (intV (gt s21 4))), (.int .i64 (intV (gt s21 5))), (.str (strV (gt s21 6))), (.slice (esV (gt s21 7)) [] false), (.slice (esV (gt s21 8)) [] false), (.slice (esV (gt s21 9)) [] false), (.slice (esV (gt s21 10)) [] false), (.slice (esV (gt s21 11)) [] false), (.str (strV (gt s21 12))), (.str (strV (gt s21 13)))], []))) none) none
def defs_Possible_T1 (O : Orc) (LP : LBody → LBody) (s : GSchema) (name : Str) : Option (PV × UP) :=
  callp O 17 [(.agg [(.slice (List.map encDef s.defs) [] false), (.str s.query), (.str s.mutation)]), (.str name)] fun x1 => cnd (chk (.tup [shDef, .bool]) x1)
  (cnd (!(boolV (gt (tupV x1) 1)))
   (some ((.slice [] [] false), []))
   (cnd ((intV (gt (aggV (gt (tupV x1) 0)) 0)) == 1)
    (some ((.slice [(.str name)] [] false), []))
    (cnd ((intV (gt (aggV (gt (tupV x1) 0)) 0)) == 2)
     (bnd (LP (defs_Possible_l1 O LP) [(.str name), (.slice [] [] true), (.slice (List.map encDef s.defs) [] false), (.int .i64 (List.length (List.map encDef s.defs) : Int)), (.int .i64 0), (.int .i64 (intV (gt (aggV (gt (tupV x1) 0)) 0))), (.str (strV (gt (aggV (gt (tupV x1) 0)) 1))), (.slice (esV (gt (aggV (gt (tupV x1) 0)) 2)) [] false), (.slice (esV (gt (aggV (gt (tupV x1) 0)) 3)) [] false), (.slice (esV (gt (aggV (gt (tupV x1) 0)) 4)) [] false), (.slice (esV (gt (aggV (gt (tupV x1) 0)) 5)) [] false), (.slice (List.map encDef s.defs) [] false), (.str s.query), (.str s.mutation)] []) fun y20 =>
     exIs y20.1 (some 1) (cnd (chkL [.str, (.sl true), (.sl false), (.int .i64), (.int .i64), (.int .i64), .str, (.sl false), (.sl false), (.sl false), (.sl false), (.sl false), .str, .str] y20.2.1) (cnd (chkU [] y20.2.2)
      (some ((.slice (esV (gt y20.2.1 1)) [] false), [])) none) none)
     (none))
     (cnd ((intV (gt (aggV (gt (tupV x1) 0)) 0)) == 3)
      (bnd (LP (defs_Possible_l2 O LP) [(.ptr 0 2 0), (.slice [] [] true), (.slice (esV (gt (aggV (gt (tupV x1) 0)) 4)) [] false), (.int .i64 (List.length (esV (gt (aggV (gt (tupV x1) 0)) 4)) : Int)), (.int .i64 0), (.int .i64 (intV (gt (aggV (gt (tupV x1) 0)) 0))), (.str (strV (gt (aggV (gt (tupV x1) 0)) 1))), (.slice (esV (gt (aggV (gt (tupV x1) 0)) 2)) [] false), (.slice (esV (gt (aggV (gt (tupV x1) 0)) 3)) [] false), (.slice (esV (gt (aggV (gt (tupV x1) 0)) 4)) [] false), (.slice (esV (gt (aggV (gt (tupV x1) 0)) 5)) [] false), (.slice (List.map encDef s.defs) [] false), (.str s.query), (.str s.mutation)] []) fun y38 =>
      exIs y38.1 (some 3) (cnd (chkL [(.ptr 0 2 0), (.sl true), (.sl false), (.int .i64), (.int .i64), (.int .i64), .str, (.sl false), (.sl false), (.sl false), (.sl false), (.sl false), .str, .str] y38.2.1) (cnd (chkU [] y38.2.2)
       (some ((.slice (esV (gt y38.2.1 1)) [] false), [])) none) none)
      (none))
      (some ((.slice [] [] false), [])))))) none
noncomputable def defs_Possible_l1T (s : GSchema) (name : Str) : ((List Str) × Int) → Option (((List Str) × Int) ⊕ ((List Str)))
  | (l_10, t_11) =>
  cnd (decide (t_11 < (List.length s.defs : Int)))
   (bnd (nthI s.defs t_11) fun y13 =>
   cnd (y13.kind == 1)
    (bnd (slices_Contains_string_string y13.faces name) fun y15 =>
    cnd y15
     (bnd (defs_add l_10 y13.name) fun y17 =>
     some (.inl (y17, (IntKind.wrap .i64 (t_11 + 1)))))
     (some (.inl (l_10, (IntKind.wrap .i64 (t_11 + 1))))))
    (some (.inl (l_10, (IntKind.wrap .i64 (t_11 + 1))))))
   (some (.inr l_10))
abbrev defs_Possible_l1R (s : GSchema) (name : Str) (y2 : GDef × Bool) (st : (List Str) × Int) (l : List PV) (u : UP) : Prop := l = [(.str name), (.slice (List.map PV.str st.1) [] true), (.slice (List.map encDef s.defs) [] false), (.int .i64 (List.length s.defs : Int)), (.int .i64 st.2), (.int .i64 y2.1.kind), (.str y2.1.name), (.slice (List.map PV.str y2.1.faces) [] false), (.slice (List.map encFieldDef y2.1.fields) [] false), (.slice (List.map PV.str y2.1.parts) [] false), (.slice (List.map encParam y2.1.params) [] false), (.slice (List.map encDef s.defs) [] false), (.str s.query), (.str s.mutation)] ∧ u = []
abbrev defs_Possible_l1X (s : GSchema) (name : Str) (y2 : GDef × Bool) (p : (List Str)) (r : Ex × List PV × UP) : Prop := (fun (p : (List Str)) => ∃ (t_19 : Int), r = (Ex.brk 1, [(.str name), (.slice (List.map PV.str p) [] true), (.slice (List.map encDef s.defs) [] false), (.int .i64 (List.length s.defs : Int)), (.int .i64 t_19), (.int .i64 y2.1.kind), (.str y2.1.name), (.slice (List.map PV.str y2.1.faces) [] false), (.slice (List.map encFieldDef y2.1.fields) [] false), (.slice (List.map PV.str y2.1.parts) [] false), (.slice (List.map encParam y2.1.params) [] false), (.slice (List.map encDef s.defs) [] false), (.str s.query), (.str s.mutation)], [])) p
noncomputable def defs_Possible_l2T (s : GSchema) (y2 : GDef × Bool) : ((List Str) × Int) → Option (((List Str) × Int) ⊕ ((List Str)))
  | (l_28, t_29) =>
  cnd (decide (t_29 < (List.length y2.1.parts : Int)))
   (bnd (nthI y2.1.parts t_29) fun y31 =>
   bnd (defs_Kind s y31 [1]) fun y33 =>
   cnd y33
    (bnd (defs_add l_28 y31) fun y35 =>
    some (.inl (y35, (IntKind.wrap .i64 (t_29 + 1)))))
    (some (.inl (l_28, (IntKind.wrap .i64 (t_29 + 1))))))
   (some (.inr l_28))
abbrev defs_Possible_l2R (s : GSchema) (name : Str) (y2 : GDef × Bool) (st : (List Str) × Int) (l : List PV) (u : UP) : Prop := l = [(.ptr 0 2 0), (.slice (List.map PV.str st.1) [] true), (.slice (List.map PV.str y2.1.parts) [] false), (.int .i64 (List.length y2.1.parts : Int)), (.int .i64 st.2), (.int .i64 y2.1.kind), (.str y2.1.name), (.slice (List.map PV.str y2.1.faces) [] false), (.slice (List.map encFieldDef y2.1.fields) [] false), (.slice (List.map PV.str y2.1.parts) [] false), (.slice (List.map encParam y2.1.params) [] false), (.slice (List.map encDef s.defs) [] false), (.str s.query), (.str s.mutation)] ∧ u = []
abbrev defs_Possible_l2X (s : GSchema) (name : Str) (y2 : GDef × Bool) (p : (List Str)) (r : Ex × List PV × UP) : Prop := (fun (p : (List Str)) => ∃ (t_37 : Int), r = (Ex.brk 3, [(.ptr 0 2 0), (.slice (List.map PV.str p) [] true), (.slice (List.map PV.str y2.1.parts) [] false), (.int .i64 (List.length y2.1.parts : Int)), (.int .i64 t_37), (.int .i64 y2.1.kind), (.str y2.1.name), (.slice (List.map PV.str y2.1.faces) [] false), (.slice (List.map encFieldDef y2.1.fields) [] false), (.slice (List.map PV.str y2.1.parts) [] false), (.slice (List.map encParam y2.1.params) [] false), (.slice (List.map encDef s.defs) [] false), (.str s.query), (.str s.mutation)], [])) p
noncomputable def defs_Possible_B (s : GSchema) (name : Str) : Option (List Str) :=
  bnd (defs_Find s name) fun y2 =>
  cnd (!y2.2)
   (some ([] : List Str))
   (cnd (y2.1.kind == 1)
    (some [name])
    (cnd (y2.1.kind == 2)
     (bnd (tloop (defs_Possible_l1T s name) ([], 0)) fun l_18 =>
     some l_18)
     (cnd (y2.1.kind == 3)
      (bnd (tloop (defs_Possible_l2T s y2) ([], 0)) fun l_36 =>
      some l_36)
      (some ([] : List Str)))))
def defs_Possible_ds : Decs := { decs := [(15, (.tup [shDef, .bool])), (33, (.ref shDef)), (42, .bool), (47, (.sl true)), (56, (.ref .str)), (61, .bool), (64, (.sl true))], ups := [], loops := [(10, ⟨[.str, (.sl true), (.sl false), (.int .i64), (.int .i64), (.int .i64), .str, (.sl false), (.sl false), (.sl false), (.sl false), (.sl false), .str, .str], [], [(some 1, [.str, (.sl true), (.sl false), (.int .i64), (.int .i64), (.int .i64), .str, (.sl false), (.sl false), (.sl false), (.sl false), (.sl false), .str, .str], [])]⟩), (17, ⟨[(.ptr 0 2 0), (.sl true), (.sl false), (.int .i64), (.int .i64), (.int .i64), .str, (.sl false), (.sl false), (.sl false), (.sl false), (.sl false), .str, .str], [], [(some 3, [(.ptr 0 2 0), (.sl true), (.sl false), (.int .i64), (.int .i64), (.int .i64), .str, (.sl false), (.sl false), (.sl false), (.sl false), (.sl false), .str, .str], [])]⟩)] }
set_option maxRecDepth 100000 in
theorem defs_Possible_t1 (O : Orc) (LP : LBody → LBody) (s : GSchema) (name : Str) : evalBodyD Try.prog (MT 16) defs_Possible_ds Try.f16.ntmps O LP Try.f16 [(.agg [(.slice (List.map encDef s.defs) [] false), (.str s.query), (.str s.mutation)]), (.str name)] [] = defs_Possible_T1 O LP s name := by kernel_rfl
theorem defs_Possible_l1_ok (s : GSchema) (name : Str) (y2 : GDef × Bool) : ∀ st l u, defs_Possible_l1R s name y2 st l u → Imp (defs_Possible_l1T s name st) (defs_Possible_l1 O loopLim l u) (StepR (defs_Possible_l1R s name y2) (defs_Possible_l1X s name y2)) := by
  rintro ⟨l_10, t_11⟩ l u ⟨rfl, rfl⟩
  simp only [defs_Possible_l1T, defs_Possible_l1]
  refine Imp.chk rfl (Imp.chk rfl ?_)
  try simp only [evs, tys]
  refine Imp.cnd ?_ ?_
  · refine Imp.op (f := fun a => .ref (encDef a)) (fun a h => op_ix (enc := encDef) (by first | rfl | simp only [evs, tys, evl]) ⟨by first | rfl | simp only [evs, tys, evc], by decide⟩ h) (fun a => chk_GDef a) fun y13 hy13 => ?_
    try simp only [evs, tys]
    refine Imp.cnd ?_ ?_
    · refine Imp.call (f := slices_Contains_string_stringE) rfl (fun a h => by first | exact slices_Contains_string_string_spec h | simpa only [evs, tys, evl] using slices_Contains_string_string_spec h) (fun a => by first | rfl | simp only [slices_Contains_string_stringE, evk, chks]) fun y15 hy15 => ?_
      try simp only [slices_Contains_string_stringE, evs, tys]
      refine Imp.cnd ?_ ?_
      · refine Imp.call (f := defs_addE) rfl (fun a h => by first | exact defs_add_spec h | simpa only [evs, tys, evl] using defs_add_spec h) (fun a => by first | rfl | simp only [defs_addE, evk, chks]) fun y17 hy17 => ?_
        try simp only [defs_addE, evs, tys]
        exact Imp.some (StepR.next ⟨by first | rfl | simp only [evs, tys, evl], rfl⟩)
      · exact Imp.some (StepR.next ⟨by first | rfl | simp only [evs, tys, evl], rfl⟩)
    · exact Imp.some (StepR.next ⟨by first | rfl | simp only [evs, tys, evl], rfl⟩)
  · exact Imp.some (StepR.brk ⟨t_11, by first | rfl | simp only [evs, tys, evl, elim_inl, elim_inr]⟩)
theorem defs_Possible_l2_ok (s : GSchema) (name : Str) (y2 : GDef × Bool) : ∀ st l u, defs_Possible_l2R s name y2 st l u → Imp (defs_Possible_l2T s y2 st) (defs_Possible_l2 O loopLim l u) (StepR (defs_Possible_l2R s name y2) (defs_Possible_l2X s name y2)) := by
  rintro ⟨l_28, t_29⟩ l u ⟨rfl, rfl⟩
  simp only [defs_Possible_l2T, defs_Possible_l2]
  refine Imp.chk rfl (Imp.chk rfl ?_)
  try simp only [evs, tys]
  refine Imp.cnd ?_ ?_
  · refine Imp.op (f := fun a => .ref (PV.str a)) (fun a h => op_ix (enc := PV.str) (by first | rfl | simp only [evs, tys, evl]) ⟨by first | rfl | simp only [evs, tys, evc], by decide⟩ h) (fun a => rfl) fun y31 hy31 => ?_
    try simp only [evs, tys]
    refine Imp.call (f := defs_KindE) rfl (fun a h => by first | exact defs_Kind_spec h | simpa only [evs, tys, evl] using defs_Kind_spec h) (fun a => by first | rfl | simp only [defs_KindE, evk, chks]) fun y33 hy33 => ?_
    try simp only [defs_KindE, evs, tys]
    refine Imp.cnd ?_ ?_
    · refine Imp.call (f := defs_addE) rfl (fun a h => by first | exact defs_add_spec h | simpa only [evs, tys, evl] using defs_add_spec h) (fun a => by first | rfl | simp only [defs_addE, evk, chks]) fun y35 hy35 => ?_
      try simp only [defs_addE, evs, tys]
      exact Imp.some (StepR.next ⟨by first | rfl | simp only [evs, tys, evl], rfl⟩)
    · exact Imp.some (StepR.next ⟨by first | rfl | simp only [evs, tys, evl], rfl⟩)
  · exact Imp.some (StepR.brk ⟨t_29, by first | rfl | simp only [evs, tys, evl, elim_inl, elim_inr]⟩)
theorem defs_Possible_imp (s : GSchema) (name : Str) : Imp (defs_Possible_B s name) (defs_Possible_T1 O loopLim s name) (fun r v => v = (defs_PossibleE r, [])) := by
  simp only [defs_Possible_B, defs_Possible_T1]
  try simp only [evs, tys]
  refine Imp.call (f := defs_FindE) rfl (fun a h => by first | exact defs_Find_spec h | simpa only [evs, tys, evl] using defs_Find_spec h) (fun a => by first | rfl | simp only [defs_FindE, evk, chks]) fun y2 hy2 => ?_
  try simp only [defs_FindE, evs, tys]
  refine Imp.cnd ?_ ?_
  · exact Imp.some (by first | rfl | simp only [defs_PossibleE, evs, tys, evl])
  · refine Imp.cnd ?_ ?_
    · exact Imp.some (by first | rfl | simp only [defs_PossibleE, evs, tys, evl])
    · refine Imp.cnd ?_ ?_
      · refine Imp.bnd (Imp.loop (defs_Possible_l1_ok s name y2) ⟨by first | rfl | simp only [evs, tys, evl], rfl⟩) ?_
        rintro l_18 vy20 hy20
        obtain ⟨t_19, rfl⟩ := hy20
        refine Imp.exHit rfl (Imp.chk rfl (Imp.chk rfl ?_))
        try simp only [evs, tys]
        exact Imp.some (by first | rfl | simp only [defs_PossibleE, evs, tys, evl])
      · refine Imp.cnd ?_ ?_
        · refine Imp.bnd (Imp.loop (defs_Possible_l2_ok s name y2) ⟨by first | rfl | simp only [evs, tys, evl], rfl⟩) ?_
          rintro l_36 vy38 hy38
          obtain ⟨t_37, rfl⟩ := hy38
          refine Imp.exHit rfl (Imp.chk rfl (Imp.chk rfl ?_))
          try simp only [evs, tys]
          exact Imp.some (by first | rfl | simp only [defs_PossibleE, evs, tys, evl])
        · exact Imp.some (by first | rfl | simp only [defs_PossibleE, evs, tys, evl])
theorem defs_Possible_run {s : GSchema} {name : Str} {r : List Str} (h : defs_Possible_B s name = some r) : defs_Possible s name = some r := by
  obtain ⟨v, hv, rfl⟩ := defs_Possible_imp s name r h
  exact tO_of (pair_inj defs_PossibleEj) (OL_runD defs_Possible_ds rfl Try.func16 ((defs_Possible_t1 _ _ s name).trans hv))

def defs_Find_l1 (O : Orc) (LP : LBody → LBody) : LBody := fun s3 s3u => cnd (chkL [.str, (.ptr 0 4 0), .bool, (.sl false), (.int .i64), (.int .i64), (.int .i64), .str, (.sl true), (.sl true), (.sl true), (.sl true), (.sl false), .str, .str] s3) (cnd (chkU [] s3u)
  (cnd (decide ((intV (gt s3 5)) < (intV (gt s3 4))))
   (bnd (ix 6 (.slice (esV (gt s3 3)) [] false) (.int .i64 (intV (gt s3 5)))) fun x7 => cnd (chk (.ref shDef) x7)
   (cnd ((strV (gt (aggV (refV x7)) 1)) == (strV (gt s3 0)))
    (some (.ret, [(.str (strV (gt s3 0))), (.ptr 0 4 0), (.bool true), (.slice (esV (gt s3 3)) [] false), (.int .i64 (intV (gt s3 4))), (.int .i64 (intV (gt s3 5))), (.int .i64 (intV (gt (aggV (refV x7)) 0))), (.str (strV (gt (aggV (refV x7)) 1))), (.slice (esV (gt (aggV (refV x7)) 2)) [] false), (.slice (esV (gt (aggV (refV x7)) 3)) [] false), (.slice (esV (gt (aggV (refV x7)) 4)) [] false), (.slice (esV (gt (aggV (refV x7)) 5)) [] false), (.slice (esV (gt s3 12)) [] false), (.str (strV (gt s3 13))), (.str (strV (gt s3 14)))], []))
    (some (.nrm, [(.str (strV (gt s3 0))), (.ptr 0 4 0), (.bool (boolV (gt s3 2))), (.slice (esV (gt s3 3)) [] false), (.int .i64 (intV (gt s3 4))), (.int .i64 (IntKind.wrap .i64 ((intV (gt s3 5)) + 1))), (.int .i64 (intV (gt s3 6))), (.str (strV (gt s3 7))), (.slice (esV (gt s3 8)) [] true), (.slice (esV (gt s3 9)) [] true), (.slice (esV (gt s3 10)) [] true), (.slice (esV (gt s3 11)) [] true), (.slice (esV (gt s3 12)) [] false), (.str (strV (gt s3 13))), (.str (strV (gt s3 14)))], []))) none)
   (some (.brk 0, [(.str (strV (gt s3 0))), (.ptr 0 4 0), (.bool (boolV (gt s3 2))), (.slice (esV (gt s3 3)) [] false), (.int .i64 (intV (gt s3 4))), (.int .i64 (intV (gt s3 5))), (.int .i64 (intV (gt s3 6))), (.str (strV (gt s3 7))), (.slice (esV (gt s3 8)) [] true), (.slice (esV (gt s3 9)) [] true), (.slice (esV (gt s3 10)) [] true), (.slice (esV (gt s3 11)) [] true), (.slice (esV (gt s3 12)) [] false), (.str (strV (gt s3 13))), (.str (strV (gt s3 14)))], []))) none) none
def defs_Find_T1 (O : Orc) (LP : LBody → LBody) (s : GSchema) (name : Str) : Option (PV × UP) :=
  callp O 40 [(.str name)] fun x1 => cnd (chk .bool x1)
  (cnd (boolV x1)
   (some ((.tuple [(.agg [(.int .i64 0), (.str name), (.slice [] [] false), (.slice [] [] false), (.slice [] [] false), (.slice [] [] false)]), (.bool true)]), []))
   (bnd (LP (defs_Find_l1 O LP) [(.str name), (.ptr 0 4 0), (.bool false), (.slice (List.map encDef s.defs) [] false), (.int .i64 (List.length (List.map encDef s.defs) : Int)), (.int .i64 0), (.int .i64 0), (.str []), (.slice [] [] true), (.slice [] [] true), (.slice [] [] true), (.slice [] [] true), (.slice (List.map encDef s.defs) [] false), (.str s.query), (.str s.mutation)] []) fun y17 =>
   exIs y17.1 (some 0) (cnd (chkL [.str, (.ptr 0 4 0), .bool, (.sl false), (.int .i64), (.int .i64), (.int .i64), .str, (.sl true), (.sl true), (.sl true), (.sl true), (.sl false), .str, .str] y17.2.1) (cnd (chkU [] y17.2.2)
    (some ((.tuple [(.agg [(.int .i64 0), (.str []), (.slice [] [] false), (.slice [] [] false), (.slice [] [] false), (.slice [] [] false)]), (.bool false)]), [])) none) none)
   (exIs y17.1 none (cnd (chkL [.str, (.ptr 0 4 0), .bool, (.sl false), (.int .i64), (.int .i64), (.int .i64), .str, (.sl false), (.sl false), (.sl false), (.sl false), (.sl false), .str, .str] y17.2.1) (cnd (chkU [] y17.2.2)
    (some ((.tuple [(.agg [(.int .i64 (intV (gt y17.2.1 6))), (.str (strV (gt y17.2.1 7))), (.slice (esV (gt y17.2.1 8)) [] false), (.slice (esV (gt y17.2.1 9)) [] false), (.slice (esV (gt y17.2.1 10)) [] false), (.slice (esV (gt y17.2.1 11)) [] false)]), (.bool (boolV (gt y17.2.1 2)))]), [])) none) none)
   (none)))) none
noncomputable def defs_Find_l1T (s : GSchema) (name : Str) : Int → Option (Int ⊕ (Unit ⊕ (Int × Str × (List Str) × (List GFieldDef) × (List Str) × (List GParam))))
  | t_6 =>
  cnd (decide (t_6 < (List.length s.defs : Int)))
   (bnd (nthI s.defs t_6) fun y8 =>
   cnd (y8.name == name)
    (some (.inr (.inr (y8.kind, y8.name, y8.faces, y8.fields, y8.parts, y8.params))))
    (some (.inl (IntKind.wrap .i64 (t_6 + 1)))))
   (some (.inr (.inl ())))
abbrev defs_Find_l1R (s : GSchema) (name : Str) (st : Int) (l : List PV) (u : UP) : Prop := l = [(.str name), (.ptr 0 4 0), (.bool false), (.slice (List.map encDef s.defs) [] false), (.int .i64 (List.length s.defs : Int)), (.int .i64 st), (.int .i64 0), (.str []), (.slice [] [] true), (.slice [] [] true), (.slice [] [] true), (.slice [] [] true), (.slice (List.map encDef s.defs) [] false), (.str s.query), (.str s.mutation)] ∧ u = []
abbrev defs_Find_l1X (s : GSchema) (name : Str) (p : Unit ⊕ (Int × Str × (List Str) × (List GFieldDef) × (List Str) × (List GParam))) (r : Ex × List PV × UP) : Prop := elim p (fun (p : Unit) => ∃ (t_9 : Int), r = (Ex.brk 0, [(.str name), (.ptr 0 4 0), (.bool false), (.slice (List.map encDef s.defs) [] false), (.int .i64 (List.length s.defs : Int)), (.int .i64 t_9), (.int .i64 0), (.str []), (.slice [] [] true), (.slice [] [] true), (.slice [] [] true), (.slice [] [] true), (.slice (List.map encDef s.defs) [] false), (.str s.query), (.str s.mutation)], [])) (fun q2 => (fun (p : Int × Str × (List Str) × (List GFieldDef) × (List Str) × (List GParam)) => ∃ (t_10 : Int), r = (Ex.ret, [(.str name), (.ptr 0 4 0), (.bool true), (.slice (List.map encDef s.defs) [] false), (.int .i64 (List.length s.defs : Int)), (.int .i64 t_10), (.int .i64 p.1), (.str p.2.1), (.slice (List.map PV.str p.2.2.1) [] false), (.slice (List.map encFieldDef p.2.2.2.1) [] false), (.slice (List.map PV.str p.2.2.2.2.1) [] false), (.slice (List.map encParam p.2.2.2.2.2) [] false), (.slice (List.map encDef s.defs) [] false), (.str s.query), (.str s.mutation)], [])) q2)
noncomputable def defs_Find_B (s : GSchema) (name : Str) : Option (GDef × Bool) :=
  bnd (defs_scalar name) fun y2 =>
  cnd y2
   (some ((GDef.mk 0 name ([] : List Str) ([] : List GFieldDef) ([] : List Str) ([] : List GParam)), true))
   (bnd (tloop (defs_Find_l1T s name) 0) fun e17_2 => elim e17_2
   (fun p17 =>
    some ((GDef.mk 0 [] ([] : List Str) ([] : List GFieldDef) ([] : List Str) ([] : List GParam)), false))
   (fun p17 =>
   some ((GDef.mk p17.1 p17.2.1 p17.2.2.1 p17.2.2.2.1 p17.2.2.2.2.1 p17.2.2.2.2.2), true)))
def defs_Find_ds : Decs := { decs := [(9, .bool), (17, (.ref shDef))], ups := [], loops := [(4, ⟨[.str, (.ptr 0 4 0), .bool, (.sl false), (.int .i64), (.int .i64), (.int .i64), .str, (.sl true), (.sl true), (.sl true), (.sl true), (.sl false), .str, .str], [], [(some 0, [.str, (.ptr 0 4 0), .bool, (.sl false), (.int .i64), (.int .i64), (.int .i64), .str, (.sl true), (.sl true), (.sl true), (.sl true), (.sl false), .str, .str], []), (none, [.str, (.ptr 0 4 0), .bool, (.sl false), (.int .i64), (.int .i64), (.int .i64), .str, (.sl false), (.sl false), (.sl false), (.sl false), (.sl false), .str, .str], [])]⟩)] }
set_option maxRecDepth 100000 in
theorem defs_Find_t1 (O : Orc) (LP : LBody → LBody) (s : GSchema) (name : Str) : evalBodyD Try.prog (MT 17) defs_Find_ds Try.f17.ntmps O LP Try.f17 [(.agg [(.slice (List.map encDef s.defs) [] false), (.str s.query), (.str s.mutation)]), (.str name)] [] = defs_Find_T1 O LP s name := by kernel_rfl
theorem defs_Find_l1_ok (s : GSchema) (name : Str) : ∀ st l u, defs_Find_l1R s name st l u → Imp (defs_Find_l1T s name st) (defs_Find_l1 O loopLim l u) (StepR (defs_Find_l1R s name) (defs_Find_l1X s name)) := by
  rintro t_6 l u ⟨rfl, rfl⟩
  simp only [defs_Find_l1T, defs_Find_l1]
  refine Imp.chk rfl (Imp.chk rfl ?_)
  try simp only [evs, tys]
  refine Imp.cnd ?_ ?_
  · refine Imp.op (f := fun a => .ref (encDef a)) (fun a h => op_ix (enc := encDef) (by first | rfl | simp only [evs, tys, evl]) ⟨by first | rfl | simp only [evs, tys, evc], by decide⟩ h) (fun a => chk_GDef a) fun y8 hy8 => ?_
    try simp only [evs, tys]
    refine Imp.cnd ?_ ?_
    · exact Imp.some (StepR.ret ⟨t_6, by first | rfl | simp only [evs, tys, evl, elim_inl, elim_inr]⟩)
    · exact Imp.some (StepR.next ⟨by first | rfl | simp only [evs, tys, evl], rfl⟩)
  · exact Imp.some (StepR.brk ⟨t_6, by first | rfl | simp only [evs, tys, evl, elim_inl, elim_inr]⟩)
theorem defs_Find_imp (s : GSchema) (name : Str) : Imp (defs_Find_B s name) (defs_Find_T1 O loopLim s name) (fun r v => v = (defs_FindE r, [])) := by
  simp only [defs_Find_B, defs_Find_T1]
  try simp only [evs, tys]
  refine Imp.call (f := defs_scalarE) rfl (fun a h => by first | exact defs_scalar_spec h | simpa only [evs, tys, evl] using defs_scalar_spec h) (fun a => by first | rfl | simp only [defs_scalarE, evk, chks]) fun y2 hy2 => ?_
  try simp only [defs_scalarE, evs, tys]
  refine Imp.cnd ?_ ?_
  · exact Imp.some (by first | rfl | simp only [defs_FindE, evs, tys, evl])
  · refine Imp.bnd (Imp.loop (defs_Find_l1_ok s name) ⟨by first | rfl | simp only [evs, tys, evl], rfl⟩) ?_
    rintro (p | ⟨b_11, b_12, b_13, b_14, b_15, b_16⟩) vy17 hy17
    · try simp only [elim_inl, elim_inr]
      obtain ⟨t_9, rfl⟩ := hy17
      refine Imp.exHit rfl (Imp.chk rfl (Imp.chk rfl ?_))
      try simp only [evs, tys]
      exact Imp.some (by first | rfl | simp only [defs_FindE, evs, tys, evl])
    · try simp only [elim_inl, elim_inr]
      obtain ⟨t_10, rfl⟩ := hy17
      refine Imp.exMiss rfl ?_
      refine Imp.exHit rfl (Imp.chk rfl (Imp.chk rfl ?_))
      try simp only [evs, tys]
      exact Imp.some (by first | rfl | simp only [defs_FindE, evs, tys, evl])
theorem defs_Find_run {s : GSchema} {name : Str} {r : GDef × Bool} (h : defs_Find_B s name = some r) : defs_Find s name = some r := by
  obtain ⟨v, hv, rfl⟩ := defs_Find_imp s name r h
  exact tO_of (pair_inj defs_FindEj) (OL_runD defs_Find_ds rfl Try.func17 ((defs_Find_t1 _ _ s name).trans hv))
end Go.Proofs.Ytigiafabnidggaa

/- Printed by symgen.py: typed functions of this seat, and why they tell what the program does. -/
set_option linter.unusedVariables false
set_option linter.unusedSimpArgs false
open Go Go.Ev Go.Ev.PV
namespace Go.Proofs.Ytigiafabnidggaa
def seinekeep_Schema_l1 (O : Orc) (LP : LBody → LBody) : LBody := fun s38 s38u => cnd (chkL [(.ptr 0 1 0), (.ptr 0 2 0), (.ptr 0 3 0), (.int .i64), (.ptr 0 5 0), (.sl true), (.int .i64), (.int .i64), .str, (.sl false), (.sl false), (.sl false), (.sl false), (.sl true), .str, .str, (.sl true), .str, .str, (.sl false), .str, .str] s38) (cnd (chkU [] s38u)
  (cnd (decide ((intV (gt s38 6)) < (List.length (esV (gt s38 10)) : Int)))
   (bnd (ix 6 (.slice (esV (gt s38 10)) [] false) (.int .i64 (intV (gt s38 6)))) fun x49 => cnd (chk (.ref shFieldDef) x49)
   (callp O 41 [(.slice (esV (gt (aggV (refV x49)) 1)) [] false)] fun x51 => cnd (chk (.sl false) x51)
   (callp O 42 [(.slice (esV (gt (aggV (refV x49)) 5)) [] false)] fun x53 => cnd (chk (.sl false) x53)
   (bnd (apd 6 (.slice (esV (gt s38 5)) [] true) (.slice [(.agg [(.str (strV (gt (aggV (refV x49)) 0))), (.slice (esV x51) [] false), (.str (strV (gt (aggV (refV x49)) 2))), (.int .i64 (intV (gt (aggV (refV x49)) 3))), (.int .i64 (intV (gt (aggV (refV x49)) 4))), (.slice (esV x53) [] false)])] [] true)) fun x55 => cnd (chk (.sl true) x55)
   (some (.nrm, [(.ptr 0 1 0), (.ptr 0 2 0), (.ptr 0 3 0), (.int .i64 (intV (gt s38 3))), (.ptr 0 5 0), (.slice (esV x55) [] true), (.int .i64 (IntKind.wrap .i64 ((intV (gt s38 6)) + 1))), (.int .i64 (intV (gt s38 7))), (.str (strV (gt s38 8))), (.slice (esV (gt s38 9)) [] false), (.slice (esV (gt s38 10)) [] false), (.slice (esV (gt s38 11)) [] false), (.slice (esV (gt s38 12)) [] false), (.slice (esV (gt s38 13)) [] true), (.str (strV (gt s38 14))), (.str (strV (gt s38 15))), (.slice (esV (gt s38 16)) [] true), (.str (strV (gt s38 17))), (.str (strV (gt s38 18))), (.slice (esV (gt s38 19)) [] false), (.str (strV (gt s38 20))), (.str (strV (gt s38 21)))], [])) none) none) none) none)
   (some (.brk 2, [(.ptr 0 1 0), (.ptr 0 2 0), (.ptr 0 3 0), (.int .i64 (intV (gt s38 3))), (.ptr 0 5 0), (.slice (esV (gt s38 5)) [] true), (.int .i64 (intV (gt s38 6))), (.int .i64 (intV (gt s38 7))), (.str (strV (gt s38 8))), (.slice (esV (gt s38 9)) [] false), (.slice (esV (gt s38 10)) [] false), (.slice (esV (gt s38 11)) [] false), (.slice (esV (gt s38 12)) [] false), (.slice (esV (gt s38 13)) [] true), (.str (strV (gt s38 14))), (.str (strV (gt s38 15))), (.slice (esV (gt s38 16)) [] true), (.str (strV (gt s38 17))), (.str (strV (gt s38 18))), (.slice (esV (gt s38 19)) [] false), (.str (strV (gt s38 20))), (.str (strV (gt s38 21)))], []))) none) none
def seinekeep_Schema_l2 (O : Orc) (LP : LBody → LBody) : LBody := fun s1 s1u => cnd (chkL [(.ptr 0 1 0), (.ptr 0 2 0), (.ptr 0 3 0), (.int .i64), (.sl true), .str, .str, (.sl true), .str, .str, (.sl false), .str, .str] s1) (cnd (chkU [] s1u)
  (cnd (decide ((intV (gt s1 3)) < (List.length (esV (gt s1 10)) : Int)))
   (bnd (ix 6 (.slice (esV (gt s1 10)) [] false) (.int .i64 (intV (gt s1 3)))) fun x36 => cnd (chk (.ref shDef) x36)
   (bnd (LP (seinekeep_Schema_l1 O LP) [(.ptr 0 1 0), (.ptr 0 2 0), (.ptr 0 3 0), (.int .i64 (intV (gt s1 3))), (.ptr 0 5 0), (.slice [] [] true), (.int .i64 0), (.int .i64 (intV (gt (aggV (refV x36)) 0))), (.str (strV (gt (aggV (refV x36)) 1))), (.slice (esV (gt (aggV (refV x36)) 2)) [] false), (.slice (esV (gt (aggV (refV x36)) 3)) [] false), (.slice (esV (gt (aggV (refV x36)) 4)) [] false), (.slice (esV (gt (aggV (refV x36)) 5)) [] false), (.slice (esV (gt s1 4)) [] true), (.str (strV (gt s1 5))), (.str (strV (gt s1 6))), (.slice (esV (gt s1 7)) [] true), (.str (strV (gt s1 8))), (.str (strV (gt s1 9))), (.slice (esV (gt s1 10)) [] false), (.str (strV (gt s1 11))), (.str (strV (gt s1 12)))] []) fun y59 =>
   exIs y59.1 (some 2) (cnd (chkL [(.ptr 0 1 0), (.ptr 0 2 0), (.ptr 0 3 0), (.int .i64), (.ptr 0 5 0), (.sl true), (.int .i64), (.int .i64), .str, (.sl false), (.sl false), (.sl false), (.sl false), (.sl true), .str, .str, (.sl true), .str, .str, (.sl false), .str, .str] y59.2.1) (cnd (chkU [] y59.2.2)
    (callp O 41 [(.slice (esV (gt y59.2.1 12)) [] false)] fun x60 => cnd (chk (.sl false) x60)
    (bnd (apd 1 (.slice [] [] true) (.slice (esV (gt y59.2.1 9)) [] false)) fun x62 => cnd (chk (.sl true) x62)
    (bnd (apd 1 (.slice [] [] true) (.slice (esV (gt y59.2.1 11)) [] false)) fun x64 => cnd (chk (.sl true) x64)
    (bnd (apd 6 (.slice (esV (gt y59.2.1 13)) [] true) (.slice [(.agg [(.int .i64 (intV (gt y59.2.1 7))), (.str (strV (gt y59.2.1 8))), (.slice (esV x62) [] false), (.slice (esV (gt y59.2.1 5)) [] false), (.slice (esV x64) [] false), (.slice (esV x60) [] false)])] [] true)) fun x66 => cnd (chk (.sl true) x66)
    (some (.nrm, [(.ptr 0 1 0), (.ptr 0 2 0), (.ptr 0 3 0), (.int .i64 (IntKind.wrap .i64 ((intV (gt y59.2.1 3)) + 1))), (.slice (esV x66) [] true), (.str (strV (gt y59.2.1 14))), (.str (strV (gt y59.2.1 15))), (.slice (esV (gt y59.2.1 16)) [] true), (.str (strV (gt y59.2.1 17))), (.str (strV (gt y59.2.1 18))), (.slice (esV (gt y59.2.1 19)) [] false), (.str (strV (gt y59.2.1 20))), (.str (strV (gt y59.2.1 21)))], [])) none) none) none) none) none) none)
   (none)) none)
   (some (.brk 0, [(.ptr 0 1 0), (.ptr 0 2 0), (.ptr 0 3 0), (.int .i64 (intV (gt s1 3))), (.slice (esV (gt s1 4)) [] true), (.str (strV (gt s1 5))), (.str (strV (gt s1 6))), (.slice (esV (gt s1 7)) [] true), (.str (strV (gt s1 8))), (.str (strV (gt s1 9))), (.slice (esV (gt s1 10)) [] false), (.str (strV (gt s1 11))), (.str (strV (gt s1 12)))], []))) none) none
def seinekeep_Schema_T1 (O : Orc) (LP : LBody → LBody) (s : GSchema) : Option (PV × UP) :=
  bnd (LP (seinekeep_Schema_l2 O LP) [(.ptr 0 1 0), (.ptr 0 2 0), (.ptr 0 3 0), (.int .i64 0), (.slice [] [] true), (.str s.query), (.str s.mutation), (.slice [] [] true), (.str []), (.str []), (.slice (List.map encDef s.defs) [] false), (.str s.query), (.str s.mutation)] []) fun y70 =>
  exIs y70.1 (some 0) (cnd (chkL [(.ptr 0 1 0), (.ptr 0 2 0), (.ptr 0 3 0), (.int .i64), (.sl true), .str, .str, (.sl true), .str, .str, (.sl false), .str, .str] y70.2.1) (cnd (chkU [] y70.2.2)
   (some ((.agg [(.slice (esV (gt y70.2.1 4)) [] false), (.str (strV (gt y70.2.1 5))), (.str (strV (gt y70.2.1 6)))]), [])) none) none)
  (none)
noncomputable def seinekeep_Schema_l1T (y37 : GDef) : ((List GFieldDef) × Int) → Option (((List GFieldDef) × Int) ⊕ ((List GFieldDef)))
  | (l_47, k_48) =>
  cnd (decide (k_48 < (List.length y37.fields : Int)))
   (bnd (nthI y37.fields k_48) fun y50 =>
   bnd (seinekeep_Params y50.params) fun y52 =>
   bnd (seinekeep_Dirs y50.dirs) fun y54 =>
   bnd (tapp l_47 [(GFieldDef.mk y50.name y52 y50.t y54)]) fun y56 =>
   some (.inl (y56, (IntKind.wrap .i64 (k_48 + 1)))))
   (some (.inr l_47))
abbrev seinekeep_Schema_l1R (s : GSchema) (i_34 : Int) (out_35 : List GDef) (y37 : GDef) (st : (List GFieldDef) × Int) (l : List PV) (u : UP) : Prop := l = [(.ptr 0 1 0), (.ptr 0 2 0), (.ptr 0 3 0), (.int .i64 i_34), (.ptr 0 5 0), (.slice (List.map encFieldDef st.1) [] true), (.int .i64 st.2), (.int .i64 y37.kind), (.str y37.name), (.slice (List.map PV.str y37.faces) [] false), (.slice (List.map encFieldDef y37.fields) [] false), (.slice (List.map PV.str y37.parts) [] false), (.slice (List.map encParam y37.params) [] false), (.slice (List.map encDef out_35) [] true), (.str s.query), (.str s.mutation), (.slice [] [] true), (.str []), (.str []), (.slice (List.map encDef s.defs) [] false), (.str s.query), (.str s.mutation)] ∧ u = []
abbrev seinekeep_Schema_l1X (s : GSchema) (i_34 : Int) (out_35 : List GDef) (y37 : GDef) (p : (List GFieldDef)) (r : Ex × List PV × UP) : Prop := (fun (p : (List GFieldDef)) => ∃ (k_58 : Int), r = (Ex.brk 2, [(.ptr 0 1 0), (.ptr 0 2 0), (.ptr 0 3 0), (.int .i64 i_34), (.ptr 0 5 0), (.slice (List.map encFieldDef p) [] true), (.int .i64 k_58), (.int .i64 y37.kind), (.str y37.name), (.slice (List.map PV.str y37.faces) [] false), (.slice (List.map encFieldDef y37.fields) [] false), (.slice (List.map PV.str y37.parts) [] false), (.slice (List.map encParam y37.params) [] false), (.slice (List.map encDef out_35) [] true), (.str s.query), (.str s.mutation), (.slice [] [] true), (.str []), (.str []), (.slice (List.map encDef s.defs) [] false), (.str s.query), (.str s.mutation)], [])) p
noncomputable def seinekeep_Schema_l2T (s : GSchema) : (Int × (List GDef)) → Option ((Int × (List GDef)) ⊕ ((List GDef)))
  | (i_34, out_35) =>
  cnd (decide (i_34 < (List.length s.defs : Int)))
   (bnd (nthI s.defs i_34) fun y37 =>
   bnd (tloop (seinekeep_Schema_l1T y37) ([], 0)) fun l_57 =>
   bnd (seinekeep_Params y37.params) fun y61 =>
   bnd (tapp ([] : List Str) y37.faces) fun y63 =>
   bnd (tapp ([] : List Str) y37.parts) fun y65 =>
   bnd (tapp out_35 [(GDef.mk y37.kind y37.name y63 l_57 y65 y61)]) fun y67 =>
   some (.inl ((IntKind.wrap .i64 (i_34 + 1)), y67)))
   (some (.inr out_35))
abbrev seinekeep_Schema_l2R (s : GSchema) (st : Int × (List GDef)) (l : List PV) (u : UP) : Prop := l = [(.ptr 0 1 0), (.ptr 0 2 0), (.ptr 0 3 0), (.int .i64 st.1), (.slice (List.map encDef st.2) [] true), (.str s.query), (.str s.mutation), (.slice [] [] true), (.str []), (.str []), (.slice (List.map encDef s.defs) [] false), (.str s.query), (.str s.mutation)] ∧ u = []
abbrev seinekeep_Schema_l2X (s : GSchema) (p : (List GDef)) (r : Ex × List PV × UP) : Prop := (fun (p : (List GDef)) => ∃ (i_68 : Int), r = (Ex.brk 0, [(.ptr 0 1 0), (.ptr 0 2 0), (.ptr 0 3 0), (.int .i64 i_68), (.slice (List.map encDef p) [] true), (.str s.query), (.str s.mutation), (.slice [] [] true), (.str []), (.str []), (.slice (List.map encDef s.defs) [] false), (.str s.query), (.str s.mutation)], [])) p
noncomputable def seinekeep_Schema_B (s : GSchema) : Option GSchema :=
  bnd (tloop (seinekeep_Schema_l2T s) (0, [])) fun out_69 =>
  some (GSchema.mk out_69 s.query s.mutation)
def seinekeep_Schema_ds : Decs := { decs := [(24, (.ref shDef)), (36, (.ref shFieldDef)), (40, (.sl false)), (43, (.sl false)), (49, (.sl true)), (53, (.sl false)), (58, (.sl true)), (61, (.sl true)), (68, (.sl true))], ups := [], loops := [(3, ⟨[(.ptr 0 1 0), (.ptr 0 2 0), (.ptr 0 3 0), (.int .i64), (.sl true), .str, .str, (.sl true), .str, .str, (.sl false), .str, .str], [], [(some 0, [(.ptr 0 1 0), (.ptr 0 2 0), (.ptr 0 3 0), (.int .i64), (.sl true), .str, .str, (.sl true), .str, .str, (.sl false), .str, .str], [])]⟩), (8, ⟨[(.ptr 0 1 0), (.ptr 0 2 0), (.ptr 0 3 0), (.int .i64), (.ptr 0 5 0), (.sl true), (.int .i64), (.int .i64), .str, (.sl false), (.sl false), (.sl false), (.sl false), (.sl true), .str, .str, (.sl true), .str, .str, (.sl false), .str, .str], [], [(some 2, [(.ptr 0 1 0), (.ptr 0 2 0), (.ptr 0 3 0), (.int .i64), (.ptr 0 5 0), (.sl true), (.int .i64), (.int .i64), .str, (.sl false), (.sl false), (.sl false), (.sl false), (.sl true), .str, .str, (.sl true), .str, .str, (.sl false), .str, .str], [])]⟩)] }
set_option maxRecDepth 100000 in
theorem seinekeep_Schema_t1 (O : Orc) (LP : LBody → LBody) (s : GSchema) : evalBodyD Try.prog (MT 18) seinekeep_Schema_ds Try.f18.ntmps O LP Try.f18 [(.agg [(.slice (List.map encDef s.defs) [] false), (.str s.query), (.str s.mutation)])] [] = seinekeep_Schema_T1 O LP s := by kernel_rfl
theorem seinekeep_Schema_l1_ok (s : GSchema) (i_34 : Int) (out_35 : List GDef) (y37 : GDef) : ∀ st l u, seinekeep_Schema_l1R s i_34 out_35 y37 st l u → Imp (seinekeep_Schema_l1T y37 st) (seinekeep_Schema_l1 O loopLim l u) (StepR (seinekeep_Schema_l1R s i_34 out_35 y37) (seinekeep_Schema_l1X s i_34 out_35 y37)) := by
  rintro ⟨l_47, k_48⟩ l u ⟨rfl, rfl⟩
  simp only [seinekeep_Schema_l1T, seinekeep_Schema_l1]
  refine Imp.chk rfl (Imp.chk rfl ?_)
  try simp only [evs, tys]
  refine Imp.cnd ?_ ?_
  · refine Imp.op (f := fun a => .ref (encFieldDef a)) (fun a h => op_ix (enc := encFieldDef) (by first | rfl | simp only [evs, tys, evl]) ⟨by first | rfl | simp only [evs, tys, evc], by decide⟩ h) (fun a => chk_GFieldDef a) fun y50 hy50 => ?_
    try simp only [evs, tys]
    refine Imp.call (f := seinekeep_ParamsE) rfl (fun a h => by first | exact seinekeep_Params_spec h | simpa only [evs, tys, evl] using seinekeep_Params_spec h) (fun a => by first | rfl | simp only [seinekeep_ParamsE, evk, chks]) fun y52 hy52 => ?_
    try simp only [seinekeep_ParamsE, evs, tys]
    refine Imp.call (f := seinekeep_DirsE) rfl (fun a h => by first | exact seinekeep_Dirs_spec h | simpa only [evs, tys, evl] using seinekeep_Dirs_spec h) (fun a => by first | rfl | simp only [seinekeep_DirsE, evk, chks]) fun y54 hy54 => ?_
    try simp only [seinekeep_DirsE, evs, tys]
    refine Imp.op (f := fun a => .slice (List.map encFieldDef a) [] true) (fun a h => op_apd (enc := encFieldDef) (by first | rfl | simp only [evs, tys, evl]) (by first | rfl | simp only [evs, tys, evl]) (fun a => by first | rfl | simp only [evs, tys, evc]) h) (fun a => rfl) fun y56 hy56 => ?_
    try simp only [evs, tys]
    exact Imp.some (StepR.next ⟨by first | rfl | simp only [evs, tys, evl], rfl⟩)
  · exact Imp.some (StepR.brk ⟨k_48, by first | rfl | simp only [evs, tys, evl, elim_inl, elim_inr]⟩)
theorem seinekeep_Schema_l2_ok (s : GSchema) : ∀ st l u, seinekeep_Schema_l2R s st l u → Imp (seinekeep_Schema_l2T s st) (seinekeep_Schema_l2 O loopLim l u) (StepR (seinekeep_Schema_l2R s) (seinekeep_Schema_l2X s)) := by
  rintro ⟨i_34, out_35⟩ l u ⟨rfl, rfl⟩
  simp only [seinekeep_Schema_l2T, seinekeep_Schema_l2]
  refine Imp.chk rfl (Imp.chk rfl ?_)
  try simp only [evs, tys]
  refine Imp.cnd ?_ ?_
  · refine Imp.op (f := fun a => .ref (encDef a)) (fun a h => op_ix (enc := encDef) (by first | rfl | simp only [evs, tys, evl]) ⟨by first | rfl | simp only [evs, tys, evc], by decide⟩ h) (fun a => chk_GDef a) fun y37 hy37 => ?_
    try simp only [evs, tys]
    refine Imp.bnd (Imp.loop (seinekeep_Schema_l1_ok s i_34 out_35 y37) ⟨by first | rfl | simp only [evs, tys, evl], rfl⟩) ?_
    rintro l_57 vy59 hy59
    obtain ⟨k_58, rfl⟩ := hy59
    refine Imp.exHit rfl (Imp.chk rfl (Imp.chk rfl ?_))
    try simp only [evs, tys]
    refine Imp.call (f := seinekeep_ParamsE) rfl (fun a h => by first | exact seinekeep_Params_spec h | simpa only [evs, tys, evl] using seinekeep_Params_spec h) (fun a => by first | rfl | simp only [seinekeep_ParamsE, evk, chks]) fun y61 hy61 => ?_
    try simp only [seinekeep_ParamsE, evs, tys]
    refine Imp.op (f := fun a => .slice (List.map PV.str a) [] true) (fun a h => op_apd (enc := PV.str) (by first | rfl | simp only [evs, tys, evl]) (by first | rfl | simp only [evs, tys, evl]) (fun a => by first | rfl | simp only [evs, tys, evc]) h) (fun a => rfl) fun y63 hy63 => ?_
    try simp only [evs, tys]
    refine Imp.op (f := fun a => .slice (List.map PV.str a) [] true) (fun a h => op_apd (enc := PV.str) (by first | rfl | simp only [evs, tys, evl]) (by first | rfl | simp only [evs, tys, evl]) (fun a => by first | rfl | simp only [evs, tys, evc]) h) (fun a => rfl) fun y65 hy65 => ?_
    try simp only [evs, tys]
    refine Imp.op (f := fun a => .slice (List.map encDef a) [] true) (fun a h => op_apd (enc := encDef) (by first | rfl | simp only [evs, tys, evl]) (by first | rfl | simp only [evs, tys, evl]) (fun a => by first | rfl | simp only [evs, tys, evc]) h) (fun a => rfl) fun y67 hy67 => ?_
    try simp only [evs, tys]
    exact Imp.some (StepR.next ⟨by first | rfl | simp only [evs, tys, evl], rfl⟩)
  · exact Imp.some (StepR.brk ⟨i_34, by first | rfl | simp only [evs, tys, evl, elim_inl, elim_inr]⟩)
theorem seinekeep_Schema_imp (s : GSchema) : Imp (seinekeep_Schema_B s) (seinekeep_Schema_T1 O loopLim s) (fun r v => v = (seinekeep_SchemaE r, [])) := by
  simp only [seinekeep_Schema_B, seinekeep_Schema_T1]
  try simp only [evs, tys]
  refine Imp.bnd (Imp.loop (seinekeep_Schema_l2_ok s) ⟨by first | rfl | simp only [evs, tys, evl], rfl⟩) ?_
  rintro out_69 vy70 hy70
  obtain ⟨i_68, rfl⟩ := hy70
  refine Imp.exHit rfl (Imp.chk rfl (Imp.chk rfl ?_))
  try simp only [evs, tys]
  exact Imp.some (by first | rfl | simp only [seinekeep_SchemaE, evs, tys, evl])
theorem seinekeep_Schema_run {s : GSchema} {r : GSchema} (h : seinekeep_Schema_B s = some r) : seinekeep_Schema s = some r := by
  obtain ⟨v, hv, rfl⟩ := seinekeep_Schema_imp s r h
  exact tO_of (pair_inj seinekeep_SchemaEj) (OL_runD seinekeep_Schema_ds rfl Try.func18 ((seinekeep_Schema_t1 _ _ s).trans hv))

def seineref9_Find_l1 (O : Orc) (LP : LBody → LBody) : LBody := fun s3 s3u => cnd (chkL [.str, (.ptr 0 2 0), (.ptr 0 4 0), .bool, (.int .i64), (.int .i64), .str, (.sl true), (.sl true), (.sl true), (.sl true), (.sl false), .str, .str] s3) (cnd (chkU [] s3u)
  (cnd (decide ((intV (gt s3 4)) < (List.length (esV (gt s3 11)) : Int)))
   (bnd (ix 6 (.slice (esV (gt s3 11)) [] false) (.int .i64 (intV (gt s3 4)))) fun x9 => cnd (chk (.ref shDef) x9)
   (cnd ((strV (gt (aggV (refV x9)) 1)) == (strV (gt s3 0)))
    (bnd (ix 6 (.slice (esV (gt s3 11)) [] false) (.int .i64 (intV (gt s3 4)))) fun x11 => cnd (chk (.ref shDef) x11)
    (some (.ret, [(.str (strV (gt s3 0))), (.ptr 0 2 0), (.ptr 0 4 0), (.bool true), (.int .i64 (intV (gt s3 4))), (.int .i64 (intV (gt (aggV (refV x11)) 0))), (.str (strV (gt (aggV (refV x11)) 1))), (.slice (esV (gt (aggV (refV x11)) 2)) [] false), (.slice (esV (gt (aggV (refV x11)) 3)) [] false), (.slice (esV (gt (aggV (refV x11)) 4)) [] false), (.slice (esV (gt (aggV (refV x11)) 5)) [] false), (.slice (esV (gt s3 11)) [] false), (.str (strV (gt s3 12))), (.str (strV (gt s3 13)))], [])) none)
    (some (.nrm, [(.str (strV (gt s3 0))), (.ptr 0 2 0), (.ptr 0 4 0), (.bool (boolV (gt s3 3))), (.int .i64 (IntKind.wrap .i64 ((intV (gt s3 4)) + 1))), (.int .i64 (intV (gt s3 5))), (.str (strV (gt s3 6))), (.slice (esV (gt s3 7)) [] true), (.slice (esV (gt s3 8)) [] true), (.slice (esV (gt s3 9)) [] true), (.slice (esV (gt s3 10)) [] true), (.slice (esV (gt s3 11)) [] false), (.str (strV (gt s3 12))), (.str (strV (gt s3 13)))], []))) none)
   (some (.brk 0, [(.str (strV (gt s3 0))), (.ptr 0 2 0), (.ptr 0 4 0), (.bool (boolV (gt s3 3))), (.int .i64 (intV (gt s3 4))), (.int .i64 (intV (gt s3 5))), (.str (strV (gt s3 6))), (.slice (esV (gt s3 7)) [] true), (.slice (esV (gt s3 8)) [] true), (.slice (esV (gt s3 9)) [] true), (.slice (esV (gt s3 10)) [] true), (.slice (esV (gt s3 11)) [] false), (.str (strV (gt s3 12))), (.str (strV (gt s3 13)))], []))) none) none
def seineref9_Find_T1 (O : Orc) (LP : LBody → LBody) (s : GSchema) (name : Str) : Option (PV × UP) :=
  callp O 43 [(.str name)] fun x1 => cnd (chk .bool x1)
  (cnd (boolV x1)
   (some ((.tuple [(.agg [(.int .i64 0), (.str name), (.slice [] [] false), (.slice [] [] false), (.slice [] [] false), (.slice [] [] false)]), (.bool true)]), []))
   (bnd (LP (seineref9_Find_l1 O LP) [(.str name), (.ptr 0 2 0), (.ptr 0 4 0), (.bool false), (.int .i64 0), (.int .i64 0), (.str []), (.slice [] [] true), (.slice [] [] true), (.slice [] [] true), (.slice [] [] true), (.slice (List.map encDef s.defs) [] false), (.str s.query), (.str s.mutation)] []) fun y21 =>
   exIs y21.1 (some 0) (cnd (chkL [.str, (.ptr 0 2 0), (.ptr 0 4 0), .bool, (.int .i64), (.int .i64), .str, (.sl true), (.sl true), (.sl true), (.sl true), (.sl false), .str, .str] y21.2.1) (cnd (chkU [] y21.2.2)
    (some ((.tuple [(.agg [(.int .i64 0), (.str []), (.slice [] [] false), (.slice [] [] false), (.slice [] [] false), (.slice [] [] false)]), (.bool false)]), [])) none) none)
   (exIs y21.1 none (cnd (chkL [.str, (.ptr 0 2 0), (.ptr 0 4 0), .bool, (.int .i64), (.int .i64), .str, (.sl false), (.sl false), (.sl false), (.sl false), (.sl false), .str, .str] y21.2.1) (cnd (chkU [] y21.2.2)
    (some ((.tuple [(.agg [(.int .i64 (intV (gt y21.2.1 5))), (.str (strV (gt y21.2.1 6))), (.slice (esV (gt y21.2.1 7)) [] false), (.slice (esV (gt y21.2.1 8)) [] false), (.slice (esV (gt y21.2.1 9)) [] false), (.slice (esV (gt y21.2.1 10)) [] false)]), (.bool (boolV (gt y21.2.1 3)))]), [])) none) none)
   (none)))) none
noncomputable def seineref9_Find_l1T (s : GSchema) (name : Str) : Int → Option (Int ⊕ (Unit ⊕ (Int × Str × (List Str) × (List GFieldDef) × (List Str) × (List GParam))))
  | i_8 =>
  cnd (decide (i_8 < (List.length s.defs : Int)))
   (bnd (nthI s.defs i_8) fun y10 =>
   cnd (y10.name == name)
    (bnd (nthI s.defs i_8) fun y12 =>
    some (.inr (.inr (y12.kind, y12.name, y12.faces, y12.fields, y12.parts, y12.params))))
    (some (.inl (IntKind.wrap .i64 (i_8 + 1)))))
   (some (.inr (.inl ())))
abbrev seineref9_Find_l1R (s : GSchema) (name : Str) (st : Int) (l : List PV) (u : UP) : Prop := l = [(.str name), (.ptr 0 2 0), (.ptr 0 4 0), (.bool false), (.int .i64 st), (.int .i64 0), (.str []), (.slice [] [] true), (.slice [] [] true), (.slice [] [] true), (.slice [] [] true), (.slice (List.map encDef s.defs) [] false), (.str s.query), (.str s.mutation)] ∧ u = []
abbrev seineref9_Find_l1X (s : GSchema) (name : Str) (p : Unit ⊕ (Int × Str × (List Str) × (List GFieldDef) × (List Str) × (List GParam))) (r : Ex × List PV × UP) : Prop := elim p (fun (p : Unit) => ∃ (i_13 : Int), r = (Ex.brk 0, [(.str name), (.ptr 0 2 0), (.ptr 0 4 0), (.bool false), (.int .i64 i_13), (.int .i64 0), (.str []), (.slice [] [] true), (.slice [] [] true), (.slice [] [] true), (.slice [] [] true), (.slice (List.map encDef s.defs) [] false), (.str s.query), (.str s.mutation)], [])) (fun q2 => (fun (p : Int × Str × (List Str) × (List GFieldDef) × (List Str) × (List GParam)) => ∃ (i_14 : Int), r = (Ex.ret, [(.str name), (.ptr 0 2 0), (.ptr 0 4 0), (.bool true), (.int .i64 i_14), (.int .i64 p.1), (.str p.2.1), (.slice (List.map PV.str p.2.2.1) [] false), (.slice (List.map encFieldDef p.2.2.2.1) [] false), (.slice (List.map PV.str p.2.2.2.2.1) [] false), (.slice (List.map encParam p.2.2.2.2.2) [] false), (.slice (List.map encDef s.defs) [] false), (.str s.query), (.str s.mutation)], [])) q2)
noncomputable def seineref9_Find_B (s : GSchema) (name : Str) : Option (GDef × Bool) :=
  bnd (seineref9_scalar name) fun y2 =>
  cnd y2
   (some ((GDef.mk 0 name ([] : List Str) ([] : List GFieldDef) ([] : List Str) ([] : List GParam)), true))
   (bnd (tloop (seineref9_Find_l1T s name) 0) fun e21_2 => elim e21_2
   (fun p21 =>
    some ((GDef.mk 0 [] ([] : List Str) ([] : List GFieldDef) ([] : List Str) ([] : List GParam)), false))
   (fun p21 =>
   some ((GDef.mk p21.1 p21.2.1 p21.2.2.1 p21.2.2.2.1 p21.2.2.2.2.1 p21.2.2.2.2.2), true)))
def seineref9_Find_ds : Decs := { decs := [(8, .bool), (21, (.ref shDef)), (29, (.ref shDef))], ups := [], loops := [(4, ⟨[.str, (.ptr 0 2 0), (.ptr 0 4 0), .bool, (.int .i64), (.int .i64), .str, (.sl true), (.sl true), (.sl true), (.sl true), (.sl false), .str, .str], [], [(some 0, [.str, (.ptr 0 2 0), (.ptr 0 4 0), .bool, (.int .i64), (.int .i64), .str, (.sl true), (.sl true), (.sl true), (.sl true), (.sl false), .str, .str], []), (none, [.str, (.ptr 0 2 0), (.ptr 0 4 0), .bool, (.int .i64), (.int .i64), .str, (.sl false), (.sl false), (.sl false), (.sl false), (.sl false), .str, .str], [])]⟩)] }
set_option maxRecDepth 100000 in
theorem seineref9_Find_t1 (O : Orc) (LP : LBody → LBody) (s : GSchema) (name : Str) : evalBodyD Try.prog (MT 19) seineref9_Find_ds Try.f19.ntmps O LP Try.f19 [(.agg [(.slice (List.map encDef s.defs) [] false), (.str s.query), (.str s.mutation)]), (.str name)] [] = seineref9_Find_T1 O LP s name := by kernel_rfl
theorem seineref9_Find_l1_ok (s : GSchema) (name : Str) : ∀ st l u, seineref9_Find_l1R s name st l u → Imp (seineref9_Find_l1T s name st) (seineref9_Find_l1 O loopLim l u) (StepR (seineref9_Find_l1R s name) (seineref9_Find_l1X s name)) := by
  rintro i_8 l u ⟨rfl, rfl⟩
  simp only [seineref9_Find_l1T, seineref9_Find_l1]
  refine Imp.chk rfl (Imp.chk rfl ?_)
  try simp only [evs, tys]
  refine Imp.cnd ?_ ?_
  · refine Imp.op (f := fun a => .ref (encDef a)) (fun a h => op_ix (enc := encDef) (by first | rfl | simp only [evs, tys, evl]) ⟨by first | rfl | simp only [evs, tys, evc], by decide⟩ h) (fun a => chk_GDef a) fun y10 hy10 => ?_
    try simp only [evs, tys]
    refine Imp.cnd ?_ ?_
    · refine Imp.op (f := fun a => .ref (encDef a)) (fun a h => op_ix (enc := encDef) (by first | rfl | simp only [evs, tys, evl]) ⟨by first | rfl | simp only [evs, tys, evc], by decide⟩ h) (fun a => chk_GDef a) fun y12 hy12 => ?_
      try simp only [evs, tys]
      exact Imp.some (StepR.ret ⟨i_8, by first | rfl | simp only [evs, tys, evl, elim_inl, elim_inr]⟩)
    · exact Imp.some (StepR.next ⟨by first | rfl | simp only [evs, tys, evl], rfl⟩)
  · exact Imp.some (StepR.brk ⟨i_8, by first | rfl | simp only [evs, tys, evl, elim_inl, elim_inr]⟩)
theorem seineref9_Find_imp (s : GSchema) (name : Str) : Imp (seineref9_Find_B s name) (seineref9_Find_T1 O loopLim s name) (fun r v => v = (seineref9_FindE r, [])) := by
  simp only [seineref9_Find_B, seineref9_Find_T1]
  try simp only [evs, tys]
  refine Imp.call (f := seineref9_scalarE) rfl (fun a h => by first | exact seineref9_scalar_spec h | simpa only [evs, tys, evl] using seineref9_scalar_spec h) (fun a => by first | rfl | simp only [seineref9_scalarE, evk, chks]) fun y2 hy2 => ?_
  try simp only [seineref9_scalarE, evs, tys]
  refine Imp.cnd ?_ ?_
  · exact Imp.some (by first | rfl | simp only [seineref9_FindE, evs, tys, evl])
  · refine Imp.bnd (Imp.loop (seineref9_Find_l1_ok s name) ⟨by first | rfl | simp only [evs, tys, evl], rfl⟩) ?_
    rintro (p | ⟨b_15, b_16, b_17, b_18, b_19, b_20⟩) vy21 hy21
    · try simp only [elim_inl, elim_inr]
      obtain ⟨i_13, rfl⟩ := hy21
      refine Imp.exHit rfl (Imp.chk rfl (Imp.chk rfl ?_))
      try simp only [evs, tys]
      exact Imp.some (by first | rfl | simp only [seineref9_FindE, evs, tys, evl])
    · try simp only [elim_inl, elim_inr]
      obtain ⟨i_14, rfl⟩ := hy21
      refine Imp.exMiss rfl ?_
      refine Imp.exHit rfl (Imp.chk rfl (Imp.chk rfl ?_))
      try simp only [evs, tys]
      exact Imp.some (by first | rfl | simp only [seineref9_FindE, evs, tys, evl])
theorem seineref9_Find_run {s : GSchema} {name : Str} {r : GDef × Bool} (h : seineref9_Find_B s name = some r) : seineref9_Find s name = some r := by
  obtain ⟨v, hv, rfl⟩ := seineref9_Find_imp s name r h
  exact tO_of (pair_inj seineref9_FindEj) (OL_runD seineref9_Find_ds rfl Try.func19 ((seineref9_Find_t1 _ _ s name).trans hv))
end Go.Proofs.Ytigiafabnidggaa

/- Printed by symgen.py: typed functions of this seat, and why they tell what the program does. -/
set_option linter.unusedVariables false
set_option linter.unusedSimpArgs false
open Go Go.Ev Go.Ev.PV
namespace Go.Proofs.Ytigiafabnidggaa
def seineref6_SameDef_l1 (O : Orc) (LP : LBody → LBody) : LBody := fun s7 s7u => cnd (chkL [(.ptr 0 2 0), (.ptr 0 3 0), .bool, (.int .i64), (.int .i64), .str, (.sl false), (.sl false), (.sl false), (.sl false), (.int .i64), .str, (.sl false), (.sl false), (.sl false), (.sl false)] s7) (cnd (chkU [] s7u)
  (cnd (decide ((intV (gt s7 3)) < (List.length (esV (gt s7 13)) : Int)))
   (bnd (ix 6 (.slice (esV (gt s7 13)) [] false) (.int .i64 (intV (gt s7 3)))) fun x15 => cnd (chk (.ref shFieldDef) x15)
   (bnd (ix 6 (.slice (esV (gt s7 7)) [] false) (.int .i64 (intV (gt s7 3)))) fun x17 => cnd (chk (.ref shFieldDef) x17)
   (callp O 12 [(.agg [(.str (strV (gt (aggV (refV x15)) 0))), (.slice (esV (gt (aggV (refV x15)) 1)) [] false), (.str (strV (gt (aggV (refV x15)) 2))), (.int .i64 (intV (gt (aggV (refV x15)) 3))), (.int .i64 (intV (gt (aggV (refV x15)) 4))), (.slice (esV (gt (aggV (refV x15)) 5)) [] false)]), (.agg [(.str (strV (gt (aggV (refV x17)) 0))), (.slice (esV (gt (aggV (refV x17)) 1)) [] false), (.str (strV (gt (aggV (refV x17)) 2))), (.int .i64 (intV (gt (aggV (refV x17)) 3))), (.int .i64 (intV (gt (aggV (refV x17)) 4))), (.slice (esV (gt (aggV (refV x17)) 5)) [] false)])] fun x19 => cnd (chk .bool x19)
   (cnd (!(boolV x19))
    (some (.ret, [(.ptr 0 2 0), (.ptr 0 3 0), (.bool false), (.int .i64 (intV (gt s7 3))), (.int .i64 (intV (gt s7 4))), (.str (strV (gt s7 5))), (.slice (esV (gt s7 6)) [] false), (.slice (esV (gt s7 7)) [] false), (.slice (esV (gt s7 8)) [] false), (.slice (esV (gt s7 9)) [] false), (.int .i64 (intV (gt s7 10))), (.str (strV (gt s7 11))), (.slice (esV (gt s7 12)) [] false), (.slice (esV (gt s7 13)) [] false), (.slice (esV (gt s7 14)) [] false), (.slice (esV (gt s7 15)) [] false)], []))
    (some (.nrm, [(.ptr 0 2 0), (.ptr 0 3 0), (.bool (boolV (gt s7 2))), (.int .i64 (IntKind.wrap .i64 ((intV (gt s7 3)) + 1))), (.int .i64 (intV (gt s7 4))), (.str (strV (gt s7 5))), (.slice (esV (gt s7 6)) [] false), (.slice (esV (gt s7 7)) [] false), (.slice (esV (gt s7 8)) [] false), (.slice (esV (gt s7 9)) [] false), (.int .i64 (intV (gt s7 10))), (.str (strV (gt s7 11))), (.slice (esV (gt s7 12)) [] false), (.slice (esV (gt s7 13)) [] false), (.slice (esV (gt s7 14)) [] false), (.slice (esV (gt s7 15)) [] false)], []))) none) none) none)
   (some (.brk 0, [(.ptr 0 2 0), (.ptr 0 3 0), (.bool (boolV (gt s7 2))), (.int .i64 (intV (gt s7 3))), (.int .i64 (intV (gt s7 4))), (.str (strV (gt s7 5))), (.slice (esV (gt s7 6)) [] false), (.slice (esV (gt s7 7)) [] false), (.slice (esV (gt s7 8)) [] false), (.slice (esV (gt s7 9)) [] false), (.int .i64 (intV (gt s7 10))), (.str (strV (gt s7 11))), (.slice (esV (gt s7 12)) [] false), (.slice (esV (gt s7 13)) [] false), (.slice (esV (gt s7 14)) [] false), (.slice (esV (gt s7 15)) [] false)], []))) none) none
def seineref6_SameDef_T1 (O : Orc) (LP : LBody → LBody) (a : GDef) (b : GDef) : Option (PV × UP) :=
  cnd (a.kind != b.kind)
   (some ((.bool false), []))
   (cnd (!(a.name == b.name))
    (some ((.bool false), []))
    (callp O 44 [(.slice (List.map PV.str a.faces) [] false), (.slice (List.map PV.str b.faces) [] false)] fun x1 => cnd (chk .bool x1)
    (cnd (!(boolV x1))
     (some ((.bool false), []))
     (callp O 44 [(.slice (List.map PV.str a.parts) [] false), (.slice (List.map PV.str b.parts) [] false)] fun x3 => cnd (chk .bool x3)
     (cnd (!(boolV x3))
      (some ((.bool false), []))
      (callp O 34 [(.slice (List.map encParam a.params) [] false), (.slice (List.map encParam b.params) [] false)] fun x5 => cnd (chk .bool x5)
      (cnd (!(boolV x5))
       (some ((.bool false), []))
       (cnd ((List.length (List.map encFieldDef a.fields) : Int) != (List.length (List.map encFieldDef b.fields) : Int))
        (some ((.bool false), []))
        (bnd (LP (seineref6_SameDef_l1 O LP) [(.ptr 0 2 0), (.ptr 0 3 0), (.bool false), (.int .i64 0), (.int .i64 b.kind), (.str b.name), (.slice (List.map PV.str b.faces) [] false), (.slice (List.map encFieldDef b.fields) [] false), (.slice (List.map PV.str b.parts) [] false), (.slice (List.map encParam b.params) [] false), (.int .i64 a.kind), (.str a.name), (.slice (List.map PV.str a.faces) [] false), (.slice (List.map encFieldDef a.fields) [] false), (.slice (List.map PV.str a.parts) [] false), (.slice (List.map encParam a.params) [] false)] []) fun y23 =>
        exIs y23.1 (some 0) (cnd (chkL [(.ptr 0 2 0), (.ptr 0 3 0), .bool, (.int .i64), (.int .i64), .str, (.sl false), (.sl false), (.sl false), (.sl false), (.int .i64), .str, (.sl false), (.sl false), (.sl false), (.sl false)] y23.2.1) (cnd (chkU [] y23.2.2)
         (some ((.bool true), [])) none) none)
        (exIs y23.1 none (cnd (chkL [(.ptr 0 2 0), (.ptr 0 3 0), .bool, (.int .i64), (.int .i64), .str, (.sl false), (.sl false), (.sl false), (.sl false), (.int .i64), .str, (.sl false), (.sl false), (.sl false), (.sl false)] y23.2.1) (cnd (chkU [] y23.2.2)
         (some ((.bool (boolV (gt y23.2.1 2))), [])) none) none)
        (none))))) none)) none)) none))
noncomputable def seineref6_SameDef_l1T (a : GDef) (b : GDef) : Int → Option (Int ⊕ (Unit ⊕ Unit))
  | i_14 =>
  cnd (decide (i_14 < (List.length a.fields : Int)))
   (bnd (nthI a.fields i_14) fun y16 =>
   bnd (nthI b.fields i_14) fun y18 =>
   bnd (seineref6_SameField y16 y18) fun y20 =>
   cnd (!y20)
    (some (.inr (.inr ())))
    (some (.inl (IntKind.wrap .i64 (i_14 + 1)))))
   (some (.inr (.inl ())))
abbrev seineref6_SameDef_l1R (a : GDef) (b : GDef) (st : Int) (l : List PV) (u : UP) : Prop := l = [(.ptr 0 2 0), (.ptr 0 3 0), (.bool false), (.int .i64 st), (.int .i64 b.kind), (.str b.name), (.slice (List.map PV.str b.faces) [] false), (.slice (List.map encFieldDef b.fields) [] false), (.slice (List.map PV.str b.parts) [] false), (.slice (List.map encParam b.params) [] false), (.int .i64 a.kind), (.str a.name), (.slice (List.map PV.str a.faces) [] false), (.slice (List.map encFieldDef a.fields) [] false), (.slice (List.map PV.str a.parts) [] false), (.slice (List.map encParam a.params) [] false)] ∧ u = []
abbrev seineref6_SameDef_l1X (a : GDef) (b : GDef) (p : Unit ⊕ Unit) (r : Ex × List PV × UP) : Prop := elim p (fun (p : Unit) => ∃ (i_21 : Int), r = (Ex.brk 0, [(.ptr 0 2 0), (.ptr 0 3 0), (.bool false), (.int .i64 i_21), (.int .i64 b.kind), (.str b.name), (.slice (List.map PV.str b.faces) [] false), (.slice (List.map encFieldDef b.fields) [] false), (.slice (List.map PV.str b.parts) [] false), (.slice (List.map encParam b.params) [] false), (.int .i64 a.kind), (.str a.name), (.slice (List.map PV.str a.faces) [] false), (.slice (List.map encFieldDef a.fields) [] false), (.slice (List.map PV.str a.parts) [] false), (.slice (List.map encParam a.params) [] false)], [])) (fun q2 => (fun (p : Unit) => ∃ (i_22 : Int), r = (Ex.ret, [(.ptr 0 2 0), (.ptr 0 3 0), (.bool false), (.int .i64 i_22), (.int .i64 b.kind), (.str b.name), (.slice (List.map PV.str b.faces) [] false), (.slice (List.map encFieldDef b.fields) [] false), (.slice (List.map PV.str b.parts) [] false), (.slice (List.map encParam b.params) [] false), (.int .i64 a.kind), (.str a.name), (.slice (List.map PV.str a.faces) [] false), (.slice (List.map encFieldDef a.fields) [] false), (.slice (List.map PV.str a.parts) [] false), (.slice (List.map encParam a.params) [] false)], [])) q2)
noncomputable def seineref6_SameDef_B (a : GDef) (b : GDef) : Option Bool :=
  cnd (a.kind != b.kind)
   (some false)
   (cnd (!(a.name == b.name))
    (some false)
    (bnd (seineref6_Texts a.faces b.faces) fun y2 =>
    cnd (!y2)
     (some false)
     (bnd (seineref6_Texts a.parts b.parts) fun y4 =>
     cnd (!y4)
      (some false)
      (bnd (seineref6_SameParams a.params b.params) fun y6 =>
      cnd (!y6)
       (some false)
       (cnd ((List.length a.fields : Int) != (List.length b.fields : Int))
        (some false)
        (bnd (tloop (seineref6_SameDef_l1T a b) 0) fun e23_2 => elim e23_2
        (fun p23 =>
         some true)
        (fun p23 =>
        some false)))))))
def seineref6_SameDef_ds : Decs := { decs := [(23, .bool), (31, .bool), (39, .bool), (61, (.ref shFieldDef)), (66, (.ref shFieldDef)), (68, .bool)], ups := [], loops := [(4, ⟨[(.ptr 0 2 0), (.ptr 0 3 0), .bool, (.int .i64), (.int .i64), .str, (.sl false), (.sl false), (.sl false), (.sl false), (.int .i64), .str, (.sl false), (.sl false), (.sl false), (.sl false)], [], [(some 0, [(.ptr 0 2 0), (.ptr 0 3 0), .bool, (.int .i64), (.int .i64), .str, (.sl false), (.sl false), (.sl false), (.sl false), (.int .i64), .str, (.sl false), (.sl false), (.sl false), (.sl false)], []), (none, [(.ptr 0 2 0), (.ptr 0 3 0), .bool, (.int .i64), (.int .i64), .str, (.sl false), (.sl false), (.sl false), (.sl false), (.int .i64), .str, (.sl false), (.sl false), (.sl false), (.sl false)], [])]⟩)] }
set_option maxRecDepth 100000 in
theorem seineref6_SameDef_t1 (O : Orc) (LP : LBody → LBody) (a : GDef) (b : GDef) : evalBodyD Try.prog (MT 20) seineref6_SameDef_ds Try.f20.ntmps O LP Try.f20 [(.agg [(.int .i64 a.kind), (.str a.name), (.slice (List.map PV.str a.faces) [] false), (.slice (List.map encFieldDef a.fields) [] false), (.slice (List.map PV.str a.parts) [] false), (.slice (List.map encParam a.params) [] false)]), (.agg [(.int .i64 b.kind), (.str b.name), (.slice (List.map PV.str b.faces) [] false), (.slice (List.map encFieldDef b.fields) [] false), (.slice (List.map PV.str b.parts) [] false), (.slice (List.map encParam b.params) [] false)])] [] = seineref6_SameDef_T1 O LP a b := by kernel_rfl
theorem seineref6_SameDef_l1_ok (a : GDef) (b : GDef) : ∀ st l u, seineref6_SameDef_l1R a b st l u → Imp (seineref6_SameDef_l1T a b st) (seineref6_SameDef_l1 O loopLim l u) (StepR (seineref6_SameDef_l1R a b) (seineref6_SameDef_l1X a b)) := by
  rintro i_14 l u ⟨rfl, rfl⟩
  simp only [seineref6_SameDef_l1T, seineref6_SameDef_l1]
  refine Imp.chk rfl (Imp.chk rfl ?_)
  try simp only [evs, tys]
  refine Imp.cnd ?_ ?_
  · refine Imp.op (f := fun a => .ref (encFieldDef a)) (fun a h => op_ix (enc := encFieldDef) (by first | rfl | simp only [evs, tys, evl]) ⟨by first | rfl | simp only [evs, tys, evc], by decide⟩ h) (fun a => chk_GFieldDef a) fun y16 hy16 => ?_
    try simp only [evs, tys]
    refine Imp.op (f := fun a => .ref (encFieldDef a)) (fun a h => op_ix (enc := encFieldDef) (by first | rfl | simp only [evs, tys, evl]) ⟨by first | rfl | simp only [evs, tys, evc], by decide⟩ h) (fun a => chk_GFieldDef a) fun y18 hy18 => ?_
    try simp only [evs, tys]
    refine Imp.call (f := seineref6_SameFieldE) rfl (fun a h => by first | exact seineref6_SameField_spec h | simpa only [evs, tys, evl] using seineref6_SameField_spec h) (fun a => by first | rfl | simp only [seineref6_SameFieldE, evk, chks]) fun y20 hy20 => ?_
    try simp only [seineref6_SameFieldE, evs, tys]
    refine Imp.cnd ?_ ?_
    · exact Imp.some (StepR.ret ⟨i_14, by first | rfl | simp only [evs, tys, evl, elim_inl, elim_inr]⟩)
    · exact Imp.some (StepR.next ⟨by first | rfl | simp only [evs, tys, evl], rfl⟩)
  · exact Imp.some (StepR.brk ⟨i_14, by first | rfl | simp only [evs, tys, evl, elim_inl, elim_inr]⟩)
theorem seineref6_SameDef_imp (a : GDef) (b : GDef) : Imp (seineref6_SameDef_B a b) (seineref6_SameDef_T1 O loopLim a b) (fun r v => v = (seineref6_SameDefE r, [])) := by
  simp only [seineref6_SameDef_B, seineref6_SameDef_T1]
  try simp only [evs, tys]
  refine Imp.cnd ?_ ?_
  · exact Imp.some (by first | rfl | simp only [seineref6_SameDefE, evs, tys, evl])
  · refine Imp.cnd ?_ ?_
    · exact Imp.some (by first | rfl | simp only [seineref6_SameDefE, evs, tys, evl])
    · refine Imp.call (f := seineref6_TextsE) rfl (fun a h => by first | exact seineref6_Texts_spec h | simpa only [evs, tys, evl] using seineref6_Texts_spec h) (fun a => by first | rfl | simp only [seineref6_TextsE, evk, chks]) fun y2 hy2 => ?_
      try simp only [seineref6_TextsE, evs, tys]
      refine Imp.cnd ?_ ?_
      · exact Imp.some (by first | rfl | simp only [seineref6_SameDefE, evs, tys, evl])
      · refine Imp.call (f := seineref6_TextsE) rfl (fun a h => by first | exact seineref6_Texts_spec h | simpa only [evs, tys, evl] using seineref6_Texts_spec h) (fun a => by first | rfl | simp only [seineref6_TextsE, evk, chks]) fun y4 hy4 => ?_
        try simp only [seineref6_TextsE, evs, tys]
        refine Imp.cnd ?_ ?_
        · exact Imp.some (by first | rfl | simp only [seineref6_SameDefE, evs, tys, evl])
        · refine Imp.call (f := seineref6_SameParamsE) rfl (fun a h => by first | exact seineref6_SameParams_spec h | simpa only [evs, tys, evl] using seineref6_SameParams_spec h) (fun a => by first | rfl | simp only [seineref6_SameParamsE, evk, chks]) fun y6 hy6 => ?_
          try simp only [seineref6_SameParamsE, evs, tys]
          refine Imp.cnd ?_ ?_
          · exact Imp.some (by first | rfl | simp only [seineref6_SameDefE, evs, tys, evl])
          · refine Imp.cnd ?_ ?_
            · exact Imp.some (by first | rfl | simp only [seineref6_SameDefE, evs, tys, evl])
            · refine Imp.bnd (Imp.loop (seineref6_SameDef_l1_ok a b) ⟨by first | rfl | simp only [evs, tys, evl], rfl⟩) ?_
              rintro (p | p) vy23 hy23
              · try simp only [elim_inl, elim_inr]
                obtain ⟨i_21, rfl⟩ := hy23
                refine Imp.exHit rfl (Imp.chk rfl (Imp.chk rfl ?_))
                try simp only [evs, tys]
                exact Imp.some (by first | rfl | simp only [seineref6_SameDefE, evs, tys, evl])
              · try simp only [elim_inl, elim_inr]
                obtain ⟨i_22, rfl⟩ := hy23
                refine Imp.exMiss rfl ?_
                refine Imp.exHit rfl (Imp.chk rfl (Imp.chk rfl ?_))
                try simp only [evs, tys]
                exact Imp.some (by first | rfl | simp only [seineref6_SameDefE, evs, tys, evl])
theorem seineref6_SameDef_run {a : GDef} {b : GDef} {r : Bool} (h : seineref6_SameDef_B a b = some r) : seineref6_SameDef a b = some r := by
  obtain ⟨v, hv, rfl⟩ := seineref6_SameDef_imp a b r h
  exact tO_of (pair_inj seineref6_SameDefEj) (OL_runD seineref6_SameDef_ds rfl Try.func20 ((seineref6_SameDef_t1 _ _ a b).trans hv))

def defs_Leaf_T1 (O : Orc) (LP : LBody → LBody) (s : GSchema) (name : Str) : Option (PV × UP) :=
  callp O 36 [(.agg [(.slice (List.map encDef s.defs) [] false), (.str s.query), (.str s.mutation)]), (.str name), (.slice [(.int .i64 0), (.int .i64 4)] [] false)] fun x1 => cnd (chk .bool x1)
  (some ((.bool (boolV x1)), [])) none
noncomputable def defs_Leaf_B (s : GSchema) (name : Str) : Option Bool :=
  bnd (defs_Kind s name [0, 4]) fun y2 =>
  some y2
def defs_Leaf_ds : Decs := { decs := [(8, .bool)], ups := [], loops := [] }
set_option maxRecDepth 100000 in
theorem defs_Leaf_t1 (O : Orc) (LP : LBody → LBody) (s : GSchema) (name : Str) : evalBodyD Try.prog (MT 21) defs_Leaf_ds Try.f21.ntmps O LP Try.f21 [(.agg [(.slice (List.map encDef s.defs) [] false), (.str s.query), (.str s.mutation)]), (.str name)] [] = defs_Leaf_T1 O LP s name := by kernel_rfl
theorem defs_Leaf_imp (s : GSchema) (name : Str) : Imp (defs_Leaf_B s name) (defs_Leaf_T1 O loopLim s name) (fun r v => v = (defs_LeafE r, [])) := by
  simp only [defs_Leaf_B, defs_Leaf_T1]
  try simp only [evs, tys]
  refine Imp.call (f := defs_KindE) rfl (fun a h => by first | exact defs_Kind_spec h | simpa only [evs, tys, evl] using defs_Kind_spec h) (fun a => by first | rfl | simp only [defs_KindE, evk, chks]) fun y2 hy2 => ?_
  try simp only [defs_KindE, evs, tys]
  exact Imp.some (by first | rfl | simp only [defs_LeafE, evs, tys, evl])
theorem defs_Leaf_run {s : GSchema} {name : Str} {r : Bool} (h : defs_Leaf_B s name = some r) : defs_Leaf s name = some r := by
  obtain ⟨v, hv, rfl⟩ := defs_Leaf_imp s name r h
  exact tO_of (pair_inj defs_LeafEj) (OL_runD defs_Leaf_ds rfl Try.func21 ((defs_Leaf_t1 _ _ s name).trans hv))

def seineref9_Leaf_T1 (O : Orc) (LP : LBody → LBody) (s : GSchema) (name : Str) : Option (PV × UP) :=
  callp O 45 [(.agg [(.slice (List.map encDef s.defs) [] false), (.str s.query), (.str s.mutation)]), (.str name), (.int .i64 0), (.int .i64 4), (.int .i64 4)] fun x1 => cnd (chk .bool x1)
  (some ((.bool (boolV x1)), [])) none
noncomputable def seineref9_Leaf_B (s : GSchema) (name : Str) : Option Bool :=
  bnd (seineref9_is s name 0 4 4) fun y2 =>
  some y2
def seineref9_Leaf_ds : Decs := { decs := [(7, .bool)], ups := [], loops := [] }
set_option maxRecDepth 100000 in
theorem seineref9_Leaf_t1 (O : Orc) (LP : LBody → LBody) (s : GSchema) (name : Str) : evalBodyD Try.prog (MT 22) seineref9_Leaf_ds Try.f22.ntmps O LP Try.f22 [(.agg [(.slice (List.map encDef s.defs) [] false), (.str s.query), (.str s.mutation)]), (.str name)] [] = seineref9_Leaf_T1 O LP s name := by kernel_rfl
theorem seineref9_Leaf_imp (s : GSchema) (name : Str) : Imp (seineref9_Leaf_B s name) (seineref9_Leaf_T1 O loopLim s name) (fun r v => v = (seineref9_LeafE r, [])) := by
  simp only [seineref9_Leaf_B, seineref9_Leaf_T1]
  try simp only [evs, tys]
  refine Imp.call (f := seineref9_isE) rfl (fun a h => by first | exact seineref9_is_spec h | simpa only [evs, tys, evl] using seineref9_is_spec h) (fun a => by first | rfl | simp only [seineref9_isE, evk, chks]) fun y2 hy2 => ?_
  try simp only [seineref9_isE, evs, tys]
  exact Imp.some (by first | rfl | simp only [seineref9_LeafE, evs, tys, evl])
theorem seineref9_Leaf_run {s : GSchema} {name : Str} {r : Bool} (h : seineref9_Leaf_B s name = some r) : seineref9_Leaf s name = some r := by
  obtain ⟨v, hv, rfl⟩ := seineref9_Leaf_imp s name r h
  exact tO_of (pair_inj seineref9_LeafEj) (OL_runD seineref9_Leaf_ds rfl Try.func22 ((seineref9_Leaf_t1 _ _ s name).trans hv))

def seineref9_Composite_T1 (O : Orc) (LP : LBody → LBody) (s : GSchema) (name : Str) : Option (PV × UP) :=
  callp O 45 [(.agg [(.slice (List.map encDef s.defs) [] false), (.str s.query), (.str s.mutation)]), (.str name), (.int .i64 1), (.int .i64 2), (.int .i64 3)] fun x1 => cnd (chk .bool x1)
  (some ((.bool (boolV x1)), [])) none
noncomputable def seineref9_Composite_B (s : GSchema) (name : Str) : Option Bool :=
  bnd (seineref9_is s name 1 2 3) fun y2 =>
  some y2
def seineref9_Composite_ds : Decs := { decs := [(7, .bool)], ups := [], loops := [] }
set_option maxRecDepth 100000 in
theorem seineref9_Composite_t1 (O : Orc) (LP : LBody → LBody) (s : GSchema) (name : Str) : evalBodyD Try.prog (MT 23) seineref9_Composite_ds Try.f23.ntmps O LP Try.f23 [(.agg [(.slice (List.map encDef s.defs) [] false), (.str s.query), (.str s.mutation)]), (.str name)] [] = seineref9_Composite_T1 O LP s name := by kernel_rfl
theorem seineref9_Composite_imp (s : GSchema) (name : Str) : Imp (seineref9_Composite_B s name) (seineref9_Composite_T1 O loopLim s name) (fun r v => v = (seineref9_CompositeE r, [])) := by
  simp only [seineref9_Composite_B, seineref9_Composite_T1]
  try simp only [evs, tys]
  refine Imp.call (f := seineref9_isE) rfl (fun a h => by first | exact seineref9_is_spec h | simpa only [evs, tys, evl] using seineref9_is_spec h) (fun a => by first | rfl | simp only [seineref9_isE, evk, chks]) fun y2 hy2 => ?_
  try simp only [seineref9_isE, evs, tys]
  exact Imp.some (by first | rfl | simp only [seineref9_CompositeE, evs, tys, evl])
theorem seineref9_Composite_run {s : GSchema} {name : Str} {r : Bool} (h : seineref9_Composite_B s name = some r) : seineref9_Composite s name = some r := by
  obtain ⟨v, hv, rfl⟩ := seineref9_Composite_imp s name r h
  exact tO_of (pair_inj seineref9_CompositeEj) (OL_runD seineref9_Composite_ds rfl Try.func23 ((seineref9_Composite_t1 _ _ s name).trans hv))

def defs_Entry_T1 (O : Orc) (LP : LBody → LBody) (s : GSchema) (name : Str) : Option (PV × UP) :=
  callp O 36 [(.agg [(.slice (List.map encDef s.defs) [] false), (.str s.query), (.str s.mutation)]), (.str name), (.slice [(.int .i64 0), (.int .i64 4), (.int .i64 5)] [] false)] fun x1 => cnd (chk .bool x1)
  (some ((.bool (boolV x1)), [])) none
noncomputable def defs_Entry_B (s : GSchema) (name : Str) : Option Bool :=
  bnd (defs_Kind s name [0, 4, 5]) fun y2 =>
  some y2
def defs_Entry_ds : Decs := { decs := [(8, .bool)], ups := [], loops := [] }
set_option maxRecDepth 100000 in
theorem defs_Entry_t1 (O : Orc) (LP : LBody → LBody) (s : GSchema) (name : Str) : evalBodyD Try.prog (MT 24) defs_Entry_ds Try.f24.ntmps O LP Try.f24 [(.agg [(.slice (List.map encDef s.defs) [] false), (.str s.query), (.str s.mutation)]), (.str name)] [] = defs_Entry_T1 O LP s name := by kernel_rfl
theorem defs_Entry_imp (s : GSchema) (name : Str) : Imp (defs_Entry_B s name) (defs_Entry_T1 O loopLim s name) (fun r v => v = (defs_EntryE r, [])) := by
  simp only [defs_Entry_B, defs_Entry_T1]
  try simp only [evs, tys]
  refine Imp.call (f := defs_KindE) rfl (fun a h => by first | exact defs_Kind_spec h | simpa only [evs, tys, evl] using defs_Kind_spec h) (fun a => by first | rfl | simp only [defs_KindE, evk, chks]) fun y2 hy2 => ?_
  try simp only [defs_KindE, evs, tys]
  exact Imp.some (by first | rfl | simp only [defs_EntryE, evs, tys, evl])
theorem defs_Entry_run {s : GSchema} {name : Str} {r : Bool} (h : defs_Entry_B s name = some r) : defs_Entry s name = some r := by
  obtain ⟨v, hv, rfl⟩ := defs_Entry_imp s name r h
  exact tO_of (pair_inj defs_EntryEj) (OL_runD defs_Entry_ds rfl Try.func24 ((defs_Entry_t1 _ _ s name).trans hv))

def seineref9_Entry_T1 (O : Orc) (LP : LBody → LBody) (s : GSchema) (name : Str) : Option (PV × UP) :=
  callp O 45 [(.agg [(.slice (List.map encDef s.defs) [] false), (.str s.query), (.str s.mutation)]), (.str name), (.int .i64 0), (.int .i64 4), (.int .i64 5)] fun x1 => cnd (chk .bool x1)
  (some ((.bool (boolV x1)), [])) none
noncomputable def seineref9_Entry_B (s : GSchema) (name : Str) : Option Bool :=
  bnd (seineref9_is s name 0 4 5) fun y2 =>
  some y2
def seineref9_Entry_ds : Decs := { decs := [(7, .bool)], ups := [], loops := [] }
set_option maxRecDepth 100000 in
theorem seineref9_Entry_t1 (O : Orc) (LP : LBody → LBody) (s : GSchema) (name : Str) : evalBodyD Try.prog (MT 25) seineref9_Entry_ds Try.f25.ntmps O LP Try.f25 [(.agg [(.slice (List.map encDef s.defs) [] false), (.str s.query), (.str s.mutation)]), (.str name)] [] = seineref9_Entry_T1 O LP s name := by kernel_rfl
theorem seineref9_Entry_imp (s : GSchema) (name : Str) : Imp (seineref9_Entry_B s name) (seineref9_Entry_T1 O loopLim s name) (fun r v => v = (seineref9_EntryE r, [])) := by
  simp only [seineref9_Entry_B, seineref9_Entry_T1]
  try simp only [evs, tys]
  refine Imp.call (f := seineref9_isE) rfl (fun a h => by first | exact seineref9_is_spec h | simpa only [evs, tys, evl] using seineref9_is_spec h) (fun a => by first | rfl | simp only [seineref9_isE, evk, chks]) fun y2 hy2 => ?_
  try simp only [seineref9_isE, evs, tys]
  exact Imp.some (by first | rfl | simp only [seineref9_EntryE, evs, tys, evl])
theorem seineref9_Entry_run {s : GSchema} {name : Str} {r : Bool} (h : seineref9_Entry_B s name = some r) : seineref9_Entry s name = some r := by
  obtain ⟨v, hv, rfl⟩ := seineref9_Entry_imp s name r h
  exact tO_of (pair_inj seineref9_EntryEj) (OL_runD seineref9_Entry_ds rfl Try.func25 ((seineref9_Entry_t1 _ _ s name).trans hv))

def seinekeep_SameTexts_l1 (O : Orc) (LP : LBody → LBody) : LBody := fun s1 s1u => cnd (chkL [(.sl false), (.sl false), .bool, (.int .i64)] s1) (cnd (chkU [] s1u)
  (cnd (decide ((intV (gt s1 3)) < (List.length (esV (gt s1 0)) : Int)))
   (bnd (ix 1 (.slice (esV (gt s1 0)) [] false) (.int .i64 (intV (gt s1 3)))) fun x7 => cnd (chk (.ref .str) x7)
   (bnd (ix 1 (.slice (esV (gt s1 1)) [] false) (.int .i64 (intV (gt s1 3)))) fun x9 => cnd (chk (.ref .str) x9)
   (cnd (!((strV (refV x7)) == (strV (refV x9))))
    (some (.ret, [(.slice (esV (gt s1 0)) [] false), (.slice (esV (gt s1 1)) [] false), (.bool false), (.int .i64 (intV (gt s1 3)))], []))
    (some (.nrm, [(.slice (esV (gt s1 0)) [] false), (.slice (esV (gt s1 1)) [] false), (.bool (boolV (gt s1 2))), (.int .i64 (IntKind.wrap .i64 ((intV (gt s1 3)) + 1)))], []))) none) none)
   (some (.brk 0, [(.slice (esV (gt s1 0)) [] false), (.slice (esV (gt s1 1)) [] false), (.bool (boolV (gt s1 2))), (.int .i64 (intV (gt s1 3)))], []))) none) none
def seinekeep_SameTexts_T1 (O : Orc) (LP : LBody → LBody) (a : List Str) (b : List Str) : Option (PV × UP) :=
  cnd ((List.length (List.map PV.str a) : Int) != (List.length (List.map PV.str b) : Int))
   (some ((.bool false), []))
   (bnd (LP (seinekeep_SameTexts_l1 O LP) [(.slice (List.map PV.str a) [] false), (.slice (List.map PV.str b) [] false), (.bool false), (.int .i64 0)] []) fun y13 =>
   exIs y13.1 (some 0) (cnd (chkL [(.sl false), (.sl false), .bool, (.int .i64)] y13.2.1) (cnd (chkU [] y13.2.2)
    (some ((.bool true), [])) none) none)
   (exIs y13.1 none (cnd (chkL [(.sl false), (.sl false), .bool, (.int .i64)] y13.2.1) (cnd (chkU [] y13.2.2)
    (some ((.bool (boolV (gt y13.2.1 2))), [])) none) none)
   (none)))
noncomputable def seinekeep_SameTexts_l1T (a : List Str) (b : List Str) : Int → Option (Int ⊕ (Unit ⊕ Unit))
  | i_6 =>
  cnd (decide (i_6 < (List.length a : Int)))
   (bnd (nthI a i_6) fun y8 =>
   bnd (nthI b i_6) fun y10 =>
   cnd (!(y8 == y10))
    (some (.inr (.inr ())))
    (some (.inl (IntKind.wrap .i64 (i_6 + 1)))))
   (some (.inr (.inl ())))
abbrev seinekeep_SameTexts_l1R (a : List Str) (b : List Str) (st : Int) (l : List PV) (u : UP) : Prop := l = [(.slice (List.map PV.str a) [] false), (.slice (List.map PV.str b) [] false), (.bool false), (.int .i64 st)] ∧ u = []
abbrev seinekeep_SameTexts_l1X (a : List Str) (b : List Str) (p : Unit ⊕ Unit) (r : Ex × List PV × UP) : Prop := elim p (fun (p : Unit) => ∃ (i_11 : Int), r = (Ex.brk 0, [(.slice (List.map PV.str a) [] false), (.slice (List.map PV.str b) [] false), (.bool false), (.int .i64 i_11)], [])) (fun q2 => (fun (p : Unit) => ∃ (i_12 : Int), r = (Ex.ret, [(.slice (List.map PV.str a) [] false), (.slice (List.map PV.str b) [] false), (.bool false), (.int .i64 i_12)], [])) q2)
noncomputable def seinekeep_SameTexts_B (a : List Str) (b : List Str) : Option Bool :=
  cnd ((List.length a : Int) != (List.length b : Int))
   (some false)
   (bnd (tloop (seinekeep_SameTexts_l1T a b) 0) fun e13_2 => elim e13_2
   (fun p13 =>
    some true)
   (fun p13 =>
   some false))
def seinekeep_SameTexts_ds : Decs := { decs := [(19, (.ref .str)), (23, (.ref .str))], ups := [], loops := [(4, ⟨[(.sl false), (.sl false), .bool, (.int .i64)], [], [(some 0, [(.sl false), (.sl false), .bool, (.int .i64)], []), (none, [(.sl false), (.sl false), .bool, (.int .i64)], [])]⟩)] }
set_option maxRecDepth 100000 in
theorem seinekeep_SameTexts_t1 (O : Orc) (LP : LBody → LBody) (a : List Str) (b : List Str) : evalBodyD Try.prog (MT 26) seinekeep_SameTexts_ds Try.f26.ntmps O LP Try.f26 [(.slice (List.map PV.str a) [] false), (.slice (List.map PV.str b) [] false)] [] = seinekeep_SameTexts_T1 O LP a b := by kernel_rfl
theorem seinekeep_SameTexts_l1_ok (a : List Str) (b : List Str) : ∀ st l u, seinekeep_SameTexts_l1R a b st l u → Imp (seinekeep_SameTexts_l1T a b st) (seinekeep_SameTexts_l1 O loopLim l u) (StepR (seinekeep_SameTexts_l1R a b) (seinekeep_SameTexts_l1X a b)) := by
  rintro i_6 l u ⟨rfl, rfl⟩
  simp only [seinekeep_SameTexts_l1T, seinekeep_SameTexts_l1]
  refine Imp.chk rfl (Imp.chk rfl ?_)
  try simp only [evs, tys]
  refine Imp.cnd ?_ ?_
  · refine Imp.op (f := fun a => .ref (PV.str a)) (fun a h => op_ix (enc := PV.str) (by first | rfl | simp only [evs, tys, evl]) ⟨by first | rfl | simp only [evs, tys, evc], by decide⟩ h) (fun a => rfl) fun y8 hy8 => ?_
    try simp only [evs, tys]
    refine Imp.op (f := fun a => .ref (PV.str a)) (fun a h => op_ix (enc := PV.str) (by first | rfl | simp only [evs, tys, evl]) ⟨by first | rfl | simp only [evs, tys, evc], by decide⟩ h) (fun a => rfl) fun y10 hy10 => ?_
    try simp only [evs, tys]
    refine Imp.cnd ?_ ?_
    · exact Imp.some (StepR.ret ⟨i_6, by first | rfl | simp only [evs, tys, evl, elim_inl, elim_inr]⟩)
    · exact Imp.some (StepR.next ⟨by first | rfl | simp only [evs, tys, evl], rfl⟩)
  · exact Imp.some (StepR.brk ⟨i_6, by first | rfl | simp only [evs, tys, evl, elim_inl, elim_inr]⟩)
theorem seinekeep_SameTexts_imp (a : List Str) (b : List Str) : Imp (seinekeep_SameTexts_B a b) (seinekeep_SameTexts_T1 O loopLim a b) (fun r v => v = (seinekeep_SameTextsE r, [])) := by
  simp only [seinekeep_SameTexts_B, seinekeep_SameTexts_T1]
  try simp only [evs, tys]
  refine Imp.cnd ?_ ?_
  · exact Imp.some (by first | rfl | simp only [seinekeep_SameTextsE, evs, tys, evl])
  · refine Imp.bnd (Imp.loop (seinekeep_SameTexts_l1_ok a b) ⟨by first | rfl | simp only [evs, tys, evl], rfl⟩) ?_
    rintro (p | p) vy13 hy13
    · try simp only [elim_inl, elim_inr]
      obtain ⟨i_11, rfl⟩ := hy13
      refine Imp.exHit rfl (Imp.chk rfl (Imp.chk rfl ?_))
      try simp only [evs, tys]
      exact Imp.some (by first | rfl | simp only [seinekeep_SameTextsE, evs, tys, evl])
    · try simp only [elim_inl, elim_inr]
      obtain ⟨i_12, rfl⟩ := hy13
      refine Imp.exMiss rfl ?_
      refine Imp.exHit rfl (Imp.chk rfl (Imp.chk rfl ?_))
      try simp only [evs, tys]
      exact Imp.some (by first | rfl | simp only [seinekeep_SameTextsE, evs, tys, evl])
theorem seinekeep_SameTexts_run {a : List Str} {b : List Str} {r : Bool} (h : seinekeep_SameTexts_B a b = some r) : seinekeep_SameTexts a b = some r := by
  obtain ⟨v, hv, rfl⟩ := seinekeep_SameTexts_imp a b r h
  exact tO_of (pair_inj seinekeep_SameTextsEj) (OL_runD seinekeep_SameTexts_ds rfl Try.func26 ((seinekeep_SameTexts_t1 _ _ a b).trans hv))
end Go.Proofs.Ytigiafabnidggaa

/- Printed by symgen.py: typed functions of this seat, and why they tell what the program does. -/
set_option linter.unusedVariables false
set_option linter.unusedSimpArgs false
open Go Go.Ev Go.Ev.PV
namespace Go.Proofs.Ytigiafabnidggaa
def seineref9_Possible_l1 (O : Orc) (LP : LBody → LBody) : LBody := fun s5 s5u => cnd (chkL [.str, (.ptr 0 2 0), (.sl true), (.int .i64), (.int .i64), .str, (.sl false), (.sl false), (.sl false), (.sl false), (.sl false), .str, .str] s5) (cnd (chkU [] s5u)
  (cnd (decide ((intV (gt s5 3)) < (List.length (esV (gt s5 10)) : Int)))
   (bnd (ix 6 (.slice (esV (gt s5 10)) [] false) (.int .i64 (intV (gt s5 3)))) fun x16 => cnd (chk (.ref shDef) x16)
   (cnd ((intV (gt (aggV (refV x16)) 0)) == 1)
    (callp O 37 [(.slice (esV (gt (aggV (refV x16)) 2)) [] false), (.str (strV (gt s5 0)))] fun x18 => cnd (chk .bool x18)
    (cnd (boolV x18)
     (callp O 37 [(.slice (esV (gt s5 2)) [] false), (.str (strV (gt (aggV (refV x16)) 1)))] fun x20 => cnd (chk .bool x20)
     (cnd (!(boolV x20))
      (bnd (apd 1 (.slice (esV (gt s5 2)) [] true) (.slice [(.str (strV (gt (aggV (refV x16)) 1)))] [] true)) fun x22 => cnd (chk (.sl true) x22)
      (some (.nrm, [(.str (strV (gt s5 0))), (.ptr 0 2 0), (.slice (esV x22) [] true), (.int .i64 (IntKind.wrap .i64 ((intV (gt s5 3)) + 1))), (.int .i64 (intV (gt s5 4))), (.str (strV (gt s5 5))), (.slice (esV (gt s5 6)) [] false), (.slice (esV (gt s5 7)) [] false), (.slice (esV (gt s5 8)) [] false), (.slice (esV (gt s5 9)) [] false), (.slice (esV (gt s5 10)) [] false), (.str (strV (gt s5 11))), (.str (strV (gt s5 12)))], [])) none)
      (some (.nrm, [(.str (strV (gt s5 0))), (.ptr 0 2 0), (.slice (esV (gt s5 2)) [] true), (.int .i64 (IntKind.wrap .i64 ((intV (gt s5 3)) + 1))), (.int .i64 (intV (gt s5 4))), (.str (strV (gt s5 5))), (.slice (esV (gt s5 6)) [] false), (.slice (esV (gt s5 7)) [] false), (.slice (esV (gt s5 8)) [] false), (.slice (esV (gt s5 9)) [] false), (.slice (esV (gt s5 10)) [] false), (.str (strV (gt s5 11))), (.str (strV (gt s5 12)))], []))) none)
     (some (.nrm, [(.str (strV (gt s5 0))), (.ptr 0 2 0), (.slice (esV (gt s5 2)) [] true), (.int .i64 (IntKind.wrap .i64 ((intV (gt s5 3)) + 1))), (.int .i64 (intV (gt s5 4))), (.str (strV (gt s5 5))), (.slice (esV (gt s5 6)) [] false), (.slice (esV (gt s5 7)) [] false), (.slice (esV (gt s5 8)) [] false), (.slice (esV (gt s5 9)) [] false), (.slice (esV (gt s5 10)) [] false), (.str (strV (gt s5 11))), (.str (strV (gt s5 12)))], []))) none)
    (some (.nrm, [(.str (strV (gt s5 0))), (.ptr 0 2 0), (.slice (esV (gt s5 2)) [] true), (.int .i64 (IntKind.wrap .i64 ((intV (gt s5 3)) + 1))), (.int .i64 (intV (gt s5 4))), (.str (strV (gt s5 5))), (.slice (esV (gt s5 6)) [] false), (.slice (esV (gt s5 7)) [] false), (.slice (esV (gt s5 8)) [] false), (.slice (esV (gt s5 9)) [] false), (.slice (esV (gt s5 10)) [] false), (.str (strV (gt s5 11))), (.str (strV (gt s5 12)))], []))) none)
   (some (.brk 1, [(.str (strV (gt s5 0))), (.ptr 0 2 0), (.slice (esV (gt s5 2)) [] true), (.int .i64 (intV (gt s5 3))), (.int .i64 (intV (gt s5 4))), (.str (strV (gt s5 5))), (.slice (esV (gt s5 6)) [] false), (.slice (esV (gt s5 7)) [] false), (.slice (esV (gt s5 8)) [] false), (.slice (esV (gt s5 9)) [] false), (.slice (esV (gt s5 10)) [] false), (.str (strV (gt s5 11))), (.str (strV (gt s5 12)))], []))) none) none
def seineref9_Possible_l2 (O : Orc) (LP : LBody → LBody) : LBody := fun s27 s27u => cnd (chkL [(.ptr 0 2 0), (.ptr 0 5 0), (.sl true), (.int .i64), (.int .i64), .str, (.sl false), (.sl false), (.sl false), (.sl false), (.sl false), .str, .str] s27) (cnd (chkU [] s27u)
  (cnd (decide ((intV (gt s27 3)) < (List.length (esV (gt s27 8)) : Int)))
   (bnd (ix 1 (.slice (esV (gt s27 8)) [] false) (.int .i64 (intV (gt s27 3)))) fun x42 => cnd (chk (.ref .str) x42)
   (callp O 46 [(.agg [(.slice (esV (gt s27 10)) [] false), (.str (strV (gt s27 11))), (.str (strV (gt s27 12)))]), (.str (strV (refV x42)))] fun x44 => cnd (chk .bool x44)
   (cnd (boolV x44)
    (bnd (ix 1 (.slice (esV (gt s27 8)) [] false) (.int .i64 (intV (gt s27 3)))) fun x46 => cnd (chk (.ref .str) x46)
    (callp O 37 [(.slice (esV (gt s27 2)) [] false), (.str (strV (refV x46)))] fun x48 => cnd (chk .bool x48)
    (cnd (!(boolV x48))
     (bnd (ix 1 (.slice (esV (gt s27 8)) [] false) (.int .i64 (intV (gt s27 3)))) fun x50 => cnd (chk (.ref .str) x50)
     (bnd (apd 1 (.slice (esV (gt s27 2)) [] true) (.slice [(.str (strV (refV x50)))] [] true)) fun x52 => cnd (chk (.sl true) x52)
     (some (.nrm, [(.ptr 0 2 0), (.ptr 0 5 0), (.slice (esV x52) [] true), (.int .i64 (IntKind.wrap .i64 ((intV (gt s27 3)) + 1))), (.int .i64 (intV (gt s27 4))), (.str (strV (gt s27 5))), (.slice (esV (gt s27 6)) [] false), (.slice (esV (gt s27 7)) [] false), (.slice (esV (gt s27 8)) [] false), (.slice (esV (gt s27 9)) [] false), (.slice (esV (gt s27 10)) [] false), (.str (strV (gt s27 11))), (.str (strV (gt s27 12)))], [])) none) none)
     (some (.nrm, [(.ptr 0 2 0), (.ptr 0 5 0), (.slice (esV (gt s27 2)) [] true), (.int .i64 (IntKind.wrap .i64 ((intV (gt s27 3)) + 1))), (.int .i64 (intV (gt s27 4))), (.str (strV (gt s27 5))), (.slice (esV (gt s27 6)) [] false), (.slice (esV (gt s27 7)) [] false), (.slice (esV (gt s27 8)) [] false), (.slice (esV (gt s27 9)) [] false), (.slice (esV (gt s27 10)) [] false), (.str (strV (gt s27 11))), (.str (strV (gt s27 12)))], []))) none) none)
    (some (.nrm, [(.ptr 0 2 0), (.ptr 0 5 0), (.slice (esV (gt s27 2)) [] true), (.int .i64 (IntKind.wrap .i64 ((intV (gt s27 3)) + 1))), (.int .i64 (intV (gt s27 4))), (.str (strV (gt s27 5))), (.slice (esV (gt s27 6)) [] false), (.slice (esV (gt s27 7)) [] false), (.slice (esV (gt s27 8)) [] false), (.slice (esV (gt s27 9)) [] false), (.slice (esV (gt s27 10)) [] false), (.str (strV (gt s27 11))), (.str (strV (gt s27 12)))], []))) none) none)
   (some (.brk 3, [(.ptr 0 2 0), (.ptr 0 5 0), (.slice (esV (gt s27 2)) [] true), (.int .i64 (intV (gt s27 3))), (.int .i64 (intV (gt s27 4))), (.str (strV (gt s27 5))), (.slice (esV (gt s27 6)) [] false), (.slice (esV (gt s27 7)) [] false), (.slice (esV (gt s27 8)) [] false), (.slice (esV (gt s27 9)) [] false), (.slice (esV (gt s27 10)) [] false), (.str (strV (gt s27 11))), (.str (strV (gt s27 12)))], []))) none) none
def seineref9_Possible_T1 (O : Orc) (LP : LBody → LBody) (s : GSchema) (name : Str) : Option (PV × UP) :=
  callp O 19 [(.agg [(.slice (List.map encDef s.defs) [] false), (.str s.query), (.str s.mutation)]), (.str name)] fun x1 => cnd (chk (.tup [shDef, .bool]) x1)
  (cnd (!(boolV (gt (tupV x1) 1)))
   (some ((.slice [] [] false), []))
   (cnd ((intV (gt (aggV (gt (tupV x1) 0)) 0)) == 1)
    (bnd (apd 1 (.slice [] [] true) (.slice [(.str name)] [] true)) fun x3 => cnd (chk (.sl true) x3)
    (some ((.slice (esV x3) [] false), [])) none)
    (cnd ((intV (gt (aggV (gt (tupV x1) 0)) 0)) == 2)
     (bnd (LP (seineref9_Possible_l1 O LP) [(.str name), (.ptr 0 2 0), (.slice [] [] true), (.int .i64 0), (.int .i64 (intV (gt (aggV (gt (tupV x1) 0)) 0))), (.str (strV (gt (aggV (gt (tupV x1) 0)) 1))), (.slice (esV (gt (aggV (gt (tupV x1) 0)) 2)) [] false), (.slice (esV (gt (aggV (gt (tupV x1) 0)) 3)) [] false), (.slice (esV (gt (aggV (gt (tupV x1) 0)) 4)) [] false), (.slice (esV (gt (aggV (gt (tupV x1) 0)) 5)) [] false), (.slice (List.map encDef s.defs) [] false), (.str s.query), (.str s.mutation)] []) fun y26 =>
     exIs y26.1 (some 1) (cnd (chkL [.str, (.ptr 0 2 0), (.sl true), (.int .i64), (.int .i64), .str, (.sl false), (.sl false), (.sl false), (.sl false), (.sl false), .str, .str] y26.2.1) (cnd (chkU [] y26.2.2)
      (some ((.slice (esV (gt y26.2.1 2)) [] false), [])) none) none)
     (none))
     (cnd ((intV (gt (aggV (gt (tupV x1) 0)) 0)) == 3)
      (bnd (LP (seineref9_Possible_l2 O LP) [(.ptr 0 2 0), (.ptr 0 5 0), (.slice [] [] true), (.int .i64 0), (.int .i64 (intV (gt (aggV (gt (tupV x1) 0)) 0))), (.str (strV (gt (aggV (gt (tupV x1) 0)) 1))), (.slice (esV (gt (aggV (gt (tupV x1) 0)) 2)) [] false), (.slice (esV (gt (aggV (gt (tupV x1) 0)) 3)) [] false), (.slice (esV (gt (aggV (gt (tupV x1) 0)) 4)) [] false), (.slice (esV (gt (aggV (gt (tupV x1) 0)) 5)) [] false), (.slice (List.map encDef s.defs) [] false), (.str s.query), (.str s.mutation)] []) fun y56 =>
      exIs y56.1 (some 3) (cnd (chkL [(.ptr 0 2 0), (.ptr 0 5 0), (.sl true), (.int .i64), (.int .i64), .str, (.sl false), (.sl false), (.sl false), (.sl false), (.sl false), .str, .str] y56.2.1) (cnd (chkU [] y56.2.2)
       (some ((.slice (esV (gt y56.2.1 2)) [] false), [])) none) none)
      (none))
      (some ((.slice [] [] false), [])))))) none
noncomputable def seineref9_Possible_l1T (s : GSchema) (name : Str) : ((List Str) × Int) → Option (((List Str) × Int) ⊕ ((List Str)))
  | (out_14, i_15) =>
  cnd (decide (i_15 < (List.length s.defs : Int)))
   (bnd (nthI s.defs i_15) fun y17 =>
   cnd (y17.kind == 1)
    (bnd (seineref1_Has y17.faces name) fun y19 =>
    cnd y19
     (bnd (seineref1_Has out_14 y17.name) fun y21 =>
     cnd (!y21)
      (bnd (tapp out_14 [y17.name]) fun y23 =>
      some (.inl (y23, (IntKind.wrap .i64 (i_15 + 1)))))
      (some (.inl (out_14, (IntKind.wrap .i64 (i_15 + 1))))))
     (some (.inl (out_14, (IntKind.wrap .i64 (i_15 + 1))))))
    (some (.inl (out_14, (IntKind.wrap .i64 (i_15 + 1))))))
   (some (.inr out_14))
abbrev seineref9_Possible_l1R (s : GSchema) (name : Str) (y2 : GDef × Bool) (st : (List Str) × Int) (l : List PV) (u : UP) : Prop := l = [(.str name), (.ptr 0 2 0), (.slice (List.map PV.str st.1) [] true), (.int .i64 st.2), (.int .i64 y2.1.kind), (.str y2.1.name), (.slice (List.map PV.str y2.1.faces) [] false), (.slice (List.map encFieldDef y2.1.fields) [] false), (.slice (List.map PV.str y2.1.parts) [] false), (.slice (List.map encParam y2.1.params) [] false), (.slice (List.map encDef s.defs) [] false), (.str s.query), (.str s.mutation)] ∧ u = []
abbrev seineref9_Possible_l1X (s : GSchema) (name : Str) (y2 : GDef × Bool) (p : (List Str)) (r : Ex × List PV × UP) : Prop := (fun (p : (List Str)) => ∃ (i_25 : Int), r = (Ex.brk 1, [(.str name), (.ptr 0 2 0), (.slice (List.map PV.str p) [] true), (.int .i64 i_25), (.int .i64 y2.1.kind), (.str y2.1.name), (.slice (List.map PV.str y2.1.faces) [] false), (.slice (List.map encFieldDef y2.1.fields) [] false), (.slice (List.map PV.str y2.1.parts) [] false), (.slice (List.map encParam y2.1.params) [] false), (.slice (List.map encDef s.defs) [] false), (.str s.query), (.str s.mutation)], [])) p
noncomputable def seineref9_Possible_l2T (s : GSchema) (y2 : GDef × Bool) : ((List Str) × Int) → Option (((List Str) × Int) ⊕ ((List Str)))
  | (out_40, i_41) =>
  cnd (decide (i_41 < (List.length y2.1.parts : Int)))
   (bnd (nthI y2.1.parts i_41) fun y43 =>
   bnd (seineref9_Object s y43) fun y45 =>
   cnd y45
    (bnd (nthI y2.1.parts i_41) fun y47 =>
    bnd (seineref1_Has out_40 y47) fun y49 =>
    cnd (!y49)
     (bnd (nthI y2.1.parts i_41) fun y51 =>
     bnd (tapp out_40 [y51]) fun y53 =>
     some (.inl (y53, (IntKind.wrap .i64 (i_41 + 1)))))
     (some (.inl (out_40, (IntKind.wrap .i64 (i_41 + 1))))))
    (some (.inl (out_40, (IntKind.wrap .i64 (i_41 + 1))))))
   (some (.inr out_40))
abbrev seineref9_Possible_l2R (s : GSchema) (name : Str) (y2 : GDef × Bool) (st : (List Str) × Int) (l : List PV) (u : UP) : Prop := l = [(.ptr 0 2 0), (.ptr 0 5 0), (.slice (List.map PV.str st.1) [] true), (.int .i64 st.2), (.int .i64 y2.1.kind), (.str y2.1.name), (.slice (List.map PV.str y2.1.faces) [] false), (.slice (List.map encFieldDef y2.1.fields) [] false), (.slice (List.map PV.str y2.1.parts) [] false), (.slice (List.map encParam y2.1.params) [] false), (.slice (List.map encDef s.defs) [] false), (.str s.query), (.str s.mutation)] ∧ u = []
abbrev seineref9_Possible_l2X (s : GSchema) (name : Str) (y2 : GDef × Bool) (p : (List Str)) (r : Ex × List PV × UP) : Prop := (fun (p : (List Str)) => ∃ (i_55 : Int), r = (Ex.brk 3, [(.ptr 0 2 0), (.ptr 0 5 0), (.slice (List.map PV.str p) [] true), (.int .i64 i_55), (.int .i64 y2.1.kind), (.str y2.1.name), (.slice (List.map PV.str y2.1.faces) [] false), (.slice (List.map encFieldDef y2.1.fields) [] false), (.slice (List.map PV.str y2.1.parts) [] false), (.slice (List.map encParam y2.1.params) [] false), (.slice (List.map encDef s.defs) [] false), (.str s.query), (.str s.mutation)], [])) p
noncomputable def seineref9_Possible_B (s : GSchema) (name : Str) : Option (List Str) :=
  bnd (seineref9_Find s name) fun y2 =>
  cnd (!y2.2)
   (some ([] : List Str))
   (cnd (y2.1.kind == 1)
    (bnd (tapp ([] : List Str) [name]) fun y4 =>
    some y4)
    (cnd (y2.1.kind == 2)
     (bnd (tloop (seineref9_Possible_l1T s name) ([], 0)) fun out_24 =>
     some out_24)
     (cnd (y2.1.kind == 3)
      (bnd (tloop (seineref9_Possible_l2T s y2) ([], 0)) fun out_54 =>
      some out_54)
      (some ([] : List Str)))))
def seineref9_Possible_ds : Decs := { decs := [(14, (.tup [shDef, .bool])), (27, (.sl true)), (42, (.ref shDef)), (51, .bool), (57, .bool), (64, (.sl true)), (80, (.ref .str)), (82, .bool), (88, (.ref .str)), (90, .bool), (97, (.ref .str)), (100, (.sl true))], ups := [], loops := [(8, ⟨[.str, (.ptr 0 2 0), (.sl true), (.int .i64), (.int .i64), .str, (.sl false), (.sl false), (.sl false), (.sl false), (.sl false), .str, .str], [], [(some 1, [.str, (.ptr 0 2 0), (.sl true), (.int .i64), (.int .i64), .str, (.sl false), (.sl false), (.sl false), (.sl false), (.sl false), .str, .str], [])]⟩), (15, ⟨[(.ptr 0 2 0), (.ptr 0 5 0), (.sl true), (.int .i64), (.int .i64), .str, (.sl false), (.sl false), (.sl false), (.sl false), (.sl false), .str, .str], [], [(some 3, [(.ptr 0 2 0), (.ptr 0 5 0), (.sl true), (.int .i64), (.int .i64), .str, (.sl false), (.sl false), (.sl false), (.sl false), (.sl false), .str, .str], [])]⟩)] }
set_option maxRecDepth 100000 in
theorem seineref9_Possible_t1 (O : Orc) (LP : LBody → LBody) (s : GSchema) (name : Str) : evalBodyD Try.prog (MT 27) seineref9_Possible_ds Try.f27.ntmps O LP Try.f27 [(.agg [(.slice (List.map encDef s.defs) [] false), (.str s.query), (.str s.mutation)]), (.str name)] [] = seineref9_Possible_T1 O LP s name := by kernel_rfl
theorem seineref9_Possible_l1_ok (s : GSchema) (name : Str) (y2 : GDef × Bool) : ∀ st l u, seineref9_Possible_l1R s name y2 st l u → Imp (seineref9_Possible_l1T s name st) (seineref9_Possible_l1 O loopLim l u) (StepR (seineref9_Possible_l1R s name y2) (seineref9_Possible_l1X s name y2)) := by
  rintro ⟨out_14, i_15⟩ l u ⟨rfl, rfl⟩
  simp only [seineref9_Possible_l1T, seineref9_Possible_l1]
  refine Imp.chk rfl (Imp.chk rfl ?_)
  try simp only [evs, tys]
  refine Imp.cnd ?_ ?_
  · refine Imp.op (f := fun a => .ref (encDef a)) (fun a h => op_ix (enc := encDef) (by first | rfl | simp only [evs, tys, evl]) ⟨by first | rfl | simp only [evs, tys, evc], by decide⟩ h) (fun a => chk_GDef a) fun y17 hy17 => ?_
    try simp only [evs, tys]
    refine Imp.cnd ?_ ?_
    · refine Imp.call (f := seineref1_HasE) rfl (fun a h => by first | exact seineref1_Has_spec h | simpa only [evs, tys, evl] using seineref1_Has_spec h) (fun a => by first | rfl | simp only [seineref1_HasE, evk, chks]) fun y19 hy19 => ?_
      try simp only [seineref1_HasE, evs, tys]
      refine Imp.cnd ?_ ?_
      · refine Imp.call (f := seineref1_HasE) rfl (fun a h => by first | exact seineref1_Has_spec h | simpa only [evs, tys, evl] using seineref1_Has_spec h) (fun a => by first | rfl | simp only [seineref1_HasE, evk, chks]) fun y21 hy21 => ?_
        try simp only [seineref1_HasE, evs, tys]
        refine Imp.cnd ?_ ?_
        · refine Imp.op (f := fun a => .slice (List.map PV.str a) [] true) (fun a h => op_apd (enc := PV.str) (by first | rfl | simp only [evs, tys, evl]) (by first | rfl | simp only [evs, tys, evl]) (fun a => by first | rfl | simp only [evs, tys, evc]) h) (fun a => rfl) fun y23 hy23 => ?_
          try simp only [evs, tys]
          exact Imp.some (StepR.next ⟨by first | rfl | simp only [evs, tys, evl], rfl⟩)
        · exact Imp.some (StepR.next ⟨by first | rfl | simp only [evs, tys, evl], rfl⟩)
      · exact Imp.some (StepR.next ⟨by first | rfl | simp only [evs, tys, evl], rfl⟩)
    · exact Imp.some (StepR.next ⟨by first | rfl | simp only [evs, tys, evl], rfl⟩)
  · exact Imp.some (StepR.brk ⟨i_15, by first | rfl | simp only [evs, tys, evl, elim_inl, elim_inr]⟩)
theorem seineref9_Possible_l2_ok (s : GSchema) (name : Str) (y2 : GDef × Bool) : ∀ st l u, seineref9_Possible_l2R s name y2 st l u → Imp (seineref9_Possible_l2T s y2 st) (seineref9_Possible_l2 O loopLim l u) (StepR (seineref9_Possible_l2R s name y2) (seineref9_Possible_l2X s name y2)) := by
  rintro ⟨out_40, i_41⟩ l u ⟨rfl, rfl⟩
  simp only [seineref9_Possible_l2T, seineref9_Possible_l2]
  refine Imp.chk rfl (Imp.chk rfl ?_)
  try simp only [evs, tys]
  refine Imp.cnd ?_ ?_
  · refine Imp.op (f := fun a => .ref (PV.str a)) (fun a h => op_ix (enc := PV.str) (by first | rfl | simp only [evs, tys, evl]) ⟨by first | rfl | simp only [evs, tys, evc], by decide⟩ h) (fun a => rfl) fun y43 hy43 => ?_
    try simp only [evs, tys]
    refine Imp.call (f := seineref9_ObjectE) rfl (fun a h => by first | exact seineref9_Object_spec h | simpa only [evs, tys, evl] using seineref9_Object_spec h) (fun a => by first | rfl | simp only [seineref9_ObjectE, evk, chks]) fun y45 hy45 => ?_
    try simp only [seineref9_ObjectE, evs, tys]
    refine Imp.cnd ?_ ?_
    · refine Imp.op (f := fun a => .ref (PV.str a)) (fun a h => op_ix (enc := PV.str) (by first | rfl | simp only [evs, tys, evl]) ⟨by first | rfl | simp only [evs, tys, evc], by decide⟩ h) (fun a => rfl) fun y47 hy47 => ?_
      try simp only [evs, tys]
      refine Imp.call (f := seineref1_HasE) rfl (fun a h => by first | exact seineref1_Has_spec h | simpa only [evs, tys, evl] using seineref1_Has_spec h) (fun a => by first | rfl | simp only [seineref1_HasE, evk, chks]) fun y49 hy49 => ?_
      try simp only [seineref1_HasE, evs, tys]
      refine Imp.cnd ?_ ?_
      · refine Imp.op (f := fun a => .ref (PV.str a)) (fun a h => op_ix (enc := PV.str) (by first | rfl | simp only [evs, tys, evl]) ⟨by first | rfl | simp only [evs, tys, evc], by decide⟩ h) (fun a => rfl) fun y51 hy51 => ?_
        try simp only [evs, tys]
        refine Imp.op (f := fun a => .slice (List.map PV.str a) [] true) (fun a h => op_apd (enc := PV.str) (by first | rfl | simp only [evs, tys, evl]) (by first | rfl | simp only [evs, tys, evl]) (fun a => by first | rfl | simp only [evs, tys, evc]) h) (fun a => rfl) fun y53 hy53 => ?_
        try simp only [evs, tys]
        exact Imp.some (StepR.next ⟨by first | rfl | simp only [evs, tys, evl], rfl⟩)
      · exact Imp.some (StepR.next ⟨by first | rfl | simp only [evs, tys, evl], rfl⟩)
    · exact Imp.some (StepR.next ⟨by first | rfl | simp only [evs, tys, evl], rfl⟩)
  · exact Imp.some (StepR.brk ⟨i_41, by first | rfl | simp only [evs, tys, evl, elim_inl, elim_inr]⟩)
theorem seineref9_Possible_imp (s : GSchema) (name : Str) : Imp (seineref9_Possible_B s name) (seineref9_Possible_T1 O loopLim s name) (fun r v => v = (seineref9_PossibleE r, [])) := by
  simp only [seineref9_Possible_B, seineref9_Possible_T1]
  try simp only [evs, tys]
  refine Imp.call (f := seineref9_FindE) rfl (fun a h => by first | exact seineref9_Find_spec h | simpa only [evs, tys, evl] using seineref9_Find_spec h) (fun a => by first | rfl | simp only [seineref9_FindE, evk, chks]) fun y2 hy2 => ?_
  try simp only [seineref9_FindE, evs, tys]
  refine Imp.cnd ?_ ?_
  · exact Imp.some (by first | rfl | simp only [seineref9_PossibleE, evs, tys, evl])
  · refine Imp.cnd ?_ ?_
    · refine Imp.op (f := fun a => .slice (List.map PV.str a) [] true) (fun a h => op_apd (enc := PV.str) (by first | rfl | simp only [evs, tys, evl]) (by first | rfl | simp only [evs, tys, evl]) (fun a => by first | rfl | simp only [evs, tys, evc]) h) (fun a => rfl) fun y4 hy4 => ?_
      try simp only [evs, tys]
      exact Imp.some (by first | rfl | simp only [seineref9_PossibleE, evs, tys, evl])
    · refine Imp.cnd ?_ ?_
      · refine Imp.bnd (Imp.loop (seineref9_Possible_l1_ok s name y2) ⟨by first | rfl | simp only [evs, tys, evl], rfl⟩) ?_
        rintro out_24 vy26 hy26
        obtain ⟨i_25, rfl⟩ := hy26
        refine Imp.exHit rfl (Imp.chk rfl (Imp.chk rfl ?_))
        try simp only [evs, tys]
        exact Imp.some (by first | rfl | simp only [seineref9_PossibleE, evs, tys, evl])
      · refine Imp.cnd ?_ ?_
        · refine Imp.bnd (Imp.loop (seineref9_Possible_l2_ok s name y2) ⟨by first | rfl | simp only [evs, tys, evl], rfl⟩) ?_
          rintro out_54 vy56 hy56
          obtain ⟨i_55, rfl⟩ := hy56
          refine Imp.exHit rfl (Imp.chk rfl (Imp.chk rfl ?_))
          try simp only [evs, tys]
          exact Imp.some (by first | rfl | simp only [seineref9_PossibleE, evs, tys, evl])
        · exact Imp.some (by first | rfl | simp only [seineref9_PossibleE, evs, tys, evl])
theorem seineref9_Possible_run {s : GSchema} {name : Str} {r : List Str} (h : seineref9_Possible_B s name = some r) : seineref9_Possible s name = some r := by
  obtain ⟨v, hv, rfl⟩ := seineref9_Possible_imp s name r h
  exact tO_of (pair_inj seineref9_PossibleEj) (OL_runD seineref9_Possible_ds rfl Try.func27 ((seineref9_Possible_t1 _ _ s name).trans hv))

def seineref6_SameSchema_l1 (O : Orc) (LP : LBody → LBody) : LBody := fun s1 s1u => cnd (chkL [(.ptr 0 2 0), (.ptr 0 3 0), .bool, (.int .i64), (.sl false), .str, .str, (.sl false), .str, .str] s1) (cnd (chkU [] s1u)
  (cnd (decide ((intV (gt s1 3)) < (List.length (esV (gt s1 7)) : Int)))
   (bnd (ix 6 (.slice (esV (gt s1 7)) [] false) (.int .i64 (intV (gt s1 3)))) fun x9 => cnd (chk (.ref shDef) x9)
   (bnd (ix 6 (.slice (esV (gt s1 4)) [] false) (.int .i64 (intV (gt s1 3)))) fun x11 => cnd (chk (.ref shDef) x11)
   (callp O 20 [(.agg [(.int .i64 (intV (gt (aggV (refV x9)) 0))), (.str (strV (gt (aggV (refV x9)) 1))), (.slice (esV (gt (aggV (refV x9)) 2)) [] false), (.slice (esV (gt (aggV (refV x9)) 3)) [] false), (.slice (esV (gt (aggV (refV x9)) 4)) [] false), (.slice (esV (gt (aggV (refV x9)) 5)) [] false)]), (.agg [(.int .i64 (intV (gt (aggV (refV x11)) 0))), (.str (strV (gt (aggV (refV x11)) 1))), (.slice (esV (gt (aggV (refV x11)) 2)) [] false), (.slice (esV (gt (aggV (refV x11)) 3)) [] false), (.slice (esV (gt (aggV (refV x11)) 4)) [] false), (.slice (esV (gt (aggV (refV x11)) 5)) [] false)])] fun x13 => cnd (chk .bool x13)
   (cnd (!(boolV x13))
    (some (.ret, [(.ptr 0 2 0), (.ptr 0 3 0), (.bool false), (.int .i64 (intV (gt s1 3))), (.slice (esV (gt s1 4)) [] false), (.str (strV (gt s1 5))), (.str (strV (gt s1 6))), (.slice (esV (gt s1 7)) [] false), (.str (strV (gt s1 8))), (.str (strV (gt s1 9)))], []))
    (some (.nrm, [(.ptr 0 2 0), (.ptr 0 3 0), (.bool (boolV (gt s1 2))), (.int .i64 (IntKind.wrap .i64 ((intV (gt s1 3)) + 1))), (.slice (esV (gt s1 4)) [] false), (.str (strV (gt s1 5))), (.str (strV (gt s1 6))), (.slice (esV (gt s1 7)) [] false), (.str (strV (gt s1 8))), (.str (strV (gt s1 9)))], []))) none) none) none)
   (some (.brk 0, [(.ptr 0 2 0), (.ptr 0 3 0), (.bool (boolV (gt s1 2))), (.int .i64 (intV (gt s1 3))), (.slice (esV (gt s1 4)) [] false), (.str (strV (gt s1 5))), (.str (strV (gt s1 6))), (.slice (esV (gt s1 7)) [] false), (.str (strV (gt s1 8))), (.str (strV (gt s1 9)))], []))) none) none
def seineref6_SameSchema_T1 (O : Orc) (LP : LBody → LBody) (a : GSchema) (b : GSchema) : Option (PV × UP) :=
  cnd (!(a.query == b.query))
   (some ((.bool false), []))
   (cnd (!(a.mutation == b.mutation))
    (some ((.bool false), []))
    (cnd ((List.length (List.map encDef a.defs) : Int) != (List.length (List.map encDef b.defs) : Int))
     (some ((.bool false), []))
     (bnd (LP (seineref6_SameSchema_l1 O LP) [(.ptr 0 2 0), (.ptr 0 3 0), (.bool false), (.int .i64 0), (.slice (List.map encDef b.defs) [] false), (.str b.query), (.str b.mutation), (.slice (List.map encDef a.defs) [] false), (.str a.query), (.str a.mutation)] []) fun y17 =>
     exIs y17.1 (some 0) (cnd (chkL [(.ptr 0 2 0), (.ptr 0 3 0), .bool, (.int .i64), (.sl false), .str, .str, (.sl false), .str, .str] y17.2.1) (cnd (chkU [] y17.2.2)
      (some ((.bool true), [])) none) none)
     (exIs y17.1 none (cnd (chkL [(.ptr 0 2 0), (.ptr 0 3 0), .bool, (.int .i64), (.sl false), .str, .str, (.sl false), .str, .str] y17.2.1) (cnd (chkU [] y17.2.2)
      (some ((.bool (boolV (gt y17.2.1 2))), [])) none) none)
     (none)))))
noncomputable def seineref6_SameSchema_l1T (a : GSchema) (b : GSchema) : Int → Option (Int ⊕ (Unit ⊕ Unit))
  | i_8 =>
  cnd (decide (i_8 < (List.length a.defs : Int)))
   (bnd (nthI a.defs i_8) fun y10 =>
   bnd (nthI b.defs i_8) fun y12 =>
   bnd (seineref6_SameDef y10 y12) fun y14 =>
   cnd (!y14)
    (some (.inr (.inr ())))
    (some (.inl (IntKind.wrap .i64 (i_8 + 1)))))
   (some (.inr (.inl ())))
abbrev seineref6_SameSchema_l1R (a : GSchema) (b : GSchema) (st : Int) (l : List PV) (u : UP) : Prop := l = [(.ptr 0 2 0), (.ptr 0 3 0), (.bool false), (.int .i64 st), (.slice (List.map encDef b.defs) [] false), (.str b.query), (.str b.mutation), (.slice (List.map encDef a.defs) [] false), (.str a.query), (.str a.mutation)] ∧ u = []
abbrev seineref6_SameSchema_l1X (a : GSchema) (b : GSchema) (p : Unit ⊕ Unit) (r : Ex × List PV × UP) : Prop := elim p (fun (p : Unit) => ∃ (i_15 : Int), r = (Ex.brk 0, [(.ptr 0 2 0), (.ptr 0 3 0), (.bool false), (.int .i64 i_15), (.slice (List.map encDef b.defs) [] false), (.str b.query), (.str b.mutation), (.slice (List.map encDef a.defs) [] false), (.str a.query), (.str a.mutation)], [])) (fun q2 => (fun (p : Unit) => ∃ (i_16 : Int), r = (Ex.ret, [(.ptr 0 2 0), (.ptr 0 3 0), (.bool false), (.int .i64 i_16), (.slice (List.map encDef b.defs) [] false), (.str b.query), (.str b.mutation), (.slice (List.map encDef a.defs) [] false), (.str a.query), (.str a.mutation)], [])) q2)
noncomputable def seineref6_SameSchema_B (a : GSchema) (b : GSchema) : Option Bool :=
  cnd (!(a.query == b.query))
   (some false)
   (cnd (!(a.mutation == b.mutation))
    (some false)
    (cnd ((List.length a.defs : Int) != (List.length b.defs : Int))
     (some false)
     (bnd (tloop (seineref6_SameSchema_l1T a b) 0) fun e17_2 => elim e17_2
     (fun p17 =>
      some true)
     (fun p17 =>
     some false))))
def seineref6_SameSchema_ds : Decs := { decs := [(37, (.ref shDef)), (42, (.ref shDef)), (44, .bool)], ups := [], loops := [(4, ⟨[(.ptr 0 2 0), (.ptr 0 3 0), .bool, (.int .i64), (.sl false), .str, .str, (.sl false), .str, .str], [], [(some 0, [(.ptr 0 2 0), (.ptr 0 3 0), .bool, (.int .i64), (.sl false), .str, .str, (.sl false), .str, .str], []), (none, [(.ptr 0 2 0), (.ptr 0 3 0), .bool, (.int .i64), (.sl false), .str, .str, (.sl false), .str, .str], [])]⟩)] }
set_option maxRecDepth 100000 in
theorem seineref6_SameSchema_t1 (O : Orc) (LP : LBody → LBody) (a : GSchema) (b : GSchema) : evalBodyD Try.prog (MT 28) seineref6_SameSchema_ds Try.f28.ntmps O LP Try.f28 [(.agg [(.slice (List.map encDef a.defs) [] false), (.str a.query), (.str a.mutation)]), (.agg [(.slice (List.map encDef b.defs) [] false), (.str b.query), (.str b.mutation)])] [] = seineref6_SameSchema_T1 O LP a b := by kernel_rfl
theorem seineref6_SameSchema_l1_ok (a : GSchema) (b : GSchema) : ∀ st l u, seineref6_SameSchema_l1R a b st l u → Imp (seineref6_SameSchema_l1T a b st) (seineref6_SameSchema_l1 O loopLim l u) (StepR (seineref6_SameSchema_l1R a b) (seineref6_SameSchema_l1X a b)) := by
  rintro i_8 l u ⟨rfl, rfl⟩
  simp only [seineref6_SameSchema_l1T, seineref6_SameSchema_l1]
  refine Imp.chk rfl (Imp.chk rfl ?_)
  try simp only [evs, tys]
  refine Imp.cnd ?_ ?_
  · refine Imp.op (f := fun a => .ref (encDef a)) (fun a h => op_ix (enc := encDef) (by first | rfl | simp only [evs, tys, evl]) ⟨by first | rfl | simp only [evs, tys, evc], by decide⟩ h) (fun a => chk_GDef a) fun y10 hy10 => ?_
    try simp only [evs, tys]
    refine Imp.op (f := fun a => .ref (encDef a)) (fun a h => op_ix (enc := encDef) (by first | rfl | simp only [evs, tys, evl]) ⟨by first | rfl | simp only [evs, tys, evc], by decide⟩ h) (fun a => chk_GDef a) fun y12 hy12 => ?_
    try simp only [evs, tys]
    refine Imp.call (f := seineref6_SameDefE) rfl (fun a h => by first | exact seineref6_SameDef_spec h | simpa only [evs, tys, evl] using seineref6_SameDef_spec h) (fun a => by first | rfl | simp only [seineref6_SameDefE, evk, chks]) fun y14 hy14 => ?_
    try simp only [seineref6_SameDefE, evs, tys]
    refine Imp.cnd ?_ ?_
    · exact Imp.some (StepR.ret ⟨i_8, by first | rfl | simp only [evs, tys, evl, elim_inl, elim_inr]⟩)
    · exact Imp.some (StepR.next ⟨by first | rfl | simp only [evs, tys, evl], rfl⟩)
  · exact Imp.some (StepR.brk ⟨i_8, by first | rfl | simp only [evs, tys, evl, elim_inl, elim_inr]⟩)
theorem seineref6_SameSchema_imp (a : GSchema) (b : GSchema) : Imp (seineref6_SameSchema_B a b) (seineref6_SameSchema_T1 O loopLim a b) (fun r v => v = (seineref6_SameSchemaE r, [])) := by
  simp only [seineref6_SameSchema_B, seineref6_SameSchema_T1]
  try simp only [evs, tys]
  refine Imp.cnd ?_ ?_
  · exact Imp.some (by first | rfl | simp only [seineref6_SameSchemaE, evs, tys, evl])
  · refine Imp.cnd ?_ ?_
    · exact Imp.some (by first | rfl | simp only [seineref6_SameSchemaE, evs, tys, evl])
    · refine Imp.cnd ?_ ?_
      · exact Imp.some (by first | rfl | simp only [seineref6_SameSchemaE, evs, tys, evl])
      · refine Imp.bnd (Imp.loop (seineref6_SameSchema_l1_ok a b) ⟨by first | rfl | simp only [evs, tys, evl], rfl⟩) ?_
        rintro (p | p) vy17 hy17
        · try simp only [elim_inl, elim_inr]
          obtain ⟨i_15, rfl⟩ := hy17
          refine Imp.exHit rfl (Imp.chk rfl (Imp.chk rfl ?_))
          try simp only [evs, tys]
          exact Imp.some (by first | rfl | simp only [seineref6_SameSchemaE, evs, tys, evl])
        · try simp only [elim_inl, elim_inr]
          obtain ⟨i_16, rfl⟩ := hy17
          refine Imp.exMiss rfl ?_
          refine Imp.exHit rfl (Imp.chk rfl (Imp.chk rfl ?_))
          try simp only [evs, tys]
          exact Imp.some (by first | rfl | simp only [seineref6_SameSchemaE, evs, tys, evl])
theorem seineref6_SameSchema_run {a : GSchema} {b : GSchema} {r : Bool} (h : seineref6_SameSchema_B a b = some r) : seineref6_SameSchema a b = some r := by
  obtain ⟨v, hv, rfl⟩ := seineref6_SameSchema_imp a b r h
  exact tO_of (pair_inj seineref6_SameSchemaEj) (OL_runD seineref6_SameSchema_ds rfl Try.func28 ((seineref6_SameSchema_t1 _ _ a b).trans hv))

def seinelaw8_lightTexts_l1 (O : Orc) (LP : LBody → LBody) : LBody := fun s1 s1u => cnd (chkL [(.sl false), (.int .i64), (.int .i64)] s1) (cnd (chkU [] s1u)
  (cnd (decide ((intV (gt s1 2)) < (List.length (esV (gt s1 0)) : Int)))
   (bnd (ix 1 (.slice (esV (gt s1 0)) [] false) (.int .i64 (intV (gt s1 2)))) fun x6 => cnd (chk (.ref .str) x6)
   (some (.nrm, [(.slice (esV (gt s1 0)) [] false), (.int .i64 (IntKind.wrap .i64 ((IntKind.wrap .i64 ((intV (gt s1 1)) + 1)) + (List.length (strV (refV x6)) : Int)))), (.int .i64 (IntKind.wrap .i64 ((intV (gt s1 2)) + 1)))], [])) none)
   (some (.brk 0, [(.slice (esV (gt s1 0)) [] false), (.int .i64 (intV (gt s1 1))), (.int .i64 (intV (gt s1 2)))], []))) none) none
def seinelaw8_lightTexts_T1 (O : Orc) (LP : LBody → LBody) (l0 : List Str) : Option (PV × UP) :=
  bnd (LP (seinelaw8_lightTexts_l1 O LP) [(.slice (List.map PV.str l0) [] false), (.int .i64 0), (.int .i64 0)] []) fun y10 =>
  exIs y10.1 (some 0) (cnd (chkL [(.sl false), (.int .i64), (.int .i64)] y10.2.1) (cnd (chkU [] y10.2.2)
   (some ((.int .i64 (intV (gt y10.2.1 1))), [])) none) none)
  (none)
noncomputable def seinelaw8_lightTexts_l1T (l0 : List Str) : (Int × Int) → Option ((Int × Int) ⊕ Int)
  | (n_4, i_5) =>
  cnd (decide (i_5 < (List.length l0 : Int)))
   (bnd (nthI l0 i_5) fun y7 =>
   some (.inl ((IntKind.wrap .i64 ((IntKind.wrap .i64 (n_4 + 1)) + (List.length y7 : Int))), (IntKind.wrap .i64 (i_5 + 1)))))
   (some (.inr n_4))
abbrev seinelaw8_lightTexts_l1R (l0 : List Str) (st : Int × Int) (l : List PV) (u : UP) : Prop := l = [(.slice (List.map PV.str l0) [] false), (.int .i64 st.1), (.int .i64 st.2)] ∧ u = []
abbrev seinelaw8_lightTexts_l1X (l0 : List Str) (p : Int) (r : Ex × List PV × UP) : Prop := (fun (p : Int) => ∃ (i_9 : Int), r = (Ex.brk 0, [(.slice (List.map PV.str l0) [] false), (.int .i64 p), (.int .i64 i_9)], [])) p
noncomputable def seinelaw8_lightTexts_B (l0 : List Str) : Option Int :=
  bnd (tloop (seinelaw8_lightTexts_l1T l0) (0, 0)) fun n_8 =>
  some n_8
def seinelaw8_lightTexts_ds : Decs := { decs := [(15, (.ref .str))], ups := [], loops := [(3, ⟨[(.sl false), (.int .i64), (.int .i64)], [], [(some 0, [(.sl false), (.int .i64), (.int .i64)], [])]⟩)] }
set_option maxRecDepth 100000 in
theorem seinelaw8_lightTexts_t1 (O : Orc) (LP : LBody → LBody) (l0 : List Str) : evalBodyD Try.prog (MT 29) seinelaw8_lightTexts_ds Try.f29.ntmps O LP Try.f29 [(.slice (List.map PV.str l0) [] false)] [] = seinelaw8_lightTexts_T1 O LP l0 := by kernel_rfl
theorem seinelaw8_lightTexts_l1_ok (l0 : List Str) : ∀ st l u, seinelaw8_lightTexts_l1R l0 st l u → Imp (seinelaw8_lightTexts_l1T l0 st) (seinelaw8_lightTexts_l1 O loopLim l u) (StepR (seinelaw8_lightTexts_l1R l0) (seinelaw8_lightTexts_l1X l0)) := by
  rintro ⟨n_4, i_5⟩ l u ⟨rfl, rfl⟩
  simp only [seinelaw8_lightTexts_l1T, seinelaw8_lightTexts_l1]
  refine Imp.chk rfl (Imp.chk rfl ?_)
  try simp only [evs, tys]
  refine Imp.cnd ?_ ?_
  · refine Imp.op (f := fun a => .ref (PV.str a)) (fun a h => op_ix (enc := PV.str) (by first | rfl | simp only [evs, tys, evl]) ⟨by first | rfl | simp only [evs, tys, evc], by decide⟩ h) (fun a => rfl) fun y7 hy7 => ?_
    try simp only [evs, tys]
    exact Imp.some (StepR.next ⟨by first | rfl | simp only [evs, tys, evl], rfl⟩)
  · exact Imp.some (StepR.brk ⟨i_5, by first | rfl | simp only [evs, tys, evl, elim_inl, elim_inr]⟩)
theorem seinelaw8_lightTexts_imp (l0 : List Str) : Imp (seinelaw8_lightTexts_B l0) (seinelaw8_lightTexts_T1 O loopLim l0) (fun r v => v = (seinelaw8_lightTextsE r, [])) := by
  simp only [seinelaw8_lightTexts_B, seinelaw8_lightTexts_T1]
  try simp only [evs, tys]
  refine Imp.bnd (Imp.loop (seinelaw8_lightTexts_l1_ok l0) ⟨by first | rfl | simp only [evs, tys, evl], rfl⟩) ?_
  rintro n_8 vy10 hy10
  obtain ⟨i_9, rfl⟩ := hy10
  refine Imp.exHit rfl (Imp.chk rfl (Imp.chk rfl ?_))
  try simp only [evs, tys]
  exact Imp.some (by first | rfl | simp only [seinelaw8_lightTextsE, evs, tys, evl])
theorem seinelaw8_lightTexts_run {l0 : List Str} {r : Int} (h : seinelaw8_lightTexts_B l0 = some r) : seinelaw8_lightTexts l0 = some r := by
  obtain ⟨v, hv, rfl⟩ := seinelaw8_lightTexts_imp l0 r h
  exact tO_of (pair_inj seinelaw8_lightTextsEj) (OL_runD seinelaw8_lightTexts_ds rfl Try.func29 ((seinelaw8_lightTexts_t1 _ _ l0).trans hv))
end Go.Proofs.Ytigiafabnidggaa

/- Printed by symgen.py: typed functions of this seat, and why they tell what the program does. -/
set_option linter.unusedVariables false
set_option linter.unusedSimpArgs false
open Go Go.Ev Go.Ev.PV
namespace Go.Proofs.Ytigiafabnidggaa
def seinelaw8_lightParams_l1 (O : Orc) (LP : LBody → LBody) : LBody := fun s1 s1u => cnd (chkL [(.sl false), (.int .i64), (.int .i64)] s1) (cnd (chkU [] s1u)
  (cnd (decide ((intV (gt s1 2)) < (List.length (esV (gt s1 0)) : Int)))
   (bnd (ix 10 (.slice (esV (gt s1 0)) [] false) (.int .i64 (intV (gt s1 2)))) fun x10 => cnd (chk (.ref shParam) x10)
   (bnd (ix 10 (.slice (esV (gt s1 0)) [] false) (.int .i64 (intV (gt s1 2)))) fun x12 => cnd (chk (.ref shParam) x12)
   (callp O 47 [(.agg [(.int .i64 (intV (gt (aggV (refV x12)) 5))), (.int .i64 (intV (gt (aggV (refV x12)) 6))), (.str (strV (gt (aggV (refV x12)) 7))), (.slice (esV (gt (aggV (refV x12)) 8)) [] false), (.slice (esV (gt (aggV (refV x12)) 9)) [] false)])] fun x14 => cnd (chk (.int .i64) x14)
   (some (.nrm, [(.slice (esV (gt s1 0)) [] false), (.int .i64 (IntKind.wrap .i64 ((IntKind.wrap .i64 ((IntKind.wrap .i64 ((intV (gt s1 1)) + 1)) + (List.length (strV (gt (aggV (refV x10)) 0)) : Int))) + (intV x14)))), (.int .i64 (IntKind.wrap .i64 ((intV (gt s1 2)) + 1)))], [])) none) none) none)
   (some (.brk 0, [(.slice (esV (gt s1 0)) [] false), (.int .i64 (intV (gt s1 1))), (.int .i64 (intV (gt s1 2)))], []))) none) none
def seinelaw8_lightParams_T1 (O : Orc) (LP : LBody → LBody) (l0 : List GParam) : Option (PV × UP) :=
  bnd (LP (seinelaw8_lightParams_l1 O LP) [(.slice (List.map encParam l0) [] false), (.int .i64 0), (.int .i64 0)] []) fun y18 =>
  exIs y18.1 (some 0) (cnd (chkL [(.sl false), (.int .i64), (.int .i64)] y18.2.1) (cnd (chkU [] y18.2.2)
   (some ((.int .i64 (intV (gt y18.2.1 1))), [])) none) none)
  (none)
noncomputable def seinelaw8_lightParams_l1T (l0 : List GParam) : (Int × Int) → Option ((Int × Int) ⊕ Int)
  | (n_8, i_9) =>
  cnd (decide (i_9 < (List.length l0 : Int)))
   (bnd (nthI l0 i_9) fun y11 =>
   bnd (nthI l0 i_9) fun y13 =>
   bnd (seinekeep_Size y13.default) fun y15 =>
   some (.inl ((IntKind.wrap .i64 ((IntKind.wrap .i64 ((IntKind.wrap .i64 (n_8 + 1)) + (List.length y11.name : Int))) + y15)), (IntKind.wrap .i64 (i_9 + 1)))))
   (some (.inr n_8))
abbrev seinelaw8_lightParams_l1R (l0 : List GParam) (st : Int × Int) (l : List PV) (u : UP) : Prop := l = [(.slice (List.map encParam l0) [] false), (.int .i64 st.1), (.int .i64 st.2)] ∧ u = []
abbrev seinelaw8_lightParams_l1X (l0 : List GParam) (p : Int) (r : Ex × List PV × UP) : Prop := (fun (p : Int) => ∃ (i_17 : Int), r = (Ex.brk 0, [(.slice (List.map encParam l0) [] false), (.int .i64 p), (.int .i64 i_17)], [])) p
noncomputable def seinelaw8_lightParams_B (l0 : List GParam) : Option Int :=
  bnd (tloop (seinelaw8_lightParams_l1T l0) (0, 0)) fun n_16 =>
  some n_16
def seinelaw8_lightParams_ds : Decs := { decs := [(15, (.ref shParam)), (22, (.ref shParam)), (25, (.int .i64))], ups := [], loops := [(3, ⟨[(.sl false), (.int .i64), (.int .i64)], [], [(some 0, [(.sl false), (.int .i64), (.int .i64)], [])]⟩)] }
set_option maxRecDepth 100000 in
theorem seinelaw8_lightParams_t1 (O : Orc) (LP : LBody → LBody) (l0 : List GParam) : evalBodyD Try.prog (MT 30) seinelaw8_lightParams_ds Try.f30.ntmps O LP Try.f30 [(.slice (List.map encParam l0) [] false)] [] = seinelaw8_lightParams_T1 O LP l0 := by kernel_rfl
theorem seinelaw8_lightParams_l1_ok (l0 : List GParam) : ∀ st l u, seinelaw8_lightParams_l1R l0 st l u → Imp (seinelaw8_lightParams_l1T l0 st) (seinelaw8_lightParams_l1 O loopLim l u) (StepR (seinelaw8_lightParams_l1R l0) (seinelaw8_lightParams_l1X l0)) := by
  rintro ⟨n_8, i_9⟩ l u ⟨rfl, rfl⟩
  simp only [seinelaw8_lightParams_l1T, seinelaw8_lightParams_l1]
  refine Imp.chk rfl (Imp.chk rfl ?_)
  try simp only [evs, tys]
  refine Imp.cnd ?_ ?_
  · refine Imp.op (f := fun a => .ref (encParam a)) (fun a h => op_ix (enc := encParam) (by first | rfl | simp only [evs, tys, evl]) ⟨by first | rfl | simp only [evs, tys, evc], by decide⟩ h) (fun a => chk_GParam a) fun y11 hy11 => ?_
    try simp only [evs, tys]
    refine Imp.op (f := fun a => .ref (encParam a)) (fun a h => op_ix (enc := encParam) (by first | rfl | simp only [evs, tys, evl]) ⟨by first | rfl | simp only [evs, tys, evc], by decide⟩ h) (fun a => chk_GParam a) fun y13 hy13 => ?_
    try simp only [evs, tys]
    refine Imp.call (f := seinekeep_SizeE) rfl (fun a h => by first | exact seinekeep_Size_spec h | simpa only [evs, tys, evl] using seinekeep_Size_spec h) (fun a => by first | rfl | simp only [seinekeep_SizeE, evk, chks]) fun y15 hy15 => ?_
    try simp only [seinekeep_SizeE, evs, tys]
    exact Imp.some (StepR.next ⟨by first | rfl | simp only [evs, tys, evl], rfl⟩)
  · exact Imp.some (StepR.brk ⟨i_9, by first | rfl | simp only [evs, tys, evl, elim_inl, elim_inr]⟩)
theorem seinelaw8_lightParams_imp (l0 : List GParam) : Imp (seinelaw8_lightParams_B l0) (seinelaw8_lightParams_T1 O loopLim l0) (fun r v => v = (seinelaw8_lightParamsE r, [])) := by
  simp only [seinelaw8_lightParams_B, seinelaw8_lightParams_T1]
  try simp only [evs, tys]
  refine Imp.bnd (Imp.loop (seinelaw8_lightParams_l1_ok l0) ⟨by first | rfl | simp only [evs, tys, evl], rfl⟩) ?_
  rintro n_16 vy18 hy18
  obtain ⟨i_17, rfl⟩ := hy18
  refine Imp.exHit rfl (Imp.chk rfl (Imp.chk rfl ?_))
  try simp only [evs, tys]
  exact Imp.some (by first | rfl | simp only [seinelaw8_lightParamsE, evs, tys, evl])
theorem seinelaw8_lightParams_run {l0 : List GParam} {r : Int} (h : seinelaw8_lightParams_B l0 = some r) : seinelaw8_lightParams l0 = some r := by
  obtain ⟨v, hv, rfl⟩ := seinelaw8_lightParams_imp l0 r h
  exact tO_of (pair_inj seinelaw8_lightParamsEj) (OL_runD seinelaw8_lightParams_ds rfl Try.func30 ((seinelaw8_lightParams_t1 _ _ l0).trans hv))

def seinelaw8_lightDirs_l1 (O : Orc) (LP : LBody → LBody) : LBody := fun s1 s1u => cnd (chkL [(.sl false), (.int .i64), (.int .i64)] s1) (cnd (chkU [] s1u)
  (cnd (decide ((intV (gt s1 2)) < (List.length (esV (gt s1 0)) : Int)))
   (bnd (ix 2 (.slice (esV (gt s1 0)) [] false) (.int .i64 (intV (gt s1 2)))) fun x10 => cnd (chk (.ref shDir) x10)
   (bnd (ix 2 (.slice (esV (gt s1 0)) [] false) (.int .i64 (intV (gt s1 2)))) fun x12 => cnd (chk (.ref shDir) x12)
   (callp O 47 [(.agg [(.int .i64 0), (.int .i64 0), (.str []), (.slice [] [] false), (.slice (esV (gt (aggV (refV x12)) 1)) [] false)])] fun x14 => cnd (chk (.int .i64) x14)
   (some (.nrm, [(.slice (esV (gt s1 0)) [] false), (.int .i64 (IntKind.wrap .i64 ((IntKind.wrap .i64 ((IntKind.wrap .i64 ((intV (gt s1 1)) + 1)) + (List.length (strV (gt (aggV (refV x10)) 0)) : Int))) + (intV x14)))), (.int .i64 (IntKind.wrap .i64 ((intV (gt s1 2)) + 1)))], [])) none) none) none)
   (some (.brk 0, [(.slice (esV (gt s1 0)) [] false), (.int .i64 (intV (gt s1 1))), (.int .i64 (intV (gt s1 2)))], []))) none) none
def seinelaw8_lightDirs_T1 (O : Orc) (LP : LBody → LBody) (l0 : List GDir) : Option (PV × UP) :=
  bnd (LP (seinelaw8_lightDirs_l1 O LP) [(.slice (List.map encDir l0) [] false), (.int .i64 0), (.int .i64 0)] []) fun y18 =>
  exIs y18.1 (some 0) (cnd (chkL [(.sl false), (.int .i64), (.int .i64)] y18.2.1) (cnd (chkU [] y18.2.2)
   (some ((.int .i64 (intV (gt y18.2.1 1))), [])) none) none)
  (none)
noncomputable def seinelaw8_lightDirs_l1T (l0 : List GDir) : (Int × Int) → Option ((Int × Int) ⊕ Int)
  | (n_8, i_9) =>
  cnd (decide (i_9 < (List.length l0 : Int)))
   (bnd (nthI l0 i_9) fun y11 =>
   bnd (nthI l0 i_9) fun y13 =>
   bnd (seinekeep_Size (GValue.mk 0 0 [] ([] : List GValue) y13.args)) fun y15 =>
   some (.inl ((IntKind.wrap .i64 ((IntKind.wrap .i64 ((IntKind.wrap .i64 (n_8 + 1)) + (List.length y11.name : Int))) + y15)), (IntKind.wrap .i64 (i_9 + 1)))))
   (some (.inr n_8))
abbrev seinelaw8_lightDirs_l1R (l0 : List GDir) (st : Int × Int) (l : List PV) (u : UP) : Prop := l = [(.slice (List.map encDir l0) [] false), (.int .i64 st.1), (.int .i64 st.2)] ∧ u = []
abbrev seinelaw8_lightDirs_l1X (l0 : List GDir) (p : Int) (r : Ex × List PV × UP) : Prop := (fun (p : Int) => ∃ (i_17 : Int), r = (Ex.brk 0, [(.slice (List.map encDir l0) [] false), (.int .i64 p), (.int .i64 i_17)], [])) p
noncomputable def seinelaw8_lightDirs_B (l0 : List GDir) : Option Int :=
  bnd (tloop (seinelaw8_lightDirs_l1T l0) (0, 0)) fun n_16 =>
  some n_16
def seinelaw8_lightDirs_ds : Decs := { decs := [(15, (.ref shDir)), (22, (.ref shDir)), (26, (.int .i64))], ups := [], loops := [(3, ⟨[(.sl false), (.int .i64), (.int .i64)], [], [(some 0, [(.sl false), (.int .i64), (.int .i64)], [])]⟩)] }
set_option maxRecDepth 100000 in
theorem seinelaw8_lightDirs_t1 (O : Orc) (LP : LBody → LBody) (l0 : List GDir) : evalBodyD Try.prog (MT 31) seinelaw8_lightDirs_ds Try.f31.ntmps O LP Try.f31 [(.slice (List.map encDir l0) [] false)] [] = seinelaw8_lightDirs_T1 O LP l0 := by kernel_rfl
theorem seinelaw8_lightDirs_l1_ok (l0 : List GDir) : ∀ st l u, seinelaw8_lightDirs_l1R l0 st l u → Imp (seinelaw8_lightDirs_l1T l0 st) (seinelaw8_lightDirs_l1 O loopLim l u) (StepR (seinelaw8_lightDirs_l1R l0) (seinelaw8_lightDirs_l1X l0)) := by
  rintro ⟨n_8, i_9⟩ l u ⟨rfl, rfl⟩
  simp only [seinelaw8_lightDirs_l1T, seinelaw8_lightDirs_l1]
  refine Imp.chk rfl (Imp.chk rfl ?_)
  try simp only [evs, tys]
  refine Imp.cnd ?_ ?_
  · refine Imp.op (f := fun a => .ref (encDir a)) (fun a h => op_ix (enc := encDir) (by first | rfl | simp only [evs, tys, evl]) ⟨by first | rfl | simp only [evs, tys, evc], by decide⟩ h) (fun a => chk_GDir a) fun y11 hy11 => ?_
    try simp only [evs, tys]
    refine Imp.op (f := fun a => .ref (encDir a)) (fun a h => op_ix (enc := encDir) (by first | rfl | simp only [evs, tys, evl]) ⟨by first | rfl | simp only [evs, tys, evc], by decide⟩ h) (fun a => chk_GDir a) fun y13 hy13 => ?_
    try simp only [evs, tys]
    refine Imp.call (f := seinekeep_SizeE) rfl (fun a h => by first | exact seinekeep_Size_spec h | simpa only [evs, tys, evl] using seinekeep_Size_spec h) (fun a => by first | rfl | simp only [seinekeep_SizeE, evk, chks]) fun y15 hy15 => ?_
    try simp only [seinekeep_SizeE, evs, tys]
    exact Imp.some (StepR.next ⟨by first | rfl | simp only [evs, tys, evl], rfl⟩)
  · exact Imp.some (StepR.brk ⟨i_9, by first | rfl | simp only [evs, tys, evl, elim_inl, elim_inr]⟩)
theorem seinelaw8_lightDirs_imp (l0 : List GDir) : Imp (seinelaw8_lightDirs_B l0) (seinelaw8_lightDirs_T1 O loopLim l0) (fun r v => v = (seinelaw8_lightDirsE r, [])) := by
  simp only [seinelaw8_lightDirs_B, seinelaw8_lightDirs_T1]
  try simp only [evs, tys]
  refine Imp.bnd (Imp.loop (seinelaw8_lightDirs_l1_ok l0) ⟨by first | rfl | simp only [evs, tys, evl], rfl⟩) ?_
  rintro n_16 vy18 hy18
  obtain ⟨i_17, rfl⟩ := hy18
  refine Imp.exHit rfl (Imp.chk rfl (Imp.chk rfl ?_))
  try simp only [evs, tys]
  exact Imp.some (by first | rfl | simp only [seinelaw8_lightDirsE, evs, tys, evl])
theorem seinelaw8_lightDirs_run {l0 : List GDir} {r : Int} (h : seinelaw8_lightDirs_B l0 = some r) : seinelaw8_lightDirs l0 = some r := by
  obtain ⟨v, hv, rfl⟩ := seinelaw8_lightDirs_imp l0 r h
  exact tO_of (pair_inj seinelaw8_lightDirsEj) (OL_runD seinelaw8_lightDirs_ds rfl Try.func31 ((seinelaw8_lightDirs_t1 _ _ l0).trans hv))

def seineref6_SameParams_l1 (O : Orc) (LP : LBody → LBody) : LBody := fun s1 s1u => cnd (chkL [(.sl false), (.sl false), .bool, (.int .i64)] s1) (cnd (chkU [] s1u)
  (cnd (decide ((intV (gt s1 3)) < (List.length (esV (gt s1 0)) : Int)))
   (bnd (ix 10 (.slice (esV (gt s1 0)) [] false) (.int .i64 (intV (gt s1 3)))) fun x21 => cnd (chk (.ref shParam) x21)
   (bnd (ix 10 (.slice (esV (gt s1 1)) [] false) (.int .i64 (intV (gt s1 3)))) fun x23 => cnd (chk (.ref shParam) x23)
   (cnd (!((strV (gt (aggV (refV x21)) 0)) == (strV (gt (aggV (refV x23)) 0))))
    (some (.ret, [(.slice (esV (gt s1 0)) [] false), (.slice (esV (gt s1 1)) [] false), (.bool false), (.int .i64 (intV (gt s1 3)))], []))
    (bnd (ix 10 (.slice (esV (gt s1 0)) [] false) (.int .i64 (intV (gt s1 3)))) fun x25 => cnd (chk (.ref shParam) x25)
    (bnd (ix 10 (.slice (esV (gt s1 1)) [] false) (.int .i64 (intV (gt s1 3)))) fun x27 => cnd (chk (.ref shParam) x27)
    (cnd (!(((strV (gt (aggV (refV x25)) 1)) == (strV (gt (aggV (refV x27)) 1))) && (((intV (gt (aggV (refV x25)) 2)) == (intV (gt (aggV (refV x27)) 2))) && (((intV (gt (aggV (refV x25)) 3)) == (intV (gt (aggV (refV x27)) 3))) && true))))
     (some (.ret, [(.slice (esV (gt s1 0)) [] false), (.slice (esV (gt s1 1)) [] false), (.bool false), (.int .i64 (intV (gt s1 3)))], []))
     (bnd (ix 10 (.slice (esV (gt s1 0)) [] false) (.int .i64 (intV (gt s1 3)))) fun x29 => cnd (chk (.ref shParam) x29)
     (bnd (ix 10 (.slice (esV (gt s1 1)) [] false) (.int .i64 (intV (gt s1 3)))) fun x31 => cnd (chk (.ref shParam) x31)
     (cnd (!((boolV (gt (aggV (refV x29)) 4)) == (boolV (gt (aggV (refV x31)) 4))))
      (some (.ret, [(.slice (esV (gt s1 0)) [] false), (.slice (esV (gt s1 1)) [] false), (.bool false), (.int .i64 (intV (gt s1 3)))], []))
      (bnd (ix 10 (.slice (esV (gt s1 0)) [] false) (.int .i64 (intV (gt s1 3)))) fun x33 => cnd (chk (.ref shParam) x33)
      (bnd (ix 10 (.slice (esV (gt s1 1)) [] false) (.int .i64 (intV (gt s1 3)))) fun x35 => cnd (chk (.ref shParam) x35)
      (callp O 48 [(.agg [(.int .i64 (intV (gt (aggV (refV x33)) 5))), (.int .i64 (intV (gt (aggV (refV x33)) 6))), (.str (strV (gt (aggV (refV x33)) 7))), (.slice (esV (gt (aggV (refV x33)) 8)) [] false), (.slice (esV (gt (aggV (refV x33)) 9)) [] false)]), (.agg [(.int .i64 (intV (gt (aggV (refV x35)) 5))), (.int .i64 (intV (gt (aggV (refV x35)) 6))), (.str (strV (gt (aggV (refV x35)) 7))), (.slice (esV (gt (aggV (refV x35)) 8)) [] false), (.slice (esV (gt (aggV (refV x35)) 9)) [] false)])] fun x37 => cnd (chk .bool x37)
      (cnd (!(boolV x37))
       (some (.ret, [(.slice (esV (gt s1 0)) [] false), (.slice (esV (gt s1 1)) [] false), (.bool false), (.int .i64 (intV (gt s1 3)))], []))
       (some (.nrm, [(.slice (esV (gt s1 0)) [] false), (.slice (esV (gt s1 1)) [] false), (.bool (boolV (gt s1 2))), (.int .i64 (IntKind.wrap .i64 ((intV (gt s1 3)) + 1)))], []))) none) none) none)) none) none)) none) none)) none) none)
   (some (.brk 0, [(.slice (esV (gt s1 0)) [] false), (.slice (esV (gt s1 1)) [] false), (.bool (boolV (gt s1 2))), (.int .i64 (intV (gt s1 3)))], []))) none) none
def seineref6_SameParams_T1 (O : Orc) (LP : LBody → LBody) (a : List GParam) (b : List GParam) : Option (PV × UP) :=
  cnd ((List.length (List.map encParam a) : Int) != (List.length (List.map encParam b) : Int))
   (some ((.bool false), []))
   (bnd (LP (seineref6_SameParams_l1 O LP) [(.slice (List.map encParam a) [] false), (.slice (List.map encParam b) [] false), (.bool false), (.int .i64 0)] []) fun y41 =>
   exIs y41.1 (some 0) (cnd (chkL [(.sl false), (.sl false), .bool, (.int .i64)] y41.2.1) (cnd (chkU [] y41.2.2)
    (some ((.bool true), [])) none) none)
   (exIs y41.1 none (cnd (chkL [(.sl false), (.sl false), .bool, (.int .i64)] y41.2.1) (cnd (chkU [] y41.2.2)
    (some ((.bool (boolV (gt y41.2.1 2))), [])) none) none)
   (none)))
noncomputable def seineref6_SameParams_l1T (a : List GParam) (b : List GParam) : Int → Option (Int ⊕ (Unit ⊕ Unit))
  | i_20 =>
  cnd (decide (i_20 < (List.length a : Int)))
   (bnd (nthI a i_20) fun y22 =>
   bnd (nthI b i_20) fun y24 =>
   cnd (!(y22.name == y24.name))
    (some (.inr (.inr ())))
    (bnd (nthI a i_20) fun y26 =>
    bnd (nthI b i_20) fun y28 =>
    cnd (!((y26.t.name == y28.t.name) && ((y26.t.lists == y28.t.lists) && ((y26.t.musts == y28.t.musts) && true))))
     (some (.inr (.inr ())))
     (bnd (nthI a i_20) fun y30 =>
     bnd (nthI b i_20) fun y32 =>
     cnd (!(y30.has == y32.has))
      (some (.inr (.inr ())))
      (bnd (nthI a i_20) fun y34 =>
      bnd (nthI b i_20) fun y36 =>
      bnd (seineref1_Same y34.default y36.default) fun y38 =>
      cnd (!y38)
       (some (.inr (.inr ())))
       (some (.inl (IntKind.wrap .i64 (i_20 + 1))))))))
   (some (.inr (.inl ())))
abbrev seineref6_SameParams_l1R (a : List GParam) (b : List GParam) (st : Int) (l : List PV) (u : UP) : Prop := l = [(.slice (List.map encParam a) [] false), (.slice (List.map encParam b) [] false), (.bool false), (.int .i64 st)] ∧ u = []
abbrev seineref6_SameParams_l1X (a : List GParam) (b : List GParam) (p : Unit ⊕ Unit) (r : Ex × List PV × UP) : Prop := elim p (fun (p : Unit) => ∃ (i_39 : Int), r = (Ex.brk 0, [(.slice (List.map encParam a) [] false), (.slice (List.map encParam b) [] false), (.bool false), (.int .i64 i_39)], [])) (fun q2 => (fun (p : Unit) => ∃ (i_40 : Int), r = (Ex.ret, [(.slice (List.map encParam a) [] false), (.slice (List.map encParam b) [] false), (.bool false), (.int .i64 i_40)], [])) q2)
noncomputable def seineref6_SameParams_B (a : List GParam) (b : List GParam) : Option Bool :=
  cnd ((List.length a : Int) != (List.length b : Int))
   (some false)
   (bnd (tloop (seineref6_SameParams_l1T a b) 0) fun e41_2 => elim e41_2
   (fun p41 =>
    some true)
   (fun p41 =>
   some false))
def seineref6_SameParams_ds : Decs := { decs := [(19, (.ref shParam)), (24, (.ref shParam)), (31, (.ref shParam)), (36, (.ref shParam)), (44, (.ref shParam)), (49, (.ref shParam)), (57, (.ref shParam)), (62, (.ref shParam)), (65, .bool)], ups := [], loops := [(4, ⟨[(.sl false), (.sl false), .bool, (.int .i64)], [], [(some 0, [(.sl false), (.sl false), .bool, (.int .i64)], []), (none, [(.sl false), (.sl false), .bool, (.int .i64)], [])]⟩)] }
set_option maxRecDepth 100000 in
theorem seineref6_SameParams_t1 (O : Orc) (LP : LBody → LBody) (a : List GParam) (b : List GParam) : evalBodyD Try.prog (MT 34) seineref6_SameParams_ds Try.f34.ntmps O LP Try.f34 [(.slice (List.map encParam a) [] false), (.slice (List.map encParam b) [] false)] [] = seineref6_SameParams_T1 O LP a b := by kernel_rfl
theorem seineref6_SameParams_l1_ok (a : List GParam) (b : List GParam) : ∀ st l u, seineref6_SameParams_l1R a b st l u → Imp (seineref6_SameParams_l1T a b st) (seineref6_SameParams_l1 O loopLim l u) (StepR (seineref6_SameParams_l1R a b) (seineref6_SameParams_l1X a b)) := by
  rintro i_20 l u ⟨rfl, rfl⟩
  simp only [seineref6_SameParams_l1T, seineref6_SameParams_l1]
  refine Imp.chk rfl (Imp.chk rfl ?_)
  try simp only [evs, tys]
  refine Imp.cnd ?_ ?_
  · refine Imp.op (f := fun a => .ref (encParam a)) (fun a h => op_ix (enc := encParam) (by first | rfl | simp only [evs, tys, evl]) ⟨by first | rfl | simp only [evs, tys, evc], by decide⟩ h) (fun a => chk_GParam a) fun y22 hy22 => ?_
    try simp only [evs, tys]
    refine Imp.op (f := fun a => .ref (encParam a)) (fun a h => op_ix (enc := encParam) (by first | rfl | simp only [evs, tys, evl]) ⟨by first | rfl | simp only [evs, tys, evc], by decide⟩ h) (fun a => chk_GParam a) fun y24 hy24 => ?_
    try simp only [evs, tys]
    refine Imp.cnd ?_ ?_
    · exact Imp.some (StepR.ret ⟨i_20, by first | rfl | simp only [evs, tys, evl, elim_inl, elim_inr]⟩)
    · refine Imp.op (f := fun a => .ref (encParam a)) (fun a h => op_ix (enc := encParam) (by first | rfl | simp only [evs, tys, evl]) ⟨by first | rfl | simp only [evs, tys, evc], by decide⟩ h) (fun a => chk_GParam a) fun y26 hy26 => ?_
      try simp only [evs, tys]
      refine Imp.op (f := fun a => .ref (encParam a)) (fun a h => op_ix (enc := encParam) (by first | rfl | simp only [evs, tys, evl]) ⟨by first | rfl | simp only [evs, tys, evc], by decide⟩ h) (fun a => chk_GParam a) fun y28 hy28 => ?_
      try simp only [evs, tys]
      refine Imp.cnd ?_ ?_
      · exact Imp.some (StepR.ret ⟨i_20, by first | rfl | simp only [evs, tys, evl, elim_inl, elim_inr]⟩)
      · refine Imp.op (f := fun a => .ref (encParam a)) (fun a h => op_ix (enc := encParam) (by first | rfl | simp only [evs, tys, evl]) ⟨by first | rfl | simp only [evs, tys, evc], by decide⟩ h) (fun a => chk_GParam a) fun y30 hy30 => ?_
        try simp only [evs, tys]
        refine Imp.op (f := fun a => .ref (encParam a)) (fun a h => op_ix (enc := encParam) (by first | rfl | simp only [evs, tys, evl]) ⟨by first | rfl | simp only [evs, tys, evc], by decide⟩ h) (fun a => chk_GParam a) fun y32 hy32 => ?_
        try simp only [evs, tys]
        refine Imp.cnd ?_ ?_
        · exact Imp.some (StepR.ret ⟨i_20, by first | rfl | simp only [evs, tys, evl, elim_inl, elim_inr]⟩)
        · refine Imp.op (f := fun a => .ref (encParam a)) (fun a h => op_ix (enc := encParam) (by first | rfl | simp only [evs, tys, evl]) ⟨by first | rfl | simp only [evs, tys, evc], by decide⟩ h) (fun a => chk_GParam a) fun y34 hy34 => ?_
          try simp only [evs, tys]
          refine Imp.op (f := fun a => .ref (encParam a)) (fun a h => op_ix (enc := encParam) (by first | rfl | simp only [evs, tys, evl]) ⟨by first | rfl | simp only [evs, tys, evc], by decide⟩ h) (fun a => chk_GParam a) fun y36 hy36 => ?_
          try simp only [evs, tys]
          refine Imp.call (f := seineref1_SameE) rfl (fun a h => by first | exact seineref1_Same_spec h | simpa only [evs, tys, evl] using seineref1_Same_spec h) (fun a => by first | rfl | simp only [seineref1_SameE, evk, chks]) fun y38 hy38 => ?_
          try simp only [seineref1_SameE, evs, tys]
          refine Imp.cnd ?_ ?_
          · exact Imp.some (StepR.ret ⟨i_20, by first | rfl | simp only [evs, tys, evl, elim_inl, elim_inr]⟩)
          · exact Imp.some (StepR.next ⟨by first | rfl | simp only [evs, tys, evl], rfl⟩)
  · exact Imp.some (StepR.brk ⟨i_20, by first | rfl | simp only [evs, tys, evl, elim_inl, elim_inr]⟩)
theorem seineref6_SameParams_imp (a : List GParam) (b : List GParam) : Imp (seineref6_SameParams_B a b) (seineref6_SameParams_T1 O loopLim a b) (fun r v => v = (seineref6_SameParamsE r, [])) := by
  simp only [seineref6_SameParams_B, seineref6_SameParams_T1]
  try simp only [evs, tys]
  refine Imp.cnd ?_ ?_
  · exact Imp.some (by first | rfl | simp only [seineref6_SameParamsE, evs, tys, evl])
  · refine Imp.bnd (Imp.loop (seineref6_SameParams_l1_ok a b) ⟨by first | rfl | simp only [evs, tys, evl], rfl⟩) ?_
    rintro (p | p) vy41 hy41
    · try simp only [elim_inl, elim_inr]
      obtain ⟨i_39, rfl⟩ := hy41
      refine Imp.exHit rfl (Imp.chk rfl (Imp.chk rfl ?_))
      try simp only [evs, tys]
      exact Imp.some (by first | rfl | simp only [seineref6_SameParamsE, evs, tys, evl])
    · try simp only [elim_inl, elim_inr]
      obtain ⟨i_40, rfl⟩ := hy41
      refine Imp.exMiss rfl ?_
      refine Imp.exHit rfl (Imp.chk rfl (Imp.chk rfl ?_))
      try simp only [evs, tys]
      exact Imp.some (by first | rfl | simp only [seineref6_SameParamsE, evs, tys, evl])
theorem seineref6_SameParams_run {a : List GParam} {b : List GParam} {r : Bool} (h : seineref6_SameParams_B a b = some r) : seineref6_SameParams a b = some r := by
  obtain ⟨v, hv, rfl⟩ := seineref6_SameParams_imp a b r h
  exact tO_of (pair_inj seineref6_SameParamsEj) (OL_runD seineref6_SameParams_ds rfl Try.func34 ((seineref6_SameParams_t1 _ _ a b).trans hv))

def seineref6_SameDirs_l1 (O : Orc) (LP : LBody → LBody) : LBody := fun s1 s1u => cnd (chkL [(.sl false), (.sl false), .bool, (.int .i64)] s1) (cnd (chkU [] s1u)
  (cnd (decide ((intV (gt s1 3)) < (List.length (esV (gt s1 0)) : Int)))
   (bnd (ix 2 (.slice (esV (gt s1 0)) [] false) (.int .i64 (intV (gt s1 3)))) fun x13 => cnd (chk (.ref shDir) x13)
   (bnd (ix 2 (.slice (esV (gt s1 1)) [] false) (.int .i64 (intV (gt s1 3)))) fun x15 => cnd (chk (.ref shDir) x15)
   (cnd (!((strV (gt (aggV (refV x13)) 0)) == (strV (gt (aggV (refV x15)) 0))))
    (some (.ret, [(.slice (esV (gt s1 0)) [] false), (.slice (esV (gt s1 1)) [] false), (.bool false), (.int .i64 (intV (gt s1 3)))], []))
    (bnd (ix 2 (.slice (esV (gt s1 0)) [] false) (.int .i64 (intV (gt s1 3)))) fun x17 => cnd (chk (.ref shDir) x17)
    (bnd (ix 2 (.slice (esV (gt s1 1)) [] false) (.int .i64 (intV (gt s1 3)))) fun x19 => cnd (chk (.ref shDir) x19)
    (callp O 49 [(.slice (esV (gt (aggV (refV x17)) 1)) [] false), (.slice (esV (gt (aggV (refV x19)) 1)) [] false)] fun x21 => cnd (chk .bool x21)
    (cnd (!(boolV x21))
     (some (.ret, [(.slice (esV (gt s1 0)) [] false), (.slice (esV (gt s1 1)) [] false), (.bool false), (.int .i64 (intV (gt s1 3)))], []))
     (some (.nrm, [(.slice (esV (gt s1 0)) [] false), (.slice (esV (gt s1 1)) [] false), (.bool (boolV (gt s1 2))), (.int .i64 (IntKind.wrap .i64 ((intV (gt s1 3)) + 1)))], []))) none) none) none)) none) none)
   (some (.brk 0, [(.slice (esV (gt s1 0)) [] false), (.slice (esV (gt s1 1)) [] false), (.bool (boolV (gt s1 2))), (.int .i64 (intV (gt s1 3)))], []))) none) none
def seineref6_SameDirs_T1 (O : Orc) (LP : LBody → LBody) (a : List GDir) (b : List GDir) : Option (PV × UP) :=
  cnd ((List.length (List.map encDir a) : Int) != (List.length (List.map encDir b) : Int))
   (some ((.bool false), []))
   (bnd (LP (seineref6_SameDirs_l1 O LP) [(.slice (List.map encDir a) [] false), (.slice (List.map encDir b) [] false), (.bool false), (.int .i64 0)] []) fun y25 =>
   exIs y25.1 (some 0) (cnd (chkL [(.sl false), (.sl false), .bool, (.int .i64)] y25.2.1) (cnd (chkU [] y25.2.2)
    (some ((.bool true), [])) none) none)
   (exIs y25.1 none (cnd (chkL [(.sl false), (.sl false), .bool, (.int .i64)] y25.2.1) (cnd (chkU [] y25.2.2)
    (some ((.bool (boolV (gt y25.2.1 2))), [])) none) none)
   (none)))
noncomputable def seineref6_SameDirs_l1T (a : List GDir) (b : List GDir) : Int → Option (Int ⊕ (Unit ⊕ Unit))
  | i_12 =>
  cnd (decide (i_12 < (List.length a : Int)))
   (bnd (nthI a i_12) fun y14 =>
   bnd (nthI b i_12) fun y16 =>
   cnd (!(y14.name == y16.name))
    (some (.inr (.inr ())))
    (bnd (nthI a i_12) fun y18 =>
    bnd (nthI b i_12) fun y20 =>
    bnd (seineref1_Members y18.args y20.args) fun y22 =>
    cnd (!y22)
     (some (.inr (.inr ())))
     (some (.inl (IntKind.wrap .i64 (i_12 + 1))))))
   (some (.inr (.inl ())))
abbrev seineref6_SameDirs_l1R (a : List GDir) (b : List GDir) (st : Int) (l : List PV) (u : UP) : Prop := l = [(.slice (List.map encDir a) [] false), (.slice (List.map encDir b) [] false), (.bool false), (.int .i64 st)] ∧ u = []
abbrev seineref6_SameDirs_l1X (a : List GDir) (b : List GDir) (p : Unit ⊕ Unit) (r : Ex × List PV × UP) : Prop := elim p (fun (p : Unit) => ∃ (i_23 : Int), r = (Ex.brk 0, [(.slice (List.map encDir a) [] false), (.slice (List.map encDir b) [] false), (.bool false), (.int .i64 i_23)], [])) (fun q2 => (fun (p : Unit) => ∃ (i_24 : Int), r = (Ex.ret, [(.slice (List.map encDir a) [] false), (.slice (List.map encDir b) [] false), (.bool false), (.int .i64 i_24)], [])) q2)
noncomputable def seineref6_SameDirs_B (a : List GDir) (b : List GDir) : Option Bool :=
  cnd ((List.length a : Int) != (List.length b : Int))
   (some false)
   (bnd (tloop (seineref6_SameDirs_l1T a b) 0) fun e25_2 => elim e25_2
   (fun p25 =>
    some true)
   (fun p25 =>
   some false))
def seineref6_SameDirs_ds : Decs := { decs := [(19, (.ref shDir)), (24, (.ref shDir)), (31, (.ref shDir)), (36, (.ref shDir)), (39, .bool)], ups := [], loops := [(4, ⟨[(.sl false), (.sl false), .bool, (.int .i64)], [], [(some 0, [(.sl false), (.sl false), .bool, (.int .i64)], []), (none, [(.sl false), (.sl false), .bool, (.int .i64)], [])]⟩)] }
set_option maxRecDepth 100000 in
theorem seineref6_SameDirs_t1 (O : Orc) (LP : LBody → LBody) (a : List GDir) (b : List GDir) : evalBodyD Try.prog (MT 35) seineref6_SameDirs_ds Try.f35.ntmps O LP Try.f35 [(.slice (List.map encDir a) [] false), (.slice (List.map encDir b) [] false)] [] = seineref6_SameDirs_T1 O LP a b := by kernel_rfl
theorem seineref6_SameDirs_l1_ok (a : List GDir) (b : List GDir) : ∀ st l u, seineref6_SameDirs_l1R a b st l u → Imp (seineref6_SameDirs_l1T a b st) (seineref6_SameDirs_l1 O loopLim l u) (StepR (seineref6_SameDirs_l1R a b) (seineref6_SameDirs_l1X a b)) := by
  rintro i_12 l u ⟨rfl, rfl⟩
  simp only [seineref6_SameDirs_l1T, seineref6_SameDirs_l1]
  refine Imp.chk rfl (Imp.chk rfl ?_)
  try simp only [evs, tys]
  refine Imp.cnd ?_ ?_
  · refine Imp.op (f := fun a => .ref (encDir a)) (fun a h => op_ix (enc := encDir) (by first | rfl | simp only [evs, tys, evl]) ⟨by first | rfl | simp only [evs, tys, evc], by decide⟩ h) (fun a => chk_GDir a) fun y14 hy14 => ?_
    try simp only [evs, tys]
    refine Imp.op (f := fun a => .ref (encDir a)) (fun a h => op_ix (enc := encDir) (by first | rfl | simp only [evs, tys, evl]) ⟨by first | rfl | simp only [evs, tys, evc], by decide⟩ h) (fun a => chk_GDir a) fun y16 hy16 => ?_
    try simp only [evs, tys]
    refine Imp.cnd ?_ ?_
    · exact Imp.some (StepR.ret ⟨i_12, by first | rfl | simp only [evs, tys, evl, elim_inl, elim_inr]⟩)
    · refine Imp.op (f := fun a => .ref (encDir a)) (fun a h => op_ix (enc := encDir) (by first | rfl | simp only [evs, tys, evl]) ⟨by first | rfl | simp only [evs, tys, evc], by decide⟩ h) (fun a => chk_GDir a) fun y18 hy18 => ?_
      try simp only [evs, tys]
      refine Imp.op (f := fun a => .ref (encDir a)) (fun a h => op_ix (enc := encDir) (by first | rfl | simp only [evs, tys, evl]) ⟨by first | rfl | simp only [evs, tys, evc], by decide⟩ h) (fun a => chk_GDir a) fun y20 hy20 => ?_
      try simp only [evs, tys]
      refine Imp.call (f := seineref1_MembersE) rfl (fun a h => by first | exact seineref1_Members_spec h | simpa only [evs, tys, evl] using seineref1_Members_spec h) (fun a => by first | rfl | simp only [seineref1_MembersE, evk, chks]) fun y22 hy22 => ?_
      try simp only [seineref1_MembersE, evs, tys]
      refine Imp.cnd ?_ ?_
      · exact Imp.some (StepR.ret ⟨i_12, by first | rfl | simp only [evs, tys, evl, elim_inl, elim_inr]⟩)
      · exact Imp.some (StepR.next ⟨by first | rfl | simp only [evs, tys, evl], rfl⟩)
  · exact Imp.some (StepR.brk ⟨i_12, by first | rfl | simp only [evs, tys, evl, elim_inl, elim_inr]⟩)
theorem seineref6_SameDirs_imp (a : List GDir) (b : List GDir) : Imp (seineref6_SameDirs_B a b) (seineref6_SameDirs_T1 O loopLim a b) (fun r v => v = (seineref6_SameDirsE r, [])) := by
  simp only [seineref6_SameDirs_B, seineref6_SameDirs_T1]
  try simp only [evs, tys]
  refine Imp.cnd ?_ ?_
  · exact Imp.some (by first | rfl | simp only [seineref6_SameDirsE, evs, tys, evl])
  · refine Imp.bnd (Imp.loop (seineref6_SameDirs_l1_ok a b) ⟨by first | rfl | simp only [evs, tys, evl], rfl⟩) ?_
    rintro (p | p) vy25 hy25
    · try simp only [elim_inl, elim_inr]
      obtain ⟨i_23, rfl⟩ := hy25
      refine Imp.exHit rfl (Imp.chk rfl (Imp.chk rfl ?_))
      try simp only [evs, tys]
      exact Imp.some (by first | rfl | simp only [seineref6_SameDirsE, evs, tys, evl])
    · try simp only [elim_inl, elim_inr]
      obtain ⟨i_24, rfl⟩ := hy25
      refine Imp.exMiss rfl ?_
      refine Imp.exHit rfl (Imp.chk rfl (Imp.chk rfl ?_))
      try simp only [evs, tys]
      exact Imp.some (by first | rfl | simp only [seineref6_SameDirsE, evs, tys, evl])
theorem seineref6_SameDirs_run {a : List GDir} {b : List GDir} {r : Bool} (h : seineref6_SameDirs_B a b = some r) : seineref6_SameDirs a b = some r := by
  obtain ⟨v, hv, rfl⟩ := seineref6_SameDirs_imp a b r h
  exact tO_of (pair_inj seineref6_SameDirsEj) (OL_runD seineref6_SameDirs_ds rfl Try.func35 ((seineref6_SameDirs_t1 _ _ a b).trans hv))

def defs_Kind_T1 (O : Orc) (LP : LBody → LBody) (s : GSchema) (name : Str) (kinds : List Int) : Option (PV × UP) :=
  callp O 17 [(.agg [(.slice (List.map encDef s.defs) [] false), (.str s.query), (.str s.mutation)]), (.str name)] fun x1 => cnd (chk (.tup [shDef, .bool]) x1)
  (cnd (boolV (gt (tupV x1) 1))
   (callp O 50 [(.slice (List.map (PV.int .i64) kinds) [] false), (.int .i64 (intV (gt (aggV (gt (tupV x1) 0)) 0)))] fun x3 => cnd (chk .bool x3)
   (some ((.bool (boolV x3)), [])) none)
   (some ((.bool false), []))) none
noncomputable def defs_Kind_B (s : GSchema) (name : Str) (kinds : List Int) : Option Bool :=
  bnd (defs_Find s name) fun y2 =>
  cnd y2.2
   (bnd (slices_Contains_int_int kinds y2.1.kind) fun y4 =>
   some y4)
   (some false)
def defs_Kind_ds : Decs := { decs := [(12, (.tup [shDef, .bool])), (20, .bool)], ups := [], loops := [] }
set_option maxRecDepth 100000 in
theorem defs_Kind_t1 (O : Orc) (LP : LBody → LBody) (s : GSchema) (name : Str) (kinds : List Int) : evalBodyD Try.prog (MT 36) defs_Kind_ds Try.f36.ntmps O LP Try.f36 [(.agg [(.slice (List.map encDef s.defs) [] false), (.str s.query), (.str s.mutation)]), (.str name), (.slice (List.map (PV.int .i64) kinds) [] false)] [] = defs_Kind_T1 O LP s name kinds := by kernel_rfl
theorem defs_Kind_imp (s : GSchema) (name : Str) (kinds : List Int) : Imp (defs_Kind_B s name kinds) (defs_Kind_T1 O loopLim s name kinds) (fun r v => v = (defs_KindE r, [])) := by
  simp only [defs_Kind_B, defs_Kind_T1]
  try simp only [evs, tys]
  refine Imp.call (f := defs_FindE) rfl (fun a h => by first | exact defs_Find_spec h | simpa only [evs, tys, evl] using defs_Find_spec h) (fun a => by first | rfl | simp only [defs_FindE, evk, chks]) fun y2 hy2 => ?_
  try simp only [defs_FindE, evs, tys]
  refine Imp.cnd ?_ ?_
  · refine Imp.call (f := slices_Contains_int_intE) rfl (fun a h => by first | exact slices_Contains_int_int_spec h | simpa only [evs, tys, evl] using slices_Contains_int_int_spec h) (fun a => by first | rfl | simp only [slices_Contains_int_intE, evk, chks]) fun y4 hy4 => ?_
    try simp only [slices_Contains_int_intE, evs, tys]
    exact Imp.some (by first | rfl | simp only [defs_KindE, evs, tys, evl])
  · exact Imp.some (by first | rfl | simp only [defs_KindE, evs, tys, evl])
theorem defs_Kind_run {s : GSchema} {name : Str} {kinds : List Int} {r : Bool} (h : defs_Kind_B s name kinds = some r) : defs_Kind s name kinds = some r := by
  obtain ⟨v, hv, rfl⟩ := defs_Kind_imp s name kinds r h
  exact tO_of (pair_inj defs_KindEj) (OL_runD defs_Kind_ds rfl Try.func36 ((defs_Kind_t1 _ _ s name kinds).trans hv))

def seineref1_Has_l1 (O : Orc) (LP : LBody → LBody) : LBody := fun s1 s1u => cnd (chkL [(.sl false), .str, .bool, (.int .i64)] s1) (cnd (chkU [] s1u)
  (cnd (decide ((intV (gt s1 3)) < (List.length (esV (gt s1 0)) : Int)))
   (bnd (ix 1 (.slice (esV (gt s1 0)) [] false) (.int .i64 (intV (gt s1 3)))) fun x5 => cnd (chk (.ref .str) x5)
   (cnd ((strV (refV x5)) == (strV (gt s1 1)))
    (some (.ret, [(.slice (esV (gt s1 0)) [] false), (.str (strV (gt s1 1))), (.bool true), (.int .i64 (intV (gt s1 3)))], []))
    (some (.nrm, [(.slice (esV (gt s1 0)) [] false), (.str (strV (gt s1 1))), (.bool (boolV (gt s1 2))), (.int .i64 (IntKind.wrap .i64 ((intV (gt s1 3)) + 1)))], []))) none)
   (some (.brk 0, [(.slice (esV (gt s1 0)) [] false), (.str (strV (gt s1 1))), (.bool (boolV (gt s1 2))), (.int .i64 (intV (gt s1 3)))], []))) none) none
def seineref1_Has_T1 (O : Orc) (LP : LBody → LBody) (l0 : List Str) (s : Str) : Option (PV × UP) :=
  bnd (LP (seineref1_Has_l1 O LP) [(.slice (List.map PV.str l0) [] false), (.str s), (.bool false), (.int .i64 0)] []) fun y9 =>
  exIs y9.1 (some 0) (cnd (chkL [(.sl false), .str, .bool, (.int .i64)] y9.2.1) (cnd (chkU [] y9.2.2)
   (some ((.bool false), [])) none) none)
  (exIs y9.1 none (cnd (chkL [(.sl false), .str, .bool, (.int .i64)] y9.2.1) (cnd (chkU [] y9.2.2)
   (some ((.bool (boolV (gt y9.2.1 2))), [])) none) none)
  (none))
noncomputable def seineref1_Has_l1T (l0 : List Str) (s : Str) : Int → Option (Int ⊕ (Unit ⊕ Unit))
  | i_4 =>
  cnd (decide (i_4 < (List.length l0 : Int)))
   (bnd (nthI l0 i_4) fun y6 =>
   cnd (y6 == s)
    (some (.inr (.inr ())))
    (some (.inl (IntKind.wrap .i64 (i_4 + 1)))))
   (some (.inr (.inl ())))
abbrev seineref1_Has_l1R (l0 : List Str) (s : Str) (st : Int) (l : List PV) (u : UP) : Prop := l = [(.slice (List.map PV.str l0) [] false), (.str s), (.bool false), (.int .i64 st)] ∧ u = []
abbrev seineref1_Has_l1X (l0 : List Str) (s : Str) (p : Unit ⊕ Unit) (r : Ex × List PV × UP) : Prop := elim p (fun (p : Unit) => ∃ (i_7 : Int), r = (Ex.brk 0, [(.slice (List.map PV.str l0) [] false), (.str s), (.bool false), (.int .i64 i_7)], [])) (fun q2 => (fun (p : Unit) => ∃ (i_8 : Int), r = (Ex.ret, [(.slice (List.map PV.str l0) [] false), (.str s), (.bool true), (.int .i64 i_8)], [])) q2)
noncomputable def seineref1_Has_B (l0 : List Str) (s : Str) : Option Bool :=
  bnd (tloop (seineref1_Has_l1T l0 s) 0) fun e9_2 => elim e9_2
  (fun p9 =>
   some false)
  (fun p9 =>
  some true)
def seineref1_Has_ds : Decs := { decs := [(14, (.ref .str))], ups := [], loops := [(2, ⟨[(.sl false), .str, .bool, (.int .i64)], [], [(some 0, [(.sl false), .str, .bool, (.int .i64)], []), (none, [(.sl false), .str, .bool, (.int .i64)], [])]⟩)] }
set_option maxRecDepth 100000 in
theorem seineref1_Has_t1 (O : Orc) (LP : LBody → LBody) (l0 : List Str) (s : Str) : evalBodyD Try.prog (MT 37) seineref1_Has_ds Try.f37.ntmps O LP Try.f37 [(.slice (List.map PV.str l0) [] false), (.str s)] [] = seineref1_Has_T1 O LP l0 s := by kernel_rfl
theorem seineref1_Has_l1_ok (l0 : List Str) (s : Str) : ∀ st l u, seineref1_Has_l1R l0 s st l u → Imp (seineref1_Has_l1T l0 s st) (seineref1_Has_l1 O loopLim l u) (StepR (seineref1_Has_l1R l0 s) (seineref1_Has_l1X l0 s)) := by
  rintro i_4 l u ⟨rfl, rfl⟩
  simp only [seineref1_Has_l1T, seineref1_Has_l1]
  refine Imp.chk rfl (Imp.chk rfl ?_)
  try simp only [evs, tys]
  refine Imp.cnd ?_ ?_
  · refine Imp.op (f := fun a => .ref (PV.str a)) (fun a h => op_ix (enc := PV.str) (by first | rfl | simp only [evs, tys, evl]) ⟨by first | rfl | simp only [evs, tys, evc], by decide⟩ h) (fun a => rfl) fun y6 hy6 => ?_
    try simp only [evs, tys]
    refine Imp.cnd ?_ ?_
    · exact Imp.some (StepR.ret ⟨i_4, by first | rfl | simp only [evs, tys, evl, elim_inl, elim_inr]⟩)
    · exact Imp.some (StepR.next ⟨by first | rfl | simp only [evs, tys, evl], rfl⟩)
  · exact Imp.some (StepR.brk ⟨i_4, by first | rfl | simp only [evs, tys, evl, elim_inl, elim_inr]⟩)
theorem seineref1_Has_imp (l0 : List Str) (s : Str) : Imp (seineref1_Has_B l0 s) (seineref1_Has_T1 O loopLim l0 s) (fun r v => v = (seineref1_HasE r, [])) := by
  simp only [seineref1_Has_B, seineref1_Has_T1]
  try simp only [evs, tys]
  refine Imp.bnd (Imp.loop (seineref1_Has_l1_ok l0 s) ⟨by first | rfl | simp only [evs, tys, evl], rfl⟩) ?_
  rintro (p | p) vy9 hy9
  · try simp only [elim_inl, elim_inr]
    obtain ⟨i_7, rfl⟩ := hy9
    refine Imp.exHit rfl (Imp.chk rfl (Imp.chk rfl ?_))
    try simp only [evs, tys]
    exact Imp.some (by first | rfl | simp only [seineref1_HasE, evs, tys, evl])
  · try simp only [elim_inl, elim_inr]
    obtain ⟨i_8, rfl⟩ := hy9
    refine Imp.exMiss rfl ?_
    refine Imp.exHit rfl (Imp.chk rfl (Imp.chk rfl ?_))
    try simp only [evs, tys]
    exact Imp.some (by first | rfl | simp only [seineref1_HasE, evs, tys, evl])
theorem seineref1_Has_run {l0 : List Str} {s : Str} {r : Bool} (h : seineref1_Has_B l0 s = some r) : seineref1_Has l0 s = some r := by
  obtain ⟨v, hv, rfl⟩ := seineref1_Has_imp l0 s r h
  exact tO_of (pair_inj seineref1_HasEj) (OL_runD seineref1_Has_ds rfl Try.func37 ((seineref1_Has_t1 _ _ l0 s).trans hv))
end Go.Proofs.Ytigiafabnidggaa

/- Printed by symgen.py: typed functions of this seat, and why they tell what the program does. -/
set_option linter.unusedVariables false
set_option linter.unusedSimpArgs false
open Go Go.Ev Go.Ev.PV
namespace Go.Proofs.Ytigiafabnidggaa
def slices_Contains_string_string_T1 (O : Orc) (LP : LBody → LBody) (s : List Str) (v0 : Str) : Option (PV × UP) :=
  callp O 51 [(.slice (List.map PV.str s) [] false), (.str v0)] fun x1 => cnd (chk (.int .i64) x1)
  (some ((.bool (decide ((intV x1) ≥ 0))), [])) none
noncomputable def slices_Contains_string_string_B (s : List Str) (v0 : Str) : Option Bool :=
  bnd (slices_Index_string_string s v0) fun y2 =>
  some (decide (y2 ≥ 0))
def slices_Contains_string_string_ds : Decs := { decs := [(7, (.int .i64))], ups := [], loops := [] }
set_option maxRecDepth 100000 in
theorem slices_Contains_string_string_t1 (O : Orc) (LP : LBody → LBody) (s : List Str) (v0 : Str) : evalBodyD Try.prog (MT 38) slices_Contains_string_string_ds Try.f38.ntmps O LP Try.f38 [(.slice (List.map PV.str s) [] false), (.str v0)] [] = slices_Contains_string_string_T1 O LP s v0 := by kernel_rfl
theorem slices_Contains_string_string_imp (s : List Str) (v0 : Str) : Imp (slices_Contains_string_string_B s v0) (slices_Contains_string_string_T1 O loopLim s v0) (fun r v => v = (slices_Contains_string_stringE r, [])) := by
  simp only [slices_Contains_string_string_B, slices_Contains_string_string_T1]
  try simp only [evs, tys]
  refine Imp.call (f := slices_Index_string_stringE) rfl (fun a h => by first | exact slices_Index_string_string_spec h | simpa only [evs, tys, evl] using slices_Index_string_string_spec h) (fun a => by first | rfl | simp only [slices_Index_string_stringE, evk, chks]) fun y2 hy2 => ?_
  try simp only [slices_Index_string_stringE, evs, tys]
  exact Imp.some (by first | rfl | simp only [slices_Contains_string_stringE, evs, tys, evl])
theorem slices_Contains_string_string_run {s : List Str} {v0 : Str} {r : Bool} (h : slices_Contains_string_string_B s v0 = some r) : slices_Contains_string_string s v0 = some r := by
  obtain ⟨v, hv, rfl⟩ := slices_Contains_string_string_imp s v0 r h
  exact tO_of (pair_inj slices_Contains_string_stringEj) (OL_runD slices_Contains_string_string_ds rfl Try.func38 ((slices_Contains_string_string_t1 _ _ s v0).trans hv))

def defs_add_T1 (O : Orc) (LP : LBody → LBody) (l0 : List Str) (name : Str) : Option (PV × UP) :=
  callp O 38 [(.slice (List.map PV.str l0) [] false), (.str name)] fun x1 => cnd (chk .bool x1)
  (cnd (boolV x1)
   (some ((.slice (List.map PV.str l0) [] true), []))
   (bnd (apd 1 (.slice (List.map PV.str l0) [] true) (.slice [(.str name)] [] true)) fun x3 => cnd (chk (.sl true) x3)
   (some ((.slice (esV x3) [] true), [])) none)) none
noncomputable def defs_add_B (l0 : List Str) (name : Str) : Option (List Str) :=
  bnd (slices_Contains_string_string l0 name) fun y2 =>
  cnd y2
   (some l0)
   (bnd (tapp l0 [name]) fun y4 =>
   some y4)
def defs_add_ds : Decs := { decs := [(7, .bool), (12, (.sl true))], ups := [], loops := [] }
set_option maxRecDepth 100000 in
theorem defs_add_t1 (O : Orc) (LP : LBody → LBody) (l0 : List Str) (name : Str) : evalBodyD Try.prog (MT 39) defs_add_ds Try.f39.ntmps O LP Try.f39 [(.slice (List.map PV.str l0) [] true), (.str name)] [] = defs_add_T1 O LP l0 name := by kernel_rfl
theorem defs_add_imp (l0 : List Str) (name : Str) : Imp (defs_add_B l0 name) (defs_add_T1 O loopLim l0 name) (fun r v => v = (defs_addE r, [])) := by
  simp only [defs_add_B, defs_add_T1]
  try simp only [evs, tys]
  refine Imp.call (f := slices_Contains_string_stringE) rfl (fun a h => by first | exact slices_Contains_string_string_spec h | simpa only [evs, tys, evl] using slices_Contains_string_string_spec h) (fun a => by first | rfl | simp only [slices_Contains_string_stringE, evk, chks]) fun y2 hy2 => ?_
  try simp only [slices_Contains_string_stringE, evs, tys]
  refine Imp.cnd ?_ ?_
  · exact Imp.some (by first | rfl | simp only [defs_addE, evs, tys, evl])
  · refine Imp.op (f := fun a => .slice (List.map PV.str a) [] true) (fun a h => op_apd (enc := PV.str) (by first | rfl | simp only [evs, tys, evl]) (by first | rfl | simp only [evs, tys, evl]) (fun a => by first | rfl | simp only [evs, tys, evc]) h) (fun a => rfl) fun y4 hy4 => ?_
    try simp only [evs, tys]
    exact Imp.some (by first | rfl | simp only [defs_addE, evs, tys, evl])
theorem defs_add_run {l0 : List Str} {name : Str} {r : List Str} (h : defs_add_B l0 name = some r) : defs_add l0 name = some r := by
  obtain ⟨v, hv, rfl⟩ := defs_add_imp l0 name r h
  exact tO_of (pair_inj defs_addEj) (OL_runD defs_add_ds rfl Try.func39 ((defs_add_t1 _ _ l0 name).trans hv))

def defs_scalar_T1 (O : Orc) (LP : LBody → LBody) (name : Str) : Option (PV × UP) :=
  cnd (name == ([73, 110, 116] : Str))
   (some ((.bool true), []))
   (cnd (name == ([83, 116, 114, 105, 110, 103] : Str))
    (some ((.bool true), []))
    (cnd (name == ([66, 111, 111, 108, 101, 97, 110] : Str))
     (some ((.bool true), []))
     (some ((.bool (name == ([73, 68] : Str))), []))))
noncomputable def defs_scalar_B (name : Str) : Option Bool :=
  cnd (name == ([73, 110, 116] : Str))
   (some true)
   (cnd (name == ([83, 116, 114, 105, 110, 103] : Str))
    (some true)
    (cnd (name == ([66, 111, 111, 108, 101, 97, 110] : Str))
     (some true)
     (some (name == ([73, 68] : Str)))))
def defs_scalar_ds : Decs := { decs := [], ups := [], loops := [] }
set_option maxRecDepth 100000 in
theorem defs_scalar_t1 (O : Orc) (LP : LBody → LBody) (name : Str) : evalBodyD Try.prog (MT 40) defs_scalar_ds Try.f40.ntmps O LP Try.f40 [(.str name)] [] = defs_scalar_T1 O LP name := by kernel_rfl
theorem defs_scalar_imp (name : Str) : Imp (defs_scalar_B name) (defs_scalar_T1 O loopLim name) (fun r v => v = (defs_scalarE r, [])) := by
  simp only [defs_scalar_B, defs_scalar_T1]
  try simp only [evs, tys]
  refine Imp.cnd ?_ ?_
  · exact Imp.some (by first | rfl | simp only [defs_scalarE, evs, tys, evl])
  · refine Imp.cnd ?_ ?_
    · exact Imp.some (by first | rfl | simp only [defs_scalarE, evs, tys, evl])
    · refine Imp.cnd ?_ ?_
      · exact Imp.some (by first | rfl | simp only [defs_scalarE, evs, tys, evl])
      · exact Imp.some (by first | rfl | simp only [defs_scalarE, evs, tys, evl])
theorem defs_scalar_run {name : Str} {r : Bool} (h : defs_scalar_B name = some r) : defs_scalar name = some r := by
  obtain ⟨v, hv, rfl⟩ := defs_scalar_imp name r h
  exact tO_of (pair_inj defs_scalarEj) (OL_runD defs_scalar_ds rfl Try.func40 ((defs_scalar_t1 _ _ name).trans hv))

def seinekeep_Params_T1 (O : Orc) (LP : LBody → LBody) (l0 : List GParam) : Option (PV × UP) :=
  bnd (apd 10 (.slice [] [] true) (.slice (List.map encParam l0) [] false)) fun x1 => cnd (chk (.sl true) x1)
  (some ((.slice (esV x1) [] false), [])) none
noncomputable def seinekeep_Params_B (l0 : List GParam) : Option (List GParam) :=
  bnd (tapp ([] : List GParam) l0) fun y2 =>
  some y2
def seinekeep_Params_ds : Decs := { decs := [(4, (.sl true))], ups := [], loops := [] }
set_option maxRecDepth 100000 in
theorem seinekeep_Params_t1 (O : Orc) (LP : LBody → LBody) (l0 : List GParam) : evalBodyD Try.prog (MT 41) seinekeep_Params_ds Try.f41.ntmps O LP Try.f41 [(.slice (List.map encParam l0) [] false)] [] = seinekeep_Params_T1 O LP l0 := by kernel_rfl
theorem seinekeep_Params_imp (l0 : List GParam) : Imp (seinekeep_Params_B l0) (seinekeep_Params_T1 O loopLim l0) (fun r v => v = (seinekeep_ParamsE r, [])) := by
  simp only [seinekeep_Params_B, seinekeep_Params_T1]
  try simp only [evs, tys]
  refine Imp.op (f := fun a => .slice (List.map encParam a) [] true) (fun a h => op_apd (enc := encParam) (by first | rfl | simp only [evs, tys, evl]) (by first | rfl | simp only [evs, tys, evl]) (fun a => by first | rfl | simp only [evs, tys, evc]) h) (fun a => rfl) fun y2 hy2 => ?_
  try simp only [evs, tys]
  exact Imp.some (by first | rfl | simp only [seinekeep_ParamsE, evs, tys, evl])
theorem seinekeep_Params_run {l0 : List GParam} {r : List GParam} (h : seinekeep_Params_B l0 = some r) : seinekeep_Params l0 = some r := by
  obtain ⟨v, hv, rfl⟩ := seinekeep_Params_imp l0 r h
  exact tO_of (pair_inj seinekeep_ParamsEj) (OL_runD seinekeep_Params_ds rfl Try.func41 ((seinekeep_Params_t1 _ _ l0).trans hv))

def seinekeep_Dirs_l1 (O : Orc) (LP : LBody → LBody) : LBody := fun s1 s1u => cnd (chkL [(.sl false), (.sl true), (.int .i64)] s1) (cnd (chkU [] s1u)
  (cnd (decide ((intV (gt s1 2)) < (List.length (esV (gt s1 0)) : Int)))
   (bnd (ix 2 (.slice (esV (gt s1 0)) [] false) (.int .i64 (intV (gt s1 2)))) fun x12 => cnd (chk (.ref shDir) x12)
   (bnd (ix 2 (.slice (esV (gt s1 0)) [] false) (.int .i64 (intV (gt s1 2)))) fun x14 => cnd (chk (.ref shDir) x14)
   (callp O 52 [(.slice (esV (gt (aggV (refV x14)) 1)) [] false)] fun x16 => cnd (chk (.sl false) x16)
   (bnd (apd 2 (.slice (esV (gt s1 1)) [] true) (.slice [(.agg [(.str (strV (gt (aggV (refV x12)) 0))), (.slice (esV x16) [] false)])] [] true)) fun x18 => cnd (chk (.sl true) x18)
   (some (.nrm, [(.slice (esV (gt s1 0)) [] false), (.slice (esV x18) [] true), (.int .i64 (IntKind.wrap .i64 ((intV (gt s1 2)) + 1)))], [])) none) none) none) none)
   (some (.brk 0, [(.slice (esV (gt s1 0)) [] false), (.slice (esV (gt s1 1)) [] true), (.int .i64 (intV (gt s1 2)))], []))) none) none
def seinekeep_Dirs_T1 (O : Orc) (LP : LBody → LBody) (l0 : List GDir) : Option (PV × UP) :=
  bnd (LP (seinekeep_Dirs_l1 O LP) [(.slice (List.map encDir l0) [] false), (.slice [] [] true), (.int .i64 0)] []) fun y22 =>
  exIs y22.1 (some 0) (cnd (chkL [(.sl false), (.sl true), (.int .i64)] y22.2.1) (cnd (chkU [] y22.2.2)
   (some ((.slice (esV (gt y22.2.1 1)) [] false), [])) none) none)
  (none)
noncomputable def seinekeep_Dirs_l1T (l0 : List GDir) : ((List GDir) × Int) → Option (((List GDir) × Int) ⊕ ((List GDir)))
  | (out_10, i_11) =>
  cnd (decide (i_11 < (List.length l0 : Int)))
   (bnd (nthI l0 i_11) fun y13 =>
   bnd (nthI l0 i_11) fun y15 =>
   bnd (seinekeep_Members y15.args) fun y17 =>
   bnd (tapp out_10 [(GDir.mk y13.name y17)]) fun y19 =>
   some (.inl (y19, (IntKind.wrap .i64 (i_11 + 1)))))
   (some (.inr out_10))
abbrev seinekeep_Dirs_l1R (l0 : List GDir) (st : (List GDir) × Int) (l : List PV) (u : UP) : Prop := l = [(.slice (List.map encDir l0) [] false), (.slice (List.map encDir st.1) [] true), (.int .i64 st.2)] ∧ u = []
abbrev seinekeep_Dirs_l1X (l0 : List GDir) (p : (List GDir)) (r : Ex × List PV × UP) : Prop := (fun (p : (List GDir)) => ∃ (i_21 : Int), r = (Ex.brk 0, [(.slice (List.map encDir l0) [] false), (.slice (List.map encDir p) [] true), (.int .i64 i_21)], [])) p
noncomputable def seinekeep_Dirs_B (l0 : List GDir) : Option (List GDir) :=
  bnd (tloop (seinekeep_Dirs_l1T l0) ([], 0)) fun out_20 =>
  some out_20
def seinekeep_Dirs_ds : Decs := { decs := [(14, (.ref shDir)), (19, (.ref shDir)), (22, (.sl false)), (25, (.sl true))], ups := [], loops := [(3, ⟨[(.sl false), (.sl true), (.int .i64)], [], [(some 0, [(.sl false), (.sl true), (.int .i64)], [])]⟩)] }
set_option maxRecDepth 100000 in
theorem seinekeep_Dirs_t1 (O : Orc) (LP : LBody → LBody) (l0 : List GDir) : evalBodyD Try.prog (MT 42) seinekeep_Dirs_ds Try.f42.ntmps O LP Try.f42 [(.slice (List.map encDir l0) [] false)] [] = seinekeep_Dirs_T1 O LP l0 := by kernel_rfl
theorem seinekeep_Dirs_l1_ok (l0 : List GDir) : ∀ st l u, seinekeep_Dirs_l1R l0 st l u → Imp (seinekeep_Dirs_l1T l0 st) (seinekeep_Dirs_l1 O loopLim l u) (StepR (seinekeep_Dirs_l1R l0) (seinekeep_Dirs_l1X l0)) := by
  rintro ⟨out_10, i_11⟩ l u ⟨rfl, rfl⟩
  simp only [seinekeep_Dirs_l1T, seinekeep_Dirs_l1]
  refine Imp.chk rfl (Imp.chk rfl ?_)
  try simp only [evs, tys]
  refine Imp.cnd ?_ ?_
  · refine Imp.op (f := fun a => .ref (encDir a)) (fun a h => op_ix (enc := encDir) (by first | rfl | simp only [evs, tys, evl]) ⟨by first | rfl | simp only [evs, tys, evc], by decide⟩ h) (fun a => chk_GDir a) fun y13 hy13 => ?_
    try simp only [evs, tys]
    refine Imp.op (f := fun a => .ref (encDir a)) (fun a h => op_ix (enc := encDir) (by first | rfl | simp only [evs, tys, evl]) ⟨by first | rfl | simp only [evs, tys, evc], by decide⟩ h) (fun a => chk_GDir a) fun y15 hy15 => ?_
    try simp only [evs, tys]
    refine Imp.call (f := seinekeep_MembersE) rfl (fun a h => by first | exact seinekeep_Members_spec h | simpa only [evs, tys, evl] using seinekeep_Members_spec h) (fun a => by first | rfl | simp only [seinekeep_MembersE, evk, chks]) fun y17 hy17 => ?_
    try simp only [seinekeep_MembersE, evs, tys]
    refine Imp.op (f := fun a => .slice (List.map encDir a) [] true) (fun a h => op_apd (enc := encDir) (by first | rfl | simp only [evs, tys, evl]) (by first | rfl | simp only [evs, tys, evl]) (fun a => by first | rfl | simp only [evs, tys, evc]) h) (fun a => rfl) fun y19 hy19 => ?_
    try simp only [evs, tys]
    exact Imp.some (StepR.next ⟨by first | rfl | simp only [evs, tys, evl], rfl⟩)
  · exact Imp.some (StepR.brk ⟨i_11, by first | rfl | simp only [evs, tys, evl, elim_inl, elim_inr]⟩)
theorem seinekeep_Dirs_imp (l0 : List GDir) : Imp (seinekeep_Dirs_B l0) (seinekeep_Dirs_T1 O loopLim l0) (fun r v => v = (seinekeep_DirsE r, [])) := by
  simp only [seinekeep_Dirs_B, seinekeep_Dirs_T1]
  try simp only [evs, tys]
  refine Imp.bnd (Imp.loop (seinekeep_Dirs_l1_ok l0) ⟨by first | rfl | simp only [evs, tys, evl], rfl⟩) ?_
  rintro out_20 vy22 hy22
  obtain ⟨i_21, rfl⟩ := hy22
  refine Imp.exHit rfl (Imp.chk rfl (Imp.chk rfl ?_))
  try simp only [evs, tys]
  exact Imp.some (by first | rfl | simp only [seinekeep_DirsE, evs, tys, evl])
theorem seinekeep_Dirs_run {l0 : List GDir} {r : List GDir} (h : seinekeep_Dirs_B l0 = some r) : seinekeep_Dirs l0 = some r := by
  obtain ⟨v, hv, rfl⟩ := seinekeep_Dirs_imp l0 r h
  exact tO_of (pair_inj seinekeep_DirsEj) (OL_runD seinekeep_Dirs_ds rfl Try.func42 ((seinekeep_Dirs_t1 _ _ l0).trans hv))

def seineref9_scalar_T1 (O : Orc) (LP : LBody → LBody) (name : Str) : Option (PV × UP) :=
  cnd (name == ([73, 110, 116] : Str))
   (some ((.bool true), []))
   (cnd (name == ([83, 116, 114, 105, 110, 103] : Str))
    (some ((.bool true), []))
    (cnd (name == ([66, 111, 111, 108, 101, 97, 110] : Str))
     (some ((.bool true), []))
     (some ((.bool (name == ([73, 68] : Str))), []))))
noncomputable def seineref9_scalar_B (name : Str) : Option Bool :=
  cnd (name == ([73, 110, 116] : Str))
   (some true)
   (cnd (name == ([83, 116, 114, 105, 110, 103] : Str))
    (some true)
    (cnd (name == ([66, 111, 111, 108, 101, 97, 110] : Str))
     (some true)
     (some (name == ([73, 68] : Str)))))
def seineref9_scalar_ds : Decs := { decs := [], ups := [], loops := [] }
set_option maxRecDepth 100000 in
theorem seineref9_scalar_t1 (O : Orc) (LP : LBody → LBody) (name : Str) : evalBodyD Try.prog (MT 43) seineref9_scalar_ds Try.f43.ntmps O LP Try.f43 [(.str name)] [] = seineref9_scalar_T1 O LP name := by kernel_rfl
theorem seineref9_scalar_imp (name : Str) : Imp (seineref9_scalar_B name) (seineref9_scalar_T1 O loopLim name) (fun r v => v = (seineref9_scalarE r, [])) := by
  simp only [seineref9_scalar_B, seineref9_scalar_T1]
  try simp only [evs, tys]
  refine Imp.cnd ?_ ?_
  · exact Imp.some (by first | rfl | simp only [seineref9_scalarE, evs, tys, evl])
  · refine Imp.cnd ?_ ?_
    · exact Imp.some (by first | rfl | simp only [seineref9_scalarE, evs, tys, evl])
    · refine Imp.cnd ?_ ?_
      · exact Imp.some (by first | rfl | simp only [seineref9_scalarE, evs, tys, evl])
      · exact Imp.some (by first | rfl | simp only [seineref9_scalarE, evs, tys, evl])
theorem seineref9_scalar_run {name : Str} {r : Bool} (h : seineref9_scalar_B name = some r) : seineref9_scalar name = some r := by
  obtain ⟨v, hv, rfl⟩ := seineref9_scalar_imp name r h
  exact tO_of (pair_inj seineref9_scalarEj) (OL_runD seineref9_scalar_ds rfl Try.func43 ((seineref9_scalar_t1 _ _ name).trans hv))

def seineref6_Texts_l1 (O : Orc) (LP : LBody → LBody) : LBody := fun s1 s1u => cnd (chkL [(.sl false), (.sl false), .bool, (.int .i64)] s1) (cnd (chkU [] s1u)
  (cnd (decide ((intV (gt s1 3)) < (List.length (esV (gt s1 0)) : Int)))
   (bnd (ix 1 (.slice (esV (gt s1 0)) [] false) (.int .i64 (intV (gt s1 3)))) fun x7 => cnd (chk (.ref .str) x7)
   (bnd (ix 1 (.slice (esV (gt s1 1)) [] false) (.int .i64 (intV (gt s1 3)))) fun x9 => cnd (chk (.ref .str) x9)
   (cnd (!((strV (refV x7)) == (strV (refV x9))))
    (some (.ret, [(.slice (esV (gt s1 0)) [] false), (.slice (esV (gt s1 1)) [] false), (.bool false), (.int .i64 (intV (gt s1 3)))], []))
    (some (.nrm, [(.slice (esV (gt s1 0)) [] false), (.slice (esV (gt s1 1)) [] false), (.bool (boolV (gt s1 2))), (.int .i64 (IntKind.wrap .i64 ((intV (gt s1 3)) + 1)))], []))) none) none)
   (some (.brk 0, [(.slice (esV (gt s1 0)) [] false), (.slice (esV (gt s1 1)) [] false), (.bool (boolV (gt s1 2))), (.int .i64 (intV (gt s1 3)))], []))) none) none
def seineref6_Texts_T1 (O : Orc) (LP : LBody → LBody) (a : List Str) (b : List Str) : Option (PV × UP) :=
  cnd ((List.length (List.map PV.str a) : Int) != (List.length (List.map PV.str b) : Int))
   (some ((.bool false), []))
   (bnd (LP (seineref6_Texts_l1 O LP) [(.slice (List.map PV.str a) [] false), (.slice (List.map PV.str b) [] false), (.bool false), (.int .i64 0)] []) fun y13 =>
   exIs y13.1 (some 0) (cnd (chkL [(.sl false), (.sl false), .bool, (.int .i64)] y13.2.1) (cnd (chkU [] y13.2.2)
    (some ((.bool true), [])) none) none)
   (exIs y13.1 none (cnd (chkL [(.sl false), (.sl false), .bool, (.int .i64)] y13.2.1) (cnd (chkU [] y13.2.2)
    (some ((.bool (boolV (gt y13.2.1 2))), [])) none) none)
   (none)))
noncomputable def seineref6_Texts_l1T (a : List Str) (b : List Str) : Int → Option (Int ⊕ (Unit ⊕ Unit))
  | i_6 =>
  cnd (decide (i_6 < (List.length a : Int)))
   (bnd (nthI a i_6) fun y8 =>
   bnd (nthI b i_6) fun y10 =>
   cnd (!(y8 == y10))
    (some (.inr (.inr ())))
    (some (.inl (IntKind.wrap .i64 (i_6 + 1)))))
   (some (.inr (.inl ())))
abbrev seineref6_Texts_l1R (a : List Str) (b : List Str) (st : Int) (l : List PV) (u : UP) : Prop := l = [(.slice (List.map PV.str a) [] false), (.slice (List.map PV.str b) [] false), (.bool false), (.int .i64 st)] ∧ u = []
abbrev seineref6_Texts_l1X (a : List Str) (b : List Str) (p : Unit ⊕ Unit) (r : Ex × List PV × UP) : Prop := elim p (fun (p : Unit) => ∃ (i_11 : Int), r = (Ex.brk 0, [(.slice (List.map PV.str a) [] false), (.slice (List.map PV.str b) [] false), (.bool false), (.int .i64 i_11)], [])) (fun q2 => (fun (p : Unit) => ∃ (i_12 : Int), r = (Ex.ret, [(.slice (List.map PV.str a) [] false), (.slice (List.map PV.str b) [] false), (.bool false), (.int .i64 i_12)], [])) q2)
noncomputable def seineref6_Texts_B (a : List Str) (b : List Str) : Option Bool :=
  cnd ((List.length a : Int) != (List.length b : Int))
   (some false)
   (bnd (tloop (seineref6_Texts_l1T a b) 0) fun e13_2 => elim e13_2
   (fun p13 =>
    some true)
   (fun p13 =>
   some false))
def seineref6_Texts_ds : Decs := { decs := [(19, (.ref .str)), (23, (.ref .str))], ups := [], loops := [(4, ⟨[(.sl false), (.sl false), .bool, (.int .i64)], [], [(some 0, [(.sl false), (.sl false), .bool, (.int .i64)], []), (none, [(.sl false), (.sl false), .bool, (.int .i64)], [])]⟩)] }
set_option maxRecDepth 100000 in
theorem seineref6_Texts_t1 (O : Orc) (LP : LBody → LBody) (a : List Str) (b : List Str) : evalBodyD Try.prog (MT 44) seineref6_Texts_ds Try.f44.ntmps O LP Try.f44 [(.slice (List.map PV.str a) [] false), (.slice (List.map PV.str b) [] false)] [] = seineref6_Texts_T1 O LP a b := by kernel_rfl
theorem seineref6_Texts_l1_ok (a : List Str) (b : List Str) : ∀ st l u, seineref6_Texts_l1R a b st l u → Imp (seineref6_Texts_l1T a b st) (seineref6_Texts_l1 O loopLim l u) (StepR (seineref6_Texts_l1R a b) (seineref6_Texts_l1X a b)) := by
  rintro i_6 l u ⟨rfl, rfl⟩
  simp only [seineref6_Texts_l1T, seineref6_Texts_l1]
  refine Imp.chk rfl (Imp.chk rfl ?_)
  try simp only [evs, tys]
  refine Imp.cnd ?_ ?_
  · refine Imp.op (f := fun a => .ref (PV.str a)) (fun a h => op_ix (enc := PV.str) (by first | rfl | simp only [evs, tys, evl]) ⟨by first | rfl | simp only [evs, tys, evc], by decide⟩ h) (fun a => rfl) fun y8 hy8 => ?_
    try simp only [evs, tys]
    refine Imp.op (f := fun a => .ref (PV.str a)) (fun a h => op_ix (enc := PV.str) (by first | rfl | simp only [evs, tys, evl]) ⟨by first | rfl | simp only [evs, tys, evc], by decide⟩ h) (fun a => rfl) fun y10 hy10 => ?_
    try simp only [evs, tys]
    refine Imp.cnd ?_ ?_
    · exact Imp.some (StepR.ret ⟨i_6, by first | rfl | simp only [evs, tys, evl, elim_inl, elim_inr]⟩)
    · exact Imp.some (StepR.next ⟨by first | rfl | simp only [evs, tys, evl], rfl⟩)
  · exact Imp.some (StepR.brk ⟨i_6, by first | rfl | simp only [evs, tys, evl, elim_inl, elim_inr]⟩)
theorem seineref6_Texts_imp (a : List Str) (b : List Str) : Imp (seineref6_Texts_B a b) (seineref6_Texts_T1 O loopLim a b) (fun r v => v = (seineref6_TextsE r, [])) := by
  simp only [seineref6_Texts_B, seineref6_Texts_T1]
  try simp only [evs, tys]
  refine Imp.cnd ?_ ?_
  · exact Imp.some (by first | rfl | simp only [seineref6_TextsE, evs, tys, evl])
  · refine Imp.bnd (Imp.loop (seineref6_Texts_l1_ok a b) ⟨by first | rfl | simp only [evs, tys, evl], rfl⟩) ?_
    rintro (p | p) vy13 hy13
    · try simp only [elim_inl, elim_inr]
      obtain ⟨i_11, rfl⟩ := hy13
      refine Imp.exHit rfl (Imp.chk rfl (Imp.chk rfl ?_))
      try simp only [evs, tys]
      exact Imp.some (by first | rfl | simp only [seineref6_TextsE, evs, tys, evl])
    · try simp only [elim_inl, elim_inr]
      obtain ⟨i_12, rfl⟩ := hy13
      refine Imp.exMiss rfl ?_
      refine Imp.exHit rfl (Imp.chk rfl (Imp.chk rfl ?_))
      try simp only [evs, tys]
      exact Imp.some (by first | rfl | simp only [seineref6_TextsE, evs, tys, evl])
theorem seineref6_Texts_run {a : List Str} {b : List Str} {r : Bool} (h : seineref6_Texts_B a b = some r) : seineref6_Texts a b = some r := by
  obtain ⟨v, hv, rfl⟩ := seineref6_Texts_imp a b r h
  exact tO_of (pair_inj seineref6_TextsEj) (OL_runD seineref6_Texts_ds rfl Try.func44 ((seineref6_Texts_t1 _ _ a b).trans hv))

def seineref9_is_T1 (O : Orc) (LP : LBody → LBody) (s : GSchema) (name : Str) (a : Int) (b : Int) (c : Int) : Option (PV × UP) :=
  callp O 19 [(.agg [(.slice (List.map encDef s.defs) [] false), (.str s.query), (.str s.mutation)]), (.str name)] fun x1 => cnd (chk (.tup [shDef, .bool]) x1)
  (cnd (boolV (gt (tupV x1) 1))
   (cnd ((intV (gt (aggV (gt (tupV x1) 0)) 0)) == a)
    (some ((.bool true), []))
    (cnd ((intV (gt (aggV (gt (tupV x1) 0)) 0)) == b)
     (some ((.bool true), []))
     (some ((.bool ((intV (gt (aggV (gt (tupV x1) 0)) 0)) == c)), []))))
   (some ((.bool false), []))) none
noncomputable def seineref9_is_B (s : GSchema) (name : Str) (a : Int) (b : Int) (c : Int) : Option Bool :=
  bnd (seineref9_Find s name) fun y2 =>
  cnd y2.2
   (cnd (y2.1.kind == a)
    (some true)
    (cnd (y2.1.kind == b)
     (some true)
     (some (y2.1.kind == c))))
   (some false)
def seineref9_is_ds : Decs := { decs := [(16, (.tup [shDef, .bool]))], ups := [], loops := [] }
set_option maxRecDepth 100000 in
theorem seineref9_is_t1 (O : Orc) (LP : LBody → LBody) (s : GSchema) (name : Str) (a : Int) (b : Int) (c : Int) : evalBodyD Try.prog (MT 45) seineref9_is_ds Try.f45.ntmps O LP Try.f45 [(.agg [(.slice (List.map encDef s.defs) [] false), (.str s.query), (.str s.mutation)]), (.str name), (.int .i64 a), (.int .i64 b), (.int .i64 c)] [] = seineref9_is_T1 O LP s name a b c := by kernel_rfl
theorem seineref9_is_imp (s : GSchema) (name : Str) (a : Int) (b : Int) (c : Int) : Imp (seineref9_is_B s name a b c) (seineref9_is_T1 O loopLim s name a b c) (fun r v => v = (seineref9_isE r, [])) := by
  simp only [seineref9_is_B, seineref9_is_T1]
  try simp only [evs, tys]
  refine Imp.call (f := seineref9_FindE) rfl (fun a h => by first | exact seineref9_Find_spec h | simpa only [evs, tys, evl] using seineref9_Find_spec h) (fun a => by first | rfl | simp only [seineref9_FindE, evk, chks]) fun y2 hy2 => ?_
  try simp only [seineref9_FindE, evs, tys]
  refine Imp.cnd ?_ ?_
  · refine Imp.cnd ?_ ?_
    · exact Imp.some (by first | rfl | simp only [seineref9_isE, evs, tys, evl])
    · refine Imp.cnd ?_ ?_
      · exact Imp.some (by first | rfl | simp only [seineref9_isE, evs, tys, evl])
      · exact Imp.some (by first | rfl | simp only [seineref9_isE, evs, tys, evl])
  · exact Imp.some (by first | rfl | simp only [seineref9_isE, evs, tys, evl])
theorem seineref9_is_run {s : GSchema} {name : Str} {a : Int} {b : Int} {c : Int} {r : Bool} (h : seineref9_is_B s name a b c = some r) : seineref9_is s name a b c = some r := by
  obtain ⟨v, hv, rfl⟩ := seineref9_is_imp s name a b c r h
  exact tO_of (pair_inj seineref9_isEj) (OL_runD seineref9_is_ds rfl Try.func45 ((seineref9_is_t1 _ _ s name a b c).trans hv))

def seineref9_Object_T1 (O : Orc) (LP : LBody → LBody) (s : GSchema) (name : Str) : Option (PV × UP) :=
  callp O 45 [(.agg [(.slice (List.map encDef s.defs) [] false), (.str s.query), (.str s.mutation)]), (.str name), (.int .i64 1), (.int .i64 1), (.int .i64 1)] fun x1 => cnd (chk .bool x1)
  (some ((.bool (boolV x1)), [])) none
noncomputable def seineref9_Object_B (s : GSchema) (name : Str) : Option Bool :=
  bnd (seineref9_is s name 1 1 1) fun y2 =>
  some y2
def seineref9_Object_ds : Decs := { decs := [(7, .bool)], ups := [], loops := [] }
set_option maxRecDepth 100000 in
theorem seineref9_Object_t1 (O : Orc) (LP : LBody → LBody) (s : GSchema) (name : Str) : evalBodyD Try.prog (MT 46) seineref9_Object_ds Try.f46.ntmps O LP Try.f46 [(.agg [(.slice (List.map encDef s.defs) [] false), (.str s.query), (.str s.mutation)]), (.str name)] [] = seineref9_Object_T1 O LP s name := by kernel_rfl
theorem seineref9_Object_imp (s : GSchema) (name : Str) : Imp (seineref9_Object_B s name) (seineref9_Object_T1 O loopLim s name) (fun r v => v = (seineref9_ObjectE r, [])) := by
  simp only [seineref9_Object_B, seineref9_Object_T1]
  try simp only [evs, tys]
  refine Imp.call (f := seineref9_isE) rfl (fun a h => by first | exact seineref9_is_spec h | simpa only [evs, tys, evl] using seineref9_is_spec h) (fun a => by first | rfl | simp only [seineref9_isE, evk, chks]) fun y2 hy2 => ?_
  try simp only [seineref9_isE, evs, tys]
  exact Imp.some (by first | rfl | simp only [seineref9_ObjectE, evs, tys, evl])
theorem seineref9_Object_run {s : GSchema} {name : Str} {r : Bool} (h : seineref9_Object_B s name = some r) : seineref9_Object s name = some r := by
  obtain ⟨v, hv, rfl⟩ := seineref9_Object_imp s name r h
  exact tO_of (pair_inj seineref9_ObjectEj) (OL_runD seineref9_Object_ds rfl Try.func46 ((seineref9_Object_t1 _ _ s name).trans hv))

def seinekeep_Size_l1 (O : Orc) (LP : LBody → LBody) : LBody := fun s1 s1u => cnd (chkL [(.ptr 0 1 0), (.int .i64), (.int .i64), (.int .i64), (.int .i64), .str, (.sl false), (.sl false)] s1) (cnd (chkU [] s1u)
  (cnd (decide ((intV (gt s1 2)) < (List.length (esV (gt s1 6)) : Int)))
   (bnd (ix 5 (.slice (esV (gt s1 6)) [] false) (.int .i64 (intV (gt s1 2)))) fun x8 => cnd (chk (.ref shValue) x8)
   (callp O 47 [(.agg [(.int .i64 (intV (gt (aggV (refV x8)) 0))), (.int .i64 (intV (gt (aggV (refV x8)) 1))), (.str (strV (gt (aggV (refV x8)) 2))), (.slice (esV (gt (aggV (refV x8)) 3)) [] false), (.slice (esV (gt (aggV (refV x8)) 4)) [] false)])] fun x10 => cnd (chk (.int .i64) x10)
   (some (.nrm, [(.ptr 0 1 0), (.int .i64 (IntKind.wrap .i64 ((intV (gt s1 1)) + (intV x10)))), (.int .i64 (IntKind.wrap .i64 ((intV (gt s1 2)) + 1))), (.int .i64 (intV (gt s1 3))), (.int .i64 (intV (gt s1 4))), (.str (strV (gt s1 5))), (.slice (esV (gt s1 6)) [] false), (.slice (esV (gt s1 7)) [] false)], [])) none) none)
   (some (.brk 0, [(.ptr 0 1 0), (.int .i64 (intV (gt s1 1))), (.int .i64 (intV (gt s1 2))), (.int .i64 (intV (gt s1 3))), (.int .i64 (intV (gt s1 4))), (.str (strV (gt s1 5))), (.slice (esV (gt s1 6)) [] false), (.slice (esV (gt s1 7)) [] false)], []))) none) none
def seinekeep_Size_l2 (O : Orc) (LP : LBody → LBody) : LBody := fun s15 s15u => cnd (chkL [(.ptr 0 1 0), (.int .i64), (.int .i64), (.int .i64), (.int .i64), .str, (.sl false), (.sl false)] s15) (cnd (chkU [] s15u)
  (cnd (decide ((intV (gt s15 2)) < (List.length (esV (gt s15 7)) : Int)))
   (bnd (ix 6 (.slice (esV (gt s15 7)) [] false) (.int .i64 (intV (gt s15 2)))) fun x24 => cnd (chk (.ref shMember) x24)
   (bnd (ix 6 (.slice (esV (gt s15 7)) [] false) (.int .i64 (intV (gt s15 2)))) fun x26 => cnd (chk (.ref shMember) x26)
   (callp O 47 [(.agg [(.int .i64 (intV (gt (aggV (refV x26)) 1))), (.int .i64 (intV (gt (aggV (refV x26)) 2))), (.str (strV (gt (aggV (refV x26)) 3))), (.slice (esV (gt (aggV (refV x26)) 4)) [] false), (.slice (esV (gt (aggV (refV x26)) 5)) [] false)])] fun x28 => cnd (chk (.int .i64) x28)
   (some (.nrm, [(.ptr 0 1 0), (.int .i64 (IntKind.wrap .i64 ((IntKind.wrap .i64 ((intV (gt s15 1)) + (List.length (strV (gt (aggV (refV x24)) 0)) : Int))) + (intV x28)))), (.int .i64 (IntKind.wrap .i64 ((intV (gt s15 2)) + 1))), (.int .i64 (intV (gt s15 3))), (.int .i64 (intV (gt s15 4))), (.str (strV (gt s15 5))), (.slice (esV (gt s15 6)) [] false), (.slice (esV (gt s15 7)) [] false)], [])) none) none) none)
   (some (.brk 2, [(.ptr 0 1 0), (.int .i64 (intV (gt s15 1))), (.int .i64 (intV (gt s15 2))), (.int .i64 (intV (gt s15 3))), (.int .i64 (intV (gt s15 4))), (.str (strV (gt s15 5))), (.slice (esV (gt s15 6)) [] false), (.slice (esV (gt s15 7)) [] false)], []))) none) none
def seinekeep_Size_T1 (O : Orc) (LP : LBody → LBody) (v0 : GValue) : Option (PV × UP) :=
  bnd (LP (seinekeep_Size_l1 O LP) [(.ptr 0 1 0), (.int .i64 (IntKind.wrap .i64 (1 + (List.length v0.s : Int)))), (.int .i64 0), (.int .i64 v0.kind), (.int .i64 v0.n), (.str v0.s), (.slice (List.map encValue v0.l) [] false), (.slice (List.map encMember v0.m) [] false)] []) fun y14 =>
  exIs y14.1 (some 0) (cnd (chkL [(.ptr 0 1 0), (.int .i64), (.int .i64), (.int .i64), (.int .i64), .str, (.sl false), (.sl false)] y14.2.1) (cnd (chkU [] y14.2.2)
   (bnd (LP (seinekeep_Size_l2 O LP) [(.ptr 0 1 0), (.int .i64 (intV (gt y14.2.1 1))), (.int .i64 0), (.int .i64 (intV (gt y14.2.1 3))), (.int .i64 (intV (gt y14.2.1 4))), (.str (strV (gt y14.2.1 5))), (.slice (esV (gt y14.2.1 6)) [] false), (.slice (esV (gt y14.2.1 7)) [] false)] []) fun y32 =>
   exIs y32.1 (some 2) (cnd (chkL [(.ptr 0 1 0), (.int .i64), (.int .i64), (.int .i64), (.int .i64), .str, (.sl false), (.sl false)] y32.2.1) (cnd (chkU [] y32.2.2)
    (some ((.int .i64 (intV (gt y32.2.1 1))), [])) none) none)
   (none)) none) none)
  (none)
noncomputable def seinekeep_Size_l1T (v0 : GValue) : (Int × Int) → Option ((Int × Int) ⊕ Int)
  | (n_6, i_7) =>
  cnd (decide (i_7 < (List.length v0.l : Int)))
   (bnd (nthI v0.l i_7) fun y9 =>
   bnd (seinekeep_Size y9) fun y11 =>
   some (.inl ((IntKind.wrap .i64 (n_6 + y11)), (IntKind.wrap .i64 (i_7 + 1)))))
   (some (.inr n_6))
abbrev seinekeep_Size_l1R (v0 : GValue) (st : Int × Int) (l : List PV) (u : UP) : Prop := l = [(.ptr 0 1 0), (.int .i64 st.1), (.int .i64 st.2), (.int .i64 v0.kind), (.int .i64 v0.n), (.str v0.s), (.slice (List.map encValue v0.l) [] false), (.slice (List.map encMember v0.m) [] false)] ∧ u = []
abbrev seinekeep_Size_l1X (v0 : GValue) (p : Int) (r : Ex × List PV × UP) : Prop := (fun (p : Int) => ∃ (i_13 : Int), r = (Ex.brk 0, [(.ptr 0 1 0), (.int .i64 p), (.int .i64 i_13), (.int .i64 v0.kind), (.int .i64 v0.n), (.str v0.s), (.slice (List.map encValue v0.l) [] false), (.slice (List.map encMember v0.m) [] false)], [])) p
noncomputable def seinekeep_Size_l2T (v0 : GValue) : (Int × Int) → Option ((Int × Int) ⊕ Int)
  | (n_22, i_23) =>
  cnd (decide (i_23 < (List.length v0.m : Int)))
   (bnd (nthI v0.m i_23) fun y25 =>
   bnd (nthI v0.m i_23) fun y27 =>
   bnd (seinekeep_Size y27.v) fun y29 =>
   some (.inl ((IntKind.wrap .i64 ((IntKind.wrap .i64 (n_22 + (List.length y25.name : Int))) + y29)), (IntKind.wrap .i64 (i_23 + 1)))))
   (some (.inr n_22))
abbrev seinekeep_Size_l2R (v0 : GValue) (st : Int × Int) (l : List PV) (u : UP) : Prop := l = [(.ptr 0 1 0), (.int .i64 st.1), (.int .i64 st.2), (.int .i64 v0.kind), (.int .i64 v0.n), (.str v0.s), (.slice (List.map encValue v0.l) [] false), (.slice (List.map encMember v0.m) [] false)] ∧ u = []
abbrev seinekeep_Size_l2X (v0 : GValue) (p : Int) (r : Ex × List PV × UP) : Prop := (fun (p : Int) => ∃ (i_31 : Int), r = (Ex.brk 2, [(.ptr 0 1 0), (.int .i64 p), (.int .i64 i_31), (.int .i64 v0.kind), (.int .i64 v0.n), (.str v0.s), (.slice (List.map encValue v0.l) [] false), (.slice (List.map encMember v0.m) [] false)], [])) p
noncomputable def seinekeep_Size_B (v0 : GValue) : Option Int :=
  bnd (tloop (seinekeep_Size_l1T v0) ((IntKind.wrap .i64 (1 + (List.length v0.s : Int))), 0)) fun n_12 =>
  bnd (tloop (seinekeep_Size_l2T v0) (n_12, 0)) fun n_30 =>
  some n_30
def seinekeep_Size_ds : Decs := { decs := [(21, (.ref shValue)), (23, (.int .i64)), (36, (.ref shMember)), (44, (.ref shMember)), (47, (.int .i64))], ups := [], loops := [(3, ⟨[(.ptr 0 1 0), (.int .i64), (.int .i64), (.int .i64), (.int .i64), .str, (.sl false), (.sl false)], [], [(some 0, [(.ptr 0 1 0), (.int .i64), (.int .i64), (.int .i64), (.int .i64), .str, (.sl false), (.sl false)], [])]⟩), (7, ⟨[(.ptr 0 1 0), (.int .i64), (.int .i64), (.int .i64), (.int .i64), .str, (.sl false), (.sl false)], [], [(some 2, [(.ptr 0 1 0), (.int .i64), (.int .i64), (.int .i64), (.int .i64), .str, (.sl false), (.sl false)], [])]⟩)] }
set_option maxRecDepth 100000 in
theorem seinekeep_Size_t1 (O : Orc) (LP : LBody → LBody) (v0 : GValue) : evalBodyD Try.prog (MT 47) seinekeep_Size_ds Try.f47.ntmps O LP Try.f47 [(.agg [(.int .i64 v0.kind), (.int .i64 v0.n), (.str v0.s), (.slice (List.map encValue v0.l) [] false), (.slice (List.map encMember v0.m) [] false)])] [] = seinekeep_Size_T1 O LP v0 := by kernel_rfl
theorem seinekeep_Size_l1_ok (v0 : GValue) : ∀ st l u, seinekeep_Size_l1R v0 st l u → Imp (seinekeep_Size_l1T v0 st) (seinekeep_Size_l1 O loopLim l u) (StepR (seinekeep_Size_l1R v0) (seinekeep_Size_l1X v0)) := by
  rintro ⟨n_6, i_7⟩ l u ⟨rfl, rfl⟩
  simp only [seinekeep_Size_l1T, seinekeep_Size_l1]
  refine Imp.chk rfl (Imp.chk rfl ?_)
  try simp only [evs, tys]
  refine Imp.cnd ?_ ?_
  · refine Imp.op (f := fun a => .ref (encValue a)) (fun a h => op_ix (enc := encValue) (by first | rfl | simp only [evs, tys, evl]) ⟨by first | rfl | simp only [evs, tys, evc], by decide⟩ h) (fun a => chk_GValue a) fun y9 hy9 => ?_
    try simp only [evs, tys]
    refine Imp.call (f := seinekeep_SizeE) rfl (fun a h => by first | exact seinekeep_Size_spec h | simpa only [evs, tys, evl] using seinekeep_Size_spec h) (fun a => by first | rfl | simp only [seinekeep_SizeE, evk, chks]) fun y11 hy11 => ?_
    try simp only [seinekeep_SizeE, evs, tys]
    exact Imp.some (StepR.next ⟨by first | rfl | simp only [evs, tys, evl], rfl⟩)
  · exact Imp.some (StepR.brk ⟨i_7, by first | rfl | simp only [evs, tys, evl, elim_inl, elim_inr]⟩)
theorem seinekeep_Size_l2_ok (v0 : GValue) : ∀ st l u, seinekeep_Size_l2R v0 st l u → Imp (seinekeep_Size_l2T v0 st) (seinekeep_Size_l2 O loopLim l u) (StepR (seinekeep_Size_l2R v0) (seinekeep_Size_l2X v0)) := by
  rintro ⟨n_22, i_23⟩ l u ⟨rfl, rfl⟩
  simp only [seinekeep_Size_l2T, seinekeep_Size_l2]
  refine Imp.chk rfl (Imp.chk rfl ?_)
  try simp only [evs, tys]
  refine Imp.cnd ?_ ?_
  · refine Imp.op (f := fun a => .ref (encMember a)) (fun a h => op_ix (enc := encMember) (by first | rfl | simp only [evs, tys, evl]) ⟨by first | rfl | simp only [evs, tys, evc], by decide⟩ h) (fun a => chk_GMember a) fun y25 hy25 => ?_
    try simp only [evs, tys]
    refine Imp.op (f := fun a => .ref (encMember a)) (fun a h => op_ix (enc := encMember) (by first | rfl | simp only [evs, tys, evl]) ⟨by first | rfl | simp only [evs, tys, evc], by decide⟩ h) (fun a => chk_GMember a) fun y27 hy27 => ?_
    try simp only [evs, tys]
    refine Imp.call (f := seinekeep_SizeE) rfl (fun a h => by first | exact seinekeep_Size_spec h | simpa only [evs, tys, evl] using seinekeep_Size_spec h) (fun a => by first | rfl | simp only [seinekeep_SizeE, evk, chks]) fun y29 hy29 => ?_
    try simp only [seinekeep_SizeE, evs, tys]
    exact Imp.some (StepR.next ⟨by first | rfl | simp only [evs, tys, evl], rfl⟩)
  · exact Imp.some (StepR.brk ⟨i_23, by first | rfl | simp only [evs, tys, evl, elim_inl, elim_inr]⟩)
theorem seinekeep_Size_imp (v0 : GValue) : Imp (seinekeep_Size_B v0) (seinekeep_Size_T1 O loopLim v0) (fun r v => v = (seinekeep_SizeE r, [])) := by
  simp only [seinekeep_Size_B, seinekeep_Size_T1]
  try simp only [evs, tys]
  refine Imp.bnd (Imp.loop (seinekeep_Size_l1_ok v0) ⟨by first | rfl | simp only [evs, tys, evl], rfl⟩) ?_
  rintro n_12 vy14 hy14
  obtain ⟨i_13, rfl⟩ := hy14
  refine Imp.exHit rfl (Imp.chk rfl (Imp.chk rfl ?_))
  try simp only [evs, tys]
  refine Imp.bnd (Imp.loop (seinekeep_Size_l2_ok v0) ⟨by first | rfl | simp only [evs, tys, evl], rfl⟩) ?_
  rintro n_30 vy32 hy32
  obtain ⟨i_31, rfl⟩ := hy32
  refine Imp.exHit rfl (Imp.chk rfl (Imp.chk rfl ?_))
  try simp only [evs, tys]
  exact Imp.some (by first | rfl | simp only [seinekeep_SizeE, evs, tys, evl])
theorem seinekeep_Size_run {v0 : GValue} {r : Int} (h : seinekeep_Size_B v0 = some r) : seinekeep_Size v0 = some r := by
  obtain ⟨v, hv, rfl⟩ := seinekeep_Size_imp v0 r h
  exact tO_of (pair_inj seinekeep_SizeEj) (OL_runD seinekeep_Size_ds rfl Try.func47 ((seinekeep_Size_t1 _ _ v0).trans hv))
end Go.Proofs.Ytigiafabnidggaa

/- Printed by symgen.py: typed functions of this seat, and why they tell what the program does. -/
set_option linter.unusedVariables false
set_option linter.unusedSimpArgs false
open Go Go.Ev Go.Ev.PV
namespace Go.Proofs.Ytigiafabnidggaa
def seineref1_Same_l1 (O : Orc) (LP : LBody → LBody) : LBody := fun s1 s1u => cnd (chkL [(.ptr 0 2 0), (.ptr 0 3 0), .bool, (.int .i64), (.int .i64), (.int .i64), .str, (.sl false), (.sl false), (.int .i64), (.int .i64), .str, (.sl false), (.sl false)] s1) (cnd (chkU [] s1u)
  (cnd (decide ((intV (gt s1 3)) < (List.length (esV (gt s1 12)) : Int)))
   (bnd (ix 5 (.slice (esV (gt s1 12)) [] false) (.int .i64 (intV (gt s1 3)))) fun x9 => cnd (chk (.ref shValue) x9)
   (bnd (ix 5 (.slice (esV (gt s1 7)) [] false) (.int .i64 (intV (gt s1 3)))) fun x11 => cnd (chk (.ref shValue) x11)
   (callp O 48 [(.agg [(.int .i64 (intV (gt (aggV (refV x9)) 0))), (.int .i64 (intV (gt (aggV (refV x9)) 1))), (.str (strV (gt (aggV (refV x9)) 2))), (.slice (esV (gt (aggV (refV x9)) 3)) [] false), (.slice (esV (gt (aggV (refV x9)) 4)) [] false)]), (.agg [(.int .i64 (intV (gt (aggV (refV x11)) 0))), (.int .i64 (intV (gt (aggV (refV x11)) 1))), (.str (strV (gt (aggV (refV x11)) 2))), (.slice (esV (gt (aggV (refV x11)) 3)) [] false), (.slice (esV (gt (aggV (refV x11)) 4)) [] false)])] fun x13 => cnd (chk .bool x13)
   (cnd (!(boolV x13))
    (some (.ret, [(.ptr 0 2 0), (.ptr 0 3 0), (.bool false), (.int .i64 (intV (gt s1 3))), (.int .i64 (intV (gt s1 4))), (.int .i64 (intV (gt s1 5))), (.str (strV (gt s1 6))), (.slice (esV (gt s1 7)) [] false), (.slice (esV (gt s1 8)) [] false), (.int .i64 (intV (gt s1 9))), (.int .i64 (intV (gt s1 10))), (.str (strV (gt s1 11))), (.slice (esV (gt s1 12)) [] false), (.slice (esV (gt s1 13)) [] false)], []))
    (some (.nrm, [(.ptr 0 2 0), (.ptr 0 3 0), (.bool (boolV (gt s1 2))), (.int .i64 (IntKind.wrap .i64 ((intV (gt s1 3)) + 1))), (.int .i64 (intV (gt s1 4))), (.int .i64 (intV (gt s1 5))), (.str (strV (gt s1 6))), (.slice (esV (gt s1 7)) [] false), (.slice (esV (gt s1 8)) [] false), (.int .i64 (intV (gt s1 9))), (.int .i64 (intV (gt s1 10))), (.str (strV (gt s1 11))), (.slice (esV (gt s1 12)) [] false), (.slice (esV (gt s1 13)) [] false)], []))) none) none) none)
   (some (.brk 0, [(.ptr 0 2 0), (.ptr 0 3 0), (.bool (boolV (gt s1 2))), (.int .i64 (intV (gt s1 3))), (.int .i64 (intV (gt s1 4))), (.int .i64 (intV (gt s1 5))), (.str (strV (gt s1 6))), (.slice (esV (gt s1 7)) [] false), (.slice (esV (gt s1 8)) [] false), (.int .i64 (intV (gt s1 9))), (.int .i64 (intV (gt s1 10))), (.str (strV (gt s1 11))), (.slice (esV (gt s1 12)) [] false), (.slice (esV (gt s1 13)) [] false)], []))) none) none
def seineref1_Same_T1 (O : Orc) (LP : LBody → LBody) (a : GValue) (b : GValue) : Option (PV × UP) :=
  cnd (a.kind != b.kind)
   (some ((.bool false), []))
   (cnd (a.n != b.n)
    (some ((.bool false), []))
    (cnd (!(a.s == b.s))
     (some ((.bool false), []))
     (cnd ((List.length (List.map encValue a.l) : Int) != (List.length (List.map encValue b.l) : Int))
      (some ((.bool false), []))
      (bnd (LP (seineref1_Same_l1 O LP) [(.ptr 0 2 0), (.ptr 0 3 0), (.bool false), (.int .i64 0), (.int .i64 b.kind), (.int .i64 b.n), (.str b.s), (.slice (List.map encValue b.l) [] false), (.slice (List.map encMember b.m) [] false), (.int .i64 a.kind), (.int .i64 a.n), (.str a.s), (.slice (List.map encValue a.l) [] false), (.slice (List.map encMember a.m) [] false)] []) fun y17 =>
      exIs y17.1 (some 0) (cnd (chkL [(.ptr 0 2 0), (.ptr 0 3 0), .bool, (.int .i64), (.int .i64), (.int .i64), .str, (.sl false), (.sl false), (.int .i64), (.int .i64), .str, (.sl false), (.sl false)] y17.2.1) (cnd (chkU [] y17.2.2)
       (callp O 49 [(.slice (esV (gt y17.2.1 13)) [] false), (.slice (esV (gt y17.2.1 8)) [] false)] fun x18 => cnd (chk .bool x18)
       (some ((.bool (boolV x18)), [])) none) none) none)
      (exIs y17.1 none (cnd (chkL [(.ptr 0 2 0), (.ptr 0 3 0), .bool, (.int .i64), (.int .i64), (.int .i64), .str, (.sl false), (.sl false), (.int .i64), (.int .i64), .str, (.sl false), (.sl false)] y17.2.1) (cnd (chkU [] y17.2.2)
       (some ((.bool (boolV (gt y17.2.1 2))), [])) none) none)
      (none))))))
noncomputable def seineref1_Same_l1T (a : GValue) (b : GValue) : Int → Option (Int ⊕ (Unit ⊕ Unit))
  | i_8 =>
  cnd (decide (i_8 < (List.length a.l : Int)))
   (bnd (nthI a.l i_8) fun y10 =>
   bnd (nthI b.l i_8) fun y12 =>
   bnd (seineref1_Same y10 y12) fun y14 =>
   cnd (!y14)
    (some (.inr (.inr ())))
    (some (.inl (IntKind.wrap .i64 (i_8 + 1)))))
   (some (.inr (.inl ())))
abbrev seineref1_Same_l1R (a : GValue) (b : GValue) (st : Int) (l : List PV) (u : UP) : Prop := l = [(.ptr 0 2 0), (.ptr 0 3 0), (.bool false), (.int .i64 st), (.int .i64 b.kind), (.int .i64 b.n), (.str b.s), (.slice (List.map encValue b.l) [] false), (.slice (List.map encMember b.m) [] false), (.int .i64 a.kind), (.int .i64 a.n), (.str a.s), (.slice (List.map encValue a.l) [] false), (.slice (List.map encMember a.m) [] false)] ∧ u = []
abbrev seineref1_Same_l1X (a : GValue) (b : GValue) (p : Unit ⊕ Unit) (r : Ex × List PV × UP) : Prop := elim p (fun (p : Unit) => ∃ (i_15 : Int), r = (Ex.brk 0, [(.ptr 0 2 0), (.ptr 0 3 0), (.bool false), (.int .i64 i_15), (.int .i64 b.kind), (.int .i64 b.n), (.str b.s), (.slice (List.map encValue b.l) [] false), (.slice (List.map encMember b.m) [] false), (.int .i64 a.kind), (.int .i64 a.n), (.str a.s), (.slice (List.map encValue a.l) [] false), (.slice (List.map encMember a.m) [] false)], [])) (fun q2 => (fun (p : Unit) => ∃ (i_16 : Int), r = (Ex.ret, [(.ptr 0 2 0), (.ptr 0 3 0), (.bool false), (.int .i64 i_16), (.int .i64 b.kind), (.int .i64 b.n), (.str b.s), (.slice (List.map encValue b.l) [] false), (.slice (List.map encMember b.m) [] false), (.int .i64 a.kind), (.int .i64 a.n), (.str a.s), (.slice (List.map encValue a.l) [] false), (.slice (List.map encMember a.m) [] false)], [])) q2)
noncomputable def seineref1_Same_B (a : GValue) (b : GValue) : Option Bool :=
  cnd (a.kind != b.kind)
   (some false)
   (cnd (a.n != b.n)
    (some false)
    (cnd (!(a.s == b.s))
     (some false)
     (cnd ((List.length a.l : Int) != (List.length b.l : Int))
      (some false)
      (bnd (tloop (seineref1_Same_l1T a b) 0) fun e17_2 => elim e17_2
      (fun p17 =>
       bnd (seineref1_Members a.m b.m) fun y19 =>
       some y19)
      (fun p17 =>
      some false)))))
def seineref1_Same_ds : Decs := { decs := [(44, (.ref shValue)), (49, (.ref shValue)), (51, .bool), (57, .bool)], ups := [], loops := [(4, ⟨[(.ptr 0 2 0), (.ptr 0 3 0), .bool, (.int .i64), (.int .i64), (.int .i64), .str, (.sl false), (.sl false), (.int .i64), (.int .i64), .str, (.sl false), (.sl false)], [], [(some 0, [(.ptr 0 2 0), (.ptr 0 3 0), .bool, (.int .i64), (.int .i64), (.int .i64), .str, (.sl false), (.sl false), (.int .i64), (.int .i64), .str, (.sl false), (.sl false)], []), (none, [(.ptr 0 2 0), (.ptr 0 3 0), .bool, (.int .i64), (.int .i64), (.int .i64), .str, (.sl false), (.sl false), (.int .i64), (.int .i64), .str, (.sl false), (.sl false)], [])]⟩)] }
set_option maxRecDepth 100000 in
theorem seineref1_Same_t1 (O : Orc) (LP : LBody → LBody) (a : GValue) (b : GValue) : evalBodyD Try.prog (MT 48) seineref1_Same_ds Try.f48.ntmps O LP Try.f48 [(.agg [(.int .i64 a.kind), (.int .i64 a.n), (.str a.s), (.slice (List.map encValue a.l) [] false), (.slice (List.map encMember a.m) [] false)]), (.agg [(.int .i64 b.kind), (.int .i64 b.n), (.str b.s), (.slice (List.map encValue b.l) [] false), (.slice (List.map encMember b.m) [] false)])] [] = seineref1_Same_T1 O LP a b := by kernel_rfl
theorem seineref1_Same_l1_ok (a : GValue) (b : GValue) : ∀ st l u, seineref1_Same_l1R a b st l u → Imp (seineref1_Same_l1T a b st) (seineref1_Same_l1 O loopLim l u) (StepR (seineref1_Same_l1R a b) (seineref1_Same_l1X a b)) := by
  rintro i_8 l u ⟨rfl, rfl⟩
  simp only [seineref1_Same_l1T, seineref1_Same_l1]
  refine Imp.chk rfl (Imp.chk rfl ?_)
  try simp only [evs, tys]
  refine Imp.cnd ?_ ?_
  · refine Imp.op (f := fun a => .ref (encValue a)) (fun a h => op_ix (enc := encValue) (by first | rfl | simp only [evs, tys, evl]) ⟨by first | rfl | simp only [evs, tys, evc], by decide⟩ h) (fun a => chk_GValue a) fun y10 hy10 => ?_
    try simp only [evs, tys]
    refine Imp.op (f := fun a => .ref (encValue a)) (fun a h => op_ix (enc := encValue) (by first | rfl | simp only [evs, tys, evl]) ⟨by first | rfl | simp only [evs, tys, evc], by decide⟩ h) (fun a => chk_GValue a) fun y12 hy12 => ?_
    try simp only [evs, tys]
    refine Imp.call (f := seineref1_SameE) rfl (fun a h => by first | exact seineref1_Same_spec h | simpa only [evs, tys, evl] using seineref1_Same_spec h) (fun a => by first | rfl | simp only [seineref1_SameE, evk, chks]) fun y14 hy14 => ?_
    try simp only [seineref1_SameE, evs, tys]
    refine Imp.cnd ?_ ?_
    · exact Imp.some (StepR.ret ⟨i_8, by first | rfl | simp only [evs, tys, evl, elim_inl, elim_inr]⟩)
    · exact Imp.some (StepR.next ⟨by first | rfl | simp only [evs, tys, evl], rfl⟩)
  · exact Imp.some (StepR.brk ⟨i_8, by first | rfl | simp only [evs, tys, evl, elim_inl, elim_inr]⟩)
theorem seineref1_Same_imp (a : GValue) (b : GValue) : Imp (seineref1_Same_B a b) (seineref1_Same_T1 O loopLim a b) (fun r v => v = (seineref1_SameE r, [])) := by
  simp only [seineref1_Same_B, seineref1_Same_T1]
  try simp only [evs, tys]
  refine Imp.cnd ?_ ?_
  · exact Imp.some (by first | rfl | simp only [seineref1_SameE, evs, tys, evl])
  · refine Imp.cnd ?_ ?_
    · exact Imp.some (by first | rfl | simp only [seineref1_SameE, evs, tys, evl])
    · refine Imp.cnd ?_ ?_
      · exact Imp.some (by first | rfl | simp only [seineref1_SameE, evs, tys, evl])
      · refine Imp.cnd ?_ ?_
        · exact Imp.some (by first | rfl | simp only [seineref1_SameE, evs, tys, evl])
        · refine Imp.bnd (Imp.loop (seineref1_Same_l1_ok a b) ⟨by first | rfl | simp only [evs, tys, evl], rfl⟩) ?_
          rintro (p | p) vy17 hy17
          · try simp only [elim_inl, elim_inr]
            obtain ⟨i_15, rfl⟩ := hy17
            refine Imp.exHit rfl (Imp.chk rfl (Imp.chk rfl ?_))
            try simp only [evs, tys]
            refine Imp.call (f := seineref1_MembersE) rfl (fun a h => by first | exact seineref1_Members_spec h | simpa only [evs, tys, evl] using seineref1_Members_spec h) (fun a => by first | rfl | simp only [seineref1_MembersE, evk, chks]) fun y19 hy19 => ?_
            try simp only [seineref1_MembersE, evs, tys]
            exact Imp.some (by first | rfl | simp only [seineref1_SameE, evs, tys, evl])
          · try simp only [elim_inl, elim_inr]
            obtain ⟨i_16, rfl⟩ := hy17
            refine Imp.exMiss rfl ?_
            refine Imp.exHit rfl (Imp.chk rfl (Imp.chk rfl ?_))
            try simp only [evs, tys]
            exact Imp.some (by first | rfl | simp only [seineref1_SameE, evs, tys, evl])
theorem seineref1_Same_run {a : GValue} {b : GValue} {r : Bool} (h : seineref1_Same_B a b = some r) : seineref1_Same a b = some r := by
  obtain ⟨v, hv, rfl⟩ := seineref1_Same_imp a b r h
  exact tO_of (pair_inj seineref1_SameEj) (OL_runD seineref1_Same_ds rfl Try.func48 ((seineref1_Same_t1 _ _ a b).trans hv))

def seineref1_Members_l1 (O : Orc) (LP : LBody → LBody) : LBody := fun s1 s1u => cnd (chkL [(.sl false), (.sl false), .bool, (.int .i64)] s1) (cnd (chkU [] s1u)
  (cnd (decide ((intV (gt s1 3)) < (List.length (esV (gt s1 0)) : Int)))
   (bnd (ix 6 (.slice (esV (gt s1 0)) [] false) (.int .i64 (intV (gt s1 3)))) fun x13 => cnd (chk (.ref shMember) x13)
   (bnd (ix 6 (.slice (esV (gt s1 1)) [] false) (.int .i64 (intV (gt s1 3)))) fun x15 => cnd (chk (.ref shMember) x15)
   (cnd (!((strV (gt (aggV (refV x13)) 0)) == (strV (gt (aggV (refV x15)) 0))))
    (some (.ret, [(.slice (esV (gt s1 0)) [] false), (.slice (esV (gt s1 1)) [] false), (.bool false), (.int .i64 (intV (gt s1 3)))], []))
    (bnd (ix 6 (.slice (esV (gt s1 0)) [] false) (.int .i64 (intV (gt s1 3)))) fun x17 => cnd (chk (.ref shMember) x17)
    (bnd (ix 6 (.slice (esV (gt s1 1)) [] false) (.int .i64 (intV (gt s1 3)))) fun x19 => cnd (chk (.ref shMember) x19)
    (callp O 48 [(.agg [(.int .i64 (intV (gt (aggV (refV x17)) 1))), (.int .i64 (intV (gt (aggV (refV x17)) 2))), (.str (strV (gt (aggV (refV x17)) 3))), (.slice (esV (gt (aggV (refV x17)) 4)) [] false), (.slice (esV (gt (aggV (refV x17)) 5)) [] false)]), (.agg [(.int .i64 (intV (gt (aggV (refV x19)) 1))), (.int .i64 (intV (gt (aggV (refV x19)) 2))), (.str (strV (gt (aggV (refV x19)) 3))), (.slice (esV (gt (aggV (refV x19)) 4)) [] false), (.slice (esV (gt (aggV (refV x19)) 5)) [] false)])] fun x21 => cnd (chk .bool x21)
    (cnd (!(boolV x21))
     (some (.ret, [(.slice (esV (gt s1 0)) [] false), (.slice (esV (gt s1 1)) [] false), (.bool false), (.int .i64 (intV (gt s1 3)))], []))
     (some (.nrm, [(.slice (esV (gt s1 0)) [] false), (.slice (esV (gt s1 1)) [] false), (.bool (boolV (gt s1 2))), (.int .i64 (IntKind.wrap .i64 ((intV (gt s1 3)) + 1)))], []))) none) none) none)) none) none)
   (some (.brk 0, [(.slice (esV (gt s1 0)) [] false), (.slice (esV (gt s1 1)) [] false), (.bool (boolV (gt s1 2))), (.int .i64 (intV (gt s1 3)))], []))) none) none
def seineref1_Members_T1 (O : Orc) (LP : LBody → LBody) (a : List GMember) (b : List GMember) : Option (PV × UP) :=
  cnd ((List.length (List.map encMember a) : Int) != (List.length (List.map encMember b) : Int))
   (some ((.bool false), []))
   (bnd (LP (seineref1_Members_l1 O LP) [(.slice (List.map encMember a) [] false), (.slice (List.map encMember b) [] false), (.bool false), (.int .i64 0)] []) fun y25 =>
   exIs y25.1 (some 0) (cnd (chkL [(.sl false), (.sl false), .bool, (.int .i64)] y25.2.1) (cnd (chkU [] y25.2.2)
    (some ((.bool true), [])) none) none)
   (exIs y25.1 none (cnd (chkL [(.sl false), (.sl false), .bool, (.int .i64)] y25.2.1) (cnd (chkU [] y25.2.2)
    (some ((.bool (boolV (gt y25.2.1 2))), [])) none) none)
   (none)))
noncomputable def seineref1_Members_l1T (a : List GMember) (b : List GMember) : Int → Option (Int ⊕ (Unit ⊕ Unit))
  | i_12 =>
  cnd (decide (i_12 < (List.length a : Int)))
   (bnd (nthI a i_12) fun y14 =>
   bnd (nthI b i_12) fun y16 =>
   cnd (!(y14.name == y16.name))
    (some (.inr (.inr ())))
    (bnd (nthI a i_12) fun y18 =>
    bnd (nthI b i_12) fun y20 =>
    bnd (seineref1_Same y18.v y20.v) fun y22 =>
    cnd (!y22)
     (some (.inr (.inr ())))
     (some (.inl (IntKind.wrap .i64 (i_12 + 1))))))
   (some (.inr (.inl ())))
abbrev seineref1_Members_l1R (a : List GMember) (b : List GMember) (st : Int) (l : List PV) (u : UP) : Prop := l = [(.slice (List.map encMember a) [] false), (.slice (List.map encMember b) [] false), (.bool false), (.int .i64 st)] ∧ u = []
abbrev seineref1_Members_l1X (a : List GMember) (b : List GMember) (p : Unit ⊕ Unit) (r : Ex × List PV × UP) : Prop := elim p (fun (p : Unit) => ∃ (i_23 : Int), r = (Ex.brk 0, [(.slice (List.map encMember a) [] false), (.slice (List.map encMember b) [] false), (.bool false), (.int .i64 i_23)], [])) (fun q2 => (fun (p : Unit) => ∃ (i_24 : Int), r = (Ex.ret, [(.slice (List.map encMember a) [] false), (.slice (List.map encMember b) [] false), (.bool false), (.int .i64 i_24)], [])) q2)
noncomputable def seineref1_Members_B (a : List GMember) (b : List GMember) : Option Bool :=
  cnd ((List.length a : Int) != (List.length b : Int))
   (some false)
   (bnd (tloop (seineref1_Members_l1T a b) 0) fun e25_2 => elim e25_2
   (fun p25 =>
    some true)
   (fun p25 =>
   some false))
def seineref1_Members_ds : Decs := { decs := [(19, (.ref shMember)), (24, (.ref shMember)), (31, (.ref shMember)), (36, (.ref shMember)), (39, .bool)], ups := [], loops := [(4, ⟨[(.sl false), (.sl false), .bool, (.int .i64)], [], [(some 0, [(.sl false), (.sl false), .bool, (.int .i64)], []), (none, [(.sl false), (.sl false), .bool, (.int .i64)], [])]⟩)] }
set_option maxRecDepth 100000 in
theorem seineref1_Members_t1 (O : Orc) (LP : LBody → LBody) (a : List GMember) (b : List GMember) : evalBodyD Try.prog (MT 49) seineref1_Members_ds Try.f49.ntmps O LP Try.f49 [(.slice (List.map encMember a) [] false), (.slice (List.map encMember b) [] false)] [] = seineref1_Members_T1 O LP a b := by kernel_rfl
theorem seineref1_Members_l1_ok (a : List GMember) (b : List GMember) : ∀ st l u, seineref1_Members_l1R a b st l u → Imp (seineref1_Members_l1T a b st) (seineref1_Members_l1 O loopLim l u) (StepR (seineref1_Members_l1R a b) (seineref1_Members_l1X a b)) := by
  rintro i_12 l u ⟨rfl, rfl⟩
  simp only [seineref1_Members_l1T, seineref1_Members_l1]
  refine Imp.chk rfl (Imp.chk rfl ?_)
  try simp only [evs, tys]
  refine Imp.cnd ?_ ?_
  · refine Imp.op (f := fun a => .ref (encMember a)) (fun a h => op_ix (enc := encMember) (by first | rfl | simp only [evs, tys, evl]) ⟨by first | rfl | simp only [evs, tys, evc], by decide⟩ h) (fun a => chk_GMember a) fun y14 hy14 => ?_
    try simp only [evs, tys]
    refine Imp.op (f := fun a => .ref (encMember a)) (fun a h => op_ix (enc := encMember) (by first | rfl | simp only [evs, tys, evl]) ⟨by first | rfl | simp only [evs, tys, evc], by decide⟩ h) (fun a => chk_GMember a) fun y16 hy16 => ?_
    try simp only [evs, tys]
    refine Imp.cnd ?_ ?_
    · exact Imp.some (StepR.ret ⟨i_12, by first | rfl | simp only [evs, tys, evl, elim_inl, elim_inr]⟩)
    · refine Imp.op (f := fun a => .ref (encMember a)) (fun a h => op_ix (enc := encMember) (by first | rfl | simp only [evs, tys, evl]) ⟨by first | rfl | simp only [evs, tys, evc], by decide⟩ h) (fun a => chk_GMember a) fun y18 hy18 => ?_
      try simp only [evs, tys]
      refine Imp.op (f := fun a => .ref (encMember a)) (fun a h => op_ix (enc := encMember) (by first | rfl | simp only [evs, tys, evl]) ⟨by first | rfl | simp only [evs, tys, evc], by decide⟩ h) (fun a => chk_GMember a) fun y20 hy20 => ?_
      try simp only [evs, tys]
      refine Imp.call (f := seineref1_SameE) rfl (fun a h => by first | exact seineref1_Same_spec h | simpa only [evs, tys, evl] using seineref1_Same_spec h) (fun a => by first | rfl | simp only [seineref1_SameE, evk, chks]) fun y22 hy22 => ?_
      try simp only [seineref1_SameE, evs, tys]
      refine Imp.cnd ?_ ?_
      · exact Imp.some (StepR.ret ⟨i_12, by first | rfl | simp only [evs, tys, evl, elim_inl, elim_inr]⟩)
      · exact Imp.some (StepR.next ⟨by first | rfl | simp only [evs, tys, evl], rfl⟩)
  · exact Imp.some (StepR.brk ⟨i_12, by first | rfl | simp only [evs, tys, evl, elim_inl, elim_inr]⟩)
theorem seineref1_Members_imp (a : List GMember) (b : List GMember) : Imp (seineref1_Members_B a b) (seineref1_Members_T1 O loopLim a b) (fun r v => v = (seineref1_MembersE r, [])) := by
  simp only [seineref1_Members_B, seineref1_Members_T1]
  try simp only [evs, tys]
  refine Imp.cnd ?_ ?_
  · exact Imp.some (by first | rfl | simp only [seineref1_MembersE, evs, tys, evl])
  · refine Imp.bnd (Imp.loop (seineref1_Members_l1_ok a b) ⟨by first | rfl | simp only [evs, tys, evl], rfl⟩) ?_
    rintro (p | p) vy25 hy25
    · try simp only [elim_inl, elim_inr]
      obtain ⟨i_23, rfl⟩ := hy25
      refine Imp.exHit rfl (Imp.chk rfl (Imp.chk rfl ?_))
      try simp only [evs, tys]
      exact Imp.some (by first | rfl | simp only [seineref1_MembersE, evs, tys, evl])
    · try simp only [elim_inl, elim_inr]
      obtain ⟨i_24, rfl⟩ := hy25
      refine Imp.exMiss rfl ?_
      refine Imp.exHit rfl (Imp.chk rfl (Imp.chk rfl ?_))
      try simp only [evs, tys]
      exact Imp.some (by first | rfl | simp only [seineref1_MembersE, evs, tys, evl])
theorem seineref1_Members_run {a : List GMember} {b : List GMember} {r : Bool} (h : seineref1_Members_B a b = some r) : seineref1_Members a b = some r := by
  obtain ⟨v, hv, rfl⟩ := seineref1_Members_imp a b r h
  exact tO_of (pair_inj seineref1_MembersEj) (OL_runD seineref1_Members_ds rfl Try.func49 ((seineref1_Members_t1 _ _ a b).trans hv))

def slices_Contains_int_int_T1 (O : Orc) (LP : LBody → LBody) (s : List Int) (v0 : Int) : Option (PV × UP) :=
  callp O 53 [(.slice (List.map (PV.int .i64) s) [] false), (.int .i64 v0)] fun x1 => cnd (chk (.int .i64) x1)
  (some ((.bool (decide ((intV x1) ≥ 0))), [])) none
noncomputable def slices_Contains_int_int_B (s : List Int) (v0 : Int) : Option Bool :=
  bnd (slices_Index_int_int s v0) fun y2 =>
  some (decide (y2 ≥ 0))
def slices_Contains_int_int_ds : Decs := { decs := [(7, (.int .i64))], ups := [], loops := [] }
set_option maxRecDepth 100000 in
theorem slices_Contains_int_int_t1 (O : Orc) (LP : LBody → LBody) (s : List Int) (v0 : Int) : evalBodyD Try.prog (MT 50) slices_Contains_int_int_ds Try.f50.ntmps O LP Try.f50 [(.slice (List.map (PV.int .i64) s) [] false), (.int .i64 v0)] [] = slices_Contains_int_int_T1 O LP s v0 := by kernel_rfl
theorem slices_Contains_int_int_imp (s : List Int) (v0 : Int) : Imp (slices_Contains_int_int_B s v0) (slices_Contains_int_int_T1 O loopLim s v0) (fun r v => v = (slices_Contains_int_intE r, [])) := by
  simp only [slices_Contains_int_int_B, slices_Contains_int_int_T1]
  try simp only [evs, tys]
  refine Imp.call (f := slices_Index_int_intE) rfl (fun a h => by first | exact slices_Index_int_int_spec h | simpa only [evs, tys, evl] using slices_Index_int_int_spec h) (fun a => by first | rfl | simp only [slices_Index_int_intE, evk, chks]) fun y2 hy2 => ?_
  try simp only [slices_Index_int_intE, evs, tys]
  exact Imp.some (by first | rfl | simp only [slices_Contains_int_intE, evs, tys, evl])
theorem slices_Contains_int_int_run {s : List Int} {v0 : Int} {r : Bool} (h : slices_Contains_int_int_B s v0 = some r) : slices_Contains_int_int s v0 = some r := by
  obtain ⟨v, hv, rfl⟩ := slices_Contains_int_int_imp s v0 r h
  exact tO_of (pair_inj slices_Contains_int_intEj) (OL_runD slices_Contains_int_int_ds rfl Try.func50 ((slices_Contains_int_int_t1 _ _ s v0).trans hv))

def slices_Index_string_string_l1 (O : Orc) (LP : LBody → LBody) : LBody := fun s1 s1u => cnd (chkL [(.sl false), .str, (.int .i64), (.int .i64), (.int .i64)] s1) (cnd (chkU [] s1u)
  (cnd (decide ((intV (gt s1 4)) < (intV (gt s1 3))))
   (bnd (ix 1 (.slice (esV (gt s1 0)) [] false) (.int .i64 (intV (gt s1 4)))) fun x5 => cnd (chk (.ref .str) x5)
   (cnd ((strV (gt s1 1)) == (strV (refV x5)))
    (some (.ret, [(.slice (esV (gt s1 0)) [] false), (.str (strV (gt s1 1))), (.int .i64 (intV (gt s1 4))), (.int .i64 (intV (gt s1 3))), (.int .i64 (intV (gt s1 4)))], []))
    (some (.nrm, [(.slice (esV (gt s1 0)) [] false), (.str (strV (gt s1 1))), (.int .i64 (intV (gt s1 2))), (.int .i64 (intV (gt s1 3))), (.int .i64 (IntKind.wrap .i64 ((intV (gt s1 4)) + 1)))], []))) none)
   (some (.brk 0, [(.slice (esV (gt s1 0)) [] false), (.str (strV (gt s1 1))), (.int .i64 (intV (gt s1 2))), (.int .i64 (intV (gt s1 3))), (.int .i64 (intV (gt s1 4)))], []))) none) none
def slices_Index_string_string_T1 (O : Orc) (LP : LBody → LBody) (s : List Str) (v0 : Str) : Option (PV × UP) :=
  bnd (LP (slices_Index_string_string_l1 O LP) [(.slice (List.map PV.str s) [] false), (.str v0), (.int .i64 0), (.int .i64 (List.length (List.map PV.str s) : Int)), (.int .i64 0)] []) fun y10 =>
  exIs y10.1 (some 0) (cnd (chkL [(.sl false), .str, (.int .i64), (.int .i64), (.int .i64)] y10.2.1) (cnd (chkU [] y10.2.2)
   (some ((.int .i64 (-1)), [])) none) none)
  (exIs y10.1 none (cnd (chkL [(.sl false), .str, (.int .i64), (.int .i64), (.int .i64)] y10.2.1) (cnd (chkU [] y10.2.2)
   (some ((.int .i64 (intV (gt y10.2.1 2))), [])) none) none)
  (none))
noncomputable def slices_Index_string_string_l1T (s : List Str) (v0 : Str) : Int → Option (Int ⊕ (Unit ⊕ Int))
  | t_4 =>
  cnd (decide (t_4 < (List.length s : Int)))
   (bnd (nthI s t_4) fun y6 =>
   cnd (v0 == y6)
    (some (.inr (.inr t_4)))
    (some (.inl (IntKind.wrap .i64 (t_4 + 1)))))
   (some (.inr (.inl ())))
abbrev slices_Index_string_string_l1R (s : List Str) (v0 : Str) (st : Int) (l : List PV) (u : UP) : Prop := l = [(.slice (List.map PV.str s) [] false), (.str v0), (.int .i64 0), (.int .i64 (List.length s : Int)), (.int .i64 st)] ∧ u = []
abbrev slices_Index_string_string_l1X (s : List Str) (v0 : Str) (p : Unit ⊕ Int) (r : Ex × List PV × UP) : Prop := elim p (fun (p : Unit) => ∃ (t_7 : Int), r = (Ex.brk 0, [(.slice (List.map PV.str s) [] false), (.str v0), (.int .i64 0), (.int .i64 (List.length s : Int)), (.int .i64 t_7)], [])) (fun q2 => (fun (p : Int) => ∃ (t_9 : Int), r = (Ex.ret, [(.slice (List.map PV.str s) [] false), (.str v0), (.int .i64 p), (.int .i64 (List.length s : Int)), (.int .i64 t_9)], [])) q2)
noncomputable def slices_Index_string_string_B (s : List Str) (v0 : Str) : Option Int :=
  bnd (tloop (slices_Index_string_string_l1T s v0) 0) fun e10_2 => elim e10_2
  (fun p10 =>
   some (-1))
  (fun t_8 =>
  some t_8)
def slices_Index_string_string_ds : Decs := { decs := [(14, (.ref .str))], ups := [], loops := [(2, ⟨[(.sl false), .str, (.int .i64), (.int .i64), (.int .i64)], [], [(some 0, [(.sl false), .str, (.int .i64), (.int .i64), (.int .i64)], []), (none, [(.sl false), .str, (.int .i64), (.int .i64), (.int .i64)], [])]⟩)] }
set_option maxRecDepth 100000 in
theorem slices_Index_string_string_t1 (O : Orc) (LP : LBody → LBody) (s : List Str) (v0 : Str) : evalBodyD Try.prog (MT 51) slices_Index_string_string_ds Try.f51.ntmps O LP Try.f51 [(.slice (List.map PV.str s) [] false), (.str v0)] [] = slices_Index_string_string_T1 O LP s v0 := by kernel_rfl
theorem slices_Index_string_string_l1_ok (s : List Str) (v0 : Str) : ∀ st l u, slices_Index_string_string_l1R s v0 st l u → Imp (slices_Index_string_string_l1T s v0 st) (slices_Index_string_string_l1 O loopLim l u) (StepR (slices_Index_string_string_l1R s v0) (slices_Index_string_string_l1X s v0)) := by
  rintro t_4 l u ⟨rfl, rfl⟩
  simp only [slices_Index_string_string_l1T, slices_Index_string_string_l1]
  refine Imp.chk rfl (Imp.chk rfl ?_)
  try simp only [evs, tys]
  refine Imp.cnd ?_ ?_
  · refine Imp.op (f := fun a => .ref (PV.str a)) (fun a h => op_ix (enc := PV.str) (by first | rfl | simp only [evs, tys, evl]) ⟨by first | rfl | simp only [evs, tys, evc], by decide⟩ h) (fun a => rfl) fun y6 hy6 => ?_
    try simp only [evs, tys]
    refine Imp.cnd ?_ ?_
    · exact Imp.some (StepR.ret ⟨t_4, by first | rfl | simp only [evs, tys, evl, elim_inl, elim_inr]⟩)
    · exact Imp.some (StepR.next ⟨by first | rfl | simp only [evs, tys, evl], rfl⟩)
  · exact Imp.some (StepR.brk ⟨t_4, by first | rfl | simp only [evs, tys, evl, elim_inl, elim_inr]⟩)
theorem slices_Index_string_string_imp (s : List Str) (v0 : Str) : Imp (slices_Index_string_string_B s v0) (slices_Index_string_string_T1 O loopLim s v0) (fun r v => v = (slices_Index_string_stringE r, [])) := by
  simp only [slices_Index_string_string_B, slices_Index_string_string_T1]
  try simp only [evs, tys]
  refine Imp.bnd (Imp.loop (slices_Index_string_string_l1_ok s v0) ⟨by first | rfl | simp only [evs, tys, evl], rfl⟩) ?_
  rintro (p | t_8) vy10 hy10
  · try simp only [elim_inl, elim_inr]
    obtain ⟨t_7, rfl⟩ := hy10
    refine Imp.exHit rfl (Imp.chk rfl (Imp.chk rfl ?_))
    try simp only [evs, tys]
    exact Imp.some (by first | rfl | simp only [slices_Index_string_stringE, evs, tys, evl])
  · try simp only [elim_inl, elim_inr]
    obtain ⟨t_9, rfl⟩ := hy10
    refine Imp.exMiss rfl ?_
    refine Imp.exHit rfl (Imp.chk rfl (Imp.chk rfl ?_))
    try simp only [evs, tys]
    exact Imp.some (by first | rfl | simp only [slices_Index_string_stringE, evs, tys, evl])
theorem slices_Index_string_string_run {s : List Str} {v0 : Str} {r : Int} (h : slices_Index_string_string_B s v0 = some r) : slices_Index_string_string s v0 = some r := by
  obtain ⟨v, hv, rfl⟩ := slices_Index_string_string_imp s v0 r h
  exact tO_of (pair_inj slices_Index_string_stringEj) (OL_runD slices_Index_string_string_ds rfl Try.func51 ((slices_Index_string_string_t1 _ _ s v0).trans hv))

def seinekeep_Members_l1 (O : Orc) (LP : LBody → LBody) : LBody := fun s1 s1u => cnd (chkL [(.sl false), (.sl true), (.int .i64)] s1) (cnd (chkU [] s1u)
  (cnd (decide ((intV (gt s1 2)) < (List.length (esV (gt s1 0)) : Int)))
   (bnd (ix 6 (.slice (esV (gt s1 0)) [] false) (.int .i64 (intV (gt s1 2)))) fun x12 => cnd (chk (.ref shMember) x12)
   (bnd (ix 6 (.slice (esV (gt s1 0)) [] false) (.int .i64 (intV (gt s1 2)))) fun x14 => cnd (chk (.ref shMember) x14)
   (callp O 54 [(.agg [(.int .i64 (intV (gt (aggV (refV x14)) 1))), (.int .i64 (intV (gt (aggV (refV x14)) 2))), (.str (strV (gt (aggV (refV x14)) 3))), (.slice (esV (gt (aggV (refV x14)) 4)) [] false), (.slice (esV (gt (aggV (refV x14)) 5)) [] false)])] fun x16 => cnd (chk shValue x16)
   (bnd (apd 6 (.slice (esV (gt s1 1)) [] true) (.slice [(.agg [(.str (strV (gt (aggV (refV x12)) 0))), (.int .i64 (intV (gt (aggV x16) 0))), (.int .i64 (intV (gt (aggV x16) 1))), (.str (strV (gt (aggV x16) 2))), (.slice (esV (gt (aggV x16) 3)) [] false), (.slice (esV (gt (aggV x16) 4)) [] false)])] [] true)) fun x18 => cnd (chk (.sl true) x18)
   (some (.nrm, [(.slice (esV (gt s1 0)) [] false), (.slice (esV x18) [] true), (.int .i64 (IntKind.wrap .i64 ((intV (gt s1 2)) + 1)))], [])) none) none) none) none)
   (some (.brk 0, [(.slice (esV (gt s1 0)) [] false), (.slice (esV (gt s1 1)) [] true), (.int .i64 (intV (gt s1 2)))], []))) none) none
def seinekeep_Members_T1 (O : Orc) (LP : LBody → LBody) (l0 : List GMember) : Option (PV × UP) :=
  bnd (LP (seinekeep_Members_l1 O LP) [(.slice (List.map encMember l0) [] false), (.slice [] [] true), (.int .i64 0)] []) fun y22 =>
  exIs y22.1 (some 0) (cnd (chkL [(.sl false), (.sl true), (.int .i64)] y22.2.1) (cnd (chkU [] y22.2.2)
   (some ((.slice (esV (gt y22.2.1 1)) [] false), [])) none) none)
  (none)
noncomputable def seinekeep_Members_l1T (l0 : List GMember) : ((List GMember) × Int) → Option (((List GMember) × Int) ⊕ ((List GMember)))
  | (out_10, i_11) =>
  cnd (decide (i_11 < (List.length l0 : Int)))
   (bnd (nthI l0 i_11) fun y13 =>
   bnd (nthI l0 i_11) fun y15 =>
   bnd (seinekeep_Value y15.v) fun y17 =>
   bnd (tapp out_10 [(GMember.mk y13.name y17)]) fun y19 =>
   some (.inl (y19, (IntKind.wrap .i64 (i_11 + 1)))))
   (some (.inr out_10))
abbrev seinekeep_Members_l1R (l0 : List GMember) (st : (List GMember) × Int) (l : List PV) (u : UP) : Prop := l = [(.slice (List.map encMember l0) [] false), (.slice (List.map encMember st.1) [] true), (.int .i64 st.2)] ∧ u = []
abbrev seinekeep_Members_l1X (l0 : List GMember) (p : (List GMember)) (r : Ex × List PV × UP) : Prop := (fun (p : (List GMember)) => ∃ (i_21 : Int), r = (Ex.brk 0, [(.slice (List.map encMember l0) [] false), (.slice (List.map encMember p) [] true), (.int .i64 i_21)], [])) p
noncomputable def seinekeep_Members_B (l0 : List GMember) : Option (List GMember) :=
  bnd (tloop (seinekeep_Members_l1T l0) ([], 0)) fun out_20 =>
  some out_20
def seinekeep_Members_ds : Decs := { decs := [(14, (.ref shMember)), (19, (.ref shMember)), (22, shValue), (25, (.sl true))], ups := [], loops := [(3, ⟨[(.sl false), (.sl true), (.int .i64)], [], [(some 0, [(.sl false), (.sl true), (.int .i64)], [])]⟩)] }
set_option maxRecDepth 100000 in
theorem seinekeep_Members_t1 (O : Orc) (LP : LBody → LBody) (l0 : List GMember) : evalBodyD Try.prog (MT 52) seinekeep_Members_ds Try.f52.ntmps O LP Try.f52 [(.slice (List.map encMember l0) [] false)] [] = seinekeep_Members_T1 O LP l0 := by kernel_rfl
theorem seinekeep_Members_l1_ok (l0 : List GMember) : ∀ st l u, seinekeep_Members_l1R l0 st l u → Imp (seinekeep_Members_l1T l0 st) (seinekeep_Members_l1 O loopLim l u) (StepR (seinekeep_Members_l1R l0) (seinekeep_Members_l1X l0)) := by
  rintro ⟨out_10, i_11⟩ l u ⟨rfl, rfl⟩
  simp only [seinekeep_Members_l1T, seinekeep_Members_l1]
  refine Imp.chk rfl (Imp.chk rfl ?_)
  try simp only [evs, tys]
  refine Imp.cnd ?_ ?_
  · refine Imp.op (f := fun a => .ref (encMember a)) (fun a h => op_ix (enc := encMember) (by first | rfl | simp only [evs, tys, evl]) ⟨by first | rfl | simp only [evs, tys, evc], by decide⟩ h) (fun a => chk_GMember a) fun y13 hy13 => ?_
    try simp only [evs, tys]
    refine Imp.op (f := fun a => .ref (encMember a)) (fun a h => op_ix (enc := encMember) (by first | rfl | simp only [evs, tys, evl]) ⟨by first | rfl | simp only [evs, tys, evc], by decide⟩ h) (fun a => chk_GMember a) fun y15 hy15 => ?_
    try simp only [evs, tys]
    refine Imp.call (f := seinekeep_ValueE) rfl (fun a h => by first | exact seinekeep_Value_spec h | simpa only [evs, tys, evl] using seinekeep_Value_spec h) (fun a => by first | rfl | simp only [seinekeep_ValueE, evk, chks]) fun y17 hy17 => ?_
    try simp only [seinekeep_ValueE, evs, tys]
    refine Imp.op (f := fun a => .slice (List.map encMember a) [] true) (fun a h => op_apd (enc := encMember) (by first | rfl | simp only [evs, tys, evl]) (by first | rfl | simp only [evs, tys, evl]) (fun a => by first | rfl | simp only [evs, tys, evc]) h) (fun a => rfl) fun y19 hy19 => ?_
    try simp only [evs, tys]
    exact Imp.some (StepR.next ⟨by first | rfl | simp only [evs, tys, evl], rfl⟩)
  · exact Imp.some (StepR.brk ⟨i_11, by first | rfl | simp only [evs, tys, evl, elim_inl, elim_inr]⟩)
theorem seinekeep_Members_imp (l0 : List GMember) : Imp (seinekeep_Members_B l0) (seinekeep_Members_T1 O loopLim l0) (fun r v => v = (seinekeep_MembersE r, [])) := by
  simp only [seinekeep_Members_B, seinekeep_Members_T1]
  try simp only [evs, tys]
  refine Imp.bnd (Imp.loop (seinekeep_Members_l1_ok l0) ⟨by first | rfl | simp only [evs, tys, evl], rfl⟩) ?_
  rintro out_20 vy22 hy22
  obtain ⟨i_21, rfl⟩ := hy22
  refine Imp.exHit rfl (Imp.chk rfl (Imp.chk rfl ?_))
  try simp only [evs, tys]
  exact Imp.some (by first | rfl | simp only [seinekeep_MembersE, evs, tys, evl])
theorem seinekeep_Members_run {l0 : List GMember} {r : List GMember} (h : seinekeep_Members_B l0 = some r) : seinekeep_Members l0 = some r := by
  obtain ⟨v, hv, rfl⟩ := seinekeep_Members_imp l0 r h
  exact tO_of (pair_inj seinekeep_MembersEj) (OL_runD seinekeep_Members_ds rfl Try.func52 ((seinekeep_Members_t1 _ _ l0).trans hv))

def slices_Index_int_int_l1 (O : Orc) (LP : LBody → LBody) : LBody := fun s1 s1u => cnd (chkL [(.sl false), (.int .i64), (.int .i64), (.int .i64), (.int .i64)] s1) (cnd (chkU [] s1u)
  (cnd (decide ((intV (gt s1 4)) < (intV (gt s1 3))))
   (bnd (ix 1 (.slice (esV (gt s1 0)) [] false) (.int .i64 (intV (gt s1 4)))) fun x5 => cnd (chk (.ref (.int .i64)) x5)
   (cnd ((intV (gt s1 1)) == (intV (refV x5)))
    (some (.ret, [(.slice (esV (gt s1 0)) [] false), (.int .i64 (intV (gt s1 1))), (.int .i64 (intV (gt s1 4))), (.int .i64 (intV (gt s1 3))), (.int .i64 (intV (gt s1 4)))], []))
    (some (.nrm, [(.slice (esV (gt s1 0)) [] false), (.int .i64 (intV (gt s1 1))), (.int .i64 (intV (gt s1 2))), (.int .i64 (intV (gt s1 3))), (.int .i64 (IntKind.wrap .i64 ((intV (gt s1 4)) + 1)))], []))) none)
   (some (.brk 0, [(.slice (esV (gt s1 0)) [] false), (.int .i64 (intV (gt s1 1))), (.int .i64 (intV (gt s1 2))), (.int .i64 (intV (gt s1 3))), (.int .i64 (intV (gt s1 4)))], []))) none) none
def slices_Index_int_int_T1 (O : Orc) (LP : LBody → LBody) (s : List Int) (v0 : Int) : Option (PV × UP) :=
  bnd (LP (slices_Index_int_int_l1 O LP) [(.slice (List.map (PV.int .i64) s) [] false), (.int .i64 v0), (.int .i64 0), (.int .i64 (List.length (List.map (PV.int .i64) s) : Int)), (.int .i64 0)] []) fun y10 =>
  exIs y10.1 (some 0) (cnd (chkL [(.sl false), (.int .i64), (.int .i64), (.int .i64), (.int .i64)] y10.2.1) (cnd (chkU [] y10.2.2)
   (some ((.int .i64 (-1)), [])) none) none)
  (exIs y10.1 none (cnd (chkL [(.sl false), (.int .i64), (.int .i64), (.int .i64), (.int .i64)] y10.2.1) (cnd (chkU [] y10.2.2)
   (some ((.int .i64 (intV (gt y10.2.1 2))), [])) none) none)
  (none))
noncomputable def slices_Index_int_int_l1T (s : List Int) (v0 : Int) : Int → Option (Int ⊕ (Unit ⊕ Int))
  | t_4 =>
  cnd (decide (t_4 < (List.length s : Int)))
   (bnd (nthI s t_4) fun y6 =>
   cnd (v0 == y6)
    (some (.inr (.inr t_4)))
    (some (.inl (IntKind.wrap .i64 (t_4 + 1)))))
   (some (.inr (.inl ())))
abbrev slices_Index_int_int_l1R (s : List Int) (v0 : Int) (st : Int) (l : List PV) (u : UP) : Prop := l = [(.slice (List.map (PV.int .i64) s) [] false), (.int .i64 v0), (.int .i64 0), (.int .i64 (List.length s : Int)), (.int .i64 st)] ∧ u = []
abbrev slices_Index_int_int_l1X (s : List Int) (v0 : Int) (p : Unit ⊕ Int) (r : Ex × List PV × UP) : Prop := elim p (fun (p : Unit) => ∃ (t_7 : Int), r = (Ex.brk 0, [(.slice (List.map (PV.int .i64) s) [] false), (.int .i64 v0), (.int .i64 0), (.int .i64 (List.length s : Int)), (.int .i64 t_7)], [])) (fun q2 => (fun (p : Int) => ∃ (t_9 : Int), r = (Ex.ret, [(.slice (List.map (PV.int .i64) s) [] false), (.int .i64 v0), (.int .i64 p), (.int .i64 (List.length s : Int)), (.int .i64 t_9)], [])) q2)
noncomputable def slices_Index_int_int_B (s : List Int) (v0 : Int) : Option Int :=
  bnd (tloop (slices_Index_int_int_l1T s v0) 0) fun e10_2 => elim e10_2
  (fun p10 =>
   some (-1))
  (fun t_8 =>
  some t_8)
def slices_Index_int_int_ds : Decs := { decs := [(14, (.ref (.int .i64)))], ups := [], loops := [(2, ⟨[(.sl false), (.int .i64), (.int .i64), (.int .i64), (.int .i64)], [], [(some 0, [(.sl false), (.int .i64), (.int .i64), (.int .i64), (.int .i64)], []), (none, [(.sl false), (.int .i64), (.int .i64), (.int .i64), (.int .i64)], [])]⟩)] }
set_option maxRecDepth 100000 in
theorem slices_Index_int_int_t1 (O : Orc) (LP : LBody → LBody) (s : List Int) (v0 : Int) : evalBodyD Try.prog (MT 53) slices_Index_int_int_ds Try.f53.ntmps O LP Try.f53 [(.slice (List.map (PV.int .i64) s) [] false), (.int .i64 v0)] [] = slices_Index_int_int_T1 O LP s v0 := by kernel_rfl
theorem slices_Index_int_int_l1_ok (s : List Int) (v0 : Int) : ∀ st l u, slices_Index_int_int_l1R s v0 st l u → Imp (slices_Index_int_int_l1T s v0 st) (slices_Index_int_int_l1 O loopLim l u) (StepR (slices_Index_int_int_l1R s v0) (slices_Index_int_int_l1X s v0)) := by
  rintro t_4 l u ⟨rfl, rfl⟩
  simp only [slices_Index_int_int_l1T, slices_Index_int_int_l1]
  refine Imp.chk rfl (Imp.chk rfl ?_)
  try simp only [evs, tys]
  refine Imp.cnd ?_ ?_
  · refine Imp.op (f := fun a => .ref ((PV.int .i64) a)) (fun a h => op_ix (enc := (PV.int .i64)) (by first | rfl | simp only [evs, tys, evl]) ⟨by first | rfl | simp only [evs, tys, evc], by decide⟩ h) (fun a => rfl) fun y6 hy6 => ?_
    try simp only [evs, tys]
    refine Imp.cnd ?_ ?_
    · exact Imp.some (StepR.ret ⟨t_4, by first | rfl | simp only [evs, tys, evl, elim_inl, elim_inr]⟩)
    · exact Imp.some (StepR.next ⟨by first | rfl | simp only [evs, tys, evl], rfl⟩)
  · exact Imp.some (StepR.brk ⟨t_4, by first | rfl | simp only [evs, tys, evl, elim_inl, elim_inr]⟩)
theorem slices_Index_int_int_imp (s : List Int) (v0 : Int) : Imp (slices_Index_int_int_B s v0) (slices_Index_int_int_T1 O loopLim s v0) (fun r v => v = (slices_Index_int_intE r, [])) := by
  simp only [slices_Index_int_int_B, slices_Index_int_int_T1]
  try simp only [evs, tys]
  refine Imp.bnd (Imp.loop (slices_Index_int_int_l1_ok s v0) ⟨by first | rfl | simp only [evs, tys, evl], rfl⟩) ?_
  rintro (p | t_8) vy10 hy10
  · try simp only [elim_inl, elim_inr]
    obtain ⟨t_7, rfl⟩ := hy10
    refine Imp.exHit rfl (Imp.chk rfl (Imp.chk rfl ?_))
    try simp only [evs, tys]
    exact Imp.some (by first | rfl | simp only [slices_Index_int_intE, evs, tys, evl])
  · try simp only [elim_inl, elim_inr]
    obtain ⟨t_9, rfl⟩ := hy10
    refine Imp.exMiss rfl ?_
    refine Imp.exHit rfl (Imp.chk rfl (Imp.chk rfl ?_))
    try simp only [evs, tys]
    exact Imp.some (by first | rfl | simp only [slices_Index_int_intE, evs, tys, evl])
theorem slices_Index_int_int_run {s : List Int} {v0 : Int} {r : Int} (h : slices_Index_int_int_B s v0 = some r) : slices_Index_int_int s v0 = some r := by
  obtain ⟨v, hv, rfl⟩ := slices_Index_int_int_imp s v0 r h
  exact tO_of (pair_inj slices_Index_int_intEj) (OL_runD slices_Index_int_int_ds rfl Try.func53 ((slices_Index_int_int_t1 _ _ s v0).trans hv))
end Go.Proofs.Ytigiafabnidggaa

/- Printed by symgen.py: typed functions of this seat, and why they tell what the program does. -/
set_option linter.unusedVariables false
set_option linter.unusedSimpArgs false
open Go Go.Ev Go.Ev.PV
namespace Go.Proofs.Ytigiafabnidggaa
def seinekeep_Value_l1 (O : Orc) (LP : LBody → LBody) : LBody := fun s1 s1u => cnd (chkL [(.ptr 0 1 0), (.ptr 0 2 0), (.sl true), (.int .i64), (.int .i64), (.int .i64), .str, (.sl true), (.sl true), (.int .i64), (.int .i64), .str, (.sl false), (.sl false)] s1) (cnd (chkU [] s1u)
  (cnd (decide ((intV (gt s1 3)) < (List.length (esV (gt s1 12)) : Int)))
   (bnd (ix 5 (.slice (esV (gt s1 12)) [] false) (.int .i64 (intV (gt s1 3)))) fun x10 => cnd (chk (.ref shValue) x10)
   (callp O 54 [(.agg [(.int .i64 (intV (gt (aggV (refV x10)) 0))), (.int .i64 (intV (gt (aggV (refV x10)) 1))), (.str (strV (gt (aggV (refV x10)) 2))), (.slice (esV (gt (aggV (refV x10)) 3)) [] false), (.slice (esV (gt (aggV (refV x10)) 4)) [] false)])] fun x12 => cnd (chk shValue x12)
   (bnd (apd 5 (.slice (esV (gt s1 2)) [] true) (.slice [(.agg [(.int .i64 (intV (gt (aggV x12) 0))), (.int .i64 (intV (gt (aggV x12) 1))), (.str (strV (gt (aggV x12) 2))), (.slice (esV (gt (aggV x12) 3)) [] false), (.slice (esV (gt (aggV x12) 4)) [] false)])] [] true)) fun x14 => cnd (chk (.sl true) x14)
   (some (.nrm, [(.ptr 0 1 0), (.ptr 0 2 0), (.slice (esV x14) [] true), (.int .i64 (IntKind.wrap .i64 ((intV (gt s1 3)) + 1))), (.int .i64 (intV (gt s1 4))), (.int .i64 (intV (gt s1 5))), (.str (strV (gt s1 6))), (.slice (esV (gt s1 7)) [] true), (.slice (esV (gt s1 8)) [] true), (.int .i64 (intV (gt s1 9))), (.int .i64 (intV (gt s1 10))), (.str (strV (gt s1 11))), (.slice (esV (gt s1 12)) [] false), (.slice (esV (gt s1 13)) [] false)], [])) none) none) none)
   (some (.brk 0, [(.ptr 0 1 0), (.ptr 0 2 0), (.slice (esV (gt s1 2)) [] true), (.int .i64 (intV (gt s1 3))), (.int .i64 (intV (gt s1 4))), (.int .i64 (intV (gt s1 5))), (.str (strV (gt s1 6))), (.slice (esV (gt s1 7)) [] true), (.slice (esV (gt s1 8)) [] true), (.int .i64 (intV (gt s1 9))), (.int .i64 (intV (gt s1 10))), (.str (strV (gt s1 11))), (.slice (esV (gt s1 12)) [] false), (.slice (esV (gt s1 13)) [] false)], []))) none) none
def seinekeep_Value_T1 (O : Orc) (LP : LBody → LBody) (v0 : GValue) : Option (PV × UP) :=
  bnd (LP (seinekeep_Value_l1 O LP) [(.ptr 0 1 0), (.ptr 0 2 0), (.slice [] [] true), (.int .i64 0), (.int .i64 0), (.int .i64 0), (.str []), (.slice [] [] true), (.slice [] [] true), (.int .i64 v0.kind), (.int .i64 v0.n), (.str v0.s), (.slice (List.map encValue v0.l) [] false), (.slice (List.map encMember v0.m) [] false)] []) fun y18 =>
  exIs y18.1 (some 0) (cnd (chkL [(.ptr 0 1 0), (.ptr 0 2 0), (.sl true), (.int .i64), (.int .i64), (.int .i64), .str, (.sl true), (.sl true), (.int .i64), (.int .i64), .str, (.sl false), (.sl false)] y18.2.1) (cnd (chkU [] y18.2.2)
   (callp O 52 [(.slice (esV (gt y18.2.1 13)) [] false)] fun x19 => cnd (chk (.sl false) x19)
   (some ((.agg [(.int .i64 (intV (gt y18.2.1 9))), (.int .i64 (intV (gt y18.2.1 10))), (.str (strV (gt y18.2.1 11))), (.slice (esV (gt y18.2.1 2)) [] false), (.slice (esV x19) [] false)]), [])) none) none) none)
  (none)
noncomputable def seinekeep_Value_l1T (v0 : GValue) : ((List GValue) × Int) → Option (((List GValue) × Int) ⊕ ((List GValue)))
  | (l_8, i_9) =>
  cnd (decide (i_9 < (List.length v0.l : Int)))
   (bnd (nthI v0.l i_9) fun y11 =>
   bnd (seinekeep_Value y11) fun y13 =>
   bnd (tapp l_8 [y13]) fun y15 =>
   some (.inl (y15, (IntKind.wrap .i64 (i_9 + 1)))))
   (some (.inr l_8))
abbrev seinekeep_Value_l1R (v0 : GValue) (st : (List GValue) × Int) (l : List PV) (u : UP) : Prop := l = [(.ptr 0 1 0), (.ptr 0 2 0), (.slice (List.map encValue st.1) [] true), (.int .i64 st.2), (.int .i64 0), (.int .i64 0), (.str []), (.slice [] [] true), (.slice [] [] true), (.int .i64 v0.kind), (.int .i64 v0.n), (.str v0.s), (.slice (List.map encValue v0.l) [] false), (.slice (List.map encMember v0.m) [] false)] ∧ u = []
abbrev seinekeep_Value_l1X (v0 : GValue) (p : (List GValue)) (r : Ex × List PV × UP) : Prop := (fun (p : (List GValue)) => ∃ (i_17 : Int), r = (Ex.brk 0, [(.ptr 0 1 0), (.ptr 0 2 0), (.slice (List.map encValue p) [] true), (.int .i64 i_17), (.int .i64 0), (.int .i64 0), (.str []), (.slice [] [] true), (.slice [] [] true), (.int .i64 v0.kind), (.int .i64 v0.n), (.str v0.s), (.slice (List.map encValue v0.l) [] false), (.slice (List.map encMember v0.m) [] false)], [])) p
noncomputable def seinekeep_Value_B (v0 : GValue) : Option GValue :=
  bnd (tloop (seinekeep_Value_l1T v0) ([], 0)) fun l_16 =>
  bnd (seinekeep_Members v0.m) fun y20 =>
  some (GValue.mk v0.kind v0.n v0.s l_16 y20)
def seinekeep_Value_ds : Decs := { decs := [(16, (.ref shValue)), (18, shValue), (20, (.sl true)), (24, (.sl false))], ups := [], loops := [(3, ⟨[(.ptr 0 1 0), (.ptr 0 2 0), (.sl true), (.int .i64), (.int .i64), (.int .i64), .str, (.sl true), (.sl true), (.int .i64), (.int .i64), .str, (.sl false), (.sl false)], [], [(some 0, [(.ptr 0 1 0), (.ptr 0 2 0), (.sl true), (.int .i64), (.int .i64), (.int .i64), .str, (.sl true), (.sl true), (.int .i64), (.int .i64), .str, (.sl false), (.sl false)], [])]⟩)] }
set_option maxRecDepth 100000 in
theorem seinekeep_Value_t1 (O : Orc) (LP : LBody → LBody) (v0 : GValue) : evalBodyD Try.prog (MT 54) seinekeep_Value_ds Try.f54.ntmps O LP Try.f54 [(.agg [(.int .i64 v0.kind), (.int .i64 v0.n), (.str v0.s), (.slice (List.map encValue v0.l) [] false), (.slice (List.map encMember v0.m) [] false)])] [] = seinekeep_Value_T1 O LP v0 := by kernel_rfl
theorem seinekeep_Value_l1_ok (v0 : GValue) : ∀ st l u, seinekeep_Value_l1R v0 st l u → Imp (seinekeep_Value_l1T v0 st) (seinekeep_Value_l1 O loopLim l u) (StepR (seinekeep_Value_l1R v0) (seinekeep_Value_l1X v0)) := by
  rintro ⟨l_8, i_9⟩ l u ⟨rfl, rfl⟩
  simp only [seinekeep_Value_l1T, seinekeep_Value_l1]
  refine Imp.chk rfl (Imp.chk rfl ?_)
  try simp only [evs, tys]
  refine Imp.cnd ?_ ?_
  · refine Imp.op (f := fun a => .ref (encValue a)) (fun a h => op_ix (enc := encValue) (by first | rfl | simp only [evs, tys, evl]) ⟨by first | rfl | simp only [evs, tys, evc], by decide⟩ h) (fun a => chk_GValue a) fun y11 hy11 => ?_
    try simp only [evs, tys]
    refine Imp.call (f := seinekeep_ValueE) rfl (fun a h => by first | exact seinekeep_Value_spec h | simpa only [evs, tys, evl] using seinekeep_Value_spec h) (fun a => by first | rfl | simp only [seinekeep_ValueE, evk, chks]) fun y13 hy13 => ?_
    try simp only [seinekeep_ValueE, evs, tys]
    refine Imp.op (f := fun a => .slice (List.map encValue a) [] true) (fun a h => op_apd (enc := encValue) (by first | rfl | simp only [evs, tys, evl]) (by first | rfl | simp only [evs, tys, evl]) (fun a => by first | rfl | simp only [evs, tys, evc]) h) (fun a => rfl) fun y15 hy15 => ?_
    try simp only [evs, tys]
    exact Imp.some (StepR.next ⟨by first | rfl | simp only [evs, tys, evl], rfl⟩)
  · exact Imp.some (StepR.brk ⟨i_9, by first | rfl | simp only [evs, tys, evl, elim_inl, elim_inr]⟩)
theorem seinekeep_Value_imp (v0 : GValue) : Imp (seinekeep_Value_B v0) (seinekeep_Value_T1 O loopLim v0) (fun r v => v = (seinekeep_ValueE r, [])) := by
  simp only [seinekeep_Value_B, seinekeep_Value_T1]
  try simp only [evs, tys]
  refine Imp.bnd (Imp.loop (seinekeep_Value_l1_ok v0) ⟨by first | rfl | simp only [evs, tys, evl], rfl⟩) ?_
  rintro l_16 vy18 hy18
  obtain ⟨i_17, rfl⟩ := hy18
  refine Imp.exHit rfl (Imp.chk rfl (Imp.chk rfl ?_))
  try simp only [evs, tys]
  refine Imp.call (f := seinekeep_MembersE) rfl (fun a h => by first | exact seinekeep_Members_spec h | simpa only [evs, tys, evl] using seinekeep_Members_spec h) (fun a => by first | rfl | simp only [seinekeep_MembersE, evk, chks]) fun y20 hy20 => ?_
  try simp only [seinekeep_MembersE, evs, tys]
  exact Imp.some (by first | rfl | simp only [seinekeep_ValueE, evs, tys, evl])
theorem seinekeep_Value_run {v0 : GValue} {r : GValue} (h : seinekeep_Value_B v0 = some r) : seinekeep_Value v0 = some r := by
  obtain ⟨v, hv, rfl⟩ := seinekeep_Value_imp v0 r h
  exact tO_of (pair_inj seinekeep_ValueEj) (OL_runD seinekeep_Value_ds rfl Try.func54 ((seinekeep_Value_t1 _ _ v0).trans hv))
end Go.Proofs.Ytigiafabnidggaa



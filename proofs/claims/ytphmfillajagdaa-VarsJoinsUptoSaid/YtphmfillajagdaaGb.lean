import Derived.Test.YtphmfillajagdaaGa
set_option linter.unusedVariables false
set_option linter.unusedSimpArgs false
/- Printed by symgen.py: typed functions of this seat, and why they tell what the program does. -/
set_option linter.unusedVariables false
set_option linter.unusedSimpArgs false
open Go Go.Ev Go.Ev.PV
namespace Go.Proofs.Ytphmfillajagdaa
def seinelaw17_VarsUses_T1 (O : Orc) (LP : LBody → LBody) (d : GDoc) (l0 : List GSel) : Option (PV × UP) :=
  callp O 5 [(.agg [(.slice (List.map encOp d.ops) [] false), (.slice (List.map encFrag d.frags) [] false)])] fun x1 => cnd (chk .bool x1)
  (cnd (!(boolV x1))
   (callp O 6 [] fun x3 => cnd (chk .bool x3)
   (some ((.bool (boolV x3)), [])) none)
   (callp O 5 [(.agg [(.slice [] [] false), (.slice [(.agg [(.str []), (.str []), (.slice [] [] false), (.slice (List.map encSel l0) [] false)])] [] false)])] fun x5 => cnd (chk .bool x5)
   (cnd (!(boolV x5))
    (callp O 6 [] fun x7 => cnd (chk .bool x7)
    (some ((.bool (boolV x7)), [])) none)
    (callp O 8 [(.agg [(.slice (List.map encOp d.ops) [] false), (.slice (List.map encFrag d.frags) [] false)]), (.slice (List.map encSel l0) [] false)] fun x9 => cnd (chk (.sl false) x9)
    (callp O 9 [(.agg [(.slice (List.map encOp d.ops) [] false), (.slice (List.map encFrag d.frags) [] false)]), (.slice (List.map encSel l0) [] false)] fun x11 => cnd (chk (.sl false) x11)
    (callp O 7 [(.slice (esV x9) [] false), (.slice (esV x11) [] false)] fun x13 => cnd (chk .bool x13)
    (cnd (boolV x13)
     (callp O 6 [] fun x15 => cnd (chk .bool x15)
     (some ((.bool (boolV x15)), [])) none)
     (some ((.bool false), []))) none) none) none)) none)) none
noncomputable def seinelaw17_VarsUses_B (d : GDoc) (l0 : List GSel) : Option Bool :=
  bnd (seinelaw7_Light d) fun y2 =>
  cnd (!y2)
   (bnd (seinelaw17_awake) fun y4 =>
   some y4)
   (bnd (seinelaw7_Light (GDoc.mk ([] : List GOp) [(GFrag.mk [] [] ([] : List GDir) l0)])) fun y6 =>
   cnd (!y6)
    (bnd (seinelaw17_awake) fun y8 =>
    some y8)
    (bnd (vars_Uses d l0) fun y10 =>
    bnd (seineref13_Uses d l0) fun y12 =>
    bnd (seinekeep_SameTexts y10 y12) fun y14 =>
    cnd y14
     (bnd (seinelaw17_awake) fun y16 =>
     some y16)
     (some false)))
def seinelaw17_VarsUses_ds : Decs := { decs := [(6, .bool), (13, .bool), (16, .bool), (19, (.sl false)), (22, (.sl false)), (23, .bool), (25, .bool)], ups := [], loops := [] }
set_option maxRecDepth 100000 in
theorem seinelaw17_VarsUses_t1 (O : Orc) (LP : LBody → LBody) (d : GDoc) (l0 : List GSel) : evalBodyD Try.prog (MT 3) seinelaw17_VarsUses_ds Try.f3.ntmps O LP Try.f3 [(.agg [(.slice (List.map encOp d.ops) [] false), (.slice (List.map encFrag d.frags) [] false)]), (.slice (List.map encSel l0) [] false)] [] = seinelaw17_VarsUses_T1 O LP d l0 := by kernel_rfl
theorem seinelaw17_VarsUses_imp (d : GDoc) (l0 : List GSel) : Imp (seinelaw17_VarsUses_B d l0) (seinelaw17_VarsUses_T1 O loopLim d l0) (fun r v => v = (seinelaw17_VarsUsesE r, [])) := by
  simp only [seinelaw17_VarsUses_B, seinelaw17_VarsUses_T1]
  try simp only [evs, tys]
  refine Imp.call (f := seinelaw7_LightE) rfl (fun a h => by first | exact seinelaw7_Light_spec h | simpa only [evs, tys, evl] using seinelaw7_Light_spec h) (fun a => by first | rfl | simp only [seinelaw7_LightE, evk, chks]) fun y2 hy2 => ?_
  try simp only [seinelaw7_LightE, evs, tys]
  refine Imp.cnd ?_ ?_
  · refine Imp.call (f := seinelaw17_awakeE) rfl (fun a h => by first | exact seinelaw17_awake_spec h | simpa only [evs, tys, evl] using seinelaw17_awake_spec h) (fun a => by first | rfl | simp only [seinelaw17_awakeE, evk, chks]) fun y4 hy4 => ?_
    try simp only [seinelaw17_awakeE, evs, tys]
    exact Imp.some (by first | rfl | simp only [seinelaw17_VarsUsesE, evs, tys, evl])
  · refine Imp.call (f := seinelaw7_LightE) rfl (fun a h => by first | exact seinelaw7_Light_spec h | simpa only [evs, tys, evl] using seinelaw7_Light_spec h) (fun a => by first | rfl | simp only [seinelaw7_LightE, evk, chks]) fun y6 hy6 => ?_
    try simp only [seinelaw7_LightE, evs, tys]
    refine Imp.cnd ?_ ?_
    · refine Imp.call (f := seinelaw17_awakeE) rfl (fun a h => by first | exact seinelaw17_awake_spec h | simpa only [evs, tys, evl] using seinelaw17_awake_spec h) (fun a => by first | rfl | simp only [seinelaw17_awakeE, evk, chks]) fun y8 hy8 => ?_
      try simp only [seinelaw17_awakeE, evs, tys]
      exact Imp.some (by first | rfl | simp only [seinelaw17_VarsUsesE, evs, tys, evl])
    · refine Imp.call (f := vars_UsesE) rfl (fun a h => by first | exact vars_Uses_spec h | simpa only [evs, tys, evl] using vars_Uses_spec h) (fun a => by first | rfl | simp only [vars_UsesE, evk, chks]) fun y10 hy10 => ?_
      try simp only [vars_UsesE, evs, tys]
      refine Imp.call (f := seineref13_UsesE) rfl (fun a h => by first | exact seineref13_Uses_spec h | simpa only [evs, tys, evl] using seineref13_Uses_spec h) (fun a => by first | rfl | simp only [seineref13_UsesE, evk, chks]) fun y12 hy12 => ?_
      try simp only [seineref13_UsesE, evs, tys]
      refine Imp.call (f := seinekeep_SameTextsE) rfl (fun a h => by first | exact seinekeep_SameTexts_spec h | simpa only [evs, tys, evl] using seinekeep_SameTexts_spec h) (fun a => by first | rfl | simp only [seinekeep_SameTextsE, evk, chks]) fun y14 hy14 => ?_
      try simp only [seinekeep_SameTextsE, evs, tys]
      refine Imp.cnd ?_ ?_
      · refine Imp.call (f := seinelaw17_awakeE) rfl (fun a h => by first | exact seinelaw17_awake_spec h | simpa only [evs, tys, evl] using seinelaw17_awake_spec h) (fun a => by first | rfl | simp only [seinelaw17_awakeE, evk, chks]) fun y16 hy16 => ?_
        try simp only [seinelaw17_awakeE, evs, tys]
        exact Imp.some (by first | rfl | simp only [seinelaw17_VarsUsesE, evs, tys, evl])
      · exact Imp.some (by first | rfl | simp only [seinelaw17_VarsUsesE, evs, tys, evl])
theorem seinelaw17_VarsUses_run {d : GDoc} {l0 : List GSel} {r : Bool} (h : seinelaw17_VarsUses_B d l0 = some r) : seinelaw17_VarsUses d l0 = some r := by
  obtain ⟨v, hv, rfl⟩ := seinelaw17_VarsUses_imp d l0 r h
  exact tO_of (pair_inj seinelaw17_VarsUsesEj) (OL_runD seinelaw17_VarsUses_ds rfl rfl Try.func3 ((seinelaw17_VarsUses_t1 _ _ d l0).trans hv))

def seinelaw17_VarsJoins_l1 (O : Orc) (LP : LBody → LBody) : LBody := fun s19 s19u => cnd (chkL [.bool, (.sl false), (.sl false), (.sl false), (.int .i64), (.sl false), (.sl false)] s19) (cnd (chkU [] s19u)
  (cnd (decide ((intV (gt s19 4)) < (List.length (esV (gt s19 3)) : Int)))
   (cnd (decide ((intV (gt s19 4)) > 0))
    (bnd (ix 1 (.slice (esV (gt s19 3)) [] false) (.int .i64 (intV (gt s19 4)))) fun x41 => cnd (chk (.ref .str) x41)
    (bnd (ix 1 (.slice (esV (gt s19 3)) [] false) (.int .i64 (IntKind.wrap .i64 ((intV (gt s19 4)) - 1)))) fun x43 => cnd (chk (.ref .str) x43)
    (cnd (Op.bytesLess (strV (refV x41)) (strV (refV x43)) || (strV (refV x41)) == (strV (refV x43)))
     (some (.ret, [(.bool false), (.slice (esV (gt s19 1)) [] false), (.slice (esV (gt s19 2)) [] false), (.slice (esV (gt s19 3)) [] false), (.int .i64 (intV (gt s19 4))), (.slice (esV (gt s19 5)) [] false), (.slice (esV (gt s19 6)) [] false)], []))
     (bnd (ix 1 (.slice (esV (gt s19 3)) [] false) (.int .i64 (intV (gt s19 4)))) fun x45 => cnd (chk (.ref .str) x45)
     (callp O 10 [(.slice (esV (gt s19 1)) [] false), (.str (strV (refV x45)))] fun x47 => cnd (chk .bool x47)
     (cnd (!(boolV x47))
      (bnd (ix 1 (.slice (esV (gt s19 3)) [] false) (.int .i64 (intV (gt s19 4)))) fun x49 => cnd (chk (.ref .str) x49)
      (callp O 10 [(.slice (esV (gt s19 2)) [] false), (.str (strV (refV x49)))] fun x51 => cnd (chk .bool x51)
      (cnd (!(boolV x51))
       (some (.ret, [(.bool false), (.slice (esV (gt s19 1)) [] false), (.slice (esV (gt s19 2)) [] false), (.slice (esV (gt s19 3)) [] false), (.int .i64 (intV (gt s19 4))), (.slice (esV (gt s19 5)) [] false), (.slice (esV (gt s19 6)) [] false)], []))
       (some (.nrm, [(.bool (boolV (gt s19 0))), (.slice (esV (gt s19 1)) [] false), (.slice (esV (gt s19 2)) [] false), (.slice (esV (gt s19 3)) [] false), (.int .i64 (IntKind.wrap .i64 ((intV (gt s19 4)) + 1))), (.slice (esV (gt s19 5)) [] false), (.slice (esV (gt s19 6)) [] false)], []))) none) none)
      (some (.nrm, [(.bool (boolV (gt s19 0))), (.slice (esV (gt s19 1)) [] false), (.slice (esV (gt s19 2)) [] false), (.slice (esV (gt s19 3)) [] false), (.int .i64 (IntKind.wrap .i64 ((intV (gt s19 4)) + 1))), (.slice (esV (gt s19 5)) [] false), (.slice (esV (gt s19 6)) [] false)], []))) none) none)) none) none)
    (bnd (ix 1 (.slice (esV (gt s19 3)) [] false) (.int .i64 (intV (gt s19 4)))) fun x53 => cnd (chk (.ref .str) x53)
    (callp O 10 [(.slice (esV (gt s19 1)) [] false), (.str (strV (refV x53)))] fun x55 => cnd (chk .bool x55)
    (cnd (!(boolV x55))
     (bnd (ix 1 (.slice (esV (gt s19 3)) [] false) (.int .i64 (intV (gt s19 4)))) fun x57 => cnd (chk (.ref .str) x57)
     (callp O 10 [(.slice (esV (gt s19 2)) [] false), (.str (strV (refV x57)))] fun x59 => cnd (chk .bool x59)
     (cnd (!(boolV x59))
      (some (.ret, [(.bool false), (.slice (esV (gt s19 1)) [] false), (.slice (esV (gt s19 2)) [] false), (.slice (esV (gt s19 3)) [] false), (.int .i64 (intV (gt s19 4))), (.slice (esV (gt s19 5)) [] false), (.slice (esV (gt s19 6)) [] false)], []))
      (some (.nrm, [(.bool (boolV (gt s19 0))), (.slice (esV (gt s19 1)) [] false), (.slice (esV (gt s19 2)) [] false), (.slice (esV (gt s19 3)) [] false), (.int .i64 (IntKind.wrap .i64 ((intV (gt s19 4)) + 1))), (.slice (esV (gt s19 5)) [] false), (.slice (esV (gt s19 6)) [] false)], []))) none) none)
     (some (.nrm, [(.bool (boolV (gt s19 0))), (.slice (esV (gt s19 1)) [] false), (.slice (esV (gt s19 2)) [] false), (.slice (esV (gt s19 3)) [] false), (.int .i64 (IntKind.wrap .i64 ((intV (gt s19 4)) + 1))), (.slice (esV (gt s19 5)) [] false), (.slice (esV (gt s19 6)) [] false)], []))) none) none))
   (some (.brk 0, [(.bool (boolV (gt s19 0))), (.slice (esV (gt s19 1)) [] false), (.slice (esV (gt s19 2)) [] false), (.slice (esV (gt s19 3)) [] false), (.int .i64 (intV (gt s19 4))), (.slice (esV (gt s19 5)) [] false), (.slice (esV (gt s19 6)) [] false)], []))) none) none
def seinelaw17_VarsJoins_l2 (O : Orc) (LP : LBody → LBody) : LBody := fun s64 s64u => cnd (chkL [(.sl false), (.sl false), (.sl false), (.int .i64), (.int .i64), (.sl false), (.sl false)] s64) (cnd (chkU [] s64u)
  (cnd (decide ((intV (gt s64 4)) < (List.length (esV (gt s64 1)) : Int)))
   (bnd (ix 1 (.slice (esV (gt s64 1)) [] false) (.int .i64 (intV (gt s64 4)))) fun x71 => cnd (chk (.ref .str) x71)
   (callp O 10 [(.slice (esV (gt s64 0)) [] false), (.str (strV (refV x71)))] fun x73 => cnd (chk .bool x73)
   (cnd (!(boolV x73))
    (some (.nrm, [(.slice (esV (gt s64 0)) [] false), (.slice (esV (gt s64 1)) [] false), (.slice (esV (gt s64 2)) [] false), (.int .i64 (IntKind.wrap .i64 ((intV (gt s64 3)) + 1))), (.int .i64 (IntKind.wrap .i64 ((intV (gt s64 4)) + 1))), (.slice (esV (gt s64 5)) [] false), (.slice (esV (gt s64 6)) [] false)], []))
    (some (.nrm, [(.slice (esV (gt s64 0)) [] false), (.slice (esV (gt s64 1)) [] false), (.slice (esV (gt s64 2)) [] false), (.int .i64 (intV (gt s64 3))), (.int .i64 (IntKind.wrap .i64 ((intV (gt s64 4)) + 1))), (.slice (esV (gt s64 5)) [] false), (.slice (esV (gt s64 6)) [] false)], []))) none) none)
   (some (.brk 2, [(.slice (esV (gt s64 0)) [] false), (.slice (esV (gt s64 1)) [] false), (.slice (esV (gt s64 2)) [] false), (.int .i64 (intV (gt s64 3))), (.int .i64 (intV (gt s64 4))), (.slice (esV (gt s64 5)) [] false), (.slice (esV (gt s64 6)) [] false)], []))) none) none
def seinelaw17_VarsJoins_T1 (O : Orc) (LP : LBody → LBody) (d : GDoc) (l0 : List GSel) (m : List GSel) : Option (PV × UP) :=
  callp O 5 [(.agg [(.slice (List.map encOp d.ops) [] false), (.slice (List.map encFrag d.frags) [] false)])] fun x1 => cnd (chk .bool x1)
  (cnd (!(boolV x1))
   (callp O 6 [] fun x3 => cnd (chk .bool x3)
   (some ((.bool (boolV x3)), [])) none)
   (callp O 5 [(.agg [(.slice [] [] false), (.slice [(.agg [(.str []), (.str []), (.slice [] [] false), (.slice (List.map encSel l0) [] false)]), (.agg [(.str []), (.str []), (.slice [] [] false), (.slice (List.map encSel m) [] false)])] [] false)])] fun x5 => cnd (chk .bool x5)
   (cnd (!(boolV x5))
    (callp O 6 [] fun x7 => cnd (chk .bool x7)
    (some ((.bool (boolV x7)), [])) none)
    (callp O 8 [(.agg [(.slice (List.map encOp d.ops) [] false), (.slice (List.map encFrag d.frags) [] false)]), (.slice (List.map encSel l0) [] false)] fun x9 => cnd (chk (.sl false) x9)
    (callp O 8 [(.agg [(.slice (List.map encOp d.ops) [] false), (.slice (List.map encFrag d.frags) [] false)]), (.slice (List.map encSel m) [] false)] fun x11 => cnd (chk (.sl false) x11)
    (bnd (apd 7 (.slice [] [] true) (.slice (List.map encSel l0) [] false)) fun x13 => cnd (chk (.sl true) x13)
    (bnd (apd 7 (.slice (esV x13) [] true) (.slice (List.map encSel m) [] false)) fun x15 => cnd (chk (.sl true) x15)
    (callp O 8 [(.agg [(.slice (List.map encOp d.ops) [] false), (.slice (List.map encFrag d.frags) [] false)]), (.slice (esV x15) [] false)] fun x17 => cnd (chk (.sl false) x17)
    (bnd (LP (seinelaw17_VarsJoins_l1 O LP) [(.bool false), (.slice (esV x9) [] false), (.slice (esV x11) [] false), (.slice (esV x17) [] false), (.int .i64 0), (.slice (List.map encOp d.ops) [] false), (.slice (List.map encFrag d.frags) [] false)] []) fun y63 =>
    exIs y63.1 (some 0) (cnd (chkL [.bool, (.sl false), (.sl false), (.sl false), (.int .i64), (.sl false), (.sl false)] y63.2.1) (cnd (chkU [] y63.2.2)
     (bnd (LP (seinelaw17_VarsJoins_l2 O LP) [(.slice (esV (gt y63.2.1 1)) [] false), (.slice (esV (gt y63.2.1 2)) [] false), (.slice (esV (gt y63.2.1 3)) [] false), (.int .i64 0), (.int .i64 0), (.slice (esV (gt y63.2.1 5)) [] false), (.slice (esV (gt y63.2.1 6)) [] false)] []) fun y77 =>
     exIs y77.1 (some 2) (cnd (chkL [(.sl false), (.sl false), (.sl false), (.int .i64), (.int .i64), (.sl false), (.sl false)] y77.2.1) (cnd (chkU [] y77.2.2)
      (cnd ((List.length (esV (gt y77.2.1 2)) : Int) == (IntKind.wrap .i64 ((List.length (esV (gt y77.2.1 0)) : Int) + (intV (gt y77.2.1 3)))))
       (callp O 6 [] fun x78 => cnd (chk .bool x78)
       (some ((.bool (boolV x78)), [])) none)
       (some ((.bool false), []))) none) none)
     (none)) none) none)
    (exIs y63.1 none (cnd (chkL [.bool, (.sl false), (.sl false), (.sl false), (.int .i64), (.sl false), (.sl false)] y63.2.1) (cnd (chkU [] y63.2.2)
     (some ((.bool (boolV (gt y63.2.1 0))), [])) none) none)
    (none))) none) none) none) none) none)) none)) none
noncomputable def seinelaw17_VarsJoins_l1T (y10 : List Str) (y12 : List Str) (y18 : List Str) : Int → Option (Int ⊕ (Unit ⊕ Unit))
  | i_40 =>
  cnd (decide (i_40 < (List.length y18 : Int)))
   (cnd (decide (i_40 > 0))
    (bnd (nthI y18 i_40) fun y42 =>
    bnd (nthI y18 (IntKind.wrap .i64 (i_40 - 1))) fun y44 =>
    cnd (Op.bytesLess y42 y44 || y42 == y44)
     (some (.inr (.inr ())))
     (bnd (nthI y18 i_40) fun y46 =>
     bnd (seineref1_Has y10 y46) fun y48 =>
     cnd (!y48)
      (bnd (nthI y18 i_40) fun y50 =>
      bnd (seineref1_Has y12 y50) fun y52 =>
      cnd (!y52)
       (some (.inr (.inr ())))
       (some (.inl (IntKind.wrap .i64 (i_40 + 1)))))
      (some (.inl (IntKind.wrap .i64 (i_40 + 1))))))
    (bnd (nthI y18 i_40) fun y54 =>
    bnd (seineref1_Has y10 y54) fun y56 =>
    cnd (!y56)
     (bnd (nthI y18 i_40) fun y58 =>
     bnd (seineref1_Has y12 y58) fun y60 =>
     cnd (!y60)
      (some (.inr (.inr ())))
      (some (.inl (IntKind.wrap .i64 (i_40 + 1)))))
     (some (.inl (IntKind.wrap .i64 (i_40 + 1))))))
   (some (.inr (.inl ())))
abbrev seinelaw17_VarsJoins_l1R (d : GDoc) (y10 : List Str) (y12 : List Str) (y18 : List Str) (st : Int) (l : List PV) (u : UP) : Prop := l = [(.bool false), (.slice (List.map PV.str y10) [] false), (.slice (List.map PV.str y12) [] false), (.slice (List.map PV.str y18) [] false), (.int .i64 st), (.slice (List.map encOp d.ops) [] false), (.slice (List.map encFrag d.frags) [] false)] ∧ u = []
abbrev seinelaw17_VarsJoins_l1X (d : GDoc) (y10 : List Str) (y12 : List Str) (y18 : List Str) (p : Unit ⊕ Unit) (r : Ex × List PV × UP) : Prop := elim p (fun (p : Unit) => ∃ (i_61 : Int), r = (Ex.brk 0, [(.bool false), (.slice (List.map PV.str y10) [] false), (.slice (List.map PV.str y12) [] false), (.slice (List.map PV.str y18) [] false), (.int .i64 i_61), (.slice (List.map encOp d.ops) [] false), (.slice (List.map encFrag d.frags) [] false)], [])) (fun q2 => (fun (p : Unit) => ∃ (i_62 : Int), r = (Ex.ret, [(.bool false), (.slice (List.map PV.str y10) [] false), (.slice (List.map PV.str y12) [] false), (.slice (List.map PV.str y18) [] false), (.int .i64 i_62), (.slice (List.map encOp d.ops) [] false), (.slice (List.map encFrag d.frags) [] false)], [])) q2)
noncomputable def seinelaw17_VarsJoins_l2T (y10 : List Str) (y12 : List Str) : (Int × Int) → Option ((Int × Int) ⊕ Int)
  | (n_69, i_70) =>
  cnd (decide (i_70 < (List.length y12 : Int)))
   (bnd (nthI y12 i_70) fun y72 =>
   bnd (seineref1_Has y10 y72) fun y74 =>
   cnd (!y74)
    (some (.inl ((IntKind.wrap .i64 (n_69 + 1)), (IntKind.wrap .i64 (i_70 + 1)))))
    (some (.inl (n_69, (IntKind.wrap .i64 (i_70 + 1))))))
   (some (.inr n_69))
abbrev seinelaw17_VarsJoins_l2R (d : GDoc) (y10 : List Str) (y12 : List Str) (y18 : List Str) (st : Int × Int) (l : List PV) (u : UP) : Prop := l = [(.slice (List.map PV.str y10) [] false), (.slice (List.map PV.str y12) [] false), (.slice (List.map PV.str y18) [] false), (.int .i64 st.1), (.int .i64 st.2), (.slice (List.map encOp d.ops) [] false), (.slice (List.map encFrag d.frags) [] false)] ∧ u = []
abbrev seinelaw17_VarsJoins_l2X (d : GDoc) (y10 : List Str) (y12 : List Str) (y18 : List Str) (p : Int) (r : Ex × List PV × UP) : Prop := (fun (p : Int) => ∃ (i_76 : Int), r = (Ex.brk 2, [(.slice (List.map PV.str y10) [] false), (.slice (List.map PV.str y12) [] false), (.slice (List.map PV.str y18) [] false), (.int .i64 p), (.int .i64 i_76), (.slice (List.map encOp d.ops) [] false), (.slice (List.map encFrag d.frags) [] false)], [])) p
noncomputable def seinelaw17_VarsJoins_B (d : GDoc) (l0 : List GSel) (m : List GSel) : Option Bool :=
  bnd (seinelaw7_Light d) fun y2 =>
  cnd (!y2)
   (bnd (seinelaw17_awake) fun y4 =>
   some y4)
   (bnd (seinelaw7_Light (GDoc.mk ([] : List GOp) [(GFrag.mk [] [] ([] : List GDir) l0), (GFrag.mk [] [] ([] : List GDir) m)])) fun y6 =>
   cnd (!y6)
    (bnd (seinelaw17_awake) fun y8 =>
    some y8)
    (bnd (vars_Uses d l0) fun y10 =>
    bnd (vars_Uses d m) fun y12 =>
    bnd (tapp ([] : List GSel) l0) fun y14 =>
    bnd (tapp y14 m) fun y16 =>
    bnd (vars_Uses d y16) fun y18 =>
    bnd (tloop (seinelaw17_VarsJoins_l1T y10 y12 y18) 0) fun e63_2 => elim e63_2
    (fun p63 =>
     bnd (tloop (seinelaw17_VarsJoins_l2T y10 y12) (0, 0)) fun n_75 =>
     cnd ((List.length y18 : Int) == (IntKind.wrap .i64 ((List.length y10 : Int) + n_75)))
      (bnd (seinelaw17_awake) fun y79 =>
      some y79)
      (some false))
    (fun p63 =>
    some false)))
def seinelaw17_VarsJoins_ds : Decs := { decs := [(14, .bool), (23, .bool), (26, .bool), (29, (.sl false)), (32, (.sl false)), (35, (.sl true)), (37, (.sl true)), (38, (.sl false)), (50, (.ref .str)), (55, (.ref .str)), (63, (.ref .str)), (65, .bool), (71, (.ref .str)), (73, .bool), (86, (.ref .str)), (88, .bool), (100, .bool)], ups := [], loops := [(6, [(3, 2)], ⟨[.bool, (.sl false), (.sl false), (.sl false), (.int .i64), (.sl false), (.sl false)], [], [(some 0, [.bool, (.sl false), (.sl false), (.sl false), (.int .i64), (.sl false), (.sl false)], []), (none, [.bool, (.sl false), (.sl false), (.sl false), (.int .i64), (.sl false), (.sl false)], [])]⟩), (12, [(3, 2)], ⟨[(.sl false), (.sl false), (.sl false), (.int .i64), (.int .i64), (.sl false), (.sl false)], [], [(some 2, [(.sl false), (.sl false), (.sl false), (.int .i64), (.int .i64), (.sl false), (.sl false)], [])]⟩)] }
set_option maxRecDepth 100000 in
theorem seinelaw17_VarsJoins_t1 (O : Orc) (LP : LBody → LBody) (d : GDoc) (l0 : List GSel) (m : List GSel) : evalBodyD Try.prog (MT 4) seinelaw17_VarsJoins_ds Try.f4.ntmps O LP Try.f4 [(.agg [(.slice (List.map encOp d.ops) [] false), (.slice (List.map encFrag d.frags) [] false)]), (.slice (List.map encSel l0) [] false), (.slice (List.map encSel m) [] false)] [] = seinelaw17_VarsJoins_T1 O LP d l0 m := by kernel_rfl
theorem seinelaw17_VarsJoins_l1_ok (d : GDoc) (y10 : List Str) (y12 : List Str) (y18 : List Str) : ∀ st l u, seinelaw17_VarsJoins_l1R d y10 y12 y18 st l u → Imp (seinelaw17_VarsJoins_l1T y10 y12 y18 st) (seinelaw17_VarsJoins_l1 O loopLim l u) (StepR (seinelaw17_VarsJoins_l1R d y10 y12 y18) (seinelaw17_VarsJoins_l1X d y10 y12 y18)) := by
  rintro i_40 l u ⟨rfl, rfl⟩
  simp only [seinelaw17_VarsJoins_l1T, seinelaw17_VarsJoins_l1]
  refine Imp.chk rfl (Imp.chk rfl ?_)
  try simp only [evs, tys]
  refine Imp.cnd ?_ ?_
  · refine Imp.cnd ?_ ?_
    · refine Imp.op (f := fun a => .ref (PV.str a)) (fun a h => op_ix (enc := PV.str) (by first | rfl | simp only [evs, tys, evl]) ⟨by first | rfl | simp only [evs, tys, evc], by decide⟩ h) (fun a => rfl) fun y42 hy42 => ?_
      try simp only [evs, tys]
      refine Imp.op (f := fun a => .ref (PV.str a)) (fun a h => op_ix (enc := PV.str) (by first | rfl | simp only [evs, tys, evl]) ⟨by first | rfl | simp only [evs, tys, evc], by decide⟩ h) (fun a => rfl) fun y44 hy44 => ?_
      try simp only [evs, tys]
      refine Imp.cnd ?_ ?_
      · exact Imp.some (StepR.ret ⟨i_40, by first | rfl | simp only [evs, tys, evl, elim_inl, elim_inr]⟩)
      · refine Imp.op (f := fun a => .ref (PV.str a)) (fun a h => op_ix (enc := PV.str) (by first | rfl | simp only [evs, tys, evl]) ⟨by first | rfl | simp only [evs, tys, evc], by decide⟩ h) (fun a => rfl) fun y46 hy46 => ?_
        try simp only [evs, tys]
        refine Imp.call (f := seineref1_HasE) rfl (fun a h => by first | exact seineref1_Has_spec h | simpa only [evs, tys, evl] using seineref1_Has_spec h) (fun a => by first | rfl | simp only [seineref1_HasE, evk, chks]) fun y48 hy48 => ?_
        try simp only [seineref1_HasE, evs, tys]
        refine Imp.cnd ?_ ?_
        · refine Imp.op (f := fun a => .ref (PV.str a)) (fun a h => op_ix (enc := PV.str) (by first | rfl | simp only [evs, tys, evl]) ⟨by first | rfl | simp only [evs, tys, evc], by decide⟩ h) (fun a => rfl) fun y50 hy50 => ?_
          try simp only [evs, tys]
          refine Imp.call (f := seineref1_HasE) rfl (fun a h => by first | exact seineref1_Has_spec h | simpa only [evs, tys, evl] using seineref1_Has_spec h) (fun a => by first | rfl | simp only [seineref1_HasE, evk, chks]) fun y52 hy52 => ?_
          try simp only [seineref1_HasE, evs, tys]
          refine Imp.cnd ?_ ?_
          · exact Imp.some (StepR.ret ⟨i_40, by first | rfl | simp only [evs, tys, evl, elim_inl, elim_inr]⟩)
          · exact Imp.some (StepR.next ⟨by first | rfl | simp only [evs, tys, evl], rfl⟩)
        · exact Imp.some (StepR.next ⟨by first | rfl | simp only [evs, tys, evl], rfl⟩)
    · refine Imp.op (f := fun a => .ref (PV.str a)) (fun a h => op_ix (enc := PV.str) (by first | rfl | simp only [evs, tys, evl]) ⟨by first | rfl | simp only [evs, tys, evc], by decide⟩ h) (fun a => rfl) fun y54 hy54 => ?_
      try simp only [evs, tys]
      refine Imp.call (f := seineref1_HasE) rfl (fun a h => by first | exact seineref1_Has_spec h | simpa only [evs, tys, evl] using seineref1_Has_spec h) (fun a => by first | rfl | simp only [seineref1_HasE, evk, chks]) fun y56 hy56 => ?_
      try simp only [seineref1_HasE, evs, tys]
      refine Imp.cnd ?_ ?_
      · refine Imp.op (f := fun a => .ref (PV.str a)) (fun a h => op_ix (enc := PV.str) (by first | rfl | simp only [evs, tys, evl]) ⟨by first | rfl | simp only [evs, tys, evc], by decide⟩ h) (fun a => rfl) fun y58 hy58 => ?_
        try simp only [evs, tys]
        refine Imp.call (f := seineref1_HasE) rfl (fun a h => by first | exact seineref1_Has_spec h | simpa only [evs, tys, evl] using seineref1_Has_spec h) (fun a => by first | rfl | simp only [seineref1_HasE, evk, chks]) fun y60 hy60 => ?_
        try simp only [seineref1_HasE, evs, tys]
        refine Imp.cnd ?_ ?_
        · exact Imp.some (StepR.ret ⟨i_40, by first | rfl | simp only [evs, tys, evl, elim_inl, elim_inr]⟩)
        · exact Imp.some (StepR.next ⟨by first | rfl | simp only [evs, tys, evl], rfl⟩)
      · exact Imp.some (StepR.next ⟨by first | rfl | simp only [evs, tys, evl], rfl⟩)
  · exact Imp.some (StepR.brk ⟨i_40, by first | rfl | simp only [evs, tys, evl, elim_inl, elim_inr]⟩)
theorem seinelaw17_VarsJoins_l2_ok (d : GDoc) (y10 : List Str) (y12 : List Str) (y18 : List Str) : ∀ st l u, seinelaw17_VarsJoins_l2R d y10 y12 y18 st l u → Imp (seinelaw17_VarsJoins_l2T y10 y12 st) (seinelaw17_VarsJoins_l2 O loopLim l u) (StepR (seinelaw17_VarsJoins_l2R d y10 y12 y18) (seinelaw17_VarsJoins_l2X d y10 y12 y18)) := by
  rintro ⟨n_69, i_70⟩ l u ⟨rfl, rfl⟩
  simp only [seinelaw17_VarsJoins_l2T, seinelaw17_VarsJoins_l2]
  refine Imp.chk rfl (Imp.chk rfl ?_)
  try simp only [evs, tys]
  refine Imp.cnd ?_ ?_
  · refine Imp.op (f := fun a => .ref (PV.str a)) (fun a h => op_ix (enc := PV.str) (by first | rfl | simp only [evs, tys, evl]) ⟨by first | rfl | simp only [evs, tys, evc], by decide⟩ h) (fun a => rfl) fun y72 hy72 => ?_
    try simp only [evs, tys]
    refine Imp.call (f := seineref1_HasE) rfl (fun a h => by first | exact seineref1_Has_spec h | simpa only [evs, tys, evl] using seineref1_Has_spec h) (fun a => by first | rfl | simp only [seineref1_HasE, evk, chks]) fun y74 hy74 => ?_
    try simp only [seineref1_HasE, evs, tys]
    refine Imp.cnd ?_ ?_
    · exact Imp.some (StepR.next ⟨by first | rfl | simp only [evs, tys, evl], rfl⟩)
    · exact Imp.some (StepR.next ⟨by first | rfl | simp only [evs, tys, evl], rfl⟩)
  · exact Imp.some (StepR.brk ⟨i_70, by first | rfl | simp only [evs, tys, evl, elim_inl, elim_inr]⟩)
theorem seinelaw17_VarsJoins_imp (d : GDoc) (l0 : List GSel) (m : List GSel) : Imp (seinelaw17_VarsJoins_B d l0 m) (seinelaw17_VarsJoins_T1 O loopLim d l0 m) (fun r v => v = (seinelaw17_VarsJoinsE r, [])) := by
  simp only [seinelaw17_VarsJoins_B, seinelaw17_VarsJoins_T1]
  try simp only [evs, tys]
  refine Imp.call (f := seinelaw7_LightE) rfl (fun a h => by first | exact seinelaw7_Light_spec h | simpa only [evs, tys, evl] using seinelaw7_Light_spec h) (fun a => by first | rfl | simp only [seinelaw7_LightE, evk, chks]) fun y2 hy2 => ?_
  try simp only [seinelaw7_LightE, evs, tys]
  refine Imp.cnd ?_ ?_
  · refine Imp.call (f := seinelaw17_awakeE) rfl (fun a h => by first | exact seinelaw17_awake_spec h | simpa only [evs, tys, evl] using seinelaw17_awake_spec h) (fun a => by first | rfl | simp only [seinelaw17_awakeE, evk, chks]) fun y4 hy4 => ?_
    try simp only [seinelaw17_awakeE, evs, tys]
    exact Imp.some (by first | rfl | simp only [seinelaw17_VarsJoinsE, evs, tys, evl])
  · refine Imp.call (f := seinelaw7_LightE) rfl (fun a h => by first | exact seinelaw7_Light_spec h | simpa only [evs, tys, evl] using seinelaw7_Light_spec h) (fun a => by first | rfl | simp only [seinelaw7_LightE, evk, chks]) fun y6 hy6 => ?_
    try simp only [seinelaw7_LightE, evs, tys]
    refine Imp.cnd ?_ ?_
    · refine Imp.call (f := seinelaw17_awakeE) rfl (fun a h => by first | exact seinelaw17_awake_spec h | simpa only [evs, tys, evl] using seinelaw17_awake_spec h) (fun a => by first | rfl | simp only [seinelaw17_awakeE, evk, chks]) fun y8 hy8 => ?_
      try simp only [seinelaw17_awakeE, evs, tys]
      exact Imp.some (by first | rfl | simp only [seinelaw17_VarsJoinsE, evs, tys, evl])
    · refine Imp.call (f := vars_UsesE) rfl (fun a h => by first | exact vars_Uses_spec h | simpa only [evs, tys, evl] using vars_Uses_spec h) (fun a => by first | rfl | simp only [vars_UsesE, evk, chks]) fun y10 hy10 => ?_
      try simp only [vars_UsesE, evs, tys]
      refine Imp.call (f := vars_UsesE) rfl (fun a h => by first | exact vars_Uses_spec h | simpa only [evs, tys, evl] using vars_Uses_spec h) (fun a => by first | rfl | simp only [vars_UsesE, evk, chks]) fun y12 hy12 => ?_
      try simp only [vars_UsesE, evs, tys]
      refine Imp.op (f := fun a => .slice (List.map encSel a) [] true) (fun a h => op_apd (enc := encSel) (by first | rfl | simp only [evs, tys, evl]) (by first | rfl | simp only [evs, tys, evl]) (fun a => by first | rfl | simp only [evs, tys, evc]) h) (fun a => rfl) fun y14 hy14 => ?_
      try simp only [evs, tys]
      refine Imp.op (f := fun a => .slice (List.map encSel a) [] true) (fun a h => op_apd (enc := encSel) (by first | rfl | simp only [evs, tys, evl]) (by first | rfl | simp only [evs, tys, evl]) (fun a => by first | rfl | simp only [evs, tys, evc]) h) (fun a => rfl) fun y16 hy16 => ?_
      try simp only [evs, tys]
      refine Imp.call (f := vars_UsesE) rfl (fun a h => by first | exact vars_Uses_spec h | simpa only [evs, tys, evl] using vars_Uses_spec h) (fun a => by first | rfl | simp only [vars_UsesE, evk, chks]) fun y18 hy18 => ?_
      try simp only [vars_UsesE, evs, tys]
      refine Imp.bnd (Imp.loop (seinelaw17_VarsJoins_l1_ok d y10 y12 y18) ⟨by first | rfl | simp only [evs, tys, evl], rfl⟩) ?_
      rintro (p | p) vy63 hy63
      · try simp only [elim_inl, elim_inr]
        obtain ⟨i_61, rfl⟩ := hy63
        refine Imp.exHit rfl (Imp.chk rfl (Imp.chk rfl ?_))
        try simp only [evs, tys]
        refine Imp.bnd (Imp.loop (seinelaw17_VarsJoins_l2_ok d y10 y12 y18) ⟨by first | rfl | simp only [evs, tys, evl], rfl⟩) ?_
        rintro n_75 vy77 hy77
        obtain ⟨i_76, rfl⟩ := hy77
        refine Imp.exHit rfl (Imp.chk rfl (Imp.chk rfl ?_))
        try simp only [evs, tys]
        refine Imp.cnd ?_ ?_
        · refine Imp.call (f := seinelaw17_awakeE) rfl (fun a h => by first | exact seinelaw17_awake_spec h | simpa only [evs, tys, evl] using seinelaw17_awake_spec h) (fun a => by first | rfl | simp only [seinelaw17_awakeE, evk, chks]) fun y79 hy79 => ?_
          try simp only [seinelaw17_awakeE, evs, tys]
          exact Imp.some (by first | rfl | simp only [seinelaw17_VarsJoinsE, evs, tys, evl])
        · exact Imp.some (by first | rfl | simp only [seinelaw17_VarsJoinsE, evs, tys, evl])
      · try simp only [elim_inl, elim_inr]
        obtain ⟨i_62, rfl⟩ := hy63
        refine Imp.exMiss rfl ?_
        refine Imp.exHit rfl (Imp.chk rfl (Imp.chk rfl ?_))
        try simp only [evs, tys]
        exact Imp.some (by first | rfl | simp only [seinelaw17_VarsJoinsE, evs, tys, evl])
theorem seinelaw17_VarsJoins_run {d : GDoc} {l0 : List GSel} {m : List GSel} {r : Bool} (h : seinelaw17_VarsJoins_B d l0 m = some r) : seinelaw17_VarsJoins d l0 m = some r := by
  obtain ⟨v, hv, rfl⟩ := seinelaw17_VarsJoins_imp d l0 m r h
  exact tO_of (pair_inj seinelaw17_VarsJoinsEj) (OL_runD seinelaw17_VarsJoins_ds rfl rfl Try.func4 ((seinelaw17_VarsJoins_t1 _ _ d l0 m).trans hv))
end Go.Proofs.Ytphmfillajagdaa

/- Printed by symgen.py: typed functions of this seat, and why they tell what the program does. -/
set_option linter.unusedVariables false
set_option linter.unusedSimpArgs false
open Go Go.Ev Go.Ev.PV
namespace Go.Proofs.Ytphmfillajagdaa
def seinelaw7_Light_l1 (O : Orc) (LP : LBody → LBody) : LBody := fun s54 s54u => cnd (chkL [(.ptr 0 1 0), (.int .i64), (.int .i64), (.int .i64), (.sl false), (.sl false)] s54) (cnd (chkU [] s54u)
  (bnd (ix 5 (.slice (esV (gt s54 4)) [] false) (.int .i64 (intV (gt s54 2)))) fun x69 => cnd (chk (.ref shOp) x69)
  (cnd (decide ((intV (gt s54 3)) < (List.length (esV (gt (aggV (refV x69)) 2)) : Int)))
   (bnd (ix 5 (.slice (esV (gt s54 4)) [] false) (.int .i64 (intV (gt s54 2)))) fun x71 => cnd (chk (.ref shOp) x71)
   (bnd (ix 10 (.slice (esV (gt (aggV (refV x71)) 2)) [] false) (.int .i64 (intV (gt s54 3)))) fun x73 => cnd (chk (.ref shVarDef) x73)
   (callp O 13 [(.agg [(.int .i64 (intV (gt (aggV (refV x73)) 5))), (.int .i64 (intV (gt (aggV (refV x73)) 6))), (.str (strV (gt (aggV (refV x73)) 7))), (.slice (esV (gt (aggV (refV x73)) 8)) [] false), (.slice (esV (gt (aggV (refV x73)) 9)) [] false)])] fun x75 => cnd (chk (.int .i64) x75)
   (bnd (ix 5 (.slice (esV (gt s54 4)) [] false) (.int .i64 (intV (gt s54 2)))) fun x77 => cnd (chk (.ref shOp) x77)
   (bnd (ix 10 (.slice (esV (gt (aggV (refV x77)) 2)) [] false) (.int .i64 (intV (gt s54 3)))) fun x79 => cnd (chk (.ref shVarDef) x79)
   (some (.nrm, [(.ptr 0 1 0), (.int .i64 (IntKind.wrap .i64 ((IntKind.wrap .i64 ((IntKind.wrap .i64 ((intV (gt s54 1)) + 1)) + (intV x75))) + (List.length (strV (gt (aggV (refV x79)) 0)) : Int)))), (.int .i64 (intV (gt s54 2))), (.int .i64 (IntKind.wrap .i64 ((intV (gt s54 3)) + 1))), (.slice (esV (gt s54 4)) [] false), (.slice (esV (gt s54 5)) [] false)], [])) none) none) none) none) none)
   (some (.brk 2, [(.ptr 0 1 0), (.int .i64 (intV (gt s54 1))), (.int .i64 (intV (gt s54 2))), (.int .i64 (intV (gt s54 3))), (.slice (esV (gt s54 4)) [] false), (.slice (esV (gt s54 5)) [] false)], []))) none) none) none
def seinelaw7_Light_l2 (O : Orc) (LP : LBody → LBody) : LBody := fun s1 s1u => cnd (chkL [(.ptr 0 1 0), (.int .i64), (.int .i64), (.sl false), (.sl false)] s1) (cnd (chkU [] s1u)
  (cnd (decide ((intV (gt s1 2)) < (List.length (esV (gt s1 3)) : Int)))
   (bnd (ix 5 (.slice (esV (gt s1 3)) [] false) (.int .i64 (intV (gt s1 2)))) fun x44 => cnd (chk (.ref shOp) x44)
   (callp O 11 [(.slice (esV (gt (aggV (refV x44)) 3)) [] false)] fun x46 => cnd (chk (.int .i64) x46)
   (bnd (ix 5 (.slice (esV (gt s1 3)) [] false) (.int .i64 (intV (gt s1 2)))) fun x48 => cnd (chk (.ref shOp) x48)
   (callp O 12 [(.slice (esV (gt (aggV (refV x48)) 4)) [] false)] fun x50 => cnd (chk (.int .i64) x50)
   (bnd (ix 5 (.slice (esV (gt s1 3)) [] false) (.int .i64 (intV (gt s1 2)))) fun x52 => cnd (chk (.ref shOp) x52)
   (bnd (LP (seinelaw7_Light_l1 O LP) [(.ptr 0 1 0), (.int .i64 (IntKind.wrap .i64 ((IntKind.wrap .i64 ((IntKind.wrap .i64 ((IntKind.wrap .i64 ((intV (gt s1 1)) + 1)) + (intV x46))) + (intV x50))) + (List.length (strV (gt (aggV (refV x52)) 1)) : Int)))), (.int .i64 (intV (gt s1 2))), (.int .i64 0), (.slice (esV (gt s1 3)) [] false), (.slice (esV (gt s1 4)) [] false)] []) fun y83 =>
   exIs y83.1 (some 2) (cnd (chkL [(.ptr 0 1 0), (.int .i64), (.int .i64), (.int .i64), (.sl false), (.sl false)] y83.2.1) (cnd (chkU [] y83.2.2)
    (some (.nrm, [(.ptr 0 1 0), (.int .i64 (intV (gt y83.2.1 1))), (.int .i64 (IntKind.wrap .i64 ((intV (gt y83.2.1 2)) + 1))), (.slice (esV (gt y83.2.1 4)) [] false), (.slice (esV (gt y83.2.1 5)) [] false)], [])) none) none)
   (none)) none) none) none) none) none)
   (some (.brk 0, [(.ptr 0 1 0), (.int .i64 (intV (gt s1 1))), (.int .i64 (intV (gt s1 2))), (.slice (esV (gt s1 3)) [] false), (.slice (esV (gt s1 4)) [] false)], []))) none) none
def seinelaw7_Light_l3 (O : Orc) (LP : LBody → LBody) : LBody := fun s87 s87u => cnd (chkL [(.ptr 0 1 0), (.int .i64), (.int .i64), (.sl false), (.sl false)] s87) (cnd (chkU [] s87u)
  (cnd (decide ((intV (gt s87 2)) < (List.length (esV (gt s87 4)) : Int)))
   (bnd (ix 4 (.slice (esV (gt s87 4)) [] false) (.int .i64 (intV (gt s87 2)))) fun x100 => cnd (chk (.ref shFrag) x100)
   (callp O 11 [(.slice (esV (gt (aggV (refV x100)) 2)) [] false)] fun x102 => cnd (chk (.int .i64) x102)
   (bnd (ix 4 (.slice (esV (gt s87 4)) [] false) (.int .i64 (intV (gt s87 2)))) fun x104 => cnd (chk (.ref shFrag) x104)
   (callp O 12 [(.slice (esV (gt (aggV (refV x104)) 3)) [] false)] fun x106 => cnd (chk (.int .i64) x106)
   (bnd (ix 4 (.slice (esV (gt s87 4)) [] false) (.int .i64 (intV (gt s87 2)))) fun x108 => cnd (chk (.ref shFrag) x108)
   (some (.nrm, [(.ptr 0 1 0), (.int .i64 (IntKind.wrap .i64 ((IntKind.wrap .i64 ((IntKind.wrap .i64 ((IntKind.wrap .i64 ((intV (gt s87 1)) + 1)) + (intV x102))) + (intV x106))) + (List.length (strV (gt (aggV (refV x108)) 0)) : Int)))), (.int .i64 (IntKind.wrap .i64 ((intV (gt s87 2)) + 1))), (.slice (esV (gt s87 3)) [] false), (.slice (esV (gt s87 4)) [] false)], [])) none) none) none) none) none)
   (some (.brk 4, [(.ptr 0 1 0), (.int .i64 (intV (gt s87 1))), (.int .i64 (intV (gt s87 2))), (.slice (esV (gt s87 3)) [] false), (.slice (esV (gt s87 4)) [] false)], []))) none) none
def seinelaw7_Light_T1 (O : Orc) (LP : LBody → LBody) (d : GDoc) : Option (PV × UP) :=
  bnd (LP (seinelaw7_Light_l2 O LP) [(.ptr 0 1 0), (.int .i64 0), (.int .i64 0), (.slice (List.map encOp d.ops) [] false), (.slice (List.map encFrag d.frags) [] false)] []) fun y86 =>
  exIs y86.1 (some 0) (cnd (chkL [(.ptr 0 1 0), (.int .i64), (.int .i64), (.sl false), (.sl false)] y86.2.1) (cnd (chkU [] y86.2.2)
   (bnd (LP (seinelaw7_Light_l3 O LP) [(.ptr 0 1 0), (.int .i64 (intV (gt y86.2.1 1))), (.int .i64 0), (.slice (esV (gt y86.2.1 3)) [] false), (.slice (esV (gt y86.2.1 4)) [] false)] []) fun y112 =>
   exIs y112.1 (some 4) (cnd (chkL [(.ptr 0 1 0), (.int .i64), (.int .i64), (.sl false), (.sl false)] y112.2.1) (cnd (chkU [] y112.2.2)
    (some ((.bool (decide ((intV (gt y112.2.1 1)) ≤ 3200))), [])) none) none)
   (none)) none) none)
  (none)
noncomputable def seinelaw7_Light_l1T (d : GDoc) (i_43 : Int) : (Int × Int) → Option ((Int × Int) ⊕ Int)
  | (n_67, k_68) =>
  bnd (nthI d.ops i_43) fun y70 =>
  cnd (decide (k_68 < (List.length y70.vars : Int)))
   (bnd (nthI d.ops i_43) fun y72 =>
   bnd (nthI y72.vars k_68) fun y74 =>
   bnd (seinekeep_Size y74.default) fun y76 =>
   bnd (nthI d.ops i_43) fun y78 =>
   bnd (nthI y78.vars k_68) fun y80 =>
   some (.inl ((IntKind.wrap .i64 ((IntKind.wrap .i64 ((IntKind.wrap .i64 (n_67 + 1)) + y76)) + (List.length y80.name : Int))), (IntKind.wrap .i64 (k_68 + 1)))))
   (some (.inr n_67))
abbrev seinelaw7_Light_l1R (d : GDoc) (i_43 : Int) (st : Int × Int) (l : List PV) (u : UP) : Prop := l = [(.ptr 0 1 0), (.int .i64 st.1), (.int .i64 i_43), (.int .i64 st.2), (.slice (List.map encOp d.ops) [] false), (.slice (List.map encFrag d.frags) [] false)] ∧ u = []
abbrev seinelaw7_Light_l1X (d : GDoc) (i_43 : Int) (p : Int) (r : Ex × List PV × UP) : Prop := (fun (p : Int) => ∃ (k_82 : Int), r = (Ex.brk 2, [(.ptr 0 1 0), (.int .i64 p), (.int .i64 i_43), (.int .i64 k_82), (.slice (List.map encOp d.ops) [] false), (.slice (List.map encFrag d.frags) [] false)], [])) p
noncomputable def seinelaw7_Light_l2T (d : GDoc) : (Int × Int) → Option ((Int × Int) ⊕ Int)
  | (n_42, i_43) =>
  cnd (decide (i_43 < (List.length d.ops : Int)))
   (bnd (nthI d.ops i_43) fun y45 =>
   bnd (seinelaw7_lightDirs y45.dirs) fun y47 =>
   bnd (nthI d.ops i_43) fun y49 =>
   bnd (seinelaw7_lightSels y49.sels) fun y51 =>
   bnd (nthI d.ops i_43) fun y53 =>
   bnd (tloop (seinelaw7_Light_l1T d i_43) ((IntKind.wrap .i64 ((IntKind.wrap .i64 ((IntKind.wrap .i64 ((IntKind.wrap .i64 (n_42 + 1)) + y47)) + y51)) + (List.length y53.name : Int))), 0)) fun n_81 =>
   some (.inl (n_81, (IntKind.wrap .i64 (i_43 + 1)))))
   (some (.inr n_42))
abbrev seinelaw7_Light_l2R (d : GDoc) (st : Int × Int) (l : List PV) (u : UP) : Prop := l = [(.ptr 0 1 0), (.int .i64 st.1), (.int .i64 st.2), (.slice (List.map encOp d.ops) [] false), (.slice (List.map encFrag d.frags) [] false)] ∧ u = []
abbrev seinelaw7_Light_l2X (d : GDoc) (p : Int) (r : Ex × List PV × UP) : Prop := (fun (p : Int) => ∃ (i_85 : Int), r = (Ex.brk 0, [(.ptr 0 1 0), (.int .i64 p), (.int .i64 i_85), (.slice (List.map encOp d.ops) [] false), (.slice (List.map encFrag d.frags) [] false)], [])) p
noncomputable def seinelaw7_Light_l3T (d : GDoc) : (Int × Int) → Option ((Int × Int) ⊕ Int)
  | (n_98, i_99) =>
  cnd (decide (i_99 < (List.length d.frags : Int)))
   (bnd (nthI d.frags i_99) fun y101 =>
   bnd (seinelaw7_lightDirs y101.dirs) fun y103 =>
   bnd (nthI d.frags i_99) fun y105 =>
   bnd (seinelaw7_lightSels y105.sels) fun y107 =>
   bnd (nthI d.frags i_99) fun y109 =>
   some (.inl ((IntKind.wrap .i64 ((IntKind.wrap .i64 ((IntKind.wrap .i64 ((IntKind.wrap .i64 (n_98 + 1)) + y103)) + y107)) + (List.length y109.name : Int))), (IntKind.wrap .i64 (i_99 + 1)))))
   (some (.inr n_98))
abbrev seinelaw7_Light_l3R (d : GDoc) (st : Int × Int) (l : List PV) (u : UP) : Prop := l = [(.ptr 0 1 0), (.int .i64 st.1), (.int .i64 st.2), (.slice (List.map encOp d.ops) [] false), (.slice (List.map encFrag d.frags) [] false)] ∧ u = []
abbrev seinelaw7_Light_l3X (d : GDoc) (p : Int) (r : Ex × List PV × UP) : Prop := (fun (p : Int) => ∃ (i_111 : Int), r = (Ex.brk 4, [(.ptr 0 1 0), (.int .i64 p), (.int .i64 i_111), (.slice (List.map encOp d.ops) [] false), (.slice (List.map encFrag d.frags) [] false)], [])) p
noncomputable def seinelaw7_Light_B (d : GDoc) : Option Bool :=
  bnd (tloop (seinelaw7_Light_l2T d) (0, 0)) fun n_84 =>
  bnd (tloop (seinelaw7_Light_l3T d) (n_84, 0)) fun n_110 =>
  some (decide (n_110 ≤ 3200))
def seinelaw7_Light_ds : Decs := { decs := [(19, (.ref shOp)), (22, (.int .i64)), (27, (.ref shOp)), (30, (.int .i64)), (35, (.ref shOp)), (44, (.ref shOp)), (56, (.ref shOp)), (60, (.ref shVarDef)), (63, (.int .i64)), (68, (.ref shOp)), (72, (.ref shVarDef)), (89, (.ref shFrag)), (92, (.int .i64)), (97, (.ref shFrag)), (100, (.int .i64)), (105, (.ref shFrag))], ups := [], loops := [(3, [(1, 2)], ⟨[(.ptr 0 1 0), (.int .i64), (.int .i64), (.sl false), (.sl false)], [], [(some 0, [(.ptr 0 1 0), (.int .i64), (.int .i64), (.sl false), (.sl false)], [])]⟩), (7, [(1, 2)], ⟨[(.ptr 0 1 0), (.int .i64), (.int .i64), (.int .i64), (.sl false), (.sl false)], [], [(some 2, [(.ptr 0 1 0), (.int .i64), (.int .i64), (.int .i64), (.sl false), (.sl false)], [])]⟩), (11, [(1, 2)], ⟨[(.ptr 0 1 0), (.int .i64), (.int .i64), (.sl false), (.sl false)], [], [(some 4, [(.ptr 0 1 0), (.int .i64), (.int .i64), (.sl false), (.sl false)], [])]⟩)] }
set_option maxRecDepth 100000 in
theorem seinelaw7_Light_t1 (O : Orc) (LP : LBody → LBody) (d : GDoc) : evalBodyD Try.prog (MT 5) seinelaw7_Light_ds Try.f5.ntmps O LP Try.f5 [(.agg [(.slice (List.map encOp d.ops) [] false), (.slice (List.map encFrag d.frags) [] false)])] [] = seinelaw7_Light_T1 O LP d := by kernel_rfl
theorem seinelaw7_Light_l1_ok (d : GDoc) (i_43 : Int) : ∀ st l u, seinelaw7_Light_l1R d i_43 st l u → Imp (seinelaw7_Light_l1T d i_43 st) (seinelaw7_Light_l1 O loopLim l u) (StepR (seinelaw7_Light_l1R d i_43) (seinelaw7_Light_l1X d i_43)) := by
  rintro ⟨n_67, k_68⟩ l u ⟨rfl, rfl⟩
  simp only [seinelaw7_Light_l1T, seinelaw7_Light_l1]
  refine Imp.chk rfl (Imp.chk rfl ?_)
  try simp only [evs, tys]
  refine Imp.op (f := fun a => .ref (encOp a)) (fun a h => op_ix (enc := encOp) (by first | rfl | simp only [evs, tys, evl]) ⟨by first | rfl | simp only [evs, tys, evc], by decide⟩ h) (fun a => chk_GOp a) fun y70 hy70 => ?_
  try simp only [evs, tys]
  refine Imp.cnd ?_ ?_
  · refine Imp.op (f := fun a => .ref (encOp a)) (fun a h => op_ix (enc := encOp) (by first | rfl | simp only [evs, tys, evl]) ⟨by first | rfl | simp only [evs, tys, evc], by decide⟩ h) (fun a => chk_GOp a) fun y72 hy72 => ?_
    try simp only [evs, tys]
    refine Imp.op (f := fun a => .ref (encVarDef a)) (fun a h => op_ix (enc := encVarDef) (by first | rfl | simp only [evs, tys, evl]) ⟨by first | rfl | simp only [evs, tys, evc], by decide⟩ h) (fun a => chk_GVarDef a) fun y74 hy74 => ?_
    try simp only [evs, tys]
    refine Imp.call (f := seinekeep_SizeE) rfl (fun a h => by first | exact seinekeep_Size_spec h | simpa only [evs, tys, evl] using seinekeep_Size_spec h) (fun a => by first | rfl | simp only [seinekeep_SizeE, evk, chks]) fun y76 hy76 => ?_
    try simp only [seinekeep_SizeE, evs, tys]
    refine Imp.op (f := fun a => .ref (encOp a)) (fun a h => op_ix (enc := encOp) (by first | rfl | simp only [evs, tys, evl]) ⟨by first | rfl | simp only [evs, tys, evc], by decide⟩ h) (fun a => chk_GOp a) fun y78 hy78 => ?_
    try simp only [evs, tys]
    refine Imp.op (f := fun a => .ref (encVarDef a)) (fun a h => op_ix (enc := encVarDef) (by first | rfl | simp only [evs, tys, evl]) ⟨by first | rfl | simp only [evs, tys, evc], by decide⟩ h) (fun a => chk_GVarDef a) fun y80 hy80 => ?_
    try simp only [evs, tys]
    exact Imp.some (StepR.next ⟨by first | rfl | simp only [evs, tys, evl], rfl⟩)
  · exact Imp.some (StepR.brk ⟨k_68, by first | rfl | simp only [evs, tys, evl, elim_inl, elim_inr]⟩)
theorem seinelaw7_Light_l2_ok (d : GDoc) : ∀ st l u, seinelaw7_Light_l2R d st l u → Imp (seinelaw7_Light_l2T d st) (seinelaw7_Light_l2 O loopLim l u) (StepR (seinelaw7_Light_l2R d) (seinelaw7_Light_l2X d)) := by
  rintro ⟨n_42, i_43⟩ l u ⟨rfl, rfl⟩
  simp only [seinelaw7_Light_l2T, seinelaw7_Light_l2]
  refine Imp.chk rfl (Imp.chk rfl ?_)
  try simp only [evs, tys]
  refine Imp.cnd ?_ ?_
  · refine Imp.op (f := fun a => .ref (encOp a)) (fun a h => op_ix (enc := encOp) (by first | rfl | simp only [evs, tys, evl]) ⟨by first | rfl | simp only [evs, tys, evc], by decide⟩ h) (fun a => chk_GOp a) fun y45 hy45 => ?_
    try simp only [evs, tys]
    refine Imp.call (f := seinelaw7_lightDirsE) rfl (fun a h => by first | exact seinelaw7_lightDirs_spec h | simpa only [evs, tys, evl] using seinelaw7_lightDirs_spec h) (fun a => by first | rfl | simp only [seinelaw7_lightDirsE, evk, chks]) fun y47 hy47 => ?_
    try simp only [seinelaw7_lightDirsE, evs, tys]
    refine Imp.op (f := fun a => .ref (encOp a)) (fun a h => op_ix (enc := encOp) (by first | rfl | simp only [evs, tys, evl]) ⟨by first | rfl | simp only [evs, tys, evc], by decide⟩ h) (fun a => chk_GOp a) fun y49 hy49 => ?_
    try simp only [evs, tys]
    refine Imp.call (f := seinelaw7_lightSelsE) rfl (fun a h => by first | exact seinelaw7_lightSels_spec h | simpa only [evs, tys, evl] using seinelaw7_lightSels_spec h) (fun a => by first | rfl | simp only [seinelaw7_lightSelsE, evk, chks]) fun y51 hy51 => ?_
    try simp only [seinelaw7_lightSelsE, evs, tys]
    refine Imp.op (f := fun a => .ref (encOp a)) (fun a h => op_ix (enc := encOp) (by first | rfl | simp only [evs, tys, evl]) ⟨by first | rfl | simp only [evs, tys, evc], by decide⟩ h) (fun a => chk_GOp a) fun y53 hy53 => ?_
    try simp only [evs, tys]
    refine Imp.bnd (Imp.loop (seinelaw7_Light_l1_ok d i_43) ⟨by first | rfl | simp only [evs, tys, evl], rfl⟩) ?_
    rintro n_81 vy83 hy83
    obtain ⟨k_82, rfl⟩ := hy83
    refine Imp.exHit rfl (Imp.chk rfl (Imp.chk rfl ?_))
    try simp only [evs, tys]
    exact Imp.some (StepR.next ⟨by first | rfl | simp only [evs, tys, evl], rfl⟩)
  · exact Imp.some (StepR.brk ⟨i_43, by first | rfl | simp only [evs, tys, evl, elim_inl, elim_inr]⟩)
theorem seinelaw7_Light_l3_ok (d : GDoc) : ∀ st l u, seinelaw7_Light_l3R d st l u → Imp (seinelaw7_Light_l3T d st) (seinelaw7_Light_l3 O loopLim l u) (StepR (seinelaw7_Light_l3R d) (seinelaw7_Light_l3X d)) := by
  rintro ⟨n_98, i_99⟩ l u ⟨rfl, rfl⟩
  simp only [seinelaw7_Light_l3T, seinelaw7_Light_l3]
  refine Imp.chk rfl (Imp.chk rfl ?_)
  try simp only [evs, tys]
  refine Imp.cnd ?_ ?_
  · refine Imp.op (f := fun a => .ref (encFrag a)) (fun a h => op_ix (enc := encFrag) (by first | rfl | simp only [evs, tys, evl]) ⟨by first | rfl | simp only [evs, tys, evc], by decide⟩ h) (fun a => chk_GFrag a) fun y101 hy101 => ?_
    try simp only [evs, tys]
    refine Imp.call (f := seinelaw7_lightDirsE) rfl (fun a h => by first | exact seinelaw7_lightDirs_spec h | simpa only [evs, tys, evl] using seinelaw7_lightDirs_spec h) (fun a => by first | rfl | simp only [seinelaw7_lightDirsE, evk, chks]) fun y103 hy103 => ?_
    try simp only [seinelaw7_lightDirsE, evs, tys]
    refine Imp.op (f := fun a => .ref (encFrag a)) (fun a h => op_ix (enc := encFrag) (by first | rfl | simp only [evs, tys, evl]) ⟨by first | rfl | simp only [evs, tys, evc], by decide⟩ h) (fun a => chk_GFrag a) fun y105 hy105 => ?_
    try simp only [evs, tys]
    refine Imp.call (f := seinelaw7_lightSelsE) rfl (fun a h => by first | exact seinelaw7_lightSels_spec h | simpa only [evs, tys, evl] using seinelaw7_lightSels_spec h) (fun a => by first | rfl | simp only [seinelaw7_lightSelsE, evk, chks]) fun y107 hy107 => ?_
    try simp only [seinelaw7_lightSelsE, evs, tys]
    refine Imp.op (f := fun a => .ref (encFrag a)) (fun a h => op_ix (enc := encFrag) (by first | rfl | simp only [evs, tys, evl]) ⟨by first | rfl | simp only [evs, tys, evc], by decide⟩ h) (fun a => chk_GFrag a) fun y109 hy109 => ?_
    try simp only [evs, tys]
    exact Imp.some (StepR.next ⟨by first | rfl | simp only [evs, tys, evl], rfl⟩)
  · exact Imp.some (StepR.brk ⟨i_99, by first | rfl | simp only [evs, tys, evl, elim_inl, elim_inr]⟩)
theorem seinelaw7_Light_imp (d : GDoc) : Imp (seinelaw7_Light_B d) (seinelaw7_Light_T1 O loopLim d) (fun r v => v = (seinelaw7_LightE r, [])) := by
  simp only [seinelaw7_Light_B, seinelaw7_Light_T1]
  try simp only [evs, tys]
  refine Imp.bnd (Imp.loop (seinelaw7_Light_l2_ok d) ⟨by first | rfl | simp only [evs, tys, evl], rfl⟩) ?_
  rintro n_84 vy86 hy86
  obtain ⟨i_85, rfl⟩ := hy86
  refine Imp.exHit rfl (Imp.chk rfl (Imp.chk rfl ?_))
  try simp only [evs, tys]
  refine Imp.bnd (Imp.loop (seinelaw7_Light_l3_ok d) ⟨by first | rfl | simp only [evs, tys, evl], rfl⟩) ?_
  rintro n_110 vy112 hy112
  obtain ⟨i_111, rfl⟩ := hy112
  refine Imp.exHit rfl (Imp.chk rfl (Imp.chk rfl ?_))
  try simp only [evs, tys]
  exact Imp.some (by first | rfl | simp only [seinelaw7_LightE, evs, tys, evl])
theorem seinelaw7_Light_run {d : GDoc} {r : Bool} (h : seinelaw7_Light_B d = some r) : seinelaw7_Light d = some r := by
  obtain ⟨v, hv, rfl⟩ := seinelaw7_Light_imp d r h
  exact tO_of (pair_inj seinelaw7_LightEj) (OL_runD seinelaw7_Light_ds rfl rfl Try.func5 ((seinelaw7_Light_t1 _ _ d).trans hv))

theorem seinelaw17_awake_run {r : Bool} (n : Nat) (h : evalK Try.prog MT XT n 6 [] [] = some (seinelaw17_awakeE r, [])) : seinelaw17_awake = some r := tO_of (pair_inj seinelaw17_awakeEj) (evalK_OL n h)

def vars_written_l1 (O : Orc) (LP : LBody → LBody) : LBody := fun s28 s28u => cnd (chkL [(.vec 1), (.ptr 0 6 0), (.sl false), (.int .i64), (.int .i64), (.sl false), (.int .i64), (.int .i64), (.int .i64), .str, .str, (.sl false), (.sl false), .str, (.sl false)] s28) (cnd (chkU [] s28u)
  (cnd (decide ((intV (gt s28 7)) < (intV (gt s28 6))))
   (bnd (ix 2 (.slice (esV (gt s28 5)) [] false) (.int .i64 (intV (gt s28 7)))) fun x35 => cnd (chk (.ref shDir) x35)
   (callp O 27 [(.vec 1 (vecV (gt s28 0))), (.slice (esV (gt (aggV (refV x35)) 1)) [] false)] fun x37 => cnd (chk (.vec 1) x37)
   (some (.nrm, [(.vec 1 (vecV x37)), (.ptr 0 6 0), (.slice (esV (gt s28 2)) [] false), (.int .i64 (intV (gt s28 3))), (.int .i64 (intV (gt s28 4))), (.slice (esV (gt s28 5)) [] false), (.int .i64 (intV (gt s28 6))), (.int .i64 (IntKind.wrap .i64 ((intV (gt s28 7)) + 1))), (.int .i64 (intV (gt s28 8))), (.str (strV (gt s28 9))), (.str (strV (gt s28 10))), (.slice (esV (gt s28 11)) [] false), (.slice (esV (gt s28 12)) [] false), (.str (strV (gt s28 13))), (.slice (esV (gt s28 14)) [] false)], [])) none) none)
   (some (.brk 2, [(.vec 1 (vecV (gt s28 0))), (.ptr 0 6 0), (.slice (esV (gt s28 2)) [] false), (.int .i64 (intV (gt s28 3))), (.int .i64 (intV (gt s28 4))), (.slice (esV (gt s28 5)) [] false), (.int .i64 (intV (gt s28 6))), (.int .i64 (intV (gt s28 7))), (.int .i64 (intV (gt s28 8))), (.str (strV (gt s28 9))), (.str (strV (gt s28 10))), (.slice (esV (gt s28 11)) [] false), (.slice (esV (gt s28 12)) [] false), (.str (strV (gt s28 13))), (.slice (esV (gt s28 14)) [] false)], []))) none) none
def vars_written_l2 (O : Orc) (LP : LBody → LBody) : LBody := fun s1 s1u => cnd (chkL [(.vec 1), (.sl false), (.int .i64), (.int .i64)] s1) (cnd (chkU [] s1u)
  (cnd (decide ((intV (gt s1 3)) < (intV (gt s1 2))))
   (bnd (ix 7 (.slice (esV (gt s1 1)) [] false) (.int .i64 (intV (gt s1 3)))) fun x24 => cnd (chk (.ref shSel) x24)
   (callp O 27 [(.vec 1 (vecV (gt s1 0))), (.slice (esV (gt (aggV (refV x24)) 3)) [] false)] fun x26 => cnd (chk (.vec 1) x26)
   (bnd (LP (vars_written_l1 O LP) [(.vec 1 (vecV x26)), (.ptr 0 6 0), (.slice (esV (gt s1 1)) [] false), (.int .i64 (intV (gt s1 2))), (.int .i64 (intV (gt s1 3))), (.slice (esV (gt (aggV (refV x24)) 4)) [] false), (.int .i64 (List.length (esV (gt (aggV (refV x24)) 4)) : Int)), (.int .i64 0), (.int .i64 (intV (gt (aggV (refV x24)) 0))), (.str (strV (gt (aggV (refV x24)) 1))), (.str (strV (gt (aggV (refV x24)) 2))), (.slice (esV (gt (aggV (refV x24)) 3)) [] false), (.slice (esV (gt (aggV (refV x24)) 4)) [] false), (.str (strV (gt (aggV (refV x24)) 5))), (.slice (esV (gt (aggV (refV x24)) 6)) [] false)] []) fun y41 =>
   exIs y41.1 (some 2) (cnd (chkL [(.vec 1), (.ptr 0 6 0), (.sl false), (.int .i64), (.int .i64), (.sl false), (.int .i64), (.int .i64), (.int .i64), .str, .str, (.sl false), (.sl false), .str, (.sl false)] y41.2.1) (cnd (chkU [] y41.2.2)
    (callp O 17 [(.vec 1 (vecV (gt y41.2.1 0))), (.slice (esV (gt y41.2.1 14)) [] false)] fun x42 => cnd (chk (.vec 1) x42)
    (some (.nrm, [(.vec 1 (vecV x42)), (.slice (esV (gt y41.2.1 2)) [] false), (.int .i64 (intV (gt y41.2.1 3))), (.int .i64 (IntKind.wrap .i64 ((intV (gt y41.2.1 4)) + 1)))], [])) none) none) none)
   (none)) none) none)
   (some (.brk 0, [(.vec 1 (vecV (gt s1 0))), (.slice (esV (gt s1 1)) [] false), (.int .i64 (intV (gt s1 2))), (.int .i64 (intV (gt s1 3)))], []))) none) none
def vars_written_T1 (O : Orc) (LP : LBody → LBody) (sels : List GSel) : Option (PV × UP) :=
  bnd (LP (vars_written_l2 O LP) [(.vec 1 []), (.slice (List.map encSel sels) [] false), (.int .i64 (List.length (List.map encSel sels) : Int)), (.int .i64 0)] []) fun y46 =>
  exIs y46.1 (some 0) (cnd (chkL [(.vec 1), (.sl false), (.int .i64), (.int .i64)] y46.2.1) (cnd (chkU [] y46.2.2)
   (some ((.vec 1 (vecV (gt y46.2.1 0))), [])) none) none)
  (none)
noncomputable def vars_written_l1T (y25 : GSel) : ((List Str) × Int) → Option (((List Str) × Int) ⊕ ((List Str)))
  | (l_33, t_34) =>
  cnd (decide (t_34 < (List.length y25.dirs : Int)))
   (bnd (nthI y25.dirs t_34) fun y36 =>
   bnd (vars_of l_33 y36.args) fun y38 =>
   some (.inl (y38, (IntKind.wrap .i64 (t_34 + 1)))))
   (some (.inr l_33))
abbrev vars_written_l1R (sels : List GSel) (t_23 : Int) (y25 : GSel) (st : (List Str) × Int) (l : List PV) (u : UP) : Prop := l = [(.vec 1 (List.map PV.str st.1)), (.ptr 0 6 0), (.slice (List.map encSel sels) [] false), (.int .i64 (List.length sels : Int)), (.int .i64 t_23), (.slice (List.map encDir y25.dirs) [] false), (.int .i64 (List.length y25.dirs : Int)), (.int .i64 st.2), (.int .i64 y25.kind), (.str y25.alias), (.str y25.name), (.slice (List.map encMember y25.args) [] false), (.slice (List.map encDir y25.dirs) [] false), (.str y25.on_), (.slice (List.map encSel y25.sels) [] false)] ∧ u = []
abbrev vars_written_l1X (sels : List GSel) (t_23 : Int) (y25 : GSel) (p : (List Str)) (r : Ex × List PV × UP) : Prop := (fun (p : (List Str)) => ∃ (t_40 : Int), r = (Ex.brk 2, [(.vec 1 (List.map PV.str p)), (.ptr 0 6 0), (.slice (List.map encSel sels) [] false), (.int .i64 (List.length sels : Int)), (.int .i64 t_23), (.slice (List.map encDir y25.dirs) [] false), (.int .i64 (List.length y25.dirs : Int)), (.int .i64 t_40), (.int .i64 y25.kind), (.str y25.alias), (.str y25.name), (.slice (List.map encMember y25.args) [] false), (.slice (List.map encDir y25.dirs) [] false), (.str y25.on_), (.slice (List.map encSel y25.sels) [] false)], [])) p
noncomputable def vars_written_l2T (sels : List GSel) : ((List Str) × Int) → Option (((List Str) × Int) ⊕ ((List Str)))
  | (l_22, t_23) =>
  cnd (decide (t_23 < (List.length sels : Int)))
   (bnd (nthI sels t_23) fun y25 =>
   bnd (vars_of l_22 y25.args) fun y27 =>
   bnd (tloop (vars_written_l1T y25) (y27, 0)) fun l_39 =>
   bnd (vars_written_i1 l_39 y25.sels) fun y43 =>
   some (.inl (y43, (IntKind.wrap .i64 (t_23 + 1)))))
   (some (.inr l_22))
abbrev vars_written_l2R (sels : List GSel) (st : (List Str) × Int) (l : List PV) (u : UP) : Prop := l = [(.vec 1 (List.map PV.str st.1)), (.slice (List.map encSel sels) [] false), (.int .i64 (List.length sels : Int)), (.int .i64 st.2)] ∧ u = []
abbrev vars_written_l2X (sels : List GSel) (p : (List Str)) (r : Ex × List PV × UP) : Prop := (fun (p : (List Str)) => ∃ (t_45 : Int), r = (Ex.brk 0, [(.vec 1 (List.map PV.str p)), (.slice (List.map encSel sels) [] false), (.int .i64 (List.length sels : Int)), (.int .i64 t_45)], [])) p
noncomputable def vars_written_B (sels : List GSel) : Option (List Str) :=
  bnd (tloop (vars_written_l2T sels) ([], 0)) fun l_44 =>
  some l_44
def vars_written_ds : Decs := { decs := [(13, (.ref shSel)), (18, (.vec 1)), (24, (.ref shDir)), (29, (.vec 1)), (34, (.vec 1))], ups := [], loops := [(2, [], ⟨[(.vec 1), (.sl false), (.int .i64), (.int .i64)], [], [(some 0, [(.vec 1), (.sl false), (.int .i64), (.int .i64)], [])]⟩), (6, [(6, 7)], ⟨[(.vec 1), (.ptr 0 6 0), (.sl false), (.int .i64), (.int .i64), (.sl false), (.int .i64), (.int .i64), (.int .i64), .str, .str, (.sl false), (.sl false), .str, (.sl false)], [], [(some 2, [(.vec 1), (.ptr 0 6 0), (.sl false), (.int .i64), (.int .i64), (.sl false), (.int .i64), (.int .i64), (.int .i64), .str, .str, (.sl false), (.sl false), .str, (.sl false)], [])]⟩)] }
set_option maxRecDepth 100000 in
theorem vars_written_t1 (O : Orc) (LP : LBody → LBody) (sels : List GSel) : evalBodyD Try.prog (MT 17) vars_written_ds Try.f17.ntmps O LP Try.f17 [(.slice [] [] true), (.slice (List.map encSel sels) [] false)] [] = vars_written_T1 O LP sels := by kernel_rfl
theorem vars_written_l1_ok (sels : List GSel) (t_23 : Int) (y25 : GSel) : ∀ st l u, vars_written_l1R sels t_23 y25 st l u → Imp (vars_written_l1T y25 st) (vars_written_l1 O loopLim l u) (StepR (vars_written_l1R sels t_23 y25) (vars_written_l1X sels t_23 y25)) := by
  rintro ⟨l_33, t_34⟩ l u ⟨rfl, rfl⟩
  simp only [vars_written_l1T, vars_written_l1]
  refine Imp.chk rfl (Imp.chk rfl ?_)
  try simp only [evs, tys]
  refine Imp.cnd ?_ ?_
  · refine Imp.op (f := fun a => .ref (encDir a)) (fun a h => op_ix (enc := encDir) (by first | rfl | simp only [evs, tys, evl]) ⟨by first | rfl | simp only [evs, tys, evc], by decide⟩ h) (fun a => chk_GDir a) fun y36 hy36 => ?_
    try simp only [evs, tys]
    refine Imp.call (f := vars_ofE) rfl (fun a h => by first | exact vars_of_spec h | simpa only [evs, tys, evl] using vars_of_spec h) (fun a => by first | rfl | simp only [vars_ofE, evk, chks]) fun y38 hy38 => ?_
    try simp only [vars_ofE, evs, tys]
    exact Imp.some (StepR.next ⟨by first | rfl | simp only [evs, tys, evl], rfl⟩)
  · exact Imp.some (StepR.brk ⟨t_34, by first | rfl | simp only [evs, tys, evl, elim_inl, elim_inr]⟩)
theorem vars_written_l2_ok (sels : List GSel) : ∀ st l u, vars_written_l2R sels st l u → Imp (vars_written_l2T sels st) (vars_written_l2 O loopLim l u) (StepR (vars_written_l2R sels) (vars_written_l2X sels)) := by
  rintro ⟨l_22, t_23⟩ l u ⟨rfl, rfl⟩
  simp only [vars_written_l2T, vars_written_l2]
  refine Imp.chk rfl (Imp.chk rfl ?_)
  try simp only [evs, tys]
  refine Imp.cnd ?_ ?_
  · refine Imp.op (f := fun a => .ref (encSel a)) (fun a h => op_ix (enc := encSel) (by first | rfl | simp only [evs, tys, evl]) ⟨by first | rfl | simp only [evs, tys, evc], by decide⟩ h) (fun a => chk_GSel a) fun y25 hy25 => ?_
    try simp only [evs, tys]
    refine Imp.call (f := vars_ofE) rfl (fun a h => by first | exact vars_of_spec h | simpa only [evs, tys, evl] using vars_of_spec h) (fun a => by first | rfl | simp only [vars_ofE, evk, chks]) fun y27 hy27 => ?_
    try simp only [vars_ofE, evs, tys]
    refine Imp.bnd (Imp.loop (vars_written_l1_ok sels t_23 y25) ⟨by first | rfl | simp only [evs, tys, evl], rfl⟩) ?_
    rintro l_39 vy41 hy41
    obtain ⟨t_40, rfl⟩ := hy41
    refine Imp.exHit rfl (Imp.chk rfl (Imp.chk rfl ?_))
    try simp only [evs, tys]
    refine Imp.call (f := vars_written_i1E) rfl (fun a h => by first | exact vars_written_i1_spec h | simpa only [evs, tys, evl] using vars_written_i1_spec h) (fun a => by first | rfl | simp only [vars_written_i1E, evk, chks]) fun y43 hy43 => ?_
    try simp only [vars_written_i1E, evs, tys]
    exact Imp.some (StepR.next ⟨by first | rfl | simp only [evs, tys, evl], rfl⟩)
  · exact Imp.some (StepR.brk ⟨t_23, by first | rfl | simp only [evs, tys, evl, elim_inl, elim_inr]⟩)
theorem vars_written_imp (sels : List GSel) : Imp (vars_written_B sels) (vars_written_T1 O loopLim sels) (fun r v => v = (vars_writtenE r, [])) := by
  simp only [vars_written_B, vars_written_T1]
  try simp only [evs, tys]
  refine Imp.bnd (Imp.loop (vars_written_l2_ok sels) ⟨by first | rfl | simp only [evs, tys, evl], rfl⟩) ?_
  rintro l_44 vy46 hy46
  obtain ⟨t_45, rfl⟩ := hy46
  refine Imp.exHit rfl (Imp.chk rfl (Imp.chk rfl ?_))
  try simp only [evs, tys]
  exact Imp.some (by first | rfl | simp only [vars_writtenE, evs, tys, evl])
theorem vars_written_run {sels : List GSel} {r : List Str} (h : vars_written_B sels = some r) : vars_written sels = some r := by
  obtain ⟨v, hv, rfl⟩ := vars_written_imp sels r h
  exact tO_of (pair_inj vars_writtenEj) (OL_runD vars_written_ds rfl rfl Try.func17 ((vars_written_t1 _ _ sels).trans hv))

def vars_Uses_l1 (O : Orc) (LP : LBody → LBody) : LBody := fun s5 s5u => cnd (chkL [(.ptr 0 2 0), (.vec 1), (.sl false), (.int .i64), (.int .i64), (.sl false), (.sl false)] s5) (cnd (chkU [] s5u)
  (cnd (decide ((intV (gt s5 4)) < (intV (gt s5 3))))
   (bnd (ix 1 (.slice (esV (gt s5 2)) [] false) (.int .i64 (intV (gt s5 4)))) fun x14 => cnd (chk (.ref .str) x14)
   (callp O 19 [(.agg [(.slice (esV (gt s5 5)) [] false), (.slice (esV (gt s5 6)) [] false)]), (.str (strV (refV x14)))] fun x16 => cnd (chk (.tup [shFrag, .bool]) x16)
   (callp O 17 [(.vec 1 (vecV (gt s5 1))), (.slice (esV (gt (aggV (gt (tupV x16) 0)) 3)) [] false)] fun x18 => cnd (chk (.vec 1) x18)
   (some (.nrm, [(.ptr 0 2 0), (.vec 1 (vecV x18)), (.slice (esV (gt s5 2)) [] false), (.int .i64 (intV (gt s5 3))), (.int .i64 (IntKind.wrap .i64 ((intV (gt s5 4)) + 1))), (.slice (esV (gt s5 5)) [] false), (.slice (esV (gt s5 6)) [] false)], [])) none) none) none)
   (some (.brk 0, [(.ptr 0 2 0), (.vec 1 (vecV (gt s5 1))), (.slice (esV (gt s5 2)) [] false), (.int .i64 (intV (gt s5 3))), (.int .i64 (intV (gt s5 4))), (.slice (esV (gt s5 5)) [] false), (.slice (esV (gt s5 6)) [] false)], []))) none) none
def vars_Uses_T1 (O : Orc) (LP : LBody → LBody) (d : GDoc) (l0 : List GSel) : Option (PV × UP) :=
  callp O 17 [(.slice [] [] true), (.slice (List.map encSel l0) [] false)] fun x1 => cnd (chk (.vec 1) x1)
  (callp O 18 [(.agg [(.slice (List.map encOp d.ops) [] false), (.slice (List.map encFrag d.frags) [] false)]), (.slice (List.map encSel l0) [] false)] fun x3 => cnd (chk (.sl false) x3)
  (bnd (LP (vars_Uses_l1 O LP) [(.ptr 0 2 0), (.vec 1 (vecV x1)), (.slice (esV x3) [] false), (.int .i64 (List.length (esV x3) : Int)), (.int .i64 0), (.slice (List.map encOp d.ops) [] false), (.slice (List.map encFrag d.frags) [] false)] []) fun y22 =>
  exIs y22.1 (some 0) (cnd (chkL [(.ptr 0 2 0), (.vec 1), (.sl false), (.int .i64), (.int .i64), (.sl false), (.sl false)] y22.2.1) (cnd (chkU [] y22.2.2)
   (some ((.slice (vecV (gt y22.2.1 1)) [] false), [])) none) none)
  (none)) none) none
noncomputable def vars_Uses_l1T (d : GDoc) (y4 : List Str) : ((List Str) × Int) → Option (((List Str) × Int) ⊕ ((List Str)))
  | (out_12, t_13) =>
  cnd (decide (t_13 < (List.length y4 : Int)))
   (bnd (nthI y4 t_13) fun y15 =>
   bnd (graph_Frag d y15) fun y17 =>
   bnd (vars_written_i1 out_12 y17.1.sels) fun y19 =>
   some (.inl (y19, (IntKind.wrap .i64 (t_13 + 1)))))
   (some (.inr out_12))
abbrev vars_Uses_l1R (d : GDoc) (y4 : List Str) (st : (List Str) × Int) (l : List PV) (u : UP) : Prop := l = [(.ptr 0 2 0), (.vec 1 (List.map PV.str st.1)), (.slice (List.map PV.str y4) [] false), (.int .i64 (List.length y4 : Int)), (.int .i64 st.2), (.slice (List.map encOp d.ops) [] false), (.slice (List.map encFrag d.frags) [] false)] ∧ u = []
abbrev vars_Uses_l1X (d : GDoc) (y4 : List Str) (p : (List Str)) (r : Ex × List PV × UP) : Prop := (fun (p : (List Str)) => ∃ (t_21 : Int), r = (Ex.brk 0, [(.ptr 0 2 0), (.vec 1 (List.map PV.str p)), (.slice (List.map PV.str y4) [] false), (.int .i64 (List.length y4 : Int)), (.int .i64 t_21), (.slice (List.map encOp d.ops) [] false), (.slice (List.map encFrag d.frags) [] false)], [])) p
noncomputable def vars_Uses_B (d : GDoc) (l0 : List GSel) : Option (List Str) :=
  bnd (vars_written l0) fun y2 =>
  bnd (graph_Reach d l0) fun y4 =>
  bnd (tloop (vars_Uses_l1T d y4) (y2, 0)) fun out_20 =>
  some out_20
def vars_Uses_ds : Decs := { decs := [(11, (.vec 1)), (14, (.sl false)), (18, (.ref .str)), (23, (.tup [shFrag, .bool])), (29, (.vec 1))], ups := [], loops := [(3, [(2, 2)], ⟨[(.ptr 0 2 0), (.vec 1), (.sl false), (.int .i64), (.int .i64), (.sl false), (.sl false)], [], [(some 0, [(.ptr 0 2 0), (.vec 1), (.sl false), (.int .i64), (.int .i64), (.sl false), (.sl false)], [])]⟩)] }
set_option maxRecDepth 100000 in
theorem vars_Uses_t1 (O : Orc) (LP : LBody → LBody) (d : GDoc) (l0 : List GSel) : evalBodyD Try.prog (MT 8) vars_Uses_ds Try.f8.ntmps O LP Try.f8 [(.agg [(.slice (List.map encOp d.ops) [] false), (.slice (List.map encFrag d.frags) [] false)]), (.slice (List.map encSel l0) [] false)] [] = vars_Uses_T1 O LP d l0 := by kernel_rfl
theorem vars_Uses_l1_ok (d : GDoc) (y4 : List Str) : ∀ st l u, vars_Uses_l1R d y4 st l u → Imp (vars_Uses_l1T d y4 st) (vars_Uses_l1 O loopLim l u) (StepR (vars_Uses_l1R d y4) (vars_Uses_l1X d y4)) := by
  rintro ⟨out_12, t_13⟩ l u ⟨rfl, rfl⟩
  simp only [vars_Uses_l1T, vars_Uses_l1]
  refine Imp.chk rfl (Imp.chk rfl ?_)
  try simp only [evs, tys]
  refine Imp.cnd ?_ ?_
  · refine Imp.op (f := fun a => .ref (PV.str a)) (fun a h => op_ix (enc := PV.str) (by first | rfl | simp only [evs, tys, evl]) ⟨by first | rfl | simp only [evs, tys, evc], by decide⟩ h) (fun a => rfl) fun y15 hy15 => ?_
    try simp only [evs, tys]
    refine Imp.call (f := graph_FragE) rfl (fun a h => by first | exact graph_Frag_spec h | simpa only [evs, tys, evl] using graph_Frag_spec h) (fun a => by first | rfl | simp only [graph_FragE, evk, chks]) fun y17 hy17 => ?_
    try simp only [graph_FragE, evs, tys]
    refine Imp.call (f := vars_written_i1E) rfl (fun a h => by first | exact vars_written_i1_spec h | simpa only [evs, tys, evl] using vars_written_i1_spec h) (fun a => by first | rfl | simp only [vars_written_i1E, evk, chks]) fun y19 hy19 => ?_
    try simp only [vars_written_i1E, evs, tys]
    exact Imp.some (StepR.next ⟨by first | rfl | simp only [evs, tys, evl], rfl⟩)
  · exact Imp.some (StepR.brk ⟨t_13, by first | rfl | simp only [evs, tys, evl, elim_inl, elim_inr]⟩)
theorem vars_Uses_imp (d : GDoc) (l0 : List GSel) : Imp (vars_Uses_B d l0) (vars_Uses_T1 O loopLim d l0) (fun r v => v = (vars_UsesE r, [])) := by
  simp only [vars_Uses_B, vars_Uses_T1]
  try simp only [evs, tys]
  refine Imp.call (f := vars_writtenE) rfl (fun a h => by first | exact vars_written_spec h | simpa only [evs, tys, evl] using vars_written_spec h) (fun a => by first | rfl | simp only [vars_writtenE, evk, chks]) fun y2 hy2 => ?_
  try simp only [vars_writtenE, evs, tys]
  refine Imp.call (f := graph_ReachE) rfl (fun a h => by first | exact graph_Reach_spec h | simpa only [evs, tys, evl] using graph_Reach_spec h) (fun a => by first | rfl | simp only [graph_ReachE, evk, chks]) fun y4 hy4 => ?_
  try simp only [graph_ReachE, evs, tys]
  refine Imp.bnd (Imp.loop (vars_Uses_l1_ok d y4) ⟨by first | rfl | simp only [evs, tys, evl], rfl⟩) ?_
  rintro out_20 vy22 hy22
  obtain ⟨t_21, rfl⟩ := hy22
  refine Imp.exHit rfl (Imp.chk rfl (Imp.chk rfl ?_))
  try simp only [evs, tys]
  exact Imp.some (by first | rfl | simp only [vars_UsesE, evs, tys, evl])
theorem vars_Uses_run {d : GDoc} {l0 : List GSel} {r : List Str} (h : vars_Uses_B d l0 = some r) : vars_Uses d l0 = some r := by
  obtain ⟨v, hv, rfl⟩ := vars_Uses_imp d l0 r h
  exact tO_of (pair_inj vars_UsesEj) (OL_runD vars_Uses_ds rfl rfl Try.func8 ((vars_Uses_t1 _ _ d l0).trans hv))
end Go.Proofs.Ytphmfillajagdaa

/- Printed by symgen.py: typed functions of this seat, and why they tell what the program does. -/
set_option linter.unusedVariables false
set_option linter.unusedSimpArgs false
open Go Go.Ev Go.Ev.PV
namespace Go.Proofs.Ytphmfillajagdaa
def seineref13_Uses_l1 (O : Orc) (LP : LBody → LBody) : LBody := fun s5 s5u => cnd (chkL [(.ptr 0 2 0), (.sl true), (.sl false), (.int .i64), (.sl false), (.sl false)] s5) (cnd (chkU [] s5u)
  (cnd (decide ((intV (gt s5 3)) < (List.length (esV (gt s5 2)) : Int)))
   (bnd (ix 1 (.slice (esV (gt s5 2)) [] false) (.int .i64 (intV (gt s5 3)))) fun x14 => cnd (chk (.ref .str) x14)
   (callp O 22 [(.agg [(.slice (esV (gt s5 4)) [] false), (.slice (esV (gt s5 5)) [] false)]), (.str (strV (refV x14)))] fun x16 => cnd (chk (.tup [shFrag, .bool]) x16)
   (callp O 20 [(.slice (esV (gt (aggV (gt (tupV x16) 0)) 3)) [] false), (.slice (esV (gt s5 1)) [] true)] fun x18 => cnd (chk (.sl true) x18)
   (some (.nrm, [(.ptr 0 2 0), (.slice (esV x18) [] true), (.slice (esV (gt s5 2)) [] false), (.int .i64 (IntKind.wrap .i64 ((intV (gt s5 3)) + 1))), (.slice (esV (gt s5 4)) [] false), (.slice (esV (gt s5 5)) [] false)], [])) none) none) none)
   (some (.brk 0, [(.ptr 0 2 0), (.slice (esV (gt s5 1)) [] true), (.slice (esV (gt s5 2)) [] false), (.int .i64 (intV (gt s5 3))), (.slice (esV (gt s5 4)) [] false), (.slice (esV (gt s5 5)) [] false)], []))) none) none
def seineref13_Uses_T1 (O : Orc) (LP : LBody → LBody) (d : GDoc) (l0 : List GSel) : Option (PV × UP) :=
  callp O 20 [(.slice (List.map encSel l0) [] false), (.slice [] [] true)] fun x1 => cnd (chk (.sl true) x1)
  (callp O 21 [(.agg [(.slice (List.map encOp d.ops) [] false), (.slice (List.map encFrag d.frags) [] false)]), (.slice (List.map encSel l0) [] false)] fun x3 => cnd (chk (.sl false) x3)
  (bnd (LP (seineref13_Uses_l1 O LP) [(.ptr 0 2 0), (.slice (esV x1) [] true), (.slice (esV x3) [] false), (.int .i64 0), (.slice (List.map encOp d.ops) [] false), (.slice (List.map encFrag d.frags) [] false)] []) fun y22 =>
  exIs y22.1 (some 0) (cnd (chkL [(.ptr 0 2 0), (.sl true), (.sl false), (.int .i64), (.sl false), (.sl false)] y22.2.1) (cnd (chkU [] y22.2.2)
   (callp O 23 [(.slice (esV (gt y22.2.1 1)) [] false)] fun x23 => cnd (chk (.sl false) x23)
   (some ((.slice (esV x23) [] false), [])) none) none) none)
  (none)) none) none
noncomputable def seineref13_Uses_l1T (d : GDoc) (y4 : List Str) : ((List Str) × Int) → Option (((List Str) × Int) ⊕ ((List Str)))
  | (out_12, i_13) =>
  cnd (decide (i_13 < (List.length y4 : Int)))
   (bnd (nthI y4 i_13) fun y15 =>
   bnd (seineref13_Frag d y15) fun y17 =>
   bnd (seineref13_usedSels y17.1.sels out_12) fun y19 =>
   some (.inl (y19, (IntKind.wrap .i64 (i_13 + 1)))))
   (some (.inr out_12))
abbrev seineref13_Uses_l1R (d : GDoc) (y4 : List Str) (st : (List Str) × Int) (l : List PV) (u : UP) : Prop := l = [(.ptr 0 2 0), (.slice (List.map PV.str st.1) [] true), (.slice (List.map PV.str y4) [] false), (.int .i64 st.2), (.slice (List.map encOp d.ops) [] false), (.slice (List.map encFrag d.frags) [] false)] ∧ u = []
abbrev seineref13_Uses_l1X (d : GDoc) (y4 : List Str) (p : (List Str)) (r : Ex × List PV × UP) : Prop := (fun (p : (List Str)) => ∃ (i_21 : Int), r = (Ex.brk 0, [(.ptr 0 2 0), (.slice (List.map PV.str p) [] true), (.slice (List.map PV.str y4) [] false), (.int .i64 i_21), (.slice (List.map encOp d.ops) [] false), (.slice (List.map encFrag d.frags) [] false)], [])) p
noncomputable def seineref13_Uses_B (d : GDoc) (l0 : List GSel) : Option (List Str) :=
  bnd (seineref13_usedSels l0 ([] : List Str)) fun y2 =>
  bnd (seineref13_Reach d l0) fun y4 =>
  bnd (tloop (seineref13_Uses_l1T d y4) (y2, 0)) fun out_20 =>
  bnd (seineref13_Sorted out_20) fun y24 =>
  some y24
def seineref13_Uses_ds : Decs := { decs := [(11, (.sl true)), (14, (.sl false)), (25, (.ref .str)), (27, (.tup [shFrag, .bool])), (33, (.sl true)), (35, (.sl false))], ups := [], loops := [(4, [(2, 2)], ⟨[(.ptr 0 2 0), (.sl true), (.sl false), (.int .i64), (.sl false), (.sl false)], [], [(some 0, [(.ptr 0 2 0), (.sl true), (.sl false), (.int .i64), (.sl false), (.sl false)], [])]⟩)] }
set_option maxRecDepth 100000 in
theorem seineref13_Uses_t1 (O : Orc) (LP : LBody → LBody) (d : GDoc) (l0 : List GSel) : evalBodyD Try.prog (MT 9) seineref13_Uses_ds Try.f9.ntmps O LP Try.f9 [(.agg [(.slice (List.map encOp d.ops) [] false), (.slice (List.map encFrag d.frags) [] false)]), (.slice (List.map encSel l0) [] false)] [] = seineref13_Uses_T1 O LP d l0 := by kernel_rfl
theorem seineref13_Uses_l1_ok (d : GDoc) (y4 : List Str) : ∀ st l u, seineref13_Uses_l1R d y4 st l u → Imp (seineref13_Uses_l1T d y4 st) (seineref13_Uses_l1 O loopLim l u) (StepR (seineref13_Uses_l1R d y4) (seineref13_Uses_l1X d y4)) := by
  rintro ⟨out_12, i_13⟩ l u ⟨rfl, rfl⟩
  simp only [seineref13_Uses_l1T, seineref13_Uses_l1]
  refine Imp.chk rfl (Imp.chk rfl ?_)
  try simp only [evs, tys]
  refine Imp.cnd ?_ ?_
  · refine Imp.op (f := fun a => .ref (PV.str a)) (fun a h => op_ix (enc := PV.str) (by first | rfl | simp only [evs, tys, evl]) ⟨by first | rfl | simp only [evs, tys, evc], by decide⟩ h) (fun a => rfl) fun y15 hy15 => ?_
    try simp only [evs, tys]
    refine Imp.call (f := seineref13_FragE) rfl (fun a h => by first | exact seineref13_Frag_spec h | simpa only [evs, tys, evl] using seineref13_Frag_spec h) (fun a => by first | rfl | simp only [seineref13_FragE, evk, chks]) fun y17 hy17 => ?_
    try simp only [seineref13_FragE, evs, tys]
    refine Imp.call (f := seineref13_usedSelsE) rfl (fun a h => by first | exact seineref13_usedSels_spec h | simpa only [evs, tys, evl] using seineref13_usedSels_spec h) (fun a => by first | rfl | simp only [seineref13_usedSelsE, evk, chks]) fun y19 hy19 => ?_
    try simp only [seineref13_usedSelsE, evs, tys]
    exact Imp.some (StepR.next ⟨by first | rfl | simp only [evs, tys, evl], rfl⟩)
  · exact Imp.some (StepR.brk ⟨i_13, by first | rfl | simp only [evs, tys, evl, elim_inl, elim_inr]⟩)
theorem seineref13_Uses_imp (d : GDoc) (l0 : List GSel) : Imp (seineref13_Uses_B d l0) (seineref13_Uses_T1 O loopLim d l0) (fun r v => v = (seineref13_UsesE r, [])) := by
  simp only [seineref13_Uses_B, seineref13_Uses_T1]
  try simp only [evs, tys]
  refine Imp.call (f := seineref13_usedSelsE) rfl (fun a h => by first | exact seineref13_usedSels_spec h | simpa only [evs, tys, evl] using seineref13_usedSels_spec h) (fun a => by first | rfl | simp only [seineref13_usedSelsE, evk, chks]) fun y2 hy2 => ?_
  try simp only [seineref13_usedSelsE, evs, tys]
  refine Imp.call (f := seineref13_ReachE) rfl (fun a h => by first | exact seineref13_Reach_spec h | simpa only [evs, tys, evl] using seineref13_Reach_spec h) (fun a => by first | rfl | simp only [seineref13_ReachE, evk, chks]) fun y4 hy4 => ?_
  try simp only [seineref13_ReachE, evs, tys]
  refine Imp.bnd (Imp.loop (seineref13_Uses_l1_ok d y4) ⟨by first | rfl | simp only [evs, tys, evl], rfl⟩) ?_
  rintro out_20 vy22 hy22
  obtain ⟨i_21, rfl⟩ := hy22
  refine Imp.exHit rfl (Imp.chk rfl (Imp.chk rfl ?_))
  try simp only [evs, tys]
  refine Imp.call (f := seineref13_SortedE) rfl (fun a h => by first | exact seineref13_Sorted_spec h | simpa only [evs, tys, evl] using seineref13_Sorted_spec h) (fun a => by first | rfl | simp only [seineref13_SortedE, evk, chks]) fun y24 hy24 => ?_
  try simp only [seineref13_SortedE, evs, tys]
  exact Imp.some (by first | rfl | simp only [seineref13_UsesE, evs, tys, evl])
theorem seineref13_Uses_run {d : GDoc} {l0 : List GSel} {r : List Str} (h : seineref13_Uses_B d l0 = some r) : seineref13_Uses d l0 = some r := by
  obtain ⟨v, hv, rfl⟩ := seineref13_Uses_imp d l0 r h
  exact tO_of (pair_inj seineref13_UsesEj) (OL_runD seineref13_Uses_ds rfl rfl Try.func9 ((seineref13_Uses_t1 _ _ d l0).trans hv))

def seinekeep_SameTexts_l1 (O : Orc) (LP : LBody → LBody) : LBody := fun s1 s1u => cnd (chkL [(.sl false), (.sl false), .bool, (.int .i64)] s1) (cnd (chkU [] s1u)
  (cnd (decide ((intV (gt s1 3)) < (List.length (esV (gt s1 0)) : Int)))
   (bnd (ix 1 (.slice (esV (gt s1 0)) [] false) (.int .i64 (intV (gt s1 3)))) fun x7 => cnd (chk (.ref .str) x7)
   (bnd (ix 1 (.slice (esV (gt s1 1)) [] false) (.int .i64 (intV (gt s1 3)))) fun x9 => cnd (chk (.ref .str) x9)
   (cnd (!((strV (refV x7)) == (strV (refV x9))))
    (some (.ret, [(.slice (esV (gt s1 0)) [] false), (.slice (esV (gt s1 1)) [] false), (.bool false), (.int .i64 (intV (gt s1 3)))], []))
    (some (.nrm, [(.slice (esV (gt s1 0)) [] false), (.slice (esV (gt s1 1)) [] false), (.bool (boolV (gt s1 2))), (.int .i64 (IntKind.wrap .i64 ((intV (gt s1 3)) + 1)))], []))) none) none)
   (some (.brk 0, [(.slice (esV (gt s1 0)) [] false), (.slice (esV (gt s1 1)) [] false), (.bool (boolV (gt s1 2))), (.int .i64 (intV (gt s1 3)))], []))) none) none
def seinekeep_SameTexts_T1 (O : Orc) (LP : LBody → LBody) (a : List Str) (b : List Str) : Option (PV × UP) :=
  cnd ((List.length (List.map PV.str a) : Int) != (List.length (List.map PV.str b) : Int))
   (some ((.bool false), []))
   (bnd (LP (seinekeep_SameTexts_l1 O LP) [(.slice (List.map PV.str a) [] false), (.slice (List.map PV.str b) [] false), (.bool false), (.int .i64 0)] []) fun y13 =>
   exIs y13.1 (some 0) (cnd (chkL [(.sl false), (.sl false), .bool, (.int .i64)] y13.2.1) (cnd (chkU [] y13.2.2)
    (some ((.bool true), [])) none) none)
   (exIs y13.1 none (cnd (chkL [(.sl false), (.sl false), .bool, (.int .i64)] y13.2.1) (cnd (chkU [] y13.2.2)
    (some ((.bool (boolV (gt y13.2.1 2))), [])) none) none)
   (none)))
noncomputable def seinekeep_SameTexts_l1T (a : List Str) (b : List Str) : Int → Option (Int ⊕ (Unit ⊕ Unit))
  | i_6 =>
  cnd (decide (i_6 < (List.length a : Int)))
   (bnd (nthI a i_6) fun y8 =>
   bnd (nthI b i_6) fun y10 =>
   cnd (!(y8 == y10))
    (some (.inr (.inr ())))
    (some (.inl (IntKind.wrap .i64 (i_6 + 1)))))
   (some (.inr (.inl ())))
abbrev seinekeep_SameTexts_l1R (a : List Str) (b : List Str) (st : Int) (l : List PV) (u : UP) : Prop := l = [(.slice (List.map PV.str a) [] false), (.slice (List.map PV.str b) [] false), (.bool false), (.int .i64 st)] ∧ u = []
abbrev seinekeep_SameTexts_l1X (a : List Str) (b : List Str) (p : Unit ⊕ Unit) (r : Ex × List PV × UP) : Prop := elim p (fun (p : Unit) => ∃ (i_11 : Int), r = (Ex.brk 0, [(.slice (List.map PV.str a) [] false), (.slice (List.map PV.str b) [] false), (.bool false), (.int .i64 i_11)], [])) (fun q2 => (fun (p : Unit) => ∃ (i_12 : Int), r = (Ex.ret, [(.slice (List.map PV.str a) [] false), (.slice (List.map PV.str b) [] false), (.bool false), (.int .i64 i_12)], [])) q2)
noncomputable def seinekeep_SameTexts_B (a : List Str) (b : List Str) : Option Bool :=
  cnd ((List.length a : Int) != (List.length b : Int))
   (some false)
   (bnd (tloop (seinekeep_SameTexts_l1T a b) 0) fun e13_2 => elim e13_2
   (fun p13 =>
    some true)
   (fun p13 =>
   some false))
def seinekeep_SameTexts_ds : Decs := { decs := [(19, (.ref .str)), (23, (.ref .str))], ups := [], loops := [(4, [], ⟨[(.sl false), (.sl false), .bool, (.int .i64)], [], [(some 0, [(.sl false), (.sl false), .bool, (.int .i64)], []), (none, [(.sl false), (.sl false), .bool, (.int .i64)], [])]⟩)] }
set_option maxRecDepth 100000 in
theorem seinekeep_SameTexts_t1 (O : Orc) (LP : LBody → LBody) (a : List Str) (b : List Str) : evalBodyD Try.prog (MT 7) seinekeep_SameTexts_ds Try.f7.ntmps O LP Try.f7 [(.slice (List.map PV.str a) [] false), (.slice (List.map PV.str b) [] false)] [] = seinekeep_SameTexts_T1 O LP a b := by kernel_rfl
theorem seinekeep_SameTexts_l1_ok (a : List Str) (b : List Str) : ∀ st l u, seinekeep_SameTexts_l1R a b st l u → Imp (seinekeep_SameTexts_l1T a b st) (seinekeep_SameTexts_l1 O loopLim l u) (StepR (seinekeep_SameTexts_l1R a b) (seinekeep_SameTexts_l1X a b)) := by
  rintro i_6 l u ⟨rfl, rfl⟩
  simp only [seinekeep_SameTexts_l1T, seinekeep_SameTexts_l1]
  refine Imp.chk rfl (Imp.chk rfl ?_)
  try simp only [evs, tys]
  refine Imp.cnd ?_ ?_
  · refine Imp.op (f := fun a => .ref (PV.str a)) (fun a h => op_ix (enc := PV.str) (by first | rfl | simp only [evs, tys, evl]) ⟨by first | rfl | simp only [evs, tys, evc], by decide⟩ h) (fun a => rfl) fun y8 hy8 => ?_
    try simp only [evs, tys]
    refine Imp.op (f := fun a => .ref (PV.str a)) (fun a h => op_ix (enc := PV.str) (by first | rfl | simp only [evs, tys, evl]) ⟨by first | rfl | simp only [evs, tys, evc], by decide⟩ h) (fun a => rfl) fun y10 hy10 => ?_
    try simp only [evs, tys]
    refine Imp.cnd ?_ ?_
    · exact Imp.some (StepR.ret ⟨i_6, by first | rfl | simp only [evs, tys, evl, elim_inl, elim_inr]⟩)
    · exact Imp.some (StepR.next ⟨by first | rfl | simp only [evs, tys, evl], rfl⟩)
  · exact Imp.some (StepR.brk ⟨i_6, by first | rfl | simp only [evs, tys, evl, elim_inl, elim_inr]⟩)
theorem seinekeep_SameTexts_imp (a : List Str) (b : List Str) : Imp (seinekeep_SameTexts_B a b) (seinekeep_SameTexts_T1 O loopLim a b) (fun r v => v = (seinekeep_SameTextsE r, [])) := by
  simp only [seinekeep_SameTexts_B, seinekeep_SameTexts_T1]
  try simp only [evs, tys]
  refine Imp.cnd ?_ ?_
  · exact Imp.some (by first | rfl | simp only [seinekeep_SameTextsE, evs, tys, evl])
  · refine Imp.bnd (Imp.loop (seinekeep_SameTexts_l1_ok a b) ⟨by first | rfl | simp only [evs, tys, evl], rfl⟩) ?_
    rintro (p | p) vy13 hy13
    · try simp only [elim_inl, elim_inr]
      obtain ⟨i_11, rfl⟩ := hy13
      refine Imp.exHit rfl (Imp.chk rfl (Imp.chk rfl ?_))
      try simp only [evs, tys]
      exact Imp.some (by first | rfl | simp only [seinekeep_SameTextsE, evs, tys, evl])
    · try simp only [elim_inl, elim_inr]
      obtain ⟨i_12, rfl⟩ := hy13
      refine Imp.exMiss rfl ?_
      refine Imp.exHit rfl (Imp.chk rfl (Imp.chk rfl ?_))
      try simp only [evs, tys]
      exact Imp.some (by first | rfl | simp only [seinekeep_SameTextsE, evs, tys, evl])
theorem seinekeep_SameTexts_run {a : List Str} {b : List Str} {r : Bool} (h : seinekeep_SameTexts_B a b = some r) : seinekeep_SameTexts a b = some r := by
  obtain ⟨v, hv, rfl⟩ := seinekeep_SameTexts_imp a b r h
  exact tO_of (pair_inj seinekeep_SameTextsEj) (OL_runD seinekeep_SameTexts_ds rfl rfl Try.func7 ((seinekeep_SameTexts_t1 _ _ a b).trans hv))

def seineref1_Has_l1 (O : Orc) (LP : LBody → LBody) : LBody := fun s1 s1u => cnd (chkL [(.sl false), .str, .bool, (.int .i64)] s1) (cnd (chkU [] s1u)
  (cnd (decide ((intV (gt s1 3)) < (List.length (esV (gt s1 0)) : Int)))
   (bnd (ix 1 (.slice (esV (gt s1 0)) [] false) (.int .i64 (intV (gt s1 3)))) fun x5 => cnd (chk (.ref .str) x5)
   (cnd ((strV (refV x5)) == (strV (gt s1 1)))
    (some (.ret, [(.slice (esV (gt s1 0)) [] false), (.str (strV (gt s1 1))), (.bool true), (.int .i64 (intV (gt s1 3)))], []))
    (some (.nrm, [(.slice (esV (gt s1 0)) [] false), (.str (strV (gt s1 1))), (.bool (boolV (gt s1 2))), (.int .i64 (IntKind.wrap .i64 ((intV (gt s1 3)) + 1)))], []))) none)
   (some (.brk 0, [(.slice (esV (gt s1 0)) [] false), (.str (strV (gt s1 1))), (.bool (boolV (gt s1 2))), (.int .i64 (intV (gt s1 3)))], []))) none) none
def seineref1_Has_T1 (O : Orc) (LP : LBody → LBody) (l0 : List Str) (s : Str) : Option (PV × UP) :=
  bnd (LP (seineref1_Has_l1 O LP) [(.slice (List.map PV.str l0) [] false), (.str s), (.bool false), (.int .i64 0)] []) fun y9 =>
  exIs y9.1 (some 0) (cnd (chkL [(.sl false), .str, .bool, (.int .i64)] y9.2.1) (cnd (chkU [] y9.2.2)
   (some ((.bool false), [])) none) none)
  (exIs y9.1 none (cnd (chkL [(.sl false), .str, .bool, (.int .i64)] y9.2.1) (cnd (chkU [] y9.2.2)
   (some ((.bool (boolV (gt y9.2.1 2))), [])) none) none)
  (none))
noncomputable def seineref1_Has_l1T (l0 : List Str) (s : Str) : Int → Option (Int ⊕ (Unit ⊕ Unit))
  | i_4 =>
  cnd (decide (i_4 < (List.length l0 : Int)))
   (bnd (nthI l0 i_4) fun y6 =>
   cnd (y6 == s)
    (some (.inr (.inr ())))
    (some (.inl (IntKind.wrap .i64 (i_4 + 1)))))
   (some (.inr (.inl ())))
abbrev seineref1_Has_l1R (l0 : List Str) (s : Str) (st : Int) (l : List PV) (u : UP) : Prop := l = [(.slice (List.map PV.str l0) [] false), (.str s), (.bool false), (.int .i64 st)] ∧ u = []
abbrev seineref1_Has_l1X (l0 : List Str) (s : Str) (p : Unit ⊕ Unit) (r : Ex × List PV × UP) : Prop := elim p (fun (p : Unit) => ∃ (i_7 : Int), r = (Ex.brk 0, [(.slice (List.map PV.str l0) [] false), (.str s), (.bool false), (.int .i64 i_7)], [])) (fun q2 => (fun (p : Unit) => ∃ (i_8 : Int), r = (Ex.ret, [(.slice (List.map PV.str l0) [] false), (.str s), (.bool true), (.int .i64 i_8)], [])) q2)
noncomputable def seineref1_Has_B (l0 : List Str) (s : Str) : Option Bool :=
  bnd (tloop (seineref1_Has_l1T l0 s) 0) fun e9_2 => elim e9_2
  (fun p9 =>
   some false)
  (fun p9 =>
  some true)
def seineref1_Has_ds : Decs := { decs := [(14, (.ref .str))], ups := [], loops := [(2, [], ⟨[(.sl false), .str, .bool, (.int .i64)], [], [(some 0, [(.sl false), .str, .bool, (.int .i64)], []), (none, [(.sl false), .str, .bool, (.int .i64)], [])]⟩)] }
set_option maxRecDepth 100000 in
theorem seineref1_Has_t1 (O : Orc) (LP : LBody → LBody) (l0 : List Str) (s : Str) : evalBodyD Try.prog (MT 10) seineref1_Has_ds Try.f10.ntmps O LP Try.f10 [(.slice (List.map PV.str l0) [] false), (.str s)] [] = seineref1_Has_T1 O LP l0 s := by kernel_rfl
theorem seineref1_Has_l1_ok (l0 : List Str) (s : Str) : ∀ st l u, seineref1_Has_l1R l0 s st l u → Imp (seineref1_Has_l1T l0 s st) (seineref1_Has_l1 O loopLim l u) (StepR (seineref1_Has_l1R l0 s) (seineref1_Has_l1X l0 s)) := by
  rintro i_4 l u ⟨rfl, rfl⟩
  simp only [seineref1_Has_l1T, seineref1_Has_l1]
  refine Imp.chk rfl (Imp.chk rfl ?_)
  try simp only [evs, tys]
  refine Imp.cnd ?_ ?_
  · refine Imp.op (f := fun a => .ref (PV.str a)) (fun a h => op_ix (enc := PV.str) (by first | rfl | simp only [evs, tys, evl]) ⟨by first | rfl | simp only [evs, tys, evc], by decide⟩ h) (fun a => rfl) fun y6 hy6 => ?_
    try simp only [evs, tys]
    refine Imp.cnd ?_ ?_
    · exact Imp.some (StepR.ret ⟨i_4, by first | rfl | simp only [evs, tys, evl, elim_inl, elim_inr]⟩)
    · exact Imp.some (StepR.next ⟨by first | rfl | simp only [evs, tys, evl], rfl⟩)
  · exact Imp.some (StepR.brk ⟨i_4, by first | rfl | simp only [evs, tys, evl, elim_inl, elim_inr]⟩)
theorem seineref1_Has_imp (l0 : List Str) (s : Str) : Imp (seineref1_Has_B l0 s) (seineref1_Has_T1 O loopLim l0 s) (fun r v => v = (seineref1_HasE r, [])) := by
  simp only [seineref1_Has_B, seineref1_Has_T1]
  try simp only [evs, tys]
  refine Imp.bnd (Imp.loop (seineref1_Has_l1_ok l0 s) ⟨by first | rfl | simp only [evs, tys, evl], rfl⟩) ?_
  rintro (p | p) vy9 hy9
  · try simp only [elim_inl, elim_inr]
    obtain ⟨i_7, rfl⟩ := hy9
    refine Imp.exHit rfl (Imp.chk rfl (Imp.chk rfl ?_))
    try simp only [evs, tys]
    exact Imp.some (by first | rfl | simp only [seineref1_HasE, evs, tys, evl])
  · try simp only [elim_inl, elim_inr]
    obtain ⟨i_8, rfl⟩ := hy9
    refine Imp.exMiss rfl ?_
    refine Imp.exHit rfl (Imp.chk rfl (Imp.chk rfl ?_))
    try simp only [evs, tys]
    exact Imp.some (by first | rfl | simp only [seineref1_HasE, evs, tys, evl])
theorem seineref1_Has_run {l0 : List Str} {s : Str} {r : Bool} (h : seineref1_Has_B l0 s = some r) : seineref1_Has l0 s = some r := by
  obtain ⟨v, hv, rfl⟩ := seineref1_Has_imp l0 s r h
  exact tO_of (pair_inj seineref1_HasEj) (OL_runD seineref1_Has_ds rfl rfl Try.func10 ((seineref1_Has_t1 _ _ l0 s).trans hv))

def seinelaw7_lightDirs_l1 (O : Orc) (LP : LBody → LBody) : LBody := fun s1 s1u => cnd (chkL [(.sl false), (.int .i64), (.int .i64)] s1) (cnd (chkU [] s1u)
  (cnd (decide ((intV (gt s1 2)) < (List.length (esV (gt s1 0)) : Int)))
   (bnd (ix 2 (.slice (esV (gt s1 0)) [] false) (.int .i64 (intV (gt s1 2)))) fun x10 => cnd (chk (.ref shDir) x10)
   (bnd (ix 2 (.slice (esV (gt s1 0)) [] false) (.int .i64 (intV (gt s1 2)))) fun x12 => cnd (chk (.ref shDir) x12)
   (callp O 13 [(.agg [(.int .i64 0), (.int .i64 0), (.str []), (.slice [] [] false), (.slice (esV (gt (aggV (refV x12)) 1)) [] false)])] fun x14 => cnd (chk (.int .i64) x14)
   (some (.nrm, [(.slice (esV (gt s1 0)) [] false), (.int .i64 (IntKind.wrap .i64 ((IntKind.wrap .i64 ((IntKind.wrap .i64 ((intV (gt s1 1)) + 1)) + (List.length (strV (gt (aggV (refV x10)) 0)) : Int))) + (intV x14)))), (.int .i64 (IntKind.wrap .i64 ((intV (gt s1 2)) + 1)))], [])) none) none) none)
   (some (.brk 0, [(.slice (esV (gt s1 0)) [] false), (.int .i64 (intV (gt s1 1))), (.int .i64 (intV (gt s1 2)))], []))) none) none
def seinelaw7_lightDirs_T1 (O : Orc) (LP : LBody → LBody) (l0 : List GDir) : Option (PV × UP) :=
  bnd (LP (seinelaw7_lightDirs_l1 O LP) [(.slice (List.map encDir l0) [] false), (.int .i64 0), (.int .i64 0)] []) fun y18 =>
  exIs y18.1 (some 0) (cnd (chkL [(.sl false), (.int .i64), (.int .i64)] y18.2.1) (cnd (chkU [] y18.2.2)
   (some ((.int .i64 (intV (gt y18.2.1 1))), [])) none) none)
  (none)
noncomputable def seinelaw7_lightDirs_l1T (l0 : List GDir) : (Int × Int) → Option ((Int × Int) ⊕ Int)
  | (n_8, i_9) =>
  cnd (decide (i_9 < (List.length l0 : Int)))
   (bnd (nthI l0 i_9) fun y11 =>
   bnd (nthI l0 i_9) fun y13 =>
   bnd (seinekeep_Size (GValue.mk 0 0 [] ([] : List GValue) y13.args)) fun y15 =>
   some (.inl ((IntKind.wrap .i64 ((IntKind.wrap .i64 ((IntKind.wrap .i64 (n_8 + 1)) + (List.length y11.name : Int))) + y15)), (IntKind.wrap .i64 (i_9 + 1)))))
   (some (.inr n_8))
abbrev seinelaw7_lightDirs_l1R (l0 : List GDir) (st : Int × Int) (l : List PV) (u : UP) : Prop := l = [(.slice (List.map encDir l0) [] false), (.int .i64 st.1), (.int .i64 st.2)] ∧ u = []
abbrev seinelaw7_lightDirs_l1X (l0 : List GDir) (p : Int) (r : Ex × List PV × UP) : Prop := (fun (p : Int) => ∃ (i_17 : Int), r = (Ex.brk 0, [(.slice (List.map encDir l0) [] false), (.int .i64 p), (.int .i64 i_17)], [])) p
noncomputable def seinelaw7_lightDirs_B (l0 : List GDir) : Option Int :=
  bnd (tloop (seinelaw7_lightDirs_l1T l0) (0, 0)) fun n_16 =>
  some n_16
def seinelaw7_lightDirs_ds : Decs := { decs := [(15, (.ref shDir)), (22, (.ref shDir)), (26, (.int .i64))], ups := [], loops := [(3, [], ⟨[(.sl false), (.int .i64), (.int .i64)], [], [(some 0, [(.sl false), (.int .i64), (.int .i64)], [])]⟩)] }
set_option maxRecDepth 100000 in
theorem seinelaw7_lightDirs_t1 (O : Orc) (LP : LBody → LBody) (l0 : List GDir) : evalBodyD Try.prog (MT 11) seinelaw7_lightDirs_ds Try.f11.ntmps O LP Try.f11 [(.slice (List.map encDir l0) [] false)] [] = seinelaw7_lightDirs_T1 O LP l0 := by kernel_rfl
theorem seinelaw7_lightDirs_l1_ok (l0 : List GDir) : ∀ st l u, seinelaw7_lightDirs_l1R l0 st l u → Imp (seinelaw7_lightDirs_l1T l0 st) (seinelaw7_lightDirs_l1 O loopLim l u) (StepR (seinelaw7_lightDirs_l1R l0) (seinelaw7_lightDirs_l1X l0)) := by
  rintro ⟨n_8, i_9⟩ l u ⟨rfl, rfl⟩
  simp only [seinelaw7_lightDirs_l1T, seinelaw7_lightDirs_l1]
  refine Imp.chk rfl (Imp.chk rfl ?_)
  try simp only [evs, tys]
  refine Imp.cnd ?_ ?_
  · refine Imp.op (f := fun a => .ref (encDir a)) (fun a h => op_ix (enc := encDir) (by first | rfl | simp only [evs, tys, evl]) ⟨by first | rfl | simp only [evs, tys, evc], by decide⟩ h) (fun a => chk_GDir a) fun y11 hy11 => ?_
    try simp only [evs, tys]
    refine Imp.op (f := fun a => .ref (encDir a)) (fun a h => op_ix (enc := encDir) (by first | rfl | simp only [evs, tys, evl]) ⟨by first | rfl | simp only [evs, tys, evc], by decide⟩ h) (fun a => chk_GDir a) fun y13 hy13 => ?_
    try simp only [evs, tys]
    refine Imp.call (f := seinekeep_SizeE) rfl (fun a h => by first | exact seinekeep_Size_spec h | simpa only [evs, tys, evl] using seinekeep_Size_spec h) (fun a => by first | rfl | simp only [seinekeep_SizeE, evk, chks]) fun y15 hy15 => ?_
    try simp only [seinekeep_SizeE, evs, tys]
    exact Imp.some (StepR.next ⟨by first | rfl | simp only [evs, tys, evl], rfl⟩)
  · exact Imp.some (StepR.brk ⟨i_9, by first | rfl | simp only [evs, tys, evl, elim_inl, elim_inr]⟩)
theorem seinelaw7_lightDirs_imp (l0 : List GDir) : Imp (seinelaw7_lightDirs_B l0) (seinelaw7_lightDirs_T1 O loopLim l0) (fun r v => v = (seinelaw7_lightDirsE r, [])) := by
  simp only [seinelaw7_lightDirs_B, seinelaw7_lightDirs_T1]
  try simp only [evs, tys]
  refine Imp.bnd (Imp.loop (seinelaw7_lightDirs_l1_ok l0) ⟨by first | rfl | simp only [evs, tys, evl], rfl⟩) ?_
  rintro n_16 vy18 hy18
  obtain ⟨i_17, rfl⟩ := hy18
  refine Imp.exHit rfl (Imp.chk rfl (Imp.chk rfl ?_))
  try simp only [evs, tys]
  exact Imp.some (by first | rfl | simp only [seinelaw7_lightDirsE, evs, tys, evl])
theorem seinelaw7_lightDirs_run {l0 : List GDir} {r : Int} (h : seinelaw7_lightDirs_B l0 = some r) : seinelaw7_lightDirs l0 = some r := by
  obtain ⟨v, hv, rfl⟩ := seinelaw7_lightDirs_imp l0 r h
  exact tO_of (pair_inj seinelaw7_lightDirsEj) (OL_runD seinelaw7_lightDirs_ds rfl rfl Try.func11 ((seinelaw7_lightDirs_t1 _ _ l0).trans hv))

def seinelaw7_lightSels_l1 (O : Orc) (LP : LBody → LBody) : LBody := fun s1 s1u => cnd (chkL [(.sl false), (.int .i64), (.int .i64)] s1) (cnd (chkU [] s1u)
  (cnd (decide ((intV (gt s1 2)) < (List.length (esV (gt s1 0)) : Int)))
   (bnd (ix 7 (.slice (esV (gt s1 0)) [] false) (.int .i64 (intV (gt s1 2)))) fun x22 => cnd (chk (.ref shSel) x22)
   (bnd (ix 7 (.slice (esV (gt s1 0)) [] false) (.int .i64 (intV (gt s1 2)))) fun x24 => cnd (chk (.ref shSel) x24)
   (bnd (ix 7 (.slice (esV (gt s1 0)) [] false) (.int .i64 (intV (gt s1 2)))) fun x26 => cnd (chk (.ref shSel) x26)
   (bnd (ix 7 (.slice (esV (gt s1 0)) [] false) (.int .i64 (intV (gt s1 2)))) fun x28 => cnd (chk (.ref shSel) x28)
   (callp O 13 [(.agg [(.int .i64 0), (.int .i64 0), (.str []), (.slice [] [] false), (.slice (esV (gt (aggV (refV x28)) 3)) [] false)])] fun x30 => cnd (chk (.int .i64) x30)
   (bnd (ix 7 (.slice (esV (gt s1 0)) [] false) (.int .i64 (intV (gt s1 2)))) fun x32 => cnd (chk (.ref shSel) x32)
   (callp O 11 [(.slice (esV (gt (aggV (refV x32)) 4)) [] false)] fun x34 => cnd (chk (.int .i64) x34)
   (bnd (ix 7 (.slice (esV (gt s1 0)) [] false) (.int .i64 (intV (gt s1 2)))) fun x36 => cnd (chk (.ref shSel) x36)
   (callp O 12 [(.slice (esV (gt (aggV (refV x36)) 6)) [] false)] fun x38 => cnd (chk (.int .i64) x38)
   (some (.nrm, [(.slice (esV (gt s1 0)) [] false), (.int .i64 (IntKind.wrap .i64 ((IntKind.wrap .i64 ((IntKind.wrap .i64 ((IntKind.wrap .i64 ((IntKind.wrap .i64 ((IntKind.wrap .i64 ((IntKind.wrap .i64 ((intV (gt s1 1)) + 1)) + (List.length (strV (gt (aggV (refV x22)) 2)) : Int))) + (List.length (strV (gt (aggV (refV x24)) 1)) : Int))) + (List.length (strV (gt (aggV (refV x26)) 5)) : Int))) + (intV x30))) + (intV x34))) + (intV x38)))), (.int .i64 (IntKind.wrap .i64 ((intV (gt s1 2)) + 1)))], [])) none) none) none) none) none) none) none) none) none)
   (some (.brk 0, [(.slice (esV (gt s1 0)) [] false), (.int .i64 (intV (gt s1 1))), (.int .i64 (intV (gt s1 2)))], []))) none) none
def seinelaw7_lightSels_T1 (O : Orc) (LP : LBody → LBody) (l0 : List GSel) : Option (PV × UP) :=
  bnd (LP (seinelaw7_lightSels_l1 O LP) [(.slice (List.map encSel l0) [] false), (.int .i64 0), (.int .i64 0)] []) fun y42 =>
  exIs y42.1 (some 0) (cnd (chkL [(.sl false), (.int .i64), (.int .i64)] y42.2.1) (cnd (chkU [] y42.2.2)
   (some ((.int .i64 (intV (gt y42.2.1 1))), [])) none) none)
  (none)
noncomputable def seinelaw7_lightSels_l1T (l0 : List GSel) : (Int × Int) → Option ((Int × Int) ⊕ Int)
  | (n_20, i_21) =>
  cnd (decide (i_21 < (List.length l0 : Int)))
   (bnd (nthI l0 i_21) fun y23 =>
   bnd (nthI l0 i_21) fun y25 =>
   bnd (nthI l0 i_21) fun y27 =>
   bnd (nthI l0 i_21) fun y29 =>
   bnd (seinekeep_Size (GValue.mk 0 0 [] ([] : List GValue) y29.args)) fun y31 =>
   bnd (nthI l0 i_21) fun y33 =>
   bnd (seinelaw7_lightDirs y33.dirs) fun y35 =>
   bnd (nthI l0 i_21) fun y37 =>
   bnd (seinelaw7_lightSels y37.sels) fun y39 =>
   some (.inl ((IntKind.wrap .i64 ((IntKind.wrap .i64 ((IntKind.wrap .i64 ((IntKind.wrap .i64 ((IntKind.wrap .i64 ((IntKind.wrap .i64 ((IntKind.wrap .i64 (n_20 + 1)) + (List.length y23.name : Int))) + (List.length y25.alias : Int))) + (List.length y27.on_ : Int))) + y31)) + y35)) + y39)), (IntKind.wrap .i64 (i_21 + 1)))))
   (some (.inr n_20))
abbrev seinelaw7_lightSels_l1R (l0 : List GSel) (st : Int × Int) (l : List PV) (u : UP) : Prop := l = [(.slice (List.map encSel l0) [] false), (.int .i64 st.1), (.int .i64 st.2)] ∧ u = []
abbrev seinelaw7_lightSels_l1X (l0 : List GSel) (p : Int) (r : Ex × List PV × UP) : Prop := (fun (p : Int) => ∃ (i_41 : Int), r = (Ex.brk 0, [(.slice (List.map encSel l0) [] false), (.int .i64 p), (.int .i64 i_41)], [])) p
noncomputable def seinelaw7_lightSels_B (l0 : List GSel) : Option Int :=
  bnd (tloop (seinelaw7_lightSels_l1T l0) (0, 0)) fun n_40 =>
  some n_40
def seinelaw7_lightSels_ds : Decs := { decs := [(15, (.ref shSel)), (22, (.ref shSel)), (29, (.ref shSel)), (36, (.ref shSel)), (40, (.int .i64)), (44, (.ref shSel)), (47, (.int .i64)), (51, (.ref shSel)), (54, (.int .i64))], ups := [], loops := [(3, [], ⟨[(.sl false), (.int .i64), (.int .i64)], [], [(some 0, [(.sl false), (.int .i64), (.int .i64)], [])]⟩)] }
set_option maxRecDepth 100000 in
theorem seinelaw7_lightSels_t1 (O : Orc) (LP : LBody → LBody) (l0 : List GSel) : evalBodyD Try.prog (MT 12) seinelaw7_lightSels_ds Try.f12.ntmps O LP Try.f12 [(.slice (List.map encSel l0) [] false)] [] = seinelaw7_lightSels_T1 O LP l0 := by kernel_rfl
theorem seinelaw7_lightSels_l1_ok (l0 : List GSel) : ∀ st l u, seinelaw7_lightSels_l1R l0 st l u → Imp (seinelaw7_lightSels_l1T l0 st) (seinelaw7_lightSels_l1 O loopLim l u) (StepR (seinelaw7_lightSels_l1R l0) (seinelaw7_lightSels_l1X l0)) := by
  rintro ⟨n_20, i_21⟩ l u ⟨rfl, rfl⟩
  simp only [seinelaw7_lightSels_l1T, seinelaw7_lightSels_l1]
  refine Imp.chk rfl (Imp.chk rfl ?_)
  try simp only [evs, tys]
  refine Imp.cnd ?_ ?_
  · refine Imp.op (f := fun a => .ref (encSel a)) (fun a h => op_ix (enc := encSel) (by first | rfl | simp only [evs, tys, evl]) ⟨by first | rfl | simp only [evs, tys, evc], by decide⟩ h) (fun a => chk_GSel a) fun y23 hy23 => ?_
    try simp only [evs, tys]
    refine Imp.op (f := fun a => .ref (encSel a)) (fun a h => op_ix (enc := encSel) (by first | rfl | simp only [evs, tys, evl]) ⟨by first | rfl | simp only [evs, tys, evc], by decide⟩ h) (fun a => chk_GSel a) fun y25 hy25 => ?_
    try simp only [evs, tys]
    refine Imp.op (f := fun a => .ref (encSel a)) (fun a h => op_ix (enc := encSel) (by first | rfl | simp only [evs, tys, evl]) ⟨by first | rfl | simp only [evs, tys, evc], by decide⟩ h) (fun a => chk_GSel a) fun y27 hy27 => ?_
    try simp only [evs, tys]
    refine Imp.op (f := fun a => .ref (encSel a)) (fun a h => op_ix (enc := encSel) (by first | rfl | simp only [evs, tys, evl]) ⟨by first | rfl | simp only [evs, tys, evc], by decide⟩ h) (fun a => chk_GSel a) fun y29 hy29 => ?_
    try simp only [evs, tys]
    refine Imp.call (f := seinekeep_SizeE) rfl (fun a h => by first | exact seinekeep_Size_spec h | simpa only [evs, tys, evl] using seinekeep_Size_spec h) (fun a => by first | rfl | simp only [seinekeep_SizeE, evk, chks]) fun y31 hy31 => ?_
    try simp only [seinekeep_SizeE, evs, tys]
    refine Imp.op (f := fun a => .ref (encSel a)) (fun a h => op_ix (enc := encSel) (by first | rfl | simp only [evs, tys, evl]) ⟨by first | rfl | simp only [evs, tys, evc], by decide⟩ h) (fun a => chk_GSel a) fun y33 hy33 => ?_
    try simp only [evs, tys]
    refine Imp.call (f := seinelaw7_lightDirsE) rfl (fun a h => by first | exact seinelaw7_lightDirs_spec h | simpa only [evs, tys, evl] using seinelaw7_lightDirs_spec h) (fun a => by first | rfl | simp only [seinelaw7_lightDirsE, evk, chks]) fun y35 hy35 => ?_
    try simp only [seinelaw7_lightDirsE, evs, tys]
    refine Imp.op (f := fun a => .ref (encSel a)) (fun a h => op_ix (enc := encSel) (by first | rfl | simp only [evs, tys, evl]) ⟨by first | rfl | simp only [evs, tys, evc], by decide⟩ h) (fun a => chk_GSel a) fun y37 hy37 => ?_
    try simp only [evs, tys]
    refine Imp.call (f := seinelaw7_lightSelsE) rfl (fun a h => by first | exact seinelaw7_lightSels_spec h | simpa only [evs, tys, evl] using seinelaw7_lightSels_spec h) (fun a => by first | rfl | simp only [seinelaw7_lightSelsE, evk, chks]) fun y39 hy39 => ?_
    try simp only [seinelaw7_lightSelsE, evs, tys]
    exact Imp.some (StepR.next ⟨by first | rfl | simp only [evs, tys, evl], rfl⟩)
  · exact Imp.some (StepR.brk ⟨i_21, by first | rfl | simp only [evs, tys, evl, elim_inl, elim_inr]⟩)
theorem seinelaw7_lightSels_imp (l0 : List GSel) : Imp (seinelaw7_lightSels_B l0) (seinelaw7_lightSels_T1 O loopLim l0) (fun r v => v = (seinelaw7_lightSelsE r, [])) := by
  simp only [seinelaw7_lightSels_B, seinelaw7_lightSels_T1]
  try simp only [evs, tys]
  refine Imp.bnd (Imp.loop (seinelaw7_lightSels_l1_ok l0) ⟨by first | rfl | simp only [evs, tys, evl], rfl⟩) ?_
  rintro n_40 vy42 hy42
  obtain ⟨i_41, rfl⟩ := hy42
  refine Imp.exHit rfl (Imp.chk rfl (Imp.chk rfl ?_))
  try simp only [evs, tys]
  exact Imp.some (by first | rfl | simp only [seinelaw7_lightSelsE, evs, tys, evl])
theorem seinelaw7_lightSels_run {l0 : List GSel} {r : Int} (h : seinelaw7_lightSels_B l0 = some r) : seinelaw7_lightSels l0 = some r := by
  obtain ⟨v, hv, rfl⟩ := seinelaw7_lightSels_imp l0 r h
  exact tO_of (pair_inj seinelaw7_lightSelsEj) (OL_runD seinelaw7_lightSels_ds rfl rfl Try.func12 ((seinelaw7_lightSels_t1 _ _ l0).trans hv))
end Go.Proofs.Ytphmfillajagdaa

/- Printed by symgen.py: typed functions of this seat, and why they tell what the program does. -/
set_option linter.unusedVariables false
set_option linter.unusedSimpArgs false
open Go Go.Ev Go.Ev.PV
namespace Go.Proofs.Ytphmfillajagdaa
def seinekeep_Size_l1 (O : Orc) (LP : LBody → LBody) : LBody := fun s1 s1u => cnd (chkL [(.ptr 0 1 0), (.int .i64), (.int .i64), (.int .i64), (.int .i64), .str, (.sl false), (.sl false)] s1) (cnd (chkU [] s1u)
  (cnd (decide ((intV (gt s1 2)) < (List.length (esV (gt s1 6)) : Int)))
   (bnd (ix 5 (.slice (esV (gt s1 6)) [] false) (.int .i64 (intV (gt s1 2)))) fun x8 => cnd (chk (.ref shValue) x8)
   (callp O 13 [(.agg [(.int .i64 (intV (gt (aggV (refV x8)) 0))), (.int .i64 (intV (gt (aggV (refV x8)) 1))), (.str (strV (gt (aggV (refV x8)) 2))), (.slice (esV (gt (aggV (refV x8)) 3)) [] false), (.slice (esV (gt (aggV (refV x8)) 4)) [] false)])] fun x10 => cnd (chk (.int .i64) x10)
   (some (.nrm, [(.ptr 0 1 0), (.int .i64 (IntKind.wrap .i64 ((intV (gt s1 1)) + (intV x10)))), (.int .i64 (IntKind.wrap .i64 ((intV (gt s1 2)) + 1))), (.int .i64 (intV (gt s1 3))), (.int .i64 (intV (gt s1 4))), (.str (strV (gt s1 5))), (.slice (esV (gt s1 6)) [] false), (.slice (esV (gt s1 7)) [] false)], [])) none) none)
   (some (.brk 0, [(.ptr 0 1 0), (.int .i64 (intV (gt s1 1))), (.int .i64 (intV (gt s1 2))), (.int .i64 (intV (gt s1 3))), (.int .i64 (intV (gt s1 4))), (.str (strV (gt s1 5))), (.slice (esV (gt s1 6)) [] false), (.slice (esV (gt s1 7)) [] false)], []))) none) none
def seinekeep_Size_l2 (O : Orc) (LP : LBody → LBody) : LBody := fun s15 s15u => cnd (chkL [(.ptr 0 1 0), (.int .i64), (.int .i64), (.int .i64), (.int .i64), .str, (.sl false), (.sl false)] s15) (cnd (chkU [] s15u)
  (cnd (decide ((intV (gt s15 2)) < (List.length (esV (gt s15 7)) : Int)))
   (bnd (ix 6 (.slice (esV (gt s15 7)) [] false) (.int .i64 (intV (gt s15 2)))) fun x24 => cnd (chk (.ref shMember) x24)
   (bnd (ix 6 (.slice (esV (gt s15 7)) [] false) (.int .i64 (intV (gt s15 2)))) fun x26 => cnd (chk (.ref shMember) x26)
   (callp O 13 [(.agg [(.int .i64 (intV (gt (aggV (refV x26)) 1))), (.int .i64 (intV (gt (aggV (refV x26)) 2))), (.str (strV (gt (aggV (refV x26)) 3))), (.slice (esV (gt (aggV (refV x26)) 4)) [] false), (.slice (esV (gt (aggV (refV x26)) 5)) [] false)])] fun x28 => cnd (chk (.int .i64) x28)
   (some (.nrm, [(.ptr 0 1 0), (.int .i64 (IntKind.wrap .i64 ((IntKind.wrap .i64 ((intV (gt s15 1)) + (List.length (strV (gt (aggV (refV x24)) 0)) : Int))) + (intV x28)))), (.int .i64 (IntKind.wrap .i64 ((intV (gt s15 2)) + 1))), (.int .i64 (intV (gt s15 3))), (.int .i64 (intV (gt s15 4))), (.str (strV (gt s15 5))), (.slice (esV (gt s15 6)) [] false), (.slice (esV (gt s15 7)) [] false)], [])) none) none) none)
   (some (.brk 2, [(.ptr 0 1 0), (.int .i64 (intV (gt s15 1))), (.int .i64 (intV (gt s15 2))), (.int .i64 (intV (gt s15 3))), (.int .i64 (intV (gt s15 4))), (.str (strV (gt s15 5))), (.slice (esV (gt s15 6)) [] false), (.slice (esV (gt s15 7)) [] false)], []))) none) none
def seinekeep_Size_T1 (O : Orc) (LP : LBody → LBody) (v0 : GValue) : Option (PV × UP) :=
  bnd (LP (seinekeep_Size_l1 O LP) [(.ptr 0 1 0), (.int .i64 (IntKind.wrap .i64 (1 + (List.length v0.s : Int)))), (.int .i64 0), (.int .i64 v0.kind), (.int .i64 v0.n), (.str v0.s), (.slice (List.map encValue v0.l) [] false), (.slice (List.map encMember v0.m) [] false)] []) fun y14 =>
  exIs y14.1 (some 0) (cnd (chkL [(.ptr 0 1 0), (.int .i64), (.int .i64), (.int .i64), (.int .i64), .str, (.sl false), (.sl false)] y14.2.1) (cnd (chkU [] y14.2.2)
   (bnd (LP (seinekeep_Size_l2 O LP) [(.ptr 0 1 0), (.int .i64 (intV (gt y14.2.1 1))), (.int .i64 0), (.int .i64 (intV (gt y14.2.1 3))), (.int .i64 (intV (gt y14.2.1 4))), (.str (strV (gt y14.2.1 5))), (.slice (esV (gt y14.2.1 6)) [] false), (.slice (esV (gt y14.2.1 7)) [] false)] []) fun y32 =>
   exIs y32.1 (some 2) (cnd (chkL [(.ptr 0 1 0), (.int .i64), (.int .i64), (.int .i64), (.int .i64), .str, (.sl false), (.sl false)] y32.2.1) (cnd (chkU [] y32.2.2)
    (some ((.int .i64 (intV (gt y32.2.1 1))), [])) none) none)
   (none)) none) none)
  (none)
noncomputable def seinekeep_Size_l1T (v0 : GValue) : (Int × Int) → Option ((Int × Int) ⊕ Int)
  | (n_6, i_7) =>
  cnd (decide (i_7 < (List.length v0.l : Int)))
   (bnd (nthI v0.l i_7) fun y9 =>
   bnd (seinekeep_Size y9) fun y11 =>
   some (.inl ((IntKind.wrap .i64 (n_6 + y11)), (IntKind.wrap .i64 (i_7 + 1)))))
   (some (.inr n_6))
abbrev seinekeep_Size_l1R (v0 : GValue) (st : Int × Int) (l : List PV) (u : UP) : Prop := l = [(.ptr 0 1 0), (.int .i64 st.1), (.int .i64 st.2), (.int .i64 v0.kind), (.int .i64 v0.n), (.str v0.s), (.slice (List.map encValue v0.l) [] false), (.slice (List.map encMember v0.m) [] false)] ∧ u = []
abbrev seinekeep_Size_l1X (v0 : GValue) (p : Int) (r : Ex × List PV × UP) : Prop := (fun (p : Int) => ∃ (i_13 : Int), r = (Ex.brk 0, [(.ptr 0 1 0), (.int .i64 p), (.int .i64 i_13), (.int .i64 v0.kind), (.int .i64 v0.n), (.str v0.s), (.slice (List.map encValue v0.l) [] false), (.slice (List.map encMember v0.m) [] false)], [])) p
noncomputable def seinekeep_Size_l2T (v0 : GValue) : (Int × Int) → Option ((Int × Int) ⊕ Int)
  | (n_22, i_23) =>
  cnd (decide (i_23 < (List.length v0.m : Int)))
   (bnd (nthI v0.m i_23) fun y25 =>
   bnd (nthI v0.m i_23) fun y27 =>
   bnd (seinekeep_Size y27.v) fun y29 =>
   some (.inl ((IntKind.wrap .i64 ((IntKind.wrap .i64 (n_22 + (List.length y25.name : Int))) + y29)), (IntKind.wrap .i64 (i_23 + 1)))))
   (some (.inr n_22))
abbrev seinekeep_Size_l2R (v0 : GValue) (st : Int × Int) (l : List PV) (u : UP) : Prop := l = [(.ptr 0 1 0), (.int .i64 st.1), (.int .i64 st.2), (.int .i64 v0.kind), (.int .i64 v0.n), (.str v0.s), (.slice (List.map encValue v0.l) [] false), (.slice (List.map encMember v0.m) [] false)] ∧ u = []
abbrev seinekeep_Size_l2X (v0 : GValue) (p : Int) (r : Ex × List PV × UP) : Prop := (fun (p : Int) => ∃ (i_31 : Int), r = (Ex.brk 2, [(.ptr 0 1 0), (.int .i64 p), (.int .i64 i_31), (.int .i64 v0.kind), (.int .i64 v0.n), (.str v0.s), (.slice (List.map encValue v0.l) [] false), (.slice (List.map encMember v0.m) [] false)], [])) p
noncomputable def seinekeep_Size_B (v0 : GValue) : Option Int :=
  bnd (tloop (seinekeep_Size_l1T v0) ((IntKind.wrap .i64 (1 + (List.length v0.s : Int))), 0)) fun n_12 =>
  bnd (tloop (seinekeep_Size_l2T v0) (n_12, 0)) fun n_30 =>
  some n_30
def seinekeep_Size_ds : Decs := { decs := [(21, (.ref shValue)), (23, (.int .i64)), (36, (.ref shMember)), (44, (.ref shMember)), (47, (.int .i64))], ups := [], loops := [(3, [(1, 5)], ⟨[(.ptr 0 1 0), (.int .i64), (.int .i64), (.int .i64), (.int .i64), .str, (.sl false), (.sl false)], [], [(some 0, [(.ptr 0 1 0), (.int .i64), (.int .i64), (.int .i64), (.int .i64), .str, (.sl false), (.sl false)], [])]⟩), (7, [(1, 5)], ⟨[(.ptr 0 1 0), (.int .i64), (.int .i64), (.int .i64), (.int .i64), .str, (.sl false), (.sl false)], [], [(some 2, [(.ptr 0 1 0), (.int .i64), (.int .i64), (.int .i64), (.int .i64), .str, (.sl false), (.sl false)], [])]⟩)] }
set_option maxRecDepth 100000 in
theorem seinekeep_Size_t1 (O : Orc) (LP : LBody → LBody) (v0 : GValue) : evalBodyD Try.prog (MT 13) seinekeep_Size_ds Try.f13.ntmps O LP Try.f13 [(.agg [(.int .i64 v0.kind), (.int .i64 v0.n), (.str v0.s), (.slice (List.map encValue v0.l) [] false), (.slice (List.map encMember v0.m) [] false)])] [] = seinekeep_Size_T1 O LP v0 := by kernel_rfl
theorem seinekeep_Size_l1_ok (v0 : GValue) : ∀ st l u, seinekeep_Size_l1R v0 st l u → Imp (seinekeep_Size_l1T v0 st) (seinekeep_Size_l1 O loopLim l u) (StepR (seinekeep_Size_l1R v0) (seinekeep_Size_l1X v0)) := by
  rintro ⟨n_6, i_7⟩ l u ⟨rfl, rfl⟩
  simp only [seinekeep_Size_l1T, seinekeep_Size_l1]
  refine Imp.chk rfl (Imp.chk rfl ?_)
  try simp only [evs, tys]
  refine Imp.cnd ?_ ?_
  · refine Imp.op (f := fun a => .ref (encValue a)) (fun a h => op_ix (enc := encValue) (by first | rfl | simp only [evs, tys, evl]) ⟨by first | rfl | simp only [evs, tys, evc], by decide⟩ h) (fun a => chk_GValue a) fun y9 hy9 => ?_
    try simp only [evs, tys]
    refine Imp.call (f := seinekeep_SizeE) rfl (fun a h => by first | exact seinekeep_Size_spec h | simpa only [evs, tys, evl] using seinekeep_Size_spec h) (fun a => by first | rfl | simp only [seinekeep_SizeE, evk, chks]) fun y11 hy11 => ?_
    try simp only [seinekeep_SizeE, evs, tys]
    exact Imp.some (StepR.next ⟨by first | rfl | simp only [evs, tys, evl], rfl⟩)
  · exact Imp.some (StepR.brk ⟨i_7, by first | rfl | simp only [evs, tys, evl, elim_inl, elim_inr]⟩)
theorem seinekeep_Size_l2_ok (v0 : GValue) : ∀ st l u, seinekeep_Size_l2R v0 st l u → Imp (seinekeep_Size_l2T v0 st) (seinekeep_Size_l2 O loopLim l u) (StepR (seinekeep_Size_l2R v0) (seinekeep_Size_l2X v0)) := by
  rintro ⟨n_22, i_23⟩ l u ⟨rfl, rfl⟩
  simp only [seinekeep_Size_l2T, seinekeep_Size_l2]
  refine Imp.chk rfl (Imp.chk rfl ?_)
  try simp only [evs, tys]
  refine Imp.cnd ?_ ?_
  · refine Imp.op (f := fun a => .ref (encMember a)) (fun a h => op_ix (enc := encMember) (by first | rfl | simp only [evs, tys, evl]) ⟨by first | rfl | simp only [evs, tys, evc], by decide⟩ h) (fun a => chk_GMember a) fun y25 hy25 => ?_
    try simp only [evs, tys]
    refine Imp.op (f := fun a => .ref (encMember a)) (fun a h => op_ix (enc := encMember) (by first | rfl | simp only [evs, tys, evl]) ⟨by first | rfl | simp only [evs, tys, evc], by decide⟩ h) (fun a => chk_GMember a) fun y27 hy27 => ?_
    try simp only [evs, tys]
    refine Imp.call (f := seinekeep_SizeE) rfl (fun a h => by first | exact seinekeep_Size_spec h | simpa only [evs, tys, evl] using seinekeep_Size_spec h) (fun a => by first | rfl | simp only [seinekeep_SizeE, evk, chks]) fun y29 hy29 => ?_
    try simp only [seinekeep_SizeE, evs, tys]
    exact Imp.some (StepR.next ⟨by first | rfl | simp only [evs, tys, evl], rfl⟩)
  · exact Imp.some (StepR.brk ⟨i_23, by first | rfl | simp only [evs, tys, evl, elim_inl, elim_inr]⟩)
theorem seinekeep_Size_imp (v0 : GValue) : Imp (seinekeep_Size_B v0) (seinekeep_Size_T1 O loopLim v0) (fun r v => v = (seinekeep_SizeE r, [])) := by
  simp only [seinekeep_Size_B, seinekeep_Size_T1]
  try simp only [evs, tys]
  refine Imp.bnd (Imp.loop (seinekeep_Size_l1_ok v0) ⟨by first | rfl | simp only [evs, tys, evl], rfl⟩) ?_
  rintro n_12 vy14 hy14
  obtain ⟨i_13, rfl⟩ := hy14
  refine Imp.exHit rfl (Imp.chk rfl (Imp.chk rfl ?_))
  try simp only [evs, tys]
  refine Imp.bnd (Imp.loop (seinekeep_Size_l2_ok v0) ⟨by first | rfl | simp only [evs, tys, evl], rfl⟩) ?_
  rintro n_30 vy32 hy32
  obtain ⟨i_31, rfl⟩ := hy32
  refine Imp.exHit rfl (Imp.chk rfl (Imp.chk rfl ?_))
  try simp only [evs, tys]
  exact Imp.some (by first | rfl | simp only [seinekeep_SizeE, evs, tys, evl])
theorem seinekeep_Size_run {v0 : GValue} {r : Int} (h : seinekeep_Size_B v0 = some r) : seinekeep_Size v0 = some r := by
  obtain ⟨v, hv, rfl⟩ := seinekeep_Size_imp v0 r h
  exact tO_of (pair_inj seinekeep_SizeEj) (OL_runD seinekeep_Size_ds rfl rfl Try.func13 ((seinekeep_Size_t1 _ _ v0).trans hv))

def vars_of_l1 (O : Orc) (LP : LBody → LBody) : LBody := fun s26 s26u => cnd (chkL [(.vec 1), (.sl false), (.int .i64), (.int .i64), (.sl false), (.int .i64), (.int .i64), .str, (.int .i64), (.int .i64), .str, (.sl false), (.sl false)] s26) (cnd (chkU [] s26u)
  (cnd (decide ((intV (gt s26 6)) < (intV (gt s26 5))))
   (bnd (ix 1 (.slice (esV (gt s26 4)) [] false) (.int .i64 (intV (gt s26 6)))) fun x33 => cnd (chk (.ref .str) x33)
   (callp O 45 [(.vec 1 (vecV (gt s26 0))), (.str (strV (refV x33)))] fun x35 => cnd (chk (.vec 1) x35)
   (some (.nrm, [(.vec 1 (vecV x35)), (.slice (esV (gt s26 1)) [] false), (.int .i64 (intV (gt s26 2))), (.int .i64 (intV (gt s26 3))), (.slice (esV (gt s26 4)) [] false), (.int .i64 (intV (gt s26 5))), (.int .i64 (IntKind.wrap .i64 ((intV (gt s26 6)) + 1))), (.str (strV (gt s26 7))), (.int .i64 (intV (gt s26 8))), (.int .i64 (intV (gt s26 9))), (.str (strV (gt s26 10))), (.slice (esV (gt s26 11)) [] false), (.slice (esV (gt s26 12)) [] false)], [])) none) none)
   (some (.brk 2, [(.vec 1 (vecV (gt s26 0))), (.slice (esV (gt s26 1)) [] false), (.int .i64 (intV (gt s26 2))), (.int .i64 (intV (gt s26 3))), (.slice (esV (gt s26 4)) [] false), (.int .i64 (intV (gt s26 5))), (.int .i64 (intV (gt s26 6))), (.str (strV (gt s26 7))), (.int .i64 (intV (gt s26 8))), (.int .i64 (intV (gt s26 9))), (.str (strV (gt s26 10))), (.slice (esV (gt s26 11)) [] false), (.slice (esV (gt s26 12)) [] false)], []))) none) none
def vars_of_l2 (O : Orc) (LP : LBody → LBody) : LBody := fun s1 s1u => cnd (chkL [(.vec 1), (.sl false), (.int .i64), (.int .i64)] s1) (cnd (chkU [] s1u)
  (cnd (decide ((intV (gt s1 3)) < (intV (gt s1 2))))
   (bnd (ix 6 (.slice (esV (gt s1 1)) [] false) (.int .i64 (intV (gt s1 3)))) fun x22 => cnd (chk (.ref shMember) x22)
   (callp O 44 [(.agg [(.int .i64 (intV (gt (aggV (refV x22)) 1))), (.int .i64 (intV (gt (aggV (refV x22)) 2))), (.str (strV (gt (aggV (refV x22)) 3))), (.slice (esV (gt (aggV (refV x22)) 4)) [] false), (.slice (esV (gt (aggV (refV x22)) 5)) [] false)])] fun x24 => cnd (chk (.sl false) x24)
   (bnd (LP (vars_of_l1 O LP) [(.vec 1 (vecV (gt s1 0))), (.slice (esV (gt s1 1)) [] false), (.int .i64 (intV (gt s1 2))), (.int .i64 (intV (gt s1 3))), (.slice (esV x24) [] false), (.int .i64 (List.length (esV x24) : Int)), (.int .i64 0), (.str (strV (gt (aggV (refV x22)) 0))), (.int .i64 (intV (gt (aggV (refV x22)) 1))), (.int .i64 (intV (gt (aggV (refV x22)) 2))), (.str (strV (gt (aggV (refV x22)) 3))), (.slice (esV (gt (aggV (refV x22)) 4)) [] false), (.slice (esV (gt (aggV (refV x22)) 5)) [] false)] []) fun y39 =>
   exIs y39.1 (some 2) (cnd (chkL [(.vec 1), (.sl false), (.int .i64), (.int .i64), (.sl false), (.int .i64), (.int .i64), .str, (.int .i64), (.int .i64), .str, (.sl false), (.sl false)] y39.2.1) (cnd (chkU [] y39.2.2)
    (some (.nrm, [(.vec 1 (vecV (gt y39.2.1 0))), (.slice (esV (gt y39.2.1 1)) [] false), (.int .i64 (intV (gt y39.2.1 2))), (.int .i64 (IntKind.wrap .i64 ((intV (gt y39.2.1 3)) + 1)))], [])) none) none)
   (none)) none) none)
   (some (.brk 0, [(.vec 1 (vecV (gt s1 0))), (.slice (esV (gt s1 1)) [] false), (.int .i64 (intV (gt s1 2))), (.int .i64 (intV (gt s1 3)))], []))) none) none
def vars_of_T1 (O : Orc) (LP : LBody → LBody) (l0 : List Str) (args : List GMember) : Option (PV × UP) :=
  bnd (LP (vars_of_l2 O LP) [(.vec 1 (List.map PV.str l0)), (.slice (List.map encMember args) [] false), (.int .i64 (List.length (List.map encMember args) : Int)), (.int .i64 0)] []) fun y42 =>
  exIs y42.1 (some 0) (cnd (chkL [(.vec 1), (.sl false), (.int .i64), (.int .i64)] y42.2.1) (cnd (chkU [] y42.2.2)
   (some ((.vec 1 (vecV (gt y42.2.1 0))), [])) none) none)
  (none)
noncomputable def vars_of_l1T (y25 : List Str) : ((List Str) × Int) → Option (((List Str) × Int) ⊕ ((List Str)))
  | (l_31, t_32) =>
  cnd (decide (t_32 < (List.length y25 : Int)))
   (bnd (nthI y25 t_32) fun y34 =>
   bnd (vars_insert l_31 y34) fun y36 =>
   some (.inl (y36, (IntKind.wrap .i64 (t_32 + 1)))))
   (some (.inr l_31))
abbrev vars_of_l1R (args : List GMember) (t_21 : Int) (y23 : GMember) (y25 : List Str) (st : (List Str) × Int) (l : List PV) (u : UP) : Prop := l = [(.vec 1 (List.map PV.str st.1)), (.slice (List.map encMember args) [] false), (.int .i64 (List.length args : Int)), (.int .i64 t_21), (.slice (List.map PV.str y25) [] false), (.int .i64 (List.length y25 : Int)), (.int .i64 st.2), (.str y23.name), (.int .i64 y23.v.kind), (.int .i64 y23.v.n), (.str y23.v.s), (.slice (List.map encValue y23.v.l) [] false), (.slice (List.map encMember y23.v.m) [] false)] ∧ u = []
abbrev vars_of_l1X (args : List GMember) (t_21 : Int) (y23 : GMember) (y25 : List Str) (p : (List Str)) (r : Ex × List PV × UP) : Prop := (fun (p : (List Str)) => ∃ (t_38 : Int), r = (Ex.brk 2, [(.vec 1 (List.map PV.str p)), (.slice (List.map encMember args) [] false), (.int .i64 (List.length args : Int)), (.int .i64 t_21), (.slice (List.map PV.str y25) [] false), (.int .i64 (List.length y25 : Int)), (.int .i64 t_38), (.str y23.name), (.int .i64 y23.v.kind), (.int .i64 y23.v.n), (.str y23.v.s), (.slice (List.map encValue y23.v.l) [] false), (.slice (List.map encMember y23.v.m) [] false)], [])) p
noncomputable def vars_of_l2T (args : List GMember) : ((List Str) × Int) → Option (((List Str) × Int) ⊕ ((List Str)))
  | (l_20, t_21) =>
  cnd (decide (t_21 < (List.length args : Int)))
   (bnd (nthI args t_21) fun y23 =>
   bnd (value_Vars y23.v) fun y25 =>
   bnd (tloop (vars_of_l1T y25) (l_20, 0)) fun l_37 =>
   some (.inl (l_37, (IntKind.wrap .i64 (t_21 + 1)))))
   (some (.inr l_20))
abbrev vars_of_l2R (args : List GMember) (st : (List Str) × Int) (l : List PV) (u : UP) : Prop := l = [(.vec 1 (List.map PV.str st.1)), (.slice (List.map encMember args) [] false), (.int .i64 (List.length args : Int)), (.int .i64 st.2)] ∧ u = []
abbrev vars_of_l2X (args : List GMember) (p : (List Str)) (r : Ex × List PV × UP) : Prop := (fun (p : (List Str)) => ∃ (t_41 : Int), r = (Ex.brk 0, [(.vec 1 (List.map PV.str p)), (.slice (List.map encMember args) [] false), (.int .i64 (List.length args : Int)), (.int .i64 t_41)], [])) p
noncomputable def vars_of_B (l0 : List Str) (args : List GMember) : Option (List Str) :=
  bnd (tloop (vars_of_l2T args) (l0, 0)) fun l_40 =>
  some l_40
def vars_of_ds : Decs := { decs := [(13, (.ref shMember)), (17, (.sl false)), (21, (.ref .str)), (25, (.vec 1))], ups := [], loops := [(2, [], ⟨[(.vec 1), (.sl false), (.int .i64), (.int .i64)], [], [(some 0, [(.vec 1), (.sl false), (.int .i64), (.int .i64)], [])]⟩), (5, [(6, 6)], ⟨[(.vec 1), (.sl false), (.int .i64), (.int .i64), (.sl false), (.int .i64), (.int .i64), .str, (.int .i64), (.int .i64), .str, (.sl false), (.sl false)], [], [(some 2, [(.vec 1), (.sl false), (.int .i64), (.int .i64), (.sl false), (.int .i64), (.int .i64), .str, (.int .i64), (.int .i64), .str, (.sl false), (.sl false)], [])]⟩)] }
set_option maxRecDepth 100000 in
theorem vars_of_t1 (O : Orc) (LP : LBody → LBody) (l0 : List Str) (args : List GMember) : evalBodyD Try.prog (MT 27) vars_of_ds Try.f27.ntmps O LP Try.f27 [(.vec 1 (List.map PV.str l0)), (.slice (List.map encMember args) [] false)] [] = vars_of_T1 O LP l0 args := by kernel_rfl
theorem vars_of_l1_ok (args : List GMember) (t_21 : Int) (y23 : GMember) (y25 : List Str) : ∀ st l u, vars_of_l1R args t_21 y23 y25 st l u → Imp (vars_of_l1T y25 st) (vars_of_l1 O loopLim l u) (StepR (vars_of_l1R args t_21 y23 y25) (vars_of_l1X args t_21 y23 y25)) := by
  rintro ⟨l_31, t_32⟩ l u ⟨rfl, rfl⟩
  simp only [vars_of_l1T, vars_of_l1]
  refine Imp.chk rfl (Imp.chk rfl ?_)
  try simp only [evs, tys]
  refine Imp.cnd ?_ ?_
  · refine Imp.op (f := fun a => .ref (PV.str a)) (fun a h => op_ix (enc := PV.str) (by first | rfl | simp only [evs, tys, evl]) ⟨by first | rfl | simp only [evs, tys, evc], by decide⟩ h) (fun a => rfl) fun y34 hy34 => ?_
    try simp only [evs, tys]
    refine Imp.call (f := vars_insertE) rfl (fun a h => by first | exact vars_insert_spec h | simpa only [evs, tys, evl] using vars_insert_spec h) (fun a => by first | rfl | simp only [vars_insertE, evk, chks]) fun y36 hy36 => ?_
    try simp only [vars_insertE, evs, tys]
    exact Imp.some (StepR.next ⟨by first | rfl | simp only [evs, tys, evl], rfl⟩)
  · exact Imp.some (StepR.brk ⟨t_32, by first | rfl | simp only [evs, tys, evl, elim_inl, elim_inr]⟩)
theorem vars_of_l2_ok (args : List GMember) : ∀ st l u, vars_of_l2R args st l u → Imp (vars_of_l2T args st) (vars_of_l2 O loopLim l u) (StepR (vars_of_l2R args) (vars_of_l2X args)) := by
  rintro ⟨l_20, t_21⟩ l u ⟨rfl, rfl⟩
  simp only [vars_of_l2T, vars_of_l2]
  refine Imp.chk rfl (Imp.chk rfl ?_)
  try simp only [evs, tys]
  refine Imp.cnd ?_ ?_
  · refine Imp.op (f := fun a => .ref (encMember a)) (fun a h => op_ix (enc := encMember) (by first | rfl | simp only [evs, tys, evl]) ⟨by first | rfl | simp only [evs, tys, evc], by decide⟩ h) (fun a => chk_GMember a) fun y23 hy23 => ?_
    try simp only [evs, tys]
    refine Imp.call (f := value_VarsE) rfl (fun a h => by first | exact value_Vars_spec h | simpa only [evs, tys, evl] using value_Vars_spec h) (fun a => by first | rfl | simp only [value_VarsE, evk, chks]) fun y25 hy25 => ?_
    try simp only [value_VarsE, evs, tys]
    refine Imp.bnd (Imp.loop (vars_of_l1_ok args t_21 y23 y25) ⟨by first | rfl | simp only [evs, tys, evl], rfl⟩) ?_
    rintro l_37 vy39 hy39
    obtain ⟨t_38, rfl⟩ := hy39
    refine Imp.exHit rfl (Imp.chk rfl (Imp.chk rfl ?_))
    try simp only [evs, tys]
    exact Imp.some (StepR.next ⟨by first | rfl | simp only [evs, tys, evl], rfl⟩)
  · exact Imp.some (StepR.brk ⟨t_21, by first | rfl | simp only [evs, tys, evl, elim_inl, elim_inr]⟩)
theorem vars_of_imp (l0 : List Str) (args : List GMember) : Imp (vars_of_B l0 args) (vars_of_T1 O loopLim l0 args) (fun r v => v = (vars_ofE r, [])) := by
  simp only [vars_of_B, vars_of_T1]
  try simp only [evs, tys]
  refine Imp.bnd (Imp.loop (vars_of_l2_ok args) ⟨by first | rfl | simp only [evs, tys, evl], rfl⟩) ?_
  rintro l_40 vy42 hy42
  obtain ⟨t_41, rfl⟩ := hy42
  refine Imp.exHit rfl (Imp.chk rfl (Imp.chk rfl ?_))
  try simp only [evs, tys]
  exact Imp.some (by first | rfl | simp only [vars_ofE, evs, tys, evl])
theorem vars_of_run {l0 : List Str} {args : List GMember} {r : List Str} (h : vars_of_B l0 args = some r) : vars_of l0 args = some r := by
  obtain ⟨v, hv, rfl⟩ := vars_of_imp l0 args r h
  exact tO_of (pair_inj vars_ofEj) (OL_runD vars_of_ds rfl rfl Try.func27 ((vars_of_t1 _ _ l0 args).trans hv))

def vars_written_i1_l1 (O : Orc) (LP : LBody → LBody) : LBody := fun s28 s28u => cnd (chkL [(.vec 1), (.ptr 0 6 0), (.sl false), (.int .i64), (.int .i64), (.sl false), (.int .i64), (.int .i64), (.int .i64), .str, .str, (.sl false), (.sl false), .str, (.sl false)] s28) (cnd (chkU [] s28u)
  (cnd (decide ((intV (gt s28 7)) < (intV (gt s28 6))))
   (bnd (ix 2 (.slice (esV (gt s28 5)) [] false) (.int .i64 (intV (gt s28 7)))) fun x35 => cnd (chk (.ref shDir) x35)
   (callp O 27 [(.vec 1 (vecV (gt s28 0))), (.slice (esV (gt (aggV (refV x35)) 1)) [] false)] fun x37 => cnd (chk (.vec 1) x37)
   (some (.nrm, [(.vec 1 (vecV x37)), (.ptr 0 6 0), (.slice (esV (gt s28 2)) [] false), (.int .i64 (intV (gt s28 3))), (.int .i64 (intV (gt s28 4))), (.slice (esV (gt s28 5)) [] false), (.int .i64 (intV (gt s28 6))), (.int .i64 (IntKind.wrap .i64 ((intV (gt s28 7)) + 1))), (.int .i64 (intV (gt s28 8))), (.str (strV (gt s28 9))), (.str (strV (gt s28 10))), (.slice (esV (gt s28 11)) [] false), (.slice (esV (gt s28 12)) [] false), (.str (strV (gt s28 13))), (.slice (esV (gt s28 14)) [] false)], [])) none) none)
   (some (.brk 2, [(.vec 1 (vecV (gt s28 0))), (.ptr 0 6 0), (.slice (esV (gt s28 2)) [] false), (.int .i64 (intV (gt s28 3))), (.int .i64 (intV (gt s28 4))), (.slice (esV (gt s28 5)) [] false), (.int .i64 (intV (gt s28 6))), (.int .i64 (intV (gt s28 7))), (.int .i64 (intV (gt s28 8))), (.str (strV (gt s28 9))), (.str (strV (gt s28 10))), (.slice (esV (gt s28 11)) [] false), (.slice (esV (gt s28 12)) [] false), (.str (strV (gt s28 13))), (.slice (esV (gt s28 14)) [] false)], []))) none) none
def vars_written_i1_l2 (O : Orc) (LP : LBody → LBody) : LBody := fun s1 s1u => cnd (chkL [(.vec 1), (.sl false), (.int .i64), (.int .i64)] s1) (cnd (chkU [] s1u)
  (cnd (decide ((intV (gt s1 3)) < (intV (gt s1 2))))
   (bnd (ix 7 (.slice (esV (gt s1 1)) [] false) (.int .i64 (intV (gt s1 3)))) fun x24 => cnd (chk (.ref shSel) x24)
   (callp O 27 [(.vec 1 (vecV (gt s1 0))), (.slice (esV (gt (aggV (refV x24)) 3)) [] false)] fun x26 => cnd (chk (.vec 1) x26)
   (bnd (LP (vars_written_i1_l1 O LP) [(.vec 1 (vecV x26)), (.ptr 0 6 0), (.slice (esV (gt s1 1)) [] false), (.int .i64 (intV (gt s1 2))), (.int .i64 (intV (gt s1 3))), (.slice (esV (gt (aggV (refV x24)) 4)) [] false), (.int .i64 (List.length (esV (gt (aggV (refV x24)) 4)) : Int)), (.int .i64 0), (.int .i64 (intV (gt (aggV (refV x24)) 0))), (.str (strV (gt (aggV (refV x24)) 1))), (.str (strV (gt (aggV (refV x24)) 2))), (.slice (esV (gt (aggV (refV x24)) 3)) [] false), (.slice (esV (gt (aggV (refV x24)) 4)) [] false), (.str (strV (gt (aggV (refV x24)) 5))), (.slice (esV (gt (aggV (refV x24)) 6)) [] false)] []) fun y41 =>
   exIs y41.1 (some 2) (cnd (chkL [(.vec 1), (.ptr 0 6 0), (.sl false), (.int .i64), (.int .i64), (.sl false), (.int .i64), (.int .i64), (.int .i64), .str, .str, (.sl false), (.sl false), .str, (.sl false)] y41.2.1) (cnd (chkU [] y41.2.2)
    (callp O 17 [(.vec 1 (vecV (gt y41.2.1 0))), (.slice (esV (gt y41.2.1 14)) [] false)] fun x42 => cnd (chk (.vec 1) x42)
    (some (.nrm, [(.vec 1 (vecV x42)), (.slice (esV (gt y41.2.1 2)) [] false), (.int .i64 (intV (gt y41.2.1 3))), (.int .i64 (IntKind.wrap .i64 ((intV (gt y41.2.1 4)) + 1)))], [])) none) none) none)
   (none)) none) none)
   (some (.brk 0, [(.vec 1 (vecV (gt s1 0))), (.slice (esV (gt s1 1)) [] false), (.int .i64 (intV (gt s1 2))), (.int .i64 (intV (gt s1 3)))], []))) none) none
def vars_written_i1_T1 (O : Orc) (LP : LBody → LBody) (l0 : List Str) (sels : List GSel) : Option (PV × UP) :=
  bnd (LP (vars_written_i1_l2 O LP) [(.vec 1 (List.map PV.str l0)), (.slice (List.map encSel sels) [] false), (.int .i64 (List.length (List.map encSel sels) : Int)), (.int .i64 0)] []) fun y46 =>
  exIs y46.1 (some 0) (cnd (chkL [(.vec 1), (.sl false), (.int .i64), (.int .i64)] y46.2.1) (cnd (chkU [] y46.2.2)
   (some ((.vec 1 (vecV (gt y46.2.1 0))), [])) none) none)
  (none)
noncomputable def vars_written_i1_l1T (y25 : GSel) : ((List Str) × Int) → Option (((List Str) × Int) ⊕ ((List Str)))
  | (l_33, t_34) =>
  cnd (decide (t_34 < (List.length y25.dirs : Int)))
   (bnd (nthI y25.dirs t_34) fun y36 =>
   bnd (vars_of l_33 y36.args) fun y38 =>
   some (.inl (y38, (IntKind.wrap .i64 (t_34 + 1)))))
   (some (.inr l_33))
abbrev vars_written_i1_l1R (sels : List GSel) (t_23 : Int) (y25 : GSel) (st : (List Str) × Int) (l : List PV) (u : UP) : Prop := l = [(.vec 1 (List.map PV.str st.1)), (.ptr 0 6 0), (.slice (List.map encSel sels) [] false), (.int .i64 (List.length sels : Int)), (.int .i64 t_23), (.slice (List.map encDir y25.dirs) [] false), (.int .i64 (List.length y25.dirs : Int)), (.int .i64 st.2), (.int .i64 y25.kind), (.str y25.alias), (.str y25.name), (.slice (List.map encMember y25.args) [] false), (.slice (List.map encDir y25.dirs) [] false), (.str y25.on_), (.slice (List.map encSel y25.sels) [] false)] ∧ u = []
abbrev vars_written_i1_l1X (sels : List GSel) (t_23 : Int) (y25 : GSel) (p : (List Str)) (r : Ex × List PV × UP) : Prop := (fun (p : (List Str)) => ∃ (t_40 : Int), r = (Ex.brk 2, [(.vec 1 (List.map PV.str p)), (.ptr 0 6 0), (.slice (List.map encSel sels) [] false), (.int .i64 (List.length sels : Int)), (.int .i64 t_23), (.slice (List.map encDir y25.dirs) [] false), (.int .i64 (List.length y25.dirs : Int)), (.int .i64 t_40), (.int .i64 y25.kind), (.str y25.alias), (.str y25.name), (.slice (List.map encMember y25.args) [] false), (.slice (List.map encDir y25.dirs) [] false), (.str y25.on_), (.slice (List.map encSel y25.sels) [] false)], [])) p
noncomputable def vars_written_i1_l2T (sels : List GSel) : ((List Str) × Int) → Option (((List Str) × Int) ⊕ ((List Str)))
  | (l_22, t_23) =>
  cnd (decide (t_23 < (List.length sels : Int)))
   (bnd (nthI sels t_23) fun y25 =>
   bnd (vars_of l_22 y25.args) fun y27 =>
   bnd (tloop (vars_written_i1_l1T y25) (y27, 0)) fun l_39 =>
   bnd (vars_written_i1 l_39 y25.sels) fun y43 =>
   some (.inl (y43, (IntKind.wrap .i64 (t_23 + 1)))))
   (some (.inr l_22))
abbrev vars_written_i1_l2R (sels : List GSel) (st : (List Str) × Int) (l : List PV) (u : UP) : Prop := l = [(.vec 1 (List.map PV.str st.1)), (.slice (List.map encSel sels) [] false), (.int .i64 (List.length sels : Int)), (.int .i64 st.2)] ∧ u = []
abbrev vars_written_i1_l2X (sels : List GSel) (p : (List Str)) (r : Ex × List PV × UP) : Prop := (fun (p : (List Str)) => ∃ (t_45 : Int), r = (Ex.brk 0, [(.vec 1 (List.map PV.str p)), (.slice (List.map encSel sels) [] false), (.int .i64 (List.length sels : Int)), (.int .i64 t_45)], [])) p
noncomputable def vars_written_i1_B (l0 : List Str) (sels : List GSel) : Option (List Str) :=
  bnd (tloop (vars_written_i1_l2T sels) (l0, 0)) fun l_44 =>
  some l_44
def vars_written_i1_ds : Decs := { decs := [(13, (.ref shSel)), (18, (.vec 1)), (24, (.ref shDir)), (29, (.vec 1)), (34, (.vec 1))], ups := [], loops := [(2, [], ⟨[(.vec 1), (.sl false), (.int .i64), (.int .i64)], [], [(some 0, [(.vec 1), (.sl false), (.int .i64), (.int .i64)], [])]⟩), (6, [(6, 7)], ⟨[(.vec 1), (.ptr 0 6 0), (.sl false), (.int .i64), (.int .i64), (.sl false), (.int .i64), (.int .i64), (.int .i64), .str, .str, (.sl false), (.sl false), .str, (.sl false)], [], [(some 2, [(.vec 1), (.ptr 0 6 0), (.sl false), (.int .i64), (.int .i64), (.sl false), (.int .i64), (.int .i64), (.int .i64), .str, .str, (.sl false), (.sl false), .str, (.sl false)], [])]⟩)] }
set_option maxRecDepth 100000 in
theorem vars_written_i1_t1 (O : Orc) (LP : LBody → LBody) (l0 : List Str) (sels : List GSel) : evalBodyD Try.prog (MT 17) vars_written_i1_ds Try.f17.ntmps O LP Try.f17 [(.vec 1 (List.map PV.str l0)), (.slice (List.map encSel sels) [] false)] [] = vars_written_i1_T1 O LP l0 sels := by kernel_rfl
theorem vars_written_i1_l1_ok (sels : List GSel) (t_23 : Int) (y25 : GSel) : ∀ st l u, vars_written_i1_l1R sels t_23 y25 st l u → Imp (vars_written_i1_l1T y25 st) (vars_written_i1_l1 O loopLim l u) (StepR (vars_written_i1_l1R sels t_23 y25) (vars_written_i1_l1X sels t_23 y25)) := by
  rintro ⟨l_33, t_34⟩ l u ⟨rfl, rfl⟩
  simp only [vars_written_i1_l1T, vars_written_i1_l1]
  refine Imp.chk rfl (Imp.chk rfl ?_)
  try simp only [evs, tys]
  refine Imp.cnd ?_ ?_
  · refine Imp.op (f := fun a => .ref (encDir a)) (fun a h => op_ix (enc := encDir) (by first | rfl | simp only [evs, tys, evl]) ⟨by first | rfl | simp only [evs, tys, evc], by decide⟩ h) (fun a => chk_GDir a) fun y36 hy36 => ?_
    try simp only [evs, tys]
    refine Imp.call (f := vars_ofE) rfl (fun a h => by first | exact vars_of_spec h | simpa only [evs, tys, evl] using vars_of_spec h) (fun a => by first | rfl | simp only [vars_ofE, evk, chks]) fun y38 hy38 => ?_
    try simp only [vars_ofE, evs, tys]
    exact Imp.some (StepR.next ⟨by first | rfl | simp only [evs, tys, evl], rfl⟩)
  · exact Imp.some (StepR.brk ⟨t_34, by first | rfl | simp only [evs, tys, evl, elim_inl, elim_inr]⟩)
theorem vars_written_i1_l2_ok (sels : List GSel) : ∀ st l u, vars_written_i1_l2R sels st l u → Imp (vars_written_i1_l2T sels st) (vars_written_i1_l2 O loopLim l u) (StepR (vars_written_i1_l2R sels) (vars_written_i1_l2X sels)) := by
  rintro ⟨l_22, t_23⟩ l u ⟨rfl, rfl⟩
  simp only [vars_written_i1_l2T, vars_written_i1_l2]
  refine Imp.chk rfl (Imp.chk rfl ?_)
  try simp only [evs, tys]
  refine Imp.cnd ?_ ?_
  · refine Imp.op (f := fun a => .ref (encSel a)) (fun a h => op_ix (enc := encSel) (by first | rfl | simp only [evs, tys, evl]) ⟨by first | rfl | simp only [evs, tys, evc], by decide⟩ h) (fun a => chk_GSel a) fun y25 hy25 => ?_
    try simp only [evs, tys]
    refine Imp.call (f := vars_ofE) rfl (fun a h => by first | exact vars_of_spec h | simpa only [evs, tys, evl] using vars_of_spec h) (fun a => by first | rfl | simp only [vars_ofE, evk, chks]) fun y27 hy27 => ?_
    try simp only [vars_ofE, evs, tys]
    refine Imp.bnd (Imp.loop (vars_written_i1_l1_ok sels t_23 y25) ⟨by first | rfl | simp only [evs, tys, evl], rfl⟩) ?_
    rintro l_39 vy41 hy41
    obtain ⟨t_40, rfl⟩ := hy41
    refine Imp.exHit rfl (Imp.chk rfl (Imp.chk rfl ?_))
    try simp only [evs, tys]
    refine Imp.call (f := vars_written_i1E) rfl (fun a h => by first | exact vars_written_i1_spec h | simpa only [evs, tys, evl] using vars_written_i1_spec h) (fun a => by first | rfl | simp only [vars_written_i1E, evk, chks]) fun y43 hy43 => ?_
    try simp only [vars_written_i1E, evs, tys]
    exact Imp.some (StepR.next ⟨by first | rfl | simp only [evs, tys, evl], rfl⟩)
  · exact Imp.some (StepR.brk ⟨t_23, by first | rfl | simp only [evs, tys, evl, elim_inl, elim_inr]⟩)
theorem vars_written_i1_imp (l0 : List Str) (sels : List GSel) : Imp (vars_written_i1_B l0 sels) (vars_written_i1_T1 O loopLim l0 sels) (fun r v => v = (vars_written_i1E r, [])) := by
  simp only [vars_written_i1_B, vars_written_i1_T1]
  try simp only [evs, tys]
  refine Imp.bnd (Imp.loop (vars_written_i1_l2_ok sels) ⟨by first | rfl | simp only [evs, tys, evl], rfl⟩) ?_
  rintro l_44 vy46 hy46
  obtain ⟨t_45, rfl⟩ := hy46
  refine Imp.exHit rfl (Imp.chk rfl (Imp.chk rfl ?_))
  try simp only [evs, tys]
  exact Imp.some (by first | rfl | simp only [vars_written_i1E, evs, tys, evl])
theorem vars_written_i1_run {l0 : List Str} {sels : List GSel} {r : List Str} (h : vars_written_i1_B l0 sels = some r) : vars_written_i1 l0 sels = some r := by
  obtain ⟨v, hv, rfl⟩ := vars_written_i1_imp l0 sels r h
  exact tO_of (pair_inj vars_written_i1Ej) (OL_runD vars_written_i1_ds rfl rfl Try.func17 ((vars_written_i1_t1 _ _ l0 sels).trans hv))
end Go.Proofs.Ytphmfillajagdaa

/- Printed by symgen.py: typed functions of this seat, and why they tell what the program does. -/
set_option linter.unusedVariables false
set_option linter.unusedSimpArgs false
open Go Go.Ev Go.Ev.PV
namespace Go.Proofs.Ytphmfillajagdaa
def graph_Reach_l1 (O : Orc) (LP : LBody → LBody) : LBody := fun s3 s3u => cnd (chkL [(.sl false), (.sl true), (.sl false), (.int .i64), (.int .i64), (.sl false), (.sl false)] s3) (cnd (chkU [] s3u)
  (cnd (decide ((intV (gt s3 4)) < (intV (gt s3 3))))
   (bnd (ix 4 (.slice (esV (gt s3 2)) [] false) (.int .i64 (intV (gt s3 4)))) fun x14 => cnd (chk (.ref shFrag) x14)
   (callp O 29 [(.slice (esV (gt s3 0)) [] false), (.str (strV (gt (aggV (refV x14)) 0)))] fun x16 => cnd (chk .bool x16)
   (cnd (boolV x16)
    (callp O 29 [(.slice (esV (gt s3 1)) [] false), (.str (strV (gt (aggV (refV x14)) 0)))] fun x18 => cnd (chk .bool x18)
    (cnd (!(boolV x18))
     (bnd (apd 1 (.slice (esV (gt s3 1)) [] true) (.slice [(.str (strV (gt (aggV (refV x14)) 0)))] [] true)) fun x20 => cnd (chk (.sl true) x20)
     (some (.nrm, [(.slice (esV (gt s3 0)) [] false), (.slice (esV x20) [] true), (.slice (esV (gt s3 2)) [] false), (.int .i64 (intV (gt s3 3))), (.int .i64 (IntKind.wrap .i64 ((intV (gt s3 4)) + 1))), (.slice (esV (gt s3 5)) [] false), (.slice (esV (gt s3 6)) [] false)], [])) none)
     (some (.nrm, [(.slice (esV (gt s3 0)) [] false), (.slice (esV (gt s3 1)) [] true), (.slice (esV (gt s3 2)) [] false), (.int .i64 (intV (gt s3 3))), (.int .i64 (IntKind.wrap .i64 ((intV (gt s3 4)) + 1))), (.slice (esV (gt s3 5)) [] false), (.slice (esV (gt s3 6)) [] false)], []))) none)
    (some (.nrm, [(.slice (esV (gt s3 0)) [] false), (.slice (esV (gt s3 1)) [] true), (.slice (esV (gt s3 2)) [] false), (.int .i64 (intV (gt s3 3))), (.int .i64 (IntKind.wrap .i64 ((intV (gt s3 4)) + 1))), (.slice (esV (gt s3 5)) [] false), (.slice (esV (gt s3 6)) [] false)], []))) none) none)
   (some (.brk 0, [(.slice (esV (gt s3 0)) [] false), (.slice (esV (gt s3 1)) [] true), (.slice (esV (gt s3 2)) [] false), (.int .i64 (intV (gt s3 3))), (.int .i64 (intV (gt s3 4))), (.slice (esV (gt s3 5)) [] false), (.slice (esV (gt s3 6)) [] false)], []))) none) none
def graph_Reach_T1 (O : Orc) (LP : LBody → LBody) (d : GDoc) (l0 : List GSel) : Option (PV × UP) :=
  callp O 28 [(.agg [(.slice (List.map encOp d.ops) [] false), (.slice (List.map encFrag d.frags) [] false)]), (.slice (List.map encSel l0) [] false)] fun x1 => cnd (chk (.sl false) x1)
  (bnd (LP (graph_Reach_l1 O LP) [(.slice (esV x1) [] false), (.slice [] [] true), (.slice (List.map encFrag d.frags) [] false), (.int .i64 (List.length (List.map encFrag d.frags) : Int)), (.int .i64 0), (.slice (List.map encOp d.ops) [] false), (.slice (List.map encFrag d.frags) [] false)] []) fun y24 =>
  exIs y24.1 (some 0) (cnd (chkL [(.sl false), (.sl true), (.sl false), (.int .i64), (.int .i64), (.sl false), (.sl false)] y24.2.1) (cnd (chkU [] y24.2.2)
   (some ((.slice (esV (gt y24.2.1 1)) [] false), [])) none) none)
  (none)) none
noncomputable def graph_Reach_l1T (d : GDoc) (y2 : List Str) : ((List Str) × Int) → Option (((List Str) × Int) ⊕ ((List Str)))
  | (out_12, t_13) =>
  cnd (decide (t_13 < (List.length d.frags : Int)))
   (bnd (nthI d.frags t_13) fun y15 =>
   bnd (slices_Contains_string_string y2 y15.name) fun y17 =>
   cnd y17
    (bnd (slices_Contains_string_string out_12 y15.name) fun y19 =>
    cnd (!y19)
     (bnd (tapp out_12 [y15.name]) fun y21 =>
     some (.inl (y21, (IntKind.wrap .i64 (t_13 + 1)))))
     (some (.inl (out_12, (IntKind.wrap .i64 (t_13 + 1))))))
    (some (.inl (out_12, (IntKind.wrap .i64 (t_13 + 1))))))
   (some (.inr out_12))
abbrev graph_Reach_l1R (d : GDoc) (y2 : List Str) (st : (List Str) × Int) (l : List PV) (u : UP) : Prop := l = [(.slice (List.map PV.str y2) [] false), (.slice (List.map PV.str st.1) [] true), (.slice (List.map encFrag d.frags) [] false), (.int .i64 (List.length d.frags : Int)), (.int .i64 st.2), (.slice (List.map encOp d.ops) [] false), (.slice (List.map encFrag d.frags) [] false)] ∧ u = []
abbrev graph_Reach_l1X (d : GDoc) (y2 : List Str) (p : (List Str)) (r : Ex × List PV × UP) : Prop := (fun (p : (List Str)) => ∃ (t_23 : Int), r = (Ex.brk 0, [(.slice (List.map PV.str y2) [] false), (.slice (List.map PV.str p) [] true), (.slice (List.map encFrag d.frags) [] false), (.int .i64 (List.length d.frags : Int)), (.int .i64 t_23), (.slice (List.map encOp d.ops) [] false), (.slice (List.map encFrag d.frags) [] false)], [])) p
noncomputable def graph_Reach_B (d : GDoc) (l0 : List GSel) : Option (List Str) :=
  bnd (graph_reached d l0) fun y2 =>
  bnd (tloop (graph_Reach_l1T d y2) ([], 0)) fun out_22 =>
  some out_22
def graph_Reach_ds : Decs := { decs := [(11, (.sl false)), (17, (.ref shFrag)), (22, .bool), (27, .bool), (34, (.sl true))], ups := [], loops := [(4, [(2, 2)], ⟨[(.sl false), (.sl true), (.sl false), (.int .i64), (.int .i64), (.sl false), (.sl false)], [], [(some 0, [(.sl false), (.sl true), (.sl false), (.int .i64), (.int .i64), (.sl false), (.sl false)], [])]⟩)] }
set_option maxRecDepth 100000 in
theorem graph_Reach_t1 (O : Orc) (LP : LBody → LBody) (d : GDoc) (l0 : List GSel) : evalBodyD Try.prog (MT 18) graph_Reach_ds Try.f18.ntmps O LP Try.f18 [(.agg [(.slice (List.map encOp d.ops) [] false), (.slice (List.map encFrag d.frags) [] false)]), (.slice (List.map encSel l0) [] false)] [] = graph_Reach_T1 O LP d l0 := by kernel_rfl
theorem graph_Reach_l1_ok (d : GDoc) (y2 : List Str) : ∀ st l u, graph_Reach_l1R d y2 st l u → Imp (graph_Reach_l1T d y2 st) (graph_Reach_l1 O loopLim l u) (StepR (graph_Reach_l1R d y2) (graph_Reach_l1X d y2)) := by
  rintro ⟨out_12, t_13⟩ l u ⟨rfl, rfl⟩
  simp only [graph_Reach_l1T, graph_Reach_l1]
  refine Imp.chk rfl (Imp.chk rfl ?_)
  try simp only [evs, tys]
  refine Imp.cnd ?_ ?_
  · refine Imp.op (f := fun a => .ref (encFrag a)) (fun a h => op_ix (enc := encFrag) (by first | rfl | simp only [evs, tys, evl]) ⟨by first | rfl | simp only [evs, tys, evc], by decide⟩ h) (fun a => chk_GFrag a) fun y15 hy15 => ?_
    try simp only [evs, tys]
    refine Imp.call (f := slices_Contains_string_stringE) rfl (fun a h => by first | exact slices_Contains_string_string_spec h | simpa only [evs, tys, evl] using slices_Contains_string_string_spec h) (fun a => by first | rfl | simp only [slices_Contains_string_stringE, evk, chks]) fun y17 hy17 => ?_
    try simp only [slices_Contains_string_stringE, evs, tys]
    refine Imp.cnd ?_ ?_
    · refine Imp.call (f := slices_Contains_string_stringE) rfl (fun a h => by first | exact slices_Contains_string_string_spec h | simpa only [evs, tys, evl] using slices_Contains_string_string_spec h) (fun a => by first | rfl | simp only [slices_Contains_string_stringE, evk, chks]) fun y19 hy19 => ?_
      try simp only [slices_Contains_string_stringE, evs, tys]
      refine Imp.cnd ?_ ?_
      · refine Imp.op (f := fun a => .slice (List.map PV.str a) [] true) (fun a h => op_apd (enc := PV.str) (by first | rfl | simp only [evs, tys, evl]) (by first | rfl | simp only [evs, tys, evl]) (fun a => by first | rfl | simp only [evs, tys, evc]) h) (fun a => rfl) fun y21 hy21 => ?_
        try simp only [evs, tys]
        exact Imp.some (StepR.next ⟨by first | rfl | simp only [evs, tys, evl], rfl⟩)
      · exact Imp.some (StepR.next ⟨by first | rfl | simp only [evs, tys, evl], rfl⟩)
    · exact Imp.some (StepR.next ⟨by first | rfl | simp only [evs, tys, evl], rfl⟩)
  · exact Imp.some (StepR.brk ⟨t_13, by first | rfl | simp only [evs, tys, evl, elim_inl, elim_inr]⟩)
theorem graph_Reach_imp (d : GDoc) (l0 : List GSel) : Imp (graph_Reach_B d l0) (graph_Reach_T1 O loopLim d l0) (fun r v => v = (graph_ReachE r, [])) := by
  simp only [graph_Reach_B, graph_Reach_T1]
  try simp only [evs, tys]
  refine Imp.call (f := graph_reachedE) rfl (fun a h => by first | exact graph_reached_spec h | simpa only [evs, tys, evl] using graph_reached_spec h) (fun a => by first | rfl | simp only [graph_reachedE, evk, chks]) fun y2 hy2 => ?_
  try simp only [graph_reachedE, evs, tys]
  refine Imp.bnd (Imp.loop (graph_Reach_l1_ok d y2) ⟨by first | rfl | simp only [evs, tys, evl], rfl⟩) ?_
  rintro out_22 vy24 hy24
  obtain ⟨t_23, rfl⟩ := hy24
  refine Imp.exHit rfl (Imp.chk rfl (Imp.chk rfl ?_))
  try simp only [evs, tys]
  exact Imp.some (by first | rfl | simp only [graph_ReachE, evs, tys, evl])
theorem graph_Reach_run {d : GDoc} {l0 : List GSel} {r : List Str} (h : graph_Reach_B d l0 = some r) : graph_Reach d l0 = some r := by
  obtain ⟨v, hv, rfl⟩ := graph_Reach_imp d l0 r h
  exact tO_of (pair_inj graph_ReachEj) (OL_runD graph_Reach_ds rfl rfl Try.func18 ((graph_Reach_t1 _ _ d l0).trans hv))

def graph_Frag_1_T1 (O : Orc) (LP : LBody → LBody) (f : GFrag) (u0_4 : Str) (u0_40 : Str) (u0_3 : Str) (u0_2 : GDoc) : Option (PV × UP) :=
  some ((.bool (f.name == u0_3)), [[(4, [(.str u0_4), (.str u0_40), (.slice [] [] true), (.slice [] [] true)]), (3, [(.str u0_3)]), (2, [(.slice (List.map encOp u0_2.ops) [] false), (.slice (List.map encFrag u0_2.frags) [] false)])]])
noncomputable def graph_Frag_1_B (f : GFrag) (u0_4 : Str) (u0_40 : Str) (u0_3 : Str) (u0_2 : GDoc) : Option Bool :=
  some (f.name == u0_3)
def graph_Frag_1_ds : Decs := { decs := [], ups := [], loops := [] }
set_option maxRecDepth 100000 in
theorem graph_Frag_1_t1 (O : Orc) (LP : LBody → LBody) (f : GFrag) (u0_4 : Str) (u0_40 : Str) (u0_3 : Str) (u0_2 : GDoc) : evalBodyD Try.prog (MT 31) graph_Frag_1_ds Try.f31.ntmps O LP Try.f31 [(.agg [(.str f.name), (.str f.on_), (.slice (List.map encDir f.dirs) [] false), (.slice (List.map encSel f.sels) [] false)]), (.ptr 1 3 0)] [[(4, [(.str u0_4), (.str u0_40), (.slice [] [] true), (.slice [] [] true)]), (3, [(.str u0_3)]), (2, [(.slice (List.map encOp u0_2.ops) [] false), (.slice (List.map encFrag u0_2.frags) [] false)])]] = graph_Frag_1_T1 O LP f u0_4 u0_40 u0_3 u0_2 := by kernel_rfl
theorem graph_Frag_1_imp (f : GFrag) (u0_4 : Str) (u0_40 : Str) (u0_3 : Str) (u0_2 : GDoc) : Imp (graph_Frag_1_B f u0_4 u0_40 u0_3 u0_2) (graph_Frag_1_T1 O loopLim f u0_4 u0_40 u0_3 u0_2) (fun r v => v = (graph_Frag_1E r, (graph_Frag_1U f u0_4 u0_40 u0_3 u0_2 r))) := by
  simp only [graph_Frag_1_B, graph_Frag_1_T1]
  try simp only [evs, tys]
  exact Imp.some (by first | rfl | simp only [graph_Frag_1E, graph_Frag_1U, evs, tys, evl])
theorem graph_Frag_1_run {f : GFrag} {u0_4 : Str} {u0_40 : Str} {u0_3 : Str} {u0_2 : GDoc} {r : Bool} (h : graph_Frag_1_B f u0_4 u0_40 u0_3 u0_2 = some r) : graph_Frag_1 f u0_4 u0_40 u0_3 u0_2 = some r := by
  obtain ⟨v, hv, rfl⟩ := graph_Frag_1_imp f u0_4 u0_40 u0_3 u0_2 r h
  exact tO_of (fun a b h => graph_Frag_1Ej a b (Prod.mk.inj h).1) (OL_runD graph_Frag_1_ds rfl rfl Try.func31 ((graph_Frag_1_t1 _ _ f u0_4 u0_40 u0_3 u0_2).trans hv))

def slices_IndexFunc_Frag_l1 (O : Orc) (LP : LBody → LBody) : LBody := fun s1 s1u => cnd (chkL [(.sl false), (.func 31 [] [(.ptr 1 3 0)]), (.int .i64), (.int .i64), (.int .i64)] s1) (cnd (chkU [[(4, [.str, .str, (.sl true), (.sl true)]), (3, [.str]), (2, [(.sl false), (.sl false)])]] s1u)
  (cnd (decide ((intV (gt s1 4)) < (intV (gt s1 3))))
   (bnd (ix 4 (.slice (esV (gt s1 0)) [] false) (.int .i64 (intV (gt s1 4)))) fun x7 => cnd (chk (.ref shFrag) x7)
   (bnd (O 31 [(.agg [(.str (strV (gt (aggV (refV x7)) 0))), (.str (strV (gt (aggV (refV x7)) 1))), (.slice (esV (gt (aggV (refV x7)) 2)) [] false), (.slice (esV (gt (aggV (refV x7)) 3)) [] false)]), (.ptr 2 3 0)] [[], [(4, [(.str (strV (gt (boxI (frI s1u 0) 0) 0))), (.str (strV (gt (boxI (frI s1u 0) 0) 1))), (.slice (esV (gt (boxI (frI s1u 0) 0) 2)) [] true), (.slice (esV (gt (boxI (frI s1u 0) 0) 3)) [] true)]), (3, [(.str (strV (gt (boxI (frI s1u 0) 1) 0)))]), (2, [(.slice (esV (gt (boxI (frI s1u 0) 2) 0)) [] false), (.slice (esV (gt (boxI (frI s1u 0) 2) 1)) [] false)])]]) fun x9 => cnd (chkU [[], [(4, [.str, .str, (.sl true), (.sl true)]), (3, [.str]), (2, [(.sl false), (.sl false)])]] x9.2) (cnd (chk .bool x9.1)
   (cnd (boolV x9.1)
    (some (.ret, [(.slice (esV (gt s1 0)) [] false), (.func (.func 31) [] [(.ptr 1 3 0)]), (.int .i64 (intV (gt s1 4))), (.int .i64 (intV (gt s1 3))), (.int .i64 (intV (gt s1 4)))], [[(4, [(.str (strV (gt (boxI (frI x9.2 1) 0) 0))), (.str (strV (gt (boxI (frI x9.2 1) 0) 1))), (.slice (esV (gt (boxI (frI x9.2 1) 0) 2)) [] true), (.slice (esV (gt (boxI (frI x9.2 1) 0) 3)) [] true)]), (3, [(.str (strV (gt (boxI (frI x9.2 1) 1) 0)))]), (2, [(.slice (esV (gt (boxI (frI x9.2 1) 2) 0)) [] false), (.slice (esV (gt (boxI (frI x9.2 1) 2) 1)) [] false)])]]))
    (some (.nrm, [(.slice (esV (gt s1 0)) [] false), (.func (.func 31) [] [(.ptr 1 3 0)]), (.int .i64 (intV (gt s1 2))), (.int .i64 (intV (gt s1 3))), (.int .i64 (IntKind.wrap .i64 ((intV (gt s1 4)) + 1)))], [[(4, [(.str (strV (gt (boxI (frI x9.2 1) 0) 0))), (.str (strV (gt (boxI (frI x9.2 1) 0) 1))), (.slice (esV (gt (boxI (frI x9.2 1) 0) 2)) [] true), (.slice (esV (gt (boxI (frI x9.2 1) 0) 3)) [] true)]), (3, [(.str (strV (gt (boxI (frI x9.2 1) 1) 0)))]), (2, [(.slice (esV (gt (boxI (frI x9.2 1) 2) 0)) [] false), (.slice (esV (gt (boxI (frI x9.2 1) 2) 1)) [] false)])]]))) none) none) none)
   (some (.brk 0, [(.slice (esV (gt s1 0)) [] false), (.func (.func 31) [] [(.ptr 1 3 0)]), (.int .i64 (intV (gt s1 2))), (.int .i64 (intV (gt s1 3))), (.int .i64 (intV (gt s1 4)))], [[(4, [(.str (strV (gt (boxI (frI s1u 0) 0) 0))), (.str (strV (gt (boxI (frI s1u 0) 0) 1))), (.slice (esV (gt (boxI (frI s1u 0) 0) 2)) [] true), (.slice (esV (gt (boxI (frI s1u 0) 0) 3)) [] true)]), (3, [(.str (strV (gt (boxI (frI s1u 0) 1) 0)))]), (2, [(.slice (esV (gt (boxI (frI s1u 0) 2) 0)) [] false), (.slice (esV (gt (boxI (frI s1u 0) 2) 1)) [] false)])]]))) none) none
def slices_IndexFunc_Frag_T1 (O : Orc) (LP : LBody → LBody) (s : List GFrag) (u0_4 : Str) (u0_40 : Str) (u0_3 : Str) (u0_2 : GDoc) : Option (PV × UP) :=
  bnd (LP (slices_IndexFunc_Frag_l1 O LP) [(.slice (List.map encFrag s) [] false), (.func (.func 31) [] [(.ptr 1 3 0)]), (.int .i64 0), (.int .i64 (List.length (List.map encFrag s) : Int)), (.int .i64 0)] [[(4, [(.str u0_4), (.str u0_40), (.slice [] [] true), (.slice [] [] true)]), (3, [(.str u0_3)]), (2, [(.slice (List.map encOp u0_2.ops) [] false), (.slice (List.map encFrag u0_2.frags) [] false)])]]) fun y14 =>
  exIs y14.1 (some 0) (cnd (chkL [(.sl false), (.func 31 [] [(.ptr 1 3 0)]), (.int .i64), (.int .i64), (.int .i64)] y14.2.1) (cnd (chkU [[(4, [.str, .str, (.sl true), (.sl true)]), (3, [.str]), (2, [(.sl false), (.sl false)])]] y14.2.2)
   (some ((.int .i64 (-1)), [[(4, [(.str (strV (gt (boxI (frI y14.2.2 0) 0) 0))), (.str (strV (gt (boxI (frI y14.2.2 0) 0) 1))), (.slice (esV (gt (boxI (frI y14.2.2 0) 0) 2)) [] true), (.slice (esV (gt (boxI (frI y14.2.2 0) 0) 3)) [] true)]), (3, [(.str (strV (gt (boxI (frI y14.2.2 0) 1) 0)))]), (2, [(.slice (esV (gt (boxI (frI y14.2.2 0) 2) 0)) [] false), (.slice (esV (gt (boxI (frI y14.2.2 0) 2) 1)) [] false)])]])) none) none)
  (exIs y14.1 none (cnd (chkL [(.sl false), (.func 31 [] [(.ptr 1 3 0)]), (.int .i64), (.int .i64), (.int .i64)] y14.2.1) (cnd (chkU [[(4, [.str, .str, (.sl true), (.sl true)]), (3, [.str]), (2, [(.sl false), (.sl false)])]] y14.2.2)
   (some ((.int .i64 (intV (gt y14.2.1 2))), [[(4, [(.str (strV (gt (boxI (frI y14.2.2 0) 0) 0))), (.str (strV (gt (boxI (frI y14.2.2 0) 0) 1))), (.slice (esV (gt (boxI (frI y14.2.2 0) 0) 2)) [] true), (.slice (esV (gt (boxI (frI y14.2.2 0) 0) 3)) [] true)]), (3, [(.str (strV (gt (boxI (frI y14.2.2 0) 1) 0)))]), (2, [(.slice (esV (gt (boxI (frI y14.2.2 0) 2) 0)) [] false), (.slice (esV (gt (boxI (frI y14.2.2 0) 2) 1)) [] false)])]])) none) none)
  (none))
noncomputable def slices_IndexFunc_Frag_l1T (s : List GFrag) (u0_4 : Str) (u0_40 : Str) (u0_3 : Str) (u0_2 : GDoc) : Int → Option (Int ⊕ (Unit ⊕ Int))
  | t_6 =>
  cnd (decide (t_6 < (List.length s : Int)))
   (bnd (nthI s t_6) fun y8 =>
   bnd (graph_Frag_1 y8 u0_4 u0_40 u0_3 u0_2) fun y10 =>
   cnd y10
    (some (.inr (.inr t_6)))
    (some (.inl (IntKind.wrap .i64 (t_6 + 1)))))
   (some (.inr (.inl ())))
abbrev slices_IndexFunc_Frag_l1R (s : List GFrag) (u0_4 : Str) (u0_40 : Str) (u0_3 : Str) (u0_2 : GDoc) (st : Int) (l : List PV) (u : UP) : Prop := l = [(.slice (List.map encFrag s) [] false), (.func (.func 31) [] [(.ptr 1 3 0)]), (.int .i64 0), (.int .i64 (List.length s : Int)), (.int .i64 st)] ∧ u = [[(4, [(.str u0_4), (.str u0_40), (.slice [] [] true), (.slice [] [] true)]), (3, [(.str u0_3)]), (2, [(.slice (List.map encOp u0_2.ops) [] false), (.slice (List.map encFrag u0_2.frags) [] false)])]]
abbrev slices_IndexFunc_Frag_l1X (s : List GFrag) (u0_4 : Str) (u0_40 : Str) (u0_3 : Str) (u0_2 : GDoc) (p : Unit ⊕ Int) (r : Ex × List PV × UP) : Prop := elim p (fun (p : Unit) => ∃ (t_11 : Int), r = (Ex.brk 0, [(.slice (List.map encFrag s) [] false), (.func (.func 31) [] [(.ptr 1 3 0)]), (.int .i64 0), (.int .i64 (List.length s : Int)), (.int .i64 t_11)], [[(4, [(.str u0_4), (.str u0_40), (.slice [] [] true), (.slice [] [] true)]), (3, [(.str u0_3)]), (2, [(.slice (List.map encOp u0_2.ops) [] false), (.slice (List.map encFrag u0_2.frags) [] false)])]])) (fun q2 => (fun (p : Int) => ∃ (t_13 : Int), r = (Ex.ret, [(.slice (List.map encFrag s) [] false), (.func (.func 31) [] [(.ptr 1 3 0)]), (.int .i64 p), (.int .i64 (List.length s : Int)), (.int .i64 t_13)], [[(4, [(.str u0_4), (.str u0_40), (.slice [] [] true), (.slice [] [] true)]), (3, [(.str u0_3)]), (2, [(.slice (List.map encOp u0_2.ops) [] false), (.slice (List.map encFrag u0_2.frags) [] false)])]])) q2)
noncomputable def slices_IndexFunc_Frag_B (s : List GFrag) (u0_4 : Str) (u0_40 : Str) (u0_3 : Str) (u0_2 : GDoc) : Option Int :=
  bnd (tloop (slices_IndexFunc_Frag_l1T s u0_4 u0_40 u0_3 u0_2) 0) fun e14_2 => elim e14_2
  (fun p14 =>
   some (-1))
  (fun t_12 =>
  some t_12)
def slices_IndexFunc_Frag_ds : Decs := { decs := [(14, (.ref shFrag)), (16, .bool)], ups := [(16, [[], [(4, [.str, .str, (.sl true), (.sl true)]), (3, [.str]), (2, [(.sl false), (.sl false)])]])], loops := [(2, [], ⟨[(.sl false), (.func 31 [] [(.ptr 1 3 0)]), (.int .i64), (.int .i64), (.int .i64)], [[(4, [.str, .str, (.sl true), (.sl true)]), (3, [.str]), (2, [(.sl false), (.sl false)])]], [(some 0, [(.sl false), (.func 31 [] [(.ptr 1 3 0)]), (.int .i64), (.int .i64), (.int .i64)], [[(4, [.str, .str, (.sl true), (.sl true)]), (3, [.str]), (2, [(.sl false), (.sl false)])]]), (none, [(.sl false), (.func 31 [] [(.ptr 1 3 0)]), (.int .i64), (.int .i64), (.int .i64)], [[(4, [.str, .str, (.sl true), (.sl true)]), (3, [.str]), (2, [(.sl false), (.sl false)])]])]⟩)] }
set_option maxRecDepth 100000 in
theorem slices_IndexFunc_Frag_t1 (O : Orc) (LP : LBody → LBody) (s : List GFrag) (u0_4 : Str) (u0_40 : Str) (u0_3 : Str) (u0_2 : GDoc) : evalBodyD Try.prog (MT 30) slices_IndexFunc_Frag_ds Try.f30.ntmps O LP Try.f30 [(.slice (List.map encFrag s) [] false), (.func (.func 31) [] [(.ptr 1 3 0)])] [[(4, [(.str u0_4), (.str u0_40), (.slice [] [] true), (.slice [] [] true)]), (3, [(.str u0_3)]), (2, [(.slice (List.map encOp u0_2.ops) [] false), (.slice (List.map encFrag u0_2.frags) [] false)])]] = slices_IndexFunc_Frag_T1 O LP s u0_4 u0_40 u0_3 u0_2 := by kernel_rfl
theorem slices_IndexFunc_Frag_l1_ok (s : List GFrag) (u0_4 : Str) (u0_40 : Str) (u0_3 : Str) (u0_2 : GDoc) : ∀ st l u, slices_IndexFunc_Frag_l1R s u0_4 u0_40 u0_3 u0_2 st l u → Imp (slices_IndexFunc_Frag_l1T s u0_4 u0_40 u0_3 u0_2 st) (slices_IndexFunc_Frag_l1 O loopLim l u) (StepR (slices_IndexFunc_Frag_l1R s u0_4 u0_40 u0_3 u0_2) (slices_IndexFunc_Frag_l1X s u0_4 u0_40 u0_3 u0_2)) := by
  rintro t_6 l u ⟨rfl, rfl⟩
  simp only [slices_IndexFunc_Frag_l1T, slices_IndexFunc_Frag_l1]
  refine Imp.chk rfl (Imp.chk rfl ?_)
  try simp only [evs, tys]
  refine Imp.cnd ?_ ?_
  · refine Imp.op (f := fun a => .ref (encFrag a)) (fun a h => op_ix (enc := encFrag) (by first | rfl | simp only [evs, tys, evl]) ⟨by first | rfl | simp only [evs, tys, evc], by decide⟩ h) (fun a => chk_GFrag a) fun y8 hy8 => ?_
    try simp only [evs, tys]
    refine Imp.gcall (f := graph_Frag_1E) (fu := fun a => [] :: graph_Frag_1U y8 u0_4 u0_40 u0_3 u0_2 a) (fun a h => by first | exact OL_drop rfl rfl (by first | rfl | (simp only [graph_Frag_1E, tys]; rfl)) (graph_Frag_1_spec h) | (have h' := graph_Frag_1_spec h; simp only [evs, tys, evl, graph_Frag_1U] at h'; exact OL_drop rfl rfl (by first | rfl | (simp only [graph_Frag_1E, tys]; rfl)) (h'))) (fun a => by first | rfl | simp only [graph_Frag_1E, evk, chks]) (fun a => by first | rfl | (simp only [graph_Frag_1U, evs, tys]; rfl)) fun y10 hy10 => ?_
    try simp only [graph_Frag_1E, graph_Frag_1U, evs, tys]
    refine Imp.cnd ?_ ?_
    · exact Imp.some (StepR.ret ⟨t_6, by first | rfl | simp only [evs, tys, evl, elim_inl, elim_inr]⟩)
    · exact Imp.some (StepR.next ⟨by first | rfl | simp only [evs, tys, evl], rfl⟩)
  · exact Imp.some (StepR.brk ⟨t_6, by first | rfl | simp only [evs, tys, evl, elim_inl, elim_inr]⟩)
theorem slices_IndexFunc_Frag_imp (s : List GFrag) (u0_4 : Str) (u0_40 : Str) (u0_3 : Str) (u0_2 : GDoc) : Imp (slices_IndexFunc_Frag_B s u0_4 u0_40 u0_3 u0_2) (slices_IndexFunc_Frag_T1 O loopLim s u0_4 u0_40 u0_3 u0_2) (fun r v => v = (slices_IndexFunc_FragE r, (slices_IndexFunc_FragU s u0_4 u0_40 u0_3 u0_2 r))) := by
  simp only [slices_IndexFunc_Frag_B, slices_IndexFunc_Frag_T1]
  try simp only [evs, tys]
  refine Imp.bnd (Imp.loop (slices_IndexFunc_Frag_l1_ok s u0_4 u0_40 u0_3 u0_2) ⟨by first | rfl | simp only [evs, tys, evl], rfl⟩) ?_
  rintro (p | t_12) vy14 hy14
  · try simp only [elim_inl, elim_inr]
    obtain ⟨t_11, rfl⟩ := hy14
    refine Imp.exHit rfl (Imp.chk rfl (Imp.chk rfl ?_))
    try simp only [evs, tys]
    exact Imp.some (by first | rfl | simp only [slices_IndexFunc_FragE, slices_IndexFunc_FragU, evs, tys, evl])
  · try simp only [elim_inl, elim_inr]
    obtain ⟨t_13, rfl⟩ := hy14
    refine Imp.exMiss rfl ?_
    refine Imp.exHit rfl (Imp.chk rfl (Imp.chk rfl ?_))
    try simp only [evs, tys]
    exact Imp.some (by first | rfl | simp only [slices_IndexFunc_FragE, slices_IndexFunc_FragU, evs, tys, evl])
theorem slices_IndexFunc_Frag_run {s : List GFrag} {u0_4 : Str} {u0_40 : Str} {u0_3 : Str} {u0_2 : GDoc} {r : Int} (h : slices_IndexFunc_Frag_B s u0_4 u0_40 u0_3 u0_2 = some r) : slices_IndexFunc_Frag s u0_4 u0_40 u0_3 u0_2 = some r := by
  obtain ⟨v, hv, rfl⟩ := slices_IndexFunc_Frag_imp s u0_4 u0_40 u0_3 u0_2 r h
  exact tO_of (fun a b h => slices_IndexFunc_FragEj a b (Prod.mk.inj h).1) (OL_runD slices_IndexFunc_Frag_ds rfl rfl Try.func30 ((slices_IndexFunc_Frag_t1 _ _ s u0_4 u0_40 u0_3 u0_2).trans hv))

def graph_Frag_T1 (O : Orc) (LP : LBody → LBody) (d : GDoc) (name : Str) : Option (PV × UP) :=
  bnd (O 30 [(.slice (List.map encFrag d.frags) [] false), (.func (.func 31) [] [(.ptr 1 3 0)])] [[(4, [(.str []), (.str []), (.slice [] [] true), (.slice [] [] true)]), (3, [(.str name)]), (2, [(.slice (List.map encOp d.ops) [] false), (.slice (List.map encFrag d.frags) [] false)])]]) fun x1 => cnd (chkU [[(4, [.str, .str, (.sl true), (.sl true)]), (3, [.str]), (2, [(.sl false), (.sl false)])]] x1.2) (cnd (chk (.int .i64) x1.1)
  (cnd (decide ((intV x1.1) < 0))
   (some ((.tuple [(.agg [(.str []), (.str []), (.slice [] [] false), (.slice [] [] false)]), (.bool false)]), []))
   (bnd (ix 4 (.slice (esV (gt (boxI (frI x1.2 0) 2) 1)) [] false) (.int .i64 (intV x1.1))) fun x3 => cnd (chk (.ref shFrag) x3)
   (some ((.tuple [(.agg [(.str (strV (gt (aggV (refV x3)) 0))), (.str (strV (gt (aggV (refV x3)) 1))), (.slice (esV (gt (aggV (refV x3)) 2)) [] false), (.slice (esV (gt (aggV (refV x3)) 3)) [] false)]), (.bool true)]), [])) none)) none) none
noncomputable def graph_Frag_B (d : GDoc) (name : Str) : Option (GFrag × Bool) :=
  bnd (slices_IndexFunc_Frag d.frags [] [] name d) fun y2 =>
  cnd (decide (y2 < 0))
   (some ((GFrag.mk [] [] ([] : List GDir) ([] : List GSel)), false))
   (bnd (nthI d.frags y2) fun y4 =>
   some (y4, true))
def graph_Frag_ds : Decs := { decs := [(10, (.int .i64)), (17, (.ref shFrag))], ups := [(10, [[(4, [.str, .str, (.sl true), (.sl true)]), (3, [.str]), (2, [(.sl false), (.sl false)])]])], loops := [] }
set_option maxRecDepth 100000 in
theorem graph_Frag_t1 (O : Orc) (LP : LBody → LBody) (d : GDoc) (name : Str) : evalBodyD Try.prog (MT 19) graph_Frag_ds Try.f19.ntmps O LP Try.f19 [(.agg [(.slice (List.map encOp d.ops) [] false), (.slice (List.map encFrag d.frags) [] false)]), (.str name)] [] = graph_Frag_T1 O LP d name := by kernel_rfl
theorem graph_Frag_imp (d : GDoc) (name : Str) : Imp (graph_Frag_B d name) (graph_Frag_T1 O loopLim d name) (fun r v => v = (graph_FragE r, [])) := by
  simp only [graph_Frag_B, graph_Frag_T1]
  try simp only [evs, tys]
  refine Imp.gcall (f := slices_IndexFunc_FragE) (fu := fun a => slices_IndexFunc_FragU d.frags [] [] name d a) (fun a h => by first | exact slices_IndexFunc_Frag_spec h | (have h' := slices_IndexFunc_Frag_spec h; simp only [evs, tys, evl, slices_IndexFunc_FragU] at h'; exact h')) (fun a => by first | rfl | simp only [slices_IndexFunc_FragE, evk, chks]) (fun a => by first | rfl | (simp only [slices_IndexFunc_FragU, evs, tys]; rfl)) fun y2 hy2 => ?_
  try simp only [slices_IndexFunc_FragE, slices_IndexFunc_FragU, evs, tys]
  refine Imp.cnd ?_ ?_
  · exact Imp.some (by first | rfl | simp only [graph_FragE, evs, tys, evl])
  · refine Imp.op (f := fun a => .ref (encFrag a)) (fun a h => op_ix (enc := encFrag) (by first | rfl | simp only [evs, tys, evl]) ⟨by first | rfl | simp only [evs, tys, evc], by decide⟩ h) (fun a => chk_GFrag a) fun y4 hy4 => ?_
    try simp only [evs, tys]
    exact Imp.some (by first | rfl | simp only [graph_FragE, evs, tys, evl])
theorem graph_Frag_run {d : GDoc} {name : Str} {r : GFrag × Bool} (h : graph_Frag_B d name = some r) : graph_Frag d name = some r := by
  obtain ⟨v, hv, rfl⟩ := graph_Frag_imp d name r h
  exact tO_of (pair_inj graph_FragEj) (OL_runD graph_Frag_ds rfl rfl Try.func19 ((graph_Frag_t1 _ _ d name).trans hv))

def seineref13_usedSels_l1 (O : Orc) (LP : LBody → LBody) : LBody := fun s38 s38u => cnd (chkL [(.sl false), (.sl true), (.int .i64), (.int .i64)] s38) (cnd (chkU [] s38u)
  (bnd (ix 7 (.slice (esV (gt s38 0)) [] false) (.int .i64 (intV (gt s38 2)))) fun x49 => cnd (chk (.ref shSel) x49)
  (cnd (decide ((intV (gt s38 3)) < (List.length (esV (gt (aggV (refV x49)) 4)) : Int)))
   (bnd (ix 7 (.slice (esV (gt s38 0)) [] false) (.int .i64 (intV (gt s38 2)))) fun x51 => cnd (chk (.ref shSel) x51)
   (bnd (ix 2 (.slice (esV (gt (aggV (refV x51)) 4)) [] false) (.int .i64 (intV (gt s38 3)))) fun x53 => cnd (chk (.ref shDir) x53)
   (callp O 32 [(.slice (esV (gt (aggV (refV x53)) 1)) [] false), (.slice (esV (gt s38 1)) [] true)] fun x55 => cnd (chk (.sl true) x55)
   (some (.nrm, [(.slice (esV (gt s38 0)) [] false), (.slice (esV x55) [] true), (.int .i64 (intV (gt s38 2))), (.int .i64 (IntKind.wrap .i64 ((intV (gt s38 3)) + 1)))], [])) none) none) none)
   (some (.brk 2, [(.slice (esV (gt s38 0)) [] false), (.slice (esV (gt s38 1)) [] true), (.int .i64 (intV (gt s38 2))), (.int .i64 (intV (gt s38 3)))], []))) none) none) none
def seineref13_usedSels_l2 (O : Orc) (LP : LBody → LBody) : LBody := fun s1 s1u => cnd (chkL [(.sl false), (.sl true), (.int .i64)] s1) (cnd (chkU [] s1u)
  (cnd (decide ((intV (gt s1 2)) < (List.length (esV (gt s1 0)) : Int)))
   (bnd (ix 7 (.slice (esV (gt s1 0)) [] false) (.int .i64 (intV (gt s1 2)))) fun x34 => cnd (chk (.ref shSel) x34)
   (callp O 32 [(.slice (esV (gt (aggV (refV x34)) 3)) [] false), (.slice (esV (gt s1 1)) [] true)] fun x36 => cnd (chk (.sl true) x36)
   (bnd (LP (seineref13_usedSels_l1 O LP) [(.slice (esV (gt s1 0)) [] false), (.slice (esV x36) [] true), (.int .i64 (intV (gt s1 2))), (.int .i64 0)] []) fun y59 =>
   exIs y59.1 (some 2) (cnd (chkL [(.sl false), (.sl true), (.int .i64), (.int .i64)] y59.2.1) (cnd (chkU [] y59.2.2)
    (bnd (ix 7 (.slice (esV (gt y59.2.1 0)) [] false) (.int .i64 (intV (gt y59.2.1 2)))) fun x60 => cnd (chk (.ref shSel) x60)
    (callp O 20 [(.slice (esV (gt (aggV (refV x60)) 6)) [] false), (.slice (esV (gt y59.2.1 1)) [] true)] fun x62 => cnd (chk (.sl true) x62)
    (some (.nrm, [(.slice (esV (gt y59.2.1 0)) [] false), (.slice (esV x62) [] true), (.int .i64 (IntKind.wrap .i64 ((intV (gt y59.2.1 2)) + 1)))], [])) none) none) none) none)
   (none)) none) none)
   (some (.brk 0, [(.slice (esV (gt s1 0)) [] false), (.slice (esV (gt s1 1)) [] true), (.int .i64 (intV (gt s1 2)))], []))) none) none
def seineref13_usedSels_T1 (O : Orc) (LP : LBody → LBody) (l0 : List GSel) (out0 : List Str) : Option (PV × UP) :=
  bnd (LP (seineref13_usedSels_l2 O LP) [(.slice (List.map encSel l0) [] false), (.slice (List.map PV.str out0) [] true), (.int .i64 0)] []) fun y66 =>
  exIs y66.1 (some 0) (cnd (chkL [(.sl false), (.sl true), (.int .i64)] y66.2.1) (cnd (chkU [] y66.2.2)
   (some ((.slice (esV (gt y66.2.1 1)) [] true), [])) none) none)
  (none)
noncomputable def seineref13_usedSels_l1T (l0 : List GSel) (i_33 : Int) : ((List Str) × Int) → Option (((List Str) × Int) ⊕ ((List Str)))
  | (out_47, k_48) =>
  bnd (nthI l0 i_33) fun y50 =>
  cnd (decide (k_48 < (List.length y50.dirs : Int)))
   (bnd (nthI l0 i_33) fun y52 =>
   bnd (nthI y52.dirs k_48) fun y54 =>
   bnd (seineref13_used y54.args out_47) fun y56 =>
   some (.inl (y56, (IntKind.wrap .i64 (k_48 + 1)))))
   (some (.inr out_47))
abbrev seineref13_usedSels_l1R (l0 : List GSel) (i_33 : Int) (st : (List Str) × Int) (l : List PV) (u : UP) : Prop := l = [(.slice (List.map encSel l0) [] false), (.slice (List.map PV.str st.1) [] true), (.int .i64 i_33), (.int .i64 st.2)] ∧ u = []
abbrev seineref13_usedSels_l1X (l0 : List GSel) (i_33 : Int) (p : (List Str)) (r : Ex × List PV × UP) : Prop := (fun (p : (List Str)) => ∃ (k_58 : Int), r = (Ex.brk 2, [(.slice (List.map encSel l0) [] false), (.slice (List.map PV.str p) [] true), (.int .i64 i_33), (.int .i64 k_58)], [])) p
noncomputable def seineref13_usedSels_l2T (l0 : List GSel) : ((List Str) × Int) → Option (((List Str) × Int) ⊕ ((List Str)))
  | (out_32, i_33) =>
  cnd (decide (i_33 < (List.length l0 : Int)))
   (bnd (nthI l0 i_33) fun y35 =>
   bnd (seineref13_used y35.args out_32) fun y37 =>
   bnd (tloop (seineref13_usedSels_l1T l0 i_33) (y37, 0)) fun out_57 =>
   bnd (nthI l0 i_33) fun y61 =>
   bnd (seineref13_usedSels y61.sels out_57) fun y63 =>
   some (.inl (y63, (IntKind.wrap .i64 (i_33 + 1)))))
   (some (.inr out_32))
abbrev seineref13_usedSels_l2R (l0 : List GSel) (st : (List Str) × Int) (l : List PV) (u : UP) : Prop := l = [(.slice (List.map encSel l0) [] false), (.slice (List.map PV.str st.1) [] true), (.int .i64 st.2)] ∧ u = []
abbrev seineref13_usedSels_l2X (l0 : List GSel) (p : (List Str)) (r : Ex × List PV × UP) : Prop := (fun (p : (List Str)) => ∃ (i_65 : Int), r = (Ex.brk 0, [(.slice (List.map encSel l0) [] false), (.slice (List.map PV.str p) [] true), (.int .i64 i_65)], [])) p
noncomputable def seineref13_usedSels_B (l0 : List GSel) (out0 : List Str) : Option (List Str) :=
  bnd (tloop (seineref13_usedSels_l2T l0) (out0, 0)) fun out_64 =>
  some out_64
def seineref13_usedSels_ds : Decs := { decs := [(15, (.ref shSel)), (19, (.sl true)), (23, (.ref shSel)), (32, (.ref shSel)), (36, (.ref shDir)), (40, (.sl true)), (43, (.ref shSel)), (47, (.sl true))], ups := [], loops := [(2, [], ⟨[(.sl false), (.sl true), (.int .i64)], [], [(some 0, [(.sl false), (.sl true), (.int .i64)], [])]⟩), (6, [], ⟨[(.sl false), (.sl true), (.int .i64), (.int .i64)], [], [(some 2, [(.sl false), (.sl true), (.int .i64), (.int .i64)], [])]⟩)] }
set_option maxRecDepth 100000 in
theorem seineref13_usedSels_t1 (O : Orc) (LP : LBody → LBody) (l0 : List GSel) (out0 : List Str) : evalBodyD Try.prog (MT 20) seineref13_usedSels_ds Try.f20.ntmps O LP Try.f20 [(.slice (List.map encSel l0) [] false), (.slice (List.map PV.str out0) [] true)] [] = seineref13_usedSels_T1 O LP l0 out0 := by kernel_rfl
theorem seineref13_usedSels_l1_ok (l0 : List GSel) (i_33 : Int) : ∀ st l u, seineref13_usedSels_l1R l0 i_33 st l u → Imp (seineref13_usedSels_l1T l0 i_33 st) (seineref13_usedSels_l1 O loopLim l u) (StepR (seineref13_usedSels_l1R l0 i_33) (seineref13_usedSels_l1X l0 i_33)) := by
  rintro ⟨out_47, k_48⟩ l u ⟨rfl, rfl⟩
  simp only [seineref13_usedSels_l1T, seineref13_usedSels_l1]
  refine Imp.chk rfl (Imp.chk rfl ?_)
  try simp only [evs, tys]
  refine Imp.op (f := fun a => .ref (encSel a)) (fun a h => op_ix (enc := encSel) (by first | rfl | simp only [evs, tys, evl]) ⟨by first | rfl | simp only [evs, tys, evc], by decide⟩ h) (fun a => chk_GSel a) fun y50 hy50 => ?_
  try simp only [evs, tys]
  refine Imp.cnd ?_ ?_
  · refine Imp.op (f := fun a => .ref (encSel a)) (fun a h => op_ix (enc := encSel) (by first | rfl | simp only [evs, tys, evl]) ⟨by first | rfl | simp only [evs, tys, evc], by decide⟩ h) (fun a => chk_GSel a) fun y52 hy52 => ?_
    try simp only [evs, tys]
    refine Imp.op (f := fun a => .ref (encDir a)) (fun a h => op_ix (enc := encDir) (by first | rfl | simp only [evs, tys, evl]) ⟨by first | rfl | simp only [evs, tys, evc], by decide⟩ h) (fun a => chk_GDir a) fun y54 hy54 => ?_
    try simp only [evs, tys]
    refine Imp.call (f := seineref13_usedE) rfl (fun a h => by first | exact seineref13_used_spec h | simpa only [evs, tys, evl] using seineref13_used_spec h) (fun a => by first | rfl | simp only [seineref13_usedE, evk, chks]) fun y56 hy56 => ?_
    try simp only [seineref13_usedE, evs, tys]
    exact Imp.some (StepR.next ⟨by first | rfl | simp only [evs, tys, evl], rfl⟩)
  · exact Imp.some (StepR.brk ⟨k_48, by first | rfl | simp only [evs, tys, evl, elim_inl, elim_inr]⟩)
theorem seineref13_usedSels_l2_ok (l0 : List GSel) : ∀ st l u, seineref13_usedSels_l2R l0 st l u → Imp (seineref13_usedSels_l2T l0 st) (seineref13_usedSels_l2 O loopLim l u) (StepR (seineref13_usedSels_l2R l0) (seineref13_usedSels_l2X l0)) := by
  rintro ⟨out_32, i_33⟩ l u ⟨rfl, rfl⟩
  simp only [seineref13_usedSels_l2T, seineref13_usedSels_l2]
  refine Imp.chk rfl (Imp.chk rfl ?_)
  try simp only [evs, tys]
  refine Imp.cnd ?_ ?_
  · refine Imp.op (f := fun a => .ref (encSel a)) (fun a h => op_ix (enc := encSel) (by first | rfl | simp only [evs, tys, evl]) ⟨by first | rfl | simp only [evs, tys, evc], by decide⟩ h) (fun a => chk_GSel a) fun y35 hy35 => ?_
    try simp only [evs, tys]
    refine Imp.call (f := seineref13_usedE) rfl (fun a h => by first | exact seineref13_used_spec h | simpa only [evs, tys, evl] using seineref13_used_spec h) (fun a => by first | rfl | simp only [seineref13_usedE, evk, chks]) fun y37 hy37 => ?_
    try simp only [seineref13_usedE, evs, tys]
    refine Imp.bnd (Imp.loop (seineref13_usedSels_l1_ok l0 i_33) ⟨by first | rfl | simp only [evs, tys, evl], rfl⟩) ?_
    rintro out_57 vy59 hy59
    obtain ⟨k_58, rfl⟩ := hy59
    refine Imp.exHit rfl (Imp.chk rfl (Imp.chk rfl ?_))
    try simp only [evs, tys]
    refine Imp.op (f := fun a => .ref (encSel a)) (fun a h => op_ix (enc := encSel) (by first | rfl | simp only [evs, tys, evl]) ⟨by first | rfl | simp only [evs, tys, evc], by decide⟩ h) (fun a => chk_GSel a) fun y61 hy61 => ?_
    try simp only [evs, tys]
    refine Imp.call (f := seineref13_usedSelsE) rfl (fun a h => by first | exact seineref13_usedSels_spec h | simpa only [evs, tys, evl] using seineref13_usedSels_spec h) (fun a => by first | rfl | simp only [seineref13_usedSelsE, evk, chks]) fun y63 hy63 => ?_
    try simp only [seineref13_usedSelsE, evs, tys]
    exact Imp.some (StepR.next ⟨by first | rfl | simp only [evs, tys, evl], rfl⟩)
  · exact Imp.some (StepR.brk ⟨i_33, by first | rfl | simp only [evs, tys, evl, elim_inl, elim_inr]⟩)
theorem seineref13_usedSels_imp (l0 : List GSel) (out0 : List Str) : Imp (seineref13_usedSels_B l0 out0) (seineref13_usedSels_T1 O loopLim l0 out0) (fun r v => v = (seineref13_usedSelsE r, [])) := by
  simp only [seineref13_usedSels_B, seineref13_usedSels_T1]
  try simp only [evs, tys]
  refine Imp.bnd (Imp.loop (seineref13_usedSels_l2_ok l0) ⟨by first | rfl | simp only [evs, tys, evl], rfl⟩) ?_
  rintro out_64 vy66 hy66
  obtain ⟨i_65, rfl⟩ := hy66
  refine Imp.exHit rfl (Imp.chk rfl (Imp.chk rfl ?_))
  try simp only [evs, tys]
  exact Imp.some (by first | rfl | simp only [seineref13_usedSelsE, evs, tys, evl])
theorem seineref13_usedSels_run {l0 : List GSel} {out0 : List Str} {r : List Str} (h : seineref13_usedSels_B l0 out0 = some r) : seineref13_usedSels l0 out0 = some r := by
  obtain ⟨v, hv, rfl⟩ := seineref13_usedSels_imp l0 out0 r h
  exact tO_of (pair_inj seineref13_usedSelsEj) (OL_runD seineref13_usedSels_ds rfl rfl Try.func20 ((seineref13_usedSels_t1 _ _ l0 out0).trans hv))
end Go.Proofs.Ytphmfillajagdaa

/- Printed by symgen.py: typed functions of this seat, and why they tell what the program does. -/
set_option linter.unusedVariables false
set_option linter.unusedSimpArgs false
open Go Go.Ev Go.Ev.PV
namespace Go.Proofs.Ytphmfillajagdaa
def seineref13_Reach_l1 (O : Orc) (LP : LBody → LBody) : LBody := fun s3 s3u => cnd (chkL [(.ptr 0 2 0), (.sl true), (.int .i64), (.sl false), (.sl false)] s3) (cnd (chkU [] s3u)
  (cnd (decide ((intV (gt s3 2)) < (List.length (esV (gt s3 1)) : Int)))
   (bnd (ix 1 (.slice (esV (gt s3 1)) [] false) (.int .i64 (intV (gt s3 2)))) fun x12 => cnd (chk (.ref .str) x12)
   (callp O 22 [(.agg [(.slice (esV (gt s3 3)) [] false), (.slice (esV (gt s3 4)) [] false)]), (.str (strV (refV x12)))] fun x14 => cnd (chk (.tup [shFrag, .bool]) x14)
   (cnd (boolV (gt (tupV x14) 1))
    (callp O 34 [(.slice (esV (gt (aggV (gt (tupV x14) 0)) 3)) [] false), (.slice (esV (gt s3 1)) [] true)] fun x16 => cnd (chk (.sl true) x16)
    (some (.nrm, [(.ptr 0 2 0), (.slice (esV x16) [] true), (.int .i64 (IntKind.wrap .i64 ((intV (gt s3 2)) + 1))), (.slice (esV (gt s3 3)) [] false), (.slice (esV (gt s3 4)) [] false)], [])) none)
    (some (.nrm, [(.ptr 0 2 0), (.slice (esV (gt s3 1)) [] true), (.int .i64 (IntKind.wrap .i64 ((intV (gt s3 2)) + 1))), (.slice (esV (gt s3 3)) [] false), (.slice (esV (gt s3 4)) [] false)], []))) none) none)
   (some (.brk 0, [(.ptr 0 2 0), (.slice (esV (gt s3 1)) [] true), (.int .i64 (intV (gt s3 2))), (.slice (esV (gt s3 3)) [] false), (.slice (esV (gt s3 4)) [] false)], []))) none) none
def seineref13_Reach_l2 (O : Orc) (LP : LBody → LBody) : LBody := fun s21 s21u => cnd (chkL [(.ptr 0 2 0), (.sl true), (.sl true), (.int .i64), (.sl false), (.sl false)] s21) (cnd (chkU [] s21u)
  (cnd (decide ((intV (gt s21 3)) < (List.length (esV (gt s21 5)) : Int)))
   (bnd (ix 4 (.slice (esV (gt s21 5)) [] false) (.int .i64 (intV (gt s21 3)))) fun x36 => cnd (chk (.ref shFrag) x36)
   (callp O 10 [(.slice (esV (gt s21 1)) [] false), (.str (strV (gt (aggV (refV x36)) 0)))] fun x38 => cnd (chk .bool x38)
   (cnd (boolV x38)
    (bnd (ix 4 (.slice (esV (gt s21 5)) [] false) (.int .i64 (intV (gt s21 3)))) fun x40 => cnd (chk (.ref shFrag) x40)
    (callp O 10 [(.slice (esV (gt s21 2)) [] false), (.str (strV (gt (aggV (refV x40)) 0)))] fun x42 => cnd (chk .bool x42)
    (cnd (!(boolV x42))
     (bnd (ix 4 (.slice (esV (gt s21 5)) [] false) (.int .i64 (intV (gt s21 3)))) fun x44 => cnd (chk (.ref shFrag) x44)
     (bnd (apd 1 (.slice (esV (gt s21 2)) [] true) (.slice [(.str (strV (gt (aggV (refV x44)) 0)))] [] true)) fun x46 => cnd (chk (.sl true) x46)
     (some (.nrm, [(.ptr 0 2 0), (.slice (esV (gt s21 1)) [] true), (.slice (esV x46) [] true), (.int .i64 (IntKind.wrap .i64 ((intV (gt s21 3)) + 1))), (.slice (esV (gt s21 4)) [] false), (.slice (esV (gt s21 5)) [] false)], [])) none) none)
     (some (.nrm, [(.ptr 0 2 0), (.slice (esV (gt s21 1)) [] true), (.slice (esV (gt s21 2)) [] true), (.int .i64 (IntKind.wrap .i64 ((intV (gt s21 3)) + 1))), (.slice (esV (gt s21 4)) [] false), (.slice (esV (gt s21 5)) [] false)], []))) none) none)
    (some (.nrm, [(.ptr 0 2 0), (.slice (esV (gt s21 1)) [] true), (.slice (esV (gt s21 2)) [] true), (.int .i64 (IntKind.wrap .i64 ((intV (gt s21 3)) + 1))), (.slice (esV (gt s21 4)) [] false), (.slice (esV (gt s21 5)) [] false)], []))) none) none)
   (some (.brk 2, [(.ptr 0 2 0), (.slice (esV (gt s21 1)) [] true), (.slice (esV (gt s21 2)) [] true), (.int .i64 (intV (gt s21 3))), (.slice (esV (gt s21 4)) [] false), (.slice (esV (gt s21 5)) [] false)], []))) none) none
def seineref13_Reach_T1 (O : Orc) (LP : LBody → LBody) (d : GDoc) (l0 : List GSel) : Option (PV × UP) :=
  callp O 33 [(.slice (List.map encSel l0) [] false)] fun x1 => cnd (chk (.sl true) x1)
  (bnd (LP (seineref13_Reach_l1 O LP) [(.ptr 0 2 0), (.slice (esV x1) [] true), (.int .i64 0), (.slice (List.map encOp d.ops) [] false), (.slice (List.map encFrag d.frags) [] false)] []) fun y20 =>
  exIs y20.1 (some 0) (cnd (chkL [(.ptr 0 2 0), (.sl true), (.int .i64), (.sl false), (.sl false)] y20.2.1) (cnd (chkU [] y20.2.2)
   (bnd (LP (seineref13_Reach_l2 O LP) [(.ptr 0 2 0), (.slice (esV (gt y20.2.1 1)) [] true), (.slice [] [] true), (.int .i64 0), (.slice (esV (gt y20.2.1 3)) [] false), (.slice (esV (gt y20.2.1 4)) [] false)] []) fun y50 =>
   exIs y50.1 (some 2) (cnd (chkL [(.ptr 0 2 0), (.sl true), (.sl true), (.int .i64), (.sl false), (.sl false)] y50.2.1) (cnd (chkU [] y50.2.2)
    (some ((.slice (esV (gt y50.2.1 2)) [] false), [])) none) none)
   (none)) none) none)
  (none)) none
noncomputable def seineref13_Reach_l1T (d : GDoc) : ((List Str) × Int) → Option (((List Str) × Int) ⊕ ((List Str)))
  | (all_10, i_11) =>
  cnd (decide (i_11 < (List.length all_10 : Int)))
   (bnd (nthI all_10 i_11) fun y13 =>
   bnd (seineref13_Frag d y13) fun y15 =>
   cnd y15.2
    (bnd (seineref13_spreads y15.1.sels all_10) fun y17 =>
    some (.inl (y17, (IntKind.wrap .i64 (i_11 + 1)))))
    (some (.inl (all_10, (IntKind.wrap .i64 (i_11 + 1))))))
   (some (.inr all_10))
abbrev seineref13_Reach_l1R (d : GDoc) (st : (List Str) × Int) (l : List PV) (u : UP) : Prop := l = [(.ptr 0 2 0), (.slice (List.map PV.str st.1) [] true), (.int .i64 st.2), (.slice (List.map encOp d.ops) [] false), (.slice (List.map encFrag d.frags) [] false)] ∧ u = []
abbrev seineref13_Reach_l1X (d : GDoc) (p : (List Str)) (r : Ex × List PV × UP) : Prop := (fun (p : (List Str)) => ∃ (i_19 : Int), r = (Ex.brk 0, [(.ptr 0 2 0), (.slice (List.map PV.str p) [] true), (.int .i64 i_19), (.slice (List.map encOp d.ops) [] false), (.slice (List.map encFrag d.frags) [] false)], [])) p
noncomputable def seineref13_Reach_l2T (d : GDoc) (all_18 : List Str) : ((List Str) × Int) → Option (((List Str) × Int) ⊕ ((List Str)))
  | (out_34, i_35) =>
  cnd (decide (i_35 < (List.length d.frags : Int)))
   (bnd (nthI d.frags i_35) fun y37 =>
   bnd (seineref1_Has all_18 y37.name) fun y39 =>
   cnd y39
    (bnd (nthI d.frags i_35) fun y41 =>
    bnd (seineref1_Has out_34 y41.name) fun y43 =>
    cnd (!y43)
     (bnd (nthI d.frags i_35) fun y45 =>
     bnd (tapp out_34 [y45.name]) fun y47 =>
     some (.inl (y47, (IntKind.wrap .i64 (i_35 + 1)))))
     (some (.inl (out_34, (IntKind.wrap .i64 (i_35 + 1))))))
    (some (.inl (out_34, (IntKind.wrap .i64 (i_35 + 1))))))
   (some (.inr out_34))
abbrev seineref13_Reach_l2R (d : GDoc) (all_18 : List Str) (st : (List Str) × Int) (l : List PV) (u : UP) : Prop := l = [(.ptr 0 2 0), (.slice (List.map PV.str all_18) [] true), (.slice (List.map PV.str st.1) [] true), (.int .i64 st.2), (.slice (List.map encOp d.ops) [] false), (.slice (List.map encFrag d.frags) [] false)] ∧ u = []
abbrev seineref13_Reach_l2X (d : GDoc) (all_18 : List Str) (p : (List Str)) (r : Ex × List PV × UP) : Prop := (fun (p : (List Str)) => ∃ (i_49 : Int), r = (Ex.brk 2, [(.ptr 0 2 0), (.slice (List.map PV.str all_18) [] true), (.slice (List.map PV.str p) [] true), (.int .i64 i_49), (.slice (List.map encOp d.ops) [] false), (.slice (List.map encFrag d.frags) [] false)], [])) p
noncomputable def seineref13_Reach_B (d : GDoc) (l0 : List GSel) : Option (List Str) :=
  bnd (seineref13_Spreads l0) fun y2 =>
  bnd (tloop (seineref13_Reach_l1T d) (y2, 0)) fun all_18 =>
  bnd (tloop (seineref13_Reach_l2T d all_18) ([], 0)) fun out_48 =>
  some out_48
def seineref13_Reach_ds : Decs := { decs := [(12, (.sl true)), (23, (.ref .str)), (25, (.tup [shFrag, .bool])), (32, (.sl true)), (44, (.ref shFrag)), (47, .bool), (53, (.ref shFrag)), (56, .bool), (63, (.ref shFrag)), (67, (.sl true))], ups := [], loops := [(3, [(2, 2)], ⟨[(.ptr 0 2 0), (.sl true), (.int .i64), (.sl false), (.sl false)], [], [(some 0, [(.ptr 0 2 0), (.sl true), (.int .i64), (.sl false), (.sl false)], [])]⟩), (10, [(2, 2)], ⟨[(.ptr 0 2 0), (.sl true), (.sl true), (.int .i64), (.sl false), (.sl false)], [], [(some 2, [(.ptr 0 2 0), (.sl true), (.sl true), (.int .i64), (.sl false), (.sl false)], [])]⟩)] }
set_option maxRecDepth 100000 in
theorem seineref13_Reach_t1 (O : Orc) (LP : LBody → LBody) (d : GDoc) (l0 : List GSel) : evalBodyD Try.prog (MT 21) seineref13_Reach_ds Try.f21.ntmps O LP Try.f21 [(.agg [(.slice (List.map encOp d.ops) [] false), (.slice (List.map encFrag d.frags) [] false)]), (.slice (List.map encSel l0) [] false)] [] = seineref13_Reach_T1 O LP d l0 := by kernel_rfl
theorem seineref13_Reach_l1_ok (d : GDoc) : ∀ st l u, seineref13_Reach_l1R d st l u → Imp (seineref13_Reach_l1T d st) (seineref13_Reach_l1 O loopLim l u) (StepR (seineref13_Reach_l1R d) (seineref13_Reach_l1X d)) := by
  rintro ⟨all_10, i_11⟩ l u ⟨rfl, rfl⟩
  simp only [seineref13_Reach_l1T, seineref13_Reach_l1]
  refine Imp.chk rfl (Imp.chk rfl ?_)
  try simp only [evs, tys]
  refine Imp.cnd ?_ ?_
  · refine Imp.op (f := fun a => .ref (PV.str a)) (fun a h => op_ix (enc := PV.str) (by first | rfl | simp only [evs, tys, evl]) ⟨by first | rfl | simp only [evs, tys, evc], by decide⟩ h) (fun a => rfl) fun y13 hy13 => ?_
    try simp only [evs, tys]
    refine Imp.call (f := seineref13_FragE) rfl (fun a h => by first | exact seineref13_Frag_spec h | simpa only [evs, tys, evl] using seineref13_Frag_spec h) (fun a => by first | rfl | simp only [seineref13_FragE, evk, chks]) fun y15 hy15 => ?_
    try simp only [seineref13_FragE, evs, tys]
    refine Imp.cnd ?_ ?_
    · refine Imp.call (f := seineref13_spreadsE) rfl (fun a h => by first | exact seineref13_spreads_spec h | simpa only [evs, tys, evl] using seineref13_spreads_spec h) (fun a => by first | rfl | simp only [seineref13_spreadsE, evk, chks]) fun y17 hy17 => ?_
      try simp only [seineref13_spreadsE, evs, tys]
      exact Imp.some (StepR.next ⟨by first | rfl | simp only [evs, tys, evl], rfl⟩)
    · exact Imp.some (StepR.next ⟨by first | rfl | simp only [evs, tys, evl], rfl⟩)
  · exact Imp.some (StepR.brk ⟨i_11, by first | rfl | simp only [evs, tys, evl, elim_inl, elim_inr]⟩)
theorem seineref13_Reach_l2_ok (d : GDoc) (all_18 : List Str) : ∀ st l u, seineref13_Reach_l2R d all_18 st l u → Imp (seineref13_Reach_l2T d all_18 st) (seineref13_Reach_l2 O loopLim l u) (StepR (seineref13_Reach_l2R d all_18) (seineref13_Reach_l2X d all_18)) := by
  rintro ⟨out_34, i_35⟩ l u ⟨rfl, rfl⟩
  simp only [seineref13_Reach_l2T, seineref13_Reach_l2]
  refine Imp.chk rfl (Imp.chk rfl ?_)
  try simp only [evs, tys]
  refine Imp.cnd ?_ ?_
  · refine Imp.op (f := fun a => .ref (encFrag a)) (fun a h => op_ix (enc := encFrag) (by first | rfl | simp only [evs, tys, evl]) ⟨by first | rfl | simp only [evs, tys, evc], by decide⟩ h) (fun a => chk_GFrag a) fun y37 hy37 => ?_
    try simp only [evs, tys]
    refine Imp.call (f := seineref1_HasE) rfl (fun a h => by first | exact seineref1_Has_spec h | simpa only [evs, tys, evl] using seineref1_Has_spec h) (fun a => by first | rfl | simp only [seineref1_HasE, evk, chks]) fun y39 hy39 => ?_
    try simp only [seineref1_HasE, evs, tys]
    refine Imp.cnd ?_ ?_
    · refine Imp.op (f := fun a => .ref (encFrag a)) (fun a h => op_ix (enc := encFrag) (by first | rfl | simp only [evs, tys, evl]) ⟨by first | rfl | simp only [evs, tys, evc], by decide⟩ h) (fun a => chk_GFrag a) fun y41 hy41 => ?_
      try simp only [evs, tys]
      refine Imp.call (f := seineref1_HasE) rfl (fun a h => by first | exact seineref1_Has_spec h | simpa only [evs, tys, evl] using seineref1_Has_spec h) (fun a => by first | rfl | simp only [seineref1_HasE, evk, chks]) fun y43 hy43 => ?_
      try simp only [seineref1_HasE, evs, tys]
      refine Imp.cnd ?_ ?_
      · refine Imp.op (f := fun a => .ref (encFrag a)) (fun a h => op_ix (enc := encFrag) (by first | rfl | simp only [evs, tys, evl]) ⟨by first | rfl | simp only [evs, tys, evc], by decide⟩ h) (fun a => chk_GFrag a) fun y45 hy45 => ?_
        try simp only [evs, tys]
        refine Imp.op (f := fun a => .slice (List.map PV.str a) [] true) (fun a h => op_apd (enc := PV.str) (by first | rfl | simp only [evs, tys, evl]) (by first | rfl | simp only [evs, tys, evl]) (fun a => by first | rfl | simp only [evs, tys, evc]) h) (fun a => rfl) fun y47 hy47 => ?_
        try simp only [evs, tys]
        exact Imp.some (StepR.next ⟨by first | rfl | simp only [evs, tys, evl], rfl⟩)
      · exact Imp.some (StepR.next ⟨by first | rfl | simp only [evs, tys, evl], rfl⟩)
    · exact Imp.some (StepR.next ⟨by first | rfl | simp only [evs, tys, evl], rfl⟩)
  · exact Imp.some (StepR.brk ⟨i_35, by first | rfl | simp only [evs, tys, evl, elim_inl, elim_inr]⟩)
theorem seineref13_Reach_imp (d : GDoc) (l0 : List GSel) : Imp (seineref13_Reach_B d l0) (seineref13_Reach_T1 O loopLim d l0) (fun r v => v = (seineref13_ReachE r, [])) := by
  simp only [seineref13_Reach_B, seineref13_Reach_T1]
  try simp only [evs, tys]
  refine Imp.call (f := seineref13_SpreadsE) rfl (fun a h => by first | exact seineref13_Spreads_spec h | simpa only [evs, tys, evl] using seineref13_Spreads_spec h) (fun a => by first | rfl | simp only [seineref13_SpreadsE, evk, chks]) fun y2 hy2 => ?_
  try simp only [seineref13_SpreadsE, evs, tys]
  refine Imp.bnd (Imp.loop (seineref13_Reach_l1_ok d) ⟨by first | rfl | simp only [evs, tys, evl], rfl⟩) ?_
  rintro all_18 vy20 hy20
  obtain ⟨i_19, rfl⟩ := hy20
  refine Imp.exHit rfl (Imp.chk rfl (Imp.chk rfl ?_))
  try simp only [evs, tys]
  refine Imp.bnd (Imp.loop (seineref13_Reach_l2_ok d all_18) ⟨by first | rfl | simp only [evs, tys, evl], rfl⟩) ?_
  rintro out_48 vy50 hy50
  obtain ⟨i_49, rfl⟩ := hy50
  refine Imp.exHit rfl (Imp.chk rfl (Imp.chk rfl ?_))
  try simp only [evs, tys]
  exact Imp.some (by first | rfl | simp only [seineref13_ReachE, evs, tys, evl])
theorem seineref13_Reach_run {d : GDoc} {l0 : List GSel} {r : List Str} (h : seineref13_Reach_B d l0 = some r) : seineref13_Reach d l0 = some r := by
  obtain ⟨v, hv, rfl⟩ := seineref13_Reach_imp d l0 r h
  exact tO_of (pair_inj seineref13_ReachEj) (OL_runD seineref13_Reach_ds rfl rfl Try.func21 ((seineref13_Reach_t1 _ _ d l0).trans hv))

def seineref13_Frag_l1 (O : Orc) (LP : LBody → LBody) : LBody := fun s1 s1u => cnd (chkL [.str, (.ptr 0 2 0), (.ptr 0 4 0), .bool, (.int .i64), .str, .str, (.sl true), (.sl true), (.sl false), (.sl false)] s1) (cnd (chkU [] s1u)
  (cnd (decide ((intV (gt s1 4)) < (List.length (esV (gt s1 10)) : Int)))
   (bnd (ix 4 (.slice (esV (gt s1 10)) [] false) (.int .i64 (intV (gt s1 4)))) fun x7 => cnd (chk (.ref shFrag) x7)
   (cnd ((strV (gt (aggV (refV x7)) 0)) == (strV (gt s1 0)))
    (bnd (ix 4 (.slice (esV (gt s1 10)) [] false) (.int .i64 (intV (gt s1 4)))) fun x9 => cnd (chk (.ref shFrag) x9)
    (some (.ret, [(.str (strV (gt s1 0))), (.ptr 0 2 0), (.ptr 0 4 0), (.bool true), (.int .i64 (intV (gt s1 4))), (.str (strV (gt (aggV (refV x9)) 0))), (.str (strV (gt (aggV (refV x9)) 1))), (.slice (esV (gt (aggV (refV x9)) 2)) [] false), (.slice (esV (gt (aggV (refV x9)) 3)) [] false), (.slice (esV (gt s1 9)) [] false), (.slice (esV (gt s1 10)) [] false)], [])) none)
    (some (.nrm, [(.str (strV (gt s1 0))), (.ptr 0 2 0), (.ptr 0 4 0), (.bool (boolV (gt s1 3))), (.int .i64 (IntKind.wrap .i64 ((intV (gt s1 4)) + 1))), (.str (strV (gt s1 5))), (.str (strV (gt s1 6))), (.slice (esV (gt s1 7)) [] true), (.slice (esV (gt s1 8)) [] true), (.slice (esV (gt s1 9)) [] false), (.slice (esV (gt s1 10)) [] false)], []))) none)
   (some (.brk 0, [(.str (strV (gt s1 0))), (.ptr 0 2 0), (.ptr 0 4 0), (.bool (boolV (gt s1 3))), (.int .i64 (intV (gt s1 4))), (.str (strV (gt s1 5))), (.str (strV (gt s1 6))), (.slice (esV (gt s1 7)) [] true), (.slice (esV (gt s1 8)) [] true), (.slice (esV (gt s1 9)) [] false), (.slice (esV (gt s1 10)) [] false)], []))) none) none
def seineref13_Frag_T1 (O : Orc) (LP : LBody → LBody) (d : GDoc) (name : Str) : Option (PV × UP) :=
  bnd (LP (seineref13_Frag_l1 O LP) [(.str name), (.ptr 0 2 0), (.ptr 0 4 0), (.bool false), (.int .i64 0), (.str []), (.str []), (.slice [] [] true), (.slice [] [] true), (.slice (List.map encOp d.ops) [] false), (.slice (List.map encFrag d.frags) [] false)] []) fun y17 =>
  exIs y17.1 (some 0) (cnd (chkL [.str, (.ptr 0 2 0), (.ptr 0 4 0), .bool, (.int .i64), .str, .str, (.sl true), (.sl true), (.sl false), (.sl false)] y17.2.1) (cnd (chkU [] y17.2.2)
   (some ((.tuple [(.agg [(.str []), (.str []), (.slice [] [] false), (.slice [] [] false)]), (.bool false)]), [])) none) none)
  (exIs y17.1 none (cnd (chkL [.str, (.ptr 0 2 0), (.ptr 0 4 0), .bool, (.int .i64), .str, .str, (.sl false), (.sl false), (.sl false), (.sl false)] y17.2.1) (cnd (chkU [] y17.2.2)
   (some ((.tuple [(.agg [(.str (strV (gt y17.2.1 5))), (.str (strV (gt y17.2.1 6))), (.slice (esV (gt y17.2.1 7)) [] false), (.slice (esV (gt y17.2.1 8)) [] false)]), (.bool (boolV (gt y17.2.1 3)))]), [])) none) none)
  (none))
noncomputable def seineref13_Frag_l1T (d : GDoc) (name : Str) : Int → Option (Int ⊕ (Unit ⊕ (Str × Str × (List GDir) × (List GSel))))
  | i_6 =>
  cnd (decide (i_6 < (List.length d.frags : Int)))
   (bnd (nthI d.frags i_6) fun y8 =>
   cnd (y8.name == name)
    (bnd (nthI d.frags i_6) fun y10 =>
    some (.inr (.inr (y10.name, y10.on_, y10.dirs, y10.sels))))
    (some (.inl (IntKind.wrap .i64 (i_6 + 1)))))
   (some (.inr (.inl ())))
abbrev seineref13_Frag_l1R (d : GDoc) (name : Str) (st : Int) (l : List PV) (u : UP) : Prop := l = [(.str name), (.ptr 0 2 0), (.ptr 0 4 0), (.bool false), (.int .i64 st), (.str []), (.str []), (.slice [] [] true), (.slice [] [] true), (.slice (List.map encOp d.ops) [] false), (.slice (List.map encFrag d.frags) [] false)] ∧ u = []
abbrev seineref13_Frag_l1X (d : GDoc) (name : Str) (p : Unit ⊕ (Str × Str × (List GDir) × (List GSel))) (r : Ex × List PV × UP) : Prop := elim p (fun (p : Unit) => ∃ (i_11 : Int), r = (Ex.brk 0, [(.str name), (.ptr 0 2 0), (.ptr 0 4 0), (.bool false), (.int .i64 i_11), (.str []), (.str []), (.slice [] [] true), (.slice [] [] true), (.slice (List.map encOp d.ops) [] false), (.slice (List.map encFrag d.frags) [] false)], [])) (fun q2 => (fun (p : Str × Str × (List GDir) × (List GSel)) => ∃ (i_12 : Int), r = (Ex.ret, [(.str name), (.ptr 0 2 0), (.ptr 0 4 0), (.bool true), (.int .i64 i_12), (.str p.1), (.str p.2.1), (.slice (List.map encDir p.2.2.1) [] false), (.slice (List.map encSel p.2.2.2) [] false), (.slice (List.map encOp d.ops) [] false), (.slice (List.map encFrag d.frags) [] false)], [])) q2)
noncomputable def seineref13_Frag_B (d : GDoc) (name : Str) : Option (GFrag × Bool) :=
  bnd (tloop (seineref13_Frag_l1T d name) 0) fun e17_2 => elim e17_2
  (fun p17 =>
   some ((GFrag.mk [] [] ([] : List GDir) ([] : List GSel)), false))
  (fun p17 =>
  some ((GFrag.mk p17.1 p17.2.1 p17.2.2.1 p17.2.2.2), true))
def seineref13_Frag_ds : Decs := { decs := [(17, (.ref shFrag)), (25, (.ref shFrag))], ups := [], loops := [(2, [(4, 4), (2, 2)], ⟨[.str, (.ptr 0 2 0), (.ptr 0 4 0), .bool, (.int .i64), .str, .str, (.sl true), (.sl true), (.sl false), (.sl false)], [], [(some 0, [.str, (.ptr 0 2 0), (.ptr 0 4 0), .bool, (.int .i64), .str, .str, (.sl true), (.sl true), (.sl false), (.sl false)], []), (none, [.str, (.ptr 0 2 0), (.ptr 0 4 0), .bool, (.int .i64), .str, .str, (.sl false), (.sl false), (.sl false), (.sl false)], [])]⟩)] }
set_option maxRecDepth 100000 in
theorem seineref13_Frag_t1 (O : Orc) (LP : LBody → LBody) (d : GDoc) (name : Str) : evalBodyD Try.prog (MT 22) seineref13_Frag_ds Try.f22.ntmps O LP Try.f22 [(.agg [(.slice (List.map encOp d.ops) [] false), (.slice (List.map encFrag d.frags) [] false)]), (.str name)] [] = seineref13_Frag_T1 O LP d name := by kernel_rfl
theorem seineref13_Frag_l1_ok (d : GDoc) (name : Str) : ∀ st l u, seineref13_Frag_l1R d name st l u → Imp (seineref13_Frag_l1T d name st) (seineref13_Frag_l1 O loopLim l u) (StepR (seineref13_Frag_l1R d name) (seineref13_Frag_l1X d name)) := by
  rintro i_6 l u ⟨rfl, rfl⟩
  simp only [seineref13_Frag_l1T, seineref13_Frag_l1]
  refine Imp.chk rfl (Imp.chk rfl ?_)
  try simp only [evs, tys]
  refine Imp.cnd ?_ ?_
  · refine Imp.op (f := fun a => .ref (encFrag a)) (fun a h => op_ix (enc := encFrag) (by first | rfl | simp only [evs, tys, evl]) ⟨by first | rfl | simp only [evs, tys, evc], by decide⟩ h) (fun a => chk_GFrag a) fun y8 hy8 => ?_
    try simp only [evs, tys]
    refine Imp.cnd ?_ ?_
    · refine Imp.op (f := fun a => .ref (encFrag a)) (fun a h => op_ix (enc := encFrag) (by first | rfl | simp only [evs, tys, evl]) ⟨by first | rfl | simp only [evs, tys, evc], by decide⟩ h) (fun a => chk_GFrag a) fun y10 hy10 => ?_
      try simp only [evs, tys]
      exact Imp.some (StepR.ret ⟨i_6, by first | rfl | simp only [evs, tys, evl, elim_inl, elim_inr]⟩)
    · exact Imp.some (StepR.next ⟨by first | rfl | simp only [evs, tys, evl], rfl⟩)
  · exact Imp.some (StepR.brk ⟨i_6, by first | rfl | simp only [evs, tys, evl, elim_inl, elim_inr]⟩)
theorem seineref13_Frag_imp (d : GDoc) (name : Str) : Imp (seineref13_Frag_B d name) (seineref13_Frag_T1 O loopLim d name) (fun r v => v = (seineref13_FragE r, [])) := by
  simp only [seineref13_Frag_B, seineref13_Frag_T1]
  try simp only [evs, tys]
  refine Imp.bnd (Imp.loop (seineref13_Frag_l1_ok d name) ⟨by first | rfl | simp only [evs, tys, evl], rfl⟩) ?_
  rintro (p | ⟨b_13, b_14, b_15, b_16⟩) vy17 hy17
  · try simp only [elim_inl, elim_inr]
    obtain ⟨i_11, rfl⟩ := hy17
    refine Imp.exHit rfl (Imp.chk rfl (Imp.chk rfl ?_))
    try simp only [evs, tys]
    exact Imp.some (by first | rfl | simp only [seineref13_FragE, evs, tys, evl])
  · try simp only [elim_inl, elim_inr]
    obtain ⟨i_12, rfl⟩ := hy17
    refine Imp.exMiss rfl ?_
    refine Imp.exHit rfl (Imp.chk rfl (Imp.chk rfl ?_))
    try simp only [evs, tys]
    exact Imp.some (by first | rfl | simp only [seineref13_FragE, evs, tys, evl])
theorem seineref13_Frag_run {d : GDoc} {name : Str} {r : GFrag × Bool} (h : seineref13_Frag_B d name = some r) : seineref13_Frag d name = some r := by
  obtain ⟨v, hv, rfl⟩ := seineref13_Frag_imp d name r h
  exact tO_of (pair_inj seineref13_FragEj) (OL_runD seineref13_Frag_ds rfl rfl Try.func22 ((seineref13_Frag_t1 _ _ d name).trans hv))

def seineref13_Sorted_l1 (O : Orc) (LP : LBody → LBody) : LBody := fun s60 s60u => cnd (chkL [(.rsl 0 7 1), (.int .i64), (.int .i64), (.vec 1)] s60) (cnd (chkU [] s60u)
  (cnd (decide ((intV (gt s60 2)) > 0))
   (bnd (ix 1 (.rsl 0 7 (rlnV (gt s60 0)) 1) (.int .i64 (intV (gt s60 2)))) fun x87 => cnd (chk (.ptx 0 7) x87)
   (bnd (vload 1 (vecV (gt s60 3)) (offV x87) 1 false) fun x89 => cnd (chk .str x89)
   (bnd (ix 1 (.rsl 0 7 (rlnV (gt s60 0)) 1) (.int .i64 (IntKind.wrap .i64 ((intV (gt s60 2)) - 1)))) fun x91 => cnd (chk (.ptx 0 7) x91)
   (bnd (vload 1 (vecV (gt s60 3)) (offV x91) 1 false) fun x93 => cnd (chk .str x93)
   (cnd (Op.bytesLess (strV x89) (strV x93))
    (bnd (ix 1 (.rsl 0 7 (rlnV (gt s60 0)) 1) (.int .i64 (IntKind.wrap .i64 ((intV (gt s60 2)) - 1)))) fun x95 => cnd (chk (.ptx 0 7) x95)
    (bnd (vload 1 (vecV (gt s60 3)) (offV x95) 1 false) fun x97 => cnd (chk .str x97)
    (bnd (ix 1 (.rsl 0 7 (rlnV (gt s60 0)) 1) (.int .i64 (intV (gt s60 2)))) fun x99 => cnd (chk (.ptx 0 7) x99)
    (bnd (vload 1 (vecV (gt s60 3)) (offV x99) 1 false) fun x101 => cnd (chk .str x101)
    (bnd (ix 1 (.rsl 0 7 (rlnV (gt s60 0)) 1) (.int .i64 (intV (gt s60 2)))) fun x103 => cnd (chk (.ptx 0 7) x103)
    (bnd (vput 1 (vecV (gt s60 3)) (offV x103) [(.str (strV x97))]) fun x105 =>
    bnd (ix 1 (.rsl 0 7 (rlnV (gt s60 0)) 1) (.int .i64 (IntKind.wrap .i64 ((intV (gt s60 2)) - 1)))) fun x107 => cnd (chk (.ptx 0 7) x107)
    (bnd (vput 1 x105 (offV x107) [(.str (strV x101))]) fun x109 =>
    some (.nrm, [(.rsl 0 7 (rlnV (gt s60 0)) 1), (.int .i64 (intV (gt s60 1))), (.int .i64 (IntKind.wrap .i64 ((intV (gt s60 2)) - 1))), (.vec 1 x109)], [])) none) none) none) none) none) none)
    (some (.brk 2, [(.rsl 0 7 (rlnV (gt s60 0)) 1), (.int .i64 (intV (gt s60 1))), (.int .i64 (intV (gt s60 2))), (.vec 1 (vecV (gt s60 3)))], []))) none) none) none) none)
   (some (.brk 2, [(.rsl 0 7 (rlnV (gt s60 0)) 1), (.int .i64 (intV (gt s60 1))), (.int .i64 (intV (gt s60 2))), (.vec 1 (vecV (gt s60 3)))], []))) none) none
def seineref13_Sorted_l2 (O : Orc) (LP : LBody → LBody) : LBody := fun s3 s3u => cnd (chkL [(.rsl 0 7 1), (.int .i64), (.vec 1)] s3) (cnd (chkU [] s3u)
  (cnd (decide ((intV (gt s3 1)) < ((rlnV (gt s3 0)) : Int)))
   (bnd (LP (seineref13_Sorted_l1 O LP) [(.rsl 0 7 (rlnV (gt s3 0)) 1), (.int .i64 (intV (gt s3 1))), (.int .i64 (intV (gt s3 1))), (.vec 1 (vecV (gt s3 2)))] []) fun y113 =>
   exIs y113.1 (some 2) (cnd (chkL [(.rsl 0 7 1), (.int .i64), (.int .i64), (.vec 1)] y113.2.1) (cnd (chkU [] y113.2.2)
    (some (.nrm, [(.rsl 0 7 (rlnV (gt y113.2.1 0)) 1), (.int .i64 (IntKind.wrap .i64 ((intV (gt y113.2.1 1)) + 1))), (.vec 1 (vecV (gt y113.2.1 3)))], [])) none) none)
   (none))
   (some (.brk 0, [(.rsl 0 7 (rlnV (gt s3 0)) 1), (.int .i64 (intV (gt s3 1))), (.vec 1 (vecV (gt s3 2)))], []))) none) none
def seineref13_Sorted_T1 (O : Orc) (LP : LBody → LBody) (l0 : List Str) : Option (PV × UP) :=
  bnd (apdV 1 (.slice [] [] true) (.slice (List.map PV.str l0) [] false)) fun x1 =>
  bnd (LP (seineref13_Sorted_l2 O LP) [(.rsl 0 7 (List.length x1) 1), (.int .i64 1), (.vec 1 x1)] []) fun y116 =>
  exIs y116.1 (some 0) (cnd (chkL [(.rsl 0 7 1), (.int .i64), (.vec 1)] y116.2.1) (cnd (chkU [] y116.2.2)
   (cnd (Nat.ble (rlnV (gt y116.2.1 0)) (List.length (vecV (gt y116.2.1 2))))
    (some ((.slice (List.take (rlnV (gt y116.2.1 0)) (vecV (gt y116.2.1 2))) [] false), []))
    (none)) none) none)
  (none)
noncomputable def seineref13_Sorted_l1T (y2 : List Str) : (Int × (List Str)) → Option ((Int × (List Str)) ⊕ ((List Str)))
  | (k_85, b_86) =>
  cnd (decide (k_85 > 0))
   (bnd (tixR (List.length y2) k_85) fun y88 =>
   bnd (tget b_86 y88 (fun z : Str => z)) fun y90 =>
   bnd (tixR (List.length y2) (IntKind.wrap .i64 (k_85 - 1))) fun y92 =>
   bnd (tget b_86 y92 (fun z : Str => z)) fun y94 =>
   cnd (Op.bytesLess y90 y94)
    (bnd (tixR (List.length y2) (IntKind.wrap .i64 (k_85 - 1))) fun y96 =>
    bnd (tget b_86 y96 (fun z : Str => z)) fun y98 =>
    bnd (tixR (List.length y2) k_85) fun y100 =>
    bnd (tget b_86 y100 (fun z : Str => z)) fun y102 =>
    bnd (tixR (List.length y2) k_85) fun y104 =>
    bnd (tput b_86 y104 (fun _ : Str => y98)) fun y106 =>
    bnd (tixR (List.length y2) (IntKind.wrap .i64 (k_85 - 1))) fun y108 =>
    bnd (tput y106 y108 (fun _ : Str => y102)) fun y110 =>
    some (.inl ((IntKind.wrap .i64 (k_85 - 1)), y110)))
    (some (.inr b_86)))
   (some (.inr b_86))
abbrev seineref13_Sorted_l1R (y2 : List Str) (i_58 : Int) (st : Int × (List Str)) (l : List PV) (u : UP) : Prop := l = [(.rsl 0 7 (List.length y2) 1), (.int .i64 i_58), (.int .i64 st.1), (.vec 1 (List.map PV.str st.2))] ∧ u = []
abbrev seineref13_Sorted_l1X (y2 : List Str) (i_58 : Int) (p : (List Str)) (r : Ex × List PV × UP) : Prop := (fun (p : (List Str)) => ∃ (k_111 : Int), r = (Ex.brk 2, [(.rsl 0 7 (List.length y2) 1), (.int .i64 i_58), (.int .i64 k_111), (.vec 1 (List.map PV.str p))], [])) p
noncomputable def seineref13_Sorted_l2T (y2 : List Str) : (Int × (List Str)) → Option ((Int × (List Str)) ⊕ ((List Str)))
  | (i_58, b_59) =>
  cnd (decide (i_58 < ((List.length y2) : Int)))
   (bnd (tloop (seineref13_Sorted_l1T y2) (i_58, b_59)) fun b_112 =>
   some (.inl ((IntKind.wrap .i64 (i_58 + 1)), b_112)))
   (some (.inr b_59))
abbrev seineref13_Sorted_l2R (y2 : List Str) (st : Int × (List Str)) (l : List PV) (u : UP) : Prop := l = [(.rsl 0 7 (List.length y2) 1), (.int .i64 st.1), (.vec 1 (List.map PV.str st.2))] ∧ u = []
abbrev seineref13_Sorted_l2X (y2 : List Str) (p : (List Str)) (r : Ex × List PV × UP) : Prop := (fun (p : (List Str)) => ∃ (i_114 : Int), r = (Ex.brk 0, [(.rsl 0 7 (List.length y2) 1), (.int .i64 i_114), (.vec 1 (List.map PV.str p))], [])) p
noncomputable def seineref13_Sorted_B (l0 : List Str) : Option (List Str) :=
  bnd (tapl l0) fun y2 =>
  bnd (tloop (seineref13_Sorted_l2T y2) (1, y2)) fun b_115 =>
  cnd (Nat.ble (List.length y2) (List.length b_115))
   (some (List.take (List.length y2) b_115))
   (none)
def seineref13_Sorted_ds : Decs := { decs := [(20, (.ptx 0 7)), (21, .str), (25, (.ptx 0 7)), (26, .str), (39, (.ptx 0 7)), (40, .str), (43, (.ptx 0 7)), (44, .str), (45, (.ptx 0 7)), (46, (.ptx 0 7))], ups := [], loops := [(3, [(7, 1)], ⟨[(.rsl 0 7 1), (.int .i64), (.vec 1)], [], [(some 0, [(.rsl 0 7 1), (.int .i64), (.vec 1)], [])]⟩), (6, [(7, 1)], ⟨[(.rsl 0 7 1), (.int .i64), (.int .i64), (.vec 1)], [], [(some 2, [(.rsl 0 7 1), (.int .i64), (.int .i64), (.vec 1)], [])]⟩)] }
set_option maxRecDepth 100000 in
theorem seineref13_Sorted_t1 (O : Orc) (LP : LBody → LBody) (l0 : List Str) : evalBodyD Try.prog (MT 23) seineref13_Sorted_ds Try.f23.ntmps O LP Try.f23 [(.slice (List.map PV.str l0) [] false)] [] = seineref13_Sorted_T1 O LP l0 := by kernel_rfl
theorem seineref13_Sorted_l1_ok (y2 : List Str) (i_58 : Int) : ∀ st l u, seineref13_Sorted_l1R y2 i_58 st l u → Imp (seineref13_Sorted_l1T y2 st) (seineref13_Sorted_l1 O loopLim l u) (StepR (seineref13_Sorted_l1R y2 i_58) (seineref13_Sorted_l1X y2 i_58)) := by
  rintro ⟨k_85, b_86⟩ l u ⟨rfl, rfl⟩
  simp only [seineref13_Sorted_l1T, seineref13_Sorted_l1]
  refine Imp.chk rfl (Imp.chk rfl ?_)
  try simp only [evs, tys]
  refine Imp.cnd ?_ ?_
  · refine Imp.op (f := fun a => .ptr 0 7 (a * 1)) (fun a h => op_ixR h) (fun a => rfl) fun y88 hy88 => ?_
    try simp only [evs, tys]
    refine Imp.op (f := fun a => PV.str a) (fun a h => op_vload0 (enc := PV.str) (encT := fun a => PV.str a) (f := fun z => z) (by first | rfl | simp only [evs, tys, evl]) (by decide) (fun z => by first | rfl | (simp only [evs, tys, evc, part]; rfl)) (fun a => by first | rfl | (simp only [evs, tys]; rfl)) h) (fun a => rfl) fun y90 hy90 => ?_
    try simp only [evs, tys]
    refine Imp.op (f := fun a => .ptr 0 7 (a * 1)) (fun a h => op_ixR h) (fun a => rfl) fun y92 hy92 => ?_
    try simp only [evs, tys]
    refine Imp.op (f := fun a => PV.str a) (fun a h => op_vload0 (enc := PV.str) (encT := fun a => PV.str a) (f := fun z => z) (by first | rfl | simp only [evs, tys, evl]) (by decide) (fun z => by first | rfl | (simp only [evs, tys, evc, part]; rfl)) (fun a => by first | rfl | (simp only [evs, tys]; rfl)) h) (fun a => rfl) fun y94 hy94 => ?_
    try simp only [evs, tys]
    refine Imp.cnd ?_ ?_
    · refine Imp.op (f := fun a => .ptr 0 7 (a * 1)) (fun a h => op_ixR h) (fun a => rfl) fun y96 hy96 => ?_
      try simp only [evs, tys]
      refine Imp.op (f := fun a => PV.str a) (fun a h => op_vload0 (enc := PV.str) (encT := fun a => PV.str a) (f := fun z => z) (by first | rfl | simp only [evs, tys, evl]) (by decide) (fun z => by first | rfl | (simp only [evs, tys, evc, part]; rfl)) (fun a => by first | rfl | (simp only [evs, tys]; rfl)) h) (fun a => rfl) fun y98 hy98 => ?_
      try simp only [evs, tys]
      refine Imp.op (f := fun a => .ptr 0 7 (a * 1)) (fun a h => op_ixR h) (fun a => rfl) fun y100 hy100 => ?_
      try simp only [evs, tys]
      refine Imp.op (f := fun a => PV.str a) (fun a h => op_vload0 (enc := PV.str) (encT := fun a => PV.str a) (f := fun z => z) (by first | rfl | simp only [evs, tys, evl]) (by decide) (fun z => by first | rfl | (simp only [evs, tys, evc, part]; rfl)) (fun a => by first | rfl | (simp only [evs, tys]; rfl)) h) (fun a => rfl) fun y102 hy102 => ?_
      try simp only [evs, tys]
      refine Imp.op (f := fun a => .ptr 0 7 (a * 1)) (fun a h => op_ixR h) (fun a => rfl) fun y104 hy104 => ?_
      try simp only [evs, tys]
      refine Imp.opr (f := fun a => List.map PV.str a) (fun a h => op_vput0 (enc := PV.str) (by first | rfl | simp only [evs, tys, evl]) (by decide) (by simp) (by rfl) (fun z => by first | rfl | (simp only [evs, tys, evl, evc]; rfl)) h) fun y106 hy106 => ?_
      try simp only [evs, tys]
      refine Imp.op (f := fun a => .ptr 0 7 (a * 1)) (fun a h => op_ixR h) (fun a => rfl) fun y108 hy108 => ?_
      try simp only [evs, tys]
      refine Imp.opr (f := fun a => List.map PV.str a) (fun a h => op_vput0 (enc := PV.str) (by first | rfl | simp only [evs, tys, evl]) (by decide) (by simp) (by rfl) (fun z => by first | rfl | (simp only [evs, tys, evl, evc]; rfl)) h) fun y110 hy110 => ?_
      try simp only [evs, tys]
      exact Imp.some (StepR.next ⟨by first | rfl | simp only [evs, tys, evl], rfl⟩)
    · exact Imp.some (StepR.brk ⟨k_85, by first | rfl | simp only [evs, tys, evl, elim_inl, elim_inr]⟩)
  · exact Imp.some (StepR.brk ⟨k_85, by first | rfl | simp only [evs, tys, evl, elim_inl, elim_inr]⟩)
theorem seineref13_Sorted_l2_ok (y2 : List Str) : ∀ st l u, seineref13_Sorted_l2R y2 st l u → Imp (seineref13_Sorted_l2T y2 st) (seineref13_Sorted_l2 O loopLim l u) (StepR (seineref13_Sorted_l2R y2) (seineref13_Sorted_l2X y2)) := by
  rintro ⟨i_58, b_59⟩ l u ⟨rfl, rfl⟩
  simp only [seineref13_Sorted_l2T, seineref13_Sorted_l2]
  refine Imp.chk rfl (Imp.chk rfl ?_)
  try simp only [evs, tys]
  refine Imp.cnd ?_ ?_
  · refine Imp.bnd (Imp.loop (seineref13_Sorted_l1_ok y2 i_58) ⟨by first | rfl | simp only [evs, tys, evl], rfl⟩) ?_
    rintro b_112 vy113 hy113
    obtain ⟨k_111, rfl⟩ := hy113
    refine Imp.exHit rfl (Imp.chk rfl (Imp.chk rfl ?_))
    try simp only [evs, tys]
    exact Imp.some (StepR.next ⟨by first | rfl | simp only [evs, tys, evl], rfl⟩)
  · exact Imp.some (StepR.brk ⟨i_58, by first | rfl | simp only [evs, tys, evl, elim_inl, elim_inr]⟩)
theorem seineref13_Sorted_imp (l0 : List Str) : Imp (seineref13_Sorted_B l0) (seineref13_Sorted_T1 O loopLim l0) (fun r v => v = (seineref13_SortedE r, [])) := by
  simp only [seineref13_Sorted_B, seineref13_Sorted_T1]
  try simp only [evs, tys]
  refine Imp.opr (f := fun a => List.map PV.str a) (fun a h => op_apdV (enc := PV.str) (by first | rfl | simp only [evs, tys, evl]) (fun a => by first | rfl | simp only [evs, tys, evc]) h) fun y2 hy2 => ?_
  try simp only [evs, tys]
  refine Imp.bnd (Imp.loop (seineref13_Sorted_l2_ok y2) ⟨by first | rfl | simp only [evs, tys, evl], rfl⟩) ?_
  rintro b_115 vy116 hy116
  obtain ⟨i_114, rfl⟩ := hy116
  refine Imp.exHit rfl (Imp.chk rfl (Imp.chk rfl ?_))
  try simp only [evs, tys]
  refine Imp.cnd ?_ ?_
  · exact Imp.some (by first | rfl | simp only [seineref13_SortedE, evs, tys, evl])
  · exact Imp.none
theorem seineref13_Sorted_run {l0 : List Str} {r : List Str} (h : seineref13_Sorted_B l0 = some r) : seineref13_Sorted l0 = some r := by
  obtain ⟨v, hv, rfl⟩ := seineref13_Sorted_imp l0 r h
  exact tO_of (pair_inj seineref13_SortedEj) (OL_runD seineref13_Sorted_ds rfl rfl Try.func23 ((seineref13_Sorted_t1 _ _ l0).trans hv))

def value_Vars_T1 (O : Orc) (LP : LBody → LBody) (v0 : GValue) : Option (PV × UP) :=
  callp O 54 [(.slice [] [] true), (.agg [(.int .i64 v0.kind), (.int .i64 v0.n), (.str v0.s), (.slice (List.map encValue v0.l) [] false), (.slice (List.map encMember v0.m) [] false)])] fun x1 => cnd (chk (.sl true) x1)
  (some ((.slice (esV x1) [] false), [])) none
noncomputable def value_Vars_B (v0 : GValue) : Option (List Str) :=
  bnd (value_vars ([] : List Str) v0) fun y2 =>
  some y2
def value_Vars_ds : Decs := { decs := [(4, (.sl true))], ups := [], loops := [] }
set_option maxRecDepth 100000 in
theorem value_Vars_t1 (O : Orc) (LP : LBody → LBody) (v0 : GValue) : evalBodyD Try.prog (MT 44) value_Vars_ds Try.f44.ntmps O LP Try.f44 [(.agg [(.int .i64 v0.kind), (.int .i64 v0.n), (.str v0.s), (.slice (List.map encValue v0.l) [] false), (.slice (List.map encMember v0.m) [] false)])] [] = value_Vars_T1 O LP v0 := by kernel_rfl
theorem value_Vars_imp (v0 : GValue) : Imp (value_Vars_B v0) (value_Vars_T1 O loopLim v0) (fun r v => v = (value_VarsE r, [])) := by
  simp only [value_Vars_B, value_Vars_T1]
  try simp only [evs, tys]
  refine Imp.call (f := value_varsE) rfl (fun a h => by first | exact value_vars_spec h | simpa only [evs, tys, evl] using value_vars_spec h) (fun a => by first | rfl | simp only [value_varsE, evk, chks]) fun y2 hy2 => ?_
  try simp only [value_varsE, evs, tys]
  exact Imp.some (by first | rfl | simp only [value_VarsE, evs, tys, evl])
theorem value_Vars_run {v0 : GValue} {r : List Str} (h : value_Vars_B v0 = some r) : value_Vars v0 = some r := by
  obtain ⟨v, hv, rfl⟩ := value_Vars_imp v0 r h
  exact tO_of (pair_inj value_VarsEj) (OL_runD value_Vars_ds rfl rfl Try.func44 ((value_Vars_t1 _ _ v0).trans hv))

theorem vars_insert_run {l0 : List Str} {name : Str} {r : List Str} (h : tInsert l0 name = some r) : vars_insert l0 name = some r := tO_of (pair_inj vars_insertEj) (OL_ext (g := xInsert) rfl (xInsert_of h))
end Go.Proofs.Ytphmfillajagdaa

/- Printed by symgen.py: typed functions of this seat, and why they tell what the program does. -/
set_option linter.unusedVariables false
set_option linter.unusedSimpArgs false
open Go Go.Ev Go.Ev.PV
namespace Go.Proofs.Ytphmfillajagdaa
def graph_reached_l1 (O : Orc) (LP : LBody → LBody) : LBody := fun s3 s3u => cnd (chkL [(.ptr 0 2 0), (.sl true), (.int .i64), (.sl false), (.sl false)] s3) (cnd (chkU [] s3u)
  (cnd (decide ((intV (gt s3 2)) ≥ (List.length (esV (gt s3 1)) : Int)))
   (some (.brk 0, [(.ptr 0 2 0), (.slice (esV (gt s3 1)) [] true), (.int .i64 (intV (gt s3 2))), (.slice (esV (gt s3 3)) [] false), (.slice (esV (gt s3 4)) [] false)], []))
   (bnd (ix 1 (.slice (esV (gt s3 1)) [] false) (.int .i64 (intV (gt s3 2)))) fun x12 => cnd (chk (.ref .str) x12)
   (callp O 19 [(.agg [(.slice (esV (gt s3 3)) [] false), (.slice (esV (gt s3 4)) [] false)]), (.str (strV (refV x12)))] fun x14 => cnd (chk (.tup [shFrag, .bool]) x14)
   (cnd (!(boolV (gt (tupV x14) 1)))
    (some (.nrm, [(.ptr 0 2 0), (.slice (esV (gt s3 1)) [] true), (.int .i64 (IntKind.wrap .i64 ((intV (gt s3 2)) + 1))), (.slice (esV (gt s3 3)) [] false), (.slice (esV (gt s3 4)) [] false)], []))
    (callp O 46 [(.slice (esV (gt s3 1)) [] true), (.slice (esV (gt (aggV (gt (tupV x14) 0)) 3)) [] false)] fun x16 => cnd (chk (.sl true) x16)
    (some (.nrm, [(.ptr 0 2 0), (.slice (esV x16) [] true), (.int .i64 (IntKind.wrap .i64 ((intV (gt s3 2)) + 1))), (.slice (esV (gt s3 3)) [] false), (.slice (esV (gt s3 4)) [] false)], [])) none)) none) none)) none) none
def graph_reached_T1 (O : Orc) (LP : LBody → LBody) (d : GDoc) (sels : List GSel) : Option (PV × UP) :=
  callp O 46 [(.slice [] [] true), (.slice (List.map encSel sels) [] false)] fun x1 => cnd (chk (.sl true) x1)
  (bnd (LP (graph_reached_l1 O LP) [(.ptr 0 2 0), (.slice (esV x1) [] true), (.int .i64 0), (.slice (List.map encOp d.ops) [] false), (.slice (List.map encFrag d.frags) [] false)] []) fun y20 =>
  exIs y20.1 (some 0) (cnd (chkL [(.ptr 0 2 0), (.sl true), (.int .i64), (.sl false), (.sl false)] y20.2.1) (cnd (chkU [] y20.2.2)
   (some ((.slice (esV (gt y20.2.1 1)) [] false), [])) none) none)
  (none)) none
noncomputable def graph_reached_l1T (d : GDoc) (sels : List GSel) : (Int × (List Str)) → Option ((Int × (List Str)) ⊕ ((List Str)))
  | (i_10, l_11) =>
  cnd (decide (i_10 ≥ (List.length l_11 : Int)))
   (some (.inr l_11))
   (bnd (nthI l_11 i_10) fun y13 =>
   bnd (graph_Frag d y13) fun y15 =>
   cnd (!y15.2)
    (some (.inl ((IntKind.wrap .i64 (i_10 + 1)), l_11)))
    (bnd (graph_spreads l_11 y15.1.sels) fun y17 =>
    some (.inl ((IntKind.wrap .i64 (i_10 + 1)), y17))))
abbrev graph_reached_l1R (d : GDoc) (sels : List GSel) (st : Int × (List Str)) (l : List PV) (u : UP) : Prop := l = [(.ptr 0 2 0), (.slice (List.map PV.str st.2) [] true), (.int .i64 st.1), (.slice (List.map encOp d.ops) [] false), (.slice (List.map encFrag d.frags) [] false)] ∧ u = []
abbrev graph_reached_l1X (d : GDoc) (sels : List GSel) (p : (List Str)) (r : Ex × List PV × UP) : Prop := (fun (p : (List Str)) => ∃ (i_19 : Int), r = (Ex.brk 0, [(.ptr 0 2 0), (.slice (List.map PV.str p) [] true), (.int .i64 i_19), (.slice (List.map encOp d.ops) [] false), (.slice (List.map encFrag d.frags) [] false)], [])) p
noncomputable def graph_reached_B (d : GDoc) (sels : List GSel) : Option (List Str) :=
  bnd (graph_spreads ([] : List Str) sels) fun y2 =>
  bnd (tloop (graph_reached_l1T d sels) (0, y2)) fun l_18 =>
  some l_18
def graph_reached_ds : Decs := { decs := [(10, (.sl true)), (21, (.ref .str)), (23, (.tup [shFrag, .bool])), (31, (.sl true))], ups := [], loops := [(4, [(2, 2)], ⟨[(.ptr 0 2 0), (.sl true), (.int .i64), (.sl false), (.sl false)], [], [(some 0, [(.ptr 0 2 0), (.sl true), (.int .i64), (.sl false), (.sl false)], [])]⟩)] }
set_option maxRecDepth 100000 in
theorem graph_reached_t1 (O : Orc) (LP : LBody → LBody) (d : GDoc) (sels : List GSel) : evalBodyD Try.prog (MT 28) graph_reached_ds Try.f28.ntmps O LP Try.f28 [(.agg [(.slice (List.map encOp d.ops) [] false), (.slice (List.map encFrag d.frags) [] false)]), (.slice (List.map encSel sels) [] false)] [] = graph_reached_T1 O LP d sels := by kernel_rfl
theorem graph_reached_l1_ok (d : GDoc) (sels : List GSel) : ∀ st l u, graph_reached_l1R d sels st l u → Imp (graph_reached_l1T d sels st) (graph_reached_l1 O loopLim l u) (StepR (graph_reached_l1R d sels) (graph_reached_l1X d sels)) := by
  rintro ⟨i_10, l_11⟩ l u ⟨rfl, rfl⟩
  simp only [graph_reached_l1T, graph_reached_l1]
  refine Imp.chk rfl (Imp.chk rfl ?_)
  try simp only [evs, tys]
  refine Imp.cnd ?_ ?_
  · exact Imp.some (StepR.brk ⟨i_10, by first | rfl | simp only [evs, tys, evl, elim_inl, elim_inr]⟩)
  · refine Imp.op (f := fun a => .ref (PV.str a)) (fun a h => op_ix (enc := PV.str) (by first | rfl | simp only [evs, tys, evl]) ⟨by first | rfl | simp only [evs, tys, evc], by decide⟩ h) (fun a => rfl) fun y13 hy13 => ?_
    try simp only [evs, tys]
    refine Imp.call (f := graph_FragE) rfl (fun a h => by first | exact graph_Frag_spec h | simpa only [evs, tys, evl] using graph_Frag_spec h) (fun a => by first | rfl | simp only [graph_FragE, evk, chks]) fun y15 hy15 => ?_
    try simp only [graph_FragE, evs, tys]
    refine Imp.cnd ?_ ?_
    · exact Imp.some (StepR.next ⟨by first | rfl | simp only [evs, tys, evl], rfl⟩)
    · refine Imp.call (f := graph_spreadsE) rfl (fun a h => by first | exact graph_spreads_spec h | simpa only [evs, tys, evl] using graph_spreads_spec h) (fun a => by first | rfl | simp only [graph_spreadsE, evk, chks]) fun y17 hy17 => ?_
      try simp only [graph_spreadsE, evs, tys]
      exact Imp.some (StepR.next ⟨by first | rfl | simp only [evs, tys, evl], rfl⟩)
theorem graph_reached_imp (d : GDoc) (sels : List GSel) : Imp (graph_reached_B d sels) (graph_reached_T1 O loopLim d sels) (fun r v => v = (graph_reachedE r, [])) := by
  simp only [graph_reached_B, graph_reached_T1]
  try simp only [evs, tys]
  refine Imp.call (f := graph_spreadsE) rfl (fun a h => by first | exact graph_spreads_spec h | simpa only [evs, tys, evl] using graph_spreads_spec h) (fun a => by first | rfl | simp only [graph_spreadsE, evk, chks]) fun y2 hy2 => ?_
  try simp only [graph_spreadsE, evs, tys]
  refine Imp.bnd (Imp.loop (graph_reached_l1_ok d sels) ⟨by first | rfl | simp only [evs, tys, evl], rfl⟩) ?_
  rintro l_18 vy20 hy20
  obtain ⟨i_19, rfl⟩ := hy20
  refine Imp.exHit rfl (Imp.chk rfl (Imp.chk rfl ?_))
  try simp only [evs, tys]
  exact Imp.some (by first | rfl | simp only [graph_reachedE, evs, tys, evl])
theorem graph_reached_run {d : GDoc} {sels : List GSel} {r : List Str} (h : graph_reached_B d sels = some r) : graph_reached d sels = some r := by
  obtain ⟨v, hv, rfl⟩ := graph_reached_imp d sels r h
  exact tO_of (pair_inj graph_reachedEj) (OL_runD graph_reached_ds rfl rfl Try.func28 ((graph_reached_t1 _ _ d sels).trans hv))

def slices_Contains_string_string_T1 (O : Orc) (LP : LBody → LBody) (s : List Str) (v0 : Str) : Option (PV × UP) :=
  callp O 47 [(.slice (List.map PV.str s) [] false), (.str v0)] fun x1 => cnd (chk (.int .i64) x1)
  (some ((.bool (decide ((intV x1) ≥ 0))), [])) none
noncomputable def slices_Contains_string_string_B (s : List Str) (v0 : Str) : Option Bool :=
  bnd (slices_Index_string_string s v0) fun y2 =>
  some (decide (y2 ≥ 0))
def slices_Contains_string_string_ds : Decs := { decs := [(7, (.int .i64))], ups := [], loops := [] }
set_option maxRecDepth 100000 in
theorem slices_Contains_string_string_t1 (O : Orc) (LP : LBody → LBody) (s : List Str) (v0 : Str) : evalBodyD Try.prog (MT 29) slices_Contains_string_string_ds Try.f29.ntmps O LP Try.f29 [(.slice (List.map PV.str s) [] false), (.str v0)] [] = slices_Contains_string_string_T1 O LP s v0 := by kernel_rfl
theorem slices_Contains_string_string_imp (s : List Str) (v0 : Str) : Imp (slices_Contains_string_string_B s v0) (slices_Contains_string_string_T1 O loopLim s v0) (fun r v => v = (slices_Contains_string_stringE r, [])) := by
  simp only [slices_Contains_string_string_B, slices_Contains_string_string_T1]
  try simp only [evs, tys]
  refine Imp.call (f := slices_Index_string_stringE) rfl (fun a h => by first | exact slices_Index_string_string_spec h | simpa only [evs, tys, evl] using slices_Index_string_string_spec h) (fun a => by first | rfl | simp only [slices_Index_string_stringE, evk, chks]) fun y2 hy2 => ?_
  try simp only [slices_Index_string_stringE, evs, tys]
  exact Imp.some (by first | rfl | simp only [slices_Contains_string_stringE, evs, tys, evl])
theorem slices_Contains_string_string_run {s : List Str} {v0 : Str} {r : Bool} (h : slices_Contains_string_string_B s v0 = some r) : slices_Contains_string_string s v0 = some r := by
  obtain ⟨v, hv, rfl⟩ := slices_Contains_string_string_imp s v0 r h
  exact tO_of (pair_inj slices_Contains_string_stringEj) (OL_runD slices_Contains_string_string_ds rfl rfl Try.func29 ((slices_Contains_string_string_t1 _ _ s v0).trans hv))

def seineref13_used_l1 (O : Orc) (LP : LBody → LBody) : LBody := fun s34 s34u => cnd (chkL [(.sl false), (.sl true), (.int .i64), (.sl false), (.int .i64)] s34) (cnd (chkU [] s34u)
  (cnd (decide ((intV (gt s34 4)) < (List.length (esV (gt s34 3)) : Int)))
   (bnd (ix 1 (.slice (esV (gt s34 3)) [] false) (.int .i64 (intV (gt s34 4)))) fun x45 => cnd (chk (.ref .str) x45)
   (callp O 10 [(.slice (esV (gt s34 1)) [] false), (.str (strV (refV x45)))] fun x47 => cnd (chk .bool x47)
   (cnd (!(boolV x47))
    (bnd (ix 1 (.slice (esV (gt s34 3)) [] false) (.int .i64 (intV (gt s34 4)))) fun x49 => cnd (chk (.ref .str) x49)
    (bnd (apd 1 (.slice (esV (gt s34 1)) [] true) (.slice [(.str (strV (refV x49)))] [] true)) fun x51 => cnd (chk (.sl true) x51)
    (some (.nrm, [(.slice (esV (gt s34 0)) [] false), (.slice (esV x51) [] true), (.int .i64 (intV (gt s34 2))), (.slice (esV (gt s34 3)) [] false), (.int .i64 (IntKind.wrap .i64 ((intV (gt s34 4)) + 1)))], [])) none) none)
    (some (.nrm, [(.slice (esV (gt s34 0)) [] false), (.slice (esV (gt s34 1)) [] true), (.int .i64 (intV (gt s34 2))), (.slice (esV (gt s34 3)) [] false), (.int .i64 (IntKind.wrap .i64 ((intV (gt s34 4)) + 1)))], []))) none) none)
   (some (.brk 2, [(.slice (esV (gt s34 0)) [] false), (.slice (esV (gt s34 1)) [] true), (.int .i64 (intV (gt s34 2))), (.slice (esV (gt s34 3)) [] false), (.int .i64 (intV (gt s34 4)))], []))) none) none
def seineref13_used_l2 (O : Orc) (LP : LBody → LBody) : LBody := fun s1 s1u => cnd (chkL [(.sl false), (.sl true), (.int .i64)] s1) (cnd (chkU [] s1u)
  (cnd (decide ((intV (gt s1 2)) < (List.length (esV (gt s1 0)) : Int)))
   (bnd (ix 6 (.slice (esV (gt s1 0)) [] false) (.int .i64 (intV (gt s1 2)))) fun x30 => cnd (chk (.ref shMember) x30)
   (callp O 48 [(.agg [(.int .i64 (intV (gt (aggV (refV x30)) 1))), (.int .i64 (intV (gt (aggV (refV x30)) 2))), (.str (strV (gt (aggV (refV x30)) 3))), (.slice (esV (gt (aggV (refV x30)) 4)) [] false), (.slice (esV (gt (aggV (refV x30)) 5)) [] false)])] fun x32 => cnd (chk (.sl false) x32)
   (bnd (LP (seineref13_used_l1 O LP) [(.slice (esV (gt s1 0)) [] false), (.slice (esV (gt s1 1)) [] true), (.int .i64 (intV (gt s1 2))), (.slice (esV x32) [] false), (.int .i64 0)] []) fun y55 =>
   exIs y55.1 (some 2) (cnd (chkL [(.sl false), (.sl true), (.int .i64), (.sl false), (.int .i64)] y55.2.1) (cnd (chkU [] y55.2.2)
    (some (.nrm, [(.slice (esV (gt y55.2.1 0)) [] false), (.slice (esV (gt y55.2.1 1)) [] true), (.int .i64 (IntKind.wrap .i64 ((intV (gt y55.2.1 2)) + 1)))], [])) none) none)
   (none)) none) none)
   (some (.brk 0, [(.slice (esV (gt s1 0)) [] false), (.slice (esV (gt s1 1)) [] true), (.int .i64 (intV (gt s1 2)))], []))) none) none
def seineref13_used_T1 (O : Orc) (LP : LBody → LBody) (m : List GMember) (out0 : List Str) : Option (PV × UP) :=
  bnd (LP (seineref13_used_l2 O LP) [(.slice (List.map encMember m) [] false), (.slice (List.map PV.str out0) [] true), (.int .i64 0)] []) fun y58 =>
  exIs y58.1 (some 0) (cnd (chkL [(.sl false), (.sl true), (.int .i64)] y58.2.1) (cnd (chkU [] y58.2.2)
   (some ((.slice (esV (gt y58.2.1 1)) [] true), [])) none) none)
  (none)
noncomputable def seineref13_used_l1T (y33 : List Str) : ((List Str) × Int) → Option (((List Str) × Int) ⊕ ((List Str)))
  | (out_43, k_44) =>
  cnd (decide (k_44 < (List.length y33 : Int)))
   (bnd (nthI y33 k_44) fun y46 =>
   bnd (seineref1_Has out_43 y46) fun y48 =>
   cnd (!y48)
    (bnd (nthI y33 k_44) fun y50 =>
    bnd (tapp out_43 [y50]) fun y52 =>
    some (.inl (y52, (IntKind.wrap .i64 (k_44 + 1)))))
    (some (.inl (out_43, (IntKind.wrap .i64 (k_44 + 1))))))
   (some (.inr out_43))
abbrev seineref13_used_l1R (m : List GMember) (i_29 : Int) (y33 : List Str) (st : (List Str) × Int) (l : List PV) (u : UP) : Prop := l = [(.slice (List.map encMember m) [] false), (.slice (List.map PV.str st.1) [] true), (.int .i64 i_29), (.slice (List.map PV.str y33) [] false), (.int .i64 st.2)] ∧ u = []
abbrev seineref13_used_l1X (m : List GMember) (i_29 : Int) (y33 : List Str) (p : (List Str)) (r : Ex × List PV × UP) : Prop := (fun (p : (List Str)) => ∃ (k_54 : Int), r = (Ex.brk 2, [(.slice (List.map encMember m) [] false), (.slice (List.map PV.str p) [] true), (.int .i64 i_29), (.slice (List.map PV.str y33) [] false), (.int .i64 k_54)], [])) p
noncomputable def seineref13_used_l2T (m : List GMember) : ((List Str) × Int) → Option (((List Str) × Int) ⊕ ((List Str)))
  | (out_28, i_29) =>
  cnd (decide (i_29 < (List.length m : Int)))
   (bnd (nthI m i_29) fun y31 =>
   bnd (seineref1_Vars y31.v) fun y33 =>
   bnd (tloop (seineref13_used_l1T y33) (out_28, 0)) fun out_53 =>
   some (.inl (out_53, (IntKind.wrap .i64 (i_29 + 1)))))
   (some (.inr out_28))
abbrev seineref13_used_l2R (m : List GMember) (st : (List Str) × Int) (l : List PV) (u : UP) : Prop := l = [(.slice (List.map encMember m) [] false), (.slice (List.map PV.str st.1) [] true), (.int .i64 st.2)] ∧ u = []
abbrev seineref13_used_l2X (m : List GMember) (p : (List Str)) (r : Ex × List PV × UP) : Prop := (fun (p : (List Str)) => ∃ (i_57 : Int), r = (Ex.brk 0, [(.slice (List.map encMember m) [] false), (.slice (List.map PV.str p) [] true), (.int .i64 i_57)], [])) p
noncomputable def seineref13_used_B (m : List GMember) (out0 : List Str) : Option (List Str) :=
  bnd (tloop (seineref13_used_l2T m) (out0, 0)) fun out_56 =>
  some out_56
def seineref13_used_ds : Decs := { decs := [(16, (.ref shMember)), (19, (.sl false)), (29, (.ref .str)), (31, .bool), (36, (.ref .str)), (39, (.sl true))], ups := [], loops := [(2, [], ⟨[(.sl false), (.sl true), (.int .i64)], [], [(some 0, [(.sl false), (.sl true), (.int .i64)], [])]⟩), (6, [], ⟨[(.sl false), (.sl true), (.int .i64), (.sl false), (.int .i64)], [], [(some 2, [(.sl false), (.sl true), (.int .i64), (.sl false), (.int .i64)], [])]⟩)] }
set_option maxRecDepth 100000 in
theorem seineref13_used_t1 (O : Orc) (LP : LBody → LBody) (m : List GMember) (out0 : List Str) : evalBodyD Try.prog (MT 32) seineref13_used_ds Try.f32.ntmps O LP Try.f32 [(.slice (List.map encMember m) [] false), (.slice (List.map PV.str out0) [] true)] [] = seineref13_used_T1 O LP m out0 := by kernel_rfl
theorem seineref13_used_l1_ok (m : List GMember) (i_29 : Int) (y33 : List Str) : ∀ st l u, seineref13_used_l1R m i_29 y33 st l u → Imp (seineref13_used_l1T y33 st) (seineref13_used_l1 O loopLim l u) (StepR (seineref13_used_l1R m i_29 y33) (seineref13_used_l1X m i_29 y33)) := by
  rintro ⟨out_43, k_44⟩ l u ⟨rfl, rfl⟩
  simp only [seineref13_used_l1T, seineref13_used_l1]
  refine Imp.chk rfl (Imp.chk rfl ?_)
  try simp only [evs, tys]
  refine Imp.cnd ?_ ?_
  · refine Imp.op (f := fun a => .ref (PV.str a)) (fun a h => op_ix (enc := PV.str) (by first | rfl | simp only [evs, tys, evl]) ⟨by first | rfl | simp only [evs, tys, evc], by decide⟩ h) (fun a => rfl) fun y46 hy46 => ?_
    try simp only [evs, tys]
    refine Imp.call (f := seineref1_HasE) rfl (fun a h => by first | exact seineref1_Has_spec h | simpa only [evs, tys, evl] using seineref1_Has_spec h) (fun a => by first | rfl | simp only [seineref1_HasE, evk, chks]) fun y48 hy48 => ?_
    try simp only [seineref1_HasE, evs, tys]
    refine Imp.cnd ?_ ?_
    · refine Imp.op (f := fun a => .ref (PV.str a)) (fun a h => op_ix (enc := PV.str) (by first | rfl | simp only [evs, tys, evl]) ⟨by first | rfl | simp only [evs, tys, evc], by decide⟩ h) (fun a => rfl) fun y50 hy50 => ?_
      try simp only [evs, tys]
      refine Imp.op (f := fun a => .slice (List.map PV.str a) [] true) (fun a h => op_apd (enc := PV.str) (by first | rfl | simp only [evs, tys, evl]) (by first | rfl | simp only [evs, tys, evl]) (fun a => by first | rfl | simp only [evs, tys, evc]) h) (fun a => rfl) fun y52 hy52 => ?_
      try simp only [evs, tys]
      exact Imp.some (StepR.next ⟨by first | rfl | simp only [evs, tys, evl], rfl⟩)
    · exact Imp.some (StepR.next ⟨by first | rfl | simp only [evs, tys, evl], rfl⟩)
  · exact Imp.some (StepR.brk ⟨k_44, by first | rfl | simp only [evs, tys, evl, elim_inl, elim_inr]⟩)
theorem seineref13_used_l2_ok (m : List GMember) : ∀ st l u, seineref13_used_l2R m st l u → Imp (seineref13_used_l2T m st) (seineref13_used_l2 O loopLim l u) (StepR (seineref13_used_l2R m) (seineref13_used_l2X m)) := by
  rintro ⟨out_28, i_29⟩ l u ⟨rfl, rfl⟩
  simp only [seineref13_used_l2T, seineref13_used_l2]
  refine Imp.chk rfl (Imp.chk rfl ?_)
  try simp only [evs, tys]
  refine Imp.cnd ?_ ?_
  · refine Imp.op (f := fun a => .ref (encMember a)) (fun a h => op_ix (enc := encMember) (by first | rfl | simp only [evs, tys, evl]) ⟨by first | rfl | simp only [evs, tys, evc], by decide⟩ h) (fun a => chk_GMember a) fun y31 hy31 => ?_
    try simp only [evs, tys]
    refine Imp.call (f := seineref1_VarsE) rfl (fun a h => by first | exact seineref1_Vars_spec h | simpa only [evs, tys, evl] using seineref1_Vars_spec h) (fun a => by first | rfl | simp only [seineref1_VarsE, evk, chks]) fun y33 hy33 => ?_
    try simp only [seineref1_VarsE, evs, tys]
    refine Imp.bnd (Imp.loop (seineref13_used_l1_ok m i_29 y33) ⟨by first | rfl | simp only [evs, tys, evl], rfl⟩) ?_
    rintro out_53 vy55 hy55
    obtain ⟨k_54, rfl⟩ := hy55
    refine Imp.exHit rfl (Imp.chk rfl (Imp.chk rfl ?_))
    try simp only [evs, tys]
    exact Imp.some (StepR.next ⟨by first | rfl | simp only [evs, tys, evl], rfl⟩)
  · exact Imp.some (StepR.brk ⟨i_29, by first | rfl | simp only [evs, tys, evl, elim_inl, elim_inr]⟩)
theorem seineref13_used_imp (m : List GMember) (out0 : List Str) : Imp (seineref13_used_B m out0) (seineref13_used_T1 O loopLim m out0) (fun r v => v = (seineref13_usedE r, [])) := by
  simp only [seineref13_used_B, seineref13_used_T1]
  try simp only [evs, tys]
  refine Imp.bnd (Imp.loop (seineref13_used_l2_ok m) ⟨by first | rfl | simp only [evs, tys, evl], rfl⟩) ?_
  rintro out_56 vy58 hy58
  obtain ⟨i_57, rfl⟩ := hy58
  refine Imp.exHit rfl (Imp.chk rfl (Imp.chk rfl ?_))
  try simp only [evs, tys]
  exact Imp.some (by first | rfl | simp only [seineref13_usedE, evs, tys, evl])
theorem seineref13_used_run {m : List GMember} {out0 : List Str} {r : List Str} (h : seineref13_used_B m out0 = some r) : seineref13_used m out0 = some r := by
  obtain ⟨v, hv, rfl⟩ := seineref13_used_imp m out0 r h
  exact tO_of (pair_inj seineref13_usedEj) (OL_runD seineref13_used_ds rfl rfl Try.func32 ((seineref13_used_t1 _ _ m out0).trans hv))

def seineref13_Spreads_T1 (O : Orc) (LP : LBody → LBody) (l0 : List GSel) : Option (PV × UP) :=
  callp O 34 [(.slice (List.map encSel l0) [] false), (.slice [] [] true)] fun x1 => cnd (chk (.sl true) x1)
  (some ((.slice (esV x1) [] true), [])) none
noncomputable def seineref13_Spreads_B (l0 : List GSel) : Option (List Str) :=
  bnd (seineref13_spreads l0 ([] : List Str)) fun y2 =>
  some y2
def seineref13_Spreads_ds : Decs := { decs := [(4, (.sl true))], ups := [], loops := [] }
set_option maxRecDepth 100000 in
theorem seineref13_Spreads_t1 (O : Orc) (LP : LBody → LBody) (l0 : List GSel) : evalBodyD Try.prog (MT 33) seineref13_Spreads_ds Try.f33.ntmps O LP Try.f33 [(.slice (List.map encSel l0) [] false)] [] = seineref13_Spreads_T1 O LP l0 := by kernel_rfl
theorem seineref13_Spreads_imp (l0 : List GSel) : Imp (seineref13_Spreads_B l0) (seineref13_Spreads_T1 O loopLim l0) (fun r v => v = (seineref13_SpreadsE r, [])) := by
  simp only [seineref13_Spreads_B, seineref13_Spreads_T1]
  try simp only [evs, tys]
  refine Imp.call (f := seineref13_spreadsE) rfl (fun a h => by first | exact seineref13_spreads_spec h | simpa only [evs, tys, evl] using seineref13_spreads_spec h) (fun a => by first | rfl | simp only [seineref13_spreadsE, evk, chks]) fun y2 hy2 => ?_
  try simp only [seineref13_spreadsE, evs, tys]
  exact Imp.some (by first | rfl | simp only [seineref13_SpreadsE, evs, tys, evl])
theorem seineref13_Spreads_run {l0 : List GSel} {r : List Str} (h : seineref13_Spreads_B l0 = some r) : seineref13_Spreads l0 = some r := by
  obtain ⟨v, hv, rfl⟩ := seineref13_Spreads_imp l0 r h
  exact tO_of (pair_inj seineref13_SpreadsEj) (OL_runD seineref13_Spreads_ds rfl rfl Try.func33 ((seineref13_Spreads_t1 _ _ l0).trans hv))

def seineref13_spreads_l1 (O : Orc) (LP : LBody → LBody) : LBody := fun s1 s1u => cnd (chkL [(.sl false), (.sl true), (.int .i64)] s1) (cnd (chkU [] s1u)
  (cnd (decide ((intV (gt s1 2)) < (List.length (esV (gt s1 0)) : Int)))
   (bnd (ix 7 (.slice (esV (gt s1 0)) [] false) (.int .i64 (intV (gt s1 2)))) fun x26 => cnd (chk (.ref shSel) x26)
   (cnd ((intV (gt (aggV (refV x26)) 0)) == 1)
    (bnd (ix 7 (.slice (esV (gt s1 0)) [] false) (.int .i64 (intV (gt s1 2)))) fun x28 => cnd (chk (.ref shSel) x28)
    (callp O 10 [(.slice (esV (gt s1 1)) [] false), (.str (strV (gt (aggV (refV x28)) 2)))] fun x30 => cnd (chk .bool x30)
    (cnd (!(boolV x30))
     (bnd (ix 7 (.slice (esV (gt s1 0)) [] false) (.int .i64 (intV (gt s1 2)))) fun x32 => cnd (chk (.ref shSel) x32)
     (bnd (apd 1 (.slice (esV (gt s1 1)) [] true) (.slice [(.str (strV (gt (aggV (refV x32)) 2)))] [] true)) fun x34 => cnd (chk (.sl true) x34)
     (bnd (ix 7 (.slice (esV (gt s1 0)) [] false) (.int .i64 (intV (gt s1 2)))) fun x36 => cnd (chk (.ref shSel) x36)
     (callp O 34 [(.slice (esV (gt (aggV (refV x36)) 6)) [] false), (.slice (esV x34) [] true)] fun x38 => cnd (chk (.sl true) x38)
     (some (.nrm, [(.slice (esV (gt s1 0)) [] false), (.slice (esV x38) [] true), (.int .i64 (IntKind.wrap .i64 ((intV (gt s1 2)) + 1)))], [])) none) none) none) none)
     (bnd (ix 7 (.slice (esV (gt s1 0)) [] false) (.int .i64 (intV (gt s1 2)))) fun x40 => cnd (chk (.ref shSel) x40)
     (callp O 34 [(.slice (esV (gt (aggV (refV x40)) 6)) [] false), (.slice (esV (gt s1 1)) [] true)] fun x42 => cnd (chk (.sl true) x42)
     (some (.nrm, [(.slice (esV (gt s1 0)) [] false), (.slice (esV x42) [] true), (.int .i64 (IntKind.wrap .i64 ((intV (gt s1 2)) + 1)))], [])) none) none)) none) none)
    (bnd (ix 7 (.slice (esV (gt s1 0)) [] false) (.int .i64 (intV (gt s1 2)))) fun x44 => cnd (chk (.ref shSel) x44)
    (callp O 34 [(.slice (esV (gt (aggV (refV x44)) 6)) [] false), (.slice (esV (gt s1 1)) [] true)] fun x46 => cnd (chk (.sl true) x46)
    (some (.nrm, [(.slice (esV (gt s1 0)) [] false), (.slice (esV x46) [] true), (.int .i64 (IntKind.wrap .i64 ((intV (gt s1 2)) + 1)))], [])) none) none)) none)
   (some (.brk 0, [(.slice (esV (gt s1 0)) [] false), (.slice (esV (gt s1 1)) [] true), (.int .i64 (intV (gt s1 2)))], []))) none) none
def seineref13_spreads_T1 (O : Orc) (LP : LBody → LBody) (l0 : List GSel) (out0 : List Str) : Option (PV × UP) :=
  bnd (LP (seineref13_spreads_l1 O LP) [(.slice (List.map encSel l0) [] false), (.slice (List.map PV.str out0) [] true), (.int .i64 0)] []) fun y50 =>
  exIs y50.1 (some 0) (cnd (chkL [(.sl false), (.sl true), (.int .i64)] y50.2.1) (cnd (chkU [] y50.2.2)
   (some ((.slice (esV (gt y50.2.1 1)) [] true), [])) none) none)
  (none)
noncomputable def seineref13_spreads_l1T (l0 : List GSel) : ((List Str) × Int) → Option (((List Str) × Int) ⊕ ((List Str)))
  | (out_24, i_25) =>
  cnd (decide (i_25 < (List.length l0 : Int)))
   (bnd (nthI l0 i_25) fun y27 =>
   cnd (y27.kind == 1)
    (bnd (nthI l0 i_25) fun y29 =>
    bnd (seineref1_Has out_24 y29.name) fun y31 =>
    cnd (!y31)
     (bnd (nthI l0 i_25) fun y33 =>
     bnd (tapp out_24 [y33.name]) fun y35 =>
     bnd (nthI l0 i_25) fun y37 =>
     bnd (seineref13_spreads y37.sels y35) fun y39 =>
     some (.inl (y39, (IntKind.wrap .i64 (i_25 + 1)))))
     (bnd (nthI l0 i_25) fun y41 =>
     bnd (seineref13_spreads y41.sels out_24) fun y43 =>
     some (.inl (y43, (IntKind.wrap .i64 (i_25 + 1))))))
    (bnd (nthI l0 i_25) fun y45 =>
    bnd (seineref13_spreads y45.sels out_24) fun y47 =>
    some (.inl (y47, (IntKind.wrap .i64 (i_25 + 1))))))
   (some (.inr out_24))
abbrev seineref13_spreads_l1R (l0 : List GSel) (st : (List Str) × Int) (l : List PV) (u : UP) : Prop := l = [(.slice (List.map encSel l0) [] false), (.slice (List.map PV.str st.1) [] true), (.int .i64 st.2)] ∧ u = []
abbrev seineref13_spreads_l1X (l0 : List GSel) (p : (List Str)) (r : Ex × List PV × UP) : Prop := (fun (p : (List Str)) => ∃ (i_49 : Int), r = (Ex.brk 0, [(.slice (List.map encSel l0) [] false), (.slice (List.map PV.str p) [] true), (.int .i64 i_49)], [])) p
noncomputable def seineref13_spreads_B (l0 : List GSel) (out0 : List Str) : Option (List Str) :=
  bnd (tloop (seineref13_spreads_l1T l0) (out0, 0)) fun out_48 =>
  some out_48
def seineref13_spreads_ds : Decs := { decs := [(14, (.ref shSel)), (22, (.ref shSel)), (25, .bool), (31, (.ref shSel)), (35, (.sl true)), (38, (.ref shSel)), (42, (.sl true))], ups := [], loops := [(2, [], ⟨[(.sl false), (.sl true), (.int .i64)], [], [(some 0, [(.sl false), (.sl true), (.int .i64)], [])]⟩)] }
set_option maxRecDepth 100000 in
theorem seineref13_spreads_t1 (O : Orc) (LP : LBody → LBody) (l0 : List GSel) (out0 : List Str) : evalBodyD Try.prog (MT 34) seineref13_spreads_ds Try.f34.ntmps O LP Try.f34 [(.slice (List.map encSel l0) [] false), (.slice (List.map PV.str out0) [] true)] [] = seineref13_spreads_T1 O LP l0 out0 := by kernel_rfl
theorem seineref13_spreads_l1_ok (l0 : List GSel) : ∀ st l u, seineref13_spreads_l1R l0 st l u → Imp (seineref13_spreads_l1T l0 st) (seineref13_spreads_l1 O loopLim l u) (StepR (seineref13_spreads_l1R l0) (seineref13_spreads_l1X l0)) := by
  rintro ⟨out_24, i_25⟩ l u ⟨rfl, rfl⟩
  simp only [seineref13_spreads_l1T, seineref13_spreads_l1]
  refine Imp.chk rfl (Imp.chk rfl ?_)
  try simp only [evs, tys]
  refine Imp.cnd ?_ ?_
  · refine Imp.op (f := fun a => .ref (encSel a)) (fun a h => op_ix (enc := encSel) (by first | rfl | simp only [evs, tys, evl]) ⟨by first | rfl | simp only [evs, tys, evc], by decide⟩ h) (fun a => chk_GSel a) fun y27 hy27 => ?_
    try simp only [evs, tys]
    refine Imp.cnd ?_ ?_
    · refine Imp.op (f := fun a => .ref (encSel a)) (fun a h => op_ix (enc := encSel) (by first | rfl | simp only [evs, tys, evl]) ⟨by first | rfl | simp only [evs, tys, evc], by decide⟩ h) (fun a => chk_GSel a) fun y29 hy29 => ?_
      try simp only [evs, tys]
      refine Imp.call (f := seineref1_HasE) rfl (fun a h => by first | exact seineref1_Has_spec h | simpa only [evs, tys, evl] using seineref1_Has_spec h) (fun a => by first | rfl | simp only [seineref1_HasE, evk, chks]) fun y31 hy31 => ?_
      try simp only [seineref1_HasE, evs, tys]
      refine Imp.cnd ?_ ?_
      · refine Imp.op (f := fun a => .ref (encSel a)) (fun a h => op_ix (enc := encSel) (by first | rfl | simp only [evs, tys, evl]) ⟨by first | rfl | simp only [evs, tys, evc], by decide⟩ h) (fun a => chk_GSel a) fun y33 hy33 => ?_
        try simp only [evs, tys]
        refine Imp.op (f := fun a => .slice (List.map PV.str a) [] true) (fun a h => op_apd (enc := PV.str) (by first | rfl | simp only [evs, tys, evl]) (by first | rfl | simp only [evs, tys, evl]) (fun a => by first | rfl | simp only [evs, tys, evc]) h) (fun a => rfl) fun y35 hy35 => ?_
        try simp only [evs, tys]
        refine Imp.op (f := fun a => .ref (encSel a)) (fun a h => op_ix (enc := encSel) (by first | rfl | simp only [evs, tys, evl]) ⟨by first | rfl | simp only [evs, tys, evc], by decide⟩ h) (fun a => chk_GSel a) fun y37 hy37 => ?_
        try simp only [evs, tys]
        refine Imp.call (f := seineref13_spreadsE) rfl (fun a h => by first | exact seineref13_spreads_spec h | simpa only [evs, tys, evl] using seineref13_spreads_spec h) (fun a => by first | rfl | simp only [seineref13_spreadsE, evk, chks]) fun y39 hy39 => ?_
        try simp only [seineref13_spreadsE, evs, tys]
        exact Imp.some (StepR.next ⟨by first | rfl | simp only [evs, tys, evl], rfl⟩)
      · refine Imp.op (f := fun a => .ref (encSel a)) (fun a h => op_ix (enc := encSel) (by first | rfl | simp only [evs, tys, evl]) ⟨by first | rfl | simp only [evs, tys, evc], by decide⟩ h) (fun a => chk_GSel a) fun y41 hy41 => ?_
        try simp only [evs, tys]
        refine Imp.call (f := seineref13_spreadsE) rfl (fun a h => by first | exact seineref13_spreads_spec h | simpa only [evs, tys, evl] using seineref13_spreads_spec h) (fun a => by first | rfl | simp only [seineref13_spreadsE, evk, chks]) fun y43 hy43 => ?_
        try simp only [seineref13_spreadsE, evs, tys]
        exact Imp.some (StepR.next ⟨by first | rfl | simp only [evs, tys, evl], rfl⟩)
    · refine Imp.op (f := fun a => .ref (encSel a)) (fun a h => op_ix (enc := encSel) (by first | rfl | simp only [evs, tys, evl]) ⟨by first | rfl | simp only [evs, tys, evc], by decide⟩ h) (fun a => chk_GSel a) fun y45 hy45 => ?_
      try simp only [evs, tys]
      refine Imp.call (f := seineref13_spreadsE) rfl (fun a h => by first | exact seineref13_spreads_spec h | simpa only [evs, tys, evl] using seineref13_spreads_spec h) (fun a => by first | rfl | simp only [seineref13_spreadsE, evk, chks]) fun y47 hy47 => ?_
      try simp only [seineref13_spreadsE, evs, tys]
      exact Imp.some (StepR.next ⟨by first | rfl | simp only [evs, tys, evl], rfl⟩)
  · exact Imp.some (StepR.brk ⟨i_25, by first | rfl | simp only [evs, tys, evl, elim_inl, elim_inr]⟩)
theorem seineref13_spreads_imp (l0 : List GSel) (out0 : List Str) : Imp (seineref13_spreads_B l0 out0) (seineref13_spreads_T1 O loopLim l0 out0) (fun r v => v = (seineref13_spreadsE r, [])) := by
  simp only [seineref13_spreads_B, seineref13_spreads_T1]
  try simp only [evs, tys]
  refine Imp.bnd (Imp.loop (seineref13_spreads_l1_ok l0) ⟨by first | rfl | simp only [evs, tys, evl], rfl⟩) ?_
  rintro out_48 vy50 hy50
  obtain ⟨i_49, rfl⟩ := hy50
  refine Imp.exHit rfl (Imp.chk rfl (Imp.chk rfl ?_))
  try simp only [evs, tys]
  exact Imp.some (by first | rfl | simp only [seineref13_spreadsE, evs, tys, evl])
theorem seineref13_spreads_run {l0 : List GSel} {out0 : List Str} {r : List Str} (h : seineref13_spreads_B l0 out0 = some r) : seineref13_spreads l0 out0 = some r := by
  obtain ⟨v, hv, rfl⟩ := seineref13_spreads_imp l0 out0 r h
  exact tO_of (pair_inj seineref13_spreadsEj) (OL_runD seineref13_spreads_ds rfl rfl Try.func34 ((seineref13_spreads_t1 _ _ l0 out0).trans hv))
end Go.Proofs.Ytphmfillajagdaa

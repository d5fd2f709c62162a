import Derived.Test.YtgelaiohnmpjnaaDGa
set_option linter.unusedVariables false
set_option linter.unusedSimpArgs false
/- Printed by symgen.py: typed functions of this seat, and why they tell what the program does. -/
set_option linter.unusedVariables false
set_option linter.unusedSimpArgs false
open Go Go.Ev Go.Ev.PV
namespace Go.Proofs.Ytgelaiohnmpjnaa
def seinelaw15_DirsParams_T1 (O : Orc) (LP : LBody → LBody) (name : Str) : Option (PV × UP) :=
  cnd (decide ((List.length name : Int) > 2000))
   (callp O 36 [] fun x1 => cnd (chk .bool x1)
   (some ((.bool (boolV x1)), [])) none)
   (callp O 37 [(.str name)] fun x3 => cnd (chk (.tup [shParam, .bool]) x3)
   (callp O 38 [(.str name)] fun x5 => cnd (chk (.tup [shParam, .bool]) x5)
   (cnd ((boolV (gt (tupV x3) 1)) == (boolV (gt (tupV x5) 1)))
    (callp O 39 [(.slice [(.agg [(.str (strV (gt (aggV (gt (tupV x3) 0)) 0))), (.str (strV (gt (aggV (gt (tupV x3) 0)) 1))), (.int .i64 (intV (gt (aggV (gt (tupV x3) 0)) 2))), (.int .i64 (intV (gt (aggV (gt (tupV x3) 0)) 3))), (.bool (boolV (gt (aggV (gt (tupV x3) 0)) 4))), (.int .i64 (intV (gt (aggV (gt (tupV x3) 0)) 5))), (.int .i64 (intV (gt (aggV (gt (tupV x3) 0)) 6))), (.str (strV (gt (aggV (gt (tupV x3) 0)) 7))), (.slice (esV (gt (aggV (gt (tupV x3) 0)) 8)) [] false), (.slice (esV (gt (aggV (gt (tupV x3) 0)) 9)) [] false)])] [] false), (.slice [(.agg [(.str (strV (gt (aggV (gt (tupV x5) 0)) 0))), (.str (strV (gt (aggV (gt (tupV x5) 0)) 1))), (.int .i64 (intV (gt (aggV (gt (tupV x5) 0)) 2))), (.int .i64 (intV (gt (aggV (gt (tupV x5) 0)) 3))), (.bool (boolV (gt (aggV (gt (tupV x5) 0)) 4))), (.int .i64 (intV (gt (aggV (gt (tupV x5) 0)) 5))), (.int .i64 (intV (gt (aggV (gt (tupV x5) 0)) 6))), (.str (strV (gt (aggV (gt (tupV x5) 0)) 7))), (.slice (esV (gt (aggV (gt (tupV x5) 0)) 8)) [] false), (.slice (esV (gt (aggV (gt (tupV x5) 0)) 9)) [] false)])] [] false)] fun x7 => cnd (chk .bool x7)
    (cnd (boolV x7)
     (callp O 36 [] fun x9 => cnd (chk .bool x9)
     (some ((.bool (boolV x9)), [])) none)
     (some ((.bool false), []))) none)
    (some ((.bool false), []))) none) none)
noncomputable def seinelaw15_DirsParams_B (name : Str) : Option Bool :=
  cnd (decide ((List.length name : Int) > 2000))
   (bnd (seinelaw15_awake) fun y2 =>
   some y2)
   (bnd (dirs_Param name) fun y4 =>
   bnd (seineref13_DirParam name) fun y6 =>
   cnd (y4.2 == y6.2)
    (bnd (seineref6_SameParams [y4.1] [y6.1]) fun y8 =>
    cnd y8
     (bnd (seinelaw15_awake) fun y10 =>
     some y10)
     (some false))
    (some false))
def seinelaw15_DirsParams_ds : Decs := { decs := [(10, .bool), (13, (.tup [shParam, .bool])), (18, (.tup [shParam, .bool])), (29, .bool), (32, .bool)], ups := [], loops := [] }
set_option maxRecDepth 100000 in
theorem seinelaw15_DirsParams_t1 (O : Orc) (LP : LBody → LBody) (name : Str) : evalBodyD Try.prog (MT 11) seinelaw15_DirsParams_ds Try.f11.ntmps O LP Try.f11 [(.str name)] [] = seinelaw15_DirsParams_T1 O LP name := by kernel_rfl
theorem seinelaw15_DirsParams_imp (name : Str) : Imp (seinelaw15_DirsParams_B name) (seinelaw15_DirsParams_T1 O loopLim name) (fun r v => v = (seinelaw15_DirsParamsE r, [])) := by
  simp only [seinelaw15_DirsParams_B, seinelaw15_DirsParams_T1]
  try simp only [evs, tys]
  refine Imp.cnd ?_ ?_
  · refine Imp.call (f := seinelaw15_awakeE) rfl (fun a h => by first | exact seinelaw15_awake_spec h | simpa only [evs, tys, evl] using seinelaw15_awake_spec h) (fun a => by first | rfl | simp only [seinelaw15_awakeE, evk, chks]) fun y2 hy2 => ?_
    try simp only [seinelaw15_awakeE, evs, tys]
    exact Imp.some (by first | rfl | simp only [seinelaw15_DirsParamsE, evs, tys, evl])
  · refine Imp.call (f := dirs_ParamE) rfl (fun a h => by first | exact dirs_Param_spec h | simpa only [evs, tys, evl] using dirs_Param_spec h) (fun a => by first | rfl | simp only [dirs_ParamE, evk, chks]) fun y4 hy4 => ?_
    try simp only [dirs_ParamE, evs, tys]
    refine Imp.call (f := seineref13_DirParamE) rfl (fun a h => by first | exact seineref13_DirParam_spec h | simpa only [evs, tys, evl] using seineref13_DirParam_spec h) (fun a => by first | rfl | simp only [seineref13_DirParamE, evk, chks]) fun y6 hy6 => ?_
    try simp only [seineref13_DirParamE, evs, tys]
    refine Imp.cnd ?_ ?_
    · refine Imp.call (f := seineref6_SameParamsE) rfl (fun a h => by first | exact seineref6_SameParams_spec h | simpa only [evs, tys, evl] using seineref6_SameParams_spec h) (fun a => by first | rfl | simp only [seineref6_SameParamsE, evk, chks]) fun y8 hy8 => ?_
      try simp only [seineref6_SameParamsE, evs, tys]
      refine Imp.cnd ?_ ?_
      · refine Imp.call (f := seinelaw15_awakeE) rfl (fun a h => by first | exact seinelaw15_awake_spec h | simpa only [evs, tys, evl] using seinelaw15_awake_spec h) (fun a => by first | rfl | simp only [seinelaw15_awakeE, evk, chks]) fun y10 hy10 => ?_
        try simp only [seinelaw15_awakeE, evs, tys]
        exact Imp.some (by first | rfl | simp only [seinelaw15_DirsParamsE, evs, tys, evl])
      · exact Imp.some (by first | rfl | simp only [seinelaw15_DirsParamsE, evs, tys, evl])
    · exact Imp.some (by first | rfl | simp only [seinelaw15_DirsParamsE, evs, tys, evl])
theorem seinelaw15_DirsParams_run {name : Str} {r : Bool} (h : seinelaw15_DirsParams_B name = some r) : seinelaw15_DirsParams name = some r := by
  obtain ⟨v, hv, rfl⟩ := seinelaw15_DirsParams_imp name r h
  exact tO_of (pair_inj seinelaw15_DirsParamsEj) (OL_runD seinelaw15_DirsParams_ds rfl rfl Try.func11 ((seinelaw15_DirsParams_t1 _ _ name).trans hv))

theorem seinelaw15_awake_run {r : Bool} (n : Nat) (h : evalK Try.prog MT n 36 [] [] = some (seinelaw15_awakeE r, [])) : seinelaw15_awake = some r := tO_of (pair_inj seinelaw15_awakeEj) (evalK_OL (fun _ => rfl) n h)

def dirs_Param_T1 (O : Orc) (LP : LBody → LBody) (name : Str) : Option (PV × UP) :=
  cnd (!(name == ([115, 107, 105, 112] : Str)))
   (cnd (!(name == ([105, 110, 99, 108, 117, 100, 101] : Str)))
    (some ((.tuple [(.agg [(.str []), (.str []), (.int .i64 0), (.int .i64 0), (.bool false), (.int .i64 0), (.int .i64 0), (.str []), (.slice [] [] false), (.slice [] [] false)]), (.bool false)]), []))
    (some ((.tuple [(.agg [(.str [105, 102]), (.str [66, 111, 111, 108, 101, 97, 110]), (.int .i64 0), (.int .i64 1), (.bool false), (.int .i64 0), (.int .i64 0), (.str []), (.slice [] [] false), (.slice [] [] false)]), (.bool true)]), [])))
   (some ((.tuple [(.agg [(.str [105, 102]), (.str [66, 111, 111, 108, 101, 97, 110]), (.int .i64 0), (.int .i64 1), (.bool false), (.int .i64 0), (.int .i64 0), (.str []), (.slice [] [] false), (.slice [] [] false)]), (.bool true)]), []))
noncomputable def dirs_Param_B (name : Str) : Option (GParam × Bool) :=
  cnd (!(name == ([115, 107, 105, 112] : Str)))
   (cnd (!(name == ([105, 110, 99, 108, 117, 100, 101] : Str)))
    (some ((GParam.mk [] (GType.mk [] 0 0) false (GValue.mk 0 0 [] ([] : List GValue) ([] : List GMember))), false))
    (some ((GParam.mk [105, 102] (GType.mk [66, 111, 111, 108, 101, 97, 110] 0 1) false (GValue.mk 0 0 [] ([] : List GValue) ([] : List GMember))), true)))
   (some ((GParam.mk [105, 102] (GType.mk [66, 111, 111, 108, 101, 97, 110] 0 1) false (GValue.mk 0 0 [] ([] : List GValue) ([] : List GMember))), true))
def dirs_Param_ds : Decs := { decs := [], ups := [], loops := [] }
set_option maxRecDepth 100000 in
theorem dirs_Param_t1 (O : Orc) (LP : LBody → LBody) (name : Str) : evalBodyD Try.prog (MT 37) dirs_Param_ds Try.f37.ntmps O LP Try.f37 [(.str name)] [] = dirs_Param_T1 O LP name := by kernel_rfl
theorem dirs_Param_imp (name : Str) : Imp (dirs_Param_B name) (dirs_Param_T1 O loopLim name) (fun r v => v = (dirs_ParamE r, [])) := by
  simp only [dirs_Param_B, dirs_Param_T1]
  try simp only [evs, tys]
  refine Imp.cnd ?_ ?_
  · refine Imp.cnd ?_ ?_
    · exact Imp.some (by first | rfl | simp only [dirs_ParamE, evs, tys, evl])
    · exact Imp.some (by first | rfl | simp only [dirs_ParamE, evs, tys, evl])
  · exact Imp.some (by first | rfl | simp only [dirs_ParamE, evs, tys, evl])
theorem dirs_Param_run {name : Str} {r : GParam × Bool} (h : dirs_Param_B name = some r) : dirs_Param name = some r := by
  obtain ⟨v, hv, rfl⟩ := dirs_Param_imp name r h
  exact tO_of (pair_inj dirs_ParamEj) (OL_runD dirs_Param_ds rfl rfl Try.func37 ((dirs_Param_t1 _ _ name).trans hv))

def seineref13_DirParam_T1 (O : Orc) (LP : LBody → LBody) (name : Str) : Option (PV × UP) :=
  cnd (name == ([115, 107, 105, 112] : Str))
   (some ((.tuple [(.agg [(.str [105, 102]), (.str [66, 111, 111, 108, 101, 97, 110]), (.int .i64 0), (.int .i64 1), (.bool false), (.int .i64 0), (.int .i64 0), (.str []), (.slice [] [] false), (.slice [] [] false)]), (.bool true)]), []))
   (cnd (name == ([105, 110, 99, 108, 117, 100, 101] : Str))
    (some ((.tuple [(.agg [(.str [105, 102]), (.str [66, 111, 111, 108, 101, 97, 110]), (.int .i64 0), (.int .i64 1), (.bool false), (.int .i64 0), (.int .i64 0), (.str []), (.slice [] [] false), (.slice [] [] false)]), (.bool true)]), []))
    (some ((.tuple [(.agg [(.str []), (.str []), (.int .i64 0), (.int .i64 0), (.bool false), (.int .i64 0), (.int .i64 0), (.str []), (.slice [] [] false), (.slice [] [] false)]), (.bool false)]), [])))
noncomputable def seineref13_DirParam_B (name : Str) : Option (GParam × Bool) :=
  cnd (name == ([115, 107, 105, 112] : Str))
   (some ((GParam.mk [105, 102] (GType.mk [66, 111, 111, 108, 101, 97, 110] 0 1) false (GValue.mk 0 0 [] ([] : List GValue) ([] : List GMember))), true))
   (cnd (name == ([105, 110, 99, 108, 117, 100, 101] : Str))
    (some ((GParam.mk [105, 102] (GType.mk [66, 111, 111, 108, 101, 97, 110] 0 1) false (GValue.mk 0 0 [] ([] : List GValue) ([] : List GMember))), true))
    (some ((GParam.mk [] (GType.mk [] 0 0) false (GValue.mk 0 0 [] ([] : List GValue) ([] : List GMember))), false)))
def seineref13_DirParam_ds : Decs := { decs := [], ups := [], loops := [] }
set_option maxRecDepth 100000 in
theorem seineref13_DirParam_t1 (O : Orc) (LP : LBody → LBody) (name : Str) : evalBodyD Try.prog (MT 38) seineref13_DirParam_ds Try.f38.ntmps O LP Try.f38 [(.str name)] [] = seineref13_DirParam_T1 O LP name := by kernel_rfl
theorem seineref13_DirParam_imp (name : Str) : Imp (seineref13_DirParam_B name) (seineref13_DirParam_T1 O loopLim name) (fun r v => v = (seineref13_DirParamE r, [])) := by
  simp only [seineref13_DirParam_B, seineref13_DirParam_T1]
  try simp only [evs, tys]
  refine Imp.cnd ?_ ?_
  · exact Imp.some (by first | rfl | simp only [seineref13_DirParamE, evs, tys, evl])
  · refine Imp.cnd ?_ ?_
    · exact Imp.some (by first | rfl | simp only [seineref13_DirParamE, evs, tys, evl])
    · exact Imp.some (by first | rfl | simp only [seineref13_DirParamE, evs, tys, evl])
theorem seineref13_DirParam_run {name : Str} {r : GParam × Bool} (h : seineref13_DirParam_B name = some r) : seineref13_DirParam name = some r := by
  obtain ⟨v, hv, rfl⟩ := seineref13_DirParam_imp name r h
  exact tO_of (pair_inj seineref13_DirParamEj) (OL_runD seineref13_DirParam_ds rfl rfl Try.func38 ((seineref13_DirParam_t1 _ _ name).trans hv))

def seineref6_SameParams_l1 (O : Orc) (LP : LBody → LBody) : LBody := fun s1 s1u => cnd (chkL [(.sl false), (.sl false), .bool, (.int .i64)] s1) (cnd (chkU [] s1u)
  (cnd (decide ((intV (gt s1 3)) < (List.length (esV (gt s1 0)) : Int)))
   (bnd (ix 10 (.slice (esV (gt s1 0)) [] false) (.int .i64 (intV (gt s1 3)))) fun x21 => cnd (chk (.ref shParam) x21)
   (bnd (ix 10 (.slice (esV (gt s1 1)) [] false) (.int .i64 (intV (gt s1 3)))) fun x23 => cnd (chk (.ref shParam) x23)
   (cnd (!((strV (gt (aggV (refV x21)) 0)) == (strV (gt (aggV (refV x23)) 0))))
    (some (.ret, [(.slice (esV (gt s1 0)) [] false), (.slice (esV (gt s1 1)) [] false), (.bool false), (.int .i64 (intV (gt s1 3)))], []))
    (bnd (ix 10 (.slice (esV (gt s1 0)) [] false) (.int .i64 (intV (gt s1 3)))) fun x25 => cnd (chk (.ref shParam) x25)
    (bnd (ix 10 (.slice (esV (gt s1 1)) [] false) (.int .i64 (intV (gt s1 3)))) fun x27 => cnd (chk (.ref shParam) x27)
    (cnd (!(((strV (gt (aggV (refV x25)) 1)) == (strV (gt (aggV (refV x27)) 1))) && (((intV (gt (aggV (refV x25)) 2)) == (intV (gt (aggV (refV x27)) 2))) && (((intV (gt (aggV (refV x25)) 3)) == (intV (gt (aggV (refV x27)) 3))) && true))))
     (some (.ret, [(.slice (esV (gt s1 0)) [] false), (.slice (esV (gt s1 1)) [] false), (.bool false), (.int .i64 (intV (gt s1 3)))], []))
     (bnd (ix 10 (.slice (esV (gt s1 0)) [] false) (.int .i64 (intV (gt s1 3)))) fun x29 => cnd (chk (.ref shParam) x29)
     (bnd (ix 10 (.slice (esV (gt s1 1)) [] false) (.int .i64 (intV (gt s1 3)))) fun x31 => cnd (chk (.ref shParam) x31)
     (cnd (!((boolV (gt (aggV (refV x29)) 4)) == (boolV (gt (aggV (refV x31)) 4))))
      (some (.ret, [(.slice (esV (gt s1 0)) [] false), (.slice (esV (gt s1 1)) [] false), (.bool false), (.int .i64 (intV (gt s1 3)))], []))
      (bnd (ix 10 (.slice (esV (gt s1 0)) [] false) (.int .i64 (intV (gt s1 3)))) fun x33 => cnd (chk (.ref shParam) x33)
      (bnd (ix 10 (.slice (esV (gt s1 1)) [] false) (.int .i64 (intV (gt s1 3)))) fun x35 => cnd (chk (.ref shParam) x35)
      (callp O 76 [(.agg [(.int .i64 (intV (gt (aggV (refV x33)) 5))), (.int .i64 (intV (gt (aggV (refV x33)) 6))), (.str (strV (gt (aggV (refV x33)) 7))), (.slice (esV (gt (aggV (refV x33)) 8)) [] false), (.slice (esV (gt (aggV (refV x33)) 9)) [] false)]), (.agg [(.int .i64 (intV (gt (aggV (refV x35)) 5))), (.int .i64 (intV (gt (aggV (refV x35)) 6))), (.str (strV (gt (aggV (refV x35)) 7))), (.slice (esV (gt (aggV (refV x35)) 8)) [] false), (.slice (esV (gt (aggV (refV x35)) 9)) [] false)])] fun x37 => cnd (chk .bool x37)
      (cnd (!(boolV x37))
       (some (.ret, [(.slice (esV (gt s1 0)) [] false), (.slice (esV (gt s1 1)) [] false), (.bool false), (.int .i64 (intV (gt s1 3)))], []))
       (some (.nrm, [(.slice (esV (gt s1 0)) [] false), (.slice (esV (gt s1 1)) [] false), (.bool (boolV (gt s1 2))), (.int .i64 (IntKind.wrap .i64 ((intV (gt s1 3)) + 1)))], []))) none) none) none)) none) none)) none) none)) none) none)
   (some (.brk 0, [(.slice (esV (gt s1 0)) [] false), (.slice (esV (gt s1 1)) [] false), (.bool (boolV (gt s1 2))), (.int .i64 (intV (gt s1 3)))], []))) none) none
def seineref6_SameParams_T1 (O : Orc) (LP : LBody → LBody) (a : List GParam) (b : List GParam) : Option (PV × UP) :=
  cnd ((List.length (List.map encParam a) : Int) != (List.length (List.map encParam b) : Int))
   (some ((.bool false), []))
   (bnd (LP (seineref6_SameParams_l1 O LP) [(.slice (List.map encParam a) [] false), (.slice (List.map encParam b) [] false), (.bool false), (.int .i64 0)] []) fun y41 =>
   exIs y41.1 (some 0) (cnd (chkL [(.sl false), (.sl false), .bool, (.int .i64)] y41.2.1) (cnd (chkU [] y41.2.2)
    (some ((.bool true), [])) none) none)
   (exIs y41.1 none (cnd (chkL [(.sl false), (.sl false), .bool, (.int .i64)] y41.2.1) (cnd (chkU [] y41.2.2)
    (some ((.bool (boolV (gt y41.2.1 2))), [])) none) none)
   (none)))
noncomputable def seineref6_SameParams_l1T (a : List GParam) (b : List GParam) : Int → Option (Int ⊕ (Unit ⊕ Unit))
  | i_20 =>
  cnd (decide (i_20 < (List.length a : Int)))
   (bnd (nthI a i_20) fun y22 =>
   bnd (nthI b i_20) fun y24 =>
   cnd (!(y22.name == y24.name))
    (some (.inr (.inr ())))
    (bnd (nthI a i_20) fun y26 =>
    bnd (nthI b i_20) fun y28 =>
    cnd (!((y26.t.name == y28.t.name) && ((y26.t.lists == y28.t.lists) && ((y26.t.musts == y28.t.musts) && true))))
     (some (.inr (.inr ())))
     (bnd (nthI a i_20) fun y30 =>
     bnd (nthI b i_20) fun y32 =>
     cnd (!(y30.has == y32.has))
      (some (.inr (.inr ())))
      (bnd (nthI a i_20) fun y34 =>
      bnd (nthI b i_20) fun y36 =>
      bnd (seineref1_Same y34.default y36.default) fun y38 =>
      cnd (!y38)
       (some (.inr (.inr ())))
       (some (.inl (IntKind.wrap .i64 (i_20 + 1))))))))
   (some (.inr (.inl ())))
abbrev seineref6_SameParams_l1R (a : List GParam) (b : List GParam) (st : Int) (l : List PV) (u : UP) : Prop := l = [(.slice (List.map encParam a) [] false), (.slice (List.map encParam b) [] false), (.bool false), (.int .i64 st)] ∧ u = []
abbrev seineref6_SameParams_l1X (a : List GParam) (b : List GParam) (p : Unit ⊕ Unit) (r : Ex × List PV × UP) : Prop := elim p (fun (p : Unit) => ∃ (i_39 : Int), r = (Ex.brk 0, [(.slice (List.map encParam a) [] false), (.slice (List.map encParam b) [] false), (.bool false), (.int .i64 i_39)], [])) (fun q2 => (fun (p : Unit) => ∃ (i_40 : Int), r = (Ex.ret, [(.slice (List.map encParam a) [] false), (.slice (List.map encParam b) [] false), (.bool false), (.int .i64 i_40)], [])) q2)
noncomputable def seineref6_SameParams_B (a : List GParam) (b : List GParam) : Option Bool :=
  cnd ((List.length a : Int) != (List.length b : Int))
   (some false)
   (bnd (tloop (seineref6_SameParams_l1T a b) 0) fun e41_2 => elim e41_2
   (fun p41 =>
    some true)
   (fun p41 =>
   some false))
def seineref6_SameParams_ds : Decs := { decs := [(19, (.ref shParam)), (24, (.ref shParam)), (31, (.ref shParam)), (36, (.ref shParam)), (44, (.ref shParam)), (49, (.ref shParam)), (57, (.ref shParam)), (62, (.ref shParam)), (65, .bool)], ups := [], loops := [(4, [], ⟨[(.sl false), (.sl false), .bool, (.int .i64)], [], [(some 0, [(.sl false), (.sl false), .bool, (.int .i64)], []), (none, [(.sl false), (.sl false), .bool, (.int .i64)], [])]⟩)] }
set_option maxRecDepth 100000 in
theorem seineref6_SameParams_t1 (O : Orc) (LP : LBody → LBody) (a : List GParam) (b : List GParam) : evalBodyD Try.prog (MT 39) seineref6_SameParams_ds Try.f39.ntmps O LP Try.f39 [(.slice (List.map encParam a) [] false), (.slice (List.map encParam b) [] false)] [] = seineref6_SameParams_T1 O LP a b := by kernel_rfl
theorem seineref6_SameParams_l1_ok (a : List GParam) (b : List GParam) : ∀ st l u, seineref6_SameParams_l1R a b st l u → Imp (seineref6_SameParams_l1T a b st) (seineref6_SameParams_l1 O loopLim l u) (StepR (seineref6_SameParams_l1R a b) (seineref6_SameParams_l1X a b)) := by
  rintro i_20 l u ⟨rfl, rfl⟩
  simp only [seineref6_SameParams_l1T, seineref6_SameParams_l1]
  refine Imp.chk rfl (Imp.chk rfl ?_)
  try simp only [evs, tys]
  refine Imp.cnd ?_ ?_
  · refine Imp.op (f := fun a => .ref (encParam a)) (fun a h => op_ix (enc := encParam) (by first | rfl | simp only [evs, tys, evl]) ⟨by first | rfl | simp only [evs, tys, evc], by decide⟩ h) (fun a => chk_GParam a) fun y22 hy22 => ?_
    try simp only [evs, tys]
    refine Imp.op (f := fun a => .ref (encParam a)) (fun a h => op_ix (enc := encParam) (by first | rfl | simp only [evs, tys, evl]) ⟨by first | rfl | simp only [evs, tys, evc], by decide⟩ h) (fun a => chk_GParam a) fun y24 hy24 => ?_
    try simp only [evs, tys]
    refine Imp.cnd ?_ ?_
    · exact Imp.some (StepR.ret ⟨i_20, by first | rfl | simp only [evs, tys, evl, elim_inl, elim_inr]⟩)
    · refine Imp.op (f := fun a => .ref (encParam a)) (fun a h => op_ix (enc := encParam) (by first | rfl | simp only [evs, tys, evl]) ⟨by first | rfl | simp only [evs, tys, evc], by decide⟩ h) (fun a => chk_GParam a) fun y26 hy26 => ?_
      try simp only [evs, tys]
      refine Imp.op (f := fun a => .ref (encParam a)) (fun a h => op_ix (enc := encParam) (by first | rfl | simp only [evs, tys, evl]) ⟨by first | rfl | simp only [evs, tys, evc], by decide⟩ h) (fun a => chk_GParam a) fun y28 hy28 => ?_
      try simp only [evs, tys]
      refine Imp.cnd ?_ ?_
      · exact Imp.some (StepR.ret ⟨i_20, by first | rfl | simp only [evs, tys, evl, elim_inl, elim_inr]⟩)
      · refine Imp.op (f := fun a => .ref (encParam a)) (fun a h => op_ix (enc := encParam) (by first | rfl | simp only [evs, tys, evl]) ⟨by first | rfl | simp only [evs, tys, evc], by decide⟩ h) (fun a => chk_GParam a) fun y30 hy30 => ?_
        try simp only [evs, tys]
        refine Imp.op (f := fun a => .ref (encParam a)) (fun a h => op_ix (enc := encParam) (by first | rfl | simp only [evs, tys, evl]) ⟨by first | rfl | simp only [evs, tys, evc], by decide⟩ h) (fun a => chk_GParam a) fun y32 hy32 => ?_
        try simp only [evs, tys]
        refine Imp.cnd ?_ ?_
        · exact Imp.some (StepR.ret ⟨i_20, by first | rfl | simp only [evs, tys, evl, elim_inl, elim_inr]⟩)
        · refine Imp.op (f := fun a => .ref (encParam a)) (fun a h => op_ix (enc := encParam) (by first | rfl | simp only [evs, tys, evl]) ⟨by first | rfl | simp only [evs, tys, evc], by decide⟩ h) (fun a => chk_GParam a) fun y34 hy34 => ?_
          try simp only [evs, tys]
          refine Imp.op (f := fun a => .ref (encParam a)) (fun a h => op_ix (enc := encParam) (by first | rfl | simp only [evs, tys, evl]) ⟨by first | rfl | simp only [evs, tys, evc], by decide⟩ h) (fun a => chk_GParam a) fun y36 hy36 => ?_
          try simp only [evs, tys]
          refine Imp.call (f := seineref1_SameE) rfl (fun a h => by first | exact seineref1_Same_spec h | simpa only [evs, tys, evl] using seineref1_Same_spec h) (fun a => by first | rfl | simp only [seineref1_SameE, evk, chks]) fun y38 hy38 => ?_
          try simp only [seineref1_SameE, evs, tys]
          refine Imp.cnd ?_ ?_
          · exact Imp.some (StepR.ret ⟨i_20, by first | rfl | simp only [evs, tys, evl, elim_inl, elim_inr]⟩)
          · exact Imp.some (StepR.next ⟨by first | rfl | simp only [evs, tys, evl], rfl⟩)
  · exact Imp.some (StepR.brk ⟨i_20, by first | rfl | simp only [evs, tys, evl, elim_inl, elim_inr]⟩)
theorem seineref6_SameParams_imp (a : List GParam) (b : List GParam) : Imp (seineref6_SameParams_B a b) (seineref6_SameParams_T1 O loopLim a b) (fun r v => v = (seineref6_SameParamsE r, [])) := by
  simp only [seineref6_SameParams_B, seineref6_SameParams_T1]
  try simp only [evs, tys]
  refine Imp.cnd ?_ ?_
  · exact Imp.some (by first | rfl | simp only [seineref6_SameParamsE, evs, tys, evl])
  · refine Imp.bnd (Imp.loop (seineref6_SameParams_l1_ok a b) ⟨by first | rfl | simp only [evs, tys, evl], rfl⟩) ?_
    rintro (p | p) vy41 hy41
    · try simp only [elim_inl, elim_inr]
      obtain ⟨i_39, rfl⟩ := hy41
      refine Imp.exHit rfl (Imp.chk rfl (Imp.chk rfl ?_))
      try simp only [evs, tys]
      exact Imp.some (by first | rfl | simp only [seineref6_SameParamsE, evs, tys, evl])
    · try simp only [elim_inl, elim_inr]
      obtain ⟨i_40, rfl⟩ := hy41
      refine Imp.exMiss rfl ?_
      refine Imp.exHit rfl (Imp.chk rfl (Imp.chk rfl ?_))
      try simp only [evs, tys]
      exact Imp.some (by first | rfl | simp only [seineref6_SameParamsE, evs, tys, evl])
theorem seineref6_SameParams_run {a : List GParam} {b : List GParam} {r : Bool} (h : seineref6_SameParams_B a b = some r) : seineref6_SameParams a b = some r := by
  obtain ⟨v, hv, rfl⟩ := seineref6_SameParams_imp a b r h
  exact tO_of (pair_inj seineref6_SameParamsEj) (OL_runD seineref6_SameParams_ds rfl rfl Try.func39 ((seineref6_SameParams_t1 _ _ a b).trans hv))

def seineref1_Same_l1 (O : Orc) (LP : LBody → LBody) : LBody := fun s1 s1u => cnd (chkL [(.ptr 0 2 0), (.ptr 0 3 0), .bool, (.int .i64), (.int .i64), (.int .i64), .str, (.sl false), (.sl false), (.int .i64), (.int .i64), .str, (.sl false), (.sl false)] s1) (cnd (chkU [] s1u)
  (cnd (decide ((intV (gt s1 3)) < (List.length (esV (gt s1 12)) : Int)))
   (bnd (ix 5 (.slice (esV (gt s1 12)) [] false) (.int .i64 (intV (gt s1 3)))) fun x9 => cnd (chk (.ref shValue) x9)
   (bnd (ix 5 (.slice (esV (gt s1 7)) [] false) (.int .i64 (intV (gt s1 3)))) fun x11 => cnd (chk (.ref shValue) x11)
   (callp O 76 [(.agg [(.int .i64 (intV (gt (aggV (refV x9)) 0))), (.int .i64 (intV (gt (aggV (refV x9)) 1))), (.str (strV (gt (aggV (refV x9)) 2))), (.slice (esV (gt (aggV (refV x9)) 3)) [] false), (.slice (esV (gt (aggV (refV x9)) 4)) [] false)]), (.agg [(.int .i64 (intV (gt (aggV (refV x11)) 0))), (.int .i64 (intV (gt (aggV (refV x11)) 1))), (.str (strV (gt (aggV (refV x11)) 2))), (.slice (esV (gt (aggV (refV x11)) 3)) [] false), (.slice (esV (gt (aggV (refV x11)) 4)) [] false)])] fun x13 => cnd (chk .bool x13)
   (cnd (!(boolV x13))
    (some (.ret, [(.ptr 0 2 0), (.ptr 0 3 0), (.bool false), (.int .i64 (intV (gt s1 3))), (.int .i64 (intV (gt s1 4))), (.int .i64 (intV (gt s1 5))), (.str (strV (gt s1 6))), (.slice (esV (gt s1 7)) [] false), (.slice (esV (gt s1 8)) [] false), (.int .i64 (intV (gt s1 9))), (.int .i64 (intV (gt s1 10))), (.str (strV (gt s1 11))), (.slice (esV (gt s1 12)) [] false), (.slice (esV (gt s1 13)) [] false)], []))
    (some (.nrm, [(.ptr 0 2 0), (.ptr 0 3 0), (.bool (boolV (gt s1 2))), (.int .i64 (IntKind.wrap .i64 ((intV (gt s1 3)) + 1))), (.int .i64 (intV (gt s1 4))), (.int .i64 (intV (gt s1 5))), (.str (strV (gt s1 6))), (.slice (esV (gt s1 7)) [] false), (.slice (esV (gt s1 8)) [] false), (.int .i64 (intV (gt s1 9))), (.int .i64 (intV (gt s1 10))), (.str (strV (gt s1 11))), (.slice (esV (gt s1 12)) [] false), (.slice (esV (gt s1 13)) [] false)], []))) none) none) none)
   (some (.brk 0, [(.ptr 0 2 0), (.ptr 0 3 0), (.bool (boolV (gt s1 2))), (.int .i64 (intV (gt s1 3))), (.int .i64 (intV (gt s1 4))), (.int .i64 (intV (gt s1 5))), (.str (strV (gt s1 6))), (.slice (esV (gt s1 7)) [] false), (.slice (esV (gt s1 8)) [] false), (.int .i64 (intV (gt s1 9))), (.int .i64 (intV (gt s1 10))), (.str (strV (gt s1 11))), (.slice (esV (gt s1 12)) [] false), (.slice (esV (gt s1 13)) [] false)], []))) none) none
def seineref1_Same_T1 (O : Orc) (LP : LBody → LBody) (a : GValue) (b : GValue) : Option (PV × UP) :=
  cnd (a.kind != b.kind)
   (some ((.bool false), []))
   (cnd (a.n != b.n)
    (some ((.bool false), []))
    (cnd (!(a.s == b.s))
     (some ((.bool false), []))
     (cnd ((List.length (List.map encValue a.l) : Int) != (List.length (List.map encValue b.l) : Int))
      (some ((.bool false), []))
      (bnd (LP (seineref1_Same_l1 O LP) [(.ptr 0 2 0), (.ptr 0 3 0), (.bool false), (.int .i64 0), (.int .i64 b.kind), (.int .i64 b.n), (.str b.s), (.slice (List.map encValue b.l) [] false), (.slice (List.map encMember b.m) [] false), (.int .i64 a.kind), (.int .i64 a.n), (.str a.s), (.slice (List.map encValue a.l) [] false), (.slice (List.map encMember a.m) [] false)] []) fun y17 =>
      exIs y17.1 (some 0) (cnd (chkL [(.ptr 0 2 0), (.ptr 0 3 0), .bool, (.int .i64), (.int .i64), (.int .i64), .str, (.sl false), (.sl false), (.int .i64), (.int .i64), .str, (.sl false), (.sl false)] y17.2.1) (cnd (chkU [] y17.2.2)
       (callp O 69 [(.slice (esV (gt y17.2.1 13)) [] false), (.slice (esV (gt y17.2.1 8)) [] false)] fun x18 => cnd (chk .bool x18)
       (some ((.bool (boolV x18)), [])) none) none) none)
      (exIs y17.1 none (cnd (chkL [(.ptr 0 2 0), (.ptr 0 3 0), .bool, (.int .i64), (.int .i64), (.int .i64), .str, (.sl false), (.sl false), (.int .i64), (.int .i64), .str, (.sl false), (.sl false)] y17.2.1) (cnd (chkU [] y17.2.2)
       (some ((.bool (boolV (gt y17.2.1 2))), [])) none) none)
      (none))))))
noncomputable def seineref1_Same_l1T (a : GValue) (b : GValue) : Int → Option (Int ⊕ (Unit ⊕ Unit))
  | i_8 =>
  cnd (decide (i_8 < (List.length a.l : Int)))
   (bnd (nthI a.l i_8) fun y10 =>
   bnd (nthI b.l i_8) fun y12 =>
   bnd (seineref1_Same y10 y12) fun y14 =>
   cnd (!y14)
    (some (.inr (.inr ())))
    (some (.inl (IntKind.wrap .i64 (i_8 + 1)))))
   (some (.inr (.inl ())))
abbrev seineref1_Same_l1R (a : GValue) (b : GValue) (st : Int) (l : List PV) (u : UP) : Prop := l = [(.ptr 0 2 0), (.ptr 0 3 0), (.bool false), (.int .i64 st), (.int .i64 b.kind), (.int .i64 b.n), (.str b.s), (.slice (List.map encValue b.l) [] false), (.slice (List.map encMember b.m) [] false), (.int .i64 a.kind), (.int .i64 a.n), (.str a.s), (.slice (List.map encValue a.l) [] false), (.slice (List.map encMember a.m) [] false)] ∧ u = []
abbrev seineref1_Same_l1X (a : GValue) (b : GValue) (p : Unit ⊕ Unit) (r : Ex × List PV × UP) : Prop := elim p (fun (p : Unit) => ∃ (i_15 : Int), r = (Ex.brk 0, [(.ptr 0 2 0), (.ptr 0 3 0), (.bool false), (.int .i64 i_15), (.int .i64 b.kind), (.int .i64 b.n), (.str b.s), (.slice (List.map encValue b.l) [] false), (.slice (List.map encMember b.m) [] false), (.int .i64 a.kind), (.int .i64 a.n), (.str a.s), (.slice (List.map encValue a.l) [] false), (.slice (List.map encMember a.m) [] false)], [])) (fun q2 => (fun (p : Unit) => ∃ (i_16 : Int), r = (Ex.ret, [(.ptr 0 2 0), (.ptr 0 3 0), (.bool false), (.int .i64 i_16), (.int .i64 b.kind), (.int .i64 b.n), (.str b.s), (.slice (List.map encValue b.l) [] false), (.slice (List.map encMember b.m) [] false), (.int .i64 a.kind), (.int .i64 a.n), (.str a.s), (.slice (List.map encValue a.l) [] false), (.slice (List.map encMember a.m) [] false)], [])) q2)
noncomputable def seineref1_Same_B (a : GValue) (b : GValue) : Option Bool :=
  cnd (a.kind != b.kind)
   (some false)
   (cnd (a.n != b.n)
    (some false)
    (cnd (!(a.s == b.s))
     (some false)
     (cnd ((List.length a.l : Int) != (List.length b.l : Int))
      (some false)
      (bnd (tloop (seineref1_Same_l1T a b) 0) fun e17_2 => elim e17_2
      (fun p17 =>
       bnd (seineref1_Members a.m b.m) fun y19 =>
       some y19)
      (fun p17 =>
      some false)))))
def seineref1_Same_ds : Decs := { decs := [(44, (.ref shValue)), (49, (.ref shValue)), (51, .bool), (57, .bool)], ups := [], loops := [(4, [(3, 5), (2, 5)], ⟨[(.ptr 0 2 0), (.ptr 0 3 0), .bool, (.int .i64), (.int .i64), (.int .i64), .str, (.sl false), (.sl false), (.int .i64), (.int .i64), .str, (.sl false), (.sl false)], [], [(some 0, [(.ptr 0 2 0), (.ptr 0 3 0), .bool, (.int .i64), (.int .i64), (.int .i64), .str, (.sl false), (.sl false), (.int .i64), (.int .i64), .str, (.sl false), (.sl false)], []), (none, [(.ptr 0 2 0), (.ptr 0 3 0), .bool, (.int .i64), (.int .i64), (.int .i64), .str, (.sl false), (.sl false), (.int .i64), (.int .i64), .str, (.sl false), (.sl false)], [])]⟩)] }
set_option maxRecDepth 100000 in
theorem seineref1_Same_t1 (O : Orc) (LP : LBody → LBody) (a : GValue) (b : GValue) : evalBodyD Try.prog (MT 76) seineref1_Same_ds Try.f76.ntmps O LP Try.f76 [(.agg [(.int .i64 a.kind), (.int .i64 a.n), (.str a.s), (.slice (List.map encValue a.l) [] false), (.slice (List.map encMember a.m) [] false)]), (.agg [(.int .i64 b.kind), (.int .i64 b.n), (.str b.s), (.slice (List.map encValue b.l) [] false), (.slice (List.map encMember b.m) [] false)])] [] = seineref1_Same_T1 O LP a b := by kernel_rfl
theorem seineref1_Same_l1_ok (a : GValue) (b : GValue) : ∀ st l u, seineref1_Same_l1R a b st l u → Imp (seineref1_Same_l1T a b st) (seineref1_Same_l1 O loopLim l u) (StepR (seineref1_Same_l1R a b) (seineref1_Same_l1X a b)) := by
  rintro i_8 l u ⟨rfl, rfl⟩
  simp only [seineref1_Same_l1T, seineref1_Same_l1]
  refine Imp.chk rfl (Imp.chk rfl ?_)
  try simp only [evs, tys]
  refine Imp.cnd ?_ ?_
  · refine Imp.op (f := fun a => .ref (encValue a)) (fun a h => op_ix (enc := encValue) (by first | rfl | simp only [evs, tys, evl]) ⟨by first | rfl | simp only [evs, tys, evc], by decide⟩ h) (fun a => chk_GValue a) fun y10 hy10 => ?_
    try simp only [evs, tys]
    refine Imp.op (f := fun a => .ref (encValue a)) (fun a h => op_ix (enc := encValue) (by first | rfl | simp only [evs, tys, evl]) ⟨by first | rfl | simp only [evs, tys, evc], by decide⟩ h) (fun a => chk_GValue a) fun y12 hy12 => ?_
    try simp only [evs, tys]
    refine Imp.call (f := seineref1_SameE) rfl (fun a h => by first | exact seineref1_Same_spec h | simpa only [evs, tys, evl] using seineref1_Same_spec h) (fun a => by first | rfl | simp only [seineref1_SameE, evk, chks]) fun y14 hy14 => ?_
    try simp only [seineref1_SameE, evs, tys]
    refine Imp.cnd ?_ ?_
    · exact Imp.some (StepR.ret ⟨i_8, by first | rfl | simp only [evs, tys, evl, elim_inl, elim_inr]⟩)
    · exact Imp.some (StepR.next ⟨by first | rfl | simp only [evs, tys, evl], rfl⟩)
  · exact Imp.some (StepR.brk ⟨i_8, by first | rfl | simp only [evs, tys, evl, elim_inl, elim_inr]⟩)
theorem seineref1_Same_imp (a : GValue) (b : GValue) : Imp (seineref1_Same_B a b) (seineref1_Same_T1 O loopLim a b) (fun r v => v = (seineref1_SameE r, [])) := by
  simp only [seineref1_Same_B, seineref1_Same_T1]
  try simp only [evs, tys]
  refine Imp.cnd ?_ ?_
  · exact Imp.some (by first | rfl | simp only [seineref1_SameE, evs, tys, evl])
  · refine Imp.cnd ?_ ?_
    · exact Imp.some (by first | rfl | simp only [seineref1_SameE, evs, tys, evl])
    · refine Imp.cnd ?_ ?_
      · exact Imp.some (by first | rfl | simp only [seineref1_SameE, evs, tys, evl])
      · refine Imp.cnd ?_ ?_
        · exact Imp.some (by first | rfl | simp only [seineref1_SameE, evs, tys, evl])
        · refine Imp.bnd (Imp.loop (seineref1_Same_l1_ok a b) ⟨by first | rfl | simp only [evs, tys, evl], rfl⟩) ?_
          rintro (p | p) vy17 hy17
          · try simp only [elim_inl, elim_inr]
            obtain ⟨i_15, rfl⟩ := hy17
            refine Imp.exHit rfl (Imp.chk rfl (Imp.chk rfl ?_))
            try simp only [evs, tys]
            refine Imp.call (f := seineref1_MembersE) rfl (fun a h => by first | exact seineref1_Members_spec h | simpa only [evs, tys, evl] using seineref1_Members_spec h) (fun a => by first | rfl | simp only [seineref1_MembersE, evk, chks]) fun y19 hy19 => ?_
            try simp only [seineref1_MembersE, evs, tys]
            exact Imp.some (by first | rfl | simp only [seineref1_SameE, evs, tys, evl])
          · try simp only [elim_inl, elim_inr]
            obtain ⟨i_16, rfl⟩ := hy17
            refine Imp.exMiss rfl ?_
            refine Imp.exHit rfl (Imp.chk rfl (Imp.chk rfl ?_))
            try simp only [evs, tys]
            exact Imp.some (by first | rfl | simp only [seineref1_SameE, evs, tys, evl])
theorem seineref1_Same_run {a : GValue} {b : GValue} {r : Bool} (h : seineref1_Same_B a b = some r) : seineref1_Same a b = some r := by
  obtain ⟨v, hv, rfl⟩ := seineref1_Same_imp a b r h
  exact tO_of (pair_inj seineref1_SameEj) (OL_runD seineref1_Same_ds rfl rfl Try.func76 ((seineref1_Same_t1 _ _ a b).trans hv))
end Go.Proofs.Ytgelaiohnmpjnaa

/- Printed by symgen.py: typed functions of this seat, and why they tell what the program does. -/
set_option linter.unusedVariables false
set_option linter.unusedSimpArgs false
open Go Go.Ev Go.Ev.PV
namespace Go.Proofs.Ytgelaiohnmpjnaa
def seineref1_Members_l1 (O : Orc) (LP : LBody → LBody) : LBody := fun s1 s1u => cnd (chkL [(.sl false), (.sl false), .bool, (.int .i64)] s1) (cnd (chkU [] s1u)
  (cnd (decide ((intV (gt s1 3)) < (List.length (esV (gt s1 0)) : Int)))
   (bnd (ix 6 (.slice (esV (gt s1 0)) [] false) (.int .i64 (intV (gt s1 3)))) fun x13 => cnd (chk (.ref shMember) x13)
   (bnd (ix 6 (.slice (esV (gt s1 1)) [] false) (.int .i64 (intV (gt s1 3)))) fun x15 => cnd (chk (.ref shMember) x15)
   (cnd (!((strV (gt (aggV (refV x13)) 0)) == (strV (gt (aggV (refV x15)) 0))))
    (some (.ret, [(.slice (esV (gt s1 0)) [] false), (.slice (esV (gt s1 1)) [] false), (.bool false), (.int .i64 (intV (gt s1 3)))], []))
    (bnd (ix 6 (.slice (esV (gt s1 0)) [] false) (.int .i64 (intV (gt s1 3)))) fun x17 => cnd (chk (.ref shMember) x17)
    (bnd (ix 6 (.slice (esV (gt s1 1)) [] false) (.int .i64 (intV (gt s1 3)))) fun x19 => cnd (chk (.ref shMember) x19)
    (callp O 76 [(.agg [(.int .i64 (intV (gt (aggV (refV x17)) 1))), (.int .i64 (intV (gt (aggV (refV x17)) 2))), (.str (strV (gt (aggV (refV x17)) 3))), (.slice (esV (gt (aggV (refV x17)) 4)) [] false), (.slice (esV (gt (aggV (refV x17)) 5)) [] false)]), (.agg [(.int .i64 (intV (gt (aggV (refV x19)) 1))), (.int .i64 (intV (gt (aggV (refV x19)) 2))), (.str (strV (gt (aggV (refV x19)) 3))), (.slice (esV (gt (aggV (refV x19)) 4)) [] false), (.slice (esV (gt (aggV (refV x19)) 5)) [] false)])] fun x21 => cnd (chk .bool x21)
    (cnd (!(boolV x21))
     (some (.ret, [(.slice (esV (gt s1 0)) [] false), (.slice (esV (gt s1 1)) [] false), (.bool false), (.int .i64 (intV (gt s1 3)))], []))
     (some (.nrm, [(.slice (esV (gt s1 0)) [] false), (.slice (esV (gt s1 1)) [] false), (.bool (boolV (gt s1 2))), (.int .i64 (IntKind.wrap .i64 ((intV (gt s1 3)) + 1)))], []))) none) none) none)) none) none)
   (some (.brk 0, [(.slice (esV (gt s1 0)) [] false), (.slice (esV (gt s1 1)) [] false), (.bool (boolV (gt s1 2))), (.int .i64 (intV (gt s1 3)))], []))) none) none
def seineref1_Members_T1 (O : Orc) (LP : LBody → LBody) (a : List GMember) (b : List GMember) : Option (PV × UP) :=
  cnd ((List.length (List.map encMember a) : Int) != (List.length (List.map encMember b) : Int))
   (some ((.bool false), []))
   (bnd (LP (seineref1_Members_l1 O LP) [(.slice (List.map encMember a) [] false), (.slice (List.map encMember b) [] false), (.bool false), (.int .i64 0)] []) fun y25 =>
   exIs y25.1 (some 0) (cnd (chkL [(.sl false), (.sl false), .bool, (.int .i64)] y25.2.1) (cnd (chkU [] y25.2.2)
    (some ((.bool true), [])) none) none)
   (exIs y25.1 none (cnd (chkL [(.sl false), (.sl false), .bool, (.int .i64)] y25.2.1) (cnd (chkU [] y25.2.2)
    (some ((.bool (boolV (gt y25.2.1 2))), [])) none) none)
   (none)))
noncomputable def seineref1_Members_l1T (a : List GMember) (b : List GMember) : Int → Option (Int ⊕ (Unit ⊕ Unit))
  | i_12 =>
  cnd (decide (i_12 < (List.length a : Int)))
   (bnd (nthI a i_12) fun y14 =>
   bnd (nthI b i_12) fun y16 =>
   cnd (!(y14.name == y16.name))
    (some (.inr (.inr ())))
    (bnd (nthI a i_12) fun y18 =>
    bnd (nthI b i_12) fun y20 =>
    bnd (seineref1_Same y18.v y20.v) fun y22 =>
    cnd (!y22)
     (some (.inr (.inr ())))
     (some (.inl (IntKind.wrap .i64 (i_12 + 1))))))
   (some (.inr (.inl ())))
abbrev seineref1_Members_l1R (a : List GMember) (b : List GMember) (st : Int) (l : List PV) (u : UP) : Prop := l = [(.slice (List.map encMember a) [] false), (.slice (List.map encMember b) [] false), (.bool false), (.int .i64 st)] ∧ u = []
abbrev seineref1_Members_l1X (a : List GMember) (b : List GMember) (p : Unit ⊕ Unit) (r : Ex × List PV × UP) : Prop := elim p (fun (p : Unit) => ∃ (i_23 : Int), r = (Ex.brk 0, [(.slice (List.map encMember a) [] false), (.slice (List.map encMember b) [] false), (.bool false), (.int .i64 i_23)], [])) (fun q2 => (fun (p : Unit) => ∃ (i_24 : Int), r = (Ex.ret, [(.slice (List.map encMember a) [] false), (.slice (List.map encMember b) [] false), (.bool false), (.int .i64 i_24)], [])) q2)
noncomputable def seineref1_Members_B (a : List GMember) (b : List GMember) : Option Bool :=
  cnd ((List.length a : Int) != (List.length b : Int))
   (some false)
   (bnd (tloop (seineref1_Members_l1T a b) 0) fun e25_2 => elim e25_2
   (fun p25 =>
    some true)
   (fun p25 =>
   some false))
def seineref1_Members_ds : Decs := { decs := [(19, (.ref shMember)), (24, (.ref shMember)), (31, (.ref shMember)), (36, (.ref shMember)), (39, .bool)], ups := [], loops := [(4, [], ⟨[(.sl false), (.sl false), .bool, (.int .i64)], [], [(some 0, [(.sl false), (.sl false), .bool, (.int .i64)], []), (none, [(.sl false), (.sl false), .bool, (.int .i64)], [])]⟩)] }
set_option maxRecDepth 100000 in
theorem seineref1_Members_t1 (O : Orc) (LP : LBody → LBody) (a : List GMember) (b : List GMember) : evalBodyD Try.prog (MT 69) seineref1_Members_ds Try.f69.ntmps O LP Try.f69 [(.slice (List.map encMember a) [] false), (.slice (List.map encMember b) [] false)] [] = seineref1_Members_T1 O LP a b := by kernel_rfl
theorem seineref1_Members_l1_ok (a : List GMember) (b : List GMember) : ∀ st l u, seineref1_Members_l1R a b st l u → Imp (seineref1_Members_l1T a b st) (seineref1_Members_l1 O loopLim l u) (StepR (seineref1_Members_l1R a b) (seineref1_Members_l1X a b)) := by
  rintro i_12 l u ⟨rfl, rfl⟩
  simp only [seineref1_Members_l1T, seineref1_Members_l1]
  refine Imp.chk rfl (Imp.chk rfl ?_)
  try simp only [evs, tys]
  refine Imp.cnd ?_ ?_
  · refine Imp.op (f := fun a => .ref (encMember a)) (fun a h => op_ix (enc := encMember) (by first | rfl | simp only [evs, tys, evl]) ⟨by first | rfl | simp only [evs, tys, evc], by decide⟩ h) (fun a => chk_GMember a) fun y14 hy14 => ?_
    try simp only [evs, tys]
    refine Imp.op (f := fun a => .ref (encMember a)) (fun a h => op_ix (enc := encMember) (by first | rfl | simp only [evs, tys, evl]) ⟨by first | rfl | simp only [evs, tys, evc], by decide⟩ h) (fun a => chk_GMember a) fun y16 hy16 => ?_
    try simp only [evs, tys]
    refine Imp.cnd ?_ ?_
    · exact Imp.some (StepR.ret ⟨i_12, by first | rfl | simp only [evs, tys, evl, elim_inl, elim_inr]⟩)
    · refine Imp.op (f := fun a => .ref (encMember a)) (fun a h => op_ix (enc := encMember) (by first | rfl | simp only [evs, tys, evl]) ⟨by first | rfl | simp only [evs, tys, evc], by decide⟩ h) (fun a => chk_GMember a) fun y18 hy18 => ?_
      try simp only [evs, tys]
      refine Imp.op (f := fun a => .ref (encMember a)) (fun a h => op_ix (enc := encMember) (by first | rfl | simp only [evs, tys, evl]) ⟨by first | rfl | simp only [evs, tys, evc], by decide⟩ h) (fun a => chk_GMember a) fun y20 hy20 => ?_
      try simp only [evs, tys]
      refine Imp.call (f := seineref1_SameE) rfl (fun a h => by first | exact seineref1_Same_spec h | simpa only [evs, tys, evl] using seineref1_Same_spec h) (fun a => by first | rfl | simp only [seineref1_SameE, evk, chks]) fun y22 hy22 => ?_
      try simp only [seineref1_SameE, evs, tys]
      refine Imp.cnd ?_ ?_
      · exact Imp.some (StepR.ret ⟨i_12, by first | rfl | simp only [evs, tys, evl, elim_inl, elim_inr]⟩)
      · exact Imp.some (StepR.next ⟨by first | rfl | simp only [evs, tys, evl], rfl⟩)
  · exact Imp.some (StepR.brk ⟨i_12, by first | rfl | simp only [evs, tys, evl, elim_inl, elim_inr]⟩)
theorem seineref1_Members_imp (a : List GMember) (b : List GMember) : Imp (seineref1_Members_B a b) (seineref1_Members_T1 O loopLim a b) (fun r v => v = (seineref1_MembersE r, [])) := by
  simp only [seineref1_Members_B, seineref1_Members_T1]
  try simp only [evs, tys]
  refine Imp.cnd ?_ ?_
  · exact Imp.some (by first | rfl | simp only [seineref1_MembersE, evs, tys, evl])
  · refine Imp.bnd (Imp.loop (seineref1_Members_l1_ok a b) ⟨by first | rfl | simp only [evs, tys, evl], rfl⟩) ?_
    rintro (p | p) vy25 hy25
    · try simp only [elim_inl, elim_inr]
      obtain ⟨i_23, rfl⟩ := hy25
      refine Imp.exHit rfl (Imp.chk rfl (Imp.chk rfl ?_))
      try simp only [evs, tys]
      exact Imp.some (by first | rfl | simp only [seineref1_MembersE, evs, tys, evl])
    · try simp only [elim_inl, elim_inr]
      obtain ⟨i_24, rfl⟩ := hy25
      refine Imp.exMiss rfl ?_
      refine Imp.exHit rfl (Imp.chk rfl (Imp.chk rfl ?_))
      try simp only [evs, tys]
      exact Imp.some (by first | rfl | simp only [seineref1_MembersE, evs, tys, evl])
theorem seineref1_Members_run {a : List GMember} {b : List GMember} {r : Bool} (h : seineref1_Members_B a b = some r) : seineref1_Members a b = some r := by
  obtain ⟨v, hv, rfl⟩ := seineref1_Members_imp a b r h
  exact tO_of (pair_inj seineref1_MembersEj) (OL_runD seineref1_Members_ds rfl rfl Try.func69 ((seineref1_Members_t1 _ _ a b).trans hv))
end Go.Proofs.Ytgelaiohnmpjnaa



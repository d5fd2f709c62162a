import Derived.Test.YtoddajoeiamidaaGa
set_option linter.unusedVariables false
set_option linter.unusedSimpArgs false
/- Printed by symgen.py: typed functions of this seat, and why they tell what the program does. -/
set_option linter.unusedVariables false
set_option linter.unusedSimpArgs false
open Go Go.Ev Go.Ev.PV
namespace Go.Proofs.Ytoddajoeiamidaa
def wrap_Is_T1 (O : Orc) (LP : LBody → LBody) (t : GType) : Option (PV × UP) :=
  callp O 13 [(.agg [(.str t.name), (.int .i64 t.lists), (.int .i64 t.musts)])] fun x1 => cnd (chk .bool x1)
  (cnd (boolV x1)
   (callp O 35 [(.agg [(.str t.name), (.int .i64 t.lists), (.int .i64 t.musts)]), (.int .i64 0)] fun x3 => cnd (chk .bool x3)
   (some ((.bool (boolV x3)), [])) none)
   (some ((.bool false), []))) none
noncomputable def wrap_Is_B (t : GType) : Option Bool :=
  bnd (wrap_Right t) fun y2 =>
  cnd y2
   (bnd (wrap_bit t 0) fun y4 =>
   some y4)
   (some false)
def wrap_Is_ds : Decs := { decs := [(4, .bool), (7, .bool)], loops := [] }
set_option maxRecDepth 100000 in
theorem wrap_Is_t1 (O : Orc) (LP : LBody → LBody) (t : GType) : evalBodyD Try.prog (MT 24) wrap_Is_ds Try.f24.ntmps O LP Try.f24 [(.agg [(.str t.name), (.int .i64 t.lists), (.int .i64 t.musts)])] [] = wrap_Is_T1 O LP t := by kernel_rfl
theorem wrap_Is_imp (t : GType) : Imp (wrap_Is_B t) (wrap_Is_T1 O loopLim t) (fun r v => v = (wrap_IsE r, [])) := by
  simp only [wrap_Is_B, wrap_Is_T1]
  try simp only [evs, tys]
  refine Imp.call (f := wrap_RightE) rfl (fun a h => by first | exact wrap_Right_spec h | simpa only [evs, tys, evl] using wrap_Right_spec h) (fun a => by first | rfl | simp only [wrap_RightE, evk, chks]) fun y2 hy2 => ?_
  try simp only [wrap_RightE, evs, tys]
  refine Imp.cnd ?_ ?_
  · refine Imp.call (f := wrap_bitE) rfl (fun a h => by first | exact wrap_bit_spec h | simpa only [evs, tys, evl] using wrap_bit_spec h) (fun a => by first | rfl | simp only [wrap_bitE, evk, chks]) fun y4 hy4 => ?_
    try simp only [wrap_bitE, evs, tys]
    exact Imp.some (by first | rfl | simp only [wrap_IsE, evs, tys, evl])
  · exact Imp.some (by first | rfl | simp only [wrap_IsE, evs, tys, evl])
theorem wrap_Is_run {t : GType} {r : Bool} (h : wrap_Is_B t = some r) : wrap_Is t = some r := by
  obtain ⟨v, hv, rfl⟩ := wrap_Is_imp t r h
  exact tO_of (pair_inj wrap_IsEj) (OL_runD wrap_Is_ds rfl Try.func24 ((wrap_Is_t1 _ _ t).trans hv))

def wrap_Sub_T1 (O : Orc) (LP : LBody → LBody) (a : GType) (b : GType) : Option (PV × UP) :=
  callp O 13 [(.agg [(.str a.name), (.int .i64 a.lists), (.int .i64 a.musts)])] fun x1 => cnd (chk .bool x1)
  (cnd (boolV x1)
   (callp O 13 [(.agg [(.str b.name), (.int .i64 b.lists), (.int .i64 b.musts)])] fun x3 => cnd (chk .bool x3)
   (cnd (boolV x3)
    (cnd (a.name == b.name)
     (cnd (a.lists == b.lists)
      (some ((.bool ((bits .andNot .i64 b.musts a.musts) == 0)), []))
      (some ((.bool false), [])))
     (some ((.bool false), [])))
    (some ((.bool false), []))) none)
   (some ((.bool false), []))) none
noncomputable def wrap_Sub_B (a : GType) (b : GType) : Option Bool :=
  bnd (wrap_Right a) fun y2 =>
  cnd y2
   (bnd (wrap_Right b) fun y4 =>
   cnd y4
    (cnd (a.name == b.name)
     (cnd (a.lists == b.lists)
      (some ((bits .andNot .i64 b.musts a.musts) == 0))
      (some false))
     (some false))
    (some false))
   (some false)
def wrap_Sub_ds : Decs := { decs := [(6, .bool), (9, .bool)], loops := [] }
set_option maxRecDepth 100000 in
theorem wrap_Sub_t1 (O : Orc) (LP : LBody → LBody) (a : GType) (b : GType) : evalBodyD Try.prog (MT 25) wrap_Sub_ds Try.f25.ntmps O LP Try.f25 [(.agg [(.str a.name), (.int .i64 a.lists), (.int .i64 a.musts)]), (.agg [(.str b.name), (.int .i64 b.lists), (.int .i64 b.musts)])] [] = wrap_Sub_T1 O LP a b := by kernel_rfl
theorem wrap_Sub_imp (a : GType) (b : GType) : Imp (wrap_Sub_B a b) (wrap_Sub_T1 O loopLim a b) (fun r v => v = (wrap_SubE r, [])) := by
  simp only [wrap_Sub_B, wrap_Sub_T1]
  try simp only [evs, tys]
  refine Imp.call (f := wrap_RightE) rfl (fun a h => by first | exact wrap_Right_spec h | simpa only [evs, tys, evl] using wrap_Right_spec h) (fun a => by first | rfl | simp only [wrap_RightE, evk, chks]) fun y2 hy2 => ?_
  try simp only [wrap_RightE, evs, tys]
  refine Imp.cnd ?_ ?_
  · refine Imp.call (f := wrap_RightE) rfl (fun a h => by first | exact wrap_Right_spec h | simpa only [evs, tys, evl] using wrap_Right_spec h) (fun a => by first | rfl | simp only [wrap_RightE, evk, chks]) fun y4 hy4 => ?_
    try simp only [wrap_RightE, evs, tys]
    refine Imp.cnd ?_ ?_
    · refine Imp.cnd ?_ ?_
      · refine Imp.cnd ?_ ?_
        · exact Imp.some (by first | rfl | simp only [wrap_SubE, evs, tys, evl])
        · exact Imp.some (by first | rfl | simp only [wrap_SubE, evs, tys, evl])
      · exact Imp.some (by first | rfl | simp only [wrap_SubE, evs, tys, evl])
    · exact Imp.some (by first | rfl | simp only [wrap_SubE, evs, tys, evl])
  · exact Imp.some (by first | rfl | simp only [wrap_SubE, evs, tys, evl])
theorem wrap_Sub_run {a : GType} {b : GType} {r : Bool} (h : wrap_Sub_B a b = some r) : wrap_Sub a b = some r := by
  obtain ⟨v, hv, rfl⟩ := wrap_Sub_imp a b r h
  exact tO_of (pair_inj wrap_SubEj) (OL_runD wrap_Sub_ds rfl Try.func25 ((wrap_Sub_t1 _ _ a b).trans hv))

def seineref1_Is_T1 (O : Orc) (LP : LBody → LBody) (t : GType) : Option (PV × UP) :=
  callp O 36 [(.agg [(.str t.name), (.int .i64 t.lists), (.int .i64 t.musts)])] fun x1 => cnd (chk .bool x1)
  (cnd (boolV x1)
   (some ((.bool ((bits .and .i64 t.musts 1) == 1)), []))
   (some ((.bool false), []))) none
noncomputable def seineref1_Is_B (t : GType) : Option Bool :=
  bnd (seineref1_RightType t) fun y2 =>
  cnd y2
   (some ((bits .and .i64 t.musts 1) == 1))
   (some false)
def seineref1_Is_ds : Decs := { decs := [(4, .bool)], loops := [] }
set_option maxRecDepth 100000 in
theorem seineref1_Is_t1 (O : Orc) (LP : LBody → LBody) (t : GType) : evalBodyD Try.prog (MT 26) seineref1_Is_ds Try.f26.ntmps O LP Try.f26 [(.agg [(.str t.name), (.int .i64 t.lists), (.int .i64 t.musts)])] [] = seineref1_Is_T1 O LP t := by kernel_rfl
theorem seineref1_Is_imp (t : GType) : Imp (seineref1_Is_B t) (seineref1_Is_T1 O loopLim t) (fun r v => v = (seineref1_IsE r, [])) := by
  simp only [seineref1_Is_B, seineref1_Is_T1]
  try simp only [evs, tys]
  refine Imp.call (f := seineref1_RightTypeE) rfl (fun a h => by first | exact seineref1_RightType_spec h | simpa only [evs, tys, evl] using seineref1_RightType_spec h) (fun a => by first | rfl | simp only [seineref1_RightTypeE, evk, chks]) fun y2 hy2 => ?_
  try simp only [seineref1_RightTypeE, evs, tys]
  refine Imp.cnd ?_ ?_
  · exact Imp.some (by first | rfl | simp only [seineref1_IsE, evs, tys, evl])
  · exact Imp.some (by first | rfl | simp only [seineref1_IsE, evs, tys, evl])
theorem seineref1_Is_run {t : GType} {r : Bool} (h : seineref1_Is_B t = some r) : seineref1_Is t = some r := by
  obtain ⟨v, hv, rfl⟩ := seineref1_Is_imp t r h
  exact tO_of (pair_inj seineref1_IsEj) (OL_runD seineref1_Is_ds rfl Try.func26 ((seineref1_Is_t1 _ _ t).trans hv))

def seineref1_Bare_T1 (O : Orc) (LP : LBody → LBody) (t : GType) : Option (PV × UP) :=
  callp O 36 [(.agg [(.str t.name), (.int .i64 t.lists), (.int .i64 t.musts)])] fun x1 => cnd (chk .bool x1)
  (cnd (boolV x1)
   (some ((.agg [(.str t.name), (.int .i64 t.lists), (.int .i64 (bits .andNot .i64 t.musts 1))]), []))
   (some ((.agg [(.str t.name), (.int .i64 t.lists), (.int .i64 t.musts)]), []))) none
noncomputable def seineref1_Bare_B (t : GType) : Option GType :=
  bnd (seineref1_RightType t) fun y2 =>
  cnd y2
   (some (GType.mk t.name t.lists (bits .andNot .i64 t.musts 1)))
   (some t)
def seineref1_Bare_ds : Decs := { decs := [(4, .bool)], loops := [] }
set_option maxRecDepth 100000 in
theorem seineref1_Bare_t1 (O : Orc) (LP : LBody → LBody) (t : GType) : evalBodyD Try.prog (MT 27) seineref1_Bare_ds Try.f27.ntmps O LP Try.f27 [(.agg [(.str t.name), (.int .i64 t.lists), (.int .i64 t.musts)])] [] = seineref1_Bare_T1 O LP t := by kernel_rfl
theorem seineref1_Bare_imp (t : GType) : Imp (seineref1_Bare_B t) (seineref1_Bare_T1 O loopLim t) (fun r v => v = (seineref1_BareE r, [])) := by
  simp only [seineref1_Bare_B, seineref1_Bare_T1]
  try simp only [evs, tys]
  refine Imp.call (f := seineref1_RightTypeE) rfl (fun a h => by first | exact seineref1_RightType_spec h | simpa only [evs, tys, evl] using seineref1_RightType_spec h) (fun a => by first | rfl | simp only [seineref1_RightTypeE, evk, chks]) fun y2 hy2 => ?_
  try simp only [seineref1_RightTypeE, evs, tys]
  refine Imp.cnd ?_ ?_
  · exact Imp.some (by first | rfl | simp only [seineref1_BareE, evs, tys, evl])
  · exact Imp.some (by first | rfl | simp only [seineref1_BareE, evs, tys, evl])
theorem seineref1_Bare_run {t : GType} {r : GType} (h : seineref1_Bare_B t = some r) : seineref1_Bare t = some r := by
  obtain ⟨v, hv, rfl⟩ := seineref1_Bare_imp t r h
  exact tO_of (pair_inj seineref1_BareEj) (OL_runD seineref1_Bare_ds rfl Try.func27 ((seineref1_Bare_t1 _ _ t).trans hv))

def seineref1_SubType_T1 (O : Orc) (LP : LBody → LBody) (a : GType) (b : GType) : Option (PV × UP) :=
  callp O 36 [(.agg [(.str a.name), (.int .i64 a.lists), (.int .i64 a.musts)])] fun x1 => cnd (chk .bool x1)
  (cnd (boolV x1)
   (callp O 36 [(.agg [(.str b.name), (.int .i64 b.lists), (.int .i64 b.musts)])] fun x3 => cnd (chk .bool x3)
   (cnd (boolV x3)
    (cnd (a.name == b.name)
     (cnd (a.lists == b.lists)
      (some ((.bool ((bits .andNot .i64 b.musts a.musts) == 0)), []))
      (some ((.bool false), [])))
     (some ((.bool false), [])))
    (some ((.bool false), []))) none)
   (some ((.bool false), []))) none
noncomputable def seineref1_SubType_B (a : GType) (b : GType) : Option Bool :=
  bnd (seineref1_RightType a) fun y2 =>
  cnd y2
   (bnd (seineref1_RightType b) fun y4 =>
   cnd y4
    (cnd (a.name == b.name)
     (cnd (a.lists == b.lists)
      (some ((bits .andNot .i64 b.musts a.musts) == 0))
      (some false))
     (some false))
    (some false))
   (some false)
def seineref1_SubType_ds : Decs := { decs := [(6, .bool), (9, .bool)], loops := [] }
set_option maxRecDepth 100000 in
theorem seineref1_SubType_t1 (O : Orc) (LP : LBody → LBody) (a : GType) (b : GType) : evalBodyD Try.prog (MT 28) seineref1_SubType_ds Try.f28.ntmps O LP Try.f28 [(.agg [(.str a.name), (.int .i64 a.lists), (.int .i64 a.musts)]), (.agg [(.str b.name), (.int .i64 b.lists), (.int .i64 b.musts)])] [] = seineref1_SubType_T1 O LP a b := by kernel_rfl
theorem seineref1_SubType_imp (a : GType) (b : GType) : Imp (seineref1_SubType_B a b) (seineref1_SubType_T1 O loopLim a b) (fun r v => v = (seineref1_SubTypeE r, [])) := by
  simp only [seineref1_SubType_B, seineref1_SubType_T1]
  try simp only [evs, tys]
  refine Imp.call (f := seineref1_RightTypeE) rfl (fun a h => by first | exact seineref1_RightType_spec h | simpa only [evs, tys, evl] using seineref1_RightType_spec h) (fun a => by first | rfl | simp only [seineref1_RightTypeE, evk, chks]) fun y2 hy2 => ?_
  try simp only [seineref1_RightTypeE, evs, tys]
  refine Imp.cnd ?_ ?_
  · refine Imp.call (f := seineref1_RightTypeE) rfl (fun a h => by first | exact seineref1_RightType_spec h | simpa only [evs, tys, evl] using seineref1_RightType_spec h) (fun a => by first | rfl | simp only [seineref1_RightTypeE, evk, chks]) fun y4 hy4 => ?_
    try simp only [seineref1_RightTypeE, evs, tys]
    refine Imp.cnd ?_ ?_
    · refine Imp.cnd ?_ ?_
      · refine Imp.cnd ?_ ?_
        · exact Imp.some (by first | rfl | simp only [seineref1_SubTypeE, evs, tys, evl])
        · exact Imp.some (by first | rfl | simp only [seineref1_SubTypeE, evs, tys, evl])
      · exact Imp.some (by first | rfl | simp only [seineref1_SubTypeE, evs, tys, evl])
    · exact Imp.some (by first | rfl | simp only [seineref1_SubTypeE, evs, tys, evl])
  · exact Imp.some (by first | rfl | simp only [seineref1_SubTypeE, evs, tys, evl])
theorem seineref1_SubType_run {a : GType} {b : GType} {r : Bool} (h : seineref1_SubType_B a b = some r) : seineref1_SubType a b = some r := by
  obtain ⟨v, hv, rfl⟩ := seineref1_SubType_imp a b r h
  exact tO_of (pair_inj seineref1_SubTypeEj) (OL_runD seineref1_SubType_ds rfl Try.func28 ((seineref1_SubType_t1 _ _ a b).trans hv))

def letters_Name_l1 (O : Orc) (LP : LBody → LBody) : LBody := fun s1 s1u => cnd (chkL [.str, .bool, (.int .i64), (.int .i64)] s1) (cnd (chkU [] s1u)
  (cnd (decide ((intV (gt s1 3)) < (intV (gt s1 2))))
   (bnd (ixStr (.str (strV (gt s1 0))) (.int .i64 (intV (gt s1 3)))) fun x11 => cnd (chk (.int .u8) x11)
   (callp O 37 [(.int .u8 (intV x11))] fun x13 => cnd (chk .bool x13)
   (cnd (!(boolV x13))
    (cnd ((intV (gt s1 3)) == 0)
     (some (.ret, [(.str (strV (gt s1 0))), (.bool false), (.int .i64 (intV (gt s1 2))), (.int .i64 (intV (gt s1 3)))], []))
     (bnd (ixStr (.str (strV (gt s1 0))) (.int .i64 (intV (gt s1 3)))) fun x15 => cnd (chk (.int .u8) x15)
     (callp O 38 [(.int .u8 (intV x15))] fun x17 => cnd (chk .bool x17)
     (cnd (!(boolV x17))
      (some (.ret, [(.str (strV (gt s1 0))), (.bool false), (.int .i64 (intV (gt s1 2))), (.int .i64 (intV (gt s1 3)))], []))
      (some (.nrm, [(.str (strV (gt s1 0))), (.bool (boolV (gt s1 1))), (.int .i64 (intV (gt s1 2))), (.int .i64 (IntKind.wrap .i64 ((intV (gt s1 3)) + 1)))], []))) none) none))
    (some (.nrm, [(.str (strV (gt s1 0))), (.bool (boolV (gt s1 1))), (.int .i64 (intV (gt s1 2))), (.int .i64 (IntKind.wrap .i64 ((intV (gt s1 3)) + 1)))], []))) none) none)
   (some (.brk 0, [(.str (strV (gt s1 0))), (.bool (boolV (gt s1 1))), (.int .i64 (intV (gt s1 2))), (.int .i64 (intV (gt s1 3)))], []))) none) none
def letters_Name_T1 (O : Orc) (LP : LBody → LBody) (s : Str) : Option (PV × UP) :=
  bnd (LP (letters_Name_l1 O LP) [(.str s), (.bool false), (.int .i64 (List.length s : Int)), (.int .i64 0)] []) fun y21 =>
  exIs y21.1 (some 0) (cnd (chkL [.str, .bool, (.int .i64), (.int .i64)] y21.2.1) (cnd (chkU [] y21.2.2)
   (some ((.bool (!((strV (gt y21.2.1 0)) == ([] : Str)))), [])) none) none)
  (exIs y21.1 none (cnd (chkL [.str, .bool, (.int .i64), (.int .i64)] y21.2.1) (cnd (chkU [] y21.2.2)
   (some ((.bool (boolV (gt y21.2.1 1))), [])) none) none)
  (none))
noncomputable def letters_Name_l1T (s : Str) : Int → Option (Int ⊕ (Unit ⊕ Unit))
  | t_10 =>
  cnd (decide (t_10 < (List.length s : Int)))
   (bnd (nthI s t_10) fun y12 =>
   bnd (letters_Letter (y12.toNat : Int)) fun y14 =>
   cnd (!y14)
    (cnd (t_10 == 0)
     (some (.inr (.inr ())))
     (bnd (nthI s t_10) fun y16 =>
     bnd (letters_Digit (y16.toNat : Int)) fun y18 =>
     cnd (!y18)
      (some (.inr (.inr ())))
      (some (.inl (IntKind.wrap .i64 (t_10 + 1))))))
    (some (.inl (IntKind.wrap .i64 (t_10 + 1)))))
   (some (.inr (.inl ())))
abbrev letters_Name_l1R (s : Str) (st : Int) (l : List PV) (u : UP) : Prop := l = [(.str s), (.bool false), (.int .i64 (List.length s : Int)), (.int .i64 st)] ∧ u = []
abbrev letters_Name_l1X (s : Str) (p : Unit ⊕ Unit) (r : Ex × List PV × UP) : Prop := elim p (fun (p : Unit) => ∃ (t_19 : Int), r = (Ex.brk 0, [(.str s), (.bool false), (.int .i64 (List.length s : Int)), (.int .i64 t_19)], [])) (fun q2 => (fun (p : Unit) => ∃ (t_20 : Int), r = (Ex.ret, [(.str s), (.bool false), (.int .i64 (List.length s : Int)), (.int .i64 t_20)], [])) q2)
noncomputable def letters_Name_B (s : Str) : Option Bool :=
  bnd (tloop (letters_Name_l1T s) 0) fun e21_2 => elim e21_2
  (fun p21 =>
   some (!(s == ([] : Str))))
  (fun p21 =>
  some false)
def letters_Name_ds : Decs := { decs := [(11, (.int .u8)), (12, .bool), (20, (.int .u8)), (21, .bool)], loops := [(2, ⟨[.str, .bool, (.int .i64), (.int .i64)], [], [(some 0, [.str, .bool, (.int .i64), (.int .i64)], []), (none, [.str, .bool, (.int .i64), (.int .i64)], [])]⟩)] }
set_option maxRecDepth 100000 in
theorem letters_Name_t1 (O : Orc) (LP : LBody → LBody) (s : Str) : evalBodyD Try.prog (MT 29) letters_Name_ds Try.f29.ntmps O LP Try.f29 [(.str s)] [] = letters_Name_T1 O LP s := by kernel_rfl
theorem letters_Name_l1_ok (s : Str) : ∀ st l u, letters_Name_l1R s st l u → Imp (letters_Name_l1T s st) (letters_Name_l1 O loopLim l u) (StepR (letters_Name_l1R s) (letters_Name_l1X s)) := by
  rintro t_10 l u ⟨rfl, rfl⟩
  simp only [letters_Name_l1T, letters_Name_l1]
  refine Imp.chk rfl (Imp.chk rfl ?_)
  try simp only [evs, tys]
  refine Imp.cnd ?_ ?_
  · refine Imp.op (f := fun a => .int .u8 (a.toNat : Int)) (fun a h => op_ixStr h) (fun a => rfl) fun y12 hy12 => ?_
    try simp only [evs, tys]
    refine Imp.call (f := letters_LetterE) rfl (fun a h => by first | exact letters_Letter_spec h | simpa only [evs, tys, evl] using letters_Letter_spec h) (fun a => by first | rfl | simp only [letters_LetterE, evk, chks]) fun y14 hy14 => ?_
    try simp only [letters_LetterE, evs, tys]
    refine Imp.cnd ?_ ?_
    · refine Imp.cnd ?_ ?_
      · exact Imp.some (StepR.ret ⟨t_10, by first | rfl | simp only [evs, tys, evl, elim_inl, elim_inr]⟩)
      · refine Imp.op (f := fun a => .int .u8 (a.toNat : Int)) (fun a h => op_ixStr h) (fun a => rfl) fun y16 hy16 => ?_
        try simp only [evs, tys]
        refine Imp.call (f := letters_DigitE) rfl (fun a h => by first | exact letters_Digit_spec h | simpa only [evs, tys, evl] using letters_Digit_spec h) (fun a => by first | rfl | simp only [letters_DigitE, evk, chks]) fun y18 hy18 => ?_
        try simp only [letters_DigitE, evs, tys]
        refine Imp.cnd ?_ ?_
        · exact Imp.some (StepR.ret ⟨t_10, by first | rfl | simp only [evs, tys, evl, elim_inl, elim_inr]⟩)
        · exact Imp.some (StepR.next ⟨by first | rfl | simp only [evs, tys, evl], rfl⟩)
    · exact Imp.some (StepR.next ⟨by first | rfl | simp only [evs, tys, evl], rfl⟩)
  · exact Imp.some (StepR.brk ⟨t_10, by first | rfl | simp only [evs, tys, evl, elim_inl, elim_inr]⟩)
theorem letters_Name_imp (s : Str) : Imp (letters_Name_B s) (letters_Name_T1 O loopLim s) (fun r v => v = (letters_NameE r, [])) := by
  simp only [letters_Name_B, letters_Name_T1]
  try simp only [evs, tys]
  refine Imp.bnd (Imp.loop (letters_Name_l1_ok s) ⟨by first | rfl | simp only [evs, tys, evl], rfl⟩) ?_
  rintro (p | p) vy21 hy21
  · try simp only [elim_inl, elim_inr]
    obtain ⟨t_19, rfl⟩ := hy21
    refine Imp.exHit rfl (Imp.chk rfl (Imp.chk rfl ?_))
    try simp only [evs, tys]
    exact Imp.some (by first | rfl | simp only [letters_NameE, evs, tys, evl])
  · try simp only [elim_inl, elim_inr]
    obtain ⟨t_20, rfl⟩ := hy21
    refine Imp.exMiss rfl ?_
    refine Imp.exHit rfl (Imp.chk rfl (Imp.chk rfl ?_))
    try simp only [evs, tys]
    exact Imp.some (by first | rfl | simp only [letters_NameE, evs, tys, evl])
theorem letters_Name_run {s : Str} {r : Bool} (h : letters_Name_B s = some r) : letters_Name s = some r := by
  obtain ⟨v, hv, rfl⟩ := letters_Name_imp s r h
  exact tO_of (pair_inj letters_NameEj) (OL_runD letters_Name_ds rfl Try.func29 ((letters_Name_t1 _ _ s).trans hv))
end Go.Proofs.Ytoddajoeiamidaa

/- Printed by symgen.py: typed functions of this seat, and why they tell what the program does. -/
set_option linter.unusedVariables false
set_option linter.unusedSimpArgs false
open Go Go.Ev Go.Ev.PV
namespace Go.Proofs.Ytoddajoeiamidaa
def tree_inner_l1 (O : Orc) (LP : LBody → LBody) : LBody := fun s1 s1u => cnd (chkL [(.ptr 0 1 0), (.ptr 0 2 0), (.ptr 0 3 0), (.sl false), (.int .i64), (.int .i64), (.int .i64), (.int .i64), .str, (.sl true), (.sl true), (.int .i64), (.int .i64), .str, (.sl true), (.sl true), (.int .i64), .bool, (.int .i64), (.int .i64), .str, (.sl false), (.sl false), (.sl false), (.sl false)] s1) (cnd (chkU [] s1u)
  (cnd (decide ((intV (gt s1 5)) < (intV (gt s1 4))))
   (bnd (ix 9 (.slice (esV (gt s1 3)) [] false) (.int .i64 (intV (gt s1 5)))) fun x15 => cnd (chk (.ref shNode) x15)
   (callp O 18 [(.agg [(.int .i64 (intV (gt (aggV (refV x15)) 0))), (.bool (boolV (gt (aggV (refV x15)) 1))), (.int .i64 (intV (gt (aggV (refV x15)) 2))), (.int .i64 (intV (gt (aggV (refV x15)) 3))), (.str (strV (gt (aggV (refV x15)) 4))), (.slice (esV (gt (aggV (refV x15)) 5)) [] false), (.slice (esV (gt (aggV (refV x15)) 6)) [] false), (.slice (esV (gt (aggV (refV x15)) 7)) [] false), (.slice (esV (gt (aggV (refV x15)) 8)) [] false)])] fun x17 => cnd (chk (.tup [shValue, .bool]) x17)
   (cnd (!(boolV (gt (tupV x17) 1)))
    (some (.ret, [(.ptr 0 1 0), (.ptr 0 2 0), (.ptr 0 3 0), (.slice (esV (gt s1 3)) [] false), (.int .i64 (intV (gt s1 4))), (.int .i64 (intV (gt s1 5))), (.int .i64 (intV (gt s1 6))), (.int .i64 (intV (gt s1 7))), (.str (strV (gt s1 8))), (.slice (esV (gt s1 9)) [] true), (.slice (esV (gt s1 10)) [] true), (.int .i64 0), (.int .i64 0), (.str []), (.slice [] [] true), (.slice [] [] true), (.int .i64 (intV (gt s1 16))), (.bool (boolV (gt s1 17))), (.int .i64 (intV (gt s1 18))), (.int .i64 (intV (gt s1 19))), (.str (strV (gt s1 20))), (.slice (esV (gt s1 21)) [] false), (.slice (esV (gt s1 22)) [] false), (.slice (esV (gt s1 23)) [] false), (.slice (esV (gt s1 24)) [] false)], []))
    (cnd ((intV (gt s1 16)) == 2)
     (callp O 39 [(.agg [(.int .i64 (intV (gt s1 16))), (.bool (boolV (gt s1 17))), (.int .i64 (intV (gt s1 18))), (.int .i64 (intV (gt s1 19))), (.str (strV (gt s1 20))), (.slice (esV (gt s1 21)) [] false), (.slice (esV (gt s1 22)) [] false), (.slice (esV (gt s1 23)) [] false), (.slice (esV (gt s1 24)) [] false)]), (.int .i64 (intV (gt s1 5)))] fun x19 => cnd (chk .str x19)
     (bnd (apd 6 (.slice (esV (gt s1 10)) [] true) (.slice [(.agg [(.str (strV x19)), (.int .i64 (intV (gt (aggV (gt (tupV x17) 0)) 0))), (.int .i64 (intV (gt (aggV (gt (tupV x17) 0)) 1))), (.str (strV (gt (aggV (gt (tupV x17) 0)) 2))), (.slice (esV (gt (aggV (gt (tupV x17) 0)) 3)) [] false), (.slice (esV (gt (aggV (gt (tupV x17) 0)) 4)) [] false)])] [] true)) fun x21 => cnd (chk (.sl true) x21)
     (some (.nrm, [(.ptr 0 1 0), (.ptr 0 2 0), (.ptr 0 3 0), (.slice (esV (gt s1 3)) [] false), (.int .i64 (intV (gt s1 4))), (.int .i64 (IntKind.wrap .i64 ((intV (gt s1 5)) + 1))), (.int .i64 (intV (gt s1 6))), (.int .i64 (intV (gt s1 7))), (.str (strV (gt s1 8))), (.slice (esV (gt s1 9)) [] true), (.slice (esV x21) [] true), (.int .i64 (intV (gt s1 11))), (.int .i64 (intV (gt s1 12))), (.str (strV (gt s1 13))), (.slice (esV (gt s1 14)) [] true), (.slice (esV (gt s1 15)) [] true), (.int .i64 (intV (gt s1 16))), (.bool (boolV (gt s1 17))), (.int .i64 (intV (gt s1 18))), (.int .i64 (intV (gt s1 19))), (.str (strV (gt s1 20))), (.slice (esV (gt s1 21)) [] false), (.slice (esV (gt s1 22)) [] false), (.slice (esV (gt s1 23)) [] false), (.slice (esV (gt s1 24)) [] false)], [])) none) none)
     (bnd (apd 5 (.slice (esV (gt s1 9)) [] true) (.slice [(.agg [(.int .i64 (intV (gt (aggV (gt (tupV x17) 0)) 0))), (.int .i64 (intV (gt (aggV (gt (tupV x17) 0)) 1))), (.str (strV (gt (aggV (gt (tupV x17) 0)) 2))), (.slice (esV (gt (aggV (gt (tupV x17) 0)) 3)) [] false), (.slice (esV (gt (aggV (gt (tupV x17) 0)) 4)) [] false)])] [] true)) fun x23 => cnd (chk (.sl true) x23)
     (some (.nrm, [(.ptr 0 1 0), (.ptr 0 2 0), (.ptr 0 3 0), (.slice (esV (gt s1 3)) [] false), (.int .i64 (intV (gt s1 4))), (.int .i64 (IntKind.wrap .i64 ((intV (gt s1 5)) + 1))), (.int .i64 (intV (gt s1 6))), (.int .i64 (intV (gt s1 7))), (.str (strV (gt s1 8))), (.slice (esV x23) [] true), (.slice (esV (gt s1 10)) [] true), (.int .i64 (intV (gt s1 11))), (.int .i64 (intV (gt s1 12))), (.str (strV (gt s1 13))), (.slice (esV (gt s1 14)) [] true), (.slice (esV (gt s1 15)) [] true), (.int .i64 (intV (gt s1 16))), (.bool (boolV (gt s1 17))), (.int .i64 (intV (gt s1 18))), (.int .i64 (intV (gt s1 19))), (.str (strV (gt s1 20))), (.slice (esV (gt s1 21)) [] false), (.slice (esV (gt s1 22)) [] false), (.slice (esV (gt s1 23)) [] false), (.slice (esV (gt s1 24)) [] false)], [])) none))) none) none)
   (some (.brk 1, [(.ptr 0 1 0), (.ptr 0 2 0), (.ptr 0 3 0), (.slice (esV (gt s1 3)) [] false), (.int .i64 (intV (gt s1 4))), (.int .i64 (intV (gt s1 5))), (.int .i64 (intV (gt s1 6))), (.int .i64 (intV (gt s1 7))), (.str (strV (gt s1 8))), (.slice (esV (gt s1 9)) [] true), (.slice (esV (gt s1 10)) [] true), (.int .i64 (intV (gt s1 11))), (.int .i64 (intV (gt s1 12))), (.str (strV (gt s1 13))), (.slice (esV (gt s1 14)) [] true), (.slice (esV (gt s1 15)) [] true), (.int .i64 (intV (gt s1 16))), (.bool (boolV (gt s1 17))), (.int .i64 (intV (gt s1 18))), (.int .i64 (intV (gt s1 19))), (.str (strV (gt s1 20))), (.slice (esV (gt s1 21)) [] false), (.slice (esV (gt s1 22)) [] false), (.slice (esV (gt s1 23)) [] false), (.slice (esV (gt s1 24)) [] false)], []))) none) none
def tree_inner_l2 (O : Orc) (LP : LBody → LBody) : LBody := fun s32 s32u => cnd (chkL [(.ptr 0 1 0), (.ptr 0 2 0), (.ptr 0 3 0), (.sl false), (.int .i64), (.int .i64), (.int .i64), (.int .i64), .str, (.sl true), (.sl true), (.int .i64), (.int .i64), .str, (.sl true), (.sl true), (.int .i64), .bool, (.int .i64), (.int .i64), .str, (.sl false), (.sl false), (.sl false), (.sl false)] s32) (cnd (chkU [] s32u)
  (cnd (decide ((intV (gt s32 5)) < (intV (gt s32 4))))
   (bnd (ix 9 (.slice (esV (gt s32 3)) [] false) (.int .i64 (intV (gt s32 5)))) fun x46 => cnd (chk (.ref shNode) x46)
   (callp O 18 [(.agg [(.int .i64 (intV (gt (aggV (refV x46)) 0))), (.bool (boolV (gt (aggV (refV x46)) 1))), (.int .i64 (intV (gt (aggV (refV x46)) 2))), (.int .i64 (intV (gt (aggV (refV x46)) 3))), (.str (strV (gt (aggV (refV x46)) 4))), (.slice (esV (gt (aggV (refV x46)) 5)) [] false), (.slice (esV (gt (aggV (refV x46)) 6)) [] false), (.slice (esV (gt (aggV (refV x46)) 7)) [] false), (.slice (esV (gt (aggV (refV x46)) 8)) [] false)])] fun x48 => cnd (chk (.tup [shValue, .bool]) x48)
   (cnd (!(boolV (gt (tupV x48) 1)))
    (some (.ret, [(.ptr 0 1 0), (.ptr 0 2 0), (.ptr 0 3 0), (.slice (esV (gt s32 3)) [] false), (.int .i64 (intV (gt s32 4))), (.int .i64 (intV (gt s32 5))), (.int .i64 (intV (gt s32 6))), (.int .i64 (intV (gt s32 7))), (.str (strV (gt s32 8))), (.slice (esV (gt s32 9)) [] true), (.slice (esV (gt s32 10)) [] true), (.int .i64 0), (.int .i64 0), (.str []), (.slice [] [] true), (.slice [] [] true), (.int .i64 (intV (gt s32 16))), (.bool (boolV (gt s32 17))), (.int .i64 (intV (gt s32 18))), (.int .i64 (intV (gt s32 19))), (.str (strV (gt s32 20))), (.slice (esV (gt s32 21)) [] false), (.slice (esV (gt s32 22)) [] false), (.slice (esV (gt s32 23)) [] false), (.slice (esV (gt s32 24)) [] false)], []))
    (cnd ((intV (gt s32 16)) == 2)
     (callp O 39 [(.agg [(.int .i64 (intV (gt s32 16))), (.bool (boolV (gt s32 17))), (.int .i64 (intV (gt s32 18))), (.int .i64 (intV (gt s32 19))), (.str (strV (gt s32 20))), (.slice (esV (gt s32 21)) [] false), (.slice (esV (gt s32 22)) [] false), (.slice (esV (gt s32 23)) [] false), (.slice (esV (gt s32 24)) [] false)]), (.int .i64 (intV (gt s32 5)))] fun x50 => cnd (chk .str x50)
     (bnd (apd 6 (.slice (esV (gt s32 10)) [] true) (.slice [(.agg [(.str (strV x50)), (.int .i64 (intV (gt (aggV (gt (tupV x48) 0)) 0))), (.int .i64 (intV (gt (aggV (gt (tupV x48) 0)) 1))), (.str (strV (gt (aggV (gt (tupV x48) 0)) 2))), (.slice (esV (gt (aggV (gt (tupV x48) 0)) 3)) [] false), (.slice (esV (gt (aggV (gt (tupV x48) 0)) 4)) [] false)])] [] true)) fun x52 => cnd (chk (.sl true) x52)
     (some (.nrm, [(.ptr 0 1 0), (.ptr 0 2 0), (.ptr 0 3 0), (.slice (esV (gt s32 3)) [] false), (.int .i64 (intV (gt s32 4))), (.int .i64 (IntKind.wrap .i64 ((intV (gt s32 5)) + 1))), (.int .i64 (intV (gt s32 6))), (.int .i64 (intV (gt s32 7))), (.str (strV (gt s32 8))), (.slice (esV (gt s32 9)) [] true), (.slice (esV x52) [] true), (.int .i64 (intV (gt s32 11))), (.int .i64 (intV (gt s32 12))), (.str (strV (gt s32 13))), (.slice (esV (gt s32 14)) [] true), (.slice (esV (gt s32 15)) [] true), (.int .i64 (intV (gt s32 16))), (.bool (boolV (gt s32 17))), (.int .i64 (intV (gt s32 18))), (.int .i64 (intV (gt s32 19))), (.str (strV (gt s32 20))), (.slice (esV (gt s32 21)) [] false), (.slice (esV (gt s32 22)) [] false), (.slice (esV (gt s32 23)) [] false), (.slice (esV (gt s32 24)) [] false)], [])) none) none)
     (bnd (apd 5 (.slice (esV (gt s32 9)) [] true) (.slice [(.agg [(.int .i64 (intV (gt (aggV (gt (tupV x48) 0)) 0))), (.int .i64 (intV (gt (aggV (gt (tupV x48) 0)) 1))), (.str (strV (gt (aggV (gt (tupV x48) 0)) 2))), (.slice (esV (gt (aggV (gt (tupV x48) 0)) 3)) [] false), (.slice (esV (gt (aggV (gt (tupV x48) 0)) 4)) [] false)])] [] true)) fun x54 => cnd (chk (.sl true) x54)
     (some (.nrm, [(.ptr 0 1 0), (.ptr 0 2 0), (.ptr 0 3 0), (.slice (esV (gt s32 3)) [] false), (.int .i64 (intV (gt s32 4))), (.int .i64 (IntKind.wrap .i64 ((intV (gt s32 5)) + 1))), (.int .i64 (intV (gt s32 6))), (.int .i64 (intV (gt s32 7))), (.str (strV (gt s32 8))), (.slice (esV x54) [] true), (.slice (esV (gt s32 10)) [] true), (.int .i64 (intV (gt s32 11))), (.int .i64 (intV (gt s32 12))), (.str (strV (gt s32 13))), (.slice (esV (gt s32 14)) [] true), (.slice (esV (gt s32 15)) [] true), (.int .i64 (intV (gt s32 16))), (.bool (boolV (gt s32 17))), (.int .i64 (intV (gt s32 18))), (.int .i64 (intV (gt s32 19))), (.str (strV (gt s32 20))), (.slice (esV (gt s32 21)) [] false), (.slice (esV (gt s32 22)) [] false), (.slice (esV (gt s32 23)) [] false), (.slice (esV (gt s32 24)) [] false)], [])) none))) none) none)
   (some (.brk 1, [(.ptr 0 1 0), (.ptr 0 2 0), (.ptr 0 3 0), (.slice (esV (gt s32 3)) [] false), (.int .i64 (intV (gt s32 4))), (.int .i64 (intV (gt s32 5))), (.int .i64 (intV (gt s32 6))), (.int .i64 (intV (gt s32 7))), (.str (strV (gt s32 8))), (.slice (esV (gt s32 9)) [] true), (.slice (esV (gt s32 10)) [] true), (.int .i64 (intV (gt s32 11))), (.int .i64 (intV (gt s32 12))), (.str (strV (gt s32 13))), (.slice (esV (gt s32 14)) [] true), (.slice (esV (gt s32 15)) [] true), (.int .i64 (intV (gt s32 16))), (.bool (boolV (gt s32 17))), (.int .i64 (intV (gt s32 18))), (.int .i64 (intV (gt s32 19))), (.str (strV (gt s32 20))), (.slice (esV (gt s32 21)) [] false), (.slice (esV (gt s32 22)) [] false), (.slice (esV (gt s32 23)) [] false), (.slice (esV (gt s32 24)) [] false)], []))) none) none
def tree_inner_T1 (O : Orc) (LP : LBody → LBody) (n : GNode) : Option (PV × UP) :=
  cnd (n.kind == 0)
   (some ((.agg [(.int .i64 n.v.kind), (.int .i64 n.v.n), (.str n.v.s), (.slice (List.map encValue n.v.l) [] false), (.slice (List.map encMember n.v.m) [] false)]), []))
   (cnd (n.kind == 1)
    (bnd (LP (tree_inner_l1 O LP) [(.ptr 0 1 0), (.ptr 0 2 0), (.ptr 0 3 0), (.slice (List.map encNode n.l) [] false), (.int .i64 (List.length (List.map encNode n.l) : Int)), (.int .i64 0), (.int .i64 6), (.int .i64 0), (.str []), (.slice [] [] true), (.slice [] [] true), (.int .i64 0), (.int .i64 0), (.str []), (.slice [] [] true), (.slice [] [] true), (.int .i64 n.kind), (.bool n.must), (.int .i64 n.v.kind), (.int .i64 n.v.n), (.str n.v.s), (.slice (List.map encValue n.v.l) [] false), (.slice (List.map encMember n.v.m) [] false), (.slice (List.map PV.str n.keys) [] false), (.slice (List.map encNode n.l) [] false)] []) fun y31 =>
    exIs y31.1 (some 1) (cnd (chkL [(.ptr 0 1 0), (.ptr 0 2 0), (.ptr 0 3 0), (.sl false), (.int .i64), (.int .i64), (.int .i64), (.int .i64), .str, (.sl true), (.sl true), (.int .i64), (.int .i64), .str, (.sl true), (.sl true), (.int .i64), .bool, (.int .i64), (.int .i64), .str, (.sl false), (.sl false), (.sl false), (.sl false)] y31.2.1) (cnd (chkU [] y31.2.2)
     (some ((.agg [(.int .i64 (intV (gt y31.2.1 6))), (.int .i64 (intV (gt y31.2.1 7))), (.str (strV (gt y31.2.1 8))), (.slice (esV (gt y31.2.1 9)) [] false), (.slice (esV (gt y31.2.1 10)) [] false)]), [])) none) none)
    (exIs y31.1 none (cnd (chkL [(.ptr 0 1 0), (.ptr 0 2 0), (.ptr 0 3 0), (.sl false), (.int .i64), (.int .i64), (.int .i64), (.int .i64), .str, (.sl true), (.sl true), (.int .i64), (.int .i64), .str, (.sl true), (.sl true), (.int .i64), .bool, (.int .i64), (.int .i64), .str, (.sl false), (.sl false), (.sl false), (.sl false)] y31.2.1) (cnd (chkU [] y31.2.2)
     (some ((.agg [(.int .i64 (intV (gt y31.2.1 11))), (.int .i64 (intV (gt y31.2.1 12))), (.str (strV (gt y31.2.1 13))), (.slice (esV (gt y31.2.1 14)) [] false), (.slice (esV (gt y31.2.1 15)) [] false)]), [])) none) none)
    (none)))
    (cnd (n.kind == 2)
     (bnd (LP (tree_inner_l2 O LP) [(.ptr 0 1 0), (.ptr 0 2 0), (.ptr 0 3 0), (.slice (List.map encNode n.l) [] false), (.int .i64 (List.length (List.map encNode n.l) : Int)), (.int .i64 0), (.int .i64 7), (.int .i64 0), (.str []), (.slice [] [] true), (.slice [] [] true), (.int .i64 0), (.int .i64 0), (.str []), (.slice [] [] true), (.slice [] [] true), (.int .i64 n.kind), (.bool n.must), (.int .i64 n.v.kind), (.int .i64 n.v.n), (.str n.v.s), (.slice (List.map encValue n.v.l) [] false), (.slice (List.map encMember n.v.m) [] false), (.slice (List.map PV.str n.keys) [] false), (.slice (List.map encNode n.l) [] false)] []) fun y62 =>
     exIs y62.1 (some 1) (cnd (chkL [(.ptr 0 1 0), (.ptr 0 2 0), (.ptr 0 3 0), (.sl false), (.int .i64), (.int .i64), (.int .i64), (.int .i64), .str, (.sl true), (.sl true), (.int .i64), (.int .i64), .str, (.sl true), (.sl true), (.int .i64), .bool, (.int .i64), (.int .i64), .str, (.sl false), (.sl false), (.sl false), (.sl false)] y62.2.1) (cnd (chkU [] y62.2.2)
      (some ((.agg [(.int .i64 (intV (gt y62.2.1 6))), (.int .i64 (intV (gt y62.2.1 7))), (.str (strV (gt y62.2.1 8))), (.slice (esV (gt y62.2.1 9)) [] false), (.slice (esV (gt y62.2.1 10)) [] false)]), [])) none) none)
     (exIs y62.1 none (cnd (chkL [(.ptr 0 1 0), (.ptr 0 2 0), (.ptr 0 3 0), (.sl false), (.int .i64), (.int .i64), (.int .i64), (.int .i64), .str, (.sl true), (.sl true), (.int .i64), (.int .i64), .str, (.sl true), (.sl true), (.int .i64), .bool, (.int .i64), (.int .i64), .str, (.sl false), (.sl false), (.sl false), (.sl false)] y62.2.1) (cnd (chkU [] y62.2.2)
      (some ((.agg [(.int .i64 (intV (gt y62.2.1 11))), (.int .i64 (intV (gt y62.2.1 12))), (.str (strV (gt y62.2.1 13))), (.slice (esV (gt y62.2.1 14)) [] false), (.slice (esV (gt y62.2.1 15)) [] false)]), [])) none) none)
     (none)))
     (some ((.agg [(.int .i64 0), (.int .i64 0), (.str []), (.slice [] [] false), (.slice [] [] false)]), []))))
noncomputable def tree_inner_l1T (n : GNode) : (Int × (List GMember) × (List GValue)) → Option ((Int × (List GMember) × (List GValue)) ⊕ ((List GValue) × (List GMember) ⊕ Unit))
  | (t_12, out_13, out_14) =>
  cnd (decide (t_12 < (List.length n.l : Int)))
   (bnd (nthI n.l t_12) fun y16 =>
   bnd (tree_Up y16) fun y18 =>
   cnd (!y18.2)
    (some (.inr (.inr ())))
    (cnd (n.kind == 2)
     (bnd (tree_key n t_12) fun y20 =>
     bnd (tapp out_13 [(GMember.mk y20 y18.1)]) fun y22 =>
     some (.inl ((IntKind.wrap .i64 (t_12 + 1)), y22, out_14)))
     (bnd (tapp out_14 [y18.1]) fun y24 =>
     some (.inl ((IntKind.wrap .i64 (t_12 + 1)), out_13, y24)))))
   (some (.inr (.inl (out_14, out_13))))
abbrev tree_inner_l1R (n : GNode) (st : Int × (List GMember) × (List GValue)) (l : List PV) (u : UP) : Prop := l = [(.ptr 0 1 0), (.ptr 0 2 0), (.ptr 0 3 0), (.slice (List.map encNode n.l) [] false), (.int .i64 (List.length n.l : Int)), (.int .i64 st.1), (.int .i64 6), (.int .i64 0), (.str []), (.slice (List.map encValue st.2.2) [] true), (.slice (List.map encMember st.2.1) [] true), (.int .i64 0), (.int .i64 0), (.str []), (.slice [] [] true), (.slice [] [] true), (.int .i64 n.kind), (.bool n.must), (.int .i64 n.v.kind), (.int .i64 n.v.n), (.str n.v.s), (.slice (List.map encValue n.v.l) [] false), (.slice (List.map encMember n.v.m) [] false), (.slice (List.map PV.str n.keys) [] false), (.slice (List.map encNode n.l) [] false)] ∧ u = []
abbrev tree_inner_l1X (n : GNode) (p : (List GValue) × (List GMember) ⊕ Unit) (r : Ex × List PV × UP) : Prop := elim p (fun (p : (List GValue) × (List GMember)) => ∃ (t_25 : Int), r = (Ex.brk 1, [(.ptr 0 1 0), (.ptr 0 2 0), (.ptr 0 3 0), (.slice (List.map encNode n.l) [] false), (.int .i64 (List.length n.l : Int)), (.int .i64 t_25), (.int .i64 6), (.int .i64 0), (.str []), (.slice (List.map encValue p.1) [] true), (.slice (List.map encMember p.2) [] true), (.int .i64 0), (.int .i64 0), (.str []), (.slice [] [] true), (.slice [] [] true), (.int .i64 n.kind), (.bool n.must), (.int .i64 n.v.kind), (.int .i64 n.v.n), (.str n.v.s), (.slice (List.map encValue n.v.l) [] false), (.slice (List.map encMember n.v.m) [] false), (.slice (List.map PV.str n.keys) [] false), (.slice (List.map encNode n.l) [] false)], [])) (fun q2 => (fun (p : Unit) => ∃ (t_28 : Int), ∃ (out_29 : List GValue), ∃ (out_30 : List GMember), r = (Ex.ret, [(.ptr 0 1 0), (.ptr 0 2 0), (.ptr 0 3 0), (.slice (List.map encNode n.l) [] false), (.int .i64 (List.length n.l : Int)), (.int .i64 t_28), (.int .i64 6), (.int .i64 0), (.str []), (.slice (List.map encValue out_29) [] true), (.slice (List.map encMember out_30) [] true), (.int .i64 0), (.int .i64 0), (.str []), (.slice [] [] true), (.slice [] [] true), (.int .i64 n.kind), (.bool n.must), (.int .i64 n.v.kind), (.int .i64 n.v.n), (.str n.v.s), (.slice (List.map encValue n.v.l) [] false), (.slice (List.map encMember n.v.m) [] false), (.slice (List.map PV.str n.keys) [] false), (.slice (List.map encNode n.l) [] false)], [])) q2)
noncomputable def tree_inner_l2T (n : GNode) : (Int × (List GMember) × (List GValue)) → Option ((Int × (List GMember) × (List GValue)) ⊕ ((List GValue) × (List GMember) ⊕ Unit))
  | (t_43, out_44, out_45) =>
  cnd (decide (t_43 < (List.length n.l : Int)))
   (bnd (nthI n.l t_43) fun y47 =>
   bnd (tree_Up y47) fun y49 =>
   cnd (!y49.2)
    (some (.inr (.inr ())))
    (cnd (n.kind == 2)
     (bnd (tree_key n t_43) fun y51 =>
     bnd (tapp out_44 [(GMember.mk y51 y49.1)]) fun y53 =>
     some (.inl ((IntKind.wrap .i64 (t_43 + 1)), y53, out_45)))
     (bnd (tapp out_45 [y49.1]) fun y55 =>
     some (.inl ((IntKind.wrap .i64 (t_43 + 1)), out_44, y55)))))
   (some (.inr (.inl (out_45, out_44))))
abbrev tree_inner_l2R (n : GNode) (st : Int × (List GMember) × (List GValue)) (l : List PV) (u : UP) : Prop := l = [(.ptr 0 1 0), (.ptr 0 2 0), (.ptr 0 3 0), (.slice (List.map encNode n.l) [] false), (.int .i64 (List.length n.l : Int)), (.int .i64 st.1), (.int .i64 7), (.int .i64 0), (.str []), (.slice (List.map encValue st.2.2) [] true), (.slice (List.map encMember st.2.1) [] true), (.int .i64 0), (.int .i64 0), (.str []), (.slice [] [] true), (.slice [] [] true), (.int .i64 n.kind), (.bool n.must), (.int .i64 n.v.kind), (.int .i64 n.v.n), (.str n.v.s), (.slice (List.map encValue n.v.l) [] false), (.slice (List.map encMember n.v.m) [] false), (.slice (List.map PV.str n.keys) [] false), (.slice (List.map encNode n.l) [] false)] ∧ u = []
abbrev tree_inner_l2X (n : GNode) (p : (List GValue) × (List GMember) ⊕ Unit) (r : Ex × List PV × UP) : Prop := elim p (fun (p : (List GValue) × (List GMember)) => ∃ (t_56 : Int), r = (Ex.brk 1, [(.ptr 0 1 0), (.ptr 0 2 0), (.ptr 0 3 0), (.slice (List.map encNode n.l) [] false), (.int .i64 (List.length n.l : Int)), (.int .i64 t_56), (.int .i64 7), (.int .i64 0), (.str []), (.slice (List.map encValue p.1) [] true), (.slice (List.map encMember p.2) [] true), (.int .i64 0), (.int .i64 0), (.str []), (.slice [] [] true), (.slice [] [] true), (.int .i64 n.kind), (.bool n.must), (.int .i64 n.v.kind), (.int .i64 n.v.n), (.str n.v.s), (.slice (List.map encValue n.v.l) [] false), (.slice (List.map encMember n.v.m) [] false), (.slice (List.map PV.str n.keys) [] false), (.slice (List.map encNode n.l) [] false)], [])) (fun q2 => (fun (p : Unit) => ∃ (t_59 : Int), ∃ (out_60 : List GValue), ∃ (out_61 : List GMember), r = (Ex.ret, [(.ptr 0 1 0), (.ptr 0 2 0), (.ptr 0 3 0), (.slice (List.map encNode n.l) [] false), (.int .i64 (List.length n.l : Int)), (.int .i64 t_59), (.int .i64 7), (.int .i64 0), (.str []), (.slice (List.map encValue out_60) [] true), (.slice (List.map encMember out_61) [] true), (.int .i64 0), (.int .i64 0), (.str []), (.slice [] [] true), (.slice [] [] true), (.int .i64 n.kind), (.bool n.must), (.int .i64 n.v.kind), (.int .i64 n.v.n), (.str n.v.s), (.slice (List.map encValue n.v.l) [] false), (.slice (List.map encMember n.v.m) [] false), (.slice (List.map PV.str n.keys) [] false), (.slice (List.map encNode n.l) [] false)], [])) q2)
noncomputable def tree_inner_B (n : GNode) : Option GValue :=
  cnd (n.kind == 0)
   (some n.v)
   (cnd (n.kind == 1)
    (bnd (tloop (tree_inner_l1T n) (0, [], [])) fun e31_2 => elim e31_2
    (fun p31 =>
     some (GValue.mk 6 0 [] p31.1 p31.2))
    (fun p31 =>
    some (GValue.mk 0 0 [] ([] : List GValue) ([] : List GMember))))
    (cnd (n.kind == 2)
     (bnd (tloop (tree_inner_l2T n) (0, [], [])) fun e62_2 => elim e62_2
     (fun p62 =>
      some (GValue.mk 7 0 [] p62.1 p62.2))
     (fun p62 =>
     some (GValue.mk 0 0 [] ([] : List GValue) ([] : List GMember))))
     (some (GValue.mk 0 0 [] ([] : List GValue) ([] : List GMember)))))
def tree_inner_ds : Decs := { decs := [(27, (.ref shNode)), (31, (.tup [shValue, .bool])), (46, .str), (50, (.sl true)), (56, (.sl true))], loops := [(11, ⟨[(.ptr 0 1 0), (.ptr 0 2 0), (.ptr 0 3 0), (.sl false), (.int .i64), (.int .i64), (.int .i64), (.int .i64), .str, (.sl true), (.sl true), (.int .i64), (.int .i64), .str, (.sl true), (.sl true), (.int .i64), .bool, (.int .i64), (.int .i64), .str, (.sl false), (.sl false), (.sl false), (.sl false)], [], [(some 1, [(.ptr 0 1 0), (.ptr 0 2 0), (.ptr 0 3 0), (.sl false), (.int .i64), (.int .i64), (.int .i64), (.int .i64), .str, (.sl true), (.sl true), (.int .i64), (.int .i64), .str, (.sl true), (.sl true), (.int .i64), .bool, (.int .i64), (.int .i64), .str, (.sl false), (.sl false), (.sl false), (.sl false)], []), (none, [(.ptr 0 1 0), (.ptr 0 2 0), (.ptr 0 3 0), (.sl false), (.int .i64), (.int .i64), (.int .i64), (.int .i64), .str, (.sl true), (.sl true), (.int .i64), (.int .i64), .str, (.sl true), (.sl true), (.int .i64), .bool, (.int .i64), (.int .i64), .str, (.sl false), (.sl false), (.sl false), (.sl false)], [])]⟩)] }
set_option maxRecDepth 100000 in
theorem tree_inner_t1 (O : Orc) (LP : LBody → LBody) (n : GNode) : evalBodyD Try.prog (MT 30) tree_inner_ds Try.f30.ntmps O LP Try.f30 [(.agg [(.int .i64 n.kind), (.bool n.must), (.int .i64 n.v.kind), (.int .i64 n.v.n), (.str n.v.s), (.slice (List.map encValue n.v.l) [] false), (.slice (List.map encMember n.v.m) [] false), (.slice (List.map PV.str n.keys) [] false), (.slice (List.map encNode n.l) [] false)])] [] = tree_inner_T1 O LP n := by kernel_rfl
theorem tree_inner_l1_ok (n : GNode) : ∀ st l u, tree_inner_l1R n st l u → Imp (tree_inner_l1T n st) (tree_inner_l1 O loopLim l u) (StepR (tree_inner_l1R n) (tree_inner_l1X n)) := by
  rintro ⟨t_12, out_13, out_14⟩ l u ⟨rfl, rfl⟩
  simp only [tree_inner_l1T, tree_inner_l1]
  refine Imp.chk rfl (Imp.chk rfl ?_)
  try simp only [evs, tys]
  refine Imp.cnd ?_ ?_
  · refine Imp.op (f := fun a => .ref (encNode a)) (fun a h => op_ix (enc := encNode) (by first | rfl | simp only [evs, tys, evl]) ⟨by first | rfl | simp only [evs, tys, evc], by decide⟩ h) (fun a => chk_GNode a) fun y16 hy16 => ?_
    try simp only [evs, tys]
    refine Imp.call (f := tree_UpE) rfl (fun a h => by first | exact tree_Up_spec h | simpa only [evs, tys, evl] using tree_Up_spec h) (fun a => by first | rfl | simp only [tree_UpE, evk, chks]) fun y18 hy18 => ?_
    try simp only [tree_UpE, evs, tys]
    refine Imp.cnd ?_ ?_
    · exact Imp.some (StepR.ret ⟨t_12, out_14, out_13, by first | rfl | simp only [evs, tys, evl, elim_inl, elim_inr]⟩)
    · refine Imp.cnd ?_ ?_
      · refine Imp.call (f := tree_keyE) rfl (fun a h => by first | exact tree_key_spec h | simpa only [evs, tys, evl] using tree_key_spec h) (fun a => by first | rfl | simp only [tree_keyE, evk, chks]) fun y20 hy20 => ?_
        try simp only [tree_keyE, evs, tys]
        refine Imp.op (f := fun a => .slice (List.map encMember a) [] true) (fun a h => op_apd (enc := encMember) (by first | rfl | simp only [evs, tys, evl]) (by first | rfl | simp only [evs, tys, evl]) (fun a => by first | rfl | simp only [evs, tys, evc]) h) (fun a => rfl) fun y22 hy22 => ?_
        try simp only [evs, tys]
        exact Imp.some (StepR.next ⟨by first | rfl | simp only [evs, tys, evl], rfl⟩)
      · refine Imp.op (f := fun a => .slice (List.map encValue a) [] true) (fun a h => op_apd (enc := encValue) (by first | rfl | simp only [evs, tys, evl]) (by first | rfl | simp only [evs, tys, evl]) (fun a => by first | rfl | simp only [evs, tys, evc]) h) (fun a => rfl) fun y24 hy24 => ?_
        try simp only [evs, tys]
        exact Imp.some (StepR.next ⟨by first | rfl | simp only [evs, tys, evl], rfl⟩)
  · exact Imp.some (StepR.brk ⟨t_12, by first | rfl | simp only [evs, tys, evl, elim_inl, elim_inr]⟩)
theorem tree_inner_l2_ok (n : GNode) : ∀ st l u, tree_inner_l2R n st l u → Imp (tree_inner_l2T n st) (tree_inner_l2 O loopLim l u) (StepR (tree_inner_l2R n) (tree_inner_l2X n)) := by
  rintro ⟨t_43, out_44, out_45⟩ l u ⟨rfl, rfl⟩
  simp only [tree_inner_l2T, tree_inner_l2]
  refine Imp.chk rfl (Imp.chk rfl ?_)
  try simp only [evs, tys]
  refine Imp.cnd ?_ ?_
  · refine Imp.op (f := fun a => .ref (encNode a)) (fun a h => op_ix (enc := encNode) (by first | rfl | simp only [evs, tys, evl]) ⟨by first | rfl | simp only [evs, tys, evc], by decide⟩ h) (fun a => chk_GNode a) fun y47 hy47 => ?_
    try simp only [evs, tys]
    refine Imp.call (f := tree_UpE) rfl (fun a h => by first | exact tree_Up_spec h | simpa only [evs, tys, evl] using tree_Up_spec h) (fun a => by first | rfl | simp only [tree_UpE, evk, chks]) fun y49 hy49 => ?_
    try simp only [tree_UpE, evs, tys]
    refine Imp.cnd ?_ ?_
    · exact Imp.some (StepR.ret ⟨t_43, out_45, out_44, by first | rfl | simp only [evs, tys, evl, elim_inl, elim_inr]⟩)
    · refine Imp.cnd ?_ ?_
      · refine Imp.call (f := tree_keyE) rfl (fun a h => by first | exact tree_key_spec h | simpa only [evs, tys, evl] using tree_key_spec h) (fun a => by first | rfl | simp only [tree_keyE, evk, chks]) fun y51 hy51 => ?_
        try simp only [tree_keyE, evs, tys]
        refine Imp.op (f := fun a => .slice (List.map encMember a) [] true) (fun a h => op_apd (enc := encMember) (by first | rfl | simp only [evs, tys, evl]) (by first | rfl | simp only [evs, tys, evl]) (fun a => by first | rfl | simp only [evs, tys, evc]) h) (fun a => rfl) fun y53 hy53 => ?_
        try simp only [evs, tys]
        exact Imp.some (StepR.next ⟨by first | rfl | simp only [evs, tys, evl], rfl⟩)
      · refine Imp.op (f := fun a => .slice (List.map encValue a) [] true) (fun a h => op_apd (enc := encValue) (by first | rfl | simp only [evs, tys, evl]) (by first | rfl | simp only [evs, tys, evl]) (fun a => by first | rfl | simp only [evs, tys, evc]) h) (fun a => rfl) fun y55 hy55 => ?_
        try simp only [evs, tys]
        exact Imp.some (StepR.next ⟨by first | rfl | simp only [evs, tys, evl], rfl⟩)
  · exact Imp.some (StepR.brk ⟨t_43, by first | rfl | simp only [evs, tys, evl, elim_inl, elim_inr]⟩)
theorem tree_inner_imp (n : GNode) : Imp (tree_inner_B n) (tree_inner_T1 O loopLim n) (fun r v => v = (tree_innerE r, [])) := by
  simp only [tree_inner_B, tree_inner_T1]
  try simp only [evs, tys]
  refine Imp.cnd ?_ ?_
  · exact Imp.some (by first | rfl | simp only [tree_innerE, evs, tys, evl])
  · refine Imp.cnd ?_ ?_
    · refine Imp.bnd (Imp.loop (tree_inner_l1_ok n) ⟨by first | rfl | simp only [evs, tys, evl], rfl⟩) ?_
      rintro (⟨out_26, out_27⟩ | p) vy31 hy31
      · try simp only [elim_inl, elim_inr]
        obtain ⟨t_25, rfl⟩ := hy31
        refine Imp.exHit rfl (Imp.chk rfl (Imp.chk rfl ?_))
        try simp only [evs, tys]
        exact Imp.some (by first | rfl | simp only [tree_innerE, evs, tys, evl])
      · try simp only [elim_inl, elim_inr]
        obtain ⟨t_28, out_29, out_30, rfl⟩ := hy31
        refine Imp.exMiss rfl ?_
        refine Imp.exHit rfl (Imp.chk rfl (Imp.chk rfl ?_))
        try simp only [evs, tys]
        exact Imp.some (by first | rfl | simp only [tree_innerE, evs, tys, evl])
    · refine Imp.cnd ?_ ?_
      · refine Imp.bnd (Imp.loop (tree_inner_l2_ok n) ⟨by first | rfl | simp only [evs, tys, evl], rfl⟩) ?_
        rintro (⟨out_57, out_58⟩ | p) vy62 hy62
        · try simp only [elim_inl, elim_inr]
          obtain ⟨t_56, rfl⟩ := hy62
          refine Imp.exHit rfl (Imp.chk rfl (Imp.chk rfl ?_))
          try simp only [evs, tys]
          exact Imp.some (by first | rfl | simp only [tree_innerE, evs, tys, evl])
        · try simp only [elim_inl, elim_inr]
          obtain ⟨t_59, out_60, out_61, rfl⟩ := hy62
          refine Imp.exMiss rfl ?_
          refine Imp.exHit rfl (Imp.chk rfl (Imp.chk rfl ?_))
          try simp only [evs, tys]
          exact Imp.some (by first | rfl | simp only [tree_innerE, evs, tys, evl])
      · exact Imp.some (by first | rfl | simp only [tree_innerE, evs, tys, evl])
theorem tree_inner_run {n : GNode} {r : GValue} (h : tree_inner_B n = some r) : tree_inner n = some r := by
  obtain ⟨v, hv, rfl⟩ := tree_inner_imp n r h
  exact tO_of (pair_inj tree_innerEj) (OL_runD tree_inner_ds rfl Try.func30 ((tree_inner_t1 _ _ n).trans hv))

def seineref31_items_l1 (O : Orc) (LP : LBody → LBody) : LBody := fun s1 s1u => cnd (chkL [(.sl false), (.ptr 0 2 0), (.ptr 0 3 0), (.int .i64), (.int .i64), (.int .i64), .str, (.sl true), (.sl true), (.int .i64), (.int .i64), .str, (.sl true), (.sl true)] s1) (cnd (chkU [] s1u)
  (cnd (decide ((intV (gt s1 3)) < (List.length (esV (gt s1 0)) : Int)))
   (bnd (ix 9 (.slice (esV (gt s1 0)) [] false) (.int .i64 (intV (gt s1 3)))) fun x10 => cnd (chk (.ref shNode) x10)
   (callp O 19 [(.agg [(.int .i64 (intV (gt (aggV (refV x10)) 0))), (.bool (boolV (gt (aggV (refV x10)) 1))), (.int .i64 (intV (gt (aggV (refV x10)) 2))), (.int .i64 (intV (gt (aggV (refV x10)) 3))), (.str (strV (gt (aggV (refV x10)) 4))), (.slice (esV (gt (aggV (refV x10)) 5)) [] false), (.slice (esV (gt (aggV (refV x10)) 6)) [] false), (.slice (esV (gt (aggV (refV x10)) 7)) [] false), (.slice (esV (gt (aggV (refV x10)) 8)) [] false)])] fun x12 => cnd (chk (.tup [shValue, .bool]) x12)
   (cnd (!(boolV (gt (tupV x12) 1)))
    (some (.ret, [(.slice (esV (gt s1 0)) [] false), (.ptr 0 2 0), (.ptr 0 3 0), (.int .i64 (intV (gt s1 3))), (.int .i64 (intV (gt s1 4))), (.int .i64 (intV (gt s1 5))), (.str (strV (gt s1 6))), (.slice (esV (gt s1 7)) [] true), (.slice (esV (gt s1 8)) [] true), (.int .i64 0), (.int .i64 0), (.str []), (.slice [] [] true), (.slice [] [] true)], []))
    (bnd (apd 5 (.slice (esV (gt s1 7)) [] true) (.slice [(.agg [(.int .i64 (intV (gt (aggV (gt (tupV x12) 0)) 0))), (.int .i64 (intV (gt (aggV (gt (tupV x12) 0)) 1))), (.str (strV (gt (aggV (gt (tupV x12) 0)) 2))), (.slice (esV (gt (aggV (gt (tupV x12) 0)) 3)) [] false), (.slice (esV (gt (aggV (gt (tupV x12) 0)) 4)) [] false)])] [] true)) fun x14 => cnd (chk (.sl true) x14)
    (some (.nrm, [(.slice (esV (gt s1 0)) [] false), (.ptr 0 2 0), (.ptr 0 3 0), (.int .i64 (IntKind.wrap .i64 ((intV (gt s1 3)) + 1))), (.int .i64 (intV (gt s1 4))), (.int .i64 (intV (gt s1 5))), (.str (strV (gt s1 6))), (.slice (esV x14) [] true), (.slice (esV (gt s1 8)) [] true), (.int .i64 (intV (gt s1 9))), (.int .i64 (intV (gt s1 10))), (.str (strV (gt s1 11))), (.slice (esV (gt s1 12)) [] true), (.slice (esV (gt s1 13)) [] true)], [])) none)) none) none)
   (some (.brk 0, [(.slice (esV (gt s1 0)) [] false), (.ptr 0 2 0), (.ptr 0 3 0), (.int .i64 (intV (gt s1 3))), (.int .i64 (intV (gt s1 4))), (.int .i64 (intV (gt s1 5))), (.str (strV (gt s1 6))), (.slice (esV (gt s1 7)) [] true), (.slice (esV (gt s1 8)) [] true), (.int .i64 (intV (gt s1 9))), (.int .i64 (intV (gt s1 10))), (.str (strV (gt s1 11))), (.slice (esV (gt s1 12)) [] true), (.slice (esV (gt s1 13)) [] true)], []))) none) none
def seineref31_items_T1 (O : Orc) (LP : LBody → LBody) (l0 : List GNode) : Option (PV × UP) :=
  bnd (LP (seineref31_items_l1 O LP) [(.slice (List.map encNode l0) [] false), (.ptr 0 2 0), (.ptr 0 3 0), (.int .i64 0), (.int .i64 6), (.int .i64 0), (.str []), (.slice [] [] true), (.slice [] [] true), (.int .i64 0), (.int .i64 0), (.str []), (.slice [] [] true), (.slice [] [] true)] []) fun y20 =>
  exIs y20.1 (some 0) (cnd (chkL [(.sl false), (.ptr 0 2 0), (.ptr 0 3 0), (.int .i64), (.int .i64), (.int .i64), .str, (.sl true), (.sl true), (.int .i64), (.int .i64), .str, (.sl true), (.sl true)] y20.2.1) (cnd (chkU [] y20.2.2)
   (some ((.agg [(.int .i64 (intV (gt y20.2.1 4))), (.int .i64 (intV (gt y20.2.1 5))), (.str (strV (gt y20.2.1 6))), (.slice (esV (gt y20.2.1 7)) [] false), (.slice (esV (gt y20.2.1 8)) [] false)]), [])) none) none)
  (exIs y20.1 none (cnd (chkL [(.sl false), (.ptr 0 2 0), (.ptr 0 3 0), (.int .i64), (.int .i64), (.int .i64), .str, (.sl true), (.sl true), (.int .i64), (.int .i64), .str, (.sl true), (.sl true)] y20.2.1) (cnd (chkU [] y20.2.2)
   (some ((.agg [(.int .i64 (intV (gt y20.2.1 9))), (.int .i64 (intV (gt y20.2.1 10))), (.str (strV (gt y20.2.1 11))), (.slice (esV (gt y20.2.1 12)) [] false), (.slice (esV (gt y20.2.1 13)) [] false)]), [])) none) none)
  (none))
noncomputable def seineref31_items_l1T (l0 : List GNode) : (Int × (List GValue)) → Option ((Int × (List GValue)) ⊕ ((List GValue) ⊕ Unit))
  | (i_8, out_9) =>
  cnd (decide (i_8 < (List.length l0 : Int)))
   (bnd (nthI l0 i_8) fun y11 =>
   bnd (seineref31_Up y11) fun y13 =>
   cnd (!y13.2)
    (some (.inr (.inr ())))
    (bnd (tapp out_9 [y13.1]) fun y15 =>
    some (.inl ((IntKind.wrap .i64 (i_8 + 1)), y15))))
   (some (.inr (.inl out_9)))
abbrev seineref31_items_l1R (l0 : List GNode) (st : Int × (List GValue)) (l : List PV) (u : UP) : Prop := l = [(.slice (List.map encNode l0) [] false), (.ptr 0 2 0), (.ptr 0 3 0), (.int .i64 st.1), (.int .i64 6), (.int .i64 0), (.str []), (.slice (List.map encValue st.2) [] true), (.slice [] [] true), (.int .i64 0), (.int .i64 0), (.str []), (.slice [] [] true), (.slice [] [] true)] ∧ u = []
abbrev seineref31_items_l1X (l0 : List GNode) (p : (List GValue) ⊕ Unit) (r : Ex × List PV × UP) : Prop := elim p (fun (p : (List GValue)) => ∃ (i_16 : Int), r = (Ex.brk 0, [(.slice (List.map encNode l0) [] false), (.ptr 0 2 0), (.ptr 0 3 0), (.int .i64 i_16), (.int .i64 6), (.int .i64 0), (.str []), (.slice (List.map encValue p) [] true), (.slice [] [] true), (.int .i64 0), (.int .i64 0), (.str []), (.slice [] [] true), (.slice [] [] true)], [])) (fun q2 => (fun (p : Unit) => ∃ (i_18 : Int), ∃ (out_19 : List GValue), r = (Ex.ret, [(.slice (List.map encNode l0) [] false), (.ptr 0 2 0), (.ptr 0 3 0), (.int .i64 i_18), (.int .i64 6), (.int .i64 0), (.str []), (.slice (List.map encValue out_19) [] true), (.slice [] [] true), (.int .i64 0), (.int .i64 0), (.str []), (.slice [] [] true), (.slice [] [] true)], [])) q2)
noncomputable def seineref31_items_B (l0 : List GNode) : Option GValue :=
  bnd (tloop (seineref31_items_l1T l0) (0, [])) fun e20_2 => elim e20_2
  (fun out_17 =>
   some (GValue.mk 6 0 [] out_17 ([] : List GMember)))
  (fun p20 =>
  some (GValue.mk 0 0 [] ([] : List GValue) ([] : List GMember)))
def seineref31_items_ds : Decs := { decs := [(17, (.ref shNode)), (19, (.tup [shValue, .bool])), (29, (.sl true))], loops := [(3, ⟨[(.sl false), (.ptr 0 2 0), (.ptr 0 3 0), (.int .i64), (.int .i64), (.int .i64), .str, (.sl true), (.sl true), (.int .i64), (.int .i64), .str, (.sl true), (.sl true)], [], [(some 0, [(.sl false), (.ptr 0 2 0), (.ptr 0 3 0), (.int .i64), (.int .i64), (.int .i64), .str, (.sl true), (.sl true), (.int .i64), (.int .i64), .str, (.sl true), (.sl true)], []), (none, [(.sl false), (.ptr 0 2 0), (.ptr 0 3 0), (.int .i64), (.int .i64), (.int .i64), .str, (.sl true), (.sl true), (.int .i64), (.int .i64), .str, (.sl true), (.sl true)], [])]⟩)] }
set_option maxRecDepth 100000 in
theorem seineref31_items_t1 (O : Orc) (LP : LBody → LBody) (l0 : List GNode) : evalBodyD Try.prog (MT 31) seineref31_items_ds Try.f31.ntmps O LP Try.f31 [(.slice (List.map encNode l0) [] false)] [] = seineref31_items_T1 O LP l0 := by kernel_rfl
theorem seineref31_items_l1_ok (l0 : List GNode) : ∀ st l u, seineref31_items_l1R l0 st l u → Imp (seineref31_items_l1T l0 st) (seineref31_items_l1 O loopLim l u) (StepR (seineref31_items_l1R l0) (seineref31_items_l1X l0)) := by
  rintro ⟨i_8, out_9⟩ l u ⟨rfl, rfl⟩
  simp only [seineref31_items_l1T, seineref31_items_l1]
  refine Imp.chk rfl (Imp.chk rfl ?_)
  try simp only [evs, tys]
  refine Imp.cnd ?_ ?_
  · refine Imp.op (f := fun a => .ref (encNode a)) (fun a h => op_ix (enc := encNode) (by first | rfl | simp only [evs, tys, evl]) ⟨by first | rfl | simp only [evs, tys, evc], by decide⟩ h) (fun a => chk_GNode a) fun y11 hy11 => ?_
    try simp only [evs, tys]
    refine Imp.call (f := seineref31_UpE) rfl (fun a h => by first | exact seineref31_Up_spec h | simpa only [evs, tys, evl] using seineref31_Up_spec h) (fun a => by first | rfl | simp only [seineref31_UpE, evk, chks]) fun y13 hy13 => ?_
    try simp only [seineref31_UpE, evs, tys]
    refine Imp.cnd ?_ ?_
    · exact Imp.some (StepR.ret ⟨i_8, out_9, by first | rfl | simp only [evs, tys, evl, elim_inl, elim_inr]⟩)
    · refine Imp.op (f := fun a => .slice (List.map encValue a) [] true) (fun a h => op_apd (enc := encValue) (by first | rfl | simp only [evs, tys, evl]) (by first | rfl | simp only [evs, tys, evl]) (fun a => by first | rfl | simp only [evs, tys, evc]) h) (fun a => rfl) fun y15 hy15 => ?_
      try simp only [evs, tys]
      exact Imp.some (StepR.next ⟨by first | rfl | simp only [evs, tys, evl], rfl⟩)
  · exact Imp.some (StepR.brk ⟨i_8, by first | rfl | simp only [evs, tys, evl, elim_inl, elim_inr]⟩)
theorem seineref31_items_imp (l0 : List GNode) : Imp (seineref31_items_B l0) (seineref31_items_T1 O loopLim l0) (fun r v => v = (seineref31_itemsE r, [])) := by
  simp only [seineref31_items_B, seineref31_items_T1]
  try simp only [evs, tys]
  refine Imp.bnd (Imp.loop (seineref31_items_l1_ok l0) ⟨by first | rfl | simp only [evs, tys, evl], rfl⟩) ?_
  rintro (out_17 | p) vy20 hy20
  · try simp only [elim_inl, elim_inr]
    obtain ⟨i_16, rfl⟩ := hy20
    refine Imp.exHit rfl (Imp.chk rfl (Imp.chk rfl ?_))
    try simp only [evs, tys]
    exact Imp.some (by first | rfl | simp only [seineref31_itemsE, evs, tys, evl])
  · try simp only [elim_inl, elim_inr]
    obtain ⟨i_18, out_19, rfl⟩ := hy20
    refine Imp.exMiss rfl ?_
    refine Imp.exHit rfl (Imp.chk rfl (Imp.chk rfl ?_))
    try simp only [evs, tys]
    exact Imp.some (by first | rfl | simp only [seineref31_itemsE, evs, tys, evl])
theorem seineref31_items_run {l0 : List GNode} {r : GValue} (h : seineref31_items_B l0 = some r) : seineref31_items l0 = some r := by
  obtain ⟨v, hv, rfl⟩ := seineref31_items_imp l0 r h
  exact tO_of (pair_inj seineref31_itemsEj) (OL_runD seineref31_items_ds rfl Try.func31 ((seineref31_items_t1 _ _ l0).trans hv))
end Go.Proofs.Ytoddajoeiamidaa

/- Printed by symgen.py: typed functions of this seat, and why they tell what the program does. -/
set_option linter.unusedVariables false
set_option linter.unusedSimpArgs false
open Go Go.Ev Go.Ev.PV
namespace Go.Proofs.Ytoddajoeiamidaa
def seineref31_parts_l1 (O : Orc) (LP : LBody → LBody) : LBody := fun s1 s1u => cnd (chkL [(.sl false), (.sl false), (.ptr 0 4 0), (.ptr 0 5 0), (.int .i64), (.int .i64), (.int .i64), .str, (.sl true), (.sl true), (.int .i64), (.int .i64), .str, (.sl true), (.sl true)] s1) (cnd (chkU [] s1u)
  (cnd (decide ((intV (gt s1 4)) < (List.length (esV (gt s1 1)) : Int)))
   (bnd (ix 9 (.slice (esV (gt s1 1)) [] false) (.int .i64 (intV (gt s1 4)))) fun x14 => cnd (chk (.ref shNode) x14)
   (callp O 19 [(.agg [(.int .i64 (intV (gt (aggV (refV x14)) 0))), (.bool (boolV (gt (aggV (refV x14)) 1))), (.int .i64 (intV (gt (aggV (refV x14)) 2))), (.int .i64 (intV (gt (aggV (refV x14)) 3))), (.str (strV (gt (aggV (refV x14)) 4))), (.slice (esV (gt (aggV (refV x14)) 5)) [] false), (.slice (esV (gt (aggV (refV x14)) 6)) [] false), (.slice (esV (gt (aggV (refV x14)) 7)) [] false), (.slice (esV (gt (aggV (refV x14)) 8)) [] false)])] fun x16 => cnd (chk (.tup [shValue, .bool]) x16)
   (cnd (!(boolV (gt (tupV x16) 1)))
    (some (.ret, [(.slice (esV (gt s1 0)) [] false), (.slice (esV (gt s1 1)) [] false), (.ptr 0 4 0), (.ptr 0 5 0), (.int .i64 (intV (gt s1 4))), (.int .i64 (intV (gt s1 5))), (.int .i64 (intV (gt s1 6))), (.str (strV (gt s1 7))), (.slice (esV (gt s1 8)) [] true), (.slice (esV (gt s1 9)) [] true), (.int .i64 0), (.int .i64 0), (.str []), (.slice [] [] true), (.slice [] [] true)], []))
    (cnd (decide ((intV (gt s1 4)) < (List.length (esV (gt s1 0)) : Int)))
     (bnd (ix 1 (.slice (esV (gt s1 0)) [] false) (.int .i64 (intV (gt s1 4)))) fun x18 => cnd (chk (.ref .str) x18)
     (bnd (apd 6 (.slice (esV (gt s1 9)) [] true) (.slice [(.agg [(.str (strV (refV x18))), (.int .i64 (intV (gt (aggV (gt (tupV x16) 0)) 0))), (.int .i64 (intV (gt (aggV (gt (tupV x16) 0)) 1))), (.str (strV (gt (aggV (gt (tupV x16) 0)) 2))), (.slice (esV (gt (aggV (gt (tupV x16) 0)) 3)) [] false), (.slice (esV (gt (aggV (gt (tupV x16) 0)) 4)) [] false)])] [] true)) fun x20 => cnd (chk (.sl true) x20)
     (some (.nrm, [(.slice (esV (gt s1 0)) [] false), (.slice (esV (gt s1 1)) [] false), (.ptr 0 4 0), (.ptr 0 5 0), (.int .i64 (IntKind.wrap .i64 ((intV (gt s1 4)) + 1))), (.int .i64 (intV (gt s1 5))), (.int .i64 (intV (gt s1 6))), (.str (strV (gt s1 7))), (.slice (esV (gt s1 8)) [] true), (.slice (esV x20) [] true), (.int .i64 (intV (gt s1 10))), (.int .i64 (intV (gt s1 11))), (.str (strV (gt s1 12))), (.slice (esV (gt s1 13)) [] true), (.slice (esV (gt s1 14)) [] true)], [])) none) none)
     (bnd (apd 6 (.slice (esV (gt s1 9)) [] true) (.slice [(.agg [(.str []), (.int .i64 (intV (gt (aggV (gt (tupV x16) 0)) 0))), (.int .i64 (intV (gt (aggV (gt (tupV x16) 0)) 1))), (.str (strV (gt (aggV (gt (tupV x16) 0)) 2))), (.slice (esV (gt (aggV (gt (tupV x16) 0)) 3)) [] false), (.slice (esV (gt (aggV (gt (tupV x16) 0)) 4)) [] false)])] [] true)) fun x22 => cnd (chk (.sl true) x22)
     (some (.nrm, [(.slice (esV (gt s1 0)) [] false), (.slice (esV (gt s1 1)) [] false), (.ptr 0 4 0), (.ptr 0 5 0), (.int .i64 (IntKind.wrap .i64 ((intV (gt s1 4)) + 1))), (.int .i64 (intV (gt s1 5))), (.int .i64 (intV (gt s1 6))), (.str (strV (gt s1 7))), (.slice (esV (gt s1 8)) [] true), (.slice (esV x22) [] true), (.int .i64 (intV (gt s1 10))), (.int .i64 (intV (gt s1 11))), (.str (strV (gt s1 12))), (.slice (esV (gt s1 13)) [] true), (.slice (esV (gt s1 14)) [] true)], [])) none))) none) none)
   (some (.brk 0, [(.slice (esV (gt s1 0)) [] false), (.slice (esV (gt s1 1)) [] false), (.ptr 0 4 0), (.ptr 0 5 0), (.int .i64 (intV (gt s1 4))), (.int .i64 (intV (gt s1 5))), (.int .i64 (intV (gt s1 6))), (.str (strV (gt s1 7))), (.slice (esV (gt s1 8)) [] true), (.slice (esV (gt s1 9)) [] true), (.int .i64 (intV (gt s1 10))), (.int .i64 (intV (gt s1 11))), (.str (strV (gt s1 12))), (.slice (esV (gt s1 13)) [] true), (.slice (esV (gt s1 14)) [] true)], []))) none) none
def seineref31_parts_T1 (O : Orc) (LP : LBody → LBody) (keys : List Str) (l0 : List GNode) : Option (PV × UP) :=
  bnd (LP (seineref31_parts_l1 O LP) [(.slice (List.map PV.str keys) [] false), (.slice (List.map encNode l0) [] false), (.ptr 0 4 0), (.ptr 0 5 0), (.int .i64 0), (.int .i64 7), (.int .i64 0), (.str []), (.slice [] [] true), (.slice [] [] true), (.int .i64 0), (.int .i64 0), (.str []), (.slice [] [] true), (.slice [] [] true)] []) fun y28 =>
  exIs y28.1 (some 0) (cnd (chkL [(.sl false), (.sl false), (.ptr 0 4 0), (.ptr 0 5 0), (.int .i64), (.int .i64), (.int .i64), .str, (.sl true), (.sl true), (.int .i64), (.int .i64), .str, (.sl true), (.sl true)] y28.2.1) (cnd (chkU [] y28.2.2)
   (some ((.agg [(.int .i64 (intV (gt y28.2.1 5))), (.int .i64 (intV (gt y28.2.1 6))), (.str (strV (gt y28.2.1 7))), (.slice (esV (gt y28.2.1 8)) [] false), (.slice (esV (gt y28.2.1 9)) [] false)]), [])) none) none)
  (exIs y28.1 none (cnd (chkL [(.sl false), (.sl false), (.ptr 0 4 0), (.ptr 0 5 0), (.int .i64), (.int .i64), (.int .i64), .str, (.sl true), (.sl true), (.int .i64), (.int .i64), .str, (.sl true), (.sl true)] y28.2.1) (cnd (chkU [] y28.2.2)
   (some ((.agg [(.int .i64 (intV (gt y28.2.1 10))), (.int .i64 (intV (gt y28.2.1 11))), (.str (strV (gt y28.2.1 12))), (.slice (esV (gt y28.2.1 13)) [] false), (.slice (esV (gt y28.2.1 14)) [] false)]), [])) none) none)
  (none))
noncomputable def seineref31_parts_l1T (keys : List Str) (l0 : List GNode) : (Int × (List GMember)) → Option ((Int × (List GMember)) ⊕ ((List GMember) ⊕ Unit))
  | (i_12, out_13) =>
  cnd (decide (i_12 < (List.length l0 : Int)))
   (bnd (nthI l0 i_12) fun y15 =>
   bnd (seineref31_Up y15) fun y17 =>
   cnd (!y17.2)
    (some (.inr (.inr ())))
    (cnd (decide (i_12 < (List.length keys : Int)))
     (bnd (nthI keys i_12) fun y19 =>
     bnd (tapp out_13 [(GMember.mk y19 y17.1)]) fun y21 =>
     some (.inl ((IntKind.wrap .i64 (i_12 + 1)), y21)))
     (bnd (tapp out_13 [(GMember.mk [] y17.1)]) fun y23 =>
     some (.inl ((IntKind.wrap .i64 (i_12 + 1)), y23)))))
   (some (.inr (.inl out_13)))
abbrev seineref31_parts_l1R (keys : List Str) (l0 : List GNode) (st : Int × (List GMember)) (l : List PV) (u : UP) : Prop := l = [(.slice (List.map PV.str keys) [] false), (.slice (List.map encNode l0) [] false), (.ptr 0 4 0), (.ptr 0 5 0), (.int .i64 st.1), (.int .i64 7), (.int .i64 0), (.str []), (.slice [] [] true), (.slice (List.map encMember st.2) [] true), (.int .i64 0), (.int .i64 0), (.str []), (.slice [] [] true), (.slice [] [] true)] ∧ u = []
abbrev seineref31_parts_l1X (keys : List Str) (l0 : List GNode) (p : (List GMember) ⊕ Unit) (r : Ex × List PV × UP) : Prop := elim p (fun (p : (List GMember)) => ∃ (i_24 : Int), r = (Ex.brk 0, [(.slice (List.map PV.str keys) [] false), (.slice (List.map encNode l0) [] false), (.ptr 0 4 0), (.ptr 0 5 0), (.int .i64 i_24), (.int .i64 7), (.int .i64 0), (.str []), (.slice [] [] true), (.slice (List.map encMember p) [] true), (.int .i64 0), (.int .i64 0), (.str []), (.slice [] [] true), (.slice [] [] true)], [])) (fun q2 => (fun (p : Unit) => ∃ (i_26 : Int), ∃ (out_27 : List GMember), r = (Ex.ret, [(.slice (List.map PV.str keys) [] false), (.slice (List.map encNode l0) [] false), (.ptr 0 4 0), (.ptr 0 5 0), (.int .i64 i_26), (.int .i64 7), (.int .i64 0), (.str []), (.slice [] [] true), (.slice (List.map encMember out_27) [] true), (.int .i64 0), (.int .i64 0), (.str []), (.slice [] [] true), (.slice [] [] true)], [])) q2)
noncomputable def seineref31_parts_B (keys : List Str) (l0 : List GNode) : Option GValue :=
  bnd (tloop (seineref31_parts_l1T keys l0) (0, [])) fun e28_2 => elim e28_2
  (fun out_25 =>
   some (GValue.mk 7 0 [] ([] : List GValue) out_25))
  (fun p28 =>
  some (GValue.mk 0 0 [] ([] : List GValue) ([] : List GMember)))
def seineref31_parts_ds : Decs := { decs := [(20, (.ref shNode)), (22, (.tup [shValue, .bool])), (36, (.ref .str)), (43, (.sl true))], loops := [(3, ⟨[(.sl false), (.sl false), (.ptr 0 4 0), (.ptr 0 5 0), (.int .i64), (.int .i64), (.int .i64), .str, (.sl true), (.sl true), (.int .i64), (.int .i64), .str, (.sl true), (.sl true)], [], [(some 0, [(.sl false), (.sl false), (.ptr 0 4 0), (.ptr 0 5 0), (.int .i64), (.int .i64), (.int .i64), .str, (.sl true), (.sl true), (.int .i64), (.int .i64), .str, (.sl true), (.sl true)], []), (none, [(.sl false), (.sl false), (.ptr 0 4 0), (.ptr 0 5 0), (.int .i64), (.int .i64), (.int .i64), .str, (.sl true), (.sl true), (.int .i64), (.int .i64), .str, (.sl true), (.sl true)], [])]⟩)] }
set_option maxRecDepth 100000 in
theorem seineref31_parts_t1 (O : Orc) (LP : LBody → LBody) (keys : List Str) (l0 : List GNode) : evalBodyD Try.prog (MT 32) seineref31_parts_ds Try.f32.ntmps O LP Try.f32 [(.slice (List.map PV.str keys) [] false), (.slice (List.map encNode l0) [] false)] [] = seineref31_parts_T1 O LP keys l0 := by kernel_rfl
theorem seineref31_parts_l1_ok (keys : List Str) (l0 : List GNode) : ∀ st l u, seineref31_parts_l1R keys l0 st l u → Imp (seineref31_parts_l1T keys l0 st) (seineref31_parts_l1 O loopLim l u) (StepR (seineref31_parts_l1R keys l0) (seineref31_parts_l1X keys l0)) := by
  rintro ⟨i_12, out_13⟩ l u ⟨rfl, rfl⟩
  simp only [seineref31_parts_l1T, seineref31_parts_l1]
  refine Imp.chk rfl (Imp.chk rfl ?_)
  try simp only [evs, tys]
  refine Imp.cnd ?_ ?_
  · refine Imp.op (f := fun a => .ref (encNode a)) (fun a h => op_ix (enc := encNode) (by first | rfl | simp only [evs, tys, evl]) ⟨by first | rfl | simp only [evs, tys, evc], by decide⟩ h) (fun a => chk_GNode a) fun y15 hy15 => ?_
    try simp only [evs, tys]
    refine Imp.call (f := seineref31_UpE) rfl (fun a h => by first | exact seineref31_Up_spec h | simpa only [evs, tys, evl] using seineref31_Up_spec h) (fun a => by first | rfl | simp only [seineref31_UpE, evk, chks]) fun y17 hy17 => ?_
    try simp only [seineref31_UpE, evs, tys]
    refine Imp.cnd ?_ ?_
    · exact Imp.some (StepR.ret ⟨i_12, out_13, by first | rfl | simp only [evs, tys, evl, elim_inl, elim_inr]⟩)
    · refine Imp.cnd ?_ ?_
      · refine Imp.op (f := fun a => .ref (PV.str a)) (fun a h => op_ix (enc := PV.str) (by first | rfl | simp only [evs, tys, evl]) ⟨by first | rfl | simp only [evs, tys, evc], by decide⟩ h) (fun a => rfl) fun y19 hy19 => ?_
        try simp only [evs, tys]
        refine Imp.op (f := fun a => .slice (List.map encMember a) [] true) (fun a h => op_apd (enc := encMember) (by first | rfl | simp only [evs, tys, evl]) (by first | rfl | simp only [evs, tys, evl]) (fun a => by first | rfl | simp only [evs, tys, evc]) h) (fun a => rfl) fun y21 hy21 => ?_
        try simp only [evs, tys]
        exact Imp.some (StepR.next ⟨by first | rfl | simp only [evs, tys, evl], rfl⟩)
      · refine Imp.op (f := fun a => .slice (List.map encMember a) [] true) (fun a h => op_apd (enc := encMember) (by first | rfl | simp only [evs, tys, evl]) (by first | rfl | simp only [evs, tys, evl]) (fun a => by first | rfl | simp only [evs, tys, evc]) h) (fun a => rfl) fun y23 hy23 => ?_
        try simp only [evs, tys]
        exact Imp.some (StepR.next ⟨by first | rfl | simp only [evs, tys, evl], rfl⟩)
  · exact Imp.some (StepR.brk ⟨i_12, by first | rfl | simp only [evs, tys, evl, elim_inl, elim_inr]⟩)
theorem seineref31_parts_imp (keys : List Str) (l0 : List GNode) : Imp (seineref31_parts_B keys l0) (seineref31_parts_T1 O loopLim keys l0) (fun r v => v = (seineref31_partsE r, [])) := by
  simp only [seineref31_parts_B, seineref31_parts_T1]
  try simp only [evs, tys]
  refine Imp.bnd (Imp.loop (seineref31_parts_l1_ok keys l0) ⟨by first | rfl | simp only [evs, tys, evl], rfl⟩) ?_
  rintro (out_25 | p) vy28 hy28
  · try simp only [elim_inl, elim_inr]
    obtain ⟨i_24, rfl⟩ := hy28
    refine Imp.exHit rfl (Imp.chk rfl (Imp.chk rfl ?_))
    try simp only [evs, tys]
    exact Imp.some (by first | rfl | simp only [seineref31_partsE, evs, tys, evl])
  · try simp only [elim_inl, elim_inr]
    obtain ⟨i_26, out_27, rfl⟩ := hy28
    refine Imp.exMiss rfl ?_
    refine Imp.exHit rfl (Imp.chk rfl (Imp.chk rfl ?_))
    try simp only [evs, tys]
    exact Imp.some (by first | rfl | simp only [seineref31_partsE, evs, tys, evl])
theorem seineref31_parts_run {keys : List Str} {l0 : List GNode} {r : GValue} (h : seineref31_parts_B keys l0 = some r) : seineref31_parts keys l0 = some r := by
  obtain ⟨v, hv, rfl⟩ := seineref31_parts_imp keys l0 r h
  exact tO_of (pair_inj seineref31_partsEj) (OL_runD seineref31_parts_ds rfl Try.func32 ((seineref31_parts_t1 _ _ keys l0).trans hv))

def seineref1_Members_l1 (O : Orc) (LP : LBody → LBody) : LBody := fun s1 s1u => cnd (chkL [(.sl false), (.sl false), .bool, (.int .i64)] s1) (cnd (chkU [] s1u)
  (cnd (decide ((intV (gt s1 3)) < (List.length (esV (gt s1 0)) : Int)))
   (bnd (ix 6 (.slice (esV (gt s1 0)) [] false) (.int .i64 (intV (gt s1 3)))) fun x13 => cnd (chk (.ref shMember) x13)
   (bnd (ix 6 (.slice (esV (gt s1 1)) [] false) (.int .i64 (intV (gt s1 3)))) fun x15 => cnd (chk (.ref shMember) x15)
   (cnd (!((strV (gt (aggV (refV x13)) 0)) == (strV (gt (aggV (refV x15)) 0))))
    (some (.ret, [(.slice (esV (gt s1 0)) [] false), (.slice (esV (gt s1 1)) [] false), (.bool false), (.int .i64 (intV (gt s1 3)))], []))
    (bnd (ix 6 (.slice (esV (gt s1 0)) [] false) (.int .i64 (intV (gt s1 3)))) fun x17 => cnd (chk (.ref shMember) x17)
    (bnd (ix 6 (.slice (esV (gt s1 1)) [] false) (.int .i64 (intV (gt s1 3)))) fun x19 => cnd (chk (.ref shMember) x19)
    (callp O 20 [(.agg [(.int .i64 (intV (gt (aggV (refV x17)) 1))), (.int .i64 (intV (gt (aggV (refV x17)) 2))), (.str (strV (gt (aggV (refV x17)) 3))), (.slice (esV (gt (aggV (refV x17)) 4)) [] false), (.slice (esV (gt (aggV (refV x17)) 5)) [] false)]), (.agg [(.int .i64 (intV (gt (aggV (refV x19)) 1))), (.int .i64 (intV (gt (aggV (refV x19)) 2))), (.str (strV (gt (aggV (refV x19)) 3))), (.slice (esV (gt (aggV (refV x19)) 4)) [] false), (.slice (esV (gt (aggV (refV x19)) 5)) [] false)])] fun x21 => cnd (chk .bool x21)
    (cnd (!(boolV x21))
     (some (.ret, [(.slice (esV (gt s1 0)) [] false), (.slice (esV (gt s1 1)) [] false), (.bool false), (.int .i64 (intV (gt s1 3)))], []))
     (some (.nrm, [(.slice (esV (gt s1 0)) [] false), (.slice (esV (gt s1 1)) [] false), (.bool (boolV (gt s1 2))), (.int .i64 (IntKind.wrap .i64 ((intV (gt s1 3)) + 1)))], []))) none) none) none)) none) none)
   (some (.brk 0, [(.slice (esV (gt s1 0)) [] false), (.slice (esV (gt s1 1)) [] false), (.bool (boolV (gt s1 2))), (.int .i64 (intV (gt s1 3)))], []))) none) none
def seineref1_Members_T1 (O : Orc) (LP : LBody → LBody) (a : List GMember) (b : List GMember) : Option (PV × UP) :=
  cnd ((List.length (List.map encMember a) : Int) != (List.length (List.map encMember b) : Int))
   (some ((.bool false), []))
   (bnd (LP (seineref1_Members_l1 O LP) [(.slice (List.map encMember a) [] false), (.slice (List.map encMember b) [] false), (.bool false), (.int .i64 0)] []) fun y25 =>
   exIs y25.1 (some 0) (cnd (chkL [(.sl false), (.sl false), .bool, (.int .i64)] y25.2.1) (cnd (chkU [] y25.2.2)
    (some ((.bool true), [])) none) none)
   (exIs y25.1 none (cnd (chkL [(.sl false), (.sl false), .bool, (.int .i64)] y25.2.1) (cnd (chkU [] y25.2.2)
    (some ((.bool (boolV (gt y25.2.1 2))), [])) none) none)
   (none)))
noncomputable def seineref1_Members_l1T (a : List GMember) (b : List GMember) : Int → Option (Int ⊕ (Unit ⊕ Unit))
  | i_12 =>
  cnd (decide (i_12 < (List.length a : Int)))
   (bnd (nthI a i_12) fun y14 =>
   bnd (nthI b i_12) fun y16 =>
   cnd (!(y14.name == y16.name))
    (some (.inr (.inr ())))
    (bnd (nthI a i_12) fun y18 =>
    bnd (nthI b i_12) fun y20 =>
    bnd (seineref1_Same y18.v y20.v) fun y22 =>
    cnd (!y22)
     (some (.inr (.inr ())))
     (some (.inl (IntKind.wrap .i64 (i_12 + 1))))))
   (some (.inr (.inl ())))
abbrev seineref1_Members_l1R (a : List GMember) (b : List GMember) (st : Int) (l : List PV) (u : UP) : Prop := l = [(.slice (List.map encMember a) [] false), (.slice (List.map encMember b) [] false), (.bool false), (.int .i64 st)] ∧ u = []
abbrev seineref1_Members_l1X (a : List GMember) (b : List GMember) (p : Unit ⊕ Unit) (r : Ex × List PV × UP) : Prop := elim p (fun (p : Unit) => ∃ (i_23 : Int), r = (Ex.brk 0, [(.slice (List.map encMember a) [] false), (.slice (List.map encMember b) [] false), (.bool false), (.int .i64 i_23)], [])) (fun q2 => (fun (p : Unit) => ∃ (i_24 : Int), r = (Ex.ret, [(.slice (List.map encMember a) [] false), (.slice (List.map encMember b) [] false), (.bool false), (.int .i64 i_24)], [])) q2)
noncomputable def seineref1_Members_B (a : List GMember) (b : List GMember) : Option Bool :=
  cnd ((List.length a : Int) != (List.length b : Int))
   (some false)
   (bnd (tloop (seineref1_Members_l1T a b) 0) fun e25_2 => elim e25_2
   (fun p25 =>
    some true)
   (fun p25 =>
   some false))
def seineref1_Members_ds : Decs := { decs := [(19, (.ref shMember)), (24, (.ref shMember)), (31, (.ref shMember)), (36, (.ref shMember)), (39, .bool)], loops := [(4, ⟨[(.sl false), (.sl false), .bool, (.int .i64)], [], [(some 0, [(.sl false), (.sl false), .bool, (.int .i64)], []), (none, [(.sl false), (.sl false), .bool, (.int .i64)], [])]⟩)] }
set_option maxRecDepth 100000 in
theorem seineref1_Members_t1 (O : Orc) (LP : LBody → LBody) (a : List GMember) (b : List GMember) : evalBodyD Try.prog (MT 33) seineref1_Members_ds Try.f33.ntmps O LP Try.f33 [(.slice (List.map encMember a) [] false), (.slice (List.map encMember b) [] false)] [] = seineref1_Members_T1 O LP a b := by kernel_rfl
theorem seineref1_Members_l1_ok (a : List GMember) (b : List GMember) : ∀ st l u, seineref1_Members_l1R a b st l u → Imp (seineref1_Members_l1T a b st) (seineref1_Members_l1 O loopLim l u) (StepR (seineref1_Members_l1R a b) (seineref1_Members_l1X a b)) := by
  rintro i_12 l u ⟨rfl, rfl⟩
  simp only [seineref1_Members_l1T, seineref1_Members_l1]
  refine Imp.chk rfl (Imp.chk rfl ?_)
  try simp only [evs, tys]
  refine Imp.cnd ?_ ?_
  · refine Imp.op (f := fun a => .ref (encMember a)) (fun a h => op_ix (enc := encMember) (by first | rfl | simp only [evs, tys, evl]) ⟨by first | rfl | simp only [evs, tys, evc], by decide⟩ h) (fun a => chk_GMember a) fun y14 hy14 => ?_
    try simp only [evs, tys]
    refine Imp.op (f := fun a => .ref (encMember a)) (fun a h => op_ix (enc := encMember) (by first | rfl | simp only [evs, tys, evl]) ⟨by first | rfl | simp only [evs, tys, evc], by decide⟩ h) (fun a => chk_GMember a) fun y16 hy16 => ?_
    try simp only [evs, tys]
    refine Imp.cnd ?_ ?_
    · exact Imp.some (StepR.ret ⟨i_12, by first | rfl | simp only [evs, tys, evl, elim_inl, elim_inr]⟩)
    · refine Imp.op (f := fun a => .ref (encMember a)) (fun a h => op_ix (enc := encMember) (by first | rfl | simp only [evs, tys, evl]) ⟨by first | rfl | simp only [evs, tys, evc], by decide⟩ h) (fun a => chk_GMember a) fun y18 hy18 => ?_
      try simp only [evs, tys]
      refine Imp.op (f := fun a => .ref (encMember a)) (fun a h => op_ix (enc := encMember) (by first | rfl | simp only [evs, tys, evl]) ⟨by first | rfl | simp only [evs, tys, evc], by decide⟩ h) (fun a => chk_GMember a) fun y20 hy20 => ?_
      try simp only [evs, tys]
      refine Imp.call (f := seineref1_SameE) rfl (fun a h => by first | exact seineref1_Same_spec h | simpa only [evs, tys, evl] using seineref1_Same_spec h) (fun a => by first | rfl | simp only [seineref1_SameE, evk, chks]) fun y22 hy22 => ?_
      try simp only [seineref1_SameE, evs, tys]
      refine Imp.cnd ?_ ?_
      · exact Imp.some (StepR.ret ⟨i_12, by first | rfl | simp only [evs, tys, evl, elim_inl, elim_inr]⟩)
      · exact Imp.some (StepR.next ⟨by first | rfl | simp only [evs, tys, evl], rfl⟩)
  · exact Imp.some (StepR.brk ⟨i_12, by first | rfl | simp only [evs, tys, evl, elim_inl, elim_inr]⟩)
theorem seineref1_Members_imp (a : List GMember) (b : List GMember) : Imp (seineref1_Members_B a b) (seineref1_Members_T1 O loopLim a b) (fun r v => v = (seineref1_MembersE r, [])) := by
  simp only [seineref1_Members_B, seineref1_Members_T1]
  try simp only [evs, tys]
  refine Imp.cnd ?_ ?_
  · exact Imp.some (by first | rfl | simp only [seineref1_MembersE, evs, tys, evl])
  · refine Imp.bnd (Imp.loop (seineref1_Members_l1_ok a b) ⟨by first | rfl | simp only [evs, tys, evl], rfl⟩) ?_
    rintro (p | p) vy25 hy25
    · try simp only [elim_inl, elim_inr]
      obtain ⟨i_23, rfl⟩ := hy25
      refine Imp.exHit rfl (Imp.chk rfl (Imp.chk rfl ?_))
      try simp only [evs, tys]
      exact Imp.some (by first | rfl | simp only [seineref1_MembersE, evs, tys, evl])
    · try simp only [elim_inl, elim_inr]
      obtain ⟨i_24, rfl⟩ := hy25
      refine Imp.exMiss rfl ?_
      refine Imp.exHit rfl (Imp.chk rfl (Imp.chk rfl ?_))
      try simp only [evs, tys]
      exact Imp.some (by first | rfl | simp only [seineref1_MembersE, evs, tys, evl])
theorem seineref1_Members_run {a : List GMember} {b : List GMember} {r : Bool} (h : seineref1_Members_B a b = some r) : seineref1_Members a b = some r := by
  obtain ⟨v, hv, rfl⟩ := seineref1_Members_imp a b r h
  exact tO_of (pair_inj seineref1_MembersEj) (OL_runD seineref1_Members_ds rfl Try.func33 ((seineref1_Members_t1 _ _ a b).trans hv))

def value_Get_l1 (O : Orc) (LP : LBody → LBody) : LBody := fun s1 s1u => cnd (chkL [.str, (.ptr 0 4 0), .bool, (.sl false), (.int .i64), (.int .i64), (.int .i64), (.int .i64), .str, (.sl true), (.sl true)] s1) (cnd (chkU [] s1u)
  (cnd (decide ((intV (gt s1 5)) < (intV (gt s1 4))))
   (bnd (ix 6 (.slice (esV (gt s1 3)) [] false) (.int .i64 (intV (gt s1 5)))) fun x5 => cnd (chk (.ref shMember) x5)
   (cnd ((strV (gt (aggV (refV x5)) 0)) == (strV (gt s1 0)))
    (some (.ret, [(.str (strV (gt s1 0))), (.ptr 0 4 0), (.bool true), (.slice (esV (gt s1 3)) [] false), (.int .i64 (intV (gt s1 4))), (.int .i64 (intV (gt s1 5))), (.int .i64 (intV (gt (aggV (refV x5)) 1))), (.int .i64 (intV (gt (aggV (refV x5)) 2))), (.str (strV (gt (aggV (refV x5)) 3))), (.slice (esV (gt (aggV (refV x5)) 4)) [] false), (.slice (esV (gt (aggV (refV x5)) 5)) [] false)], []))
    (some (.nrm, [(.str (strV (gt s1 0))), (.ptr 0 4 0), (.bool (boolV (gt s1 2))), (.slice (esV (gt s1 3)) [] false), (.int .i64 (intV (gt s1 4))), (.int .i64 (IntKind.wrap .i64 ((intV (gt s1 5)) + 1))), (.int .i64 (intV (gt s1 6))), (.int .i64 (intV (gt s1 7))), (.str (strV (gt s1 8))), (.slice (esV (gt s1 9)) [] true), (.slice (esV (gt s1 10)) [] true)], []))) none)
   (some (.brk 0, [(.str (strV (gt s1 0))), (.ptr 0 4 0), (.bool (boolV (gt s1 2))), (.slice (esV (gt s1 3)) [] false), (.int .i64 (intV (gt s1 4))), (.int .i64 (intV (gt s1 5))), (.int .i64 (intV (gt s1 6))), (.int .i64 (intV (gt s1 7))), (.str (strV (gt s1 8))), (.slice (esV (gt s1 9)) [] true), (.slice (esV (gt s1 10)) [] true)], []))) none) none
def value_Get_T1 (O : Orc) (LP : LBody → LBody) (name : Str) (l0 : List GMember) : Option (PV × UP) :=
  bnd (LP (value_Get_l1 O LP) [(.str name), (.ptr 0 4 0), (.bool false), (.slice (List.map encMember l0) [] false), (.int .i64 (List.length (List.map encMember l0) : Int)), (.int .i64 0), (.int .i64 0), (.int .i64 0), (.str []), (.slice [] [] true), (.slice [] [] true)] []) fun y14 =>
  exIs y14.1 (some 0) (cnd (chkL [.str, (.ptr 0 4 0), .bool, (.sl false), (.int .i64), (.int .i64), (.int .i64), (.int .i64), .str, (.sl true), (.sl true)] y14.2.1) (cnd (chkU [] y14.2.2)
   (some ((.tuple [(.agg [(.int .i64 0), (.int .i64 0), (.str []), (.slice [] [] false), (.slice [] [] false)]), (.bool false)]), [])) none) none)
  (exIs y14.1 none (cnd (chkL [.str, (.ptr 0 4 0), .bool, (.sl false), (.int .i64), (.int .i64), (.int .i64), (.int .i64), .str, (.sl false), (.sl false)] y14.2.1) (cnd (chkU [] y14.2.2)
   (some ((.tuple [(.agg [(.int .i64 (intV (gt y14.2.1 6))), (.int .i64 (intV (gt y14.2.1 7))), (.str (strV (gt y14.2.1 8))), (.slice (esV (gt y14.2.1 9)) [] false), (.slice (esV (gt y14.2.1 10)) [] false)]), (.bool (boolV (gt y14.2.1 2)))]), [])) none) none)
  (none))
noncomputable def value_Get_l1T (name : Str) (l0 : List GMember) : Int → Option (Int ⊕ (Unit ⊕ (Int × Int × Str × (List GValue) × (List GMember))))
  | t_4 =>
  cnd (decide (t_4 < (List.length l0 : Int)))
   (bnd (nthI l0 t_4) fun y6 =>
   cnd (y6.name == name)
    (some (.inr (.inr (y6.v.kind, y6.v.n, y6.v.s, y6.v.l, y6.v.m))))
    (some (.inl (IntKind.wrap .i64 (t_4 + 1)))))
   (some (.inr (.inl ())))
abbrev value_Get_l1R (name : Str) (l0 : List GMember) (st : Int) (l : List PV) (u : UP) : Prop := l = [(.str name), (.ptr 0 4 0), (.bool false), (.slice (List.map encMember l0) [] false), (.int .i64 (List.length l0 : Int)), (.int .i64 st), (.int .i64 0), (.int .i64 0), (.str []), (.slice [] [] true), (.slice [] [] true)] ∧ u = []
abbrev value_Get_l1X (name : Str) (l0 : List GMember) (p : Unit ⊕ (Int × Int × Str × (List GValue) × (List GMember))) (r : Ex × List PV × UP) : Prop := elim p (fun (p : Unit) => ∃ (t_7 : Int), r = (Ex.brk 0, [(.str name), (.ptr 0 4 0), (.bool false), (.slice (List.map encMember l0) [] false), (.int .i64 (List.length l0 : Int)), (.int .i64 t_7), (.int .i64 0), (.int .i64 0), (.str []), (.slice [] [] true), (.slice [] [] true)], [])) (fun q2 => (fun (p : Int × Int × Str × (List GValue) × (List GMember)) => ∃ (t_8 : Int), r = (Ex.ret, [(.str name), (.ptr 0 4 0), (.bool true), (.slice (List.map encMember l0) [] false), (.int .i64 (List.length l0 : Int)), (.int .i64 t_8), (.int .i64 p.1), (.int .i64 p.2.1), (.str p.2.2.1), (.slice (List.map encValue p.2.2.2.1) [] false), (.slice (List.map encMember p.2.2.2.2) [] false)], [])) q2)
noncomputable def value_Get_B (name : Str) (l0 : List GMember) : Option (GValue × Bool) :=
  bnd (tloop (value_Get_l1T name l0) 0) fun e14_2 => elim e14_2
  (fun p14 =>
   some ((GValue.mk 0 0 [] ([] : List GValue) ([] : List GMember)), false))
  (fun p14 =>
  some ((GValue.mk p14.1 p14.2.1 p14.2.2.1 p14.2.2.2.1 p14.2.2.2.2), true))
def value_Get_ds : Decs := { decs := [(12, (.ref shMember))], loops := [(2, ⟨[.str, (.ptr 0 4 0), .bool, (.sl false), (.int .i64), (.int .i64), (.int .i64), (.int .i64), .str, (.sl true), (.sl true)], [], [(some 0, [.str, (.ptr 0 4 0), .bool, (.sl false), (.int .i64), (.int .i64), (.int .i64), (.int .i64), .str, (.sl true), (.sl true)], []), (none, [.str, (.ptr 0 4 0), .bool, (.sl false), (.int .i64), (.int .i64), (.int .i64), (.int .i64), .str, (.sl false), (.sl false)], [])]⟩)] }
set_option maxRecDepth 100000 in
theorem value_Get_t1 (O : Orc) (LP : LBody → LBody) (name : Str) (l0 : List GMember) : evalBodyD Try.prog (MT 34) value_Get_ds Try.f34.ntmps O LP Try.f34 [(.str name), (.slice (List.map encMember l0) [] false)] [] = value_Get_T1 O LP name l0 := by kernel_rfl
theorem value_Get_l1_ok (name : Str) (l0 : List GMember) : ∀ st l u, value_Get_l1R name l0 st l u → Imp (value_Get_l1T name l0 st) (value_Get_l1 O loopLim l u) (StepR (value_Get_l1R name l0) (value_Get_l1X name l0)) := by
  rintro t_4 l u ⟨rfl, rfl⟩
  simp only [value_Get_l1T, value_Get_l1]
  refine Imp.chk rfl (Imp.chk rfl ?_)
  try simp only [evs, tys]
  refine Imp.cnd ?_ ?_
  · refine Imp.op (f := fun a => .ref (encMember a)) (fun a h => op_ix (enc := encMember) (by first | rfl | simp only [evs, tys, evl]) ⟨by first | rfl | simp only [evs, tys, evc], by decide⟩ h) (fun a => chk_GMember a) fun y6 hy6 => ?_
    try simp only [evs, tys]
    refine Imp.cnd ?_ ?_
    · exact Imp.some (StepR.ret ⟨t_4, by first | rfl | simp only [evs, tys, evl, elim_inl, elim_inr]⟩)
    · exact Imp.some (StepR.next ⟨by first | rfl | simp only [evs, tys, evl], rfl⟩)
  · exact Imp.some (StepR.brk ⟨t_4, by first | rfl | simp only [evs, tys, evl, elim_inl, elim_inr]⟩)
theorem value_Get_imp (name : Str) (l0 : List GMember) : Imp (value_Get_B name l0) (value_Get_T1 O loopLim name l0) (fun r v => v = (value_GetE r, [])) := by
  simp only [value_Get_B, value_Get_T1]
  try simp only [evs, tys]
  refine Imp.bnd (Imp.loop (value_Get_l1_ok name l0) ⟨by first | rfl | simp only [evs, tys, evl], rfl⟩) ?_
  rintro (p | ⟨b_9, b_10, b_11, b_12, b_13⟩) vy14 hy14
  · try simp only [elim_inl, elim_inr]
    obtain ⟨t_7, rfl⟩ := hy14
    refine Imp.exHit rfl (Imp.chk rfl (Imp.chk rfl ?_))
    try simp only [evs, tys]
    exact Imp.some (by first | rfl | simp only [value_GetE, evs, tys, evl])
  · try simp only [elim_inl, elim_inr]
    obtain ⟨t_8, rfl⟩ := hy14
    refine Imp.exMiss rfl ?_
    refine Imp.exHit rfl (Imp.chk rfl (Imp.chk rfl ?_))
    try simp only [evs, tys]
    exact Imp.some (by first | rfl | simp only [value_GetE, evs, tys, evl])
theorem value_Get_run {name : Str} {l0 : List GMember} {r : GValue × Bool} (h : value_Get_B name l0 = some r) : value_Get name l0 = some r := by
  obtain ⟨v, hv, rfl⟩ := value_Get_imp name l0 r h
  exact tO_of (pair_inj value_GetEj) (OL_runD value_Get_ds rfl Try.func34 ((value_Get_t1 _ _ name l0).trans hv))

def wrap_bit_T1 (O : Orc) (LP : LBody → LBody) (t : GType) (i : Int) : Option (PV × UP) :=
  bnd (bin .shr (.int .i64 t.musts) (.int .i64 i)) fun x1 => cnd (chk (.int .i64) x1)
  (some ((.bool ((bits .and .i64 (intV x1) 1) == 1)), [])) none
noncomputable def wrap_bit_B (t : GType) (i : Int) : Option Bool :=
  bnd (tshr .i64 t.musts i) fun y2 =>
  some ((bits .and .i64 y2 1) == 1)
def wrap_bit_ds : Decs := { decs := [(8, (.int .i64))], loops := [] }
set_option maxRecDepth 100000 in
theorem wrap_bit_t1 (O : Orc) (LP : LBody → LBody) (t : GType) (i : Int) : evalBodyD Try.prog (MT 35) wrap_bit_ds Try.f35.ntmps O LP Try.f35 [(.agg [(.str t.name), (.int .i64 t.lists), (.int .i64 t.musts)]), (.int .i64 i)] [] = wrap_bit_T1 O LP t i := by kernel_rfl
theorem wrap_bit_imp (t : GType) (i : Int) : Imp (wrap_bit_B t i) (wrap_bit_T1 O loopLim t i) (fun r v => v = (wrap_bitE r, [])) := by
  simp only [wrap_bit_B, wrap_bit_T1]
  try simp only [evs, tys]
  refine Imp.op (f := fun a => .int _ a) (fun a h => op_shr h) (fun a => rfl) fun y2 hy2 => ?_
  try simp only [evs, tys]
  exact Imp.some (by first | rfl | simp only [wrap_bitE, evs, tys, evl])
theorem wrap_bit_run {t : GType} {i : Int} {r : Bool} (h : wrap_bit_B t i = some r) : wrap_bit t i = some r := by
  obtain ⟨v, hv, rfl⟩ := wrap_bit_imp t i r h
  exact tO_of (pair_inj wrap_bitEj) (OL_runD wrap_bit_ds rfl Try.func35 ((wrap_bit_t1 _ _ t i).trans hv))

def seineref1_RightType_T1 (O : Orc) (LP : LBody → LBody) (t : GType) : Option (PV × UP) :=
  callp O 40 [(.str t.name)] fun x1 => cnd (chk .bool x1)
  (cnd (boolV x1)
   (cnd (decide (t.lists ≥ 0))
    (cnd (decide (t.lists ≤ 4))
     (cnd (decide (t.musts ≥ 0))
      (bnd (bin .shl (.int .i64 2) (.int .u64 (IntKind.wrap .u64 t.lists))) fun x3 => cnd (chk (.int .i64) x3)
      (some ((.bool (decide (t.musts < (intV x3)))), [])) none)
      (some ((.bool false), [])))
     (some ((.bool false), [])))
    (some ((.bool false), [])))
   (some ((.bool false), []))) none
noncomputable def seineref1_RightType_B (t : GType) : Option Bool :=
  bnd (seineref1_Name t.name) fun y2 =>
  cnd y2
   (cnd (decide (t.lists ≥ 0))
    (cnd (decide (t.lists ≤ 4))
     (cnd (decide (t.musts ≥ 0))
      (bnd (tshl .i64 2 (IntKind.wrap .u64 t.lists)) fun y4 =>
      some (decide (t.musts < y4)))
      (some false))
     (some false))
    (some false))
   (some false)
def seineref1_RightType_ds : Decs := { decs := [(5, .bool), (27, (.int .i64))], loops := [] }
set_option maxRecDepth 100000 in
theorem seineref1_RightType_t1 (O : Orc) (LP : LBody → LBody) (t : GType) : evalBodyD Try.prog (MT 36) seineref1_RightType_ds Try.f36.ntmps O LP Try.f36 [(.agg [(.str t.name), (.int .i64 t.lists), (.int .i64 t.musts)])] [] = seineref1_RightType_T1 O LP t := by kernel_rfl
theorem seineref1_RightType_imp (t : GType) : Imp (seineref1_RightType_B t) (seineref1_RightType_T1 O loopLim t) (fun r v => v = (seineref1_RightTypeE r, [])) := by
  simp only [seineref1_RightType_B, seineref1_RightType_T1]
  try simp only [evs, tys]
  refine Imp.call (f := seineref1_NameE) rfl (fun a h => by first | exact seineref1_Name_spec h | simpa only [evs, tys, evl] using seineref1_Name_spec h) (fun a => by first | rfl | simp only [seineref1_NameE, evk, chks]) fun y2 hy2 => ?_
  try simp only [seineref1_NameE, evs, tys]
  refine Imp.cnd ?_ ?_
  · refine Imp.cnd ?_ ?_
    · refine Imp.cnd ?_ ?_
      · refine Imp.cnd ?_ ?_
        · refine Imp.op (f := fun a => .int _ a) (fun a h => op_shl h) (fun a => rfl) fun y4 hy4 => ?_
          try simp only [evs, tys]
          exact Imp.some (by first | rfl | simp only [seineref1_RightTypeE, evs, tys, evl])
        · exact Imp.some (by first | rfl | simp only [seineref1_RightTypeE, evs, tys, evl])
      · exact Imp.some (by first | rfl | simp only [seineref1_RightTypeE, evs, tys, evl])
    · exact Imp.some (by first | rfl | simp only [seineref1_RightTypeE, evs, tys, evl])
  · exact Imp.some (by first | rfl | simp only [seineref1_RightTypeE, evs, tys, evl])
theorem seineref1_RightType_run {t : GType} {r : Bool} (h : seineref1_RightType_B t = some r) : seineref1_RightType t = some r := by
  obtain ⟨v, hv, rfl⟩ := seineref1_RightType_imp t r h
  exact tO_of (pair_inj seineref1_RightTypeEj) (OL_runD seineref1_RightType_ds rfl Try.func36 ((seineref1_RightType_t1 _ _ t).trans hv))

def letters_Letter_T1 (O : Orc) (LP : LBody → LBody) (c : Int) : Option (PV × UP) :=
  cnd (decide (c ≥ 97))
   (cnd (decide (c ≤ 122))
    (some ((.bool true), []))
    (cnd (decide (c ≥ 65))
     (cnd (decide (c ≤ 90))
      (some ((.bool true), []))
      (some ((.bool (c == 95)), [])))
     (some ((.bool (c == 95)), []))))
   (cnd (decide (c ≥ 65))
    (cnd (decide (c ≤ 90))
     (some ((.bool true), []))
     (some ((.bool (c == 95)), [])))
    (some ((.bool (c == 95)), [])))
noncomputable def letters_Letter_B (c : Int) : Option Bool :=
  cnd (decide (c ≥ 97))
   (cnd (decide (c ≤ 122))
    (some true)
    (cnd (decide (c ≥ 65))
     (cnd (decide (c ≤ 90))
      (some true)
      (some (c == 95)))
     (some (c == 95))))
   (cnd (decide (c ≥ 65))
    (cnd (decide (c ≤ 90))
     (some true)
     (some (c == 95)))
    (some (c == 95)))
def letters_Letter_ds : Decs := { decs := [], loops := [] }
set_option maxRecDepth 100000 in
theorem letters_Letter_t1 (O : Orc) (LP : LBody → LBody) (c : Int) : evalBodyD Try.prog (MT 37) letters_Letter_ds Try.f37.ntmps O LP Try.f37 [(.int .u8 c)] [] = letters_Letter_T1 O LP c := by kernel_rfl
theorem letters_Letter_imp (c : Int) : Imp (letters_Letter_B c) (letters_Letter_T1 O loopLim c) (fun r v => v = (letters_LetterE r, [])) := by
  simp only [letters_Letter_B, letters_Letter_T1]
  try simp only [evs, tys]
  refine Imp.cnd ?_ ?_
  · refine Imp.cnd ?_ ?_
    · exact Imp.some (by first | rfl | simp only [letters_LetterE, evs, tys, evl])
    · refine Imp.cnd ?_ ?_
      · refine Imp.cnd ?_ ?_
        · exact Imp.some (by first | rfl | simp only [letters_LetterE, evs, tys, evl])
        · exact Imp.some (by first | rfl | simp only [letters_LetterE, evs, tys, evl])
      · exact Imp.some (by first | rfl | simp only [letters_LetterE, evs, tys, evl])
  · refine Imp.cnd ?_ ?_
    · refine Imp.cnd ?_ ?_
      · exact Imp.some (by first | rfl | simp only [letters_LetterE, evs, tys, evl])
      · exact Imp.some (by first | rfl | simp only [letters_LetterE, evs, tys, evl])
    · exact Imp.some (by first | rfl | simp only [letters_LetterE, evs, tys, evl])
theorem letters_Letter_run {c : Int} {r : Bool} (h : letters_Letter_B c = some r) : letters_Letter c = some r := by
  obtain ⟨v, hv, rfl⟩ := letters_Letter_imp c r h
  exact tO_of (pair_inj letters_LetterEj) (OL_runD letters_Letter_ds rfl Try.func37 ((letters_Letter_t1 _ _ c).trans hv))

def letters_Digit_T1 (O : Orc) (LP : LBody → LBody) (c : Int) : Option (PV × UP) :=
  cnd (decide (c ≥ 48))
   (some ((.bool (decide (c ≤ 57))), []))
   (some ((.bool false), []))
noncomputable def letters_Digit_B (c : Int) : Option Bool :=
  cnd (decide (c ≥ 48))
   (some (decide (c ≤ 57)))
   (some false)
def letters_Digit_ds : Decs := { decs := [], loops := [] }
set_option maxRecDepth 100000 in
theorem letters_Digit_t1 (O : Orc) (LP : LBody → LBody) (c : Int) : evalBodyD Try.prog (MT 38) letters_Digit_ds Try.f38.ntmps O LP Try.f38 [(.int .u8 c)] [] = letters_Digit_T1 O LP c := by kernel_rfl
theorem letters_Digit_imp (c : Int) : Imp (letters_Digit_B c) (letters_Digit_T1 O loopLim c) (fun r v => v = (letters_DigitE r, [])) := by
  simp only [letters_Digit_B, letters_Digit_T1]
  try simp only [evs, tys]
  refine Imp.cnd ?_ ?_
  · exact Imp.some (by first | rfl | simp only [letters_DigitE, evs, tys, evl])
  · exact Imp.some (by first | rfl | simp only [letters_DigitE, evs, tys, evl])
theorem letters_Digit_run {c : Int} {r : Bool} (h : letters_Digit_B c = some r) : letters_Digit c = some r := by
  obtain ⟨v, hv, rfl⟩ := letters_Digit_imp c r h
  exact tO_of (pair_inj letters_DigitEj) (OL_runD letters_Digit_ds rfl Try.func38 ((letters_Digit_t1 _ _ c).trans hv))

def tree_key_T1 (O : Orc) (LP : LBody → LBody) (n : GNode) (i : Int) : Option (PV × UP) :=
  cnd (decide (i < (List.length (List.map PV.str n.keys) : Int)))
   (bnd (ix 1 (.slice (List.map PV.str n.keys) [] false) (.int .i64 i)) fun x1 => cnd (chk (.ref .str) x1)
   (some ((.str (strV (refV x1))), [])) none)
   (some ((.str []), []))
noncomputable def tree_key_B (n : GNode) (i : Int) : Option Str :=
  cnd (decide (i < (List.length n.keys : Int)))
   (bnd (nthI n.keys i) fun y2 =>
   some y2)
   (some [])
def tree_key_ds : Decs := { decs := [(13, (.ref .str))], loops := [] }
set_option maxRecDepth 100000 in
theorem tree_key_t1 (O : Orc) (LP : LBody → LBody) (n : GNode) (i : Int) : evalBodyD Try.prog (MT 39) tree_key_ds Try.f39.ntmps O LP Try.f39 [(.agg [(.int .i64 n.kind), (.bool n.must), (.int .i64 n.v.kind), (.int .i64 n.v.n), (.str n.v.s), (.slice (List.map encValue n.v.l) [] false), (.slice (List.map encMember n.v.m) [] false), (.slice (List.map PV.str n.keys) [] false), (.slice (List.map encNode n.l) [] false)]), (.int .i64 i)] [] = tree_key_T1 O LP n i := by kernel_rfl
theorem tree_key_imp (n : GNode) (i : Int) : Imp (tree_key_B n i) (tree_key_T1 O loopLim n i) (fun r v => v = (tree_keyE r, [])) := by
  simp only [tree_key_B, tree_key_T1]
  try simp only [evs, tys]
  refine Imp.cnd ?_ ?_
  · refine Imp.op (f := fun a => .ref (PV.str a)) (fun a h => op_ix (enc := PV.str) (by first | rfl | simp only [evs, tys, evl]) ⟨by first | rfl | simp only [evs, tys, evc], by decide⟩ h) (fun a => rfl) fun y2 hy2 => ?_
    try simp only [evs, tys]
    exact Imp.some (by first | rfl | simp only [tree_keyE, evs, tys, evl])
  · exact Imp.some (by first | rfl | simp only [tree_keyE, evs, tys, evl])
theorem tree_key_run {n : GNode} {i : Int} {r : Str} (h : tree_key_B n i = some r) : tree_key n i = some r := by
  obtain ⟨v, hv, rfl⟩ := tree_key_imp n i r h
  exact tO_of (pair_inj tree_keyEj) (OL_runD tree_key_ds rfl Try.func39 ((tree_key_t1 _ _ n i).trans hv))
end Go.Proofs.Ytoddajoeiamidaa

/- Printed by symgen.py: typed functions of this seat, and why they tell what the program does. -/
set_option linter.unusedVariables false
set_option linter.unusedSimpArgs false
open Go Go.Ev Go.Ev.PV
namespace Go.Proofs.Ytoddajoeiamidaa
def seineref1_Name_l1 (O : Orc) (LP : LBody → LBody) : LBody := fun s5 s5u => cnd (chkL [.str, .bool, (.int .i64)] s5) (cnd (chkU [] s5u)
  (cnd (decide ((intV (gt s5 2)) < (List.length (strV (gt s5 0)) : Int)))
   (bnd (ixStr (.str (strV (gt s5 0))) (.int .i64 (intV (gt s5 2)))) fun x15 => cnd (chk (.int .u8) x15)
   (callp O 41 [(.int .u8 (intV x15))] fun x17 => cnd (chk .bool x17)
   (cnd (!(boolV x17))
    (bnd (ixStr (.str (strV (gt s5 0))) (.int .i64 (intV (gt s5 2)))) fun x19 => cnd (chk (.int .u8) x19)
    (callp O 42 [(.int .u8 (intV x19))] fun x21 => cnd (chk .bool x21)
    (cnd (!(boolV x21))
     (some (.ret, [(.str (strV (gt s5 0))), (.bool false), (.int .i64 (intV (gt s5 2)))], []))
     (some (.nrm, [(.str (strV (gt s5 0))), (.bool (boolV (gt s5 1))), (.int .i64 (IntKind.wrap .i64 ((intV (gt s5 2)) + 1)))], []))) none) none)
    (some (.nrm, [(.str (strV (gt s5 0))), (.bool (boolV (gt s5 1))), (.int .i64 (IntKind.wrap .i64 ((intV (gt s5 2)) + 1)))], []))) none) none)
   (some (.brk 0, [(.str (strV (gt s5 0))), (.bool (boolV (gt s5 1))), (.int .i64 (intV (gt s5 2)))], []))) none) none
def seineref1_Name_T1 (O : Orc) (LP : LBody → LBody) (s : Str) : Option (PV × UP) :=
  cnd (s == ([] : Str))
   (some ((.bool false), []))
   (bnd (ixStr (.str s) (.int .i64 0)) fun x1 => cnd (chk (.int .u8) x1)
   (callp O 41 [(.int .u8 (intV x1))] fun x3 => cnd (chk .bool x3)
   (cnd (!(boolV x3))
    (some ((.bool false), []))
    (bnd (LP (seineref1_Name_l1 O LP) [(.str s), (.bool false), (.int .i64 1)] []) fun y25 =>
    exIs y25.1 (some 0) (cnd (chkL [.str, .bool, (.int .i64)] y25.2.1) (cnd (chkU [] y25.2.2)
     (some ((.bool true), [])) none) none)
    (exIs y25.1 none (cnd (chkL [.str, .bool, (.int .i64)] y25.2.1) (cnd (chkU [] y25.2.2)
     (some ((.bool (boolV (gt y25.2.1 1))), [])) none) none)
    (none)))) none) none)
noncomputable def seineref1_Name_l1T (s : Str) : Int → Option (Int ⊕ (Unit ⊕ Unit))
  | i_14 =>
  cnd (decide (i_14 < (List.length s : Int)))
   (bnd (nthI s i_14) fun y16 =>
   bnd (seineref1_start (y16.toNat : Int)) fun y18 =>
   cnd (!y18)
    (bnd (nthI s i_14) fun y20 =>
    bnd (seineref1_digit (y20.toNat : Int)) fun y22 =>
    cnd (!y22)
     (some (.inr (.inr ())))
     (some (.inl (IntKind.wrap .i64 (i_14 + 1)))))
    (some (.inl (IntKind.wrap .i64 (i_14 + 1)))))
   (some (.inr (.inl ())))
abbrev seineref1_Name_l1R (s : Str) (st : Int) (l : List PV) (u : UP) : Prop := l = [(.str s), (.bool false), (.int .i64 st)] ∧ u = []
abbrev seineref1_Name_l1X (s : Str) (p : Unit ⊕ Unit) (r : Ex × List PV × UP) : Prop := elim p (fun (p : Unit) => ∃ (i_23 : Int), r = (Ex.brk 0, [(.str s), (.bool false), (.int .i64 i_23)], [])) (fun q2 => (fun (p : Unit) => ∃ (i_24 : Int), r = (Ex.ret, [(.str s), (.bool false), (.int .i64 i_24)], [])) q2)
noncomputable def seineref1_Name_B (s : Str) : Option Bool :=
  cnd (s == ([] : Str))
   (some false)
   (bnd (nthI s 0) fun y2 =>
   bnd (seineref1_start (y2.toNat : Int)) fun y4 =>
   cnd (!y4)
    (some false)
    (bnd (tloop (seineref1_Name_l1T s) 1) fun e25_2 => elim e25_2
    (fun p25 =>
     some true)
    (fun p25 =>
    some false)))
def seineref1_Name_ds : Decs := { decs := [(8, (.int .u8)), (9, .bool), (20, (.int .u8)), (21, .bool), (26, (.int .u8)), (27, .bool)], loops := [(4, ⟨[.str, .bool, (.int .i64)], [], [(some 0, [.str, .bool, (.int .i64)], []), (none, [.str, .bool, (.int .i64)], [])]⟩)] }
set_option maxRecDepth 100000 in
theorem seineref1_Name_t1 (O : Orc) (LP : LBody → LBody) (s : Str) : evalBodyD Try.prog (MT 40) seineref1_Name_ds Try.f40.ntmps O LP Try.f40 [(.str s)] [] = seineref1_Name_T1 O LP s := by kernel_rfl
theorem seineref1_Name_l1_ok (s : Str) : ∀ st l u, seineref1_Name_l1R s st l u → Imp (seineref1_Name_l1T s st) (seineref1_Name_l1 O loopLim l u) (StepR (seineref1_Name_l1R s) (seineref1_Name_l1X s)) := by
  rintro i_14 l u ⟨rfl, rfl⟩
  simp only [seineref1_Name_l1T, seineref1_Name_l1]
  refine Imp.chk rfl (Imp.chk rfl ?_)
  try simp only [evs, tys]
  refine Imp.cnd ?_ ?_
  · refine Imp.op (f := fun a => .int .u8 (a.toNat : Int)) (fun a h => op_ixStr h) (fun a => rfl) fun y16 hy16 => ?_
    try simp only [evs, tys]
    refine Imp.call (f := seineref1_startE) rfl (fun a h => by first | exact seineref1_start_spec h | simpa only [evs, tys, evl] using seineref1_start_spec h) (fun a => by first | rfl | simp only [seineref1_startE, evk, chks]) fun y18 hy18 => ?_
    try simp only [seineref1_startE, evs, tys]
    refine Imp.cnd ?_ ?_
    · refine Imp.op (f := fun a => .int .u8 (a.toNat : Int)) (fun a h => op_ixStr h) (fun a => rfl) fun y20 hy20 => ?_
      try simp only [evs, tys]
      refine Imp.call (f := seineref1_digitE) rfl (fun a h => by first | exact seineref1_digit_spec h | simpa only [evs, tys, evl] using seineref1_digit_spec h) (fun a => by first | rfl | simp only [seineref1_digitE, evk, chks]) fun y22 hy22 => ?_
      try simp only [seineref1_digitE, evs, tys]
      refine Imp.cnd ?_ ?_
      · exact Imp.some (StepR.ret ⟨i_14, by first | rfl | simp only [evs, tys, evl, elim_inl, elim_inr]⟩)
      · exact Imp.some (StepR.next ⟨by first | rfl | simp only [evs, tys, evl], rfl⟩)
    · exact Imp.some (StepR.next ⟨by first | rfl | simp only [evs, tys, evl], rfl⟩)
  · exact Imp.some (StepR.brk ⟨i_14, by first | rfl | simp only [evs, tys, evl, elim_inl, elim_inr]⟩)
theorem seineref1_Name_imp (s : Str) : Imp (seineref1_Name_B s) (seineref1_Name_T1 O loopLim s) (fun r v => v = (seineref1_NameE r, [])) := by
  simp only [seineref1_Name_B, seineref1_Name_T1]
  try simp only [evs, tys]
  refine Imp.cnd ?_ ?_
  · exact Imp.some (by first | rfl | simp only [seineref1_NameE, evs, tys, evl])
  · refine Imp.op (f := fun a => .int .u8 (a.toNat : Int)) (fun a h => op_ixStr h) (fun a => rfl) fun y2 hy2 => ?_
    try simp only [evs, tys]
    refine Imp.call (f := seineref1_startE) rfl (fun a h => by first | exact seineref1_start_spec h | simpa only [evs, tys, evl] using seineref1_start_spec h) (fun a => by first | rfl | simp only [seineref1_startE, evk, chks]) fun y4 hy4 => ?_
    try simp only [seineref1_startE, evs, tys]
    refine Imp.cnd ?_ ?_
    · exact Imp.some (by first | rfl | simp only [seineref1_NameE, evs, tys, evl])
    · refine Imp.bnd (Imp.loop (seineref1_Name_l1_ok s) ⟨by first | rfl | simp only [evs, tys, evl], rfl⟩) ?_
      rintro (p | p) vy25 hy25
      · try simp only [elim_inl, elim_inr]
        obtain ⟨i_23, rfl⟩ := hy25
        refine Imp.exHit rfl (Imp.chk rfl (Imp.chk rfl ?_))
        try simp only [evs, tys]
        exact Imp.some (by first | rfl | simp only [seineref1_NameE, evs, tys, evl])
      · try simp only [elim_inl, elim_inr]
        obtain ⟨i_24, rfl⟩ := hy25
        refine Imp.exMiss rfl ?_
        refine Imp.exHit rfl (Imp.chk rfl (Imp.chk rfl ?_))
        try simp only [evs, tys]
        exact Imp.some (by first | rfl | simp only [seineref1_NameE, evs, tys, evl])
theorem seineref1_Name_run {s : Str} {r : Bool} (h : seineref1_Name_B s = some r) : seineref1_Name s = some r := by
  obtain ⟨v, hv, rfl⟩ := seineref1_Name_imp s r h
  exact tO_of (pair_inj seineref1_NameEj) (OL_runD seineref1_Name_ds rfl Try.func40 ((seineref1_Name_t1 _ _ s).trans hv))

def seineref1_start_T1 (O : Orc) (LP : LBody → LBody) (c : Int) : Option (PV × UP) :=
  cnd (decide (c ≥ 97))
   (cnd (decide (c ≤ 122))
    (some ((.bool true), []))
    (cnd (decide (c ≥ 65))
     (cnd (decide (c ≤ 90))
      (some ((.bool true), []))
      (some ((.bool (c == 95)), [])))
     (some ((.bool (c == 95)), []))))
   (cnd (decide (c ≥ 65))
    (cnd (decide (c ≤ 90))
     (some ((.bool true), []))
     (some ((.bool (c == 95)), [])))
    (some ((.bool (c == 95)), [])))
noncomputable def seineref1_start_B (c : Int) : Option Bool :=
  cnd (decide (c ≥ 97))
   (cnd (decide (c ≤ 122))
    (some true)
    (cnd (decide (c ≥ 65))
     (cnd (decide (c ≤ 90))
      (some true)
      (some (c == 95)))
     (some (c == 95))))
   (cnd (decide (c ≥ 65))
    (cnd (decide (c ≤ 90))
     (some true)
     (some (c == 95)))
    (some (c == 95)))
def seineref1_start_ds : Decs := { decs := [], loops := [] }
set_option maxRecDepth 100000 in
theorem seineref1_start_t1 (O : Orc) (LP : LBody → LBody) (c : Int) : evalBodyD Try.prog (MT 41) seineref1_start_ds Try.f41.ntmps O LP Try.f41 [(.int .u8 c)] [] = seineref1_start_T1 O LP c := by kernel_rfl
theorem seineref1_start_imp (c : Int) : Imp (seineref1_start_B c) (seineref1_start_T1 O loopLim c) (fun r v => v = (seineref1_startE r, [])) := by
  simp only [seineref1_start_B, seineref1_start_T1]
  try simp only [evs, tys]
  refine Imp.cnd ?_ ?_
  · refine Imp.cnd ?_ ?_
    · exact Imp.some (by first | rfl | simp only [seineref1_startE, evs, tys, evl])
    · refine Imp.cnd ?_ ?_
      · refine Imp.cnd ?_ ?_
        · exact Imp.some (by first | rfl | simp only [seineref1_startE, evs, tys, evl])
        · exact Imp.some (by first | rfl | simp only [seineref1_startE, evs, tys, evl])
      · exact Imp.some (by first | rfl | simp only [seineref1_startE, evs, tys, evl])
  · refine Imp.cnd ?_ ?_
    · refine Imp.cnd ?_ ?_
      · exact Imp.some (by first | rfl | simp only [seineref1_startE, evs, tys, evl])
      · exact Imp.some (by first | rfl | simp only [seineref1_startE, evs, tys, evl])
    · exact Imp.some (by first | rfl | simp only [seineref1_startE, evs, tys, evl])
theorem seineref1_start_run {c : Int} {r : Bool} (h : seineref1_start_B c = some r) : seineref1_start c = some r := by
  obtain ⟨v, hv, rfl⟩ := seineref1_start_imp c r h
  exact tO_of (pair_inj seineref1_startEj) (OL_runD seineref1_start_ds rfl Try.func41 ((seineref1_start_t1 _ _ c).trans hv))

def seineref1_digit_T1 (O : Orc) (LP : LBody → LBody) (c : Int) : Option (PV × UP) :=
  cnd (decide (c ≥ 48))
   (some ((.bool (decide (c ≤ 57))), []))
   (some ((.bool false), []))
noncomputable def seineref1_digit_B (c : Int) : Option Bool :=
  cnd (decide (c ≥ 48))
   (some (decide (c ≤ 57)))
   (some false)
def seineref1_digit_ds : Decs := { decs := [], loops := [] }
set_option maxRecDepth 100000 in
theorem seineref1_digit_t1 (O : Orc) (LP : LBody → LBody) (c : Int) : evalBodyD Try.prog (MT 42) seineref1_digit_ds Try.f42.ntmps O LP Try.f42 [(.int .u8 c)] [] = seineref1_digit_T1 O LP c := by kernel_rfl
theorem seineref1_digit_imp (c : Int) : Imp (seineref1_digit_B c) (seineref1_digit_T1 O loopLim c) (fun r v => v = (seineref1_digitE r, [])) := by
  simp only [seineref1_digit_B, seineref1_digit_T1]
  try simp only [evs, tys]
  refine Imp.cnd ?_ ?_
  · exact Imp.some (by first | rfl | simp only [seineref1_digitE, evs, tys, evl])
  · exact Imp.some (by first | rfl | simp only [seineref1_digitE, evs, tys, evl])
theorem seineref1_digit_run {c : Int} {r : Bool} (h : seineref1_digit_B c = some r) : seineref1_digit c = some r := by
  obtain ⟨v, hv, rfl⟩ := seineref1_digit_imp c r h
  exact tO_of (pair_inj seineref1_digitEj) (OL_runD seineref1_digit_ds rfl Try.func42 ((seineref1_digit_t1 _ _ c).trans hv))
end Go.Proofs.Ytoddajoeiamidaa

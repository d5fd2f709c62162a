import Derived.Test.YteiccdhdfcbokaaGa
import Derived.Test.YteiccdhdfcbokaaGb
set_option linter.unusedVariables false
set_option linter.unusedSimpArgs false
/- Printed by symgen.py: typed functions of this seat, and why they tell what the program does. -/
set_option linter.unusedVariables false
set_option linter.unusedSimpArgs false
open Go Go.Ev Go.Ev.PV
namespace Go.Proofs.Yteiccdhdfcbokaa
def wrap_bit_T1 (O : Orc) (LP : LBody → LBody) (t : GType) (i : Int) : Option (PV × UP) :=
  bnd (bin .shr (.int .i64 t.musts) (.int .i64 i)) fun x1 => cnd (chk (.int .i64) x1)
  (some ((.bool ((bits .and .i64 (intV x1) 1) == 1)), [])) none
noncomputable def wrap_bit_B (t : GType) (i : Int) : Option Bool :=
  bnd (tshr .i64 t.musts i) fun y2 =>
  some ((bits .and .i64 y2 1) == 1)
def wrap_bit_ds : Decs := { decs := [(8, (.int .i64))], ups := [], loops := [] }
set_option maxRecDepth 100000 in
theorem wrap_bit_t1 (O : Orc) (LP : LBody → LBody) (t : GType) (i : Int) : evalBodyD Try.prog (MT 32) wrap_bit_ds Try.f32.ntmps O LP Try.f32 [(.agg [(.str t.name), (.int .i64 t.lists), (.int .i64 t.musts)]), (.int .i64 i)] [] = wrap_bit_T1 O LP t i := by kernel_rfl
theorem wrap_bit_imp (t : GType) (i : Int) : Imp (wrap_bit_B t i) (wrap_bit_T1 O loopLim t i) (fun r v => v = (wrap_bitE r, [])) := by
  simp only [wrap_bit_B, wrap_bit_T1]
  try simp only [evs, tys]
  refine Imp.op (f := fun a => .int _ a) (fun a h => op_shr h) (fun a => rfl) fun y2 hy2 => ?_
  try simp only [evs, tys]
  exact Imp.some (by first | rfl | simp only [wrap_bitE, evs, tys, evl])
theorem wrap_bit_run {t : GType} {i : Int} {r : Bool} (h : wrap_bit_B t i = some r) : wrap_bit t i = some r := by
  obtain ⟨v, hv, rfl⟩ := wrap_bit_imp t i r h
  exact tO_of (pair_inj wrap_bitEj) (OL_runD wrap_bit_ds rfl rfl Try.func32 ((wrap_bit_t1 _ _ t i).trans hv))

def seineref1_RightType_T1 (O : Orc) (LP : LBody → LBody) (t : GType) : Option (PV × UP) :=
  callp O 46 [(.str t.name)] fun x1 => cnd (chk .bool x1)
  (cnd (boolV x1)
   (cnd (decide (t.lists ≥ 0))
    (cnd (decide (t.lists ≤ 4))
     (cnd (decide (t.musts ≥ 0))
      (bnd (bin .shl (.int .i64 2) (.int .u64 (IntKind.wrap .u64 t.lists))) fun x3 => cnd (chk (.int .i64) x3)
      (some ((.bool (decide (t.musts < (intV x3)))), [])) none)
      (some ((.bool false), [])))
     (some ((.bool false), [])))
    (some ((.bool false), [])))
   (some ((.bool false), []))) none
noncomputable def seineref1_RightType_B (t : GType) : Option Bool :=
  bnd (seineref1_Name t.name) fun y2 =>
  cnd y2
   (cnd (decide (t.lists ≥ 0))
    (cnd (decide (t.lists ≤ 4))
     (cnd (decide (t.musts ≥ 0))
      (bnd (tshl .i64 2 (IntKind.wrap .u64 t.lists)) fun y4 =>
      some (decide (t.musts < y4)))
      (some false))
     (some false))
    (some false))
   (some false)
def seineref1_RightType_ds : Decs := { decs := [(5, .bool), (27, (.int .i64))], ups := [], loops := [] }
set_option maxRecDepth 100000 in
theorem seineref1_RightType_t1 (O : Orc) (LP : LBody → LBody) (t : GType) : evalBodyD Try.prog (MT 40) seineref1_RightType_ds Try.f40.ntmps O LP Try.f40 [(.agg [(.str t.name), (.int .i64 t.lists), (.int .i64 t.musts)])] [] = seineref1_RightType_T1 O LP t := by kernel_rfl
theorem seineref1_RightType_imp (t : GType) : Imp (seineref1_RightType_B t) (seineref1_RightType_T1 O loopLim t) (fun r v => v = (seineref1_RightTypeE r, [])) := by
  simp only [seineref1_RightType_B, seineref1_RightType_T1]
  try simp only [evs, tys]
  refine Imp.call (f := seineref1_NameE) rfl (fun a h => by first | exact seineref1_Name_spec h | simpa only [evs, tys, evl] using seineref1_Name_spec h) (fun a => by first | rfl | simp only [seineref1_NameE, evk, chks]) fun y2 hy2 => ?_
  try simp only [seineref1_NameE, evs, tys]
  refine Imp.cnd ?_ ?_
  · refine Imp.cnd ?_ ?_
    · refine Imp.cnd ?_ ?_
      · refine Imp.cnd ?_ ?_
        · refine Imp.op (f := fun a => .int _ a) (fun a h => op_shl h) (fun a => rfl) fun y4 hy4 => ?_
          try simp only [evs, tys]
          exact Imp.some (by first | rfl | simp only [seineref1_RightTypeE, evs, tys, evl])
        · exact Imp.some (by first | rfl | simp only [seineref1_RightTypeE, evs, tys, evl])
      · exact Imp.some (by first | rfl | simp only [seineref1_RightTypeE, evs, tys, evl])
    · exact Imp.some (by first | rfl | simp only [seineref1_RightTypeE, evs, tys, evl])
  · exact Imp.some (by first | rfl | simp only [seineref1_RightTypeE, evs, tys, evl])
theorem seineref1_RightType_run {t : GType} {r : Bool} (h : seineref1_RightType_B t = some r) : seineref1_RightType t = some r := by
  obtain ⟨v, hv, rfl⟩ := seineref1_RightType_imp t r h
  exact tO_of (pair_inj seineref1_RightTypeEj) (OL_runD seineref1_RightType_ds rfl rfl Try.func40 ((seineref1_RightType_t1 _ _ t).trans hv))

def letters_Name_l1 (O : Orc) (LP : LBody → LBody) : LBody := fun s1 s1u => cnd (chkL [.str, .bool, (.int .i64), (.int .i64)] s1) (cnd (chkU [] s1u)
  (cnd (decide ((intV (gt s1 3)) < (intV (gt s1 2))))
   (bnd (ixStr (.str (strV (gt s1 0))) (.int .i64 (intV (gt s1 3)))) fun x11 => cnd (chk (.int .u8) x11)
   (callp O 47 [(.int .u8 (intV x11))] fun x13 => cnd (chk .bool x13)
   (cnd (!(boolV x13))
    (cnd ((intV (gt s1 3)) == 0)
     (some (.ret, [(.str (strV (gt s1 0))), (.bool false), (.int .i64 (intV (gt s1 2))), (.int .i64 (intV (gt s1 3)))], []))
     (bnd (ixStr (.str (strV (gt s1 0))) (.int .i64 (intV (gt s1 3)))) fun x15 => cnd (chk (.int .u8) x15)
     (callp O 48 [(.int .u8 (intV x15))] fun x17 => cnd (chk .bool x17)
     (cnd (!(boolV x17))
      (some (.ret, [(.str (strV (gt s1 0))), (.bool false), (.int .i64 (intV (gt s1 2))), (.int .i64 (intV (gt s1 3)))], []))
      (some (.nrm, [(.str (strV (gt s1 0))), (.bool (boolV (gt s1 1))), (.int .i64 (intV (gt s1 2))), (.int .i64 (IntKind.wrap .i64 ((intV (gt s1 3)) + 1)))], []))) none) none))
    (some (.nrm, [(.str (strV (gt s1 0))), (.bool (boolV (gt s1 1))), (.int .i64 (intV (gt s1 2))), (.int .i64 (IntKind.wrap .i64 ((intV (gt s1 3)) + 1)))], []))) none) none)
   (some (.brk 0, [(.str (strV (gt s1 0))), (.bool (boolV (gt s1 1))), (.int .i64 (intV (gt s1 2))), (.int .i64 (intV (gt s1 3)))], []))) none) none
def letters_Name_T1 (O : Orc) (LP : LBody → LBody) (s : Str) : Option (PV × UP) :=
  bnd (LP (letters_Name_l1 O LP) [(.str s), (.bool false), (.int .i64 (List.length s : Int)), (.int .i64 0)] []) fun y21 =>
  exIs y21.1 (some 0) (cnd (chkL [.str, .bool, (.int .i64), (.int .i64)] y21.2.1) (cnd (chkU [] y21.2.2)
   (some ((.bool (!((strV (gt y21.2.1 0)) == ([] : Str)))), [])) none) none)
  (exIs y21.1 none (cnd (chkL [.str, .bool, (.int .i64), (.int .i64)] y21.2.1) (cnd (chkU [] y21.2.2)
   (some ((.bool (boolV (gt y21.2.1 1))), [])) none) none)
  (none))
noncomputable def letters_Name_l1T (s : Str) : Int → Option (Int ⊕ (Unit ⊕ Unit))
  | t_10 =>
  cnd (decide (t_10 < (List.length s : Int)))
   (bnd (nthI s t_10) fun y12 =>
   bnd (letters_Letter (y12.toNat : Int)) fun y14 =>
   cnd (!y14)
    (cnd (t_10 == 0)
     (some (.inr (.inr ())))
     (bnd (nthI s t_10) fun y16 =>
     bnd (letters_Digit (y16.toNat : Int)) fun y18 =>
     cnd (!y18)
      (some (.inr (.inr ())))
      (some (.inl (IntKind.wrap .i64 (t_10 + 1))))))
    (some (.inl (IntKind.wrap .i64 (t_10 + 1)))))
   (some (.inr (.inl ())))
abbrev letters_Name_l1R (s : Str) (st : Int) (l : List PV) (u : UP) : Prop := l = [(.str s), (.bool false), (.int .i64 (List.length s : Int)), (.int .i64 st)] ∧ u = []
abbrev letters_Name_l1X (s : Str) (p : Unit ⊕ Unit) (r : Ex × List PV × UP) : Prop := elim p (fun (p : Unit) => ∃ (t_19 : Int), r = (Ex.brk 0, [(.str s), (.bool false), (.int .i64 (List.length s : Int)), (.int .i64 t_19)], [])) (fun q2 => (fun (p : Unit) => ∃ (t_20 : Int), r = (Ex.ret, [(.str s), (.bool false), (.int .i64 (List.length s : Int)), (.int .i64 t_20)], [])) q2)
noncomputable def letters_Name_B (s : Str) : Option Bool :=
  bnd (tloop (letters_Name_l1T s) 0) fun e21_2 => elim e21_2
  (fun p21 =>
   some (!(s == ([] : Str))))
  (fun p21 =>
  some false)
def letters_Name_ds : Decs := { decs := [(11, (.int .u8)), (12, .bool), (20, (.int .u8)), (21, .bool)], ups := [], loops := [(2, [], ⟨[.str, .bool, (.int .i64), (.int .i64)], [], [(some 0, [.str, .bool, (.int .i64), (.int .i64)], []), (none, [.str, .bool, (.int .i64), (.int .i64)], [])]⟩)] }
set_option maxRecDepth 100000 in
theorem letters_Name_t1 (O : Orc) (LP : LBody → LBody) (s : Str) : evalBodyD Try.prog (MT 41) letters_Name_ds Try.f41.ntmps O LP Try.f41 [(.str s)] [] = letters_Name_T1 O LP s := by kernel_rfl
theorem letters_Name_l1_ok (s : Str) : ∀ st l u, letters_Name_l1R s st l u → Imp (letters_Name_l1T s st) (letters_Name_l1 O loopLim l u) (StepR (letters_Name_l1R s) (letters_Name_l1X s)) := by
  rintro t_10 l u ⟨rfl, rfl⟩
  simp only [letters_Name_l1T, letters_Name_l1]
  refine Imp.chk rfl (Imp.chk rfl ?_)
  try simp only [evs, tys]
  refine Imp.cnd ?_ ?_
  · refine Imp.op (f := fun a => .int .u8 (a.toNat : Int)) (fun a h => op_ixStr h) (fun a => rfl) fun y12 hy12 => ?_
    try simp only [evs, tys]
    refine Imp.call (f := letters_LetterE) rfl (fun a h => by first | exact letters_Letter_spec h | simpa only [evs, tys, evl] using letters_Letter_spec h) (fun a => by first | rfl | simp only [letters_LetterE, evk, chks]) fun y14 hy14 => ?_
    try simp only [letters_LetterE, evs, tys]
    refine Imp.cnd ?_ ?_
    · refine Imp.cnd ?_ ?_
      · exact Imp.some (StepR.ret ⟨t_10, by first | rfl | simp only [evs, tys, evl, elim_inl, elim_inr]⟩)
      · refine Imp.op (f := fun a => .int .u8 (a.toNat : Int)) (fun a h => op_ixStr h) (fun a => rfl) fun y16 hy16 => ?_
        try simp only [evs, tys]
        refine Imp.call (f := letters_DigitE) rfl (fun a h => by first | exact letters_Digit_spec h | simpa only [evs, tys, evl] using letters_Digit_spec h) (fun a => by first | rfl | simp only [letters_DigitE, evk, chks]) fun y18 hy18 => ?_
        try simp only [letters_DigitE, evs, tys]
        refine Imp.cnd ?_ ?_
        · exact Imp.some (StepR.ret ⟨t_10, by first | rfl | simp only [evs, tys, evl, elim_inl, elim_inr]⟩)
        · exact Imp.some (StepR.next ⟨by first | rfl | simp only [evs, tys, evl], rfl⟩)
    · exact Imp.some (StepR.next ⟨by first | rfl | simp only [evs, tys, evl], rfl⟩)
  · exact Imp.some (StepR.brk ⟨t_10, by first | rfl | simp only [evs, tys, evl, elim_inl, elim_inr]⟩)
theorem letters_Name_imp (s : Str) : Imp (letters_Name_B s) (letters_Name_T1 O loopLim s) (fun r v => v = (letters_NameE r, [])) := by
  simp only [letters_Name_B, letters_Name_T1]
  try simp only [evs, tys]
  refine Imp.bnd (Imp.loop (letters_Name_l1_ok s) ⟨by first | rfl | simp only [evs, tys, evl], rfl⟩) ?_
  rintro (p | p) vy21 hy21
  · try simp only [elim_inl, elim_inr]
    obtain ⟨t_19, rfl⟩ := hy21
    refine Imp.exHit rfl (Imp.chk rfl (Imp.chk rfl ?_))
    try simp only [evs, tys]
    exact Imp.some (by first | rfl | simp only [letters_NameE, evs, tys, evl])
  · try simp only [elim_inl, elim_inr]
    obtain ⟨t_20, rfl⟩ := hy21
    refine Imp.exMiss rfl ?_
    refine Imp.exHit rfl (Imp.chk rfl (Imp.chk rfl ?_))
    try simp only [evs, tys]
    exact Imp.some (by first | rfl | simp only [letters_NameE, evs, tys, evl])
theorem letters_Name_run {s : Str} {r : Bool} (h : letters_Name_B s = some r) : letters_Name s = some r := by
  obtain ⟨v, hv, rfl⟩ := letters_Name_imp s r h
  exact tO_of (pair_inj letters_NameEj) (OL_runD letters_Name_ds rfl rfl Try.func41 ((letters_Name_t1 _ _ s).trans hv))

def seineref1_Name_l1 (O : Orc) (LP : LBody → LBody) : LBody := fun s5 s5u => cnd (chkL [.str, .bool, (.int .i64)] s5) (cnd (chkU [] s5u)
  (cnd (decide ((intV (gt s5 2)) < (List.length (strV (gt s5 0)) : Int)))
   (bnd (ixStr (.str (strV (gt s5 0))) (.int .i64 (intV (gt s5 2)))) fun x15 => cnd (chk (.int .u8) x15)
   (callp O 56 [(.int .u8 (intV x15))] fun x17 => cnd (chk .bool x17)
   (cnd (!(boolV x17))
    (bnd (ixStr (.str (strV (gt s5 0))) (.int .i64 (intV (gt s5 2)))) fun x19 => cnd (chk (.int .u8) x19)
    (callp O 57 [(.int .u8 (intV x19))] fun x21 => cnd (chk .bool x21)
    (cnd (!(boolV x21))
     (some (.ret, [(.str (strV (gt s5 0))), (.bool false), (.int .i64 (intV (gt s5 2)))], []))
     (some (.nrm, [(.str (strV (gt s5 0))), (.bool (boolV (gt s5 1))), (.int .i64 (IntKind.wrap .i64 ((intV (gt s5 2)) + 1)))], []))) none) none)
    (some (.nrm, [(.str (strV (gt s5 0))), (.bool (boolV (gt s5 1))), (.int .i64 (IntKind.wrap .i64 ((intV (gt s5 2)) + 1)))], []))) none) none)
   (some (.brk 0, [(.str (strV (gt s5 0))), (.bool (boolV (gt s5 1))), (.int .i64 (intV (gt s5 2)))], []))) none) none
def seineref1_Name_T1 (O : Orc) (LP : LBody → LBody) (s : Str) : Option (PV × UP) :=
  cnd (s == ([] : Str))
   (some ((.bool false), []))
   (bnd (ixStr (.str s) (.int .i64 0)) fun x1 => cnd (chk (.int .u8) x1)
   (callp O 56 [(.int .u8 (intV x1))] fun x3 => cnd (chk .bool x3)
   (cnd (!(boolV x3))
    (some ((.bool false), []))
    (bnd (LP (seineref1_Name_l1 O LP) [(.str s), (.bool false), (.int .i64 1)] []) fun y25 =>
    exIs y25.1 (some 0) (cnd (chkL [.str, .bool, (.int .i64)] y25.2.1) (cnd (chkU [] y25.2.2)
     (some ((.bool true), [])) none) none)
    (exIs y25.1 none (cnd (chkL [.str, .bool, (.int .i64)] y25.2.1) (cnd (chkU [] y25.2.2)
     (some ((.bool (boolV (gt y25.2.1 1))), [])) none) none)
    (none)))) none) none)
noncomputable def seineref1_Name_l1T (s : Str) : Int → Option (Int ⊕ (Unit ⊕ Unit))
  | i_14 =>
  cnd (decide (i_14 < (List.length s : Int)))
   (bnd (nthI s i_14) fun y16 =>
   bnd (seineref1_start (y16.toNat : Int)) fun y18 =>
   cnd (!y18)
    (bnd (nthI s i_14) fun y20 =>
    bnd (seineref1_digit (y20.toNat : Int)) fun y22 =>
    cnd (!y22)
     (some (.inr (.inr ())))
     (some (.inl (IntKind.wrap .i64 (i_14 + 1)))))
    (some (.inl (IntKind.wrap .i64 (i_14 + 1)))))
   (some (.inr (.inl ())))
abbrev seineref1_Name_l1R (s : Str) (st : Int) (l : List PV) (u : UP) : Prop := l = [(.str s), (.bool false), (.int .i64 st)] ∧ u = []
abbrev seineref1_Name_l1X (s : Str) (p : Unit ⊕ Unit) (r : Ex × List PV × UP) : Prop := elim p (fun (p : Unit) => ∃ (i_23 : Int), r = (Ex.brk 0, [(.str s), (.bool false), (.int .i64 i_23)], [])) (fun q2 => (fun (p : Unit) => ∃ (i_24 : Int), r = (Ex.ret, [(.str s), (.bool false), (.int .i64 i_24)], [])) q2)
noncomputable def seineref1_Name_B (s : Str) : Option Bool :=
  cnd (s == ([] : Str))
   (some false)
   (bnd (nthI s 0) fun y2 =>
   bnd (seineref1_start (y2.toNat : Int)) fun y4 =>
   cnd (!y4)
    (some false)
    (bnd (tloop (seineref1_Name_l1T s) 1) fun e25_2 => elim e25_2
    (fun p25 =>
     some true)
    (fun p25 =>
    some false)))
def seineref1_Name_ds : Decs := { decs := [(8, (.int .u8)), (9, .bool), (20, (.int .u8)), (21, .bool), (26, (.int .u8)), (27, .bool)], ups := [], loops := [(4, [], ⟨[.str, .bool, (.int .i64)], [], [(some 0, [.str, .bool, (.int .i64)], []), (none, [.str, .bool, (.int .i64)], [])]⟩)] }
set_option maxRecDepth 100000 in
theorem seineref1_Name_t1 (O : Orc) (LP : LBody → LBody) (s : Str) : evalBodyD Try.prog (MT 46) seineref1_Name_ds Try.f46.ntmps O LP Try.f46 [(.str s)] [] = seineref1_Name_T1 O LP s := by kernel_rfl
theorem seineref1_Name_l1_ok (s : Str) : ∀ st l u, seineref1_Name_l1R s st l u → Imp (seineref1_Name_l1T s st) (seineref1_Name_l1 O loopLim l u) (StepR (seineref1_Name_l1R s) (seineref1_Name_l1X s)) := by
  rintro i_14 l u ⟨rfl, rfl⟩
  simp only [seineref1_Name_l1T, seineref1_Name_l1]
  refine Imp.chk rfl (Imp.chk rfl ?_)
  try simp only [evs, tys]
  refine Imp.cnd ?_ ?_
  · refine Imp.op (f := fun a => .int .u8 (a.toNat : Int)) (fun a h => op_ixStr h) (fun a => rfl) fun y16 hy16 => ?_
    try simp only [evs, tys]
    refine Imp.call (f := seineref1_startE) rfl (fun a h => by first | exact seineref1_start_spec h | simpa only [evs, tys, evl] using seineref1_start_spec h) (fun a => by first | rfl | simp only [seineref1_startE, evk, chks]) fun y18 hy18 => ?_
    try simp only [seineref1_startE, evs, tys]
    refine Imp.cnd ?_ ?_
    · refine Imp.op (f := fun a => .int .u8 (a.toNat : Int)) (fun a h => op_ixStr h) (fun a => rfl) fun y20 hy20 => ?_
      try simp only [evs, tys]
      refine Imp.call (f := seineref1_digitE) rfl (fun a h => by first | exact seineref1_digit_spec h | simpa only [evs, tys, evl] using seineref1_digit_spec h) (fun a => by first | rfl | simp only [seineref1_digitE, evk, chks]) fun y22 hy22 => ?_
      try simp only [seineref1_digitE, evs, tys]
      refine Imp.cnd ?_ ?_
      · exact Imp.some (StepR.ret ⟨i_14, by first | rfl | simp only [evs, tys, evl, elim_inl, elim_inr]⟩)
      · exact Imp.some (StepR.next ⟨by first | rfl | simp only [evs, tys, evl], rfl⟩)
    · exact Imp.some (StepR.next ⟨by first | rfl | simp only [evs, tys, evl], rfl⟩)
  · exact Imp.some (StepR.brk ⟨i_14, by first | rfl | simp only [evs, tys, evl, elim_inl, elim_inr]⟩)
theorem seineref1_Name_imp (s : Str) : Imp (seineref1_Name_B s) (seineref1_Name_T1 O loopLim s) (fun r v => v = (seineref1_NameE r, [])) := by
  simp only [seineref1_Name_B, seineref1_Name_T1]
  try simp only [evs, tys]
  refine Imp.cnd ?_ ?_
  · exact Imp.some (by first | rfl | simp only [seineref1_NameE, evs, tys, evl])
  · refine Imp.op (f := fun a => .int .u8 (a.toNat : Int)) (fun a h => op_ixStr h) (fun a => rfl) fun y2 hy2 => ?_
    try simp only [evs, tys]
    refine Imp.call (f := seineref1_startE) rfl (fun a h => by first | exact seineref1_start_spec h | simpa only [evs, tys, evl] using seineref1_start_spec h) (fun a => by first | rfl | simp only [seineref1_startE, evk, chks]) fun y4 hy4 => ?_
    try simp only [seineref1_startE, evs, tys]
    refine Imp.cnd ?_ ?_
    · exact Imp.some (by first | rfl | simp only [seineref1_NameE, evs, tys, evl])
    · refine Imp.bnd (Imp.loop (seineref1_Name_l1_ok s) ⟨by first | rfl | simp only [evs, tys, evl], rfl⟩) ?_
      rintro (p | p) vy25 hy25
      · try simp only [elim_inl, elim_inr]
        obtain ⟨i_23, rfl⟩ := hy25
        refine Imp.exHit rfl (Imp.chk rfl (Imp.chk rfl ?_))
        try simp only [evs, tys]
        exact Imp.some (by first | rfl | simp only [seineref1_NameE, evs, tys, evl])
      · try simp only [elim_inl, elim_inr]
        obtain ⟨i_24, rfl⟩ := hy25
        refine Imp.exMiss rfl ?_
        refine Imp.exHit rfl (Imp.chk rfl (Imp.chk rfl ?_))
        try simp only [evs, tys]
        exact Imp.some (by first | rfl | simp only [seineref1_NameE, evs, tys, evl])
theorem seineref1_Name_run {s : Str} {r : Bool} (h : seineref1_Name_B s = some r) : seineref1_Name s = some r := by
  obtain ⟨v, hv, rfl⟩ := seineref1_Name_imp s r h
  exact tO_of (pair_inj seineref1_NameEj) (OL_runD seineref1_Name_ds rfl rfl Try.func46 ((seineref1_Name_t1 _ _ s).trans hv))

def letters_Letter_T1 (O : Orc) (LP : LBody → LBody) (c : Int) : Option (PV × UP) :=
  cnd (decide (c ≥ 97))
   (cnd (decide (c ≤ 122))
    (some ((.bool true), []))
    (cnd (decide (c ≥ 65))
     (cnd (decide (c ≤ 90))
      (some ((.bool true), []))
      (some ((.bool (c == 95)), [])))
     (some ((.bool (c == 95)), []))))
   (cnd (decide (c ≥ 65))
    (cnd (decide (c ≤ 90))
     (some ((.bool true), []))
     (some ((.bool (c == 95)), [])))
    (some ((.bool (c == 95)), [])))
noncomputable def letters_Letter_B (c : Int) : Option Bool :=
  cnd (decide (c ≥ 97))
   (cnd (decide (c ≤ 122))
    (some true)
    (cnd (decide (c ≥ 65))
     (cnd (decide (c ≤ 90))
      (some true)
      (some (c == 95)))
     (some (c == 95))))
   (cnd (decide (c ≥ 65))
    (cnd (decide (c ≤ 90))
     (some true)
     (some (c == 95)))
    (some (c == 95)))
def letters_Letter_ds : Decs := { decs := [], ups := [], loops := [] }
set_option maxRecDepth 100000 in
theorem letters_Letter_t1 (O : Orc) (LP : LBody → LBody) (c : Int) : evalBodyD Try.prog (MT 47) letters_Letter_ds Try.f47.ntmps O LP Try.f47 [(.int .u8 c)] [] = letters_Letter_T1 O LP c := by kernel_rfl
theorem letters_Letter_imp (c : Int) : Imp (letters_Letter_B c) (letters_Letter_T1 O loopLim c) (fun r v => v = (letters_LetterE r, [])) := by
  simp only [letters_Letter_B, letters_Letter_T1]
  try simp only [evs, tys]
  refine Imp.cnd ?_ ?_
  · refine Imp.cnd ?_ ?_
    · exact Imp.some (by first | rfl | simp only [letters_LetterE, evs, tys, evl])
    · refine Imp.cnd ?_ ?_
      · refine Imp.cnd ?_ ?_
        · exact Imp.some (by first | rfl | simp only [letters_LetterE, evs, tys, evl])
        · exact Imp.some (by first | rfl | simp only [letters_LetterE, evs, tys, evl])
      · exact Imp.some (by first | rfl | simp only [letters_LetterE, evs, tys, evl])
  · refine Imp.cnd ?_ ?_
    · refine Imp.cnd ?_ ?_
      · exact Imp.some (by first | rfl | simp only [letters_LetterE, evs, tys, evl])
      · exact Imp.some (by first | rfl | simp only [letters_LetterE, evs, tys, evl])
    · exact Imp.some (by first | rfl | simp only [letters_LetterE, evs, tys, evl])
theorem letters_Letter_run {c : Int} {r : Bool} (h : letters_Letter_B c = some r) : letters_Letter c = some r := by
  obtain ⟨v, hv, rfl⟩ := letters_Letter_imp c r h
  exact tO_of (pair_inj letters_LetterEj) (OL_runD letters_Letter_ds rfl rfl Try.func47 ((letters_Letter_t1 _ _ c).trans hv))

def letters_Digit_T1 (O : Orc) (LP : LBody → LBody) (c : Int) : Option (PV × UP) :=
  cnd (decide (c ≥ 48))
   (some ((.bool (decide (c ≤ 57))), []))
   (some ((.bool false), []))
noncomputable def letters_Digit_B (c : Int) : Option Bool :=
  cnd (decide (c ≥ 48))
   (some (decide (c ≤ 57)))
   (some false)
def letters_Digit_ds : Decs := { decs := [], ups := [], loops := [] }
set_option maxRecDepth 100000 in
theorem letters_Digit_t1 (O : Orc) (LP : LBody → LBody) (c : Int) : evalBodyD Try.prog (MT 48) letters_Digit_ds Try.f48.ntmps O LP Try.f48 [(.int .u8 c)] [] = letters_Digit_T1 O LP c := by kernel_rfl
theorem letters_Digit_imp (c : Int) : Imp (letters_Digit_B c) (letters_Digit_T1 O loopLim c) (fun r v => v = (letters_DigitE r, [])) := by
  simp only [letters_Digit_B, letters_Digit_T1]
  try simp only [evs, tys]
  refine Imp.cnd ?_ ?_
  · exact Imp.some (by first | rfl | simp only [letters_DigitE, evs, tys, evl])
  · exact Imp.some (by first | rfl | simp only [letters_DigitE, evs, tys, evl])
theorem letters_Digit_run {c : Int} {r : Bool} (h : letters_Digit_B c = some r) : letters_Digit c = some r := by
  obtain ⟨v, hv, rfl⟩ := letters_Digit_imp c r h
  exact tO_of (pair_inj letters_DigitEj) (OL_runD letters_Digit_ds rfl rfl Try.func48 ((letters_Digit_t1 _ _ c).trans hv))

def seineref1_start_T1 (O : Orc) (LP : LBody → LBody) (c : Int) : Option (PV × UP) :=
  cnd (decide (c ≥ 97))
   (cnd (decide (c ≤ 122))
    (some ((.bool true), []))
    (cnd (decide (c ≥ 65))
     (cnd (decide (c ≤ 90))
      (some ((.bool true), []))
      (some ((.bool (c == 95)), [])))
     (some ((.bool (c == 95)), []))))
   (cnd (decide (c ≥ 65))
    (cnd (decide (c ≤ 90))
     (some ((.bool true), []))
     (some ((.bool (c == 95)), [])))
    (some ((.bool (c == 95)), [])))
noncomputable def seineref1_start_B (c : Int) : Option Bool :=
  cnd (decide (c ≥ 97))
   (cnd (decide (c ≤ 122))
    (some true)
    (cnd (decide (c ≥ 65))
     (cnd (decide (c ≤ 90))
      (some true)
      (some (c == 95)))
     (some (c == 95))))
   (cnd (decide (c ≥ 65))
    (cnd (decide (c ≤ 90))
     (some true)
     (some (c == 95)))
    (some (c == 95)))
def seineref1_start_ds : Decs := { decs := [], ups := [], loops := [] }
set_option maxRecDepth 100000 in
theorem seineref1_start_t1 (O : Orc) (LP : LBody → LBody) (c : Int) : evalBodyD Try.prog (MT 56) seineref1_start_ds Try.f56.ntmps O LP Try.f56 [(.int .u8 c)] [] = seineref1_start_T1 O LP c := by kernel_rfl
theorem seineref1_start_imp (c : Int) : Imp (seineref1_start_B c) (seineref1_start_T1 O loopLim c) (fun r v => v = (seineref1_startE r, [])) := by
  simp only [seineref1_start_B, seineref1_start_T1]
  try simp only [evs, tys]
  refine Imp.cnd ?_ ?_
  · refine Imp.cnd ?_ ?_
    · exact Imp.some (by first | rfl | simp only [seineref1_startE, evs, tys, evl])
    · refine Imp.cnd ?_ ?_
      · refine Imp.cnd ?_ ?_
        · exact Imp.some (by first | rfl | simp only [seineref1_startE, evs, tys, evl])
        · exact Imp.some (by first | rfl | simp only [seineref1_startE, evs, tys, evl])
      · exact Imp.some (by first | rfl | simp only [seineref1_startE, evs, tys, evl])
  · refine Imp.cnd ?_ ?_
    · refine Imp.cnd ?_ ?_
      · exact Imp.some (by first | rfl | simp only [seineref1_startE, evs, tys, evl])
      · exact Imp.some (by first | rfl | simp only [seineref1_startE, evs, tys, evl])
    · exact Imp.some (by first | rfl | simp only [seineref1_startE, evs, tys, evl])
theorem seineref1_start_run {c : Int} {r : Bool} (h : seineref1_start_B c = some r) : seineref1_start c = some r := by
  obtain ⟨v, hv, rfl⟩ := seineref1_start_imp c r h
  exact tO_of (pair_inj seineref1_startEj) (OL_runD seineref1_start_ds rfl rfl Try.func56 ((seineref1_start_t1 _ _ c).trans hv))

def seineref1_digit_T1 (O : Orc) (LP : LBody → LBody) (c : Int) : Option (PV × UP) :=
  cnd (decide (c ≥ 48))
   (some ((.bool (decide (c ≤ 57))), []))
   (some ((.bool false), []))
noncomputable def seineref1_digit_B (c : Int) : Option Bool :=
  cnd (decide (c ≥ 48))
   (some (decide (c ≤ 57)))
   (some false)
def seineref1_digit_ds : Decs := { decs := [], ups := [], loops := [] }
set_option maxRecDepth 100000 in
theorem seineref1_digit_t1 (O : Orc) (LP : LBody → LBody) (c : Int) : evalBodyD Try.prog (MT 57) seineref1_digit_ds Try.f57.ntmps O LP Try.f57 [(.int .u8 c)] [] = seineref1_digit_T1 O LP c := by kernel_rfl
theorem seineref1_digit_imp (c : Int) : Imp (seineref1_digit_B c) (seineref1_digit_T1 O loopLim c) (fun r v => v = (seineref1_digitE r, [])) := by
  simp only [seineref1_digit_B, seineref1_digit_T1]
  try simp only [evs, tys]
  refine Imp.cnd ?_ ?_
  · exact Imp.some (by first | rfl | simp only [seineref1_digitE, evs, tys, evl])
  · exact Imp.some (by first | rfl | simp only [seineref1_digitE, evs, tys, evl])
theorem seineref1_digit_run {c : Int} {r : Bool} (h : seineref1_digit_B c = some r) : seineref1_digit c = some r := by
  obtain ⟨v, hv, rfl⟩ := seineref1_digit_imp c r h
  exact tO_of (pair_inj seineref1_digitEj) (OL_runD seineref1_digit_ds rfl rfl Try.func57 ((seineref1_digit_t1 _ _ c).trans hv))
end Go.Proofs.Yteiccdhdfcbokaa



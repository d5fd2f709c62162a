import Derived.Test.YtfbaogfcpldlnaaGa
import Derived.Test.YtfbaogfcpldlnaaEd
import Derived.WalkKit
import Derived.KernelRfl
import Derived.Test.YtfbaogfcpldlnaaGb
set_option linter.unusedVariables false
set_option linter.unusedSimpArgs false
set_option linter.unusedSimpArgs false
open Go Go.Ev Go.Ev.PV
namespace Go.Proofs.Ytfbaogfcpldlnaa
def slices_EqualFunc_Value_l1 (O : Orc) (LP : LBody → LBody) : LBody := fun s1 s1u => cnd (chkL [(.sl false), (.func 58 [] []), .bool, (.sl false), (.int .i64), (.int .i64)] s1) (cnd (chkU [] s1u)
 (cnd (decide ((intV (gt s1 5)) < (intV (gt s1 4))))
 (bnd (ix 5 (.slice (esV (gt s1 3)) [] false) (.int .i64 (intV (gt s1 5)))) fun x9 => cnd (chk (.ref shValue) x9)
 (bnd (ix 5 (.slice (esV (gt s1 0)) [] false) (.int .i64 (intV (gt s1 5)))) fun x11 => cnd (chk (.ref shValue) x11)
 (callp O 58 [(.agg [(.int .i64 (intV (gt (aggV (refV x9)) 0))), (.int .i64 (intV (gt (aggV (refV x9)) 1))), (.str (strV (gt (aggV (refV x9)) 2))), (.slice (esV (gt (aggV (refV x9)) 3)) [] false), (.slice (esV (gt (aggV (refV x9)) 4)) [] false)]), (.agg [(.int .i64 (intV (gt (aggV (refV x11)) 0))), (.int .i64 (intV (gt (aggV (refV x11)) 1))), (.str (strV (gt (aggV (refV x11)) 2))), (.slice (esV (gt (aggV (refV x11)) 3)) [] false), (.slice (esV (gt (aggV (refV x11)) 4)) [] false)])] fun x13 => cnd (chk .bool x13)
 (cnd (!(boolV x13))
 (some (.ret, [(.slice (esV (gt s1 0)) [] false), (.func (.func 58) [] []), (.bool false), (.slice (esV (gt s1 3)) [] false), (.int .i64 (intV (gt s1 4))), (.int .i64 (intV (gt s1 5)))], []))
 (some (.nrm, [(.slice (esV (gt s1 0)) [] false), (.func (.func 58) [] []), (.bool (boolV (gt s1 2))), (.slice (esV (gt s1 3)) [] false), (.int .i64 (intV (gt s1 4))), (.int .i64 (IntKind.wrap .i64 ((intV (gt s1 5)) + 1)))], []))) none) none) none)
 (some (.brk 0, [(.slice (esV (gt s1 0)) [] false), (.func (.func 58) [] []), (.bool (boolV (gt s1 2))), (.slice (esV (gt s1 3)) [] false), (.int .i64 (intV (gt s1 4))), (.int .i64 (intV (gt s1 5)))], []))) none) none
def slices_EqualFunc_Value_T1 (O : Orc) (LP : LBody → LBody) (s10 : List GValue) (s20 : List GValue) : Option (PV × UP) :=
 cnd ((List.length (List.map encValue s10) : Int) != (List.length (List.map encValue s20) : Int))
 (some ((.bool false), []))
 (bnd (LP (slices_EqualFunc_Value_l1 O LP) [(.slice (List.map encValue s20) [] false), (.func (.func 58) [] []), (.bool false), (.slice (List.map encValue s10) [] false), (.int .i64 (List.length (List.map encValue s10) : Int)), (.int .i64 0)] []) fun y17 =>
 exIs y17.1 (some 0) (cnd (chkL [(.sl false), (.func 58 [] []), .bool, (.sl false), (.int .i64), (.int .i64)] y17.2.1) (cnd (chkU [] y17.2.2)
 (some ((.bool true), [])) none) none)
 (exIs y17.1 none (cnd (chkL [(.sl false), (.func 58 [] []), .bool, (.sl false), (.int .i64), (.int .i64)] y17.2.1) (cnd (chkU [] y17.2.2)
 (some ((.bool (boolV (gt y17.2.1 2))), [])) none) none)
 (none)))
noncomputable def slices_EqualFunc_Value_l1T (s10 : List GValue) (s20 : List GValue) : Int → Option (Int ⊕ (Unit ⊕ Unit))
 | t_8 =>
 cnd (decide (t_8 < (List.length s10 : Int)))
  (bnd (nthI s10 t_8) fun y10 =>
  bnd (nthI s20 t_8) fun y12 =>
  bnd (value_Same y10 y12) fun y14 =>
  cnd (!y14)
  (some (.inr (.inr ())))
  (some (.inl (IntKind.wrap .i64 (t_8 + 1)))))
  (some (.inr (.inl ())))
abbrev slices_EqualFunc_Value_l1R (s10 : List GValue) (s20 : List GValue) (st : Int) (l : List PV) (u : UP) : Prop := l = [(.slice (List.map encValue s20) [] false), (.func (.func 58) [] []), (.bool false), (.slice (List.map encValue s10) [] false), (.int .i64 (List.length s10 : Int)), (.int .i64 st)] ∧ u = []
abbrev slices_EqualFunc_Value_l1X (s10 : List GValue) (s20 : List GValue) (p : Unit ⊕ Unit) (r : Ex × List PV × UP) : Prop := elim p (fun (p : Unit) => ∃ (t_15 : Int), r = (Ex.brk 0, [(.slice (List.map encValue s20) [] false), (.func (.func 58) [] []), (.bool false), (.slice (List.map encValue s10) [] false), (.int .i64 (List.length s10 : Int)), (.int .i64 t_15)], [])) (fun q2 => (fun (p : Unit) => ∃ (t_16 : Int), r = (Ex.ret, [(.slice (List.map encValue s20) [] false), (.func (.func 58) [] []), (.bool false), (.slice (List.map encValue s10) [] false), (.int .i64 (List.length s10 : Int)), (.int .i64 t_16)], [])) q2)
noncomputable def slices_EqualFunc_Value_B (s10 : List GValue) (s20 : List GValue) : Option Bool :=
 cnd ((List.length s10 : Int) != (List.length s20 : Int))
 (some false)
 (bnd (tloop (slices_EqualFunc_Value_l1T s10 s20) 0) fun e17_2 => elim e17_2
 (fun p17 =>
 some true)
 (fun p17 =>
 some false))
def slices_EqualFunc_Value_ds : Decs := { decs := [(20, (.ref shValue)), (24, (.ref shValue)), (29, .bool)], ups := [], loops := [(4, [], ⟨[(.sl false), (.func 58 [] []), .bool, (.sl false), (.int .i64), (.int .i64)], [], [(some 0, [(.sl false), (.func 58 [] []), .bool, (.sl false), (.int .i64), (.int .i64)], []), (none, [(.sl false), (.func 58 [] []), .bool, (.sl false), (.int .i64), (.int .i64)], [])]⟩)] }
set_option maxRecDepth 100000 in
theorem slices_EqualFunc_Value_t1 (O : Orc) (LP : LBody → LBody) (s10 : List GValue) (s20 : List GValue) : evalBodyD Try.prog (MT 83) slices_EqualFunc_Value_ds Try.f83.ntmps O LP Try.f83 [(.slice (List.map encValue s10) [] false), (.slice (List.map encValue s20) [] false), (.func (.func 58) [] [])] [] = slices_EqualFunc_Value_T1 O LP s10 s20 := by kernel_rfl
theorem slices_EqualFunc_Value_l1_ok (s10 : List GValue) (s20 : List GValue) : ∀ st l u, slices_EqualFunc_Value_l1R s10 s20 st l u → Imp (slices_EqualFunc_Value_l1T s10 s20 st) (slices_EqualFunc_Value_l1 O loopLim l u) (StepR (slices_EqualFunc_Value_l1R s10 s20) (slices_EqualFunc_Value_l1X s10 s20)) := by
 rintro t_8 l u ⟨rfl, rfl⟩
 simp only [slices_EqualFunc_Value_l1T, slices_EqualFunc_Value_l1]
 refine Imp.chk rfl (Imp.chk rfl ?_)
 try simp only [evs, tys]
 refine Imp.cnd ?_ ?_
 ·refine Imp.op (f := fun a => .ref (encValue a)) (fun a h => op_ix (enc := encValue) (by first | rfl | simp only [evs, tys, evl]) ⟨by first | rfl | simp only [evs, tys, evc], by decide⟩ h) (fun a => chk_GValue a) fun y10 hy10 => ?_
  try simp only [evs, tys]
  refine Imp.op (f := fun a => .ref (encValue a)) (fun a h => op_ix (enc := encValue) (by first | rfl | simp only [evs, tys, evl]) ⟨by first | rfl | simp only [evs, tys, evc], by decide⟩ h) (fun a => chk_GValue a) fun y12 hy12 => ?_
  try simp only [evs, tys]
  refine Imp.call (f := value_SameE) rfl (fun a h => by first | exact value_Same_spec h | simpa only [evs, tys, evl] using value_Same_spec h) (fun a => by first | rfl | simp only [value_SameE, evk, chks]) fun y14 hy14 => ?_
  try simp only [value_SameE, evs, tys]
  refine Imp.cnd ?_ ?_
  ·exact Imp.some (StepR.ret ⟨t_8, by first | rfl | simp only [evs, tys, evl, elim_inl, elim_inr]⟩)
  ·exact Imp.some (StepR.next ⟨by first | rfl | simp only [evs, tys, evl], rfl⟩)
 ·exact Imp.some (StepR.brk ⟨t_8, by first | rfl | simp only [evs, tys, evl, elim_inl, elim_inr]⟩)
theorem slices_EqualFunc_Value_imp (s10 : List GValue) (s20 : List GValue) : Imp (slices_EqualFunc_Value_B s10 s20) (slices_EqualFunc_Value_T1 O loopLim s10 s20) (fun r v => v = (slices_EqualFunc_ValueE r, [])) := by
 simp only [slices_EqualFunc_Value_B, slices_EqualFunc_Value_T1]
 try simp only [evs, tys]
 refine Imp.cnd ?_ ?_
 ·exact Imp.some (by first | rfl | simp only [slices_EqualFunc_ValueE, evs, tys, evl])
 ·refine Imp.bnd (Imp.loop (slices_EqualFunc_Value_l1_ok s10 s20) ⟨by first | rfl | simp only [evs, tys, evl], rfl⟩) ?_
  rintro (p | p) vy17 hy17
  ·try simp only [elim_inl, elim_inr]
   obtain ⟨t_15, rfl⟩ := hy17
   refine Imp.exHit rfl (Imp.chk rfl (Imp.chk rfl ?_))
   try simp only [evs, tys]
   exact Imp.some (by first | rfl | simp only [slices_EqualFunc_ValueE, evs, tys, evl])
  ·try simp only [elim_inl, elim_inr]
   obtain ⟨t_16, rfl⟩ := hy17
   refine Imp.exMiss rfl ?_
   refine Imp.exHit rfl (Imp.chk rfl (Imp.chk rfl ?_))
   try simp only [evs, tys]
   exact Imp.some (by first | rfl | simp only [slices_EqualFunc_ValueE, evs, tys, evl])
theorem slices_EqualFunc_Value_run {s10 : List GValue} {s20 : List GValue} {r : Bool} (h : slices_EqualFunc_Value_B s10 s20 = some r) : slices_EqualFunc_Value s10 s20 = some r := by
 obtain ⟨v, hv, rfl⟩ := slices_EqualFunc_Value_imp s10 s20 r h
 exact tO_of (pair_inj slices_EqualFunc_ValueEj) (OL_runD slices_EqualFunc_Value_ds rfl rfl Try.func83 ((slices_EqualFunc_Value_t1 _ _ s10 s20).trans hv))
def slices_EqualFunc_Member_l1 (O : Orc) (LP : LBody → LBody) : LBody := fun s1 s1u => cnd (chkL [(.sl false), (.func 85 [] []), .bool, (.sl false), (.int .i64), (.int .i64)] s1) (cnd (chkU [] s1u)
 (cnd (decide ((intV (gt s1 5)) < (intV (gt s1 4))))
 (bnd (ix 6 (.slice (esV (gt s1 3)) [] false) (.int .i64 (intV (gt s1 5)))) fun x9 => cnd (chk (.ref shMember) x9)
 (bnd (ix 6 (.slice (esV (gt s1 0)) [] false) (.int .i64 (intV (gt s1 5)))) fun x11 => cnd (chk (.ref shMember) x11)
 (callp O 85 [(.agg [(.str (strV (gt (aggV (refV x9)) 0))), (.int .i64 (intV (gt (aggV (refV x9)) 1))), (.int .i64 (intV (gt (aggV (refV x9)) 2))), (.str (strV (gt (aggV (refV x9)) 3))), (.slice (esV (gt (aggV (refV x9)) 4)) [] false), (.slice (esV (gt (aggV (refV x9)) 5)) [] false)]), (.agg [(.str (strV (gt (aggV (refV x11)) 0))), (.int .i64 (intV (gt (aggV (refV x11)) 1))), (.int .i64 (intV (gt (aggV (refV x11)) 2))), (.str (strV (gt (aggV (refV x11)) 3))), (.slice (esV (gt (aggV (refV x11)) 4)) [] false), (.slice (esV (gt (aggV (refV x11)) 5)) [] false)])] fun x13 => cnd (chk .bool x13)
 (cnd (!(boolV x13))
 (some (.ret, [(.slice (esV (gt s1 0)) [] false), (.func (.func 85) [] []), (.bool false), (.slice (esV (gt s1 3)) [] false), (.int .i64 (intV (gt s1 4))), (.int .i64 (intV (gt s1 5)))], []))
 (some (.nrm, [(.slice (esV (gt s1 0)) [] false), (.func (.func 85) [] []), (.bool (boolV (gt s1 2))), (.slice (esV (gt s1 3)) [] false), (.int .i64 (intV (gt s1 4))), (.int .i64 (IntKind.wrap .i64 ((intV (gt s1 5)) + 1)))], []))) none) none) none)
 (some (.brk 0, [(.slice (esV (gt s1 0)) [] false), (.func (.func 85) [] []), (.bool (boolV (gt s1 2))), (.slice (esV (gt s1 3)) [] false), (.int .i64 (intV (gt s1 4))), (.int .i64 (intV (gt s1 5)))], []))) none) none
def slices_EqualFunc_Member_T1 (O : Orc) (LP : LBody → LBody) (s10 : List GMember) (s20 : List GMember) : Option (PV × UP) :=
 cnd ((List.length (List.map encMember s10) : Int) != (List.length (List.map encMember s20) : Int))
 (some ((.bool false), []))
 (bnd (LP (slices_EqualFunc_Member_l1 O LP) [(.slice (List.map encMember s20) [] false), (.func (.func 85) [] []), (.bool false), (.slice (List.map encMember s10) [] false), (.int .i64 (List.length (List.map encMember s10) : Int)), (.int .i64 0)] []) fun y17 =>
 exIs y17.1 (some 0) (cnd (chkL [(.sl false), (.func 85 [] []), .bool, (.sl false), (.int .i64), (.int .i64)] y17.2.1) (cnd (chkU [] y17.2.2)
 (some ((.bool true), [])) none) none)
 (exIs y17.1 none (cnd (chkL [(.sl false), (.func 85 [] []), .bool, (.sl false), (.int .i64), (.int .i64)] y17.2.1) (cnd (chkU [] y17.2.2)
 (some ((.bool (boolV (gt y17.2.1 2))), [])) none) none)
 (none)))
noncomputable def slices_EqualFunc_Member_l1T (s10 : List GMember) (s20 : List GMember) : Int → Option (Int ⊕ (Unit ⊕ Unit))
 | t_8 =>
 cnd (decide (t_8 < (List.length s10 : Int)))
  (bnd (nthI s10 t_8) fun y10 =>
  bnd (nthI s20 t_8) fun y12 =>
  bnd (value_Same_1 y10 y12) fun y14 =>
  cnd (!y14)
  (some (.inr (.inr ())))
  (some (.inl (IntKind.wrap .i64 (t_8 + 1)))))
  (some (.inr (.inl ())))
abbrev slices_EqualFunc_Member_l1R (s10 : List GMember) (s20 : List GMember) (st : Int) (l : List PV) (u : UP) : Prop := l = [(.slice (List.map encMember s20) [] false), (.func (.func 85) [] []), (.bool false), (.slice (List.map encMember s10) [] false), (.int .i64 (List.length s10 : Int)), (.int .i64 st)] ∧ u = []
abbrev slices_EqualFunc_Member_l1X (s10 : List GMember) (s20 : List GMember) (p : Unit ⊕ Unit) (r : Ex × List PV × UP) : Prop := elim p (fun (p : Unit) => ∃ (t_15 : Int), r = (Ex.brk 0, [(.slice (List.map encMember s20) [] false), (.func (.func 85) [] []), (.bool false), (.slice (List.map encMember s10) [] false), (.int .i64 (List.length s10 : Int)), (.int .i64 t_15)], [])) (fun q2 => (fun (p : Unit) => ∃ (t_16 : Int), r = (Ex.ret, [(.slice (List.map encMember s20) [] false), (.func (.func 85) [] []), (.bool false), (.slice (List.map encMember s10) [] false), (.int .i64 (List.length s10 : Int)), (.int .i64 t_16)], [])) q2)
noncomputable def slices_EqualFunc_Member_B (s10 : List GMember) (s20 : List GMember) : Option Bool :=
 cnd ((List.length s10 : Int) != (List.length s20 : Int))
 (some false)
 (bnd (tloop (slices_EqualFunc_Member_l1T s10 s20) 0) fun e17_2 => elim e17_2
 (fun p17 =>
 some true)
 (fun p17 =>
 some false))
def slices_EqualFunc_Member_ds : Decs := { decs := [(20, (.ref shMember)), (24, (.ref shMember)), (29, .bool)], ups := [], loops := [(4, [], ⟨[(.sl false), (.func 85 [] []), .bool, (.sl false), (.int .i64), (.int .i64)], [], [(some 0, [(.sl false), (.func 85 [] []), .bool, (.sl false), (.int .i64), (.int .i64)], []), (none, [(.sl false), (.func 85 [] []), .bool, (.sl false), (.int .i64), (.int .i64)], [])]⟩)] }
set_option maxRecDepth 100000 in
theorem slices_EqualFunc_Member_t1 (O : Orc) (LP : LBody → LBody) (s10 : List GMember) (s20 : List GMember) : evalBodyD Try.prog (MT 84) slices_EqualFunc_Member_ds Try.f84.ntmps O LP Try.f84 [(.slice (List.map encMember s10) [] false), (.slice (List.map encMember s20) [] false), (.func (.func 85) [] [])] [] = slices_EqualFunc_Member_T1 O LP s10 s20 := by kernel_rfl
theorem slices_EqualFunc_Member_l1_ok (s10 : List GMember) (s20 : List GMember) : ∀ st l u, slices_EqualFunc_Member_l1R s10 s20 st l u → Imp (slices_EqualFunc_Member_l1T s10 s20 st) (slices_EqualFunc_Member_l1 O loopLim l u) (StepR (slices_EqualFunc_Member_l1R s10 s20) (slices_EqualFunc_Member_l1X s10 s20)) := by
 rintro t_8 l u ⟨rfl, rfl⟩
 simp only [slices_EqualFunc_Member_l1T, slices_EqualFunc_Member_l1]
 refine Imp.chk rfl (Imp.chk rfl ?_)
 try simp only [evs, tys]
 refine Imp.cnd ?_ ?_
 ·refine Imp.op (f := fun a => .ref (encMember a)) (fun a h => op_ix (enc := encMember) (by first | rfl | simp only [evs, tys, evl]) ⟨by first | rfl | simp only [evs, tys, evc], by decide⟩ h) (fun a => chk_GMember a) fun y10 hy10 => ?_
  try simp only [evs, tys]
  refine Imp.op (f := fun a => .ref (encMember a)) (fun a h => op_ix (enc := encMember) (by first | rfl | simp only [evs, tys, evl]) ⟨by first | rfl | simp only [evs, tys, evc], by decide⟩ h) (fun a => chk_GMember a) fun y12 hy12 => ?_
  try simp only [evs, tys]
  refine Imp.call (f := value_Same_1E) rfl (fun a h => by first | exact value_Same_1_spec h | simpa only [evs, tys, evl] using value_Same_1_spec h) (fun a => by first | rfl | simp only [value_Same_1E, evk, chks]) fun y14 hy14 => ?_
  try simp only [value_Same_1E, evs, tys]
  refine Imp.cnd ?_ ?_
  ·exact Imp.some (StepR.ret ⟨t_8, by first | rfl | simp only [evs, tys, evl, elim_inl, elim_inr]⟩)
  ·exact Imp.some (StepR.next ⟨by first | rfl | simp only [evs, tys, evl], rfl⟩)
 ·exact Imp.some (StepR.brk ⟨t_8, by first | rfl | simp only [evs, tys, evl, elim_inl, elim_inr]⟩)
theorem slices_EqualFunc_Member_imp (s10 : List GMember) (s20 : List GMember) : Imp (slices_EqualFunc_Member_B s10 s20) (slices_EqualFunc_Member_T1 O loopLim s10 s20) (fun r v => v = (slices_EqualFunc_MemberE r, [])) := by
 simp only [slices_EqualFunc_Member_B, slices_EqualFunc_Member_T1]
 try simp only [evs, tys]
 refine Imp.cnd ?_ ?_
 ·exact Imp.some (by first | rfl | simp only [slices_EqualFunc_MemberE, evs, tys, evl])
 ·refine Imp.bnd (Imp.loop (slices_EqualFunc_Member_l1_ok s10 s20) ⟨by first | rfl | simp only [evs, tys, evl], rfl⟩) ?_
  rintro (p | p) vy17 hy17
  ·try simp only [elim_inl, elim_inr]
   obtain ⟨t_15, rfl⟩ := hy17
   refine Imp.exHit rfl (Imp.chk rfl (Imp.chk rfl ?_))
   try simp only [evs, tys]
   exact Imp.some (by first | rfl | simp only [slices_EqualFunc_MemberE, evs, tys, evl])
  ·try simp only [elim_inl, elim_inr]
   obtain ⟨t_16, rfl⟩ := hy17
   refine Imp.exMiss rfl ?_
   refine Imp.exHit rfl (Imp.chk rfl (Imp.chk rfl ?_))
   try simp only [evs, tys]
   exact Imp.some (by first | rfl | simp only [slices_EqualFunc_MemberE, evs, tys, evl])
theorem slices_EqualFunc_Member_run {s10 : List GMember} {s20 : List GMember} {r : Bool} (h : slices_EqualFunc_Member_B s10 s20 = some r) : slices_EqualFunc_Member s10 s20 = some r := by
 obtain ⟨v, hv, rfl⟩ := slices_EqualFunc_Member_imp s10 s20 r h
 exact tO_of (pair_inj slices_EqualFunc_MemberEj) (OL_runD slices_EqualFunc_Member_ds rfl rfl Try.func84 ((slices_EqualFunc_Member_t1 _ _ s10 s20).trans hv))
def value_Same_T1 (O : Orc) (LP : LBody → LBody) (a : GValue) (b : GValue) : Option (PV × UP) :=
 cnd (a.kind == b.kind)
 (cnd (a.n == b.n)
 (cnd (a.s == b.s)
 (callp O 83 [(.slice (List.map encValue a.l) [] false), (.slice (List.map encValue b.l) [] false), (.func (.func 58) [] [])] fun x1 => cnd (chk .bool x1)
 (cnd (boolV x1)
 (callp O 84 [(.slice (List.map encMember a.m) [] false), (.slice (List.map encMember b.m) [] false), (.func (.func 85) [] [])] fun x3 => cnd (chk .bool x3)
 (some ((.bool (boolV x3)), [])) none)
 (some ((.bool false), []))) none)
 (some ((.bool false), [])))
 (some ((.bool false), [])))
 (some ((.bool false), []))
noncomputable def value_Same_B (a : GValue) (b : GValue) : Option Bool :=
 cnd (a.kind == b.kind)
 (cnd (a.n == b.n)
 (cnd (a.s == b.s)
 (bnd (slices_EqualFunc_Value a.l b.l) fun y2 =>
 cnd y2
 (bnd (slices_EqualFunc_Member a.m b.m) fun y4 =>
 some y4)
 (some false))
 (some false))
 (some false))
 (some false)
def value_Same_ds : Decs := { decs := [(29, .bool), (36, .bool)], ups := [], loops := [] }
set_option maxRecDepth 100000 in
theorem value_Same_t1 (O : Orc) (LP : LBody → LBody) (a : GValue) (b : GValue) : evalBodyD Try.prog (MT 58) value_Same_ds Try.f58.ntmps O LP Try.f58 [(.agg [(.int .i64 a.kind), (.int .i64 a.n), (.str a.s), (.slice (List.map encValue a.l) [] false), (.slice (List.map encMember a.m) [] false)]), (.agg [(.int .i64 b.kind), (.int .i64 b.n), (.str b.s), (.slice (List.map encValue b.l) [] false), (.slice (List.map encMember b.m) [] false)])] [] = value_Same_T1 O LP a b := by kernel_rfl
theorem value_Same_imp (a : GValue) (b : GValue) : Imp (value_Same_B a b) (value_Same_T1 O loopLim a b) (fun r v => v = (value_SameE r, [])) := by
 simp only [value_Same_B, value_Same_T1]
 try simp only [evs, tys]
 refine Imp.cnd ?_ ?_
 ·refine Imp.cnd ?_ ?_
  ·refine Imp.cnd ?_ ?_
   ·refine Imp.call (f := slices_EqualFunc_ValueE) rfl (fun a h => by first | exact slices_EqualFunc_Value_spec h | simpa only [evs, tys, evl] using slices_EqualFunc_Value_spec h) (fun a => by first | rfl | simp only [slices_EqualFunc_ValueE, evk, chks]) fun y2 hy2 => ?_
    try simp only [slices_EqualFunc_ValueE, evs, tys]
    refine Imp.cnd ?_ ?_
    ·refine Imp.call (f := slices_EqualFunc_MemberE) rfl (fun a h => by first | exact slices_EqualFunc_Member_spec h | simpa only [evs, tys, evl] using slices_EqualFunc_Member_spec h) (fun a => by first | rfl | simp only [slices_EqualFunc_MemberE, evk, chks]) fun y4 hy4 => ?_
     try simp only [slices_EqualFunc_MemberE, evs, tys]
     exact Imp.some (by first | rfl | simp only [value_SameE, evs, tys, evl])
    ·exact Imp.some (by first | rfl | simp only [value_SameE, evs, tys, evl])
   ·exact Imp.some (by first | rfl | simp only [value_SameE, evs, tys, evl])
  ·exact Imp.some (by first | rfl | simp only [value_SameE, evs, tys, evl])
 ·exact Imp.some (by first | rfl | simp only [value_SameE, evs, tys, evl])
theorem value_Same_run {a : GValue} {b : GValue} {r : Bool} (h : value_Same_B a b = some r) : value_Same a b = some r := by
 obtain ⟨v, hv, rfl⟩ := value_Same_imp a b r h
 exact tO_of (pair_inj value_SameEj) (OL_runD value_Same_ds rfl rfl Try.func58 ((value_Same_t1 _ _ a b).trans hv))
def r1_Get_l1 (O : Orc) (LP : LBody → LBody) : LBody := fun s1 s1u => cnd (chkL [.str, (.sl false), (.ptr 0 4 0), .bool, (.int .i64), (.int .i64), (.int .i64), .str, (.sl true), (.sl true)] s1) (cnd (chkU [] s1u)
 (cnd (decide ((intV (gt s1 4)) < (List.length (esV (gt s1 1)) : Int)))
 (bnd (ix 6 (.slice (esV (gt s1 1)) [] false) (.int .i64 (intV (gt s1 4)))) fun x7 => cnd (chk (.ref shMember) x7)
 (cnd ((strV (gt (aggV (refV x7)) 0)) == (strV (gt s1 0)))
 (bnd (ix 6 (.slice (esV (gt s1 1)) [] false) (.int .i64 (intV (gt s1 4)))) fun x9 => cnd (chk (.ref shMember) x9)
 (some (.ret, [(.str (strV (gt s1 0))), (.slice (esV (gt s1 1)) [] false), (.ptr 0 4 0), (.bool true), (.int .i64 (intV (gt s1 4))), (.int .i64 (intV (gt (aggV (refV x9)) 1))), (.int .i64 (intV (gt (aggV (refV x9)) 2))), (.str (strV (gt (aggV (refV x9)) 3))), (.slice (esV (gt (aggV (refV x9)) 4)) [] false), (.slice (esV (gt (aggV (refV x9)) 5)) [] false)], [])) none)
 (some (.nrm, [(.str (strV (gt s1 0))), (.slice (esV (gt s1 1)) [] false), (.ptr 0 4 0), (.bool (boolV (gt s1 3))), (.int .i64 (IntKind.wrap .i64 ((intV (gt s1 4)) + 1))), (.int .i64 (intV (gt s1 5))), (.int .i64 (intV (gt s1 6))), (.str (strV (gt s1 7))), (.slice (esV (gt s1 8)) [] true), (.slice (esV (gt s1 9)) [] true)], []))) none)
 (some (.brk 0, [(.str (strV (gt s1 0))), (.slice (esV (gt s1 1)) [] false), (.ptr 0 4 0), (.bool (boolV (gt s1 3))), (.int .i64 (intV (gt s1 4))), (.int .i64 (intV (gt s1 5))), (.int .i64 (intV (gt s1 6))), (.str (strV (gt s1 7))), (.slice (esV (gt s1 8)) [] true), (.slice (esV (gt s1 9)) [] true)], []))) none) none
def r1_Get_T1 (O : Orc) (LP : LBody → LBody) (name : Str) (l0 : List GMember) : Option (PV × UP) :=
 bnd (LP (r1_Get_l1 O LP) [(.str name), (.slice (List.map encMember l0) [] false), (.ptr 0 4 0), (.bool false), (.int .i64 0), (.int .i64 0), (.int .i64 0), (.str []), (.slice [] [] true), (.slice [] [] true)] []) fun y18 =>
 exIs y18.1 (some 0) (cnd (chkL [.str, (.sl false), (.ptr 0 4 0), .bool, (.int .i64), (.int .i64), (.int .i64), .str, (.sl true), (.sl true)] y18.2.1) (cnd (chkU [] y18.2.2)
 (some ((.tuple [(.agg [(.int .i64 0), (.int .i64 0), (.str []), (.slice [] [] false), (.slice [] [] false)]), (.bool false)]), [])) none) none)
 (exIs y18.1 none (cnd (chkL [.str, (.sl false), (.ptr 0 4 0), .bool, (.int .i64), (.int .i64), (.int .i64), .str, (.sl false), (.sl false)] y18.2.1) (cnd (chkU [] y18.2.2)
 (some ((.tuple [(.agg [(.int .i64 (intV (gt y18.2.1 5))), (.int .i64 (intV (gt y18.2.1 6))), (.str (strV (gt y18.2.1 7))), (.slice (esV (gt y18.2.1 8)) [] false), (.slice (esV (gt y18.2.1 9)) [] false)]), (.bool (boolV (gt y18.2.1 3)))]), [])) none) none)
 (none))
noncomputable def r1_Get_l1T (name : Str) (l0 : List GMember) : Int → Option (Int ⊕ (Unit ⊕ (Int × Int × Str × (List GValue) × (List GMember))))
 | i_6 =>
 cnd (decide (i_6 < (List.length l0 : Int)))
  (bnd (nthI l0 i_6) fun y8 =>
  cnd (y8.name == name)
  (bnd (nthI l0 i_6) fun y10 =>
  some (.inr (.inr (y10.v.kind, y10.v.n, y10.v.s, y10.v.l, y10.v.m))))
  (some (.inl (IntKind.wrap .i64 (i_6 + 1)))))
  (some (.inr (.inl ())))
abbrev r1_Get_l1R (name : Str) (l0 : List GMember) (st : Int) (l : List PV) (u : UP) : Prop := l = [(.str name), (.slice (List.map encMember l0) [] false), (.ptr 0 4 0), (.bool false), (.int .i64 st), (.int .i64 0), (.int .i64 0), (.str []), (.slice [] [] true), (.slice [] [] true)] ∧ u = []
abbrev r1_Get_l1X (name : Str) (l0 : List GMember) (p : Unit ⊕ (Int × Int × Str × (List GValue) × (List GMember))) (r : Ex × List PV × UP) : Prop := elim p (fun (p : Unit) => ∃ (i_11 : Int), r = (Ex.brk 0, [(.str name), (.slice (List.map encMember l0) [] false), (.ptr 0 4 0), (.bool false), (.int .i64 i_11), (.int .i64 0), (.int .i64 0), (.str []), (.slice [] [] true), (.slice [] [] true)], [])) (fun q2 => (fun (p : Int × Int × Str × (List GValue) × (List GMember)) => ∃ (i_12 : Int), r = (Ex.ret, [(.str name), (.slice (List.map encMember l0) [] false), (.ptr 0 4 0), (.bool true), (.int .i64 i_12), (.int .i64 p.1), (.int .i64 p.2.1), (.str p.2.2.1), (.slice (List.map encValue p.2.2.2.1) [] false), (.slice (List.map encMember p.2.2.2.2) [] false)], [])) q2)
noncomputable def r1_Get_B (name : Str) (l0 : List GMember) : Option (GValue × Bool) :=
 bnd (tloop (r1_Get_l1T name l0) 0) fun e18_2 => elim e18_2
 (fun p18 =>
 some ((GValue.mk 0 0 [] ([] : List GValue) ([] : List GMember)), false))
 (fun p18 =>
 some ((GValue.mk p18.1 p18.2.1 p18.2.2.1 p18.2.2.2.1 p18.2.2.2.2), true))
def r1_Get_ds : Decs := { decs := [(15, (.ref shMember)), (22, (.ref shMember))], ups := [], loops := [(2, [(4, 5)], ⟨[.str, (.sl false), (.ptr 0 4 0), .bool, (.int .i64), (.int .i64), (.int .i64), .str, (.sl true), (.sl true)], [], [(some 0, [.str, (.sl false), (.ptr 0 4 0), .bool, (.int .i64), (.int .i64), (.int .i64), .str, (.sl true), (.sl true)], []), (none, [.str, (.sl false), (.ptr 0 4 0), .bool, (.int .i64), (.int .i64), (.int .i64), .str, (.sl false), (.sl false)], [])]⟩)] }
set_option maxRecDepth 100000 in
theorem r1_Get_t1 (O : Orc) (LP : LBody → LBody) (name : Str) (l0 : List GMember) : evalBodyD Try.prog (MT 59) r1_Get_ds Try.f59.ntmps O LP Try.f59 [(.str name), (.slice (List.map encMember l0) [] false)] [] = r1_Get_T1 O LP name l0 := by kernel_rfl
theorem r1_Get_l1_ok (name : Str) (l0 : List GMember) : ∀ st l u, r1_Get_l1R name l0 st l u → Imp (r1_Get_l1T name l0 st) (r1_Get_l1 O loopLim l u) (StepR (r1_Get_l1R name l0) (r1_Get_l1X name l0)) := by
 rintro i_6 l u ⟨rfl, rfl⟩
 simp only [r1_Get_l1T, r1_Get_l1]
 refine Imp.chk rfl (Imp.chk rfl ?_)
 try simp only [evs, tys]
 refine Imp.cnd ?_ ?_
 ·refine Imp.op (f := fun a => .ref (encMember a)) (fun a h => op_ix (enc := encMember) (by first | rfl | simp only [evs, tys, evl]) ⟨by first | rfl | simp only [evs, tys, evc], by decide⟩ h) (fun a => chk_GMember a) fun y8 hy8 => ?_
  try simp only [evs, tys]
  refine Imp.cnd ?_ ?_
  ·refine Imp.op (f := fun a => .ref (encMember a)) (fun a h => op_ix (enc := encMember) (by first | rfl | simp only [evs, tys, evl]) ⟨by first | rfl | simp only [evs, tys, evc], by decide⟩ h) (fun a => chk_GMember a) fun y10 hy10 => ?_
   try simp only [evs, tys]
   exact Imp.some (StepR.ret ⟨i_6, by first | rfl | simp only [evs, tys, evl, elim_inl, elim_inr]⟩)
  ·exact Imp.some (StepR.next ⟨by first | rfl | simp only [evs, tys, evl], rfl⟩)
 ·exact Imp.some (StepR.brk ⟨i_6, by first | rfl | simp only [evs, tys, evl, elim_inl, elim_inr]⟩)
theorem r1_Get_imp (name : Str) (l0 : List GMember) : Imp (r1_Get_B name l0) (r1_Get_T1 O loopLim name l0) (fun r v => v = (r1_GetE r, [])) := by
 simp only [r1_Get_B, r1_Get_T1]
 try simp only [evs, tys]
 refine Imp.bnd (Imp.loop (r1_Get_l1_ok name l0) ⟨by first | rfl | simp only [evs, tys, evl], rfl⟩) ?_
 rintro (p | ⟨b_13, b_14, b_15, b_16, b_17⟩) vy18 hy18
 ·try simp only [elim_inl, elim_inr]
  obtain ⟨i_11, rfl⟩ := hy18
  refine Imp.exHit rfl (Imp.chk rfl (Imp.chk rfl ?_))
  try simp only [evs, tys]
  exact Imp.some (by first | rfl | simp only [r1_GetE, evs, tys, evl])
 ·try simp only [elim_inl, elim_inr]
  obtain ⟨i_12, rfl⟩ := hy18
  refine Imp.exMiss rfl ?_
  refine Imp.exHit rfl (Imp.chk rfl (Imp.chk rfl ?_))
  try simp only [evs, tys]
  exact Imp.some (by first | rfl | simp only [r1_GetE, evs, tys, evl])
theorem r1_Get_run {name : Str} {l0 : List GMember} {r : GValue × Bool} (h : r1_Get_B name l0 = some r) : r1_Get name l0 = some r := by
 obtain ⟨v, hv, rfl⟩ := r1_Get_imp name l0 r h
 exact tO_of (pair_inj r1_GetEj) (OL_runD r1_Get_ds rfl rfl Try.func59 ((r1_Get_t1 _ _ name l0).trans hv))
def r1_Same_l1 (O : Orc) (LP : LBody → LBody) : LBody := fun s1 s1u => cnd (chkL [(.ptr 0 2 0), (.ptr 0 3 0), .bool, (.int .i64), (.int .i64), (.int .i64), .str, (.sl false), (.sl false), (.int .i64), (.int .i64), .str, (.sl false), (.sl false)] s1) (cnd (chkU [] s1u)
 (cnd (decide ((intV (gt s1 3)) < (List.length (esV (gt s1 12)) : Int)))
 (bnd (ix 5 (.slice (esV (gt s1 12)) [] false) (.int .i64 (intV (gt s1 3)))) fun x9 => cnd (chk (.ref shValue) x9)
 (bnd (ix 5 (.slice (esV (gt s1 7)) [] false) (.int .i64 (intV (gt s1 3)))) fun x11 => cnd (chk (.ref shValue) x11)
 (callp O 60 [(.agg [(.int .i64 (intV (gt (aggV (refV x9)) 0))), (.int .i64 (intV (gt (aggV (refV x9)) 1))), (.str (strV (gt (aggV (refV x9)) 2))), (.slice (esV (gt (aggV (refV x9)) 3)) [] false), (.slice (esV (gt (aggV (refV x9)) 4)) [] false)]), (.agg [(.int .i64 (intV (gt (aggV (refV x11)) 0))), (.int .i64 (intV (gt (aggV (refV x11)) 1))), (.str (strV (gt (aggV (refV x11)) 2))), (.slice (esV (gt (aggV (refV x11)) 3)) [] false), (.slice (esV (gt (aggV (refV x11)) 4)) [] false)])] fun x13 => cnd (chk .bool x13)
 (cnd (!(boolV x13))
 (some (.ret, [(.ptr 0 2 0), (.ptr 0 3 0), (.bool false), (.int .i64 (intV (gt s1 3))), (.int .i64 (intV (gt s1 4))), (.int .i64 (intV (gt s1 5))), (.str (strV (gt s1 6))), (.slice (esV (gt s1 7)) [] false), (.slice (esV (gt s1 8)) [] false), (.int .i64 (intV (gt s1 9))), (.int .i64 (intV (gt s1 10))), (.str (strV (gt s1 11))), (.slice (esV (gt s1 12)) [] false), (.slice (esV (gt s1 13)) [] false)], []))
 (some (.nrm, [(.ptr 0 2 0), (.ptr 0 3 0), (.bool (boolV (gt s1 2))), (.int .i64 (IntKind.wrap .i64 ((intV (gt s1 3)) + 1))), (.int .i64 (intV (gt s1 4))), (.int .i64 (intV (gt s1 5))), (.str (strV (gt s1 6))), (.slice (esV (gt s1 7)) [] false), (.slice (esV (gt s1 8)) [] false), (.int .i64 (intV (gt s1 9))), (.int .i64 (intV (gt s1 10))), (.str (strV (gt s1 11))), (.slice (esV (gt s1 12)) [] false), (.slice (esV (gt s1 13)) [] false)], []))) none) none) none)
 (some (.brk 0, [(.ptr 0 2 0), (.ptr 0 3 0), (.bool (boolV (gt s1 2))), (.int .i64 (intV (gt s1 3))), (.int .i64 (intV (gt s1 4))), (.int .i64 (intV (gt s1 5))), (.str (strV (gt s1 6))), (.slice (esV (gt s1 7)) [] false), (.slice (esV (gt s1 8)) [] false), (.int .i64 (intV (gt s1 9))), (.int .i64 (intV (gt s1 10))), (.str (strV (gt s1 11))), (.slice (esV (gt s1 12)) [] false), (.slice (esV (gt s1 13)) [] false)], []))) none) none
def r1_Same_T1 (O : Orc) (LP : LBody → LBody) (a : GValue) (b : GValue) : Option (PV × UP) :=
 cnd (a.kind != b.kind)
 (some ((.bool false), []))
 (cnd (a.n != b.n)
 (some ((.bool false), []))
 (cnd (!(a.s == b.s))
 (some ((.bool false), []))
 (cnd ((List.length (List.map encValue a.l) : Int) != (List.length (List.map encValue b.l) : Int))
 (some ((.bool false), []))
 (bnd (LP (r1_Same_l1 O LP) [(.ptr 0 2 0), (.ptr 0 3 0), (.bool false), (.int .i64 0), (.int .i64 b.kind), (.int .i64 b.n), (.str b.s), (.slice (List.map encValue b.l) [] false), (.slice (List.map encMember b.m) [] false), (.int .i64 a.kind), (.int .i64 a.n), (.str a.s), (.slice (List.map encValue a.l) [] false), (.slice (List.map encMember a.m) [] false)] []) fun y17 =>
 exIs y17.1 (some 0) (cnd (chkL [(.ptr 0 2 0), (.ptr 0 3 0), .bool, (.int .i64), (.int .i64), (.int .i64), .str, (.sl false), (.sl false), (.int .i64), (.int .i64), .str, (.sl false), (.sl false)] y17.2.1) (cnd (chkU [] y17.2.2)
 (callp O 42 [(.slice (esV (gt y17.2.1 13)) [] false), (.slice (esV (gt y17.2.1 8)) [] false)] fun x18 => cnd (chk .bool x18)
 (some ((.bool (boolV x18)), [])) none) none) none)
 (exIs y17.1 none (cnd (chkL [(.ptr 0 2 0), (.ptr 0 3 0), .bool, (.int .i64), (.int .i64), (.int .i64), .str, (.sl false), (.sl false), (.int .i64), (.int .i64), .str, (.sl false), (.sl false)] y17.2.1) (cnd (chkU [] y17.2.2)
 (some ((.bool (boolV (gt y17.2.1 2))), [])) none) none)
 (none))))))
noncomputable def r1_Same_l1T (a : GValue) (b : GValue) : Int → Option (Int ⊕ (Unit ⊕ Unit))
 | i_8 =>
 cnd (decide (i_8 < (List.length a.l : Int)))
  (bnd (nthI a.l i_8) fun y10 =>
  bnd (nthI b.l i_8) fun y12 =>
  bnd (r1_Same y10 y12) fun y14 =>
  cnd (!y14)
  (some (.inr (.inr ())))
  (some (.inl (IntKind.wrap .i64 (i_8 + 1)))))
  (some (.inr (.inl ())))
abbrev r1_Same_l1R (a : GValue) (b : GValue) (st : Int) (l : List PV) (u : UP) : Prop := l = [(.ptr 0 2 0), (.ptr 0 3 0), (.bool false), (.int .i64 st), (.int .i64 b.kind), (.int .i64 b.n), (.str b.s), (.slice (List.map encValue b.l) [] false), (.slice (List.map encMember b.m) [] false), (.int .i64 a.kind), (.int .i64 a.n), (.str a.s), (.slice (List.map encValue a.l) [] false), (.slice (List.map encMember a.m) [] false)] ∧ u = []
abbrev r1_Same_l1X (a : GValue) (b : GValue) (p : Unit ⊕ Unit) (r : Ex × List PV × UP) : Prop := elim p (fun (p : Unit) => ∃ (i_15 : Int), r = (Ex.brk 0, [(.ptr 0 2 0), (.ptr 0 3 0), (.bool false), (.int .i64 i_15), (.int .i64 b.kind), (.int .i64 b.n), (.str b.s), (.slice (List.map encValue b.l) [] false), (.slice (List.map encMember b.m) [] false), (.int .i64 a.kind), (.int .i64 a.n), (.str a.s), (.slice (List.map encValue a.l) [] false), (.slice (List.map encMember a.m) [] false)], [])) (fun q2 => (fun (p : Unit) => ∃ (i_16 : Int), r = (Ex.ret, [(.ptr 0 2 0), (.ptr 0 3 0), (.bool false), (.int .i64 i_16), (.int .i64 b.kind), (.int .i64 b.n), (.str b.s), (.slice (List.map encValue b.l) [] false), (.slice (List.map encMember b.m) [] false), (.int .i64 a.kind), (.int .i64 a.n), (.str a.s), (.slice (List.map encValue a.l) [] false), (.slice (List.map encMember a.m) [] false)], [])) q2)
noncomputable def r1_Same_B (a : GValue) (b : GValue) : Option Bool :=
 cnd (a.kind != b.kind)
 (some false)
 (cnd (a.n != b.n)
 (some false)
 (cnd (!(a.s == b.s))
 (some false)
 (cnd ((List.length a.l : Int) != (List.length b.l : Int))
 (some false)
 (bnd (tloop (r1_Same_l1T a b) 0) fun e17_2 => elim e17_2
 (fun p17 =>
 bnd (r1_Members a.m b.m) fun y19 =>
 some y19)
 (fun p17 =>
 some false)))))
def r1_Same_ds : Decs := { decs := [(44, (.ref shValue)), (49, (.ref shValue)), (51, .bool), (57, .bool)], ups := [], loops := [(4, [(3, 5), (2, 5)], ⟨[(.ptr 0 2 0), (.ptr 0 3 0), .bool, (.int .i64), (.int .i64), (.int .i64), .str, (.sl false), (.sl false), (.int .i64), (.int .i64), .str, (.sl false), (.sl false)], [], [(some 0, [(.ptr 0 2 0), (.ptr 0 3 0), .bool, (.int .i64), (.int .i64), (.int .i64), .str, (.sl false), (.sl false), (.int .i64), (.int .i64), .str, (.sl false), (.sl false)], []), (none, [(.ptr 0 2 0), (.ptr 0 3 0), .bool, (.int .i64), (.int .i64), (.int .i64), .str, (.sl false), (.sl false), (.int .i64), (.int .i64), .str, (.sl false), (.sl false)], [])]⟩)] }
set_option maxRecDepth 100000 in
theorem r1_Same_t1 (O : Orc) (LP : LBody → LBody) (a : GValue) (b : GValue) : evalBodyD Try.prog (MT 60) r1_Same_ds Try.f60.ntmps O LP Try.f60 [(.agg [(.int .i64 a.kind), (.int .i64 a.n), (.str a.s), (.slice (List.map encValue a.l) [] false), (.slice (List.map encMember a.m) [] false)]), (.agg [(.int .i64 b.kind), (.int .i64 b.n), (.str b.s), (.slice (List.map encValue b.l) [] false), (.slice (List.map encMember b.m) [] false)])] [] = r1_Same_T1 O LP a b := by kernel_rfl
theorem r1_Same_l1_ok (a : GValue) (b : GValue) : ∀ st l u, r1_Same_l1R a b st l u → Imp (r1_Same_l1T a b st) (r1_Same_l1 O loopLim l u) (StepR (r1_Same_l1R a b) (r1_Same_l1X a b)) := by
 rintro i_8 l u ⟨rfl, rfl⟩
 simp only [r1_Same_l1T, r1_Same_l1]
 refine Imp.chk rfl (Imp.chk rfl ?_)
 try simp only [evs, tys]
 refine Imp.cnd ?_ ?_
 ·refine Imp.op (f := fun a => .ref (encValue a)) (fun a h => op_ix (enc := encValue) (by first | rfl | simp only [evs, tys, evl]) ⟨by first | rfl | simp only [evs, tys, evc], by decide⟩ h) (fun a => chk_GValue a) fun y10 hy10 => ?_
  try simp only [evs, tys]
  refine Imp.op (f := fun a => .ref (encValue a)) (fun a h => op_ix (enc := encValue) (by first | rfl | simp only [evs, tys, evl]) ⟨by first | rfl | simp only [evs, tys, evc], by decide⟩ h) (fun a => chk_GValue a) fun y12 hy12 => ?_
  try simp only [evs, tys]
  refine Imp.call (f := r1_SameE) rfl (fun a h => by first | exact r1_Same_spec h | simpa only [evs, tys, evl] using r1_Same_spec h) (fun a => by first | rfl | simp only [r1_SameE, evk, chks]) fun y14 hy14 => ?_
  try simp only [r1_SameE, evs, tys]
  refine Imp.cnd ?_ ?_
  ·exact Imp.some (StepR.ret ⟨i_8, by first | rfl | simp only [evs, tys, evl, elim_inl, elim_inr]⟩)
  ·exact Imp.some (StepR.next ⟨by first | rfl | simp only [evs, tys, evl], rfl⟩)
 ·exact Imp.some (StepR.brk ⟨i_8, by first | rfl | simp only [evs, tys, evl, elim_inl, elim_inr]⟩)
theorem r1_Same_imp (a : GValue) (b : GValue) : Imp (r1_Same_B a b) (r1_Same_T1 O loopLim a b) (fun r v => v = (r1_SameE r, [])) := by
 simp only [r1_Same_B, r1_Same_T1]
 try simp only [evs, tys]
 refine Imp.cnd ?_ ?_
 ·exact Imp.some (by first | rfl | simp only [r1_SameE, evs, tys, evl])
 ·refine Imp.cnd ?_ ?_
  ·exact Imp.some (by first | rfl | simp only [r1_SameE, evs, tys, evl])
  ·refine Imp.cnd ?_ ?_
   ·exact Imp.some (by first | rfl | simp only [r1_SameE, evs, tys, evl])
   ·refine Imp.cnd ?_ ?_
    ·exact Imp.some (by first | rfl | simp only [r1_SameE, evs, tys, evl])
    ·refine Imp.bnd (Imp.loop (r1_Same_l1_ok a b) ⟨by first | rfl | simp only [evs, tys, evl], rfl⟩) ?_
     rintro (p | p) vy17 hy17
     ·try simp only [elim_inl, elim_inr]
      obtain ⟨i_15, rfl⟩ := hy17
      refine Imp.exHit rfl (Imp.chk rfl (Imp.chk rfl ?_))
      try simp only [evs, tys]
      refine Imp.call (f := r1_MembersE) rfl (fun a h => by first | exact r1_Members_spec h | simpa only [evs, tys, evl] using r1_Members_spec h) (fun a => by first | rfl | simp only [r1_MembersE, evk, chks]) fun y19 hy19 => ?_
      try simp only [r1_MembersE, evs, tys]
      exact Imp.some (by first | rfl | simp only [r1_SameE, evs, tys, evl])
     ·try simp only [elim_inl, elim_inr]
      obtain ⟨i_16, rfl⟩ := hy17
      refine Imp.exMiss rfl ?_
      refine Imp.exHit rfl (Imp.chk rfl (Imp.chk rfl ?_))
      try simp only [evs, tys]
      exact Imp.some (by first | rfl | simp only [r1_SameE, evs, tys, evl])
theorem r1_Same_run {a : GValue} {b : GValue} {r : Bool} (h : r1_Same_B a b = some r) : r1_Same a b = some r := by
 obtain ⟨v, hv, rfl⟩ := r1_Same_imp a b r h
 exact tO_of (pair_inj r1_SameEj) (OL_runD r1_Same_ds rfl rfl Try.func60 ((r1_Same_t1 _ _ a b).trans hv))
open Go Go.Ev Go.Ev.PV
def defs_Leaf_T1 (O : Orc) (LP : LBody → LBody) (s : GSchema) (name : Str) : Option (PV × UP) :=
 callp O 76 [(.agg [(.slice (List.map encDef s.defs) [] false), (.str s.query), (.str s.mutation)]), (.str name), (.slice [(.int .i64 0), (.int .i64 4)] [] false)] fun x1 => cnd (chk .bool x1)
 (some ((.bool (boolV x1)), [])) none
noncomputable def defs_Leaf_B (s : GSchema) (name : Str) : Option Bool :=
 bnd (defs_Kind s name [0, 4]) fun y2 =>
 some y2
def defs_Leaf_ds : Decs := { decs := [(8, .bool)], ups := [], loops := [] }
set_option maxRecDepth 100000 in
theorem defs_Leaf_t1 (O : Orc) (LP : LBody → LBody) (s : GSchema) (name : Str) : evalBodyD Try.prog (MT 61) defs_Leaf_ds Try.f61.ntmps O LP Try.f61 [(.agg [(.slice (List.map encDef s.defs) [] false), (.str s.query), (.str s.mutation)]), (.str name)] [] = defs_Leaf_T1 O LP s name := by kernel_rfl
theorem defs_Leaf_imp (s : GSchema) (name : Str) : Imp (defs_Leaf_B s name) (defs_Leaf_T1 O loopLim s name) (fun r v => v = (defs_LeafE r, [])) := by
 simp only [defs_Leaf_B, defs_Leaf_T1]
 try simp only [evs, tys]
 refine Imp.call (f := defs_KindE) rfl (fun a h => by first | exact defs_Kind_spec h | simpa only [evs, tys, evl] using defs_Kind_spec h) (fun a => by first | rfl | simp only [defs_KindE, evk, chks]) fun y2 hy2 => ?_
 try simp only [defs_KindE, evs, tys]
 exact Imp.some (by first | rfl | simp only [defs_LeafE, evs, tys, evl])
theorem defs_Leaf_run {s : GSchema} {name : Str} {r : Bool} (h : defs_Leaf_B s name = some r) : defs_Leaf s name = some r := by
 obtain ⟨v, hv, rfl⟩ := defs_Leaf_imp s name r h
 exact tO_of (pair_inj defs_LeafEj) (OL_runD defs_Leaf_ds rfl rfl Try.func61 ((defs_Leaf_t1 _ _ s name).trans hv))
def seineref9_Leaf_T1 (O : Orc) (LP : LBody → LBody) (s : GSchema) (name : Str) : Option (PV × UP) :=
 callp O 86 [(.agg [(.slice (List.map encDef s.defs) [] false), (.str s.query), (.str s.mutation)]), (.str name), (.int .i64 0), (.int .i64 4), (.int .i64 4)] fun x1 => cnd (chk .bool x1)
 (some ((.bool (boolV x1)), [])) none
noncomputable def seineref9_Leaf_B (s : GSchema) (name : Str) : Option Bool :=
 bnd (seineref9_is s name 0 4 4) fun y2 =>
 some y2
def seineref9_Leaf_ds : Decs := { decs := [(7, .bool)], ups := [], loops := [] }
set_option maxRecDepth 100000 in
theorem seineref9_Leaf_t1 (O : Orc) (LP : LBody → LBody) (s : GSchema) (name : Str) : evalBodyD Try.prog (MT 63) seineref9_Leaf_ds Try.f63.ntmps O LP Try.f63 [(.agg [(.slice (List.map encDef s.defs) [] false), (.str s.query), (.str s.mutation)]), (.str name)] [] = seineref9_Leaf_T1 O LP s name := by kernel_rfl
theorem seineref9_Leaf_imp (s : GSchema) (name : Str) : Imp (seineref9_Leaf_B s name) (seineref9_Leaf_T1 O loopLim s name) (fun r v => v = (seineref9_LeafE r, [])) := by
 simp only [seineref9_Leaf_B, seineref9_Leaf_T1]
 try simp only [evs, tys]
 refine Imp.call (f := seineref9_isE) rfl (fun a h => by first | exact seineref9_is_spec h | simpa only [evs, tys, evl] using seineref9_is_spec h) (fun a => by first | rfl | simp only [seineref9_isE, evk, chks]) fun y2 hy2 => ?_
 try simp only [seineref9_isE, evs, tys]
 exact Imp.some (by first | rfl | simp only [seineref9_LeafE, evs, tys, evl])
theorem seineref9_Leaf_run {s : GSchema} {name : Str} {r : Bool} (h : seineref9_Leaf_B s name = some r) : seineref9_Leaf s name = some r := by
 obtain ⟨v, hv, rfl⟩ := seineref9_Leaf_imp s name r h
 exact tO_of (pair_inj seineref9_LeafEj) (OL_runD seineref9_Leaf_ds rfl rfl Try.func63 ((seineref9_Leaf_t1 _ _ s name).trans hv))
def seineref9_Composite_T1 (O : Orc) (LP : LBody → LBody) (s : GSchema) (name : Str) : Option (PV × UP) :=
 callp O 86 [(.agg [(.slice (List.map encDef s.defs) [] false), (.str s.query), (.str s.mutation)]), (.str name), (.int .i64 1), (.int .i64 2), (.int .i64 3)] fun x1 => cnd (chk .bool x1)
 (some ((.bool (boolV x1)), [])) none
noncomputable def seineref9_Composite_B (s : GSchema) (name : Str) : Option Bool :=
 bnd (seineref9_is s name 1 2 3) fun y2 =>
 some y2
def seineref9_Composite_ds : Decs := { decs := [(7, .bool)], ups := [], loops := [] }
set_option maxRecDepth 100000 in
theorem seineref9_Composite_t1 (O : Orc) (LP : LBody → LBody) (s : GSchema) (name : Str) : evalBodyD Try.prog (MT 64) seineref9_Composite_ds Try.f64.ntmps O LP Try.f64 [(.agg [(.slice (List.map encDef s.defs) [] false), (.str s.query), (.str s.mutation)]), (.str name)] [] = seineref9_Composite_T1 O LP s name := by kernel_rfl
theorem seineref9_Composite_imp (s : GSchema) (name : Str) : Imp (seineref9_Composite_B s name) (seineref9_Composite_T1 O loopLim s name) (fun r v => v = (seineref9_CompositeE r, [])) := by
 simp only [seineref9_Composite_B, seineref9_Composite_T1]
 try simp only [evs, tys]
 refine Imp.call (f := seineref9_isE) rfl (fun a h => by first | exact seineref9_is_spec h | simpa only [evs, tys, evl] using seineref9_is_spec h) (fun a => by first | rfl | simp only [seineref9_isE, evk, chks]) fun y2 hy2 => ?_
 try simp only [seineref9_isE, evs, tys]
 exact Imp.some (by first | rfl | simp only [seineref9_CompositeE, evs, tys, evl])
theorem seineref9_Composite_run {s : GSchema} {name : Str} {r : Bool} (h : seineref9_Composite_B s name = some r) : seineref9_Composite s name = some r := by
 obtain ⟨v, hv, rfl⟩ := seineref9_Composite_imp s name r h
 exact tO_of (pair_inj seineref9_CompositeEj) (OL_runD seineref9_Composite_ds rfl rfl Try.func64 ((seineref9_Composite_t1 _ _ s name).trans hv))
def defs_scalar_T1 (O : Orc) (LP : LBody → LBody) (name : Str) : Option (PV × UP) :=
 cnd (name == ([73, 110, 116] : Str))
 (some ((.bool true), []))
 (cnd (name == ([83, 116, 114, 105, 110, 103] : Str))
 (some ((.bool true), []))
 (cnd (name == ([66, 111, 111, 108, 101, 97, 110] : Str))
 (some ((.bool true), []))
 (some ((.bool (name == ([73, 68] : Str))), []))))
noncomputable def defs_scalar_B (name : Str) : Option Bool :=
 cnd (name == ([73, 110, 116] : Str))
 (some true)
 (cnd (name == ([83, 116, 114, 105, 110, 103] : Str))
 (some true)
 (cnd (name == ([66, 111, 111, 108, 101, 97, 110] : Str))
 (some true)
 (some (name == ([73, 68] : Str)))))
def defs_scalar_ds : Decs := { decs := [], ups := [], loops := [] }
set_option maxRecDepth 100000 in
theorem defs_scalar_t1 (O : Orc) (LP : LBody → LBody) (name : Str) : evalBodyD Try.prog (MT 89) defs_scalar_ds Try.f89.ntmps O LP Try.f89 [(.str name)] [] = defs_scalar_T1 O LP name := by kernel_rfl
theorem defs_scalar_imp (name : Str) : Imp (defs_scalar_B name) (defs_scalar_T1 O loopLim name) (fun r v => v = (defs_scalarE r, [])) := by
 simp only [defs_scalar_B, defs_scalar_T1]
 try simp only [evs, tys]
 refine Imp.cnd ?_ ?_
 ·exact Imp.some (by first | rfl | simp only [defs_scalarE, evs, tys, evl])
 ·refine Imp.cnd ?_ ?_
  ·exact Imp.some (by first | rfl | simp only [defs_scalarE, evs, tys, evl])
  ·refine Imp.cnd ?_ ?_
   ·exact Imp.some (by first | rfl | simp only [defs_scalarE, evs, tys, evl])
   ·exact Imp.some (by first | rfl | simp only [defs_scalarE, evs, tys, evl])
theorem defs_scalar_run {name : Str} {r : Bool} (h : defs_scalar_B name = some r) : defs_scalar name = some r := by
 obtain ⟨v, hv, rfl⟩ := defs_scalar_imp name r h
 exact tO_of (pair_inj defs_scalarEj) (OL_runD defs_scalar_ds rfl rfl Try.func89 ((defs_scalar_t1 _ _ name).trans hv))
def slices_Index_int_int_l1 (O : Orc) (LP : LBody → LBody) : LBody := fun s1 s1u => cnd (chkL [(.sl false), (.int .i64), (.int .i64), (.int .i64), (.int .i64)] s1) (cnd (chkU [] s1u)
 (cnd (decide ((intV (gt s1 4)) < (intV (gt s1 3))))
 (bnd (ix 1 (.slice (esV (gt s1 0)) [] false) (.int .i64 (intV (gt s1 4)))) fun x5 => cnd (chk (.ref (.int .i64)) x5)
 (cnd ((intV (gt s1 1)) == (intV (refV x5)))
 (some (.ret, [(.slice (esV (gt s1 0)) [] false), (.int .i64 (intV (gt s1 1))), (.int .i64 (intV (gt s1 4))), (.int .i64 (intV (gt s1 3))), (.int .i64 (intV (gt s1 4)))], []))
 (some (.nrm, [(.slice (esV (gt s1 0)) [] false), (.int .i64 (intV (gt s1 1))), (.int .i64 (intV (gt s1 2))), (.int .i64 (intV (gt s1 3))), (.int .i64 (IntKind.wrap .i64 ((intV (gt s1 4)) + 1)))], []))) none)
 (some (.brk 0, [(.slice (esV (gt s1 0)) [] false), (.int .i64 (intV (gt s1 1))), (.int .i64 (intV (gt s1 2))), (.int .i64 (intV (gt s1 3))), (.int .i64 (intV (gt s1 4)))], []))) none) none
def slices_Index_int_int_T1 (O : Orc) (LP : LBody → LBody) (s : List Int) (v0 : Int) : Option (PV × UP) :=
 bnd (LP (slices_Index_int_int_l1 O LP) [(.slice (List.map (PV.int .i64) s) [] false), (.int .i64 v0), (.int .i64 0), (.int .i64 (List.length (List.map (PV.int .i64) s) : Int)), (.int .i64 0)] []) fun y10 =>
 exIs y10.1 (some 0) (cnd (chkL [(.sl false), (.int .i64), (.int .i64), (.int .i64), (.int .i64)] y10.2.1) (cnd (chkU [] y10.2.2)
 (some ((.int .i64 (-1)), [])) none) none)
 (exIs y10.1 none (cnd (chkL [(.sl false), (.int .i64), (.int .i64), (.int .i64), (.int .i64)] y10.2.1) (cnd (chkU [] y10.2.2)
 (some ((.int .i64 (intV (gt y10.2.1 2))), [])) none) none)
 (none))
noncomputable def slices_Index_int_int_l1T (s : List Int) (v0 : Int) : Int → Option (Int ⊕ (Unit ⊕ Int))
 | t_4 =>
 cnd (decide (t_4 < (List.length s : Int)))
  (bnd (nthI s t_4) fun y6 =>
  cnd (v0 == y6)
  (some (.inr (.inr t_4)))
  (some (.inl (IntKind.wrap .i64 (t_4 + 1)))))
  (some (.inr (.inl ())))
abbrev slices_Index_int_int_l1R (s : List Int) (v0 : Int) (st : Int) (l : List PV) (u : UP) : Prop := l = [(.slice (List.map (PV.int .i64) s) [] false), (.int .i64 v0), (.int .i64 0), (.int .i64 (List.length s : Int)), (.int .i64 st)] ∧ u = []
abbrev slices_Index_int_int_l1X (s : List Int) (v0 : Int) (p : Unit ⊕ Int) (r : Ex × List PV × UP) : Prop := elim p (fun (p : Unit) => ∃ (t_7 : Int), r = (Ex.brk 0, [(.slice (List.map (PV.int .i64) s) [] false), (.int .i64 v0), (.int .i64 0), (.int .i64 (List.length s : Int)), (.int .i64 t_7)], [])) (fun q2 => (fun (p : Int) => ∃ (t_9 : Int), r = (Ex.ret, [(.slice (List.map (PV.int .i64) s) [] false), (.int .i64 v0), (.int .i64 p), (.int .i64 (List.length s : Int)), (.int .i64 t_9)], [])) q2)
noncomputable def slices_Index_int_int_B (s : List Int) (v0 : Int) : Option Int :=
 bnd (tloop (slices_Index_int_int_l1T s v0) 0) fun e10_2 => elim e10_2
 (fun p10 =>
 some (-1))
 (fun t_8 =>
 some t_8)
def slices_Index_int_int_ds : Decs := { decs := [(14, (.ref (.int .i64)))], ups := [], loops := [(2, [], ⟨[(.sl false), (.int .i64), (.int .i64), (.int .i64), (.int .i64)], [], [(some 0, [(.sl false), (.int .i64), (.int .i64), (.int .i64), (.int .i64)], []), (none, [(.sl false), (.int .i64), (.int .i64), (.int .i64), (.int .i64)], [])]⟩)] }
set_option maxRecDepth 100000 in
theorem slices_Index_int_int_t1 (O : Orc) (LP : LBody → LBody) (s : List Int) (v0 : Int) : evalBodyD Try.prog (MT 98) slices_Index_int_int_ds Try.f98.ntmps O LP Try.f98 [(.slice (List.map (PV.int .i64) s) [] false), (.int .i64 v0)] [] = slices_Index_int_int_T1 O LP s v0 := by kernel_rfl
theorem slices_Index_int_int_l1_ok (s : List Int) (v0 : Int) : ∀ st l u, slices_Index_int_int_l1R s v0 st l u → Imp (slices_Index_int_int_l1T s v0 st) (slices_Index_int_int_l1 O loopLim l u) (StepR (slices_Index_int_int_l1R s v0) (slices_Index_int_int_l1X s v0)) := by
 rintro t_4 l u ⟨rfl, rfl⟩
 simp only [slices_Index_int_int_l1T, slices_Index_int_int_l1]
 refine Imp.chk rfl (Imp.chk rfl ?_)
 try simp only [evs, tys]
 refine Imp.cnd ?_ ?_
 ·refine Imp.op (f := fun a => .ref ((PV.int .i64) a)) (fun a h => op_ix (enc := (PV.int .i64)) (by first | rfl | simp only [evs, tys, evl]) ⟨by first | rfl | simp only [evs, tys, evc], by decide⟩ h) (fun a => rfl) fun y6 hy6 => ?_
  try simp only [evs, tys]
  refine Imp.cnd ?_ ?_
  ·exact Imp.some (StepR.ret ⟨t_4, by first | rfl | simp only [evs, tys, evl, elim_inl, elim_inr]⟩)
  ·exact Imp.some (StepR.next ⟨by first | rfl | simp only [evs, tys, evl], rfl⟩)
 ·exact Imp.some (StepR.brk ⟨t_4, by first | rfl | simp only [evs, tys, evl, elim_inl, elim_inr]⟩)
theorem slices_Index_int_int_imp (s : List Int) (v0 : Int) : Imp (slices_Index_int_int_B s v0) (slices_Index_int_int_T1 O loopLim s v0) (fun r v => v = (slices_Index_int_intE r, [])) := by
 simp only [slices_Index_int_int_B, slices_Index_int_int_T1]
 try simp only [evs, tys]
 refine Imp.bnd (Imp.loop (slices_Index_int_int_l1_ok s v0) ⟨by first | rfl | simp only [evs, tys, evl], rfl⟩) ?_
 rintro (p | t_8) vy10 hy10
 ·try simp only [elim_inl, elim_inr]
  obtain ⟨t_7, rfl⟩ := hy10
  refine Imp.exHit rfl (Imp.chk rfl (Imp.chk rfl ?_))
  try simp only [evs, tys]
  exact Imp.some (by first | rfl | simp only [slices_Index_int_intE, evs, tys, evl])
 ·try simp only [elim_inl, elim_inr]
  obtain ⟨t_9, rfl⟩ := hy10
  refine Imp.exMiss rfl ?_
  refine Imp.exHit rfl (Imp.chk rfl (Imp.chk rfl ?_))
  try simp only [evs, tys]
  exact Imp.some (by first | rfl | simp only [slices_Index_int_intE, evs, tys, evl])
theorem slices_Index_int_int_run {s : List Int} {v0 : Int} {r : Int} (h : slices_Index_int_int_B s v0 = some r) : slices_Index_int_int s v0 = some r := by
 obtain ⟨v, hv, rfl⟩ := slices_Index_int_int_imp s v0 r h
 exact tO_of (pair_inj slices_Index_int_intEj) (OL_runD slices_Index_int_int_ds rfl rfl Try.func98 ((slices_Index_int_int_t1 _ _ s v0).trans hv))
def value_Same_1_T1 (O : Orc) (LP : LBody → LBody) (x : GMember) (y : GMember) : Option (PV × UP) :=
 cnd (x.name == y.name)
 (callp O 58 [(.agg [(.int .i64 x.v.kind), (.int .i64 x.v.n), (.str x.v.s), (.slice (List.map encValue x.v.l) [] false), (.slice (List.map encMember x.v.m) [] false)]), (.agg [(.int .i64 y.v.kind), (.int .i64 y.v.n), (.str y.v.s), (.slice (List.map encValue y.v.l) [] false), (.slice (List.map encMember y.v.m) [] false)])] fun x1 => cnd (chk .bool x1)
 (some ((.bool (boolV x1)), [])) none)
 (some ((.bool false), []))
noncomputable def value_Same_1_B (x : GMember) (y : GMember) : Option Bool :=
 cnd (x.name == y.name)
 (bnd (value_Same x.v y.v) fun y2 =>
 some y2)
 (some false)
def value_Same_1_ds : Decs := { decs := [(15, .bool)], ups := [], loops := [] }
set_option maxRecDepth 100000 in
theorem value_Same_1_t1 (O : Orc) (LP : LBody → LBody) (x : GMember) (y : GMember) : evalBodyD Try.prog (MT 85) value_Same_1_ds Try.f85.ntmps O LP Try.f85 [(.agg [(.str x.name), (.int .i64 x.v.kind), (.int .i64 x.v.n), (.str x.v.s), (.slice (List.map encValue x.v.l) [] false), (.slice (List.map encMember x.v.m) [] false)]), (.agg [(.str y.name), (.int .i64 y.v.kind), (.int .i64 y.v.n), (.str y.v.s), (.slice (List.map encValue y.v.l) [] false), (.slice (List.map encMember y.v.m) [] false)])] [] = value_Same_1_T1 O LP x y := by kernel_rfl
theorem value_Same_1_imp (x : GMember) (y : GMember) : Imp (value_Same_1_B x y) (value_Same_1_T1 O loopLim x y) (fun r v => v = (value_Same_1E r, [])) := by
 simp only [value_Same_1_B, value_Same_1_T1]
 try simp only [evs, tys]
 refine Imp.cnd ?_ ?_
 ·refine Imp.call (f := value_SameE) rfl (fun a h => by first | exact value_Same_spec h | simpa only [evs, tys, evl] using value_Same_spec h) (fun a => by first | rfl | simp only [value_SameE, evk, chks]) fun y2 hy2 => ?_
  try simp only [value_SameE, evs, tys]
  exact Imp.some (by first | rfl | simp only [value_Same_1E, evs, tys, evl])
 ·exact Imp.some (by first | rfl | simp only [value_Same_1E, evs, tys, evl])
theorem value_Same_1_run {x : GMember} {y : GMember} {r : Bool} (h : value_Same_1_B x y = some r) : value_Same_1 x y = some r := by
 obtain ⟨v, hv, rfl⟩ := value_Same_1_imp x y r h
 exact tO_of (pair_inj value_Same_1Ej) (OL_runD value_Same_1_ds rfl rfl Try.func85 ((value_Same_1_t1 _ _ x y).trans hv))
def r1_Members_l1 (O : Orc) (LP : LBody → LBody) : LBody := fun s1 s1u => cnd (chkL [(.sl false), (.sl false), .bool, (.int .i64)] s1) (cnd (chkU [] s1u)
 (cnd (decide ((intV (gt s1 3)) < (List.length (esV (gt s1 0)) : Int)))
 (bnd (ix 6 (.slice (esV (gt s1 0)) [] false) (.int .i64 (intV (gt s1 3)))) fun x13 => cnd (chk (.ref shMember) x13)
 (bnd (ix 6 (.slice (esV (gt s1 1)) [] false) (.int .i64 (intV (gt s1 3)))) fun x15 => cnd (chk (.ref shMember) x15)
 (cnd (!((strV (gt (aggV (refV x13)) 0)) == (strV (gt (aggV (refV x15)) 0))))
 (some (.ret, [(.slice (esV (gt s1 0)) [] false), (.slice (esV (gt s1 1)) [] false), (.bool false), (.int .i64 (intV (gt s1 3)))], []))
 (bnd (ix 6 (.slice (esV (gt s1 0)) [] false) (.int .i64 (intV (gt s1 3)))) fun x17 => cnd (chk (.ref shMember) x17)
 (bnd (ix 6 (.slice (esV (gt s1 1)) [] false) (.int .i64 (intV (gt s1 3)))) fun x19 => cnd (chk (.ref shMember) x19)
 (callp O 60 [(.agg [(.int .i64 (intV (gt (aggV (refV x17)) 1))), (.int .i64 (intV (gt (aggV (refV x17)) 2))), (.str (strV (gt (aggV (refV x17)) 3))), (.slice (esV (gt (aggV (refV x17)) 4)) [] false), (.slice (esV (gt (aggV (refV x17)) 5)) [] false)]), (.agg [(.int .i64 (intV (gt (aggV (refV x19)) 1))), (.int .i64 (intV (gt (aggV (refV x19)) 2))), (.str (strV (gt (aggV (refV x19)) 3))), (.slice (esV (gt (aggV (refV x19)) 4)) [] false), (.slice (esV (gt (aggV (refV x19)) 5)) [] false)])] fun x21 => cnd (chk .bool x21)
 (cnd (!(boolV x21))
 (some (.ret, [(.slice (esV (gt s1 0)) [] false), (.slice (esV (gt s1 1)) [] false), (.bool false), (.int .i64 (intV (gt s1 3)))], []))
 (some (.nrm, [(.slice (esV (gt s1 0)) [] false), (.slice (esV (gt s1 1)) [] false), (.bool (boolV (gt s1 2))), (.int .i64 (IntKind.wrap .i64 ((intV (gt s1 3)) + 1)))], []))) none) none) none)) none) none)
 (some (.brk 0, [(.slice (esV (gt s1 0)) [] false), (.slice (esV (gt s1 1)) [] false), (.bool (boolV (gt s1 2))), (.int .i64 (intV (gt s1 3)))], []))) none) none
def r1_Members_T1 (O : Orc) (LP : LBody → LBody) (a : List GMember) (b : List GMember) : Option (PV × UP) :=
 cnd ((List.length (List.map encMember a) : Int) != (List.length (List.map encMember b) : Int))
 (some ((.bool false), []))
 (bnd (LP (r1_Members_l1 O LP) [(.slice (List.map encMember a) [] false), (.slice (List.map encMember b) [] false), (.bool false), (.int .i64 0)] []) fun y25 =>
 exIs y25.1 (some 0) (cnd (chkL [(.sl false), (.sl false), .bool, (.int .i64)] y25.2.1) (cnd (chkU [] y25.2.2)
 (some ((.bool true), [])) none) none)
 (exIs y25.1 none (cnd (chkL [(.sl false), (.sl false), .bool, (.int .i64)] y25.2.1) (cnd (chkU [] y25.2.2)
 (some ((.bool (boolV (gt y25.2.1 2))), [])) none) none)
 (none)))
noncomputable def r1_Members_l1T (a : List GMember) (b : List GMember) : Int → Option (Int ⊕ (Unit ⊕ Unit))
 | i_12 =>
 cnd (decide (i_12 < (List.length a : Int)))
  (bnd (nthI a i_12) fun y14 =>
  bnd (nthI b i_12) fun y16 =>
  cnd (!(y14.name == y16.name))
  (some (.inr (.inr ())))
  (bnd (nthI a i_12) fun y18 =>
  bnd (nthI b i_12) fun y20 =>
  bnd (r1_Same y18.v y20.v) fun y22 =>
  cnd (!y22)
   (some (.inr (.inr ())))
   (some (.inl (IntKind.wrap .i64 (i_12 + 1))))))
  (some (.inr (.inl ())))
abbrev r1_Members_l1R (a : List GMember) (b : List GMember) (st : Int) (l : List PV) (u : UP) : Prop := l = [(.slice (List.map encMember a) [] false), (.slice (List.map encMember b) [] false), (.bool false), (.int .i64 st)] ∧ u = []
abbrev r1_Members_l1X (a : List GMember) (b : List GMember) (p : Unit ⊕ Unit) (r : Ex × List PV × UP) : Prop := elim p (fun (p : Unit) => ∃ (i_23 : Int), r = (Ex.brk 0, [(.slice (List.map encMember a) [] false), (.slice (List.map encMember b) [] false), (.bool false), (.int .i64 i_23)], [])) (fun q2 => (fun (p : Unit) => ∃ (i_24 : Int), r = (Ex.ret, [(.slice (List.map encMember a) [] false), (.slice (List.map encMember b) [] false), (.bool false), (.int .i64 i_24)], [])) q2)
noncomputable def r1_Members_B (a : List GMember) (b : List GMember) : Option Bool :=
 cnd ((List.length a : Int) != (List.length b : Int))
 (some false)
 (bnd (tloop (r1_Members_l1T a b) 0) fun e25_2 => elim e25_2
 (fun p25 =>
 some true)
 (fun p25 =>
 some false))
def r1_Members_ds : Decs := { decs := [(19, (.ref shMember)), (24, (.ref shMember)), (31, (.ref shMember)), (36, (.ref shMember)), (39, .bool)], ups := [], loops := [(4, [], ⟨[(.sl false), (.sl false), .bool, (.int .i64)], [], [(some 0, [(.sl false), (.sl false), .bool, (.int .i64)], []), (none, [(.sl false), (.sl false), .bool, (.int .i64)], [])]⟩)] }
set_option maxRecDepth 100000 in
theorem r1_Members_t1 (O : Orc) (LP : LBody → LBody) (a : List GMember) (b : List GMember) : evalBodyD Try.prog (MT 42) r1_Members_ds Try.f42.ntmps O LP Try.f42 [(.slice (List.map encMember a) [] false), (.slice (List.map encMember b) [] false)] [] = r1_Members_T1 O LP a b := by kernel_rfl
theorem r1_Members_l1_ok (a : List GMember) (b : List GMember) : ∀ st l u, r1_Members_l1R a b st l u → Imp (r1_Members_l1T a b st) (r1_Members_l1 O loopLim l u) (StepR (r1_Members_l1R a b) (r1_Members_l1X a b)) := by
 rintro i_12 l u ⟨rfl, rfl⟩
 simp only [r1_Members_l1T, r1_Members_l1]
 refine Imp.chk rfl (Imp.chk rfl ?_)
 try simp only [evs, tys]
 refine Imp.cnd ?_ ?_
 ·refine Imp.op (f := fun a => .ref (encMember a)) (fun a h => op_ix (enc := encMember) (by first | rfl | simp only [evs, tys, evl]) ⟨by first | rfl | simp only [evs, tys, evc], by decide⟩ h) (fun a => chk_GMember a) fun y14 hy14 => ?_
  try simp only [evs, tys]
  refine Imp.op (f := fun a => .ref (encMember a)) (fun a h => op_ix (enc := encMember) (by first | rfl | simp only [evs, tys, evl]) ⟨by first | rfl | simp only [evs, tys, evc], by decide⟩ h) (fun a => chk_GMember a) fun y16 hy16 => ?_
  try simp only [evs, tys]
  refine Imp.cnd ?_ ?_
  ·exact Imp.some (StepR.ret ⟨i_12, by first | rfl | simp only [evs, tys, evl, elim_inl, elim_inr]⟩)
  ·refine Imp.op (f := fun a => .ref (encMember a)) (fun a h => op_ix (enc := encMember) (by first | rfl | simp only [evs, tys, evl]) ⟨by first | rfl | simp only [evs, tys, evc], by decide⟩ h) (fun a => chk_GMember a) fun y18 hy18 => ?_
   try simp only [evs, tys]
   refine Imp.op (f := fun a => .ref (encMember a)) (fun a h => op_ix (enc := encMember) (by first | rfl | simp only [evs, tys, evl]) ⟨by first | rfl | simp only [evs, tys, evc], by decide⟩ h) (fun a => chk_GMember a) fun y20 hy20 => ?_
   try simp only [evs, tys]
   refine Imp.call (f := r1_SameE) rfl (fun a h => by first | exact r1_Same_spec h | simpa only [evs, tys, evl] using r1_Same_spec h) (fun a => by first | rfl | simp only [r1_SameE, evk, chks]) fun y22 hy22 => ?_
   try simp only [r1_SameE, evs, tys]
   refine Imp.cnd ?_ ?_
   ·exact Imp.some (StepR.ret ⟨i_12, by first | rfl | simp only [evs, tys, evl, elim_inl, elim_inr]⟩)
   ·exact Imp.some (StepR.next ⟨by first | rfl | simp only [evs, tys, evl], rfl⟩)
 ·exact Imp.some (StepR.brk ⟨i_12, by first | rfl | simp only [evs, tys, evl, elim_inl, elim_inr]⟩)
theorem r1_Members_imp (a : List GMember) (b : List GMember) : Imp (r1_Members_B a b) (r1_Members_T1 O loopLim a b) (fun r v => v = (r1_MembersE r, [])) := by
 simp only [r1_Members_B, r1_Members_T1]
 try simp only [evs, tys]
 refine Imp.cnd ?_ ?_
 ·exact Imp.some (by first | rfl | simp only [r1_MembersE, evs, tys, evl])
 ·refine Imp.bnd (Imp.loop (r1_Members_l1_ok a b) ⟨by first | rfl | simp only [evs, tys, evl], rfl⟩) ?_
  rintro (p | p) vy25 hy25
  ·try simp only [elim_inl, elim_inr]
   obtain ⟨i_23, rfl⟩ := hy25
   refine Imp.exHit rfl (Imp.chk rfl (Imp.chk rfl ?_))
   try simp only [evs, tys]
   exact Imp.some (by first | rfl | simp only [r1_MembersE, evs, tys, evl])
  ·try simp only [elim_inl, elim_inr]
   obtain ⟨i_24, rfl⟩ := hy25
   refine Imp.exMiss rfl ?_
   refine Imp.exHit rfl (Imp.chk rfl (Imp.chk rfl ?_))
   try simp only [evs, tys]
   exact Imp.some (by first | rfl | simp only [r1_MembersE, evs, tys, evl])
theorem r1_Members_run {a : List GMember} {b : List GMember} {r : Bool} (h : r1_Members_B a b = some r) : r1_Members a b = some r := by
 obtain ⟨v, hv, rfl⟩ := r1_Members_imp a b r h
 exact tO_of (pair_inj r1_MembersEj) (OL_runD r1_Members_ds rfl rfl Try.func42 ((r1_Members_t1 _ _ a b).trans hv))
def seineref9_is_T1 (O : Orc) (LP : LBody → LBody) (s : GSchema) (name : Str) (a : Int) (b : Int) (c : Int) : Option (PV × UP) :=
 callp O 77 [(.agg [(.slice (List.map encDef s.defs) [] false), (.str s.query), (.str s.mutation)]), (.str name)] fun x1 => cnd (chk (.tup [shDef, .bool]) x1)
 (cnd (boolV (gt (tupV x1) 1))
 (cnd ((intV (gt (aggV (gt (tupV x1) 0)) 0)) == a)
 (some ((.bool true), []))
 (cnd ((intV (gt (aggV (gt (tupV x1) 0)) 0)) == b)
 (some ((.bool true), []))
 (some ((.bool ((intV (gt (aggV (gt (tupV x1) 0)) 0)) == c)), []))))
 (some ((.bool false), []))) none
noncomputable def seineref9_is_B (s : GSchema) (name : Str) (a : Int) (b : Int) (c : Int) : Option Bool :=
 bnd (seineref9_Find s name) fun y2 =>
 cnd y2.2
 (cnd (y2.1.kind == a)
 (some true)
 (cnd (y2.1.kind == b)
 (some true)
 (some (y2.1.kind == c))))
 (some false)
def seineref9_is_ds : Decs := { decs := [(16, (.tup [shDef, .bool]))], ups := [], loops := [] }
set_option maxRecDepth 100000 in
theorem seineref9_is_t1 (O : Orc) (LP : LBody → LBody) (s : GSchema) (name : Str) (a : Int) (b : Int) (c : Int) : evalBodyD Try.prog (MT 86) seineref9_is_ds Try.f86.ntmps O LP Try.f86 [(.agg [(.slice (List.map encDef s.defs) [] false), (.str s.query), (.str s.mutation)]), (.str name), (.int .i64 a), (.int .i64 b), (.int .i64 c)] [] = seineref9_is_T1 O LP s name a b c := by kernel_rfl
theorem seineref9_is_imp (s : GSchema) (name : Str) (a : Int) (b : Int) (c : Int) : Imp (seineref9_is_B s name a b c) (seineref9_is_T1 O loopLim s name a b c) (fun r v => v = (seineref9_isE r, [])) := by
 simp only [seineref9_is_B, seineref9_is_T1]
 try simp only [evs, tys]
 refine Imp.call (f := seineref9_FindE) rfl (fun a h => by first | exact seineref9_Find_spec h | simpa only [evs, tys, evl] using seineref9_Find_spec h) (fun a => by first | rfl | simp only [seineref9_FindE, evk, chks]) fun y2 hy2 => ?_
 try simp only [seineref9_FindE, evs, tys]
 refine Imp.cnd ?_ ?_
 ·refine Imp.cnd ?_ ?_
  ·exact Imp.some (by first | rfl | simp only [seineref9_isE, evs, tys, evl])
  ·refine Imp.cnd ?_ ?_
   ·exact Imp.some (by first | rfl | simp only [seineref9_isE, evs, tys, evl])
   ·exact Imp.some (by first | rfl | simp only [seineref9_isE, evs, tys, evl])
 ·exact Imp.some (by first | rfl | simp only [seineref9_isE, evs, tys, evl])
theorem seineref9_is_run {s : GSchema} {name : Str} {a : Int} {b : Int} {c : Int} {r : Bool} (h : seineref9_is_B s name a b c = some r) : seineref9_is s name a b c = some r := by
 obtain ⟨v, hv, rfl⟩ := seineref9_is_imp s name a b c r h
 exact tO_of (pair_inj seineref9_isEj) (OL_runD seineref9_is_ds rfl rfl Try.func86 ((seineref9_is_t1 _ _ s name a b c).trans hv))
def seineref9_Find_l1 (O : Orc) (LP : LBody → LBody) : LBody := fun s3 s3u => cnd (chkL [.str, (.ptr 0 2 0), (.ptr 0 4 0), .bool, (.int .i64), (.int .i64), .str, (.sl true), (.sl true), (.sl true), (.sl true), (.sl false), .str, .str] s3) (cnd (chkU [] s3u)
 (cnd (decide ((intV (gt s3 4)) < (List.length (esV (gt s3 11)) : Int)))
 (bnd (ix 6 (.slice (esV (gt s3 11)) [] false) (.int .i64 (intV (gt s3 4)))) fun x9 => cnd (chk (.ref shDef) x9)
 (cnd ((strV (gt (aggV (refV x9)) 1)) == (strV (gt s3 0)))
 (bnd (ix 6 (.slice (esV (gt s3 11)) [] false) (.int .i64 (intV (gt s3 4)))) fun x11 => cnd (chk (.ref shDef) x11)
 (some (.ret, [(.str (strV (gt s3 0))), (.ptr 0 2 0), (.ptr 0 4 0), (.bool true), (.int .i64 (intV (gt s3 4))), (.int .i64 (intV (gt (aggV (refV x11)) 0))), (.str (strV (gt (aggV (refV x11)) 1))), (.slice (esV (gt (aggV (refV x11)) 2)) [] false), (.slice (esV (gt (aggV (refV x11)) 3)) [] false), (.slice (esV (gt (aggV (refV x11)) 4)) [] false), (.slice (esV (gt (aggV (refV x11)) 5)) [] false), (.slice (esV (gt s3 11)) [] false), (.str (strV (gt s3 12))), (.str (strV (gt s3 13)))], [])) none)
 (some (.nrm, [(.str (strV (gt s3 0))), (.ptr 0 2 0), (.ptr 0 4 0), (.bool (boolV (gt s3 3))), (.int .i64 (IntKind.wrap .i64 ((intV (gt s3 4)) + 1))), (.int .i64 (intV (gt s3 5))), (.str (strV (gt s3 6))), (.slice (esV (gt s3 7)) [] true), (.slice (esV (gt s3 8)) [] true), (.slice (esV (gt s3 9)) [] true), (.slice (esV (gt s3 10)) [] true), (.slice (esV (gt s3 11)) [] false), (.str (strV (gt s3 12))), (.str (strV (gt s3 13)))], []))) none)
 (some (.brk 0, [(.str (strV (gt s3 0))), (.ptr 0 2 0), (.ptr 0 4 0), (.bool (boolV (gt s3 3))), (.int .i64 (intV (gt s3 4))), (.int .i64 (intV (gt s3 5))), (.str (strV (gt s3 6))), (.slice (esV (gt s3 7)) [] true), (.slice (esV (gt s3 8)) [] true), (.slice (esV (gt s3 9)) [] true), (.slice (esV (gt s3 10)) [] true), (.slice (esV (gt s3 11)) [] false), (.str (strV (gt s3 12))), (.str (strV (gt s3 13)))], []))) none) none
def seineref9_Find_T1 (O : Orc) (LP : LBody → LBody) (s : GSchema) (name : Str) : Option (PV × UP) :=
 callp O 91 [(.str name)] fun x1 => cnd (chk .bool x1)
 (cnd (boolV x1)
 (some ((.tuple [(.agg [(.int .i64 0), (.str name), (.slice [] [] false), (.slice [] [] false), (.slice [] [] false), (.slice [] [] false)]), (.bool true)]), []))
 (bnd (LP (seineref9_Find_l1 O LP) [(.str name), (.ptr 0 2 0), (.ptr 0 4 0), (.bool false), (.int .i64 0), (.int .i64 0), (.str []), (.slice [] [] true), (.slice [] [] true), (.slice [] [] true), (.slice [] [] true), (.slice (List.map encDef s.defs) [] false), (.str s.query), (.str s.mutation)] []) fun y21 =>
 exIs y21.1 (some 0) (cnd (chkL [.str, (.ptr 0 2 0), (.ptr 0 4 0), .bool, (.int .i64), (.int .i64), .str, (.sl true), (.sl true), (.sl true), (.sl true), (.sl false), .str, .str] y21.2.1) (cnd (chkU [] y21.2.2)
 (some ((.tuple [(.agg [(.int .i64 0), (.str []), (.slice [] [] false), (.slice [] [] false), (.slice [] [] false), (.slice [] [] false)]), (.bool false)]), [])) none) none)
 (exIs y21.1 none (cnd (chkL [.str, (.ptr 0 2 0), (.ptr 0 4 0), .bool, (.int .i64), (.int .i64), .str, (.sl false), (.sl false), (.sl false), (.sl false), (.sl false), .str, .str] y21.2.1) (cnd (chkU [] y21.2.2)
 (some ((.tuple [(.agg [(.int .i64 (intV (gt y21.2.1 5))), (.str (strV (gt y21.2.1 6))), (.slice (esV (gt y21.2.1 7)) [] false), (.slice (esV (gt y21.2.1 8)) [] false), (.slice (esV (gt y21.2.1 9)) [] false), (.slice (esV (gt y21.2.1 10)) [] false)]), (.bool (boolV (gt y21.2.1 3)))]), [])) none) none)
 (none)))) none
noncomputable def seineref9_Find_l1T (s : GSchema) (name : Str) : Int → Option (Int ⊕ (Unit ⊕ (Int × Str × (List Str) × (List GFieldDef) × (List Str) × (List GParam))))
 | i_8 =>
 cnd (decide (i_8 < (List.length s.defs : Int)))
  (bnd (nthI s.defs i_8) fun y10 =>
  cnd (y10.name == name)
  (bnd (nthI s.defs i_8) fun y12 =>
  some (.inr (.inr (y12.kind, y12.name, y12.faces, y12.fields, y12.parts, y12.params))))
  (some (.inl (IntKind.wrap .i64 (i_8 + 1)))))
  (some (.inr (.inl ())))
abbrev seineref9_Find_l1R (s : GSchema) (name : Str) (st : Int) (l : List PV) (u : UP) : Prop := l = [(.str name), (.ptr 0 2 0), (.ptr 0 4 0), (.bool false), (.int .i64 st), (.int .i64 0), (.str []), (.slice [] [] true), (.slice [] [] true), (.slice [] [] true), (.slice [] [] true), (.slice (List.map encDef s.defs) [] false), (.str s.query), (.str s.mutation)] ∧ u = []
abbrev seineref9_Find_l1X (s : GSchema) (name : Str) (p : Unit ⊕ (Int × Str × (List Str) × (List GFieldDef) × (List Str) × (List GParam))) (r : Ex × List PV × UP) : Prop := elim p (fun (p : Unit) => ∃ (i_13 : Int), r = (Ex.brk 0, [(.str name), (.ptr 0 2 0), (.ptr 0 4 0), (.bool false), (.int .i64 i_13), (.int .i64 0), (.str []), (.slice [] [] true), (.slice [] [] true), (.slice [] [] true), (.slice [] [] true), (.slice (List.map encDef s.defs) [] false), (.str s.query), (.str s.mutation)], [])) (fun q2 => (fun (p : Int × Str × (List Str) × (List GFieldDef) × (List Str) × (List GParam)) => ∃ (i_14 : Int), r = (Ex.ret, [(.str name), (.ptr 0 2 0), (.ptr 0 4 0), (.bool true), (.int .i64 i_14), (.int .i64 p.1), (.str p.2.1), (.slice (List.map PV.str p.2.2.1) [] false), (.slice (List.map encFieldDef p.2.2.2.1) [] false), (.slice (List.map PV.str p.2.2.2.2.1) [] false), (.slice (List.map encParam p.2.2.2.2.2) [] false), (.slice (List.map encDef s.defs) [] false), (.str s.query), (.str s.mutation)], [])) q2)
noncomputable def seineref9_Find_B (s : GSchema) (name : Str) : Option (GDef × Bool) :=
 bnd (seineref9_scalar name) fun y2 =>
 cnd y2
 (some ((GDef.mk 0 name ([] : List Str) ([] : List GFieldDef) ([] : List Str) ([] : List GParam)), true))
 (bnd (tloop (seineref9_Find_l1T s name) 0) fun e21_2 => elim e21_2
 (fun p21 =>
 some ((GDef.mk 0 [] ([] : List Str) ([] : List GFieldDef) ([] : List Str) ([] : List GParam)), false))
 (fun p21 =>
 some ((GDef.mk p21.1 p21.2.1 p21.2.2.1 p21.2.2.2.1 p21.2.2.2.2.1 p21.2.2.2.2.2), true)))
def seineref9_Find_ds : Decs := { decs := [(8, .bool), (21, (.ref shDef)), (29, (.ref shDef))], ups := [], loops := [(4, [(4, 6), (2, 3)], ⟨[.str, (.ptr 0 2 0), (.ptr 0 4 0), .bool, (.int .i64), (.int .i64), .str, (.sl true), (.sl true), (.sl true), (.sl true), (.sl false), .str, .str], [], [(some 0, [.str, (.ptr 0 2 0), (.ptr 0 4 0), .bool, (.int .i64), (.int .i64), .str, (.sl true), (.sl true), (.sl true), (.sl true), (.sl false), .str, .str], []), (none, [.str, (.ptr 0 2 0), (.ptr 0 4 0), .bool, (.int .i64), (.int .i64), .str, (.sl false), (.sl false), (.sl false), (.sl false), (.sl false), .str, .str], [])]⟩)] }
set_option maxRecDepth 100000 in
theorem seineref9_Find_t1 (O : Orc) (LP : LBody → LBody) (s : GSchema) (name : Str) : evalBodyD Try.prog (MT 77) seineref9_Find_ds Try.f77.ntmps O LP Try.f77 [(.agg [(.slice (List.map encDef s.defs) [] false), (.str s.query), (.str s.mutation)]), (.str name)] [] = seineref9_Find_T1 O LP s name := by kernel_rfl
theorem seineref9_Find_l1_ok (s : GSchema) (name : Str) : ∀ st l u, seineref9_Find_l1R s name st l u → Imp (seineref9_Find_l1T s name st) (seineref9_Find_l1 O loopLim l u) (StepR (seineref9_Find_l1R s name) (seineref9_Find_l1X s name)) := by
 rintro i_8 l u ⟨rfl, rfl⟩
 simp only [seineref9_Find_l1T, seineref9_Find_l1]
 refine Imp.chk rfl (Imp.chk rfl ?_)
 try simp only [evs, tys]
 refine Imp.cnd ?_ ?_
 ·refine Imp.op (f := fun a => .ref (encDef a)) (fun a h => op_ix (enc := encDef) (by first | rfl | simp only [evs, tys, evl]) ⟨by first | rfl | simp only [evs, tys, evc], by decide⟩ h) (fun a => chk_GDef a) fun y10 hy10 => ?_
  try simp only [evs, tys]
  refine Imp.cnd ?_ ?_
  ·refine Imp.op (f := fun a => .ref (encDef a)) (fun a h => op_ix (enc := encDef) (by first | rfl | simp only [evs, tys, evl]) ⟨by first | rfl | simp only [evs, tys, evc], by decide⟩ h) (fun a => chk_GDef a) fun y12 hy12 => ?_
   try simp only [evs, tys]
   exact Imp.some (StepR.ret ⟨i_8, by first | rfl | simp only [evs, tys, evl, elim_inl, elim_inr]⟩)
  ·exact Imp.some (StepR.next ⟨by first | rfl | simp only [evs, tys, evl], rfl⟩)
 ·exact Imp.some (StepR.brk ⟨i_8, by first | rfl | simp only [evs, tys, evl, elim_inl, elim_inr]⟩)
theorem seineref9_Find_imp (s : GSchema) (name : Str) : Imp (seineref9_Find_B s name) (seineref9_Find_T1 O loopLim s name) (fun r v => v = (seineref9_FindE r, [])) := by
 simp only [seineref9_Find_B, seineref9_Find_T1]
 try simp only [evs, tys]
 refine Imp.call (f := seineref9_scalarE) rfl (fun a h => by first | exact seineref9_scalar_spec h | simpa only [evs, tys, evl] using seineref9_scalar_spec h) (fun a => by first | rfl | simp only [seineref9_scalarE, evk, chks]) fun y2 hy2 => ?_
 try simp only [seineref9_scalarE, evs, tys]
 refine Imp.cnd ?_ ?_
 ·exact Imp.some (by first | rfl | simp only [seineref9_FindE, evs, tys, evl])
 ·refine Imp.bnd (Imp.loop (seineref9_Find_l1_ok s name) ⟨by first | rfl | simp only [evs, tys, evl], rfl⟩) ?_
  rintro (p | ⟨b_15, b_16, b_17, b_18, b_19, b_20⟩) vy21 hy21
  ·try simp only [elim_inl, elim_inr]
   obtain ⟨i_13, rfl⟩ := hy21
   refine Imp.exHit rfl (Imp.chk rfl (Imp.chk rfl ?_))
   try simp only [evs, tys]
   exact Imp.some (by first | rfl | simp only [seineref9_FindE, evs, tys, evl])
  ·try simp only [elim_inl, elim_inr]
   obtain ⟨i_14, rfl⟩ := hy21
   refine Imp.exMiss rfl ?_
   refine Imp.exHit rfl (Imp.chk rfl (Imp.chk rfl ?_))
   try simp only [evs, tys]
   exact Imp.some (by first | rfl | simp only [seineref9_FindE, evs, tys, evl])
theorem seineref9_Find_run {s : GSchema} {name : Str} {r : GDef × Bool} (h : seineref9_Find_B s name = some r) : seineref9_Find s name = some r := by
 obtain ⟨v, hv, rfl⟩ := seineref9_Find_imp s name r h
 exact tO_of (pair_inj seineref9_FindEj) (OL_runD seineref9_Find_ds rfl rfl Try.func77 ((seineref9_Find_t1 _ _ s name).trans hv))
def seineref9_scalar_T1 (O : Orc) (LP : LBody → LBody) (name : Str) : Option (PV × UP) :=
 cnd (name == ([73, 110, 116] : Str))
 (some ((.bool true), []))
 (cnd (name == ([83, 116, 114, 105, 110, 103] : Str))
 (some ((.bool true), []))
 (cnd (name == ([66, 111, 111, 108, 101, 97, 110] : Str))
 (some ((.bool true), []))
 (some ((.bool (name == ([73, 68] : Str))), []))))
noncomputable def seineref9_scalar_B (name : Str) : Option Bool :=
 cnd (name == ([73, 110, 116] : Str))
 (some true)
 (cnd (name == ([83, 116, 114, 105, 110, 103] : Str))
 (some true)
 (cnd (name == ([66, 111, 111, 108, 101, 97, 110] : Str))
 (some true)
 (some (name == ([73, 68] : Str)))))
def seineref9_scalar_ds : Decs := { decs := [], ups := [], loops := [] }
set_option maxRecDepth 100000 in
theorem seineref9_scalar_t1 (O : Orc) (LP : LBody → LBody) (name : Str) : evalBodyD Try.prog (MT 91) seineref9_scalar_ds Try.f91.ntmps O LP Try.f91 [(.str name)] [] = seineref9_scalar_T1 O LP name := by kernel_rfl
theorem seineref9_scalar_imp (name : Str) : Imp (seineref9_scalar_B name) (seineref9_scalar_T1 O loopLim name) (fun r v => v = (seineref9_scalarE r, [])) := by
 simp only [seineref9_scalar_B, seineref9_scalar_T1]
 try simp only [evs, tys]
 refine Imp.cnd ?_ ?_
 ·exact Imp.some (by first | rfl | simp only [seineref9_scalarE, evs, tys, evl])
 ·refine Imp.cnd ?_ ?_
  ·exact Imp.some (by first | rfl | simp only [seineref9_scalarE, evs, tys, evl])
  ·refine Imp.cnd ?_ ?_
   ·exact Imp.some (by first | rfl | simp only [seineref9_scalarE, evs, tys, evl])
   ·exact Imp.some (by first | rfl | simp only [seineref9_scalarE, evs, tys, evl])
theorem seineref9_scalar_run {name : Str} {r : Bool} (h : seineref9_scalar_B name = some r) : seineref9_scalar name = some r := by
 obtain ⟨v, hv, rfl⟩ := seineref9_scalar_imp name r h
 exact tO_of (pair_inj seineref9_scalarEj) (OL_runD seineref9_scalar_ds rfl rfl Try.func91 ((seineref9_scalar_t1 _ _ name).trans hv))
open Go.RowKit
def GM : Mem := fun _ _ => none
theorem xok : ExtOk Try.prog GM XT := by
 intro f g h
 simp only [XT, Go.Ev.look] at h
 repeat (split at h; · rename_i hf; subst hf; cases h; exact xSelf_ok)
 simp at h
theorem mixedX : Try.prog.follows .mixedOrders = true := by kernel_rfl
theorem namesX : (Try.prog.funcs.toList.all fun fn => !fn.body.isSome || !(fn.name == "runtime.NumGoroutine")) = true := by kernel_rfl
theorem pokX : POk Try.prog := by
 refine ⟨mixedX, fun f fn hf hb => ?_⟩
 have hm : fn ∈ Try.prog.funcs.toList := by
  have := Array.mem_of_getElem? hf
  simpa using this
 have := List.all_eq_true.1 namesX fn hm
 rw [hb] at this
 simpa using this
open Go Go.Ev
mutual
def szV : GValue → Nat
 | ⟨_, _, s, l, m⟩ => 1 + s.length + szVs l + szMs m
def szVs : List GValue → Nat
 | [] => 0
 | x :: l => szV x + szVs l
def szM : GMember → Nat
 | ⟨n, v⟩ => n.length + szV v
def szMs : List GMember → Nat
 | [] => 0
 | x :: l => szM x + szMs l
end
theorem szV_eq (v : GValue) : szV v = 1 + v.s.length + szVs v.l + szMs v.m := by cases v; simp only [szV]
theorem szM_eq (x : GMember) : szM x = x.name.length + szV x.v := by cases x; simp only [szM]
theorem szVs_mem {x : GValue} : ∀ {l : List GValue}, x ∈ l → szV x ≤ szVs l
 | a :: l, h => by
  simp only [szVs]
  rcases List.mem_cons.1 h with rfl | h
  ·omega
  ·have := szVs_mem h; omega
theorem szMs_mem {x : GMember} : ∀ {l : List GMember}, x ∈ l → szM x ≤ szMs l
 | a :: l, h => by
  simp only [szMs]
  rcases List.mem_cons.1 h with rfl | h
  ·omega
  ·have := szMs_mem h; omega
theorem szVs_len : ∀ (l : List GValue), l.length ≤ szVs l
 | [] => by simp [szVs]
 | a :: l => by have := szVs_len l; have := szV_eq a; simp only [szVs, List.length_cons]; omega
theorem szMs_len : ∀ (l : List GMember), l.length ≤ szMs l
 | [] => by simp [szMs]
 | a :: l => by have := szMs_len l; have := szM_eq a; have := szV_eq a.v; simp only [szMs, List.length_cons]; omega
theorem seinekeep_Size_ok' : ∀ (n : Nat), n < 4611686018427387904 → ∀ v : GValue, szV v ≤ n → seinekeep_Size v = some (szV v : Int) := by
 intro n
 induction n with
 | zero => intro _ v h; have := szV_eq v; omega
 | succ n ih =>
  intro hn v h
  have hv := szV_eq v
  have hl := szVs_len v.l
  have hm := szMs_len v.m
  apply seinekeep_Size_run
  unfold seinekeep_Size_B
  have k1 := tloop_list (b := seinekeep_Size_l1T v) v.l (fun k (a : Nat) => ((a : Int), (k : Int))) (fun r a => ((a + szVs r : Nat) : Int)) (fun k a => a + szVs (v.l.drop k) ≤ 1 + v.s.length + szVs v.l)
   (by
    intro a _
    simp [seinekeep_Size_l1T, szVs])
   (by
    intro k x r a hk hx hd hI
    have hxm : x ∈ v.l := List.mem_of_getElem? hx
    have h1 := szVs_mem hxm
    have h2 := ih (by omega) x (by omega)
    rw [hd] at hI
    simp only [szVs] at hI
    have e1 : (decide ((k : Int) < (List.length v.l : Int))) = true := by simp; omega
    have e3 : IntKind.wrap .i64 ((k : Int) + 1) = ((k + 1 : Nat) : Int) := wadd (by omega)
    have e4 : IntKind.wrap .i64 ((a : Int) + (szV x : Int)) = ((a + szV x : Nat) : Int) := by rw [wi (by omega)]; omega
    refine .inr ⟨a + szV x, ?_, ?_, ?_⟩
    ·simp only [seinekeep_Size_l1T, e1, cnd_t, nthI_nat, hx, bnd_s, h2, e3, e4]
    ·have : v.l.drop (k + 1) = r := by rw [← List.tail_drop, hd]; rfl
     rw [this]; omega
    ·simp only [szVs, Nat.add_assoc])
  have k2 := tloop_list (b := seinekeep_Size_l2T v) v.m (fun k (a : Nat) => ((a : Int), (k : Int))) (fun r a => ((a + szMs r : Nat) : Int)) (fun k a => a + szMs (v.m.drop k) ≤ 1 + v.s.length + szVs v.l + szMs v.m)
   (by
    intro a _
    simp [seinekeep_Size_l2T, szMs])
   (by
    intro k x r a hk hx hd hI
    have hxm : x ∈ v.m := List.mem_of_getElem? hx
    have h1 := szMs_mem hxm
    have h1' := szM_eq x
    have h2 := ih (by omega) x.v (by omega)
    rw [hd] at hI
    simp only [szMs] at hI
    have e1 : (decide ((k : Int) < (List.length v.m : Int))) = true := by simp; omega
    have e3 : IntKind.wrap .i64 ((k : Int) + 1) = ((k + 1 : Nat) : Int) := wadd (by omega)
    have e5 : IntKind.wrap .i64 ((a : Int) + (x.name.length : Int)) = ((a + x.name.length : Nat) : Int) := by rw [wi (by omega)]; omega
    have e4 : IntKind.wrap .i64 (((a + x.name.length : Nat) : Int) + (szV x.v : Int)) = ((a + szM x : Nat) : Int) := by rw [wi (by omega)]; omega
    refine .inr ⟨a + szM x, ?_, ?_, ?_⟩
    ·simp only [seinekeep_Size_l2T, e1, cnd_t, nthI_nat, hx, bnd_s, h2, e3, e4, e5]
    ·have : v.m.drop (k + 1) = r := by rw [← List.tail_drop, hd]; rfl
     rw [this]; omega
    ·simp only [szMs, Nat.add_assoc])
  have e0 : IntKind.wrap .i64 (1 + (v.s.length : Int)) = ((1 + v.s.length : Nat) : Int) := by rw [wi (by omega)]; omega
  rw [e0, show (0 : Int) = ((0 : Nat) : Int) from rfl, k1 0 (1 + v.s.length) (by omega) (by simp)]
  simp only [List.drop_zero, bnd_s]
  rw [k2 0 (1 + v.s.length + szVs v.l) (by omega) (by simp)]
  simp only [List.drop_zero, bnd_s, hv]
theorem seinekeep_Size_ok (v : GValue) (h : szV v < 4611686018427387904) : seinekeep_Size v = some (szV v : Int) := seinekeep_Size_ok' _ h v (Nat.le_refl _)
mutual
theorem szV_bk : ∀ v : GValue, szV v ≤ bkValue v
 | ⟨_, _, s, l, m⟩ => by
  have h1 := szVs_bk l
  have h2 := szMs_bk m
  simp only [szV, bkValue, bk1, bkStr]; omega
theorem szVs_bk : ∀ l : List GValue, szVs l ≤ bkValues l
 | [] => by simp [szVs]
 | x :: l => by have := szV_bk x; have := szVs_bk l; simp only [szVs, bkValues]; omega
theorem szM_bk : ∀ x : GMember, szM x ≤ bkMember x
 | ⟨n, v⟩ => by have := szV_bk v; simp only [szM, bkMember, bkStr]; omega
theorem szMs_bk : ∀ l : List GMember, szMs l ≤ bkMembers l
 | [] => by simp [szMs]
 | x :: l => by have := szM_bk x; have := szMs_bk l; simp only [szMs, bkMembers]; omega
end
theorem slices_Index_int_ok (l : List Int) (v : Int) (hl : Sm l) : ∃ i, slices_Index_int_int l v = some i ∧ decide (i ≥ 0) = l.contains v := by
 have key := loop_list (b := slices_Index_int_int_l1T l v) l (fun k (_ : Nat) => (k : Int)) (fun r k => match r.findIdx? (fun y => v == y) with | some j => Sum.inr ((k + j : Nat) : Int) | none => Sum.inl ()) (fun k a => a = k) hl
  (by intro a _; simp [slices_Index_int_int_l1T])
  (by
   intro k x r a hm hk hd h1 h2 h3 hI
   subst hI
   simp only [slices_Index_int_int_l1T, h1, cnd_t, h2, bnd_s, h3, List.findIdx?_cons]
   cases hv : v == x
   ·refine .inr ⟨a + 1, rfl, rfl, ?_⟩
    simp only [Bool.false_eq_true, if_false]
    cases r.findIdx? (fun y => v == y) with
    | none => rfl
    | some j => simp only [Option.map_some]; congr 2; omega
   ·left; simp) (s := 0) (a := 0) rfl rfl
 have hrun : ∀ i, slices_Index_int_int_B l v = some i → slices_Index_int_int l v = some i := fun i h => slices_Index_int_int_run h
 unfold slices_Index_int_int_B at hrun
 rw [key] at hrun
 simp only [bnd_s, Nat.zero_add] at hrun
 have hc : l.contains v = (l.findIdx? (fun y => v == y)).isSome := by
  rw [List.findIdx?_isSome, List.contains_eq_any_beq]
 cases hf : l.findIdx? (fun y => v == y) with
 | none => rw [hf] at hrun hc; exact ⟨-1, hrun _ rfl, by rw [hc]; rfl⟩
 | some j => rw [hf] at hrun hc; exact ⟨(j : Int), hrun _ rfl, by rw [hc]; simp⟩
theorem slices_Contains_int_ok (l : List Int) (v : Int) (hl : Sm l) : slices_Contains_int_int l v = some (l.contains v) := by
 obtain ⟨i, h1, h2⟩ := slices_Index_int_ok l v hl
 apply slices_Contains_int_int_run
 simp only [slices_Contains_int_int_B, h1, bnd_s, h2]
theorem find_some {α : Type} (l : List α) (p : α → Bool) {β : Type} (g : α → β) : l.findSome? (fun x => if p x then some (g x) else none) = (l.find? p).map g := by
 induction l with
 | nil => rfl
 | cons a l ih =>
  rw [List.findSome?_cons, List.find?_cons]
  cases p a with
  | true => rfl
  | false => exact ih
abbrev zDef : GDef := ⟨0, [], [], [], [], []⟩
def scalarN (n : Str) : Bool := n == [73, 110, 116] || (n == [83, 116, 114, 105, 110, 103] || (n == [66, 111, 111, 108, 101, 97, 110] || n == [73, 68]))
theorem defs_scalar_ok (n : Str) : defs_scalar n = some (scalarN n) := by
 apply defs_scalar_run
 simp only [defs_scalar_B, scalarN]
 cases n == [73, 110, 116] <;> cases n == [83, 116, 114, 105, 110, 103] <;> cases n == [66, 111, 111, 108, 101, 97, 110] <;> rfl
theorem seineref9_scalar_ok (n : Str) : seineref9_scalar n = some (scalarN n) := by
 apply seineref9_scalar_run
 simp only [seineref9_scalar_B, scalarN]
 cases n == [73, 110, 116] <;> cases n == [83, 116, 114, 105, 110, 103] <;> cases n == [66, 111, 111, 108, 101, 97, 110] <;> rfl
def findD (s : GSchema) (n : Str) : GDef × Bool := bif scalarN n then (⟨0, n, [], [], [], []⟩, true) else match s.defs.find? (fun d => d.name == n) with | some d => (d, true) | none => (zDef, false)
theorem defs_Find_ok (s : GSchema) (n : Str) (hl : Sm s.defs) : defs_Find s n = some (findD s n) := by
 apply defs_Find_run
 unfold defs_Find_B findD
 rw [loop_find (b := defs_Find_l1T s n) s.defs (fun d => if (d.name == n) = true then some (.inr (d.kind, d.name, d.faces, d.fields, d.parts, d.params)) else none) (.inl ()) hl (by simp [defs_Find_l1T]) (by
  intro k x hm h1 h2 h3
  simp only [defs_Find_l1T, h1, cnd_t, h2, bnd_s, h3]
  cases x.name == n <;> rfl)]
 rw [find_some, defs_scalar_ok]
 cases scalarN n
 ·simp only [bnd_s, cnd_f, cond_false]
  cases s.defs.find? (fun d => d.name == n) <;> rfl
 ·rfl
theorem seineref9_Find_ok (s : GSchema) (n : Str) (hl : Sm s.defs) : seineref9_Find s n = some (findD s n) := by
 apply seineref9_Find_run
 unfold seineref9_Find_B findD
 rw [loop_find (b := seineref9_Find_l1T s n) s.defs (fun d => if (d.name == n) = true then some (.inr (d.kind, d.name, d.faces, d.fields, d.parts, d.params)) else none) (.inl ()) hl (by simp [seineref9_Find_l1T]) (by
  intro k x hm h1 h2 h3
  simp only [seineref9_Find_l1T, h1, cnd_t, h2, bnd_s, h3]
  cases x.name == n <;> rfl)]
 rw [find_some, seineref9_scalar_ok]
 cases scalarN n
 ·simp only [bnd_s, cnd_f, cond_false]
  cases s.defs.find? (fun d => d.name == n) <;> rfl
 ·rfl
def kindD (s : GSchema) (n : Str) (ks : List Int) : Bool := (findD s n).2 && ks.contains (findD s n).1.kind
theorem defs_Kind_ok (s : GSchema) (n : Str) (ks : List Int) (hl : Sm s.defs) (hk : Sm ks) : defs_Kind s n ks = some (kindD s n ks) := by
 apply defs_Kind_run
 simp only [defs_Kind_B, defs_Find_ok s n hl, bnd_s, slices_Contains_int_ok ks _ hk, kindD]
 cases (findD s n).2 <;> rfl
theorem seineref9_is_ok (s : GSchema) (n : Str) (a b c : Int) (hl : Sm s.defs) : seineref9_is s n a b c = some (kindD s n [a, b, c]) := by
 apply seineref9_is_run
 simp only [seineref9_is_B, seineref9_Find_ok s n hl, bnd_s, kindD]
 have : [a, b, c].contains (findD s n).1.kind = ((findD s n).1.kind == a || ((findD s n).1.kind == b || (findD s n).1.kind == c)) := by
  simp only [List.contains_cons, List.contains_nil, Bool.or_false]
 rw [this]
 cases (findD s n).2 <;> cases (findD s n).1.kind == a <;> cases (findD s n).1.kind == b <;> rfl
theorem kindD_two (s : GSchema) (n : Str) (a b : Int) : kindD s n [a, b, b] = kindD s n [a, b] := by
 simp only [kindD, List.contains_cons, List.contains_nil, Bool.or_false, Bool.or_self]
theorem defs_Leaf_ok (s : GSchema) (n : Str) (hl : Sm s.defs) : defs_Leaf s n = some (kindD s n [0, 4]) :=
 defs_Leaf_run (by simp [defs_Leaf_B, defs_Kind_ok s n [0, 4] hl (by decide)])
theorem defs_Composite_ok (s : GSchema) (n : Str) (hl : Sm s.defs) : defs_Composite s n = some (kindD s n [1, 2, 3]) :=
 defs_Composite_run (by simp [defs_Composite_B, defs_Kind_ok s n [1, 2, 3] hl (by decide)])
theorem seineref9_Leaf_ok (s : GSchema) (n : Str) (hl : Sm s.defs) : seineref9_Leaf s n = some (kindD s n [0, 4]) :=
 seineref9_Leaf_run (by simp [seineref9_Leaf_B, seineref9_is_ok s n _ _ _ hl, kindD_two])
theorem seineref9_Composite_ok (s : GSchema) (n : Str) (hl : Sm s.defs) : seineref9_Composite s n = some (kindD s n [1, 2, 3]) :=
 seineref9_Composite_run (by simp [seineref9_Composite_B, seineref9_is_ok s n _ _ _ hl])
structure SOk (s : GSchema) : Prop where
 bk : bkSchema s < 1073741824
theorem bkDef_pos (d : GDef) : 1 ≤ bkDef d := by rw [bkDef_eq]; omega
theorem bkFieldDef_pos (d : GFieldDef) : 1 ≤ bkFieldDef d := by rw [bkFieldDef_eq]; omega
theorem bkParam_pos (d : GParam) : 1 ≤ bkParam d := by rw [bkParam_eq]; omega
theorem bkDir_pos (d : GDir) : 1 ≤ bkDir d := by rw [bkDir_eq]; omega
theorem SOk.defs {s : GSchema} (h : SOk s) : s.defs.length < 1073741824 := by
 have h1 := h.bk; rw [bkSchema_eq] at h1
 have h2 := sl_len bkDef_pos s.defs
 omega
theorem SOk.def_bk {s : GSchema} (h : SOk s) {d : GDef} (hd : d ∈ s.defs) : bkDef d < 1073741824 := by
 have h1 := h.bk; rw [bkSchema_eq] at h1
 have h2 := sl_mem (f := bkDef) hd
 omega
theorem SOk.faces {s : GSchema} (h : SOk s) (d : GDef) (hd : d ∈ s.defs) : d.faces.length < 1073741824 := by
 have h1 := h.def_bk hd; rw [bkDef_eq] at h1
 have h2 := sl_len bkStr_pos d.faces
 omega
theorem SOk.parts {s : GSchema} (h : SOk s) (d : GDef) (hd : d ∈ s.defs) : d.parts.length < 1073741824 := by
 have h1 := h.def_bk hd; rw [bkDef_eq] at h1
 have h2 := sl_len bkStr_pos d.parts
 omega
theorem SOk.fields {s : GSchema} (h : SOk s) (d : GDef) (hd : d ∈ s.defs) : d.fields.length < 1073741824 := by
 have h1 := h.def_bk hd; rw [bkDef_eq] at h1
 have h2 := sl_len bkFieldDef_pos d.fields
 omega
theorem SOk.sm {s : GSchema} (h : SOk s) : Sm s.defs := by have := h.defs; show s.defs.length < _; omega
theorem findD_mem (s : GSchema) (n : Str) : (findD s n).1 ∈ s.defs ∨ ((findD s n).1.faces = [] ∧ (findD s n).1.fields = [] ∧ (findD s n).1.parts = [] ∧ (findD s n).1.params = []) := by
 unfold findD
 cases scalarN n
 ·simp only [cond_false]
  cases h : s.defs.find? (fun d => d.name == n) with
  | none => exact .inr ⟨rfl, rfl, rfl, rfl⟩
  | some d => exact .inl (List.mem_of_find?_eq_some h)
 ·exact .inr ⟨rfl, rfl, rfl, rfl⟩
theorem SOk.fieldsF {s : GSchema} (h : SOk s) (n : Str) : (findD s n).1.fields.length < 1073741824 := by
 rcases findD_mem s n with hm | ⟨_, hp, _, _⟩
 ·exact h.fields _ hm
 ·rw [hp]; decide
abbrev zF : GFieldDef := ⟨[], [], ⟨[], 0, 0⟩, []⟩
abbrev tnS : Str := [95, 95, 116, 121, 112, 101, 110, 97, 109, 101]
abbrev tnF : GFieldDef := ⟨tnS, [], ⟨[83, 116, 114, 105, 110, 103], 0, 1⟩, []⟩
theorem IndexFunc_ok (l : List GFieldDef) (d : GDef) (a b : Str) (p q : Int) (name : Str) (s : GSchema) (hl : Sm l) :
  ∃ i, slices_IndexFunc_FieldDef l d a b p q name s = some i ∧ (match l.find? (fun f => f.name == name) with | some f => decide (i < 0) = false ∧ nthI l i = some f | none => decide (i < 0) = true) := by
 have hc : ∀ f, defs_Field_1 f d a b p q name s = some (f.name == name) := fun f => defs_Field_1_run rfl
 have key := loop_list (b := slices_IndexFunc_FieldDef_l1T l d a b p q name s) l (fun k (_ : Nat) => (k : Int)) (fun r k => match r.findIdx? (fun f => f.name == name) with | some j => Sum.inr ((k + j : Nat) : Int) | none => Sum.inl ()) (fun k a => a = k) hl
  (by intro a _; simp [slices_IndexFunc_FieldDef_l1T])
  (by
   intro k x r a' hm hk hd h1 h2 h3 hI
   subst hI
   simp only [slices_IndexFunc_FieldDef_l1T, h1, cnd_t, h2, bnd_s, h3, hc, List.findIdx?_cons]
   cases hv : x.name == name
   ·refine .inr ⟨a' + 1, rfl, rfl, ?_⟩
    simp only [Bool.false_eq_true, if_false]
    cases r.findIdx? (fun f => f.name == name) with
    | none => rfl
    | some j => simp only [Option.map_some]; congr 2; omega
   ·left; simp) (s := 0) (a := 0) rfl rfl
 have hrun : ∀ i, slices_IndexFunc_FieldDef_B l d a b p q name s = some i → slices_IndexFunc_FieldDef l d a b p q name s = some i := fun i h => slices_IndexFunc_FieldDef_run h
 unfold slices_IndexFunc_FieldDef_B at hrun
 rw [key] at hrun
 simp only [bnd_s, Nat.zero_add] at hrun
 cases hf : l.findIdx? (fun f => f.name == name) with
 | none =>
  rw [hf] at hrun
  refine ⟨-1, hrun _ rfl, ?_⟩
  rw [List.findIdx?_eq_none_iff] at hf
  have : l.find? (fun f => f.name == name) = none := List.find?_eq_none.2 fun x hx => by simp [hf x hx]
  rw [this]; rfl
 | some j =>
  rw [hf] at hrun
  refine ⟨(j : Int), hrun _ rfl, ?_⟩
  obtain ⟨hj, hp, hq⟩ := List.findIdx?_eq_some_iff_getElem.1 hf
  have : l.find? (fun f => f.name == name) = some l[j] := by
   rw [List.find?_eq_some_iff_getElem]
   exact ⟨hp, j, hj, rfl, fun k hk => by simpa using hq k hk⟩
  rw [this]
  exact ⟨by simp, by rw [nthI_nat, List.getElem?_eq_getElem hj]⟩
def fieldD (s : GSchema) (typ name : Str) : GFieldDef × Bool :=
 bif name == tnS && kindD s typ [1, 2, 3] then (tnF, true) else bif (findD s typ).1.kind == 1 || (findD s typ).1.kind == 2 then (match (findD s typ).1.fields.find? (fun f => f.name == name) with | some f => (f, true) | none => (zF, false)) else (zF, false)
theorem findD_none {s : GSchema} {n : Str} (h : (findD s n).2 = false) : (findD s n).1 = zDef := by
 revert h
 unfold findD
 cases scalarN n
 ·simp only [cond_false]
  cases hf : s.defs.find? (fun d => d.name == n) with
  | none => intro _; rfl
  | some d => intro h; simp at h
 ·intro h; simp at h
theorem defs_Field_ok (s : GSchema) (typ name : Str) (h : SOk s) : defs_Field s typ name = some (fieldD s typ name) := by
 apply defs_Field_run
 have hs := h.sm
 have hf := h.fieldsF typ
 obtain ⟨i, h1, h2⟩ := IndexFunc_ok (findD s typ).1.fields (findD s typ).1 [] [] 0 0 name s (by show (findD s typ).1.fields.length < _; omega)
 have tail : (cnd (!(findD s typ).2) (some (zF, false)) (cnd ((findD s typ).1.kind != 1) (cnd ((findD s typ).1.kind != 2) (some (zF, false)) (cnd (decide (i < 0)) (some (zF, false)) (bnd (nthI (findD s typ).1.fields i) fun y => some (y, true)))) (cnd (decide (i < 0)) (some (zF, false)) (bnd (nthI (findD s typ).1.fields i) fun y => some (y, true))))) =
   some (bif (findD s typ).1.kind == 1 || (findD s typ).1.kind == 2 then (match (findD s typ).1.fields.find? (fun f => f.name == name) with | some f => (f, true) | none => (zF, false)) else (zF, false)) := by
  have e1 : ((findD s typ).1.kind != 1) = !((findD s typ).1.kind == 1) := rfl
  have e2 : ((findD s typ).1.kind != 2) = !((findD s typ).1.kind == 2) := rfl
  cases h3 : (findD s typ).2
  ·rw [findD_none h3]; rfl
  ·rw [e1, e2]
   cases hff : (findD s typ).1.fields.find? (fun f => f.name == name) with
   | none => rw [hff] at h2; simp only at h2; rw [h2]; cases (findD s typ).1.kind == 1 <;> cases (findD s typ).1.kind == 2 <;> rfl
   | some f => rw [hff] at h2; obtain ⟨h4, h5⟩ := h2; rw [h4, h5]; cases (findD s typ).1.kind == 1 <;> cases (findD s typ).1.kind == 2 <;> rfl
 simp only [defs_Field_B, defs_Composite_ok s typ hs, defs_Find_ok s typ hs, bnd_s, h1, fieldD]
 rw [tail]
 cases name == tnS <;> cases kindD s typ [1, 2, 3] <;> rfl
theorem lightTexts_ex (l : List Str) (h : l.length < 1073741824) : ∃ n, seinelaw8_lightTexts l = some n := by
 obtain ⟨r, hr⟩ := loop_ex (b := seinelaw8_lightTexts_l1T l) l (fun k (a : Int) => (a, (k : Int))) (by show l.length < _; omega) (fun a => ⟨a, by simp [seinelaw8_lightTexts_l1T]⟩) (by
  intro k x a hx h1 h2 h3
  right; simp only [seinelaw8_lightTexts_l1T, h1, cnd_t, h2, bnd_s, h3]; exact ⟨_, rfl⟩) (s := (0, 0)) (a := 0) rfl
 exact ⟨r, seinelaw8_lightTexts_run (by simp only [seinelaw8_lightTexts_B, hr, bnd_s])⟩
theorem lightParams_ex (l : List GParam) (h : bkSl bkParam l < 1073741824) : ∃ n, seinelaw8_lightParams l = some n := by
 have hl := sl_len bkParam_pos l
 obtain ⟨r, hr⟩ := loop_ex (b := seinelaw8_lightParams_l1T l) l (fun k (a : Int) => (a, (k : Int))) (by show l.length < _; omega) (fun a => ⟨a, by simp [seinelaw8_lightParams_l1T]⟩) (by
  intro k x a hx h1 h2 h3
  have hb := sl_mem (f := bkParam) hx
  rw [bkParam_eq] at hb
  have hv := szV_bk x.default
  right; simp only [seinelaw8_lightParams_l1T, h1, cnd_t, h2, bnd_s, h3, seinekeep_Size_ok x.default (by omega)]; exact ⟨_, rfl⟩) (s := (0, 0)) (a := 0) rfl
 exact ⟨r, seinelaw8_lightParams_run (by simp only [seinelaw8_lightParams_B, hr, bnd_s])⟩
theorem lightDirs_ex (l : List GDir) (h : bkSl bkDir l < 1073741824) : ∃ n, seinelaw8_lightDirs l = some n := by
 have hl := sl_len bkDir_pos l
 obtain ⟨r, hr⟩ := loop_ex (b := seinelaw8_lightDirs_l1T l) l (fun k (a : Int) => (a, (k : Int))) (by show l.length < _; omega) (fun a => ⟨a, by simp [seinelaw8_lightDirs_l1T]⟩) (by
  intro k x a hx h1 h2 h3
  have hb := sl_mem (f := bkDir) hx
  rw [bkDir_eq] at hb
  have hv : szV ⟨0, 0, [], [], x.args⟩ < 4611686018427387904 := by
   have h4 := szMs_bk x.args
   rw [bkMembers_eq] at h4
   simp only [szV, szVs, List.length_nil]
   have h5 : bkSl bkMember x.args = sumL bkMember x.args + 1 := rfl
   omega
  right; simp only [seinelaw8_lightDirs_l1T, h1, cnd_t, h2, bnd_s, h3, seinekeep_Size_ok _ hv]; exact ⟨_, rfl⟩) (s := (0, 0)) (a := 0) rfl
 exact ⟨r, seinelaw8_lightDirs_run (by simp only [seinelaw8_lightDirs_B, hr, bnd_s])⟩
theorem seinelaw8_Light_ex (s : GSchema) (h : SOk s) : ∃ b, seinelaw8_Light s = some b := by
 obtain ⟨r, hr⟩ := loop_ex (b := seinelaw8_Light_l2T s) s.defs (fun k (a : Int) => (a, (k : Int))) h.sm (fun a => ⟨a, by simp [seinelaw8_Light_l2T]⟩) (by
  intro k d a hd h1 h2 h3
  have hb := h.def_bk hd
  rw [bkDef_eq] at hb
  obtain ⟨n1, e1⟩ := lightTexts_ex d.faces (h.faces d hd)
  obtain ⟨n2, e2⟩ := lightTexts_ex d.parts (h.parts d hd)
  obtain ⟨n3, e3⟩ := lightParams_ex d.params (by omega)
  have hin : ∀ n0 : Int, ∃ n, tloop (seinelaw8_Light_l1T d) (n0, 0) = some n := by
   intro n0
   refine loop_ex (b := seinelaw8_Light_l1T d) d.fields (fun k (a : Int) => (a, (k : Int))) (by have := h.fields d hd; show d.fields.length < _; omega) (fun a => ⟨a, by simp [seinelaw8_Light_l1T]⟩) (by
    intro k f a hf h1 h2 h3
    have hfb := sl_mem (f := bkFieldDef) hf
    rw [bkFieldDef_eq] at hfb
    obtain ⟨m1, g1⟩ := lightParams_ex f.params (by omega)
    obtain ⟨m2, g2⟩ := lightDirs_ex f.dirs (by omega)
    right; simp only [seinelaw8_Light_l1T, h1, cnd_t, h2, bnd_s, h3, g1, g2]; exact ⟨_, rfl⟩) (a := n0) rfl
  right
  simp only [seinelaw8_Light_l2T, h1, cnd_t, h2, bnd_s, h3, e1, e2, e3]
  obtain ⟨n, hn⟩ := hin (IntKind.wrap .i64 ((IntKind.wrap .i64 ((IntKind.wrap .i64 ((IntKind.wrap .i64 ((IntKind.wrap .i64 (a + 1)) + (List.length d.name : Int))) + n1)) + n2)) + n3))
  rw [hn]
  exact ⟨n, rfl⟩) (s := (0, 0)) (a := 0) rfl
 exact ⟨decide (r ≤ 4000), seinelaw8_Light_run (by simp only [seinelaw8_Light_B, hr, bnd_s])⟩
end Go.Proofs.Ytfbaogfcpldlnaa

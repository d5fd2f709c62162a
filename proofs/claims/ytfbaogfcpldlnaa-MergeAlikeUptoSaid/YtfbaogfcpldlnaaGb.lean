import Derived.Test.YtfbaogfcpldlnaaGa
set_option linter.unusedVariables false
set_option linter.unusedSimpArgs false
set_option linter.unusedSimpArgs false
open Go Go.Ev Go.Ev.PV
namespace Go.Proofs.Ytfbaogfcpldlnaa
def merge_Alike_i1_l1 (O : Orc) (LP : LBody → LBody) : LBody := fun s1 s1u => cnd (chkL [(.sl true), (.sl true), .bool, (.sl false), (.int .i64), (.int .i64)] s1) (cnd (chkU [] s1u)
 (cnd (decide ((intV (gt s1 5)) < (intV (gt s1 4))))
 (bnd (ix 6 (.slice (esV (gt s1 3)) [] false) (.int .i64 (intV (gt s1 5)))) fun x9 => cnd (chk (.ref shMember) x9)
 (callp O 57 [(.str (strV (gt (aggV (refV x9)) 0))), (.slice (esV (gt s1 1)) [] false)] fun x11 => cnd (chk (.tup [shValue, .bool]) x11)
 (cnd (!(boolV (gt (tupV x11) 1)))
 (some (.ret, [(.slice (esV (gt s1 0)) [] true), (.slice (esV (gt s1 1)) [] true), (.bool false), (.slice (esV (gt s1 3)) [] false), (.int .i64 (intV (gt s1 4))), (.int .i64 (intV (gt s1 5)))], []))
 (callp O 58 [(.agg [(.int .i64 (intV (gt (aggV (refV x9)) 1))), (.int .i64 (intV (gt (aggV (refV x9)) 2))), (.str (strV (gt (aggV (refV x9)) 3))), (.slice (esV (gt (aggV (refV x9)) 4)) [] false), (.slice (esV (gt (aggV (refV x9)) 5)) [] false)]), (.agg [(.int .i64 (intV (gt (aggV (gt (tupV x11) 0)) 0))), (.int .i64 (intV (gt (aggV (gt (tupV x11) 0)) 1))), (.str (strV (gt (aggV (gt (tupV x11) 0)) 2))), (.slice (esV (gt (aggV (gt (tupV x11) 0)) 3)) [] false), (.slice (esV (gt (aggV (gt (tupV x11) 0)) 4)) [] false)])] fun x13 => cnd (chk .bool x13)
 (cnd (!(boolV x13))
 (some (.ret, [(.slice (esV (gt s1 0)) [] true), (.slice (esV (gt s1 1)) [] true), (.bool false), (.slice (esV (gt s1 3)) [] false), (.int .i64 (intV (gt s1 4))), (.int .i64 (intV (gt s1 5)))], []))
 (some (.nrm, [(.slice (esV (gt s1 0)) [] true), (.slice (esV (gt s1 1)) [] true), (.bool (boolV (gt s1 2))), (.slice (esV (gt s1 3)) [] false), (.int .i64 (intV (gt s1 4))), (.int .i64 (IntKind.wrap .i64 ((intV (gt s1 5)) + 1)))], []))) none)) none) none)
 (some (.brk 0, [(.slice (esV (gt s1 0)) [] true), (.slice (esV (gt s1 1)) [] true), (.bool (boolV (gt s1 2))), (.slice (esV (gt s1 3)) [] false), (.int .i64 (intV (gt s1 4))), (.int .i64 (intV (gt s1 5)))], []))) none) none
def merge_Alike_i1_T1 (O : Orc) (LP : LBody → LBody) : Option (PV × UP) :=
 bnd (LP (merge_Alike_i1_l1 O LP) [(.slice [] [] true), (.slice [] [] true), (.bool false), (.slice [] [] false), (.int .i64 0), (.int .i64 0)] []) fun y17 =>
 exIs y17.1 (some 0) (cnd (chkL [(.sl true), (.sl true), .bool, (.sl false), (.int .i64), (.int .i64)] y17.2.1) (cnd (chkU [] y17.2.2)
 (some ((.bool ((List.length (esV (gt y17.2.1 0)) : Int) == (List.length (esV (gt y17.2.1 1)) : Int))), [])) none) none)
 (exIs y17.1 none (cnd (chkL [(.sl true), (.sl true), .bool, (.sl false), (.int .i64), (.int .i64)] y17.2.1) (cnd (chkU [] y17.2.2)
 (some ((.bool (boolV (gt y17.2.1 2))), [])) none) none)
 (none))
noncomputable def merge_Alike_i1_l1T : Int → Option (Int ⊕ (Unit ⊕ Unit))
 | t_8 =>
 cnd (decide (t_8 < 0))
  (bnd (nthI ([] : List GMember) t_8) fun y10 =>
  bnd (value_Get y10.name ([] : List GMember)) fun y12 =>
  cnd (!y12.2)
  (some (.inr (.inr ())))
  (bnd (value_Same y10.v y12.1) fun y14 =>
  cnd (!y14)
   (some (.inr (.inr ())))
   (some (.inl (IntKind.wrap .i64 (t_8 + 1))))))
  (some (.inr (.inl ())))
abbrev merge_Alike_i1_l1R (st : Int) (l : List PV) (u : UP) : Prop := l = [(.slice [] [] true), (.slice [] [] true), (.bool false), (.slice [] [] false), (.int .i64 0), (.int .i64 st)] ∧ u = []
abbrev merge_Alike_i1_l1X (p : Unit ⊕ Unit) (r : Ex × List PV × UP) : Prop := elim p (fun (p : Unit) => ∃ (t_15 : Int), r = (Ex.brk 0, [(.slice [] [] true), (.slice [] [] true), (.bool false), (.slice [] [] false), (.int .i64 0), (.int .i64 t_15)], [])) (fun q2 => (fun (p : Unit) => ∃ (t_16 : Int), r = (Ex.ret, [(.slice [] [] true), (.slice [] [] true), (.bool false), (.slice [] [] false), (.int .i64 0), (.int .i64 t_16)], [])) q2)
noncomputable def merge_Alike_i1_B : Option Bool :=
 bnd (tloop merge_Alike_i1_l1T 0) fun e17_2 => elim e17_2
 (fun p17 =>
 some ((List.length ([] : List GMember) : Int) == (List.length ([] : List GMember) : Int)))
 (fun p17 =>
 some false)
def merge_Alike_i1_ds : Decs := { decs := [(13, (.ref shMember)), (19, (.tup [shValue, .bool])), (28, .bool)], ups := [], loops := [(2, [], ⟨[(.sl true), (.sl true), .bool, (.sl false), (.int .i64), (.int .i64)], [], [(some 0, [(.sl true), (.sl true), .bool, (.sl false), (.int .i64), (.int .i64)], []), (none, [(.sl true), (.sl true), .bool, (.sl false), (.int .i64), (.int .i64)], [])]⟩)] }
set_option maxRecDepth 100000 in
theorem merge_Alike_i1_t1 (O : Orc) (LP : LBody → LBody) : evalBodyD Try.prog (MT 32) merge_Alike_i1_ds Try.f32.ntmps O LP Try.f32 [(.slice [] [] true), (.slice [] [] true)] [] = merge_Alike_i1_T1 O LP := by kernel_rfl
theorem merge_Alike_i1_l1_ok : ∀ st l u, merge_Alike_i1_l1R st l u → Imp (merge_Alike_i1_l1T st) (merge_Alike_i1_l1 O loopLim l u) (StepR (merge_Alike_i1_l1R) (merge_Alike_i1_l1X)) := by
 rintro t_8 l u ⟨rfl, rfl⟩
 simp only [merge_Alike_i1_l1T, merge_Alike_i1_l1]
 refine Imp.chk rfl (Imp.chk rfl ?_)
 try simp only [evs, tys]
 refine Imp.cnd ?_ ?_
 ·refine Imp.op (f := fun a => .ref (encMember a)) (fun a h => op_ix (enc := encMember) (by first | rfl | simp only [evs, tys, evl]) ⟨by first | rfl | simp only [evs, tys, evc], by decide⟩ h) (fun a => chk_GMember a) fun y10 hy10 => ?_
  try simp only [evs, tys]
  refine Imp.call (f := value_GetE) rfl (fun a h => by first | exact value_Get_spec h | simpa only [evs, tys, evl] using value_Get_spec h) (fun a => by first | rfl | simp only [value_GetE, evk, chks]) fun y12 hy12 => ?_
  try simp only [value_GetE, evs, tys]
  refine Imp.cnd ?_ ?_
  ·exact Imp.some (StepR.ret ⟨t_8, by first | rfl | simp only [evs, tys, evl, elim_inl, elim_inr]⟩)
  ·refine Imp.call (f := value_SameE) rfl (fun a h => by first | exact value_Same_spec h | simpa only [evs, tys, evl] using value_Same_spec h) (fun a => by first | rfl | simp only [value_SameE, evk, chks]) fun y14 hy14 => ?_
   try simp only [value_SameE, evs, tys]
   refine Imp.cnd ?_ ?_
   ·exact Imp.some (StepR.ret ⟨t_8, by first | rfl | simp only [evs, tys, evl, elim_inl, elim_inr]⟩)
   ·exact Imp.some (StepR.next ⟨by first | rfl | simp only [evs, tys, evl], rfl⟩)
 ·exact Imp.some (StepR.brk ⟨t_8, by first | rfl | simp only [evs, tys, evl, elim_inl, elim_inr]⟩)
theorem merge_Alike_i1_imp : Imp (merge_Alike_i1_B) (merge_Alike_i1_T1 O loopLim) (fun r v => v = (merge_Alike_i1E r, [])) := by
 simp only [merge_Alike_i1_B, merge_Alike_i1_T1]
 try simp only [evs, tys]
 refine Imp.bnd (Imp.loop (merge_Alike_i1_l1_ok) ⟨by first | rfl | simp only [evs, tys, evl], rfl⟩) ?_
 rintro (p | p) vy17 hy17
 ·try simp only [elim_inl, elim_inr]
  obtain ⟨t_15, rfl⟩ := hy17
  refine Imp.exHit rfl (Imp.chk rfl (Imp.chk rfl ?_))
  try simp only [evs, tys]
  exact Imp.some (by first | rfl | simp only [merge_Alike_i1E, evs, tys, evl])
 ·try simp only [elim_inl, elim_inr]
  obtain ⟨t_16, rfl⟩ := hy17
  refine Imp.exMiss rfl ?_
  refine Imp.exHit rfl (Imp.chk rfl (Imp.chk rfl ?_))
  try simp only [evs, tys]
  exact Imp.some (by first | rfl | simp only [merge_Alike_i1E, evs, tys, evl])
theorem merge_Alike_i1_run {r : Bool} (h : merge_Alike_i1_B = some r) : merge_Alike_i1 = some r := by
 obtain ⟨v, hv, rfl⟩ := merge_Alike_i1_imp r h
 exact tO_of (pair_inj merge_Alike_i1Ej) (OL_runD merge_Alike_i1_ds rfl rfl Try.func32 ((merge_Alike_i1_t1 _ _).trans hv))
def seinelaw19_MergeAlike_T1 (O : Orc) (LP : LBody → LBody) (l0 : List GMember) (m : List GMember) (by0 : Int) : Option (PV × UP) :=
 callp O 12 [(.agg [(.int .i64 0), (.int .i64 0), (.str []), (.slice [] [] false), (.slice (List.map encMember l0) [] false)])] fun x1 => cnd (chk (.int .i64) x1)
 (callp O 12 [(.agg [(.int .i64 0), (.int .i64 0), (.str []), (.slice [] [] false), (.slice (List.map encMember m) [] false)])] fun x3 => cnd (chk (.int .i64) x3)
 (cnd (decide ((IntKind.wrap .i64 ((intV x1) + (intV x3))) > 2000))
 (callp O 29 [] fun x5 => cnd (chk .bool x5)
 (some ((.bool (boolV x5)), [])) none)
 (callp O 30 [(.slice (List.map encMember l0) [] false)] fun x7 => cnd (chk .bool x7)
 (cnd (!(boolV x7))
 (callp O 29 [] fun x9 => cnd (chk .bool x9)
 (some ((.bool (boolV x9)), [])) none)
 (callp O 30 [(.slice (List.map encMember m) [] false)] fun x11 => cnd (chk .bool x11)
 (cnd (!(boolV x11))
 (callp O 29 [] fun x13 => cnd (chk .bool x13)
 (some ((.bool (boolV x13)), [])) none)
 (callp O 32 [(.slice (List.map encMember l0) [] false), (.slice (List.map encMember m) [] false)] fun x15 => cnd (chk .bool x15)
 (callp O 32 [(.slice (List.map encMember m) [] false), (.slice (List.map encMember l0) [] false)] fun x17 => cnd (chk .bool x17)
 (cnd (!((boolV x15) == (boolV x17)))
 (cnd ((List.length (List.map encMember l0) : Int) == 0)
 (callp O 32 [(.slice [] [] true), (.slice [] [] true)] fun x19 => cnd (chk .bool x19)
 (cnd (boolV x19)
 (callp O 32 [(.slice (List.map encMember l0) [] false), (.slice (List.map encMember m) [] false)] fun x21 => cnd (chk .bool x21)
 (cnd ((boolV x21) == ((List.length (List.map encMember m) : Int) == 0))
 (callp O 29 [] fun x23 => cnd (chk .bool x23)
 (some ((.bool (boolV x23)), [])) none)
 (some ((.bool false), []))) none)
 (some ((.bool false), []))) none)
 (some ((.bool false), [])))
 (callp O 32 [(.slice (List.map encMember l0) [] false), (.slice (List.map encMember l0) [] false)] fun x25 => cnd (chk .bool x25)
 (cnd (!(boolV x25))
 (cnd ((List.length (List.map encMember l0) : Int) == 0)
 (callp O 32 [(.slice [] [] true), (.slice [] [] true)] fun x27 => cnd (chk .bool x27)
 (cnd (boolV x27)
 (callp O 32 [(.slice (List.map encMember l0) [] false), (.slice (List.map encMember m) [] false)] fun x29 => cnd (chk .bool x29)
 (cnd ((boolV x29) == ((List.length (List.map encMember m) : Int) == 0))
 (callp O 29 [] fun x31 => cnd (chk .bool x31)
 (some ((.bool (boolV x31)), [])) none)
 (some ((.bool false), []))) none)
 (some ((.bool false), []))) none)
 (some ((.bool false), [])))
 (cnd ((List.length (List.map encMember l0) : Int) == 0)
 (cnd ((List.length (List.map encMember l0) : Int) == 0)
 (callp O 32 [(.slice [] [] true), (.slice [] [] true)] fun x33 => cnd (chk .bool x33)
 (cnd (boolV x33)
 (callp O 32 [(.slice (List.map encMember l0) [] false), (.slice (List.map encMember m) [] false)] fun x35 => cnd (chk .bool x35)
 (cnd ((boolV x35) == ((List.length (List.map encMember m) : Int) == 0))
 (callp O 29 [] fun x37 => cnd (chk .bool x37)
 (some ((.bool (boolV x37)), [])) none)
 (some ((.bool false), []))) none)
 (some ((.bool false), []))) none)
 (some ((.bool false), [])))
 (bnd (bin .rem (.int .u64 (IntKind.wrap .u64 by0)) (.int .u64 (IntKind.wrap .u64 (List.length (List.map encMember l0) : Int)))) fun x39 => cnd (chk (.int .u64) x39)
 (bnd (slcLo 6 (.slice (List.map encMember l0) [] false) (.int .i64 (IntKind.wrap .i64 (intV x39)))) fun x41 => cnd (chk (.slb false) x41)
 (bnd (apd 6 (.slice [] [] true) (.slice (esV x41) (bsV x41) false)) fun x43 => cnd (chk (.sl true) x43)
 (bnd (slcHi 6 (.slice (List.map encMember l0) [] false) (.int .i64 (IntKind.wrap .i64 (intV x39)))) fun x45 => cnd (chk (.slb false) x45)
 (bnd (apd 6 (.slice (esV x43) [] true) (.slice (esV x45) (bsV x45) false)) fun x47 => cnd (chk (.sl true) x47)
 (bnd (apdV 6 (.slice [] [] true) (.slice (esV x47) [] false)) fun x49 =>
 bnd (ix 6 (.rsl 0 81 (List.length x49) 6) (.int .i64 0)) fun x51 => cnd (chk (.ptx 0 81) x51)
 (bnd (vload 6 x49 ((offV x51) + 1) 5 true) fun x53 => cnd (chk shValue x53)
 (bnd (ix 6 (.rsl 0 81 (List.length x49) 6) (.int .i64 0)) fun x55 => cnd (chk (.ptx 0 81) x55)
 (bnd (vput 6 x49 ((offV x55) + 1) [(.int .i64 6), (.int .i64 0), (.str []), (.slice [(.agg [(.int .i64 (intV (gt (aggV x53) 0))), (.int .i64 (intV (gt (aggV x53) 1))), (.str (strV (gt (aggV x53) 2))), (.slice (esV (gt (aggV x53) 3)) [] false), (.slice (esV (gt (aggV x53) 4)) [] false)])] [] false), (.slice [] [] true)]) fun x57 =>
 cnd (Nat.ble (List.length x49) (List.length x57))
 (callp O 32 [(.slice (List.map encMember l0) [] false), (.slice (esV x47) [] false)] fun x59 => cnd (chk .bool x59)
 (cnd (boolV x59)
 (callp O 32 [(.slice (List.map encMember l0) [] false), (.slice (List.take (List.length x49) x57) [] false)] fun x61 => cnd (chk .bool x61)
 (cnd (!(boolV x61))
 (bnd (slcLo 6 (.slice (esV x47) [] false) (.int .i64 1)) fun x63 => cnd (chk (.slb false) x63)
 (callp O 32 [(.slice (List.map encMember l0) [] false), (.slice (esV x63) [] false)] fun x65 => cnd (chk .bool x65)
 (cnd (!(boolV x65))
 (callp O 29 [] fun x67 => cnd (chk .bool x67)
 (some ((.bool (boolV x67)), [])) none)
 (some ((.bool false), []))) none) none)
 (some ((.bool false), []))) none)
 (some ((.bool false), []))) none)
 (none)) none) none) none) none) none) none) none) none))) none)) none) none)) none)) none)) none) none
noncomputable def seinelaw19_MergeAlike_B (l0 : List GMember) (m : List GMember) (by0 : Int) : Option Bool :=
 bnd (seinekeep_Size (GValue.mk 0 0 [] ([] : List GValue) l0)) fun y2 =>
 bnd (seinekeep_Size (GValue.mk 0 0 [] ([] : List GValue) m)) fun y4 =>
 cnd (decide ((IntKind.wrap .i64 (y2 + y4)) > 2000))
 (bnd (seinelaw19_awake) fun y6 =>
 some y6)
 (bnd (seineref13_Once l0) fun y8 =>
 cnd (!y8)
 (bnd (seinelaw19_awake) fun y10 =>
 some y10)
 (bnd (seineref13_Once m) fun y12 =>
 cnd (!y12)
 (bnd (seinelaw19_awake) fun y14 =>
 some y14)
 (bnd (merge_Alike l0 m) fun y16 =>
 bnd (merge_Alike m l0) fun y18 =>
 cnd (!(y16 == y18))
 (cnd ((List.length l0 : Int) == 0)
 (bnd (merge_Alike_i1) fun y20 =>
 cnd y20
 (bnd (merge_Alike l0 m) fun y22 =>
 cnd (y22 == ((List.length m : Int) == 0))
 (bnd (seinelaw19_awake) fun y24 =>
 some y24)
 (some false))
 (some false))
 (some false))
 (bnd (merge_Alike l0 l0) fun y26 =>
 cnd (!y26)
 (cnd ((List.length l0 : Int) == 0)
 (bnd (merge_Alike_i1) fun y28 =>
 cnd y28
 (bnd (merge_Alike l0 m) fun y30 =>
 cnd (y30 == ((List.length m : Int) == 0))
 (bnd (seinelaw19_awake) fun y32 =>
 some y32)
 (some false))
 (some false))
 (some false))
 (cnd ((List.length l0 : Int) == 0)
 (cnd ((List.length l0 : Int) == 0)
 (bnd (merge_Alike_i1) fun y34 =>
 cnd y34
 (bnd (merge_Alike l0 m) fun y36 =>
 cnd (y36 == ((List.length m : Int) == 0))
 (bnd (seinelaw19_awake) fun y38 =>
 some y38)
 (some false))
 (some false))
 (some false))
 (bnd (trem0 (IntKind.wrap .u64 by0) (IntKind.wrap .u64 (List.length l0 : Int))) fun y40 =>
 bnd (tslc (l0 : List GMember) (IntKind.wrap .i64 y40) (List.length l0)) fun y42 =>
 bnd (tapp ([] : List GMember) y42) fun y44 =>
 bnd (tslc (l0 : List GMember) 0 (IntKind.wrap .i64 y40)) fun y46 =>
 bnd (tapp y44 y46) fun y48 =>
 bnd (tapl y48) fun y50 =>
 bnd (tixR (List.length y50) 0) fun y52 =>
 bnd (tget y50 y52 (fun z : GMember => z.v)) fun y54 =>
 bnd (tixR (List.length y50) 0) fun y56 =>
 bnd (tput y50 y56 (fun z : GMember => { z with v := (GValue.mk 6 0 [] [y54] ([] : List GMember)) })) fun y58 =>
 cnd (Nat.ble (List.length y50) (List.length y58))
 (bnd (merge_Alike l0 y48) fun y60 =>
 cnd y60
 (bnd (merge_Alike l0 (List.take (List.length y50) y58)) fun y62 =>
 cnd (!y62)
 (bnd (tslc (y48 : List GMember) 1 (List.length y48)) fun y64 =>
 bnd (merge_Alike l0 y64) fun y66 =>
 cnd (!y66)
 (bnd (seinelaw19_awake) fun y68 =>
 some y68)
 (some false))
 (some false))
 (some false))
 (none)))))))
def seinelaw19_MergeAlike_ds : Decs := { decs := [(12, (.int .i64)), (15, (.int .i64)), (20, .bool), (25, .bool), (28, .bool), (31, .bool), (34, .bool), (39, .bool), (51, .bool), (56, .bool), (63, .bool), (70, (.int .u64)), (74, (.slb false)), (75, (.sl true)), (78, (.slb false)), (79, (.sl true)), (84, (.ptx 0 81)), (86, shValue), (89, (.ptx 0 81)), (93, .bool), (97, .bool), (103, (.slb false)), (104, .bool), (108, .bool)], ups := [], loops := [] }
set_option maxRecDepth 100000 in
theorem seinelaw19_MergeAlike_t1 (O : Orc) (LP : LBody → LBody) (l0 : List GMember) (m : List GMember) (by0 : Int) : evalBodyD Try.prog (MT 10) seinelaw19_MergeAlike_ds Try.f10.ntmps O LP Try.f10 [(.slice (List.map encMember l0) [] false), (.slice (List.map encMember m) [] false), (.int .i64 by0)] [] = seinelaw19_MergeAlike_T1 O LP l0 m by0 := by kernel_rfl
theorem seinelaw19_MergeAlike_imp (l0 : List GMember) (m : List GMember) (by0 : Int) : Imp (seinelaw19_MergeAlike_B l0 m by0) (seinelaw19_MergeAlike_T1 O loopLim l0 m by0) (fun r v => v = (seinelaw19_MergeAlikeE r, [])) := by
 simp only [seinelaw19_MergeAlike_B, seinelaw19_MergeAlike_T1]
 try simp only [evs, tys]
 refine Imp.call (f := seinekeep_SizeE) rfl (fun a h => by first | exact seinekeep_Size_spec h | simpa only [evs, tys, evl] using seinekeep_Size_spec h) (fun a => by first | rfl | simp only [seinekeep_SizeE, evk, chks]) fun y2 hy2 => ?_
 try simp only [seinekeep_SizeE, evs, tys]
 refine Imp.call (f := seinekeep_SizeE) rfl (fun a h => by first | exact seinekeep_Size_spec h | simpa only [evs, tys, evl] using seinekeep_Size_spec h) (fun a => by first | rfl | simp only [seinekeep_SizeE, evk, chks]) fun y4 hy4 => ?_
 try simp only [seinekeep_SizeE, evs, tys]
 refine Imp.cnd ?_ ?_
 ·refine Imp.call (f := seinelaw19_awakeE) rfl (fun a h => by first | exact seinelaw19_awake_spec h | simpa only [evs, tys, evl] using seinelaw19_awake_spec h) (fun a => by first | rfl | simp only [seinelaw19_awakeE, evk, chks]) fun y6 hy6 => ?_
  try simp only [seinelaw19_awakeE, evs, tys]
  exact Imp.some (by first | rfl | simp only [seinelaw19_MergeAlikeE, evs, tys, evl])
 ·refine Imp.call (f := seineref13_OnceE) rfl (fun a h => by first | exact seineref13_Once_spec h | simpa only [evs, tys, evl] using seineref13_Once_spec h) (fun a => by first | rfl | simp only [seineref13_OnceE, evk, chks]) fun y8 hy8 => ?_
  try simp only [seineref13_OnceE, evs, tys]
  refine Imp.cnd ?_ ?_
  ·refine Imp.call (f := seinelaw19_awakeE) rfl (fun a h => by first | exact seinelaw19_awake_spec h | simpa only [evs, tys, evl] using seinelaw19_awake_spec h) (fun a => by first | rfl | simp only [seinelaw19_awakeE, evk, chks]) fun y10 hy10 => ?_
   try simp only [seinelaw19_awakeE, evs, tys]
   exact Imp.some (by first | rfl | simp only [seinelaw19_MergeAlikeE, evs, tys, evl])
  ·refine Imp.call (f := seineref13_OnceE) rfl (fun a h => by first | exact seineref13_Once_spec h | simpa only [evs, tys, evl] using seineref13_Once_spec h) (fun a => by first | rfl | simp only [seineref13_OnceE, evk, chks]) fun y12 hy12 => ?_
   try simp only [seineref13_OnceE, evs, tys]
   refine Imp.cnd ?_ ?_
   ·refine Imp.call (f := seinelaw19_awakeE) rfl (fun a h => by first | exact seinelaw19_awake_spec h | simpa only [evs, tys, evl] using seinelaw19_awake_spec h) (fun a => by first | rfl | simp only [seinelaw19_awakeE, evk, chks]) fun y14 hy14 => ?_
    try simp only [seinelaw19_awakeE, evs, tys]
    exact Imp.some (by first | rfl | simp only [seinelaw19_MergeAlikeE, evs, tys, evl])
   ·refine Imp.call (f := merge_AlikeE) rfl (fun a h => by first | exact merge_Alike_spec h | simpa only [evs, tys, evl] using merge_Alike_spec h) (fun a => by first | rfl | simp only [merge_AlikeE, evk, chks]) fun y16 hy16 => ?_
    try simp only [merge_AlikeE, evs, tys]
    refine Imp.call (f := merge_AlikeE) rfl (fun a h => by first | exact merge_Alike_spec h | simpa only [evs, tys, evl] using merge_Alike_spec h) (fun a => by first | rfl | simp only [merge_AlikeE, evk, chks]) fun y18 hy18 => ?_
    try simp only [merge_AlikeE, evs, tys]
    refine Imp.cnd ?_ ?_
    ·refine Imp.cnd ?_ ?_
     ·refine Imp.call (f := merge_Alike_i1E) rfl (fun a h => by first | exact merge_Alike_i1_spec h | simpa only [evs, tys, evl] using merge_Alike_i1_spec h) (fun a => by first | rfl | simp only [merge_Alike_i1E, evk, chks]) fun y20 hy20 => ?_
      try simp only [merge_Alike_i1E, evs, tys]
      refine Imp.cnd ?_ ?_
      ·refine Imp.call (f := merge_AlikeE) rfl (fun a h => by first | exact merge_Alike_spec h | simpa only [evs, tys, evl] using merge_Alike_spec h) (fun a => by first | rfl | simp only [merge_AlikeE, evk, chks]) fun y22 hy22 => ?_
       try simp only [merge_AlikeE, evs, tys]
       refine Imp.cnd ?_ ?_
       ·refine Imp.call (f := seinelaw19_awakeE) rfl (fun a h => by first | exact seinelaw19_awake_spec h | simpa only [evs, tys, evl] using seinelaw19_awake_spec h) (fun a => by first | rfl | simp only [seinelaw19_awakeE, evk, chks]) fun y24 hy24 => ?_
        try simp only [seinelaw19_awakeE, evs, tys]
        exact Imp.some (by first | rfl | simp only [seinelaw19_MergeAlikeE, evs, tys, evl])
       ·exact Imp.some (by first | rfl | simp only [seinelaw19_MergeAlikeE, evs, tys, evl])
      ·exact Imp.some (by first | rfl | simp only [seinelaw19_MergeAlikeE, evs, tys, evl])
     ·exact Imp.some (by first | rfl | simp only [seinelaw19_MergeAlikeE, evs, tys, evl])
    ·refine Imp.call (f := merge_AlikeE) rfl (fun a h => by first | exact merge_Alike_spec h | simpa only [evs, tys, evl] using merge_Alike_spec h) (fun a => by first | rfl | simp only [merge_AlikeE, evk, chks]) fun y26 hy26 => ?_
     try simp only [merge_AlikeE, evs, tys]
     refine Imp.cnd ?_ ?_
     ·refine Imp.cnd ?_ ?_
      ·refine Imp.call (f := merge_Alike_i1E) rfl (fun a h => by first | exact merge_Alike_i1_spec h | simpa only [evs, tys, evl] using merge_Alike_i1_spec h) (fun a => by first | rfl | simp only [merge_Alike_i1E, evk, chks]) fun y28 hy28 => ?_
       try simp only [merge_Alike_i1E, evs, tys]
       refine Imp.cnd ?_ ?_
       ·refine Imp.call (f := merge_AlikeE) rfl (fun a h => by first | exact merge_Alike_spec h | simpa only [evs, tys, evl] using merge_Alike_spec h) (fun a => by first | rfl | simp only [merge_AlikeE, evk, chks]) fun y30 hy30 => ?_
        try simp only [merge_AlikeE, evs, tys]
        refine Imp.cnd ?_ ?_
        ·refine Imp.call (f := seinelaw19_awakeE) rfl (fun a h => by first | exact seinelaw19_awake_spec h | simpa only [evs, tys, evl] using seinelaw19_awake_spec h) (fun a => by first | rfl | simp only [seinelaw19_awakeE, evk, chks]) fun y32 hy32 => ?_
         try simp only [seinelaw19_awakeE, evs, tys]
         exact Imp.some (by first | rfl | simp only [seinelaw19_MergeAlikeE, evs, tys, evl])
        ·exact Imp.some (by first | rfl | simp only [seinelaw19_MergeAlikeE, evs, tys, evl])
       ·exact Imp.some (by first | rfl | simp only [seinelaw19_MergeAlikeE, evs, tys, evl])
      ·exact Imp.some (by first | rfl | simp only [seinelaw19_MergeAlikeE, evs, tys, evl])
     ·refine Imp.cnd ?_ ?_
      ·refine Imp.cnd ?_ ?_
       ·refine Imp.call (f := merge_Alike_i1E) rfl (fun a h => by first | exact merge_Alike_i1_spec h | simpa only [evs, tys, evl] using merge_Alike_i1_spec h) (fun a => by first | rfl | simp only [merge_Alike_i1E, evk, chks]) fun y34 hy34 => ?_
        try simp only [merge_Alike_i1E, evs, tys]
        refine Imp.cnd ?_ ?_
        ·refine Imp.call (f := merge_AlikeE) rfl (fun a h => by first | exact merge_Alike_spec h | simpa only [evs, tys, evl] using merge_Alike_spec h) (fun a => by first | rfl | simp only [merge_AlikeE, evk, chks]) fun y36 hy36 => ?_
         try simp only [merge_AlikeE, evs, tys]
         refine Imp.cnd ?_ ?_
         ·refine Imp.call (f := seinelaw19_awakeE) rfl (fun a h => by first | exact seinelaw19_awake_spec h | simpa only [evs, tys, evl] using seinelaw19_awake_spec h) (fun a => by first | rfl | simp only [seinelaw19_awakeE, evk, chks]) fun y38 hy38 => ?_
          try simp only [seinelaw19_awakeE, evs, tys]
          exact Imp.some (by first | rfl | simp only [seinelaw19_MergeAlikeE, evs, tys, evl])
         ·exact Imp.some (by first | rfl | simp only [seinelaw19_MergeAlikeE, evs, tys, evl])
        ·exact Imp.some (by first | rfl | simp only [seinelaw19_MergeAlikeE, evs, tys, evl])
       ·exact Imp.some (by first | rfl | simp only [seinelaw19_MergeAlikeE, evs, tys, evl])
      ·refine Imp.op (f := fun a => .int _ a) (fun a h => op_rem h) (fun a => rfl) fun y40 hy40 => ?_
       try simp only [evs, tys]
       refine Imp.op2 (f := fun a b => .slice (List.map encMember a) (List.map encMember b) false) (fun a h => op_slcLo (enc := encMember) (b := _) (by first | rfl | simp only [evs, tys, evl]) (by first | rfl | exact List.map_nil.symm | simp only [evs, tys, evl]) (fun a => by first | rfl | simp only [evs, tys, evc]) h) (fun a b => rfl) fun y42 jby42 hy42 => ?_
       try simp only [evs, tys]
       refine Imp.op (f := fun a => .slice (List.map encMember a) [] true) (fun a h => op_apd (enc := encMember) (by first | rfl | simp only [evs, tys, evl]) (by first | rfl | simp only [evs, tys, evl]) (fun a => by first | rfl | simp only [evs, tys, evc]) h) (fun a => rfl) fun y44 hy44 => ?_
       try simp only [evs, tys]
       refine Imp.op2 (f := fun a b => .slice (List.map encMember a) (List.map encMember b) false) (fun a h => op_slcHi (enc := encMember) (b := _) (by first | rfl | simp only [evs, tys, evl]) (by first | rfl | exact List.map_nil.symm | simp only [evs, tys, evl]) (fun a => by first | rfl | simp only [evs, tys, evc]) h) (fun a b => rfl) fun y46 jby46 hy46 => ?_
       try simp only [evs, tys]
       refine Imp.op (f := fun a => .slice (List.map encMember a) [] true) (fun a h => op_apd (enc := encMember) (by first | rfl | simp only [evs, tys, evl]) (by first | rfl | simp only [evs, tys, evl]) (fun a => by first | rfl | simp only [evs, tys, evc]) h) (fun a => rfl) fun y48 hy48 => ?_
       try simp only [evs, tys]
       refine Imp.opr (f := fun a => List.map encMember a) (fun a h => op_apdV (enc := encMember) (by first | rfl | simp only [evs, tys, evl]) (fun a => by first | rfl | simp only [evs, tys, evc]) h) fun y50 hy50 => ?_
       try simp only [evs, tys]
       refine Imp.op (f := fun a => .ptr 0 81 (a * 6)) (fun a h => op_ixR h) (fun a => rfl) fun y52 hy52 => ?_
       try simp only [evs, tys]
       refine Imp.op (f := fun a => encValue a) (fun a h => op_vload (enc := encMember) (encT := fun a => encValue a) (f := fun z => z.v) (by first | rfl | simp only [evs, tys, evl]) (by decide) (fun z => by first | rfl | (simp only [evs, tys, evc, part]; rfl)) (fun a => by first | rfl | (simp only [evs, tys]; rfl)) h) (fun a => chk_GValue a) fun y54 hy54 => ?_
       try simp only [evs, tys]
       refine Imp.op (f := fun a => .ptr 0 81 (a * 6)) (fun a h => op_ixR h) (fun a => rfl) fun y56 hy56 => ?_
       try simp only [evs, tys]
       refine Imp.opr (f := fun a => List.map encMember a) (fun a h => op_vput (enc := encMember) (by first | rfl | simp only [evs, tys, evl]) (by decide) (by simp) (by rfl) (fun z => by first | rfl | (simp only [evs, tys, evl, evc]; rfl)) h) fun y58 hy58 => ?_
       try simp only [evs, tys]
       refine Imp.cnd ?_ ?_
       ·refine Imp.call (f := merge_AlikeE) rfl (fun a h => by first | exact merge_Alike_spec h | simpa only [evs, tys, evl] using merge_Alike_spec h) (fun a => by first | rfl | simp only [merge_AlikeE, evk, chks]) fun y60 hy60 => ?_
        try simp only [merge_AlikeE, evs, tys]
        refine Imp.cnd ?_ ?_
        ·refine Imp.call (f := merge_AlikeE) rfl (fun a h => by first | exact merge_Alike_spec h | simpa only [evs, tys, evl] using merge_Alike_spec h) (fun a => by first | rfl | simp only [merge_AlikeE, evk, chks]) fun y62 hy62 => ?_
         try simp only [merge_AlikeE, evs, tys]
         refine Imp.cnd ?_ ?_
         ·refine Imp.op2 (f := fun a b => .slice (List.map encMember a) (List.map encMember b) false) (fun a h => op_slcLo (enc := encMember) (b := _) (by first | rfl | simp only [evs, tys, evl]) (by first | rfl | exact List.map_nil.symm | simp only [evs, tys, evl]) (fun a => by first | rfl | simp only [evs, tys, evc]) h) (fun a b => rfl) fun y64 jby64 hy64 => ?_
          try simp only [evs, tys]
          refine Imp.call (f := merge_AlikeE) rfl (fun a h => by first | exact merge_Alike_spec h | simpa only [evs, tys, evl] using merge_Alike_spec h) (fun a => by first | rfl | simp only [merge_AlikeE, evk, chks]) fun y66 hy66 => ?_
          try simp only [merge_AlikeE, evs, tys]
          refine Imp.cnd ?_ ?_
          ·refine Imp.call (f := seinelaw19_awakeE) rfl (fun a h => by first | exact seinelaw19_awake_spec h | simpa only [evs, tys, evl] using seinelaw19_awake_spec h) (fun a => by first | rfl | simp only [seinelaw19_awakeE, evk, chks]) fun y68 hy68 => ?_
           try simp only [seinelaw19_awakeE, evs, tys]
           exact Imp.some (by first | rfl | simp only [seinelaw19_MergeAlikeE, evs, tys, evl])
          ·exact Imp.some (by first | rfl | simp only [seinelaw19_MergeAlikeE, evs, tys, evl])
         ·exact Imp.some (by first | rfl | simp only [seinelaw19_MergeAlikeE, evs, tys, evl])
        ·exact Imp.some (by first | rfl | simp only [seinelaw19_MergeAlikeE, evs, tys, evl])
       ·exact Imp.none
theorem seinelaw19_MergeAlike_run {l0 : List GMember} {m : List GMember} {by0 : Int} {r : Bool} (h : seinelaw19_MergeAlike_B l0 m by0 = some r) : seinelaw19_MergeAlike l0 m by0 = some r := by
 obtain ⟨v, hv, rfl⟩ := seinelaw19_MergeAlike_imp l0 m by0 r h
 exact tO_of (pair_inj seinelaw19_MergeAlikeEj) (OL_runD seinelaw19_MergeAlike_ds rfl rfl Try.func10 ((seinelaw19_MergeAlike_t1 _ _ l0 m by0).trans hv))
def merge_Shape_T1 (O : Orc) (LP : LBody → LBody) (s : GSchema) (a : GType) (b : GType) : Option (PV × UP) :=
 cnd (a.lists != b.lists)
 (some ((.bool false), []))
 (cnd (a.musts != b.musts)
 (some ((.bool false), []))
 (callp O 61 [(.agg [(.slice (List.map encDef s.defs) [] false), (.str s.query), (.str s.mutation)]), (.str a.name)] fun x1 => cnd (chk .bool x1)
 (cnd (boolV x1)
 (some ((.bool (a.name == b.name)), []))
 (callp O 61 [(.agg [(.slice (List.map encDef s.defs) [] false), (.str s.query), (.str s.mutation)]), (.str b.name)] fun x3 => cnd (chk .bool x3)
 (cnd (boolV x3)
 (some ((.bool (a.name == b.name)), []))
 (callp O 62 [(.agg [(.slice (List.map encDef s.defs) [] false), (.str s.query), (.str s.mutation)]), (.str a.name)] fun x5 => cnd (chk .bool x5)
 (cnd (boolV x5)
 (callp O 62 [(.agg [(.slice (List.map encDef s.defs) [] false), (.str s.query), (.str s.mutation)]), (.str b.name)] fun x7 => cnd (chk .bool x7)
 (some ((.bool (boolV x7)), [])) none)
 (some ((.bool false), []))) none)) none)) none))
noncomputable def merge_Shape_B (s : GSchema) (a : GType) (b : GType) : Option Bool :=
 cnd (a.lists != b.lists)
 (some false)
 (cnd (a.musts != b.musts)
 (some false)
 (bnd (defs_Leaf s a.name) fun y2 =>
 cnd y2
 (some (a.name == b.name))
 (bnd (defs_Leaf s b.name) fun y4 =>
 cnd y4
 (some (a.name == b.name))
 (bnd (defs_Composite s a.name) fun y6 =>
 cnd y6
 (bnd (defs_Composite s b.name) fun y8 =>
 some y8)
 (some false)))))
def merge_Shape_ds : Decs := { decs := [(22, .bool), (27, .bool), (37, .bool), (42, .bool)], ups := [], loops := [] }
set_option maxRecDepth 100000 in
theorem merge_Shape_t1 (O : Orc) (LP : LBody → LBody) (s : GSchema) (a : GType) (b : GType) : evalBodyD Try.prog (MT 34) merge_Shape_ds Try.f34.ntmps O LP Try.f34 [(.agg [(.slice (List.map encDef s.defs) [] false), (.str s.query), (.str s.mutation)]), (.agg [(.str a.name), (.int .i64 a.lists), (.int .i64 a.musts)]), (.agg [(.str b.name), (.int .i64 b.lists), (.int .i64 b.musts)])] [] = merge_Shape_T1 O LP s a b := by kernel_rfl
theorem merge_Shape_imp (s : GSchema) (a : GType) (b : GType) : Imp (merge_Shape_B s a b) (merge_Shape_T1 O loopLim s a b) (fun r v => v = (merge_ShapeE r, [])) := by
 simp only [merge_Shape_B, merge_Shape_T1]
 try simp only [evs, tys]
 refine Imp.cnd ?_ ?_
 ·exact Imp.some (by first | rfl | simp only [merge_ShapeE, evs, tys, evl])
 ·refine Imp.cnd ?_ ?_
  ·exact Imp.some (by first | rfl | simp only [merge_ShapeE, evs, tys, evl])
  ·refine Imp.call (f := defs_LeafE) rfl (fun a h => by first | exact defs_Leaf_spec h | simpa only [evs, tys, evl] using defs_Leaf_spec h) (fun a => by first | rfl | simp only [defs_LeafE, evk, chks]) fun y2 hy2 => ?_
   try simp only [defs_LeafE, evs, tys]
   refine Imp.cnd ?_ ?_
   ·exact Imp.some (by first | rfl | simp only [merge_ShapeE, evs, tys, evl])
   ·refine Imp.call (f := defs_LeafE) rfl (fun a h => by first | exact defs_Leaf_spec h | simpa only [evs, tys, evl] using defs_Leaf_spec h) (fun a => by first | rfl | simp only [defs_LeafE, evk, chks]) fun y4 hy4 => ?_
    try simp only [defs_LeafE, evs, tys]
    refine Imp.cnd ?_ ?_
    ·exact Imp.some (by first | rfl | simp only [merge_ShapeE, evs, tys, evl])
    ·refine Imp.call (f := defs_CompositeE) rfl (fun a h => by first | exact defs_Composite_spec h | simpa only [evs, tys, evl] using defs_Composite_spec h) (fun a => by first | rfl | simp only [defs_CompositeE, evk, chks]) fun y6 hy6 => ?_
     try simp only [defs_CompositeE, evs, tys]
     refine Imp.cnd ?_ ?_
     ·refine Imp.call (f := defs_CompositeE) rfl (fun a h => by first | exact defs_Composite_spec h | simpa only [evs, tys, evl] using defs_Composite_spec h) (fun a => by first | rfl | simp only [defs_CompositeE, evk, chks]) fun y8 hy8 => ?_
      try simp only [defs_CompositeE, evs, tys]
      exact Imp.some (by first | rfl | simp only [merge_ShapeE, evs, tys, evl])
     ·exact Imp.some (by first | rfl | simp only [merge_ShapeE, evs, tys, evl])
theorem merge_Shape_run {s : GSchema} {a : GType} {b : GType} {r : Bool} (h : merge_Shape_B s a b = some r) : merge_Shape s a b = some r := by
 obtain ⟨v, hv, rfl⟩ := merge_Shape_imp s a b r h
 exact tO_of (pair_inj merge_ShapeEj) (OL_runD merge_Shape_ds rfl rfl Try.func34 ((merge_Shape_t1 _ _ s a b).trans hv))
def defs_Kind_T1 (O : Orc) (LP : LBody → LBody) (s : GSchema) (name : Str) (kinds : List Int) : Option (PV × UP) :=
 callp O 74 [(.agg [(.slice (List.map encDef s.defs) [] false), (.str s.query), (.str s.mutation)]), (.str name)] fun x1 => cnd (chk (.tup [shDef, .bool]) x1)
 (cnd (boolV (gt (tupV x1) 1))
 (callp O 90 [(.slice (List.map (PV.int .i64) kinds) [] false), (.int .i64 (intV (gt (aggV (gt (tupV x1) 0)) 0)))] fun x3 => cnd (chk .bool x3)
 (some ((.bool (boolV x3)), [])) none)
 (some ((.bool false), []))) none
noncomputable def defs_Kind_B (s : GSchema) (name : Str) (kinds : List Int) : Option Bool :=
 bnd (defs_Find s name) fun y2 =>
 cnd y2.2
 (bnd (slices_Contains_int_int kinds y2.1.kind) fun y4 =>
 some y4)
 (some false)
def defs_Kind_ds : Decs := { decs := [(12, (.tup [shDef, .bool])), (20, .bool)], ups := [], loops := [] }
set_option maxRecDepth 100000 in
theorem defs_Kind_t1 (O : Orc) (LP : LBody → LBody) (s : GSchema) (name : Str) (kinds : List Int) : evalBodyD Try.prog (MT 76) defs_Kind_ds Try.f76.ntmps O LP Try.f76 [(.agg [(.slice (List.map encDef s.defs) [] false), (.str s.query), (.str s.mutation)]), (.str name), (.slice (List.map (PV.int .i64) kinds) [] false)] [] = defs_Kind_T1 O LP s name kinds := by kernel_rfl
theorem defs_Kind_imp (s : GSchema) (name : Str) (kinds : List Int) : Imp (defs_Kind_B s name kinds) (defs_Kind_T1 O loopLim s name kinds) (fun r v => v = (defs_KindE r, [])) := by
 simp only [defs_Kind_B, defs_Kind_T1]
 try simp only [evs, tys]
 refine Imp.call (f := defs_FindE) rfl (fun a h => by first | exact defs_Find_spec h | simpa only [evs, tys, evl] using defs_Find_spec h) (fun a => by first | rfl | simp only [defs_FindE, evk, chks]) fun y2 hy2 => ?_
 try simp only [defs_FindE, evs, tys]
 refine Imp.cnd ?_ ?_
 ·refine Imp.call (f := slices_Contains_int_intE) rfl (fun a h => by first | exact slices_Contains_int_int_spec h | simpa only [evs, tys, evl] using slices_Contains_int_int_spec h) (fun a => by first | rfl | simp only [slices_Contains_int_intE, evk, chks]) fun y4 hy4 => ?_
  try simp only [slices_Contains_int_intE, evs, tys]
  exact Imp.some (by first | rfl | simp only [defs_KindE, evs, tys, evl])
 ·exact Imp.some (by first | rfl | simp only [defs_KindE, evs, tys, evl])
theorem defs_Kind_run {s : GSchema} {name : Str} {kinds : List Int} {r : Bool} (h : defs_Kind_B s name kinds = some r) : defs_Kind s name kinds = some r := by
 obtain ⟨v, hv, rfl⟩ := defs_Kind_imp s name kinds r h
 exact tO_of (pair_inj defs_KindEj) (OL_runD defs_Kind_ds rfl rfl Try.func76 ((defs_Kind_t1 _ _ s name kinds).trans hv))
open Go Go.Ev Go.Ev.PV
def fields_Root_T1 (O : Orc) (LP : LBody → LBody) (s : GSchema) (o : GOp) : Option (PV × UP) :=
 cnd (o.kind == 1)
 (some ((.str s.mutation), []))
 (some ((.str s.query), []))
noncomputable def fields_Root_B (s : GSchema) (o : GOp) : Option Str :=
 cnd (o.kind == 1)
 (some s.mutation)
 (some s.query)
def fields_Root_ds : Decs := { decs := [], ups := [], loops := [] }
set_option maxRecDepth 100000 in
theorem fields_Root_t1 (O : Orc) (LP : LBody → LBody) (s : GSchema) (o : GOp) : evalBodyD Try.prog (MT 81) fields_Root_ds Try.f81.ntmps O LP Try.f81 [(.agg [(.slice (List.map encDef s.defs) [] false), (.str s.query), (.str s.mutation)]), (.agg [(.int .i64 o.kind), (.str o.name), (.slice (List.map encVarDef o.vars) [] false), (.slice (List.map encDir o.dirs) [] false), (.slice (List.map encSel o.sels) [] false)])] [] = fields_Root_T1 O LP s o := by kernel_rfl
theorem fields_Root_imp (s : GSchema) (o : GOp) : Imp (fields_Root_B s o) (fields_Root_T1 O loopLim s o) (fun r v => v = (fields_RootE r, [])) := by
 simp only [fields_Root_B, fields_Root_T1]
 try simp only [evs, tys]
 refine Imp.cnd ?_ ?_
 ·exact Imp.some (by first | rfl | simp only [fields_RootE, evs, tys, evl])
 ·exact Imp.some (by first | rfl | simp only [fields_RootE, evs, tys, evl])
theorem fields_Root_run {s : GSchema} {o : GOp} {r : Str} (h : fields_Root_B s o = some r) : fields_Root s o = some r := by
 obtain ⟨v, hv, rfl⟩ := fields_Root_imp s o r h
 exact tO_of (pair_inj fields_RootEj) (OL_runD fields_Root_ds rfl rfl Try.func81 ((fields_Root_t1 _ _ s o).trans hv))
def fields_Within_T1 (O : Orc) (LP : LBody → LBody) (s : GSchema) (typ : Str) (x : GSel) : Option (PV × UP) :=
 cnd (x.kind == 0)
 (callp O 100 [(.agg [(.slice (List.map encDef s.defs) [] false), (.str s.query), (.str s.mutation)]), (.str typ), (.str x.name)] fun x1 => cnd (chk (.tup [shFieldDef, .bool]) x1)
 (some ((.str (strV (gt (aggV (gt (tupV x1) 0)) 2))), [])) none)
 (cnd (x.kind == 2)
 (cnd (!(x.on_ == ([] : Str)))
 (some ((.str x.on_), []))
 (cnd (x.kind == 2)
 (some ((.str typ), []))
 (some ((.str []), []))))
 (cnd (x.kind == 2)
 (some ((.str typ), []))
 (some ((.str []), []))))
noncomputable def fields_Within_B (s : GSchema) (typ : Str) (x : GSel) : Option Str :=
 cnd (x.kind == 0)
 (bnd (defs_Field s typ x.name) fun y2 =>
 some y2.1.t.name)
 (cnd (x.kind == 2)
 (cnd (!(x.on_ == ([] : Str)))
 (some x.on_)
 (cnd (x.kind == 2)
 (some typ)
 (some [])))
 (cnd (x.kind == 2)
 (some typ)
 (some [])))
def fields_Within_ds : Decs := { decs := [(18, (.tup [shFieldDef, .bool]))], ups := [], loops := [] }
set_option maxRecDepth 100000 in
theorem fields_Within_t1 (O : Orc) (LP : LBody → LBody) (s : GSchema) (typ : Str) (x : GSel) : evalBodyD Try.prog (MT 95) fields_Within_ds Try.f95.ntmps O LP Try.f95 [(.agg [(.slice (List.map encDef s.defs) [] false), (.str s.query), (.str s.mutation)]), (.str typ), (.agg [(.int .i64 x.kind), (.str x.alias), (.str x.name), (.slice (List.map encMember x.args) [] false), (.slice (List.map encDir x.dirs) [] false), (.str x.on_), (.slice (List.map encSel x.sels) [] false)])] [] = fields_Within_T1 O LP s typ x := by kernel_rfl
theorem fields_Within_imp (s : GSchema) (typ : Str) (x : GSel) : Imp (fields_Within_B s typ x) (fields_Within_T1 O loopLim s typ x) (fun r v => v = (fields_WithinE r, [])) := by
 simp only [fields_Within_B, fields_Within_T1]
 try simp only [evs, tys]
 refine Imp.cnd ?_ ?_
 ·refine Imp.call (f := defs_FieldE) rfl (fun a h => by first | exact defs_Field_spec h | simpa only [evs, tys, evl] using defs_Field_spec h) (fun a => by first | rfl | simp only [defs_FieldE, evk, chks]) fun y2 hy2 => ?_
  try simp only [defs_FieldE, evs, tys]
  exact Imp.some (by first | rfl | simp only [fields_WithinE, evs, tys, evl])
 ·refine Imp.cnd ?_ ?_
  ·refine Imp.cnd ?_ ?_
   ·exact Imp.some (by first | rfl | simp only [fields_WithinE, evs, tys, evl])
   ·refine Imp.cnd ?_ ?_
    ·exact Imp.some (by first | rfl | simp only [fields_WithinE, evs, tys, evl])
    ·exact Imp.some (by first | rfl | simp only [fields_WithinE, evs, tys, evl])
  ·refine Imp.cnd ?_ ?_
   ·exact Imp.some (by first | rfl | simp only [fields_WithinE, evs, tys, evl])
   ·exact Imp.some (by first | rfl | simp only [fields_WithinE, evs, tys, evl])
theorem fields_Within_run {s : GSchema} {typ : Str} {x : GSel} {r : Str} (h : fields_Within_B s typ x = some r) : fields_Within s typ x = some r := by
 obtain ⟨v, hv, rfl⟩ := fields_Within_imp s typ x r h
 exact tO_of (pair_inj fields_WithinEj) (OL_runD fields_Within_ds rfl rfl Try.func95 ((fields_Within_t1 _ _ s typ x).trans hv))
def defs_Field_1_T1 (O : Orc) (LP : LBody → LBody) (f : GFieldDef) (u0_8 : GDef) (u0_6 : Str) (u0_60 : Str) (u0_600 : Int) (u0_6000 : Int) (u0_5 : Str) (u0_3 : GSchema) : Option (PV × UP) :=
 some ((.bool (f.name == u0_5)), [[(8, [(.int .i64 u0_8.kind), (.str u0_8.name), (.slice (List.map PV.str u0_8.faces) [] false), (.slice (List.map encFieldDef u0_8.fields) [] false), (.slice (List.map PV.str u0_8.parts) [] false), (.slice (List.map encParam u0_8.params) [] false)]), (6, [(.str u0_6), (.slice [] [] true), (.str u0_60), (.int .i64 u0_600), (.int .i64 u0_6000), (.slice [] [] true)]), (5, [(.str u0_5)]), (3, [(.slice (List.map encDef u0_3.defs) [] false), (.str u0_3.query), (.str u0_3.mutation)])]])
noncomputable def defs_Field_1_B (f : GFieldDef) (u0_8 : GDef) (u0_6 : Str) (u0_60 : Str) (u0_600 : Int) (u0_6000 : Int) (u0_5 : Str) (u0_3 : GSchema) : Option Bool :=
 some (f.name == u0_5)
def defs_Field_1_ds : Decs := { decs := [], ups := [], loops := [] }
set_option maxRecDepth 100000 in
theorem defs_Field_1_t1 (O : Orc) (LP : LBody → LBody) (f : GFieldDef) (u0_8 : GDef) (u0_6 : Str) (u0_60 : Str) (u0_600 : Int) (u0_6000 : Int) (u0_5 : Str) (u0_3 : GSchema) : evalBodyD Try.prog (MT 104) defs_Field_1_ds Try.f104.ntmps O LP Try.f104 [(.agg [(.str f.name), (.slice (List.map encParam f.params) [] false), (.str f.t.name), (.int .i64 f.t.lists), (.int .i64 f.t.musts), (.slice (List.map encDir f.dirs) [] false)]), (.ptr 1 5 0)] [[(8, [(.int .i64 u0_8.kind), (.str u0_8.name), (.slice (List.map PV.str u0_8.faces) [] false), (.slice (List.map encFieldDef u0_8.fields) [] false), (.slice (List.map PV.str u0_8.parts) [] false), (.slice (List.map encParam u0_8.params) [] false)]), (6, [(.str u0_6), (.slice [] [] true), (.str u0_60), (.int .i64 u0_600), (.int .i64 u0_6000), (.slice [] [] true)]), (5, [(.str u0_5)]), (3, [(.slice (List.map encDef u0_3.defs) [] false), (.str u0_3.query), (.str u0_3.mutation)])]] = defs_Field_1_T1 O LP f u0_8 u0_6 u0_60 u0_600 u0_6000 u0_5 u0_3 := by kernel_rfl
theorem defs_Field_1_imp (f : GFieldDef) (u0_8 : GDef) (u0_6 : Str) (u0_60 : Str) (u0_600 : Int) (u0_6000 : Int) (u0_5 : Str) (u0_3 : GSchema) : Imp (defs_Field_1_B f u0_8 u0_6 u0_60 u0_600 u0_6000 u0_5 u0_3) (defs_Field_1_T1 O loopLim f u0_8 u0_6 u0_60 u0_600 u0_6000 u0_5 u0_3) (fun r v => v = (defs_Field_1E r, (defs_Field_1U f u0_8 u0_6 u0_60 u0_600 u0_6000 u0_5 u0_3 r))) := by
 simp only [defs_Field_1_B, defs_Field_1_T1]
 try simp only [evs, tys]
 exact Imp.some (by first | rfl | simp only [defs_Field_1E, defs_Field_1U, evs, tys, evl])
theorem defs_Field_1_run {f : GFieldDef} {u0_8 : GDef} {u0_6 : Str} {u0_60 : Str} {u0_600 : Int} {u0_6000 : Int} {u0_5 : Str} {u0_3 : GSchema} {r : Bool} (h : defs_Field_1_B f u0_8 u0_6 u0_60 u0_600 u0_6000 u0_5 u0_3 = some r) : defs_Field_1 f u0_8 u0_6 u0_60 u0_600 u0_6000 u0_5 u0_3 = some r := by
 obtain ⟨v, hv, rfl⟩ := defs_Field_1_imp f u0_8 u0_6 u0_60 u0_600 u0_6000 u0_5 u0_3 r h
 exact tO_of (fun a b h => defs_Field_1Ej a b (Prod.mk.inj h).1) (OL_runD defs_Field_1_ds rfl rfl Try.func104 ((defs_Field_1_t1 _ _ f u0_8 u0_6 u0_60 u0_600 u0_6000 u0_5 u0_3).trans hv))
def slices_IndexFunc_FieldDef_l1 (O : Orc) (LP : LBody → LBody) : LBody := fun s1 s1u => cnd (chkL [(.sl false), (.func 104 [] [(.ptr 1 5 0)]), (.int .i64), (.int .i64), (.int .i64)] s1) (cnd (chkU [[(8, [(.int .i64), .str, (.sl false), (.sl false), (.sl false), (.sl false)]), (6, [.str, (.sl true), .str, (.int .i64), (.int .i64), (.sl true)]), (5, [.str]), (3, [(.sl false), .str, .str])]] s1u)
 (cnd (decide ((intV (gt s1 4)) < (intV (gt s1 3))))
 (bnd (ix 6 (.slice (esV (gt s1 0)) [] false) (.int .i64 (intV (gt s1 4)))) fun x7 => cnd (chk (.ref shFieldDef) x7)
 (bnd (O 104 [(.agg [(.str (strV (gt (aggV (refV x7)) 0))), (.slice (esV (gt (aggV (refV x7)) 1)) [] false), (.str (strV (gt (aggV (refV x7)) 2))), (.int .i64 (intV (gt (aggV (refV x7)) 3))), (.int .i64 (intV (gt (aggV (refV x7)) 4))), (.slice (esV (gt (aggV (refV x7)) 5)) [] false)]), (.ptr 2 5 0)] [[], [(8, [(.int .i64 (intV (gt (boxI (frI s1u 0) 0) 0))), (.str (strV (gt (boxI (frI s1u 0) 0) 1))), (.slice (esV (gt (boxI (frI s1u 0) 0) 2)) [] false), (.slice (esV (gt (boxI (frI s1u 0) 0) 3)) [] false), (.slice (esV (gt (boxI (frI s1u 0) 0) 4)) [] false), (.slice (esV (gt (boxI (frI s1u 0) 0) 5)) [] false)]), (6, [(.str (strV (gt (boxI (frI s1u 0) 1) 0))), (.slice (esV (gt (boxI (frI s1u 0) 1) 1)) [] true), (.str (strV (gt (boxI (frI s1u 0) 1) 2))), (.int .i64 (intV (gt (boxI (frI s1u 0) 1) 3))), (.int .i64 (intV (gt (boxI (frI s1u 0) 1) 4))), (.slice (esV (gt (boxI (frI s1u 0) 1) 5)) [] true)]), (5, [(.str (strV (gt (boxI (frI s1u 0) 2) 0)))]), (3, [(.slice (esV (gt (boxI (frI s1u 0) 3) 0)) [] false), (.str (strV (gt (boxI (frI s1u 0) 3) 1))), (.str (strV (gt (boxI (frI s1u 0) 3) 2)))])]]) fun x9 => cnd (chkU [[], [(8, [(.int .i64), .str, (.sl false), (.sl false), (.sl false), (.sl false)]), (6, [.str, (.sl true), .str, (.int .i64), (.int .i64), (.sl true)]), (5, [.str]), (3, [(.sl false), .str, .str])]] x9.2) (cnd (chk .bool x9.1)
 (cnd (boolV x9.1)
 (some (.ret, [(.slice (esV (gt s1 0)) [] false), (.func (.func 104) [] [(.ptr 1 5 0)]), (.int .i64 (intV (gt s1 4))), (.int .i64 (intV (gt s1 3))), (.int .i64 (intV (gt s1 4)))], [[(8, [(.int .i64 (intV (gt (boxI (frI x9.2 1) 0) 0))), (.str (strV (gt (boxI (frI x9.2 1) 0) 1))), (.slice (esV (gt (boxI (frI x9.2 1) 0) 2)) [] false), (.slice (esV (gt (boxI (frI x9.2 1) 0) 3)) [] false), (.slice (esV (gt (boxI (frI x9.2 1) 0) 4)) [] false), (.slice (esV (gt (boxI (frI x9.2 1) 0) 5)) [] false)]), (6, [(.str (strV (gt (boxI (frI x9.2 1) 1) 0))), (.slice (esV (gt (boxI (frI x9.2 1) 1) 1)) [] true), (.str (strV (gt (boxI (frI x9.2 1) 1) 2))), (.int .i64 (intV (gt (boxI (frI x9.2 1) 1) 3))), (.int .i64 (intV (gt (boxI (frI x9.2 1) 1) 4))), (.slice (esV (gt (boxI (frI x9.2 1) 1) 5)) [] true)]), (5, [(.str (strV (gt (boxI (frI x9.2 1) 2) 0)))]), (3, [(.slice (esV (gt (boxI (frI x9.2 1) 3) 0)) [] false), (.str (strV (gt (boxI (frI x9.2 1) 3) 1))), (.str (strV (gt (boxI (frI x9.2 1) 3) 2)))])]]))
 (some (.nrm, [(.slice (esV (gt s1 0)) [] false), (.func (.func 104) [] [(.ptr 1 5 0)]), (.int .i64 (intV (gt s1 2))), (.int .i64 (intV (gt s1 3))), (.int .i64 (IntKind.wrap .i64 ((intV (gt s1 4)) + 1)))], [[(8, [(.int .i64 (intV (gt (boxI (frI x9.2 1) 0) 0))), (.str (strV (gt (boxI (frI x9.2 1) 0) 1))), (.slice (esV (gt (boxI (frI x9.2 1) 0) 2)) [] false), (.slice (esV (gt (boxI (frI x9.2 1) 0) 3)) [] false), (.slice (esV (gt (boxI (frI x9.2 1) 0) 4)) [] false), (.slice (esV (gt (boxI (frI x9.2 1) 0) 5)) [] false)]), (6, [(.str (strV (gt (boxI (frI x9.2 1) 1) 0))), (.slice (esV (gt (boxI (frI x9.2 1) 1) 1)) [] true), (.str (strV (gt (boxI (frI x9.2 1) 1) 2))), (.int .i64 (intV (gt (boxI (frI x9.2 1) 1) 3))), (.int .i64 (intV (gt (boxI (frI x9.2 1) 1) 4))), (.slice (esV (gt (boxI (frI x9.2 1) 1) 5)) [] true)]), (5, [(.str (strV (gt (boxI (frI x9.2 1) 2) 0)))]), (3, [(.slice (esV (gt (boxI (frI x9.2 1) 3) 0)) [] false), (.str (strV (gt (boxI (frI x9.2 1) 3) 1))), (.str (strV (gt (boxI (frI x9.2 1) 3) 2)))])]]))) none) none) none)
 (some (.brk 0, [(.slice (esV (gt s1 0)) [] false), (.func (.func 104) [] [(.ptr 1 5 0)]), (.int .i64 (intV (gt s1 2))), (.int .i64 (intV (gt s1 3))), (.int .i64 (intV (gt s1 4)))], [[(8, [(.int .i64 (intV (gt (boxI (frI s1u 0) 0) 0))), (.str (strV (gt (boxI (frI s1u 0) 0) 1))), (.slice (esV (gt (boxI (frI s1u 0) 0) 2)) [] false), (.slice (esV (gt (boxI (frI s1u 0) 0) 3)) [] false), (.slice (esV (gt (boxI (frI s1u 0) 0) 4)) [] false), (.slice (esV (gt (boxI (frI s1u 0) 0) 5)) [] false)]), (6, [(.str (strV (gt (boxI (frI s1u 0) 1) 0))), (.slice (esV (gt (boxI (frI s1u 0) 1) 1)) [] true), (.str (strV (gt (boxI (frI s1u 0) 1) 2))), (.int .i64 (intV (gt (boxI (frI s1u 0) 1) 3))), (.int .i64 (intV (gt (boxI (frI s1u 0) 1) 4))), (.slice (esV (gt (boxI (frI s1u 0) 1) 5)) [] true)]), (5, [(.str (strV (gt (boxI (frI s1u 0) 2) 0)))]), (3, [(.slice (esV (gt (boxI (frI s1u 0) 3) 0)) [] false), (.str (strV (gt (boxI (frI s1u 0) 3) 1))), (.str (strV (gt (boxI (frI s1u 0) 3) 2)))])]]))) none) none
def slices_IndexFunc_FieldDef_T1 (O : Orc) (LP : LBody → LBody) (s : List GFieldDef) (u0_8 : GDef) (u0_6 : Str) (u0_60 : Str) (u0_600 : Int) (u0_6000 : Int) (u0_5 : Str) (u0_3 : GSchema) : Option (PV × UP) :=
 bnd (LP (slices_IndexFunc_FieldDef_l1 O LP) [(.slice (List.map encFieldDef s) [] false), (.func (.func 104) [] [(.ptr 1 5 0)]), (.int .i64 0), (.int .i64 (List.length (List.map encFieldDef s) : Int)), (.int .i64 0)] [[(8, [(.int .i64 u0_8.kind), (.str u0_8.name), (.slice (List.map PV.str u0_8.faces) [] false), (.slice (List.map encFieldDef u0_8.fields) [] false), (.slice (List.map PV.str u0_8.parts) [] false), (.slice (List.map encParam u0_8.params) [] false)]), (6, [(.str u0_6), (.slice [] [] true), (.str u0_60), (.int .i64 u0_600), (.int .i64 u0_6000), (.slice [] [] true)]), (5, [(.str u0_5)]), (3, [(.slice (List.map encDef u0_3.defs) [] false), (.str u0_3.query), (.str u0_3.mutation)])]]) fun y14 =>
 exIs y14.1 (some 0) (cnd (chkL [(.sl false), (.func 104 [] [(.ptr 1 5 0)]), (.int .i64), (.int .i64), (.int .i64)] y14.2.1) (cnd (chkU [[(8, [(.int .i64), .str, (.sl false), (.sl false), (.sl false), (.sl false)]), (6, [.str, (.sl true), .str, (.int .i64), (.int .i64), (.sl true)]), (5, [.str]), (3, [(.sl false), .str, .str])]] y14.2.2)
 (some ((.int .i64 (-1)), [[(8, [(.int .i64 (intV (gt (boxI (frI y14.2.2 0) 0) 0))), (.str (strV (gt (boxI (frI y14.2.2 0) 0) 1))), (.slice (esV (gt (boxI (frI y14.2.2 0) 0) 2)) [] false), (.slice (esV (gt (boxI (frI y14.2.2 0) 0) 3)) [] false), (.slice (esV (gt (boxI (frI y14.2.2 0) 0) 4)) [] false), (.slice (esV (gt (boxI (frI y14.2.2 0) 0) 5)) [] false)]), (6, [(.str (strV (gt (boxI (frI y14.2.2 0) 1) 0))), (.slice (esV (gt (boxI (frI y14.2.2 0) 1) 1)) [] true), (.str (strV (gt (boxI (frI y14.2.2 0) 1) 2))), (.int .i64 (intV (gt (boxI (frI y14.2.2 0) 1) 3))), (.int .i64 (intV (gt (boxI (frI y14.2.2 0) 1) 4))), (.slice (esV (gt (boxI (frI y14.2.2 0) 1) 5)) [] true)]), (5, [(.str (strV (gt (boxI (frI y14.2.2 0) 2) 0)))]), (3, [(.slice (esV (gt (boxI (frI y14.2.2 0) 3) 0)) [] false), (.str (strV (gt (boxI (frI y14.2.2 0) 3) 1))), (.str (strV (gt (boxI (frI y14.2.2 0) 3) 2)))])]])) none) none)
 (exIs y14.1 none (cnd (chkL [(.sl false), (.func 104 [] [(.ptr 1 5 0)]), (.int .i64), (.int .i64), (.int .i64)] y14.2.1) (cnd (chkU [[(8, [(.int .i64), .str, (.sl false), (.sl false), (.sl false), (.sl false)]), (6, [.str, (.sl true), .str, (.int .i64), (.int .i64), (.sl true)]), (5, [.str]), (3, [(.sl false), .str, .str])]] y14.2.2)
 (some ((.int .i64 (intV (gt y14.2.1 2))), [[(8, [(.int .i64 (intV (gt (boxI (frI y14.2.2 0) 0) 0))), (.str (strV (gt (boxI (frI y14.2.2 0) 0) 1))), (.slice (esV (gt (boxI (frI y14.2.2 0) 0) 2)) [] false), (.slice (esV (gt (boxI (frI y14.2.2 0) 0) 3)) [] false), (.slice (esV (gt (boxI (frI y14.2.2 0) 0) 4)) [] false), (.slice (esV (gt (boxI (frI y14.2.2 0) 0) 5)) [] false)]), (6, [(.str (strV (gt (boxI (frI y14.2.2 0) 1) 0))), (.slice (esV (gt (boxI (frI y14.2.2 0) 1) 1)) [] true), (.str (strV (gt (boxI (frI y14.2.2 0) 1) 2))), (.int .i64 (intV (gt (boxI (frI y14.2.2 0) 1) 3))), (.int .i64 (intV (gt (boxI (frI y14.2.2 0) 1) 4))), (.slice (esV (gt (boxI (frI y14.2.2 0) 1) 5)) [] true)]), (5, [(.str (strV (gt (boxI (frI y14.2.2 0) 2) 0)))]), (3, [(.slice (esV (gt (boxI (frI y14.2.2 0) 3) 0)) [] false), (.str (strV (gt (boxI (frI y14.2.2 0) 3) 1))), (.str (strV (gt (boxI (frI y14.2.2 0) 3) 2)))])]])) none) none)
 (none))
noncomputable def slices_IndexFunc_FieldDef_l1T (s : List GFieldDef) (u0_8 : GDef) (u0_6 : Str) (u0_60 : Str) (u0_600 : Int) (u0_6000 : Int) (u0_5 : Str) (u0_3 : GSchema) : Int → Option (Int ⊕ (Unit ⊕ Int))
 | t_6 =>
 cnd (decide (t_6 < (List.length s : Int)))
  (bnd (nthI s t_6) fun y8 =>
  bnd (defs_Field_1 y8 u0_8 u0_6 u0_60 u0_600 u0_6000 u0_5 u0_3) fun y10 =>
  cnd y10
  (some (.inr (.inr t_6)))
  (some (.inl (IntKind.wrap .i64 (t_6 + 1)))))
  (some (.inr (.inl ())))
abbrev slices_IndexFunc_FieldDef_l1R (s : List GFieldDef) (u0_8 : GDef) (u0_6 : Str) (u0_60 : Str) (u0_600 : Int) (u0_6000 : Int) (u0_5 : Str) (u0_3 : GSchema) (st : Int) (l : List PV) (u : UP) : Prop := l = [(.slice (List.map encFieldDef s) [] false), (.func (.func 104) [] [(.ptr 1 5 0)]), (.int .i64 0), (.int .i64 (List.length s : Int)), (.int .i64 st)] ∧ u = [[(8, [(.int .i64 u0_8.kind), (.str u0_8.name), (.slice (List.map PV.str u0_8.faces) [] false), (.slice (List.map encFieldDef u0_8.fields) [] false), (.slice (List.map PV.str u0_8.parts) [] false), (.slice (List.map encParam u0_8.params) [] false)]), (6, [(.str u0_6), (.slice [] [] true), (.str u0_60), (.int .i64 u0_600), (.int .i64 u0_6000), (.slice [] [] true)]), (5, [(.str u0_5)]), (3, [(.slice (List.map encDef u0_3.defs) [] false), (.str u0_3.query), (.str u0_3.mutation)])]]
abbrev slices_IndexFunc_FieldDef_l1X (s : List GFieldDef) (u0_8 : GDef) (u0_6 : Str) (u0_60 : Str) (u0_600 : Int) (u0_6000 : Int) (u0_5 : Str) (u0_3 : GSchema) (p : Unit ⊕ Int) (r : Ex × List PV × UP) : Prop := elim p (fun (p : Unit) => ∃ (t_11 : Int), r = (Ex.brk 0, [(.slice (List.map encFieldDef s) [] false), (.func (.func 104) [] [(.ptr 1 5 0)]), (.int .i64 0), (.int .i64 (List.length s : Int)), (.int .i64 t_11)], [[(8, [(.int .i64 u0_8.kind), (.str u0_8.name), (.slice (List.map PV.str u0_8.faces) [] false), (.slice (List.map encFieldDef u0_8.fields) [] false), (.slice (List.map PV.str u0_8.parts) [] false), (.slice (List.map encParam u0_8.params) [] false)]), (6, [(.str u0_6), (.slice [] [] true), (.str u0_60), (.int .i64 u0_600), (.int .i64 u0_6000), (.slice [] [] true)]), (5, [(.str u0_5)]), (3, [(.slice (List.map encDef u0_3.defs) [] false), (.str u0_3.query), (.str u0_3.mutation)])]])) (fun q2 => (fun (p : Int) => ∃ (t_13 : Int), r = (Ex.ret, [(.slice (List.map encFieldDef s) [] false), (.func (.func 104) [] [(.ptr 1 5 0)]), (.int .i64 p), (.int .i64 (List.length s : Int)), (.int .i64 t_13)], [[(8, [(.int .i64 u0_8.kind), (.str u0_8.name), (.slice (List.map PV.str u0_8.faces) [] false), (.slice (List.map encFieldDef u0_8.fields) [] false), (.slice (List.map PV.str u0_8.parts) [] false), (.slice (List.map encParam u0_8.params) [] false)]), (6, [(.str u0_6), (.slice [] [] true), (.str u0_60), (.int .i64 u0_600), (.int .i64 u0_6000), (.slice [] [] true)]), (5, [(.str u0_5)]), (3, [(.slice (List.map encDef u0_3.defs) [] false), (.str u0_3.query), (.str u0_3.mutation)])]])) q2)
noncomputable def slices_IndexFunc_FieldDef_B (s : List GFieldDef) (u0_8 : GDef) (u0_6 : Str) (u0_60 : Str) (u0_600 : Int) (u0_6000 : Int) (u0_5 : Str) (u0_3 : GSchema) : Option Int :=
 bnd (tloop (slices_IndexFunc_FieldDef_l1T s u0_8 u0_6 u0_60 u0_600 u0_6000 u0_5 u0_3) 0) fun e14_2 => elim e14_2
 (fun p14 =>
 some (-1))
 (fun t_12 =>
 some t_12)
def slices_IndexFunc_FieldDef_ds : Decs := { decs := [(14, (.ref shFieldDef)), (16, .bool)], ups := [(16, [[], [(8, [(.int .i64), .str, (.sl false), (.sl false), (.sl false), (.sl false)]), (6, [.str, (.sl true), .str, (.int .i64), (.int .i64), (.sl true)]), (5, [.str]), (3, [(.sl false), .str, .str])]])], loops := [(2, [], ⟨[(.sl false), (.func 104 [] [(.ptr 1 5 0)]), (.int .i64), (.int .i64), (.int .i64)], [[(8, [(.int .i64), .str, (.sl false), (.sl false), (.sl false), (.sl false)]), (6, [.str, (.sl true), .str, (.int .i64), (.int .i64), (.sl true)]), (5, [.str]), (3, [(.sl false), .str, .str])]], [(some 0, [(.sl false), (.func 104 [] [(.ptr 1 5 0)]), (.int .i64), (.int .i64), (.int .i64)], [[(8, [(.int .i64), .str, (.sl false), (.sl false), (.sl false), (.sl false)]), (6, [.str, (.sl true), .str, (.int .i64), (.int .i64), (.sl true)]), (5, [.str]), (3, [(.sl false), .str, .str])]]), (none, [(.sl false), (.func 104 [] [(.ptr 1 5 0)]), (.int .i64), (.int .i64), (.int .i64)], [[(8, [(.int .i64), .str, (.sl false), (.sl false), (.sl false), (.sl false)]), (6, [.str, (.sl true), .str, (.int .i64), (.int .i64), (.sl true)]), (5, [.str]), (3, [(.sl false), .str, .str])]])]⟩)] }
set_option maxRecDepth 100000 in
theorem slices_IndexFunc_FieldDef_t1 (O : Orc) (LP : LBody → LBody) (s : List GFieldDef) (u0_8 : GDef) (u0_6 : Str) (u0_60 : Str) (u0_600 : Int) (u0_6000 : Int) (u0_5 : Str) (u0_3 : GSchema) : evalBodyD Try.prog (MT 103) slices_IndexFunc_FieldDef_ds Try.f103.ntmps O LP Try.f103 [(.slice (List.map encFieldDef s) [] false), (.func (.func 104) [] [(.ptr 1 5 0)])] [[(8, [(.int .i64 u0_8.kind), (.str u0_8.name), (.slice (List.map PV.str u0_8.faces) [] false), (.slice (List.map encFieldDef u0_8.fields) [] false), (.slice (List.map PV.str u0_8.parts) [] false), (.slice (List.map encParam u0_8.params) [] false)]), (6, [(.str u0_6), (.slice [] [] true), (.str u0_60), (.int .i64 u0_600), (.int .i64 u0_6000), (.slice [] [] true)]), (5, [(.str u0_5)]), (3, [(.slice (List.map encDef u0_3.defs) [] false), (.str u0_3.query), (.str u0_3.mutation)])]] = slices_IndexFunc_FieldDef_T1 O LP s u0_8 u0_6 u0_60 u0_600 u0_6000 u0_5 u0_3 := by kernel_rfl
theorem slices_IndexFunc_FieldDef_l1_ok (s : List GFieldDef) (u0_8 : GDef) (u0_6 : Str) (u0_60 : Str) (u0_600 : Int) (u0_6000 : Int) (u0_5 : Str) (u0_3 : GSchema) : ∀ st l u, slices_IndexFunc_FieldDef_l1R s u0_8 u0_6 u0_60 u0_600 u0_6000 u0_5 u0_3 st l u → Imp (slices_IndexFunc_FieldDef_l1T s u0_8 u0_6 u0_60 u0_600 u0_6000 u0_5 u0_3 st) (slices_IndexFunc_FieldDef_l1 O loopLim l u) (StepR (slices_IndexFunc_FieldDef_l1R s u0_8 u0_6 u0_60 u0_600 u0_6000 u0_5 u0_3) (slices_IndexFunc_FieldDef_l1X s u0_8 u0_6 u0_60 u0_600 u0_6000 u0_5 u0_3)) := by
 rintro t_6 l u ⟨rfl, rfl⟩
 simp only [slices_IndexFunc_FieldDef_l1T, slices_IndexFunc_FieldDef_l1]
 refine Imp.chk rfl (Imp.chk rfl ?_)
 try simp only [evs, tys]
 refine Imp.cnd ?_ ?_
 ·refine Imp.op (f := fun a => .ref (encFieldDef a)) (fun a h => op_ix (enc := encFieldDef) (by first | rfl | simp only [evs, tys, evl]) ⟨by first | rfl | simp only [evs, tys, evc], by decide⟩ h) (fun a => chk_GFieldDef a) fun y8 hy8 => ?_
  try simp only [evs, tys]
  refine Imp.gcall (f := defs_Field_1E) (fu := fun a => [] :: defs_Field_1U y8 u0_8 u0_6 u0_60 u0_600 u0_6000 u0_5 u0_3 a) (fun a h => by first | exact OL_drop rfl rfl (by first | rfl | (simp only [defs_Field_1E, tys]; rfl)) (defs_Field_1_spec h) | (have h' := defs_Field_1_spec h; simp only [evs, tys, evl, defs_Field_1U] at h'; exact OL_drop rfl rfl (by first | rfl | (simp only [defs_Field_1E, tys]; rfl)) (h'))) (fun a => by first | rfl | simp only [defs_Field_1E, evk, chks]) (fun a => by first | rfl | (simp only [defs_Field_1U, evs, tys]; rfl)) fun y10 hy10 => ?_
  try simp only [defs_Field_1E, defs_Field_1U, evs, tys]
  refine Imp.cnd ?_ ?_
  ·exact Imp.some (StepR.ret ⟨t_6, by first | rfl | simp only [evs, tys, evl, elim_inl, elim_inr]⟩)
  ·exact Imp.some (StepR.next ⟨by first | rfl | simp only [evs, tys, evl], rfl⟩)
 ·exact Imp.some (StepR.brk ⟨t_6, by first | rfl | simp only [evs, tys, evl, elim_inl, elim_inr]⟩)
theorem slices_IndexFunc_FieldDef_imp (s : List GFieldDef) (u0_8 : GDef) (u0_6 : Str) (u0_60 : Str) (u0_600 : Int) (u0_6000 : Int) (u0_5 : Str) (u0_3 : GSchema) : Imp (slices_IndexFunc_FieldDef_B s u0_8 u0_6 u0_60 u0_600 u0_6000 u0_5 u0_3) (slices_IndexFunc_FieldDef_T1 O loopLim s u0_8 u0_6 u0_60 u0_600 u0_6000 u0_5 u0_3) (fun r v => v = (slices_IndexFunc_FieldDefE r, (slices_IndexFunc_FieldDefU s u0_8 u0_6 u0_60 u0_600 u0_6000 u0_5 u0_3 r))) := by
 simp only [slices_IndexFunc_FieldDef_B, slices_IndexFunc_FieldDef_T1]
 try simp only [evs, tys]
 refine Imp.bnd (Imp.loop (slices_IndexFunc_FieldDef_l1_ok s u0_8 u0_6 u0_60 u0_600 u0_6000 u0_5 u0_3) ⟨by first | rfl | simp only [evs, tys, evl], rfl⟩) ?_
 rintro (p | t_12) vy14 hy14
 ·try simp only [elim_inl, elim_inr]
  obtain ⟨t_11, rfl⟩ := hy14
  refine Imp.exHit rfl (Imp.chk rfl (Imp.chk rfl ?_))
  try simp only [evs, tys]
  exact Imp.some (by first | rfl | simp only [slices_IndexFunc_FieldDefE, slices_IndexFunc_FieldDefU, evs, tys, evl])
 ·try simp only [elim_inl, elim_inr]
  obtain ⟨t_13, rfl⟩ := hy14
  refine Imp.exMiss rfl ?_
  refine Imp.exHit rfl (Imp.chk rfl (Imp.chk rfl ?_))
  try simp only [evs, tys]
  exact Imp.some (by first | rfl | simp only [slices_IndexFunc_FieldDefE, slices_IndexFunc_FieldDefU, evs, tys, evl])
theorem slices_IndexFunc_FieldDef_run {s : List GFieldDef} {u0_8 : GDef} {u0_6 : Str} {u0_60 : Str} {u0_600 : Int} {u0_6000 : Int} {u0_5 : Str} {u0_3 : GSchema} {r : Int} (h : slices_IndexFunc_FieldDef_B s u0_8 u0_6 u0_60 u0_600 u0_6000 u0_5 u0_3 = some r) : slices_IndexFunc_FieldDef s u0_8 u0_6 u0_60 u0_600 u0_6000 u0_5 u0_3 = some r := by
 obtain ⟨v, hv, rfl⟩ := slices_IndexFunc_FieldDef_imp s u0_8 u0_6 u0_60 u0_600 u0_6000 u0_5 u0_3 r h
 exact tO_of (fun a b h => slices_IndexFunc_FieldDefEj a b (Prod.mk.inj h).1) (OL_runD slices_IndexFunc_FieldDef_ds rfl rfl Try.func103 ((slices_IndexFunc_FieldDef_t1 _ _ s u0_8 u0_6 u0_60 u0_600 u0_6000 u0_5 u0_3).trans hv))
def defs_Field_T1 (O : Orc) (LP : LBody → LBody) (s : GSchema) (typ : Str) (name : Str) : Option (PV × UP) :=
 cnd (name == ([95, 95, 116, 121, 112, 101, 110, 97, 109, 101] : Str))
 (callp O 62 [(.agg [(.slice (List.map encDef s.defs) [] false), (.str s.query), (.str s.mutation)]), (.str typ)] fun x1 => cnd (chk .bool x1)
 (cnd (boolV x1)
 (some ((.tuple [(.agg [(.str [95, 95, 116, 121, 112, 101, 110, 97, 109, 101]), (.slice [] [] false), (.str [83, 116, 114, 105, 110, 103]), (.int .i64 0), (.int .i64 1), (.slice [] [] false)]), (.bool true)]), []))
 (callp O 74 [(.agg [(.slice (List.map encDef s.defs) [] false), (.str s.query), (.str s.mutation)]), (.str typ)] fun x3 => cnd (chk (.tup [shDef, .bool]) x3)
 (cnd (!(boolV (gt (tupV x3) 1)))
 (some ((.tuple [(.agg [(.str []), (.slice [] [] false), (.str []), (.int .i64 0), (.int .i64 0), (.slice [] [] false)]), (.bool false)]), []))
 (cnd ((intV (gt (aggV (gt (tupV x3) 0)) 0)) != 1)
 (cnd ((intV (gt (aggV (gt (tupV x3) 0)) 0)) != 2)
 (some ((.tuple [(.agg [(.str []), (.slice [] [] false), (.str []), (.int .i64 0), (.int .i64 0), (.slice [] [] false)]), (.bool false)]), []))
 (bnd (O 103 [(.slice (esV (gt (aggV (gt (tupV x3) 0)) 3)) [] false), (.func (.func 104) [] [(.ptr 1 5 0)])] [[(8, [(.int .i64 (intV (gt (aggV (gt (tupV x3) 0)) 0))), (.str (strV (gt (aggV (gt (tupV x3) 0)) 1))), (.slice (esV (gt (aggV (gt (tupV x3) 0)) 2)) [] false), (.slice (esV (gt (aggV (gt (tupV x3) 0)) 3)) [] false), (.slice (esV (gt (aggV (gt (tupV x3) 0)) 4)) [] false), (.slice (esV (gt (aggV (gt (tupV x3) 0)) 5)) [] false)]), (6, [(.str []), (.slice [] [] true), (.str []), (.int .i64 0), (.int .i64 0), (.slice [] [] true)]), (5, [(.str name)]), (3, [(.slice (List.map encDef s.defs) [] false), (.str s.query), (.str s.mutation)])]]) fun x5 => cnd (chkU [[(8, [(.int .i64), .str, (.sl false), (.sl false), (.sl false), (.sl false)]), (6, [.str, (.sl true), .str, (.int .i64), (.int .i64), (.sl true)]), (5, [.str]), (3, [(.sl false), .str, .str])]] x5.2) (cnd (chk (.int .i64) x5.1)
 (cnd (decide ((intV x5.1) < 0))
 (some ((.tuple [(.agg [(.str []), (.slice [] [] false), (.str []), (.int .i64 0), (.int .i64 0), (.slice [] [] false)]), (.bool false)]), []))
 (bnd (ix 6 (.slice (esV (gt (boxI (frI x5.2 0) 0) 3)) [] false) (.int .i64 (intV x5.1))) fun x7 => cnd (chk (.ref shFieldDef) x7)
 (some ((.tuple [(.agg [(.str (strV (gt (aggV (refV x7)) 0))), (.slice (esV (gt (aggV (refV x7)) 1)) [] false), (.str (strV (gt (aggV (refV x7)) 2))), (.int .i64 (intV (gt (aggV (refV x7)) 3))), (.int .i64 (intV (gt (aggV (refV x7)) 4))), (.slice (esV (gt (aggV (refV x7)) 5)) [] false)]), (.bool true)]), [])) none)) none) none))
 (bnd (O 103 [(.slice (esV (gt (aggV (gt (tupV x3) 0)) 3)) [] false), (.func (.func 104) [] [(.ptr 1 5 0)])] [[(8, [(.int .i64 (intV (gt (aggV (gt (tupV x3) 0)) 0))), (.str (strV (gt (aggV (gt (tupV x3) 0)) 1))), (.slice (esV (gt (aggV (gt (tupV x3) 0)) 2)) [] false), (.slice (esV (gt (aggV (gt (tupV x3) 0)) 3)) [] false), (.slice (esV (gt (aggV (gt (tupV x3) 0)) 4)) [] false), (.slice (esV (gt (aggV (gt (tupV x3) 0)) 5)) [] false)]), (6, [(.str []), (.slice [] [] true), (.str []), (.int .i64 0), (.int .i64 0), (.slice [] [] true)]), (5, [(.str name)]), (3, [(.slice (List.map encDef s.defs) [] false), (.str s.query), (.str s.mutation)])]]) fun x9 => cnd (chkU [[(8, [(.int .i64), .str, (.sl false), (.sl false), (.sl false), (.sl false)]), (6, [.str, (.sl true), .str, (.int .i64), (.int .i64), (.sl true)]), (5, [.str]), (3, [(.sl false), .str, .str])]] x9.2) (cnd (chk (.int .i64) x9.1)
 (cnd (decide ((intV x9.1) < 0))
 (some ((.tuple [(.agg [(.str []), (.slice [] [] false), (.str []), (.int .i64 0), (.int .i64 0), (.slice [] [] false)]), (.bool false)]), []))
 (bnd (ix 6 (.slice (esV (gt (boxI (frI x9.2 0) 0) 3)) [] false) (.int .i64 (intV x9.1))) fun x11 => cnd (chk (.ref shFieldDef) x11)
 (some ((.tuple [(.agg [(.str (strV (gt (aggV (refV x11)) 0))), (.slice (esV (gt (aggV (refV x11)) 1)) [] false), (.str (strV (gt (aggV (refV x11)) 2))), (.int .i64 (intV (gt (aggV (refV x11)) 3))), (.int .i64 (intV (gt (aggV (refV x11)) 4))), (.slice (esV (gt (aggV (refV x11)) 5)) [] false)]), (.bool true)]), [])) none)) none) none))) none)) none)
 (callp O 74 [(.agg [(.slice (List.map encDef s.defs) [] false), (.str s.query), (.str s.mutation)]), (.str typ)] fun x13 => cnd (chk (.tup [shDef, .bool]) x13)
 (cnd (!(boolV (gt (tupV x13) 1)))
 (some ((.tuple [(.agg [(.str []), (.slice [] [] false), (.str []), (.int .i64 0), (.int .i64 0), (.slice [] [] false)]), (.bool false)]), []))
 (cnd ((intV (gt (aggV (gt (tupV x13) 0)) 0)) != 1)
 (cnd ((intV (gt (aggV (gt (tupV x13) 0)) 0)) != 2)
 (some ((.tuple [(.agg [(.str []), (.slice [] [] false), (.str []), (.int .i64 0), (.int .i64 0), (.slice [] [] false)]), (.bool false)]), []))
 (bnd (O 103 [(.slice (esV (gt (aggV (gt (tupV x13) 0)) 3)) [] false), (.func (.func 104) [] [(.ptr 1 5 0)])] [[(8, [(.int .i64 (intV (gt (aggV (gt (tupV x13) 0)) 0))), (.str (strV (gt (aggV (gt (tupV x13) 0)) 1))), (.slice (esV (gt (aggV (gt (tupV x13) 0)) 2)) [] false), (.slice (esV (gt (aggV (gt (tupV x13) 0)) 3)) [] false), (.slice (esV (gt (aggV (gt (tupV x13) 0)) 4)) [] false), (.slice (esV (gt (aggV (gt (tupV x13) 0)) 5)) [] false)]), (6, [(.str []), (.slice [] [] true), (.str []), (.int .i64 0), (.int .i64 0), (.slice [] [] true)]), (5, [(.str name)]), (3, [(.slice (List.map encDef s.defs) [] false), (.str s.query), (.str s.mutation)])]]) fun x15 => cnd (chkU [[(8, [(.int .i64), .str, (.sl false), (.sl false), (.sl false), (.sl false)]), (6, [.str, (.sl true), .str, (.int .i64), (.int .i64), (.sl true)]), (5, [.str]), (3, [(.sl false), .str, .str])]] x15.2) (cnd (chk (.int .i64) x15.1)
 (cnd (decide ((intV x15.1) < 0))
 (some ((.tuple [(.agg [(.str []), (.slice [] [] false), (.str []), (.int .i64 0), (.int .i64 0), (.slice [] [] false)]), (.bool false)]), []))
 (bnd (ix 6 (.slice (esV (gt (boxI (frI x15.2 0) 0) 3)) [] false) (.int .i64 (intV x15.1))) fun x17 => cnd (chk (.ref shFieldDef) x17)
 (some ((.tuple [(.agg [(.str (strV (gt (aggV (refV x17)) 0))), (.slice (esV (gt (aggV (refV x17)) 1)) [] false), (.str (strV (gt (aggV (refV x17)) 2))), (.int .i64 (intV (gt (aggV (refV x17)) 3))), (.int .i64 (intV (gt (aggV (refV x17)) 4))), (.slice (esV (gt (aggV (refV x17)) 5)) [] false)]), (.bool true)]), [])) none)) none) none))
 (bnd (O 103 [(.slice (esV (gt (aggV (gt (tupV x13) 0)) 3)) [] false), (.func (.func 104) [] [(.ptr 1 5 0)])] [[(8, [(.int .i64 (intV (gt (aggV (gt (tupV x13) 0)) 0))), (.str (strV (gt (aggV (gt (tupV x13) 0)) 1))), (.slice (esV (gt (aggV (gt (tupV x13) 0)) 2)) [] false), (.slice (esV (gt (aggV (gt (tupV x13) 0)) 3)) [] false), (.slice (esV (gt (aggV (gt (tupV x13) 0)) 4)) [] false), (.slice (esV (gt (aggV (gt (tupV x13) 0)) 5)) [] false)]), (6, [(.str []), (.slice [] [] true), (.str []), (.int .i64 0), (.int .i64 0), (.slice [] [] true)]), (5, [(.str name)]), (3, [(.slice (List.map encDef s.defs) [] false), (.str s.query), (.str s.mutation)])]]) fun x19 => cnd (chkU [[(8, [(.int .i64), .str, (.sl false), (.sl false), (.sl false), (.sl false)]), (6, [.str, (.sl true), .str, (.int .i64), (.int .i64), (.sl true)]), (5, [.str]), (3, [(.sl false), .str, .str])]] x19.2) (cnd (chk (.int .i64) x19.1)
 (cnd (decide ((intV x19.1) < 0))
 (some ((.tuple [(.agg [(.str []), (.slice [] [] false), (.str []), (.int .i64 0), (.int .i64 0), (.slice [] [] false)]), (.bool false)]), []))
 (bnd (ix 6 (.slice (esV (gt (boxI (frI x19.2 0) 0) 3)) [] false) (.int .i64 (intV x19.1))) fun x21 => cnd (chk (.ref shFieldDef) x21)
 (some ((.tuple [(.agg [(.str (strV (gt (aggV (refV x21)) 0))), (.slice (esV (gt (aggV (refV x21)) 1)) [] false), (.str (strV (gt (aggV (refV x21)) 2))), (.int .i64 (intV (gt (aggV (refV x21)) 3))), (.int .i64 (intV (gt (aggV (refV x21)) 4))), (.slice (esV (gt (aggV (refV x21)) 5)) [] false)]), (.bool true)]), [])) none)) none) none))) none)
noncomputable def defs_Field_B (s : GSchema) (typ : Str) (name : Str) : Option (GFieldDef × Bool) :=
 cnd (name == ([95, 95, 116, 121, 112, 101, 110, 97, 109, 101] : Str))
 (bnd (defs_Composite s typ) fun y2 =>
 cnd y2
 (some ((GFieldDef.mk [95, 95, 116, 121, 112, 101, 110, 97, 109, 101] ([] : List GParam) (GType.mk [83, 116, 114, 105, 110, 103] 0 1) ([] : List GDir)), true))
 (bnd (defs_Find s typ) fun y4 =>
 cnd (!y4.2)
 (some ((GFieldDef.mk [] ([] : List GParam) (GType.mk [] 0 0) ([] : List GDir)), false))
 (cnd (y4.1.kind != 1)
 (cnd (y4.1.kind != 2)
 (some ((GFieldDef.mk [] ([] : List GParam) (GType.mk [] 0 0) ([] : List GDir)), false))
 (bnd (slices_IndexFunc_FieldDef y4.1.fields y4.1 [] [] 0 0 name s) fun y6 =>
 cnd (decide (y6 < 0))
 (some ((GFieldDef.mk [] ([] : List GParam) (GType.mk [] 0 0) ([] : List GDir)), false))
 (bnd (nthI y4.1.fields y6) fun y8 =>
 some (y8, true))))
 (bnd (slices_IndexFunc_FieldDef y4.1.fields y4.1 [] [] 0 0 name s) fun y10 =>
 cnd (decide (y10 < 0))
 (some ((GFieldDef.mk [] ([] : List GParam) (GType.mk [] 0 0) ([] : List GDir)), false))
 (bnd (nthI y4.1.fields y10) fun y12 =>
 some (y12, true))))))
 (bnd (defs_Find s typ) fun y14 =>
 cnd (!y14.2)
 (some ((GFieldDef.mk [] ([] : List GParam) (GType.mk [] 0 0) ([] : List GDir)), false))
 (cnd (y14.1.kind != 1)
 (cnd (y14.1.kind != 2)
 (some ((GFieldDef.mk [] ([] : List GParam) (GType.mk [] 0 0) ([] : List GDir)), false))
 (bnd (slices_IndexFunc_FieldDef y14.1.fields y14.1 [] [] 0 0 name s) fun y16 =>
 cnd (decide (y16 < 0))
 (some ((GFieldDef.mk [] ([] : List GParam) (GType.mk [] 0 0) ([] : List GDir)), false))
 (bnd (nthI y14.1.fields y16) fun y18 =>
 some (y18, true))))
 (bnd (slices_IndexFunc_FieldDef y14.1.fields y14.1 [] [] 0 0 name s) fun y20 =>
 cnd (decide (y20 < 0))
 (some ((GFieldDef.mk [] ([] : List GParam) (GType.mk [] 0 0) ([] : List GDir)), false))
 (bnd (nthI y14.1.fields y20) fun y22 =>
 some (y22, true)))))
def defs_Field_ds : Decs := { decs := [(16, .bool), (23, (.tup [shDef, .bool])), (42, (.int .i64)), (49, (.ref shFieldDef))], ups := [(42, [[(8, [(.int .i64), .str, (.sl false), (.sl false), (.sl false), (.sl false)]), (6, [.str, (.sl true), .str, (.int .i64), (.int .i64), (.sl true)]), (5, [.str]), (3, [(.sl false), .str, .str])]])], loops := [] }
set_option maxRecDepth 100000 in
theorem defs_Field_t1 (O : Orc) (LP : LBody → LBody) (s : GSchema) (typ : Str) (name : Str) : evalBodyD Try.prog (MT 100) defs_Field_ds Try.f100.ntmps O LP Try.f100 [(.agg [(.slice (List.map encDef s.defs) [] false), (.str s.query), (.str s.mutation)]), (.str typ), (.str name)] [] = defs_Field_T1 O LP s typ name := by kernel_rfl
theorem defs_Field_imp (s : GSchema) (typ : Str) (name : Str) : Imp (defs_Field_B s typ name) (defs_Field_T1 O loopLim s typ name) (fun r v => v = (defs_FieldE r, [])) := by
 simp only [defs_Field_B, defs_Field_T1]
 try simp only [evs, tys]
 refine Imp.cnd ?_ ?_
 ·refine Imp.call (f := defs_CompositeE) rfl (fun a h => by first | exact defs_Composite_spec h | simpa only [evs, tys, evl] using defs_Composite_spec h) (fun a => by first | rfl | simp only [defs_CompositeE, evk, chks]) fun y2 hy2 => ?_
  try simp only [defs_CompositeE, evs, tys]
  refine Imp.cnd ?_ ?_
  ·exact Imp.some (by first | rfl | simp only [defs_FieldE, evs, tys, evl])
  ·refine Imp.call (f := defs_FindE) rfl (fun a h => by first | exact defs_Find_spec h | simpa only [evs, tys, evl] using defs_Find_spec h) (fun a => by first | rfl | simp only [defs_FindE, evk, chks]) fun y4 hy4 => ?_
   try simp only [defs_FindE, evs, tys]
   refine Imp.cnd ?_ ?_
   ·exact Imp.some (by first | rfl | simp only [defs_FieldE, evs, tys, evl])
   ·refine Imp.cnd ?_ ?_
    ·refine Imp.cnd ?_ ?_
     ·exact Imp.some (by first | rfl | simp only [defs_FieldE, evs, tys, evl])
     ·refine Imp.gcall (f := slices_IndexFunc_FieldDefE) (fu := fun a => slices_IndexFunc_FieldDefU y4.1.fields y4.1 [] [] 0 0 name s a) (fun a h => by first | exact slices_IndexFunc_FieldDef_spec h | (have h' := slices_IndexFunc_FieldDef_spec h; simp only [evs, tys, evl, slices_IndexFunc_FieldDefU] at h'; exact h')) (fun a => by first | rfl | simp only [slices_IndexFunc_FieldDefE, evk, chks]) (fun a => by first | rfl | (simp only [slices_IndexFunc_FieldDefU, evs, tys]; rfl)) fun y6 hy6 => ?_
      try simp only [slices_IndexFunc_FieldDefE, slices_IndexFunc_FieldDefU, evs, tys]
      refine Imp.cnd ?_ ?_
      ·exact Imp.some (by first | rfl | simp only [defs_FieldE, evs, tys, evl])
      ·refine Imp.op (f := fun a => .ref (encFieldDef a)) (fun a h => op_ix (enc := encFieldDef) (by first | rfl | simp only [evs, tys, evl]) ⟨by first | rfl | simp only [evs, tys, evc], by decide⟩ h) (fun a => chk_GFieldDef a) fun y8 hy8 => ?_
       try simp only [evs, tys]
       exact Imp.some (by first | rfl | simp only [defs_FieldE, evs, tys, evl])
    ·refine Imp.gcall (f := slices_IndexFunc_FieldDefE) (fu := fun a => slices_IndexFunc_FieldDefU y4.1.fields y4.1 [] [] 0 0 name s a) (fun a h => by first | exact slices_IndexFunc_FieldDef_spec h | (have h' := slices_IndexFunc_FieldDef_spec h; simp only [evs, tys, evl, slices_IndexFunc_FieldDefU] at h'; exact h')) (fun a => by first | rfl | simp only [slices_IndexFunc_FieldDefE, evk, chks]) (fun a => by first | rfl | (simp only [slices_IndexFunc_FieldDefU, evs, tys]; rfl)) fun y10 hy10 => ?_
     try simp only [slices_IndexFunc_FieldDefE, slices_IndexFunc_FieldDefU, evs, tys]
     refine Imp.cnd ?_ ?_
     ·exact Imp.some (by first | rfl | simp only [defs_FieldE, evs, tys, evl])
     ·refine Imp.op (f := fun a => .ref (encFieldDef a)) (fun a h => op_ix (enc := encFieldDef) (by first | rfl | simp only [evs, tys, evl]) ⟨by first | rfl | simp only [evs, tys, evc], by decide⟩ h) (fun a => chk_GFieldDef a) fun y12 hy12 => ?_
      try simp only [evs, tys]
      exact Imp.some (by first | rfl | simp only [defs_FieldE, evs, tys, evl])
 ·refine Imp.call (f := defs_FindE) rfl (fun a h => by first | exact defs_Find_spec h | simpa only [evs, tys, evl] using defs_Find_spec h) (fun a => by first | rfl | simp only [defs_FindE, evk, chks]) fun y14 hy14 => ?_
  try simp only [defs_FindE, evs, tys]
  refine Imp.cnd ?_ ?_
  ·exact Imp.some (by first | rfl | simp only [defs_FieldE, evs, tys, evl])
  ·refine Imp.cnd ?_ ?_
   ·refine Imp.cnd ?_ ?_
    ·exact Imp.some (by first | rfl | simp only [defs_FieldE, evs, tys, evl])
    ·refine Imp.gcall (f := slices_IndexFunc_FieldDefE) (fu := fun a => slices_IndexFunc_FieldDefU y14.1.fields y14.1 [] [] 0 0 name s a) (fun a h => by first | exact slices_IndexFunc_FieldDef_spec h | (have h' := slices_IndexFunc_FieldDef_spec h; simp only [evs, tys, evl, slices_IndexFunc_FieldDefU] at h'; exact h')) (fun a => by first | rfl | simp only [slices_IndexFunc_FieldDefE, evk, chks]) (fun a => by first | rfl | (simp only [slices_IndexFunc_FieldDefU, evs, tys]; rfl)) fun y16 hy16 => ?_
     try simp only [slices_IndexFunc_FieldDefE, slices_IndexFunc_FieldDefU, evs, tys]
     refine Imp.cnd ?_ ?_
     ·exact Imp.some (by first | rfl | simp only [defs_FieldE, evs, tys, evl])
     ·refine Imp.op (f := fun a => .ref (encFieldDef a)) (fun a h => op_ix (enc := encFieldDef) (by first | rfl | simp only [evs, tys, evl]) ⟨by first | rfl | simp only [evs, tys, evc], by decide⟩ h) (fun a => chk_GFieldDef a) fun y18 hy18 => ?_
      try simp only [evs, tys]
      exact Imp.some (by first | rfl | simp only [defs_FieldE, evs, tys, evl])
   ·refine Imp.gcall (f := slices_IndexFunc_FieldDefE) (fu := fun a => slices_IndexFunc_FieldDefU y14.1.fields y14.1 [] [] 0 0 name s a) (fun a h => by first | exact slices_IndexFunc_FieldDef_spec h | (have h' := slices_IndexFunc_FieldDef_spec h; simp only [evs, tys, evl, slices_IndexFunc_FieldDefU] at h'; exact h')) (fun a => by first | rfl | simp only [slices_IndexFunc_FieldDefE, evk, chks]) (fun a => by first | rfl | (simp only [slices_IndexFunc_FieldDefU, evs, tys]; rfl)) fun y20 hy20 => ?_
    try simp only [slices_IndexFunc_FieldDefE, slices_IndexFunc_FieldDefU, evs, tys]
    refine Imp.cnd ?_ ?_
    ·exact Imp.some (by first | rfl | simp only [defs_FieldE, evs, tys, evl])
    ·refine Imp.op (f := fun a => .ref (encFieldDef a)) (fun a h => op_ix (enc := encFieldDef) (by first | rfl | simp only [evs, tys, evl]) ⟨by first | rfl | simp only [evs, tys, evc], by decide⟩ h) (fun a => chk_GFieldDef a) fun y22 hy22 => ?_
     try simp only [evs, tys]
     exact Imp.some (by first | rfl | simp only [defs_FieldE, evs, tys, evl])
theorem defs_Field_run {s : GSchema} {typ : Str} {name : Str} {r : GFieldDef × Bool} (h : defs_Field_B s typ name = some r) : defs_Field s typ name = some r := by
 obtain ⟨v, hv, rfl⟩ := defs_Field_imp s typ name r h
 exact tO_of (pair_inj defs_FieldEj) (OL_runD defs_Field_ds rfl rfl Try.func100 ((defs_Field_t1 _ _ s typ name).trans hv))
def seinekeep_Size_l1 (O : Orc) (LP : LBody → LBody) : LBody := fun s1 s1u => cnd (chkL [(.ptr 0 1 0), (.int .i64), (.int .i64), (.int .i64), (.int .i64), .str, (.sl false), (.sl false)] s1) (cnd (chkU [] s1u)
 (cnd (decide ((intV (gt s1 2)) < (List.length (esV (gt s1 6)) : Int)))
 (bnd (ix 5 (.slice (esV (gt s1 6)) [] false) (.int .i64 (intV (gt s1 2)))) fun x8 => cnd (chk (.ref shValue) x8)
 (callp O 12 [(.agg [(.int .i64 (intV (gt (aggV (refV x8)) 0))), (.int .i64 (intV (gt (aggV (refV x8)) 1))), (.str (strV (gt (aggV (refV x8)) 2))), (.slice (esV (gt (aggV (refV x8)) 3)) [] false), (.slice (esV (gt (aggV (refV x8)) 4)) [] false)])] fun x10 => cnd (chk (.int .i64) x10)
 (some (.nrm, [(.ptr 0 1 0), (.int .i64 (IntKind.wrap .i64 ((intV (gt s1 1)) + (intV x10)))), (.int .i64 (IntKind.wrap .i64 ((intV (gt s1 2)) + 1))), (.int .i64 (intV (gt s1 3))), (.int .i64 (intV (gt s1 4))), (.str (strV (gt s1 5))), (.slice (esV (gt s1 6)) [] false), (.slice (esV (gt s1 7)) [] false)], [])) none) none)
 (some (.brk 0, [(.ptr 0 1 0), (.int .i64 (intV (gt s1 1))), (.int .i64 (intV (gt s1 2))), (.int .i64 (intV (gt s1 3))), (.int .i64 (intV (gt s1 4))), (.str (strV (gt s1 5))), (.slice (esV (gt s1 6)) [] false), (.slice (esV (gt s1 7)) [] false)], []))) none) none
def seinekeep_Size_l2 (O : Orc) (LP : LBody → LBody) : LBody := fun s15 s15u => cnd (chkL [(.ptr 0 1 0), (.int .i64), (.int .i64), (.int .i64), (.int .i64), .str, (.sl false), (.sl false)] s15) (cnd (chkU [] s15u)
 (cnd (decide ((intV (gt s15 2)) < (List.length (esV (gt s15 7)) : Int)))
 (bnd (ix 6 (.slice (esV (gt s15 7)) [] false) (.int .i64 (intV (gt s15 2)))) fun x24 => cnd (chk (.ref shMember) x24)
 (bnd (ix 6 (.slice (esV (gt s15 7)) [] false) (.int .i64 (intV (gt s15 2)))) fun x26 => cnd (chk (.ref shMember) x26)
 (callp O 12 [(.agg [(.int .i64 (intV (gt (aggV (refV x26)) 1))), (.int .i64 (intV (gt (aggV (refV x26)) 2))), (.str (strV (gt (aggV (refV x26)) 3))), (.slice (esV (gt (aggV (refV x26)) 4)) [] false), (.slice (esV (gt (aggV (refV x26)) 5)) [] false)])] fun x28 => cnd (chk (.int .i64) x28)
 (some (.nrm, [(.ptr 0 1 0), (.int .i64 (IntKind.wrap .i64 ((IntKind.wrap .i64 ((intV (gt s15 1)) + (List.length (strV (gt (aggV (refV x24)) 0)) : Int))) + (intV x28)))), (.int .i64 (IntKind.wrap .i64 ((intV (gt s15 2)) + 1))), (.int .i64 (intV (gt s15 3))), (.int .i64 (intV (gt s15 4))), (.str (strV (gt s15 5))), (.slice (esV (gt s15 6)) [] false), (.slice (esV (gt s15 7)) [] false)], [])) none) none) none)
 (some (.brk 2, [(.ptr 0 1 0), (.int .i64 (intV (gt s15 1))), (.int .i64 (intV (gt s15 2))), (.int .i64 (intV (gt s15 3))), (.int .i64 (intV (gt s15 4))), (.str (strV (gt s15 5))), (.slice (esV (gt s15 6)) [] false), (.slice (esV (gt s15 7)) [] false)], []))) none) none
def seinekeep_Size_T1 (O : Orc) (LP : LBody → LBody) (v0 : GValue) : Option (PV × UP) :=
 bnd (LP (seinekeep_Size_l1 O LP) [(.ptr 0 1 0), (.int .i64 (IntKind.wrap .i64 (1 + (List.length v0.s : Int)))), (.int .i64 0), (.int .i64 v0.kind), (.int .i64 v0.n), (.str v0.s), (.slice (List.map encValue v0.l) [] false), (.slice (List.map encMember v0.m) [] false)] []) fun y14 =>
 exIs y14.1 (some 0) (cnd (chkL [(.ptr 0 1 0), (.int .i64), (.int .i64), (.int .i64), (.int .i64), .str, (.sl false), (.sl false)] y14.2.1) (cnd (chkU [] y14.2.2)
 (bnd (LP (seinekeep_Size_l2 O LP) [(.ptr 0 1 0), (.int .i64 (intV (gt y14.2.1 1))), (.int .i64 0), (.int .i64 (intV (gt y14.2.1 3))), (.int .i64 (intV (gt y14.2.1 4))), (.str (strV (gt y14.2.1 5))), (.slice (esV (gt y14.2.1 6)) [] false), (.slice (esV (gt y14.2.1 7)) [] false)] []) fun y32 =>
 exIs y32.1 (some 2) (cnd (chkL [(.ptr 0 1 0), (.int .i64), (.int .i64), (.int .i64), (.int .i64), .str, (.sl false), (.sl false)] y32.2.1) (cnd (chkU [] y32.2.2)
 (some ((.int .i64 (intV (gt y32.2.1 1))), [])) none) none)
 (none)) none) none)
 (none)
noncomputable def seinekeep_Size_l1T (v0 : GValue) : (Int × Int) → Option ((Int × Int) ⊕ Int)
 | (n_6, i_7) =>
 cnd (decide (i_7 < (List.length v0.l : Int)))
  (bnd (nthI v0.l i_7) fun y9 =>
  bnd (seinekeep_Size y9) fun y11 =>
  some (.inl ((IntKind.wrap .i64 (n_6 + y11)), (IntKind.wrap .i64 (i_7 + 1)))))
  (some (.inr n_6))
abbrev seinekeep_Size_l1R (v0 : GValue) (st : Int × Int) (l : List PV) (u : UP) : Prop := l = [(.ptr 0 1 0), (.int .i64 st.1), (.int .i64 st.2), (.int .i64 v0.kind), (.int .i64 v0.n), (.str v0.s), (.slice (List.map encValue v0.l) [] false), (.slice (List.map encMember v0.m) [] false)] ∧ u = []
abbrev seinekeep_Size_l1X (v0 : GValue) (p : Int) (r : Ex × List PV × UP) : Prop := (fun (p : Int) => ∃ (i_13 : Int), r = (Ex.brk 0, [(.ptr 0 1 0), (.int .i64 p), (.int .i64 i_13), (.int .i64 v0.kind), (.int .i64 v0.n), (.str v0.s), (.slice (List.map encValue v0.l) [] false), (.slice (List.map encMember v0.m) [] false)], [])) p
noncomputable def seinekeep_Size_l2T (v0 : GValue) : (Int × Int) → Option ((Int × Int) ⊕ Int)
 | (n_22, i_23) =>
 cnd (decide (i_23 < (List.length v0.m : Int)))
  (bnd (nthI v0.m i_23) fun y25 =>
  bnd (nthI v0.m i_23) fun y27 =>
  bnd (seinekeep_Size y27.v) fun y29 =>
  some (.inl ((IntKind.wrap .i64 ((IntKind.wrap .i64 (n_22 + (List.length y25.name : Int))) + y29)), (IntKind.wrap .i64 (i_23 + 1)))))
  (some (.inr n_22))
abbrev seinekeep_Size_l2R (v0 : GValue) (st : Int × Int) (l : List PV) (u : UP) : Prop := l = [(.ptr 0 1 0), (.int .i64 st.1), (.int .i64 st.2), (.int .i64 v0.kind), (.int .i64 v0.n), (.str v0.s), (.slice (List.map encValue v0.l) [] false), (.slice (List.map encMember v0.m) [] false)] ∧ u = []
abbrev seinekeep_Size_l2X (v0 : GValue) (p : Int) (r : Ex × List PV × UP) : Prop := (fun (p : Int) => ∃ (i_31 : Int), r = (Ex.brk 2, [(.ptr 0 1 0), (.int .i64 p), (.int .i64 i_31), (.int .i64 v0.kind), (.int .i64 v0.n), (.str v0.s), (.slice (List.map encValue v0.l) [] false), (.slice (List.map encMember v0.m) [] false)], [])) p
noncomputable def seinekeep_Size_B (v0 : GValue) : Option Int :=
 bnd (tloop (seinekeep_Size_l1T v0) ((IntKind.wrap .i64 (1 + (List.length v0.s : Int))), 0)) fun n_12 =>
 bnd (tloop (seinekeep_Size_l2T v0) (n_12, 0)) fun n_30 =>
 some n_30
def seinekeep_Size_ds : Decs := { decs := [(21, (.ref shValue)), (23, (.int .i64)), (36, (.ref shMember)), (44, (.ref shMember)), (47, (.int .i64))], ups := [], loops := [(3, [(1, 5)], ⟨[(.ptr 0 1 0), (.int .i64), (.int .i64), (.int .i64), (.int .i64), .str, (.sl false), (.sl false)], [], [(some 0, [(.ptr 0 1 0), (.int .i64), (.int .i64), (.int .i64), (.int .i64), .str, (.sl false), (.sl false)], [])]⟩), (7, [(1, 5)], ⟨[(.ptr 0 1 0), (.int .i64), (.int .i64), (.int .i64), (.int .i64), .str, (.sl false), (.sl false)], [], [(some 2, [(.ptr 0 1 0), (.int .i64), (.int .i64), (.int .i64), (.int .i64), .str, (.sl false), (.sl false)], [])]⟩)] }
set_option maxRecDepth 100000 in
theorem seinekeep_Size_t1 (O : Orc) (LP : LBody → LBody) (v0 : GValue) : evalBodyD Try.prog (MT 12) seinekeep_Size_ds Try.f12.ntmps O LP Try.f12 [(.agg [(.int .i64 v0.kind), (.int .i64 v0.n), (.str v0.s), (.slice (List.map encValue v0.l) [] false), (.slice (List.map encMember v0.m) [] false)])] [] = seinekeep_Size_T1 O LP v0 := by kernel_rfl
theorem seinekeep_Size_l1_ok (v0 : GValue) : ∀ st l u, seinekeep_Size_l1R v0 st l u → Imp (seinekeep_Size_l1T v0 st) (seinekeep_Size_l1 O loopLim l u) (StepR (seinekeep_Size_l1R v0) (seinekeep_Size_l1X v0)) := by
 rintro ⟨n_6, i_7⟩ l u ⟨rfl, rfl⟩
 simp only [seinekeep_Size_l1T, seinekeep_Size_l1]
 refine Imp.chk rfl (Imp.chk rfl ?_)
 try simp only [evs, tys]
 refine Imp.cnd ?_ ?_
 ·refine Imp.op (f := fun a => .ref (encValue a)) (fun a h => op_ix (enc := encValue) (by first | rfl | simp only [evs, tys, evl]) ⟨by first | rfl | simp only [evs, tys, evc], by decide⟩ h) (fun a => chk_GValue a) fun y9 hy9 => ?_
  try simp only [evs, tys]
  refine Imp.call (f := seinekeep_SizeE) rfl (fun a h => by first | exact seinekeep_Size_spec h | simpa only [evs, tys, evl] using seinekeep_Size_spec h) (fun a => by first | rfl | simp only [seinekeep_SizeE, evk, chks]) fun y11 hy11 => ?_
  try simp only [seinekeep_SizeE, evs, tys]
  exact Imp.some (StepR.next ⟨by first | rfl | simp only [evs, tys, evl], rfl⟩)
 ·exact Imp.some (StepR.brk ⟨i_7, by first | rfl | simp only [evs, tys, evl, elim_inl, elim_inr]⟩)
theorem seinekeep_Size_l2_ok (v0 : GValue) : ∀ st l u, seinekeep_Size_l2R v0 st l u → Imp (seinekeep_Size_l2T v0 st) (seinekeep_Size_l2 O loopLim l u) (StepR (seinekeep_Size_l2R v0) (seinekeep_Size_l2X v0)) := by
 rintro ⟨n_22, i_23⟩ l u ⟨rfl, rfl⟩
 simp only [seinekeep_Size_l2T, seinekeep_Size_l2]
 refine Imp.chk rfl (Imp.chk rfl ?_)
 try simp only [evs, tys]
 refine Imp.cnd ?_ ?_
 ·refine Imp.op (f := fun a => .ref (encMember a)) (fun a h => op_ix (enc := encMember) (by first | rfl | simp only [evs, tys, evl]) ⟨by first | rfl | simp only [evs, tys, evc], by decide⟩ h) (fun a => chk_GMember a) fun y25 hy25 => ?_
  try simp only [evs, tys]
  refine Imp.op (f := fun a => .ref (encMember a)) (fun a h => op_ix (enc := encMember) (by first | rfl | simp only [evs, tys, evl]) ⟨by first | rfl | simp only [evs, tys, evc], by decide⟩ h) (fun a => chk_GMember a) fun y27 hy27 => ?_
  try simp only [evs, tys]
  refine Imp.call (f := seinekeep_SizeE) rfl (fun a h => by first | exact seinekeep_Size_spec h | simpa only [evs, tys, evl] using seinekeep_Size_spec h) (fun a => by first | rfl | simp only [seinekeep_SizeE, evk, chks]) fun y29 hy29 => ?_
  try simp only [seinekeep_SizeE, evs, tys]
  exact Imp.some (StepR.next ⟨by first | rfl | simp only [evs, tys, evl], rfl⟩)
 ·exact Imp.some (StepR.brk ⟨i_23, by first | rfl | simp only [evs, tys, evl, elim_inl, elim_inr]⟩)
theorem seinekeep_Size_imp (v0 : GValue) : Imp (seinekeep_Size_B v0) (seinekeep_Size_T1 O loopLim v0) (fun r v => v = (seinekeep_SizeE r, [])) := by
 simp only [seinekeep_Size_B, seinekeep_Size_T1]
 try simp only [evs, tys]
 refine Imp.bnd (Imp.loop (seinekeep_Size_l1_ok v0) ⟨by first | rfl | simp only [evs, tys, evl], rfl⟩) ?_
 rintro n_12 vy14 hy14
 obtain ⟨i_13, rfl⟩ := hy14
 refine Imp.exHit rfl (Imp.chk rfl (Imp.chk rfl ?_))
 try simp only [evs, tys]
 refine Imp.bnd (Imp.loop (seinekeep_Size_l2_ok v0) ⟨by first | rfl | simp only [evs, tys, evl], rfl⟩) ?_
 rintro n_30 vy32 hy32
 obtain ⟨i_31, rfl⟩ := hy32
 refine Imp.exHit rfl (Imp.chk rfl (Imp.chk rfl ?_))
 try simp only [evs, tys]
 exact Imp.some (by first | rfl | simp only [seinekeep_SizeE, evs, tys, evl])
theorem seinekeep_Size_run {v0 : GValue} {r : Int} (h : seinekeep_Size_B v0 = some r) : seinekeep_Size v0 = some r := by
 obtain ⟨v, hv, rfl⟩ := seinekeep_Size_imp v0 r h
 exact tO_of (pair_inj seinekeep_SizeEj) (OL_runD seinekeep_Size_ds rfl rfl Try.func12 ((seinekeep_Size_t1 _ _ v0).trans hv))
def seinelaw19_awake_T1 (O : Orc) (LP : LBody → LBody) : Option (PV × UP) :=
 callp O 56 [] fun x1 => cnd (chk shSchema x1)
 (callp O 55 [(.agg [(.slice (esV (gt (aggV x1) 0)) [] false), (.str (strV (gt (aggV x1) 1))), (.str (strV (gt (aggV x1) 2)))]), (.agg [(.slice [(.agg [(.int .i64 0), (.str []), (.slice [] [] false), (.slice [] [] false), (.slice [(.agg [(.int .i64 0), (.str [97]), (.str [98]), (.slice [] [] false), (.slice [] [] false), (.str []), (.slice [] [] false)]), (.agg [(.int .i64 0), (.str [97]), (.str [99]), (.slice [] [] false), (.slice [] [] false), (.str []), (.slice [] [] false)])] [] false)])] [] false), (.slice [] [] false)]), (.int .i64 24)] fun x3 => cnd (chk .bool x3)
 (cnd (!(boolV x3))
 (callp O 56 [] fun x5 => cnd (chk shSchema x5)
 (callp O 55 [(.agg [(.slice (esV (gt (aggV x5) 0)) [] false), (.str (strV (gt (aggV x5) 1))), (.str (strV (gt (aggV x5) 2)))]), (.agg [(.slice [(.agg [(.int .i64 0), (.str []), (.slice [] [] false), (.slice [] [] false), (.slice [(.agg [(.int .i64 0), (.str [97]), (.str [98]), (.slice [] [] false), (.slice [] [] false), (.str []), (.slice [] [] false)]), (.agg [(.int .i64 0), (.str [97]), (.str [98]), (.slice [] [] false), (.slice [] [] false), (.str []), (.slice [] [] false)])] [] false)])] [] false), (.slice [] [] false)]), (.int .i64 24)] fun x7 => cnd (chk .bool x7)
 (cnd (boolV x7)
 (bnd (ix 5 (.slice [(.agg [(.int .i64 0), (.str []), (.slice [] [] false), (.slice [] [] false), (.slice [(.agg [(.int .i64 0), (.str [97]), (.str [98]), (.slice [] [] false), (.slice [] [] false), (.str []), (.slice [] [] false)]), (.agg [(.int .i64 0), (.str [97]), (.str [99]), (.slice [] [] false), (.slice [] [] false), (.str []), (.slice [] [] false)])] [] false)])] [] false) (.int .i64 0)) fun x9 => cnd (chk (.ref shOp) x9)
 (bnd (ix 7 (.slice (esV (gt (aggV (refV x9)) 4)) [] false) (.int .i64 0)) fun x11 => cnd (chk (.ref shSel) x11)
 (callp O 21 [(.agg [(.int .i64 (intV (gt (aggV (refV x11)) 0))), (.str (strV (gt (aggV (refV x11)) 1))), (.str (strV (gt (aggV (refV x11)) 2))), (.slice (esV (gt (aggV (refV x11)) 3)) [] false), (.slice (esV (gt (aggV (refV x11)) 4)) [] false), (.str (strV (gt (aggV (refV x11)) 5))), (.slice (esV (gt (aggV (refV x11)) 6)) [] false)])] fun x13 => cnd (chk .str x13)
 (some ((.bool ((strV x13) == ([97] : Str))), [])) none) none) none)
 (some ((.bool false), []))) none) none)
 (some ((.bool false), []))) none) none
noncomputable def seinelaw19_awake_B : Option Bool :=
 bnd (seinelaw19_world) fun y2 =>
 bnd (merge_Rule y2 (GDoc.mk [(GOp.mk 0 [] ([] : List GVarDef) ([] : List GDir) [(GSel.mk 0 [97] [98] ([] : List GMember) ([] : List GDir) [] ([] : List GSel)), (GSel.mk 0 [97] [99] ([] : List GMember) ([] : List GDir) [] ([] : List GSel))])] ([] : List GFrag)) 24) fun y4 =>
 cnd (!y4)
 (bnd (seinelaw19_world) fun y6 =>
 bnd (merge_Rule y6 (GDoc.mk [(GOp.mk 0 [] ([] : List GVarDef) ([] : List GDir) [(GSel.mk 0 [97] [98] ([] : List GMember) ([] : List GDir) [] ([] : List GSel)), (GSel.mk 0 [97] [98] ([] : List GMember) ([] : List GDir) [] ([] : List GSel))])] ([] : List GFrag)) 24) fun y8 =>
 cnd y8
 (bnd (nthI [(GOp.mk 0 [] ([] : List GVarDef) ([] : List GDir) [(GSel.mk 0 [97] [98] ([] : List GMember) ([] : List GDir) [] ([] : List GSel)), (GSel.mk 0 [97] [99] ([] : List GMember) ([] : List GDir) [] ([] : List GSel))])] 0) fun y10 =>
 bnd (nthI y10.sels 0) fun y12 =>
 bnd (merge_Key y12) fun y14 =>
 some (y14 == ([97] : Str)))
 (some false))
 (some false)
def seinelaw19_awake_ds : Decs := { decs := [(15, shSchema), (17, .bool), (20, shSchema), (22, .bool), (27, (.ref shOp)), (30, (.ref shSel)), (32, .str)], ups := [], loops := [] }
set_option maxRecDepth 100000 in
theorem seinelaw19_awake_t1 (O : Orc) (LP : LBody → LBody) : evalBodyD Try.prog (MT 29) seinelaw19_awake_ds Try.f29.ntmps O LP Try.f29 [] [] = seinelaw19_awake_T1 O LP := by kernel_rfl
theorem seinelaw19_awake_imp : Imp (seinelaw19_awake_B) (seinelaw19_awake_T1 O loopLim) (fun r v => v = (seinelaw19_awakeE r, [])) := by
 simp only [seinelaw19_awake_B, seinelaw19_awake_T1]
 try simp only [evs, tys]
 refine Imp.call (f := seinelaw19_worldE) rfl (fun a h => by first | exact seinelaw19_world_spec h | simpa only [evs, tys, evl] using seinelaw19_world_spec h) (fun a => by first | rfl | simp only [seinelaw19_worldE, evk, chks]) fun y2 hy2 => ?_
 try simp only [seinelaw19_worldE, evs, tys]
 refine Imp.call (f := merge_RuleE) rfl (fun a h => by first | exact merge_Rule_spec h | simpa only [evs, tys, evl] using merge_Rule_spec h) (fun a => by first | rfl | simp only [merge_RuleE, evk, chks]) fun y4 hy4 => ?_
 try simp only [merge_RuleE, evs, tys]
 refine Imp.cnd ?_ ?_
 ·refine Imp.call (f := seinelaw19_worldE) rfl (fun a h => by first | exact seinelaw19_world_spec h | simpa only [evs, tys, evl] using seinelaw19_world_spec h) (fun a => by first | rfl | simp only [seinelaw19_worldE, evk, chks]) fun y6 hy6 => ?_
  try simp only [seinelaw19_worldE, evs, tys]
  refine Imp.call (f := merge_RuleE) rfl (fun a h => by first | exact merge_Rule_spec h | simpa only [evs, tys, evl] using merge_Rule_spec h) (fun a => by first | rfl | simp only [merge_RuleE, evk, chks]) fun y8 hy8 => ?_
  try simp only [merge_RuleE, evs, tys]
  refine Imp.cnd ?_ ?_
  ·refine Imp.op (f := fun a => .ref (encOp a)) (fun a h => op_ix (enc := encOp) (by first | rfl | simp only [evs, tys, evl]) ⟨by first | rfl | simp only [evs, tys, evc], by decide⟩ h) (fun a => chk_GOp a) fun y10 hy10 => ?_
   try simp only [evs, tys]
   refine Imp.op (f := fun a => .ref (encSel a)) (fun a h => op_ix (enc := encSel) (by first | rfl | simp only [evs, tys, evl]) ⟨by first | rfl | simp only [evs, tys, evc], by decide⟩ h) (fun a => chk_GSel a) fun y12 hy12 => ?_
   try simp only [evs, tys]
   refine Imp.call (f := merge_KeyE) rfl (fun a h => by first | exact merge_Key_spec h | simpa only [evs, tys, evl] using merge_Key_spec h) (fun a => by first | rfl | simp only [merge_KeyE, evk, chks]) fun y14 hy14 => ?_
   try simp only [merge_KeyE, evs, tys]
   exact Imp.some (by first | rfl | simp only [seinelaw19_awakeE, evs, tys, evl])
  ·exact Imp.some (by first | rfl | simp only [seinelaw19_awakeE, evs, tys, evl])
 ·exact Imp.some (by first | rfl | simp only [seinelaw19_awakeE, evs, tys, evl])
theorem seinelaw19_awake_run {r : Bool} (h : seinelaw19_awake_B = some r) : seinelaw19_awake = some r := by
 obtain ⟨v, hv, rfl⟩ := seinelaw19_awake_imp r h
 exact tO_of (pair_inj seinelaw19_awakeEj) (OL_runD seinelaw19_awake_ds rfl rfl Try.func29 ((seinelaw19_awake_t1 _ _).trans hv))
def seineref13_Once_l1 (O : Orc) (LP : LBody → LBody) : LBody := fun s16 s16u => cnd (chkL [(.sl false), .bool, (.int .i64), (.int .i64)] s16) (cnd (chkU [] s16u)
 (cnd (decide ((intV (gt s16 3)) < (intV (gt s16 2))))
 (bnd (ix 6 (.slice (esV (gt s16 0)) [] false) (.int .i64 (intV (gt s16 2)))) fun x22 => cnd (chk (.ref shMember) x22)
 (bnd (ix 6 (.slice (esV (gt s16 0)) [] false) (.int .i64 (intV (gt s16 3)))) fun x24 => cnd (chk (.ref shMember) x24)
 (cnd ((strV (gt (aggV (refV x22)) 0)) == (strV (gt (aggV (refV x24)) 0)))
 (some (.ret, [(.slice (esV (gt s16 0)) [] false), (.bool false), (.int .i64 (intV (gt s16 2))), (.int .i64 (intV (gt s16 3)))], []))
 (some (.nrm, [(.slice (esV (gt s16 0)) [] false), (.bool (boolV (gt s16 1))), (.int .i64 (intV (gt s16 2))), (.int .i64 (IntKind.wrap .i64 ((intV (gt s16 3)) + 1)))], []))) none) none)
 (some (.brk 2, [(.slice (esV (gt s16 0)) [] false), (.bool (boolV (gt s16 1))), (.int .i64 (intV (gt s16 2))), (.int .i64 (intV (gt s16 3)))], []))) none) none
def seineref13_Once_l2 (O : Orc) (LP : LBody → LBody) : LBody := fun s1 s1u => cnd (chkL [(.sl false), .bool, (.int .i64)] s1) (cnd (chkU [] s1u)
 (cnd (decide ((intV (gt s1 2)) < (List.length (esV (gt s1 0)) : Int)))
 (bnd (LP (seineref13_Once_l1 O LP) [(.slice (esV (gt s1 0)) [] false), (.bool (boolV (gt s1 1))), (.int .i64 (intV (gt s1 2))), (.int .i64 0)] []) fun y28 =>
 exIs y28.1 (some 2) (cnd (chkL [(.sl false), .bool, (.int .i64), (.int .i64)] y28.2.1) (cnd (chkU [] y28.2.2)
 (some (.nrm, [(.slice (esV (gt y28.2.1 0)) [] false), (.bool (boolV (gt y28.2.1 1))), (.int .i64 (IntKind.wrap .i64 ((intV (gt y28.2.1 2)) + 1)))], [])) none) none)
 (exIs y28.1 none (cnd (chkL [(.sl false), .bool, (.int .i64), (.int .i64)] y28.2.1) (cnd (chkU [] y28.2.2)
 (some (.ret, [(.slice (esV (gt y28.2.1 0)) [] false), (.bool (boolV (gt y28.2.1 1))), (.int .i64 (intV (gt y28.2.1 2)))], [])) none) none)
 (none)))
 (some (.brk 0, [(.slice (esV (gt s1 0)) [] false), (.bool (boolV (gt s1 1))), (.int .i64 (intV (gt s1 2)))], []))) none) none
def seineref13_Once_T1 (O : Orc) (LP : LBody → LBody) (m : List GMember) : Option (PV × UP) :=
 bnd (LP (seineref13_Once_l2 O LP) [(.slice (List.map encMember m) [] false), (.bool false), (.int .i64 0)] []) fun y31 =>
 exIs y31.1 (some 0) (cnd (chkL [(.sl false), .bool, (.int .i64)] y31.2.1) (cnd (chkU [] y31.2.2)
 (some ((.bool true), [])) none) none)
 (exIs y31.1 none (cnd (chkL [(.sl false), .bool, (.int .i64)] y31.2.1) (cnd (chkU [] y31.2.2)
 (some ((.bool (boolV (gt y31.2.1 1))), [])) none) none)
 (none))
noncomputable def seineref13_Once_l1T (m : List GMember) (i_15 : Int) : Int → Option (Int ⊕ (Unit ⊕ Unit))
 | k_21 =>
 cnd (decide (k_21 < i_15))
  (bnd (nthI m i_15) fun y23 =>
  bnd (nthI m k_21) fun y25 =>
  cnd (y23.name == y25.name)
  (some (.inr (.inr ())))
  (some (.inl (IntKind.wrap .i64 (k_21 + 1)))))
  (some (.inr (.inl ())))
abbrev seineref13_Once_l1R (m : List GMember) (i_15 : Int) (st : Int) (l : List PV) (u : UP) : Prop := l = [(.slice (List.map encMember m) [] false), (.bool false), (.int .i64 i_15), (.int .i64 st)] ∧ u = []
abbrev seineref13_Once_l1X (m : List GMember) (i_15 : Int) (p : Unit ⊕ Unit) (r : Ex × List PV × UP) : Prop := elim p (fun (p : Unit) => ∃ (k_26 : Int), r = (Ex.brk 2, [(.slice (List.map encMember m) [] false), (.bool false), (.int .i64 i_15), (.int .i64 k_26)], [])) (fun q2 => (fun (p : Unit) => ∃ (k_27 : Int), r = (Ex.ret, [(.slice (List.map encMember m) [] false), (.bool false), (.int .i64 i_15), (.int .i64 k_27)], [])) q2)
noncomputable def seineref13_Once_l2T (m : List GMember) : Int → Option (Int ⊕ (Unit ⊕ Unit))
 | i_15 =>
 cnd (decide (i_15 < (List.length m : Int)))
  (bnd (tloop (seineref13_Once_l1T m i_15) 0) fun e28_2 => elim e28_2
  (fun p28 =>
  some (.inl (IntKind.wrap .i64 (i_15 + 1))))
  (fun p28 =>
  some (.inr (.inr ()))))
  (some (.inr (.inl ())))
abbrev seineref13_Once_l2R (m : List GMember) (st : Int) (l : List PV) (u : UP) : Prop := l = [(.slice (List.map encMember m) [] false), (.bool false), (.int .i64 st)] ∧ u = []
abbrev seineref13_Once_l2X (m : List GMember) (p : Unit ⊕ Unit) (r : Ex × List PV × UP) : Prop := elim p (fun (p : Unit) => ∃ (i_29 : Int), r = (Ex.brk 0, [(.slice (List.map encMember m) [] false), (.bool false), (.int .i64 i_29)], [])) (fun q2 => (fun (p : Unit) => ∃ (i_30 : Int), r = (Ex.ret, [(.slice (List.map encMember m) [] false), (.bool false), (.int .i64 i_30)], [])) q2)
noncomputable def seineref13_Once_B (m : List GMember) : Option Bool :=
 bnd (tloop (seineref13_Once_l2T m) 0) fun e31_2 => elim e31_2
 (fun p31 =>
 some true)
 (fun p31 =>
 some false)
def seineref13_Once_ds : Decs := { decs := [(18, (.ref shMember)), (23, (.ref shMember))], ups := [], loops := [(2, [], ⟨[(.sl false), .bool, (.int .i64)], [], [(some 0, [(.sl false), .bool, (.int .i64)], []), (none, [(.sl false), .bool, (.int .i64)], [])]⟩), (5, [], ⟨[(.sl false), .bool, (.int .i64), (.int .i64)], [], [(some 2, [(.sl false), .bool, (.int .i64), (.int .i64)], []), (none, [(.sl false), .bool, (.int .i64), (.int .i64)], [])]⟩)] }
set_option maxRecDepth 100000 in
theorem seineref13_Once_t1 (O : Orc) (LP : LBody → LBody) (m : List GMember) : evalBodyD Try.prog (MT 30) seineref13_Once_ds Try.f30.ntmps O LP Try.f30 [(.slice (List.map encMember m) [] false)] [] = seineref13_Once_T1 O LP m := by kernel_rfl
theorem seineref13_Once_l1_ok (m : List GMember) (i_15 : Int) : ∀ st l u, seineref13_Once_l1R m i_15 st l u → Imp (seineref13_Once_l1T m i_15 st) (seineref13_Once_l1 O loopLim l u) (StepR (seineref13_Once_l1R m i_15) (seineref13_Once_l1X m i_15)) := by
 rintro k_21 l u ⟨rfl, rfl⟩
 simp only [seineref13_Once_l1T, seineref13_Once_l1]
 refine Imp.chk rfl (Imp.chk rfl ?_)
 try simp only [evs, tys]
 refine Imp.cnd ?_ ?_
 ·refine Imp.op (f := fun a => .ref (encMember a)) (fun a h => op_ix (enc := encMember) (by first | rfl | simp only [evs, tys, evl]) ⟨by first | rfl | simp only [evs, tys, evc], by decide⟩ h) (fun a => chk_GMember a) fun y23 hy23 => ?_
  try simp only [evs, tys]
  refine Imp.op (f := fun a => .ref (encMember a)) (fun a h => op_ix (enc := encMember) (by first | rfl | simp only [evs, tys, evl]) ⟨by first | rfl | simp only [evs, tys, evc], by decide⟩ h) (fun a => chk_GMember a) fun y25 hy25 => ?_
  try simp only [evs, tys]
  refine Imp.cnd ?_ ?_
  ·exact Imp.some (StepR.ret ⟨k_21, by first | rfl | simp only [evs, tys, evl, elim_inl, elim_inr]⟩)
  ·exact Imp.some (StepR.next ⟨by first | rfl | simp only [evs, tys, evl], rfl⟩)
 ·exact Imp.some (StepR.brk ⟨k_21, by first | rfl | simp only [evs, tys, evl, elim_inl, elim_inr]⟩)
theorem seineref13_Once_l2_ok (m : List GMember) : ∀ st l u, seineref13_Once_l2R m st l u → Imp (seineref13_Once_l2T m st) (seineref13_Once_l2 O loopLim l u) (StepR (seineref13_Once_l2R m) (seineref13_Once_l2X m)) := by
 rintro i_15 l u ⟨rfl, rfl⟩
 simp only [seineref13_Once_l2T, seineref13_Once_l2]
 refine Imp.chk rfl (Imp.chk rfl ?_)
 try simp only [evs, tys]
 refine Imp.cnd ?_ ?_
 ·refine Imp.bnd (Imp.loop (seineref13_Once_l1_ok m i_15) ⟨by first | rfl | simp only [evs, tys, evl], rfl⟩) ?_
  rintro (p | p) vy28 hy28
  ·try simp only [elim_inl, elim_inr]
   obtain ⟨k_26, rfl⟩ := hy28
   refine Imp.exHit rfl (Imp.chk rfl (Imp.chk rfl ?_))
   try simp only [evs, tys]
   exact Imp.some (StepR.next ⟨by first | rfl | simp only [evs, tys, evl], rfl⟩)
  ·try simp only [elim_inl, elim_inr]
   obtain ⟨k_27, rfl⟩ := hy28
   refine Imp.exMiss rfl ?_
   refine Imp.exHit rfl (Imp.chk rfl (Imp.chk rfl ?_))
   try simp only [evs, tys]
   exact Imp.some (StepR.ret ⟨i_15, by first | rfl | simp only [evs, tys, evl, elim_inl, elim_inr]⟩)
 ·exact Imp.some (StepR.brk ⟨i_15, by first | rfl | simp only [evs, tys, evl, elim_inl, elim_inr]⟩)
theorem seineref13_Once_imp (m : List GMember) : Imp (seineref13_Once_B m) (seineref13_Once_T1 O loopLim m) (fun r v => v = (seineref13_OnceE r, [])) := by
 simp only [seineref13_Once_B, seineref13_Once_T1]
 try simp only [evs, tys]
 refine Imp.bnd (Imp.loop (seineref13_Once_l2_ok m) ⟨by first | rfl | simp only [evs, tys, evl], rfl⟩) ?_
 rintro (p | p) vy31 hy31
 ·try simp only [elim_inl, elim_inr]
  obtain ⟨i_29, rfl⟩ := hy31
  refine Imp.exHit rfl (Imp.chk rfl (Imp.chk rfl ?_))
  try simp only [evs, tys]
  exact Imp.some (by first | rfl | simp only [seineref13_OnceE, evs, tys, evl])
 ·try simp only [elim_inl, elim_inr]
  obtain ⟨i_30, rfl⟩ := hy31
  refine Imp.exMiss rfl ?_
  refine Imp.exHit rfl (Imp.chk rfl (Imp.chk rfl ?_))
  try simp only [evs, tys]
  exact Imp.some (by first | rfl | simp only [seineref13_OnceE, evs, tys, evl])
theorem seineref13_Once_run {m : List GMember} {r : Bool} (h : seineref13_Once_B m = some r) : seineref13_Once m = some r := by
 obtain ⟨v, hv, rfl⟩ := seineref13_Once_imp m r h
 exact tO_of (pair_inj seineref13_OnceEj) (OL_runD seineref13_Once_ds rfl rfl Try.func30 ((seineref13_Once_t1 _ _ m).trans hv))
def merge_Alike_l1 (O : Orc) (LP : LBody → LBody) : LBody := fun s1 s1u => cnd (chkL [(.sl false), (.sl false), .bool, (.sl false), (.int .i64), (.int .i64)] s1) (cnd (chkU [] s1u)
 (cnd (decide ((intV (gt s1 5)) < (intV (gt s1 4))))
 (bnd (ix 6 (.slice (esV (gt s1 3)) [] false) (.int .i64 (intV (gt s1 5)))) fun x9 => cnd (chk (.ref shMember) x9)
 (callp O 57 [(.str (strV (gt (aggV (refV x9)) 0))), (.slice (esV (gt s1 1)) [] false)] fun x11 => cnd (chk (.tup [shValue, .bool]) x11)
 (cnd (!(boolV (gt (tupV x11) 1)))
 (some (.ret, [(.slice (esV (gt s1 0)) [] false), (.slice (esV (gt s1 1)) [] false), (.bool false), (.slice (esV (gt s1 3)) [] false), (.int .i64 (intV (gt s1 4))), (.int .i64 (intV (gt s1 5)))], []))
 (callp O 58 [(.agg [(.int .i64 (intV (gt (aggV (refV x9)) 1))), (.int .i64 (intV (gt (aggV (refV x9)) 2))), (.str (strV (gt (aggV (refV x9)) 3))), (.slice (esV (gt (aggV (refV x9)) 4)) [] false), (.slice (esV (gt (aggV (refV x9)) 5)) [] false)]), (.agg [(.int .i64 (intV (gt (aggV (gt (tupV x11) 0)) 0))), (.int .i64 (intV (gt (aggV (gt (tupV x11) 0)) 1))), (.str (strV (gt (aggV (gt (tupV x11) 0)) 2))), (.slice (esV (gt (aggV (gt (tupV x11) 0)) 3)) [] false), (.slice (esV (gt (aggV (gt (tupV x11) 0)) 4)) [] false)])] fun x13 => cnd (chk .bool x13)
 (cnd (!(boolV x13))
 (some (.ret, [(.slice (esV (gt s1 0)) [] false), (.slice (esV (gt s1 1)) [] false), (.bool false), (.slice (esV (gt s1 3)) [] false), (.int .i64 (intV (gt s1 4))), (.int .i64 (intV (gt s1 5)))], []))
 (some (.nrm, [(.slice (esV (gt s1 0)) [] false), (.slice (esV (gt s1 1)) [] false), (.bool (boolV (gt s1 2))), (.slice (esV (gt s1 3)) [] false), (.int .i64 (intV (gt s1 4))), (.int .i64 (IntKind.wrap .i64 ((intV (gt s1 5)) + 1)))], []))) none)) none) none)
 (some (.brk 0, [(.slice (esV (gt s1 0)) [] false), (.slice (esV (gt s1 1)) [] false), (.bool (boolV (gt s1 2))), (.slice (esV (gt s1 3)) [] false), (.int .i64 (intV (gt s1 4))), (.int .i64 (intV (gt s1 5)))], []))) none) none
def merge_Alike_T1 (O : Orc) (LP : LBody → LBody) (a : List GMember) (b : List GMember) : Option (PV × UP) :=
 bnd (LP (merge_Alike_l1 O LP) [(.slice (List.map encMember a) [] false), (.slice (List.map encMember b) [] false), (.bool false), (.slice (List.map encMember a) [] false), (.int .i64 (List.length (List.map encMember a) : Int)), (.int .i64 0)] []) fun y17 =>
 exIs y17.1 (some 0) (cnd (chkL [(.sl false), (.sl false), .bool, (.sl false), (.int .i64), (.int .i64)] y17.2.1) (cnd (chkU [] y17.2.2)
 (some ((.bool ((List.length (esV (gt y17.2.1 0)) : Int) == (List.length (esV (gt y17.2.1 1)) : Int))), [])) none) none)
 (exIs y17.1 none (cnd (chkL [(.sl false), (.sl false), .bool, (.sl false), (.int .i64), (.int .i64)] y17.2.1) (cnd (chkU [] y17.2.2)
 (some ((.bool (boolV (gt y17.2.1 2))), [])) none) none)
 (none))
noncomputable def merge_Alike_l1T (a : List GMember) (b : List GMember) : Int → Option (Int ⊕ (Unit ⊕ Unit))
 | t_8 =>
 cnd (decide (t_8 < (List.length a : Int)))
  (bnd (nthI a t_8) fun y10 =>
  bnd (value_Get y10.name b) fun y12 =>
  cnd (!y12.2)
  (some (.inr (.inr ())))
  (bnd (value_Same y10.v y12.1) fun y14 =>
  cnd (!y14)
   (some (.inr (.inr ())))
   (some (.inl (IntKind.wrap .i64 (t_8 + 1))))))
  (some (.inr (.inl ())))
abbrev merge_Alike_l1R (a : List GMember) (b : List GMember) (st : Int) (l : List PV) (u : UP) : Prop := l = [(.slice (List.map encMember a) [] false), (.slice (List.map encMember b) [] false), (.bool false), (.slice (List.map encMember a) [] false), (.int .i64 (List.length a : Int)), (.int .i64 st)] ∧ u = []
abbrev merge_Alike_l1X (a : List GMember) (b : List GMember) (p : Unit ⊕ Unit) (r : Ex × List PV × UP) : Prop := elim p (fun (p : Unit) => ∃ (t_15 : Int), r = (Ex.brk 0, [(.slice (List.map encMember a) [] false), (.slice (List.map encMember b) [] false), (.bool false), (.slice (List.map encMember a) [] false), (.int .i64 (List.length a : Int)), (.int .i64 t_15)], [])) (fun q2 => (fun (p : Unit) => ∃ (t_16 : Int), r = (Ex.ret, [(.slice (List.map encMember a) [] false), (.slice (List.map encMember b) [] false), (.bool false), (.slice (List.map encMember a) [] false), (.int .i64 (List.length a : Int)), (.int .i64 t_16)], [])) q2)
noncomputable def merge_Alike_B (a : List GMember) (b : List GMember) : Option Bool :=
 bnd (tloop (merge_Alike_l1T a b) 0) fun e17_2 => elim e17_2
 (fun p17 =>
 some ((List.length a : Int) == (List.length b : Int)))
 (fun p17 =>
 some false)
def merge_Alike_ds : Decs := { decs := [(13, (.ref shMember)), (19, (.tup [shValue, .bool])), (28, .bool)], ups := [], loops := [(2, [], ⟨[(.sl false), (.sl false), .bool, (.sl false), (.int .i64), (.int .i64)], [], [(some 0, [(.sl false), (.sl false), .bool, (.sl false), (.int .i64), (.int .i64)], []), (none, [(.sl false), (.sl false), .bool, (.sl false), (.int .i64), (.int .i64)], [])]⟩)] }
set_option maxRecDepth 100000 in
theorem merge_Alike_t1 (O : Orc) (LP : LBody → LBody) (a : List GMember) (b : List GMember) : evalBodyD Try.prog (MT 32) merge_Alike_ds Try.f32.ntmps O LP Try.f32 [(.slice (List.map encMember a) [] false), (.slice (List.map encMember b) [] false)] [] = merge_Alike_T1 O LP a b := by kernel_rfl
theorem merge_Alike_l1_ok (a : List GMember) (b : List GMember) : ∀ st l u, merge_Alike_l1R a b st l u → Imp (merge_Alike_l1T a b st) (merge_Alike_l1 O loopLim l u) (StepR (merge_Alike_l1R a b) (merge_Alike_l1X a b)) := by
 rintro t_8 l u ⟨rfl, rfl⟩
 simp only [merge_Alike_l1T, merge_Alike_l1]
 refine Imp.chk rfl (Imp.chk rfl ?_)
 try simp only [evs, tys]
 refine Imp.cnd ?_ ?_
 ·refine Imp.op (f := fun a => .ref (encMember a)) (fun a h => op_ix (enc := encMember) (by first | rfl | simp only [evs, tys, evl]) ⟨by first | rfl | simp only [evs, tys, evc], by decide⟩ h) (fun a => chk_GMember a) fun y10 hy10 => ?_
  try simp only [evs, tys]
  refine Imp.call (f := value_GetE) rfl (fun a h => by first | exact value_Get_spec h | simpa only [evs, tys, evl] using value_Get_spec h) (fun a => by first | rfl | simp only [value_GetE, evk, chks]) fun y12 hy12 => ?_
  try simp only [value_GetE, evs, tys]
  refine Imp.cnd ?_ ?_
  ·exact Imp.some (StepR.ret ⟨t_8, by first | rfl | simp only [evs, tys, evl, elim_inl, elim_inr]⟩)
  ·refine Imp.call (f := value_SameE) rfl (fun a h => by first | exact value_Same_spec h | simpa only [evs, tys, evl] using value_Same_spec h) (fun a => by first | rfl | simp only [value_SameE, evk, chks]) fun y14 hy14 => ?_
   try simp only [value_SameE, evs, tys]
   refine Imp.cnd ?_ ?_
   ·exact Imp.some (StepR.ret ⟨t_8, by first | rfl | simp only [evs, tys, evl, elim_inl, elim_inr]⟩)
   ·exact Imp.some (StepR.next ⟨by first | rfl | simp only [evs, tys, evl], rfl⟩)
 ·exact Imp.some (StepR.brk ⟨t_8, by first | rfl | simp only [evs, tys, evl, elim_inl, elim_inr]⟩)
theorem merge_Alike_imp (a : List GMember) (b : List GMember) : Imp (merge_Alike_B a b) (merge_Alike_T1 O loopLim a b) (fun r v => v = (merge_AlikeE r, [])) := by
 simp only [merge_Alike_B, merge_Alike_T1]
 try simp only [evs, tys]
 refine Imp.bnd (Imp.loop (merge_Alike_l1_ok a b) ⟨by first | rfl | simp only [evs, tys, evl], rfl⟩) ?_
 rintro (p | p) vy17 hy17
 ·try simp only [elim_inl, elim_inr]
  obtain ⟨t_15, rfl⟩ := hy17
  refine Imp.exHit rfl (Imp.chk rfl (Imp.chk rfl ?_))
  try simp only [evs, tys]
  exact Imp.some (by first | rfl | simp only [merge_AlikeE, evs, tys, evl])
 ·try simp only [elim_inl, elim_inr]
  obtain ⟨t_16, rfl⟩ := hy17
  refine Imp.exMiss rfl ?_
  refine Imp.exHit rfl (Imp.chk rfl (Imp.chk rfl ?_))
  try simp only [evs, tys]
  exact Imp.some (by first | rfl | simp only [merge_AlikeE, evs, tys, evl])
theorem merge_Alike_run {a : List GMember} {b : List GMember} {r : Bool} (h : merge_Alike_B a b = some r) : merge_Alike a b = some r := by
 obtain ⟨v, hv, rfl⟩ := merge_Alike_imp a b r h
 exact tO_of (pair_inj merge_AlikeEj) (OL_runD merge_Alike_ds rfl rfl Try.func32 ((merge_Alike_t1 _ _ a b).trans hv))
def value_Get_l1 (O : Orc) (LP : LBody → LBody) : LBody := fun s1 s1u => cnd (chkL [.str, (.ptr 0 4 0), .bool, (.sl false), (.int .i64), (.int .i64), (.int .i64), (.int .i64), .str, (.sl true), (.sl true)] s1) (cnd (chkU [] s1u)
 (cnd (decide ((intV (gt s1 5)) < (intV (gt s1 4))))
 (bnd (ix 6 (.slice (esV (gt s1 3)) [] false) (.int .i64 (intV (gt s1 5)))) fun x5 => cnd (chk (.ref shMember) x5)
 (cnd ((strV (gt (aggV (refV x5)) 0)) == (strV (gt s1 0)))
 (some (.ret, [(.str (strV (gt s1 0))), (.ptr 0 4 0), (.bool true), (.slice (esV (gt s1 3)) [] false), (.int .i64 (intV (gt s1 4))), (.int .i64 (intV (gt s1 5))), (.int .i64 (intV (gt (aggV (refV x5)) 1))), (.int .i64 (intV (gt (aggV (refV x5)) 2))), (.str (strV (gt (aggV (refV x5)) 3))), (.slice (esV (gt (aggV (refV x5)) 4)) [] false), (.slice (esV (gt (aggV (refV x5)) 5)) [] false)], []))
 (some (.nrm, [(.str (strV (gt s1 0))), (.ptr 0 4 0), (.bool (boolV (gt s1 2))), (.slice (esV (gt s1 3)) [] false), (.int .i64 (intV (gt s1 4))), (.int .i64 (IntKind.wrap .i64 ((intV (gt s1 5)) + 1))), (.int .i64 (intV (gt s1 6))), (.int .i64 (intV (gt s1 7))), (.str (strV (gt s1 8))), (.slice (esV (gt s1 9)) [] true), (.slice (esV (gt s1 10)) [] true)], []))) none)
 (some (.brk 0, [(.str (strV (gt s1 0))), (.ptr 0 4 0), (.bool (boolV (gt s1 2))), (.slice (esV (gt s1 3)) [] false), (.int .i64 (intV (gt s1 4))), (.int .i64 (intV (gt s1 5))), (.int .i64 (intV (gt s1 6))), (.int .i64 (intV (gt s1 7))), (.str (strV (gt s1 8))), (.slice (esV (gt s1 9)) [] true), (.slice (esV (gt s1 10)) [] true)], []))) none) none
def value_Get_T1 (O : Orc) (LP : LBody → LBody) (name : Str) (l0 : List GMember) : Option (PV × UP) :=
 bnd (LP (value_Get_l1 O LP) [(.str name), (.ptr 0 4 0), (.bool false), (.slice (List.map encMember l0) [] false), (.int .i64 (List.length (List.map encMember l0) : Int)), (.int .i64 0), (.int .i64 0), (.int .i64 0), (.str []), (.slice [] [] true), (.slice [] [] true)] []) fun y14 =>
 exIs y14.1 (some 0) (cnd (chkL [.str, (.ptr 0 4 0), .bool, (.sl false), (.int .i64), (.int .i64), (.int .i64), (.int .i64), .str, (.sl true), (.sl true)] y14.2.1) (cnd (chkU [] y14.2.2)
 (some ((.tuple [(.agg [(.int .i64 0), (.int .i64 0), (.str []), (.slice [] [] false), (.slice [] [] false)]), (.bool false)]), [])) none) none)
 (exIs y14.1 none (cnd (chkL [.str, (.ptr 0 4 0), .bool, (.sl false), (.int .i64), (.int .i64), (.int .i64), (.int .i64), .str, (.sl false), (.sl false)] y14.2.1) (cnd (chkU [] y14.2.2)
 (some ((.tuple [(.agg [(.int .i64 (intV (gt y14.2.1 6))), (.int .i64 (intV (gt y14.2.1 7))), (.str (strV (gt y14.2.1 8))), (.slice (esV (gt y14.2.1 9)) [] false), (.slice (esV (gt y14.2.1 10)) [] false)]), (.bool (boolV (gt y14.2.1 2)))]), [])) none) none)
 (none))
noncomputable def value_Get_l1T (name : Str) (l0 : List GMember) : Int → Option (Int ⊕ (Unit ⊕ (Int × Int × Str × (List GValue) × (List GMember))))
 | t_4 =>
 cnd (decide (t_4 < (List.length l0 : Int)))
  (bnd (nthI l0 t_4) fun y6 =>
  cnd (y6.name == name)
  (some (.inr (.inr (y6.v.kind, y6.v.n, y6.v.s, y6.v.l, y6.v.m))))
  (some (.inl (IntKind.wrap .i64 (t_4 + 1)))))
  (some (.inr (.inl ())))
abbrev value_Get_l1R (name : Str) (l0 : List GMember) (st : Int) (l : List PV) (u : UP) : Prop := l = [(.str name), (.ptr 0 4 0), (.bool false), (.slice (List.map encMember l0) [] false), (.int .i64 (List.length l0 : Int)), (.int .i64 st), (.int .i64 0), (.int .i64 0), (.str []), (.slice [] [] true), (.slice [] [] true)] ∧ u = []
abbrev value_Get_l1X (name : Str) (l0 : List GMember) (p : Unit ⊕ (Int × Int × Str × (List GValue) × (List GMember))) (r : Ex × List PV × UP) : Prop := elim p (fun (p : Unit) => ∃ (t_7 : Int), r = (Ex.brk 0, [(.str name), (.ptr 0 4 0), (.bool false), (.slice (List.map encMember l0) [] false), (.int .i64 (List.length l0 : Int)), (.int .i64 t_7), (.int .i64 0), (.int .i64 0), (.str []), (.slice [] [] true), (.slice [] [] true)], [])) (fun q2 => (fun (p : Int × Int × Str × (List GValue) × (List GMember)) => ∃ (t_8 : Int), r = (Ex.ret, [(.str name), (.ptr 0 4 0), (.bool true), (.slice (List.map encMember l0) [] false), (.int .i64 (List.length l0 : Int)), (.int .i64 t_8), (.int .i64 p.1), (.int .i64 p.2.1), (.str p.2.2.1), (.slice (List.map encValue p.2.2.2.1) [] false), (.slice (List.map encMember p.2.2.2.2) [] false)], [])) q2)
noncomputable def value_Get_B (name : Str) (l0 : List GMember) : Option (GValue × Bool) :=
 bnd (tloop (value_Get_l1T name l0) 0) fun e14_2 => elim e14_2
 (fun p14 =>
 some ((GValue.mk 0 0 [] ([] : List GValue) ([] : List GMember)), false))
 (fun p14 =>
 some ((GValue.mk p14.1 p14.2.1 p14.2.2.1 p14.2.2.2.1 p14.2.2.2.2), true))
def value_Get_ds : Decs := { decs := [(12, (.ref shMember))], ups := [], loops := [(2, [(4, 5)], ⟨[.str, (.ptr 0 4 0), .bool, (.sl false), (.int .i64), (.int .i64), (.int .i64), (.int .i64), .str, (.sl true), (.sl true)], [], [(some 0, [.str, (.ptr 0 4 0), .bool, (.sl false), (.int .i64), (.int .i64), (.int .i64), (.int .i64), .str, (.sl true), (.sl true)], []), (none, [.str, (.ptr 0 4 0), .bool, (.sl false), (.int .i64), (.int .i64), (.int .i64), (.int .i64), .str, (.sl false), (.sl false)], [])]⟩)] }
set_option maxRecDepth 100000 in
theorem value_Get_t1 (O : Orc) (LP : LBody → LBody) (name : Str) (l0 : List GMember) : evalBodyD Try.prog (MT 57) value_Get_ds Try.f57.ntmps O LP Try.f57 [(.str name), (.slice (List.map encMember l0) [] false)] [] = value_Get_T1 O LP name l0 := by kernel_rfl
theorem value_Get_l1_ok (name : Str) (l0 : List GMember) : ∀ st l u, value_Get_l1R name l0 st l u → Imp (value_Get_l1T name l0 st) (value_Get_l1 O loopLim l u) (StepR (value_Get_l1R name l0) (value_Get_l1X name l0)) := by
 rintro t_4 l u ⟨rfl, rfl⟩
 simp only [value_Get_l1T, value_Get_l1]
 refine Imp.chk rfl (Imp.chk rfl ?_)
 try simp only [evs, tys]
 refine Imp.cnd ?_ ?_
 ·refine Imp.op (f := fun a => .ref (encMember a)) (fun a h => op_ix (enc := encMember) (by first | rfl | simp only [evs, tys, evl]) ⟨by first | rfl | simp only [evs, tys, evc], by decide⟩ h) (fun a => chk_GMember a) fun y6 hy6 => ?_
  try simp only [evs, tys]
  refine Imp.cnd ?_ ?_
  ·exact Imp.some (StepR.ret ⟨t_4, by first | rfl | simp only [evs, tys, evl, elim_inl, elim_inr]⟩)
  ·exact Imp.some (StepR.next ⟨by first | rfl | simp only [evs, tys, evl], rfl⟩)
 ·exact Imp.some (StepR.brk ⟨t_4, by first | rfl | simp only [evs, tys, evl, elim_inl, elim_inr]⟩)
theorem value_Get_imp (name : Str) (l0 : List GMember) : Imp (value_Get_B name l0) (value_Get_T1 O loopLim name l0) (fun r v => v = (value_GetE r, [])) := by
 simp only [value_Get_B, value_Get_T1]
 try simp only [evs, tys]
 refine Imp.bnd (Imp.loop (value_Get_l1_ok name l0) ⟨by first | rfl | simp only [evs, tys, evl], rfl⟩) ?_
 rintro (p | ⟨b_9, b_10, b_11, b_12, b_13⟩) vy14 hy14
 ·try simp only [elim_inl, elim_inr]
  obtain ⟨t_7, rfl⟩ := hy14
  refine Imp.exHit rfl (Imp.chk rfl (Imp.chk rfl ?_))
  try simp only [evs, tys]
  exact Imp.some (by first | rfl | simp only [value_GetE, evs, tys, evl])
 ·try simp only [elim_inl, elim_inr]
  obtain ⟨t_8, rfl⟩ := hy14
  refine Imp.exMiss rfl ?_
  refine Imp.exHit rfl (Imp.chk rfl (Imp.chk rfl ?_))
  try simp only [evs, tys]
  exact Imp.some (by first | rfl | simp only [value_GetE, evs, tys, evl])
theorem value_Get_run {name : Str} {l0 : List GMember} {r : GValue × Bool} (h : value_Get_B name l0 = some r) : value_Get name l0 = some r := by
 obtain ⟨v, hv, rfl⟩ := value_Get_imp name l0 r h
 exact tO_of (pair_inj value_GetEj) (OL_runD value_Get_ds rfl rfl Try.func57 ((value_Get_t1 _ _ name l0).trans hv))
def slices_EqualFunc_Value_l1 (O : Orc) (LP : LBody → LBody) : LBody := fun s1 s1u => cnd (chkL [(.sl false), (.func 58 [] []), .bool, (.sl false), (.int .i64), (.int .i64)] s1) (cnd (chkU [] s1u)
 (cnd (decide ((intV (gt s1 5)) < (intV (gt s1 4))))
 (bnd (ix 5 (.slice (esV (gt s1 3)) [] false) (.int .i64 (intV (gt s1 5)))) fun x9 => cnd (chk (.ref shValue) x9)
 (bnd (ix 5 (.slice (esV (gt s1 0)) [] false) (.int .i64 (intV (gt s1 5)))) fun x11 => cnd (chk (.ref shValue) x11)
 (callp O 58 [(.agg [(.int .i64 (intV (gt (aggV (refV x9)) 0))), (.int .i64 (intV (gt (aggV (refV x9)) 1))), (.str (strV (gt (aggV (refV x9)) 2))), (.slice (esV (gt (aggV (refV x9)) 3)) [] false), (.slice (esV (gt (aggV (refV x9)) 4)) [] false)]), (.agg [(.int .i64 (intV (gt (aggV (refV x11)) 0))), (.int .i64 (intV (gt (aggV (refV x11)) 1))), (.str (strV (gt (aggV (refV x11)) 2))), (.slice (esV (gt (aggV (refV x11)) 3)) [] false), (.slice (esV (gt (aggV (refV x11)) 4)) [] false)])] fun x13 => cnd (chk .bool x13)
 (cnd (!(boolV x13))
 (some (.ret, [(.slice (esV (gt s1 0)) [] false), (.func (.func 58) [] []), (.bool false), (.slice (esV (gt s1 3)) [] false), (.int .i64 (intV (gt s1 4))), (.int .i64 (intV (gt s1 5)))], []))
 (some (.nrm, [(.slice (esV (gt s1 0)) [] false), (.func (.func 58) [] []), (.bool (boolV (gt s1 2))), (.slice (esV (gt s1 3)) [] false), (.int .i64 (intV (gt s1 4))), (.int .i64 (IntKind.wrap .i64 ((intV (gt s1 5)) + 1)))], []))) none) none) none)
 (some (.brk 0, [(.slice (esV (gt s1 0)) [] false), (.func (.func 58) [] []), (.bool (boolV (gt s1 2))), (.slice (esV (gt s1 3)) [] false), (.int .i64 (intV (gt s1 4))), (.int .i64 (intV (gt s1 5)))], []))) none) none
def slices_EqualFunc_Value_T1 (O : Orc) (LP : LBody → LBody) (s10 : List GValue) (s20 : List GValue) : Option (PV × UP) :=
 cnd ((List.length (List.map encValue s10) : Int) != (List.length (List.map encValue s20) : Int))
 (some ((.bool false), []))
 (bnd (LP (slices_EqualFunc_Value_l1 O LP) [(.slice (List.map encValue s20) [] false), (.func (.func 58) [] []), (.bool false), (.slice (List.map encValue s10) [] false), (.int .i64 (List.length (List.map encValue s10) : Int)), (.int .i64 0)] []) fun y17 =>
 exIs y17.1 (some 0) (cnd (chkL [(.sl false), (.func 58 [] []), .bool, (.sl false), (.int .i64), (.int .i64)] y17.2.1) (cnd (chkU [] y17.2.2)
 (some ((.bool true), [])) none) none)
 (exIs y17.1 none (cnd (chkL [(.sl false), (.func 58 [] []), .bool, (.sl false), (.int .i64), (.int .i64)] y17.2.1) (cnd (chkU [] y17.2.2)
 (some ((.bool (boolV (gt y17.2.1 2))), [])) none) none)
 (none)))
noncomputable def slices_EqualFunc_Value_l1T (s10 : List GValue) (s20 : List GValue) : Int → Option (Int ⊕ (Unit ⊕ Unit))
 | t_8 =>
 cnd (decide (t_8 < (List.length s10 : Int)))
  (bnd (nthI s10 t_8) fun y10 =>
  bnd (nthI s20 t_8) fun y12 =>
  bnd (value_Same y10 y12) fun y14 =>
  cnd (!y14)
  (some (.inr (.inr ())))
  (some (.inl (IntKind.wrap .i64 (t_8 + 1)))))
  (some (.inr (.inl ())))
abbrev slices_EqualFunc_Value_l1R (s10 : List GValue) (s20 : List GValue) (st : Int) (l : List PV) (u : UP) : Prop := l = [(.slice (List.map encValue s20) [] false), (.func (.func 58) [] []), (.bool false), (.slice (List.map encValue s10) [] false), (.int .i64 (List.length s10 : Int)), (.int .i64 st)] ∧ u = []
abbrev slices_EqualFunc_Value_l1X (s10 : List GValue) (s20 : List GValue) (p : Unit ⊕ Unit) (r : Ex × List PV × UP) : Prop := elim p (fun (p : Unit) => ∃ (t_15 : Int), r = (Ex.brk 0, [(.slice (List.map encValue s20) [] false), (.func (.func 58) [] []), (.bool false), (.slice (List.map encValue s10) [] false), (.int .i64 (List.length s10 : Int)), (.int .i64 t_15)], [])) (fun q2 => (fun (p : Unit) => ∃ (t_16 : Int), r = (Ex.ret, [(.slice (List.map encValue s20) [] false), (.func (.func 58) [] []), (.bool false), (.slice (List.map encValue s10) [] false), (.int .i64 (List.length s10 : Int)), (.int .i64 t_16)], [])) q2)
noncomputable def slices_EqualFunc_Value_B (s10 : List GValue) (s20 : List GValue) : Option Bool :=
 cnd ((List.length s10 : Int) != (List.length s20 : Int))
 (some false)
 (bnd (tloop (slices_EqualFunc_Value_l1T s10 s20) 0) fun e17_2 => elim e17_2
 (fun p17 =>
 some true)
 (fun p17 =>
 some false))
def slices_EqualFunc_Value_ds : Decs := { decs := [(20, (.ref shValue)), (24, (.ref shValue)), (29, .bool)], ups := [], loops := [(4, [], ⟨[(.sl false), (.func 58 [] []), .bool, (.sl false), (.int .i64), (.int .i64)], [], [(some 0, [(.sl false), (.func 58 [] []), .bool, (.sl false), (.int .i64), (.int .i64)], []), (none, [(.sl false), (.func 58 [] []), .bool, (.sl false), (.int .i64), (.int .i64)], [])]⟩)] }
set_option maxRecDepth 100000 in
theorem slices_EqualFunc_Value_t1 (O : Orc) (LP : LBody → LBody) (s10 : List GValue) (s20 : List GValue) : evalBodyD Try.prog (MT 83) slices_EqualFunc_Value_ds Try.f83.ntmps O LP Try.f83 [(.slice (List.map encValue s10) [] false), (.slice (List.map encValue s20) [] false), (.func (.func 58) [] [])] [] = slices_EqualFunc_Value_T1 O LP s10 s20 := by kernel_rfl
theorem slices_EqualFunc_Value_l1_ok (s10 : List GValue) (s20 : List GValue) : ∀ st l u, slices_EqualFunc_Value_l1R s10 s20 st l u → Imp (slices_EqualFunc_Value_l1T s10 s20 st) (slices_EqualFunc_Value_l1 O loopLim l u) (StepR (slices_EqualFunc_Value_l1R s10 s20) (slices_EqualFunc_Value_l1X s10 s20)) := by
 rintro t_8 l u ⟨rfl, rfl⟩
 simp only [slices_EqualFunc_Value_l1T, slices_EqualFunc_Value_l1]
 refine Imp.chk rfl (Imp.chk rfl ?_)
 try simp only [evs, tys]
 refine Imp.cnd ?_ ?_
 ·refine Imp.op (f := fun a => .ref (encValue a)) (fun a h => op_ix (enc := encValue) (by first | rfl | simp only [evs, tys, evl]) ⟨by first | rfl | simp only [evs, tys, evc], by decide⟩ h) (fun a => chk_GValue a) fun y10 hy10 => ?_
  try simp only [evs, tys]
  refine Imp.op (f := fun a => .ref (encValue a)) (fun a h => op_ix (enc := encValue) (by first | rfl | simp only [evs, tys, evl]) ⟨by first | rfl | simp only [evs, tys, evc], by decide⟩ h) (fun a => chk_GValue a) fun y12 hy12 => ?_
  try simp only [evs, tys]
  refine Imp.call (f := value_SameE) rfl (fun a h => by first | exact value_Same_spec h | simpa only [evs, tys, evl] using value_Same_spec h) (fun a => by first | rfl | simp only [value_SameE, evk, chks]) fun y14 hy14 => ?_
  try simp only [value_SameE, evs, tys]
  refine Imp.cnd ?_ ?_
  ·exact Imp.some (StepR.ret ⟨t_8, by first | rfl | simp only [evs, tys, evl, elim_inl, elim_inr]⟩)
  ·exact Imp.some (StepR.next ⟨by first | rfl | simp only [evs, tys, evl], rfl⟩)
 ·exact Imp.some (StepR.brk ⟨t_8, by first | rfl | simp only [evs, tys, evl, elim_inl, elim_inr]⟩)
theorem slices_EqualFunc_Value_imp (s10 : List GValue) (s20 : List GValue) : Imp (slices_EqualFunc_Value_B s10 s20) (slices_EqualFunc_Value_T1 O loopLim s10 s20) (fun r v => v = (slices_EqualFunc_ValueE r, [])) := by
 simp only [slices_EqualFunc_Value_B, slices_EqualFunc_Value_T1]
 try simp only [evs, tys]
 refine Imp.cnd ?_ ?_
 ·exact Imp.some (by first | rfl | simp only [slices_EqualFunc_ValueE, evs, tys, evl])
 ·refine Imp.bnd (Imp.loop (slices_EqualFunc_Value_l1_ok s10 s20) ⟨by first | rfl | simp only [evs, tys, evl], rfl⟩) ?_
  rintro (p | p) vy17 hy17
  ·try simp only [elim_inl, elim_inr]
   obtain ⟨t_15, rfl⟩ := hy17
   refine Imp.exHit rfl (Imp.chk rfl (Imp.chk rfl ?_))
   try simp only [evs, tys]
   exact Imp.some (by first | rfl | simp only [slices_EqualFunc_ValueE, evs, tys, evl])
  ·try simp only [elim_inl, elim_inr]
   obtain ⟨t_16, rfl⟩ := hy17
   refine Imp.exMiss rfl ?_
   refine Imp.exHit rfl (Imp.chk rfl (Imp.chk rfl ?_))
   try simp only [evs, tys]
   exact Imp.some (by first | rfl | simp only [slices_EqualFunc_ValueE, evs, tys, evl])
theorem slices_EqualFunc_Value_run {s10 : List GValue} {s20 : List GValue} {r : Bool} (h : slices_EqualFunc_Value_B s10 s20 = some r) : slices_EqualFunc_Value s10 s20 = some r := by
 obtain ⟨v, hv, rfl⟩ := slices_EqualFunc_Value_imp s10 s20 r h
 exact tO_of (pair_inj slices_EqualFunc_ValueEj) (OL_runD slices_EqualFunc_Value_ds rfl rfl Try.func83 ((slices_EqualFunc_Value_t1 _ _ s10 s20).trans hv))
def slices_EqualFunc_Member_l1 (O : Orc) (LP : LBody → LBody) : LBody := fun s1 s1u => cnd (chkL [(.sl false), (.func 85 [] []), .bool, (.sl false), (.int .i64), (.int .i64)] s1) (cnd (chkU [] s1u)
 (cnd (decide ((intV (gt s1 5)) < (intV (gt s1 4))))
 (bnd (ix 6 (.slice (esV (gt s1 3)) [] false) (.int .i64 (intV (gt s1 5)))) fun x9 => cnd (chk (.ref shMember) x9)
 (bnd (ix 6 (.slice (esV (gt s1 0)) [] false) (.int .i64 (intV (gt s1 5)))) fun x11 => cnd (chk (.ref shMember) x11)
 (callp O 85 [(.agg [(.str (strV (gt (aggV (refV x9)) 0))), (.int .i64 (intV (gt (aggV (refV x9)) 1))), (.int .i64 (intV (gt (aggV (refV x9)) 2))), (.str (strV (gt (aggV (refV x9)) 3))), (.slice (esV (gt (aggV (refV x9)) 4)) [] false), (.slice (esV (gt (aggV (refV x9)) 5)) [] false)]), (.agg [(.str (strV (gt (aggV (refV x11)) 0))), (.int .i64 (intV (gt (aggV (refV x11)) 1))), (.int .i64 (intV (gt (aggV (refV x11)) 2))), (.str (strV (gt (aggV (refV x11)) 3))), (.slice (esV (gt (aggV (refV x11)) 4)) [] false), (.slice (esV (gt (aggV (refV x11)) 5)) [] false)])] fun x13 => cnd (chk .bool x13)
 (cnd (!(boolV x13))
 (some (.ret, [(.slice (esV (gt s1 0)) [] false), (.func (.func 85) [] []), (.bool false), (.slice (esV (gt s1 3)) [] false), (.int .i64 (intV (gt s1 4))), (.int .i64 (intV (gt s1 5)))], []))
 (some (.nrm, [(.slice (esV (gt s1 0)) [] false), (.func (.func 85) [] []), (.bool (boolV (gt s1 2))), (.slice (esV (gt s1 3)) [] false), (.int .i64 (intV (gt s1 4))), (.int .i64 (IntKind.wrap .i64 ((intV (gt s1 5)) + 1)))], []))) none) none) none)
 (some (.brk 0, [(.slice (esV (gt s1 0)) [] false), (.func (.func 85) [] []), (.bool (boolV (gt s1 2))), (.slice (esV (gt s1 3)) [] false), (.int .i64 (intV (gt s1 4))), (.int .i64 (intV (gt s1 5)))], []))) none) none
def slices_EqualFunc_Member_T1 (O : Orc) (LP : LBody → LBody) (s10 : List GMember) (s20 : List GMember) : Option (PV × UP) :=
 cnd ((List.length (List.map encMember s10) : Int) != (List.length (List.map encMember s20) : Int))
 (some ((.bool false), []))
 (bnd (LP (slices_EqualFunc_Member_l1 O LP) [(.slice (List.map encMember s20) [] false), (.func (.func 85) [] []), (.bool false), (.slice (List.map encMember s10) [] false), (.int .i64 (List.length (List.map encMember s10) : Int)), (.int .i64 0)] []) fun y17 =>
 exIs y17.1 (some 0) (cnd (chkL [(.sl false), (.func 85 [] []), .bool, (.sl false), (.int .i64), (.int .i64)] y17.2.1) (cnd (chkU [] y17.2.2)
 (some ((.bool true), [])) none) none)
 (exIs y17.1 none (cnd (chkL [(.sl false), (.func 85 [] []), .bool, (.sl false), (.int .i64), (.int .i64)] y17.2.1) (cnd (chkU [] y17.2.2)
 (some ((.bool (boolV (gt y17.2.1 2))), [])) none) none)
 (none)))
noncomputable def slices_EqualFunc_Member_l1T (s10 : List GMember) (s20 : List GMember) : Int → Option (Int ⊕ (Unit ⊕ Unit))
 | t_8 =>
 cnd (decide (t_8 < (List.length s10 : Int)))
  (bnd (nthI s10 t_8) fun y10 =>
  bnd (nthI s20 t_8) fun y12 =>
  bnd (value_Same_1 y10 y12) fun y14 =>
  cnd (!y14)
  (some (.inr (.inr ())))
  (some (.inl (IntKind.wrap .i64 (t_8 + 1)))))
  (some (.inr (.inl ())))
abbrev slices_EqualFunc_Member_l1R (s10 : List GMember) (s20 : List GMember) (st : Int) (l : List PV) (u : UP) : Prop := l = [(.slice (List.map encMember s20) [] false), (.func (.func 85) [] []), (.bool false), (.slice (List.map encMember s10) [] false), (.int .i64 (List.length s10 : Int)), (.int .i64 st)] ∧ u = []
abbrev slices_EqualFunc_Member_l1X (s10 : List GMember) (s20 : List GMember) (p : Unit ⊕ Unit) (r : Ex × List PV × UP) : Prop := elim p (fun (p : Unit) => ∃ (t_15 : Int), r = (Ex.brk 0, [(.slice (List.map encMember s20) [] false), (.func (.func 85) [] []), (.bool false), (.slice (List.map encMember s10) [] false), (.int .i64 (List.length s10 : Int)), (.int .i64 t_15)], [])) (fun q2 => (fun (p : Unit) => ∃ (t_16 : Int), r = (Ex.ret, [(.slice (List.map encMember s20) [] false), (.func (.func 85) [] []), (.bool false), (.slice (List.map encMember s10) [] false), (.int .i64 (List.length s10 : Int)), (.int .i64 t_16)], [])) q2)
noncomputable def slices_EqualFunc_Member_B (s10 : List GMember) (s20 : List GMember) : Option Bool :=
 cnd ((List.length s10 : Int) != (List.length s20 : Int))
 (some false)
 (bnd (tloop (slices_EqualFunc_Member_l1T s10 s20) 0) fun e17_2 => elim e17_2
 (fun p17 =>
 some true)
 (fun p17 =>
 some false))
def slices_EqualFunc_Member_ds : Decs := { decs := [(20, (.ref shMember)), (24, (.ref shMember)), (29, .bool)], ups := [], loops := [(4, [], ⟨[(.sl false), (.func 85 [] []), .bool, (.sl false), (.int .i64), (.int .i64)], [], [(some 0, [(.sl false), (.func 85 [] []), .bool, (.sl false), (.int .i64), (.int .i64)], []), (none, [(.sl false), (.func 85 [] []), .bool, (.sl false), (.int .i64), (.int .i64)], [])]⟩)] }
set_option maxRecDepth 100000 in
theorem slices_EqualFunc_Member_t1 (O : Orc) (LP : LBody → LBody) (s10 : List GMember) (s20 : List GMember) : evalBodyD Try.prog (MT 84) slices_EqualFunc_Member_ds Try.f84.ntmps O LP Try.f84 [(.slice (List.map encMember s10) [] false), (.slice (List.map encMember s20) [] false), (.func (.func 85) [] [])] [] = slices_EqualFunc_Member_T1 O LP s10 s20 := by kernel_rfl
theorem slices_EqualFunc_Member_l1_ok (s10 : List GMember) (s20 : List GMember) : ∀ st l u, slices_EqualFunc_Member_l1R s10 s20 st l u → Imp (slices_EqualFunc_Member_l1T s10 s20 st) (slices_EqualFunc_Member_l1 O loopLim l u) (StepR (slices_EqualFunc_Member_l1R s10 s20) (slices_EqualFunc_Member_l1X s10 s20)) := by
 rintro t_8 l u ⟨rfl, rfl⟩
 simp only [slices_EqualFunc_Member_l1T, slices_EqualFunc_Member_l1]
 refine Imp.chk rfl (Imp.chk rfl ?_)
 try simp only [evs, tys]
 refine Imp.cnd ?_ ?_
 ·refine Imp.op (f := fun a => .ref (encMember a)) (fun a h => op_ix (enc := encMember) (by first | rfl | simp only [evs, tys, evl]) ⟨by first | rfl | simp only [evs, tys, evc], by decide⟩ h) (fun a => chk_GMember a) fun y10 hy10 => ?_
  try simp only [evs, tys]
  refine Imp.op (f := fun a => .ref (encMember a)) (fun a h => op_ix (enc := encMember) (by first | rfl | simp only [evs, tys, evl]) ⟨by first | rfl | simp only [evs, tys, evc], by decide⟩ h) (fun a => chk_GMember a) fun y12 hy12 => ?_
  try simp only [evs, tys]
  refine Imp.call (f := value_Same_1E) rfl (fun a h => by first | exact value_Same_1_spec h | simpa only [evs, tys, evl] using value_Same_1_spec h) (fun a => by first | rfl | simp only [value_Same_1E, evk, chks]) fun y14 hy14 => ?_
  try simp only [value_Same_1E, evs, tys]
  refine Imp.cnd ?_ ?_
  ·exact Imp.some (StepR.ret ⟨t_8, by first | rfl | simp only [evs, tys, evl, elim_inl, elim_inr]⟩)
  ·exact Imp.some (StepR.next ⟨by first | rfl | simp only [evs, tys, evl], rfl⟩)
 ·exact Imp.some (StepR.brk ⟨t_8, by first | rfl | simp only [evs, tys, evl, elim_inl, elim_inr]⟩)
theorem slices_EqualFunc_Member_imp (s10 : List GMember) (s20 : List GMember) : Imp (slices_EqualFunc_Member_B s10 s20) (slices_EqualFunc_Member_T1 O loopLim s10 s20) (fun r v => v = (slices_EqualFunc_MemberE r, [])) := by
 simp only [slices_EqualFunc_Member_B, slices_EqualFunc_Member_T1]
 try simp only [evs, tys]
 refine Imp.cnd ?_ ?_
 ·exact Imp.some (by first | rfl | simp only [slices_EqualFunc_MemberE, evs, tys, evl])
 ·refine Imp.bnd (Imp.loop (slices_EqualFunc_Member_l1_ok s10 s20) ⟨by first | rfl | simp only [evs, tys, evl], rfl⟩) ?_
  rintro (p | p) vy17 hy17
  ·try simp only [elim_inl, elim_inr]
   obtain ⟨t_15, rfl⟩ := hy17
   refine Imp.exHit rfl (Imp.chk rfl (Imp.chk rfl ?_))
   try simp only [evs, tys]
   exact Imp.some (by first | rfl | simp only [slices_EqualFunc_MemberE, evs, tys, evl])
  ·try simp only [elim_inl, elim_inr]
   obtain ⟨t_16, rfl⟩ := hy17
   refine Imp.exMiss rfl ?_
   refine Imp.exHit rfl (Imp.chk rfl (Imp.chk rfl ?_))
   try simp only [evs, tys]
   exact Imp.some (by first | rfl | simp only [slices_EqualFunc_MemberE, evs, tys, evl])
theorem slices_EqualFunc_Member_run {s10 : List GMember} {s20 : List GMember} {r : Bool} (h : slices_EqualFunc_Member_B s10 s20 = some r) : slices_EqualFunc_Member s10 s20 = some r := by
 obtain ⟨v, hv, rfl⟩ := slices_EqualFunc_Member_imp s10 s20 r h
 exact tO_of (pair_inj slices_EqualFunc_MemberEj) (OL_runD slices_EqualFunc_Member_ds rfl rfl Try.func84 ((slices_EqualFunc_Member_t1 _ _ s10 s20).trans hv))
def value_Same_T1 (O : Orc) (LP : LBody → LBody) (a : GValue) (b : GValue) : Option (PV × UP) :=
 cnd (a.kind == b.kind)
 (cnd (a.n == b.n)
 (cnd (a.s == b.s)
 (callp O 83 [(.slice (List.map encValue a.l) [] false), (.slice (List.map encValue b.l) [] false), (.func (.func 58) [] [])] fun x1 => cnd (chk .bool x1)
 (cnd (boolV x1)
 (callp O 84 [(.slice (List.map encMember a.m) [] false), (.slice (List.map encMember b.m) [] false), (.func (.func 85) [] [])] fun x3 => cnd (chk .bool x3)
 (some ((.bool (boolV x3)), [])) none)
 (some ((.bool false), []))) none)
 (some ((.bool false), [])))
 (some ((.bool false), [])))
 (some ((.bool false), []))
noncomputable def value_Same_B (a : GValue) (b : GValue) : Option Bool :=
 cnd (a.kind == b.kind)
 (cnd (a.n == b.n)
 (cnd (a.s == b.s)
 (bnd (slices_EqualFunc_Value a.l b.l) fun y2 =>
 cnd y2
 (bnd (slices_EqualFunc_Member a.m b.m) fun y4 =>
 some y4)
 (some false))
 (some false))
 (some false))
 (some false)
def value_Same_ds : Decs := { decs := [(29, .bool), (36, .bool)], ups := [], loops := [] }
set_option maxRecDepth 100000 in
theorem value_Same_t1 (O : Orc) (LP : LBody → LBody) (a : GValue) (b : GValue) : evalBodyD Try.prog (MT 58) value_Same_ds Try.f58.ntmps O LP Try.f58 [(.agg [(.int .i64 a.kind), (.int .i64 a.n), (.str a.s), (.slice (List.map encValue a.l) [] false), (.slice (List.map encMember a.m) [] false)]), (.agg [(.int .i64 b.kind), (.int .i64 b.n), (.str b.s), (.slice (List.map encValue b.l) [] false), (.slice (List.map encMember b.m) [] false)])] [] = value_Same_T1 O LP a b := by kernel_rfl
theorem value_Same_imp (a : GValue) (b : GValue) : Imp (value_Same_B a b) (value_Same_T1 O loopLim a b) (fun r v => v = (value_SameE r, [])) := by
 simp only [value_Same_B, value_Same_T1]
 try simp only [evs, tys]
 refine Imp.cnd ?_ ?_
 ·refine Imp.cnd ?_ ?_
  ·refine Imp.cnd ?_ ?_
   ·refine Imp.call (f := slices_EqualFunc_ValueE) rfl (fun a h => by first | exact slices_EqualFunc_Value_spec h | simpa only [evs, tys, evl] using slices_EqualFunc_Value_spec h) (fun a => by first | rfl | simp only [slices_EqualFunc_ValueE, evk, chks]) fun y2 hy2 => ?_
    try simp only [slices_EqualFunc_ValueE, evs, tys]
    refine Imp.cnd ?_ ?_
    ·refine Imp.call (f := slices_EqualFunc_MemberE) rfl (fun a h => by first | exact slices_EqualFunc_Member_spec h | simpa only [evs, tys, evl] using slices_EqualFunc_Member_spec h) (fun a => by first | rfl | simp only [slices_EqualFunc_MemberE, evk, chks]) fun y4 hy4 => ?_
     try simp only [slices_EqualFunc_MemberE, evs, tys]
     exact Imp.some (by first | rfl | simp only [value_SameE, evs, tys, evl])
    ·exact Imp.some (by first | rfl | simp only [value_SameE, evs, tys, evl])
   ·exact Imp.some (by first | rfl | simp only [value_SameE, evs, tys, evl])
  ·exact Imp.some (by first | rfl | simp only [value_SameE, evs, tys, evl])
 ·exact Imp.some (by first | rfl | simp only [value_SameE, evs, tys, evl])
theorem value_Same_run {a : GValue} {b : GValue} {r : Bool} (h : value_Same_B a b = some r) : value_Same a b = some r := by
 obtain ⟨v, hv, rfl⟩ := value_Same_imp a b r h
 exact tO_of (pair_inj value_SameEj) (OL_runD value_Same_ds rfl rfl Try.func58 ((value_Same_t1 _ _ a b).trans hv))
def defs_Leaf_T1 (O : Orc) (LP : LBody → LBody) (s : GSchema) (name : Str) : Option (PV × UP) :=
 callp O 76 [(.agg [(.slice (List.map encDef s.defs) [] false), (.str s.query), (.str s.mutation)]), (.str name), (.slice [(.int .i64 0), (.int .i64 4)] [] false)] fun x1 => cnd (chk .bool x1)
 (some ((.bool (boolV x1)), [])) none
noncomputable def defs_Leaf_B (s : GSchema) (name : Str) : Option Bool :=
 bnd (defs_Kind s name [0, 4]) fun y2 =>
 some y2
def defs_Leaf_ds : Decs := { decs := [(8, .bool)], ups := [], loops := [] }
set_option maxRecDepth 100000 in
theorem defs_Leaf_t1 (O : Orc) (LP : LBody → LBody) (s : GSchema) (name : Str) : evalBodyD Try.prog (MT 61) defs_Leaf_ds Try.f61.ntmps O LP Try.f61 [(.agg [(.slice (List.map encDef s.defs) [] false), (.str s.query), (.str s.mutation)]), (.str name)] [] = defs_Leaf_T1 O LP s name := by kernel_rfl
theorem defs_Leaf_imp (s : GSchema) (name : Str) : Imp (defs_Leaf_B s name) (defs_Leaf_T1 O loopLim s name) (fun r v => v = (defs_LeafE r, [])) := by
 simp only [defs_Leaf_B, defs_Leaf_T1]
 try simp only [evs, tys]
 refine Imp.call (f := defs_KindE) rfl (fun a h => by first | exact defs_Kind_spec h | simpa only [evs, tys, evl] using defs_Kind_spec h) (fun a => by first | rfl | simp only [defs_KindE, evk, chks]) fun y2 hy2 => ?_
 try simp only [defs_KindE, evs, tys]
 exact Imp.some (by first | rfl | simp only [defs_LeafE, evs, tys, evl])
theorem defs_Leaf_run {s : GSchema} {name : Str} {r : Bool} (h : defs_Leaf_B s name = some r) : defs_Leaf s name = some r := by
 obtain ⟨v, hv, rfl⟩ := defs_Leaf_imp s name r h
 exact tO_of (pair_inj defs_LeafEj) (OL_runD defs_Leaf_ds rfl rfl Try.func61 ((defs_Leaf_t1 _ _ s name).trans hv))
def defs_Composite_T1 (O : Orc) (LP : LBody → LBody) (s : GSchema) (name : Str) : Option (PV × UP) :=
 callp O 76 [(.agg [(.slice (List.map encDef s.defs) [] false), (.str s.query), (.str s.mutation)]), (.str name), (.slice [(.int .i64 1), (.int .i64 2), (.int .i64 3)] [] false)] fun x1 => cnd (chk .bool x1)
 (some ((.bool (boolV x1)), [])) none
noncomputable def defs_Composite_B (s : GSchema) (name : Str) : Option Bool :=
 bnd (defs_Kind s name [1, 2, 3]) fun y2 =>
 some y2
def defs_Composite_ds : Decs := { decs := [(8, .bool)], ups := [], loops := [] }
set_option maxRecDepth 100000 in
theorem defs_Composite_t1 (O : Orc) (LP : LBody → LBody) (s : GSchema) (name : Str) : evalBodyD Try.prog (MT 62) defs_Composite_ds Try.f62.ntmps O LP Try.f62 [(.agg [(.slice (List.map encDef s.defs) [] false), (.str s.query), (.str s.mutation)]), (.str name)] [] = defs_Composite_T1 O LP s name := by kernel_rfl
theorem defs_Composite_imp (s : GSchema) (name : Str) : Imp (defs_Composite_B s name) (defs_Composite_T1 O loopLim s name) (fun r v => v = (defs_CompositeE r, [])) := by
 simp only [defs_Composite_B, defs_Composite_T1]
 try simp only [evs, tys]
 refine Imp.call (f := defs_KindE) rfl (fun a h => by first | exact defs_Kind_spec h | simpa only [evs, tys, evl] using defs_Kind_spec h) (fun a => by first | rfl | simp only [defs_KindE, evk, chks]) fun y2 hy2 => ?_
 try simp only [defs_KindE, evs, tys]
 exact Imp.some (by first | rfl | simp only [defs_CompositeE, evs, tys, evl])
theorem defs_Composite_run {s : GSchema} {name : Str} {r : Bool} (h : defs_Composite_B s name = some r) : defs_Composite s name = some r := by
 obtain ⟨v, hv, rfl⟩ := defs_Composite_imp s name r h
 exact tO_of (pair_inj defs_CompositeEj) (OL_runD defs_Composite_ds rfl rfl Try.func62 ((defs_Composite_t1 _ _ s name).trans hv))
def defs_Find_l1 (O : Orc) (LP : LBody → LBody) : LBody := fun s3 s3u => cnd (chkL [.str, (.ptr 0 4 0), .bool, (.sl false), (.int .i64), (.int .i64), (.int .i64), .str, (.sl true), (.sl true), (.sl true), (.sl true), (.sl false), .str, .str] s3) (cnd (chkU [] s3u)
 (cnd (decide ((intV (gt s3 5)) < (intV (gt s3 4))))
 (bnd (ix 6 (.slice (esV (gt s3 3)) [] false) (.int .i64 (intV (gt s3 5)))) fun x7 => cnd (chk (.ref shDef) x7)
 (cnd ((strV (gt (aggV (refV x7)) 1)) == (strV (gt s3 0)))
 (some (.ret, [(.str (strV (gt s3 0))), (.ptr 0 4 0), (.bool true), (.slice (esV (gt s3 3)) [] false), (.int .i64 (intV (gt s3 4))), (.int .i64 (intV (gt s3 5))), (.int .i64 (intV (gt (aggV (refV x7)) 0))), (.str (strV (gt (aggV (refV x7)) 1))), (.slice (esV (gt (aggV (refV x7)) 2)) [] false), (.slice (esV (gt (aggV (refV x7)) 3)) [] false), (.slice (esV (gt (aggV (refV x7)) 4)) [] false), (.slice (esV (gt (aggV (refV x7)) 5)) [] false), (.slice (esV (gt s3 12)) [] false), (.str (strV (gt s3 13))), (.str (strV (gt s3 14)))], []))
 (some (.nrm, [(.str (strV (gt s3 0))), (.ptr 0 4 0), (.bool (boolV (gt s3 2))), (.slice (esV (gt s3 3)) [] false), (.int .i64 (intV (gt s3 4))), (.int .i64 (IntKind.wrap .i64 ((intV (gt s3 5)) + 1))), (.int .i64 (intV (gt s3 6))), (.str (strV (gt s3 7))), (.slice (esV (gt s3 8)) [] true), (.slice (esV (gt s3 9)) [] true), (.slice (esV (gt s3 10)) [] true), (.slice (esV (gt s3 11)) [] true), (.slice (esV (gt s3 12)) [] false), (.str (strV (gt s3 13))), (.str (strV (gt s3 14)))], []))) none)
 (some (.brk 0, [(.str (strV (gt s3 0))), (.ptr 0 4 0), (.bool (boolV (gt s3 2))), (.slice (esV (gt s3 3)) [] false), (.int .i64 (intV (gt s3 4))), (.int .i64 (intV (gt s3 5))), (.int .i64 (intV (gt s3 6))), (.str (strV (gt s3 7))), (.slice (esV (gt s3 8)) [] true), (.slice (esV (gt s3 9)) [] true), (.slice (esV (gt s3 10)) [] true), (.slice (esV (gt s3 11)) [] true), (.slice (esV (gt s3 12)) [] false), (.str (strV (gt s3 13))), (.str (strV (gt s3 14)))], []))) none) none
def defs_Find_T1 (O : Orc) (LP : LBody → LBody) (s : GSchema) (name : Str) : Option (PV × UP) :=
 callp O 89 [(.str name)] fun x1 => cnd (chk .bool x1)
 (cnd (boolV x1)
 (some ((.tuple [(.agg [(.int .i64 0), (.str name), (.slice [] [] false), (.slice [] [] false), (.slice [] [] false), (.slice [] [] false)]), (.bool true)]), []))
 (bnd (LP (defs_Find_l1 O LP) [(.str name), (.ptr 0 4 0), (.bool false), (.slice (List.map encDef s.defs) [] false), (.int .i64 (List.length (List.map encDef s.defs) : Int)), (.int .i64 0), (.int .i64 0), (.str []), (.slice [] [] true), (.slice [] [] true), (.slice [] [] true), (.slice [] [] true), (.slice (List.map encDef s.defs) [] false), (.str s.query), (.str s.mutation)] []) fun y17 =>
 exIs y17.1 (some 0) (cnd (chkL [.str, (.ptr 0 4 0), .bool, (.sl false), (.int .i64), (.int .i64), (.int .i64), .str, (.sl true), (.sl true), (.sl true), (.sl true), (.sl false), .str, .str] y17.2.1) (cnd (chkU [] y17.2.2)
 (some ((.tuple [(.agg [(.int .i64 0), (.str []), (.slice [] [] false), (.slice [] [] false), (.slice [] [] false), (.slice [] [] false)]), (.bool false)]), [])) none) none)
 (exIs y17.1 none (cnd (chkL [.str, (.ptr 0 4 0), .bool, (.sl false), (.int .i64), (.int .i64), (.int .i64), .str, (.sl false), (.sl false), (.sl false), (.sl false), (.sl false), .str, .str] y17.2.1) (cnd (chkU [] y17.2.2)
 (some ((.tuple [(.agg [(.int .i64 (intV (gt y17.2.1 6))), (.str (strV (gt y17.2.1 7))), (.slice (esV (gt y17.2.1 8)) [] false), (.slice (esV (gt y17.2.1 9)) [] false), (.slice (esV (gt y17.2.1 10)) [] false), (.slice (esV (gt y17.2.1 11)) [] false)]), (.bool (boolV (gt y17.2.1 2)))]), [])) none) none)
 (none)))) none
noncomputable def defs_Find_l1T (s : GSchema) (name : Str) : Int → Option (Int ⊕ (Unit ⊕ (Int × Str × (List Str) × (List GFieldDef) × (List Str) × (List GParam))))
 | t_6 =>
 cnd (decide (t_6 < (List.length s.defs : Int)))
  (bnd (nthI s.defs t_6) fun y8 =>
  cnd (y8.name == name)
  (some (.inr (.inr (y8.kind, y8.name, y8.faces, y8.fields, y8.parts, y8.params))))
  (some (.inl (IntKind.wrap .i64 (t_6 + 1)))))
  (some (.inr (.inl ())))
abbrev defs_Find_l1R (s : GSchema) (name : Str) (st : Int) (l : List PV) (u : UP) : Prop := l = [(.str name), (.ptr 0 4 0), (.bool false), (.slice (List.map encDef s.defs) [] false), (.int .i64 (List.length s.defs : Int)), (.int .i64 st), (.int .i64 0), (.str []), (.slice [] [] true), (.slice [] [] true), (.slice [] [] true), (.slice [] [] true), (.slice (List.map encDef s.defs) [] false), (.str s.query), (.str s.mutation)] ∧ u = []
abbrev defs_Find_l1X (s : GSchema) (name : Str) (p : Unit ⊕ (Int × Str × (List Str) × (List GFieldDef) × (List Str) × (List GParam))) (r : Ex × List PV × UP) : Prop := elim p (fun (p : Unit) => ∃ (t_9 : Int), r = (Ex.brk 0, [(.str name), (.ptr 0 4 0), (.bool false), (.slice (List.map encDef s.defs) [] false), (.int .i64 (List.length s.defs : Int)), (.int .i64 t_9), (.int .i64 0), (.str []), (.slice [] [] true), (.slice [] [] true), (.slice [] [] true), (.slice [] [] true), (.slice (List.map encDef s.defs) [] false), (.str s.query), (.str s.mutation)], [])) (fun q2 => (fun (p : Int × Str × (List Str) × (List GFieldDef) × (List Str) × (List GParam)) => ∃ (t_10 : Int), r = (Ex.ret, [(.str name), (.ptr 0 4 0), (.bool true), (.slice (List.map encDef s.defs) [] false), (.int .i64 (List.length s.defs : Int)), (.int .i64 t_10), (.int .i64 p.1), (.str p.2.1), (.slice (List.map PV.str p.2.2.1) [] false), (.slice (List.map encFieldDef p.2.2.2.1) [] false), (.slice (List.map PV.str p.2.2.2.2.1) [] false), (.slice (List.map encParam p.2.2.2.2.2) [] false), (.slice (List.map encDef s.defs) [] false), (.str s.query), (.str s.mutation)], [])) q2)
noncomputable def defs_Find_B (s : GSchema) (name : Str) : Option (GDef × Bool) :=
 bnd (defs_scalar name) fun y2 =>
 cnd y2
 (some ((GDef.mk 0 name ([] : List Str) ([] : List GFieldDef) ([] : List Str) ([] : List GParam)), true))
 (bnd (tloop (defs_Find_l1T s name) 0) fun e17_2 => elim e17_2
 (fun p17 =>
 some ((GDef.mk 0 [] ([] : List Str) ([] : List GFieldDef) ([] : List Str) ([] : List GParam)), false))
 (fun p17 =>
 some ((GDef.mk p17.1 p17.2.1 p17.2.2.1 p17.2.2.2.1 p17.2.2.2.2.1 p17.2.2.2.2.2), true)))
def defs_Find_ds : Decs := { decs := [(9, .bool), (17, (.ref shDef))], ups := [], loops := [(4, [(4, 6), (2, 3)], ⟨[.str, (.ptr 0 4 0), .bool, (.sl false), (.int .i64), (.int .i64), (.int .i64), .str, (.sl true), (.sl true), (.sl true), (.sl true), (.sl false), .str, .str], [], [(some 0, [.str, (.ptr 0 4 0), .bool, (.sl false), (.int .i64), (.int .i64), (.int .i64), .str, (.sl true), (.sl true), (.sl true), (.sl true), (.sl false), .str, .str], []), (none, [.str, (.ptr 0 4 0), .bool, (.sl false), (.int .i64), (.int .i64), (.int .i64), .str, (.sl false), (.sl false), (.sl false), (.sl false), (.sl false), .str, .str], [])]⟩)] }
set_option maxRecDepth 100000 in
theorem defs_Find_t1 (O : Orc) (LP : LBody → LBody) (s : GSchema) (name : Str) : evalBodyD Try.prog (MT 74) defs_Find_ds Try.f74.ntmps O LP Try.f74 [(.agg [(.slice (List.map encDef s.defs) [] false), (.str s.query), (.str s.mutation)]), (.str name)] [] = defs_Find_T1 O LP s name := by kernel_rfl
theorem defs_Find_l1_ok (s : GSchema) (name : Str) : ∀ st l u, defs_Find_l1R s name st l u → Imp (defs_Find_l1T s name st) (defs_Find_l1 O loopLim l u) (StepR (defs_Find_l1R s name) (defs_Find_l1X s name)) := by
 rintro t_6 l u ⟨rfl, rfl⟩
 simp only [defs_Find_l1T, defs_Find_l1]
 refine Imp.chk rfl (Imp.chk rfl ?_)
 try simp only [evs, tys]
 refine Imp.cnd ?_ ?_
 ·refine Imp.op (f := fun a => .ref (encDef a)) (fun a h => op_ix (enc := encDef) (by first | rfl | simp only [evs, tys, evl]) ⟨by first | rfl | simp only [evs, tys, evc], by decide⟩ h) (fun a => chk_GDef a) fun y8 hy8 => ?_
  try simp only [evs, tys]
  refine Imp.cnd ?_ ?_
  ·exact Imp.some (StepR.ret ⟨t_6, by first | rfl | simp only [evs, tys, evl, elim_inl, elim_inr]⟩)
  ·exact Imp.some (StepR.next ⟨by first | rfl | simp only [evs, tys, evl], rfl⟩)
 ·exact Imp.some (StepR.brk ⟨t_6, by first | rfl | simp only [evs, tys, evl, elim_inl, elim_inr]⟩)
theorem defs_Find_imp (s : GSchema) (name : Str) : Imp (defs_Find_B s name) (defs_Find_T1 O loopLim s name) (fun r v => v = (defs_FindE r, [])) := by
 simp only [defs_Find_B, defs_Find_T1]
 try simp only [evs, tys]
 refine Imp.call (f := defs_scalarE) rfl (fun a h => by first | exact defs_scalar_spec h | simpa only [evs, tys, evl] using defs_scalar_spec h) (fun a => by first | rfl | simp only [defs_scalarE, evk, chks]) fun y2 hy2 => ?_
 try simp only [defs_scalarE, evs, tys]
 refine Imp.cnd ?_ ?_
 ·exact Imp.some (by first | rfl | simp only [defs_FindE, evs, tys, evl])
 ·refine Imp.bnd (Imp.loop (defs_Find_l1_ok s name) ⟨by first | rfl | simp only [evs, tys, evl], rfl⟩) ?_
  rintro (p | ⟨b_11, b_12, b_13, b_14, b_15, b_16⟩) vy17 hy17
  ·try simp only [elim_inl, elim_inr]
   obtain ⟨t_9, rfl⟩ := hy17
   refine Imp.exHit rfl (Imp.chk rfl (Imp.chk rfl ?_))
   try simp only [evs, tys]
   exact Imp.some (by first | rfl | simp only [defs_FindE, evs, tys, evl])
  ·try simp only [elim_inl, elim_inr]
   obtain ⟨t_10, rfl⟩ := hy17
   refine Imp.exMiss rfl ?_
   refine Imp.exHit rfl (Imp.chk rfl (Imp.chk rfl ?_))
   try simp only [evs, tys]
   exact Imp.some (by first | rfl | simp only [defs_FindE, evs, tys, evl])
theorem defs_Find_run {s : GSchema} {name : Str} {r : GDef × Bool} (h : defs_Find_B s name = some r) : defs_Find s name = some r := by
 obtain ⟨v, hv, rfl⟩ := defs_Find_imp s name r h
 exact tO_of (pair_inj defs_FindEj) (OL_runD defs_Find_ds rfl rfl Try.func74 ((defs_Find_t1 _ _ s name).trans hv))
def slices_Contains_int_int_T1 (O : Orc) (LP : LBody → LBody) (s : List Int) (v0 : Int) : Option (PV × UP) :=
 callp O 98 [(.slice (List.map (PV.int .i64) s) [] false), (.int .i64 v0)] fun x1 => cnd (chk (.int .i64) x1)
 (some ((.bool (decide ((intV x1) ≥ 0))), [])) none
noncomputable def slices_Contains_int_int_B (s : List Int) (v0 : Int) : Option Bool :=
 bnd (slices_Index_int_int s v0) fun y2 =>
 some (decide (y2 ≥ 0))
def slices_Contains_int_int_ds : Decs := { decs := [(7, (.int .i64))], ups := [], loops := [] }
set_option maxRecDepth 100000 in
theorem slices_Contains_int_int_t1 (O : Orc) (LP : LBody → LBody) (s : List Int) (v0 : Int) : evalBodyD Try.prog (MT 90) slices_Contains_int_int_ds Try.f90.ntmps O LP Try.f90 [(.slice (List.map (PV.int .i64) s) [] false), (.int .i64 v0)] [] = slices_Contains_int_int_T1 O LP s v0 := by kernel_rfl
theorem slices_Contains_int_int_imp (s : List Int) (v0 : Int) : Imp (slices_Contains_int_int_B s v0) (slices_Contains_int_int_T1 O loopLim s v0) (fun r v => v = (slices_Contains_int_intE r, [])) := by
 simp only [slices_Contains_int_int_B, slices_Contains_int_int_T1]
 try simp only [evs, tys]
 refine Imp.call (f := slices_Index_int_intE) rfl (fun a h => by first | exact slices_Index_int_int_spec h | simpa only [evs, tys, evl] using slices_Index_int_int_spec h) (fun a => by first | rfl | simp only [slices_Index_int_intE, evk, chks]) fun y2 hy2 => ?_
 try simp only [slices_Index_int_intE, evs, tys]
 exact Imp.some (by first | rfl | simp only [slices_Contains_int_intE, evs, tys, evl])
theorem slices_Contains_int_int_run {s : List Int} {v0 : Int} {r : Bool} (h : slices_Contains_int_int_B s v0 = some r) : slices_Contains_int_int s v0 = some r := by
 obtain ⟨v, hv, rfl⟩ := slices_Contains_int_int_imp s v0 r h
 exact tO_of (pair_inj slices_Contains_int_intEj) (OL_runD slices_Contains_int_int_ds rfl rfl Try.func90 ((slices_Contains_int_int_t1 _ _ s v0).trans hv))
def seinelaw19_world_T1 (O : Orc) (LP : LBody → LBody) : Option (PV × UP) :=
 some ((.agg [(.slice [(.agg [(.int .i64 1), (.str [81]), (.slice [] [] false), (.slice [(.agg [(.str [98]), (.slice [] [] false), (.str [73, 110, 116]), (.int .i64 0), (.int .i64 0), (.slice [] [] false)]), (.agg [(.str [99]), (.slice [] [] false), (.str [73, 110, 116]), (.int .i64 0), (.int .i64 0), (.slice [] [] false)])] [] false), (.slice [] [] false), (.slice [] [] false)])] [] false), (.str [81]), (.str [])]), [])
noncomputable def seinelaw19_world_B : Option GSchema :=
 some (GSchema.mk [(GDef.mk 1 [81] ([] : List Str) [(GFieldDef.mk [98] ([] : List GParam) (GType.mk [73, 110, 116] 0 0) ([] : List GDir)), (GFieldDef.mk [99] ([] : List GParam) (GType.mk [73, 110, 116] 0 0) ([] : List GDir))] ([] : List Str) ([] : List GParam))] [81] [])
def seinelaw19_world_ds : Decs := { decs := [], ups := [], loops := [] }
set_option maxRecDepth 100000 in
theorem seinelaw19_world_t1 (O : Orc) (LP : LBody → LBody) : evalBodyD Try.prog (MT 56) seinelaw19_world_ds Try.f56.ntmps O LP Try.f56 [] [] = seinelaw19_world_T1 O LP := by kernel_rfl
theorem seinelaw19_world_imp : Imp (seinelaw19_world_B) (seinelaw19_world_T1 O loopLim) (fun r v => v = (seinelaw19_worldE r, [])) := by
 simp only [seinelaw19_world_B, seinelaw19_world_T1]
 try simp only [evs, tys]
 exact Imp.some (by first | rfl | simp only [seinelaw19_worldE, evs, tys, evl])
theorem seinelaw19_world_run {r : GSchema} (h : seinelaw19_world_B = some r) : seinelaw19_world = some r := by
 obtain ⟨v, hv, rfl⟩ := seinelaw19_world_imp r h
 exact tO_of (pair_inj seinelaw19_worldEj) (OL_runD seinelaw19_world_ds rfl rfl Try.func56 ((seinelaw19_world_t1 _ _).trans hv))
def merge_Key_T1 (O : Orc) (LP : LBody → LBody) (x : GSel) : Option (PV × UP) :=
 cnd (x.kind != 0)
 (some ((.str []), []))
 (cnd (!(x.alias == ([] : Str)))
 (some ((.str x.alias), []))
 (some ((.str x.name), [])))
noncomputable def merge_Key_B (x : GSel) : Option Str :=
 cnd (x.kind != 0)
 (some [])
 (cnd (!(x.alias == ([] : Str)))
 (some x.alias)
 (some x.name))
def merge_Key_ds : Decs := { decs := [], ups := [], loops := [] }
set_option maxRecDepth 100000 in
theorem merge_Key_t1 (O : Orc) (LP : LBody → LBody) (x : GSel) : evalBodyD Try.prog (MT 21) merge_Key_ds Try.f21.ntmps O LP Try.f21 [(.agg [(.int .i64 x.kind), (.str x.alias), (.str x.name), (.slice (List.map encMember x.args) [] false), (.slice (List.map encDir x.dirs) [] false), (.str x.on_), (.slice (List.map encSel x.sels) [] false)])] [] = merge_Key_T1 O LP x := by kernel_rfl
theorem merge_Key_imp (x : GSel) : Imp (merge_Key_B x) (merge_Key_T1 O loopLim x) (fun r v => v = (merge_KeyE r, [])) := by
 simp only [merge_Key_B, merge_Key_T1]
 try simp only [evs, tys]
 refine Imp.cnd ?_ ?_
 ·exact Imp.some (by first | rfl | simp only [merge_KeyE, evs, tys, evl])
 ·refine Imp.cnd ?_ ?_
  ·exact Imp.some (by first | rfl | simp only [merge_KeyE, evs, tys, evl])
  ·exact Imp.some (by first | rfl | simp only [merge_KeyE, evs, tys, evl])
theorem merge_Key_run {x : GSel} {r : Str} (h : merge_Key_B x = some r) : merge_Key x = some r := by
 obtain ⟨v, hv, rfl⟩ := merge_Key_imp x r h
 exact tO_of (pair_inj merge_KeyEj) (OL_runD merge_Key_ds rfl rfl Try.func21 ((merge_Key_t1 _ _ x).trans hv))
def value_Same_1_T1 (O : Orc) (LP : LBody → LBody) (x : GMember) (y : GMember) : Option (PV × UP) :=
 cnd (x.name == y.name)
 (callp O 58 [(.agg [(.int .i64 x.v.kind), (.int .i64 x.v.n), (.str x.v.s), (.slice (List.map encValue x.v.l) [] false), (.slice (List.map encMember x.v.m) [] false)]), (.agg [(.int .i64 y.v.kind), (.int .i64 y.v.n), (.str y.v.s), (.slice (List.map encValue y.v.l) [] false), (.slice (List.map encMember y.v.m) [] false)])] fun x1 => cnd (chk .bool x1)
 (some ((.bool (boolV x1)), [])) none)
 (some ((.bool false), []))
noncomputable def value_Same_1_B (x : GMember) (y : GMember) : Option Bool :=
 cnd (x.name == y.name)
 (bnd (value_Same x.v y.v) fun y2 =>
 some y2)
 (some false)
def value_Same_1_ds : Decs := { decs := [(15, .bool)], ups := [], loops := [] }
set_option maxRecDepth 100000 in
theorem value_Same_1_t1 (O : Orc) (LP : LBody → LBody) (x : GMember) (y : GMember) : evalBodyD Try.prog (MT 85) value_Same_1_ds Try.f85.ntmps O LP Try.f85 [(.agg [(.str x.name), (.int .i64 x.v.kind), (.int .i64 x.v.n), (.str x.v.s), (.slice (List.map encValue x.v.l) [] false), (.slice (List.map encMember x.v.m) [] false)]), (.agg [(.str y.name), (.int .i64 y.v.kind), (.int .i64 y.v.n), (.str y.v.s), (.slice (List.map encValue y.v.l) [] false), (.slice (List.map encMember y.v.m) [] false)])] [] = value_Same_1_T1 O LP x y := by kernel_rfl
theorem value_Same_1_imp (x : GMember) (y : GMember) : Imp (value_Same_1_B x y) (value_Same_1_T1 O loopLim x y) (fun r v => v = (value_Same_1E r, [])) := by
 simp only [value_Same_1_B, value_Same_1_T1]
 try simp only [evs, tys]
 refine Imp.cnd ?_ ?_
 ·refine Imp.call (f := value_SameE) rfl (fun a h => by first | exact value_Same_spec h | simpa only [evs, tys, evl] using value_Same_spec h) (fun a => by first | rfl | simp only [value_SameE, evk, chks]) fun y2 hy2 => ?_
  try simp only [value_SameE, evs, tys]
  exact Imp.some (by first | rfl | simp only [value_Same_1E, evs, tys, evl])
 ·exact Imp.some (by first | rfl | simp only [value_Same_1E, evs, tys, evl])
theorem value_Same_1_run {x : GMember} {y : GMember} {r : Bool} (h : value_Same_1_B x y = some r) : value_Same_1 x y = some r := by
 obtain ⟨v, hv, rfl⟩ := value_Same_1_imp x y r h
 exact tO_of (pair_inj value_Same_1Ej) (OL_runD value_Same_1_ds rfl rfl Try.func85 ((value_Same_1_t1 _ _ x y).trans hv))
def defs_scalar_T1 (O : Orc) (LP : LBody → LBody) (name : Str) : Option (PV × UP) :=
 cnd (name == ([73, 110, 116] : Str))
 (some ((.bool true), []))
 (cnd (name == ([83, 116, 114, 105, 110, 103] : Str))
 (some ((.bool true), []))
 (cnd (name == ([66, 111, 111, 108, 101, 97, 110] : Str))
 (some ((.bool true), []))
 (some ((.bool (name == ([73, 68] : Str))), []))))
noncomputable def defs_scalar_B (name : Str) : Option Bool :=
 cnd (name == ([73, 110, 116] : Str))
 (some true)
 (cnd (name == ([83, 116, 114, 105, 110, 103] : Str))
 (some true)
 (cnd (name == ([66, 111, 111, 108, 101, 97, 110] : Str))
 (some true)
 (some (name == ([73, 68] : Str)))))
def defs_scalar_ds : Decs := { decs := [], ups := [], loops := [] }
set_option maxRecDepth 100000 in
theorem defs_scalar_t1 (O : Orc) (LP : LBody → LBody) (name : Str) : evalBodyD Try.prog (MT 89) defs_scalar_ds Try.f89.ntmps O LP Try.f89 [(.str name)] [] = defs_scalar_T1 O LP name := by kernel_rfl
theorem defs_scalar_imp (name : Str) : Imp (defs_scalar_B name) (defs_scalar_T1 O loopLim name) (fun r v => v = (defs_scalarE r, [])) := by
 simp only [defs_scalar_B, defs_scalar_T1]
 try simp only [evs, tys]
 refine Imp.cnd ?_ ?_
 ·exact Imp.some (by first | rfl | simp only [defs_scalarE, evs, tys, evl])
 ·refine Imp.cnd ?_ ?_
  ·exact Imp.some (by first | rfl | simp only [defs_scalarE, evs, tys, evl])
  ·refine Imp.cnd ?_ ?_
   ·exact Imp.some (by first | rfl | simp only [defs_scalarE, evs, tys, evl])
   ·exact Imp.some (by first | rfl | simp only [defs_scalarE, evs, tys, evl])
theorem defs_scalar_run {name : Str} {r : Bool} (h : defs_scalar_B name = some r) : defs_scalar name = some r := by
 obtain ⟨v, hv, rfl⟩ := defs_scalar_imp name r h
 exact tO_of (pair_inj defs_scalarEj) (OL_runD defs_scalar_ds rfl rfl Try.func89 ((defs_scalar_t1 _ _ name).trans hv))
def slices_Index_int_int_l1 (O : Orc) (LP : LBody → LBody) : LBody := fun s1 s1u => cnd (chkL [(.sl false), (.int .i64), (.int .i64), (.int .i64), (.int .i64)] s1) (cnd (chkU [] s1u)
 (cnd (decide ((intV (gt s1 4)) < (intV (gt s1 3))))
 (bnd (ix 1 (.slice (esV (gt s1 0)) [] false) (.int .i64 (intV (gt s1 4)))) fun x5 => cnd (chk (.ref (.int .i64)) x5)
 (cnd ((intV (gt s1 1)) == (intV (refV x5)))
 (some (.ret, [(.slice (esV (gt s1 0)) [] false), (.int .i64 (intV (gt s1 1))), (.int .i64 (intV (gt s1 4))), (.int .i64 (intV (gt s1 3))), (.int .i64 (intV (gt s1 4)))], []))
 (some (.nrm, [(.slice (esV (gt s1 0)) [] false), (.int .i64 (intV (gt s1 1))), (.int .i64 (intV (gt s1 2))), (.int .i64 (intV (gt s1 3))), (.int .i64 (IntKind.wrap .i64 ((intV (gt s1 4)) + 1)))], []))) none)
 (some (.brk 0, [(.slice (esV (gt s1 0)) [] false), (.int .i64 (intV (gt s1 1))), (.int .i64 (intV (gt s1 2))), (.int .i64 (intV (gt s1 3))), (.int .i64 (intV (gt s1 4)))], []))) none) none
def slices_Index_int_int_T1 (O : Orc) (LP : LBody → LBody) (s : List Int) (v0 : Int) : Option (PV × UP) :=
 bnd (LP (slices_Index_int_int_l1 O LP) [(.slice (List.map (PV.int .i64) s) [] false), (.int .i64 v0), (.int .i64 0), (.int .i64 (List.length (List.map (PV.int .i64) s) : Int)), (.int .i64 0)] []) fun y10 =>
 exIs y10.1 (some 0) (cnd (chkL [(.sl false), (.int .i64), (.int .i64), (.int .i64), (.int .i64)] y10.2.1) (cnd (chkU [] y10.2.2)
 (some ((.int .i64 (-1)), [])) none) none)
 (exIs y10.1 none (cnd (chkL [(.sl false), (.int .i64), (.int .i64), (.int .i64), (.int .i64)] y10.2.1) (cnd (chkU [] y10.2.2)
 (some ((.int .i64 (intV (gt y10.2.1 2))), [])) none) none)
 (none))
noncomputable def slices_Index_int_int_l1T (s : List Int) (v0 : Int) : Int → Option (Int ⊕ (Unit ⊕ Int))
 | t_4 =>
 cnd (decide (t_4 < (List.length s : Int)))
  (bnd (nthI s t_4) fun y6 =>
  cnd (v0 == y6)
  (some (.inr (.inr t_4)))
  (some (.inl (IntKind.wrap .i64 (t_4 + 1)))))
  (some (.inr (.inl ())))
abbrev slices_Index_int_int_l1R (s : List Int) (v0 : Int) (st : Int) (l : List PV) (u : UP) : Prop := l = [(.slice (List.map (PV.int .i64) s) [] false), (.int .i64 v0), (.int .i64 0), (.int .i64 (List.length s : Int)), (.int .i64 st)] ∧ u = []
abbrev slices_Index_int_int_l1X (s : List Int) (v0 : Int) (p : Unit ⊕ Int) (r : Ex × List PV × UP) : Prop := elim p (fun (p : Unit) => ∃ (t_7 : Int), r = (Ex.brk 0, [(.slice (List.map (PV.int .i64) s) [] false), (.int .i64 v0), (.int .i64 0), (.int .i64 (List.length s : Int)), (.int .i64 t_7)], [])) (fun q2 => (fun (p : Int) => ∃ (t_9 : Int), r = (Ex.ret, [(.slice (List.map (PV.int .i64) s) [] false), (.int .i64 v0), (.int .i64 p), (.int .i64 (List.length s : Int)), (.int .i64 t_9)], [])) q2)
noncomputable def slices_Index_int_int_B (s : List Int) (v0 : Int) : Option Int :=
 bnd (tloop (slices_Index_int_int_l1T s v0) 0) fun e10_2 => elim e10_2
 (fun p10 =>
 some (-1))
 (fun t_8 =>
 some t_8)
def slices_Index_int_int_ds : Decs := { decs := [(14, (.ref (.int .i64)))], ups := [], loops := [(2, [], ⟨[(.sl false), (.int .i64), (.int .i64), (.int .i64), (.int .i64)], [], [(some 0, [(.sl false), (.int .i64), (.int .i64), (.int .i64), (.int .i64)], []), (none, [(.sl false), (.int .i64), (.int .i64), (.int .i64), (.int .i64)], [])]⟩)] }
set_option maxRecDepth 100000 in
theorem slices_Index_int_int_t1 (O : Orc) (LP : LBody → LBody) (s : List Int) (v0 : Int) : evalBodyD Try.prog (MT 98) slices_Index_int_int_ds Try.f98.ntmps O LP Try.f98 [(.slice (List.map (PV.int .i64) s) [] false), (.int .i64 v0)] [] = slices_Index_int_int_T1 O LP s v0 := by kernel_rfl
theorem slices_Index_int_int_l1_ok (s : List Int) (v0 : Int) : ∀ st l u, slices_Index_int_int_l1R s v0 st l u → Imp (slices_Index_int_int_l1T s v0 st) (slices_Index_int_int_l1 O loopLim l u) (StepR (slices_Index_int_int_l1R s v0) (slices_Index_int_int_l1X s v0)) := by
 rintro t_4 l u ⟨rfl, rfl⟩
 simp only [slices_Index_int_int_l1T, slices_Index_int_int_l1]
 refine Imp.chk rfl (Imp.chk rfl ?_)
 try simp only [evs, tys]
 refine Imp.cnd ?_ ?_
 ·refine Imp.op (f := fun a => .ref ((PV.int .i64) a)) (fun a h => op_ix (enc := (PV.int .i64)) (by first | rfl | simp only [evs, tys, evl]) ⟨by first | rfl | simp only [evs, tys, evc], by decide⟩ h) (fun a => rfl) fun y6 hy6 => ?_
  try simp only [evs, tys]
  refine Imp.cnd ?_ ?_
  ·exact Imp.some (StepR.ret ⟨t_4, by first | rfl | simp only [evs, tys, evl, elim_inl, elim_inr]⟩)
  ·exact Imp.some (StepR.next ⟨by first | rfl | simp only [evs, tys, evl], rfl⟩)
 ·exact Imp.some (StepR.brk ⟨t_4, by first | rfl | simp only [evs, tys, evl, elim_inl, elim_inr]⟩)
theorem slices_Index_int_int_imp (s : List Int) (v0 : Int) : Imp (slices_Index_int_int_B s v0) (slices_Index_int_int_T1 O loopLim s v0) (fun r v => v = (slices_Index_int_intE r, [])) := by
 simp only [slices_Index_int_int_B, slices_Index_int_int_T1]
 try simp only [evs, tys]
 refine Imp.bnd (Imp.loop (slices_Index_int_int_l1_ok s v0) ⟨by first | rfl | simp only [evs, tys, evl], rfl⟩) ?_
 rintro (p | t_8) vy10 hy10
 ·try simp only [elim_inl, elim_inr]
  obtain ⟨t_7, rfl⟩ := hy10
  refine Imp.exHit rfl (Imp.chk rfl (Imp.chk rfl ?_))
  try simp only [evs, tys]
  exact Imp.some (by first | rfl | simp only [slices_Index_int_intE, evs, tys, evl])
 ·try simp only [elim_inl, elim_inr]
  obtain ⟨t_9, rfl⟩ := hy10
  refine Imp.exMiss rfl ?_
  refine Imp.exHit rfl (Imp.chk rfl (Imp.chk rfl ?_))
  try simp only [evs, tys]
  exact Imp.some (by first | rfl | simp only [slices_Index_int_intE, evs, tys, evl])
theorem slices_Index_int_int_run {s : List Int} {v0 : Int} {r : Int} (h : slices_Index_int_int_B s v0 = some r) : slices_Index_int_int s v0 = some r := by
 obtain ⟨v, hv, rfl⟩ := slices_Index_int_int_imp s v0 r h
 exact tO_of (pair_inj slices_Index_int_intEj) (OL_runD slices_Index_int_int_ds rfl rfl Try.func98 ((slices_Index_int_int_t1 _ _ s v0).trans hv))
end Go.Proofs.Ytfbaogfcpldlnaa

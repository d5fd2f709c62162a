import Derived.Test.YtfbaogfcpldlnaaGa
import Derived.Test.YtfbaogfcpldlnaaEd
import Derived.WalkKit
import Derived.KernelRfl
import Derived.Test.YtfbaogfcpldlnaaGb
set_option linter.unusedVariables false
set_option linter.unusedSimpArgs false
set_option linter.unusedSimpArgs false
open Go Go.Ev Go.Ev.PV
namespace Go.Proofs.Ytfbaogfcpldlnaa
def seinekeep_Dirs_l1 (O : Orc) (LP : LBody → LBody) : LBody := fun s1 s1u => cnd (chkL [(.sl false), (.sl true), (.int .i64)] s1) (cnd (chkU [] s1u)
 (cnd (decide ((intV (gt s1 2)) < (List.length (esV (gt s1 0)) : Int)))
 (bnd (ix 2 (.slice (esV (gt s1 0)) [] false) (.int .i64 (intV (gt s1 2)))) fun x12 => cnd (chk (.ref shDir) x12)
 (bnd (ix 2 (.slice (esV (gt s1 0)) [] false) (.int .i64 (intV (gt s1 2)))) fun x14 => cnd (chk (.ref shDir) x14)
 (callp O 36 [(.slice (esV (gt (aggV (refV x14)) 1)) [] false)] fun x16 => cnd (chk (.sl false) x16)
 (bnd (apd 2 (.slice (esV (gt s1 1)) [] true) (.slice [(.agg [(.str (strV (gt (aggV (refV x12)) 0))), (.slice (esV x16) [] false)])] [] true)) fun x18 => cnd (chk (.sl true) x18)
 (some (.nrm, [(.slice (esV (gt s1 0)) [] false), (.slice (esV x18) [] true), (.int .i64 (IntKind.wrap .i64 ((intV (gt s1 2)) + 1)))], [])) none) none) none) none)
 (some (.brk 0, [(.slice (esV (gt s1 0)) [] false), (.slice (esV (gt s1 1)) [] true), (.int .i64 (intV (gt s1 2)))], []))) none) none
def seinekeep_Dirs_T1 (O : Orc) (LP : LBody → LBody) (l0 : List GDir) : Option (PV × UP) :=
 bnd (LP (seinekeep_Dirs_l1 O LP) [(.slice (List.map encDir l0) [] false), (.slice [] [] true), (.int .i64 0)] []) fun y22 =>
 exIs y22.1 (some 0) (cnd (chkL [(.sl false), (.sl true), (.int .i64)] y22.2.1) (cnd (chkU [] y22.2.2)
 (some ((.slice (esV (gt y22.2.1 1)) [] false), [])) none) none)
 (none)
noncomputable def seinekeep_Dirs_l1T (l0 : List GDir) : ((List GDir) × Int) → Option (((List GDir) × Int) ⊕ ((List GDir)))
 | (out_10, i_11) =>
 cnd (decide (i_11 < (List.length l0 : Int)))
  (bnd (nthI l0 i_11) fun y13 =>
  bnd (nthI l0 i_11) fun y15 =>
  bnd (seinekeep_Members y15.args) fun y17 =>
  bnd (tapp out_10 [(GDir.mk y13.name y17)]) fun y19 =>
  some (.inl (y19, (IntKind.wrap .i64 (i_11 + 1)))))
  (some (.inr out_10))
abbrev seinekeep_Dirs_l1R (l0 : List GDir) (st : (List GDir) × Int) (l : List PV) (u : UP) : Prop := l = [(.slice (List.map encDir l0) [] false), (.slice (List.map encDir st.1) [] true), (.int .i64 st.2)] ∧ u = []
abbrev seinekeep_Dirs_l1X (l0 : List GDir) (p : (List GDir)) (r : Ex × List PV × UP) : Prop := (fun (p : (List GDir)) => ∃ (i_21 : Int), r = (Ex.brk 0, [(.slice (List.map encDir l0) [] false), (.slice (List.map encDir p) [] true), (.int .i64 i_21)], [])) p
noncomputable def seinekeep_Dirs_B (l0 : List GDir) : Option (List GDir) :=
 bnd (tloop (seinekeep_Dirs_l1T l0) ([], 0)) fun out_20 =>
 some out_20
def seinekeep_Dirs_ds : Decs := { decs := [(14, (.ref shDir)), (19, (.ref shDir)), (22, (.sl false)), (25, (.sl true))], ups := [], loops := [(3, [], ⟨[(.sl false), (.sl true), (.int .i64)], [], [(some 0, [(.sl false), (.sl true), (.int .i64)], [])]⟩)] }
set_option maxRecDepth 100000 in
theorem seinekeep_Dirs_t1 (O : Orc) (LP : LBody → LBody) (l0 : List GDir) : evalBodyD Try.prog (MT 37) seinekeep_Dirs_ds Try.f37.ntmps O LP Try.f37 [(.slice (List.map encDir l0) [] false)] [] = seinekeep_Dirs_T1 O LP l0 := by kernel_rfl
theorem seinekeep_Dirs_l1_ok (l0 : List GDir) : ∀ st l u, seinekeep_Dirs_l1R l0 st l u → Imp (seinekeep_Dirs_l1T l0 st) (seinekeep_Dirs_l1 O loopLim l u) (StepR (seinekeep_Dirs_l1R l0) (seinekeep_Dirs_l1X l0)) := by
 rintro ⟨out_10, i_11⟩ l u ⟨rfl, rfl⟩
 simp only [seinekeep_Dirs_l1T, seinekeep_Dirs_l1]
 refine Imp.chk rfl (Imp.chk rfl ?_)
 try simp only [evs, tys]
 refine Imp.cnd ?_ ?_
 ·refine Imp.op (f := fun a => .ref (encDir a)) (fun a h => op_ix (enc := encDir) (by first | rfl | simp only [evs, tys, evl]) ⟨by first | rfl | simp only [evs, tys, evc], by decide⟩ h) (fun a => chk_GDir a) fun y13 hy13 => ?_
  try simp only [evs, tys]
  refine Imp.op (f := fun a => .ref (encDir a)) (fun a h => op_ix (enc := encDir) (by first | rfl | simp only [evs, tys, evl]) ⟨by first | rfl | simp only [evs, tys, evc], by decide⟩ h) (fun a => chk_GDir a) fun y15 hy15 => ?_
  try simp only [evs, tys]
  refine Imp.call (f := seinekeep_MembersE) rfl (fun a h => by first | exact seinekeep_Members_spec h | simpa only [evs, tys, evl] using seinekeep_Members_spec h) (fun a => by first | rfl | simp only [seinekeep_MembersE, evk, chks]) fun y17 hy17 => ?_
  try simp only [seinekeep_MembersE, evs, tys]
  refine Imp.op (f := fun a => .slice (List.map encDir a) [] true) (fun a h => op_apd (enc := encDir) (by first | rfl | simp only [evs, tys, evl]) (by first | rfl | simp only [evs, tys, evl]) (fun a => by first | rfl | simp only [evs, tys, evc]) h) (fun a => rfl) fun y19 hy19 => ?_
  try simp only [evs, tys]
  exact Imp.some (StepR.next ⟨by first | rfl | simp only [evs, tys, evl], rfl⟩)
 ·exact Imp.some (StepR.brk ⟨i_11, by first | rfl | simp only [evs, tys, evl, elim_inl, elim_inr]⟩)
theorem seinekeep_Dirs_imp (l0 : List GDir) : Imp (seinekeep_Dirs_B l0) (seinekeep_Dirs_T1 O loopLim l0) (fun r v => v = (seinekeep_DirsE r, [])) := by
 simp only [seinekeep_Dirs_B, seinekeep_Dirs_T1]
 try simp only [evs, tys]
 refine Imp.bnd (Imp.loop (seinekeep_Dirs_l1_ok l0) ⟨by first | rfl | simp only [evs, tys, evl], rfl⟩) ?_
 rintro out_20 vy22 hy22
 obtain ⟨i_21, rfl⟩ := hy22
 refine Imp.exHit rfl (Imp.chk rfl (Imp.chk rfl ?_))
 try simp only [evs, tys]
 exact Imp.some (by first | rfl | simp only [seinekeep_DirsE, evs, tys, evl])
theorem seinekeep_Dirs_run {l0 : List GDir} {r : List GDir} (h : seinekeep_Dirs_B l0 = some r) : seinekeep_Dirs l0 = some r := by
 obtain ⟨v, hv, rfl⟩ := seinekeep_Dirs_imp l0 r h
 exact tO_of (pair_inj seinekeep_DirsEj) (OL_runD seinekeep_Dirs_ds rfl rfl Try.func37 ((seinekeep_Dirs_t1 _ _ l0).trans hv))
def seineref23_truth_T1 (O : Orc) (LP : LBody → LBody) (env : List GMember) (d : GDir) : Option (PV × UP) :=
 callp O 59 [(.str [105, 102]), (.slice (List.map encMember d.args) [] false)] fun x1 => cnd (chk (.tup [shValue, .bool]) x1)
 (cnd ((intV (gt (aggV (gt (tupV x1) 0)) 0)) == 8)
 (callp O 59 [(.str (strV (gt (aggV (gt (tupV x1) 0)) 2))), (.slice (List.map encMember env) [] false)] fun x3 => cnd (chk (.tup [shValue, .bool]) x3)
 (cnd ((intV (gt (aggV (gt (tupV x3) 0)) 0)) == 1)
 (some ((.bool ((intV (gt (aggV (gt (tupV x3) 0)) 1)) == 1)), []))
 (some ((.bool false), []))) none)
 (cnd ((intV (gt (aggV (gt (tupV x1) 0)) 0)) == 1)
 (some ((.bool ((intV (gt (aggV (gt (tupV x1) 0)) 1)) == 1)), []))
 (some ((.bool false), [])))) none
noncomputable def seineref23_truth_B (env : List GMember) (d : GDir) : Option Bool :=
 bnd (seineref1_Get [105, 102] d.args) fun y2 =>
 cnd (y2.1.kind == 8)
 (bnd (seineref1_Get y2.1.s env) fun y4 =>
 cnd (y4.1.kind == 1)
 (some (y4.1.n == 1))
 (some false))
 (cnd (y2.1.kind == 1)
 (some (y2.1.n == 1))
 (some false))
def seineref23_truth_ds : Decs := { decs := [(10, (.tup [shValue, .bool])), (20, (.tup [shValue, .bool]))], ups := [], loops := [] }
set_option maxRecDepth 100000 in
theorem seineref23_truth_t1 (O : Orc) (LP : LBody → LBody) (env : List GMember) (d : GDir) : evalBodyD Try.prog (MT 39) seineref23_truth_ds Try.f39.ntmps O LP Try.f39 [(.slice (List.map encMember env) [] false), (.agg [(.str d.name), (.slice (List.map encMember d.args) [] false)])] [] = seineref23_truth_T1 O LP env d := by kernel_rfl
theorem seineref23_truth_imp (env : List GMember) (d : GDir) : Imp (seineref23_truth_B env d) (seineref23_truth_T1 O loopLim env d) (fun r v => v = (seineref23_truthE r, [])) := by
 simp only [seineref23_truth_B, seineref23_truth_T1]
 try simp only [evs, tys]
 refine Imp.call (f := seineref1_GetE) rfl (fun a h => by first | exact seineref1_Get_spec h | simpa only [evs, tys, evl] using seineref1_Get_spec h) (fun a => by first | rfl | simp only [seineref1_GetE, evk, chks]) fun y2 hy2 => ?_
 try simp only [seineref1_GetE, evs, tys]
 refine Imp.cnd ?_ ?_
 ·refine Imp.call (f := seineref1_GetE) rfl (fun a h => by first | exact seineref1_Get_spec h | simpa only [evs, tys, evl] using seineref1_Get_spec h) (fun a => by first | rfl | simp only [seineref1_GetE, evk, chks]) fun y4 hy4 => ?_
  try simp only [seineref1_GetE, evs, tys]
  refine Imp.cnd ?_ ?_
  ·exact Imp.some (by first | rfl | simp only [seineref23_truthE, evs, tys, evl])
  ·exact Imp.some (by first | rfl | simp only [seineref23_truthE, evs, tys, evl])
 ·refine Imp.cnd ?_ ?_
  ·exact Imp.some (by first | rfl | simp only [seineref23_truthE, evs, tys, evl])
  ·exact Imp.some (by first | rfl | simp only [seineref23_truthE, evs, tys, evl])
theorem seineref23_truth_run {env : List GMember} {d : GDir} {r : Bool} (h : seineref23_truth_B env d = some r) : seineref23_truth env d = some r := by
 obtain ⟨v, hv, rfl⟩ := seineref23_truth_imp env d r h
 exact tO_of (pair_inj seineref23_truthEj) (OL_runD seineref23_truth_ds rfl rfl Try.func39 ((seineref23_truth_t1 _ _ env d).trans hv))
def seineref1_Members_l1 (O : Orc) (LP : LBody → LBody) : LBody := fun s1 s1u => cnd (chkL [(.sl false), (.sl false), .bool, (.int .i64)] s1) (cnd (chkU [] s1u)
 (cnd (decide ((intV (gt s1 3)) < (List.length (esV (gt s1 0)) : Int)))
 (bnd (ix 6 (.slice (esV (gt s1 0)) [] false) (.int .i64 (intV (gt s1 3)))) fun x13 => cnd (chk (.ref shMember) x13)
 (bnd (ix 6 (.slice (esV (gt s1 1)) [] false) (.int .i64 (intV (gt s1 3)))) fun x15 => cnd (chk (.ref shMember) x15)
 (cnd (!((strV (gt (aggV (refV x13)) 0)) == (strV (gt (aggV (refV x15)) 0))))
 (some (.ret, [(.slice (esV (gt s1 0)) [] false), (.slice (esV (gt s1 1)) [] false), (.bool false), (.int .i64 (intV (gt s1 3)))], []))
 (bnd (ix 6 (.slice (esV (gt s1 0)) [] false) (.int .i64 (intV (gt s1 3)))) fun x17 => cnd (chk (.ref shMember) x17)
 (bnd (ix 6 (.slice (esV (gt s1 1)) [] false) (.int .i64 (intV (gt s1 3)))) fun x19 => cnd (chk (.ref shMember) x19)
 (callp O 60 [(.agg [(.int .i64 (intV (gt (aggV (refV x17)) 1))), (.int .i64 (intV (gt (aggV (refV x17)) 2))), (.str (strV (gt (aggV (refV x17)) 3))), (.slice (esV (gt (aggV (refV x17)) 4)) [] false), (.slice (esV (gt (aggV (refV x17)) 5)) [] false)]), (.agg [(.int .i64 (intV (gt (aggV (refV x19)) 1))), (.int .i64 (intV (gt (aggV (refV x19)) 2))), (.str (strV (gt (aggV (refV x19)) 3))), (.slice (esV (gt (aggV (refV x19)) 4)) [] false), (.slice (esV (gt (aggV (refV x19)) 5)) [] false)])] fun x21 => cnd (chk .bool x21)
 (cnd (!(boolV x21))
 (some (.ret, [(.slice (esV (gt s1 0)) [] false), (.slice (esV (gt s1 1)) [] false), (.bool false), (.int .i64 (intV (gt s1 3)))], []))
 (some (.nrm, [(.slice (esV (gt s1 0)) [] false), (.slice (esV (gt s1 1)) [] false), (.bool (boolV (gt s1 2))), (.int .i64 (IntKind.wrap .i64 ((intV (gt s1 3)) + 1)))], []))) none) none) none)) none) none)
 (some (.brk 0, [(.slice (esV (gt s1 0)) [] false), (.slice (esV (gt s1 1)) [] false), (.bool (boolV (gt s1 2))), (.int .i64 (intV (gt s1 3)))], []))) none) none
def seineref1_Members_T1 (O : Orc) (LP : LBody → LBody) (a : List GMember) (b : List GMember) : Option (PV × UP) :=
 cnd ((List.length (List.map encMember a) : Int) != (List.length (List.map encMember b) : Int))
 (some ((.bool false), []))
 (bnd (LP (seineref1_Members_l1 O LP) [(.slice (List.map encMember a) [] false), (.slice (List.map encMember b) [] false), (.bool false), (.int .i64 0)] []) fun y25 =>
 exIs y25.1 (some 0) (cnd (chkL [(.sl false), (.sl false), .bool, (.int .i64)] y25.2.1) (cnd (chkU [] y25.2.2)
 (some ((.bool true), [])) none) none)
 (exIs y25.1 none (cnd (chkL [(.sl false), (.sl false), .bool, (.int .i64)] y25.2.1) (cnd (chkU [] y25.2.2)
 (some ((.bool (boolV (gt y25.2.1 2))), [])) none) none)
 (none)))
noncomputable def seineref1_Members_l1T (a : List GMember) (b : List GMember) : Int → Option (Int ⊕ (Unit ⊕ Unit))
 | i_12 =>
 cnd (decide (i_12 < (List.length a : Int)))
  (bnd (nthI a i_12) fun y14 =>
  bnd (nthI b i_12) fun y16 =>
  cnd (!(y14.name == y16.name))
  (some (.inr (.inr ())))
  (bnd (nthI a i_12) fun y18 =>
  bnd (nthI b i_12) fun y20 =>
  bnd (seineref1_Same y18.v y20.v) fun y22 =>
  cnd (!y22)
   (some (.inr (.inr ())))
   (some (.inl (IntKind.wrap .i64 (i_12 + 1))))))
  (some (.inr (.inl ())))
abbrev seineref1_Members_l1R (a : List GMember) (b : List GMember) (st : Int) (l : List PV) (u : UP) : Prop := l = [(.slice (List.map encMember a) [] false), (.slice (List.map encMember b) [] false), (.bool false), (.int .i64 st)] ∧ u = []
abbrev seineref1_Members_l1X (a : List GMember) (b : List GMember) (p : Unit ⊕ Unit) (r : Ex × List PV × UP) : Prop := elim p (fun (p : Unit) => ∃ (i_23 : Int), r = (Ex.brk 0, [(.slice (List.map encMember a) [] false), (.slice (List.map encMember b) [] false), (.bool false), (.int .i64 i_23)], [])) (fun q2 => (fun (p : Unit) => ∃ (i_24 : Int), r = (Ex.ret, [(.slice (List.map encMember a) [] false), (.slice (List.map encMember b) [] false), (.bool false), (.int .i64 i_24)], [])) q2)
noncomputable def seineref1_Members_B (a : List GMember) (b : List GMember) : Option Bool :=
 cnd ((List.length a : Int) != (List.length b : Int))
 (some false)
 (bnd (tloop (seineref1_Members_l1T a b) 0) fun e25_2 => elim e25_2
 (fun p25 =>
 some true)
 (fun p25 =>
 some false))
def seineref1_Members_ds : Decs := { decs := [(19, (.ref shMember)), (24, (.ref shMember)), (31, (.ref shMember)), (36, (.ref shMember)), (39, .bool)], ups := [], loops := [(4, [], ⟨[(.sl false), (.sl false), .bool, (.int .i64)], [], [(some 0, [(.sl false), (.sl false), .bool, (.int .i64)], []), (none, [(.sl false), (.sl false), .bool, (.int .i64)], [])]⟩)] }
set_option maxRecDepth 100000 in
theorem seineref1_Members_t1 (O : Orc) (LP : LBody → LBody) (a : List GMember) (b : List GMember) : evalBodyD Try.prog (MT 42) seineref1_Members_ds Try.f42.ntmps O LP Try.f42 [(.slice (List.map encMember a) [] false), (.slice (List.map encMember b) [] false)] [] = seineref1_Members_T1 O LP a b := by kernel_rfl
theorem seineref1_Members_l1_ok (a : List GMember) (b : List GMember) : ∀ st l u, seineref1_Members_l1R a b st l u → Imp (seineref1_Members_l1T a b st) (seineref1_Members_l1 O loopLim l u) (StepR (seineref1_Members_l1R a b) (seineref1_Members_l1X a b)) := by
 rintro i_12 l u ⟨rfl, rfl⟩
 simp only [seineref1_Members_l1T, seineref1_Members_l1]
 refine Imp.chk rfl (Imp.chk rfl ?_)
 try simp only [evs, tys]
 refine Imp.cnd ?_ ?_
 ·refine Imp.op (f := fun a => .ref (encMember a)) (fun a h => op_ix (enc := encMember) (by first | rfl | simp only [evs, tys, evl]) ⟨by first | rfl | simp only [evs, tys, evc], by decide⟩ h) (fun a => chk_GMember a) fun y14 hy14 => ?_
  try simp only [evs, tys]
  refine Imp.op (f := fun a => .ref (encMember a)) (fun a h => op_ix (enc := encMember) (by first | rfl | simp only [evs, tys, evl]) ⟨by first | rfl | simp only [evs, tys, evc], by decide⟩ h) (fun a => chk_GMember a) fun y16 hy16 => ?_
  try simp only [evs, tys]
  refine Imp.cnd ?_ ?_
  ·exact Imp.some (StepR.ret ⟨i_12, by first | rfl | simp only [evs, tys, evl, elim_inl, elim_inr]⟩)
  ·refine Imp.op (f := fun a => .ref (encMember a)) (fun a h => op_ix (enc := encMember) (by first | rfl | simp only [evs, tys, evl]) ⟨by first | rfl | simp only [evs, tys, evc], by decide⟩ h) (fun a => chk_GMember a) fun y18 hy18 => ?_
   try simp only [evs, tys]
   refine Imp.op (f := fun a => .ref (encMember a)) (fun a h => op_ix (enc := encMember) (by first | rfl | simp only [evs, tys, evl]) ⟨by first | rfl | simp only [evs, tys, evc], by decide⟩ h) (fun a => chk_GMember a) fun y20 hy20 => ?_
   try simp only [evs, tys]
   refine Imp.call (f := seineref1_SameE) rfl (fun a h => by first | exact seineref1_Same_spec h | simpa only [evs, tys, evl] using seineref1_Same_spec h) (fun a => by first | rfl | simp only [seineref1_SameE, evk, chks]) fun y22 hy22 => ?_
   try simp only [seineref1_SameE, evs, tys]
   refine Imp.cnd ?_ ?_
   ·exact Imp.some (StepR.ret ⟨i_12, by first | rfl | simp only [evs, tys, evl, elim_inl, elim_inr]⟩)
   ·exact Imp.some (StepR.next ⟨by first | rfl | simp only [evs, tys, evl], rfl⟩)
 ·exact Imp.some (StepR.brk ⟨i_12, by first | rfl | simp only [evs, tys, evl, elim_inl, elim_inr]⟩)
theorem seineref1_Members_imp (a : List GMember) (b : List GMember) : Imp (seineref1_Members_B a b) (seineref1_Members_T1 O loopLim a b) (fun r v => v = (seineref1_MembersE r, [])) := by
 simp only [seineref1_Members_B, seineref1_Members_T1]
 try simp only [evs, tys]
 refine Imp.cnd ?_ ?_
 ·exact Imp.some (by first | rfl | simp only [seineref1_MembersE, evs, tys, evl])
 ·refine Imp.bnd (Imp.loop (seineref1_Members_l1_ok a b) ⟨by first | rfl | simp only [evs, tys, evl], rfl⟩) ?_
  rintro (p | p) vy25 hy25
  ·try simp only [elim_inl, elim_inr]
   obtain ⟨i_23, rfl⟩ := hy25
   refine Imp.exHit rfl (Imp.chk rfl (Imp.chk rfl ?_))
   try simp only [evs, tys]
   exact Imp.some (by first | rfl | simp only [seineref1_MembersE, evs, tys, evl])
  ·try simp only [elim_inl, elim_inr]
   obtain ⟨i_24, rfl⟩ := hy25
   refine Imp.exMiss rfl ?_
   refine Imp.exHit rfl (Imp.chk rfl (Imp.chk rfl ?_))
   try simp only [evs, tys]
   exact Imp.some (by first | rfl | simp only [seineref1_MembersE, evs, tys, evl])
theorem seineref1_Members_run {a : List GMember} {b : List GMember} {r : Bool} (h : seineref1_Members_B a b = some r) : seineref1_Members a b = some r := by
 obtain ⟨v, hv, rfl⟩ := seineref1_Members_imp a b r h
 exact tO_of (pair_inj seineref1_MembersEj) (OL_runD seineref1_Members_ds rfl rfl Try.func42 ((seineref1_Members_t1 _ _ a b).trans hv))
def seineref6_SameDirs_l1 (O : Orc) (LP : LBody → LBody) : LBody := fun s1 s1u => cnd (chkL [(.sl false), (.sl false), .bool, (.int .i64)] s1) (cnd (chkU [] s1u)
 (cnd (decide ((intV (gt s1 3)) < (List.length (esV (gt s1 0)) : Int)))
 (bnd (ix 2 (.slice (esV (gt s1 0)) [] false) (.int .i64 (intV (gt s1 3)))) fun x13 => cnd (chk (.ref shDir) x13)
 (bnd (ix 2 (.slice (esV (gt s1 1)) [] false) (.int .i64 (intV (gt s1 3)))) fun x15 => cnd (chk (.ref shDir) x15)
 (cnd (!((strV (gt (aggV (refV x13)) 0)) == (strV (gt (aggV (refV x15)) 0))))
 (some (.ret, [(.slice (esV (gt s1 0)) [] false), (.slice (esV (gt s1 1)) [] false), (.bool false), (.int .i64 (intV (gt s1 3)))], []))
 (bnd (ix 2 (.slice (esV (gt s1 0)) [] false) (.int .i64 (intV (gt s1 3)))) fun x17 => cnd (chk (.ref shDir) x17)
 (bnd (ix 2 (.slice (esV (gt s1 1)) [] false) (.int .i64 (intV (gt s1 3)))) fun x19 => cnd (chk (.ref shDir) x19)
 (callp O 42 [(.slice (esV (gt (aggV (refV x17)) 1)) [] false), (.slice (esV (gt (aggV (refV x19)) 1)) [] false)] fun x21 => cnd (chk .bool x21)
 (cnd (!(boolV x21))
 (some (.ret, [(.slice (esV (gt s1 0)) [] false), (.slice (esV (gt s1 1)) [] false), (.bool false), (.int .i64 (intV (gt s1 3)))], []))
 (some (.nrm, [(.slice (esV (gt s1 0)) [] false), (.slice (esV (gt s1 1)) [] false), (.bool (boolV (gt s1 2))), (.int .i64 (IntKind.wrap .i64 ((intV (gt s1 3)) + 1)))], []))) none) none) none)) none) none)
 (some (.brk 0, [(.slice (esV (gt s1 0)) [] false), (.slice (esV (gt s1 1)) [] false), (.bool (boolV (gt s1 2))), (.int .i64 (intV (gt s1 3)))], []))) none) none
def seineref6_SameDirs_T1 (O : Orc) (LP : LBody → LBody) (a : List GDir) (b : List GDir) : Option (PV × UP) :=
 cnd ((List.length (List.map encDir a) : Int) != (List.length (List.map encDir b) : Int))
 (some ((.bool false), []))
 (bnd (LP (seineref6_SameDirs_l1 O LP) [(.slice (List.map encDir a) [] false), (.slice (List.map encDir b) [] false), (.bool false), (.int .i64 0)] []) fun y25 =>
 exIs y25.1 (some 0) (cnd (chkL [(.sl false), (.sl false), .bool, (.int .i64)] y25.2.1) (cnd (chkU [] y25.2.2)
 (some ((.bool true), [])) none) none)
 (exIs y25.1 none (cnd (chkL [(.sl false), (.sl false), .bool, (.int .i64)] y25.2.1) (cnd (chkU [] y25.2.2)
 (some ((.bool (boolV (gt y25.2.1 2))), [])) none) none)
 (none)))
noncomputable def seineref6_SameDirs_l1T (a : List GDir) (b : List GDir) : Int → Option (Int ⊕ (Unit ⊕ Unit))
 | i_12 =>
 cnd (decide (i_12 < (List.length a : Int)))
  (bnd (nthI a i_12) fun y14 =>
  bnd (nthI b i_12) fun y16 =>
  cnd (!(y14.name == y16.name))
  (some (.inr (.inr ())))
  (bnd (nthI a i_12) fun y18 =>
  bnd (nthI b i_12) fun y20 =>
  bnd (seineref1_Members y18.args y20.args) fun y22 =>
  cnd (!y22)
   (some (.inr (.inr ())))
   (some (.inl (IntKind.wrap .i64 (i_12 + 1))))))
  (some (.inr (.inl ())))
abbrev seineref6_SameDirs_l1R (a : List GDir) (b : List GDir) (st : Int) (l : List PV) (u : UP) : Prop := l = [(.slice (List.map encDir a) [] false), (.slice (List.map encDir b) [] false), (.bool false), (.int .i64 st)] ∧ u = []
abbrev seineref6_SameDirs_l1X (a : List GDir) (b : List GDir) (p : Unit ⊕ Unit) (r : Ex × List PV × UP) : Prop := elim p (fun (p : Unit) => ∃ (i_23 : Int), r = (Ex.brk 0, [(.slice (List.map encDir a) [] false), (.slice (List.map encDir b) [] false), (.bool false), (.int .i64 i_23)], [])) (fun q2 => (fun (p : Unit) => ∃ (i_24 : Int), r = (Ex.ret, [(.slice (List.map encDir a) [] false), (.slice (List.map encDir b) [] false), (.bool false), (.int .i64 i_24)], [])) q2)
noncomputable def seineref6_SameDirs_B (a : List GDir) (b : List GDir) : Option Bool :=
 cnd ((List.length a : Int) != (List.length b : Int))
 (some false)
 (bnd (tloop (seineref6_SameDirs_l1T a b) 0) fun e25_2 => elim e25_2
 (fun p25 =>
 some true)
 (fun p25 =>
 some false))
def seineref6_SameDirs_ds : Decs := { decs := [(19, (.ref shDir)), (24, (.ref shDir)), (31, (.ref shDir)), (36, (.ref shDir)), (39, .bool)], ups := [], loops := [(4, [], ⟨[(.sl false), (.sl false), .bool, (.int .i64)], [], [(some 0, [(.sl false), (.sl false), .bool, (.int .i64)], []), (none, [(.sl false), (.sl false), .bool, (.int .i64)], [])]⟩)] }
set_option maxRecDepth 100000 in
theorem seineref6_SameDirs_t1 (O : Orc) (LP : LBody → LBody) (a : List GDir) (b : List GDir) : evalBodyD Try.prog (MT 43) seineref6_SameDirs_ds Try.f43.ntmps O LP Try.f43 [(.slice (List.map encDir a) [] false), (.slice (List.map encDir b) [] false)] [] = seineref6_SameDirs_T1 O LP a b := by kernel_rfl
theorem seineref6_SameDirs_l1_ok (a : List GDir) (b : List GDir) : ∀ st l u, seineref6_SameDirs_l1R a b st l u → Imp (seineref6_SameDirs_l1T a b st) (seineref6_SameDirs_l1 O loopLim l u) (StepR (seineref6_SameDirs_l1R a b) (seineref6_SameDirs_l1X a b)) := by
 rintro i_12 l u ⟨rfl, rfl⟩
 simp only [seineref6_SameDirs_l1T, seineref6_SameDirs_l1]
 refine Imp.chk rfl (Imp.chk rfl ?_)
 try simp only [evs, tys]
 refine Imp.cnd ?_ ?_
 ·refine Imp.op (f := fun a => .ref (encDir a)) (fun a h => op_ix (enc := encDir) (by first | rfl | simp only [evs, tys, evl]) ⟨by first | rfl | simp only [evs, tys, evc], by decide⟩ h) (fun a => chk_GDir a) fun y14 hy14 => ?_
  try simp only [evs, tys]
  refine Imp.op (f := fun a => .ref (encDir a)) (fun a h => op_ix (enc := encDir) (by first | rfl | simp only [evs, tys, evl]) ⟨by first | rfl | simp only [evs, tys, evc], by decide⟩ h) (fun a => chk_GDir a) fun y16 hy16 => ?_
  try simp only [evs, tys]
  refine Imp.cnd ?_ ?_
  ·exact Imp.some (StepR.ret ⟨i_12, by first | rfl | simp only [evs, tys, evl, elim_inl, elim_inr]⟩)
  ·refine Imp.op (f := fun a => .ref (encDir a)) (fun a h => op_ix (enc := encDir) (by first | rfl | simp only [evs, tys, evl]) ⟨by first | rfl | simp only [evs, tys, evc], by decide⟩ h) (fun a => chk_GDir a) fun y18 hy18 => ?_
   try simp only [evs, tys]
   refine Imp.op (f := fun a => .ref (encDir a)) (fun a h => op_ix (enc := encDir) (by first | rfl | simp only [evs, tys, evl]) ⟨by first | rfl | simp only [evs, tys, evc], by decide⟩ h) (fun a => chk_GDir a) fun y20 hy20 => ?_
   try simp only [evs, tys]
   refine Imp.call (f := seineref1_MembersE) rfl (fun a h => by first | exact seineref1_Members_spec h | simpa only [evs, tys, evl] using seineref1_Members_spec h) (fun a => by first | rfl | simp only [seineref1_MembersE, evk, chks]) fun y22 hy22 => ?_
   try simp only [seineref1_MembersE, evs, tys]
   refine Imp.cnd ?_ ?_
   ·exact Imp.some (StepR.ret ⟨i_12, by first | rfl | simp only [evs, tys, evl, elim_inl, elim_inr]⟩)
   ·exact Imp.some (StepR.next ⟨by first | rfl | simp only [evs, tys, evl], rfl⟩)
 ·exact Imp.some (StepR.brk ⟨i_12, by first | rfl | simp only [evs, tys, evl, elim_inl, elim_inr]⟩)
theorem seineref6_SameDirs_imp (a : List GDir) (b : List GDir) : Imp (seineref6_SameDirs_B a b) (seineref6_SameDirs_T1 O loopLim a b) (fun r v => v = (seineref6_SameDirsE r, [])) := by
 simp only [seineref6_SameDirs_B, seineref6_SameDirs_T1]
 try simp only [evs, tys]
 refine Imp.cnd ?_ ?_
 ·exact Imp.some (by first | rfl | simp only [seineref6_SameDirsE, evs, tys, evl])
 ·refine Imp.bnd (Imp.loop (seineref6_SameDirs_l1_ok a b) ⟨by first | rfl | simp only [evs, tys, evl], rfl⟩) ?_
  rintro (p | p) vy25 hy25
  ·try simp only [elim_inl, elim_inr]
   obtain ⟨i_23, rfl⟩ := hy25
   refine Imp.exHit rfl (Imp.chk rfl (Imp.chk rfl ?_))
   try simp only [evs, tys]
   exact Imp.some (by first | rfl | simp only [seineref6_SameDirsE, evs, tys, evl])
  ·try simp only [elim_inl, elim_inr]
   obtain ⟨i_24, rfl⟩ := hy25
   refine Imp.exMiss rfl ?_
   refine Imp.exHit rfl (Imp.chk rfl (Imp.chk rfl ?_))
   try simp only [evs, tys]
   exact Imp.some (by first | rfl | simp only [seineref6_SameDirsE, evs, tys, evl])
theorem seineref6_SameDirs_run {a : List GDir} {b : List GDir} {r : Bool} (h : seineref6_SameDirs_B a b = some r) : seineref6_SameDirs a b = some r := by
 obtain ⟨v, hv, rfl⟩ := seineref6_SameDirs_imp a b r h
 exact tO_of (pair_inj seineref6_SameDirsEj) (OL_runD seineref6_SameDirs_ds rfl rfl Try.func43 ((seineref6_SameDirs_t1 _ _ a b).trans hv))
def defs_Find_l1 (O : Orc) (LP : LBody → LBody) : LBody := fun s3 s3u => cnd (chkL [.str, (.ptr 0 4 0), .bool, (.sl false), (.int .i64), (.int .i64), (.int .i64), .str, (.sl true), (.sl true), (.sl true), (.sl true), (.sl false), .str, .str] s3) (cnd (chkU [] s3u)
 (cnd (decide ((intV (gt s3 5)) < (intV (gt s3 4))))
 (bnd (ix 6 (.slice (esV (gt s3 3)) [] false) (.int .i64 (intV (gt s3 5)))) fun x7 => cnd (chk (.ref shDef) x7)
 (cnd ((strV (gt (aggV (refV x7)) 1)) == (strV (gt s3 0)))
 (some (.ret, [(.str (strV (gt s3 0))), (.ptr 0 4 0), (.bool true), (.slice (esV (gt s3 3)) [] false), (.int .i64 (intV (gt s3 4))), (.int .i64 (intV (gt s3 5))), (.int .i64 (intV (gt (aggV (refV x7)) 0))), (.str (strV (gt (aggV (refV x7)) 1))), (.slice (esV (gt (aggV (refV x7)) 2)) [] false), (.slice (esV (gt (aggV (refV x7)) 3)) [] false), (.slice (esV (gt (aggV (refV x7)) 4)) [] false), (.slice (esV (gt (aggV (refV x7)) 5)) [] false), (.slice (esV (gt s3 12)) [] false), (.str (strV (gt s3 13))), (.str (strV (gt s3 14)))], []))
 (some (.nrm, [(.str (strV (gt s3 0))), (.ptr 0 4 0), (.bool (boolV (gt s3 2))), (.slice (esV (gt s3 3)) [] false), (.int .i64 (intV (gt s3 4))), (.int .i64 (IntKind.wrap .i64 ((intV (gt s3 5)) + 1))), (.int .i64 (intV (gt s3 6))), (.str (strV (gt s3 7))), (.slice (esV (gt s3 8)) [] true), (.slice (esV (gt s3 9)) [] true), (.slice (esV (gt s3 10)) [] true), (.slice (esV (gt s3 11)) [] true), (.slice (esV (gt s3 12)) [] false), (.str (strV (gt s3 13))), (.str (strV (gt s3 14)))], []))) none)
 (some (.brk 0, [(.str (strV (gt s3 0))), (.ptr 0 4 0), (.bool (boolV (gt s3 2))), (.slice (esV (gt s3 3)) [] false), (.int .i64 (intV (gt s3 4))), (.int .i64 (intV (gt s3 5))), (.int .i64 (intV (gt s3 6))), (.str (strV (gt s3 7))), (.slice (esV (gt s3 8)) [] true), (.slice (esV (gt s3 9)) [] true), (.slice (esV (gt s3 10)) [] true), (.slice (esV (gt s3 11)) [] true), (.slice (esV (gt s3 12)) [] false), (.str (strV (gt s3 13))), (.str (strV (gt s3 14)))], []))) none) none
def defs_Find_T1 (O : Orc) (LP : LBody → LBody) (s : GSchema) (name : Str) : Option (PV × UP) :=
 callp O 89 [(.str name)] fun x1 => cnd (chk .bool x1)
 (cnd (boolV x1)
 (some ((.tuple [(.agg [(.int .i64 0), (.str name), (.slice [] [] false), (.slice [] [] false), (.slice [] [] false), (.slice [] [] false)]), (.bool true)]), []))
 (bnd (LP (defs_Find_l1 O LP) [(.str name), (.ptr 0 4 0), (.bool false), (.slice (List.map encDef s.defs) [] false), (.int .i64 (List.length (List.map encDef s.defs) : Int)), (.int .i64 0), (.int .i64 0), (.str []), (.slice [] [] true), (.slice [] [] true), (.slice [] [] true), (.slice [] [] true), (.slice (List.map encDef s.defs) [] false), (.str s.query), (.str s.mutation)] []) fun y17 =>
 exIs y17.1 (some 0) (cnd (chkL [.str, (.ptr 0 4 0), .bool, (.sl false), (.int .i64), (.int .i64), (.int .i64), .str, (.sl true), (.sl true), (.sl true), (.sl true), (.sl false), .str, .str] y17.2.1) (cnd (chkU [] y17.2.2)
 (some ((.tuple [(.agg [(.int .i64 0), (.str []), (.slice [] [] false), (.slice [] [] false), (.slice [] [] false), (.slice [] [] false)]), (.bool false)]), [])) none) none)
 (exIs y17.1 none (cnd (chkL [.str, (.ptr 0 4 0), .bool, (.sl false), (.int .i64), (.int .i64), (.int .i64), .str, (.sl false), (.sl false), (.sl false), (.sl false), (.sl false), .str, .str] y17.2.1) (cnd (chkU [] y17.2.2)
 (some ((.tuple [(.agg [(.int .i64 (intV (gt y17.2.1 6))), (.str (strV (gt y17.2.1 7))), (.slice (esV (gt y17.2.1 8)) [] false), (.slice (esV (gt y17.2.1 9)) [] false), (.slice (esV (gt y17.2.1 10)) [] false), (.slice (esV (gt y17.2.1 11)) [] false)]), (.bool (boolV (gt y17.2.1 2)))]), [])) none) none)
 (none)))) none
noncomputable def defs_Find_l1T (s : GSchema) (name : Str) : Int → Option (Int ⊕ (Unit ⊕ (Int × Str × (List Str) × (List GFieldDef) × (List Str) × (List GParam))))
 | t_6 =>
 cnd (decide (t_6 < (List.length s.defs : Int)))
  (bnd (nthI s.defs t_6) fun y8 =>
  cnd (y8.name == name)
  (some (.inr (.inr (y8.kind, y8.name, y8.faces, y8.fields, y8.parts, y8.params))))
  (some (.inl (IntKind.wrap .i64 (t_6 + 1)))))
  (some (.inr (.inl ())))
abbrev defs_Find_l1R (s : GSchema) (name : Str) (st : Int) (l : List PV) (u : UP) : Prop := l = [(.str name), (.ptr 0 4 0), (.bool false), (.slice (List.map encDef s.defs) [] false), (.int .i64 (List.length s.defs : Int)), (.int .i64 st), (.int .i64 0), (.str []), (.slice [] [] true), (.slice [] [] true), (.slice [] [] true), (.slice [] [] true), (.slice (List.map encDef s.defs) [] false), (.str s.query), (.str s.mutation)] ∧ u = []
abbrev defs_Find_l1X (s : GSchema) (name : Str) (p : Unit ⊕ (Int × Str × (List Str) × (List GFieldDef) × (List Str) × (List GParam))) (r : Ex × List PV × UP) : Prop := elim p (fun (p : Unit) => ∃ (t_9 : Int), r = (Ex.brk 0, [(.str name), (.ptr 0 4 0), (.bool false), (.slice (List.map encDef s.defs) [] false), (.int .i64 (List.length s.defs : Int)), (.int .i64 t_9), (.int .i64 0), (.str []), (.slice [] [] true), (.slice [] [] true), (.slice [] [] true), (.slice [] [] true), (.slice (List.map encDef s.defs) [] false), (.str s.query), (.str s.mutation)], [])) (fun q2 => (fun (p : Int × Str × (List Str) × (List GFieldDef) × (List Str) × (List GParam)) => ∃ (t_10 : Int), r = (Ex.ret, [(.str name), (.ptr 0 4 0), (.bool true), (.slice (List.map encDef s.defs) [] false), (.int .i64 (List.length s.defs : Int)), (.int .i64 t_10), (.int .i64 p.1), (.str p.2.1), (.slice (List.map PV.str p.2.2.1) [] false), (.slice (List.map encFieldDef p.2.2.2.1) [] false), (.slice (List.map PV.str p.2.2.2.2.1) [] false), (.slice (List.map encParam p.2.2.2.2.2) [] false), (.slice (List.map encDef s.defs) [] false), (.str s.query), (.str s.mutation)], [])) q2)
noncomputable def defs_Find_B (s : GSchema) (name : Str) : Option (GDef × Bool) :=
 bnd (defs_scalar name) fun y2 =>
 cnd y2
 (some ((GDef.mk 0 name ([] : List Str) ([] : List GFieldDef) ([] : List Str) ([] : List GParam)), true))
 (bnd (tloop (defs_Find_l1T s name) 0) fun e17_2 => elim e17_2
 (fun p17 =>
 some ((GDef.mk 0 [] ([] : List Str) ([] : List GFieldDef) ([] : List Str) ([] : List GParam)), false))
 (fun p17 =>
 some ((GDef.mk p17.1 p17.2.1 p17.2.2.1 p17.2.2.2.1 p17.2.2.2.2.1 p17.2.2.2.2.2), true)))
def defs_Find_ds : Decs := { decs := [(9, .bool), (17, (.ref shDef))], ups := [], loops := [(4, [(4, 6), (2, 3)], ⟨[.str, (.ptr 0 4 0), .bool, (.sl false), (.int .i64), (.int .i64), (.int .i64), .str, (.sl true), (.sl true), (.sl true), (.sl true), (.sl false), .str, .str], [], [(some 0, [.str, (.ptr 0 4 0), .bool, (.sl false), (.int .i64), (.int .i64), (.int .i64), .str, (.sl true), (.sl true), (.sl true), (.sl true), (.sl false), .str, .str], []), (none, [.str, (.ptr 0 4 0), .bool, (.sl false), (.int .i64), (.int .i64), (.int .i64), .str, (.sl false), (.sl false), (.sl false), (.sl false), (.sl false), .str, .str], [])]⟩)] }
set_option maxRecDepth 100000 in
theorem defs_Find_t1 (O : Orc) (LP : LBody → LBody) (s : GSchema) (name : Str) : evalBodyD Try.prog (MT 74) defs_Find_ds Try.f74.ntmps O LP Try.f74 [(.agg [(.slice (List.map encDef s.defs) [] false), (.str s.query), (.str s.mutation)]), (.str name)] [] = defs_Find_T1 O LP s name := by kernel_rfl
theorem defs_Find_l1_ok (s : GSchema) (name : Str) : ∀ st l u, defs_Find_l1R s name st l u → Imp (defs_Find_l1T s name st) (defs_Find_l1 O loopLim l u) (StepR (defs_Find_l1R s name) (defs_Find_l1X s name)) := by
 rintro t_6 l u ⟨rfl, rfl⟩
 simp only [defs_Find_l1T, defs_Find_l1]
 refine Imp.chk rfl (Imp.chk rfl ?_)
 try simp only [evs, tys]
 refine Imp.cnd ?_ ?_
 ·refine Imp.op (f := fun a => .ref (encDef a)) (fun a h => op_ix (enc := encDef) (by first | rfl | simp only [evs, tys, evl]) ⟨by first | rfl | simp only [evs, tys, evc], by decide⟩ h) (fun a => chk_GDef a) fun y8 hy8 => ?_
  try simp only [evs, tys]
  refine Imp.cnd ?_ ?_
  ·exact Imp.some (StepR.ret ⟨t_6, by first | rfl | simp only [evs, tys, evl, elim_inl, elim_inr]⟩)
  ·exact Imp.some (StepR.next ⟨by first | rfl | simp only [evs, tys, evl], rfl⟩)
 ·exact Imp.some (StepR.brk ⟨t_6, by first | rfl | simp only [evs, tys, evl, elim_inl, elim_inr]⟩)
theorem defs_Find_imp (s : GSchema) (name : Str) : Imp (defs_Find_B s name) (defs_Find_T1 O loopLim s name) (fun r v => v = (defs_FindE r, [])) := by
 simp only [defs_Find_B, defs_Find_T1]
 try simp only [evs, tys]
 refine Imp.call (f := defs_scalarE) rfl (fun a h => by first | exact defs_scalar_spec h | simpa only [evs, tys, evl] using defs_scalar_spec h) (fun a => by first | rfl | simp only [defs_scalarE, evk, chks]) fun y2 hy2 => ?_
 try simp only [defs_scalarE, evs, tys]
 refine Imp.cnd ?_ ?_
 ·exact Imp.some (by first | rfl | simp only [defs_FindE, evs, tys, evl])
 ·refine Imp.bnd (Imp.loop (defs_Find_l1_ok s name) ⟨by first | rfl | simp only [evs, tys, evl], rfl⟩) ?_
  rintro (p | ⟨b_11, b_12, b_13, b_14, b_15, b_16⟩) vy17 hy17
  ·try simp only [elim_inl, elim_inr]
   obtain ⟨t_9, rfl⟩ := hy17
   refine Imp.exHit rfl (Imp.chk rfl (Imp.chk rfl ?_))
   try simp only [evs, tys]
   exact Imp.some (by first | rfl | simp only [defs_FindE, evs, tys, evl])
  ·try simp only [elim_inl, elim_inr]
   obtain ⟨t_10, rfl⟩ := hy17
   refine Imp.exMiss rfl ?_
   refine Imp.exHit rfl (Imp.chk rfl (Imp.chk rfl ?_))
   try simp only [evs, tys]
   exact Imp.some (by first | rfl | simp only [defs_FindE, evs, tys, evl])
theorem defs_Find_run {s : GSchema} {name : Str} {r : GDef × Bool} (h : defs_Find_B s name = some r) : defs_Find s name = some r := by
 obtain ⟨v, hv, rfl⟩ := defs_Find_imp s name r h
 exact tO_of (pair_inj defs_FindEj) (OL_runD defs_Find_ds rfl rfl Try.func74 ((defs_Find_t1 _ _ s name).trans hv))
def defs_add_T1 (O : Orc) (LP : LBody → LBody) (l0 : List Str) (name : Str) : Option (PV × UP) :=
 callp O 44 [(.slice (List.map PV.str l0) [] false), (.str name)] fun x1 => cnd (chk .bool x1)
 (cnd (boolV x1)
 (some ((.slice (List.map PV.str l0) [] true), []))
 (bnd (apd 1 (.slice (List.map PV.str l0) [] true) (.slice [(.str name)] [] true)) fun x3 => cnd (chk (.sl true) x3)
 (some ((.slice (esV x3) [] true), [])) none)) none
noncomputable def defs_add_B (l0 : List Str) (name : Str) : Option (List Str) :=
 bnd (slices_Contains_string_string l0 name) fun y2 =>
 cnd y2
 (some l0)
 (bnd (tapp l0 [name]) fun y4 =>
 some y4)
def defs_add_ds : Decs := { decs := [(7, .bool), (12, (.sl true))], ups := [], loops := [] }
set_option maxRecDepth 100000 in
theorem defs_add_t1 (O : Orc) (LP : LBody → LBody) (l0 : List Str) (name : Str) : evalBodyD Try.prog (MT 75) defs_add_ds Try.f75.ntmps O LP Try.f75 [(.slice (List.map PV.str l0) [] true), (.str name)] [] = defs_add_T1 O LP l0 name := by kernel_rfl
theorem defs_add_imp (l0 : List Str) (name : Str) : Imp (defs_add_B l0 name) (defs_add_T1 O loopLim l0 name) (fun r v => v = (defs_addE r, [])) := by
 simp only [defs_add_B, defs_add_T1]
 try simp only [evs, tys]
 refine Imp.call (f := slices_Contains_string_stringE) rfl (fun a h => by first | exact slices_Contains_string_string_spec h | simpa only [evs, tys, evl] using slices_Contains_string_string_spec h) (fun a => by first | rfl | simp only [slices_Contains_string_stringE, evk, chks]) fun y2 hy2 => ?_
 try simp only [slices_Contains_string_stringE, evs, tys]
 refine Imp.cnd ?_ ?_
 ·exact Imp.some (by first | rfl | simp only [defs_addE, evs, tys, evl])
 ·refine Imp.op (f := fun a => .slice (List.map PV.str a) [] true) (fun a h => op_apd (enc := PV.str) (by first | rfl | simp only [evs, tys, evl]) (by first | rfl | simp only [evs, tys, evl]) (fun a => by first | rfl | simp only [evs, tys, evc]) h) (fun a => rfl) fun y4 hy4 => ?_
  try simp only [evs, tys]
  exact Imp.some (by first | rfl | simp only [defs_addE, evs, tys, evl])
theorem defs_add_run {l0 : List Str} {name : Str} {r : List Str} (h : defs_add_B l0 name = some r) : defs_add l0 name = some r := by
 obtain ⟨v, hv, rfl⟩ := defs_add_imp l0 name r h
 exact tO_of (pair_inj defs_addEj) (OL_runD defs_add_ds rfl rfl Try.func75 ((defs_add_t1 _ _ l0 name).trans hv))
open Go Go.Ev Go.Ev.PV
def defs_Kind_T1 (O : Orc) (LP : LBody → LBody) (s : GSchema) (name : Str) (kinds : List Int) : Option (PV × UP) :=
 callp O 74 [(.agg [(.slice (List.map encDef s.defs) [] false), (.str s.query), (.str s.mutation)]), (.str name)] fun x1 => cnd (chk (.tup [shDef, .bool]) x1)
 (cnd (boolV (gt (tupV x1) 1))
 (callp O 90 [(.slice (List.map (PV.int .i64) kinds) [] false), (.int .i64 (intV (gt (aggV (gt (tupV x1) 0)) 0)))] fun x3 => cnd (chk .bool x3)
 (some ((.bool (boolV x3)), [])) none)
 (some ((.bool false), []))) none
noncomputable def defs_Kind_B (s : GSchema) (name : Str) (kinds : List Int) : Option Bool :=
 bnd (defs_Find s name) fun y2 =>
 cnd y2.2
 (bnd (slices_Contains_int_int kinds y2.1.kind) fun y4 =>
 some y4)
 (some false)
def defs_Kind_ds : Decs := { decs := [(12, (.tup [shDef, .bool])), (20, .bool)], ups := [], loops := [] }
set_option maxRecDepth 100000 in
theorem defs_Kind_t1 (O : Orc) (LP : LBody → LBody) (s : GSchema) (name : Str) (kinds : List Int) : evalBodyD Try.prog (MT 76) defs_Kind_ds Try.f76.ntmps O LP Try.f76 [(.agg [(.slice (List.map encDef s.defs) [] false), (.str s.query), (.str s.mutation)]), (.str name), (.slice (List.map (PV.int .i64) kinds) [] false)] [] = defs_Kind_T1 O LP s name kinds := by kernel_rfl
theorem defs_Kind_imp (s : GSchema) (name : Str) (kinds : List Int) : Imp (defs_Kind_B s name kinds) (defs_Kind_T1 O loopLim s name kinds) (fun r v => v = (defs_KindE r, [])) := by
 simp only [defs_Kind_B, defs_Kind_T1]
 try simp only [evs, tys]
 refine Imp.call (f := defs_FindE) rfl (fun a h => by first | exact defs_Find_spec h | simpa only [evs, tys, evl] using defs_Find_spec h) (fun a => by first | rfl | simp only [defs_FindE, evk, chks]) fun y2 hy2 => ?_
 try simp only [defs_FindE, evs, tys]
 refine Imp.cnd ?_ ?_
 ·refine Imp.call (f := slices_Contains_int_intE) rfl (fun a h => by first | exact slices_Contains_int_int_spec h | simpa only [evs, tys, evl] using slices_Contains_int_int_spec h) (fun a => by first | rfl | simp only [slices_Contains_int_intE, evk, chks]) fun y4 hy4 => ?_
  try simp only [slices_Contains_int_intE, evs, tys]
  exact Imp.some (by first | rfl | simp only [defs_KindE, evs, tys, evl])
 ·exact Imp.some (by first | rfl | simp only [defs_KindE, evs, tys, evl])
theorem defs_Kind_run {s : GSchema} {name : Str} {kinds : List Int} {r : Bool} (h : defs_Kind_B s name kinds = some r) : defs_Kind s name kinds = some r := by
 obtain ⟨v, hv, rfl⟩ := defs_Kind_imp s name kinds r h
 exact tO_of (pair_inj defs_KindEj) (OL_runD defs_Kind_ds rfl rfl Try.func76 ((defs_Kind_t1 _ _ s name kinds).trans hv))
def slices_Index_string_string_l1 (O : Orc) (LP : LBody → LBody) : LBody := fun s1 s1u => cnd (chkL [(.sl false), .str, (.int .i64), (.int .i64), (.int .i64)] s1) (cnd (chkU [] s1u)
 (cnd (decide ((intV (gt s1 4)) < (intV (gt s1 3))))
 (bnd (ix 1 (.slice (esV (gt s1 0)) [] false) (.int .i64 (intV (gt s1 4)))) fun x5 => cnd (chk (.ref .str) x5)
 (cnd ((strV (gt s1 1)) == (strV (refV x5)))
 (some (.ret, [(.slice (esV (gt s1 0)) [] false), (.str (strV (gt s1 1))), (.int .i64 (intV (gt s1 4))), (.int .i64 (intV (gt s1 3))), (.int .i64 (intV (gt s1 4)))], []))
 (some (.nrm, [(.slice (esV (gt s1 0)) [] false), (.str (strV (gt s1 1))), (.int .i64 (intV (gt s1 2))), (.int .i64 (intV (gt s1 3))), (.int .i64 (IntKind.wrap .i64 ((intV (gt s1 4)) + 1)))], []))) none)
 (some (.brk 0, [(.slice (esV (gt s1 0)) [] false), (.str (strV (gt s1 1))), (.int .i64 (intV (gt s1 2))), (.int .i64 (intV (gt s1 3))), (.int .i64 (intV (gt s1 4)))], []))) none) none
def slices_Index_string_string_T1 (O : Orc) (LP : LBody → LBody) (s : List Str) (v0 : Str) : Option (PV × UP) :=
 bnd (LP (slices_Index_string_string_l1 O LP) [(.slice (List.map PV.str s) [] false), (.str v0), (.int .i64 0), (.int .i64 (List.length (List.map PV.str s) : Int)), (.int .i64 0)] []) fun y10 =>
 exIs y10.1 (some 0) (cnd (chkL [(.sl false), .str, (.int .i64), (.int .i64), (.int .i64)] y10.2.1) (cnd (chkU [] y10.2.2)
 (some ((.int .i64 (-1)), [])) none) none)
 (exIs y10.1 none (cnd (chkL [(.sl false), .str, (.int .i64), (.int .i64), (.int .i64)] y10.2.1) (cnd (chkU [] y10.2.2)
 (some ((.int .i64 (intV (gt y10.2.1 2))), [])) none) none)
 (none))
noncomputable def slices_Index_string_string_l1T (s : List Str) (v0 : Str) : Int → Option (Int ⊕ (Unit ⊕ Int))
 | t_4 =>
 cnd (decide (t_4 < (List.length s : Int)))
  (bnd (nthI s t_4) fun y6 =>
  cnd (v0 == y6)
  (some (.inr (.inr t_4)))
  (some (.inl (IntKind.wrap .i64 (t_4 + 1)))))
  (some (.inr (.inl ())))
abbrev slices_Index_string_string_l1R (s : List Str) (v0 : Str) (st : Int) (l : List PV) (u : UP) : Prop := l = [(.slice (List.map PV.str s) [] false), (.str v0), (.int .i64 0), (.int .i64 (List.length s : Int)), (.int .i64 st)] ∧ u = []
abbrev slices_Index_string_string_l1X (s : List Str) (v0 : Str) (p : Unit ⊕ Int) (r : Ex × List PV × UP) : Prop := elim p (fun (p : Unit) => ∃ (t_7 : Int), r = (Ex.brk 0, [(.slice (List.map PV.str s) [] false), (.str v0), (.int .i64 0), (.int .i64 (List.length s : Int)), (.int .i64 t_7)], [])) (fun q2 => (fun (p : Int) => ∃ (t_9 : Int), r = (Ex.ret, [(.slice (List.map PV.str s) [] false), (.str v0), (.int .i64 p), (.int .i64 (List.length s : Int)), (.int .i64 t_9)], [])) q2)
noncomputable def slices_Index_string_string_B (s : List Str) (v0 : Str) : Option Int :=
 bnd (tloop (slices_Index_string_string_l1T s v0) 0) fun e10_2 => elim e10_2
 (fun p10 =>
 some (-1))
 (fun t_8 =>
 some t_8)
def slices_Index_string_string_ds : Decs := { decs := [(14, (.ref .str))], ups := [], loops := [(2, [], ⟨[(.sl false), .str, (.int .i64), (.int .i64), (.int .i64)], [], [(some 0, [(.sl false), .str, (.int .i64), (.int .i64), (.int .i64)], []), (none, [(.sl false), .str, (.int .i64), (.int .i64), (.int .i64)], [])]⟩)] }
set_option maxRecDepth 100000 in
theorem slices_Index_string_string_t1 (O : Orc) (LP : LBody → LBody) (s : List Str) (v0 : Str) : evalBodyD Try.prog (MT 73) slices_Index_string_string_ds Try.f73.ntmps O LP Try.f73 [(.slice (List.map PV.str s) [] false), (.str v0)] [] = slices_Index_string_string_T1 O LP s v0 := by kernel_rfl
theorem slices_Index_string_string_l1_ok (s : List Str) (v0 : Str) : ∀ st l u, slices_Index_string_string_l1R s v0 st l u → Imp (slices_Index_string_string_l1T s v0 st) (slices_Index_string_string_l1 O loopLim l u) (StepR (slices_Index_string_string_l1R s v0) (slices_Index_string_string_l1X s v0)) := by
 rintro t_4 l u ⟨rfl, rfl⟩
 simp only [slices_Index_string_string_l1T, slices_Index_string_string_l1]
 refine Imp.chk rfl (Imp.chk rfl ?_)
 try simp only [evs, tys]
 refine Imp.cnd ?_ ?_
 ·refine Imp.op (f := fun a => .ref (PV.str a)) (fun a h => op_ix (enc := PV.str) (by first | rfl | simp only [evs, tys, evl]) ⟨by first | rfl | simp only [evs, tys, evc], by decide⟩ h) (fun a => rfl) fun y6 hy6 => ?_
  try simp only [evs, tys]
  refine Imp.cnd ?_ ?_
  ·exact Imp.some (StepR.ret ⟨t_4, by first | rfl | simp only [evs, tys, evl, elim_inl, elim_inr]⟩)
  ·exact Imp.some (StepR.next ⟨by first | rfl | simp only [evs, tys, evl], rfl⟩)
 ·exact Imp.some (StepR.brk ⟨t_4, by first | rfl | simp only [evs, tys, evl, elim_inl, elim_inr]⟩)
theorem slices_Index_string_string_imp (s : List Str) (v0 : Str) : Imp (slices_Index_string_string_B s v0) (slices_Index_string_string_T1 O loopLim s v0) (fun r v => v = (slices_Index_string_stringE r, [])) := by
 simp only [slices_Index_string_string_B, slices_Index_string_string_T1]
 try simp only [evs, tys]
 refine Imp.bnd (Imp.loop (slices_Index_string_string_l1_ok s v0) ⟨by first | rfl | simp only [evs, tys, evl], rfl⟩) ?_
 rintro (p | t_8) vy10 hy10
 ·try simp only [elim_inl, elim_inr]
  obtain ⟨t_7, rfl⟩ := hy10
  refine Imp.exHit rfl (Imp.chk rfl (Imp.chk rfl ?_))
  try simp only [evs, tys]
  exact Imp.some (by first | rfl | simp only [slices_Index_string_stringE, evs, tys, evl])
 ·try simp only [elim_inl, elim_inr]
  obtain ⟨t_9, rfl⟩ := hy10
  refine Imp.exMiss rfl ?_
  refine Imp.exHit rfl (Imp.chk rfl (Imp.chk rfl ?_))
  try simp only [evs, tys]
  exact Imp.some (by first | rfl | simp only [slices_Index_string_stringE, evs, tys, evl])
theorem slices_Index_string_string_run {s : List Str} {v0 : Str} {r : Int} (h : slices_Index_string_string_B s v0 = some r) : slices_Index_string_string s v0 = some r := by
 obtain ⟨v, hv, rfl⟩ := slices_Index_string_string_imp s v0 r h
 exact tO_of (pair_inj slices_Index_string_stringEj) (OL_runD slices_Index_string_string_ds rfl rfl Try.func73 ((slices_Index_string_string_t1 _ _ s v0).trans hv))
def seineref9_Find_l1 (O : Orc) (LP : LBody → LBody) : LBody := fun s3 s3u => cnd (chkL [.str, (.ptr 0 2 0), (.ptr 0 4 0), .bool, (.int .i64), (.int .i64), .str, (.sl true), (.sl true), (.sl true), (.sl true), (.sl false), .str, .str] s3) (cnd (chkU [] s3u)
 (cnd (decide ((intV (gt s3 4)) < (List.length (esV (gt s3 11)) : Int)))
 (bnd (ix 6 (.slice (esV (gt s3 11)) [] false) (.int .i64 (intV (gt s3 4)))) fun x9 => cnd (chk (.ref shDef) x9)
 (cnd ((strV (gt (aggV (refV x9)) 1)) == (strV (gt s3 0)))
 (bnd (ix 6 (.slice (esV (gt s3 11)) [] false) (.int .i64 (intV (gt s3 4)))) fun x11 => cnd (chk (.ref shDef) x11)
 (some (.ret, [(.str (strV (gt s3 0))), (.ptr 0 2 0), (.ptr 0 4 0), (.bool true), (.int .i64 (intV (gt s3 4))), (.int .i64 (intV (gt (aggV (refV x11)) 0))), (.str (strV (gt (aggV (refV x11)) 1))), (.slice (esV (gt (aggV (refV x11)) 2)) [] false), (.slice (esV (gt (aggV (refV x11)) 3)) [] false), (.slice (esV (gt (aggV (refV x11)) 4)) [] false), (.slice (esV (gt (aggV (refV x11)) 5)) [] false), (.slice (esV (gt s3 11)) [] false), (.str (strV (gt s3 12))), (.str (strV (gt s3 13)))], [])) none)
 (some (.nrm, [(.str (strV (gt s3 0))), (.ptr 0 2 0), (.ptr 0 4 0), (.bool (boolV (gt s3 3))), (.int .i64 (IntKind.wrap .i64 ((intV (gt s3 4)) + 1))), (.int .i64 (intV (gt s3 5))), (.str (strV (gt s3 6))), (.slice (esV (gt s3 7)) [] true), (.slice (esV (gt s3 8)) [] true), (.slice (esV (gt s3 9)) [] true), (.slice (esV (gt s3 10)) [] true), (.slice (esV (gt s3 11)) [] false), (.str (strV (gt s3 12))), (.str (strV (gt s3 13)))], []))) none)
 (some (.brk 0, [(.str (strV (gt s3 0))), (.ptr 0 2 0), (.ptr 0 4 0), (.bool (boolV (gt s3 3))), (.int .i64 (intV (gt s3 4))), (.int .i64 (intV (gt s3 5))), (.str (strV (gt s3 6))), (.slice (esV (gt s3 7)) [] true), (.slice (esV (gt s3 8)) [] true), (.slice (esV (gt s3 9)) [] true), (.slice (esV (gt s3 10)) [] true), (.slice (esV (gt s3 11)) [] false), (.str (strV (gt s3 12))), (.str (strV (gt s3 13)))], []))) none) none
def seineref9_Find_T1 (O : Orc) (LP : LBody → LBody) (s : GSchema) (name : Str) : Option (PV × UP) :=
 callp O 91 [(.str name)] fun x1 => cnd (chk .bool x1)
 (cnd (boolV x1)
 (some ((.tuple [(.agg [(.int .i64 0), (.str name), (.slice [] [] false), (.slice [] [] false), (.slice [] [] false), (.slice [] [] false)]), (.bool true)]), []))
 (bnd (LP (seineref9_Find_l1 O LP) [(.str name), (.ptr 0 2 0), (.ptr 0 4 0), (.bool false), (.int .i64 0), (.int .i64 0), (.str []), (.slice [] [] true), (.slice [] [] true), (.slice [] [] true), (.slice [] [] true), (.slice (List.map encDef s.defs) [] false), (.str s.query), (.str s.mutation)] []) fun y21 =>
 exIs y21.1 (some 0) (cnd (chkL [.str, (.ptr 0 2 0), (.ptr 0 4 0), .bool, (.int .i64), (.int .i64), .str, (.sl true), (.sl true), (.sl true), (.sl true), (.sl false), .str, .str] y21.2.1) (cnd (chkU [] y21.2.2)
 (some ((.tuple [(.agg [(.int .i64 0), (.str []), (.slice [] [] false), (.slice [] [] false), (.slice [] [] false), (.slice [] [] false)]), (.bool false)]), [])) none) none)
 (exIs y21.1 none (cnd (chkL [.str, (.ptr 0 2 0), (.ptr 0 4 0), .bool, (.int .i64), (.int .i64), .str, (.sl false), (.sl false), (.sl false), (.sl false), (.sl false), .str, .str] y21.2.1) (cnd (chkU [] y21.2.2)
 (some ((.tuple [(.agg [(.int .i64 (intV (gt y21.2.1 5))), (.str (strV (gt y21.2.1 6))), (.slice (esV (gt y21.2.1 7)) [] false), (.slice (esV (gt y21.2.1 8)) [] false), (.slice (esV (gt y21.2.1 9)) [] false), (.slice (esV (gt y21.2.1 10)) [] false)]), (.bool (boolV (gt y21.2.1 3)))]), [])) none) none)
 (none)))) none
noncomputable def seineref9_Find_l1T (s : GSchema) (name : Str) : Int → Option (Int ⊕ (Unit ⊕ (Int × Str × (List Str) × (List GFieldDef) × (List Str) × (List GParam))))
 | i_8 =>
 cnd (decide (i_8 < (List.length s.defs : Int)))
  (bnd (nthI s.defs i_8) fun y10 =>
  cnd (y10.name == name)
  (bnd (nthI s.defs i_8) fun y12 =>
  some (.inr (.inr (y12.kind, y12.name, y12.faces, y12.fields, y12.parts, y12.params))))
  (some (.inl (IntKind.wrap .i64 (i_8 + 1)))))
  (some (.inr (.inl ())))
abbrev seineref9_Find_l1R (s : GSchema) (name : Str) (st : Int) (l : List PV) (u : UP) : Prop := l = [(.str name), (.ptr 0 2 0), (.ptr 0 4 0), (.bool false), (.int .i64 st), (.int .i64 0), (.str []), (.slice [] [] true), (.slice [] [] true), (.slice [] [] true), (.slice [] [] true), (.slice (List.map encDef s.defs) [] false), (.str s.query), (.str s.mutation)] ∧ u = []
abbrev seineref9_Find_l1X (s : GSchema) (name : Str) (p : Unit ⊕ (Int × Str × (List Str) × (List GFieldDef) × (List Str) × (List GParam))) (r : Ex × List PV × UP) : Prop := elim p (fun (p : Unit) => ∃ (i_13 : Int), r = (Ex.brk 0, [(.str name), (.ptr 0 2 0), (.ptr 0 4 0), (.bool false), (.int .i64 i_13), (.int .i64 0), (.str []), (.slice [] [] true), (.slice [] [] true), (.slice [] [] true), (.slice [] [] true), (.slice (List.map encDef s.defs) [] false), (.str s.query), (.str s.mutation)], [])) (fun q2 => (fun (p : Int × Str × (List Str) × (List GFieldDef) × (List Str) × (List GParam)) => ∃ (i_14 : Int), r = (Ex.ret, [(.str name), (.ptr 0 2 0), (.ptr 0 4 0), (.bool true), (.int .i64 i_14), (.int .i64 p.1), (.str p.2.1), (.slice (List.map PV.str p.2.2.1) [] false), (.slice (List.map encFieldDef p.2.2.2.1) [] false), (.slice (List.map PV.str p.2.2.2.2.1) [] false), (.slice (List.map encParam p.2.2.2.2.2) [] false), (.slice (List.map encDef s.defs) [] false), (.str s.query), (.str s.mutation)], [])) q2)
noncomputable def seineref9_Find_B (s : GSchema) (name : Str) : Option (GDef × Bool) :=
 bnd (seineref9_scalar name) fun y2 =>
 cnd y2
 (some ((GDef.mk 0 name ([] : List Str) ([] : List GFieldDef) ([] : List Str) ([] : List GParam)), true))
 (bnd (tloop (seineref9_Find_l1T s name) 0) fun e21_2 => elim e21_2
 (fun p21 =>
 some ((GDef.mk 0 [] ([] : List Str) ([] : List GFieldDef) ([] : List Str) ([] : List GParam)), false))
 (fun p21 =>
 some ((GDef.mk p21.1 p21.2.1 p21.2.2.1 p21.2.2.2.1 p21.2.2.2.2.1 p21.2.2.2.2.2), true)))
def seineref9_Find_ds : Decs := { decs := [(8, .bool), (21, (.ref shDef)), (29, (.ref shDef))], ups := [], loops := [(4, [(4, 6), (2, 3)], ⟨[.str, (.ptr 0 2 0), (.ptr 0 4 0), .bool, (.int .i64), (.int .i64), .str, (.sl true), (.sl true), (.sl true), (.sl true), (.sl false), .str, .str], [], [(some 0, [.str, (.ptr 0 2 0), (.ptr 0 4 0), .bool, (.int .i64), (.int .i64), .str, (.sl true), (.sl true), (.sl true), (.sl true), (.sl false), .str, .str], []), (none, [.str, (.ptr 0 2 0), (.ptr 0 4 0), .bool, (.int .i64), (.int .i64), .str, (.sl false), (.sl false), (.sl false), (.sl false), (.sl false), .str, .str], [])]⟩)] }
set_option maxRecDepth 100000 in
theorem seineref9_Find_t1 (O : Orc) (LP : LBody → LBody) (s : GSchema) (name : Str) : evalBodyD Try.prog (MT 77) seineref9_Find_ds Try.f77.ntmps O LP Try.f77 [(.agg [(.slice (List.map encDef s.defs) [] false), (.str s.query), (.str s.mutation)]), (.str name)] [] = seineref9_Find_T1 O LP s name := by kernel_rfl
theorem seineref9_Find_l1_ok (s : GSchema) (name : Str) : ∀ st l u, seineref9_Find_l1R s name st l u → Imp (seineref9_Find_l1T s name st) (seineref9_Find_l1 O loopLim l u) (StepR (seineref9_Find_l1R s name) (seineref9_Find_l1X s name)) := by
 rintro i_8 l u ⟨rfl, rfl⟩
 simp only [seineref9_Find_l1T, seineref9_Find_l1]
 refine Imp.chk rfl (Imp.chk rfl ?_)
 try simp only [evs, tys]
 refine Imp.cnd ?_ ?_
 ·refine Imp.op (f := fun a => .ref (encDef a)) (fun a h => op_ix (enc := encDef) (by first | rfl | simp only [evs, tys, evl]) ⟨by first | rfl | simp only [evs, tys, evc], by decide⟩ h) (fun a => chk_GDef a) fun y10 hy10 => ?_
  try simp only [evs, tys]
  refine Imp.cnd ?_ ?_
  ·refine Imp.op (f := fun a => .ref (encDef a)) (fun a h => op_ix (enc := encDef) (by first | rfl | simp only [evs, tys, evl]) ⟨by first | rfl | simp only [evs, tys, evc], by decide⟩ h) (fun a => chk_GDef a) fun y12 hy12 => ?_
   try simp only [evs, tys]
   exact Imp.some (StepR.ret ⟨i_8, by first | rfl | simp only [evs, tys, evl, elim_inl, elim_inr]⟩)
  ·exact Imp.some (StepR.next ⟨by first | rfl | simp only [evs, tys, evl], rfl⟩)
 ·exact Imp.some (StepR.brk ⟨i_8, by first | rfl | simp only [evs, tys, evl, elim_inl, elim_inr]⟩)
theorem seineref9_Find_imp (s : GSchema) (name : Str) : Imp (seineref9_Find_B s name) (seineref9_Find_T1 O loopLim s name) (fun r v => v = (seineref9_FindE r, [])) := by
 simp only [seineref9_Find_B, seineref9_Find_T1]
 try simp only [evs, tys]
 refine Imp.call (f := seineref9_scalarE) rfl (fun a h => by first | exact seineref9_scalar_spec h | simpa only [evs, tys, evl] using seineref9_scalar_spec h) (fun a => by first | rfl | simp only [seineref9_scalarE, evk, chks]) fun y2 hy2 => ?_
 try simp only [seineref9_scalarE, evs, tys]
 refine Imp.cnd ?_ ?_
 ·exact Imp.some (by first | rfl | simp only [seineref9_FindE, evs, tys, evl])
 ·refine Imp.bnd (Imp.loop (seineref9_Find_l1_ok s name) ⟨by first | rfl | simp only [evs, tys, evl], rfl⟩) ?_
  rintro (p | ⟨b_15, b_16, b_17, b_18, b_19, b_20⟩) vy21 hy21
  ·try simp only [elim_inl, elim_inr]
   obtain ⟨i_13, rfl⟩ := hy21
   refine Imp.exHit rfl (Imp.chk rfl (Imp.chk rfl ?_))
   try simp only [evs, tys]
   exact Imp.some (by first | rfl | simp only [seineref9_FindE, evs, tys, evl])
  ·try simp only [elim_inl, elim_inr]
   obtain ⟨i_14, rfl⟩ := hy21
   refine Imp.exMiss rfl ?_
   refine Imp.exHit rfl (Imp.chk rfl (Imp.chk rfl ?_))
   try simp only [evs, tys]
   exact Imp.some (by first | rfl | simp only [seineref9_FindE, evs, tys, evl])
theorem seineref9_Find_run {s : GSchema} {name : Str} {r : GDef × Bool} (h : seineref9_Find_B s name = some r) : seineref9_Find s name = some r := by
 obtain ⟨v, hv, rfl⟩ := seineref9_Find_imp s name r h
 exact tO_of (pair_inj seineref9_FindEj) (OL_runD seineref9_Find_ds rfl rfl Try.func77 ((seineref9_Find_t1 _ _ s name).trans hv))
def seineref9_Object_T1 (O : Orc) (LP : LBody → LBody) (s : GSchema) (name : Str) : Option (PV × UP) :=
 callp O 86 [(.agg [(.slice (List.map encDef s.defs) [] false), (.str s.query), (.str s.mutation)]), (.str name), (.int .i64 1), (.int .i64 1), (.int .i64 1)] fun x1 => cnd (chk .bool x1)
 (some ((.bool (boolV x1)), [])) none
noncomputable def seineref9_Object_B (s : GSchema) (name : Str) : Option Bool :=
 bnd (seineref9_is s name 1 1 1) fun y2 =>
 some y2
def seineref9_Object_ds : Decs := { decs := [(7, .bool)], ups := [], loops := [] }
set_option maxRecDepth 100000 in
theorem seineref9_Object_t1 (O : Orc) (LP : LBody → LBody) (s : GSchema) (name : Str) : evalBodyD Try.prog (MT 78) seineref9_Object_ds Try.f78.ntmps O LP Try.f78 [(.agg [(.slice (List.map encDef s.defs) [] false), (.str s.query), (.str s.mutation)]), (.str name)] [] = seineref9_Object_T1 O LP s name := by kernel_rfl
theorem seineref9_Object_imp (s : GSchema) (name : Str) : Imp (seineref9_Object_B s name) (seineref9_Object_T1 O loopLim s name) (fun r v => v = (seineref9_ObjectE r, [])) := by
 simp only [seineref9_Object_B, seineref9_Object_T1]
 try simp only [evs, tys]
 refine Imp.call (f := seineref9_isE) rfl (fun a h => by first | exact seineref9_is_spec h | simpa only [evs, tys, evl] using seineref9_is_spec h) (fun a => by first | rfl | simp only [seineref9_isE, evk, chks]) fun y2 hy2 => ?_
 try simp only [seineref9_isE, evs, tys]
 exact Imp.some (by first | rfl | simp only [seineref9_ObjectE, evs, tys, evl])
theorem seineref9_Object_run {s : GSchema} {name : Str} {r : Bool} (h : seineref9_Object_B s name = some r) : seineref9_Object s name = some r := by
 obtain ⟨v, hv, rfl⟩ := seineref9_Object_imp s name r h
 exact tO_of (pair_inj seineref9_ObjectEj) (OL_runD seineref9_Object_ds rfl rfl Try.func78 ((seineref9_Object_t1 _ _ s name).trans hv))
def seinelaw8_lightTexts_l1 (O : Orc) (LP : LBody → LBody) : LBody := fun s1 s1u => cnd (chkL [(.sl false), (.int .i64), (.int .i64)] s1) (cnd (chkU [] s1u)
 (cnd (decide ((intV (gt s1 2)) < (List.length (esV (gt s1 0)) : Int)))
 (bnd (ix 1 (.slice (esV (gt s1 0)) [] false) (.int .i64 (intV (gt s1 2)))) fun x6 => cnd (chk (.ref .str) x6)
 (some (.nrm, [(.slice (esV (gt s1 0)) [] false), (.int .i64 (IntKind.wrap .i64 ((IntKind.wrap .i64 ((intV (gt s1 1)) + 1)) + (List.length (strV (refV x6)) : Int)))), (.int .i64 (IntKind.wrap .i64 ((intV (gt s1 2)) + 1)))], [])) none)
 (some (.brk 0, [(.slice (esV (gt s1 0)) [] false), (.int .i64 (intV (gt s1 1))), (.int .i64 (intV (gt s1 2)))], []))) none) none
def seinelaw8_lightTexts_T1 (O : Orc) (LP : LBody → LBody) (l0 : List Str) : Option (PV × UP) :=
 bnd (LP (seinelaw8_lightTexts_l1 O LP) [(.slice (List.map PV.str l0) [] false), (.int .i64 0), (.int .i64 0)] []) fun y10 =>
 exIs y10.1 (some 0) (cnd (chkL [(.sl false), (.int .i64), (.int .i64)] y10.2.1) (cnd (chkU [] y10.2.2)
 (some ((.int .i64 (intV (gt y10.2.1 1))), [])) none) none)
 (none)
noncomputable def seinelaw8_lightTexts_l1T (l0 : List Str) : (Int × Int) → Option ((Int × Int) ⊕ Int)
 | (n_4, i_5) =>
 cnd (decide (i_5 < (List.length l0 : Int)))
  (bnd (nthI l0 i_5) fun y7 =>
  some (.inl ((IntKind.wrap .i64 ((IntKind.wrap .i64 (n_4 + 1)) + (List.length y7 : Int))), (IntKind.wrap .i64 (i_5 + 1)))))
  (some (.inr n_4))
abbrev seinelaw8_lightTexts_l1R (l0 : List Str) (st : Int × Int) (l : List PV) (u : UP) : Prop := l = [(.slice (List.map PV.str l0) [] false), (.int .i64 st.1), (.int .i64 st.2)] ∧ u = []
abbrev seinelaw8_lightTexts_l1X (l0 : List Str) (p : Int) (r : Ex × List PV × UP) : Prop := (fun (p : Int) => ∃ (i_9 : Int), r = (Ex.brk 0, [(.slice (List.map PV.str l0) [] false), (.int .i64 p), (.int .i64 i_9)], [])) p
noncomputable def seinelaw8_lightTexts_B (l0 : List Str) : Option Int :=
 bnd (tloop (seinelaw8_lightTexts_l1T l0) (0, 0)) fun n_8 =>
 some n_8
def seinelaw8_lightTexts_ds : Decs := { decs := [(15, (.ref .str))], ups := [], loops := [(3, [], ⟨[(.sl false), (.int .i64), (.int .i64)], [], [(some 0, [(.sl false), (.int .i64), (.int .i64)], [])]⟩)] }
set_option maxRecDepth 100000 in
theorem seinelaw8_lightTexts_t1 (O : Orc) (LP : LBody → LBody) (l0 : List Str) : evalBodyD Try.prog (MT 50) seinelaw8_lightTexts_ds Try.f50.ntmps O LP Try.f50 [(.slice (List.map PV.str l0) [] false)] [] = seinelaw8_lightTexts_T1 O LP l0 := by kernel_rfl
theorem seinelaw8_lightTexts_l1_ok (l0 : List Str) : ∀ st l u, seinelaw8_lightTexts_l1R l0 st l u → Imp (seinelaw8_lightTexts_l1T l0 st) (seinelaw8_lightTexts_l1 O loopLim l u) (StepR (seinelaw8_lightTexts_l1R l0) (seinelaw8_lightTexts_l1X l0)) := by
 rintro ⟨n_4, i_5⟩ l u ⟨rfl, rfl⟩
 simp only [seinelaw8_lightTexts_l1T, seinelaw8_lightTexts_l1]
 refine Imp.chk rfl (Imp.chk rfl ?_)
 try simp only [evs, tys]
 refine Imp.cnd ?_ ?_
 ·refine Imp.op (f := fun a => .ref (PV.str a)) (fun a h => op_ix (enc := PV.str) (by first | rfl | simp only [evs, tys, evl]) ⟨by first | rfl | simp only [evs, tys, evc], by decide⟩ h) (fun a => rfl) fun y7 hy7 => ?_
  try simp only [evs, tys]
  exact Imp.some (StepR.next ⟨by first | rfl | simp only [evs, tys, evl], rfl⟩)
 ·exact Imp.some (StepR.brk ⟨i_5, by first | rfl | simp only [evs, tys, evl, elim_inl, elim_inr]⟩)
theorem seinelaw8_lightTexts_imp (l0 : List Str) : Imp (seinelaw8_lightTexts_B l0) (seinelaw8_lightTexts_T1 O loopLim l0) (fun r v => v = (seinelaw8_lightTextsE r, [])) := by
 simp only [seinelaw8_lightTexts_B, seinelaw8_lightTexts_T1]
 try simp only [evs, tys]
 refine Imp.bnd (Imp.loop (seinelaw8_lightTexts_l1_ok l0) ⟨by first | rfl | simp only [evs, tys, evl], rfl⟩) ?_
 rintro n_8 vy10 hy10
 obtain ⟨i_9, rfl⟩ := hy10
 refine Imp.exHit rfl (Imp.chk rfl (Imp.chk rfl ?_))
 try simp only [evs, tys]
 exact Imp.some (by first | rfl | simp only [seinelaw8_lightTextsE, evs, tys, evl])
theorem seinelaw8_lightTexts_run {l0 : List Str} {r : Int} (h : seinelaw8_lightTexts_B l0 = some r) : seinelaw8_lightTexts l0 = some r := by
 obtain ⟨v, hv, rfl⟩ := seinelaw8_lightTexts_imp l0 r h
 exact tO_of (pair_inj seinelaw8_lightTextsEj) (OL_runD seinelaw8_lightTexts_ds rfl rfl Try.func50 ((seinelaw8_lightTexts_t1 _ _ l0).trans hv))
def seinelaw8_lightParams_l1 (O : Orc) (LP : LBody → LBody) : LBody := fun s1 s1u => cnd (chkL [(.sl false), (.int .i64), (.int .i64)] s1) (cnd (chkU [] s1u)
 (cnd (decide ((intV (gt s1 2)) < (List.length (esV (gt s1 0)) : Int)))
 (bnd (ix 10 (.slice (esV (gt s1 0)) [] false) (.int .i64 (intV (gt s1 2)))) fun x10 => cnd (chk (.ref shParam) x10)
 (bnd (ix 10 (.slice (esV (gt s1 0)) [] false) (.int .i64 (intV (gt s1 2)))) fun x12 => cnd (chk (.ref shParam) x12)
 (callp O 12 [(.agg [(.int .i64 (intV (gt (aggV (refV x12)) 5))), (.int .i64 (intV (gt (aggV (refV x12)) 6))), (.str (strV (gt (aggV (refV x12)) 7))), (.slice (esV (gt (aggV (refV x12)) 8)) [] false), (.slice (esV (gt (aggV (refV x12)) 9)) [] false)])] fun x14 => cnd (chk (.int .i64) x14)
 (some (.nrm, [(.slice (esV (gt s1 0)) [] false), (.int .i64 (IntKind.wrap .i64 ((IntKind.wrap .i64 ((IntKind.wrap .i64 ((intV (gt s1 1)) + 1)) + (List.length (strV (gt (aggV (refV x10)) 0)) : Int))) + (intV x14)))), (.int .i64 (IntKind.wrap .i64 ((intV (gt s1 2)) + 1)))], [])) none) none) none)
 (some (.brk 0, [(.slice (esV (gt s1 0)) [] false), (.int .i64 (intV (gt s1 1))), (.int .i64 (intV (gt s1 2)))], []))) none) none
def seinelaw8_lightParams_T1 (O : Orc) (LP : LBody → LBody) (l0 : List GParam) : Option (PV × UP) :=
 bnd (LP (seinelaw8_lightParams_l1 O LP) [(.slice (List.map encParam l0) [] false), (.int .i64 0), (.int .i64 0)] []) fun y18 =>
 exIs y18.1 (some 0) (cnd (chkL [(.sl false), (.int .i64), (.int .i64)] y18.2.1) (cnd (chkU [] y18.2.2)
 (some ((.int .i64 (intV (gt y18.2.1 1))), [])) none) none)
 (none)
noncomputable def seinelaw8_lightParams_l1T (l0 : List GParam) : (Int × Int) → Option ((Int × Int) ⊕ Int)
 | (n_8, i_9) =>
 cnd (decide (i_9 < (List.length l0 : Int)))
  (bnd (nthI l0 i_9) fun y11 =>
  bnd (nthI l0 i_9) fun y13 =>
  bnd (seinekeep_Size y13.default) fun y15 =>
  some (.inl ((IntKind.wrap .i64 ((IntKind.wrap .i64 ((IntKind.wrap .i64 (n_8 + 1)) + (List.length y11.name : Int))) + y15)), (IntKind.wrap .i64 (i_9 + 1)))))
  (some (.inr n_8))
abbrev seinelaw8_lightParams_l1R (l0 : List GParam) (st : Int × Int) (l : List PV) (u : UP) : Prop := l = [(.slice (List.map encParam l0) [] false), (.int .i64 st.1), (.int .i64 st.2)] ∧ u = []
abbrev seinelaw8_lightParams_l1X (l0 : List GParam) (p : Int) (r : Ex × List PV × UP) : Prop := (fun (p : Int) => ∃ (i_17 : Int), r = (Ex.brk 0, [(.slice (List.map encParam l0) [] false), (.int .i64 p), (.int .i64 i_17)], [])) p
noncomputable def seinelaw8_lightParams_B (l0 : List GParam) : Option Int :=
 bnd (tloop (seinelaw8_lightParams_l1T l0) (0, 0)) fun n_16 =>
 some n_16
def seinelaw8_lightParams_ds : Decs := { decs := [(15, (.ref shParam)), (22, (.ref shParam)), (25, (.int .i64))], ups := [], loops := [(3, [], ⟨[(.sl false), (.int .i64), (.int .i64)], [], [(some 0, [(.sl false), (.int .i64), (.int .i64)], [])]⟩)] }
set_option maxRecDepth 100000 in
theorem seinelaw8_lightParams_t1 (O : Orc) (LP : LBody → LBody) (l0 : List GParam) : evalBodyD Try.prog (MT 51) seinelaw8_lightParams_ds Try.f51.ntmps O LP Try.f51 [(.slice (List.map encParam l0) [] false)] [] = seinelaw8_lightParams_T1 O LP l0 := by kernel_rfl
theorem seinelaw8_lightParams_l1_ok (l0 : List GParam) : ∀ st l u, seinelaw8_lightParams_l1R l0 st l u → Imp (seinelaw8_lightParams_l1T l0 st) (seinelaw8_lightParams_l1 O loopLim l u) (StepR (seinelaw8_lightParams_l1R l0) (seinelaw8_lightParams_l1X l0)) := by
 rintro ⟨n_8, i_9⟩ l u ⟨rfl, rfl⟩
 simp only [seinelaw8_lightParams_l1T, seinelaw8_lightParams_l1]
 refine Imp.chk rfl (Imp.chk rfl ?_)
 try simp only [evs, tys]
 refine Imp.cnd ?_ ?_
 ·refine Imp.op (f := fun a => .ref (encParam a)) (fun a h => op_ix (enc := encParam) (by first | rfl | simp only [evs, tys, evl]) ⟨by first | rfl | simp only [evs, tys, evc], by decide⟩ h) (fun a => chk_GParam a) fun y11 hy11 => ?_
  try simp only [evs, tys]
  refine Imp.op (f := fun a => .ref (encParam a)) (fun a h => op_ix (enc := encParam) (by first | rfl | simp only [evs, tys, evl]) ⟨by first | rfl | simp only [evs, tys, evc], by decide⟩ h) (fun a => chk_GParam a) fun y13 hy13 => ?_
  try simp only [evs, tys]
  refine Imp.call (f := seinekeep_SizeE) rfl (fun a h => by first | exact seinekeep_Size_spec h | simpa only [evs, tys, evl] using seinekeep_Size_spec h) (fun a => by first | rfl | simp only [seinekeep_SizeE, evk, chks]) fun y15 hy15 => ?_
  try simp only [seinekeep_SizeE, evs, tys]
  exact Imp.some (StepR.next ⟨by first | rfl | simp only [evs, tys, evl], rfl⟩)
 ·exact Imp.some (StepR.brk ⟨i_9, by first | rfl | simp only [evs, tys, evl, elim_inl, elim_inr]⟩)
theorem seinelaw8_lightParams_imp (l0 : List GParam) : Imp (seinelaw8_lightParams_B l0) (seinelaw8_lightParams_T1 O loopLim l0) (fun r v => v = (seinelaw8_lightParamsE r, [])) := by
 simp only [seinelaw8_lightParams_B, seinelaw8_lightParams_T1]
 try simp only [evs, tys]
 refine Imp.bnd (Imp.loop (seinelaw8_lightParams_l1_ok l0) ⟨by first | rfl | simp only [evs, tys, evl], rfl⟩) ?_
 rintro n_16 vy18 hy18
 obtain ⟨i_17, rfl⟩ := hy18
 refine Imp.exHit rfl (Imp.chk rfl (Imp.chk rfl ?_))
 try simp only [evs, tys]
 exact Imp.some (by first | rfl | simp only [seinelaw8_lightParamsE, evs, tys, evl])
theorem seinelaw8_lightParams_run {l0 : List GParam} {r : Int} (h : seinelaw8_lightParams_B l0 = some r) : seinelaw8_lightParams l0 = some r := by
 obtain ⟨v, hv, rfl⟩ := seinelaw8_lightParams_imp l0 r h
 exact tO_of (pair_inj seinelaw8_lightParamsEj) (OL_runD seinelaw8_lightParams_ds rfl rfl Try.func51 ((seinelaw8_lightParams_t1 _ _ l0).trans hv))
def seinelaw8_lightDirs_l1 (O : Orc) (LP : LBody → LBody) : LBody := fun s1 s1u => cnd (chkL [(.sl false), (.int .i64), (.int .i64)] s1) (cnd (chkU [] s1u)
 (cnd (decide ((intV (gt s1 2)) < (List.length (esV (gt s1 0)) : Int)))
 (bnd (ix 2 (.slice (esV (gt s1 0)) [] false) (.int .i64 (intV (gt s1 2)))) fun x10 => cnd (chk (.ref shDir) x10)
 (bnd (ix 2 (.slice (esV (gt s1 0)) [] false) (.int .i64 (intV (gt s1 2)))) fun x12 => cnd (chk (.ref shDir) x12)
 (callp O 12 [(.agg [(.int .i64 0), (.int .i64 0), (.str []), (.slice [] [] false), (.slice (esV (gt (aggV (refV x12)) 1)) [] false)])] fun x14 => cnd (chk (.int .i64) x14)
 (some (.nrm, [(.slice (esV (gt s1 0)) [] false), (.int .i64 (IntKind.wrap .i64 ((IntKind.wrap .i64 ((IntKind.wrap .i64 ((intV (gt s1 1)) + 1)) + (List.length (strV (gt (aggV (refV x10)) 0)) : Int))) + (intV x14)))), (.int .i64 (IntKind.wrap .i64 ((intV (gt s1 2)) + 1)))], [])) none) none) none)
 (some (.brk 0, [(.slice (esV (gt s1 0)) [] false), (.int .i64 (intV (gt s1 1))), (.int .i64 (intV (gt s1 2)))], []))) none) none
def seinelaw8_lightDirs_T1 (O : Orc) (LP : LBody → LBody) (l0 : List GDir) : Option (PV × UP) :=
 bnd (LP (seinelaw8_lightDirs_l1 O LP) [(.slice (List.map encDir l0) [] false), (.int .i64 0), (.int .i64 0)] []) fun y18 =>
 exIs y18.1 (some 0) (cnd (chkL [(.sl false), (.int .i64), (.int .i64)] y18.2.1) (cnd (chkU [] y18.2.2)
 (some ((.int .i64 (intV (gt y18.2.1 1))), [])) none) none)
 (none)
noncomputable def seinelaw8_lightDirs_l1T (l0 : List GDir) : (Int × Int) → Option ((Int × Int) ⊕ Int)
 | (n_8, i_9) =>
 cnd (decide (i_9 < (List.length l0 : Int)))
  (bnd (nthI l0 i_9) fun y11 =>
  bnd (nthI l0 i_9) fun y13 =>
  bnd (seinekeep_Size (GValue.mk 0 0 [] ([] : List GValue) y13.args)) fun y15 =>
  some (.inl ((IntKind.wrap .i64 ((IntKind.wrap .i64 ((IntKind.wrap .i64 (n_8 + 1)) + (List.length y11.name : Int))) + y15)), (IntKind.wrap .i64 (i_9 + 1)))))
  (some (.inr n_8))
abbrev seinelaw8_lightDirs_l1R (l0 : List GDir) (st : Int × Int) (l : List PV) (u : UP) : Prop := l = [(.slice (List.map encDir l0) [] false), (.int .i64 st.1), (.int .i64 st.2)] ∧ u = []
abbrev seinelaw8_lightDirs_l1X (l0 : List GDir) (p : Int) (r : Ex × List PV × UP) : Prop := (fun (p : Int) => ∃ (i_17 : Int), r = (Ex.brk 0, [(.slice (List.map encDir l0) [] false), (.int .i64 p), (.int .i64 i_17)], [])) p
noncomputable def seinelaw8_lightDirs_B (l0 : List GDir) : Option Int :=
 bnd (tloop (seinelaw8_lightDirs_l1T l0) (0, 0)) fun n_16 =>
 some n_16
def seinelaw8_lightDirs_ds : Decs := { decs := [(15, (.ref shDir)), (22, (.ref shDir)), (26, (.int .i64))], ups := [], loops := [(3, [], ⟨[(.sl false), (.int .i64), (.int .i64)], [], [(some 0, [(.sl false), (.int .i64), (.int .i64)], [])]⟩)] }
set_option maxRecDepth 100000 in
theorem seinelaw8_lightDirs_t1 (O : Orc) (LP : LBody → LBody) (l0 : List GDir) : evalBodyD Try.prog (MT 52) seinelaw8_lightDirs_ds Try.f52.ntmps O LP Try.f52 [(.slice (List.map encDir l0) [] false)] [] = seinelaw8_lightDirs_T1 O LP l0 := by kernel_rfl
theorem seinelaw8_lightDirs_l1_ok (l0 : List GDir) : ∀ st l u, seinelaw8_lightDirs_l1R l0 st l u → Imp (seinelaw8_lightDirs_l1T l0 st) (seinelaw8_lightDirs_l1 O loopLim l u) (StepR (seinelaw8_lightDirs_l1R l0) (seinelaw8_lightDirs_l1X l0)) := by
 rintro ⟨n_8, i_9⟩ l u ⟨rfl, rfl⟩
 simp only [seinelaw8_lightDirs_l1T, seinelaw8_lightDirs_l1]
 refine Imp.chk rfl (Imp.chk rfl ?_)
 try simp only [evs, tys]
 refine Imp.cnd ?_ ?_
 ·refine Imp.op (f := fun a => .ref (encDir a)) (fun a h => op_ix (enc := encDir) (by first | rfl | simp only [evs, tys, evl]) ⟨by first | rfl | simp only [evs, tys, evc], by decide⟩ h) (fun a => chk_GDir a) fun y11 hy11 => ?_
  try simp only [evs, tys]
  refine Imp.op (f := fun a => .ref (encDir a)) (fun a h => op_ix (enc := encDir) (by first | rfl | simp only [evs, tys, evl]) ⟨by first | rfl | simp only [evs, tys, evc], by decide⟩ h) (fun a => chk_GDir a) fun y13 hy13 => ?_
  try simp only [evs, tys]
  refine Imp.call (f := seinekeep_SizeE) rfl (fun a h => by first | exact seinekeep_Size_spec h | simpa only [evs, tys, evl] using seinekeep_Size_spec h) (fun a => by first | rfl | simp only [seinekeep_SizeE, evk, chks]) fun y15 hy15 => ?_
  try simp only [seinekeep_SizeE, evs, tys]
  exact Imp.some (StepR.next ⟨by first | rfl | simp only [evs, tys, evl], rfl⟩)
 ·exact Imp.some (StepR.brk ⟨i_9, by first | rfl | simp only [evs, tys, evl, elim_inl, elim_inr]⟩)
theorem seinelaw8_lightDirs_imp (l0 : List GDir) : Imp (seinelaw8_lightDirs_B l0) (seinelaw8_lightDirs_T1 O loopLim l0) (fun r v => v = (seinelaw8_lightDirsE r, [])) := by
 simp only [seinelaw8_lightDirs_B, seinelaw8_lightDirs_T1]
 try simp only [evs, tys]
 refine Imp.bnd (Imp.loop (seinelaw8_lightDirs_l1_ok l0) ⟨by first | rfl | simp only [evs, tys, evl], rfl⟩) ?_
 rintro n_16 vy18 hy18
 obtain ⟨i_17, rfl⟩ := hy18
 refine Imp.exHit rfl (Imp.chk rfl (Imp.chk rfl ?_))
 try simp only [evs, tys]
 exact Imp.some (by first | rfl | simp only [seinelaw8_lightDirsE, evs, tys, evl])
theorem seinelaw8_lightDirs_run {l0 : List GDir} {r : Int} (h : seinelaw8_lightDirs_B l0 = some r) : seinelaw8_lightDirs l0 = some r := by
 obtain ⟨v, hv, rfl⟩ := seinelaw8_lightDirs_imp l0 r h
 exact tO_of (pair_inj seinelaw8_lightDirsEj) (OL_runD seinelaw8_lightDirs_ds rfl rfl Try.func52 ((seinelaw8_lightDirs_t1 _ _ l0).trans hv))
def seinelaw7_lightDirs_l1 (O : Orc) (LP : LBody → LBody) : LBody := fun s1 s1u => cnd (chkL [(.sl false), (.int .i64), (.int .i64)] s1) (cnd (chkU [] s1u)
 (cnd (decide ((intV (gt s1 2)) < (List.length (esV (gt s1 0)) : Int)))
 (bnd (ix 2 (.slice (esV (gt s1 0)) [] false) (.int .i64 (intV (gt s1 2)))) fun x10 => cnd (chk (.ref shDir) x10)
 (bnd (ix 2 (.slice (esV (gt s1 0)) [] false) (.int .i64 (intV (gt s1 2)))) fun x12 => cnd (chk (.ref shDir) x12)
 (callp O 12 [(.agg [(.int .i64 0), (.int .i64 0), (.str []), (.slice [] [] false), (.slice (esV (gt (aggV (refV x12)) 1)) [] false)])] fun x14 => cnd (chk (.int .i64) x14)
 (some (.nrm, [(.slice (esV (gt s1 0)) [] false), (.int .i64 (IntKind.wrap .i64 ((IntKind.wrap .i64 ((IntKind.wrap .i64 ((intV (gt s1 1)) + 1)) + (List.length (strV (gt (aggV (refV x10)) 0)) : Int))) + (intV x14)))), (.int .i64 (IntKind.wrap .i64 ((intV (gt s1 2)) + 1)))], [])) none) none) none)
 (some (.brk 0, [(.slice (esV (gt s1 0)) [] false), (.int .i64 (intV (gt s1 1))), (.int .i64 (intV (gt s1 2)))], []))) none) none
def seinelaw7_lightDirs_T1 (O : Orc) (LP : LBody → LBody) (l0 : List GDir) : Option (PV × UP) :=
 bnd (LP (seinelaw7_lightDirs_l1 O LP) [(.slice (List.map encDir l0) [] false), (.int .i64 0), (.int .i64 0)] []) fun y18 =>
 exIs y18.1 (some 0) (cnd (chkL [(.sl false), (.int .i64), (.int .i64)] y18.2.1) (cnd (chkU [] y18.2.2)
 (some ((.int .i64 (intV (gt y18.2.1 1))), [])) none) none)
 (none)
noncomputable def seinelaw7_lightDirs_l1T (l0 : List GDir) : (Int × Int) → Option ((Int × Int) ⊕ Int)
 | (n_8, i_9) =>
 cnd (decide (i_9 < (List.length l0 : Int)))
  (bnd (nthI l0 i_9) fun y11 =>
  bnd (nthI l0 i_9) fun y13 =>
  bnd (seinekeep_Size (GValue.mk 0 0 [] ([] : List GValue) y13.args)) fun y15 =>
  some (.inl ((IntKind.wrap .i64 ((IntKind.wrap .i64 ((IntKind.wrap .i64 (n_8 + 1)) + (List.length y11.name : Int))) + y15)), (IntKind.wrap .i64 (i_9 + 1)))))
  (some (.inr n_8))
abbrev seinelaw7_lightDirs_l1R (l0 : List GDir) (st : Int × Int) (l : List PV) (u : UP) : Prop := l = [(.slice (List.map encDir l0) [] false), (.int .i64 st.1), (.int .i64 st.2)] ∧ u = []
abbrev seinelaw7_lightDirs_l1X (l0 : List GDir) (p : Int) (r : Ex × List PV × UP) : Prop := (fun (p : Int) => ∃ (i_17 : Int), r = (Ex.brk 0, [(.slice (List.map encDir l0) [] false), (.int .i64 p), (.int .i64 i_17)], [])) p
noncomputable def seinelaw7_lightDirs_B (l0 : List GDir) : Option Int :=
 bnd (tloop (seinelaw7_lightDirs_l1T l0) (0, 0)) fun n_16 =>
 some n_16
def seinelaw7_lightDirs_ds : Decs := { decs := [(15, (.ref shDir)), (22, (.ref shDir)), (26, (.int .i64))], ups := [], loops := [(3, [], ⟨[(.sl false), (.int .i64), (.int .i64)], [], [(some 0, [(.sl false), (.int .i64), (.int .i64)], [])]⟩)] }
set_option maxRecDepth 100000 in
theorem seinelaw7_lightDirs_t1 (O : Orc) (LP : LBody → LBody) (l0 : List GDir) : evalBodyD Try.prog (MT 53) seinelaw7_lightDirs_ds Try.f53.ntmps O LP Try.f53 [(.slice (List.map encDir l0) [] false)] [] = seinelaw7_lightDirs_T1 O LP l0 := by kernel_rfl
theorem seinelaw7_lightDirs_l1_ok (l0 : List GDir) : ∀ st l u, seinelaw7_lightDirs_l1R l0 st l u → Imp (seinelaw7_lightDirs_l1T l0 st) (seinelaw7_lightDirs_l1 O loopLim l u) (StepR (seinelaw7_lightDirs_l1R l0) (seinelaw7_lightDirs_l1X l0)) := by
 rintro ⟨n_8, i_9⟩ l u ⟨rfl, rfl⟩
 simp only [seinelaw7_lightDirs_l1T, seinelaw7_lightDirs_l1]
 refine Imp.chk rfl (Imp.chk rfl ?_)
 try simp only [evs, tys]
 refine Imp.cnd ?_ ?_
 ·refine Imp.op (f := fun a => .ref (encDir a)) (fun a h => op_ix (enc := encDir) (by first | rfl | simp only [evs, tys, evl]) ⟨by first | rfl | simp only [evs, tys, evc], by decide⟩ h) (fun a => chk_GDir a) fun y11 hy11 => ?_
  try simp only [evs, tys]
  refine Imp.op (f := fun a => .ref (encDir a)) (fun a h => op_ix (enc := encDir) (by first | rfl | simp only [evs, tys, evl]) ⟨by first | rfl | simp only [evs, tys, evc], by decide⟩ h) (fun a => chk_GDir a) fun y13 hy13 => ?_
  try simp only [evs, tys]
  refine Imp.call (f := seinekeep_SizeE) rfl (fun a h => by first | exact seinekeep_Size_spec h | simpa only [evs, tys, evl] using seinekeep_Size_spec h) (fun a => by first | rfl | simp only [seinekeep_SizeE, evk, chks]) fun y15 hy15 => ?_
  try simp only [seinekeep_SizeE, evs, tys]
  exact Imp.some (StepR.next ⟨by first | rfl | simp only [evs, tys, evl], rfl⟩)
 ·exact Imp.some (StepR.brk ⟨i_9, by first | rfl | simp only [evs, tys, evl, elim_inl, elim_inr]⟩)
theorem seinelaw7_lightDirs_imp (l0 : List GDir) : Imp (seinelaw7_lightDirs_B l0) (seinelaw7_lightDirs_T1 O loopLim l0) (fun r v => v = (seinelaw7_lightDirsE r, [])) := by
 simp only [seinelaw7_lightDirs_B, seinelaw7_lightDirs_T1]
 try simp only [evs, tys]
 refine Imp.bnd (Imp.loop (seinelaw7_lightDirs_l1_ok l0) ⟨by first | rfl | simp only [evs, tys, evl], rfl⟩) ?_
 rintro n_16 vy18 hy18
 obtain ⟨i_17, rfl⟩ := hy18
 refine Imp.exHit rfl (Imp.chk rfl (Imp.chk rfl ?_))
 try simp only [evs, tys]
 exact Imp.some (by first | rfl | simp only [seinelaw7_lightDirsE, evs, tys, evl])
theorem seinelaw7_lightDirs_run {l0 : List GDir} {r : Int} (h : seinelaw7_lightDirs_B l0 = some r) : seinelaw7_lightDirs l0 = some r := by
 obtain ⟨v, hv, rfl⟩ := seinelaw7_lightDirs_imp l0 r h
 exact tO_of (pair_inj seinelaw7_lightDirsEj) (OL_runD seinelaw7_lightDirs_ds rfl rfl Try.func53 ((seinelaw7_lightDirs_t1 _ _ l0).trans hv))
def seinelaw7_lightSels_l1 (O : Orc) (LP : LBody → LBody) : LBody := fun s1 s1u => cnd (chkL [(.sl false), (.int .i64), (.int .i64)] s1) (cnd (chkU [] s1u)
 (cnd (decide ((intV (gt s1 2)) < (List.length (esV (gt s1 0)) : Int)))
 (bnd (ix 7 (.slice (esV (gt s1 0)) [] false) (.int .i64 (intV (gt s1 2)))) fun x22 => cnd (chk (.ref shSel) x22)
 (bnd (ix 7 (.slice (esV (gt s1 0)) [] false) (.int .i64 (intV (gt s1 2)))) fun x24 => cnd (chk (.ref shSel) x24)
 (bnd (ix 7 (.slice (esV (gt s1 0)) [] false) (.int .i64 (intV (gt s1 2)))) fun x26 => cnd (chk (.ref shSel) x26)
 (bnd (ix 7 (.slice (esV (gt s1 0)) [] false) (.int .i64 (intV (gt s1 2)))) fun x28 => cnd (chk (.ref shSel) x28)
 (callp O 12 [(.agg [(.int .i64 0), (.int .i64 0), (.str []), (.slice [] [] false), (.slice (esV (gt (aggV (refV x28)) 3)) [] false)])] fun x30 => cnd (chk (.int .i64) x30)
 (bnd (ix 7 (.slice (esV (gt s1 0)) [] false) (.int .i64 (intV (gt s1 2)))) fun x32 => cnd (chk (.ref shSel) x32)
 (callp O 53 [(.slice (esV (gt (aggV (refV x32)) 4)) [] false)] fun x34 => cnd (chk (.int .i64) x34)
 (bnd (ix 7 (.slice (esV (gt s1 0)) [] false) (.int .i64 (intV (gt s1 2)))) fun x36 => cnd (chk (.ref shSel) x36)
 (callp O 54 [(.slice (esV (gt (aggV (refV x36)) 6)) [] false)] fun x38 => cnd (chk (.int .i64) x38)
 (some (.nrm, [(.slice (esV (gt s1 0)) [] false), (.int .i64 (IntKind.wrap .i64 ((IntKind.wrap .i64 ((IntKind.wrap .i64 ((IntKind.wrap .i64 ((IntKind.wrap .i64 ((IntKind.wrap .i64 ((IntKind.wrap .i64 ((intV (gt s1 1)) + 1)) + (List.length (strV (gt (aggV (refV x22)) 2)) : Int))) + (List.length (strV (gt (aggV (refV x24)) 1)) : Int))) + (List.length (strV (gt (aggV (refV x26)) 5)) : Int))) + (intV x30))) + (intV x34))) + (intV x38)))), (.int .i64 (IntKind.wrap .i64 ((intV (gt s1 2)) + 1)))], [])) none) none) none) none) none) none) none) none) none)
 (some (.brk 0, [(.slice (esV (gt s1 0)) [] false), (.int .i64 (intV (gt s1 1))), (.int .i64 (intV (gt s1 2)))], []))) none) none
def seinelaw7_lightSels_T1 (O : Orc) (LP : LBody → LBody) (l0 : List GSel) : Option (PV × UP) :=
 bnd (LP (seinelaw7_lightSels_l1 O LP) [(.slice (List.map encSel l0) [] false), (.int .i64 0), (.int .i64 0)] []) fun y42 =>
 exIs y42.1 (some 0) (cnd (chkL [(.sl false), (.int .i64), (.int .i64)] y42.2.1) (cnd (chkU [] y42.2.2)
 (some ((.int .i64 (intV (gt y42.2.1 1))), [])) none) none)
 (none)
noncomputable def seinelaw7_lightSels_l1T (l0 : List GSel) : (Int × Int) → Option ((Int × Int) ⊕ Int)
 | (n_20, i_21) =>
 cnd (decide (i_21 < (List.length l0 : Int)))
  (bnd (nthI l0 i_21) fun y23 =>
  bnd (nthI l0 i_21) fun y25 =>
  bnd (nthI l0 i_21) fun y27 =>
  bnd (nthI l0 i_21) fun y29 =>
  bnd (seinekeep_Size (GValue.mk 0 0 [] ([] : List GValue) y29.args)) fun y31 =>
  bnd (nthI l0 i_21) fun y33 =>
  bnd (seinelaw7_lightDirs y33.dirs) fun y35 =>
  bnd (nthI l0 i_21) fun y37 =>
  bnd (seinelaw7_lightSels y37.sels) fun y39 =>
  some (.inl ((IntKind.wrap .i64 ((IntKind.wrap .i64 ((IntKind.wrap .i64 ((IntKind.wrap .i64 ((IntKind.wrap .i64 ((IntKind.wrap .i64 ((IntKind.wrap .i64 (n_20 + 1)) + (List.length y23.name : Int))) + (List.length y25.alias : Int))) + (List.length y27.on_ : Int))) + y31)) + y35)) + y39)), (IntKind.wrap .i64 (i_21 + 1)))))
  (some (.inr n_20))
abbrev seinelaw7_lightSels_l1R (l0 : List GSel) (st : Int × Int) (l : List PV) (u : UP) : Prop := l = [(.slice (List.map encSel l0) [] false), (.int .i64 st.1), (.int .i64 st.2)] ∧ u = []
abbrev seinelaw7_lightSels_l1X (l0 : List GSel) (p : Int) (r : Ex × List PV × UP) : Prop := (fun (p : Int) => ∃ (i_41 : Int), r = (Ex.brk 0, [(.slice (List.map encSel l0) [] false), (.int .i64 p), (.int .i64 i_41)], [])) p
noncomputable def seinelaw7_lightSels_B (l0 : List GSel) : Option Int :=
 bnd (tloop (seinelaw7_lightSels_l1T l0) (0, 0)) fun n_40 =>
 some n_40
def seinelaw7_lightSels_ds : Decs := { decs := [(15, (.ref shSel)), (22, (.ref shSel)), (29, (.ref shSel)), (36, (.ref shSel)), (40, (.int .i64)), (44, (.ref shSel)), (47, (.int .i64)), (51, (.ref shSel)), (54, (.int .i64))], ups := [], loops := [(3, [], ⟨[(.sl false), (.int .i64), (.int .i64)], [], [(some 0, [(.sl false), (.int .i64), (.int .i64)], [])]⟩)] }
set_option maxRecDepth 100000 in
theorem seinelaw7_lightSels_t1 (O : Orc) (LP : LBody → LBody) (l0 : List GSel) : evalBodyD Try.prog (MT 54) seinelaw7_lightSels_ds Try.f54.ntmps O LP Try.f54 [(.slice (List.map encSel l0) [] false)] [] = seinelaw7_lightSels_T1 O LP l0 := by kernel_rfl
theorem seinelaw7_lightSels_l1_ok (l0 : List GSel) : ∀ st l u, seinelaw7_lightSels_l1R l0 st l u → Imp (seinelaw7_lightSels_l1T l0 st) (seinelaw7_lightSels_l1 O loopLim l u) (StepR (seinelaw7_lightSels_l1R l0) (seinelaw7_lightSels_l1X l0)) := by
 rintro ⟨n_20, i_21⟩ l u ⟨rfl, rfl⟩
 simp only [seinelaw7_lightSels_l1T, seinelaw7_lightSels_l1]
 refine Imp.chk rfl (Imp.chk rfl ?_)
 try simp only [evs, tys]
 refine Imp.cnd ?_ ?_
 ·refine Imp.op (f := fun a => .ref (encSel a)) (fun a h => op_ix (enc := encSel) (by first | rfl | simp only [evs, tys, evl]) ⟨by first | rfl | simp only [evs, tys, evc], by decide⟩ h) (fun a => chk_GSel a) fun y23 hy23 => ?_
  try simp only [evs, tys]
  refine Imp.op (f := fun a => .ref (encSel a)) (fun a h => op_ix (enc := encSel) (by first | rfl | simp only [evs, tys, evl]) ⟨by first | rfl | simp only [evs, tys, evc], by decide⟩ h) (fun a => chk_GSel a) fun y25 hy25 => ?_
  try simp only [evs, tys]
  refine Imp.op (f := fun a => .ref (encSel a)) (fun a h => op_ix (enc := encSel) (by first | rfl | simp only [evs, tys, evl]) ⟨by first | rfl | simp only [evs, tys, evc], by decide⟩ h) (fun a => chk_GSel a) fun y27 hy27 => ?_
  try simp only [evs, tys]
  refine Imp.op (f := fun a => .ref (encSel a)) (fun a h => op_ix (enc := encSel) (by first | rfl | simp only [evs, tys, evl]) ⟨by first | rfl | simp only [evs, tys, evc], by decide⟩ h) (fun a => chk_GSel a) fun y29 hy29 => ?_
  try simp only [evs, tys]
  refine Imp.call (f := seinekeep_SizeE) rfl (fun a h => by first | exact seinekeep_Size_spec h | simpa only [evs, tys, evl] using seinekeep_Size_spec h) (fun a => by first | rfl | simp only [seinekeep_SizeE, evk, chks]) fun y31 hy31 => ?_
  try simp only [seinekeep_SizeE, evs, tys]
  refine Imp.op (f := fun a => .ref (encSel a)) (fun a h => op_ix (enc := encSel) (by first | rfl | simp only [evs, tys, evl]) ⟨by first | rfl | simp only [evs, tys, evc], by decide⟩ h) (fun a => chk_GSel a) fun y33 hy33 => ?_
  try simp only [evs, tys]
  refine Imp.call (f := seinelaw7_lightDirsE) rfl (fun a h => by first | exact seinelaw7_lightDirs_spec h | simpa only [evs, tys, evl] using seinelaw7_lightDirs_spec h) (fun a => by first | rfl | simp only [seinelaw7_lightDirsE, evk, chks]) fun y35 hy35 => ?_
  try simp only [seinelaw7_lightDirsE, evs, tys]
  refine Imp.op (f := fun a => .ref (encSel a)) (fun a h => op_ix (enc := encSel) (by first | rfl | simp only [evs, tys, evl]) ⟨by first | rfl | simp only [evs, tys, evc], by decide⟩ h) (fun a => chk_GSel a) fun y37 hy37 => ?_
  try simp only [evs, tys]
  refine Imp.call (f := seinelaw7_lightSelsE) rfl (fun a h => by first | exact seinelaw7_lightSels_spec h | simpa only [evs, tys, evl] using seinelaw7_lightSels_spec h) (fun a => by first | rfl | simp only [seinelaw7_lightSelsE, evk, chks]) fun y39 hy39 => ?_
  try simp only [seinelaw7_lightSelsE, evs, tys]
  exact Imp.some (StepR.next ⟨by first | rfl | simp only [evs, tys, evl], rfl⟩)
 ·exact Imp.some (StepR.brk ⟨i_21, by first | rfl | simp only [evs, tys, evl, elim_inl, elim_inr]⟩)
theorem seinelaw7_lightSels_imp (l0 : List GSel) : Imp (seinelaw7_lightSels_B l0) (seinelaw7_lightSels_T1 O loopLim l0) (fun r v => v = (seinelaw7_lightSelsE r, [])) := by
 simp only [seinelaw7_lightSels_B, seinelaw7_lightSels_T1]
 try simp only [evs, tys]
 refine Imp.bnd (Imp.loop (seinelaw7_lightSels_l1_ok l0) ⟨by first | rfl | simp only [evs, tys, evl], rfl⟩) ?_
 rintro n_40 vy42 hy42
 obtain ⟨i_41, rfl⟩ := hy42
 refine Imp.exHit rfl (Imp.chk rfl (Imp.chk rfl ?_))
 try simp only [evs, tys]
 exact Imp.some (by first | rfl | simp only [seinelaw7_lightSelsE, evs, tys, evl])
theorem seinelaw7_lightSels_run {l0 : List GSel} {r : Int} (h : seinelaw7_lightSels_B l0 = some r) : seinelaw7_lightSels l0 = some r := by
 obtain ⟨v, hv, rfl⟩ := seinelaw7_lightSels_imp l0 r h
 exact tO_of (pair_inj seinelaw7_lightSelsEj) (OL_runD seinelaw7_lightSels_ds rfl rfl Try.func54 ((seinelaw7_lightSels_t1 _ _ l0).trans hv))
def collect_yes_T1 (O : Orc) (LP : LBody → LBody) (env : List GMember) (d : GDir) : Option (PV × UP) :=
 callp O 57 [(.str [105, 102]), (.slice (List.map encMember d.args) [] false)] fun x1 => cnd (chk (.tup [shValue, .bool]) x1)
 (cnd ((intV (gt (aggV (gt (tupV x1) 0)) 0)) == 8)
 (callp O 57 [(.str (strV (gt (aggV (gt (tupV x1) 0)) 2))), (.slice (List.map encMember env) [] false)] fun x3 => cnd (chk (.tup [shValue, .bool]) x3)
 (cnd ((intV (gt (aggV (gt (tupV x3) 0)) 0)) == 1)
 (some ((.bool ((intV (gt (aggV (gt (tupV x3) 0)) 1)) == 1)), []))
 (some ((.bool false), []))) none)
 (cnd ((intV (gt (aggV (gt (tupV x1) 0)) 0)) == 1)
 (some ((.bool ((intV (gt (aggV (gt (tupV x1) 0)) 1)) == 1)), []))
 (some ((.bool false), [])))) none
noncomputable def collect_yes_B (env : List GMember) (d : GDir) : Option Bool :=
 bnd (value_Get [105, 102] d.args) fun y2 =>
 cnd (y2.1.kind == 8)
 (bnd (value_Get y2.1.s env) fun y4 =>
 cnd (y4.1.kind == 1)
 (some (y4.1.n == 1))
 (some false))
 (cnd (y2.1.kind == 1)
 (some (y2.1.n == 1))
 (some false))
def collect_yes_ds : Decs := { decs := [(10, (.tup [shValue, .bool])), (20, (.tup [shValue, .bool]))], ups := [], loops := [] }
set_option maxRecDepth 100000 in
theorem collect_yes_t1 (O : Orc) (LP : LBody → LBody) (env : List GMember) (d : GDir) : evalBodyD Try.prog (MT 68) collect_yes_ds Try.f68.ntmps O LP Try.f68 [(.slice (List.map encMember env) [] false), (.agg [(.str d.name), (.slice (List.map encMember d.args) [] false)])] [] = collect_yes_T1 O LP env d := by kernel_rfl
theorem collect_yes_imp (env : List GMember) (d : GDir) : Imp (collect_yes_B env d) (collect_yes_T1 O loopLim env d) (fun r v => v = (collect_yesE r, [])) := by
 simp only [collect_yes_B, collect_yes_T1]
 try simp only [evs, tys]
 refine Imp.call (f := value_GetE) rfl (fun a h => by first | exact value_Get_spec h | simpa only [evs, tys, evl] using value_Get_spec h) (fun a => by first | rfl | simp only [value_GetE, evk, chks]) fun y2 hy2 => ?_
 try simp only [value_GetE, evs, tys]
 refine Imp.cnd ?_ ?_
 ·refine Imp.call (f := value_GetE) rfl (fun a h => by first | exact value_Get_spec h | simpa only [evs, tys, evl] using value_Get_spec h) (fun a => by first | rfl | simp only [value_GetE, evk, chks]) fun y4 hy4 => ?_
  try simp only [value_GetE, evs, tys]
  refine Imp.cnd ?_ ?_
  ·exact Imp.some (by first | rfl | simp only [collect_yesE, evs, tys, evl])
  ·exact Imp.some (by first | rfl | simp only [collect_yesE, evs, tys, evl])
 ·refine Imp.cnd ?_ ?_
  ·exact Imp.some (by first | rfl | simp only [collect_yesE, evs, tys, evl])
  ·exact Imp.some (by first | rfl | simp only [collect_yesE, evs, tys, evl])
theorem collect_yes_run {env : List GMember} {d : GDir} {r : Bool} (h : collect_yes_B env d = some r) : collect_yes env d = some r := by
 obtain ⟨v, hv, rfl⟩ := collect_yes_imp env d r h
 exact tO_of (pair_inj collect_yesEj) (OL_runD collect_yes_ds rfl rfl Try.func68 ((collect_yes_t1 _ _ env d).trans hv))
def seinekeep_Value_l1 (O : Orc) (LP : LBody → LBody) : LBody := fun s1 s1u => cnd (chkL [(.ptr 0 1 0), (.ptr 0 2 0), (.sl true), (.int .i64), (.int .i64), (.int .i64), .str, (.sl true), (.sl true), (.int .i64), (.int .i64), .str, (.sl false), (.sl false)] s1) (cnd (chkU [] s1u)
 (cnd (decide ((intV (gt s1 3)) < (List.length (esV (gt s1 12)) : Int)))
 (bnd (ix 5 (.slice (esV (gt s1 12)) [] false) (.int .i64 (intV (gt s1 3)))) fun x10 => cnd (chk (.ref shValue) x10)
 (callp O 65 [(.agg [(.int .i64 (intV (gt (aggV (refV x10)) 0))), (.int .i64 (intV (gt (aggV (refV x10)) 1))), (.str (strV (gt (aggV (refV x10)) 2))), (.slice (esV (gt (aggV (refV x10)) 3)) [] false), (.slice (esV (gt (aggV (refV x10)) 4)) [] false)])] fun x12 => cnd (chk shValue x12)
 (bnd (apd 5 (.slice (esV (gt s1 2)) [] true) (.slice [(.agg [(.int .i64 (intV (gt (aggV x12) 0))), (.int .i64 (intV (gt (aggV x12) 1))), (.str (strV (gt (aggV x12) 2))), (.slice (esV (gt (aggV x12) 3)) [] false), (.slice (esV (gt (aggV x12) 4)) [] false)])] [] true)) fun x14 => cnd (chk (.sl true) x14)
 (some (.nrm, [(.ptr 0 1 0), (.ptr 0 2 0), (.slice (esV x14) [] true), (.int .i64 (IntKind.wrap .i64 ((intV (gt s1 3)) + 1))), (.int .i64 (intV (gt s1 4))), (.int .i64 (intV (gt s1 5))), (.str (strV (gt s1 6))), (.slice (esV (gt s1 7)) [] true), (.slice (esV (gt s1 8)) [] true), (.int .i64 (intV (gt s1 9))), (.int .i64 (intV (gt s1 10))), (.str (strV (gt s1 11))), (.slice (esV (gt s1 12)) [] false), (.slice (esV (gt s1 13)) [] false)], [])) none) none) none)
 (some (.brk 0, [(.ptr 0 1 0), (.ptr 0 2 0), (.slice (esV (gt s1 2)) [] true), (.int .i64 (intV (gt s1 3))), (.int .i64 (intV (gt s1 4))), (.int .i64 (intV (gt s1 5))), (.str (strV (gt s1 6))), (.slice (esV (gt s1 7)) [] true), (.slice (esV (gt s1 8)) [] true), (.int .i64 (intV (gt s1 9))), (.int .i64 (intV (gt s1 10))), (.str (strV (gt s1 11))), (.slice (esV (gt s1 12)) [] false), (.slice (esV (gt s1 13)) [] false)], []))) none) none
def seinekeep_Value_T1 (O : Orc) (LP : LBody → LBody) (v0 : GValue) : Option (PV × UP) :=
 bnd (LP (seinekeep_Value_l1 O LP) [(.ptr 0 1 0), (.ptr 0 2 0), (.slice [] [] true), (.int .i64 0), (.int .i64 0), (.int .i64 0), (.str []), (.slice [] [] true), (.slice [] [] true), (.int .i64 v0.kind), (.int .i64 v0.n), (.str v0.s), (.slice (List.map encValue v0.l) [] false), (.slice (List.map encMember v0.m) [] false)] []) fun y18 =>
 exIs y18.1 (some 0) (cnd (chkL [(.ptr 0 1 0), (.ptr 0 2 0), (.sl true), (.int .i64), (.int .i64), (.int .i64), .str, (.sl true), (.sl true), (.int .i64), (.int .i64), .str, (.sl false), (.sl false)] y18.2.1) (cnd (chkU [] y18.2.2)
 (callp O 36 [(.slice (esV (gt y18.2.1 13)) [] false)] fun x19 => cnd (chk (.sl false) x19)
 (some ((.agg [(.int .i64 (intV (gt y18.2.1 9))), (.int .i64 (intV (gt y18.2.1 10))), (.str (strV (gt y18.2.1 11))), (.slice (esV (gt y18.2.1 2)) [] false), (.slice (esV x19) [] false)]), [])) none) none) none)
 (none)
noncomputable def seinekeep_Value_l1T (v0 : GValue) : ((List GValue) × Int) → Option (((List GValue) × Int) ⊕ ((List GValue)))
 | (l_8, i_9) =>
 cnd (decide (i_9 < (List.length v0.l : Int)))
  (bnd (nthI v0.l i_9) fun y11 =>
  bnd (seinekeep_Value y11) fun y13 =>
  bnd (tapp l_8 [y13]) fun y15 =>
  some (.inl (y15, (IntKind.wrap .i64 (i_9 + 1)))))
  (some (.inr l_8))
abbrev seinekeep_Value_l1R (v0 : GValue) (st : (List GValue) × Int) (l : List PV) (u : UP) : Prop := l = [(.ptr 0 1 0), (.ptr 0 2 0), (.slice (List.map encValue st.1) [] true), (.int .i64 st.2), (.int .i64 0), (.int .i64 0), (.str []), (.slice [] [] true), (.slice [] [] true), (.int .i64 v0.kind), (.int .i64 v0.n), (.str v0.s), (.slice (List.map encValue v0.l) [] false), (.slice (List.map encMember v0.m) [] false)] ∧ u = []
abbrev seinekeep_Value_l1X (v0 : GValue) (p : (List GValue)) (r : Ex × List PV × UP) : Prop := (fun (p : (List GValue)) => ∃ (i_17 : Int), r = (Ex.brk 0, [(.ptr 0 1 0), (.ptr 0 2 0), (.slice (List.map encValue p) [] true), (.int .i64 i_17), (.int .i64 0), (.int .i64 0), (.str []), (.slice [] [] true), (.slice [] [] true), (.int .i64 v0.kind), (.int .i64 v0.n), (.str v0.s), (.slice (List.map encValue v0.l) [] false), (.slice (List.map encMember v0.m) [] false)], [])) p
noncomputable def seinekeep_Value_B (v0 : GValue) : Option GValue :=
 bnd (tloop (seinekeep_Value_l1T v0) ([], 0)) fun l_16 =>
 bnd (seinekeep_Members v0.m) fun y20 =>
 some (GValue.mk v0.kind v0.n v0.s l_16 y20)
def seinekeep_Value_ds : Decs := { decs := [(16, (.ref shValue)), (18, shValue), (20, (.sl true)), (24, (.sl false))], ups := [], loops := [(3, [(2, 5), (1, 5)], ⟨[(.ptr 0 1 0), (.ptr 0 2 0), (.sl true), (.int .i64), (.int .i64), (.int .i64), .str, (.sl true), (.sl true), (.int .i64), (.int .i64), .str, (.sl false), (.sl false)], [], [(some 0, [(.ptr 0 1 0), (.ptr 0 2 0), (.sl true), (.int .i64), (.int .i64), (.int .i64), .str, (.sl true), (.sl true), (.int .i64), (.int .i64), .str, (.sl false), (.sl false)], [])]⟩)] }
set_option maxRecDepth 100000 in
theorem seinekeep_Value_t1 (O : Orc) (LP : LBody → LBody) (v0 : GValue) : evalBodyD Try.prog (MT 65) seinekeep_Value_ds Try.f65.ntmps O LP Try.f65 [(.agg [(.int .i64 v0.kind), (.int .i64 v0.n), (.str v0.s), (.slice (List.map encValue v0.l) [] false), (.slice (List.map encMember v0.m) [] false)])] [] = seinekeep_Value_T1 O LP v0 := by kernel_rfl
theorem seinekeep_Value_l1_ok (v0 : GValue) : ∀ st l u, seinekeep_Value_l1R v0 st l u → Imp (seinekeep_Value_l1T v0 st) (seinekeep_Value_l1 O loopLim l u) (StepR (seinekeep_Value_l1R v0) (seinekeep_Value_l1X v0)) := by
 rintro ⟨l_8, i_9⟩ l u ⟨rfl, rfl⟩
 simp only [seinekeep_Value_l1T, seinekeep_Value_l1]
 refine Imp.chk rfl (Imp.chk rfl ?_)
 try simp only [evs, tys]
 refine Imp.cnd ?_ ?_
 ·refine Imp.op (f := fun a => .ref (encValue a)) (fun a h => op_ix (enc := encValue) (by first | rfl | simp only [evs, tys, evl]) ⟨by first | rfl | simp only [evs, tys, evc], by decide⟩ h) (fun a => chk_GValue a) fun y11 hy11 => ?_
  try simp only [evs, tys]
  refine Imp.call (f := seinekeep_ValueE) rfl (fun a h => by first | exact seinekeep_Value_spec h | simpa only [evs, tys, evl] using seinekeep_Value_spec h) (fun a => by first | rfl | simp only [seinekeep_ValueE, evk, chks]) fun y13 hy13 => ?_
  try simp only [seinekeep_ValueE, evs, tys]
  refine Imp.op (f := fun a => .slice (List.map encValue a) [] true) (fun a h => op_apd (enc := encValue) (by first | rfl | simp only [evs, tys, evl]) (by first | rfl | simp only [evs, tys, evl]) (fun a => by first | rfl | simp only [evs, tys, evc]) h) (fun a => rfl) fun y15 hy15 => ?_
  try simp only [evs, tys]
  exact Imp.some (StepR.next ⟨by first | rfl | simp only [evs, tys, evl], rfl⟩)
 ·exact Imp.some (StepR.brk ⟨i_9, by first | rfl | simp only [evs, tys, evl, elim_inl, elim_inr]⟩)
theorem seinekeep_Value_imp (v0 : GValue) : Imp (seinekeep_Value_B v0) (seinekeep_Value_T1 O loopLim v0) (fun r v => v = (seinekeep_ValueE r, [])) := by
 simp only [seinekeep_Value_B, seinekeep_Value_T1]
 try simp only [evs, tys]
 refine Imp.bnd (Imp.loop (seinekeep_Value_l1_ok v0) ⟨by first | rfl | simp only [evs, tys, evl], rfl⟩) ?_
 rintro l_16 vy18 hy18
 obtain ⟨i_17, rfl⟩ := hy18
 refine Imp.exHit rfl (Imp.chk rfl (Imp.chk rfl ?_))
 try simp only [evs, tys]
 refine Imp.call (f := seinekeep_MembersE) rfl (fun a h => by first | exact seinekeep_Members_spec h | simpa only [evs, tys, evl] using seinekeep_Members_spec h) (fun a => by first | rfl | simp only [seinekeep_MembersE, evk, chks]) fun y20 hy20 => ?_
 try simp only [seinekeep_MembersE, evs, tys]
 exact Imp.some (by first | rfl | simp only [seinekeep_ValueE, evs, tys, evl])
theorem seinekeep_Value_run {v0 : GValue} {r : GValue} (h : seinekeep_Value_B v0 = some r) : seinekeep_Value v0 = some r := by
 obtain ⟨v, hv, rfl⟩ := seinekeep_Value_imp v0 r h
 exact tO_of (pair_inj seinekeep_ValueEj) (OL_runD seinekeep_Value_ds rfl rfl Try.func65 ((seinekeep_Value_t1 _ _ v0).trans hv))
def seineref1_Get_l1 (O : Orc) (LP : LBody → LBody) : LBody := fun s1 s1u => cnd (chkL [.str, (.sl false), (.ptr 0 4 0), .bool, (.int .i64), (.int .i64), (.int .i64), .str, (.sl true), (.sl true)] s1) (cnd (chkU [] s1u)
 (cnd (decide ((intV (gt s1 4)) < (List.length (esV (gt s1 1)) : Int)))
 (bnd (ix 6 (.slice (esV (gt s1 1)) [] false) (.int .i64 (intV (gt s1 4)))) fun x7 => cnd (chk (.ref shMember) x7)
 (cnd ((strV (gt (aggV (refV x7)) 0)) == (strV (gt s1 0)))
 (bnd (ix 6 (.slice (esV (gt s1 1)) [] false) (.int .i64 (intV (gt s1 4)))) fun x9 => cnd (chk (.ref shMember) x9)
 (some (.ret, [(.str (strV (gt s1 0))), (.slice (esV (gt s1 1)) [] false), (.ptr 0 4 0), (.bool true), (.int .i64 (intV (gt s1 4))), (.int .i64 (intV (gt (aggV (refV x9)) 1))), (.int .i64 (intV (gt (aggV (refV x9)) 2))), (.str (strV (gt (aggV (refV x9)) 3))), (.slice (esV (gt (aggV (refV x9)) 4)) [] false), (.slice (esV (gt (aggV (refV x9)) 5)) [] false)], [])) none)
 (some (.nrm, [(.str (strV (gt s1 0))), (.slice (esV (gt s1 1)) [] false), (.ptr 0 4 0), (.bool (boolV (gt s1 3))), (.int .i64 (IntKind.wrap .i64 ((intV (gt s1 4)) + 1))), (.int .i64 (intV (gt s1 5))), (.int .i64 (intV (gt s1 6))), (.str (strV (gt s1 7))), (.slice (esV (gt s1 8)) [] true), (.slice (esV (gt s1 9)) [] true)], []))) none)
 (some (.brk 0, [(.str (strV (gt s1 0))), (.slice (esV (gt s1 1)) [] false), (.ptr 0 4 0), (.bool (boolV (gt s1 3))), (.int .i64 (intV (gt s1 4))), (.int .i64 (intV (gt s1 5))), (.int .i64 (intV (gt s1 6))), (.str (strV (gt s1 7))), (.slice (esV (gt s1 8)) [] true), (.slice (esV (gt s1 9)) [] true)], []))) none) none
def seineref1_Get_T1 (O : Orc) (LP : LBody → LBody) (name : Str) (l0 : List GMember) : Option (PV × UP) :=
 bnd (LP (seineref1_Get_l1 O LP) [(.str name), (.slice (List.map encMember l0) [] false), (.ptr 0 4 0), (.bool false), (.int .i64 0), (.int .i64 0), (.int .i64 0), (.str []), (.slice [] [] true), (.slice [] [] true)] []) fun y18 =>
 exIs y18.1 (some 0) (cnd (chkL [.str, (.sl false), (.ptr 0 4 0), .bool, (.int .i64), (.int .i64), (.int .i64), .str, (.sl true), (.sl true)] y18.2.1) (cnd (chkU [] y18.2.2)
 (some ((.tuple [(.agg [(.int .i64 0), (.int .i64 0), (.str []), (.slice [] [] false), (.slice [] [] false)]), (.bool false)]), [])) none) none)
 (exIs y18.1 none (cnd (chkL [.str, (.sl false), (.ptr 0 4 0), .bool, (.int .i64), (.int .i64), (.int .i64), .str, (.sl false), (.sl false)] y18.2.1) (cnd (chkU [] y18.2.2)
 (some ((.tuple [(.agg [(.int .i64 (intV (gt y18.2.1 5))), (.int .i64 (intV (gt y18.2.1 6))), (.str (strV (gt y18.2.1 7))), (.slice (esV (gt y18.2.1 8)) [] false), (.slice (esV (gt y18.2.1 9)) [] false)]), (.bool (boolV (gt y18.2.1 3)))]), [])) none) none)
 (none))
noncomputable def seineref1_Get_l1T (name : Str) (l0 : List GMember) : Int → Option (Int ⊕ (Unit ⊕ (Int × Int × Str × (List GValue) × (List GMember))))
 | i_6 =>
 cnd (decide (i_6 < (List.length l0 : Int)))
  (bnd (nthI l0 i_6) fun y8 =>
  cnd (y8.name == name)
  (bnd (nthI l0 i_6) fun y10 =>
  some (.inr (.inr (y10.v.kind, y10.v.n, y10.v.s, y10.v.l, y10.v.m))))
  (some (.inl (IntKind.wrap .i64 (i_6 + 1)))))
  (some (.inr (.inl ())))
abbrev seineref1_Get_l1R (name : Str) (l0 : List GMember) (st : Int) (l : List PV) (u : UP) : Prop := l = [(.str name), (.slice (List.map encMember l0) [] false), (.ptr 0 4 0), (.bool false), (.int .i64 st), (.int .i64 0), (.int .i64 0), (.str []), (.slice [] [] true), (.slice [] [] true)] ∧ u = []
abbrev seineref1_Get_l1X (name : Str) (l0 : List GMember) (p : Unit ⊕ (Int × Int × Str × (List GValue) × (List GMember))) (r : Ex × List PV × UP) : Prop := elim p (fun (p : Unit) => ∃ (i_11 : Int), r = (Ex.brk 0, [(.str name), (.slice (List.map encMember l0) [] false), (.ptr 0 4 0), (.bool false), (.int .i64 i_11), (.int .i64 0), (.int .i64 0), (.str []), (.slice [] [] true), (.slice [] [] true)], [])) (fun q2 => (fun (p : Int × Int × Str × (List GValue) × (List GMember)) => ∃ (i_12 : Int), r = (Ex.ret, [(.str name), (.slice (List.map encMember l0) [] false), (.ptr 0 4 0), (.bool true), (.int .i64 i_12), (.int .i64 p.1), (.int .i64 p.2.1), (.str p.2.2.1), (.slice (List.map encValue p.2.2.2.1) [] false), (.slice (List.map encMember p.2.2.2.2) [] false)], [])) q2)
noncomputable def seineref1_Get_B (name : Str) (l0 : List GMember) : Option (GValue × Bool) :=
 bnd (tloop (seineref1_Get_l1T name l0) 0) fun e18_2 => elim e18_2
 (fun p18 =>
 some ((GValue.mk 0 0 [] ([] : List GValue) ([] : List GMember)), false))
 (fun p18 =>
 some ((GValue.mk p18.1 p18.2.1 p18.2.2.1 p18.2.2.2.1 p18.2.2.2.2), true))
def seineref1_Get_ds : Decs := { decs := [(15, (.ref shMember)), (22, (.ref shMember))], ups := [], loops := [(2, [(4, 5)], ⟨[.str, (.sl false), (.ptr 0 4 0), .bool, (.int .i64), (.int .i64), (.int .i64), .str, (.sl true), (.sl true)], [], [(some 0, [.str, (.sl false), (.ptr 0 4 0), .bool, (.int .i64), (.int .i64), (.int .i64), .str, (.sl true), (.sl true)], []), (none, [.str, (.sl false), (.ptr 0 4 0), .bool, (.int .i64), (.int .i64), (.int .i64), .str, (.sl false), (.sl false)], [])]⟩)] }
set_option maxRecDepth 100000 in
theorem seineref1_Get_t1 (O : Orc) (LP : LBody → LBody) (name : Str) (l0 : List GMember) : evalBodyD Try.prog (MT 59) seineref1_Get_ds Try.f59.ntmps O LP Try.f59 [(.str name), (.slice (List.map encMember l0) [] false)] [] = seineref1_Get_T1 O LP name l0 := by kernel_rfl
theorem seineref1_Get_l1_ok (name : Str) (l0 : List GMember) : ∀ st l u, seineref1_Get_l1R name l0 st l u → Imp (seineref1_Get_l1T name l0 st) (seineref1_Get_l1 O loopLim l u) (StepR (seineref1_Get_l1R name l0) (seineref1_Get_l1X name l0)) := by
 rintro i_6 l u ⟨rfl, rfl⟩
 simp only [seineref1_Get_l1T, seineref1_Get_l1]
 refine Imp.chk rfl (Imp.chk rfl ?_)
 try simp only [evs, tys]
 refine Imp.cnd ?_ ?_
 ·refine Imp.op (f := fun a => .ref (encMember a)) (fun a h => op_ix (enc := encMember) (by first | rfl | simp only [evs, tys, evl]) ⟨by first | rfl | simp only [evs, tys, evc], by decide⟩ h) (fun a => chk_GMember a) fun y8 hy8 => ?_
  try simp only [evs, tys]
  refine Imp.cnd ?_ ?_
  ·refine Imp.op (f := fun a => .ref (encMember a)) (fun a h => op_ix (enc := encMember) (by first | rfl | simp only [evs, tys, evl]) ⟨by first | rfl | simp only [evs, tys, evc], by decide⟩ h) (fun a => chk_GMember a) fun y10 hy10 => ?_
   try simp only [evs, tys]
   exact Imp.some (StepR.ret ⟨i_6, by first | rfl | simp only [evs, tys, evl, elim_inl, elim_inr]⟩)
  ·exact Imp.some (StepR.next ⟨by first | rfl | simp only [evs, tys, evl], rfl⟩)
 ·exact Imp.some (StepR.brk ⟨i_6, by first | rfl | simp only [evs, tys, evl, elim_inl, elim_inr]⟩)
theorem seineref1_Get_imp (name : Str) (l0 : List GMember) : Imp (seineref1_Get_B name l0) (seineref1_Get_T1 O loopLim name l0) (fun r v => v = (seineref1_GetE r, [])) := by
 simp only [seineref1_Get_B, seineref1_Get_T1]
 try simp only [evs, tys]
 refine Imp.bnd (Imp.loop (seineref1_Get_l1_ok name l0) ⟨by first | rfl | simp only [evs, tys, evl], rfl⟩) ?_
 rintro (p | ⟨b_13, b_14, b_15, b_16, b_17⟩) vy18 hy18
 ·try simp only [elim_inl, elim_inr]
  obtain ⟨i_11, rfl⟩ := hy18
  refine Imp.exHit rfl (Imp.chk rfl (Imp.chk rfl ?_))
  try simp only [evs, tys]
  exact Imp.some (by first | rfl | simp only [seineref1_GetE, evs, tys, evl])
 ·try simp only [elim_inl, elim_inr]
  obtain ⟨i_12, rfl⟩ := hy18
  refine Imp.exMiss rfl ?_
  refine Imp.exHit rfl (Imp.chk rfl (Imp.chk rfl ?_))
  try simp only [evs, tys]
  exact Imp.some (by first | rfl | simp only [seineref1_GetE, evs, tys, evl])
theorem seineref1_Get_run {name : Str} {l0 : List GMember} {r : GValue × Bool} (h : seineref1_Get_B name l0 = some r) : seineref1_Get name l0 = some r := by
 obtain ⟨v, hv, rfl⟩ := seineref1_Get_imp name l0 r h
 exact tO_of (pair_inj seineref1_GetEj) (OL_runD seineref1_Get_ds rfl rfl Try.func59 ((seineref1_Get_t1 _ _ name l0).trans hv))
def seineref1_Same_l1 (O : Orc) (LP : LBody → LBody) : LBody := fun s1 s1u => cnd (chkL [(.ptr 0 2 0), (.ptr 0 3 0), .bool, (.int .i64), (.int .i64), (.int .i64), .str, (.sl false), (.sl false), (.int .i64), (.int .i64), .str, (.sl false), (.sl false)] s1) (cnd (chkU [] s1u)
 (cnd (decide ((intV (gt s1 3)) < (List.length (esV (gt s1 12)) : Int)))
 (bnd (ix 5 (.slice (esV (gt s1 12)) [] false) (.int .i64 (intV (gt s1 3)))) fun x9 => cnd (chk (.ref shValue) x9)
 (bnd (ix 5 (.slice (esV (gt s1 7)) [] false) (.int .i64 (intV (gt s1 3)))) fun x11 => cnd (chk (.ref shValue) x11)
 (callp O 60 [(.agg [(.int .i64 (intV (gt (aggV (refV x9)) 0))), (.int .i64 (intV (gt (aggV (refV x9)) 1))), (.str (strV (gt (aggV (refV x9)) 2))), (.slice (esV (gt (aggV (refV x9)) 3)) [] false), (.slice (esV (gt (aggV (refV x9)) 4)) [] false)]), (.agg [(.int .i64 (intV (gt (aggV (refV x11)) 0))), (.int .i64 (intV (gt (aggV (refV x11)) 1))), (.str (strV (gt (aggV (refV x11)) 2))), (.slice (esV (gt (aggV (refV x11)) 3)) [] false), (.slice (esV (gt (aggV (refV x11)) 4)) [] false)])] fun x13 => cnd (chk .bool x13)
 (cnd (!(boolV x13))
 (some (.ret, [(.ptr 0 2 0), (.ptr 0 3 0), (.bool false), (.int .i64 (intV (gt s1 3))), (.int .i64 (intV (gt s1 4))), (.int .i64 (intV (gt s1 5))), (.str (strV (gt s1 6))), (.slice (esV (gt s1 7)) [] false), (.slice (esV (gt s1 8)) [] false), (.int .i64 (intV (gt s1 9))), (.int .i64 (intV (gt s1 10))), (.str (strV (gt s1 11))), (.slice (esV (gt s1 12)) [] false), (.slice (esV (gt s1 13)) [] false)], []))
 (some (.nrm, [(.ptr 0 2 0), (.ptr 0 3 0), (.bool (boolV (gt s1 2))), (.int .i64 (IntKind.wrap .i64 ((intV (gt s1 3)) + 1))), (.int .i64 (intV (gt s1 4))), (.int .i64 (intV (gt s1 5))), (.str (strV (gt s1 6))), (.slice (esV (gt s1 7)) [] false), (.slice (esV (gt s1 8)) [] false), (.int .i64 (intV (gt s1 9))), (.int .i64 (intV (gt s1 10))), (.str (strV (gt s1 11))), (.slice (esV (gt s1 12)) [] false), (.slice (esV (gt s1 13)) [] false)], []))) none) none) none)
 (some (.brk 0, [(.ptr 0 2 0), (.ptr 0 3 0), (.bool (boolV (gt s1 2))), (.int .i64 (intV (gt s1 3))), (.int .i64 (intV (gt s1 4))), (.int .i64 (intV (gt s1 5))), (.str (strV (gt s1 6))), (.slice (esV (gt s1 7)) [] false), (.slice (esV (gt s1 8)) [] false), (.int .i64 (intV (gt s1 9))), (.int .i64 (intV (gt s1 10))), (.str (strV (gt s1 11))), (.slice (esV (gt s1 12)) [] false), (.slice (esV (gt s1 13)) [] false)], []))) none) none
def seineref1_Same_T1 (O : Orc) (LP : LBody → LBody) (a : GValue) (b : GValue) : Option (PV × UP) :=
 cnd (a.kind != b.kind)
 (some ((.bool false), []))
 (cnd (a.n != b.n)
 (some ((.bool false), []))
 (cnd (!(a.s == b.s))
 (some ((.bool false), []))
 (cnd ((List.length (List.map encValue a.l) : Int) != (List.length (List.map encValue b.l) : Int))
 (some ((.bool false), []))
 (bnd (LP (seineref1_Same_l1 O LP) [(.ptr 0 2 0), (.ptr 0 3 0), (.bool false), (.int .i64 0), (.int .i64 b.kind), (.int .i64 b.n), (.str b.s), (.slice (List.map encValue b.l) [] false), (.slice (List.map encMember b.m) [] false), (.int .i64 a.kind), (.int .i64 a.n), (.str a.s), (.slice (List.map encValue a.l) [] false), (.slice (List.map encMember a.m) [] false)] []) fun y17 =>
 exIs y17.1 (some 0) (cnd (chkL [(.ptr 0 2 0), (.ptr 0 3 0), .bool, (.int .i64), (.int .i64), (.int .i64), .str, (.sl false), (.sl false), (.int .i64), (.int .i64), .str, (.sl false), (.sl false)] y17.2.1) (cnd (chkU [] y17.2.2)
 (callp O 42 [(.slice (esV (gt y17.2.1 13)) [] false), (.slice (esV (gt y17.2.1 8)) [] false)] fun x18 => cnd (chk .bool x18)
 (some ((.bool (boolV x18)), [])) none) none) none)
 (exIs y17.1 none (cnd (chkL [(.ptr 0 2 0), (.ptr 0 3 0), .bool, (.int .i64), (.int .i64), (.int .i64), .str, (.sl false), (.sl false), (.int .i64), (.int .i64), .str, (.sl false), (.sl false)] y17.2.1) (cnd (chkU [] y17.2.2)
 (some ((.bool (boolV (gt y17.2.1 2))), [])) none) none)
 (none))))))
noncomputable def seineref1_Same_l1T (a : GValue) (b : GValue) : Int → Option (Int ⊕ (Unit ⊕ Unit))
 | i_8 =>
 cnd (decide (i_8 < (List.length a.l : Int)))
  (bnd (nthI a.l i_8) fun y10 =>
  bnd (nthI b.l i_8) fun y12 =>
  bnd (seineref1_Same y10 y12) fun y14 =>
  cnd (!y14)
  (some (.inr (.inr ())))
  (some (.inl (IntKind.wrap .i64 (i_8 + 1)))))
  (some (.inr (.inl ())))
abbrev seineref1_Same_l1R (a : GValue) (b : GValue) (st : Int) (l : List PV) (u : UP) : Prop := l = [(.ptr 0 2 0), (.ptr 0 3 0), (.bool false), (.int .i64 st), (.int .i64 b.kind), (.int .i64 b.n), (.str b.s), (.slice (List.map encValue b.l) [] false), (.slice (List.map encMember b.m) [] false), (.int .i64 a.kind), (.int .i64 a.n), (.str a.s), (.slice (List.map encValue a.l) [] false), (.slice (List.map encMember a.m) [] false)] ∧ u = []
abbrev seineref1_Same_l1X (a : GValue) (b : GValue) (p : Unit ⊕ Unit) (r : Ex × List PV × UP) : Prop := elim p (fun (p : Unit) => ∃ (i_15 : Int), r = (Ex.brk 0, [(.ptr 0 2 0), (.ptr 0 3 0), (.bool false), (.int .i64 i_15), (.int .i64 b.kind), (.int .i64 b.n), (.str b.s), (.slice (List.map encValue b.l) [] false), (.slice (List.map encMember b.m) [] false), (.int .i64 a.kind), (.int .i64 a.n), (.str a.s), (.slice (List.map encValue a.l) [] false), (.slice (List.map encMember a.m) [] false)], [])) (fun q2 => (fun (p : Unit) => ∃ (i_16 : Int), r = (Ex.ret, [(.ptr 0 2 0), (.ptr 0 3 0), (.bool false), (.int .i64 i_16), (.int .i64 b.kind), (.int .i64 b.n), (.str b.s), (.slice (List.map encValue b.l) [] false), (.slice (List.map encMember b.m) [] false), (.int .i64 a.kind), (.int .i64 a.n), (.str a.s), (.slice (List.map encValue a.l) [] false), (.slice (List.map encMember a.m) [] false)], [])) q2)
noncomputable def seineref1_Same_B (a : GValue) (b : GValue) : Option Bool :=
 cnd (a.kind != b.kind)
 (some false)
 (cnd (a.n != b.n)
 (some false)
 (cnd (!(a.s == b.s))
 (some false)
 (cnd ((List.length a.l : Int) != (List.length b.l : Int))
 (some false)
 (bnd (tloop (seineref1_Same_l1T a b) 0) fun e17_2 => elim e17_2
 (fun p17 =>
 bnd (seineref1_Members a.m b.m) fun y19 =>
 some y19)
 (fun p17 =>
 some false)))))
def seineref1_Same_ds : Decs := { decs := [(44, (.ref shValue)), (49, (.ref shValue)), (51, .bool), (57, .bool)], ups := [], loops := [(4, [(3, 5), (2, 5)], ⟨[(.ptr 0 2 0), (.ptr 0 3 0), .bool, (.int .i64), (.int .i64), (.int .i64), .str, (.sl false), (.sl false), (.int .i64), (.int .i64), .str, (.sl false), (.sl false)], [], [(some 0, [(.ptr 0 2 0), (.ptr 0 3 0), .bool, (.int .i64), (.int .i64), (.int .i64), .str, (.sl false), (.sl false), (.int .i64), (.int .i64), .str, (.sl false), (.sl false)], []), (none, [(.ptr 0 2 0), (.ptr 0 3 0), .bool, (.int .i64), (.int .i64), (.int .i64), .str, (.sl false), (.sl false), (.int .i64), (.int .i64), .str, (.sl false), (.sl false)], [])]⟩)] }
set_option maxRecDepth 100000 in
theorem seineref1_Same_t1 (O : Orc) (LP : LBody → LBody) (a : GValue) (b : GValue) : evalBodyD Try.prog (MT 60) seineref1_Same_ds Try.f60.ntmps O LP Try.f60 [(.agg [(.int .i64 a.kind), (.int .i64 a.n), (.str a.s), (.slice (List.map encValue a.l) [] false), (.slice (List.map encMember a.m) [] false)]), (.agg [(.int .i64 b.kind), (.int .i64 b.n), (.str b.s), (.slice (List.map encValue b.l) [] false), (.slice (List.map encMember b.m) [] false)])] [] = seineref1_Same_T1 O LP a b := by kernel_rfl
theorem seineref1_Same_l1_ok (a : GValue) (b : GValue) : ∀ st l u, seineref1_Same_l1R a b st l u → Imp (seineref1_Same_l1T a b st) (seineref1_Same_l1 O loopLim l u) (StepR (seineref1_Same_l1R a b) (seineref1_Same_l1X a b)) := by
 rintro i_8 l u ⟨rfl, rfl⟩
 simp only [seineref1_Same_l1T, seineref1_Same_l1]
 refine Imp.chk rfl (Imp.chk rfl ?_)
 try simp only [evs, tys]
 refine Imp.cnd ?_ ?_
 ·refine Imp.op (f := fun a => .ref (encValue a)) (fun a h => op_ix (enc := encValue) (by first | rfl | simp only [evs, tys, evl]) ⟨by first | rfl | simp only [evs, tys, evc], by decide⟩ h) (fun a => chk_GValue a) fun y10 hy10 => ?_
  try simp only [evs, tys]
  refine Imp.op (f := fun a => .ref (encValue a)) (fun a h => op_ix (enc := encValue) (by first | rfl | simp only [evs, tys, evl]) ⟨by first | rfl | simp only [evs, tys, evc], by decide⟩ h) (fun a => chk_GValue a) fun y12 hy12 => ?_
  try simp only [evs, tys]
  refine Imp.call (f := seineref1_SameE) rfl (fun a h => by first | exact seineref1_Same_spec h | simpa only [evs, tys, evl] using seineref1_Same_spec h) (fun a => by first | rfl | simp only [seineref1_SameE, evk, chks]) fun y14 hy14 => ?_
  try simp only [seineref1_SameE, evs, tys]
  refine Imp.cnd ?_ ?_
  ·exact Imp.some (StepR.ret ⟨i_8, by first | rfl | simp only [evs, tys, evl, elim_inl, elim_inr]⟩)
  ·exact Imp.some (StepR.next ⟨by first | rfl | simp only [evs, tys, evl], rfl⟩)
 ·exact Imp.some (StepR.brk ⟨i_8, by first | rfl | simp only [evs, tys, evl, elim_inl, elim_inr]⟩)
theorem seineref1_Same_imp (a : GValue) (b : GValue) : Imp (seineref1_Same_B a b) (seineref1_Same_T1 O loopLim a b) (fun r v => v = (seineref1_SameE r, [])) := by
 simp only [seineref1_Same_B, seineref1_Same_T1]
 try simp only [evs, tys]
 refine Imp.cnd ?_ ?_
 ·exact Imp.some (by first | rfl | simp only [seineref1_SameE, evs, tys, evl])
 ·refine Imp.cnd ?_ ?_
  ·exact Imp.some (by first | rfl | simp only [seineref1_SameE, evs, tys, evl])
  ·refine Imp.cnd ?_ ?_
   ·exact Imp.some (by first | rfl | simp only [seineref1_SameE, evs, tys, evl])
   ·refine Imp.cnd ?_ ?_
    ·exact Imp.some (by first | rfl | simp only [seineref1_SameE, evs, tys, evl])
    ·refine Imp.bnd (Imp.loop (seineref1_Same_l1_ok a b) ⟨by first | rfl | simp only [evs, tys, evl], rfl⟩) ?_
     rintro (p | p) vy17 hy17
     ·try simp only [elim_inl, elim_inr]
      obtain ⟨i_15, rfl⟩ := hy17
      refine Imp.exHit rfl (Imp.chk rfl (Imp.chk rfl ?_))
      try simp only [evs, tys]
      refine Imp.call (f := seineref1_MembersE) rfl (fun a h => by first | exact seineref1_Members_spec h | simpa only [evs, tys, evl] using seineref1_Members_spec h) (fun a => by first | rfl | simp only [seineref1_MembersE, evk, chks]) fun y19 hy19 => ?_
      try simp only [seineref1_MembersE, evs, tys]
      exact Imp.some (by first | rfl | simp only [seineref1_SameE, evs, tys, evl])
     ·try simp only [elim_inl, elim_inr]
      obtain ⟨i_16, rfl⟩ := hy17
      refine Imp.exMiss rfl ?_
      refine Imp.exHit rfl (Imp.chk rfl (Imp.chk rfl ?_))
      try simp only [evs, tys]
      exact Imp.some (by first | rfl | simp only [seineref1_SameE, evs, tys, evl])
theorem seineref1_Same_run {a : GValue} {b : GValue} {r : Bool} (h : seineref1_Same_B a b = some r) : seineref1_Same a b = some r := by
 obtain ⟨v, hv, rfl⟩ := seineref1_Same_imp a b r h
 exact tO_of (pair_inj seineref1_SameEj) (OL_runD seineref1_Same_ds rfl rfl Try.func60 ((seineref1_Same_t1 _ _ a b).trans hv))
def defs_scalar_T1 (O : Orc) (LP : LBody → LBody) (name : Str) : Option (PV × UP) :=
 cnd (name == ([73, 110, 116] : Str))
 (some ((.bool true), []))
 (cnd (name == ([83, 116, 114, 105, 110, 103] : Str))
 (some ((.bool true), []))
 (cnd (name == ([66, 111, 111, 108, 101, 97, 110] : Str))
 (some ((.bool true), []))
 (some ((.bool (name == ([73, 68] : Str))), []))))
noncomputable def defs_scalar_B (name : Str) : Option Bool :=
 cnd (name == ([73, 110, 116] : Str))
 (some true)
 (cnd (name == ([83, 116, 114, 105, 110, 103] : Str))
 (some true)
 (cnd (name == ([66, 111, 111, 108, 101, 97, 110] : Str))
 (some true)
 (some (name == ([73, 68] : Str)))))
def defs_scalar_ds : Decs := { decs := [], ups := [], loops := [] }
set_option maxRecDepth 100000 in
theorem defs_scalar_t1 (O : Orc) (LP : LBody → LBody) (name : Str) : evalBodyD Try.prog (MT 89) defs_scalar_ds Try.f89.ntmps O LP Try.f89 [(.str name)] [] = defs_scalar_T1 O LP name := by kernel_rfl
theorem defs_scalar_imp (name : Str) : Imp (defs_scalar_B name) (defs_scalar_T1 O loopLim name) (fun r v => v = (defs_scalarE r, [])) := by
 simp only [defs_scalar_B, defs_scalar_T1]
 try simp only [evs, tys]
 refine Imp.cnd ?_ ?_
 ·exact Imp.some (by first | rfl | simp only [defs_scalarE, evs, tys, evl])
 ·refine Imp.cnd ?_ ?_
  ·exact Imp.some (by first | rfl | simp only [defs_scalarE, evs, tys, evl])
  ·refine Imp.cnd ?_ ?_
   ·exact Imp.some (by first | rfl | simp only [defs_scalarE, evs, tys, evl])
   ·exact Imp.some (by first | rfl | simp only [defs_scalarE, evs, tys, evl])
theorem defs_scalar_run {name : Str} {r : Bool} (h : defs_scalar_B name = some r) : defs_scalar name = some r := by
 obtain ⟨v, hv, rfl⟩ := defs_scalar_imp name r h
 exact tO_of (pair_inj defs_scalarEj) (OL_runD defs_scalar_ds rfl rfl Try.func89 ((defs_scalar_t1 _ _ name).trans hv))
def slices_Contains_int_int_T1 (O : Orc) (LP : LBody → LBody) (s : List Int) (v0 : Int) : Option (PV × UP) :=
 callp O 98 [(.slice (List.map (PV.int .i64) s) [] false), (.int .i64 v0)] fun x1 => cnd (chk (.int .i64) x1)
 (some ((.bool (decide ((intV x1) ≥ 0))), [])) none
noncomputable def slices_Contains_int_int_B (s : List Int) (v0 : Int) : Option Bool :=
 bnd (slices_Index_int_int s v0) fun y2 =>
 some (decide (y2 ≥ 0))
def slices_Contains_int_int_ds : Decs := { decs := [(7, (.int .i64))], ups := [], loops := [] }
set_option maxRecDepth 100000 in
theorem slices_Contains_int_int_t1 (O : Orc) (LP : LBody → LBody) (s : List Int) (v0 : Int) : evalBodyD Try.prog (MT 90) slices_Contains_int_int_ds Try.f90.ntmps O LP Try.f90 [(.slice (List.map (PV.int .i64) s) [] false), (.int .i64 v0)] [] = slices_Contains_int_int_T1 O LP s v0 := by kernel_rfl
theorem slices_Contains_int_int_imp (s : List Int) (v0 : Int) : Imp (slices_Contains_int_int_B s v0) (slices_Contains_int_int_T1 O loopLim s v0) (fun r v => v = (slices_Contains_int_intE r, [])) := by
 simp only [slices_Contains_int_int_B, slices_Contains_int_int_T1]
 try simp only [evs, tys]
 refine Imp.call (f := slices_Index_int_intE) rfl (fun a h => by first | exact slices_Index_int_int_spec h | simpa only [evs, tys, evl] using slices_Index_int_int_spec h) (fun a => by first | rfl | simp only [slices_Index_int_intE, evk, chks]) fun y2 hy2 => ?_
 try simp only [slices_Index_int_intE, evs, tys]
 exact Imp.some (by first | rfl | simp only [slices_Contains_int_intE, evs, tys, evl])
theorem slices_Contains_int_int_run {s : List Int} {v0 : Int} {r : Bool} (h : slices_Contains_int_int_B s v0 = some r) : slices_Contains_int_int s v0 = some r := by
 obtain ⟨v, hv, rfl⟩ := slices_Contains_int_int_imp s v0 r h
 exact tO_of (pair_inj slices_Contains_int_intEj) (OL_runD slices_Contains_int_int_ds rfl rfl Try.func90 ((slices_Contains_int_int_t1 _ _ s v0).trans hv))
def seineref9_scalar_T1 (O : Orc) (LP : LBody → LBody) (name : Str) : Option (PV × UP) :=
 cnd (name == ([73, 110, 116] : Str))
 (some ((.bool true), []))
 (cnd (name == ([83, 116, 114, 105, 110, 103] : Str))
 (some ((.bool true), []))
 (cnd (name == ([66, 111, 111, 108, 101, 97, 110] : Str))
 (some ((.bool true), []))
 (some ((.bool (name == ([73, 68] : Str))), []))))
noncomputable def seineref9_scalar_B (name : Str) : Option Bool :=
 cnd (name == ([73, 110, 116] : Str))
 (some true)
 (cnd (name == ([83, 116, 114, 105, 110, 103] : Str))
 (some true)
 (cnd (name == ([66, 111, 111, 108, 101, 97, 110] : Str))
 (some true)
 (some (name == ([73, 68] : Str)))))
def seineref9_scalar_ds : Decs := { decs := [], ups := [], loops := [] }
set_option maxRecDepth 100000 in
theorem seineref9_scalar_t1 (O : Orc) (LP : LBody → LBody) (name : Str) : evalBodyD Try.prog (MT 91) seineref9_scalar_ds Try.f91.ntmps O LP Try.f91 [(.str name)] [] = seineref9_scalar_T1 O LP name := by kernel_rfl
theorem seineref9_scalar_imp (name : Str) : Imp (seineref9_scalar_B name) (seineref9_scalar_T1 O loopLim name) (fun r v => v = (seineref9_scalarE r, [])) := by
 simp only [seineref9_scalar_B, seineref9_scalar_T1]
 try simp only [evs, tys]
 refine Imp.cnd ?_ ?_
 ·exact Imp.some (by first | rfl | simp only [seineref9_scalarE, evs, tys, evl])
 ·refine Imp.cnd ?_ ?_
  ·exact Imp.some (by first | rfl | simp only [seineref9_scalarE, evs, tys, evl])
  ·refine Imp.cnd ?_ ?_
   ·exact Imp.some (by first | rfl | simp only [seineref9_scalarE, evs, tys, evl])
   ·exact Imp.some (by first | rfl | simp only [seineref9_scalarE, evs, tys, evl])
theorem seineref9_scalar_run {name : Str} {r : Bool} (h : seineref9_scalar_B name = some r) : seineref9_scalar name = some r := by
 obtain ⟨v, hv, rfl⟩ := seineref9_scalar_imp name r h
 exact tO_of (pair_inj seineref9_scalarEj) (OL_runD seineref9_scalar_ds rfl rfl Try.func91 ((seineref9_scalar_t1 _ _ name).trans hv))
def seineref9_is_T1 (O : Orc) (LP : LBody → LBody) (s : GSchema) (name : Str) (a : Int) (b : Int) (c : Int) : Option (PV × UP) :=
 callp O 77 [(.agg [(.slice (List.map encDef s.defs) [] false), (.str s.query), (.str s.mutation)]), (.str name)] fun x1 => cnd (chk (.tup [shDef, .bool]) x1)
 (cnd (boolV (gt (tupV x1) 1))
 (cnd ((intV (gt (aggV (gt (tupV x1) 0)) 0)) == a)
 (some ((.bool true), []))
 (cnd ((intV (gt (aggV (gt (tupV x1) 0)) 0)) == b)
 (some ((.bool true), []))
 (some ((.bool ((intV (gt (aggV (gt (tupV x1) 0)) 0)) == c)), []))))
 (some ((.bool false), []))) none
noncomputable def seineref9_is_B (s : GSchema) (name : Str) (a : Int) (b : Int) (c : Int) : Option Bool :=
 bnd (seineref9_Find s name) fun y2 =>
 cnd y2.2
 (cnd (y2.1.kind == a)
 (some true)
 (cnd (y2.1.kind == b)
 (some true)
 (some (y2.1.kind == c))))
 (some false)
def seineref9_is_ds : Decs := { decs := [(16, (.tup [shDef, .bool]))], ups := [], loops := [] }
set_option maxRecDepth 100000 in
theorem seineref9_is_t1 (O : Orc) (LP : LBody → LBody) (s : GSchema) (name : Str) (a : Int) (b : Int) (c : Int) : evalBodyD Try.prog (MT 86) seineref9_is_ds Try.f86.ntmps O LP Try.f86 [(.agg [(.slice (List.map encDef s.defs) [] false), (.str s.query), (.str s.mutation)]), (.str name), (.int .i64 a), (.int .i64 b), (.int .i64 c)] [] = seineref9_is_T1 O LP s name a b c := by kernel_rfl
theorem seineref9_is_imp (s : GSchema) (name : Str) (a : Int) (b : Int) (c : Int) : Imp (seineref9_is_B s name a b c) (seineref9_is_T1 O loopLim s name a b c) (fun r v => v = (seineref9_isE r, [])) := by
 simp only [seineref9_is_B, seineref9_is_T1]
 try simp only [evs, tys]
 refine Imp.call (f := seineref9_FindE) rfl (fun a h => by first | exact seineref9_Find_spec h | simpa only [evs, tys, evl] using seineref9_Find_spec h) (fun a => by first | rfl | simp only [seineref9_FindE, evk, chks]) fun y2 hy2 => ?_
 try simp only [seineref9_FindE, evs, tys]
 refine Imp.cnd ?_ ?_
 ·refine Imp.cnd ?_ ?_
  ·exact Imp.some (by first | rfl | simp only [seineref9_isE, evs, tys, evl])
  ·refine Imp.cnd ?_ ?_
   ·exact Imp.some (by first | rfl | simp only [seineref9_isE, evs, tys, evl])
   ·exact Imp.some (by first | rfl | simp only [seineref9_isE, evs, tys, evl])
 ·exact Imp.some (by first | rfl | simp only [seineref9_isE, evs, tys, evl])
theorem seineref9_is_run {s : GSchema} {name : Str} {a : Int} {b : Int} {c : Int} {r : Bool} (h : seineref9_is_B s name a b c = some r) : seineref9_is s name a b c = some r := by
 obtain ⟨v, hv, rfl⟩ := seineref9_is_imp s name a b c r h
 exact tO_of (pair_inj seineref9_isEj) (OL_runD seineref9_is_ds rfl rfl Try.func86 ((seineref9_is_t1 _ _ s name a b c).trans hv))
def value_Get_l1 (O : Orc) (LP : LBody → LBody) : LBody := fun s1 s1u => cnd (chkL [.str, (.ptr 0 4 0), .bool, (.sl false), (.int .i64), (.int .i64), (.int .i64), (.int .i64), .str, (.sl true), (.sl true)] s1) (cnd (chkU [] s1u)
 (cnd (decide ((intV (gt s1 5)) < (intV (gt s1 4))))
 (bnd (ix 6 (.slice (esV (gt s1 3)) [] false) (.int .i64 (intV (gt s1 5)))) fun x5 => cnd (chk (.ref shMember) x5)
 (cnd ((strV (gt (aggV (refV x5)) 0)) == (strV (gt s1 0)))
 (some (.ret, [(.str (strV (gt s1 0))), (.ptr 0 4 0), (.bool true), (.slice (esV (gt s1 3)) [] false), (.int .i64 (intV (gt s1 4))), (.int .i64 (intV (gt s1 5))), (.int .i64 (intV (gt (aggV (refV x5)) 1))), (.int .i64 (intV (gt (aggV (refV x5)) 2))), (.str (strV (gt (aggV (refV x5)) 3))), (.slice (esV (gt (aggV (refV x5)) 4)) [] false), (.slice (esV (gt (aggV (refV x5)) 5)) [] false)], []))
 (some (.nrm, [(.str (strV (gt s1 0))), (.ptr 0 4 0), (.bool (boolV (gt s1 2))), (.slice (esV (gt s1 3)) [] false), (.int .i64 (intV (gt s1 4))), (.int .i64 (IntKind.wrap .i64 ((intV (gt s1 5)) + 1))), (.int .i64 (intV (gt s1 6))), (.int .i64 (intV (gt s1 7))), (.str (strV (gt s1 8))), (.slice (esV (gt s1 9)) [] true), (.slice (esV (gt s1 10)) [] true)], []))) none)
 (some (.brk 0, [(.str (strV (gt s1 0))), (.ptr 0 4 0), (.bool (boolV (gt s1 2))), (.slice (esV (gt s1 3)) [] false), (.int .i64 (intV (gt s1 4))), (.int .i64 (intV (gt s1 5))), (.int .i64 (intV (gt s1 6))), (.int .i64 (intV (gt s1 7))), (.str (strV (gt s1 8))), (.slice (esV (gt s1 9)) [] true), (.slice (esV (gt s1 10)) [] true)], []))) none) none
def value_Get_T1 (O : Orc) (LP : LBody → LBody) (name : Str) (l0 : List GMember) : Option (PV × UP) :=
 bnd (LP (value_Get_l1 O LP) [(.str name), (.ptr 0 4 0), (.bool false), (.slice (List.map encMember l0) [] false), (.int .i64 (List.length (List.map encMember l0) : Int)), (.int .i64 0), (.int .i64 0), (.int .i64 0), (.str []), (.slice [] [] true), (.slice [] [] true)] []) fun y14 =>
 exIs y14.1 (some 0) (cnd (chkL [.str, (.ptr 0 4 0), .bool, (.sl false), (.int .i64), (.int .i64), (.int .i64), (.int .i64), .str, (.sl true), (.sl true)] y14.2.1) (cnd (chkU [] y14.2.2)
 (some ((.tuple [(.agg [(.int .i64 0), (.int .i64 0), (.str []), (.slice [] [] false), (.slice [] [] false)]), (.bool false)]), [])) none) none)
 (exIs y14.1 none (cnd (chkL [.str, (.ptr 0 4 0), .bool, (.sl false), (.int .i64), (.int .i64), (.int .i64), (.int .i64), .str, (.sl false), (.sl false)] y14.2.1) (cnd (chkU [] y14.2.2)
 (some ((.tuple [(.agg [(.int .i64 (intV (gt y14.2.1 6))), (.int .i64 (intV (gt y14.2.1 7))), (.str (strV (gt y14.2.1 8))), (.slice (esV (gt y14.2.1 9)) [] false), (.slice (esV (gt y14.2.1 10)) [] false)]), (.bool (boolV (gt y14.2.1 2)))]), [])) none) none)
 (none))
noncomputable def value_Get_l1T (name : Str) (l0 : List GMember) : Int → Option (Int ⊕ (Unit ⊕ (Int × Int × Str × (List GValue) × (List GMember))))
 | t_4 =>
 cnd (decide (t_4 < (List.length l0 : Int)))
  (bnd (nthI l0 t_4) fun y6 =>
  cnd (y6.name == name)
  (some (.inr (.inr (y6.v.kind, y6.v.n, y6.v.s, y6.v.l, y6.v.m))))
  (some (.inl (IntKind.wrap .i64 (t_4 + 1)))))
  (some (.inr (.inl ())))
abbrev value_Get_l1R (name : Str) (l0 : List GMember) (st : Int) (l : List PV) (u : UP) : Prop := l = [(.str name), (.ptr 0 4 0), (.bool false), (.slice (List.map encMember l0) [] false), (.int .i64 (List.length l0 : Int)), (.int .i64 st), (.int .i64 0), (.int .i64 0), (.str []), (.slice [] [] true), (.slice [] [] true)] ∧ u = []
abbrev value_Get_l1X (name : Str) (l0 : List GMember) (p : Unit ⊕ (Int × Int × Str × (List GValue) × (List GMember))) (r : Ex × List PV × UP) : Prop := elim p (fun (p : Unit) => ∃ (t_7 : Int), r = (Ex.brk 0, [(.str name), (.ptr 0 4 0), (.bool false), (.slice (List.map encMember l0) [] false), (.int .i64 (List.length l0 : Int)), (.int .i64 t_7), (.int .i64 0), (.int .i64 0), (.str []), (.slice [] [] true), (.slice [] [] true)], [])) (fun q2 => (fun (p : Int × Int × Str × (List GValue) × (List GMember)) => ∃ (t_8 : Int), r = (Ex.ret, [(.str name), (.ptr 0 4 0), (.bool true), (.slice (List.map encMember l0) [] false), (.int .i64 (List.length l0 : Int)), (.int .i64 t_8), (.int .i64 p.1), (.int .i64 p.2.1), (.str p.2.2.1), (.slice (List.map encValue p.2.2.2.1) [] false), (.slice (List.map encMember p.2.2.2.2) [] false)], [])) q2)
noncomputable def value_Get_B (name : Str) (l0 : List GMember) : Option (GValue × Bool) :=
 bnd (tloop (value_Get_l1T name l0) 0) fun e14_2 => elim e14_2
 (fun p14 =>
 some ((GValue.mk 0 0 [] ([] : List GValue) ([] : List GMember)), false))
 (fun p14 =>
 some ((GValue.mk p14.1 p14.2.1 p14.2.2.1 p14.2.2.2.1 p14.2.2.2.2), true))
def value_Get_ds : Decs := { decs := [(12, (.ref shMember))], ups := [], loops := [(2, [(4, 5)], ⟨[.str, (.ptr 0 4 0), .bool, (.sl false), (.int .i64), (.int .i64), (.int .i64), (.int .i64), .str, (.sl true), (.sl true)], [], [(some 0, [.str, (.ptr 0 4 0), .bool, (.sl false), (.int .i64), (.int .i64), (.int .i64), (.int .i64), .str, (.sl true), (.sl true)], []), (none, [.str, (.ptr 0 4 0), .bool, (.sl false), (.int .i64), (.int .i64), (.int .i64), (.int .i64), .str, (.sl false), (.sl false)], [])]⟩)] }
set_option maxRecDepth 100000 in
theorem value_Get_t1 (O : Orc) (LP : LBody → LBody) (name : Str) (l0 : List GMember) : evalBodyD Try.prog (MT 57) value_Get_ds Try.f57.ntmps O LP Try.f57 [(.str name), (.slice (List.map encMember l0) [] false)] [] = value_Get_T1 O LP name l0 := by kernel_rfl
theorem value_Get_l1_ok (name : Str) (l0 : List GMember) : ∀ st l u, value_Get_l1R name l0 st l u → Imp (value_Get_l1T name l0 st) (value_Get_l1 O loopLim l u) (StepR (value_Get_l1R name l0) (value_Get_l1X name l0)) := by
 rintro t_4 l u ⟨rfl, rfl⟩
 simp only [value_Get_l1T, value_Get_l1]
 refine Imp.chk rfl (Imp.chk rfl ?_)
 try simp only [evs, tys]
 refine Imp.cnd ?_ ?_
 ·refine Imp.op (f := fun a => .ref (encMember a)) (fun a h => op_ix (enc := encMember) (by first | rfl | simp only [evs, tys, evl]) ⟨by first | rfl | simp only [evs, tys, evc], by decide⟩ h) (fun a => chk_GMember a) fun y6 hy6 => ?_
  try simp only [evs, tys]
  refine Imp.cnd ?_ ?_
  ·exact Imp.some (StepR.ret ⟨t_4, by first | rfl | simp only [evs, tys, evl, elim_inl, elim_inr]⟩)
  ·exact Imp.some (StepR.next ⟨by first | rfl | simp only [evs, tys, evl], rfl⟩)
 ·exact Imp.some (StepR.brk ⟨t_4, by first | rfl | simp only [evs, tys, evl, elim_inl, elim_inr]⟩)
theorem value_Get_imp (name : Str) (l0 : List GMember) : Imp (value_Get_B name l0) (value_Get_T1 O loopLim name l0) (fun r v => v = (value_GetE r, [])) := by
 simp only [value_Get_B, value_Get_T1]
 try simp only [evs, tys]
 refine Imp.bnd (Imp.loop (value_Get_l1_ok name l0) ⟨by first | rfl | simp only [evs, tys, evl], rfl⟩) ?_
 rintro (p | ⟨b_9, b_10, b_11, b_12, b_13⟩) vy14 hy14
 ·try simp only [elim_inl, elim_inr]
  obtain ⟨t_7, rfl⟩ := hy14
  refine Imp.exHit rfl (Imp.chk rfl (Imp.chk rfl ?_))
  try simp only [evs, tys]
  exact Imp.some (by first | rfl | simp only [value_GetE, evs, tys, evl])
 ·try simp only [elim_inl, elim_inr]
  obtain ⟨t_8, rfl⟩ := hy14
  refine Imp.exMiss rfl ?_
  refine Imp.exHit rfl (Imp.chk rfl (Imp.chk rfl ?_))
  try simp only [evs, tys]
  exact Imp.some (by first | rfl | simp only [value_GetE, evs, tys, evl])
theorem value_Get_run {name : Str} {l0 : List GMember} {r : GValue × Bool} (h : value_Get_B name l0 = some r) : value_Get name l0 = some r := by
 obtain ⟨v, hv, rfl⟩ := value_Get_imp name l0 r h
 exact tO_of (pair_inj value_GetEj) (OL_runD value_Get_ds rfl rfl Try.func57 ((value_Get_t1 _ _ name l0).trans hv))
def slices_Index_int_int_l1 (O : Orc) (LP : LBody → LBody) : LBody := fun s1 s1u => cnd (chkL [(.sl false), (.int .i64), (.int .i64), (.int .i64), (.int .i64)] s1) (cnd (chkU [] s1u)
 (cnd (decide ((intV (gt s1 4)) < (intV (gt s1 3))))
 (bnd (ix 1 (.slice (esV (gt s1 0)) [] false) (.int .i64 (intV (gt s1 4)))) fun x5 => cnd (chk (.ref (.int .i64)) x5)
 (cnd ((intV (gt s1 1)) == (intV (refV x5)))
 (some (.ret, [(.slice (esV (gt s1 0)) [] false), (.int .i64 (intV (gt s1 1))), (.int .i64 (intV (gt s1 4))), (.int .i64 (intV (gt s1 3))), (.int .i64 (intV (gt s1 4)))], []))
 (some (.nrm, [(.slice (esV (gt s1 0)) [] false), (.int .i64 (intV (gt s1 1))), (.int .i64 (intV (gt s1 2))), (.int .i64 (intV (gt s1 3))), (.int .i64 (IntKind.wrap .i64 ((intV (gt s1 4)) + 1)))], []))) none)
 (some (.brk 0, [(.slice (esV (gt s1 0)) [] false), (.int .i64 (intV (gt s1 1))), (.int .i64 (intV (gt s1 2))), (.int .i64 (intV (gt s1 3))), (.int .i64 (intV (gt s1 4)))], []))) none) none
def slices_Index_int_int_T1 (O : Orc) (LP : LBody → LBody) (s : List Int) (v0 : Int) : Option (PV × UP) :=
 bnd (LP (slices_Index_int_int_l1 O LP) [(.slice (List.map (PV.int .i64) s) [] false), (.int .i64 v0), (.int .i64 0), (.int .i64 (List.length (List.map (PV.int .i64) s) : Int)), (.int .i64 0)] []) fun y10 =>
 exIs y10.1 (some 0) (cnd (chkL [(.sl false), (.int .i64), (.int .i64), (.int .i64), (.int .i64)] y10.2.1) (cnd (chkU [] y10.2.2)
 (some ((.int .i64 (-1)), [])) none) none)
 (exIs y10.1 none (cnd (chkL [(.sl false), (.int .i64), (.int .i64), (.int .i64), (.int .i64)] y10.2.1) (cnd (chkU [] y10.2.2)
 (some ((.int .i64 (intV (gt y10.2.1 2))), [])) none) none)
 (none))
noncomputable def slices_Index_int_int_l1T (s : List Int) (v0 : Int) : Int → Option (Int ⊕ (Unit ⊕ Int))
 | t_4 =>
 cnd (decide (t_4 < (List.length s : Int)))
  (bnd (nthI s t_4) fun y6 =>
  cnd (v0 == y6)
  (some (.inr (.inr t_4)))
  (some (.inl (IntKind.wrap .i64 (t_4 + 1)))))
  (some (.inr (.inl ())))
abbrev slices_Index_int_int_l1R (s : List Int) (v0 : Int) (st : Int) (l : List PV) (u : UP) : Prop := l = [(.slice (List.map (PV.int .i64) s) [] false), (.int .i64 v0), (.int .i64 0), (.int .i64 (List.length s : Int)), (.int .i64 st)] ∧ u = []
abbrev slices_Index_int_int_l1X (s : List Int) (v0 : Int) (p : Unit ⊕ Int) (r : Ex × List PV × UP) : Prop := elim p (fun (p : Unit) => ∃ (t_7 : Int), r = (Ex.brk 0, [(.slice (List.map (PV.int .i64) s) [] false), (.int .i64 v0), (.int .i64 0), (.int .i64 (List.length s : Int)), (.int .i64 t_7)], [])) (fun q2 => (fun (p : Int) => ∃ (t_9 : Int), r = (Ex.ret, [(.slice (List.map (PV.int .i64) s) [] false), (.int .i64 v0), (.int .i64 p), (.int .i64 (List.length s : Int)), (.int .i64 t_9)], [])) q2)
noncomputable def slices_Index_int_int_B (s : List Int) (v0 : Int) : Option Int :=
 bnd (tloop (slices_Index_int_int_l1T s v0) 0) fun e10_2 => elim e10_2
 (fun p10 =>
 some (-1))
 (fun t_8 =>
 some t_8)
def slices_Index_int_int_ds : Decs := { decs := [(14, (.ref (.int .i64)))], ups := [], loops := [(2, [], ⟨[(.sl false), (.int .i64), (.int .i64), (.int .i64), (.int .i64)], [], [(some 0, [(.sl false), (.int .i64), (.int .i64), (.int .i64), (.int .i64)], []), (none, [(.sl false), (.int .i64), (.int .i64), (.int .i64), (.int .i64)], [])]⟩)] }
set_option maxRecDepth 100000 in
theorem slices_Index_int_int_t1 (O : Orc) (LP : LBody → LBody) (s : List Int) (v0 : Int) : evalBodyD Try.prog (MT 98) slices_Index_int_int_ds Try.f98.ntmps O LP Try.f98 [(.slice (List.map (PV.int .i64) s) [] false), (.int .i64 v0)] [] = slices_Index_int_int_T1 O LP s v0 := by kernel_rfl
theorem slices_Index_int_int_l1_ok (s : List Int) (v0 : Int) : ∀ st l u, slices_Index_int_int_l1R s v0 st l u → Imp (slices_Index_int_int_l1T s v0 st) (slices_Index_int_int_l1 O loopLim l u) (StepR (slices_Index_int_int_l1R s v0) (slices_Index_int_int_l1X s v0)) := by
 rintro t_4 l u ⟨rfl, rfl⟩
 simp only [slices_Index_int_int_l1T, slices_Index_int_int_l1]
 refine Imp.chk rfl (Imp.chk rfl ?_)
 try simp only [evs, tys]
 refine Imp.cnd ?_ ?_
 ·refine Imp.op (f := fun a => .ref ((PV.int .i64) a)) (fun a h => op_ix (enc := (PV.int .i64)) (by first | rfl | simp only [evs, tys, evl]) ⟨by first | rfl | simp only [evs, tys, evc], by decide⟩ h) (fun a => rfl) fun y6 hy6 => ?_
  try simp only [evs, tys]
  refine Imp.cnd ?_ ?_
  ·exact Imp.some (StepR.ret ⟨t_4, by first | rfl | simp only [evs, tys, evl, elim_inl, elim_inr]⟩)
  ·exact Imp.some (StepR.next ⟨by first | rfl | simp only [evs, tys, evl], rfl⟩)
 ·exact Imp.some (StepR.brk ⟨t_4, by first | rfl | simp only [evs, tys, evl, elim_inl, elim_inr]⟩)
theorem slices_Index_int_int_imp (s : List Int) (v0 : Int) : Imp (slices_Index_int_int_B s v0) (slices_Index_int_int_T1 O loopLim s v0) (fun r v => v = (slices_Index_int_intE r, [])) := by
 simp only [slices_Index_int_int_B, slices_Index_int_int_T1]
 try simp only [evs, tys]
 refine Imp.bnd (Imp.loop (slices_Index_int_int_l1_ok s v0) ⟨by first | rfl | simp only [evs, tys, evl], rfl⟩) ?_
 rintro (p | t_8) vy10 hy10
 ·try simp only [elim_inl, elim_inr]
  obtain ⟨t_7, rfl⟩ := hy10
  refine Imp.exHit rfl (Imp.chk rfl (Imp.chk rfl ?_))
  try simp only [evs, tys]
  exact Imp.some (by first | rfl | simp only [slices_Index_int_intE, evs, tys, evl])
 ·try simp only [elim_inl, elim_inr]
  obtain ⟨t_9, rfl⟩ := hy10
  refine Imp.exMiss rfl ?_
  refine Imp.exHit rfl (Imp.chk rfl (Imp.chk rfl ?_))
  try simp only [evs, tys]
  exact Imp.some (by first | rfl | simp only [slices_Index_int_intE, evs, tys, evl])
theorem slices_Index_int_int_run {s : List Int} {v0 : Int} {r : Int} (h : slices_Index_int_int_B s v0 = some r) : slices_Index_int_int s v0 = some r := by
 obtain ⟨v, hv, rfl⟩ := slices_Index_int_int_imp s v0 r h
 exact tO_of (pair_inj slices_Index_int_intEj) (OL_runD slices_Index_int_int_ds rfl rfl Try.func98 ((slices_Index_int_int_t1 _ _ s v0).trans hv))
open Go.RowKit
def GM : Mem := fun _ _ => none
theorem xok : ExtOk Try.prog GM XT := by
 intro f g h
 simp only [XT, Go.Ev.look] at h
 repeat (split at h; · rename_i hf; subst hf; cases h; exact xSelf_ok)
 simp at h
theorem mixedX : Try.prog.follows .mixedOrders = true := by kernel_rfl
theorem namesX : (Try.prog.funcs.toList.all fun fn => !fn.body.isSome || !(fn.name == "runtime.NumGoroutine")) = true := by kernel_rfl
theorem pokX : POk Try.prog := by
 refine ⟨mixedX, fun f fn hf hb => ?_⟩
 have hm : fn ∈ Try.prog.funcs.toList := by
  have := Array.mem_of_getElem? hf
  simpa using this
 have := List.all_eq_true.1 namesX fn hm
 rw [hb] at this
 simpa using this
open Go Go.Ev
mutual
def szV : GValue → Nat
 | ⟨_, _, s, l, m⟩ => 1 + s.length + szVs l + szMs m
def szVs : List GValue → Nat
 | [] => 0
 | x :: l => szV x + szVs l
def szM : GMember → Nat
 | ⟨n, v⟩ => n.length + szV v
def szMs : List GMember → Nat
 | [] => 0
 | x :: l => szM x + szMs l
end
theorem szV_eq (v : GValue) : szV v = 1 + v.s.length + szVs v.l + szMs v.m := by cases v; simp only [szV]
theorem szM_eq (x : GMember) : szM x = x.name.length + szV x.v := by cases x; simp only [szM]
theorem szVs_mem {x : GValue} : ∀ {l : List GValue}, x ∈ l → szV x ≤ szVs l
 | a :: l, h => by
  simp only [szVs]
  rcases List.mem_cons.1 h with rfl | h
  ·omega
  ·have := szVs_mem h; omega
theorem szMs_mem {x : GMember} : ∀ {l : List GMember}, x ∈ l → szM x ≤ szMs l
 | a :: l, h => by
  simp only [szMs]
  rcases List.mem_cons.1 h with rfl | h
  ·omega
  ·have := szMs_mem h; omega
theorem szVs_len : ∀ (l : List GValue), l.length ≤ szVs l
 | [] => by simp [szVs]
 | a :: l => by have := szVs_len l; have := szV_eq a; simp only [szVs, List.length_cons]; omega
theorem szMs_len : ∀ (l : List GMember), l.length ≤ szMs l
 | [] => by simp [szMs]
 | a :: l => by have := szMs_len l; have := szM_eq a; have := szV_eq a.v; simp only [szMs, List.length_cons]; omega
theorem seinekeep_Size_ok' : ∀ (n : Nat), n < 4611686018427387904 → ∀ v : GValue, szV v ≤ n → seinekeep_Size v = some (szV v : Int) := by
 intro n
 induction n with
 | zero => intro _ v h; have := szV_eq v; omega
 | succ n ih =>
  intro hn v h
  have hv := szV_eq v
  have hl := szVs_len v.l
  have hm := szMs_len v.m
  apply seinekeep_Size_run
  unfold seinekeep_Size_B
  have k1 := tloop_list (b := seinekeep_Size_l1T v) v.l (fun k (a : Nat) => ((a : Int), (k : Int))) (fun r a => ((a + szVs r : Nat) : Int)) (fun k a => a + szVs (v.l.drop k) ≤ 1 + v.s.length + szVs v.l)
   (by
    intro a _
    simp [seinekeep_Size_l1T, szVs])
   (by
    intro k x r a hk hx hd hI
    have hxm : x ∈ v.l := List.mem_of_getElem? hx
    have h1 := szVs_mem hxm
    have h2 := ih (by omega) x (by omega)
    rw [hd] at hI
    simp only [szVs] at hI
    have e1 : (decide ((k : Int) < (List.length v.l : Int))) = true := by simp; omega
    have e3 : IntKind.wrap .i64 ((k : Int) + 1) = ((k + 1 : Nat) : Int) := wadd (by omega)
    have e4 : IntKind.wrap .i64 ((a : Int) + (szV x : Int)) = ((a + szV x : Nat) : Int) := by rw [wi (by omega)]; omega
    refine .inr ⟨a + szV x, ?_, ?_, ?_⟩
    ·simp only [seinekeep_Size_l1T, e1, cnd_t, nthI_nat, hx, bnd_s, h2, e3, e4]
    ·have : v.l.drop (k + 1) = r := by rw [← List.tail_drop, hd]; rfl
     rw [this]; omega
    ·simp only [szVs, Nat.add_assoc])
  have k2 := tloop_list (b := seinekeep_Size_l2T v) v.m (fun k (a : Nat) => ((a : Int), (k : Int))) (fun r a => ((a + szMs r : Nat) : Int)) (fun k a => a + szMs (v.m.drop k) ≤ 1 + v.s.length + szVs v.l + szMs v.m)
   (by
    intro a _
    simp [seinekeep_Size_l2T, szMs])
   (by
    intro k x r a hk hx hd hI
    have hxm : x ∈ v.m := List.mem_of_getElem? hx
    have h1 := szMs_mem hxm
    have h1' := szM_eq x
    have h2 := ih (by omega) x.v (by omega)
    rw [hd] at hI
    simp only [szMs] at hI
    have e1 : (decide ((k : Int) < (List.length v.m : Int))) = true := by simp; omega
    have e3 : IntKind.wrap .i64 ((k : Int) + 1) = ((k + 1 : Nat) : Int) := wadd (by omega)
    have e5 : IntKind.wrap .i64 ((a : Int) + (x.name.length : Int)) = ((a + x.name.length : Nat) : Int) := by rw [wi (by omega)]; omega
    have e4 : IntKind.wrap .i64 (((a + x.name.length : Nat) : Int) + (szV x.v : Int)) = ((a + szM x : Nat) : Int) := by rw [wi (by omega)]; omega
    refine .inr ⟨a + szM x, ?_, ?_, ?_⟩
    ·simp only [seinekeep_Size_l2T, e1, cnd_t, nthI_nat, hx, bnd_s, h2, e3, e4, e5]
    ·have : v.m.drop (k + 1) = r := by rw [← List.tail_drop, hd]; rfl
     rw [this]; omega
    ·simp only [szMs, Nat.add_assoc])
  have e0 : IntKind.wrap .i64 (1 + (v.s.length : Int)) = ((1 + v.s.length : Nat) : Int) := by rw [wi (by omega)]; omega
  rw [e0, show (0 : Int) = ((0 : Nat) : Int) from rfl, k1 0 (1 + v.s.length) (by omega) (by simp)]
  simp only [List.drop_zero, bnd_s]
  rw [k2 0 (1 + v.s.length + szVs v.l) (by omega) (by simp)]
  simp only [List.drop_zero, bnd_s, hv]
theorem seinekeep_Size_ok (v : GValue) (h : szV v < 4611686018427387904) : seinekeep_Size v = some (szV v : Int) := seinekeep_Size_ok' _ h v (Nat.le_refl _)
mutual
theorem szV_bk : ∀ v : GValue, szV v ≤ bkValue v
 | ⟨_, _, s, l, m⟩ => by
  have h1 := szVs_bk l
  have h2 := szMs_bk m
  simp only [szV, bkValue, bk1, bkStr]; omega
theorem szVs_bk : ∀ l : List GValue, szVs l ≤ bkValues l
 | [] => by simp [szVs]
 | x :: l => by have := szV_bk x; have := szVs_bk l; simp only [szVs, bkValues]; omega
theorem szM_bk : ∀ x : GMember, szM x ≤ bkMember x
 | ⟨n, v⟩ => by have := szV_bk v; simp only [szM, bkMember, bkStr]; omega
theorem szMs_bk : ∀ l : List GMember, szMs l ≤ bkMembers l
 | [] => by simp [szMs]
 | x :: l => by have := szM_bk x; have := szMs_bk l; simp only [szMs, bkMembers]; omega
end
theorem members_of (m : List GMember) (hm : m.length < 1073741824) (h : ∀ x ∈ m, seineref1_Same x.v x.v = some true) : seineref1_Members m m = some true := by
 apply seineref1_Members_run
 unfold seineref1_Members_B
 have key := tloop_list (b := seineref1_Members_l1T m m) m (fun k (_ : Unit) => (k : Int)) (fun r _ => Sum.inl ()) (fun _ _ => True)
  (by intro a _; simp [seineref1_Members_l1T])
  (by
   intro k x r a hk hx hd _
   have e1 : (decide ((k : Int) < (List.length m : Int))) = true := by simp; omega
   have e3 : IntKind.wrap .i64 ((k : Int) + 1) = ((k + 1 : Nat) : Int) := wadd (by omega)
   refine .inr ⟨(), ?_, trivial, rfl⟩
   simp only [seineref1_Members_l1T, e1, cnd_t, nthI_nat, hx, bnd_s, beq_self_eq_true, Bool.not_true, cnd_f, h x (List.mem_of_getElem? hx), e3])
 have := key 0 () (by omega) trivial
 rw [show (0 : Int) = ((0 : Nat) : Int) from rfl, this]
 simp
theorem seineref1_Same_self' : ∀ (n : Nat), n < 1073741824 → ∀ v : GValue, szV v ≤ n → seineref1_Same v v = some true := by
 intro n
 induction n with
 | zero => intro _ v h; have := szV_eq v; omega
 | succ n ih =>
  intro hn v h
  have hv := szV_eq v
  have hl := szVs_len v.l
  have hm := szMs_len v.m
  apply seineref1_Same_run
  unfold seineref1_Same_B
  have key := tloop_list (b := seineref1_Same_l1T v v) v.l (fun k (_ : Unit) => (k : Int)) (fun r _ => Sum.inl ()) (fun _ _ => True)
   (by intro a _; simp [seineref1_Same_l1T])
   (by
    intro k x r a hk hx hd _
    have e1 : (decide ((k : Int) < (List.length v.l : Int))) = true := by simp; omega
    have e3 : IntKind.wrap .i64 ((k : Int) + 1) = ((k + 1 : Nat) : Int) := wadd (by omega)
    have hs := ih (by omega) x (by have := szVs_mem (List.mem_of_getElem? hx); omega)
    refine .inr ⟨(), ?_, trivial, rfl⟩
    simp only [seineref1_Same_l1T, e1, cnd_t, nthI_nat, hx, bnd_s, hs, Bool.not_true, cnd_f, e3])
  have hk := key 0 () (by omega) trivial
  have hmm := members_of v.m (by omega) fun x hx => ih (by omega) x.v (by have := szMs_mem hx; have := szM_eq x; omega)
  rw [show (0 : Int) = ((0 : Nat) : Int) from rfl, hk]
  simp [hmm]
theorem seineref1_Same_self (v : GValue) (h : szV v < 1073741824) : seineref1_Same v v = some true := seineref1_Same_self' _ h v (Nat.le_refl _)
theorem slices_Index_string_ok (l : List Str) (v : Str) (hl : Sm l) : ∃ i, slices_Index_string_string l v = some i ∧ decide (i ≥ 0) = l.contains v := by
 have key := loop_list (b := slices_Index_string_string_l1T l v) l (fun k (_ : Nat) => (k : Int)) (fun r k => match r.findIdx? (fun y => v == y) with | some j => Sum.inr ((k + j : Nat) : Int) | none => Sum.inl ()) (fun k a => a = k) hl
  (by intro a _; simp [slices_Index_string_string_l1T])
  (by
   intro k x r a hm hk hd h1 h2 h3 hI
   subst hI
   simp only [slices_Index_string_string_l1T, h1, cnd_t, h2, bnd_s, h3, List.findIdx?_cons]
   cases hv : v == x
   ·refine .inr ⟨a + 1, rfl, rfl, ?_⟩
    simp only [Bool.false_eq_true, if_false]
    cases r.findIdx? (fun y => v == y) with
    | none => rfl
    | some j => simp only [Option.map_some]; congr 2; omega
   ·left; simp) (s := 0) (a := 0) rfl rfl
 have hrun : ∀ i, slices_Index_string_string_B l v = some i → slices_Index_string_string l v = some i := fun i h => slices_Index_string_string_run h
 unfold slices_Index_string_string_B at hrun
 rw [key] at hrun
 simp only [bnd_s, Nat.zero_add] at hrun
 have hc : l.contains v = (l.findIdx? (fun y => v == y)).isSome := by
  rw [List.findIdx?_isSome, List.contains_eq_any_beq]
 cases hf : l.findIdx? (fun y => v == y) with
 | none => rw [hf] at hrun hc; exact ⟨-1, hrun _ rfl, by rw [hc]; rfl⟩
 | some j => rw [hf] at hrun hc; exact ⟨(j : Int), hrun _ rfl, by rw [hc]; simp⟩
theorem slices_Contains_string_ok (l : List Str) (v : Str) (hl : Sm l) : slices_Contains_string_string l v = some (l.contains v) := by
 obtain ⟨i, h1, h2⟩ := slices_Index_string_ok l v hl
 apply slices_Contains_string_string_run
 simp only [slices_Contains_string_string_B, h1, bnd_s, h2]
theorem slices_Index_int_ok (l : List Int) (v : Int) (hl : Sm l) : ∃ i, slices_Index_int_int l v = some i ∧ decide (i ≥ 0) = l.contains v := by
 have key := loop_list (b := slices_Index_int_int_l1T l v) l (fun k (_ : Nat) => (k : Int)) (fun r k => match r.findIdx? (fun y => v == y) with | some j => Sum.inr ((k + j : Nat) : Int) | none => Sum.inl ()) (fun k a => a = k) hl
  (by intro a _; simp [slices_Index_int_int_l1T])
  (by
   intro k x r a hm hk hd h1 h2 h3 hI
   subst hI
   simp only [slices_Index_int_int_l1T, h1, cnd_t, h2, bnd_s, h3, List.findIdx?_cons]
   cases hv : v == x
   ·refine .inr ⟨a + 1, rfl, rfl, ?_⟩
    simp only [Bool.false_eq_true, if_false]
    cases r.findIdx? (fun y => v == y) with
    | none => rfl
    | some j => simp only [Option.map_some]; congr 2; omega
   ·left; simp) (s := 0) (a := 0) rfl rfl
 have hrun : ∀ i, slices_Index_int_int_B l v = some i → slices_Index_int_int l v = some i := fun i h => slices_Index_int_int_run h
 unfold slices_Index_int_int_B at hrun
 rw [key] at hrun
 simp only [bnd_s, Nat.zero_add] at hrun
 have hc : l.contains v = (l.findIdx? (fun y => v == y)).isSome := by
  rw [List.findIdx?_isSome, List.contains_eq_any_beq]
 cases hf : l.findIdx? (fun y => v == y) with
 | none => rw [hf] at hrun hc; exact ⟨-1, hrun _ rfl, by rw [hc]; rfl⟩
 | some j => rw [hf] at hrun hc; exact ⟨(j : Int), hrun _ rfl, by rw [hc]; simp⟩
theorem slices_Contains_int_ok (l : List Int) (v : Int) (hl : Sm l) : slices_Contains_int_int l v = some (l.contains v) := by
 obtain ⟨i, h1, h2⟩ := slices_Index_int_ok l v hl
 apply slices_Contains_int_int_run
 simp only [slices_Contains_int_int_B, h1, bnd_s, h2]
theorem seineref1_Has_ok (l : List Str) (v : Str) (hl : Sm l) : seineref1_Has l v = some (l.contains v) := by
 apply seineref1_Has_run
 unfold seineref1_Has_B
 rw [loop_idx (b := seineref1_Has_l1T l v) l (fun r => bif r.contains v then .inr () else .inl ()) hl (by simp [seineref1_Has_l1T]) (by
  intro k x r hm h1 h2 h3
  simp only [seineref1_Has_l1T, h1, cnd_t, h2, bnd_s, h3, List.contains_cons]
  rw [BEq.comm (a := x) (b := v)]
  cases v == x
  ·right; simp
  ·left; simp)]
 cases l.contains v <;> rfl
theorem find_some {α : Type} (l : List α) (p : α → Bool) {β : Type} (g : α → β) : l.findSome? (fun x => if p x then some (g x) else none) = (l.find? p).map g := by
 induction l with
 | nil => rfl
 | cons a l ih =>
  rw [List.findSome?_cons, List.find?_cons]
  cases p a with
  | true => rfl
  | false => exact ih
def addD (l : List Str) (n : Str) : List Str := bif l.contains n then l else l ++ [n]
theorem addD_len (l : List Str) (n : Str) : (addD l n).length ≤ l.length + 1 := by
 unfold addD; cases l.contains n <;> simp
abbrev zDef : GDef := ⟨0, [], [], [], [], []⟩
def scalarN (n : Str) : Bool := n == [73, 110, 116] || (n == [83, 116, 114, 105, 110, 103] || (n == [66, 111, 111, 108, 101, 97, 110] || n == [73, 68]))
theorem defs_scalar_ok (n : Str) : defs_scalar n = some (scalarN n) := by
 apply defs_scalar_run
 simp only [defs_scalar_B, scalarN]
 cases n == [73, 110, 116] <;> cases n == [83, 116, 114, 105, 110, 103] <;> cases n == [66, 111, 111, 108, 101, 97, 110] <;> rfl
theorem seineref9_scalar_ok (n : Str) : seineref9_scalar n = some (scalarN n) := by
 apply seineref9_scalar_run
 simp only [seineref9_scalar_B, scalarN]
 cases n == [73, 110, 116] <;> cases n == [83, 116, 114, 105, 110, 103] <;> cases n == [66, 111, 111, 108, 101, 97, 110] <;> rfl
def findD (s : GSchema) (n : Str) : GDef × Bool := bif scalarN n then (⟨0, n, [], [], [], []⟩, true) else match s.defs.find? (fun d => d.name == n) with | some d => (d, true) | none => (zDef, false)
theorem defs_Find_ok (s : GSchema) (n : Str) (hl : Sm s.defs) : defs_Find s n = some (findD s n) := by
 apply defs_Find_run
 unfold defs_Find_B findD
 rw [loop_find (b := defs_Find_l1T s n) s.defs (fun d => if (d.name == n) = true then some (.inr (d.kind, d.name, d.faces, d.fields, d.parts, d.params)) else none) (.inl ()) hl (by simp [defs_Find_l1T]) (by
  intro k x hm h1 h2 h3
  simp only [defs_Find_l1T, h1, cnd_t, h2, bnd_s, h3]
  cases x.name == n <;> rfl)]
 rw [find_some, defs_scalar_ok]
 cases scalarN n
 ·simp only [bnd_s, cnd_f, cond_false]
  cases s.defs.find? (fun d => d.name == n) <;> rfl
 ·rfl
theorem seineref9_Find_ok (s : GSchema) (n : Str) (hl : Sm s.defs) : seineref9_Find s n = some (findD s n) := by
 apply seineref9_Find_run
 unfold seineref9_Find_B findD
 rw [loop_find (b := seineref9_Find_l1T s n) s.defs (fun d => if (d.name == n) = true then some (.inr (d.kind, d.name, d.faces, d.fields, d.parts, d.params)) else none) (.inl ()) hl (by simp [seineref9_Find_l1T]) (by
  intro k x hm h1 h2 h3
  simp only [seineref9_Find_l1T, h1, cnd_t, h2, bnd_s, h3]
  cases x.name == n <;> rfl)]
 rw [find_some, seineref9_scalar_ok]
 cases scalarN n
 ·simp only [bnd_s, cnd_f, cond_false]
  cases s.defs.find? (fun d => d.name == n) <;> rfl
 ·rfl
def kindD (s : GSchema) (n : Str) (ks : List Int) : Bool := (findD s n).2 && ks.contains (findD s n).1.kind
theorem defs_Kind_ok (s : GSchema) (n : Str) (ks : List Int) (hl : Sm s.defs) (hk : Sm ks) : defs_Kind s n ks = some (kindD s n ks) := by
 apply defs_Kind_run
 simp only [defs_Kind_B, defs_Find_ok s n hl, bnd_s, slices_Contains_int_ok ks _ hk, kindD]
 cases (findD s n).2 <;> rfl
theorem seineref9_is_ok (s : GSchema) (n : Str) (a b c : Int) (hl : Sm s.defs) : seineref9_is s n a b c = some (kindD s n [a, b, c]) := by
 apply seineref9_is_run
 simp only [seineref9_is_B, seineref9_Find_ok s n hl, bnd_s, kindD]
 have : [a, b, c].contains (findD s n).1.kind = ((findD s n).1.kind == a || ((findD s n).1.kind == b || (findD s n).1.kind == c)) := by
  simp only [List.contains_cons, List.contains_nil, Bool.or_false]
 rw [this]
 cases (findD s n).2 <;> cases (findD s n).1.kind == a <;> cases (findD s n).1.kind == b <;> rfl
theorem kindD_one (s : GSchema) (n : Str) (a : Int) : kindD s n [a, a, a] = kindD s n [a] := by
 simp only [kindD, List.contains_cons, List.contains_nil, Bool.or_false, Bool.or_self]
theorem seineref9_Object_ok (s : GSchema) (n : Str) (hl : Sm s.defs) : seineref9_Object s n = some (kindD s n [1]) :=
 seineref9_Object_run (by simp [seineref9_Object_B, seineref9_is_ok s n _ _ _ hl, kindD_one])
theorem defs_add_ok (l : List Str) (n : Str) (hl : l.length < 1073741824) : defs_add l n = some (addD l n) := by
 apply defs_add_run
 simp only [defs_add_B, slices_Contains_string_ok l n (by show l.length < _; omega), bnd_s, tapp_ok (show l.length + [n].length ≤ lim by simp [lim_val]; omega), addD]
 cases l.contains n <;> rfl
def possD (s : GSchema) (n : Str) : List Str :=
 bif !(findD s n).2 then [] else bif (findD s n).1.kind == 1 then [n] else
 bif (findD s n).1.kind == 2 then s.defs.foldl (fun l x => bif x.kind == 1 && x.faces.contains n then addD l x.name else l) [] else
 bif (findD s n).1.kind == 3 then (findD s n).1.parts.foldl (fun l p => bif kindD s p [1] then addD l p else l) [] else []
structure SOk (s : GSchema) : Prop where
 bk : bkSchema s < 1073741824
theorem bkDef_pos (d : GDef) : 1 ≤ bkDef d := by rw [bkDef_eq]; omega
theorem bkFieldDef_pos (d : GFieldDef) : 1 ≤ bkFieldDef d := by rw [bkFieldDef_eq]; omega
theorem bkParam_pos (d : GParam) : 1 ≤ bkParam d := by rw [bkParam_eq]; omega
theorem bkDir_pos (d : GDir) : 1 ≤ bkDir d := by rw [bkDir_eq]; omega
theorem bkMember_pos (d : GMember) : 1 ≤ bkMember d := by rw [bkMember_eq]; omega
theorem SOk.defs {s : GSchema} (h : SOk s) : s.defs.length < 1073741824 := by
 have h1 := h.bk; rw [bkSchema_eq] at h1
 have h2 := sl_len bkDef_pos s.defs
 omega
theorem SOk.def_bk {s : GSchema} (h : SOk s) {d : GDef} (hd : d ∈ s.defs) : bkDef d < 1073741824 := by
 have h1 := h.bk; rw [bkSchema_eq] at h1
 have h2 := sl_mem (f := bkDef) hd
 omega
theorem SOk.faces {s : GSchema} (h : SOk s) (d : GDef) (hd : d ∈ s.defs) : d.faces.length < 1073741824 := by
 have h1 := h.def_bk hd; rw [bkDef_eq] at h1
 have h2 := sl_len bkStr_pos d.faces
 omega
theorem SOk.parts {s : GSchema} (h : SOk s) (d : GDef) (hd : d ∈ s.defs) : d.parts.length < 1073741824 := by
 have h1 := h.def_bk hd; rw [bkDef_eq] at h1
 have h2 := sl_len bkStr_pos d.parts
 omega
theorem SOk.fields {s : GSchema} (h : SOk s) (d : GDef) (hd : d ∈ s.defs) : d.fields.length < 1073741824 := by
 have h1 := h.def_bk hd; rw [bkDef_eq] at h1
 have h2 := sl_len bkFieldDef_pos d.fields
 omega
theorem SOk.sm {s : GSchema} (h : SOk s) : Sm s.defs := by have := h.defs; show s.defs.length < _; omega
theorem findD_mem (s : GSchema) (n : Str) : (findD s n).1 ∈ s.defs ∨ ((findD s n).1.faces = [] ∧ (findD s n).1.fields = [] ∧ (findD s n).1.parts = [] ∧ (findD s n).1.params = []) := by
 unfold findD
 cases scalarN n
 ·simp only [cond_false]
  cases h : s.defs.find? (fun d => d.name == n) with
  | none => exact .inr ⟨rfl, rfl, rfl, rfl⟩
  | some d => exact .inl (List.mem_of_find?_eq_some h)
 ·exact .inr ⟨rfl, rfl, rfl, rfl⟩
theorem SOk.partsF {s : GSchema} (h : SOk s) (n : Str) : (findD s n).1.parts.length < 1073741824 := by
 rcases findD_mem s n with hm | ⟨_, _, hp, _⟩
 ·exact h.parts _ hm
 ·rw [hp]; decide
theorem defs_Possible_ok (s : GSchema) (n : Str) (h : SOk s) : defs_Possible s n = some (possD s n) := by
 apply defs_Possible_run
 have hs := h.sm
 have hd := h.defs
 have hp := h.partsF n
 have k1 := loop_fold (b := defs_Possible_l1T s n) s.defs (fun k (a : List Str) => (a, (k : Int))) (fun l x => bif x.kind == 1 && x.faces.contains n then addD l x.name else l) id (fun k a => a.length ≤ k) hs
  (by intro a _; simp [defs_Possible_l1T])
  (by
   intro k x a hm hk h1 h2 h3 hI
   simp only [defs_Possible_l1T, h1, cnd_t, h2, bnd_s, h3, slices_Contains_string_ok x.faces n (by have := h.faces x hm; show x.faces.length < _; omega), defs_add_ok a x.name (by omega)]
   cases x.kind == 1
   ·exact ⟨rfl, by simp only [Bool.false_and, cond_false]; omega⟩
   ·cases x.faces.contains n
    ·exact ⟨rfl, by simp only [Bool.and_false, cond_false]; omega⟩
    ·exact ⟨rfl, by simp only [Bool.and_self, cond_true]; have := addD_len a x.name; omega⟩) (s := ([], 0)) (a := []) rfl (by simp)
 have k2 := loop_fold (b := defs_Possible_l2T s (findD s n)) (findD s n).1.parts (fun k (a : List Str) => (a, (k : Int))) (fun l p => bif kindD s p [1] then addD l p else l) id (fun k a => a.length ≤ k) (by show (findD s n).1.parts.length < _; omega)
  (by intro a _; simp [defs_Possible_l2T])
  (by
   intro k x a hm hk h1 h2 h3 hI
   simp only [defs_Possible_l2T, h1, cnd_t, h2, bnd_s, h3, defs_Kind_ok s x [1] hs (by decide), defs_add_ok a x (by omega)]
   cases kindD s x [1]
   ·exact ⟨rfl, by simp only [cond_false]; omega⟩
   ·exact ⟨rfl, by simp only [cond_true]; have := addD_len a x; omega⟩) (s := ([], 0)) (a := []) rfl (by simp)
 simp only [defs_Possible_B, defs_Find_ok s n hs, bnd_s, k1, k2, possD, id]
 cases (findD s n).2 <;> cases (findD s n).1.kind == 1 <;> cases (findD s n).1.kind == 2 <;> cases (findD s n).1.kind == 3 <;> rfl
theorem seineref9_Possible_ok (s : GSchema) (n : Str) (h : SOk s) : seineref9_Possible s n = some (possD s n) := by
 apply seineref9_Possible_run
 have hs := h.sm
 have hd := h.defs
 have hp := h.partsF n
 have ta : ∀ (a : List Str) (x : Str), a.length < 1073741824 → tapp a [x] = some (a ++ [x]) := fun a x ha => tapp_ok (by simp [lim_val]; omega)
 have k1 := loop_fold (b := seineref9_Possible_l1T s n) s.defs (fun k (a : List Str) => (a, (k : Int))) (fun l x => bif x.kind == 1 && x.faces.contains n then addD l x.name else l) id (fun k a => a.length ≤ k) hs
  (by intro a _; simp [seineref9_Possible_l1T])
  (by
   intro k x a hm hk h1 h2 h3 hI
   simp only [seineref9_Possible_l1T, h1, cnd_t, h2, bnd_s, h3, seineref1_Has_ok x.faces n (by have := h.faces x hm; show x.faces.length < _; omega), seineref1_Has_ok a x.name (by show a.length < _; omega), ta a x.name (by omega)]
   cases x.kind == 1
   ·exact ⟨rfl, by simp only [Bool.false_and, cond_false]; omega⟩
   ·cases x.faces.contains n
    ·exact ⟨rfl, by simp only [Bool.and_false, cond_false]; omega⟩
    ·unfold addD
     cases a.contains x.name
     ·exact ⟨rfl, by simp; omega⟩
     ·exact ⟨rfl, by simp; omega⟩) (s := ([], 0)) (a := []) rfl (by simp)
 have k2 := loop_fold (b := seineref9_Possible_l2T s (findD s n)) (findD s n).1.parts (fun k (a : List Str) => (a, (k : Int))) (fun l p => bif kindD s p [1] then addD l p else l) id (fun k a => a.length ≤ k) (by show (findD s n).1.parts.length < _; omega)
  (by intro a _; simp [seineref9_Possible_l2T])
  (by
   intro k x a hm hk h1 h2 h3 hI
   simp only [seineref9_Possible_l2T, h1, cnd_t, h2, bnd_s, h3, seineref9_Object_ok s x hs, seineref1_Has_ok a x (by show a.length < _; omega), ta a x (by omega)]
   cases kindD s x [1]
   ·exact ⟨rfl, by simp only [cond_false]; omega⟩
   ·unfold addD
    cases a.contains x
    ·exact ⟨rfl, by simp; omega⟩
    ·exact ⟨rfl, by simp; omega⟩) (s := ([], 0)) (a := []) rfl (by simp)
 simp only [seineref9_Possible_B, seineref9_Find_ok s n hs, bnd_s, k1, k2, possD, id, show tapp ([] : List Str) [n] = some [n] from rfl]
 cases (findD s n).2 <;> cases (findD s n).1.kind == 1 <;> cases (findD s n).1.kind == 2 <;> cases (findD s n).1.kind == 3 <;> rfl
theorem foldl_add_len {α : Type} (c : α → Bool) (f : α → Str) : ∀ (l : List α) (a : List Str), (l.foldl (fun l x => bif c x then addD l (f x) else l) a).length ≤ a.length + l.length
 | [], a => by simp
 | x :: l, a => by
  have := foldl_add_len c f l (bif c x then addD a (f x) else a)
  have h2 := addD_len a (f x)
  rw [List.foldl_cons, List.length_cons]
  cases hc : c x <;> rw [hc] at this <;> simp only [cond_true, cond_false] at this ⊢ <;> omega
theorem possD_len (s : GSchema) (n : Str) (h : SOk s) : (possD s n).length < 1073741824 := by
 have h1 := h.defs
 have h2 := h.partsF n
 have h3 := foldl_add_len (fun x : GDef => x.kind == 1 && x.faces.contains n) (fun x => x.name) s.defs []
 have h4 := foldl_add_len (fun p : Str => kindD s p [1]) (fun p => p) (findD s n).1.parts []
 simp only [List.length_nil, Nat.zero_add] at h3 h4
 unfold possD
 cases (findD s n).2 <;> cases (findD s n).1.kind == 1 <;> cases (findD s n).1.kind == 2 <;> cases (findD s n).1.kind == 3 <;> simp only [Bool.not_true, Bool.not_false, cond_true, cond_false, List.length_nil, List.length_singleton] <;> omega
theorem members_keep (m : List GMember) (hm : m.length < 1073741824) (h : ∀ x ∈ m, seinekeep_Value x.v = some x.v) : seinekeep_Members m = some m := by
 apply seinekeep_Members_run
 unfold seinekeep_Members_B
 rw [loop_copy (b := seinekeep_Members_l1T m) m (fun k a => (a, (k : Int))) hm (by intro a; simp [seinekeep_Members_l1T]) (by
  intro k x a hx h1 h2 h3 h4
  simp only [seinekeep_Members_l1T, h1, cnd_t, h2, bnd_s, h3, h4, h x hx]
  cases x; rfl) (s := ([], 0)) rfl]
 rfl
theorem seinekeep_Value_ok' : ∀ (n : Nat), n < 1073741824 → ∀ v : GValue, szV v ≤ n → seinekeep_Value v = some v := by
 intro n
 induction n with
 | zero => intro _ v h; have := szV_eq v; omega
 | succ n ih =>
  intro hn v h
  have hv := szV_eq v
  have hl := szVs_len v.l
  have hm := szMs_len v.m
  apply seinekeep_Value_run
  unfold seinekeep_Value_B
  rw [loop_copy (b := seinekeep_Value_l1T v) v.l (fun k a => (a, (k : Int))) (by omega) (by intro a; simp [seinekeep_Value_l1T]) (by
   intro k x a hx h1 h2 h3 h4
   simp only [seinekeep_Value_l1T, h1, cnd_t, h2, bnd_s, h3, h4, ih (by omega) x (by have := szVs_mem hx; omega)]) (s := ([], 0)) rfl]
  simp only [bnd_s, members_keep v.m (by omega) fun x hx => ih (by omega) x.v (by have := szMs_mem hx; have := szM_eq x; omega)]
  cases v; rfl
theorem seinekeep_Value_ok (v : GValue) (h : szV v < 1073741824) : seinekeep_Value v = some v := seinekeep_Value_ok' _ h v (Nat.le_refl _)
theorem szV_mem_bk {m : List GMember} (h : bkSl bkMember m < 1073741824) {x : GMember} (hx : x ∈ m) : szV x.v < 1073741824 := by
 have h1 := sl_mem (f := bkMember) hx
 have h2 := szM_bk x
 have h3 := szM_eq x
 omega
theorem seinekeep_Dirs_ok (l : List GDir) (h : bkSl bkDir l < 1073741824) : seinekeep_Dirs l = some l := by
 apply seinekeep_Dirs_run
 unfold seinekeep_Dirs_B
 have hl := sl_len bkDir_pos l
 rw [loop_copy (b := seinekeep_Dirs_l1T l) l (fun k a => (a, (k : Int))) (by omega) (by intro a; simp [seinekeep_Dirs_l1T]) (by
  intro k x a hx h1 h2 h3 h4
  have hb := sl_mem (f := bkDir) hx
  rw [bkDir_eq] at hb
  have hm := sl_len bkMember_pos x.args
  simp only [seinekeep_Dirs_l1T, h1, cnd_t, h2, bnd_s, h3, h4, members_keep x.args (by omega) fun y hy => seinekeep_Value_ok y.v (szV_mem_bk (by omega) hy)]) (s := ([], 0)) rfl]
 rfl
theorem seineref6_SameDirs_self (l : List GDir) (h : bkSl bkDir l < 1073741824) : seineref6_SameDirs l l = some true := by
 apply seineref6_SameDirs_run
 unfold seineref6_SameDirs_B
 have hl := sl_len bkDir_pos l
 rw [loop_all (b := seineref6_SameDirs_l1T l l) l (.inl ()) (by show l.length < _; omega) (by simp [seineref6_SameDirs_l1T]) (by
  intro k x hx h1 h2 h3
  have hb := sl_mem (f := bkDir) hx
  rw [bkDir_eq] at hb
  have hm := sl_len bkMember_pos x.args
  simp only [seineref6_SameDirs_l1T, h1, cnd_t, h2, bnd_s, h3, beq_self_eq_true, Bool.not_true, cnd_f, members_of x.args (by omega) fun y hy => seineref1_Same_self y.v (szV_mem_bk (by omega) hy)])]
 simp
theorem lightTexts_ex (l : List Str) (h : l.length < 1073741824) : ∃ n, seinelaw8_lightTexts l = some n := by
 obtain ⟨r, hr⟩ := loop_ex (b := seinelaw8_lightTexts_l1T l) l (fun k (a : Int) => (a, (k : Int))) (by show l.length < _; omega) (fun a => ⟨a, by simp [seinelaw8_lightTexts_l1T]⟩) (by
  intro k x a hx h1 h2 h3
  right; simp only [seinelaw8_lightTexts_l1T, h1, cnd_t, h2, bnd_s, h3]; exact ⟨_, rfl⟩) (s := (0, 0)) (a := 0) rfl
 exact ⟨r, seinelaw8_lightTexts_run (by simp only [seinelaw8_lightTexts_B, hr, bnd_s])⟩
theorem lightParams_ex (l : List GParam) (h : bkSl bkParam l < 1073741824) : ∃ n, seinelaw8_lightParams l = some n := by
 have hl := sl_len bkParam_pos l
 obtain ⟨r, hr⟩ := loop_ex (b := seinelaw8_lightParams_l1T l) l (fun k (a : Int) => (a, (k : Int))) (by show l.length < _; omega) (fun a => ⟨a, by simp [seinelaw8_lightParams_l1T]⟩) (by
  intro k x a hx h1 h2 h3
  have hb := sl_mem (f := bkParam) hx
  rw [bkParam_eq] at hb
  have hv := szV_bk x.default
  right; simp only [seinelaw8_lightParams_l1T, h1, cnd_t, h2, bnd_s, h3, seinekeep_Size_ok x.default (by omega)]; exact ⟨_, rfl⟩) (s := (0, 0)) (a := 0) rfl
 exact ⟨r, seinelaw8_lightParams_run (by simp only [seinelaw8_lightParams_B, hr, bnd_s])⟩
theorem lightDirs_ex (l : List GDir) (h : bkSl bkDir l < 1073741824) : ∃ n, seinelaw8_lightDirs l = some n := by
 have hl := sl_len bkDir_pos l
 obtain ⟨r, hr⟩ := loop_ex (b := seinelaw8_lightDirs_l1T l) l (fun k (a : Int) => (a, (k : Int))) (by show l.length < _; omega) (fun a => ⟨a, by simp [seinelaw8_lightDirs_l1T]⟩) (by
  intro k x a hx h1 h2 h3
  have hb := sl_mem (f := bkDir) hx
  rw [bkDir_eq] at hb
  have hv : szV ⟨0, 0, [], [], x.args⟩ < 4611686018427387904 := by
   have h4 := szMs_bk x.args
   rw [bkMembers_eq] at h4
   simp only [szV, szVs, List.length_nil]
   have h5 : bkSl bkMember x.args = sumL bkMember x.args + 1 := rfl
   omega
  right; simp only [seinelaw8_lightDirs_l1T, h1, cnd_t, h2, bnd_s, h3, seinekeep_Size_ok _ hv]; exact ⟨_, rfl⟩) (s := (0, 0)) (a := 0) rfl
 exact ⟨r, seinelaw8_lightDirs_run (by simp only [seinelaw8_lightDirs_B, hr, bnd_s])⟩
theorem seinelaw8_Light_ex (s : GSchema) (h : SOk s) : ∃ b, seinelaw8_Light s = some b := by
 obtain ⟨r, hr⟩ := loop_ex (b := seinelaw8_Light_l2T s) s.defs (fun k (a : Int) => (a, (k : Int))) h.sm (fun a => ⟨a, by simp [seinelaw8_Light_l2T]⟩) (by
  intro k d a hd h1 h2 h3
  have hb := h.def_bk hd
  rw [bkDef_eq] at hb
  obtain ⟨n1, e1⟩ := lightTexts_ex d.faces (h.faces d hd)
  obtain ⟨n2, e2⟩ := lightTexts_ex d.parts (h.parts d hd)
  obtain ⟨n3, e3⟩ := lightParams_ex d.params (by omega)
  have hin : ∀ n0 : Int, ∃ n, tloop (seinelaw8_Light_l1T d) (n0, 0) = some n := by
   intro n0
   refine loop_ex (b := seinelaw8_Light_l1T d) d.fields (fun k (a : Int) => (a, (k : Int))) (by have := h.fields d hd; show d.fields.length < _; omega) (fun a => ⟨a, by simp [seinelaw8_Light_l1T]⟩) (by
    intro k f a hf h1 h2 h3
    have hfb := sl_mem (f := bkFieldDef) hf
    rw [bkFieldDef_eq] at hfb
    obtain ⟨m1, g1⟩ := lightParams_ex f.params (by omega)
    obtain ⟨m2, g2⟩ := lightDirs_ex f.dirs (by omega)
    right; simp only [seinelaw8_Light_l1T, h1, cnd_t, h2, bnd_s, h3, g1, g2]; exact ⟨_, rfl⟩) (a := n0) rfl
  right
  simp only [seinelaw8_Light_l2T, h1, cnd_t, h2, bnd_s, h3, e1, e2, e3]
  obtain ⟨n, hn⟩ := hin (IntKind.wrap .i64 ((IntKind.wrap .i64 ((IntKind.wrap .i64 ((IntKind.wrap .i64 ((IntKind.wrap .i64 (a + 1)) + (List.length d.name : Int))) + n1)) + n2)) + n3))
  rw [hn]
  exact ⟨n, rfl⟩) (s := (0, 0)) (a := 0) rfl
 exact ⟨decide (r ≤ 4000), seinelaw8_Light_run (by simp only [seinelaw8_Light_B, hr, bnd_s])⟩
mutual
def namesS1 : GSel → List Str
 | ⟨k, _, n, _, _, _, l⟩ => (bif k == 1 then [n] else []) ++ namesS l
def namesS : List GSel → List Str
 | [] => []
 | x :: l => namesS1 x ++ namesS l
end
mutual
theorem namesS1_bk : ∀ x : GSel, (namesS1 x).length ≤ bkSel x
 | ⟨k, a, n, ar, di, o, l⟩ => by
  have h := namesS_bk l
  simp only [namesS1, bkSel, List.length_append]
  cases k == 1 <;> simp only [cond_true, cond_false, List.length_singleton, List.length_nil, bk1] <;> omega
theorem namesS_bk : ∀ l : List GSel, (namesS l).length ≤ bkSels l
 | [] => by simp [namesS]
 | x :: l => by have := namesS1_bk x; have := namesS_bk l; simp only [namesS, bkSels, List.length_append]; omega
end
theorem bkSels_mem {x : GSel} {l : List GSel} (h : x ∈ l) : bkSel x ≤ bkSels l := by rw [bkSels_eq]; exact sumL_mem bkSel h
theorem bkSel_sels (x : GSel) : bkSels x.sels + 1 ≤ bkSel x := by rw [bkSel_eq, bkSels_eq]; simp only [bkSl]; omega
theorem bkSel_pos (x : GSel) : 1 ≤ bkSel x := by rw [bkSel_eq]; omega
theorem bkSels_len (l : List GSel) : l.length ≤ bkSels l := by rw [bkSels_eq]; exact sumL_len bkSel bkSel_pos l
abbrev zFrag : GFrag := ⟨[], [], [], []⟩
theorem IndexFrag_ok (l : List GFrag) (a b name : Str) (d : GDoc) (hl : Sm l) :
  ∃ i, slices_IndexFunc_Frag l a b name d = some i ∧ (match l.find? (fun f => f.name == name) with | some f => decide (i < 0) = false ∧ nthI l i = some f | none => decide (i < 0) = true) := by
 have hc : ∀ f, graph_Frag_1 f a b name d = some (f.name == name) := fun f => graph_Frag_1_run rfl
 have key := loop_list (b := slices_IndexFunc_Frag_l1T l a b name d) l (fun k (_ : Nat) => (k : Int)) (fun r k => match r.findIdx? (fun f => f.name == name) with | some j => Sum.inr ((k + j : Nat) : Int) | none => Sum.inl ()) (fun k a => a = k) hl
  (by intro a _; simp [slices_IndexFunc_Frag_l1T])
  (by
   intro k x r a' hm hk hd h1 h2 h3 hI
   subst hI
   simp only [slices_IndexFunc_Frag_l1T, h1, cnd_t, h2, bnd_s, h3, hc, List.findIdx?_cons]
   cases hv : x.name == name
   ·refine .inr ⟨a' + 1, rfl, rfl, ?_⟩
    simp only [Bool.false_eq_true, if_false]
    cases r.findIdx? (fun f => f.name == name) with
    | none => rfl
    | some j => simp only [Option.map_some]; congr 2; omega
   ·left; simp) (s := 0) (a := 0) rfl rfl
 have hrun : ∀ i, slices_IndexFunc_Frag_B l a b name d = some i → slices_IndexFunc_Frag l a b name d = some i := fun i h => slices_IndexFunc_Frag_run h
 unfold slices_IndexFunc_Frag_B at hrun
 rw [key] at hrun
 simp only [bnd_s, Nat.zero_add] at hrun
 cases hf : l.findIdx? (fun f => f.name == name) with
 | none =>
  rw [hf] at hrun
  refine ⟨-1, hrun _ rfl, ?_⟩
  rw [List.findIdx?_eq_none_iff] at hf
  have : l.find? (fun f => f.name == name) = none := List.find?_eq_none.2 fun x hx => by simp [hf x hx]
  rw [this]; rfl
 | some j =>
  rw [hf] at hrun
  refine ⟨(j : Int), hrun _ rfl, ?_⟩
  obtain ⟨hj, hp, hq⟩ := List.findIdx?_eq_some_iff_getElem.1 hf
  have : l.find? (fun f => f.name == name) = some l[j] := by
   rw [List.find?_eq_some_iff_getElem]
   exact ⟨hp, j, hj, rfl, fun k hk => by simpa using hq k hk⟩
  rw [this]
  exact ⟨by simp, by rw [nthI_nat, List.getElem?_eq_getElem hj]⟩
def fragD (d : GDoc) (n : Str) : GFrag × Bool := match d.frags.find? (fun f => f.name == n) with | some f => (f, true) | none => (zFrag, false)
theorem graph_Frag_ok (d : GDoc) (n : Str) (hl : Sm d.frags) : graph_Frag d n = some (fragD d n) := by
 apply graph_Frag_run
 obtain ⟨i, h1, h2⟩ := IndexFrag_ok d.frags [] [] n d hl
 simp only [graph_Frag_B, h1, bnd_s, fragD]
 cases hf : d.frags.find? (fun f => f.name == n) with
 | none => rw [hf] at h2; simp only at h2; rw [h2]; rfl
 | some f => rw [hf] at h2; obtain ⟨h3, h4⟩ := h2; rw [h3, h4]; rfl
theorem flat_len : ∀ l : List GFrag, (l.flatMap fun f => namesS f.sels).length ≤ sumL bkFrag l
 | [] => by simp [sumL]
 | f :: l => by
  have h1 := flat_len l
  have h2 := namesS_bk f.sels
  have h3 : bkSels f.sels ≤ bkFrag f := by rw [bkFrag_eq, bkSels_eq]; simp only [bkSl]; omega
  simp only [List.flatMap_cons, List.length_append, sumL]; omega
theorem bkDoc_frags (d : GDoc) : sumL bkFrag d.frags + 1 ≤ bkDoc d := by rw [bkDoc_eq]; simp only [bkSl]; omega
theorem bkFrag_pos (f : GFrag) : 1 ≤ bkFrag f := by rw [bkFrag_eq]; omega
theorem gFrag_ok (d : GDoc) (n : Str) (hl : Sm d.frags) : graph_Frag d n = some (gFrag d n) := graph_Frag_ok d n hl
theorem gPoss_eq (s : GSchema) (n : Str) : possD s n = gPoss s n := rfl
theorem gApplies_ok (s : GSchema) (typ on0 : Str) (h : SOk s) : collect_Applies s typ on0 = some (gApplies s typ on0) := by
 apply collect_Applies_run
 unfold collect_Applies_B gApplies
 cases h1 : on0 == ([] : Str)
 ·cases h2 : on0 == typ
  ·have hl := possD_len s on0 h
   rw [gPoss_eq] at hl
   simp only [cnd, defs_Possible_ok s on0 h, gPoss_eq, bnd, slices_Contains_string_ok (gPoss s on0) typ (show (gPoss s on0).length < _ by omega), Bool.false_or]
  ·rfl
 ·rfl
theorem gGet_ok (n : Str) (l : List GMember) (hl : Sm l) : ∃ b, value_Get n l = some (gGet n l, b) := by
 have key := loop_find (b := value_Get_l1T n l) l (fun m => if m.name == n then some (Sum.inr (m.v.kind, m.v.n, m.v.s, m.v.l, m.v.m)) else none) (.inl ()) hl
  (by simp [value_Get_l1T])
  (by
   intro k x hm e1 e2 e3
   simp only [value_Get_l1T, e1, cnd_t, e2, bnd_s, e3]
   cases x.name == n <;> rfl)
 have hf := find_some l (fun m => m.name == n) (fun m => (Sum.inr (m.v.kind, m.v.n, m.v.s, m.v.l, m.v.m) : Unit ⊕ (Int × Int × Str × (List GValue) × (List GMember))))
 rw [hf] at key
 unfold gGet
 cases hh : l.find? (fun m => m.name == n) with
 | none =>
  rw [hh] at key
  exact ⟨false, value_Get_run (by simp only [value_Get_B, key, bnd_s]; rfl)⟩
 | some m =>
  rw [hh] at key
  refine ⟨true, value_Get_run (by simp only [value_Get_B, key, bnd_s]; rw [show m.v = ⟨m.v.kind, m.v.n, m.v.s, m.v.l, m.v.m⟩ by cases m.v; rfl]; rfl)⟩
theorem gYes_ok (env : List GMember) (d : GDir) (he : Sm env) (hd : Sm d.args) : collect_yes env d = some (gYes env d) := by
 apply collect_yes_run
 obtain ⟨b1, h1⟩ := gGet_ok [105, 102] d.args hd
 unfold collect_yes_B gYes
 simp only [h1, bnd_s]
 cases h8 : (gGet [105, 102] d.args).kind == 8
 ·simp only [cnd_f, cond_false]
  cases (gGet [105, 102] d.args).kind == 1 <;> rfl
 ·obtain ⟨b2, h2⟩ := gGet_ok (gGet [105, 102] d.args).s env he
  simp only [cnd_t, cond_true, h2, bnd_s]
  cases (gGet (gGet [105, 102] d.args).s env).kind == 1 <;> rfl
theorem IndexDir_ok (l : List GDir) (name : Str) (hl : Sm l) :
  ∃ i, slices_IndexFunc_Dir l name = some i ∧ (match l.find? (fun f => f.name == name) with | some f => decide (i ≥ 0) = true ∧ nthI l i = some f | none => decide (i ≥ 0) = false) := by
 have hc : ∀ f, collect_first_1 f name = some (f.name == name) := fun f => collect_first_1_run rfl
 have key := loop_list (b := slices_IndexFunc_Dir_l1T l name) l (fun k (_ : Nat) => (k : Int)) (fun r k => match r.findIdx? (fun f => f.name == name) with | some j => Sum.inr ((k + j : Nat) : Int) | none => Sum.inl ()) (fun k a => a = k) hl
  (by intro a _; simp [slices_IndexFunc_Dir_l1T])
  (by
   intro k x r a' hm hk hd h1 h2 h3 hI
   subst hI
   simp only [slices_IndexFunc_Dir_l1T, h1, cnd_t, h2, bnd_s, h3, hc, List.findIdx?_cons]
   cases hv : x.name == name
   ·refine .inr ⟨a' + 1, rfl, rfl, ?_⟩
    simp only [Bool.false_eq_true, if_false]
    cases r.findIdx? (fun f => f.name == name) with
    | none => rfl
    | some j => simp only [Option.map_some]; congr 2; omega
   ·left; simp) (s := 0) (a := 0) rfl rfl
 have hrun : ∀ i, slices_IndexFunc_Dir_B l name = some i → slices_IndexFunc_Dir l name = some i := fun i h => slices_IndexFunc_Dir_run h
 unfold slices_IndexFunc_Dir_B at hrun
 rw [key] at hrun
 simp only [bnd_s, Nat.zero_add] at hrun
 cases hf : l.findIdx? (fun f => f.name == name) with
 | none =>
  rw [hf] at hrun
  refine ⟨-1, hrun _ rfl, ?_⟩
  rw [List.findIdx?_eq_none_iff] at hf
  have : l.find? (fun f => f.name == name) = none := List.find?_eq_none.2 fun x hx => by simp [hf x hx]
  rw [this]; rfl
 | some j =>
  rw [hf] at hrun
  refine ⟨(j : Int), hrun _ rfl, ?_⟩
  obtain ⟨hj, hp, hq⟩ := List.findIdx?_eq_some_iff_getElem.1 hf
  have : l.find? (fun f => f.name == name) = some l[j] := by
   rw [List.find?_eq_some_iff_getElem]
   exact ⟨hp, j, hj, rfl, fun k hk => by simpa using hq k hk⟩
  rw [this]
  exact ⟨by simp, by rw [nthI_nat, List.getElem?_eq_getElem hj]⟩
theorem gFirst_ok (env : List GMember) (n : Str) (l : List GDir) (he : Sm env) (hl : Sm l) (hd : ∀ d ∈ l, Sm d.args) : collect_first env n l = some (gFirst env n l) := by
 apply collect_first_run
 obtain ⟨i, h1, h2⟩ := IndexDir_ok l n hl
 unfold collect_first_B gFirst
 simp only [h1, bnd_s]
 cases hf : l.find? (fun f => f.name == n) with
 | none => rw [hf] at h2; simp only at h2; rw [h2]; rfl
 | some d =>
  rw [hf] at h2
  obtain ⟨h3, h4⟩ := h2
  rw [h3, h4]
  simp only [cnd_t, bnd_s, gYes_ok env d he (hd d (List.mem_of_find?_eq_some hf))]
theorem gHolds_ok (env : List GMember) (l : List GDir) (he : Sm env) (hl : Sm l) (hd : ∀ d ∈ l, Sm d.args) : collect_Holds env l = some (gHolds env l) := by
 apply collect_Holds_run
 unfold collect_Holds_B gHolds
 simp only [gFirst_ok env _ l he hl hd, bnd_s]
 cases (gFirst env [115, 107, 105, 112] l).2 <;> cases (gFirst env [105, 110, 99, 108, 117, 100, 101] l).1 <;> rfl
theorem holds_nil_ok : collect_Holds_i1 = some true := by
 apply collect_Holds_i1_run
 unfold collect_Holds_i1_B
 simp only [gFirst_ok [] _ [] (by show 0 < _; omega) (by show 0 < _; omega) (by simp), bnd_s]
 rfl
theorem step_mono {e : GEnv} {r r' : List GSel → GSt → Option GSt} (h : ∀ l st s, r l st = some s → r' l st = some s) {x : GSel} {st s : GSt} (hs : stepG e r x st = some s) : stepG e r' x st = some s := by
 unfold stepG at hs ⊢
 cases h1 : gHolds e.env x.dirs <;> rw [h1] at hs
 ·exact hs
 cases h2 : x.kind == 0 <;> rw [h2] at hs
 ·cases h3 : x.kind == 1 <;> rw [h3] at hs
  ·cases h4 : x.kind == 2 <;> rw [h4] at hs
   ·exact hs
   ·cases h5 : gApplies e.s e.typ x.on_ <;> rw [h5] at hs
    ·exact hs
    ·exact h _ _ _ hs
  ·cases h4 : st.2.contains x.name <;> rw [h4] at hs
   ·cases h5 : (gFrag e.d x.name).2 && gApplies e.s e.typ (gFrag e.d x.name).1.on_ <;> rw [h5] at hs
    ·exact hs
    ·exact h _ _ _ hs
   ·exact hs
 ·exact hs
theorem thr_succ (e : GEnv) : ∀ (n : Nat) (l : List GSel) (st s : GSt), thr e n l st = some s → thr e (n + 1) l st = some s
 | 0, l, st, s, h => by simp [thr] at h
 | n + 1, [], st, s, h => by simpa [thr] using h
 | n + 1, x :: l, st, s, h => by
  simp only [thr] at h
  obtain ⟨s1, h1, h2⟩ := Ev.bnd_some h
  have e1 := step_mono (thr_succ e n) h1
  show bnd (stepG e (thr e (n + 1)) x st) (fun st => thr e (n + 1) l st) = some s
  rw [e1]
  exact thr_succ e n l s1 s h2
theorem thr_le (e : GEnv) {n m : Nat} (h : n ≤ m) {l : List GSel} {st s : GSt} (ht : thr e n l st = some s) : thr e m l st = some s := by
 induction h with
 | refl => exact ht
 | step _ ih => exact thr_succ e _ _ _ _ ih
theorem thr_det (e : GEnv) {n m : Nat} {l : List GSel} {st s s' : GSt} (h : thr e n l st = some s) (h' : thr e m l st = some s') : s = s' := by
 have h1 := thr_le e (Nat.le_max_left n m) h
 have h2 := thr_le e (Nat.le_max_right n m) h'
 rw [h1] at h2
 exact Option.some.inj h2
theorem thr_rel {e : GEnv} (R : GSt → GSt → Prop) (hr : ∀ s, R s s) (ht : ∀ a b c, R a b → R b c → R a c) (hput : ∀ (x : GSel) (st : GSt), gHolds e.env x.dirs = true → x.kind = 0 → R st (putG st.1 (gKey x) x, st.2)) (hmet : ∀ (n : Str) (st : GSt), R st (st.1, st.2 ++ [n])) :
  ∀ (n : Nat) (l : List GSel) (st s : GSt), thr e n l st = some s → R st s
 | 0, l, st, s, h => by simp [thr] at h
 | n + 1, [], st, s, h => by simp only [thr, Option.some.injEq] at h; subst h; exact hr _
 | n + 1, x :: l, st, s, h => by
  simp only [thr] at h
  obtain ⟨s1, h1, h2⟩ := Ev.bnd_some h
  refine ht _ s1 _ ?_ (thr_rel R hr ht hput hmet n l s1 s h2)
  have ih := thr_rel R hr ht hput hmet n
  unfold stepG at h1
  cases hh : gHolds e.env x.dirs <;> rw [hh] at h1
  ·cases h1; exact hr _
  simp only [cond_true] at h1
  cases h0 : x.kind == 0 <;> rw [h0] at h1
  ·simp only [cond_false] at h1
   cases h11 : x.kind == 1 <;> rw [h11] at h1
   ·simp only [cond_false] at h1
    cases h12 : x.kind == 2 <;> rw [h12] at h1
    ·cases h1; exact hr _
    ·simp only [cond_true] at h1
     cases h13 : gApplies e.s e.typ x.on_ <;> rw [h13] at h1
     ·cases h1; exact hr _
     ·exact ih _ _ _ h1
   ·simp only [cond_true] at h1
    cases h12 : st.2.contains x.name <;> rw [h12] at h1
    ·simp only [cond_false] at h1
     cases h13 : (gFrag e.d x.name).2 && gApplies e.s e.typ (gFrag e.d x.name).1.on_ <;> rw [h13] at h1
     ·cases h1; exact hmet _ _
     ·exact ht _ _ _ (hmet _ _) (ih _ _ _ h1)
    ·cases h1; exact hr _
  ·cases h1; exact hput x st hh (by simpa using h0)
structure KeysOk (e : GEnv) (l : List GGroup) : Prop where
 ne : ∀ g ∈ l, g.sels ≠ []
 own : ∀ g ∈ l, ∀ x ∈ g.sels, x.kind = 0 ∧ gKey x = g.key ∧ gHolds e.env x.dirs = true
 once : (l.map (·.key)).Nodup
theorem put_keys (k : Str) (x : GSel) : ∀ l : List GGroup, (putG l k x).map (·.key) = bif (l.map (·.key)).contains k then l.map (·.key) else l.map (·.key) ++ [k]
 | [] => rfl
 | g :: l => by
  simp only [putG]
  by_cases h : g.key = k
  ·rw [if_pos h]; simp [h]
  ·rw [if_neg h]
   have hb : (k == g.key) = false := by simpa using fun e => h e.symm
   simp only [List.map_cons, put_keys k x l, List.contains_cons, hb, Bool.false_or]
   cases (List.map (fun x => x.key) l).contains k <;> rfl
theorem put_mem (k : Str) (x : GSel) : ∀ (l : List GGroup) (g : GGroup), g ∈ putG l k x → g ∈ l ∨ (g.key = k ∧ ∃ s, g.sels = s ++ [x] ∧ (s = [] ∨ ∃ g' ∈ l, g'.key = k ∧ g'.sels = s))
 | [], g, h => by
  simp only [putG, List.mem_singleton] at h
  subst h
  exact .inr ⟨rfl, [], rfl, .inl rfl⟩
 | a :: l, g, h => by
  simp only [putG] at h
  by_cases e : a.key = k
  ·rw [if_pos e] at h
   rcases List.mem_cons.1 h with rfl | h
   ·exact .inr ⟨e, a.sels, rfl, .inr ⟨a, by simp, e, rfl⟩⟩
   ·exact .inl (by simp [h])
  ·rw [if_neg e] at h
   rcases List.mem_cons.1 h with rfl | h
   ·exact .inl (by simp)
   ·rcases put_mem k x l g h with h | ⟨h1, s, h2, h3⟩
    ·exact .inl (by simp [h])
    ·refine .inr ⟨h1, s, h2, ?_⟩
     rcases h3 with h3 | ⟨g', h4, h5⟩
     ·exact .inl h3
     ·exact .inr ⟨g', by simp [h4], h5⟩
theorem keys_put {e : GEnv} {x : GSel} {l : List GGroup} (h : KeysOk e l) (hh : gHolds e.env x.dirs = true) (hk : x.kind = 0) : KeysOk e (putG l (gKey x) x) := by
 refine ⟨fun g hg => ?_, fun g hg y hy => ?_, ?_⟩
 ·rcases put_mem _ _ _ _ hg with h1 | ⟨_, s, h2, _⟩
  ·exact h.ne g h1
  ·rw [h2]; simp
 ·rcases put_mem _ _ _ _ hg with h1 | ⟨h1, s, h2, h3⟩
  ·exact h.own g h1 y hy
  ·rw [h2, List.mem_append, List.mem_singleton] at hy
   rcases hy with hy | rfl
   ·rcases h3 with rfl | ⟨g', h4, h5, rfl⟩
    ·simp at hy
    ·have := h.own g' h4 y hy
     rw [h1, ← h5]; exact this
   ·exact ⟨hk, h1.symm, hh⟩
 ·rw [put_keys]
  cases hc : (l.map (·.key)).contains (gKey x)
  ·rw [cond_false, List.nodup_append]
   refine ⟨h.once, by simp, ?_⟩
   intro a ha b hb
   simp only [List.mem_singleton] at hb
   subst hb
   rintro rfl
   rw [Bool.eq_false_iff] at hc
   exact hc (List.contains_iff_mem.2 ha)
  ·exact h.once
theorem thr_keys {e : GEnv} {n : Nat} {l : List GSel} {met : List Str} {s : GSt} (h : thr e n l ([], met) = some s) : KeysOk e s.1 :=
 thr_rel (fun a b => KeysOk e a.1 → KeysOk e b.1) (fun _ h => h) (fun _ _ _ h k x => k (h x)) (fun x st hh hk h => keys_put h hh hk) (fun _ _ h => h) n l _ _ h ⟨by simp, by simp, by simp⟩
def FrontOf (a b : List GGroup) : Prop := ∀ (i : Nat) (g : GGroup), a[i]? = some g → ∃ g', b[i]? = some g' ∧ g'.key = g.key ∧ ∃ t, g'.sels = g.sels ++ t
theorem FrontOf.refl (a : List GGroup) : FrontOf a a := fun i g h => ⟨g, h, rfl, [], by simp⟩
theorem FrontOf.trans {a b c : List GGroup} (h : FrontOf a b) (k : FrontOf b c) : FrontOf a c := by
 intro i g hg
 obtain ⟨g1, h1, h2, t, h3⟩ := h i g hg
 obtain ⟨g2, k1, k2, u, k3⟩ := k i g1 h1
 exact ⟨g2, k1, k2.trans h2, t ++ u, by rw [k3, h3, List.append_assoc]⟩
theorem FrontOf.len {a b : List GGroup} (h : FrontOf a b) : a.length ≤ b.length := by
 rcases Nat.eq_zero_or_pos a.length with h0 | h0
 ·omega
 ·obtain ⟨g', h1, _⟩ := h (a.length - 1) a[a.length - 1] (List.getElem?_eq_getElem (by omega))
  have := (List.getElem?_eq_some_iff.1 h1).1
  omega
end Go.Proofs.Ytfbaogfcpldlnaa

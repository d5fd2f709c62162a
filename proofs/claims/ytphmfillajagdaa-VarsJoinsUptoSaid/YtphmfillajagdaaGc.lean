import Derived.Test.YtphmfillajagdaaGa
import Derived.LoopTactic
import Derived.Test.YtphmfillajagdaaEd
import Derived.WalkKit
import Derived.KernelRfl
import Derived.Test.YtphmfillajagdaaGb
set_option linter.unusedVariables false
set_option linter.unusedSimpArgs false
/- Printed by symgen.py: typed functions of this seat, and why they tell what the program does. -/
set_option linter.unusedVariables false
set_option linter.unusedSimpArgs false
open Go Go.Ev Go.Ev.PV
namespace Go.Proofs.Ytphmfillajagdaa
def value_vars_l1 (O : Orc) (LP : LBody → LBody) : LBody := fun s5 s5u => cnd (chkL [(.sl true), (.sl false), (.int .i64), (.int .i64), (.int .i64), (.int .i64), .str, (.sl false), (.sl false)] s5) (cnd (chkU [] s5u)
  (cnd (decide ((intV (gt s5 3)) < (intV (gt s5 2))))
   (bnd (ix 5 (.slice (esV (gt s5 1)) [] false) (.int .i64 (intV (gt s5 3)))) fun x12 => cnd (chk (.ref shValue) x12)
   (callp O 54 [(.slice (esV (gt s5 0)) [] true), (.agg [(.int .i64 (intV (gt (aggV (refV x12)) 0))), (.int .i64 (intV (gt (aggV (refV x12)) 1))), (.str (strV (gt (aggV (refV x12)) 2))), (.slice (esV (gt (aggV (refV x12)) 3)) [] false), (.slice (esV (gt (aggV (refV x12)) 4)) [] false)])] fun x14 => cnd (chk (.sl true) x14)
   (some (.nrm, [(.slice (esV x14) [] true), (.slice (esV (gt s5 1)) [] false), (.int .i64 (intV (gt s5 2))), (.int .i64 (IntKind.wrap .i64 ((intV (gt s5 3)) + 1))), (.int .i64 (intV (gt s5 4))), (.int .i64 (intV (gt s5 5))), (.str (strV (gt s5 6))), (.slice (esV (gt s5 7)) [] false), (.slice (esV (gt s5 8)) [] false)], [])) none) none)
   (some (.brk 1, [(.slice (esV (gt s5 0)) [] true), (.slice (esV (gt s5 1)) [] false), (.int .i64 (intV (gt s5 2))), (.int .i64 (intV (gt s5 3))), (.int .i64 (intV (gt s5 4))), (.int .i64 (intV (gt s5 5))), (.str (strV (gt s5 6))), (.slice (esV (gt s5 7)) [] false), (.slice (esV (gt s5 8)) [] false)], []))) none) none
def value_vars_l2 (O : Orc) (LP : LBody → LBody) : LBody := fun s19 s19u => cnd (chkL [(.sl true), (.sl false), (.int .i64), (.int .i64), (.int .i64), (.int .i64), .str, (.sl false), (.sl false)] s19) (cnd (chkU [] s19u)
  (cnd (decide ((intV (gt s19 3)) < (intV (gt s19 2))))
   (bnd (ix 6 (.slice (esV (gt s19 1)) [] false) (.int .i64 (intV (gt s19 3)))) fun x26 => cnd (chk (.ref shMember) x26)
   (callp O 54 [(.slice (esV (gt s19 0)) [] true), (.agg [(.int .i64 (intV (gt (aggV (refV x26)) 1))), (.int .i64 (intV (gt (aggV (refV x26)) 2))), (.str (strV (gt (aggV (refV x26)) 3))), (.slice (esV (gt (aggV (refV x26)) 4)) [] false), (.slice (esV (gt (aggV (refV x26)) 5)) [] false)])] fun x28 => cnd (chk (.sl true) x28)
   (some (.nrm, [(.slice (esV x28) [] true), (.slice (esV (gt s19 1)) [] false), (.int .i64 (intV (gt s19 2))), (.int .i64 (IntKind.wrap .i64 ((intV (gt s19 3)) + 1))), (.int .i64 (intV (gt s19 4))), (.int .i64 (intV (gt s19 5))), (.str (strV (gt s19 6))), (.slice (esV (gt s19 7)) [] false), (.slice (esV (gt s19 8)) [] false)], [])) none) none)
   (some (.brk 3, [(.slice (esV (gt s19 0)) [] true), (.slice (esV (gt s19 1)) [] false), (.int .i64 (intV (gt s19 2))), (.int .i64 (intV (gt s19 3))), (.int .i64 (intV (gt s19 4))), (.int .i64 (intV (gt s19 5))), (.str (strV (gt s19 6))), (.slice (esV (gt s19 7)) [] false), (.slice (esV (gt s19 8)) [] false)], []))) none) none
def value_vars_T1 (O : Orc) (LP : LBody → LBody) (l0 : List Str) (v0 : GValue) : Option (PV × UP) :=
  cnd (v0.kind == 8)
   (callp O 29 [(.slice (List.map PV.str l0) [] false), (.str v0.s)] fun x1 => cnd (chk .bool x1)
   (cnd (!(boolV x1))
    (bnd (apd 1 (.slice (List.map PV.str l0) [] true) (.slice [(.str v0.s)] [] true)) fun x3 => cnd (chk (.sl true) x3)
    (some ((.slice (esV x3) [] true), [])) none)
    (some ((.slice (List.map PV.str l0) [] true), []))) none)
   (cnd (v0.kind == 6)
    (bnd (LP (value_vars_l1 O LP) [(.slice (List.map PV.str l0) [] true), (.slice (List.map encValue v0.l) [] false), (.int .i64 (List.length (List.map encValue v0.l) : Int)), (.int .i64 0), (.int .i64 v0.kind), (.int .i64 v0.n), (.str v0.s), (.slice (List.map encValue v0.l) [] false), (.slice (List.map encMember v0.m) [] false)] []) fun y18 =>
    exIs y18.1 (some 1) (cnd (chkL [(.sl true), (.sl false), (.int .i64), (.int .i64), (.int .i64), (.int .i64), .str, (.sl false), (.sl false)] y18.2.1) (cnd (chkU [] y18.2.2)
     (some ((.slice (esV (gt y18.2.1 0)) [] true), [])) none) none)
    (none))
    (cnd (v0.kind == 7)
     (bnd (LP (value_vars_l2 O LP) [(.slice (List.map PV.str l0) [] true), (.slice (List.map encMember v0.m) [] false), (.int .i64 (List.length (List.map encMember v0.m) : Int)), (.int .i64 0), (.int .i64 v0.kind), (.int .i64 v0.n), (.str v0.s), (.slice (List.map encValue v0.l) [] false), (.slice (List.map encMember v0.m) [] false)] []) fun y32 =>
     exIs y32.1 (some 3) (cnd (chkL [(.sl true), (.sl false), (.int .i64), (.int .i64), (.int .i64), (.int .i64), .str, (.sl false), (.sl false)] y32.2.1) (cnd (chkU [] y32.2.2)
      (some ((.slice (esV (gt y32.2.1 0)) [] true), [])) none) none)
     (none))
     (some ((.slice (List.map PV.str l0) [] true), []))))
noncomputable def value_vars_l1T (v0 : GValue) : ((List Str) × Int) → Option (((List Str) × Int) ⊕ ((List Str)))
  | (l_10, t_11) =>
  cnd (decide (t_11 < (List.length v0.l : Int)))
   (bnd (nthI v0.l t_11) fun y13 =>
   bnd (value_vars l_10 y13) fun y15 =>
   some (.inl (y15, (IntKind.wrap .i64 (t_11 + 1)))))
   (some (.inr l_10))
abbrev value_vars_l1R (v0 : GValue) (st : (List Str) × Int) (l : List PV) (u : UP) : Prop := l = [(.slice (List.map PV.str st.1) [] true), (.slice (List.map encValue v0.l) [] false), (.int .i64 (List.length v0.l : Int)), (.int .i64 st.2), (.int .i64 v0.kind), (.int .i64 v0.n), (.str v0.s), (.slice (List.map encValue v0.l) [] false), (.slice (List.map encMember v0.m) [] false)] ∧ u = []
abbrev value_vars_l1X (v0 : GValue) (p : (List Str)) (r : Ex × List PV × UP) : Prop := (fun (p : (List Str)) => ∃ (t_17 : Int), r = (Ex.brk 1, [(.slice (List.map PV.str p) [] true), (.slice (List.map encValue v0.l) [] false), (.int .i64 (List.length v0.l : Int)), (.int .i64 t_17), (.int .i64 v0.kind), (.int .i64 v0.n), (.str v0.s), (.slice (List.map encValue v0.l) [] false), (.slice (List.map encMember v0.m) [] false)], [])) p
noncomputable def value_vars_l2T (v0 : GValue) : ((List Str) × Int) → Option (((List Str) × Int) ⊕ ((List Str)))
  | (l_24, t_25) =>
  cnd (decide (t_25 < (List.length v0.m : Int)))
   (bnd (nthI v0.m t_25) fun y27 =>
   bnd (value_vars l_24 y27.v) fun y29 =>
   some (.inl (y29, (IntKind.wrap .i64 (t_25 + 1)))))
   (some (.inr l_24))
abbrev value_vars_l2R (v0 : GValue) (st : (List Str) × Int) (l : List PV) (u : UP) : Prop := l = [(.slice (List.map PV.str st.1) [] true), (.slice (List.map encMember v0.m) [] false), (.int .i64 (List.length v0.m : Int)), (.int .i64 st.2), (.int .i64 v0.kind), (.int .i64 v0.n), (.str v0.s), (.slice (List.map encValue v0.l) [] false), (.slice (List.map encMember v0.m) [] false)] ∧ u = []
abbrev value_vars_l2X (v0 : GValue) (p : (List Str)) (r : Ex × List PV × UP) : Prop := (fun (p : (List Str)) => ∃ (t_31 : Int), r = (Ex.brk 3, [(.slice (List.map PV.str p) [] true), (.slice (List.map encMember v0.m) [] false), (.int .i64 (List.length v0.m : Int)), (.int .i64 t_31), (.int .i64 v0.kind), (.int .i64 v0.n), (.str v0.s), (.slice (List.map encValue v0.l) [] false), (.slice (List.map encMember v0.m) [] false)], [])) p
noncomputable def value_vars_B (l0 : List Str) (v0 : GValue) : Option (List Str) :=
  cnd (v0.kind == 8)
   (bnd (slices_Contains_string_string l0 v0.s) fun y2 =>
   cnd (!y2)
    (bnd (tapp l0 [v0.s]) fun y4 =>
    some y4)
    (some l0))
   (cnd (v0.kind == 6)
    (bnd (tloop (value_vars_l1T v0) (l0, 0)) fun l_16 =>
    some l_16)
    (cnd (v0.kind == 7)
     (bnd (tloop (value_vars_l2T v0) (l0, 0)) fun l_30 =>
     some l_30)
     (some l0)))
def value_vars_ds : Decs := { decs := [(16, .bool), (22, (.sl true)), (30, (.ref shValue)), (34, (.sl true)), (43, (.ref shMember)), (48, (.sl true))], ups := [], loops := [(7, [(3, 5)], ⟨[(.sl true), (.sl false), (.int .i64), (.int .i64), (.int .i64), (.int .i64), .str, (.sl false), (.sl false)], [], [(some 1, [(.sl true), (.sl false), (.int .i64), (.int .i64), (.int .i64), (.int .i64), .str, (.sl false), (.sl false)], [])]⟩), (13, [(3, 5)], ⟨[(.sl true), (.sl false), (.int .i64), (.int .i64), (.int .i64), (.int .i64), .str, (.sl false), (.sl false)], [], [(some 3, [(.sl true), (.sl false), (.int .i64), (.int .i64), (.int .i64), (.int .i64), .str, (.sl false), (.sl false)], [])]⟩)] }
set_option maxRecDepth 100000 in
theorem value_vars_t1 (O : Orc) (LP : LBody → LBody) (l0 : List Str) (v0 : GValue) : evalBodyD Try.prog (MT 54) value_vars_ds Try.f54.ntmps O LP Try.f54 [(.slice (List.map PV.str l0) [] true), (.agg [(.int .i64 v0.kind), (.int .i64 v0.n), (.str v0.s), (.slice (List.map encValue v0.l) [] false), (.slice (List.map encMember v0.m) [] false)])] [] = value_vars_T1 O LP l0 v0 := by kernel_rfl
theorem value_vars_l1_ok (v0 : GValue) : ∀ st l u, value_vars_l1R v0 st l u → Imp (value_vars_l1T v0 st) (value_vars_l1 O loopLim l u) (StepR (value_vars_l1R v0) (value_vars_l1X v0)) := by
  rintro ⟨l_10, t_11⟩ l u ⟨rfl, rfl⟩
  simp only [value_vars_l1T, value_vars_l1]
  refine Imp.chk rfl (Imp.chk rfl ?_)
  try simp only [evs, tys]
  refine Imp.cnd ?_ ?_
  · refine Imp.op (f := fun a => .ref (encValue a)) (fun a h => op_ix (enc := encValue) (by first | rfl | simp only [evs, tys, evl]) ⟨by first | rfl | simp only [evs, tys, evc], by decide⟩ h) (fun a => chk_GValue a) fun y13 hy13 => ?_
    try simp only [evs, tys]
    refine Imp.call (f := value_varsE) rfl (fun a h => by first | exact value_vars_spec h | simpa only [evs, tys, evl] using value_vars_spec h) (fun a => by first | rfl | simp only [value_varsE, evk, chks]) fun y15 hy15 => ?_
    try simp only [value_varsE, evs, tys]
    exact Imp.some (StepR.next ⟨by first | rfl | simp only [evs, tys, evl], rfl⟩)
  · exact Imp.some (StepR.brk ⟨t_11, by first | rfl | simp only [evs, tys, evl, elim_inl, elim_inr]⟩)
theorem value_vars_l2_ok (v0 : GValue) : ∀ st l u, value_vars_l2R v0 st l u → Imp (value_vars_l2T v0 st) (value_vars_l2 O loopLim l u) (StepR (value_vars_l2R v0) (value_vars_l2X v0)) := by
  rintro ⟨l_24, t_25⟩ l u ⟨rfl, rfl⟩
  simp only [value_vars_l2T, value_vars_l2]
  refine Imp.chk rfl (Imp.chk rfl ?_)
  try simp only [evs, tys]
  refine Imp.cnd ?_ ?_
  · refine Imp.op (f := fun a => .ref (encMember a)) (fun a h => op_ix (enc := encMember) (by first | rfl | simp only [evs, tys, evl]) ⟨by first | rfl | simp only [evs, tys, evc], by decide⟩ h) (fun a => chk_GMember a) fun y27 hy27 => ?_
    try simp only [evs, tys]
    refine Imp.call (f := value_varsE) rfl (fun a h => by first | exact value_vars_spec h | simpa only [evs, tys, evl] using value_vars_spec h) (fun a => by first | rfl | simp only [value_varsE, evk, chks]) fun y29 hy29 => ?_
    try simp only [value_varsE, evs, tys]
    exact Imp.some (StepR.next ⟨by first | rfl | simp only [evs, tys, evl], rfl⟩)
  · exact Imp.some (StepR.brk ⟨t_25, by first | rfl | simp only [evs, tys, evl, elim_inl, elim_inr]⟩)
theorem value_vars_imp (l0 : List Str) (v0 : GValue) : Imp (value_vars_B l0 v0) (value_vars_T1 O loopLim l0 v0) (fun r v => v = (value_varsE r, [])) := by
  simp only [value_vars_B, value_vars_T1]
  try simp only [evs, tys]
  refine Imp.cnd ?_ ?_
  · refine Imp.call (f := slices_Contains_string_stringE) rfl (fun a h => by first | exact slices_Contains_string_string_spec h | simpa only [evs, tys, evl] using slices_Contains_string_string_spec h) (fun a => by first | rfl | simp only [slices_Contains_string_stringE, evk, chks]) fun y2 hy2 => ?_
    try simp only [slices_Contains_string_stringE, evs, tys]
    refine Imp.cnd ?_ ?_
    · refine Imp.op (f := fun a => .slice (List.map PV.str a) [] true) (fun a h => op_apd (enc := PV.str) (by first | rfl | simp only [evs, tys, evl]) (by first | rfl | simp only [evs, tys, evl]) (fun a => by first | rfl | simp only [evs, tys, evc]) h) (fun a => rfl) fun y4 hy4 => ?_
      try simp only [evs, tys]
      exact Imp.some (by first | rfl | simp only [value_varsE, evs, tys, evl])
    · exact Imp.some (by first | rfl | simp only [value_varsE, evs, tys, evl])
  · refine Imp.cnd ?_ ?_
    · refine Imp.bnd (Imp.loop (value_vars_l1_ok v0) ⟨by first | rfl | simp only [evs, tys, evl], rfl⟩) ?_
      rintro l_16 vy18 hy18
      obtain ⟨t_17, rfl⟩ := hy18
      refine Imp.exHit rfl (Imp.chk rfl (Imp.chk rfl ?_))
      try simp only [evs, tys]
      exact Imp.some (by first | rfl | simp only [value_varsE, evs, tys, evl])
    · refine Imp.cnd ?_ ?_
      · refine Imp.bnd (Imp.loop (value_vars_l2_ok v0) ⟨by first | rfl | simp only [evs, tys, evl], rfl⟩) ?_
        rintro l_30 vy32 hy32
        obtain ⟨t_31, rfl⟩ := hy32
        refine Imp.exHit rfl (Imp.chk rfl (Imp.chk rfl ?_))
        try simp only [evs, tys]
        exact Imp.some (by first | rfl | simp only [value_varsE, evs, tys, evl])
      · exact Imp.some (by first | rfl | simp only [value_varsE, evs, tys, evl])
theorem value_vars_run {l0 : List Str} {v0 : GValue} {r : List Str} (h : value_vars_B l0 v0 = some r) : value_vars l0 v0 = some r := by
  obtain ⟨v, hv, rfl⟩ := value_vars_imp l0 v0 r h
  exact tO_of (pair_inj value_varsEj) (OL_runD value_vars_ds rfl rfl Try.func54 ((value_vars_t1 _ _ l0 v0).trans hv))

def graph_spreads_l1 (O : Orc) (LP : LBody → LBody) : LBody := fun s1 s1u => cnd (chkL [(.sl true), (.sl false), (.int .i64), (.int .i64)] s1) (cnd (chkU [] s1u)
  (cnd (decide ((intV (gt s1 3)) < (intV (gt s1 2))))
   (bnd (ix 7 (.slice (esV (gt s1 1)) [] false) (.int .i64 (intV (gt s1 3)))) fun x16 => cnd (chk (.ref shSel) x16)
   (cnd ((intV (gt (aggV (refV x16)) 0)) == 1)
    (callp O 29 [(.slice (esV (gt s1 0)) [] false), (.str (strV (gt (aggV (refV x16)) 2)))] fun x18 => cnd (chk .bool x18)
    (cnd (!(boolV x18))
     (bnd (apd 1 (.slice (esV (gt s1 0)) [] true) (.slice [(.str (strV (gt (aggV (refV x16)) 2)))] [] true)) fun x20 => cnd (chk (.sl true) x20)
     (callp O 46 [(.slice (esV x20) [] true), (.slice (esV (gt (aggV (refV x16)) 6)) [] false)] fun x22 => cnd (chk (.sl true) x22)
     (some (.nrm, [(.slice (esV x22) [] true), (.slice (esV (gt s1 1)) [] false), (.int .i64 (intV (gt s1 2))), (.int .i64 (IntKind.wrap .i64 ((intV (gt s1 3)) + 1)))], [])) none) none)
     (callp O 46 [(.slice (esV (gt s1 0)) [] true), (.slice (esV (gt (aggV (refV x16)) 6)) [] false)] fun x24 => cnd (chk (.sl true) x24)
     (some (.nrm, [(.slice (esV x24) [] true), (.slice (esV (gt s1 1)) [] false), (.int .i64 (intV (gt s1 2))), (.int .i64 (IntKind.wrap .i64 ((intV (gt s1 3)) + 1)))], [])) none)) none)
    (callp O 46 [(.slice (esV (gt s1 0)) [] true), (.slice (esV (gt (aggV (refV x16)) 6)) [] false)] fun x26 => cnd (chk (.sl true) x26)
    (some (.nrm, [(.slice (esV x26) [] true), (.slice (esV (gt s1 1)) [] false), (.int .i64 (intV (gt s1 2))), (.int .i64 (IntKind.wrap .i64 ((intV (gt s1 3)) + 1)))], [])) none)) none)
   (some (.brk 0, [(.slice (esV (gt s1 0)) [] true), (.slice (esV (gt s1 1)) [] false), (.int .i64 (intV (gt s1 2))), (.int .i64 (intV (gt s1 3)))], []))) none) none
def graph_spreads_T1 (O : Orc) (LP : LBody → LBody) (l0 : List Str) (sels : List GSel) : Option (PV × UP) :=
  bnd (LP (graph_spreads_l1 O LP) [(.slice (List.map PV.str l0) [] true), (.slice (List.map encSel sels) [] false), (.int .i64 (List.length (List.map encSel sels) : Int)), (.int .i64 0)] []) fun y30 =>
  exIs y30.1 (some 0) (cnd (chkL [(.sl true), (.sl false), (.int .i64), (.int .i64)] y30.2.1) (cnd (chkU [] y30.2.2)
   (some ((.slice (esV (gt y30.2.1 0)) [] true), [])) none) none)
  (none)
noncomputable def graph_spreads_l1T (sels : List GSel) : ((List Str) × Int) → Option (((List Str) × Int) ⊕ ((List Str)))
  | (l_14, t_15) =>
  cnd (decide (t_15 < (List.length sels : Int)))
   (bnd (nthI sels t_15) fun y17 =>
   cnd (y17.kind == 1)
    (bnd (slices_Contains_string_string l_14 y17.name) fun y19 =>
    cnd (!y19)
     (bnd (tapp l_14 [y17.name]) fun y21 =>
     bnd (graph_spreads y21 y17.sels) fun y23 =>
     some (.inl (y23, (IntKind.wrap .i64 (t_15 + 1)))))
     (bnd (graph_spreads l_14 y17.sels) fun y25 =>
     some (.inl (y25, (IntKind.wrap .i64 (t_15 + 1))))))
    (bnd (graph_spreads l_14 y17.sels) fun y27 =>
    some (.inl (y27, (IntKind.wrap .i64 (t_15 + 1))))))
   (some (.inr l_14))
abbrev graph_spreads_l1R (sels : List GSel) (st : (List Str) × Int) (l : List PV) (u : UP) : Prop := l = [(.slice (List.map PV.str st.1) [] true), (.slice (List.map encSel sels) [] false), (.int .i64 (List.length sels : Int)), (.int .i64 st.2)] ∧ u = []
abbrev graph_spreads_l1X (sels : List GSel) (p : (List Str)) (r : Ex × List PV × UP) : Prop := (fun (p : (List Str)) => ∃ (t_29 : Int), r = (Ex.brk 0, [(.slice (List.map PV.str p) [] true), (.slice (List.map encSel sels) [] false), (.int .i64 (List.length sels : Int)), (.int .i64 t_29)], [])) p
noncomputable def graph_spreads_B (l0 : List Str) (sels : List GSel) : Option (List Str) :=
  bnd (tloop (graph_spreads_l1T sels) (l0, 0)) fun l_28 =>
  some l_28
def graph_spreads_ds : Decs := { decs := [(11, (.ref shSel)), (20, .bool), (27, (.sl true)), (31, (.sl true))], ups := [], loops := [(2, [], ⟨[(.sl true), (.sl false), (.int .i64), (.int .i64)], [], [(some 0, [(.sl true), (.sl false), (.int .i64), (.int .i64)], [])]⟩)] }
set_option maxRecDepth 100000 in
theorem graph_spreads_t1 (O : Orc) (LP : LBody → LBody) (l0 : List Str) (sels : List GSel) : evalBodyD Try.prog (MT 46) graph_spreads_ds Try.f46.ntmps O LP Try.f46 [(.slice (List.map PV.str l0) [] true), (.slice (List.map encSel sels) [] false)] [] = graph_spreads_T1 O LP l0 sels := by kernel_rfl
theorem graph_spreads_l1_ok (sels : List GSel) : ∀ st l u, graph_spreads_l1R sels st l u → Imp (graph_spreads_l1T sels st) (graph_spreads_l1 O loopLim l u) (StepR (graph_spreads_l1R sels) (graph_spreads_l1X sels)) := by
  rintro ⟨l_14, t_15⟩ l u ⟨rfl, rfl⟩
  simp only [graph_spreads_l1T, graph_spreads_l1]
  refine Imp.chk rfl (Imp.chk rfl ?_)
  try simp only [evs, tys]
  refine Imp.cnd ?_ ?_
  · refine Imp.op (f := fun a => .ref (encSel a)) (fun a h => op_ix (enc := encSel) (by first | rfl | simp only [evs, tys, evl]) ⟨by first | rfl | simp only [evs, tys, evc], by decide⟩ h) (fun a => chk_GSel a) fun y17 hy17 => ?_
    try simp only [evs, tys]
    refine Imp.cnd ?_ ?_
    · refine Imp.call (f := slices_Contains_string_stringE) rfl (fun a h => by first | exact slices_Contains_string_string_spec h | simpa only [evs, tys, evl] using slices_Contains_string_string_spec h) (fun a => by first | rfl | simp only [slices_Contains_string_stringE, evk, chks]) fun y19 hy19 => ?_
      try simp only [slices_Contains_string_stringE, evs, tys]
      refine Imp.cnd ?_ ?_
      · refine Imp.op (f := fun a => .slice (List.map PV.str a) [] true) (fun a h => op_apd (enc := PV.str) (by first | rfl | simp only [evs, tys, evl]) (by first | rfl | simp only [evs, tys, evl]) (fun a => by first | rfl | simp only [evs, tys, evc]) h) (fun a => rfl) fun y21 hy21 => ?_
        try simp only [evs, tys]
        refine Imp.call (f := graph_spreadsE) rfl (fun a h => by first | exact graph_spreads_spec h | simpa only [evs, tys, evl] using graph_spreads_spec h) (fun a => by first | rfl | simp only [graph_spreadsE, evk, chks]) fun y23 hy23 => ?_
        try simp only [graph_spreadsE, evs, tys]
        exact Imp.some (StepR.next ⟨by first | rfl | simp only [evs, tys, evl], rfl⟩)
      · refine Imp.call (f := graph_spreadsE) rfl (fun a h => by first | exact graph_spreads_spec h | simpa only [evs, tys, evl] using graph_spreads_spec h) (fun a => by first | rfl | simp only [graph_spreadsE, evk, chks]) fun y25 hy25 => ?_
        try simp only [graph_spreadsE, evs, tys]
        exact Imp.some (StepR.next ⟨by first | rfl | simp only [evs, tys, evl], rfl⟩)
    · refine Imp.call (f := graph_spreadsE) rfl (fun a h => by first | exact graph_spreads_spec h | simpa only [evs, tys, evl] using graph_spreads_spec h) (fun a => by first | rfl | simp only [graph_spreadsE, evk, chks]) fun y27 hy27 => ?_
      try simp only [graph_spreadsE, evs, tys]
      exact Imp.some (StepR.next ⟨by first | rfl | simp only [evs, tys, evl], rfl⟩)
  · exact Imp.some (StepR.brk ⟨t_15, by first | rfl | simp only [evs, tys, evl, elim_inl, elim_inr]⟩)
theorem graph_spreads_imp (l0 : List Str) (sels : List GSel) : Imp (graph_spreads_B l0 sels) (graph_spreads_T1 O loopLim l0 sels) (fun r v => v = (graph_spreadsE r, [])) := by
  simp only [graph_spreads_B, graph_spreads_T1]
  try simp only [evs, tys]
  refine Imp.bnd (Imp.loop (graph_spreads_l1_ok sels) ⟨by first | rfl | simp only [evs, tys, evl], rfl⟩) ?_
  rintro l_28 vy30 hy30
  obtain ⟨t_29, rfl⟩ := hy30
  refine Imp.exHit rfl (Imp.chk rfl (Imp.chk rfl ?_))
  try simp only [evs, tys]
  exact Imp.some (by first | rfl | simp only [graph_spreadsE, evs, tys, evl])
theorem graph_spreads_run {l0 : List Str} {sels : List GSel} {r : List Str} (h : graph_spreads_B l0 sels = some r) : graph_spreads l0 sels = some r := by
  obtain ⟨v, hv, rfl⟩ := graph_spreads_imp l0 sels r h
  exact tO_of (pair_inj graph_spreadsEj) (OL_runD graph_spreads_ds rfl rfl Try.func46 ((graph_spreads_t1 _ _ l0 sels).trans hv))

def slices_Index_string_string_l1 (O : Orc) (LP : LBody → LBody) : LBody := fun s1 s1u => cnd (chkL [(.sl false), .str, (.int .i64), (.int .i64), (.int .i64)] s1) (cnd (chkU [] s1u)
  (cnd (decide ((intV (gt s1 4)) < (intV (gt s1 3))))
   (bnd (ix 1 (.slice (esV (gt s1 0)) [] false) (.int .i64 (intV (gt s1 4)))) fun x5 => cnd (chk (.ref .str) x5)
   (cnd ((strV (gt s1 1)) == (strV (refV x5)))
    (some (.ret, [(.slice (esV (gt s1 0)) [] false), (.str (strV (gt s1 1))), (.int .i64 (intV (gt s1 4))), (.int .i64 (intV (gt s1 3))), (.int .i64 (intV (gt s1 4)))], []))
    (some (.nrm, [(.slice (esV (gt s1 0)) [] false), (.str (strV (gt s1 1))), (.int .i64 (intV (gt s1 2))), (.int .i64 (intV (gt s1 3))), (.int .i64 (IntKind.wrap .i64 ((intV (gt s1 4)) + 1)))], []))) none)
   (some (.brk 0, [(.slice (esV (gt s1 0)) [] false), (.str (strV (gt s1 1))), (.int .i64 (intV (gt s1 2))), (.int .i64 (intV (gt s1 3))), (.int .i64 (intV (gt s1 4)))], []))) none) none
def slices_Index_string_string_T1 (O : Orc) (LP : LBody → LBody) (s : List Str) (v0 : Str) : Option (PV × UP) :=
  bnd (LP (slices_Index_string_string_l1 O LP) [(.slice (List.map PV.str s) [] false), (.str v0), (.int .i64 0), (.int .i64 (List.length (List.map PV.str s) : Int)), (.int .i64 0)] []) fun y10 =>
  exIs y10.1 (some 0) (cnd (chkL [(.sl false), .str, (.int .i64), (.int .i64), (.int .i64)] y10.2.1) (cnd (chkU [] y10.2.2)
   (some ((.int .i64 (-1)), [])) none) none)
  (exIs y10.1 none (cnd (chkL [(.sl false), .str, (.int .i64), (.int .i64), (.int .i64)] y10.2.1) (cnd (chkU [] y10.2.2)
   (some ((.int .i64 (intV (gt y10.2.1 2))), [])) none) none)
  (none))
noncomputable def slices_Index_string_string_l1T (s : List Str) (v0 : Str) : Int → Option (Int ⊕ (Unit ⊕ Int))
  | t_4 =>
  cnd (decide (t_4 < (List.length s : Int)))
   (bnd (nthI s t_4) fun y6 =>
   cnd (v0 == y6)
    (some (.inr (.inr t_4)))
    (some (.inl (IntKind.wrap .i64 (t_4 + 1)))))
   (some (.inr (.inl ())))
abbrev slices_Index_string_string_l1R (s : List Str) (v0 : Str) (st : Int) (l : List PV) (u : UP) : Prop := l = [(.slice (List.map PV.str s) [] false), (.str v0), (.int .i64 0), (.int .i64 (List.length s : Int)), (.int .i64 st)] ∧ u = []
abbrev slices_Index_string_string_l1X (s : List Str) (v0 : Str) (p : Unit ⊕ Int) (r : Ex × List PV × UP) : Prop := elim p (fun (p : Unit) => ∃ (t_7 : Int), r = (Ex.brk 0, [(.slice (List.map PV.str s) [] false), (.str v0), (.int .i64 0), (.int .i64 (List.length s : Int)), (.int .i64 t_7)], [])) (fun q2 => (fun (p : Int) => ∃ (t_9 : Int), r = (Ex.ret, [(.slice (List.map PV.str s) [] false), (.str v0), (.int .i64 p), (.int .i64 (List.length s : Int)), (.int .i64 t_9)], [])) q2)
noncomputable def slices_Index_string_string_B (s : List Str) (v0 : Str) : Option Int :=
  bnd (tloop (slices_Index_string_string_l1T s v0) 0) fun e10_2 => elim e10_2
  (fun p10 =>
   some (-1))
  (fun t_8 =>
  some t_8)
def slices_Index_string_string_ds : Decs := { decs := [(14, (.ref .str))], ups := [], loops := [(2, [], ⟨[(.sl false), .str, (.int .i64), (.int .i64), (.int .i64)], [], [(some 0, [(.sl false), .str, (.int .i64), (.int .i64), (.int .i64)], []), (none, [(.sl false), .str, (.int .i64), (.int .i64), (.int .i64)], [])]⟩)] }
set_option maxRecDepth 100000 in
theorem slices_Index_string_string_t1 (O : Orc) (LP : LBody → LBody) (s : List Str) (v0 : Str) : evalBodyD Try.prog (MT 47) slices_Index_string_string_ds Try.f47.ntmps O LP Try.f47 [(.slice (List.map PV.str s) [] false), (.str v0)] [] = slices_Index_string_string_T1 O LP s v0 := by kernel_rfl
theorem slices_Index_string_string_l1_ok (s : List Str) (v0 : Str) : ∀ st l u, slices_Index_string_string_l1R s v0 st l u → Imp (slices_Index_string_string_l1T s v0 st) (slices_Index_string_string_l1 O loopLim l u) (StepR (slices_Index_string_string_l1R s v0) (slices_Index_string_string_l1X s v0)) := by
  rintro t_4 l u ⟨rfl, rfl⟩
  simp only [slices_Index_string_string_l1T, slices_Index_string_string_l1]
  refine Imp.chk rfl (Imp.chk rfl ?_)
  try simp only [evs, tys]
  refine Imp.cnd ?_ ?_
  · refine Imp.op (f := fun a => .ref (PV.str a)) (fun a h => op_ix (enc := PV.str) (by first | rfl | simp only [evs, tys, evl]) ⟨by first | rfl | simp only [evs, tys, evc], by decide⟩ h) (fun a => rfl) fun y6 hy6 => ?_
    try simp only [evs, tys]
    refine Imp.cnd ?_ ?_
    · exact Imp.some (StepR.ret ⟨t_4, by first | rfl | simp only [evs, tys, evl, elim_inl, elim_inr]⟩)
    · exact Imp.some (StepR.next ⟨by first | rfl | simp only [evs, tys, evl], rfl⟩)
  · exact Imp.some (StepR.brk ⟨t_4, by first | rfl | simp only [evs, tys, evl, elim_inl, elim_inr]⟩)
theorem slices_Index_string_string_imp (s : List Str) (v0 : Str) : Imp (slices_Index_string_string_B s v0) (slices_Index_string_string_T1 O loopLim s v0) (fun r v => v = (slices_Index_string_stringE r, [])) := by
  simp only [slices_Index_string_string_B, slices_Index_string_string_T1]
  try simp only [evs, tys]
  refine Imp.bnd (Imp.loop (slices_Index_string_string_l1_ok s v0) ⟨by first | rfl | simp only [evs, tys, evl], rfl⟩) ?_
  rintro (p | t_8) vy10 hy10
  · try simp only [elim_inl, elim_inr]
    obtain ⟨t_7, rfl⟩ := hy10
    refine Imp.exHit rfl (Imp.chk rfl (Imp.chk rfl ?_))
    try simp only [evs, tys]
    exact Imp.some (by first | rfl | simp only [slices_Index_string_stringE, evs, tys, evl])
  · try simp only [elim_inl, elim_inr]
    obtain ⟨t_9, rfl⟩ := hy10
    refine Imp.exMiss rfl ?_
    refine Imp.exHit rfl (Imp.chk rfl (Imp.chk rfl ?_))
    try simp only [evs, tys]
    exact Imp.some (by first | rfl | simp only [slices_Index_string_stringE, evs, tys, evl])
theorem slices_Index_string_string_run {s : List Str} {v0 : Str} {r : Int} (h : slices_Index_string_string_B s v0 = some r) : slices_Index_string_string s v0 = some r := by
  obtain ⟨v, hv, rfl⟩ := slices_Index_string_string_imp s v0 r h
  exact tO_of (pair_inj slices_Index_string_stringEj) (OL_runD slices_Index_string_string_ds rfl rfl Try.func47 ((slices_Index_string_string_t1 _ _ s v0).trans hv))

def seineref1_Vars_T1 (O : Orc) (LP : LBody → LBody) (v0 : GValue) : Option (PV × UP) :=
  callp O 56 [(.agg [(.int .i64 v0.kind), (.int .i64 v0.n), (.str v0.s), (.slice (List.map encValue v0.l) [] false), (.slice (List.map encMember v0.m) [] false)]), (.slice [] [] true)] fun x1 => cnd (chk (.sl true) x1)
  (some ((.slice (esV x1) [] false), [])) none
noncomputable def seineref1_Vars_B (v0 : GValue) : Option (List Str) :=
  bnd (seineref1_vars v0 ([] : List Str)) fun y2 =>
  some y2
def seineref1_Vars_ds : Decs := { decs := [(4, (.sl true))], ups := [], loops := [] }
set_option maxRecDepth 100000 in
theorem seineref1_Vars_t1 (O : Orc) (LP : LBody → LBody) (v0 : GValue) : evalBodyD Try.prog (MT 48) seineref1_Vars_ds Try.f48.ntmps O LP Try.f48 [(.agg [(.int .i64 v0.kind), (.int .i64 v0.n), (.str v0.s), (.slice (List.map encValue v0.l) [] false), (.slice (List.map encMember v0.m) [] false)])] [] = seineref1_Vars_T1 O LP v0 := by kernel_rfl
theorem seineref1_Vars_imp (v0 : GValue) : Imp (seineref1_Vars_B v0) (seineref1_Vars_T1 O loopLim v0) (fun r v => v = (seineref1_VarsE r, [])) := by
  simp only [seineref1_Vars_B, seineref1_Vars_T1]
  try simp only [evs, tys]
  refine Imp.call (f := seineref1_varsE) rfl (fun a h => by first | exact seineref1_vars_spec h | simpa only [evs, tys, evl] using seineref1_vars_spec h) (fun a => by first | rfl | simp only [seineref1_varsE, evk, chks]) fun y2 hy2 => ?_
  try simp only [seineref1_varsE, evs, tys]
  exact Imp.some (by first | rfl | simp only [seineref1_VarsE, evs, tys, evl])
theorem seineref1_Vars_run {v0 : GValue} {r : List Str} (h : seineref1_Vars_B v0 = some r) : seineref1_Vars v0 = some r := by
  obtain ⟨v, hv, rfl⟩ := seineref1_Vars_imp v0 r h
  exact tO_of (pair_inj seineref1_VarsEj) (OL_runD seineref1_Vars_ds rfl rfl Try.func48 ((seineref1_Vars_t1 _ _ v0).trans hv))
end Go.Proofs.Ytphmfillajagdaa

/- Printed by symgen.py: typed functions of this seat, and why they tell what the program does. -/
set_option linter.unusedVariables false
set_option linter.unusedSimpArgs false
open Go Go.Ev Go.Ev.PV
namespace Go.Proofs.Ytphmfillajagdaa
def seineref1_vars_l1 (O : Orc) (LP : LBody → LBody) : LBody := fun s5 s5u => cnd (chkL [(.sl true), (.ptr 0 2 0), (.int .i64), (.int .i64), (.int .i64), .str, (.sl false), (.sl false)] s5) (cnd (chkU [] s5u)
  (cnd (decide ((intV (gt s5 2)) < (List.length (esV (gt s5 6)) : Int)))
   (cnd ((intV (gt s5 3)) == 6)
    (bnd (ix 5 (.slice (esV (gt s5 6)) [] false) (.int .i64 (intV (gt s5 2)))) fun x12 => cnd (chk (.ref shValue) x12)
    (callp O 56 [(.agg [(.int .i64 (intV (gt (aggV (refV x12)) 0))), (.int .i64 (intV (gt (aggV (refV x12)) 1))), (.str (strV (gt (aggV (refV x12)) 2))), (.slice (esV (gt (aggV (refV x12)) 3)) [] false), (.slice (esV (gt (aggV (refV x12)) 4)) [] false)]), (.slice (esV (gt s5 0)) [] true)] fun x14 => cnd (chk (.sl true) x14)
    (some (.nrm, [(.slice (esV x14) [] true), (.ptr 0 2 0), (.int .i64 (IntKind.wrap .i64 ((intV (gt s5 2)) + 1))), (.int .i64 (intV (gt s5 3))), (.int .i64 (intV (gt s5 4))), (.str (strV (gt s5 5))), (.slice (esV (gt s5 6)) [] false), (.slice (esV (gt s5 7)) [] false)], [])) none) none)
    (some (.brk 0, [(.slice (esV (gt s5 0)) [] true), (.ptr 0 2 0), (.int .i64 (intV (gt s5 2))), (.int .i64 (intV (gt s5 3))), (.int .i64 (intV (gt s5 4))), (.str (strV (gt s5 5))), (.slice (esV (gt s5 6)) [] false), (.slice (esV (gt s5 7)) [] false)], [])))
   (some (.brk 0, [(.slice (esV (gt s5 0)) [] true), (.ptr 0 2 0), (.int .i64 (intV (gt s5 2))), (.int .i64 (intV (gt s5 3))), (.int .i64 (intV (gt s5 4))), (.str (strV (gt s5 5))), (.slice (esV (gt s5 6)) [] false), (.slice (esV (gt s5 7)) [] false)], []))) none) none
def seineref1_vars_l2 (O : Orc) (LP : LBody → LBody) : LBody := fun s19 s19u => cnd (chkL [(.sl true), (.ptr 0 2 0), (.int .i64), (.int .i64), (.int .i64), .str, (.sl false), (.sl false)] s19) (cnd (chkU [] s19u)
  (cnd (decide ((intV (gt s19 2)) < (List.length (esV (gt s19 7)) : Int)))
   (cnd ((intV (gt s19 3)) == 7)
    (bnd (ix 6 (.slice (esV (gt s19 7)) [] false) (.int .i64 (intV (gt s19 2)))) fun x26 => cnd (chk (.ref shMember) x26)
    (callp O 56 [(.agg [(.int .i64 (intV (gt (aggV (refV x26)) 1))), (.int .i64 (intV (gt (aggV (refV x26)) 2))), (.str (strV (gt (aggV (refV x26)) 3))), (.slice (esV (gt (aggV (refV x26)) 4)) [] false), (.slice (esV (gt (aggV (refV x26)) 5)) [] false)]), (.slice (esV (gt s19 0)) [] true)] fun x28 => cnd (chk (.sl true) x28)
    (some (.nrm, [(.slice (esV x28) [] true), (.ptr 0 2 0), (.int .i64 (IntKind.wrap .i64 ((intV (gt s19 2)) + 1))), (.int .i64 (intV (gt s19 3))), (.int .i64 (intV (gt s19 4))), (.str (strV (gt s19 5))), (.slice (esV (gt s19 6)) [] false), (.slice (esV (gt s19 7)) [] false)], [])) none) none)
    (some (.brk 2, [(.slice (esV (gt s19 0)) [] true), (.ptr 0 2 0), (.int .i64 (intV (gt s19 2))), (.int .i64 (intV (gt s19 3))), (.int .i64 (intV (gt s19 4))), (.str (strV (gt s19 5))), (.slice (esV (gt s19 6)) [] false), (.slice (esV (gt s19 7)) [] false)], [])))
   (some (.brk 2, [(.slice (esV (gt s19 0)) [] true), (.ptr 0 2 0), (.int .i64 (intV (gt s19 2))), (.int .i64 (intV (gt s19 3))), (.int .i64 (intV (gt s19 4))), (.str (strV (gt s19 5))), (.slice (esV (gt s19 6)) [] false), (.slice (esV (gt s19 7)) [] false)], []))) none) none
def seineref1_vars_l3 (O : Orc) (LP : LBody → LBody) : LBody := fun s33 s33u => cnd (chkL [(.sl true), (.ptr 0 2 0), (.int .i64), (.int .i64), (.int .i64), .str, (.sl false), (.sl false)] s33) (cnd (chkU [] s33u)
  (cnd (decide ((intV (gt s33 2)) < (List.length (esV (gt s33 6)) : Int)))
   (cnd ((intV (gt s33 3)) == 6)
    (bnd (ix 5 (.slice (esV (gt s33 6)) [] false) (.int .i64 (intV (gt s33 2)))) fun x40 => cnd (chk (.ref shValue) x40)
    (callp O 56 [(.agg [(.int .i64 (intV (gt (aggV (refV x40)) 0))), (.int .i64 (intV (gt (aggV (refV x40)) 1))), (.str (strV (gt (aggV (refV x40)) 2))), (.slice (esV (gt (aggV (refV x40)) 3)) [] false), (.slice (esV (gt (aggV (refV x40)) 4)) [] false)]), (.slice (esV (gt s33 0)) [] true)] fun x42 => cnd (chk (.sl true) x42)
    (some (.nrm, [(.slice (esV x42) [] true), (.ptr 0 2 0), (.int .i64 (IntKind.wrap .i64 ((intV (gt s33 2)) + 1))), (.int .i64 (intV (gt s33 3))), (.int .i64 (intV (gt s33 4))), (.str (strV (gt s33 5))), (.slice (esV (gt s33 6)) [] false), (.slice (esV (gt s33 7)) [] false)], [])) none) none)
    (some (.brk 0, [(.slice (esV (gt s33 0)) [] true), (.ptr 0 2 0), (.int .i64 (intV (gt s33 2))), (.int .i64 (intV (gt s33 3))), (.int .i64 (intV (gt s33 4))), (.str (strV (gt s33 5))), (.slice (esV (gt s33 6)) [] false), (.slice (esV (gt s33 7)) [] false)], [])))
   (some (.brk 0, [(.slice (esV (gt s33 0)) [] true), (.ptr 0 2 0), (.int .i64 (intV (gt s33 2))), (.int .i64 (intV (gt s33 3))), (.int .i64 (intV (gt s33 4))), (.str (strV (gt s33 5))), (.slice (esV (gt s33 6)) [] false), (.slice (esV (gt s33 7)) [] false)], []))) none) none
def seineref1_vars_l4 (O : Orc) (LP : LBody → LBody) : LBody := fun s47 s47u => cnd (chkL [(.sl true), (.ptr 0 2 0), (.int .i64), (.int .i64), (.int .i64), .str, (.sl false), (.sl false)] s47) (cnd (chkU [] s47u)
  (cnd (decide ((intV (gt s47 2)) < (List.length (esV (gt s47 7)) : Int)))
   (cnd ((intV (gt s47 3)) == 7)
    (bnd (ix 6 (.slice (esV (gt s47 7)) [] false) (.int .i64 (intV (gt s47 2)))) fun x54 => cnd (chk (.ref shMember) x54)
    (callp O 56 [(.agg [(.int .i64 (intV (gt (aggV (refV x54)) 1))), (.int .i64 (intV (gt (aggV (refV x54)) 2))), (.str (strV (gt (aggV (refV x54)) 3))), (.slice (esV (gt (aggV (refV x54)) 4)) [] false), (.slice (esV (gt (aggV (refV x54)) 5)) [] false)]), (.slice (esV (gt s47 0)) [] true)] fun x56 => cnd (chk (.sl true) x56)
    (some (.nrm, [(.slice (esV x56) [] true), (.ptr 0 2 0), (.int .i64 (IntKind.wrap .i64 ((intV (gt s47 2)) + 1))), (.int .i64 (intV (gt s47 3))), (.int .i64 (intV (gt s47 4))), (.str (strV (gt s47 5))), (.slice (esV (gt s47 6)) [] false), (.slice (esV (gt s47 7)) [] false)], [])) none) none)
    (some (.brk 2, [(.slice (esV (gt s47 0)) [] true), (.ptr 0 2 0), (.int .i64 (intV (gt s47 2))), (.int .i64 (intV (gt s47 3))), (.int .i64 (intV (gt s47 4))), (.str (strV (gt s47 5))), (.slice (esV (gt s47 6)) [] false), (.slice (esV (gt s47 7)) [] false)], [])))
   (some (.brk 2, [(.slice (esV (gt s47 0)) [] true), (.ptr 0 2 0), (.int .i64 (intV (gt s47 2))), (.int .i64 (intV (gt s47 3))), (.int .i64 (intV (gt s47 4))), (.str (strV (gt s47 5))), (.slice (esV (gt s47 6)) [] false), (.slice (esV (gt s47 7)) [] false)], []))) none) none
def seineref1_vars_l5 (O : Orc) (LP : LBody → LBody) : LBody := fun s61 s61u => cnd (chkL [(.sl true), (.ptr 0 2 0), (.int .i64), (.int .i64), (.int .i64), .str, (.sl false), (.sl false)] s61) (cnd (chkU [] s61u)
  (cnd (decide ((intV (gt s61 2)) < (List.length (esV (gt s61 6)) : Int)))
   (cnd ((intV (gt s61 3)) == 6)
    (bnd (ix 5 (.slice (esV (gt s61 6)) [] false) (.int .i64 (intV (gt s61 2)))) fun x68 => cnd (chk (.ref shValue) x68)
    (callp O 56 [(.agg [(.int .i64 (intV (gt (aggV (refV x68)) 0))), (.int .i64 (intV (gt (aggV (refV x68)) 1))), (.str (strV (gt (aggV (refV x68)) 2))), (.slice (esV (gt (aggV (refV x68)) 3)) [] false), (.slice (esV (gt (aggV (refV x68)) 4)) [] false)]), (.slice (esV (gt s61 0)) [] true)] fun x70 => cnd (chk (.sl true) x70)
    (some (.nrm, [(.slice (esV x70) [] true), (.ptr 0 2 0), (.int .i64 (IntKind.wrap .i64 ((intV (gt s61 2)) + 1))), (.int .i64 (intV (gt s61 3))), (.int .i64 (intV (gt s61 4))), (.str (strV (gt s61 5))), (.slice (esV (gt s61 6)) [] false), (.slice (esV (gt s61 7)) [] false)], [])) none) none)
    (some (.brk 0, [(.slice (esV (gt s61 0)) [] true), (.ptr 0 2 0), (.int .i64 (intV (gt s61 2))), (.int .i64 (intV (gt s61 3))), (.int .i64 (intV (gt s61 4))), (.str (strV (gt s61 5))), (.slice (esV (gt s61 6)) [] false), (.slice (esV (gt s61 7)) [] false)], [])))
   (some (.brk 0, [(.slice (esV (gt s61 0)) [] true), (.ptr 0 2 0), (.int .i64 (intV (gt s61 2))), (.int .i64 (intV (gt s61 3))), (.int .i64 (intV (gt s61 4))), (.str (strV (gt s61 5))), (.slice (esV (gt s61 6)) [] false), (.slice (esV (gt s61 7)) [] false)], []))) none) none
def seineref1_vars_l6 (O : Orc) (LP : LBody → LBody) : LBody := fun s75 s75u => cnd (chkL [(.sl true), (.ptr 0 2 0), (.int .i64), (.int .i64), (.int .i64), .str, (.sl false), (.sl false)] s75) (cnd (chkU [] s75u)
  (cnd (decide ((intV (gt s75 2)) < (List.length (esV (gt s75 7)) : Int)))
   (cnd ((intV (gt s75 3)) == 7)
    (bnd (ix 6 (.slice (esV (gt s75 7)) [] false) (.int .i64 (intV (gt s75 2)))) fun x82 => cnd (chk (.ref shMember) x82)
    (callp O 56 [(.agg [(.int .i64 (intV (gt (aggV (refV x82)) 1))), (.int .i64 (intV (gt (aggV (refV x82)) 2))), (.str (strV (gt (aggV (refV x82)) 3))), (.slice (esV (gt (aggV (refV x82)) 4)) [] false), (.slice (esV (gt (aggV (refV x82)) 5)) [] false)]), (.slice (esV (gt s75 0)) [] true)] fun x84 => cnd (chk (.sl true) x84)
    (some (.nrm, [(.slice (esV x84) [] true), (.ptr 0 2 0), (.int .i64 (IntKind.wrap .i64 ((intV (gt s75 2)) + 1))), (.int .i64 (intV (gt s75 3))), (.int .i64 (intV (gt s75 4))), (.str (strV (gt s75 5))), (.slice (esV (gt s75 6)) [] false), (.slice (esV (gt s75 7)) [] false)], [])) none) none)
    (some (.brk 2, [(.slice (esV (gt s75 0)) [] true), (.ptr 0 2 0), (.int .i64 (intV (gt s75 2))), (.int .i64 (intV (gt s75 3))), (.int .i64 (intV (gt s75 4))), (.str (strV (gt s75 5))), (.slice (esV (gt s75 6)) [] false), (.slice (esV (gt s75 7)) [] false)], [])))
   (some (.brk 2, [(.slice (esV (gt s75 0)) [] true), (.ptr 0 2 0), (.int .i64 (intV (gt s75 2))), (.int .i64 (intV (gt s75 3))), (.int .i64 (intV (gt s75 4))), (.str (strV (gt s75 5))), (.slice (esV (gt s75 6)) [] false), (.slice (esV (gt s75 7)) [] false)], []))) none) none
def seineref1_vars_T1 (O : Orc) (LP : LBody → LBody) (v0 : GValue) (out0 : List Str) : Option (PV × UP) :=
  cnd (v0.kind == 8)
   (callp O 10 [(.slice (List.map PV.str out0) [] false), (.str v0.s)] fun x1 => cnd (chk .bool x1)
   (cnd (!(boolV x1))
    (bnd (apd 1 (.slice (List.map PV.str out0) [] true) (.slice [(.str v0.s)] [] true)) fun x3 => cnd (chk (.sl true) x3)
    (bnd (LP (seineref1_vars_l1 O LP) [(.slice (esV x3) [] true), (.ptr 0 2 0), (.int .i64 0), (.int .i64 v0.kind), (.int .i64 v0.n), (.str v0.s), (.slice (List.map encValue v0.l) [] false), (.slice (List.map encMember v0.m) [] false)] []) fun y18 =>
    exIs y18.1 (some 0) (cnd (chkL [(.sl true), (.ptr 0 2 0), (.int .i64), (.int .i64), (.int .i64), .str, (.sl false), (.sl false)] y18.2.1) (cnd (chkU [] y18.2.2)
     (bnd (LP (seineref1_vars_l2 O LP) [(.slice (esV (gt y18.2.1 0)) [] true), (.ptr 0 2 0), (.int .i64 0), (.int .i64 (intV (gt y18.2.1 3))), (.int .i64 (intV (gt y18.2.1 4))), (.str (strV (gt y18.2.1 5))), (.slice (esV (gt y18.2.1 6)) [] false), (.slice (esV (gt y18.2.1 7)) [] false)] []) fun y32 =>
     exIs y32.1 (some 2) (cnd (chkL [(.sl true), (.ptr 0 2 0), (.int .i64), (.int .i64), (.int .i64), .str, (.sl false), (.sl false)] y32.2.1) (cnd (chkU [] y32.2.2)
      (some ((.slice (esV (gt y32.2.1 0)) [] true), [])) none) none)
     (none)) none) none)
    (none)) none)
    (bnd (LP (seineref1_vars_l3 O LP) [(.slice (List.map PV.str out0) [] true), (.ptr 0 2 0), (.int .i64 0), (.int .i64 v0.kind), (.int .i64 v0.n), (.str v0.s), (.slice (List.map encValue v0.l) [] false), (.slice (List.map encMember v0.m) [] false)] []) fun y46 =>
    exIs y46.1 (some 0) (cnd (chkL [(.sl true), (.ptr 0 2 0), (.int .i64), (.int .i64), (.int .i64), .str, (.sl false), (.sl false)] y46.2.1) (cnd (chkU [] y46.2.2)
     (bnd (LP (seineref1_vars_l4 O LP) [(.slice (esV (gt y46.2.1 0)) [] true), (.ptr 0 2 0), (.int .i64 0), (.int .i64 (intV (gt y46.2.1 3))), (.int .i64 (intV (gt y46.2.1 4))), (.str (strV (gt y46.2.1 5))), (.slice (esV (gt y46.2.1 6)) [] false), (.slice (esV (gt y46.2.1 7)) [] false)] []) fun y60 =>
     exIs y60.1 (some 2) (cnd (chkL [(.sl true), (.ptr 0 2 0), (.int .i64), (.int .i64), (.int .i64), .str, (.sl false), (.sl false)] y60.2.1) (cnd (chkU [] y60.2.2)
      (some ((.slice (esV (gt y60.2.1 0)) [] true), [])) none) none)
     (none)) none) none)
    (none))) none)
   (bnd (LP (seineref1_vars_l5 O LP) [(.slice (List.map PV.str out0) [] true), (.ptr 0 2 0), (.int .i64 0), (.int .i64 v0.kind), (.int .i64 v0.n), (.str v0.s), (.slice (List.map encValue v0.l) [] false), (.slice (List.map encMember v0.m) [] false)] []) fun y74 =>
   exIs y74.1 (some 0) (cnd (chkL [(.sl true), (.ptr 0 2 0), (.int .i64), (.int .i64), (.int .i64), .str, (.sl false), (.sl false)] y74.2.1) (cnd (chkU [] y74.2.2)
    (bnd (LP (seineref1_vars_l6 O LP) [(.slice (esV (gt y74.2.1 0)) [] true), (.ptr 0 2 0), (.int .i64 0), (.int .i64 (intV (gt y74.2.1 3))), (.int .i64 (intV (gt y74.2.1 4))), (.str (strV (gt y74.2.1 5))), (.slice (esV (gt y74.2.1 6)) [] false), (.slice (esV (gt y74.2.1 7)) [] false)] []) fun y88 =>
    exIs y88.1 (some 2) (cnd (chkL [(.sl true), (.ptr 0 2 0), (.int .i64), (.int .i64), (.int .i64), .str, (.sl false), (.sl false)] y88.2.1) (cnd (chkU [] y88.2.2)
     (some ((.slice (esV (gt y88.2.1 0)) [] true), [])) none) none)
    (none)) none) none)
   (none))
noncomputable def seineref1_vars_l1T (v0 : GValue) : ((List Str) × Int) → Option (((List Str) × Int) ⊕ ((List Str)))
  | (out_10, i_11) =>
  cnd (decide (i_11 < (List.length v0.l : Int)))
   (cnd (v0.kind == 6)
    (bnd (nthI v0.l i_11) fun y13 =>
    bnd (seineref1_vars y13 out_10) fun y15 =>
    some (.inl (y15, (IntKind.wrap .i64 (i_11 + 1)))))
    (some (.inr out_10)))
   (some (.inr out_10))
abbrev seineref1_vars_l1R (v0 : GValue) (st : (List Str) × Int) (l : List PV) (u : UP) : Prop := l = [(.slice (List.map PV.str st.1) [] true), (.ptr 0 2 0), (.int .i64 st.2), (.int .i64 v0.kind), (.int .i64 v0.n), (.str v0.s), (.slice (List.map encValue v0.l) [] false), (.slice (List.map encMember v0.m) [] false)] ∧ u = []
abbrev seineref1_vars_l1X (v0 : GValue) (p : (List Str)) (r : Ex × List PV × UP) : Prop := (fun (p : (List Str)) => ∃ (i_17 : Int), r = (Ex.brk 0, [(.slice (List.map PV.str p) [] true), (.ptr 0 2 0), (.int .i64 i_17), (.int .i64 v0.kind), (.int .i64 v0.n), (.str v0.s), (.slice (List.map encValue v0.l) [] false), (.slice (List.map encMember v0.m) [] false)], [])) p
noncomputable def seineref1_vars_l2T (v0 : GValue) : ((List Str) × Int) → Option (((List Str) × Int) ⊕ ((List Str)))
  | (out_24, i_25) =>
  cnd (decide (i_25 < (List.length v0.m : Int)))
   (cnd (v0.kind == 7)
    (bnd (nthI v0.m i_25) fun y27 =>
    bnd (seineref1_vars y27.v out_24) fun y29 =>
    some (.inl (y29, (IntKind.wrap .i64 (i_25 + 1)))))
    (some (.inr out_24)))
   (some (.inr out_24))
abbrev seineref1_vars_l2R (v0 : GValue) (st : (List Str) × Int) (l : List PV) (u : UP) : Prop := l = [(.slice (List.map PV.str st.1) [] true), (.ptr 0 2 0), (.int .i64 st.2), (.int .i64 v0.kind), (.int .i64 v0.n), (.str v0.s), (.slice (List.map encValue v0.l) [] false), (.slice (List.map encMember v0.m) [] false)] ∧ u = []
abbrev seineref1_vars_l2X (v0 : GValue) (p : (List Str)) (r : Ex × List PV × UP) : Prop := (fun (p : (List Str)) => ∃ (i_31 : Int), r = (Ex.brk 2, [(.slice (List.map PV.str p) [] true), (.ptr 0 2 0), (.int .i64 i_31), (.int .i64 v0.kind), (.int .i64 v0.n), (.str v0.s), (.slice (List.map encValue v0.l) [] false), (.slice (List.map encMember v0.m) [] false)], [])) p
noncomputable def seineref1_vars_l3T (v0 : GValue) : ((List Str) × Int) → Option (((List Str) × Int) ⊕ ((List Str)))
  | (out_38, i_39) =>
  cnd (decide (i_39 < (List.length v0.l : Int)))
   (cnd (v0.kind == 6)
    (bnd (nthI v0.l i_39) fun y41 =>
    bnd (seineref1_vars y41 out_38) fun y43 =>
    some (.inl (y43, (IntKind.wrap .i64 (i_39 + 1)))))
    (some (.inr out_38)))
   (some (.inr out_38))
abbrev seineref1_vars_l3R (v0 : GValue) (st : (List Str) × Int) (l : List PV) (u : UP) : Prop := l = [(.slice (List.map PV.str st.1) [] true), (.ptr 0 2 0), (.int .i64 st.2), (.int .i64 v0.kind), (.int .i64 v0.n), (.str v0.s), (.slice (List.map encValue v0.l) [] false), (.slice (List.map encMember v0.m) [] false)] ∧ u = []
abbrev seineref1_vars_l3X (v0 : GValue) (p : (List Str)) (r : Ex × List PV × UP) : Prop := (fun (p : (List Str)) => ∃ (i_45 : Int), r = (Ex.brk 0, [(.slice (List.map PV.str p) [] true), (.ptr 0 2 0), (.int .i64 i_45), (.int .i64 v0.kind), (.int .i64 v0.n), (.str v0.s), (.slice (List.map encValue v0.l) [] false), (.slice (List.map encMember v0.m) [] false)], [])) p
noncomputable def seineref1_vars_l4T (v0 : GValue) : ((List Str) × Int) → Option (((List Str) × Int) ⊕ ((List Str)))
  | (out_52, i_53) =>
  cnd (decide (i_53 < (List.length v0.m : Int)))
   (cnd (v0.kind == 7)
    (bnd (nthI v0.m i_53) fun y55 =>
    bnd (seineref1_vars y55.v out_52) fun y57 =>
    some (.inl (y57, (IntKind.wrap .i64 (i_53 + 1)))))
    (some (.inr out_52)))
   (some (.inr out_52))
abbrev seineref1_vars_l4R (v0 : GValue) (st : (List Str) × Int) (l : List PV) (u : UP) : Prop := l = [(.slice (List.map PV.str st.1) [] true), (.ptr 0 2 0), (.int .i64 st.2), (.int .i64 v0.kind), (.int .i64 v0.n), (.str v0.s), (.slice (List.map encValue v0.l) [] false), (.slice (List.map encMember v0.m) [] false)] ∧ u = []
abbrev seineref1_vars_l4X (v0 : GValue) (p : (List Str)) (r : Ex × List PV × UP) : Prop := (fun (p : (List Str)) => ∃ (i_59 : Int), r = (Ex.brk 2, [(.slice (List.map PV.str p) [] true), (.ptr 0 2 0), (.int .i64 i_59), (.int .i64 v0.kind), (.int .i64 v0.n), (.str v0.s), (.slice (List.map encValue v0.l) [] false), (.slice (List.map encMember v0.m) [] false)], [])) p
noncomputable def seineref1_vars_l5T (v0 : GValue) : ((List Str) × Int) → Option (((List Str) × Int) ⊕ ((List Str)))
  | (out_66, i_67) =>
  cnd (decide (i_67 < (List.length v0.l : Int)))
   (cnd (v0.kind == 6)
    (bnd (nthI v0.l i_67) fun y69 =>
    bnd (seineref1_vars y69 out_66) fun y71 =>
    some (.inl (y71, (IntKind.wrap .i64 (i_67 + 1)))))
    (some (.inr out_66)))
   (some (.inr out_66))
abbrev seineref1_vars_l5R (v0 : GValue) (st : (List Str) × Int) (l : List PV) (u : UP) : Prop := l = [(.slice (List.map PV.str st.1) [] true), (.ptr 0 2 0), (.int .i64 st.2), (.int .i64 v0.kind), (.int .i64 v0.n), (.str v0.s), (.slice (List.map encValue v0.l) [] false), (.slice (List.map encMember v0.m) [] false)] ∧ u = []
abbrev seineref1_vars_l5X (v0 : GValue) (p : (List Str)) (r : Ex × List PV × UP) : Prop := (fun (p : (List Str)) => ∃ (i_73 : Int), r = (Ex.brk 0, [(.slice (List.map PV.str p) [] true), (.ptr 0 2 0), (.int .i64 i_73), (.int .i64 v0.kind), (.int .i64 v0.n), (.str v0.s), (.slice (List.map encValue v0.l) [] false), (.slice (List.map encMember v0.m) [] false)], [])) p
noncomputable def seineref1_vars_l6T (v0 : GValue) : ((List Str) × Int) → Option (((List Str) × Int) ⊕ ((List Str)))
  | (out_80, i_81) =>
  cnd (decide (i_81 < (List.length v0.m : Int)))
   (cnd (v0.kind == 7)
    (bnd (nthI v0.m i_81) fun y83 =>
    bnd (seineref1_vars y83.v out_80) fun y85 =>
    some (.inl (y85, (IntKind.wrap .i64 (i_81 + 1)))))
    (some (.inr out_80)))
   (some (.inr out_80))
abbrev seineref1_vars_l6R (v0 : GValue) (st : (List Str) × Int) (l : List PV) (u : UP) : Prop := l = [(.slice (List.map PV.str st.1) [] true), (.ptr 0 2 0), (.int .i64 st.2), (.int .i64 v0.kind), (.int .i64 v0.n), (.str v0.s), (.slice (List.map encValue v0.l) [] false), (.slice (List.map encMember v0.m) [] false)] ∧ u = []
abbrev seineref1_vars_l6X (v0 : GValue) (p : (List Str)) (r : Ex × List PV × UP) : Prop := (fun (p : (List Str)) => ∃ (i_87 : Int), r = (Ex.brk 2, [(.slice (List.map PV.str p) [] true), (.ptr 0 2 0), (.int .i64 i_87), (.int .i64 v0.kind), (.int .i64 v0.n), (.str v0.s), (.slice (List.map encValue v0.l) [] false), (.slice (List.map encMember v0.m) [] false)], [])) p
noncomputable def seineref1_vars_B (v0 : GValue) (out0 : List Str) : Option (List Str) :=
  cnd (v0.kind == 8)
   (bnd (seineref1_Has out0 v0.s) fun y2 =>
   cnd (!y2)
    (bnd (tapp out0 [v0.s]) fun y4 =>
    bnd (tloop (seineref1_vars_l1T v0) (y4, 0)) fun out_16 =>
    bnd (tloop (seineref1_vars_l2T v0) (out_16, 0)) fun out_30 =>
    some out_30)
    (bnd (tloop (seineref1_vars_l3T v0) (out0, 0)) fun out_44 =>
    bnd (tloop (seineref1_vars_l4T v0) (out_44, 0)) fun out_58 =>
    some out_58))
   (bnd (tloop (seineref1_vars_l5T v0) (out0, 0)) fun out_72 =>
   bnd (tloop (seineref1_vars_l6T v0) (out_72, 0)) fun out_86 =>
   some out_86)
def seineref1_vars_ds : Decs := { decs := [(14, .bool), (21, (.sl true)), (37, (.ref shValue)), (40, (.sl true)), (56, (.ref shMember)), (60, (.sl true))], ups := [], loops := [(4, [(2, 5)], ⟨[(.sl true), (.ptr 0 2 0), (.int .i64), (.int .i64), (.int .i64), .str, (.sl false), (.sl false)], [], [(some 0, [(.sl true), (.ptr 0 2 0), (.int .i64), (.int .i64), (.int .i64), .str, (.sl false), (.sl false)], [])]⟩), (8, [(2, 5)], ⟨[(.sl true), (.ptr 0 2 0), (.int .i64), (.int .i64), (.int .i64), .str, (.sl false), (.sl false)], [], [(some 2, [(.sl true), (.ptr 0 2 0), (.int .i64), (.int .i64), (.int .i64), .str, (.sl false), (.sl false)], [])]⟩)] }
set_option maxRecDepth 100000 in
theorem seineref1_vars_t1 (O : Orc) (LP : LBody → LBody) (v0 : GValue) (out0 : List Str) : evalBodyD Try.prog (MT 56) seineref1_vars_ds Try.f56.ntmps O LP Try.f56 [(.agg [(.int .i64 v0.kind), (.int .i64 v0.n), (.str v0.s), (.slice (List.map encValue v0.l) [] false), (.slice (List.map encMember v0.m) [] false)]), (.slice (List.map PV.str out0) [] true)] [] = seineref1_vars_T1 O LP v0 out0 := by kernel_rfl
theorem seineref1_vars_l1_ok (v0 : GValue) : ∀ st l u, seineref1_vars_l1R v0 st l u → Imp (seineref1_vars_l1T v0 st) (seineref1_vars_l1 O loopLim l u) (StepR (seineref1_vars_l1R v0) (seineref1_vars_l1X v0)) := by
  rintro ⟨out_10, i_11⟩ l u ⟨rfl, rfl⟩
  simp only [seineref1_vars_l1T, seineref1_vars_l1]
  refine Imp.chk rfl (Imp.chk rfl ?_)
  try simp only [evs, tys]
  refine Imp.cnd ?_ ?_
  · refine Imp.cnd ?_ ?_
    · refine Imp.op (f := fun a => .ref (encValue a)) (fun a h => op_ix (enc := encValue) (by first | rfl | simp only [evs, tys, evl]) ⟨by first | rfl | simp only [evs, tys, evc], by decide⟩ h) (fun a => chk_GValue a) fun y13 hy13 => ?_
      try simp only [evs, tys]
      refine Imp.call (f := seineref1_varsE) rfl (fun a h => by first | exact seineref1_vars_spec h | simpa only [evs, tys, evl] using seineref1_vars_spec h) (fun a => by first | rfl | simp only [seineref1_varsE, evk, chks]) fun y15 hy15 => ?_
      try simp only [seineref1_varsE, evs, tys]
      exact Imp.some (StepR.next ⟨by first | rfl | simp only [evs, tys, evl], rfl⟩)
    · exact Imp.some (StepR.brk ⟨i_11, by first | rfl | simp only [evs, tys, evl, elim_inl, elim_inr]⟩)
  · exact Imp.some (StepR.brk ⟨i_11, by first | rfl | simp only [evs, tys, evl, elim_inl, elim_inr]⟩)
theorem seineref1_vars_l2_ok (v0 : GValue) : ∀ st l u, seineref1_vars_l2R v0 st l u → Imp (seineref1_vars_l2T v0 st) (seineref1_vars_l2 O loopLim l u) (StepR (seineref1_vars_l2R v0) (seineref1_vars_l2X v0)) := by
  rintro ⟨out_24, i_25⟩ l u ⟨rfl, rfl⟩
  simp only [seineref1_vars_l2T, seineref1_vars_l2]
  refine Imp.chk rfl (Imp.chk rfl ?_)
  try simp only [evs, tys]
  refine Imp.cnd ?_ ?_
  · refine Imp.cnd ?_ ?_
    · refine Imp.op (f := fun a => .ref (encMember a)) (fun a h => op_ix (enc := encMember) (by first | rfl | simp only [evs, tys, evl]) ⟨by first | rfl | simp only [evs, tys, evc], by decide⟩ h) (fun a => chk_GMember a) fun y27 hy27 => ?_
      try simp only [evs, tys]
      refine Imp.call (f := seineref1_varsE) rfl (fun a h => by first | exact seineref1_vars_spec h | simpa only [evs, tys, evl] using seineref1_vars_spec h) (fun a => by first | rfl | simp only [seineref1_varsE, evk, chks]) fun y29 hy29 => ?_
      try simp only [seineref1_varsE, evs, tys]
      exact Imp.some (StepR.next ⟨by first | rfl | simp only [evs, tys, evl], rfl⟩)
    · exact Imp.some (StepR.brk ⟨i_25, by first | rfl | simp only [evs, tys, evl, elim_inl, elim_inr]⟩)
  · exact Imp.some (StepR.brk ⟨i_25, by first | rfl | simp only [evs, tys, evl, elim_inl, elim_inr]⟩)
theorem seineref1_vars_l3_ok (v0 : GValue) : ∀ st l u, seineref1_vars_l3R v0 st l u → Imp (seineref1_vars_l3T v0 st) (seineref1_vars_l3 O loopLim l u) (StepR (seineref1_vars_l3R v0) (seineref1_vars_l3X v0)) := by
  rintro ⟨out_38, i_39⟩ l u ⟨rfl, rfl⟩
  simp only [seineref1_vars_l3T, seineref1_vars_l3]
  refine Imp.chk rfl (Imp.chk rfl ?_)
  try simp only [evs, tys]
  refine Imp.cnd ?_ ?_
  · refine Imp.cnd ?_ ?_
    · refine Imp.op (f := fun a => .ref (encValue a)) (fun a h => op_ix (enc := encValue) (by first | rfl | simp only [evs, tys, evl]) ⟨by first | rfl | simp only [evs, tys, evc], by decide⟩ h) (fun a => chk_GValue a) fun y41 hy41 => ?_
      try simp only [evs, tys]
      refine Imp.call (f := seineref1_varsE) rfl (fun a h => by first | exact seineref1_vars_spec h | simpa only [evs, tys, evl] using seineref1_vars_spec h) (fun a => by first | rfl | simp only [seineref1_varsE, evk, chks]) fun y43 hy43 => ?_
      try simp only [seineref1_varsE, evs, tys]
      exact Imp.some (StepR.next ⟨by first | rfl | simp only [evs, tys, evl], rfl⟩)
    · exact Imp.some (StepR.brk ⟨i_39, by first | rfl | simp only [evs, tys, evl, elim_inl, elim_inr]⟩)
  · exact Imp.some (StepR.brk ⟨i_39, by first | rfl | simp only [evs, tys, evl, elim_inl, elim_inr]⟩)
theorem seineref1_vars_l4_ok (v0 : GValue) : ∀ st l u, seineref1_vars_l4R v0 st l u → Imp (seineref1_vars_l4T v0 st) (seineref1_vars_l4 O loopLim l u) (StepR (seineref1_vars_l4R v0) (seineref1_vars_l4X v0)) := by
  rintro ⟨out_52, i_53⟩ l u ⟨rfl, rfl⟩
  simp only [seineref1_vars_l4T, seineref1_vars_l4]
  refine Imp.chk rfl (Imp.chk rfl ?_)
  try simp only [evs, tys]
  refine Imp.cnd ?_ ?_
  · refine Imp.cnd ?_ ?_
    · refine Imp.op (f := fun a => .ref (encMember a)) (fun a h => op_ix (enc := encMember) (by first | rfl | simp only [evs, tys, evl]) ⟨by first | rfl | simp only [evs, tys, evc], by decide⟩ h) (fun a => chk_GMember a) fun y55 hy55 => ?_
      try simp only [evs, tys]
      refine Imp.call (f := seineref1_varsE) rfl (fun a h => by first | exact seineref1_vars_spec h | simpa only [evs, tys, evl] using seineref1_vars_spec h) (fun a => by first | rfl | simp only [seineref1_varsE, evk, chks]) fun y57 hy57 => ?_
      try simp only [seineref1_varsE, evs, tys]
      exact Imp.some (StepR.next ⟨by first | rfl | simp only [evs, tys, evl], rfl⟩)
    · exact Imp.some (StepR.brk ⟨i_53, by first | rfl | simp only [evs, tys, evl, elim_inl, elim_inr]⟩)
  · exact Imp.some (StepR.brk ⟨i_53, by first | rfl | simp only [evs, tys, evl, elim_inl, elim_inr]⟩)
theorem seineref1_vars_l5_ok (v0 : GValue) : ∀ st l u, seineref1_vars_l5R v0 st l u → Imp (seineref1_vars_l5T v0 st) (seineref1_vars_l5 O loopLim l u) (StepR (seineref1_vars_l5R v0) (seineref1_vars_l5X v0)) := by
  rintro ⟨out_66, i_67⟩ l u ⟨rfl, rfl⟩
  simp only [seineref1_vars_l5T, seineref1_vars_l5]
  refine Imp.chk rfl (Imp.chk rfl ?_)
  try simp only [evs, tys]
  refine Imp.cnd ?_ ?_
  · refine Imp.cnd ?_ ?_
    · refine Imp.op (f := fun a => .ref (encValue a)) (fun a h => op_ix (enc := encValue) (by first | rfl | simp only [evs, tys, evl]) ⟨by first | rfl | simp only [evs, tys, evc], by decide⟩ h) (fun a => chk_GValue a) fun y69 hy69 => ?_
      try simp only [evs, tys]
      refine Imp.call (f := seineref1_varsE) rfl (fun a h => by first | exact seineref1_vars_spec h | simpa only [evs, tys, evl] using seineref1_vars_spec h) (fun a => by first | rfl | simp only [seineref1_varsE, evk, chks]) fun y71 hy71 => ?_
      try simp only [seineref1_varsE, evs, tys]
      exact Imp.some (StepR.next ⟨by first | rfl | simp only [evs, tys, evl], rfl⟩)
    · exact Imp.some (StepR.brk ⟨i_67, by first | rfl | simp only [evs, tys, evl, elim_inl, elim_inr]⟩)
  · exact Imp.some (StepR.brk ⟨i_67, by first | rfl | simp only [evs, tys, evl, elim_inl, elim_inr]⟩)
theorem seineref1_vars_l6_ok (v0 : GValue) : ∀ st l u, seineref1_vars_l6R v0 st l u → Imp (seineref1_vars_l6T v0 st) (seineref1_vars_l6 O loopLim l u) (StepR (seineref1_vars_l6R v0) (seineref1_vars_l6X v0)) := by
  rintro ⟨out_80, i_81⟩ l u ⟨rfl, rfl⟩
  simp only [seineref1_vars_l6T, seineref1_vars_l6]
  refine Imp.chk rfl (Imp.chk rfl ?_)
  try simp only [evs, tys]
  refine Imp.cnd ?_ ?_
  · refine Imp.cnd ?_ ?_
    · refine Imp.op (f := fun a => .ref (encMember a)) (fun a h => op_ix (enc := encMember) (by first | rfl | simp only [evs, tys, evl]) ⟨by first | rfl | simp only [evs, tys, evc], by decide⟩ h) (fun a => chk_GMember a) fun y83 hy83 => ?_
      try simp only [evs, tys]
      refine Imp.call (f := seineref1_varsE) rfl (fun a h => by first | exact seineref1_vars_spec h | simpa only [evs, tys, evl] using seineref1_vars_spec h) (fun a => by first | rfl | simp only [seineref1_varsE, evk, chks]) fun y85 hy85 => ?_
      try simp only [seineref1_varsE, evs, tys]
      exact Imp.some (StepR.next ⟨by first | rfl | simp only [evs, tys, evl], rfl⟩)
    · exact Imp.some (StepR.brk ⟨i_81, by first | rfl | simp only [evs, tys, evl, elim_inl, elim_inr]⟩)
  · exact Imp.some (StepR.brk ⟨i_81, by first | rfl | simp only [evs, tys, evl, elim_inl, elim_inr]⟩)
theorem seineref1_vars_imp (v0 : GValue) (out0 : List Str) : Imp (seineref1_vars_B v0 out0) (seineref1_vars_T1 O loopLim v0 out0) (fun r v => v = (seineref1_varsE r, [])) := by
  simp only [seineref1_vars_B, seineref1_vars_T1]
  try simp only [evs, tys]
  refine Imp.cnd ?_ ?_
  · refine Imp.call (f := seineref1_HasE) rfl (fun a h => by first | exact seineref1_Has_spec h | simpa only [evs, tys, evl] using seineref1_Has_spec h) (fun a => by first | rfl | simp only [seineref1_HasE, evk, chks]) fun y2 hy2 => ?_
    try simp only [seineref1_HasE, evs, tys]
    refine Imp.cnd ?_ ?_
    · refine Imp.op (f := fun a => .slice (List.map PV.str a) [] true) (fun a h => op_apd (enc := PV.str) (by first | rfl | simp only [evs, tys, evl]) (by first | rfl | simp only [evs, tys, evl]) (fun a => by first | rfl | simp only [evs, tys, evc]) h) (fun a => rfl) fun y4 hy4 => ?_
      try simp only [evs, tys]
      refine Imp.bnd (Imp.loop (seineref1_vars_l1_ok v0) ⟨by first | rfl | simp only [evs, tys, evl], rfl⟩) ?_
      rintro out_16 vy18 hy18
      obtain ⟨i_17, rfl⟩ := hy18
      refine Imp.exHit rfl (Imp.chk rfl (Imp.chk rfl ?_))
      try simp only [evs, tys]
      refine Imp.bnd (Imp.loop (seineref1_vars_l2_ok v0) ⟨by first | rfl | simp only [evs, tys, evl], rfl⟩) ?_
      rintro out_30 vy32 hy32
      obtain ⟨i_31, rfl⟩ := hy32
      refine Imp.exHit rfl (Imp.chk rfl (Imp.chk rfl ?_))
      try simp only [evs, tys]
      exact Imp.some (by first | rfl | simp only [seineref1_varsE, evs, tys, evl])
    · refine Imp.bnd (Imp.loop (seineref1_vars_l3_ok v0) ⟨by first | rfl | simp only [evs, tys, evl], rfl⟩) ?_
      rintro out_44 vy46 hy46
      obtain ⟨i_45, rfl⟩ := hy46
      refine Imp.exHit rfl (Imp.chk rfl (Imp.chk rfl ?_))
      try simp only [evs, tys]
      refine Imp.bnd (Imp.loop (seineref1_vars_l4_ok v0) ⟨by first | rfl | simp only [evs, tys, evl], rfl⟩) ?_
      rintro out_58 vy60 hy60
      obtain ⟨i_59, rfl⟩ := hy60
      refine Imp.exHit rfl (Imp.chk rfl (Imp.chk rfl ?_))
      try simp only [evs, tys]
      exact Imp.some (by first | rfl | simp only [seineref1_varsE, evs, tys, evl])
  · refine Imp.bnd (Imp.loop (seineref1_vars_l5_ok v0) ⟨by first | rfl | simp only [evs, tys, evl], rfl⟩) ?_
    rintro out_72 vy74 hy74
    obtain ⟨i_73, rfl⟩ := hy74
    refine Imp.exHit rfl (Imp.chk rfl (Imp.chk rfl ?_))
    try simp only [evs, tys]
    refine Imp.bnd (Imp.loop (seineref1_vars_l6_ok v0) ⟨by first | rfl | simp only [evs, tys, evl], rfl⟩) ?_
    rintro out_86 vy88 hy88
    obtain ⟨i_87, rfl⟩ := hy88
    refine Imp.exHit rfl (Imp.chk rfl (Imp.chk rfl ?_))
    try simp only [evs, tys]
    exact Imp.some (by first | rfl | simp only [seineref1_varsE, evs, tys, evl])
theorem seineref1_vars_run {v0 : GValue} {out0 : List Str} {r : List Str} (h : seineref1_vars_B v0 out0 = some r) : seineref1_vars v0 out0 = some r := by
  obtain ⟨v, hv, rfl⟩ := seineref1_vars_imp v0 out0 r h
  exact tO_of (pair_inj seineref1_varsEj) (OL_runD seineref1_vars_ds rfl rfl Try.func56 ((seineref1_vars_t1 _ _ v0 out0).trans hv))
end Go.Proofs.Ytphmfillajagdaa

/-
  What is answered from outside: contracts of the library's functions, laid at this program by the kit's tools.
-/
set_option linter.unusedVariables false
set_option linter.unusedSimpArgs false
open Go Go.Ev Go.Ev.PV
open Go.Shelf Go.RowKit
namespace Go.Proofs.Ytphmfillajagdaa
def GM : Mem := fun _ _ => none

def Try.laysIns_ren : Go.Shelf.Ren := ⟨fun | 22 => 55 | 29 => 59 | 30 => 60 | 36 => 63 | 17 => 64 | n => n, fun | 24 => 33 | 9 => 9 | 3 => 3 | 4 => 4 | 0 => 0 | n => n, fun | n => n⟩

theorem Try.laysIns : Go.Proofs.Lays2.n22 Try.prog Try.laysIns_ren := {
  mixed := by kernel_rfl
  f17 := Try.func64.trans (congrArg some (by kernel_rfl))
  f22 := Try.func55.trans (congrArg some (by kernel_rfl))
  f29 := Try.func59.trans (congrArg some (by kernel_rfl))
  f30 := Try.func60.trans (congrArg some (by kernel_rfl))
  f36 := Try.func63.trans (congrArg some (by kernel_rfl))
  t0 := Try.underlying0
  a0 := Try.isAgg0
  z0 := Try.sizeOf0
  v0 := Try.zeroValue0
  t3 := Try.underlying3
  a3 := Try.isAgg3
  z3 := Try.sizeOf3
  v3 := Try.zeroValue3
  t4 := Try.underlying4
  a4 := Try.isAgg4
  z4 := Try.sizeOf4
  v4 := Try.zeroValue4
  t9 := Try.underlying9
  a9 := Try.isAgg9
  z9 := Try.sizeOf9
  v9 := Try.zeroValue9
  t24 := Try.underlying33
  a24 := Try.isAgg33
  z24 := Try.sizeOf33
  v24 := Try.zeroValue33
  i9 := by kernel_rfl }

theorem insS_split (s : Str) : ∀ (l : List Str) (m : Nat), m ≤ l.length → (∀ (j : Nat) (x : Str), j < m → l[j]? = some x → Op.bytesLess x s = true) →
    (m = l.length → insS l s = insL l m s) ∧ ∀ x, l[m]? = some x → Op.bytesLess x s = false → insS l s = if x = s then l else insL l m s
  | [], m, hm, _ => by
    have : m = 0 := by simpa using hm
    subst this
    exact ⟨fun _ => rfl, fun x hx => by simp at hx⟩
  | y :: l, 0, _, _ => by
    refine ⟨fun h => by simp at h, fun x hx hless => ?_⟩
    simp at hx; subst hx
    simp only [insS, hless, Bool.false_eq_true, if_false]
    rfl
  | y :: l, m + 1, hm, h => by
    have hy := h 0 y (by omega) rfl
    obtain ⟨h1, h2⟩ := insS_split s l m (by simpa using hm) (fun j x hj hx => h (j + 1) x (by omega) (by simpa using hx))
    have e : ∀ z, insL (y :: l) (m + 1) z = y :: insL l m z := fun z => rfl
    simp only [insS, hy, if_true]
    refine ⟨fun hl => by rw [h1 (by simpa using hl), e], fun x hx hless => ?_⟩
    rw [h2 x (by simpa using hx) hless]
    split
    · rfl
    · rw [e]
theorem insL_map {α β : Type} (f : α → β) (l : List α) (i : Nat) (x : α) : (insL l i x).map f = insL (l.map f) i (f x) := by
  unfold insL; rw [List.map_append, List.map_cons, List.map_take, List.map_drop]
set_option maxHeartbeats 4000000 in
set_option maxRecDepth 100000 in
theorem insert_walk (b c : Nat) (l : List Str) (s : Str) (w : World) (hne : l ≠ []) (hn : l.length < lim) (hc : l.length ≤ c) (hc63 : c ≤ 9223372036854775807)
    (hrow : ∃ arr T fz, w.heap[b]? = some (.cells arr T fz) ∧ c ≤ arr.size ∧ (∀ i, i < c → ¬ (fz.1 ≤ i ∧ i < fz.2)) ∧ ∀ (j : Nat) (v : Value), (l.map sVal)[j]? = some v → arr[j]? = some v) :
    Calls Try.prog 45 #[.slice (some ⟨b, 0, none⟩) l.length c, sVal s] w fun e w' => ∃ v', e = .returned v' ∧ InsPost w b ((insS l s).map sVal) v' w' := by
  obtain ⟨n, hln⟩ : ∃ n, l.length = n := ⟨_, rfl⟩
  have hn' : n < 274877906944 := by have : l.length < 274877906944 := hn; omega
  have hpos : 0 < n := by rw [← hln]; exact List.length_pos_iff.2 hne
  rw [hln] at hc ⊢
  have hins : ∀ m, m ≤ n → Calls Try.prog 55 #[.slice (some ⟨b, 0, none⟩) n c, .int .i64 m, .slice (some ⟨w.heap.size, 0, none⟩) 1 1] (w.alloc (.cells #[sVal s] 9)) fun e w' => ∃ v', e = .returned v' ∧ InsPost w b (insL (l.map sVal) m (sVal s)) v' w' := by
    intro m hm
    exact insert_one Try.laysIns b n c m (l.map sVal) (sVal s) 9 w hm (by rw [List.length_map]; exact hln) hc (by omega) hc63 hpos hrow (by
      intro v hv
      obtain ⟨x, _, rfl⟩ := List.mem_map.1 hv
      rfl) rfl
  have hcell : ∀ (j : Nat) (x : Str), l[j]? = some x → w.cell? ⟨b, j, none⟩ = some (sVal x) := by
    obtain ⟨arr, T, fz, h1, h2, h3, h4⟩ := hrow
    intro j x hx
    have := h4 j (sVal x) (by rw [List.getElem?_map, hx]; rfl)
    simp [World.cell?, h1, this]
  have hsplit := fun m (hm : m ≤ n) h => insS_split s l m (by omega) h
  have hsame : InsPost w b (l.map sVal) (.slice (some ⟨b, 0, none⟩) n c) w := by
    obtain ⟨arr, T, fz, h1, h2, h3, h4⟩ := hrow
    exact ⟨⟨b, c, by rw [List.length_map, hln], by rw [List.length_map]; omega, hc63, .inl rfl, arr, T, fz, h1, h2, h3, h4⟩, fun _ _ _ => rfl, Nat.le_refl _, rfl, rfl, rfl⟩
  clear hrow
  unfold sVal at hins hcell ⊢
  go_enter Try.func45, Try.ntmps45
  go_wp2
  go_step3
  go_wp2
  go_step3
  go_wp2
  go_loop [5, 6, 7, 10] (fun a i t k => ∃ m : Nat, m ≤ n ∧ a = .int .i64 m ∧ k = .int .i64 m ∧ ∀ (j : Nat) (x : Str), j < m → l[j]? = some x → Op.bytesLess x s = true) (fun _ _ _ k => n - (RowKit.intOf k).toNat)
  case atStart => exact ⟨0, Nat.zero_le _, rfl, rfl, fun j x hj => absurd hj (Nat.not_lt_zero _)⟩
  case round =>
    obtain ⟨m, hm, rfl, rfl, hless⟩ := hrel
    obtain ⟨x, hx⟩ : ∃ x, m < n → l[m]? = some x := by
      by_cases h : m < n
      · exact ⟨l[m]'(by omega), fun _ => List.getElem?_eq_getElem (by omega)⟩
      · exact ⟨[], fun h' => absurd h' h⟩
    have hcell' : m < n → w.cell? ⟨b, m, none⟩ = some (.string ⟨x.toArray⟩) := fun h => hcell m x (hx h)
    have hins' := hins m hm
    clear hins hcell
    go_wp2_with (go_at_fn 55; fail)
    · go_round
      case rel =>
        have hlt : m < n := by assumption
        have hb : Op.bytesLess x s = true := by assumption
        refine ⟨m + 1, by omega, by go_num, by go_num, fun j y hj hy => ?_⟩
        rcases Nat.lt_or_ge j m with h | h
        · exact hless j y h hy
        · obtain rfl : j = m := by omega
          rw [hx hlt] at hy
          cases hy
          exact hb
      case measure => simp [RowKit.intOf]; omega
    · have hlt : m < n := by assumption
      have hb : Op.bytesLess x s = false := by assumption
      have he : (x == s) = true := by assumption
      go_ret
      refine ⟨_, rfl, ?_⟩
      have := (hsplit m hm hless).2 x (hx hlt) hb
      rw [if_pos (eq_of_beq he)] at this
      rw [this]
      exact hsame
    · have hlt : m < n := by assumption
      have hb : Op.bytesLess x s = false := by assumption
      have he : (x == s) = false := by assumption
      have hfin := (hsplit m hm hless).2 x (hx hlt) hb
      rw [if_neg (by simpa using he)] at hfin
      refine hins'.mono ?_
      rintro e w' ⟨v', rfl, hpost⟩
      go_wp2
      rw [Exit.noGoto_ret]
      go_ret
      refine ⟨_, rfl, ?_⟩
      rw [hfin, insL_map]
      exact hpost
    · have hge : ¬ m < n := by assumption
      have hfin := (hsplit m hm hless).1 (by omega)
      refine hins'.mono ?_
      rintro e w' ⟨v', rfl, hpost⟩
      go_wp2
      rw [Exit.noGoto_ret]
      go_ret
      refine ⟨_, rfl, ?_⟩
      rw [hfin, insL_map]
      exact hpost
set_option maxHeartbeats 4000000 in
set_option maxRecDepth 100000 in
theorem insert_walk0 (oa : Option Addr) (b : Nat) (s : Str) (w : World) :
    Calls Try.prog 45 #[.slice oa 0 0, sVal s] w fun e w' => ∃ v', e = .returned v' ∧ InsPost w b [sVal s] v' w' := by
  have hins := insert_nil Try.laysIns oa b (sVal s) 9 w rfl
  have hins : Calls Try.prog 55 #[.slice oa 0 0, .int .i64 0, .slice (some ⟨w.heap.size, 0, none⟩) 1 1] (w.alloc (.cells #[sVal s] 9)) fun e w' => ∃ v', e = .returned v' ∧ InsPost w b [sVal s] v' w' := hins
  unfold sVal at hins ⊢
  go_enter Try.func45, Try.ntmps45
  go_wp2
  go_step3
  go_wp2
  go_step3
  go_wp2
  refine wp_loop_rounds 1 ?_; rw [rounds_succ]; go_wp2_with (go_at_fn 55; fail)
  refine hins.mono ?_
  rintro e w' ⟨v', rfl, hpost⟩
  go_wp2
  rw [Exit.noGoto_ret]
  go_ret
  exact ⟨_, rfl, hpost⟩
theorem xok_insert : ∀ args up r up', xInsert args up = some (r, up') → ∀ (n : Nat) w M B vals, CallPre ⟨n, GM⟩ M B args up vals w → Invokes Try.prog 45 vals w (CallPost ⟨n, GM⟩ M B args up vals w r up') :=
  xInsert_ok (fun _ _ => enters_of Try.func45 (by kernel_rfl) rfl _ _) insert_walk0 insert_walk
theorem xok : ExtOk Try.prog GM XT := by
  intro f g h
  unfold XT at h
  simp only [Go.Ev.look] at h
  split at h
  · rename_i e; subst e; cases h; exact xok_insert
  simp at h
end Go.Proofs.Ytphmfillajagdaa



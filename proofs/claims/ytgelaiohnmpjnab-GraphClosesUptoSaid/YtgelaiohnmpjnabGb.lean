import Derived.Test.YtgelaiohnmpjnabGa
set_option linter.unusedVariables false
set_option linter.unusedSimpArgs false
/- Printed by symgen.py: typed functions of this seat, and why they tell what the program does. -/
set_option linter.unusedVariables false
set_option linter.unusedSimpArgs false
open Go Go.Ev Go.Ev.PV
namespace Go.Proofs.Ytgelaiohnmpjnab
def seinelaw13_GraphJoins_l1 (O : Orc) (LP : LBody → LBody) : LBody := fun s19 s19u => cnd (chkL [.bool, (.sl false), (.sl false), (.sl false), (.int .i64), (.sl false), (.sl false)] s19) (cnd (chkU [] s19u)
  (cnd (decide ((intV (gt s19 4)) < (List.length (esV (gt s19 3)) : Int)))
   (bnd (ix 1 (.slice (esV (gt s19 3)) [] false) (.int .i64 (intV (gt s19 4)))) fun x29 => cnd (chk (.ref .str) x29)
   (callp O 12 [(.slice (esV (gt s19 1)) [] false), (.str (strV (refV x29)))] fun x31 => cnd (chk .bool x31)
   (cnd (!(boolV x31))
    (bnd (ix 1 (.slice (esV (gt s19 3)) [] false) (.int .i64 (intV (gt s19 4)))) fun x33 => cnd (chk (.ref .str) x33)
    (callp O 12 [(.slice (esV (gt s19 2)) [] false), (.str (strV (refV x33)))] fun x35 => cnd (chk .bool x35)
    (cnd (!(boolV x35))
     (some (.ret, [(.bool false), (.slice (esV (gt s19 1)) [] false), (.slice (esV (gt s19 2)) [] false), (.slice (esV (gt s19 3)) [] false), (.int .i64 (intV (gt s19 4))), (.slice (esV (gt s19 5)) [] false), (.slice (esV (gt s19 6)) [] false)], []))
     (some (.nrm, [(.bool (boolV (gt s19 0))), (.slice (esV (gt s19 1)) [] false), (.slice (esV (gt s19 2)) [] false), (.slice (esV (gt s19 3)) [] false), (.int .i64 (IntKind.wrap .i64 ((intV (gt s19 4)) + 1))), (.slice (esV (gt s19 5)) [] false), (.slice (esV (gt s19 6)) [] false)], []))) none) none)
    (some (.nrm, [(.bool (boolV (gt s19 0))), (.slice (esV (gt s19 1)) [] false), (.slice (esV (gt s19 2)) [] false), (.slice (esV (gt s19 3)) [] false), (.int .i64 (IntKind.wrap .i64 ((intV (gt s19 4)) + 1))), (.slice (esV (gt s19 5)) [] false), (.slice (esV (gt s19 6)) [] false)], []))) none) none)
   (some (.brk 0, [(.bool (boolV (gt s19 0))), (.slice (esV (gt s19 1)) [] false), (.slice (esV (gt s19 2)) [] false), (.slice (esV (gt s19 3)) [] false), (.int .i64 (intV (gt s19 4))), (.slice (esV (gt s19 5)) [] false), (.slice (esV (gt s19 6)) [] false)], []))) none) none
def seinelaw13_GraphJoins_l2 (O : Orc) (LP : LBody → LBody) : LBody := fun s40 s40u => cnd (chkL [(.sl false), (.sl false), (.sl false), (.int .i64), (.int .i64), (.sl false), (.sl false)] s40) (cnd (chkU [] s40u)
  (cnd (decide ((intV (gt s40 4)) < (List.length (esV (gt s40 1)) : Int)))
   (bnd (ix 1 (.slice (esV (gt s40 1)) [] false) (.int .i64 (intV (gt s40 4)))) fun x47 => cnd (chk (.ref .str) x47)
   (callp O 12 [(.slice (esV (gt s40 0)) [] false), (.str (strV (refV x47)))] fun x49 => cnd (chk .bool x49)
   (cnd (!(boolV x49))
    (some (.nrm, [(.slice (esV (gt s40 0)) [] false), (.slice (esV (gt s40 1)) [] false), (.slice (esV (gt s40 2)) [] false), (.int .i64 (IntKind.wrap .i64 ((intV (gt s40 3)) + 1))), (.int .i64 (IntKind.wrap .i64 ((intV (gt s40 4)) + 1))), (.slice (esV (gt s40 5)) [] false), (.slice (esV (gt s40 6)) [] false)], []))
    (some (.nrm, [(.slice (esV (gt s40 0)) [] false), (.slice (esV (gt s40 1)) [] false), (.slice (esV (gt s40 2)) [] false), (.int .i64 (intV (gt s40 3))), (.int .i64 (IntKind.wrap .i64 ((intV (gt s40 4)) + 1))), (.slice (esV (gt s40 5)) [] false), (.slice (esV (gt s40 6)) [] false)], []))) none) none)
   (some (.brk 2, [(.slice (esV (gt s40 0)) [] false), (.slice (esV (gt s40 1)) [] false), (.slice (esV (gt s40 2)) [] false), (.int .i64 (intV (gt s40 3))), (.int .i64 (intV (gt s40 4))), (.slice (esV (gt s40 5)) [] false), (.slice (esV (gt s40 6)) [] false)], []))) none) none
def seinelaw13_GraphJoins_T1 (O : Orc) (LP : LBody → LBody) (d : GDoc) (l0 : List GSel) (m : List GSel) : Option (PV × UP) :=
  callp O 9 [(.agg [(.slice (List.map encOp d.ops) [] false), (.slice (List.map encFrag d.frags) [] false)])] fun x1 => cnd (chk .bool x1)
  (cnd (!(boolV x1))
   (callp O 10 [] fun x3 => cnd (chk .bool x3)
   (some ((.bool (boolV x3)), [])) none)
   (callp O 9 [(.agg [(.slice [] [] false), (.slice [(.agg [(.str []), (.str []), (.slice [] [] false), (.slice (List.map encSel l0) [] false)]), (.agg [(.str []), (.str []), (.slice [] [] false), (.slice (List.map encSel m) [] false)])] [] false)])] fun x5 => cnd (chk .bool x5)
   (cnd (!(boolV x5))
    (callp O 10 [] fun x7 => cnd (chk .bool x7)
    (some ((.bool (boolV x7)), [])) none)
    (callp O 11 [(.agg [(.slice (List.map encOp d.ops) [] false), (.slice (List.map encFrag d.frags) [] false)]), (.slice (List.map encSel l0) [] false)] fun x9 => cnd (chk (.sl false) x9)
    (callp O 11 [(.agg [(.slice (List.map encOp d.ops) [] false), (.slice (List.map encFrag d.frags) [] false)]), (.slice (List.map encSel m) [] false)] fun x11 => cnd (chk (.sl false) x11)
    (bnd (apd 7 (.slice [] [] true) (.slice (List.map encSel l0) [] false)) fun x13 => cnd (chk (.sl true) x13)
    (bnd (apd 7 (.slice (esV x13) [] true) (.slice (List.map encSel m) [] false)) fun x15 => cnd (chk (.sl true) x15)
    (callp O 11 [(.agg [(.slice (List.map encOp d.ops) [] false), (.slice (List.map encFrag d.frags) [] false)]), (.slice (esV x15) [] false)] fun x17 => cnd (chk (.sl false) x17)
    (bnd (LP (seinelaw13_GraphJoins_l1 O LP) [(.bool false), (.slice (esV x9) [] false), (.slice (esV x11) [] false), (.slice (esV x17) [] false), (.int .i64 0), (.slice (List.map encOp d.ops) [] false), (.slice (List.map encFrag d.frags) [] false)] []) fun y39 =>
    exIs y39.1 (some 0) (cnd (chkL [.bool, (.sl false), (.sl false), (.sl false), (.int .i64), (.sl false), (.sl false)] y39.2.1) (cnd (chkU [] y39.2.2)
     (bnd (LP (seinelaw13_GraphJoins_l2 O LP) [(.slice (esV (gt y39.2.1 1)) [] false), (.slice (esV (gt y39.2.1 2)) [] false), (.slice (esV (gt y39.2.1 3)) [] false), (.int .i64 0), (.int .i64 0), (.slice (esV (gt y39.2.1 5)) [] false), (.slice (esV (gt y39.2.1 6)) [] false)] []) fun y53 =>
     exIs y53.1 (some 2) (cnd (chkL [(.sl false), (.sl false), (.sl false), (.int .i64), (.int .i64), (.sl false), (.sl false)] y53.2.1) (cnd (chkU [] y53.2.2)
      (cnd ((List.length (esV (gt y53.2.1 2)) : Int) == (IntKind.wrap .i64 ((List.length (esV (gt y53.2.1 0)) : Int) + (intV (gt y53.2.1 3)))))
       (callp O 10 [] fun x54 => cnd (chk .bool x54)
       (some ((.bool (boolV x54)), [])) none)
       (some ((.bool false), []))) none) none)
     (none)) none) none)
    (exIs y39.1 none (cnd (chkL [.bool, (.sl false), (.sl false), (.sl false), (.int .i64), (.sl false), (.sl false)] y39.2.1) (cnd (chkU [] y39.2.2)
     (some ((.bool (boolV (gt y39.2.1 0))), [])) none) none)
    (none))) none) none) none) none) none)) none)) none
noncomputable def seinelaw13_GraphJoins_l1T (y10 : List Str) (y12 : List Str) (y18 : List Str) : Int → Option (Int ⊕ (Unit ⊕ Unit))
  | i_28 =>
  cnd (decide (i_28 < (List.length y18 : Int)))
   (bnd (nthI y18 i_28) fun y30 =>
   bnd (seineref1_Has y10 y30) fun y32 =>
   cnd (!y32)
    (bnd (nthI y18 i_28) fun y34 =>
    bnd (seineref1_Has y12 y34) fun y36 =>
    cnd (!y36)
     (some (.inr (.inr ())))
     (some (.inl (IntKind.wrap .i64 (i_28 + 1)))))
    (some (.inl (IntKind.wrap .i64 (i_28 + 1)))))
   (some (.inr (.inl ())))
abbrev seinelaw13_GraphJoins_l1R (d : GDoc) (y10 : List Str) (y12 : List Str) (y18 : List Str) (st : Int) (l : List PV) (u : UP) : Prop := l = [(.bool false), (.slice (List.map PV.str y10) [] false), (.slice (List.map PV.str y12) [] false), (.slice (List.map PV.str y18) [] false), (.int .i64 st), (.slice (List.map encOp d.ops) [] false), (.slice (List.map encFrag d.frags) [] false)] ∧ u = []
abbrev seinelaw13_GraphJoins_l1X (d : GDoc) (y10 : List Str) (y12 : List Str) (y18 : List Str) (p : Unit ⊕ Unit) (r : Ex × List PV × UP) : Prop := elim p (fun (p : Unit) => ∃ (i_37 : Int), r = (Ex.brk 0, [(.bool false), (.slice (List.map PV.str y10) [] false), (.slice (List.map PV.str y12) [] false), (.slice (List.map PV.str y18) [] false), (.int .i64 i_37), (.slice (List.map encOp d.ops) [] false), (.slice (List.map encFrag d.frags) [] false)], [])) (fun q2 => (fun (p : Unit) => ∃ (i_38 : Int), r = (Ex.ret, [(.bool false), (.slice (List.map PV.str y10) [] false), (.slice (List.map PV.str y12) [] false), (.slice (List.map PV.str y18) [] false), (.int .i64 i_38), (.slice (List.map encOp d.ops) [] false), (.slice (List.map encFrag d.frags) [] false)], [])) q2)
noncomputable def seinelaw13_GraphJoins_l2T (y10 : List Str) (y12 : List Str) : (Int × Int) → Option ((Int × Int) ⊕ Int)
  | (n_45, i_46) =>
  cnd (decide (i_46 < (List.length y12 : Int)))
   (bnd (nthI y12 i_46) fun y48 =>
   bnd (seineref1_Has y10 y48) fun y50 =>
   cnd (!y50)
    (some (.inl ((IntKind.wrap .i64 (n_45 + 1)), (IntKind.wrap .i64 (i_46 + 1)))))
    (some (.inl (n_45, (IntKind.wrap .i64 (i_46 + 1))))))
   (some (.inr n_45))
abbrev seinelaw13_GraphJoins_l2R (d : GDoc) (y10 : List Str) (y12 : List Str) (y18 : List Str) (st : Int × Int) (l : List PV) (u : UP) : Prop := l = [(.slice (List.map PV.str y10) [] false), (.slice (List.map PV.str y12) [] false), (.slice (List.map PV.str y18) [] false), (.int .i64 st.1), (.int .i64 st.2), (.slice (List.map encOp d.ops) [] false), (.slice (List.map encFrag d.frags) [] false)] ∧ u = []
abbrev seinelaw13_GraphJoins_l2X (d : GDoc) (y10 : List Str) (y12 : List Str) (y18 : List Str) (p : Int) (r : Ex × List PV × UP) : Prop := (fun (p : Int) => ∃ (i_52 : Int), r = (Ex.brk 2, [(.slice (List.map PV.str y10) [] false), (.slice (List.map PV.str y12) [] false), (.slice (List.map PV.str y18) [] false), (.int .i64 p), (.int .i64 i_52), (.slice (List.map encOp d.ops) [] false), (.slice (List.map encFrag d.frags) [] false)], [])) p
noncomputable def seinelaw13_GraphJoins_B (d : GDoc) (l0 : List GSel) (m : List GSel) : Option Bool :=
  bnd (seinelaw7_Light d) fun y2 =>
  cnd (!y2)
   (bnd (seinelaw13_awake) fun y4 =>
   some y4)
   (bnd (seinelaw7_Light (GDoc.mk ([] : List GOp) [(GFrag.mk [] [] ([] : List GDir) l0), (GFrag.mk [] [] ([] : List GDir) m)])) fun y6 =>
   cnd (!y6)
    (bnd (seinelaw13_awake) fun y8 =>
    some y8)
    (bnd (graph_Reach d l0) fun y10 =>
    bnd (graph_Reach d m) fun y12 =>
    bnd (tapp ([] : List GSel) l0) fun y14 =>
    bnd (tapp y14 m) fun y16 =>
    bnd (graph_Reach d y16) fun y18 =>
    bnd (tloop (seinelaw13_GraphJoins_l1T y10 y12 y18) 0) fun e39_2 => elim e39_2
    (fun p39 =>
     bnd (tloop (seinelaw13_GraphJoins_l2T y10 y12) (0, 0)) fun n_51 =>
     cnd ((List.length y18 : Int) == (IntKind.wrap .i64 ((List.length y10 : Int) + n_51)))
      (bnd (seinelaw13_awake) fun y55 =>
      some y55)
      (some false))
    (fun p39 =>
    some false)))
def seinelaw13_GraphJoins_ds : Decs := { decs := [(14, .bool), (23, .bool), (26, .bool), (29, (.sl false)), (32, (.sl false)), (35, (.sl true)), (37, (.sl true)), (38, (.sl false)), (48, (.ref .str)), (50, .bool), (56, (.ref .str)), (58, .bool), (70, (.ref .str)), (72, .bool), (84, .bool)], ups := [], loops := [(6, [(3, 2)], ⟨[.bool, (.sl false), (.sl false), (.sl false), (.int .i64), (.sl false), (.sl false)], [], [(some 0, [.bool, (.sl false), (.sl false), (.sl false), (.int .i64), (.sl false), (.sl false)], []), (none, [.bool, (.sl false), (.sl false), (.sl false), (.int .i64), (.sl false), (.sl false)], [])]⟩), (12, [(3, 2)], ⟨[(.sl false), (.sl false), (.sl false), (.int .i64), (.int .i64), (.sl false), (.sl false)], [], [(some 2, [(.sl false), (.sl false), (.sl false), (.int .i64), (.int .i64), (.sl false), (.sl false)], [])]⟩)] }
set_option maxRecDepth 100000 in
theorem seinelaw13_GraphJoins_t1 (O : Orc) (LP : LBody → LBody) (d : GDoc) (l0 : List GSel) (m : List GSel) : evalBodyD Try.prog (MT 3) seinelaw13_GraphJoins_ds Try.f3.ntmps O LP Try.f3 [(.agg [(.slice (List.map encOp d.ops) [] false), (.slice (List.map encFrag d.frags) [] false)]), (.slice (List.map encSel l0) [] false), (.slice (List.map encSel m) [] false)] [] = seinelaw13_GraphJoins_T1 O LP d l0 m := by kernel_rfl
theorem seinelaw13_GraphJoins_l1_ok (d : GDoc) (y10 : List Str) (y12 : List Str) (y18 : List Str) : ∀ st l u, seinelaw13_GraphJoins_l1R d y10 y12 y18 st l u → Imp (seinelaw13_GraphJoins_l1T y10 y12 y18 st) (seinelaw13_GraphJoins_l1 O loopLim l u) (StepR (seinelaw13_GraphJoins_l1R d y10 y12 y18) (seinelaw13_GraphJoins_l1X d y10 y12 y18)) := by
  rintro i_28 l u ⟨rfl, rfl⟩
  simp only [seinelaw13_GraphJoins_l1T, seinelaw13_GraphJoins_l1]
  refine Imp.chk rfl (Imp.chk rfl ?_)
  try simp only [evs, tys]
  refine Imp.cnd ?_ ?_
  · refine Imp.op (f := fun a => .ref (PV.str a)) (fun a h => op_ix (enc := PV.str) (by first | rfl | simp only [evs, tys, evl]) ⟨by first | rfl | simp only [evs, tys, evc], by decide⟩ h) (fun a => rfl) fun y30 hy30 => ?_
    try simp only [evs, tys]
    refine Imp.call (f := seineref1_HasE) rfl (fun a h => by first | exact seineref1_Has_spec h | simpa only [evs, tys, evl] using seineref1_Has_spec h) (fun a => by first | rfl | simp only [seineref1_HasE, evk, chks]) fun y32 hy32 => ?_
    try simp only [seineref1_HasE, evs, tys]
    refine Imp.cnd ?_ ?_
    · refine Imp.op (f := fun a => .ref (PV.str a)) (fun a h => op_ix (enc := PV.str) (by first | rfl | simp only [evs, tys, evl]) ⟨by first | rfl | simp only [evs, tys, evc], by decide⟩ h) (fun a => rfl) fun y34 hy34 => ?_
      try simp only [evs, tys]
      refine Imp.call (f := seineref1_HasE) rfl (fun a h => by first | exact seineref1_Has_spec h | simpa only [evs, tys, evl] using seineref1_Has_spec h) (fun a => by first | rfl | simp only [seineref1_HasE, evk, chks]) fun y36 hy36 => ?_
      try simp only [seineref1_HasE, evs, tys]
      refine Imp.cnd ?_ ?_
      · exact Imp.some (StepR.ret ⟨i_28, by first | rfl | simp only [evs, tys, evl, elim_inl, elim_inr]⟩)
      · exact Imp.some (StepR.next ⟨by first | rfl | simp only [evs, tys, evl], rfl⟩)
    · exact Imp.some (StepR.next ⟨by first | rfl | simp only [evs, tys, evl], rfl⟩)
  · exact Imp.some (StepR.brk ⟨i_28, by first | rfl | simp only [evs, tys, evl, elim_inl, elim_inr]⟩)
theorem seinelaw13_GraphJoins_l2_ok (d : GDoc) (y10 : List Str) (y12 : List Str) (y18 : List Str) : ∀ st l u, seinelaw13_GraphJoins_l2R d y10 y12 y18 st l u → Imp (seinelaw13_GraphJoins_l2T y10 y12 st) (seinelaw13_GraphJoins_l2 O loopLim l u) (StepR (seinelaw13_GraphJoins_l2R d y10 y12 y18) (seinelaw13_GraphJoins_l2X d y10 y12 y18)) := by
  rintro ⟨n_45, i_46⟩ l u ⟨rfl, rfl⟩
  simp only [seinelaw13_GraphJoins_l2T, seinelaw13_GraphJoins_l2]
  refine Imp.chk rfl (Imp.chk rfl ?_)
  try simp only [evs, tys]
  refine Imp.cnd ?_ ?_
  · refine Imp.op (f := fun a => .ref (PV.str a)) (fun a h => op_ix (enc := PV.str) (by first | rfl | simp only [evs, tys, evl]) ⟨by first | rfl | simp only [evs, tys, evc], by decide⟩ h) (fun a => rfl) fun y48 hy48 => ?_
    try simp only [evs, tys]
    refine Imp.call (f := seineref1_HasE) rfl (fun a h => by first | exact seineref1_Has_spec h | simpa only [evs, tys, evl] using seineref1_Has_spec h) (fun a => by first | rfl | simp only [seineref1_HasE, evk, chks]) fun y50 hy50 => ?_
    try simp only [seineref1_HasE, evs, tys]
    refine Imp.cnd ?_ ?_
    · exact Imp.some (StepR.next ⟨by first | rfl | simp only [evs, tys, evl], rfl⟩)
    · exact Imp.some (StepR.next ⟨by first | rfl | simp only [evs, tys, evl], rfl⟩)
  · exact Imp.some (StepR.brk ⟨i_46, by first | rfl | simp only [evs, tys, evl, elim_inl, elim_inr]⟩)
theorem seinelaw13_GraphJoins_imp (d : GDoc) (l0 : List GSel) (m : List GSel) : Imp (seinelaw13_GraphJoins_B d l0 m) (seinelaw13_GraphJoins_T1 O loopLim d l0 m) (fun r v => v = (seinelaw13_GraphJoinsE r, [])) := by
  simp only [seinelaw13_GraphJoins_B, seinelaw13_GraphJoins_T1]
  try simp only [evs, tys]
  refine Imp.call (f := seinelaw7_LightE) rfl (fun a h => by first | exact seinelaw7_Light_spec h | simpa only [evs, tys, evl] using seinelaw7_Light_spec h) (fun a => by first | rfl | simp only [seinelaw7_LightE, evk, chks]) fun y2 hy2 => ?_
  try simp only [seinelaw7_LightE, evs, tys]
  refine Imp.cnd ?_ ?_
  · refine Imp.call (f := seinelaw13_awakeE) rfl (fun a h => by first | exact seinelaw13_awake_spec h | simpa only [evs, tys, evl] using seinelaw13_awake_spec h) (fun a => by first | rfl | simp only [seinelaw13_awakeE, evk, chks]) fun y4 hy4 => ?_
    try simp only [seinelaw13_awakeE, evs, tys]
    exact Imp.some (by first | rfl | simp only [seinelaw13_GraphJoinsE, evs, tys, evl])
  · refine Imp.call (f := seinelaw7_LightE) rfl (fun a h => by first | exact seinelaw7_Light_spec h | simpa only [evs, tys, evl] using seinelaw7_Light_spec h) (fun a => by first | rfl | simp only [seinelaw7_LightE, evk, chks]) fun y6 hy6 => ?_
    try simp only [seinelaw7_LightE, evs, tys]
    refine Imp.cnd ?_ ?_
    · refine Imp.call (f := seinelaw13_awakeE) rfl (fun a h => by first | exact seinelaw13_awake_spec h | simpa only [evs, tys, evl] using seinelaw13_awake_spec h) (fun a => by first | rfl | simp only [seinelaw13_awakeE, evk, chks]) fun y8 hy8 => ?_
      try simp only [seinelaw13_awakeE, evs, tys]
      exact Imp.some (by first | rfl | simp only [seinelaw13_GraphJoinsE, evs, tys, evl])
    · refine Imp.call (f := graph_ReachE) rfl (fun a h => by first | exact graph_Reach_spec h | simpa only [evs, tys, evl] using graph_Reach_spec h) (fun a => by first | rfl | simp only [graph_ReachE, evk, chks]) fun y10 hy10 => ?_
      try simp only [graph_ReachE, evs, tys]
      refine Imp.call (f := graph_ReachE) rfl (fun a h => by first | exact graph_Reach_spec h | simpa only [evs, tys, evl] using graph_Reach_spec h) (fun a => by first | rfl | simp only [graph_ReachE, evk, chks]) fun y12 hy12 => ?_
      try simp only [graph_ReachE, evs, tys]
      refine Imp.op (f := fun a => .slice (List.map encSel a) [] true) (fun a h => op_apd (enc := encSel) (by first | rfl | simp only [evs, tys, evl]) (by first | rfl | simp only [evs, tys, evl]) (fun a => by first | rfl | simp only [evs, tys, evc]) h) (fun a => rfl) fun y14 hy14 => ?_
      try simp only [evs, tys]
      refine Imp.op (f := fun a => .slice (List.map encSel a) [] true) (fun a h => op_apd (enc := encSel) (by first | rfl | simp only [evs, tys, evl]) (by first | rfl | simp only [evs, tys, evl]) (fun a => by first | rfl | simp only [evs, tys, evc]) h) (fun a => rfl) fun y16 hy16 => ?_
      try simp only [evs, tys]
      refine Imp.call (f := graph_ReachE) rfl (fun a h => by first | exact graph_Reach_spec h | simpa only [evs, tys, evl] using graph_Reach_spec h) (fun a => by first | rfl | simp only [graph_ReachE, evk, chks]) fun y18 hy18 => ?_
      try simp only [graph_ReachE, evs, tys]
      refine Imp.bnd (Imp.loop (seinelaw13_GraphJoins_l1_ok d y10 y12 y18) ⟨by first | rfl | simp only [evs, tys, evl], rfl⟩) ?_
      rintro (p | p) vy39 hy39
      · try simp only [elim_inl, elim_inr]
        obtain ⟨i_37, rfl⟩ := hy39
        refine Imp.exHit rfl (Imp.chk rfl (Imp.chk rfl ?_))
        try simp only [evs, tys]
        refine Imp.bnd (Imp.loop (seinelaw13_GraphJoins_l2_ok d y10 y12 y18) ⟨by first | rfl | simp only [evs, tys, evl], rfl⟩) ?_
        rintro n_51 vy53 hy53
        obtain ⟨i_52, rfl⟩ := hy53
        refine Imp.exHit rfl (Imp.chk rfl (Imp.chk rfl ?_))
        try simp only [evs, tys]
        refine Imp.cnd ?_ ?_
        · refine Imp.call (f := seinelaw13_awakeE) rfl (fun a h => by first | exact seinelaw13_awake_spec h | simpa only [evs, tys, evl] using seinelaw13_awake_spec h) (fun a => by first | rfl | simp only [seinelaw13_awakeE, evk, chks]) fun y55 hy55 => ?_
          try simp only [seinelaw13_awakeE, evs, tys]
          exact Imp.some (by first | rfl | simp only [seinelaw13_GraphJoinsE, evs, tys, evl])
        · exact Imp.some (by first | rfl | simp only [seinelaw13_GraphJoinsE, evs, tys, evl])
      · try simp only [elim_inl, elim_inr]
        obtain ⟨i_38, rfl⟩ := hy39
        refine Imp.exMiss rfl ?_
        refine Imp.exHit rfl (Imp.chk rfl (Imp.chk rfl ?_))
        try simp only [evs, tys]
        exact Imp.some (by first | rfl | simp only [seinelaw13_GraphJoinsE, evs, tys, evl])
theorem seinelaw13_GraphJoins_run {d : GDoc} {l0 : List GSel} {m : List GSel} {r : Bool} (h : seinelaw13_GraphJoins_B d l0 m = some r) : seinelaw13_GraphJoins d l0 m = some r := by
  obtain ⟨v, hv, rfl⟩ := seinelaw13_GraphJoins_imp d l0 m r h
  exact tO_of (pair_inj seinelaw13_GraphJoinsEj) (OL_runD seinelaw13_GraphJoins_ds rfl rfl Try.func3 ((seinelaw13_GraphJoins_t1 _ _ d l0 m).trans hv))
end Go.Proofs.Ytgelaiohnmpjnab

/- Printed by symgen.py: typed functions of this seat, and why they tell what the program does. -/
set_option linter.unusedVariables false
set_option linter.unusedSimpArgs false
open Go Go.Ev Go.Ev.PV
namespace Go.Proofs.Ytgelaiohnmpjnab
def seinelaw13_GraphCloses_l1 (O : Orc) (LP : LBody → LBody) : LBody := fun s13 s13u => cnd (chkL [(.ptr 0 2 0), .bool, (.sl false), (.sl false), (.int .i64), (.sl false), (.sl false)] s13) (cnd (chkU [] s13u)
  (cnd (decide ((intV (gt s13 4)) < (List.length (esV (gt s13 3)) : Int)))
   (bnd (ix 1 (.slice (esV (gt s13 3)) [] false) (.int .i64 (intV (gt s13 4)))) fun x23 => cnd (chk (.ref .str) x23)
   (callp O 14 [(.agg [(.slice (esV (gt s13 5)) [] false), (.slice (esV (gt s13 6)) [] false)]), (.str (strV (refV x23)))] fun x25 => cnd (chk (.tup [shFrag, .bool]) x25)
   (bnd (ix 1 (.slice (esV (gt s13 3)) [] false) (.int .i64 (intV (gt s13 4)))) fun x27 => cnd (chk (.ref .str) x27)
   (callp O 12 [(.slice (esV (gt s13 2)) [] false), (.str (strV (refV x27)))] fun x29 => cnd (chk .bool x29)
   (cnd (!((boolV x29) == (boolV (gt (tupV x25) 1))))
    (some (.ret, [(.ptr 0 2 0), (.bool false), (.slice (esV (gt s13 2)) [] false), (.slice (esV (gt s13 3)) [] false), (.int .i64 (intV (gt s13 4))), (.slice (esV (gt s13 5)) [] false), (.slice (esV (gt s13 6)) [] false)], []))
    (some (.nrm, [(.ptr 0 2 0), (.bool (boolV (gt s13 1))), (.slice (esV (gt s13 2)) [] false), (.slice (esV (gt s13 3)) [] false), (.int .i64 (IntKind.wrap .i64 ((intV (gt s13 4)) + 1))), (.slice (esV (gt s13 5)) [] false), (.slice (esV (gt s13 6)) [] false)], []))) none) none) none) none)
   (some (.brk 0, [(.ptr 0 2 0), (.bool (boolV (gt s13 1))), (.slice (esV (gt s13 2)) [] false), (.slice (esV (gt s13 3)) [] false), (.int .i64 (intV (gt s13 4))), (.slice (esV (gt s13 5)) [] false), (.slice (esV (gt s13 6)) [] false)], []))) none) none
def seinelaw13_GraphCloses_l2 (O : Orc) (LP : LBody → LBody) : LBody := fun s61 s61u => cnd (chkL [(.ptr 0 2 0), .bool, (.sl false), (.int .i64), (.sl false), (.int .i64), .str, .str, (.sl false), (.sl false), (.sl false), (.sl false)] s61) (cnd (chkU [] s61u)
  (cnd (decide ((intV (gt s61 5)) < (List.length (esV (gt s61 4)) : Int)))
   (bnd (ix 1 (.slice (esV (gt s61 4)) [] false) (.int .i64 (intV (gt s61 5)))) fun x67 => cnd (chk (.ref .str) x67)
   (callp O 12 [(.slice (esV (gt s61 2)) [] false), (.str (strV (refV x67)))] fun x69 => cnd (chk .bool x69)
   (cnd (!(boolV x69))
    (some (.ret, [(.ptr 0 2 0), (.bool false), (.slice (esV (gt s61 2)) [] false), (.int .i64 (intV (gt s61 3))), (.slice (esV (gt s61 4)) [] false), (.int .i64 (intV (gt s61 5))), (.str (strV (gt s61 6))), (.str (strV (gt s61 7))), (.slice (esV (gt s61 8)) [] false), (.slice (esV (gt s61 9)) [] false), (.slice (esV (gt s61 10)) [] false), (.slice (esV (gt s61 11)) [] false)], []))
    (some (.nrm, [(.ptr 0 2 0), (.bool (boolV (gt s61 1))), (.slice (esV (gt s61 2)) [] false), (.int .i64 (intV (gt s61 3))), (.slice (esV (gt s61 4)) [] false), (.int .i64 (IntKind.wrap .i64 ((intV (gt s61 5)) + 1))), (.str (strV (gt s61 6))), (.str (strV (gt s61 7))), (.slice (esV (gt s61 8)) [] false), (.slice (esV (gt s61 9)) [] false), (.slice (esV (gt s61 10)) [] false), (.slice (esV (gt s61 11)) [] false)], []))) none) none)
   (some (.brk 4, [(.ptr 0 2 0), (.bool (boolV (gt s61 1))), (.slice (esV (gt s61 2)) [] false), (.int .i64 (intV (gt s61 3))), (.slice (esV (gt s61 4)) [] false), (.int .i64 (intV (gt s61 5))), (.str (strV (gt s61 6))), (.str (strV (gt s61 7))), (.slice (esV (gt s61 8)) [] false), (.slice (esV (gt s61 9)) [] false), (.slice (esV (gt s61 10)) [] false), (.slice (esV (gt s61 11)) [] false)], []))) none) none
def seinelaw13_GraphCloses_l3 (O : Orc) (LP : LBody → LBody) : LBody := fun s34 s34u => cnd (chkL [(.ptr 0 2 0), .bool, (.sl false), (.int .i64), (.sl false), (.sl false)] s34) (cnd (chkU [] s34u)
  (cnd (decide ((intV (gt s34 3)) < (List.length (esV (gt s34 2)) : Int)))
   (bnd (ix 1 (.slice (esV (gt s34 2)) [] false) (.int .i64 (intV (gt s34 3)))) fun x55 => cnd (chk (.ref .str) x55)
   (callp O 14 [(.agg [(.slice (esV (gt s34 4)) [] false), (.slice (esV (gt s34 5)) [] false)]), (.str (strV (refV x55)))] fun x57 => cnd (chk (.tup [shFrag, .bool]) x57)
   (cnd (!(boolV (gt (tupV x57) 1)))
    (some (.ret, [(.ptr 0 2 0), (.bool false), (.slice (esV (gt s34 2)) [] false), (.int .i64 (intV (gt s34 3))), (.slice (esV (gt s34 4)) [] false), (.slice (esV (gt s34 5)) [] false)], []))
    (callp O 11 [(.agg [(.slice (esV (gt s34 4)) [] false), (.slice (esV (gt s34 5)) [] false)]), (.slice (esV (gt (aggV (gt (tupV x57) 0)) 3)) [] false)] fun x59 => cnd (chk (.sl false) x59)
    (bnd (LP (seinelaw13_GraphCloses_l2 O LP) [(.ptr 0 2 0), (.bool (boolV (gt s34 1))), (.slice (esV (gt s34 2)) [] false), (.int .i64 (intV (gt s34 3))), (.slice (esV x59) [] false), (.int .i64 0), (.str (strV (gt (aggV (gt (tupV x57) 0)) 0))), (.str (strV (gt (aggV (gt (tupV x57) 0)) 1))), (.slice (esV (gt (aggV (gt (tupV x57) 0)) 2)) [] false), (.slice (esV (gt (aggV (gt (tupV x57) 0)) 3)) [] false), (.slice (esV (gt s34 4)) [] false), (.slice (esV (gt s34 5)) [] false)] []) fun y73 =>
    exIs y73.1 (some 4) (cnd (chkL [(.ptr 0 2 0), .bool, (.sl false), (.int .i64), (.sl false), (.int .i64), .str, .str, (.sl false), (.sl false), (.sl false), (.sl false)] y73.2.1) (cnd (chkU [] y73.2.2)
     (some (.nrm, [(.ptr 0 2 0), (.bool (boolV (gt y73.2.1 1))), (.slice (esV (gt y73.2.1 2)) [] false), (.int .i64 (IntKind.wrap .i64 ((intV (gt y73.2.1 3)) + 1))), (.slice (esV (gt y73.2.1 10)) [] false), (.slice (esV (gt y73.2.1 11)) [] false)], [])) none) none)
    (exIs y73.1 none (cnd (chkL [(.ptr 0 2 0), .bool, (.sl false), (.int .i64), (.sl false), (.int .i64), .str, .str, (.sl false), (.sl false), (.sl false), (.sl false)] y73.2.1) (cnd (chkU [] y73.2.2)
     (some (.ret, [(.ptr 0 2 0), (.bool (boolV (gt y73.2.1 1))), (.slice (esV (gt y73.2.1 2)) [] false), (.int .i64 (intV (gt y73.2.1 3))), (.slice (esV (gt y73.2.1 10)) [] false), (.slice (esV (gt y73.2.1 11)) [] false)], [])) none) none)
    (none))) none)) none) none)
   (some (.brk 2, [(.ptr 0 2 0), (.bool (boolV (gt s34 1))), (.slice (esV (gt s34 2)) [] false), (.int .i64 (intV (gt s34 3))), (.slice (esV (gt s34 4)) [] false), (.slice (esV (gt s34 5)) [] false)], []))) none) none
def seinelaw13_GraphCloses_T1 (O : Orc) (LP : LBody → LBody) (d : GDoc) (l0 : List GSel) : Option (PV × UP) :=
  callp O 9 [(.agg [(.slice (List.map encOp d.ops) [] false), (.slice (List.map encFrag d.frags) [] false)])] fun x1 => cnd (chk .bool x1)
  (cnd (!(boolV x1))
   (callp O 10 [] fun x3 => cnd (chk .bool x3)
   (some ((.bool (boolV x3)), [])) none)
   (callp O 9 [(.agg [(.slice [] [] false), (.slice [(.agg [(.str []), (.str []), (.slice [] [] false), (.slice (List.map encSel l0) [] false)])] [] false)])] fun x5 => cnd (chk .bool x5)
   (cnd (!(boolV x5))
    (callp O 10 [] fun x7 => cnd (chk .bool x7)
    (some ((.bool (boolV x7)), [])) none)
    (callp O 11 [(.agg [(.slice (List.map encOp d.ops) [] false), (.slice (List.map encFrag d.frags) [] false)]), (.slice (List.map encSel l0) [] false)] fun x9 => cnd (chk (.sl false) x9)
    (callp O 13 [(.slice (List.map encSel l0) [] false)] fun x11 => cnd (chk (.sl false) x11)
    (bnd (LP (seinelaw13_GraphCloses_l1 O LP) [(.ptr 0 2 0), (.bool false), (.slice (esV x9) [] false), (.slice (esV x11) [] false), (.int .i64 0), (.slice (List.map encOp d.ops) [] false), (.slice (List.map encFrag d.frags) [] false)] []) fun y33 =>
    exIs y33.1 (some 0) (cnd (chkL [(.ptr 0 2 0), .bool, (.sl false), (.sl false), (.int .i64), (.sl false), (.sl false)] y33.2.1) (cnd (chkU [] y33.2.2)
     (bnd (LP (seinelaw13_GraphCloses_l3 O LP) [(.ptr 0 2 0), (.bool (boolV (gt y33.2.1 1))), (.slice (esV (gt y33.2.1 2)) [] false), (.int .i64 0), (.slice (esV (gt y33.2.1 5)) [] false), (.slice (esV (gt y33.2.1 6)) [] false)] []) fun y76 =>
     exIs y76.1 (some 2) (cnd (chkL [(.ptr 0 2 0), .bool, (.sl false), (.int .i64), (.sl false), (.sl false)] y76.2.1) (cnd (chkU [] y76.2.2)
      (callp O 10 [] fun x77 => cnd (chk .bool x77)
      (some ((.bool (boolV x77)), [])) none) none) none)
     (exIs y76.1 none (cnd (chkL [(.ptr 0 2 0), .bool, (.sl false), (.int .i64), (.sl false), (.sl false)] y76.2.1) (cnd (chkU [] y76.2.2)
      (some ((.bool (boolV (gt y76.2.1 1))), [])) none) none)
     (none))) none) none)
    (exIs y33.1 none (cnd (chkL [(.ptr 0 2 0), .bool, (.sl false), (.sl false), (.int .i64), (.sl false), (.sl false)] y33.2.1) (cnd (chkU [] y33.2.2)
     (some ((.bool (boolV (gt y33.2.1 1))), [])) none) none)
    (none))) none) none)) none)) none
noncomputable def seinelaw13_GraphCloses_l1T (d : GDoc) (y10 : List Str) (y12 : List Str) : Int → Option (Int ⊕ (Unit ⊕ Unit))
  | i_22 =>
  cnd (decide (i_22 < (List.length y12 : Int)))
   (bnd (nthI y12 i_22) fun y24 =>
   bnd (graph_Frag d y24) fun y26 =>
   bnd (nthI y12 i_22) fun y28 =>
   bnd (seineref1_Has y10 y28) fun y30 =>
   cnd (!(y30 == y26.2))
    (some (.inr (.inr ())))
    (some (.inl (IntKind.wrap .i64 (i_22 + 1)))))
   (some (.inr (.inl ())))
abbrev seinelaw13_GraphCloses_l1R (d : GDoc) (y10 : List Str) (y12 : List Str) (st : Int) (l : List PV) (u : UP) : Prop := l = [(.ptr 0 2 0), (.bool false), (.slice (List.map PV.str y10) [] false), (.slice (List.map PV.str y12) [] false), (.int .i64 st), (.slice (List.map encOp d.ops) [] false), (.slice (List.map encFrag d.frags) [] false)] ∧ u = []
abbrev seinelaw13_GraphCloses_l1X (d : GDoc) (y10 : List Str) (y12 : List Str) (p : Unit ⊕ Unit) (r : Ex × List PV × UP) : Prop := elim p (fun (p : Unit) => ∃ (i_31 : Int), r = (Ex.brk 0, [(.ptr 0 2 0), (.bool false), (.slice (List.map PV.str y10) [] false), (.slice (List.map PV.str y12) [] false), (.int .i64 i_31), (.slice (List.map encOp d.ops) [] false), (.slice (List.map encFrag d.frags) [] false)], [])) (fun q2 => (fun (p : Unit) => ∃ (i_32 : Int), r = (Ex.ret, [(.ptr 0 2 0), (.bool false), (.slice (List.map PV.str y10) [] false), (.slice (List.map PV.str y12) [] false), (.int .i64 i_32), (.slice (List.map encOp d.ops) [] false), (.slice (List.map encFrag d.frags) [] false)], [])) q2)
noncomputable def seinelaw13_GraphCloses_l2T (y10 : List Str) (y60 : List Str) : Int → Option (Int ⊕ (Unit ⊕ Unit))
  | k_66 =>
  cnd (decide (k_66 < (List.length y60 : Int)))
   (bnd (nthI y60 k_66) fun y68 =>
   bnd (seineref1_Has y10 y68) fun y70 =>
   cnd (!y70)
    (some (.inr (.inr ())))
    (some (.inl (IntKind.wrap .i64 (k_66 + 1)))))
   (some (.inr (.inl ())))
abbrev seinelaw13_GraphCloses_l2R (d : GDoc) (y10 : List Str) (i_54 : Int) (y58 : GFrag × Bool) (y60 : List Str) (st : Int) (l : List PV) (u : UP) : Prop := l = [(.ptr 0 2 0), (.bool false), (.slice (List.map PV.str y10) [] false), (.int .i64 i_54), (.slice (List.map PV.str y60) [] false), (.int .i64 st), (.str y58.1.name), (.str y58.1.on_), (.slice (List.map encDir y58.1.dirs) [] false), (.slice (List.map encSel y58.1.sels) [] false), (.slice (List.map encOp d.ops) [] false), (.slice (List.map encFrag d.frags) [] false)] ∧ u = []
abbrev seinelaw13_GraphCloses_l2X (d : GDoc) (y10 : List Str) (i_54 : Int) (y58 : GFrag × Bool) (y60 : List Str) (p : Unit ⊕ Unit) (r : Ex × List PV × UP) : Prop := elim p (fun (p : Unit) => ∃ (k_71 : Int), r = (Ex.brk 4, [(.ptr 0 2 0), (.bool false), (.slice (List.map PV.str y10) [] false), (.int .i64 i_54), (.slice (List.map PV.str y60) [] false), (.int .i64 k_71), (.str y58.1.name), (.str y58.1.on_), (.slice (List.map encDir y58.1.dirs) [] false), (.slice (List.map encSel y58.1.sels) [] false), (.slice (List.map encOp d.ops) [] false), (.slice (List.map encFrag d.frags) [] false)], [])) (fun q2 => (fun (p : Unit) => ∃ (k_72 : Int), r = (Ex.ret, [(.ptr 0 2 0), (.bool false), (.slice (List.map PV.str y10) [] false), (.int .i64 i_54), (.slice (List.map PV.str y60) [] false), (.int .i64 k_72), (.str y58.1.name), (.str y58.1.on_), (.slice (List.map encDir y58.1.dirs) [] false), (.slice (List.map encSel y58.1.sels) [] false), (.slice (List.map encOp d.ops) [] false), (.slice (List.map encFrag d.frags) [] false)], [])) q2)
noncomputable def seinelaw13_GraphCloses_l3T (d : GDoc) (y10 : List Str) : Int → Option (Int ⊕ (Unit ⊕ Unit))
  | i_54 =>
  cnd (decide (i_54 < (List.length y10 : Int)))
   (bnd (nthI y10 i_54) fun y56 =>
   bnd (graph_Frag d y56) fun y58 =>
   cnd (!y58.2)
    (some (.inr (.inr ())))
    (bnd (graph_Reach d y58.1.sels) fun y60 =>
    bnd (tloop (seinelaw13_GraphCloses_l2T y10 y60) 0) fun e73_2 => elim e73_2
    (fun p73 =>
     some (.inl (IntKind.wrap .i64 (i_54 + 1))))
    (fun p73 =>
    some (.inr (.inr ())))))
   (some (.inr (.inl ())))
abbrev seinelaw13_GraphCloses_l3R (d : GDoc) (y10 : List Str) (st : Int) (l : List PV) (u : UP) : Prop := l = [(.ptr 0 2 0), (.bool false), (.slice (List.map PV.str y10) [] false), (.int .i64 st), (.slice (List.map encOp d.ops) [] false), (.slice (List.map encFrag d.frags) [] false)] ∧ u = []
abbrev seinelaw13_GraphCloses_l3X (d : GDoc) (y10 : List Str) (p : Unit ⊕ Unit) (r : Ex × List PV × UP) : Prop := elim p (fun (p : Unit) => ∃ (i_74 : Int), r = (Ex.brk 2, [(.ptr 0 2 0), (.bool false), (.slice (List.map PV.str y10) [] false), (.int .i64 i_74), (.slice (List.map encOp d.ops) [] false), (.slice (List.map encFrag d.frags) [] false)], [])) (fun q2 => (fun (p : Unit) => ∃ (i_75 : Int), r = (Ex.ret, [(.ptr 0 2 0), (.bool false), (.slice (List.map PV.str y10) [] false), (.int .i64 i_75), (.slice (List.map encOp d.ops) [] false), (.slice (List.map encFrag d.frags) [] false)], [])) q2)
noncomputable def seinelaw13_GraphCloses_B (d : GDoc) (l0 : List GSel) : Option Bool :=
  bnd (seinelaw7_Light d) fun y2 =>
  cnd (!y2)
   (bnd (seinelaw13_awake) fun y4 =>
   some y4)
   (bnd (seinelaw7_Light (GDoc.mk ([] : List GOp) [(GFrag.mk [] [] ([] : List GDir) l0)])) fun y6 =>
   cnd (!y6)
    (bnd (seinelaw13_awake) fun y8 =>
    some y8)
    (bnd (graph_Reach d l0) fun y10 =>
    bnd (graph_Spreads l0) fun y12 =>
    bnd (tloop (seinelaw13_GraphCloses_l1T d y10 y12) 0) fun e33_2 => elim e33_2
    (fun p33 =>
     bnd (tloop (seinelaw13_GraphCloses_l3T d y10) 0) fun e76_2 => elim e76_2
     (fun p76 =>
      bnd (seinelaw13_awake) fun y78 =>
      some y78)
     (fun p76 =>
     some false))
    (fun p33 =>
    some false)))
def seinelaw13_GraphCloses_ds : Decs := { decs := [(16, .bool), (23, .bool), (26, .bool), (29, (.sl false)), (31, (.sl false)), (42, (.ref .str)), (44, (.tup [shFrag, .bool])), (50, (.ref .str)), (52, .bool), (65, (.ref .str)), (67, (.tup [shFrag, .bool])), (75, (.sl false)), (85, (.ref .str)), (87, .bool), (89, .bool)], ups := [], loops := [(6, [(2, 2)], ⟨[(.ptr 0 2 0), .bool, (.sl false), (.sl false), (.int .i64), (.sl false), (.sl false)], [], [(some 0, [(.ptr 0 2 0), .bool, (.sl false), (.sl false), (.int .i64), (.sl false), (.sl false)], []), (none, [(.ptr 0 2 0), .bool, (.sl false), (.sl false), (.int .i64), (.sl false), (.sl false)], [])]⟩), (12, [(2, 2)], ⟨[(.ptr 0 2 0), .bool, (.sl false), (.int .i64), (.sl false), (.sl false)], [], [(some 2, [(.ptr 0 2 0), .bool, (.sl false), (.int .i64), (.sl false), (.sl false)], []), (none, [(.ptr 0 2 0), .bool, (.sl false), (.int .i64), (.sl false), (.sl false)], [])]⟩), (19, [(11, 4), (2, 2)], ⟨[(.ptr 0 2 0), .bool, (.sl false), (.int .i64), (.sl false), (.int .i64), .str, .str, (.sl false), (.sl false), (.sl false), (.sl false)], [], [(some 4, [(.ptr 0 2 0), .bool, (.sl false), (.int .i64), (.sl false), (.int .i64), .str, .str, (.sl false), (.sl false), (.sl false), (.sl false)], []), (none, [(.ptr 0 2 0), .bool, (.sl false), (.int .i64), (.sl false), (.int .i64), .str, .str, (.sl false), (.sl false), (.sl false), (.sl false)], [])]⟩)] }
set_option maxRecDepth 100000 in
theorem seinelaw13_GraphCloses_t1 (O : Orc) (LP : LBody → LBody) (d : GDoc) (l0 : List GSel) : evalBodyD Try.prog (MT 4) seinelaw13_GraphCloses_ds Try.f4.ntmps O LP Try.f4 [(.agg [(.slice (List.map encOp d.ops) [] false), (.slice (List.map encFrag d.frags) [] false)]), (.slice (List.map encSel l0) [] false)] [] = seinelaw13_GraphCloses_T1 O LP d l0 := by kernel_rfl
theorem seinelaw13_GraphCloses_l1_ok (d : GDoc) (y10 : List Str) (y12 : List Str) : ∀ st l u, seinelaw13_GraphCloses_l1R d y10 y12 st l u → Imp (seinelaw13_GraphCloses_l1T d y10 y12 st) (seinelaw13_GraphCloses_l1 O loopLim l u) (StepR (seinelaw13_GraphCloses_l1R d y10 y12) (seinelaw13_GraphCloses_l1X d y10 y12)) := by
  rintro i_22 l u ⟨rfl, rfl⟩
  simp only [seinelaw13_GraphCloses_l1T, seinelaw13_GraphCloses_l1]
  refine Imp.chk rfl (Imp.chk rfl ?_)
  try simp only [evs, tys]
  refine Imp.cnd ?_ ?_
  · refine Imp.op (f := fun a => .ref (PV.str a)) (fun a h => op_ix (enc := PV.str) (by first | rfl | simp only [evs, tys, evl]) ⟨by first | rfl | simp only [evs, tys, evc], by decide⟩ h) (fun a => rfl) fun y24 hy24 => ?_
    try simp only [evs, tys]
    refine Imp.call (f := graph_FragE) rfl (fun a h => by first | exact graph_Frag_spec h | simpa only [evs, tys, evl] using graph_Frag_spec h) (fun a => by first | rfl | simp only [graph_FragE, evk, chks]) fun y26 hy26 => ?_
    try simp only [graph_FragE, evs, tys]
    refine Imp.op (f := fun a => .ref (PV.str a)) (fun a h => op_ix (enc := PV.str) (by first | rfl | simp only [evs, tys, evl]) ⟨by first | rfl | simp only [evs, tys, evc], by decide⟩ h) (fun a => rfl) fun y28 hy28 => ?_
    try simp only [evs, tys]
    refine Imp.call (f := seineref1_HasE) rfl (fun a h => by first | exact seineref1_Has_spec h | simpa only [evs, tys, evl] using seineref1_Has_spec h) (fun a => by first | rfl | simp only [seineref1_HasE, evk, chks]) fun y30 hy30 => ?_
    try simp only [seineref1_HasE, evs, tys]
    refine Imp.cnd ?_ ?_
    · exact Imp.some (StepR.ret ⟨i_22, by first | rfl | simp only [evs, tys, evl, elim_inl, elim_inr]⟩)
    · exact Imp.some (StepR.next ⟨by first | rfl | simp only [evs, tys, evl], rfl⟩)
  · exact Imp.some (StepR.brk ⟨i_22, by first | rfl | simp only [evs, tys, evl, elim_inl, elim_inr]⟩)
theorem seinelaw13_GraphCloses_l2_ok (d : GDoc) (y10 : List Str) (i_54 : Int) (y58 : GFrag × Bool) (y60 : List Str) : ∀ st l u, seinelaw13_GraphCloses_l2R d y10 i_54 y58 y60 st l u → Imp (seinelaw13_GraphCloses_l2T y10 y60 st) (seinelaw13_GraphCloses_l2 O loopLim l u) (StepR (seinelaw13_GraphCloses_l2R d y10 i_54 y58 y60) (seinelaw13_GraphCloses_l2X d y10 i_54 y58 y60)) := by
  rintro k_66 l u ⟨rfl, rfl⟩
  simp only [seinelaw13_GraphCloses_l2T, seinelaw13_GraphCloses_l2]
  refine Imp.chk rfl (Imp.chk rfl ?_)
  try simp only [evs, tys]
  refine Imp.cnd ?_ ?_
  · refine Imp.op (f := fun a => .ref (PV.str a)) (fun a h => op_ix (enc := PV.str) (by first | rfl | simp only [evs, tys, evl]) ⟨by first | rfl | simp only [evs, tys, evc], by decide⟩ h) (fun a => rfl) fun y68 hy68 => ?_
    try simp only [evs, tys]
    refine Imp.call (f := seineref1_HasE) rfl (fun a h => by first | exact seineref1_Has_spec h | simpa only [evs, tys, evl] using seineref1_Has_spec h) (fun a => by first | rfl | simp only [seineref1_HasE, evk, chks]) fun y70 hy70 => ?_
    try simp only [seineref1_HasE, evs, tys]
    refine Imp.cnd ?_ ?_
    · exact Imp.some (StepR.ret ⟨k_66, by first | rfl | simp only [evs, tys, evl, elim_inl, elim_inr]⟩)
    · exact Imp.some (StepR.next ⟨by first | rfl | simp only [evs, tys, evl], rfl⟩)
  · exact Imp.some (StepR.brk ⟨k_66, by first | rfl | simp only [evs, tys, evl, elim_inl, elim_inr]⟩)
theorem seinelaw13_GraphCloses_l3_ok (d : GDoc) (y10 : List Str) : ∀ st l u, seinelaw13_GraphCloses_l3R d y10 st l u → Imp (seinelaw13_GraphCloses_l3T d y10 st) (seinelaw13_GraphCloses_l3 O loopLim l u) (StepR (seinelaw13_GraphCloses_l3R d y10) (seinelaw13_GraphCloses_l3X d y10)) := by
  rintro i_54 l u ⟨rfl, rfl⟩
  simp only [seinelaw13_GraphCloses_l3T, seinelaw13_GraphCloses_l3]
  refine Imp.chk rfl (Imp.chk rfl ?_)
  try simp only [evs, tys]
  refine Imp.cnd ?_ ?_
  · refine Imp.op (f := fun a => .ref (PV.str a)) (fun a h => op_ix (enc := PV.str) (by first | rfl | simp only [evs, tys, evl]) ⟨by first | rfl | simp only [evs, tys, evc], by decide⟩ h) (fun a => rfl) fun y56 hy56 => ?_
    try simp only [evs, tys]
    refine Imp.call (f := graph_FragE) rfl (fun a h => by first | exact graph_Frag_spec h | simpa only [evs, tys, evl] using graph_Frag_spec h) (fun a => by first | rfl | simp only [graph_FragE, evk, chks]) fun y58 hy58 => ?_
    try simp only [graph_FragE, evs, tys]
    refine Imp.cnd ?_ ?_
    · exact Imp.some (StepR.ret ⟨i_54, by first | rfl | simp only [evs, tys, evl, elim_inl, elim_inr]⟩)
    · refine Imp.call (f := graph_ReachE) rfl (fun a h => by first | exact graph_Reach_spec h | simpa only [evs, tys, evl] using graph_Reach_spec h) (fun a => by first | rfl | simp only [graph_ReachE, evk, chks]) fun y60 hy60 => ?_
      try simp only [graph_ReachE, evs, tys]
      refine Imp.bnd (Imp.loop (seinelaw13_GraphCloses_l2_ok d y10 i_54 y58 y60) ⟨by first | rfl | simp only [evs, tys, evl], rfl⟩) ?_
      rintro (p | p) vy73 hy73
      · try simp only [elim_inl, elim_inr]
        obtain ⟨k_71, rfl⟩ := hy73
        refine Imp.exHit rfl (Imp.chk rfl (Imp.chk rfl ?_))
        try simp only [evs, tys]
        exact Imp.some (StepR.next ⟨by first | rfl | simp only [evs, tys, evl], rfl⟩)
      · try simp only [elim_inl, elim_inr]
        obtain ⟨k_72, rfl⟩ := hy73
        refine Imp.exMiss rfl ?_
        refine Imp.exHit rfl (Imp.chk rfl (Imp.chk rfl ?_))
        try simp only [evs, tys]
        exact Imp.some (StepR.ret ⟨i_54, by first | rfl | simp only [evs, tys, evl, elim_inl, elim_inr]⟩)
  · exact Imp.some (StepR.brk ⟨i_54, by first | rfl | simp only [evs, tys, evl, elim_inl, elim_inr]⟩)
theorem seinelaw13_GraphCloses_imp (d : GDoc) (l0 : List GSel) : Imp (seinelaw13_GraphCloses_B d l0) (seinelaw13_GraphCloses_T1 O loopLim d l0) (fun r v => v = (seinelaw13_GraphClosesE r, [])) := by
  simp only [seinelaw13_GraphCloses_B, seinelaw13_GraphCloses_T1]
  try simp only [evs, tys]
  refine Imp.call (f := seinelaw7_LightE) rfl (fun a h => by first | exact seinelaw7_Light_spec h | simpa only [evs, tys, evl] using seinelaw7_Light_spec h) (fun a => by first | rfl | simp only [seinelaw7_LightE, evk, chks]) fun y2 hy2 => ?_
  try simp only [seinelaw7_LightE, evs, tys]
  refine Imp.cnd ?_ ?_
  · refine Imp.call (f := seinelaw13_awakeE) rfl (fun a h => by first | exact seinelaw13_awake_spec h | simpa only [evs, tys, evl] using seinelaw13_awake_spec h) (fun a => by first | rfl | simp only [seinelaw13_awakeE, evk, chks]) fun y4 hy4 => ?_
    try simp only [seinelaw13_awakeE, evs, tys]
    exact Imp.some (by first | rfl | simp only [seinelaw13_GraphClosesE, evs, tys, evl])
  · refine Imp.call (f := seinelaw7_LightE) rfl (fun a h => by first | exact seinelaw7_Light_spec h | simpa only [evs, tys, evl] using seinelaw7_Light_spec h) (fun a => by first | rfl | simp only [seinelaw7_LightE, evk, chks]) fun y6 hy6 => ?_
    try simp only [seinelaw7_LightE, evs, tys]
    refine Imp.cnd ?_ ?_
    · refine Imp.call (f := seinelaw13_awakeE) rfl (fun a h => by first | exact seinelaw13_awake_spec h | simpa only [evs, tys, evl] using seinelaw13_awake_spec h) (fun a => by first | rfl | simp only [seinelaw13_awakeE, evk, chks]) fun y8 hy8 => ?_
      try simp only [seinelaw13_awakeE, evs, tys]
      exact Imp.some (by first | rfl | simp only [seinelaw13_GraphClosesE, evs, tys, evl])
    · refine Imp.call (f := graph_ReachE) rfl (fun a h => by first | exact graph_Reach_spec h | simpa only [evs, tys, evl] using graph_Reach_spec h) (fun a => by first | rfl | simp only [graph_ReachE, evk, chks]) fun y10 hy10 => ?_
      try simp only [graph_ReachE, evs, tys]
      refine Imp.call (f := graph_SpreadsE) rfl (fun a h => by first | exact graph_Spreads_spec h | simpa only [evs, tys, evl] using graph_Spreads_spec h) (fun a => by first | rfl | simp only [graph_SpreadsE, evk, chks]) fun y12 hy12 => ?_
      try simp only [graph_SpreadsE, evs, tys]
      refine Imp.bnd (Imp.loop (seinelaw13_GraphCloses_l1_ok d y10 y12) ⟨by first | rfl | simp only [evs, tys, evl], rfl⟩) ?_
      rintro (p | p) vy33 hy33
      · try simp only [elim_inl, elim_inr]
        obtain ⟨i_31, rfl⟩ := hy33
        refine Imp.exHit rfl (Imp.chk rfl (Imp.chk rfl ?_))
        try simp only [evs, tys]
        refine Imp.bnd (Imp.loop (seinelaw13_GraphCloses_l3_ok d y10) ⟨by first | rfl | simp only [evs, tys, evl], rfl⟩) ?_
        rintro (p | p) vy76 hy76
        · try simp only [elim_inl, elim_inr]
          obtain ⟨i_74, rfl⟩ := hy76
          refine Imp.exHit rfl (Imp.chk rfl (Imp.chk rfl ?_))
          try simp only [evs, tys]
          refine Imp.call (f := seinelaw13_awakeE) rfl (fun a h => by first | exact seinelaw13_awake_spec h | simpa only [evs, tys, evl] using seinelaw13_awake_spec h) (fun a => by first | rfl | simp only [seinelaw13_awakeE, evk, chks]) fun y78 hy78 => ?_
          try simp only [seinelaw13_awakeE, evs, tys]
          exact Imp.some (by first | rfl | simp only [seinelaw13_GraphClosesE, evs, tys, evl])
        · try simp only [elim_inl, elim_inr]
          obtain ⟨i_75, rfl⟩ := hy76
          refine Imp.exMiss rfl ?_
          refine Imp.exHit rfl (Imp.chk rfl (Imp.chk rfl ?_))
          try simp only [evs, tys]
          exact Imp.some (by first | rfl | simp only [seinelaw13_GraphClosesE, evs, tys, evl])
      · try simp only [elim_inl, elim_inr]
        obtain ⟨i_32, rfl⟩ := hy33
        refine Imp.exMiss rfl ?_
        refine Imp.exHit rfl (Imp.chk rfl (Imp.chk rfl ?_))
        try simp only [evs, tys]
        exact Imp.some (by first | rfl | simp only [seinelaw13_GraphClosesE, evs, tys, evl])
theorem seinelaw13_GraphCloses_run {d : GDoc} {l0 : List GSel} {r : Bool} (h : seinelaw13_GraphCloses_B d l0 = some r) : seinelaw13_GraphCloses d l0 = some r := by
  obtain ⟨v, hv, rfl⟩ := seinelaw13_GraphCloses_imp d l0 r h
  exact tO_of (pair_inj seinelaw13_GraphClosesEj) (OL_runD seinelaw13_GraphCloses_ds rfl rfl Try.func4 ((seinelaw13_GraphCloses_t1 _ _ d l0).trans hv))
end Go.Proofs.Ytgelaiohnmpjnab

/- Printed by symgen.py: typed functions of this seat, and why they tell what the program does. -/
set_option linter.unusedVariables false
set_option linter.unusedSimpArgs false
open Go Go.Ev Go.Ev.PV
namespace Go.Proofs.Ytgelaiohnmpjnab
def seinelaw7_Light_l1 (O : Orc) (LP : LBody → LBody) : LBody := fun s54 s54u => cnd (chkL [(.ptr 0 1 0), (.int .i64), (.int .i64), (.int .i64), (.sl false), (.sl false)] s54) (cnd (chkU [] s54u)
  (bnd (ix 5 (.slice (esV (gt s54 4)) [] false) (.int .i64 (intV (gt s54 2)))) fun x69 => cnd (chk (.ref shOp) x69)
  (cnd (decide ((intV (gt s54 3)) < (List.length (esV (gt (aggV (refV x69)) 2)) : Int)))
   (bnd (ix 5 (.slice (esV (gt s54 4)) [] false) (.int .i64 (intV (gt s54 2)))) fun x71 => cnd (chk (.ref shOp) x71)
   (bnd (ix 10 (.slice (esV (gt (aggV (refV x71)) 2)) [] false) (.int .i64 (intV (gt s54 3)))) fun x73 => cnd (chk (.ref shVarDef) x73)
   (callp O 34 [(.agg [(.int .i64 (intV (gt (aggV (refV x73)) 5))), (.int .i64 (intV (gt (aggV (refV x73)) 6))), (.str (strV (gt (aggV (refV x73)) 7))), (.slice (esV (gt (aggV (refV x73)) 8)) [] false), (.slice (esV (gt (aggV (refV x73)) 9)) [] false)])] fun x75 => cnd (chk (.int .i64) x75)
   (bnd (ix 5 (.slice (esV (gt s54 4)) [] false) (.int .i64 (intV (gt s54 2)))) fun x77 => cnd (chk (.ref shOp) x77)
   (bnd (ix 10 (.slice (esV (gt (aggV (refV x77)) 2)) [] false) (.int .i64 (intV (gt s54 3)))) fun x79 => cnd (chk (.ref shVarDef) x79)
   (some (.nrm, [(.ptr 0 1 0), (.int .i64 (IntKind.wrap .i64 ((IntKind.wrap .i64 ((IntKind.wrap .i64 ((intV (gt s54 1)) + 1)) + (intV x75))) + (List.length (strV (gt (aggV (refV x79)) 0)) : Int)))), (.int .i64 (intV (gt s54 2))), (.int .i64 (IntKind.wrap .i64 ((intV (gt s54 3)) + 1))), (.slice (esV (gt s54 4)) [] false), (.slice (esV (gt s54 5)) [] false)], [])) none) none) none) none) none)
   (some (.brk 2, [(.ptr 0 1 0), (.int .i64 (intV (gt s54 1))), (.int .i64 (intV (gt s54 2))), (.int .i64 (intV (gt s54 3))), (.slice (esV (gt s54 4)) [] false), (.slice (esV (gt s54 5)) [] false)], []))) none) none) none
def seinelaw7_Light_l2 (O : Orc) (LP : LBody → LBody) : LBody := fun s1 s1u => cnd (chkL [(.ptr 0 1 0), (.int .i64), (.int .i64), (.sl false), (.sl false)] s1) (cnd (chkU [] s1u)
  (cnd (decide ((intV (gt s1 2)) < (List.length (esV (gt s1 3)) : Int)))
   (bnd (ix 5 (.slice (esV (gt s1 3)) [] false) (.int .i64 (intV (gt s1 2)))) fun x44 => cnd (chk (.ref shOp) x44)
   (callp O 32 [(.slice (esV (gt (aggV (refV x44)) 3)) [] false)] fun x46 => cnd (chk (.int .i64) x46)
   (bnd (ix 5 (.slice (esV (gt s1 3)) [] false) (.int .i64 (intV (gt s1 2)))) fun x48 => cnd (chk (.ref shOp) x48)
   (callp O 33 [(.slice (esV (gt (aggV (refV x48)) 4)) [] false)] fun x50 => cnd (chk (.int .i64) x50)
   (bnd (ix 5 (.slice (esV (gt s1 3)) [] false) (.int .i64 (intV (gt s1 2)))) fun x52 => cnd (chk (.ref shOp) x52)
   (bnd (LP (seinelaw7_Light_l1 O LP) [(.ptr 0 1 0), (.int .i64 (IntKind.wrap .i64 ((IntKind.wrap .i64 ((IntKind.wrap .i64 ((IntKind.wrap .i64 ((intV (gt s1 1)) + 1)) + (intV x46))) + (intV x50))) + (List.length (strV (gt (aggV (refV x52)) 1)) : Int)))), (.int .i64 (intV (gt s1 2))), (.int .i64 0), (.slice (esV (gt s1 3)) [] false), (.slice (esV (gt s1 4)) [] false)] []) fun y83 =>
   exIs y83.1 (some 2) (cnd (chkL [(.ptr 0 1 0), (.int .i64), (.int .i64), (.int .i64), (.sl false), (.sl false)] y83.2.1) (cnd (chkU [] y83.2.2)
    (some (.nrm, [(.ptr 0 1 0), (.int .i64 (intV (gt y83.2.1 1))), (.int .i64 (IntKind.wrap .i64 ((intV (gt y83.2.1 2)) + 1))), (.slice (esV (gt y83.2.1 4)) [] false), (.slice (esV (gt y83.2.1 5)) [] false)], [])) none) none)
   (none)) none) none) none) none) none)
   (some (.brk 0, [(.ptr 0 1 0), (.int .i64 (intV (gt s1 1))), (.int .i64 (intV (gt s1 2))), (.slice (esV (gt s1 3)) [] false), (.slice (esV (gt s1 4)) [] false)], []))) none) none
def seinelaw7_Light_l3 (O : Orc) (LP : LBody → LBody) : LBody := fun s87 s87u => cnd (chkL [(.ptr 0 1 0), (.int .i64), (.int .i64), (.sl false), (.sl false)] s87) (cnd (chkU [] s87u)
  (cnd (decide ((intV (gt s87 2)) < (List.length (esV (gt s87 4)) : Int)))
   (bnd (ix 4 (.slice (esV (gt s87 4)) [] false) (.int .i64 (intV (gt s87 2)))) fun x100 => cnd (chk (.ref shFrag) x100)
   (callp O 32 [(.slice (esV (gt (aggV (refV x100)) 2)) [] false)] fun x102 => cnd (chk (.int .i64) x102)
   (bnd (ix 4 (.slice (esV (gt s87 4)) [] false) (.int .i64 (intV (gt s87 2)))) fun x104 => cnd (chk (.ref shFrag) x104)
   (callp O 33 [(.slice (esV (gt (aggV (refV x104)) 3)) [] false)] fun x106 => cnd (chk (.int .i64) x106)
   (bnd (ix 4 (.slice (esV (gt s87 4)) [] false) (.int .i64 (intV (gt s87 2)))) fun x108 => cnd (chk (.ref shFrag) x108)
   (some (.nrm, [(.ptr 0 1 0), (.int .i64 (IntKind.wrap .i64 ((IntKind.wrap .i64 ((IntKind.wrap .i64 ((IntKind.wrap .i64 ((intV (gt s87 1)) + 1)) + (intV x102))) + (intV x106))) + (List.length (strV (gt (aggV (refV x108)) 0)) : Int)))), (.int .i64 (IntKind.wrap .i64 ((intV (gt s87 2)) + 1))), (.slice (esV (gt s87 3)) [] false), (.slice (esV (gt s87 4)) [] false)], [])) none) none) none) none) none)
   (some (.brk 4, [(.ptr 0 1 0), (.int .i64 (intV (gt s87 1))), (.int .i64 (intV (gt s87 2))), (.slice (esV (gt s87 3)) [] false), (.slice (esV (gt s87 4)) [] false)], []))) none) none
def seinelaw7_Light_T1 (O : Orc) (LP : LBody → LBody) (d : GDoc) : Option (PV × UP) :=
  bnd (LP (seinelaw7_Light_l2 O LP) [(.ptr 0 1 0), (.int .i64 0), (.int .i64 0), (.slice (List.map encOp d.ops) [] false), (.slice (List.map encFrag d.frags) [] false)] []) fun y86 =>
  exIs y86.1 (some 0) (cnd (chkL [(.ptr 0 1 0), (.int .i64), (.int .i64), (.sl false), (.sl false)] y86.2.1) (cnd (chkU [] y86.2.2)
   (bnd (LP (seinelaw7_Light_l3 O LP) [(.ptr 0 1 0), (.int .i64 (intV (gt y86.2.1 1))), (.int .i64 0), (.slice (esV (gt y86.2.1 3)) [] false), (.slice (esV (gt y86.2.1 4)) [] false)] []) fun y112 =>
   exIs y112.1 (some 4) (cnd (chkL [(.ptr 0 1 0), (.int .i64), (.int .i64), (.sl false), (.sl false)] y112.2.1) (cnd (chkU [] y112.2.2)
    (some ((.bool (decide ((intV (gt y112.2.1 1)) ≤ 3200))), [])) none) none)
   (none)) none) none)
  (none)
noncomputable def seinelaw7_Light_l1T (d : GDoc) (i_43 : Int) : (Int × Int) → Option ((Int × Int) ⊕ Int)
  | (n_67, k_68) =>
  bnd (nthI d.ops i_43) fun y70 =>
  cnd (decide (k_68 < (List.length y70.vars : Int)))
   (bnd (nthI d.ops i_43) fun y72 =>
   bnd (nthI y72.vars k_68) fun y74 =>
   bnd (seinekeep_Size y74.default) fun y76 =>
   bnd (nthI d.ops i_43) fun y78 =>
   bnd (nthI y78.vars k_68) fun y80 =>
   some (.inl ((IntKind.wrap .i64 ((IntKind.wrap .i64 ((IntKind.wrap .i64 (n_67 + 1)) + y76)) + (List.length y80.name : Int))), (IntKind.wrap .i64 (k_68 + 1)))))
   (some (.inr n_67))
abbrev seinelaw7_Light_l1R (d : GDoc) (i_43 : Int) (st : Int × Int) (l : List PV) (u : UP) : Prop := l = [(.ptr 0 1 0), (.int .i64 st.1), (.int .i64 i_43), (.int .i64 st.2), (.slice (List.map encOp d.ops) [] false), (.slice (List.map encFrag d.frags) [] false)] ∧ u = []
abbrev seinelaw7_Light_l1X (d : GDoc) (i_43 : Int) (p : Int) (r : Ex × List PV × UP) : Prop := (fun (p : Int) => ∃ (k_82 : Int), r = (Ex.brk 2, [(.ptr 0 1 0), (.int .i64 p), (.int .i64 i_43), (.int .i64 k_82), (.slice (List.map encOp d.ops) [] false), (.slice (List.map encFrag d.frags) [] false)], [])) p
noncomputable def seinelaw7_Light_l2T (d : GDoc) : (Int × Int) → Option ((Int × Int) ⊕ Int)
  | (n_42, i_43) =>
  cnd (decide (i_43 < (List.length d.ops : Int)))
   (bnd (nthI d.ops i_43) fun y45 =>
   bnd (seinelaw7_lightDirs y45.dirs) fun y47 =>
   bnd (nthI d.ops i_43) fun y49 =>
   bnd (seinelaw7_lightSels y49.sels) fun y51 =>
   bnd (nthI d.ops i_43) fun y53 =>
   bnd (tloop (seinelaw7_Light_l1T d i_43) ((IntKind.wrap .i64 ((IntKind.wrap .i64 ((IntKind.wrap .i64 ((IntKind.wrap .i64 (n_42 + 1)) + y47)) + y51)) + (List.length y53.name : Int))), 0)) fun n_81 =>
   some (.inl (n_81, (IntKind.wrap .i64 (i_43 + 1)))))
   (some (.inr n_42))
abbrev seinelaw7_Light_l2R (d : GDoc) (st : Int × Int) (l : List PV) (u : UP) : Prop := l = [(.ptr 0 1 0), (.int .i64 st.1), (.int .i64 st.2), (.slice (List.map encOp d.ops) [] false), (.slice (List.map encFrag d.frags) [] false)] ∧ u = []
abbrev seinelaw7_Light_l2X (d : GDoc) (p : Int) (r : Ex × List PV × UP) : Prop := (fun (p : Int) => ∃ (i_85 : Int), r = (Ex.brk 0, [(.ptr 0 1 0), (.int .i64 p), (.int .i64 i_85), (.slice (List.map encOp d.ops) [] false), (.slice (List.map encFrag d.frags) [] false)], [])) p
noncomputable def seinelaw7_Light_l3T (d : GDoc) : (Int × Int) → Option ((Int × Int) ⊕ Int)
  | (n_98, i_99) =>
  cnd (decide (i_99 < (List.length d.frags : Int)))
   (bnd (nthI d.frags i_99) fun y101 =>
   bnd (seinelaw7_lightDirs y101.dirs) fun y103 =>
   bnd (nthI d.frags i_99) fun y105 =>
   bnd (seinelaw7_lightSels y105.sels) fun y107 =>
   bnd (nthI d.frags i_99) fun y109 =>
   some (.inl ((IntKind.wrap .i64 ((IntKind.wrap .i64 ((IntKind.wrap .i64 ((IntKind.wrap .i64 (n_98 + 1)) + y103)) + y107)) + (List.length y109.name : Int))), (IntKind.wrap .i64 (i_99 + 1)))))
   (some (.inr n_98))
abbrev seinelaw7_Light_l3R (d : GDoc) (st : Int × Int) (l : List PV) (u : UP) : Prop := l = [(.ptr 0 1 0), (.int .i64 st.1), (.int .i64 st.2), (.slice (List.map encOp d.ops) [] false), (.slice (List.map encFrag d.frags) [] false)] ∧ u = []
abbrev seinelaw7_Light_l3X (d : GDoc) (p : Int) (r : Ex × List PV × UP) : Prop := (fun (p : Int) => ∃ (i_111 : Int), r = (Ex.brk 4, [(.ptr 0 1 0), (.int .i64 p), (.int .i64 i_111), (.slice (List.map encOp d.ops) [] false), (.slice (List.map encFrag d.frags) [] false)], [])) p
noncomputable def seinelaw7_Light_B (d : GDoc) : Option Bool :=
  bnd (tloop (seinelaw7_Light_l2T d) (0, 0)) fun n_84 =>
  bnd (tloop (seinelaw7_Light_l3T d) (n_84, 0)) fun n_110 =>
  some (decide (n_110 ≤ 3200))
def seinelaw7_Light_ds : Decs := { decs := [(19, (.ref shOp)), (22, (.int .i64)), (27, (.ref shOp)), (30, (.int .i64)), (35, (.ref shOp)), (44, (.ref shOp)), (56, (.ref shOp)), (60, (.ref shVarDef)), (63, (.int .i64)), (68, (.ref shOp)), (72, (.ref shVarDef)), (89, (.ref shFrag)), (92, (.int .i64)), (97, (.ref shFrag)), (100, (.int .i64)), (105, (.ref shFrag))], ups := [], loops := [(3, [(1, 2)], ⟨[(.ptr 0 1 0), (.int .i64), (.int .i64), (.sl false), (.sl false)], [], [(some 0, [(.ptr 0 1 0), (.int .i64), (.int .i64), (.sl false), (.sl false)], [])]⟩), (7, [(1, 2)], ⟨[(.ptr 0 1 0), (.int .i64), (.int .i64), (.int .i64), (.sl false), (.sl false)], [], [(some 2, [(.ptr 0 1 0), (.int .i64), (.int .i64), (.int .i64), (.sl false), (.sl false)], [])]⟩), (11, [(1, 2)], ⟨[(.ptr 0 1 0), (.int .i64), (.int .i64), (.sl false), (.sl false)], [], [(some 4, [(.ptr 0 1 0), (.int .i64), (.int .i64), (.sl false), (.sl false)], [])]⟩)] }
set_option maxRecDepth 100000 in
theorem seinelaw7_Light_t1 (O : Orc) (LP : LBody → LBody) (d : GDoc) : evalBodyD Try.prog (MT 9) seinelaw7_Light_ds Try.f9.ntmps O LP Try.f9 [(.agg [(.slice (List.map encOp d.ops) [] false), (.slice (List.map encFrag d.frags) [] false)])] [] = seinelaw7_Light_T1 O LP d := by kernel_rfl
theorem seinelaw7_Light_l1_ok (d : GDoc) (i_43 : Int) : ∀ st l u, seinelaw7_Light_l1R d i_43 st l u → Imp (seinelaw7_Light_l1T d i_43 st) (seinelaw7_Light_l1 O loopLim l u) (StepR (seinelaw7_Light_l1R d i_43) (seinelaw7_Light_l1X d i_43)) := by
  rintro ⟨n_67, k_68⟩ l u ⟨rfl, rfl⟩
  simp only [seinelaw7_Light_l1T, seinelaw7_Light_l1]
  refine Imp.chk rfl (Imp.chk rfl ?_)
  try simp only [evs, tys]
  refine Imp.op (f := fun a => .ref (encOp a)) (fun a h => op_ix (enc := encOp) (by first | rfl | simp only [evs, tys, evl]) ⟨by first | rfl | simp only [evs, tys, evc], by decide⟩ h) (fun a => chk_GOp a) fun y70 hy70 => ?_
  try simp only [evs, tys]
  refine Imp.cnd ?_ ?_
  · refine Imp.op (f := fun a => .ref (encOp a)) (fun a h => op_ix (enc := encOp) (by first | rfl | simp only [evs, tys, evl]) ⟨by first | rfl | simp only [evs, tys, evc], by decide⟩ h) (fun a => chk_GOp a) fun y72 hy72 => ?_
    try simp only [evs, tys]
    refine Imp.op (f := fun a => .ref (encVarDef a)) (fun a h => op_ix (enc := encVarDef) (by first | rfl | simp only [evs, tys, evl]) ⟨by first | rfl | simp only [evs, tys, evc], by decide⟩ h) (fun a => chk_GVarDef a) fun y74 hy74 => ?_
    try simp only [evs, tys]
    refine Imp.call (f := seinekeep_SizeE) rfl (fun a h => by first | exact seinekeep_Size_spec h | simpa only [evs, tys, evl] using seinekeep_Size_spec h) (fun a => by first | rfl | simp only [seinekeep_SizeE, evk, chks]) fun y76 hy76 => ?_
    try simp only [seinekeep_SizeE, evs, tys]
    refine Imp.op (f := fun a => .ref (encOp a)) (fun a h => op_ix (enc := encOp) (by first | rfl | simp only [evs, tys, evl]) ⟨by first | rfl | simp only [evs, tys, evc], by decide⟩ h) (fun a => chk_GOp a) fun y78 hy78 => ?_
    try simp only [evs, tys]
    refine Imp.op (f := fun a => .ref (encVarDef a)) (fun a h => op_ix (enc := encVarDef) (by first | rfl | simp only [evs, tys, evl]) ⟨by first | rfl | simp only [evs, tys, evc], by decide⟩ h) (fun a => chk_GVarDef a) fun y80 hy80 => ?_
    try simp only [evs, tys]
    exact Imp.some (StepR.next ⟨by first | rfl | simp only [evs, tys, evl], rfl⟩)
  · exact Imp.some (StepR.brk ⟨k_68, by first | rfl | simp only [evs, tys, evl, elim_inl, elim_inr]⟩)
theorem seinelaw7_Light_l2_ok (d : GDoc) : ∀ st l u, seinelaw7_Light_l2R d st l u → Imp (seinelaw7_Light_l2T d st) (seinelaw7_Light_l2 O loopLim l u) (StepR (seinelaw7_Light_l2R d) (seinelaw7_Light_l2X d)) := by
  rintro ⟨n_42, i_43⟩ l u ⟨rfl, rfl⟩
  simp only [seinelaw7_Light_l2T, seinelaw7_Light_l2]
  refine Imp.chk rfl (Imp.chk rfl ?_)
  try simp only [evs, tys]
  refine Imp.cnd ?_ ?_
  · refine Imp.op (f := fun a => .ref (encOp a)) (fun a h => op_ix (enc := encOp) (by first | rfl | simp only [evs, tys, evl]) ⟨by first | rfl | simp only [evs, tys, evc], by decide⟩ h) (fun a => chk_GOp a) fun y45 hy45 => ?_
    try simp only [evs, tys]
    refine Imp.call (f := seinelaw7_lightDirsE) rfl (fun a h => by first | exact seinelaw7_lightDirs_spec h | simpa only [evs, tys, evl] using seinelaw7_lightDirs_spec h) (fun a => by first | rfl | simp only [seinelaw7_lightDirsE, evk, chks]) fun y47 hy47 => ?_
    try simp only [seinelaw7_lightDirsE, evs, tys]
    refine Imp.op (f := fun a => .ref (encOp a)) (fun a h => op_ix (enc := encOp) (by first | rfl | simp only [evs, tys, evl]) ⟨by first | rfl | simp only [evs, tys, evc], by decide⟩ h) (fun a => chk_GOp a) fun y49 hy49 => ?_
    try simp only [evs, tys]
    refine Imp.call (f := seinelaw7_lightSelsE) rfl (fun a h => by first | exact seinelaw7_lightSels_spec h | simpa only [evs, tys, evl] using seinelaw7_lightSels_spec h) (fun a => by first | rfl | simp only [seinelaw7_lightSelsE, evk, chks]) fun y51 hy51 => ?_
    try simp only [seinelaw7_lightSelsE, evs, tys]
    refine Imp.op (f := fun a => .ref (encOp a)) (fun a h => op_ix (enc := encOp) (by first | rfl | simp only [evs, tys, evl]) ⟨by first | rfl | simp only [evs, tys, evc], by decide⟩ h) (fun a => chk_GOp a) fun y53 hy53 => ?_
    try simp only [evs, tys]
    refine Imp.bnd (Imp.loop (seinelaw7_Light_l1_ok d i_43) ⟨by first | rfl | simp only [evs, tys, evl], rfl⟩) ?_
    rintro n_81 vy83 hy83
    obtain ⟨k_82, rfl⟩ := hy83
    refine Imp.exHit rfl (Imp.chk rfl (Imp.chk rfl ?_))
    try simp only [evs, tys]
    exact Imp.some (StepR.next ⟨by first | rfl | simp only [evs, tys, evl], rfl⟩)
  · exact Imp.some (StepR.brk ⟨i_43, by first | rfl | simp only [evs, tys, evl, elim_inl, elim_inr]⟩)
theorem seinelaw7_Light_l3_ok (d : GDoc) : ∀ st l u, seinelaw7_Light_l3R d st l u → Imp (seinelaw7_Light_l3T d st) (seinelaw7_Light_l3 O loopLim l u) (StepR (seinelaw7_Light_l3R d) (seinelaw7_Light_l3X d)) := by
  rintro ⟨n_98, i_99⟩ l u ⟨rfl, rfl⟩
  simp only [seinelaw7_Light_l3T, seinelaw7_Light_l3]
  refine Imp.chk rfl (Imp.chk rfl ?_)
  try simp only [evs, tys]
  refine Imp.cnd ?_ ?_
  · refine Imp.op (f := fun a => .ref (encFrag a)) (fun a h => op_ix (enc := encFrag) (by first | rfl | simp only [evs, tys, evl]) ⟨by first | rfl | simp only [evs, tys, evc], by decide⟩ h) (fun a => chk_GFrag a) fun y101 hy101 => ?_
    try simp only [evs, tys]
    refine Imp.call (f := seinelaw7_lightDirsE) rfl (fun a h => by first | exact seinelaw7_lightDirs_spec h | simpa only [evs, tys, evl] using seinelaw7_lightDirs_spec h) (fun a => by first | rfl | simp only [seinelaw7_lightDirsE, evk, chks]) fun y103 hy103 => ?_
    try simp only [seinelaw7_lightDirsE, evs, tys]
    refine Imp.op (f := fun a => .ref (encFrag a)) (fun a h => op_ix (enc := encFrag) (by first | rfl | simp only [evs, tys, evl]) ⟨by first | rfl | simp only [evs, tys, evc], by decide⟩ h) (fun a => chk_GFrag a) fun y105 hy105 => ?_
    try simp only [evs, tys]
    refine Imp.call (f := seinelaw7_lightSelsE) rfl (fun a h => by first | exact seinelaw7_lightSels_spec h | simpa only [evs, tys, evl] using seinelaw7_lightSels_spec h) (fun a => by first | rfl | simp only [seinelaw7_lightSelsE, evk, chks]) fun y107 hy107 => ?_
    try simp only [seinelaw7_lightSelsE, evs, tys]
    refine Imp.op (f := fun a => .ref (encFrag a)) (fun a h => op_ix (enc := encFrag) (by first | rfl | simp only [evs, tys, evl]) ⟨by first | rfl | simp only [evs, tys, evc], by decide⟩ h) (fun a => chk_GFrag a) fun y109 hy109 => ?_
    try simp only [evs, tys]
    exact Imp.some (StepR.next ⟨by first | rfl | simp only [evs, tys, evl], rfl⟩)
  · exact Imp.some (StepR.brk ⟨i_99, by first | rfl | simp only [evs, tys, evl, elim_inl, elim_inr]⟩)
theorem seinelaw7_Light_imp (d : GDoc) : Imp (seinelaw7_Light_B d) (seinelaw7_Light_T1 O loopLim d) (fun r v => v = (seinelaw7_LightE r, [])) := by
  simp only [seinelaw7_Light_B, seinelaw7_Light_T1]
  try simp only [evs, tys]
  refine Imp.bnd (Imp.loop (seinelaw7_Light_l2_ok d) ⟨by first | rfl | simp only [evs, tys, evl], rfl⟩) ?_
  rintro n_84 vy86 hy86
  obtain ⟨i_85, rfl⟩ := hy86
  refine Imp.exHit rfl (Imp.chk rfl (Imp.chk rfl ?_))
  try simp only [evs, tys]
  refine Imp.bnd (Imp.loop (seinelaw7_Light_l3_ok d) ⟨by first | rfl | simp only [evs, tys, evl], rfl⟩) ?_
  rintro n_110 vy112 hy112
  obtain ⟨i_111, rfl⟩ := hy112
  refine Imp.exHit rfl (Imp.chk rfl (Imp.chk rfl ?_))
  try simp only [evs, tys]
  exact Imp.some (by first | rfl | simp only [seinelaw7_LightE, evs, tys, evl])
theorem seinelaw7_Light_run {d : GDoc} {r : Bool} (h : seinelaw7_Light_B d = some r) : seinelaw7_Light d = some r := by
  obtain ⟨v, hv, rfl⟩ := seinelaw7_Light_imp d r h
  exact tO_of (pair_inj seinelaw7_LightEj) (OL_runD seinelaw7_Light_ds rfl rfl Try.func9 ((seinelaw7_Light_t1 _ _ d).trans hv))

theorem seinelaw13_awake_run {r : Bool} (n : Nat) (h : evalK Try.prog MT n 10 [] [] = some (seinelaw13_awakeE r, [])) : seinelaw13_awake = some r := tO_of (pair_inj seinelaw13_awakeEj) (evalK_OL (fun _ => rfl) n h)

def graph_Reach_l1 (O : Orc) (LP : LBody → LBody) : LBody := fun s3 s3u => cnd (chkL [(.sl false), (.sl true), (.sl false), (.int .i64), (.int .i64), (.sl false), (.sl false)] s3) (cnd (chkU [] s3u)
  (cnd (decide ((intV (gt s3 4)) < (intV (gt s3 3))))
   (bnd (ix 4 (.slice (esV (gt s3 2)) [] false) (.int .i64 (intV (gt s3 4)))) fun x14 => cnd (chk (.ref shFrag) x14)
   (callp O 40 [(.slice (esV (gt s3 0)) [] false), (.str (strV (gt (aggV (refV x14)) 0)))] fun x16 => cnd (chk .bool x16)
   (cnd (boolV x16)
    (callp O 40 [(.slice (esV (gt s3 1)) [] false), (.str (strV (gt (aggV (refV x14)) 0)))] fun x18 => cnd (chk .bool x18)
    (cnd (!(boolV x18))
     (bnd (apd 1 (.slice (esV (gt s3 1)) [] true) (.slice [(.str (strV (gt (aggV (refV x14)) 0)))] [] true)) fun x20 => cnd (chk (.sl true) x20)
     (some (.nrm, [(.slice (esV (gt s3 0)) [] false), (.slice (esV x20) [] true), (.slice (esV (gt s3 2)) [] false), (.int .i64 (intV (gt s3 3))), (.int .i64 (IntKind.wrap .i64 ((intV (gt s3 4)) + 1))), (.slice (esV (gt s3 5)) [] false), (.slice (esV (gt s3 6)) [] false)], [])) none)
     (some (.nrm, [(.slice (esV (gt s3 0)) [] false), (.slice (esV (gt s3 1)) [] true), (.slice (esV (gt s3 2)) [] false), (.int .i64 (intV (gt s3 3))), (.int .i64 (IntKind.wrap .i64 ((intV (gt s3 4)) + 1))), (.slice (esV (gt s3 5)) [] false), (.slice (esV (gt s3 6)) [] false)], []))) none)
    (some (.nrm, [(.slice (esV (gt s3 0)) [] false), (.slice (esV (gt s3 1)) [] true), (.slice (esV (gt s3 2)) [] false), (.int .i64 (intV (gt s3 3))), (.int .i64 (IntKind.wrap .i64 ((intV (gt s3 4)) + 1))), (.slice (esV (gt s3 5)) [] false), (.slice (esV (gt s3 6)) [] false)], []))) none) none)
   (some (.brk 0, [(.slice (esV (gt s3 0)) [] false), (.slice (esV (gt s3 1)) [] true), (.slice (esV (gt s3 2)) [] false), (.int .i64 (intV (gt s3 3))), (.int .i64 (intV (gt s3 4))), (.slice (esV (gt s3 5)) [] false), (.slice (esV (gt s3 6)) [] false)], []))) none) none
def graph_Reach_T1 (O : Orc) (LP : LBody → LBody) (d : GDoc) (l0 : List GSel) : Option (PV × UP) :=
  callp O 39 [(.agg [(.slice (List.map encOp d.ops) [] false), (.slice (List.map encFrag d.frags) [] false)]), (.slice (List.map encSel l0) [] false)] fun x1 => cnd (chk (.sl false) x1)
  (bnd (LP (graph_Reach_l1 O LP) [(.slice (esV x1) [] false), (.slice [] [] true), (.slice (List.map encFrag d.frags) [] false), (.int .i64 (List.length (List.map encFrag d.frags) : Int)), (.int .i64 0), (.slice (List.map encOp d.ops) [] false), (.slice (List.map encFrag d.frags) [] false)] []) fun y24 =>
  exIs y24.1 (some 0) (cnd (chkL [(.sl false), (.sl true), (.sl false), (.int .i64), (.int .i64), (.sl false), (.sl false)] y24.2.1) (cnd (chkU [] y24.2.2)
   (some ((.slice (esV (gt y24.2.1 1)) [] false), [])) none) none)
  (none)) none
noncomputable def graph_Reach_l1T (d : GDoc) (y2 : List Str) : ((List Str) × Int) → Option (((List Str) × Int) ⊕ ((List Str)))
  | (out_12, t_13) =>
  cnd (decide (t_13 < (List.length d.frags : Int)))
   (bnd (nthI d.frags t_13) fun y15 =>
   bnd (slices_Contains_string_string y2 y15.name) fun y17 =>
   cnd y17
    (bnd (slices_Contains_string_string out_12 y15.name) fun y19 =>
    cnd (!y19)
     (bnd (tapp out_12 [y15.name]) fun y21 =>
     some (.inl (y21, (IntKind.wrap .i64 (t_13 + 1)))))
     (some (.inl (out_12, (IntKind.wrap .i64 (t_13 + 1))))))
    (some (.inl (out_12, (IntKind.wrap .i64 (t_13 + 1))))))
   (some (.inr out_12))
abbrev graph_Reach_l1R (d : GDoc) (y2 : List Str) (st : (List Str) × Int) (l : List PV) (u : UP) : Prop := l = [(.slice (List.map PV.str y2) [] false), (.slice (List.map PV.str st.1) [] true), (.slice (List.map encFrag d.frags) [] false), (.int .i64 (List.length d.frags : Int)), (.int .i64 st.2), (.slice (List.map encOp d.ops) [] false), (.slice (List.map encFrag d.frags) [] false)] ∧ u = []
abbrev graph_Reach_l1X (d : GDoc) (y2 : List Str) (p : (List Str)) (r : Ex × List PV × UP) : Prop := (fun (p : (List Str)) => ∃ (t_23 : Int), r = (Ex.brk 0, [(.slice (List.map PV.str y2) [] false), (.slice (List.map PV.str p) [] true), (.slice (List.map encFrag d.frags) [] false), (.int .i64 (List.length d.frags : Int)), (.int .i64 t_23), (.slice (List.map encOp d.ops) [] false), (.slice (List.map encFrag d.frags) [] false)], [])) p
noncomputable def graph_Reach_B (d : GDoc) (l0 : List GSel) : Option (List Str) :=
  bnd (graph_reached d l0) fun y2 =>
  bnd (tloop (graph_Reach_l1T d y2) ([], 0)) fun out_22 =>
  some out_22
def graph_Reach_ds : Decs := { decs := [(11, (.sl false)), (17, (.ref shFrag)), (22, .bool), (27, .bool), (34, (.sl true))], ups := [], loops := [(4, [(2, 2)], ⟨[(.sl false), (.sl true), (.sl false), (.int .i64), (.int .i64), (.sl false), (.sl false)], [], [(some 0, [(.sl false), (.sl true), (.sl false), (.int .i64), (.int .i64), (.sl false), (.sl false)], [])]⟩)] }
set_option maxRecDepth 100000 in
theorem graph_Reach_t1 (O : Orc) (LP : LBody → LBody) (d : GDoc) (l0 : List GSel) : evalBodyD Try.prog (MT 11) graph_Reach_ds Try.f11.ntmps O LP Try.f11 [(.agg [(.slice (List.map encOp d.ops) [] false), (.slice (List.map encFrag d.frags) [] false)]), (.slice (List.map encSel l0) [] false)] [] = graph_Reach_T1 O LP d l0 := by kernel_rfl
theorem graph_Reach_l1_ok (d : GDoc) (y2 : List Str) : ∀ st l u, graph_Reach_l1R d y2 st l u → Imp (graph_Reach_l1T d y2 st) (graph_Reach_l1 O loopLim l u) (StepR (graph_Reach_l1R d y2) (graph_Reach_l1X d y2)) := by
  rintro ⟨out_12, t_13⟩ l u ⟨rfl, rfl⟩
  simp only [graph_Reach_l1T, graph_Reach_l1]
  refine Imp.chk rfl (Imp.chk rfl ?_)
  try simp only [evs, tys]
  refine Imp.cnd ?_ ?_
  · refine Imp.op (f := fun a => .ref (encFrag a)) (fun a h => op_ix (enc := encFrag) (by first | rfl | simp only [evs, tys, evl]) ⟨by first | rfl | simp only [evs, tys, evc], by decide⟩ h) (fun a => chk_GFrag a) fun y15 hy15 => ?_
    try simp only [evs, tys]
    refine Imp.call (f := slices_Contains_string_stringE) rfl (fun a h => by first | exact slices_Contains_string_string_spec h | simpa only [evs, tys, evl] using slices_Contains_string_string_spec h) (fun a => by first | rfl | simp only [slices_Contains_string_stringE, evk, chks]) fun y17 hy17 => ?_
    try simp only [slices_Contains_string_stringE, evs, tys]
    refine Imp.cnd ?_ ?_
    · refine Imp.call (f := slices_Contains_string_stringE) rfl (fun a h => by first | exact slices_Contains_string_string_spec h | simpa only [evs, tys, evl] using slices_Contains_string_string_spec h) (fun a => by first | rfl | simp only [slices_Contains_string_stringE, evk, chks]) fun y19 hy19 => ?_
      try simp only [slices_Contains_string_stringE, evs, tys]
      refine Imp.cnd ?_ ?_
      · refine Imp.op (f := fun a => .slice (List.map PV.str a) [] true) (fun a h => op_apd (enc := PV.str) (by first | rfl | simp only [evs, tys, evl]) (by first | rfl | simp only [evs, tys, evl]) (fun a => by first | rfl | simp only [evs, tys, evc]) h) (fun a => rfl) fun y21 hy21 => ?_
        try simp only [evs, tys]
        exact Imp.some (StepR.next ⟨by first | rfl | simp only [evs, tys, evl], rfl⟩)
      · exact Imp.some (StepR.next ⟨by first | rfl | simp only [evs, tys, evl], rfl⟩)
    · exact Imp.some (StepR.next ⟨by first | rfl | simp only [evs, tys, evl], rfl⟩)
  · exact Imp.some (StepR.brk ⟨t_13, by first | rfl | simp only [evs, tys, evl, elim_inl, elim_inr]⟩)
theorem graph_Reach_imp (d : GDoc) (l0 : List GSel) : Imp (graph_Reach_B d l0) (graph_Reach_T1 O loopLim d l0) (fun r v => v = (graph_ReachE r, [])) := by
  simp only [graph_Reach_B, graph_Reach_T1]
  try simp only [evs, tys]
  refine Imp.call (f := graph_reachedE) rfl (fun a h => by first | exact graph_reached_spec h | simpa only [evs, tys, evl] using graph_reached_spec h) (fun a => by first | rfl | simp only [graph_reachedE, evk, chks]) fun y2 hy2 => ?_
  try simp only [graph_reachedE, evs, tys]
  refine Imp.bnd (Imp.loop (graph_Reach_l1_ok d y2) ⟨by first | rfl | simp only [evs, tys, evl], rfl⟩) ?_
  rintro out_22 vy24 hy24
  obtain ⟨t_23, rfl⟩ := hy24
  refine Imp.exHit rfl (Imp.chk rfl (Imp.chk rfl ?_))
  try simp only [evs, tys]
  exact Imp.some (by first | rfl | simp only [graph_ReachE, evs, tys, evl])
theorem graph_Reach_run {d : GDoc} {l0 : List GSel} {r : List Str} (h : graph_Reach_B d l0 = some r) : graph_Reach d l0 = some r := by
  obtain ⟨v, hv, rfl⟩ := graph_Reach_imp d l0 r h
  exact tO_of (pair_inj graph_ReachEj) (OL_runD graph_Reach_ds rfl rfl Try.func11 ((graph_Reach_t1 _ _ d l0).trans hv))

def seineref1_Has_l1 (O : Orc) (LP : LBody → LBody) : LBody := fun s1 s1u => cnd (chkL [(.sl false), .str, .bool, (.int .i64)] s1) (cnd (chkU [] s1u)
  (cnd (decide ((intV (gt s1 3)) < (List.length (esV (gt s1 0)) : Int)))
   (bnd (ix 1 (.slice (esV (gt s1 0)) [] false) (.int .i64 (intV (gt s1 3)))) fun x5 => cnd (chk (.ref .str) x5)
   (cnd ((strV (refV x5)) == (strV (gt s1 1)))
    (some (.ret, [(.slice (esV (gt s1 0)) [] false), (.str (strV (gt s1 1))), (.bool true), (.int .i64 (intV (gt s1 3)))], []))
    (some (.nrm, [(.slice (esV (gt s1 0)) [] false), (.str (strV (gt s1 1))), (.bool (boolV (gt s1 2))), (.int .i64 (IntKind.wrap .i64 ((intV (gt s1 3)) + 1)))], []))) none)
   (some (.brk 0, [(.slice (esV (gt s1 0)) [] false), (.str (strV (gt s1 1))), (.bool (boolV (gt s1 2))), (.int .i64 (intV (gt s1 3)))], []))) none) none
def seineref1_Has_T1 (O : Orc) (LP : LBody → LBody) (l0 : List Str) (s : Str) : Option (PV × UP) :=
  bnd (LP (seineref1_Has_l1 O LP) [(.slice (List.map PV.str l0) [] false), (.str s), (.bool false), (.int .i64 0)] []) fun y9 =>
  exIs y9.1 (some 0) (cnd (chkL [(.sl false), .str, .bool, (.int .i64)] y9.2.1) (cnd (chkU [] y9.2.2)
   (some ((.bool false), [])) none) none)
  (exIs y9.1 none (cnd (chkL [(.sl false), .str, .bool, (.int .i64)] y9.2.1) (cnd (chkU [] y9.2.2)
   (some ((.bool (boolV (gt y9.2.1 2))), [])) none) none)
  (none))
noncomputable def seineref1_Has_l1T (l0 : List Str) (s : Str) : Int → Option (Int ⊕ (Unit ⊕ Unit))
  | i_4 =>
  cnd (decide (i_4 < (List.length l0 : Int)))
   (bnd (nthI l0 i_4) fun y6 =>
   cnd (y6 == s)
    (some (.inr (.inr ())))
    (some (.inl (IntKind.wrap .i64 (i_4 + 1)))))
   (some (.inr (.inl ())))
abbrev seineref1_Has_l1R (l0 : List Str) (s : Str) (st : Int) (l : List PV) (u : UP) : Prop := l = [(.slice (List.map PV.str l0) [] false), (.str s), (.bool false), (.int .i64 st)] ∧ u = []
abbrev seineref1_Has_l1X (l0 : List Str) (s : Str) (p : Unit ⊕ Unit) (r : Ex × List PV × UP) : Prop := elim p (fun (p : Unit) => ∃ (i_7 : Int), r = (Ex.brk 0, [(.slice (List.map PV.str l0) [] false), (.str s), (.bool false), (.int .i64 i_7)], [])) (fun q2 => (fun (p : Unit) => ∃ (i_8 : Int), r = (Ex.ret, [(.slice (List.map PV.str l0) [] false), (.str s), (.bool true), (.int .i64 i_8)], [])) q2)
noncomputable def seineref1_Has_B (l0 : List Str) (s : Str) : Option Bool :=
  bnd (tloop (seineref1_Has_l1T l0 s) 0) fun e9_2 => elim e9_2
  (fun p9 =>
   some false)
  (fun p9 =>
  some true)
def seineref1_Has_ds : Decs := { decs := [(14, (.ref .str))], ups := [], loops := [(2, [], ⟨[(.sl false), .str, .bool, (.int .i64)], [], [(some 0, [(.sl false), .str, .bool, (.int .i64)], []), (none, [(.sl false), .str, .bool, (.int .i64)], [])]⟩)] }
set_option maxRecDepth 100000 in
theorem seineref1_Has_t1 (O : Orc) (LP : LBody → LBody) (l0 : List Str) (s : Str) : evalBodyD Try.prog (MT 12) seineref1_Has_ds Try.f12.ntmps O LP Try.f12 [(.slice (List.map PV.str l0) [] false), (.str s)] [] = seineref1_Has_T1 O LP l0 s := by kernel_rfl
theorem seineref1_Has_l1_ok (l0 : List Str) (s : Str) : ∀ st l u, seineref1_Has_l1R l0 s st l u → Imp (seineref1_Has_l1T l0 s st) (seineref1_Has_l1 O loopLim l u) (StepR (seineref1_Has_l1R l0 s) (seineref1_Has_l1X l0 s)) := by
  rintro i_4 l u ⟨rfl, rfl⟩
  simp only [seineref1_Has_l1T, seineref1_Has_l1]
  refine Imp.chk rfl (Imp.chk rfl ?_)
  try simp only [evs, tys]
  refine Imp.cnd ?_ ?_
  · refine Imp.op (f := fun a => .ref (PV.str a)) (fun a h => op_ix (enc := PV.str) (by first | rfl | simp only [evs, tys, evl]) ⟨by first | rfl | simp only [evs, tys, evc], by decide⟩ h) (fun a => rfl) fun y6 hy6 => ?_
    try simp only [evs, tys]
    refine Imp.cnd ?_ ?_
    · exact Imp.some (StepR.ret ⟨i_4, by first | rfl | simp only [evs, tys, evl, elim_inl, elim_inr]⟩)
    · exact Imp.some (StepR.next ⟨by first | rfl | simp only [evs, tys, evl], rfl⟩)
  · exact Imp.some (StepR.brk ⟨i_4, by first | rfl | simp only [evs, tys, evl, elim_inl, elim_inr]⟩)
theorem seineref1_Has_imp (l0 : List Str) (s : Str) : Imp (seineref1_Has_B l0 s) (seineref1_Has_T1 O loopLim l0 s) (fun r v => v = (seineref1_HasE r, [])) := by
  simp only [seineref1_Has_B, seineref1_Has_T1]
  try simp only [evs, tys]
  refine Imp.bnd (Imp.loop (seineref1_Has_l1_ok l0 s) ⟨by first | rfl | simp only [evs, tys, evl], rfl⟩) ?_
  rintro (p | p) vy9 hy9
  · try simp only [elim_inl, elim_inr]
    obtain ⟨i_7, rfl⟩ := hy9
    refine Imp.exHit rfl (Imp.chk rfl (Imp.chk rfl ?_))
    try simp only [evs, tys]
    exact Imp.some (by first | rfl | simp only [seineref1_HasE, evs, tys, evl])
  · try simp only [elim_inl, elim_inr]
    obtain ⟨i_8, rfl⟩ := hy9
    refine Imp.exMiss rfl ?_
    refine Imp.exHit rfl (Imp.chk rfl (Imp.chk rfl ?_))
    try simp only [evs, tys]
    exact Imp.some (by first | rfl | simp only [seineref1_HasE, evs, tys, evl])
theorem seineref1_Has_run {l0 : List Str} {s : Str} {r : Bool} (h : seineref1_Has_B l0 s = some r) : seineref1_Has l0 s = some r := by
  obtain ⟨v, hv, rfl⟩ := seineref1_Has_imp l0 s r h
  exact tO_of (pair_inj seineref1_HasEj) (OL_runD seineref1_Has_ds rfl rfl Try.func12 ((seineref1_Has_t1 _ _ l0 s).trans hv))

def graph_Spreads_T1 (O : Orc) (LP : LBody → LBody) (l0 : List GSel) : Option (PV × UP) :=
  callp O 41 [(.slice [] [] true), (.slice (List.map encSel l0) [] false)] fun x1 => cnd (chk (.sl true) x1)
  (some ((.slice (esV x1) [] false), [])) none
noncomputable def graph_Spreads_B (l0 : List GSel) : Option (List Str) :=
  bnd (graph_spreads ([] : List Str) l0) fun y2 =>
  some y2
def graph_Spreads_ds : Decs := { decs := [(4, (.sl true))], ups := [], loops := [] }
set_option maxRecDepth 100000 in
theorem graph_Spreads_t1 (O : Orc) (LP : LBody → LBody) (l0 : List GSel) : evalBodyD Try.prog (MT 13) graph_Spreads_ds Try.f13.ntmps O LP Try.f13 [(.slice (List.map encSel l0) [] false)] [] = graph_Spreads_T1 O LP l0 := by kernel_rfl
theorem graph_Spreads_imp (l0 : List GSel) : Imp (graph_Spreads_B l0) (graph_Spreads_T1 O loopLim l0) (fun r v => v = (graph_SpreadsE r, [])) := by
  simp only [graph_Spreads_B, graph_Spreads_T1]
  try simp only [evs, tys]
  refine Imp.call (f := graph_spreadsE) rfl (fun a h => by first | exact graph_spreads_spec h | simpa only [evs, tys, evl] using graph_spreads_spec h) (fun a => by first | rfl | simp only [graph_spreadsE, evk, chks]) fun y2 hy2 => ?_
  try simp only [graph_spreadsE, evs, tys]
  exact Imp.some (by first | rfl | simp only [graph_SpreadsE, evs, tys, evl])
theorem graph_Spreads_run {l0 : List GSel} {r : List Str} (h : graph_Spreads_B l0 = some r) : graph_Spreads l0 = some r := by
  obtain ⟨v, hv, rfl⟩ := graph_Spreads_imp l0 r h
  exact tO_of (pair_inj graph_SpreadsEj) (OL_runD graph_Spreads_ds rfl rfl Try.func13 ((graph_Spreads_t1 _ _ l0).trans hv))

def graph_Frag_1_T1 (O : Orc) (LP : LBody → LBody) (f : GFrag) (u0_4 : Str) (u0_40 : Str) (u0_3 : Str) (u0_2 : GDoc) : Option (PV × UP) :=
  some ((.bool (f.name == u0_3)), [[(4, [(.str u0_4), (.str u0_40), (.slice [] [] true), (.slice [] [] true)]), (3, [(.str u0_3)]), (2, [(.slice (List.map encOp u0_2.ops) [] false), (.slice (List.map encFrag u0_2.frags) [] false)])]])
noncomputable def graph_Frag_1_B (f : GFrag) (u0_4 : Str) (u0_40 : Str) (u0_3 : Str) (u0_2 : GDoc) : Option Bool :=
  some (f.name == u0_3)
def graph_Frag_1_ds : Decs := { decs := [], ups := [], loops := [] }
set_option maxRecDepth 100000 in
theorem graph_Frag_1_t1 (O : Orc) (LP : LBody → LBody) (f : GFrag) (u0_4 : Str) (u0_40 : Str) (u0_3 : Str) (u0_2 : GDoc) : evalBodyD Try.prog (MT 43) graph_Frag_1_ds Try.f43.ntmps O LP Try.f43 [(.agg [(.str f.name), (.str f.on_), (.slice (List.map encDir f.dirs) [] false), (.slice (List.map encSel f.sels) [] false)]), (.ptr 1 3 0)] [[(4, [(.str u0_4), (.str u0_40), (.slice [] [] true), (.slice [] [] true)]), (3, [(.str u0_3)]), (2, [(.slice (List.map encOp u0_2.ops) [] false), (.slice (List.map encFrag u0_2.frags) [] false)])]] = graph_Frag_1_T1 O LP f u0_4 u0_40 u0_3 u0_2 := by kernel_rfl
theorem graph_Frag_1_imp (f : GFrag) (u0_4 : Str) (u0_40 : Str) (u0_3 : Str) (u0_2 : GDoc) : Imp (graph_Frag_1_B f u0_4 u0_40 u0_3 u0_2) (graph_Frag_1_T1 O loopLim f u0_4 u0_40 u0_3 u0_2) (fun r v => v = (graph_Frag_1E r, (graph_Frag_1U f u0_4 u0_40 u0_3 u0_2 r))) := by
  simp only [graph_Frag_1_B, graph_Frag_1_T1]
  try simp only [evs, tys]
  exact Imp.some (by first | rfl | simp only [graph_Frag_1E, graph_Frag_1U, evs, tys, evl])
theorem graph_Frag_1_run {f : GFrag} {u0_4 : Str} {u0_40 : Str} {u0_3 : Str} {u0_2 : GDoc} {r : Bool} (h : graph_Frag_1_B f u0_4 u0_40 u0_3 u0_2 = some r) : graph_Frag_1 f u0_4 u0_40 u0_3 u0_2 = some r := by
  obtain ⟨v, hv, rfl⟩ := graph_Frag_1_imp f u0_4 u0_40 u0_3 u0_2 r h
  exact tO_of (fun a b h => graph_Frag_1Ej a b (Prod.mk.inj h).1) (OL_runD graph_Frag_1_ds rfl rfl Try.func43 ((graph_Frag_1_t1 _ _ f u0_4 u0_40 u0_3 u0_2).trans hv))
end Go.Proofs.Ytgelaiohnmpjnab

/- Printed by symgen.py: typed functions of this seat, and why they tell what the program does. -/
set_option linter.unusedVariables false
set_option linter.unusedSimpArgs false
open Go Go.Ev Go.Ev.PV
namespace Go.Proofs.Ytgelaiohnmpjnab
def slices_IndexFunc_Frag_l1 (O : Orc) (LP : LBody → LBody) : LBody := fun s1 s1u => cnd (chkL [(.sl false), (.func 43 [] [(.ptr 1 3 0)]), (.int .i64), (.int .i64), (.int .i64)] s1) (cnd (chkU [[(4, [.str, .str, (.sl true), (.sl true)]), (3, [.str]), (2, [(.sl false), (.sl false)])]] s1u)
  (cnd (decide ((intV (gt s1 4)) < (intV (gt s1 3))))
   (bnd (ix 4 (.slice (esV (gt s1 0)) [] false) (.int .i64 (intV (gt s1 4)))) fun x7 => cnd (chk (.ref shFrag) x7)
   (bnd (O 43 [(.agg [(.str (strV (gt (aggV (refV x7)) 0))), (.str (strV (gt (aggV (refV x7)) 1))), (.slice (esV (gt (aggV (refV x7)) 2)) [] false), (.slice (esV (gt (aggV (refV x7)) 3)) [] false)]), (.ptr 2 3 0)] [[], [(4, [(.str (strV (gt (boxI (frI s1u 0) 0) 0))), (.str (strV (gt (boxI (frI s1u 0) 0) 1))), (.slice (esV (gt (boxI (frI s1u 0) 0) 2)) [] true), (.slice (esV (gt (boxI (frI s1u 0) 0) 3)) [] true)]), (3, [(.str (strV (gt (boxI (frI s1u 0) 1) 0)))]), (2, [(.slice (esV (gt (boxI (frI s1u 0) 2) 0)) [] false), (.slice (esV (gt (boxI (frI s1u 0) 2) 1)) [] false)])]]) fun x9 => cnd (chkU [[], [(4, [.str, .str, (.sl true), (.sl true)]), (3, [.str]), (2, [(.sl false), (.sl false)])]] x9.2) (cnd (chk .bool x9.1)
   (cnd (boolV x9.1)
    (some (.ret, [(.slice (esV (gt s1 0)) [] false), (.func (.func 43) [] [(.ptr 1 3 0)]), (.int .i64 (intV (gt s1 4))), (.int .i64 (intV (gt s1 3))), (.int .i64 (intV (gt s1 4)))], [[(4, [(.str (strV (gt (boxI (frI x9.2 1) 0) 0))), (.str (strV (gt (boxI (frI x9.2 1) 0) 1))), (.slice (esV (gt (boxI (frI x9.2 1) 0) 2)) [] true), (.slice (esV (gt (boxI (frI x9.2 1) 0) 3)) [] true)]), (3, [(.str (strV (gt (boxI (frI x9.2 1) 1) 0)))]), (2, [(.slice (esV (gt (boxI (frI x9.2 1) 2) 0)) [] false), (.slice (esV (gt (boxI (frI x9.2 1) 2) 1)) [] false)])]]))
    (some (.nrm, [(.slice (esV (gt s1 0)) [] false), (.func (.func 43) [] [(.ptr 1 3 0)]), (.int .i64 (intV (gt s1 2))), (.int .i64 (intV (gt s1 3))), (.int .i64 (IntKind.wrap .i64 ((intV (gt s1 4)) + 1)))], [[(4, [(.str (strV (gt (boxI (frI x9.2 1) 0) 0))), (.str (strV (gt (boxI (frI x9.2 1) 0) 1))), (.slice (esV (gt (boxI (frI x9.2 1) 0) 2)) [] true), (.slice (esV (gt (boxI (frI x9.2 1) 0) 3)) [] true)]), (3, [(.str (strV (gt (boxI (frI x9.2 1) 1) 0)))]), (2, [(.slice (esV (gt (boxI (frI x9.2 1) 2) 0)) [] false), (.slice (esV (gt (boxI (frI x9.2 1) 2) 1)) [] false)])]]))) none) none) none)
   (some (.brk 0, [(.slice (esV (gt s1 0)) [] false), (.func (.func 43) [] [(.ptr 1 3 0)]), (.int .i64 (intV (gt s1 2))), (.int .i64 (intV (gt s1 3))), (.int .i64 (intV (gt s1 4)))], [[(4, [(.str (strV (gt (boxI (frI s1u 0) 0) 0))), (.str (strV (gt (boxI (frI s1u 0) 0) 1))), (.slice (esV (gt (boxI (frI s1u 0) 0) 2)) [] true), (.slice (esV (gt (boxI (frI s1u 0) 0) 3)) [] true)]), (3, [(.str (strV (gt (boxI (frI s1u 0) 1) 0)))]), (2, [(.slice (esV (gt (boxI (frI s1u 0) 2) 0)) [] false), (.slice (esV (gt (boxI (frI s1u 0) 2) 1)) [] false)])]]))) none) none
def slices_IndexFunc_Frag_T1 (O : Orc) (LP : LBody → LBody) (s : List GFrag) (u0_4 : Str) (u0_40 : Str) (u0_3 : Str) (u0_2 : GDoc) : Option (PV × UP) :=
  bnd (LP (slices_IndexFunc_Frag_l1 O LP) [(.slice (List.map encFrag s) [] false), (.func (.func 43) [] [(.ptr 1 3 0)]), (.int .i64 0), (.int .i64 (List.length (List.map encFrag s) : Int)), (.int .i64 0)] [[(4, [(.str u0_4), (.str u0_40), (.slice [] [] true), (.slice [] [] true)]), (3, [(.str u0_3)]), (2, [(.slice (List.map encOp u0_2.ops) [] false), (.slice (List.map encFrag u0_2.frags) [] false)])]]) fun y14 =>
  exIs y14.1 (some 0) (cnd (chkL [(.sl false), (.func 43 [] [(.ptr 1 3 0)]), (.int .i64), (.int .i64), (.int .i64)] y14.2.1) (cnd (chkU [[(4, [.str, .str, (.sl true), (.sl true)]), (3, [.str]), (2, [(.sl false), (.sl false)])]] y14.2.2)
   (some ((.int .i64 (-1)), [[(4, [(.str (strV (gt (boxI (frI y14.2.2 0) 0) 0))), (.str (strV (gt (boxI (frI y14.2.2 0) 0) 1))), (.slice (esV (gt (boxI (frI y14.2.2 0) 0) 2)) [] true), (.slice (esV (gt (boxI (frI y14.2.2 0) 0) 3)) [] true)]), (3, [(.str (strV (gt (boxI (frI y14.2.2 0) 1) 0)))]), (2, [(.slice (esV (gt (boxI (frI y14.2.2 0) 2) 0)) [] false), (.slice (esV (gt (boxI (frI y14.2.2 0) 2) 1)) [] false)])]])) none) none)
  (exIs y14.1 none (cnd (chkL [(.sl false), (.func 43 [] [(.ptr 1 3 0)]), (.int .i64), (.int .i64), (.int .i64)] y14.2.1) (cnd (chkU [[(4, [.str, .str, (.sl true), (.sl true)]), (3, [.str]), (2, [(.sl false), (.sl false)])]] y14.2.2)
   (some ((.int .i64 (intV (gt y14.2.1 2))), [[(4, [(.str (strV (gt (boxI (frI y14.2.2 0) 0) 0))), (.str (strV (gt (boxI (frI y14.2.2 0) 0) 1))), (.slice (esV (gt (boxI (frI y14.2.2 0) 0) 2)) [] true), (.slice (esV (gt (boxI (frI y14.2.2 0) 0) 3)) [] true)]), (3, [(.str (strV (gt (boxI (frI y14.2.2 0) 1) 0)))]), (2, [(.slice (esV (gt (boxI (frI y14.2.2 0) 2) 0)) [] false), (.slice (esV (gt (boxI (frI y14.2.2 0) 2) 1)) [] false)])]])) none) none)
  (none))
noncomputable def slices_IndexFunc_Frag_l1T (s : List GFrag) (u0_4 : Str) (u0_40 : Str) (u0_3 : Str) (u0_2 : GDoc) : Int → Option (Int ⊕ (Unit ⊕ Int))
  | t_6 =>
  cnd (decide (t_6 < (List.length s : Int)))
   (bnd (nthI s t_6) fun y8 =>
   bnd (graph_Frag_1 y8 u0_4 u0_40 u0_3 u0_2) fun y10 =>
   cnd y10
    (some (.inr (.inr t_6)))
    (some (.inl (IntKind.wrap .i64 (t_6 + 1)))))
   (some (.inr (.inl ())))
abbrev slices_IndexFunc_Frag_l1R (s : List GFrag) (u0_4 : Str) (u0_40 : Str) (u0_3 : Str) (u0_2 : GDoc) (st : Int) (l : List PV) (u : UP) : Prop := l = [(.slice (List.map encFrag s) [] false), (.func (.func 43) [] [(.ptr 1 3 0)]), (.int .i64 0), (.int .i64 (List.length s : Int)), (.int .i64 st)] ∧ u = [[(4, [(.str u0_4), (.str u0_40), (.slice [] [] true), (.slice [] [] true)]), (3, [(.str u0_3)]), (2, [(.slice (List.map encOp u0_2.ops) [] false), (.slice (List.map encFrag u0_2.frags) [] false)])]]
abbrev slices_IndexFunc_Frag_l1X (s : List GFrag) (u0_4 : Str) (u0_40 : Str) (u0_3 : Str) (u0_2 : GDoc) (p : Unit ⊕ Int) (r : Ex × List PV × UP) : Prop := elim p (fun (p : Unit) => ∃ (t_11 : Int), r = (Ex.brk 0, [(.slice (List.map encFrag s) [] false), (.func (.func 43) [] [(.ptr 1 3 0)]), (.int .i64 0), (.int .i64 (List.length s : Int)), (.int .i64 t_11)], [[(4, [(.str u0_4), (.str u0_40), (.slice [] [] true), (.slice [] [] true)]), (3, [(.str u0_3)]), (2, [(.slice (List.map encOp u0_2.ops) [] false), (.slice (List.map encFrag u0_2.frags) [] false)])]])) (fun q2 => (fun (p : Int) => ∃ (t_13 : Int), r = (Ex.ret, [(.slice (List.map encFrag s) [] false), (.func (.func 43) [] [(.ptr 1 3 0)]), (.int .i64 p), (.int .i64 (List.length s : Int)), (.int .i64 t_13)], [[(4, [(.str u0_4), (.str u0_40), (.slice [] [] true), (.slice [] [] true)]), (3, [(.str u0_3)]), (2, [(.slice (List.map encOp u0_2.ops) [] false), (.slice (List.map encFrag u0_2.frags) [] false)])]])) q2)
noncomputable def slices_IndexFunc_Frag_B (s : List GFrag) (u0_4 : Str) (u0_40 : Str) (u0_3 : Str) (u0_2 : GDoc) : Option Int :=
  bnd (tloop (slices_IndexFunc_Frag_l1T s u0_4 u0_40 u0_3 u0_2) 0) fun e14_2 => elim e14_2
  (fun p14 =>
   some (-1))
  (fun t_12 =>
  some t_12)
def slices_IndexFunc_Frag_ds : Decs := { decs := [(14, (.ref shFrag)), (16, .bool)], ups := [(16, [[], [(4, [.str, .str, (.sl true), (.sl true)]), (3, [.str]), (2, [(.sl false), (.sl false)])]])], loops := [(2, [], ⟨[(.sl false), (.func 43 [] [(.ptr 1 3 0)]), (.int .i64), (.int .i64), (.int .i64)], [[(4, [.str, .str, (.sl true), (.sl true)]), (3, [.str]), (2, [(.sl false), (.sl false)])]], [(some 0, [(.sl false), (.func 43 [] [(.ptr 1 3 0)]), (.int .i64), (.int .i64), (.int .i64)], [[(4, [.str, .str, (.sl true), (.sl true)]), (3, [.str]), (2, [(.sl false), (.sl false)])]]), (none, [(.sl false), (.func 43 [] [(.ptr 1 3 0)]), (.int .i64), (.int .i64), (.int .i64)], [[(4, [.str, .str, (.sl true), (.sl true)]), (3, [.str]), (2, [(.sl false), (.sl false)])]])]⟩)] }
set_option maxRecDepth 100000 in
theorem slices_IndexFunc_Frag_t1 (O : Orc) (LP : LBody → LBody) (s : List GFrag) (u0_4 : Str) (u0_40 : Str) (u0_3 : Str) (u0_2 : GDoc) : evalBodyD Try.prog (MT 42) slices_IndexFunc_Frag_ds Try.f42.ntmps O LP Try.f42 [(.slice (List.map encFrag s) [] false), (.func (.func 43) [] [(.ptr 1 3 0)])] [[(4, [(.str u0_4), (.str u0_40), (.slice [] [] true), (.slice [] [] true)]), (3, [(.str u0_3)]), (2, [(.slice (List.map encOp u0_2.ops) [] false), (.slice (List.map encFrag u0_2.frags) [] false)])]] = slices_IndexFunc_Frag_T1 O LP s u0_4 u0_40 u0_3 u0_2 := by kernel_rfl
theorem slices_IndexFunc_Frag_l1_ok (s : List GFrag) (u0_4 : Str) (u0_40 : Str) (u0_3 : Str) (u0_2 : GDoc) : ∀ st l u, slices_IndexFunc_Frag_l1R s u0_4 u0_40 u0_3 u0_2 st l u → Imp (slices_IndexFunc_Frag_l1T s u0_4 u0_40 u0_3 u0_2 st) (slices_IndexFunc_Frag_l1 O loopLim l u) (StepR (slices_IndexFunc_Frag_l1R s u0_4 u0_40 u0_3 u0_2) (slices_IndexFunc_Frag_l1X s u0_4 u0_40 u0_3 u0_2)) := by
  rintro t_6 l u ⟨rfl, rfl⟩
  simp only [slices_IndexFunc_Frag_l1T, slices_IndexFunc_Frag_l1]
  refine Imp.chk rfl (Imp.chk rfl ?_)
  try simp only [evs, tys]
  refine Imp.cnd ?_ ?_
  · refine Imp.op (f := fun a => .ref (encFrag a)) (fun a h => op_ix (enc := encFrag) (by first | rfl | simp only [evs, tys, evl]) ⟨by first | rfl | simp only [evs, tys, evc], by decide⟩ h) (fun a => chk_GFrag a) fun y8 hy8 => ?_
    try simp only [evs, tys]
    refine Imp.gcall (f := graph_Frag_1E) (fu := fun a => [] :: graph_Frag_1U y8 u0_4 u0_40 u0_3 u0_2 a) (fun a h => by first | exact OL_drop rfl rfl (by first | rfl | (simp only [graph_Frag_1E, tys]; rfl)) (graph_Frag_1_spec h) | (have h' := graph_Frag_1_spec h; simp only [evs, tys, evl, graph_Frag_1U] at h'; exact OL_drop rfl rfl (by first | rfl | (simp only [graph_Frag_1E, tys]; rfl)) (h'))) (fun a => by first | rfl | simp only [graph_Frag_1E, evk, chks]) (fun a => by first | rfl | (simp only [graph_Frag_1U, evs, tys]; rfl)) fun y10 hy10 => ?_
    try simp only [graph_Frag_1E, graph_Frag_1U, evs, tys]
    refine Imp.cnd ?_ ?_
    · exact Imp.some (StepR.ret ⟨t_6, by first | rfl | simp only [evs, tys, evl, elim_inl, elim_inr]⟩)
    · exact Imp.some (StepR.next ⟨by first | rfl | simp only [evs, tys, evl], rfl⟩)
  · exact Imp.some (StepR.brk ⟨t_6, by first | rfl | simp only [evs, tys, evl, elim_inl, elim_inr]⟩)
theorem slices_IndexFunc_Frag_imp (s : List GFrag) (u0_4 : Str) (u0_40 : Str) (u0_3 : Str) (u0_2 : GDoc) : Imp (slices_IndexFunc_Frag_B s u0_4 u0_40 u0_3 u0_2) (slices_IndexFunc_Frag_T1 O loopLim s u0_4 u0_40 u0_3 u0_2) (fun r v => v = (slices_IndexFunc_FragE r, (slices_IndexFunc_FragU s u0_4 u0_40 u0_3 u0_2 r))) := by
  simp only [slices_IndexFunc_Frag_B, slices_IndexFunc_Frag_T1]
  try simp only [evs, tys]
  refine Imp.bnd (Imp.loop (slices_IndexFunc_Frag_l1_ok s u0_4 u0_40 u0_3 u0_2) ⟨by first | rfl | simp only [evs, tys, evl], rfl⟩) ?_
  rintro (p | t_12) vy14 hy14
  · try simp only [elim_inl, elim_inr]
    obtain ⟨t_11, rfl⟩ := hy14
    refine Imp.exHit rfl (Imp.chk rfl (Imp.chk rfl ?_))
    try simp only [evs, tys]
    exact Imp.some (by first | rfl | simp only [slices_IndexFunc_FragE, slices_IndexFunc_FragU, evs, tys, evl])
  · try simp only [elim_inl, elim_inr]
    obtain ⟨t_13, rfl⟩ := hy14
    refine Imp.exMiss rfl ?_
    refine Imp.exHit rfl (Imp.chk rfl (Imp.chk rfl ?_))
    try simp only [evs, tys]
    exact Imp.some (by first | rfl | simp only [slices_IndexFunc_FragE, slices_IndexFunc_FragU, evs, tys, evl])
theorem slices_IndexFunc_Frag_run {s : List GFrag} {u0_4 : Str} {u0_40 : Str} {u0_3 : Str} {u0_2 : GDoc} {r : Int} (h : slices_IndexFunc_Frag_B s u0_4 u0_40 u0_3 u0_2 = some r) : slices_IndexFunc_Frag s u0_4 u0_40 u0_3 u0_2 = some r := by
  obtain ⟨v, hv, rfl⟩ := slices_IndexFunc_Frag_imp s u0_4 u0_40 u0_3 u0_2 r h
  exact tO_of (fun a b h => slices_IndexFunc_FragEj a b (Prod.mk.inj h).1) (OL_runD slices_IndexFunc_Frag_ds rfl rfl Try.func42 ((slices_IndexFunc_Frag_t1 _ _ s u0_4 u0_40 u0_3 u0_2).trans hv))

def graph_Frag_T1 (O : Orc) (LP : LBody → LBody) (d : GDoc) (name : Str) : Option (PV × UP) :=
  bnd (O 42 [(.slice (List.map encFrag d.frags) [] false), (.func (.func 43) [] [(.ptr 1 3 0)])] [[(4, [(.str []), (.str []), (.slice [] [] true), (.slice [] [] true)]), (3, [(.str name)]), (2, [(.slice (List.map encOp d.ops) [] false), (.slice (List.map encFrag d.frags) [] false)])]]) fun x1 => cnd (chkU [[(4, [.str, .str, (.sl true), (.sl true)]), (3, [.str]), (2, [(.sl false), (.sl false)])]] x1.2) (cnd (chk (.int .i64) x1.1)
  (cnd (decide ((intV x1.1) < 0))
   (some ((.tuple [(.agg [(.str []), (.str []), (.slice [] [] false), (.slice [] [] false)]), (.bool false)]), []))
   (bnd (ix 4 (.slice (esV (gt (boxI (frI x1.2 0) 2) 1)) [] false) (.int .i64 (intV x1.1))) fun x3 => cnd (chk (.ref shFrag) x3)
   (some ((.tuple [(.agg [(.str (strV (gt (aggV (refV x3)) 0))), (.str (strV (gt (aggV (refV x3)) 1))), (.slice (esV (gt (aggV (refV x3)) 2)) [] false), (.slice (esV (gt (aggV (refV x3)) 3)) [] false)]), (.bool true)]), [])) none)) none) none
noncomputable def graph_Frag_B (d : GDoc) (name : Str) : Option (GFrag × Bool) :=
  bnd (slices_IndexFunc_Frag d.frags [] [] name d) fun y2 =>
  cnd (decide (y2 < 0))
   (some ((GFrag.mk [] [] ([] : List GDir) ([] : List GSel)), false))
   (bnd (nthI d.frags y2) fun y4 =>
   some (y4, true))
def graph_Frag_ds : Decs := { decs := [(10, (.int .i64)), (17, (.ref shFrag))], ups := [(10, [[(4, [.str, .str, (.sl true), (.sl true)]), (3, [.str]), (2, [(.sl false), (.sl false)])]])], loops := [] }
set_option maxRecDepth 100000 in
theorem graph_Frag_t1 (O : Orc) (LP : LBody → LBody) (d : GDoc) (name : Str) : evalBodyD Try.prog (MT 14) graph_Frag_ds Try.f14.ntmps O LP Try.f14 [(.agg [(.slice (List.map encOp d.ops) [] false), (.slice (List.map encFrag d.frags) [] false)]), (.str name)] [] = graph_Frag_T1 O LP d name := by kernel_rfl
theorem graph_Frag_imp (d : GDoc) (name : Str) : Imp (graph_Frag_B d name) (graph_Frag_T1 O loopLim d name) (fun r v => v = (graph_FragE r, [])) := by
  simp only [graph_Frag_B, graph_Frag_T1]
  try simp only [evs, tys]
  refine Imp.gcall (f := slices_IndexFunc_FragE) (fu := fun a => slices_IndexFunc_FragU d.frags [] [] name d a) (fun a h => by first | exact slices_IndexFunc_Frag_spec h | (have h' := slices_IndexFunc_Frag_spec h; simp only [evs, tys, evl, slices_IndexFunc_FragU] at h'; exact h')) (fun a => by first | rfl | simp only [slices_IndexFunc_FragE, evk, chks]) (fun a => by first | rfl | (simp only [slices_IndexFunc_FragU, evs, tys]; rfl)) fun y2 hy2 => ?_
  try simp only [slices_IndexFunc_FragE, slices_IndexFunc_FragU, evs, tys]
  refine Imp.cnd ?_ ?_
  · exact Imp.some (by first | rfl | simp only [graph_FragE, evs, tys, evl])
  · refine Imp.op (f := fun a => .ref (encFrag a)) (fun a h => op_ix (enc := encFrag) (by first | rfl | simp only [evs, tys, evl]) ⟨by first | rfl | simp only [evs, tys, evc], by decide⟩ h) (fun a => chk_GFrag a) fun y4 hy4 => ?_
    try simp only [evs, tys]
    exact Imp.some (by first | rfl | simp only [graph_FragE, evs, tys, evl])
theorem graph_Frag_run {d : GDoc} {name : Str} {r : GFrag × Bool} (h : graph_Frag_B d name = some r) : graph_Frag d name = some r := by
  obtain ⟨v, hv, rfl⟩ := graph_Frag_imp d name r h
  exact tO_of (pair_inj graph_FragEj) (OL_runD graph_Frag_ds rfl rfl Try.func14 ((graph_Frag_t1 _ _ d name).trans hv))

def seinelaw7_lightDirs_l1 (O : Orc) (LP : LBody → LBody) : LBody := fun s1 s1u => cnd (chkL [(.sl false), (.int .i64), (.int .i64)] s1) (cnd (chkU [] s1u)
  (cnd (decide ((intV (gt s1 2)) < (List.length (esV (gt s1 0)) : Int)))
   (bnd (ix 2 (.slice (esV (gt s1 0)) [] false) (.int .i64 (intV (gt s1 2)))) fun x10 => cnd (chk (.ref shDir) x10)
   (bnd (ix 2 (.slice (esV (gt s1 0)) [] false) (.int .i64 (intV (gt s1 2)))) fun x12 => cnd (chk (.ref shDir) x12)
   (callp O 34 [(.agg [(.int .i64 0), (.int .i64 0), (.str []), (.slice [] [] false), (.slice (esV (gt (aggV (refV x12)) 1)) [] false)])] fun x14 => cnd (chk (.int .i64) x14)
   (some (.nrm, [(.slice (esV (gt s1 0)) [] false), (.int .i64 (IntKind.wrap .i64 ((IntKind.wrap .i64 ((IntKind.wrap .i64 ((intV (gt s1 1)) + 1)) + (List.length (strV (gt (aggV (refV x10)) 0)) : Int))) + (intV x14)))), (.int .i64 (IntKind.wrap .i64 ((intV (gt s1 2)) + 1)))], [])) none) none) none)
   (some (.brk 0, [(.slice (esV (gt s1 0)) [] false), (.int .i64 (intV (gt s1 1))), (.int .i64 (intV (gt s1 2)))], []))) none) none
def seinelaw7_lightDirs_T1 (O : Orc) (LP : LBody → LBody) (l0 : List GDir) : Option (PV × UP) :=
  bnd (LP (seinelaw7_lightDirs_l1 O LP) [(.slice (List.map encDir l0) [] false), (.int .i64 0), (.int .i64 0)] []) fun y18 =>
  exIs y18.1 (some 0) (cnd (chkL [(.sl false), (.int .i64), (.int .i64)] y18.2.1) (cnd (chkU [] y18.2.2)
   (some ((.int .i64 (intV (gt y18.2.1 1))), [])) none) none)
  (none)
noncomputable def seinelaw7_lightDirs_l1T (l0 : List GDir) : (Int × Int) → Option ((Int × Int) ⊕ Int)
  | (n_8, i_9) =>
  cnd (decide (i_9 < (List.length l0 : Int)))
   (bnd (nthI l0 i_9) fun y11 =>
   bnd (nthI l0 i_9) fun y13 =>
   bnd (seinekeep_Size (GValue.mk 0 0 [] ([] : List GValue) y13.args)) fun y15 =>
   some (.inl ((IntKind.wrap .i64 ((IntKind.wrap .i64 ((IntKind.wrap .i64 (n_8 + 1)) + (List.length y11.name : Int))) + y15)), (IntKind.wrap .i64 (i_9 + 1)))))
   (some (.inr n_8))
abbrev seinelaw7_lightDirs_l1R (l0 : List GDir) (st : Int × Int) (l : List PV) (u : UP) : Prop := l = [(.slice (List.map encDir l0) [] false), (.int .i64 st.1), (.int .i64 st.2)] ∧ u = []
abbrev seinelaw7_lightDirs_l1X (l0 : List GDir) (p : Int) (r : Ex × List PV × UP) : Prop := (fun (p : Int) => ∃ (i_17 : Int), r = (Ex.brk 0, [(.slice (List.map encDir l0) [] false), (.int .i64 p), (.int .i64 i_17)], [])) p
noncomputable def seinelaw7_lightDirs_B (l0 : List GDir) : Option Int :=
  bnd (tloop (seinelaw7_lightDirs_l1T l0) (0, 0)) fun n_16 =>
  some n_16
def seinelaw7_lightDirs_ds : Decs := { decs := [(15, (.ref shDir)), (22, (.ref shDir)), (26, (.int .i64))], ups := [], loops := [(3, [], ⟨[(.sl false), (.int .i64), (.int .i64)], [], [(some 0, [(.sl false), (.int .i64), (.int .i64)], [])]⟩)] }
set_option maxRecDepth 100000 in
theorem seinelaw7_lightDirs_t1 (O : Orc) (LP : LBody → LBody) (l0 : List GDir) : evalBodyD Try.prog (MT 32) seinelaw7_lightDirs_ds Try.f32.ntmps O LP Try.f32 [(.slice (List.map encDir l0) [] false)] [] = seinelaw7_lightDirs_T1 O LP l0 := by kernel_rfl
theorem seinelaw7_lightDirs_l1_ok (l0 : List GDir) : ∀ st l u, seinelaw7_lightDirs_l1R l0 st l u → Imp (seinelaw7_lightDirs_l1T l0 st) (seinelaw7_lightDirs_l1 O loopLim l u) (StepR (seinelaw7_lightDirs_l1R l0) (seinelaw7_lightDirs_l1X l0)) := by
  rintro ⟨n_8, i_9⟩ l u ⟨rfl, rfl⟩
  simp only [seinelaw7_lightDirs_l1T, seinelaw7_lightDirs_l1]
  refine Imp.chk rfl (Imp.chk rfl ?_)
  try simp only [evs, tys]
  refine Imp.cnd ?_ ?_
  · refine Imp.op (f := fun a => .ref (encDir a)) (fun a h => op_ix (enc := encDir) (by first | rfl | simp only [evs, tys, evl]) ⟨by first | rfl | simp only [evs, tys, evc], by decide⟩ h) (fun a => chk_GDir a) fun y11 hy11 => ?_
    try simp only [evs, tys]
    refine Imp.op (f := fun a => .ref (encDir a)) (fun a h => op_ix (enc := encDir) (by first | rfl | simp only [evs, tys, evl]) ⟨by first | rfl | simp only [evs, tys, evc], by decide⟩ h) (fun a => chk_GDir a) fun y13 hy13 => ?_
    try simp only [evs, tys]
    refine Imp.call (f := seinekeep_SizeE) rfl (fun a h => by first | exact seinekeep_Size_spec h | simpa only [evs, tys, evl] using seinekeep_Size_spec h) (fun a => by first | rfl | simp only [seinekeep_SizeE, evk, chks]) fun y15 hy15 => ?_
    try simp only [seinekeep_SizeE, evs, tys]
    exact Imp.some (StepR.next ⟨by first | rfl | simp only [evs, tys, evl], rfl⟩)
  · exact Imp.some (StepR.brk ⟨i_9, by first | rfl | simp only [evs, tys, evl, elim_inl, elim_inr]⟩)
theorem seinelaw7_lightDirs_imp (l0 : List GDir) : Imp (seinelaw7_lightDirs_B l0) (seinelaw7_lightDirs_T1 O loopLim l0) (fun r v => v = (seinelaw7_lightDirsE r, [])) := by
  simp only [seinelaw7_lightDirs_B, seinelaw7_lightDirs_T1]
  try simp only [evs, tys]
  refine Imp.bnd (Imp.loop (seinelaw7_lightDirs_l1_ok l0) ⟨by first | rfl | simp only [evs, tys, evl], rfl⟩) ?_
  rintro n_16 vy18 hy18
  obtain ⟨i_17, rfl⟩ := hy18
  refine Imp.exHit rfl (Imp.chk rfl (Imp.chk rfl ?_))
  try simp only [evs, tys]
  exact Imp.some (by first | rfl | simp only [seinelaw7_lightDirsE, evs, tys, evl])
theorem seinelaw7_lightDirs_run {l0 : List GDir} {r : Int} (h : seinelaw7_lightDirs_B l0 = some r) : seinelaw7_lightDirs l0 = some r := by
  obtain ⟨v, hv, rfl⟩ := seinelaw7_lightDirs_imp l0 r h
  exact tO_of (pair_inj seinelaw7_lightDirsEj) (OL_runD seinelaw7_lightDirs_ds rfl rfl Try.func32 ((seinelaw7_lightDirs_t1 _ _ l0).trans hv))

def seinelaw7_lightSels_l1 (O : Orc) (LP : LBody → LBody) : LBody := fun s1 s1u => cnd (chkL [(.sl false), (.int .i64), (.int .i64)] s1) (cnd (chkU [] s1u)
  (cnd (decide ((intV (gt s1 2)) < (List.length (esV (gt s1 0)) : Int)))
   (bnd (ix 7 (.slice (esV (gt s1 0)) [] false) (.int .i64 (intV (gt s1 2)))) fun x22 => cnd (chk (.ref shSel) x22)
   (bnd (ix 7 (.slice (esV (gt s1 0)) [] false) (.int .i64 (intV (gt s1 2)))) fun x24 => cnd (chk (.ref shSel) x24)
   (bnd (ix 7 (.slice (esV (gt s1 0)) [] false) (.int .i64 (intV (gt s1 2)))) fun x26 => cnd (chk (.ref shSel) x26)
   (bnd (ix 7 (.slice (esV (gt s1 0)) [] false) (.int .i64 (intV (gt s1 2)))) fun x28 => cnd (chk (.ref shSel) x28)
   (callp O 34 [(.agg [(.int .i64 0), (.int .i64 0), (.str []), (.slice [] [] false), (.slice (esV (gt (aggV (refV x28)) 3)) [] false)])] fun x30 => cnd (chk (.int .i64) x30)
   (bnd (ix 7 (.slice (esV (gt s1 0)) [] false) (.int .i64 (intV (gt s1 2)))) fun x32 => cnd (chk (.ref shSel) x32)
   (callp O 32 [(.slice (esV (gt (aggV (refV x32)) 4)) [] false)] fun x34 => cnd (chk (.int .i64) x34)
   (bnd (ix 7 (.slice (esV (gt s1 0)) [] false) (.int .i64 (intV (gt s1 2)))) fun x36 => cnd (chk (.ref shSel) x36)
   (callp O 33 [(.slice (esV (gt (aggV (refV x36)) 6)) [] false)] fun x38 => cnd (chk (.int .i64) x38)
   (some (.nrm, [(.slice (esV (gt s1 0)) [] false), (.int .i64 (IntKind.wrap .i64 ((IntKind.wrap .i64 ((IntKind.wrap .i64 ((IntKind.wrap .i64 ((IntKind.wrap .i64 ((IntKind.wrap .i64 ((IntKind.wrap .i64 ((intV (gt s1 1)) + 1)) + (List.length (strV (gt (aggV (refV x22)) 2)) : Int))) + (List.length (strV (gt (aggV (refV x24)) 1)) : Int))) + (List.length (strV (gt (aggV (refV x26)) 5)) : Int))) + (intV x30))) + (intV x34))) + (intV x38)))), (.int .i64 (IntKind.wrap .i64 ((intV (gt s1 2)) + 1)))], [])) none) none) none) none) none) none) none) none) none)
   (some (.brk 0, [(.slice (esV (gt s1 0)) [] false), (.int .i64 (intV (gt s1 1))), (.int .i64 (intV (gt s1 2)))], []))) none) none
def seinelaw7_lightSels_T1 (O : Orc) (LP : LBody → LBody) (l0 : List GSel) : Option (PV × UP) :=
  bnd (LP (seinelaw7_lightSels_l1 O LP) [(.slice (List.map encSel l0) [] false), (.int .i64 0), (.int .i64 0)] []) fun y42 =>
  exIs y42.1 (some 0) (cnd (chkL [(.sl false), (.int .i64), (.int .i64)] y42.2.1) (cnd (chkU [] y42.2.2)
   (some ((.int .i64 (intV (gt y42.2.1 1))), [])) none) none)
  (none)
noncomputable def seinelaw7_lightSels_l1T (l0 : List GSel) : (Int × Int) → Option ((Int × Int) ⊕ Int)
  | (n_20, i_21) =>
  cnd (decide (i_21 < (List.length l0 : Int)))
   (bnd (nthI l0 i_21) fun y23 =>
   bnd (nthI l0 i_21) fun y25 =>
   bnd (nthI l0 i_21) fun y27 =>
   bnd (nthI l0 i_21) fun y29 =>
   bnd (seinekeep_Size (GValue.mk 0 0 [] ([] : List GValue) y29.args)) fun y31 =>
   bnd (nthI l0 i_21) fun y33 =>
   bnd (seinelaw7_lightDirs y33.dirs) fun y35 =>
   bnd (nthI l0 i_21) fun y37 =>
   bnd (seinelaw7_lightSels y37.sels) fun y39 =>
   some (.inl ((IntKind.wrap .i64 ((IntKind.wrap .i64 ((IntKind.wrap .i64 ((IntKind.wrap .i64 ((IntKind.wrap .i64 ((IntKind.wrap .i64 ((IntKind.wrap .i64 (n_20 + 1)) + (List.length y23.name : Int))) + (List.length y25.alias : Int))) + (List.length y27.on_ : Int))) + y31)) + y35)) + y39)), (IntKind.wrap .i64 (i_21 + 1)))))
   (some (.inr n_20))
abbrev seinelaw7_lightSels_l1R (l0 : List GSel) (st : Int × Int) (l : List PV) (u : UP) : Prop := l = [(.slice (List.map encSel l0) [] false), (.int .i64 st.1), (.int .i64 st.2)] ∧ u = []
abbrev seinelaw7_lightSels_l1X (l0 : List GSel) (p : Int) (r : Ex × List PV × UP) : Prop := (fun (p : Int) => ∃ (i_41 : Int), r = (Ex.brk 0, [(.slice (List.map encSel l0) [] false), (.int .i64 p), (.int .i64 i_41)], [])) p
noncomputable def seinelaw7_lightSels_B (l0 : List GSel) : Option Int :=
  bnd (tloop (seinelaw7_lightSels_l1T l0) (0, 0)) fun n_40 =>
  some n_40
def seinelaw7_lightSels_ds : Decs := { decs := [(15, (.ref shSel)), (22, (.ref shSel)), (29, (.ref shSel)), (36, (.ref shSel)), (40, (.int .i64)), (44, (.ref shSel)), (47, (.int .i64)), (51, (.ref shSel)), (54, (.int .i64))], ups := [], loops := [(3, [], ⟨[(.sl false), (.int .i64), (.int .i64)], [], [(some 0, [(.sl false), (.int .i64), (.int .i64)], [])]⟩)] }
set_option maxRecDepth 100000 in
theorem seinelaw7_lightSels_t1 (O : Orc) (LP : LBody → LBody) (l0 : List GSel) : evalBodyD Try.prog (MT 33) seinelaw7_lightSels_ds Try.f33.ntmps O LP Try.f33 [(.slice (List.map encSel l0) [] false)] [] = seinelaw7_lightSels_T1 O LP l0 := by kernel_rfl
theorem seinelaw7_lightSels_l1_ok (l0 : List GSel) : ∀ st l u, seinelaw7_lightSels_l1R l0 st l u → Imp (seinelaw7_lightSels_l1T l0 st) (seinelaw7_lightSels_l1 O loopLim l u) (StepR (seinelaw7_lightSels_l1R l0) (seinelaw7_lightSels_l1X l0)) := by
  rintro ⟨n_20, i_21⟩ l u ⟨rfl, rfl⟩
  simp only [seinelaw7_lightSels_l1T, seinelaw7_lightSels_l1]
  refine Imp.chk rfl (Imp.chk rfl ?_)
  try simp only [evs, tys]
  refine Imp.cnd ?_ ?_
  · refine Imp.op (f := fun a => .ref (encSel a)) (fun a h => op_ix (enc := encSel) (by first | rfl | simp only [evs, tys, evl]) ⟨by first | rfl | simp only [evs, tys, evc], by decide⟩ h) (fun a => chk_GSel a) fun y23 hy23 => ?_
    try simp only [evs, tys]
    refine Imp.op (f := fun a => .ref (encSel a)) (fun a h => op_ix (enc := encSel) (by first | rfl | simp only [evs, tys, evl]) ⟨by first | rfl | simp only [evs, tys, evc], by decide⟩ h) (fun a => chk_GSel a) fun y25 hy25 => ?_
    try simp only [evs, tys]
    refine Imp.op (f := fun a => .ref (encSel a)) (fun a h => op_ix (enc := encSel) (by first | rfl | simp only [evs, tys, evl]) ⟨by first | rfl | simp only [evs, tys, evc], by decide⟩ h) (fun a => chk_GSel a) fun y27 hy27 => ?_
    try simp only [evs, tys]
    refine Imp.op (f := fun a => .ref (encSel a)) (fun a h => op_ix (enc := encSel) (by first | rfl | simp only [evs, tys, evl]) ⟨by first | rfl | simp only [evs, tys, evc], by decide⟩ h) (fun a => chk_GSel a) fun y29 hy29 => ?_
    try simp only [evs, tys]
    refine Imp.call (f := seinekeep_SizeE) rfl (fun a h => by first | exact seinekeep_Size_spec h | simpa only [evs, tys, evl] using seinekeep_Size_spec h) (fun a => by first | rfl | simp only [seinekeep_SizeE, evk, chks]) fun y31 hy31 => ?_
    try simp only [seinekeep_SizeE, evs, tys]
    refine Imp.op (f := fun a => .ref (encSel a)) (fun a h => op_ix (enc := encSel) (by first | rfl | simp only [evs, tys, evl]) ⟨by first | rfl | simp only [evs, tys, evc], by decide⟩ h) (fun a => chk_GSel a) fun y33 hy33 => ?_
    try simp only [evs, tys]
    refine Imp.call (f := seinelaw7_lightDirsE) rfl (fun a h => by first | exact seinelaw7_lightDirs_spec h | simpa only [evs, tys, evl] using seinelaw7_lightDirs_spec h) (fun a => by first | rfl | simp only [seinelaw7_lightDirsE, evk, chks]) fun y35 hy35 => ?_
    try simp only [seinelaw7_lightDirsE, evs, tys]
    refine Imp.op (f := fun a => .ref (encSel a)) (fun a h => op_ix (enc := encSel) (by first | rfl | simp only [evs, tys, evl]) ⟨by first | rfl | simp only [evs, tys, evc], by decide⟩ h) (fun a => chk_GSel a) fun y37 hy37 => ?_
    try simp only [evs, tys]
    refine Imp.call (f := seinelaw7_lightSelsE) rfl (fun a h => by first | exact seinelaw7_lightSels_spec h | simpa only [evs, tys, evl] using seinelaw7_lightSels_spec h) (fun a => by first | rfl | simp only [seinelaw7_lightSelsE, evk, chks]) fun y39 hy39 => ?_
    try simp only [seinelaw7_lightSelsE, evs, tys]
    exact Imp.some (StepR.next ⟨by first | rfl | simp only [evs, tys, evl], rfl⟩)
  · exact Imp.some (StepR.brk ⟨i_21, by first | rfl | simp only [evs, tys, evl, elim_inl, elim_inr]⟩)
theorem seinelaw7_lightSels_imp (l0 : List GSel) : Imp (seinelaw7_lightSels_B l0) (seinelaw7_lightSels_T1 O loopLim l0) (fun r v => v = (seinelaw7_lightSelsE r, [])) := by
  simp only [seinelaw7_lightSels_B, seinelaw7_lightSels_T1]
  try simp only [evs, tys]
  refine Imp.bnd (Imp.loop (seinelaw7_lightSels_l1_ok l0) ⟨by first | rfl | simp only [evs, tys, evl], rfl⟩) ?_
  rintro n_40 vy42 hy42
  obtain ⟨i_41, rfl⟩ := hy42
  refine Imp.exHit rfl (Imp.chk rfl (Imp.chk rfl ?_))
  try simp only [evs, tys]
  exact Imp.some (by first | rfl | simp only [seinelaw7_lightSelsE, evs, tys, evl])
theorem seinelaw7_lightSels_run {l0 : List GSel} {r : Int} (h : seinelaw7_lightSels_B l0 = some r) : seinelaw7_lightSels l0 = some r := by
  obtain ⟨v, hv, rfl⟩ := seinelaw7_lightSels_imp l0 r h
  exact tO_of (pair_inj seinelaw7_lightSelsEj) (OL_runD seinelaw7_lightSels_ds rfl rfl Try.func33 ((seinelaw7_lightSels_t1 _ _ l0).trans hv))
end Go.Proofs.Ytgelaiohnmpjnab

/- Printed by symgen.py: typed functions of this seat, and why they tell what the program does. -/
set_option linter.unusedVariables false
set_option linter.unusedSimpArgs false
open Go Go.Ev Go.Ev.PV
namespace Go.Proofs.Ytgelaiohnmpjnab
def seinekeep_Size_l1 (O : Orc) (LP : LBody → LBody) : LBody := fun s1 s1u => cnd (chkL [(.ptr 0 1 0), (.int .i64), (.int .i64), (.int .i64), (.int .i64), .str, (.sl false), (.sl false)] s1) (cnd (chkU [] s1u)
  (cnd (decide ((intV (gt s1 2)) < (List.length (esV (gt s1 6)) : Int)))
   (bnd (ix 5 (.slice (esV (gt s1 6)) [] false) (.int .i64 (intV (gt s1 2)))) fun x8 => cnd (chk (.ref shValue) x8)
   (callp O 34 [(.agg [(.int .i64 (intV (gt (aggV (refV x8)) 0))), (.int .i64 (intV (gt (aggV (refV x8)) 1))), (.str (strV (gt (aggV (refV x8)) 2))), (.slice (esV (gt (aggV (refV x8)) 3)) [] false), (.slice (esV (gt (aggV (refV x8)) 4)) [] false)])] fun x10 => cnd (chk (.int .i64) x10)
   (some (.nrm, [(.ptr 0 1 0), (.int .i64 (IntKind.wrap .i64 ((intV (gt s1 1)) + (intV x10)))), (.int .i64 (IntKind.wrap .i64 ((intV (gt s1 2)) + 1))), (.int .i64 (intV (gt s1 3))), (.int .i64 (intV (gt s1 4))), (.str (strV (gt s1 5))), (.slice (esV (gt s1 6)) [] false), (.slice (esV (gt s1 7)) [] false)], [])) none) none)
   (some (.brk 0, [(.ptr 0 1 0), (.int .i64 (intV (gt s1 1))), (.int .i64 (intV (gt s1 2))), (.int .i64 (intV (gt s1 3))), (.int .i64 (intV (gt s1 4))), (.str (strV (gt s1 5))), (.slice (esV (gt s1 6)) [] false), (.slice (esV (gt s1 7)) [] false)], []))) none) none
def seinekeep_Size_l2 (O : Orc) (LP : LBody → LBody) : LBody := fun s15 s15u => cnd (chkL [(.ptr 0 1 0), (.int .i64), (.int .i64), (.int .i64), (.int .i64), .str, (.sl false), (.sl false)] s15) (cnd (chkU [] s15u)
  (cnd (decide ((intV (gt s15 2)) < (List.length (esV (gt s15 7)) : Int)))
   (bnd (ix 6 (.slice (esV (gt s15 7)) [] false) (.int .i64 (intV (gt s15 2)))) fun x24 => cnd (chk (.ref shMember) x24)
   (bnd (ix 6 (.slice (esV (gt s15 7)) [] false) (.int .i64 (intV (gt s15 2)))) fun x26 => cnd (chk (.ref shMember) x26)
   (callp O 34 [(.agg [(.int .i64 (intV (gt (aggV (refV x26)) 1))), (.int .i64 (intV (gt (aggV (refV x26)) 2))), (.str (strV (gt (aggV (refV x26)) 3))), (.slice (esV (gt (aggV (refV x26)) 4)) [] false), (.slice (esV (gt (aggV (refV x26)) 5)) [] false)])] fun x28 => cnd (chk (.int .i64) x28)
   (some (.nrm, [(.ptr 0 1 0), (.int .i64 (IntKind.wrap .i64 ((IntKind.wrap .i64 ((intV (gt s15 1)) + (List.length (strV (gt (aggV (refV x24)) 0)) : Int))) + (intV x28)))), (.int .i64 (IntKind.wrap .i64 ((intV (gt s15 2)) + 1))), (.int .i64 (intV (gt s15 3))), (.int .i64 (intV (gt s15 4))), (.str (strV (gt s15 5))), (.slice (esV (gt s15 6)) [] false), (.slice (esV (gt s15 7)) [] false)], [])) none) none) none)
   (some (.brk 2, [(.ptr 0 1 0), (.int .i64 (intV (gt s15 1))), (.int .i64 (intV (gt s15 2))), (.int .i64 (intV (gt s15 3))), (.int .i64 (intV (gt s15 4))), (.str (strV (gt s15 5))), (.slice (esV (gt s15 6)) [] false), (.slice (esV (gt s15 7)) [] false)], []))) none) none
def seinekeep_Size_T1 (O : Orc) (LP : LBody → LBody) (v0 : GValue) : Option (PV × UP) :=
  bnd (LP (seinekeep_Size_l1 O LP) [(.ptr 0 1 0), (.int .i64 (IntKind.wrap .i64 (1 + (List.length v0.s : Int)))), (.int .i64 0), (.int .i64 v0.kind), (.int .i64 v0.n), (.str v0.s), (.slice (List.map encValue v0.l) [] false), (.slice (List.map encMember v0.m) [] false)] []) fun y14 =>
  exIs y14.1 (some 0) (cnd (chkL [(.ptr 0 1 0), (.int .i64), (.int .i64), (.int .i64), (.int .i64), .str, (.sl false), (.sl false)] y14.2.1) (cnd (chkU [] y14.2.2)
   (bnd (LP (seinekeep_Size_l2 O LP) [(.ptr 0 1 0), (.int .i64 (intV (gt y14.2.1 1))), (.int .i64 0), (.int .i64 (intV (gt y14.2.1 3))), (.int .i64 (intV (gt y14.2.1 4))), (.str (strV (gt y14.2.1 5))), (.slice (esV (gt y14.2.1 6)) [] false), (.slice (esV (gt y14.2.1 7)) [] false)] []) fun y32 =>
   exIs y32.1 (some 2) (cnd (chkL [(.ptr 0 1 0), (.int .i64), (.int .i64), (.int .i64), (.int .i64), .str, (.sl false), (.sl false)] y32.2.1) (cnd (chkU [] y32.2.2)
    (some ((.int .i64 (intV (gt y32.2.1 1))), [])) none) none)
   (none)) none) none)
  (none)
noncomputable def seinekeep_Size_l1T (v0 : GValue) : (Int × Int) → Option ((Int × Int) ⊕ Int)
  | (n_6, i_7) =>
  cnd (decide (i_7 < (List.length v0.l : Int)))
   (bnd (nthI v0.l i_7) fun y9 =>
   bnd (seinekeep_Size y9) fun y11 =>
   some (.inl ((IntKind.wrap .i64 (n_6 + y11)), (IntKind.wrap .i64 (i_7 + 1)))))
   (some (.inr n_6))
abbrev seinekeep_Size_l1R (v0 : GValue) (st : Int × Int) (l : List PV) (u : UP) : Prop := l = [(.ptr 0 1 0), (.int .i64 st.1), (.int .i64 st.2), (.int .i64 v0.kind), (.int .i64 v0.n), (.str v0.s), (.slice (List.map encValue v0.l) [] false), (.slice (List.map encMember v0.m) [] false)] ∧ u = []
abbrev seinekeep_Size_l1X (v0 : GValue) (p : Int) (r : Ex × List PV × UP) : Prop := (fun (p : Int) => ∃ (i_13 : Int), r = (Ex.brk 0, [(.ptr 0 1 0), (.int .i64 p), (.int .i64 i_13), (.int .i64 v0.kind), (.int .i64 v0.n), (.str v0.s), (.slice (List.map encValue v0.l) [] false), (.slice (List.map encMember v0.m) [] false)], [])) p
noncomputable def seinekeep_Size_l2T (v0 : GValue) : (Int × Int) → Option ((Int × Int) ⊕ Int)
  | (n_22, i_23) =>
  cnd (decide (i_23 < (List.length v0.m : Int)))
   (bnd (nthI v0.m i_23) fun y25 =>
   bnd (nthI v0.m i_23) fun y27 =>
   bnd (seinekeep_Size y27.v) fun y29 =>
   some (.inl ((IntKind.wrap .i64 ((IntKind.wrap .i64 (n_22 + (List.length y25.name : Int))) + y29)), (IntKind.wrap .i64 (i_23 + 1)))))
   (some (.inr n_22))
abbrev seinekeep_Size_l2R (v0 : GValue) (st : Int × Int) (l : List PV) (u : UP) : Prop := l = [(.ptr 0 1 0), (.int .i64 st.1), (.int .i64 st.2), (.int .i64 v0.kind), (.int .i64 v0.n), (.str v0.s), (.slice (List.map encValue v0.l) [] false), (.slice (List.map encMember v0.m) [] false)] ∧ u = []
abbrev seinekeep_Size_l2X (v0 : GValue) (p : Int) (r : Ex × List PV × UP) : Prop := (fun (p : Int) => ∃ (i_31 : Int), r = (Ex.brk 2, [(.ptr 0 1 0), (.int .i64 p), (.int .i64 i_31), (.int .i64 v0.kind), (.int .i64 v0.n), (.str v0.s), (.slice (List.map encValue v0.l) [] false), (.slice (List.map encMember v0.m) [] false)], [])) p
noncomputable def seinekeep_Size_B (v0 : GValue) : Option Int :=
  bnd (tloop (seinekeep_Size_l1T v0) ((IntKind.wrap .i64 (1 + (List.length v0.s : Int))), 0)) fun n_12 =>
  bnd (tloop (seinekeep_Size_l2T v0) (n_12, 0)) fun n_30 =>
  some n_30
def seinekeep_Size_ds : Decs := { decs := [(21, (.ref shValue)), (23, (.int .i64)), (36, (.ref shMember)), (44, (.ref shMember)), (47, (.int .i64))], ups := [], loops := [(3, [(1, 5)], ⟨[(.ptr 0 1 0), (.int .i64), (.int .i64), (.int .i64), (.int .i64), .str, (.sl false), (.sl false)], [], [(some 0, [(.ptr 0 1 0), (.int .i64), (.int .i64), (.int .i64), (.int .i64), .str, (.sl false), (.sl false)], [])]⟩), (7, [(1, 5)], ⟨[(.ptr 0 1 0), (.int .i64), (.int .i64), (.int .i64), (.int .i64), .str, (.sl false), (.sl false)], [], [(some 2, [(.ptr 0 1 0), (.int .i64), (.int .i64), (.int .i64), (.int .i64), .str, (.sl false), (.sl false)], [])]⟩)] }
set_option maxRecDepth 100000 in
theorem seinekeep_Size_t1 (O : Orc) (LP : LBody → LBody) (v0 : GValue) : evalBodyD Try.prog (MT 34) seinekeep_Size_ds Try.f34.ntmps O LP Try.f34 [(.agg [(.int .i64 v0.kind), (.int .i64 v0.n), (.str v0.s), (.slice (List.map encValue v0.l) [] false), (.slice (List.map encMember v0.m) [] false)])] [] = seinekeep_Size_T1 O LP v0 := by kernel_rfl
theorem seinekeep_Size_l1_ok (v0 : GValue) : ∀ st l u, seinekeep_Size_l1R v0 st l u → Imp (seinekeep_Size_l1T v0 st) (seinekeep_Size_l1 O loopLim l u) (StepR (seinekeep_Size_l1R v0) (seinekeep_Size_l1X v0)) := by
  rintro ⟨n_6, i_7⟩ l u ⟨rfl, rfl⟩
  simp only [seinekeep_Size_l1T, seinekeep_Size_l1]
  refine Imp.chk rfl (Imp.chk rfl ?_)
  try simp only [evs, tys]
  refine Imp.cnd ?_ ?_
  · refine Imp.op (f := fun a => .ref (encValue a)) (fun a h => op_ix (enc := encValue) (by first | rfl | simp only [evs, tys, evl]) ⟨by first | rfl | simp only [evs, tys, evc], by decide⟩ h) (fun a => chk_GValue a) fun y9 hy9 => ?_
    try simp only [evs, tys]
    refine Imp.call (f := seinekeep_SizeE) rfl (fun a h => by first | exact seinekeep_Size_spec h | simpa only [evs, tys, evl] using seinekeep_Size_spec h) (fun a => by first | rfl | simp only [seinekeep_SizeE, evk, chks]) fun y11 hy11 => ?_
    try simp only [seinekeep_SizeE, evs, tys]
    exact Imp.some (StepR.next ⟨by first | rfl | simp only [evs, tys, evl], rfl⟩)
  · exact Imp.some (StepR.brk ⟨i_7, by first | rfl | simp only [evs, tys, evl, elim_inl, elim_inr]⟩)
theorem seinekeep_Size_l2_ok (v0 : GValue) : ∀ st l u, seinekeep_Size_l2R v0 st l u → Imp (seinekeep_Size_l2T v0 st) (seinekeep_Size_l2 O loopLim l u) (StepR (seinekeep_Size_l2R v0) (seinekeep_Size_l2X v0)) := by
  rintro ⟨n_22, i_23⟩ l u ⟨rfl, rfl⟩
  simp only [seinekeep_Size_l2T, seinekeep_Size_l2]
  refine Imp.chk rfl (Imp.chk rfl ?_)
  try simp only [evs, tys]
  refine Imp.cnd ?_ ?_
  · refine Imp.op (f := fun a => .ref (encMember a)) (fun a h => op_ix (enc := encMember) (by first | rfl | simp only [evs, tys, evl]) ⟨by first | rfl | simp only [evs, tys, evc], by decide⟩ h) (fun a => chk_GMember a) fun y25 hy25 => ?_
    try simp only [evs, tys]
    refine Imp.op (f := fun a => .ref (encMember a)) (fun a h => op_ix (enc := encMember) (by first | rfl | simp only [evs, tys, evl]) ⟨by first | rfl | simp only [evs, tys, evc], by decide⟩ h) (fun a => chk_GMember a) fun y27 hy27 => ?_
    try simp only [evs, tys]
    refine Imp.call (f := seinekeep_SizeE) rfl (fun a h => by first | exact seinekeep_Size_spec h | simpa only [evs, tys, evl] using seinekeep_Size_spec h) (fun a => by first | rfl | simp only [seinekeep_SizeE, evk, chks]) fun y29 hy29 => ?_
    try simp only [seinekeep_SizeE, evs, tys]
    exact Imp.some (StepR.next ⟨by first | rfl | simp only [evs, tys, evl], rfl⟩)
  · exact Imp.some (StepR.brk ⟨i_23, by first | rfl | simp only [evs, tys, evl, elim_inl, elim_inr]⟩)
theorem seinekeep_Size_imp (v0 : GValue) : Imp (seinekeep_Size_B v0) (seinekeep_Size_T1 O loopLim v0) (fun r v => v = (seinekeep_SizeE r, [])) := by
  simp only [seinekeep_Size_B, seinekeep_Size_T1]
  try simp only [evs, tys]
  refine Imp.bnd (Imp.loop (seinekeep_Size_l1_ok v0) ⟨by first | rfl | simp only [evs, tys, evl], rfl⟩) ?_
  rintro n_12 vy14 hy14
  obtain ⟨i_13, rfl⟩ := hy14
  refine Imp.exHit rfl (Imp.chk rfl (Imp.chk rfl ?_))
  try simp only [evs, tys]
  refine Imp.bnd (Imp.loop (seinekeep_Size_l2_ok v0) ⟨by first | rfl | simp only [evs, tys, evl], rfl⟩) ?_
  rintro n_30 vy32 hy32
  obtain ⟨i_31, rfl⟩ := hy32
  refine Imp.exHit rfl (Imp.chk rfl (Imp.chk rfl ?_))
  try simp only [evs, tys]
  exact Imp.some (by first | rfl | simp only [seinekeep_SizeE, evs, tys, evl])
theorem seinekeep_Size_run {v0 : GValue} {r : Int} (h : seinekeep_Size_B v0 = some r) : seinekeep_Size v0 = some r := by
  obtain ⟨v, hv, rfl⟩ := seinekeep_Size_imp v0 r h
  exact tO_of (pair_inj seinekeep_SizeEj) (OL_runD seinekeep_Size_ds rfl rfl Try.func34 ((seinekeep_Size_t1 _ _ v0).trans hv))

def graph_reached_l1 (O : Orc) (LP : LBody → LBody) : LBody := fun s3 s3u => cnd (chkL [(.ptr 0 2 0), (.sl true), (.int .i64), (.sl false), (.sl false)] s3) (cnd (chkU [] s3u)
  (cnd (decide ((intV (gt s3 2)) ≥ (List.length (esV (gt s3 1)) : Int)))
   (some (.brk 0, [(.ptr 0 2 0), (.slice (esV (gt s3 1)) [] true), (.int .i64 (intV (gt s3 2))), (.slice (esV (gt s3 3)) [] false), (.slice (esV (gt s3 4)) [] false)], []))
   (bnd (ix 1 (.slice (esV (gt s3 1)) [] false) (.int .i64 (intV (gt s3 2)))) fun x12 => cnd (chk (.ref .str) x12)
   (callp O 14 [(.agg [(.slice (esV (gt s3 3)) [] false), (.slice (esV (gt s3 4)) [] false)]), (.str (strV (refV x12)))] fun x14 => cnd (chk (.tup [shFrag, .bool]) x14)
   (cnd (!(boolV (gt (tupV x14) 1)))
    (some (.nrm, [(.ptr 0 2 0), (.slice (esV (gt s3 1)) [] true), (.int .i64 (IntKind.wrap .i64 ((intV (gt s3 2)) + 1))), (.slice (esV (gt s3 3)) [] false), (.slice (esV (gt s3 4)) [] false)], []))
    (callp O 41 [(.slice (esV (gt s3 1)) [] true), (.slice (esV (gt (aggV (gt (tupV x14) 0)) 3)) [] false)] fun x16 => cnd (chk (.sl true) x16)
    (some (.nrm, [(.ptr 0 2 0), (.slice (esV x16) [] true), (.int .i64 (IntKind.wrap .i64 ((intV (gt s3 2)) + 1))), (.slice (esV (gt s3 3)) [] false), (.slice (esV (gt s3 4)) [] false)], [])) none)) none) none)) none) none
def graph_reached_T1 (O : Orc) (LP : LBody → LBody) (d : GDoc) (sels : List GSel) : Option (PV × UP) :=
  callp O 41 [(.slice [] [] true), (.slice (List.map encSel sels) [] false)] fun x1 => cnd (chk (.sl true) x1)
  (bnd (LP (graph_reached_l1 O LP) [(.ptr 0 2 0), (.slice (esV x1) [] true), (.int .i64 0), (.slice (List.map encOp d.ops) [] false), (.slice (List.map encFrag d.frags) [] false)] []) fun y20 =>
  exIs y20.1 (some 0) (cnd (chkL [(.ptr 0 2 0), (.sl true), (.int .i64), (.sl false), (.sl false)] y20.2.1) (cnd (chkU [] y20.2.2)
   (some ((.slice (esV (gt y20.2.1 1)) [] false), [])) none) none)
  (none)) none
noncomputable def graph_reached_l1T (d : GDoc) (sels : List GSel) : (Int × (List Str)) → Option ((Int × (List Str)) ⊕ ((List Str)))
  | (i_10, l_11) =>
  cnd (decide (i_10 ≥ (List.length l_11 : Int)))
   (some (.inr l_11))
   (bnd (nthI l_11 i_10) fun y13 =>
   bnd (graph_Frag d y13) fun y15 =>
   cnd (!y15.2)
    (some (.inl ((IntKind.wrap .i64 (i_10 + 1)), l_11)))
    (bnd (graph_spreads l_11 y15.1.sels) fun y17 =>
    some (.inl ((IntKind.wrap .i64 (i_10 + 1)), y17))))
abbrev graph_reached_l1R (d : GDoc) (sels : List GSel) (st : Int × (List Str)) (l : List PV) (u : UP) : Prop := l = [(.ptr 0 2 0), (.slice (List.map PV.str st.2) [] true), (.int .i64 st.1), (.slice (List.map encOp d.ops) [] false), (.slice (List.map encFrag d.frags) [] false)] ∧ u = []
abbrev graph_reached_l1X (d : GDoc) (sels : List GSel) (p : (List Str)) (r : Ex × List PV × UP) : Prop := (fun (p : (List Str)) => ∃ (i_19 : Int), r = (Ex.brk 0, [(.ptr 0 2 0), (.slice (List.map PV.str p) [] true), (.int .i64 i_19), (.slice (List.map encOp d.ops) [] false), (.slice (List.map encFrag d.frags) [] false)], [])) p
noncomputable def graph_reached_B (d : GDoc) (sels : List GSel) : Option (List Str) :=
  bnd (graph_spreads ([] : List Str) sels) fun y2 =>
  bnd (tloop (graph_reached_l1T d sels) (0, y2)) fun l_18 =>
  some l_18
def graph_reached_ds : Decs := { decs := [(10, (.sl true)), (21, (.ref .str)), (23, (.tup [shFrag, .bool])), (31, (.sl true))], ups := [], loops := [(4, [(2, 2)], ⟨[(.ptr 0 2 0), (.sl true), (.int .i64), (.sl false), (.sl false)], [], [(some 0, [(.ptr 0 2 0), (.sl true), (.int .i64), (.sl false), (.sl false)], [])]⟩)] }
set_option maxRecDepth 100000 in
theorem graph_reached_t1 (O : Orc) (LP : LBody → LBody) (d : GDoc) (sels : List GSel) : evalBodyD Try.prog (MT 39) graph_reached_ds Try.f39.ntmps O LP Try.f39 [(.agg [(.slice (List.map encOp d.ops) [] false), (.slice (List.map encFrag d.frags) [] false)]), (.slice (List.map encSel sels) [] false)] [] = graph_reached_T1 O LP d sels := by kernel_rfl
theorem graph_reached_l1_ok (d : GDoc) (sels : List GSel) : ∀ st l u, graph_reached_l1R d sels st l u → Imp (graph_reached_l1T d sels st) (graph_reached_l1 O loopLim l u) (StepR (graph_reached_l1R d sels) (graph_reached_l1X d sels)) := by
  rintro ⟨i_10, l_11⟩ l u ⟨rfl, rfl⟩
  simp only [graph_reached_l1T, graph_reached_l1]
  refine Imp.chk rfl (Imp.chk rfl ?_)
  try simp only [evs, tys]
  refine Imp.cnd ?_ ?_
  · exact Imp.some (StepR.brk ⟨i_10, by first | rfl | simp only [evs, tys, evl, elim_inl, elim_inr]⟩)
  · refine Imp.op (f := fun a => .ref (PV.str a)) (fun a h => op_ix (enc := PV.str) (by first | rfl | simp only [evs, tys, evl]) ⟨by first | rfl | simp only [evs, tys, evc], by decide⟩ h) (fun a => rfl) fun y13 hy13 => ?_
    try simp only [evs, tys]
    refine Imp.call (f := graph_FragE) rfl (fun a h => by first | exact graph_Frag_spec h | simpa only [evs, tys, evl] using graph_Frag_spec h) (fun a => by first | rfl | simp only [graph_FragE, evk, chks]) fun y15 hy15 => ?_
    try simp only [graph_FragE, evs, tys]
    refine Imp.cnd ?_ ?_
    · exact Imp.some (StepR.next ⟨by first | rfl | simp only [evs, tys, evl], rfl⟩)
    · refine Imp.call (f := graph_spreadsE) rfl (fun a h => by first | exact graph_spreads_spec h | simpa only [evs, tys, evl] using graph_spreads_spec h) (fun a => by first | rfl | simp only [graph_spreadsE, evk, chks]) fun y17 hy17 => ?_
      try simp only [graph_spreadsE, evs, tys]
      exact Imp.some (StepR.next ⟨by first | rfl | simp only [evs, tys, evl], rfl⟩)
theorem graph_reached_imp (d : GDoc) (sels : List GSel) : Imp (graph_reached_B d sels) (graph_reached_T1 O loopLim d sels) (fun r v => v = (graph_reachedE r, [])) := by
  simp only [graph_reached_B, graph_reached_T1]
  try simp only [evs, tys]
  refine Imp.call (f := graph_spreadsE) rfl (fun a h => by first | exact graph_spreads_spec h | simpa only [evs, tys, evl] using graph_spreads_spec h) (fun a => by first | rfl | simp only [graph_spreadsE, evk, chks]) fun y2 hy2 => ?_
  try simp only [graph_spreadsE, evs, tys]
  refine Imp.bnd (Imp.loop (graph_reached_l1_ok d sels) ⟨by first | rfl | simp only [evs, tys, evl], rfl⟩) ?_
  rintro l_18 vy20 hy20
  obtain ⟨i_19, rfl⟩ := hy20
  refine Imp.exHit rfl (Imp.chk rfl (Imp.chk rfl ?_))
  try simp only [evs, tys]
  exact Imp.some (by first | rfl | simp only [graph_reachedE, evs, tys, evl])
theorem graph_reached_run {d : GDoc} {sels : List GSel} {r : List Str} (h : graph_reached_B d sels = some r) : graph_reached d sels = some r := by
  obtain ⟨v, hv, rfl⟩ := graph_reached_imp d sels r h
  exact tO_of (pair_inj graph_reachedEj) (OL_runD graph_reached_ds rfl rfl Try.func39 ((graph_reached_t1 _ _ d sels).trans hv))

def slices_Contains_string_string_T1 (O : Orc) (LP : LBody → LBody) (s : List Str) (v0 : Str) : Option (PV × UP) :=
  callp O 71 [(.slice (List.map PV.str s) [] false), (.str v0)] fun x1 => cnd (chk (.int .i64) x1)
  (some ((.bool (decide ((intV x1) ≥ 0))), [])) none
noncomputable def slices_Contains_string_string_B (s : List Str) (v0 : Str) : Option Bool :=
  bnd (slices_Index_string_string s v0) fun y2 =>
  some (decide (y2 ≥ 0))
def slices_Contains_string_string_ds : Decs := { decs := [(7, (.int .i64))], ups := [], loops := [] }
set_option maxRecDepth 100000 in
theorem slices_Contains_string_string_t1 (O : Orc) (LP : LBody → LBody) (s : List Str) (v0 : Str) : evalBodyD Try.prog (MT 40) slices_Contains_string_string_ds Try.f40.ntmps O LP Try.f40 [(.slice (List.map PV.str s) [] false), (.str v0)] [] = slices_Contains_string_string_T1 O LP s v0 := by kernel_rfl
theorem slices_Contains_string_string_imp (s : List Str) (v0 : Str) : Imp (slices_Contains_string_string_B s v0) (slices_Contains_string_string_T1 O loopLim s v0) (fun r v => v = (slices_Contains_string_stringE r, [])) := by
  simp only [slices_Contains_string_string_B, slices_Contains_string_string_T1]
  try simp only [evs, tys]
  refine Imp.call (f := slices_Index_string_stringE) rfl (fun a h => by first | exact slices_Index_string_string_spec h | simpa only [evs, tys, evl] using slices_Index_string_string_spec h) (fun a => by first | rfl | simp only [slices_Index_string_stringE, evk, chks]) fun y2 hy2 => ?_
  try simp only [slices_Index_string_stringE, evs, tys]
  exact Imp.some (by first | rfl | simp only [slices_Contains_string_stringE, evs, tys, evl])
theorem slices_Contains_string_string_run {s : List Str} {v0 : Str} {r : Bool} (h : slices_Contains_string_string_B s v0 = some r) : slices_Contains_string_string s v0 = some r := by
  obtain ⟨v, hv, rfl⟩ := slices_Contains_string_string_imp s v0 r h
  exact tO_of (pair_inj slices_Contains_string_stringEj) (OL_runD slices_Contains_string_string_ds rfl rfl Try.func40 ((slices_Contains_string_string_t1 _ _ s v0).trans hv))

def graph_spreads_l1 (O : Orc) (LP : LBody → LBody) : LBody := fun s1 s1u => cnd (chkL [(.sl true), (.sl false), (.int .i64), (.int .i64)] s1) (cnd (chkU [] s1u)
  (cnd (decide ((intV (gt s1 3)) < (intV (gt s1 2))))
   (bnd (ix 7 (.slice (esV (gt s1 1)) [] false) (.int .i64 (intV (gt s1 3)))) fun x16 => cnd (chk (.ref shSel) x16)
   (cnd ((intV (gt (aggV (refV x16)) 0)) == 1)
    (callp O 40 [(.slice (esV (gt s1 0)) [] false), (.str (strV (gt (aggV (refV x16)) 2)))] fun x18 => cnd (chk .bool x18)
    (cnd (!(boolV x18))
     (bnd (apd 1 (.slice (esV (gt s1 0)) [] true) (.slice [(.str (strV (gt (aggV (refV x16)) 2)))] [] true)) fun x20 => cnd (chk (.sl true) x20)
     (callp O 41 [(.slice (esV x20) [] true), (.slice (esV (gt (aggV (refV x16)) 6)) [] false)] fun x22 => cnd (chk (.sl true) x22)
     (some (.nrm, [(.slice (esV x22) [] true), (.slice (esV (gt s1 1)) [] false), (.int .i64 (intV (gt s1 2))), (.int .i64 (IntKind.wrap .i64 ((intV (gt s1 3)) + 1)))], [])) none) none)
     (callp O 41 [(.slice (esV (gt s1 0)) [] true), (.slice (esV (gt (aggV (refV x16)) 6)) [] false)] fun x24 => cnd (chk (.sl true) x24)
     (some (.nrm, [(.slice (esV x24) [] true), (.slice (esV (gt s1 1)) [] false), (.int .i64 (intV (gt s1 2))), (.int .i64 (IntKind.wrap .i64 ((intV (gt s1 3)) + 1)))], [])) none)) none)
    (callp O 41 [(.slice (esV (gt s1 0)) [] true), (.slice (esV (gt (aggV (refV x16)) 6)) [] false)] fun x26 => cnd (chk (.sl true) x26)
    (some (.nrm, [(.slice (esV x26) [] true), (.slice (esV (gt s1 1)) [] false), (.int .i64 (intV (gt s1 2))), (.int .i64 (IntKind.wrap .i64 ((intV (gt s1 3)) + 1)))], [])) none)) none)
   (some (.brk 0, [(.slice (esV (gt s1 0)) [] true), (.slice (esV (gt s1 1)) [] false), (.int .i64 (intV (gt s1 2))), (.int .i64 (intV (gt s1 3)))], []))) none) none
def graph_spreads_T1 (O : Orc) (LP : LBody → LBody) (l0 : List Str) (sels : List GSel) : Option (PV × UP) :=
  bnd (LP (graph_spreads_l1 O LP) [(.slice (List.map PV.str l0) [] true), (.slice (List.map encSel sels) [] false), (.int .i64 (List.length (List.map encSel sels) : Int)), (.int .i64 0)] []) fun y30 =>
  exIs y30.1 (some 0) (cnd (chkL [(.sl true), (.sl false), (.int .i64), (.int .i64)] y30.2.1) (cnd (chkU [] y30.2.2)
   (some ((.slice (esV (gt y30.2.1 0)) [] true), [])) none) none)
  (none)
noncomputable def graph_spreads_l1T (sels : List GSel) : ((List Str) × Int) → Option (((List Str) × Int) ⊕ ((List Str)))
  | (l_14, t_15) =>
  cnd (decide (t_15 < (List.length sels : Int)))
   (bnd (nthI sels t_15) fun y17 =>
   cnd (y17.kind == 1)
    (bnd (slices_Contains_string_string l_14 y17.name) fun y19 =>
    cnd (!y19)
     (bnd (tapp l_14 [y17.name]) fun y21 =>
     bnd (graph_spreads y21 y17.sels) fun y23 =>
     some (.inl (y23, (IntKind.wrap .i64 (t_15 + 1)))))
     (bnd (graph_spreads l_14 y17.sels) fun y25 =>
     some (.inl (y25, (IntKind.wrap .i64 (t_15 + 1))))))
    (bnd (graph_spreads l_14 y17.sels) fun y27 =>
    some (.inl (y27, (IntKind.wrap .i64 (t_15 + 1))))))
   (some (.inr l_14))
abbrev graph_spreads_l1R (sels : List GSel) (st : (List Str) × Int) (l : List PV) (u : UP) : Prop := l = [(.slice (List.map PV.str st.1) [] true), (.slice (List.map encSel sels) [] false), (.int .i64 (List.length sels : Int)), (.int .i64 st.2)] ∧ u = []
abbrev graph_spreads_l1X (sels : List GSel) (p : (List Str)) (r : Ex × List PV × UP) : Prop := (fun (p : (List Str)) => ∃ (t_29 : Int), r = (Ex.brk 0, [(.slice (List.map PV.str p) [] true), (.slice (List.map encSel sels) [] false), (.int .i64 (List.length sels : Int)), (.int .i64 t_29)], [])) p
noncomputable def graph_spreads_B (l0 : List Str) (sels : List GSel) : Option (List Str) :=
  bnd (tloop (graph_spreads_l1T sels) (l0, 0)) fun l_28 =>
  some l_28
def graph_spreads_ds : Decs := { decs := [(11, (.ref shSel)), (20, .bool), (27, (.sl true)), (31, (.sl true))], ups := [], loops := [(2, [], ⟨[(.sl true), (.sl false), (.int .i64), (.int .i64)], [], [(some 0, [(.sl true), (.sl false), (.int .i64), (.int .i64)], [])]⟩)] }
set_option maxRecDepth 100000 in
theorem graph_spreads_t1 (O : Orc) (LP : LBody → LBody) (l0 : List Str) (sels : List GSel) : evalBodyD Try.prog (MT 41) graph_spreads_ds Try.f41.ntmps O LP Try.f41 [(.slice (List.map PV.str l0) [] true), (.slice (List.map encSel sels) [] false)] [] = graph_spreads_T1 O LP l0 sels := by kernel_rfl
theorem graph_spreads_l1_ok (sels : List GSel) : ∀ st l u, graph_spreads_l1R sels st l u → Imp (graph_spreads_l1T sels st) (graph_spreads_l1 O loopLim l u) (StepR (graph_spreads_l1R sels) (graph_spreads_l1X sels)) := by
  rintro ⟨l_14, t_15⟩ l u ⟨rfl, rfl⟩
  simp only [graph_spreads_l1T, graph_spreads_l1]
  refine Imp.chk rfl (Imp.chk rfl ?_)
  try simp only [evs, tys]
  refine Imp.cnd ?_ ?_
  · refine Imp.op (f := fun a => .ref (encSel a)) (fun a h => op_ix (enc := encSel) (by first | rfl | simp only [evs, tys, evl]) ⟨by first | rfl | simp only [evs, tys, evc], by decide⟩ h) (fun a => chk_GSel a) fun y17 hy17 => ?_
    try simp only [evs, tys]
    refine Imp.cnd ?_ ?_
    · refine Imp.call (f := slices_Contains_string_stringE) rfl (fun a h => by first | exact slices_Contains_string_string_spec h | simpa only [evs, tys, evl] using slices_Contains_string_string_spec h) (fun a => by first | rfl | simp only [slices_Contains_string_stringE, evk, chks]) fun y19 hy19 => ?_
      try simp only [slices_Contains_string_stringE, evs, tys]
      refine Imp.cnd ?_ ?_
      · refine Imp.op (f := fun a => .slice (List.map PV.str a) [] true) (fun a h => op_apd (enc := PV.str) (by first | rfl | simp only [evs, tys, evl]) (by first | rfl | simp only [evs, tys, evl]) (fun a => by first | rfl | simp only [evs, tys, evc]) h) (fun a => rfl) fun y21 hy21 => ?_
        try simp only [evs, tys]
        refine Imp.call (f := graph_spreadsE) rfl (fun a h => by first | exact graph_spreads_spec h | simpa only [evs, tys, evl] using graph_spreads_spec h) (fun a => by first | rfl | simp only [graph_spreadsE, evk, chks]) fun y23 hy23 => ?_
        try simp only [graph_spreadsE, evs, tys]
        exact Imp.some (StepR.next ⟨by first | rfl | simp only [evs, tys, evl], rfl⟩)
      · refine Imp.call (f := graph_spreadsE) rfl (fun a h => by first | exact graph_spreads_spec h | simpa only [evs, tys, evl] using graph_spreads_spec h) (fun a => by first | rfl | simp only [graph_spreadsE, evk, chks]) fun y25 hy25 => ?_
        try simp only [graph_spreadsE, evs, tys]
        exact Imp.some (StepR.next ⟨by first | rfl | simp only [evs, tys, evl], rfl⟩)
    · refine Imp.call (f := graph_spreadsE) rfl (fun a h => by first | exact graph_spreads_spec h | simpa only [evs, tys, evl] using graph_spreads_spec h) (fun a => by first | rfl | simp only [graph_spreadsE, evk, chks]) fun y27 hy27 => ?_
      try simp only [graph_spreadsE, evs, tys]
      exact Imp.some (StepR.next ⟨by first | rfl | simp only [evs, tys, evl], rfl⟩)
  · exact Imp.some (StepR.brk ⟨t_15, by first | rfl | simp only [evs, tys, evl, elim_inl, elim_inr]⟩)
theorem graph_spreads_imp (l0 : List Str) (sels : List GSel) : Imp (graph_spreads_B l0 sels) (graph_spreads_T1 O loopLim l0 sels) (fun r v => v = (graph_spreadsE r, [])) := by
  simp only [graph_spreads_B, graph_spreads_T1]
  try simp only [evs, tys]
  refine Imp.bnd (Imp.loop (graph_spreads_l1_ok sels) ⟨by first | rfl | simp only [evs, tys, evl], rfl⟩) ?_
  rintro l_28 vy30 hy30
  obtain ⟨t_29, rfl⟩ := hy30
  refine Imp.exHit rfl (Imp.chk rfl (Imp.chk rfl ?_))
  try simp only [evs, tys]
  exact Imp.some (by first | rfl | simp only [graph_spreadsE, evs, tys, evl])
theorem graph_spreads_run {l0 : List Str} {sels : List GSel} {r : List Str} (h : graph_spreads_B l0 sels = some r) : graph_spreads l0 sels = some r := by
  obtain ⟨v, hv, rfl⟩ := graph_spreads_imp l0 sels r h
  exact tO_of (pair_inj graph_spreadsEj) (OL_runD graph_spreads_ds rfl rfl Try.func41 ((graph_spreads_t1 _ _ l0 sels).trans hv))

def slices_Index_string_string_l1 (O : Orc) (LP : LBody → LBody) : LBody := fun s1 s1u => cnd (chkL [(.sl false), .str, (.int .i64), (.int .i64), (.int .i64)] s1) (cnd (chkU [] s1u)
  (cnd (decide ((intV (gt s1 4)) < (intV (gt s1 3))))
   (bnd (ix 1 (.slice (esV (gt s1 0)) [] false) (.int .i64 (intV (gt s1 4)))) fun x5 => cnd (chk (.ref .str) x5)
   (cnd ((strV (gt s1 1)) == (strV (refV x5)))
    (some (.ret, [(.slice (esV (gt s1 0)) [] false), (.str (strV (gt s1 1))), (.int .i64 (intV (gt s1 4))), (.int .i64 (intV (gt s1 3))), (.int .i64 (intV (gt s1 4)))], []))
    (some (.nrm, [(.slice (esV (gt s1 0)) [] false), (.str (strV (gt s1 1))), (.int .i64 (intV (gt s1 2))), (.int .i64 (intV (gt s1 3))), (.int .i64 (IntKind.wrap .i64 ((intV (gt s1 4)) + 1)))], []))) none)
   (some (.brk 0, [(.slice (esV (gt s1 0)) [] false), (.str (strV (gt s1 1))), (.int .i64 (intV (gt s1 2))), (.int .i64 (intV (gt s1 3))), (.int .i64 (intV (gt s1 4)))], []))) none) none
def slices_Index_string_string_T1 (O : Orc) (LP : LBody → LBody) (s : List Str) (v0 : Str) : Option (PV × UP) :=
  bnd (LP (slices_Index_string_string_l1 O LP) [(.slice (List.map PV.str s) [] false), (.str v0), (.int .i64 0), (.int .i64 (List.length (List.map PV.str s) : Int)), (.int .i64 0)] []) fun y10 =>
  exIs y10.1 (some 0) (cnd (chkL [(.sl false), .str, (.int .i64), (.int .i64), (.int .i64)] y10.2.1) (cnd (chkU [] y10.2.2)
   (some ((.int .i64 (-1)), [])) none) none)
  (exIs y10.1 none (cnd (chkL [(.sl false), .str, (.int .i64), (.int .i64), (.int .i64)] y10.2.1) (cnd (chkU [] y10.2.2)
   (some ((.int .i64 (intV (gt y10.2.1 2))), [])) none) none)
  (none))
noncomputable def slices_Index_string_string_l1T (s : List Str) (v0 : Str) : Int → Option (Int ⊕ (Unit ⊕ Int))
  | t_4 =>
  cnd (decide (t_4 < (List.length s : Int)))
   (bnd (nthI s t_4) fun y6 =>
   cnd (v0 == y6)
    (some (.inr (.inr t_4)))
    (some (.inl (IntKind.wrap .i64 (t_4 + 1)))))
   (some (.inr (.inl ())))
abbrev slices_Index_string_string_l1R (s : List Str) (v0 : Str) (st : Int) (l : List PV) (u : UP) : Prop := l = [(.slice (List.map PV.str s) [] false), (.str v0), (.int .i64 0), (.int .i64 (List.length s : Int)), (.int .i64 st)] ∧ u = []
abbrev slices_Index_string_string_l1X (s : List Str) (v0 : Str) (p : Unit ⊕ Int) (r : Ex × List PV × UP) : Prop := elim p (fun (p : Unit) => ∃ (t_7 : Int), r = (Ex.brk 0, [(.slice (List.map PV.str s) [] false), (.str v0), (.int .i64 0), (.int .i64 (List.length s : Int)), (.int .i64 t_7)], [])) (fun q2 => (fun (p : Int) => ∃ (t_9 : Int), r = (Ex.ret, [(.slice (List.map PV.str s) [] false), (.str v0), (.int .i64 p), (.int .i64 (List.length s : Int)), (.int .i64 t_9)], [])) q2)
noncomputable def slices_Index_string_string_B (s : List Str) (v0 : Str) : Option Int :=
  bnd (tloop (slices_Index_string_string_l1T s v0) 0) fun e10_2 => elim e10_2
  (fun p10 =>
   some (-1))
  (fun t_8 =>
  some t_8)
def slices_Index_string_string_ds : Decs := { decs := [(14, (.ref .str))], ups := [], loops := [(2, [], ⟨[(.sl false), .str, (.int .i64), (.int .i64), (.int .i64)], [], [(some 0, [(.sl false), .str, (.int .i64), (.int .i64), (.int .i64)], []), (none, [(.sl false), .str, (.int .i64), (.int .i64), (.int .i64)], [])]⟩)] }
set_option maxRecDepth 100000 in
theorem slices_Index_string_string_t1 (O : Orc) (LP : LBody → LBody) (s : List Str) (v0 : Str) : evalBodyD Try.prog (MT 71) slices_Index_string_string_ds Try.f71.ntmps O LP Try.f71 [(.slice (List.map PV.str s) [] false), (.str v0)] [] = slices_Index_string_string_T1 O LP s v0 := by kernel_rfl
theorem slices_Index_string_string_l1_ok (s : List Str) (v0 : Str) : ∀ st l u, slices_Index_string_string_l1R s v0 st l u → Imp (slices_Index_string_string_l1T s v0 st) (slices_Index_string_string_l1 O loopLim l u) (StepR (slices_Index_string_string_l1R s v0) (slices_Index_string_string_l1X s v0)) := by
  rintro t_4 l u ⟨rfl, rfl⟩
  simp only [slices_Index_string_string_l1T, slices_Index_string_string_l1]
  refine Imp.chk rfl (Imp.chk rfl ?_)
  try simp only [evs, tys]
  refine Imp.cnd ?_ ?_
  · refine Imp.op (f := fun a => .ref (PV.str a)) (fun a h => op_ix (enc := PV.str) (by first | rfl | simp only [evs, tys, evl]) ⟨by first | rfl | simp only [evs, tys, evc], by decide⟩ h) (fun a => rfl) fun y6 hy6 => ?_
    try simp only [evs, tys]
    refine Imp.cnd ?_ ?_
    · exact Imp.some (StepR.ret ⟨t_4, by first | rfl | simp only [evs, tys, evl, elim_inl, elim_inr]⟩)
    · exact Imp.some (StepR.next ⟨by first | rfl | simp only [evs, tys, evl], rfl⟩)
  · exact Imp.some (StepR.brk ⟨t_4, by first | rfl | simp only [evs, tys, evl, elim_inl, elim_inr]⟩)
theorem slices_Index_string_string_imp (s : List Str) (v0 : Str) : Imp (slices_Index_string_string_B s v0) (slices_Index_string_string_T1 O loopLim s v0) (fun r v => v = (slices_Index_string_stringE r, [])) := by
  simp only [slices_Index_string_string_B, slices_Index_string_string_T1]
  try simp only [evs, tys]
  refine Imp.bnd (Imp.loop (slices_Index_string_string_l1_ok s v0) ⟨by first | rfl | simp only [evs, tys, evl], rfl⟩) ?_
  rintro (p | t_8) vy10 hy10
  · try simp only [elim_inl, elim_inr]
    obtain ⟨t_7, rfl⟩ := hy10
    refine Imp.exHit rfl (Imp.chk rfl (Imp.chk rfl ?_))
    try simp only [evs, tys]
    exact Imp.some (by first | rfl | simp only [slices_Index_string_stringE, evs, tys, evl])
  · try simp only [elim_inl, elim_inr]
    obtain ⟨t_9, rfl⟩ := hy10
    refine Imp.exMiss rfl ?_
    refine Imp.exHit rfl (Imp.chk rfl (Imp.chk rfl ?_))
    try simp only [evs, tys]
    exact Imp.some (by first | rfl | simp only [slices_Index_string_stringE, evs, tys, evl])
theorem slices_Index_string_string_run {s : List Str} {v0 : Str} {r : Int} (h : slices_Index_string_string_B s v0 = some r) : slices_Index_string_string s v0 = some r := by
  obtain ⟨v, hv, rfl⟩ := slices_Index_string_string_imp s v0 r h
  exact tO_of (pair_inj slices_Index_string_stringEj) (OL_runD slices_Index_string_string_ds rfl rfl Try.func71 ((slices_Index_string_string_t1 _ _ s v0).trans hv))
end Go.Proofs.Ytgelaiohnmpjnab



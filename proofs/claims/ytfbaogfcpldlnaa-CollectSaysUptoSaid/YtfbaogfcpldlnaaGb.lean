import Derived.Test.YtfbaogfcpldlnaaGa
set_option linter.unusedVariables false
set_option linter.unusedSimpArgs false
set_option linter.unusedSimpArgs false
open Go Go.Ev Go.Ev.PV
namespace Go.Proofs.Ytfbaogfcpldlnaa
def seinelaw25_CollectSays_l1 (O : Orc) (LP : LBody → LBody) : LBody := fun s11 s11u => cnd (chkL [(.sl false), .str, (.sl false), (.ptr 0 5 0), (.ptr 0 6 0), .bool, (.sl false), (.int .i64), (.sl false), (.sl false), (.sl false), .str, .str] s11) (cnd (chkU [] s11u)
 (cnd (decide ((intV (gt s11 7)) < (List.length (esV (gt s11 2)) : Int)))
 (bnd (ix 7 (.slice (esV (gt s11 6)) [] false) (.int .i64 (intV (gt s11 7)))) fun x21 => cnd (chk (.ref shSel) x21)
 (callp O 15 [(.slice (esV (gt s11 0)) [] false), (.slice (esV (gt (aggV (refV x21)) 4)) [] false)] fun x23 => cnd (chk .bool x23)
 (bnd (ix 7 (.slice (esV (gt s11 2)) [] false) (.int .i64 (intV (gt s11 7)))) fun x25 => cnd (chk (.ref shSel) x25)
 (callp O 16 [(.slice (esV (gt s11 0)) [] false), (.slice (esV (gt (aggV (refV x25)) 4)) [] false)] fun x27 => cnd (chk .bool x27)
 (cnd (!((boolV x23) == (boolV x27)))
 (some (.ret, [(.slice (esV (gt s11 0)) [] false), (.str (strV (gt s11 1))), (.slice (esV (gt s11 2)) [] false), (.ptr 0 5 0), (.ptr 0 6 0), (.bool false), (.slice (esV (gt s11 6)) [] false), (.int .i64 (intV (gt s11 7))), (.slice (esV (gt s11 8)) [] false), (.slice (esV (gt s11 9)) [] false), (.slice (esV (gt s11 10)) [] false), (.str (strV (gt s11 11))), (.str (strV (gt s11 12)))], []))
 (some (.nrm, [(.slice (esV (gt s11 0)) [] false), (.str (strV (gt s11 1))), (.slice (esV (gt s11 2)) [] false), (.ptr 0 5 0), (.ptr 0 6 0), (.bool (boolV (gt s11 5))), (.slice (esV (gt s11 6)) [] false), (.int .i64 (IntKind.wrap .i64 ((intV (gt s11 7)) + 1))), (.slice (esV (gt s11 8)) [] false), (.slice (esV (gt s11 9)) [] false), (.slice (esV (gt s11 10)) [] false), (.str (strV (gt s11 11))), (.str (strV (gt s11 12)))], []))) none) none) none) none)
 (some (.brk 0, [(.slice (esV (gt s11 0)) [] false), (.str (strV (gt s11 1))), (.slice (esV (gt s11 2)) [] false), (.ptr 0 5 0), (.ptr 0 6 0), (.bool (boolV (gt s11 5))), (.slice (esV (gt s11 6)) [] false), (.int .i64 (intV (gt s11 7))), (.slice (esV (gt s11 8)) [] false), (.slice (esV (gt s11 9)) [] false), (.slice (esV (gt s11 10)) [] false), (.str (strV (gt s11 11))), (.str (strV (gt s11 12)))], []))) none) none
def seinelaw25_CollectSays_T1 (O : Orc) (LP : LBody → LBody) (s : GSchema) (d : GDoc) (env : List GMember) (typ : Str) (l0 : List GSel) : Option (PV × UP) :=
 callp O 11 [(.agg [(.slice (List.map encDef s.defs) [] false), (.str s.query), (.str s.mutation)]), (.agg [(.slice (List.map encOp d.ops) [] false), (.slice (List.map encFrag d.frags) [] false)]), (.slice (List.map encSel l0) [] false)] fun x1 => cnd (chk .bool x1)
 (cnd (!(boolV x1))
 (callp O 13 [] fun x3 => cnd (chk .bool x3)
 (some ((.bool (boolV x3)), [])) none)
 (callp O 12 [(.agg [(.int .i64 0), (.int .i64 0), (.str []), (.slice [] [] false), (.slice (List.map encMember env) [] false)])] fun x5 => cnd (chk (.int .i64) x5)
 (cnd (decide ((IntKind.wrap .i64 ((List.length typ : Int) + (intV x5))) > 2000))
 (callp O 13 [] fun x7 => cnd (chk .bool x7)
 (some ((.bool (boolV x7)), [])) none)
 (callp O 14 [(.slice (List.map encSel l0) [] false)] fun x9 => cnd (chk (.sl false) x9)
 (bnd (LP (seinelaw25_CollectSays_l1 O LP) [(.slice (List.map encMember env) [] false), (.str typ), (.slice (List.map encSel l0) [] false), (.ptr 0 5 0), (.ptr 0 6 0), (.bool false), (.slice (esV x9) [] false), (.int .i64 0), (.slice (List.map encOp d.ops) [] false), (.slice (List.map encFrag d.frags) [] false), (.slice (List.map encDef s.defs) [] false), (.str s.query), (.str s.mutation)] []) fun y31 =>
 exIs y31.1 (some 0) (cnd (chkL [(.sl false), .str, (.sl false), (.ptr 0 5 0), (.ptr 0 6 0), .bool, (.sl false), (.int .i64), (.sl false), (.sl false), (.sl false), .str, .str] y31.2.1) (cnd (chkU [] y31.2.2)
 (callp O 18 [(.agg [(.slice (esV (gt y31.2.1 10)) [] false), (.str (strV (gt y31.2.1 11))), (.str (strV (gt y31.2.1 12)))]), (.agg [(.slice (esV (gt y31.2.1 8)) [] false), (.slice (esV (gt y31.2.1 9)) [] false)]), (.slice (esV (gt y31.2.1 0)) [] false), (.str (strV (gt y31.2.1 1))), (.slice (esV (gt y31.2.1 6)) [] false)] fun x32 => cnd (chk (.sl false) x32)
 (callp O 19 [(.agg [(.slice (esV (gt y31.2.1 10)) [] false), (.str (strV (gt y31.2.1 11))), (.str (strV (gt y31.2.1 12)))]), (.agg [(.slice (esV (gt y31.2.1 8)) [] false), (.slice (esV (gt y31.2.1 9)) [] false)]), (.slice (esV (gt y31.2.1 0)) [] false), (.str (strV (gt y31.2.1 1))), (.slice (esV (gt y31.2.1 2)) [] false)] fun x34 => cnd (chk (.sl false) x34)
 (callp O 17 [(.slice (esV x32) [] false), (.slice (esV x34) [] false)] fun x36 => cnd (chk .bool x36)
 (cnd (boolV x36)
 (callp O 20 [(.slice (esV (gt y31.2.1 6)) [] false), (.slice (esV (gt y31.2.1 2)) [] false)] fun x38 => cnd (chk .bool x38)
 (cnd (boolV x38)
 (callp O 13 [] fun x40 => cnd (chk .bool x40)
 (some ((.bool (boolV x40)), [])) none)
 (some ((.bool false), []))) none)
 (some ((.bool false), []))) none) none) none) none) none)
 (exIs y31.1 none (cnd (chkL [(.sl false), .str, (.sl false), (.ptr 0 5 0), (.ptr 0 6 0), .bool, (.sl false), (.int .i64), (.sl false), (.sl false), (.sl false), .str, .str] y31.2.1) (cnd (chkU [] y31.2.2)
 (some ((.bool (boolV (gt y31.2.1 5))), [])) none) none)
 (none))) none)) none)) none
noncomputable def seinelaw25_CollectSays_l1T (env : List GMember) (l0 : List GSel) (y10 : List GSel) : Int → Option (Int ⊕ (Unit ⊕ Unit))
 | i_20 =>
 cnd (decide (i_20 < (List.length l0 : Int)))
  (bnd (nthI y10 i_20) fun y22 =>
  bnd (collect_Holds env y22.dirs) fun y24 =>
  bnd (nthI l0 i_20) fun y26 =>
  bnd (seineref23_Holds env y26.dirs) fun y28 =>
  cnd (!(y24 == y28))
  (some (.inr (.inr ())))
  (some (.inl (IntKind.wrap .i64 (i_20 + 1)))))
  (some (.inr (.inl ())))
abbrev seinelaw25_CollectSays_l1R (s : GSchema) (d : GDoc) (env : List GMember) (typ : Str) (l0 : List GSel) (y10 : List GSel) (st : Int) (l : List PV) (u : UP) : Prop := l = [(.slice (List.map encMember env) [] false), (.str typ), (.slice (List.map encSel l0) [] false), (.ptr 0 5 0), (.ptr 0 6 0), (.bool false), (.slice (List.map encSel y10) [] false), (.int .i64 st), (.slice (List.map encOp d.ops) [] false), (.slice (List.map encFrag d.frags) [] false), (.slice (List.map encDef s.defs) [] false), (.str s.query), (.str s.mutation)] ∧ u = []
abbrev seinelaw25_CollectSays_l1X (s : GSchema) (d : GDoc) (env : List GMember) (typ : Str) (l0 : List GSel) (y10 : List GSel) (p : Unit ⊕ Unit) (r : Ex × List PV × UP) : Prop := elim p (fun (p : Unit) => ∃ (i_29 : Int), r = (Ex.brk 0, [(.slice (List.map encMember env) [] false), (.str typ), (.slice (List.map encSel l0) [] false), (.ptr 0 5 0), (.ptr 0 6 0), (.bool false), (.slice (List.map encSel y10) [] false), (.int .i64 i_29), (.slice (List.map encOp d.ops) [] false), (.slice (List.map encFrag d.frags) [] false), (.slice (List.map encDef s.defs) [] false), (.str s.query), (.str s.mutation)], [])) (fun q2 => (fun (p : Unit) => ∃ (i_30 : Int), r = (Ex.ret, [(.slice (List.map encMember env) [] false), (.str typ), (.slice (List.map encSel l0) [] false), (.ptr 0 5 0), (.ptr 0 6 0), (.bool false), (.slice (List.map encSel y10) [] false), (.int .i64 i_30), (.slice (List.map encOp d.ops) [] false), (.slice (List.map encFrag d.frags) [] false), (.slice (List.map encDef s.defs) [] false), (.str s.query), (.str s.mutation)], [])) q2)
noncomputable def seinelaw25_CollectSays_B (s : GSchema) (d : GDoc) (env : List GMember) (typ : Str) (l0 : List GSel) : Option Bool :=
 bnd (seinelaw25_light s d l0) fun y2 =>
 cnd (!y2)
 (bnd (seinelaw25_awake) fun y4 =>
 some y4)
 (bnd (seinekeep_Size (GValue.mk 0 0 [] ([] : List GValue) env)) fun y6 =>
 cnd (decide ((IntKind.wrap .i64 ((List.length typ : Int) + y6)) > 2000))
 (bnd (seinelaw25_awake) fun y8 =>
 some y8)
 (bnd (seinekeep_Sels l0) fun y10 =>
 bnd (tloop (seinelaw25_CollectSays_l1T env l0 y10) 0) fun e31_2 => elim e31_2
 (fun p31 =>
 bnd (collect_Groups s d env typ y10) fun y33 =>
 bnd (seineref23_Groups s d env typ l0) fun y35 =>
 bnd (seinelaw25_sameGroups y33 y35) fun y37 =>
 cnd y37
 (bnd (seineref6_SameSels y10 l0) fun y39 =>
 cnd y39
 (bnd (seinelaw25_awake) fun y41 =>
 some y41)
 (some false))
 (some false))
 (fun p31 =>
 some false)))
def seinelaw25_CollectSays_ds : Decs := { decs := [(16, .bool), (23, (.int .i64)), (27, .bool), (29, (.sl false)), (39, (.ref shSel)), (42, .bool), (46, (.ref shSel)), (49, .bool), (56, (.sl false)), (62, (.sl false)), (63, .bool), (67, .bool), (70, .bool)], ups := [], loops := [(5, [(6, 2), (5, 3)], ⟨[(.sl false), .str, (.sl false), (.ptr 0 5 0), (.ptr 0 6 0), .bool, (.sl false), (.int .i64), (.sl false), (.sl false), (.sl false), .str, .str], [], [(some 0, [(.sl false), .str, (.sl false), (.ptr 0 5 0), (.ptr 0 6 0), .bool, (.sl false), (.int .i64), (.sl false), (.sl false), (.sl false), .str, .str], []), (none, [(.sl false), .str, (.sl false), (.ptr 0 5 0), (.ptr 0 6 0), .bool, (.sl false), (.int .i64), (.sl false), (.sl false), (.sl false), .str, .str], [])]⟩)] }
set_option maxRecDepth 100000 in
theorem seinelaw25_CollectSays_t1 (O : Orc) (LP : LBody → LBody) (s : GSchema) (d : GDoc) (env : List GMember) (typ : Str) (l0 : List GSel) : evalBodyD Try.prog (MT 3) seinelaw25_CollectSays_ds Try.f3.ntmps O LP Try.f3 [(.agg [(.slice (List.map encDef s.defs) [] false), (.str s.query), (.str s.mutation)]), (.agg [(.slice (List.map encOp d.ops) [] false), (.slice (List.map encFrag d.frags) [] false)]), (.slice (List.map encMember env) [] false), (.str typ), (.slice (List.map encSel l0) [] false)] [] = seinelaw25_CollectSays_T1 O LP s d env typ l0 := by kernel_rfl
theorem seinelaw25_CollectSays_l1_ok (s : GSchema) (d : GDoc) (env : List GMember) (typ : Str) (l0 : List GSel) (y10 : List GSel) : ∀ st l u, seinelaw25_CollectSays_l1R s d env typ l0 y10 st l u → Imp (seinelaw25_CollectSays_l1T env l0 y10 st) (seinelaw25_CollectSays_l1 O loopLim l u) (StepR (seinelaw25_CollectSays_l1R s d env typ l0 y10) (seinelaw25_CollectSays_l1X s d env typ l0 y10)) := by
 rintro i_20 l u ⟨rfl, rfl⟩
 simp only [seinelaw25_CollectSays_l1T, seinelaw25_CollectSays_l1]
 refine Imp.chk rfl (Imp.chk rfl ?_)
 try simp only [evs, tys]
 refine Imp.cnd ?_ ?_
 ·refine Imp.op (f := fun a => .ref (encSel a)) (fun a h => op_ix (enc := encSel) (by first | rfl | simp only [evs, tys, evl]) ⟨by first | rfl | simp only [evs, tys, evc], by decide⟩ h) (fun a => chk_GSel a) fun y22 hy22 => ?_
  try simp only [evs, tys]
  refine Imp.call (f := collect_HoldsE) rfl (fun a h => by first | exact collect_Holds_spec h | simpa only [evs, tys, evl] using collect_Holds_spec h) (fun a => by first | rfl | simp only [collect_HoldsE, evk, chks]) fun y24 hy24 => ?_
  try simp only [collect_HoldsE, evs, tys]
  refine Imp.op (f := fun a => .ref (encSel a)) (fun a h => op_ix (enc := encSel) (by first | rfl | simp only [evs, tys, evl]) ⟨by first | rfl | simp only [evs, tys, evc], by decide⟩ h) (fun a => chk_GSel a) fun y26 hy26 => ?_
  try simp only [evs, tys]
  refine Imp.call (f := seineref23_HoldsE) rfl (fun a h => by first | exact seineref23_Holds_spec h | simpa only [evs, tys, evl] using seineref23_Holds_spec h) (fun a => by first | rfl | simp only [seineref23_HoldsE, evk, chks]) fun y28 hy28 => ?_
  try simp only [seineref23_HoldsE, evs, tys]
  refine Imp.cnd ?_ ?_
  ·exact Imp.some (StepR.ret ⟨i_20, by first | rfl | simp only [evs, tys, evl, elim_inl, elim_inr]⟩)
  ·exact Imp.some (StepR.next ⟨by first | rfl | simp only [evs, tys, evl], rfl⟩)
 ·exact Imp.some (StepR.brk ⟨i_20, by first | rfl | simp only [evs, tys, evl, elim_inl, elim_inr]⟩)
theorem seinelaw25_CollectSays_imp (s : GSchema) (d : GDoc) (env : List GMember) (typ : Str) (l0 : List GSel) : Imp (seinelaw25_CollectSays_B s d env typ l0) (seinelaw25_CollectSays_T1 O loopLim s d env typ l0) (fun r v => v = (seinelaw25_CollectSaysE r, [])) := by
 simp only [seinelaw25_CollectSays_B, seinelaw25_CollectSays_T1]
 try simp only [evs, tys]
 refine Imp.call (f := seinelaw25_lightE) rfl (fun a h => by first | exact seinelaw25_light_spec h | simpa only [evs, tys, evl] using seinelaw25_light_spec h) (fun a => by first | rfl | simp only [seinelaw25_lightE, evk, chks]) fun y2 hy2 => ?_
 try simp only [seinelaw25_lightE, evs, tys]
 refine Imp.cnd ?_ ?_
 ·refine Imp.call (f := seinelaw25_awakeE) rfl (fun a h => by first | exact seinelaw25_awake_spec h | simpa only [evs, tys, evl] using seinelaw25_awake_spec h) (fun a => by first | rfl | simp only [seinelaw25_awakeE, evk, chks]) fun y4 hy4 => ?_
  try simp only [seinelaw25_awakeE, evs, tys]
  exact Imp.some (by first | rfl | simp only [seinelaw25_CollectSaysE, evs, tys, evl])
 ·refine Imp.call (f := seinekeep_SizeE) rfl (fun a h => by first | exact seinekeep_Size_spec h | simpa only [evs, tys, evl] using seinekeep_Size_spec h) (fun a => by first | rfl | simp only [seinekeep_SizeE, evk, chks]) fun y6 hy6 => ?_
  try simp only [seinekeep_SizeE, evs, tys]
  refine Imp.cnd ?_ ?_
  ·refine Imp.call (f := seinelaw25_awakeE) rfl (fun a h => by first | exact seinelaw25_awake_spec h | simpa only [evs, tys, evl] using seinelaw25_awake_spec h) (fun a => by first | rfl | simp only [seinelaw25_awakeE, evk, chks]) fun y8 hy8 => ?_
   try simp only [seinelaw25_awakeE, evs, tys]
   exact Imp.some (by first | rfl | simp only [seinelaw25_CollectSaysE, evs, tys, evl])
  ·refine Imp.call (f := seinekeep_SelsE) rfl (fun a h => by first | exact seinekeep_Sels_spec h | simpa only [evs, tys, evl] using seinekeep_Sels_spec h) (fun a => by first | rfl | simp only [seinekeep_SelsE, evk, chks]) fun y10 hy10 => ?_
   try simp only [seinekeep_SelsE, evs, tys]
   refine Imp.bnd (Imp.loop (seinelaw25_CollectSays_l1_ok s d env typ l0 y10) ⟨by first | rfl | simp only [evs, tys, evl], rfl⟩) ?_
   rintro (p | p) vy31 hy31
   ·try simp only [elim_inl, elim_inr]
    obtain ⟨i_29, rfl⟩ := hy31
    refine Imp.exHit rfl (Imp.chk rfl (Imp.chk rfl ?_))
    try simp only [evs, tys]
    refine Imp.call (f := collect_GroupsE) rfl (fun a h => by first | exact collect_Groups_spec h | simpa only [evs, tys, evl] using collect_Groups_spec h) (fun a => by first | rfl | simp only [collect_GroupsE, evk, chks]) fun y33 hy33 => ?_
    try simp only [collect_GroupsE, evs, tys]
    refine Imp.call (f := seineref23_GroupsE) rfl (fun a h => by first | exact seineref23_Groups_spec h | simpa only [evs, tys, evl] using seineref23_Groups_spec h) (fun a => by first | rfl | simp only [seineref23_GroupsE, evk, chks]) fun y35 hy35 => ?_
    try simp only [seineref23_GroupsE, evs, tys]
    refine Imp.call (f := seinelaw25_sameGroupsE) rfl (fun a h => by first | exact seinelaw25_sameGroups_spec h | simpa only [evs, tys, evl] using seinelaw25_sameGroups_spec h) (fun a => by first | rfl | simp only [seinelaw25_sameGroupsE, evk, chks]) fun y37 hy37 => ?_
    try simp only [seinelaw25_sameGroupsE, evs, tys]
    refine Imp.cnd ?_ ?_
    ·refine Imp.call (f := seineref6_SameSelsE) rfl (fun a h => by first | exact seineref6_SameSels_spec h | simpa only [evs, tys, evl] using seineref6_SameSels_spec h) (fun a => by first | rfl | simp only [seineref6_SameSelsE, evk, chks]) fun y39 hy39 => ?_
     try simp only [seineref6_SameSelsE, evs, tys]
     refine Imp.cnd ?_ ?_
     ·refine Imp.call (f := seinelaw25_awakeE) rfl (fun a h => by first | exact seinelaw25_awake_spec h | simpa only [evs, tys, evl] using seinelaw25_awake_spec h) (fun a => by first | rfl | simp only [seinelaw25_awakeE, evk, chks]) fun y41 hy41 => ?_
      try simp only [seinelaw25_awakeE, evs, tys]
      exact Imp.some (by first | rfl | simp only [seinelaw25_CollectSaysE, evs, tys, evl])
     ·exact Imp.some (by first | rfl | simp only [seinelaw25_CollectSaysE, evs, tys, evl])
    ·exact Imp.some (by first | rfl | simp only [seinelaw25_CollectSaysE, evs, tys, evl])
   ·try simp only [elim_inl, elim_inr]
    obtain ⟨i_30, rfl⟩ := hy31
    refine Imp.exMiss rfl ?_
    refine Imp.exHit rfl (Imp.chk rfl (Imp.chk rfl ?_))
    try simp only [evs, tys]
    exact Imp.some (by first | rfl | simp only [seinelaw25_CollectSaysE, evs, tys, evl])
theorem seinelaw25_CollectSays_run {s : GSchema} {d : GDoc} {env : List GMember} {typ : Str} {l0 : List GSel} {r : Bool} (h : seinelaw25_CollectSays_B s d env typ l0 = some r) : seinelaw25_CollectSays s d env typ l0 = some r := by
 obtain ⟨v, hv, rfl⟩ := seinelaw25_CollectSays_imp s d env typ l0 r h
 exact tO_of (pair_inj seinelaw25_CollectSaysEj) (OL_runD seinelaw25_CollectSays_ds rfl rfl Try.func3 ((seinelaw25_CollectSays_t1 _ _ s d env typ l0).trans hv))
def collect_Applies_T1 (O : Orc) (LP : LBody → LBody) (s : GSchema) (typ : Str) (on0 : Str) : Option (PV × UP) :=
 cnd (on0 == ([] : Str))
 (some ((.bool true), []))
 (cnd (on0 == typ)
 (some ((.bool true), []))
 (callp O 45 [(.agg [(.slice (List.map encDef s.defs) [] false), (.str s.query), (.str s.mutation)]), (.str on0)] fun x1 => cnd (chk (.sl false) x1)
 (callp O 44 [(.slice (esV x1) [] false), (.str typ)] fun x3 => cnd (chk .bool x3)
 (some ((.bool (boolV x3)), [])) none) none))
noncomputable def collect_Applies_B (s : GSchema) (typ : Str) (on0 : Str) : Option Bool :=
 cnd (on0 == ([] : Str))
 (some true)
 (cnd (on0 == typ)
 (some true)
 (bnd (defs_Possible s on0) fun y2 =>
 bnd (slices_Contains_string_string y2 typ) fun y4 =>
 some y4))
def collect_Applies_ds : Decs := { decs := [(17, (.sl false)), (19, .bool)], ups := [], loops := [] }
set_option maxRecDepth 100000 in
theorem collect_Applies_t1 (O : Orc) (LP : LBody → LBody) (s : GSchema) (typ : Str) (on0 : Str) : evalBodyD Try.prog (MT 22) collect_Applies_ds Try.f22.ntmps O LP Try.f22 [(.agg [(.slice (List.map encDef s.defs) [] false), (.str s.query), (.str s.mutation)]), (.str typ), (.str on0)] [] = collect_Applies_T1 O LP s typ on0 := by kernel_rfl
theorem collect_Applies_imp (s : GSchema) (typ : Str) (on0 : Str) : Imp (collect_Applies_B s typ on0) (collect_Applies_T1 O loopLim s typ on0) (fun r v => v = (collect_AppliesE r, [])) := by
 simp only [collect_Applies_B, collect_Applies_T1]
 try simp only [evs, tys]
 refine Imp.cnd ?_ ?_
 ·exact Imp.some (by first | rfl | simp only [collect_AppliesE, evs, tys, evl])
 ·refine Imp.cnd ?_ ?_
  ·exact Imp.some (by first | rfl | simp only [collect_AppliesE, evs, tys, evl])
  ·refine Imp.call (f := defs_PossibleE) rfl (fun a h => by first | exact defs_Possible_spec h | simpa only [evs, tys, evl] using defs_Possible_spec h) (fun a => by first | rfl | simp only [defs_PossibleE, evk, chks]) fun y2 hy2 => ?_
   try simp only [defs_PossibleE, evs, tys]
   refine Imp.call (f := slices_Contains_string_stringE) rfl (fun a h => by first | exact slices_Contains_string_string_spec h | simpa only [evs, tys, evl] using slices_Contains_string_string_spec h) (fun a => by first | rfl | simp only [slices_Contains_string_stringE, evk, chks]) fun y4 hy4 => ?_
   try simp only [slices_Contains_string_stringE, evs, tys]
   exact Imp.some (by first | rfl | simp only [collect_AppliesE, evs, tys, evl])
theorem collect_Applies_run {s : GSchema} {typ : Str} {on0 : Str} {r : Bool} (h : collect_Applies_B s typ on0 = some r) : collect_Applies s typ on0 = some r := by
 obtain ⟨v, hv, rfl⟩ := collect_Applies_imp s typ on0 r h
 exact tO_of (pair_inj collect_AppliesEj) (OL_runD collect_Applies_ds rfl rfl Try.func22 ((collect_Applies_t1 _ _ s typ on0).trans hv))
def graph_Frag_1_T1 (O : Orc) (LP : LBody → LBody) (f : GFrag) (u0_4 : Str) (u0_40 : Str) (u0_3 : Str) (u0_2 : GDoc) : Option (PV × UP) :=
 some ((.bool (f.name == u0_3)), [[(4, [(.str u0_4), (.str u0_40), (.slice [] [] true), (.slice [] [] true)]), (3, [(.str u0_3)]), (2, [(.slice (List.map encOp u0_2.ops) [] false), (.slice (List.map encFrag u0_2.frags) [] false)])]])
noncomputable def graph_Frag_1_B (f : GFrag) (u0_4 : Str) (u0_40 : Str) (u0_3 : Str) (u0_2 : GDoc) : Option Bool :=
 some (f.name == u0_3)
def graph_Frag_1_ds : Decs := { decs := [], ups := [], loops := [] }
set_option maxRecDepth 100000 in
theorem graph_Frag_1_t1 (O : Orc) (LP : LBody → LBody) (f : GFrag) (u0_4 : Str) (u0_40 : Str) (u0_3 : Str) (u0_2 : GDoc) : evalBodyD Try.prog (MT 47) graph_Frag_1_ds Try.f47.ntmps O LP Try.f47 [(.agg [(.str f.name), (.str f.on_), (.slice (List.map encDir f.dirs) [] false), (.slice (List.map encSel f.sels) [] false)]), (.ptr 1 3 0)] [[(4, [(.str u0_4), (.str u0_40), (.slice [] [] true), (.slice [] [] true)]), (3, [(.str u0_3)]), (2, [(.slice (List.map encOp u0_2.ops) [] false), (.slice (List.map encFrag u0_2.frags) [] false)])]] = graph_Frag_1_T1 O LP f u0_4 u0_40 u0_3 u0_2 := by kernel_rfl
theorem graph_Frag_1_imp (f : GFrag) (u0_4 : Str) (u0_40 : Str) (u0_3 : Str) (u0_2 : GDoc) : Imp (graph_Frag_1_B f u0_4 u0_40 u0_3 u0_2) (graph_Frag_1_T1 O loopLim f u0_4 u0_40 u0_3 u0_2) (fun r v => v = (graph_Frag_1E r, (graph_Frag_1U f u0_4 u0_40 u0_3 u0_2 r))) := by
 simp only [graph_Frag_1_B, graph_Frag_1_T1]
 try simp only [evs, tys]
 exact Imp.some (by first | rfl | simp only [graph_Frag_1E, graph_Frag_1U, evs, tys, evl])
theorem graph_Frag_1_run {f : GFrag} {u0_4 : Str} {u0_40 : Str} {u0_3 : Str} {u0_2 : GDoc} {r : Bool} (h : graph_Frag_1_B f u0_4 u0_40 u0_3 u0_2 = some r) : graph_Frag_1 f u0_4 u0_40 u0_3 u0_2 = some r := by
 obtain ⟨v, hv, rfl⟩ := graph_Frag_1_imp f u0_4 u0_40 u0_3 u0_2 r h
 exact tO_of (fun a b h => graph_Frag_1Ej a b (Prod.mk.inj h).1) (OL_runD graph_Frag_1_ds rfl rfl Try.func47 ((graph_Frag_1_t1 _ _ f u0_4 u0_40 u0_3 u0_2).trans hv))
def slices_IndexFunc_Frag_l1 (O : Orc) (LP : LBody → LBody) : LBody := fun s1 s1u => cnd (chkL [(.sl false), (.func 47 [] [(.ptr 1 3 0)]), (.int .i64), (.int .i64), (.int .i64)] s1) (cnd (chkU [[(4, [.str, .str, (.sl true), (.sl true)]), (3, [.str]), (2, [(.sl false), (.sl false)])]] s1u)
 (cnd (decide ((intV (gt s1 4)) < (intV (gt s1 3))))
 (bnd (ix 4 (.slice (esV (gt s1 0)) [] false) (.int .i64 (intV (gt s1 4)))) fun x7 => cnd (chk (.ref shFrag) x7)
 (bnd (O 47 [(.agg [(.str (strV (gt (aggV (refV x7)) 0))), (.str (strV (gt (aggV (refV x7)) 1))), (.slice (esV (gt (aggV (refV x7)) 2)) [] false), (.slice (esV (gt (aggV (refV x7)) 3)) [] false)]), (.ptr 2 3 0)] [[], [(4, [(.str (strV (gt (boxI (frI s1u 0) 0) 0))), (.str (strV (gt (boxI (frI s1u 0) 0) 1))), (.slice (esV (gt (boxI (frI s1u 0) 0) 2)) [] true), (.slice (esV (gt (boxI (frI s1u 0) 0) 3)) [] true)]), (3, [(.str (strV (gt (boxI (frI s1u 0) 1) 0)))]), (2, [(.slice (esV (gt (boxI (frI s1u 0) 2) 0)) [] false), (.slice (esV (gt (boxI (frI s1u 0) 2) 1)) [] false)])]]) fun x9 => cnd (chkU [[], [(4, [.str, .str, (.sl true), (.sl true)]), (3, [.str]), (2, [(.sl false), (.sl false)])]] x9.2) (cnd (chk .bool x9.1)
 (cnd (boolV x9.1)
 (some (.ret, [(.slice (esV (gt s1 0)) [] false), (.func (.func 47) [] [(.ptr 1 3 0)]), (.int .i64 (intV (gt s1 4))), (.int .i64 (intV (gt s1 3))), (.int .i64 (intV (gt s1 4)))], [[(4, [(.str (strV (gt (boxI (frI x9.2 1) 0) 0))), (.str (strV (gt (boxI (frI x9.2 1) 0) 1))), (.slice (esV (gt (boxI (frI x9.2 1) 0) 2)) [] true), (.slice (esV (gt (boxI (frI x9.2 1) 0) 3)) [] true)]), (3, [(.str (strV (gt (boxI (frI x9.2 1) 1) 0)))]), (2, [(.slice (esV (gt (boxI (frI x9.2 1) 2) 0)) [] false), (.slice (esV (gt (boxI (frI x9.2 1) 2) 1)) [] false)])]]))
 (some (.nrm, [(.slice (esV (gt s1 0)) [] false), (.func (.func 47) [] [(.ptr 1 3 0)]), (.int .i64 (intV (gt s1 2))), (.int .i64 (intV (gt s1 3))), (.int .i64 (IntKind.wrap .i64 ((intV (gt s1 4)) + 1)))], [[(4, [(.str (strV (gt (boxI (frI x9.2 1) 0) 0))), (.str (strV (gt (boxI (frI x9.2 1) 0) 1))), (.slice (esV (gt (boxI (frI x9.2 1) 0) 2)) [] true), (.slice (esV (gt (boxI (frI x9.2 1) 0) 3)) [] true)]), (3, [(.str (strV (gt (boxI (frI x9.2 1) 1) 0)))]), (2, [(.slice (esV (gt (boxI (frI x9.2 1) 2) 0)) [] false), (.slice (esV (gt (boxI (frI x9.2 1) 2) 1)) [] false)])]]))) none) none) none)
 (some (.brk 0, [(.slice (esV (gt s1 0)) [] false), (.func (.func 47) [] [(.ptr 1 3 0)]), (.int .i64 (intV (gt s1 2))), (.int .i64 (intV (gt s1 3))), (.int .i64 (intV (gt s1 4)))], [[(4, [(.str (strV (gt (boxI (frI s1u 0) 0) 0))), (.str (strV (gt (boxI (frI s1u 0) 0) 1))), (.slice (esV (gt (boxI (frI s1u 0) 0) 2)) [] true), (.slice (esV (gt (boxI (frI s1u 0) 0) 3)) [] true)]), (3, [(.str (strV (gt (boxI (frI s1u 0) 1) 0)))]), (2, [(.slice (esV (gt (boxI (frI s1u 0) 2) 0)) [] false), (.slice (esV (gt (boxI (frI s1u 0) 2) 1)) [] false)])]]))) none) none
def slices_IndexFunc_Frag_T1 (O : Orc) (LP : LBody → LBody) (s : List GFrag) (u0_4 : Str) (u0_40 : Str) (u0_3 : Str) (u0_2 : GDoc) : Option (PV × UP) :=
 bnd (LP (slices_IndexFunc_Frag_l1 O LP) [(.slice (List.map encFrag s) [] false), (.func (.func 47) [] [(.ptr 1 3 0)]), (.int .i64 0), (.int .i64 (List.length (List.map encFrag s) : Int)), (.int .i64 0)] [[(4, [(.str u0_4), (.str u0_40), (.slice [] [] true), (.slice [] [] true)]), (3, [(.str u0_3)]), (2, [(.slice (List.map encOp u0_2.ops) [] false), (.slice (List.map encFrag u0_2.frags) [] false)])]]) fun y14 =>
 exIs y14.1 (some 0) (cnd (chkL [(.sl false), (.func 47 [] [(.ptr 1 3 0)]), (.int .i64), (.int .i64), (.int .i64)] y14.2.1) (cnd (chkU [[(4, [.str, .str, (.sl true), (.sl true)]), (3, [.str]), (2, [(.sl false), (.sl false)])]] y14.2.2)
 (some ((.int .i64 (-1)), [[(4, [(.str (strV (gt (boxI (frI y14.2.2 0) 0) 0))), (.str (strV (gt (boxI (frI y14.2.2 0) 0) 1))), (.slice (esV (gt (boxI (frI y14.2.2 0) 0) 2)) [] true), (.slice (esV (gt (boxI (frI y14.2.2 0) 0) 3)) [] true)]), (3, [(.str (strV (gt (boxI (frI y14.2.2 0) 1) 0)))]), (2, [(.slice (esV (gt (boxI (frI y14.2.2 0) 2) 0)) [] false), (.slice (esV (gt (boxI (frI y14.2.2 0) 2) 1)) [] false)])]])) none) none)
 (exIs y14.1 none (cnd (chkL [(.sl false), (.func 47 [] [(.ptr 1 3 0)]), (.int .i64), (.int .i64), (.int .i64)] y14.2.1) (cnd (chkU [[(4, [.str, .str, (.sl true), (.sl true)]), (3, [.str]), (2, [(.sl false), (.sl false)])]] y14.2.2)
 (some ((.int .i64 (intV (gt y14.2.1 2))), [[(4, [(.str (strV (gt (boxI (frI y14.2.2 0) 0) 0))), (.str (strV (gt (boxI (frI y14.2.2 0) 0) 1))), (.slice (esV (gt (boxI (frI y14.2.2 0) 0) 2)) [] true), (.slice (esV (gt (boxI (frI y14.2.2 0) 0) 3)) [] true)]), (3, [(.str (strV (gt (boxI (frI y14.2.2 0) 1) 0)))]), (2, [(.slice (esV (gt (boxI (frI y14.2.2 0) 2) 0)) [] false), (.slice (esV (gt (boxI (frI y14.2.2 0) 2) 1)) [] false)])]])) none) none)
 (none))
noncomputable def slices_IndexFunc_Frag_l1T (s : List GFrag) (u0_4 : Str) (u0_40 : Str) (u0_3 : Str) (u0_2 : GDoc) : Int → Option (Int ⊕ (Unit ⊕ Int))
 | t_6 =>
 cnd (decide (t_6 < (List.length s : Int)))
  (bnd (nthI s t_6) fun y8 =>
  bnd (graph_Frag_1 y8 u0_4 u0_40 u0_3 u0_2) fun y10 =>
  cnd y10
  (some (.inr (.inr t_6)))
  (some (.inl (IntKind.wrap .i64 (t_6 + 1)))))
  (some (.inr (.inl ())))
abbrev slices_IndexFunc_Frag_l1R (s : List GFrag) (u0_4 : Str) (u0_40 : Str) (u0_3 : Str) (u0_2 : GDoc) (st : Int) (l : List PV) (u : UP) : Prop := l = [(.slice (List.map encFrag s) [] false), (.func (.func 47) [] [(.ptr 1 3 0)]), (.int .i64 0), (.int .i64 (List.length s : Int)), (.int .i64 st)] ∧ u = [[(4, [(.str u0_4), (.str u0_40), (.slice [] [] true), (.slice [] [] true)]), (3, [(.str u0_3)]), (2, [(.slice (List.map encOp u0_2.ops) [] false), (.slice (List.map encFrag u0_2.frags) [] false)])]]
abbrev slices_IndexFunc_Frag_l1X (s : List GFrag) (u0_4 : Str) (u0_40 : Str) (u0_3 : Str) (u0_2 : GDoc) (p : Unit ⊕ Int) (r : Ex × List PV × UP) : Prop := elim p (fun (p : Unit) => ∃ (t_11 : Int), r = (Ex.brk 0, [(.slice (List.map encFrag s) [] false), (.func (.func 47) [] [(.ptr 1 3 0)]), (.int .i64 0), (.int .i64 (List.length s : Int)), (.int .i64 t_11)], [[(4, [(.str u0_4), (.str u0_40), (.slice [] [] true), (.slice [] [] true)]), (3, [(.str u0_3)]), (2, [(.slice (List.map encOp u0_2.ops) [] false), (.slice (List.map encFrag u0_2.frags) [] false)])]])) (fun q2 => (fun (p : Int) => ∃ (t_13 : Int), r = (Ex.ret, [(.slice (List.map encFrag s) [] false), (.func (.func 47) [] [(.ptr 1 3 0)]), (.int .i64 p), (.int .i64 (List.length s : Int)), (.int .i64 t_13)], [[(4, [(.str u0_4), (.str u0_40), (.slice [] [] true), (.slice [] [] true)]), (3, [(.str u0_3)]), (2, [(.slice (List.map encOp u0_2.ops) [] false), (.slice (List.map encFrag u0_2.frags) [] false)])]])) q2)
noncomputable def slices_IndexFunc_Frag_B (s : List GFrag) (u0_4 : Str) (u0_40 : Str) (u0_3 : Str) (u0_2 : GDoc) : Option Int :=
 bnd (tloop (slices_IndexFunc_Frag_l1T s u0_4 u0_40 u0_3 u0_2) 0) fun e14_2 => elim e14_2
 (fun p14 =>
 some (-1))
 (fun t_12 =>
 some t_12)
def slices_IndexFunc_Frag_ds : Decs := { decs := [(14, (.ref shFrag)), (16, .bool)], ups := [(16, [[], [(4, [.str, .str, (.sl true), (.sl true)]), (3, [.str]), (2, [(.sl false), (.sl false)])]])], loops := [(2, [], ⟨[(.sl false), (.func 47 [] [(.ptr 1 3 0)]), (.int .i64), (.int .i64), (.int .i64)], [[(4, [.str, .str, (.sl true), (.sl true)]), (3, [.str]), (2, [(.sl false), (.sl false)])]], [(some 0, [(.sl false), (.func 47 [] [(.ptr 1 3 0)]), (.int .i64), (.int .i64), (.int .i64)], [[(4, [.str, .str, (.sl true), (.sl true)]), (3, [.str]), (2, [(.sl false), (.sl false)])]]), (none, [(.sl false), (.func 47 [] [(.ptr 1 3 0)]), (.int .i64), (.int .i64), (.int .i64)], [[(4, [.str, .str, (.sl true), (.sl true)]), (3, [.str]), (2, [(.sl false), (.sl false)])]])]⟩)] }
set_option maxRecDepth 100000 in
theorem slices_IndexFunc_Frag_t1 (O : Orc) (LP : LBody → LBody) (s : List GFrag) (u0_4 : Str) (u0_40 : Str) (u0_3 : Str) (u0_2 : GDoc) : evalBodyD Try.prog (MT 46) slices_IndexFunc_Frag_ds Try.f46.ntmps O LP Try.f46 [(.slice (List.map encFrag s) [] false), (.func (.func 47) [] [(.ptr 1 3 0)])] [[(4, [(.str u0_4), (.str u0_40), (.slice [] [] true), (.slice [] [] true)]), (3, [(.str u0_3)]), (2, [(.slice (List.map encOp u0_2.ops) [] false), (.slice (List.map encFrag u0_2.frags) [] false)])]] = slices_IndexFunc_Frag_T1 O LP s u0_4 u0_40 u0_3 u0_2 := by kernel_rfl
theorem slices_IndexFunc_Frag_l1_ok (s : List GFrag) (u0_4 : Str) (u0_40 : Str) (u0_3 : Str) (u0_2 : GDoc) : ∀ st l u, slices_IndexFunc_Frag_l1R s u0_4 u0_40 u0_3 u0_2 st l u → Imp (slices_IndexFunc_Frag_l1T s u0_4 u0_40 u0_3 u0_2 st) (slices_IndexFunc_Frag_l1 O loopLim l u) (StepR (slices_IndexFunc_Frag_l1R s u0_4 u0_40 u0_3 u0_2) (slices_IndexFunc_Frag_l1X s u0_4 u0_40 u0_3 u0_2)) := by
 rintro t_6 l u ⟨rfl, rfl⟩
 simp only [slices_IndexFunc_Frag_l1T, slices_IndexFunc_Frag_l1]
 refine Imp.chk rfl (Imp.chk rfl ?_)
 try simp only [evs, tys]
 refine Imp.cnd ?_ ?_
 ·refine Imp.op (f := fun a => .ref (encFrag a)) (fun a h => op_ix (enc := encFrag) (by first | rfl | simp only [evs, tys, evl]) ⟨by first | rfl | simp only [evs, tys, evc], by decide⟩ h) (fun a => chk_GFrag a) fun y8 hy8 => ?_
  try simp only [evs, tys]
  refine Imp.gcall (f := graph_Frag_1E) (fu := fun a => [] :: graph_Frag_1U y8 u0_4 u0_40 u0_3 u0_2 a) (fun a h => by first | exact OL_drop rfl rfl (by first | rfl | (simp only [graph_Frag_1E, tys]; rfl)) (graph_Frag_1_spec h) | (have h' := graph_Frag_1_spec h; simp only [evs, tys, evl, graph_Frag_1U] at h'; exact OL_drop rfl rfl (by first | rfl | (simp only [graph_Frag_1E, tys]; rfl)) (h'))) (fun a => by first | rfl | simp only [graph_Frag_1E, evk, chks]) (fun a => by first | rfl | (simp only [graph_Frag_1U, evs, tys]; rfl)) fun y10 hy10 => ?_
  try simp only [graph_Frag_1E, graph_Frag_1U, evs, tys]
  refine Imp.cnd ?_ ?_
  ·exact Imp.some (StepR.ret ⟨t_6, by first | rfl | simp only [evs, tys, evl, elim_inl, elim_inr]⟩)
  ·exact Imp.some (StepR.next ⟨by first | rfl | simp only [evs, tys, evl], rfl⟩)
 ·exact Imp.some (StepR.brk ⟨t_6, by first | rfl | simp only [evs, tys, evl, elim_inl, elim_inr]⟩)
theorem slices_IndexFunc_Frag_imp (s : List GFrag) (u0_4 : Str) (u0_40 : Str) (u0_3 : Str) (u0_2 : GDoc) : Imp (slices_IndexFunc_Frag_B s u0_4 u0_40 u0_3 u0_2) (slices_IndexFunc_Frag_T1 O loopLim s u0_4 u0_40 u0_3 u0_2) (fun r v => v = (slices_IndexFunc_FragE r, (slices_IndexFunc_FragU s u0_4 u0_40 u0_3 u0_2 r))) := by
 simp only [slices_IndexFunc_Frag_B, slices_IndexFunc_Frag_T1]
 try simp only [evs, tys]
 refine Imp.bnd (Imp.loop (slices_IndexFunc_Frag_l1_ok s u0_4 u0_40 u0_3 u0_2) ⟨by first | rfl | simp only [evs, tys, evl], rfl⟩) ?_
 rintro (p | t_12) vy14 hy14
 ·try simp only [elim_inl, elim_inr]
  obtain ⟨t_11, rfl⟩ := hy14
  refine Imp.exHit rfl (Imp.chk rfl (Imp.chk rfl ?_))
  try simp only [evs, tys]
  exact Imp.some (by first | rfl | simp only [slices_IndexFunc_FragE, slices_IndexFunc_FragU, evs, tys, evl])
 ·try simp only [elim_inl, elim_inr]
  obtain ⟨t_13, rfl⟩ := hy14
  refine Imp.exMiss rfl ?_
  refine Imp.exHit rfl (Imp.chk rfl (Imp.chk rfl ?_))
  try simp only [evs, tys]
  exact Imp.some (by first | rfl | simp only [slices_IndexFunc_FragE, slices_IndexFunc_FragU, evs, tys, evl])
theorem slices_IndexFunc_Frag_run {s : List GFrag} {u0_4 : Str} {u0_40 : Str} {u0_3 : Str} {u0_2 : GDoc} {r : Int} (h : slices_IndexFunc_Frag_B s u0_4 u0_40 u0_3 u0_2 = some r) : slices_IndexFunc_Frag s u0_4 u0_40 u0_3 u0_2 = some r := by
 obtain ⟨v, hv, rfl⟩ := slices_IndexFunc_Frag_imp s u0_4 u0_40 u0_3 u0_2 r h
 exact tO_of (fun a b h => slices_IndexFunc_FragEj a b (Prod.mk.inj h).1) (OL_runD slices_IndexFunc_Frag_ds rfl rfl Try.func46 ((slices_IndexFunc_Frag_t1 _ _ s u0_4 u0_40 u0_3 u0_2).trans hv))
def graph_Frag_T1 (O : Orc) (LP : LBody → LBody) (d : GDoc) (name : Str) : Option (PV × UP) :=
 bnd (O 46 [(.slice (List.map encFrag d.frags) [] false), (.func (.func 47) [] [(.ptr 1 3 0)])] [[(4, [(.str []), (.str []), (.slice [] [] true), (.slice [] [] true)]), (3, [(.str name)]), (2, [(.slice (List.map encOp d.ops) [] false), (.slice (List.map encFrag d.frags) [] false)])]]) fun x1 => cnd (chkU [[(4, [.str, .str, (.sl true), (.sl true)]), (3, [.str]), (2, [(.sl false), (.sl false)])]] x1.2) (cnd (chk (.int .i64) x1.1)
 (cnd (decide ((intV x1.1) < 0))
 (some ((.tuple [(.agg [(.str []), (.str []), (.slice [] [] false), (.slice [] [] false)]), (.bool false)]), []))
 (bnd (ix 4 (.slice (esV (gt (boxI (frI x1.2 0) 2) 1)) [] false) (.int .i64 (intV x1.1))) fun x3 => cnd (chk (.ref shFrag) x3)
 (some ((.tuple [(.agg [(.str (strV (gt (aggV (refV x3)) 0))), (.str (strV (gt (aggV (refV x3)) 1))), (.slice (esV (gt (aggV (refV x3)) 2)) [] false), (.slice (esV (gt (aggV (refV x3)) 3)) [] false)]), (.bool true)]), [])) none)) none) none
noncomputable def graph_Frag_B (d : GDoc) (name : Str) : Option (GFrag × Bool) :=
 bnd (slices_IndexFunc_Frag d.frags [] [] name d) fun y2 =>
 cnd (decide (y2 < 0))
 (some ((GFrag.mk [] [] ([] : List GDir) ([] : List GSel)), false))
 (bnd (nthI d.frags y2) fun y4 =>
 some (y4, true))
def graph_Frag_ds : Decs := { decs := [(10, (.int .i64)), (17, (.ref shFrag))], ups := [(10, [[(4, [.str, .str, (.sl true), (.sl true)]), (3, [.str]), (2, [(.sl false), (.sl false)])]])], loops := [] }
set_option maxRecDepth 100000 in
theorem graph_Frag_t1 (O : Orc) (LP : LBody → LBody) (d : GDoc) (name : Str) : evalBodyD Try.prog (MT 23) graph_Frag_ds Try.f23.ntmps O LP Try.f23 [(.agg [(.slice (List.map encOp d.ops) [] false), (.slice (List.map encFrag d.frags) [] false)]), (.str name)] [] = graph_Frag_T1 O LP d name := by kernel_rfl
theorem graph_Frag_imp (d : GDoc) (name : Str) : Imp (graph_Frag_B d name) (graph_Frag_T1 O loopLim d name) (fun r v => v = (graph_FragE r, [])) := by
 simp only [graph_Frag_B, graph_Frag_T1]
 try simp only [evs, tys]
 refine Imp.gcall (f := slices_IndexFunc_FragE) (fu := fun a => slices_IndexFunc_FragU d.frags [] [] name d a) (fun a h => by first | exact slices_IndexFunc_Frag_spec h | (have h' := slices_IndexFunc_Frag_spec h; simp only [evs, tys, evl, slices_IndexFunc_FragU] at h'; exact h')) (fun a => by first | rfl | simp only [slices_IndexFunc_FragE, evk, chks]) (fun a => by first | rfl | (simp only [slices_IndexFunc_FragU, evs, tys]; rfl)) fun y2 hy2 => ?_
 try simp only [slices_IndexFunc_FragE, slices_IndexFunc_FragU, evs, tys]
 refine Imp.cnd ?_ ?_
 ·exact Imp.some (by first | rfl | simp only [graph_FragE, evs, tys, evl])
 ·refine Imp.op (f := fun a => .ref (encFrag a)) (fun a h => op_ix (enc := encFrag) (by first | rfl | simp only [evs, tys, evl]) ⟨by first | rfl | simp only [evs, tys, evc], by decide⟩ h) (fun a => chk_GFrag a) fun y4 hy4 => ?_
  try simp only [evs, tys]
  exact Imp.some (by first | rfl | simp only [graph_FragE, evs, tys, evl])
theorem graph_Frag_run {d : GDoc} {name : Str} {r : GFrag × Bool} (h : graph_Frag_B d name = some r) : graph_Frag d name = some r := by
 obtain ⟨v, hv, rfl⟩ := graph_Frag_imp d name r h
 exact tO_of (pair_inj graph_FragEj) (OL_runD graph_Frag_ds rfl rfl Try.func23 ((graph_Frag_t1 _ _ d name).trans hv))
open Go Go.Ev Go.Ev.PV
def seineref23_Applies_T1 (O : Orc) (LP : LBody → LBody) (s : GSchema) (typ : Str) (on0 : Str) : Option (PV × UP) :=
 cnd (on0 == ([] : Str))
 (some ((.bool true), []))
 (cnd (on0 == typ)
 (some ((.bool true), []))
 (callp O 49 [(.agg [(.slice (List.map encDef s.defs) [] false), (.str s.query), (.str s.mutation)]), (.str on0)] fun x1 => cnd (chk (.sl false) x1)
 (callp O 48 [(.slice (esV x1) [] false), (.str typ)] fun x3 => cnd (chk .bool x3)
 (some ((.bool (boolV x3)), [])) none) none))
noncomputable def seineref23_Applies_B (s : GSchema) (typ : Str) (on0 : Str) : Option Bool :=
 cnd (on0 == ([] : Str))
 (some true)
 (cnd (on0 == typ)
 (some true)
 (bnd (seineref9_Possible s on0) fun y2 =>
 bnd (seineref1_Has y2 typ) fun y4 =>
 some y4))
def seineref23_Applies_ds : Decs := { decs := [(17, (.sl false)), (19, .bool)], ups := [], loops := [] }
set_option maxRecDepth 100000 in
theorem seineref23_Applies_t1 (O : Orc) (LP : LBody → LBody) (s : GSchema) (typ : Str) (on0 : Str) : evalBodyD Try.prog (MT 26) seineref23_Applies_ds Try.f26.ntmps O LP Try.f26 [(.agg [(.slice (List.map encDef s.defs) [] false), (.str s.query), (.str s.mutation)]), (.str typ), (.str on0)] [] = seineref23_Applies_T1 O LP s typ on0 := by kernel_rfl
theorem seineref23_Applies_imp (s : GSchema) (typ : Str) (on0 : Str) : Imp (seineref23_Applies_B s typ on0) (seineref23_Applies_T1 O loopLim s typ on0) (fun r v => v = (seineref23_AppliesE r, [])) := by
 simp only [seineref23_Applies_B, seineref23_Applies_T1]
 try simp only [evs, tys]
 refine Imp.cnd ?_ ?_
 ·exact Imp.some (by first | rfl | simp only [seineref23_AppliesE, evs, tys, evl])
 ·refine Imp.cnd ?_ ?_
  ·exact Imp.some (by first | rfl | simp only [seineref23_AppliesE, evs, tys, evl])
  ·refine Imp.call (f := seineref9_PossibleE) rfl (fun a h => by first | exact seineref9_Possible_spec h | simpa only [evs, tys, evl] using seineref9_Possible_spec h) (fun a => by first | rfl | simp only [seineref9_PossibleE, evk, chks]) fun y2 hy2 => ?_
   try simp only [seineref9_PossibleE, evs, tys]
   refine Imp.call (f := seineref1_HasE) rfl (fun a h => by first | exact seineref1_Has_spec h | simpa only [evs, tys, evl] using seineref1_Has_spec h) (fun a => by first | rfl | simp only [seineref1_HasE, evk, chks]) fun y4 hy4 => ?_
   try simp only [seineref1_HasE, evs, tys]
   exact Imp.some (by first | rfl | simp only [seineref23_AppliesE, evs, tys, evl])
theorem seineref23_Applies_run {s : GSchema} {typ : Str} {on0 : Str} {r : Bool} (h : seineref23_Applies_B s typ on0 = some r) : seineref23_Applies s typ on0 = some r := by
 obtain ⟨v, hv, rfl⟩ := seineref23_Applies_imp s typ on0 r h
 exact tO_of (pair_inj seineref23_AppliesEj) (OL_runD seineref23_Applies_ds rfl rfl Try.func26 ((seineref23_Applies_t1 _ _ s typ on0).trans hv))
def seineref1_Has_l1 (O : Orc) (LP : LBody → LBody) : LBody := fun s1 s1u => cnd (chkL [(.sl false), .str, .bool, (.int .i64)] s1) (cnd (chkU [] s1u)
 (cnd (decide ((intV (gt s1 3)) < (List.length (esV (gt s1 0)) : Int)))
 (bnd (ix 1 (.slice (esV (gt s1 0)) [] false) (.int .i64 (intV (gt s1 3)))) fun x5 => cnd (chk (.ref .str) x5)
 (cnd ((strV (refV x5)) == (strV (gt s1 1)))
 (some (.ret, [(.slice (esV (gt s1 0)) [] false), (.str (strV (gt s1 1))), (.bool true), (.int .i64 (intV (gt s1 3)))], []))
 (some (.nrm, [(.slice (esV (gt s1 0)) [] false), (.str (strV (gt s1 1))), (.bool (boolV (gt s1 2))), (.int .i64 (IntKind.wrap .i64 ((intV (gt s1 3)) + 1)))], []))) none)
 (some (.brk 0, [(.slice (esV (gt s1 0)) [] false), (.str (strV (gt s1 1))), (.bool (boolV (gt s1 2))), (.int .i64 (intV (gt s1 3)))], []))) none) none
def seineref1_Has_T1 (O : Orc) (LP : LBody → LBody) (l0 : List Str) (s : Str) : Option (PV × UP) :=
 bnd (LP (seineref1_Has_l1 O LP) [(.slice (List.map PV.str l0) [] false), (.str s), (.bool false), (.int .i64 0)] []) fun y9 =>
 exIs y9.1 (some 0) (cnd (chkL [(.sl false), .str, .bool, (.int .i64)] y9.2.1) (cnd (chkU [] y9.2.2)
 (some ((.bool false), [])) none) none)
 (exIs y9.1 none (cnd (chkL [(.sl false), .str, .bool, (.int .i64)] y9.2.1) (cnd (chkU [] y9.2.2)
 (some ((.bool (boolV (gt y9.2.1 2))), [])) none) none)
 (none))
noncomputable def seineref1_Has_l1T (l0 : List Str) (s : Str) : Int → Option (Int ⊕ (Unit ⊕ Unit))
 | i_4 =>
 cnd (decide (i_4 < (List.length l0 : Int)))
  (bnd (nthI l0 i_4) fun y6 =>
  cnd (y6 == s)
  (some (.inr (.inr ())))
  (some (.inl (IntKind.wrap .i64 (i_4 + 1)))))
  (some (.inr (.inl ())))
abbrev seineref1_Has_l1R (l0 : List Str) (s : Str) (st : Int) (l : List PV) (u : UP) : Prop := l = [(.slice (List.map PV.str l0) [] false), (.str s), (.bool false), (.int .i64 st)] ∧ u = []
abbrev seineref1_Has_l1X (l0 : List Str) (s : Str) (p : Unit ⊕ Unit) (r : Ex × List PV × UP) : Prop := elim p (fun (p : Unit) => ∃ (i_7 : Int), r = (Ex.brk 0, [(.slice (List.map PV.str l0) [] false), (.str s), (.bool false), (.int .i64 i_7)], [])) (fun q2 => (fun (p : Unit) => ∃ (i_8 : Int), r = (Ex.ret, [(.slice (List.map PV.str l0) [] false), (.str s), (.bool true), (.int .i64 i_8)], [])) q2)
noncomputable def seineref1_Has_B (l0 : List Str) (s : Str) : Option Bool :=
 bnd (tloop (seineref1_Has_l1T l0 s) 0) fun e9_2 => elim e9_2
 (fun p9 =>
 some false)
 (fun p9 =>
 some true)
def seineref1_Has_ds : Decs := { decs := [(14, (.ref .str))], ups := [], loops := [(2, [], ⟨[(.sl false), .str, .bool, (.int .i64)], [], [(some 0, [(.sl false), .str, .bool, (.int .i64)], []), (none, [(.sl false), .str, .bool, (.int .i64)], [])]⟩)] }
set_option maxRecDepth 100000 in
theorem seineref1_Has_t1 (O : Orc) (LP : LBody → LBody) (l0 : List Str) (s : Str) : evalBodyD Try.prog (MT 48) seineref1_Has_ds Try.f48.ntmps O LP Try.f48 [(.slice (List.map PV.str l0) [] false), (.str s)] [] = seineref1_Has_T1 O LP l0 s := by kernel_rfl
theorem seineref1_Has_l1_ok (l0 : List Str) (s : Str) : ∀ st l u, seineref1_Has_l1R l0 s st l u → Imp (seineref1_Has_l1T l0 s st) (seineref1_Has_l1 O loopLim l u) (StepR (seineref1_Has_l1R l0 s) (seineref1_Has_l1X l0 s)) := by
 rintro i_4 l u ⟨rfl, rfl⟩
 simp only [seineref1_Has_l1T, seineref1_Has_l1]
 refine Imp.chk rfl (Imp.chk rfl ?_)
 try simp only [evs, tys]
 refine Imp.cnd ?_ ?_
 ·refine Imp.op (f := fun a => .ref (PV.str a)) (fun a h => op_ix (enc := PV.str) (by first | rfl | simp only [evs, tys, evl]) ⟨by first | rfl | simp only [evs, tys, evc], by decide⟩ h) (fun a => rfl) fun y6 hy6 => ?_
  try simp only [evs, tys]
  refine Imp.cnd ?_ ?_
  ·exact Imp.some (StepR.ret ⟨i_4, by first | rfl | simp only [evs, tys, evl, elim_inl, elim_inr]⟩)
  ·exact Imp.some (StepR.next ⟨by first | rfl | simp only [evs, tys, evl], rfl⟩)
 ·exact Imp.some (StepR.brk ⟨i_4, by first | rfl | simp only [evs, tys, evl, elim_inl, elim_inr]⟩)
theorem seineref1_Has_imp (l0 : List Str) (s : Str) : Imp (seineref1_Has_B l0 s) (seineref1_Has_T1 O loopLim l0 s) (fun r v => v = (seineref1_HasE r, [])) := by
 simp only [seineref1_Has_B, seineref1_Has_T1]
 try simp only [evs, tys]
 refine Imp.bnd (Imp.loop (seineref1_Has_l1_ok l0 s) ⟨by first | rfl | simp only [evs, tys, evl], rfl⟩) ?_
 rintro (p | p) vy9 hy9
 ·try simp only [elim_inl, elim_inr]
  obtain ⟨i_7, rfl⟩ := hy9
  refine Imp.exHit rfl (Imp.chk rfl (Imp.chk rfl ?_))
  try simp only [evs, tys]
  exact Imp.some (by first | rfl | simp only [seineref1_HasE, evs, tys, evl])
 ·try simp only [elim_inl, elim_inr]
  obtain ⟨i_8, rfl⟩ := hy9
  refine Imp.exMiss rfl ?_
  refine Imp.exHit rfl (Imp.chk rfl (Imp.chk rfl ?_))
  try simp only [evs, tys]
  exact Imp.some (by first | rfl | simp only [seineref1_HasE, evs, tys, evl])
theorem seineref1_Has_run {l0 : List Str} {s : Str} {r : Bool} (h : seineref1_Has_B l0 s = some r) : seineref1_Has l0 s = some r := by
 obtain ⟨v, hv, rfl⟩ := seineref1_Has_imp l0 s r h
 exact tO_of (pair_inj seineref1_HasEj) (OL_runD seineref1_Has_ds rfl rfl Try.func48 ((seineref1_Has_t1 _ _ l0 s).trans hv))
def seineref13_Frag_l1 (O : Orc) (LP : LBody → LBody) : LBody := fun s1 s1u => cnd (chkL [.str, (.ptr 0 2 0), (.ptr 0 4 0), .bool, (.int .i64), .str, .str, (.sl true), (.sl true), (.sl false), (.sl false)] s1) (cnd (chkU [] s1u)
 (cnd (decide ((intV (gt s1 4)) < (List.length (esV (gt s1 10)) : Int)))
 (bnd (ix 4 (.slice (esV (gt s1 10)) [] false) (.int .i64 (intV (gt s1 4)))) fun x7 => cnd (chk (.ref shFrag) x7)
 (cnd ((strV (gt (aggV (refV x7)) 0)) == (strV (gt s1 0)))
 (bnd (ix 4 (.slice (esV (gt s1 10)) [] false) (.int .i64 (intV (gt s1 4)))) fun x9 => cnd (chk (.ref shFrag) x9)
 (some (.ret, [(.str (strV (gt s1 0))), (.ptr 0 2 0), (.ptr 0 4 0), (.bool true), (.int .i64 (intV (gt s1 4))), (.str (strV (gt (aggV (refV x9)) 0))), (.str (strV (gt (aggV (refV x9)) 1))), (.slice (esV (gt (aggV (refV x9)) 2)) [] false), (.slice (esV (gt (aggV (refV x9)) 3)) [] false), (.slice (esV (gt s1 9)) [] false), (.slice (esV (gt s1 10)) [] false)], [])) none)
 (some (.nrm, [(.str (strV (gt s1 0))), (.ptr 0 2 0), (.ptr 0 4 0), (.bool (boolV (gt s1 3))), (.int .i64 (IntKind.wrap .i64 ((intV (gt s1 4)) + 1))), (.str (strV (gt s1 5))), (.str (strV (gt s1 6))), (.slice (esV (gt s1 7)) [] true), (.slice (esV (gt s1 8)) [] true), (.slice (esV (gt s1 9)) [] false), (.slice (esV (gt s1 10)) [] false)], []))) none)
 (some (.brk 0, [(.str (strV (gt s1 0))), (.ptr 0 2 0), (.ptr 0 4 0), (.bool (boolV (gt s1 3))), (.int .i64 (intV (gt s1 4))), (.str (strV (gt s1 5))), (.str (strV (gt s1 6))), (.slice (esV (gt s1 7)) [] true), (.slice (esV (gt s1 8)) [] true), (.slice (esV (gt s1 9)) [] false), (.slice (esV (gt s1 10)) [] false)], []))) none) none
def seineref13_Frag_T1 (O : Orc) (LP : LBody → LBody) (d : GDoc) (name : Str) : Option (PV × UP) :=
 bnd (LP (seineref13_Frag_l1 O LP) [(.str name), (.ptr 0 2 0), (.ptr 0 4 0), (.bool false), (.int .i64 0), (.str []), (.str []), (.slice [] [] true), (.slice [] [] true), (.slice (List.map encOp d.ops) [] false), (.slice (List.map encFrag d.frags) [] false)] []) fun y17 =>
 exIs y17.1 (some 0) (cnd (chkL [.str, (.ptr 0 2 0), (.ptr 0 4 0), .bool, (.int .i64), .str, .str, (.sl true), (.sl true), (.sl false), (.sl false)] y17.2.1) (cnd (chkU [] y17.2.2)
 (some ((.tuple [(.agg [(.str []), (.str []), (.slice [] [] false), (.slice [] [] false)]), (.bool false)]), [])) none) none)
 (exIs y17.1 none (cnd (chkL [.str, (.ptr 0 2 0), (.ptr 0 4 0), .bool, (.int .i64), .str, .str, (.sl false), (.sl false), (.sl false), (.sl false)] y17.2.1) (cnd (chkU [] y17.2.2)
 (some ((.tuple [(.agg [(.str (strV (gt y17.2.1 5))), (.str (strV (gt y17.2.1 6))), (.slice (esV (gt y17.2.1 7)) [] false), (.slice (esV (gt y17.2.1 8)) [] false)]), (.bool (boolV (gt y17.2.1 3)))]), [])) none) none)
 (none))
noncomputable def seineref13_Frag_l1T (d : GDoc) (name : Str) : Int → Option (Int ⊕ (Unit ⊕ (Str × Str × (List GDir) × (List GSel))))
 | i_6 =>
 cnd (decide (i_6 < (List.length d.frags : Int)))
  (bnd (nthI d.frags i_6) fun y8 =>
  cnd (y8.name == name)
  (bnd (nthI d.frags i_6) fun y10 =>
  some (.inr (.inr (y10.name, y10.on_, y10.dirs, y10.sels))))
  (some (.inl (IntKind.wrap .i64 (i_6 + 1)))))
  (some (.inr (.inl ())))
abbrev seineref13_Frag_l1R (d : GDoc) (name : Str) (st : Int) (l : List PV) (u : UP) : Prop := l = [(.str name), (.ptr 0 2 0), (.ptr 0 4 0), (.bool false), (.int .i64 st), (.str []), (.str []), (.slice [] [] true), (.slice [] [] true), (.slice (List.map encOp d.ops) [] false), (.slice (List.map encFrag d.frags) [] false)] ∧ u = []
abbrev seineref13_Frag_l1X (d : GDoc) (name : Str) (p : Unit ⊕ (Str × Str × (List GDir) × (List GSel))) (r : Ex × List PV × UP) : Prop := elim p (fun (p : Unit) => ∃ (i_11 : Int), r = (Ex.brk 0, [(.str name), (.ptr 0 2 0), (.ptr 0 4 0), (.bool false), (.int .i64 i_11), (.str []), (.str []), (.slice [] [] true), (.slice [] [] true), (.slice (List.map encOp d.ops) [] false), (.slice (List.map encFrag d.frags) [] false)], [])) (fun q2 => (fun (p : Str × Str × (List GDir) × (List GSel)) => ∃ (i_12 : Int), r = (Ex.ret, [(.str name), (.ptr 0 2 0), (.ptr 0 4 0), (.bool true), (.int .i64 i_12), (.str p.1), (.str p.2.1), (.slice (List.map encDir p.2.2.1) [] false), (.slice (List.map encSel p.2.2.2) [] false), (.slice (List.map encOp d.ops) [] false), (.slice (List.map encFrag d.frags) [] false)], [])) q2)
noncomputable def seineref13_Frag_B (d : GDoc) (name : Str) : Option (GFrag × Bool) :=
 bnd (tloop (seineref13_Frag_l1T d name) 0) fun e17_2 => elim e17_2
 (fun p17 =>
 some ((GFrag.mk [] [] ([] : List GDir) ([] : List GSel)), false))
 (fun p17 =>
 some ((GFrag.mk p17.1 p17.2.1 p17.2.2.1 p17.2.2.2), true))
def seineref13_Frag_ds : Decs := { decs := [(17, (.ref shFrag)), (25, (.ref shFrag))], ups := [], loops := [(2, [(4, 4), (2, 2)], ⟨[.str, (.ptr 0 2 0), (.ptr 0 4 0), .bool, (.int .i64), .str, .str, (.sl true), (.sl true), (.sl false), (.sl false)], [], [(some 0, [.str, (.ptr 0 2 0), (.ptr 0 4 0), .bool, (.int .i64), .str, .str, (.sl true), (.sl true), (.sl false), (.sl false)], []), (none, [.str, (.ptr 0 2 0), (.ptr 0 4 0), .bool, (.int .i64), .str, .str, (.sl false), (.sl false), (.sl false), (.sl false)], [])]⟩)] }
set_option maxRecDepth 100000 in
theorem seineref13_Frag_t1 (O : Orc) (LP : LBody → LBody) (d : GDoc) (name : Str) : evalBodyD Try.prog (MT 72) seineref13_Frag_ds Try.f72.ntmps O LP Try.f72 [(.agg [(.slice (List.map encOp d.ops) [] false), (.slice (List.map encFrag d.frags) [] false)]), (.str name)] [] = seineref13_Frag_T1 O LP d name := by kernel_rfl
theorem seineref13_Frag_l1_ok (d : GDoc) (name : Str) : ∀ st l u, seineref13_Frag_l1R d name st l u → Imp (seineref13_Frag_l1T d name st) (seineref13_Frag_l1 O loopLim l u) (StepR (seineref13_Frag_l1R d name) (seineref13_Frag_l1X d name)) := by
 rintro i_6 l u ⟨rfl, rfl⟩
 simp only [seineref13_Frag_l1T, seineref13_Frag_l1]
 refine Imp.chk rfl (Imp.chk rfl ?_)
 try simp only [evs, tys]
 refine Imp.cnd ?_ ?_
 ·refine Imp.op (f := fun a => .ref (encFrag a)) (fun a h => op_ix (enc := encFrag) (by first | rfl | simp only [evs, tys, evl]) ⟨by first | rfl | simp only [evs, tys, evc], by decide⟩ h) (fun a => chk_GFrag a) fun y8 hy8 => ?_
  try simp only [evs, tys]
  refine Imp.cnd ?_ ?_
  ·refine Imp.op (f := fun a => .ref (encFrag a)) (fun a h => op_ix (enc := encFrag) (by first | rfl | simp only [evs, tys, evl]) ⟨by first | rfl | simp only [evs, tys, evc], by decide⟩ h) (fun a => chk_GFrag a) fun y10 hy10 => ?_
   try simp only [evs, tys]
   exact Imp.some (StepR.ret ⟨i_6, by first | rfl | simp only [evs, tys, evl, elim_inl, elim_inr]⟩)
  ·exact Imp.some (StepR.next ⟨by first | rfl | simp only [evs, tys, evl], rfl⟩)
 ·exact Imp.some (StepR.brk ⟨i_6, by first | rfl | simp only [evs, tys, evl, elim_inl, elim_inr]⟩)
theorem seineref13_Frag_imp (d : GDoc) (name : Str) : Imp (seineref13_Frag_B d name) (seineref13_Frag_T1 O loopLim d name) (fun r v => v = (seineref13_FragE r, [])) := by
 simp only [seineref13_Frag_B, seineref13_Frag_T1]
 try simp only [evs, tys]
 refine Imp.bnd (Imp.loop (seineref13_Frag_l1_ok d name) ⟨by first | rfl | simp only [evs, tys, evl], rfl⟩) ?_
 rintro (p | ⟨b_13, b_14, b_15, b_16⟩) vy17 hy17
 ·try simp only [elim_inl, elim_inr]
  obtain ⟨i_11, rfl⟩ := hy17
  refine Imp.exHit rfl (Imp.chk rfl (Imp.chk rfl ?_))
  try simp only [evs, tys]
  exact Imp.some (by first | rfl | simp only [seineref13_FragE, evs, tys, evl])
 ·try simp only [elim_inl, elim_inr]
  obtain ⟨i_12, rfl⟩ := hy17
  refine Imp.exMiss rfl ?_
  refine Imp.exHit rfl (Imp.chk rfl (Imp.chk rfl ?_))
  try simp only [evs, tys]
  exact Imp.some (by first | rfl | simp only [seineref13_FragE, evs, tys, evl])
theorem seineref13_Frag_run {d : GDoc} {name : Str} {r : GFrag × Bool} (h : seineref13_Frag_B d name = some r) : seineref13_Frag d name = some r := by
 obtain ⟨v, hv, rfl⟩ := seineref13_Frag_imp d name r h
 exact tO_of (pair_inj seineref13_FragEj) (OL_runD seineref13_Frag_ds rfl rfl Try.func72 ((seineref13_Frag_t1 _ _ d name).trans hv))
def seinelaw25_light_T1 (O : Orc) (LP : LBody → LBody) (s : GSchema) (d : GDoc) (l0 : List GSel) : Option (PV × UP) :=
 callp O 27 [(.agg [(.slice (List.map encDef s.defs) [] false), (.str s.query), (.str s.mutation)])] fun x1 => cnd (chk .bool x1)
 (cnd (boolV x1)
 (callp O 28 [(.agg [(.slice (List.map encOp d.ops) [] false), (.slice (List.map encFrag d.frags) [] false)])] fun x3 => cnd (chk .bool x3)
 (cnd (boolV x3)
 (callp O 28 [(.agg [(.slice [] [] false), (.slice [(.agg [(.str []), (.str []), (.slice [] [] false), (.slice (List.map encSel l0) [] false)])] [] false)])] fun x5 => cnd (chk .bool x5)
 (some ((.bool (boolV x5)), [])) none)
 (some ((.bool false), []))) none)
 (some ((.bool false), []))) none
noncomputable def seinelaw25_light_B (s : GSchema) (d : GDoc) (l0 : List GSel) : Option Bool :=
 bnd (seinelaw8_Light s) fun y2 =>
 cnd y2
 (bnd (seinelaw7_Light d) fun y4 =>
 cnd y4
 (bnd (seinelaw7_Light (GDoc.mk ([] : List GOp) [(GFrag.mk [] [] ([] : List GDir) l0)])) fun y6 =>
 some y6)
 (some false))
 (some false)
def seinelaw25_light_ds : Decs := { decs := [(8, .bool), (11, .bool), (18, .bool)], ups := [], loops := [] }
set_option maxRecDepth 100000 in
theorem seinelaw25_light_t1 (O : Orc) (LP : LBody → LBody) (s : GSchema) (d : GDoc) (l0 : List GSel) : evalBodyD Try.prog (MT 11) seinelaw25_light_ds Try.f11.ntmps O LP Try.f11 [(.agg [(.slice (List.map encDef s.defs) [] false), (.str s.query), (.str s.mutation)]), (.agg [(.slice (List.map encOp d.ops) [] false), (.slice (List.map encFrag d.frags) [] false)]), (.slice (List.map encSel l0) [] false)] [] = seinelaw25_light_T1 O LP s d l0 := by kernel_rfl
theorem seinelaw25_light_imp (s : GSchema) (d : GDoc) (l0 : List GSel) : Imp (seinelaw25_light_B s d l0) (seinelaw25_light_T1 O loopLim s d l0) (fun r v => v = (seinelaw25_lightE r, [])) := by
 simp only [seinelaw25_light_B, seinelaw25_light_T1]
 try simp only [evs, tys]
 refine Imp.call (f := seinelaw8_LightE) rfl (fun a h => by first | exact seinelaw8_Light_spec h | simpa only [evs, tys, evl] using seinelaw8_Light_spec h) (fun a => by first | rfl | simp only [seinelaw8_LightE, evk, chks]) fun y2 hy2 => ?_
 try simp only [seinelaw8_LightE, evs, tys]
 refine Imp.cnd ?_ ?_
 ·refine Imp.call (f := seinelaw7_LightE) rfl (fun a h => by first | exact seinelaw7_Light_spec h | simpa only [evs, tys, evl] using seinelaw7_Light_spec h) (fun a => by first | rfl | simp only [seinelaw7_LightE, evk, chks]) fun y4 hy4 => ?_
  try simp only [seinelaw7_LightE, evs, tys]
  refine Imp.cnd ?_ ?_
  ·refine Imp.call (f := seinelaw7_LightE) rfl (fun a h => by first | exact seinelaw7_Light_spec h | simpa only [evs, tys, evl] using seinelaw7_Light_spec h) (fun a => by first | rfl | simp only [seinelaw7_LightE, evk, chks]) fun y6 hy6 => ?_
   try simp only [seinelaw7_LightE, evs, tys]
   exact Imp.some (by first | rfl | simp only [seinelaw25_lightE, evs, tys, evl])
  ·exact Imp.some (by first | rfl | simp only [seinelaw25_lightE, evs, tys, evl])
 ·exact Imp.some (by first | rfl | simp only [seinelaw25_lightE, evs, tys, evl])
theorem seinelaw25_light_run {s : GSchema} {d : GDoc} {l0 : List GSel} {r : Bool} (h : seinelaw25_light_B s d l0 = some r) : seinelaw25_light s d l0 = some r := by
 obtain ⟨v, hv, rfl⟩ := seinelaw25_light_imp s d l0 r h
 exact tO_of (pair_inj seinelaw25_lightEj) (OL_runD seinelaw25_light_ds rfl rfl Try.func11 ((seinelaw25_light_t1 _ _ s d l0).trans hv))
def collect_Holds_i1_T1 (O : Orc) (LP : LBody → LBody) : Option (PV × UP) :=
 callp O 38 [(.slice [] [] false), (.str [115, 107, 105, 112]), (.slice [] [] false)] fun x1 => cnd (chk (.tup [.bool, .bool]) x1)
 (callp O 38 [(.slice [] [] false), (.str [105, 110, 99, 108, 117, 100, 101]), (.slice [] [] false)] fun x3 => cnd (chk (.tup [.bool, .bool]) x3)
 (cnd (!(boolV (gt (tupV x1) 1)))
 (cnd (!(boolV (gt (tupV x3) 0)))
 (some ((.bool true), []))
 (some ((.bool (boolV (gt (tupV x3) 1))), [])))
 (some ((.bool false), []))) none) none
noncomputable def collect_Holds_i1_B : Option Bool :=
 bnd (collect_first ([] : List GMember) [115, 107, 105, 112] ([] : List GDir)) fun y2 =>
 bnd (collect_first ([] : List GMember) [105, 110, 99, 108, 117, 100, 101] ([] : List GDir)) fun y4 =>
 cnd (!y2.2)
 (cnd (!y4.1)
 (some true)
 (some y4.2))
 (some false)
def collect_Holds_i1_ds : Decs := { decs := [(12, (.tup [.bool, .bool])), (18, (.tup [.bool, .bool]))], ups := [], loops := [] }
set_option maxRecDepth 100000 in
theorem collect_Holds_i1_t1 (O : Orc) (LP : LBody → LBody) : evalBodyD Try.prog (MT 15) collect_Holds_i1_ds Try.f15.ntmps O LP Try.f15 [(.slice [] [] true), (.slice [] [] true)] [] = collect_Holds_i1_T1 O LP := by kernel_rfl
theorem collect_Holds_i1_imp : Imp (collect_Holds_i1_B) (collect_Holds_i1_T1 O loopLim) (fun r v => v = (collect_Holds_i1E r, [])) := by
 simp only [collect_Holds_i1_B, collect_Holds_i1_T1]
 try simp only [evs, tys]
 refine Imp.call (f := collect_firstE) rfl (fun a h => by first | exact collect_first_spec h | simpa only [evs, tys, evl] using collect_first_spec h) (fun a => by first | rfl | simp only [collect_firstE, evk, chks]) fun y2 hy2 => ?_
 try simp only [collect_firstE, evs, tys]
 refine Imp.call (f := collect_firstE) rfl (fun a h => by first | exact collect_first_spec h | simpa only [evs, tys, evl] using collect_first_spec h) (fun a => by first | rfl | simp only [collect_firstE, evk, chks]) fun y4 hy4 => ?_
 try simp only [collect_firstE, evs, tys]
 refine Imp.cnd ?_ ?_
 ·refine Imp.cnd ?_ ?_
  ·exact Imp.some (by first | rfl | simp only [collect_Holds_i1E, evs, tys, evl])
  ·exact Imp.some (by first | rfl | simp only [collect_Holds_i1E, evs, tys, evl])
 ·exact Imp.some (by first | rfl | simp only [collect_Holds_i1E, evs, tys, evl])
theorem collect_Holds_i1_run {r : Bool} (h : collect_Holds_i1_B = some r) : collect_Holds_i1 = some r := by
 obtain ⟨v, hv, rfl⟩ := collect_Holds_i1_imp r h
 exact tO_of (pair_inj collect_Holds_i1Ej) (OL_runD collect_Holds_i1_ds rfl rfl Try.func15 ((collect_Holds_i1_t1 _ _).trans hv))
def seinelaw25_awake_T1 (O : Orc) (LP : LBody → LBody) : Option (PV × UP) :=
 callp O 18 [(.agg [(.slice [] [] false), (.str []), (.str [])]), (.agg [(.slice [] [] false), (.slice [] [] false)]), (.slice [] [] true), (.str [84]), (.slice [(.agg [(.int .i64 0), (.str []), (.str [97]), (.slice [] [] false), (.slice [] [] false), (.str []), (.slice [] [] false)]), (.agg [(.int .i64 0), (.str [98]), (.str [97]), (.slice [] [] false), (.slice [] [] false), (.str []), (.slice [] [] false)]), (.agg [(.int .i64 2), (.str []), (.str []), (.slice [] [] false), (.slice [] [] false), (.str []), (.slice [(.agg [(.int .i64 0), (.str []), (.str [97]), (.slice [] [] false), (.slice [] [] false), (.str []), (.slice [] [] false)])] [] false)])] [] false)] fun x1 => cnd (chk (.sl false) x1)
 (cnd ((List.length (esV x1) : Int) == 2)
 (bnd (ix 2 (.slice (esV x1) [] false) (.int .i64 0)) fun x3 => cnd (chk (.ref shGroup) x3)
 (cnd ((strV (gt (aggV (refV x3)) 0)) == ([97] : Str))
 (bnd (ix 2 (.slice (esV x1) [] false) (.int .i64 0)) fun x5 => cnd (chk (.ref shGroup) x5)
 (cnd ((List.length (esV (gt (aggV (refV x5)) 1)) : Int) == 2)
 (bnd (ix 2 (.slice (esV x1) [] false) (.int .i64 1)) fun x7 => cnd (chk (.ref shGroup) x7)
 (cnd ((strV (gt (aggV (refV x7)) 0)) == ([98] : Str))
 (callp O 15 [(.slice [] [] true), (.slice [] [] true)] fun x9 => cnd (chk .bool x9)
 (cnd (boolV x9)
 (callp O 22 [(.agg [(.slice [] [] false), (.str []), (.str [])]), (.str [84]), (.str [])] fun x11 => cnd (chk .bool x11)
 (some ((.bool (boolV x11)), [])) none)
 (some ((.bool false), []))) none)
 (some ((.bool false), []))) none)
 (some ((.bool false), []))) none)
 (some ((.bool false), []))) none)
 (some ((.bool false), []))) none
noncomputable def seinelaw25_awake_B : Option Bool :=
 bnd (collect_Groups_i1 (GSchema.mk ([] : List GDef) [] []) (GDoc.mk ([] : List GOp) ([] : List GFrag)) [84] [(GSel.mk 0 [] [97] ([] : List GMember) ([] : List GDir) [] ([] : List GSel)), (GSel.mk 0 [98] [97] ([] : List GMember) ([] : List GDir) [] ([] : List GSel)), (GSel.mk 2 [] [] ([] : List GMember) ([] : List GDir) [] [(GSel.mk 0 [] [97] ([] : List GMember) ([] : List GDir) [] ([] : List GSel))])]) fun y2 =>
 cnd ((List.length y2 : Int) == 2)
 (bnd (nthI y2 0) fun y4 =>
 cnd (y4.key == ([97] : Str))
 (bnd (nthI y2 0) fun y6 =>
 cnd ((List.length y6.sels : Int) == 2)
 (bnd (nthI y2 1) fun y8 =>
 cnd (y8.key == ([98] : Str))
 (bnd (collect_Holds_i1) fun y10 =>
 cnd y10
 (bnd (collect_Applies (GSchema.mk ([] : List GDef) [] []) [84] []) fun y12 =>
 some y12)
 (some false))
 (some false))
 (some false))
 (some false))
 (some false)
def seinelaw25_awake_ds : Decs := { decs := [(10, (.sl false)), (16, (.ref shGroup)), (23, (.ref shGroup)), (31, (.ref shGroup)), (37, .bool), (41, .bool)], ups := [], loops := [] }
set_option maxRecDepth 100000 in
theorem seinelaw25_awake_t1 (O : Orc) (LP : LBody → LBody) : evalBodyD Try.prog (MT 13) seinelaw25_awake_ds Try.f13.ntmps O LP Try.f13 [] [] = seinelaw25_awake_T1 O LP := by kernel_rfl
theorem seinelaw25_awake_imp : Imp (seinelaw25_awake_B) (seinelaw25_awake_T1 O loopLim) (fun r v => v = (seinelaw25_awakeE r, [])) := by
 simp only [seinelaw25_awake_B, seinelaw25_awake_T1]
 try simp only [evs, tys]
 refine Imp.call (f := collect_Groups_i1E) rfl (fun a h => by first | exact collect_Groups_i1_spec h | simpa only [evs, tys, evl] using collect_Groups_i1_spec h) (fun a => by first | rfl | simp only [collect_Groups_i1E, evk, chks]) fun y2 hy2 => ?_
 try simp only [collect_Groups_i1E, evs, tys]
 refine Imp.cnd ?_ ?_
 ·refine Imp.op (f := fun a => .ref (encGroup a)) (fun a h => op_ix (enc := encGroup) (by first | rfl | simp only [evs, tys, evl]) ⟨by first | rfl | simp only [evs, tys, evc], by decide⟩ h) (fun a => chk_GGroup a) fun y4 hy4 => ?_
  try simp only [evs, tys]
  refine Imp.cnd ?_ ?_
  ·refine Imp.op (f := fun a => .ref (encGroup a)) (fun a h => op_ix (enc := encGroup) (by first | rfl | simp only [evs, tys, evl]) ⟨by first | rfl | simp only [evs, tys, evc], by decide⟩ h) (fun a => chk_GGroup a) fun y6 hy6 => ?_
   try simp only [evs, tys]
   refine Imp.cnd ?_ ?_
   ·refine Imp.op (f := fun a => .ref (encGroup a)) (fun a h => op_ix (enc := encGroup) (by first | rfl | simp only [evs, tys, evl]) ⟨by first | rfl | simp only [evs, tys, evc], by decide⟩ h) (fun a => chk_GGroup a) fun y8 hy8 => ?_
    try simp only [evs, tys]
    refine Imp.cnd ?_ ?_
    ·refine Imp.call (f := collect_Holds_i1E) rfl (fun a h => by first | exact collect_Holds_i1_spec h | simpa only [evs, tys, evl] using collect_Holds_i1_spec h) (fun a => by first | rfl | simp only [collect_Holds_i1E, evk, chks]) fun y10 hy10 => ?_
     try simp only [collect_Holds_i1E, evs, tys]
     refine Imp.cnd ?_ ?_
     ·refine Imp.call (f := collect_AppliesE) rfl (fun a h => by first | exact collect_Applies_spec h | simpa only [evs, tys, evl] using collect_Applies_spec h) (fun a => by first | rfl | simp only [collect_AppliesE, evk, chks]) fun y12 hy12 => ?_
      try simp only [collect_AppliesE, evs, tys]
      exact Imp.some (by first | rfl | simp only [seinelaw25_awakeE, evs, tys, evl])
     ·exact Imp.some (by first | rfl | simp only [seinelaw25_awakeE, evs, tys, evl])
    ·exact Imp.some (by first | rfl | simp only [seinelaw25_awakeE, evs, tys, evl])
   ·exact Imp.some (by first | rfl | simp only [seinelaw25_awakeE, evs, tys, evl])
  ·exact Imp.some (by first | rfl | simp only [seinelaw25_awakeE, evs, tys, evl])
 ·exact Imp.some (by first | rfl | simp only [seinelaw25_awakeE, evs, tys, evl])
theorem seinelaw25_awake_run {r : Bool} (h : seinelaw25_awake_B = some r) : seinelaw25_awake = some r := by
 obtain ⟨v, hv, rfl⟩ := seinelaw25_awake_imp r h
 exact tO_of (pair_inj seinelaw25_awakeEj) (OL_runD seinelaw25_awake_ds rfl rfl Try.func13 ((seinelaw25_awake_t1 _ _).trans hv))
def seinekeep_Size_l1 (O : Orc) (LP : LBody → LBody) : LBody := fun s1 s1u => cnd (chkL [(.ptr 0 1 0), (.int .i64), (.int .i64), (.int .i64), (.int .i64), .str, (.sl false), (.sl false)] s1) (cnd (chkU [] s1u)
 (cnd (decide ((intV (gt s1 2)) < (List.length (esV (gt s1 6)) : Int)))
 (bnd (ix 5 (.slice (esV (gt s1 6)) [] false) (.int .i64 (intV (gt s1 2)))) fun x8 => cnd (chk (.ref shValue) x8)
 (callp O 12 [(.agg [(.int .i64 (intV (gt (aggV (refV x8)) 0))), (.int .i64 (intV (gt (aggV (refV x8)) 1))), (.str (strV (gt (aggV (refV x8)) 2))), (.slice (esV (gt (aggV (refV x8)) 3)) [] false), (.slice (esV (gt (aggV (refV x8)) 4)) [] false)])] fun x10 => cnd (chk (.int .i64) x10)
 (some (.nrm, [(.ptr 0 1 0), (.int .i64 (IntKind.wrap .i64 ((intV (gt s1 1)) + (intV x10)))), (.int .i64 (IntKind.wrap .i64 ((intV (gt s1 2)) + 1))), (.int .i64 (intV (gt s1 3))), (.int .i64 (intV (gt s1 4))), (.str (strV (gt s1 5))), (.slice (esV (gt s1 6)) [] false), (.slice (esV (gt s1 7)) [] false)], [])) none) none)
 (some (.brk 0, [(.ptr 0 1 0), (.int .i64 (intV (gt s1 1))), (.int .i64 (intV (gt s1 2))), (.int .i64 (intV (gt s1 3))), (.int .i64 (intV (gt s1 4))), (.str (strV (gt s1 5))), (.slice (esV (gt s1 6)) [] false), (.slice (esV (gt s1 7)) [] false)], []))) none) none
def seinekeep_Size_l2 (O : Orc) (LP : LBody → LBody) : LBody := fun s15 s15u => cnd (chkL [(.ptr 0 1 0), (.int .i64), (.int .i64), (.int .i64), (.int .i64), .str, (.sl false), (.sl false)] s15) (cnd (chkU [] s15u)
 (cnd (decide ((intV (gt s15 2)) < (List.length (esV (gt s15 7)) : Int)))
 (bnd (ix 6 (.slice (esV (gt s15 7)) [] false) (.int .i64 (intV (gt s15 2)))) fun x24 => cnd (chk (.ref shMember) x24)
 (bnd (ix 6 (.slice (esV (gt s15 7)) [] false) (.int .i64 (intV (gt s15 2)))) fun x26 => cnd (chk (.ref shMember) x26)
 (callp O 12 [(.agg [(.int .i64 (intV (gt (aggV (refV x26)) 1))), (.int .i64 (intV (gt (aggV (refV x26)) 2))), (.str (strV (gt (aggV (refV x26)) 3))), (.slice (esV (gt (aggV (refV x26)) 4)) [] false), (.slice (esV (gt (aggV (refV x26)) 5)) [] false)])] fun x28 => cnd (chk (.int .i64) x28)
 (some (.nrm, [(.ptr 0 1 0), (.int .i64 (IntKind.wrap .i64 ((IntKind.wrap .i64 ((intV (gt s15 1)) + (List.length (strV (gt (aggV (refV x24)) 0)) : Int))) + (intV x28)))), (.int .i64 (IntKind.wrap .i64 ((intV (gt s15 2)) + 1))), (.int .i64 (intV (gt s15 3))), (.int .i64 (intV (gt s15 4))), (.str (strV (gt s15 5))), (.slice (esV (gt s15 6)) [] false), (.slice (esV (gt s15 7)) [] false)], [])) none) none) none)
 (some (.brk 2, [(.ptr 0 1 0), (.int .i64 (intV (gt s15 1))), (.int .i64 (intV (gt s15 2))), (.int .i64 (intV (gt s15 3))), (.int .i64 (intV (gt s15 4))), (.str (strV (gt s15 5))), (.slice (esV (gt s15 6)) [] false), (.slice (esV (gt s15 7)) [] false)], []))) none) none
def seinekeep_Size_T1 (O : Orc) (LP : LBody → LBody) (v0 : GValue) : Option (PV × UP) :=
 bnd (LP (seinekeep_Size_l1 O LP) [(.ptr 0 1 0), (.int .i64 (IntKind.wrap .i64 (1 + (List.length v0.s : Int)))), (.int .i64 0), (.int .i64 v0.kind), (.int .i64 v0.n), (.str v0.s), (.slice (List.map encValue v0.l) [] false), (.slice (List.map encMember v0.m) [] false)] []) fun y14 =>
 exIs y14.1 (some 0) (cnd (chkL [(.ptr 0 1 0), (.int .i64), (.int .i64), (.int .i64), (.int .i64), .str, (.sl false), (.sl false)] y14.2.1) (cnd (chkU [] y14.2.2)
 (bnd (LP (seinekeep_Size_l2 O LP) [(.ptr 0 1 0), (.int .i64 (intV (gt y14.2.1 1))), (.int .i64 0), (.int .i64 (intV (gt y14.2.1 3))), (.int .i64 (intV (gt y14.2.1 4))), (.str (strV (gt y14.2.1 5))), (.slice (esV (gt y14.2.1 6)) [] false), (.slice (esV (gt y14.2.1 7)) [] false)] []) fun y32 =>
 exIs y32.1 (some 2) (cnd (chkL [(.ptr 0 1 0), (.int .i64), (.int .i64), (.int .i64), (.int .i64), .str, (.sl false), (.sl false)] y32.2.1) (cnd (chkU [] y32.2.2)
 (some ((.int .i64 (intV (gt y32.2.1 1))), [])) none) none)
 (none)) none) none)
 (none)
noncomputable def seinekeep_Size_l1T (v0 : GValue) : (Int × Int) → Option ((Int × Int) ⊕ Int)
 | (n_6, i_7) =>
 cnd (decide (i_7 < (List.length v0.l : Int)))
  (bnd (nthI v0.l i_7) fun y9 =>
  bnd (seinekeep_Size y9) fun y11 =>
  some (.inl ((IntKind.wrap .i64 (n_6 + y11)), (IntKind.wrap .i64 (i_7 + 1)))))
  (some (.inr n_6))
abbrev seinekeep_Size_l1R (v0 : GValue) (st : Int × Int) (l : List PV) (u : UP) : Prop := l = [(.ptr 0 1 0), (.int .i64 st.1), (.int .i64 st.2), (.int .i64 v0.kind), (.int .i64 v0.n), (.str v0.s), (.slice (List.map encValue v0.l) [] false), (.slice (List.map encMember v0.m) [] false)] ∧ u = []
abbrev seinekeep_Size_l1X (v0 : GValue) (p : Int) (r : Ex × List PV × UP) : Prop := (fun (p : Int) => ∃ (i_13 : Int), r = (Ex.brk 0, [(.ptr 0 1 0), (.int .i64 p), (.int .i64 i_13), (.int .i64 v0.kind), (.int .i64 v0.n), (.str v0.s), (.slice (List.map encValue v0.l) [] false), (.slice (List.map encMember v0.m) [] false)], [])) p
noncomputable def seinekeep_Size_l2T (v0 : GValue) : (Int × Int) → Option ((Int × Int) ⊕ Int)
 | (n_22, i_23) =>
 cnd (decide (i_23 < (List.length v0.m : Int)))
  (bnd (nthI v0.m i_23) fun y25 =>
  bnd (nthI v0.m i_23) fun y27 =>
  bnd (seinekeep_Size y27.v) fun y29 =>
  some (.inl ((IntKind.wrap .i64 ((IntKind.wrap .i64 (n_22 + (List.length y25.name : Int))) + y29)), (IntKind.wrap .i64 (i_23 + 1)))))
  (some (.inr n_22))
abbrev seinekeep_Size_l2R (v0 : GValue) (st : Int × Int) (l : List PV) (u : UP) : Prop := l = [(.ptr 0 1 0), (.int .i64 st.1), (.int .i64 st.2), (.int .i64 v0.kind), (.int .i64 v0.n), (.str v0.s), (.slice (List.map encValue v0.l) [] false), (.slice (List.map encMember v0.m) [] false)] ∧ u = []
abbrev seinekeep_Size_l2X (v0 : GValue) (p : Int) (r : Ex × List PV × UP) : Prop := (fun (p : Int) => ∃ (i_31 : Int), r = (Ex.brk 2, [(.ptr 0 1 0), (.int .i64 p), (.int .i64 i_31), (.int .i64 v0.kind), (.int .i64 v0.n), (.str v0.s), (.slice (List.map encValue v0.l) [] false), (.slice (List.map encMember v0.m) [] false)], [])) p
noncomputable def seinekeep_Size_B (v0 : GValue) : Option Int :=
 bnd (tloop (seinekeep_Size_l1T v0) ((IntKind.wrap .i64 (1 + (List.length v0.s : Int))), 0)) fun n_12 =>
 bnd (tloop (seinekeep_Size_l2T v0) (n_12, 0)) fun n_30 =>
 some n_30
def seinekeep_Size_ds : Decs := { decs := [(21, (.ref shValue)), (23, (.int .i64)), (36, (.ref shMember)), (44, (.ref shMember)), (47, (.int .i64))], ups := [], loops := [(3, [(1, 5)], ⟨[(.ptr 0 1 0), (.int .i64), (.int .i64), (.int .i64), (.int .i64), .str, (.sl false), (.sl false)], [], [(some 0, [(.ptr 0 1 0), (.int .i64), (.int .i64), (.int .i64), (.int .i64), .str, (.sl false), (.sl false)], [])]⟩), (7, [(1, 5)], ⟨[(.ptr 0 1 0), (.int .i64), (.int .i64), (.int .i64), (.int .i64), .str, (.sl false), (.sl false)], [], [(some 2, [(.ptr 0 1 0), (.int .i64), (.int .i64), (.int .i64), (.int .i64), .str, (.sl false), (.sl false)], [])]⟩)] }
set_option maxRecDepth 100000 in
theorem seinekeep_Size_t1 (O : Orc) (LP : LBody → LBody) (v0 : GValue) : evalBodyD Try.prog (MT 12) seinekeep_Size_ds Try.f12.ntmps O LP Try.f12 [(.agg [(.int .i64 v0.kind), (.int .i64 v0.n), (.str v0.s), (.slice (List.map encValue v0.l) [] false), (.slice (List.map encMember v0.m) [] false)])] [] = seinekeep_Size_T1 O LP v0 := by kernel_rfl
theorem seinekeep_Size_l1_ok (v0 : GValue) : ∀ st l u, seinekeep_Size_l1R v0 st l u → Imp (seinekeep_Size_l1T v0 st) (seinekeep_Size_l1 O loopLim l u) (StepR (seinekeep_Size_l1R v0) (seinekeep_Size_l1X v0)) := by
 rintro ⟨n_6, i_7⟩ l u ⟨rfl, rfl⟩
 simp only [seinekeep_Size_l1T, seinekeep_Size_l1]
 refine Imp.chk rfl (Imp.chk rfl ?_)
 try simp only [evs, tys]
 refine Imp.cnd ?_ ?_
 ·refine Imp.op (f := fun a => .ref (encValue a)) (fun a h => op_ix (enc := encValue) (by first | rfl | simp only [evs, tys, evl]) ⟨by first | rfl | simp only [evs, tys, evc], by decide⟩ h) (fun a => chk_GValue a) fun y9 hy9 => ?_
  try simp only [evs, tys]
  refine Imp.call (f := seinekeep_SizeE) rfl (fun a h => by first | exact seinekeep_Size_spec h | simpa only [evs, tys, evl] using seinekeep_Size_spec h) (fun a => by first | rfl | simp only [seinekeep_SizeE, evk, chks]) fun y11 hy11 => ?_
  try simp only [seinekeep_SizeE, evs, tys]
  exact Imp.some (StepR.next ⟨by first | rfl | simp only [evs, tys, evl], rfl⟩)
 ·exact Imp.some (StepR.brk ⟨i_7, by first | rfl | simp only [evs, tys, evl, elim_inl, elim_inr]⟩)
theorem seinekeep_Size_l2_ok (v0 : GValue) : ∀ st l u, seinekeep_Size_l2R v0 st l u → Imp (seinekeep_Size_l2T v0 st) (seinekeep_Size_l2 O loopLim l u) (StepR (seinekeep_Size_l2R v0) (seinekeep_Size_l2X v0)) := by
 rintro ⟨n_22, i_23⟩ l u ⟨rfl, rfl⟩
 simp only [seinekeep_Size_l2T, seinekeep_Size_l2]
 refine Imp.chk rfl (Imp.chk rfl ?_)
 try simp only [evs, tys]
 refine Imp.cnd ?_ ?_
 ·refine Imp.op (f := fun a => .ref (encMember a)) (fun a h => op_ix (enc := encMember) (by first | rfl | simp only [evs, tys, evl]) ⟨by first | rfl | simp only [evs, tys, evc], by decide⟩ h) (fun a => chk_GMember a) fun y25 hy25 => ?_
  try simp only [evs, tys]
  refine Imp.op (f := fun a => .ref (encMember a)) (fun a h => op_ix (enc := encMember) (by first | rfl | simp only [evs, tys, evl]) ⟨by first | rfl | simp only [evs, tys, evc], by decide⟩ h) (fun a => chk_GMember a) fun y27 hy27 => ?_
  try simp only [evs, tys]
  refine Imp.call (f := seinekeep_SizeE) rfl (fun a h => by first | exact seinekeep_Size_spec h | simpa only [evs, tys, evl] using seinekeep_Size_spec h) (fun a => by first | rfl | simp only [seinekeep_SizeE, evk, chks]) fun y29 hy29 => ?_
  try simp only [seinekeep_SizeE, evs, tys]
  exact Imp.some (StepR.next ⟨by first | rfl | simp only [evs, tys, evl], rfl⟩)
 ·exact Imp.some (StepR.brk ⟨i_23, by first | rfl | simp only [evs, tys, evl, elim_inl, elim_inr]⟩)
theorem seinekeep_Size_imp (v0 : GValue) : Imp (seinekeep_Size_B v0) (seinekeep_Size_T1 O loopLim v0) (fun r v => v = (seinekeep_SizeE r, [])) := by
 simp only [seinekeep_Size_B, seinekeep_Size_T1]
 try simp only [evs, tys]
 refine Imp.bnd (Imp.loop (seinekeep_Size_l1_ok v0) ⟨by first | rfl | simp only [evs, tys, evl], rfl⟩) ?_
 rintro n_12 vy14 hy14
 obtain ⟨i_13, rfl⟩ := hy14
 refine Imp.exHit rfl (Imp.chk rfl (Imp.chk rfl ?_))
 try simp only [evs, tys]
 refine Imp.bnd (Imp.loop (seinekeep_Size_l2_ok v0) ⟨by first | rfl | simp only [evs, tys, evl], rfl⟩) ?_
 rintro n_30 vy32 hy32
 obtain ⟨i_31, rfl⟩ := hy32
 refine Imp.exHit rfl (Imp.chk rfl (Imp.chk rfl ?_))
 try simp only [evs, tys]
 exact Imp.some (by first | rfl | simp only [seinekeep_SizeE, evs, tys, evl])
theorem seinekeep_Size_run {v0 : GValue} {r : Int} (h : seinekeep_Size_B v0 = some r) : seinekeep_Size v0 = some r := by
 obtain ⟨v, hv, rfl⟩ := seinekeep_Size_imp v0 r h
 exact tO_of (pair_inj seinekeep_SizeEj) (OL_runD seinekeep_Size_ds rfl rfl Try.func12 ((seinekeep_Size_t1 _ _ v0).trans hv))
def seinekeep_Sels_l1 (O : Orc) (LP : LBody → LBody) : LBody := fun s1 s1u => cnd (chkL [(.sl false), (.sl true), (.int .i64)] s1) (cnd (chkU [] s1u)
 (cnd (decide ((intV (gt s1 2)) < (List.length (esV (gt s1 0)) : Int)))
 (bnd (ix 7 (.slice (esV (gt s1 0)) [] false) (.int .i64 (intV (gt s1 2)))) fun x14 => cnd (chk (.ref shSel) x14)
 (callp O 36 [(.slice (esV (gt (aggV (refV x14)) 3)) [] false)] fun x16 => cnd (chk (.sl false) x16)
 (callp O 37 [(.slice (esV (gt (aggV (refV x14)) 4)) [] false)] fun x18 => cnd (chk (.sl false) x18)
 (callp O 14 [(.slice (esV (gt (aggV (refV x14)) 6)) [] false)] fun x20 => cnd (chk (.sl false) x20)
 (bnd (apd 7 (.slice (esV (gt s1 1)) [] true) (.slice [(.agg [(.int .i64 (intV (gt (aggV (refV x14)) 0))), (.str (strV (gt (aggV (refV x14)) 1))), (.str (strV (gt (aggV (refV x14)) 2))), (.slice (esV x16) [] false), (.slice (esV x18) [] false), (.str (strV (gt (aggV (refV x14)) 5))), (.slice (esV x20) [] false)])] [] true)) fun x22 => cnd (chk (.sl true) x22)
 (some (.nrm, [(.slice (esV (gt s1 0)) [] false), (.slice (esV x22) [] true), (.int .i64 (IntKind.wrap .i64 ((intV (gt s1 2)) + 1)))], [])) none) none) none) none) none)
 (some (.brk 0, [(.slice (esV (gt s1 0)) [] false), (.slice (esV (gt s1 1)) [] true), (.int .i64 (intV (gt s1 2)))], []))) none) none
def seinekeep_Sels_T1 (O : Orc) (LP : LBody → LBody) (l0 : List GSel) : Option (PV × UP) :=
 bnd (LP (seinekeep_Sels_l1 O LP) [(.slice (List.map encSel l0) [] false), (.slice [] [] true), (.int .i64 0)] []) fun y26 =>
 exIs y26.1 (some 0) (cnd (chkL [(.sl false), (.sl true), (.int .i64)] y26.2.1) (cnd (chkU [] y26.2.2)
 (some ((.slice (esV (gt y26.2.1 1)) [] false), [])) none) none)
 (none)
noncomputable def seinekeep_Sels_l1T (l0 : List GSel) : ((List GSel) × Int) → Option (((List GSel) × Int) ⊕ ((List GSel)))
 | (out_12, i_13) =>
 cnd (decide (i_13 < (List.length l0 : Int)))
  (bnd (nthI l0 i_13) fun y15 =>
  bnd (seinekeep_Members y15.args) fun y17 =>
  bnd (seinekeep_Dirs y15.dirs) fun y19 =>
  bnd (seinekeep_Sels y15.sels) fun y21 =>
  bnd (tapp out_12 [(GSel.mk y15.kind y15.alias y15.name y17 y19 y15.on_ y21)]) fun y23 =>
  some (.inl (y23, (IntKind.wrap .i64 (i_13 + 1)))))
  (some (.inr out_12))
abbrev seinekeep_Sels_l1R (l0 : List GSel) (st : (List GSel) × Int) (l : List PV) (u : UP) : Prop := l = [(.slice (List.map encSel l0) [] false), (.slice (List.map encSel st.1) [] true), (.int .i64 st.2)] ∧ u = []
abbrev seinekeep_Sels_l1X (l0 : List GSel) (p : (List GSel)) (r : Ex × List PV × UP) : Prop := (fun (p : (List GSel)) => ∃ (i_25 : Int), r = (Ex.brk 0, [(.slice (List.map encSel l0) [] false), (.slice (List.map encSel p) [] true), (.int .i64 i_25)], [])) p
noncomputable def seinekeep_Sels_B (l0 : List GSel) : Option (List GSel) :=
 bnd (tloop (seinekeep_Sels_l1T l0) ([], 0)) fun out_24 =>
 some out_24
def seinekeep_Sels_ds : Decs := { decs := [(14, (.ref shSel)), (18, (.sl false)), (21, (.sl false)), (24, (.sl false)), (31, (.sl true))], ups := [], loops := [(3, [], ⟨[(.sl false), (.sl true), (.int .i64)], [], [(some 0, [(.sl false), (.sl true), (.int .i64)], [])]⟩)] }
set_option maxRecDepth 100000 in
theorem seinekeep_Sels_t1 (O : Orc) (LP : LBody → LBody) (l0 : List GSel) : evalBodyD Try.prog (MT 14) seinekeep_Sels_ds Try.f14.ntmps O LP Try.f14 [(.slice (List.map encSel l0) [] false)] [] = seinekeep_Sels_T1 O LP l0 := by kernel_rfl
theorem seinekeep_Sels_l1_ok (l0 : List GSel) : ∀ st l u, seinekeep_Sels_l1R l0 st l u → Imp (seinekeep_Sels_l1T l0 st) (seinekeep_Sels_l1 O loopLim l u) (StepR (seinekeep_Sels_l1R l0) (seinekeep_Sels_l1X l0)) := by
 rintro ⟨out_12, i_13⟩ l u ⟨rfl, rfl⟩
 simp only [seinekeep_Sels_l1T, seinekeep_Sels_l1]
 refine Imp.chk rfl (Imp.chk rfl ?_)
 try simp only [evs, tys]
 refine Imp.cnd ?_ ?_
 ·refine Imp.op (f := fun a => .ref (encSel a)) (fun a h => op_ix (enc := encSel) (by first | rfl | simp only [evs, tys, evl]) ⟨by first | rfl | simp only [evs, tys, evc], by decide⟩ h) (fun a => chk_GSel a) fun y15 hy15 => ?_
  try simp only [evs, tys]
  refine Imp.call (f := seinekeep_MembersE) rfl (fun a h => by first | exact seinekeep_Members_spec h | simpa only [evs, tys, evl] using seinekeep_Members_spec h) (fun a => by first | rfl | simp only [seinekeep_MembersE, evk, chks]) fun y17 hy17 => ?_
  try simp only [seinekeep_MembersE, evs, tys]
  refine Imp.call (f := seinekeep_DirsE) rfl (fun a h => by first | exact seinekeep_Dirs_spec h | simpa only [evs, tys, evl] using seinekeep_Dirs_spec h) (fun a => by first | rfl | simp only [seinekeep_DirsE, evk, chks]) fun y19 hy19 => ?_
  try simp only [seinekeep_DirsE, evs, tys]
  refine Imp.call (f := seinekeep_SelsE) rfl (fun a h => by first | exact seinekeep_Sels_spec h | simpa only [evs, tys, evl] using seinekeep_Sels_spec h) (fun a => by first | rfl | simp only [seinekeep_SelsE, evk, chks]) fun y21 hy21 => ?_
  try simp only [seinekeep_SelsE, evs, tys]
  refine Imp.op (f := fun a => .slice (List.map encSel a) [] true) (fun a h => op_apd (enc := encSel) (by first | rfl | simp only [evs, tys, evl]) (by first | rfl | simp only [evs, tys, evl]) (fun a => by first | rfl | simp only [evs, tys, evc]) h) (fun a => rfl) fun y23 hy23 => ?_
  try simp only [evs, tys]
  exact Imp.some (StepR.next ⟨by first | rfl | simp only [evs, tys, evl], rfl⟩)
 ·exact Imp.some (StepR.brk ⟨i_13, by first | rfl | simp only [evs, tys, evl, elim_inl, elim_inr]⟩)
theorem seinekeep_Sels_imp (l0 : List GSel) : Imp (seinekeep_Sels_B l0) (seinekeep_Sels_T1 O loopLim l0) (fun r v => v = (seinekeep_SelsE r, [])) := by
 simp only [seinekeep_Sels_B, seinekeep_Sels_T1]
 try simp only [evs, tys]
 refine Imp.bnd (Imp.loop (seinekeep_Sels_l1_ok l0) ⟨by first | rfl | simp only [evs, tys, evl], rfl⟩) ?_
 rintro out_24 vy26 hy26
 obtain ⟨i_25, rfl⟩ := hy26
 refine Imp.exHit rfl (Imp.chk rfl (Imp.chk rfl ?_))
 try simp only [evs, tys]
 exact Imp.some (by first | rfl | simp only [seinekeep_SelsE, evs, tys, evl])
theorem seinekeep_Sels_run {l0 : List GSel} {r : List GSel} (h : seinekeep_Sels_B l0 = some r) : seinekeep_Sels l0 = some r := by
 obtain ⟨v, hv, rfl⟩ := seinekeep_Sels_imp l0 r h
 exact tO_of (pair_inj seinekeep_SelsEj) (OL_runD seinekeep_Sels_ds rfl rfl Try.func14 ((seinekeep_Sels_t1 _ _ l0).trans hv))
def collect_Holds_T1 (O : Orc) (LP : LBody → LBody) (env : List GMember) (dirs : List GDir) : Option (PV × UP) :=
 callp O 38 [(.slice (List.map encMember env) [] false), (.str [115, 107, 105, 112]), (.slice (List.map encDir dirs) [] false)] fun x1 => cnd (chk (.tup [.bool, .bool]) x1)
 (callp O 38 [(.slice (List.map encMember env) [] false), (.str [105, 110, 99, 108, 117, 100, 101]), (.slice (List.map encDir dirs) [] false)] fun x3 => cnd (chk (.tup [.bool, .bool]) x3)
 (cnd (!(boolV (gt (tupV x1) 1)))
 (cnd (!(boolV (gt (tupV x3) 0)))
 (some ((.bool true), []))
 (some ((.bool (boolV (gt (tupV x3) 1))), [])))
 (some ((.bool false), []))) none) none
noncomputable def collect_Holds_B (env : List GMember) (dirs : List GDir) : Option Bool :=
 bnd (collect_first env [115, 107, 105, 112] dirs) fun y2 =>
 bnd (collect_first env [105, 110, 99, 108, 117, 100, 101] dirs) fun y4 =>
 cnd (!y2.2)
 (cnd (!y4.1)
 (some true)
 (some y4.2))
 (some false)
def collect_Holds_ds : Decs := { decs := [(12, (.tup [.bool, .bool])), (18, (.tup [.bool, .bool]))], ups := [], loops := [] }
set_option maxRecDepth 100000 in
theorem collect_Holds_t1 (O : Orc) (LP : LBody → LBody) (env : List GMember) (dirs : List GDir) : evalBodyD Try.prog (MT 15) collect_Holds_ds Try.f15.ntmps O LP Try.f15 [(.slice (List.map encMember env) [] false), (.slice (List.map encDir dirs) [] false)] [] = collect_Holds_T1 O LP env dirs := by kernel_rfl
theorem collect_Holds_imp (env : List GMember) (dirs : List GDir) : Imp (collect_Holds_B env dirs) (collect_Holds_T1 O loopLim env dirs) (fun r v => v = (collect_HoldsE r, [])) := by
 simp only [collect_Holds_B, collect_Holds_T1]
 try simp only [evs, tys]
 refine Imp.call (f := collect_firstE) rfl (fun a h => by first | exact collect_first_spec h | simpa only [evs, tys, evl] using collect_first_spec h) (fun a => by first | rfl | simp only [collect_firstE, evk, chks]) fun y2 hy2 => ?_
 try simp only [collect_firstE, evs, tys]
 refine Imp.call (f := collect_firstE) rfl (fun a h => by first | exact collect_first_spec h | simpa only [evs, tys, evl] using collect_first_spec h) (fun a => by first | rfl | simp only [collect_firstE, evk, chks]) fun y4 hy4 => ?_
 try simp only [collect_firstE, evs, tys]
 refine Imp.cnd ?_ ?_
 ·refine Imp.cnd ?_ ?_
  ·exact Imp.some (by first | rfl | simp only [collect_HoldsE, evs, tys, evl])
  ·exact Imp.some (by first | rfl | simp only [collect_HoldsE, evs, tys, evl])
 ·exact Imp.some (by first | rfl | simp only [collect_HoldsE, evs, tys, evl])
theorem collect_Holds_run {env : List GMember} {dirs : List GDir} {r : Bool} (h : collect_Holds_B env dirs = some r) : collect_Holds env dirs = some r := by
 obtain ⟨v, hv, rfl⟩ := collect_Holds_imp env dirs r h
 exact tO_of (pair_inj collect_HoldsEj) (OL_runD collect_Holds_ds rfl rfl Try.func15 ((collect_Holds_t1 _ _ env dirs).trans hv))
def seineref23_Holds_l1 (O : Orc) (LP : LBody → LBody) : LBody := fun s1 s1u => cnd (chkL [(.sl false), (.sl false), .bool, .bool, .bool, (.int .i64)] s1) (cnd (chkU [] s1u)
 (cnd (decide ((intV (gt s1 5)) < (List.length (esV (gt s1 1)) : Int)))
 (bnd (ix 2 (.slice (esV (gt s1 1)) [] false) (.int .i64 (intV (gt s1 5)))) fun x29 => cnd (chk (.ref shDir) x29)
 (cnd ((strV (gt (aggV (refV x29)) 0)) == ([115, 107, 105, 112] : Str))
 (cnd (!(boolV (gt s1 3)))
 (bnd (ix 2 (.slice (esV (gt s1 1)) [] false) (.int .i64 (intV (gt s1 5)))) fun x31 => cnd (chk (.ref shDir) x31)
 (callp O 39 [(.slice (esV (gt s1 0)) [] false), (.agg [(.str (strV (gt (aggV (refV x31)) 0))), (.slice (esV (gt (aggV (refV x31)) 1)) [] false)])] fun x33 => cnd (chk .bool x33)
 (cnd (boolV x33)
 (some (.ret, [(.slice (esV (gt s1 0)) [] false), (.slice (esV (gt s1 1)) [] false), (.bool false), (.bool true), (.bool (boolV (gt s1 4))), (.int .i64 (intV (gt s1 5)))], []))
 (bnd (ix 2 (.slice (esV (gt s1 1)) [] false) (.int .i64 (intV (gt s1 5)))) fun x35 => cnd (chk (.ref shDir) x35)
 (cnd ((strV (gt (aggV (refV x35)) 0)) == ([105, 110, 99, 108, 117, 100, 101] : Str))
 (cnd (!(boolV (gt s1 4)))
 (bnd (ix 2 (.slice (esV (gt s1 1)) [] false) (.int .i64 (intV (gt s1 5)))) fun x37 => cnd (chk (.ref shDir) x37)
 (callp O 39 [(.slice (esV (gt s1 0)) [] false), (.agg [(.str (strV (gt (aggV (refV x37)) 0))), (.slice (esV (gt (aggV (refV x37)) 1)) [] false)])] fun x39 => cnd (chk .bool x39)
 (cnd (!(boolV x39))
 (some (.ret, [(.slice (esV (gt s1 0)) [] false), (.slice (esV (gt s1 1)) [] false), (.bool false), (.bool true), (.bool true), (.int .i64 (intV (gt s1 5)))], []))
 (some (.nrm, [(.slice (esV (gt s1 0)) [] false), (.slice (esV (gt s1 1)) [] false), (.bool (boolV (gt s1 2))), (.bool true), (.bool true), (.int .i64 (IntKind.wrap .i64 ((intV (gt s1 5)) + 1)))], []))) none) none)
 (some (.nrm, [(.slice (esV (gt s1 0)) [] false), (.slice (esV (gt s1 1)) [] false), (.bool (boolV (gt s1 2))), (.bool true), (.bool (boolV (gt s1 4))), (.int .i64 (IntKind.wrap .i64 ((intV (gt s1 5)) + 1)))], [])))
 (some (.nrm, [(.slice (esV (gt s1 0)) [] false), (.slice (esV (gt s1 1)) [] false), (.bool (boolV (gt s1 2))), (.bool true), (.bool (boolV (gt s1 4))), (.int .i64 (IntKind.wrap .i64 ((intV (gt s1 5)) + 1)))], []))) none)) none) none)
 (bnd (ix 2 (.slice (esV (gt s1 1)) [] false) (.int .i64 (intV (gt s1 5)))) fun x41 => cnd (chk (.ref shDir) x41)
 (cnd ((strV (gt (aggV (refV x41)) 0)) == ([105, 110, 99, 108, 117, 100, 101] : Str))
 (cnd (!(boolV (gt s1 4)))
 (bnd (ix 2 (.slice (esV (gt s1 1)) [] false) (.int .i64 (intV (gt s1 5)))) fun x43 => cnd (chk (.ref shDir) x43)
 (callp O 39 [(.slice (esV (gt s1 0)) [] false), (.agg [(.str (strV (gt (aggV (refV x43)) 0))), (.slice (esV (gt (aggV (refV x43)) 1)) [] false)])] fun x45 => cnd (chk .bool x45)
 (cnd (!(boolV x45))
 (some (.ret, [(.slice (esV (gt s1 0)) [] false), (.slice (esV (gt s1 1)) [] false), (.bool false), (.bool (boolV (gt s1 3))), (.bool true), (.int .i64 (intV (gt s1 5)))], []))
 (some (.nrm, [(.slice (esV (gt s1 0)) [] false), (.slice (esV (gt s1 1)) [] false), (.bool (boolV (gt s1 2))), (.bool (boolV (gt s1 3))), (.bool true), (.int .i64 (IntKind.wrap .i64 ((intV (gt s1 5)) + 1)))], []))) none) none)
 (some (.nrm, [(.slice (esV (gt s1 0)) [] false), (.slice (esV (gt s1 1)) [] false), (.bool (boolV (gt s1 2))), (.bool (boolV (gt s1 3))), (.bool (boolV (gt s1 4))), (.int .i64 (IntKind.wrap .i64 ((intV (gt s1 5)) + 1)))], [])))
 (some (.nrm, [(.slice (esV (gt s1 0)) [] false), (.slice (esV (gt s1 1)) [] false), (.bool (boolV (gt s1 2))), (.bool (boolV (gt s1 3))), (.bool (boolV (gt s1 4))), (.int .i64 (IntKind.wrap .i64 ((intV (gt s1 5)) + 1)))], []))) none))
 (bnd (ix 2 (.slice (esV (gt s1 1)) [] false) (.int .i64 (intV (gt s1 5)))) fun x47 => cnd (chk (.ref shDir) x47)
 (cnd ((strV (gt (aggV (refV x47)) 0)) == ([105, 110, 99, 108, 117, 100, 101] : Str))
 (cnd (!(boolV (gt s1 4)))
 (bnd (ix 2 (.slice (esV (gt s1 1)) [] false) (.int .i64 (intV (gt s1 5)))) fun x49 => cnd (chk (.ref shDir) x49)
 (callp O 39 [(.slice (esV (gt s1 0)) [] false), (.agg [(.str (strV (gt (aggV (refV x49)) 0))), (.slice (esV (gt (aggV (refV x49)) 1)) [] false)])] fun x51 => cnd (chk .bool x51)
 (cnd (!(boolV x51))
 (some (.ret, [(.slice (esV (gt s1 0)) [] false), (.slice (esV (gt s1 1)) [] false), (.bool false), (.bool (boolV (gt s1 3))), (.bool true), (.int .i64 (intV (gt s1 5)))], []))
 (some (.nrm, [(.slice (esV (gt s1 0)) [] false), (.slice (esV (gt s1 1)) [] false), (.bool (boolV (gt s1 2))), (.bool (boolV (gt s1 3))), (.bool true), (.int .i64 (IntKind.wrap .i64 ((intV (gt s1 5)) + 1)))], []))) none) none)
 (some (.nrm, [(.slice (esV (gt s1 0)) [] false), (.slice (esV (gt s1 1)) [] false), (.bool (boolV (gt s1 2))), (.bool (boolV (gt s1 3))), (.bool (boolV (gt s1 4))), (.int .i64 (IntKind.wrap .i64 ((intV (gt s1 5)) + 1)))], [])))
 (some (.nrm, [(.slice (esV (gt s1 0)) [] false), (.slice (esV (gt s1 1)) [] false), (.bool (boolV (gt s1 2))), (.bool (boolV (gt s1 3))), (.bool (boolV (gt s1 4))), (.int .i64 (IntKind.wrap .i64 ((intV (gt s1 5)) + 1)))], []))) none)) none)
 (some (.brk 0, [(.slice (esV (gt s1 0)) [] false), (.slice (esV (gt s1 1)) [] false), (.bool (boolV (gt s1 2))), (.bool (boolV (gt s1 3))), (.bool (boolV (gt s1 4))), (.int .i64 (intV (gt s1 5)))], []))) none) none
def seineref23_Holds_T1 (O : Orc) (LP : LBody → LBody) (env : List GMember) (dirs : List GDir) : Option (PV × UP) :=
 bnd (LP (seineref23_Holds_l1 O LP) [(.slice (List.map encMember env) [] false), (.slice (List.map encDir dirs) [] false), (.bool false), (.bool false), (.bool false), (.int .i64 0)] []) fun y59 =>
 exIs y59.1 (some 0) (cnd (chkL [(.sl false), (.sl false), .bool, .bool, .bool, (.int .i64)] y59.2.1) (cnd (chkU [] y59.2.2)
 (some ((.bool true), [])) none) none)
 (exIs y59.1 none (cnd (chkL [(.sl false), (.sl false), .bool, .bool, .bool, (.int .i64)] y59.2.1) (cnd (chkU [] y59.2.2)
 (some ((.bool (boolV (gt y59.2.1 2))), [])) none) none)
 (none))
noncomputable def seineref23_Holds_l1T (env : List GMember) (dirs : List GDir) : (Bool × Bool × Int) → Option ((Bool × Bool × Int) ⊕ (Unit ⊕ Unit))
 | (skip_26, include_27, i_28) =>
 cnd (decide (i_28 < (List.length dirs : Int)))
  (bnd (nthI dirs i_28) fun y30 =>
  cnd (y30.name == ([115, 107, 105, 112] : Str))
  (cnd (!skip_26)
   (bnd (nthI dirs i_28) fun y32 =>
   bnd (seineref23_truth env y32) fun y34 =>
   cnd y34
   (some (.inr (.inr ())))
   (bnd (nthI dirs i_28) fun y36 =>
   cnd (y36.name == ([105, 110, 99, 108, 117, 100, 101] : Str))
    (cnd (!include_27)
    (bnd (nthI dirs i_28) fun y38 =>
    bnd (seineref23_truth env y38) fun y40 =>
    cnd (!y40)
     (some (.inr (.inr ())))
     (some (.inl (true, true, (IntKind.wrap .i64 (i_28 + 1))))))
    (some (.inl (true, include_27, (IntKind.wrap .i64 (i_28 + 1))))))
    (some (.inl (true, include_27, (IntKind.wrap .i64 (i_28 + 1)))))))
   (bnd (nthI dirs i_28) fun y42 =>
   cnd (y42.name == ([105, 110, 99, 108, 117, 100, 101] : Str))
   (cnd (!include_27)
    (bnd (nthI dirs i_28) fun y44 =>
    bnd (seineref23_truth env y44) fun y46 =>
    cnd (!y46)
    (some (.inr (.inr ())))
    (some (.inl (skip_26, true, (IntKind.wrap .i64 (i_28 + 1))))))
    (some (.inl (skip_26, include_27, (IntKind.wrap .i64 (i_28 + 1))))))
   (some (.inl (skip_26, include_27, (IntKind.wrap .i64 (i_28 + 1)))))))
  (bnd (nthI dirs i_28) fun y48 =>
  cnd (y48.name == ([105, 110, 99, 108, 117, 100, 101] : Str))
   (cnd (!include_27)
   (bnd (nthI dirs i_28) fun y50 =>
   bnd (seineref23_truth env y50) fun y52 =>
   cnd (!y52)
    (some (.inr (.inr ())))
    (some (.inl (skip_26, true, (IntKind.wrap .i64 (i_28 + 1))))))
   (some (.inl (skip_26, include_27, (IntKind.wrap .i64 (i_28 + 1))))))
   (some (.inl (skip_26, include_27, (IntKind.wrap .i64 (i_28 + 1)))))))
  (some (.inr (.inl ())))
abbrev seineref23_Holds_l1R (env : List GMember) (dirs : List GDir) (st : Bool × Bool × Int) (l : List PV) (u : UP) : Prop := l = [(.slice (List.map encMember env) [] false), (.slice (List.map encDir dirs) [] false), (.bool false), (.bool st.1), (.bool st.2.1), (.int .i64 st.2.2)] ∧ u = []
abbrev seineref23_Holds_l1X (env : List GMember) (dirs : List GDir) (p : Unit ⊕ Unit) (r : Ex × List PV × UP) : Prop := elim p (fun (p : Unit) => ∃ (skip_53 : Bool), ∃ (include_54 : Bool), ∃ (i_55 : Int), r = (Ex.brk 0, [(.slice (List.map encMember env) [] false), (.slice (List.map encDir dirs) [] false), (.bool false), (.bool skip_53), (.bool include_54), (.int .i64 i_55)], [])) (fun q2 => (fun (p : Unit) => ∃ (skip_58 : Bool), ∃ (include_56 : Bool), ∃ (i_57 : Int), r = (Ex.ret, [(.slice (List.map encMember env) [] false), (.slice (List.map encDir dirs) [] false), (.bool false), (.bool skip_58), (.bool include_56), (.int .i64 i_57)], [])) q2)
noncomputable def seineref23_Holds_B (env : List GMember) (dirs : List GDir) : Option Bool :=
 bnd (tloop (seineref23_Holds_l1T env dirs) (false, false, 0)) fun e59_2 => elim e59_2
 (fun p59 =>
 some true)
 (fun p59 =>
 some false)
def seineref23_Holds_ds : Decs := { decs := [(16, (.ref shDir)), (27, (.ref shDir)), (29, .bool), (32, (.ref shDir)), (43, (.ref shDir)), (45, .bool)], ups := [], loops := [(3, [], ⟨[(.sl false), (.sl false), .bool, .bool, .bool, (.int .i64)], [], [(some 0, [(.sl false), (.sl false), .bool, .bool, .bool, (.int .i64)], []), (none, [(.sl false), (.sl false), .bool, .bool, .bool, (.int .i64)], [])]⟩)] }
set_option maxRecDepth 100000 in
theorem seineref23_Holds_t1 (O : Orc) (LP : LBody → LBody) (env : List GMember) (dirs : List GDir) : evalBodyD Try.prog (MT 16) seineref23_Holds_ds Try.f16.ntmps O LP Try.f16 [(.slice (List.map encMember env) [] false), (.slice (List.map encDir dirs) [] false)] [] = seineref23_Holds_T1 O LP env dirs := by kernel_rfl
theorem seineref23_Holds_l1_ok (env : List GMember) (dirs : List GDir) : ∀ st l u, seineref23_Holds_l1R env dirs st l u → Imp (seineref23_Holds_l1T env dirs st) (seineref23_Holds_l1 O loopLim l u) (StepR (seineref23_Holds_l1R env dirs) (seineref23_Holds_l1X env dirs)) := by
 rintro ⟨skip_26, include_27, i_28⟩ l u ⟨rfl, rfl⟩
 simp only [seineref23_Holds_l1T, seineref23_Holds_l1]
 refine Imp.chk rfl (Imp.chk rfl ?_)
 try simp only [evs, tys]
 refine Imp.cnd ?_ ?_
 ·refine Imp.op (f := fun a => .ref (encDir a)) (fun a h => op_ix (enc := encDir) (by first | rfl | simp only [evs, tys, evl]) ⟨by first | rfl | simp only [evs, tys, evc], by decide⟩ h) (fun a => chk_GDir a) fun y30 hy30 => ?_
  try simp only [evs, tys]
  refine Imp.cnd ?_ ?_
  ·refine Imp.cnd ?_ ?_
   ·refine Imp.op (f := fun a => .ref (encDir a)) (fun a h => op_ix (enc := encDir) (by first | rfl | simp only [evs, tys, evl]) ⟨by first | rfl | simp only [evs, tys, evc], by decide⟩ h) (fun a => chk_GDir a) fun y32 hy32 => ?_
    try simp only [evs, tys]
    refine Imp.call (f := seineref23_truthE) rfl (fun a h => by first | exact seineref23_truth_spec h | simpa only [evs, tys, evl] using seineref23_truth_spec h) (fun a => by first | rfl | simp only [seineref23_truthE, evk, chks]) fun y34 hy34 => ?_
    try simp only [seineref23_truthE, evs, tys]
    refine Imp.cnd ?_ ?_
    ·exact Imp.some (StepR.ret ⟨true, include_27, i_28, by first | rfl | simp only [evs, tys, evl, elim_inl, elim_inr]⟩)
    ·refine Imp.op (f := fun a => .ref (encDir a)) (fun a h => op_ix (enc := encDir) (by first | rfl | simp only [evs, tys, evl]) ⟨by first | rfl | simp only [evs, tys, evc], by decide⟩ h) (fun a => chk_GDir a) fun y36 hy36 => ?_
     try simp only [evs, tys]
     refine Imp.cnd ?_ ?_
     ·refine Imp.cnd ?_ ?_
      ·refine Imp.op (f := fun a => .ref (encDir a)) (fun a h => op_ix (enc := encDir) (by first | rfl | simp only [evs, tys, evl]) ⟨by first | rfl | simp only [evs, tys, evc], by decide⟩ h) (fun a => chk_GDir a) fun y38 hy38 => ?_
       try simp only [evs, tys]
       refine Imp.call (f := seineref23_truthE) rfl (fun a h => by first | exact seineref23_truth_spec h | simpa only [evs, tys, evl] using seineref23_truth_spec h) (fun a => by first | rfl | simp only [seineref23_truthE, evk, chks]) fun y40 hy40 => ?_
       try simp only [seineref23_truthE, evs, tys]
       refine Imp.cnd ?_ ?_
       ·exact Imp.some (StepR.ret ⟨true, true, i_28, by first | rfl | simp only [evs, tys, evl, elim_inl, elim_inr]⟩)
       ·exact Imp.some (StepR.next ⟨by first | rfl | simp only [evs, tys, evl], rfl⟩)
      ·exact Imp.some (StepR.next ⟨by first | rfl | simp only [evs, tys, evl], rfl⟩)
     ·exact Imp.some (StepR.next ⟨by first | rfl | simp only [evs, tys, evl], rfl⟩)
   ·refine Imp.op (f := fun a => .ref (encDir a)) (fun a h => op_ix (enc := encDir) (by first | rfl | simp only [evs, tys, evl]) ⟨by first | rfl | simp only [evs, tys, evc], by decide⟩ h) (fun a => chk_GDir a) fun y42 hy42 => ?_
    try simp only [evs, tys]
    refine Imp.cnd ?_ ?_
    ·refine Imp.cnd ?_ ?_
     ·refine Imp.op (f := fun a => .ref (encDir a)) (fun a h => op_ix (enc := encDir) (by first | rfl | simp only [evs, tys, evl]) ⟨by first | rfl | simp only [evs, tys, evc], by decide⟩ h) (fun a => chk_GDir a) fun y44 hy44 => ?_
      try simp only [evs, tys]
      refine Imp.call (f := seineref23_truthE) rfl (fun a h => by first | exact seineref23_truth_spec h | simpa only [evs, tys, evl] using seineref23_truth_spec h) (fun a => by first | rfl | simp only [seineref23_truthE, evk, chks]) fun y46 hy46 => ?_
      try simp only [seineref23_truthE, evs, tys]
      refine Imp.cnd ?_ ?_
      ·exact Imp.some (StepR.ret ⟨skip_26, true, i_28, by first | rfl | simp only [evs, tys, evl, elim_inl, elim_inr]⟩)
      ·exact Imp.some (StepR.next ⟨by first | rfl | simp only [evs, tys, evl], rfl⟩)
     ·exact Imp.some (StepR.next ⟨by first | rfl | simp only [evs, tys, evl], rfl⟩)
    ·exact Imp.some (StepR.next ⟨by first | rfl | simp only [evs, tys, evl], rfl⟩)
  ·refine Imp.op (f := fun a => .ref (encDir a)) (fun a h => op_ix (enc := encDir) (by first | rfl | simp only [evs, tys, evl]) ⟨by first | rfl | simp only [evs, tys, evc], by decide⟩ h) (fun a => chk_GDir a) fun y48 hy48 => ?_
   try simp only [evs, tys]
   refine Imp.cnd ?_ ?_
   ·refine Imp.cnd ?_ ?_
    ·refine Imp.op (f := fun a => .ref (encDir a)) (fun a h => op_ix (enc := encDir) (by first | rfl | simp only [evs, tys, evl]) ⟨by first | rfl | simp only [evs, tys, evc], by decide⟩ h) (fun a => chk_GDir a) fun y50 hy50 => ?_
     try simp only [evs, tys]
     refine Imp.call (f := seineref23_truthE) rfl (fun a h => by first | exact seineref23_truth_spec h | simpa only [evs, tys, evl] using seineref23_truth_spec h) (fun a => by first | rfl | simp only [seineref23_truthE, evk, chks]) fun y52 hy52 => ?_
     try simp only [seineref23_truthE, evs, tys]
     refine Imp.cnd ?_ ?_
     ·exact Imp.some (StepR.ret ⟨skip_26, true, i_28, by first | rfl | simp only [evs, tys, evl, elim_inl, elim_inr]⟩)
     ·exact Imp.some (StepR.next ⟨by first | rfl | simp only [evs, tys, evl], rfl⟩)
    ·exact Imp.some (StepR.next ⟨by first | rfl | simp only [evs, tys, evl], rfl⟩)
   ·exact Imp.some (StepR.next ⟨by first | rfl | simp only [evs, tys, evl], rfl⟩)
 ·exact Imp.some (StepR.brk ⟨skip_26, include_27, i_28, by first | rfl | simp only [evs, tys, evl, elim_inl, elim_inr]⟩)
theorem seineref23_Holds_imp (env : List GMember) (dirs : List GDir) : Imp (seineref23_Holds_B env dirs) (seineref23_Holds_T1 O loopLim env dirs) (fun r v => v = (seineref23_HoldsE r, [])) := by
 simp only [seineref23_Holds_B, seineref23_Holds_T1]
 try simp only [evs, tys]
 refine Imp.bnd (Imp.loop (seineref23_Holds_l1_ok env dirs) ⟨by first | rfl | simp only [evs, tys, evl], rfl⟩) ?_
 rintro (p | p) vy59 hy59
 ·try simp only [elim_inl, elim_inr]
  obtain ⟨skip_53, include_54, i_55, rfl⟩ := hy59
  refine Imp.exHit rfl (Imp.chk rfl (Imp.chk rfl ?_))
  try simp only [evs, tys]
  exact Imp.some (by first | rfl | simp only [seineref23_HoldsE, evs, tys, evl])
 ·try simp only [elim_inl, elim_inr]
  obtain ⟨skip_58, include_56, i_57, rfl⟩ := hy59
  refine Imp.exMiss rfl ?_
  refine Imp.exHit rfl (Imp.chk rfl (Imp.chk rfl ?_))
  try simp only [evs, tys]
  exact Imp.some (by first | rfl | simp only [seineref23_HoldsE, evs, tys, evl])
theorem seineref23_Holds_run {env : List GMember} {dirs : List GDir} {r : Bool} (h : seineref23_Holds_B env dirs = some r) : seineref23_Holds env dirs = some r := by
 obtain ⟨v, hv, rfl⟩ := seineref23_Holds_imp env dirs r h
 exact tO_of (pair_inj seineref23_HoldsEj) (OL_runD seineref23_Holds_ds rfl rfl Try.func16 ((seineref23_Holds_t1 _ _ env dirs).trans hv))
def seinelaw25_sameGroups_l1 (O : Orc) (LP : LBody → LBody) : LBody := fun s1 s1u => cnd (chkL [(.sl false), (.sl false), .bool, (.int .i64)] s1) (cnd (chkU [] s1u)
 (cnd (decide ((intV (gt s1 3)) < (List.length (esV (gt s1 0)) : Int)))
 (bnd (ix 2 (.slice (esV (gt s1 0)) [] false) (.int .i64 (intV (gt s1 3)))) fun x13 => cnd (chk (.ref shGroup) x13)
 (bnd (ix 2 (.slice (esV (gt s1 1)) [] false) (.int .i64 (intV (gt s1 3)))) fun x15 => cnd (chk (.ref shGroup) x15)
 (cnd (!((strV (gt (aggV (refV x13)) 0)) == (strV (gt (aggV (refV x15)) 0))))
 (some (.ret, [(.slice (esV (gt s1 0)) [] false), (.slice (esV (gt s1 1)) [] false), (.bool false), (.int .i64 (intV (gt s1 3)))], []))
 (bnd (ix 2 (.slice (esV (gt s1 0)) [] false) (.int .i64 (intV (gt s1 3)))) fun x17 => cnd (chk (.ref shGroup) x17)
 (bnd (ix 2 (.slice (esV (gt s1 1)) [] false) (.int .i64 (intV (gt s1 3)))) fun x19 => cnd (chk (.ref shGroup) x19)
 (callp O 20 [(.slice (esV (gt (aggV (refV x17)) 1)) [] false), (.slice (esV (gt (aggV (refV x19)) 1)) [] false)] fun x21 => cnd (chk .bool x21)
 (cnd (!(boolV x21))
 (some (.ret, [(.slice (esV (gt s1 0)) [] false), (.slice (esV (gt s1 1)) [] false), (.bool false), (.int .i64 (intV (gt s1 3)))], []))
 (some (.nrm, [(.slice (esV (gt s1 0)) [] false), (.slice (esV (gt s1 1)) [] false), (.bool (boolV (gt s1 2))), (.int .i64 (IntKind.wrap .i64 ((intV (gt s1 3)) + 1)))], []))) none) none) none)) none) none)
 (some (.brk 0, [(.slice (esV (gt s1 0)) [] false), (.slice (esV (gt s1 1)) [] false), (.bool (boolV (gt s1 2))), (.int .i64 (intV (gt s1 3)))], []))) none) none
def seinelaw25_sameGroups_T1 (O : Orc) (LP : LBody → LBody) (a : List GGroup) (b : List GGroup) : Option (PV × UP) :=
 cnd ((List.length (List.map encGroup a) : Int) != (List.length (List.map encGroup b) : Int))
 (some ((.bool false), []))
 (bnd (LP (seinelaw25_sameGroups_l1 O LP) [(.slice (List.map encGroup a) [] false), (.slice (List.map encGroup b) [] false), (.bool false), (.int .i64 0)] []) fun y25 =>
 exIs y25.1 (some 0) (cnd (chkL [(.sl false), (.sl false), .bool, (.int .i64)] y25.2.1) (cnd (chkU [] y25.2.2)
 (some ((.bool true), [])) none) none)
 (exIs y25.1 none (cnd (chkL [(.sl false), (.sl false), .bool, (.int .i64)] y25.2.1) (cnd (chkU [] y25.2.2)
 (some ((.bool (boolV (gt y25.2.1 2))), [])) none) none)
 (none)))
noncomputable def seinelaw25_sameGroups_l1T (a : List GGroup) (b : List GGroup) : Int → Option (Int ⊕ (Unit ⊕ Unit))
 | i_12 =>
 cnd (decide (i_12 < (List.length a : Int)))
  (bnd (nthI a i_12) fun y14 =>
  bnd (nthI b i_12) fun y16 =>
  cnd (!(y14.key == y16.key))
  (some (.inr (.inr ())))
  (bnd (nthI a i_12) fun y18 =>
  bnd (nthI b i_12) fun y20 =>
  bnd (seineref6_SameSels y18.sels y20.sels) fun y22 =>
  cnd (!y22)
   (some (.inr (.inr ())))
   (some (.inl (IntKind.wrap .i64 (i_12 + 1))))))
  (some (.inr (.inl ())))
abbrev seinelaw25_sameGroups_l1R (a : List GGroup) (b : List GGroup) (st : Int) (l : List PV) (u : UP) : Prop := l = [(.slice (List.map encGroup a) [] false), (.slice (List.map encGroup b) [] false), (.bool false), (.int .i64 st)] ∧ u = []
abbrev seinelaw25_sameGroups_l1X (a : List GGroup) (b : List GGroup) (p : Unit ⊕ Unit) (r : Ex × List PV × UP) : Prop := elim p (fun (p : Unit) => ∃ (i_23 : Int), r = (Ex.brk 0, [(.slice (List.map encGroup a) [] false), (.slice (List.map encGroup b) [] false), (.bool false), (.int .i64 i_23)], [])) (fun q2 => (fun (p : Unit) => ∃ (i_24 : Int), r = (Ex.ret, [(.slice (List.map encGroup a) [] false), (.slice (List.map encGroup b) [] false), (.bool false), (.int .i64 i_24)], [])) q2)
noncomputable def seinelaw25_sameGroups_B (a : List GGroup) (b : List GGroup) : Option Bool :=
 cnd ((List.length a : Int) != (List.length b : Int))
 (some false)
 (bnd (tloop (seinelaw25_sameGroups_l1T a b) 0) fun e25_2 => elim e25_2
 (fun p25 =>
 some true)
 (fun p25 =>
 some false))
def seinelaw25_sameGroups_ds : Decs := { decs := [(19, (.ref shGroup)), (24, (.ref shGroup)), (31, (.ref shGroup)), (36, (.ref shGroup)), (39, .bool)], ups := [], loops := [(4, [], ⟨[(.sl false), (.sl false), .bool, (.int .i64)], [], [(some 0, [(.sl false), (.sl false), .bool, (.int .i64)], []), (none, [(.sl false), (.sl false), .bool, (.int .i64)], [])]⟩)] }
set_option maxRecDepth 100000 in
theorem seinelaw25_sameGroups_t1 (O : Orc) (LP : LBody → LBody) (a : List GGroup) (b : List GGroup) : evalBodyD Try.prog (MT 17) seinelaw25_sameGroups_ds Try.f17.ntmps O LP Try.f17 [(.slice (List.map encGroup a) [] false), (.slice (List.map encGroup b) [] false)] [] = seinelaw25_sameGroups_T1 O LP a b := by kernel_rfl
theorem seinelaw25_sameGroups_l1_ok (a : List GGroup) (b : List GGroup) : ∀ st l u, seinelaw25_sameGroups_l1R a b st l u → Imp (seinelaw25_sameGroups_l1T a b st) (seinelaw25_sameGroups_l1 O loopLim l u) (StepR (seinelaw25_sameGroups_l1R a b) (seinelaw25_sameGroups_l1X a b)) := by
 rintro i_12 l u ⟨rfl, rfl⟩
 simp only [seinelaw25_sameGroups_l1T, seinelaw25_sameGroups_l1]
 refine Imp.chk rfl (Imp.chk rfl ?_)
 try simp only [evs, tys]
 refine Imp.cnd ?_ ?_
 ·refine Imp.op (f := fun a => .ref (encGroup a)) (fun a h => op_ix (enc := encGroup) (by first | rfl | simp only [evs, tys, evl]) ⟨by first | rfl | simp only [evs, tys, evc], by decide⟩ h) (fun a => chk_GGroup a) fun y14 hy14 => ?_
  try simp only [evs, tys]
  refine Imp.op (f := fun a => .ref (encGroup a)) (fun a h => op_ix (enc := encGroup) (by first | rfl | simp only [evs, tys, evl]) ⟨by first | rfl | simp only [evs, tys, evc], by decide⟩ h) (fun a => chk_GGroup a) fun y16 hy16 => ?_
  try simp only [evs, tys]
  refine Imp.cnd ?_ ?_
  ·exact Imp.some (StepR.ret ⟨i_12, by first | rfl | simp only [evs, tys, evl, elim_inl, elim_inr]⟩)
  ·refine Imp.op (f := fun a => .ref (encGroup a)) (fun a h => op_ix (enc := encGroup) (by first | rfl | simp only [evs, tys, evl]) ⟨by first | rfl | simp only [evs, tys, evc], by decide⟩ h) (fun a => chk_GGroup a) fun y18 hy18 => ?_
   try simp only [evs, tys]
   refine Imp.op (f := fun a => .ref (encGroup a)) (fun a h => op_ix (enc := encGroup) (by first | rfl | simp only [evs, tys, evl]) ⟨by first | rfl | simp only [evs, tys, evc], by decide⟩ h) (fun a => chk_GGroup a) fun y20 hy20 => ?_
   try simp only [evs, tys]
   refine Imp.call (f := seineref6_SameSelsE) rfl (fun a h => by first | exact seineref6_SameSels_spec h | simpa only [evs, tys, evl] using seineref6_SameSels_spec h) (fun a => by first | rfl | simp only [seineref6_SameSelsE, evk, chks]) fun y22 hy22 => ?_
   try simp only [seineref6_SameSelsE, evs, tys]
   refine Imp.cnd ?_ ?_
   ·exact Imp.some (StepR.ret ⟨i_12, by first | rfl | simp only [evs, tys, evl, elim_inl, elim_inr]⟩)
   ·exact Imp.some (StepR.next ⟨by first | rfl | simp only [evs, tys, evl], rfl⟩)
 ·exact Imp.some (StepR.brk ⟨i_12, by first | rfl | simp only [evs, tys, evl, elim_inl, elim_inr]⟩)
theorem seinelaw25_sameGroups_imp (a : List GGroup) (b : List GGroup) : Imp (seinelaw25_sameGroups_B a b) (seinelaw25_sameGroups_T1 O loopLim a b) (fun r v => v = (seinelaw25_sameGroupsE r, [])) := by
 simp only [seinelaw25_sameGroups_B, seinelaw25_sameGroups_T1]
 try simp only [evs, tys]
 refine Imp.cnd ?_ ?_
 ·exact Imp.some (by first | rfl | simp only [seinelaw25_sameGroupsE, evs, tys, evl])
 ·refine Imp.bnd (Imp.loop (seinelaw25_sameGroups_l1_ok a b) ⟨by first | rfl | simp only [evs, tys, evl], rfl⟩) ?_
  rintro (p | p) vy25 hy25
  ·try simp only [elim_inl, elim_inr]
   obtain ⟨i_23, rfl⟩ := hy25
   refine Imp.exHit rfl (Imp.chk rfl (Imp.chk rfl ?_))
   try simp only [evs, tys]
   exact Imp.some (by first | rfl | simp only [seinelaw25_sameGroupsE, evs, tys, evl])
  ·try simp only [elim_inl, elim_inr]
   obtain ⟨i_24, rfl⟩ := hy25
   refine Imp.exMiss rfl ?_
   refine Imp.exHit rfl (Imp.chk rfl (Imp.chk rfl ?_))
   try simp only [evs, tys]
   exact Imp.some (by first | rfl | simp only [seinelaw25_sameGroupsE, evs, tys, evl])
theorem seinelaw25_sameGroups_run {a : List GGroup} {b : List GGroup} {r : Bool} (h : seinelaw25_sameGroups_B a b = some r) : seinelaw25_sameGroups a b = some r := by
 obtain ⟨v, hv, rfl⟩ := seinelaw25_sameGroups_imp a b r h
 exact tO_of (pair_inj seinelaw25_sameGroupsEj) (OL_runD seinelaw25_sameGroups_ds rfl rfl Try.func17 ((seinelaw25_sameGroups_t1 _ _ a b).trans hv))
def seineref6_SameSels_l1 (O : Orc) (LP : LBody → LBody) : LBody := fun s1 s1u => cnd (chkL [(.sl false), (.sl false), .bool, (.int .i64)] s1) (cnd (chkU [] s1u)
 (cnd (decide ((intV (gt s1 3)) < (List.length (esV (gt s1 0)) : Int)))
 (bnd (ix 7 (.slice (esV (gt s1 0)) [] false) (.int .i64 (intV (gt s1 3)))) fun x13 => cnd (chk (.ref shSel) x13)
 (bnd (ix 7 (.slice (esV (gt s1 1)) [] false) (.int .i64 (intV (gt s1 3)))) fun x15 => cnd (chk (.ref shSel) x15)
 (cnd ((intV (gt (aggV (refV x13)) 0)) != (intV (gt (aggV (refV x15)) 0)))
 (some (.ret, [(.slice (esV (gt s1 0)) [] false), (.slice (esV (gt s1 1)) [] false), (.bool false), (.int .i64 (intV (gt s1 3)))], []))
 (cnd (!((strV (gt (aggV (refV x13)) 1)) == (strV (gt (aggV (refV x15)) 1))))
 (some (.ret, [(.slice (esV (gt s1 0)) [] false), (.slice (esV (gt s1 1)) [] false), (.bool false), (.int .i64 (intV (gt s1 3)))], []))
 (cnd (!((strV (gt (aggV (refV x13)) 2)) == (strV (gt (aggV (refV x15)) 2))))
 (some (.ret, [(.slice (esV (gt s1 0)) [] false), (.slice (esV (gt s1 1)) [] false), (.bool false), (.int .i64 (intV (gt s1 3)))], []))
 (cnd (!((strV (gt (aggV (refV x13)) 5)) == (strV (gt (aggV (refV x15)) 5))))
 (some (.ret, [(.slice (esV (gt s1 0)) [] false), (.slice (esV (gt s1 1)) [] false), (.bool false), (.int .i64 (intV (gt s1 3)))], []))
 (callp O 42 [(.slice (esV (gt (aggV (refV x13)) 3)) [] false), (.slice (esV (gt (aggV (refV x15)) 3)) [] false)] fun x17 => cnd (chk .bool x17)
 (cnd (!(boolV x17))
 (some (.ret, [(.slice (esV (gt s1 0)) [] false), (.slice (esV (gt s1 1)) [] false), (.bool false), (.int .i64 (intV (gt s1 3)))], []))
 (callp O 43 [(.slice (esV (gt (aggV (refV x13)) 4)) [] false), (.slice (esV (gt (aggV (refV x15)) 4)) [] false)] fun x19 => cnd (chk .bool x19)
 (cnd (!(boolV x19))
 (some (.ret, [(.slice (esV (gt s1 0)) [] false), (.slice (esV (gt s1 1)) [] false), (.bool false), (.int .i64 (intV (gt s1 3)))], []))
 (callp O 20 [(.slice (esV (gt (aggV (refV x13)) 6)) [] false), (.slice (esV (gt (aggV (refV x15)) 6)) [] false)] fun x21 => cnd (chk .bool x21)
 (cnd (!(boolV x21))
 (some (.ret, [(.slice (esV (gt s1 0)) [] false), (.slice (esV (gt s1 1)) [] false), (.bool false), (.int .i64 (intV (gt s1 3)))], []))
 (some (.nrm, [(.slice (esV (gt s1 0)) [] false), (.slice (esV (gt s1 1)) [] false), (.bool (boolV (gt s1 2))), (.int .i64 (IntKind.wrap .i64 ((intV (gt s1 3)) + 1)))], []))) none)) none)) none))))) none) none)
 (some (.brk 0, [(.slice (esV (gt s1 0)) [] false), (.slice (esV (gt s1 1)) [] false), (.bool (boolV (gt s1 2))), (.int .i64 (intV (gt s1 3)))], []))) none) none
def seineref6_SameSels_T1 (O : Orc) (LP : LBody → LBody) (a : List GSel) (b : List GSel) : Option (PV × UP) :=
 cnd ((List.length (List.map encSel a) : Int) != (List.length (List.map encSel b) : Int))
 (some ((.bool false), []))
 (bnd (LP (seineref6_SameSels_l1 O LP) [(.slice (List.map encSel a) [] false), (.slice (List.map encSel b) [] false), (.bool false), (.int .i64 0)] []) fun y25 =>
 exIs y25.1 (some 0) (cnd (chkL [(.sl false), (.sl false), .bool, (.int .i64)] y25.2.1) (cnd (chkU [] y25.2.2)
 (some ((.bool true), [])) none) none)
 (exIs y25.1 none (cnd (chkL [(.sl false), (.sl false), .bool, (.int .i64)] y25.2.1) (cnd (chkU [] y25.2.2)
 (some ((.bool (boolV (gt y25.2.1 2))), [])) none) none)
 (none)))
noncomputable def seineref6_SameSels_l1T (a : List GSel) (b : List GSel) : Int → Option (Int ⊕ (Unit ⊕ Unit))
 | i_12 =>
 cnd (decide (i_12 < (List.length a : Int)))
  (bnd (nthI a i_12) fun y14 =>
  bnd (nthI b i_12) fun y16 =>
  cnd (y14.kind != y16.kind)
  (some (.inr (.inr ())))
  (cnd (!(y14.alias == y16.alias))
   (some (.inr (.inr ())))
   (cnd (!(y14.name == y16.name))
   (some (.inr (.inr ())))
   (cnd (!(y14.on_ == y16.on_))
    (some (.inr (.inr ())))
    (bnd (seineref1_Members y14.args y16.args) fun y18 =>
    cnd (!y18)
    (some (.inr (.inr ())))
    (bnd (seineref6_SameDirs y14.dirs y16.dirs) fun y20 =>
    cnd (!y20)
     (some (.inr (.inr ())))
     (bnd (seineref6_SameSels y14.sels y16.sels) fun y22 =>
     cnd (!y22)
     (some (.inr (.inr ())))
     (some (.inl (IntKind.wrap .i64 (i_12 + 1)))))))))))
  (some (.inr (.inl ())))
abbrev seineref6_SameSels_l1R (a : List GSel) (b : List GSel) (st : Int) (l : List PV) (u : UP) : Prop := l = [(.slice (List.map encSel a) [] false), (.slice (List.map encSel b) [] false), (.bool false), (.int .i64 st)] ∧ u = []
abbrev seineref6_SameSels_l1X (a : List GSel) (b : List GSel) (p : Unit ⊕ Unit) (r : Ex × List PV × UP) : Prop := elim p (fun (p : Unit) => ∃ (i_23 : Int), r = (Ex.brk 0, [(.slice (List.map encSel a) [] false), (.slice (List.map encSel b) [] false), (.bool false), (.int .i64 i_23)], [])) (fun q2 => (fun (p : Unit) => ∃ (i_24 : Int), r = (Ex.ret, [(.slice (List.map encSel a) [] false), (.slice (List.map encSel b) [] false), (.bool false), (.int .i64 i_24)], [])) q2)
noncomputable def seineref6_SameSels_B (a : List GSel) (b : List GSel) : Option Bool :=
 cnd ((List.length a : Int) != (List.length b : Int))
 (some false)
 (bnd (tloop (seineref6_SameSels_l1T a b) 0) fun e25_2 => elim e25_2
 (fun p25 =>
 some true)
 (fun p25 =>
 some false))
def seineref6_SameSels_ds : Decs := { decs := [(21, (.ref shSel)), (25, (.ref shSel)), (58, .bool), (66, .bool), (74, .bool)], ups := [], loops := [(4, [], ⟨[(.sl false), (.sl false), .bool, (.int .i64)], [], [(some 0, [(.sl false), (.sl false), .bool, (.int .i64)], []), (none, [(.sl false), (.sl false), .bool, (.int .i64)], [])]⟩)] }
set_option maxRecDepth 100000 in
theorem seineref6_SameSels_t1 (O : Orc) (LP : LBody → LBody) (a : List GSel) (b : List GSel) : evalBodyD Try.prog (MT 20) seineref6_SameSels_ds Try.f20.ntmps O LP Try.f20 [(.slice (List.map encSel a) [] false), (.slice (List.map encSel b) [] false)] [] = seineref6_SameSels_T1 O LP a b := by kernel_rfl
theorem seineref6_SameSels_l1_ok (a : List GSel) (b : List GSel) : ∀ st l u, seineref6_SameSels_l1R a b st l u → Imp (seineref6_SameSels_l1T a b st) (seineref6_SameSels_l1 O loopLim l u) (StepR (seineref6_SameSels_l1R a b) (seineref6_SameSels_l1X a b)) := by
 rintro i_12 l u ⟨rfl, rfl⟩
 simp only [seineref6_SameSels_l1T, seineref6_SameSels_l1]
 refine Imp.chk rfl (Imp.chk rfl ?_)
 try simp only [evs, tys]
 refine Imp.cnd ?_ ?_
 ·refine Imp.op (f := fun a => .ref (encSel a)) (fun a h => op_ix (enc := encSel) (by first | rfl | simp only [evs, tys, evl]) ⟨by first | rfl | simp only [evs, tys, evc], by decide⟩ h) (fun a => chk_GSel a) fun y14 hy14 => ?_
  try simp only [evs, tys]
  refine Imp.op (f := fun a => .ref (encSel a)) (fun a h => op_ix (enc := encSel) (by first | rfl | simp only [evs, tys, evl]) ⟨by first | rfl | simp only [evs, tys, evc], by decide⟩ h) (fun a => chk_GSel a) fun y16 hy16 => ?_
  try simp only [evs, tys]
  refine Imp.cnd ?_ ?_
  ·exact Imp.some (StepR.ret ⟨i_12, by first | rfl | simp only [evs, tys, evl, elim_inl, elim_inr]⟩)
  ·refine Imp.cnd ?_ ?_
   ·exact Imp.some (StepR.ret ⟨i_12, by first | rfl | simp only [evs, tys, evl, elim_inl, elim_inr]⟩)
   ·refine Imp.cnd ?_ ?_
    ·exact Imp.some (StepR.ret ⟨i_12, by first | rfl | simp only [evs, tys, evl, elim_inl, elim_inr]⟩)
    ·refine Imp.cnd ?_ ?_
     ·exact Imp.some (StepR.ret ⟨i_12, by first | rfl | simp only [evs, tys, evl, elim_inl, elim_inr]⟩)
     ·refine Imp.call (f := seineref1_MembersE) rfl (fun a h => by first | exact seineref1_Members_spec h | simpa only [evs, tys, evl] using seineref1_Members_spec h) (fun a => by first | rfl | simp only [seineref1_MembersE, evk, chks]) fun y18 hy18 => ?_
      try simp only [seineref1_MembersE, evs, tys]
      refine Imp.cnd ?_ ?_
      ·exact Imp.some (StepR.ret ⟨i_12, by first | rfl | simp only [evs, tys, evl, elim_inl, elim_inr]⟩)
      ·refine Imp.call (f := seineref6_SameDirsE) rfl (fun a h => by first | exact seineref6_SameDirs_spec h | simpa only [evs, tys, evl] using seineref6_SameDirs_spec h) (fun a => by first | rfl | simp only [seineref6_SameDirsE, evk, chks]) fun y20 hy20 => ?_
       try simp only [seineref6_SameDirsE, evs, tys]
       refine Imp.cnd ?_ ?_
       ·exact Imp.some (StepR.ret ⟨i_12, by first | rfl | simp only [evs, tys, evl, elim_inl, elim_inr]⟩)
       ·refine Imp.call (f := seineref6_SameSelsE) rfl (fun a h => by first | exact seineref6_SameSels_spec h | simpa only [evs, tys, evl] using seineref6_SameSels_spec h) (fun a => by first | rfl | simp only [seineref6_SameSelsE, evk, chks]) fun y22 hy22 => ?_
        try simp only [seineref6_SameSelsE, evs, tys]
        refine Imp.cnd ?_ ?_
        ·exact Imp.some (StepR.ret ⟨i_12, by first | rfl | simp only [evs, tys, evl, elim_inl, elim_inr]⟩)
        ·exact Imp.some (StepR.next ⟨by first | rfl | simp only [evs, tys, evl], rfl⟩)
 ·exact Imp.some (StepR.brk ⟨i_12, by first | rfl | simp only [evs, tys, evl, elim_inl, elim_inr]⟩)
theorem seineref6_SameSels_imp (a : List GSel) (b : List GSel) : Imp (seineref6_SameSels_B a b) (seineref6_SameSels_T1 O loopLim a b) (fun r v => v = (seineref6_SameSelsE r, [])) := by
 simp only [seineref6_SameSels_B, seineref6_SameSels_T1]
 try simp only [evs, tys]
 refine Imp.cnd ?_ ?_
 ·exact Imp.some (by first | rfl | simp only [seineref6_SameSelsE, evs, tys, evl])
 ·refine Imp.bnd (Imp.loop (seineref6_SameSels_l1_ok a b) ⟨by first | rfl | simp only [evs, tys, evl], rfl⟩) ?_
  rintro (p | p) vy25 hy25
  ·try simp only [elim_inl, elim_inr]
   obtain ⟨i_23, rfl⟩ := hy25
   refine Imp.exHit rfl (Imp.chk rfl (Imp.chk rfl ?_))
   try simp only [evs, tys]
   exact Imp.some (by first | rfl | simp only [seineref6_SameSelsE, evs, tys, evl])
  ·try simp only [elim_inl, elim_inr]
   obtain ⟨i_24, rfl⟩ := hy25
   refine Imp.exMiss rfl ?_
   refine Imp.exHit rfl (Imp.chk rfl (Imp.chk rfl ?_))
   try simp only [evs, tys]
   exact Imp.some (by first | rfl | simp only [seineref6_SameSelsE, evs, tys, evl])
theorem seineref6_SameSels_run {a : List GSel} {b : List GSel} {r : Bool} (h : seineref6_SameSels_B a b = some r) : seineref6_SameSels a b = some r := by
 obtain ⟨v, hv, rfl⟩ := seineref6_SameSels_imp a b r h
 exact tO_of (pair_inj seineref6_SameSelsEj) (OL_runD seineref6_SameSels_ds rfl rfl Try.func20 ((seineref6_SameSels_t1 _ _ a b).trans hv))
def defs_Possible_l1 (O : Orc) (LP : LBody → LBody) : LBody := fun s3 s3u => cnd (chkL [.str, (.sl true), (.sl false), (.int .i64), (.int .i64), (.int .i64), .str, (.sl false), (.sl false), (.sl false), (.sl false), (.sl false), .str, .str] s3) (cnd (chkU [] s3u)
 (cnd (decide ((intV (gt s3 4)) < (intV (gt s3 3))))
 (bnd (ix 6 (.slice (esV (gt s3 2)) [] false) (.int .i64 (intV (gt s3 4)))) fun x12 => cnd (chk (.ref shDef) x12)
 (cnd ((intV (gt (aggV (refV x12)) 0)) == 1)
 (callp O 44 [(.slice (esV (gt (aggV (refV x12)) 2)) [] false), (.str (strV (gt s3 0)))] fun x14 => cnd (chk .bool x14)
 (cnd (boolV x14)
 (callp O 75 [(.slice (esV (gt s3 1)) [] true), (.str (strV (gt (aggV (refV x12)) 1)))] fun x16 => cnd (chk (.sl true) x16)
 (some (.nrm, [(.str (strV (gt s3 0))), (.slice (esV x16) [] true), (.slice (esV (gt s3 2)) [] false), (.int .i64 (intV (gt s3 3))), (.int .i64 (IntKind.wrap .i64 ((intV (gt s3 4)) + 1))), (.int .i64 (intV (gt s3 5))), (.str (strV (gt s3 6))), (.slice (esV (gt s3 7)) [] false), (.slice (esV (gt s3 8)) [] false), (.slice (esV (gt s3 9)) [] false), (.slice (esV (gt s3 10)) [] false), (.slice (esV (gt s3 11)) [] false), (.str (strV (gt s3 12))), (.str (strV (gt s3 13)))], [])) none)
 (some (.nrm, [(.str (strV (gt s3 0))), (.slice (esV (gt s3 1)) [] true), (.slice (esV (gt s3 2)) [] false), (.int .i64 (intV (gt s3 3))), (.int .i64 (IntKind.wrap .i64 ((intV (gt s3 4)) + 1))), (.int .i64 (intV (gt s3 5))), (.str (strV (gt s3 6))), (.slice (esV (gt s3 7)) [] false), (.slice (esV (gt s3 8)) [] false), (.slice (esV (gt s3 9)) [] false), (.slice (esV (gt s3 10)) [] false), (.slice (esV (gt s3 11)) [] false), (.str (strV (gt s3 12))), (.str (strV (gt s3 13)))], []))) none)
 (some (.nrm, [(.str (strV (gt s3 0))), (.slice (esV (gt s3 1)) [] true), (.slice (esV (gt s3 2)) [] false), (.int .i64 (intV (gt s3 3))), (.int .i64 (IntKind.wrap .i64 ((intV (gt s3 4)) + 1))), (.int .i64 (intV (gt s3 5))), (.str (strV (gt s3 6))), (.slice (esV (gt s3 7)) [] false), (.slice (esV (gt s3 8)) [] false), (.slice (esV (gt s3 9)) [] false), (.slice (esV (gt s3 10)) [] false), (.slice (esV (gt s3 11)) [] false), (.str (strV (gt s3 12))), (.str (strV (gt s3 13)))], []))) none)
 (some (.brk 1, [(.str (strV (gt s3 0))), (.slice (esV (gt s3 1)) [] true), (.slice (esV (gt s3 2)) [] false), (.int .i64 (intV (gt s3 3))), (.int .i64 (intV (gt s3 4))), (.int .i64 (intV (gt s3 5))), (.str (strV (gt s3 6))), (.slice (esV (gt s3 7)) [] false), (.slice (esV (gt s3 8)) [] false), (.slice (esV (gt s3 9)) [] false), (.slice (esV (gt s3 10)) [] false), (.slice (esV (gt s3 11)) [] false), (.str (strV (gt s3 12))), (.str (strV (gt s3 13)))], []))) none) none
def defs_Possible_l2 (O : Orc) (LP : LBody → LBody) : LBody := fun s21 s21u => cnd (chkL [(.ptr 0 2 0), (.sl true), (.sl false), (.int .i64), (.int .i64), (.int .i64), .str, (.sl false), (.sl false), (.sl false), (.sl false), (.sl false), .str, .str] s21) (cnd (chkU [] s21u)
 (cnd (decide ((intV (gt s21 4)) < (intV (gt s21 3))))
 (bnd (ix 1 (.slice (esV (gt s21 2)) [] false) (.int .i64 (intV (gt s21 4)))) fun x30 => cnd (chk (.ref .str) x30)
 (callp O 76 [(.agg [(.slice (esV (gt s21 11)) [] false), (.str (strV (gt s21 12))), (.str (strV (gt s21 13)))]), (.str (strV (refV x30))), (.slice [(.int .i64 1)] [] false)] fun x32 => cnd (chk .bool x32)
 (cnd (boolV x32)
 (callp O 75 [(.slice (esV (gt s21 1)) [] true), (.str (strV (refV x30)))] fun x34 => cnd (chk (.sl true) x34)
 (some (.nrm, [(.ptr 0 2 0), (.slice (esV x34) [] true), (.slice (esV (gt s21 2)) [] false), (.int .i64 (intV (gt s21 3))), (.int .i64 (IntKind.wrap .i64 ((intV (gt s21 4)) + 1))), (.int .i64 (intV (gt s21 5))), (.str (strV (gt s21 6))), (.slice (esV (gt s21 7)) [] false), (.slice (esV (gt s21 8)) [] false), (.slice (esV (gt s21 9)) [] false), (.slice (esV (gt s21 10)) [] false), (.slice (esV (gt s21 11)) [] false), (.str (strV (gt s21 12))), (.str (strV (gt s21 13)))], [])) none)
 (some (.nrm, [(.ptr 0 2 0), (.slice (esV (gt s21 1)) [] true), (.slice (esV (gt s21 2)) [] false), (.int .i64 (intV (gt s21 3))), (.int .i64 (IntKind.wrap .i64 ((intV (gt s21 4)) + 1))), (.int .i64 (intV (gt s21 5))), (.str (strV (gt s21 6))), (.slice (esV (gt s21 7)) [] false), (.slice (esV (gt s21 8)) [] false), (.slice (esV (gt s21 9)) [] false), (.slice (esV (gt s21 10)) [] false), (.slice (esV (gt s21 11)) [] false), (.str (strV (gt s21 12))), (.str (strV (gt s21 13)))], []))) none) none)
 (some (.brk 3, [(.ptr 0 2 0), (.slice (esV (gt s21 1)) [] true), (.slice (esV (gt s21 2)) [] false), (.int .i64 (intV (gt s21 3))), (.int .i64 (intV (gt s21 4))), (.int .i64 (intV (gt s21 5))), (.str (strV (gt s21 6))), (.slice (esV (gt s21 7)) [] false), (.slice (esV (gt s21 8)) [] false), (.slice (esV (gt s21 9)) [] false), (.slice (esV (gt s21 10)) [] false), (.slice (esV (gt s21 11)) [] false), (.str (strV (gt s21 12))), (.str (strV (gt s21 13)))], []))) none) none
def defs_Possible_T1 (O : Orc) (LP : LBody → LBody) (s : GSchema) (name : Str) : Option (PV × UP) :=
 callp O 74 [(.agg [(.slice (List.map encDef s.defs) [] false), (.str s.query), (.str s.mutation)]), (.str name)] fun x1 => cnd (chk (.tup [shDef, .bool]) x1)
 (cnd (!(boolV (gt (tupV x1) 1)))
 (some ((.slice [] [] false), []))
 (cnd ((intV (gt (aggV (gt (tupV x1) 0)) 0)) == 1)
 (some ((.slice [(.str name)] [] false), []))
 (cnd ((intV (gt (aggV (gt (tupV x1) 0)) 0)) == 2)
 (bnd (LP (defs_Possible_l1 O LP) [(.str name), (.slice [] [] true), (.slice (List.map encDef s.defs) [] false), (.int .i64 (List.length (List.map encDef s.defs) : Int)), (.int .i64 0), (.int .i64 (intV (gt (aggV (gt (tupV x1) 0)) 0))), (.str (strV (gt (aggV (gt (tupV x1) 0)) 1))), (.slice (esV (gt (aggV (gt (tupV x1) 0)) 2)) [] false), (.slice (esV (gt (aggV (gt (tupV x1) 0)) 3)) [] false), (.slice (esV (gt (aggV (gt (tupV x1) 0)) 4)) [] false), (.slice (esV (gt (aggV (gt (tupV x1) 0)) 5)) [] false), (.slice (List.map encDef s.defs) [] false), (.str s.query), (.str s.mutation)] []) fun y20 =>
 exIs y20.1 (some 1) (cnd (chkL [.str, (.sl true), (.sl false), (.int .i64), (.int .i64), (.int .i64), .str, (.sl false), (.sl false), (.sl false), (.sl false), (.sl false), .str, .str] y20.2.1) (cnd (chkU [] y20.2.2)
 (some ((.slice (esV (gt y20.2.1 1)) [] false), [])) none) none)
 (none))
 (cnd ((intV (gt (aggV (gt (tupV x1) 0)) 0)) == 3)
 (bnd (LP (defs_Possible_l2 O LP) [(.ptr 0 2 0), (.slice [] [] true), (.slice (esV (gt (aggV (gt (tupV x1) 0)) 4)) [] false), (.int .i64 (List.length (esV (gt (aggV (gt (tupV x1) 0)) 4)) : Int)), (.int .i64 0), (.int .i64 (intV (gt (aggV (gt (tupV x1) 0)) 0))), (.str (strV (gt (aggV (gt (tupV x1) 0)) 1))), (.slice (esV (gt (aggV (gt (tupV x1) 0)) 2)) [] false), (.slice (esV (gt (aggV (gt (tupV x1) 0)) 3)) [] false), (.slice (esV (gt (aggV (gt (tupV x1) 0)) 4)) [] false), (.slice (esV (gt (aggV (gt (tupV x1) 0)) 5)) [] false), (.slice (List.map encDef s.defs) [] false), (.str s.query), (.str s.mutation)] []) fun y38 =>
 exIs y38.1 (some 3) (cnd (chkL [(.ptr 0 2 0), (.sl true), (.sl false), (.int .i64), (.int .i64), (.int .i64), .str, (.sl false), (.sl false), (.sl false), (.sl false), (.sl false), .str, .str] y38.2.1) (cnd (chkU [] y38.2.2)
 (some ((.slice (esV (gt y38.2.1 1)) [] false), [])) none) none)
 (none))
 (some ((.slice [] [] false), [])))))) none
noncomputable def defs_Possible_l1T (s : GSchema) (name : Str) : ((List Str) × Int) → Option (((List Str) × Int) ⊕ ((List Str)))
 | (l_10, t_11) =>
 cnd (decide (t_11 < (List.length s.defs : Int)))
  (bnd (nthI s.defs t_11) fun y13 =>
  cnd (y13.kind == 1)
  (bnd (slices_Contains_string_string y13.faces name) fun y15 =>
  cnd y15
   (bnd (defs_add l_10 y13.name) fun y17 =>
   some (.inl (y17, (IntKind.wrap .i64 (t_11 + 1)))))
   (some (.inl (l_10, (IntKind.wrap .i64 (t_11 + 1))))))
  (some (.inl (l_10, (IntKind.wrap .i64 (t_11 + 1))))))
  (some (.inr l_10))
abbrev defs_Possible_l1R (s : GSchema) (name : Str) (y2 : GDef × Bool) (st : (List Str) × Int) (l : List PV) (u : UP) : Prop := l = [(.str name), (.slice (List.map PV.str st.1) [] true), (.slice (List.map encDef s.defs) [] false), (.int .i64 (List.length s.defs : Int)), (.int .i64 st.2), (.int .i64 y2.1.kind), (.str y2.1.name), (.slice (List.map PV.str y2.1.faces) [] false), (.slice (List.map encFieldDef y2.1.fields) [] false), (.slice (List.map PV.str y2.1.parts) [] false), (.slice (List.map encParam y2.1.params) [] false), (.slice (List.map encDef s.defs) [] false), (.str s.query), (.str s.mutation)] ∧ u = []
abbrev defs_Possible_l1X (s : GSchema) (name : Str) (y2 : GDef × Bool) (p : (List Str)) (r : Ex × List PV × UP) : Prop := (fun (p : (List Str)) => ∃ (t_19 : Int), r = (Ex.brk 1, [(.str name), (.slice (List.map PV.str p) [] true), (.slice (List.map encDef s.defs) [] false), (.int .i64 (List.length s.defs : Int)), (.int .i64 t_19), (.int .i64 y2.1.kind), (.str y2.1.name), (.slice (List.map PV.str y2.1.faces) [] false), (.slice (List.map encFieldDef y2.1.fields) [] false), (.slice (List.map PV.str y2.1.parts) [] false), (.slice (List.map encParam y2.1.params) [] false), (.slice (List.map encDef s.defs) [] false), (.str s.query), (.str s.mutation)], [])) p
noncomputable def defs_Possible_l2T (s : GSchema) (y2 : GDef × Bool) : ((List Str) × Int) → Option (((List Str) × Int) ⊕ ((List Str)))
 | (l_28, t_29) =>
 cnd (decide (t_29 < (List.length y2.1.parts : Int)))
  (bnd (nthI y2.1.parts t_29) fun y31 =>
  bnd (defs_Kind s y31 [1]) fun y33 =>
  cnd y33
  (bnd (defs_add l_28 y31) fun y35 =>
  some (.inl (y35, (IntKind.wrap .i64 (t_29 + 1)))))
  (some (.inl (l_28, (IntKind.wrap .i64 (t_29 + 1))))))
  (some (.inr l_28))
abbrev defs_Possible_l2R (s : GSchema) (name : Str) (y2 : GDef × Bool) (st : (List Str) × Int) (l : List PV) (u : UP) : Prop := l = [(.ptr 0 2 0), (.slice (List.map PV.str st.1) [] true), (.slice (List.map PV.str y2.1.parts) [] false), (.int .i64 (List.length y2.1.parts : Int)), (.int .i64 st.2), (.int .i64 y2.1.kind), (.str y2.1.name), (.slice (List.map PV.str y2.1.faces) [] false), (.slice (List.map encFieldDef y2.1.fields) [] false), (.slice (List.map PV.str y2.1.parts) [] false), (.slice (List.map encParam y2.1.params) [] false), (.slice (List.map encDef s.defs) [] false), (.str s.query), (.str s.mutation)] ∧ u = []
abbrev defs_Possible_l2X (s : GSchema) (name : Str) (y2 : GDef × Bool) (p : (List Str)) (r : Ex × List PV × UP) : Prop := (fun (p : (List Str)) => ∃ (t_37 : Int), r = (Ex.brk 3, [(.ptr 0 2 0), (.slice (List.map PV.str p) [] true), (.slice (List.map PV.str y2.1.parts) [] false), (.int .i64 (List.length y2.1.parts : Int)), (.int .i64 t_37), (.int .i64 y2.1.kind), (.str y2.1.name), (.slice (List.map PV.str y2.1.faces) [] false), (.slice (List.map encFieldDef y2.1.fields) [] false), (.slice (List.map PV.str y2.1.parts) [] false), (.slice (List.map encParam y2.1.params) [] false), (.slice (List.map encDef s.defs) [] false), (.str s.query), (.str s.mutation)], [])) p
noncomputable def defs_Possible_B (s : GSchema) (name : Str) : Option (List Str) :=
 bnd (defs_Find s name) fun y2 =>
 cnd (!y2.2)
 (some ([] : List Str))
 (cnd (y2.1.kind == 1)
 (some [name])
 (cnd (y2.1.kind == 2)
 (bnd (tloop (defs_Possible_l1T s name) ([], 0)) fun l_18 =>
 some l_18)
 (cnd (y2.1.kind == 3)
 (bnd (tloop (defs_Possible_l2T s y2) ([], 0)) fun l_36 =>
 some l_36)
 (some ([] : List Str)))))
def defs_Possible_ds : Decs := { decs := [(15, (.tup [shDef, .bool])), (33, (.ref shDef)), (42, .bool), (47, (.sl true)), (56, (.ref .str)), (61, .bool), (64, (.sl true))], ups := [], loops := [(10, [(5, 6), (2, 3)], ⟨[.str, (.sl true), (.sl false), (.int .i64), (.int .i64), (.int .i64), .str, (.sl false), (.sl false), (.sl false), (.sl false), (.sl false), .str, .str], [], [(some 1, [.str, (.sl true), (.sl false), (.int .i64), (.int .i64), (.int .i64), .str, (.sl false), (.sl false), (.sl false), (.sl false), (.sl false), .str, .str], [])]⟩), (17, [(5, 6), (2, 3)], ⟨[(.ptr 0 2 0), (.sl true), (.sl false), (.int .i64), (.int .i64), (.int .i64), .str, (.sl false), (.sl false), (.sl false), (.sl false), (.sl false), .str, .str], [], [(some 3, [(.ptr 0 2 0), (.sl true), (.sl false), (.int .i64), (.int .i64), (.int .i64), .str, (.sl false), (.sl false), (.sl false), (.sl false), (.sl false), .str, .str], [])]⟩)] }
set_option maxRecDepth 100000 in
theorem defs_Possible_t1 (O : Orc) (LP : LBody → LBody) (s : GSchema) (name : Str) : evalBodyD Try.prog (MT 45) defs_Possible_ds Try.f45.ntmps O LP Try.f45 [(.agg [(.slice (List.map encDef s.defs) [] false), (.str s.query), (.str s.mutation)]), (.str name)] [] = defs_Possible_T1 O LP s name := by kernel_rfl
theorem defs_Possible_l1_ok (s : GSchema) (name : Str) (y2 : GDef × Bool) : ∀ st l u, defs_Possible_l1R s name y2 st l u → Imp (defs_Possible_l1T s name st) (defs_Possible_l1 O loopLim l u) (StepR (defs_Possible_l1R s name y2) (defs_Possible_l1X s name y2)) := by
 rintro ⟨l_10, t_11⟩ l u ⟨rfl, rfl⟩
 simp only [defs_Possible_l1T, defs_Possible_l1]
 refine Imp.chk rfl (Imp.chk rfl ?_)
 try simp only [evs, tys]
 refine Imp.cnd ?_ ?_
 ·refine Imp.op (f := fun a => .ref (encDef a)) (fun a h => op_ix (enc := encDef) (by first | rfl | simp only [evs, tys, evl]) ⟨by first | rfl | simp only [evs, tys, evc], by decide⟩ h) (fun a => chk_GDef a) fun y13 hy13 => ?_
  try simp only [evs, tys]
  refine Imp.cnd ?_ ?_
  ·refine Imp.call (f := slices_Contains_string_stringE) rfl (fun a h => by first | exact slices_Contains_string_string_spec h | simpa only [evs, tys, evl] using slices_Contains_string_string_spec h) (fun a => by first | rfl | simp only [slices_Contains_string_stringE, evk, chks]) fun y15 hy15 => ?_
   try simp only [slices_Contains_string_stringE, evs, tys]
   refine Imp.cnd ?_ ?_
   ·refine Imp.call (f := defs_addE) rfl (fun a h => by first | exact defs_add_spec h | simpa only [evs, tys, evl] using defs_add_spec h) (fun a => by first | rfl | simp only [defs_addE, evk, chks]) fun y17 hy17 => ?_
    try simp only [defs_addE, evs, tys]
    exact Imp.some (StepR.next ⟨by first | rfl | simp only [evs, tys, evl], rfl⟩)
   ·exact Imp.some (StepR.next ⟨by first | rfl | simp only [evs, tys, evl], rfl⟩)
  ·exact Imp.some (StepR.next ⟨by first | rfl | simp only [evs, tys, evl], rfl⟩)
 ·exact Imp.some (StepR.brk ⟨t_11, by first | rfl | simp only [evs, tys, evl, elim_inl, elim_inr]⟩)
theorem defs_Possible_l2_ok (s : GSchema) (name : Str) (y2 : GDef × Bool) : ∀ st l u, defs_Possible_l2R s name y2 st l u → Imp (defs_Possible_l2T s y2 st) (defs_Possible_l2 O loopLim l u) (StepR (defs_Possible_l2R s name y2) (defs_Possible_l2X s name y2)) := by
 rintro ⟨l_28, t_29⟩ l u ⟨rfl, rfl⟩
 simp only [defs_Possible_l2T, defs_Possible_l2]
 refine Imp.chk rfl (Imp.chk rfl ?_)
 try simp only [evs, tys]
 refine Imp.cnd ?_ ?_
 ·refine Imp.op (f := fun a => .ref (PV.str a)) (fun a h => op_ix (enc := PV.str) (by first | rfl | simp only [evs, tys, evl]) ⟨by first | rfl | simp only [evs, tys, evc], by decide⟩ h) (fun a => rfl) fun y31 hy31 => ?_
  try simp only [evs, tys]
  refine Imp.call (f := defs_KindE) rfl (fun a h => by first | exact defs_Kind_spec h | simpa only [evs, tys, evl] using defs_Kind_spec h) (fun a => by first | rfl | simp only [defs_KindE, evk, chks]) fun y33 hy33 => ?_
  try simp only [defs_KindE, evs, tys]
  refine Imp.cnd ?_ ?_
  ·refine Imp.call (f := defs_addE) rfl (fun a h => by first | exact defs_add_spec h | simpa only [evs, tys, evl] using defs_add_spec h) (fun a => by first | rfl | simp only [defs_addE, evk, chks]) fun y35 hy35 => ?_
   try simp only [defs_addE, evs, tys]
   exact Imp.some (StepR.next ⟨by first | rfl | simp only [evs, tys, evl], rfl⟩)
  ·exact Imp.some (StepR.next ⟨by first | rfl | simp only [evs, tys, evl], rfl⟩)
 ·exact Imp.some (StepR.brk ⟨t_29, by first | rfl | simp only [evs, tys, evl, elim_inl, elim_inr]⟩)
theorem defs_Possible_imp (s : GSchema) (name : Str) : Imp (defs_Possible_B s name) (defs_Possible_T1 O loopLim s name) (fun r v => v = (defs_PossibleE r, [])) := by
 simp only [defs_Possible_B, defs_Possible_T1]
 try simp only [evs, tys]
 refine Imp.call (f := defs_FindE) rfl (fun a h => by first | exact defs_Find_spec h | simpa only [evs, tys, evl] using defs_Find_spec h) (fun a => by first | rfl | simp only [defs_FindE, evk, chks]) fun y2 hy2 => ?_
 try simp only [defs_FindE, evs, tys]
 refine Imp.cnd ?_ ?_
 ·exact Imp.some (by first | rfl | simp only [defs_PossibleE, evs, tys, evl])
 ·refine Imp.cnd ?_ ?_
  ·exact Imp.some (by first | rfl | simp only [defs_PossibleE, evs, tys, evl])
  ·refine Imp.cnd ?_ ?_
   ·refine Imp.bnd (Imp.loop (defs_Possible_l1_ok s name y2) ⟨by first | rfl | simp only [evs, tys, evl], rfl⟩) ?_
    rintro l_18 vy20 hy20
    obtain ⟨t_19, rfl⟩ := hy20
    refine Imp.exHit rfl (Imp.chk rfl (Imp.chk rfl ?_))
    try simp only [evs, tys]
    exact Imp.some (by first | rfl | simp only [defs_PossibleE, evs, tys, evl])
   ·refine Imp.cnd ?_ ?_
    ·refine Imp.bnd (Imp.loop (defs_Possible_l2_ok s name y2) ⟨by first | rfl | simp only [evs, tys, evl], rfl⟩) ?_
     rintro l_36 vy38 hy38
     obtain ⟨t_37, rfl⟩ := hy38
     refine Imp.exHit rfl (Imp.chk rfl (Imp.chk rfl ?_))
     try simp only [evs, tys]
     exact Imp.some (by first | rfl | simp only [defs_PossibleE, evs, tys, evl])
    ·exact Imp.some (by first | rfl | simp only [defs_PossibleE, evs, tys, evl])
theorem defs_Possible_run {s : GSchema} {name : Str} {r : List Str} (h : defs_Possible_B s name = some r) : defs_Possible s name = some r := by
 obtain ⟨v, hv, rfl⟩ := defs_Possible_imp s name r h
 exact tO_of (pair_inj defs_PossibleEj) (OL_runD defs_Possible_ds rfl rfl Try.func45 ((defs_Possible_t1 _ _ s name).trans hv))
def slices_Contains_string_string_T1 (O : Orc) (LP : LBody → LBody) (s : List Str) (v0 : Str) : Option (PV × UP) :=
 callp O 73 [(.slice (List.map PV.str s) [] false), (.str v0)] fun x1 => cnd (chk (.int .i64) x1)
 (some ((.bool (decide ((intV x1) ≥ 0))), [])) none
noncomputable def slices_Contains_string_string_B (s : List Str) (v0 : Str) : Option Bool :=
 bnd (slices_Index_string_string s v0) fun y2 =>
 some (decide (y2 ≥ 0))
def slices_Contains_string_string_ds : Decs := { decs := [(7, (.int .i64))], ups := [], loops := [] }
set_option maxRecDepth 100000 in
theorem slices_Contains_string_string_t1 (O : Orc) (LP : LBody → LBody) (s : List Str) (v0 : Str) : evalBodyD Try.prog (MT 44) slices_Contains_string_string_ds Try.f44.ntmps O LP Try.f44 [(.slice (List.map PV.str s) [] false), (.str v0)] [] = slices_Contains_string_string_T1 O LP s v0 := by kernel_rfl
theorem slices_Contains_string_string_imp (s : List Str) (v0 : Str) : Imp (slices_Contains_string_string_B s v0) (slices_Contains_string_string_T1 O loopLim s v0) (fun r v => v = (slices_Contains_string_stringE r, [])) := by
 simp only [slices_Contains_string_string_B, slices_Contains_string_string_T1]
 try simp only [evs, tys]
 refine Imp.call (f := slices_Index_string_stringE) rfl (fun a h => by first | exact slices_Index_string_string_spec h | simpa only [evs, tys, evl] using slices_Index_string_string_spec h) (fun a => by first | rfl | simp only [slices_Index_string_stringE, evk, chks]) fun y2 hy2 => ?_
 try simp only [slices_Index_string_stringE, evs, tys]
 exact Imp.some (by first | rfl | simp only [slices_Contains_string_stringE, evs, tys, evl])
theorem slices_Contains_string_string_run {s : List Str} {v0 : Str} {r : Bool} (h : slices_Contains_string_string_B s v0 = some r) : slices_Contains_string_string s v0 = some r := by
 obtain ⟨v, hv, rfl⟩ := slices_Contains_string_string_imp s v0 r h
 exact tO_of (pair_inj slices_Contains_string_stringEj) (OL_runD slices_Contains_string_string_ds rfl rfl Try.func44 ((slices_Contains_string_string_t1 _ _ s v0).trans hv))
def seineref9_Possible_l1 (O : Orc) (LP : LBody → LBody) : LBody := fun s5 s5u => cnd (chkL [.str, (.ptr 0 2 0), (.sl true), (.int .i64), (.int .i64), .str, (.sl false), (.sl false), (.sl false), (.sl false), (.sl false), .str, .str] s5) (cnd (chkU [] s5u)
 (cnd (decide ((intV (gt s5 3)) < (List.length (esV (gt s5 10)) : Int)))
 (bnd (ix 6 (.slice (esV (gt s5 10)) [] false) (.int .i64 (intV (gt s5 3)))) fun x16 => cnd (chk (.ref shDef) x16)
 (cnd ((intV (gt (aggV (refV x16)) 0)) == 1)
 (callp O 48 [(.slice (esV (gt (aggV (refV x16)) 2)) [] false), (.str (strV (gt s5 0)))] fun x18 => cnd (chk .bool x18)
 (cnd (boolV x18)
 (callp O 48 [(.slice (esV (gt s5 2)) [] false), (.str (strV (gt (aggV (refV x16)) 1)))] fun x20 => cnd (chk .bool x20)
 (cnd (!(boolV x20))
 (bnd (apd 1 (.slice (esV (gt s5 2)) [] true) (.slice [(.str (strV (gt (aggV (refV x16)) 1)))] [] true)) fun x22 => cnd (chk (.sl true) x22)
 (some (.nrm, [(.str (strV (gt s5 0))), (.ptr 0 2 0), (.slice (esV x22) [] true), (.int .i64 (IntKind.wrap .i64 ((intV (gt s5 3)) + 1))), (.int .i64 (intV (gt s5 4))), (.str (strV (gt s5 5))), (.slice (esV (gt s5 6)) [] false), (.slice (esV (gt s5 7)) [] false), (.slice (esV (gt s5 8)) [] false), (.slice (esV (gt s5 9)) [] false), (.slice (esV (gt s5 10)) [] false), (.str (strV (gt s5 11))), (.str (strV (gt s5 12)))], [])) none)
 (some (.nrm, [(.str (strV (gt s5 0))), (.ptr 0 2 0), (.slice (esV (gt s5 2)) [] true), (.int .i64 (IntKind.wrap .i64 ((intV (gt s5 3)) + 1))), (.int .i64 (intV (gt s5 4))), (.str (strV (gt s5 5))), (.slice (esV (gt s5 6)) [] false), (.slice (esV (gt s5 7)) [] false), (.slice (esV (gt s5 8)) [] false), (.slice (esV (gt s5 9)) [] false), (.slice (esV (gt s5 10)) [] false), (.str (strV (gt s5 11))), (.str (strV (gt s5 12)))], []))) none)
 (some (.nrm, [(.str (strV (gt s5 0))), (.ptr 0 2 0), (.slice (esV (gt s5 2)) [] true), (.int .i64 (IntKind.wrap .i64 ((intV (gt s5 3)) + 1))), (.int .i64 (intV (gt s5 4))), (.str (strV (gt s5 5))), (.slice (esV (gt s5 6)) [] false), (.slice (esV (gt s5 7)) [] false), (.slice (esV (gt s5 8)) [] false), (.slice (esV (gt s5 9)) [] false), (.slice (esV (gt s5 10)) [] false), (.str (strV (gt s5 11))), (.str (strV (gt s5 12)))], []))) none)
 (some (.nrm, [(.str (strV (gt s5 0))), (.ptr 0 2 0), (.slice (esV (gt s5 2)) [] true), (.int .i64 (IntKind.wrap .i64 ((intV (gt s5 3)) + 1))), (.int .i64 (intV (gt s5 4))), (.str (strV (gt s5 5))), (.slice (esV (gt s5 6)) [] false), (.slice (esV (gt s5 7)) [] false), (.slice (esV (gt s5 8)) [] false), (.slice (esV (gt s5 9)) [] false), (.slice (esV (gt s5 10)) [] false), (.str (strV (gt s5 11))), (.str (strV (gt s5 12)))], []))) none)
 (some (.brk 1, [(.str (strV (gt s5 0))), (.ptr 0 2 0), (.slice (esV (gt s5 2)) [] true), (.int .i64 (intV (gt s5 3))), (.int .i64 (intV (gt s5 4))), (.str (strV (gt s5 5))), (.slice (esV (gt s5 6)) [] false), (.slice (esV (gt s5 7)) [] false), (.slice (esV (gt s5 8)) [] false), (.slice (esV (gt s5 9)) [] false), (.slice (esV (gt s5 10)) [] false), (.str (strV (gt s5 11))), (.str (strV (gt s5 12)))], []))) none) none
def seineref9_Possible_l2 (O : Orc) (LP : LBody → LBody) : LBody := fun s27 s27u => cnd (chkL [(.ptr 0 2 0), (.ptr 0 5 0), (.sl true), (.int .i64), (.int .i64), .str, (.sl false), (.sl false), (.sl false), (.sl false), (.sl false), .str, .str] s27) (cnd (chkU [] s27u)
 (cnd (decide ((intV (gt s27 3)) < (List.length (esV (gt s27 8)) : Int)))
 (bnd (ix 1 (.slice (esV (gt s27 8)) [] false) (.int .i64 (intV (gt s27 3)))) fun x42 => cnd (chk (.ref .str) x42)
 (callp O 78 [(.agg [(.slice (esV (gt s27 10)) [] false), (.str (strV (gt s27 11))), (.str (strV (gt s27 12)))]), (.str (strV (refV x42)))] fun x44 => cnd (chk .bool x44)
 (cnd (boolV x44)
 (bnd (ix 1 (.slice (esV (gt s27 8)) [] false) (.int .i64 (intV (gt s27 3)))) fun x46 => cnd (chk (.ref .str) x46)
 (callp O 48 [(.slice (esV (gt s27 2)) [] false), (.str (strV (refV x46)))] fun x48 => cnd (chk .bool x48)
 (cnd (!(boolV x48))
 (bnd (ix 1 (.slice (esV (gt s27 8)) [] false) (.int .i64 (intV (gt s27 3)))) fun x50 => cnd (chk (.ref .str) x50)
 (bnd (apd 1 (.slice (esV (gt s27 2)) [] true) (.slice [(.str (strV (refV x50)))] [] true)) fun x52 => cnd (chk (.sl true) x52)
 (some (.nrm, [(.ptr 0 2 0), (.ptr 0 5 0), (.slice (esV x52) [] true), (.int .i64 (IntKind.wrap .i64 ((intV (gt s27 3)) + 1))), (.int .i64 (intV (gt s27 4))), (.str (strV (gt s27 5))), (.slice (esV (gt s27 6)) [] false), (.slice (esV (gt s27 7)) [] false), (.slice (esV (gt s27 8)) [] false), (.slice (esV (gt s27 9)) [] false), (.slice (esV (gt s27 10)) [] false), (.str (strV (gt s27 11))), (.str (strV (gt s27 12)))], [])) none) none)
 (some (.nrm, [(.ptr 0 2 0), (.ptr 0 5 0), (.slice (esV (gt s27 2)) [] true), (.int .i64 (IntKind.wrap .i64 ((intV (gt s27 3)) + 1))), (.int .i64 (intV (gt s27 4))), (.str (strV (gt s27 5))), (.slice (esV (gt s27 6)) [] false), (.slice (esV (gt s27 7)) [] false), (.slice (esV (gt s27 8)) [] false), (.slice (esV (gt s27 9)) [] false), (.slice (esV (gt s27 10)) [] false), (.str (strV (gt s27 11))), (.str (strV (gt s27 12)))], []))) none) none)
 (some (.nrm, [(.ptr 0 2 0), (.ptr 0 5 0), (.slice (esV (gt s27 2)) [] true), (.int .i64 (IntKind.wrap .i64 ((intV (gt s27 3)) + 1))), (.int .i64 (intV (gt s27 4))), (.str (strV (gt s27 5))), (.slice (esV (gt s27 6)) [] false), (.slice (esV (gt s27 7)) [] false), (.slice (esV (gt s27 8)) [] false), (.slice (esV (gt s27 9)) [] false), (.slice (esV (gt s27 10)) [] false), (.str (strV (gt s27 11))), (.str (strV (gt s27 12)))], []))) none) none)
 (some (.brk 3, [(.ptr 0 2 0), (.ptr 0 5 0), (.slice (esV (gt s27 2)) [] true), (.int .i64 (intV (gt s27 3))), (.int .i64 (intV (gt s27 4))), (.str (strV (gt s27 5))), (.slice (esV (gt s27 6)) [] false), (.slice (esV (gt s27 7)) [] false), (.slice (esV (gt s27 8)) [] false), (.slice (esV (gt s27 9)) [] false), (.slice (esV (gt s27 10)) [] false), (.str (strV (gt s27 11))), (.str (strV (gt s27 12)))], []))) none) none
def seineref9_Possible_T1 (O : Orc) (LP : LBody → LBody) (s : GSchema) (name : Str) : Option (PV × UP) :=
 callp O 77 [(.agg [(.slice (List.map encDef s.defs) [] false), (.str s.query), (.str s.mutation)]), (.str name)] fun x1 => cnd (chk (.tup [shDef, .bool]) x1)
 (cnd (!(boolV (gt (tupV x1) 1)))
 (some ((.slice [] [] false), []))
 (cnd ((intV (gt (aggV (gt (tupV x1) 0)) 0)) == 1)
 (bnd (apd 1 (.slice [] [] true) (.slice [(.str name)] [] true)) fun x3 => cnd (chk (.sl true) x3)
 (some ((.slice (esV x3) [] false), [])) none)
 (cnd ((intV (gt (aggV (gt (tupV x1) 0)) 0)) == 2)
 (bnd (LP (seineref9_Possible_l1 O LP) [(.str name), (.ptr 0 2 0), (.slice [] [] true), (.int .i64 0), (.int .i64 (intV (gt (aggV (gt (tupV x1) 0)) 0))), (.str (strV (gt (aggV (gt (tupV x1) 0)) 1))), (.slice (esV (gt (aggV (gt (tupV x1) 0)) 2)) [] false), (.slice (esV (gt (aggV (gt (tupV x1) 0)) 3)) [] false), (.slice (esV (gt (aggV (gt (tupV x1) 0)) 4)) [] false), (.slice (esV (gt (aggV (gt (tupV x1) 0)) 5)) [] false), (.slice (List.map encDef s.defs) [] false), (.str s.query), (.str s.mutation)] []) fun y26 =>
 exIs y26.1 (some 1) (cnd (chkL [.str, (.ptr 0 2 0), (.sl true), (.int .i64), (.int .i64), .str, (.sl false), (.sl false), (.sl false), (.sl false), (.sl false), .str, .str] y26.2.1) (cnd (chkU [] y26.2.2)
 (some ((.slice (esV (gt y26.2.1 2)) [] false), [])) none) none)
 (none))
 (cnd ((intV (gt (aggV (gt (tupV x1) 0)) 0)) == 3)
 (bnd (LP (seineref9_Possible_l2 O LP) [(.ptr 0 2 0), (.ptr 0 5 0), (.slice [] [] true), (.int .i64 0), (.int .i64 (intV (gt (aggV (gt (tupV x1) 0)) 0))), (.str (strV (gt (aggV (gt (tupV x1) 0)) 1))), (.slice (esV (gt (aggV (gt (tupV x1) 0)) 2)) [] false), (.slice (esV (gt (aggV (gt (tupV x1) 0)) 3)) [] false), (.slice (esV (gt (aggV (gt (tupV x1) 0)) 4)) [] false), (.slice (esV (gt (aggV (gt (tupV x1) 0)) 5)) [] false), (.slice (List.map encDef s.defs) [] false), (.str s.query), (.str s.mutation)] []) fun y56 =>
 exIs y56.1 (some 3) (cnd (chkL [(.ptr 0 2 0), (.ptr 0 5 0), (.sl true), (.int .i64), (.int .i64), .str, (.sl false), (.sl false), (.sl false), (.sl false), (.sl false), .str, .str] y56.2.1) (cnd (chkU [] y56.2.2)
 (some ((.slice (esV (gt y56.2.1 2)) [] false), [])) none) none)
 (none))
 (some ((.slice [] [] false), [])))))) none
noncomputable def seineref9_Possible_l1T (s : GSchema) (name : Str) : ((List Str) × Int) → Option (((List Str) × Int) ⊕ ((List Str)))
 | (out_14, i_15) =>
 cnd (decide (i_15 < (List.length s.defs : Int)))
  (bnd (nthI s.defs i_15) fun y17 =>
  cnd (y17.kind == 1)
  (bnd (seineref1_Has y17.faces name) fun y19 =>
  cnd y19
   (bnd (seineref1_Has out_14 y17.name) fun y21 =>
   cnd (!y21)
   (bnd (tapp out_14 [y17.name]) fun y23 =>
   some (.inl (y23, (IntKind.wrap .i64 (i_15 + 1)))))
   (some (.inl (out_14, (IntKind.wrap .i64 (i_15 + 1))))))
   (some (.inl (out_14, (IntKind.wrap .i64 (i_15 + 1))))))
  (some (.inl (out_14, (IntKind.wrap .i64 (i_15 + 1))))))
  (some (.inr out_14))
abbrev seineref9_Possible_l1R (s : GSchema) (name : Str) (y2 : GDef × Bool) (st : (List Str) × Int) (l : List PV) (u : UP) : Prop := l = [(.str name), (.ptr 0 2 0), (.slice (List.map PV.str st.1) [] true), (.int .i64 st.2), (.int .i64 y2.1.kind), (.str y2.1.name), (.slice (List.map PV.str y2.1.faces) [] false), (.slice (List.map encFieldDef y2.1.fields) [] false), (.slice (List.map PV.str y2.1.parts) [] false), (.slice (List.map encParam y2.1.params) [] false), (.slice (List.map encDef s.defs) [] false), (.str s.query), (.str s.mutation)] ∧ u = []
abbrev seineref9_Possible_l1X (s : GSchema) (name : Str) (y2 : GDef × Bool) (p : (List Str)) (r : Ex × List PV × UP) : Prop := (fun (p : (List Str)) => ∃ (i_25 : Int), r = (Ex.brk 1, [(.str name), (.ptr 0 2 0), (.slice (List.map PV.str p) [] true), (.int .i64 i_25), (.int .i64 y2.1.kind), (.str y2.1.name), (.slice (List.map PV.str y2.1.faces) [] false), (.slice (List.map encFieldDef y2.1.fields) [] false), (.slice (List.map PV.str y2.1.parts) [] false), (.slice (List.map encParam y2.1.params) [] false), (.slice (List.map encDef s.defs) [] false), (.str s.query), (.str s.mutation)], [])) p
noncomputable def seineref9_Possible_l2T (s : GSchema) (y2 : GDef × Bool) : ((List Str) × Int) → Option (((List Str) × Int) ⊕ ((List Str)))
 | (out_40, i_41) =>
 cnd (decide (i_41 < (List.length y2.1.parts : Int)))
  (bnd (nthI y2.1.parts i_41) fun y43 =>
  bnd (seineref9_Object s y43) fun y45 =>
  cnd y45
  (bnd (nthI y2.1.parts i_41) fun y47 =>
  bnd (seineref1_Has out_40 y47) fun y49 =>
  cnd (!y49)
   (bnd (nthI y2.1.parts i_41) fun y51 =>
   bnd (tapp out_40 [y51]) fun y53 =>
   some (.inl (y53, (IntKind.wrap .i64 (i_41 + 1)))))
   (some (.inl (out_40, (IntKind.wrap .i64 (i_41 + 1))))))
  (some (.inl (out_40, (IntKind.wrap .i64 (i_41 + 1))))))
  (some (.inr out_40))
abbrev seineref9_Possible_l2R (s : GSchema) (name : Str) (y2 : GDef × Bool) (st : (List Str) × Int) (l : List PV) (u : UP) : Prop := l = [(.ptr 0 2 0), (.ptr 0 5 0), (.slice (List.map PV.str st.1) [] true), (.int .i64 st.2), (.int .i64 y2.1.kind), (.str y2.1.name), (.slice (List.map PV.str y2.1.faces) [] false), (.slice (List.map encFieldDef y2.1.fields) [] false), (.slice (List.map PV.str y2.1.parts) [] false), (.slice (List.map encParam y2.1.params) [] false), (.slice (List.map encDef s.defs) [] false), (.str s.query), (.str s.mutation)] ∧ u = []
abbrev seineref9_Possible_l2X (s : GSchema) (name : Str) (y2 : GDef × Bool) (p : (List Str)) (r : Ex × List PV × UP) : Prop := (fun (p : (List Str)) => ∃ (i_55 : Int), r = (Ex.brk 3, [(.ptr 0 2 0), (.ptr 0 5 0), (.slice (List.map PV.str p) [] true), (.int .i64 i_55), (.int .i64 y2.1.kind), (.str y2.1.name), (.slice (List.map PV.str y2.1.faces) [] false), (.slice (List.map encFieldDef y2.1.fields) [] false), (.slice (List.map PV.str y2.1.parts) [] false), (.slice (List.map encParam y2.1.params) [] false), (.slice (List.map encDef s.defs) [] false), (.str s.query), (.str s.mutation)], [])) p
noncomputable def seineref9_Possible_B (s : GSchema) (name : Str) : Option (List Str) :=
 bnd (seineref9_Find s name) fun y2 =>
 cnd (!y2.2)
 (some ([] : List Str))
 (cnd (y2.1.kind == 1)
 (bnd (tapp ([] : List Str) [name]) fun y4 =>
 some y4)
 (cnd (y2.1.kind == 2)
 (bnd (tloop (seineref9_Possible_l1T s name) ([], 0)) fun out_24 =>
 some out_24)
 (cnd (y2.1.kind == 3)
 (bnd (tloop (seineref9_Possible_l2T s y2) ([], 0)) fun out_54 =>
 some out_54)
 (some ([] : List Str)))))
def seineref9_Possible_ds : Decs := { decs := [(14, (.tup [shDef, .bool])), (27, (.sl true)), (42, (.ref shDef)), (51, .bool), (57, .bool), (64, (.sl true)), (80, (.ref .str)), (82, .bool), (88, (.ref .str)), (90, .bool), (97, (.ref .str)), (100, (.sl true))], ups := [], loops := [(8, [(5, 6), (2, 3)], ⟨[.str, (.ptr 0 2 0), (.sl true), (.int .i64), (.int .i64), .str, (.sl false), (.sl false), (.sl false), (.sl false), (.sl false), .str, .str], [], [(some 1, [.str, (.ptr 0 2 0), (.sl true), (.int .i64), (.int .i64), .str, (.sl false), (.sl false), (.sl false), (.sl false), (.sl false), .str, .str], [])]⟩), (15, [(5, 6), (2, 3)], ⟨[(.ptr 0 2 0), (.ptr 0 5 0), (.sl true), (.int .i64), (.int .i64), .str, (.sl false), (.sl false), (.sl false), (.sl false), (.sl false), .str, .str], [], [(some 3, [(.ptr 0 2 0), (.ptr 0 5 0), (.sl true), (.int .i64), (.int .i64), .str, (.sl false), (.sl false), (.sl false), (.sl false), (.sl false), .str, .str], [])]⟩)] }
set_option maxRecDepth 100000 in
theorem seineref9_Possible_t1 (O : Orc) (LP : LBody → LBody) (s : GSchema) (name : Str) : evalBodyD Try.prog (MT 49) seineref9_Possible_ds Try.f49.ntmps O LP Try.f49 [(.agg [(.slice (List.map encDef s.defs) [] false), (.str s.query), (.str s.mutation)]), (.str name)] [] = seineref9_Possible_T1 O LP s name := by kernel_rfl
theorem seineref9_Possible_l1_ok (s : GSchema) (name : Str) (y2 : GDef × Bool) : ∀ st l u, seineref9_Possible_l1R s name y2 st l u → Imp (seineref9_Possible_l1T s name st) (seineref9_Possible_l1 O loopLim l u) (StepR (seineref9_Possible_l1R s name y2) (seineref9_Possible_l1X s name y2)) := by
 rintro ⟨out_14, i_15⟩ l u ⟨rfl, rfl⟩
 simp only [seineref9_Possible_l1T, seineref9_Possible_l1]
 refine Imp.chk rfl (Imp.chk rfl ?_)
 try simp only [evs, tys]
 refine Imp.cnd ?_ ?_
 ·refine Imp.op (f := fun a => .ref (encDef a)) (fun a h => op_ix (enc := encDef) (by first | rfl | simp only [evs, tys, evl]) ⟨by first | rfl | simp only [evs, tys, evc], by decide⟩ h) (fun a => chk_GDef a) fun y17 hy17 => ?_
  try simp only [evs, tys]
  refine Imp.cnd ?_ ?_
  ·refine Imp.call (f := seineref1_HasE) rfl (fun a h => by first | exact seineref1_Has_spec h | simpa only [evs, tys, evl] using seineref1_Has_spec h) (fun a => by first | rfl | simp only [seineref1_HasE, evk, chks]) fun y19 hy19 => ?_
   try simp only [seineref1_HasE, evs, tys]
   refine Imp.cnd ?_ ?_
   ·refine Imp.call (f := seineref1_HasE) rfl (fun a h => by first | exact seineref1_Has_spec h | simpa only [evs, tys, evl] using seineref1_Has_spec h) (fun a => by first | rfl | simp only [seineref1_HasE, evk, chks]) fun y21 hy21 => ?_
    try simp only [seineref1_HasE, evs, tys]
    refine Imp.cnd ?_ ?_
    ·refine Imp.op (f := fun a => .slice (List.map PV.str a) [] true) (fun a h => op_apd (enc := PV.str) (by first | rfl | simp only [evs, tys, evl]) (by first | rfl | simp only [evs, tys, evl]) (fun a => by first | rfl | simp only [evs, tys, evc]) h) (fun a => rfl) fun y23 hy23 => ?_
     try simp only [evs, tys]
     exact Imp.some (StepR.next ⟨by first | rfl | simp only [evs, tys, evl], rfl⟩)
    ·exact Imp.some (StepR.next ⟨by first | rfl | simp only [evs, tys, evl], rfl⟩)
   ·exact Imp.some (StepR.next ⟨by first | rfl | simp only [evs, tys, evl], rfl⟩)
  ·exact Imp.some (StepR.next ⟨by first | rfl | simp only [evs, tys, evl], rfl⟩)
 ·exact Imp.some (StepR.brk ⟨i_15, by first | rfl | simp only [evs, tys, evl, elim_inl, elim_inr]⟩)
theorem seineref9_Possible_l2_ok (s : GSchema) (name : Str) (y2 : GDef × Bool) : ∀ st l u, seineref9_Possible_l2R s name y2 st l u → Imp (seineref9_Possible_l2T s y2 st) (seineref9_Possible_l2 O loopLim l u) (StepR (seineref9_Possible_l2R s name y2) (seineref9_Possible_l2X s name y2)) := by
 rintro ⟨out_40, i_41⟩ l u ⟨rfl, rfl⟩
 simp only [seineref9_Possible_l2T, seineref9_Possible_l2]
 refine Imp.chk rfl (Imp.chk rfl ?_)
 try simp only [evs, tys]
 refine Imp.cnd ?_ ?_
 ·refine Imp.op (f := fun a => .ref (PV.str a)) (fun a h => op_ix (enc := PV.str) (by first | rfl | simp only [evs, tys, evl]) ⟨by first | rfl | simp only [evs, tys, evc], by decide⟩ h) (fun a => rfl) fun y43 hy43 => ?_
  try simp only [evs, tys]
  refine Imp.call (f := seineref9_ObjectE) rfl (fun a h => by first | exact seineref9_Object_spec h | simpa only [evs, tys, evl] using seineref9_Object_spec h) (fun a => by first | rfl | simp only [seineref9_ObjectE, evk, chks]) fun y45 hy45 => ?_
  try simp only [seineref9_ObjectE, evs, tys]
  refine Imp.cnd ?_ ?_
  ·refine Imp.op (f := fun a => .ref (PV.str a)) (fun a h => op_ix (enc := PV.str) (by first | rfl | simp only [evs, tys, evl]) ⟨by first | rfl | simp only [evs, tys, evc], by decide⟩ h) (fun a => rfl) fun y47 hy47 => ?_
   try simp only [evs, tys]
   refine Imp.call (f := seineref1_HasE) rfl (fun a h => by first | exact seineref1_Has_spec h | simpa only [evs, tys, evl] using seineref1_Has_spec h) (fun a => by first | rfl | simp only [seineref1_HasE, evk, chks]) fun y49 hy49 => ?_
   try simp only [seineref1_HasE, evs, tys]
   refine Imp.cnd ?_ ?_
   ·refine Imp.op (f := fun a => .ref (PV.str a)) (fun a h => op_ix (enc := PV.str) (by first | rfl | simp only [evs, tys, evl]) ⟨by first | rfl | simp only [evs, tys, evc], by decide⟩ h) (fun a => rfl) fun y51 hy51 => ?_
    try simp only [evs, tys]
    refine Imp.op (f := fun a => .slice (List.map PV.str a) [] true) (fun a h => op_apd (enc := PV.str) (by first | rfl | simp only [evs, tys, evl]) (by first | rfl | simp only [evs, tys, evl]) (fun a => by first | rfl | simp only [evs, tys, evc]) h) (fun a => rfl) fun y53 hy53 => ?_
    try simp only [evs, tys]
    exact Imp.some (StepR.next ⟨by first | rfl | simp only [evs, tys, evl], rfl⟩)
   ·exact Imp.some (StepR.next ⟨by first | rfl | simp only [evs, tys, evl], rfl⟩)
  ·exact Imp.some (StepR.next ⟨by first | rfl | simp only [evs, tys, evl], rfl⟩)
 ·exact Imp.some (StepR.brk ⟨i_41, by first | rfl | simp only [evs, tys, evl, elim_inl, elim_inr]⟩)
theorem seineref9_Possible_imp (s : GSchema) (name : Str) : Imp (seineref9_Possible_B s name) (seineref9_Possible_T1 O loopLim s name) (fun r v => v = (seineref9_PossibleE r, [])) := by
 simp only [seineref9_Possible_B, seineref9_Possible_T1]
 try simp only [evs, tys]
 refine Imp.call (f := seineref9_FindE) rfl (fun a h => by first | exact seineref9_Find_spec h | simpa only [evs, tys, evl] using seineref9_Find_spec h) (fun a => by first | rfl | simp only [seineref9_FindE, evk, chks]) fun y2 hy2 => ?_
 try simp only [seineref9_FindE, evs, tys]
 refine Imp.cnd ?_ ?_
 ·exact Imp.some (by first | rfl | simp only [seineref9_PossibleE, evs, tys, evl])
 ·refine Imp.cnd ?_ ?_
  ·refine Imp.op (f := fun a => .slice (List.map PV.str a) [] true) (fun a h => op_apd (enc := PV.str) (by first | rfl | simp only [evs, tys, evl]) (by first | rfl | simp only [evs, tys, evl]) (fun a => by first | rfl | simp only [evs, tys, evc]) h) (fun a => rfl) fun y4 hy4 => ?_
   try simp only [evs, tys]
   exact Imp.some (by first | rfl | simp only [seineref9_PossibleE, evs, tys, evl])
  ·refine Imp.cnd ?_ ?_
   ·refine Imp.bnd (Imp.loop (seineref9_Possible_l1_ok s name y2) ⟨by first | rfl | simp only [evs, tys, evl], rfl⟩) ?_
    rintro out_24 vy26 hy26
    obtain ⟨i_25, rfl⟩ := hy26
    refine Imp.exHit rfl (Imp.chk rfl (Imp.chk rfl ?_))
    try simp only [evs, tys]
    exact Imp.some (by first | rfl | simp only [seineref9_PossibleE, evs, tys, evl])
   ·refine Imp.cnd ?_ ?_
    ·refine Imp.bnd (Imp.loop (seineref9_Possible_l2_ok s name y2) ⟨by first | rfl | simp only [evs, tys, evl], rfl⟩) ?_
     rintro out_54 vy56 hy56
     obtain ⟨i_55, rfl⟩ := hy56
     refine Imp.exHit rfl (Imp.chk rfl (Imp.chk rfl ?_))
     try simp only [evs, tys]
     exact Imp.some (by first | rfl | simp only [seineref9_PossibleE, evs, tys, evl])
    ·exact Imp.some (by first | rfl | simp only [seineref9_PossibleE, evs, tys, evl])
theorem seineref9_Possible_run {s : GSchema} {name : Str} {r : List Str} (h : seineref9_Possible_B s name = some r) : seineref9_Possible s name = some r := by
 obtain ⟨v, hv, rfl⟩ := seineref9_Possible_imp s name r h
 exact tO_of (pair_inj seineref9_PossibleEj) (OL_runD seineref9_Possible_ds rfl rfl Try.func49 ((seineref9_Possible_t1 _ _ s name).trans hv))
def seinelaw8_Light_l1 (O : Orc) (LP : LBody → LBody) : LBody := fun s46 s46u => cnd (chkL [(.ptr 0 1 0), (.int .i64), (.int .i64), (.ptr 0 5 0), (.int .i64), (.int .i64), .str, (.sl false), (.sl false), (.sl false), (.sl false), (.sl false), .str, .str] s46) (cnd (chkU [] s46u)
 (cnd (decide ((intV (gt s46 4)) < (List.length (esV (gt s46 8)) : Int)))
 (bnd (ix 6 (.slice (esV (gt s46 8)) [] false) (.int .i64 (intV (gt s46 4)))) fun x59 => cnd (chk (.ref shFieldDef) x59)
 (bnd (ix 6 (.slice (esV (gt s46 8)) [] false) (.int .i64 (intV (gt s46 4)))) fun x61 => cnd (chk (.ref shFieldDef) x61)
 (callp O 51 [(.slice (esV (gt (aggV (refV x61)) 1)) [] false)] fun x63 => cnd (chk (.int .i64) x63)
 (bnd (ix 6 (.slice (esV (gt s46 8)) [] false) (.int .i64 (intV (gt s46 4)))) fun x65 => cnd (chk (.ref shFieldDef) x65)
 (callp O 52 [(.slice (esV (gt (aggV (refV x65)) 5)) [] false)] fun x67 => cnd (chk (.int .i64) x67)
 (some (.nrm, [(.ptr 0 1 0), (.int .i64 (IntKind.wrap .i64 ((IntKind.wrap .i64 ((IntKind.wrap .i64 ((IntKind.wrap .i64 ((intV (gt s46 1)) + 1)) + (List.length (strV (gt (aggV (refV x59)) 0)) : Int))) + (intV x63))) + (intV x67)))), (.int .i64 (intV (gt s46 2))), (.ptr 0 5 0), (.int .i64 (IntKind.wrap .i64 ((intV (gt s46 4)) + 1))), (.int .i64 (intV (gt s46 5))), (.str (strV (gt s46 6))), (.slice (esV (gt s46 7)) [] false), (.slice (esV (gt s46 8)) [] false), (.slice (esV (gt s46 9)) [] false), (.slice (esV (gt s46 10)) [] false), (.slice (esV (gt s46 11)) [] false), (.str (strV (gt s46 12))), (.str (strV (gt s46 13)))], [])) none) none) none) none) none)
 (some (.brk 2, [(.ptr 0 1 0), (.int .i64 (intV (gt s46 1))), (.int .i64 (intV (gt s46 2))), (.ptr 0 5 0), (.int .i64 (intV (gt s46 4))), (.int .i64 (intV (gt s46 5))), (.str (strV (gt s46 6))), (.slice (esV (gt s46 7)) [] false), (.slice (esV (gt s46 8)) [] false), (.slice (esV (gt s46 9)) [] false), (.slice (esV (gt s46 10)) [] false), (.slice (esV (gt s46 11)) [] false), (.str (strV (gt s46 12))), (.str (strV (gt s46 13)))], []))) none) none
def seinelaw8_Light_l2 (O : Orc) (LP : LBody → LBody) : LBody := fun s1 s1u => cnd (chkL [(.ptr 0 1 0), (.int .i64), (.int .i64), (.sl false), .str, .str] s1) (cnd (chkU [] s1u)
 (cnd (decide ((intV (gt s1 2)) < (List.length (esV (gt s1 3)) : Int)))
 (bnd (ix 6 (.slice (esV (gt s1 3)) [] false) (.int .i64 (intV (gt s1 2)))) fun x38 => cnd (chk (.ref shDef) x38)
 (callp O 50 [(.slice (esV (gt (aggV (refV x38)) 2)) [] false)] fun x40 => cnd (chk (.int .i64) x40)
 (callp O 50 [(.slice (esV (gt (aggV (refV x38)) 4)) [] false)] fun x42 => cnd (chk (.int .i64) x42)
 (callp O 51 [(.slice (esV (gt (aggV (refV x38)) 5)) [] false)] fun x44 => cnd (chk (.int .i64) x44)
 (bnd (LP (seinelaw8_Light_l1 O LP) [(.ptr 0 1 0), (.int .i64 (IntKind.wrap .i64 ((IntKind.wrap .i64 ((IntKind.wrap .i64 ((IntKind.wrap .i64 ((IntKind.wrap .i64 ((intV (gt s1 1)) + 1)) + (List.length (strV (gt (aggV (refV x38)) 1)) : Int))) + (intV x40))) + (intV x42))) + (intV x44)))), (.int .i64 (intV (gt s1 2))), (.ptr 0 5 0), (.int .i64 0), (.int .i64 (intV (gt (aggV (refV x38)) 0))), (.str (strV (gt (aggV (refV x38)) 1))), (.slice (esV (gt (aggV (refV x38)) 2)) [] false), (.slice (esV (gt (aggV (refV x38)) 3)) [] false), (.slice (esV (gt (aggV (refV x38)) 4)) [] false), (.slice (esV (gt (aggV (refV x38)) 5)) [] false), (.slice (esV (gt s1 3)) [] false), (.str (strV (gt s1 4))), (.str (strV (gt s1 5)))] []) fun y71 =>
 exIs y71.1 (some 2) (cnd (chkL [(.ptr 0 1 0), (.int .i64), (.int .i64), (.ptr 0 5 0), (.int .i64), (.int .i64), .str, (.sl false), (.sl false), (.sl false), (.sl false), (.sl false), .str, .str] y71.2.1) (cnd (chkU [] y71.2.2)
 (some (.nrm, [(.ptr 0 1 0), (.int .i64 (intV (gt y71.2.1 1))), (.int .i64 (IntKind.wrap .i64 ((intV (gt y71.2.1 2)) + 1))), (.slice (esV (gt y71.2.1 11)) [] false), (.str (strV (gt y71.2.1 12))), (.str (strV (gt y71.2.1 13)))], [])) none) none)
 (none)) none) none) none) none)
 (some (.brk 0, [(.ptr 0 1 0), (.int .i64 (intV (gt s1 1))), (.int .i64 (intV (gt s1 2))), (.slice (esV (gt s1 3)) [] false), (.str (strV (gt s1 4))), (.str (strV (gt s1 5)))], []))) none) none
def seinelaw8_Light_T1 (O : Orc) (LP : LBody → LBody) (s : GSchema) : Option (PV × UP) :=
 bnd (LP (seinelaw8_Light_l2 O LP) [(.ptr 0 1 0), (.int .i64 0), (.int .i64 0), (.slice (List.map encDef s.defs) [] false), (.str s.query), (.str s.mutation)] []) fun y74 =>
 exIs y74.1 (some 0) (cnd (chkL [(.ptr 0 1 0), (.int .i64), (.int .i64), (.sl false), .str, .str] y74.2.1) (cnd (chkU [] y74.2.2)
 (some ((.bool (decide ((intV (gt y74.2.1 1)) ≤ 4000))), [])) none) none)
 (none)
noncomputable def seinelaw8_Light_l1T (y39 : GDef) : (Int × Int) → Option ((Int × Int) ⊕ Int)
 | (n_57, k_58) =>
 cnd (decide (k_58 < (List.length y39.fields : Int)))
  (bnd (nthI y39.fields k_58) fun y60 =>
  bnd (nthI y39.fields k_58) fun y62 =>
  bnd (seinelaw8_lightParams y62.params) fun y64 =>
  bnd (nthI y39.fields k_58) fun y66 =>
  bnd (seinelaw8_lightDirs y66.dirs) fun y68 =>
  some (.inl ((IntKind.wrap .i64 ((IntKind.wrap .i64 ((IntKind.wrap .i64 ((IntKind.wrap .i64 (n_57 + 1)) + (List.length y60.name : Int))) + y64)) + y68)), (IntKind.wrap .i64 (k_58 + 1)))))
  (some (.inr n_57))
abbrev seinelaw8_Light_l1R (s : GSchema) (i_37 : Int) (y39 : GDef) (st : Int × Int) (l : List PV) (u : UP) : Prop := l = [(.ptr 0 1 0), (.int .i64 st.1), (.int .i64 i_37), (.ptr 0 5 0), (.int .i64 st.2), (.int .i64 y39.kind), (.str y39.name), (.slice (List.map PV.str y39.faces) [] false), (.slice (List.map encFieldDef y39.fields) [] false), (.slice (List.map PV.str y39.parts) [] false), (.slice (List.map encParam y39.params) [] false), (.slice (List.map encDef s.defs) [] false), (.str s.query), (.str s.mutation)] ∧ u = []
abbrev seinelaw8_Light_l1X (s : GSchema) (i_37 : Int) (y39 : GDef) (p : Int) (r : Ex × List PV × UP) : Prop := (fun (p : Int) => ∃ (k_70 : Int), r = (Ex.brk 2, [(.ptr 0 1 0), (.int .i64 p), (.int .i64 i_37), (.ptr 0 5 0), (.int .i64 k_70), (.int .i64 y39.kind), (.str y39.name), (.slice (List.map PV.str y39.faces) [] false), (.slice (List.map encFieldDef y39.fields) [] false), (.slice (List.map PV.str y39.parts) [] false), (.slice (List.map encParam y39.params) [] false), (.slice (List.map encDef s.defs) [] false), (.str s.query), (.str s.mutation)], [])) p
noncomputable def seinelaw8_Light_l2T (s : GSchema) : (Int × Int) → Option ((Int × Int) ⊕ Int)
 | (n_36, i_37) =>
 cnd (decide (i_37 < (List.length s.defs : Int)))
  (bnd (nthI s.defs i_37) fun y39 =>
  bnd (seinelaw8_lightTexts y39.faces) fun y41 =>
  bnd (seinelaw8_lightTexts y39.parts) fun y43 =>
  bnd (seinelaw8_lightParams y39.params) fun y45 =>
  bnd (tloop (seinelaw8_Light_l1T y39) ((IntKind.wrap .i64 ((IntKind.wrap .i64 ((IntKind.wrap .i64 ((IntKind.wrap .i64 ((IntKind.wrap .i64 (n_36 + 1)) + (List.length y39.name : Int))) + y41)) + y43)) + y45)), 0)) fun n_69 =>
  some (.inl (n_69, (IntKind.wrap .i64 (i_37 + 1)))))
  (some (.inr n_36))
abbrev seinelaw8_Light_l2R (s : GSchema) (st : Int × Int) (l : List PV) (u : UP) : Prop := l = [(.ptr 0 1 0), (.int .i64 st.1), (.int .i64 st.2), (.slice (List.map encDef s.defs) [] false), (.str s.query), (.str s.mutation)] ∧ u = []
abbrev seinelaw8_Light_l2X (s : GSchema) (p : Int) (r : Ex × List PV × UP) : Prop := (fun (p : Int) => ∃ (i_73 : Int), r = (Ex.brk 0, [(.ptr 0 1 0), (.int .i64 p), (.int .i64 i_73), (.slice (List.map encDef s.defs) [] false), (.str s.query), (.str s.mutation)], [])) p
noncomputable def seinelaw8_Light_B (s : GSchema) : Option Bool :=
 bnd (tloop (seinelaw8_Light_l2T s) (0, 0)) fun n_72 =>
 some (decide (n_72 ≤ 4000))
def seinelaw8_Light_ds : Decs := { decs := [(17, (.ref shDef)), (27, (.int .i64)), (31, (.int .i64)), (35, (.int .i64)), (49, (.ref shFieldDef)), (57, (.ref shFieldDef)), (60, (.int .i64)), (65, (.ref shFieldDef)), (68, (.int .i64))], ups := [], loops := [(3, [(1, 3)], ⟨[(.ptr 0 1 0), (.int .i64), (.int .i64), (.sl false), .str, .str], [], [(some 0, [(.ptr 0 1 0), (.int .i64), (.int .i64), (.sl false), .str, .str], [])]⟩), (8, [(5, 6), (1, 3)], ⟨[(.ptr 0 1 0), (.int .i64), (.int .i64), (.ptr 0 5 0), (.int .i64), (.int .i64), .str, (.sl false), (.sl false), (.sl false), (.sl false), (.sl false), .str, .str], [], [(some 2, [(.ptr 0 1 0), (.int .i64), (.int .i64), (.ptr 0 5 0), (.int .i64), (.int .i64), .str, (.sl false), (.sl false), (.sl false), (.sl false), (.sl false), .str, .str], [])]⟩)] }
set_option maxRecDepth 100000 in
theorem seinelaw8_Light_t1 (O : Orc) (LP : LBody → LBody) (s : GSchema) : evalBodyD Try.prog (MT 27) seinelaw8_Light_ds Try.f27.ntmps O LP Try.f27 [(.agg [(.slice (List.map encDef s.defs) [] false), (.str s.query), (.str s.mutation)])] [] = seinelaw8_Light_T1 O LP s := by kernel_rfl
theorem seinelaw8_Light_l1_ok (s : GSchema) (i_37 : Int) (y39 : GDef) : ∀ st l u, seinelaw8_Light_l1R s i_37 y39 st l u → Imp (seinelaw8_Light_l1T y39 st) (seinelaw8_Light_l1 O loopLim l u) (StepR (seinelaw8_Light_l1R s i_37 y39) (seinelaw8_Light_l1X s i_37 y39)) := by
 rintro ⟨n_57, k_58⟩ l u ⟨rfl, rfl⟩
 simp only [seinelaw8_Light_l1T, seinelaw8_Light_l1]
 refine Imp.chk rfl (Imp.chk rfl ?_)
 try simp only [evs, tys]
 refine Imp.cnd ?_ ?_
 ·refine Imp.op (f := fun a => .ref (encFieldDef a)) (fun a h => op_ix (enc := encFieldDef) (by first | rfl | simp only [evs, tys, evl]) ⟨by first | rfl | simp only [evs, tys, evc], by decide⟩ h) (fun a => chk_GFieldDef a) fun y60 hy60 => ?_
  try simp only [evs, tys]
  refine Imp.op (f := fun a => .ref (encFieldDef a)) (fun a h => op_ix (enc := encFieldDef) (by first | rfl | simp only [evs, tys, evl]) ⟨by first | rfl | simp only [evs, tys, evc], by decide⟩ h) (fun a => chk_GFieldDef a) fun y62 hy62 => ?_
  try simp only [evs, tys]
  refine Imp.call (f := seinelaw8_lightParamsE) rfl (fun a h => by first | exact seinelaw8_lightParams_spec h | simpa only [evs, tys, evl] using seinelaw8_lightParams_spec h) (fun a => by first | rfl | simp only [seinelaw8_lightParamsE, evk, chks]) fun y64 hy64 => ?_
  try simp only [seinelaw8_lightParamsE, evs, tys]
  refine Imp.op (f := fun a => .ref (encFieldDef a)) (fun a h => op_ix (enc := encFieldDef) (by first | rfl | simp only [evs, tys, evl]) ⟨by first | rfl | simp only [evs, tys, evc], by decide⟩ h) (fun a => chk_GFieldDef a) fun y66 hy66 => ?_
  try simp only [evs, tys]
  refine Imp.call (f := seinelaw8_lightDirsE) rfl (fun a h => by first | exact seinelaw8_lightDirs_spec h | simpa only [evs, tys, evl] using seinelaw8_lightDirs_spec h) (fun a => by first | rfl | simp only [seinelaw8_lightDirsE, evk, chks]) fun y68 hy68 => ?_
  try simp only [seinelaw8_lightDirsE, evs, tys]
  exact Imp.some (StepR.next ⟨by first | rfl | simp only [evs, tys, evl], rfl⟩)
 ·exact Imp.some (StepR.brk ⟨k_58, by first | rfl | simp only [evs, tys, evl, elim_inl, elim_inr]⟩)
theorem seinelaw8_Light_l2_ok (s : GSchema) : ∀ st l u, seinelaw8_Light_l2R s st l u → Imp (seinelaw8_Light_l2T s st) (seinelaw8_Light_l2 O loopLim l u) (StepR (seinelaw8_Light_l2R s) (seinelaw8_Light_l2X s)) := by
 rintro ⟨n_36, i_37⟩ l u ⟨rfl, rfl⟩
 simp only [seinelaw8_Light_l2T, seinelaw8_Light_l2]
 refine Imp.chk rfl (Imp.chk rfl ?_)
 try simp only [evs, tys]
 refine Imp.cnd ?_ ?_
 ·refine Imp.op (f := fun a => .ref (encDef a)) (fun a h => op_ix (enc := encDef) (by first | rfl | simp only [evs, tys, evl]) ⟨by first | rfl | simp only [evs, tys, evc], by decide⟩ h) (fun a => chk_GDef a) fun y39 hy39 => ?_
  try simp only [evs, tys]
  refine Imp.call (f := seinelaw8_lightTextsE) rfl (fun a h => by first | exact seinelaw8_lightTexts_spec h | simpa only [evs, tys, evl] using seinelaw8_lightTexts_spec h) (fun a => by first | rfl | simp only [seinelaw8_lightTextsE, evk, chks]) fun y41 hy41 => ?_
  try simp only [seinelaw8_lightTextsE, evs, tys]
  refine Imp.call (f := seinelaw8_lightTextsE) rfl (fun a h => by first | exact seinelaw8_lightTexts_spec h | simpa only [evs, tys, evl] using seinelaw8_lightTexts_spec h) (fun a => by first | rfl | simp only [seinelaw8_lightTextsE, evk, chks]) fun y43 hy43 => ?_
  try simp only [seinelaw8_lightTextsE, evs, tys]
  refine Imp.call (f := seinelaw8_lightParamsE) rfl (fun a h => by first | exact seinelaw8_lightParams_spec h | simpa only [evs, tys, evl] using seinelaw8_lightParams_spec h) (fun a => by first | rfl | simp only [seinelaw8_lightParamsE, evk, chks]) fun y45 hy45 => ?_
  try simp only [seinelaw8_lightParamsE, evs, tys]
  refine Imp.bnd (Imp.loop (seinelaw8_Light_l1_ok s i_37 y39) ⟨by first | rfl | simp only [evs, tys, evl], rfl⟩) ?_
  rintro n_69 vy71 hy71
  obtain ⟨k_70, rfl⟩ := hy71
  refine Imp.exHit rfl (Imp.chk rfl (Imp.chk rfl ?_))
  try simp only [evs, tys]
  exact Imp.some (StepR.next ⟨by first | rfl | simp only [evs, tys, evl], rfl⟩)
 ·exact Imp.some (StepR.brk ⟨i_37, by first | rfl | simp only [evs, tys, evl, elim_inl, elim_inr]⟩)
theorem seinelaw8_Light_imp (s : GSchema) : Imp (seinelaw8_Light_B s) (seinelaw8_Light_T1 O loopLim s) (fun r v => v = (seinelaw8_LightE r, [])) := by
 simp only [seinelaw8_Light_B, seinelaw8_Light_T1]
 try simp only [evs, tys]
 refine Imp.bnd (Imp.loop (seinelaw8_Light_l2_ok s) ⟨by first | rfl | simp only [evs, tys, evl], rfl⟩) ?_
 rintro n_72 vy74 hy74
 obtain ⟨i_73, rfl⟩ := hy74
 refine Imp.exHit rfl (Imp.chk rfl (Imp.chk rfl ?_))
 try simp only [evs, tys]
 exact Imp.some (by first | rfl | simp only [seinelaw8_LightE, evs, tys, evl])
theorem seinelaw8_Light_run {s : GSchema} {r : Bool} (h : seinelaw8_Light_B s = some r) : seinelaw8_Light s = some r := by
 obtain ⟨v, hv, rfl⟩ := seinelaw8_Light_imp s r h
 exact tO_of (pair_inj seinelaw8_LightEj) (OL_runD seinelaw8_Light_ds rfl rfl Try.func27 ((seinelaw8_Light_t1 _ _ s).trans hv))
def seinelaw7_Light_l1 (O : Orc) (LP : LBody → LBody) : LBody := fun s54 s54u => cnd (chkL [(.ptr 0 1 0), (.int .i64), (.int .i64), (.int .i64), (.sl false), (.sl false)] s54) (cnd (chkU [] s54u)
 (bnd (ix 5 (.slice (esV (gt s54 4)) [] false) (.int .i64 (intV (gt s54 2)))) fun x69 => cnd (chk (.ref shOp) x69)
 (cnd (decide ((intV (gt s54 3)) < (List.length (esV (gt (aggV (refV x69)) 2)) : Int)))
 (bnd (ix 5 (.slice (esV (gt s54 4)) [] false) (.int .i64 (intV (gt s54 2)))) fun x71 => cnd (chk (.ref shOp) x71)
 (bnd (ix 10 (.slice (esV (gt (aggV (refV x71)) 2)) [] false) (.int .i64 (intV (gt s54 3)))) fun x73 => cnd (chk (.ref shVarDef) x73)
 (callp O 12 [(.agg [(.int .i64 (intV (gt (aggV (refV x73)) 5))), (.int .i64 (intV (gt (aggV (refV x73)) 6))), (.str (strV (gt (aggV (refV x73)) 7))), (.slice (esV (gt (aggV (refV x73)) 8)) [] false), (.slice (esV (gt (aggV (refV x73)) 9)) [] false)])] fun x75 => cnd (chk (.int .i64) x75)
 (bnd (ix 5 (.slice (esV (gt s54 4)) [] false) (.int .i64 (intV (gt s54 2)))) fun x77 => cnd (chk (.ref shOp) x77)
 (bnd (ix 10 (.slice (esV (gt (aggV (refV x77)) 2)) [] false) (.int .i64 (intV (gt s54 3)))) fun x79 => cnd (chk (.ref shVarDef) x79)
 (some (.nrm, [(.ptr 0 1 0), (.int .i64 (IntKind.wrap .i64 ((IntKind.wrap .i64 ((IntKind.wrap .i64 ((intV (gt s54 1)) + 1)) + (intV x75))) + (List.length (strV (gt (aggV (refV x79)) 0)) : Int)))), (.int .i64 (intV (gt s54 2))), (.int .i64 (IntKind.wrap .i64 ((intV (gt s54 3)) + 1))), (.slice (esV (gt s54 4)) [] false), (.slice (esV (gt s54 5)) [] false)], [])) none) none) none) none) none)
 (some (.brk 2, [(.ptr 0 1 0), (.int .i64 (intV (gt s54 1))), (.int .i64 (intV (gt s54 2))), (.int .i64 (intV (gt s54 3))), (.slice (esV (gt s54 4)) [] false), (.slice (esV (gt s54 5)) [] false)], []))) none) none) none
def seinelaw7_Light_l2 (O : Orc) (LP : LBody → LBody) : LBody := fun s1 s1u => cnd (chkL [(.ptr 0 1 0), (.int .i64), (.int .i64), (.sl false), (.sl false)] s1) (cnd (chkU [] s1u)
 (cnd (decide ((intV (gt s1 2)) < (List.length (esV (gt s1 3)) : Int)))
 (bnd (ix 5 (.slice (esV (gt s1 3)) [] false) (.int .i64 (intV (gt s1 2)))) fun x44 => cnd (chk (.ref shOp) x44)
 (callp O 53 [(.slice (esV (gt (aggV (refV x44)) 3)) [] false)] fun x46 => cnd (chk (.int .i64) x46)
 (bnd (ix 5 (.slice (esV (gt s1 3)) [] false) (.int .i64 (intV (gt s1 2)))) fun x48 => cnd (chk (.ref shOp) x48)
 (callp O 54 [(.slice (esV (gt (aggV (refV x48)) 4)) [] false)] fun x50 => cnd (chk (.int .i64) x50)
 (bnd (ix 5 (.slice (esV (gt s1 3)) [] false) (.int .i64 (intV (gt s1 2)))) fun x52 => cnd (chk (.ref shOp) x52)
 (bnd (LP (seinelaw7_Light_l1 O LP) [(.ptr 0 1 0), (.int .i64 (IntKind.wrap .i64 ((IntKind.wrap .i64 ((IntKind.wrap .i64 ((IntKind.wrap .i64 ((intV (gt s1 1)) + 1)) + (intV x46))) + (intV x50))) + (List.length (strV (gt (aggV (refV x52)) 1)) : Int)))), (.int .i64 (intV (gt s1 2))), (.int .i64 0), (.slice (esV (gt s1 3)) [] false), (.slice (esV (gt s1 4)) [] false)] []) fun y83 =>
 exIs y83.1 (some 2) (cnd (chkL [(.ptr 0 1 0), (.int .i64), (.int .i64), (.int .i64), (.sl false), (.sl false)] y83.2.1) (cnd (chkU [] y83.2.2)
 (some (.nrm, [(.ptr 0 1 0), (.int .i64 (intV (gt y83.2.1 1))), (.int .i64 (IntKind.wrap .i64 ((intV (gt y83.2.1 2)) + 1))), (.slice (esV (gt y83.2.1 4)) [] false), (.slice (esV (gt y83.2.1 5)) [] false)], [])) none) none)
 (none)) none) none) none) none) none)
 (some (.brk 0, [(.ptr 0 1 0), (.int .i64 (intV (gt s1 1))), (.int .i64 (intV (gt s1 2))), (.slice (esV (gt s1 3)) [] false), (.slice (esV (gt s1 4)) [] false)], []))) none) none
def seinelaw7_Light_l3 (O : Orc) (LP : LBody → LBody) : LBody := fun s87 s87u => cnd (chkL [(.ptr 0 1 0), (.int .i64), (.int .i64), (.sl false), (.sl false)] s87) (cnd (chkU [] s87u)
 (cnd (decide ((intV (gt s87 2)) < (List.length (esV (gt s87 4)) : Int)))
 (bnd (ix 4 (.slice (esV (gt s87 4)) [] false) (.int .i64 (intV (gt s87 2)))) fun x100 => cnd (chk (.ref shFrag) x100)
 (callp O 53 [(.slice (esV (gt (aggV (refV x100)) 2)) [] false)] fun x102 => cnd (chk (.int .i64) x102)
 (bnd (ix 4 (.slice (esV (gt s87 4)) [] false) (.int .i64 (intV (gt s87 2)))) fun x104 => cnd (chk (.ref shFrag) x104)
 (callp O 54 [(.slice (esV (gt (aggV (refV x104)) 3)) [] false)] fun x106 => cnd (chk (.int .i64) x106)
 (bnd (ix 4 (.slice (esV (gt s87 4)) [] false) (.int .i64 (intV (gt s87 2)))) fun x108 => cnd (chk (.ref shFrag) x108)
 (some (.nrm, [(.ptr 0 1 0), (.int .i64 (IntKind.wrap .i64 ((IntKind.wrap .i64 ((IntKind.wrap .i64 ((IntKind.wrap .i64 ((intV (gt s87 1)) + 1)) + (intV x102))) + (intV x106))) + (List.length (strV (gt (aggV (refV x108)) 0)) : Int)))), (.int .i64 (IntKind.wrap .i64 ((intV (gt s87 2)) + 1))), (.slice (esV (gt s87 3)) [] false), (.slice (esV (gt s87 4)) [] false)], [])) none) none) none) none) none)
 (some (.brk 4, [(.ptr 0 1 0), (.int .i64 (intV (gt s87 1))), (.int .i64 (intV (gt s87 2))), (.slice (esV (gt s87 3)) [] false), (.slice (esV (gt s87 4)) [] false)], []))) none) none
def seinelaw7_Light_T1 (O : Orc) (LP : LBody → LBody) (d : GDoc) : Option (PV × UP) :=
 bnd (LP (seinelaw7_Light_l2 O LP) [(.ptr 0 1 0), (.int .i64 0), (.int .i64 0), (.slice (List.map encOp d.ops) [] false), (.slice (List.map encFrag d.frags) [] false)] []) fun y86 =>
 exIs y86.1 (some 0) (cnd (chkL [(.ptr 0 1 0), (.int .i64), (.int .i64), (.sl false), (.sl false)] y86.2.1) (cnd (chkU [] y86.2.2)
 (bnd (LP (seinelaw7_Light_l3 O LP) [(.ptr 0 1 0), (.int .i64 (intV (gt y86.2.1 1))), (.int .i64 0), (.slice (esV (gt y86.2.1 3)) [] false), (.slice (esV (gt y86.2.1 4)) [] false)] []) fun y112 =>
 exIs y112.1 (some 4) (cnd (chkL [(.ptr 0 1 0), (.int .i64), (.int .i64), (.sl false), (.sl false)] y112.2.1) (cnd (chkU [] y112.2.2)
 (some ((.bool (decide ((intV (gt y112.2.1 1)) ≤ 3200))), [])) none) none)
 (none)) none) none)
 (none)
noncomputable def seinelaw7_Light_l1T (d : GDoc) (i_43 : Int) : (Int × Int) → Option ((Int × Int) ⊕ Int)
 | (n_67, k_68) =>
 bnd (nthI d.ops i_43) fun y70 =>
 cnd (decide (k_68 < (List.length y70.vars : Int)))
  (bnd (nthI d.ops i_43) fun y72 =>
  bnd (nthI y72.vars k_68) fun y74 =>
  bnd (seinekeep_Size y74.default) fun y76 =>
  bnd (nthI d.ops i_43) fun y78 =>
  bnd (nthI y78.vars k_68) fun y80 =>
  some (.inl ((IntKind.wrap .i64 ((IntKind.wrap .i64 ((IntKind.wrap .i64 (n_67 + 1)) + y76)) + (List.length y80.name : Int))), (IntKind.wrap .i64 (k_68 + 1)))))
  (some (.inr n_67))
abbrev seinelaw7_Light_l1R (d : GDoc) (i_43 : Int) (st : Int × Int) (l : List PV) (u : UP) : Prop := l = [(.ptr 0 1 0), (.int .i64 st.1), (.int .i64 i_43), (.int .i64 st.2), (.slice (List.map encOp d.ops) [] false), (.slice (List.map encFrag d.frags) [] false)] ∧ u = []
abbrev seinelaw7_Light_l1X (d : GDoc) (i_43 : Int) (p : Int) (r : Ex × List PV × UP) : Prop := (fun (p : Int) => ∃ (k_82 : Int), r = (Ex.brk 2, [(.ptr 0 1 0), (.int .i64 p), (.int .i64 i_43), (.int .i64 k_82), (.slice (List.map encOp d.ops) [] false), (.slice (List.map encFrag d.frags) [] false)], [])) p
noncomputable def seinelaw7_Light_l2T (d : GDoc) : (Int × Int) → Option ((Int × Int) ⊕ Int)
 | (n_42, i_43) =>
 cnd (decide (i_43 < (List.length d.ops : Int)))
  (bnd (nthI d.ops i_43) fun y45 =>
  bnd (seinelaw7_lightDirs y45.dirs) fun y47 =>
  bnd (nthI d.ops i_43) fun y49 =>
  bnd (seinelaw7_lightSels y49.sels) fun y51 =>
  bnd (nthI d.ops i_43) fun y53 =>
  bnd (tloop (seinelaw7_Light_l1T d i_43) ((IntKind.wrap .i64 ((IntKind.wrap .i64 ((IntKind.wrap .i64 ((IntKind.wrap .i64 (n_42 + 1)) + y47)) + y51)) + (List.length y53.name : Int))), 0)) fun n_81 =>
  some (.inl (n_81, (IntKind.wrap .i64 (i_43 + 1)))))
  (some (.inr n_42))
abbrev seinelaw7_Light_l2R (d : GDoc) (st : Int × Int) (l : List PV) (u : UP) : Prop := l = [(.ptr 0 1 0), (.int .i64 st.1), (.int .i64 st.2), (.slice (List.map encOp d.ops) [] false), (.slice (List.map encFrag d.frags) [] false)] ∧ u = []
abbrev seinelaw7_Light_l2X (d : GDoc) (p : Int) (r : Ex × List PV × UP) : Prop := (fun (p : Int) => ∃ (i_85 : Int), r = (Ex.brk 0, [(.ptr 0 1 0), (.int .i64 p), (.int .i64 i_85), (.slice (List.map encOp d.ops) [] false), (.slice (List.map encFrag d.frags) [] false)], [])) p
noncomputable def seinelaw7_Light_l3T (d : GDoc) : (Int × Int) → Option ((Int × Int) ⊕ Int)
 | (n_98, i_99) =>
 cnd (decide (i_99 < (List.length d.frags : Int)))
  (bnd (nthI d.frags i_99) fun y101 =>
  bnd (seinelaw7_lightDirs y101.dirs) fun y103 =>
  bnd (nthI d.frags i_99) fun y105 =>
  bnd (seinelaw7_lightSels y105.sels) fun y107 =>
  bnd (nthI d.frags i_99) fun y109 =>
  some (.inl ((IntKind.wrap .i64 ((IntKind.wrap .i64 ((IntKind.wrap .i64 ((IntKind.wrap .i64 (n_98 + 1)) + y103)) + y107)) + (List.length y109.name : Int))), (IntKind.wrap .i64 (i_99 + 1)))))
  (some (.inr n_98))
abbrev seinelaw7_Light_l3R (d : GDoc) (st : Int × Int) (l : List PV) (u : UP) : Prop := l = [(.ptr 0 1 0), (.int .i64 st.1), (.int .i64 st.2), (.slice (List.map encOp d.ops) [] false), (.slice (List.map encFrag d.frags) [] false)] ∧ u = []
abbrev seinelaw7_Light_l3X (d : GDoc) (p : Int) (r : Ex × List PV × UP) : Prop := (fun (p : Int) => ∃ (i_111 : Int), r = (Ex.brk 4, [(.ptr 0 1 0), (.int .i64 p), (.int .i64 i_111), (.slice (List.map encOp d.ops) [] false), (.slice (List.map encFrag d.frags) [] false)], [])) p
noncomputable def seinelaw7_Light_B (d : GDoc) : Option Bool :=
 bnd (tloop (seinelaw7_Light_l2T d) (0, 0)) fun n_84 =>
 bnd (tloop (seinelaw7_Light_l3T d) (n_84, 0)) fun n_110 =>
 some (decide (n_110 ≤ 3200))
def seinelaw7_Light_ds : Decs := { decs := [(19, (.ref shOp)), (22, (.int .i64)), (27, (.ref shOp)), (30, (.int .i64)), (35, (.ref shOp)), (44, (.ref shOp)), (56, (.ref shOp)), (60, (.ref shVarDef)), (63, (.int .i64)), (68, (.ref shOp)), (72, (.ref shVarDef)), (89, (.ref shFrag)), (92, (.int .i64)), (97, (.ref shFrag)), (100, (.int .i64)), (105, (.ref shFrag))], ups := [], loops := [(3, [(1, 2)], ⟨[(.ptr 0 1 0), (.int .i64), (.int .i64), (.sl false), (.sl false)], [], [(some 0, [(.ptr 0 1 0), (.int .i64), (.int .i64), (.sl false), (.sl false)], [])]⟩), (7, [(1, 2)], ⟨[(.ptr 0 1 0), (.int .i64), (.int .i64), (.int .i64), (.sl false), (.sl false)], [], [(some 2, [(.ptr 0 1 0), (.int .i64), (.int .i64), (.int .i64), (.sl false), (.sl false)], [])]⟩), (11, [(1, 2)], ⟨[(.ptr 0 1 0), (.int .i64), (.int .i64), (.sl false), (.sl false)], [], [(some 4, [(.ptr 0 1 0), (.int .i64), (.int .i64), (.sl false), (.sl false)], [])]⟩)] }
set_option maxRecDepth 100000 in
theorem seinelaw7_Light_t1 (O : Orc) (LP : LBody → LBody) (d : GDoc) : evalBodyD Try.prog (MT 28) seinelaw7_Light_ds Try.f28.ntmps O LP Try.f28 [(.agg [(.slice (List.map encOp d.ops) [] false), (.slice (List.map encFrag d.frags) [] false)])] [] = seinelaw7_Light_T1 O LP d := by kernel_rfl
theorem seinelaw7_Light_l1_ok (d : GDoc) (i_43 : Int) : ∀ st l u, seinelaw7_Light_l1R d i_43 st l u → Imp (seinelaw7_Light_l1T d i_43 st) (seinelaw7_Light_l1 O loopLim l u) (StepR (seinelaw7_Light_l1R d i_43) (seinelaw7_Light_l1X d i_43)) := by
 rintro ⟨n_67, k_68⟩ l u ⟨rfl, rfl⟩
 simp only [seinelaw7_Light_l1T, seinelaw7_Light_l1]
 refine Imp.chk rfl (Imp.chk rfl ?_)
 try simp only [evs, tys]
 refine Imp.op (f := fun a => .ref (encOp a)) (fun a h => op_ix (enc := encOp) (by first | rfl | simp only [evs, tys, evl]) ⟨by first | rfl | simp only [evs, tys, evc], by decide⟩ h) (fun a => chk_GOp a) fun y70 hy70 => ?_
 try simp only [evs, tys]
 refine Imp.cnd ?_ ?_
 ·refine Imp.op (f := fun a => .ref (encOp a)) (fun a h => op_ix (enc := encOp) (by first | rfl | simp only [evs, tys, evl]) ⟨by first | rfl | simp only [evs, tys, evc], by decide⟩ h) (fun a => chk_GOp a) fun y72 hy72 => ?_
  try simp only [evs, tys]
  refine Imp.op (f := fun a => .ref (encVarDef a)) (fun a h => op_ix (enc := encVarDef) (by first | rfl | simp only [evs, tys, evl]) ⟨by first | rfl | simp only [evs, tys, evc], by decide⟩ h) (fun a => chk_GVarDef a) fun y74 hy74 => ?_
  try simp only [evs, tys]
  refine Imp.call (f := seinekeep_SizeE) rfl (fun a h => by first | exact seinekeep_Size_spec h | simpa only [evs, tys, evl] using seinekeep_Size_spec h) (fun a => by first | rfl | simp only [seinekeep_SizeE, evk, chks]) fun y76 hy76 => ?_
  try simp only [seinekeep_SizeE, evs, tys]
  refine Imp.op (f := fun a => .ref (encOp a)) (fun a h => op_ix (enc := encOp) (by first | rfl | simp only [evs, tys, evl]) ⟨by first | rfl | simp only [evs, tys, evc], by decide⟩ h) (fun a => chk_GOp a) fun y78 hy78 => ?_
  try simp only [evs, tys]
  refine Imp.op (f := fun a => .ref (encVarDef a)) (fun a h => op_ix (enc := encVarDef) (by first | rfl | simp only [evs, tys, evl]) ⟨by first | rfl | simp only [evs, tys, evc], by decide⟩ h) (fun a => chk_GVarDef a) fun y80 hy80 => ?_
  try simp only [evs, tys]
  exact Imp.some (StepR.next ⟨by first | rfl | simp only [evs, tys, evl], rfl⟩)
 ·exact Imp.some (StepR.brk ⟨k_68, by first | rfl | simp only [evs, tys, evl, elim_inl, elim_inr]⟩)
theorem seinelaw7_Light_l2_ok (d : GDoc) : ∀ st l u, seinelaw7_Light_l2R d st l u → Imp (seinelaw7_Light_l2T d st) (seinelaw7_Light_l2 O loopLim l u) (StepR (seinelaw7_Light_l2R d) (seinelaw7_Light_l2X d)) := by
 rintro ⟨n_42, i_43⟩ l u ⟨rfl, rfl⟩
 simp only [seinelaw7_Light_l2T, seinelaw7_Light_l2]
 refine Imp.chk rfl (Imp.chk rfl ?_)
 try simp only [evs, tys]
 refine Imp.cnd ?_ ?_
 ·refine Imp.op (f := fun a => .ref (encOp a)) (fun a h => op_ix (enc := encOp) (by first | rfl | simp only [evs, tys, evl]) ⟨by first | rfl | simp only [evs, tys, evc], by decide⟩ h) (fun a => chk_GOp a) fun y45 hy45 => ?_
  try simp only [evs, tys]
  refine Imp.call (f := seinelaw7_lightDirsE) rfl (fun a h => by first | exact seinelaw7_lightDirs_spec h | simpa only [evs, tys, evl] using seinelaw7_lightDirs_spec h) (fun a => by first | rfl | simp only [seinelaw7_lightDirsE, evk, chks]) fun y47 hy47 => ?_
  try simp only [seinelaw7_lightDirsE, evs, tys]
  refine Imp.op (f := fun a => .ref (encOp a)) (fun a h => op_ix (enc := encOp) (by first | rfl | simp only [evs, tys, evl]) ⟨by first | rfl | simp only [evs, tys, evc], by decide⟩ h) (fun a => chk_GOp a) fun y49 hy49 => ?_
  try simp only [evs, tys]
  refine Imp.call (f := seinelaw7_lightSelsE) rfl (fun a h => by first | exact seinelaw7_lightSels_spec h | simpa only [evs, tys, evl] using seinelaw7_lightSels_spec h) (fun a => by first | rfl | simp only [seinelaw7_lightSelsE, evk, chks]) fun y51 hy51 => ?_
  try simp only [seinelaw7_lightSelsE, evs, tys]
  refine Imp.op (f := fun a => .ref (encOp a)) (fun a h => op_ix (enc := encOp) (by first | rfl | simp only [evs, tys, evl]) ⟨by first | rfl | simp only [evs, tys, evc], by decide⟩ h) (fun a => chk_GOp a) fun y53 hy53 => ?_
  try simp only [evs, tys]
  refine Imp.bnd (Imp.loop (seinelaw7_Light_l1_ok d i_43) ⟨by first | rfl | simp only [evs, tys, evl], rfl⟩) ?_
  rintro n_81 vy83 hy83
  obtain ⟨k_82, rfl⟩ := hy83
  refine Imp.exHit rfl (Imp.chk rfl (Imp.chk rfl ?_))
  try simp only [evs, tys]
  exact Imp.some (StepR.next ⟨by first | rfl | simp only [evs, tys, evl], rfl⟩)
 ·exact Imp.some (StepR.brk ⟨i_43, by first | rfl | simp only [evs, tys, evl, elim_inl, elim_inr]⟩)
theorem seinelaw7_Light_l3_ok (d : GDoc) : ∀ st l u, seinelaw7_Light_l3R d st l u → Imp (seinelaw7_Light_l3T d st) (seinelaw7_Light_l3 O loopLim l u) (StepR (seinelaw7_Light_l3R d) (seinelaw7_Light_l3X d)) := by
 rintro ⟨n_98, i_99⟩ l u ⟨rfl, rfl⟩
 simp only [seinelaw7_Light_l3T, seinelaw7_Light_l3]
 refine Imp.chk rfl (Imp.chk rfl ?_)
 try simp only [evs, tys]
 refine Imp.cnd ?_ ?_
 ·refine Imp.op (f := fun a => .ref (encFrag a)) (fun a h => op_ix (enc := encFrag) (by first | rfl | simp only [evs, tys, evl]) ⟨by first | rfl | simp only [evs, tys, evc], by decide⟩ h) (fun a => chk_GFrag a) fun y101 hy101 => ?_
  try simp only [evs, tys]
  refine Imp.call (f := seinelaw7_lightDirsE) rfl (fun a h => by first | exact seinelaw7_lightDirs_spec h | simpa only [evs, tys, evl] using seinelaw7_lightDirs_spec h) (fun a => by first | rfl | simp only [seinelaw7_lightDirsE, evk, chks]) fun y103 hy103 => ?_
  try simp only [seinelaw7_lightDirsE, evs, tys]
  refine Imp.op (f := fun a => .ref (encFrag a)) (fun a h => op_ix (enc := encFrag) (by first | rfl | simp only [evs, tys, evl]) ⟨by first | rfl | simp only [evs, tys, evc], by decide⟩ h) (fun a => chk_GFrag a) fun y105 hy105 => ?_
  try simp only [evs, tys]
  refine Imp.call (f := seinelaw7_lightSelsE) rfl (fun a h => by first | exact seinelaw7_lightSels_spec h | simpa only [evs, tys, evl] using seinelaw7_lightSels_spec h) (fun a => by first | rfl | simp only [seinelaw7_lightSelsE, evk, chks]) fun y107 hy107 => ?_
  try simp only [seinelaw7_lightSelsE, evs, tys]
  refine Imp.op (f := fun a => .ref (encFrag a)) (fun a h => op_ix (enc := encFrag) (by first | rfl | simp only [evs, tys, evl]) ⟨by first | rfl | simp only [evs, tys, evc], by decide⟩ h) (fun a => chk_GFrag a) fun y109 hy109 => ?_
  try simp only [evs, tys]
  exact Imp.some (StepR.next ⟨by first | rfl | simp only [evs, tys, evl], rfl⟩)
 ·exact Imp.some (StepR.brk ⟨i_99, by first | rfl | simp only [evs, tys, evl, elim_inl, elim_inr]⟩)
theorem seinelaw7_Light_imp (d : GDoc) : Imp (seinelaw7_Light_B d) (seinelaw7_Light_T1 O loopLim d) (fun r v => v = (seinelaw7_LightE r, [])) := by
 simp only [seinelaw7_Light_B, seinelaw7_Light_T1]
 try simp only [evs, tys]
 refine Imp.bnd (Imp.loop (seinelaw7_Light_l2_ok d) ⟨by first | rfl | simp only [evs, tys, evl], rfl⟩) ?_
 rintro n_84 vy86 hy86
 obtain ⟨i_85, rfl⟩ := hy86
 refine Imp.exHit rfl (Imp.chk rfl (Imp.chk rfl ?_))
 try simp only [evs, tys]
 refine Imp.bnd (Imp.loop (seinelaw7_Light_l3_ok d) ⟨by first | rfl | simp only [evs, tys, evl], rfl⟩) ?_
 rintro n_110 vy112 hy112
 obtain ⟨i_111, rfl⟩ := hy112
 refine Imp.exHit rfl (Imp.chk rfl (Imp.chk rfl ?_))
 try simp only [evs, tys]
 exact Imp.some (by first | rfl | simp only [seinelaw7_LightE, evs, tys, evl])
theorem seinelaw7_Light_run {d : GDoc} {r : Bool} (h : seinelaw7_Light_B d = some r) : seinelaw7_Light d = some r := by
 obtain ⟨v, hv, rfl⟩ := seinelaw7_Light_imp d r h
 exact tO_of (pair_inj seinelaw7_LightEj) (OL_runD seinelaw7_Light_ds rfl rfl Try.func28 ((seinelaw7_Light_t1 _ _ d).trans hv))
def collect_first_1_T1 (O : Orc) (LP : LBody → LBody) (d : GDir) (u0_4 : Str) : Option (PV × UP) :=
 some ((.bool (d.name == u0_4)), [[(4, [(.str u0_4)])]])
noncomputable def collect_first_1_B (d : GDir) (u0_4 : Str) : Option Bool :=
 some (d.name == u0_4)
def collect_first_1_ds : Decs := { decs := [], ups := [], loops := [] }
set_option maxRecDepth 100000 in
theorem collect_first_1_t1 (O : Orc) (LP : LBody → LBody) (d : GDir) (u0_4 : Str) : evalBodyD Try.prog (MT 67) collect_first_1_ds Try.f67.ntmps O LP Try.f67 [(.agg [(.str d.name), (.slice (List.map encMember d.args) [] false)]), (.ptr 1 4 0)] [[(4, [(.str u0_4)])]] = collect_first_1_T1 O LP d u0_4 := by kernel_rfl
theorem collect_first_1_imp (d : GDir) (u0_4 : Str) : Imp (collect_first_1_B d u0_4) (collect_first_1_T1 O loopLim d u0_4) (fun r v => v = (collect_first_1E r, (collect_first_1U d u0_4 r))) := by
 simp only [collect_first_1_B, collect_first_1_T1]
 try simp only [evs, tys]
 exact Imp.some (by first | rfl | simp only [collect_first_1E, collect_first_1U, evs, tys, evl])
theorem collect_first_1_run {d : GDir} {u0_4 : Str} {r : Bool} (h : collect_first_1_B d u0_4 = some r) : collect_first_1 d u0_4 = some r := by
 obtain ⟨v, hv, rfl⟩ := collect_first_1_imp d u0_4 r h
 exact tO_of (fun a b h => collect_first_1Ej a b (Prod.mk.inj h).1) (OL_runD collect_first_1_ds rfl rfl Try.func67 ((collect_first_1_t1 _ _ d u0_4).trans hv))
def slices_IndexFunc_Dir_l1 (O : Orc) (LP : LBody → LBody) : LBody := fun s1 s1u => cnd (chkL [(.sl false), (.func 67 [] [(.ptr 1 4 0)]), (.int .i64), (.int .i64), (.int .i64)] s1) (cnd (chkU [[(4, [.str])]] s1u)
 (cnd (decide ((intV (gt s1 4)) < (intV (gt s1 3))))
 (bnd (ix 2 (.slice (esV (gt s1 0)) [] false) (.int .i64 (intV (gt s1 4)))) fun x7 => cnd (chk (.ref shDir) x7)
 (bnd (O 67 [(.agg [(.str (strV (gt (aggV (refV x7)) 0))), (.slice (esV (gt (aggV (refV x7)) 1)) [] false)]), (.ptr 2 4 0)] [[], [(4, [(.str (strV (gt (boxI (frI s1u 0) 0) 0)))])]]) fun x9 => cnd (chkU [[], [(4, [.str])]] x9.2) (cnd (chk .bool x9.1)
 (cnd (boolV x9.1)
 (some (.ret, [(.slice (esV (gt s1 0)) [] false), (.func (.func 67) [] [(.ptr 1 4 0)]), (.int .i64 (intV (gt s1 4))), (.int .i64 (intV (gt s1 3))), (.int .i64 (intV (gt s1 4)))], [[(4, [(.str (strV (gt (boxI (frI x9.2 1) 0) 0)))])]]))
 (some (.nrm, [(.slice (esV (gt s1 0)) [] false), (.func (.func 67) [] [(.ptr 1 4 0)]), (.int .i64 (intV (gt s1 2))), (.int .i64 (intV (gt s1 3))), (.int .i64 (IntKind.wrap .i64 ((intV (gt s1 4)) + 1)))], [[(4, [(.str (strV (gt (boxI (frI x9.2 1) 0) 0)))])]]))) none) none) none)
 (some (.brk 0, [(.slice (esV (gt s1 0)) [] false), (.func (.func 67) [] [(.ptr 1 4 0)]), (.int .i64 (intV (gt s1 2))), (.int .i64 (intV (gt s1 3))), (.int .i64 (intV (gt s1 4)))], [[(4, [(.str (strV (gt (boxI (frI s1u 0) 0) 0)))])]]))) none) none
def slices_IndexFunc_Dir_T1 (O : Orc) (LP : LBody → LBody) (s : List GDir) (u0_4 : Str) : Option (PV × UP) :=
 bnd (LP (slices_IndexFunc_Dir_l1 O LP) [(.slice (List.map encDir s) [] false), (.func (.func 67) [] [(.ptr 1 4 0)]), (.int .i64 0), (.int .i64 (List.length (List.map encDir s) : Int)), (.int .i64 0)] [[(4, [(.str u0_4)])]]) fun y14 =>
 exIs y14.1 (some 0) (cnd (chkL [(.sl false), (.func 67 [] [(.ptr 1 4 0)]), (.int .i64), (.int .i64), (.int .i64)] y14.2.1) (cnd (chkU [[(4, [.str])]] y14.2.2)
 (some ((.int .i64 (-1)), [[(4, [(.str (strV (gt (boxI (frI y14.2.2 0) 0) 0)))])]])) none) none)
 (exIs y14.1 none (cnd (chkL [(.sl false), (.func 67 [] [(.ptr 1 4 0)]), (.int .i64), (.int .i64), (.int .i64)] y14.2.1) (cnd (chkU [[(4, [.str])]] y14.2.2)
 (some ((.int .i64 (intV (gt y14.2.1 2))), [[(4, [(.str (strV (gt (boxI (frI y14.2.2 0) 0) 0)))])]])) none) none)
 (none))
noncomputable def slices_IndexFunc_Dir_l1T (s : List GDir) (u0_4 : Str) : Int → Option (Int ⊕ (Unit ⊕ Int))
 | t_6 =>
 cnd (decide (t_6 < (List.length s : Int)))
  (bnd (nthI s t_6) fun y8 =>
  bnd (collect_first_1 y8 u0_4) fun y10 =>
  cnd y10
  (some (.inr (.inr t_6)))
  (some (.inl (IntKind.wrap .i64 (t_6 + 1)))))
  (some (.inr (.inl ())))
abbrev slices_IndexFunc_Dir_l1R (s : List GDir) (u0_4 : Str) (st : Int) (l : List PV) (u : UP) : Prop := l = [(.slice (List.map encDir s) [] false), (.func (.func 67) [] [(.ptr 1 4 0)]), (.int .i64 0), (.int .i64 (List.length s : Int)), (.int .i64 st)] ∧ u = [[(4, [(.str u0_4)])]]
abbrev slices_IndexFunc_Dir_l1X (s : List GDir) (u0_4 : Str) (p : Unit ⊕ Int) (r : Ex × List PV × UP) : Prop := elim p (fun (p : Unit) => ∃ (t_11 : Int), r = (Ex.brk 0, [(.slice (List.map encDir s) [] false), (.func (.func 67) [] [(.ptr 1 4 0)]), (.int .i64 0), (.int .i64 (List.length s : Int)), (.int .i64 t_11)], [[(4, [(.str u0_4)])]])) (fun q2 => (fun (p : Int) => ∃ (t_13 : Int), r = (Ex.ret, [(.slice (List.map encDir s) [] false), (.func (.func 67) [] [(.ptr 1 4 0)]), (.int .i64 p), (.int .i64 (List.length s : Int)), (.int .i64 t_13)], [[(4, [(.str u0_4)])]])) q2)
noncomputable def slices_IndexFunc_Dir_B (s : List GDir) (u0_4 : Str) : Option Int :=
 bnd (tloop (slices_IndexFunc_Dir_l1T s u0_4) 0) fun e14_2 => elim e14_2
 (fun p14 =>
 some (-1))
 (fun t_12 =>
 some t_12)
def slices_IndexFunc_Dir_ds : Decs := { decs := [(14, (.ref shDir)), (16, .bool)], ups := [(16, [[], [(4, [.str])]])], loops := [(2, [], ⟨[(.sl false), (.func 67 [] [(.ptr 1 4 0)]), (.int .i64), (.int .i64), (.int .i64)], [[(4, [.str])]], [(some 0, [(.sl false), (.func 67 [] [(.ptr 1 4 0)]), (.int .i64), (.int .i64), (.int .i64)], [[(4, [.str])]]), (none, [(.sl false), (.func 67 [] [(.ptr 1 4 0)]), (.int .i64), (.int .i64), (.int .i64)], [[(4, [.str])]])]⟩)] }
set_option maxRecDepth 100000 in
theorem slices_IndexFunc_Dir_t1 (O : Orc) (LP : LBody → LBody) (s : List GDir) (u0_4 : Str) : evalBodyD Try.prog (MT 66) slices_IndexFunc_Dir_ds Try.f66.ntmps O LP Try.f66 [(.slice (List.map encDir s) [] false), (.func (.func 67) [] [(.ptr 1 4 0)])] [[(4, [(.str u0_4)])]] = slices_IndexFunc_Dir_T1 O LP s u0_4 := by kernel_rfl
theorem slices_IndexFunc_Dir_l1_ok (s : List GDir) (u0_4 : Str) : ∀ st l u, slices_IndexFunc_Dir_l1R s u0_4 st l u → Imp (slices_IndexFunc_Dir_l1T s u0_4 st) (slices_IndexFunc_Dir_l1 O loopLim l u) (StepR (slices_IndexFunc_Dir_l1R s u0_4) (slices_IndexFunc_Dir_l1X s u0_4)) := by
 rintro t_6 l u ⟨rfl, rfl⟩
 simp only [slices_IndexFunc_Dir_l1T, slices_IndexFunc_Dir_l1]
 refine Imp.chk rfl (Imp.chk rfl ?_)
 try simp only [evs, tys]
 refine Imp.cnd ?_ ?_
 ·refine Imp.op (f := fun a => .ref (encDir a)) (fun a h => op_ix (enc := encDir) (by first | rfl | simp only [evs, tys, evl]) ⟨by first | rfl | simp only [evs, tys, evc], by decide⟩ h) (fun a => chk_GDir a) fun y8 hy8 => ?_
  try simp only [evs, tys]
  refine Imp.gcall (f := collect_first_1E) (fu := fun a => [] :: collect_first_1U y8 u0_4 a) (fun a h => by first | exact OL_drop rfl rfl (by first | rfl | (simp only [collect_first_1E, tys]; rfl)) (collect_first_1_spec h) | (have h' := collect_first_1_spec h; simp only [evs, tys, evl, collect_first_1U] at h'; exact OL_drop rfl rfl (by first | rfl | (simp only [collect_first_1E, tys]; rfl)) (h'))) (fun a => by first | rfl | simp only [collect_first_1E, evk, chks]) (fun a => by first | rfl | (simp only [collect_first_1U, evs, tys]; rfl)) fun y10 hy10 => ?_
  try simp only [collect_first_1E, collect_first_1U, evs, tys]
  refine Imp.cnd ?_ ?_
  ·exact Imp.some (StepR.ret ⟨t_6, by first | rfl | simp only [evs, tys, evl, elim_inl, elim_inr]⟩)
  ·exact Imp.some (StepR.next ⟨by first | rfl | simp only [evs, tys, evl], rfl⟩)
 ·exact Imp.some (StepR.brk ⟨t_6, by first | rfl | simp only [evs, tys, evl, elim_inl, elim_inr]⟩)
theorem slices_IndexFunc_Dir_imp (s : List GDir) (u0_4 : Str) : Imp (slices_IndexFunc_Dir_B s u0_4) (slices_IndexFunc_Dir_T1 O loopLim s u0_4) (fun r v => v = (slices_IndexFunc_DirE r, (slices_IndexFunc_DirU s u0_4 r))) := by
 simp only [slices_IndexFunc_Dir_B, slices_IndexFunc_Dir_T1]
 try simp only [evs, tys]
 refine Imp.bnd (Imp.loop (slices_IndexFunc_Dir_l1_ok s u0_4) ⟨by first | rfl | simp only [evs, tys, evl], rfl⟩) ?_
 rintro (p | t_12) vy14 hy14
 ·try simp only [elim_inl, elim_inr]
  obtain ⟨t_11, rfl⟩ := hy14
  refine Imp.exHit rfl (Imp.chk rfl (Imp.chk rfl ?_))
  try simp only [evs, tys]
  exact Imp.some (by first | rfl | simp only [slices_IndexFunc_DirE, slices_IndexFunc_DirU, evs, tys, evl])
 ·try simp only [elim_inl, elim_inr]
  obtain ⟨t_13, rfl⟩ := hy14
  refine Imp.exMiss rfl ?_
  refine Imp.exHit rfl (Imp.chk rfl (Imp.chk rfl ?_))
  try simp only [evs, tys]
  exact Imp.some (by first | rfl | simp only [slices_IndexFunc_DirE, slices_IndexFunc_DirU, evs, tys, evl])
theorem slices_IndexFunc_Dir_run {s : List GDir} {u0_4 : Str} {r : Int} (h : slices_IndexFunc_Dir_B s u0_4 = some r) : slices_IndexFunc_Dir s u0_4 = some r := by
 obtain ⟨v, hv, rfl⟩ := slices_IndexFunc_Dir_imp s u0_4 r h
 exact tO_of (fun a b h => slices_IndexFunc_DirEj a b (Prod.mk.inj h).1) (OL_runD slices_IndexFunc_Dir_ds rfl rfl Try.func66 ((slices_IndexFunc_Dir_t1 _ _ s u0_4).trans hv))
def collect_first_T1 (O : Orc) (LP : LBody → LBody) (env : List GMember) (name : Str) (dirs : List GDir) : Option (PV × UP) :=
 bnd (O 66 [(.slice (List.map encDir dirs) [] false), (.func (.func 67) [] [(.ptr 1 4 0)])] [[(4, [(.str name)])]]) fun x1 => cnd (chkU [[(4, [.str])]] x1.2) (cnd (chk (.int .i64) x1.1)
 (cnd (decide ((intV x1.1) ≥ 0))
 (bnd (ix 2 (.slice (List.map encDir dirs) [] false) (.int .i64 (intV x1.1))) fun x3 => cnd (chk (.ref shDir) x3)
 (callp O 68 [(.slice (List.map encMember env) [] false), (.agg [(.str (strV (gt (aggV (refV x3)) 0))), (.slice (esV (gt (aggV (refV x3)) 1)) [] false)])] fun x5 => cnd (chk .bool x5)
 (some ((.tuple [(.bool (decide ((intV x1.1) ≥ 0))), (.bool (boolV x5))]), [])) none) none)
 (some ((.tuple [(.bool (decide ((intV x1.1) ≥ 0))), (.bool false)]), []))) none) none
noncomputable def collect_first_B (env : List GMember) (name : Str) (dirs : List GDir) : Option (Bool × Bool) :=
 bnd (slices_IndexFunc_Dir dirs name) fun y2 =>
 cnd (decide (y2 ≥ 0))
 (bnd (nthI dirs y2) fun y4 =>
 bnd (collect_yes env y4) fun y6 =>
 some ((decide (y2 ≥ 0)), y6))
 (some ((decide (y2 ≥ 0)), false))
def collect_first_ds : Decs := { decs := [(11, (.int .i64)), (20, (.ref shDir)), (22, .bool)], ups := [(11, [[(4, [.str])]])], loops := [] }
set_option maxRecDepth 100000 in
theorem collect_first_t1 (O : Orc) (LP : LBody → LBody) (env : List GMember) (name : Str) (dirs : List GDir) : evalBodyD Try.prog (MT 38) collect_first_ds Try.f38.ntmps O LP Try.f38 [(.slice (List.map encMember env) [] false), (.str name), (.slice (List.map encDir dirs) [] false)] [] = collect_first_T1 O LP env name dirs := by kernel_rfl
theorem collect_first_imp (env : List GMember) (name : Str) (dirs : List GDir) : Imp (collect_first_B env name dirs) (collect_first_T1 O loopLim env name dirs) (fun r v => v = (collect_firstE r, [])) := by
 simp only [collect_first_B, collect_first_T1]
 try simp only [evs, tys]
 refine Imp.gcall (f := slices_IndexFunc_DirE) (fu := fun a => slices_IndexFunc_DirU dirs name a) (fun a h => by first | exact slices_IndexFunc_Dir_spec h | (have h' := slices_IndexFunc_Dir_spec h; simp only [evs, tys, evl, slices_IndexFunc_DirU] at h'; exact h')) (fun a => by first | rfl | simp only [slices_IndexFunc_DirE, evk, chks]) (fun a => by first | rfl | (simp only [slices_IndexFunc_DirU, evs, tys]; rfl)) fun y2 hy2 => ?_
 try simp only [slices_IndexFunc_DirE, slices_IndexFunc_DirU, evs, tys]
 refine Imp.cnd ?_ ?_
 ·refine Imp.op (f := fun a => .ref (encDir a)) (fun a h => op_ix (enc := encDir) (by first | rfl | simp only [evs, tys, evl]) ⟨by first | rfl | simp only [evs, tys, evc], by decide⟩ h) (fun a => chk_GDir a) fun y4 hy4 => ?_
  try simp only [evs, tys]
  refine Imp.call (f := collect_yesE) rfl (fun a h => by first | exact collect_yes_spec h | simpa only [evs, tys, evl] using collect_yes_spec h) (fun a => by first | rfl | simp only [collect_yesE, evk, chks]) fun y6 hy6 => ?_
  try simp only [collect_yesE, evs, tys]
  exact Imp.some (by first | rfl | simp only [collect_firstE, evs, tys, evl])
 ·exact Imp.some (by first | rfl | simp only [collect_firstE, evs, tys, evl])
theorem collect_first_run {env : List GMember} {name : Str} {dirs : List GDir} {r : Bool × Bool} (h : collect_first_B env name dirs = some r) : collect_first env name dirs = some r := by
 obtain ⟨v, hv, rfl⟩ := collect_first_imp env name dirs r h
 exact tO_of (pair_inj collect_firstEj) (OL_runD collect_first_ds rfl rfl Try.func38 ((collect_first_t1 _ _ env name dirs).trans hv))
def seinekeep_Members_l1 (O : Orc) (LP : LBody → LBody) : LBody := fun s1 s1u => cnd (chkL [(.sl false), (.sl true), (.int .i64)] s1) (cnd (chkU [] s1u)
 (cnd (decide ((intV (gt s1 2)) < (List.length (esV (gt s1 0)) : Int)))
 (bnd (ix 6 (.slice (esV (gt s1 0)) [] false) (.int .i64 (intV (gt s1 2)))) fun x12 => cnd (chk (.ref shMember) x12)
 (bnd (ix 6 (.slice (esV (gt s1 0)) [] false) (.int .i64 (intV (gt s1 2)))) fun x14 => cnd (chk (.ref shMember) x14)
 (callp O 65 [(.agg [(.int .i64 (intV (gt (aggV (refV x14)) 1))), (.int .i64 (intV (gt (aggV (refV x14)) 2))), (.str (strV (gt (aggV (refV x14)) 3))), (.slice (esV (gt (aggV (refV x14)) 4)) [] false), (.slice (esV (gt (aggV (refV x14)) 5)) [] false)])] fun x16 => cnd (chk shValue x16)
 (bnd (apd 6 (.slice (esV (gt s1 1)) [] true) (.slice [(.agg [(.str (strV (gt (aggV (refV x12)) 0))), (.int .i64 (intV (gt (aggV x16) 0))), (.int .i64 (intV (gt (aggV x16) 1))), (.str (strV (gt (aggV x16) 2))), (.slice (esV (gt (aggV x16) 3)) [] false), (.slice (esV (gt (aggV x16) 4)) [] false)])] [] true)) fun x18 => cnd (chk (.sl true) x18)
 (some (.nrm, [(.slice (esV (gt s1 0)) [] false), (.slice (esV x18) [] true), (.int .i64 (IntKind.wrap .i64 ((intV (gt s1 2)) + 1)))], [])) none) none) none) none)
 (some (.brk 0, [(.slice (esV (gt s1 0)) [] false), (.slice (esV (gt s1 1)) [] true), (.int .i64 (intV (gt s1 2)))], []))) none) none
def seinekeep_Members_T1 (O : Orc) (LP : LBody → LBody) (l0 : List GMember) : Option (PV × UP) :=
 bnd (LP (seinekeep_Members_l1 O LP) [(.slice (List.map encMember l0) [] false), (.slice [] [] true), (.int .i64 0)] []) fun y22 =>
 exIs y22.1 (some 0) (cnd (chkL [(.sl false), (.sl true), (.int .i64)] y22.2.1) (cnd (chkU [] y22.2.2)
 (some ((.slice (esV (gt y22.2.1 1)) [] false), [])) none) none)
 (none)
noncomputable def seinekeep_Members_l1T (l0 : List GMember) : ((List GMember) × Int) → Option (((List GMember) × Int) ⊕ ((List GMember)))
 | (out_10, i_11) =>
 cnd (decide (i_11 < (List.length l0 : Int)))
  (bnd (nthI l0 i_11) fun y13 =>
  bnd (nthI l0 i_11) fun y15 =>
  bnd (seinekeep_Value y15.v) fun y17 =>
  bnd (tapp out_10 [(GMember.mk y13.name y17)]) fun y19 =>
  some (.inl (y19, (IntKind.wrap .i64 (i_11 + 1)))))
  (some (.inr out_10))
abbrev seinekeep_Members_l1R (l0 : List GMember) (st : (List GMember) × Int) (l : List PV) (u : UP) : Prop := l = [(.slice (List.map encMember l0) [] false), (.slice (List.map encMember st.1) [] true), (.int .i64 st.2)] ∧ u = []
abbrev seinekeep_Members_l1X (l0 : List GMember) (p : (List GMember)) (r : Ex × List PV × UP) : Prop := (fun (p : (List GMember)) => ∃ (i_21 : Int), r = (Ex.brk 0, [(.slice (List.map encMember l0) [] false), (.slice (List.map encMember p) [] true), (.int .i64 i_21)], [])) p
noncomputable def seinekeep_Members_B (l0 : List GMember) : Option (List GMember) :=
 bnd (tloop (seinekeep_Members_l1T l0) ([], 0)) fun out_20 =>
 some out_20
def seinekeep_Members_ds : Decs := { decs := [(14, (.ref shMember)), (19, (.ref shMember)), (22, shValue), (25, (.sl true))], ups := [], loops := [(3, [], ⟨[(.sl false), (.sl true), (.int .i64)], [], [(some 0, [(.sl false), (.sl true), (.int .i64)], [])]⟩)] }
set_option maxRecDepth 100000 in
theorem seinekeep_Members_t1 (O : Orc) (LP : LBody → LBody) (l0 : List GMember) : evalBodyD Try.prog (MT 36) seinekeep_Members_ds Try.f36.ntmps O LP Try.f36 [(.slice (List.map encMember l0) [] false)] [] = seinekeep_Members_T1 O LP l0 := by kernel_rfl
theorem seinekeep_Members_l1_ok (l0 : List GMember) : ∀ st l u, seinekeep_Members_l1R l0 st l u → Imp (seinekeep_Members_l1T l0 st) (seinekeep_Members_l1 O loopLim l u) (StepR (seinekeep_Members_l1R l0) (seinekeep_Members_l1X l0)) := by
 rintro ⟨out_10, i_11⟩ l u ⟨rfl, rfl⟩
 simp only [seinekeep_Members_l1T, seinekeep_Members_l1]
 refine Imp.chk rfl (Imp.chk rfl ?_)
 try simp only [evs, tys]
 refine Imp.cnd ?_ ?_
 ·refine Imp.op (f := fun a => .ref (encMember a)) (fun a h => op_ix (enc := encMember) (by first | rfl | simp only [evs, tys, evl]) ⟨by first | rfl | simp only [evs, tys, evc], by decide⟩ h) (fun a => chk_GMember a) fun y13 hy13 => ?_
  try simp only [evs, tys]
  refine Imp.op (f := fun a => .ref (encMember a)) (fun a h => op_ix (enc := encMember) (by first | rfl | simp only [evs, tys, evl]) ⟨by first | rfl | simp only [evs, tys, evc], by decide⟩ h) (fun a => chk_GMember a) fun y15 hy15 => ?_
  try simp only [evs, tys]
  refine Imp.call (f := seinekeep_ValueE) rfl (fun a h => by first | exact seinekeep_Value_spec h | simpa only [evs, tys, evl] using seinekeep_Value_spec h) (fun a => by first | rfl | simp only [seinekeep_ValueE, evk, chks]) fun y17 hy17 => ?_
  try simp only [seinekeep_ValueE, evs, tys]
  refine Imp.op (f := fun a => .slice (List.map encMember a) [] true) (fun a h => op_apd (enc := encMember) (by first | rfl | simp only [evs, tys, evl]) (by first | rfl | simp only [evs, tys, evl]) (fun a => by first | rfl | simp only [evs, tys, evc]) h) (fun a => rfl) fun y19 hy19 => ?_
  try simp only [evs, tys]
  exact Imp.some (StepR.next ⟨by first | rfl | simp only [evs, tys, evl], rfl⟩)
 ·exact Imp.some (StepR.brk ⟨i_11, by first | rfl | simp only [evs, tys, evl, elim_inl, elim_inr]⟩)
theorem seinekeep_Members_imp (l0 : List GMember) : Imp (seinekeep_Members_B l0) (seinekeep_Members_T1 O loopLim l0) (fun r v => v = (seinekeep_MembersE r, [])) := by
 simp only [seinekeep_Members_B, seinekeep_Members_T1]
 try simp only [evs, tys]
 refine Imp.bnd (Imp.loop (seinekeep_Members_l1_ok l0) ⟨by first | rfl | simp only [evs, tys, evl], rfl⟩) ?_
 rintro out_20 vy22 hy22
 obtain ⟨i_21, rfl⟩ := hy22
 refine Imp.exHit rfl (Imp.chk rfl (Imp.chk rfl ?_))
 try simp only [evs, tys]
 exact Imp.some (by first | rfl | simp only [seinekeep_MembersE, evs, tys, evl])
theorem seinekeep_Members_run {l0 : List GMember} {r : List GMember} (h : seinekeep_Members_B l0 = some r) : seinekeep_Members l0 = some r := by
 obtain ⟨v, hv, rfl⟩ := seinekeep_Members_imp l0 r h
 exact tO_of (pair_inj seinekeep_MembersEj) (OL_runD seinekeep_Members_ds rfl rfl Try.func36 ((seinekeep_Members_t1 _ _ l0).trans hv))
end Go.Proofs.Ytfbaogfcpldlnaa

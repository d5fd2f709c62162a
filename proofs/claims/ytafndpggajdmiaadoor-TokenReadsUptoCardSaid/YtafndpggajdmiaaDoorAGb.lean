import Derived.Test.YtafndpggajdmiaaDoorAGa
set_option linter.unusedVariables false
set_option linter.unusedSimpArgs false
set_option linter.unusedSimpArgs false
open Go Go.Ev Go.Ev.PV
namespace Go.Proofs.YtafndpggajdmiaaDoor
def s3_TokenReads_T1 (O : Orc) (LP : LBody → LBody) (s : Str) : Option (PV × UP) :=
 cnd (decide ((List.length s : Int) > 8292))
 (callp O 11 [] fun x1 => cnd (chk .bool x1)
 (some ((.bool (boolV x1)), [])) none)
 (callp O 12 [(.str s)] fun x3 => cnd (chk (.tup [(.sl false), (.int .i64)]) x3)
 (callp O 13 [(.str s)] fun x5 => cnd (chk (.tup [(.sl false), (.int .i64)]) x5)
 (cnd ((intV (gt (tupV x3) 1)) == (intV (gt (tupV x5) 1)))
 (callp O 14 [(.slice (esV (gt (tupV x3) 0)) [] false), (.slice (esV (gt (tupV x5) 0)) [] false)] fun x7 => cnd (chk .bool x7)
 (cnd (boolV x7)
 (callp O 15 [(.str s)] fun x9 => cnd (chk (.int .i64) x9)
 (callp O 16 [(.str s)] fun x11 => cnd (chk (.int .i64) x11)
 (cnd ((intV x9) == (intV x11))
 (callp O 11 [] fun x13 => cnd (chk .bool x13)
 (some ((.bool (boolV x13)), [])) none)
 (some ((.bool false), []))) none) none)
 (some ((.bool false), []))) none)
 (some ((.bool false), []))) none) none)
noncomputable def s3_TokenReads_B (s : Str) : Option Bool :=
 cnd (decide ((List.length s : Int) > 8292))
 (bnd (s3_awake) fun y2 =>
 some y2)
 (bnd (to_Read s) fun y4 =>
 bnd (r1_Tokens s) fun y6 =>
 cnd (y4.2 == y6.2)
 (bnd (r6_SameTokens y4.1 y6.1) fun y8 =>
 cnd y8
 (bnd (to_Number s) fun y10 =>
 bnd (r1_Number s) fun y12 =>
 cnd (y10 == y12)
 (bnd (s3_awake) fun y14 =>
 some y14)
 (some false))
 (some false))
 (some false))
def s3_TokenReads_ds : Decs := { decs := [(10, .bool), (13, (.tup [(.sl false), (.int .i64)])), (18, (.tup [(.sl false), (.int .i64)])), (27, .bool), (31, (.int .i64)), (33, (.int .i64)), (37, .bool)], ups := [], loops := [] }
set_option maxRecDepth 100000 in
theorem s3_TokenReads_t1 (O : Orc) (LP : LBody → LBody) (s : Str) : evalBodyD Tryd.prog (MT 3) s3_TokenReads_ds Tryd.f3.ntmps O LP Tryd.f3 [(.str s)] [] = s3_TokenReads_T1 O LP s := by kernel_rfl
theorem s3_TokenReads_imp (s : Str) : Imp (s3_TokenReads_B s) (s3_TokenReads_T1 O loopLim s) (fun r v => v = (s3_TokenReadsE r, [])) := by
 simp only [s3_TokenReads_B, s3_TokenReads_T1]
 try simp only [evs, tys]
 refine Imp.cnd ?_ ?_
 ·refine Imp.call (f := s3_awakeE) rfl (fun a h => by first | exact s3_awake_spec h | simpa only [evs, tys, evl] using s3_awake_spec h) (fun a => by first | rfl | simp only [s3_awakeE, evk, chks]) fun y2 hy2 => ?_
  try simp only [s3_awakeE, evs, tys]
  exact Imp.some (by first | rfl | simp only [s3_TokenReadsE, evs, tys, evl])
 ·refine Imp.call (f := to_ReadE) rfl (fun a h => by first | exact to_Read_spec h | simpa only [evs, tys, evl] using to_Read_spec h) (fun a => by first | rfl | simp only [to_ReadE, evk, chks]) fun y4 hy4 => ?_
  try simp only [to_ReadE, evs, tys]
  refine Imp.call (f := r1_TokensE) rfl (fun a h => by first | exact r1_Tokens_spec h | simpa only [evs, tys, evl] using r1_Tokens_spec h) (fun a => by first | rfl | simp only [r1_TokensE, evk, chks]) fun y6 hy6 => ?_
  try simp only [r1_TokensE, evs, tys]
  refine Imp.cnd ?_ ?_
  ·refine Imp.call (f := r6_SameTokensE) rfl (fun a h => by first | exact r6_SameTokens_spec h | simpa only [evs, tys, evl] using r6_SameTokens_spec h) (fun a => by first | rfl | simp only [r6_SameTokensE, evk, chks]) fun y8 hy8 => ?_
   try simp only [r6_SameTokensE, evs, tys]
   refine Imp.cnd ?_ ?_
   ·refine Imp.call (f := to_NumberE) rfl (fun a h => by first | exact to_Number_spec h | simpa only [evs, tys, evl] using to_Number_spec h) (fun a => by first | rfl | simp only [to_NumberE, evk, chks]) fun y10 hy10 => ?_
    try simp only [to_NumberE, evs, tys]
    refine Imp.call (f := r1_NumberE) rfl (fun a h => by first | exact r1_Number_spec h | simpa only [evs, tys, evl] using r1_Number_spec h) (fun a => by first | rfl | simp only [r1_NumberE, evk, chks]) fun y12 hy12 => ?_
    try simp only [r1_NumberE, evs, tys]
    refine Imp.cnd ?_ ?_
    ·refine Imp.call (f := s3_awakeE) rfl (fun a h => by first | exact s3_awake_spec h | simpa only [evs, tys, evl] using s3_awake_spec h) (fun a => by first | rfl | simp only [s3_awakeE, evk, chks]) fun y14 hy14 => ?_
     try simp only [s3_awakeE, evs, tys]
     exact Imp.some (by first | rfl | simp only [s3_TokenReadsE, evs, tys, evl])
    ·exact Imp.some (by first | rfl | simp only [s3_TokenReadsE, evs, tys, evl])
   ·exact Imp.some (by first | rfl | simp only [s3_TokenReadsE, evs, tys, evl])
  ·exact Imp.some (by first | rfl | simp only [s3_TokenReadsE, evs, tys, evl])
theorem s3_TokenReads_run {s : Str} {r : Bool} (h : s3_TokenReads_B s = some r) : s3_TokenReads s = some r := by
 obtain ⟨v, hv, rfl⟩ := s3_TokenReads_imp s r h
 exact tO_of (pair_inj s3_TokenReadsEj) (OL_runD s3_TokenReads_ds rfl rfl Tryd.func3 ((s3_TokenReads_t1 _ _ s).trans hv))
theorem s3_awake_run {r : Bool} (n : Nat) (h : evalK Tryd.prog MT XT n 11 [] [] = some (s3_awakeE r, [])) : s3_awake = some r := tO_of (pair_inj s3_awakeEj) (evalK_OL n h)
def to_Read_l1 (O : Orc) (LP : LBody → LBody) : LBody := fun s3 s3u => cnd (chkL [.str, (.sl true), (.int .i64), (.sl true), (.int .i64)] s3) (cnd (chkU [] s3u)
 (cnd (decide ((intV (gt s3 4)) < (List.length (strV (gt s3 0)) : Int)))
 (bnd (slcLo 0 (.str (strV (gt s3 0))) (.int .i64 (intV (gt s3 4)))) fun x16 => cnd (chk .str x16)
 (callp O 27 [(.str (strV x16))] fun x18 => cnd (chk (.int .i64) x18)
 (cnd (decide ((intV x18) > 0))
 (some (.nrm, [(.str (strV (gt s3 0))), (.slice (esV (gt s3 1)) [] true), (.int .i64 (intV (gt s3 2))), (.slice (esV (gt s3 3)) [] true), (.int .i64 (IntKind.wrap .i64 ((intV (gt s3 4)) + (intV x18))))], []))
 (bnd (slcLo 0 (.str (strV (gt s3 0))) (.int .i64 (intV (gt s3 4)))) fun x20 => cnd (chk .str x20)
 (callp O 28 [(.str (strV x20))] fun x22 => cnd (chk (.tup [shToken, (.int .i64)]) x22)
 (cnd ((intV (gt (tupV x22) 1)) == 0)
 (some (.ret, [(.str (strV (gt s3 0))), (.slice [] [] true), (.int .i64 2), (.slice (esV (gt s3 3)) [] true), (.int .i64 (intV (gt s3 4)))], []))
 (bnd (apd 2 (.slice (esV (gt s3 3)) [] true) (.slice [(.agg [(.int .i64 (intV (gt (aggV (gt (tupV x22) 0)) 0))), (.str (strV (gt (aggV (gt (tupV x22) 0)) 1)))])] [] true)) fun x24 => cnd (chk (.sl true) x24)
 (some (.nrm, [(.str (strV (gt s3 0))), (.slice (esV (gt s3 1)) [] true), (.int .i64 (intV (gt s3 2))), (.slice (esV x24) [] true), (.int .i64 (IntKind.wrap .i64 ((intV (gt s3 4)) + (intV (gt (tupV x22) 1)))))], [])) none)) none) none)) none) none)
 (some (.brk 1, [(.str (strV (gt s3 0))), (.slice (esV (gt s3 1)) [] true), (.int .i64 (intV (gt s3 2))), (.slice (esV (gt s3 3)) [] true), (.int .i64 (intV (gt s3 4)))], []))) none) none
def to_Read_T1 (O : Orc) (LP : LBody → LBody) (s : Str) : Option (PV × UP) :=
 cnd (decide ((List.length s : Int) > 8192))
 (some ((.tuple [(.slice [] [] false), (.int .i64 3)]), []))
 (callp O 18 [(.str s)] fun x1 => cnd (chk .bool x1)
 (cnd (!(boolV x1))
 (some ((.tuple [(.slice [] [] false), (.int .i64 2)]), []))
 (bnd (LP (to_Read_l1 O LP) [(.str s), (.slice [] [] true), (.int .i64 0), (.slice [] [] true), (.int .i64 0)] []) fun y30 =>
 exIs y30.1 (some 1) (cnd (chkL [.str, (.sl true), (.int .i64), (.sl true), (.int .i64)] y30.2.1) (cnd (chkU [] y30.2.2)
 (some ((.tuple [(.slice (esV (gt y30.2.1 3)) [] false), (.int .i64 0)]), [])) none) none)
 (exIs y30.1 none (cnd (chkL [.str, (.sl true), (.int .i64), (.sl true), (.int .i64)] y30.2.1) (cnd (chkU [] y30.2.2)
 (some ((.tuple [(.slice (esV (gt y30.2.1 1)) [] false), (.int .i64 (intV (gt y30.2.1 2)))]), [])) none) none)
 (none)))) none)
noncomputable def to_Read_l1T (s : Str) : (Int × (List GToken)) → Option ((Int × (List GToken)) ⊕ ((List GToken) ⊕ Unit))
 | (i_14, l_15) =>
 cnd (decide (i_14 < (List.length s : Int)))
  (bnd (tslc s i_14 (List.length s)) fun y17 =>
  bnd (to_gap y17) fun y19 =>
  cnd (decide (y19 > 0))
  (some (.inl ((IntKind.wrap .i64 (i_14 + y19)), l_15)))
  (bnd (tslc s i_14 (List.length s)) fun y21 =>
  bnd (to_one y21) fun y23 =>
  cnd (y23.2 == 0)
   (some (.inr (.inr ())))
   (bnd (tapp l_15 [y23.1]) fun y25 =>
   some (.inl ((IntKind.wrap .i64 (i_14 + y23.2)), y25)))))
  (some (.inr (.inl l_15)))
abbrev to_Read_l1R (s : Str) (st : Int × (List GToken)) (l : List PV) (u : UP) : Prop := l = [(.str s), (.slice [] [] true), (.int .i64 0), (.slice (List.map encToken st.2) [] true), (.int .i64 st.1)] ∧ u = []
abbrev to_Read_l1X (s : Str) (p : (List GToken) ⊕ Unit) (r : Ex × List PV × UP) : Prop := elim p (fun (p : (List GToken)) => ∃ (i_27 : Int), r = (Ex.brk 1, [(.str s), (.slice [] [] true), (.int .i64 0), (.slice (List.map encToken p) [] true), (.int .i64 i_27)], [])) (fun q2 => (fun (p : Unit) => ∃ (l_28 : List GToken), ∃ (i_29 : Int), r = (Ex.ret, [(.str s), (.slice [] [] true), (.int .i64 2), (.slice (List.map encToken l_28) [] true), (.int .i64 i_29)], [])) q2)
noncomputable def to_Read_B (s : Str) : Option ((List GToken) × Int) :=
 cnd (decide ((List.length s : Int) > 8192))
 (some (([] : List GToken), 3))
 (bnd (ls_Source s) fun y2 =>
 cnd (!y2)
 (some (([] : List GToken), 2))
 (bnd (tloop (to_Read_l1T s) (0, [])) fun e30_2 => elim e30_2
 (fun l_26 =>
 some (l_26, 0))
 (fun p30 =>
 some (([] : List GToken), 2))))
def to_Read_ds : Decs := { decs := [(15, .bool), (23, .str), (24, (.int .i64)), (33, .str), (34, (.tup [shToken, (.int .i64)])), (42, (.sl true))], ups := [], loops := [(7, [], ⟨[.str, (.sl true), (.int .i64), (.sl true), (.int .i64)], [], [(some 1, [.str, (.sl true), (.int .i64), (.sl true), (.int .i64)], []), (none, [.str, (.sl true), (.int .i64), (.sl true), (.int .i64)], [])]⟩)] }
set_option maxRecDepth 100000 in
theorem to_Read_t1 (O : Orc) (LP : LBody → LBody) (s : Str) : evalBodyD Tryd.prog (MT 12) to_Read_ds Tryd.f12.ntmps O LP Tryd.f12 [(.str s)] [] = to_Read_T1 O LP s := by kernel_rfl
theorem to_Read_l1_ok (s : Str) : ∀ st l u, to_Read_l1R s st l u → Imp (to_Read_l1T s st) (to_Read_l1 O loopLim l u) (StepR (to_Read_l1R s) (to_Read_l1X s)) := by
 rintro ⟨i_14, l_15⟩ l u ⟨rfl, rfl⟩
 simp only [to_Read_l1T, to_Read_l1]
 refine Imp.chk rfl (Imp.chk rfl ?_)
 try simp only [evs, tys]
 refine Imp.cnd ?_ ?_
 ·refine Imp.op (f := fun a => .str a) (fun a h => op_sslcLo h) (fun a => rfl) fun y17 hy17 => ?_
  try simp only [evs, tys]
  refine Imp.call (f := to_gapE) rfl (fun a h => by first | exact to_gap_spec h | simpa only [evs, tys, evl] using to_gap_spec h) (fun a => by first | rfl | simp only [to_gapE, evk, chks]) fun y19 hy19 => ?_
  try simp only [to_gapE, evs, tys]
  refine Imp.cnd ?_ ?_
  ·exact Imp.some (StepR.next ⟨by first | rfl | simp only [evs, tys, evl], rfl⟩)
  ·refine Imp.op (f := fun a => .str a) (fun a h => op_sslcLo h) (fun a => rfl) fun y21 hy21 => ?_
   try simp only [evs, tys]
   refine Imp.call (f := to_oneE) rfl (fun a h => by first | exact to_one_spec h | simpa only [evs, tys, evl] using to_one_spec h) (fun a => by first | rfl | simp only [to_oneE, evk, chks]) fun y23 hy23 => ?_
   try simp only [to_oneE, evs, tys]
   refine Imp.cnd ?_ ?_
   ·exact Imp.some (StepR.ret ⟨l_15, i_14, by first | rfl | simp only [evs, tys, evl, elim_inl, elim_inr]⟩)
   ·refine Imp.op (f := fun a => .slice (List.map encToken a) [] true) (fun a h => op_apd (enc := encToken) (by first | rfl | simp only [evs, tys, evl]) (by first | rfl | simp only [evs, tys, evl]) (fun a => by first | rfl | simp only [evs, tys, evc]) h) (fun a => rfl) fun y25 hy25 => ?_
    try simp only [evs, tys]
    exact Imp.some (StepR.next ⟨by first | rfl | simp only [evs, tys, evl], rfl⟩)
 ·exact Imp.some (StepR.brk ⟨i_14, by first | rfl | simp only [evs, tys, evl, elim_inl, elim_inr]⟩)
theorem to_Read_imp (s : Str) : Imp (to_Read_B s) (to_Read_T1 O loopLim s) (fun r v => v = (to_ReadE r, [])) := by
 simp only [to_Read_B, to_Read_T1]
 try simp only [evs, tys]
 refine Imp.cnd ?_ ?_
 ·exact Imp.some (by first | rfl | simp only [to_ReadE, evs, tys, evl])
 ·refine Imp.call (f := ls_SourceE) rfl (fun a h => by first | exact ls_Source_spec h | simpa only [evs, tys, evl] using ls_Source_spec h) (fun a => by first | rfl | simp only [ls_SourceE, evk, chks]) fun y2 hy2 => ?_
  try simp only [ls_SourceE, evs, tys]
  refine Imp.cnd ?_ ?_
  ·exact Imp.some (by first | rfl | simp only [to_ReadE, evs, tys, evl])
  ·refine Imp.bnd (Imp.loop (to_Read_l1_ok s) ⟨by first | rfl | simp only [evs, tys, evl], rfl⟩) ?_
   rintro (l_26 | p) vy30 hy30
   ·try simp only [elim_inl, elim_inr]
    obtain ⟨i_27, rfl⟩ := hy30
    refine Imp.exHit rfl (Imp.chk rfl (Imp.chk rfl ?_))
    try simp only [evs, tys]
    exact Imp.some (by first | rfl | simp only [to_ReadE, evs, tys, evl])
   ·try simp only [elim_inl, elim_inr]
    obtain ⟨l_28, i_29, rfl⟩ := hy30
    refine Imp.exMiss rfl ?_
    refine Imp.exHit rfl (Imp.chk rfl (Imp.chk rfl ?_))
    try simp only [evs, tys]
    exact Imp.some (by first | rfl | simp only [to_ReadE, evs, tys, evl])
theorem to_Read_run {s : Str} {r : (List GToken) × Int} (h : to_Read_B s = some r) : to_Read s = some r := by
 obtain ⟨v, hv, rfl⟩ := to_Read_imp s r h
 exact tO_of (pair_inj to_ReadEj) (OL_runD to_Read_ds rfl rfl Tryd.func12 ((to_Read_t1 _ _ s).trans hv))
def r1_Tokens_l1 (O : Orc) (LP : LBody → LBody) : LBody := fun s5 s5u => cnd (chkL [.str, (.sl true), (.int .i64), (.sl true), (.int .i64)] s5) (cnd (chkU [] s5u)
 (cnd (decide ((intV (gt s5 4)) < (List.length (strV (gt s5 0)) : Int)))
 (callp O 31 [(.str (strV (gt s5 0))), (.int .i64 (intV (gt s5 4)))] fun x14 => cnd (chk (.tup [shToken, (.int .i64), .bool]) x14)
 (cnd (!(boolV (gt (tupV x14) 2)))
 (some (.ret, [(.str (strV (gt s5 0))), (.slice [] [] true), (.int .i64 2), (.slice (esV (gt s5 3)) [] true), (.int .i64 (intV (gt s5 4)))], []))
 (bnd (apd 2 (.slice (esV (gt s5 3)) [] true) (.slice [(.agg [(.int .i64 (intV (gt (aggV (gt (tupV x14) 0)) 0))), (.str (strV (gt (aggV (gt (tupV x14) 0)) 1)))])] [] true)) fun x16 => cnd (chk (.sl true) x16)
 (callp O 30 [(.str (strV (gt s5 0))), (.int .i64 (intV (gt (tupV x14) 1)))] fun x18 => cnd (chk (.int .i64) x18)
 (some (.nrm, [(.str (strV (gt s5 0))), (.slice (esV (gt s5 1)) [] true), (.int .i64 (intV (gt s5 2))), (.slice (esV x16) [] true), (.int .i64 (intV x18))], [])) none) none)) none)
 (some (.brk 0, [(.str (strV (gt s5 0))), (.slice (esV (gt s5 1)) [] true), (.int .i64 (intV (gt s5 2))), (.slice (esV (gt s5 3)) [] true), (.int .i64 (intV (gt s5 4)))], []))) none) none
def r1_Tokens_T1 (O : Orc) (LP : LBody → LBody) (s : Str) : Option (PV × UP) :=
 cnd (decide ((List.length s : Int) > 8192))
 (some ((.tuple [(.slice [] [] false), (.int .i64 3)]), []))
 (callp O 29 [(.str s)] fun x1 => cnd (chk .bool x1)
 (cnd (!(boolV x1))
 (some ((.tuple [(.slice [] [] false), (.int .i64 2)]), []))
 (callp O 30 [(.str s), (.int .i64 0)] fun x3 => cnd (chk (.int .i64) x3)
 (bnd (LP (r1_Tokens_l1 O LP) [(.str s), (.slice [] [] true), (.int .i64 0), (.slice [] [] true), (.int .i64 (intV x3))] []) fun y24 =>
 exIs y24.1 (some 0) (cnd (chkL [.str, (.sl true), (.int .i64), (.sl true), (.int .i64)] y24.2.1) (cnd (chkU [] y24.2.2)
 (some ((.tuple [(.slice (esV (gt y24.2.1 3)) [] false), (.int .i64 0)]), [])) none) none)
 (exIs y24.1 none (cnd (chkL [.str, (.sl true), (.int .i64), (.sl true), (.int .i64)] y24.2.1) (cnd (chkU [] y24.2.2)
 (some ((.tuple [(.slice (esV (gt y24.2.1 1)) [] false), (.int .i64 (intV (gt y24.2.1 2)))]), [])) none) none)
 (none))) none)) none)
noncomputable def r1_Tokens_l1T (s : Str) : ((List GToken) × Int) → Option (((List GToken) × Int) ⊕ ((List GToken) ⊕ Unit))
 | (out_12, i_13) =>
 cnd (decide (i_13 < (List.length s : Int)))
  (bnd (r1_next s i_13) fun y15 =>
  cnd (!y15.2.2)
  (some (.inr (.inr ())))
  (bnd (tapp out_12 [y15.1]) fun y17 =>
  bnd (r1_skip s y15.2.1) fun y19 =>
  some (.inl (y17, y19))))
  (some (.inr (.inl out_12)))
abbrev r1_Tokens_l1R (s : Str) (st : (List GToken) × Int) (l : List PV) (u : UP) : Prop := l = [(.str s), (.slice [] [] true), (.int .i64 0), (.slice (List.map encToken st.1) [] true), (.int .i64 st.2)] ∧ u = []
abbrev r1_Tokens_l1X (s : Str) (p : (List GToken) ⊕ Unit) (r : Ex × List PV × UP) : Prop := elim p (fun (p : (List GToken)) => ∃ (i_21 : Int), r = (Ex.brk 0, [(.str s), (.slice [] [] true), (.int .i64 0), (.slice (List.map encToken p) [] true), (.int .i64 i_21)], [])) (fun q2 => (fun (p : Unit) => ∃ (out_22 : List GToken), ∃ (i_23 : Int), r = (Ex.ret, [(.str s), (.slice [] [] true), (.int .i64 2), (.slice (List.map encToken out_22) [] true), (.int .i64 i_23)], [])) q2)
noncomputable def r1_Tokens_B (s : Str) : Option ((List GToken) × Int) :=
 cnd (decide ((List.length s : Int) > 8192))
 (some (([] : List GToken), 3))
 (bnd (r1_Source s) fun y2 =>
 cnd (!y2)
 (some (([] : List GToken), 2))
 (bnd (r1_skip s 0) fun y4 =>
 bnd (tloop (r1_Tokens_l1T s) ([], y4)) fun e24_2 => elim e24_2
 (fun out_20 =>
 some (out_20, 0))
 (fun p24 =>
 some (([] : List GToken), 2))))
def r1_Tokens_ds : Decs := { decs := [(13, .bool), (16, (.int .i64)), (23, (.int .i64)), (27, (.tup [shToken, (.int .i64), .bool])), (36, (.sl true))], ups := [], loops := [(7, [], ⟨[.str, (.sl true), (.int .i64), (.sl true), (.int .i64)], [], [(some 0, [.str, (.sl true), (.int .i64), (.sl true), (.int .i64)], []), (none, [.str, (.sl true), (.int .i64), (.sl true), (.int .i64)], [])]⟩)] }
set_option maxRecDepth 100000 in
theorem r1_Tokens_t1 (O : Orc) (LP : LBody → LBody) (s : Str) : evalBodyD Tryd.prog (MT 13) r1_Tokens_ds Tryd.f13.ntmps O LP Tryd.f13 [(.str s)] [] = r1_Tokens_T1 O LP s := by kernel_rfl
theorem r1_Tokens_l1_ok (s : Str) : ∀ st l u, r1_Tokens_l1R s st l u → Imp (r1_Tokens_l1T s st) (r1_Tokens_l1 O loopLim l u) (StepR (r1_Tokens_l1R s) (r1_Tokens_l1X s)) := by
 rintro ⟨out_12, i_13⟩ l u ⟨rfl, rfl⟩
 simp only [r1_Tokens_l1T, r1_Tokens_l1]
 refine Imp.chk rfl (Imp.chk rfl ?_)
 try simp only [evs, tys]
 refine Imp.cnd ?_ ?_
 ·refine Imp.call (f := r1_nextE) rfl (fun a h => by first | exact r1_next_spec h | simpa only [evs, tys, evl] using r1_next_spec h) (fun a => by first | rfl | simp only [r1_nextE, evk, chks]) fun y15 hy15 => ?_
  try simp only [r1_nextE, evs, tys]
  refine Imp.cnd ?_ ?_
  ·exact Imp.some (StepR.ret ⟨out_12, i_13, by first | rfl | simp only [evs, tys, evl, elim_inl, elim_inr]⟩)
  ·refine Imp.op (f := fun a => .slice (List.map encToken a) [] true) (fun a h => op_apd (enc := encToken) (by first | rfl | simp only [evs, tys, evl]) (by first | rfl | simp only [evs, tys, evl]) (fun a => by first | rfl | simp only [evs, tys, evc]) h) (fun a => rfl) fun y17 hy17 => ?_
   try simp only [evs, tys]
   refine Imp.call (f := r1_skipE) rfl (fun a h => by first | exact r1_skip_spec h | simpa only [evs, tys, evl] using r1_skip_spec h) (fun a => by first | rfl | simp only [r1_skipE, evk, chks]) fun y19 hy19 => ?_
   try simp only [r1_skipE, evs, tys]
   exact Imp.some (StepR.next ⟨by first | rfl | simp only [evs, tys, evl], rfl⟩)
 ·exact Imp.some (StepR.brk ⟨i_13, by first | rfl | simp only [evs, tys, evl, elim_inl, elim_inr]⟩)
theorem r1_Tokens_imp (s : Str) : Imp (r1_Tokens_B s) (r1_Tokens_T1 O loopLim s) (fun r v => v = (r1_TokensE r, [])) := by
 simp only [r1_Tokens_B, r1_Tokens_T1]
 try simp only [evs, tys]
 refine Imp.cnd ?_ ?_
 ·exact Imp.some (by first | rfl | simp only [r1_TokensE, evs, tys, evl])
 ·refine Imp.call (f := r1_SourceE) rfl (fun a h => by first | exact r1_Source_spec h | simpa only [evs, tys, evl] using r1_Source_spec h) (fun a => by first | rfl | simp only [r1_SourceE, evk, chks]) fun y2 hy2 => ?_
  try simp only [r1_SourceE, evs, tys]
  refine Imp.cnd ?_ ?_
  ·exact Imp.some (by first | rfl | simp only [r1_TokensE, evs, tys, evl])
  ·refine Imp.call (f := r1_skipE) rfl (fun a h => by first | exact r1_skip_spec h | simpa only [evs, tys, evl] using r1_skip_spec h) (fun a => by first | rfl | simp only [r1_skipE, evk, chks]) fun y4 hy4 => ?_
   try simp only [r1_skipE, evs, tys]
   refine Imp.bnd (Imp.loop (r1_Tokens_l1_ok s) ⟨by first | rfl | simp only [evs, tys, evl], rfl⟩) ?_
   rintro (out_20 | p) vy24 hy24
   ·try simp only [elim_inl, elim_inr]
    obtain ⟨i_21, rfl⟩ := hy24
    refine Imp.exHit rfl (Imp.chk rfl (Imp.chk rfl ?_))
    try simp only [evs, tys]
    exact Imp.some (by first | rfl | simp only [r1_TokensE, evs, tys, evl])
   ·try simp only [elim_inl, elim_inr]
    obtain ⟨out_22, i_23, rfl⟩ := hy24
    refine Imp.exMiss rfl ?_
    refine Imp.exHit rfl (Imp.chk rfl (Imp.chk rfl ?_))
    try simp only [evs, tys]
    exact Imp.some (by first | rfl | simp only [r1_TokensE, evs, tys, evl])
theorem r1_Tokens_run {s : Str} {r : (List GToken) × Int} (h : r1_Tokens_B s = some r) : r1_Tokens s = some r := by
 obtain ⟨v, hv, rfl⟩ := r1_Tokens_imp s r h
 exact tO_of (pair_inj r1_TokensEj) (OL_runD r1_Tokens_ds rfl rfl Tryd.func13 ((r1_Tokens_t1 _ _ s).trans hv))
def r6_SameTokens_l1 (O : Orc) (LP : LBody → LBody) : LBody := fun s1 s1u => cnd (chkL [(.sl false), (.sl false), .bool, (.int .i64)] s1) (cnd (chkU [] s1u)
 (cnd (decide ((intV (gt s1 3)) < (List.length (esV (gt s1 0)) : Int)))
 (bnd (ix 2 (.slice (esV (gt s1 0)) [] false) (.int .i64 (intV (gt s1 3)))) fun x7 => cnd (chk (.ref shToken) x7)
 (bnd (ix 2 (.slice (esV (gt s1 1)) [] false) (.int .i64 (intV (gt s1 3)))) fun x9 => cnd (chk (.ref shToken) x9)
 (cnd (!(((intV (gt (aggV (refV x7)) 0)) == (intV (gt (aggV (refV x9)) 0))) && (((strV (gt (aggV (refV x7)) 1)) == (strV (gt (aggV (refV x9)) 1))) && true)))
 (some (.ret, [(.slice (esV (gt s1 0)) [] false), (.slice (esV (gt s1 1)) [] false), (.bool false), (.int .i64 (intV (gt s1 3)))], []))
 (some (.nrm, [(.slice (esV (gt s1 0)) [] false), (.slice (esV (gt s1 1)) [] false), (.bool (boolV (gt s1 2))), (.int .i64 (IntKind.wrap .i64 ((intV (gt s1 3)) + 1)))], []))) none) none)
 (some (.brk 0, [(.slice (esV (gt s1 0)) [] false), (.slice (esV (gt s1 1)) [] false), (.bool (boolV (gt s1 2))), (.int .i64 (intV (gt s1 3)))], []))) none) none
def r6_SameTokens_T1 (O : Orc) (LP : LBody → LBody) (a : List GToken) (b : List GToken) : Option (PV × UP) :=
 cnd ((List.length (List.map encToken a) : Int) != (List.length (List.map encToken b) : Int))
 (some ((.bool false), []))
 (bnd (LP (r6_SameTokens_l1 O LP) [(.slice (List.map encToken a) [] false), (.slice (List.map encToken b) [] false), (.bool false), (.int .i64 0)] []) fun y13 =>
 exIs y13.1 (some 0) (cnd (chkL [(.sl false), (.sl false), .bool, (.int .i64)] y13.2.1) (cnd (chkU [] y13.2.2)
 (some ((.bool true), [])) none) none)
 (exIs y13.1 none (cnd (chkL [(.sl false), (.sl false), .bool, (.int .i64)] y13.2.1) (cnd (chkU [] y13.2.2)
 (some ((.bool (boolV (gt y13.2.1 2))), [])) none) none)
 (none)))
noncomputable def r6_SameTokens_l1T (a : List GToken) (b : List GToken) : Int → Option (Int ⊕ (Unit ⊕ Unit))
 | i_6 =>
 cnd (decide (i_6 < (List.length a : Int)))
  (bnd (nthI a i_6) fun y8 =>
  bnd (nthI b i_6) fun y10 =>
  cnd (!((y8.kind == y10.kind) && ((y8.s == y10.s) && true)))
  (some (.inr (.inr ())))
  (some (.inl (IntKind.wrap .i64 (i_6 + 1)))))
  (some (.inr (.inl ())))
abbrev r6_SameTokens_l1R (a : List GToken) (b : List GToken) (st : Int) (l : List PV) (u : UP) : Prop := l = [(.slice (List.map encToken a) [] false), (.slice (List.map encToken b) [] false), (.bool false), (.int .i64 st)] ∧ u = []
abbrev r6_SameTokens_l1X (a : List GToken) (b : List GToken) (p : Unit ⊕ Unit) (r : Ex × List PV × UP) : Prop := elim p (fun (p : Unit) => ∃ (i_11 : Int), r = (Ex.brk 0, [(.slice (List.map encToken a) [] false), (.slice (List.map encToken b) [] false), (.bool false), (.int .i64 i_11)], [])) (fun q2 => (fun (p : Unit) => ∃ (i_12 : Int), r = (Ex.ret, [(.slice (List.map encToken a) [] false), (.slice (List.map encToken b) [] false), (.bool false), (.int .i64 i_12)], [])) q2)
noncomputable def r6_SameTokens_B (a : List GToken) (b : List GToken) : Option Bool :=
 cnd ((List.length a : Int) != (List.length b : Int))
 (some false)
 (bnd (tloop (r6_SameTokens_l1T a b) 0) fun e13_2 => elim e13_2
 (fun p13 =>
 some true)
 (fun p13 =>
 some false))
def r6_SameTokens_ds : Decs := { decs := [(19, (.ref shToken)), (23, (.ref shToken))], ups := [], loops := [(4, [], ⟨[(.sl false), (.sl false), .bool, (.int .i64)], [], [(some 0, [(.sl false), (.sl false), .bool, (.int .i64)], []), (none, [(.sl false), (.sl false), .bool, (.int .i64)], [])]⟩)] }
set_option maxRecDepth 100000 in
theorem r6_SameTokens_t1 (O : Orc) (LP : LBody → LBody) (a : List GToken) (b : List GToken) : evalBodyD Tryd.prog (MT 14) r6_SameTokens_ds Tryd.f14.ntmps O LP Tryd.f14 [(.slice (List.map encToken a) [] false), (.slice (List.map encToken b) [] false)] [] = r6_SameTokens_T1 O LP a b := by kernel_rfl
theorem r6_SameTokens_l1_ok (a : List GToken) (b : List GToken) : ∀ st l u, r6_SameTokens_l1R a b st l u → Imp (r6_SameTokens_l1T a b st) (r6_SameTokens_l1 O loopLim l u) (StepR (r6_SameTokens_l1R a b) (r6_SameTokens_l1X a b)) := by
 rintro i_6 l u ⟨rfl, rfl⟩
 simp only [r6_SameTokens_l1T, r6_SameTokens_l1]
 refine Imp.chk rfl (Imp.chk rfl ?_)
 try simp only [evs, tys]
 refine Imp.cnd ?_ ?_
 ·refine Imp.op (f := fun a => .ref (encToken a)) (fun a h => op_ix (enc := encToken) (by first | rfl | simp only [evs, tys, evl]) ⟨by first | rfl | simp only [evs, tys, evc], by decide⟩ h) (fun a => chk_GToken a) fun y8 hy8 => ?_
  try simp only [evs, tys]
  refine Imp.op (f := fun a => .ref (encToken a)) (fun a h => op_ix (enc := encToken) (by first | rfl | simp only [evs, tys, evl]) ⟨by first | rfl | simp only [evs, tys, evc], by decide⟩ h) (fun a => chk_GToken a) fun y10 hy10 => ?_
  try simp only [evs, tys]
  refine Imp.cnd ?_ ?_
  ·exact Imp.some (StepR.ret ⟨i_6, by first | rfl | simp only [evs, tys, evl, elim_inl, elim_inr]⟩)
  ·exact Imp.some (StepR.next ⟨by first | rfl | simp only [evs, tys, evl], rfl⟩)
 ·exact Imp.some (StepR.brk ⟨i_6, by first | rfl | simp only [evs, tys, evl, elim_inl, elim_inr]⟩)
theorem r6_SameTokens_imp (a : List GToken) (b : List GToken) : Imp (r6_SameTokens_B a b) (r6_SameTokens_T1 O loopLim a b) (fun r v => v = (r6_SameTokensE r, [])) := by
 simp only [r6_SameTokens_B, r6_SameTokens_T1]
 try simp only [evs, tys]
 refine Imp.cnd ?_ ?_
 ·exact Imp.some (by first | rfl | simp only [r6_SameTokensE, evs, tys, evl])
 ·refine Imp.bnd (Imp.loop (r6_SameTokens_l1_ok a b) ⟨by first | rfl | simp only [evs, tys, evl], rfl⟩) ?_
  rintro (p | p) vy13 hy13
  ·try simp only [elim_inl, elim_inr]
   obtain ⟨i_11, rfl⟩ := hy13
   refine Imp.exHit rfl (Imp.chk rfl (Imp.chk rfl ?_))
   try simp only [evs, tys]
   exact Imp.some (by first | rfl | simp only [r6_SameTokensE, evs, tys, evl])
  ·try simp only [elim_inl, elim_inr]
   obtain ⟨i_12, rfl⟩ := hy13
   refine Imp.exMiss rfl ?_
   refine Imp.exHit rfl (Imp.chk rfl (Imp.chk rfl ?_))
   try simp only [evs, tys]
   exact Imp.some (by first | rfl | simp only [r6_SameTokensE, evs, tys, evl])
theorem r6_SameTokens_run {a : List GToken} {b : List GToken} {r : Bool} (h : r6_SameTokens_B a b = some r) : r6_SameTokens a b = some r := by
 obtain ⟨v, hv, rfl⟩ := r6_SameTokens_imp a b r h
 exact tO_of (pair_inj r6_SameTokensEj) (OL_runD r6_SameTokens_ds rfl rfl Tryd.func14 ((r6_SameTokens_t1 _ _ a b).trans hv))
def to_Number_T1 (O : Orc) (LP : LBody → LBody) (s : Str) : Option (PV × UP) :=
 callp O 32 [(.str s)] fun x1 => cnd (chk (.tup [(.int .i64), (.int .i64)]) x1)
 (cnd ((intV (gt (tupV x1) 0)) != (List.length s : Int))
 (some ((.int .i64 0), []))
 (some ((.int .i64 (intV (gt (tupV x1) 1))), []))) none
noncomputable def to_Number_B (s : Str) : Option Int :=
 bnd (to_number s) fun y2 =>
 cnd (y2.1 != (List.length s : Int))
 (some 0)
 (some y2.2)
def to_Number_ds : Decs := { decs := [(7, (.tup [(.int .i64), (.int .i64)]))], ups := [], loops := [] }
set_option maxRecDepth 100000 in
theorem to_Number_t1 (O : Orc) (LP : LBody → LBody) (s : Str) : evalBodyD Tryd.prog (MT 15) to_Number_ds Tryd.f15.ntmps O LP Tryd.f15 [(.str s)] [] = to_Number_T1 O LP s := by kernel_rfl
theorem to_Number_imp (s : Str) : Imp (to_Number_B s) (to_Number_T1 O loopLim s) (fun r v => v = (to_NumberE r, [])) := by
 simp only [to_Number_B, to_Number_T1]
 try simp only [evs, tys]
 refine Imp.call (f := to_numberE) rfl (fun a h => by first | exact to_number_spec h | simpa only [evs, tys, evl] using to_number_spec h) (fun a => by first | rfl | simp only [to_numberE, evk, chks]) fun y2 hy2 => ?_
 try simp only [to_numberE, evs, tys]
 refine Imp.cnd ?_ ?_
 ·exact Imp.some (by first | rfl | simp only [to_NumberE, evs, tys, evl])
 ·exact Imp.some (by first | rfl | simp only [to_NumberE, evs, tys, evl])
theorem to_Number_run {s : Str} {r : Int} (h : to_Number_B s = some r) : to_Number s = some r := by
 obtain ⟨v, hv, rfl⟩ := to_Number_imp s r h
 exact tO_of (pair_inj to_NumberEj) (OL_runD to_Number_ds rfl rfl Tryd.func15 ((to_Number_t1 _ _ s).trans hv))
def r1_Number_T1 (O : Orc) (LP : LBody → LBody) (s : Str) : Option (PV × UP) :=
 callp O 33 [(.str s)] fun x1 => cnd (chk (.tup [(.int .i64), (.int .i64)]) x1)
 (cnd ((intV (gt (tupV x1) 0)) != (List.length s : Int))
 (some ((.int .i64 0), []))
 (some ((.int .i64 (intV (gt (tupV x1) 1))), []))) none
noncomputable def r1_Number_B (s : Str) : Option Int :=
 bnd (r1_numeral s) fun y2 =>
 cnd (y2.1 != (List.length s : Int))
 (some 0)
 (some y2.2)
def r1_Number_ds : Decs := { decs := [(7, (.tup [(.int .i64), (.int .i64)]))], ups := [], loops := [] }
set_option maxRecDepth 100000 in
theorem r1_Number_t1 (O : Orc) (LP : LBody → LBody) (s : Str) : evalBodyD Tryd.prog (MT 16) r1_Number_ds Tryd.f16.ntmps O LP Tryd.f16 [(.str s)] [] = r1_Number_T1 O LP s := by kernel_rfl
theorem r1_Number_imp (s : Str) : Imp (r1_Number_B s) (r1_Number_T1 O loopLim s) (fun r v => v = (r1_NumberE r, [])) := by
 simp only [r1_Number_B, r1_Number_T1]
 try simp only [evs, tys]
 refine Imp.call (f := r1_numeralE) rfl (fun a h => by first | exact r1_numeral_spec h | simpa only [evs, tys, evl] using r1_numeral_spec h) (fun a => by first | rfl | simp only [r1_numeralE, evk, chks]) fun y2 hy2 => ?_
 try simp only [r1_numeralE, evs, tys]
 refine Imp.cnd ?_ ?_
 ·exact Imp.some (by first | rfl | simp only [r1_NumberE, evs, tys, evl])
 ·exact Imp.some (by first | rfl | simp only [r1_NumberE, evs, tys, evl])
theorem r1_Number_run {s : Str} {r : Int} (h : r1_Number_B s = some r) : r1_Number s = some r := by
 obtain ⟨v, hv, rfl⟩ := r1_Number_imp s r h
 exact tO_of (pair_inj r1_NumberEj) (OL_runD r1_Number_ds rfl rfl Tryd.func16 ((r1_Number_t1 _ _ s).trans hv))
def ls_Source_l1 (O : Orc) (LP : LBody → LBody) : LBody := fun s1 s1u => cnd (chkL [.str, .bool, (.int .i64)] s1) (cnd (chkU [] s1u)
 (cnd (decide ((intV (gt s1 2)) < (List.length (strV (gt s1 0)) : Int)))
 (callp O 35 [(.str (strV (gt s1 0))), (.int .i64 (intV (gt s1 2)))] fun x7 => cnd (chk (.tup [(.int .i64), (.int .i64)]) x7)
 (cnd (decide ((intV (gt (tupV x7) 1)) > 0))
 (callp O 36 [(.int .i64 (intV (gt (tupV x7) 0)))] fun x9 => cnd (chk .bool x9)
 (cnd (boolV x9)
 (some (.nrm, [(.str (strV (gt s1 0))), (.bool (boolV (gt s1 1))), (.int .i64 (IntKind.wrap .i64 ((intV (gt s1 2)) + (intV (gt (tupV x7) 1)))))], []))
 (some (.ret, [(.str (strV (gt s1 0))), (.bool false), (.int .i64 (intV (gt s1 2)))], []))) none)
 (some (.ret, [(.str (strV (gt s1 0))), (.bool false), (.int .i64 (intV (gt s1 2)))], []))) none)
 (some (.brk 0, [(.str (strV (gt s1 0))), (.bool (boolV (gt s1 1))), (.int .i64 (intV (gt s1 2)))], []))) none) none
def ls_Source_T1 (O : Orc) (LP : LBody → LBody) (s : Str) : Option (PV × UP) :=
 bnd (LP (ls_Source_l1 O LP) [(.str s), (.bool false), (.int .i64 0)] []) fun y13 =>
 exIs y13.1 (some 0) (cnd (chkL [.str, .bool, (.int .i64)] y13.2.1) (cnd (chkU [] y13.2.2)
 (some ((.bool true), [])) none) none)
 (exIs y13.1 none (cnd (chkL [.str, .bool, (.int .i64)] y13.2.1) (cnd (chkU [] y13.2.2)
 (some ((.bool (boolV (gt y13.2.1 1))), [])) none) none)
 (none))
noncomputable def ls_Source_l1T (s : Str) : Int → Option (Int ⊕ (Unit ⊕ Unit))
 | i_6 =>
 cnd (decide (i_6 < (List.length s : Int)))
  (bnd (ls_Code s i_6) fun y8 =>
  cnd (decide (y8.2 > 0))
  (bnd (ls_sign y8.1) fun y10 =>
  cnd y10
   (some (.inl (IntKind.wrap .i64 (i_6 + y8.2))))
   (some (.inr (.inr ()))))
  (some (.inr (.inr ()))))
  (some (.inr (.inl ())))
abbrev ls_Source_l1R (s : Str) (st : Int) (l : List PV) (u : UP) : Prop := l = [(.str s), (.bool false), (.int .i64 st)] ∧ u = []
abbrev ls_Source_l1X (s : Str) (p : Unit ⊕ Unit) (r : Ex × List PV × UP) : Prop := elim p (fun (p : Unit) => ∃ (i_11 : Int), r = (Ex.brk 0, [(.str s), (.bool false), (.int .i64 i_11)], [])) (fun q2 => (fun (p : Unit) => ∃ (i_12 : Int), r = (Ex.ret, [(.str s), (.bool false), (.int .i64 i_12)], [])) q2)
noncomputable def ls_Source_B (s : Str) : Option Bool :=
 bnd (tloop (ls_Source_l1T s) 0) fun e13_2 => elim e13_2
 (fun p13 =>
 some true)
 (fun p13 =>
 some false)
def ls_Source_ds : Decs := { decs := [(13, (.tup [(.int .i64), (.int .i64)])), (20, .bool)], ups := [], loops := [(2, [], ⟨[.str, .bool, (.int .i64)], [], [(some 0, [.str, .bool, (.int .i64)], []), (none, [.str, .bool, (.int .i64)], [])]⟩)] }
set_option maxRecDepth 100000 in
theorem ls_Source_t1 (O : Orc) (LP : LBody → LBody) (s : Str) : evalBodyD Tryd.prog (MT 18) ls_Source_ds Tryd.f18.ntmps O LP Tryd.f18 [(.str s)] [] = ls_Source_T1 O LP s := by kernel_rfl
theorem ls_Source_l1_ok (s : Str) : ∀ st l u, ls_Source_l1R s st l u → Imp (ls_Source_l1T s st) (ls_Source_l1 O loopLim l u) (StepR (ls_Source_l1R s) (ls_Source_l1X s)) := by
 rintro i_6 l u ⟨rfl, rfl⟩
 simp only [ls_Source_l1T, ls_Source_l1]
 refine Imp.chk rfl (Imp.chk rfl ?_)
 try simp only [evs, tys]
 refine Imp.cnd ?_ ?_
 ·refine Imp.call (f := ls_CodeE) rfl (fun a h => by first | exact ls_Code_spec h | simpa only [evs, tys, evl] using ls_Code_spec h) (fun a => by first | rfl | simp only [ls_CodeE, evk, chks]) fun y8 hy8 => ?_
  try simp only [ls_CodeE, evs, tys]
  refine Imp.cnd ?_ ?_
  ·refine Imp.call (f := ls_signE) rfl (fun a h => by first | exact ls_sign_spec h | simpa only [evs, tys, evl] using ls_sign_spec h) (fun a => by first | rfl | simp only [ls_signE, evk, chks]) fun y10 hy10 => ?_
   try simp only [ls_signE, evs, tys]
   refine Imp.cnd ?_ ?_
   ·exact Imp.some (StepR.next ⟨by first | rfl | simp only [evs, tys, evl], rfl⟩)
   ·exact Imp.some (StepR.ret ⟨i_6, by first | rfl | simp only [evs, tys, evl, elim_inl, elim_inr]⟩)
  ·exact Imp.some (StepR.ret ⟨i_6, by first | rfl | simp only [evs, tys, evl, elim_inl, elim_inr]⟩)
 ·exact Imp.some (StepR.brk ⟨i_6, by first | rfl | simp only [evs, tys, evl, elim_inl, elim_inr]⟩)
theorem ls_Source_imp (s : Str) : Imp (ls_Source_B s) (ls_Source_T1 O loopLim s) (fun r v => v = (ls_SourceE r, [])) := by
 simp only [ls_Source_B, ls_Source_T1]
 try simp only [evs, tys]
 refine Imp.bnd (Imp.loop (ls_Source_l1_ok s) ⟨by first | rfl | simp only [evs, tys, evl], rfl⟩) ?_
 rintro (p | p) vy13 hy13
 ·try simp only [elim_inl, elim_inr]
  obtain ⟨i_11, rfl⟩ := hy13
  refine Imp.exHit rfl (Imp.chk rfl (Imp.chk rfl ?_))
  try simp only [evs, tys]
  exact Imp.some (by first | rfl | simp only [ls_SourceE, evs, tys, evl])
 ·try simp only [elim_inl, elim_inr]
  obtain ⟨i_12, rfl⟩ := hy13
  refine Imp.exMiss rfl ?_
  refine Imp.exHit rfl (Imp.chk rfl (Imp.chk rfl ?_))
  try simp only [evs, tys]
  exact Imp.some (by first | rfl | simp only [ls_SourceE, evs, tys, evl])
theorem ls_Source_run {s : Str} {r : Bool} (h : ls_Source_B s = some r) : ls_Source s = some r := by
 obtain ⟨v, hv, rfl⟩ := ls_Source_imp s r h
 exact tO_of (pair_inj ls_SourceEj) (OL_runD ls_Source_ds rfl rfl Tryd.func18 ((ls_Source_t1 _ _ s).trans hv))
open Go Go.Ev Go.Ev.PV
def to_gap_T1 (O : Orc) (LP : LBody → LBody) (s : Str) : Option (PV × UP) :=
 bnd (ixStr (.str s) (.int .i64 0)) fun x1 => cnd (chk (.int .u8) x1)
 (cnd ((intV x1) == 9)
 (some ((.int .i64 1), []))
 (cnd ((intV x1) == 10)
 (some ((.int .i64 1), []))
 (cnd ((intV x1) == 13)
 (some ((.int .i64 1), []))
 (cnd ((intV x1) == 32)
 (some ((.int .i64 1), []))
 (cnd ((intV x1) == 44)
 (some ((.int .i64 1), []))
 (callp O 49 [(.str s), (.str [239, 187, 191])] fun x3 => cnd (chk .bool x3)
 (cnd (boolV x3)
 (some ((.int .i64 3), []))
 (cnd ((intV x1) == 35)
 (callp O 50 [(.str s), (.str [13, 10])] fun x5 => cnd (chk (.int .i64) x5)
 (cnd (decide ((intV x5) ≥ 0))
 (some ((.int .i64 (intV x5)), []))
 (some ((.int .i64 (List.length s : Int)), []))) none)
 (some ((.int .i64 0), [])))) none)))))) none
noncomputable def to_gap_B (s : Str) : Option Int :=
 bnd (nthI s 0) fun y2 =>
 cnd ((y2.toNat : Int) == 9)
 (some 1)
 (cnd ((y2.toNat : Int) == 10)
 (some 1)
 (cnd ((y2.toNat : Int) == 13)
 (some 1)
 (cnd ((y2.toNat : Int) == 32)
 (some 1)
 (cnd ((y2.toNat : Int) == 44)
 (some 1)
 (bnd (st_HasPrefix s [239, 187, 191]) fun y4 =>
 cnd y4
 (some 3)
 (cnd ((y2.toNat : Int) == 35)
 (bnd (st_IndexAny s [13, 10]) fun y6 =>
 cnd (decide (y6 ≥ 0))
 (some y6)
 (some (List.length s : Int)))
 (some 0)))))))
def to_gap_ds : Decs := { decs := [(6, (.int .u8)), (28, .bool), (33, (.int .i64))], ups := [], loops := [] }
set_option maxRecDepth 100000 in
theorem to_gap_t1 (O : Orc) (LP : LBody → LBody) (s : Str) : evalBodyD Tryd.prog (MT 27) to_gap_ds Tryd.f27.ntmps O LP Tryd.f27 [(.str s)] [] = to_gap_T1 O LP s := by kernel_rfl
theorem to_gap_imp (s : Str) : Imp (to_gap_B s) (to_gap_T1 O loopLim s) (fun r v => v = (to_gapE r, [])) := by
 simp only [to_gap_B, to_gap_T1]
 try simp only [evs, tys]
 refine Imp.op (f := fun a => .int .u8 (a.toNat : Int)) (fun a h => op_ixStr h) (fun a => rfl) fun y2 hy2 => ?_
 try simp only [evs, tys]
 refine Imp.cnd ?_ ?_
 ·exact Imp.some (by first | rfl | simp only [to_gapE, evs, tys, evl])
 ·refine Imp.cnd ?_ ?_
  ·exact Imp.some (by first | rfl | simp only [to_gapE, evs, tys, evl])
  ·refine Imp.cnd ?_ ?_
   ·exact Imp.some (by first | rfl | simp only [to_gapE, evs, tys, evl])
   ·refine Imp.cnd ?_ ?_
    ·exact Imp.some (by first | rfl | simp only [to_gapE, evs, tys, evl])
    ·refine Imp.cnd ?_ ?_
     ·exact Imp.some (by first | rfl | simp only [to_gapE, evs, tys, evl])
     ·refine Imp.call (f := st_HasPrefixE) rfl (fun a h => by first | exact st_HasPrefix_spec h | simpa only [evs, tys, evl] using st_HasPrefix_spec h) (fun a => by first | rfl | simp only [st_HasPrefixE, evk, chks]) fun y4 hy4 => ?_
      try simp only [st_HasPrefixE, evs, tys]
      refine Imp.cnd ?_ ?_
      ·exact Imp.some (by first | rfl | simp only [to_gapE, evs, tys, evl])
      ·refine Imp.cnd ?_ ?_
       ·refine Imp.call (f := st_IndexAnyE) rfl (fun a h => by first | exact st_IndexAny_spec h | simpa only [evs, tys, evl] using st_IndexAny_spec h) (fun a => by first | rfl | simp only [st_IndexAnyE, evk, chks]) fun y6 hy6 => ?_
        try simp only [st_IndexAnyE, evs, tys]
        refine Imp.cnd ?_ ?_
        ·exact Imp.some (by first | rfl | simp only [to_gapE, evs, tys, evl])
        ·exact Imp.some (by first | rfl | simp only [to_gapE, evs, tys, evl])
       ·exact Imp.some (by first | rfl | simp only [to_gapE, evs, tys, evl])
theorem to_gap_run {s : Str} {r : Int} (h : to_gap_B s = some r) : to_gap s = some r := by
 obtain ⟨v, hv, rfl⟩ := to_gap_imp s r h
 exact tO_of (pair_inj to_gapEj) (OL_runD to_gap_ds rfl rfl Tryd.func27 ((to_gap_t1 _ _ s).trans hv))
def tf_i2_T1 (O : Orc) (LP : LBody → LBody) (u1_10 : List Int) (u1_100 : List Int) (u1_1000 : Bool) : Option (PV × UP) :=
 callp O 17 [(.slice (List.map (PV.int .i64) u1_100) [] false)] fun x1 => cnd (chk (.tup [.str, .bool]) x1)
 (bnd (apdStr (.slice (List.map (PV.int .u8) u1_10) [] true) (.str (strV (gt (tupV x1) 0)))) fun x3 => cnd (chk (.sl true) x3)
 (cnd u1_1000
 (some ((.tuple []), [[], [(10, [(.slice (esV x3) [] true), (.slice [] [] true), (.bool (boolV (gt (tupV x1) 1)))])]]))
 (some ((.tuple []), [[], [(10, [(.slice (esV x3) [] true), (.slice [] [] true), (.bool false)])]]))) none) none
noncomputable def tf_i2_B (u1_10 : List Int) (u1_100 : List Int) (u1_1000 : Bool) : Option GTokenSaid :=
 bnd (ls_Join u1_100) fun y2 =>
 bnd (tapp u1_10 (intsT y2.1)) fun y4 =>
 cnd u1_1000
 (some (GTokenSaid.mk y4 ([] : List Int) y2.2))
 (some (GTokenSaid.mk y4 ([] : List Int) false))
def tf_i2_ds : Decs := { decs := [(9, (.tup [.str, .bool])), (20, (.sl true))], ups := [], loops := [] }
set_option maxRecDepth 100000 in
theorem tf_i2_t1 (O : Orc) (LP : LBody → LBody) (u1_10 : List Int) (u1_100 : List Int) (u1_1000 : Bool) : evalBodyD Tryd.prog (MT 86) tf_i2_ds Tryd.f86.ntmps O LP Tryd.f86 [(.ptr 2 10 0)] [[], [(10, [(.slice (List.map (PV.int .u8) u1_10) [] true), (.slice (List.map (PV.int .i64) u1_100) [] true), (.bool u1_1000)])]] = tf_i2_T1 O LP u1_10 u1_100 u1_1000 := by kernel_rfl
theorem tf_i2_imp (u1_10 : List Int) (u1_100 : List Int) (u1_1000 : Bool) : Imp (tf_i2_B u1_10 u1_100 u1_1000) (tf_i2_T1 O loopLim u1_10 u1_100 u1_1000) (fun r v => v = (tf_i2E r, (tf_i2U u1_10 u1_100 u1_1000 r))) := by
 simp only [tf_i2_B, tf_i2_T1]
 try simp only [evs, tys]
 refine Imp.call (f := ls_JoinE) rfl (fun a h => by first | exact ls_Join_spec h | simpa only [evs, tys, evl] using ls_Join_spec h) (fun a => by first | rfl | simp only [ls_JoinE, evk, chks]) fun y2 hy2 => ?_
 try simp only [ls_JoinE, evs, tys]
 refine Imp.op (f := fun a => .slice (List.map (PV.int .u8) a) [] true) (fun a h => op_apdStr (by first | rfl | simp only [evs, tys, evl]) h) (fun a => rfl) fun y4 hy4 => ?_
 try simp only [evs, tys]
 refine Imp.cnd ?_ ?_
 ·exact Imp.some (by first | rfl | simp only [tf_i2E, tf_i2U, evs, tys, evl])
 ·exact Imp.some (by first | rfl | simp only [tf_i2E, tf_i2U, evs, tys, evl])
theorem tf_i2_run {u1_10 : List Int} {u1_100 : List Int} {u1_1000 : Bool} {r : GTokenSaid} (h : tf_i2_B u1_10 u1_100 u1_1000 = some r) : tf_i2 u1_10 u1_100 u1_1000 = some r := by
 obtain ⟨v, hv, rfl⟩ := tf_i2_imp u1_10 u1_100 u1_1000 r h
 exact tO_of (fun a b h => tf_i2Ej u1_10 u1_100 u1_1000 a b h) (OL_runD tf_i2_ds rfl rfl Tryd.func86 ((tf_i2_t1 _ _ u1_10 u1_100 u1_1000).trans hv))
def te_i1_T1 (O : Orc) (LP : LBody → LBody) (s : Str) (u0_10 : List Int) (u0_100 : List Int) (u0_1000 : Bool) : Option (PV × UP) :=
 callp O 49 [(.str s), (.str [117])] fun x1 => cnd (chk .bool x1)
 (cnd (boolV x1)
 (bnd (slcLo 0 (.str s) (.int .i64 1)) fun x3 => cnd (chk .str x3)
 (callp O 100 [(.str (strV x3))] fun x5 => cnd (chk (.tup [(.int .i64), .bool]) x5)
 (cnd (!(boolV (gt (tupV x5) 1)))
 (some ((.int .i64 0), [[(10, [(.slice (List.map (PV.int .u8) u0_10) [] true), (.slice (List.map (PV.int .i64) u0_100) [] true), (.bool u0_1000)])]]))
 (bnd (apd 1 (.slice (List.map (PV.int .i64) u0_100) [] true) (.slice [(.int .i64 (intV (gt (tupV x5) 0)))] [] true)) fun x7 => cnd (chk (.sl true) x7)
 (some ((.int .i64 5), [[(10, [(.slice (List.map (PV.int .u8) u0_10) [] true), (.slice (esV x7) [] true), (.bool u0_1000)])]])) none)) none) none)
 (cnd (s == ([] : Str))
 (some ((.int .i64 0), [[(10, [(.slice (List.map (PV.int .u8) u0_10) [] true), (.slice (List.map (PV.int .i64) u0_100) [] true), (.bool u0_1000)])]]))
 (bnd (ixStr (.str s) (.int .i64 0)) fun x9 => cnd (chk (.int .u8) x9)
 (callp O 54 [(.str [34, 92, 47, 98, 102, 110, 114, 116]), (.int .u8 (intV x9))] fun x11 => cnd (chk (.int .i64) x11)
 (cnd (decide ((intV x11) < 0))
 (some ((.int .i64 0), [[(10, [(.slice (List.map (PV.int .u8) u0_10) [] true), (.slice (List.map (PV.int .i64) u0_100) [] true), (.bool u0_1000)])]]))
 (bnd (O 86 [(.ptr 2 10 0)] [[], [(10, [(.slice (List.map (PV.int .u8) u0_10) [] true), (.slice (List.map (PV.int .i64) u0_100) [] true), (.bool u0_1000)])]]) fun x13 => cnd (chkU [[], [(10, [(.sl true), (.sl true), .bool])]] x13.2) (cnd (chk (.tup []) x13.1)
 (bnd (ixStr (.str [34, 92, 47, 8, 12, 10, 13, 9]) (.int .i64 (intV x11))) fun x15 => cnd (chk (.int .u8) x15)
 (bnd (apd 1 (.slice (esV (gt (boxI (frI x13.2 1) 0) 0)) [] true) (.slice [(.int .u8 (intV x15))] [] true)) fun x17 => cnd (chk (.sl true) x17)
 (some ((.int .i64 1), [[(10, [(.slice (esV x17) [] true), (.slice (esV (gt (boxI (frI x13.2 1) 0) 1)) [] true), (.bool (boolV (gt (boxI (frI x13.2 1) 0) 2)))])]])) none) none) none) none)) none) none))) none
noncomputable def te_i1_B (s : Str) (u0_10 : List Int) (u0_100 : List Int) (u0_1000 : Bool) : Option (Int × GTokenSaid) :=
 bnd (st_HasPrefix s [117]) fun y2 =>
 cnd y2
 (bnd (tslc s 1 (List.length s)) fun y4 =>
 bnd (to_Unit y4) fun y6 =>
 cnd (!y6.2)
 (some (0, (GTokenSaid.mk u0_10 u0_100 u0_1000)))
 (bnd (tapp u0_100 [y6.1]) fun y8 =>
 some (5, (GTokenSaid.mk u0_10 y8 u0_1000))))
 (cnd (s == ([] : Str))
 (some (0, (GTokenSaid.mk u0_10 u0_100 u0_1000)))
 (bnd (nthI s 0) fun y10 =>
 bnd (st_IndexByte [34, 92, 47, 98, 102, 110, 114, 116] (y10.toNat : Int)) fun y12 =>
 cnd (decide (y12 < 0))
 (some (0, (GTokenSaid.mk u0_10 u0_100 u0_1000)))
 (bnd (tf_i2 u0_10 u0_100 u0_1000) fun y14 =>
 bnd (nthI ([34, 92, 47, 8, 12, 10, 13, 9] : Str) y12) fun y16 =>
 bnd (tapp y14.b [(y16.toNat : Int)]) fun y18 =>
 some (1, (GTokenSaid.mk y18 y14.units y14.ok)))))
def te_i1_ds : Decs := { decs := [(9, .bool), (12, .str), (13, (.tup [(.int .i64), .bool])), (25, (.sl true)), (31, (.int .u8)), (32, (.int .i64)), (36, (.tup [])), (43, (.int .u8)), (45, (.sl true))], ups := [(36, [[], [(10, [(.sl true), (.sl true), .bool])]])], loops := [] }
set_option maxRecDepth 100000 in
theorem te_i1_t1 (O : Orc) (LP : LBody → LBody) (s : Str) (u0_10 : List Int) (u0_100 : List Int) (u0_1000 : Bool) : evalBodyD Tryd.prog (MT 85) te_i1_ds Tryd.f85.ntmps O LP Tryd.f85 [(.ptr 1 10 0), (.str s)] [[(10, [(.slice (List.map (PV.int .u8) u0_10) [] true), (.slice (List.map (PV.int .i64) u0_100) [] true), (.bool u0_1000)])]] = te_i1_T1 O LP s u0_10 u0_100 u0_1000 := by kernel_rfl
theorem te_i1_imp (s : Str) (u0_10 : List Int) (u0_100 : List Int) (u0_1000 : Bool) : Imp (te_i1_B s u0_10 u0_100 u0_1000) (te_i1_T1 O loopLim s u0_10 u0_100 u0_1000) (fun r v => v = (te_i1E r, (te_i1U s u0_10 u0_100 u0_1000 r))) := by
 simp only [te_i1_B, te_i1_T1]
 try simp only [evs, tys]
 refine Imp.call (f := st_HasPrefixE) rfl (fun a h => by first | exact st_HasPrefix_spec h | simpa only [evs, tys, evl] using st_HasPrefix_spec h) (fun a => by first | rfl | simp only [st_HasPrefixE, evk, chks]) fun y2 hy2 => ?_
 try simp only [st_HasPrefixE, evs, tys]
 refine Imp.cnd ?_ ?_
 ·refine Imp.op (f := fun a => .str a) (fun a h => op_sslcLo h) (fun a => rfl) fun y4 hy4 => ?_
  try simp only [evs, tys]
  refine Imp.call (f := to_UnitE) rfl (fun a h => by first | exact to_Unit_spec h | simpa only [evs, tys, evl] using to_Unit_spec h) (fun a => by first | rfl | simp only [to_UnitE, evk, chks]) fun y6 hy6 => ?_
  try simp only [to_UnitE, evs, tys]
  refine Imp.cnd ?_ ?_
  ·exact Imp.some (by first | rfl | simp only [te_i1E, te_i1U, evs, tys, evl])
  ·refine Imp.op (f := fun a => .slice (List.map (PV.int .i64) a) [] true) (fun a h => op_apd (enc := (PV.int .i64)) (by first | rfl | simp only [evs, tys, evl]) (by first | rfl | simp only [evs, tys, evl]) (fun a => by first | rfl | simp only [evs, tys, evc]) h) (fun a => rfl) fun y8 hy8 => ?_
   try simp only [evs, tys]
   exact Imp.some (by first | rfl | simp only [te_i1E, te_i1U, evs, tys, evl])
 ·refine Imp.cnd ?_ ?_
  ·exact Imp.some (by first | rfl | simp only [te_i1E, te_i1U, evs, tys, evl])
  ·refine Imp.op (f := fun a => .int .u8 (a.toNat : Int)) (fun a h => op_ixStr h) (fun a => rfl) fun y10 hy10 => ?_
   try simp only [evs, tys]
   refine Imp.call (f := st_IndexByteE) rfl (fun a h => by first | exact st_IndexByte_spec h | simpa only [evs, tys, evl] using st_IndexByte_spec h) (fun a => by first | rfl | simp only [st_IndexByteE, evk, chks]) fun y12 hy12 => ?_
   try simp only [st_IndexByteE, evs, tys]
   refine Imp.cnd ?_ ?_
   ·exact Imp.some (by first | rfl | simp only [te_i1E, te_i1U, evs, tys, evl])
   ·refine Imp.gcall (f := tf_i2E) (fu := fun a => tf_i2U u0_10 u0_100 u0_1000 a) (fun a h => by first | exact tf_i2_spec h | (have h' := tf_i2_spec h; simp only [evs, tys, evl, tf_i2U] at h'; exact h')) (fun a => by first | rfl | simp only [tf_i2E, evk, chks]) (fun a => by first | rfl | (simp only [tf_i2U, evs, tys]; rfl)) fun y14 hy14 => ?_
    try simp only [tf_i2E, tf_i2U, evs, tys]
    refine Imp.op (f := fun a => .int .u8 (a.toNat : Int)) (fun a h => op_ixStr h) (fun a => rfl) fun y16 hy16 => ?_
    try simp only [evs, tys]
    refine Imp.op (f := fun a => .slice (List.map (PV.int .u8) a) [] true) (fun a h => op_apd (enc := (PV.int .u8)) (by first | rfl | simp only [evs, tys, evl]) (by first | rfl | simp only [evs, tys, evl]) (fun a => by first | rfl | simp only [evs, tys, evc]) h) (fun a => rfl) fun y18 hy18 => ?_
    try simp only [evs, tys]
    exact Imp.some (by first | rfl | simp only [te_i1E, te_i1U, evs, tys, evl])
theorem te_i1_run {s : Str} {u0_10 : List Int} {u0_100 : List Int} {u0_1000 : Bool} {r : Int × GTokenSaid} (h : te_i1_B s u0_10 u0_100 u0_1000 = some r) : te_i1 s u0_10 u0_100 u0_1000 = some r := by
 obtain ⟨v, hv, rfl⟩ := te_i1_imp s u0_10 u0_100 u0_1000 r h
 exact tO_of (fun a b h => te_i1Ej s u0_10 u0_100 u0_1000 a b h) (OL_runD te_i1_ds rfl rfl Tryd.func85 ((te_i1_t1 _ _ s u0_10 u0_100 u0_1000).trans hv))
def tf_i3_T1 (O : Orc) (LP : LBody → LBody) (u0_10 : List Int) (u0_100 : List Int) (u0_1000 : Bool) : Option (PV × UP) :=
 callp O 17 [(.slice (List.map (PV.int .i64) u0_100) [] false)] fun x1 => cnd (chk (.tup [.str, .bool]) x1)
 (bnd (apdStr (.slice (List.map (PV.int .u8) u0_10) [] true) (.str (strV (gt (tupV x1) 0)))) fun x3 => cnd (chk (.sl true) x3)
 (cnd u0_1000
 (some ((.tuple []), [[(10, [(.slice (esV x3) [] true), (.slice [] [] true), (.bool (boolV (gt (tupV x1) 1)))])]]))
 (some ((.tuple []), [[(10, [(.slice (esV x3) [] true), (.slice [] [] true), (.bool false)])]]))) none) none
noncomputable def tf_i3_B (u0_10 : List Int) (u0_100 : List Int) (u0_1000 : Bool) : Option GTokenSaid :=
 bnd (ls_Join u0_100) fun y2 =>
 bnd (tapp u0_10 (intsT y2.1)) fun y4 =>
 cnd u0_1000
 (some (GTokenSaid.mk y4 ([] : List Int) y2.2))
 (some (GTokenSaid.mk y4 ([] : List Int) false))
def tf_i3_ds : Decs := { decs := [(9, (.tup [.str, .bool])), (20, (.sl true))], ups := [], loops := [] }
set_option maxRecDepth 100000 in
theorem tf_i3_t1 (O : Orc) (LP : LBody → LBody) (u0_10 : List Int) (u0_100 : List Int) (u0_1000 : Bool) : evalBodyD Tryd.prog (MT 86) tf_i3_ds Tryd.f86.ntmps O LP Tryd.f86 [(.ptr 1 10 0)] [[(10, [(.slice (List.map (PV.int .u8) u0_10) [] true), (.slice (List.map (PV.int .i64) u0_100) [] true), (.bool u0_1000)])]] = tf_i3_T1 O LP u0_10 u0_100 u0_1000 := by kernel_rfl
theorem tf_i3_imp (u0_10 : List Int) (u0_100 : List Int) (u0_1000 : Bool) : Imp (tf_i3_B u0_10 u0_100 u0_1000) (tf_i3_T1 O loopLim u0_10 u0_100 u0_1000) (fun r v => v = (tf_i3E r, (tf_i3U u0_10 u0_100 u0_1000 r))) := by
 simp only [tf_i3_B, tf_i3_T1]
 try simp only [evs, tys]
 refine Imp.call (f := ls_JoinE) rfl (fun a h => by first | exact ls_Join_spec h | simpa only [evs, tys, evl] using ls_Join_spec h) (fun a => by first | rfl | simp only [ls_JoinE, evk, chks]) fun y2 hy2 => ?_
 try simp only [ls_JoinE, evs, tys]
 refine Imp.op (f := fun a => .slice (List.map (PV.int .u8) a) [] true) (fun a h => op_apdStr (by first | rfl | simp only [evs, tys, evl]) h) (fun a => rfl) fun y4 hy4 => ?_
 try simp only [evs, tys]
 refine Imp.cnd ?_ ?_
 ·exact Imp.some (by first | rfl | simp only [tf_i3E, tf_i3U, evs, tys, evl])
 ·exact Imp.some (by first | rfl | simp only [tf_i3E, tf_i3U, evs, tys, evl])
theorem tf_i3_run {u0_10 : List Int} {u0_100 : List Int} {u0_1000 : Bool} {r : GTokenSaid} (h : tf_i3_B u0_10 u0_100 u0_1000 = some r) : tf_i3 u0_10 u0_100 u0_1000 = some r := by
 obtain ⟨v, hv, rfl⟩ := tf_i3_imp u0_10 u0_100 u0_1000 r h
 exact tO_of (fun a b h => tf_i3Ej u0_10 u0_100 u0_1000 a b h) (OL_runD tf_i3_ds rfl rfl Tryd.func86 ((tf_i3_t1 _ _ u0_10 u0_100 u0_1000).trans hv))
def to_Quoted_l1 (O : Orc) (LP : LBody → LBody) : LBody := fun s1 s1u => cnd (chkL [.str, (.func 53 [] []), .str, (.int .i64), (.ptr 0 10 0), (.int .i64), (.sl true), (.sl true), .bool] s1) (cnd (chkU [] s1u)
 (cnd (decide ((intV (gt s1 5)) ≥ (List.length (strV (gt s1 0)) : Int)))
 (some (.ret, [(.str (strV (gt s1 0))), (.func (.func 53) [] []), (.str []), (.int .i64 0), (.ptr 0 10 0), (.int .i64 (intV (gt s1 5))), (.slice (esV (gt s1 6)) [] true), (.slice (esV (gt s1 7)) [] true), (.bool (boolV (gt s1 8)))], []))
 (bnd (ixStr (.str (strV (gt s1 0))) (.int .i64 (intV (gt s1 5)))) fun x24 => cnd (chk (.int .u8) x24)
 (cnd ((intV x24) == 34)
 (some (.brk 0, [(.str (strV (gt s1 0))), (.func (.func 53) [] []), (.str (strV (gt s1 2))), (.int .i64 (intV (gt s1 3))), (.ptr 0 10 0), (.int .i64 (intV (gt s1 5))), (.slice (esV (gt s1 6)) [] true), (.slice (esV (gt s1 7)) [] true), (.bool (boolV (gt s1 8)))], []))
 (bnd (ixStr (.str (strV (gt s1 0))) (.int .i64 (intV (gt s1 5)))) fun x26 => cnd (chk (.int .u8) x26)
 (cnd ((intV x26) == 92)
 (bnd (slcLo 0 (.str (strV (gt s1 0))) (.int .i64 (IntKind.wrap .i64 ((intV (gt s1 5)) + 1)))) fun x28 => cnd (chk .str x28)
 (bnd (O 85 [(.ptr 1 10 0), (.str (strV x28))] [[(10, [(.slice (esV (gt s1 6)) [] true), (.slice (esV (gt s1 7)) [] true), (.bool (boolV (gt s1 8)))])]]) fun x30 => cnd (chkU [[(10, [(.sl true), (.sl true), .bool])]] x30.2) (cnd (chk (.int .i64) x30.1)
 (cnd ((intV x30.1) == 0)
 (some (.ret, [(.str (strV (gt s1 0))), (.func (.func 53) [] []), (.str []), (.int .i64 0), (.ptr 0 10 0), (.int .i64 (intV (gt s1 5))), (.slice (esV (gt (boxI (frI x30.2 0) 0) 0)) [] true), (.slice (esV (gt (boxI (frI x30.2 0) 0) 1)) [] true), (.bool (boolV (gt (boxI (frI x30.2 0) 0) 2)))], []))
 (some (.nrm, [(.str (strV (gt s1 0))), (.func (.func 53) [] []), (.str (strV (gt s1 2))), (.int .i64 (intV (gt s1 3))), (.ptr 0 10 0), (.int .i64 (IntKind.wrap .i64 ((intV (gt s1 5)) + (IntKind.wrap .i64 (1 + (intV x30.1)))))), (.slice (esV (gt (boxI (frI x30.2 0) 0) 0)) [] true), (.slice (esV (gt (boxI (frI x30.2 0) 0) 1)) [] true), (.bool (boolV (gt (boxI (frI x30.2 0) 0) 2)))], []))) none) none) none)
 (bnd (ixStr (.str (strV (gt s1 0))) (.int .i64 (intV (gt s1 5)))) fun x32 => cnd (chk (.int .u8) x32)
 (callp O 53 [(.int .u8 (intV x32))] fun x34 => cnd (chk .bool x34)
 (cnd (!(boolV x34))
 (some (.ret, [(.str (strV (gt s1 0))), (.func (.func 53) [] []), (.str []), (.int .i64 0), (.ptr 0 10 0), (.int .i64 (intV (gt s1 5))), (.slice (esV (gt s1 6)) [] true), (.slice (esV (gt s1 7)) [] true), (.bool (boolV (gt s1 8)))], []))
 (bnd (O 86 [(.ptr 1 10 0)] [[(10, [(.slice (esV (gt s1 6)) [] true), (.slice (esV (gt s1 7)) [] true), (.bool (boolV (gt s1 8)))])]]) fun x36 => cnd (chkU [[(10, [(.sl true), (.sl true), .bool])]] x36.2) (cnd (chk (.tup []) x36.1)
 (bnd (ixStr (.str (strV (gt s1 0))) (.int .i64 (intV (gt s1 5)))) fun x38 => cnd (chk (.int .u8) x38)
 (bnd (apd 1 (.slice (esV (gt (boxI (frI x36.2 0) 0) 0)) [] true) (.slice [(.int .u8 (intV x38))] [] true)) fun x40 => cnd (chk (.sl true) x40)
 (some (.nrm, [(.str (strV (gt s1 0))), (.func (.func 53) [] []), (.str (strV (gt s1 2))), (.int .i64 (intV (gt s1 3))), (.ptr 0 10 0), (.int .i64 (IntKind.wrap .i64 ((intV (gt s1 5)) + 1))), (.slice (esV x40) [] true), (.slice (esV (gt (boxI (frI x36.2 0) 0) 1)) [] true), (.bool (boolV (gt (boxI (frI x36.2 0) 0) 2)))], [])) none) none) none) none)) none) none)) none)) none)) none) none
def to_Quoted_T1 (O : Orc) (LP : LBody → LBody) (s : Str) : Option (PV × UP) :=
 bnd (LP (to_Quoted_l1 O LP) [(.str s), (.func (.func 53) [] []), (.str []), (.int .i64 0), (.ptr 0 10 0), (.int .i64 1), (.slice [] [] true), (.slice [] [] true), (.bool true)] []) fun y50 =>
 exIs y50.1 none (cnd (chkL [.str, (.func 53 [] []), .str, (.int .i64), (.ptr 0 10 0), (.int .i64), (.sl true), (.sl true), .bool] y50.2.1) (cnd (chkU [] y50.2.2)
 (some ((.tuple [(.str (strV (gt y50.2.1 2))), (.int .i64 (intV (gt y50.2.1 3)))]), [])) none) none)
 (exIs y50.1 (some 0) (cnd (chkL [.str, (.func 53 [] []), .str, (.int .i64), (.ptr 0 10 0), (.int .i64), (.sl true), (.sl true), .bool] y50.2.1) (cnd (chkU [] y50.2.2)
 (bnd (O 86 [(.ptr 1 10 0)] [[(10, [(.slice (esV (gt y50.2.1 6)) [] true), (.slice (esV (gt y50.2.1 7)) [] true), (.bool (boolV (gt y50.2.1 8)))])]]) fun x51 => cnd (chkU [[(10, [(.sl true), (.sl true), .bool])]] x51.2) (cnd (chk (.tup []) x51.1)
 (cnd (!(boolV (gt (boxI (frI x51.2 0) 0) 2)))
 (some ((.tuple [(.str []), (.int .i64 0)]), []))
 (bnd (toStr (.slice (esV (gt (boxI (frI x51.2 0) 0) 0)) [] false)) fun x53 => cnd (chk .str x53)
 (some ((.tuple [(.str (strV x53)), (.int .i64 (IntKind.wrap .i64 ((intV (gt y50.2.1 5)) + 1)))]), [])) none)) none) none) none) none)
 (none))
noncomputable def to_Quoted_l1T (s : Str) : (Int × (List Int) × (List Int) × Bool) → Option ((Int × (List Int) × (List Int) × Bool) ⊕ (Unit ⊕ (Int × (List Int) × (List Int) × Bool)))
 | (i_20, b_21, b_22, b_23) =>
 cnd (decide (i_20 ≥ (List.length s : Int)))
  (some (.inr (.inl ())))
  (bnd (nthI s i_20) fun y25 =>
  cnd ((y25.toNat : Int) == 34)
  (some (.inr (.inr (i_20, b_21, b_22, b_23))))
  (bnd (nthI s i_20) fun y27 =>
  cnd ((y27.toNat : Int) == 92)
   (bnd (tslc s (IntKind.wrap .i64 (i_20 + 1)) (List.length s)) fun y29 =>
   bnd (te_i1 y29 b_21 b_22 b_23) fun y31 =>
   cnd (y31.1 == 0)
   (some (.inr (.inl ())))
   (some (.inl ((IntKind.wrap .i64 (i_20 + (IntKind.wrap .i64 (1 + y31.1)))), y31.2.b, y31.2.units, y31.2.ok))))
   (bnd (nthI s i_20) fun y33 =>
   bnd (to_plain (y33.toNat : Int)) fun y35 =>
   cnd (!y35)
   (some (.inr (.inl ())))
   (bnd (tf_i3 b_21 b_22 b_23) fun y37 =>
   bnd (nthI s i_20) fun y39 =>
   bnd (tapp y37.b [(y39.toNat : Int)]) fun y41 =>
   some (.inl ((IntKind.wrap .i64 (i_20 + 1)), y41, y37.units, y37.ok))))))
abbrev to_Quoted_l1R (s : Str) (st : Int × (List Int) × (List Int) × Bool) (l : List PV) (u : UP) : Prop := l = [(.str s), (.func (.func 53) [] []), (.str []), (.int .i64 0), (.ptr 0 10 0), (.int .i64 st.1), (.slice (List.map (PV.int .u8) st.2.1) [] true), (.slice (List.map (PV.int .i64) st.2.2.1) [] true), (.bool st.2.2.2)] ∧ u = []
abbrev to_Quoted_l1X (s : Str) (p : Unit ⊕ (Int × (List Int) × (List Int) × Bool)) (r : Ex × List PV × UP) : Prop := elim p (fun (p : Unit) => ∃ (i_42 : Int), ∃ (b_43 : List Int), ∃ (b_44 : List Int), ∃ (b_45 : Bool), r = (Ex.ret, [(.str s), (.func (.func 53) [] []), (.str []), (.int .i64 0), (.ptr 0 10 0), (.int .i64 i_42), (.slice (List.map (PV.int .u8) b_43) [] true), (.slice (List.map (PV.int .i64) b_44) [] true), (.bool b_45)], [])) (fun q2 => (fun (p : Int × (List Int) × (List Int) × Bool) => r = (Ex.brk 0, [(.str s), (.func (.func 53) [] []), (.str []), (.int .i64 0), (.ptr 0 10 0), (.int .i64 p.1), (.slice (List.map (PV.int .u8) p.2.1) [] true), (.slice (List.map (PV.int .i64) p.2.2.1) [] true), (.bool p.2.2.2)], [])) q2)
noncomputable def to_Quoted_B (s : Str) : Option (Str × Int) :=
 bnd (tloop (to_Quoted_l1T s) (1, [], [], true)) fun e50_2 => elim e50_2
 (fun p50 =>
 some ([], 0))
 (fun p50 =>
 bnd (tf_i3 p50.2.1 p50.2.2.1 p50.2.2.2) fun y52 =>
 cnd (!y52.ok)
 (some ([], 0))
 (bnd (some (bytesT y52.b)) fun y54 =>
 some (y54, (IntKind.wrap .i64 (p50.1 + 1)))))
def to_Quoted_ds : Decs := { decs := [(19, (.int .u8)), (24, (.int .u8)), (30, .str), (31, (.int .i64)), (42, (.int .u8)), (43, .bool), (46, (.tup [])), (54, (.int .u8)), (56, (.sl true)), (62, (.tup [])), (72, .str)], ups := [(31, [[(10, [(.sl true), (.sl true), .bool])]]), (46, [[(10, [(.sl true), (.sl true), .bool])]]), (62, [[(10, [(.sl true), (.sl true), .bool])]])], loops := [(3, [(10, 3)], ⟨[.str, (.func 53 [] []), .str, (.int .i64), (.ptr 0 10 0), (.int .i64), (.sl true), (.sl true), .bool], [], [(none, [.str, (.func 53 [] []), .str, (.int .i64), (.ptr 0 10 0), (.int .i64), (.sl true), (.sl true), .bool], []), (some 0, [.str, (.func 53 [] []), .str, (.int .i64), (.ptr 0 10 0), (.int .i64), (.sl true), (.sl true), .bool], [])]⟩)] }
set_option maxRecDepth 100000 in
theorem to_Quoted_t1 (O : Orc) (LP : LBody → LBody) (s : Str) : evalBodyD Tryd.prog (MT 52) to_Quoted_ds Tryd.f52.ntmps O LP Tryd.f52 [(.str s), (.func (.func 53) [] [])] [] = to_Quoted_T1 O LP s := by kernel_rfl
theorem to_Quoted_l1_ok (s : Str) : ∀ st l u, to_Quoted_l1R s st l u → Imp (to_Quoted_l1T s st) (to_Quoted_l1 O loopLim l u) (StepR (to_Quoted_l1R s) (to_Quoted_l1X s)) := by
 rintro ⟨i_20, b_21, b_22, b_23⟩ l u ⟨rfl, rfl⟩
 simp only [to_Quoted_l1T, to_Quoted_l1]
 refine Imp.chk rfl (Imp.chk rfl ?_)
 try simp only [evs, tys]
 refine Imp.cnd ?_ ?_
 ·exact Imp.some (StepR.ret ⟨i_20, b_21, b_22, b_23, by first | rfl | simp only [evs, tys, evl, elim_inl, elim_inr]⟩)
 ·refine Imp.op (f := fun a => .int .u8 (a.toNat : Int)) (fun a h => op_ixStr h) (fun a => rfl) fun y25 hy25 => ?_
  try simp only [evs, tys]
  refine Imp.cnd ?_ ?_
  ·exact Imp.some (StepR.brk (by first | rfl | simp only [evs, tys, evl, elim_inl, elim_inr]))
  ·refine Imp.op (f := fun a => .int .u8 (a.toNat : Int)) (fun a h => op_ixStr h) (fun a => rfl) fun y27 hy27 => ?_
   try simp only [evs, tys]
   refine Imp.cnd ?_ ?_
   ·refine Imp.op (f := fun a => .str a) (fun a h => op_sslcLo h) (fun a => rfl) fun y29 hy29 => ?_
    try simp only [evs, tys]
    refine Imp.gcall (f := te_i1E) (fu := fun a => te_i1U y29 b_21 b_22 b_23 a) (fun a h => by first | exact te_i1_spec h | (have h' := te_i1_spec h; simp only [evs, tys, evl, te_i1U] at h'; exact h')) (fun a => by first | rfl | simp only [te_i1E, evk, chks]) (fun a => by first | rfl | (simp only [te_i1U, evs, tys]; rfl)) fun y31 hy31 => ?_
    try simp only [te_i1E, te_i1U, evs, tys]
    refine Imp.cnd ?_ ?_
    ·exact Imp.some (StepR.ret ⟨i_20, y31.2.b, y31.2.units, y31.2.ok, by first | rfl | simp only [evs, tys, evl, elim_inl, elim_inr]⟩)
    ·exact Imp.some (StepR.next ⟨by first | rfl | simp only [evs, tys, evl], rfl⟩)
   ·refine Imp.op (f := fun a => .int .u8 (a.toNat : Int)) (fun a h => op_ixStr h) (fun a => rfl) fun y33 hy33 => ?_
    try simp only [evs, tys]
    refine Imp.call (f := to_plainE) rfl (fun a h => by first | exact to_plain_spec h | simpa only [evs, tys, evl] using to_plain_spec h) (fun a => by first | rfl | simp only [to_plainE, evk, chks]) fun y35 hy35 => ?_
    try simp only [to_plainE, evs, tys]
    refine Imp.cnd ?_ ?_
    ·exact Imp.some (StepR.ret ⟨i_20, b_21, b_22, b_23, by first | rfl | simp only [evs, tys, evl, elim_inl, elim_inr]⟩)
    ·refine Imp.gcall (f := tf_i3E) (fu := fun a => tf_i3U b_21 b_22 b_23 a) (fun a h => by first | exact tf_i3_spec h | (have h' := tf_i3_spec h; simp only [evs, tys, evl, tf_i3U] at h'; exact h')) (fun a => by first | rfl | simp only [tf_i3E, evk, chks]) (fun a => by first | rfl | (simp only [tf_i3U, evs, tys]; rfl)) fun y37 hy37 => ?_
     try simp only [tf_i3E, tf_i3U, evs, tys]
     refine Imp.op (f := fun a => .int .u8 (a.toNat : Int)) (fun a h => op_ixStr h) (fun a => rfl) fun y39 hy39 => ?_
     try simp only [evs, tys]
     refine Imp.op (f := fun a => .slice (List.map (PV.int .u8) a) [] true) (fun a h => op_apd (enc := (PV.int .u8)) (by first | rfl | simp only [evs, tys, evl]) (by first | rfl | simp only [evs, tys, evl]) (fun a => by first | rfl | simp only [evs, tys, evc]) h) (fun a => rfl) fun y41 hy41 => ?_
     try simp only [evs, tys]
     exact Imp.some (StepR.next ⟨by first | rfl | simp only [evs, tys, evl], rfl⟩)
theorem to_Quoted_imp (s : Str) : Imp (to_Quoted_B s) (to_Quoted_T1 O loopLim s) (fun r v => v = (to_QuotedE r, [])) := by
 simp only [to_Quoted_B, to_Quoted_T1]
 try simp only [evs, tys]
 refine Imp.bnd (Imp.loop (to_Quoted_l1_ok s) ⟨by first | rfl | simp only [evs, tys, evl], rfl⟩) ?_
 rintro (p | ⟨i_46, b_47, b_48, b_49⟩) vy50 hy50
 ·try simp only [elim_inl, elim_inr]
  obtain ⟨i_42, b_43, b_44, b_45, rfl⟩ := hy50
  refine Imp.exHit rfl (Imp.chk rfl (Imp.chk rfl ?_))
  try simp only [evs, tys]
  exact Imp.some (by first | rfl | simp only [to_QuotedE, evs, tys, evl])
 ·try simp only [elim_inl, elim_inr]
  cases hy50
  refine Imp.exMiss rfl ?_
  refine Imp.exHit rfl (Imp.chk rfl (Imp.chk rfl ?_))
  try simp only [evs, tys]
  refine Imp.gcall (f := tf_i3E) (fu := fun a => tf_i3U b_47 b_48 b_49 a) (fun a h => by first | exact tf_i3_spec h | (have h' := tf_i3_spec h; simp only [evs, tys, evl, tf_i3U] at h'; exact h')) (fun a => by first | rfl | simp only [tf_i3E, evk, chks]) (fun a => by first | rfl | (simp only [tf_i3U, evs, tys]; rfl)) fun y52 hy52 => ?_
  try simp only [tf_i3E, tf_i3U, evs, tys]
  refine Imp.cnd ?_ ?_
  ·exact Imp.some (by first | rfl | simp only [to_QuotedE, evs, tys, evl])
  ·refine Imp.op (f := fun a => .str a) (fun a h => op_toStr (by first | rfl | simp only [evs, tys, evl]) h) (fun a => rfl) fun y54 hy54 => ?_
   try simp only [evs, tys]
   exact Imp.some (by first | rfl | simp only [to_QuotedE, evs, tys, evl])
theorem to_Quoted_run {s : Str} {r : Str × Int} (h : to_Quoted_B s = some r) : to_Quoted s = some r := by
 obtain ⟨v, hv, rfl⟩ := to_Quoted_imp s r h
 exact tO_of (pair_inj to_QuotedEj) (OL_runD to_Quoted_ds rfl rfl Tryd.func52 ((to_Quoted_t1 _ _ s).trans hv))
def to_one_T1 (O : Orc) (LP : LBody → LBody) (s : Str) : Option (PV × UP) :=
 bnd (ixStr (.str s) (.int .i64 0)) fun x1 => cnd (chk (.int .u8) x1)
 (callp O 49 [(.str s), (.str [34, 34, 34])] fun x3 => cnd (chk .bool x3)
 (cnd (boolV x3)
 (callp O 51 [(.str s)] fun x5 => cnd (chk (.tup [.str, (.int .i64)]) x5)
 (some ((.tuple [(.agg [(.int .i64 5), (.str (strV (gt (tupV x5) 0)))]), (.int .i64 (intV (gt (tupV x5) 1)))]), [])) none)
 (cnd ((intV x1) == 34)
 (callp O 52 [(.str s), (.func (.func 53) [] [])] fun x7 => cnd (chk (.tup [.str, (.int .i64)]) x7)
 (some ((.tuple [(.agg [(.int .i64 5), (.str (strV (gt (tupV x7) 0)))]), (.int .i64 (intV (gt (tupV x7) 1)))]), [])) none)
 (callp O 49 [(.str s), (.str [46, 46, 46])] fun x9 => cnd (chk .bool x9)
 (cnd (boolV x9)
 (some ((.tuple [(.agg [(.int .i64 1), (.str [46, 46, 46])]), (.int .i64 3)]), []))
 (callp O 54 [(.str [33, 36, 38, 40, 41, 58, 61, 64, 91, 93, 123, 124, 125]), (.int .u8 (intV x1))] fun x11 => cnd (chk (.int .i64) x11)
 (cnd (decide ((intV x11) ≥ 0))
 (bnd (slcHi 0 (.str s) (.int .i64 1)) fun x13 => cnd (chk .str x13)
 (some ((.tuple [(.agg [(.int .i64 1), (.str (strV x13))]), (.int .i64 1)]), [])) none)
 (callp O 55 [(.int .u8 (intV x1))] fun x15 => cnd (chk .bool x15)
 (cnd (boolV x15)
 (callp O 56 [(.str s)] fun x17 => cnd (chk (.int .i64) x17)
 (bnd (slcHi 0 (.str s) (.int .i64 (intV x17))) fun x19 => cnd (chk .str x19)
 (some ((.tuple [(.agg [(.int .i64 2), (.str (strV x19))]), (.int .i64 (intV x17))]), [])) none) none)
 (callp O 32 [(.str s)] fun x21 => cnd (chk (.tup [(.int .i64), (.int .i64)]) x21)
 (cnd (decide ((intV (gt (tupV x21) 0)) < (List.length s : Int)))
 (bnd (ixStr (.str s) (.int .i64 (intV (gt (tupV x21) 0)))) fun x23 => cnd (chk (.int .u8) x23)
 (callp O 55 [(.int .u8 (intV x23))] fun x25 => cnd (chk .bool x25)
 (cnd (boolV x25)
 (some ((.tuple [(.agg [(.int .i64 0), (.str [])]), (.int .i64 0)]), []))
 (bnd (ixStr (.str s) (.int .i64 (intV (gt (tupV x21) 0)))) fun x27 => cnd (chk (.int .u8) x27)
 (callp O 57 [(.int .u8 (intV x27))] fun x29 => cnd (chk .bool x29)
 (cnd (boolV x29)
 (some ((.tuple [(.agg [(.int .i64 0), (.str [])]), (.int .i64 0)]), []))
 (bnd (ixStr (.str s) (.int .i64 (intV (gt (tupV x21) 0)))) fun x31 => cnd (chk (.int .u8) x31)
 (cnd ((intV x31) == 46)
 (some ((.tuple [(.agg [(.int .i64 0), (.str [])]), (.int .i64 0)]), []))
 (bnd (slcHi 0 (.str s) (.int .i64 (intV (gt (tupV x21) 0)))) fun x33 => cnd (chk .str x33)
 (some ((.tuple [(.agg [(.int .i64 (intV (gt (tupV x21) 1))), (.str (strV x33))]), (.int .i64 (intV (gt (tupV x21) 0)))]), [])) none)) none)) none) none)) none) none)
 (bnd (slcHi 0 (.str s) (.int .i64 (intV (gt (tupV x21) 0)))) fun x35 => cnd (chk .str x35)
 (some ((.tuple [(.agg [(.int .i64 (intV (gt (tupV x21) 1))), (.str (strV x35))]), (.int .i64 (intV (gt (tupV x21) 0)))]), [])) none)) none)) none)) none)) none))) none) none
noncomputable def to_one_B (s : Str) : Option (GToken × Int) :=
 bnd (nthI s 0) fun y2 =>
 bnd (st_HasPrefix s [34, 34, 34]) fun y4 =>
 cnd y4
 (bnd (to_blocked s) fun y6 =>
 some ((GToken.mk 5 y6.1), y6.2))
 (cnd ((y2.toNat : Int) == 34)
 (bnd (to_Quoted s) fun y8 =>
 some ((GToken.mk 5 y8.1), y8.2))
 (bnd (st_HasPrefix s [46, 46, 46]) fun y10 =>
 cnd y10
 (some ((GToken.mk 1 [46, 46, 46]), 3))
 (bnd (st_IndexByte [33, 36, 38, 40, 41, 58, 61, 64, 91, 93, 123, 124, 125] (y2.toNat : Int)) fun y12 =>
 cnd (decide (y12 ≥ 0))
 (bnd (tslc s 0 1) fun y14 =>
 some ((GToken.mk 1 y14), 1))
 (bnd (ls_Letter (y2.toNat : Int)) fun y16 =>
 cnd y16
 (bnd (to_word s) fun y18 =>
 bnd (tslc s 0 y18) fun y20 =>
 some ((GToken.mk 2 y20), y18))
 (bnd (to_number s) fun y22 =>
 cnd (decide (y22.1 < (List.length s : Int)))
 (bnd (nthI s y22.1) fun y24 =>
 bnd (ls_Letter (y24.toNat : Int)) fun y26 =>
 cnd y26
 (some ((GToken.mk 0 []), 0))
 (bnd (nthI s y22.1) fun y28 =>
 bnd (ls_Digit (y28.toNat : Int)) fun y30 =>
 cnd y30
 (some ((GToken.mk 0 []), 0))
 (bnd (nthI s y22.1) fun y32 =>
 cnd ((y32.toNat : Int) == 46)
 (some ((GToken.mk 0 []), 0))
 (bnd (tslc s 0 y22.1) fun y34 =>
 some ((GToken.mk y22.2 y34), y22.1)))))
 (bnd (tslc s 0 y22.1) fun y36 =>
 some ((GToken.mk y22.2 y36), y22.1)))))))
def to_one_ds : Decs := { decs := [(13, (.int .u8)), (16, .bool), (19, (.tup [.str, (.int .i64)])), (30, (.tup [.str, (.int .i64)])), (38, .bool), (42, (.int .i64)), (45, .str), (49, .bool), (51, (.int .i64)), (54, .str), (59, (.tup [(.int .i64), (.int .i64)])), (69, (.int .u8)), (70, .bool), (74, (.int .u8)), (75, .bool), (80, (.int .u8)), (88, .str)], ups := [], loops := [] }
set_option maxRecDepth 100000 in
theorem to_one_t1 (O : Orc) (LP : LBody → LBody) (s : Str) : evalBodyD Tryd.prog (MT 28) to_one_ds Tryd.f28.ntmps O LP Tryd.f28 [(.str s)] [] = to_one_T1 O LP s := by kernel_rfl
theorem to_one_imp (s : Str) : Imp (to_one_B s) (to_one_T1 O loopLim s) (fun r v => v = (to_oneE r, [])) := by
 simp only [to_one_B, to_one_T1]
 try simp only [evs, tys]
 refine Imp.op (f := fun a => .int .u8 (a.toNat : Int)) (fun a h => op_ixStr h) (fun a => rfl) fun y2 hy2 => ?_
 try simp only [evs, tys]
 refine Imp.call (f := st_HasPrefixE) rfl (fun a h => by first | exact st_HasPrefix_spec h | simpa only [evs, tys, evl] using st_HasPrefix_spec h) (fun a => by first | rfl | simp only [st_HasPrefixE, evk, chks]) fun y4 hy4 => ?_
 try simp only [st_HasPrefixE, evs, tys]
 refine Imp.cnd ?_ ?_
 ·refine Imp.call (f := to_blockedE) rfl (fun a h => by first | exact to_blocked_spec h | simpa only [evs, tys, evl] using to_blocked_spec h) (fun a => by first | rfl | simp only [to_blockedE, evk, chks]) fun y6 hy6 => ?_
  try simp only [to_blockedE, evs, tys]
  exact Imp.some (by first | rfl | simp only [to_oneE, evs, tys, evl])
 ·refine Imp.cnd ?_ ?_
  ·refine Imp.call (f := to_QuotedE) rfl (fun a h => by first | exact to_Quoted_spec h | simpa only [evs, tys, evl] using to_Quoted_spec h) (fun a => by first | rfl | simp only [to_QuotedE, evk, chks]) fun y8 hy8 => ?_
   try simp only [to_QuotedE, evs, tys]
   exact Imp.some (by first | rfl | simp only [to_oneE, evs, tys, evl])
  ·refine Imp.call (f := st_HasPrefixE) rfl (fun a h => by first | exact st_HasPrefix_spec h | simpa only [evs, tys, evl] using st_HasPrefix_spec h) (fun a => by first | rfl | simp only [st_HasPrefixE, evk, chks]) fun y10 hy10 => ?_
   try simp only [st_HasPrefixE, evs, tys]
   refine Imp.cnd ?_ ?_
   ·exact Imp.some (by first | rfl | simp only [to_oneE, evs, tys, evl])
   ·refine Imp.call (f := st_IndexByteE) rfl (fun a h => by first | exact st_IndexByte_spec h | simpa only [evs, tys, evl] using st_IndexByte_spec h) (fun a => by first | rfl | simp only [st_IndexByteE, evk, chks]) fun y12 hy12 => ?_
    try simp only [st_IndexByteE, evs, tys]
    refine Imp.cnd ?_ ?_
    ·refine Imp.op (f := fun a => .str a) (fun a h => op_sslcHi h) (fun a => rfl) fun y14 hy14 => ?_
     try simp only [evs, tys]
     exact Imp.some (by first | rfl | simp only [to_oneE, evs, tys, evl])
    ·refine Imp.call (f := ls_LetterE) rfl (fun a h => by first | exact ls_Letter_spec h | simpa only [evs, tys, evl] using ls_Letter_spec h) (fun a => by first | rfl | simp only [ls_LetterE, evk, chks]) fun y16 hy16 => ?_
     try simp only [ls_LetterE, evs, tys]
     refine Imp.cnd ?_ ?_
     ·refine Imp.call (f := to_wordE) rfl (fun a h => by first | exact to_word_spec h | simpa only [evs, tys, evl] using to_word_spec h) (fun a => by first | rfl | simp only [to_wordE, evk, chks]) fun y18 hy18 => ?_
      try simp only [to_wordE, evs, tys]
      refine Imp.op (f := fun a => .str a) (fun a h => op_sslcHi h) (fun a => rfl) fun y20 hy20 => ?_
      try simp only [evs, tys]
      exact Imp.some (by first | rfl | simp only [to_oneE, evs, tys, evl])
     ·refine Imp.call (f := to_numberE) rfl (fun a h => by first | exact to_number_spec h | simpa only [evs, tys, evl] using to_number_spec h) (fun a => by first | rfl | simp only [to_numberE, evk, chks]) fun y22 hy22 => ?_
      try simp only [to_numberE, evs, tys]
      refine Imp.cnd ?_ ?_
      ·refine Imp.op (f := fun a => .int .u8 (a.toNat : Int)) (fun a h => op_ixStr h) (fun a => rfl) fun y24 hy24 => ?_
       try simp only [evs, tys]
       refine Imp.call (f := ls_LetterE) rfl (fun a h => by first | exact ls_Letter_spec h | simpa only [evs, tys, evl] using ls_Letter_spec h) (fun a => by first | rfl | simp only [ls_LetterE, evk, chks]) fun y26 hy26 => ?_
       try simp only [ls_LetterE, evs, tys]
       refine Imp.cnd ?_ ?_
       ·exact Imp.some (by first | rfl | simp only [to_oneE, evs, tys, evl])
       ·refine Imp.op (f := fun a => .int .u8 (a.toNat : Int)) (fun a h => op_ixStr h) (fun a => rfl) fun y28 hy28 => ?_
        try simp only [evs, tys]
        refine Imp.call (f := ls_DigitE) rfl (fun a h => by first | exact ls_Digit_spec h | simpa only [evs, tys, evl] using ls_Digit_spec h) (fun a => by first | rfl | simp only [ls_DigitE, evk, chks]) fun y30 hy30 => ?_
        try simp only [ls_DigitE, evs, tys]
        refine Imp.cnd ?_ ?_
        ·exact Imp.some (by first | rfl | simp only [to_oneE, evs, tys, evl])
        ·refine Imp.op (f := fun a => .int .u8 (a.toNat : Int)) (fun a h => op_ixStr h) (fun a => rfl) fun y32 hy32 => ?_
         try simp only [evs, tys]
         refine Imp.cnd ?_ ?_
         ·exact Imp.some (by first | rfl | simp only [to_oneE, evs, tys, evl])
         ·refine Imp.op (f := fun a => .str a) (fun a h => op_sslcHi h) (fun a => rfl) fun y34 hy34 => ?_
          try simp only [evs, tys]
          exact Imp.some (by first | rfl | simp only [to_oneE, evs, tys, evl])
      ·refine Imp.op (f := fun a => .str a) (fun a h => op_sslcHi h) (fun a => rfl) fun y36 hy36 => ?_
       try simp only [evs, tys]
       exact Imp.some (by first | rfl | simp only [to_oneE, evs, tys, evl])
theorem to_one_run {s : Str} {r : GToken × Int} (h : to_one_B s = some r) : to_one s = some r := by
 obtain ⟨v, hv, rfl⟩ := to_one_imp s r h
 exact tO_of (pair_inj to_oneEj) (OL_runD to_one_ds rfl rfl Tryd.func28 ((to_one_t1 _ _ s).trans hv))
def r1_Source_l1 (O : Orc) (LP : LBody → LBody) : LBody := fun s3 s3u => cnd (chkL [.bool, (.sl false), .bool, (.int .i64)] s3) (cnd (chkU [] s3u)
 (cnd (decide ((intV (gt s3 3)) < (List.length (esV (gt s3 1)) : Int)))
 (bnd (ix 1 (.slice (esV (gt s3 1)) [] false) (.int .i64 (intV (gt s3 3)))) fun x21 => cnd (chk (.ref (.int .i64)) x21)
 (cnd (decide ((intV (refV x21)) < 32))
 (bnd (ix 1 (.slice (esV (gt s3 1)) [] false) (.int .i64 (intV (gt s3 3)))) fun x23 => cnd (chk (.ref (.int .i64)) x23)
 (cnd ((intV (refV x23)) != 9)
 (bnd (ix 1 (.slice (esV (gt s3 1)) [] false) (.int .i64 (intV (gt s3 3)))) fun x25 => cnd (chk (.ref (.int .i64)) x25)
 (cnd ((intV (refV x25)) != 10)
 (bnd (ix 1 (.slice (esV (gt s3 1)) [] false) (.int .i64 (intV (gt s3 3)))) fun x27 => cnd (chk (.ref (.int .i64)) x27)
 (cnd ((intV (refV x27)) != 13)
 (some (.ret, [(.bool false), (.slice (esV (gt s3 1)) [] false), (.bool (boolV (gt s3 2))), (.int .i64 (intV (gt s3 3)))], []))
 (bnd (ix 1 (.slice (esV (gt s3 1)) [] false) (.int .i64 (intV (gt s3 3)))) fun x29 => cnd (chk (.ref (.int .i64)) x29)
 (cnd (decide ((intV (refV x29)) > 65535))
 (some (.ret, [(.bool false), (.slice (esV (gt s3 1)) [] false), (.bool (boolV (gt s3 2))), (.int .i64 (intV (gt s3 3)))], []))
 (some (.nrm, [(.bool (boolV (gt s3 0))), (.slice (esV (gt s3 1)) [] false), (.bool (boolV (gt s3 2))), (.int .i64 (IntKind.wrap .i64 ((intV (gt s3 3)) + 1)))], []))) none)) none)
 (bnd (ix 1 (.slice (esV (gt s3 1)) [] false) (.int .i64 (intV (gt s3 3)))) fun x31 => cnd (chk (.ref (.int .i64)) x31)
 (cnd (decide ((intV (refV x31)) > 65535))
 (some (.ret, [(.bool false), (.slice (esV (gt s3 1)) [] false), (.bool (boolV (gt s3 2))), (.int .i64 (intV (gt s3 3)))], []))
 (some (.nrm, [(.bool (boolV (gt s3 0))), (.slice (esV (gt s3 1)) [] false), (.bool (boolV (gt s3 2))), (.int .i64 (IntKind.wrap .i64 ((intV (gt s3 3)) + 1)))], []))) none)) none)
 (bnd (ix 1 (.slice (esV (gt s3 1)) [] false) (.int .i64 (intV (gt s3 3)))) fun x33 => cnd (chk (.ref (.int .i64)) x33)
 (cnd (decide ((intV (refV x33)) > 65535))
 (some (.ret, [(.bool false), (.slice (esV (gt s3 1)) [] false), (.bool (boolV (gt s3 2))), (.int .i64 (intV (gt s3 3)))], []))
 (some (.nrm, [(.bool (boolV (gt s3 0))), (.slice (esV (gt s3 1)) [] false), (.bool (boolV (gt s3 2))), (.int .i64 (IntKind.wrap .i64 ((intV (gt s3 3)) + 1)))], []))) none)) none)
 (bnd (ix 1 (.slice (esV (gt s3 1)) [] false) (.int .i64 (intV (gt s3 3)))) fun x35 => cnd (chk (.ref (.int .i64)) x35)
 (cnd (decide ((intV (refV x35)) > 65535))
 (some (.ret, [(.bool false), (.slice (esV (gt s3 1)) [] false), (.bool (boolV (gt s3 2))), (.int .i64 (intV (gt s3 3)))], []))
 (some (.nrm, [(.bool (boolV (gt s3 0))), (.slice (esV (gt s3 1)) [] false), (.bool (boolV (gt s3 2))), (.int .i64 (IntKind.wrap .i64 ((intV (gt s3 3)) + 1)))], []))) none)) none)
 (some (.brk 0, [(.bool (boolV (gt s3 0))), (.slice (esV (gt s3 1)) [] false), (.bool (boolV (gt s3 2))), (.int .i64 (intV (gt s3 3)))], []))) none) none
def r1_Source_T1 (O : Orc) (LP : LBody → LBody) (s : Str) : Option (PV × UP) :=
 callp O 58 [(.str s)] fun x1 => cnd (chk (.tup [(.sl false), .bool]) x1)
 (bnd (LP (r1_Source_l1 O LP) [(.bool false), (.slice (esV (gt (tupV x1) 0)) [] false), (.bool (boolV (gt (tupV x1) 1))), (.int .i64 0)] []) fun y39 =>
 exIs y39.1 (some 0) (cnd (chkL [.bool, (.sl false), .bool, (.int .i64)] y39.2.1) (cnd (chkU [] y39.2.2)
 (some ((.bool (boolV (gt y39.2.1 2))), [])) none) none)
 (exIs y39.1 none (cnd (chkL [.bool, (.sl false), .bool, (.int .i64)] y39.2.1) (cnd (chkU [] y39.2.2)
 (some ((.bool (boolV (gt y39.2.1 0))), [])) none) none)
 (none))) none
noncomputable def r1_Source_l1T (y2 : (List Int) × Bool) : Int → Option (Int ⊕ (Unit ⊕ Unit))
 | i_20 =>
 cnd (decide (i_20 < (List.length y2.1 : Int)))
  (bnd (nthI y2.1 i_20) fun y22 =>
  cnd (decide (y22 < 32))
  (bnd (nthI y2.1 i_20) fun y24 =>
  cnd (y24 != 9)
   (bnd (nthI y2.1 i_20) fun y26 =>
   cnd (y26 != 10)
   (bnd (nthI y2.1 i_20) fun y28 =>
   cnd (y28 != 13)
    (some (.inr (.inr ())))
    (bnd (nthI y2.1 i_20) fun y30 =>
    cnd (decide (y30 > 65535))
    (some (.inr (.inr ())))
    (some (.inl (IntKind.wrap .i64 (i_20 + 1))))))
   (bnd (nthI y2.1 i_20) fun y32 =>
   cnd (decide (y32 > 65535))
    (some (.inr (.inr ())))
    (some (.inl (IntKind.wrap .i64 (i_20 + 1))))))
   (bnd (nthI y2.1 i_20) fun y34 =>
   cnd (decide (y34 > 65535))
   (some (.inr (.inr ())))
   (some (.inl (IntKind.wrap .i64 (i_20 + 1))))))
  (bnd (nthI y2.1 i_20) fun y36 =>
  cnd (decide (y36 > 65535))
   (some (.inr (.inr ())))
   (some (.inl (IntKind.wrap .i64 (i_20 + 1))))))
  (some (.inr (.inl ())))
abbrev r1_Source_l1R (y2 : (List Int) × Bool) (st : Int) (l : List PV) (u : UP) : Prop := l = [(.bool false), (.slice (List.map (PV.int .i64) y2.1) [] false), (.bool y2.2), (.int .i64 st)] ∧ u = []
abbrev r1_Source_l1X (y2 : (List Int) × Bool) (p : Unit ⊕ Unit) (r : Ex × List PV × UP) : Prop := elim p (fun (p : Unit) => ∃ (i_37 : Int), r = (Ex.brk 0, [(.bool false), (.slice (List.map (PV.int .i64) y2.1) [] false), (.bool y2.2), (.int .i64 i_37)], [])) (fun q2 => (fun (p : Unit) => ∃ (i_38 : Int), r = (Ex.ret, [(.bool false), (.slice (List.map (PV.int .i64) y2.1) [] false), (.bool y2.2), (.int .i64 i_38)], [])) q2)
noncomputable def r1_Source_B (s : Str) : Option Bool :=
 bnd (r1_Codes s) fun y2 =>
 bnd (tloop (r1_Source_l1T y2) 0) fun e39_2 => elim e39_2
 (fun p39 =>
 some y2.2)
 (fun p39 =>
 some false)
def r1_Source_ds : Decs := { decs := [(8, (.tup [(.sl false), .bool])), (19, (.ref (.int .i64))), (25, (.ref (.int .i64))), (32, (.ref (.int .i64))), (39, (.ref (.int .i64))), (46, (.ref (.int .i64)))], ups := [], loops := [(3, [], ⟨[.bool, (.sl false), .bool, (.int .i64)], [], [(some 0, [.bool, (.sl false), .bool, (.int .i64)], []), (none, [.bool, (.sl false), .bool, (.int .i64)], [])]⟩)] }
set_option maxRecDepth 100000 in
theorem r1_Source_t1 (O : Orc) (LP : LBody → LBody) (s : Str) : evalBodyD Tryd.prog (MT 29) r1_Source_ds Tryd.f29.ntmps O LP Tryd.f29 [(.str s)] [] = r1_Source_T1 O LP s := by kernel_rfl
theorem r1_Source_l1_ok (y2 : (List Int) × Bool) : ∀ st l u, r1_Source_l1R y2 st l u → Imp (r1_Source_l1T y2 st) (r1_Source_l1 O loopLim l u) (StepR (r1_Source_l1R y2) (r1_Source_l1X y2)) := by
 rintro i_20 l u ⟨rfl, rfl⟩
 simp only [r1_Source_l1T, r1_Source_l1]
 refine Imp.chk rfl (Imp.chk rfl ?_)
 try simp only [evs, tys]
 refine Imp.cnd ?_ ?_
 ·refine Imp.op (f := fun a => .ref ((PV.int .i64) a)) (fun a h => op_ix (enc := (PV.int .i64)) (by first | rfl | simp only [evs, tys, evl]) ⟨by first | rfl | simp only [evs, tys, evc], by decide⟩ h) (fun a => rfl) fun y22 hy22 => ?_
  try simp only [evs, tys]
  refine Imp.cnd ?_ ?_
  ·refine Imp.op (f := fun a => .ref ((PV.int .i64) a)) (fun a h => op_ix (enc := (PV.int .i64)) (by first | rfl | simp only [evs, tys, evl]) ⟨by first | rfl | simp only [evs, tys, evc], by decide⟩ h) (fun a => rfl) fun y24 hy24 => ?_
   try simp only [evs, tys]
   refine Imp.cnd ?_ ?_
   ·refine Imp.op (f := fun a => .ref ((PV.int .i64) a)) (fun a h => op_ix (enc := (PV.int .i64)) (by first | rfl | simp only [evs, tys, evl]) ⟨by first | rfl | simp only [evs, tys, evc], by decide⟩ h) (fun a => rfl) fun y26 hy26 => ?_
    try simp only [evs, tys]
    refine Imp.cnd ?_ ?_
    ·refine Imp.op (f := fun a => .ref ((PV.int .i64) a)) (fun a h => op_ix (enc := (PV.int .i64)) (by first | rfl | simp only [evs, tys, evl]) ⟨by first | rfl | simp only [evs, tys, evc], by decide⟩ h) (fun a => rfl) fun y28 hy28 => ?_
     try simp only [evs, tys]
     refine Imp.cnd ?_ ?_
     ·exact Imp.some (StepR.ret ⟨i_20, by first | rfl | simp only [evs, tys, evl, elim_inl, elim_inr]⟩)
     ·refine Imp.op (f := fun a => .ref ((PV.int .i64) a)) (fun a h => op_ix (enc := (PV.int .i64)) (by first | rfl | simp only [evs, tys, evl]) ⟨by first | rfl | simp only [evs, tys, evc], by decide⟩ h) (fun a => rfl) fun y30 hy30 => ?_
      try simp only [evs, tys]
      refine Imp.cnd ?_ ?_
      ·exact Imp.some (StepR.ret ⟨i_20, by first | rfl | simp only [evs, tys, evl, elim_inl, elim_inr]⟩)
      ·exact Imp.some (StepR.next ⟨by first | rfl | simp only [evs, tys, evl], rfl⟩)
    ·refine Imp.op (f := fun a => .ref ((PV.int .i64) a)) (fun a h => op_ix (enc := (PV.int .i64)) (by first | rfl | simp only [evs, tys, evl]) ⟨by first | rfl | simp only [evs, tys, evc], by decide⟩ h) (fun a => rfl) fun y32 hy32 => ?_
     try simp only [evs, tys]
     refine Imp.cnd ?_ ?_
     ·exact Imp.some (StepR.ret ⟨i_20, by first | rfl | simp only [evs, tys, evl, elim_inl, elim_inr]⟩)
     ·exact Imp.some (StepR.next ⟨by first | rfl | simp only [evs, tys, evl], rfl⟩)
   ·refine Imp.op (f := fun a => .ref ((PV.int .i64) a)) (fun a h => op_ix (enc := (PV.int .i64)) (by first | rfl | simp only [evs, tys, evl]) ⟨by first | rfl | simp only [evs, tys, evc], by decide⟩ h) (fun a => rfl) fun y34 hy34 => ?_
    try simp only [evs, tys]
    refine Imp.cnd ?_ ?_
    ·exact Imp.some (StepR.ret ⟨i_20, by first | rfl | simp only [evs, tys, evl, elim_inl, elim_inr]⟩)
    ·exact Imp.some (StepR.next ⟨by first | rfl | simp only [evs, tys, evl], rfl⟩)
  ·refine Imp.op (f := fun a => .ref ((PV.int .i64) a)) (fun a h => op_ix (enc := (PV.int .i64)) (by first | rfl | simp only [evs, tys, evl]) ⟨by first | rfl | simp only [evs, tys, evc], by decide⟩ h) (fun a => rfl) fun y36 hy36 => ?_
   try simp only [evs, tys]
   refine Imp.cnd ?_ ?_
   ·exact Imp.some (StepR.ret ⟨i_20, by first | rfl | simp only [evs, tys, evl, elim_inl, elim_inr]⟩)
   ·exact Imp.some (StepR.next ⟨by first | rfl | simp only [evs, tys, evl], rfl⟩)
 ·exact Imp.some (StepR.brk ⟨i_20, by first | rfl | simp only [evs, tys, evl, elim_inl, elim_inr]⟩)
theorem r1_Source_imp (s : Str) : Imp (r1_Source_B s) (r1_Source_T1 O loopLim s) (fun r v => v = (r1_SourceE r, [])) := by
 simp only [r1_Source_B, r1_Source_T1]
 try simp only [evs, tys]
 refine Imp.call (f := r1_CodesE) rfl (fun a h => by first | exact r1_Codes_spec h | simpa only [evs, tys, evl] using r1_Codes_spec h) (fun a => by first | rfl | simp only [r1_CodesE, evk, chks]) fun y2 hy2 => ?_
 try simp only [r1_CodesE, evs, tys]
 refine Imp.bnd (Imp.loop (r1_Source_l1_ok y2) ⟨by first | rfl | simp only [evs, tys, evl], rfl⟩) ?_
 rintro (p | p) vy39 hy39
 ·try simp only [elim_inl, elim_inr]
  obtain ⟨i_37, rfl⟩ := hy39
  refine Imp.exHit rfl (Imp.chk rfl (Imp.chk rfl ?_))
  try simp only [evs, tys]
  exact Imp.some (by first | rfl | simp only [r1_SourceE, evs, tys, evl])
 ·try simp only [elim_inl, elim_inr]
  obtain ⟨i_38, rfl⟩ := hy39
  refine Imp.exMiss rfl ?_
  refine Imp.exHit rfl (Imp.chk rfl (Imp.chk rfl ?_))
  try simp only [evs, tys]
  exact Imp.some (by first | rfl | simp only [r1_SourceE, evs, tys, evl])
theorem r1_Source_run {s : Str} {r : Bool} (h : r1_Source_B s = some r) : r1_Source s = some r := by
 obtain ⟨v, hv, rfl⟩ := r1_Source_imp s r h
 exact tO_of (pair_inj r1_SourceEj) (OL_runD r1_Source_ds rfl rfl Tryd.func29 ((r1_Source_t1 _ _ s).trans hv))
def r1_skip_l1 (O : Orc) (LP : LBody → LBody) : LBody := fun s44 s44u => cnd (chkL [.str, (.int .i64)] s44) (cnd (chkU [] s44u)
 (cnd (decide ((intV (gt s44 1)) < (List.length (strV (gt s44 0)) : Int)))
 (bnd (ixStr (.str (strV (gt s44 0))) (.int .i64 (intV (gt s44 1)))) fun x50 => cnd (chk (.int .u8) x50)
 (cnd ((intV x50) != 10)
 (bnd (ixStr (.str (strV (gt s44 0))) (.int .i64 (intV (gt s44 1)))) fun x52 => cnd (chk (.int .u8) x52)
 (cnd ((intV x52) != 13)
 (some (.nrm, [(.str (strV (gt s44 0))), (.int .i64 (IntKind.wrap .i64 ((intV (gt s44 1)) + 1)))], []))
 (some (.brk 3, [(.str (strV (gt s44 0))), (.int .i64 (intV (gt s44 1)))], []))) none)
 (some (.brk 3, [(.str (strV (gt s44 0))), (.int .i64 (intV (gt s44 1)))], []))) none)
 (some (.brk 3, [(.str (strV (gt s44 0))), (.int .i64 (intV (gt s44 1)))], []))) none) none
def r1_skip_l2 (O : Orc) (LP : LBody → LBody) : LBody := fun s1 s1u => cnd (chkL [.str, (.int .i64), .any] s1) (cnd (chkU [] s1u)
 (cnd (decide ((intV (gt s1 1)) < (List.length (strV (gt s1 0)) : Int)))
 (bnd (ixStr (.str (strV (gt s1 0))) (.int .i64 (intV (gt s1 1)))) fun x30 => cnd (chk (.int .u8) x30)
 (cnd ((intV x30) == 9)
 (some (.nrm, [(.str (strV (gt s1 0))), (.int .i64 (IntKind.wrap .i64 ((intV (gt s1 1)) + 1))), (gt s1 2)], []))
 (bnd (ixStr (.str (strV (gt s1 0))) (.int .i64 (intV (gt s1 1)))) fun x32 => cnd (chk (.int .u8) x32)
 (cnd ((intV x32) == 10)
 (some (.nrm, [(.str (strV (gt s1 0))), (.int .i64 (IntKind.wrap .i64 ((intV (gt s1 1)) + 1))), (gt s1 2)], []))
 (bnd (ixStr (.str (strV (gt s1 0))) (.int .i64 (intV (gt s1 1)))) fun x34 => cnd (chk (.int .u8) x34)
 (cnd ((intV x34) == 13)
 (some (.nrm, [(.str (strV (gt s1 0))), (.int .i64 (IntKind.wrap .i64 ((intV (gt s1 1)) + 1))), (gt s1 2)], []))
 (bnd (ixStr (.str (strV (gt s1 0))) (.int .i64 (intV (gt s1 1)))) fun x36 => cnd (chk (.int .u8) x36)
 (cnd ((intV x36) == 32)
 (some (.nrm, [(.str (strV (gt s1 0))), (.int .i64 (IntKind.wrap .i64 ((intV (gt s1 1)) + 1))), (gt s1 2)], []))
 (bnd (ixStr (.str (strV (gt s1 0))) (.int .i64 (intV (gt s1 1)))) fun x38 => cnd (chk (.int .u8) x38)
 (cnd ((intV x38) == 44)
 (some (.nrm, [(.str (strV (gt s1 0))), (.int .i64 (IntKind.wrap .i64 ((intV (gt s1 1)) + 1))), (gt s1 2)], []))
 (callp O 59 [(.str (strV (gt s1 0))), (.int .i64 (intV (gt s1 1))), (.str [239, 187, 191])] fun x40 => cnd (chk .bool x40)
 (cnd (boolV x40)
 (some (.nrm, [(.str (strV (gt s1 0))), (.int .i64 (IntKind.wrap .i64 ((intV (gt s1 1)) + 3))), (gt s1 2)], []))
 (bnd (ixStr (.str (strV (gt s1 0))) (.int .i64 (intV (gt s1 1)))) fun x42 => cnd (chk (.int .u8) x42)
 (cnd ((intV x42) == 35)
 (bnd (LP (r1_skip_l1 O LP) [(.str (strV (gt s1 0))), (.int .i64 (intV (gt s1 1)))] []) fun y55 =>
 exIs y55.1 (some 3) (cnd (chkL [.str, (.int .i64)] y55.2.1) (cnd (chkU [] y55.2.2)
 (some (.nrm, [(.str (strV (gt y55.2.1 0))), (.int .i64 (intV (gt y55.2.1 1))), .bot], [])) none) none)
 (none))
 (some (.ret, [(.str (strV (gt s1 0))), (.int .i64 (intV (gt s1 1))), (.int .i64 (intV (gt s1 1)))], []))) none)) none)) none)) none)) none)) none)) none)
 (some (.brk 0, [(.str (strV (gt s1 0))), (.int .i64 (intV (gt s1 1))), (gt s1 2)], []))) none) none
def r1_skip_T1 (O : Orc) (LP : LBody → LBody) (s : Str) (i : Int) : Option (PV × UP) :=
 bnd (LP (r1_skip_l2 O LP) [(.str s), (.int .i64 i), (.int .i64 0)] []) fun y60 =>
 exIs y60.1 (some 0) (cnd (chkL [.str, (.int .i64), .any] y60.2.1) (cnd (chkU [] y60.2.2)
 (some ((.int .i64 (intV (gt y60.2.1 1))), [])) none) none)
 (exIs y60.1 none (cnd (chkL [.str, (.int .i64), (.int .i64)] y60.2.1) (cnd (chkU [] y60.2.2)
 (some ((.int .i64 (intV (gt y60.2.1 2))), [])) none) none)
 (none))
noncomputable def r1_skip_l1T (s : Str) : Int → Option (Int ⊕ Int)
 | i_49 =>
 cnd (decide (i_49 < (List.length s : Int)))
  (bnd (nthI s i_49) fun y51 =>
  cnd ((y51.toNat : Int) != 10)
  (bnd (nthI s i_49) fun y53 =>
  cnd ((y53.toNat : Int) != 13)
   (some (.inl (IntKind.wrap .i64 (i_49 + 1))))
   (some (.inr i_49)))
  (some (.inr i_49)))
  (some (.inr i_49))
abbrev r1_skip_l1R (s : Str) (st : Int) (l : List PV) (u : UP) : Prop := l = [(.str s), (.int .i64 st)] ∧ u = []
abbrev r1_skip_l1X (s : Str) (p : Int) (r : Ex × List PV × UP) : Prop := (fun (p : Int) => r = (Ex.brk 3, [(.str s), (.int .i64 p)], [])) p
noncomputable def r1_skip_l2T (s : Str) : Int → Option (Int ⊕ (Int ⊕ Int))
 | i_28 =>
 cnd (decide (i_28 < (List.length s : Int)))
  (bnd (nthI s i_28) fun y31 =>
  cnd ((y31.toNat : Int) == 9)
  (some (.inl (IntKind.wrap .i64 (i_28 + 1))))
  (bnd (nthI s i_28) fun y33 =>
  cnd ((y33.toNat : Int) == 10)
   (some (.inl (IntKind.wrap .i64 (i_28 + 1))))
   (bnd (nthI s i_28) fun y35 =>
   cnd ((y35.toNat : Int) == 13)
   (some (.inl (IntKind.wrap .i64 (i_28 + 1))))
   (bnd (nthI s i_28) fun y37 =>
   cnd ((y37.toNat : Int) == 32)
    (some (.inl (IntKind.wrap .i64 (i_28 + 1))))
    (bnd (nthI s i_28) fun y39 =>
    cnd ((y39.toNat : Int) == 44)
    (some (.inl (IntKind.wrap .i64 (i_28 + 1))))
    (bnd (r1_begins s i_28 [239, 187, 191]) fun y41 =>
    cnd y41
     (some (.inl (IntKind.wrap .i64 (i_28 + 3))))
     (bnd (nthI s i_28) fun y43 =>
     cnd ((y43.toNat : Int) == 35)
     (bnd (tloop (r1_skip_l1T s) i_28) fun i_54 =>
     some (.inl i_54))
     (some (.inr (.inr i_28))))))))))
  (some (.inr (.inl i_28)))
abbrev r1_skip_l2R (s : Str) (st : Int) (l : List PV) (u : UP) : Prop := ∃ (j29 : PV), l = [(.str s), (.int .i64 st), j29] ∧ u = []
abbrev r1_skip_l2X (s : Str) (p : Int ⊕ Int) (r : Ex × List PV × UP) : Prop := elim p (fun (p : Int) => ∃ (j57 : PV), r = (Ex.brk 0, [(.str s), (.int .i64 p), j57], [])) (fun q2 => (fun (p : Int) => ∃ (i_58 : Int), r = (Ex.ret, [(.str s), (.int .i64 i_58), (.int .i64 p)], [])) q2)
noncomputable def r1_skip_B (s : Str) (i : Int) : Option Int :=
 bnd (tloop (r1_skip_l2T s) i) fun e60_2 => elim e60_2
 (fun i_56 =>
 some i_56)
 (fun t_59 =>
 some t_59)
def r1_skip_ds : Decs := { decs := [(13, (.int .u8)), (18, (.int .u8)), (24, (.int .u8)), (30, (.int .u8)), (36, (.int .u8)), (44, .bool), (50, (.int .u8)), (59, (.int .u8)), (65, (.int .u8))], ups := [], loops := [(1, [], ⟨[.str, (.int .i64), .any], [], [(some 0, [.str, (.int .i64), .any], []), (none, [.str, (.int .i64), (.int .i64)], [])]⟩), (8, [], ⟨[.str, (.int .i64)], [], [(some 3, [.str, (.int .i64)], [])]⟩)] }
set_option maxRecDepth 100000 in
theorem r1_skip_t1 (O : Orc) (LP : LBody → LBody) (s : Str) (i : Int) : evalBodyD Tryd.prog (MT 30) r1_skip_ds Tryd.f30.ntmps O LP Tryd.f30 [(.str s), (.int .i64 i)] [] = r1_skip_T1 O LP s i := by kernel_rfl
theorem r1_skip_l1_ok (s : Str) : ∀ st l u, r1_skip_l1R s st l u → Imp (r1_skip_l1T s st) (r1_skip_l1 O loopLim l u) (StepR (r1_skip_l1R s) (r1_skip_l1X s)) := by
 rintro i_49 l u ⟨rfl, rfl⟩
 simp only [r1_skip_l1T, r1_skip_l1]
 refine Imp.chk rfl (Imp.chk rfl ?_)
 try simp only [evs, tys]
 refine Imp.cnd ?_ ?_
 ·refine Imp.op (f := fun a => .int .u8 (a.toNat : Int)) (fun a h => op_ixStr h) (fun a => rfl) fun y51 hy51 => ?_
  try simp only [evs, tys]
  refine Imp.cnd ?_ ?_
  ·refine Imp.op (f := fun a => .int .u8 (a.toNat : Int)) (fun a h => op_ixStr h) (fun a => rfl) fun y53 hy53 => ?_
   try simp only [evs, tys]
   refine Imp.cnd ?_ ?_
   ·exact Imp.some (StepR.next ⟨by first | rfl | simp only [evs, tys, evl], rfl⟩)
   ·exact Imp.some (StepR.brk (by first | rfl | simp only [evs, tys, evl, elim_inl, elim_inr]))
  ·exact Imp.some (StepR.brk (by first | rfl | simp only [evs, tys, evl, elim_inl, elim_inr]))
 ·exact Imp.some (StepR.brk (by first | rfl | simp only [evs, tys, evl, elim_inl, elim_inr]))
theorem r1_skip_l2_ok (s : Str) : ∀ st l u, r1_skip_l2R s st l u → Imp (r1_skip_l2T s st) (r1_skip_l2 O loopLim l u) (StepR (r1_skip_l2R s) (r1_skip_l2X s)) := by
 rintro i_28 l u ⟨j29, rfl, rfl⟩
 simp only [r1_skip_l2T, r1_skip_l2]
 refine Imp.chk rfl (Imp.chk rfl ?_)
 try simp only [evs, tys]
 refine Imp.cnd ?_ ?_
 ·refine Imp.op (f := fun a => .int .u8 (a.toNat : Int)) (fun a h => op_ixStr h) (fun a => rfl) fun y31 hy31 => ?_
  try simp only [evs, tys]
  refine Imp.cnd ?_ ?_
  ·exact Imp.some (StepR.next ⟨_, by first | rfl | simp only [evs, tys, evl], rfl⟩)
  ·refine Imp.op (f := fun a => .int .u8 (a.toNat : Int)) (fun a h => op_ixStr h) (fun a => rfl) fun y33 hy33 => ?_
   try simp only [evs, tys]
   refine Imp.cnd ?_ ?_
   ·exact Imp.some (StepR.next ⟨_, by first | rfl | simp only [evs, tys, evl], rfl⟩)
   ·refine Imp.op (f := fun a => .int .u8 (a.toNat : Int)) (fun a h => op_ixStr h) (fun a => rfl) fun y35 hy35 => ?_
    try simp only [evs, tys]
    refine Imp.cnd ?_ ?_
    ·exact Imp.some (StepR.next ⟨_, by first | rfl | simp only [evs, tys, evl], rfl⟩)
    ·refine Imp.op (f := fun a => .int .u8 (a.toNat : Int)) (fun a h => op_ixStr h) (fun a => rfl) fun y37 hy37 => ?_
     try simp only [evs, tys]
     refine Imp.cnd ?_ ?_
     ·exact Imp.some (StepR.next ⟨_, by first | rfl | simp only [evs, tys, evl], rfl⟩)
     ·refine Imp.op (f := fun a => .int .u8 (a.toNat : Int)) (fun a h => op_ixStr h) (fun a => rfl) fun y39 hy39 => ?_
      try simp only [evs, tys]
      refine Imp.cnd ?_ ?_
      ·exact Imp.some (StepR.next ⟨_, by first | rfl | simp only [evs, tys, evl], rfl⟩)
      ·refine Imp.call (f := r1_beginsE) rfl (fun a h => by first | exact r1_begins_spec h | simpa only [evs, tys, evl] using r1_begins_spec h) (fun a => by first | rfl | simp only [r1_beginsE, evk, chks]) fun y41 hy41 => ?_
       try simp only [r1_beginsE, evs, tys]
       refine Imp.cnd ?_ ?_
       ·exact Imp.some (StepR.next ⟨_, by first | rfl | simp only [evs, tys, evl], rfl⟩)
       ·refine Imp.op (f := fun a => .int .u8 (a.toNat : Int)) (fun a h => op_ixStr h) (fun a => rfl) fun y43 hy43 => ?_
        try simp only [evs, tys]
        refine Imp.cnd ?_ ?_
        ·refine Imp.bnd (Imp.loop (r1_skip_l1_ok s) ⟨by first | rfl | simp only [evs, tys, evl], rfl⟩) ?_
         rintro i_54 vy55 hy55
         cases hy55
         refine Imp.exHit rfl (Imp.chk rfl (Imp.chk rfl ?_))
         try simp only [evs, tys]
         exact Imp.some (StepR.next ⟨_, by first | rfl | simp only [evs, tys, evl], rfl⟩)
        ·exact Imp.some (StepR.ret ⟨i_28, by first | rfl | simp only [evs, tys, evl, elim_inl, elim_inr]⟩)
 ·exact Imp.some (StepR.brk ⟨_, by first | rfl | simp only [evs, tys, evl, elim_inl, elim_inr]⟩)
theorem r1_skip_imp (s : Str) (i : Int) : Imp (r1_skip_B s i) (r1_skip_T1 O loopLim s i) (fun r v => v = (r1_skipE r, [])) := by
 simp only [r1_skip_B, r1_skip_T1]
 try simp only [evs, tys]
 refine Imp.bnd (Imp.loop (r1_skip_l2_ok s) ⟨_, by first | rfl | simp only [evs, tys, evl], rfl⟩) ?_
 rintro (i_56 | t_59) vy60 hy60
 ·try simp only [elim_inl, elim_inr]
  obtain ⟨j57, rfl⟩ := hy60
  refine Imp.exHit rfl (Imp.chk rfl (Imp.chk rfl ?_))
  try simp only [evs, tys]
  exact Imp.some (by first | rfl | simp only [r1_skipE, evs, tys, evl])
 ·try simp only [elim_inl, elim_inr]
  obtain ⟨i_58, rfl⟩ := hy60
  refine Imp.exMiss rfl ?_
  refine Imp.exHit rfl (Imp.chk rfl (Imp.chk rfl ?_))
  try simp only [evs, tys]
  exact Imp.some (by first | rfl | simp only [r1_skipE, evs, tys, evl])
theorem r1_skip_run {s : Str} {i : Int} {r : Int} (h : r1_skip_B s i = some r) : r1_skip s i = some r := by
 obtain ⟨v, hv, rfl⟩ := r1_skip_imp s i r h
 exact tO_of (pair_inj r1_skipEj) (OL_runD r1_skip_ds rfl rfl Tryd.func30 ((r1_skip_t1 _ _ s i).trans hv))
def r1_next_l1 (O : Orc) (LP : LBody → LBody) : LBody := fun s21 s21u => cnd (chkL [.str, (.int .i64), (.ptr 0 4 0), (.int .i64), (.int .i64), .str, (.int .i64), .str] s21) (cnd (chkU [] s21u)
 (cnd (decide ((intV (gt s21 3)) < (List.length (strV (gt s21 0)) : Int)))
 (bnd (ixStr (.str (strV (gt s21 0))) (.int .i64 (intV (gt s21 3)))) fun x31 => cnd (chk (.int .u8) x31)
 (callp O 62 [(.int .u8 (intV x31))] fun x33 => cnd (chk .bool x33)
 (cnd (boolV x33)
 (some (.nrm, [(.str (strV (gt s21 0))), (.int .i64 (intV (gt s21 1))), (.ptr 0 4 0), (.int .i64 (IntKind.wrap .i64 ((intV (gt s21 3)) + 1))), (.int .i64 (intV (gt s21 4))), (.str (strV (gt s21 5))), (.int .i64 (intV (gt s21 6))), (.str (strV (gt s21 7)))], []))
 (bnd (ixStr (.str (strV (gt s21 0))) (.int .i64 (intV (gt s21 3)))) fun x35 => cnd (chk (.int .u8) x35)
 (callp O 63 [(.int .u8 (intV x35))] fun x37 => cnd (chk .bool x37)
 (cnd (boolV x37)
 (some (.nrm, [(.str (strV (gt s21 0))), (.int .i64 (intV (gt s21 1))), (.ptr 0 4 0), (.int .i64 (IntKind.wrap .i64 ((intV (gt s21 3)) + 1))), (.int .i64 (intV (gt s21 4))), (.str (strV (gt s21 5))), (.int .i64 (intV (gt s21 6))), (.str (strV (gt s21 7)))], []))
 (some (.brk 0, [(.str (strV (gt s21 0))), (.int .i64 (intV (gt s21 1))), (.ptr 0 4 0), (.int .i64 (intV (gt s21 3))), (.int .i64 (intV (gt s21 4))), (.str (strV (gt s21 5))), (.int .i64 (intV (gt s21 6))), (.str (strV (gt s21 7)))], []))) none) none)) none) none)
 (some (.brk 0, [(.str (strV (gt s21 0))), (.int .i64 (intV (gt s21 1))), (.ptr 0 4 0), (.int .i64 (intV (gt s21 3))), (.int .i64 (intV (gt s21 4))), (.str (strV (gt s21 5))), (.int .i64 (intV (gt s21 6))), (.str (strV (gt s21 7)))], []))) none) none
def r1_next_T1 (O : Orc) (LP : LBody → LBody) (s : Str) (i : Int) : Option (PV × UP) :=
 callp O 59 [(.str s), (.int .i64 i), (.str [46, 46, 46])] fun x1 => cnd (chk .bool x1)
 (cnd (boolV x1)
 (some ((.tuple [(.agg [(.int .i64 1), (.str [46, 46, 46])]), (.int .i64 (IntKind.wrap .i64 (i + 3))), (.bool true)]), []))
 (bnd (ixStr (.str s) (.int .i64 i)) fun x3 => cnd (chk (.int .u8) x3)
 (callp O 46 [(.str [33, 36, 38, 40, 41, 58, 61, 64, 91, 93, 123, 124, 125]), (.int .u8 (intV x3))] fun x5 => cnd (chk (.int .i64) x5)
 (cnd (decide ((intV x5) ≥ 0))
 (bnd (slcLH 0 (.str s) (.int .i64 i) (.int .i64 (IntKind.wrap .i64 (i + 1)))) fun x7 => cnd (chk .str x7)
 (some ((.tuple [(.agg [(.int .i64 1), (.str (strV x7))]), (.int .i64 (IntKind.wrap .i64 (i + 1))), (.bool true)]), [])) none)
 (callp O 59 [(.str s), (.int .i64 i), (.str [34, 34, 34])] fun x9 => cnd (chk .bool x9)
 (cnd (boolV x9)
 (callp O 60 [(.str s), (.int .i64 (IntKind.wrap .i64 (i + 3)))] fun x11 => cnd (chk (.tup [.str, (.int .i64), .bool]) x11)
 (some ((.tuple [(.agg [(.int .i64 5), (.str (strV (gt (tupV x11) 0)))]), (.int .i64 (intV (gt (tupV x11) 1))), (.bool (boolV (gt (tupV x11) 2)))]), [])) none)
 (bnd (ixStr (.str s) (.int .i64 i)) fun x13 => cnd (chk (.int .u8) x13)
 (cnd ((intV x13) == 34)
 (callp O 61 [(.str s), (.int .i64 (IntKind.wrap .i64 (i + 1)))] fun x15 => cnd (chk (.tup [.str, (.int .i64), .bool]) x15)
 (some ((.tuple [(.agg [(.int .i64 5), (.str (strV (gt (tupV x15) 0)))]), (.int .i64 (intV (gt (tupV x15) 1))), (.bool (boolV (gt (tupV x15) 2)))]), [])) none)
 (bnd (ixStr (.str s) (.int .i64 i)) fun x17 => cnd (chk (.int .u8) x17)
 (callp O 62 [(.int .u8 (intV x17))] fun x19 => cnd (chk .bool x19)
 (cnd (boolV x19)
 (bnd (LP (r1_next_l1 O LP) [(.str s), (.int .i64 i), (.ptr 0 4 0), (.int .i64 i), (.int .i64 0), (.str []), (.int .i64 0), (.str [])] []) fun y40 =>
 exIs y40.1 (some 0) (cnd (chkL [.str, (.int .i64), (.ptr 0 4 0), (.int .i64), (.int .i64), .str, (.int .i64), .str] y40.2.1) (cnd (chkU [] y40.2.2)
 (bnd (slcLH 0 (.str (strV (gt y40.2.1 0))) (.int .i64 (intV (gt y40.2.1 1))) (.int .i64 (intV (gt y40.2.1 3)))) fun x41 => cnd (chk .str x41)
 (some ((.tuple [(.agg [(.int .i64 2), (.str (strV x41))]), (.int .i64 (intV (gt y40.2.1 3))), (.bool true)]), [])) none) none) none)
 (none))
 (bnd (slcLo 0 (.str s) (.int .i64 i)) fun x43 => cnd (chk .str x43)
 (callp O 33 [(.str (strV x43))] fun x45 => cnd (chk (.tup [(.int .i64), (.int .i64)]) x45)
 (cnd ((intV (gt (tupV x45) 0)) == 0)
 (some ((.tuple [(.agg [(.int .i64 0), (.str [])]), (.int .i64 0), (.bool false)]), []))
 (cnd (decide ((IntKind.wrap .i64 (i + (intV (gt (tupV x45) 0)))) < (List.length s : Int)))
 (bnd (ixStr (.str s) (.int .i64 (IntKind.wrap .i64 (i + (intV (gt (tupV x45) 0)))))) fun x47 => cnd (chk (.int .u8) x47)
 (callp O 62 [(.int .u8 (intV x47))] fun x49 => cnd (chk .bool x49)
 (cnd (boolV x49)
 (some ((.tuple [(.agg [(.int .i64 0), (.str [])]), (.int .i64 0), (.bool false)]), []))
 (bnd (ixStr (.str s) (.int .i64 (IntKind.wrap .i64 (i + (intV (gt (tupV x45) 0)))))) fun x51 => cnd (chk (.int .u8) x51)
 (callp O 63 [(.int .u8 (intV x51))] fun x53 => cnd (chk .bool x53)
 (cnd (boolV x53)
 (some ((.tuple [(.agg [(.int .i64 0), (.str [])]), (.int .i64 0), (.bool false)]), []))
 (bnd (ixStr (.str s) (.int .i64 (IntKind.wrap .i64 (i + (intV (gt (tupV x45) 0)))))) fun x55 => cnd (chk (.int .u8) x55)
 (cnd ((intV x55) == 46)
 (some ((.tuple [(.agg [(.int .i64 0), (.str [])]), (.int .i64 0), (.bool false)]), []))
 (bnd (slcLH 0 (.str s) (.int .i64 i) (.int .i64 (IntKind.wrap .i64 (i + (intV (gt (tupV x45) 0)))))) fun x57 => cnd (chk .str x57)
 (some ((.tuple [(.agg [(.int .i64 (intV (gt (tupV x45) 1))), (.str (strV x57))]), (.int .i64 (IntKind.wrap .i64 (i + (intV (gt (tupV x45) 0))))), (.bool true)]), [])) none)) none)) none) none)) none) none)
 (bnd (slcLH 0 (.str s) (.int .i64 i) (.int .i64 (IntKind.wrap .i64 (i + (intV (gt (tupV x45) 0)))))) fun x59 => cnd (chk .str x59)
 (some ((.tuple [(.agg [(.int .i64 (intV (gt (tupV x45) 1))), (.str (strV x59))]), (.int .i64 (IntKind.wrap .i64 (i + (intV (gt (tupV x45) 0))))), (.bool true)]), [])) none))) none) none)) none) none)) none)) none)) none) none)) none
noncomputable def r1_next_l1T (s : Str) : Int → Option (Int ⊕ Int)
 | k_30 =>
 cnd (decide (k_30 < (List.length s : Int)))
  (bnd (nthI s k_30) fun y32 =>
  bnd (r1_start (y32.toNat : Int)) fun y34 =>
  cnd y34
  (some (.inl (IntKind.wrap .i64 (k_30 + 1))))
  (bnd (nthI s k_30) fun y36 =>
  bnd (r1_digit (y36.toNat : Int)) fun y38 =>
  cnd y38
   (some (.inl (IntKind.wrap .i64 (k_30 + 1))))
   (some (.inr k_30))))
  (some (.inr k_30))
abbrev r1_next_l1R (s : Str) (i : Int) (st : Int) (l : List PV) (u : UP) : Prop := l = [(.str s), (.int .i64 i), (.ptr 0 4 0), (.int .i64 st), (.int .i64 0), (.str []), (.int .i64 0), (.str [])] ∧ u = []
abbrev r1_next_l1X (s : Str) (i : Int) (p : Int) (r : Ex × List PV × UP) : Prop := (fun (p : Int) => r = (Ex.brk 0, [(.str s), (.int .i64 i), (.ptr 0 4 0), (.int .i64 p), (.int .i64 0), (.str []), (.int .i64 0), (.str [])], [])) p
noncomputable def r1_next_B (s : Str) (i : Int) : Option (GToken × Int × Bool) :=
 bnd (r1_begins s i [46, 46, 46]) fun y2 =>
 cnd y2
 (some ((GToken.mk 1 [46, 46, 46]), (IntKind.wrap .i64 (i + 3)), true))
 (bnd (nthI s i) fun y4 =>
 bnd (r1_index [33, 36, 38, 40, 41, 58, 61, 64, 91, 93, 123, 124, 125] (y4.toNat : Int)) fun y6 =>
 cnd (decide (y6 ≥ 0))
 (bnd (tslc s i (IntKind.wrap .i64 (i + 1))) fun y8 =>
 some ((GToken.mk 1 y8), (IntKind.wrap .i64 (i + 1)), true))
 (bnd (r1_begins s i [34, 34, 34]) fun y10 =>
 cnd y10
 (bnd (r1_blocked s (IntKind.wrap .i64 (i + 3))) fun y12 =>
 some ((GToken.mk 5 y12.1), y12.2.1, y12.2.2))
 (bnd (nthI s i) fun y14 =>
 cnd ((y14.toNat : Int) == 34)
 (bnd (r1_Quoted s (IntKind.wrap .i64 (i + 1))) fun y16 =>
 some ((GToken.mk 5 y16.1), y16.2.1, y16.2.2))
 (bnd (nthI s i) fun y18 =>
 bnd (r1_start (y18.toNat : Int)) fun y20 =>
 cnd y20
 (bnd (tloop (r1_next_l1T s) i) fun k_39 =>
 bnd (tslc s i k_39) fun y42 =>
 some ((GToken.mk 2 y42), k_39, true))
 (bnd (tslc s i (List.length s)) fun y44 =>
 bnd (r1_numeral y44) fun y46 =>
 cnd (y46.1 == 0)
 (some ((GToken.mk 0 []), 0, false))
 (cnd (decide ((IntKind.wrap .i64 (i + y46.1)) < (List.length s : Int)))
 (bnd (nthI s (IntKind.wrap .i64 (i + y46.1))) fun y48 =>
 bnd (r1_start (y48.toNat : Int)) fun y50 =>
 cnd y50
 (some ((GToken.mk 0 []), 0, false))
 (bnd (nthI s (IntKind.wrap .i64 (i + y46.1))) fun y52 =>
 bnd (r1_digit (y52.toNat : Int)) fun y54 =>
 cnd y54
 (some ((GToken.mk 0 []), 0, false))
 (bnd (nthI s (IntKind.wrap .i64 (i + y46.1))) fun y56 =>
 cnd ((y56.toNat : Int) == 46)
 (some ((GToken.mk 0 []), 0, false))
 (bnd (tslc s i (IntKind.wrap .i64 (i + y46.1))) fun y58 =>
 some ((GToken.mk y46.2 y58), (IntKind.wrap .i64 (i + y46.1)), true)))))
 (bnd (tslc s i (IntKind.wrap .i64 (i + y46.1))) fun y60 =>
 some ((GToken.mk y46.2 y60), (IntKind.wrap .i64 (i + y46.1)), true))))))))
def r1_next_ds : Decs := { decs := [(21, .bool), (27, (.int .u8)), (28, (.int .i64)), (34, .str), (40, .bool), (45, (.tup [.str, (.int .i64), .bool])), (55, (.int .u8)), (61, (.tup [.str, (.int .i64), .bool])), (71, (.int .u8)), (72, .bool), (81, (.int .u8)), (82, .bool), (86, (.int .u8)), (87, .bool), (95, .str), (101, .str), (102, (.tup [(.int .i64), (.int .i64)])), (118, (.int .u8)), (119, .bool), (123, (.int .u8)), (124, .bool), (129, (.int .u8)), (138, .str)], ups := [], loops := [(14, [(7, 2), (4, 2)], ⟨[.str, (.int .i64), (.ptr 0 4 0), (.int .i64), (.int .i64), .str, (.int .i64), .str], [], [(some 0, [.str, (.int .i64), (.ptr 0 4 0), (.int .i64), (.int .i64), .str, (.int .i64), .str], [])]⟩)] }
set_option maxRecDepth 100000 in
theorem r1_next_t1 (O : Orc) (LP : LBody → LBody) (s : Str) (i : Int) : evalBodyD Tryd.prog (MT 31) r1_next_ds Tryd.f31.ntmps O LP Tryd.f31 [(.str s), (.int .i64 i)] [] = r1_next_T1 O LP s i := by kernel_rfl
theorem r1_next_l1_ok (s : Str) (i : Int) : ∀ st l u, r1_next_l1R s i st l u → Imp (r1_next_l1T s st) (r1_next_l1 O loopLim l u) (StepR (r1_next_l1R s i) (r1_next_l1X s i)) := by
 rintro k_30 l u ⟨rfl, rfl⟩
 simp only [r1_next_l1T, r1_next_l1]
 refine Imp.chk rfl (Imp.chk rfl ?_)
 try simp only [evs, tys]
 refine Imp.cnd ?_ ?_
 ·refine Imp.op (f := fun a => .int .u8 (a.toNat : Int)) (fun a h => op_ixStr h) (fun a => rfl) fun y32 hy32 => ?_
  try simp only [evs, tys]
  refine Imp.call (f := r1_startE) rfl (fun a h => by first | exact r1_start_spec h | simpa only [evs, tys, evl] using r1_start_spec h) (fun a => by first | rfl | simp only [r1_startE, evk, chks]) fun y34 hy34 => ?_
  try simp only [r1_startE, evs, tys]
  refine Imp.cnd ?_ ?_
  ·exact Imp.some (StepR.next ⟨by first | rfl | simp only [evs, tys, evl], rfl⟩)
  ·refine Imp.op (f := fun a => .int .u8 (a.toNat : Int)) (fun a h => op_ixStr h) (fun a => rfl) fun y36 hy36 => ?_
   try simp only [evs, tys]
   refine Imp.call (f := r1_digitE) rfl (fun a h => by first | exact r1_digit_spec h | simpa only [evs, tys, evl] using r1_digit_spec h) (fun a => by first | rfl | simp only [r1_digitE, evk, chks]) fun y38 hy38 => ?_
   try simp only [r1_digitE, evs, tys]
   refine Imp.cnd ?_ ?_
   ·exact Imp.some (StepR.next ⟨by first | rfl | simp only [evs, tys, evl], rfl⟩)
   ·exact Imp.some (StepR.brk (by first | rfl | simp only [evs, tys, evl, elim_inl, elim_inr]))
 ·exact Imp.some (StepR.brk (by first | rfl | simp only [evs, tys, evl, elim_inl, elim_inr]))
theorem r1_next_imp (s : Str) (i : Int) : Imp (r1_next_B s i) (r1_next_T1 O loopLim s i) (fun r v => v = (r1_nextE r, [])) := by
 simp only [r1_next_B, r1_next_T1]
 try simp only [evs, tys]
 refine Imp.call (f := r1_beginsE) rfl (fun a h => by first | exact r1_begins_spec h | simpa only [evs, tys, evl] using r1_begins_spec h) (fun a => by first | rfl | simp only [r1_beginsE, evk, chks]) fun y2 hy2 => ?_
 try simp only [r1_beginsE, evs, tys]
 refine Imp.cnd ?_ ?_
 ·exact Imp.some (by first | rfl | simp only [r1_nextE, evs, tys, evl])
 ·refine Imp.op (f := fun a => .int .u8 (a.toNat : Int)) (fun a h => op_ixStr h) (fun a => rfl) fun y4 hy4 => ?_
  try simp only [evs, tys]
  refine Imp.call (f := r1_indexE) rfl (fun a h => by first | exact r1_index_spec h | simpa only [evs, tys, evl] using r1_index_spec h) (fun a => by first | rfl | simp only [r1_indexE, evk, chks]) fun y6 hy6 => ?_
  try simp only [r1_indexE, evs, tys]
  refine Imp.cnd ?_ ?_
  ·refine Imp.op (f := fun a => .str a) (fun a h => op_sslcLH h) (fun a => rfl) fun y8 hy8 => ?_
   try simp only [evs, tys]
   exact Imp.some (by first | rfl | simp only [r1_nextE, evs, tys, evl])
  ·refine Imp.call (f := r1_beginsE) rfl (fun a h => by first | exact r1_begins_spec h | simpa only [evs, tys, evl] using r1_begins_spec h) (fun a => by first | rfl | simp only [r1_beginsE, evk, chks]) fun y10 hy10 => ?_
   try simp only [r1_beginsE, evs, tys]
   refine Imp.cnd ?_ ?_
   ·refine Imp.call (f := r1_blockedE) rfl (fun a h => by first | exact r1_blocked_spec h | simpa only [evs, tys, evl] using r1_blocked_spec h) (fun a => by first | rfl | simp only [r1_blockedE, evk, chks]) fun y12 hy12 => ?_
    try simp only [r1_blockedE, evs, tys]
    exact Imp.some (by first | rfl | simp only [r1_nextE, evs, tys, evl])
   ·refine Imp.op (f := fun a => .int .u8 (a.toNat : Int)) (fun a h => op_ixStr h) (fun a => rfl) fun y14 hy14 => ?_
    try simp only [evs, tys]
    refine Imp.cnd ?_ ?_
    ·refine Imp.call (f := r1_QuotedE) rfl (fun a h => by first | exact r1_Quoted_spec h | simpa only [evs, tys, evl] using r1_Quoted_spec h) (fun a => by first | rfl | simp only [r1_QuotedE, evk, chks]) fun y16 hy16 => ?_
     try simp only [r1_QuotedE, evs, tys]
     exact Imp.some (by first | rfl | simp only [r1_nextE, evs, tys, evl])
    ·refine Imp.op (f := fun a => .int .u8 (a.toNat : Int)) (fun a h => op_ixStr h) (fun a => rfl) fun y18 hy18 => ?_
     try simp only [evs, tys]
     refine Imp.call (f := r1_startE) rfl (fun a h => by first | exact r1_start_spec h | simpa only [evs, tys, evl] using r1_start_spec h) (fun a => by first | rfl | simp only [r1_startE, evk, chks]) fun y20 hy20 => ?_
     try simp only [r1_startE, evs, tys]
     refine Imp.cnd ?_ ?_
     ·refine Imp.bnd (Imp.loop (r1_next_l1_ok s i) ⟨by first | rfl | simp only [evs, tys, evl], rfl⟩) ?_
      rintro k_39 vy40 hy40
      cases hy40
      refine Imp.exHit rfl (Imp.chk rfl (Imp.chk rfl ?_))
      try simp only [evs, tys]
      refine Imp.op (f := fun a => .str a) (fun a h => op_sslcLH h) (fun a => rfl) fun y42 hy42 => ?_
      try simp only [evs, tys]
      exact Imp.some (by first | rfl | simp only [r1_nextE, evs, tys, evl])
     ·refine Imp.op (f := fun a => .str a) (fun a h => op_sslcLo h) (fun a => rfl) fun y44 hy44 => ?_
      try simp only [evs, tys]
      refine Imp.call (f := r1_numeralE) rfl (fun a h => by first | exact r1_numeral_spec h | simpa only [evs, tys, evl] using r1_numeral_spec h) (fun a => by first | rfl | simp only [r1_numeralE, evk, chks]) fun y46 hy46 => ?_
      try simp only [r1_numeralE, evs, tys]
      refine Imp.cnd ?_ ?_
      ·exact Imp.some (by first | rfl | simp only [r1_nextE, evs, tys, evl])
      ·refine Imp.cnd ?_ ?_
       ·refine Imp.op (f := fun a => .int .u8 (a.toNat : Int)) (fun a h => op_ixStr h) (fun a => rfl) fun y48 hy48 => ?_
        try simp only [evs, tys]
        refine Imp.call (f := r1_startE) rfl (fun a h => by first | exact r1_start_spec h | simpa only [evs, tys, evl] using r1_start_spec h) (fun a => by first | rfl | simp only [r1_startE, evk, chks]) fun y50 hy50 => ?_
        try simp only [r1_startE, evs, tys]
        refine Imp.cnd ?_ ?_
        ·exact Imp.some (by first | rfl | simp only [r1_nextE, evs, tys, evl])
        ·refine Imp.op (f := fun a => .int .u8 (a.toNat : Int)) (fun a h => op_ixStr h) (fun a => rfl) fun y52 hy52 => ?_
         try simp only [evs, tys]
         refine Imp.call (f := r1_digitE) rfl (fun a h => by first | exact r1_digit_spec h | simpa only [evs, tys, evl] using r1_digit_spec h) (fun a => by first | rfl | simp only [r1_digitE, evk, chks]) fun y54 hy54 => ?_
         try simp only [r1_digitE, evs, tys]
         refine Imp.cnd ?_ ?_
         ·exact Imp.some (by first | rfl | simp only [r1_nextE, evs, tys, evl])
         ·refine Imp.op (f := fun a => .int .u8 (a.toNat : Int)) (fun a h => op_ixStr h) (fun a => rfl) fun y56 hy56 => ?_
          try simp only [evs, tys]
          refine Imp.cnd ?_ ?_
          ·exact Imp.some (by first | rfl | simp only [r1_nextE, evs, tys, evl])
          ·refine Imp.op (f := fun a => .str a) (fun a h => op_sslcLH h) (fun a => rfl) fun y58 hy58 => ?_
           try simp only [evs, tys]
           exact Imp.some (by first | rfl | simp only [r1_nextE, evs, tys, evl])
       ·refine Imp.op (f := fun a => .str a) (fun a h => op_sslcLH h) (fun a => rfl) fun y60 hy60 => ?_
        try simp only [evs, tys]
        exact Imp.some (by first | rfl | simp only [r1_nextE, evs, tys, evl])
theorem r1_next_run {s : Str} {i : Int} {r : GToken × Int × Bool} (h : r1_next_B s i = some r) : r1_next s i = some r := by
 obtain ⟨v, hv, rfl⟩ := r1_next_imp s i r h
 exact tO_of (pair_inj r1_nextEj) (OL_runD r1_next_ds rfl rfl Tryd.func31 ((r1_next_t1 _ _ s i).trans hv))
def to_number_T1 (O : Orc) (LP : LBody → LBody) (s : Str) : Option (PV × UP) :=
 callp O 64 [(.str s)] fun x1 => cnd (chk (.int .i64) x1)
 (cnd ((intV x1) == 0)
 (some ((.tuple [(.int .i64 0), (.int .i64 0)]), []))
 (jn (fun (n_13 : Int) (kind_14 : Int) (t_15 : Bool) =>
 (bnd (slcLo 0 (.str s) (.int .i64 n_13)) fun x16 => cnd (chk .str x16)
 (callp O 66 [(.str (strV x16))] fun x18 => cnd (chk (.int .i64) x18)
 (cnd (decide ((intV x18) > 0))
 (some ((.tuple [(.int .i64 (IntKind.wrap .i64 (n_13 + (intV x18)))), (.int .i64 4)]), []))
 (some ((.tuple [(.int .i64 n_13), (.int .i64 kind_14)]), []))) none) none)) fun k4 =>
 bnd (slcLo 0 (.str s) (.int .i64 (intV x1))) fun x5 => cnd (chk .str x5)
 (callp O 49 [(.str (strV x5)), (.str [46])] fun x7 => cnd (chk .bool x7)
 (cnd (boolV x7)
 (bnd (slcLo 0 (.str s) (.int .i64 (IntKind.wrap .i64 ((intV x1) + 1)))) fun x9 => cnd (chk .str x9)
 (callp O 65 [(.str (strV x9))] fun x11 => cnd (chk (.int .i64) x11)
 (cnd (decide ((intV x11) > 0))
 (k4 (IntKind.wrap .i64 ((IntKind.wrap .i64 ((intV x1) + 1)) + (intV x11))) 4 true)
 (k4 (intV x1) 3 true)) none) none)
 (k4 (intV x1) 3 false)) none) none)) none
noncomputable def to_number_B (s : Str) : Option (Int × Int) :=
 bnd (to_whole s) fun y2 =>
 cnd (y2 == 0)
 (some (0, 0))
 (jn (fun (n_13 : Int) (kind_14 : Int) (t_15 : Bool) =>
 (bnd (tslc s n_13 (List.length s)) fun y17 =>
 bnd (to_power y17) fun y19 =>
 cnd (decide (y19 > 0))
 (some ((IntKind.wrap .i64 (n_13 + y19)), 4))
 (some (n_13, kind_14)))) fun k4 =>
 bnd (tslc s y2 (List.length s)) fun y6 =>
 bnd (st_HasPrefix y6 [46]) fun y8 =>
 cnd y8
 (bnd (tslc s (IntKind.wrap .i64 (y2 + 1)) (List.length s)) fun y10 =>
 bnd (to_digits y10) fun y12 =>
 cnd (decide (y12 > 0))
 (k4 (IntKind.wrap .i64 ((IntKind.wrap .i64 (y2 + 1)) + y12)) 4 true)
 (k4 y2 3 true))
 (k4 y2 3 false))
def to_number_ds : Decs := { decs := [(9, (.int .i64)), (14, .str), (15, .bool), (19, .str), (20, (.int .i64)), (29, .str), (30, (.int .i64))], ups := [], loops := [] }
set_option maxRecDepth 100000 in
theorem to_number_t1 (O : Orc) (LP : LBody → LBody) (s : Str) : evalBodyD Tryd.prog (MT 32) to_number_ds Tryd.f32.ntmps O LP Tryd.f32 [(.str s)] [] = to_number_T1 O LP s := by kernel_rfl
theorem to_number_imp (s : Str) : Imp (to_number_B s) (to_number_T1 O loopLim s) (fun r v => v = (to_numberE r, [])) := by
 simp only [to_number_B, to_number_T1]
 try simp only [evs, tys]
 refine Imp.call (f := to_wholeE) rfl (fun a h => by first | exact to_whole_spec h | simpa only [evs, tys, evl] using to_whole_spec h) (fun a => by first | rfl | simp only [to_wholeE, evk, chks]) fun y2 hy2 => ?_
 try simp only [to_wholeE, evs, tys]
 refine Imp.cnd ?_ ?_
 ·exact Imp.some (by first | rfl | simp only [to_numberE, evs, tys, evl])
 ·refine Imp.jn (fun I k2 k1 => ∀ (n_13 : Int) (kind_14 : Int) (t_15 : Bool), I (k2 n_13 kind_14 t_15) (k1 n_13 kind_14 t_15)) (fun n_13 kind_14 t_15 => ?_) fun k4 k4t hk4 => ?_
  ·dsimp only
   try simp only [evs, tys]
   refine Imp.op (f := fun a => .str a) (fun a h => op_sslcLo h) (fun a => rfl) fun y17 hy17 => ?_
   try simp only [evs, tys]
   refine Imp.call (f := to_powerE) rfl (fun a h => by first | exact to_power_spec h | simpa only [evs, tys, evl] using to_power_spec h) (fun a => by first | rfl | simp only [to_powerE, evk, chks]) fun y19 hy19 => ?_
   try simp only [to_powerE, evs, tys]
   refine Imp.cnd ?_ ?_
   ·exact Imp.some (by first | rfl | simp only [to_numberE, evs, tys, evl])
   ·exact Imp.some (by first | rfl | simp only [to_numberE, evs, tys, evl])
  refine Imp.op (f := fun a => .str a) (fun a h => op_sslcLo h) (fun a => rfl) fun y6 hy6 => ?_
  try simp only [evs, tys]
  refine Imp.call (f := st_HasPrefixE) rfl (fun a h => by first | exact st_HasPrefix_spec h | simpa only [evs, tys, evl] using st_HasPrefix_spec h) (fun a => by first | rfl | simp only [st_HasPrefixE, evk, chks]) fun y8 hy8 => ?_
  try simp only [st_HasPrefixE, evs, tys]
  refine Imp.cnd ?_ ?_
  ·refine Imp.op (f := fun a => .str a) (fun a h => op_sslcLo h) (fun a => rfl) fun y10 hy10 => ?_
   try simp only [evs, tys]
   refine Imp.call (f := to_digitsE) rfl (fun a h => by first | exact to_digits_spec h | simpa only [evs, tys, evl] using to_digits_spec h) (fun a => by first | rfl | simp only [to_digitsE, evk, chks]) fun y12 hy12 => ?_
   try simp only [to_digitsE, evs, tys]
   refine Imp.cnd ?_ ?_
   ·first | exact hk4 _ _ _ | simpa only [evs, tys, evl] using hk4 _ _ _
   ·first | exact hk4 _ _ _ | simpa only [evs, tys, evl] using hk4 _ _ _
  ·first | exact hk4 _ _ _ | simpa only [evs, tys, evl] using hk4 _ _ _
theorem to_number_run {s : Str} {r : Int × Int} (h : to_number_B s = some r) : to_number s = some r := by
 obtain ⟨v, hv, rfl⟩ := to_number_imp s r h
 exact tO_of (pair_inj to_numberEj) (OL_runD to_number_ds rfl rfl Tryd.func32 ((to_number_t1 _ _ s).trans hv))
def r1_numeral_T1 (O : Orc) (LP : LBody → LBody) (s : Str) : Option (PV × UP) :=
 jn (fun (i_4 : Int) (t_5 : Bool) (t_6 : Bool) =>
 (callp O 67 [(.str s), (.int .i64 i_4)] fun x7 => cnd (chk (.int .i64) x7)
 (cnd ((intV x7) == 0)
 (some ((.tuple [(.int .i64 0), (.int .i64 0)]), []))
 (jn (fun (n_13 : Int) (t_14 : Bool) =>
 (jn (fun (i_22 : Int) (kind_23 : Int) (t_24 : Bool) (t_25 : Bool) (t_26 : Bool) (t_27 : Bool) =>
 (cnd (decide (i_22 < (List.length s : Int)))
 (bnd (ixStr (.str s) (.int .i64 i_22)) fun x28 => cnd (chk (.int .u8) x28)
 (cnd ((intV x28) == 101)
 (jn (fun (k_35 : Int) (t_36 : Bool) (t_37 : Bool) =>
 (callp O 67 [(.str s), (.int .i64 k_35)] fun x38 => cnd (chk (.int .i64) x38)
 (cnd (decide ((intV x38) > 0))
 (callp O 67 [(.str s), (.int .i64 k_35)] fun x40 => cnd (chk (.int .i64) x40)
 (some ((.tuple [(.int .i64 (IntKind.wrap .i64 (k_35 + (intV x40)))), (.int .i64 4)]), [])) none)
 (some ((.tuple [(.int .i64 i_22), (.int .i64 kind_23)]), []))) none)) fun k30 =>
 cnd (decide ((IntKind.wrap .i64 (i_22 + 1)) < (List.length s : Int)))
 (bnd (ixStr (.str s) (.int .i64 (IntKind.wrap .i64 (i_22 + 1)))) fun x31 => cnd (chk (.int .u8) x31)
 (cnd ((intV x31) == 43)
 (k30 (IntKind.wrap .i64 ((IntKind.wrap .i64 (i_22 + 1)) + 1)) true true)
 (bnd (ixStr (.str s) (.int .i64 (IntKind.wrap .i64 (i_22 + 1)))) fun x33 => cnd (chk (.int .u8) x33)
 (cnd ((intV x33) == 45)
 (k30 (IntKind.wrap .i64 ((IntKind.wrap .i64 (i_22 + 1)) + 1)) true true)
 (k30 (IntKind.wrap .i64 (i_22 + 1)) true false)) none)) none)
 (k30 (IntKind.wrap .i64 (i_22 + 1)) false false))
 (bnd (ixStr (.str s) (.int .i64 i_22)) fun x42 => cnd (chk (.int .u8) x42)
 (cnd ((intV x42) == 69)
 (jn (fun (k_49 : Int) (t_50 : Bool) (t_51 : Bool) =>
 (callp O 67 [(.str s), (.int .i64 k_49)] fun x52 => cnd (chk (.int .i64) x52)
 (cnd (decide ((intV x52) > 0))
 (callp O 67 [(.str s), (.int .i64 k_49)] fun x54 => cnd (chk (.int .i64) x54)
 (some ((.tuple [(.int .i64 (IntKind.wrap .i64 (k_49 + (intV x54)))), (.int .i64 4)]), [])) none)
 (some ((.tuple [(.int .i64 i_22), (.int .i64 kind_23)]), []))) none)) fun k44 =>
 cnd (decide ((IntKind.wrap .i64 (i_22 + 1)) < (List.length s : Int)))
 (bnd (ixStr (.str s) (.int .i64 (IntKind.wrap .i64 (i_22 + 1)))) fun x45 => cnd (chk (.int .u8) x45)
 (cnd ((intV x45) == 43)
 (k44 (IntKind.wrap .i64 ((IntKind.wrap .i64 (i_22 + 1)) + 1)) true true)
 (bnd (ixStr (.str s) (.int .i64 (IntKind.wrap .i64 (i_22 + 1)))) fun x47 => cnd (chk (.int .u8) x47)
 (cnd ((intV x47) == 45)
 (k44 (IntKind.wrap .i64 ((IntKind.wrap .i64 (i_22 + 1)) + 1)) true true)
 (k44 (IntKind.wrap .i64 (i_22 + 1)) true false)) none)) none)
 (k44 (IntKind.wrap .i64 (i_22 + 1)) false false))
 (some ((.tuple [(.int .i64 i_22), (.int .i64 kind_23)]), []))) none)) none)
 (some ((.tuple [(.int .i64 i_22), (.int .i64 kind_23)]), [])))) fun k15 =>
 cnd (decide ((IntKind.wrap .i64 (i_4 + n_13)) < (List.length s : Int)))
 (bnd (ixStr (.str s) (.int .i64 (IntKind.wrap .i64 (i_4 + n_13)))) fun x16 => cnd (chk (.int .u8) x16)
 (cnd ((intV x16) == 46)
 (callp O 67 [(.str s), (.int .i64 (IntKind.wrap .i64 ((IntKind.wrap .i64 (i_4 + n_13)) + 1)))] fun x18 => cnd (chk (.int .i64) x18)
 (cnd (decide ((intV x18) > 0))
 (callp O 67 [(.str s), (.int .i64 (IntKind.wrap .i64 ((IntKind.wrap .i64 (i_4 + n_13)) + 1)))] fun x20 => cnd (chk (.int .i64) x20)
 (k15 (IntKind.wrap .i64 ((IntKind.wrap .i64 ((IntKind.wrap .i64 (i_4 + n_13)) + 1)) + (intV x20))) 4 true ((intV x16) == 46) true true) none)
 (k15 (IntKind.wrap .i64 (i_4 + n_13)) 3 true ((intV x16) == 46) true false)) none)
 (k15 (IntKind.wrap .i64 (i_4 + n_13)) 3 true ((intV x16) == 46) false false)) none)
 (k15 (IntKind.wrap .i64 (i_4 + n_13)) 3 false false false false))) fun k10 =>
 bnd (ixStr (.str s) (.int .i64 i_4)) fun x11 => cnd (chk (.int .u8) x11)
 (cnd ((intV x11) == 48)
 (k10 1 true)
 (k10 (intV x7) false)) none)) none)) fun k1 =>
 cnd (decide ((0 : Int) < (List.length s : Int)))
 (bnd (ixStr (.str s) (.int .i64 0)) fun x2 => cnd (chk (.int .u8) x2)
 (cnd ((intV x2) == 45)
 (k1 1 true true)
 (k1 0 true false)) none)
 (k1 0 false false)
noncomputable def r1_numeral_B (s : Str) : Option (Int × Int) :=
 jn (fun (i_4 : Int) (t_5 : Bool) (t_6 : Bool) =>
 (bnd (r1_run s i_4) fun y8 =>
 cnd (y8 == 0)
 (some (0, 0))
 (jn (fun (n_13 : Int) (t_14 : Bool) =>
 (jn (fun (i_22 : Int) (kind_23 : Int) (t_24 : Bool) (t_25 : Bool) (t_26 : Bool) (t_27 : Bool) =>
 (cnd (decide (i_22 < (List.length s : Int)))
 (bnd (nthI s i_22) fun y29 =>
 cnd ((y29.toNat : Int) == 101)
 (jn (fun (k_35 : Int) (t_36 : Bool) (t_37 : Bool) =>
 (bnd (r1_run s k_35) fun y39 =>
 cnd (decide (y39 > 0))
 (bnd (r1_run s k_35) fun y41 =>
 some ((IntKind.wrap .i64 (k_35 + y41)), 4))
 (some (i_22, kind_23)))) fun k30 =>
 cnd (decide ((IntKind.wrap .i64 (i_22 + 1)) < (List.length s : Int)))
 (bnd (nthI s (IntKind.wrap .i64 (i_22 + 1))) fun y32 =>
 cnd ((y32.toNat : Int) == 43)
 (k30 (IntKind.wrap .i64 ((IntKind.wrap .i64 (i_22 + 1)) + 1)) true true)
 (bnd (nthI s (IntKind.wrap .i64 (i_22 + 1))) fun y34 =>
 cnd ((y34.toNat : Int) == 45)
 (k30 (IntKind.wrap .i64 ((IntKind.wrap .i64 (i_22 + 1)) + 1)) true true)
 (k30 (IntKind.wrap .i64 (i_22 + 1)) true false)))
 (k30 (IntKind.wrap .i64 (i_22 + 1)) false false))
 (bnd (nthI s i_22) fun y43 =>
 cnd ((y43.toNat : Int) == 69)
 (jn (fun (k_49 : Int) (t_50 : Bool) (t_51 : Bool) =>
 (bnd (r1_run s k_49) fun y53 =>
 cnd (decide (y53 > 0))
 (bnd (r1_run s k_49) fun y55 =>
 some ((IntKind.wrap .i64 (k_49 + y55)), 4))
 (some (i_22, kind_23)))) fun k44 =>
 cnd (decide ((IntKind.wrap .i64 (i_22 + 1)) < (List.length s : Int)))
 (bnd (nthI s (IntKind.wrap .i64 (i_22 + 1))) fun y46 =>
 cnd ((y46.toNat : Int) == 43)
 (k44 (IntKind.wrap .i64 ((IntKind.wrap .i64 (i_22 + 1)) + 1)) true true)
 (bnd (nthI s (IntKind.wrap .i64 (i_22 + 1))) fun y48 =>
 cnd ((y48.toNat : Int) == 45)
 (k44 (IntKind.wrap .i64 ((IntKind.wrap .i64 (i_22 + 1)) + 1)) true true)
 (k44 (IntKind.wrap .i64 (i_22 + 1)) true false)))
 (k44 (IntKind.wrap .i64 (i_22 + 1)) false false))
 (some (i_22, kind_23))))
 (some (i_22, kind_23)))) fun k15 =>
 cnd (decide ((IntKind.wrap .i64 (i_4 + n_13)) < (List.length s : Int)))
 (bnd (nthI s (IntKind.wrap .i64 (i_4 + n_13))) fun y17 =>
 cnd ((y17.toNat : Int) == 46)
 (bnd (r1_run s (IntKind.wrap .i64 ((IntKind.wrap .i64 (i_4 + n_13)) + 1))) fun y19 =>
 cnd (decide (y19 > 0))
 (bnd (r1_run s (IntKind.wrap .i64 ((IntKind.wrap .i64 (i_4 + n_13)) + 1))) fun y21 =>
 k15 (IntKind.wrap .i64 ((IntKind.wrap .i64 ((IntKind.wrap .i64 (i_4 + n_13)) + 1)) + y21)) 4 true ((y17.toNat : Int) == 46) true true)
 (k15 (IntKind.wrap .i64 (i_4 + n_13)) 3 true ((y17.toNat : Int) == 46) true false))
 (k15 (IntKind.wrap .i64 (i_4 + n_13)) 3 true ((y17.toNat : Int) == 46) false false))
 (k15 (IntKind.wrap .i64 (i_4 + n_13)) 3 false false false false))) fun k10 =>
 bnd (nthI s i_4) fun y12 =>
 cnd ((y12.toNat : Int) == 48)
 (k10 1 true)
 (k10 y8 false)))) fun k1 =>
 cnd (decide ((0 : Int) < (List.length s : Int)))
 (bnd (nthI s 0) fun y3 =>
 cnd ((y3.toNat : Int) == 45)
 (k1 1 true true)
 (k1 0 true false))
 (k1 0 false false)
def r1_numeral_ds : Decs := { decs := [(15, (.int .u8)), (22, (.int .i64)), (27, (.int .u8)), (39, (.int .u8)), (46, (.int .i64)), (54, (.int .i64)), (63, (.int .u8)), (68, (.int .u8)), (81, (.int .u8)), (86, (.int .u8)), (94, (.int .i64)), (99, (.int .i64))], ups := [], loops := [] }
set_option maxRecDepth 100000 in
theorem r1_numeral_t1 (O : Orc) (LP : LBody → LBody) (s : Str) : evalBodyD Tryd.prog (MT 33) r1_numeral_ds Tryd.f33.ntmps O LP Tryd.f33 [(.str s)] [] = r1_numeral_T1 O LP s := by kernel_rfl
theorem r1_numeral_imp (s : Str) : Imp (r1_numeral_B s) (r1_numeral_T1 O loopLim s) (fun r v => v = (r1_numeralE r, [])) := by
 simp only [r1_numeral_B, r1_numeral_T1]
 try simp only [evs, tys]
 refine Imp.jn (fun I k2 k1 => ∀ (i_4 : Int) (t_5 : Bool) (t_6 : Bool), I (k2 i_4 t_5 t_6) (k1 i_4 t_5 t_6)) (fun i_4 t_5 t_6 => ?_) fun k1 k1t hk1 => ?_
 ·dsimp only
  try simp only [evs, tys]
  refine Imp.call (f := r1_runE) rfl (fun a h => by first | exact r1_run_spec h | simpa only [evs, tys, evl] using r1_run_spec h) (fun a => by first | rfl | simp only [r1_runE, evk, chks]) fun y8 hy8 => ?_
  try simp only [r1_runE, evs, tys]
  refine Imp.cnd ?_ ?_
  ·exact Imp.some (by first | rfl | simp only [r1_numeralE, evs, tys, evl])
  ·refine Imp.jn (fun I k2 k1 => ∀ (n_13 : Int) (t_14 : Bool), I (k2 n_13 t_14) (k1 n_13 t_14)) (fun n_13 t_14 => ?_) fun k10 k10t hk10 => ?_
   ·dsimp only
    try simp only [evs, tys]
    refine Imp.jn (fun I k2 k1 => ∀ (i_22 : Int) (kind_23 : Int) (t_24 : Bool) (t_25 : Bool) (t_26 : Bool) (t_27 : Bool), I (k2 i_22 kind_23 t_24 t_25 t_26 t_27) (k1 i_22 kind_23 t_24 t_25 t_26 t_27)) (fun i_22 kind_23 t_24 t_25 t_26 t_27 => ?_) fun k15 k15t hk15 => ?_
    ·dsimp only
     try simp only [evs, tys]
     refine Imp.cnd ?_ ?_
     ·refine Imp.op (f := fun a => .int .u8 (a.toNat : Int)) (fun a h => op_ixStr h) (fun a => rfl) fun y29 hy29 => ?_
      try simp only [evs, tys]
      refine Imp.cnd ?_ ?_
      ·refine Imp.jn (fun I k2 k1 => ∀ (k_35 : Int) (t_36 : Bool) (t_37 : Bool), I (k2 k_35 t_36 t_37) (k1 k_35 t_36 t_37)) (fun k_35 t_36 t_37 => ?_) fun k30 k30t hk30 => ?_
       ·dsimp only
        try simp only [evs, tys]
        refine Imp.call (f := r1_runE) rfl (fun a h => by first | exact r1_run_spec h | simpa only [evs, tys, evl] using r1_run_spec h) (fun a => by first | rfl | simp only [r1_runE, evk, chks]) fun y39 hy39 => ?_
        try simp only [r1_runE, evs, tys]
        refine Imp.cnd ?_ ?_
        ·refine Imp.call (f := r1_runE) rfl (fun a h => by first | exact r1_run_spec h | simpa only [evs, tys, evl] using r1_run_spec h) (fun a => by first | rfl | simp only [r1_runE, evk, chks]) fun y41 hy41 => ?_
         try simp only [r1_runE, evs, tys]
         exact Imp.some (by first | rfl | simp only [r1_numeralE, evs, tys, evl])
        ·exact Imp.some (by first | rfl | simp only [r1_numeralE, evs, tys, evl])
       refine Imp.cnd ?_ ?_
       ·refine Imp.op (f := fun a => .int .u8 (a.toNat : Int)) (fun a h => op_ixStr h) (fun a => rfl) fun y32 hy32 => ?_
        try simp only [evs, tys]
        refine Imp.cnd ?_ ?_
        ·first | exact hk30 _ _ _ | simpa only [evs, tys, evl] using hk30 _ _ _
        ·refine Imp.op (f := fun a => .int .u8 (a.toNat : Int)) (fun a h => op_ixStr h) (fun a => rfl) fun y34 hy34 => ?_
         try simp only [evs, tys]
         refine Imp.cnd ?_ ?_
         ·first | exact hk30 _ _ _ | simpa only [evs, tys, evl] using hk30 _ _ _
         ·first | exact hk30 _ _ _ | simpa only [evs, tys, evl] using hk30 _ _ _
       ·first | exact hk30 _ _ _ | simpa only [evs, tys, evl] using hk30 _ _ _
      ·refine Imp.op (f := fun a => .int .u8 (a.toNat : Int)) (fun a h => op_ixStr h) (fun a => rfl) fun y43 hy43 => ?_
       try simp only [evs, tys]
       refine Imp.cnd ?_ ?_
       ·refine Imp.jn (fun I k2 k1 => ∀ (k_49 : Int) (t_50 : Bool) (t_51 : Bool), I (k2 k_49 t_50 t_51) (k1 k_49 t_50 t_51)) (fun k_49 t_50 t_51 => ?_) fun k44 k44t hk44 => ?_
        ·dsimp only
         try simp only [evs, tys]
         refine Imp.call (f := r1_runE) rfl (fun a h => by first | exact r1_run_spec h | simpa only [evs, tys, evl] using r1_run_spec h) (fun a => by first | rfl | simp only [r1_runE, evk, chks]) fun y53 hy53 => ?_
         try simp only [r1_runE, evs, tys]
         refine Imp.cnd ?_ ?_
         ·refine Imp.call (f := r1_runE) rfl (fun a h => by first | exact r1_run_spec h | simpa only [evs, tys, evl] using r1_run_spec h) (fun a => by first | rfl | simp only [r1_runE, evk, chks]) fun y55 hy55 => ?_
          try simp only [r1_runE, evs, tys]
          exact Imp.some (by first | rfl | simp only [r1_numeralE, evs, tys, evl])
         ·exact Imp.some (by first | rfl | simp only [r1_numeralE, evs, tys, evl])
        refine Imp.cnd ?_ ?_
        ·refine Imp.op (f := fun a => .int .u8 (a.toNat : Int)) (fun a h => op_ixStr h) (fun a => rfl) fun y46 hy46 => ?_
         try simp only [evs, tys]
         refine Imp.cnd ?_ ?_
         ·first | exact hk44 _ _ _ | simpa only [evs, tys, evl] using hk44 _ _ _
         ·refine Imp.op (f := fun a => .int .u8 (a.toNat : Int)) (fun a h => op_ixStr h) (fun a => rfl) fun y48 hy48 => ?_
          try simp only [evs, tys]
          refine Imp.cnd ?_ ?_
          ·first | exact hk44 _ _ _ | simpa only [evs, tys, evl] using hk44 _ _ _
          ·first | exact hk44 _ _ _ | simpa only [evs, tys, evl] using hk44 _ _ _
        ·first | exact hk44 _ _ _ | simpa only [evs, tys, evl] using hk44 _ _ _
       ·exact Imp.some (by first | rfl | simp only [r1_numeralE, evs, tys, evl])
     ·exact Imp.some (by first | rfl | simp only [r1_numeralE, evs, tys, evl])
    refine Imp.cnd ?_ ?_
    ·refine Imp.op (f := fun a => .int .u8 (a.toNat : Int)) (fun a h => op_ixStr h) (fun a => rfl) fun y17 hy17 => ?_
     try simp only [evs, tys]
     refine Imp.cnd ?_ ?_
     ·refine Imp.call (f := r1_runE) rfl (fun a h => by first | exact r1_run_spec h | simpa only [evs, tys, evl] using r1_run_spec h) (fun a => by first | rfl | simp only [r1_runE, evk, chks]) fun y19 hy19 => ?_
      try simp only [r1_runE, evs, tys]
      refine Imp.cnd ?_ ?_
      ·refine Imp.call (f := r1_runE) rfl (fun a h => by first | exact r1_run_spec h | simpa only [evs, tys, evl] using r1_run_spec h) (fun a => by first | rfl | simp only [r1_runE, evk, chks]) fun y21 hy21 => ?_
       try simp only [r1_runE, evs, tys]
       first | exact hk15 _ _ _ _ _ _ | simpa only [evs, tys, evl] using hk15 _ _ _ _ _ _
      ·first | exact hk15 _ _ _ _ _ _ | simpa only [evs, tys, evl] using hk15 _ _ _ _ _ _
     ·first | exact hk15 _ _ _ _ _ _ | simpa only [evs, tys, evl] using hk15 _ _ _ _ _ _
    ·first | exact hk15 _ _ _ _ _ _ | simpa only [evs, tys, evl] using hk15 _ _ _ _ _ _
   refine Imp.op (f := fun a => .int .u8 (a.toNat : Int)) (fun a h => op_ixStr h) (fun a => rfl) fun y12 hy12 => ?_
   try simp only [evs, tys]
   refine Imp.cnd ?_ ?_
   ·first | exact hk10 _ _ | simpa only [evs, tys, evl] using hk10 _ _
   ·first | exact hk10 _ _ | simpa only [evs, tys, evl] using hk10 _ _
 refine Imp.cnd ?_ ?_
 ·refine Imp.op (f := fun a => .int .u8 (a.toNat : Int)) (fun a h => op_ixStr h) (fun a => rfl) fun y3 hy3 => ?_
  try simp only [evs, tys]
  refine Imp.cnd ?_ ?_
  ·first | exact hk1 _ _ _ | simpa only [evs, tys, evl] using hk1 _ _ _
  ·first | exact hk1 _ _ _ | simpa only [evs, tys, evl] using hk1 _ _ _
 ·first | exact hk1 _ _ _ | simpa only [evs, tys, evl] using hk1 _ _ _
theorem r1_numeral_run {s : Str} {r : Int × Int} (h : r1_numeral_B s = some r) : r1_numeral s = some r := by
 obtain ⟨v, hv, rfl⟩ := r1_numeral_imp s r h
 exact tO_of (pair_inj r1_numeralEj) (OL_runD r1_numeral_ds rfl rfl Tryd.func33 ((r1_numeral_t1 _ _ s).trans hv))
def ls_Code_T1 (O : Orc) (LP : LBody → LBody) (s : Str) (i : Int) : Option (PV × UP) :=
 cnd (decide (i < 0))
 (some ((.tuple [(.int .i64 0), (.int .i64 0)]), []))
 (cnd (decide (i ≥ (List.length s : Int)))
 (some ((.tuple [(.int .i64 0), (.int .i64 0)]), []))
 (bnd (slcLo 0 (.str s) (.int .i64 i)) fun x1 => cnd (chk .str x1)
 (callp O 69 [(.str (strV x1))] fun x3 => cnd (chk (.tup [(.int .i32), (.int .i64)]) x3)
 (cnd ((intV (gt (tupV x3) 0)) == 65533)
 (cnd (decide ((intV (gt (tupV x3) 1)) < 2))
 (some ((.tuple [(.int .i64 0), (.int .i64 0)]), []))
 (some ((.tuple [(.int .i64 (IntKind.wrap .i64 (intV (gt (tupV x3) 0)))), (.int .i64 (intV (gt (tupV x3) 1)))]), [])))
 (some ((.tuple [(.int .i64 (IntKind.wrap .i64 (intV (gt (tupV x3) 0)))), (.int .i64 (intV (gt (tupV x3) 1)))]), []))) none) none))
noncomputable def ls_Code_B (s : Str) (i : Int) : Option (Int × Int) :=
 cnd (decide (i < 0))
 (some (0, 0))
 (cnd (decide (i ≥ (List.length s : Int)))
 (some (0, 0))
 (bnd (tslc s i (List.length s)) fun y2 =>
 bnd (uf_DecodeRuneInString y2) fun y4 =>
 cnd (y4.1 == 65533)
 (cnd (decide (y4.2 < 2))
 (some (0, 0))
 (some ((IntKind.wrap .i64 y4.1), y4.2)))
 (some ((IntKind.wrap .i64 y4.1), y4.2))))
def ls_Code_ds : Decs := { decs := [(19, .str), (20, (.tup [(.int .i32), (.int .i64)]))], ups := [], loops := [] }
set_option maxRecDepth 100000 in
theorem ls_Code_t1 (O : Orc) (LP : LBody → LBody) (s : Str) (i : Int) : evalBodyD Tryd.prog (MT 35) ls_Code_ds Tryd.f35.ntmps O LP Tryd.f35 [(.str s), (.int .i64 i)] [] = ls_Code_T1 O LP s i := by kernel_rfl
theorem ls_Code_imp (s : Str) (i : Int) : Imp (ls_Code_B s i) (ls_Code_T1 O loopLim s i) (fun r v => v = (ls_CodeE r, [])) := by
 simp only [ls_Code_B, ls_Code_T1]
 try simp only [evs, tys]
 refine Imp.cnd ?_ ?_
 ·exact Imp.some (by first | rfl | simp only [ls_CodeE, evs, tys, evl])
 ·refine Imp.cnd ?_ ?_
  ·exact Imp.some (by first | rfl | simp only [ls_CodeE, evs, tys, evl])
  ·refine Imp.op (f := fun a => .str a) (fun a h => op_sslcLo h) (fun a => rfl) fun y2 hy2 => ?_
   try simp only [evs, tys]
   refine Imp.call (f := uf_DecodeRuneInStringE) rfl (fun a h => by first | exact uf_DecodeRuneInString_spec h | simpa only [evs, tys, evl] using uf_DecodeRuneInString_spec h) (fun a => by first | rfl | simp only [uf_DecodeRuneInStringE, evk, chks]) fun y4 hy4 => ?_
   try simp only [uf_DecodeRuneInStringE, evs, tys]
   refine Imp.cnd ?_ ?_
   ·refine Imp.cnd ?_ ?_
    ·exact Imp.some (by first | rfl | simp only [ls_CodeE, evs, tys, evl])
    ·exact Imp.some (by first | rfl | simp only [ls_CodeE, evs, tys, evl])
   ·exact Imp.some (by first | rfl | simp only [ls_CodeE, evs, tys, evl])
theorem ls_Code_run {s : Str} {i : Int} {r : Int × Int} (h : ls_Code_B s i = some r) : ls_Code s i = some r := by
 obtain ⟨v, hv, rfl⟩ := ls_Code_imp s i r h
 exact tO_of (pair_inj ls_CodeEj) (OL_runD ls_Code_ds rfl rfl Tryd.func35 ((ls_Code_t1 _ _ s i).trans hv))
def ls_sign_T1 (O : Orc) (LP : LBody → LBody) (c : Int) : Option (PV × UP) :=
 cnd (c == 9)
 (some ((.bool true), []))
 (cnd (c == 10)
 (some ((.bool true), []))
 (cnd (c == 13)
 (some ((.bool true), []))
 (cnd (decide (c ≥ 32))
 (some ((.bool (decide (c ≤ 65535))), []))
 (some ((.bool false), [])))))
noncomputable def ls_sign_B (c : Int) : Option Bool :=
 cnd (c == 9)
 (some true)
 (cnd (c == 10)
 (some true)
 (cnd (c == 13)
 (some true)
 (cnd (decide (c ≥ 32))
 (some (decide (c ≤ 65535)))
 (some false))))
def ls_sign_ds : Decs := { decs := [], ups := [], loops := [] }
set_option maxRecDepth 100000 in
theorem ls_sign_t1 (O : Orc) (LP : LBody → LBody) (c : Int) : evalBodyD Tryd.prog (MT 36) ls_sign_ds Tryd.f36.ntmps O LP Tryd.f36 [(.int .i64 c)] [] = ls_sign_T1 O LP c := by kernel_rfl
theorem ls_sign_imp (c : Int) : Imp (ls_sign_B c) (ls_sign_T1 O loopLim c) (fun r v => v = (ls_signE r, [])) := by
 simp only [ls_sign_B, ls_sign_T1]
 try simp only [evs, tys]
 refine Imp.cnd ?_ ?_
 ·exact Imp.some (by first | rfl | simp only [ls_signE, evs, tys, evl])
 ·refine Imp.cnd ?_ ?_
  ·exact Imp.some (by first | rfl | simp only [ls_signE, evs, tys, evl])
  ·refine Imp.cnd ?_ ?_
   ·exact Imp.some (by first | rfl | simp only [ls_signE, evs, tys, evl])
   ·refine Imp.cnd ?_ ?_
    ·exact Imp.some (by first | rfl | simp only [ls_signE, evs, tys, evl])
    ·exact Imp.some (by first | rfl | simp only [ls_signE, evs, tys, evl])
theorem ls_sign_run {c : Int} {r : Bool} (h : ls_sign_B c = some r) : ls_sign c = some r := by
 obtain ⟨v, hv, rfl⟩ := ls_sign_imp c r h
 exact tO_of (pair_inj ls_signEj) (OL_runD ls_sign_ds rfl rfl Tryd.func36 ((ls_sign_t1 _ _ c).trans hv))
def st_HasPrefix_T1 (O : Orc) (LP : LBody → LBody) (s : Str) (prefix0 : Str) : Option (PV × UP) :=
 callp O 80 [(.str s), (.str prefix0)] fun x1 => cnd (chk .bool x1)
 (some ((.bool (boolV x1)), [])) none
noncomputable def st_HasPrefix_B (s : Str) (prefix0 : Str) : Option Bool :=
 bnd (sl_HasPrefix s prefix0) fun y2 =>
 some y2
def st_HasPrefix_ds : Decs := { decs := [(7, .bool)], ups := [], loops := [] }
set_option maxRecDepth 100000 in
theorem st_HasPrefix_t1 (O : Orc) (LP : LBody → LBody) (s : Str) (prefix0 : Str) : evalBodyD Tryd.prog (MT 49) st_HasPrefix_ds Tryd.f49.ntmps O LP Tryd.f49 [(.str s), (.str prefix0)] [] = st_HasPrefix_T1 O LP s prefix0 := by kernel_rfl
theorem st_HasPrefix_imp (s : Str) (prefix0 : Str) : Imp (st_HasPrefix_B s prefix0) (st_HasPrefix_T1 O loopLim s prefix0) (fun r v => v = (st_HasPrefixE r, [])) := by
 simp only [st_HasPrefix_B, st_HasPrefix_T1]
 try simp only [evs, tys]
 refine Imp.call (f := sl_HasPrefixE) rfl (fun a h => by first | exact sl_HasPrefix_spec h | simpa only [evs, tys, evl] using sl_HasPrefix_spec h) (fun a => by first | rfl | simp only [sl_HasPrefixE, evk, chks]) fun y2 hy2 => ?_
 try simp only [sl_HasPrefixE, evs, tys]
 exact Imp.some (by first | rfl | simp only [st_HasPrefixE, evs, tys, evl])
theorem st_HasPrefix_run {s : Str} {prefix0 : Str} {r : Bool} (h : st_HasPrefix_B s prefix0 = some r) : st_HasPrefix s prefix0 = some r := by
 obtain ⟨v, hv, rfl⟩ := st_HasPrefix_imp s prefix0 r h
 exact tO_of (pair_inj st_HasPrefixEj) (OL_runD st_HasPrefix_ds rfl rfl Tryd.func49 ((st_HasPrefix_t1 _ _ s prefix0).trans hv))
theorem st_IndexAny_run {s : Str} {chars : Str} {r : Int} (h : tIndexAny s chars = some r) : st_IndexAny s chars = some r := tO_of (pair_inj st_IndexAnyEj) (OL_ext (g := xIndexAny) rfl (xIndexAny_of h))
def to_blocked_l1 (O : Orc) (LP : LBody → LBody) : LBody := fun s1 s1u => cnd (chkL [.str, .str, (.int .i64), (.sl true), (.int .i64)] s1) (cnd (chkU [] s1u)
 (cnd (decide ((intV (gt s1 4)) ≥ (List.length (strV (gt s1 0)) : Int)))
 (some (.ret, [(.str (strV (gt s1 0))), (.str []), (.int .i64 0), (.slice (esV (gt s1 3)) [] true), (.int .i64 (intV (gt s1 4)))], []))
 (bnd (slcLo 0 (.str (strV (gt s1 0))) (.int .i64 (intV (gt s1 4)))) fun x18 => cnd (chk .str x18)
 (callp O 49 [(.str (strV x18)), (.str [34, 34, 34])] fun x20 => cnd (chk .bool x20)
 (cnd (boolV x20)
 (some (.brk 0, [(.str (strV (gt s1 0))), (.str (strV (gt s1 1))), (.int .i64 (intV (gt s1 2))), (.slice (esV (gt s1 3)) [] true), (.int .i64 (intV (gt s1 4)))], []))
 (bnd (slcLo 0 (.str (strV (gt s1 0))) (.int .i64 (intV (gt s1 4)))) fun x22 => cnd (chk .str x22)
 (callp O 49 [(.str (strV x22)), (.str [92, 34, 34, 34])] fun x24 => cnd (chk .bool x24)
 (cnd (boolV x24)
 (bnd (apdStr (.slice (esV (gt s1 3)) [] true) (.str [34, 34, 34])) fun x26 => cnd (chk (.sl true) x26)
 (some (.nrm, [(.str (strV (gt s1 0))), (.str (strV (gt s1 1))), (.int .i64 (intV (gt s1 2))), (.slice (esV x26) [] true), (.int .i64 (IntKind.wrap .i64 ((intV (gt s1 4)) + 4)))], [])) none)
 (bnd (ixStr (.str (strV (gt s1 0))) (.int .i64 (intV (gt s1 4)))) fun x28 => cnd (chk (.int .u8) x28)
 (bnd (apd 1 (.slice (esV (gt s1 3)) [] true) (.slice [(.int .u8 (intV x28))] [] true)) fun x30 => cnd (chk (.sl true) x30)
 (some (.nrm, [(.str (strV (gt s1 0))), (.str (strV (gt s1 1))), (.int .i64 (intV (gt s1 2))), (.slice (esV x30) [] true), (.int .i64 (IntKind.wrap .i64 ((intV (gt s1 4)) + 1)))], [])) none) none)) none) none)) none) none)) none) none
def to_blocked_T1 (O : Orc) (LP : LBody → LBody) (s : Str) : Option (PV × UP) :=
 bnd (LP (to_blocked_l1 O LP) [(.str s), (.str []), (.int .i64 0), (.slice [] [] true), (.int .i64 3)] []) fun y36 =>
 exIs y36.1 none (cnd (chkL [.str, .str, (.int .i64), (.sl true), (.int .i64)] y36.2.1) (cnd (chkU [] y36.2.2)
 (some ((.tuple [(.str (strV (gt y36.2.1 1))), (.int .i64 (intV (gt y36.2.1 2)))]), [])) none) none)
 (exIs y36.1 (some 0) (cnd (chkL [.str, .str, (.int .i64), (.sl true), (.int .i64)] y36.2.1) (cnd (chkU [] y36.2.2)
 (bnd (toStr (.slice (esV (gt y36.2.1 3)) [] false)) fun x37 => cnd (chk .str x37)
 (callp O 19 [(.str (strV x37))] fun x39 => cnd (chk .str x39)
 (some ((.tuple [(.str (strV x39)), (.int .i64 (IntKind.wrap .i64 ((intV (gt y36.2.1 4)) + 3)))]), [])) none) none) none) none)
 (none))
noncomputable def to_blocked_l1T (s : Str) : ((List Int) × Int) → Option (((List Int) × Int) ⊕ (Unit ⊕ ((List Int) × Int)))
 | (raw_16, i_17) =>
 cnd (decide (i_17 ≥ (List.length s : Int)))
  (some (.inr (.inl ())))
  (bnd (tslc s i_17 (List.length s)) fun y19 =>
  bnd (st_HasPrefix y19 [34, 34, 34]) fun y21 =>
  cnd y21
  (some (.inr (.inr (raw_16, i_17))))
  (bnd (tslc s i_17 (List.length s)) fun y23 =>
  bnd (st_HasPrefix y23 [92, 34, 34, 34]) fun y25 =>
  cnd y25
   (bnd (tapp raw_16 (intsT [34, 34, 34])) fun y27 =>
   some (.inl (y27, (IntKind.wrap .i64 (i_17 + 4)))))
   (bnd (nthI s i_17) fun y29 =>
   bnd (tapp raw_16 [(y29.toNat : Int)]) fun y31 =>
   some (.inl (y31, (IntKind.wrap .i64 (i_17 + 1)))))))
abbrev to_blocked_l1R (s : Str) (st : (List Int) × Int) (l : List PV) (u : UP) : Prop := l = [(.str s), (.str []), (.int .i64 0), (.slice (List.map (PV.int .u8) st.1) [] true), (.int .i64 st.2)] ∧ u = []
abbrev to_blocked_l1X (s : Str) (p : Unit ⊕ ((List Int) × Int)) (r : Ex × List PV × UP) : Prop := elim p (fun (p : Unit) => ∃ (raw_32 : List Int), ∃ (i_33 : Int), r = (Ex.ret, [(.str s), (.str []), (.int .i64 0), (.slice (List.map (PV.int .u8) raw_32) [] true), (.int .i64 i_33)], [])) (fun q2 => (fun (p : (List Int) × Int) => r = (Ex.brk 0, [(.str s), (.str []), (.int .i64 0), (.slice (List.map (PV.int .u8) p.1) [] true), (.int .i64 p.2)], [])) q2)
noncomputable def to_blocked_B (s : Str) : Option (Str × Int) :=
 bnd (tloop (to_blocked_l1T s) ([], 3)) fun e36_2 => elim e36_2
 (fun p36 =>
 some ([], 0))
 (fun p36 =>
 bnd (some (bytesT p36.1)) fun y38 =>
 bnd (bo_Value y38) fun y40 =>
 some (y40, (IntKind.wrap .i64 (p36.2 + 3))))
def to_blocked_ds : Decs := { decs := [(14, .str), (15, .bool), (19, .str), (20, .bool), (22, (.sl true)), (28, (.int .u8)), (30, (.sl true)), (34, .str), (35, .str)], ups := [], loops := [(3, [], ⟨[.str, .str, (.int .i64), (.sl true), (.int .i64)], [], [(none, [.str, .str, (.int .i64), (.sl true), (.int .i64)], []), (some 0, [.str, .str, (.int .i64), (.sl true), (.int .i64)], [])]⟩)] }
set_option maxRecDepth 100000 in
theorem to_blocked_t1 (O : Orc) (LP : LBody → LBody) (s : Str) : evalBodyD Tryd.prog (MT 51) to_blocked_ds Tryd.f51.ntmps O LP Tryd.f51 [(.str s)] [] = to_blocked_T1 O LP s := by kernel_rfl
theorem to_blocked_l1_ok (s : Str) : ∀ st l u, to_blocked_l1R s st l u → Imp (to_blocked_l1T s st) (to_blocked_l1 O loopLim l u) (StepR (to_blocked_l1R s) (to_blocked_l1X s)) := by
 rintro ⟨raw_16, i_17⟩ l u ⟨rfl, rfl⟩
 simp only [to_blocked_l1T, to_blocked_l1]
 refine Imp.chk rfl (Imp.chk rfl ?_)
 try simp only [evs, tys]
 refine Imp.cnd ?_ ?_
 ·exact Imp.some (StepR.ret ⟨raw_16, i_17, by first | rfl | simp only [evs, tys, evl, elim_inl, elim_inr]⟩)
 ·refine Imp.op (f := fun a => .str a) (fun a h => op_sslcLo h) (fun a => rfl) fun y19 hy19 => ?_
  try simp only [evs, tys]
  refine Imp.call (f := st_HasPrefixE) rfl (fun a h => by first | exact st_HasPrefix_spec h | simpa only [evs, tys, evl] using st_HasPrefix_spec h) (fun a => by first | rfl | simp only [st_HasPrefixE, evk, chks]) fun y21 hy21 => ?_
  try simp only [st_HasPrefixE, evs, tys]
  refine Imp.cnd ?_ ?_
  ·exact Imp.some (StepR.brk (by first | rfl | simp only [evs, tys, evl, elim_inl, elim_inr]))
  ·refine Imp.op (f := fun a => .str a) (fun a h => op_sslcLo h) (fun a => rfl) fun y23 hy23 => ?_
   try simp only [evs, tys]
   refine Imp.call (f := st_HasPrefixE) rfl (fun a h => by first | exact st_HasPrefix_spec h | simpa only [evs, tys, evl] using st_HasPrefix_spec h) (fun a => by first | rfl | simp only [st_HasPrefixE, evk, chks]) fun y25 hy25 => ?_
   try simp only [st_HasPrefixE, evs, tys]
   refine Imp.cnd ?_ ?_
   ·refine Imp.op (f := fun a => .slice (List.map (PV.int .u8) a) [] true) (fun a h => op_apdStr (by first | rfl | simp only [evs, tys, evl]) h) (fun a => rfl) fun y27 hy27 => ?_
    try simp only [evs, tys]
    exact Imp.some (StepR.next ⟨by first | rfl | simp only [evs, tys, evl], rfl⟩)
   ·refine Imp.op (f := fun a => .int .u8 (a.toNat : Int)) (fun a h => op_ixStr h) (fun a => rfl) fun y29 hy29 => ?_
    try simp only [evs, tys]
    refine Imp.op (f := fun a => .slice (List.map (PV.int .u8) a) [] true) (fun a h => op_apd (enc := (PV.int .u8)) (by first | rfl | simp only [evs, tys, evl]) (by first | rfl | simp only [evs, tys, evl]) (fun a => by first | rfl | simp only [evs, tys, evc]) h) (fun a => rfl) fun y31 hy31 => ?_
    try simp only [evs, tys]
    exact Imp.some (StepR.next ⟨by first | rfl | simp only [evs, tys, evl], rfl⟩)
theorem to_blocked_imp (s : Str) : Imp (to_blocked_B s) (to_blocked_T1 O loopLim s) (fun r v => v = (to_blockedE r, [])) := by
 simp only [to_blocked_B, to_blocked_T1]
 try simp only [evs, tys]
 refine Imp.bnd (Imp.loop (to_blocked_l1_ok s) ⟨by first | rfl | simp only [evs, tys, evl], rfl⟩) ?_
 rintro (p | ⟨raw_34, i_35⟩) vy36 hy36
 ·try simp only [elim_inl, elim_inr]
  obtain ⟨raw_32, i_33, rfl⟩ := hy36
  refine Imp.exHit rfl (Imp.chk rfl (Imp.chk rfl ?_))
  try simp only [evs, tys]
  exact Imp.some (by first | rfl | simp only [to_blockedE, evs, tys, evl])
 ·try simp only [elim_inl, elim_inr]
  cases hy36
  refine Imp.exMiss rfl ?_
  refine Imp.exHit rfl (Imp.chk rfl (Imp.chk rfl ?_))
  try simp only [evs, tys]
  refine Imp.op (f := fun a => .str a) (fun a h => op_toStr (by first | rfl | simp only [evs, tys, evl]) h) (fun a => rfl) fun y38 hy38 => ?_
  try simp only [evs, tys]
  refine Imp.call (f := bo_ValueE) rfl (fun a h => by first | exact bo_Value_spec h | simpa only [evs, tys, evl] using bo_Value_spec h) (fun a => by first | rfl | simp only [bo_ValueE, evk, chks]) fun y40 hy40 => ?_
  try simp only [bo_ValueE, evs, tys]
  exact Imp.some (by first | rfl | simp only [to_blockedE, evs, tys, evl])
theorem to_blocked_run {s : Str} {r : Str × Int} (h : to_blocked_B s = some r) : to_blocked s = some r := by
 obtain ⟨v, hv, rfl⟩ := to_blocked_imp s r h
 exact tO_of (pair_inj to_blockedEj) (OL_runD to_blocked_ds rfl rfl Tryd.func51 ((to_blocked_t1 _ _ s).trans hv))
def to_Unit_l1 (O : Orc) (LP : LBody → LBody) : LBody := fun s1 s1u => cnd (chkL [.str, (.int .i64), .bool, (.int .i64), (.int .i64)] s1) (cnd (chkU [] s1u)
 (cnd (decide ((intV (gt s1 4)) < 4))
 (bnd (ixStr (.str (strV (gt s1 0))) (.int .i64 (intV (gt s1 4)))) fun x14 => cnd (chk (.int .u8) x14)
 (callp O 54 [(.str [48, 49, 50, 51, 52, 53, 54, 55, 56, 57, 97, 98, 99, 100, 101, 102]), (.int .u8 (bits .or .u8 (intV x14) 32))] fun x16 => cnd (chk (.int .i64) x16)
 (cnd (decide ((intV x16) < 0))
 (some (.ret, [(.str (strV (gt s1 0))), (.int .i64 0), (.bool false), (.int .i64 (intV (gt s1 3))), (.int .i64 (intV (gt s1 4)))], []))
 (bnd (ixStr (.str (strV (gt s1 0))) (.int .i64 (intV (gt s1 4)))) fun x18 => cnd (chk (.int .u8) x18)
 (cnd (decide ((intV x18) < 48))
 (some (.ret, [(.str (strV (gt s1 0))), (.int .i64 0), (.bool false), (.int .i64 (intV (gt s1 3))), (.int .i64 (intV (gt s1 4)))], []))
 (bnd (ixStr (.str (strV (gt s1 0))) (.int .i64 (intV (gt s1 4)))) fun x20 => cnd (chk (.int .u8) x20)
 (cnd (decide ((intV x20) > 57))
 (bnd (ixStr (.str (strV (gt s1 0))) (.int .i64 (intV (gt s1 4)))) fun x22 => cnd (chk (.int .u8) x22)
 (cnd (decide ((intV x22) < 65))
 (some (.ret, [(.str (strV (gt s1 0))), (.int .i64 0), (.bool false), (.int .i64 (intV (gt s1 3))), (.int .i64 (intV (gt s1 4)))], []))
 (some (.nrm, [(.str (strV (gt s1 0))), (.int .i64 (intV (gt s1 1))), (.bool (boolV (gt s1 2))), (.int .i64 (IntKind.wrap .i64 ((IntKind.wrap .i64 (16 * (intV (gt s1 3)))) + (intV x16)))), (.int .i64 (IntKind.wrap .i64 ((intV (gt s1 4)) + 1)))], []))) none)
 (some (.nrm, [(.str (strV (gt s1 0))), (.int .i64 (intV (gt s1 1))), (.bool (boolV (gt s1 2))), (.int .i64 (IntKind.wrap .i64 ((IntKind.wrap .i64 (16 * (intV (gt s1 3)))) + (intV x16)))), (.int .i64 (IntKind.wrap .i64 ((intV (gt s1 4)) + 1)))], []))) none)) none)) none) none)
 (some (.brk 0, [(.str (strV (gt s1 0))), (.int .i64 (intV (gt s1 1))), (.bool (boolV (gt s1 2))), (.int .i64 (intV (gt s1 3))), (.int .i64 (intV (gt s1 4)))], []))) none) none
def to_Unit_T1 (O : Orc) (LP : LBody → LBody) (s : Str) : Option (PV × UP) :=
 cnd (decide ((List.length s : Int) < 4))
 (some ((.tuple [(.int .i64 0), (.bool false)]), []))
 (bnd (LP (to_Unit_l1 O LP) [(.str s), (.int .i64 0), (.bool false), (.int .i64 0), (.int .i64 0)] []) fun y28 =>
 exIs y28.1 (some 0) (cnd (chkL [.str, (.int .i64), .bool, (.int .i64), (.int .i64)] y28.2.1) (cnd (chkU [] y28.2.2)
 (some ((.tuple [(.int .i64 (intV (gt y28.2.1 3))), (.bool true)]), [])) none) none)
 (exIs y28.1 none (cnd (chkL [.str, (.int .i64), .bool, (.int .i64), (.int .i64)] y28.2.1) (cnd (chkU [] y28.2.2)
 (some ((.tuple [(.int .i64 (intV (gt y28.2.1 1))), (.bool (boolV (gt y28.2.1 2)))]), [])) none) none)
 (none)))
noncomputable def to_Unit_l1T (s : Str) : (Int × Int) → Option ((Int × Int) ⊕ (Int ⊕ Unit))
 | (u_12, t_13) =>
 cnd (decide (t_13 < 4))
  (bnd (nthI s t_13) fun y15 =>
  bnd (st_IndexByte [48, 49, 50, 51, 52, 53, 54, 55, 56, 57, 97, 98, 99, 100, 101, 102] (bits .or .u8 (y15.toNat : Int) 32)) fun y17 =>
  cnd (decide (y17 < 0))
  (some (.inr (.inr ())))
  (bnd (nthI s t_13) fun y19 =>
  cnd (decide ((y19.toNat : Int) < 48))
   (some (.inr (.inr ())))
   (bnd (nthI s t_13) fun y21 =>
   cnd (decide ((y21.toNat : Int) > 57))
   (bnd (nthI s t_13) fun y23 =>
   cnd (decide ((y23.toNat : Int) < 65))
    (some (.inr (.inr ())))
    (some (.inl ((IntKind.wrap .i64 ((IntKind.wrap .i64 (16 * u_12)) + y17)), (IntKind.wrap .i64 (t_13 + 1))))))
   (some (.inl ((IntKind.wrap .i64 ((IntKind.wrap .i64 (16 * u_12)) + y17)), (IntKind.wrap .i64 (t_13 + 1))))))))
  (some (.inr (.inl u_12)))
abbrev to_Unit_l1R (s : Str) (st : Int × Int) (l : List PV) (u : UP) : Prop := l = [(.str s), (.int .i64 0), (.bool false), (.int .i64 st.1), (.int .i64 st.2)] ∧ u = []
abbrev to_Unit_l1X (s : Str) (p : Int ⊕ Unit) (r : Ex × List PV × UP) : Prop := elim p (fun (p : Int) => ∃ (t_25 : Int), r = (Ex.brk 0, [(.str s), (.int .i64 0), (.bool false), (.int .i64 p), (.int .i64 t_25)], [])) (fun q2 => (fun (p : Unit) => ∃ (u_26 : Int), ∃ (t_27 : Int), r = (Ex.ret, [(.str s), (.int .i64 0), (.bool false), (.int .i64 u_26), (.int .i64 t_27)], [])) q2)
noncomputable def to_Unit_B (s : Str) : Option (Int × Bool) :=
 cnd (decide ((List.length s : Int) < 4))
 (some (0, false))
 (bnd (tloop (to_Unit_l1T s) (0, 0)) fun e28_2 => elim e28_2
 (fun u_24 =>
 some (u_24, true))
 (fun p28 =>
 some (0, false)))
def to_Unit_ds : Decs := { decs := [(15, (.int .u8)), (17, (.int .i64)), (23, (.int .u8)), (29, (.int .u8)), (34, (.int .u8))], ups := [], loops := [(5, [], ⟨[.str, (.int .i64), .bool, (.int .i64), (.int .i64)], [], [(some 0, [.str, (.int .i64), .bool, (.int .i64), (.int .i64)], []), (none, [.str, (.int .i64), .bool, (.int .i64), (.int .i64)], [])]⟩)] }
set_option maxRecDepth 100000 in
theorem to_Unit_t1 (O : Orc) (LP : LBody → LBody) (s : Str) : evalBodyD Tryd.prog (MT 100) to_Unit_ds Tryd.f100.ntmps O LP Tryd.f100 [(.str s)] [] = to_Unit_T1 O LP s := by kernel_rfl
theorem to_Unit_l1_ok (s : Str) : ∀ st l u, to_Unit_l1R s st l u → Imp (to_Unit_l1T s st) (to_Unit_l1 O loopLim l u) (StepR (to_Unit_l1R s) (to_Unit_l1X s)) := by
 rintro ⟨u_12, t_13⟩ l u ⟨rfl, rfl⟩
 simp only [to_Unit_l1T, to_Unit_l1]
 refine Imp.chk rfl (Imp.chk rfl ?_)
 try simp only [evs, tys]
 refine Imp.cnd ?_ ?_
 ·refine Imp.op (f := fun a => .int .u8 (a.toNat : Int)) (fun a h => op_ixStr h) (fun a => rfl) fun y15 hy15 => ?_
  try simp only [evs, tys]
  refine Imp.call (f := st_IndexByteE) rfl (fun a h => by first | exact st_IndexByte_spec h | simpa only [evs, tys, evl] using st_IndexByte_spec h) (fun a => by first | rfl | simp only [st_IndexByteE, evk, chks]) fun y17 hy17 => ?_
  try simp only [st_IndexByteE, evs, tys]
  refine Imp.cnd ?_ ?_
  ·exact Imp.some (StepR.ret ⟨u_12, t_13, by first | rfl | simp only [evs, tys, evl, elim_inl, elim_inr]⟩)
  ·refine Imp.op (f := fun a => .int .u8 (a.toNat : Int)) (fun a h => op_ixStr h) (fun a => rfl) fun y19 hy19 => ?_
   try simp only [evs, tys]
   refine Imp.cnd ?_ ?_
   ·exact Imp.some (StepR.ret ⟨u_12, t_13, by first | rfl | simp only [evs, tys, evl, elim_inl, elim_inr]⟩)
   ·refine Imp.op (f := fun a => .int .u8 (a.toNat : Int)) (fun a h => op_ixStr h) (fun a => rfl) fun y21 hy21 => ?_
    try simp only [evs, tys]
    refine Imp.cnd ?_ ?_
    ·refine Imp.op (f := fun a => .int .u8 (a.toNat : Int)) (fun a h => op_ixStr h) (fun a => rfl) fun y23 hy23 => ?_
     try simp only [evs, tys]
     refine Imp.cnd ?_ ?_
     ·exact Imp.some (StepR.ret ⟨u_12, t_13, by first | rfl | simp only [evs, tys, evl, elim_inl, elim_inr]⟩)
     ·exact Imp.some (StepR.next ⟨by first | rfl | simp only [evs, tys, evl], rfl⟩)
    ·exact Imp.some (StepR.next ⟨by first | rfl | simp only [evs, tys, evl], rfl⟩)
 ·exact Imp.some (StepR.brk ⟨t_13, by first | rfl | simp only [evs, tys, evl, elim_inl, elim_inr]⟩)
theorem to_Unit_imp (s : Str) : Imp (to_Unit_B s) (to_Unit_T1 O loopLim s) (fun r v => v = (to_UnitE r, [])) := by
 simp only [to_Unit_B, to_Unit_T1]
 try simp only [evs, tys]
 refine Imp.cnd ?_ ?_
 ·exact Imp.some (by first | rfl | simp only [to_UnitE, evs, tys, evl])
 ·refine Imp.bnd (Imp.loop (to_Unit_l1_ok s) ⟨by first | rfl | simp only [evs, tys, evl], rfl⟩) ?_
  rintro (u_24 | p) vy28 hy28
  ·try simp only [elim_inl, elim_inr]
   obtain ⟨t_25, rfl⟩ := hy28
   refine Imp.exHit rfl (Imp.chk rfl (Imp.chk rfl ?_))
   try simp only [evs, tys]
   exact Imp.some (by first | rfl | simp only [to_UnitE, evs, tys, evl])
  ·try simp only [elim_inl, elim_inr]
   obtain ⟨u_26, t_27, rfl⟩ := hy28
   refine Imp.exMiss rfl ?_
   refine Imp.exHit rfl (Imp.chk rfl (Imp.chk rfl ?_))
   try simp only [evs, tys]
   exact Imp.some (by first | rfl | simp only [to_UnitE, evs, tys, evl])
theorem to_Unit_run {s : Str} {r : Int × Bool} (h : to_Unit_B s = some r) : to_Unit s = some r := by
 obtain ⟨v, hv, rfl⟩ := to_Unit_imp s r h
 exact tO_of (pair_inj to_UnitEj) (OL_runD to_Unit_ds rfl rfl Tryd.func100 ((to_Unit_t1 _ _ s).trans hv))
theorem st_IndexByte_run {s : Str} {c : Int} {r : Int} (h : tIndexByte s c = some r) : st_IndexByte s c = some r := tO_of (pair_inj st_IndexByteEj) (OL_ext (g := xIndexByte) rfl (xIndexByte_of h))
def ls_Join_l1 (O : Orc) (LP : LBody → LBody) : LBody := fun s1 s1u => cnd (chkL [(.sl false), .str, .bool, (.sl true), (.int .i64)] s1) (cnd (chkU [] s1u)
 (cnd (decide ((intV (gt s1 4)) < (List.length (esV (gt s1 0)) : Int)))
 (bnd (ix 1 (.slice (esV (gt s1 0)) [] false) (.int .i64 (intV (gt s1 4)))) fun x30 => cnd (chk (.ref (.int .i64)) x30)
 (cnd (decide ((intV (refV x30)) < 0))
 (some (.ret, [(.slice (esV (gt s1 0)) [] false), (.str []), (.bool false), (.slice (esV (gt s1 3)) [] true), (.int .i64 (intV (gt s1 4)))], []))
 (cnd (decide ((intV (refV x30)) > 65535))
 (some (.ret, [(.slice (esV (gt s1 0)) [] false), (.str []), (.bool false), (.slice (esV (gt s1 3)) [] true), (.int .i64 (intV (gt s1 4)))], []))
 (cnd (decide ((intV (refV x30)) ≥ 56320))
 (cnd (decide ((intV (refV x30)) ≤ 57343))
 (some (.ret, [(.slice (esV (gt s1 0)) [] false), (.str []), (.bool false), (.slice (esV (gt s1 3)) [] true), (.int .i64 (intV (gt s1 4)))], []))
 (cnd (decide ((intV (refV x30)) ≥ 55296))
 (cnd (decide ((intV (refV x30)) < 56320))
 (cnd ((IntKind.wrap .i64 ((intV (gt s1 4)) + 1)) == (List.length (esV (gt s1 0)) : Int))
 (some (.ret, [(.slice (esV (gt s1 0)) [] false), (.str []), (.bool false), (.slice (esV (gt s1 3)) [] true), (.int .i64 (IntKind.wrap .i64 ((intV (gt s1 4)) + 1)))], []))
 (bnd (ix 1 (.slice (esV (gt s1 0)) [] false) (.int .i64 (IntKind.wrap .i64 ((intV (gt s1 4)) + 1)))) fun x32 => cnd (chk (.ref (.int .i64)) x32)
 (cnd (decide ((intV (refV x32)) < 56320))
 (some (.ret, [(.slice (esV (gt s1 0)) [] false), (.str []), (.bool false), (.slice (esV (gt s1 3)) [] true), (.int .i64 (IntKind.wrap .i64 ((intV (gt s1 4)) + 1)))], []))
 (bnd (ix 1 (.slice (esV (gt s1 0)) [] false) (.int .i64 (IntKind.wrap .i64 ((intV (gt s1 4)) + 1)))) fun x34 => cnd (chk (.ref (.int .i64)) x34)
 (cnd (decide ((intV (refV x34)) > 57343))
 (some (.ret, [(.slice (esV (gt s1 0)) [] false), (.str []), (.bool false), (.slice (esV (gt s1 3)) [] true), (.int .i64 (IntKind.wrap .i64 ((intV (gt s1 4)) + 1)))], []))
 (bnd (ix 1 (.slice (esV (gt s1 0)) [] false) (.int .i64 (IntKind.wrap .i64 ((intV (gt s1 4)) + 1)))) fun x36 => cnd (chk (.ref (.int .i64)) x36)
 (callp O 34 [(.slice (esV (gt s1 3)) [] true), (.int .i32 (IntKind.wrap .i32 (IntKind.wrap .i64 ((IntKind.wrap .i64 ((IntKind.wrap .i64 (65536 + (IntKind.wrap .i64 (1024 * (IntKind.wrap .i64 ((intV (refV x30)) - 55296)))))) + (intV (refV x36)))) - 56320))))] fun x38 => cnd (chk (.sl true) x38)
 (some (.nrm, [(.slice (esV (gt s1 0)) [] false), (.str (strV (gt s1 1))), (.bool (boolV (gt s1 2))), (.slice (esV x38) [] true), (.int .i64 (IntKind.wrap .i64 ((IntKind.wrap .i64 ((intV (gt s1 4)) + 1)) + 1)))], [])) none) none)) none)) none))
 (callp O 34 [(.slice (esV (gt s1 3)) [] true), (.int .i32 (IntKind.wrap .i32 (intV (refV x30))))] fun x40 => cnd (chk (.sl true) x40)
 (some (.nrm, [(.slice (esV (gt s1 0)) [] false), (.str (strV (gt s1 1))), (.bool (boolV (gt s1 2))), (.slice (esV x40) [] true), (.int .i64 (IntKind.wrap .i64 ((intV (gt s1 4)) + 1)))], [])) none))
 (callp O 34 [(.slice (esV (gt s1 3)) [] true), (.int .i32 (IntKind.wrap .i32 (intV (refV x30))))] fun x42 => cnd (chk (.sl true) x42)
 (some (.nrm, [(.slice (esV (gt s1 0)) [] false), (.str (strV (gt s1 1))), (.bool (boolV (gt s1 2))), (.slice (esV x42) [] true), (.int .i64 (IntKind.wrap .i64 ((intV (gt s1 4)) + 1)))], [])) none)))
 (cnd (decide ((intV (refV x30)) ≥ 55296))
 (cnd (decide ((intV (refV x30)) < 56320))
 (cnd ((IntKind.wrap .i64 ((intV (gt s1 4)) + 1)) == (List.length (esV (gt s1 0)) : Int))
 (some (.ret, [(.slice (esV (gt s1 0)) [] false), (.str []), (.bool false), (.slice (esV (gt s1 3)) [] true), (.int .i64 (IntKind.wrap .i64 ((intV (gt s1 4)) + 1)))], []))
 (bnd (ix 1 (.slice (esV (gt s1 0)) [] false) (.int .i64 (IntKind.wrap .i64 ((intV (gt s1 4)) + 1)))) fun x44 => cnd (chk (.ref (.int .i64)) x44)
 (cnd (decide ((intV (refV x44)) < 56320))
 (some (.ret, [(.slice (esV (gt s1 0)) [] false), (.str []), (.bool false), (.slice (esV (gt s1 3)) [] true), (.int .i64 (IntKind.wrap .i64 ((intV (gt s1 4)) + 1)))], []))
 (bnd (ix 1 (.slice (esV (gt s1 0)) [] false) (.int .i64 (IntKind.wrap .i64 ((intV (gt s1 4)) + 1)))) fun x46 => cnd (chk (.ref (.int .i64)) x46)
 (cnd (decide ((intV (refV x46)) > 57343))
 (some (.ret, [(.slice (esV (gt s1 0)) [] false), (.str []), (.bool false), (.slice (esV (gt s1 3)) [] true), (.int .i64 (IntKind.wrap .i64 ((intV (gt s1 4)) + 1)))], []))
 (bnd (ix 1 (.slice (esV (gt s1 0)) [] false) (.int .i64 (IntKind.wrap .i64 ((intV (gt s1 4)) + 1)))) fun x48 => cnd (chk (.ref (.int .i64)) x48)
 (callp O 34 [(.slice (esV (gt s1 3)) [] true), (.int .i32 (IntKind.wrap .i32 (IntKind.wrap .i64 ((IntKind.wrap .i64 ((IntKind.wrap .i64 (65536 + (IntKind.wrap .i64 (1024 * (IntKind.wrap .i64 ((intV (refV x30)) - 55296)))))) + (intV (refV x48)))) - 56320))))] fun x50 => cnd (chk (.sl true) x50)
 (some (.nrm, [(.slice (esV (gt s1 0)) [] false), (.str (strV (gt s1 1))), (.bool (boolV (gt s1 2))), (.slice (esV x50) [] true), (.int .i64 (IntKind.wrap .i64 ((IntKind.wrap .i64 ((intV (gt s1 4)) + 1)) + 1)))], [])) none) none)) none)) none))
 (callp O 34 [(.slice (esV (gt s1 3)) [] true), (.int .i32 (IntKind.wrap .i32 (intV (refV x30))))] fun x52 => cnd (chk (.sl true) x52)
 (some (.nrm, [(.slice (esV (gt s1 0)) [] false), (.str (strV (gt s1 1))), (.bool (boolV (gt s1 2))), (.slice (esV x52) [] true), (.int .i64 (IntKind.wrap .i64 ((intV (gt s1 4)) + 1)))], [])) none))
 (callp O 34 [(.slice (esV (gt s1 3)) [] true), (.int .i32 (IntKind.wrap .i32 (intV (refV x30))))] fun x54 => cnd (chk (.sl true) x54)
 (some (.nrm, [(.slice (esV (gt s1 0)) [] false), (.str (strV (gt s1 1))), (.bool (boolV (gt s1 2))), (.slice (esV x54) [] true), (.int .i64 (IntKind.wrap .i64 ((intV (gt s1 4)) + 1)))], [])) none))))) none)
 (some (.brk 0, [(.slice (esV (gt s1 0)) [] false), (.str (strV (gt s1 1))), (.bool (boolV (gt s1 2))), (.slice (esV (gt s1 3)) [] true), (.int .i64 (intV (gt s1 4)))], []))) none) none
def ls_Join_T1 (O : Orc) (LP : LBody → LBody) (units : List Int) : Option (PV × UP) :=
 bnd (LP (ls_Join_l1 O LP) [(.slice (List.map (PV.int .i64) units) [] false), (.str []), (.bool false), (.slice [] [] true), (.int .i64 0)] []) fun y60 =>
 exIs y60.1 (some 0) (cnd (chkL [(.sl false), .str, .bool, (.sl true), (.int .i64)] y60.2.1) (cnd (chkU [] y60.2.2)
 (bnd (toStr (.slice (esV (gt y60.2.1 3)) [] false)) fun x61 => cnd (chk .str x61)
 (some ((.tuple [(.str (strV x61)), (.bool true)]), [])) none) none) none)
 (exIs y60.1 none (cnd (chkL [(.sl false), .str, .bool, (.sl true), (.int .i64)] y60.2.1) (cnd (chkU [] y60.2.2)
 (some ((.tuple [(.str (strV (gt y60.2.1 1))), (.bool (boolV (gt y60.2.1 2)))]), [])) none) none)
 (none))
noncomputable def ls_Join_l1T (units : List Int) : ((List Int) × Int) → Option (((List Int) × Int) ⊕ ((List Int) ⊕ Unit))
 | (b_28, i_29) =>
 cnd (decide (i_29 < (List.length units : Int)))
  (bnd (nthI units i_29) fun y31 =>
  cnd (decide (y31 < 0))
  (some (.inr (.inr ())))
  (cnd (decide (y31 > 65535))
   (some (.inr (.inr ())))
   (cnd (decide (y31 ≥ 56320))
   (cnd (decide (y31 ≤ 57343))
    (some (.inr (.inr ())))
    (cnd (decide (y31 ≥ 55296))
    (cnd (decide (y31 < 56320))
     (cnd ((IntKind.wrap .i64 (i_29 + 1)) == (List.length units : Int))
     (some (.inr (.inr ())))
     (bnd (nthI units (IntKind.wrap .i64 (i_29 + 1))) fun y33 =>
     cnd (decide (y33 < 56320))
      (some (.inr (.inr ())))
      (bnd (nthI units (IntKind.wrap .i64 (i_29 + 1))) fun y35 =>
      cnd (decide (y35 > 57343))
      (some (.inr (.inr ())))
      (bnd (nthI units (IntKind.wrap .i64 (i_29 + 1))) fun y37 =>
      bnd (uf_AppendRune b_28 (IntKind.wrap .i32 (IntKind.wrap .i64 ((IntKind.wrap .i64 ((IntKind.wrap .i64 (65536 + (IntKind.wrap .i64 (1024 * (IntKind.wrap .i64 (y31 - 55296)))))) + y37)) - 56320)))) fun y39 =>
      some (.inl (y39, (IntKind.wrap .i64 ((IntKind.wrap .i64 (i_29 + 1)) + 1))))))))
     (bnd (uf_AppendRune b_28 (IntKind.wrap .i32 y31)) fun y41 =>
     some (.inl (y41, (IntKind.wrap .i64 (i_29 + 1))))))
    (bnd (uf_AppendRune b_28 (IntKind.wrap .i32 y31)) fun y43 =>
    some (.inl (y43, (IntKind.wrap .i64 (i_29 + 1)))))))
   (cnd (decide (y31 ≥ 55296))
    (cnd (decide (y31 < 56320))
    (cnd ((IntKind.wrap .i64 (i_29 + 1)) == (List.length units : Int))
     (some (.inr (.inr ())))
     (bnd (nthI units (IntKind.wrap .i64 (i_29 + 1))) fun y45 =>
     cnd (decide (y45 < 56320))
     (some (.inr (.inr ())))
     (bnd (nthI units (IntKind.wrap .i64 (i_29 + 1))) fun y47 =>
     cnd (decide (y47 > 57343))
      (some (.inr (.inr ())))
      (bnd (nthI units (IntKind.wrap .i64 (i_29 + 1))) fun y49 =>
      bnd (uf_AppendRune b_28 (IntKind.wrap .i32 (IntKind.wrap .i64 ((IntKind.wrap .i64 ((IntKind.wrap .i64 (65536 + (IntKind.wrap .i64 (1024 * (IntKind.wrap .i64 (y31 - 55296)))))) + y49)) - 56320)))) fun y51 =>
      some (.inl (y51, (IntKind.wrap .i64 ((IntKind.wrap .i64 (i_29 + 1)) + 1))))))))
    (bnd (uf_AppendRune b_28 (IntKind.wrap .i32 y31)) fun y53 =>
    some (.inl (y53, (IntKind.wrap .i64 (i_29 + 1))))))
    (bnd (uf_AppendRune b_28 (IntKind.wrap .i32 y31)) fun y55 =>
    some (.inl (y55, (IntKind.wrap .i64 (i_29 + 1)))))))))
  (some (.inr (.inl b_28)))
abbrev ls_Join_l1R (units : List Int) (st : (List Int) × Int) (l : List PV) (u : UP) : Prop := l = [(.slice (List.map (PV.int .i64) units) [] false), (.str []), (.bool false), (.slice (List.map (PV.int .u8) st.1) [] true), (.int .i64 st.2)] ∧ u = []
abbrev ls_Join_l1X (units : List Int) (p : (List Int) ⊕ Unit) (r : Ex × List PV × UP) : Prop := elim p (fun (p : (List Int)) => ∃ (i_57 : Int), r = (Ex.brk 0, [(.slice (List.map (PV.int .i64) units) [] false), (.str []), (.bool false), (.slice (List.map (PV.int .u8) p) [] true), (.int .i64 i_57)], [])) (fun q2 => (fun (p : Unit) => ∃ (b_58 : List Int), ∃ (i_59 : Int), r = (Ex.ret, [(.slice (List.map (PV.int .i64) units) [] false), (.str []), (.bool false), (.slice (List.map (PV.int .u8) b_58) [] true), (.int .i64 i_59)], [])) q2)
noncomputable def ls_Join_B (units : List Int) : Option (Str × Bool) :=
 bnd (tloop (ls_Join_l1T units) ([], 0)) fun e60_2 => elim e60_2
 (fun b_56 =>
 bnd (some (bytesT b_56)) fun y62 =>
 some (y62, true))
 (fun p60 =>
 some ([], false))
def ls_Join_ds : Decs := { decs := [(15, (.ref (.int .i64))), (48, (.ref (.int .i64))), (55, (.ref (.int .i64))), (65, (.ref (.int .i64))), (72, (.sl true)), (74, .str)], ups := [], loops := [(3, [], ⟨[(.sl false), .str, .bool, (.sl true), (.int .i64)], [], [(some 0, [(.sl false), .str, .bool, (.sl true), (.int .i64)], []), (none, [(.sl false), .str, .bool, (.sl true), (.int .i64)], [])]⟩)] }
set_option maxRecDepth 100000 in
theorem ls_Join_t1 (O : Orc) (LP : LBody → LBody) (units : List Int) : evalBodyD Tryd.prog (MT 17) ls_Join_ds Tryd.f17.ntmps O LP Tryd.f17 [(.slice (List.map (PV.int .i64) units) [] false)] [] = ls_Join_T1 O LP units := by kernel_rfl
theorem ls_Join_l1_ok (units : List Int) : ∀ st l u, ls_Join_l1R units st l u → Imp (ls_Join_l1T units st) (ls_Join_l1 O loopLim l u) (StepR (ls_Join_l1R units) (ls_Join_l1X units)) := by
 rintro ⟨b_28, i_29⟩ l u ⟨rfl, rfl⟩
 simp only [ls_Join_l1T, ls_Join_l1]
 refine Imp.chk rfl (Imp.chk rfl ?_)
 try simp only [evs, tys]
 refine Imp.cnd ?_ ?_
 ·refine Imp.op (f := fun a => .ref ((PV.int .i64) a)) (fun a h => op_ix (enc := (PV.int .i64)) (by first | rfl | simp only [evs, tys, evl]) ⟨by first | rfl | simp only [evs, tys, evc], by decide⟩ h) (fun a => rfl) fun y31 hy31 => ?_
  try simp only [evs, tys]
  refine Imp.cnd ?_ ?_
  ·exact Imp.some (StepR.ret ⟨b_28, i_29, by first | rfl | simp only [evs, tys, evl, elim_inl, elim_inr]⟩)
  ·refine Imp.cnd ?_ ?_
   ·exact Imp.some (StepR.ret ⟨b_28, i_29, by first | rfl | simp only [evs, tys, evl, elim_inl, elim_inr]⟩)
   ·refine Imp.cnd ?_ ?_
    ·refine Imp.cnd ?_ ?_
     ·exact Imp.some (StepR.ret ⟨b_28, i_29, by first | rfl | simp only [evs, tys, evl, elim_inl, elim_inr]⟩)
     ·refine Imp.cnd ?_ ?_
      ·refine Imp.cnd ?_ ?_
       ·refine Imp.cnd ?_ ?_
        ·exact Imp.some (StepR.ret ⟨b_28, (IntKind.wrap .i64 (i_29 + 1)), by first | rfl | simp only [evs, tys, evl, elim_inl, elim_inr]⟩)
        ·refine Imp.op (f := fun a => .ref ((PV.int .i64) a)) (fun a h => op_ix (enc := (PV.int .i64)) (by first | rfl | simp only [evs, tys, evl]) ⟨by first | rfl | simp only [evs, tys, evc], by decide⟩ h) (fun a => rfl) fun y33 hy33 => ?_
         try simp only [evs, tys]
         refine Imp.cnd ?_ ?_
         ·exact Imp.some (StepR.ret ⟨b_28, (IntKind.wrap .i64 (i_29 + 1)), by first | rfl | simp only [evs, tys, evl, elim_inl, elim_inr]⟩)
         ·refine Imp.op (f := fun a => .ref ((PV.int .i64) a)) (fun a h => op_ix (enc := (PV.int .i64)) (by first | rfl | simp only [evs, tys, evl]) ⟨by first | rfl | simp only [evs, tys, evc], by decide⟩ h) (fun a => rfl) fun y35 hy35 => ?_
          try simp only [evs, tys]
          refine Imp.cnd ?_ ?_
          ·exact Imp.some (StepR.ret ⟨b_28, (IntKind.wrap .i64 (i_29 + 1)), by first | rfl | simp only [evs, tys, evl, elim_inl, elim_inr]⟩)
          ·refine Imp.op (f := fun a => .ref ((PV.int .i64) a)) (fun a h => op_ix (enc := (PV.int .i64)) (by first | rfl | simp only [evs, tys, evl]) ⟨by first | rfl | simp only [evs, tys, evc], by decide⟩ h) (fun a => rfl) fun y37 hy37 => ?_
           try simp only [evs, tys]
           refine Imp.call (f := uf_AppendRuneE) rfl (fun a h => by first | exact uf_AppendRune_spec h | simpa only [evs, tys, evl] using uf_AppendRune_spec h) (fun a => by first | rfl | simp only [uf_AppendRuneE, evk, chks]) fun y39 hy39 => ?_
           try simp only [uf_AppendRuneE, evs, tys]
           exact Imp.some (StepR.next ⟨by first | rfl | simp only [evs, tys, evl], rfl⟩)
       ·refine Imp.call (f := uf_AppendRuneE) rfl (fun a h => by first | exact uf_AppendRune_spec h | simpa only [evs, tys, evl] using uf_AppendRune_spec h) (fun a => by first | rfl | simp only [uf_AppendRuneE, evk, chks]) fun y41 hy41 => ?_
        try simp only [uf_AppendRuneE, evs, tys]
        exact Imp.some (StepR.next ⟨by first | rfl | simp only [evs, tys, evl], rfl⟩)
      ·refine Imp.call (f := uf_AppendRuneE) rfl (fun a h => by first | exact uf_AppendRune_spec h | simpa only [evs, tys, evl] using uf_AppendRune_spec h) (fun a => by first | rfl | simp only [uf_AppendRuneE, evk, chks]) fun y43 hy43 => ?_
       try simp only [uf_AppendRuneE, evs, tys]
       exact Imp.some (StepR.next ⟨by first | rfl | simp only [evs, tys, evl], rfl⟩)
    ·refine Imp.cnd ?_ ?_
     ·refine Imp.cnd ?_ ?_
      ·refine Imp.cnd ?_ ?_
       ·exact Imp.some (StepR.ret ⟨b_28, (IntKind.wrap .i64 (i_29 + 1)), by first | rfl | simp only [evs, tys, evl, elim_inl, elim_inr]⟩)
       ·refine Imp.op (f := fun a => .ref ((PV.int .i64) a)) (fun a h => op_ix (enc := (PV.int .i64)) (by first | rfl | simp only [evs, tys, evl]) ⟨by first | rfl | simp only [evs, tys, evc], by decide⟩ h) (fun a => rfl) fun y45 hy45 => ?_
        try simp only [evs, tys]
        refine Imp.cnd ?_ ?_
        ·exact Imp.some (StepR.ret ⟨b_28, (IntKind.wrap .i64 (i_29 + 1)), by first | rfl | simp only [evs, tys, evl, elim_inl, elim_inr]⟩)
        ·refine Imp.op (f := fun a => .ref ((PV.int .i64) a)) (fun a h => op_ix (enc := (PV.int .i64)) (by first | rfl | simp only [evs, tys, evl]) ⟨by first | rfl | simp only [evs, tys, evc], by decide⟩ h) (fun a => rfl) fun y47 hy47 => ?_
         try simp only [evs, tys]
         refine Imp.cnd ?_ ?_
         ·exact Imp.some (StepR.ret ⟨b_28, (IntKind.wrap .i64 (i_29 + 1)), by first | rfl | simp only [evs, tys, evl, elim_inl, elim_inr]⟩)
         ·refine Imp.op (f := fun a => .ref ((PV.int .i64) a)) (fun a h => op_ix (enc := (PV.int .i64)) (by first | rfl | simp only [evs, tys, evl]) ⟨by first | rfl | simp only [evs, tys, evc], by decide⟩ h) (fun a => rfl) fun y49 hy49 => ?_
          try simp only [evs, tys]
          refine Imp.call (f := uf_AppendRuneE) rfl (fun a h => by first | exact uf_AppendRune_spec h | simpa only [evs, tys, evl] using uf_AppendRune_spec h) (fun a => by first | rfl | simp only [uf_AppendRuneE, evk, chks]) fun y51 hy51 => ?_
          try simp only [uf_AppendRuneE, evs, tys]
          exact Imp.some (StepR.next ⟨by first | rfl | simp only [evs, tys, evl], rfl⟩)
      ·refine Imp.call (f := uf_AppendRuneE) rfl (fun a h => by first | exact uf_AppendRune_spec h | simpa only [evs, tys, evl] using uf_AppendRune_spec h) (fun a => by first | rfl | simp only [uf_AppendRuneE, evk, chks]) fun y53 hy53 => ?_
       try simp only [uf_AppendRuneE, evs, tys]
       exact Imp.some (StepR.next ⟨by first | rfl | simp only [evs, tys, evl], rfl⟩)
     ·refine Imp.call (f := uf_AppendRuneE) rfl (fun a h => by first | exact uf_AppendRune_spec h | simpa only [evs, tys, evl] using uf_AppendRune_spec h) (fun a => by first | rfl | simp only [uf_AppendRuneE, evk, chks]) fun y55 hy55 => ?_
      try simp only [uf_AppendRuneE, evs, tys]
      exact Imp.some (StepR.next ⟨by first | rfl | simp only [evs, tys, evl], rfl⟩)
 ·exact Imp.some (StepR.brk ⟨i_29, by first | rfl | simp only [evs, tys, evl, elim_inl, elim_inr]⟩)
theorem ls_Join_imp (units : List Int) : Imp (ls_Join_B units) (ls_Join_T1 O loopLim units) (fun r v => v = (ls_JoinE r, [])) := by
 simp only [ls_Join_B, ls_Join_T1]
 try simp only [evs, tys]
 refine Imp.bnd (Imp.loop (ls_Join_l1_ok units) ⟨by first | rfl | simp only [evs, tys, evl], rfl⟩) ?_
 rintro (b_56 | p) vy60 hy60
 ·try simp only [elim_inl, elim_inr]
  obtain ⟨i_57, rfl⟩ := hy60
  refine Imp.exHit rfl (Imp.chk rfl (Imp.chk rfl ?_))
  try simp only [evs, tys]
  refine Imp.op (f := fun a => .str a) (fun a h => op_toStr (by first | rfl | simp only [evs, tys, evl]) h) (fun a => rfl) fun y62 hy62 => ?_
  try simp only [evs, tys]
  exact Imp.some (by first | rfl | simp only [ls_JoinE, evs, tys, evl])
 ·try simp only [elim_inl, elim_inr]
  obtain ⟨b_58, i_59, rfl⟩ := hy60
  refine Imp.exMiss rfl ?_
  refine Imp.exHit rfl (Imp.chk rfl (Imp.chk rfl ?_))
  try simp only [evs, tys]
  exact Imp.some (by first | rfl | simp only [ls_JoinE, evs, tys, evl])
theorem ls_Join_run {units : List Int} {r : Str × Bool} (h : ls_Join_B units = some r) : ls_Join units = some r := by
 obtain ⟨v, hv, rfl⟩ := ls_Join_imp units r h
 exact tO_of (pair_inj ls_JoinEj) (OL_runD ls_Join_ds rfl rfl Tryd.func17 ((ls_Join_t1 _ _ units).trans hv))
def to_plain_T1 (O : Orc) (LP : LBody → LBody) (c : Int) : Option (PV × UP) :=
 cnd (c != 10)
 (some ((.bool (c != 13)), []))
 (some ((.bool false), []))
noncomputable def to_plain_B (c : Int) : Option Bool :=
 cnd (c != 10)
 (some (c != 13))
 (some false)
def to_plain_ds : Decs := { decs := [], ups := [], loops := [] }
set_option maxRecDepth 100000 in
theorem to_plain_t1 (O : Orc) (LP : LBody → LBody) (c : Int) : evalBodyD Tryd.prog (MT 53) to_plain_ds Tryd.f53.ntmps O LP Tryd.f53 [(.int .u8 c)] [] = to_plain_T1 O LP c := by kernel_rfl
theorem to_plain_imp (c : Int) : Imp (to_plain_B c) (to_plain_T1 O loopLim c) (fun r v => v = (to_plainE r, [])) := by
 simp only [to_plain_B, to_plain_T1]
 try simp only [evs, tys]
 refine Imp.cnd ?_ ?_
 ·exact Imp.some (by first | rfl | simp only [to_plainE, evs, tys, evl])
 ·exact Imp.some (by first | rfl | simp only [to_plainE, evs, tys, evl])
theorem to_plain_run {c : Int} {r : Bool} (h : to_plain_B c = some r) : to_plain c = some r := by
 obtain ⟨v, hv, rfl⟩ := to_plain_imp c r h
 exact tO_of (pair_inj to_plainEj) (OL_runD to_plain_ds rfl rfl Tryd.func53 ((to_plain_t1 _ _ c).trans hv))
def ls_Letter_T1 (O : Orc) (LP : LBody → LBody) (c : Int) : Option (PV × UP) :=
 cnd (decide (c ≥ 97))
 (cnd (decide (c ≤ 122))
 (some ((.bool true), []))
 (cnd (decide (c ≥ 65))
 (cnd (decide (c ≤ 90))
 (some ((.bool true), []))
 (some ((.bool (c == 95)), [])))
 (some ((.bool (c == 95)), []))))
 (cnd (decide (c ≥ 65))
 (cnd (decide (c ≤ 90))
 (some ((.bool true), []))
 (some ((.bool (c == 95)), [])))
 (some ((.bool (c == 95)), [])))
noncomputable def ls_Letter_B (c : Int) : Option Bool :=
 cnd (decide (c ≥ 97))
 (cnd (decide (c ≤ 122))
 (some true)
 (cnd (decide (c ≥ 65))
 (cnd (decide (c ≤ 90))
 (some true)
 (some (c == 95)))
 (some (c == 95))))
 (cnd (decide (c ≥ 65))
 (cnd (decide (c ≤ 90))
 (some true)
 (some (c == 95)))
 (some (c == 95)))
def ls_Letter_ds : Decs := { decs := [], ups := [], loops := [] }
set_option maxRecDepth 100000 in
theorem ls_Letter_t1 (O : Orc) (LP : LBody → LBody) (c : Int) : evalBodyD Tryd.prog (MT 55) ls_Letter_ds Tryd.f55.ntmps O LP Tryd.f55 [(.int .u8 c)] [] = ls_Letter_T1 O LP c := by kernel_rfl
theorem ls_Letter_imp (c : Int) : Imp (ls_Letter_B c) (ls_Letter_T1 O loopLim c) (fun r v => v = (ls_LetterE r, [])) := by
 simp only [ls_Letter_B, ls_Letter_T1]
 try simp only [evs, tys]
 refine Imp.cnd ?_ ?_
 ·refine Imp.cnd ?_ ?_
  ·exact Imp.some (by first | rfl | simp only [ls_LetterE, evs, tys, evl])
  ·refine Imp.cnd ?_ ?_
   ·refine Imp.cnd ?_ ?_
    ·exact Imp.some (by first | rfl | simp only [ls_LetterE, evs, tys, evl])
    ·exact Imp.some (by first | rfl | simp only [ls_LetterE, evs, tys, evl])
   ·exact Imp.some (by first | rfl | simp only [ls_LetterE, evs, tys, evl])
 ·refine Imp.cnd ?_ ?_
  ·refine Imp.cnd ?_ ?_
   ·exact Imp.some (by first | rfl | simp only [ls_LetterE, evs, tys, evl])
   ·exact Imp.some (by first | rfl | simp only [ls_LetterE, evs, tys, evl])
  ·exact Imp.some (by first | rfl | simp only [ls_LetterE, evs, tys, evl])
theorem ls_Letter_run {c : Int} {r : Bool} (h : ls_Letter_B c = some r) : ls_Letter c = some r := by
 obtain ⟨v, hv, rfl⟩ := ls_Letter_imp c r h
 exact tO_of (pair_inj ls_LetterEj) (OL_runD ls_Letter_ds rfl rfl Tryd.func55 ((ls_Letter_t1 _ _ c).trans hv))
def to_word_l1 (O : Orc) (LP : LBody → LBody) : LBody := fun s1 s1u => cnd (chkL [.str, (.int .i64)] s1) (cnd (chkU [] s1u)
 (cnd (decide ((intV (gt s1 1)) < (List.length (strV (gt s1 0)) : Int)))
 (bnd (ixStr (.str (strV (gt s1 0))) (.int .i64 (intV (gt s1 1)))) fun x11 => cnd (chk (.int .u8) x11)
 (callp O 55 [(.int .u8 (intV x11))] fun x13 => cnd (chk .bool x13)
 (cnd (boolV x13)
 (some (.nrm, [(.str (strV (gt s1 0))), (.int .i64 (IntKind.wrap .i64 ((intV (gt s1 1)) + 1)))], []))
 (cnd (decide ((intV (gt s1 1)) > 0))
 (bnd (ixStr (.str (strV (gt s1 0))) (.int .i64 (intV (gt s1 1)))) fun x15 => cnd (chk (.int .u8) x15)
 (callp O 57 [(.int .u8 (intV x15))] fun x17 => cnd (chk .bool x17)
 (cnd (boolV x17)
 (some (.nrm, [(.str (strV (gt s1 0))), (.int .i64 (IntKind.wrap .i64 ((intV (gt s1 1)) + 1)))], []))
 (some (.brk 0, [(.str (strV (gt s1 0))), (.int .i64 (intV (gt s1 1)))], []))) none) none)
 (some (.brk 0, [(.str (strV (gt s1 0))), (.int .i64 (intV (gt s1 1)))], [])))) none) none)
 (some (.brk 0, [(.str (strV (gt s1 0))), (.int .i64 (intV (gt s1 1)))], []))) none) none
def to_word_T1 (O : Orc) (LP : LBody → LBody) (s : Str) : Option (PV × UP) :=
 bnd (LP (to_word_l1 O LP) [(.str s), (.int .i64 0)] []) fun y20 =>
 exIs y20.1 (some 0) (cnd (chkL [.str, (.int .i64)] y20.2.1) (cnd (chkU [] y20.2.2)
 (some ((.int .i64 (intV (gt y20.2.1 1))), [])) none) none)
 (none)
noncomputable def to_word_l1T (s : Str) : Int → Option (Int ⊕ Int)
 | n_10 =>
 cnd (decide (n_10 < (List.length s : Int)))
  (bnd (nthI s n_10) fun y12 =>
  bnd (ls_Letter (y12.toNat : Int)) fun y14 =>
  cnd y14
  (some (.inl (IntKind.wrap .i64 (n_10 + 1))))
  (cnd (decide (n_10 > 0))
   (bnd (nthI s n_10) fun y16 =>
   bnd (ls_Digit (y16.toNat : Int)) fun y18 =>
   cnd y18
   (some (.inl (IntKind.wrap .i64 (n_10 + 1))))
   (some (.inr n_10)))
   (some (.inr n_10))))
  (some (.inr n_10))
abbrev to_word_l1R (s : Str) (st : Int) (l : List PV) (u : UP) : Prop := l = [(.str s), (.int .i64 st)] ∧ u = []
abbrev to_word_l1X (s : Str) (p : Int) (r : Ex × List PV × UP) : Prop := (fun (p : Int) => r = (Ex.brk 0, [(.str s), (.int .i64 p)], [])) p
noncomputable def to_word_B (s : Str) : Option Int :=
 bnd (tloop (to_word_l1T s) 0) fun n_19 =>
 some n_19
def to_word_ds : Decs := { decs := [(11, (.int .u8)), (12, .bool), (19, (.int .u8)), (20, .bool)], ups := [], loops := [(2, [], ⟨[.str, (.int .i64)], [], [(some 0, [.str, (.int .i64)], [])]⟩)] }
set_option maxRecDepth 100000 in
theorem to_word_t1 (O : Orc) (LP : LBody → LBody) (s : Str) : evalBodyD Tryd.prog (MT 56) to_word_ds Tryd.f56.ntmps O LP Tryd.f56 [(.str s)] [] = to_word_T1 O LP s := by kernel_rfl
theorem to_word_l1_ok (s : Str) : ∀ st l u, to_word_l1R s st l u → Imp (to_word_l1T s st) (to_word_l1 O loopLim l u) (StepR (to_word_l1R s) (to_word_l1X s)) := by
 rintro n_10 l u ⟨rfl, rfl⟩
 simp only [to_word_l1T, to_word_l1]
 refine Imp.chk rfl (Imp.chk rfl ?_)
 try simp only [evs, tys]
 refine Imp.cnd ?_ ?_
 ·refine Imp.op (f := fun a => .int .u8 (a.toNat : Int)) (fun a h => op_ixStr h) (fun a => rfl) fun y12 hy12 => ?_
  try simp only [evs, tys]
  refine Imp.call (f := ls_LetterE) rfl (fun a h => by first | exact ls_Letter_spec h | simpa only [evs, tys, evl] using ls_Letter_spec h) (fun a => by first | rfl | simp only [ls_LetterE, evk, chks]) fun y14 hy14 => ?_
  try simp only [ls_LetterE, evs, tys]
  refine Imp.cnd ?_ ?_
  ·exact Imp.some (StepR.next ⟨by first | rfl | simp only [evs, tys, evl], rfl⟩)
  ·refine Imp.cnd ?_ ?_
   ·refine Imp.op (f := fun a => .int .u8 (a.toNat : Int)) (fun a h => op_ixStr h) (fun a => rfl) fun y16 hy16 => ?_
    try simp only [evs, tys]
    refine Imp.call (f := ls_DigitE) rfl (fun a h => by first | exact ls_Digit_spec h | simpa only [evs, tys, evl] using ls_Digit_spec h) (fun a => by first | rfl | simp only [ls_DigitE, evk, chks]) fun y18 hy18 => ?_
    try simp only [ls_DigitE, evs, tys]
    refine Imp.cnd ?_ ?_
    ·exact Imp.some (StepR.next ⟨by first | rfl | simp only [evs, tys, evl], rfl⟩)
    ·exact Imp.some (StepR.brk (by first | rfl | simp only [evs, tys, evl, elim_inl, elim_inr]))
   ·exact Imp.some (StepR.brk (by first | rfl | simp only [evs, tys, evl, elim_inl, elim_inr]))
 ·exact Imp.some (StepR.brk (by first | rfl | simp only [evs, tys, evl, elim_inl, elim_inr]))
theorem to_word_imp (s : Str) : Imp (to_word_B s) (to_word_T1 O loopLim s) (fun r v => v = (to_wordE r, [])) := by
 simp only [to_word_B, to_word_T1]
 try simp only [evs, tys]
 refine Imp.bnd (Imp.loop (to_word_l1_ok s) ⟨by first | rfl | simp only [evs, tys, evl], rfl⟩) ?_
 rintro n_19 vy20 hy20
 cases hy20
 refine Imp.exHit rfl (Imp.chk rfl (Imp.chk rfl ?_))
 try simp only [evs, tys]
 exact Imp.some (by first | rfl | simp only [to_wordE, evs, tys, evl])
theorem to_word_run {s : Str} {r : Int} (h : to_word_B s = some r) : to_word s = some r := by
 obtain ⟨v, hv, rfl⟩ := to_word_imp s r h
 exact tO_of (pair_inj to_wordEj) (OL_runD to_word_ds rfl rfl Tryd.func56 ((to_word_t1 _ _ s).trans hv))
def ls_Digit_T1 (O : Orc) (LP : LBody → LBody) (c : Int) : Option (PV × UP) :=
 cnd (decide (c ≥ 48))
 (some ((.bool (decide (c ≤ 57))), []))
 (some ((.bool false), []))
noncomputable def ls_Digit_B (c : Int) : Option Bool :=
 cnd (decide (c ≥ 48))
 (some (decide (c ≤ 57)))
 (some false)
def ls_Digit_ds : Decs := { decs := [], ups := [], loops := [] }
set_option maxRecDepth 100000 in
theorem ls_Digit_t1 (O : Orc) (LP : LBody → LBody) (c : Int) : evalBodyD Tryd.prog (MT 57) ls_Digit_ds Tryd.f57.ntmps O LP Tryd.f57 [(.int .u8 c)] [] = ls_Digit_T1 O LP c := by kernel_rfl
theorem ls_Digit_imp (c : Int) : Imp (ls_Digit_B c) (ls_Digit_T1 O loopLim c) (fun r v => v = (ls_DigitE r, [])) := by
 simp only [ls_Digit_B, ls_Digit_T1]
 try simp only [evs, tys]
 refine Imp.cnd ?_ ?_
 ·exact Imp.some (by first | rfl | simp only [ls_DigitE, evs, tys, evl])
 ·exact Imp.some (by first | rfl | simp only [ls_DigitE, evs, tys, evl])
theorem ls_Digit_run {c : Int} {r : Bool} (h : ls_Digit_B c = some r) : ls_Digit c = some r := by
 obtain ⟨v, hv, rfl⟩ := ls_Digit_imp c r h
 exact tO_of (pair_inj ls_DigitEj) (OL_runD ls_Digit_ds rfl rfl Tryd.func57 ((ls_Digit_t1 _ _ c).trans hv))
def r1_Codes_l1 (O : Orc) (LP : LBody → LBody) : LBody := fun s1 s1u => cnd (chkL [.str, (.sl true), .bool, (.sl true), (.int .i64)] s1) (cnd (chkU [] s1u)
 (cnd (decide ((intV (gt s1 4)) < (List.length (strV (gt s1 0)) : Int)))
 (callp O 88 [(.str (strV (gt s1 0))), (.int .i64 (intV (gt s1 4)))] fun x8 => cnd (chk (.tup [(.int .i64), (.int .i64)]) x8)
 (cnd ((intV (gt (tupV x8) 1)) == 0)
 (some (.ret, [(.str (strV (gt s1 0))), (.slice [] [] true), (.bool false), (.slice (esV (gt s1 3)) [] true), (.int .i64 (intV (gt s1 4)))], []))
 (bnd (apd 1 (.slice (esV (gt s1 3)) [] true) (.slice [(.int .i64 (intV (gt (tupV x8) 0)))] [] true)) fun x10 => cnd (chk (.sl true) x10)
 (some (.nrm, [(.str (strV (gt s1 0))), (.slice (esV (gt s1 1)) [] true), (.bool (boolV (gt s1 2))), (.slice (esV x10) [] true), (.int .i64 (IntKind.wrap .i64 ((intV (gt s1 4)) + (intV (gt (tupV x8) 1)))))], [])) none)) none)
 (some (.brk 0, [(.str (strV (gt s1 0))), (.slice (esV (gt s1 1)) [] true), (.bool (boolV (gt s1 2))), (.slice (esV (gt s1 3)) [] true), (.int .i64 (intV (gt s1 4)))], []))) none) none
def r1_Codes_T1 (O : Orc) (LP : LBody → LBody) (s : Str) : Option (PV × UP) :=
 bnd (LP (r1_Codes_l1 O LP) [(.str s), (.slice [] [] true), (.bool false), (.slice [] [] true), (.int .i64 0)] []) fun y16 =>
 exIs y16.1 (some 0) (cnd (chkL [.str, (.sl true), .bool, (.sl true), (.int .i64)] y16.2.1) (cnd (chkU [] y16.2.2)
 (some ((.tuple [(.slice (esV (gt y16.2.1 3)) [] false), (.bool true)]), [])) none) none)
 (exIs y16.1 none (cnd (chkL [.str, (.sl true), .bool, (.sl true), (.int .i64)] y16.2.1) (cnd (chkU [] y16.2.2)
 (some ((.tuple [(.slice (esV (gt y16.2.1 1)) [] false), (.bool (boolV (gt y16.2.1 2)))]), [])) none) none)
 (none))
noncomputable def r1_Codes_l1T (s : Str) : ((List Int) × Int) → Option (((List Int) × Int) ⊕ ((List Int) ⊕ Unit))
 | (out_6, i_7) =>
 cnd (decide (i_7 < (List.length s : Int)))
  (bnd (r1_Code s i_7) fun y9 =>
  cnd (y9.2 == 0)
  (some (.inr (.inr ())))
  (bnd (tapp out_6 [y9.1]) fun y11 =>
  some (.inl (y11, (IntKind.wrap .i64 (i_7 + y9.2))))))
  (some (.inr (.inl out_6)))
abbrev r1_Codes_l1R (s : Str) (st : (List Int) × Int) (l : List PV) (u : UP) : Prop := l = [(.str s), (.slice [] [] true), (.bool false), (.slice (List.map (PV.int .i64) st.1) [] true), (.int .i64 st.2)] ∧ u = []
abbrev r1_Codes_l1X (s : Str) (p : (List Int) ⊕ Unit) (r : Ex × List PV × UP) : Prop := elim p (fun (p : (List Int)) => ∃ (i_13 : Int), r = (Ex.brk 0, [(.str s), (.slice [] [] true), (.bool false), (.slice (List.map (PV.int .i64) p) [] true), (.int .i64 i_13)], [])) (fun q2 => (fun (p : Unit) => ∃ (out_14 : List Int), ∃ (i_15 : Int), r = (Ex.ret, [(.str s), (.slice [] [] true), (.bool false), (.slice (List.map (PV.int .i64) out_14) [] true), (.int .i64 i_15)], [])) q2)
noncomputable def r1_Codes_B (s : Str) : Option ((List Int) × Bool) :=
 bnd (tloop (r1_Codes_l1T s) ([], 0)) fun e16_2 => elim e16_2
 (fun out_12 =>
 some (out_12, true))
 (fun p16 =>
 some (([] : List Int), false))
def r1_Codes_ds : Decs := { decs := [(15, (.tup [(.int .i64), (.int .i64)])), (23, (.sl true))], ups := [], loops := [(3, [], ⟨[.str, (.sl true), .bool, (.sl true), (.int .i64)], [], [(some 0, [.str, (.sl true), .bool, (.sl true), (.int .i64)], []), (none, [.str, (.sl true), .bool, (.sl true), (.int .i64)], [])]⟩)] }
set_option maxRecDepth 100000 in
theorem r1_Codes_t1 (O : Orc) (LP : LBody → LBody) (s : Str) : evalBodyD Tryd.prog (MT 58) r1_Codes_ds Tryd.f58.ntmps O LP Tryd.f58 [(.str s)] [] = r1_Codes_T1 O LP s := by kernel_rfl
theorem r1_Codes_l1_ok (s : Str) : ∀ st l u, r1_Codes_l1R s st l u → Imp (r1_Codes_l1T s st) (r1_Codes_l1 O loopLim l u) (StepR (r1_Codes_l1R s) (r1_Codes_l1X s)) := by
 rintro ⟨out_6, i_7⟩ l u ⟨rfl, rfl⟩
 simp only [r1_Codes_l1T, r1_Codes_l1]
 refine Imp.chk rfl (Imp.chk rfl ?_)
 try simp only [evs, tys]
 refine Imp.cnd ?_ ?_
 ·refine Imp.call (f := r1_CodeE) rfl (fun a h => by first | exact r1_Code_spec h | simpa only [evs, tys, evl] using r1_Code_spec h) (fun a => by first | rfl | simp only [r1_CodeE, evk, chks]) fun y9 hy9 => ?_
  try simp only [r1_CodeE, evs, tys]
  refine Imp.cnd ?_ ?_
  ·exact Imp.some (StepR.ret ⟨out_6, i_7, by first | rfl | simp only [evs, tys, evl, elim_inl, elim_inr]⟩)
  ·refine Imp.op (f := fun a => .slice (List.map (PV.int .i64) a) [] true) (fun a h => op_apd (enc := (PV.int .i64)) (by first | rfl | simp only [evs, tys, evl]) (by first | rfl | simp only [evs, tys, evl]) (fun a => by first | rfl | simp only [evs, tys, evc]) h) (fun a => rfl) fun y11 hy11 => ?_
   try simp only [evs, tys]
   exact Imp.some (StepR.next ⟨by first | rfl | simp only [evs, tys, evl], rfl⟩)
 ·exact Imp.some (StepR.brk ⟨i_7, by first | rfl | simp only [evs, tys, evl, elim_inl, elim_inr]⟩)
theorem r1_Codes_imp (s : Str) : Imp (r1_Codes_B s) (r1_Codes_T1 O loopLim s) (fun r v => v = (r1_CodesE r, [])) := by
 simp only [r1_Codes_B, r1_Codes_T1]
 try simp only [evs, tys]
 refine Imp.bnd (Imp.loop (r1_Codes_l1_ok s) ⟨by first | rfl | simp only [evs, tys, evl], rfl⟩) ?_
 rintro (out_12 | p) vy16 hy16
 ·try simp only [elim_inl, elim_inr]
  obtain ⟨i_13, rfl⟩ := hy16
  refine Imp.exHit rfl (Imp.chk rfl (Imp.chk rfl ?_))
  try simp only [evs, tys]
  exact Imp.some (by first | rfl | simp only [r1_CodesE, evs, tys, evl])
 ·try simp only [elim_inl, elim_inr]
  obtain ⟨out_14, i_15, rfl⟩ := hy16
  refine Imp.exMiss rfl ?_
  refine Imp.exHit rfl (Imp.chk rfl (Imp.chk rfl ?_))
  try simp only [evs, tys]
  exact Imp.some (by first | rfl | simp only [r1_CodesE, evs, tys, evl])
theorem r1_Codes_run {s : Str} {r : (List Int) × Bool} (h : r1_Codes_B s = some r) : r1_Codes s = some r := by
 obtain ⟨v, hv, rfl⟩ := r1_Codes_imp s r h
 exact tO_of (pair_inj r1_CodesEj) (OL_runD r1_Codes_ds rfl rfl Tryd.func58 ((r1_Codes_t1 _ _ s).trans hv))
def r1_begins_T1 (O : Orc) (LP : LBody → LBody) (s : Str) (i : Int) (t : Str) : Option (PV × UP) :=
 cnd (decide (i ≤ (IntKind.wrap .i64 ((List.length s : Int) - (List.length t : Int)))))
 (bnd (slcLH 0 (.str s) (.int .i64 i) (.int .i64 (IntKind.wrap .i64 (i + (List.length t : Int))))) fun x1 => cnd (chk .str x1)
 (some ((.bool ((strV x1) == t)), [])) none)
 (some ((.bool false), []))
noncomputable def r1_begins_B (s : Str) (i : Int) (t : Str) : Option Bool :=
 cnd (decide (i ≤ (IntKind.wrap .i64 ((List.length s : Int) - (List.length t : Int)))))
 (bnd (tslc s i (IntKind.wrap .i64 (i + (List.length t : Int)))) fun y2 =>
 some (y2 == t))
 (some false)
def r1_begins_ds : Decs := { decs := [(21, .str)], ups := [], loops := [] }
set_option maxRecDepth 100000 in
theorem r1_begins_t1 (O : Orc) (LP : LBody → LBody) (s : Str) (i : Int) (t : Str) : evalBodyD Tryd.prog (MT 59) r1_begins_ds Tryd.f59.ntmps O LP Tryd.f59 [(.str s), (.int .i64 i), (.str t)] [] = r1_begins_T1 O LP s i t := by kernel_rfl
theorem r1_begins_imp (s : Str) (i : Int) (t : Str) : Imp (r1_begins_B s i t) (r1_begins_T1 O loopLim s i t) (fun r v => v = (r1_beginsE r, [])) := by
 simp only [r1_begins_B, r1_begins_T1]
 try simp only [evs, tys]
 refine Imp.cnd ?_ ?_
 ·refine Imp.op (f := fun a => .str a) (fun a h => op_sslcLH h) (fun a => rfl) fun y2 hy2 => ?_
  try simp only [evs, tys]
  exact Imp.some (by first | rfl | simp only [r1_beginsE, evs, tys, evl])
 ·exact Imp.some (by first | rfl | simp only [r1_beginsE, evs, tys, evl])
theorem r1_begins_run {s : Str} {i : Int} {t : Str} {r : Bool} (h : r1_begins_B s i t = some r) : r1_begins s i t = some r := by
 obtain ⟨v, hv, rfl⟩ := r1_begins_imp s i t r h
 exact tO_of (pair_inj r1_beginsEj) (OL_runD r1_begins_ds rfl rfl Tryd.func59 ((r1_begins_t1 _ _ s i t).trans hv))
def r1_index_l1 (O : Orc) (LP : LBody → LBody) : LBody := fun s1 s1u => cnd (chkL [.str, (.int .u8), (.int .i64), (.int .i64)] s1) (cnd (chkU [] s1u)
 (cnd (decide ((intV (gt s1 3)) < (List.length (strV (gt s1 0)) : Int)))
 (bnd (ixStr (.str (strV (gt s1 0))) (.int .i64 (intV (gt s1 3)))) fun x5 => cnd (chk (.int .u8) x5)
 (cnd ((intV x5) == (intV (gt s1 1)))
 (some (.ret, [(.str (strV (gt s1 0))), (.int .u8 (intV (gt s1 1))), (.int .i64 (intV (gt s1 3))), (.int .i64 (intV (gt s1 3)))], []))
 (some (.nrm, [(.str (strV (gt s1 0))), (.int .u8 (intV (gt s1 1))), (.int .i64 (intV (gt s1 2))), (.int .i64 (IntKind.wrap .i64 ((intV (gt s1 3)) + 1)))], []))) none)
 (some (.brk 0, [(.str (strV (gt s1 0))), (.int .u8 (intV (gt s1 1))), (.int .i64 (intV (gt s1 2))), (.int .i64 (intV (gt s1 3)))], []))) none) none
def r1_index_T1 (O : Orc) (LP : LBody → LBody) (s : Str) (c : Int) : Option (PV × UP) :=
 bnd (LP (r1_index_l1 O LP) [(.str s), (.int .u8 c), (.int .i64 0), (.int .i64 0)] []) fun y10 =>
 exIs y10.1 (some 0) (cnd (chkL [.str, (.int .u8), (.int .i64), (.int .i64)] y10.2.1) (cnd (chkU [] y10.2.2)
 (some ((.int .i64 (-1)), [])) none) none)
 (exIs y10.1 none (cnd (chkL [.str, (.int .u8), (.int .i64), (.int .i64)] y10.2.1) (cnd (chkU [] y10.2.2)
 (some ((.int .i64 (intV (gt y10.2.1 2))), [])) none) none)
 (none))
noncomputable def r1_index_l1T (s : Str) (c : Int) : Int → Option (Int ⊕ (Unit ⊕ Int))
 | i_4 =>
 cnd (decide (i_4 < (List.length s : Int)))
  (bnd (nthI s i_4) fun y6 =>
  cnd ((y6.toNat : Int) == c)
  (some (.inr (.inr i_4)))
  (some (.inl (IntKind.wrap .i64 (i_4 + 1)))))
  (some (.inr (.inl ())))
abbrev r1_index_l1R (s : Str) (c : Int) (st : Int) (l : List PV) (u : UP) : Prop := l = [(.str s), (.int .u8 c), (.int .i64 0), (.int .i64 st)] ∧ u = []
abbrev r1_index_l1X (s : Str) (c : Int) (p : Unit ⊕ Int) (r : Ex × List PV × UP) : Prop := elim p (fun (p : Unit) => ∃ (i_7 : Int), r = (Ex.brk 0, [(.str s), (.int .u8 c), (.int .i64 0), (.int .i64 i_7)], [])) (fun q2 => (fun (p : Int) => ∃ (i_9 : Int), r = (Ex.ret, [(.str s), (.int .u8 c), (.int .i64 p), (.int .i64 i_9)], [])) q2)
noncomputable def r1_index_B (s : Str) (c : Int) : Option Int :=
 bnd (tloop (r1_index_l1T s c) 0) fun e10_2 => elim e10_2
 (fun p10 =>
 some (-1))
 (fun t_8 =>
 some t_8)
def r1_index_ds : Decs := { decs := [(14, (.int .u8))], ups := [], loops := [(2, [], ⟨[.str, (.int .u8), (.int .i64), (.int .i64)], [], [(some 0, [.str, (.int .u8), (.int .i64), (.int .i64)], []), (none, [.str, (.int .u8), (.int .i64), (.int .i64)], [])]⟩)] }
set_option maxRecDepth 100000 in
theorem r1_index_t1 (O : Orc) (LP : LBody → LBody) (s : Str) (c : Int) : evalBodyD Tryd.prog (MT 46) r1_index_ds Tryd.f46.ntmps O LP Tryd.f46 [(.str s), (.int .u8 c)] [] = r1_index_T1 O LP s c := by kernel_rfl
theorem r1_index_l1_ok (s : Str) (c : Int) : ∀ st l u, r1_index_l1R s c st l u → Imp (r1_index_l1T s c st) (r1_index_l1 O loopLim l u) (StepR (r1_index_l1R s c) (r1_index_l1X s c)) := by
 rintro i_4 l u ⟨rfl, rfl⟩
 simp only [r1_index_l1T, r1_index_l1]
 refine Imp.chk rfl (Imp.chk rfl ?_)
 try simp only [evs, tys]
 refine Imp.cnd ?_ ?_
 ·refine Imp.op (f := fun a => .int .u8 (a.toNat : Int)) (fun a h => op_ixStr h) (fun a => rfl) fun y6 hy6 => ?_
  try simp only [evs, tys]
  refine Imp.cnd ?_ ?_
  ·exact Imp.some (StepR.ret ⟨i_4, by first | rfl | simp only [evs, tys, evl, elim_inl, elim_inr]⟩)
  ·exact Imp.some (StepR.next ⟨by first | rfl | simp only [evs, tys, evl], rfl⟩)
 ·exact Imp.some (StepR.brk ⟨i_4, by first | rfl | simp only [evs, tys, evl, elim_inl, elim_inr]⟩)
theorem r1_index_imp (s : Str) (c : Int) : Imp (r1_index_B s c) (r1_index_T1 O loopLim s c) (fun r v => v = (r1_indexE r, [])) := by
 simp only [r1_index_B, r1_index_T1]
 try simp only [evs, tys]
 refine Imp.bnd (Imp.loop (r1_index_l1_ok s c) ⟨by first | rfl | simp only [evs, tys, evl], rfl⟩) ?_
 rintro (p | t_8) vy10 hy10
 ·try simp only [elim_inl, elim_inr]
  obtain ⟨i_7, rfl⟩ := hy10
  refine Imp.exHit rfl (Imp.chk rfl (Imp.chk rfl ?_))
  try simp only [evs, tys]
  exact Imp.some (by first | rfl | simp only [r1_indexE, evs, tys, evl])
 ·try simp only [elim_inl, elim_inr]
  obtain ⟨i_9, rfl⟩ := hy10
  refine Imp.exMiss rfl ?_
  refine Imp.exHit rfl (Imp.chk rfl (Imp.chk rfl ?_))
  try simp only [evs, tys]
  exact Imp.some (by first | rfl | simp only [r1_indexE, evs, tys, evl])
theorem r1_index_run {s : Str} {c : Int} {r : Int} (h : r1_index_B s c = some r) : r1_index s c = some r := by
 obtain ⟨v, hv, rfl⟩ := r1_index_imp s c r h
 exact tO_of (pair_inj r1_indexEj) (OL_runD r1_index_ds rfl rfl Tryd.func46 ((r1_index_t1 _ _ s c).trans hv))
def r1_blocked_l1 (O : Orc) (LP : LBody → LBody) : LBody := fun s1 s1u => cnd (chkL [.str, (.int .i64), .str, (.int .i64), .bool, .str] s1) (cnd (chkU [] s1u)
 (cnd (decide ((intV (gt s1 1)) < (List.length (strV (gt s1 0)) : Int)))
 (callp O 59 [(.str (strV (gt s1 0))), (.int .i64 (intV (gt s1 1))), (.str [34, 34, 34])] fun x16 => cnd (chk .bool x16)
 (cnd (boolV x16)
 (callp O 89 [(.str (strV (gt s1 5)))] fun x18 => cnd (chk .str x18)
 (some (.ret, [(.str (strV (gt s1 0))), (.int .i64 (intV (gt s1 1))), (.str (strV x18)), (.int .i64 (IntKind.wrap .i64 ((intV (gt s1 1)) + 3))), (.bool true), (.str (strV (gt s1 5)))], [])) none)
 (callp O 59 [(.str (strV (gt s1 0))), (.int .i64 (intV (gt s1 1))), (.str [92, 34, 34, 34])] fun x20 => cnd (chk .bool x20)
 (cnd (boolV x20)
 (bnd (bin .add (.str (strV (gt s1 5))) (.str [34, 34, 34])) fun x22 => cnd (chk .str x22)
 (some (.nrm, [(.str (strV (gt s1 0))), (.int .i64 (IntKind.wrap .i64 ((intV (gt s1 1)) + 4))), (.str (strV (gt s1 2))), (.int .i64 (intV (gt s1 3))), (.bool (boolV (gt s1 4))), (.str (strV x22))], [])) none)
 (bnd (slcLH 0 (.str (strV (gt s1 0))) (.int .i64 (intV (gt s1 1))) (.int .i64 (IntKind.wrap .i64 ((intV (gt s1 1)) + 1)))) fun x24 => cnd (chk .str x24)
 (bnd (bin .add (.str (strV (gt s1 5))) (.str (strV x24))) fun x26 => cnd (chk .str x26)
 (some (.nrm, [(.str (strV (gt s1 0))), (.int .i64 (IntKind.wrap .i64 ((intV (gt s1 1)) + 1))), (.str (strV (gt s1 2))), (.int .i64 (intV (gt s1 3))), (.bool (boolV (gt s1 4))), (.str (strV x26))], [])) none) none)) none)) none)
 (some (.brk 0, [(.str (strV (gt s1 0))), (.int .i64 (intV (gt s1 1))), (.str (strV (gt s1 2))), (.int .i64 (intV (gt s1 3))), (.bool (boolV (gt s1 4))), (.str (strV (gt s1 5)))], []))) none) none
def r1_blocked_T1 (O : Orc) (LP : LBody → LBody) (s : Str) (i : Int) : Option (PV × UP) :=
 bnd (LP (r1_blocked_l1 O LP) [(.str s), (.int .i64 i), (.str []), (.int .i64 0), (.bool false), (.str [])] []) fun y34 =>
 exIs y34.1 (some 0) (cnd (chkL [.str, (.int .i64), .str, (.int .i64), .bool, .str] y34.2.1) (cnd (chkU [] y34.2.2)
 (some ((.tuple [(.str []), (.int .i64 0), (.bool false)]), [])) none) none)
 (exIs y34.1 none (cnd (chkL [.str, (.int .i64), .str, (.int .i64), .bool, .str] y34.2.1) (cnd (chkU [] y34.2.2)
 (some ((.tuple [(.str (strV (gt y34.2.1 2))), (.int .i64 (intV (gt y34.2.1 3))), (.bool (boolV (gt y34.2.1 4)))]), [])) none) none)
 (none))
noncomputable def r1_blocked_l1T (s : Str) : (Int × Str) → Option ((Int × Str) ⊕ (Unit ⊕ (Str × Int)))
 | (i_14, raw_15) =>
 cnd (decide (i_14 < (List.length s : Int)))
  (bnd (r1_begins s i_14 [34, 34, 34]) fun y17 =>
  cnd y17
  (bnd (r1_Block raw_15) fun y19 =>
  some (.inr (.inr (y19, (IntKind.wrap .i64 (i_14 + 3))))))
  (bnd (r1_begins s i_14 [92, 34, 34, 34]) fun y21 =>
  cnd y21
   (bnd (tapp raw_15 ([34, 34, 34] : Str)) fun y23 =>
   some (.inl ((IntKind.wrap .i64 (i_14 + 4)), y23)))
   (bnd (tslc s i_14 (IntKind.wrap .i64 (i_14 + 1))) fun y25 =>
   bnd (tapp raw_15 y25) fun y27 =>
   some (.inl ((IntKind.wrap .i64 (i_14 + 1)), y27)))))
  (some (.inr (.inl ())))
abbrev r1_blocked_l1R (s : Str) (st : Int × Str) (l : List PV) (u : UP) : Prop := l = [(.str s), (.int .i64 st.1), (.str []), (.int .i64 0), (.bool false), (.str st.2)] ∧ u = []
abbrev r1_blocked_l1X (s : Str) (p : Unit ⊕ (Str × Int)) (r : Ex × List PV × UP) : Prop := elim p (fun (p : Unit) => ∃ (i_28 : Int), ∃ (raw_29 : Str), r = (Ex.brk 0, [(.str s), (.int .i64 i_28), (.str []), (.int .i64 0), (.bool false), (.str raw_29)], [])) (fun q2 => (fun (p : Str × Int) => ∃ (i_30 : Int), ∃ (raw_33 : Str), r = (Ex.ret, [(.str s), (.int .i64 i_30), (.str p.1), (.int .i64 p.2), (.bool true), (.str raw_33)], [])) q2)
noncomputable def r1_blocked_B (s : Str) (i : Int) : Option (Str × Int × Bool) :=
 bnd (tloop (r1_blocked_l1T s) (i, [])) fun e34_2 => elim e34_2
 (fun p34 =>
 some ([], 0, false))
 (fun p34 =>
 some (p34.1, p34.2, true))
def r1_blocked_ds : Decs := { decs := [(14, .bool), (16, .str), (21, .bool), (23, .str), (31, .str), (32, .str)], ups := [], loops := [(2, [], ⟨[.str, (.int .i64), .str, (.int .i64), .bool, .str], [], [(some 0, [.str, (.int .i64), .str, (.int .i64), .bool, .str], []), (none, [.str, (.int .i64), .str, (.int .i64), .bool, .str], [])]⟩)] }
set_option maxRecDepth 100000 in
theorem r1_blocked_t1 (O : Orc) (LP : LBody → LBody) (s : Str) (i : Int) : evalBodyD Tryd.prog (MT 60) r1_blocked_ds Tryd.f60.ntmps O LP Tryd.f60 [(.str s), (.int .i64 i)] [] = r1_blocked_T1 O LP s i := by kernel_rfl
theorem r1_blocked_l1_ok (s : Str) : ∀ st l u, r1_blocked_l1R s st l u → Imp (r1_blocked_l1T s st) (r1_blocked_l1 O loopLim l u) (StepR (r1_blocked_l1R s) (r1_blocked_l1X s)) := by
 rintro ⟨i_14, raw_15⟩ l u ⟨rfl, rfl⟩
 simp only [r1_blocked_l1T, r1_blocked_l1]
 refine Imp.chk rfl (Imp.chk rfl ?_)
 try simp only [evs, tys]
 refine Imp.cnd ?_ ?_
 ·refine Imp.call (f := r1_beginsE) rfl (fun a h => by first | exact r1_begins_spec h | simpa only [evs, tys, evl] using r1_begins_spec h) (fun a => by first | rfl | simp only [r1_beginsE, evk, chks]) fun y17 hy17 => ?_
  try simp only [r1_beginsE, evs, tys]
  refine Imp.cnd ?_ ?_
  ·refine Imp.call (f := r1_BlockE) rfl (fun a h => by first | exact r1_Block_spec h | simpa only [evs, tys, evl] using r1_Block_spec h) (fun a => by first | rfl | simp only [r1_BlockE, evk, chks]) fun y19 hy19 => ?_
   try simp only [r1_BlockE, evs, tys]
   exact Imp.some (StepR.ret ⟨i_14, raw_15, by first | rfl | simp only [evs, tys, evl, elim_inl, elim_inr]⟩)
  ·refine Imp.call (f := r1_beginsE) rfl (fun a h => by first | exact r1_begins_spec h | simpa only [evs, tys, evl] using r1_begins_spec h) (fun a => by first | rfl | simp only [r1_beginsE, evk, chks]) fun y21 hy21 => ?_
   try simp only [r1_beginsE, evs, tys]
   refine Imp.cnd ?_ ?_
   ·refine Imp.op (f := fun a => .str a) (fun a h => op_cat h) (fun a => rfl) fun y23 hy23 => ?_
    try simp only [evs, tys]
    exact Imp.some (StepR.next ⟨by first | rfl | simp only [evs, tys, evl], rfl⟩)
   ·refine Imp.op (f := fun a => .str a) (fun a h => op_sslcLH h) (fun a => rfl) fun y25 hy25 => ?_
    try simp only [evs, tys]
    refine Imp.op (f := fun a => .str a) (fun a h => op_cat h) (fun a => rfl) fun y27 hy27 => ?_
    try simp only [evs, tys]
    exact Imp.some (StepR.next ⟨by first | rfl | simp only [evs, tys, evl], rfl⟩)
 ·exact Imp.some (StepR.brk ⟨i_14, raw_15, by first | rfl | simp only [evs, tys, evl, elim_inl, elim_inr]⟩)
theorem r1_blocked_imp (s : Str) (i : Int) : Imp (r1_blocked_B s i) (r1_blocked_T1 O loopLim s i) (fun r v => v = (r1_blockedE r, [])) := by
 simp only [r1_blocked_B, r1_blocked_T1]
 try simp only [evs, tys]
 refine Imp.bnd (Imp.loop (r1_blocked_l1_ok s) ⟨by first | rfl | simp only [evs, tys, evl], rfl⟩) ?_
 rintro (p | ⟨t_31, t_32⟩) vy34 hy34
 ·try simp only [elim_inl, elim_inr]
  obtain ⟨i_28, raw_29, rfl⟩ := hy34
  refine Imp.exHit rfl (Imp.chk rfl (Imp.chk rfl ?_))
  try simp only [evs, tys]
  exact Imp.some (by first | rfl | simp only [r1_blockedE, evs, tys, evl])
 ·try simp only [elim_inl, elim_inr]
  obtain ⟨i_30, raw_33, rfl⟩ := hy34
  refine Imp.exMiss rfl ?_
  refine Imp.exHit rfl (Imp.chk rfl (Imp.chk rfl ?_))
  try simp only [evs, tys]
  exact Imp.some (by first | rfl | simp only [r1_blockedE, evs, tys, evl])
theorem r1_blocked_run {s : Str} {i : Int} {r : Str × Int × Bool} (h : r1_blocked_B s i = some r) : r1_blocked s i = some r := by
 obtain ⟨v, hv, rfl⟩ := r1_blocked_imp s i r h
 exact tO_of (pair_inj r1_blockedEj) (OL_runD r1_blocked_ds rfl rfl Tryd.func60 ((r1_blocked_t1 _ _ s i).trans hv))
def r1_Quoted_l1 (O : Orc) (LP : LBody → LBody) : LBody := fun s1 s1u => cnd (chkL [.str, (.int .i64), .str, (.int .i64), .bool, .str, (.sl true)] s1) (cnd (chkU [] s1u)
 (cnd (decide ((intV (gt s1 1)) ≥ (List.length (strV (gt s1 0)) : Int)))
  (some (.ret, [(.str (strV (gt s1 0))), (.int .i64 (intV (gt s1 1))), (.str []), (.int .i64 0), (.bool false), (.str (strV (gt s1 5))), (.slice (esV (gt s1 6)) [] true)], []))
  (jn (fun (t_64 : Bool) (t_65 : Bool) (t_66 : Bool) =>
  (callp O 91 [(.slice (esV (gt s1 6)) [] false)] fun x67 => cnd (chk (.tup [.str, .bool]) x67)
  (cnd (!(boolV (gt (tupV x67) 1)))
   (some (.ret, [(.str (strV (gt s1 0))), (.int .i64 (intV (gt s1 1))), (.str []), (.int .i64 0), (.bool false), (.str (strV (gt s1 5))), (.slice (esV (gt s1 6)) [] true)], []))
   (bnd (bin .add (.str (strV (gt s1 5))) (.str (strV (gt (tupV x67) 0)))) fun x70 => cnd (chk .str x70)
   (bnd (ixStr (.str (strV (gt s1 0))) (.int .i64 (intV (gt s1 1)))) fun x73 => cnd (chk (.int .u8) x73)
   (cnd ((intV x73) == 34)
   (some (.ret, [(.str (strV (gt s1 0))), (.int .i64 (intV (gt s1 1))), (.str (strV x70)), (.int .i64 (IntKind.wrap .i64 ((intV (gt s1 1)) + 1))), (.bool true), (.str (strV x70)), (.slice [] [] true)], []))
   (bnd (ixStr (.str (strV (gt s1 0))) (.int .i64 (intV (gt s1 1)))) fun x76 => cnd (chk (.int .u8) x76)
   (cnd ((intV x76) == 10)
    (some (.ret, [(.str (strV (gt s1 0))), (.int .i64 (intV (gt s1 1))), (.str []), (.int .i64 0), (.bool false), (.str (strV x70)), (.slice [] [] true)], []))
    (bnd (ixStr (.str (strV (gt s1 0))) (.int .i64 (intV (gt s1 1)))) fun x78 => cnd (chk (.int .u8) x78)
    (cnd ((intV x78) == 13)
    (some (.ret, [(.str (strV (gt s1 0))), (.int .i64 (intV (gt s1 1))), (.str []), (.int .i64 0), (.bool false), (.str (strV x70)), (.slice [] [] true)], []))
    (bnd (ixStr (.str (strV (gt s1 0))) (.int .i64 (intV (gt s1 1)))) fun x81 => cnd (chk (.int .u8) x81)
    (cnd ((intV x81) != 92)
     (callp O 88 [(.str (strV (gt s1 0))), (.int .i64 (intV (gt s1 1)))] fun x83 => cnd (chk (.tup [(.int .i64), (.int .i64)]) x83)
     (callp O 77 [(.int .i64 (intV (gt (tupV x83) 0)))] fun x85 => cnd (chk .str x85)
     (bnd (bin .add (.str (strV x70)) (.str (strV x85))) fun x87 => cnd (chk .str x87)
     (some (.nrm, [(.str (strV (gt s1 0))), (.int .i64 (IntKind.wrap .i64 ((intV (gt s1 1)) + (if (1 : Int) > (intV (gt (tupV x83) 1)) then 1 else (intV (gt (tupV x83) 1)))))), (.str (strV (gt s1 2))), (.int .i64 (intV (gt s1 3))), (.bool (boolV (gt s1 4))), (.str (strV x87)), (.slice [] [] true)], [])) none) none) none)
     (cnd (decide ((IntKind.wrap .i64 ((intV (gt s1 1)) + 1)) ≥ (List.length (strV (gt s1 0)) : Int)))
     (some (.ret, [(.str (strV (gt s1 0))), (.int .i64 (intV (gt s1 1))), (.str []), (.int .i64 0), (.bool false), (.str (strV x70)), (.slice [] [] true)], []))
     (bnd (ixStr (.str (strV (gt s1 0))) (.int .i64 (IntKind.wrap .i64 ((intV (gt s1 1)) + 1)))) fun x90 => cnd (chk (.int .u8) x90)
     (callp O 46 [(.str [34, 92, 47, 98, 102, 110, 114, 116]), (.int .u8 (intV x90))] fun x92 => cnd (chk (.int .i64) x92)
     (cnd (decide ((intV x92) < 0))
      (some (.ret, [(.str (strV (gt s1 0))), (.int .i64 (intV (gt s1 1))), (.str []), (.int .i64 0), (.bool false), (.str (strV x70)), (.slice [] [] true)], []))
      (bnd (ixStr (.str [34, 92, 47, 8, 12, 10, 13, 9]) (.int .i64 (intV x92))) fun x95 => cnd (chk (.int .u8) x95)
      (bnd (toStr (.slice [(.int .u8 (intV x95))] [] true)) fun x97 => cnd (chk .str x97)
      (bnd (bin .add (.str (strV x70)) (.str (strV x97))) fun x99 => cnd (chk .str x99)
      (some (.nrm, [(.str (strV (gt s1 0))), (.int .i64 (IntKind.wrap .i64 ((intV (gt s1 1)) + 2))), (.str (strV (gt s1 2))), (.int .i64 (intV (gt s1 3))), (.bool (boolV (gt s1 4))), (.str (strV x99)), (.slice [] [] true)], [])) none) none) none)) none) none))) none)) none)) none)) none) none)) none)) fun k54 =>
  bnd (ixStr (.str (strV (gt s1 0))) (.int .i64 (intV (gt s1 1)))) fun x55 => cnd (chk (.int .u8) x55)
  (cnd ((intV x55) == 92)
  (cnd (decide ((IntKind.wrap .i64 ((intV (gt s1 1)) + 1)) < (List.length (strV (gt s1 0)) : Int)))
   (bnd (ixStr (.str (strV (gt s1 0))) (.int .i64 (IntKind.wrap .i64 ((intV (gt s1 1)) + 1)))) fun x57 => cnd (chk (.int .u8) x57)
   (cnd ((intV x57) == 117)
   (callp O 90 [(.str (strV (gt s1 0))), (.int .i64 (IntKind.wrap .i64 ((intV (gt s1 1)) + 2)))] fun x59 => cnd (chk (.int .i64) x59)
   (cnd (decide ((intV x59) < 0))
    (some (.ret, [(.str (strV (gt s1 0))), (.int .i64 (intV (gt s1 1))), (.str []), (.int .i64 0), (.bool false), (.str (strV (gt s1 5))), (.slice (esV (gt s1 6)) [] true)], []))
    (bnd (apd 1 (.slice (esV (gt s1 6)) [] true) (.slice [(.int .i64 (intV x59))] [] true)) fun x62 => cnd (chk (.sl true) x62)
    (some (.nrm, [(.str (strV (gt s1 0))), (.int .i64 (IntKind.wrap .i64 ((intV (gt s1 1)) + 6))), (.str (strV (gt s1 2))), (.int .i64 (intV (gt s1 3))), (.bool (boolV (gt s1 4))), (.str (strV (gt s1 5))), (.slice (esV x62) [] true)], [])) none)) none)
   (k54 true (decide ((IntKind.wrap .i64 ((intV (gt s1 1)) + 1)) < (List.length (strV (gt s1 0)) : Int))) true)) none)
   (k54 true (decide ((IntKind.wrap .i64 ((intV (gt s1 1)) + 1)) < (List.length (strV (gt s1 0)) : Int))) false))
  (k54 false false false)) none)) none) none
def r1_Quoted_T1 (O : Orc) (LP : LBody → LBody) (s : Str) (i : Int) : Option (PV × UP) :=
 bnd (LP (r1_Quoted_l1 O LP) [(.str s), (.int .i64 i), (.str []), (.int .i64 0), (.bool false), (.str []), (.slice [] [] true)] []) fun y107 =>
 exIs y107.1 none (cnd (chkL [.str, (.int .i64), .str, (.int .i64), .bool, .str, (.sl true)] y107.2.1) (cnd (chkU [] y107.2.2)
 (some ((.tuple [(.str (strV (gt y107.2.1 2))), (.int .i64 (intV (gt y107.2.1 3))), (.bool (boolV (gt y107.2.1 4)))]), [])) none) none)
 (none)
noncomputable def r1_Quoted_l1T (s : Str) : (Int × (List Int) × Str) → Option ((Int × (List Int) × Str) ⊕ ((Str × Int × Bool)))
 | (i_50, units_51, out_52) =>
 cnd (decide (i_50 ≥ (List.length s : Int)))
  (some (.inr ([], 0, false)))
  (jn (fun (t_64 : Bool) (t_65 : Bool) (t_66 : Bool) =>
  (bnd (r1_Join units_51) fun y68 =>
  cnd (!y68.2)
   (some (.inr ([], 0, false)))
   (bnd (tapp out_52 y68.1) fun y71 =>
   bnd (nthI s i_50) fun y74 =>
   cnd ((y74.toNat : Int) == 34)
   (some (.inr (y71, (IntKind.wrap .i64 (i_50 + 1)), true)))
   (bnd (nthI s i_50) fun y77 =>
   cnd ((y77.toNat : Int) == 10)
    (some (.inr ([], 0, false)))
    (bnd (nthI s i_50) fun y79 =>
    cnd ((y79.toNat : Int) == 13)
    (some (.inr ([], 0, false)))
    (bnd (nthI s i_50) fun y82 =>
    cnd ((y82.toNat : Int) != 92)
     (bnd (r1_Code s i_50) fun y84 =>
     bnd (r1_Put y84.1) fun y86 =>
     bnd (tapp y71 y86) fun y88 =>
     some (.inl ((IntKind.wrap .i64 (i_50 + (if (1 : Int) > y84.2 then 1 else y84.2))), [], y88)))
     (cnd (decide ((IntKind.wrap .i64 (i_50 + 1)) ≥ (List.length s : Int)))
     (some (.inr ([], 0, false)))
     (bnd (nthI s (IntKind.wrap .i64 (i_50 + 1))) fun y91 =>
     bnd (r1_index [34, 92, 47, 98, 102, 110, 114, 116] (y91.toNat : Int)) fun y93 =>
     cnd (decide (y93 < 0))
      (some (.inr ([], 0, false)))
      (bnd (nthI ([34, 92, 47, 8, 12, 10, 13, 9] : Str) y93) fun y96 =>
      bnd (some (bytesT [(y96.toNat : Int)])) fun y98 =>
      bnd (tapp y71 y98) fun y100 =>
      some (.inl ((IntKind.wrap .i64 (i_50 + 2)), [], y100))))))))))) fun k54 =>
  bnd (nthI s i_50) fun y56 =>
  cnd ((y56.toNat : Int) == 92)
  (cnd (decide ((IntKind.wrap .i64 (i_50 + 1)) < (List.length s : Int)))
   (bnd (nthI s (IntKind.wrap .i64 (i_50 + 1))) fun y58 =>
   cnd ((y58.toNat : Int) == 117)
   (bnd (r1_hexes s (IntKind.wrap .i64 (i_50 + 2))) fun y60 =>
   cnd (decide (y60 < 0))
    (some (.inr ([], 0, false)))
    (bnd (tapp units_51 [y60]) fun y63 =>
    some (.inl ((IntKind.wrap .i64 (i_50 + 6)), y63, out_52))))
   (k54 true (decide ((IntKind.wrap .i64 (i_50 + 1)) < (List.length s : Int))) true))
   (k54 true (decide ((IntKind.wrap .i64 (i_50 + 1)) < (List.length s : Int))) false))
  (k54 false false false))
abbrev r1_Quoted_l1R (s : Str) (st : Int × (List Int) × Str) (l : List PV) (u : UP) : Prop := l = [(.str s), (.int .i64 st.1), (.str []), (.int .i64 0), (.bool false), (.str st.2.2), (.slice (List.map (PV.int .i64) st.2.1) [] true)] ∧ u = []
abbrev r1_Quoted_l1X (s : Str) (p : (Str × Int × Bool)) (r : Ex × List PV × UP) : Prop := (fun (p : Str × Int × Bool) => ∃ (i_101 : Int), ∃ (out_102 : Str), ∃ (units_103 : List Int), r = (Ex.ret, [(.str s), (.int .i64 i_101), (.str p.1), (.int .i64 p.2.1), (.bool p.2.2), (.str out_102), (.slice (List.map (PV.int .i64) units_103) [] true)], [])) p
noncomputable def r1_Quoted_B (s : Str) (i : Int) : Option (Str × Int × Bool) :=
 bnd (tloop (r1_Quoted_l1T s) (i, [], [])) fun p107 =>
 some (p107.1, p107.2.1, p107.2.2)
def r1_Quoted_ds : Decs := { decs := [(21, (.int .u8)), (34, (.int .u8)), (40, (.int .i64)), (46, (.sl true)), (51, (.tup [.str, .bool])), (58, .str), (61, (.int .u8)), (68, (.int .u8)), (73, (.int .u8)), (78, (.int .u8)), (83, (.tup [(.int .i64), (.int .i64)])), (88, .str), (89, .str), (102, (.int .u8)), (103, (.int .i64)), (108, (.int .u8)), (110, .str), (111, .str)], ups := [], loops := [(3, [], ⟨[.str, (.int .i64), .str, (.int .i64), .bool, .str, (.sl true)], [], [(none, [.str, (.int .i64), .str, (.int .i64), .bool, .str, (.sl true)], [])]⟩)] }
set_option maxRecDepth 100000 in
theorem r1_Quoted_t1 (O : Orc) (LP : LBody → LBody) (s : Str) (i : Int) : evalBodyD Tryd.prog (MT 61) r1_Quoted_ds Tryd.f61.ntmps O LP Tryd.f61 [(.str s), (.int .i64 i)] [] = r1_Quoted_T1 O LP s i := by kernel_rfl
theorem r1_Quoted_l1_ok (s : Str) : ∀ st l u, r1_Quoted_l1R s st l u → Imp (r1_Quoted_l1T s st) (r1_Quoted_l1 O loopLim l u) (StepR (r1_Quoted_l1R s) (r1_Quoted_l1X s)) := by
 rintro ⟨i_50, units_51, out_52⟩ l u ⟨rfl, rfl⟩
 simp only [r1_Quoted_l1T, r1_Quoted_l1]
 refine Imp.chk rfl (Imp.chk rfl ?_)
 try simp only [evs, tys]
 refine Imp.cnd ?_ ?_
 ·exact Imp.some (StepR.ret ⟨i_50, out_52, units_51, by first | rfl | simp only [evs, tys, evl, elim_inl, elim_inr]⟩)
 ·refine Imp.jn (fun I k2 k1 => ∀ (t_64 : Bool) (t_65 : Bool) (t_66 : Bool), I (k2 t_64 t_65 t_66) (k1 t_64 t_65 t_66)) (fun t_64 t_65 t_66 => ?_) fun k54 k54t hk54 => ?_
  ·dsimp only
   try simp only [evs, tys]
   refine Imp.call (f := r1_JoinE) rfl (fun a h => by first | exact r1_Join_spec h | simpa only [evs, tys, evl] using r1_Join_spec h) (fun a => by first | rfl | simp only [r1_JoinE, evk, chks]) fun y68 hy68 => ?_
   try simp only [r1_JoinE, evs, tys]
   refine Imp.cnd ?_ ?_
   ·exact Imp.some (StepR.ret ⟨i_50, out_52, units_51, by first | rfl | simp only [evs, tys, evl, elim_inl, elim_inr]⟩)
   ·refine Imp.op (f := fun a => .str a) (fun a h => op_cat h) (fun a => rfl) fun y71 hy71 => ?_
    try simp only [evs, tys]
    refine Imp.op (f := fun a => .int .u8 (a.toNat : Int)) (fun a h => op_ixStr h) (fun a => rfl) fun y74 hy74 => ?_
    try simp only [evs, tys]
    refine Imp.cnd ?_ ?_
    ·exact Imp.some (StepR.ret ⟨i_50, y71, [], by first | rfl | simp only [evs, tys, evl, elim_inl, elim_inr]⟩)
    ·refine Imp.op (f := fun a => .int .u8 (a.toNat : Int)) (fun a h => op_ixStr h) (fun a => rfl) fun y77 hy77 => ?_
     try simp only [evs, tys]
     refine Imp.cnd ?_ ?_
     ·exact Imp.some (StepR.ret ⟨i_50, y71, [], by first | rfl | simp only [evs, tys, evl, elim_inl, elim_inr]⟩)
     ·refine Imp.op (f := fun a => .int .u8 (a.toNat : Int)) (fun a h => op_ixStr h) (fun a => rfl) fun y79 hy79 => ?_
      try simp only [evs, tys]
      refine Imp.cnd ?_ ?_
      ·exact Imp.some (StepR.ret ⟨i_50, y71, [], by first | rfl | simp only [evs, tys, evl, elim_inl, elim_inr]⟩)
      ·refine Imp.op (f := fun a => .int .u8 (a.toNat : Int)) (fun a h => op_ixStr h) (fun a => rfl) fun y82 hy82 => ?_
       try simp only [evs, tys]
       refine Imp.cnd ?_ ?_
       ·refine Imp.call (f := r1_CodeE) rfl (fun a h => by first | exact r1_Code_spec h | simpa only [evs, tys, evl] using r1_Code_spec h) (fun a => by first | rfl | simp only [r1_CodeE, evk, chks]) fun y84 hy84 => ?_
        try simp only [r1_CodeE, evs, tys]
        refine Imp.call (f := r1_PutE) rfl (fun a h => by first | exact r1_Put_spec h | simpa only [evs, tys, evl] using r1_Put_spec h) (fun a => by first | rfl | simp only [r1_PutE, evk, chks]) fun y86 hy86 => ?_
        try simp only [r1_PutE, evs, tys]
        refine Imp.op (f := fun a => .str a) (fun a h => op_cat h) (fun a => rfl) fun y88 hy88 => ?_
        try simp only [evs, tys]
        exact Imp.some (StepR.next ⟨by first | rfl | simp only [evs, tys, evl], rfl⟩)
       ·refine Imp.cnd ?_ ?_
        ·exact Imp.some (StepR.ret ⟨i_50, y71, [], by first | rfl | simp only [evs, tys, evl, elim_inl, elim_inr]⟩)
        ·refine Imp.op (f := fun a => .int .u8 (a.toNat : Int)) (fun a h => op_ixStr h) (fun a => rfl) fun y91 hy91 => ?_
         try simp only [evs, tys]
         refine Imp.call (f := r1_indexE) rfl (fun a h => by first | exact r1_index_spec h | simpa only [evs, tys, evl] using r1_index_spec h) (fun a => by first | rfl | simp only [r1_indexE, evk, chks]) fun y93 hy93 => ?_
         try simp only [r1_indexE, evs, tys]
         refine Imp.cnd ?_ ?_
         ·exact Imp.some (StepR.ret ⟨i_50, y71, [], by first | rfl | simp only [evs, tys, evl, elim_inl, elim_inr]⟩)
         ·refine Imp.op (f := fun a => .int .u8 (a.toNat : Int)) (fun a h => op_ixStr h) (fun a => rfl) fun y96 hy96 => ?_
          try simp only [evs, tys]
          refine Imp.op (f := fun a => .str a) (fun a h => op_toStr (by first | rfl | simp only [evs, tys, evl]) h) (fun a => rfl) fun y98 hy98 => ?_
          try simp only [evs, tys]
          refine Imp.op (f := fun a => .str a) (fun a h => op_cat h) (fun a => rfl) fun y100 hy100 => ?_
          try simp only [evs, tys]
          exact Imp.some (StepR.next ⟨by first | rfl | simp only [evs, tys, evl], rfl⟩)
  refine Imp.op (f := fun a => .int .u8 (a.toNat : Int)) (fun a h => op_ixStr h) (fun a => rfl) fun y56 hy56 => ?_
  try simp only [evs, tys]
  refine Imp.cnd ?_ ?_
  ·refine Imp.cnd ?_ ?_
   ·refine Imp.op (f := fun a => .int .u8 (a.toNat : Int)) (fun a h => op_ixStr h) (fun a => rfl) fun y58 hy58 => ?_
    try simp only [evs, tys]
    refine Imp.cnd ?_ ?_
    ·refine Imp.call (f := r1_hexesE) rfl (fun a h => by first | exact r1_hexes_spec h | simpa only [evs, tys, evl] using r1_hexes_spec h) (fun a => by first | rfl | simp only [r1_hexesE, evk, chks]) fun y60 hy60 => ?_
     try simp only [r1_hexesE, evs, tys]
     refine Imp.cnd ?_ ?_
     ·exact Imp.some (StepR.ret ⟨i_50, out_52, units_51, by first | rfl | simp only [evs, tys, evl, elim_inl, elim_inr]⟩)
     ·refine Imp.op (f := fun a => .slice (List.map (PV.int .i64) a) [] true) (fun a h => op_apd (enc := (PV.int .i64)) (by first | rfl | simp only [evs, tys, evl]) (by first | rfl | simp only [evs, tys, evl]) (fun a => by first | rfl | simp only [evs, tys, evc]) h) (fun a => rfl) fun y63 hy63 => ?_
      try simp only [evs, tys]
      exact Imp.some (StepR.next ⟨by first | rfl | simp only [evs, tys, evl], rfl⟩)
    ·first | exact hk54 _ _ _ | simpa only [evs, tys, evl] using hk54 _ _ _
   ·first | exact hk54 _ _ _ | simpa only [evs, tys, evl] using hk54 _ _ _
  ·first | exact hk54 _ _ _ | simpa only [evs, tys, evl] using hk54 _ _ _
theorem r1_Quoted_imp (s : Str) (i : Int) : Imp (r1_Quoted_B s i) (r1_Quoted_T1 O loopLim s i) (fun r v => v = (r1_QuotedE r, [])) := by
 simp only [r1_Quoted_B, r1_Quoted_T1]
 try simp only [evs, tys]
 refine Imp.bnd (Imp.loop (r1_Quoted_l1_ok s) ⟨by first | rfl | simp only [evs, tys, evl], rfl⟩) ?_
 rintro ⟨t_104, t_105, t_106⟩ vy107 hy107
 obtain ⟨i_101, out_102, units_103, rfl⟩ := hy107
 refine Imp.exHit rfl (Imp.chk rfl (Imp.chk rfl ?_))
 try simp only [evs, tys]
 exact Imp.some (by first | rfl | simp only [r1_QuotedE, evs, tys, evl])
theorem r1_Quoted_run {s : Str} {i : Int} {r : Str × Int × Bool} (h : r1_Quoted_B s i = some r) : r1_Quoted s i = some r := by
 obtain ⟨v, hv, rfl⟩ := r1_Quoted_imp s i r h
 exact tO_of (pair_inj r1_QuotedEj) (OL_runD r1_Quoted_ds rfl rfl Tryd.func61 ((r1_Quoted_t1 _ _ s i).trans hv))
end Go.Proofs.YtafndpggajdmiaaDoor

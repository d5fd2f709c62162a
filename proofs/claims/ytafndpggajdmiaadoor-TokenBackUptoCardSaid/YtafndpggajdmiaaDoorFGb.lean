import Derived.Test.YtafndpggajdmiaaDoorFGa
set_option linter.unusedVariables false
set_option linter.unusedSimpArgs false
set_option linter.unusedSimpArgs false
open Go Go.Ev Go.Ev.PV
namespace Go.Proofs.YtafndpggajdmiaaDoor
def s3_TokenBack_l1 (O : Orc) (LP : LBody → LBody) : LBody := fun s7 s7u => cnd (chkL [(.sl false), .bool, .str, .bool, (.int .i64)] s7) (cnd (chkU [] s7u)
 (cnd (decide ((intV (gt s7 4)) < (List.length (esV (gt s7 0)) : Int)))
 (bnd (ix 2 (.slice (esV (gt s7 0)) [] false) (.int .i64 (intV (gt s7 4)))) fun x15 => cnd (chk (.ref shToken) x15)
 (callp O 24 [(.agg [(.int .i64 (intV (gt (aggV (refV x15)) 0))), (.str (strV (gt (aggV (refV x15)) 1)))])] fun x17 => cnd (chk .bool x17)
 (cnd (!(boolV x17))
 (cnd (!(boolV (gt s7 3)))
 (cnd ((strV (gt s7 2)) == ([] : Str))
 (callp O 11 [] fun x19 => cnd (chk .bool x19)
 (some (.ret, [(.slice (esV (gt s7 0)) [] false), (.bool (boolV x19)), (.str (strV (gt s7 2))), (.bool (boolV (gt s7 3))), (.int .i64 (intV (gt s7 4)))], [])) none)
 (some (.ret, [(.slice (esV (gt s7 0)) [] false), (.bool false), (.str (strV (gt s7 2))), (.bool (boolV (gt s7 3))), (.int .i64 (intV (gt s7 4)))], [])))
 (some (.ret, [(.slice (esV (gt s7 0)) [] false), (.bool false), (.str (strV (gt s7 2))), (.bool (boolV (gt s7 3))), (.int .i64 (intV (gt s7 4)))], [])))
 (some (.nrm, [(.slice (esV (gt s7 0)) [] false), (.bool (boolV (gt s7 1))), (.str (strV (gt s7 2))), (.bool (boolV (gt s7 3))), (.int .i64 (IntKind.wrap .i64 ((intV (gt s7 4)) + 1)))], []))) none) none)
 (some (.brk 0, [(.slice (esV (gt s7 0)) [] false), (.bool (boolV (gt s7 1))), (.str (strV (gt s7 2))), (.bool (boolV (gt s7 3))), (.int .i64 (intV (gt s7 4)))], []))) none) none
def s3_TokenBack_T1 (O : Orc) (LP : LBody → LBody) (l0 : List GToken) : Option (PV × UP) :=
 callp O 20 [(.slice (List.map encToken l0) [] false)] fun x1 => cnd (chk .bool x1)
 (cnd (!(boolV x1))
 (callp O 11 [] fun x3 => cnd (chk .bool x3)
 (some ((.bool (boolV x3)), [])) none)
 (callp O 22 [(.slice (List.map encToken l0) [] false)] fun x5 => cnd (chk (.tup [.str, .bool]) x5)
 (bnd (LP (s3_TokenBack_l1 O LP) [(.slice (List.map encToken l0) [] false), (.bool false), (.str (strV (gt (tupV x5) 0))), (.bool (boolV (gt (tupV x5) 1))), (.int .i64 0)] []) fun y24 =>
 exIs y24.1 (some 0) (cnd (chkL [(.sl false), .bool, .str, .bool, (.int .i64)] y24.2.1) (cnd (chkU [] y24.2.2)
 (callp O 12 [(.str (strV (gt y24.2.1 2)))] fun x25 => cnd (chk (.tup [(.sl false), (.int .i64)]) x25)
 (cnd (decide ((List.length (strV (gt y24.2.1 2)) : Int) > 8192))
 (cnd (boolV (gt y24.2.1 3))
 (cnd ((intV (gt (tupV x25) 1)) == 3)
 (cnd ((List.length (esV (gt (tupV x25) 0)) : Int) == 0)
 (callp O 11 [] fun x27 => cnd (chk .bool x27)
 (some ((.bool (boolV x27)), [])) none)
 (some ((.bool false), [])))
 (some ((.bool false), [])))
 (some ((.bool false), [])))
 (cnd (boolV (gt y24.2.1 3))
 (cnd ((intV (gt (tupV x25) 1)) == 0)
 (callp O 14 [(.slice (esV (gt (tupV x25) 0)) [] false), (.slice (esV (gt y24.2.1 0)) [] false)] fun x29 => cnd (chk .bool x29)
 (cnd (boolV x29)
 (callp O 11 [] fun x31 => cnd (chk .bool x31)
 (some ((.bool (boolV x31)), [])) none)
 (some ((.bool false), []))) none)
 (some ((.bool false), [])))
 (some ((.bool false), [])))) none) none) none)
 (exIs y24.1 none (cnd (chkL [(.sl false), .bool, .str, .bool, (.int .i64)] y24.2.1) (cnd (chkU [] y24.2.2)
 (some ((.bool (boolV (gt y24.2.1 1))), [])) none) none)
 (none))) none)) none
noncomputable def s3_TokenBack_l1T (l0 : List GToken) (y6 : Str × Bool) : Int → Option (Int ⊕ (Unit ⊕ Bool))
 | i_14 =>
 cnd (decide (i_14 < (List.length l0 : Int)))
  (bnd (nthI l0 i_14) fun y16 =>
  bnd (to_Right y16) fun y18 =>
  cnd (!y18)
  (cnd (!y6.2)
   (cnd (y6.1 == ([] : Str))
   (bnd (s3_awake) fun y20 =>
   some (.inr (.inr y20)))
   (some (.inr (.inr false))))
   (some (.inr (.inr false))))
  (some (.inl (IntKind.wrap .i64 (i_14 + 1)))))
  (some (.inr (.inl ())))
abbrev s3_TokenBack_l1R (l0 : List GToken) (y6 : Str × Bool) (st : Int) (l : List PV) (u : UP) : Prop := l = [(.slice (List.map encToken l0) [] false), (.bool false), (.str y6.1), (.bool y6.2), (.int .i64 st)] ∧ u = []
abbrev s3_TokenBack_l1X (l0 : List GToken) (y6 : Str × Bool) (p : Unit ⊕ Bool) (r : Ex × List PV × UP) : Prop := elim p (fun (p : Unit) => ∃ (i_21 : Int), r = (Ex.brk 0, [(.slice (List.map encToken l0) [] false), (.bool false), (.str y6.1), (.bool y6.2), (.int .i64 i_21)], [])) (fun q2 => (fun (p : Bool) => ∃ (i_23 : Int), r = (Ex.ret, [(.slice (List.map encToken l0) [] false), (.bool p), (.str y6.1), (.bool y6.2), (.int .i64 i_23)], [])) q2)
noncomputable def s3_TokenBack_B (l0 : List GToken) : Option Bool :=
 bnd (s3_short l0) fun y2 =>
 cnd (!y2)
 (bnd (s3_awake) fun y4 =>
 some y4)
 (bnd (to_Print l0) fun y6 =>
 bnd (tloop (s3_TokenBack_l1T l0 y6) 0) fun e24_2 => elim e24_2
 (fun p24 =>
 bnd (to_Read y6.1) fun y26 =>
 cnd (decide ((List.length y6.1 : Int) > 8192))
 (cnd y6.2
 (cnd (y26.2 == 3)
 (cnd ((List.length y26.1 : Int) == 0)
 (bnd (s3_awake) fun y28 =>
 some y28)
 (some false))
 (some false))
 (some false))
 (cnd y6.2
 (cnd (y26.2 == 0)
 (bnd (r6_SameTokens y26.1 l0) fun y30 =>
 cnd y30
 (bnd (s3_awake) fun y32 =>
 some y32)
 (some false))
 (some false))
 (some false)))
 (fun t_22 =>
 some t_22))
def s3_TokenBack_ds : Decs := { decs := [(9, .bool), (11, .bool), (14, (.tup [.str, .bool])), (25, (.ref shToken)), (27, .bool), (36, .bool), (40, (.tup [(.sl false), (.int .i64)])), (57, .bool), (67, .bool), (70, .bool)], ups := [], loops := [(5, [], ⟨[(.sl false), .bool, .str, .bool, (.int .i64)], [], [(some 0, [(.sl false), .bool, .str, .bool, (.int .i64)], []), (none, [(.sl false), .bool, .str, .bool, (.int .i64)], [])]⟩)] }
set_option maxRecDepth 100000 in
theorem s3_TokenBack_t1 (O : Orc) (LP : LBody → LBody) (l0 : List GToken) : evalBodyD Tryd.prog (MT 9) s3_TokenBack_ds Tryd.f9.ntmps O LP Tryd.f9 [(.slice (List.map encToken l0) [] false)] [] = s3_TokenBack_T1 O LP l0 := by kernel_rfl
theorem s3_TokenBack_l1_ok (l0 : List GToken) (y6 : Str × Bool) : ∀ st l u, s3_TokenBack_l1R l0 y6 st l u → Imp (s3_TokenBack_l1T l0 y6 st) (s3_TokenBack_l1 O loopLim l u) (StepR (s3_TokenBack_l1R l0 y6) (s3_TokenBack_l1X l0 y6)) := by
 rintro i_14 l u ⟨rfl, rfl⟩
 simp only [s3_TokenBack_l1T, s3_TokenBack_l1]
 refine Imp.chk rfl (Imp.chk rfl ?_)
 try simp only [evs, tys]
 refine Imp.cnd ?_ ?_
 ·refine Imp.op (f := fun a => .ref (encToken a)) (fun a h => op_ix (enc := encToken) (by first | rfl | simp only [evs, tys, evl]) ⟨by first | rfl | simp only [evs, tys, evc], by decide⟩ h) (fun a => chk_GToken a) fun y16 hy16 => ?_
  try simp only [evs, tys]
  refine Imp.call (f := to_RightE) rfl (fun a h => by first | exact to_Right_spec h | simpa only [evs, tys, evl] using to_Right_spec h) (fun a => by first | rfl | simp only [to_RightE, evk, chks]) fun y18 hy18 => ?_
  try simp only [to_RightE, evs, tys]
  refine Imp.cnd ?_ ?_
  ·refine Imp.cnd ?_ ?_
   ·refine Imp.cnd ?_ ?_
    ·refine Imp.call (f := s3_awakeE) rfl (fun a h => by first | exact s3_awake_spec h | simpa only [evs, tys, evl] using s3_awake_spec h) (fun a => by first | rfl | simp only [s3_awakeE, evk, chks]) fun y20 hy20 => ?_
     try simp only [s3_awakeE, evs, tys]
     exact Imp.some (StepR.ret ⟨i_14, by first | rfl | simp only [evs, tys, evl, elim_inl, elim_inr]⟩)
    ·exact Imp.some (StepR.ret ⟨i_14, by first | rfl | simp only [evs, tys, evl, elim_inl, elim_inr]⟩)
   ·exact Imp.some (StepR.ret ⟨i_14, by first | rfl | simp only [evs, tys, evl, elim_inl, elim_inr]⟩)
  ·exact Imp.some (StepR.next ⟨by first | rfl | simp only [evs, tys, evl], rfl⟩)
 ·exact Imp.some (StepR.brk ⟨i_14, by first | rfl | simp only [evs, tys, evl, elim_inl, elim_inr]⟩)
theorem s3_TokenBack_imp (l0 : List GToken) : Imp (s3_TokenBack_B l0) (s3_TokenBack_T1 O loopLim l0) (fun r v => v = (s3_TokenBackE r, [])) := by
 simp only [s3_TokenBack_B, s3_TokenBack_T1]
 try simp only [evs, tys]
 refine Imp.call (f := s3_shortE) rfl (fun a h => by first | exact s3_short_spec h | simpa only [evs, tys, evl] using s3_short_spec h) (fun a => by first | rfl | simp only [s3_shortE, evk, chks]) fun y2 hy2 => ?_
 try simp only [s3_shortE, evs, tys]
 refine Imp.cnd ?_ ?_
 ·refine Imp.call (f := s3_awakeE) rfl (fun a h => by first | exact s3_awake_spec h | simpa only [evs, tys, evl] using s3_awake_spec h) (fun a => by first | rfl | simp only [s3_awakeE, evk, chks]) fun y4 hy4 => ?_
  try simp only [s3_awakeE, evs, tys]
  exact Imp.some (by first | rfl | simp only [s3_TokenBackE, evs, tys, evl])
 ·refine Imp.call (f := to_PrintE) rfl (fun a h => by first | exact to_Print_spec h | simpa only [evs, tys, evl] using to_Print_spec h) (fun a => by first | rfl | simp only [to_PrintE, evk, chks]) fun y6 hy6 => ?_
  try simp only [to_PrintE, evs, tys]
  refine Imp.bnd (Imp.loop (s3_TokenBack_l1_ok l0 y6) ⟨by first | rfl | simp only [evs, tys, evl], rfl⟩) ?_
  rintro (p | t_22) vy24 hy24
  ·try simp only [elim_inl, elim_inr]
   obtain ⟨i_21, rfl⟩ := hy24
   refine Imp.exHit rfl (Imp.chk rfl (Imp.chk rfl ?_))
   try simp only [evs, tys]
   refine Imp.call (f := to_ReadE) rfl (fun a h => by first | exact to_Read_spec h | simpa only [evs, tys, evl] using to_Read_spec h) (fun a => by first | rfl | simp only [to_ReadE, evk, chks]) fun y26 hy26 => ?_
   try simp only [to_ReadE, evs, tys]
   refine Imp.cnd ?_ ?_
   ·refine Imp.cnd ?_ ?_
    ·refine Imp.cnd ?_ ?_
     ·refine Imp.cnd ?_ ?_
      ·refine Imp.call (f := s3_awakeE) rfl (fun a h => by first | exact s3_awake_spec h | simpa only [evs, tys, evl] using s3_awake_spec h) (fun a => by first | rfl | simp only [s3_awakeE, evk, chks]) fun y28 hy28 => ?_
       try simp only [s3_awakeE, evs, tys]
       exact Imp.some (by first | rfl | simp only [s3_TokenBackE, evs, tys, evl])
      ·exact Imp.some (by first | rfl | simp only [s3_TokenBackE, evs, tys, evl])
     ·exact Imp.some (by first | rfl | simp only [s3_TokenBackE, evs, tys, evl])
    ·exact Imp.some (by first | rfl | simp only [s3_TokenBackE, evs, tys, evl])
   ·refine Imp.cnd ?_ ?_
    ·refine Imp.cnd ?_ ?_
     ·refine Imp.call (f := r6_SameTokensE) rfl (fun a h => by first | exact r6_SameTokens_spec h | simpa only [evs, tys, evl] using r6_SameTokens_spec h) (fun a => by first | rfl | simp only [r6_SameTokensE, evk, chks]) fun y30 hy30 => ?_
      try simp only [r6_SameTokensE, evs, tys]
      refine Imp.cnd ?_ ?_
      ·refine Imp.call (f := s3_awakeE) rfl (fun a h => by first | exact s3_awake_spec h | simpa only [evs, tys, evl] using s3_awake_spec h) (fun a => by first | rfl | simp only [s3_awakeE, evk, chks]) fun y32 hy32 => ?_
       try simp only [s3_awakeE, evs, tys]
       exact Imp.some (by first | rfl | simp only [s3_TokenBackE, evs, tys, evl])
      ·exact Imp.some (by first | rfl | simp only [s3_TokenBackE, evs, tys, evl])
     ·exact Imp.some (by first | rfl | simp only [s3_TokenBackE, evs, tys, evl])
    ·exact Imp.some (by first | rfl | simp only [s3_TokenBackE, evs, tys, evl])
  ·try simp only [elim_inl, elim_inr]
   obtain ⟨i_23, rfl⟩ := hy24
   refine Imp.exMiss rfl ?_
   refine Imp.exHit rfl (Imp.chk rfl (Imp.chk rfl ?_))
   try simp only [evs, tys]
   exact Imp.some (by first | rfl | simp only [s3_TokenBackE, evs, tys, evl])
theorem s3_TokenBack_run {l0 : List GToken} {r : Bool} (h : s3_TokenBack_B l0 = some r) : s3_TokenBack l0 = some r := by
 obtain ⟨v, hv, rfl⟩ := s3_TokenBack_imp l0 r h
 exact tO_of (pair_inj s3_TokenBackEj) (OL_runD s3_TokenBack_ds rfl rfl Tryd.func9 ((s3_TokenBack_t1 _ _ l0).trans hv))
def s3_short_l1 (O : Orc) (LP : LBody → LBody) : LBody := fun s1 s1u => cnd (chkL [(.sl false), (.int .i64), (.int .i64)] s1) (cnd (chkU [] s1u)
 (cnd (decide ((intV (gt s1 2)) < (List.length (esV (gt s1 0)) : Int)))
 (cnd (decide ((intV (gt s1 1)) ≤ 3000))
 (bnd (ix 2 (.slice (esV (gt s1 0)) [] false) (.int .i64 (intV (gt s1 2)))) fun x6 => cnd (chk (.ref shToken) x6)
 (some (.nrm, [(.slice (esV (gt s1 0)) [] false), (.int .i64 (IntKind.wrap .i64 ((IntKind.wrap .i64 ((intV (gt s1 1)) + 1)) + (List.length (strV (gt (aggV (refV x6)) 1)) : Int)))), (.int .i64 (IntKind.wrap .i64 ((intV (gt s1 2)) + 1)))], [])) none)
 (some (.brk 0, [(.slice (esV (gt s1 0)) [] false), (.int .i64 (intV (gt s1 1))), (.int .i64 (intV (gt s1 2)))], [])))
 (some (.brk 0, [(.slice (esV (gt s1 0)) [] false), (.int .i64 (intV (gt s1 1))), (.int .i64 (intV (gt s1 2)))], []))) none) none
def s3_short_T1 (O : Orc) (LP : LBody → LBody) (l0 : List GToken) : Option (PV × UP) :=
 bnd (LP (s3_short_l1 O LP) [(.slice (List.map encToken l0) [] false), (.int .i64 0), (.int .i64 0)] []) fun y10 =>
 exIs y10.1 (some 0) (cnd (chkL [(.sl false), (.int .i64), (.int .i64)] y10.2.1) (cnd (chkU [] y10.2.2)
 (some ((.bool (decide ((intV (gt y10.2.1 1)) ≤ 3000))), [])) none) none)
 (none)
noncomputable def s3_short_l1T (l0 : List GToken) : (Int × Int) → Option ((Int × Int) ⊕ Int)
 | (n_4, i_5) =>
 cnd (decide (i_5 < (List.length l0 : Int)))
  (cnd (decide (n_4 ≤ 3000))
  (bnd (nthI l0 i_5) fun y7 =>
  some (.inl ((IntKind.wrap .i64 ((IntKind.wrap .i64 (n_4 + 1)) + (List.length y7.s : Int))), (IntKind.wrap .i64 (i_5 + 1)))))
  (some (.inr n_4)))
  (some (.inr n_4))
abbrev s3_short_l1R (l0 : List GToken) (st : Int × Int) (l : List PV) (u : UP) : Prop := l = [(.slice (List.map encToken l0) [] false), (.int .i64 st.1), (.int .i64 st.2)] ∧ u = []
abbrev s3_short_l1X (l0 : List GToken) (p : Int) (r : Ex × List PV × UP) : Prop := (fun (p : Int) => ∃ (i_9 : Int), r = (Ex.brk 0, [(.slice (List.map encToken l0) [] false), (.int .i64 p), (.int .i64 i_9)], [])) p
noncomputable def s3_short_B (l0 : List GToken) : Option Bool :=
 bnd (tloop (s3_short_l1T l0) (0, 0)) fun n_8 =>
 some (decide (n_8 ≤ 3000))
def s3_short_ds : Decs := { decs := [(19, (.ref shToken))], ups := [], loops := [(3, [], ⟨[(.sl false), (.int .i64), (.int .i64)], [], [(some 0, [(.sl false), (.int .i64), (.int .i64)], [])]⟩)] }
set_option maxRecDepth 100000 in
theorem s3_short_t1 (O : Orc) (LP : LBody → LBody) (l0 : List GToken) : evalBodyD Tryd.prog (MT 20) s3_short_ds Tryd.f20.ntmps O LP Tryd.f20 [(.slice (List.map encToken l0) [] false)] [] = s3_short_T1 O LP l0 := by kernel_rfl
theorem s3_short_l1_ok (l0 : List GToken) : ∀ st l u, s3_short_l1R l0 st l u → Imp (s3_short_l1T l0 st) (s3_short_l1 O loopLim l u) (StepR (s3_short_l1R l0) (s3_short_l1X l0)) := by
 rintro ⟨n_4, i_5⟩ l u ⟨rfl, rfl⟩
 simp only [s3_short_l1T, s3_short_l1]
 refine Imp.chk rfl (Imp.chk rfl ?_)
 try simp only [evs, tys]
 refine Imp.cnd ?_ ?_
 ·refine Imp.cnd ?_ ?_
  ·refine Imp.op (f := fun a => .ref (encToken a)) (fun a h => op_ix (enc := encToken) (by first | rfl | simp only [evs, tys, evl]) ⟨by first | rfl | simp only [evs, tys, evc], by decide⟩ h) (fun a => chk_GToken a) fun y7 hy7 => ?_
   try simp only [evs, tys]
   exact Imp.some (StepR.next ⟨by first | rfl | simp only [evs, tys, evl], rfl⟩)
  ·exact Imp.some (StepR.brk ⟨i_5, by first | rfl | simp only [evs, tys, evl, elim_inl, elim_inr]⟩)
 ·exact Imp.some (StepR.brk ⟨i_5, by first | rfl | simp only [evs, tys, evl, elim_inl, elim_inr]⟩)
theorem s3_short_imp (l0 : List GToken) : Imp (s3_short_B l0) (s3_short_T1 O loopLim l0) (fun r v => v = (s3_shortE r, [])) := by
 simp only [s3_short_B, s3_short_T1]
 try simp only [evs, tys]
 refine Imp.bnd (Imp.loop (s3_short_l1_ok l0) ⟨by first | rfl | simp only [evs, tys, evl], rfl⟩) ?_
 rintro n_8 vy10 hy10
 obtain ⟨i_9, rfl⟩ := hy10
 refine Imp.exHit rfl (Imp.chk rfl (Imp.chk rfl ?_))
 try simp only [evs, tys]
 exact Imp.some (by first | rfl | simp only [s3_shortE, evs, tys, evl])
theorem s3_short_run {l0 : List GToken} {r : Bool} (h : s3_short_B l0 = some r) : s3_short l0 = some r := by
 obtain ⟨v, hv, rfl⟩ := s3_short_imp l0 r h
 exact tO_of (pair_inj s3_shortEj) (OL_runD s3_short_ds rfl rfl Tryd.func20 ((s3_short_t1 _ _ l0).trans hv))
theorem s3_awake_run {r : Bool} (n : Nat) (h : evalK Tryd.prog MT XT n 11 [] [] = some (s3_awakeE r, [])) : s3_awake = some r := tO_of (pair_inj s3_awakeEj) (evalK_OL n h)
def to_Print_l1 (O : Orc) (LP : LBody → LBody) : LBody := fun s1 s1u => cnd (chkL [.str, .bool, (.sl true), (.sl false), (.int .i64), (.int .i64)] s1) (cnd (chkU [] s1u)
 (cnd (decide ((intV (gt s1 5)) < (intV (gt s1 4))))
 (bnd (ix 2 (.slice (esV (gt s1 3)) [] false) (.int .i64 (intV (gt s1 5)))) fun x14 => cnd (chk (.ref shToken) x14)
 (callp O 24 [(.agg [(.int .i64 (intV (gt (aggV (refV x14)) 0))), (.str (strV (gt (aggV (refV x14)) 1)))])] fun x16 => cnd (chk .bool x16)
 (cnd (!(boolV x16))
 (some (.ret, [(.str []), (.bool false), (.slice (esV (gt s1 2)) [] true), (.slice (esV (gt s1 3)) [] false), (.int .i64 (intV (gt s1 4))), (.int .i64 (intV (gt s1 5)))], []))
 (cnd ((intV (gt (aggV (refV x14)) 0)) == 5)
 (callp O 41 [(.str (strV (gt (aggV (refV x14)) 1)))] fun x18 => cnd (chk .str x18)
 (bnd (apd 1 (.slice (esV (gt s1 2)) [] true) (.slice [(.str (strV x18))] [] true)) fun x20 => cnd (chk (.sl true) x20)
 (some (.nrm, [(.str (strV (gt s1 0))), (.bool (boolV (gt s1 1))), (.slice (esV x20) [] true), (.slice (esV (gt s1 3)) [] false), (.int .i64 (intV (gt s1 4))), (.int .i64 (IntKind.wrap .i64 ((intV (gt s1 5)) + 1)))], [])) none) none)
 (bnd (apd 1 (.slice (esV (gt s1 2)) [] true) (.slice [(.str (strV (gt (aggV (refV x14)) 1)))] [] true)) fun x22 => cnd (chk (.sl true) x22)
 (some (.nrm, [(.str (strV (gt s1 0))), (.bool (boolV (gt s1 1))), (.slice (esV x22) [] true), (.slice (esV (gt s1 3)) [] false), (.int .i64 (intV (gt s1 4))), (.int .i64 (IntKind.wrap .i64 ((intV (gt s1 5)) + 1)))], [])) none))) none) none)
 (some (.brk 0, [(.str (strV (gt s1 0))), (.bool (boolV (gt s1 1))), (.slice (esV (gt s1 2)) [] true), (.slice (esV (gt s1 3)) [] false), (.int .i64 (intV (gt s1 4))), (.int .i64 (intV (gt s1 5)))], []))) none) none
def to_Print_T1 (O : Orc) (LP : LBody → LBody) (l0 : List GToken) : Option (PV × UP) :=
 bnd (LP (to_Print_l1 O LP) [(.str []), (.bool false), (.slice [] [] true), (.slice (List.map encToken l0) [] false), (.int .i64 (List.length (List.map encToken l0) : Int)), (.int .i64 0)] []) fun y28 =>
 exIs y28.1 (some 0) (cnd (chkL [.str, .bool, (.sl true), (.sl false), (.int .i64), (.int .i64)] y28.2.1) (cnd (chkU [] y28.2.2)
 (callp O 40 [(.slice (esV (gt y28.2.1 2)) [] false), (.str [32])] fun x29 => cnd (chk .str x29)
 (some ((.tuple [(.str (strV x29)), (.bool true)]), [])) none) none) none)
 (exIs y28.1 none (cnd (chkL [.str, .bool, (.sl true), (.sl false), (.int .i64), (.int .i64)] y28.2.1) (cnd (chkU [] y28.2.2)
 (some ((.tuple [(.str (strV (gt y28.2.1 0))), (.bool (boolV (gt y28.2.1 1)))]), [])) none) none)
 (none))
noncomputable def to_Print_l1T (l0 : List GToken) : ((List Str) × Int) → Option (((List Str) × Int) ⊕ ((List Str) ⊕ Unit))
 | (out_12, t_13) =>
 cnd (decide (t_13 < (List.length l0 : Int)))
  (bnd (nthI l0 t_13) fun y15 =>
  bnd (to_Right y15) fun y17 =>
  cnd (!y17)
  (some (.inr (.inr ())))
  (cnd (y15.kind == 5)
   (bnd (to_quote y15.s) fun y19 =>
   bnd (tapp out_12 [y19]) fun y21 =>
   some (.inl (y21, (IntKind.wrap .i64 (t_13 + 1)))))
   (bnd (tapp out_12 [y15.s]) fun y23 =>
   some (.inl (y23, (IntKind.wrap .i64 (t_13 + 1)))))))
  (some (.inr (.inl out_12)))
abbrev to_Print_l1R (l0 : List GToken) (st : (List Str) × Int) (l : List PV) (u : UP) : Prop := l = [(.str []), (.bool false), (.slice (List.map PV.str st.1) [] true), (.slice (List.map encToken l0) [] false), (.int .i64 (List.length l0 : Int)), (.int .i64 st.2)] ∧ u = []
abbrev to_Print_l1X (l0 : List GToken) (p : (List Str) ⊕ Unit) (r : Ex × List PV × UP) : Prop := elim p (fun (p : (List Str)) => ∃ (t_25 : Int), r = (Ex.brk 0, [(.str []), (.bool false), (.slice (List.map PV.str p) [] true), (.slice (List.map encToken l0) [] false), (.int .i64 (List.length l0 : Int)), (.int .i64 t_25)], [])) (fun q2 => (fun (p : Unit) => ∃ (out_26 : List Str), ∃ (t_27 : Int), r = (Ex.ret, [(.str []), (.bool false), (.slice (List.map PV.str out_26) [] true), (.slice (List.map encToken l0) [] false), (.int .i64 (List.length l0 : Int)), (.int .i64 t_27)], [])) q2)
noncomputable def to_Print_B (l0 : List GToken) : Option (Str × Bool) :=
 bnd (tloop (to_Print_l1T l0) ([], 0)) fun e28_2 => elim e28_2
 (fun out_24 =>
 bnd (st_Join out_24 [32]) fun y30 =>
 some (y30, true))
 (fun p28 =>
 some ([], false))
def to_Print_ds : Decs := { decs := [(11, (.ref shToken)), (17, (.sl true)), (20, .bool), (29, .str), (31, (.sl true)), (34, .str)], ups := [], loops := [(3, [], ⟨[.str, .bool, (.sl true), (.sl false), (.int .i64), (.int .i64)], [], [(some 0, [.str, .bool, (.sl true), (.sl false), (.int .i64), (.int .i64)], []), (none, [.str, .bool, (.sl true), (.sl false), (.int .i64), (.int .i64)], [])]⟩)] }
set_option maxRecDepth 100000 in
theorem to_Print_t1 (O : Orc) (LP : LBody → LBody) (l0 : List GToken) : evalBodyD Tryd.prog (MT 22) to_Print_ds Tryd.f22.ntmps O LP Tryd.f22 [(.slice (List.map encToken l0) [] false)] [] = to_Print_T1 O LP l0 := by kernel_rfl
theorem to_Print_l1_ok (l0 : List GToken) : ∀ st l u, to_Print_l1R l0 st l u → Imp (to_Print_l1T l0 st) (to_Print_l1 O loopLim l u) (StepR (to_Print_l1R l0) (to_Print_l1X l0)) := by
 rintro ⟨out_12, t_13⟩ l u ⟨rfl, rfl⟩
 simp only [to_Print_l1T, to_Print_l1]
 refine Imp.chk rfl (Imp.chk rfl ?_)
 try simp only [evs, tys]
 refine Imp.cnd ?_ ?_
 ·refine Imp.op (f := fun a => .ref (encToken a)) (fun a h => op_ix (enc := encToken) (by first | rfl | simp only [evs, tys, evl]) ⟨by first | rfl | simp only [evs, tys, evc], by decide⟩ h) (fun a => chk_GToken a) fun y15 hy15 => ?_
  try simp only [evs, tys]
  refine Imp.call (f := to_RightE) rfl (fun a h => by first | exact to_Right_spec h | simpa only [evs, tys, evl] using to_Right_spec h) (fun a => by first | rfl | simp only [to_RightE, evk, chks]) fun y17 hy17 => ?_
  try simp only [to_RightE, evs, tys]
  refine Imp.cnd ?_ ?_
  ·exact Imp.some (StepR.ret ⟨out_12, t_13, by first | rfl | simp only [evs, tys, evl, elim_inl, elim_inr]⟩)
  ·refine Imp.cnd ?_ ?_
   ·refine Imp.call (f := to_quoteE) rfl (fun a h => by first | exact to_quote_spec h | simpa only [evs, tys, evl] using to_quote_spec h) (fun a => by first | rfl | simp only [to_quoteE, evk, chks]) fun y19 hy19 => ?_
    try simp only [to_quoteE, evs, tys]
    refine Imp.op (f := fun a => .slice (List.map PV.str a) [] true) (fun a h => op_apd (enc := PV.str) (by first | rfl | simp only [evs, tys, evl]) (by first | rfl | simp only [evs, tys, evl]) (fun a => by first | rfl | simp only [evs, tys, evc]) h) (fun a => rfl) fun y21 hy21 => ?_
    try simp only [evs, tys]
    exact Imp.some (StepR.next ⟨by first | rfl | simp only [evs, tys, evl], rfl⟩)
   ·refine Imp.op (f := fun a => .slice (List.map PV.str a) [] true) (fun a h => op_apd (enc := PV.str) (by first | rfl | simp only [evs, tys, evl]) (by first | rfl | simp only [evs, tys, evl]) (fun a => by first | rfl | simp only [evs, tys, evc]) h) (fun a => rfl) fun y23 hy23 => ?_
    try simp only [evs, tys]
    exact Imp.some (StepR.next ⟨by first | rfl | simp only [evs, tys, evl], rfl⟩)
 ·exact Imp.some (StepR.brk ⟨t_13, by first | rfl | simp only [evs, tys, evl, elim_inl, elim_inr]⟩)
theorem to_Print_imp (l0 : List GToken) : Imp (to_Print_B l0) (to_Print_T1 O loopLim l0) (fun r v => v = (to_PrintE r, [])) := by
 simp only [to_Print_B, to_Print_T1]
 try simp only [evs, tys]
 refine Imp.bnd (Imp.loop (to_Print_l1_ok l0) ⟨by first | rfl | simp only [evs, tys, evl], rfl⟩) ?_
 rintro (out_24 | p) vy28 hy28
 ·try simp only [elim_inl, elim_inr]
  obtain ⟨t_25, rfl⟩ := hy28
  refine Imp.exHit rfl (Imp.chk rfl (Imp.chk rfl ?_))
  try simp only [evs, tys]
  refine Imp.call (f := st_JoinE) rfl (fun a h => by first | exact st_Join_spec h | simpa only [evs, tys, evl] using st_Join_spec h) (fun a => by first | rfl | simp only [st_JoinE, evk, chks]) fun y30 hy30 => ?_
  try simp only [st_JoinE, evs, tys]
  exact Imp.some (by first | rfl | simp only [to_PrintE, evs, tys, evl])
 ·try simp only [elim_inl, elim_inr]
  obtain ⟨out_26, t_27, rfl⟩ := hy28
  refine Imp.exMiss rfl ?_
  refine Imp.exHit rfl (Imp.chk rfl (Imp.chk rfl ?_))
  try simp only [evs, tys]
  exact Imp.some (by first | rfl | simp only [to_PrintE, evs, tys, evl])
theorem to_Print_run {l0 : List GToken} {r : Str × Bool} (h : to_Print_B l0 = some r) : to_Print l0 = some r := by
 obtain ⟨v, hv, rfl⟩ := to_Print_imp l0 r h
 exact tO_of (pair_inj to_PrintEj) (OL_runD to_Print_ds rfl rfl Tryd.func22 ((to_Print_t1 _ _ l0).trans hv))
def to_Right_T1 (O : Orc) (LP : LBody → LBody) (t : GToken) : Option (PV × UP) :=
 cnd (t.kind == 1)
 (cnd (t.s == ([46, 46, 46] : Str))
 (some ((.bool true), []))
 (cnd ((List.length t.s : Int) == 1)
 (callp O 43 [(.str [33, 36, 38, 40, 41, 58, 61, 64, 91, 93, 123, 124, 125]), (.str t.s)] fun x1 => cnd (chk .bool x1)
 (some ((.bool (boolV x1)), [])) none)
 (some ((.bool false), []))))
 (cnd (t.kind == 2)
 (callp O 44 [(.str t.s)] fun x3 => cnd (chk .bool x3)
 (some ((.bool (boolV x3)), [])) none)
 (cnd (t.kind == 3)
 (callp O 15 [(.str t.s)] fun x5 => cnd (chk (.int .i64) x5)
 (some ((.bool ((intV x5) == t.kind)), [])) none)
 (cnd (t.kind == 4)
 (callp O 15 [(.str t.s)] fun x7 => cnd (chk (.int .i64) x7)
 (some ((.bool ((intV x7) == t.kind)), [])) none)
 (cnd (t.kind == 5)
 (callp O 45 [(.str t.s)] fun x9 => cnd (chk .bool x9)
 (some ((.bool (boolV x9)), [])) none)
 (some ((.bool false), []))))))
noncomputable def to_Right_B (t : GToken) : Option Bool :=
 cnd (t.kind == 1)
 (cnd (t.s == ([46, 46, 46] : Str))
 (some true)
 (cnd ((List.length t.s : Int) == 1)
 (bnd (st_Contains [33, 36, 38, 40, 41, 58, 61, 64, 91, 93, 123, 124, 125] t.s) fun y2 =>
 some y2)
 (some false)))
 (cnd (t.kind == 2)
 (bnd (ls_Name t.s) fun y4 =>
 some y4)
 (cnd (t.kind == 3)
 (bnd (to_Number t.s) fun y6 =>
 some (y6 == t.kind))
 (cnd (t.kind == 4)
 (bnd (to_Number t.s) fun y8 =>
 some (y8 == t.kind))
 (cnd (t.kind == 5)
 (bnd (ls_Good t.s) fun y10 =>
 some y10)
 (some false)))))
def to_Right_ds : Decs := { decs := [(18, .bool), (25, .bool), (31, (.int .i64)), (39, .bool)], ups := [], loops := [] }
set_option maxRecDepth 100000 in
theorem to_Right_t1 (O : Orc) (LP : LBody → LBody) (t : GToken) : evalBodyD Tryd.prog (MT 24) to_Right_ds Tryd.f24.ntmps O LP Tryd.f24 [(.agg [(.int .i64 t.kind), (.str t.s)])] [] = to_Right_T1 O LP t := by kernel_rfl
theorem to_Right_imp (t : GToken) : Imp (to_Right_B t) (to_Right_T1 O loopLim t) (fun r v => v = (to_RightE r, [])) := by
 simp only [to_Right_B, to_Right_T1]
 try simp only [evs, tys]
 refine Imp.cnd ?_ ?_
 ·refine Imp.cnd ?_ ?_
  ·exact Imp.some (by first | rfl | simp only [to_RightE, evs, tys, evl])
  ·refine Imp.cnd ?_ ?_
   ·refine Imp.call (f := st_ContainsE) rfl (fun a h => by first | exact st_Contains_spec h | simpa only [evs, tys, evl] using st_Contains_spec h) (fun a => by first | rfl | simp only [st_ContainsE, evk, chks]) fun y2 hy2 => ?_
    try simp only [st_ContainsE, evs, tys]
    exact Imp.some (by first | rfl | simp only [to_RightE, evs, tys, evl])
   ·exact Imp.some (by first | rfl | simp only [to_RightE, evs, tys, evl])
 ·refine Imp.cnd ?_ ?_
  ·refine Imp.call (f := ls_NameE) rfl (fun a h => by first | exact ls_Name_spec h | simpa only [evs, tys, evl] using ls_Name_spec h) (fun a => by first | rfl | simp only [ls_NameE, evk, chks]) fun y4 hy4 => ?_
   try simp only [ls_NameE, evs, tys]
   exact Imp.some (by first | rfl | simp only [to_RightE, evs, tys, evl])
  ·refine Imp.cnd ?_ ?_
   ·refine Imp.call (f := to_NumberE) rfl (fun a h => by first | exact to_Number_spec h | simpa only [evs, tys, evl] using to_Number_spec h) (fun a => by first | rfl | simp only [to_NumberE, evk, chks]) fun y6 hy6 => ?_
    try simp only [to_NumberE, evs, tys]
    exact Imp.some (by first | rfl | simp only [to_RightE, evs, tys, evl])
   ·refine Imp.cnd ?_ ?_
    ·refine Imp.call (f := to_NumberE) rfl (fun a h => by first | exact to_Number_spec h | simpa only [evs, tys, evl] using to_Number_spec h) (fun a => by first | rfl | simp only [to_NumberE, evk, chks]) fun y8 hy8 => ?_
     try simp only [to_NumberE, evs, tys]
     exact Imp.some (by first | rfl | simp only [to_RightE, evs, tys, evl])
    ·refine Imp.cnd ?_ ?_
     ·refine Imp.call (f := ls_GoodE) rfl (fun a h => by first | exact ls_Good_spec h | simpa only [evs, tys, evl] using ls_Good_spec h) (fun a => by first | rfl | simp only [ls_GoodE, evk, chks]) fun y10 hy10 => ?_
      try simp only [ls_GoodE, evs, tys]
      exact Imp.some (by first | rfl | simp only [to_RightE, evs, tys, evl])
     ·exact Imp.some (by first | rfl | simp only [to_RightE, evs, tys, evl])
theorem to_Right_run {t : GToken} {r : Bool} (h : to_Right_B t = some r) : to_Right t = some r := by
 obtain ⟨v, hv, rfl⟩ := to_Right_imp t r h
 exact tO_of (pair_inj to_RightEj) (OL_runD to_Right_ds rfl rfl Tryd.func24 ((to_Right_t1 _ _ t).trans hv))
def to_Read_l1 (O : Orc) (LP : LBody → LBody) : LBody := fun s3 s3u => cnd (chkL [.str, (.sl true), (.int .i64), (.sl true), (.int .i64)] s3) (cnd (chkU [] s3u)
 (cnd (decide ((intV (gt s3 4)) < (List.length (strV (gt s3 0)) : Int)))
 (bnd (slcLo 0 (.str (strV (gt s3 0))) (.int .i64 (intV (gt s3 4)))) fun x16 => cnd (chk .str x16)
 (callp O 27 [(.str (strV x16))] fun x18 => cnd (chk (.int .i64) x18)
 (cnd (decide ((intV x18) > 0))
 (some (.nrm, [(.str (strV (gt s3 0))), (.slice (esV (gt s3 1)) [] true), (.int .i64 (intV (gt s3 2))), (.slice (esV (gt s3 3)) [] true), (.int .i64 (IntKind.wrap .i64 ((intV (gt s3 4)) + (intV x18))))], []))
 (bnd (slcLo 0 (.str (strV (gt s3 0))) (.int .i64 (intV (gt s3 4)))) fun x20 => cnd (chk .str x20)
 (callp O 28 [(.str (strV x20))] fun x22 => cnd (chk (.tup [shToken, (.int .i64)]) x22)
 (cnd ((intV (gt (tupV x22) 1)) == 0)
 (some (.ret, [(.str (strV (gt s3 0))), (.slice [] [] true), (.int .i64 2), (.slice (esV (gt s3 3)) [] true), (.int .i64 (intV (gt s3 4)))], []))
 (bnd (apd 2 (.slice (esV (gt s3 3)) [] true) (.slice [(.agg [(.int .i64 (intV (gt (aggV (gt (tupV x22) 0)) 0))), (.str (strV (gt (aggV (gt (tupV x22) 0)) 1)))])] [] true)) fun x24 => cnd (chk (.sl true) x24)
 (some (.nrm, [(.str (strV (gt s3 0))), (.slice (esV (gt s3 1)) [] true), (.int .i64 (intV (gt s3 2))), (.slice (esV x24) [] true), (.int .i64 (IntKind.wrap .i64 ((intV (gt s3 4)) + (intV (gt (tupV x22) 1)))))], [])) none)) none) none)) none) none)
 (some (.brk 1, [(.str (strV (gt s3 0))), (.slice (esV (gt s3 1)) [] true), (.int .i64 (intV (gt s3 2))), (.slice (esV (gt s3 3)) [] true), (.int .i64 (intV (gt s3 4)))], []))) none) none
def to_Read_T1 (O : Orc) (LP : LBody → LBody) (s : Str) : Option (PV × UP) :=
 cnd (decide ((List.length s : Int) > 8192))
 (some ((.tuple [(.slice [] [] false), (.int .i64 3)]), []))
 (callp O 18 [(.str s)] fun x1 => cnd (chk .bool x1)
 (cnd (!(boolV x1))
 (some ((.tuple [(.slice [] [] false), (.int .i64 2)]), []))
 (bnd (LP (to_Read_l1 O LP) [(.str s), (.slice [] [] true), (.int .i64 0), (.slice [] [] true), (.int .i64 0)] []) fun y30 =>
 exIs y30.1 (some 1) (cnd (chkL [.str, (.sl true), (.int .i64), (.sl true), (.int .i64)] y30.2.1) (cnd (chkU [] y30.2.2)
 (some ((.tuple [(.slice (esV (gt y30.2.1 3)) [] false), (.int .i64 0)]), [])) none) none)
 (exIs y30.1 none (cnd (chkL [.str, (.sl true), (.int .i64), (.sl true), (.int .i64)] y30.2.1) (cnd (chkU [] y30.2.2)
 (some ((.tuple [(.slice (esV (gt y30.2.1 1)) [] false), (.int .i64 (intV (gt y30.2.1 2)))]), [])) none) none)
 (none)))) none)
noncomputable def to_Read_l1T (s : Str) : (Int × (List GToken)) → Option ((Int × (List GToken)) ⊕ ((List GToken) ⊕ Unit))
 | (i_14, l_15) =>
 cnd (decide (i_14 < (List.length s : Int)))
  (bnd (tslc s i_14 (List.length s)) fun y17 =>
  bnd (to_gap y17) fun y19 =>
  cnd (decide (y19 > 0))
  (some (.inl ((IntKind.wrap .i64 (i_14 + y19)), l_15)))
  (bnd (tslc s i_14 (List.length s)) fun y21 =>
  bnd (to_one y21) fun y23 =>
  cnd (y23.2 == 0)
   (some (.inr (.inr ())))
   (bnd (tapp l_15 [y23.1]) fun y25 =>
   some (.inl ((IntKind.wrap .i64 (i_14 + y23.2)), y25)))))
  (some (.inr (.inl l_15)))
abbrev to_Read_l1R (s : Str) (st : Int × (List GToken)) (l : List PV) (u : UP) : Prop := l = [(.str s), (.slice [] [] true), (.int .i64 0), (.slice (List.map encToken st.2) [] true), (.int .i64 st.1)] ∧ u = []
abbrev to_Read_l1X (s : Str) (p : (List GToken) ⊕ Unit) (r : Ex × List PV × UP) : Prop := elim p (fun (p : (List GToken)) => ∃ (i_27 : Int), r = (Ex.brk 1, [(.str s), (.slice [] [] true), (.int .i64 0), (.slice (List.map encToken p) [] true), (.int .i64 i_27)], [])) (fun q2 => (fun (p : Unit) => ∃ (l_28 : List GToken), ∃ (i_29 : Int), r = (Ex.ret, [(.str s), (.slice [] [] true), (.int .i64 2), (.slice (List.map encToken l_28) [] true), (.int .i64 i_29)], [])) q2)
noncomputable def to_Read_B (s : Str) : Option ((List GToken) × Int) :=
 cnd (decide ((List.length s : Int) > 8192))
 (some (([] : List GToken), 3))
 (bnd (ls_Source s) fun y2 =>
 cnd (!y2)
 (some (([] : List GToken), 2))
 (bnd (tloop (to_Read_l1T s) (0, [])) fun e30_2 => elim e30_2
 (fun l_26 =>
 some (l_26, 0))
 (fun p30 =>
 some (([] : List GToken), 2))))
def to_Read_ds : Decs := { decs := [(15, .bool), (23, .str), (24, (.int .i64)), (33, .str), (34, (.tup [shToken, (.int .i64)])), (42, (.sl true))], ups := [], loops := [(7, [], ⟨[.str, (.sl true), (.int .i64), (.sl true), (.int .i64)], [], [(some 1, [.str, (.sl true), (.int .i64), (.sl true), (.int .i64)], []), (none, [.str, (.sl true), (.int .i64), (.sl true), (.int .i64)], [])]⟩)] }
set_option maxRecDepth 100000 in
theorem to_Read_t1 (O : Orc) (LP : LBody → LBody) (s : Str) : evalBodyD Tryd.prog (MT 12) to_Read_ds Tryd.f12.ntmps O LP Tryd.f12 [(.str s)] [] = to_Read_T1 O LP s := by kernel_rfl
theorem to_Read_l1_ok (s : Str) : ∀ st l u, to_Read_l1R s st l u → Imp (to_Read_l1T s st) (to_Read_l1 O loopLim l u) (StepR (to_Read_l1R s) (to_Read_l1X s)) := by
 rintro ⟨i_14, l_15⟩ l u ⟨rfl, rfl⟩
 simp only [to_Read_l1T, to_Read_l1]
 refine Imp.chk rfl (Imp.chk rfl ?_)
 try simp only [evs, tys]
 refine Imp.cnd ?_ ?_
 ·refine Imp.op (f := fun a => .str a) (fun a h => op_sslcLo h) (fun a => rfl) fun y17 hy17 => ?_
  try simp only [evs, tys]
  refine Imp.call (f := to_gapE) rfl (fun a h => by first | exact to_gap_spec h | simpa only [evs, tys, evl] using to_gap_spec h) (fun a => by first | rfl | simp only [to_gapE, evk, chks]) fun y19 hy19 => ?_
  try simp only [to_gapE, evs, tys]
  refine Imp.cnd ?_ ?_
  ·exact Imp.some (StepR.next ⟨by first | rfl | simp only [evs, tys, evl], rfl⟩)
  ·refine Imp.op (f := fun a => .str a) (fun a h => op_sslcLo h) (fun a => rfl) fun y21 hy21 => ?_
   try simp only [evs, tys]
   refine Imp.call (f := to_oneE) rfl (fun a h => by first | exact to_one_spec h | simpa only [evs, tys, evl] using to_one_spec h) (fun a => by first | rfl | simp only [to_oneE, evk, chks]) fun y23 hy23 => ?_
   try simp only [to_oneE, evs, tys]
   refine Imp.cnd ?_ ?_
   ·exact Imp.some (StepR.ret ⟨l_15, i_14, by first | rfl | simp only [evs, tys, evl, elim_inl, elim_inr]⟩)
   ·refine Imp.op (f := fun a => .slice (List.map encToken a) [] true) (fun a h => op_apd (enc := encToken) (by first | rfl | simp only [evs, tys, evl]) (by first | rfl | simp only [evs, tys, evl]) (fun a => by first | rfl | simp only [evs, tys, evc]) h) (fun a => rfl) fun y25 hy25 => ?_
    try simp only [evs, tys]
    exact Imp.some (StepR.next ⟨by first | rfl | simp only [evs, tys, evl], rfl⟩)
 ·exact Imp.some (StepR.brk ⟨i_14, by first | rfl | simp only [evs, tys, evl, elim_inl, elim_inr]⟩)
theorem to_Read_imp (s : Str) : Imp (to_Read_B s) (to_Read_T1 O loopLim s) (fun r v => v = (to_ReadE r, [])) := by
 simp only [to_Read_B, to_Read_T1]
 try simp only [evs, tys]
 refine Imp.cnd ?_ ?_
 ·exact Imp.some (by first | rfl | simp only [to_ReadE, evs, tys, evl])
 ·refine Imp.call (f := ls_SourceE) rfl (fun a h => by first | exact ls_Source_spec h | simpa only [evs, tys, evl] using ls_Source_spec h) (fun a => by first | rfl | simp only [ls_SourceE, evk, chks]) fun y2 hy2 => ?_
  try simp only [ls_SourceE, evs, tys]
  refine Imp.cnd ?_ ?_
  ·exact Imp.some (by first | rfl | simp only [to_ReadE, evs, tys, evl])
  ·refine Imp.bnd (Imp.loop (to_Read_l1_ok s) ⟨by first | rfl | simp only [evs, tys, evl], rfl⟩) ?_
   rintro (l_26 | p) vy30 hy30
   ·try simp only [elim_inl, elim_inr]
    obtain ⟨i_27, rfl⟩ := hy30
    refine Imp.exHit rfl (Imp.chk rfl (Imp.chk rfl ?_))
    try simp only [evs, tys]
    exact Imp.some (by first | rfl | simp only [to_ReadE, evs, tys, evl])
   ·try simp only [elim_inl, elim_inr]
    obtain ⟨l_28, i_29, rfl⟩ := hy30
    refine Imp.exMiss rfl ?_
    refine Imp.exHit rfl (Imp.chk rfl (Imp.chk rfl ?_))
    try simp only [evs, tys]
    exact Imp.some (by first | rfl | simp only [to_ReadE, evs, tys, evl])
theorem to_Read_run {s : Str} {r : (List GToken) × Int} (h : to_Read_B s = some r) : to_Read s = some r := by
 obtain ⟨v, hv, rfl⟩ := to_Read_imp s r h
 exact tO_of (pair_inj to_ReadEj) (OL_runD to_Read_ds rfl rfl Tryd.func12 ((to_Read_t1 _ _ s).trans hv))
open Go Go.Ev Go.Ev.PV
def r6_SameTokens_l1 (O : Orc) (LP : LBody → LBody) : LBody := fun s1 s1u => cnd (chkL [(.sl false), (.sl false), .bool, (.int .i64)] s1) (cnd (chkU [] s1u)
 (cnd (decide ((intV (gt s1 3)) < (List.length (esV (gt s1 0)) : Int)))
 (bnd (ix 2 (.slice (esV (gt s1 0)) [] false) (.int .i64 (intV (gt s1 3)))) fun x7 => cnd (chk (.ref shToken) x7)
 (bnd (ix 2 (.slice (esV (gt s1 1)) [] false) (.int .i64 (intV (gt s1 3)))) fun x9 => cnd (chk (.ref shToken) x9)
 (cnd (!(((intV (gt (aggV (refV x7)) 0)) == (intV (gt (aggV (refV x9)) 0))) && (((strV (gt (aggV (refV x7)) 1)) == (strV (gt (aggV (refV x9)) 1))) && true)))
 (some (.ret, [(.slice (esV (gt s1 0)) [] false), (.slice (esV (gt s1 1)) [] false), (.bool false), (.int .i64 (intV (gt s1 3)))], []))
 (some (.nrm, [(.slice (esV (gt s1 0)) [] false), (.slice (esV (gt s1 1)) [] false), (.bool (boolV (gt s1 2))), (.int .i64 (IntKind.wrap .i64 ((intV (gt s1 3)) + 1)))], []))) none) none)
 (some (.brk 0, [(.slice (esV (gt s1 0)) [] false), (.slice (esV (gt s1 1)) [] false), (.bool (boolV (gt s1 2))), (.int .i64 (intV (gt s1 3)))], []))) none) none
def r6_SameTokens_T1 (O : Orc) (LP : LBody → LBody) (a : List GToken) (b : List GToken) : Option (PV × UP) :=
 cnd ((List.length (List.map encToken a) : Int) != (List.length (List.map encToken b) : Int))
 (some ((.bool false), []))
 (bnd (LP (r6_SameTokens_l1 O LP) [(.slice (List.map encToken a) [] false), (.slice (List.map encToken b) [] false), (.bool false), (.int .i64 0)] []) fun y13 =>
 exIs y13.1 (some 0) (cnd (chkL [(.sl false), (.sl false), .bool, (.int .i64)] y13.2.1) (cnd (chkU [] y13.2.2)
 (some ((.bool true), [])) none) none)
 (exIs y13.1 none (cnd (chkL [(.sl false), (.sl false), .bool, (.int .i64)] y13.2.1) (cnd (chkU [] y13.2.2)
 (some ((.bool (boolV (gt y13.2.1 2))), [])) none) none)
 (none)))
noncomputable def r6_SameTokens_l1T (a : List GToken) (b : List GToken) : Int → Option (Int ⊕ (Unit ⊕ Unit))
 | i_6 =>
 cnd (decide (i_6 < (List.length a : Int)))
  (bnd (nthI a i_6) fun y8 =>
  bnd (nthI b i_6) fun y10 =>
  cnd (!((y8.kind == y10.kind) && ((y8.s == y10.s) && true)))
  (some (.inr (.inr ())))
  (some (.inl (IntKind.wrap .i64 (i_6 + 1)))))
  (some (.inr (.inl ())))
abbrev r6_SameTokens_l1R (a : List GToken) (b : List GToken) (st : Int) (l : List PV) (u : UP) : Prop := l = [(.slice (List.map encToken a) [] false), (.slice (List.map encToken b) [] false), (.bool false), (.int .i64 st)] ∧ u = []
abbrev r6_SameTokens_l1X (a : List GToken) (b : List GToken) (p : Unit ⊕ Unit) (r : Ex × List PV × UP) : Prop := elim p (fun (p : Unit) => ∃ (i_11 : Int), r = (Ex.brk 0, [(.slice (List.map encToken a) [] false), (.slice (List.map encToken b) [] false), (.bool false), (.int .i64 i_11)], [])) (fun q2 => (fun (p : Unit) => ∃ (i_12 : Int), r = (Ex.ret, [(.slice (List.map encToken a) [] false), (.slice (List.map encToken b) [] false), (.bool false), (.int .i64 i_12)], [])) q2)
noncomputable def r6_SameTokens_B (a : List GToken) (b : List GToken) : Option Bool :=
 cnd ((List.length a : Int) != (List.length b : Int))
 (some false)
 (bnd (tloop (r6_SameTokens_l1T a b) 0) fun e13_2 => elim e13_2
 (fun p13 =>
 some true)
 (fun p13 =>
 some false))
def r6_SameTokens_ds : Decs := { decs := [(19, (.ref shToken)), (23, (.ref shToken))], ups := [], loops := [(4, [], ⟨[(.sl false), (.sl false), .bool, (.int .i64)], [], [(some 0, [(.sl false), (.sl false), .bool, (.int .i64)], []), (none, [(.sl false), (.sl false), .bool, (.int .i64)], [])]⟩)] }
set_option maxRecDepth 100000 in
theorem r6_SameTokens_t1 (O : Orc) (LP : LBody → LBody) (a : List GToken) (b : List GToken) : evalBodyD Tryd.prog (MT 14) r6_SameTokens_ds Tryd.f14.ntmps O LP Tryd.f14 [(.slice (List.map encToken a) [] false), (.slice (List.map encToken b) [] false)] [] = r6_SameTokens_T1 O LP a b := by kernel_rfl
theorem r6_SameTokens_l1_ok (a : List GToken) (b : List GToken) : ∀ st l u, r6_SameTokens_l1R a b st l u → Imp (r6_SameTokens_l1T a b st) (r6_SameTokens_l1 O loopLim l u) (StepR (r6_SameTokens_l1R a b) (r6_SameTokens_l1X a b)) := by
 rintro i_6 l u ⟨rfl, rfl⟩
 simp only [r6_SameTokens_l1T, r6_SameTokens_l1]
 refine Imp.chk rfl (Imp.chk rfl ?_)
 try simp only [evs, tys]
 refine Imp.cnd ?_ ?_
 ·refine Imp.op (f := fun a => .ref (encToken a)) (fun a h => op_ix (enc := encToken) (by first | rfl | simp only [evs, tys, evl]) ⟨by first | rfl | simp only [evs, tys, evc], by decide⟩ h) (fun a => chk_GToken a) fun y8 hy8 => ?_
  try simp only [evs, tys]
  refine Imp.op (f := fun a => .ref (encToken a)) (fun a h => op_ix (enc := encToken) (by first | rfl | simp only [evs, tys, evl]) ⟨by first | rfl | simp only [evs, tys, evc], by decide⟩ h) (fun a => chk_GToken a) fun y10 hy10 => ?_
  try simp only [evs, tys]
  refine Imp.cnd ?_ ?_
  ·exact Imp.some (StepR.ret ⟨i_6, by first | rfl | simp only [evs, tys, evl, elim_inl, elim_inr]⟩)
  ·exact Imp.some (StepR.next ⟨by first | rfl | simp only [evs, tys, evl], rfl⟩)
 ·exact Imp.some (StepR.brk ⟨i_6, by first | rfl | simp only [evs, tys, evl, elim_inl, elim_inr]⟩)
theorem r6_SameTokens_imp (a : List GToken) (b : List GToken) : Imp (r6_SameTokens_B a b) (r6_SameTokens_T1 O loopLim a b) (fun r v => v = (r6_SameTokensE r, [])) := by
 simp only [r6_SameTokens_B, r6_SameTokens_T1]
 try simp only [evs, tys]
 refine Imp.cnd ?_ ?_
 ·exact Imp.some (by first | rfl | simp only [r6_SameTokensE, evs, tys, evl])
 ·refine Imp.bnd (Imp.loop (r6_SameTokens_l1_ok a b) ⟨by first | rfl | simp only [evs, tys, evl], rfl⟩) ?_
  rintro (p | p) vy13 hy13
  ·try simp only [elim_inl, elim_inr]
   obtain ⟨i_11, rfl⟩ := hy13
   refine Imp.exHit rfl (Imp.chk rfl (Imp.chk rfl ?_))
   try simp only [evs, tys]
   exact Imp.some (by first | rfl | simp only [r6_SameTokensE, evs, tys, evl])
  ·try simp only [elim_inl, elim_inr]
   obtain ⟨i_12, rfl⟩ := hy13
   refine Imp.exMiss rfl ?_
   refine Imp.exHit rfl (Imp.chk rfl (Imp.chk rfl ?_))
   try simp only [evs, tys]
   exact Imp.some (by first | rfl | simp only [r6_SameTokensE, evs, tys, evl])
theorem r6_SameTokens_run {a : List GToken} {b : List GToken} {r : Bool} (h : r6_SameTokens_B a b = some r) : r6_SameTokens a b = some r := by
 obtain ⟨v, hv, rfl⟩ := r6_SameTokens_imp a b r h
 exact tO_of (pair_inj r6_SameTokensEj) (OL_runD r6_SameTokens_ds rfl rfl Tryd.func14 ((r6_SameTokens_t1 _ _ a b).trans hv))
def to_Number_T1 (O : Orc) (LP : LBody → LBody) (s : Str) : Option (PV × UP) :=
 callp O 32 [(.str s)] fun x1 => cnd (chk (.tup [(.int .i64), (.int .i64)]) x1)
 (cnd ((intV (gt (tupV x1) 0)) != (List.length s : Int))
 (some ((.int .i64 0), []))
 (some ((.int .i64 (intV (gt (tupV x1) 1))), []))) none
noncomputable def to_Number_B (s : Str) : Option Int :=
 bnd (to_number s) fun y2 =>
 cnd (y2.1 != (List.length s : Int))
 (some 0)
 (some y2.2)
def to_Number_ds : Decs := { decs := [(7, (.tup [(.int .i64), (.int .i64)]))], ups := [], loops := [] }
set_option maxRecDepth 100000 in
theorem to_Number_t1 (O : Orc) (LP : LBody → LBody) (s : Str) : evalBodyD Tryd.prog (MT 15) to_Number_ds Tryd.f15.ntmps O LP Tryd.f15 [(.str s)] [] = to_Number_T1 O LP s := by kernel_rfl
theorem to_Number_imp (s : Str) : Imp (to_Number_B s) (to_Number_T1 O loopLim s) (fun r v => v = (to_NumberE r, [])) := by
 simp only [to_Number_B, to_Number_T1]
 try simp only [evs, tys]
 refine Imp.call (f := to_numberE) rfl (fun a h => by first | exact to_number_spec h | simpa only [evs, tys, evl] using to_number_spec h) (fun a => by first | rfl | simp only [to_numberE, evk, chks]) fun y2 hy2 => ?_
 try simp only [to_numberE, evs, tys]
 refine Imp.cnd ?_ ?_
 ·exact Imp.some (by first | rfl | simp only [to_NumberE, evs, tys, evl])
 ·exact Imp.some (by first | rfl | simp only [to_NumberE, evs, tys, evl])
theorem to_Number_run {s : Str} {r : Int} (h : to_Number_B s = some r) : to_Number s = some r := by
 obtain ⟨v, hv, rfl⟩ := to_Number_imp s r h
 exact tO_of (pair_inj to_NumberEj) (OL_runD to_Number_ds rfl rfl Tryd.func15 ((to_Number_t1 _ _ s).trans hv))
def to_quote_l1 (O : Orc) (LP : LBody → LBody) : LBody := fun s64 s64u => cnd (chkL [.str, (.sl true), (.int .i64), (.int .i64), (.sl false), (.int .i64), (.int .i64)] s64) (cnd (chkU [] s64u)
 (cnd (decide ((intV (gt s64 6)) < (intV (gt s64 5))))
 (bnd (ix 1 (.slice (esV (gt s64 4)) [] false) (.int .i64 (intV (gt s64 6)))) fun x71 => cnd (chk (.ref (.int .i64)) x71)
 (callp O 75 [(.slice (esV (gt s64 1)) [] true), (.int .i64 (intV (refV x71)))] fun x73 => cnd (chk (.sl true) x73)
 (some (.nrm, [(.str (strV (gt s64 0))), (.slice (esV x73) [] true), (.int .i64 (intV (gt s64 2))), (.int .i64 (intV (gt s64 3))), (.slice (esV (gt s64 4)) [] false), (.int .i64 (intV (gt s64 5))), (.int .i64 (IntKind.wrap .i64 ((intV (gt s64 6)) + 1)))], [])) none) none)
 (some (.brk 3, [(.str (strV (gt s64 0))), (.slice (esV (gt s64 1)) [] true), (.int .i64 (intV (gt s64 2))), (.int .i64 (intV (gt s64 3))), (.slice (esV (gt s64 4)) [] false), (.int .i64 (intV (gt s64 5))), (.int .i64 (intV (gt s64 6)))], []))) none) none
def to_quote_l2 (O : Orc) (LP : LBody → LBody) : LBody := fun s82 s82u => cnd (chkL [.str, (.sl true), (.int .i64), (.int .i64), (.sl false), (.int .i64), (.int .i64)] s82) (cnd (chkU [] s82u)
 (cnd (decide ((intV (gt s82 6)) < (intV (gt s82 5))))
 (bnd (ix 1 (.slice (esV (gt s82 4)) [] false) (.int .i64 (intV (gt s82 6)))) fun x89 => cnd (chk (.ref (.int .i64)) x89)
 (callp O 75 [(.slice (esV (gt s82 1)) [] true), (.int .i64 (intV (refV x89)))] fun x91 => cnd (chk (.sl true) x91)
 (some (.nrm, [(.str (strV (gt s82 0))), (.slice (esV x91) [] true), (.int .i64 (intV (gt s82 2))), (.int .i64 (intV (gt s82 3))), (.slice (esV (gt s82 4)) [] false), (.int .i64 (intV (gt s82 5))), (.int .i64 (IntKind.wrap .i64 ((intV (gt s82 6)) + 1)))], [])) none) none)
 (some (.brk 3, [(.str (strV (gt s82 0))), (.slice (esV (gt s82 1)) [] true), (.int .i64 (intV (gt s82 2))), (.int .i64 (intV (gt s82 3))), (.slice (esV (gt s82 4)) [] false), (.int .i64 (intV (gt s82 5))), (.int .i64 (intV (gt s82 6)))], []))) none) none
def to_quote_l3 (O : Orc) (LP : LBody → LBody) : LBody := fun s1 s1u => cnd (chkL [.str, (.sl true), (.int .i64)] s1) (cnd (chkU [] s1u)
 (cnd (decide ((intV (gt s1 2)) < (List.length (strV (gt s1 0)) : Int)))
  (callp O 35 [(.str (strV (gt s1 0))), (.int .i64 (intV (gt s1 2)))] fun x52 => cnd (chk (.tup [(.int .i64), (.int .i64)]) x52)
  (cnd ((intV (gt (tupV x52) 0)) == 34)
  (bnd (apd 1 (.slice (esV (gt s1 1)) [] true) (.slice [(.int .u8 92), (.int .u8 (IntKind.wrap .u8 (intV (gt (tupV x52) 0))))] [] true)) fun x54 => cnd (chk (.sl true) x54)
  (some (.nrm, [(.str (strV (gt s1 0))), (.slice (esV x54) [] true), (.int .i64 (IntKind.wrap .i64 ((intV (gt s1 2)) + (if (1 : Int) > (intV (gt (tupV x52) 1)) then 1 else (intV (gt (tupV x52) 1))))))], [])) none)
  (cnd ((intV (gt (tupV x52) 0)) == 92)
   (bnd (apd 1 (.slice (esV (gt s1 1)) [] true) (.slice [(.int .u8 92), (.int .u8 (IntKind.wrap .u8 (intV (gt (tupV x52) 0))))] [] true)) fun x56 => cnd (chk (.sl true) x56)
   (some (.nrm, [(.str (strV (gt s1 0))), (.slice (esV x56) [] true), (.int .i64 (IntKind.wrap .i64 ((intV (gt s1 2)) + (if (1 : Int) > (intV (gt (tupV x52) 1)) then 1 else (intV (gt (tupV x52) 1))))))], [])) none)
   (cnd ((intV (gt (tupV x52) 0)) == 10)
   (bnd (apd 1 (.slice (esV (gt s1 1)) [] true) (.slice [(.int .u8 92), (.int .u8 110)] [] true)) fun x58 => cnd (chk (.sl true) x58)
   (some (.nrm, [(.str (strV (gt s1 0))), (.slice (esV x58) [] true), (.int .i64 (IntKind.wrap .i64 ((intV (gt s1 2)) + (if (1 : Int) > (intV (gt (tupV x52) 1)) then 1 else (intV (gt (tupV x52) 1))))))], [])) none)
   (cnd (decide ((intV (gt (tupV x52) 0)) < 32))
    (bnd (slcLH 0 (.str (strV (gt s1 0))) (.int .i64 (intV (gt s1 2))) (.int .i64 (IntKind.wrap .i64 ((intV (gt s1 2)) + (intV (gt (tupV x52) 1)))))) fun x60 => cnd (chk .str x60)
    (callp O 74 [(.str (strV x60))] fun x62 => cnd (chk (.tup [(.sl false), .bool]) x62)
    (bnd (LP (to_quote_l1 O LP) [(.str (strV (gt s1 0))), (.slice (esV (gt s1 1)) [] true), (.int .i64 (intV (gt s1 2))), (.int .i64 (intV (gt (tupV x52) 1))), (.slice (esV (gt (tupV x62) 0)) [] false), (.int .i64 (List.length (esV (gt (tupV x62) 0)) : Int)), (.int .i64 0)] []) fun y77 =>
    exIs y77.1 (some 3) (cnd (chkL [.str, (.sl true), (.int .i64), (.int .i64), (.sl false), (.int .i64), (.int .i64)] y77.2.1) (cnd (chkU [] y77.2.2)
    (some (.nrm, [(.str (strV (gt y77.2.1 0))), (.slice (esV (gt y77.2.1 1)) [] true), (.int .i64 (IntKind.wrap .i64 ((intV (gt y77.2.1 2)) + (if (1 : Int) > (intV (gt y77.2.1 3)) then 1 else (intV (gt y77.2.1 3))))))], [])) none) none)
    (none)) none) none)
    (cnd (decide ((intV (gt (tupV x52) 0)) ≥ 65536))
    (bnd (slcLH 0 (.str (strV (gt s1 0))) (.int .i64 (intV (gt s1 2))) (.int .i64 (IntKind.wrap .i64 ((intV (gt s1 2)) + (intV (gt (tupV x52) 1)))))) fun x78 => cnd (chk .str x78)
    (callp O 74 [(.str (strV x78))] fun x80 => cnd (chk (.tup [(.sl false), .bool]) x80)
    (bnd (LP (to_quote_l2 O LP) [(.str (strV (gt s1 0))), (.slice (esV (gt s1 1)) [] true), (.int .i64 (intV (gt s1 2))), (.int .i64 (intV (gt (tupV x52) 1))), (.slice (esV (gt (tupV x80) 0)) [] false), (.int .i64 (List.length (esV (gt (tupV x80) 0)) : Int)), (.int .i64 0)] []) fun y95 =>
    exIs y95.1 (some 3) (cnd (chkL [.str, (.sl true), (.int .i64), (.int .i64), (.sl false), (.int .i64), (.int .i64)] y95.2.1) (cnd (chkU [] y95.2.2)
     (some (.nrm, [(.str (strV (gt y95.2.1 0))), (.slice (esV (gt y95.2.1 1)) [] true), (.int .i64 (IntKind.wrap .i64 ((intV (gt y95.2.1 2)) + (if (1 : Int) > (intV (gt y95.2.1 3)) then 1 else (intV (gt y95.2.1 3))))))], [])) none) none)
    (none)) none) none)
    (bnd (slcLH 0 (.str (strV (gt s1 0))) (.int .i64 (intV (gt s1 2))) (.int .i64 (IntKind.wrap .i64 ((intV (gt s1 2)) + (intV (gt (tupV x52) 1)))))) fun x96 => cnd (chk .str x96)
    (bnd (apdStr (.slice (esV (gt s1 1)) [] true) (.str (strV x96))) fun x98 => cnd (chk (.sl true) x98)
    (some (.nrm, [(.str (strV (gt s1 0))), (.slice (esV x98) [] true), (.int .i64 (IntKind.wrap .i64 ((intV (gt s1 2)) + (if (1 : Int) > (intV (gt (tupV x52) 1)) then 1 else (intV (gt (tupV x52) 1))))))], [])) none) none)))))) none)
  (some (.brk 0, [(.str (strV (gt s1 0))), (.slice (esV (gt s1 1)) [] true), (.int .i64 (intV (gt s1 2)))], []))) none) none
def to_quote_T1 (O : Orc) (LP : LBody → LBody) (s : Str) : Option (PV × UP) :=
 bnd (LP (to_quote_l3 O LP) [(.str s), (.slice [(.int .u8 34)] [] true), (.int .i64 0)] []) fun y102 =>
 exIs y102.1 (some 0) (cnd (chkL [.str, (.sl true), (.int .i64)] y102.2.1) (cnd (chkU [] y102.2.2)
 (bnd (apd 1 (.slice (esV (gt y102.2.1 1)) [] true) (.slice [(.int .u8 34)] [] true)) fun x103 => cnd (chk (.sl true) x103)
 (bnd (toStr (.slice (esV x103) [] true)) fun x105 => cnd (chk .str x105)
 (some ((.str (strV x105)), [])) none) none) none) none)
 (none)
noncomputable def to_quote_l1T (y63 : (List Int) × Bool) : ((List Int) × Int) → Option (((List Int) × Int) ⊕ ((List Int)))
 | (b_69, t_70) =>
 cnd (decide (t_70 < (List.length y63.1 : Int)))
  (bnd (nthI y63.1 t_70) fun y72 =>
  bnd (to_unit b_69 y72) fun y74 =>
  some (.inl (y74, (IntKind.wrap .i64 (t_70 + 1)))))
  (some (.inr b_69))
abbrev to_quote_l1R (s : Str) (i_51 : Int) (y53 : Int × Int) (y63 : (List Int) × Bool) (st : (List Int) × Int) (l : List PV) (u : UP) : Prop := l = [(.str s), (.slice (List.map (PV.int .u8) st.1) [] true), (.int .i64 i_51), (.int .i64 y53.2), (.slice (List.map (PV.int .i64) y63.1) [] false), (.int .i64 (List.length y63.1 : Int)), (.int .i64 st.2)] ∧ u = []
abbrev to_quote_l1X (s : Str) (i_51 : Int) (y53 : Int × Int) (y63 : (List Int) × Bool) (p : (List Int)) (r : Ex × List PV × UP) : Prop := (fun (p : (List Int)) => ∃ (t_76 : Int), r = (Ex.brk 3, [(.str s), (.slice (List.map (PV.int .u8) p) [] true), (.int .i64 i_51), (.int .i64 y53.2), (.slice (List.map (PV.int .i64) y63.1) [] false), (.int .i64 (List.length y63.1 : Int)), (.int .i64 t_76)], [])) p
noncomputable def to_quote_l2T (y81 : (List Int) × Bool) : ((List Int) × Int) → Option (((List Int) × Int) ⊕ ((List Int)))
 | (b_87, t_88) =>
 cnd (decide (t_88 < (List.length y81.1 : Int)))
  (bnd (nthI y81.1 t_88) fun y90 =>
  bnd (to_unit b_87 y90) fun y92 =>
  some (.inl (y92, (IntKind.wrap .i64 (t_88 + 1)))))
  (some (.inr b_87))
abbrev to_quote_l2R (s : Str) (i_51 : Int) (y53 : Int × Int) (y81 : (List Int) × Bool) (st : (List Int) × Int) (l : List PV) (u : UP) : Prop := l = [(.str s), (.slice (List.map (PV.int .u8) st.1) [] true), (.int .i64 i_51), (.int .i64 y53.2), (.slice (List.map (PV.int .i64) y81.1) [] false), (.int .i64 (List.length y81.1 : Int)), (.int .i64 st.2)] ∧ u = []
abbrev to_quote_l2X (s : Str) (i_51 : Int) (y53 : Int × Int) (y81 : (List Int) × Bool) (p : (List Int)) (r : Ex × List PV × UP) : Prop := (fun (p : (List Int)) => ∃ (t_94 : Int), r = (Ex.brk 3, [(.str s), (.slice (List.map (PV.int .u8) p) [] true), (.int .i64 i_51), (.int .i64 y53.2), (.slice (List.map (PV.int .i64) y81.1) [] false), (.int .i64 (List.length y81.1 : Int)), (.int .i64 t_94)], [])) p
noncomputable def to_quote_l3T (s : Str) : ((List Int) × Int) → Option (((List Int) × Int) ⊕ ((List Int)))
 | (b_50, i_51) =>
 cnd (decide (i_51 < (List.length s : Int)))
  (bnd (ls_Code s i_51) fun y53 =>
  cnd (y53.1 == 34)
  (bnd (tapp b_50 [92, (IntKind.wrap .u8 y53.1)]) fun y55 =>
  some (.inl (y55, (IntKind.wrap .i64 (i_51 + (if (1 : Int) > y53.2 then 1 else y53.2))))))
  (cnd (y53.1 == 92)
   (bnd (tapp b_50 [92, (IntKind.wrap .u8 y53.1)]) fun y57 =>
   some (.inl (y57, (IntKind.wrap .i64 (i_51 + (if (1 : Int) > y53.2 then 1 else y53.2))))))
   (cnd (y53.1 == 10)
   (bnd (tapp b_50 [92, 110]) fun y59 =>
   some (.inl (y59, (IntKind.wrap .i64 (i_51 + (if (1 : Int) > y53.2 then 1 else y53.2))))))
   (cnd (decide (y53.1 < 32))
    (bnd (tslc s i_51 (IntKind.wrap .i64 (i_51 + y53.2))) fun y61 =>
    bnd (ls_Units y61) fun y63 =>
    bnd (tloop (to_quote_l1T y63) (b_50, 0)) fun b_75 =>
    some (.inl (b_75, (IntKind.wrap .i64 (i_51 + (if (1 : Int) > y53.2 then 1 else y53.2))))))
    (cnd (decide (y53.1 ≥ 65536))
    (bnd (tslc s i_51 (IntKind.wrap .i64 (i_51 + y53.2))) fun y79 =>
    bnd (ls_Units y79) fun y81 =>
    bnd (tloop (to_quote_l2T y81) (b_50, 0)) fun b_93 =>
    some (.inl (b_93, (IntKind.wrap .i64 (i_51 + (if (1 : Int) > y53.2 then 1 else y53.2))))))
    (bnd (tslc s i_51 (IntKind.wrap .i64 (i_51 + y53.2))) fun y97 =>
    bnd (tapp b_50 (intsT y97)) fun y99 =>
    some (.inl (y99, (IntKind.wrap .i64 (i_51 + (if (1 : Int) > y53.2 then 1 else y53.2)))))))))))
  (some (.inr b_50))
abbrev to_quote_l3R (s : Str) (st : (List Int) × Int) (l : List PV) (u : UP) : Prop := l = [(.str s), (.slice (List.map (PV.int .u8) st.1) [] true), (.int .i64 st.2)] ∧ u = []
abbrev to_quote_l3X (s : Str) (p : (List Int)) (r : Ex × List PV × UP) : Prop := (fun (p : (List Int)) => ∃ (i_101 : Int), r = (Ex.brk 0, [(.str s), (.slice (List.map (PV.int .u8) p) [] true), (.int .i64 i_101)], [])) p
noncomputable def to_quote_B (s : Str) : Option Str :=
 bnd (tloop (to_quote_l3T s) ([34], 0)) fun b_100 =>
 bnd (tapp b_100 [34]) fun y104 =>
 bnd (some (bytesT y104)) fun y106 =>
 some y106
def to_quote_ds : Decs := { decs := [(19, (.tup [(.int .i64), (.int .i64)])), (28, .str), (29, (.sl true)), (41, (.sl true)), (47, (.sl true)), (61, .str), (62, (.tup [(.sl false), .bool])), (69, (.ref (.int .i64))), (73, (.sl true)), (81, (.sl true)), (82, .str)], ups := [], loops := [(3, [], ⟨[.str, (.sl true), (.int .i64)], [], [(some 0, [.str, (.sl true), (.int .i64)], [])]⟩), (13, [], ⟨[.str, (.sl true), (.int .i64), (.int .i64), (.sl false), (.int .i64), (.int .i64)], [], [(some 3, [.str, (.sl true), (.int .i64), (.int .i64), (.sl false), (.int .i64), (.int .i64)], [])]⟩)] }
set_option maxRecDepth 100000 in
theorem to_quote_t1 (O : Orc) (LP : LBody → LBody) (s : Str) : evalBodyD Tryd.prog (MT 41) to_quote_ds Tryd.f41.ntmps O LP Tryd.f41 [(.str s)] [] = to_quote_T1 O LP s := by kernel_rfl
theorem to_quote_l1_ok (s : Str) (i_51 : Int) (y53 : Int × Int) (y63 : (List Int) × Bool) : ∀ st l u, to_quote_l1R s i_51 y53 y63 st l u → Imp (to_quote_l1T y63 st) (to_quote_l1 O loopLim l u) (StepR (to_quote_l1R s i_51 y53 y63) (to_quote_l1X s i_51 y53 y63)) := by
 rintro ⟨b_69, t_70⟩ l u ⟨rfl, rfl⟩
 simp only [to_quote_l1T, to_quote_l1]
 refine Imp.chk rfl (Imp.chk rfl ?_)
 try simp only [evs, tys]
 refine Imp.cnd ?_ ?_
 ·refine Imp.op (f := fun a => .ref ((PV.int .i64) a)) (fun a h => op_ix (enc := (PV.int .i64)) (by first | rfl | simp only [evs, tys, evl]) ⟨by first | rfl | simp only [evs, tys, evc], by decide⟩ h) (fun a => rfl) fun y72 hy72 => ?_
  try simp only [evs, tys]
  refine Imp.call (f := to_unitE) rfl (fun a h => by first | exact to_unit_spec h | simpa only [evs, tys, evl] using to_unit_spec h) (fun a => by first | rfl | simp only [to_unitE, evk, chks]) fun y74 hy74 => ?_
  try simp only [to_unitE, evs, tys]
  exact Imp.some (StepR.next ⟨by first | rfl | simp only [evs, tys, evl], rfl⟩)
 ·exact Imp.some (StepR.brk ⟨t_70, by first | rfl | simp only [evs, tys, evl, elim_inl, elim_inr]⟩)
theorem to_quote_l2_ok (s : Str) (i_51 : Int) (y53 : Int × Int) (y81 : (List Int) × Bool) : ∀ st l u, to_quote_l2R s i_51 y53 y81 st l u → Imp (to_quote_l2T y81 st) (to_quote_l2 O loopLim l u) (StepR (to_quote_l2R s i_51 y53 y81) (to_quote_l2X s i_51 y53 y81)) := by
 rintro ⟨b_87, t_88⟩ l u ⟨rfl, rfl⟩
 simp only [to_quote_l2T, to_quote_l2]
 refine Imp.chk rfl (Imp.chk rfl ?_)
 try simp only [evs, tys]
 refine Imp.cnd ?_ ?_
 ·refine Imp.op (f := fun a => .ref ((PV.int .i64) a)) (fun a h => op_ix (enc := (PV.int .i64)) (by first | rfl | simp only [evs, tys, evl]) ⟨by first | rfl | simp only [evs, tys, evc], by decide⟩ h) (fun a => rfl) fun y90 hy90 => ?_
  try simp only [evs, tys]
  refine Imp.call (f := to_unitE) rfl (fun a h => by first | exact to_unit_spec h | simpa only [evs, tys, evl] using to_unit_spec h) (fun a => by first | rfl | simp only [to_unitE, evk, chks]) fun y92 hy92 => ?_
  try simp only [to_unitE, evs, tys]
  exact Imp.some (StepR.next ⟨by first | rfl | simp only [evs, tys, evl], rfl⟩)
 ·exact Imp.some (StepR.brk ⟨t_88, by first | rfl | simp only [evs, tys, evl, elim_inl, elim_inr]⟩)
theorem to_quote_l3_ok (s : Str) : ∀ st l u, to_quote_l3R s st l u → Imp (to_quote_l3T s st) (to_quote_l3 O loopLim l u) (StepR (to_quote_l3R s) (to_quote_l3X s)) := by
 rintro ⟨b_50, i_51⟩ l u ⟨rfl, rfl⟩
 simp only [to_quote_l3T, to_quote_l3]
 refine Imp.chk rfl (Imp.chk rfl ?_)
 try simp only [evs, tys]
 refine Imp.cnd ?_ ?_
 ·refine Imp.call (f := ls_CodeE) rfl (fun a h => by first | exact ls_Code_spec h | simpa only [evs, tys, evl] using ls_Code_spec h) (fun a => by first | rfl | simp only [ls_CodeE, evk, chks]) fun y53 hy53 => ?_
  try simp only [ls_CodeE, evs, tys]
  refine Imp.cnd ?_ ?_
  ·refine Imp.op (f := fun a => .slice (List.map (PV.int .u8) a) [] true) (fun a h => op_apd (enc := (PV.int .u8)) (by first | rfl | simp only [evs, tys, evl]) (by first | rfl | simp only [evs, tys, evl]) (fun a => by first | rfl | simp only [evs, tys, evc]) h) (fun a => rfl) fun y55 hy55 => ?_
   try simp only [evs, tys]
   exact Imp.some (StepR.next ⟨by first | rfl | simp only [evs, tys, evl], rfl⟩)
  ·refine Imp.cnd ?_ ?_
   ·refine Imp.op (f := fun a => .slice (List.map (PV.int .u8) a) [] true) (fun a h => op_apd (enc := (PV.int .u8)) (by first | rfl | simp only [evs, tys, evl]) (by first | rfl | simp only [evs, tys, evl]) (fun a => by first | rfl | simp only [evs, tys, evc]) h) (fun a => rfl) fun y57 hy57 => ?_
    try simp only [evs, tys]
    exact Imp.some (StepR.next ⟨by first | rfl | simp only [evs, tys, evl], rfl⟩)
   ·refine Imp.cnd ?_ ?_
    ·refine Imp.op (f := fun a => .slice (List.map (PV.int .u8) a) [] true) (fun a h => op_apd (enc := (PV.int .u8)) (by first | rfl | simp only [evs, tys, evl]) (by first | rfl | simp only [evs, tys, evl]) (fun a => by first | rfl | simp only [evs, tys, evc]) h) (fun a => rfl) fun y59 hy59 => ?_
     try simp only [evs, tys]
     exact Imp.some (StepR.next ⟨by first | rfl | simp only [evs, tys, evl], rfl⟩)
    ·refine Imp.cnd ?_ ?_
     ·refine Imp.op (f := fun a => .str a) (fun a h => op_sslcLH h) (fun a => rfl) fun y61 hy61 => ?_
      try simp only [evs, tys]
      refine Imp.call (f := ls_UnitsE) rfl (fun a h => by first | exact ls_Units_spec h | simpa only [evs, tys, evl] using ls_Units_spec h) (fun a => by first | rfl | simp only [ls_UnitsE, evk, chks]) fun y63 hy63 => ?_
      try simp only [ls_UnitsE, evs, tys]
      refine Imp.bnd (Imp.loop (to_quote_l1_ok s i_51 y53 y63) ⟨by first | rfl | simp only [evs, tys, evl], rfl⟩) ?_
      rintro b_75 vy77 hy77
      obtain ⟨t_76, rfl⟩ := hy77
      refine Imp.exHit rfl (Imp.chk rfl (Imp.chk rfl ?_))
      try simp only [evs, tys]
      exact Imp.some (StepR.next ⟨by first | rfl | simp only [evs, tys, evl], rfl⟩)
     ·refine Imp.cnd ?_ ?_
      ·refine Imp.op (f := fun a => .str a) (fun a h => op_sslcLH h) (fun a => rfl) fun y79 hy79 => ?_
       try simp only [evs, tys]
       refine Imp.call (f := ls_UnitsE) rfl (fun a h => by first | exact ls_Units_spec h | simpa only [evs, tys, evl] using ls_Units_spec h) (fun a => by first | rfl | simp only [ls_UnitsE, evk, chks]) fun y81 hy81 => ?_
       try simp only [ls_UnitsE, evs, tys]
       refine Imp.bnd (Imp.loop (to_quote_l2_ok s i_51 y53 y81) ⟨by first | rfl | simp only [evs, tys, evl], rfl⟩) ?_
       rintro b_93 vy95 hy95
       obtain ⟨t_94, rfl⟩ := hy95
       refine Imp.exHit rfl (Imp.chk rfl (Imp.chk rfl ?_))
       try simp only [evs, tys]
       exact Imp.some (StepR.next ⟨by first | rfl | simp only [evs, tys, evl], rfl⟩)
      ·refine Imp.op (f := fun a => .str a) (fun a h => op_sslcLH h) (fun a => rfl) fun y97 hy97 => ?_
       try simp only [evs, tys]
       refine Imp.op (f := fun a => .slice (List.map (PV.int .u8) a) [] true) (fun a h => op_apdStr (by first | rfl | simp only [evs, tys, evl]) h) (fun a => rfl) fun y99 hy99 => ?_
       try simp only [evs, tys]
       exact Imp.some (StepR.next ⟨by first | rfl | simp only [evs, tys, evl], rfl⟩)
 ·exact Imp.some (StepR.brk ⟨i_51, by first | rfl | simp only [evs, tys, evl, elim_inl, elim_inr]⟩)
theorem to_quote_imp (s : Str) : Imp (to_quote_B s) (to_quote_T1 O loopLim s) (fun r v => v = (to_quoteE r, [])) := by
 simp only [to_quote_B, to_quote_T1]
 try simp only [evs, tys]
 refine Imp.bnd (Imp.loop (to_quote_l3_ok s) ⟨by first | rfl | simp only [evs, tys, evl], rfl⟩) ?_
 rintro b_100 vy102 hy102
 obtain ⟨i_101, rfl⟩ := hy102
 refine Imp.exHit rfl (Imp.chk rfl (Imp.chk rfl ?_))
 try simp only [evs, tys]
 refine Imp.op (f := fun a => .slice (List.map (PV.int .u8) a) [] true) (fun a h => op_apd (enc := (PV.int .u8)) (by first | rfl | simp only [evs, tys, evl]) (by first | rfl | simp only [evs, tys, evl]) (fun a => by first | rfl | simp only [evs, tys, evc]) h) (fun a => rfl) fun y104 hy104 => ?_
 try simp only [evs, tys]
 refine Imp.op (f := fun a => .str a) (fun a h => op_toStr (by first | rfl | simp only [evs, tys, evl]) h) (fun a => rfl) fun y106 hy106 => ?_
 try simp only [evs, tys]
 exact Imp.some (by first | rfl | simp only [to_quoteE, evs, tys, evl])
theorem to_quote_run {s : Str} {r : Str} (h : to_quote_B s = some r) : to_quote s = some r := by
 obtain ⟨v, hv, rfl⟩ := to_quote_imp s r h
 exact tO_of (pair_inj to_quoteEj) (OL_runD to_quote_ds rfl rfl Tryd.func41 ((to_quote_t1 _ _ s).trans hv))
theorem st_Join_run {elems : List Str} {sep : Str} {r : Str} (h : tJoin elems sep = some r) : st_Join elems sep = some r := tO_of (pair_inj st_JoinEj) (OL_ext (g := xJoin) rfl (xJoin_of h))
theorem st_Contains_run {s : Str} {substr : Str} {r : Bool} (h : tContains s substr = some r) : st_Contains s substr = some r := tO_of (pair_inj st_ContainsEj) (OL_ext (g := xContains) rfl (xContains_of h))
def ls_Name_l1 (O : Orc) (LP : LBody → LBody) : LBody := fun s1 s1u => cnd (chkL [.str, .bool, (.int .i64), (.int .i64)] s1) (cnd (chkU [] s1u)
 (cnd (decide ((intV (gt s1 3)) < (intV (gt s1 2))))
 (bnd (ixStr (.str (strV (gt s1 0))) (.int .i64 (intV (gt s1 3)))) fun x11 => cnd (chk (.int .u8) x11)
 (callp O 55 [(.int .u8 (intV x11))] fun x13 => cnd (chk .bool x13)
 (cnd (!(boolV x13))
 (cnd ((intV (gt s1 3)) == 0)
 (some (.ret, [(.str (strV (gt s1 0))), (.bool false), (.int .i64 (intV (gt s1 2))), (.int .i64 (intV (gt s1 3)))], []))
 (bnd (ixStr (.str (strV (gt s1 0))) (.int .i64 (intV (gt s1 3)))) fun x15 => cnd (chk (.int .u8) x15)
 (callp O 57 [(.int .u8 (intV x15))] fun x17 => cnd (chk .bool x17)
 (cnd (!(boolV x17))
 (some (.ret, [(.str (strV (gt s1 0))), (.bool false), (.int .i64 (intV (gt s1 2))), (.int .i64 (intV (gt s1 3)))], []))
 (some (.nrm, [(.str (strV (gt s1 0))), (.bool (boolV (gt s1 1))), (.int .i64 (intV (gt s1 2))), (.int .i64 (IntKind.wrap .i64 ((intV (gt s1 3)) + 1)))], []))) none) none))
 (some (.nrm, [(.str (strV (gt s1 0))), (.bool (boolV (gt s1 1))), (.int .i64 (intV (gt s1 2))), (.int .i64 (IntKind.wrap .i64 ((intV (gt s1 3)) + 1)))], []))) none) none)
 (some (.brk 0, [(.str (strV (gt s1 0))), (.bool (boolV (gt s1 1))), (.int .i64 (intV (gt s1 2))), (.int .i64 (intV (gt s1 3)))], []))) none) none
def ls_Name_T1 (O : Orc) (LP : LBody → LBody) (s : Str) : Option (PV × UP) :=
 bnd (LP (ls_Name_l1 O LP) [(.str s), (.bool false), (.int .i64 (List.length s : Int)), (.int .i64 0)] []) fun y21 =>
 exIs y21.1 (some 0) (cnd (chkL [.str, .bool, (.int .i64), (.int .i64)] y21.2.1) (cnd (chkU [] y21.2.2)
 (some ((.bool (!((strV (gt y21.2.1 0)) == ([] : Str)))), [])) none) none)
 (exIs y21.1 none (cnd (chkL [.str, .bool, (.int .i64), (.int .i64)] y21.2.1) (cnd (chkU [] y21.2.2)
 (some ((.bool (boolV (gt y21.2.1 1))), [])) none) none)
 (none))
noncomputable def ls_Name_l1T (s : Str) : Int → Option (Int ⊕ (Unit ⊕ Unit))
 | t_10 =>
 cnd (decide (t_10 < (List.length s : Int)))
  (bnd (nthI s t_10) fun y12 =>
  bnd (ls_Letter (y12.toNat : Int)) fun y14 =>
  cnd (!y14)
  (cnd (t_10 == 0)
   (some (.inr (.inr ())))
   (bnd (nthI s t_10) fun y16 =>
   bnd (ls_Digit (y16.toNat : Int)) fun y18 =>
   cnd (!y18)
   (some (.inr (.inr ())))
   (some (.inl (IntKind.wrap .i64 (t_10 + 1))))))
  (some (.inl (IntKind.wrap .i64 (t_10 + 1)))))
  (some (.inr (.inl ())))
abbrev ls_Name_l1R (s : Str) (st : Int) (l : List PV) (u : UP) : Prop := l = [(.str s), (.bool false), (.int .i64 (List.length s : Int)), (.int .i64 st)] ∧ u = []
abbrev ls_Name_l1X (s : Str) (p : Unit ⊕ Unit) (r : Ex × List PV × UP) : Prop := elim p (fun (p : Unit) => ∃ (t_19 : Int), r = (Ex.brk 0, [(.str s), (.bool false), (.int .i64 (List.length s : Int)), (.int .i64 t_19)], [])) (fun q2 => (fun (p : Unit) => ∃ (t_20 : Int), r = (Ex.ret, [(.str s), (.bool false), (.int .i64 (List.length s : Int)), (.int .i64 t_20)], [])) q2)
noncomputable def ls_Name_B (s : Str) : Option Bool :=
 bnd (tloop (ls_Name_l1T s) 0) fun e21_2 => elim e21_2
 (fun p21 =>
 some (!(s == ([] : Str))))
 (fun p21 =>
 some false)
def ls_Name_ds : Decs := { decs := [(11, (.int .u8)), (12, .bool), (20, (.int .u8)), (21, .bool)], ups := [], loops := [(2, [], ⟨[.str, .bool, (.int .i64), (.int .i64)], [], [(some 0, [.str, .bool, (.int .i64), (.int .i64)], []), (none, [.str, .bool, (.int .i64), (.int .i64)], [])]⟩)] }
set_option maxRecDepth 100000 in
theorem ls_Name_t1 (O : Orc) (LP : LBody → LBody) (s : Str) : evalBodyD Tryd.prog (MT 44) ls_Name_ds Tryd.f44.ntmps O LP Tryd.f44 [(.str s)] [] = ls_Name_T1 O LP s := by kernel_rfl
theorem ls_Name_l1_ok (s : Str) : ∀ st l u, ls_Name_l1R s st l u → Imp (ls_Name_l1T s st) (ls_Name_l1 O loopLim l u) (StepR (ls_Name_l1R s) (ls_Name_l1X s)) := by
 rintro t_10 l u ⟨rfl, rfl⟩
 simp only [ls_Name_l1T, ls_Name_l1]
 refine Imp.chk rfl (Imp.chk rfl ?_)
 try simp only [evs, tys]
 refine Imp.cnd ?_ ?_
 ·refine Imp.op (f := fun a => .int .u8 (a.toNat : Int)) (fun a h => op_ixStr h) (fun a => rfl) fun y12 hy12 => ?_
  try simp only [evs, tys]
  refine Imp.call (f := ls_LetterE) rfl (fun a h => by first | exact ls_Letter_spec h | simpa only [evs, tys, evl] using ls_Letter_spec h) (fun a => by first | rfl | simp only [ls_LetterE, evk, chks]) fun y14 hy14 => ?_
  try simp only [ls_LetterE, evs, tys]
  refine Imp.cnd ?_ ?_
  ·refine Imp.cnd ?_ ?_
   ·exact Imp.some (StepR.ret ⟨t_10, by first | rfl | simp only [evs, tys, evl, elim_inl, elim_inr]⟩)
   ·refine Imp.op (f := fun a => .int .u8 (a.toNat : Int)) (fun a h => op_ixStr h) (fun a => rfl) fun y16 hy16 => ?_
    try simp only [evs, tys]
    refine Imp.call (f := ls_DigitE) rfl (fun a h => by first | exact ls_Digit_spec h | simpa only [evs, tys, evl] using ls_Digit_spec h) (fun a => by first | rfl | simp only [ls_DigitE, evk, chks]) fun y18 hy18 => ?_
    try simp only [ls_DigitE, evs, tys]
    refine Imp.cnd ?_ ?_
    ·exact Imp.some (StepR.ret ⟨t_10, by first | rfl | simp only [evs, tys, evl, elim_inl, elim_inr]⟩)
    ·exact Imp.some (StepR.next ⟨by first | rfl | simp only [evs, tys, evl], rfl⟩)
  ·exact Imp.some (StepR.next ⟨by first | rfl | simp only [evs, tys, evl], rfl⟩)
 ·exact Imp.some (StepR.brk ⟨t_10, by first | rfl | simp only [evs, tys, evl, elim_inl, elim_inr]⟩)
theorem ls_Name_imp (s : Str) : Imp (ls_Name_B s) (ls_Name_T1 O loopLim s) (fun r v => v = (ls_NameE r, [])) := by
 simp only [ls_Name_B, ls_Name_T1]
 try simp only [evs, tys]
 refine Imp.bnd (Imp.loop (ls_Name_l1_ok s) ⟨by first | rfl | simp only [evs, tys, evl], rfl⟩) ?_
 rintro (p | p) vy21 hy21
 ·try simp only [elim_inl, elim_inr]
  obtain ⟨t_19, rfl⟩ := hy21
  refine Imp.exHit rfl (Imp.chk rfl (Imp.chk rfl ?_))
  try simp only [evs, tys]
  exact Imp.some (by first | rfl | simp only [ls_NameE, evs, tys, evl])
 ·try simp only [elim_inl, elim_inr]
  obtain ⟨t_20, rfl⟩ := hy21
  refine Imp.exMiss rfl ?_
  refine Imp.exHit rfl (Imp.chk rfl (Imp.chk rfl ?_))
  try simp only [evs, tys]
  exact Imp.some (by first | rfl | simp only [ls_NameE, evs, tys, evl])
theorem ls_Name_run {s : Str} {r : Bool} (h : ls_Name_B s = some r) : ls_Name s = some r := by
 obtain ⟨v, hv, rfl⟩ := ls_Name_imp s r h
 exact tO_of (pair_inj ls_NameEj) (OL_runD ls_Name_ds rfl rfl Tryd.func44 ((ls_Name_t1 _ _ s).trans hv))
def ls_Good_T1 (O : Orc) (LP : LBody → LBody) (s : Str) : Option (PV × UP) :=
 callp O 79 [(.str s)] fun x1 => cnd (chk .bool x1)
 (some ((.bool (boolV x1)), [])) none
noncomputable def ls_Good_B (s : Str) : Option Bool :=
 bnd (uf_ValidString s) fun y2 =>
 some y2
def ls_Good_ds : Decs := { decs := [(4, .bool)], ups := [], loops := [] }
set_option maxRecDepth 100000 in
theorem ls_Good_t1 (O : Orc) (LP : LBody → LBody) (s : Str) : evalBodyD Tryd.prog (MT 45) ls_Good_ds Tryd.f45.ntmps O LP Tryd.f45 [(.str s)] [] = ls_Good_T1 O LP s := by kernel_rfl
theorem ls_Good_imp (s : Str) : Imp (ls_Good_B s) (ls_Good_T1 O loopLim s) (fun r v => v = (ls_GoodE r, [])) := by
 simp only [ls_Good_B, ls_Good_T1]
 try simp only [evs, tys]
 refine Imp.call (f := uf_ValidStringE) rfl (fun a h => by first | exact uf_ValidString_spec h | simpa only [evs, tys, evl] using uf_ValidString_spec h) (fun a => by first | rfl | simp only [uf_ValidStringE, evk, chks]) fun y2 hy2 => ?_
 try simp only [uf_ValidStringE, evs, tys]
 exact Imp.some (by first | rfl | simp only [ls_GoodE, evs, tys, evl])
theorem ls_Good_run {s : Str} {r : Bool} (h : ls_Good_B s = some r) : ls_Good s = some r := by
 obtain ⟨v, hv, rfl⟩ := ls_Good_imp s r h
 exact tO_of (pair_inj ls_GoodEj) (OL_runD ls_Good_ds rfl rfl Tryd.func45 ((ls_Good_t1 _ _ s).trans hv))
def ls_Source_l1 (O : Orc) (LP : LBody → LBody) : LBody := fun s1 s1u => cnd (chkL [.str, .bool, (.int .i64)] s1) (cnd (chkU [] s1u)
 (cnd (decide ((intV (gt s1 2)) < (List.length (strV (gt s1 0)) : Int)))
 (callp O 35 [(.str (strV (gt s1 0))), (.int .i64 (intV (gt s1 2)))] fun x7 => cnd (chk (.tup [(.int .i64), (.int .i64)]) x7)
 (cnd (decide ((intV (gt (tupV x7) 1)) > 0))
 (callp O 36 [(.int .i64 (intV (gt (tupV x7) 0)))] fun x9 => cnd (chk .bool x9)
 (cnd (boolV x9)
 (some (.nrm, [(.str (strV (gt s1 0))), (.bool (boolV (gt s1 1))), (.int .i64 (IntKind.wrap .i64 ((intV (gt s1 2)) + (intV (gt (tupV x7) 1)))))], []))
 (some (.ret, [(.str (strV (gt s1 0))), (.bool false), (.int .i64 (intV (gt s1 2)))], []))) none)
 (some (.ret, [(.str (strV (gt s1 0))), (.bool false), (.int .i64 (intV (gt s1 2)))], []))) none)
 (some (.brk 0, [(.str (strV (gt s1 0))), (.bool (boolV (gt s1 1))), (.int .i64 (intV (gt s1 2)))], []))) none) none
def ls_Source_T1 (O : Orc) (LP : LBody → LBody) (s : Str) : Option (PV × UP) :=
 bnd (LP (ls_Source_l1 O LP) [(.str s), (.bool false), (.int .i64 0)] []) fun y13 =>
 exIs y13.1 (some 0) (cnd (chkL [.str, .bool, (.int .i64)] y13.2.1) (cnd (chkU [] y13.2.2)
 (some ((.bool true), [])) none) none)
 (exIs y13.1 none (cnd (chkL [.str, .bool, (.int .i64)] y13.2.1) (cnd (chkU [] y13.2.2)
 (some ((.bool (boolV (gt y13.2.1 1))), [])) none) none)
 (none))
noncomputable def ls_Source_l1T (s : Str) : Int → Option (Int ⊕ (Unit ⊕ Unit))
 | i_6 =>
 cnd (decide (i_6 < (List.length s : Int)))
  (bnd (ls_Code s i_6) fun y8 =>
  cnd (decide (y8.2 > 0))
  (bnd (ls_sign y8.1) fun y10 =>
  cnd y10
   (some (.inl (IntKind.wrap .i64 (i_6 + y8.2))))
   (some (.inr (.inr ()))))
  (some (.inr (.inr ()))))
  (some (.inr (.inl ())))
abbrev ls_Source_l1R (s : Str) (st : Int) (l : List PV) (u : UP) : Prop := l = [(.str s), (.bool false), (.int .i64 st)] ∧ u = []
abbrev ls_Source_l1X (s : Str) (p : Unit ⊕ Unit) (r : Ex × List PV × UP) : Prop := elim p (fun (p : Unit) => ∃ (i_11 : Int), r = (Ex.brk 0, [(.str s), (.bool false), (.int .i64 i_11)], [])) (fun q2 => (fun (p : Unit) => ∃ (i_12 : Int), r = (Ex.ret, [(.str s), (.bool false), (.int .i64 i_12)], [])) q2)
noncomputable def ls_Source_B (s : Str) : Option Bool :=
 bnd (tloop (ls_Source_l1T s) 0) fun e13_2 => elim e13_2
 (fun p13 =>
 some true)
 (fun p13 =>
 some false)
def ls_Source_ds : Decs := { decs := [(13, (.tup [(.int .i64), (.int .i64)])), (20, .bool)], ups := [], loops := [(2, [], ⟨[.str, .bool, (.int .i64)], [], [(some 0, [.str, .bool, (.int .i64)], []), (none, [.str, .bool, (.int .i64)], [])]⟩)] }
set_option maxRecDepth 100000 in
theorem ls_Source_t1 (O : Orc) (LP : LBody → LBody) (s : Str) : evalBodyD Tryd.prog (MT 18) ls_Source_ds Tryd.f18.ntmps O LP Tryd.f18 [(.str s)] [] = ls_Source_T1 O LP s := by kernel_rfl
theorem ls_Source_l1_ok (s : Str) : ∀ st l u, ls_Source_l1R s st l u → Imp (ls_Source_l1T s st) (ls_Source_l1 O loopLim l u) (StepR (ls_Source_l1R s) (ls_Source_l1X s)) := by
 rintro i_6 l u ⟨rfl, rfl⟩
 simp only [ls_Source_l1T, ls_Source_l1]
 refine Imp.chk rfl (Imp.chk rfl ?_)
 try simp only [evs, tys]
 refine Imp.cnd ?_ ?_
 ·refine Imp.call (f := ls_CodeE) rfl (fun a h => by first | exact ls_Code_spec h | simpa only [evs, tys, evl] using ls_Code_spec h) (fun a => by first | rfl | simp only [ls_CodeE, evk, chks]) fun y8 hy8 => ?_
  try simp only [ls_CodeE, evs, tys]
  refine Imp.cnd ?_ ?_
  ·refine Imp.call (f := ls_signE) rfl (fun a h => by first | exact ls_sign_spec h | simpa only [evs, tys, evl] using ls_sign_spec h) (fun a => by first | rfl | simp only [ls_signE, evk, chks]) fun y10 hy10 => ?_
   try simp only [ls_signE, evs, tys]
   refine Imp.cnd ?_ ?_
   ·exact Imp.some (StepR.next ⟨by first | rfl | simp only [evs, tys, evl], rfl⟩)
   ·exact Imp.some (StepR.ret ⟨i_6, by first | rfl | simp only [evs, tys, evl, elim_inl, elim_inr]⟩)
  ·exact Imp.some (StepR.ret ⟨i_6, by first | rfl | simp only [evs, tys, evl, elim_inl, elim_inr]⟩)
 ·exact Imp.some (StepR.brk ⟨i_6, by first | rfl | simp only [evs, tys, evl, elim_inl, elim_inr]⟩)
theorem ls_Source_imp (s : Str) : Imp (ls_Source_B s) (ls_Source_T1 O loopLim s) (fun r v => v = (ls_SourceE r, [])) := by
 simp only [ls_Source_B, ls_Source_T1]
 try simp only [evs, tys]
 refine Imp.bnd (Imp.loop (ls_Source_l1_ok s) ⟨by first | rfl | simp only [evs, tys, evl], rfl⟩) ?_
 rintro (p | p) vy13 hy13
 ·try simp only [elim_inl, elim_inr]
  obtain ⟨i_11, rfl⟩ := hy13
  refine Imp.exHit rfl (Imp.chk rfl (Imp.chk rfl ?_))
  try simp only [evs, tys]
  exact Imp.some (by first | rfl | simp only [ls_SourceE, evs, tys, evl])
 ·try simp only [elim_inl, elim_inr]
  obtain ⟨i_12, rfl⟩ := hy13
  refine Imp.exMiss rfl ?_
  refine Imp.exHit rfl (Imp.chk rfl (Imp.chk rfl ?_))
  try simp only [evs, tys]
  exact Imp.some (by first | rfl | simp only [ls_SourceE, evs, tys, evl])
theorem ls_Source_run {s : Str} {r : Bool} (h : ls_Source_B s = some r) : ls_Source s = some r := by
 obtain ⟨v, hv, rfl⟩ := ls_Source_imp s r h
 exact tO_of (pair_inj ls_SourceEj) (OL_runD ls_Source_ds rfl rfl Tryd.func18 ((ls_Source_t1 _ _ s).trans hv))
def to_gap_T1 (O : Orc) (LP : LBody → LBody) (s : Str) : Option (PV × UP) :=
 bnd (ixStr (.str s) (.int .i64 0)) fun x1 => cnd (chk (.int .u8) x1)
 (cnd ((intV x1) == 9)
 (some ((.int .i64 1), []))
 (cnd ((intV x1) == 10)
 (some ((.int .i64 1), []))
 (cnd ((intV x1) == 13)
 (some ((.int .i64 1), []))
 (cnd ((intV x1) == 32)
 (some ((.int .i64 1), []))
 (cnd ((intV x1) == 44)
 (some ((.int .i64 1), []))
 (callp O 49 [(.str s), (.str [239, 187, 191])] fun x3 => cnd (chk .bool x3)
 (cnd (boolV x3)
 (some ((.int .i64 3), []))
 (cnd ((intV x1) == 35)
 (callp O 50 [(.str s), (.str [13, 10])] fun x5 => cnd (chk (.int .i64) x5)
 (cnd (decide ((intV x5) ≥ 0))
 (some ((.int .i64 (intV x5)), []))
 (some ((.int .i64 (List.length s : Int)), []))) none)
 (some ((.int .i64 0), [])))) none)))))) none
noncomputable def to_gap_B (s : Str) : Option Int :=
 bnd (nthI s 0) fun y2 =>
 cnd ((y2.toNat : Int) == 9)
 (some 1)
 (cnd ((y2.toNat : Int) == 10)
 (some 1)
 (cnd ((y2.toNat : Int) == 13)
 (some 1)
 (cnd ((y2.toNat : Int) == 32)
 (some 1)
 (cnd ((y2.toNat : Int) == 44)
 (some 1)
 (bnd (st_HasPrefix s [239, 187, 191]) fun y4 =>
 cnd y4
 (some 3)
 (cnd ((y2.toNat : Int) == 35)
 (bnd (st_IndexAny s [13, 10]) fun y6 =>
 cnd (decide (y6 ≥ 0))
 (some y6)
 (some (List.length s : Int)))
 (some 0)))))))
def to_gap_ds : Decs := { decs := [(6, (.int .u8)), (28, .bool), (33, (.int .i64))], ups := [], loops := [] }
set_option maxRecDepth 100000 in
theorem to_gap_t1 (O : Orc) (LP : LBody → LBody) (s : Str) : evalBodyD Tryd.prog (MT 27) to_gap_ds Tryd.f27.ntmps O LP Tryd.f27 [(.str s)] [] = to_gap_T1 O LP s := by kernel_rfl
theorem to_gap_imp (s : Str) : Imp (to_gap_B s) (to_gap_T1 O loopLim s) (fun r v => v = (to_gapE r, [])) := by
 simp only [to_gap_B, to_gap_T1]
 try simp only [evs, tys]
 refine Imp.op (f := fun a => .int .u8 (a.toNat : Int)) (fun a h => op_ixStr h) (fun a => rfl) fun y2 hy2 => ?_
 try simp only [evs, tys]
 refine Imp.cnd ?_ ?_
 ·exact Imp.some (by first | rfl | simp only [to_gapE, evs, tys, evl])
 ·refine Imp.cnd ?_ ?_
  ·exact Imp.some (by first | rfl | simp only [to_gapE, evs, tys, evl])
  ·refine Imp.cnd ?_ ?_
   ·exact Imp.some (by first | rfl | simp only [to_gapE, evs, tys, evl])
   ·refine Imp.cnd ?_ ?_
    ·exact Imp.some (by first | rfl | simp only [to_gapE, evs, tys, evl])
    ·refine Imp.cnd ?_ ?_
     ·exact Imp.some (by first | rfl | simp only [to_gapE, evs, tys, evl])
     ·refine Imp.call (f := st_HasPrefixE) rfl (fun a h => by first | exact st_HasPrefix_spec h | simpa only [evs, tys, evl] using st_HasPrefix_spec h) (fun a => by first | rfl | simp only [st_HasPrefixE, evk, chks]) fun y4 hy4 => ?_
      try simp only [st_HasPrefixE, evs, tys]
      refine Imp.cnd ?_ ?_
      ·exact Imp.some (by first | rfl | simp only [to_gapE, evs, tys, evl])
      ·refine Imp.cnd ?_ ?_
       ·refine Imp.call (f := st_IndexAnyE) rfl (fun a h => by first | exact st_IndexAny_spec h | simpa only [evs, tys, evl] using st_IndexAny_spec h) (fun a => by first | rfl | simp only [st_IndexAnyE, evk, chks]) fun y6 hy6 => ?_
        try simp only [st_IndexAnyE, evs, tys]
        refine Imp.cnd ?_ ?_
        ·exact Imp.some (by first | rfl | simp only [to_gapE, evs, tys, evl])
        ·exact Imp.some (by first | rfl | simp only [to_gapE, evs, tys, evl])
       ·exact Imp.some (by first | rfl | simp only [to_gapE, evs, tys, evl])
theorem to_gap_run {s : Str} {r : Int} (h : to_gap_B s = some r) : to_gap s = some r := by
 obtain ⟨v, hv, rfl⟩ := to_gap_imp s r h
 exact tO_of (pair_inj to_gapEj) (OL_runD to_gap_ds rfl rfl Tryd.func27 ((to_gap_t1 _ _ s).trans hv))
def tf_i2_T1 (O : Orc) (LP : LBody → LBody) (u1_10 : List Int) (u1_100 : List Int) (u1_1000 : Bool) : Option (PV × UP) :=
 callp O 17 [(.slice (List.map (PV.int .i64) u1_100) [] false)] fun x1 => cnd (chk (.tup [.str, .bool]) x1)
 (bnd (apdStr (.slice (List.map (PV.int .u8) u1_10) [] true) (.str (strV (gt (tupV x1) 0)))) fun x3 => cnd (chk (.sl true) x3)
 (cnd u1_1000
 (some ((.tuple []), [[], [(10, [(.slice (esV x3) [] true), (.slice [] [] true), (.bool (boolV (gt (tupV x1) 1)))])]]))
 (some ((.tuple []), [[], [(10, [(.slice (esV x3) [] true), (.slice [] [] true), (.bool false)])]]))) none) none
noncomputable def tf_i2_B (u1_10 : List Int) (u1_100 : List Int) (u1_1000 : Bool) : Option GTokenSaid :=
 bnd (ls_Join u1_100) fun y2 =>
 bnd (tapp u1_10 (intsT y2.1)) fun y4 =>
 cnd u1_1000
 (some (GTokenSaid.mk y4 ([] : List Int) y2.2))
 (some (GTokenSaid.mk y4 ([] : List Int) false))
def tf_i2_ds : Decs := { decs := [(9, (.tup [.str, .bool])), (20, (.sl true))], ups := [], loops := [] }
set_option maxRecDepth 100000 in
theorem tf_i2_t1 (O : Orc) (LP : LBody → LBody) (u1_10 : List Int) (u1_100 : List Int) (u1_1000 : Bool) : evalBodyD Tryd.prog (MT 86) tf_i2_ds Tryd.f86.ntmps O LP Tryd.f86 [(.ptr 2 10 0)] [[], [(10, [(.slice (List.map (PV.int .u8) u1_10) [] true), (.slice (List.map (PV.int .i64) u1_100) [] true), (.bool u1_1000)])]] = tf_i2_T1 O LP u1_10 u1_100 u1_1000 := by kernel_rfl
theorem tf_i2_imp (u1_10 : List Int) (u1_100 : List Int) (u1_1000 : Bool) : Imp (tf_i2_B u1_10 u1_100 u1_1000) (tf_i2_T1 O loopLim u1_10 u1_100 u1_1000) (fun r v => v = (tf_i2E r, (tf_i2U u1_10 u1_100 u1_1000 r))) := by
 simp only [tf_i2_B, tf_i2_T1]
 try simp only [evs, tys]
 refine Imp.call (f := ls_JoinE) rfl (fun a h => by first | exact ls_Join_spec h | simpa only [evs, tys, evl] using ls_Join_spec h) (fun a => by first | rfl | simp only [ls_JoinE, evk, chks]) fun y2 hy2 => ?_
 try simp only [ls_JoinE, evs, tys]
 refine Imp.op (f := fun a => .slice (List.map (PV.int .u8) a) [] true) (fun a h => op_apdStr (by first | rfl | simp only [evs, tys, evl]) h) (fun a => rfl) fun y4 hy4 => ?_
 try simp only [evs, tys]
 refine Imp.cnd ?_ ?_
 ·exact Imp.some (by first | rfl | simp only [tf_i2E, tf_i2U, evs, tys, evl])
 ·exact Imp.some (by first | rfl | simp only [tf_i2E, tf_i2U, evs, tys, evl])
theorem tf_i2_run {u1_10 : List Int} {u1_100 : List Int} {u1_1000 : Bool} {r : GTokenSaid} (h : tf_i2_B u1_10 u1_100 u1_1000 = some r) : tf_i2 u1_10 u1_100 u1_1000 = some r := by
 obtain ⟨v, hv, rfl⟩ := tf_i2_imp u1_10 u1_100 u1_1000 r h
 exact tO_of (fun a b h => tf_i2Ej u1_10 u1_100 u1_1000 a b h) (OL_runD tf_i2_ds rfl rfl Tryd.func86 ((tf_i2_t1 _ _ u1_10 u1_100 u1_1000).trans hv))
def te_i1_T1 (O : Orc) (LP : LBody → LBody) (s : Str) (u0_10 : List Int) (u0_100 : List Int) (u0_1000 : Bool) : Option (PV × UP) :=
 callp O 49 [(.str s), (.str [117])] fun x1 => cnd (chk .bool x1)
 (cnd (boolV x1)
 (bnd (slcLo 0 (.str s) (.int .i64 1)) fun x3 => cnd (chk .str x3)
 (callp O 100 [(.str (strV x3))] fun x5 => cnd (chk (.tup [(.int .i64), .bool]) x5)
 (cnd (!(boolV (gt (tupV x5) 1)))
 (some ((.int .i64 0), [[(10, [(.slice (List.map (PV.int .u8) u0_10) [] true), (.slice (List.map (PV.int .i64) u0_100) [] true), (.bool u0_1000)])]]))
 (bnd (apd 1 (.slice (List.map (PV.int .i64) u0_100) [] true) (.slice [(.int .i64 (intV (gt (tupV x5) 0)))] [] true)) fun x7 => cnd (chk (.sl true) x7)
 (some ((.int .i64 5), [[(10, [(.slice (List.map (PV.int .u8) u0_10) [] true), (.slice (esV x7) [] true), (.bool u0_1000)])]])) none)) none) none)
 (cnd (s == ([] : Str))
 (some ((.int .i64 0), [[(10, [(.slice (List.map (PV.int .u8) u0_10) [] true), (.slice (List.map (PV.int .i64) u0_100) [] true), (.bool u0_1000)])]]))
 (bnd (ixStr (.str s) (.int .i64 0)) fun x9 => cnd (chk (.int .u8) x9)
 (callp O 54 [(.str [34, 92, 47, 98, 102, 110, 114, 116]), (.int .u8 (intV x9))] fun x11 => cnd (chk (.int .i64) x11)
 (cnd (decide ((intV x11) < 0))
 (some ((.int .i64 0), [[(10, [(.slice (List.map (PV.int .u8) u0_10) [] true), (.slice (List.map (PV.int .i64) u0_100) [] true), (.bool u0_1000)])]]))
 (bnd (O 86 [(.ptr 2 10 0)] [[], [(10, [(.slice (List.map (PV.int .u8) u0_10) [] true), (.slice (List.map (PV.int .i64) u0_100) [] true), (.bool u0_1000)])]]) fun x13 => cnd (chkU [[], [(10, [(.sl true), (.sl true), .bool])]] x13.2) (cnd (chk (.tup []) x13.1)
 (bnd (ixStr (.str [34, 92, 47, 8, 12, 10, 13, 9]) (.int .i64 (intV x11))) fun x15 => cnd (chk (.int .u8) x15)
 (bnd (apd 1 (.slice (esV (gt (boxI (frI x13.2 1) 0) 0)) [] true) (.slice [(.int .u8 (intV x15))] [] true)) fun x17 => cnd (chk (.sl true) x17)
 (some ((.int .i64 1), [[(10, [(.slice (esV x17) [] true), (.slice (esV (gt (boxI (frI x13.2 1) 0) 1)) [] true), (.bool (boolV (gt (boxI (frI x13.2 1) 0) 2)))])]])) none) none) none) none)) none) none))) none
noncomputable def te_i1_B (s : Str) (u0_10 : List Int) (u0_100 : List Int) (u0_1000 : Bool) : Option (Int × GTokenSaid) :=
 bnd (st_HasPrefix s [117]) fun y2 =>
 cnd y2
 (bnd (tslc s 1 (List.length s)) fun y4 =>
 bnd (to_Unit y4) fun y6 =>
 cnd (!y6.2)
 (some (0, (GTokenSaid.mk u0_10 u0_100 u0_1000)))
 (bnd (tapp u0_100 [y6.1]) fun y8 =>
 some (5, (GTokenSaid.mk u0_10 y8 u0_1000))))
 (cnd (s == ([] : Str))
 (some (0, (GTokenSaid.mk u0_10 u0_100 u0_1000)))
 (bnd (nthI s 0) fun y10 =>
 bnd (st_IndexByte [34, 92, 47, 98, 102, 110, 114, 116] (y10.toNat : Int)) fun y12 =>
 cnd (decide (y12 < 0))
 (some (0, (GTokenSaid.mk u0_10 u0_100 u0_1000)))
 (bnd (tf_i2 u0_10 u0_100 u0_1000) fun y14 =>
 bnd (nthI ([34, 92, 47, 8, 12, 10, 13, 9] : Str) y12) fun y16 =>
 bnd (tapp y14.b [(y16.toNat : Int)]) fun y18 =>
 some (1, (GTokenSaid.mk y18 y14.units y14.ok)))))
def te_i1_ds : Decs := { decs := [(9, .bool), (12, .str), (13, (.tup [(.int .i64), .bool])), (25, (.sl true)), (31, (.int .u8)), (32, (.int .i64)), (36, (.tup [])), (43, (.int .u8)), (45, (.sl true))], ups := [(36, [[], [(10, [(.sl true), (.sl true), .bool])]])], loops := [] }
set_option maxRecDepth 100000 in
theorem te_i1_t1 (O : Orc) (LP : LBody → LBody) (s : Str) (u0_10 : List Int) (u0_100 : List Int) (u0_1000 : Bool) : evalBodyD Tryd.prog (MT 85) te_i1_ds Tryd.f85.ntmps O LP Tryd.f85 [(.ptr 1 10 0), (.str s)] [[(10, [(.slice (List.map (PV.int .u8) u0_10) [] true), (.slice (List.map (PV.int .i64) u0_100) [] true), (.bool u0_1000)])]] = te_i1_T1 O LP s u0_10 u0_100 u0_1000 := by kernel_rfl
theorem te_i1_imp (s : Str) (u0_10 : List Int) (u0_100 : List Int) (u0_1000 : Bool) : Imp (te_i1_B s u0_10 u0_100 u0_1000) (te_i1_T1 O loopLim s u0_10 u0_100 u0_1000) (fun r v => v = (te_i1E r, (te_i1U s u0_10 u0_100 u0_1000 r))) := by
 simp only [te_i1_B, te_i1_T1]
 try simp only [evs, tys]
 refine Imp.call (f := st_HasPrefixE) rfl (fun a h => by first | exact st_HasPrefix_spec h | simpa only [evs, tys, evl] using st_HasPrefix_spec h) (fun a => by first | rfl | simp only [st_HasPrefixE, evk, chks]) fun y2 hy2 => ?_
 try simp only [st_HasPrefixE, evs, tys]
 refine Imp.cnd ?_ ?_
 ·refine Imp.op (f := fun a => .str a) (fun a h => op_sslcLo h) (fun a => rfl) fun y4 hy4 => ?_
  try simp only [evs, tys]
  refine Imp.call (f := to_UnitE) rfl (fun a h => by first | exact to_Unit_spec h | simpa only [evs, tys, evl] using to_Unit_spec h) (fun a => by first | rfl | simp only [to_UnitE, evk, chks]) fun y6 hy6 => ?_
  try simp only [to_UnitE, evs, tys]
  refine Imp.cnd ?_ ?_
  ·exact Imp.some (by first | rfl | simp only [te_i1E, te_i1U, evs, tys, evl])
  ·refine Imp.op (f := fun a => .slice (List.map (PV.int .i64) a) [] true) (fun a h => op_apd (enc := (PV.int .i64)) (by first | rfl | simp only [evs, tys, evl]) (by first | rfl | simp only [evs, tys, evl]) (fun a => by first | rfl | simp only [evs, tys, evc]) h) (fun a => rfl) fun y8 hy8 => ?_
   try simp only [evs, tys]
   exact Imp.some (by first | rfl | simp only [te_i1E, te_i1U, evs, tys, evl])
 ·refine Imp.cnd ?_ ?_
  ·exact Imp.some (by first | rfl | simp only [te_i1E, te_i1U, evs, tys, evl])
  ·refine Imp.op (f := fun a => .int .u8 (a.toNat : Int)) (fun a h => op_ixStr h) (fun a => rfl) fun y10 hy10 => ?_
   try simp only [evs, tys]
   refine Imp.call (f := st_IndexByteE) rfl (fun a h => by first | exact st_IndexByte_spec h | simpa only [evs, tys, evl] using st_IndexByte_spec h) (fun a => by first | rfl | simp only [st_IndexByteE, evk, chks]) fun y12 hy12 => ?_
   try simp only [st_IndexByteE, evs, tys]
   refine Imp.cnd ?_ ?_
   ·exact Imp.some (by first | rfl | simp only [te_i1E, te_i1U, evs, tys, evl])
   ·refine Imp.gcall (f := tf_i2E) (fu := fun a => tf_i2U u0_10 u0_100 u0_1000 a) (fun a h => by first | exact tf_i2_spec h | (have h' := tf_i2_spec h; simp only [evs, tys, evl, tf_i2U] at h'; exact h')) (fun a => by first | rfl | simp only [tf_i2E, evk, chks]) (fun a => by first | rfl | (simp only [tf_i2U, evs, tys]; rfl)) fun y14 hy14 => ?_
    try simp only [tf_i2E, tf_i2U, evs, tys]
    refine Imp.op (f := fun a => .int .u8 (a.toNat : Int)) (fun a h => op_ixStr h) (fun a => rfl) fun y16 hy16 => ?_
    try simp only [evs, tys]
    refine Imp.op (f := fun a => .slice (List.map (PV.int .u8) a) [] true) (fun a h => op_apd (enc := (PV.int .u8)) (by first | rfl | simp only [evs, tys, evl]) (by first | rfl | simp only [evs, tys, evl]) (fun a => by first | rfl | simp only [evs, tys, evc]) h) (fun a => rfl) fun y18 hy18 => ?_
    try simp only [evs, tys]
    exact Imp.some (by first | rfl | simp only [te_i1E, te_i1U, evs, tys, evl])
theorem te_i1_run {s : Str} {u0_10 : List Int} {u0_100 : List Int} {u0_1000 : Bool} {r : Int × GTokenSaid} (h : te_i1_B s u0_10 u0_100 u0_1000 = some r) : te_i1 s u0_10 u0_100 u0_1000 = some r := by
 obtain ⟨v, hv, rfl⟩ := te_i1_imp s u0_10 u0_100 u0_1000 r h
 exact tO_of (fun a b h => te_i1Ej s u0_10 u0_100 u0_1000 a b h) (OL_runD te_i1_ds rfl rfl Tryd.func85 ((te_i1_t1 _ _ s u0_10 u0_100 u0_1000).trans hv))
def tf_i3_T1 (O : Orc) (LP : LBody → LBody) (u0_10 : List Int) (u0_100 : List Int) (u0_1000 : Bool) : Option (PV × UP) :=
 callp O 17 [(.slice (List.map (PV.int .i64) u0_100) [] false)] fun x1 => cnd (chk (.tup [.str, .bool]) x1)
 (bnd (apdStr (.slice (List.map (PV.int .u8) u0_10) [] true) (.str (strV (gt (tupV x1) 0)))) fun x3 => cnd (chk (.sl true) x3)
 (cnd u0_1000
 (some ((.tuple []), [[(10, [(.slice (esV x3) [] true), (.slice [] [] true), (.bool (boolV (gt (tupV x1) 1)))])]]))
 (some ((.tuple []), [[(10, [(.slice (esV x3) [] true), (.slice [] [] true), (.bool false)])]]))) none) none
noncomputable def tf_i3_B (u0_10 : List Int) (u0_100 : List Int) (u0_1000 : Bool) : Option GTokenSaid :=
 bnd (ls_Join u0_100) fun y2 =>
 bnd (tapp u0_10 (intsT y2.1)) fun y4 =>
 cnd u0_1000
 (some (GTokenSaid.mk y4 ([] : List Int) y2.2))
 (some (GTokenSaid.mk y4 ([] : List Int) false))
def tf_i3_ds : Decs := { decs := [(9, (.tup [.str, .bool])), (20, (.sl true))], ups := [], loops := [] }
set_option maxRecDepth 100000 in
theorem tf_i3_t1 (O : Orc) (LP : LBody → LBody) (u0_10 : List Int) (u0_100 : List Int) (u0_1000 : Bool) : evalBodyD Tryd.prog (MT 86) tf_i3_ds Tryd.f86.ntmps O LP Tryd.f86 [(.ptr 1 10 0)] [[(10, [(.slice (List.map (PV.int .u8) u0_10) [] true), (.slice (List.map (PV.int .i64) u0_100) [] true), (.bool u0_1000)])]] = tf_i3_T1 O LP u0_10 u0_100 u0_1000 := by kernel_rfl
theorem tf_i3_imp (u0_10 : List Int) (u0_100 : List Int) (u0_1000 : Bool) : Imp (tf_i3_B u0_10 u0_100 u0_1000) (tf_i3_T1 O loopLim u0_10 u0_100 u0_1000) (fun r v => v = (tf_i3E r, (tf_i3U u0_10 u0_100 u0_1000 r))) := by
 simp only [tf_i3_B, tf_i3_T1]
 try simp only [evs, tys]
 refine Imp.call (f := ls_JoinE) rfl (fun a h => by first | exact ls_Join_spec h | simpa only [evs, tys, evl] using ls_Join_spec h) (fun a => by first | rfl | simp only [ls_JoinE, evk, chks]) fun y2 hy2 => ?_
 try simp only [ls_JoinE, evs, tys]
 refine Imp.op (f := fun a => .slice (List.map (PV.int .u8) a) [] true) (fun a h => op_apdStr (by first | rfl | simp only [evs, tys, evl]) h) (fun a => rfl) fun y4 hy4 => ?_
 try simp only [evs, tys]
 refine Imp.cnd ?_ ?_
 ·exact Imp.some (by first | rfl | simp only [tf_i3E, tf_i3U, evs, tys, evl])
 ·exact Imp.some (by first | rfl | simp only [tf_i3E, tf_i3U, evs, tys, evl])
theorem tf_i3_run {u0_10 : List Int} {u0_100 : List Int} {u0_1000 : Bool} {r : GTokenSaid} (h : tf_i3_B u0_10 u0_100 u0_1000 = some r) : tf_i3 u0_10 u0_100 u0_1000 = some r := by
 obtain ⟨v, hv, rfl⟩ := tf_i3_imp u0_10 u0_100 u0_1000 r h
 exact tO_of (fun a b h => tf_i3Ej u0_10 u0_100 u0_1000 a b h) (OL_runD tf_i3_ds rfl rfl Tryd.func86 ((tf_i3_t1 _ _ u0_10 u0_100 u0_1000).trans hv))
def to_Quoted_l1 (O : Orc) (LP : LBody → LBody) : LBody := fun s1 s1u => cnd (chkL [.str, (.func 53 [] []), .str, (.int .i64), (.ptr 0 10 0), (.int .i64), (.sl true), (.sl true), .bool] s1) (cnd (chkU [] s1u)
 (cnd (decide ((intV (gt s1 5)) ≥ (List.length (strV (gt s1 0)) : Int)))
 (some (.ret, [(.str (strV (gt s1 0))), (.func (.func 53) [] []), (.str []), (.int .i64 0), (.ptr 0 10 0), (.int .i64 (intV (gt s1 5))), (.slice (esV (gt s1 6)) [] true), (.slice (esV (gt s1 7)) [] true), (.bool (boolV (gt s1 8)))], []))
 (bnd (ixStr (.str (strV (gt s1 0))) (.int .i64 (intV (gt s1 5)))) fun x24 => cnd (chk (.int .u8) x24)
 (cnd ((intV x24) == 34)
 (some (.brk 0, [(.str (strV (gt s1 0))), (.func (.func 53) [] []), (.str (strV (gt s1 2))), (.int .i64 (intV (gt s1 3))), (.ptr 0 10 0), (.int .i64 (intV (gt s1 5))), (.slice (esV (gt s1 6)) [] true), (.slice (esV (gt s1 7)) [] true), (.bool (boolV (gt s1 8)))], []))
 (bnd (ixStr (.str (strV (gt s1 0))) (.int .i64 (intV (gt s1 5)))) fun x26 => cnd (chk (.int .u8) x26)
 (cnd ((intV x26) == 92)
 (bnd (slcLo 0 (.str (strV (gt s1 0))) (.int .i64 (IntKind.wrap .i64 ((intV (gt s1 5)) + 1)))) fun x28 => cnd (chk .str x28)
 (bnd (O 85 [(.ptr 1 10 0), (.str (strV x28))] [[(10, [(.slice (esV (gt s1 6)) [] true), (.slice (esV (gt s1 7)) [] true), (.bool (boolV (gt s1 8)))])]]) fun x30 => cnd (chkU [[(10, [(.sl true), (.sl true), .bool])]] x30.2) (cnd (chk (.int .i64) x30.1)
 (cnd ((intV x30.1) == 0)
 (some (.ret, [(.str (strV (gt s1 0))), (.func (.func 53) [] []), (.str []), (.int .i64 0), (.ptr 0 10 0), (.int .i64 (intV (gt s1 5))), (.slice (esV (gt (boxI (frI x30.2 0) 0) 0)) [] true), (.slice (esV (gt (boxI (frI x30.2 0) 0) 1)) [] true), (.bool (boolV (gt (boxI (frI x30.2 0) 0) 2)))], []))
 (some (.nrm, [(.str (strV (gt s1 0))), (.func (.func 53) [] []), (.str (strV (gt s1 2))), (.int .i64 (intV (gt s1 3))), (.ptr 0 10 0), (.int .i64 (IntKind.wrap .i64 ((intV (gt s1 5)) + (IntKind.wrap .i64 (1 + (intV x30.1)))))), (.slice (esV (gt (boxI (frI x30.2 0) 0) 0)) [] true), (.slice (esV (gt (boxI (frI x30.2 0) 0) 1)) [] true), (.bool (boolV (gt (boxI (frI x30.2 0) 0) 2)))], []))) none) none) none)
 (bnd (ixStr (.str (strV (gt s1 0))) (.int .i64 (intV (gt s1 5)))) fun x32 => cnd (chk (.int .u8) x32)
 (callp O 53 [(.int .u8 (intV x32))] fun x34 => cnd (chk .bool x34)
 (cnd (!(boolV x34))
 (some (.ret, [(.str (strV (gt s1 0))), (.func (.func 53) [] []), (.str []), (.int .i64 0), (.ptr 0 10 0), (.int .i64 (intV (gt s1 5))), (.slice (esV (gt s1 6)) [] true), (.slice (esV (gt s1 7)) [] true), (.bool (boolV (gt s1 8)))], []))
 (bnd (O 86 [(.ptr 1 10 0)] [[(10, [(.slice (esV (gt s1 6)) [] true), (.slice (esV (gt s1 7)) [] true), (.bool (boolV (gt s1 8)))])]]) fun x36 => cnd (chkU [[(10, [(.sl true), (.sl true), .bool])]] x36.2) (cnd (chk (.tup []) x36.1)
 (bnd (ixStr (.str (strV (gt s1 0))) (.int .i64 (intV (gt s1 5)))) fun x38 => cnd (chk (.int .u8) x38)
 (bnd (apd 1 (.slice (esV (gt (boxI (frI x36.2 0) 0) 0)) [] true) (.slice [(.int .u8 (intV x38))] [] true)) fun x40 => cnd (chk (.sl true) x40)
 (some (.nrm, [(.str (strV (gt s1 0))), (.func (.func 53) [] []), (.str (strV (gt s1 2))), (.int .i64 (intV (gt s1 3))), (.ptr 0 10 0), (.int .i64 (IntKind.wrap .i64 ((intV (gt s1 5)) + 1))), (.slice (esV x40) [] true), (.slice (esV (gt (boxI (frI x36.2 0) 0) 1)) [] true), (.bool (boolV (gt (boxI (frI x36.2 0) 0) 2)))], [])) none) none) none) none)) none) none)) none)) none)) none) none
def to_Quoted_T1 (O : Orc) (LP : LBody → LBody) (s : Str) : Option (PV × UP) :=
 bnd (LP (to_Quoted_l1 O LP) [(.str s), (.func (.func 53) [] []), (.str []), (.int .i64 0), (.ptr 0 10 0), (.int .i64 1), (.slice [] [] true), (.slice [] [] true), (.bool true)] []) fun y50 =>
 exIs y50.1 none (cnd (chkL [.str, (.func 53 [] []), .str, (.int .i64), (.ptr 0 10 0), (.int .i64), (.sl true), (.sl true), .bool] y50.2.1) (cnd (chkU [] y50.2.2)
 (some ((.tuple [(.str (strV (gt y50.2.1 2))), (.int .i64 (intV (gt y50.2.1 3)))]), [])) none) none)
 (exIs y50.1 (some 0) (cnd (chkL [.str, (.func 53 [] []), .str, (.int .i64), (.ptr 0 10 0), (.int .i64), (.sl true), (.sl true), .bool] y50.2.1) (cnd (chkU [] y50.2.2)
 (bnd (O 86 [(.ptr 1 10 0)] [[(10, [(.slice (esV (gt y50.2.1 6)) [] true), (.slice (esV (gt y50.2.1 7)) [] true), (.bool (boolV (gt y50.2.1 8)))])]]) fun x51 => cnd (chkU [[(10, [(.sl true), (.sl true), .bool])]] x51.2) (cnd (chk (.tup []) x51.1)
 (cnd (!(boolV (gt (boxI (frI x51.2 0) 0) 2)))
 (some ((.tuple [(.str []), (.int .i64 0)]), []))
 (bnd (toStr (.slice (esV (gt (boxI (frI x51.2 0) 0) 0)) [] false)) fun x53 => cnd (chk .str x53)
 (some ((.tuple [(.str (strV x53)), (.int .i64 (IntKind.wrap .i64 ((intV (gt y50.2.1 5)) + 1)))]), [])) none)) none) none) none) none)
 (none))
noncomputable def to_Quoted_l1T (s : Str) : (Int × (List Int) × (List Int) × Bool) → Option ((Int × (List Int) × (List Int) × Bool) ⊕ (Unit ⊕ (Int × (List Int) × (List Int) × Bool)))
 | (i_20, b_21, b_22, b_23) =>
 cnd (decide (i_20 ≥ (List.length s : Int)))
  (some (.inr (.inl ())))
  (bnd (nthI s i_20) fun y25 =>
  cnd ((y25.toNat : Int) == 34)
  (some (.inr (.inr (i_20, b_21, b_22, b_23))))
  (bnd (nthI s i_20) fun y27 =>
  cnd ((y27.toNat : Int) == 92)
   (bnd (tslc s (IntKind.wrap .i64 (i_20 + 1)) (List.length s)) fun y29 =>
   bnd (te_i1 y29 b_21 b_22 b_23) fun y31 =>
   cnd (y31.1 == 0)
   (some (.inr (.inl ())))
   (some (.inl ((IntKind.wrap .i64 (i_20 + (IntKind.wrap .i64 (1 + y31.1)))), y31.2.b, y31.2.units, y31.2.ok))))
   (bnd (nthI s i_20) fun y33 =>
   bnd (to_plain (y33.toNat : Int)) fun y35 =>
   cnd (!y35)
   (some (.inr (.inl ())))
   (bnd (tf_i3 b_21 b_22 b_23) fun y37 =>
   bnd (nthI s i_20) fun y39 =>
   bnd (tapp y37.b [(y39.toNat : Int)]) fun y41 =>
   some (.inl ((IntKind.wrap .i64 (i_20 + 1)), y41, y37.units, y37.ok))))))
abbrev to_Quoted_l1R (s : Str) (st : Int × (List Int) × (List Int) × Bool) (l : List PV) (u : UP) : Prop := l = [(.str s), (.func (.func 53) [] []), (.str []), (.int .i64 0), (.ptr 0 10 0), (.int .i64 st.1), (.slice (List.map (PV.int .u8) st.2.1) [] true), (.slice (List.map (PV.int .i64) st.2.2.1) [] true), (.bool st.2.2.2)] ∧ u = []
abbrev to_Quoted_l1X (s : Str) (p : Unit ⊕ (Int × (List Int) × (List Int) × Bool)) (r : Ex × List PV × UP) : Prop := elim p (fun (p : Unit) => ∃ (i_42 : Int), ∃ (b_43 : List Int), ∃ (b_44 : List Int), ∃ (b_45 : Bool), r = (Ex.ret, [(.str s), (.func (.func 53) [] []), (.str []), (.int .i64 0), (.ptr 0 10 0), (.int .i64 i_42), (.slice (List.map (PV.int .u8) b_43) [] true), (.slice (List.map (PV.int .i64) b_44) [] true), (.bool b_45)], [])) (fun q2 => (fun (p : Int × (List Int) × (List Int) × Bool) => r = (Ex.brk 0, [(.str s), (.func (.func 53) [] []), (.str []), (.int .i64 0), (.ptr 0 10 0), (.int .i64 p.1), (.slice (List.map (PV.int .u8) p.2.1) [] true), (.slice (List.map (PV.int .i64) p.2.2.1) [] true), (.bool p.2.2.2)], [])) q2)
noncomputable def to_Quoted_B (s : Str) : Option (Str × Int) :=
 bnd (tloop (to_Quoted_l1T s) (1, [], [], true)) fun e50_2 => elim e50_2
 (fun p50 =>
 some ([], 0))
 (fun p50 =>
 bnd (tf_i3 p50.2.1 p50.2.2.1 p50.2.2.2) fun y52 =>
 cnd (!y52.ok)
 (some ([], 0))
 (bnd (some (bytesT y52.b)) fun y54 =>
 some (y54, (IntKind.wrap .i64 (p50.1 + 1)))))
def to_Quoted_ds : Decs := { decs := [(19, (.int .u8)), (24, (.int .u8)), (30, .str), (31, (.int .i64)), (42, (.int .u8)), (43, .bool), (46, (.tup [])), (54, (.int .u8)), (56, (.sl true)), (62, (.tup [])), (72, .str)], ups := [(31, [[(10, [(.sl true), (.sl true), .bool])]]), (46, [[(10, [(.sl true), (.sl true), .bool])]]), (62, [[(10, [(.sl true), (.sl true), .bool])]])], loops := [(3, [(10, 3)], ⟨[.str, (.func 53 [] []), .str, (.int .i64), (.ptr 0 10 0), (.int .i64), (.sl true), (.sl true), .bool], [], [(none, [.str, (.func 53 [] []), .str, (.int .i64), (.ptr 0 10 0), (.int .i64), (.sl true), (.sl true), .bool], []), (some 0, [.str, (.func 53 [] []), .str, (.int .i64), (.ptr 0 10 0), (.int .i64), (.sl true), (.sl true), .bool], [])]⟩)] }
set_option maxRecDepth 100000 in
theorem to_Quoted_t1 (O : Orc) (LP : LBody → LBody) (s : Str) : evalBodyD Tryd.prog (MT 52) to_Quoted_ds Tryd.f52.ntmps O LP Tryd.f52 [(.str s), (.func (.func 53) [] [])] [] = to_Quoted_T1 O LP s := by kernel_rfl
theorem to_Quoted_l1_ok (s : Str) : ∀ st l u, to_Quoted_l1R s st l u → Imp (to_Quoted_l1T s st) (to_Quoted_l1 O loopLim l u) (StepR (to_Quoted_l1R s) (to_Quoted_l1X s)) := by
 rintro ⟨i_20, b_21, b_22, b_23⟩ l u ⟨rfl, rfl⟩
 simp only [to_Quoted_l1T, to_Quoted_l1]
 refine Imp.chk rfl (Imp.chk rfl ?_)
 try simp only [evs, tys]
 refine Imp.cnd ?_ ?_
 ·exact Imp.some (StepR.ret ⟨i_20, b_21, b_22, b_23, by first | rfl | simp only [evs, tys, evl, elim_inl, elim_inr]⟩)
 ·refine Imp.op (f := fun a => .int .u8 (a.toNat : Int)) (fun a h => op_ixStr h) (fun a => rfl) fun y25 hy25 => ?_
  try simp only [evs, tys]
  refine Imp.cnd ?_ ?_
  ·exact Imp.some (StepR.brk (by first | rfl | simp only [evs, tys, evl, elim_inl, elim_inr]))
  ·refine Imp.op (f := fun a => .int .u8 (a.toNat : Int)) (fun a h => op_ixStr h) (fun a => rfl) fun y27 hy27 => ?_
   try simp only [evs, tys]
   refine Imp.cnd ?_ ?_
   ·refine Imp.op (f := fun a => .str a) (fun a h => op_sslcLo h) (fun a => rfl) fun y29 hy29 => ?_
    try simp only [evs, tys]
    refine Imp.gcall (f := te_i1E) (fu := fun a => te_i1U y29 b_21 b_22 b_23 a) (fun a h => by first | exact te_i1_spec h | (have h' := te_i1_spec h; simp only [evs, tys, evl, te_i1U] at h'; exact h')) (fun a => by first | rfl | simp only [te_i1E, evk, chks]) (fun a => by first | rfl | (simp only [te_i1U, evs, tys]; rfl)) fun y31 hy31 => ?_
    try simp only [te_i1E, te_i1U, evs, tys]
    refine Imp.cnd ?_ ?_
    ·exact Imp.some (StepR.ret ⟨i_20, y31.2.b, y31.2.units, y31.2.ok, by first | rfl | simp only [evs, tys, evl, elim_inl, elim_inr]⟩)
    ·exact Imp.some (StepR.next ⟨by first | rfl | simp only [evs, tys, evl], rfl⟩)
   ·refine Imp.op (f := fun a => .int .u8 (a.toNat : Int)) (fun a h => op_ixStr h) (fun a => rfl) fun y33 hy33 => ?_
    try simp only [evs, tys]
    refine Imp.call (f := to_plainE) rfl (fun a h => by first | exact to_plain_spec h | simpa only [evs, tys, evl] using to_plain_spec h) (fun a => by first | rfl | simp only [to_plainE, evk, chks]) fun y35 hy35 => ?_
    try simp only [to_plainE, evs, tys]
    refine Imp.cnd ?_ ?_
    ·exact Imp.some (StepR.ret ⟨i_20, b_21, b_22, b_23, by first | rfl | simp only [evs, tys, evl, elim_inl, elim_inr]⟩)
    ·refine Imp.gcall (f := tf_i3E) (fu := fun a => tf_i3U b_21 b_22 b_23 a) (fun a h => by first | exact tf_i3_spec h | (have h' := tf_i3_spec h; simp only [evs, tys, evl, tf_i3U] at h'; exact h')) (fun a => by first | rfl | simp only [tf_i3E, evk, chks]) (fun a => by first | rfl | (simp only [tf_i3U, evs, tys]; rfl)) fun y37 hy37 => ?_
     try simp only [tf_i3E, tf_i3U, evs, tys]
     refine Imp.op (f := fun a => .int .u8 (a.toNat : Int)) (fun a h => op_ixStr h) (fun a => rfl) fun y39 hy39 => ?_
     try simp only [evs, tys]
     refine Imp.op (f := fun a => .slice (List.map (PV.int .u8) a) [] true) (fun a h => op_apd (enc := (PV.int .u8)) (by first | rfl | simp only [evs, tys, evl]) (by first | rfl | simp only [evs, tys, evl]) (fun a => by first | rfl | simp only [evs, tys, evc]) h) (fun a => rfl) fun y41 hy41 => ?_
     try simp only [evs, tys]
     exact Imp.some (StepR.next ⟨by first | rfl | simp only [evs, tys, evl], rfl⟩)
theorem to_Quoted_imp (s : Str) : Imp (to_Quoted_B s) (to_Quoted_T1 O loopLim s) (fun r v => v = (to_QuotedE r, [])) := by
 simp only [to_Quoted_B, to_Quoted_T1]
 try simp only [evs, tys]
 refine Imp.bnd (Imp.loop (to_Quoted_l1_ok s) ⟨by first | rfl | simp only [evs, tys, evl], rfl⟩) ?_
 rintro (p | ⟨i_46, b_47, b_48, b_49⟩) vy50 hy50
 ·try simp only [elim_inl, elim_inr]
  obtain ⟨i_42, b_43, b_44, b_45, rfl⟩ := hy50
  refine Imp.exHit rfl (Imp.chk rfl (Imp.chk rfl ?_))
  try simp only [evs, tys]
  exact Imp.some (by first | rfl | simp only [to_QuotedE, evs, tys, evl])
 ·try simp only [elim_inl, elim_inr]
  cases hy50
  refine Imp.exMiss rfl ?_
  refine Imp.exHit rfl (Imp.chk rfl (Imp.chk rfl ?_))
  try simp only [evs, tys]
  refine Imp.gcall (f := tf_i3E) (fu := fun a => tf_i3U b_47 b_48 b_49 a) (fun a h => by first | exact tf_i3_spec h | (have h' := tf_i3_spec h; simp only [evs, tys, evl, tf_i3U] at h'; exact h')) (fun a => by first | rfl | simp only [tf_i3E, evk, chks]) (fun a => by first | rfl | (simp only [tf_i3U, evs, tys]; rfl)) fun y52 hy52 => ?_
  try simp only [tf_i3E, tf_i3U, evs, tys]
  refine Imp.cnd ?_ ?_
  ·exact Imp.some (by first | rfl | simp only [to_QuotedE, evs, tys, evl])
  ·refine Imp.op (f := fun a => .str a) (fun a h => op_toStr (by first | rfl | simp only [evs, tys, evl]) h) (fun a => rfl) fun y54 hy54 => ?_
   try simp only [evs, tys]
   exact Imp.some (by first | rfl | simp only [to_QuotedE, evs, tys, evl])
theorem to_Quoted_run {s : Str} {r : Str × Int} (h : to_Quoted_B s = some r) : to_Quoted s = some r := by
 obtain ⟨v, hv, rfl⟩ := to_Quoted_imp s r h
 exact tO_of (pair_inj to_QuotedEj) (OL_runD to_Quoted_ds rfl rfl Tryd.func52 ((to_Quoted_t1 _ _ s).trans hv))
def to_one_T1 (O : Orc) (LP : LBody → LBody) (s : Str) : Option (PV × UP) :=
 bnd (ixStr (.str s) (.int .i64 0)) fun x1 => cnd (chk (.int .u8) x1)
 (callp O 49 [(.str s), (.str [34, 34, 34])] fun x3 => cnd (chk .bool x3)
 (cnd (boolV x3)
 (callp O 51 [(.str s)] fun x5 => cnd (chk (.tup [.str, (.int .i64)]) x5)
 (some ((.tuple [(.agg [(.int .i64 5), (.str (strV (gt (tupV x5) 0)))]), (.int .i64 (intV (gt (tupV x5) 1)))]), [])) none)
 (cnd ((intV x1) == 34)
 (callp O 52 [(.str s), (.func (.func 53) [] [])] fun x7 => cnd (chk (.tup [.str, (.int .i64)]) x7)
 (some ((.tuple [(.agg [(.int .i64 5), (.str (strV (gt (tupV x7) 0)))]), (.int .i64 (intV (gt (tupV x7) 1)))]), [])) none)
 (callp O 49 [(.str s), (.str [46, 46, 46])] fun x9 => cnd (chk .bool x9)
 (cnd (boolV x9)
 (some ((.tuple [(.agg [(.int .i64 1), (.str [46, 46, 46])]), (.int .i64 3)]), []))
 (callp O 54 [(.str [33, 36, 38, 40, 41, 58, 61, 64, 91, 93, 123, 124, 125]), (.int .u8 (intV x1))] fun x11 => cnd (chk (.int .i64) x11)
 (cnd (decide ((intV x11) ≥ 0))
 (bnd (slcHi 0 (.str s) (.int .i64 1)) fun x13 => cnd (chk .str x13)
 (some ((.tuple [(.agg [(.int .i64 1), (.str (strV x13))]), (.int .i64 1)]), [])) none)
 (callp O 55 [(.int .u8 (intV x1))] fun x15 => cnd (chk .bool x15)
 (cnd (boolV x15)
 (callp O 56 [(.str s)] fun x17 => cnd (chk (.int .i64) x17)
 (bnd (slcHi 0 (.str s) (.int .i64 (intV x17))) fun x19 => cnd (chk .str x19)
 (some ((.tuple [(.agg [(.int .i64 2), (.str (strV x19))]), (.int .i64 (intV x17))]), [])) none) none)
 (callp O 32 [(.str s)] fun x21 => cnd (chk (.tup [(.int .i64), (.int .i64)]) x21)
 (cnd (decide ((intV (gt (tupV x21) 0)) < (List.length s : Int)))
 (bnd (ixStr (.str s) (.int .i64 (intV (gt (tupV x21) 0)))) fun x23 => cnd (chk (.int .u8) x23)
 (callp O 55 [(.int .u8 (intV x23))] fun x25 => cnd (chk .bool x25)
 (cnd (boolV x25)
 (some ((.tuple [(.agg [(.int .i64 0), (.str [])]), (.int .i64 0)]), []))
 (bnd (ixStr (.str s) (.int .i64 (intV (gt (tupV x21) 0)))) fun x27 => cnd (chk (.int .u8) x27)
 (callp O 57 [(.int .u8 (intV x27))] fun x29 => cnd (chk .bool x29)
 (cnd (boolV x29)
 (some ((.tuple [(.agg [(.int .i64 0), (.str [])]), (.int .i64 0)]), []))
 (bnd (ixStr (.str s) (.int .i64 (intV (gt (tupV x21) 0)))) fun x31 => cnd (chk (.int .u8) x31)
 (cnd ((intV x31) == 46)
 (some ((.tuple [(.agg [(.int .i64 0), (.str [])]), (.int .i64 0)]), []))
 (bnd (slcHi 0 (.str s) (.int .i64 (intV (gt (tupV x21) 0)))) fun x33 => cnd (chk .str x33)
 (some ((.tuple [(.agg [(.int .i64 (intV (gt (tupV x21) 1))), (.str (strV x33))]), (.int .i64 (intV (gt (tupV x21) 0)))]), [])) none)) none)) none) none)) none) none)
 (bnd (slcHi 0 (.str s) (.int .i64 (intV (gt (tupV x21) 0)))) fun x35 => cnd (chk .str x35)
 (some ((.tuple [(.agg [(.int .i64 (intV (gt (tupV x21) 1))), (.str (strV x35))]), (.int .i64 (intV (gt (tupV x21) 0)))]), [])) none)) none)) none)) none)) none))) none) none
noncomputable def to_one_B (s : Str) : Option (GToken × Int) :=
 bnd (nthI s 0) fun y2 =>
 bnd (st_HasPrefix s [34, 34, 34]) fun y4 =>
 cnd y4
 (bnd (to_blocked s) fun y6 =>
 some ((GToken.mk 5 y6.1), y6.2))
 (cnd ((y2.toNat : Int) == 34)
 (bnd (to_Quoted s) fun y8 =>
 some ((GToken.mk 5 y8.1), y8.2))
 (bnd (st_HasPrefix s [46, 46, 46]) fun y10 =>
 cnd y10
 (some ((GToken.mk 1 [46, 46, 46]), 3))
 (bnd (st_IndexByte [33, 36, 38, 40, 41, 58, 61, 64, 91, 93, 123, 124, 125] (y2.toNat : Int)) fun y12 =>
 cnd (decide (y12 ≥ 0))
 (bnd (tslc s 0 1) fun y14 =>
 some ((GToken.mk 1 y14), 1))
 (bnd (ls_Letter (y2.toNat : Int)) fun y16 =>
 cnd y16
 (bnd (to_word s) fun y18 =>
 bnd (tslc s 0 y18) fun y20 =>
 some ((GToken.mk 2 y20), y18))
 (bnd (to_number s) fun y22 =>
 cnd (decide (y22.1 < (List.length s : Int)))
 (bnd (nthI s y22.1) fun y24 =>
 bnd (ls_Letter (y24.toNat : Int)) fun y26 =>
 cnd y26
 (some ((GToken.mk 0 []), 0))
 (bnd (nthI s y22.1) fun y28 =>
 bnd (ls_Digit (y28.toNat : Int)) fun y30 =>
 cnd y30
 (some ((GToken.mk 0 []), 0))
 (bnd (nthI s y22.1) fun y32 =>
 cnd ((y32.toNat : Int) == 46)
 (some ((GToken.mk 0 []), 0))
 (bnd (tslc s 0 y22.1) fun y34 =>
 some ((GToken.mk y22.2 y34), y22.1)))))
 (bnd (tslc s 0 y22.1) fun y36 =>
 some ((GToken.mk y22.2 y36), y22.1)))))))
def to_one_ds : Decs := { decs := [(13, (.int .u8)), (16, .bool), (19, (.tup [.str, (.int .i64)])), (30, (.tup [.str, (.int .i64)])), (38, .bool), (42, (.int .i64)), (45, .str), (49, .bool), (51, (.int .i64)), (54, .str), (59, (.tup [(.int .i64), (.int .i64)])), (69, (.int .u8)), (70, .bool), (74, (.int .u8)), (75, .bool), (80, (.int .u8)), (88, .str)], ups := [], loops := [] }
set_option maxRecDepth 100000 in
theorem to_one_t1 (O : Orc) (LP : LBody → LBody) (s : Str) : evalBodyD Tryd.prog (MT 28) to_one_ds Tryd.f28.ntmps O LP Tryd.f28 [(.str s)] [] = to_one_T1 O LP s := by kernel_rfl
theorem to_one_imp (s : Str) : Imp (to_one_B s) (to_one_T1 O loopLim s) (fun r v => v = (to_oneE r, [])) := by
 simp only [to_one_B, to_one_T1]
 try simp only [evs, tys]
 refine Imp.op (f := fun a => .int .u8 (a.toNat : Int)) (fun a h => op_ixStr h) (fun a => rfl) fun y2 hy2 => ?_
 try simp only [evs, tys]
 refine Imp.call (f := st_HasPrefixE) rfl (fun a h => by first | exact st_HasPrefix_spec h | simpa only [evs, tys, evl] using st_HasPrefix_spec h) (fun a => by first | rfl | simp only [st_HasPrefixE, evk, chks]) fun y4 hy4 => ?_
 try simp only [st_HasPrefixE, evs, tys]
 refine Imp.cnd ?_ ?_
 ·refine Imp.call (f := to_blockedE) rfl (fun a h => by first | exact to_blocked_spec h | simpa only [evs, tys, evl] using to_blocked_spec h) (fun a => by first | rfl | simp only [to_blockedE, evk, chks]) fun y6 hy6 => ?_
  try simp only [to_blockedE, evs, tys]
  exact Imp.some (by first | rfl | simp only [to_oneE, evs, tys, evl])
 ·refine Imp.cnd ?_ ?_
  ·refine Imp.call (f := to_QuotedE) rfl (fun a h => by first | exact to_Quoted_spec h | simpa only [evs, tys, evl] using to_Quoted_spec h) (fun a => by first | rfl | simp only [to_QuotedE, evk, chks]) fun y8 hy8 => ?_
   try simp only [to_QuotedE, evs, tys]
   exact Imp.some (by first | rfl | simp only [to_oneE, evs, tys, evl])
  ·refine Imp.call (f := st_HasPrefixE) rfl (fun a h => by first | exact st_HasPrefix_spec h | simpa only [evs, tys, evl] using st_HasPrefix_spec h) (fun a => by first | rfl | simp only [st_HasPrefixE, evk, chks]) fun y10 hy10 => ?_
   try simp only [st_HasPrefixE, evs, tys]
   refine Imp.cnd ?_ ?_
   ·exact Imp.some (by first | rfl | simp only [to_oneE, evs, tys, evl])
   ·refine Imp.call (f := st_IndexByteE) rfl (fun a h => by first | exact st_IndexByte_spec h | simpa only [evs, tys, evl] using st_IndexByte_spec h) (fun a => by first | rfl | simp only [st_IndexByteE, evk, chks]) fun y12 hy12 => ?_
    try simp only [st_IndexByteE, evs, tys]
    refine Imp.cnd ?_ ?_
    ·refine Imp.op (f := fun a => .str a) (fun a h => op_sslcHi h) (fun a => rfl) fun y14 hy14 => ?_
     try simp only [evs, tys]
     exact Imp.some (by first | rfl | simp only [to_oneE, evs, tys, evl])
    ·refine Imp.call (f := ls_LetterE) rfl (fun a h => by first | exact ls_Letter_spec h | simpa only [evs, tys, evl] using ls_Letter_spec h) (fun a => by first | rfl | simp only [ls_LetterE, evk, chks]) fun y16 hy16 => ?_
     try simp only [ls_LetterE, evs, tys]
     refine Imp.cnd ?_ ?_
     ·refine Imp.call (f := to_wordE) rfl (fun a h => by first | exact to_word_spec h | simpa only [evs, tys, evl] using to_word_spec h) (fun a => by first | rfl | simp only [to_wordE, evk, chks]) fun y18 hy18 => ?_
      try simp only [to_wordE, evs, tys]
      refine Imp.op (f := fun a => .str a) (fun a h => op_sslcHi h) (fun a => rfl) fun y20 hy20 => ?_
      try simp only [evs, tys]
      exact Imp.some (by first | rfl | simp only [to_oneE, evs, tys, evl])
     ·refine Imp.call (f := to_numberE) rfl (fun a h => by first | exact to_number_spec h | simpa only [evs, tys, evl] using to_number_spec h) (fun a => by first | rfl | simp only [to_numberE, evk, chks]) fun y22 hy22 => ?_
      try simp only [to_numberE, evs, tys]
      refine Imp.cnd ?_ ?_
      ·refine Imp.op (f := fun a => .int .u8 (a.toNat : Int)) (fun a h => op_ixStr h) (fun a => rfl) fun y24 hy24 => ?_
       try simp only [evs, tys]
       refine Imp.call (f := ls_LetterE) rfl (fun a h => by first | exact ls_Letter_spec h | simpa only [evs, tys, evl] using ls_Letter_spec h) (fun a => by first | rfl | simp only [ls_LetterE, evk, chks]) fun y26 hy26 => ?_
       try simp only [ls_LetterE, evs, tys]
       refine Imp.cnd ?_ ?_
       ·exact Imp.some (by first | rfl | simp only [to_oneE, evs, tys, evl])
       ·refine Imp.op (f := fun a => .int .u8 (a.toNat : Int)) (fun a h => op_ixStr h) (fun a => rfl) fun y28 hy28 => ?_
        try simp only [evs, tys]
        refine Imp.call (f := ls_DigitE) rfl (fun a h => by first | exact ls_Digit_spec h | simpa only [evs, tys, evl] using ls_Digit_spec h) (fun a => by first | rfl | simp only [ls_DigitE, evk, chks]) fun y30 hy30 => ?_
        try simp only [ls_DigitE, evs, tys]
        refine Imp.cnd ?_ ?_
        ·exact Imp.some (by first | rfl | simp only [to_oneE, evs, tys, evl])
        ·refine Imp.op (f := fun a => .int .u8 (a.toNat : Int)) (fun a h => op_ixStr h) (fun a => rfl) fun y32 hy32 => ?_
         try simp only [evs, tys]
         refine Imp.cnd ?_ ?_
         ·exact Imp.some (by first | rfl | simp only [to_oneE, evs, tys, evl])
         ·refine Imp.op (f := fun a => .str a) (fun a h => op_sslcHi h) (fun a => rfl) fun y34 hy34 => ?_
          try simp only [evs, tys]
          exact Imp.some (by first | rfl | simp only [to_oneE, evs, tys, evl])
      ·refine Imp.op (f := fun a => .str a) (fun a h => op_sslcHi h) (fun a => rfl) fun y36 hy36 => ?_
       try simp only [evs, tys]
       exact Imp.some (by first | rfl | simp only [to_oneE, evs, tys, evl])
theorem to_one_run {s : Str} {r : GToken × Int} (h : to_one_B s = some r) : to_one s = some r := by
 obtain ⟨v, hv, rfl⟩ := to_one_imp s r h
 exact tO_of (pair_inj to_oneEj) (OL_runD to_one_ds rfl rfl Tryd.func28 ((to_one_t1 _ _ s).trans hv))
def to_number_T1 (O : Orc) (LP : LBody → LBody) (s : Str) : Option (PV × UP) :=
 callp O 64 [(.str s)] fun x1 => cnd (chk (.int .i64) x1)
 (cnd ((intV x1) == 0)
 (some ((.tuple [(.int .i64 0), (.int .i64 0)]), []))
 (jn (fun (n_13 : Int) (kind_14 : Int) (t_15 : Bool) =>
 (bnd (slcLo 0 (.str s) (.int .i64 n_13)) fun x16 => cnd (chk .str x16)
 (callp O 66 [(.str (strV x16))] fun x18 => cnd (chk (.int .i64) x18)
 (cnd (decide ((intV x18) > 0))
 (some ((.tuple [(.int .i64 (IntKind.wrap .i64 (n_13 + (intV x18)))), (.int .i64 4)]), []))
 (some ((.tuple [(.int .i64 n_13), (.int .i64 kind_14)]), []))) none) none)) fun k4 =>
 bnd (slcLo 0 (.str s) (.int .i64 (intV x1))) fun x5 => cnd (chk .str x5)
 (callp O 49 [(.str (strV x5)), (.str [46])] fun x7 => cnd (chk .bool x7)
 (cnd (boolV x7)
 (bnd (slcLo 0 (.str s) (.int .i64 (IntKind.wrap .i64 ((intV x1) + 1)))) fun x9 => cnd (chk .str x9)
 (callp O 65 [(.str (strV x9))] fun x11 => cnd (chk (.int .i64) x11)
 (cnd (decide ((intV x11) > 0))
 (k4 (IntKind.wrap .i64 ((IntKind.wrap .i64 ((intV x1) + 1)) + (intV x11))) 4 true)
 (k4 (intV x1) 3 true)) none) none)
 (k4 (intV x1) 3 false)) none) none)) none
noncomputable def to_number_B (s : Str) : Option (Int × Int) :=
 bnd (to_whole s) fun y2 =>
 cnd (y2 == 0)
 (some (0, 0))
 (jn (fun (n_13 : Int) (kind_14 : Int) (t_15 : Bool) =>
 (bnd (tslc s n_13 (List.length s)) fun y17 =>
 bnd (to_power y17) fun y19 =>
 cnd (decide (y19 > 0))
 (some ((IntKind.wrap .i64 (n_13 + y19)), 4))
 (some (n_13, kind_14)))) fun k4 =>
 bnd (tslc s y2 (List.length s)) fun y6 =>
 bnd (st_HasPrefix y6 [46]) fun y8 =>
 cnd y8
 (bnd (tslc s (IntKind.wrap .i64 (y2 + 1)) (List.length s)) fun y10 =>
 bnd (to_digits y10) fun y12 =>
 cnd (decide (y12 > 0))
 (k4 (IntKind.wrap .i64 ((IntKind.wrap .i64 (y2 + 1)) + y12)) 4 true)
 (k4 y2 3 true))
 (k4 y2 3 false))
def to_number_ds : Decs := { decs := [(9, (.int .i64)), (14, .str), (15, .bool), (19, .str), (20, (.int .i64)), (29, .str), (30, (.int .i64))], ups := [], loops := [] }
set_option maxRecDepth 100000 in
theorem to_number_t1 (O : Orc) (LP : LBody → LBody) (s : Str) : evalBodyD Tryd.prog (MT 32) to_number_ds Tryd.f32.ntmps O LP Tryd.f32 [(.str s)] [] = to_number_T1 O LP s := by kernel_rfl
theorem to_number_imp (s : Str) : Imp (to_number_B s) (to_number_T1 O loopLim s) (fun r v => v = (to_numberE r, [])) := by
 simp only [to_number_B, to_number_T1]
 try simp only [evs, tys]
 refine Imp.call (f := to_wholeE) rfl (fun a h => by first | exact to_whole_spec h | simpa only [evs, tys, evl] using to_whole_spec h) (fun a => by first | rfl | simp only [to_wholeE, evk, chks]) fun y2 hy2 => ?_
 try simp only [to_wholeE, evs, tys]
 refine Imp.cnd ?_ ?_
 ·exact Imp.some (by first | rfl | simp only [to_numberE, evs, tys, evl])
 ·refine Imp.jn (fun I k2 k1 => ∀ (n_13 : Int) (kind_14 : Int) (t_15 : Bool), I (k2 n_13 kind_14 t_15) (k1 n_13 kind_14 t_15)) (fun n_13 kind_14 t_15 => ?_) fun k4 k4t hk4 => ?_
  ·dsimp only
   try simp only [evs, tys]
   refine Imp.op (f := fun a => .str a) (fun a h => op_sslcLo h) (fun a => rfl) fun y17 hy17 => ?_
   try simp only [evs, tys]
   refine Imp.call (f := to_powerE) rfl (fun a h => by first | exact to_power_spec h | simpa only [evs, tys, evl] using to_power_spec h) (fun a => by first | rfl | simp only [to_powerE, evk, chks]) fun y19 hy19 => ?_
   try simp only [to_powerE, evs, tys]
   refine Imp.cnd ?_ ?_
   ·exact Imp.some (by first | rfl | simp only [to_numberE, evs, tys, evl])
   ·exact Imp.some (by first | rfl | simp only [to_numberE, evs, tys, evl])
  refine Imp.op (f := fun a => .str a) (fun a h => op_sslcLo h) (fun a => rfl) fun y6 hy6 => ?_
  try simp only [evs, tys]
  refine Imp.call (f := st_HasPrefixE) rfl (fun a h => by first | exact st_HasPrefix_spec h | simpa only [evs, tys, evl] using st_HasPrefix_spec h) (fun a => by first | rfl | simp only [st_HasPrefixE, evk, chks]) fun y8 hy8 => ?_
  try simp only [st_HasPrefixE, evs, tys]
  refine Imp.cnd ?_ ?_
  ·refine Imp.op (f := fun a => .str a) (fun a h => op_sslcLo h) (fun a => rfl) fun y10 hy10 => ?_
   try simp only [evs, tys]
   refine Imp.call (f := to_digitsE) rfl (fun a h => by first | exact to_digits_spec h | simpa only [evs, tys, evl] using to_digits_spec h) (fun a => by first | rfl | simp only [to_digitsE, evk, chks]) fun y12 hy12 => ?_
   try simp only [to_digitsE, evs, tys]
   refine Imp.cnd ?_ ?_
   ·first | exact hk4 _ _ _ | simpa only [evs, tys, evl] using hk4 _ _ _
   ·first | exact hk4 _ _ _ | simpa only [evs, tys, evl] using hk4 _ _ _
  ·first | exact hk4 _ _ _ | simpa only [evs, tys, evl] using hk4 _ _ _
theorem to_number_run {s : Str} {r : Int × Int} (h : to_number_B s = some r) : to_number s = some r := by
 obtain ⟨v, hv, rfl⟩ := to_number_imp s r h
 exact tO_of (pair_inj to_numberEj) (OL_runD to_number_ds rfl rfl Tryd.func32 ((to_number_t1 _ _ s).trans hv))
def ls_Code_T1 (O : Orc) (LP : LBody → LBody) (s : Str) (i : Int) : Option (PV × UP) :=
 cnd (decide (i < 0))
 (some ((.tuple [(.int .i64 0), (.int .i64 0)]), []))
 (cnd (decide (i ≥ (List.length s : Int)))
 (some ((.tuple [(.int .i64 0), (.int .i64 0)]), []))
 (bnd (slcLo 0 (.str s) (.int .i64 i)) fun x1 => cnd (chk .str x1)
 (callp O 69 [(.str (strV x1))] fun x3 => cnd (chk (.tup [(.int .i32), (.int .i64)]) x3)
 (cnd ((intV (gt (tupV x3) 0)) == 65533)
 (cnd (decide ((intV (gt (tupV x3) 1)) < 2))
 (some ((.tuple [(.int .i64 0), (.int .i64 0)]), []))
 (some ((.tuple [(.int .i64 (IntKind.wrap .i64 (intV (gt (tupV x3) 0)))), (.int .i64 (intV (gt (tupV x3) 1)))]), [])))
 (some ((.tuple [(.int .i64 (IntKind.wrap .i64 (intV (gt (tupV x3) 0)))), (.int .i64 (intV (gt (tupV x3) 1)))]), []))) none) none))
noncomputable def ls_Code_B (s : Str) (i : Int) : Option (Int × Int) :=
 cnd (decide (i < 0))
 (some (0, 0))
 (cnd (decide (i ≥ (List.length s : Int)))
 (some (0, 0))
 (bnd (tslc s i (List.length s)) fun y2 =>
 bnd (uf_DecodeRuneInString y2) fun y4 =>
 cnd (y4.1 == 65533)
 (cnd (decide (y4.2 < 2))
 (some (0, 0))
 (some ((IntKind.wrap .i64 y4.1), y4.2)))
 (some ((IntKind.wrap .i64 y4.1), y4.2))))
def ls_Code_ds : Decs := { decs := [(19, .str), (20, (.tup [(.int .i32), (.int .i64)]))], ups := [], loops := [] }
set_option maxRecDepth 100000 in
theorem ls_Code_t1 (O : Orc) (LP : LBody → LBody) (s : Str) (i : Int) : evalBodyD Tryd.prog (MT 35) ls_Code_ds Tryd.f35.ntmps O LP Tryd.f35 [(.str s), (.int .i64 i)] [] = ls_Code_T1 O LP s i := by kernel_rfl
theorem ls_Code_imp (s : Str) (i : Int) : Imp (ls_Code_B s i) (ls_Code_T1 O loopLim s i) (fun r v => v = (ls_CodeE r, [])) := by
 simp only [ls_Code_B, ls_Code_T1]
 try simp only [evs, tys]
 refine Imp.cnd ?_ ?_
 ·exact Imp.some (by first | rfl | simp only [ls_CodeE, evs, tys, evl])
 ·refine Imp.cnd ?_ ?_
  ·exact Imp.some (by first | rfl | simp only [ls_CodeE, evs, tys, evl])
  ·refine Imp.op (f := fun a => .str a) (fun a h => op_sslcLo h) (fun a => rfl) fun y2 hy2 => ?_
   try simp only [evs, tys]
   refine Imp.call (f := uf_DecodeRuneInStringE) rfl (fun a h => by first | exact uf_DecodeRuneInString_spec h | simpa only [evs, tys, evl] using uf_DecodeRuneInString_spec h) (fun a => by first | rfl | simp only [uf_DecodeRuneInStringE, evk, chks]) fun y4 hy4 => ?_
   try simp only [uf_DecodeRuneInStringE, evs, tys]
   refine Imp.cnd ?_ ?_
   ·refine Imp.cnd ?_ ?_
    ·exact Imp.some (by first | rfl | simp only [ls_CodeE, evs, tys, evl])
    ·exact Imp.some (by first | rfl | simp only [ls_CodeE, evs, tys, evl])
   ·exact Imp.some (by first | rfl | simp only [ls_CodeE, evs, tys, evl])
theorem ls_Code_run {s : Str} {i : Int} {r : Int × Int} (h : ls_Code_B s i = some r) : ls_Code s i = some r := by
 obtain ⟨v, hv, rfl⟩ := ls_Code_imp s i r h
 exact tO_of (pair_inj ls_CodeEj) (OL_runD ls_Code_ds rfl rfl Tryd.func35 ((ls_Code_t1 _ _ s i).trans hv))
def ls_Units_l1 (O : Orc) (LP : LBody → LBody) : LBody := fun s1 s1u => cnd (chkL [.str, (.sl true), .bool, (.sl true), (.int .i64)] s1) (cnd (chkU [] s1u)
 (cnd (decide ((intV (gt s1 4)) < (List.length (strV (gt s1 0)) : Int)))
 (callp O 35 [(.str (strV (gt s1 0))), (.int .i64 (intV (gt s1 4)))] fun x10 => cnd (chk (.tup [(.int .i64), (.int .i64)]) x10)
 (cnd ((intV (gt (tupV x10) 1)) == 0)
 (some (.ret, [(.str (strV (gt s1 0))), (.slice [] [] true), (.bool false), (.slice (esV (gt s1 3)) [] true), (.int .i64 (intV (gt s1 4)))], []))
 (cnd (decide ((intV (gt (tupV x10) 0)) ≥ 65536))
 (bnd (apd 1 (.slice (esV (gt s1 3)) [] true) (.slice [(.int .i64 (IntKind.wrap .i64 (55296 + (IntKind.wrap .i64 (Int.tdiv (IntKind.wrap .i64 ((intV (gt (tupV x10) 0)) - 65536)) 1024))))), (.int .i64 (IntKind.wrap .i64 (56320 + (Int.tmod (IntKind.wrap .i64 ((intV (gt (tupV x10) 0)) - 65536)) 1024))))] [] true)) fun x12 => cnd (chk (.sl true) x12)
 (some (.nrm, [(.str (strV (gt s1 0))), (.slice (esV (gt s1 1)) [] true), (.bool (boolV (gt s1 2))), (.slice (esV x12) [] true), (.int .i64 (IntKind.wrap .i64 ((intV (gt s1 4)) + (intV (gt (tupV x10) 1)))))], [])) none)
 (bnd (apd 1 (.slice (esV (gt s1 3)) [] true) (.slice [(.int .i64 (intV (gt (tupV x10) 0)))] [] true)) fun x14 => cnd (chk (.sl true) x14)
 (some (.nrm, [(.str (strV (gt s1 0))), (.slice (esV (gt s1 1)) [] true), (.bool (boolV (gt s1 2))), (.slice (esV x14) [] true), (.int .i64 (IntKind.wrap .i64 ((intV (gt s1 4)) + (intV (gt (tupV x10) 1)))))], [])) none))) none)
 (some (.brk 0, [(.str (strV (gt s1 0))), (.slice (esV (gt s1 1)) [] true), (.bool (boolV (gt s1 2))), (.slice (esV (gt s1 3)) [] true), (.int .i64 (intV (gt s1 4)))], []))) none) none
def ls_Units_T1 (O : Orc) (LP : LBody → LBody) (s : Str) : Option (PV × UP) :=
 bnd (LP (ls_Units_l1 O LP) [(.str s), (.slice [] [] true), (.bool false), (.slice [] [] true), (.int .i64 0)] []) fun y20 =>
 exIs y20.1 (some 0) (cnd (chkL [.str, (.sl true), .bool, (.sl true), (.int .i64)] y20.2.1) (cnd (chkU [] y20.2.2)
 (some ((.tuple [(.slice (esV (gt y20.2.1 3)) [] false), (.bool true)]), [])) none) none)
 (exIs y20.1 none (cnd (chkL [.str, (.sl true), .bool, (.sl true), (.int .i64)] y20.2.1) (cnd (chkU [] y20.2.2)
 (some ((.tuple [(.slice (esV (gt y20.2.1 1)) [] false), (.bool (boolV (gt y20.2.1 2)))]), [])) none) none)
 (none))
noncomputable def ls_Units_l1T (s : Str) : ((List Int) × Int) → Option (((List Int) × Int) ⊕ ((List Int) ⊕ Unit))
 | (l_8, i_9) =>
 cnd (decide (i_9 < (List.length s : Int)))
  (bnd (ls_Code s i_9) fun y11 =>
  cnd (y11.2 == 0)
  (some (.inr (.inr ())))
  (cnd (decide (y11.1 ≥ 65536))
   (bnd (tapp l_8 [(IntKind.wrap .i64 (55296 + (IntKind.wrap .i64 (Int.tdiv (IntKind.wrap .i64 (y11.1 - 65536)) 1024)))), (IntKind.wrap .i64 (56320 + (Int.tmod (IntKind.wrap .i64 (y11.1 - 65536)) 1024)))]) fun y13 =>
   some (.inl (y13, (IntKind.wrap .i64 (i_9 + y11.2)))))
   (bnd (tapp l_8 [y11.1]) fun y15 =>
   some (.inl (y15, (IntKind.wrap .i64 (i_9 + y11.2)))))))
  (some (.inr (.inl l_8)))
abbrev ls_Units_l1R (s : Str) (st : (List Int) × Int) (l : List PV) (u : UP) : Prop := l = [(.str s), (.slice [] [] true), (.bool false), (.slice (List.map (PV.int .i64) st.1) [] true), (.int .i64 st.2)] ∧ u = []
abbrev ls_Units_l1X (s : Str) (p : (List Int) ⊕ Unit) (r : Ex × List PV × UP) : Prop := elim p (fun (p : (List Int)) => ∃ (i_17 : Int), r = (Ex.brk 0, [(.str s), (.slice [] [] true), (.bool false), (.slice (List.map (PV.int .i64) p) [] true), (.int .i64 i_17)], [])) (fun q2 => (fun (p : Unit) => ∃ (l_18 : List Int), ∃ (i_19 : Int), r = (Ex.ret, [(.str s), (.slice [] [] true), (.bool false), (.slice (List.map (PV.int .i64) l_18) [] true), (.int .i64 i_19)], [])) q2)
noncomputable def ls_Units_B (s : Str) : Option ((List Int) × Bool) :=
 bnd (tloop (ls_Units_l1T s) ([], 0)) fun e20_2 => elim e20_2
 (fun l_16 =>
 some (l_16, true))
 (fun p20 =>
 some (([] : List Int), false))
def ls_Units_ds : Decs := { decs := [(15, (.tup [(.int .i64), (.int .i64)])), (21, (.sl true)), (38, (.sl true))], ups := [], loops := [(3, [], ⟨[.str, (.sl true), .bool, (.sl true), (.int .i64)], [], [(some 0, [.str, (.sl true), .bool, (.sl true), (.int .i64)], []), (none, [.str, (.sl true), .bool, (.sl true), (.int .i64)], [])]⟩)] }
set_option maxRecDepth 100000 in
theorem ls_Units_t1 (O : Orc) (LP : LBody → LBody) (s : Str) : evalBodyD Tryd.prog (MT 74) ls_Units_ds Tryd.f74.ntmps O LP Tryd.f74 [(.str s)] [] = ls_Units_T1 O LP s := by kernel_rfl
theorem ls_Units_l1_ok (s : Str) : ∀ st l u, ls_Units_l1R s st l u → Imp (ls_Units_l1T s st) (ls_Units_l1 O loopLim l u) (StepR (ls_Units_l1R s) (ls_Units_l1X s)) := by
 rintro ⟨l_8, i_9⟩ l u ⟨rfl, rfl⟩
 simp only [ls_Units_l1T, ls_Units_l1]
 refine Imp.chk rfl (Imp.chk rfl ?_)
 try simp only [evs, tys]
 refine Imp.cnd ?_ ?_
 ·refine Imp.call (f := ls_CodeE) rfl (fun a h => by first | exact ls_Code_spec h | simpa only [evs, tys, evl] using ls_Code_spec h) (fun a => by first | rfl | simp only [ls_CodeE, evk, chks]) fun y11 hy11 => ?_
  try simp only [ls_CodeE, evs, tys]
  refine Imp.cnd ?_ ?_
  ·exact Imp.some (StepR.ret ⟨l_8, i_9, by first | rfl | simp only [evs, tys, evl, elim_inl, elim_inr]⟩)
  ·refine Imp.cnd ?_ ?_
   ·refine Imp.op (f := fun a => .slice (List.map (PV.int .i64) a) [] true) (fun a h => op_apd (enc := (PV.int .i64)) (by first | rfl | simp only [evs, tys, evl]) (by first | rfl | simp only [evs, tys, evl]) (fun a => by first | rfl | simp only [evs, tys, evc]) h) (fun a => rfl) fun y13 hy13 => ?_
    try simp only [evs, tys]
    exact Imp.some (StepR.next ⟨by first | rfl | simp only [evs, tys, evl], rfl⟩)
   ·refine Imp.op (f := fun a => .slice (List.map (PV.int .i64) a) [] true) (fun a h => op_apd (enc := (PV.int .i64)) (by first | rfl | simp only [evs, tys, evl]) (by first | rfl | simp only [evs, tys, evl]) (fun a => by first | rfl | simp only [evs, tys, evc]) h) (fun a => rfl) fun y15 hy15 => ?_
    try simp only [evs, tys]
    exact Imp.some (StepR.next ⟨by first | rfl | simp only [evs, tys, evl], rfl⟩)
 ·exact Imp.some (StepR.brk ⟨i_9, by first | rfl | simp only [evs, tys, evl, elim_inl, elim_inr]⟩)
theorem ls_Units_imp (s : Str) : Imp (ls_Units_B s) (ls_Units_T1 O loopLim s) (fun r v => v = (ls_UnitsE r, [])) := by
 simp only [ls_Units_B, ls_Units_T1]
 try simp only [evs, tys]
 refine Imp.bnd (Imp.loop (ls_Units_l1_ok s) ⟨by first | rfl | simp only [evs, tys, evl], rfl⟩) ?_
 rintro (l_16 | p) vy20 hy20
 ·try simp only [elim_inl, elim_inr]
  obtain ⟨i_17, rfl⟩ := hy20
  refine Imp.exHit rfl (Imp.chk rfl (Imp.chk rfl ?_))
  try simp only [evs, tys]
  exact Imp.some (by first | rfl | simp only [ls_UnitsE, evs, tys, evl])
 ·try simp only [elim_inl, elim_inr]
  obtain ⟨l_18, i_19, rfl⟩ := hy20
  refine Imp.exMiss rfl ?_
  refine Imp.exHit rfl (Imp.chk rfl (Imp.chk rfl ?_))
  try simp only [evs, tys]
  exact Imp.some (by first | rfl | simp only [ls_UnitsE, evs, tys, evl])
theorem ls_Units_run {s : Str} {r : (List Int) × Bool} (h : ls_Units_B s = some r) : ls_Units s = some r := by
 obtain ⟨v, hv, rfl⟩ := ls_Units_imp s r h
 exact tO_of (pair_inj ls_UnitsEj) (OL_runD ls_Units_ds rfl rfl Tryd.func74 ((ls_Units_t1 _ _ s).trans hv))
def to_unit_l1 (O : Orc) (LP : LBody → LBody) : LBody := fun s3 s3u => cnd (chkL [(.sl true), (.int .i64), (.int .i64)] s3) (cnd (chkU [] s3u)
 (cnd (decide ((intV (gt s3 2)) ≥ 0))
 (bnd (bin .shr (.int .i64 (intV (gt s3 1))) (.int .i64 (IntKind.wrap .i64 (4 * (intV (gt s3 2)))))) fun x12 => cnd (chk (.int .i64) x12)
 (bnd (ixStr (.str [48, 49, 50, 51, 52, 53, 54, 55, 56, 57, 97, 98, 99, 100, 101, 102]) (.int .i64 (Int.tmod (intV x12) 16))) fun x14 => cnd (chk (.int .u8) x14)
 (bnd (apd 1 (.slice (esV (gt s3 0)) [] true) (.slice [(.int .u8 (intV x14))] [] true)) fun x16 => cnd (chk (.sl true) x16)
 (some (.nrm, [(.slice (esV x16) [] true), (.int .i64 (intV (gt s3 1))), (.int .i64 (IntKind.wrap .i64 ((intV (gt s3 2)) - 1)))], [])) none) none) none)
 (some (.brk 0, [(.slice (esV (gt s3 0)) [] true), (.int .i64 (intV (gt s3 1))), (.int .i64 (intV (gt s3 2)))], []))) none) none
def to_unit_T1 (O : Orc) (LP : LBody → LBody) (b : List Int) (u0 : Int) : Option (PV × UP) :=
 bnd (apd 1 (.slice (List.map (PV.int .u8) b) [] true) (.slice [(.int .u8 92), (.int .u8 117)] [] true)) fun x1 => cnd (chk (.sl true) x1)
 (bnd (LP (to_unit_l1 O LP) [(.slice (esV x1) [] true), (.int .i64 u0), (.int .i64 3)] []) fun y20 =>
 exIs y20.1 (some 0) (cnd (chkL [(.sl true), (.int .i64), (.int .i64)] y20.2.1) (cnd (chkU [] y20.2.2)
 (some ((.slice (esV (gt y20.2.1 0)) [] true), [])) none) none)
 (none)) none
noncomputable def to_unit_l1T (u0 : Int) : ((List Int) × Int) → Option (((List Int) × Int) ⊕ ((List Int)))
 | (b_10, k_11) =>
 cnd (decide (k_11 ≥ 0))
  (bnd (tshr .i64 u0 (IntKind.wrap .i64 (4 * k_11))) fun y13 =>
  bnd (nthI ([48, 49, 50, 51, 52, 53, 54, 55, 56, 57, 97, 98, 99, 100, 101, 102] : Str) (Int.tmod y13 16)) fun y15 =>
  bnd (tapp b_10 [(y15.toNat : Int)]) fun y17 =>
  some (.inl (y17, (IntKind.wrap .i64 (k_11 - 1)))))
  (some (.inr b_10))
abbrev to_unit_l1R (u0 : Int) (st : (List Int) × Int) (l : List PV) (u : UP) : Prop := l = [(.slice (List.map (PV.int .u8) st.1) [] true), (.int .i64 u0), (.int .i64 st.2)] ∧ u = []
abbrev to_unit_l1X (u0 : Int) (p : (List Int)) (r : Ex × List PV × UP) : Prop := (fun (p : (List Int)) => ∃ (k_19 : Int), r = (Ex.brk 0, [(.slice (List.map (PV.int .u8) p) [] true), (.int .i64 u0), (.int .i64 k_19)], [])) p
noncomputable def to_unit_B (b : List Int) (u0 : Int) : Option (List Int) :=
 bnd (tapp b [92, 117]) fun y2 =>
 bnd (tloop (to_unit_l1T u0) (y2, 3)) fun b_18 =>
 some b_18
def to_unit_ds : Decs := { decs := [(8, (.sl true)), (17, (.int .i64)), (19, (.int .u8)), (21, (.sl true))], ups := [], loops := [(3, [], ⟨[(.sl true), (.int .i64), (.int .i64)], [], [(some 0, [(.sl true), (.int .i64), (.int .i64)], [])]⟩)] }
set_option maxRecDepth 100000 in
theorem to_unit_t1 (O : Orc) (LP : LBody → LBody) (b : List Int) (u0 : Int) : evalBodyD Tryd.prog (MT 75) to_unit_ds Tryd.f75.ntmps O LP Tryd.f75 [(.slice (List.map (PV.int .u8) b) [] true), (.int .i64 u0)] [] = to_unit_T1 O LP b u0 := by kernel_rfl
theorem to_unit_l1_ok (u0 : Int) : ∀ st l u, to_unit_l1R u0 st l u → Imp (to_unit_l1T u0 st) (to_unit_l1 O loopLim l u) (StepR (to_unit_l1R u0) (to_unit_l1X u0)) := by
 rintro ⟨b_10, k_11⟩ l u ⟨rfl, rfl⟩
 simp only [to_unit_l1T, to_unit_l1]
 refine Imp.chk rfl (Imp.chk rfl ?_)
 try simp only [evs, tys]
 refine Imp.cnd ?_ ?_
 ·refine Imp.op (f := fun a => .int _ a) (fun a h => op_shr h) (fun a => rfl) fun y13 hy13 => ?_
  try simp only [evs, tys]
  refine Imp.op (f := fun a => .int .u8 (a.toNat : Int)) (fun a h => op_ixStr h) (fun a => rfl) fun y15 hy15 => ?_
  try simp only [evs, tys]
  refine Imp.op (f := fun a => .slice (List.map (PV.int .u8) a) [] true) (fun a h => op_apd (enc := (PV.int .u8)) (by first | rfl | simp only [evs, tys, evl]) (by first | rfl | simp only [evs, tys, evl]) (fun a => by first | rfl | simp only [evs, tys, evc]) h) (fun a => rfl) fun y17 hy17 => ?_
  try simp only [evs, tys]
  exact Imp.some (StepR.next ⟨by first | rfl | simp only [evs, tys, evl], rfl⟩)
 ·exact Imp.some (StepR.brk ⟨k_11, by first | rfl | simp only [evs, tys, evl, elim_inl, elim_inr]⟩)
theorem to_unit_imp (b : List Int) (u0 : Int) : Imp (to_unit_B b u0) (to_unit_T1 O loopLim b u0) (fun r v => v = (to_unitE r, [])) := by
 simp only [to_unit_B, to_unit_T1]
 try simp only [evs, tys]
 refine Imp.op (f := fun a => .slice (List.map (PV.int .u8) a) [] true) (fun a h => op_apd (enc := (PV.int .u8)) (by first | rfl | simp only [evs, tys, evl]) (by first | rfl | simp only [evs, tys, evl]) (fun a => by first | rfl | simp only [evs, tys, evc]) h) (fun a => rfl) fun y2 hy2 => ?_
 try simp only [evs, tys]
 refine Imp.bnd (Imp.loop (to_unit_l1_ok u0) ⟨by first | rfl | simp only [evs, tys, evl], rfl⟩) ?_
 rintro b_18 vy20 hy20
 obtain ⟨k_19, rfl⟩ := hy20
 refine Imp.exHit rfl (Imp.chk rfl (Imp.chk rfl ?_))
 try simp only [evs, tys]
 exact Imp.some (by first | rfl | simp only [to_unitE, evs, tys, evl])
theorem to_unit_run {b : List Int} {u0 : Int} {r : List Int} (h : to_unit_B b u0 = some r) : to_unit b u0 = some r := by
 obtain ⟨v, hv, rfl⟩ := to_unit_imp b u0 r h
 exact tO_of (pair_inj to_unitEj) (OL_runD to_unit_ds rfl rfl Tryd.func75 ((to_unit_t1 _ _ b u0).trans hv))
def ls_Letter_T1 (O : Orc) (LP : LBody → LBody) (c : Int) : Option (PV × UP) :=
 cnd (decide (c ≥ 97))
 (cnd (decide (c ≤ 122))
 (some ((.bool true), []))
 (cnd (decide (c ≥ 65))
 (cnd (decide (c ≤ 90))
 (some ((.bool true), []))
 (some ((.bool (c == 95)), [])))
 (some ((.bool (c == 95)), []))))
 (cnd (decide (c ≥ 65))
 (cnd (decide (c ≤ 90))
 (some ((.bool true), []))
 (some ((.bool (c == 95)), [])))
 (some ((.bool (c == 95)), [])))
noncomputable def ls_Letter_B (c : Int) : Option Bool :=
 cnd (decide (c ≥ 97))
 (cnd (decide (c ≤ 122))
 (some true)
 (cnd (decide (c ≥ 65))
 (cnd (decide (c ≤ 90))
 (some true)
 (some (c == 95)))
 (some (c == 95))))
 (cnd (decide (c ≥ 65))
 (cnd (decide (c ≤ 90))
 (some true)
 (some (c == 95)))
 (some (c == 95)))
def ls_Letter_ds : Decs := { decs := [], ups := [], loops := [] }
set_option maxRecDepth 100000 in
theorem ls_Letter_t1 (O : Orc) (LP : LBody → LBody) (c : Int) : evalBodyD Tryd.prog (MT 55) ls_Letter_ds Tryd.f55.ntmps O LP Tryd.f55 [(.int .u8 c)] [] = ls_Letter_T1 O LP c := by kernel_rfl
theorem ls_Letter_imp (c : Int) : Imp (ls_Letter_B c) (ls_Letter_T1 O loopLim c) (fun r v => v = (ls_LetterE r, [])) := by
 simp only [ls_Letter_B, ls_Letter_T1]
 try simp only [evs, tys]
 refine Imp.cnd ?_ ?_
 ·refine Imp.cnd ?_ ?_
  ·exact Imp.some (by first | rfl | simp only [ls_LetterE, evs, tys, evl])
  ·refine Imp.cnd ?_ ?_
   ·refine Imp.cnd ?_ ?_
    ·exact Imp.some (by first | rfl | simp only [ls_LetterE, evs, tys, evl])
    ·exact Imp.some (by first | rfl | simp only [ls_LetterE, evs, tys, evl])
   ·exact Imp.some (by first | rfl | simp only [ls_LetterE, evs, tys, evl])
 ·refine Imp.cnd ?_ ?_
  ·refine Imp.cnd ?_ ?_
   ·exact Imp.some (by first | rfl | simp only [ls_LetterE, evs, tys, evl])
   ·exact Imp.some (by first | rfl | simp only [ls_LetterE, evs, tys, evl])
  ·exact Imp.some (by first | rfl | simp only [ls_LetterE, evs, tys, evl])
theorem ls_Letter_run {c : Int} {r : Bool} (h : ls_Letter_B c = some r) : ls_Letter c = some r := by
 obtain ⟨v, hv, rfl⟩ := ls_Letter_imp c r h
 exact tO_of (pair_inj ls_LetterEj) (OL_runD ls_Letter_ds rfl rfl Tryd.func55 ((ls_Letter_t1 _ _ c).trans hv))
def ls_Digit_T1 (O : Orc) (LP : LBody → LBody) (c : Int) : Option (PV × UP) :=
 cnd (decide (c ≥ 48))
 (some ((.bool (decide (c ≤ 57))), []))
 (some ((.bool false), []))
noncomputable def ls_Digit_B (c : Int) : Option Bool :=
 cnd (decide (c ≥ 48))
 (some (decide (c ≤ 57)))
 (some false)
def ls_Digit_ds : Decs := { decs := [], ups := [], loops := [] }
set_option maxRecDepth 100000 in
theorem ls_Digit_t1 (O : Orc) (LP : LBody → LBody) (c : Int) : evalBodyD Tryd.prog (MT 57) ls_Digit_ds Tryd.f57.ntmps O LP Tryd.f57 [(.int .u8 c)] [] = ls_Digit_T1 O LP c := by kernel_rfl
theorem ls_Digit_imp (c : Int) : Imp (ls_Digit_B c) (ls_Digit_T1 O loopLim c) (fun r v => v = (ls_DigitE r, [])) := by
 simp only [ls_Digit_B, ls_Digit_T1]
 try simp only [evs, tys]
 refine Imp.cnd ?_ ?_
 ·exact Imp.some (by first | rfl | simp only [ls_DigitE, evs, tys, evl])
 ·exact Imp.some (by first | rfl | simp only [ls_DigitE, evs, tys, evl])
theorem ls_Digit_run {c : Int} {r : Bool} (h : ls_Digit_B c = some r) : ls_Digit c = some r := by
 obtain ⟨v, hv, rfl⟩ := ls_Digit_imp c r h
 exact tO_of (pair_inj ls_DigitEj) (OL_runD ls_Digit_ds rfl rfl Tryd.func57 ((ls_Digit_t1 _ _ c).trans hv))
theorem uf_ValidString_run {s : Str} {r : Bool} (h : tValid s = some r) : uf_ValidString s = some r := tO_of (pair_inj uf_ValidStringEj) (OL_ext (g := xValid) rfl (xValid_of h))
def ls_sign_T1 (O : Orc) (LP : LBody → LBody) (c : Int) : Option (PV × UP) :=
 cnd (c == 9)
 (some ((.bool true), []))
 (cnd (c == 10)
 (some ((.bool true), []))
 (cnd (c == 13)
 (some ((.bool true), []))
 (cnd (decide (c ≥ 32))
 (some ((.bool (decide (c ≤ 65535))), []))
 (some ((.bool false), [])))))
noncomputable def ls_sign_B (c : Int) : Option Bool :=
 cnd (c == 9)
 (some true)
 (cnd (c == 10)
 (some true)
 (cnd (c == 13)
 (some true)
 (cnd (decide (c ≥ 32))
 (some (decide (c ≤ 65535)))
 (some false))))
def ls_sign_ds : Decs := { decs := [], ups := [], loops := [] }
set_option maxRecDepth 100000 in
theorem ls_sign_t1 (O : Orc) (LP : LBody → LBody) (c : Int) : evalBodyD Tryd.prog (MT 36) ls_sign_ds Tryd.f36.ntmps O LP Tryd.f36 [(.int .i64 c)] [] = ls_sign_T1 O LP c := by kernel_rfl
theorem ls_sign_imp (c : Int) : Imp (ls_sign_B c) (ls_sign_T1 O loopLim c) (fun r v => v = (ls_signE r, [])) := by
 simp only [ls_sign_B, ls_sign_T1]
 try simp only [evs, tys]
 refine Imp.cnd ?_ ?_
 ·exact Imp.some (by first | rfl | simp only [ls_signE, evs, tys, evl])
 ·refine Imp.cnd ?_ ?_
  ·exact Imp.some (by first | rfl | simp only [ls_signE, evs, tys, evl])
  ·refine Imp.cnd ?_ ?_
   ·exact Imp.some (by first | rfl | simp only [ls_signE, evs, tys, evl])
   ·refine Imp.cnd ?_ ?_
    ·exact Imp.some (by first | rfl | simp only [ls_signE, evs, tys, evl])
    ·exact Imp.some (by first | rfl | simp only [ls_signE, evs, tys, evl])
theorem ls_sign_run {c : Int} {r : Bool} (h : ls_sign_B c = some r) : ls_sign c = some r := by
 obtain ⟨v, hv, rfl⟩ := ls_sign_imp c r h
 exact tO_of (pair_inj ls_signEj) (OL_runD ls_sign_ds rfl rfl Tryd.func36 ((ls_sign_t1 _ _ c).trans hv))
def st_HasPrefix_T1 (O : Orc) (LP : LBody → LBody) (s : Str) (prefix0 : Str) : Option (PV × UP) :=
 callp O 80 [(.str s), (.str prefix0)] fun x1 => cnd (chk .bool x1)
 (some ((.bool (boolV x1)), [])) none
noncomputable def st_HasPrefix_B (s : Str) (prefix0 : Str) : Option Bool :=
 bnd (stringslite_HasPrefix s prefix0) fun y2 =>
 some y2
def st_HasPrefix_ds : Decs := { decs := [(7, .bool)], ups := [], loops := [] }
set_option maxRecDepth 100000 in
theorem st_HasPrefix_t1 (O : Orc) (LP : LBody → LBody) (s : Str) (prefix0 : Str) : evalBodyD Tryd.prog (MT 49) st_HasPrefix_ds Tryd.f49.ntmps O LP Tryd.f49 [(.str s), (.str prefix0)] [] = st_HasPrefix_T1 O LP s prefix0 := by kernel_rfl
theorem st_HasPrefix_imp (s : Str) (prefix0 : Str) : Imp (st_HasPrefix_B s prefix0) (st_HasPrefix_T1 O loopLim s prefix0) (fun r v => v = (st_HasPrefixE r, [])) := by
 simp only [st_HasPrefix_B, st_HasPrefix_T1]
 try simp only [evs, tys]
 refine Imp.call (f := stringslite_HasPrefixE) rfl (fun a h => by first | exact stringslite_HasPrefix_spec h | simpa only [evs, tys, evl] using stringslite_HasPrefix_spec h) (fun a => by first | rfl | simp only [stringslite_HasPrefixE, evk, chks]) fun y2 hy2 => ?_
 try simp only [stringslite_HasPrefixE, evs, tys]
 exact Imp.some (by first | rfl | simp only [st_HasPrefixE, evs, tys, evl])
theorem st_HasPrefix_run {s : Str} {prefix0 : Str} {r : Bool} (h : st_HasPrefix_B s prefix0 = some r) : st_HasPrefix s prefix0 = some r := by
 obtain ⟨v, hv, rfl⟩ := st_HasPrefix_imp s prefix0 r h
 exact tO_of (pair_inj st_HasPrefixEj) (OL_runD st_HasPrefix_ds rfl rfl Tryd.func49 ((st_HasPrefix_t1 _ _ s prefix0).trans hv))
theorem st_IndexAny_run {s : Str} {chars : Str} {r : Int} (h : tIndexAny s chars = some r) : st_IndexAny s chars = some r := tO_of (pair_inj st_IndexAnyEj) (OL_ext (g := xIndexAny) rfl (xIndexAny_of h))
def to_blocked_l1 (O : Orc) (LP : LBody → LBody) : LBody := fun s1 s1u => cnd (chkL [.str, .str, (.int .i64), (.sl true), (.int .i64)] s1) (cnd (chkU [] s1u)
 (cnd (decide ((intV (gt s1 4)) ≥ (List.length (strV (gt s1 0)) : Int)))
 (some (.ret, [(.str (strV (gt s1 0))), (.str []), (.int .i64 0), (.slice (esV (gt s1 3)) [] true), (.int .i64 (intV (gt s1 4)))], []))
 (bnd (slcLo 0 (.str (strV (gt s1 0))) (.int .i64 (intV (gt s1 4)))) fun x18 => cnd (chk .str x18)
 (callp O 49 [(.str (strV x18)), (.str [34, 34, 34])] fun x20 => cnd (chk .bool x20)
 (cnd (boolV x20)
 (some (.brk 0, [(.str (strV (gt s1 0))), (.str (strV (gt s1 1))), (.int .i64 (intV (gt s1 2))), (.slice (esV (gt s1 3)) [] true), (.int .i64 (intV (gt s1 4)))], []))
 (bnd (slcLo 0 (.str (strV (gt s1 0))) (.int .i64 (intV (gt s1 4)))) fun x22 => cnd (chk .str x22)
 (callp O 49 [(.str (strV x22)), (.str [92, 34, 34, 34])] fun x24 => cnd (chk .bool x24)
 (cnd (boolV x24)
 (bnd (apdStr (.slice (esV (gt s1 3)) [] true) (.str [34, 34, 34])) fun x26 => cnd (chk (.sl true) x26)
 (some (.nrm, [(.str (strV (gt s1 0))), (.str (strV (gt s1 1))), (.int .i64 (intV (gt s1 2))), (.slice (esV x26) [] true), (.int .i64 (IntKind.wrap .i64 ((intV (gt s1 4)) + 4)))], [])) none)
 (bnd (ixStr (.str (strV (gt s1 0))) (.int .i64 (intV (gt s1 4)))) fun x28 => cnd (chk (.int .u8) x28)
 (bnd (apd 1 (.slice (esV (gt s1 3)) [] true) (.slice [(.int .u8 (intV x28))] [] true)) fun x30 => cnd (chk (.sl true) x30)
 (some (.nrm, [(.str (strV (gt s1 0))), (.str (strV (gt s1 1))), (.int .i64 (intV (gt s1 2))), (.slice (esV x30) [] true), (.int .i64 (IntKind.wrap .i64 ((intV (gt s1 4)) + 1)))], [])) none) none)) none) none)) none) none)) none) none
def to_blocked_T1 (O : Orc) (LP : LBody → LBody) (s : Str) : Option (PV × UP) :=
 bnd (LP (to_blocked_l1 O LP) [(.str s), (.str []), (.int .i64 0), (.slice [] [] true), (.int .i64 3)] []) fun y36 =>
 exIs y36.1 none (cnd (chkL [.str, .str, (.int .i64), (.sl true), (.int .i64)] y36.2.1) (cnd (chkU [] y36.2.2)
 (some ((.tuple [(.str (strV (gt y36.2.1 1))), (.int .i64 (intV (gt y36.2.1 2)))]), [])) none) none)
 (exIs y36.1 (some 0) (cnd (chkL [.str, .str, (.int .i64), (.sl true), (.int .i64)] y36.2.1) (cnd (chkU [] y36.2.2)
 (bnd (toStr (.slice (esV (gt y36.2.1 3)) [] false)) fun x37 => cnd (chk .str x37)
 (callp O 19 [(.str (strV x37))] fun x39 => cnd (chk .str x39)
 (some ((.tuple [(.str (strV x39)), (.int .i64 (IntKind.wrap .i64 ((intV (gt y36.2.1 4)) + 3)))]), [])) none) none) none) none)
 (none))
noncomputable def to_blocked_l1T (s : Str) : ((List Int) × Int) → Option (((List Int) × Int) ⊕ (Unit ⊕ ((List Int) × Int)))
 | (raw_16, i_17) =>
 cnd (decide (i_17 ≥ (List.length s : Int)))
  (some (.inr (.inl ())))
  (bnd (tslc s i_17 (List.length s)) fun y19 =>
  bnd (st_HasPrefix y19 [34, 34, 34]) fun y21 =>
  cnd y21
  (some (.inr (.inr (raw_16, i_17))))
  (bnd (tslc s i_17 (List.length s)) fun y23 =>
  bnd (st_HasPrefix y23 [92, 34, 34, 34]) fun y25 =>
  cnd y25
   (bnd (tapp raw_16 (intsT [34, 34, 34])) fun y27 =>
   some (.inl (y27, (IntKind.wrap .i64 (i_17 + 4)))))
   (bnd (nthI s i_17) fun y29 =>
   bnd (tapp raw_16 [(y29.toNat : Int)]) fun y31 =>
   some (.inl (y31, (IntKind.wrap .i64 (i_17 + 1)))))))
abbrev to_blocked_l1R (s : Str) (st : (List Int) × Int) (l : List PV) (u : UP) : Prop := l = [(.str s), (.str []), (.int .i64 0), (.slice (List.map (PV.int .u8) st.1) [] true), (.int .i64 st.2)] ∧ u = []
abbrev to_blocked_l1X (s : Str) (p : Unit ⊕ ((List Int) × Int)) (r : Ex × List PV × UP) : Prop := elim p (fun (p : Unit) => ∃ (raw_32 : List Int), ∃ (i_33 : Int), r = (Ex.ret, [(.str s), (.str []), (.int .i64 0), (.slice (List.map (PV.int .u8) raw_32) [] true), (.int .i64 i_33)], [])) (fun q2 => (fun (p : (List Int) × Int) => r = (Ex.brk 0, [(.str s), (.str []), (.int .i64 0), (.slice (List.map (PV.int .u8) p.1) [] true), (.int .i64 p.2)], [])) q2)
noncomputable def to_blocked_B (s : Str) : Option (Str × Int) :=
 bnd (tloop (to_blocked_l1T s) ([], 3)) fun e36_2 => elim e36_2
 (fun p36 =>
 some ([], 0))
 (fun p36 =>
 bnd (some (bytesT p36.1)) fun y38 =>
 bnd (bo_Value y38) fun y40 =>
 some (y40, (IntKind.wrap .i64 (p36.2 + 3))))
def to_blocked_ds : Decs := { decs := [(14, .str), (15, .bool), (19, .str), (20, .bool), (22, (.sl true)), (28, (.int .u8)), (30, (.sl true)), (34, .str), (35, .str)], ups := [], loops := [(3, [], ⟨[.str, .str, (.int .i64), (.sl true), (.int .i64)], [], [(none, [.str, .str, (.int .i64), (.sl true), (.int .i64)], []), (some 0, [.str, .str, (.int .i64), (.sl true), (.int .i64)], [])]⟩)] }
set_option maxRecDepth 100000 in
theorem to_blocked_t1 (O : Orc) (LP : LBody → LBody) (s : Str) : evalBodyD Tryd.prog (MT 51) to_blocked_ds Tryd.f51.ntmps O LP Tryd.f51 [(.str s)] [] = to_blocked_T1 O LP s := by kernel_rfl
theorem to_blocked_l1_ok (s : Str) : ∀ st l u, to_blocked_l1R s st l u → Imp (to_blocked_l1T s st) (to_blocked_l1 O loopLim l u) (StepR (to_blocked_l1R s) (to_blocked_l1X s)) := by
 rintro ⟨raw_16, i_17⟩ l u ⟨rfl, rfl⟩
 simp only [to_blocked_l1T, to_blocked_l1]
 refine Imp.chk rfl (Imp.chk rfl ?_)
 try simp only [evs, tys]
 refine Imp.cnd ?_ ?_
 ·exact Imp.some (StepR.ret ⟨raw_16, i_17, by first | rfl | simp only [evs, tys, evl, elim_inl, elim_inr]⟩)
 ·refine Imp.op (f := fun a => .str a) (fun a h => op_sslcLo h) (fun a => rfl) fun y19 hy19 => ?_
  try simp only [evs, tys]
  refine Imp.call (f := st_HasPrefixE) rfl (fun a h => by first | exact st_HasPrefix_spec h | simpa only [evs, tys, evl] using st_HasPrefix_spec h) (fun a => by first | rfl | simp only [st_HasPrefixE, evk, chks]) fun y21 hy21 => ?_
  try simp only [st_HasPrefixE, evs, tys]
  refine Imp.cnd ?_ ?_
  ·exact Imp.some (StepR.brk (by first | rfl | simp only [evs, tys, evl, elim_inl, elim_inr]))
  ·refine Imp.op (f := fun a => .str a) (fun a h => op_sslcLo h) (fun a => rfl) fun y23 hy23 => ?_
   try simp only [evs, tys]
   refine Imp.call (f := st_HasPrefixE) rfl (fun a h => by first | exact st_HasPrefix_spec h | simpa only [evs, tys, evl] using st_HasPrefix_spec h) (fun a => by first | rfl | simp only [st_HasPrefixE, evk, chks]) fun y25 hy25 => ?_
   try simp only [st_HasPrefixE, evs, tys]
   refine Imp.cnd ?_ ?_
   ·refine Imp.op (f := fun a => .slice (List.map (PV.int .u8) a) [] true) (fun a h => op_apdStr (by first | rfl | simp only [evs, tys, evl]) h) (fun a => rfl) fun y27 hy27 => ?_
    try simp only [evs, tys]
    exact Imp.some (StepR.next ⟨by first | rfl | simp only [evs, tys, evl], rfl⟩)
   ·refine Imp.op (f := fun a => .int .u8 (a.toNat : Int)) (fun a h => op_ixStr h) (fun a => rfl) fun y29 hy29 => ?_
    try simp only [evs, tys]
    refine Imp.op (f := fun a => .slice (List.map (PV.int .u8) a) [] true) (fun a h => op_apd (enc := (PV.int .u8)) (by first | rfl | simp only [evs, tys, evl]) (by first | rfl | simp only [evs, tys, evl]) (fun a => by first | rfl | simp only [evs, tys, evc]) h) (fun a => rfl) fun y31 hy31 => ?_
    try simp only [evs, tys]
    exact Imp.some (StepR.next ⟨by first | rfl | simp only [evs, tys, evl], rfl⟩)
theorem to_blocked_imp (s : Str) : Imp (to_blocked_B s) (to_blocked_T1 O loopLim s) (fun r v => v = (to_blockedE r, [])) := by
 simp only [to_blocked_B, to_blocked_T1]
 try simp only [evs, tys]
 refine Imp.bnd (Imp.loop (to_blocked_l1_ok s) ⟨by first | rfl | simp only [evs, tys, evl], rfl⟩) ?_
 rintro (p | ⟨raw_34, i_35⟩) vy36 hy36
 ·try simp only [elim_inl, elim_inr]
  obtain ⟨raw_32, i_33, rfl⟩ := hy36
  refine Imp.exHit rfl (Imp.chk rfl (Imp.chk rfl ?_))
  try simp only [evs, tys]
  exact Imp.some (by first | rfl | simp only [to_blockedE, evs, tys, evl])
 ·try simp only [elim_inl, elim_inr]
  cases hy36
  refine Imp.exMiss rfl ?_
  refine Imp.exHit rfl (Imp.chk rfl (Imp.chk rfl ?_))
  try simp only [evs, tys]
  refine Imp.op (f := fun a => .str a) (fun a h => op_toStr (by first | rfl | simp only [evs, tys, evl]) h) (fun a => rfl) fun y38 hy38 => ?_
  try simp only [evs, tys]
  refine Imp.call (f := bo_ValueE) rfl (fun a h => by first | exact bo_Value_spec h | simpa only [evs, tys, evl] using bo_Value_spec h) (fun a => by first | rfl | simp only [bo_ValueE, evk, chks]) fun y40 hy40 => ?_
  try simp only [bo_ValueE, evs, tys]
  exact Imp.some (by first | rfl | simp only [to_blockedE, evs, tys, evl])
theorem to_blocked_run {s : Str} {r : Str × Int} (h : to_blocked_B s = some r) : to_blocked s = some r := by
 obtain ⟨v, hv, rfl⟩ := to_blocked_imp s r h
 exact tO_of (pair_inj to_blockedEj) (OL_runD to_blocked_ds rfl rfl Tryd.func51 ((to_blocked_t1 _ _ s).trans hv))
def to_Unit_l1 (O : Orc) (LP : LBody → LBody) : LBody := fun s1 s1u => cnd (chkL [.str, (.int .i64), .bool, (.int .i64), (.int .i64)] s1) (cnd (chkU [] s1u)
 (cnd (decide ((intV (gt s1 4)) < 4))
 (bnd (ixStr (.str (strV (gt s1 0))) (.int .i64 (intV (gt s1 4)))) fun x14 => cnd (chk (.int .u8) x14)
 (callp O 54 [(.str [48, 49, 50, 51, 52, 53, 54, 55, 56, 57, 97, 98, 99, 100, 101, 102]), (.int .u8 (bits .or .u8 (intV x14) 32))] fun x16 => cnd (chk (.int .i64) x16)
 (cnd (decide ((intV x16) < 0))
 (some (.ret, [(.str (strV (gt s1 0))), (.int .i64 0), (.bool false), (.int .i64 (intV (gt s1 3))), (.int .i64 (intV (gt s1 4)))], []))
 (bnd (ixStr (.str (strV (gt s1 0))) (.int .i64 (intV (gt s1 4)))) fun x18 => cnd (chk (.int .u8) x18)
 (cnd (decide ((intV x18) < 48))
 (some (.ret, [(.str (strV (gt s1 0))), (.int .i64 0), (.bool false), (.int .i64 (intV (gt s1 3))), (.int .i64 (intV (gt s1 4)))], []))
 (bnd (ixStr (.str (strV (gt s1 0))) (.int .i64 (intV (gt s1 4)))) fun x20 => cnd (chk (.int .u8) x20)
 (cnd (decide ((intV x20) > 57))
 (bnd (ixStr (.str (strV (gt s1 0))) (.int .i64 (intV (gt s1 4)))) fun x22 => cnd (chk (.int .u8) x22)
 (cnd (decide ((intV x22) < 65))
 (some (.ret, [(.str (strV (gt s1 0))), (.int .i64 0), (.bool false), (.int .i64 (intV (gt s1 3))), (.int .i64 (intV (gt s1 4)))], []))
 (some (.nrm, [(.str (strV (gt s1 0))), (.int .i64 (intV (gt s1 1))), (.bool (boolV (gt s1 2))), (.int .i64 (IntKind.wrap .i64 ((IntKind.wrap .i64 (16 * (intV (gt s1 3)))) + (intV x16)))), (.int .i64 (IntKind.wrap .i64 ((intV (gt s1 4)) + 1)))], []))) none)
 (some (.nrm, [(.str (strV (gt s1 0))), (.int .i64 (intV (gt s1 1))), (.bool (boolV (gt s1 2))), (.int .i64 (IntKind.wrap .i64 ((IntKind.wrap .i64 (16 * (intV (gt s1 3)))) + (intV x16)))), (.int .i64 (IntKind.wrap .i64 ((intV (gt s1 4)) + 1)))], []))) none)) none)) none) none)
 (some (.brk 0, [(.str (strV (gt s1 0))), (.int .i64 (intV (gt s1 1))), (.bool (boolV (gt s1 2))), (.int .i64 (intV (gt s1 3))), (.int .i64 (intV (gt s1 4)))], []))) none) none
def to_Unit_T1 (O : Orc) (LP : LBody → LBody) (s : Str) : Option (PV × UP) :=
 cnd (decide ((List.length s : Int) < 4))
 (some ((.tuple [(.int .i64 0), (.bool false)]), []))
 (bnd (LP (to_Unit_l1 O LP) [(.str s), (.int .i64 0), (.bool false), (.int .i64 0), (.int .i64 0)] []) fun y28 =>
 exIs y28.1 (some 0) (cnd (chkL [.str, (.int .i64), .bool, (.int .i64), (.int .i64)] y28.2.1) (cnd (chkU [] y28.2.2)
 (some ((.tuple [(.int .i64 (intV (gt y28.2.1 3))), (.bool true)]), [])) none) none)
 (exIs y28.1 none (cnd (chkL [.str, (.int .i64), .bool, (.int .i64), (.int .i64)] y28.2.1) (cnd (chkU [] y28.2.2)
 (some ((.tuple [(.int .i64 (intV (gt y28.2.1 1))), (.bool (boolV (gt y28.2.1 2)))]), [])) none) none)
 (none)))
noncomputable def to_Unit_l1T (s : Str) : (Int × Int) → Option ((Int × Int) ⊕ (Int ⊕ Unit))
 | (u_12, t_13) =>
 cnd (decide (t_13 < 4))
  (bnd (nthI s t_13) fun y15 =>
  bnd (st_IndexByte [48, 49, 50, 51, 52, 53, 54, 55, 56, 57, 97, 98, 99, 100, 101, 102] (bits .or .u8 (y15.toNat : Int) 32)) fun y17 =>
  cnd (decide (y17 < 0))
  (some (.inr (.inr ())))
  (bnd (nthI s t_13) fun y19 =>
  cnd (decide ((y19.toNat : Int) < 48))
   (some (.inr (.inr ())))
   (bnd (nthI s t_13) fun y21 =>
   cnd (decide ((y21.toNat : Int) > 57))
   (bnd (nthI s t_13) fun y23 =>
   cnd (decide ((y23.toNat : Int) < 65))
    (some (.inr (.inr ())))
    (some (.inl ((IntKind.wrap .i64 ((IntKind.wrap .i64 (16 * u_12)) + y17)), (IntKind.wrap .i64 (t_13 + 1))))))
   (some (.inl ((IntKind.wrap .i64 ((IntKind.wrap .i64 (16 * u_12)) + y17)), (IntKind.wrap .i64 (t_13 + 1))))))))
  (some (.inr (.inl u_12)))
abbrev to_Unit_l1R (s : Str) (st : Int × Int) (l : List PV) (u : UP) : Prop := l = [(.str s), (.int .i64 0), (.bool false), (.int .i64 st.1), (.int .i64 st.2)] ∧ u = []
abbrev to_Unit_l1X (s : Str) (p : Int ⊕ Unit) (r : Ex × List PV × UP) : Prop := elim p (fun (p : Int) => ∃ (t_25 : Int), r = (Ex.brk 0, [(.str s), (.int .i64 0), (.bool false), (.int .i64 p), (.int .i64 t_25)], [])) (fun q2 => (fun (p : Unit) => ∃ (u_26 : Int), ∃ (t_27 : Int), r = (Ex.ret, [(.str s), (.int .i64 0), (.bool false), (.int .i64 u_26), (.int .i64 t_27)], [])) q2)
noncomputable def to_Unit_B (s : Str) : Option (Int × Bool) :=
 cnd (decide ((List.length s : Int) < 4))
 (some (0, false))
 (bnd (tloop (to_Unit_l1T s) (0, 0)) fun e28_2 => elim e28_2
 (fun u_24 =>
 some (u_24, true))
 (fun p28 =>
 some (0, false)))
def to_Unit_ds : Decs := { decs := [(15, (.int .u8)), (17, (.int .i64)), (23, (.int .u8)), (29, (.int .u8)), (34, (.int .u8))], ups := [], loops := [(5, [], ⟨[.str, (.int .i64), .bool, (.int .i64), (.int .i64)], [], [(some 0, [.str, (.int .i64), .bool, (.int .i64), (.int .i64)], []), (none, [.str, (.int .i64), .bool, (.int .i64), (.int .i64)], [])]⟩)] }
set_option maxRecDepth 100000 in
theorem to_Unit_t1 (O : Orc) (LP : LBody → LBody) (s : Str) : evalBodyD Tryd.prog (MT 100) to_Unit_ds Tryd.f100.ntmps O LP Tryd.f100 [(.str s)] [] = to_Unit_T1 O LP s := by kernel_rfl
theorem to_Unit_l1_ok (s : Str) : ∀ st l u, to_Unit_l1R s st l u → Imp (to_Unit_l1T s st) (to_Unit_l1 O loopLim l u) (StepR (to_Unit_l1R s) (to_Unit_l1X s)) := by
 rintro ⟨u_12, t_13⟩ l u ⟨rfl, rfl⟩
 simp only [to_Unit_l1T, to_Unit_l1]
 refine Imp.chk rfl (Imp.chk rfl ?_)
 try simp only [evs, tys]
 refine Imp.cnd ?_ ?_
 ·refine Imp.op (f := fun a => .int .u8 (a.toNat : Int)) (fun a h => op_ixStr h) (fun a => rfl) fun y15 hy15 => ?_
  try simp only [evs, tys]
  refine Imp.call (f := st_IndexByteE) rfl (fun a h => by first | exact st_IndexByte_spec h | simpa only [evs, tys, evl] using st_IndexByte_spec h) (fun a => by first | rfl | simp only [st_IndexByteE, evk, chks]) fun y17 hy17 => ?_
  try simp only [st_IndexByteE, evs, tys]
  refine Imp.cnd ?_ ?_
  ·exact Imp.some (StepR.ret ⟨u_12, t_13, by first | rfl | simp only [evs, tys, evl, elim_inl, elim_inr]⟩)
  ·refine Imp.op (f := fun a => .int .u8 (a.toNat : Int)) (fun a h => op_ixStr h) (fun a => rfl) fun y19 hy19 => ?_
   try simp only [evs, tys]
   refine Imp.cnd ?_ ?_
   ·exact Imp.some (StepR.ret ⟨u_12, t_13, by first | rfl | simp only [evs, tys, evl, elim_inl, elim_inr]⟩)
   ·refine Imp.op (f := fun a => .int .u8 (a.toNat : Int)) (fun a h => op_ixStr h) (fun a => rfl) fun y21 hy21 => ?_
    try simp only [evs, tys]
    refine Imp.cnd ?_ ?_
    ·refine Imp.op (f := fun a => .int .u8 (a.toNat : Int)) (fun a h => op_ixStr h) (fun a => rfl) fun y23 hy23 => ?_
     try simp only [evs, tys]
     refine Imp.cnd ?_ ?_
     ·exact Imp.some (StepR.ret ⟨u_12, t_13, by first | rfl | simp only [evs, tys, evl, elim_inl, elim_inr]⟩)
     ·exact Imp.some (StepR.next ⟨by first | rfl | simp only [evs, tys, evl], rfl⟩)
    ·exact Imp.some (StepR.next ⟨by first | rfl | simp only [evs, tys, evl], rfl⟩)
 ·exact Imp.some (StepR.brk ⟨t_13, by first | rfl | simp only [evs, tys, evl, elim_inl, elim_inr]⟩)
theorem to_Unit_imp (s : Str) : Imp (to_Unit_B s) (to_Unit_T1 O loopLim s) (fun r v => v = (to_UnitE r, [])) := by
 simp only [to_Unit_B, to_Unit_T1]
 try simp only [evs, tys]
 refine Imp.cnd ?_ ?_
 ·exact Imp.some (by first | rfl | simp only [to_UnitE, evs, tys, evl])
 ·refine Imp.bnd (Imp.loop (to_Unit_l1_ok s) ⟨by first | rfl | simp only [evs, tys, evl], rfl⟩) ?_
  rintro (u_24 | p) vy28 hy28
  ·try simp only [elim_inl, elim_inr]
   obtain ⟨t_25, rfl⟩ := hy28
   refine Imp.exHit rfl (Imp.chk rfl (Imp.chk rfl ?_))
   try simp only [evs, tys]
   exact Imp.some (by first | rfl | simp only [to_UnitE, evs, tys, evl])
  ·try simp only [elim_inl, elim_inr]
   obtain ⟨u_26, t_27, rfl⟩ := hy28
   refine Imp.exMiss rfl ?_
   refine Imp.exHit rfl (Imp.chk rfl (Imp.chk rfl ?_))
   try simp only [evs, tys]
   exact Imp.some (by first | rfl | simp only [to_UnitE, evs, tys, evl])
theorem to_Unit_run {s : Str} {r : Int × Bool} (h : to_Unit_B s = some r) : to_Unit s = some r := by
 obtain ⟨v, hv, rfl⟩ := to_Unit_imp s r h
 exact tO_of (pair_inj to_UnitEj) (OL_runD to_Unit_ds rfl rfl Tryd.func100 ((to_Unit_t1 _ _ s).trans hv))
theorem st_IndexByte_run {s : Str} {c : Int} {r : Int} (h : tIndexByte s c = some r) : st_IndexByte s c = some r := tO_of (pair_inj st_IndexByteEj) (OL_ext (g := xIndexByte) rfl (xIndexByte_of h))
def ls_Join_l1 (O : Orc) (LP : LBody → LBody) : LBody := fun s1 s1u => cnd (chkL [(.sl false), .str, .bool, (.sl true), (.int .i64)] s1) (cnd (chkU [] s1u)
 (cnd (decide ((intV (gt s1 4)) < (List.length (esV (gt s1 0)) : Int)))
 (bnd (ix 1 (.slice (esV (gt s1 0)) [] false) (.int .i64 (intV (gt s1 4)))) fun x30 => cnd (chk (.ref (.int .i64)) x30)
 (cnd (decide ((intV (refV x30)) < 0))
 (some (.ret, [(.slice (esV (gt s1 0)) [] false), (.str []), (.bool false), (.slice (esV (gt s1 3)) [] true), (.int .i64 (intV (gt s1 4)))], []))
 (cnd (decide ((intV (refV x30)) > 65535))
 (some (.ret, [(.slice (esV (gt s1 0)) [] false), (.str []), (.bool false), (.slice (esV (gt s1 3)) [] true), (.int .i64 (intV (gt s1 4)))], []))
 (cnd (decide ((intV (refV x30)) ≥ 56320))
 (cnd (decide ((intV (refV x30)) ≤ 57343))
 (some (.ret, [(.slice (esV (gt s1 0)) [] false), (.str []), (.bool false), (.slice (esV (gt s1 3)) [] true), (.int .i64 (intV (gt s1 4)))], []))
 (cnd (decide ((intV (refV x30)) ≥ 55296))
 (cnd (decide ((intV (refV x30)) < 56320))
 (cnd ((IntKind.wrap .i64 ((intV (gt s1 4)) + 1)) == (List.length (esV (gt s1 0)) : Int))
 (some (.ret, [(.slice (esV (gt s1 0)) [] false), (.str []), (.bool false), (.slice (esV (gt s1 3)) [] true), (.int .i64 (IntKind.wrap .i64 ((intV (gt s1 4)) + 1)))], []))
 (bnd (ix 1 (.slice (esV (gt s1 0)) [] false) (.int .i64 (IntKind.wrap .i64 ((intV (gt s1 4)) + 1)))) fun x32 => cnd (chk (.ref (.int .i64)) x32)
 (cnd (decide ((intV (refV x32)) < 56320))
 (some (.ret, [(.slice (esV (gt s1 0)) [] false), (.str []), (.bool false), (.slice (esV (gt s1 3)) [] true), (.int .i64 (IntKind.wrap .i64 ((intV (gt s1 4)) + 1)))], []))
 (bnd (ix 1 (.slice (esV (gt s1 0)) [] false) (.int .i64 (IntKind.wrap .i64 ((intV (gt s1 4)) + 1)))) fun x34 => cnd (chk (.ref (.int .i64)) x34)
 (cnd (decide ((intV (refV x34)) > 57343))
 (some (.ret, [(.slice (esV (gt s1 0)) [] false), (.str []), (.bool false), (.slice (esV (gt s1 3)) [] true), (.int .i64 (IntKind.wrap .i64 ((intV (gt s1 4)) + 1)))], []))
 (bnd (ix 1 (.slice (esV (gt s1 0)) [] false) (.int .i64 (IntKind.wrap .i64 ((intV (gt s1 4)) + 1)))) fun x36 => cnd (chk (.ref (.int .i64)) x36)
 (callp O 34 [(.slice (esV (gt s1 3)) [] true), (.int .i32 (IntKind.wrap .i32 (IntKind.wrap .i64 ((IntKind.wrap .i64 ((IntKind.wrap .i64 (65536 + (IntKind.wrap .i64 (1024 * (IntKind.wrap .i64 ((intV (refV x30)) - 55296)))))) + (intV (refV x36)))) - 56320))))] fun x38 => cnd (chk (.sl true) x38)
 (some (.nrm, [(.slice (esV (gt s1 0)) [] false), (.str (strV (gt s1 1))), (.bool (boolV (gt s1 2))), (.slice (esV x38) [] true), (.int .i64 (IntKind.wrap .i64 ((IntKind.wrap .i64 ((intV (gt s1 4)) + 1)) + 1)))], [])) none) none)) none)) none))
 (callp O 34 [(.slice (esV (gt s1 3)) [] true), (.int .i32 (IntKind.wrap .i32 (intV (refV x30))))] fun x40 => cnd (chk (.sl true) x40)
 (some (.nrm, [(.slice (esV (gt s1 0)) [] false), (.str (strV (gt s1 1))), (.bool (boolV (gt s1 2))), (.slice (esV x40) [] true), (.int .i64 (IntKind.wrap .i64 ((intV (gt s1 4)) + 1)))], [])) none))
 (callp O 34 [(.slice (esV (gt s1 3)) [] true), (.int .i32 (IntKind.wrap .i32 (intV (refV x30))))] fun x42 => cnd (chk (.sl true) x42)
 (some (.nrm, [(.slice (esV (gt s1 0)) [] false), (.str (strV (gt s1 1))), (.bool (boolV (gt s1 2))), (.slice (esV x42) [] true), (.int .i64 (IntKind.wrap .i64 ((intV (gt s1 4)) + 1)))], [])) none)))
 (cnd (decide ((intV (refV x30)) ≥ 55296))
 (cnd (decide ((intV (refV x30)) < 56320))
 (cnd ((IntKind.wrap .i64 ((intV (gt s1 4)) + 1)) == (List.length (esV (gt s1 0)) : Int))
 (some (.ret, [(.slice (esV (gt s1 0)) [] false), (.str []), (.bool false), (.slice (esV (gt s1 3)) [] true), (.int .i64 (IntKind.wrap .i64 ((intV (gt s1 4)) + 1)))], []))
 (bnd (ix 1 (.slice (esV (gt s1 0)) [] false) (.int .i64 (IntKind.wrap .i64 ((intV (gt s1 4)) + 1)))) fun x44 => cnd (chk (.ref (.int .i64)) x44)
 (cnd (decide ((intV (refV x44)) < 56320))
 (some (.ret, [(.slice (esV (gt s1 0)) [] false), (.str []), (.bool false), (.slice (esV (gt s1 3)) [] true), (.int .i64 (IntKind.wrap .i64 ((intV (gt s1 4)) + 1)))], []))
 (bnd (ix 1 (.slice (esV (gt s1 0)) [] false) (.int .i64 (IntKind.wrap .i64 ((intV (gt s1 4)) + 1)))) fun x46 => cnd (chk (.ref (.int .i64)) x46)
 (cnd (decide ((intV (refV x46)) > 57343))
 (some (.ret, [(.slice (esV (gt s1 0)) [] false), (.str []), (.bool false), (.slice (esV (gt s1 3)) [] true), (.int .i64 (IntKind.wrap .i64 ((intV (gt s1 4)) + 1)))], []))
 (bnd (ix 1 (.slice (esV (gt s1 0)) [] false) (.int .i64 (IntKind.wrap .i64 ((intV (gt s1 4)) + 1)))) fun x48 => cnd (chk (.ref (.int .i64)) x48)
 (callp O 34 [(.slice (esV (gt s1 3)) [] true), (.int .i32 (IntKind.wrap .i32 (IntKind.wrap .i64 ((IntKind.wrap .i64 ((IntKind.wrap .i64 (65536 + (IntKind.wrap .i64 (1024 * (IntKind.wrap .i64 ((intV (refV x30)) - 55296)))))) + (intV (refV x48)))) - 56320))))] fun x50 => cnd (chk (.sl true) x50)
 (some (.nrm, [(.slice (esV (gt s1 0)) [] false), (.str (strV (gt s1 1))), (.bool (boolV (gt s1 2))), (.slice (esV x50) [] true), (.int .i64 (IntKind.wrap .i64 ((IntKind.wrap .i64 ((intV (gt s1 4)) + 1)) + 1)))], [])) none) none)) none)) none))
 (callp O 34 [(.slice (esV (gt s1 3)) [] true), (.int .i32 (IntKind.wrap .i32 (intV (refV x30))))] fun x52 => cnd (chk (.sl true) x52)
 (some (.nrm, [(.slice (esV (gt s1 0)) [] false), (.str (strV (gt s1 1))), (.bool (boolV (gt s1 2))), (.slice (esV x52) [] true), (.int .i64 (IntKind.wrap .i64 ((intV (gt s1 4)) + 1)))], [])) none))
 (callp O 34 [(.slice (esV (gt s1 3)) [] true), (.int .i32 (IntKind.wrap .i32 (intV (refV x30))))] fun x54 => cnd (chk (.sl true) x54)
 (some (.nrm, [(.slice (esV (gt s1 0)) [] false), (.str (strV (gt s1 1))), (.bool (boolV (gt s1 2))), (.slice (esV x54) [] true), (.int .i64 (IntKind.wrap .i64 ((intV (gt s1 4)) + 1)))], [])) none))))) none)
 (some (.brk 0, [(.slice (esV (gt s1 0)) [] false), (.str (strV (gt s1 1))), (.bool (boolV (gt s1 2))), (.slice (esV (gt s1 3)) [] true), (.int .i64 (intV (gt s1 4)))], []))) none) none
def ls_Join_T1 (O : Orc) (LP : LBody → LBody) (units : List Int) : Option (PV × UP) :=
 bnd (LP (ls_Join_l1 O LP) [(.slice (List.map (PV.int .i64) units) [] false), (.str []), (.bool false), (.slice [] [] true), (.int .i64 0)] []) fun y60 =>
 exIs y60.1 (some 0) (cnd (chkL [(.sl false), .str, .bool, (.sl true), (.int .i64)] y60.2.1) (cnd (chkU [] y60.2.2)
 (bnd (toStr (.slice (esV (gt y60.2.1 3)) [] false)) fun x61 => cnd (chk .str x61)
 (some ((.tuple [(.str (strV x61)), (.bool true)]), [])) none) none) none)
 (exIs y60.1 none (cnd (chkL [(.sl false), .str, .bool, (.sl true), (.int .i64)] y60.2.1) (cnd (chkU [] y60.2.2)
 (some ((.tuple [(.str (strV (gt y60.2.1 1))), (.bool (boolV (gt y60.2.1 2)))]), [])) none) none)
 (none))
noncomputable def ls_Join_l1T (units : List Int) : ((List Int) × Int) → Option (((List Int) × Int) ⊕ ((List Int) ⊕ Unit))
 | (b_28, i_29) =>
 cnd (decide (i_29 < (List.length units : Int)))
  (bnd (nthI units i_29) fun y31 =>
  cnd (decide (y31 < 0))
  (some (.inr (.inr ())))
  (cnd (decide (y31 > 65535))
   (some (.inr (.inr ())))
   (cnd (decide (y31 ≥ 56320))
   (cnd (decide (y31 ≤ 57343))
    (some (.inr (.inr ())))
    (cnd (decide (y31 ≥ 55296))
    (cnd (decide (y31 < 56320))
     (cnd ((IntKind.wrap .i64 (i_29 + 1)) == (List.length units : Int))
     (some (.inr (.inr ())))
     (bnd (nthI units (IntKind.wrap .i64 (i_29 + 1))) fun y33 =>
     cnd (decide (y33 < 56320))
      (some (.inr (.inr ())))
      (bnd (nthI units (IntKind.wrap .i64 (i_29 + 1))) fun y35 =>
      cnd (decide (y35 > 57343))
      (some (.inr (.inr ())))
      (bnd (nthI units (IntKind.wrap .i64 (i_29 + 1))) fun y37 =>
      bnd (uf_AppendRune b_28 (IntKind.wrap .i32 (IntKind.wrap .i64 ((IntKind.wrap .i64 ((IntKind.wrap .i64 (65536 + (IntKind.wrap .i64 (1024 * (IntKind.wrap .i64 (y31 - 55296)))))) + y37)) - 56320)))) fun y39 =>
      some (.inl (y39, (IntKind.wrap .i64 ((IntKind.wrap .i64 (i_29 + 1)) + 1))))))))
     (bnd (uf_AppendRune b_28 (IntKind.wrap .i32 y31)) fun y41 =>
     some (.inl (y41, (IntKind.wrap .i64 (i_29 + 1))))))
    (bnd (uf_AppendRune b_28 (IntKind.wrap .i32 y31)) fun y43 =>
    some (.inl (y43, (IntKind.wrap .i64 (i_29 + 1)))))))
   (cnd (decide (y31 ≥ 55296))
    (cnd (decide (y31 < 56320))
    (cnd ((IntKind.wrap .i64 (i_29 + 1)) == (List.length units : Int))
     (some (.inr (.inr ())))
     (bnd (nthI units (IntKind.wrap .i64 (i_29 + 1))) fun y45 =>
     cnd (decide (y45 < 56320))
     (some (.inr (.inr ())))
     (bnd (nthI units (IntKind.wrap .i64 (i_29 + 1))) fun y47 =>
     cnd (decide (y47 > 57343))
      (some (.inr (.inr ())))
      (bnd (nthI units (IntKind.wrap .i64 (i_29 + 1))) fun y49 =>
      bnd (uf_AppendRune b_28 (IntKind.wrap .i32 (IntKind.wrap .i64 ((IntKind.wrap .i64 ((IntKind.wrap .i64 (65536 + (IntKind.wrap .i64 (1024 * (IntKind.wrap .i64 (y31 - 55296)))))) + y49)) - 56320)))) fun y51 =>
      some (.inl (y51, (IntKind.wrap .i64 ((IntKind.wrap .i64 (i_29 + 1)) + 1))))))))
    (bnd (uf_AppendRune b_28 (IntKind.wrap .i32 y31)) fun y53 =>
    some (.inl (y53, (IntKind.wrap .i64 (i_29 + 1))))))
    (bnd (uf_AppendRune b_28 (IntKind.wrap .i32 y31)) fun y55 =>
    some (.inl (y55, (IntKind.wrap .i64 (i_29 + 1)))))))))
  (some (.inr (.inl b_28)))
abbrev ls_Join_l1R (units : List Int) (st : (List Int) × Int) (l : List PV) (u : UP) : Prop := l = [(.slice (List.map (PV.int .i64) units) [] false), (.str []), (.bool false), (.slice (List.map (PV.int .u8) st.1) [] true), (.int .i64 st.2)] ∧ u = []
abbrev ls_Join_l1X (units : List Int) (p : (List Int) ⊕ Unit) (r : Ex × List PV × UP) : Prop := elim p (fun (p : (List Int)) => ∃ (i_57 : Int), r = (Ex.brk 0, [(.slice (List.map (PV.int .i64) units) [] false), (.str []), (.bool false), (.slice (List.map (PV.int .u8) p) [] true), (.int .i64 i_57)], [])) (fun q2 => (fun (p : Unit) => ∃ (b_58 : List Int), ∃ (i_59 : Int), r = (Ex.ret, [(.slice (List.map (PV.int .i64) units) [] false), (.str []), (.bool false), (.slice (List.map (PV.int .u8) b_58) [] true), (.int .i64 i_59)], [])) q2)
noncomputable def ls_Join_B (units : List Int) : Option (Str × Bool) :=
 bnd (tloop (ls_Join_l1T units) ([], 0)) fun e60_2 => elim e60_2
 (fun b_56 =>
 bnd (some (bytesT b_56)) fun y62 =>
 some (y62, true))
 (fun p60 =>
 some ([], false))
def ls_Join_ds : Decs := { decs := [(15, (.ref (.int .i64))), (48, (.ref (.int .i64))), (55, (.ref (.int .i64))), (65, (.ref (.int .i64))), (72, (.sl true)), (74, .str)], ups := [], loops := [(3, [], ⟨[(.sl false), .str, .bool, (.sl true), (.int .i64)], [], [(some 0, [(.sl false), .str, .bool, (.sl true), (.int .i64)], []), (none, [(.sl false), .str, .bool, (.sl true), (.int .i64)], [])]⟩)] }
set_option maxRecDepth 100000 in
theorem ls_Join_t1 (O : Orc) (LP : LBody → LBody) (units : List Int) : evalBodyD Tryd.prog (MT 17) ls_Join_ds Tryd.f17.ntmps O LP Tryd.f17 [(.slice (List.map (PV.int .i64) units) [] false)] [] = ls_Join_T1 O LP units := by kernel_rfl
theorem ls_Join_l1_ok (units : List Int) : ∀ st l u, ls_Join_l1R units st l u → Imp (ls_Join_l1T units st) (ls_Join_l1 O loopLim l u) (StepR (ls_Join_l1R units) (ls_Join_l1X units)) := by
 rintro ⟨b_28, i_29⟩ l u ⟨rfl, rfl⟩
 simp only [ls_Join_l1T, ls_Join_l1]
 refine Imp.chk rfl (Imp.chk rfl ?_)
 try simp only [evs, tys]
 refine Imp.cnd ?_ ?_
 ·refine Imp.op (f := fun a => .ref ((PV.int .i64) a)) (fun a h => op_ix (enc := (PV.int .i64)) (by first | rfl | simp only [evs, tys, evl]) ⟨by first | rfl | simp only [evs, tys, evc], by decide⟩ h) (fun a => rfl) fun y31 hy31 => ?_
  try simp only [evs, tys]
  refine Imp.cnd ?_ ?_
  ·exact Imp.some (StepR.ret ⟨b_28, i_29, by first | rfl | simp only [evs, tys, evl, elim_inl, elim_inr]⟩)
  ·refine Imp.cnd ?_ ?_
   ·exact Imp.some (StepR.ret ⟨b_28, i_29, by first | rfl | simp only [evs, tys, evl, elim_inl, elim_inr]⟩)
   ·refine Imp.cnd ?_ ?_
    ·refine Imp.cnd ?_ ?_
     ·exact Imp.some (StepR.ret ⟨b_28, i_29, by first | rfl | simp only [evs, tys, evl, elim_inl, elim_inr]⟩)
     ·refine Imp.cnd ?_ ?_
      ·refine Imp.cnd ?_ ?_
       ·refine Imp.cnd ?_ ?_
        ·exact Imp.some (StepR.ret ⟨b_28, (IntKind.wrap .i64 (i_29 + 1)), by first | rfl | simp only [evs, tys, evl, elim_inl, elim_inr]⟩)
        ·refine Imp.op (f := fun a => .ref ((PV.int .i64) a)) (fun a h => op_ix (enc := (PV.int .i64)) (by first | rfl | simp only [evs, tys, evl]) ⟨by first | rfl | simp only [evs, tys, evc], by decide⟩ h) (fun a => rfl) fun y33 hy33 => ?_
         try simp only [evs, tys]
         refine Imp.cnd ?_ ?_
         ·exact Imp.some (StepR.ret ⟨b_28, (IntKind.wrap .i64 (i_29 + 1)), by first | rfl | simp only [evs, tys, evl, elim_inl, elim_inr]⟩)
         ·refine Imp.op (f := fun a => .ref ((PV.int .i64) a)) (fun a h => op_ix (enc := (PV.int .i64)) (by first | rfl | simp only [evs, tys, evl]) ⟨by first | rfl | simp only [evs, tys, evc], by decide⟩ h) (fun a => rfl) fun y35 hy35 => ?_
          try simp only [evs, tys]
          refine Imp.cnd ?_ ?_
          ·exact Imp.some (StepR.ret ⟨b_28, (IntKind.wrap .i64 (i_29 + 1)), by first | rfl | simp only [evs, tys, evl, elim_inl, elim_inr]⟩)
          ·refine Imp.op (f := fun a => .ref ((PV.int .i64) a)) (fun a h => op_ix (enc := (PV.int .i64)) (by first | rfl | simp only [evs, tys, evl]) ⟨by first | rfl | simp only [evs, tys, evc], by decide⟩ h) (fun a => rfl) fun y37 hy37 => ?_
           try simp only [evs, tys]
           refine Imp.call (f := uf_AppendRuneE) rfl (fun a h => by first | exact uf_AppendRune_spec h | simpa only [evs, tys, evl] using uf_AppendRune_spec h) (fun a => by first | rfl | simp only [uf_AppendRuneE, evk, chks]) fun y39 hy39 => ?_
           try simp only [uf_AppendRuneE, evs, tys]
           exact Imp.some (StepR.next ⟨by first | rfl | simp only [evs, tys, evl], rfl⟩)
       ·refine Imp.call (f := uf_AppendRuneE) rfl (fun a h => by first | exact uf_AppendRune_spec h | simpa only [evs, tys, evl] using uf_AppendRune_spec h) (fun a => by first | rfl | simp only [uf_AppendRuneE, evk, chks]) fun y41 hy41 => ?_
        try simp only [uf_AppendRuneE, evs, tys]
        exact Imp.some (StepR.next ⟨by first | rfl | simp only [evs, tys, evl], rfl⟩)
      ·refine Imp.call (f := uf_AppendRuneE) rfl (fun a h => by first | exact uf_AppendRune_spec h | simpa only [evs, tys, evl] using uf_AppendRune_spec h) (fun a => by first | rfl | simp only [uf_AppendRuneE, evk, chks]) fun y43 hy43 => ?_
       try simp only [uf_AppendRuneE, evs, tys]
       exact Imp.some (StepR.next ⟨by first | rfl | simp only [evs, tys, evl], rfl⟩)
    ·refine Imp.cnd ?_ ?_
     ·refine Imp.cnd ?_ ?_
      ·refine Imp.cnd ?_ ?_
       ·exact Imp.some (StepR.ret ⟨b_28, (IntKind.wrap .i64 (i_29 + 1)), by first | rfl | simp only [evs, tys, evl, elim_inl, elim_inr]⟩)
       ·refine Imp.op (f := fun a => .ref ((PV.int .i64) a)) (fun a h => op_ix (enc := (PV.int .i64)) (by first | rfl | simp only [evs, tys, evl]) ⟨by first | rfl | simp only [evs, tys, evc], by decide⟩ h) (fun a => rfl) fun y45 hy45 => ?_
        try simp only [evs, tys]
        refine Imp.cnd ?_ ?_
        ·exact Imp.some (StepR.ret ⟨b_28, (IntKind.wrap .i64 (i_29 + 1)), by first | rfl | simp only [evs, tys, evl, elim_inl, elim_inr]⟩)
        ·refine Imp.op (f := fun a => .ref ((PV.int .i64) a)) (fun a h => op_ix (enc := (PV.int .i64)) (by first | rfl | simp only [evs, tys, evl]) ⟨by first | rfl | simp only [evs, tys, evc], by decide⟩ h) (fun a => rfl) fun y47 hy47 => ?_
         try simp only [evs, tys]
         refine Imp.cnd ?_ ?_
         ·exact Imp.some (StepR.ret ⟨b_28, (IntKind.wrap .i64 (i_29 + 1)), by first | rfl | simp only [evs, tys, evl, elim_inl, elim_inr]⟩)
         ·refine Imp.op (f := fun a => .ref ((PV.int .i64) a)) (fun a h => op_ix (enc := (PV.int .i64)) (by first | rfl | simp only [evs, tys, evl]) ⟨by first | rfl | simp only [evs, tys, evc], by decide⟩ h) (fun a => rfl) fun y49 hy49 => ?_
          try simp only [evs, tys]
          refine Imp.call (f := uf_AppendRuneE) rfl (fun a h => by first | exact uf_AppendRune_spec h | simpa only [evs, tys, evl] using uf_AppendRune_spec h) (fun a => by first | rfl | simp only [uf_AppendRuneE, evk, chks]) fun y51 hy51 => ?_
          try simp only [uf_AppendRuneE, evs, tys]
          exact Imp.some (StepR.next ⟨by first | rfl | simp only [evs, tys, evl], rfl⟩)
      ·refine Imp.call (f := uf_AppendRuneE) rfl (fun a h => by first | exact uf_AppendRune_spec h | simpa only [evs, tys, evl] using uf_AppendRune_spec h) (fun a => by first | rfl | simp only [uf_AppendRuneE, evk, chks]) fun y53 hy53 => ?_
       try simp only [uf_AppendRuneE, evs, tys]
       exact Imp.some (StepR.next ⟨by first | rfl | simp only [evs, tys, evl], rfl⟩)
     ·refine Imp.call (f := uf_AppendRuneE) rfl (fun a h => by first | exact uf_AppendRune_spec h | simpa only [evs, tys, evl] using uf_AppendRune_spec h) (fun a => by first | rfl | simp only [uf_AppendRuneE, evk, chks]) fun y55 hy55 => ?_
      try simp only [uf_AppendRuneE, evs, tys]
      exact Imp.some (StepR.next ⟨by first | rfl | simp only [evs, tys, evl], rfl⟩)
 ·exact Imp.some (StepR.brk ⟨i_29, by first | rfl | simp only [evs, tys, evl, elim_inl, elim_inr]⟩)
theorem ls_Join_imp (units : List Int) : Imp (ls_Join_B units) (ls_Join_T1 O loopLim units) (fun r v => v = (ls_JoinE r, [])) := by
 simp only [ls_Join_B, ls_Join_T1]
 try simp only [evs, tys]
 refine Imp.bnd (Imp.loop (ls_Join_l1_ok units) ⟨by first | rfl | simp only [evs, tys, evl], rfl⟩) ?_
 rintro (b_56 | p) vy60 hy60
 ·try simp only [elim_inl, elim_inr]
  obtain ⟨i_57, rfl⟩ := hy60
  refine Imp.exHit rfl (Imp.chk rfl (Imp.chk rfl ?_))
  try simp only [evs, tys]
  refine Imp.op (f := fun a => .str a) (fun a h => op_toStr (by first | rfl | simp only [evs, tys, evl]) h) (fun a => rfl) fun y62 hy62 => ?_
  try simp only [evs, tys]
  exact Imp.some (by first | rfl | simp only [ls_JoinE, evs, tys, evl])
 ·try simp only [elim_inl, elim_inr]
  obtain ⟨b_58, i_59, rfl⟩ := hy60
  refine Imp.exMiss rfl ?_
  refine Imp.exHit rfl (Imp.chk rfl (Imp.chk rfl ?_))
  try simp only [evs, tys]
  exact Imp.some (by first | rfl | simp only [ls_JoinE, evs, tys, evl])
theorem ls_Join_run {units : List Int} {r : Str × Bool} (h : ls_Join_B units = some r) : ls_Join units = some r := by
 obtain ⟨v, hv, rfl⟩ := ls_Join_imp units r h
 exact tO_of (pair_inj ls_JoinEj) (OL_runD ls_Join_ds rfl rfl Tryd.func17 ((ls_Join_t1 _ _ units).trans hv))
def to_plain_T1 (O : Orc) (LP : LBody → LBody) (c : Int) : Option (PV × UP) :=
 cnd (c != 10)
 (some ((.bool (c != 13)), []))
 (some ((.bool false), []))
noncomputable def to_plain_B (c : Int) : Option Bool :=
 cnd (c != 10)
 (some (c != 13))
 (some false)
def to_plain_ds : Decs := { decs := [], ups := [], loops := [] }
set_option maxRecDepth 100000 in
theorem to_plain_t1 (O : Orc) (LP : LBody → LBody) (c : Int) : evalBodyD Tryd.prog (MT 53) to_plain_ds Tryd.f53.ntmps O LP Tryd.f53 [(.int .u8 c)] [] = to_plain_T1 O LP c := by kernel_rfl
theorem to_plain_imp (c : Int) : Imp (to_plain_B c) (to_plain_T1 O loopLim c) (fun r v => v = (to_plainE r, [])) := by
 simp only [to_plain_B, to_plain_T1]
 try simp only [evs, tys]
 refine Imp.cnd ?_ ?_
 ·exact Imp.some (by first | rfl | simp only [to_plainE, evs, tys, evl])
 ·exact Imp.some (by first | rfl | simp only [to_plainE, evs, tys, evl])
theorem to_plain_run {c : Int} {r : Bool} (h : to_plain_B c = some r) : to_plain c = some r := by
 obtain ⟨v, hv, rfl⟩ := to_plain_imp c r h
 exact tO_of (pair_inj to_plainEj) (OL_runD to_plain_ds rfl rfl Tryd.func53 ((to_plain_t1 _ _ c).trans hv))
def to_word_l1 (O : Orc) (LP : LBody → LBody) : LBody := fun s1 s1u => cnd (chkL [.str, (.int .i64)] s1) (cnd (chkU [] s1u)
 (cnd (decide ((intV (gt s1 1)) < (List.length (strV (gt s1 0)) : Int)))
 (bnd (ixStr (.str (strV (gt s1 0))) (.int .i64 (intV (gt s1 1)))) fun x11 => cnd (chk (.int .u8) x11)
 (callp O 55 [(.int .u8 (intV x11))] fun x13 => cnd (chk .bool x13)
 (cnd (boolV x13)
 (some (.nrm, [(.str (strV (gt s1 0))), (.int .i64 (IntKind.wrap .i64 ((intV (gt s1 1)) + 1)))], []))
 (cnd (decide ((intV (gt s1 1)) > 0))
 (bnd (ixStr (.str (strV (gt s1 0))) (.int .i64 (intV (gt s1 1)))) fun x15 => cnd (chk (.int .u8) x15)
 (callp O 57 [(.int .u8 (intV x15))] fun x17 => cnd (chk .bool x17)
 (cnd (boolV x17)
 (some (.nrm, [(.str (strV (gt s1 0))), (.int .i64 (IntKind.wrap .i64 ((intV (gt s1 1)) + 1)))], []))
 (some (.brk 0, [(.str (strV (gt s1 0))), (.int .i64 (intV (gt s1 1)))], []))) none) none)
 (some (.brk 0, [(.str (strV (gt s1 0))), (.int .i64 (intV (gt s1 1)))], [])))) none) none)
 (some (.brk 0, [(.str (strV (gt s1 0))), (.int .i64 (intV (gt s1 1)))], []))) none) none
def to_word_T1 (O : Orc) (LP : LBody → LBody) (s : Str) : Option (PV × UP) :=
 bnd (LP (to_word_l1 O LP) [(.str s), (.int .i64 0)] []) fun y20 =>
 exIs y20.1 (some 0) (cnd (chkL [.str, (.int .i64)] y20.2.1) (cnd (chkU [] y20.2.2)
 (some ((.int .i64 (intV (gt y20.2.1 1))), [])) none) none)
 (none)
noncomputable def to_word_l1T (s : Str) : Int → Option (Int ⊕ Int)
 | n_10 =>
 cnd (decide (n_10 < (List.length s : Int)))
  (bnd (nthI s n_10) fun y12 =>
  bnd (ls_Letter (y12.toNat : Int)) fun y14 =>
  cnd y14
  (some (.inl (IntKind.wrap .i64 (n_10 + 1))))
  (cnd (decide (n_10 > 0))
   (bnd (nthI s n_10) fun y16 =>
   bnd (ls_Digit (y16.toNat : Int)) fun y18 =>
   cnd y18
   (some (.inl (IntKind.wrap .i64 (n_10 + 1))))
   (some (.inr n_10)))
   (some (.inr n_10))))
  (some (.inr n_10))
abbrev to_word_l1R (s : Str) (st : Int) (l : List PV) (u : UP) : Prop := l = [(.str s), (.int .i64 st)] ∧ u = []
abbrev to_word_l1X (s : Str) (p : Int) (r : Ex × List PV × UP) : Prop := (fun (p : Int) => r = (Ex.brk 0, [(.str s), (.int .i64 p)], [])) p
noncomputable def to_word_B (s : Str) : Option Int :=
 bnd (tloop (to_word_l1T s) 0) fun n_19 =>
 some n_19
def to_word_ds : Decs := { decs := [(11, (.int .u8)), (12, .bool), (19, (.int .u8)), (20, .bool)], ups := [], loops := [(2, [], ⟨[.str, (.int .i64)], [], [(some 0, [.str, (.int .i64)], [])]⟩)] }
set_option maxRecDepth 100000 in
theorem to_word_t1 (O : Orc) (LP : LBody → LBody) (s : Str) : evalBodyD Tryd.prog (MT 56) to_word_ds Tryd.f56.ntmps O LP Tryd.f56 [(.str s)] [] = to_word_T1 O LP s := by kernel_rfl
theorem to_word_l1_ok (s : Str) : ∀ st l u, to_word_l1R s st l u → Imp (to_word_l1T s st) (to_word_l1 O loopLim l u) (StepR (to_word_l1R s) (to_word_l1X s)) := by
 rintro n_10 l u ⟨rfl, rfl⟩
 simp only [to_word_l1T, to_word_l1]
 refine Imp.chk rfl (Imp.chk rfl ?_)
 try simp only [evs, tys]
 refine Imp.cnd ?_ ?_
 ·refine Imp.op (f := fun a => .int .u8 (a.toNat : Int)) (fun a h => op_ixStr h) (fun a => rfl) fun y12 hy12 => ?_
  try simp only [evs, tys]
  refine Imp.call (f := ls_LetterE) rfl (fun a h => by first | exact ls_Letter_spec h | simpa only [evs, tys, evl] using ls_Letter_spec h) (fun a => by first | rfl | simp only [ls_LetterE, evk, chks]) fun y14 hy14 => ?_
  try simp only [ls_LetterE, evs, tys]
  refine Imp.cnd ?_ ?_
  ·exact Imp.some (StepR.next ⟨by first | rfl | simp only [evs, tys, evl], rfl⟩)
  ·refine Imp.cnd ?_ ?_
   ·refine Imp.op (f := fun a => .int .u8 (a.toNat : Int)) (fun a h => op_ixStr h) (fun a => rfl) fun y16 hy16 => ?_
    try simp only [evs, tys]
    refine Imp.call (f := ls_DigitE) rfl (fun a h => by first | exact ls_Digit_spec h | simpa only [evs, tys, evl] using ls_Digit_spec h) (fun a => by first | rfl | simp only [ls_DigitE, evk, chks]) fun y18 hy18 => ?_
    try simp only [ls_DigitE, evs, tys]
    refine Imp.cnd ?_ ?_
    ·exact Imp.some (StepR.next ⟨by first | rfl | simp only [evs, tys, evl], rfl⟩)
    ·exact Imp.some (StepR.brk (by first | rfl | simp only [evs, tys, evl, elim_inl, elim_inr]))
   ·exact Imp.some (StepR.brk (by first | rfl | simp only [evs, tys, evl, elim_inl, elim_inr]))
 ·exact Imp.some (StepR.brk (by first | rfl | simp only [evs, tys, evl, elim_inl, elim_inr]))
theorem to_word_imp (s : Str) : Imp (to_word_B s) (to_word_T1 O loopLim s) (fun r v => v = (to_wordE r, [])) := by
 simp only [to_word_B, to_word_T1]
 try simp only [evs, tys]
 refine Imp.bnd (Imp.loop (to_word_l1_ok s) ⟨by first | rfl | simp only [evs, tys, evl], rfl⟩) ?_
 rintro n_19 vy20 hy20
 cases hy20
 refine Imp.exHit rfl (Imp.chk rfl (Imp.chk rfl ?_))
 try simp only [evs, tys]
 exact Imp.some (by first | rfl | simp only [to_wordE, evs, tys, evl])
theorem to_word_run {s : Str} {r : Int} (h : to_word_B s = some r) : to_word s = some r := by
 obtain ⟨v, hv, rfl⟩ := to_word_imp s r h
 exact tO_of (pair_inj to_wordEj) (OL_runD to_word_ds rfl rfl Tryd.func56 ((to_word_t1 _ _ s).trans hv))
def to_whole_T1 (O : Orc) (LP : LBody → LBody) (s : Str) : Option (PV × UP) :=
 callp O 49 [(.str s), (.str [45])] fun x1 => cnd (chk .bool x1)
 (cnd (boolV x1)
 (bnd (slcLo 0 (.str s) (.int .i64 1)) fun x3 => cnd (chk .str x3)
 (callp O 65 [(.str (strV x3))] fun x5 => cnd (chk (.int .i64) x5)
 (cnd ((intV x5) == 0)
 (some ((.int .i64 0), []))
 (bnd (ixStr (.str s) (.int .i64 1)) fun x7 => cnd (chk (.int .u8) x7)
 (cnd ((intV x7) == 48)
 (some ((.int .i64 2), []))
 (some ((.int .i64 (IntKind.wrap .i64 (1 + (intV x5)))), []))) none)) none) none)
 (bnd (slcLo 0 (.str s) (.int .i64 0)) fun x9 => cnd (chk .str x9)
 (callp O 65 [(.str (strV x9))] fun x11 => cnd (chk (.int .i64) x11)
 (cnd ((intV x11) == 0)
 (some ((.int .i64 0), []))
 (bnd (ixStr (.str s) (.int .i64 0)) fun x13 => cnd (chk (.int .u8) x13)
 (cnd ((intV x13) == 48)
 (some ((.int .i64 1), []))
 (some ((.int .i64 (IntKind.wrap .i64 (0 + (intV x11)))), []))) none)) none) none)) none
noncomputable def to_whole_B (s : Str) : Option Int :=
 bnd (st_HasPrefix s [45]) fun y2 =>
 cnd y2
 (bnd (tslc s 1 (List.length s)) fun y4 =>
 bnd (to_digits y4) fun y6 =>
 cnd (y6 == 0)
 (some 0)
 (bnd (nthI s 1) fun y8 =>
 cnd ((y8.toNat : Int) == 48)
 (some 2)
 (some (IntKind.wrap .i64 (1 + y6)))))
 (bnd (tslc s 0 (List.length s)) fun y10 =>
 bnd (to_digits y10) fun y12 =>
 cnd (y12 == 0)
 (some 0)
 (bnd (nthI s 0) fun y14 =>
 cnd ((y14.toNat : Int) == 48)
 (some 1)
 (some (IntKind.wrap .i64 (0 + y12)))))
def to_whole_ds : Decs := { decs := [(6, .bool), (9, .str), (10, (.int .i64)), (17, (.int .u8))], ups := [], loops := [] }
set_option maxRecDepth 100000 in
theorem to_whole_t1 (O : Orc) (LP : LBody → LBody) (s : Str) : evalBodyD Tryd.prog (MT 64) to_whole_ds Tryd.f64.ntmps O LP Tryd.f64 [(.str s)] [] = to_whole_T1 O LP s := by kernel_rfl
theorem to_whole_imp (s : Str) : Imp (to_whole_B s) (to_whole_T1 O loopLim s) (fun r v => v = (to_wholeE r, [])) := by
 simp only [to_whole_B, to_whole_T1]
 try simp only [evs, tys]
 refine Imp.call (f := st_HasPrefixE) rfl (fun a h => by first | exact st_HasPrefix_spec h | simpa only [evs, tys, evl] using st_HasPrefix_spec h) (fun a => by first | rfl | simp only [st_HasPrefixE, evk, chks]) fun y2 hy2 => ?_
 try simp only [st_HasPrefixE, evs, tys]
 refine Imp.cnd ?_ ?_
 ·refine Imp.op (f := fun a => .str a) (fun a h => op_sslcLo h) (fun a => rfl) fun y4 hy4 => ?_
  try simp only [evs, tys]
  refine Imp.call (f := to_digitsE) rfl (fun a h => by first | exact to_digits_spec h | simpa only [evs, tys, evl] using to_digits_spec h) (fun a => by first | rfl | simp only [to_digitsE, evk, chks]) fun y6 hy6 => ?_
  try simp only [to_digitsE, evs, tys]
  refine Imp.cnd ?_ ?_
  ·exact Imp.some (by first | rfl | simp only [to_wholeE, evs, tys, evl])
  ·refine Imp.op (f := fun a => .int .u8 (a.toNat : Int)) (fun a h => op_ixStr h) (fun a => rfl) fun y8 hy8 => ?_
   try simp only [evs, tys]
   refine Imp.cnd ?_ ?_
   ·exact Imp.some (by first | rfl | simp only [to_wholeE, evs, tys, evl])
   ·exact Imp.some (by first | rfl | simp only [to_wholeE, evs, tys, evl])
 ·refine Imp.op (f := fun a => .str a) (fun a h => op_sslcLo h) (fun a => rfl) fun y10 hy10 => ?_
  try simp only [evs, tys]
  refine Imp.call (f := to_digitsE) rfl (fun a h => by first | exact to_digits_spec h | simpa only [evs, tys, evl] using to_digits_spec h) (fun a => by first | rfl | simp only [to_digitsE, evk, chks]) fun y12 hy12 => ?_
  try simp only [to_digitsE, evs, tys]
  refine Imp.cnd ?_ ?_
  ·exact Imp.some (by first | rfl | simp only [to_wholeE, evs, tys, evl])
  ·refine Imp.op (f := fun a => .int .u8 (a.toNat : Int)) (fun a h => op_ixStr h) (fun a => rfl) fun y14 hy14 => ?_
   try simp only [evs, tys]
   refine Imp.cnd ?_ ?_
   ·exact Imp.some (by first | rfl | simp only [to_wholeE, evs, tys, evl])
   ·exact Imp.some (by first | rfl | simp only [to_wholeE, evs, tys, evl])
theorem to_whole_run {s : Str} {r : Int} (h : to_whole_B s = some r) : to_whole s = some r := by
 obtain ⟨v, hv, rfl⟩ := to_whole_imp s r h
 exact tO_of (pair_inj to_wholeEj) (OL_runD to_whole_ds rfl rfl Tryd.func64 ((to_whole_t1 _ _ s).trans hv))
def to_digits_l1 (O : Orc) (LP : LBody → LBody) : LBody := fun s1 s1u => cnd (chkL [.str, (.int .i64)] s1) (cnd (chkU [] s1u)
 (cnd (decide ((intV (gt s1 1)) < (List.length (strV (gt s1 0)) : Int)))
 (bnd (ixStr (.str (strV (gt s1 0))) (.int .i64 (intV (gt s1 1)))) fun x7 => cnd (chk (.int .u8) x7)
 (callp O 57 [(.int .u8 (intV x7))] fun x9 => cnd (chk .bool x9)
 (cnd (boolV x9)
 (some (.nrm, [(.str (strV (gt s1 0))), (.int .i64 (IntKind.wrap .i64 ((intV (gt s1 1)) + 1)))], []))
 (some (.brk 0, [(.str (strV (gt s1 0))), (.int .i64 (intV (gt s1 1)))], []))) none) none)
 (some (.brk 0, [(.str (strV (gt s1 0))), (.int .i64 (intV (gt s1 1)))], []))) none) none
def to_digits_T1 (O : Orc) (LP : LBody → LBody) (s : Str) : Option (PV × UP) :=
 bnd (LP (to_digits_l1 O LP) [(.str s), (.int .i64 0)] []) fun y12 =>
 exIs y12.1 (some 0) (cnd (chkL [.str, (.int .i64)] y12.2.1) (cnd (chkU [] y12.2.2)
 (some ((.int .i64 (intV (gt y12.2.1 1))), [])) none) none)
 (none)
noncomputable def to_digits_l1T (s : Str) : Int → Option (Int ⊕ Int)
 | n_6 =>
 cnd (decide (n_6 < (List.length s : Int)))
  (bnd (nthI s n_6) fun y8 =>
  bnd (ls_Digit (y8.toNat : Int)) fun y10 =>
  cnd y10
  (some (.inl (IntKind.wrap .i64 (n_6 + 1))))
  (some (.inr n_6)))
  (some (.inr n_6))
abbrev to_digits_l1R (s : Str) (st : Int) (l : List PV) (u : UP) : Prop := l = [(.str s), (.int .i64 st)] ∧ u = []
abbrev to_digits_l1X (s : Str) (p : Int) (r : Ex × List PV × UP) : Prop := (fun (p : Int) => r = (Ex.brk 0, [(.str s), (.int .i64 p)], [])) p
noncomputable def to_digits_B (s : Str) : Option Int :=
 bnd (tloop (to_digits_l1T s) 0) fun n_11 =>
 some n_11
def to_digits_ds : Decs := { decs := [(11, (.int .u8)), (12, .bool)], ups := [], loops := [(2, [], ⟨[.str, (.int .i64)], [], [(some 0, [.str, (.int .i64)], [])]⟩)] }
set_option maxRecDepth 100000 in
theorem to_digits_t1 (O : Orc) (LP : LBody → LBody) (s : Str) : evalBodyD Tryd.prog (MT 65) to_digits_ds Tryd.f65.ntmps O LP Tryd.f65 [(.str s)] [] = to_digits_T1 O LP s := by kernel_rfl
theorem to_digits_l1_ok (s : Str) : ∀ st l u, to_digits_l1R s st l u → Imp (to_digits_l1T s st) (to_digits_l1 O loopLim l u) (StepR (to_digits_l1R s) (to_digits_l1X s)) := by
 rintro n_6 l u ⟨rfl, rfl⟩
 simp only [to_digits_l1T, to_digits_l1]
 refine Imp.chk rfl (Imp.chk rfl ?_)
 try simp only [evs, tys]
 refine Imp.cnd ?_ ?_
 ·refine Imp.op (f := fun a => .int .u8 (a.toNat : Int)) (fun a h => op_ixStr h) (fun a => rfl) fun y8 hy8 => ?_
  try simp only [evs, tys]
  refine Imp.call (f := ls_DigitE) rfl (fun a h => by first | exact ls_Digit_spec h | simpa only [evs, tys, evl] using ls_Digit_spec h) (fun a => by first | rfl | simp only [ls_DigitE, evk, chks]) fun y10 hy10 => ?_
  try simp only [ls_DigitE, evs, tys]
  refine Imp.cnd ?_ ?_
  ·exact Imp.some (StepR.next ⟨by first | rfl | simp only [evs, tys, evl], rfl⟩)
  ·exact Imp.some (StepR.brk (by first | rfl | simp only [evs, tys, evl, elim_inl, elim_inr]))
 ·exact Imp.some (StepR.brk (by first | rfl | simp only [evs, tys, evl, elim_inl, elim_inr]))
theorem to_digits_imp (s : Str) : Imp (to_digits_B s) (to_digits_T1 O loopLim s) (fun r v => v = (to_digitsE r, [])) := by
 simp only [to_digits_B, to_digits_T1]
 try simp only [evs, tys]
 refine Imp.bnd (Imp.loop (to_digits_l1_ok s) ⟨by first | rfl | simp only [evs, tys, evl], rfl⟩) ?_
 rintro n_11 vy12 hy12
 cases hy12
 refine Imp.exHit rfl (Imp.chk rfl (Imp.chk rfl ?_))
 try simp only [evs, tys]
 exact Imp.some (by first | rfl | simp only [to_digitsE, evs, tys, evl])
theorem to_digits_run {s : Str} {r : Int} (h : to_digits_B s = some r) : to_digits s = some r := by
 obtain ⟨v, hv, rfl⟩ := to_digits_imp s r h
 exact tO_of (pair_inj to_digitsEj) (OL_runD to_digits_ds rfl rfl Tryd.func65 ((to_digits_t1 _ _ s).trans hv))
def to_power_T1 (O : Orc) (LP : LBody → LBody) (s : Str) : Option (PV × UP) :=
 cnd (s == ([] : Str))
 (some ((.int .i64 0), []))
 (bnd (ixStr (.str s) (.int .i64 0)) fun x1 => cnd (chk (.int .u8) x1)
 (cnd ((intV x1) != 101)
 (bnd (ixStr (.str s) (.int .i64 0)) fun x3 => cnd (chk (.int .u8) x3)
 (cnd ((intV x3) != 69)
 (some ((.int .i64 0), []))
 (cnd (decide ((List.length s : Int) > 1))
 (bnd (ixStr (.str s) (.int .i64 1)) fun x5 => cnd (chk (.int .u8) x5)
 (cnd ((intV x5) == 43)
 (bnd (slcLo 0 (.str s) (.int .i64 2)) fun x7 => cnd (chk .str x7)
 (callp O 65 [(.str (strV x7))] fun x9 => cnd (chk (.int .i64) x9)
 (cnd ((intV x9) == 0)
 (some ((.int .i64 0), []))
 (some ((.int .i64 (IntKind.wrap .i64 (2 + (intV x9)))), []))) none) none)
 (bnd (ixStr (.str s) (.int .i64 1)) fun x11 => cnd (chk (.int .u8) x11)
 (cnd ((intV x11) == 45)
 (bnd (slcLo 0 (.str s) (.int .i64 2)) fun x13 => cnd (chk .str x13)
 (callp O 65 [(.str (strV x13))] fun x15 => cnd (chk (.int .i64) x15)
 (cnd ((intV x15) == 0)
 (some ((.int .i64 0), []))
 (some ((.int .i64 (IntKind.wrap .i64 (2 + (intV x15)))), []))) none) none)
 (bnd (slcLo 0 (.str s) (.int .i64 1)) fun x17 => cnd (chk .str x17)
 (callp O 65 [(.str (strV x17))] fun x19 => cnd (chk (.int .i64) x19)
 (cnd ((intV x19) == 0)
 (some ((.int .i64 0), []))
 (some ((.int .i64 (IntKind.wrap .i64 (1 + (intV x19)))), []))) none) none)) none)) none)
 (bnd (slcLo 0 (.str s) (.int .i64 1)) fun x21 => cnd (chk .str x21)
 (callp O 65 [(.str (strV x21))] fun x23 => cnd (chk (.int .i64) x23)
 (cnd ((intV x23) == 0)
 (some ((.int .i64 0), []))
 (some ((.int .i64 (IntKind.wrap .i64 (1 + (intV x23)))), []))) none) none))) none)
 (cnd (decide ((List.length s : Int) > 1))
 (bnd (ixStr (.str s) (.int .i64 1)) fun x25 => cnd (chk (.int .u8) x25)
 (cnd ((intV x25) == 43)
 (bnd (slcLo 0 (.str s) (.int .i64 2)) fun x27 => cnd (chk .str x27)
 (callp O 65 [(.str (strV x27))] fun x29 => cnd (chk (.int .i64) x29)
 (cnd ((intV x29) == 0)
 (some ((.int .i64 0), []))
 (some ((.int .i64 (IntKind.wrap .i64 (2 + (intV x29)))), []))) none) none)
 (bnd (ixStr (.str s) (.int .i64 1)) fun x31 => cnd (chk (.int .u8) x31)
 (cnd ((intV x31) == 45)
 (bnd (slcLo 0 (.str s) (.int .i64 2)) fun x33 => cnd (chk .str x33)
 (callp O 65 [(.str (strV x33))] fun x35 => cnd (chk (.int .i64) x35)
 (cnd ((intV x35) == 0)
 (some ((.int .i64 0), []))
 (some ((.int .i64 (IntKind.wrap .i64 (2 + (intV x35)))), []))) none) none)
 (bnd (slcLo 0 (.str s) (.int .i64 1)) fun x37 => cnd (chk .str x37)
 (callp O 65 [(.str (strV x37))] fun x39 => cnd (chk (.int .i64) x39)
 (cnd ((intV x39) == 0)
 (some ((.int .i64 0), []))
 (some ((.int .i64 (IntKind.wrap .i64 (1 + (intV x39)))), []))) none) none)) none)) none)
 (bnd (slcLo 0 (.str s) (.int .i64 1)) fun x41 => cnd (chk .str x41)
 (callp O 65 [(.str (strV x41))] fun x43 => cnd (chk (.int .i64) x43)
 (cnd ((intV x43) == 0)
 (some ((.int .i64 0), []))
 (some ((.int .i64 (IntKind.wrap .i64 (1 + (intV x43)))), []))) none) none))) none)
noncomputable def to_power_B (s : Str) : Option Int :=
 cnd (s == ([] : Str))
 (some 0)
 (bnd (nthI s 0) fun y2 =>
 cnd ((y2.toNat : Int) != 101)
 (bnd (nthI s 0) fun y4 =>
 cnd ((y4.toNat : Int) != 69)
 (some 0)
 (cnd (decide ((List.length s : Int) > 1))
 (bnd (nthI s 1) fun y6 =>
 cnd ((y6.toNat : Int) == 43)
 (bnd (tslc s 2 (List.length s)) fun y8 =>
 bnd (to_digits y8) fun y10 =>
 cnd (y10 == 0)
 (some 0)
 (some (IntKind.wrap .i64 (2 + y10))))
 (bnd (nthI s 1) fun y12 =>
 cnd ((y12.toNat : Int) == 45)
 (bnd (tslc s 2 (List.length s)) fun y14 =>
 bnd (to_digits y14) fun y16 =>
 cnd (y16 == 0)
 (some 0)
 (some (IntKind.wrap .i64 (2 + y16))))
 (bnd (tslc s 1 (List.length s)) fun y18 =>
 bnd (to_digits y18) fun y20 =>
 cnd (y20 == 0)
 (some 0)
 (some (IntKind.wrap .i64 (1 + y20))))))
 (bnd (tslc s 1 (List.length s)) fun y22 =>
 bnd (to_digits y22) fun y24 =>
 cnd (y24 == 0)
 (some 0)
 (some (IntKind.wrap .i64 (1 + y24))))))
 (cnd (decide ((List.length s : Int) > 1))
 (bnd (nthI s 1) fun y26 =>
 cnd ((y26.toNat : Int) == 43)
 (bnd (tslc s 2 (List.length s)) fun y28 =>
 bnd (to_digits y28) fun y30 =>
 cnd (y30 == 0)
 (some 0)
 (some (IntKind.wrap .i64 (2 + y30))))
 (bnd (nthI s 1) fun y32 =>
 cnd ((y32.toNat : Int) == 45)
 (bnd (tslc s 2 (List.length s)) fun y34 =>
 bnd (to_digits y34) fun y36 =>
 cnd (y36 == 0)
 (some 0)
 (some (IntKind.wrap .i64 (2 + y36))))
 (bnd (tslc s 1 (List.length s)) fun y38 =>
 bnd (to_digits y38) fun y40 =>
 cnd (y40 == 0)
 (some 0)
 (some (IntKind.wrap .i64 (1 + y40))))))
 (bnd (tslc s 1 (List.length s)) fun y42 =>
 bnd (to_digits y42) fun y44 =>
 cnd (y44 == 0)
 (some 0)
 (some (IntKind.wrap .i64 (1 + y44))))))
def to_power_ds : Decs := { decs := [(9, (.int .u8)), (13, (.int .u8)), (22, (.int .u8)), (26, (.int .u8)), (32, .str), (33, (.int .i64))], ups := [], loops := [] }
set_option maxRecDepth 100000 in
theorem to_power_t1 (O : Orc) (LP : LBody → LBody) (s : Str) : evalBodyD Tryd.prog (MT 66) to_power_ds Tryd.f66.ntmps O LP Tryd.f66 [(.str s)] [] = to_power_T1 O LP s := by kernel_rfl
theorem to_power_imp (s : Str) : Imp (to_power_B s) (to_power_T1 O loopLim s) (fun r v => v = (to_powerE r, [])) := by
 simp only [to_power_B, to_power_T1]
 try simp only [evs, tys]
 refine Imp.cnd ?_ ?_
 ·exact Imp.some (by first | rfl | simp only [to_powerE, evs, tys, evl])
 ·refine Imp.op (f := fun a => .int .u8 (a.toNat : Int)) (fun a h => op_ixStr h) (fun a => rfl) fun y2 hy2 => ?_
  try simp only [evs, tys]
  refine Imp.cnd ?_ ?_
  ·refine Imp.op (f := fun a => .int .u8 (a.toNat : Int)) (fun a h => op_ixStr h) (fun a => rfl) fun y4 hy4 => ?_
   try simp only [evs, tys]
   refine Imp.cnd ?_ ?_
   ·exact Imp.some (by first | rfl | simp only [to_powerE, evs, tys, evl])
   ·refine Imp.cnd ?_ ?_
    ·refine Imp.op (f := fun a => .int .u8 (a.toNat : Int)) (fun a h => op_ixStr h) (fun a => rfl) fun y6 hy6 => ?_
     try simp only [evs, tys]
     refine Imp.cnd ?_ ?_
     ·refine Imp.op (f := fun a => .str a) (fun a h => op_sslcLo h) (fun a => rfl) fun y8 hy8 => ?_
      try simp only [evs, tys]
      refine Imp.call (f := to_digitsE) rfl (fun a h => by first | exact to_digits_spec h | simpa only [evs, tys, evl] using to_digits_spec h) (fun a => by first | rfl | simp only [to_digitsE, evk, chks]) fun y10 hy10 => ?_
      try simp only [to_digitsE, evs, tys]
      refine Imp.cnd ?_ ?_
      ·exact Imp.some (by first | rfl | simp only [to_powerE, evs, tys, evl])
      ·exact Imp.some (by first | rfl | simp only [to_powerE, evs, tys, evl])
     ·refine Imp.op (f := fun a => .int .u8 (a.toNat : Int)) (fun a h => op_ixStr h) (fun a => rfl) fun y12 hy12 => ?_
      try simp only [evs, tys]
      refine Imp.cnd ?_ ?_
      ·refine Imp.op (f := fun a => .str a) (fun a h => op_sslcLo h) (fun a => rfl) fun y14 hy14 => ?_
       try simp only [evs, tys]
       refine Imp.call (f := to_digitsE) rfl (fun a h => by first | exact to_digits_spec h | simpa only [evs, tys, evl] using to_digits_spec h) (fun a => by first | rfl | simp only [to_digitsE, evk, chks]) fun y16 hy16 => ?_
       try simp only [to_digitsE, evs, tys]
       refine Imp.cnd ?_ ?_
       ·exact Imp.some (by first | rfl | simp only [to_powerE, evs, tys, evl])
       ·exact Imp.some (by first | rfl | simp only [to_powerE, evs, tys, evl])
      ·refine Imp.op (f := fun a => .str a) (fun a h => op_sslcLo h) (fun a => rfl) fun y18 hy18 => ?_
       try simp only [evs, tys]
       refine Imp.call (f := to_digitsE) rfl (fun a h => by first | exact to_digits_spec h | simpa only [evs, tys, evl] using to_digits_spec h) (fun a => by first | rfl | simp only [to_digitsE, evk, chks]) fun y20 hy20 => ?_
       try simp only [to_digitsE, evs, tys]
       refine Imp.cnd ?_ ?_
       ·exact Imp.some (by first | rfl | simp only [to_powerE, evs, tys, evl])
       ·exact Imp.some (by first | rfl | simp only [to_powerE, evs, tys, evl])
    ·refine Imp.op (f := fun a => .str a) (fun a h => op_sslcLo h) (fun a => rfl) fun y22 hy22 => ?_
     try simp only [evs, tys]
     refine Imp.call (f := to_digitsE) rfl (fun a h => by first | exact to_digits_spec h | simpa only [evs, tys, evl] using to_digits_spec h) (fun a => by first | rfl | simp only [to_digitsE, evk, chks]) fun y24 hy24 => ?_
     try simp only [to_digitsE, evs, tys]
     refine Imp.cnd ?_ ?_
     ·exact Imp.some (by first | rfl | simp only [to_powerE, evs, tys, evl])
     ·exact Imp.some (by first | rfl | simp only [to_powerE, evs, tys, evl])
  ·refine Imp.cnd ?_ ?_
   ·refine Imp.op (f := fun a => .int .u8 (a.toNat : Int)) (fun a h => op_ixStr h) (fun a => rfl) fun y26 hy26 => ?_
    try simp only [evs, tys]
    refine Imp.cnd ?_ ?_
    ·refine Imp.op (f := fun a => .str a) (fun a h => op_sslcLo h) (fun a => rfl) fun y28 hy28 => ?_
     try simp only [evs, tys]
     refine Imp.call (f := to_digitsE) rfl (fun a h => by first | exact to_digits_spec h | simpa only [evs, tys, evl] using to_digits_spec h) (fun a => by first | rfl | simp only [to_digitsE, evk, chks]) fun y30 hy30 => ?_
     try simp only [to_digitsE, evs, tys]
     refine Imp.cnd ?_ ?_
     ·exact Imp.some (by first | rfl | simp only [to_powerE, evs, tys, evl])
     ·exact Imp.some (by first | rfl | simp only [to_powerE, evs, tys, evl])
    ·refine Imp.op (f := fun a => .int .u8 (a.toNat : Int)) (fun a h => op_ixStr h) (fun a => rfl) fun y32 hy32 => ?_
     try simp only [evs, tys]
     refine Imp.cnd ?_ ?_
     ·refine Imp.op (f := fun a => .str a) (fun a h => op_sslcLo h) (fun a => rfl) fun y34 hy34 => ?_
      try simp only [evs, tys]
      refine Imp.call (f := to_digitsE) rfl (fun a h => by first | exact to_digits_spec h | simpa only [evs, tys, evl] using to_digits_spec h) (fun a => by first | rfl | simp only [to_digitsE, evk, chks]) fun y36 hy36 => ?_
      try simp only [to_digitsE, evs, tys]
      refine Imp.cnd ?_ ?_
      ·exact Imp.some (by first | rfl | simp only [to_powerE, evs, tys, evl])
      ·exact Imp.some (by first | rfl | simp only [to_powerE, evs, tys, evl])
     ·refine Imp.op (f := fun a => .str a) (fun a h => op_sslcLo h) (fun a => rfl) fun y38 hy38 => ?_
      try simp only [evs, tys]
      refine Imp.call (f := to_digitsE) rfl (fun a h => by first | exact to_digits_spec h | simpa only [evs, tys, evl] using to_digits_spec h) (fun a => by first | rfl | simp only [to_digitsE, evk, chks]) fun y40 hy40 => ?_
      try simp only [to_digitsE, evs, tys]
      refine Imp.cnd ?_ ?_
      ·exact Imp.some (by first | rfl | simp only [to_powerE, evs, tys, evl])
      ·exact Imp.some (by first | rfl | simp only [to_powerE, evs, tys, evl])
   ·refine Imp.op (f := fun a => .str a) (fun a h => op_sslcLo h) (fun a => rfl) fun y42 hy42 => ?_
    try simp only [evs, tys]
    refine Imp.call (f := to_digitsE) rfl (fun a h => by first | exact to_digits_spec h | simpa only [evs, tys, evl] using to_digits_spec h) (fun a => by first | rfl | simp only [to_digitsE, evk, chks]) fun y44 hy44 => ?_
    try simp only [to_digitsE, evs, tys]
    refine Imp.cnd ?_ ?_
    ·exact Imp.some (by first | rfl | simp only [to_powerE, evs, tys, evl])
    ·exact Imp.some (by first | rfl | simp only [to_powerE, evs, tys, evl])
theorem to_power_run {s : Str} {r : Int} (h : to_power_B s = some r) : to_power s = some r := by
 obtain ⟨v, hv, rfl⟩ := to_power_imp s r h
 exact tO_of (pair_inj to_powerEj) (OL_runD to_power_ds rfl rfl Tryd.func66 ((to_power_t1 _ _ s).trans hv))
theorem uf_DecodeRuneInString_run {s : Str} {r : Int × Int} (h : tDecode s = some r) : uf_DecodeRuneInString s = some r := tO_of (pair_inj uf_DecodeRuneInStringEj) (OL_ext (g := xDecode) rfl (xDecode_of h))
def stringslite_HasPrefix_T1 (O : Orc) (LP : LBody → LBody) (s : Str) (prefix0 : Str) : Option (PV × UP) :=
 cnd (decide ((List.length s : Int) ≥ (List.length prefix0 : Int)))
 (bnd (slcHi 0 (.str s) (.int .i64 (List.length prefix0 : Int))) fun x1 => cnd (chk .str x1)
 (some ((.bool ((strV x1) == prefix0)), [])) none)
 (some ((.bool false), []))
noncomputable def stringslite_HasPrefix_B (s : Str) (prefix0 : Str) : Option Bool :=
 cnd (decide ((List.length s : Int) ≥ (List.length prefix0 : Int)))
 (bnd (tslc s 0 (List.length prefix0 : Int)) fun y2 =>
 some (y2 == prefix0))
 (some false)
def stringslite_HasPrefix_ds : Decs := { decs := [(14, .str)], ups := [], loops := [] }
set_option maxRecDepth 100000 in
theorem stringslite_HasPrefix_t1 (O : Orc) (LP : LBody → LBody) (s : Str) (prefix0 : Str) : evalBodyD Tryd.prog (MT 80) stringslite_HasPrefix_ds Tryd.f80.ntmps O LP Tryd.f80 [(.str s), (.str prefix0)] [] = stringslite_HasPrefix_T1 O LP s prefix0 := by kernel_rfl
theorem stringslite_HasPrefix_imp (s : Str) (prefix0 : Str) : Imp (stringslite_HasPrefix_B s prefix0) (stringslite_HasPrefix_T1 O loopLim s prefix0) (fun r v => v = (stringslite_HasPrefixE r, [])) := by
 simp only [stringslite_HasPrefix_B, stringslite_HasPrefix_T1]
 try simp only [evs, tys]
 refine Imp.cnd ?_ ?_
 ·refine Imp.op (f := fun a => .str a) (fun a h => op_sslcHi h) (fun a => rfl) fun y2 hy2 => ?_
  try simp only [evs, tys]
  exact Imp.some (by first | rfl | simp only [stringslite_HasPrefixE, evs, tys, evl])
 ·exact Imp.some (by first | rfl | simp only [stringslite_HasPrefixE, evs, tys, evl])
theorem stringslite_HasPrefix_run {s : Str} {prefix0 : Str} {r : Bool} (h : stringslite_HasPrefix_B s prefix0 = some r) : stringslite_HasPrefix s prefix0 = some r := by
 obtain ⟨v, hv, rfl⟩ := stringslite_HasPrefix_imp s prefix0 r h
 exact tO_of (pair_inj stringslite_HasPrefixEj) (OL_runD stringslite_HasPrefix_ds rfl rfl Tryd.func80 ((stringslite_HasPrefix_t1 _ _ s prefix0).trans hv))
end Go.Proofs.YtafndpggajdmiaaDoor

import Derived.Test.YtafndpggajdmiaaDoorEGa
set_option linter.unusedVariables false
set_option linter.unusedSimpArgs false
set_option linter.unusedSimpArgs false
open Go Go.Ev Go.Ev.PV
namespace Go.Proofs.YtafndpggajdmiaaDoor
def s3_TokenPrints_l1 (O : Orc) (LP : LBody → LBody) : LBody := fun s11 s11u => cnd (chkL [(.sl false), .bool, (.slb false), .str, .bool, .str, .bool, (.int .i64)] s11) (cnd (chkU [] s11u)
 (cnd (decide ((intV (gt s11 7)) < (List.length (esV (gt s11 0)) : Int)))
 (bnd (ix 2 (.slice (esV (gt s11 0)) [] false) (.int .i64 (intV (gt s11 7)))) fun x21 => cnd (chk (.ref shToken) x21)
 (callp O 24 [(.agg [(.int .i64 (intV (gt (aggV (refV x21)) 0))), (.str (strV (gt (aggV (refV x21)) 1)))])] fun x23 => cnd (chk .bool x23)
 (bnd (ix 2 (.slice (esV (gt s11 0)) [] false) (.int .i64 (intV (gt s11 7)))) fun x25 => cnd (chk (.ref shToken) x25)
 (callp O 25 [(.agg [(.int .i64 (intV (gt (aggV (refV x25)) 0))), (.str (strV (gt (aggV (refV x25)) 1)))])] fun x27 => cnd (chk .bool x27)
 (cnd (!((boolV x23) == (boolV x27)))
 (some (.ret, [(.slice (esV (gt s11 0)) [] false), (.bool false), (.slice (esV (gt s11 2)) (bsV (gt s11 2)) false), (.str (strV (gt s11 3))), (.bool (boolV (gt s11 4))), (.str (strV (gt s11 5))), (.bool (boolV (gt s11 6))), (.int .i64 (intV (gt s11 7)))], []))
 (some (.nrm, [(.slice (esV (gt s11 0)) [] false), (.bool (boolV (gt s11 1))), (.slice (esV (gt s11 2)) (bsV (gt s11 2)) false), (.str (strV (gt s11 3))), (.bool (boolV (gt s11 4))), (.str (strV (gt s11 5))), (.bool (boolV (gt s11 6))), (.int .i64 (IntKind.wrap .i64 ((intV (gt s11 7)) + 1)))], []))) none) none) none) none)
 (some (.brk 0, [(.slice (esV (gt s11 0)) [] false), (.bool (boolV (gt s11 1))), (.slice (esV (gt s11 2)) (bsV (gt s11 2)) false), (.str (strV (gt s11 3))), (.bool (boolV (gt s11 4))), (.str (strV (gt s11 5))), (.bool (boolV (gt s11 6))), (.int .i64 (intV (gt s11 7)))], []))) none) none
def s3_TokenPrints_T1 (O : Orc) (LP : LBody → LBody) (l0 : List GToken) : Option (PV × UP) :=
 callp O 20 [(.slice (List.map encToken l0) [] false)] fun x1 => cnd (chk .bool x1)
 (cnd (!(boolV x1))
 (callp O 11 [] fun x3 => cnd (chk .bool x3)
 (some ((.bool (boolV x3)), [])) none)
 (callp O 21 [(.slice (List.map encToken l0) [] false)] fun x5 => cnd (chk (.slb false) x5)
 (callp O 22 [(.slice (esV x5) [] false)] fun x7 => cnd (chk (.tup [.str, .bool]) x7)
 (callp O 23 [(.slice (List.map encToken l0) [] false)] fun x9 => cnd (chk (.tup [.str, .bool]) x9)
 (bnd (LP (s3_TokenPrints_l1 O LP) [(.slice (List.map encToken l0) [] false), (.bool false), (.slice (esV x5) (bsV x5) false), (.str (strV (gt (tupV x7) 0))), (.bool (boolV (gt (tupV x7) 1))), (.str (strV (gt (tupV x9) 0))), (.bool (boolV (gt (tupV x9) 1))), (.int .i64 0)] []) fun y33 =>
 exIs y33.1 (some 0) (cnd (chkL [(.sl false), .bool, (.slb false), .str, .bool, .str, .bool, (.int .i64)] y33.2.1) (cnd (chkU [] y33.2.2)
 (cnd ((strV (gt y33.2.1 3)) == (strV (gt y33.2.1 5)))
 (cnd ((boolV (gt y33.2.1 4)) == (boolV (gt y33.2.1 6)))
 (callp O 26 [(.slice (esV (gt y33.2.1 2)) (bsV (gt y33.2.1 2)) false), (.slice (esV (gt y33.2.1 0)) [] false)] fun x34 => cnd (chk .bool x34)
 (cnd (boolV x34)
 (callp O 11 [] fun x36 => cnd (chk .bool x36)
 (some ((.bool (boolV x36)), [])) none)
 (some ((.bool false), []))) none)
 (some ((.bool false), [])))
 (some ((.bool false), []))) none) none)
 (exIs y33.1 none (cnd (chkL [(.sl false), .bool, (.slb false), .str, .bool, .str, .bool, (.int .i64)] y33.2.1) (cnd (chkU [] y33.2.2)
 (some ((.bool (boolV (gt y33.2.1 1))), [])) none) none)
 (none))) none) none) none)) none
noncomputable def s3_TokenPrints_l1T (l0 : List GToken) : Int → Option (Int ⊕ (Unit ⊕ Unit))
 | i_20 =>
 cnd (decide (i_20 < (List.length l0 : Int)))
  (bnd (nthI l0 i_20) fun y22 =>
  bnd (to_Right y22) fun y24 =>
  bnd (nthI l0 i_20) fun y26 =>
  bnd (r1_RightToken y26) fun y28 =>
  cnd (!(y24 == y28))
  (some (.inr (.inr ())))
  (some (.inl (IntKind.wrap .i64 (i_20 + 1)))))
  (some (.inr (.inl ())))
abbrev s3_TokenPrints_l1R (l0 : List GToken) (y6 : (List GToken × List GToken)) (y8 : Str × Bool) (y10 : Str × Bool) (st : Int) (l : List PV) (u : UP) : Prop := l = [(.slice (List.map encToken l0) [] false), (.bool false), (.slice (List.map encToken y6.1) (List.map encToken y6.2) false), (.str y8.1), (.bool y8.2), (.str y10.1), (.bool y10.2), (.int .i64 st)] ∧ u = []
abbrev s3_TokenPrints_l1X (l0 : List GToken) (y6 : (List GToken × List GToken)) (y8 : Str × Bool) (y10 : Str × Bool) (p : Unit ⊕ Unit) (r : Ex × List PV × UP) : Prop := elim p (fun (p : Unit) => ∃ (i_30 : Int), r = (Ex.brk 0, [(.slice (List.map encToken l0) [] false), (.bool false), (.slice (List.map encToken y6.1) (List.map encToken y6.2) false), (.str y8.1), (.bool y8.2), (.str y10.1), (.bool y10.2), (.int .i64 i_30)], [])) (fun q2 => (fun (p : Unit) => ∃ (i_32 : Int), r = (Ex.ret, [(.slice (List.map encToken l0) [] false), (.bool false), (.slice (List.map encToken y6.1) (List.map encToken y6.2) false), (.str y8.1), (.bool y8.2), (.str y10.1), (.bool y10.2), (.int .i64 i_32)], [])) q2)
noncomputable def s3_TokenPrints_B (l0 : List GToken) : Option Bool :=
 bnd (s3_short l0) fun y2 =>
 cnd (!y2)
 (bnd (s3_awake) fun y4 =>
 some y4)
 (bnd (seinekeep_Tokens l0) fun y6 =>
 bnd (to_Print y6.1) fun y8 =>
 bnd (r1_Print l0) fun y10 =>
 bnd (tloop (s3_TokenPrints_l1T l0) 0) fun e33_2 => elim e33_2
 (fun p33 =>
 cnd (y8.1 == y10.1)
 (cnd (y8.2 == y10.2)
 (bnd (seinekeep_TokensStay y6.1 y6.2 l0) fun y35 =>
 cnd y35
 (bnd (s3_awake) fun y37 =>
 some y37)
 (some false))
 (some false))
 (some false))
 (fun p33 =>
 some false))
def s3_TokenPrints_ds : Decs := { decs := [(10, .bool), (12, .bool), (14, (.slb false)), (17, (.tup [.str, .bool])), (22, (.tup [.str, .bool])), (33, (.ref shToken)), (35, .bool), (38, (.ref shToken)), (40, .bool), (53, .bool), (56, .bool)], ups := [], loops := [(7, [], ⟨[(.sl false), .bool, (.slb false), .str, .bool, .str, .bool, (.int .i64)], [], [(some 0, [(.sl false), .bool, (.slb false), .str, .bool, .str, .bool, (.int .i64)], []), (none, [(.sl false), .bool, (.slb false), .str, .bool, .str, .bool, (.int .i64)], [])]⟩)] }
set_option maxRecDepth 100000 in
theorem s3_TokenPrints_t1 (O : Orc) (LP : LBody → LBody) (l0 : List GToken) : evalBodyD Tryd.prog (MT 8) s3_TokenPrints_ds Tryd.f8.ntmps O LP Tryd.f8 [(.slice (List.map encToken l0) [] false)] [] = s3_TokenPrints_T1 O LP l0 := by kernel_rfl
theorem s3_TokenPrints_l1_ok (l0 : List GToken) (y6 : (List GToken × List GToken)) (y8 : Str × Bool) (y10 : Str × Bool) : ∀ st l u, s3_TokenPrints_l1R l0 y6 y8 y10 st l u → Imp (s3_TokenPrints_l1T l0 st) (s3_TokenPrints_l1 O loopLim l u) (StepR (s3_TokenPrints_l1R l0 y6 y8 y10) (s3_TokenPrints_l1X l0 y6 y8 y10)) := by
 rintro i_20 l u ⟨rfl, rfl⟩
 simp only [s3_TokenPrints_l1T, s3_TokenPrints_l1]
 refine Imp.chk rfl (Imp.chk rfl ?_)
 try simp only [evs, tys]
 refine Imp.cnd ?_ ?_
 ·refine Imp.op (f := fun a => .ref (encToken a)) (fun a h => op_ix (enc := encToken) (by first | rfl | simp only [evs, tys, evl]) ⟨by first | rfl | simp only [evs, tys, evc], by decide⟩ h) (fun a => chk_GToken a) fun y22 hy22 => ?_
  try simp only [evs, tys]
  refine Imp.call (f := to_RightE) rfl (fun a h => by first | exact to_Right_spec h | simpa only [evs, tys, evl] using to_Right_spec h) (fun a => by first | rfl | simp only [to_RightE, evk, chks]) fun y24 hy24 => ?_
  try simp only [to_RightE, evs, tys]
  refine Imp.op (f := fun a => .ref (encToken a)) (fun a h => op_ix (enc := encToken) (by first | rfl | simp only [evs, tys, evl]) ⟨by first | rfl | simp only [evs, tys, evc], by decide⟩ h) (fun a => chk_GToken a) fun y26 hy26 => ?_
  try simp only [evs, tys]
  refine Imp.call (f := r1_RightTokenE) rfl (fun a h => by first | exact r1_RightToken_spec h | simpa only [evs, tys, evl] using r1_RightToken_spec h) (fun a => by first | rfl | simp only [r1_RightTokenE, evk, chks]) fun y28 hy28 => ?_
  try simp only [r1_RightTokenE, evs, tys]
  refine Imp.cnd ?_ ?_
  ·exact Imp.some (StepR.ret ⟨i_20, by first | rfl | simp only [evs, tys, evl, elim_inl, elim_inr]⟩)
  ·exact Imp.some (StepR.next ⟨by first | rfl | simp only [evs, tys, evl], rfl⟩)
 ·exact Imp.some (StepR.brk ⟨i_20, by first | rfl | simp only [evs, tys, evl, elim_inl, elim_inr]⟩)
theorem s3_TokenPrints_imp (l0 : List GToken) : Imp (s3_TokenPrints_B l0) (s3_TokenPrints_T1 O loopLim l0) (fun r v => v = (s3_TokenPrintsE r, [])) := by
 simp only [s3_TokenPrints_B, s3_TokenPrints_T1]
 try simp only [evs, tys]
 refine Imp.call (f := s3_shortE) rfl (fun a h => by first | exact s3_short_spec h | simpa only [evs, tys, evl] using s3_short_spec h) (fun a => by first | rfl | simp only [s3_shortE, evk, chks]) fun y2 hy2 => ?_
 try simp only [s3_shortE, evs, tys]
 refine Imp.cnd ?_ ?_
 ·refine Imp.call (f := s3_awakeE) rfl (fun a h => by first | exact s3_awake_spec h | simpa only [evs, tys, evl] using s3_awake_spec h) (fun a => by first | rfl | simp only [s3_awakeE, evk, chks]) fun y4 hy4 => ?_
  try simp only [s3_awakeE, evs, tys]
  exact Imp.some (by first | rfl | simp only [s3_TokenPrintsE, evs, tys, evl])
 ·refine Imp.call (f := seinekeep_TokensE) rfl (fun a h => by first | exact seinekeep_Tokens_spec h | simpa only [evs, tys, evl] using seinekeep_Tokens_spec h) (fun a => by first | rfl | simp only [seinekeep_TokensE, evk, chks]) fun y6 hy6 => ?_
  try simp only [seinekeep_TokensE, evs, tys]
  refine Imp.call (f := to_PrintE) rfl (fun a h => by first | exact to_Print_spec h | simpa only [evs, tys, evl] using to_Print_spec h) (fun a => by first | rfl | simp only [to_PrintE, evk, chks]) fun y8 hy8 => ?_
  try simp only [to_PrintE, evs, tys]
  refine Imp.call (f := r1_PrintE) rfl (fun a h => by first | exact r1_Print_spec h | simpa only [evs, tys, evl] using r1_Print_spec h) (fun a => by first | rfl | simp only [r1_PrintE, evk, chks]) fun y10 hy10 => ?_
  try simp only [r1_PrintE, evs, tys]
  refine Imp.bnd (Imp.loop (s3_TokenPrints_l1_ok l0 y6 y8 y10) ⟨by first | rfl | simp only [evs, tys, evl], rfl⟩) ?_
  rintro (p | p) vy33 hy33
  ·try simp only [elim_inl, elim_inr]
   obtain ⟨i_30, rfl⟩ := hy33
   refine Imp.exHit rfl (Imp.chk rfl (Imp.chk rfl ?_))
   try simp only [evs, tys]
   refine Imp.cnd ?_ ?_
   ·refine Imp.cnd ?_ ?_
    ·refine Imp.call (f := seinekeep_TokensStayE) rfl (fun a h => by first | exact seinekeep_TokensStay_spec h | simpa only [evs, tys, evl] using seinekeep_TokensStay_spec h) (fun a => by first | rfl | simp only [seinekeep_TokensStayE, evk, chks]) fun y35 hy35 => ?_
     try simp only [seinekeep_TokensStayE, evs, tys]
     refine Imp.cnd ?_ ?_
     ·refine Imp.call (f := s3_awakeE) rfl (fun a h => by first | exact s3_awake_spec h | simpa only [evs, tys, evl] using s3_awake_spec h) (fun a => by first | rfl | simp only [s3_awakeE, evk, chks]) fun y37 hy37 => ?_
      try simp only [s3_awakeE, evs, tys]
      exact Imp.some (by first | rfl | simp only [s3_TokenPrintsE, evs, tys, evl])
     ·exact Imp.some (by first | rfl | simp only [s3_TokenPrintsE, evs, tys, evl])
    ·exact Imp.some (by first | rfl | simp only [s3_TokenPrintsE, evs, tys, evl])
   ·exact Imp.some (by first | rfl | simp only [s3_TokenPrintsE, evs, tys, evl])
  ·try simp only [elim_inl, elim_inr]
   obtain ⟨i_32, rfl⟩ := hy33
   refine Imp.exMiss rfl ?_
   refine Imp.exHit rfl (Imp.chk rfl (Imp.chk rfl ?_))
   try simp only [evs, tys]
   exact Imp.some (by first | rfl | simp only [s3_TokenPrintsE, evs, tys, evl])
theorem s3_TokenPrints_run {l0 : List GToken} {r : Bool} (h : s3_TokenPrints_B l0 = some r) : s3_TokenPrints l0 = some r := by
 obtain ⟨v, hv, rfl⟩ := s3_TokenPrints_imp l0 r h
 exact tO_of (pair_inj s3_TokenPrintsEj) (OL_runD s3_TokenPrints_ds rfl rfl Tryd.func8 ((s3_TokenPrints_t1 _ _ l0).trans hv))
def s3_short_l1 (O : Orc) (LP : LBody → LBody) : LBody := fun s1 s1u => cnd (chkL [(.sl false), (.int .i64), (.int .i64)] s1) (cnd (chkU [] s1u)
 (cnd (decide ((intV (gt s1 2)) < (List.length (esV (gt s1 0)) : Int)))
 (cnd (decide ((intV (gt s1 1)) ≤ 3000))
 (bnd (ix 2 (.slice (esV (gt s1 0)) [] false) (.int .i64 (intV (gt s1 2)))) fun x6 => cnd (chk (.ref shToken) x6)
 (some (.nrm, [(.slice (esV (gt s1 0)) [] false), (.int .i64 (IntKind.wrap .i64 ((IntKind.wrap .i64 ((intV (gt s1 1)) + 1)) + (List.length (strV (gt (aggV (refV x6)) 1)) : Int)))), (.int .i64 (IntKind.wrap .i64 ((intV (gt s1 2)) + 1)))], [])) none)
 (some (.brk 0, [(.slice (esV (gt s1 0)) [] false), (.int .i64 (intV (gt s1 1))), (.int .i64 (intV (gt s1 2)))], [])))
 (some (.brk 0, [(.slice (esV (gt s1 0)) [] false), (.int .i64 (intV (gt s1 1))), (.int .i64 (intV (gt s1 2)))], []))) none) none
def s3_short_T1 (O : Orc) (LP : LBody → LBody) (l0 : List GToken) : Option (PV × UP) :=
 bnd (LP (s3_short_l1 O LP) [(.slice (List.map encToken l0) [] false), (.int .i64 0), (.int .i64 0)] []) fun y10 =>
 exIs y10.1 (some 0) (cnd (chkL [(.sl false), (.int .i64), (.int .i64)] y10.2.1) (cnd (chkU [] y10.2.2)
 (some ((.bool (decide ((intV (gt y10.2.1 1)) ≤ 3000))), [])) none) none)
 (none)
noncomputable def s3_short_l1T (l0 : List GToken) : (Int × Int) → Option ((Int × Int) ⊕ Int)
 | (n_4, i_5) =>
 cnd (decide (i_5 < (List.length l0 : Int)))
  (cnd (decide (n_4 ≤ 3000))
  (bnd (nthI l0 i_5) fun y7 =>
  some (.inl ((IntKind.wrap .i64 ((IntKind.wrap .i64 (n_4 + 1)) + (List.length y7.s : Int))), (IntKind.wrap .i64 (i_5 + 1)))))
  (some (.inr n_4)))
  (some (.inr n_4))
abbrev s3_short_l1R (l0 : List GToken) (st : Int × Int) (l : List PV) (u : UP) : Prop := l = [(.slice (List.map encToken l0) [] false), (.int .i64 st.1), (.int .i64 st.2)] ∧ u = []
abbrev s3_short_l1X (l0 : List GToken) (p : Int) (r : Ex × List PV × UP) : Prop := (fun (p : Int) => ∃ (i_9 : Int), r = (Ex.brk 0, [(.slice (List.map encToken l0) [] false), (.int .i64 p), (.int .i64 i_9)], [])) p
noncomputable def s3_short_B (l0 : List GToken) : Option Bool :=
 bnd (tloop (s3_short_l1T l0) (0, 0)) fun n_8 =>
 some (decide (n_8 ≤ 3000))
def s3_short_ds : Decs := { decs := [(19, (.ref shToken))], ups := [], loops := [(3, [], ⟨[(.sl false), (.int .i64), (.int .i64)], [], [(some 0, [(.sl false), (.int .i64), (.int .i64)], [])]⟩)] }
set_option maxRecDepth 100000 in
theorem s3_short_t1 (O : Orc) (LP : LBody → LBody) (l0 : List GToken) : evalBodyD Tryd.prog (MT 20) s3_short_ds Tryd.f20.ntmps O LP Tryd.f20 [(.slice (List.map encToken l0) [] false)] [] = s3_short_T1 O LP l0 := by kernel_rfl
theorem s3_short_l1_ok (l0 : List GToken) : ∀ st l u, s3_short_l1R l0 st l u → Imp (s3_short_l1T l0 st) (s3_short_l1 O loopLim l u) (StepR (s3_short_l1R l0) (s3_short_l1X l0)) := by
 rintro ⟨n_4, i_5⟩ l u ⟨rfl, rfl⟩
 simp only [s3_short_l1T, s3_short_l1]
 refine Imp.chk rfl (Imp.chk rfl ?_)
 try simp only [evs, tys]
 refine Imp.cnd ?_ ?_
 ·refine Imp.cnd ?_ ?_
  ·refine Imp.op (f := fun a => .ref (encToken a)) (fun a h => op_ix (enc := encToken) (by first | rfl | simp only [evs, tys, evl]) ⟨by first | rfl | simp only [evs, tys, evc], by decide⟩ h) (fun a => chk_GToken a) fun y7 hy7 => ?_
   try simp only [evs, tys]
   exact Imp.some (StepR.next ⟨by first | rfl | simp only [evs, tys, evl], rfl⟩)
  ·exact Imp.some (StepR.brk ⟨i_5, by first | rfl | simp only [evs, tys, evl, elim_inl, elim_inr]⟩)
 ·exact Imp.some (StepR.brk ⟨i_5, by first | rfl | simp only [evs, tys, evl, elim_inl, elim_inr]⟩)
theorem s3_short_imp (l0 : List GToken) : Imp (s3_short_B l0) (s3_short_T1 O loopLim l0) (fun r v => v = (s3_shortE r, [])) := by
 simp only [s3_short_B, s3_short_T1]
 try simp only [evs, tys]
 refine Imp.bnd (Imp.loop (s3_short_l1_ok l0) ⟨by first | rfl | simp only [evs, tys, evl], rfl⟩) ?_
 rintro n_8 vy10 hy10
 obtain ⟨i_9, rfl⟩ := hy10
 refine Imp.exHit rfl (Imp.chk rfl (Imp.chk rfl ?_))
 try simp only [evs, tys]
 exact Imp.some (by first | rfl | simp only [s3_shortE, evs, tys, evl])
theorem s3_short_run {l0 : List GToken} {r : Bool} (h : s3_short_B l0 = some r) : s3_short l0 = some r := by
 obtain ⟨v, hv, rfl⟩ := s3_short_imp l0 r h
 exact tO_of (pair_inj s3_shortEj) (OL_runD s3_short_ds rfl rfl Tryd.func20 ((s3_short_t1 _ _ l0).trans hv))
theorem s3_awake_run {r : Bool} (n : Nat) (h : evalK Tryd.prog MT XT n 11 [] [] = some (s3_awakeE r, [])) : s3_awake = some r := tO_of (pair_inj s3_awakeEj) (evalK_OL n h)
def seinekeep_Tokens_T1 (O : Orc) (LP : LBody → LBody) (l0 : List GToken) : Option (PV × UP) :=
 bnd (mkSl 2 (.int .i64 (IntKind.wrap .i64 ((List.length (List.map encToken l0) : Int) + 1)))) fun x1 => cnd (chk .any x1)
 (bnd (apd 2 x1 (.slice (List.map encToken l0) [] false)) fun x3 => cnd (chk .any x3)
 (bnd (apd 2 x3 (.slice [(.agg [(.int .i64 77), (.str [])])] [] true)) fun x5 => cnd (chk (.sl true) x5)
 (bnd (slcHi 2 (.slice (esV x5) [] true) (.int .i64 (List.length (List.map encToken l0) : Int))) fun x7 => cnd (chk (.slb false) x7)
 (some ((.slice (esV x7) (bsV x7) false), [])) none) none) none) none
noncomputable def seinekeep_Tokens_B (l0 : List GToken) : Option (List GToken × List GToken) :=
 bnd (tmk (IntKind.wrap .i64 ((List.length l0 : Int) + 1))) fun y2 =>
 bnd (tapp ([] : List GToken) l0) fun y4 =>
 bnd (tapp y4 [(GToken.mk 77 [])]) fun y6 =>
 bnd (tslb (y6 : List GToken) [] 0 (List.length l0 : Int)) fun y8 =>
 some (y8.1, y8.2)
def seinekeep_Tokens_ds : Decs := { decs := [(6, .any), (8, .any), (11, (.sl true)), (14, (.slb false))], ups := [], loops := [] }
set_option maxRecDepth 100000 in
theorem seinekeep_Tokens_t1 (O : Orc) (LP : LBody → LBody) (l0 : List GToken) : evalBodyD Tryd.prog (MT 21) seinekeep_Tokens_ds Tryd.f21.ntmps O LP Tryd.f21 [(.slice (List.map encToken l0) [] false)] [] = seinekeep_Tokens_T1 O LP l0 := by kernel_rfl
theorem seinekeep_Tokens_imp (l0 : List GToken) : Imp (seinekeep_Tokens_B l0) (seinekeep_Tokens_T1 O loopLim l0) (fun r v => v = (seinekeep_TokensE r, [])) := by
 simp only [seinekeep_Tokens_B, seinekeep_Tokens_T1]
 try simp only [evs, tys]
 refine Imp.op (f := fun _ => slOr 2 (List.map encToken [])) (fun a h => op_mk h) (fun a => rfl) fun y2 hy2 => ?_
 try simp only [evs, tys]
 refine Imp.op (f := fun a => slOr 2 (List.map encToken a)) (fun a h => op_apdOr (enc := encToken) (by first | rfl | simp only [evs, tys, evl]) (fun a => by first | rfl | simp only [evs, tys, evc]) h) (fun a => rfl) fun y4 hy4 => ?_
 try simp only [evs, tys]
 refine Imp.op (f := fun a => .slice (List.map encToken a) [] true) (fun a h => op_apdOr1 (enc := encToken) (by first | rfl | simp only [evs, tys, evl]) (fun a => by first | rfl | simp only [evs, tys, evc]) (by simp) h) (fun a => rfl) fun y6 hy6 => ?_
 try simp only [evs, tys]
 refine Imp.op (f := fun a => .slice (List.map encToken a.1) (List.map encToken a.2) false) (fun a h => op_slbHi (enc := encToken) (by first | rfl | simp only [evs, tys, evl]) (by first | rfl | exact List.map_nil.symm | simp only [evs, tys, evl]) (fun a => by first | rfl | simp only [evs, tys, evc]) h) (fun a => rfl) fun y8 hy8 => ?_
 try simp only [evs, tys]
 exact Imp.some (by first | rfl | simp only [seinekeep_TokensE, evs, tys, evl])
theorem seinekeep_Tokens_run {l0 : List GToken} {r : (List GToken × List GToken)} (h : seinekeep_Tokens_B l0 = some r) : seinekeep_Tokens l0 = some r := by
 obtain ⟨v, hv, rfl⟩ := seinekeep_Tokens_imp l0 r h
 exact tO_of (pair_inj seinekeep_TokensEj) (OL_runD seinekeep_Tokens_ds rfl rfl Tryd.func21 ((seinekeep_Tokens_t1 _ _ l0).trans hv))
def to_Print_l1 (O : Orc) (LP : LBody → LBody) : LBody := fun s1 s1u => cnd (chkL [.str, .bool, (.sl true), (.sl false), (.int .i64), (.int .i64)] s1) (cnd (chkU [] s1u)
 (cnd (decide ((intV (gt s1 5)) < (intV (gt s1 4))))
 (bnd (ix 2 (.slice (esV (gt s1 3)) [] false) (.int .i64 (intV (gt s1 5)))) fun x14 => cnd (chk (.ref shToken) x14)
 (callp O 24 [(.agg [(.int .i64 (intV (gt (aggV (refV x14)) 0))), (.str (strV (gt (aggV (refV x14)) 1)))])] fun x16 => cnd (chk .bool x16)
 (cnd (!(boolV x16))
 (some (.ret, [(.str []), (.bool false), (.slice (esV (gt s1 2)) [] true), (.slice (esV (gt s1 3)) [] false), (.int .i64 (intV (gt s1 4))), (.int .i64 (intV (gt s1 5)))], []))
 (cnd ((intV (gt (aggV (refV x14)) 0)) == 5)
 (callp O 41 [(.str (strV (gt (aggV (refV x14)) 1)))] fun x18 => cnd (chk .str x18)
 (bnd (apd 1 (.slice (esV (gt s1 2)) [] true) (.slice [(.str (strV x18))] [] true)) fun x20 => cnd (chk (.sl true) x20)
 (some (.nrm, [(.str (strV (gt s1 0))), (.bool (boolV (gt s1 1))), (.slice (esV x20) [] true), (.slice (esV (gt s1 3)) [] false), (.int .i64 (intV (gt s1 4))), (.int .i64 (IntKind.wrap .i64 ((intV (gt s1 5)) + 1)))], [])) none) none)
 (bnd (apd 1 (.slice (esV (gt s1 2)) [] true) (.slice [(.str (strV (gt (aggV (refV x14)) 1)))] [] true)) fun x22 => cnd (chk (.sl true) x22)
 (some (.nrm, [(.str (strV (gt s1 0))), (.bool (boolV (gt s1 1))), (.slice (esV x22) [] true), (.slice (esV (gt s1 3)) [] false), (.int .i64 (intV (gt s1 4))), (.int .i64 (IntKind.wrap .i64 ((intV (gt s1 5)) + 1)))], [])) none))) none) none)
 (some (.brk 0, [(.str (strV (gt s1 0))), (.bool (boolV (gt s1 1))), (.slice (esV (gt s1 2)) [] true), (.slice (esV (gt s1 3)) [] false), (.int .i64 (intV (gt s1 4))), (.int .i64 (intV (gt s1 5)))], []))) none) none
def to_Print_T1 (O : Orc) (LP : LBody → LBody) (l0 : List GToken) : Option (PV × UP) :=
 bnd (LP (to_Print_l1 O LP) [(.str []), (.bool false), (.slice [] [] true), (.slice (List.map encToken l0) [] false), (.int .i64 (List.length (List.map encToken l0) : Int)), (.int .i64 0)] []) fun y28 =>
 exIs y28.1 (some 0) (cnd (chkL [.str, .bool, (.sl true), (.sl false), (.int .i64), (.int .i64)] y28.2.1) (cnd (chkU [] y28.2.2)
 (callp O 40 [(.slice (esV (gt y28.2.1 2)) [] false), (.str [32])] fun x29 => cnd (chk .str x29)
 (some ((.tuple [(.str (strV x29)), (.bool true)]), [])) none) none) none)
 (exIs y28.1 none (cnd (chkL [.str, .bool, (.sl true), (.sl false), (.int .i64), (.int .i64)] y28.2.1) (cnd (chkU [] y28.2.2)
 (some ((.tuple [(.str (strV (gt y28.2.1 0))), (.bool (boolV (gt y28.2.1 1)))]), [])) none) none)
 (none))
noncomputable def to_Print_l1T (l0 : List GToken) : ((List Str) × Int) → Option (((List Str) × Int) ⊕ ((List Str) ⊕ Unit))
 | (out_12, t_13) =>
 cnd (decide (t_13 < (List.length l0 : Int)))
  (bnd (nthI l0 t_13) fun y15 =>
  bnd (to_Right y15) fun y17 =>
  cnd (!y17)
  (some (.inr (.inr ())))
  (cnd (y15.kind == 5)
   (bnd (to_quote y15.s) fun y19 =>
   bnd (tapp out_12 [y19]) fun y21 =>
   some (.inl (y21, (IntKind.wrap .i64 (t_13 + 1)))))
   (bnd (tapp out_12 [y15.s]) fun y23 =>
   some (.inl (y23, (IntKind.wrap .i64 (t_13 + 1)))))))
  (some (.inr (.inl out_12)))
abbrev to_Print_l1R (l0 : List GToken) (st : (List Str) × Int) (l : List PV) (u : UP) : Prop := l = [(.str []), (.bool false), (.slice (List.map PV.str st.1) [] true), (.slice (List.map encToken l0) [] false), (.int .i64 (List.length l0 : Int)), (.int .i64 st.2)] ∧ u = []
abbrev to_Print_l1X (l0 : List GToken) (p : (List Str) ⊕ Unit) (r : Ex × List PV × UP) : Prop := elim p (fun (p : (List Str)) => ∃ (t_25 : Int), r = (Ex.brk 0, [(.str []), (.bool false), (.slice (List.map PV.str p) [] true), (.slice (List.map encToken l0) [] false), (.int .i64 (List.length l0 : Int)), (.int .i64 t_25)], [])) (fun q2 => (fun (p : Unit) => ∃ (out_26 : List Str), ∃ (t_27 : Int), r = (Ex.ret, [(.str []), (.bool false), (.slice (List.map PV.str out_26) [] true), (.slice (List.map encToken l0) [] false), (.int .i64 (List.length l0 : Int)), (.int .i64 t_27)], [])) q2)
noncomputable def to_Print_B (l0 : List GToken) : Option (Str × Bool) :=
 bnd (tloop (to_Print_l1T l0) ([], 0)) fun e28_2 => elim e28_2
 (fun out_24 =>
 bnd (st_Join out_24 [32]) fun y30 =>
 some (y30, true))
 (fun p28 =>
 some ([], false))
def to_Print_ds : Decs := { decs := [(11, (.ref shToken)), (17, (.sl true)), (20, .bool), (29, .str), (31, (.sl true)), (34, .str)], ups := [], loops := [(3, [], ⟨[.str, .bool, (.sl true), (.sl false), (.int .i64), (.int .i64)], [], [(some 0, [.str, .bool, (.sl true), (.sl false), (.int .i64), (.int .i64)], []), (none, [.str, .bool, (.sl true), (.sl false), (.int .i64), (.int .i64)], [])]⟩)] }
set_option maxRecDepth 100000 in
theorem to_Print_t1 (O : Orc) (LP : LBody → LBody) (l0 : List GToken) : evalBodyD Tryd.prog (MT 22) to_Print_ds Tryd.f22.ntmps O LP Tryd.f22 [(.slice (List.map encToken l0) [] false)] [] = to_Print_T1 O LP l0 := by kernel_rfl
theorem to_Print_l1_ok (l0 : List GToken) : ∀ st l u, to_Print_l1R l0 st l u → Imp (to_Print_l1T l0 st) (to_Print_l1 O loopLim l u) (StepR (to_Print_l1R l0) (to_Print_l1X l0)) := by
 rintro ⟨out_12, t_13⟩ l u ⟨rfl, rfl⟩
 simp only [to_Print_l1T, to_Print_l1]
 refine Imp.chk rfl (Imp.chk rfl ?_)
 try simp only [evs, tys]
 refine Imp.cnd ?_ ?_
 ·refine Imp.op (f := fun a => .ref (encToken a)) (fun a h => op_ix (enc := encToken) (by first | rfl | simp only [evs, tys, evl]) ⟨by first | rfl | simp only [evs, tys, evc], by decide⟩ h) (fun a => chk_GToken a) fun y15 hy15 => ?_
  try simp only [evs, tys]
  refine Imp.call (f := to_RightE) rfl (fun a h => by first | exact to_Right_spec h | simpa only [evs, tys, evl] using to_Right_spec h) (fun a => by first | rfl | simp only [to_RightE, evk, chks]) fun y17 hy17 => ?_
  try simp only [to_RightE, evs, tys]
  refine Imp.cnd ?_ ?_
  ·exact Imp.some (StepR.ret ⟨out_12, t_13, by first | rfl | simp only [evs, tys, evl, elim_inl, elim_inr]⟩)
  ·refine Imp.cnd ?_ ?_
   ·refine Imp.call (f := to_quoteE) rfl (fun a h => by first | exact to_quote_spec h | simpa only [evs, tys, evl] using to_quote_spec h) (fun a => by first | rfl | simp only [to_quoteE, evk, chks]) fun y19 hy19 => ?_
    try simp only [to_quoteE, evs, tys]
    refine Imp.op (f := fun a => .slice (List.map PV.str a) [] true) (fun a h => op_apd (enc := PV.str) (by first | rfl | simp only [evs, tys, evl]) (by first | rfl | simp only [evs, tys, evl]) (fun a => by first | rfl | simp only [evs, tys, evc]) h) (fun a => rfl) fun y21 hy21 => ?_
    try simp only [evs, tys]
    exact Imp.some (StepR.next ⟨by first | rfl | simp only [evs, tys, evl], rfl⟩)
   ·refine Imp.op (f := fun a => .slice (List.map PV.str a) [] true) (fun a h => op_apd (enc := PV.str) (by first | rfl | simp only [evs, tys, evl]) (by first | rfl | simp only [evs, tys, evl]) (fun a => by first | rfl | simp only [evs, tys, evc]) h) (fun a => rfl) fun y23 hy23 => ?_
    try simp only [evs, tys]
    exact Imp.some (StepR.next ⟨by first | rfl | simp only [evs, tys, evl], rfl⟩)
 ·exact Imp.some (StepR.brk ⟨t_13, by first | rfl | simp only [evs, tys, evl, elim_inl, elim_inr]⟩)
theorem to_Print_imp (l0 : List GToken) : Imp (to_Print_B l0) (to_Print_T1 O loopLim l0) (fun r v => v = (to_PrintE r, [])) := by
 simp only [to_Print_B, to_Print_T1]
 try simp only [evs, tys]
 refine Imp.bnd (Imp.loop (to_Print_l1_ok l0) ⟨by first | rfl | simp only [evs, tys, evl], rfl⟩) ?_
 rintro (out_24 | p) vy28 hy28
 ·try simp only [elim_inl, elim_inr]
  obtain ⟨t_25, rfl⟩ := hy28
  refine Imp.exHit rfl (Imp.chk rfl (Imp.chk rfl ?_))
  try simp only [evs, tys]
  refine Imp.call (f := st_JoinE) rfl (fun a h => by first | exact st_Join_spec h | simpa only [evs, tys, evl] using st_Join_spec h) (fun a => by first | rfl | simp only [st_JoinE, evk, chks]) fun y30 hy30 => ?_
  try simp only [st_JoinE, evs, tys]
  exact Imp.some (by first | rfl | simp only [to_PrintE, evs, tys, evl])
 ·try simp only [elim_inl, elim_inr]
  obtain ⟨out_26, t_27, rfl⟩ := hy28
  refine Imp.exMiss rfl ?_
  refine Imp.exHit rfl (Imp.chk rfl (Imp.chk rfl ?_))
  try simp only [evs, tys]
  exact Imp.some (by first | rfl | simp only [to_PrintE, evs, tys, evl])
theorem to_Print_run {l0 : List GToken} {r : Str × Bool} (h : to_Print_B l0 = some r) : to_Print l0 = some r := by
 obtain ⟨v, hv, rfl⟩ := to_Print_imp l0 r h
 exact tO_of (pair_inj to_PrintEj) (OL_runD to_Print_ds rfl rfl Tryd.func22 ((to_Print_t1 _ _ l0).trans hv))
open Go Go.Ev Go.Ev.PV
def r1_Print_l1 (O : Orc) (LP : LBody → LBody) : LBody := fun s1 s1u => cnd (chkL [(.sl false), .str, .bool, .str, (.int .i64)] s1) (cnd (chkU [] s1u)
 (cnd (decide ((intV (gt s1 4)) < (List.length (esV (gt s1 0)) : Int)))
 (bnd (ix 2 (.slice (esV (gt s1 0)) [] false) (.int .i64 (intV (gt s1 4)))) fun x34 => cnd (chk (.ref shToken) x34)
 (callp O 25 [(.agg [(.int .i64 (intV (gt (aggV (refV x34)) 0))), (.str (strV (gt (aggV (refV x34)) 1)))])] fun x36 => cnd (chk .bool x36)
 (cnd (!(boolV x36))
 (some (.ret, [(.slice (esV (gt s1 0)) [] false), (.str []), (.bool false), (.str (strV (gt s1 3))), (.int .i64 (intV (gt s1 4)))], []))
 (cnd (decide ((intV (gt s1 4)) > 0))
 (bnd (bin .add (.str (strV (gt s1 3))) (.str [32])) fun x38 => cnd (chk .str x38)
 (bnd (ix 2 (.slice (esV (gt s1 0)) [] false) (.int .i64 (intV (gt s1 4)))) fun x40 => cnd (chk (.ref shToken) x40)
 (cnd ((intV (gt (aggV (refV x40)) 0)) == 5)
 (bnd (ix 2 (.slice (esV (gt s1 0)) [] false) (.int .i64 (intV (gt s1 4)))) fun x42 => cnd (chk (.ref shToken) x42)
 (callp O 42 [(.str (strV (gt (aggV (refV x42)) 1)))] fun x44 => cnd (chk .str x44)
 (bnd (bin .add (.str (strV x38)) (.str (strV x44))) fun x46 => cnd (chk .str x46)
 (some (.nrm, [(.slice (esV (gt s1 0)) [] false), (.str (strV (gt s1 1))), (.bool (boolV (gt s1 2))), (.str (strV x46)), (.int .i64 (IntKind.wrap .i64 ((intV (gt s1 4)) + 1)))], [])) none) none) none)
 (bnd (ix 2 (.slice (esV (gt s1 0)) [] false) (.int .i64 (intV (gt s1 4)))) fun x48 => cnd (chk (.ref shToken) x48)
 (bnd (bin .add (.str (strV x38)) (.str (strV (gt (aggV (refV x48)) 1)))) fun x50 => cnd (chk .str x50)
 (some (.nrm, [(.slice (esV (gt s1 0)) [] false), (.str (strV (gt s1 1))), (.bool (boolV (gt s1 2))), (.str (strV x50)), (.int .i64 (IntKind.wrap .i64 ((intV (gt s1 4)) + 1)))], [])) none) none)) none) none)
 (bnd (ix 2 (.slice (esV (gt s1 0)) [] false) (.int .i64 (intV (gt s1 4)))) fun x52 => cnd (chk (.ref shToken) x52)
 (cnd ((intV (gt (aggV (refV x52)) 0)) == 5)
 (bnd (ix 2 (.slice (esV (gt s1 0)) [] false) (.int .i64 (intV (gt s1 4)))) fun x54 => cnd (chk (.ref shToken) x54)
 (callp O 42 [(.str (strV (gt (aggV (refV x54)) 1)))] fun x56 => cnd (chk .str x56)
 (bnd (bin .add (.str (strV (gt s1 3))) (.str (strV x56))) fun x58 => cnd (chk .str x58)
 (some (.nrm, [(.slice (esV (gt s1 0)) [] false), (.str (strV (gt s1 1))), (.bool (boolV (gt s1 2))), (.str (strV x58)), (.int .i64 (IntKind.wrap .i64 ((intV (gt s1 4)) + 1)))], [])) none) none) none)
 (bnd (ix 2 (.slice (esV (gt s1 0)) [] false) (.int .i64 (intV (gt s1 4)))) fun x60 => cnd (chk (.ref shToken) x60)
 (bnd (bin .add (.str (strV (gt s1 3))) (.str (strV (gt (aggV (refV x60)) 1)))) fun x62 => cnd (chk .str x62)
 (some (.nrm, [(.slice (esV (gt s1 0)) [] false), (.str (strV (gt s1 1))), (.bool (boolV (gt s1 2))), (.str (strV x62)), (.int .i64 (IntKind.wrap .i64 ((intV (gt s1 4)) + 1)))], [])) none) none)) none))) none) none)
 (some (.brk 0, [(.slice (esV (gt s1 0)) [] false), (.str (strV (gt s1 1))), (.bool (boolV (gt s1 2))), (.str (strV (gt s1 3))), (.int .i64 (intV (gt s1 4)))], []))) none) none
def r1_Print_T1 (O : Orc) (LP : LBody → LBody) (l0 : List GToken) : Option (PV × UP) :=
 bnd (LP (r1_Print_l1 O LP) [(.slice (List.map encToken l0) [] false), (.str []), (.bool false), (.str []), (.int .i64 0)] []) fun y68 =>
 exIs y68.1 (some 0) (cnd (chkL [(.sl false), .str, .bool, .str, (.int .i64)] y68.2.1) (cnd (chkU [] y68.2.2)
 (some ((.tuple [(.str (strV (gt y68.2.1 3))), (.bool true)]), [])) none) none)
 (exIs y68.1 none (cnd (chkL [(.sl false), .str, .bool, .str, (.int .i64)] y68.2.1) (cnd (chkU [] y68.2.2)
 (some ((.tuple [(.str (strV (gt y68.2.1 1))), (.bool (boolV (gt y68.2.1 2)))]), [])) none) none)
 (none))
noncomputable def r1_Print_l1T (l0 : List GToken) : (Str × Int) → Option ((Str × Int) ⊕ (Str ⊕ Unit))
 | (out_32, i_33) =>
 cnd (decide (i_33 < (List.length l0 : Int)))
  (bnd (nthI l0 i_33) fun y35 =>
  bnd (r1_RightToken y35) fun y37 =>
  cnd (!y37)
  (some (.inr (.inr ())))
  (cnd (decide (i_33 > 0))
   (bnd (tapp out_32 ([32] : Str)) fun y39 =>
   bnd (nthI l0 i_33) fun y41 =>
   cnd (y41.kind == 5)
   (bnd (nthI l0 i_33) fun y43 =>
   bnd (r1_Quote y43.s) fun y45 =>
   bnd (tapp y39 y45) fun y47 =>
   some (.inl (y47, (IntKind.wrap .i64 (i_33 + 1)))))
   (bnd (nthI l0 i_33) fun y49 =>
   bnd (tapp y39 y49.s) fun y51 =>
   some (.inl (y51, (IntKind.wrap .i64 (i_33 + 1))))))
   (bnd (nthI l0 i_33) fun y53 =>
   cnd (y53.kind == 5)
   (bnd (nthI l0 i_33) fun y55 =>
   bnd (r1_Quote y55.s) fun y57 =>
   bnd (tapp out_32 y57) fun y59 =>
   some (.inl (y59, (IntKind.wrap .i64 (i_33 + 1)))))
   (bnd (nthI l0 i_33) fun y61 =>
   bnd (tapp out_32 y61.s) fun y63 =>
   some (.inl (y63, (IntKind.wrap .i64 (i_33 + 1))))))))
  (some (.inr (.inl out_32)))
abbrev r1_Print_l1R (l0 : List GToken) (st : Str × Int) (l : List PV) (u : UP) : Prop := l = [(.slice (List.map encToken l0) [] false), (.str []), (.bool false), (.str st.1), (.int .i64 st.2)] ∧ u = []
abbrev r1_Print_l1X (l0 : List GToken) (p : Str ⊕ Unit) (r : Ex × List PV × UP) : Prop := elim p (fun (p : Str) => ∃ (i_65 : Int), r = (Ex.brk 0, [(.slice (List.map encToken l0) [] false), (.str []), (.bool false), (.str p), (.int .i64 i_65)], [])) (fun q2 => (fun (p : Unit) => ∃ (out_66 : Str), ∃ (i_67 : Int), r = (Ex.ret, [(.slice (List.map encToken l0) [] false), (.str []), (.bool false), (.str out_66), (.int .i64 i_67)], [])) q2)
noncomputable def r1_Print_B (l0 : List GToken) : Option (Str × Bool) :=
 bnd (tloop (r1_Print_l1T l0) ([], 0)) fun e68_2 => elim e68_2
 (fun out_64 =>
 some (out_64, true))
 (fun p68 =>
 some ([], false))
def r1_Print_ds : Decs := { decs := [(14, (.ref shToken)), (16, .bool), (21, .str), (24, (.ref shToken)), (31, (.ref shToken)), (34, .str), (35, .str), (39, (.ref shToken)), (42, .str)], ups := [], loops := [(3, [], ⟨[(.sl false), .str, .bool, .str, (.int .i64)], [], [(some 0, [(.sl false), .str, .bool, .str, (.int .i64)], []), (none, [(.sl false), .str, .bool, .str, (.int .i64)], [])]⟩)] }
set_option maxRecDepth 100000 in
theorem r1_Print_t1 (O : Orc) (LP : LBody → LBody) (l0 : List GToken) : evalBodyD Tryd.prog (MT 23) r1_Print_ds Tryd.f23.ntmps O LP Tryd.f23 [(.slice (List.map encToken l0) [] false)] [] = r1_Print_T1 O LP l0 := by kernel_rfl
theorem r1_Print_l1_ok (l0 : List GToken) : ∀ st l u, r1_Print_l1R l0 st l u → Imp (r1_Print_l1T l0 st) (r1_Print_l1 O loopLim l u) (StepR (r1_Print_l1R l0) (r1_Print_l1X l0)) := by
 rintro ⟨out_32, i_33⟩ l u ⟨rfl, rfl⟩
 simp only [r1_Print_l1T, r1_Print_l1]
 refine Imp.chk rfl (Imp.chk rfl ?_)
 try simp only [evs, tys]
 refine Imp.cnd ?_ ?_
 ·refine Imp.op (f := fun a => .ref (encToken a)) (fun a h => op_ix (enc := encToken) (by first | rfl | simp only [evs, tys, evl]) ⟨by first | rfl | simp only [evs, tys, evc], by decide⟩ h) (fun a => chk_GToken a) fun y35 hy35 => ?_
  try simp only [evs, tys]
  refine Imp.call (f := r1_RightTokenE) rfl (fun a h => by first | exact r1_RightToken_spec h | simpa only [evs, tys, evl] using r1_RightToken_spec h) (fun a => by first | rfl | simp only [r1_RightTokenE, evk, chks]) fun y37 hy37 => ?_
  try simp only [r1_RightTokenE, evs, tys]
  refine Imp.cnd ?_ ?_
  ·exact Imp.some (StepR.ret ⟨out_32, i_33, by first | rfl | simp only [evs, tys, evl, elim_inl, elim_inr]⟩)
  ·refine Imp.cnd ?_ ?_
   ·refine Imp.op (f := fun a => .str a) (fun a h => op_cat h) (fun a => rfl) fun y39 hy39 => ?_
    try simp only [evs, tys]
    refine Imp.op (f := fun a => .ref (encToken a)) (fun a h => op_ix (enc := encToken) (by first | rfl | simp only [evs, tys, evl]) ⟨by first | rfl | simp only [evs, tys, evc], by decide⟩ h) (fun a => chk_GToken a) fun y41 hy41 => ?_
    try simp only [evs, tys]
    refine Imp.cnd ?_ ?_
    ·refine Imp.op (f := fun a => .ref (encToken a)) (fun a h => op_ix (enc := encToken) (by first | rfl | simp only [evs, tys, evl]) ⟨by first | rfl | simp only [evs, tys, evc], by decide⟩ h) (fun a => chk_GToken a) fun y43 hy43 => ?_
     try simp only [evs, tys]
     refine Imp.call (f := r1_QuoteE) rfl (fun a h => by first | exact r1_Quote_spec h | simpa only [evs, tys, evl] using r1_Quote_spec h) (fun a => by first | rfl | simp only [r1_QuoteE, evk, chks]) fun y45 hy45 => ?_
     try simp only [r1_QuoteE, evs, tys]
     refine Imp.op (f := fun a => .str a) (fun a h => op_cat h) (fun a => rfl) fun y47 hy47 => ?_
     try simp only [evs, tys]
     exact Imp.some (StepR.next ⟨by first | rfl | simp only [evs, tys, evl], rfl⟩)
    ·refine Imp.op (f := fun a => .ref (encToken a)) (fun a h => op_ix (enc := encToken) (by first | rfl | simp only [evs, tys, evl]) ⟨by first | rfl | simp only [evs, tys, evc], by decide⟩ h) (fun a => chk_GToken a) fun y49 hy49 => ?_
     try simp only [evs, tys]
     refine Imp.op (f := fun a => .str a) (fun a h => op_cat h) (fun a => rfl) fun y51 hy51 => ?_
     try simp only [evs, tys]
     exact Imp.some (StepR.next ⟨by first | rfl | simp only [evs, tys, evl], rfl⟩)
   ·refine Imp.op (f := fun a => .ref (encToken a)) (fun a h => op_ix (enc := encToken) (by first | rfl | simp only [evs, tys, evl]) ⟨by first | rfl | simp only [evs, tys, evc], by decide⟩ h) (fun a => chk_GToken a) fun y53 hy53 => ?_
    try simp only [evs, tys]
    refine Imp.cnd ?_ ?_
    ·refine Imp.op (f := fun a => .ref (encToken a)) (fun a h => op_ix (enc := encToken) (by first | rfl | simp only [evs, tys, evl]) ⟨by first | rfl | simp only [evs, tys, evc], by decide⟩ h) (fun a => chk_GToken a) fun y55 hy55 => ?_
     try simp only [evs, tys]
     refine Imp.call (f := r1_QuoteE) rfl (fun a h => by first | exact r1_Quote_spec h | simpa only [evs, tys, evl] using r1_Quote_spec h) (fun a => by first | rfl | simp only [r1_QuoteE, evk, chks]) fun y57 hy57 => ?_
     try simp only [r1_QuoteE, evs, tys]
     refine Imp.op (f := fun a => .str a) (fun a h => op_cat h) (fun a => rfl) fun y59 hy59 => ?_
     try simp only [evs, tys]
     exact Imp.some (StepR.next ⟨by first | rfl | simp only [evs, tys, evl], rfl⟩)
    ·refine Imp.op (f := fun a => .ref (encToken a)) (fun a h => op_ix (enc := encToken) (by first | rfl | simp only [evs, tys, evl]) ⟨by first | rfl | simp only [evs, tys, evc], by decide⟩ h) (fun a => chk_GToken a) fun y61 hy61 => ?_
     try simp only [evs, tys]
     refine Imp.op (f := fun a => .str a) (fun a h => op_cat h) (fun a => rfl) fun y63 hy63 => ?_
     try simp only [evs, tys]
     exact Imp.some (StepR.next ⟨by first | rfl | simp only [evs, tys, evl], rfl⟩)
 ·exact Imp.some (StepR.brk ⟨i_33, by first | rfl | simp only [evs, tys, evl, elim_inl, elim_inr]⟩)
theorem r1_Print_imp (l0 : List GToken) : Imp (r1_Print_B l0) (r1_Print_T1 O loopLim l0) (fun r v => v = (r1_PrintE r, [])) := by
 simp only [r1_Print_B, r1_Print_T1]
 try simp only [evs, tys]
 refine Imp.bnd (Imp.loop (r1_Print_l1_ok l0) ⟨by first | rfl | simp only [evs, tys, evl], rfl⟩) ?_
 rintro (out_64 | p) vy68 hy68
 ·try simp only [elim_inl, elim_inr]
  obtain ⟨i_65, rfl⟩ := hy68
  refine Imp.exHit rfl (Imp.chk rfl (Imp.chk rfl ?_))
  try simp only [evs, tys]
  exact Imp.some (by first | rfl | simp only [r1_PrintE, evs, tys, evl])
 ·try simp only [elim_inl, elim_inr]
  obtain ⟨out_66, i_67, rfl⟩ := hy68
  refine Imp.exMiss rfl ?_
  refine Imp.exHit rfl (Imp.chk rfl (Imp.chk rfl ?_))
  try simp only [evs, tys]
  exact Imp.some (by first | rfl | simp only [r1_PrintE, evs, tys, evl])
theorem r1_Print_run {l0 : List GToken} {r : Str × Bool} (h : r1_Print_B l0 = some r) : r1_Print l0 = some r := by
 obtain ⟨v, hv, rfl⟩ := r1_Print_imp l0 r h
 exact tO_of (pair_inj r1_PrintEj) (OL_runD r1_Print_ds rfl rfl Tryd.func23 ((r1_Print_t1 _ _ l0).trans hv))
def to_Right_T1 (O : Orc) (LP : LBody → LBody) (t : GToken) : Option (PV × UP) :=
 cnd (t.kind == 1)
 (cnd (t.s == ([46, 46, 46] : Str))
 (some ((.bool true), []))
 (cnd ((List.length t.s : Int) == 1)
 (callp O 43 [(.str [33, 36, 38, 40, 41, 58, 61, 64, 91, 93, 123, 124, 125]), (.str t.s)] fun x1 => cnd (chk .bool x1)
 (some ((.bool (boolV x1)), [])) none)
 (some ((.bool false), []))))
 (cnd (t.kind == 2)
 (callp O 44 [(.str t.s)] fun x3 => cnd (chk .bool x3)
 (some ((.bool (boolV x3)), [])) none)
 (cnd (t.kind == 3)
 (callp O 15 [(.str t.s)] fun x5 => cnd (chk (.int .i64) x5)
 (some ((.bool ((intV x5) == t.kind)), [])) none)
 (cnd (t.kind == 4)
 (callp O 15 [(.str t.s)] fun x7 => cnd (chk (.int .i64) x7)
 (some ((.bool ((intV x7) == t.kind)), [])) none)
 (cnd (t.kind == 5)
 (callp O 45 [(.str t.s)] fun x9 => cnd (chk .bool x9)
 (some ((.bool (boolV x9)), [])) none)
 (some ((.bool false), []))))))
noncomputable def to_Right_B (t : GToken) : Option Bool :=
 cnd (t.kind == 1)
 (cnd (t.s == ([46, 46, 46] : Str))
 (some true)
 (cnd ((List.length t.s : Int) == 1)
 (bnd (st_Contains [33, 36, 38, 40, 41, 58, 61, 64, 91, 93, 123, 124, 125] t.s) fun y2 =>
 some y2)
 (some false)))
 (cnd (t.kind == 2)
 (bnd (ls_Name t.s) fun y4 =>
 some y4)
 (cnd (t.kind == 3)
 (bnd (to_Number t.s) fun y6 =>
 some (y6 == t.kind))
 (cnd (t.kind == 4)
 (bnd (to_Number t.s) fun y8 =>
 some (y8 == t.kind))
 (cnd (t.kind == 5)
 (bnd (ls_Good t.s) fun y10 =>
 some y10)
 (some false)))))
def to_Right_ds : Decs := { decs := [(18, .bool), (25, .bool), (31, (.int .i64)), (39, .bool)], ups := [], loops := [] }
set_option maxRecDepth 100000 in
theorem to_Right_t1 (O : Orc) (LP : LBody → LBody) (t : GToken) : evalBodyD Tryd.prog (MT 24) to_Right_ds Tryd.f24.ntmps O LP Tryd.f24 [(.agg [(.int .i64 t.kind), (.str t.s)])] [] = to_Right_T1 O LP t := by kernel_rfl
theorem to_Right_imp (t : GToken) : Imp (to_Right_B t) (to_Right_T1 O loopLim t) (fun r v => v = (to_RightE r, [])) := by
 simp only [to_Right_B, to_Right_T1]
 try simp only [evs, tys]
 refine Imp.cnd ?_ ?_
 ·refine Imp.cnd ?_ ?_
  ·exact Imp.some (by first | rfl | simp only [to_RightE, evs, tys, evl])
  ·refine Imp.cnd ?_ ?_
   ·refine Imp.call (f := st_ContainsE) rfl (fun a h => by first | exact st_Contains_spec h | simpa only [evs, tys, evl] using st_Contains_spec h) (fun a => by first | rfl | simp only [st_ContainsE, evk, chks]) fun y2 hy2 => ?_
    try simp only [st_ContainsE, evs, tys]
    exact Imp.some (by first | rfl | simp only [to_RightE, evs, tys, evl])
   ·exact Imp.some (by first | rfl | simp only [to_RightE, evs, tys, evl])
 ·refine Imp.cnd ?_ ?_
  ·refine Imp.call (f := ls_NameE) rfl (fun a h => by first | exact ls_Name_spec h | simpa only [evs, tys, evl] using ls_Name_spec h) (fun a => by first | rfl | simp only [ls_NameE, evk, chks]) fun y4 hy4 => ?_
   try simp only [ls_NameE, evs, tys]
   exact Imp.some (by first | rfl | simp only [to_RightE, evs, tys, evl])
  ·refine Imp.cnd ?_ ?_
   ·refine Imp.call (f := to_NumberE) rfl (fun a h => by first | exact to_Number_spec h | simpa only [evs, tys, evl] using to_Number_spec h) (fun a => by first | rfl | simp only [to_NumberE, evk, chks]) fun y6 hy6 => ?_
    try simp only [to_NumberE, evs, tys]
    exact Imp.some (by first | rfl | simp only [to_RightE, evs, tys, evl])
   ·refine Imp.cnd ?_ ?_
    ·refine Imp.call (f := to_NumberE) rfl (fun a h => by first | exact to_Number_spec h | simpa only [evs, tys, evl] using to_Number_spec h) (fun a => by first | rfl | simp only [to_NumberE, evk, chks]) fun y8 hy8 => ?_
     try simp only [to_NumberE, evs, tys]
     exact Imp.some (by first | rfl | simp only [to_RightE, evs, tys, evl])
    ·refine Imp.cnd ?_ ?_
     ·refine Imp.call (f := ls_GoodE) rfl (fun a h => by first | exact ls_Good_spec h | simpa only [evs, tys, evl] using ls_Good_spec h) (fun a => by first | rfl | simp only [ls_GoodE, evk, chks]) fun y10 hy10 => ?_
      try simp only [ls_GoodE, evs, tys]
      exact Imp.some (by first | rfl | simp only [to_RightE, evs, tys, evl])
     ·exact Imp.some (by first | rfl | simp only [to_RightE, evs, tys, evl])
theorem to_Right_run {t : GToken} {r : Bool} (h : to_Right_B t = some r) : to_Right t = some r := by
 obtain ⟨v, hv, rfl⟩ := to_Right_imp t r h
 exact tO_of (pair_inj to_RightEj) (OL_runD to_Right_ds rfl rfl Tryd.func24 ((to_Right_t1 _ _ t).trans hv))
def r1_RightToken_T1 (O : Orc) (LP : LBody → LBody) (t : GToken) : Option (PV × UP) :=
 cnd (t.kind == 1)
 (cnd (t.s == ([46, 46, 46] : Str))
 (some ((.bool true), []))
 (cnd ((List.length t.s : Int) == 1)
 (bnd (ixStr (.str t.s) (.int .i64 0)) fun x1 => cnd (chk (.int .u8) x1)
 (callp O 46 [(.str [33, 36, 38, 40, 41, 58, 61, 64, 91, 93, 123, 124, 125]), (.int .u8 (intV x1))] fun x3 => cnd (chk (.int .i64) x3)
 (some ((.bool (decide ((intV x3) ≥ 0))), [])) none) none)
 (some ((.bool false), []))))
 (cnd (t.kind == 2)
 (callp O 47 [(.str t.s)] fun x5 => cnd (chk .bool x5)
 (some ((.bool (boolV x5)), [])) none)
 (cnd (t.kind == 3)
 (cnd (!(t.s == ([] : Str)))
 (callp O 16 [(.str t.s)] fun x7 => cnd (chk (.int .i64) x7)
 (some ((.bool ((intV x7) == t.kind)), [])) none)
 (some ((.bool false), [])))
 (cnd (t.kind == 4)
 (cnd (!(t.s == ([] : Str)))
 (callp O 16 [(.str t.s)] fun x9 => cnd (chk (.int .i64) x9)
 (some ((.bool ((intV x9) == t.kind)), [])) none)
 (some ((.bool false), [])))
 (cnd (t.kind == 5)
 (callp O 48 [(.str t.s)] fun x11 => cnd (chk .bool x11)
 (some ((.bool (boolV x11)), [])) none)
 (some ((.bool false), []))))))
noncomputable def r1_RightToken_B (t : GToken) : Option Bool :=
 cnd (t.kind == 1)
 (cnd (t.s == ([46, 46, 46] : Str))
 (some true)
 (cnd ((List.length t.s : Int) == 1)
 (bnd (nthI t.s 0) fun y2 =>
 bnd (r1_index [33, 36, 38, 40, 41, 58, 61, 64, 91, 93, 123, 124, 125] (y2.toNat : Int)) fun y4 =>
 some (decide (y4 ≥ 0)))
 (some false)))
 (cnd (t.kind == 2)
 (bnd (r1_Name t.s) fun y6 =>
 some y6)
 (cnd (t.kind == 3)
 (cnd (!(t.s == ([] : Str)))
 (bnd (r1_Number t.s) fun y8 =>
 some (y8 == t.kind))
 (some false))
 (cnd (t.kind == 4)
 (cnd (!(t.s == ([] : Str)))
 (bnd (r1_Number t.s) fun y10 =>
 some (y10 == t.kind))
 (some false))
 (cnd (t.kind == 5)
 (bnd (r1_Good t.s) fun y12 =>
 some y12)
 (some false)))))
def r1_RightToken_ds : Decs := { decs := [(18, (.int .u8)), (19, (.int .i64)), (27, .bool), (37, (.int .i64)), (46, .bool)], ups := [], loops := [] }
set_option maxRecDepth 100000 in
theorem r1_RightToken_t1 (O : Orc) (LP : LBody → LBody) (t : GToken) : evalBodyD Tryd.prog (MT 25) r1_RightToken_ds Tryd.f25.ntmps O LP Tryd.f25 [(.agg [(.int .i64 t.kind), (.str t.s)])] [] = r1_RightToken_T1 O LP t := by kernel_rfl
theorem r1_RightToken_imp (t : GToken) : Imp (r1_RightToken_B t) (r1_RightToken_T1 O loopLim t) (fun r v => v = (r1_RightTokenE r, [])) := by
 simp only [r1_RightToken_B, r1_RightToken_T1]
 try simp only [evs, tys]
 refine Imp.cnd ?_ ?_
 ·refine Imp.cnd ?_ ?_
  ·exact Imp.some (by first | rfl | simp only [r1_RightTokenE, evs, tys, evl])
  ·refine Imp.cnd ?_ ?_
   ·refine Imp.op (f := fun a => .int .u8 (a.toNat : Int)) (fun a h => op_ixStr h) (fun a => rfl) fun y2 hy2 => ?_
    try simp only [evs, tys]
    refine Imp.call (f := r1_indexE) rfl (fun a h => by first | exact r1_index_spec h | simpa only [evs, tys, evl] using r1_index_spec h) (fun a => by first | rfl | simp only [r1_indexE, evk, chks]) fun y4 hy4 => ?_
    try simp only [r1_indexE, evs, tys]
    exact Imp.some (by first | rfl | simp only [r1_RightTokenE, evs, tys, evl])
   ·exact Imp.some (by first | rfl | simp only [r1_RightTokenE, evs, tys, evl])
 ·refine Imp.cnd ?_ ?_
  ·refine Imp.call (f := r1_NameE) rfl (fun a h => by first | exact r1_Name_spec h | simpa only [evs, tys, evl] using r1_Name_spec h) (fun a => by first | rfl | simp only [r1_NameE, evk, chks]) fun y6 hy6 => ?_
   try simp only [r1_NameE, evs, tys]
   exact Imp.some (by first | rfl | simp only [r1_RightTokenE, evs, tys, evl])
  ·refine Imp.cnd ?_ ?_
   ·refine Imp.cnd ?_ ?_
    ·refine Imp.call (f := r1_NumberE) rfl (fun a h => by first | exact r1_Number_spec h | simpa only [evs, tys, evl] using r1_Number_spec h) (fun a => by first | rfl | simp only [r1_NumberE, evk, chks]) fun y8 hy8 => ?_
     try simp only [r1_NumberE, evs, tys]
     exact Imp.some (by first | rfl | simp only [r1_RightTokenE, evs, tys, evl])
    ·exact Imp.some (by first | rfl | simp only [r1_RightTokenE, evs, tys, evl])
   ·refine Imp.cnd ?_ ?_
    ·refine Imp.cnd ?_ ?_
     ·refine Imp.call (f := r1_NumberE) rfl (fun a h => by first | exact r1_Number_spec h | simpa only [evs, tys, evl] using r1_Number_spec h) (fun a => by first | rfl | simp only [r1_NumberE, evk, chks]) fun y10 hy10 => ?_
      try simp only [r1_NumberE, evs, tys]
      exact Imp.some (by first | rfl | simp only [r1_RightTokenE, evs, tys, evl])
     ·exact Imp.some (by first | rfl | simp only [r1_RightTokenE, evs, tys, evl])
    ·refine Imp.cnd ?_ ?_
     ·refine Imp.call (f := r1_GoodE) rfl (fun a h => by first | exact r1_Good_spec h | simpa only [evs, tys, evl] using r1_Good_spec h) (fun a => by first | rfl | simp only [r1_GoodE, evk, chks]) fun y12 hy12 => ?_
      try simp only [r1_GoodE, evs, tys]
      exact Imp.some (by first | rfl | simp only [r1_RightTokenE, evs, tys, evl])
     ·exact Imp.some (by first | rfl | simp only [r1_RightTokenE, evs, tys, evl])
theorem r1_RightToken_run {t : GToken} {r : Bool} (h : r1_RightToken_B t = some r) : r1_RightToken t = some r := by
 obtain ⟨v, hv, rfl⟩ := r1_RightToken_imp t r h
 exact tO_of (pair_inj r1_RightTokenEj) (OL_runD r1_RightToken_ds rfl rfl Tryd.func25 ((r1_RightToken_t1 _ _ t).trans hv))
def seinekeep_TokensStay_l1 (O : Orc) (LP : LBody → LBody) : LBody := fun s5 s5u => cnd (chkL [(.sl false), (.sl false), .bool, (.int .i64)] s5) (cnd (chkU [] s5u)
 (cnd (decide ((intV (gt s5 3)) < (List.length (esV (gt s5 1)) : Int)))
 (bnd (ix 2 (.slice (esV (gt s5 0)) [] false) (.int .i64 (intV (gt s5 3)))) fun x11 => cnd (chk (.ref shToken) x11)
 (bnd (ix 2 (.slice (esV (gt s5 1)) [] false) (.int .i64 (intV (gt s5 3)))) fun x13 => cnd (chk (.ref shToken) x13)
 (cnd (!(((intV (gt (aggV (refV x11)) 0)) == (intV (gt (aggV (refV x13)) 0))) && (((strV (gt (aggV (refV x11)) 1)) == (strV (gt (aggV (refV x13)) 1))) && true)))
 (some (.ret, [(.slice (esV (gt s5 0)) [] false), (.slice (esV (gt s5 1)) [] false), (.bool false), (.int .i64 (intV (gt s5 3)))], []))
 (some (.nrm, [(.slice (esV (gt s5 0)) [] false), (.slice (esV (gt s5 1)) [] false), (.bool (boolV (gt s5 2))), (.int .i64 (IntKind.wrap .i64 ((intV (gt s5 3)) + 1)))], []))) none) none)
 (some (.brk 0, [(.slice (esV (gt s5 0)) [] false), (.slice (esV (gt s5 1)) [] false), (.bool (boolV (gt s5 2))), (.int .i64 (intV (gt s5 3)))], []))) none) none
def seinekeep_TokensStay_T1 (O : Orc) (LP : LBody → LBody) (c : List GToken) (cb : List GToken) (l0 : List GToken) : Option (PV × UP) :=
 cnd ((List.length (List.map encToken c) : Int) != (List.length (List.map encToken l0) : Int))
 (some ((.bool false), []))
 (bnd (slcHi 2 (.slice (List.map encToken c) (List.map encToken cb) false) (.int .i64 (IntKind.wrap .i64 ((List.length (List.map encToken c) : Int) + 1)))) fun x1 => cnd (chk (.slb false) x1)
 (bnd (ix 2 (.slice (esV x1) (bsV x1) false) (.int .i64 (List.length (List.map encToken c) : Int))) fun x3 => cnd (chk (.ref shToken) x3)
 (cnd ((intV (gt (aggV (refV x3)) 0)) != 77)
 (some ((.bool false), []))
 (bnd (LP (seinekeep_TokensStay_l1 O LP) [(.slice (List.map encToken c) [] false), (.slice (List.map encToken l0) [] false), (.bool false), (.int .i64 0)] []) fun y17 =>
 exIs y17.1 (some 0) (cnd (chkL [(.sl false), (.sl false), .bool, (.int .i64)] y17.2.1) (cnd (chkU [] y17.2.2)
 (some ((.bool true), [])) none) none)
 (exIs y17.1 none (cnd (chkL [(.sl false), (.sl false), .bool, (.int .i64)] y17.2.1) (cnd (chkU [] y17.2.2)
 (some ((.bool (boolV (gt y17.2.1 2))), [])) none) none)
 (none)))) none) none)
noncomputable def seinekeep_TokensStay_l1T (c : List GToken) (l0 : List GToken) : Int → Option (Int ⊕ (Unit ⊕ Unit))
 | i_10 =>
 cnd (decide (i_10 < (List.length l0 : Int)))
  (bnd (nthI c i_10) fun y12 =>
  bnd (nthI l0 i_10) fun y14 =>
  cnd (!((y12.kind == y14.kind) && ((y12.s == y14.s) && true)))
  (some (.inr (.inr ())))
  (some (.inl (IntKind.wrap .i64 (i_10 + 1)))))
  (some (.inr (.inl ())))
abbrev seinekeep_TokensStay_l1R (c : List GToken) (l0 : List GToken) (st : Int) (l : List PV) (u : UP) : Prop := l = [(.slice (List.map encToken c) [] false), (.slice (List.map encToken l0) [] false), (.bool false), (.int .i64 st)] ∧ u = []
abbrev seinekeep_TokensStay_l1X (c : List GToken) (l0 : List GToken) (p : Unit ⊕ Unit) (r : Ex × List PV × UP) : Prop := elim p (fun (p : Unit) => ∃ (i_15 : Int), r = (Ex.brk 0, [(.slice (List.map encToken c) [] false), (.slice (List.map encToken l0) [] false), (.bool false), (.int .i64 i_15)], [])) (fun q2 => (fun (p : Unit) => ∃ (i_16 : Int), r = (Ex.ret, [(.slice (List.map encToken c) [] false), (.slice (List.map encToken l0) [] false), (.bool false), (.int .i64 i_16)], [])) q2)
noncomputable def seinekeep_TokensStay_B (c : List GToken) (cb : List GToken) (l0 : List GToken) : Option Bool :=
 cnd ((List.length c : Int) != (List.length l0 : Int))
 (some false)
 (bnd (tslb (c : List GToken) cb 0 (IntKind.wrap .i64 ((List.length c : Int) + 1))) fun y2 =>
 bnd (nthI y2.1 (List.length c : Int)) fun y4 =>
 cnd (y4.kind != 77)
 (some false)
 (bnd (tloop (seinekeep_TokensStay_l1T c l0) 0) fun e17_2 => elim e17_2
 (fun p17 =>
 some true)
 (fun p17 =>
 some false)))
def seinekeep_TokensStay_ds : Decs := { decs := [(16, (.slb false)), (19, (.ref shToken)), (32, (.ref shToken)), (36, (.ref shToken))], ups := [], loops := [(4, [], ⟨[(.sl false), (.sl false), .bool, (.int .i64)], [], [(some 0, [(.sl false), (.sl false), .bool, (.int .i64)], []), (none, [(.sl false), (.sl false), .bool, (.int .i64)], [])]⟩)] }
set_option maxRecDepth 100000 in
theorem seinekeep_TokensStay_t1 (O : Orc) (LP : LBody → LBody) (c : List GToken) (cb : List GToken) (l0 : List GToken) : evalBodyD Tryd.prog (MT 26) seinekeep_TokensStay_ds Tryd.f26.ntmps O LP Tryd.f26 [(.slice (List.map encToken c) (List.map encToken cb) false), (.slice (List.map encToken l0) [] false)] [] = seinekeep_TokensStay_T1 O LP c cb l0 := by kernel_rfl
theorem seinekeep_TokensStay_l1_ok (c : List GToken) (l0 : List GToken) : ∀ st l u, seinekeep_TokensStay_l1R c l0 st l u → Imp (seinekeep_TokensStay_l1T c l0 st) (seinekeep_TokensStay_l1 O loopLim l u) (StepR (seinekeep_TokensStay_l1R c l0) (seinekeep_TokensStay_l1X c l0)) := by
 rintro i_10 l u ⟨rfl, rfl⟩
 simp only [seinekeep_TokensStay_l1T, seinekeep_TokensStay_l1]
 refine Imp.chk rfl (Imp.chk rfl ?_)
 try simp only [evs, tys]
 refine Imp.cnd ?_ ?_
 ·refine Imp.op (f := fun a => .ref (encToken a)) (fun a h => op_ix (enc := encToken) (by first | rfl | simp only [evs, tys, evl]) ⟨by first | rfl | simp only [evs, tys, evc], by decide⟩ h) (fun a => chk_GToken a) fun y12 hy12 => ?_
  try simp only [evs, tys]
  refine Imp.op (f := fun a => .ref (encToken a)) (fun a h => op_ix (enc := encToken) (by first | rfl | simp only [evs, tys, evl]) ⟨by first | rfl | simp only [evs, tys, evc], by decide⟩ h) (fun a => chk_GToken a) fun y14 hy14 => ?_
  try simp only [evs, tys]
  refine Imp.cnd ?_ ?_
  ·exact Imp.some (StepR.ret ⟨i_10, by first | rfl | simp only [evs, tys, evl, elim_inl, elim_inr]⟩)
  ·exact Imp.some (StepR.next ⟨by first | rfl | simp only [evs, tys, evl], rfl⟩)
 ·exact Imp.some (StepR.brk ⟨i_10, by first | rfl | simp only [evs, tys, evl, elim_inl, elim_inr]⟩)
theorem seinekeep_TokensStay_imp (c : List GToken) (cb : List GToken) (l0 : List GToken) : Imp (seinekeep_TokensStay_B c cb l0) (seinekeep_TokensStay_T1 O loopLim c cb l0) (fun r v => v = (seinekeep_TokensStayE r, [])) := by
 simp only [seinekeep_TokensStay_B, seinekeep_TokensStay_T1]
 try simp only [evs, tys]
 refine Imp.cnd ?_ ?_
 ·exact Imp.some (by first | rfl | simp only [seinekeep_TokensStayE, evs, tys, evl])
 ·refine Imp.op (f := fun a => .slice (List.map encToken a.1) (List.map encToken a.2) false) (fun a h => op_slbHi (enc := encToken) (by first | rfl | simp only [evs, tys, evl]) (by first | rfl | exact List.map_nil.symm | simp only [evs, tys, evl]) (fun a => by first | rfl | simp only [evs, tys, evc]) h) (fun a => rfl) fun y2 hy2 => ?_
  try simp only [evs, tys]
  refine Imp.op (f := fun a => .ref (encToken a)) (fun a h => op_ix (enc := encToken) (by first | rfl | simp only [evs, tys, evl]) ⟨by first | rfl | simp only [evs, tys, evc], by decide⟩ h) (fun a => chk_GToken a) fun y4 hy4 => ?_
  try simp only [evs, tys]
  refine Imp.cnd ?_ ?_
  ·exact Imp.some (by first | rfl | simp only [seinekeep_TokensStayE, evs, tys, evl])
  ·refine Imp.bnd (Imp.loop (seinekeep_TokensStay_l1_ok c l0) ⟨by first | rfl | simp only [evs, tys, evl], rfl⟩) ?_
   rintro (p | p) vy17 hy17
   ·try simp only [elim_inl, elim_inr]
    obtain ⟨i_15, rfl⟩ := hy17
    refine Imp.exHit rfl (Imp.chk rfl (Imp.chk rfl ?_))
    try simp only [evs, tys]
    exact Imp.some (by first | rfl | simp only [seinekeep_TokensStayE, evs, tys, evl])
   ·try simp only [elim_inl, elim_inr]
    obtain ⟨i_16, rfl⟩ := hy17
    refine Imp.exMiss rfl ?_
    refine Imp.exHit rfl (Imp.chk rfl (Imp.chk rfl ?_))
    try simp only [evs, tys]
    exact Imp.some (by first | rfl | simp only [seinekeep_TokensStayE, evs, tys, evl])
theorem seinekeep_TokensStay_run {c : List GToken} {cb : List GToken} {l0 : List GToken} {r : Bool} (h : seinekeep_TokensStay_B c cb l0 = some r) : seinekeep_TokensStay c cb l0 = some r := by
 obtain ⟨v, hv, rfl⟩ := seinekeep_TokensStay_imp c cb l0 r h
 exact tO_of (pair_inj seinekeep_TokensStayEj) (OL_runD seinekeep_TokensStay_ds rfl rfl Tryd.func26 ((seinekeep_TokensStay_t1 _ _ c cb l0).trans hv))
def to_Number_T1 (O : Orc) (LP : LBody → LBody) (s : Str) : Option (PV × UP) :=
 callp O 32 [(.str s)] fun x1 => cnd (chk (.tup [(.int .i64), (.int .i64)]) x1)
 (cnd ((intV (gt (tupV x1) 0)) != (List.length s : Int))
 (some ((.int .i64 0), []))
 (some ((.int .i64 (intV (gt (tupV x1) 1))), []))) none
noncomputable def to_Number_B (s : Str) : Option Int :=
 bnd (to_number s) fun y2 =>
 cnd (y2.1 != (List.length s : Int))
 (some 0)
 (some y2.2)
def to_Number_ds : Decs := { decs := [(7, (.tup [(.int .i64), (.int .i64)]))], ups := [], loops := [] }
set_option maxRecDepth 100000 in
theorem to_Number_t1 (O : Orc) (LP : LBody → LBody) (s : Str) : evalBodyD Tryd.prog (MT 15) to_Number_ds Tryd.f15.ntmps O LP Tryd.f15 [(.str s)] [] = to_Number_T1 O LP s := by kernel_rfl
theorem to_Number_imp (s : Str) : Imp (to_Number_B s) (to_Number_T1 O loopLim s) (fun r v => v = (to_NumberE r, [])) := by
 simp only [to_Number_B, to_Number_T1]
 try simp only [evs, tys]
 refine Imp.call (f := to_numberE) rfl (fun a h => by first | exact to_number_spec h | simpa only [evs, tys, evl] using to_number_spec h) (fun a => by first | rfl | simp only [to_numberE, evk, chks]) fun y2 hy2 => ?_
 try simp only [to_numberE, evs, tys]
 refine Imp.cnd ?_ ?_
 ·exact Imp.some (by first | rfl | simp only [to_NumberE, evs, tys, evl])
 ·exact Imp.some (by first | rfl | simp only [to_NumberE, evs, tys, evl])
theorem to_Number_run {s : Str} {r : Int} (h : to_Number_B s = some r) : to_Number s = some r := by
 obtain ⟨v, hv, rfl⟩ := to_Number_imp s r h
 exact tO_of (pair_inj to_NumberEj) (OL_runD to_Number_ds rfl rfl Tryd.func15 ((to_Number_t1 _ _ s).trans hv))
def to_quote_l1 (O : Orc) (LP : LBody → LBody) : LBody := fun s64 s64u => cnd (chkL [.str, (.sl true), (.int .i64), (.int .i64), (.sl false), (.int .i64), (.int .i64)] s64) (cnd (chkU [] s64u)
 (cnd (decide ((intV (gt s64 6)) < (intV (gt s64 5))))
 (bnd (ix 1 (.slice (esV (gt s64 4)) [] false) (.int .i64 (intV (gt s64 6)))) fun x71 => cnd (chk (.ref (.int .i64)) x71)
 (callp O 75 [(.slice (esV (gt s64 1)) [] true), (.int .i64 (intV (refV x71)))] fun x73 => cnd (chk (.sl true) x73)
 (some (.nrm, [(.str (strV (gt s64 0))), (.slice (esV x73) [] true), (.int .i64 (intV (gt s64 2))), (.int .i64 (intV (gt s64 3))), (.slice (esV (gt s64 4)) [] false), (.int .i64 (intV (gt s64 5))), (.int .i64 (IntKind.wrap .i64 ((intV (gt s64 6)) + 1)))], [])) none) none)
 (some (.brk 3, [(.str (strV (gt s64 0))), (.slice (esV (gt s64 1)) [] true), (.int .i64 (intV (gt s64 2))), (.int .i64 (intV (gt s64 3))), (.slice (esV (gt s64 4)) [] false), (.int .i64 (intV (gt s64 5))), (.int .i64 (intV (gt s64 6)))], []))) none) none
def to_quote_l2 (O : Orc) (LP : LBody → LBody) : LBody := fun s82 s82u => cnd (chkL [.str, (.sl true), (.int .i64), (.int .i64), (.sl false), (.int .i64), (.int .i64)] s82) (cnd (chkU [] s82u)
 (cnd (decide ((intV (gt s82 6)) < (intV (gt s82 5))))
 (bnd (ix 1 (.slice (esV (gt s82 4)) [] false) (.int .i64 (intV (gt s82 6)))) fun x89 => cnd (chk (.ref (.int .i64)) x89)
 (callp O 75 [(.slice (esV (gt s82 1)) [] true), (.int .i64 (intV (refV x89)))] fun x91 => cnd (chk (.sl true) x91)
 (some (.nrm, [(.str (strV (gt s82 0))), (.slice (esV x91) [] true), (.int .i64 (intV (gt s82 2))), (.int .i64 (intV (gt s82 3))), (.slice (esV (gt s82 4)) [] false), (.int .i64 (intV (gt s82 5))), (.int .i64 (IntKind.wrap .i64 ((intV (gt s82 6)) + 1)))], [])) none) none)
 (some (.brk 3, [(.str (strV (gt s82 0))), (.slice (esV (gt s82 1)) [] true), (.int .i64 (intV (gt s82 2))), (.int .i64 (intV (gt s82 3))), (.slice (esV (gt s82 4)) [] false), (.int .i64 (intV (gt s82 5))), (.int .i64 (intV (gt s82 6)))], []))) none) none
def to_quote_l3 (O : Orc) (LP : LBody → LBody) : LBody := fun s1 s1u => cnd (chkL [.str, (.sl true), (.int .i64)] s1) (cnd (chkU [] s1u)
 (cnd (decide ((intV (gt s1 2)) < (List.length (strV (gt s1 0)) : Int)))
  (callp O 35 [(.str (strV (gt s1 0))), (.int .i64 (intV (gt s1 2)))] fun x52 => cnd (chk (.tup [(.int .i64), (.int .i64)]) x52)
  (cnd ((intV (gt (tupV x52) 0)) == 34)
  (bnd (apd 1 (.slice (esV (gt s1 1)) [] true) (.slice [(.int .u8 92), (.int .u8 (IntKind.wrap .u8 (intV (gt (tupV x52) 0))))] [] true)) fun x54 => cnd (chk (.sl true) x54)
  (some (.nrm, [(.str (strV (gt s1 0))), (.slice (esV x54) [] true), (.int .i64 (IntKind.wrap .i64 ((intV (gt s1 2)) + (if (1 : Int) > (intV (gt (tupV x52) 1)) then 1 else (intV (gt (tupV x52) 1))))))], [])) none)
  (cnd ((intV (gt (tupV x52) 0)) == 92)
   (bnd (apd 1 (.slice (esV (gt s1 1)) [] true) (.slice [(.int .u8 92), (.int .u8 (IntKind.wrap .u8 (intV (gt (tupV x52) 0))))] [] true)) fun x56 => cnd (chk (.sl true) x56)
   (some (.nrm, [(.str (strV (gt s1 0))), (.slice (esV x56) [] true), (.int .i64 (IntKind.wrap .i64 ((intV (gt s1 2)) + (if (1 : Int) > (intV (gt (tupV x52) 1)) then 1 else (intV (gt (tupV x52) 1))))))], [])) none)
   (cnd ((intV (gt (tupV x52) 0)) == 10)
   (bnd (apd 1 (.slice (esV (gt s1 1)) [] true) (.slice [(.int .u8 92), (.int .u8 110)] [] true)) fun x58 => cnd (chk (.sl true) x58)
   (some (.nrm, [(.str (strV (gt s1 0))), (.slice (esV x58) [] true), (.int .i64 (IntKind.wrap .i64 ((intV (gt s1 2)) + (if (1 : Int) > (intV (gt (tupV x52) 1)) then 1 else (intV (gt (tupV x52) 1))))))], [])) none)
   (cnd (decide ((intV (gt (tupV x52) 0)) < 32))
    (bnd (slcLH 0 (.str (strV (gt s1 0))) (.int .i64 (intV (gt s1 2))) (.int .i64 (IntKind.wrap .i64 ((intV (gt s1 2)) + (intV (gt (tupV x52) 1)))))) fun x60 => cnd (chk .str x60)
    (callp O 74 [(.str (strV x60))] fun x62 => cnd (chk (.tup [(.sl false), .bool]) x62)
    (bnd (LP (to_quote_l1 O LP) [(.str (strV (gt s1 0))), (.slice (esV (gt s1 1)) [] true), (.int .i64 (intV (gt s1 2))), (.int .i64 (intV (gt (tupV x52) 1))), (.slice (esV (gt (tupV x62) 0)) [] false), (.int .i64 (List.length (esV (gt (tupV x62) 0)) : Int)), (.int .i64 0)] []) fun y77 =>
    exIs y77.1 (some 3) (cnd (chkL [.str, (.sl true), (.int .i64), (.int .i64), (.sl false), (.int .i64), (.int .i64)] y77.2.1) (cnd (chkU [] y77.2.2)
    (some (.nrm, [(.str (strV (gt y77.2.1 0))), (.slice (esV (gt y77.2.1 1)) [] true), (.int .i64 (IntKind.wrap .i64 ((intV (gt y77.2.1 2)) + (if (1 : Int) > (intV (gt y77.2.1 3)) then 1 else (intV (gt y77.2.1 3))))))], [])) none) none)
    (none)) none) none)
    (cnd (decide ((intV (gt (tupV x52) 0)) ≥ 65536))
    (bnd (slcLH 0 (.str (strV (gt s1 0))) (.int .i64 (intV (gt s1 2))) (.int .i64 (IntKind.wrap .i64 ((intV (gt s1 2)) + (intV (gt (tupV x52) 1)))))) fun x78 => cnd (chk .str x78)
    (callp O 74 [(.str (strV x78))] fun x80 => cnd (chk (.tup [(.sl false), .bool]) x80)
    (bnd (LP (to_quote_l2 O LP) [(.str (strV (gt s1 0))), (.slice (esV (gt s1 1)) [] true), (.int .i64 (intV (gt s1 2))), (.int .i64 (intV (gt (tupV x52) 1))), (.slice (esV (gt (tupV x80) 0)) [] false), (.int .i64 (List.length (esV (gt (tupV x80) 0)) : Int)), (.int .i64 0)] []) fun y95 =>
    exIs y95.1 (some 3) (cnd (chkL [.str, (.sl true), (.int .i64), (.int .i64), (.sl false), (.int .i64), (.int .i64)] y95.2.1) (cnd (chkU [] y95.2.2)
     (some (.nrm, [(.str (strV (gt y95.2.1 0))), (.slice (esV (gt y95.2.1 1)) [] true), (.int .i64 (IntKind.wrap .i64 ((intV (gt y95.2.1 2)) + (if (1 : Int) > (intV (gt y95.2.1 3)) then 1 else (intV (gt y95.2.1 3))))))], [])) none) none)
    (none)) none) none)
    (bnd (slcLH 0 (.str (strV (gt s1 0))) (.int .i64 (intV (gt s1 2))) (.int .i64 (IntKind.wrap .i64 ((intV (gt s1 2)) + (intV (gt (tupV x52) 1)))))) fun x96 => cnd (chk .str x96)
    (bnd (apdStr (.slice (esV (gt s1 1)) [] true) (.str (strV x96))) fun x98 => cnd (chk (.sl true) x98)
    (some (.nrm, [(.str (strV (gt s1 0))), (.slice (esV x98) [] true), (.int .i64 (IntKind.wrap .i64 ((intV (gt s1 2)) + (if (1 : Int) > (intV (gt (tupV x52) 1)) then 1 else (intV (gt (tupV x52) 1))))))], [])) none) none)))))) none)
  (some (.brk 0, [(.str (strV (gt s1 0))), (.slice (esV (gt s1 1)) [] true), (.int .i64 (intV (gt s1 2)))], []))) none) none
def to_quote_T1 (O : Orc) (LP : LBody → LBody) (s : Str) : Option (PV × UP) :=
 bnd (LP (to_quote_l3 O LP) [(.str s), (.slice [(.int .u8 34)] [] true), (.int .i64 0)] []) fun y102 =>
 exIs y102.1 (some 0) (cnd (chkL [.str, (.sl true), (.int .i64)] y102.2.1) (cnd (chkU [] y102.2.2)
 (bnd (apd 1 (.slice (esV (gt y102.2.1 1)) [] true) (.slice [(.int .u8 34)] [] true)) fun x103 => cnd (chk (.sl true) x103)
 (bnd (toStr (.slice (esV x103) [] true)) fun x105 => cnd (chk .str x105)
 (some ((.str (strV x105)), [])) none) none) none) none)
 (none)
noncomputable def to_quote_l1T (y63 : (List Int) × Bool) : ((List Int) × Int) → Option (((List Int) × Int) ⊕ ((List Int)))
 | (b_69, t_70) =>
 cnd (decide (t_70 < (List.length y63.1 : Int)))
  (bnd (nthI y63.1 t_70) fun y72 =>
  bnd (to_unit b_69 y72) fun y74 =>
  some (.inl (y74, (IntKind.wrap .i64 (t_70 + 1)))))
  (some (.inr b_69))
abbrev to_quote_l1R (s : Str) (i_51 : Int) (y53 : Int × Int) (y63 : (List Int) × Bool) (st : (List Int) × Int) (l : List PV) (u : UP) : Prop := l = [(.str s), (.slice (List.map (PV.int .u8) st.1) [] true), (.int .i64 i_51), (.int .i64 y53.2), (.slice (List.map (PV.int .i64) y63.1) [] false), (.int .i64 (List.length y63.1 : Int)), (.int .i64 st.2)] ∧ u = []
abbrev to_quote_l1X (s : Str) (i_51 : Int) (y53 : Int × Int) (y63 : (List Int) × Bool) (p : (List Int)) (r : Ex × List PV × UP) : Prop := (fun (p : (List Int)) => ∃ (t_76 : Int), r = (Ex.brk 3, [(.str s), (.slice (List.map (PV.int .u8) p) [] true), (.int .i64 i_51), (.int .i64 y53.2), (.slice (List.map (PV.int .i64) y63.1) [] false), (.int .i64 (List.length y63.1 : Int)), (.int .i64 t_76)], [])) p
noncomputable def to_quote_l2T (y81 : (List Int) × Bool) : ((List Int) × Int) → Option (((List Int) × Int) ⊕ ((List Int)))
 | (b_87, t_88) =>
 cnd (decide (t_88 < (List.length y81.1 : Int)))
  (bnd (nthI y81.1 t_88) fun y90 =>
  bnd (to_unit b_87 y90) fun y92 =>
  some (.inl (y92, (IntKind.wrap .i64 (t_88 + 1)))))
  (some (.inr b_87))
abbrev to_quote_l2R (s : Str) (i_51 : Int) (y53 : Int × Int) (y81 : (List Int) × Bool) (st : (List Int) × Int) (l : List PV) (u : UP) : Prop := l = [(.str s), (.slice (List.map (PV.int .u8) st.1) [] true), (.int .i64 i_51), (.int .i64 y53.2), (.slice (List.map (PV.int .i64) y81.1) [] false), (.int .i64 (List.length y81.1 : Int)), (.int .i64 st.2)] ∧ u = []
abbrev to_quote_l2X (s : Str) (i_51 : Int) (y53 : Int × Int) (y81 : (List Int) × Bool) (p : (List Int)) (r : Ex × List PV × UP) : Prop := (fun (p : (List Int)) => ∃ (t_94 : Int), r = (Ex.brk 3, [(.str s), (.slice (List.map (PV.int .u8) p) [] true), (.int .i64 i_51), (.int .i64 y53.2), (.slice (List.map (PV.int .i64) y81.1) [] false), (.int .i64 (List.length y81.1 : Int)), (.int .i64 t_94)], [])) p
noncomputable def to_quote_l3T (s : Str) : ((List Int) × Int) → Option (((List Int) × Int) ⊕ ((List Int)))
 | (b_50, i_51) =>
 cnd (decide (i_51 < (List.length s : Int)))
  (bnd (ls_Code s i_51) fun y53 =>
  cnd (y53.1 == 34)
  (bnd (tapp b_50 [92, (IntKind.wrap .u8 y53.1)]) fun y55 =>
  some (.inl (y55, (IntKind.wrap .i64 (i_51 + (if (1 : Int) > y53.2 then 1 else y53.2))))))
  (cnd (y53.1 == 92)
   (bnd (tapp b_50 [92, (IntKind.wrap .u8 y53.1)]) fun y57 =>
   some (.inl (y57, (IntKind.wrap .i64 (i_51 + (if (1 : Int) > y53.2 then 1 else y53.2))))))
   (cnd (y53.1 == 10)
   (bnd (tapp b_50 [92, 110]) fun y59 =>
   some (.inl (y59, (IntKind.wrap .i64 (i_51 + (if (1 : Int) > y53.2 then 1 else y53.2))))))
   (cnd (decide (y53.1 < 32))
    (bnd (tslc s i_51 (IntKind.wrap .i64 (i_51 + y53.2))) fun y61 =>
    bnd (ls_Units y61) fun y63 =>
    bnd (tloop (to_quote_l1T y63) (b_50, 0)) fun b_75 =>
    some (.inl (b_75, (IntKind.wrap .i64 (i_51 + (if (1 : Int) > y53.2 then 1 else y53.2))))))
    (cnd (decide (y53.1 ≥ 65536))
    (bnd (tslc s i_51 (IntKind.wrap .i64 (i_51 + y53.2))) fun y79 =>
    bnd (ls_Units y79) fun y81 =>
    bnd (tloop (to_quote_l2T y81) (b_50, 0)) fun b_93 =>
    some (.inl (b_93, (IntKind.wrap .i64 (i_51 + (if (1 : Int) > y53.2 then 1 else y53.2))))))
    (bnd (tslc s i_51 (IntKind.wrap .i64 (i_51 + y53.2))) fun y97 =>
    bnd (tapp b_50 (intsT y97)) fun y99 =>
    some (.inl (y99, (IntKind.wrap .i64 (i_51 + (if (1 : Int) > y53.2 then 1 else y53.2)))))))))))
  (some (.inr b_50))
abbrev to_quote_l3R (s : Str) (st : (List Int) × Int) (l : List PV) (u : UP) : Prop := l = [(.str s), (.slice (List.map (PV.int .u8) st.1) [] true), (.int .i64 st.2)] ∧ u = []
abbrev to_quote_l3X (s : Str) (p : (List Int)) (r : Ex × List PV × UP) : Prop := (fun (p : (List Int)) => ∃ (i_101 : Int), r = (Ex.brk 0, [(.str s), (.slice (List.map (PV.int .u8) p) [] true), (.int .i64 i_101)], [])) p
noncomputable def to_quote_B (s : Str) : Option Str :=
 bnd (tloop (to_quote_l3T s) ([34], 0)) fun b_100 =>
 bnd (tapp b_100 [34]) fun y104 =>
 bnd (some (bytesT y104)) fun y106 =>
 some y106
def to_quote_ds : Decs := { decs := [(19, (.tup [(.int .i64), (.int .i64)])), (28, .str), (29, (.sl true)), (41, (.sl true)), (47, (.sl true)), (61, .str), (62, (.tup [(.sl false), .bool])), (69, (.ref (.int .i64))), (73, (.sl true)), (81, (.sl true)), (82, .str)], ups := [], loops := [(3, [], ⟨[.str, (.sl true), (.int .i64)], [], [(some 0, [.str, (.sl true), (.int .i64)], [])]⟩), (13, [], ⟨[.str, (.sl true), (.int .i64), (.int .i64), (.sl false), (.int .i64), (.int .i64)], [], [(some 3, [.str, (.sl true), (.int .i64), (.int .i64), (.sl false), (.int .i64), (.int .i64)], [])]⟩)] }
set_option maxRecDepth 100000 in
theorem to_quote_t1 (O : Orc) (LP : LBody → LBody) (s : Str) : evalBodyD Tryd.prog (MT 41) to_quote_ds Tryd.f41.ntmps O LP Tryd.f41 [(.str s)] [] = to_quote_T1 O LP s := by kernel_rfl
theorem to_quote_l1_ok (s : Str) (i_51 : Int) (y53 : Int × Int) (y63 : (List Int) × Bool) : ∀ st l u, to_quote_l1R s i_51 y53 y63 st l u → Imp (to_quote_l1T y63 st) (to_quote_l1 O loopLim l u) (StepR (to_quote_l1R s i_51 y53 y63) (to_quote_l1X s i_51 y53 y63)) := by
 rintro ⟨b_69, t_70⟩ l u ⟨rfl, rfl⟩
 simp only [to_quote_l1T, to_quote_l1]
 refine Imp.chk rfl (Imp.chk rfl ?_)
 try simp only [evs, tys]
 refine Imp.cnd ?_ ?_
 ·refine Imp.op (f := fun a => .ref ((PV.int .i64) a)) (fun a h => op_ix (enc := (PV.int .i64)) (by first | rfl | simp only [evs, tys, evl]) ⟨by first | rfl | simp only [evs, tys, evc], by decide⟩ h) (fun a => rfl) fun y72 hy72 => ?_
  try simp only [evs, tys]
  refine Imp.call (f := to_unitE) rfl (fun a h => by first | exact to_unit_spec h | simpa only [evs, tys, evl] using to_unit_spec h) (fun a => by first | rfl | simp only [to_unitE, evk, chks]) fun y74 hy74 => ?_
  try simp only [to_unitE, evs, tys]
  exact Imp.some (StepR.next ⟨by first | rfl | simp only [evs, tys, evl], rfl⟩)
 ·exact Imp.some (StepR.brk ⟨t_70, by first | rfl | simp only [evs, tys, evl, elim_inl, elim_inr]⟩)
theorem to_quote_l2_ok (s : Str) (i_51 : Int) (y53 : Int × Int) (y81 : (List Int) × Bool) : ∀ st l u, to_quote_l2R s i_51 y53 y81 st l u → Imp (to_quote_l2T y81 st) (to_quote_l2 O loopLim l u) (StepR (to_quote_l2R s i_51 y53 y81) (to_quote_l2X s i_51 y53 y81)) := by
 rintro ⟨b_87, t_88⟩ l u ⟨rfl, rfl⟩
 simp only [to_quote_l2T, to_quote_l2]
 refine Imp.chk rfl (Imp.chk rfl ?_)
 try simp only [evs, tys]
 refine Imp.cnd ?_ ?_
 ·refine Imp.op (f := fun a => .ref ((PV.int .i64) a)) (fun a h => op_ix (enc := (PV.int .i64)) (by first | rfl | simp only [evs, tys, evl]) ⟨by first | rfl | simp only [evs, tys, evc], by decide⟩ h) (fun a => rfl) fun y90 hy90 => ?_
  try simp only [evs, tys]
  refine Imp.call (f := to_unitE) rfl (fun a h => by first | exact to_unit_spec h | simpa only [evs, tys, evl] using to_unit_spec h) (fun a => by first | rfl | simp only [to_unitE, evk, chks]) fun y92 hy92 => ?_
  try simp only [to_unitE, evs, tys]
  exact Imp.some (StepR.next ⟨by first | rfl | simp only [evs, tys, evl], rfl⟩)
 ·exact Imp.some (StepR.brk ⟨t_88, by first | rfl | simp only [evs, tys, evl, elim_inl, elim_inr]⟩)
theorem to_quote_l3_ok (s : Str) : ∀ st l u, to_quote_l3R s st l u → Imp (to_quote_l3T s st) (to_quote_l3 O loopLim l u) (StepR (to_quote_l3R s) (to_quote_l3X s)) := by
 rintro ⟨b_50, i_51⟩ l u ⟨rfl, rfl⟩
 simp only [to_quote_l3T, to_quote_l3]
 refine Imp.chk rfl (Imp.chk rfl ?_)
 try simp only [evs, tys]
 refine Imp.cnd ?_ ?_
 ·refine Imp.call (f := ls_CodeE) rfl (fun a h => by first | exact ls_Code_spec h | simpa only [evs, tys, evl] using ls_Code_spec h) (fun a => by first | rfl | simp only [ls_CodeE, evk, chks]) fun y53 hy53 => ?_
  try simp only [ls_CodeE, evs, tys]
  refine Imp.cnd ?_ ?_
  ·refine Imp.op (f := fun a => .slice (List.map (PV.int .u8) a) [] true) (fun a h => op_apd (enc := (PV.int .u8)) (by first | rfl | simp only [evs, tys, evl]) (by first | rfl | simp only [evs, tys, evl]) (fun a => by first | rfl | simp only [evs, tys, evc]) h) (fun a => rfl) fun y55 hy55 => ?_
   try simp only [evs, tys]
   exact Imp.some (StepR.next ⟨by first | rfl | simp only [evs, tys, evl], rfl⟩)
  ·refine Imp.cnd ?_ ?_
   ·refine Imp.op (f := fun a => .slice (List.map (PV.int .u8) a) [] true) (fun a h => op_apd (enc := (PV.int .u8)) (by first | rfl | simp only [evs, tys, evl]) (by first | rfl | simp only [evs, tys, evl]) (fun a => by first | rfl | simp only [evs, tys, evc]) h) (fun a => rfl) fun y57 hy57 => ?_
    try simp only [evs, tys]
    exact Imp.some (StepR.next ⟨by first | rfl | simp only [evs, tys, evl], rfl⟩)
   ·refine Imp.cnd ?_ ?_
    ·refine Imp.op (f := fun a => .slice (List.map (PV.int .u8) a) [] true) (fun a h => op_apd (enc := (PV.int .u8)) (by first | rfl | simp only [evs, tys, evl]) (by first | rfl | simp only [evs, tys, evl]) (fun a => by first | rfl | simp only [evs, tys, evc]) h) (fun a => rfl) fun y59 hy59 => ?_
     try simp only [evs, tys]
     exact Imp.some (StepR.next ⟨by first | rfl | simp only [evs, tys, evl], rfl⟩)
    ·refine Imp.cnd ?_ ?_
     ·refine Imp.op (f := fun a => .str a) (fun a h => op_sslcLH h) (fun a => rfl) fun y61 hy61 => ?_
      try simp only [evs, tys]
      refine Imp.call (f := ls_UnitsE) rfl (fun a h => by first | exact ls_Units_spec h | simpa only [evs, tys, evl] using ls_Units_spec h) (fun a => by first | rfl | simp only [ls_UnitsE, evk, chks]) fun y63 hy63 => ?_
      try simp only [ls_UnitsE, evs, tys]
      refine Imp.bnd (Imp.loop (to_quote_l1_ok s i_51 y53 y63) ⟨by first | rfl | simp only [evs, tys, evl], rfl⟩) ?_
      rintro b_75 vy77 hy77
      obtain ⟨t_76, rfl⟩ := hy77
      refine Imp.exHit rfl (Imp.chk rfl (Imp.chk rfl ?_))
      try simp only [evs, tys]
      exact Imp.some (StepR.next ⟨by first | rfl | simp only [evs, tys, evl], rfl⟩)
     ·refine Imp.cnd ?_ ?_
      ·refine Imp.op (f := fun a => .str a) (fun a h => op_sslcLH h) (fun a => rfl) fun y79 hy79 => ?_
       try simp only [evs, tys]
       refine Imp.call (f := ls_UnitsE) rfl (fun a h => by first | exact ls_Units_spec h | simpa only [evs, tys, evl] using ls_Units_spec h) (fun a => by first | rfl | simp only [ls_UnitsE, evk, chks]) fun y81 hy81 => ?_
       try simp only [ls_UnitsE, evs, tys]
       refine Imp.bnd (Imp.loop (to_quote_l2_ok s i_51 y53 y81) ⟨by first | rfl | simp only [evs, tys, evl], rfl⟩) ?_
       rintro b_93 vy95 hy95
       obtain ⟨t_94, rfl⟩ := hy95
       refine Imp.exHit rfl (Imp.chk rfl (Imp.chk rfl ?_))
       try simp only [evs, tys]
       exact Imp.some (StepR.next ⟨by first | rfl | simp only [evs, tys, evl], rfl⟩)
      ·refine Imp.op (f := fun a => .str a) (fun a h => op_sslcLH h) (fun a => rfl) fun y97 hy97 => ?_
       try simp only [evs, tys]
       refine Imp.op (f := fun a => .slice (List.map (PV.int .u8) a) [] true) (fun a h => op_apdStr (by first | rfl | simp only [evs, tys, evl]) h) (fun a => rfl) fun y99 hy99 => ?_
       try simp only [evs, tys]
       exact Imp.some (StepR.next ⟨by first | rfl | simp only [evs, tys, evl], rfl⟩)
 ·exact Imp.some (StepR.brk ⟨i_51, by first | rfl | simp only [evs, tys, evl, elim_inl, elim_inr]⟩)
theorem to_quote_imp (s : Str) : Imp (to_quote_B s) (to_quote_T1 O loopLim s) (fun r v => v = (to_quoteE r, [])) := by
 simp only [to_quote_B, to_quote_T1]
 try simp only [evs, tys]
 refine Imp.bnd (Imp.loop (to_quote_l3_ok s) ⟨by first | rfl | simp only [evs, tys, evl], rfl⟩) ?_
 rintro b_100 vy102 hy102
 obtain ⟨i_101, rfl⟩ := hy102
 refine Imp.exHit rfl (Imp.chk rfl (Imp.chk rfl ?_))
 try simp only [evs, tys]
 refine Imp.op (f := fun a => .slice (List.map (PV.int .u8) a) [] true) (fun a h => op_apd (enc := (PV.int .u8)) (by first | rfl | simp only [evs, tys, evl]) (by first | rfl | simp only [evs, tys, evl]) (fun a => by first | rfl | simp only [evs, tys, evc]) h) (fun a => rfl) fun y104 hy104 => ?_
 try simp only [evs, tys]
 refine Imp.op (f := fun a => .str a) (fun a h => op_toStr (by first | rfl | simp only [evs, tys, evl]) h) (fun a => rfl) fun y106 hy106 => ?_
 try simp only [evs, tys]
 exact Imp.some (by first | rfl | simp only [to_quoteE, evs, tys, evl])
theorem to_quote_run {s : Str} {r : Str} (h : to_quote_B s = some r) : to_quote s = some r := by
 obtain ⟨v, hv, rfl⟩ := to_quote_imp s r h
 exact tO_of (pair_inj to_quoteEj) (OL_runD to_quote_ds rfl rfl Tryd.func41 ((to_quote_t1 _ _ s).trans hv))
theorem st_Join_run {elems : List Str} {sep : Str} {r : Str} (h : tJoin elems sep = some r) : st_Join elems sep = some r := tO_of (pair_inj st_JoinEj) (OL_ext (g := xJoin) rfl (xJoin_of h))
def r1_Quote_l1 (O : Orc) (LP : LBody → LBody) : LBody := fun s3 s3u => cnd (chkL [(.sl false), .str, (.int .i64)] s3) (cnd (chkU [] s3u)
 (cnd (decide ((intV (gt s3 2)) < (List.length (esV (gt s3 0)) : Int)))
 (bnd (ix 1 (.slice (esV (gt s3 0)) [] false) (.int .i64 (intV (gt s3 2)))) fun x46 => cnd (chk (.ref (.int .i64)) x46)
 (cnd ((intV (refV x46)) == 34)
 (bnd (bin .add (.str (strV (gt s3 1))) (.str [92, 34])) fun x48 => cnd (chk .str x48)
 (some (.nrm, [(.slice (esV (gt s3 0)) [] false), (.str (strV x48)), (.int .i64 (IntKind.wrap .i64 ((intV (gt s3 2)) + 1)))], [])) none)
 (bnd (ix 1 (.slice (esV (gt s3 0)) [] false) (.int .i64 (intV (gt s3 2)))) fun x50 => cnd (chk (.ref (.int .i64)) x50)
 (cnd ((intV (refV x50)) == 92)
 (bnd (bin .add (.str (strV (gt s3 1))) (.str [92, 92])) fun x52 => cnd (chk .str x52)
 (some (.nrm, [(.slice (esV (gt s3 0)) [] false), (.str (strV x52)), (.int .i64 (IntKind.wrap .i64 ((intV (gt s3 2)) + 1)))], [])) none)
 (bnd (ix 1 (.slice (esV (gt s3 0)) [] false) (.int .i64 (intV (gt s3 2)))) fun x54 => cnd (chk (.ref (.int .i64)) x54)
 (cnd ((intV (refV x54)) == 10)
 (bnd (bin .add (.str (strV (gt s3 1))) (.str [92, 110])) fun x56 => cnd (chk .str x56)
 (some (.nrm, [(.slice (esV (gt s3 0)) [] false), (.str (strV x56)), (.int .i64 (IntKind.wrap .i64 ((intV (gt s3 2)) + 1)))], [])) none)
 (bnd (ix 1 (.slice (esV (gt s3 0)) [] false) (.int .i64 (intV (gt s3 2)))) fun x58 => cnd (chk (.ref (.int .i64)) x58)
 (cnd (decide ((intV (refV x58)) < 32))
 (bnd (ix 1 (.slice (esV (gt s3 0)) [] false) (.int .i64 (intV (gt s3 2)))) fun x60 => cnd (chk (.ref (.int .i64)) x60)
 (callp O 76 [(.int .i64 (intV (refV x60)))] fun x62 => cnd (chk .str x62)
 (bnd (bin .add (.str (strV (gt s3 1))) (.str (strV x62))) fun x64 => cnd (chk .str x64)
 (some (.nrm, [(.slice (esV (gt s3 0)) [] false), (.str (strV x64)), (.int .i64 (IntKind.wrap .i64 ((intV (gt s3 2)) + 1)))], [])) none) none) none)
 (bnd (ix 1 (.slice (esV (gt s3 0)) [] false) (.int .i64 (intV (gt s3 2)))) fun x66 => cnd (chk (.ref (.int .i64)) x66)
 (cnd (decide ((intV (refV x66)) > 65535))
 (bnd (ix 1 (.slice (esV (gt s3 0)) [] false) (.int .i64 (intV (gt s3 2)))) fun x68 => cnd (chk (.ref (.int .i64)) x68)
 (callp O 76 [(.int .i64 (IntKind.wrap .i64 (55296 + (IntKind.wrap .i64 (Int.tdiv (IntKind.wrap .i64 ((intV (refV x68)) - 65536)) 1024)))))] fun x70 => cnd (chk .str x70)
 (bnd (bin .add (.str (strV (gt s3 1))) (.str (strV x70))) fun x72 => cnd (chk .str x72)
 (bnd (ix 1 (.slice (esV (gt s3 0)) [] false) (.int .i64 (intV (gt s3 2)))) fun x74 => cnd (chk (.ref (.int .i64)) x74)
 (callp O 76 [(.int .i64 (IntKind.wrap .i64 (56320 + (Int.tmod (IntKind.wrap .i64 ((intV (refV x74)) - 65536)) 1024))))] fun x76 => cnd (chk .str x76)
 (bnd (bin .add (.str (strV x72)) (.str (strV x76))) fun x78 => cnd (chk .str x78)
 (some (.nrm, [(.slice (esV (gt s3 0)) [] false), (.str (strV x78)), (.int .i64 (IntKind.wrap .i64 ((intV (gt s3 2)) + 1)))], [])) none) none) none) none) none) none)
 (bnd (ix 1 (.slice (esV (gt s3 0)) [] false) (.int .i64 (intV (gt s3 2)))) fun x80 => cnd (chk (.ref (.int .i64)) x80)
 (callp O 77 [(.int .i64 (intV (refV x80)))] fun x82 => cnd (chk .str x82)
 (bnd (bin .add (.str (strV (gt s3 1))) (.str (strV x82))) fun x84 => cnd (chk .str x84)
 (some (.nrm, [(.slice (esV (gt s3 0)) [] false), (.str (strV x84)), (.int .i64 (IntKind.wrap .i64 ((intV (gt s3 2)) + 1)))], [])) none) none) none)) none)) none)) none)) none)) none)
 (some (.brk 0, [(.slice (esV (gt s3 0)) [] false), (.str (strV (gt s3 1))), (.int .i64 (intV (gt s3 2)))], []))) none) none
def r1_Quote_T1 (O : Orc) (LP : LBody → LBody) (s : Str) : Option (PV × UP) :=
 callp O 58 [(.str s)] fun x1 => cnd (chk (.tup [(.sl false), .bool]) x1)
 (bnd (LP (r1_Quote_l1 O LP) [(.slice (esV (gt (tupV x1) 0)) [] false), (.str [34]), (.int .i64 0)] []) fun y88 =>
 exIs y88.1 (some 0) (cnd (chkL [(.sl false), .str, (.int .i64)] y88.2.1) (cnd (chkU [] y88.2.2)
 (bnd (bin .add (.str (strV (gt y88.2.1 1))) (.str [34])) fun x89 => cnd (chk .str x89)
 (some ((.str (strV x89)), [])) none) none) none)
 (none)) none
noncomputable def r1_Quote_l1T (y2 : (List Int) × Bool) : (Str × Int) → Option ((Str × Int) ⊕ Str)
 | (out_44, i_45) =>
 cnd (decide (i_45 < (List.length y2.1 : Int)))
  (bnd (nthI y2.1 i_45) fun y47 =>
  cnd (y47 == 34)
  (bnd (tapp out_44 ([92, 34] : Str)) fun y49 =>
  some (.inl (y49, (IntKind.wrap .i64 (i_45 + 1)))))
  (bnd (nthI y2.1 i_45) fun y51 =>
  cnd (y51 == 92)
   (bnd (tapp out_44 ([92, 92] : Str)) fun y53 =>
   some (.inl (y53, (IntKind.wrap .i64 (i_45 + 1)))))
   (bnd (nthI y2.1 i_45) fun y55 =>
   cnd (y55 == 10)
   (bnd (tapp out_44 ([92, 110] : Str)) fun y57 =>
   some (.inl (y57, (IntKind.wrap .i64 (i_45 + 1)))))
   (bnd (nthI y2.1 i_45) fun y59 =>
   cnd (decide (y59 < 32))
    (bnd (nthI y2.1 i_45) fun y61 =>
    bnd (r1_unit y61) fun y63 =>
    bnd (tapp out_44 y63) fun y65 =>
    some (.inl (y65, (IntKind.wrap .i64 (i_45 + 1)))))
    (bnd (nthI y2.1 i_45) fun y67 =>
    cnd (decide (y67 > 65535))
    (bnd (nthI y2.1 i_45) fun y69 =>
    bnd (r1_unit (IntKind.wrap .i64 (55296 + (IntKind.wrap .i64 (Int.tdiv (IntKind.wrap .i64 (y69 - 65536)) 1024))))) fun y71 =>
    bnd (tapp out_44 y71) fun y73 =>
    bnd (nthI y2.1 i_45) fun y75 =>
    bnd (r1_unit (IntKind.wrap .i64 (56320 + (Int.tmod (IntKind.wrap .i64 (y75 - 65536)) 1024)))) fun y77 =>
    bnd (tapp y73 y77) fun y79 =>
    some (.inl (y79, (IntKind.wrap .i64 (i_45 + 1)))))
    (bnd (nthI y2.1 i_45) fun y81 =>
    bnd (r1_Put y81) fun y83 =>
    bnd (tapp out_44 y83) fun y85 =>
    some (.inl (y85, (IntKind.wrap .i64 (i_45 + 1))))))))))
  (some (.inr out_44))
abbrev r1_Quote_l1R (y2 : (List Int) × Bool) (st : Str × Int) (l : List PV) (u : UP) : Prop := l = [(.slice (List.map (PV.int .i64) y2.1) [] false), (.str st.1), (.int .i64 st.2)] ∧ u = []
abbrev r1_Quote_l1X (y2 : (List Int) × Bool) (p : Str) (r : Ex × List PV × UP) : Prop := (fun (p : Str) => ∃ (i_87 : Int), r = (Ex.brk 0, [(.slice (List.map (PV.int .i64) y2.1) [] false), (.str p), (.int .i64 i_87)], [])) p
noncomputable def r1_Quote_B (s : Str) : Option Str :=
 bnd (r1_Codes s) fun y2 =>
 bnd (tloop (r1_Quote_l1T y2) ([34], 0)) fun out_86 =>
 bnd (tapp out_86 ([34] : Str)) fun y90 =>
 some y90
def r1_Quote_ds : Decs := { decs := [(9, (.tup [(.sl false), .bool])), (21, (.ref (.int .i64))), (23, .str), (24, .str), (28, (.ref (.int .i64))), (32, .str), (36, (.ref (.int .i64))), (40, .str), (44, (.ref (.int .i64))), (48, .str), (52, (.ref (.int .i64))), (58, (.ref (.int .i64))), (60, .str), (61, .str), (65, (.ref (.int .i64))), (71, (.ref (.int .i64))), (76, .str), (77, .str), (80, (.ref (.int .i64))), (85, .str), (86, .str), (88, .str)], ups := [], loops := [(4, [], ⟨[(.sl false), .str, (.int .i64)], [], [(some 0, [(.sl false), .str, (.int .i64)], [])]⟩)] }
set_option maxRecDepth 100000 in
theorem r1_Quote_t1 (O : Orc) (LP : LBody → LBody) (s : Str) : evalBodyD Tryd.prog (MT 42) r1_Quote_ds Tryd.f42.ntmps O LP Tryd.f42 [(.str s)] [] = r1_Quote_T1 O LP s := by kernel_rfl
theorem r1_Quote_l1_ok (y2 : (List Int) × Bool) : ∀ st l u, r1_Quote_l1R y2 st l u → Imp (r1_Quote_l1T y2 st) (r1_Quote_l1 O loopLim l u) (StepR (r1_Quote_l1R y2) (r1_Quote_l1X y2)) := by
 rintro ⟨out_44, i_45⟩ l u ⟨rfl, rfl⟩
 simp only [r1_Quote_l1T, r1_Quote_l1]
 refine Imp.chk rfl (Imp.chk rfl ?_)
 try simp only [evs, tys]
 refine Imp.cnd ?_ ?_
 ·refine Imp.op (f := fun a => .ref ((PV.int .i64) a)) (fun a h => op_ix (enc := (PV.int .i64)) (by first | rfl | simp only [evs, tys, evl]) ⟨by first | rfl | simp only [evs, tys, evc], by decide⟩ h) (fun a => rfl) fun y47 hy47 => ?_
  try simp only [evs, tys]
  refine Imp.cnd ?_ ?_
  ·refine Imp.op (f := fun a => .str a) (fun a h => op_cat h) (fun a => rfl) fun y49 hy49 => ?_
   try simp only [evs, tys]
   exact Imp.some (StepR.next ⟨by first | rfl | simp only [evs, tys, evl], rfl⟩)
  ·refine Imp.op (f := fun a => .ref ((PV.int .i64) a)) (fun a h => op_ix (enc := (PV.int .i64)) (by first | rfl | simp only [evs, tys, evl]) ⟨by first | rfl | simp only [evs, tys, evc], by decide⟩ h) (fun a => rfl) fun y51 hy51 => ?_
   try simp only [evs, tys]
   refine Imp.cnd ?_ ?_
   ·refine Imp.op (f := fun a => .str a) (fun a h => op_cat h) (fun a => rfl) fun y53 hy53 => ?_
    try simp only [evs, tys]
    exact Imp.some (StepR.next ⟨by first | rfl | simp only [evs, tys, evl], rfl⟩)
   ·refine Imp.op (f := fun a => .ref ((PV.int .i64) a)) (fun a h => op_ix (enc := (PV.int .i64)) (by first | rfl | simp only [evs, tys, evl]) ⟨by first | rfl | simp only [evs, tys, evc], by decide⟩ h) (fun a => rfl) fun y55 hy55 => ?_
    try simp only [evs, tys]
    refine Imp.cnd ?_ ?_
    ·refine Imp.op (f := fun a => .str a) (fun a h => op_cat h) (fun a => rfl) fun y57 hy57 => ?_
     try simp only [evs, tys]
     exact Imp.some (StepR.next ⟨by first | rfl | simp only [evs, tys, evl], rfl⟩)
    ·refine Imp.op (f := fun a => .ref ((PV.int .i64) a)) (fun a h => op_ix (enc := (PV.int .i64)) (by first | rfl | simp only [evs, tys, evl]) ⟨by first | rfl | simp only [evs, tys, evc], by decide⟩ h) (fun a => rfl) fun y59 hy59 => ?_
     try simp only [evs, tys]
     refine Imp.cnd ?_ ?_
     ·refine Imp.op (f := fun a => .ref ((PV.int .i64) a)) (fun a h => op_ix (enc := (PV.int .i64)) (by first | rfl | simp only [evs, tys, evl]) ⟨by first | rfl | simp only [evs, tys, evc], by decide⟩ h) (fun a => rfl) fun y61 hy61 => ?_
      try simp only [evs, tys]
      refine Imp.call (f := r1_unitE) rfl (fun a h => by first | exact r1_unit_spec h | simpa only [evs, tys, evl] using r1_unit_spec h) (fun a => by first | rfl | simp only [r1_unitE, evk, chks]) fun y63 hy63 => ?_
      try simp only [r1_unitE, evs, tys]
      refine Imp.op (f := fun a => .str a) (fun a h => op_cat h) (fun a => rfl) fun y65 hy65 => ?_
      try simp only [evs, tys]
      exact Imp.some (StepR.next ⟨by first | rfl | simp only [evs, tys, evl], rfl⟩)
     ·refine Imp.op (f := fun a => .ref ((PV.int .i64) a)) (fun a h => op_ix (enc := (PV.int .i64)) (by first | rfl | simp only [evs, tys, evl]) ⟨by first | rfl | simp only [evs, tys, evc], by decide⟩ h) (fun a => rfl) fun y67 hy67 => ?_
      try simp only [evs, tys]
      refine Imp.cnd ?_ ?_
      ·refine Imp.op (f := fun a => .ref ((PV.int .i64) a)) (fun a h => op_ix (enc := (PV.int .i64)) (by first | rfl | simp only [evs, tys, evl]) ⟨by first | rfl | simp only [evs, tys, evc], by decide⟩ h) (fun a => rfl) fun y69 hy69 => ?_
       try simp only [evs, tys]
       refine Imp.call (f := r1_unitE) rfl (fun a h => by first | exact r1_unit_spec h | simpa only [evs, tys, evl] using r1_unit_spec h) (fun a => by first | rfl | simp only [r1_unitE, evk, chks]) fun y71 hy71 => ?_
       try simp only [r1_unitE, evs, tys]
       refine Imp.op (f := fun a => .str a) (fun a h => op_cat h) (fun a => rfl) fun y73 hy73 => ?_
       try simp only [evs, tys]
       refine Imp.op (f := fun a => .ref ((PV.int .i64) a)) (fun a h => op_ix (enc := (PV.int .i64)) (by first | rfl | simp only [evs, tys, evl]) ⟨by first | rfl | simp only [evs, tys, evc], by decide⟩ h) (fun a => rfl) fun y75 hy75 => ?_
       try simp only [evs, tys]
       refine Imp.call (f := r1_unitE) rfl (fun a h => by first | exact r1_unit_spec h | simpa only [evs, tys, evl] using r1_unit_spec h) (fun a => by first | rfl | simp only [r1_unitE, evk, chks]) fun y77 hy77 => ?_
       try simp only [r1_unitE, evs, tys]
       refine Imp.op (f := fun a => .str a) (fun a h => op_cat h) (fun a => rfl) fun y79 hy79 => ?_
       try simp only [evs, tys]
       exact Imp.some (StepR.next ⟨by first | rfl | simp only [evs, tys, evl], rfl⟩)
      ·refine Imp.op (f := fun a => .ref ((PV.int .i64) a)) (fun a h => op_ix (enc := (PV.int .i64)) (by first | rfl | simp only [evs, tys, evl]) ⟨by first | rfl | simp only [evs, tys, evc], by decide⟩ h) (fun a => rfl) fun y81 hy81 => ?_
       try simp only [evs, tys]
       refine Imp.call (f := r1_PutE) rfl (fun a h => by first | exact r1_Put_spec h | simpa only [evs, tys, evl] using r1_Put_spec h) (fun a => by first | rfl | simp only [r1_PutE, evk, chks]) fun y83 hy83 => ?_
       try simp only [r1_PutE, evs, tys]
       refine Imp.op (f := fun a => .str a) (fun a h => op_cat h) (fun a => rfl) fun y85 hy85 => ?_
       try simp only [evs, tys]
       exact Imp.some (StepR.next ⟨by first | rfl | simp only [evs, tys, evl], rfl⟩)
 ·exact Imp.some (StepR.brk ⟨i_45, by first | rfl | simp only [evs, tys, evl, elim_inl, elim_inr]⟩)
theorem r1_Quote_imp (s : Str) : Imp (r1_Quote_B s) (r1_Quote_T1 O loopLim s) (fun r v => v = (r1_QuoteE r, [])) := by
 simp only [r1_Quote_B, r1_Quote_T1]
 try simp only [evs, tys]
 refine Imp.call (f := r1_CodesE) rfl (fun a h => by first | exact r1_Codes_spec h | simpa only [evs, tys, evl] using r1_Codes_spec h) (fun a => by first | rfl | simp only [r1_CodesE, evk, chks]) fun y2 hy2 => ?_
 try simp only [r1_CodesE, evs, tys]
 refine Imp.bnd (Imp.loop (r1_Quote_l1_ok y2) ⟨by first | rfl | simp only [evs, tys, evl], rfl⟩) ?_
 rintro out_86 vy88 hy88
 obtain ⟨i_87, rfl⟩ := hy88
 refine Imp.exHit rfl (Imp.chk rfl (Imp.chk rfl ?_))
 try simp only [evs, tys]
 refine Imp.op (f := fun a => .str a) (fun a h => op_cat h) (fun a => rfl) fun y90 hy90 => ?_
 try simp only [evs, tys]
 exact Imp.some (by first | rfl | simp only [r1_QuoteE, evs, tys, evl])
theorem r1_Quote_run {s : Str} {r : Str} (h : r1_Quote_B s = some r) : r1_Quote s = some r := by
 obtain ⟨v, hv, rfl⟩ := r1_Quote_imp s r h
 exact tO_of (pair_inj r1_QuoteEj) (OL_runD r1_Quote_ds rfl rfl Tryd.func42 ((r1_Quote_t1 _ _ s).trans hv))
theorem st_Contains_run {s : Str} {substr : Str} {r : Bool} (h : tContains s substr = some r) : st_Contains s substr = some r := tO_of (pair_inj st_ContainsEj) (OL_ext (g := xContains) rfl (xContains_of h))
def ls_Name_l1 (O : Orc) (LP : LBody → LBody) : LBody := fun s1 s1u => cnd (chkL [.str, .bool, (.int .i64), (.int .i64)] s1) (cnd (chkU [] s1u)
 (cnd (decide ((intV (gt s1 3)) < (intV (gt s1 2))))
 (bnd (ixStr (.str (strV (gt s1 0))) (.int .i64 (intV (gt s1 3)))) fun x11 => cnd (chk (.int .u8) x11)
 (callp O 55 [(.int .u8 (intV x11))] fun x13 => cnd (chk .bool x13)
 (cnd (!(boolV x13))
 (cnd ((intV (gt s1 3)) == 0)
 (some (.ret, [(.str (strV (gt s1 0))), (.bool false), (.int .i64 (intV (gt s1 2))), (.int .i64 (intV (gt s1 3)))], []))
 (bnd (ixStr (.str (strV (gt s1 0))) (.int .i64 (intV (gt s1 3)))) fun x15 => cnd (chk (.int .u8) x15)
 (callp O 57 [(.int .u8 (intV x15))] fun x17 => cnd (chk .bool x17)
 (cnd (!(boolV x17))
 (some (.ret, [(.str (strV (gt s1 0))), (.bool false), (.int .i64 (intV (gt s1 2))), (.int .i64 (intV (gt s1 3)))], []))
 (some (.nrm, [(.str (strV (gt s1 0))), (.bool (boolV (gt s1 1))), (.int .i64 (intV (gt s1 2))), (.int .i64 (IntKind.wrap .i64 ((intV (gt s1 3)) + 1)))], []))) none) none))
 (some (.nrm, [(.str (strV (gt s1 0))), (.bool (boolV (gt s1 1))), (.int .i64 (intV (gt s1 2))), (.int .i64 (IntKind.wrap .i64 ((intV (gt s1 3)) + 1)))], []))) none) none)
 (some (.brk 0, [(.str (strV (gt s1 0))), (.bool (boolV (gt s1 1))), (.int .i64 (intV (gt s1 2))), (.int .i64 (intV (gt s1 3)))], []))) none) none
def ls_Name_T1 (O : Orc) (LP : LBody → LBody) (s : Str) : Option (PV × UP) :=
 bnd (LP (ls_Name_l1 O LP) [(.str s), (.bool false), (.int .i64 (List.length s : Int)), (.int .i64 0)] []) fun y21 =>
 exIs y21.1 (some 0) (cnd (chkL [.str, .bool, (.int .i64), (.int .i64)] y21.2.1) (cnd (chkU [] y21.2.2)
 (some ((.bool (!((strV (gt y21.2.1 0)) == ([] : Str)))), [])) none) none)
 (exIs y21.1 none (cnd (chkL [.str, .bool, (.int .i64), (.int .i64)] y21.2.1) (cnd (chkU [] y21.2.2)
 (some ((.bool (boolV (gt y21.2.1 1))), [])) none) none)
 (none))
noncomputable def ls_Name_l1T (s : Str) : Int → Option (Int ⊕ (Unit ⊕ Unit))
 | t_10 =>
 cnd (decide (t_10 < (List.length s : Int)))
  (bnd (nthI s t_10) fun y12 =>
  bnd (ls_Letter (y12.toNat : Int)) fun y14 =>
  cnd (!y14)
  (cnd (t_10 == 0)
   (some (.inr (.inr ())))
   (bnd (nthI s t_10) fun y16 =>
   bnd (ls_Digit (y16.toNat : Int)) fun y18 =>
   cnd (!y18)
   (some (.inr (.inr ())))
   (some (.inl (IntKind.wrap .i64 (t_10 + 1))))))
  (some (.inl (IntKind.wrap .i64 (t_10 + 1)))))
  (some (.inr (.inl ())))
abbrev ls_Name_l1R (s : Str) (st : Int) (l : List PV) (u : UP) : Prop := l = [(.str s), (.bool false), (.int .i64 (List.length s : Int)), (.int .i64 st)] ∧ u = []
abbrev ls_Name_l1X (s : Str) (p : Unit ⊕ Unit) (r : Ex × List PV × UP) : Prop := elim p (fun (p : Unit) => ∃ (t_19 : Int), r = (Ex.brk 0, [(.str s), (.bool false), (.int .i64 (List.length s : Int)), (.int .i64 t_19)], [])) (fun q2 => (fun (p : Unit) => ∃ (t_20 : Int), r = (Ex.ret, [(.str s), (.bool false), (.int .i64 (List.length s : Int)), (.int .i64 t_20)], [])) q2)
noncomputable def ls_Name_B (s : Str) : Option Bool :=
 bnd (tloop (ls_Name_l1T s) 0) fun e21_2 => elim e21_2
 (fun p21 =>
 some (!(s == ([] : Str))))
 (fun p21 =>
 some false)
def ls_Name_ds : Decs := { decs := [(11, (.int .u8)), (12, .bool), (20, (.int .u8)), (21, .bool)], ups := [], loops := [(2, [], ⟨[.str, .bool, (.int .i64), (.int .i64)], [], [(some 0, [.str, .bool, (.int .i64), (.int .i64)], []), (none, [.str, .bool, (.int .i64), (.int .i64)], [])]⟩)] }
set_option maxRecDepth 100000 in
theorem ls_Name_t1 (O : Orc) (LP : LBody → LBody) (s : Str) : evalBodyD Tryd.prog (MT 44) ls_Name_ds Tryd.f44.ntmps O LP Tryd.f44 [(.str s)] [] = ls_Name_T1 O LP s := by kernel_rfl
theorem ls_Name_l1_ok (s : Str) : ∀ st l u, ls_Name_l1R s st l u → Imp (ls_Name_l1T s st) (ls_Name_l1 O loopLim l u) (StepR (ls_Name_l1R s) (ls_Name_l1X s)) := by
 rintro t_10 l u ⟨rfl, rfl⟩
 simp only [ls_Name_l1T, ls_Name_l1]
 refine Imp.chk rfl (Imp.chk rfl ?_)
 try simp only [evs, tys]
 refine Imp.cnd ?_ ?_
 ·refine Imp.op (f := fun a => .int .u8 (a.toNat : Int)) (fun a h => op_ixStr h) (fun a => rfl) fun y12 hy12 => ?_
  try simp only [evs, tys]
  refine Imp.call (f := ls_LetterE) rfl (fun a h => by first | exact ls_Letter_spec h | simpa only [evs, tys, evl] using ls_Letter_spec h) (fun a => by first | rfl | simp only [ls_LetterE, evk, chks]) fun y14 hy14 => ?_
  try simp only [ls_LetterE, evs, tys]
  refine Imp.cnd ?_ ?_
  ·refine Imp.cnd ?_ ?_
   ·exact Imp.some (StepR.ret ⟨t_10, by first | rfl | simp only [evs, tys, evl, elim_inl, elim_inr]⟩)
   ·refine Imp.op (f := fun a => .int .u8 (a.toNat : Int)) (fun a h => op_ixStr h) (fun a => rfl) fun y16 hy16 => ?_
    try simp only [evs, tys]
    refine Imp.call (f := ls_DigitE) rfl (fun a h => by first | exact ls_Digit_spec h | simpa only [evs, tys, evl] using ls_Digit_spec h) (fun a => by first | rfl | simp only [ls_DigitE, evk, chks]) fun y18 hy18 => ?_
    try simp only [ls_DigitE, evs, tys]
    refine Imp.cnd ?_ ?_
    ·exact Imp.some (StepR.ret ⟨t_10, by first | rfl | simp only [evs, tys, evl, elim_inl, elim_inr]⟩)
    ·exact Imp.some (StepR.next ⟨by first | rfl | simp only [evs, tys, evl], rfl⟩)
  ·exact Imp.some (StepR.next ⟨by first | rfl | simp only [evs, tys, evl], rfl⟩)
 ·exact Imp.some (StepR.brk ⟨t_10, by first | rfl | simp only [evs, tys, evl, elim_inl, elim_inr]⟩)
theorem ls_Name_imp (s : Str) : Imp (ls_Name_B s) (ls_Name_T1 O loopLim s) (fun r v => v = (ls_NameE r, [])) := by
 simp only [ls_Name_B, ls_Name_T1]
 try simp only [evs, tys]
 refine Imp.bnd (Imp.loop (ls_Name_l1_ok s) ⟨by first | rfl | simp only [evs, tys, evl], rfl⟩) ?_
 rintro (p | p) vy21 hy21
 ·try simp only [elim_inl, elim_inr]
  obtain ⟨t_19, rfl⟩ := hy21
  refine Imp.exHit rfl (Imp.chk rfl (Imp.chk rfl ?_))
  try simp only [evs, tys]
  exact Imp.some (by first | rfl | simp only [ls_NameE, evs, tys, evl])
 ·try simp only [elim_inl, elim_inr]
  obtain ⟨t_20, rfl⟩ := hy21
  refine Imp.exMiss rfl ?_
  refine Imp.exHit rfl (Imp.chk rfl (Imp.chk rfl ?_))
  try simp only [evs, tys]
  exact Imp.some (by first | rfl | simp only [ls_NameE, evs, tys, evl])
theorem ls_Name_run {s : Str} {r : Bool} (h : ls_Name_B s = some r) : ls_Name s = some r := by
 obtain ⟨v, hv, rfl⟩ := ls_Name_imp s r h
 exact tO_of (pair_inj ls_NameEj) (OL_runD ls_Name_ds rfl rfl Tryd.func44 ((ls_Name_t1 _ _ s).trans hv))
def ls_Good_T1 (O : Orc) (LP : LBody → LBody) (s : Str) : Option (PV × UP) :=
 callp O 79 [(.str s)] fun x1 => cnd (chk .bool x1)
 (some ((.bool (boolV x1)), [])) none
noncomputable def ls_Good_B (s : Str) : Option Bool :=
 bnd (uf_ValidString s) fun y2 =>
 some y2
def ls_Good_ds : Decs := { decs := [(4, .bool)], ups := [], loops := [] }
set_option maxRecDepth 100000 in
theorem ls_Good_t1 (O : Orc) (LP : LBody → LBody) (s : Str) : evalBodyD Tryd.prog (MT 45) ls_Good_ds Tryd.f45.ntmps O LP Tryd.f45 [(.str s)] [] = ls_Good_T1 O LP s := by kernel_rfl
theorem ls_Good_imp (s : Str) : Imp (ls_Good_B s) (ls_Good_T1 O loopLim s) (fun r v => v = (ls_GoodE r, [])) := by
 simp only [ls_Good_B, ls_Good_T1]
 try simp only [evs, tys]
 refine Imp.call (f := uf_ValidStringE) rfl (fun a h => by first | exact uf_ValidString_spec h | simpa only [evs, tys, evl] using uf_ValidString_spec h) (fun a => by first | rfl | simp only [uf_ValidStringE, evk, chks]) fun y2 hy2 => ?_
 try simp only [uf_ValidStringE, evs, tys]
 exact Imp.some (by first | rfl | simp only [ls_GoodE, evs, tys, evl])
theorem ls_Good_run {s : Str} {r : Bool} (h : ls_Good_B s = some r) : ls_Good s = some r := by
 obtain ⟨v, hv, rfl⟩ := ls_Good_imp s r h
 exact tO_of (pair_inj ls_GoodEj) (OL_runD ls_Good_ds rfl rfl Tryd.func45 ((ls_Good_t1 _ _ s).trans hv))
def r1_index_l1 (O : Orc) (LP : LBody → LBody) : LBody := fun s1 s1u => cnd (chkL [.str, (.int .u8), (.int .i64), (.int .i64)] s1) (cnd (chkU [] s1u)
 (cnd (decide ((intV (gt s1 3)) < (List.length (strV (gt s1 0)) : Int)))
 (bnd (ixStr (.str (strV (gt s1 0))) (.int .i64 (intV (gt s1 3)))) fun x5 => cnd (chk (.int .u8) x5)
 (cnd ((intV x5) == (intV (gt s1 1)))
 (some (.ret, [(.str (strV (gt s1 0))), (.int .u8 (intV (gt s1 1))), (.int .i64 (intV (gt s1 3))), (.int .i64 (intV (gt s1 3)))], []))
 (some (.nrm, [(.str (strV (gt s1 0))), (.int .u8 (intV (gt s1 1))), (.int .i64 (intV (gt s1 2))), (.int .i64 (IntKind.wrap .i64 ((intV (gt s1 3)) + 1)))], []))) none)
 (some (.brk 0, [(.str (strV (gt s1 0))), (.int .u8 (intV (gt s1 1))), (.int .i64 (intV (gt s1 2))), (.int .i64 (intV (gt s1 3)))], []))) none) none
def r1_index_T1 (O : Orc) (LP : LBody → LBody) (s : Str) (c : Int) : Option (PV × UP) :=
 bnd (LP (r1_index_l1 O LP) [(.str s), (.int .u8 c), (.int .i64 0), (.int .i64 0)] []) fun y10 =>
 exIs y10.1 (some 0) (cnd (chkL [.str, (.int .u8), (.int .i64), (.int .i64)] y10.2.1) (cnd (chkU [] y10.2.2)
 (some ((.int .i64 (-1)), [])) none) none)
 (exIs y10.1 none (cnd (chkL [.str, (.int .u8), (.int .i64), (.int .i64)] y10.2.1) (cnd (chkU [] y10.2.2)
 (some ((.int .i64 (intV (gt y10.2.1 2))), [])) none) none)
 (none))
noncomputable def r1_index_l1T (s : Str) (c : Int) : Int → Option (Int ⊕ (Unit ⊕ Int))
 | i_4 =>
 cnd (decide (i_4 < (List.length s : Int)))
  (bnd (nthI s i_4) fun y6 =>
  cnd ((y6.toNat : Int) == c)
  (some (.inr (.inr i_4)))
  (some (.inl (IntKind.wrap .i64 (i_4 + 1)))))
  (some (.inr (.inl ())))
abbrev r1_index_l1R (s : Str) (c : Int) (st : Int) (l : List PV) (u : UP) : Prop := l = [(.str s), (.int .u8 c), (.int .i64 0), (.int .i64 st)] ∧ u = []
abbrev r1_index_l1X (s : Str) (c : Int) (p : Unit ⊕ Int) (r : Ex × List PV × UP) : Prop := elim p (fun (p : Unit) => ∃ (i_7 : Int), r = (Ex.brk 0, [(.str s), (.int .u8 c), (.int .i64 0), (.int .i64 i_7)], [])) (fun q2 => (fun (p : Int) => ∃ (i_9 : Int), r = (Ex.ret, [(.str s), (.int .u8 c), (.int .i64 p), (.int .i64 i_9)], [])) q2)
noncomputable def r1_index_B (s : Str) (c : Int) : Option Int :=
 bnd (tloop (r1_index_l1T s c) 0) fun e10_2 => elim e10_2
 (fun p10 =>
 some (-1))
 (fun t_8 =>
 some t_8)
def r1_index_ds : Decs := { decs := [(14, (.int .u8))], ups := [], loops := [(2, [], ⟨[.str, (.int .u8), (.int .i64), (.int .i64)], [], [(some 0, [.str, (.int .u8), (.int .i64), (.int .i64)], []), (none, [.str, (.int .u8), (.int .i64), (.int .i64)], [])]⟩)] }
set_option maxRecDepth 100000 in
theorem r1_index_t1 (O : Orc) (LP : LBody → LBody) (s : Str) (c : Int) : evalBodyD Tryd.prog (MT 46) r1_index_ds Tryd.f46.ntmps O LP Tryd.f46 [(.str s), (.int .u8 c)] [] = r1_index_T1 O LP s c := by kernel_rfl
theorem r1_index_l1_ok (s : Str) (c : Int) : ∀ st l u, r1_index_l1R s c st l u → Imp (r1_index_l1T s c st) (r1_index_l1 O loopLim l u) (StepR (r1_index_l1R s c) (r1_index_l1X s c)) := by
 rintro i_4 l u ⟨rfl, rfl⟩
 simp only [r1_index_l1T, r1_index_l1]
 refine Imp.chk rfl (Imp.chk rfl ?_)
 try simp only [evs, tys]
 refine Imp.cnd ?_ ?_
 ·refine Imp.op (f := fun a => .int .u8 (a.toNat : Int)) (fun a h => op_ixStr h) (fun a => rfl) fun y6 hy6 => ?_
  try simp only [evs, tys]
  refine Imp.cnd ?_ ?_
  ·exact Imp.some (StepR.ret ⟨i_4, by first | rfl | simp only [evs, tys, evl, elim_inl, elim_inr]⟩)
  ·exact Imp.some (StepR.next ⟨by first | rfl | simp only [evs, tys, evl], rfl⟩)
 ·exact Imp.some (StepR.brk ⟨i_4, by first | rfl | simp only [evs, tys, evl, elim_inl, elim_inr]⟩)
theorem r1_index_imp (s : Str) (c : Int) : Imp (r1_index_B s c) (r1_index_T1 O loopLim s c) (fun r v => v = (r1_indexE r, [])) := by
 simp only [r1_index_B, r1_index_T1]
 try simp only [evs, tys]
 refine Imp.bnd (Imp.loop (r1_index_l1_ok s c) ⟨by first | rfl | simp only [evs, tys, evl], rfl⟩) ?_
 rintro (p | t_8) vy10 hy10
 ·try simp only [elim_inl, elim_inr]
  obtain ⟨i_7, rfl⟩ := hy10
  refine Imp.exHit rfl (Imp.chk rfl (Imp.chk rfl ?_))
  try simp only [evs, tys]
  exact Imp.some (by first | rfl | simp only [r1_indexE, evs, tys, evl])
 ·try simp only [elim_inl, elim_inr]
  obtain ⟨i_9, rfl⟩ := hy10
  refine Imp.exMiss rfl ?_
  refine Imp.exHit rfl (Imp.chk rfl (Imp.chk rfl ?_))
  try simp only [evs, tys]
  exact Imp.some (by first | rfl | simp only [r1_indexE, evs, tys, evl])
theorem r1_index_run {s : Str} {c : Int} {r : Int} (h : r1_index_B s c = some r) : r1_index s c = some r := by
 obtain ⟨v, hv, rfl⟩ := r1_index_imp s c r h
 exact tO_of (pair_inj r1_indexEj) (OL_runD r1_index_ds rfl rfl Tryd.func46 ((r1_index_t1 _ _ s c).trans hv))
def r1_Name_l1 (O : Orc) (LP : LBody → LBody) : LBody := fun s5 s5u => cnd (chkL [.str, .bool, (.int .i64)] s5) (cnd (chkU [] s5u)
 (cnd (decide ((intV (gt s5 2)) < (List.length (strV (gt s5 0)) : Int)))
 (bnd (ixStr (.str (strV (gt s5 0))) (.int .i64 (intV (gt s5 2)))) fun x15 => cnd (chk (.int .u8) x15)
 (callp O 62 [(.int .u8 (intV x15))] fun x17 => cnd (chk .bool x17)
 (cnd (!(boolV x17))
 (bnd (ixStr (.str (strV (gt s5 0))) (.int .i64 (intV (gt s5 2)))) fun x19 => cnd (chk (.int .u8) x19)
 (callp O 63 [(.int .u8 (intV x19))] fun x21 => cnd (chk .bool x21)
 (cnd (!(boolV x21))
 (some (.ret, [(.str (strV (gt s5 0))), (.bool false), (.int .i64 (intV (gt s5 2)))], []))
 (some (.nrm, [(.str (strV (gt s5 0))), (.bool (boolV (gt s5 1))), (.int .i64 (IntKind.wrap .i64 ((intV (gt s5 2)) + 1)))], []))) none) none)
 (some (.nrm, [(.str (strV (gt s5 0))), (.bool (boolV (gt s5 1))), (.int .i64 (IntKind.wrap .i64 ((intV (gt s5 2)) + 1)))], []))) none) none)
 (some (.brk 0, [(.str (strV (gt s5 0))), (.bool (boolV (gt s5 1))), (.int .i64 (intV (gt s5 2)))], []))) none) none
def r1_Name_T1 (O : Orc) (LP : LBody → LBody) (s : Str) : Option (PV × UP) :=
 cnd (s == ([] : Str))
 (some ((.bool false), []))
 (bnd (ixStr (.str s) (.int .i64 0)) fun x1 => cnd (chk (.int .u8) x1)
 (callp O 62 [(.int .u8 (intV x1))] fun x3 => cnd (chk .bool x3)
 (cnd (!(boolV x3))
 (some ((.bool false), []))
 (bnd (LP (r1_Name_l1 O LP) [(.str s), (.bool false), (.int .i64 1)] []) fun y25 =>
 exIs y25.1 (some 0) (cnd (chkL [.str, .bool, (.int .i64)] y25.2.1) (cnd (chkU [] y25.2.2)
 (some ((.bool true), [])) none) none)
 (exIs y25.1 none (cnd (chkL [.str, .bool, (.int .i64)] y25.2.1) (cnd (chkU [] y25.2.2)
 (some ((.bool (boolV (gt y25.2.1 1))), [])) none) none)
 (none)))) none) none)
noncomputable def r1_Name_l1T (s : Str) : Int → Option (Int ⊕ (Unit ⊕ Unit))
 | i_14 =>
 cnd (decide (i_14 < (List.length s : Int)))
  (bnd (nthI s i_14) fun y16 =>
  bnd (r1_start (y16.toNat : Int)) fun y18 =>
  cnd (!y18)
  (bnd (nthI s i_14) fun y20 =>
  bnd (r1_digit (y20.toNat : Int)) fun y22 =>
  cnd (!y22)
   (some (.inr (.inr ())))
   (some (.inl (IntKind.wrap .i64 (i_14 + 1)))))
  (some (.inl (IntKind.wrap .i64 (i_14 + 1)))))
  (some (.inr (.inl ())))
abbrev r1_Name_l1R (s : Str) (st : Int) (l : List PV) (u : UP) : Prop := l = [(.str s), (.bool false), (.int .i64 st)] ∧ u = []
abbrev r1_Name_l1X (s : Str) (p : Unit ⊕ Unit) (r : Ex × List PV × UP) : Prop := elim p (fun (p : Unit) => ∃ (i_23 : Int), r = (Ex.brk 0, [(.str s), (.bool false), (.int .i64 i_23)], [])) (fun q2 => (fun (p : Unit) => ∃ (i_24 : Int), r = (Ex.ret, [(.str s), (.bool false), (.int .i64 i_24)], [])) q2)
noncomputable def r1_Name_B (s : Str) : Option Bool :=
 cnd (s == ([] : Str))
 (some false)
 (bnd (nthI s 0) fun y2 =>
 bnd (r1_start (y2.toNat : Int)) fun y4 =>
 cnd (!y4)
 (some false)
 (bnd (tloop (r1_Name_l1T s) 1) fun e25_2 => elim e25_2
 (fun p25 =>
 some true)
 (fun p25 =>
 some false)))
def r1_Name_ds : Decs := { decs := [(8, (.int .u8)), (9, .bool), (20, (.int .u8)), (21, .bool), (26, (.int .u8)), (27, .bool)], ups := [], loops := [(4, [], ⟨[.str, .bool, (.int .i64)], [], [(some 0, [.str, .bool, (.int .i64)], []), (none, [.str, .bool, (.int .i64)], [])]⟩)] }
set_option maxRecDepth 100000 in
theorem r1_Name_t1 (O : Orc) (LP : LBody → LBody) (s : Str) : evalBodyD Tryd.prog (MT 47) r1_Name_ds Tryd.f47.ntmps O LP Tryd.f47 [(.str s)] [] = r1_Name_T1 O LP s := by kernel_rfl
theorem r1_Name_l1_ok (s : Str) : ∀ st l u, r1_Name_l1R s st l u → Imp (r1_Name_l1T s st) (r1_Name_l1 O loopLim l u) (StepR (r1_Name_l1R s) (r1_Name_l1X s)) := by
 rintro i_14 l u ⟨rfl, rfl⟩
 simp only [r1_Name_l1T, r1_Name_l1]
 refine Imp.chk rfl (Imp.chk rfl ?_)
 try simp only [evs, tys]
 refine Imp.cnd ?_ ?_
 ·refine Imp.op (f := fun a => .int .u8 (a.toNat : Int)) (fun a h => op_ixStr h) (fun a => rfl) fun y16 hy16 => ?_
  try simp only [evs, tys]
  refine Imp.call (f := r1_startE) rfl (fun a h => by first | exact r1_start_spec h | simpa only [evs, tys, evl] using r1_start_spec h) (fun a => by first | rfl | simp only [r1_startE, evk, chks]) fun y18 hy18 => ?_
  try simp only [r1_startE, evs, tys]
  refine Imp.cnd ?_ ?_
  ·refine Imp.op (f := fun a => .int .u8 (a.toNat : Int)) (fun a h => op_ixStr h) (fun a => rfl) fun y20 hy20 => ?_
   try simp only [evs, tys]
   refine Imp.call (f := r1_digitE) rfl (fun a h => by first | exact r1_digit_spec h | simpa only [evs, tys, evl] using r1_digit_spec h) (fun a => by first | rfl | simp only [r1_digitE, evk, chks]) fun y22 hy22 => ?_
   try simp only [r1_digitE, evs, tys]
   refine Imp.cnd ?_ ?_
   ·exact Imp.some (StepR.ret ⟨i_14, by first | rfl | simp only [evs, tys, evl, elim_inl, elim_inr]⟩)
   ·exact Imp.some (StepR.next ⟨by first | rfl | simp only [evs, tys, evl], rfl⟩)
  ·exact Imp.some (StepR.next ⟨by first | rfl | simp only [evs, tys, evl], rfl⟩)
 ·exact Imp.some (StepR.brk ⟨i_14, by first | rfl | simp only [evs, tys, evl, elim_inl, elim_inr]⟩)
theorem r1_Name_imp (s : Str) : Imp (r1_Name_B s) (r1_Name_T1 O loopLim s) (fun r v => v = (r1_NameE r, [])) := by
 simp only [r1_Name_B, r1_Name_T1]
 try simp only [evs, tys]
 refine Imp.cnd ?_ ?_
 ·exact Imp.some (by first | rfl | simp only [r1_NameE, evs, tys, evl])
 ·refine Imp.op (f := fun a => .int .u8 (a.toNat : Int)) (fun a h => op_ixStr h) (fun a => rfl) fun y2 hy2 => ?_
  try simp only [evs, tys]
  refine Imp.call (f := r1_startE) rfl (fun a h => by first | exact r1_start_spec h | simpa only [evs, tys, evl] using r1_start_spec h) (fun a => by first | rfl | simp only [r1_startE, evk, chks]) fun y4 hy4 => ?_
  try simp only [r1_startE, evs, tys]
  refine Imp.cnd ?_ ?_
  ·exact Imp.some (by first | rfl | simp only [r1_NameE, evs, tys, evl])
  ·refine Imp.bnd (Imp.loop (r1_Name_l1_ok s) ⟨by first | rfl | simp only [evs, tys, evl], rfl⟩) ?_
   rintro (p | p) vy25 hy25
   ·try simp only [elim_inl, elim_inr]
    obtain ⟨i_23, rfl⟩ := hy25
    refine Imp.exHit rfl (Imp.chk rfl (Imp.chk rfl ?_))
    try simp only [evs, tys]
    exact Imp.some (by first | rfl | simp only [r1_NameE, evs, tys, evl])
   ·try simp only [elim_inl, elim_inr]
    obtain ⟨i_24, rfl⟩ := hy25
    refine Imp.exMiss rfl ?_
    refine Imp.exHit rfl (Imp.chk rfl (Imp.chk rfl ?_))
    try simp only [evs, tys]
    exact Imp.some (by first | rfl | simp only [r1_NameE, evs, tys, evl])
theorem r1_Name_run {s : Str} {r : Bool} (h : r1_Name_B s = some r) : r1_Name s = some r := by
 obtain ⟨v, hv, rfl⟩ := r1_Name_imp s r h
 exact tO_of (pair_inj r1_NameEj) (OL_runD r1_Name_ds rfl rfl Tryd.func47 ((r1_Name_t1 _ _ s).trans hv))
def r1_Number_T1 (O : Orc) (LP : LBody → LBody) (s : Str) : Option (PV × UP) :=
 callp O 33 [(.str s)] fun x1 => cnd (chk (.tup [(.int .i64), (.int .i64)]) x1)
 (cnd ((intV (gt (tupV x1) 0)) != (List.length s : Int))
 (some ((.int .i64 0), []))
 (some ((.int .i64 (intV (gt (tupV x1) 1))), []))) none
noncomputable def r1_Number_B (s : Str) : Option Int :=
 bnd (r1_numeral s) fun y2 =>
 cnd (y2.1 != (List.length s : Int))
 (some 0)
 (some y2.2)
def r1_Number_ds : Decs := { decs := [(7, (.tup [(.int .i64), (.int .i64)]))], ups := [], loops := [] }
set_option maxRecDepth 100000 in
theorem r1_Number_t1 (O : Orc) (LP : LBody → LBody) (s : Str) : evalBodyD Tryd.prog (MT 16) r1_Number_ds Tryd.f16.ntmps O LP Tryd.f16 [(.str s)] [] = r1_Number_T1 O LP s := by kernel_rfl
theorem r1_Number_imp (s : Str) : Imp (r1_Number_B s) (r1_Number_T1 O loopLim s) (fun r v => v = (r1_NumberE r, [])) := by
 simp only [r1_Number_B, r1_Number_T1]
 try simp only [evs, tys]
 refine Imp.call (f := r1_numeralE) rfl (fun a h => by first | exact r1_numeral_spec h | simpa only [evs, tys, evl] using r1_numeral_spec h) (fun a => by first | rfl | simp only [r1_numeralE, evk, chks]) fun y2 hy2 => ?_
 try simp only [r1_numeralE, evs, tys]
 refine Imp.cnd ?_ ?_
 ·exact Imp.some (by first | rfl | simp only [r1_NumberE, evs, tys, evl])
 ·exact Imp.some (by first | rfl | simp only [r1_NumberE, evs, tys, evl])
theorem r1_Number_run {s : Str} {r : Int} (h : r1_Number_B s = some r) : r1_Number s = some r := by
 obtain ⟨v, hv, rfl⟩ := r1_Number_imp s r h
 exact tO_of (pair_inj r1_NumberEj) (OL_runD r1_Number_ds rfl rfl Tryd.func16 ((r1_Number_t1 _ _ s).trans hv))
def r1_Good_T1 (O : Orc) (LP : LBody → LBody) (s : Str) : Option (PV × UP) :=
 callp O 58 [(.str s)] fun x1 => cnd (chk (.tup [(.sl false), .bool]) x1)
 (some ((.bool (boolV (gt (tupV x1) 1))), [])) none
noncomputable def r1_Good_B (s : Str) : Option Bool :=
 bnd (r1_Codes s) fun y2 =>
 some y2.2
def r1_Good_ds : Decs := { decs := [(7, (.tup [(.sl false), .bool]))], ups := [], loops := [] }
set_option maxRecDepth 100000 in
theorem r1_Good_t1 (O : Orc) (LP : LBody → LBody) (s : Str) : evalBodyD Tryd.prog (MT 48) r1_Good_ds Tryd.f48.ntmps O LP Tryd.f48 [(.str s)] [] = r1_Good_T1 O LP s := by kernel_rfl
theorem r1_Good_imp (s : Str) : Imp (r1_Good_B s) (r1_Good_T1 O loopLim s) (fun r v => v = (r1_GoodE r, [])) := by
 simp only [r1_Good_B, r1_Good_T1]
 try simp only [evs, tys]
 refine Imp.call (f := r1_CodesE) rfl (fun a h => by first | exact r1_Codes_spec h | simpa only [evs, tys, evl] using r1_Codes_spec h) (fun a => by first | rfl | simp only [r1_CodesE, evk, chks]) fun y2 hy2 => ?_
 try simp only [r1_CodesE, evs, tys]
 exact Imp.some (by first | rfl | simp only [r1_GoodE, evs, tys, evl])
theorem r1_Good_run {s : Str} {r : Bool} (h : r1_Good_B s = some r) : r1_Good s = some r := by
 obtain ⟨v, hv, rfl⟩ := r1_Good_imp s r h
 exact tO_of (pair_inj r1_GoodEj) (OL_runD r1_Good_ds rfl rfl Tryd.func48 ((r1_Good_t1 _ _ s).trans hv))
def to_number_T1 (O : Orc) (LP : LBody → LBody) (s : Str) : Option (PV × UP) :=
 callp O 64 [(.str s)] fun x1 => cnd (chk (.int .i64) x1)
 (cnd ((intV x1) == 0)
 (some ((.tuple [(.int .i64 0), (.int .i64 0)]), []))
 (jn (fun (n_13 : Int) (kind_14 : Int) (t_15 : Bool) =>
 (bnd (slcLo 0 (.str s) (.int .i64 n_13)) fun x16 => cnd (chk .str x16)
 (callp O 66 [(.str (strV x16))] fun x18 => cnd (chk (.int .i64) x18)
 (cnd (decide ((intV x18) > 0))
 (some ((.tuple [(.int .i64 (IntKind.wrap .i64 (n_13 + (intV x18)))), (.int .i64 4)]), []))
 (some ((.tuple [(.int .i64 n_13), (.int .i64 kind_14)]), []))) none) none)) fun k4 =>
 bnd (slcLo 0 (.str s) (.int .i64 (intV x1))) fun x5 => cnd (chk .str x5)
 (callp O 49 [(.str (strV x5)), (.str [46])] fun x7 => cnd (chk .bool x7)
 (cnd (boolV x7)
 (bnd (slcLo 0 (.str s) (.int .i64 (IntKind.wrap .i64 ((intV x1) + 1)))) fun x9 => cnd (chk .str x9)
 (callp O 65 [(.str (strV x9))] fun x11 => cnd (chk (.int .i64) x11)
 (cnd (decide ((intV x11) > 0))
 (k4 (IntKind.wrap .i64 ((IntKind.wrap .i64 ((intV x1) + 1)) + (intV x11))) 4 true)
 (k4 (intV x1) 3 true)) none) none)
 (k4 (intV x1) 3 false)) none) none)) none
noncomputable def to_number_B (s : Str) : Option (Int × Int) :=
 bnd (to_whole s) fun y2 =>
 cnd (y2 == 0)
 (some (0, 0))
 (jn (fun (n_13 : Int) (kind_14 : Int) (t_15 : Bool) =>
 (bnd (tslc s n_13 (List.length s)) fun y17 =>
 bnd (to_power y17) fun y19 =>
 cnd (decide (y19 > 0))
 (some ((IntKind.wrap .i64 (n_13 + y19)), 4))
 (some (n_13, kind_14)))) fun k4 =>
 bnd (tslc s y2 (List.length s)) fun y6 =>
 bnd (st_HasPrefix y6 [46]) fun y8 =>
 cnd y8
 (bnd (tslc s (IntKind.wrap .i64 (y2 + 1)) (List.length s)) fun y10 =>
 bnd (to_digits y10) fun y12 =>
 cnd (decide (y12 > 0))
 (k4 (IntKind.wrap .i64 ((IntKind.wrap .i64 (y2 + 1)) + y12)) 4 true)
 (k4 y2 3 true))
 (k4 y2 3 false))
def to_number_ds : Decs := { decs := [(9, (.int .i64)), (14, .str), (15, .bool), (19, .str), (20, (.int .i64)), (29, .str), (30, (.int .i64))], ups := [], loops := [] }
set_option maxRecDepth 100000 in
theorem to_number_t1 (O : Orc) (LP : LBody → LBody) (s : Str) : evalBodyD Tryd.prog (MT 32) to_number_ds Tryd.f32.ntmps O LP Tryd.f32 [(.str s)] [] = to_number_T1 O LP s := by kernel_rfl
theorem to_number_imp (s : Str) : Imp (to_number_B s) (to_number_T1 O loopLim s) (fun r v => v = (to_numberE r, [])) := by
 simp only [to_number_B, to_number_T1]
 try simp only [evs, tys]
 refine Imp.call (f := to_wholeE) rfl (fun a h => by first | exact to_whole_spec h | simpa only [evs, tys, evl] using to_whole_spec h) (fun a => by first | rfl | simp only [to_wholeE, evk, chks]) fun y2 hy2 => ?_
 try simp only [to_wholeE, evs, tys]
 refine Imp.cnd ?_ ?_
 ·exact Imp.some (by first | rfl | simp only [to_numberE, evs, tys, evl])
 ·refine Imp.jn (fun I k2 k1 => ∀ (n_13 : Int) (kind_14 : Int) (t_15 : Bool), I (k2 n_13 kind_14 t_15) (k1 n_13 kind_14 t_15)) (fun n_13 kind_14 t_15 => ?_) fun k4 k4t hk4 => ?_
  ·dsimp only
   try simp only [evs, tys]
   refine Imp.op (f := fun a => .str a) (fun a h => op_sslcLo h) (fun a => rfl) fun y17 hy17 => ?_
   try simp only [evs, tys]
   refine Imp.call (f := to_powerE) rfl (fun a h => by first | exact to_power_spec h | simpa only [evs, tys, evl] using to_power_spec h) (fun a => by first | rfl | simp only [to_powerE, evk, chks]) fun y19 hy19 => ?_
   try simp only [to_powerE, evs, tys]
   refine Imp.cnd ?_ ?_
   ·exact Imp.some (by first | rfl | simp only [to_numberE, evs, tys, evl])
   ·exact Imp.some (by first | rfl | simp only [to_numberE, evs, tys, evl])
  refine Imp.op (f := fun a => .str a) (fun a h => op_sslcLo h) (fun a => rfl) fun y6 hy6 => ?_
  try simp only [evs, tys]
  refine Imp.call (f := st_HasPrefixE) rfl (fun a h => by first | exact st_HasPrefix_spec h | simpa only [evs, tys, evl] using st_HasPrefix_spec h) (fun a => by first | rfl | simp only [st_HasPrefixE, evk, chks]) fun y8 hy8 => ?_
  try simp only [st_HasPrefixE, evs, tys]
  refine Imp.cnd ?_ ?_
  ·refine Imp.op (f := fun a => .str a) (fun a h => op_sslcLo h) (fun a => rfl) fun y10 hy10 => ?_
   try simp only [evs, tys]
   refine Imp.call (f := to_digitsE) rfl (fun a h => by first | exact to_digits_spec h | simpa only [evs, tys, evl] using to_digits_spec h) (fun a => by first | rfl | simp only [to_digitsE, evk, chks]) fun y12 hy12 => ?_
   try simp only [to_digitsE, evs, tys]
   refine Imp.cnd ?_ ?_
   ·first | exact hk4 _ _ _ | simpa only [evs, tys, evl] using hk4 _ _ _
   ·first | exact hk4 _ _ _ | simpa only [evs, tys, evl] using hk4 _ _ _
  ·first | exact hk4 _ _ _ | simpa only [evs, tys, evl] using hk4 _ _ _
theorem to_number_run {s : Str} {r : Int × Int} (h : to_number_B s = some r) : to_number s = some r := by
 obtain ⟨v, hv, rfl⟩ := to_number_imp s r h
 exact tO_of (pair_inj to_numberEj) (OL_runD to_number_ds rfl rfl Tryd.func32 ((to_number_t1 _ _ s).trans hv))
def ls_Code_T1 (O : Orc) (LP : LBody → LBody) (s : Str) (i : Int) : Option (PV × UP) :=
 cnd (decide (i < 0))
 (some ((.tuple [(.int .i64 0), (.int .i64 0)]), []))
 (cnd (decide (i ≥ (List.length s : Int)))
 (some ((.tuple [(.int .i64 0), (.int .i64 0)]), []))
 (bnd (slcLo 0 (.str s) (.int .i64 i)) fun x1 => cnd (chk .str x1)
 (callp O 69 [(.str (strV x1))] fun x3 => cnd (chk (.tup [(.int .i32), (.int .i64)]) x3)
 (cnd ((intV (gt (tupV x3) 0)) == 65533)
 (cnd (decide ((intV (gt (tupV x3) 1)) < 2))
 (some ((.tuple [(.int .i64 0), (.int .i64 0)]), []))
 (some ((.tuple [(.int .i64 (IntKind.wrap .i64 (intV (gt (tupV x3) 0)))), (.int .i64 (intV (gt (tupV x3) 1)))]), [])))
 (some ((.tuple [(.int .i64 (IntKind.wrap .i64 (intV (gt (tupV x3) 0)))), (.int .i64 (intV (gt (tupV x3) 1)))]), []))) none) none))
noncomputable def ls_Code_B (s : Str) (i : Int) : Option (Int × Int) :=
 cnd (decide (i < 0))
 (some (0, 0))
 (cnd (decide (i ≥ (List.length s : Int)))
 (some (0, 0))
 (bnd (tslc s i (List.length s)) fun y2 =>
 bnd (uf_DecodeRuneInString y2) fun y4 =>
 cnd (y4.1 == 65533)
 (cnd (decide (y4.2 < 2))
 (some (0, 0))
 (some ((IntKind.wrap .i64 y4.1), y4.2)))
 (some ((IntKind.wrap .i64 y4.1), y4.2))))
def ls_Code_ds : Decs := { decs := [(19, .str), (20, (.tup [(.int .i32), (.int .i64)]))], ups := [], loops := [] }
set_option maxRecDepth 100000 in
theorem ls_Code_t1 (O : Orc) (LP : LBody → LBody) (s : Str) (i : Int) : evalBodyD Tryd.prog (MT 35) ls_Code_ds Tryd.f35.ntmps O LP Tryd.f35 [(.str s), (.int .i64 i)] [] = ls_Code_T1 O LP s i := by kernel_rfl
theorem ls_Code_imp (s : Str) (i : Int) : Imp (ls_Code_B s i) (ls_Code_T1 O loopLim s i) (fun r v => v = (ls_CodeE r, [])) := by
 simp only [ls_Code_B, ls_Code_T1]
 try simp only [evs, tys]
 refine Imp.cnd ?_ ?_
 ·exact Imp.some (by first | rfl | simp only [ls_CodeE, evs, tys, evl])
 ·refine Imp.cnd ?_ ?_
  ·exact Imp.some (by first | rfl | simp only [ls_CodeE, evs, tys, evl])
  ·refine Imp.op (f := fun a => .str a) (fun a h => op_sslcLo h) (fun a => rfl) fun y2 hy2 => ?_
   try simp only [evs, tys]
   refine Imp.call (f := uf_DecodeRuneInStringE) rfl (fun a h => by first | exact uf_DecodeRuneInString_spec h | simpa only [evs, tys, evl] using uf_DecodeRuneInString_spec h) (fun a => by first | rfl | simp only [uf_DecodeRuneInStringE, evk, chks]) fun y4 hy4 => ?_
   try simp only [uf_DecodeRuneInStringE, evs, tys]
   refine Imp.cnd ?_ ?_
   ·refine Imp.cnd ?_ ?_
    ·exact Imp.some (by first | rfl | simp only [ls_CodeE, evs, tys, evl])
    ·exact Imp.some (by first | rfl | simp only [ls_CodeE, evs, tys, evl])
   ·exact Imp.some (by first | rfl | simp only [ls_CodeE, evs, tys, evl])
theorem ls_Code_run {s : Str} {i : Int} {r : Int × Int} (h : ls_Code_B s i = some r) : ls_Code s i = some r := by
 obtain ⟨v, hv, rfl⟩ := ls_Code_imp s i r h
 exact tO_of (pair_inj ls_CodeEj) (OL_runD ls_Code_ds rfl rfl Tryd.func35 ((ls_Code_t1 _ _ s i).trans hv))
def ls_Units_l1 (O : Orc) (LP : LBody → LBody) : LBody := fun s1 s1u => cnd (chkL [.str, (.sl true), .bool, (.sl true), (.int .i64)] s1) (cnd (chkU [] s1u)
 (cnd (decide ((intV (gt s1 4)) < (List.length (strV (gt s1 0)) : Int)))
 (callp O 35 [(.str (strV (gt s1 0))), (.int .i64 (intV (gt s1 4)))] fun x10 => cnd (chk (.tup [(.int .i64), (.int .i64)]) x10)
 (cnd ((intV (gt (tupV x10) 1)) == 0)
 (some (.ret, [(.str (strV (gt s1 0))), (.slice [] [] true), (.bool false), (.slice (esV (gt s1 3)) [] true), (.int .i64 (intV (gt s1 4)))], []))
 (cnd (decide ((intV (gt (tupV x10) 0)) ≥ 65536))
 (bnd (apd 1 (.slice (esV (gt s1 3)) [] true) (.slice [(.int .i64 (IntKind.wrap .i64 (55296 + (IntKind.wrap .i64 (Int.tdiv (IntKind.wrap .i64 ((intV (gt (tupV x10) 0)) - 65536)) 1024))))), (.int .i64 (IntKind.wrap .i64 (56320 + (Int.tmod (IntKind.wrap .i64 ((intV (gt (tupV x10) 0)) - 65536)) 1024))))] [] true)) fun x12 => cnd (chk (.sl true) x12)
 (some (.nrm, [(.str (strV (gt s1 0))), (.slice (esV (gt s1 1)) [] true), (.bool (boolV (gt s1 2))), (.slice (esV x12) [] true), (.int .i64 (IntKind.wrap .i64 ((intV (gt s1 4)) + (intV (gt (tupV x10) 1)))))], [])) none)
 (bnd (apd 1 (.slice (esV (gt s1 3)) [] true) (.slice [(.int .i64 (intV (gt (tupV x10) 0)))] [] true)) fun x14 => cnd (chk (.sl true) x14)
 (some (.nrm, [(.str (strV (gt s1 0))), (.slice (esV (gt s1 1)) [] true), (.bool (boolV (gt s1 2))), (.slice (esV x14) [] true), (.int .i64 (IntKind.wrap .i64 ((intV (gt s1 4)) + (intV (gt (tupV x10) 1)))))], [])) none))) none)
 (some (.brk 0, [(.str (strV (gt s1 0))), (.slice (esV (gt s1 1)) [] true), (.bool (boolV (gt s1 2))), (.slice (esV (gt s1 3)) [] true), (.int .i64 (intV (gt s1 4)))], []))) none) none
def ls_Units_T1 (O : Orc) (LP : LBody → LBody) (s : Str) : Option (PV × UP) :=
 bnd (LP (ls_Units_l1 O LP) [(.str s), (.slice [] [] true), (.bool false), (.slice [] [] true), (.int .i64 0)] []) fun y20 =>
 exIs y20.1 (some 0) (cnd (chkL [.str, (.sl true), .bool, (.sl true), (.int .i64)] y20.2.1) (cnd (chkU [] y20.2.2)
 (some ((.tuple [(.slice (esV (gt y20.2.1 3)) [] false), (.bool true)]), [])) none) none)
 (exIs y20.1 none (cnd (chkL [.str, (.sl true), .bool, (.sl true), (.int .i64)] y20.2.1) (cnd (chkU [] y20.2.2)
 (some ((.tuple [(.slice (esV (gt y20.2.1 1)) [] false), (.bool (boolV (gt y20.2.1 2)))]), [])) none) none)
 (none))
noncomputable def ls_Units_l1T (s : Str) : ((List Int) × Int) → Option (((List Int) × Int) ⊕ ((List Int) ⊕ Unit))
 | (l_8, i_9) =>
 cnd (decide (i_9 < (List.length s : Int)))
  (bnd (ls_Code s i_9) fun y11 =>
  cnd (y11.2 == 0)
  (some (.inr (.inr ())))
  (cnd (decide (y11.1 ≥ 65536))
   (bnd (tapp l_8 [(IntKind.wrap .i64 (55296 + (IntKind.wrap .i64 (Int.tdiv (IntKind.wrap .i64 (y11.1 - 65536)) 1024)))), (IntKind.wrap .i64 (56320 + (Int.tmod (IntKind.wrap .i64 (y11.1 - 65536)) 1024)))]) fun y13 =>
   some (.inl (y13, (IntKind.wrap .i64 (i_9 + y11.2)))))
   (bnd (tapp l_8 [y11.1]) fun y15 =>
   some (.inl (y15, (IntKind.wrap .i64 (i_9 + y11.2)))))))
  (some (.inr (.inl l_8)))
abbrev ls_Units_l1R (s : Str) (st : (List Int) × Int) (l : List PV) (u : UP) : Prop := l = [(.str s), (.slice [] [] true), (.bool false), (.slice (List.map (PV.int .i64) st.1) [] true), (.int .i64 st.2)] ∧ u = []
abbrev ls_Units_l1X (s : Str) (p : (List Int) ⊕ Unit) (r : Ex × List PV × UP) : Prop := elim p (fun (p : (List Int)) => ∃ (i_17 : Int), r = (Ex.brk 0, [(.str s), (.slice [] [] true), (.bool false), (.slice (List.map (PV.int .i64) p) [] true), (.int .i64 i_17)], [])) (fun q2 => (fun (p : Unit) => ∃ (l_18 : List Int), ∃ (i_19 : Int), r = (Ex.ret, [(.str s), (.slice [] [] true), (.bool false), (.slice (List.map (PV.int .i64) l_18) [] true), (.int .i64 i_19)], [])) q2)
noncomputable def ls_Units_B (s : Str) : Option ((List Int) × Bool) :=
 bnd (tloop (ls_Units_l1T s) ([], 0)) fun e20_2 => elim e20_2
 (fun l_16 =>
 some (l_16, true))
 (fun p20 =>
 some (([] : List Int), false))
def ls_Units_ds : Decs := { decs := [(15, (.tup [(.int .i64), (.int .i64)])), (21, (.sl true)), (38, (.sl true))], ups := [], loops := [(3, [], ⟨[.str, (.sl true), .bool, (.sl true), (.int .i64)], [], [(some 0, [.str, (.sl true), .bool, (.sl true), (.int .i64)], []), (none, [.str, (.sl true), .bool, (.sl true), (.int .i64)], [])]⟩)] }
set_option maxRecDepth 100000 in
theorem ls_Units_t1 (O : Orc) (LP : LBody → LBody) (s : Str) : evalBodyD Tryd.prog (MT 74) ls_Units_ds Tryd.f74.ntmps O LP Tryd.f74 [(.str s)] [] = ls_Units_T1 O LP s := by kernel_rfl
theorem ls_Units_l1_ok (s : Str) : ∀ st l u, ls_Units_l1R s st l u → Imp (ls_Units_l1T s st) (ls_Units_l1 O loopLim l u) (StepR (ls_Units_l1R s) (ls_Units_l1X s)) := by
 rintro ⟨l_8, i_9⟩ l u ⟨rfl, rfl⟩
 simp only [ls_Units_l1T, ls_Units_l1]
 refine Imp.chk rfl (Imp.chk rfl ?_)
 try simp only [evs, tys]
 refine Imp.cnd ?_ ?_
 ·refine Imp.call (f := ls_CodeE) rfl (fun a h => by first | exact ls_Code_spec h | simpa only [evs, tys, evl] using ls_Code_spec h) (fun a => by first | rfl | simp only [ls_CodeE, evk, chks]) fun y11 hy11 => ?_
  try simp only [ls_CodeE, evs, tys]
  refine Imp.cnd ?_ ?_
  ·exact Imp.some (StepR.ret ⟨l_8, i_9, by first | rfl | simp only [evs, tys, evl, elim_inl, elim_inr]⟩)
  ·refine Imp.cnd ?_ ?_
   ·refine Imp.op (f := fun a => .slice (List.map (PV.int .i64) a) [] true) (fun a h => op_apd (enc := (PV.int .i64)) (by first | rfl | simp only [evs, tys, evl]) (by first | rfl | simp only [evs, tys, evl]) (fun a => by first | rfl | simp only [evs, tys, evc]) h) (fun a => rfl) fun y13 hy13 => ?_
    try simp only [evs, tys]
    exact Imp.some (StepR.next ⟨by first | rfl | simp only [evs, tys, evl], rfl⟩)
   ·refine Imp.op (f := fun a => .slice (List.map (PV.int .i64) a) [] true) (fun a h => op_apd (enc := (PV.int .i64)) (by first | rfl | simp only [evs, tys, evl]) (by first | rfl | simp only [evs, tys, evl]) (fun a => by first | rfl | simp only [evs, tys, evc]) h) (fun a => rfl) fun y15 hy15 => ?_
    try simp only [evs, tys]
    exact Imp.some (StepR.next ⟨by first | rfl | simp only [evs, tys, evl], rfl⟩)
 ·exact Imp.some (StepR.brk ⟨i_9, by first | rfl | simp only [evs, tys, evl, elim_inl, elim_inr]⟩)
theorem ls_Units_imp (s : Str) : Imp (ls_Units_B s) (ls_Units_T1 O loopLim s) (fun r v => v = (ls_UnitsE r, [])) := by
 simp only [ls_Units_B, ls_Units_T1]
 try simp only [evs, tys]
 refine Imp.bnd (Imp.loop (ls_Units_l1_ok s) ⟨by first | rfl | simp only [evs, tys, evl], rfl⟩) ?_
 rintro (l_16 | p) vy20 hy20
 ·try simp only [elim_inl, elim_inr]
  obtain ⟨i_17, rfl⟩ := hy20
  refine Imp.exHit rfl (Imp.chk rfl (Imp.chk rfl ?_))
  try simp only [evs, tys]
  exact Imp.some (by first | rfl | simp only [ls_UnitsE, evs, tys, evl])
 ·try simp only [elim_inl, elim_inr]
  obtain ⟨l_18, i_19, rfl⟩ := hy20
  refine Imp.exMiss rfl ?_
  refine Imp.exHit rfl (Imp.chk rfl (Imp.chk rfl ?_))
  try simp only [evs, tys]
  exact Imp.some (by first | rfl | simp only [ls_UnitsE, evs, tys, evl])
theorem ls_Units_run {s : Str} {r : (List Int) × Bool} (h : ls_Units_B s = some r) : ls_Units s = some r := by
 obtain ⟨v, hv, rfl⟩ := ls_Units_imp s r h
 exact tO_of (pair_inj ls_UnitsEj) (OL_runD ls_Units_ds rfl rfl Tryd.func74 ((ls_Units_t1 _ _ s).trans hv))
def to_unit_l1 (O : Orc) (LP : LBody → LBody) : LBody := fun s3 s3u => cnd (chkL [(.sl true), (.int .i64), (.int .i64)] s3) (cnd (chkU [] s3u)
 (cnd (decide ((intV (gt s3 2)) ≥ 0))
 (bnd (bin .shr (.int .i64 (intV (gt s3 1))) (.int .i64 (IntKind.wrap .i64 (4 * (intV (gt s3 2)))))) fun x12 => cnd (chk (.int .i64) x12)
 (bnd (ixStr (.str [48, 49, 50, 51, 52, 53, 54, 55, 56, 57, 97, 98, 99, 100, 101, 102]) (.int .i64 (Int.tmod (intV x12) 16))) fun x14 => cnd (chk (.int .u8) x14)
 (bnd (apd 1 (.slice (esV (gt s3 0)) [] true) (.slice [(.int .u8 (intV x14))] [] true)) fun x16 => cnd (chk (.sl true) x16)
 (some (.nrm, [(.slice (esV x16) [] true), (.int .i64 (intV (gt s3 1))), (.int .i64 (IntKind.wrap .i64 ((intV (gt s3 2)) - 1)))], [])) none) none) none)
 (some (.brk 0, [(.slice (esV (gt s3 0)) [] true), (.int .i64 (intV (gt s3 1))), (.int .i64 (intV (gt s3 2)))], []))) none) none
def to_unit_T1 (O : Orc) (LP : LBody → LBody) (b : List Int) (u0 : Int) : Option (PV × UP) :=
 bnd (apd 1 (.slice (List.map (PV.int .u8) b) [] true) (.slice [(.int .u8 92), (.int .u8 117)] [] true)) fun x1 => cnd (chk (.sl true) x1)
 (bnd (LP (to_unit_l1 O LP) [(.slice (esV x1) [] true), (.int .i64 u0), (.int .i64 3)] []) fun y20 =>
 exIs y20.1 (some 0) (cnd (chkL [(.sl true), (.int .i64), (.int .i64)] y20.2.1) (cnd (chkU [] y20.2.2)
 (some ((.slice (esV (gt y20.2.1 0)) [] true), [])) none) none)
 (none)) none
noncomputable def to_unit_l1T (u0 : Int) : ((List Int) × Int) → Option (((List Int) × Int) ⊕ ((List Int)))
 | (b_10, k_11) =>
 cnd (decide (k_11 ≥ 0))
  (bnd (tshr .i64 u0 (IntKind.wrap .i64 (4 * k_11))) fun y13 =>
  bnd (nthI ([48, 49, 50, 51, 52, 53, 54, 55, 56, 57, 97, 98, 99, 100, 101, 102] : Str) (Int.tmod y13 16)) fun y15 =>
  bnd (tapp b_10 [(y15.toNat : Int)]) fun y17 =>
  some (.inl (y17, (IntKind.wrap .i64 (k_11 - 1)))))
  (some (.inr b_10))
abbrev to_unit_l1R (u0 : Int) (st : (List Int) × Int) (l : List PV) (u : UP) : Prop := l = [(.slice (List.map (PV.int .u8) st.1) [] true), (.int .i64 u0), (.int .i64 st.2)] ∧ u = []
abbrev to_unit_l1X (u0 : Int) (p : (List Int)) (r : Ex × List PV × UP) : Prop := (fun (p : (List Int)) => ∃ (k_19 : Int), r = (Ex.brk 0, [(.slice (List.map (PV.int .u8) p) [] true), (.int .i64 u0), (.int .i64 k_19)], [])) p
noncomputable def to_unit_B (b : List Int) (u0 : Int) : Option (List Int) :=
 bnd (tapp b [92, 117]) fun y2 =>
 bnd (tloop (to_unit_l1T u0) (y2, 3)) fun b_18 =>
 some b_18
def to_unit_ds : Decs := { decs := [(8, (.sl true)), (17, (.int .i64)), (19, (.int .u8)), (21, (.sl true))], ups := [], loops := [(3, [], ⟨[(.sl true), (.int .i64), (.int .i64)], [], [(some 0, [(.sl true), (.int .i64), (.int .i64)], [])]⟩)] }
set_option maxRecDepth 100000 in
theorem to_unit_t1 (O : Orc) (LP : LBody → LBody) (b : List Int) (u0 : Int) : evalBodyD Tryd.prog (MT 75) to_unit_ds Tryd.f75.ntmps O LP Tryd.f75 [(.slice (List.map (PV.int .u8) b) [] true), (.int .i64 u0)] [] = to_unit_T1 O LP b u0 := by kernel_rfl
theorem to_unit_l1_ok (u0 : Int) : ∀ st l u, to_unit_l1R u0 st l u → Imp (to_unit_l1T u0 st) (to_unit_l1 O loopLim l u) (StepR (to_unit_l1R u0) (to_unit_l1X u0)) := by
 rintro ⟨b_10, k_11⟩ l u ⟨rfl, rfl⟩
 simp only [to_unit_l1T, to_unit_l1]
 refine Imp.chk rfl (Imp.chk rfl ?_)
 try simp only [evs, tys]
 refine Imp.cnd ?_ ?_
 ·refine Imp.op (f := fun a => .int _ a) (fun a h => op_shr h) (fun a => rfl) fun y13 hy13 => ?_
  try simp only [evs, tys]
  refine Imp.op (f := fun a => .int .u8 (a.toNat : Int)) (fun a h => op_ixStr h) (fun a => rfl) fun y15 hy15 => ?_
  try simp only [evs, tys]
  refine Imp.op (f := fun a => .slice (List.map (PV.int .u8) a) [] true) (fun a h => op_apd (enc := (PV.int .u8)) (by first | rfl | simp only [evs, tys, evl]) (by first | rfl | simp only [evs, tys, evl]) (fun a => by first | rfl | simp only [evs, tys, evc]) h) (fun a => rfl) fun y17 hy17 => ?_
  try simp only [evs, tys]
  exact Imp.some (StepR.next ⟨by first | rfl | simp only [evs, tys, evl], rfl⟩)
 ·exact Imp.some (StepR.brk ⟨k_11, by first | rfl | simp only [evs, tys, evl, elim_inl, elim_inr]⟩)
theorem to_unit_imp (b : List Int) (u0 : Int) : Imp (to_unit_B b u0) (to_unit_T1 O loopLim b u0) (fun r v => v = (to_unitE r, [])) := by
 simp only [to_unit_B, to_unit_T1]
 try simp only [evs, tys]
 refine Imp.op (f := fun a => .slice (List.map (PV.int .u8) a) [] true) (fun a h => op_apd (enc := (PV.int .u8)) (by first | rfl | simp only [evs, tys, evl]) (by first | rfl | simp only [evs, tys, evl]) (fun a => by first | rfl | simp only [evs, tys, evc]) h) (fun a => rfl) fun y2 hy2 => ?_
 try simp only [evs, tys]
 refine Imp.bnd (Imp.loop (to_unit_l1_ok u0) ⟨by first | rfl | simp only [evs, tys, evl], rfl⟩) ?_
 rintro b_18 vy20 hy20
 obtain ⟨k_19, rfl⟩ := hy20
 refine Imp.exHit rfl (Imp.chk rfl (Imp.chk rfl ?_))
 try simp only [evs, tys]
 exact Imp.some (by first | rfl | simp only [to_unitE, evs, tys, evl])
theorem to_unit_run {b : List Int} {u0 : Int} {r : List Int} (h : to_unit_B b u0 = some r) : to_unit b u0 = some r := by
 obtain ⟨v, hv, rfl⟩ := to_unit_imp b u0 r h
 exact tO_of (pair_inj to_unitEj) (OL_runD to_unit_ds rfl rfl Tryd.func75 ((to_unit_t1 _ _ b u0).trans hv))
def r1_Codes_l1 (O : Orc) (LP : LBody → LBody) : LBody := fun s1 s1u => cnd (chkL [.str, (.sl true), .bool, (.sl true), (.int .i64)] s1) (cnd (chkU [] s1u)
 (cnd (decide ((intV (gt s1 4)) < (List.length (strV (gt s1 0)) : Int)))
 (callp O 88 [(.str (strV (gt s1 0))), (.int .i64 (intV (gt s1 4)))] fun x8 => cnd (chk (.tup [(.int .i64), (.int .i64)]) x8)
 (cnd ((intV (gt (tupV x8) 1)) == 0)
 (some (.ret, [(.str (strV (gt s1 0))), (.slice [] [] true), (.bool false), (.slice (esV (gt s1 3)) [] true), (.int .i64 (intV (gt s1 4)))], []))
 (bnd (apd 1 (.slice (esV (gt s1 3)) [] true) (.slice [(.int .i64 (intV (gt (tupV x8) 0)))] [] true)) fun x10 => cnd (chk (.sl true) x10)
 (some (.nrm, [(.str (strV (gt s1 0))), (.slice (esV (gt s1 1)) [] true), (.bool (boolV (gt s1 2))), (.slice (esV x10) [] true), (.int .i64 (IntKind.wrap .i64 ((intV (gt s1 4)) + (intV (gt (tupV x8) 1)))))], [])) none)) none)
 (some (.brk 0, [(.str (strV (gt s1 0))), (.slice (esV (gt s1 1)) [] true), (.bool (boolV (gt s1 2))), (.slice (esV (gt s1 3)) [] true), (.int .i64 (intV (gt s1 4)))], []))) none) none
def r1_Codes_T1 (O : Orc) (LP : LBody → LBody) (s : Str) : Option (PV × UP) :=
 bnd (LP (r1_Codes_l1 O LP) [(.str s), (.slice [] [] true), (.bool false), (.slice [] [] true), (.int .i64 0)] []) fun y16 =>
 exIs y16.1 (some 0) (cnd (chkL [.str, (.sl true), .bool, (.sl true), (.int .i64)] y16.2.1) (cnd (chkU [] y16.2.2)
 (some ((.tuple [(.slice (esV (gt y16.2.1 3)) [] false), (.bool true)]), [])) none) none)
 (exIs y16.1 none (cnd (chkL [.str, (.sl true), .bool, (.sl true), (.int .i64)] y16.2.1) (cnd (chkU [] y16.2.2)
 (some ((.tuple [(.slice (esV (gt y16.2.1 1)) [] false), (.bool (boolV (gt y16.2.1 2)))]), [])) none) none)
 (none))
noncomputable def r1_Codes_l1T (s : Str) : ((List Int) × Int) → Option (((List Int) × Int) ⊕ ((List Int) ⊕ Unit))
 | (out_6, i_7) =>
 cnd (decide (i_7 < (List.length s : Int)))
  (bnd (r1_Code s i_7) fun y9 =>
  cnd (y9.2 == 0)
  (some (.inr (.inr ())))
  (bnd (tapp out_6 [y9.1]) fun y11 =>
  some (.inl (y11, (IntKind.wrap .i64 (i_7 + y9.2))))))
  (some (.inr (.inl out_6)))
abbrev r1_Codes_l1R (s : Str) (st : (List Int) × Int) (l : List PV) (u : UP) : Prop := l = [(.str s), (.slice [] [] true), (.bool false), (.slice (List.map (PV.int .i64) st.1) [] true), (.int .i64 st.2)] ∧ u = []
abbrev r1_Codes_l1X (s : Str) (p : (List Int) ⊕ Unit) (r : Ex × List PV × UP) : Prop := elim p (fun (p : (List Int)) => ∃ (i_13 : Int), r = (Ex.brk 0, [(.str s), (.slice [] [] true), (.bool false), (.slice (List.map (PV.int .i64) p) [] true), (.int .i64 i_13)], [])) (fun q2 => (fun (p : Unit) => ∃ (out_14 : List Int), ∃ (i_15 : Int), r = (Ex.ret, [(.str s), (.slice [] [] true), (.bool false), (.slice (List.map (PV.int .i64) out_14) [] true), (.int .i64 i_15)], [])) q2)
noncomputable def r1_Codes_B (s : Str) : Option ((List Int) × Bool) :=
 bnd (tloop (r1_Codes_l1T s) ([], 0)) fun e16_2 => elim e16_2
 (fun out_12 =>
 some (out_12, true))
 (fun p16 =>
 some (([] : List Int), false))
def r1_Codes_ds : Decs := { decs := [(15, (.tup [(.int .i64), (.int .i64)])), (23, (.sl true))], ups := [], loops := [(3, [], ⟨[.str, (.sl true), .bool, (.sl true), (.int .i64)], [], [(some 0, [.str, (.sl true), .bool, (.sl true), (.int .i64)], []), (none, [.str, (.sl true), .bool, (.sl true), (.int .i64)], [])]⟩)] }
set_option maxRecDepth 100000 in
theorem r1_Codes_t1 (O : Orc) (LP : LBody → LBody) (s : Str) : evalBodyD Tryd.prog (MT 58) r1_Codes_ds Tryd.f58.ntmps O LP Tryd.f58 [(.str s)] [] = r1_Codes_T1 O LP s := by kernel_rfl
theorem r1_Codes_l1_ok (s : Str) : ∀ st l u, r1_Codes_l1R s st l u → Imp (r1_Codes_l1T s st) (r1_Codes_l1 O loopLim l u) (StepR (r1_Codes_l1R s) (r1_Codes_l1X s)) := by
 rintro ⟨out_6, i_7⟩ l u ⟨rfl, rfl⟩
 simp only [r1_Codes_l1T, r1_Codes_l1]
 refine Imp.chk rfl (Imp.chk rfl ?_)
 try simp only [evs, tys]
 refine Imp.cnd ?_ ?_
 ·refine Imp.call (f := r1_CodeE) rfl (fun a h => by first | exact r1_Code_spec h | simpa only [evs, tys, evl] using r1_Code_spec h) (fun a => by first | rfl | simp only [r1_CodeE, evk, chks]) fun y9 hy9 => ?_
  try simp only [r1_CodeE, evs, tys]
  refine Imp.cnd ?_ ?_
  ·exact Imp.some (StepR.ret ⟨out_6, i_7, by first | rfl | simp only [evs, tys, evl, elim_inl, elim_inr]⟩)
  ·refine Imp.op (f := fun a => .slice (List.map (PV.int .i64) a) [] true) (fun a h => op_apd (enc := (PV.int .i64)) (by first | rfl | simp only [evs, tys, evl]) (by first | rfl | simp only [evs, tys, evl]) (fun a => by first | rfl | simp only [evs, tys, evc]) h) (fun a => rfl) fun y11 hy11 => ?_
   try simp only [evs, tys]
   exact Imp.some (StepR.next ⟨by first | rfl | simp only [evs, tys, evl], rfl⟩)
 ·exact Imp.some (StepR.brk ⟨i_7, by first | rfl | simp only [evs, tys, evl, elim_inl, elim_inr]⟩)
theorem r1_Codes_imp (s : Str) : Imp (r1_Codes_B s) (r1_Codes_T1 O loopLim s) (fun r v => v = (r1_CodesE r, [])) := by
 simp only [r1_Codes_B, r1_Codes_T1]
 try simp only [evs, tys]
 refine Imp.bnd (Imp.loop (r1_Codes_l1_ok s) ⟨by first | rfl | simp only [evs, tys, evl], rfl⟩) ?_
 rintro (out_12 | p) vy16 hy16
 ·try simp only [elim_inl, elim_inr]
  obtain ⟨i_13, rfl⟩ := hy16
  refine Imp.exHit rfl (Imp.chk rfl (Imp.chk rfl ?_))
  try simp only [evs, tys]
  exact Imp.some (by first | rfl | simp only [r1_CodesE, evs, tys, evl])
 ·try simp only [elim_inl, elim_inr]
  obtain ⟨out_14, i_15, rfl⟩ := hy16
  refine Imp.exMiss rfl ?_
  refine Imp.exHit rfl (Imp.chk rfl (Imp.chk rfl ?_))
  try simp only [evs, tys]
  exact Imp.some (by first | rfl | simp only [r1_CodesE, evs, tys, evl])
theorem r1_Codes_run {s : Str} {r : (List Int) × Bool} (h : r1_Codes_B s = some r) : r1_Codes s = some r := by
 obtain ⟨v, hv, rfl⟩ := r1_Codes_imp s r h
 exact tO_of (pair_inj r1_CodesEj) (OL_runD r1_Codes_ds rfl rfl Tryd.func58 ((r1_Codes_t1 _ _ s).trans hv))
def r1_unit_T1 (O : Orc) (LP : LBody → LBody) (v0 : Int) : Option (PV × UP) :=
 bnd (ixStr (.str [48, 49, 50, 51, 52, 53, 54, 55, 56, 57, 97, 98, 99, 100, 101, 102]) (.int .i64 (bits .and .i64 (Int.fdiv v0 (2 ^ min (Int.toNat 12) 64)) 15))) fun x1 => cnd (chk (.int .u8) x1)
 (bnd (ixStr (.str [48, 49, 50, 51, 52, 53, 54, 55, 56, 57, 97, 98, 99, 100, 101, 102]) (.int .i64 (bits .and .i64 (Int.fdiv v0 (2 ^ min (Int.toNat 8) 64)) 15))) fun x3 => cnd (chk (.int .u8) x3)
 (bnd (ixStr (.str [48, 49, 50, 51, 52, 53, 54, 55, 56, 57, 97, 98, 99, 100, 101, 102]) (.int .i64 (bits .and .i64 (Int.fdiv v0 (2 ^ min (Int.toNat 4) 64)) 15))) fun x5 => cnd (chk (.int .u8) x5)
 (bnd (ixStr (.str [48, 49, 50, 51, 52, 53, 54, 55, 56, 57, 97, 98, 99, 100, 101, 102]) (.int .i64 (bits .and .i64 v0 15))) fun x7 => cnd (chk (.int .u8) x7)
 (bnd (toStr (.slice [(.int .u8 (intV x1)), (.int .u8 (intV x3)), (.int .u8 (intV x5)), (.int .u8 (intV x7))] [] true)) fun x9 => cnd (chk .str x9)
 (bnd (bin .add (.str [92, 117]) (.str (strV x9))) fun x11 => cnd (chk .str x11)
 (some ((.str (strV x11)), [])) none) none) none) none) none) none
noncomputable def r1_unit_B (v0 : Int) : Option Str :=
 bnd (nthI ([48, 49, 50, 51, 52, 53, 54, 55, 56, 57, 97, 98, 99, 100, 101, 102] : Str) (bits .and .i64 (Int.fdiv v0 (2 ^ min (Int.toNat 12) 64)) 15)) fun y2 =>
 bnd (nthI ([48, 49, 50, 51, 52, 53, 54, 55, 56, 57, 97, 98, 99, 100, 101, 102] : Str) (bits .and .i64 (Int.fdiv v0 (2 ^ min (Int.toNat 8) 64)) 15)) fun y4 =>
 bnd (nthI ([48, 49, 50, 51, 52, 53, 54, 55, 56, 57, 97, 98, 99, 100, 101, 102] : Str) (bits .and .i64 (Int.fdiv v0 (2 ^ min (Int.toNat 4) 64)) 15)) fun y6 =>
 bnd (nthI ([48, 49, 50, 51, 52, 53, 54, 55, 56, 57, 97, 98, 99, 100, 101, 102] : Str) (bits .and .i64 v0 15)) fun y8 =>
 bnd (some (bytesT [(y2.toNat : Int), (y4.toNat : Int), (y6.toNat : Int), (y8.toNat : Int)])) fun y10 =>
 bnd (tapp ([92, 117] : Str) y10) fun y12 =>
 some y12
def r1_unit_ds : Decs := { decs := [(6, (.int .u8)), (10, (.int .u8)), (14, (.int .u8)), (17, (.int .u8)), (19, .str), (20, .str)], ups := [], loops := [] }
set_option maxRecDepth 100000 in
theorem r1_unit_t1 (O : Orc) (LP : LBody → LBody) (v0 : Int) : evalBodyD Tryd.prog (MT 76) r1_unit_ds Tryd.f76.ntmps O LP Tryd.f76 [(.int .i64 v0)] [] = r1_unit_T1 O LP v0 := by kernel_rfl
theorem r1_unit_imp (v0 : Int) : Imp (r1_unit_B v0) (r1_unit_T1 O loopLim v0) (fun r v => v = (r1_unitE r, [])) := by
 simp only [r1_unit_B, r1_unit_T1]
 try simp only [evs, tys]
 refine Imp.op (f := fun a => .int .u8 (a.toNat : Int)) (fun a h => op_ixStr h) (fun a => rfl) fun y2 hy2 => ?_
 try simp only [evs, tys]
 refine Imp.op (f := fun a => .int .u8 (a.toNat : Int)) (fun a h => op_ixStr h) (fun a => rfl) fun y4 hy4 => ?_
 try simp only [evs, tys]
 refine Imp.op (f := fun a => .int .u8 (a.toNat : Int)) (fun a h => op_ixStr h) (fun a => rfl) fun y6 hy6 => ?_
 try simp only [evs, tys]
 refine Imp.op (f := fun a => .int .u8 (a.toNat : Int)) (fun a h => op_ixStr h) (fun a => rfl) fun y8 hy8 => ?_
 try simp only [evs, tys]
 refine Imp.op (f := fun a => .str a) (fun a h => op_toStr (by first | rfl | simp only [evs, tys, evl]) h) (fun a => rfl) fun y10 hy10 => ?_
 try simp only [evs, tys]
 refine Imp.op (f := fun a => .str a) (fun a h => op_cat h) (fun a => rfl) fun y12 hy12 => ?_
 try simp only [evs, tys]
 exact Imp.some (by first | rfl | simp only [r1_unitE, evs, tys, evl])
theorem r1_unit_run {v0 : Int} {r : Str} (h : r1_unit_B v0 = some r) : r1_unit v0 = some r := by
 obtain ⟨v, hv, rfl⟩ := r1_unit_imp v0 r h
 exact tO_of (pair_inj r1_unitEj) (OL_runD r1_unit_ds rfl rfl Tryd.func76 ((r1_unit_t1 _ _ v0).trans hv))
def r1_Put_T1 (O : Orc) (LP : LBody → LBody) (c : Int) : Option (PV × UP) :=
 cnd (decide (c < 128))
 (bnd (toStr (.slice [(.int .u8 (IntKind.wrap .u8 c))] [] true)) fun x1 => cnd (chk .str x1)
 (some ((.str (strV x1)), [])) none)
 (cnd (decide (c < 2048))
 (bnd (toStr (.slice [(.int .u8 (IntKind.wrap .u8 (bits .or .i64 192 (Int.fdiv c (2 ^ min (Int.toNat 6) 64))))), (.int .u8 (IntKind.wrap .u8 (bits .or .i64 128 (bits .and .i64 c 63))))] [] true)) fun x3 => cnd (chk .str x3)
 (some ((.str (strV x3)), [])) none)
 (cnd (decide (c < 65536))
 (bnd (toStr (.slice [(.int .u8 (IntKind.wrap .u8 (bits .or .i64 224 (Int.fdiv c (2 ^ min (Int.toNat 12) 64))))), (.int .u8 (IntKind.wrap .u8 (bits .or .i64 128 (bits .and .i64 (Int.fdiv c (2 ^ min (Int.toNat 6) 64)) 63)))), (.int .u8 (IntKind.wrap .u8 (bits .or .i64 128 (bits .and .i64 c 63))))] [] true)) fun x5 => cnd (chk .str x5)
 (some ((.str (strV x5)), [])) none)
 (bnd (toStr (.slice [(.int .u8 (IntKind.wrap .u8 (bits .or .i64 240 (Int.fdiv c (2 ^ min (Int.toNat 18) 64))))), (.int .u8 (IntKind.wrap .u8 (bits .or .i64 128 (bits .and .i64 (Int.fdiv c (2 ^ min (Int.toNat 12) 64)) 63)))), (.int .u8 (IntKind.wrap .u8 (bits .or .i64 128 (bits .and .i64 (Int.fdiv c (2 ^ min (Int.toNat 6) 64)) 63)))), (.int .u8 (IntKind.wrap .u8 (bits .or .i64 128 (bits .and .i64 c 63))))] [] true)) fun x7 => cnd (chk .str x7)
 (some ((.str (strV x7)), [])) none)))
noncomputable def r1_Put_B (c : Int) : Option Str :=
 cnd (decide (c < 128))
 (bnd (some (bytesT [(IntKind.wrap .u8 c)])) fun y2 =>
 some y2)
 (cnd (decide (c < 2048))
 (bnd (some (bytesT [(IntKind.wrap .u8 (bits .or .i64 192 (Int.fdiv c (2 ^ min (Int.toNat 6) 64)))), (IntKind.wrap .u8 (bits .or .i64 128 (bits .and .i64 c 63)))])) fun y4 =>
 some y4)
 (cnd (decide (c < 65536))
 (bnd (some (bytesT [(IntKind.wrap .u8 (bits .or .i64 224 (Int.fdiv c (2 ^ min (Int.toNat 12) 64)))), (IntKind.wrap .u8 (bits .or .i64 128 (bits .and .i64 (Int.fdiv c (2 ^ min (Int.toNat 6) 64)) 63))), (IntKind.wrap .u8 (bits .or .i64 128 (bits .and .i64 c 63)))])) fun y6 =>
 some y6)
 (bnd (some (bytesT [(IntKind.wrap .u8 (bits .or .i64 240 (Int.fdiv c (2 ^ min (Int.toNat 18) 64)))), (IntKind.wrap .u8 (bits .or .i64 128 (bits .and .i64 (Int.fdiv c (2 ^ min (Int.toNat 12) 64)) 63))), (IntKind.wrap .u8 (bits .or .i64 128 (bits .and .i64 (Int.fdiv c (2 ^ min (Int.toNat 6) 64)) 63))), (IntKind.wrap .u8 (bits .or .i64 128 (bits .and .i64 c 63)))])) fun y8 =>
 some y8)))
def r1_Put_ds : Decs := { decs := [(9, .str), (22, .str), (40, .str), (60, .str)], ups := [], loops := [] }
set_option maxRecDepth 100000 in
theorem r1_Put_t1 (O : Orc) (LP : LBody → LBody) (c : Int) : evalBodyD Tryd.prog (MT 77) r1_Put_ds Tryd.f77.ntmps O LP Tryd.f77 [(.int .i64 c)] [] = r1_Put_T1 O LP c := by kernel_rfl
theorem r1_Put_imp (c : Int) : Imp (r1_Put_B c) (r1_Put_T1 O loopLim c) (fun r v => v = (r1_PutE r, [])) := by
 simp only [r1_Put_B, r1_Put_T1]
 try simp only [evs, tys]
 refine Imp.cnd ?_ ?_
 ·refine Imp.op (f := fun a => .str a) (fun a h => op_toStr (by first | rfl | simp only [evs, tys, evl]) h) (fun a => rfl) fun y2 hy2 => ?_
  try simp only [evs, tys]
  exact Imp.some (by first | rfl | simp only [r1_PutE, evs, tys, evl])
 ·refine Imp.cnd ?_ ?_
  ·refine Imp.op (f := fun a => .str a) (fun a h => op_toStr (by first | rfl | simp only [evs, tys, evl]) h) (fun a => rfl) fun y4 hy4 => ?_
   try simp only [evs, tys]
   exact Imp.some (by first | rfl | simp only [r1_PutE, evs, tys, evl])
  ·refine Imp.cnd ?_ ?_
   ·refine Imp.op (f := fun a => .str a) (fun a h => op_toStr (by first | rfl | simp only [evs, tys, evl]) h) (fun a => rfl) fun y6 hy6 => ?_
    try simp only [evs, tys]
    exact Imp.some (by first | rfl | simp only [r1_PutE, evs, tys, evl])
   ·refine Imp.op (f := fun a => .str a) (fun a h => op_toStr (by first | rfl | simp only [evs, tys, evl]) h) (fun a => rfl) fun y8 hy8 => ?_
    try simp only [evs, tys]
    exact Imp.some (by first | rfl | simp only [r1_PutE, evs, tys, evl])
theorem r1_Put_run {c : Int} {r : Str} (h : r1_Put_B c = some r) : r1_Put c = some r := by
 obtain ⟨v, hv, rfl⟩ := r1_Put_imp c r h
 exact tO_of (pair_inj r1_PutEj) (OL_runD r1_Put_ds rfl rfl Tryd.func77 ((r1_Put_t1 _ _ c).trans hv))
def ls_Letter_T1 (O : Orc) (LP : LBody → LBody) (c : Int) : Option (PV × UP) :=
 cnd (decide (c ≥ 97))
 (cnd (decide (c ≤ 122))
 (some ((.bool true), []))
 (cnd (decide (c ≥ 65))
 (cnd (decide (c ≤ 90))
 (some ((.bool true), []))
 (some ((.bool (c == 95)), [])))
 (some ((.bool (c == 95)), []))))
 (cnd (decide (c ≥ 65))
 (cnd (decide (c ≤ 90))
 (some ((.bool true), []))
 (some ((.bool (c == 95)), [])))
 (some ((.bool (c == 95)), [])))
noncomputable def ls_Letter_B (c : Int) : Option Bool :=
 cnd (decide (c ≥ 97))
 (cnd (decide (c ≤ 122))
 (some true)
 (cnd (decide (c ≥ 65))
 (cnd (decide (c ≤ 90))
 (some true)
 (some (c == 95)))
 (some (c == 95))))
 (cnd (decide (c ≥ 65))
 (cnd (decide (c ≤ 90))
 (some true)
 (some (c == 95)))
 (some (c == 95)))
def ls_Letter_ds : Decs := { decs := [], ups := [], loops := [] }
set_option maxRecDepth 100000 in
theorem ls_Letter_t1 (O : Orc) (LP : LBody → LBody) (c : Int) : evalBodyD Tryd.prog (MT 55) ls_Letter_ds Tryd.f55.ntmps O LP Tryd.f55 [(.int .u8 c)] [] = ls_Letter_T1 O LP c := by kernel_rfl
theorem ls_Letter_imp (c : Int) : Imp (ls_Letter_B c) (ls_Letter_T1 O loopLim c) (fun r v => v = (ls_LetterE r, [])) := by
 simp only [ls_Letter_B, ls_Letter_T1]
 try simp only [evs, tys]
 refine Imp.cnd ?_ ?_
 ·refine Imp.cnd ?_ ?_
  ·exact Imp.some (by first | rfl | simp only [ls_LetterE, evs, tys, evl])
  ·refine Imp.cnd ?_ ?_
   ·refine Imp.cnd ?_ ?_
    ·exact Imp.some (by first | rfl | simp only [ls_LetterE, evs, tys, evl])
    ·exact Imp.some (by first | rfl | simp only [ls_LetterE, evs, tys, evl])
   ·exact Imp.some (by first | rfl | simp only [ls_LetterE, evs, tys, evl])
 ·refine Imp.cnd ?_ ?_
  ·refine Imp.cnd ?_ ?_
   ·exact Imp.some (by first | rfl | simp only [ls_LetterE, evs, tys, evl])
   ·exact Imp.some (by first | rfl | simp only [ls_LetterE, evs, tys, evl])
  ·exact Imp.some (by first | rfl | simp only [ls_LetterE, evs, tys, evl])
theorem ls_Letter_run {c : Int} {r : Bool} (h : ls_Letter_B c = some r) : ls_Letter c = some r := by
 obtain ⟨v, hv, rfl⟩ := ls_Letter_imp c r h
 exact tO_of (pair_inj ls_LetterEj) (OL_runD ls_Letter_ds rfl rfl Tryd.func55 ((ls_Letter_t1 _ _ c).trans hv))
def ls_Digit_T1 (O : Orc) (LP : LBody → LBody) (c : Int) : Option (PV × UP) :=
 cnd (decide (c ≥ 48))
 (some ((.bool (decide (c ≤ 57))), []))
 (some ((.bool false), []))
noncomputable def ls_Digit_B (c : Int) : Option Bool :=
 cnd (decide (c ≥ 48))
 (some (decide (c ≤ 57)))
 (some false)
def ls_Digit_ds : Decs := { decs := [], ups := [], loops := [] }
set_option maxRecDepth 100000 in
theorem ls_Digit_t1 (O : Orc) (LP : LBody → LBody) (c : Int) : evalBodyD Tryd.prog (MT 57) ls_Digit_ds Tryd.f57.ntmps O LP Tryd.f57 [(.int .u8 c)] [] = ls_Digit_T1 O LP c := by kernel_rfl
theorem ls_Digit_imp (c : Int) : Imp (ls_Digit_B c) (ls_Digit_T1 O loopLim c) (fun r v => v = (ls_DigitE r, [])) := by
 simp only [ls_Digit_B, ls_Digit_T1]
 try simp only [evs, tys]
 refine Imp.cnd ?_ ?_
 ·exact Imp.some (by first | rfl | simp only [ls_DigitE, evs, tys, evl])
 ·exact Imp.some (by first | rfl | simp only [ls_DigitE, evs, tys, evl])
theorem ls_Digit_run {c : Int} {r : Bool} (h : ls_Digit_B c = some r) : ls_Digit c = some r := by
 obtain ⟨v, hv, rfl⟩ := ls_Digit_imp c r h
 exact tO_of (pair_inj ls_DigitEj) (OL_runD ls_Digit_ds rfl rfl Tryd.func57 ((ls_Digit_t1 _ _ c).trans hv))
theorem uf_ValidString_run {s : Str} {r : Bool} (h : tValid s = some r) : uf_ValidString s = some r := tO_of (pair_inj uf_ValidStringEj) (OL_ext (g := xValid) rfl (xValid_of h))
def r1_start_T1 (O : Orc) (LP : LBody → LBody) (c : Int) : Option (PV × UP) :=
 cnd (decide (c ≥ 97))
 (cnd (decide (c ≤ 122))
 (some ((.bool true), []))
 (cnd (decide (c ≥ 65))
 (cnd (decide (c ≤ 90))
 (some ((.bool true), []))
 (some ((.bool (c == 95)), [])))
 (some ((.bool (c == 95)), []))))
 (cnd (decide (c ≥ 65))
 (cnd (decide (c ≤ 90))
 (some ((.bool true), []))
 (some ((.bool (c == 95)), [])))
 (some ((.bool (c == 95)), [])))
noncomputable def r1_start_B (c : Int) : Option Bool :=
 cnd (decide (c ≥ 97))
 (cnd (decide (c ≤ 122))
 (some true)
 (cnd (decide (c ≥ 65))
 (cnd (decide (c ≤ 90))
 (some true)
 (some (c == 95)))
 (some (c == 95))))
 (cnd (decide (c ≥ 65))
 (cnd (decide (c ≤ 90))
 (some true)
 (some (c == 95)))
 (some (c == 95)))
def r1_start_ds : Decs := { decs := [], ups := [], loops := [] }
set_option maxRecDepth 100000 in
theorem r1_start_t1 (O : Orc) (LP : LBody → LBody) (c : Int) : evalBodyD Tryd.prog (MT 62) r1_start_ds Tryd.f62.ntmps O LP Tryd.f62 [(.int .u8 c)] [] = r1_start_T1 O LP c := by kernel_rfl
theorem r1_start_imp (c : Int) : Imp (r1_start_B c) (r1_start_T1 O loopLim c) (fun r v => v = (r1_startE r, [])) := by
 simp only [r1_start_B, r1_start_T1]
 try simp only [evs, tys]
 refine Imp.cnd ?_ ?_
 ·refine Imp.cnd ?_ ?_
  ·exact Imp.some (by first | rfl | simp only [r1_startE, evs, tys, evl])
  ·refine Imp.cnd ?_ ?_
   ·refine Imp.cnd ?_ ?_
    ·exact Imp.some (by first | rfl | simp only [r1_startE, evs, tys, evl])
    ·exact Imp.some (by first | rfl | simp only [r1_startE, evs, tys, evl])
   ·exact Imp.some (by first | rfl | simp only [r1_startE, evs, tys, evl])
 ·refine Imp.cnd ?_ ?_
  ·refine Imp.cnd ?_ ?_
   ·exact Imp.some (by first | rfl | simp only [r1_startE, evs, tys, evl])
   ·exact Imp.some (by first | rfl | simp only [r1_startE, evs, tys, evl])
  ·exact Imp.some (by first | rfl | simp only [r1_startE, evs, tys, evl])
theorem r1_start_run {c : Int} {r : Bool} (h : r1_start_B c = some r) : r1_start c = some r := by
 obtain ⟨v, hv, rfl⟩ := r1_start_imp c r h
 exact tO_of (pair_inj r1_startEj) (OL_runD r1_start_ds rfl rfl Tryd.func62 ((r1_start_t1 _ _ c).trans hv))
def r1_digit_T1 (O : Orc) (LP : LBody → LBody) (c : Int) : Option (PV × UP) :=
 cnd (decide (c ≥ 48))
 (some ((.bool (decide (c ≤ 57))), []))
 (some ((.bool false), []))
noncomputable def r1_digit_B (c : Int) : Option Bool :=
 cnd (decide (c ≥ 48))
 (some (decide (c ≤ 57)))
 (some false)
def r1_digit_ds : Decs := { decs := [], ups := [], loops := [] }
set_option maxRecDepth 100000 in
theorem r1_digit_t1 (O : Orc) (LP : LBody → LBody) (c : Int) : evalBodyD Tryd.prog (MT 63) r1_digit_ds Tryd.f63.ntmps O LP Tryd.f63 [(.int .u8 c)] [] = r1_digit_T1 O LP c := by kernel_rfl
theorem r1_digit_imp (c : Int) : Imp (r1_digit_B c) (r1_digit_T1 O loopLim c) (fun r v => v = (r1_digitE r, [])) := by
 simp only [r1_digit_B, r1_digit_T1]
 try simp only [evs, tys]
 refine Imp.cnd ?_ ?_
 ·exact Imp.some (by first | rfl | simp only [r1_digitE, evs, tys, evl])
 ·exact Imp.some (by first | rfl | simp only [r1_digitE, evs, tys, evl])
theorem r1_digit_run {c : Int} {r : Bool} (h : r1_digit_B c = some r) : r1_digit c = some r := by
 obtain ⟨v, hv, rfl⟩ := r1_digit_imp c r h
 exact tO_of (pair_inj r1_digitEj) (OL_runD r1_digit_ds rfl rfl Tryd.func63 ((r1_digit_t1 _ _ c).trans hv))
def r1_numeral_T1 (O : Orc) (LP : LBody → LBody) (s : Str) : Option (PV × UP) :=
 jn (fun (i_4 : Int) (t_5 : Bool) (t_6 : Bool) =>
 (callp O 67 [(.str s), (.int .i64 i_4)] fun x7 => cnd (chk (.int .i64) x7)
 (cnd ((intV x7) == 0)
 (some ((.tuple [(.int .i64 0), (.int .i64 0)]), []))
 (jn (fun (n_13 : Int) (t_14 : Bool) =>
 (jn (fun (i_22 : Int) (kind_23 : Int) (t_24 : Bool) (t_25 : Bool) (t_26 : Bool) (t_27 : Bool) =>
 (cnd (decide (i_22 < (List.length s : Int)))
 (bnd (ixStr (.str s) (.int .i64 i_22)) fun x28 => cnd (chk (.int .u8) x28)
 (cnd ((intV x28) == 101)
 (jn (fun (k_35 : Int) (t_36 : Bool) (t_37 : Bool) =>
 (callp O 67 [(.str s), (.int .i64 k_35)] fun x38 => cnd (chk (.int .i64) x38)
 (cnd (decide ((intV x38) > 0))
 (callp O 67 [(.str s), (.int .i64 k_35)] fun x40 => cnd (chk (.int .i64) x40)
 (some ((.tuple [(.int .i64 (IntKind.wrap .i64 (k_35 + (intV x40)))), (.int .i64 4)]), [])) none)
 (some ((.tuple [(.int .i64 i_22), (.int .i64 kind_23)]), []))) none)) fun k30 =>
 cnd (decide ((IntKind.wrap .i64 (i_22 + 1)) < (List.length s : Int)))
 (bnd (ixStr (.str s) (.int .i64 (IntKind.wrap .i64 (i_22 + 1)))) fun x31 => cnd (chk (.int .u8) x31)
 (cnd ((intV x31) == 43)
 (k30 (IntKind.wrap .i64 ((IntKind.wrap .i64 (i_22 + 1)) + 1)) true true)
 (bnd (ixStr (.str s) (.int .i64 (IntKind.wrap .i64 (i_22 + 1)))) fun x33 => cnd (chk (.int .u8) x33)
 (cnd ((intV x33) == 45)
 (k30 (IntKind.wrap .i64 ((IntKind.wrap .i64 (i_22 + 1)) + 1)) true true)
 (k30 (IntKind.wrap .i64 (i_22 + 1)) true false)) none)) none)
 (k30 (IntKind.wrap .i64 (i_22 + 1)) false false))
 (bnd (ixStr (.str s) (.int .i64 i_22)) fun x42 => cnd (chk (.int .u8) x42)
 (cnd ((intV x42) == 69)
 (jn (fun (k_49 : Int) (t_50 : Bool) (t_51 : Bool) =>
 (callp O 67 [(.str s), (.int .i64 k_49)] fun x52 => cnd (chk (.int .i64) x52)
 (cnd (decide ((intV x52) > 0))
 (callp O 67 [(.str s), (.int .i64 k_49)] fun x54 => cnd (chk (.int .i64) x54)
 (some ((.tuple [(.int .i64 (IntKind.wrap .i64 (k_49 + (intV x54)))), (.int .i64 4)]), [])) none)
 (some ((.tuple [(.int .i64 i_22), (.int .i64 kind_23)]), []))) none)) fun k44 =>
 cnd (decide ((IntKind.wrap .i64 (i_22 + 1)) < (List.length s : Int)))
 (bnd (ixStr (.str s) (.int .i64 (IntKind.wrap .i64 (i_22 + 1)))) fun x45 => cnd (chk (.int .u8) x45)
 (cnd ((intV x45) == 43)
 (k44 (IntKind.wrap .i64 ((IntKind.wrap .i64 (i_22 + 1)) + 1)) true true)
 (bnd (ixStr (.str s) (.int .i64 (IntKind.wrap .i64 (i_22 + 1)))) fun x47 => cnd (chk (.int .u8) x47)
 (cnd ((intV x47) == 45)
 (k44 (IntKind.wrap .i64 ((IntKind.wrap .i64 (i_22 + 1)) + 1)) true true)
 (k44 (IntKind.wrap .i64 (i_22 + 1)) true false)) none)) none)
 (k44 (IntKind.wrap .i64 (i_22 + 1)) false false))
 (some ((.tuple [(.int .i64 i_22), (.int .i64 kind_23)]), []))) none)) none)
 (some ((.tuple [(.int .i64 i_22), (.int .i64 kind_23)]), [])))) fun k15 =>
 cnd (decide ((IntKind.wrap .i64 (i_4 + n_13)) < (List.length s : Int)))
 (bnd (ixStr (.str s) (.int .i64 (IntKind.wrap .i64 (i_4 + n_13)))) fun x16 => cnd (chk (.int .u8) x16)
 (cnd ((intV x16) == 46)
 (callp O 67 [(.str s), (.int .i64 (IntKind.wrap .i64 ((IntKind.wrap .i64 (i_4 + n_13)) + 1)))] fun x18 => cnd (chk (.int .i64) x18)
 (cnd (decide ((intV x18) > 0))
 (callp O 67 [(.str s), (.int .i64 (IntKind.wrap .i64 ((IntKind.wrap .i64 (i_4 + n_13)) + 1)))] fun x20 => cnd (chk (.int .i64) x20)
 (k15 (IntKind.wrap .i64 ((IntKind.wrap .i64 ((IntKind.wrap .i64 (i_4 + n_13)) + 1)) + (intV x20))) 4 true ((intV x16) == 46) true true) none)
 (k15 (IntKind.wrap .i64 (i_4 + n_13)) 3 true ((intV x16) == 46) true false)) none)
 (k15 (IntKind.wrap .i64 (i_4 + n_13)) 3 true ((intV x16) == 46) false false)) none)
 (k15 (IntKind.wrap .i64 (i_4 + n_13)) 3 false false false false))) fun k10 =>
 bnd (ixStr (.str s) (.int .i64 i_4)) fun x11 => cnd (chk (.int .u8) x11)
 (cnd ((intV x11) == 48)
 (k10 1 true)
 (k10 (intV x7) false)) none)) none)) fun k1 =>
 cnd (decide ((0 : Int) < (List.length s : Int)))
 (bnd (ixStr (.str s) (.int .i64 0)) fun x2 => cnd (chk (.int .u8) x2)
 (cnd ((intV x2) == 45)
 (k1 1 true true)
 (k1 0 true false)) none)
 (k1 0 false false)
noncomputable def r1_numeral_B (s : Str) : Option (Int × Int) :=
 jn (fun (i_4 : Int) (t_5 : Bool) (t_6 : Bool) =>
 (bnd (r1_run s i_4) fun y8 =>
 cnd (y8 == 0)
 (some (0, 0))
 (jn (fun (n_13 : Int) (t_14 : Bool) =>
 (jn (fun (i_22 : Int) (kind_23 : Int) (t_24 : Bool) (t_25 : Bool) (t_26 : Bool) (t_27 : Bool) =>
 (cnd (decide (i_22 < (List.length s : Int)))
 (bnd (nthI s i_22) fun y29 =>
 cnd ((y29.toNat : Int) == 101)
 (jn (fun (k_35 : Int) (t_36 : Bool) (t_37 : Bool) =>
 (bnd (r1_run s k_35) fun y39 =>
 cnd (decide (y39 > 0))
 (bnd (r1_run s k_35) fun y41 =>
 some ((IntKind.wrap .i64 (k_35 + y41)), 4))
 (some (i_22, kind_23)))) fun k30 =>
 cnd (decide ((IntKind.wrap .i64 (i_22 + 1)) < (List.length s : Int)))
 (bnd (nthI s (IntKind.wrap .i64 (i_22 + 1))) fun y32 =>
 cnd ((y32.toNat : Int) == 43)
 (k30 (IntKind.wrap .i64 ((IntKind.wrap .i64 (i_22 + 1)) + 1)) true true)
 (bnd (nthI s (IntKind.wrap .i64 (i_22 + 1))) fun y34 =>
 cnd ((y34.toNat : Int) == 45)
 (k30 (IntKind.wrap .i64 ((IntKind.wrap .i64 (i_22 + 1)) + 1)) true true)
 (k30 (IntKind.wrap .i64 (i_22 + 1)) true false)))
 (k30 (IntKind.wrap .i64 (i_22 + 1)) false false))
 (bnd (nthI s i_22) fun y43 =>
 cnd ((y43.toNat : Int) == 69)
 (jn (fun (k_49 : Int) (t_50 : Bool) (t_51 : Bool) =>
 (bnd (r1_run s k_49) fun y53 =>
 cnd (decide (y53 > 0))
 (bnd (r1_run s k_49) fun y55 =>
 some ((IntKind.wrap .i64 (k_49 + y55)), 4))
 (some (i_22, kind_23)))) fun k44 =>
 cnd (decide ((IntKind.wrap .i64 (i_22 + 1)) < (List.length s : Int)))
 (bnd (nthI s (IntKind.wrap .i64 (i_22 + 1))) fun y46 =>
 cnd ((y46.toNat : Int) == 43)
 (k44 (IntKind.wrap .i64 ((IntKind.wrap .i64 (i_22 + 1)) + 1)) true true)
 (bnd (nthI s (IntKind.wrap .i64 (i_22 + 1))) fun y48 =>
 cnd ((y48.toNat : Int) == 45)
 (k44 (IntKind.wrap .i64 ((IntKind.wrap .i64 (i_22 + 1)) + 1)) true true)
 (k44 (IntKind.wrap .i64 (i_22 + 1)) true false)))
 (k44 (IntKind.wrap .i64 (i_22 + 1)) false false))
 (some (i_22, kind_23))))
 (some (i_22, kind_23)))) fun k15 =>
 cnd (decide ((IntKind.wrap .i64 (i_4 + n_13)) < (List.length s : Int)))
 (bnd (nthI s (IntKind.wrap .i64 (i_4 + n_13))) fun y17 =>
 cnd ((y17.toNat : Int) == 46)
 (bnd (r1_run s (IntKind.wrap .i64 ((IntKind.wrap .i64 (i_4 + n_13)) + 1))) fun y19 =>
 cnd (decide (y19 > 0))
 (bnd (r1_run s (IntKind.wrap .i64 ((IntKind.wrap .i64 (i_4 + n_13)) + 1))) fun y21 =>
 k15 (IntKind.wrap .i64 ((IntKind.wrap .i64 ((IntKind.wrap .i64 (i_4 + n_13)) + 1)) + y21)) 4 true ((y17.toNat : Int) == 46) true true)
 (k15 (IntKind.wrap .i64 (i_4 + n_13)) 3 true ((y17.toNat : Int) == 46) true false))
 (k15 (IntKind.wrap .i64 (i_4 + n_13)) 3 true ((y17.toNat : Int) == 46) false false))
 (k15 (IntKind.wrap .i64 (i_4 + n_13)) 3 false false false false))) fun k10 =>
 bnd (nthI s i_4) fun y12 =>
 cnd ((y12.toNat : Int) == 48)
 (k10 1 true)
 (k10 y8 false)))) fun k1 =>
 cnd (decide ((0 : Int) < (List.length s : Int)))
 (bnd (nthI s 0) fun y3 =>
 cnd ((y3.toNat : Int) == 45)
 (k1 1 true true)
 (k1 0 true false))
 (k1 0 false false)
def r1_numeral_ds : Decs := { decs := [(15, (.int .u8)), (22, (.int .i64)), (27, (.int .u8)), (39, (.int .u8)), (46, (.int .i64)), (54, (.int .i64)), (63, (.int .u8)), (68, (.int .u8)), (81, (.int .u8)), (86, (.int .u8)), (94, (.int .i64)), (99, (.int .i64))], ups := [], loops := [] }
set_option maxRecDepth 100000 in
theorem r1_numeral_t1 (O : Orc) (LP : LBody → LBody) (s : Str) : evalBodyD Tryd.prog (MT 33) r1_numeral_ds Tryd.f33.ntmps O LP Tryd.f33 [(.str s)] [] = r1_numeral_T1 O LP s := by kernel_rfl
theorem r1_numeral_imp (s : Str) : Imp (r1_numeral_B s) (r1_numeral_T1 O loopLim s) (fun r v => v = (r1_numeralE r, [])) := by
 simp only [r1_numeral_B, r1_numeral_T1]
 try simp only [evs, tys]
 refine Imp.jn (fun I k2 k1 => ∀ (i_4 : Int) (t_5 : Bool) (t_6 : Bool), I (k2 i_4 t_5 t_6) (k1 i_4 t_5 t_6)) (fun i_4 t_5 t_6 => ?_) fun k1 k1t hk1 => ?_
 ·dsimp only
  try simp only [evs, tys]
  refine Imp.call (f := r1_runE) rfl (fun a h => by first | exact r1_run_spec h | simpa only [evs, tys, evl] using r1_run_spec h) (fun a => by first | rfl | simp only [r1_runE, evk, chks]) fun y8 hy8 => ?_
  try simp only [r1_runE, evs, tys]
  refine Imp.cnd ?_ ?_
  ·exact Imp.some (by first | rfl | simp only [r1_numeralE, evs, tys, evl])
  ·refine Imp.jn (fun I k2 k1 => ∀ (n_13 : Int) (t_14 : Bool), I (k2 n_13 t_14) (k1 n_13 t_14)) (fun n_13 t_14 => ?_) fun k10 k10t hk10 => ?_
   ·dsimp only
    try simp only [evs, tys]
    refine Imp.jn (fun I k2 k1 => ∀ (i_22 : Int) (kind_23 : Int) (t_24 : Bool) (t_25 : Bool) (t_26 : Bool) (t_27 : Bool), I (k2 i_22 kind_23 t_24 t_25 t_26 t_27) (k1 i_22 kind_23 t_24 t_25 t_26 t_27)) (fun i_22 kind_23 t_24 t_25 t_26 t_27 => ?_) fun k15 k15t hk15 => ?_
    ·dsimp only
     try simp only [evs, tys]
     refine Imp.cnd ?_ ?_
     ·refine Imp.op (f := fun a => .int .u8 (a.toNat : Int)) (fun a h => op_ixStr h) (fun a => rfl) fun y29 hy29 => ?_
      try simp only [evs, tys]
      refine Imp.cnd ?_ ?_
      ·refine Imp.jn (fun I k2 k1 => ∀ (k_35 : Int) (t_36 : Bool) (t_37 : Bool), I (k2 k_35 t_36 t_37) (k1 k_35 t_36 t_37)) (fun k_35 t_36 t_37 => ?_) fun k30 k30t hk30 => ?_
       ·dsimp only
        try simp only [evs, tys]
        refine Imp.call (f := r1_runE) rfl (fun a h => by first | exact r1_run_spec h | simpa only [evs, tys, evl] using r1_run_spec h) (fun a => by first | rfl | simp only [r1_runE, evk, chks]) fun y39 hy39 => ?_
        try simp only [r1_runE, evs, tys]
        refine Imp.cnd ?_ ?_
        ·refine Imp.call (f := r1_runE) rfl (fun a h => by first | exact r1_run_spec h | simpa only [evs, tys, evl] using r1_run_spec h) (fun a => by first | rfl | simp only [r1_runE, evk, chks]) fun y41 hy41 => ?_
         try simp only [r1_runE, evs, tys]
         exact Imp.some (by first | rfl | simp only [r1_numeralE, evs, tys, evl])
        ·exact Imp.some (by first | rfl | simp only [r1_numeralE, evs, tys, evl])
       refine Imp.cnd ?_ ?_
       ·refine Imp.op (f := fun a => .int .u8 (a.toNat : Int)) (fun a h => op_ixStr h) (fun a => rfl) fun y32 hy32 => ?_
        try simp only [evs, tys]
        refine Imp.cnd ?_ ?_
        ·first | exact hk30 _ _ _ | simpa only [evs, tys, evl] using hk30 _ _ _
        ·refine Imp.op (f := fun a => .int .u8 (a.toNat : Int)) (fun a h => op_ixStr h) (fun a => rfl) fun y34 hy34 => ?_
         try simp only [evs, tys]
         refine Imp.cnd ?_ ?_
         ·first | exact hk30 _ _ _ | simpa only [evs, tys, evl] using hk30 _ _ _
         ·first | exact hk30 _ _ _ | simpa only [evs, tys, evl] using hk30 _ _ _
       ·first | exact hk30 _ _ _ | simpa only [evs, tys, evl] using hk30 _ _ _
      ·refine Imp.op (f := fun a => .int .u8 (a.toNat : Int)) (fun a h => op_ixStr h) (fun a => rfl) fun y43 hy43 => ?_
       try simp only [evs, tys]
       refine Imp.cnd ?_ ?_
       ·refine Imp.jn (fun I k2 k1 => ∀ (k_49 : Int) (t_50 : Bool) (t_51 : Bool), I (k2 k_49 t_50 t_51) (k1 k_49 t_50 t_51)) (fun k_49 t_50 t_51 => ?_) fun k44 k44t hk44 => ?_
        ·dsimp only
         try simp only [evs, tys]
         refine Imp.call (f := r1_runE) rfl (fun a h => by first | exact r1_run_spec h | simpa only [evs, tys, evl] using r1_run_spec h) (fun a => by first | rfl | simp only [r1_runE, evk, chks]) fun y53 hy53 => ?_
         try simp only [r1_runE, evs, tys]
         refine Imp.cnd ?_ ?_
         ·refine Imp.call (f := r1_runE) rfl (fun a h => by first | exact r1_run_spec h | simpa only [evs, tys, evl] using r1_run_spec h) (fun a => by first | rfl | simp only [r1_runE, evk, chks]) fun y55 hy55 => ?_
          try simp only [r1_runE, evs, tys]
          exact Imp.some (by first | rfl | simp only [r1_numeralE, evs, tys, evl])
         ·exact Imp.some (by first | rfl | simp only [r1_numeralE, evs, tys, evl])
        refine Imp.cnd ?_ ?_
        ·refine Imp.op (f := fun a => .int .u8 (a.toNat : Int)) (fun a h => op_ixStr h) (fun a => rfl) fun y46 hy46 => ?_
         try simp only [evs, tys]
         refine Imp.cnd ?_ ?_
         ·first | exact hk44 _ _ _ | simpa only [evs, tys, evl] using hk44 _ _ _
         ·refine Imp.op (f := fun a => .int .u8 (a.toNat : Int)) (fun a h => op_ixStr h) (fun a => rfl) fun y48 hy48 => ?_
          try simp only [evs, tys]
          refine Imp.cnd ?_ ?_
          ·first | exact hk44 _ _ _ | simpa only [evs, tys, evl] using hk44 _ _ _
          ·first | exact hk44 _ _ _ | simpa only [evs, tys, evl] using hk44 _ _ _
        ·first | exact hk44 _ _ _ | simpa only [evs, tys, evl] using hk44 _ _ _
       ·exact Imp.some (by first | rfl | simp only [r1_numeralE, evs, tys, evl])
     ·exact Imp.some (by first | rfl | simp only [r1_numeralE, evs, tys, evl])
    refine Imp.cnd ?_ ?_
    ·refine Imp.op (f := fun a => .int .u8 (a.toNat : Int)) (fun a h => op_ixStr h) (fun a => rfl) fun y17 hy17 => ?_
     try simp only [evs, tys]
     refine Imp.cnd ?_ ?_
     ·refine Imp.call (f := r1_runE) rfl (fun a h => by first | exact r1_run_spec h | simpa only [evs, tys, evl] using r1_run_spec h) (fun a => by first | rfl | simp only [r1_runE, evk, chks]) fun y19 hy19 => ?_
      try simp only [r1_runE, evs, tys]
      refine Imp.cnd ?_ ?_
      ·refine Imp.call (f := r1_runE) rfl (fun a h => by first | exact r1_run_spec h | simpa only [evs, tys, evl] using r1_run_spec h) (fun a => by first | rfl | simp only [r1_runE, evk, chks]) fun y21 hy21 => ?_
       try simp only [r1_runE, evs, tys]
       first | exact hk15 _ _ _ _ _ _ | simpa only [evs, tys, evl] using hk15 _ _ _ _ _ _
      ·first | exact hk15 _ _ _ _ _ _ | simpa only [evs, tys, evl] using hk15 _ _ _ _ _ _
     ·first | exact hk15 _ _ _ _ _ _ | simpa only [evs, tys, evl] using hk15 _ _ _ _ _ _
    ·first | exact hk15 _ _ _ _ _ _ | simpa only [evs, tys, evl] using hk15 _ _ _ _ _ _
   refine Imp.op (f := fun a => .int .u8 (a.toNat : Int)) (fun a h => op_ixStr h) (fun a => rfl) fun y12 hy12 => ?_
   try simp only [evs, tys]
   refine Imp.cnd ?_ ?_
   ·first | exact hk10 _ _ | simpa only [evs, tys, evl] using hk10 _ _
   ·first | exact hk10 _ _ | simpa only [evs, tys, evl] using hk10 _ _
 refine Imp.cnd ?_ ?_
 ·refine Imp.op (f := fun a => .int .u8 (a.toNat : Int)) (fun a h => op_ixStr h) (fun a => rfl) fun y3 hy3 => ?_
  try simp only [evs, tys]
  refine Imp.cnd ?_ ?_
  ·first | exact hk1 _ _ _ | simpa only [evs, tys, evl] using hk1 _ _ _
  ·first | exact hk1 _ _ _ | simpa only [evs, tys, evl] using hk1 _ _ _
 ·first | exact hk1 _ _ _ | simpa only [evs, tys, evl] using hk1 _ _ _
theorem r1_numeral_run {s : Str} {r : Int × Int} (h : r1_numeral_B s = some r) : r1_numeral s = some r := by
 obtain ⟨v, hv, rfl⟩ := r1_numeral_imp s r h
 exact tO_of (pair_inj r1_numeralEj) (OL_runD r1_numeral_ds rfl rfl Tryd.func33 ((r1_numeral_t1 _ _ s).trans hv))
def st_HasPrefix_T1 (O : Orc) (LP : LBody → LBody) (s : Str) (prefix0 : Str) : Option (PV × UP) :=
 callp O 80 [(.str s), (.str prefix0)] fun x1 => cnd (chk .bool x1)
 (some ((.bool (boolV x1)), [])) none
noncomputable def st_HasPrefix_B (s : Str) (prefix0 : Str) : Option Bool :=
 bnd (stringslite_HasPrefix s prefix0) fun y2 =>
 some y2
def st_HasPrefix_ds : Decs := { decs := [(7, .bool)], ups := [], loops := [] }
set_option maxRecDepth 100000 in
theorem st_HasPrefix_t1 (O : Orc) (LP : LBody → LBody) (s : Str) (prefix0 : Str) : evalBodyD Tryd.prog (MT 49) st_HasPrefix_ds Tryd.f49.ntmps O LP Tryd.f49 [(.str s), (.str prefix0)] [] = st_HasPrefix_T1 O LP s prefix0 := by kernel_rfl
theorem st_HasPrefix_imp (s : Str) (prefix0 : Str) : Imp (st_HasPrefix_B s prefix0) (st_HasPrefix_T1 O loopLim s prefix0) (fun r v => v = (st_HasPrefixE r, [])) := by
 simp only [st_HasPrefix_B, st_HasPrefix_T1]
 try simp only [evs, tys]
 refine Imp.call (f := stringslite_HasPrefixE) rfl (fun a h => by first | exact stringslite_HasPrefix_spec h | simpa only [evs, tys, evl] using stringslite_HasPrefix_spec h) (fun a => by first | rfl | simp only [stringslite_HasPrefixE, evk, chks]) fun y2 hy2 => ?_
 try simp only [stringslite_HasPrefixE, evs, tys]
 exact Imp.some (by first | rfl | simp only [st_HasPrefixE, evs, tys, evl])
theorem st_HasPrefix_run {s : Str} {prefix0 : Str} {r : Bool} (h : st_HasPrefix_B s prefix0 = some r) : st_HasPrefix s prefix0 = some r := by
 obtain ⟨v, hv, rfl⟩ := st_HasPrefix_imp s prefix0 r h
 exact tO_of (pair_inj st_HasPrefixEj) (OL_runD st_HasPrefix_ds rfl rfl Tryd.func49 ((st_HasPrefix_t1 _ _ s prefix0).trans hv))
def to_whole_T1 (O : Orc) (LP : LBody → LBody) (s : Str) : Option (PV × UP) :=
 callp O 49 [(.str s), (.str [45])] fun x1 => cnd (chk .bool x1)
 (cnd (boolV x1)
 (bnd (slcLo 0 (.str s) (.int .i64 1)) fun x3 => cnd (chk .str x3)
 (callp O 65 [(.str (strV x3))] fun x5 => cnd (chk (.int .i64) x5)
 (cnd ((intV x5) == 0)
 (some ((.int .i64 0), []))
 (bnd (ixStr (.str s) (.int .i64 1)) fun x7 => cnd (chk (.int .u8) x7)
 (cnd ((intV x7) == 48)
 (some ((.int .i64 2), []))
 (some ((.int .i64 (IntKind.wrap .i64 (1 + (intV x5)))), []))) none)) none) none)
 (bnd (slcLo 0 (.str s) (.int .i64 0)) fun x9 => cnd (chk .str x9)
 (callp O 65 [(.str (strV x9))] fun x11 => cnd (chk (.int .i64) x11)
 (cnd ((intV x11) == 0)
 (some ((.int .i64 0), []))
 (bnd (ixStr (.str s) (.int .i64 0)) fun x13 => cnd (chk (.int .u8) x13)
 (cnd ((intV x13) == 48)
 (some ((.int .i64 1), []))
 (some ((.int .i64 (IntKind.wrap .i64 (0 + (intV x11)))), []))) none)) none) none)) none
noncomputable def to_whole_B (s : Str) : Option Int :=
 bnd (st_HasPrefix s [45]) fun y2 =>
 cnd y2
 (bnd (tslc s 1 (List.length s)) fun y4 =>
 bnd (to_digits y4) fun y6 =>
 cnd (y6 == 0)
 (some 0)
 (bnd (nthI s 1) fun y8 =>
 cnd ((y8.toNat : Int) == 48)
 (some 2)
 (some (IntKind.wrap .i64 (1 + y6)))))
 (bnd (tslc s 0 (List.length s)) fun y10 =>
 bnd (to_digits y10) fun y12 =>
 cnd (y12 == 0)
 (some 0)
 (bnd (nthI s 0) fun y14 =>
 cnd ((y14.toNat : Int) == 48)
 (some 1)
 (some (IntKind.wrap .i64 (0 + y12)))))
def to_whole_ds : Decs := { decs := [(6, .bool), (9, .str), (10, (.int .i64)), (17, (.int .u8))], ups := [], loops := [] }
set_option maxRecDepth 100000 in
theorem to_whole_t1 (O : Orc) (LP : LBody → LBody) (s : Str) : evalBodyD Tryd.prog (MT 64) to_whole_ds Tryd.f64.ntmps O LP Tryd.f64 [(.str s)] [] = to_whole_T1 O LP s := by kernel_rfl
theorem to_whole_imp (s : Str) : Imp (to_whole_B s) (to_whole_T1 O loopLim s) (fun r v => v = (to_wholeE r, [])) := by
 simp only [to_whole_B, to_whole_T1]
 try simp only [evs, tys]
 refine Imp.call (f := st_HasPrefixE) rfl (fun a h => by first | exact st_HasPrefix_spec h | simpa only [evs, tys, evl] using st_HasPrefix_spec h) (fun a => by first | rfl | simp only [st_HasPrefixE, evk, chks]) fun y2 hy2 => ?_
 try simp only [st_HasPrefixE, evs, tys]
 refine Imp.cnd ?_ ?_
 ·refine Imp.op (f := fun a => .str a) (fun a h => op_sslcLo h) (fun a => rfl) fun y4 hy4 => ?_
  try simp only [evs, tys]
  refine Imp.call (f := to_digitsE) rfl (fun a h => by first | exact to_digits_spec h | simpa only [evs, tys, evl] using to_digits_spec h) (fun a => by first | rfl | simp only [to_digitsE, evk, chks]) fun y6 hy6 => ?_
  try simp only [to_digitsE, evs, tys]
  refine Imp.cnd ?_ ?_
  ·exact Imp.some (by first | rfl | simp only [to_wholeE, evs, tys, evl])
  ·refine Imp.op (f := fun a => .int .u8 (a.toNat : Int)) (fun a h => op_ixStr h) (fun a => rfl) fun y8 hy8 => ?_
   try simp only [evs, tys]
   refine Imp.cnd ?_ ?_
   ·exact Imp.some (by first | rfl | simp only [to_wholeE, evs, tys, evl])
   ·exact Imp.some (by first | rfl | simp only [to_wholeE, evs, tys, evl])
 ·refine Imp.op (f := fun a => .str a) (fun a h => op_sslcLo h) (fun a => rfl) fun y10 hy10 => ?_
  try simp only [evs, tys]
  refine Imp.call (f := to_digitsE) rfl (fun a h => by first | exact to_digits_spec h | simpa only [evs, tys, evl] using to_digits_spec h) (fun a => by first | rfl | simp only [to_digitsE, evk, chks]) fun y12 hy12 => ?_
  try simp only [to_digitsE, evs, tys]
  refine Imp.cnd ?_ ?_
  ·exact Imp.some (by first | rfl | simp only [to_wholeE, evs, tys, evl])
  ·refine Imp.op (f := fun a => .int .u8 (a.toNat : Int)) (fun a h => op_ixStr h) (fun a => rfl) fun y14 hy14 => ?_
   try simp only [evs, tys]
   refine Imp.cnd ?_ ?_
   ·exact Imp.some (by first | rfl | simp only [to_wholeE, evs, tys, evl])
   ·exact Imp.some (by first | rfl | simp only [to_wholeE, evs, tys, evl])
theorem to_whole_run {s : Str} {r : Int} (h : to_whole_B s = some r) : to_whole s = some r := by
 obtain ⟨v, hv, rfl⟩ := to_whole_imp s r h
 exact tO_of (pair_inj to_wholeEj) (OL_runD to_whole_ds rfl rfl Tryd.func64 ((to_whole_t1 _ _ s).trans hv))
def to_digits_l1 (O : Orc) (LP : LBody → LBody) : LBody := fun s1 s1u => cnd (chkL [.str, (.int .i64)] s1) (cnd (chkU [] s1u)
 (cnd (decide ((intV (gt s1 1)) < (List.length (strV (gt s1 0)) : Int)))
 (bnd (ixStr (.str (strV (gt s1 0))) (.int .i64 (intV (gt s1 1)))) fun x7 => cnd (chk (.int .u8) x7)
 (callp O 57 [(.int .u8 (intV x7))] fun x9 => cnd (chk .bool x9)
 (cnd (boolV x9)
 (some (.nrm, [(.str (strV (gt s1 0))), (.int .i64 (IntKind.wrap .i64 ((intV (gt s1 1)) + 1)))], []))
 (some (.brk 0, [(.str (strV (gt s1 0))), (.int .i64 (intV (gt s1 1)))], []))) none) none)
 (some (.brk 0, [(.str (strV (gt s1 0))), (.int .i64 (intV (gt s1 1)))], []))) none) none
def to_digits_T1 (O : Orc) (LP : LBody → LBody) (s : Str) : Option (PV × UP) :=
 bnd (LP (to_digits_l1 O LP) [(.str s), (.int .i64 0)] []) fun y12 =>
 exIs y12.1 (some 0) (cnd (chkL [.str, (.int .i64)] y12.2.1) (cnd (chkU [] y12.2.2)
 (some ((.int .i64 (intV (gt y12.2.1 1))), [])) none) none)
 (none)
noncomputable def to_digits_l1T (s : Str) : Int → Option (Int ⊕ Int)
 | n_6 =>
 cnd (decide (n_6 < (List.length s : Int)))
  (bnd (nthI s n_6) fun y8 =>
  bnd (ls_Digit (y8.toNat : Int)) fun y10 =>
  cnd y10
  (some (.inl (IntKind.wrap .i64 (n_6 + 1))))
  (some (.inr n_6)))
  (some (.inr n_6))
abbrev to_digits_l1R (s : Str) (st : Int) (l : List PV) (u : UP) : Prop := l = [(.str s), (.int .i64 st)] ∧ u = []
abbrev to_digits_l1X (s : Str) (p : Int) (r : Ex × List PV × UP) : Prop := (fun (p : Int) => r = (Ex.brk 0, [(.str s), (.int .i64 p)], [])) p
noncomputable def to_digits_B (s : Str) : Option Int :=
 bnd (tloop (to_digits_l1T s) 0) fun n_11 =>
 some n_11
def to_digits_ds : Decs := { decs := [(11, (.int .u8)), (12, .bool)], ups := [], loops := [(2, [], ⟨[.str, (.int .i64)], [], [(some 0, [.str, (.int .i64)], [])]⟩)] }
set_option maxRecDepth 100000 in
theorem to_digits_t1 (O : Orc) (LP : LBody → LBody) (s : Str) : evalBodyD Tryd.prog (MT 65) to_digits_ds Tryd.f65.ntmps O LP Tryd.f65 [(.str s)] [] = to_digits_T1 O LP s := by kernel_rfl
theorem to_digits_l1_ok (s : Str) : ∀ st l u, to_digits_l1R s st l u → Imp (to_digits_l1T s st) (to_digits_l1 O loopLim l u) (StepR (to_digits_l1R s) (to_digits_l1X s)) := by
 rintro n_6 l u ⟨rfl, rfl⟩
 simp only [to_digits_l1T, to_digits_l1]
 refine Imp.chk rfl (Imp.chk rfl ?_)
 try simp only [evs, tys]
 refine Imp.cnd ?_ ?_
 ·refine Imp.op (f := fun a => .int .u8 (a.toNat : Int)) (fun a h => op_ixStr h) (fun a => rfl) fun y8 hy8 => ?_
  try simp only [evs, tys]
  refine Imp.call (f := ls_DigitE) rfl (fun a h => by first | exact ls_Digit_spec h | simpa only [evs, tys, evl] using ls_Digit_spec h) (fun a => by first | rfl | simp only [ls_DigitE, evk, chks]) fun y10 hy10 => ?_
  try simp only [ls_DigitE, evs, tys]
  refine Imp.cnd ?_ ?_
  ·exact Imp.some (StepR.next ⟨by first | rfl | simp only [evs, tys, evl], rfl⟩)
  ·exact Imp.some (StepR.brk (by first | rfl | simp only [evs, tys, evl, elim_inl, elim_inr]))
 ·exact Imp.some (StepR.brk (by first | rfl | simp only [evs, tys, evl, elim_inl, elim_inr]))
theorem to_digits_imp (s : Str) : Imp (to_digits_B s) (to_digits_T1 O loopLim s) (fun r v => v = (to_digitsE r, [])) := by
 simp only [to_digits_B, to_digits_T1]
 try simp only [evs, tys]
 refine Imp.bnd (Imp.loop (to_digits_l1_ok s) ⟨by first | rfl | simp only [evs, tys, evl], rfl⟩) ?_
 rintro n_11 vy12 hy12
 cases hy12
 refine Imp.exHit rfl (Imp.chk rfl (Imp.chk rfl ?_))
 try simp only [evs, tys]
 exact Imp.some (by first | rfl | simp only [to_digitsE, evs, tys, evl])
theorem to_digits_run {s : Str} {r : Int} (h : to_digits_B s = some r) : to_digits s = some r := by
 obtain ⟨v, hv, rfl⟩ := to_digits_imp s r h
 exact tO_of (pair_inj to_digitsEj) (OL_runD to_digits_ds rfl rfl Tryd.func65 ((to_digits_t1 _ _ s).trans hv))
def to_power_T1 (O : Orc) (LP : LBody → LBody) (s : Str) : Option (PV × UP) :=
 cnd (s == ([] : Str))
 (some ((.int .i64 0), []))
 (bnd (ixStr (.str s) (.int .i64 0)) fun x1 => cnd (chk (.int .u8) x1)
 (cnd ((intV x1) != 101)
 (bnd (ixStr (.str s) (.int .i64 0)) fun x3 => cnd (chk (.int .u8) x3)
 (cnd ((intV x3) != 69)
 (some ((.int .i64 0), []))
 (cnd (decide ((List.length s : Int) > 1))
 (bnd (ixStr (.str s) (.int .i64 1)) fun x5 => cnd (chk (.int .u8) x5)
 (cnd ((intV x5) == 43)
 (bnd (slcLo 0 (.str s) (.int .i64 2)) fun x7 => cnd (chk .str x7)
 (callp O 65 [(.str (strV x7))] fun x9 => cnd (chk (.int .i64) x9)
 (cnd ((intV x9) == 0)
 (some ((.int .i64 0), []))
 (some ((.int .i64 (IntKind.wrap .i64 (2 + (intV x9)))), []))) none) none)
 (bnd (ixStr (.str s) (.int .i64 1)) fun x11 => cnd (chk (.int .u8) x11)
 (cnd ((intV x11) == 45)
 (bnd (slcLo 0 (.str s) (.int .i64 2)) fun x13 => cnd (chk .str x13)
 (callp O 65 [(.str (strV x13))] fun x15 => cnd (chk (.int .i64) x15)
 (cnd ((intV x15) == 0)
 (some ((.int .i64 0), []))
 (some ((.int .i64 (IntKind.wrap .i64 (2 + (intV x15)))), []))) none) none)
 (bnd (slcLo 0 (.str s) (.int .i64 1)) fun x17 => cnd (chk .str x17)
 (callp O 65 [(.str (strV x17))] fun x19 => cnd (chk (.int .i64) x19)
 (cnd ((intV x19) == 0)
 (some ((.int .i64 0), []))
 (some ((.int .i64 (IntKind.wrap .i64 (1 + (intV x19)))), []))) none) none)) none)) none)
 (bnd (slcLo 0 (.str s) (.int .i64 1)) fun x21 => cnd (chk .str x21)
 (callp O 65 [(.str (strV x21))] fun x23 => cnd (chk (.int .i64) x23)
 (cnd ((intV x23) == 0)
 (some ((.int .i64 0), []))
 (some ((.int .i64 (IntKind.wrap .i64 (1 + (intV x23)))), []))) none) none))) none)
 (cnd (decide ((List.length s : Int) > 1))
 (bnd (ixStr (.str s) (.int .i64 1)) fun x25 => cnd (chk (.int .u8) x25)
 (cnd ((intV x25) == 43)
 (bnd (slcLo 0 (.str s) (.int .i64 2)) fun x27 => cnd (chk .str x27)
 (callp O 65 [(.str (strV x27))] fun x29 => cnd (chk (.int .i64) x29)
 (cnd ((intV x29) == 0)
 (some ((.int .i64 0), []))
 (some ((.int .i64 (IntKind.wrap .i64 (2 + (intV x29)))), []))) none) none)
 (bnd (ixStr (.str s) (.int .i64 1)) fun x31 => cnd (chk (.int .u8) x31)
 (cnd ((intV x31) == 45)
 (bnd (slcLo 0 (.str s) (.int .i64 2)) fun x33 => cnd (chk .str x33)
 (callp O 65 [(.str (strV x33))] fun x35 => cnd (chk (.int .i64) x35)
 (cnd ((intV x35) == 0)
 (some ((.int .i64 0), []))
 (some ((.int .i64 (IntKind.wrap .i64 (2 + (intV x35)))), []))) none) none)
 (bnd (slcLo 0 (.str s) (.int .i64 1)) fun x37 => cnd (chk .str x37)
 (callp O 65 [(.str (strV x37))] fun x39 => cnd (chk (.int .i64) x39)
 (cnd ((intV x39) == 0)
 (some ((.int .i64 0), []))
 (some ((.int .i64 (IntKind.wrap .i64 (1 + (intV x39)))), []))) none) none)) none)) none)
 (bnd (slcLo 0 (.str s) (.int .i64 1)) fun x41 => cnd (chk .str x41)
 (callp O 65 [(.str (strV x41))] fun x43 => cnd (chk (.int .i64) x43)
 (cnd ((intV x43) == 0)
 (some ((.int .i64 0), []))
 (some ((.int .i64 (IntKind.wrap .i64 (1 + (intV x43)))), []))) none) none))) none)
noncomputable def to_power_B (s : Str) : Option Int :=
 cnd (s == ([] : Str))
 (some 0)
 (bnd (nthI s 0) fun y2 =>
 cnd ((y2.toNat : Int) != 101)
 (bnd (nthI s 0) fun y4 =>
 cnd ((y4.toNat : Int) != 69)
 (some 0)
 (cnd (decide ((List.length s : Int) > 1))
 (bnd (nthI s 1) fun y6 =>
 cnd ((y6.toNat : Int) == 43)
 (bnd (tslc s 2 (List.length s)) fun y8 =>
 bnd (to_digits y8) fun y10 =>
 cnd (y10 == 0)
 (some 0)
 (some (IntKind.wrap .i64 (2 + y10))))
 (bnd (nthI s 1) fun y12 =>
 cnd ((y12.toNat : Int) == 45)
 (bnd (tslc s 2 (List.length s)) fun y14 =>
 bnd (to_digits y14) fun y16 =>
 cnd (y16 == 0)
 (some 0)
 (some (IntKind.wrap .i64 (2 + y16))))
 (bnd (tslc s 1 (List.length s)) fun y18 =>
 bnd (to_digits y18) fun y20 =>
 cnd (y20 == 0)
 (some 0)
 (some (IntKind.wrap .i64 (1 + y20))))))
 (bnd (tslc s 1 (List.length s)) fun y22 =>
 bnd (to_digits y22) fun y24 =>
 cnd (y24 == 0)
 (some 0)
 (some (IntKind.wrap .i64 (1 + y24))))))
 (cnd (decide ((List.length s : Int) > 1))
 (bnd (nthI s 1) fun y26 =>
 cnd ((y26.toNat : Int) == 43)
 (bnd (tslc s 2 (List.length s)) fun y28 =>
 bnd (to_digits y28) fun y30 =>
 cnd (y30 == 0)
 (some 0)
 (some (IntKind.wrap .i64 (2 + y30))))
 (bnd (nthI s 1) fun y32 =>
 cnd ((y32.toNat : Int) == 45)
 (bnd (tslc s 2 (List.length s)) fun y34 =>
 bnd (to_digits y34) fun y36 =>
 cnd (y36 == 0)
 (some 0)
 (some (IntKind.wrap .i64 (2 + y36))))
 (bnd (tslc s 1 (List.length s)) fun y38 =>
 bnd (to_digits y38) fun y40 =>
 cnd (y40 == 0)
 (some 0)
 (some (IntKind.wrap .i64 (1 + y40))))))
 (bnd (tslc s 1 (List.length s)) fun y42 =>
 bnd (to_digits y42) fun y44 =>
 cnd (y44 == 0)
 (some 0)
 (some (IntKind.wrap .i64 (1 + y44))))))
def to_power_ds : Decs := { decs := [(9, (.int .u8)), (13, (.int .u8)), (22, (.int .u8)), (26, (.int .u8)), (32, .str), (33, (.int .i64))], ups := [], loops := [] }
set_option maxRecDepth 100000 in
theorem to_power_t1 (O : Orc) (LP : LBody → LBody) (s : Str) : evalBodyD Tryd.prog (MT 66) to_power_ds Tryd.f66.ntmps O LP Tryd.f66 [(.str s)] [] = to_power_T1 O LP s := by kernel_rfl
theorem to_power_imp (s : Str) : Imp (to_power_B s) (to_power_T1 O loopLim s) (fun r v => v = (to_powerE r, [])) := by
 simp only [to_power_B, to_power_T1]
 try simp only [evs, tys]
 refine Imp.cnd ?_ ?_
 ·exact Imp.some (by first | rfl | simp only [to_powerE, evs, tys, evl])
 ·refine Imp.op (f := fun a => .int .u8 (a.toNat : Int)) (fun a h => op_ixStr h) (fun a => rfl) fun y2 hy2 => ?_
  try simp only [evs, tys]
  refine Imp.cnd ?_ ?_
  ·refine Imp.op (f := fun a => .int .u8 (a.toNat : Int)) (fun a h => op_ixStr h) (fun a => rfl) fun y4 hy4 => ?_
   try simp only [evs, tys]
   refine Imp.cnd ?_ ?_
   ·exact Imp.some (by first | rfl | simp only [to_powerE, evs, tys, evl])
   ·refine Imp.cnd ?_ ?_
    ·refine Imp.op (f := fun a => .int .u8 (a.toNat : Int)) (fun a h => op_ixStr h) (fun a => rfl) fun y6 hy6 => ?_
     try simp only [evs, tys]
     refine Imp.cnd ?_ ?_
     ·refine Imp.op (f := fun a => .str a) (fun a h => op_sslcLo h) (fun a => rfl) fun y8 hy8 => ?_
      try simp only [evs, tys]
      refine Imp.call (f := to_digitsE) rfl (fun a h => by first | exact to_digits_spec h | simpa only [evs, tys, evl] using to_digits_spec h) (fun a => by first | rfl | simp only [to_digitsE, evk, chks]) fun y10 hy10 => ?_
      try simp only [to_digitsE, evs, tys]
      refine Imp.cnd ?_ ?_
      ·exact Imp.some (by first | rfl | simp only [to_powerE, evs, tys, evl])
      ·exact Imp.some (by first | rfl | simp only [to_powerE, evs, tys, evl])
     ·refine Imp.op (f := fun a => .int .u8 (a.toNat : Int)) (fun a h => op_ixStr h) (fun a => rfl) fun y12 hy12 => ?_
      try simp only [evs, tys]
      refine Imp.cnd ?_ ?_
      ·refine Imp.op (f := fun a => .str a) (fun a h => op_sslcLo h) (fun a => rfl) fun y14 hy14 => ?_
       try simp only [evs, tys]
       refine Imp.call (f := to_digitsE) rfl (fun a h => by first | exact to_digits_spec h | simpa only [evs, tys, evl] using to_digits_spec h) (fun a => by first | rfl | simp only [to_digitsE, evk, chks]) fun y16 hy16 => ?_
       try simp only [to_digitsE, evs, tys]
       refine Imp.cnd ?_ ?_
       ·exact Imp.some (by first | rfl | simp only [to_powerE, evs, tys, evl])
       ·exact Imp.some (by first | rfl | simp only [to_powerE, evs, tys, evl])
      ·refine Imp.op (f := fun a => .str a) (fun a h => op_sslcLo h) (fun a => rfl) fun y18 hy18 => ?_
       try simp only [evs, tys]
       refine Imp.call (f := to_digitsE) rfl (fun a h => by first | exact to_digits_spec h | simpa only [evs, tys, evl] using to_digits_spec h) (fun a => by first | rfl | simp only [to_digitsE, evk, chks]) fun y20 hy20 => ?_
       try simp only [to_digitsE, evs, tys]
       refine Imp.cnd ?_ ?_
       ·exact Imp.some (by first | rfl | simp only [to_powerE, evs, tys, evl])
       ·exact Imp.some (by first | rfl | simp only [to_powerE, evs, tys, evl])
    ·refine Imp.op (f := fun a => .str a) (fun a h => op_sslcLo h) (fun a => rfl) fun y22 hy22 => ?_
     try simp only [evs, tys]
     refine Imp.call (f := to_digitsE) rfl (fun a h => by first | exact to_digits_spec h | simpa only [evs, tys, evl] using to_digits_spec h) (fun a => by first | rfl | simp only [to_digitsE, evk, chks]) fun y24 hy24 => ?_
     try simp only [to_digitsE, evs, tys]
     refine Imp.cnd ?_ ?_
     ·exact Imp.some (by first | rfl | simp only [to_powerE, evs, tys, evl])
     ·exact Imp.some (by first | rfl | simp only [to_powerE, evs, tys, evl])
  ·refine Imp.cnd ?_ ?_
   ·refine Imp.op (f := fun a => .int .u8 (a.toNat : Int)) (fun a h => op_ixStr h) (fun a => rfl) fun y26 hy26 => ?_
    try simp only [evs, tys]
    refine Imp.cnd ?_ ?_
    ·refine Imp.op (f := fun a => .str a) (fun a h => op_sslcLo h) (fun a => rfl) fun y28 hy28 => ?_
     try simp only [evs, tys]
     refine Imp.call (f := to_digitsE) rfl (fun a h => by first | exact to_digits_spec h | simpa only [evs, tys, evl] using to_digits_spec h) (fun a => by first | rfl | simp only [to_digitsE, evk, chks]) fun y30 hy30 => ?_
     try simp only [to_digitsE, evs, tys]
     refine Imp.cnd ?_ ?_
     ·exact Imp.some (by first | rfl | simp only [to_powerE, evs, tys, evl])
     ·exact Imp.some (by first | rfl | simp only [to_powerE, evs, tys, evl])
    ·refine Imp.op (f := fun a => .int .u8 (a.toNat : Int)) (fun a h => op_ixStr h) (fun a => rfl) fun y32 hy32 => ?_
     try simp only [evs, tys]
     refine Imp.cnd ?_ ?_
     ·refine Imp.op (f := fun a => .str a) (fun a h => op_sslcLo h) (fun a => rfl) fun y34 hy34 => ?_
      try simp only [evs, tys]
      refine Imp.call (f := to_digitsE) rfl (fun a h => by first | exact to_digits_spec h | simpa only [evs, tys, evl] using to_digits_spec h) (fun a => by first | rfl | simp only [to_digitsE, evk, chks]) fun y36 hy36 => ?_
      try simp only [to_digitsE, evs, tys]
      refine Imp.cnd ?_ ?_
      ·exact Imp.some (by first | rfl | simp only [to_powerE, evs, tys, evl])
      ·exact Imp.some (by first | rfl | simp only [to_powerE, evs, tys, evl])
     ·refine Imp.op (f := fun a => .str a) (fun a h => op_sslcLo h) (fun a => rfl) fun y38 hy38 => ?_
      try simp only [evs, tys]
      refine Imp.call (f := to_digitsE) rfl (fun a h => by first | exact to_digits_spec h | simpa only [evs, tys, evl] using to_digits_spec h) (fun a => by first | rfl | simp only [to_digitsE, evk, chks]) fun y40 hy40 => ?_
      try simp only [to_digitsE, evs, tys]
      refine Imp.cnd ?_ ?_
      ·exact Imp.some (by first | rfl | simp only [to_powerE, evs, tys, evl])
      ·exact Imp.some (by first | rfl | simp only [to_powerE, evs, tys, evl])
   ·refine Imp.op (f := fun a => .str a) (fun a h => op_sslcLo h) (fun a => rfl) fun y42 hy42 => ?_
    try simp only [evs, tys]
    refine Imp.call (f := to_digitsE) rfl (fun a h => by first | exact to_digits_spec h | simpa only [evs, tys, evl] using to_digits_spec h) (fun a => by first | rfl | simp only [to_digitsE, evk, chks]) fun y44 hy44 => ?_
    try simp only [to_digitsE, evs, tys]
    refine Imp.cnd ?_ ?_
    ·exact Imp.some (by first | rfl | simp only [to_powerE, evs, tys, evl])
    ·exact Imp.some (by first | rfl | simp only [to_powerE, evs, tys, evl])
theorem to_power_run {s : Str} {r : Int} (h : to_power_B s = some r) : to_power s = some r := by
 obtain ⟨v, hv, rfl⟩ := to_power_imp s r h
 exact tO_of (pair_inj to_powerEj) (OL_runD to_power_ds rfl rfl Tryd.func66 ((to_power_t1 _ _ s).trans hv))
theorem uf_DecodeRuneInString_run {s : Str} {r : Int × Int} (h : tDecode s = some r) : uf_DecodeRuneInString s = some r := tO_of (pair_inj uf_DecodeRuneInStringEj) (OL_ext (g := xDecode) rfl (xDecode_of h))
end Go.Proofs.YtafndpggajdmiaaDoor

import Derived.Test.YtafndpggajdmiaaDoorHGa
import Derived.Lib.TrimUEq
import Derived.Shelf.Strings.OnBuilder
import Derived.Shelf.Strings.Search2
import Derived.Shelf.Unicode.DecodeAny
import Derived.Test.YtafndpggajdmiaaDoorHEd
import Derived.WalkKit
import Derived.KernelRfl
set_option linter.unusedVariables false
set_option linter.unusedSimpArgs false
set_option linter.unusedSimpArgs false
open Go Go.Ev Go.Ev.PV
namespace Go.Proofs.YtafndpggajdmiaaDoor
def s3_TokenRoom_l1 (O : Orc) (LP : LBody → LBody) : LBody := fun s7 s7u => cnd (chkL [(.int .i64), (.rsl 0 17 1), (.int .i64), (.vec 1)] s7) (cnd (chkU [] s7u)
 (cnd (decide ((intV (gt s7 2)) < ((rlnV (gt s7 1)) : Int)))
 (bnd (ix 1 (.rsl 0 17 (rlnV (gt s7 1)) 1) (.int .i64 (intV (gt s7 2)))) fun x14 => cnd (chk (.ptx 0 17) x14)
 (bnd (vput 1 (vecV (gt s7 3)) (offV x14) [(.int .u8 44)]) fun x16 =>
 some (.nrm, [(.int .i64 (intV (gt s7 0))), (.rsl 0 17 (rlnV (gt s7 1)) 1), (.int .i64 (IntKind.wrap .i64 ((intV (gt s7 2)) + 1))), (.vec 1 x16)], [])) none)
 (some (.brk 0, [(.int .i64 (intV (gt s7 0))), (.rsl 0 17 (rlnV (gt s7 1)) 1), (.int .i64 (intV (gt s7 2))), (.vec 1 (vecV (gt s7 3)))], []))) none) none
def s3_TokenRoom_T1 (O : Orc) (LP : LBody → LBody) (n : Int) : Option (PV × UP) :=
 cnd (decide (n < 0))
 (callp O 11 [] fun x1 => cnd (chk .bool x1)
 (some ((.bool (boolV x1)), [])) none)
 (cnd (decide (n > 4))
 (callp O 11 [] fun x3 => cnd (chk .bool x3)
 (some ((.bool (boolV x3)), [])) none)
 (bnd (mkVecZ true (.int .u8 0) (.int .i64 (IntKind.wrap .i64 (8190 + n))) (.int .i64 (IntKind.wrap .i64 (8190 + n)))) fun x5 =>
 bnd (LP (s3_TokenRoom_l1 O LP) [(.int .i64 n), (.rsl 0 17 (List.length x5) 1), (.int .i64 0), (.vec 1 x5)] []) fun y20 =>
 exIs y20.1 (some 0) (cnd (chkL [(.int .i64), (.rsl 0 17 1), (.int .i64), (.vec 1)] y20.2.1) (cnd (chkU [] y20.2.2)
 (cnd (Nat.ble (rlnV (gt y20.2.1 1)) (List.length (vecV (gt y20.2.1 3))))
 (bnd (toStr (.slice (List.take (rlnV (gt y20.2.1 1)) (vecV (gt y20.2.1 3))) [] false)) fun x21 => cnd (chk .str x21)
 (callp O 12 [(.str (strV x21))] fun x23 => cnd (chk (.tup [(.sl false), (.int .i64)]) x23)
 (cnd (decide ((intV (gt y20.2.1 0)) > 2))
 (cnd ((intV (gt (tupV x23) 1)) == 3)
 (cnd ((List.length (esV (gt (tupV x23) 0)) : Int) == 0)
 (callp O 11 [] fun x25 => cnd (chk .bool x25)
 (some ((.bool (boolV x25)), [])) none)
 (some ((.bool false), [])))
 (some ((.bool false), [])))
 (cnd ((intV (gt (tupV x23) 1)) == 0)
 (cnd ((List.length (esV (gt (tupV x23) 0)) : Int) == 0)
 (callp O 11 [] fun x27 => cnd (chk .bool x27)
 (some ((.bool (boolV x27)), [])) none)
 (some ((.bool false), [])))
 (some ((.bool false), [])))) none) none)
 (none)) none) none)
 (none)))
noncomputable def s3_TokenRoom_l1T (y6 : List Int) : (Int × (List Int)) → Option ((Int × (List Int)) ⊕ ((List Int)))
 | (i_12, b_13) =>
 cnd (decide (i_12 < ((List.length y6) : Int)))
  (bnd (tixR (List.length y6) i_12) fun y15 =>
  bnd (tput b_13 y15 (fun _ : Int => 44)) fun y17 =>
  some (.inl ((IntKind.wrap .i64 (i_12 + 1)), y17)))
  (some (.inr b_13))
abbrev s3_TokenRoom_l1R (n : Int) (y6 : List Int) (st : Int × (List Int)) (l : List PV) (u : UP) : Prop := l = [(.int .i64 n), (.rsl 0 17 (List.length y6) 1), (.int .i64 st.1), (.vec 1 (List.map (PV.int .u8) st.2))] ∧ u = []
abbrev s3_TokenRoom_l1X (n : Int) (y6 : List Int) (p : (List Int)) (r : Ex × List PV × UP) : Prop := (fun (p : (List Int)) => ∃ (i_18 : Int), r = (Ex.brk 0, [(.int .i64 n), (.rsl 0 17 (List.length y6) 1), (.int .i64 i_18), (.vec 1 (List.map (PV.int .u8) p))], [])) p
noncomputable def s3_TokenRoom_B (n : Int) : Option Bool :=
 cnd (decide (n < 0))
 (bnd (s3_awake) fun y2 =>
 some y2)
 (cnd (decide (n > 4))
 (bnd (s3_awake) fun y4 =>
 some y4)
 (bnd (tmkv (0 : Int) (IntKind.wrap .i64 (8190 + n)) (IntKind.wrap .i64 (8190 + n))) fun y6 =>
 bnd (tloop (s3_TokenRoom_l1T y6) (0, y6)) fun b_19 =>
 cnd (Nat.ble (List.length y6) (List.length b_19))
 (bnd (some (bytesT (List.take (List.length y6) b_19))) fun y22 =>
 bnd (to_Read y22) fun y24 =>
 cnd (decide (n > 2))
 (cnd (y24.2 == 3)
 (cnd ((List.length y24.1 : Int) == 0)
 (bnd (s3_awake) fun y26 =>
 some y26)
 (some false))
 (some false))
 (cnd (y24.2 == 0)
 (cnd ((List.length y24.1 : Int) == 0)
 (bnd (s3_awake) fun y28 =>
 some y28)
 (some false))
 (some false)))
 (none)))
def s3_TokenRoom_ds : Decs := { decs := [(14, .bool), (26, (.ptx 0 17)), (29, .str), (30, (.tup [(.sl false), (.int .i64)])), (44, .bool)], ups := [], loops := [(5, [(17, 1)], ⟨[(.int .i64), (.rsl 0 17 1), (.int .i64), (.vec 1)], [], [(some 0, [(.int .i64), (.rsl 0 17 1), (.int .i64), (.vec 1)], [])]⟩)] }
set_option maxRecDepth 100000 in
theorem s3_TokenRoom_t1 (O : Orc) (LP : LBody → LBody) (n : Int) : evalBodyD Tryd.prog (MT 5) s3_TokenRoom_ds Tryd.f5.ntmps O LP Tryd.f5 [(.int .i64 n)] [] = s3_TokenRoom_T1 O LP n := by kernel_rfl
theorem s3_TokenRoom_l1_ok (n : Int) (y6 : List Int) : ∀ st l u, s3_TokenRoom_l1R n y6 st l u → Imp (s3_TokenRoom_l1T y6 st) (s3_TokenRoom_l1 O loopLim l u) (StepR (s3_TokenRoom_l1R n y6) (s3_TokenRoom_l1X n y6)) := by
 rintro ⟨i_12, b_13⟩ l u ⟨rfl, rfl⟩
 simp only [s3_TokenRoom_l1T, s3_TokenRoom_l1]
 refine Imp.chk rfl (Imp.chk rfl ?_)
 try simp only [evs, tys]
 refine Imp.cnd ?_ ?_
 ·refine Imp.op (f := fun a => .ptr 0 17 (a * 1)) (fun a h => op_ixR h) (fun a => rfl) fun y15 hy15 => ?_
  try simp only [evs, tys]
  refine Imp.opr (f := fun a => List.map (PV.int .u8) a) (fun a h => op_vput0 (enc := (PV.int .u8)) (by first | rfl | simp only [evs, tys, evl]) (by decide) (by simp) (by rfl) (fun z => by first | rfl | (simp only [evs, tys, evl, evc]; rfl)) h) fun y17 hy17 => ?_
  try simp only [evs, tys]
  exact Imp.some (StepR.next ⟨by first | rfl | simp only [evs, tys, evl], rfl⟩)
 ·exact Imp.some (StepR.brk ⟨i_12, by first | rfl | simp only [evs, tys, evl, elim_inl, elim_inr]⟩)
theorem s3_TokenRoom_imp (n : Int) : Imp (s3_TokenRoom_B n) (s3_TokenRoom_T1 O loopLim n) (fun r v => v = (s3_TokenRoomE r, [])) := by
 simp only [s3_TokenRoom_B, s3_TokenRoom_T1]
 try simp only [evs, tys]
 refine Imp.cnd ?_ ?_
 ·refine Imp.call (f := s3_awakeE) rfl (fun a h => by first | exact s3_awake_spec h | simpa only [evs, tys, evl] using s3_awake_spec h) (fun a => by first | rfl | simp only [s3_awakeE, evk, chks]) fun y2 hy2 => ?_
  try simp only [s3_awakeE, evs, tys]
  exact Imp.some (by first | rfl | simp only [s3_TokenRoomE, evs, tys, evl])
 ·refine Imp.cnd ?_ ?_
  ·refine Imp.call (f := s3_awakeE) rfl (fun a h => by first | exact s3_awake_spec h | simpa only [evs, tys, evl] using s3_awake_spec h) (fun a => by first | rfl | simp only [s3_awakeE, evk, chks]) fun y4 hy4 => ?_
   try simp only [s3_awakeE, evs, tys]
   exact Imp.some (by first | rfl | simp only [s3_TokenRoomE, evs, tys, evl])
  ·refine Imp.opr (f := fun a => List.map (PV.int .u8) a) (fun a h => op_mkv (enc := (PV.int .u8)) (by rfl) h) fun y6 hy6 => ?_
   try simp only [evs, tys]
   refine Imp.bnd (Imp.loop (s3_TokenRoom_l1_ok n y6) ⟨by first | rfl | simp only [evs, tys, evl], rfl⟩) ?_
   rintro b_19 vy20 hy20
   obtain ⟨i_18, rfl⟩ := hy20
   refine Imp.exHit rfl (Imp.chk rfl (Imp.chk rfl ?_))
   try simp only [evs, tys]
   refine Imp.cnd ?_ ?_
   ·refine Imp.op (f := fun a => .str a) (fun a h => op_toStr (by first | rfl | simp only [evs, tys, evl]) h) (fun a => rfl) fun y22 hy22 => ?_
    try simp only [evs, tys]
    refine Imp.call (f := to_ReadE) rfl (fun a h => by first | exact to_Read_spec h | simpa only [evs, tys, evl] using to_Read_spec h) (fun a => by first | rfl | simp only [to_ReadE, evk, chks]) fun y24 hy24 => ?_
    try simp only [to_ReadE, evs, tys]
    refine Imp.cnd ?_ ?_
    ·refine Imp.cnd ?_ ?_
     ·refine Imp.cnd ?_ ?_
      ·refine Imp.call (f := s3_awakeE) rfl (fun a h => by first | exact s3_awake_spec h | simpa only [evs, tys, evl] using s3_awake_spec h) (fun a => by first | rfl | simp only [s3_awakeE, evk, chks]) fun y26 hy26 => ?_
       try simp only [s3_awakeE, evs, tys]
       exact Imp.some (by first | rfl | simp only [s3_TokenRoomE, evs, tys, evl])
      ·exact Imp.some (by first | rfl | simp only [s3_TokenRoomE, evs, tys, evl])
     ·exact Imp.some (by first | rfl | simp only [s3_TokenRoomE, evs, tys, evl])
    ·refine Imp.cnd ?_ ?_
     ·refine Imp.cnd ?_ ?_
      ·refine Imp.call (f := s3_awakeE) rfl (fun a h => by first | exact s3_awake_spec h | simpa only [evs, tys, evl] using s3_awake_spec h) (fun a => by first | rfl | simp only [s3_awakeE, evk, chks]) fun y28 hy28 => ?_
       try simp only [s3_awakeE, evs, tys]
       exact Imp.some (by first | rfl | simp only [s3_TokenRoomE, evs, tys, evl])
      ·exact Imp.some (by first | rfl | simp only [s3_TokenRoomE, evs, tys, evl])
     ·exact Imp.some (by first | rfl | simp only [s3_TokenRoomE, evs, tys, evl])
   ·exact Imp.none
theorem s3_TokenRoom_run {n : Int} {r : Bool} (h : s3_TokenRoom_B n = some r) : s3_TokenRoom n = some r := by
 obtain ⟨v, hv, rfl⟩ := s3_TokenRoom_imp n r h
 exact tO_of (pair_inj s3_TokenRoomEj) (OL_runD s3_TokenRoom_ds rfl rfl Tryd.func5 ((s3_TokenRoom_t1 _ _ n).trans hv))
theorem s3_awake_run {r : Bool} (n : Nat) (h : evalK Tryd.prog MT XT n 11 [] [] = some (s3_awakeE r, [])) : s3_awake = some r := tO_of (pair_inj s3_awakeEj) (evalK_OL n h)
def to_Read_l1 (O : Orc) (LP : LBody → LBody) : LBody := fun s3 s3u => cnd (chkL [.str, (.sl true), (.int .i64), (.sl true), (.int .i64)] s3) (cnd (chkU [] s3u)
 (cnd (decide ((intV (gt s3 4)) < (List.length (strV (gt s3 0)) : Int)))
 (bnd (slcLo 0 (.str (strV (gt s3 0))) (.int .i64 (intV (gt s3 4)))) fun x16 => cnd (chk .str x16)
 (callp O 27 [(.str (strV x16))] fun x18 => cnd (chk (.int .i64) x18)
 (cnd (decide ((intV x18) > 0))
 (some (.nrm, [(.str (strV (gt s3 0))), (.slice (esV (gt s3 1)) [] true), (.int .i64 (intV (gt s3 2))), (.slice (esV (gt s3 3)) [] true), (.int .i64 (IntKind.wrap .i64 ((intV (gt s3 4)) + (intV x18))))], []))
 (bnd (slcLo 0 (.str (strV (gt s3 0))) (.int .i64 (intV (gt s3 4)))) fun x20 => cnd (chk .str x20)
 (callp O 28 [(.str (strV x20))] fun x22 => cnd (chk (.tup [shToken, (.int .i64)]) x22)
 (cnd ((intV (gt (tupV x22) 1)) == 0)
 (some (.ret, [(.str (strV (gt s3 0))), (.slice [] [] true), (.int .i64 2), (.slice (esV (gt s3 3)) [] true), (.int .i64 (intV (gt s3 4)))], []))
 (bnd (apd 2 (.slice (esV (gt s3 3)) [] true) (.slice [(.agg [(.int .i64 (intV (gt (aggV (gt (tupV x22) 0)) 0))), (.str (strV (gt (aggV (gt (tupV x22) 0)) 1)))])] [] true)) fun x24 => cnd (chk (.sl true) x24)
 (some (.nrm, [(.str (strV (gt s3 0))), (.slice (esV (gt s3 1)) [] true), (.int .i64 (intV (gt s3 2))), (.slice (esV x24) [] true), (.int .i64 (IntKind.wrap .i64 ((intV (gt s3 4)) + (intV (gt (tupV x22) 1)))))], [])) none)) none) none)) none) none)
 (some (.brk 1, [(.str (strV (gt s3 0))), (.slice (esV (gt s3 1)) [] true), (.int .i64 (intV (gt s3 2))), (.slice (esV (gt s3 3)) [] true), (.int .i64 (intV (gt s3 4)))], []))) none) none
def to_Read_T1 (O : Orc) (LP : LBody → LBody) (s : Str) : Option (PV × UP) :=
 cnd (decide ((List.length s : Int) > 8192))
 (some ((.tuple [(.slice [] [] false), (.int .i64 3)]), []))
 (callp O 18 [(.str s)] fun x1 => cnd (chk .bool x1)
 (cnd (!(boolV x1))
 (some ((.tuple [(.slice [] [] false), (.int .i64 2)]), []))
 (bnd (LP (to_Read_l1 O LP) [(.str s), (.slice [] [] true), (.int .i64 0), (.slice [] [] true), (.int .i64 0)] []) fun y30 =>
 exIs y30.1 (some 1) (cnd (chkL [.str, (.sl true), (.int .i64), (.sl true), (.int .i64)] y30.2.1) (cnd (chkU [] y30.2.2)
 (some ((.tuple [(.slice (esV (gt y30.2.1 3)) [] false), (.int .i64 0)]), [])) none) none)
 (exIs y30.1 none (cnd (chkL [.str, (.sl true), (.int .i64), (.sl true), (.int .i64)] y30.2.1) (cnd (chkU [] y30.2.2)
 (some ((.tuple [(.slice (esV (gt y30.2.1 1)) [] false), (.int .i64 (intV (gt y30.2.1 2)))]), [])) none) none)
 (none)))) none)
noncomputable def to_Read_l1T (s : Str) : (Int × (List GToken)) → Option ((Int × (List GToken)) ⊕ ((List GToken) ⊕ Unit))
 | (i_14, l_15) =>
 cnd (decide (i_14 < (List.length s : Int)))
  (bnd (tslc s i_14 (List.length s)) fun y17 =>
  bnd (to_gap y17) fun y19 =>
  cnd (decide (y19 > 0))
  (some (.inl ((IntKind.wrap .i64 (i_14 + y19)), l_15)))
  (bnd (tslc s i_14 (List.length s)) fun y21 =>
  bnd (to_one y21) fun y23 =>
  cnd (y23.2 == 0)
   (some (.inr (.inr ())))
   (bnd (tapp l_15 [y23.1]) fun y25 =>
   some (.inl ((IntKind.wrap .i64 (i_14 + y23.2)), y25)))))
  (some (.inr (.inl l_15)))
abbrev to_Read_l1R (s : Str) (st : Int × (List GToken)) (l : List PV) (u : UP) : Prop := l = [(.str s), (.slice [] [] true), (.int .i64 0), (.slice (List.map encToken st.2) [] true), (.int .i64 st.1)] ∧ u = []
abbrev to_Read_l1X (s : Str) (p : (List GToken) ⊕ Unit) (r : Ex × List PV × UP) : Prop := elim p (fun (p : (List GToken)) => ∃ (i_27 : Int), r = (Ex.brk 1, [(.str s), (.slice [] [] true), (.int .i64 0), (.slice (List.map encToken p) [] true), (.int .i64 i_27)], [])) (fun q2 => (fun (p : Unit) => ∃ (l_28 : List GToken), ∃ (i_29 : Int), r = (Ex.ret, [(.str s), (.slice [] [] true), (.int .i64 2), (.slice (List.map encToken l_28) [] true), (.int .i64 i_29)], [])) q2)
noncomputable def to_Read_B (s : Str) : Option ((List GToken) × Int) :=
 cnd (decide ((List.length s : Int) > 8192))
 (some (([] : List GToken), 3))
 (bnd (ls_Source s) fun y2 =>
 cnd (!y2)
 (some (([] : List GToken), 2))
 (bnd (tloop (to_Read_l1T s) (0, [])) fun e30_2 => elim e30_2
 (fun l_26 =>
 some (l_26, 0))
 (fun p30 =>
 some (([] : List GToken), 2))))
def to_Read_ds : Decs := { decs := [(15, .bool), (23, .str), (24, (.int .i64)), (33, .str), (34, (.tup [shToken, (.int .i64)])), (42, (.sl true))], ups := [], loops := [(7, [], ⟨[.str, (.sl true), (.int .i64), (.sl true), (.int .i64)], [], [(some 1, [.str, (.sl true), (.int .i64), (.sl true), (.int .i64)], []), (none, [.str, (.sl true), (.int .i64), (.sl true), (.int .i64)], [])]⟩)] }
set_option maxRecDepth 100000 in
theorem to_Read_t1 (O : Orc) (LP : LBody → LBody) (s : Str) : evalBodyD Tryd.prog (MT 12) to_Read_ds Tryd.f12.ntmps O LP Tryd.f12 [(.str s)] [] = to_Read_T1 O LP s := by kernel_rfl
theorem to_Read_l1_ok (s : Str) : ∀ st l u, to_Read_l1R s st l u → Imp (to_Read_l1T s st) (to_Read_l1 O loopLim l u) (StepR (to_Read_l1R s) (to_Read_l1X s)) := by
 rintro ⟨i_14, l_15⟩ l u ⟨rfl, rfl⟩
 simp only [to_Read_l1T, to_Read_l1]
 refine Imp.chk rfl (Imp.chk rfl ?_)
 try simp only [evs, tys]
 refine Imp.cnd ?_ ?_
 ·refine Imp.op (f := fun a => .str a) (fun a h => op_sslcLo h) (fun a => rfl) fun y17 hy17 => ?_
  try simp only [evs, tys]
  refine Imp.call (f := to_gapE) rfl (fun a h => by first | exact to_gap_spec h | simpa only [evs, tys, evl] using to_gap_spec h) (fun a => by first | rfl | simp only [to_gapE, evk, chks]) fun y19 hy19 => ?_
  try simp only [to_gapE, evs, tys]
  refine Imp.cnd ?_ ?_
  ·exact Imp.some (StepR.next ⟨by first | rfl | simp only [evs, tys, evl], rfl⟩)
  ·refine Imp.op (f := fun a => .str a) (fun a h => op_sslcLo h) (fun a => rfl) fun y21 hy21 => ?_
   try simp only [evs, tys]
   refine Imp.call (f := to_oneE) rfl (fun a h => by first | exact to_one_spec h | simpa only [evs, tys, evl] using to_one_spec h) (fun a => by first | rfl | simp only [to_oneE, evk, chks]) fun y23 hy23 => ?_
   try simp only [to_oneE, evs, tys]
   refine Imp.cnd ?_ ?_
   ·exact Imp.some (StepR.ret ⟨l_15, i_14, by first | rfl | simp only [evs, tys, evl, elim_inl, elim_inr]⟩)
   ·refine Imp.op (f := fun a => .slice (List.map encToken a) [] true) (fun a h => op_apd (enc := encToken) (by first | rfl | simp only [evs, tys, evl]) (by first | rfl | simp only [evs, tys, evl]) (fun a => by first | rfl | simp only [evs, tys, evc]) h) (fun a => rfl) fun y25 hy25 => ?_
    try simp only [evs, tys]
    exact Imp.some (StepR.next ⟨by first | rfl | simp only [evs, tys, evl], rfl⟩)
 ·exact Imp.some (StepR.brk ⟨i_14, by first | rfl | simp only [evs, tys, evl, elim_inl, elim_inr]⟩)
theorem to_Read_imp (s : Str) : Imp (to_Read_B s) (to_Read_T1 O loopLim s) (fun r v => v = (to_ReadE r, [])) := by
 simp only [to_Read_B, to_Read_T1]
 try simp only [evs, tys]
 refine Imp.cnd ?_ ?_
 ·exact Imp.some (by first | rfl | simp only [to_ReadE, evs, tys, evl])
 ·refine Imp.call (f := ls_SourceE) rfl (fun a h => by first | exact ls_Source_spec h | simpa only [evs, tys, evl] using ls_Source_spec h) (fun a => by first | rfl | simp only [ls_SourceE, evk, chks]) fun y2 hy2 => ?_
  try simp only [ls_SourceE, evs, tys]
  refine Imp.cnd ?_ ?_
  ·exact Imp.some (by first | rfl | simp only [to_ReadE, evs, tys, evl])
  ·refine Imp.bnd (Imp.loop (to_Read_l1_ok s) ⟨by first | rfl | simp only [evs, tys, evl], rfl⟩) ?_
   rintro (l_26 | p) vy30 hy30
   ·try simp only [elim_inl, elim_inr]
    obtain ⟨i_27, rfl⟩ := hy30
    refine Imp.exHit rfl (Imp.chk rfl (Imp.chk rfl ?_))
    try simp only [evs, tys]
    exact Imp.some (by first | rfl | simp only [to_ReadE, evs, tys, evl])
   ·try simp only [elim_inl, elim_inr]
    obtain ⟨l_28, i_29, rfl⟩ := hy30
    refine Imp.exMiss rfl ?_
    refine Imp.exHit rfl (Imp.chk rfl (Imp.chk rfl ?_))
    try simp only [evs, tys]
    exact Imp.some (by first | rfl | simp only [to_ReadE, evs, tys, evl])
theorem to_Read_run {s : Str} {r : (List GToken) × Int} (h : to_Read_B s = some r) : to_Read s = some r := by
 obtain ⟨v, hv, rfl⟩ := to_Read_imp s r h
 exact tO_of (pair_inj to_ReadEj) (OL_runD to_Read_ds rfl rfl Tryd.func12 ((to_Read_t1 _ _ s).trans hv))
def ls_Source_l1 (O : Orc) (LP : LBody → LBody) : LBody := fun s1 s1u => cnd (chkL [.str, .bool, (.int .i64)] s1) (cnd (chkU [] s1u)
 (cnd (decide ((intV (gt s1 2)) < (List.length (strV (gt s1 0)) : Int)))
 (callp O 35 [(.str (strV (gt s1 0))), (.int .i64 (intV (gt s1 2)))] fun x7 => cnd (chk (.tup [(.int .i64), (.int .i64)]) x7)
 (cnd (decide ((intV (gt (tupV x7) 1)) > 0))
 (callp O 36 [(.int .i64 (intV (gt (tupV x7) 0)))] fun x9 => cnd (chk .bool x9)
 (cnd (boolV x9)
 (some (.nrm, [(.str (strV (gt s1 0))), (.bool (boolV (gt s1 1))), (.int .i64 (IntKind.wrap .i64 ((intV (gt s1 2)) + (intV (gt (tupV x7) 1)))))], []))
 (some (.ret, [(.str (strV (gt s1 0))), (.bool false), (.int .i64 (intV (gt s1 2)))], []))) none)
 (some (.ret, [(.str (strV (gt s1 0))), (.bool false), (.int .i64 (intV (gt s1 2)))], []))) none)
 (some (.brk 0, [(.str (strV (gt s1 0))), (.bool (boolV (gt s1 1))), (.int .i64 (intV (gt s1 2)))], []))) none) none
def ls_Source_T1 (O : Orc) (LP : LBody → LBody) (s : Str) : Option (PV × UP) :=
 bnd (LP (ls_Source_l1 O LP) [(.str s), (.bool false), (.int .i64 0)] []) fun y13 =>
 exIs y13.1 (some 0) (cnd (chkL [.str, .bool, (.int .i64)] y13.2.1) (cnd (chkU [] y13.2.2)
 (some ((.bool true), [])) none) none)
 (exIs y13.1 none (cnd (chkL [.str, .bool, (.int .i64)] y13.2.1) (cnd (chkU [] y13.2.2)
 (some ((.bool (boolV (gt y13.2.1 1))), [])) none) none)
 (none))
noncomputable def ls_Source_l1T (s : Str) : Int → Option (Int ⊕ (Unit ⊕ Unit))
 | i_6 =>
 cnd (decide (i_6 < (List.length s : Int)))
  (bnd (ls_Code s i_6) fun y8 =>
  cnd (decide (y8.2 > 0))
  (bnd (ls_sign y8.1) fun y10 =>
  cnd y10
   (some (.inl (IntKind.wrap .i64 (i_6 + y8.2))))
   (some (.inr (.inr ()))))
  (some (.inr (.inr ()))))
  (some (.inr (.inl ())))
abbrev ls_Source_l1R (s : Str) (st : Int) (l : List PV) (u : UP) : Prop := l = [(.str s), (.bool false), (.int .i64 st)] ∧ u = []
abbrev ls_Source_l1X (s : Str) (p : Unit ⊕ Unit) (r : Ex × List PV × UP) : Prop := elim p (fun (p : Unit) => ∃ (i_11 : Int), r = (Ex.brk 0, [(.str s), (.bool false), (.int .i64 i_11)], [])) (fun q2 => (fun (p : Unit) => ∃ (i_12 : Int), r = (Ex.ret, [(.str s), (.bool false), (.int .i64 i_12)], [])) q2)
noncomputable def ls_Source_B (s : Str) : Option Bool :=
 bnd (tloop (ls_Source_l1T s) 0) fun e13_2 => elim e13_2
 (fun p13 =>
 some true)
 (fun p13 =>
 some false)
def ls_Source_ds : Decs := { decs := [(13, (.tup [(.int .i64), (.int .i64)])), (20, .bool)], ups := [], loops := [(2, [], ⟨[.str, .bool, (.int .i64)], [], [(some 0, [.str, .bool, (.int .i64)], []), (none, [.str, .bool, (.int .i64)], [])]⟩)] }
set_option maxRecDepth 100000 in
theorem ls_Source_t1 (O : Orc) (LP : LBody → LBody) (s : Str) : evalBodyD Tryd.prog (MT 18) ls_Source_ds Tryd.f18.ntmps O LP Tryd.f18 [(.str s)] [] = ls_Source_T1 O LP s := by kernel_rfl
theorem ls_Source_l1_ok (s : Str) : ∀ st l u, ls_Source_l1R s st l u → Imp (ls_Source_l1T s st) (ls_Source_l1 O loopLim l u) (StepR (ls_Source_l1R s) (ls_Source_l1X s)) := by
 rintro i_6 l u ⟨rfl, rfl⟩
 simp only [ls_Source_l1T, ls_Source_l1]
 refine Imp.chk rfl (Imp.chk rfl ?_)
 try simp only [evs, tys]
 refine Imp.cnd ?_ ?_
 ·refine Imp.call (f := ls_CodeE) rfl (fun a h => by first | exact ls_Code_spec h | simpa only [evs, tys, evl] using ls_Code_spec h) (fun a => by first | rfl | simp only [ls_CodeE, evk, chks]) fun y8 hy8 => ?_
  try simp only [ls_CodeE, evs, tys]
  refine Imp.cnd ?_ ?_
  ·refine Imp.call (f := ls_signE) rfl (fun a h => by first | exact ls_sign_spec h | simpa only [evs, tys, evl] using ls_sign_spec h) (fun a => by first | rfl | simp only [ls_signE, evk, chks]) fun y10 hy10 => ?_
   try simp only [ls_signE, evs, tys]
   refine Imp.cnd ?_ ?_
   ·exact Imp.some (StepR.next ⟨by first | rfl | simp only [evs, tys, evl], rfl⟩)
   ·exact Imp.some (StepR.ret ⟨i_6, by first | rfl | simp only [evs, tys, evl, elim_inl, elim_inr]⟩)
  ·exact Imp.some (StepR.ret ⟨i_6, by first | rfl | simp only [evs, tys, evl, elim_inl, elim_inr]⟩)
 ·exact Imp.some (StepR.brk ⟨i_6, by first | rfl | simp only [evs, tys, evl, elim_inl, elim_inr]⟩)
theorem ls_Source_imp (s : Str) : Imp (ls_Source_B s) (ls_Source_T1 O loopLim s) (fun r v => v = (ls_SourceE r, [])) := by
 simp only [ls_Source_B, ls_Source_T1]
 try simp only [evs, tys]
 refine Imp.bnd (Imp.loop (ls_Source_l1_ok s) ⟨by first | rfl | simp only [evs, tys, evl], rfl⟩) ?_
 rintro (p | p) vy13 hy13
 ·try simp only [elim_inl, elim_inr]
  obtain ⟨i_11, rfl⟩ := hy13
  refine Imp.exHit rfl (Imp.chk rfl (Imp.chk rfl ?_))
  try simp only [evs, tys]
  exact Imp.some (by first | rfl | simp only [ls_SourceE, evs, tys, evl])
 ·try simp only [elim_inl, elim_inr]
  obtain ⟨i_12, rfl⟩ := hy13
  refine Imp.exMiss rfl ?_
  refine Imp.exHit rfl (Imp.chk rfl (Imp.chk rfl ?_))
  try simp only [evs, tys]
  exact Imp.some (by first | rfl | simp only [ls_SourceE, evs, tys, evl])
theorem ls_Source_run {s : Str} {r : Bool} (h : ls_Source_B s = some r) : ls_Source s = some r := by
 obtain ⟨v, hv, rfl⟩ := ls_Source_imp s r h
 exact tO_of (pair_inj ls_SourceEj) (OL_runD ls_Source_ds rfl rfl Tryd.func18 ((ls_Source_t1 _ _ s).trans hv))
def to_gap_T1 (O : Orc) (LP : LBody → LBody) (s : Str) : Option (PV × UP) :=
 bnd (ixStr (.str s) (.int .i64 0)) fun x1 => cnd (chk (.int .u8) x1)
 (cnd ((intV x1) == 9)
 (some ((.int .i64 1), []))
 (cnd ((intV x1) == 10)
 (some ((.int .i64 1), []))
 (cnd ((intV x1) == 13)
 (some ((.int .i64 1), []))
 (cnd ((intV x1) == 32)
 (some ((.int .i64 1), []))
 (cnd ((intV x1) == 44)
 (some ((.int .i64 1), []))
 (callp O 49 [(.str s), (.str [239, 187, 191])] fun x3 => cnd (chk .bool x3)
 (cnd (boolV x3)
 (some ((.int .i64 3), []))
 (cnd ((intV x1) == 35)
 (callp O 50 [(.str s), (.str [13, 10])] fun x5 => cnd (chk (.int .i64) x5)
 (cnd (decide ((intV x5) ≥ 0))
 (some ((.int .i64 (intV x5)), []))
 (some ((.int .i64 (List.length s : Int)), []))) none)
 (some ((.int .i64 0), [])))) none)))))) none
noncomputable def to_gap_B (s : Str) : Option Int :=
 bnd (nthI s 0) fun y2 =>
 cnd ((y2.toNat : Int) == 9)
 (some 1)
 (cnd ((y2.toNat : Int) == 10)
 (some 1)
 (cnd ((y2.toNat : Int) == 13)
 (some 1)
 (cnd ((y2.toNat : Int) == 32)
 (some 1)
 (cnd ((y2.toNat : Int) == 44)
 (some 1)
 (bnd (st_HasPrefix s [239, 187, 191]) fun y4 =>
 cnd y4
 (some 3)
 (cnd ((y2.toNat : Int) == 35)
 (bnd (st_IndexAny s [13, 10]) fun y6 =>
 cnd (decide (y6 ≥ 0))
 (some y6)
 (some (List.length s : Int)))
 (some 0)))))))
def to_gap_ds : Decs := { decs := [(6, (.int .u8)), (28, .bool), (33, (.int .i64))], ups := [], loops := [] }
set_option maxRecDepth 100000 in
theorem to_gap_t1 (O : Orc) (LP : LBody → LBody) (s : Str) : evalBodyD Tryd.prog (MT 27) to_gap_ds Tryd.f27.ntmps O LP Tryd.f27 [(.str s)] [] = to_gap_T1 O LP s := by kernel_rfl
theorem to_gap_imp (s : Str) : Imp (to_gap_B s) (to_gap_T1 O loopLim s) (fun r v => v = (to_gapE r, [])) := by
 simp only [to_gap_B, to_gap_T1]
 try simp only [evs, tys]
 refine Imp.op (f := fun a => .int .u8 (a.toNat : Int)) (fun a h => op_ixStr h) (fun a => rfl) fun y2 hy2 => ?_
 try simp only [evs, tys]
 refine Imp.cnd ?_ ?_
 ·exact Imp.some (by first | rfl | simp only [to_gapE, evs, tys, evl])
 ·refine Imp.cnd ?_ ?_
  ·exact Imp.some (by first | rfl | simp only [to_gapE, evs, tys, evl])
  ·refine Imp.cnd ?_ ?_
   ·exact Imp.some (by first | rfl | simp only [to_gapE, evs, tys, evl])
   ·refine Imp.cnd ?_ ?_
    ·exact Imp.some (by first | rfl | simp only [to_gapE, evs, tys, evl])
    ·refine Imp.cnd ?_ ?_
     ·exact Imp.some (by first | rfl | simp only [to_gapE, evs, tys, evl])
     ·refine Imp.call (f := st_HasPrefixE) rfl (fun a h => by first | exact st_HasPrefix_spec h | simpa only [evs, tys, evl] using st_HasPrefix_spec h) (fun a => by first | rfl | simp only [st_HasPrefixE, evk, chks]) fun y4 hy4 => ?_
      try simp only [st_HasPrefixE, evs, tys]
      refine Imp.cnd ?_ ?_
      ·exact Imp.some (by first | rfl | simp only [to_gapE, evs, tys, evl])
      ·refine Imp.cnd ?_ ?_
       ·refine Imp.call (f := st_IndexAnyE) rfl (fun a h => by first | exact st_IndexAny_spec h | simpa only [evs, tys, evl] using st_IndexAny_spec h) (fun a => by first | rfl | simp only [st_IndexAnyE, evk, chks]) fun y6 hy6 => ?_
        try simp only [st_IndexAnyE, evs, tys]
        refine Imp.cnd ?_ ?_
        ·exact Imp.some (by first | rfl | simp only [to_gapE, evs, tys, evl])
        ·exact Imp.some (by first | rfl | simp only [to_gapE, evs, tys, evl])
       ·exact Imp.some (by first | rfl | simp only [to_gapE, evs, tys, evl])
theorem to_gap_run {s : Str} {r : Int} (h : to_gap_B s = some r) : to_gap s = some r := by
 obtain ⟨v, hv, rfl⟩ := to_gap_imp s r h
 exact tO_of (pair_inj to_gapEj) (OL_runD to_gap_ds rfl rfl Tryd.func27 ((to_gap_t1 _ _ s).trans hv))
def tf_i2_T1 (O : Orc) (LP : LBody → LBody) (u1_10 : List Int) (u1_100 : List Int) (u1_1000 : Bool) : Option (PV × UP) :=
 callp O 17 [(.slice (List.map (PV.int .i64) u1_100) [] false)] fun x1 => cnd (chk (.tup [.str, .bool]) x1)
 (bnd (apdStr (.slice (List.map (PV.int .u8) u1_10) [] true) (.str (strV (gt (tupV x1) 0)))) fun x3 => cnd (chk (.sl true) x3)
 (cnd u1_1000
 (some ((.tuple []), [[], [(10, [(.slice (esV x3) [] true), (.slice [] [] true), (.bool (boolV (gt (tupV x1) 1)))])]]))
 (some ((.tuple []), [[], [(10, [(.slice (esV x3) [] true), (.slice [] [] true), (.bool false)])]]))) none) none
noncomputable def tf_i2_B (u1_10 : List Int) (u1_100 : List Int) (u1_1000 : Bool) : Option GTokenSaid :=
 bnd (ls_Join u1_100) fun y2 =>
 bnd (tapp u1_10 (intsT y2.1)) fun y4 =>
 cnd u1_1000
 (some (GTokenSaid.mk y4 ([] : List Int) y2.2))
 (some (GTokenSaid.mk y4 ([] : List Int) false))
def tf_i2_ds : Decs := { decs := [(9, (.tup [.str, .bool])), (20, (.sl true))], ups := [], loops := [] }
set_option maxRecDepth 100000 in
theorem tf_i2_t1 (O : Orc) (LP : LBody → LBody) (u1_10 : List Int) (u1_100 : List Int) (u1_1000 : Bool) : evalBodyD Tryd.prog (MT 86) tf_i2_ds Tryd.f86.ntmps O LP Tryd.f86 [(.ptr 2 10 0)] [[], [(10, [(.slice (List.map (PV.int .u8) u1_10) [] true), (.slice (List.map (PV.int .i64) u1_100) [] true), (.bool u1_1000)])]] = tf_i2_T1 O LP u1_10 u1_100 u1_1000 := by kernel_rfl
theorem tf_i2_imp (u1_10 : List Int) (u1_100 : List Int) (u1_1000 : Bool) : Imp (tf_i2_B u1_10 u1_100 u1_1000) (tf_i2_T1 O loopLim u1_10 u1_100 u1_1000) (fun r v => v = (tf_i2E r, (tf_i2U u1_10 u1_100 u1_1000 r))) := by
 simp only [tf_i2_B, tf_i2_T1]
 try simp only [evs, tys]
 refine Imp.call (f := ls_JoinE) rfl (fun a h => by first | exact ls_Join_spec h | simpa only [evs, tys, evl] using ls_Join_spec h) (fun a => by first | rfl | simp only [ls_JoinE, evk, chks]) fun y2 hy2 => ?_
 try simp only [ls_JoinE, evs, tys]
 refine Imp.op (f := fun a => .slice (List.map (PV.int .u8) a) [] true) (fun a h => op_apdStr (by first | rfl | simp only [evs, tys, evl]) h) (fun a => rfl) fun y4 hy4 => ?_
 try simp only [evs, tys]
 refine Imp.cnd ?_ ?_
 ·exact Imp.some (by first | rfl | simp only [tf_i2E, tf_i2U, evs, tys, evl])
 ·exact Imp.some (by first | rfl | simp only [tf_i2E, tf_i2U, evs, tys, evl])
theorem tf_i2_run {u1_10 : List Int} {u1_100 : List Int} {u1_1000 : Bool} {r : GTokenSaid} (h : tf_i2_B u1_10 u1_100 u1_1000 = some r) : tf_i2 u1_10 u1_100 u1_1000 = some r := by
 obtain ⟨v, hv, rfl⟩ := tf_i2_imp u1_10 u1_100 u1_1000 r h
 exact tO_of (fun a b h => tf_i2Ej u1_10 u1_100 u1_1000 a b h) (OL_runD tf_i2_ds rfl rfl Tryd.func86 ((tf_i2_t1 _ _ u1_10 u1_100 u1_1000).trans hv))
def te_i1_T1 (O : Orc) (LP : LBody → LBody) (s : Str) (u0_10 : List Int) (u0_100 : List Int) (u0_1000 : Bool) : Option (PV × UP) :=
 callp O 49 [(.str s), (.str [117])] fun x1 => cnd (chk .bool x1)
 (cnd (boolV x1)
 (bnd (slcLo 0 (.str s) (.int .i64 1)) fun x3 => cnd (chk .str x3)
 (callp O 100 [(.str (strV x3))] fun x5 => cnd (chk (.tup [(.int .i64), .bool]) x5)
 (cnd (!(boolV (gt (tupV x5) 1)))
 (some ((.int .i64 0), [[(10, [(.slice (List.map (PV.int .u8) u0_10) [] true), (.slice (List.map (PV.int .i64) u0_100) [] true), (.bool u0_1000)])]]))
 (bnd (apd 1 (.slice (List.map (PV.int .i64) u0_100) [] true) (.slice [(.int .i64 (intV (gt (tupV x5) 0)))] [] true)) fun x7 => cnd (chk (.sl true) x7)
 (some ((.int .i64 5), [[(10, [(.slice (List.map (PV.int .u8) u0_10) [] true), (.slice (esV x7) [] true), (.bool u0_1000)])]])) none)) none) none)
 (cnd (s == ([] : Str))
 (some ((.int .i64 0), [[(10, [(.slice (List.map (PV.int .u8) u0_10) [] true), (.slice (List.map (PV.int .i64) u0_100) [] true), (.bool u0_1000)])]]))
 (bnd (ixStr (.str s) (.int .i64 0)) fun x9 => cnd (chk (.int .u8) x9)
 (callp O 54 [(.str [34, 92, 47, 98, 102, 110, 114, 116]), (.int .u8 (intV x9))] fun x11 => cnd (chk (.int .i64) x11)
 (cnd (decide ((intV x11) < 0))
 (some ((.int .i64 0), [[(10, [(.slice (List.map (PV.int .u8) u0_10) [] true), (.slice (List.map (PV.int .i64) u0_100) [] true), (.bool u0_1000)])]]))
 (bnd (O 86 [(.ptr 2 10 0)] [[], [(10, [(.slice (List.map (PV.int .u8) u0_10) [] true), (.slice (List.map (PV.int .i64) u0_100) [] true), (.bool u0_1000)])]]) fun x13 => cnd (chkU [[], [(10, [(.sl true), (.sl true), .bool])]] x13.2) (cnd (chk (.tup []) x13.1)
 (bnd (ixStr (.str [34, 92, 47, 8, 12, 10, 13, 9]) (.int .i64 (intV x11))) fun x15 => cnd (chk (.int .u8) x15)
 (bnd (apd 1 (.slice (esV (gt (boxI (frI x13.2 1) 0) 0)) [] true) (.slice [(.int .u8 (intV x15))] [] true)) fun x17 => cnd (chk (.sl true) x17)
 (some ((.int .i64 1), [[(10, [(.slice (esV x17) [] true), (.slice (esV (gt (boxI (frI x13.2 1) 0) 1)) [] true), (.bool (boolV (gt (boxI (frI x13.2 1) 0) 2)))])]])) none) none) none) none)) none) none))) none
noncomputable def te_i1_B (s : Str) (u0_10 : List Int) (u0_100 : List Int) (u0_1000 : Bool) : Option (Int × GTokenSaid) :=
 bnd (st_HasPrefix s [117]) fun y2 =>
 cnd y2
 (bnd (tslc s 1 (List.length s)) fun y4 =>
 bnd (to_Unit y4) fun y6 =>
 cnd (!y6.2)
 (some (0, (GTokenSaid.mk u0_10 u0_100 u0_1000)))
 (bnd (tapp u0_100 [y6.1]) fun y8 =>
 some (5, (GTokenSaid.mk u0_10 y8 u0_1000))))
 (cnd (s == ([] : Str))
 (some (0, (GTokenSaid.mk u0_10 u0_100 u0_1000)))
 (bnd (nthI s 0) fun y10 =>
 bnd (st_IndexByte [34, 92, 47, 98, 102, 110, 114, 116] (y10.toNat : Int)) fun y12 =>
 cnd (decide (y12 < 0))
 (some (0, (GTokenSaid.mk u0_10 u0_100 u0_1000)))
 (bnd (tf_i2 u0_10 u0_100 u0_1000) fun y14 =>
 bnd (nthI ([34, 92, 47, 8, 12, 10, 13, 9] : Str) y12) fun y16 =>
 bnd (tapp y14.b [(y16.toNat : Int)]) fun y18 =>
 some (1, (GTokenSaid.mk y18 y14.units y14.ok)))))
def te_i1_ds : Decs := { decs := [(9, .bool), (12, .str), (13, (.tup [(.int .i64), .bool])), (25, (.sl true)), (31, (.int .u8)), (32, (.int .i64)), (36, (.tup [])), (43, (.int .u8)), (45, (.sl true))], ups := [(36, [[], [(10, [(.sl true), (.sl true), .bool])]])], loops := [] }
set_option maxRecDepth 100000 in
theorem te_i1_t1 (O : Orc) (LP : LBody → LBody) (s : Str) (u0_10 : List Int) (u0_100 : List Int) (u0_1000 : Bool) : evalBodyD Tryd.prog (MT 85) te_i1_ds Tryd.f85.ntmps O LP Tryd.f85 [(.ptr 1 10 0), (.str s)] [[(10, [(.slice (List.map (PV.int .u8) u0_10) [] true), (.slice (List.map (PV.int .i64) u0_100) [] true), (.bool u0_1000)])]] = te_i1_T1 O LP s u0_10 u0_100 u0_1000 := by kernel_rfl
theorem te_i1_imp (s : Str) (u0_10 : List Int) (u0_100 : List Int) (u0_1000 : Bool) : Imp (te_i1_B s u0_10 u0_100 u0_1000) (te_i1_T1 O loopLim s u0_10 u0_100 u0_1000) (fun r v => v = (te_i1E r, (te_i1U s u0_10 u0_100 u0_1000 r))) := by
 simp only [te_i1_B, te_i1_T1]
 try simp only [evs, tys]
 refine Imp.call (f := st_HasPrefixE) rfl (fun a h => by first | exact st_HasPrefix_spec h | simpa only [evs, tys, evl] using st_HasPrefix_spec h) (fun a => by first | rfl | simp only [st_HasPrefixE, evk, chks]) fun y2 hy2 => ?_
 try simp only [st_HasPrefixE, evs, tys]
 refine Imp.cnd ?_ ?_
 ·refine Imp.op (f := fun a => .str a) (fun a h => op_sslcLo h) (fun a => rfl) fun y4 hy4 => ?_
  try simp only [evs, tys]
  refine Imp.call (f := to_UnitE) rfl (fun a h => by first | exact to_Unit_spec h | simpa only [evs, tys, evl] using to_Unit_spec h) (fun a => by first | rfl | simp only [to_UnitE, evk, chks]) fun y6 hy6 => ?_
  try simp only [to_UnitE, evs, tys]
  refine Imp.cnd ?_ ?_
  ·exact Imp.some (by first | rfl | simp only [te_i1E, te_i1U, evs, tys, evl])
  ·refine Imp.op (f := fun a => .slice (List.map (PV.int .i64) a) [] true) (fun a h => op_apd (enc := (PV.int .i64)) (by first | rfl | simp only [evs, tys, evl]) (by first | rfl | simp only [evs, tys, evl]) (fun a => by first | rfl | simp only [evs, tys, evc]) h) (fun a => rfl) fun y8 hy8 => ?_
   try simp only [evs, tys]
   exact Imp.some (by first | rfl | simp only [te_i1E, te_i1U, evs, tys, evl])
 ·refine Imp.cnd ?_ ?_
  ·exact Imp.some (by first | rfl | simp only [te_i1E, te_i1U, evs, tys, evl])
  ·refine Imp.op (f := fun a => .int .u8 (a.toNat : Int)) (fun a h => op_ixStr h) (fun a => rfl) fun y10 hy10 => ?_
   try simp only [evs, tys]
   refine Imp.call (f := st_IndexByteE) rfl (fun a h => by first | exact st_IndexByte_spec h | simpa only [evs, tys, evl] using st_IndexByte_spec h) (fun a => by first | rfl | simp only [st_IndexByteE, evk, chks]) fun y12 hy12 => ?_
   try simp only [st_IndexByteE, evs, tys]
   refine Imp.cnd ?_ ?_
   ·exact Imp.some (by first | rfl | simp only [te_i1E, te_i1U, evs, tys, evl])
   ·refine Imp.gcall (f := tf_i2E) (fu := fun a => tf_i2U u0_10 u0_100 u0_1000 a) (fun a h => by first | exact tf_i2_spec h | (have h' := tf_i2_spec h; simp only [evs, tys, evl, tf_i2U] at h'; exact h')) (fun a => by first | rfl | simp only [tf_i2E, evk, chks]) (fun a => by first | rfl | (simp only [tf_i2U, evs, tys]; rfl)) fun y14 hy14 => ?_
    try simp only [tf_i2E, tf_i2U, evs, tys]
    refine Imp.op (f := fun a => .int .u8 (a.toNat : Int)) (fun a h => op_ixStr h) (fun a => rfl) fun y16 hy16 => ?_
    try simp only [evs, tys]
    refine Imp.op (f := fun a => .slice (List.map (PV.int .u8) a) [] true) (fun a h => op_apd (enc := (PV.int .u8)) (by first | rfl | simp only [evs, tys, evl]) (by first | rfl | simp only [evs, tys, evl]) (fun a => by first | rfl | simp only [evs, tys, evc]) h) (fun a => rfl) fun y18 hy18 => ?_
    try simp only [evs, tys]
    exact Imp.some (by first | rfl | simp only [te_i1E, te_i1U, evs, tys, evl])
theorem te_i1_run {s : Str} {u0_10 : List Int} {u0_100 : List Int} {u0_1000 : Bool} {r : Int × GTokenSaid} (h : te_i1_B s u0_10 u0_100 u0_1000 = some r) : te_i1 s u0_10 u0_100 u0_1000 = some r := by
 obtain ⟨v, hv, rfl⟩ := te_i1_imp s u0_10 u0_100 u0_1000 r h
 exact tO_of (fun a b h => te_i1Ej s u0_10 u0_100 u0_1000 a b h) (OL_runD te_i1_ds rfl rfl Tryd.func85 ((te_i1_t1 _ _ s u0_10 u0_100 u0_1000).trans hv))
open Go Go.Ev Go.Ev.PV
def tf_i3_T1 (O : Orc) (LP : LBody → LBody) (u0_10 : List Int) (u0_100 : List Int) (u0_1000 : Bool) : Option (PV × UP) :=
 callp O 17 [(.slice (List.map (PV.int .i64) u0_100) [] false)] fun x1 => cnd (chk (.tup [.str, .bool]) x1)
 (bnd (apdStr (.slice (List.map (PV.int .u8) u0_10) [] true) (.str (strV (gt (tupV x1) 0)))) fun x3 => cnd (chk (.sl true) x3)
 (cnd u0_1000
 (some ((.tuple []), [[(10, [(.slice (esV x3) [] true), (.slice [] [] true), (.bool (boolV (gt (tupV x1) 1)))])]]))
 (some ((.tuple []), [[(10, [(.slice (esV x3) [] true), (.slice [] [] true), (.bool false)])]]))) none) none
noncomputable def tf_i3_B (u0_10 : List Int) (u0_100 : List Int) (u0_1000 : Bool) : Option GTokenSaid :=
 bnd (ls_Join u0_100) fun y2 =>
 bnd (tapp u0_10 (intsT y2.1)) fun y4 =>
 cnd u0_1000
 (some (GTokenSaid.mk y4 ([] : List Int) y2.2))
 (some (GTokenSaid.mk y4 ([] : List Int) false))
def tf_i3_ds : Decs := { decs := [(9, (.tup [.str, .bool])), (20, (.sl true))], ups := [], loops := [] }
set_option maxRecDepth 100000 in
theorem tf_i3_t1 (O : Orc) (LP : LBody → LBody) (u0_10 : List Int) (u0_100 : List Int) (u0_1000 : Bool) : evalBodyD Tryd.prog (MT 86) tf_i3_ds Tryd.f86.ntmps O LP Tryd.f86 [(.ptr 1 10 0)] [[(10, [(.slice (List.map (PV.int .u8) u0_10) [] true), (.slice (List.map (PV.int .i64) u0_100) [] true), (.bool u0_1000)])]] = tf_i3_T1 O LP u0_10 u0_100 u0_1000 := by kernel_rfl
theorem tf_i3_imp (u0_10 : List Int) (u0_100 : List Int) (u0_1000 : Bool) : Imp (tf_i3_B u0_10 u0_100 u0_1000) (tf_i3_T1 O loopLim u0_10 u0_100 u0_1000) (fun r v => v = (tf_i3E r, (tf_i3U u0_10 u0_100 u0_1000 r))) := by
 simp only [tf_i3_B, tf_i3_T1]
 try simp only [evs, tys]
 refine Imp.call (f := ls_JoinE) rfl (fun a h => by first | exact ls_Join_spec h | simpa only [evs, tys, evl] using ls_Join_spec h) (fun a => by first | rfl | simp only [ls_JoinE, evk, chks]) fun y2 hy2 => ?_
 try simp only [ls_JoinE, evs, tys]
 refine Imp.op (f := fun a => .slice (List.map (PV.int .u8) a) [] true) (fun a h => op_apdStr (by first | rfl | simp only [evs, tys, evl]) h) (fun a => rfl) fun y4 hy4 => ?_
 try simp only [evs, tys]
 refine Imp.cnd ?_ ?_
 ·exact Imp.some (by first | rfl | simp only [tf_i3E, tf_i3U, evs, tys, evl])
 ·exact Imp.some (by first | rfl | simp only [tf_i3E, tf_i3U, evs, tys, evl])
theorem tf_i3_run {u0_10 : List Int} {u0_100 : List Int} {u0_1000 : Bool} {r : GTokenSaid} (h : tf_i3_B u0_10 u0_100 u0_1000 = some r) : tf_i3 u0_10 u0_100 u0_1000 = some r := by
 obtain ⟨v, hv, rfl⟩ := tf_i3_imp u0_10 u0_100 u0_1000 r h
 exact tO_of (fun a b h => tf_i3Ej u0_10 u0_100 u0_1000 a b h) (OL_runD tf_i3_ds rfl rfl Tryd.func86 ((tf_i3_t1 _ _ u0_10 u0_100 u0_1000).trans hv))
def to_Quoted_l1 (O : Orc) (LP : LBody → LBody) : LBody := fun s1 s1u => cnd (chkL [.str, (.func 53 [] []), .str, (.int .i64), (.ptr 0 10 0), (.int .i64), (.sl true), (.sl true), .bool] s1) (cnd (chkU [] s1u)
 (cnd (decide ((intV (gt s1 5)) ≥ (List.length (strV (gt s1 0)) : Int)))
 (some (.ret, [(.str (strV (gt s1 0))), (.func (.func 53) [] []), (.str []), (.int .i64 0), (.ptr 0 10 0), (.int .i64 (intV (gt s1 5))), (.slice (esV (gt s1 6)) [] true), (.slice (esV (gt s1 7)) [] true), (.bool (boolV (gt s1 8)))], []))
 (bnd (ixStr (.str (strV (gt s1 0))) (.int .i64 (intV (gt s1 5)))) fun x24 => cnd (chk (.int .u8) x24)
 (cnd ((intV x24) == 34)
 (some (.brk 0, [(.str (strV (gt s1 0))), (.func (.func 53) [] []), (.str (strV (gt s1 2))), (.int .i64 (intV (gt s1 3))), (.ptr 0 10 0), (.int .i64 (intV (gt s1 5))), (.slice (esV (gt s1 6)) [] true), (.slice (esV (gt s1 7)) [] true), (.bool (boolV (gt s1 8)))], []))
 (bnd (ixStr (.str (strV (gt s1 0))) (.int .i64 (intV (gt s1 5)))) fun x26 => cnd (chk (.int .u8) x26)
 (cnd ((intV x26) == 92)
 (bnd (slcLo 0 (.str (strV (gt s1 0))) (.int .i64 (IntKind.wrap .i64 ((intV (gt s1 5)) + 1)))) fun x28 => cnd (chk .str x28)
 (bnd (O 85 [(.ptr 1 10 0), (.str (strV x28))] [[(10, [(.slice (esV (gt s1 6)) [] true), (.slice (esV (gt s1 7)) [] true), (.bool (boolV (gt s1 8)))])]]) fun x30 => cnd (chkU [[(10, [(.sl true), (.sl true), .bool])]] x30.2) (cnd (chk (.int .i64) x30.1)
 (cnd ((intV x30.1) == 0)
 (some (.ret, [(.str (strV (gt s1 0))), (.func (.func 53) [] []), (.str []), (.int .i64 0), (.ptr 0 10 0), (.int .i64 (intV (gt s1 5))), (.slice (esV (gt (boxI (frI x30.2 0) 0) 0)) [] true), (.slice (esV (gt (boxI (frI x30.2 0) 0) 1)) [] true), (.bool (boolV (gt (boxI (frI x30.2 0) 0) 2)))], []))
 (some (.nrm, [(.str (strV (gt s1 0))), (.func (.func 53) [] []), (.str (strV (gt s1 2))), (.int .i64 (intV (gt s1 3))), (.ptr 0 10 0), (.int .i64 (IntKind.wrap .i64 ((intV (gt s1 5)) + (IntKind.wrap .i64 (1 + (intV x30.1)))))), (.slice (esV (gt (boxI (frI x30.2 0) 0) 0)) [] true), (.slice (esV (gt (boxI (frI x30.2 0) 0) 1)) [] true), (.bool (boolV (gt (boxI (frI x30.2 0) 0) 2)))], []))) none) none) none)
 (bnd (ixStr (.str (strV (gt s1 0))) (.int .i64 (intV (gt s1 5)))) fun x32 => cnd (chk (.int .u8) x32)
 (callp O 53 [(.int .u8 (intV x32))] fun x34 => cnd (chk .bool x34)
 (cnd (!(boolV x34))
 (some (.ret, [(.str (strV (gt s1 0))), (.func (.func 53) [] []), (.str []), (.int .i64 0), (.ptr 0 10 0), (.int .i64 (intV (gt s1 5))), (.slice (esV (gt s1 6)) [] true), (.slice (esV (gt s1 7)) [] true), (.bool (boolV (gt s1 8)))], []))
 (bnd (O 86 [(.ptr 1 10 0)] [[(10, [(.slice (esV (gt s1 6)) [] true), (.slice (esV (gt s1 7)) [] true), (.bool (boolV (gt s1 8)))])]]) fun x36 => cnd (chkU [[(10, [(.sl true), (.sl true), .bool])]] x36.2) (cnd (chk (.tup []) x36.1)
 (bnd (ixStr (.str (strV (gt s1 0))) (.int .i64 (intV (gt s1 5)))) fun x38 => cnd (chk (.int .u8) x38)
 (bnd (apd 1 (.slice (esV (gt (boxI (frI x36.2 0) 0) 0)) [] true) (.slice [(.int .u8 (intV x38))] [] true)) fun x40 => cnd (chk (.sl true) x40)
 (some (.nrm, [(.str (strV (gt s1 0))), (.func (.func 53) [] []), (.str (strV (gt s1 2))), (.int .i64 (intV (gt s1 3))), (.ptr 0 10 0), (.int .i64 (IntKind.wrap .i64 ((intV (gt s1 5)) + 1))), (.slice (esV x40) [] true), (.slice (esV (gt (boxI (frI x36.2 0) 0) 1)) [] true), (.bool (boolV (gt (boxI (frI x36.2 0) 0) 2)))], [])) none) none) none) none)) none) none)) none)) none)) none) none
def to_Quoted_T1 (O : Orc) (LP : LBody → LBody) (s : Str) : Option (PV × UP) :=
 bnd (LP (to_Quoted_l1 O LP) [(.str s), (.func (.func 53) [] []), (.str []), (.int .i64 0), (.ptr 0 10 0), (.int .i64 1), (.slice [] [] true), (.slice [] [] true), (.bool true)] []) fun y50 =>
 exIs y50.1 none (cnd (chkL [.str, (.func 53 [] []), .str, (.int .i64), (.ptr 0 10 0), (.int .i64), (.sl true), (.sl true), .bool] y50.2.1) (cnd (chkU [] y50.2.2)
 (some ((.tuple [(.str (strV (gt y50.2.1 2))), (.int .i64 (intV (gt y50.2.1 3)))]), [])) none) none)
 (exIs y50.1 (some 0) (cnd (chkL [.str, (.func 53 [] []), .str, (.int .i64), (.ptr 0 10 0), (.int .i64), (.sl true), (.sl true), .bool] y50.2.1) (cnd (chkU [] y50.2.2)
 (bnd (O 86 [(.ptr 1 10 0)] [[(10, [(.slice (esV (gt y50.2.1 6)) [] true), (.slice (esV (gt y50.2.1 7)) [] true), (.bool (boolV (gt y50.2.1 8)))])]]) fun x51 => cnd (chkU [[(10, [(.sl true), (.sl true), .bool])]] x51.2) (cnd (chk (.tup []) x51.1)
 (cnd (!(boolV (gt (boxI (frI x51.2 0) 0) 2)))
 (some ((.tuple [(.str []), (.int .i64 0)]), []))
 (bnd (toStr (.slice (esV (gt (boxI (frI x51.2 0) 0) 0)) [] false)) fun x53 => cnd (chk .str x53)
 (some ((.tuple [(.str (strV x53)), (.int .i64 (IntKind.wrap .i64 ((intV (gt y50.2.1 5)) + 1)))]), [])) none)) none) none) none) none)
 (none))
noncomputable def to_Quoted_l1T (s : Str) : (Int × (List Int) × (List Int) × Bool) → Option ((Int × (List Int) × (List Int) × Bool) ⊕ (Unit ⊕ (Int × (List Int) × (List Int) × Bool)))
 | (i_20, b_21, b_22, b_23) =>
 cnd (decide (i_20 ≥ (List.length s : Int)))
  (some (.inr (.inl ())))
  (bnd (nthI s i_20) fun y25 =>
  cnd ((y25.toNat : Int) == 34)
  (some (.inr (.inr (i_20, b_21, b_22, b_23))))
  (bnd (nthI s i_20) fun y27 =>
  cnd ((y27.toNat : Int) == 92)
   (bnd (tslc s (IntKind.wrap .i64 (i_20 + 1)) (List.length s)) fun y29 =>
   bnd (te_i1 y29 b_21 b_22 b_23) fun y31 =>
   cnd (y31.1 == 0)
   (some (.inr (.inl ())))
   (some (.inl ((IntKind.wrap .i64 (i_20 + (IntKind.wrap .i64 (1 + y31.1)))), y31.2.b, y31.2.units, y31.2.ok))))
   (bnd (nthI s i_20) fun y33 =>
   bnd (to_plain (y33.toNat : Int)) fun y35 =>
   cnd (!y35)
   (some (.inr (.inl ())))
   (bnd (tf_i3 b_21 b_22 b_23) fun y37 =>
   bnd (nthI s i_20) fun y39 =>
   bnd (tapp y37.b [(y39.toNat : Int)]) fun y41 =>
   some (.inl ((IntKind.wrap .i64 (i_20 + 1)), y41, y37.units, y37.ok))))))
abbrev to_Quoted_l1R (s : Str) (st : Int × (List Int) × (List Int) × Bool) (l : List PV) (u : UP) : Prop := l = [(.str s), (.func (.func 53) [] []), (.str []), (.int .i64 0), (.ptr 0 10 0), (.int .i64 st.1), (.slice (List.map (PV.int .u8) st.2.1) [] true), (.slice (List.map (PV.int .i64) st.2.2.1) [] true), (.bool st.2.2.2)] ∧ u = []
abbrev to_Quoted_l1X (s : Str) (p : Unit ⊕ (Int × (List Int) × (List Int) × Bool)) (r : Ex × List PV × UP) : Prop := elim p (fun (p : Unit) => ∃ (i_42 : Int), ∃ (b_43 : List Int), ∃ (b_44 : List Int), ∃ (b_45 : Bool), r = (Ex.ret, [(.str s), (.func (.func 53) [] []), (.str []), (.int .i64 0), (.ptr 0 10 0), (.int .i64 i_42), (.slice (List.map (PV.int .u8) b_43) [] true), (.slice (List.map (PV.int .i64) b_44) [] true), (.bool b_45)], [])) (fun q2 => (fun (p : Int × (List Int) × (List Int) × Bool) => r = (Ex.brk 0, [(.str s), (.func (.func 53) [] []), (.str []), (.int .i64 0), (.ptr 0 10 0), (.int .i64 p.1), (.slice (List.map (PV.int .u8) p.2.1) [] true), (.slice (List.map (PV.int .i64) p.2.2.1) [] true), (.bool p.2.2.2)], [])) q2)
noncomputable def to_Quoted_B (s : Str) : Option (Str × Int) :=
 bnd (tloop (to_Quoted_l1T s) (1, [], [], true)) fun e50_2 => elim e50_2
 (fun p50 =>
 some ([], 0))
 (fun p50 =>
 bnd (tf_i3 p50.2.1 p50.2.2.1 p50.2.2.2) fun y52 =>
 cnd (!y52.ok)
 (some ([], 0))
 (bnd (some (bytesT y52.b)) fun y54 =>
 some (y54, (IntKind.wrap .i64 (p50.1 + 1)))))
def to_Quoted_ds : Decs := { decs := [(19, (.int .u8)), (24, (.int .u8)), (30, .str), (31, (.int .i64)), (42, (.int .u8)), (43, .bool), (46, (.tup [])), (54, (.int .u8)), (56, (.sl true)), (62, (.tup [])), (72, .str)], ups := [(31, [[(10, [(.sl true), (.sl true), .bool])]]), (46, [[(10, [(.sl true), (.sl true), .bool])]]), (62, [[(10, [(.sl true), (.sl true), .bool])]])], loops := [(3, [(10, 3)], ⟨[.str, (.func 53 [] []), .str, (.int .i64), (.ptr 0 10 0), (.int .i64), (.sl true), (.sl true), .bool], [], [(none, [.str, (.func 53 [] []), .str, (.int .i64), (.ptr 0 10 0), (.int .i64), (.sl true), (.sl true), .bool], []), (some 0, [.str, (.func 53 [] []), .str, (.int .i64), (.ptr 0 10 0), (.int .i64), (.sl true), (.sl true), .bool], [])]⟩)] }
set_option maxRecDepth 100000 in
theorem to_Quoted_t1 (O : Orc) (LP : LBody → LBody) (s : Str) : evalBodyD Tryd.prog (MT 52) to_Quoted_ds Tryd.f52.ntmps O LP Tryd.f52 [(.str s), (.func (.func 53) [] [])] [] = to_Quoted_T1 O LP s := by kernel_rfl
theorem to_Quoted_l1_ok (s : Str) : ∀ st l u, to_Quoted_l1R s st l u → Imp (to_Quoted_l1T s st) (to_Quoted_l1 O loopLim l u) (StepR (to_Quoted_l1R s) (to_Quoted_l1X s)) := by
 rintro ⟨i_20, b_21, b_22, b_23⟩ l u ⟨rfl, rfl⟩
 simp only [to_Quoted_l1T, to_Quoted_l1]
 refine Imp.chk rfl (Imp.chk rfl ?_)
 try simp only [evs, tys]
 refine Imp.cnd ?_ ?_
 ·exact Imp.some (StepR.ret ⟨i_20, b_21, b_22, b_23, by first | rfl | simp only [evs, tys, evl, elim_inl, elim_inr]⟩)
 ·refine Imp.op (f := fun a => .int .u8 (a.toNat : Int)) (fun a h => op_ixStr h) (fun a => rfl) fun y25 hy25 => ?_
  try simp only [evs, tys]
  refine Imp.cnd ?_ ?_
  ·exact Imp.some (StepR.brk (by first | rfl | simp only [evs, tys, evl, elim_inl, elim_inr]))
  ·refine Imp.op (f := fun a => .int .u8 (a.toNat : Int)) (fun a h => op_ixStr h) (fun a => rfl) fun y27 hy27 => ?_
   try simp only [evs, tys]
   refine Imp.cnd ?_ ?_
   ·refine Imp.op (f := fun a => .str a) (fun a h => op_sslcLo h) (fun a => rfl) fun y29 hy29 => ?_
    try simp only [evs, tys]
    refine Imp.gcall (f := te_i1E) (fu := fun a => te_i1U y29 b_21 b_22 b_23 a) (fun a h => by first | exact te_i1_spec h | (have h' := te_i1_spec h; simp only [evs, tys, evl, te_i1U] at h'; exact h')) (fun a => by first | rfl | simp only [te_i1E, evk, chks]) (fun a => by first | rfl | (simp only [te_i1U, evs, tys]; rfl)) fun y31 hy31 => ?_
    try simp only [te_i1E, te_i1U, evs, tys]
    refine Imp.cnd ?_ ?_
    ·exact Imp.some (StepR.ret ⟨i_20, y31.2.b, y31.2.units, y31.2.ok, by first | rfl | simp only [evs, tys, evl, elim_inl, elim_inr]⟩)
    ·exact Imp.some (StepR.next ⟨by first | rfl | simp only [evs, tys, evl], rfl⟩)
   ·refine Imp.op (f := fun a => .int .u8 (a.toNat : Int)) (fun a h => op_ixStr h) (fun a => rfl) fun y33 hy33 => ?_
    try simp only [evs, tys]
    refine Imp.call (f := to_plainE) rfl (fun a h => by first | exact to_plain_spec h | simpa only [evs, tys, evl] using to_plain_spec h) (fun a => by first | rfl | simp only [to_plainE, evk, chks]) fun y35 hy35 => ?_
    try simp only [to_plainE, evs, tys]
    refine Imp.cnd ?_ ?_
    ·exact Imp.some (StepR.ret ⟨i_20, b_21, b_22, b_23, by first | rfl | simp only [evs, tys, evl, elim_inl, elim_inr]⟩)
    ·refine Imp.gcall (f := tf_i3E) (fu := fun a => tf_i3U b_21 b_22 b_23 a) (fun a h => by first | exact tf_i3_spec h | (have h' := tf_i3_spec h; simp only [evs, tys, evl, tf_i3U] at h'; exact h')) (fun a => by first | rfl | simp only [tf_i3E, evk, chks]) (fun a => by first | rfl | (simp only [tf_i3U, evs, tys]; rfl)) fun y37 hy37 => ?_
     try simp only [tf_i3E, tf_i3U, evs, tys]
     refine Imp.op (f := fun a => .int .u8 (a.toNat : Int)) (fun a h => op_ixStr h) (fun a => rfl) fun y39 hy39 => ?_
     try simp only [evs, tys]
     refine Imp.op (f := fun a => .slice (List.map (PV.int .u8) a) [] true) (fun a h => op_apd (enc := (PV.int .u8)) (by first | rfl | simp only [evs, tys, evl]) (by first | rfl | simp only [evs, tys, evl]) (fun a => by first | rfl | simp only [evs, tys, evc]) h) (fun a => rfl) fun y41 hy41 => ?_
     try simp only [evs, tys]
     exact Imp.some (StepR.next ⟨by first | rfl | simp only [evs, tys, evl], rfl⟩)
theorem to_Quoted_imp (s : Str) : Imp (to_Quoted_B s) (to_Quoted_T1 O loopLim s) (fun r v => v = (to_QuotedE r, [])) := by
 simp only [to_Quoted_B, to_Quoted_T1]
 try simp only [evs, tys]
 refine Imp.bnd (Imp.loop (to_Quoted_l1_ok s) ⟨by first | rfl | simp only [evs, tys, evl], rfl⟩) ?_
 rintro (p | ⟨i_46, b_47, b_48, b_49⟩) vy50 hy50
 ·try simp only [elim_inl, elim_inr]
  obtain ⟨i_42, b_43, b_44, b_45, rfl⟩ := hy50
  refine Imp.exHit rfl (Imp.chk rfl (Imp.chk rfl ?_))
  try simp only [evs, tys]
  exact Imp.some (by first | rfl | simp only [to_QuotedE, evs, tys, evl])
 ·try simp only [elim_inl, elim_inr]
  cases hy50
  refine Imp.exMiss rfl ?_
  refine Imp.exHit rfl (Imp.chk rfl (Imp.chk rfl ?_))
  try simp only [evs, tys]
  refine Imp.gcall (f := tf_i3E) (fu := fun a => tf_i3U b_47 b_48 b_49 a) (fun a h => by first | exact tf_i3_spec h | (have h' := tf_i3_spec h; simp only [evs, tys, evl, tf_i3U] at h'; exact h')) (fun a => by first | rfl | simp only [tf_i3E, evk, chks]) (fun a => by first | rfl | (simp only [tf_i3U, evs, tys]; rfl)) fun y52 hy52 => ?_
  try simp only [tf_i3E, tf_i3U, evs, tys]
  refine Imp.cnd ?_ ?_
  ·exact Imp.some (by first | rfl | simp only [to_QuotedE, evs, tys, evl])
  ·refine Imp.op (f := fun a => .str a) (fun a h => op_toStr (by first | rfl | simp only [evs, tys, evl]) h) (fun a => rfl) fun y54 hy54 => ?_
   try simp only [evs, tys]
   exact Imp.some (by first | rfl | simp only [to_QuotedE, evs, tys, evl])
theorem to_Quoted_run {s : Str} {r : Str × Int} (h : to_Quoted_B s = some r) : to_Quoted s = some r := by
 obtain ⟨v, hv, rfl⟩ := to_Quoted_imp s r h
 exact tO_of (pair_inj to_QuotedEj) (OL_runD to_Quoted_ds rfl rfl Tryd.func52 ((to_Quoted_t1 _ _ s).trans hv))
def to_one_T1 (O : Orc) (LP : LBody → LBody) (s : Str) : Option (PV × UP) :=
 bnd (ixStr (.str s) (.int .i64 0)) fun x1 => cnd (chk (.int .u8) x1)
 (callp O 49 [(.str s), (.str [34, 34, 34])] fun x3 => cnd (chk .bool x3)
 (cnd (boolV x3)
 (callp O 51 [(.str s)] fun x5 => cnd (chk (.tup [.str, (.int .i64)]) x5)
 (some ((.tuple [(.agg [(.int .i64 5), (.str (strV (gt (tupV x5) 0)))]), (.int .i64 (intV (gt (tupV x5) 1)))]), [])) none)
 (cnd ((intV x1) == 34)
 (callp O 52 [(.str s), (.func (.func 53) [] [])] fun x7 => cnd (chk (.tup [.str, (.int .i64)]) x7)
 (some ((.tuple [(.agg [(.int .i64 5), (.str (strV (gt (tupV x7) 0)))]), (.int .i64 (intV (gt (tupV x7) 1)))]), [])) none)
 (callp O 49 [(.str s), (.str [46, 46, 46])] fun x9 => cnd (chk .bool x9)
 (cnd (boolV x9)
 (some ((.tuple [(.agg [(.int .i64 1), (.str [46, 46, 46])]), (.int .i64 3)]), []))
 (callp O 54 [(.str [33, 36, 38, 40, 41, 58, 61, 64, 91, 93, 123, 124, 125]), (.int .u8 (intV x1))] fun x11 => cnd (chk (.int .i64) x11)
 (cnd (decide ((intV x11) ≥ 0))
 (bnd (slcHi 0 (.str s) (.int .i64 1)) fun x13 => cnd (chk .str x13)
 (some ((.tuple [(.agg [(.int .i64 1), (.str (strV x13))]), (.int .i64 1)]), [])) none)
 (callp O 55 [(.int .u8 (intV x1))] fun x15 => cnd (chk .bool x15)
 (cnd (boolV x15)
 (callp O 56 [(.str s)] fun x17 => cnd (chk (.int .i64) x17)
 (bnd (slcHi 0 (.str s) (.int .i64 (intV x17))) fun x19 => cnd (chk .str x19)
 (some ((.tuple [(.agg [(.int .i64 2), (.str (strV x19))]), (.int .i64 (intV x17))]), [])) none) none)
 (callp O 32 [(.str s)] fun x21 => cnd (chk (.tup [(.int .i64), (.int .i64)]) x21)
 (cnd (decide ((intV (gt (tupV x21) 0)) < (List.length s : Int)))
 (bnd (ixStr (.str s) (.int .i64 (intV (gt (tupV x21) 0)))) fun x23 => cnd (chk (.int .u8) x23)
 (callp O 55 [(.int .u8 (intV x23))] fun x25 => cnd (chk .bool x25)
 (cnd (boolV x25)
 (some ((.tuple [(.agg [(.int .i64 0), (.str [])]), (.int .i64 0)]), []))
 (bnd (ixStr (.str s) (.int .i64 (intV (gt (tupV x21) 0)))) fun x27 => cnd (chk (.int .u8) x27)
 (callp O 57 [(.int .u8 (intV x27))] fun x29 => cnd (chk .bool x29)
 (cnd (boolV x29)
 (some ((.tuple [(.agg [(.int .i64 0), (.str [])]), (.int .i64 0)]), []))
 (bnd (ixStr (.str s) (.int .i64 (intV (gt (tupV x21) 0)))) fun x31 => cnd (chk (.int .u8) x31)
 (cnd ((intV x31) == 46)
 (some ((.tuple [(.agg [(.int .i64 0), (.str [])]), (.int .i64 0)]), []))
 (bnd (slcHi 0 (.str s) (.int .i64 (intV (gt (tupV x21) 0)))) fun x33 => cnd (chk .str x33)
 (some ((.tuple [(.agg [(.int .i64 (intV (gt (tupV x21) 1))), (.str (strV x33))]), (.int .i64 (intV (gt (tupV x21) 0)))]), [])) none)) none)) none) none)) none) none)
 (bnd (slcHi 0 (.str s) (.int .i64 (intV (gt (tupV x21) 0)))) fun x35 => cnd (chk .str x35)
 (some ((.tuple [(.agg [(.int .i64 (intV (gt (tupV x21) 1))), (.str (strV x35))]), (.int .i64 (intV (gt (tupV x21) 0)))]), [])) none)) none)) none)) none)) none))) none) none
noncomputable def to_one_B (s : Str) : Option (GToken × Int) :=
 bnd (nthI s 0) fun y2 =>
 bnd (st_HasPrefix s [34, 34, 34]) fun y4 =>
 cnd y4
 (bnd (to_blocked s) fun y6 =>
 some ((GToken.mk 5 y6.1), y6.2))
 (cnd ((y2.toNat : Int) == 34)
 (bnd (to_Quoted s) fun y8 =>
 some ((GToken.mk 5 y8.1), y8.2))
 (bnd (st_HasPrefix s [46, 46, 46]) fun y10 =>
 cnd y10
 (some ((GToken.mk 1 [46, 46, 46]), 3))
 (bnd (st_IndexByte [33, 36, 38, 40, 41, 58, 61, 64, 91, 93, 123, 124, 125] (y2.toNat : Int)) fun y12 =>
 cnd (decide (y12 ≥ 0))
 (bnd (tslc s 0 1) fun y14 =>
 some ((GToken.mk 1 y14), 1))
 (bnd (ls_Letter (y2.toNat : Int)) fun y16 =>
 cnd y16
 (bnd (to_word s) fun y18 =>
 bnd (tslc s 0 y18) fun y20 =>
 some ((GToken.mk 2 y20), y18))
 (bnd (to_number s) fun y22 =>
 cnd (decide (y22.1 < (List.length s : Int)))
 (bnd (nthI s y22.1) fun y24 =>
 bnd (ls_Letter (y24.toNat : Int)) fun y26 =>
 cnd y26
 (some ((GToken.mk 0 []), 0))
 (bnd (nthI s y22.1) fun y28 =>
 bnd (ls_Digit (y28.toNat : Int)) fun y30 =>
 cnd y30
 (some ((GToken.mk 0 []), 0))
 (bnd (nthI s y22.1) fun y32 =>
 cnd ((y32.toNat : Int) == 46)
 (some ((GToken.mk 0 []), 0))
 (bnd (tslc s 0 y22.1) fun y34 =>
 some ((GToken.mk y22.2 y34), y22.1)))))
 (bnd (tslc s 0 y22.1) fun y36 =>
 some ((GToken.mk y22.2 y36), y22.1)))))))
def to_one_ds : Decs := { decs := [(13, (.int .u8)), (16, .bool), (19, (.tup [.str, (.int .i64)])), (30, (.tup [.str, (.int .i64)])), (38, .bool), (42, (.int .i64)), (45, .str), (49, .bool), (51, (.int .i64)), (54, .str), (59, (.tup [(.int .i64), (.int .i64)])), (69, (.int .u8)), (70, .bool), (74, (.int .u8)), (75, .bool), (80, (.int .u8)), (88, .str)], ups := [], loops := [] }
set_option maxRecDepth 100000 in
theorem to_one_t1 (O : Orc) (LP : LBody → LBody) (s : Str) : evalBodyD Tryd.prog (MT 28) to_one_ds Tryd.f28.ntmps O LP Tryd.f28 [(.str s)] [] = to_one_T1 O LP s := by kernel_rfl
theorem to_one_imp (s : Str) : Imp (to_one_B s) (to_one_T1 O loopLim s) (fun r v => v = (to_oneE r, [])) := by
 simp only [to_one_B, to_one_T1]
 try simp only [evs, tys]
 refine Imp.op (f := fun a => .int .u8 (a.toNat : Int)) (fun a h => op_ixStr h) (fun a => rfl) fun y2 hy2 => ?_
 try simp only [evs, tys]
 refine Imp.call (f := st_HasPrefixE) rfl (fun a h => by first | exact st_HasPrefix_spec h | simpa only [evs, tys, evl] using st_HasPrefix_spec h) (fun a => by first | rfl | simp only [st_HasPrefixE, evk, chks]) fun y4 hy4 => ?_
 try simp only [st_HasPrefixE, evs, tys]
 refine Imp.cnd ?_ ?_
 ·refine Imp.call (f := to_blockedE) rfl (fun a h => by first | exact to_blocked_spec h | simpa only [evs, tys, evl] using to_blocked_spec h) (fun a => by first | rfl | simp only [to_blockedE, evk, chks]) fun y6 hy6 => ?_
  try simp only [to_blockedE, evs, tys]
  exact Imp.some (by first | rfl | simp only [to_oneE, evs, tys, evl])
 ·refine Imp.cnd ?_ ?_
  ·refine Imp.call (f := to_QuotedE) rfl (fun a h => by first | exact to_Quoted_spec h | simpa only [evs, tys, evl] using to_Quoted_spec h) (fun a => by first | rfl | simp only [to_QuotedE, evk, chks]) fun y8 hy8 => ?_
   try simp only [to_QuotedE, evs, tys]
   exact Imp.some (by first | rfl | simp only [to_oneE, evs, tys, evl])
  ·refine Imp.call (f := st_HasPrefixE) rfl (fun a h => by first | exact st_HasPrefix_spec h | simpa only [evs, tys, evl] using st_HasPrefix_spec h) (fun a => by first | rfl | simp only [st_HasPrefixE, evk, chks]) fun y10 hy10 => ?_
   try simp only [st_HasPrefixE, evs, tys]
   refine Imp.cnd ?_ ?_
   ·exact Imp.some (by first | rfl | simp only [to_oneE, evs, tys, evl])
   ·refine Imp.call (f := st_IndexByteE) rfl (fun a h => by first | exact st_IndexByte_spec h | simpa only [evs, tys, evl] using st_IndexByte_spec h) (fun a => by first | rfl | simp only [st_IndexByteE, evk, chks]) fun y12 hy12 => ?_
    try simp only [st_IndexByteE, evs, tys]
    refine Imp.cnd ?_ ?_
    ·refine Imp.op (f := fun a => .str a) (fun a h => op_sslcHi h) (fun a => rfl) fun y14 hy14 => ?_
     try simp only [evs, tys]
     exact Imp.some (by first | rfl | simp only [to_oneE, evs, tys, evl])
    ·refine Imp.call (f := ls_LetterE) rfl (fun a h => by first | exact ls_Letter_spec h | simpa only [evs, tys, evl] using ls_Letter_spec h) (fun a => by first | rfl | simp only [ls_LetterE, evk, chks]) fun y16 hy16 => ?_
     try simp only [ls_LetterE, evs, tys]
     refine Imp.cnd ?_ ?_
     ·refine Imp.call (f := to_wordE) rfl (fun a h => by first | exact to_word_spec h | simpa only [evs, tys, evl] using to_word_spec h) (fun a => by first | rfl | simp only [to_wordE, evk, chks]) fun y18 hy18 => ?_
      try simp only [to_wordE, evs, tys]
      refine Imp.op (f := fun a => .str a) (fun a h => op_sslcHi h) (fun a => rfl) fun y20 hy20 => ?_
      try simp only [evs, tys]
      exact Imp.some (by first | rfl | simp only [to_oneE, evs, tys, evl])
     ·refine Imp.call (f := to_numberE) rfl (fun a h => by first | exact to_number_spec h | simpa only [evs, tys, evl] using to_number_spec h) (fun a => by first | rfl | simp only [to_numberE, evk, chks]) fun y22 hy22 => ?_
      try simp only [to_numberE, evs, tys]
      refine Imp.cnd ?_ ?_
      ·refine Imp.op (f := fun a => .int .u8 (a.toNat : Int)) (fun a h => op_ixStr h) (fun a => rfl) fun y24 hy24 => ?_
       try simp only [evs, tys]
       refine Imp.call (f := ls_LetterE) rfl (fun a h => by first | exact ls_Letter_spec h | simpa only [evs, tys, evl] using ls_Letter_spec h) (fun a => by first | rfl | simp only [ls_LetterE, evk, chks]) fun y26 hy26 => ?_
       try simp only [ls_LetterE, evs, tys]
       refine Imp.cnd ?_ ?_
       ·exact Imp.some (by first | rfl | simp only [to_oneE, evs, tys, evl])
       ·refine Imp.op (f := fun a => .int .u8 (a.toNat : Int)) (fun a h => op_ixStr h) (fun a => rfl) fun y28 hy28 => ?_
        try simp only [evs, tys]
        refine Imp.call (f := ls_DigitE) rfl (fun a h => by first | exact ls_Digit_spec h | simpa only [evs, tys, evl] using ls_Digit_spec h) (fun a => by first | rfl | simp only [ls_DigitE, evk, chks]) fun y30 hy30 => ?_
        try simp only [ls_DigitE, evs, tys]
        refine Imp.cnd ?_ ?_
        ·exact Imp.some (by first | rfl | simp only [to_oneE, evs, tys, evl])
        ·refine Imp.op (f := fun a => .int .u8 (a.toNat : Int)) (fun a h => op_ixStr h) (fun a => rfl) fun y32 hy32 => ?_
         try simp only [evs, tys]
         refine Imp.cnd ?_ ?_
         ·exact Imp.some (by first | rfl | simp only [to_oneE, evs, tys, evl])
         ·refine Imp.op (f := fun a => .str a) (fun a h => op_sslcHi h) (fun a => rfl) fun y34 hy34 => ?_
          try simp only [evs, tys]
          exact Imp.some (by first | rfl | simp only [to_oneE, evs, tys, evl])
      ·refine Imp.op (f := fun a => .str a) (fun a h => op_sslcHi h) (fun a => rfl) fun y36 hy36 => ?_
       try simp only [evs, tys]
       exact Imp.some (by first | rfl | simp only [to_oneE, evs, tys, evl])
theorem to_one_run {s : Str} {r : GToken × Int} (h : to_one_B s = some r) : to_one s = some r := by
 obtain ⟨v, hv, rfl⟩ := to_one_imp s r h
 exact tO_of (pair_inj to_oneEj) (OL_runD to_one_ds rfl rfl Tryd.func28 ((to_one_t1 _ _ s).trans hv))
def to_number_T1 (O : Orc) (LP : LBody → LBody) (s : Str) : Option (PV × UP) :=
 callp O 64 [(.str s)] fun x1 => cnd (chk (.int .i64) x1)
 (cnd ((intV x1) == 0)
 (some ((.tuple [(.int .i64 0), (.int .i64 0)]), []))
 (jn (fun (n_13 : Int) (kind_14 : Int) (t_15 : Bool) =>
 (bnd (slcLo 0 (.str s) (.int .i64 n_13)) fun x16 => cnd (chk .str x16)
 (callp O 66 [(.str (strV x16))] fun x18 => cnd (chk (.int .i64) x18)
 (cnd (decide ((intV x18) > 0))
 (some ((.tuple [(.int .i64 (IntKind.wrap .i64 (n_13 + (intV x18)))), (.int .i64 4)]), []))
 (some ((.tuple [(.int .i64 n_13), (.int .i64 kind_14)]), []))) none) none)) fun k4 =>
 bnd (slcLo 0 (.str s) (.int .i64 (intV x1))) fun x5 => cnd (chk .str x5)
 (callp O 49 [(.str (strV x5)), (.str [46])] fun x7 => cnd (chk .bool x7)
 (cnd (boolV x7)
 (bnd (slcLo 0 (.str s) (.int .i64 (IntKind.wrap .i64 ((intV x1) + 1)))) fun x9 => cnd (chk .str x9)
 (callp O 65 [(.str (strV x9))] fun x11 => cnd (chk (.int .i64) x11)
 (cnd (decide ((intV x11) > 0))
 (k4 (IntKind.wrap .i64 ((IntKind.wrap .i64 ((intV x1) + 1)) + (intV x11))) 4 true)
 (k4 (intV x1) 3 true)) none) none)
 (k4 (intV x1) 3 false)) none) none)) none
noncomputable def to_number_B (s : Str) : Option (Int × Int) :=
 bnd (to_whole s) fun y2 =>
 cnd (y2 == 0)
 (some (0, 0))
 (jn (fun (n_13 : Int) (kind_14 : Int) (t_15 : Bool) =>
 (bnd (tslc s n_13 (List.length s)) fun y17 =>
 bnd (to_power y17) fun y19 =>
 cnd (decide (y19 > 0))
 (some ((IntKind.wrap .i64 (n_13 + y19)), 4))
 (some (n_13, kind_14)))) fun k4 =>
 bnd (tslc s y2 (List.length s)) fun y6 =>
 bnd (st_HasPrefix y6 [46]) fun y8 =>
 cnd y8
 (bnd (tslc s (IntKind.wrap .i64 (y2 + 1)) (List.length s)) fun y10 =>
 bnd (to_digits y10) fun y12 =>
 cnd (decide (y12 > 0))
 (k4 (IntKind.wrap .i64 ((IntKind.wrap .i64 (y2 + 1)) + y12)) 4 true)
 (k4 y2 3 true))
 (k4 y2 3 false))
def to_number_ds : Decs := { decs := [(9, (.int .i64)), (14, .str), (15, .bool), (19, .str), (20, (.int .i64)), (29, .str), (30, (.int .i64))], ups := [], loops := [] }
set_option maxRecDepth 100000 in
theorem to_number_t1 (O : Orc) (LP : LBody → LBody) (s : Str) : evalBodyD Tryd.prog (MT 32) to_number_ds Tryd.f32.ntmps O LP Tryd.f32 [(.str s)] [] = to_number_T1 O LP s := by kernel_rfl
theorem to_number_imp (s : Str) : Imp (to_number_B s) (to_number_T1 O loopLim s) (fun r v => v = (to_numberE r, [])) := by
 simp only [to_number_B, to_number_T1]
 try simp only [evs, tys]
 refine Imp.call (f := to_wholeE) rfl (fun a h => by first | exact to_whole_spec h | simpa only [evs, tys, evl] using to_whole_spec h) (fun a => by first | rfl | simp only [to_wholeE, evk, chks]) fun y2 hy2 => ?_
 try simp only [to_wholeE, evs, tys]
 refine Imp.cnd ?_ ?_
 ·exact Imp.some (by first | rfl | simp only [to_numberE, evs, tys, evl])
 ·refine Imp.jn (fun I k2 k1 => ∀ (n_13 : Int) (kind_14 : Int) (t_15 : Bool), I (k2 n_13 kind_14 t_15) (k1 n_13 kind_14 t_15)) (fun n_13 kind_14 t_15 => ?_) fun k4 k4t hk4 => ?_
  ·dsimp only
   try simp only [evs, tys]
   refine Imp.op (f := fun a => .str a) (fun a h => op_sslcLo h) (fun a => rfl) fun y17 hy17 => ?_
   try simp only [evs, tys]
   refine Imp.call (f := to_powerE) rfl (fun a h => by first | exact to_power_spec h | simpa only [evs, tys, evl] using to_power_spec h) (fun a => by first | rfl | simp only [to_powerE, evk, chks]) fun y19 hy19 => ?_
   try simp only [to_powerE, evs, tys]
   refine Imp.cnd ?_ ?_
   ·exact Imp.some (by first | rfl | simp only [to_numberE, evs, tys, evl])
   ·exact Imp.some (by first | rfl | simp only [to_numberE, evs, tys, evl])
  refine Imp.op (f := fun a => .str a) (fun a h => op_sslcLo h) (fun a => rfl) fun y6 hy6 => ?_
  try simp only [evs, tys]
  refine Imp.call (f := st_HasPrefixE) rfl (fun a h => by first | exact st_HasPrefix_spec h | simpa only [evs, tys, evl] using st_HasPrefix_spec h) (fun a => by first | rfl | simp only [st_HasPrefixE, evk, chks]) fun y8 hy8 => ?_
  try simp only [st_HasPrefixE, evs, tys]
  refine Imp.cnd ?_ ?_
  ·refine Imp.op (f := fun a => .str a) (fun a h => op_sslcLo h) (fun a => rfl) fun y10 hy10 => ?_
   try simp only [evs, tys]
   refine Imp.call (f := to_digitsE) rfl (fun a h => by first | exact to_digits_spec h | simpa only [evs, tys, evl] using to_digits_spec h) (fun a => by first | rfl | simp only [to_digitsE, evk, chks]) fun y12 hy12 => ?_
   try simp only [to_digitsE, evs, tys]
   refine Imp.cnd ?_ ?_
   ·first | exact hk4 _ _ _ | simpa only [evs, tys, evl] using hk4 _ _ _
   ·first | exact hk4 _ _ _ | simpa only [evs, tys, evl] using hk4 _ _ _
  ·first | exact hk4 _ _ _ | simpa only [evs, tys, evl] using hk4 _ _ _
theorem to_number_run {s : Str} {r : Int × Int} (h : to_number_B s = some r) : to_number s = some r := by
 obtain ⟨v, hv, rfl⟩ := to_number_imp s r h
 exact tO_of (pair_inj to_numberEj) (OL_runD to_number_ds rfl rfl Tryd.func32 ((to_number_t1 _ _ s).trans hv))
def ls_Code_T1 (O : Orc) (LP : LBody → LBody) (s : Str) (i : Int) : Option (PV × UP) :=
 cnd (decide (i < 0))
 (some ((.tuple [(.int .i64 0), (.int .i64 0)]), []))
 (cnd (decide (i ≥ (List.length s : Int)))
 (some ((.tuple [(.int .i64 0), (.int .i64 0)]), []))
 (bnd (slcLo 0 (.str s) (.int .i64 i)) fun x1 => cnd (chk .str x1)
 (callp O 69 [(.str (strV x1))] fun x3 => cnd (chk (.tup [(.int .i32), (.int .i64)]) x3)
 (cnd ((intV (gt (tupV x3) 0)) == 65533)
 (cnd (decide ((intV (gt (tupV x3) 1)) < 2))
 (some ((.tuple [(.int .i64 0), (.int .i64 0)]), []))
 (some ((.tuple [(.int .i64 (IntKind.wrap .i64 (intV (gt (tupV x3) 0)))), (.int .i64 (intV (gt (tupV x3) 1)))]), [])))
 (some ((.tuple [(.int .i64 (IntKind.wrap .i64 (intV (gt (tupV x3) 0)))), (.int .i64 (intV (gt (tupV x3) 1)))]), []))) none) none))
noncomputable def ls_Code_B (s : Str) (i : Int) : Option (Int × Int) :=
 cnd (decide (i < 0))
 (some (0, 0))
 (cnd (decide (i ≥ (List.length s : Int)))
 (some (0, 0))
 (bnd (tslc s i (List.length s)) fun y2 =>
 bnd (uf_DecodeRuneInString y2) fun y4 =>
 cnd (y4.1 == 65533)
 (cnd (decide (y4.2 < 2))
 (some (0, 0))
 (some ((IntKind.wrap .i64 y4.1), y4.2)))
 (some ((IntKind.wrap .i64 y4.1), y4.2))))
def ls_Code_ds : Decs := { decs := [(19, .str), (20, (.tup [(.int .i32), (.int .i64)]))], ups := [], loops := [] }
set_option maxRecDepth 100000 in
theorem ls_Code_t1 (O : Orc) (LP : LBody → LBody) (s : Str) (i : Int) : evalBodyD Tryd.prog (MT 35) ls_Code_ds Tryd.f35.ntmps O LP Tryd.f35 [(.str s), (.int .i64 i)] [] = ls_Code_T1 O LP s i := by kernel_rfl
theorem ls_Code_imp (s : Str) (i : Int) : Imp (ls_Code_B s i) (ls_Code_T1 O loopLim s i) (fun r v => v = (ls_CodeE r, [])) := by
 simp only [ls_Code_B, ls_Code_T1]
 try simp only [evs, tys]
 refine Imp.cnd ?_ ?_
 ·exact Imp.some (by first | rfl | simp only [ls_CodeE, evs, tys, evl])
 ·refine Imp.cnd ?_ ?_
  ·exact Imp.some (by first | rfl | simp only [ls_CodeE, evs, tys, evl])
  ·refine Imp.op (f := fun a => .str a) (fun a h => op_sslcLo h) (fun a => rfl) fun y2 hy2 => ?_
   try simp only [evs, tys]
   refine Imp.call (f := uf_DecodeRuneInStringE) rfl (fun a h => by first | exact uf_DecodeRuneInString_spec h | simpa only [evs, tys, evl] using uf_DecodeRuneInString_spec h) (fun a => by first | rfl | simp only [uf_DecodeRuneInStringE, evk, chks]) fun y4 hy4 => ?_
   try simp only [uf_DecodeRuneInStringE, evs, tys]
   refine Imp.cnd ?_ ?_
   ·refine Imp.cnd ?_ ?_
    ·exact Imp.some (by first | rfl | simp only [ls_CodeE, evs, tys, evl])
    ·exact Imp.some (by first | rfl | simp only [ls_CodeE, evs, tys, evl])
   ·exact Imp.some (by first | rfl | simp only [ls_CodeE, evs, tys, evl])
theorem ls_Code_run {s : Str} {i : Int} {r : Int × Int} (h : ls_Code_B s i = some r) : ls_Code s i = some r := by
 obtain ⟨v, hv, rfl⟩ := ls_Code_imp s i r h
 exact tO_of (pair_inj ls_CodeEj) (OL_runD ls_Code_ds rfl rfl Tryd.func35 ((ls_Code_t1 _ _ s i).trans hv))
def ls_sign_T1 (O : Orc) (LP : LBody → LBody) (c : Int) : Option (PV × UP) :=
 cnd (c == 9)
 (some ((.bool true), []))
 (cnd (c == 10)
 (some ((.bool true), []))
 (cnd (c == 13)
 (some ((.bool true), []))
 (cnd (decide (c ≥ 32))
 (some ((.bool (decide (c ≤ 65535))), []))
 (some ((.bool false), [])))))
noncomputable def ls_sign_B (c : Int) : Option Bool :=
 cnd (c == 9)
 (some true)
 (cnd (c == 10)
 (some true)
 (cnd (c == 13)
 (some true)
 (cnd (decide (c ≥ 32))
 (some (decide (c ≤ 65535)))
 (some false))))
def ls_sign_ds : Decs := { decs := [], ups := [], loops := [] }
set_option maxRecDepth 100000 in
theorem ls_sign_t1 (O : Orc) (LP : LBody → LBody) (c : Int) : evalBodyD Tryd.prog (MT 36) ls_sign_ds Tryd.f36.ntmps O LP Tryd.f36 [(.int .i64 c)] [] = ls_sign_T1 O LP c := by kernel_rfl
theorem ls_sign_imp (c : Int) : Imp (ls_sign_B c) (ls_sign_T1 O loopLim c) (fun r v => v = (ls_signE r, [])) := by
 simp only [ls_sign_B, ls_sign_T1]
 try simp only [evs, tys]
 refine Imp.cnd ?_ ?_
 ·exact Imp.some (by first | rfl | simp only [ls_signE, evs, tys, evl])
 ·refine Imp.cnd ?_ ?_
  ·exact Imp.some (by first | rfl | simp only [ls_signE, evs, tys, evl])
  ·refine Imp.cnd ?_ ?_
   ·exact Imp.some (by first | rfl | simp only [ls_signE, evs, tys, evl])
   ·refine Imp.cnd ?_ ?_
    ·exact Imp.some (by first | rfl | simp only [ls_signE, evs, tys, evl])
    ·exact Imp.some (by first | rfl | simp only [ls_signE, evs, tys, evl])
theorem ls_sign_run {c : Int} {r : Bool} (h : ls_sign_B c = some r) : ls_sign c = some r := by
 obtain ⟨v, hv, rfl⟩ := ls_sign_imp c r h
 exact tO_of (pair_inj ls_signEj) (OL_runD ls_sign_ds rfl rfl Tryd.func36 ((ls_sign_t1 _ _ c).trans hv))
def st_HasPrefix_T1 (O : Orc) (LP : LBody → LBody) (s : Str) (prefix0 : Str) : Option (PV × UP) :=
 callp O 80 [(.str s), (.str prefix0)] fun x1 => cnd (chk .bool x1)
 (some ((.bool (boolV x1)), [])) none
noncomputable def st_HasPrefix_B (s : Str) (prefix0 : Str) : Option Bool :=
 bnd (sl_HasPrefix s prefix0) fun y2 =>
 some y2
def st_HasPrefix_ds : Decs := { decs := [(7, .bool)], ups := [], loops := [] }
set_option maxRecDepth 100000 in
theorem st_HasPrefix_t1 (O : Orc) (LP : LBody → LBody) (s : Str) (prefix0 : Str) : evalBodyD Tryd.prog (MT 49) st_HasPrefix_ds Tryd.f49.ntmps O LP Tryd.f49 [(.str s), (.str prefix0)] [] = st_HasPrefix_T1 O LP s prefix0 := by kernel_rfl
theorem st_HasPrefix_imp (s : Str) (prefix0 : Str) : Imp (st_HasPrefix_B s prefix0) (st_HasPrefix_T1 O loopLim s prefix0) (fun r v => v = (st_HasPrefixE r, [])) := by
 simp only [st_HasPrefix_B, st_HasPrefix_T1]
 try simp only [evs, tys]
 refine Imp.call (f := sl_HasPrefixE) rfl (fun a h => by first | exact sl_HasPrefix_spec h | simpa only [evs, tys, evl] using sl_HasPrefix_spec h) (fun a => by first | rfl | simp only [sl_HasPrefixE, evk, chks]) fun y2 hy2 => ?_
 try simp only [sl_HasPrefixE, evs, tys]
 exact Imp.some (by first | rfl | simp only [st_HasPrefixE, evs, tys, evl])
theorem st_HasPrefix_run {s : Str} {prefix0 : Str} {r : Bool} (h : st_HasPrefix_B s prefix0 = some r) : st_HasPrefix s prefix0 = some r := by
 obtain ⟨v, hv, rfl⟩ := st_HasPrefix_imp s prefix0 r h
 exact tO_of (pair_inj st_HasPrefixEj) (OL_runD st_HasPrefix_ds rfl rfl Tryd.func49 ((st_HasPrefix_t1 _ _ s prefix0).trans hv))
theorem st_IndexAny_run {s : Str} {chars : Str} {r : Int} (h : tIndexAny s chars = some r) : st_IndexAny s chars = some r := tO_of (pair_inj st_IndexAnyEj) (OL_ext (g := xIndexAny) rfl (xIndexAny_of h))
def to_blocked_l1 (O : Orc) (LP : LBody → LBody) : LBody := fun s1 s1u => cnd (chkL [.str, .str, (.int .i64), (.sl true), (.int .i64)] s1) (cnd (chkU [] s1u)
 (cnd (decide ((intV (gt s1 4)) ≥ (List.length (strV (gt s1 0)) : Int)))
 (some (.ret, [(.str (strV (gt s1 0))), (.str []), (.int .i64 0), (.slice (esV (gt s1 3)) [] true), (.int .i64 (intV (gt s1 4)))], []))
 (bnd (slcLo 0 (.str (strV (gt s1 0))) (.int .i64 (intV (gt s1 4)))) fun x18 => cnd (chk .str x18)
 (callp O 49 [(.str (strV x18)), (.str [34, 34, 34])] fun x20 => cnd (chk .bool x20)
 (cnd (boolV x20)
 (some (.brk 0, [(.str (strV (gt s1 0))), (.str (strV (gt s1 1))), (.int .i64 (intV (gt s1 2))), (.slice (esV (gt s1 3)) [] true), (.int .i64 (intV (gt s1 4)))], []))
 (bnd (slcLo 0 (.str (strV (gt s1 0))) (.int .i64 (intV (gt s1 4)))) fun x22 => cnd (chk .str x22)
 (callp O 49 [(.str (strV x22)), (.str [92, 34, 34, 34])] fun x24 => cnd (chk .bool x24)
 (cnd (boolV x24)
 (bnd (apdStr (.slice (esV (gt s1 3)) [] true) (.str [34, 34, 34])) fun x26 => cnd (chk (.sl true) x26)
 (some (.nrm, [(.str (strV (gt s1 0))), (.str (strV (gt s1 1))), (.int .i64 (intV (gt s1 2))), (.slice (esV x26) [] true), (.int .i64 (IntKind.wrap .i64 ((intV (gt s1 4)) + 4)))], [])) none)
 (bnd (ixStr (.str (strV (gt s1 0))) (.int .i64 (intV (gt s1 4)))) fun x28 => cnd (chk (.int .u8) x28)
 (bnd (apd 1 (.slice (esV (gt s1 3)) [] true) (.slice [(.int .u8 (intV x28))] [] true)) fun x30 => cnd (chk (.sl true) x30)
 (some (.nrm, [(.str (strV (gt s1 0))), (.str (strV (gt s1 1))), (.int .i64 (intV (gt s1 2))), (.slice (esV x30) [] true), (.int .i64 (IntKind.wrap .i64 ((intV (gt s1 4)) + 1)))], [])) none) none)) none) none)) none) none)) none) none
def to_blocked_T1 (O : Orc) (LP : LBody → LBody) (s : Str) : Option (PV × UP) :=
 bnd (LP (to_blocked_l1 O LP) [(.str s), (.str []), (.int .i64 0), (.slice [] [] true), (.int .i64 3)] []) fun y36 =>
 exIs y36.1 none (cnd (chkL [.str, .str, (.int .i64), (.sl true), (.int .i64)] y36.2.1) (cnd (chkU [] y36.2.2)
 (some ((.tuple [(.str (strV (gt y36.2.1 1))), (.int .i64 (intV (gt y36.2.1 2)))]), [])) none) none)
 (exIs y36.1 (some 0) (cnd (chkL [.str, .str, (.int .i64), (.sl true), (.int .i64)] y36.2.1) (cnd (chkU [] y36.2.2)
 (bnd (toStr (.slice (esV (gt y36.2.1 3)) [] false)) fun x37 => cnd (chk .str x37)
 (callp O 19 [(.str (strV x37))] fun x39 => cnd (chk .str x39)
 (some ((.tuple [(.str (strV x39)), (.int .i64 (IntKind.wrap .i64 ((intV (gt y36.2.1 4)) + 3)))]), [])) none) none) none) none)
 (none))
noncomputable def to_blocked_l1T (s : Str) : ((List Int) × Int) → Option (((List Int) × Int) ⊕ (Unit ⊕ ((List Int) × Int)))
 | (raw_16, i_17) =>
 cnd (decide (i_17 ≥ (List.length s : Int)))
  (some (.inr (.inl ())))
  (bnd (tslc s i_17 (List.length s)) fun y19 =>
  bnd (st_HasPrefix y19 [34, 34, 34]) fun y21 =>
  cnd y21
  (some (.inr (.inr (raw_16, i_17))))
  (bnd (tslc s i_17 (List.length s)) fun y23 =>
  bnd (st_HasPrefix y23 [92, 34, 34, 34]) fun y25 =>
  cnd y25
   (bnd (tapp raw_16 (intsT [34, 34, 34])) fun y27 =>
   some (.inl (y27, (IntKind.wrap .i64 (i_17 + 4)))))
   (bnd (nthI s i_17) fun y29 =>
   bnd (tapp raw_16 [(y29.toNat : Int)]) fun y31 =>
   some (.inl (y31, (IntKind.wrap .i64 (i_17 + 1)))))))
abbrev to_blocked_l1R (s : Str) (st : (List Int) × Int) (l : List PV) (u : UP) : Prop := l = [(.str s), (.str []), (.int .i64 0), (.slice (List.map (PV.int .u8) st.1) [] true), (.int .i64 st.2)] ∧ u = []
abbrev to_blocked_l1X (s : Str) (p : Unit ⊕ ((List Int) × Int)) (r : Ex × List PV × UP) : Prop := elim p (fun (p : Unit) => ∃ (raw_32 : List Int), ∃ (i_33 : Int), r = (Ex.ret, [(.str s), (.str []), (.int .i64 0), (.slice (List.map (PV.int .u8) raw_32) [] true), (.int .i64 i_33)], [])) (fun q2 => (fun (p : (List Int) × Int) => r = (Ex.brk 0, [(.str s), (.str []), (.int .i64 0), (.slice (List.map (PV.int .u8) p.1) [] true), (.int .i64 p.2)], [])) q2)
noncomputable def to_blocked_B (s : Str) : Option (Str × Int) :=
 bnd (tloop (to_blocked_l1T s) ([], 3)) fun e36_2 => elim e36_2
 (fun p36 =>
 some ([], 0))
 (fun p36 =>
 bnd (some (bytesT p36.1)) fun y38 =>
 bnd (bo_Value y38) fun y40 =>
 some (y40, (IntKind.wrap .i64 (p36.2 + 3))))
def to_blocked_ds : Decs := { decs := [(14, .str), (15, .bool), (19, .str), (20, .bool), (22, (.sl true)), (28, (.int .u8)), (30, (.sl true)), (34, .str), (35, .str)], ups := [], loops := [(3, [], ⟨[.str, .str, (.int .i64), (.sl true), (.int .i64)], [], [(none, [.str, .str, (.int .i64), (.sl true), (.int .i64)], []), (some 0, [.str, .str, (.int .i64), (.sl true), (.int .i64)], [])]⟩)] }
set_option maxRecDepth 100000 in
theorem to_blocked_t1 (O : Orc) (LP : LBody → LBody) (s : Str) : evalBodyD Tryd.prog (MT 51) to_blocked_ds Tryd.f51.ntmps O LP Tryd.f51 [(.str s)] [] = to_blocked_T1 O LP s := by kernel_rfl
theorem to_blocked_l1_ok (s : Str) : ∀ st l u, to_blocked_l1R s st l u → Imp (to_blocked_l1T s st) (to_blocked_l1 O loopLim l u) (StepR (to_blocked_l1R s) (to_blocked_l1X s)) := by
 rintro ⟨raw_16, i_17⟩ l u ⟨rfl, rfl⟩
 simp only [to_blocked_l1T, to_blocked_l1]
 refine Imp.chk rfl (Imp.chk rfl ?_)
 try simp only [evs, tys]
 refine Imp.cnd ?_ ?_
 ·exact Imp.some (StepR.ret ⟨raw_16, i_17, by first | rfl | simp only [evs, tys, evl, elim_inl, elim_inr]⟩)
 ·refine Imp.op (f := fun a => .str a) (fun a h => op_sslcLo h) (fun a => rfl) fun y19 hy19 => ?_
  try simp only [evs, tys]
  refine Imp.call (f := st_HasPrefixE) rfl (fun a h => by first | exact st_HasPrefix_spec h | simpa only [evs, tys, evl] using st_HasPrefix_spec h) (fun a => by first | rfl | simp only [st_HasPrefixE, evk, chks]) fun y21 hy21 => ?_
  try simp only [st_HasPrefixE, evs, tys]
  refine Imp.cnd ?_ ?_
  ·exact Imp.some (StepR.brk (by first | rfl | simp only [evs, tys, evl, elim_inl, elim_inr]))
  ·refine Imp.op (f := fun a => .str a) (fun a h => op_sslcLo h) (fun a => rfl) fun y23 hy23 => ?_
   try simp only [evs, tys]
   refine Imp.call (f := st_HasPrefixE) rfl (fun a h => by first | exact st_HasPrefix_spec h | simpa only [evs, tys, evl] using st_HasPrefix_spec h) (fun a => by first | rfl | simp only [st_HasPrefixE, evk, chks]) fun y25 hy25 => ?_
   try simp only [st_HasPrefixE, evs, tys]
   refine Imp.cnd ?_ ?_
   ·refine Imp.op (f := fun a => .slice (List.map (PV.int .u8) a) [] true) (fun a h => op_apdStr (by first | rfl | simp only [evs, tys, evl]) h) (fun a => rfl) fun y27 hy27 => ?_
    try simp only [evs, tys]
    exact Imp.some (StepR.next ⟨by first | rfl | simp only [evs, tys, evl], rfl⟩)
   ·refine Imp.op (f := fun a => .int .u8 (a.toNat : Int)) (fun a h => op_ixStr h) (fun a => rfl) fun y29 hy29 => ?_
    try simp only [evs, tys]
    refine Imp.op (f := fun a => .slice (List.map (PV.int .u8) a) [] true) (fun a h => op_apd (enc := (PV.int .u8)) (by first | rfl | simp only [evs, tys, evl]) (by first | rfl | simp only [evs, tys, evl]) (fun a => by first | rfl | simp only [evs, tys, evc]) h) (fun a => rfl) fun y31 hy31 => ?_
    try simp only [evs, tys]
    exact Imp.some (StepR.next ⟨by first | rfl | simp only [evs, tys, evl], rfl⟩)
theorem to_blocked_imp (s : Str) : Imp (to_blocked_B s) (to_blocked_T1 O loopLim s) (fun r v => v = (to_blockedE r, [])) := by
 simp only [to_blocked_B, to_blocked_T1]
 try simp only [evs, tys]
 refine Imp.bnd (Imp.loop (to_blocked_l1_ok s) ⟨by first | rfl | simp only [evs, tys, evl], rfl⟩) ?_
 rintro (p | ⟨raw_34, i_35⟩) vy36 hy36
 ·try simp only [elim_inl, elim_inr]
  obtain ⟨raw_32, i_33, rfl⟩ := hy36
  refine Imp.exHit rfl (Imp.chk rfl (Imp.chk rfl ?_))
  try simp only [evs, tys]
  exact Imp.some (by first | rfl | simp only [to_blockedE, evs, tys, evl])
 ·try simp only [elim_inl, elim_inr]
  cases hy36
  refine Imp.exMiss rfl ?_
  refine Imp.exHit rfl (Imp.chk rfl (Imp.chk rfl ?_))
  try simp only [evs, tys]
  refine Imp.op (f := fun a => .str a) (fun a h => op_toStr (by first | rfl | simp only [evs, tys, evl]) h) (fun a => rfl) fun y38 hy38 => ?_
  try simp only [evs, tys]
  refine Imp.call (f := bo_ValueE) rfl (fun a h => by first | exact bo_Value_spec h | simpa only [evs, tys, evl] using bo_Value_spec h) (fun a => by first | rfl | simp only [bo_ValueE, evk, chks]) fun y40 hy40 => ?_
  try simp only [bo_ValueE, evs, tys]
  exact Imp.some (by first | rfl | simp only [to_blockedE, evs, tys, evl])
theorem to_blocked_run {s : Str} {r : Str × Int} (h : to_blocked_B s = some r) : to_blocked s = some r := by
 obtain ⟨v, hv, rfl⟩ := to_blocked_imp s r h
 exact tO_of (pair_inj to_blockedEj) (OL_runD to_blocked_ds rfl rfl Tryd.func51 ((to_blocked_t1 _ _ s).trans hv))
def to_Unit_l1 (O : Orc) (LP : LBody → LBody) : LBody := fun s1 s1u => cnd (chkL [.str, (.int .i64), .bool, (.int .i64), (.int .i64)] s1) (cnd (chkU [] s1u)
 (cnd (decide ((intV (gt s1 4)) < 4))
 (bnd (ixStr (.str (strV (gt s1 0))) (.int .i64 (intV (gt s1 4)))) fun x14 => cnd (chk (.int .u8) x14)
 (callp O 54 [(.str [48, 49, 50, 51, 52, 53, 54, 55, 56, 57, 97, 98, 99, 100, 101, 102]), (.int .u8 (bits .or .u8 (intV x14) 32))] fun x16 => cnd (chk (.int .i64) x16)
 (cnd (decide ((intV x16) < 0))
 (some (.ret, [(.str (strV (gt s1 0))), (.int .i64 0), (.bool false), (.int .i64 (intV (gt s1 3))), (.int .i64 (intV (gt s1 4)))], []))
 (bnd (ixStr (.str (strV (gt s1 0))) (.int .i64 (intV (gt s1 4)))) fun x18 => cnd (chk (.int .u8) x18)
 (cnd (decide ((intV x18) < 48))
 (some (.ret, [(.str (strV (gt s1 0))), (.int .i64 0), (.bool false), (.int .i64 (intV (gt s1 3))), (.int .i64 (intV (gt s1 4)))], []))
 (bnd (ixStr (.str (strV (gt s1 0))) (.int .i64 (intV (gt s1 4)))) fun x20 => cnd (chk (.int .u8) x20)
 (cnd (decide ((intV x20) > 57))
 (bnd (ixStr (.str (strV (gt s1 0))) (.int .i64 (intV (gt s1 4)))) fun x22 => cnd (chk (.int .u8) x22)
 (cnd (decide ((intV x22) < 65))
 (some (.ret, [(.str (strV (gt s1 0))), (.int .i64 0), (.bool false), (.int .i64 (intV (gt s1 3))), (.int .i64 (intV (gt s1 4)))], []))
 (some (.nrm, [(.str (strV (gt s1 0))), (.int .i64 (intV (gt s1 1))), (.bool (boolV (gt s1 2))), (.int .i64 (IntKind.wrap .i64 ((IntKind.wrap .i64 (16 * (intV (gt s1 3)))) + (intV x16)))), (.int .i64 (IntKind.wrap .i64 ((intV (gt s1 4)) + 1)))], []))) none)
 (some (.nrm, [(.str (strV (gt s1 0))), (.int .i64 (intV (gt s1 1))), (.bool (boolV (gt s1 2))), (.int .i64 (IntKind.wrap .i64 ((IntKind.wrap .i64 (16 * (intV (gt s1 3)))) + (intV x16)))), (.int .i64 (IntKind.wrap .i64 ((intV (gt s1 4)) + 1)))], []))) none)) none)) none) none)
 (some (.brk 0, [(.str (strV (gt s1 0))), (.int .i64 (intV (gt s1 1))), (.bool (boolV (gt s1 2))), (.int .i64 (intV (gt s1 3))), (.int .i64 (intV (gt s1 4)))], []))) none) none
def to_Unit_T1 (O : Orc) (LP : LBody → LBody) (s : Str) : Option (PV × UP) :=
 cnd (decide ((List.length s : Int) < 4))
 (some ((.tuple [(.int .i64 0), (.bool false)]), []))
 (bnd (LP (to_Unit_l1 O LP) [(.str s), (.int .i64 0), (.bool false), (.int .i64 0), (.int .i64 0)] []) fun y28 =>
 exIs y28.1 (some 0) (cnd (chkL [.str, (.int .i64), .bool, (.int .i64), (.int .i64)] y28.2.1) (cnd (chkU [] y28.2.2)
 (some ((.tuple [(.int .i64 (intV (gt y28.2.1 3))), (.bool true)]), [])) none) none)
 (exIs y28.1 none (cnd (chkL [.str, (.int .i64), .bool, (.int .i64), (.int .i64)] y28.2.1) (cnd (chkU [] y28.2.2)
 (some ((.tuple [(.int .i64 (intV (gt y28.2.1 1))), (.bool (boolV (gt y28.2.1 2)))]), [])) none) none)
 (none)))
noncomputable def to_Unit_l1T (s : Str) : (Int × Int) → Option ((Int × Int) ⊕ (Int ⊕ Unit))
 | (u_12, t_13) =>
 cnd (decide (t_13 < 4))
  (bnd (nthI s t_13) fun y15 =>
  bnd (st_IndexByte [48, 49, 50, 51, 52, 53, 54, 55, 56, 57, 97, 98, 99, 100, 101, 102] (bits .or .u8 (y15.toNat : Int) 32)) fun y17 =>
  cnd (decide (y17 < 0))
  (some (.inr (.inr ())))
  (bnd (nthI s t_13) fun y19 =>
  cnd (decide ((y19.toNat : Int) < 48))
   (some (.inr (.inr ())))
   (bnd (nthI s t_13) fun y21 =>
   cnd (decide ((y21.toNat : Int) > 57))
   (bnd (nthI s t_13) fun y23 =>
   cnd (decide ((y23.toNat : Int) < 65))
    (some (.inr (.inr ())))
    (some (.inl ((IntKind.wrap .i64 ((IntKind.wrap .i64 (16 * u_12)) + y17)), (IntKind.wrap .i64 (t_13 + 1))))))
   (some (.inl ((IntKind.wrap .i64 ((IntKind.wrap .i64 (16 * u_12)) + y17)), (IntKind.wrap .i64 (t_13 + 1))))))))
  (some (.inr (.inl u_12)))
abbrev to_Unit_l1R (s : Str) (st : Int × Int) (l : List PV) (u : UP) : Prop := l = [(.str s), (.int .i64 0), (.bool false), (.int .i64 st.1), (.int .i64 st.2)] ∧ u = []
abbrev to_Unit_l1X (s : Str) (p : Int ⊕ Unit) (r : Ex × List PV × UP) : Prop := elim p (fun (p : Int) => ∃ (t_25 : Int), r = (Ex.brk 0, [(.str s), (.int .i64 0), (.bool false), (.int .i64 p), (.int .i64 t_25)], [])) (fun q2 => (fun (p : Unit) => ∃ (u_26 : Int), ∃ (t_27 : Int), r = (Ex.ret, [(.str s), (.int .i64 0), (.bool false), (.int .i64 u_26), (.int .i64 t_27)], [])) q2)
noncomputable def to_Unit_B (s : Str) : Option (Int × Bool) :=
 cnd (decide ((List.length s : Int) < 4))
 (some (0, false))
 (bnd (tloop (to_Unit_l1T s) (0, 0)) fun e28_2 => elim e28_2
 (fun u_24 =>
 some (u_24, true))
 (fun p28 =>
 some (0, false)))
def to_Unit_ds : Decs := { decs := [(15, (.int .u8)), (17, (.int .i64)), (23, (.int .u8)), (29, (.int .u8)), (34, (.int .u8))], ups := [], loops := [(5, [], ⟨[.str, (.int .i64), .bool, (.int .i64), (.int .i64)], [], [(some 0, [.str, (.int .i64), .bool, (.int .i64), (.int .i64)], []), (none, [.str, (.int .i64), .bool, (.int .i64), (.int .i64)], [])]⟩)] }
set_option maxRecDepth 100000 in
theorem to_Unit_t1 (O : Orc) (LP : LBody → LBody) (s : Str) : evalBodyD Tryd.prog (MT 100) to_Unit_ds Tryd.f100.ntmps O LP Tryd.f100 [(.str s)] [] = to_Unit_T1 O LP s := by kernel_rfl
theorem to_Unit_l1_ok (s : Str) : ∀ st l u, to_Unit_l1R s st l u → Imp (to_Unit_l1T s st) (to_Unit_l1 O loopLim l u) (StepR (to_Unit_l1R s) (to_Unit_l1X s)) := by
 rintro ⟨u_12, t_13⟩ l u ⟨rfl, rfl⟩
 simp only [to_Unit_l1T, to_Unit_l1]
 refine Imp.chk rfl (Imp.chk rfl ?_)
 try simp only [evs, tys]
 refine Imp.cnd ?_ ?_
 ·refine Imp.op (f := fun a => .int .u8 (a.toNat : Int)) (fun a h => op_ixStr h) (fun a => rfl) fun y15 hy15 => ?_
  try simp only [evs, tys]
  refine Imp.call (f := st_IndexByteE) rfl (fun a h => by first | exact st_IndexByte_spec h | simpa only [evs, tys, evl] using st_IndexByte_spec h) (fun a => by first | rfl | simp only [st_IndexByteE, evk, chks]) fun y17 hy17 => ?_
  try simp only [st_IndexByteE, evs, tys]
  refine Imp.cnd ?_ ?_
  ·exact Imp.some (StepR.ret ⟨u_12, t_13, by first | rfl | simp only [evs, tys, evl, elim_inl, elim_inr]⟩)
  ·refine Imp.op (f := fun a => .int .u8 (a.toNat : Int)) (fun a h => op_ixStr h) (fun a => rfl) fun y19 hy19 => ?_
   try simp only [evs, tys]
   refine Imp.cnd ?_ ?_
   ·exact Imp.some (StepR.ret ⟨u_12, t_13, by first | rfl | simp only [evs, tys, evl, elim_inl, elim_inr]⟩)
   ·refine Imp.op (f := fun a => .int .u8 (a.toNat : Int)) (fun a h => op_ixStr h) (fun a => rfl) fun y21 hy21 => ?_
    try simp only [evs, tys]
    refine Imp.cnd ?_ ?_
    ·refine Imp.op (f := fun a => .int .u8 (a.toNat : Int)) (fun a h => op_ixStr h) (fun a => rfl) fun y23 hy23 => ?_
     try simp only [evs, tys]
     refine Imp.cnd ?_ ?_
     ·exact Imp.some (StepR.ret ⟨u_12, t_13, by first | rfl | simp only [evs, tys, evl, elim_inl, elim_inr]⟩)
     ·exact Imp.some (StepR.next ⟨by first | rfl | simp only [evs, tys, evl], rfl⟩)
    ·exact Imp.some (StepR.next ⟨by first | rfl | simp only [evs, tys, evl], rfl⟩)
 ·exact Imp.some (StepR.brk ⟨t_13, by first | rfl | simp only [evs, tys, evl, elim_inl, elim_inr]⟩)
theorem to_Unit_imp (s : Str) : Imp (to_Unit_B s) (to_Unit_T1 O loopLim s) (fun r v => v = (to_UnitE r, [])) := by
 simp only [to_Unit_B, to_Unit_T1]
 try simp only [evs, tys]
 refine Imp.cnd ?_ ?_
 ·exact Imp.some (by first | rfl | simp only [to_UnitE, evs, tys, evl])
 ·refine Imp.bnd (Imp.loop (to_Unit_l1_ok s) ⟨by first | rfl | simp only [evs, tys, evl], rfl⟩) ?_
  rintro (u_24 | p) vy28 hy28
  ·try simp only [elim_inl, elim_inr]
   obtain ⟨t_25, rfl⟩ := hy28
   refine Imp.exHit rfl (Imp.chk rfl (Imp.chk rfl ?_))
   try simp only [evs, tys]
   exact Imp.some (by first | rfl | simp only [to_UnitE, evs, tys, evl])
  ·try simp only [elim_inl, elim_inr]
   obtain ⟨u_26, t_27, rfl⟩ := hy28
   refine Imp.exMiss rfl ?_
   refine Imp.exHit rfl (Imp.chk rfl (Imp.chk rfl ?_))
   try simp only [evs, tys]
   exact Imp.some (by first | rfl | simp only [to_UnitE, evs, tys, evl])
theorem to_Unit_run {s : Str} {r : Int × Bool} (h : to_Unit_B s = some r) : to_Unit s = some r := by
 obtain ⟨v, hv, rfl⟩ := to_Unit_imp s r h
 exact tO_of (pair_inj to_UnitEj) (OL_runD to_Unit_ds rfl rfl Tryd.func100 ((to_Unit_t1 _ _ s).trans hv))
theorem st_IndexByte_run {s : Str} {c : Int} {r : Int} (h : tIndexByte s c = some r) : st_IndexByte s c = some r := tO_of (pair_inj st_IndexByteEj) (OL_ext (g := xIndexByte) rfl (xIndexByte_of h))
def ls_Join_l1 (O : Orc) (LP : LBody → LBody) : LBody := fun s1 s1u => cnd (chkL [(.sl false), .str, .bool, (.sl true), (.int .i64)] s1) (cnd (chkU [] s1u)
 (cnd (decide ((intV (gt s1 4)) < (List.length (esV (gt s1 0)) : Int)))
 (bnd (ix 1 (.slice (esV (gt s1 0)) [] false) (.int .i64 (intV (gt s1 4)))) fun x30 => cnd (chk (.ref (.int .i64)) x30)
 (cnd (decide ((intV (refV x30)) < 0))
 (some (.ret, [(.slice (esV (gt s1 0)) [] false), (.str []), (.bool false), (.slice (esV (gt s1 3)) [] true), (.int .i64 (intV (gt s1 4)))], []))
 (cnd (decide ((intV (refV x30)) > 65535))
 (some (.ret, [(.slice (esV (gt s1 0)) [] false), (.str []), (.bool false), (.slice (esV (gt s1 3)) [] true), (.int .i64 (intV (gt s1 4)))], []))
 (cnd (decide ((intV (refV x30)) ≥ 56320))
 (cnd (decide ((intV (refV x30)) ≤ 57343))
 (some (.ret, [(.slice (esV (gt s1 0)) [] false), (.str []), (.bool false), (.slice (esV (gt s1 3)) [] true), (.int .i64 (intV (gt s1 4)))], []))
 (cnd (decide ((intV (refV x30)) ≥ 55296))
 (cnd (decide ((intV (refV x30)) < 56320))
 (cnd ((IntKind.wrap .i64 ((intV (gt s1 4)) + 1)) == (List.length (esV (gt s1 0)) : Int))
 (some (.ret, [(.slice (esV (gt s1 0)) [] false), (.str []), (.bool false), (.slice (esV (gt s1 3)) [] true), (.int .i64 (IntKind.wrap .i64 ((intV (gt s1 4)) + 1)))], []))
 (bnd (ix 1 (.slice (esV (gt s1 0)) [] false) (.int .i64 (IntKind.wrap .i64 ((intV (gt s1 4)) + 1)))) fun x32 => cnd (chk (.ref (.int .i64)) x32)
 (cnd (decide ((intV (refV x32)) < 56320))
 (some (.ret, [(.slice (esV (gt s1 0)) [] false), (.str []), (.bool false), (.slice (esV (gt s1 3)) [] true), (.int .i64 (IntKind.wrap .i64 ((intV (gt s1 4)) + 1)))], []))
 (bnd (ix 1 (.slice (esV (gt s1 0)) [] false) (.int .i64 (IntKind.wrap .i64 ((intV (gt s1 4)) + 1)))) fun x34 => cnd (chk (.ref (.int .i64)) x34)
 (cnd (decide ((intV (refV x34)) > 57343))
 (some (.ret, [(.slice (esV (gt s1 0)) [] false), (.str []), (.bool false), (.slice (esV (gt s1 3)) [] true), (.int .i64 (IntKind.wrap .i64 ((intV (gt s1 4)) + 1)))], []))
 (bnd (ix 1 (.slice (esV (gt s1 0)) [] false) (.int .i64 (IntKind.wrap .i64 ((intV (gt s1 4)) + 1)))) fun x36 => cnd (chk (.ref (.int .i64)) x36)
 (callp O 34 [(.slice (esV (gt s1 3)) [] true), (.int .i32 (IntKind.wrap .i32 (IntKind.wrap .i64 ((IntKind.wrap .i64 ((IntKind.wrap .i64 (65536 + (IntKind.wrap .i64 (1024 * (IntKind.wrap .i64 ((intV (refV x30)) - 55296)))))) + (intV (refV x36)))) - 56320))))] fun x38 => cnd (chk (.sl true) x38)
 (some (.nrm, [(.slice (esV (gt s1 0)) [] false), (.str (strV (gt s1 1))), (.bool (boolV (gt s1 2))), (.slice (esV x38) [] true), (.int .i64 (IntKind.wrap .i64 ((IntKind.wrap .i64 ((intV (gt s1 4)) + 1)) + 1)))], [])) none) none)) none)) none))
 (callp O 34 [(.slice (esV (gt s1 3)) [] true), (.int .i32 (IntKind.wrap .i32 (intV (refV x30))))] fun x40 => cnd (chk (.sl true) x40)
 (some (.nrm, [(.slice (esV (gt s1 0)) [] false), (.str (strV (gt s1 1))), (.bool (boolV (gt s1 2))), (.slice (esV x40) [] true), (.int .i64 (IntKind.wrap .i64 ((intV (gt s1 4)) + 1)))], [])) none))
 (callp O 34 [(.slice (esV (gt s1 3)) [] true), (.int .i32 (IntKind.wrap .i32 (intV (refV x30))))] fun x42 => cnd (chk (.sl true) x42)
 (some (.nrm, [(.slice (esV (gt s1 0)) [] false), (.str (strV (gt s1 1))), (.bool (boolV (gt s1 2))), (.slice (esV x42) [] true), (.int .i64 (IntKind.wrap .i64 ((intV (gt s1 4)) + 1)))], [])) none)))
 (cnd (decide ((intV (refV x30)) ≥ 55296))
 (cnd (decide ((intV (refV x30)) < 56320))
 (cnd ((IntKind.wrap .i64 ((intV (gt s1 4)) + 1)) == (List.length (esV (gt s1 0)) : Int))
 (some (.ret, [(.slice (esV (gt s1 0)) [] false), (.str []), (.bool false), (.slice (esV (gt s1 3)) [] true), (.int .i64 (IntKind.wrap .i64 ((intV (gt s1 4)) + 1)))], []))
 (bnd (ix 1 (.slice (esV (gt s1 0)) [] false) (.int .i64 (IntKind.wrap .i64 ((intV (gt s1 4)) + 1)))) fun x44 => cnd (chk (.ref (.int .i64)) x44)
 (cnd (decide ((intV (refV x44)) < 56320))
 (some (.ret, [(.slice (esV (gt s1 0)) [] false), (.str []), (.bool false), (.slice (esV (gt s1 3)) [] true), (.int .i64 (IntKind.wrap .i64 ((intV (gt s1 4)) + 1)))], []))
 (bnd (ix 1 (.slice (esV (gt s1 0)) [] false) (.int .i64 (IntKind.wrap .i64 ((intV (gt s1 4)) + 1)))) fun x46 => cnd (chk (.ref (.int .i64)) x46)
 (cnd (decide ((intV (refV x46)) > 57343))
 (some (.ret, [(.slice (esV (gt s1 0)) [] false), (.str []), (.bool false), (.slice (esV (gt s1 3)) [] true), (.int .i64 (IntKind.wrap .i64 ((intV (gt s1 4)) + 1)))], []))
 (bnd (ix 1 (.slice (esV (gt s1 0)) [] false) (.int .i64 (IntKind.wrap .i64 ((intV (gt s1 4)) + 1)))) fun x48 => cnd (chk (.ref (.int .i64)) x48)
 (callp O 34 [(.slice (esV (gt s1 3)) [] true), (.int .i32 (IntKind.wrap .i32 (IntKind.wrap .i64 ((IntKind.wrap .i64 ((IntKind.wrap .i64 (65536 + (IntKind.wrap .i64 (1024 * (IntKind.wrap .i64 ((intV (refV x30)) - 55296)))))) + (intV (refV x48)))) - 56320))))] fun x50 => cnd (chk (.sl true) x50)
 (some (.nrm, [(.slice (esV (gt s1 0)) [] false), (.str (strV (gt s1 1))), (.bool (boolV (gt s1 2))), (.slice (esV x50) [] true), (.int .i64 (IntKind.wrap .i64 ((IntKind.wrap .i64 ((intV (gt s1 4)) + 1)) + 1)))], [])) none) none)) none)) none))
 (callp O 34 [(.slice (esV (gt s1 3)) [] true), (.int .i32 (IntKind.wrap .i32 (intV (refV x30))))] fun x52 => cnd (chk (.sl true) x52)
 (some (.nrm, [(.slice (esV (gt s1 0)) [] false), (.str (strV (gt s1 1))), (.bool (boolV (gt s1 2))), (.slice (esV x52) [] true), (.int .i64 (IntKind.wrap .i64 ((intV (gt s1 4)) + 1)))], [])) none))
 (callp O 34 [(.slice (esV (gt s1 3)) [] true), (.int .i32 (IntKind.wrap .i32 (intV (refV x30))))] fun x54 => cnd (chk (.sl true) x54)
 (some (.nrm, [(.slice (esV (gt s1 0)) [] false), (.str (strV (gt s1 1))), (.bool (boolV (gt s1 2))), (.slice (esV x54) [] true), (.int .i64 (IntKind.wrap .i64 ((intV (gt s1 4)) + 1)))], [])) none))))) none)
 (some (.brk 0, [(.slice (esV (gt s1 0)) [] false), (.str (strV (gt s1 1))), (.bool (boolV (gt s1 2))), (.slice (esV (gt s1 3)) [] true), (.int .i64 (intV (gt s1 4)))], []))) none) none
def ls_Join_T1 (O : Orc) (LP : LBody → LBody) (units : List Int) : Option (PV × UP) :=
 bnd (LP (ls_Join_l1 O LP) [(.slice (List.map (PV.int .i64) units) [] false), (.str []), (.bool false), (.slice [] [] true), (.int .i64 0)] []) fun y60 =>
 exIs y60.1 (some 0) (cnd (chkL [(.sl false), .str, .bool, (.sl true), (.int .i64)] y60.2.1) (cnd (chkU [] y60.2.2)
 (bnd (toStr (.slice (esV (gt y60.2.1 3)) [] false)) fun x61 => cnd (chk .str x61)
 (some ((.tuple [(.str (strV x61)), (.bool true)]), [])) none) none) none)
 (exIs y60.1 none (cnd (chkL [(.sl false), .str, .bool, (.sl true), (.int .i64)] y60.2.1) (cnd (chkU [] y60.2.2)
 (some ((.tuple [(.str (strV (gt y60.2.1 1))), (.bool (boolV (gt y60.2.1 2)))]), [])) none) none)
 (none))
noncomputable def ls_Join_l1T (units : List Int) : ((List Int) × Int) → Option (((List Int) × Int) ⊕ ((List Int) ⊕ Unit))
 | (b_28, i_29) =>
 cnd (decide (i_29 < (List.length units : Int)))
  (bnd (nthI units i_29) fun y31 =>
  cnd (decide (y31 < 0))
  (some (.inr (.inr ())))
  (cnd (decide (y31 > 65535))
   (some (.inr (.inr ())))
   (cnd (decide (y31 ≥ 56320))
   (cnd (decide (y31 ≤ 57343))
    (some (.inr (.inr ())))
    (cnd (decide (y31 ≥ 55296))
    (cnd (decide (y31 < 56320))
     (cnd ((IntKind.wrap .i64 (i_29 + 1)) == (List.length units : Int))
     (some (.inr (.inr ())))
     (bnd (nthI units (IntKind.wrap .i64 (i_29 + 1))) fun y33 =>
     cnd (decide (y33 < 56320))
      (some (.inr (.inr ())))
      (bnd (nthI units (IntKind.wrap .i64 (i_29 + 1))) fun y35 =>
      cnd (decide (y35 > 57343))
      (some (.inr (.inr ())))
      (bnd (nthI units (IntKind.wrap .i64 (i_29 + 1))) fun y37 =>
      bnd (uf_AppendRune b_28 (IntKind.wrap .i32 (IntKind.wrap .i64 ((IntKind.wrap .i64 ((IntKind.wrap .i64 (65536 + (IntKind.wrap .i64 (1024 * (IntKind.wrap .i64 (y31 - 55296)))))) + y37)) - 56320)))) fun y39 =>
      some (.inl (y39, (IntKind.wrap .i64 ((IntKind.wrap .i64 (i_29 + 1)) + 1))))))))
     (bnd (uf_AppendRune b_28 (IntKind.wrap .i32 y31)) fun y41 =>
     some (.inl (y41, (IntKind.wrap .i64 (i_29 + 1))))))
    (bnd (uf_AppendRune b_28 (IntKind.wrap .i32 y31)) fun y43 =>
    some (.inl (y43, (IntKind.wrap .i64 (i_29 + 1)))))))
   (cnd (decide (y31 ≥ 55296))
    (cnd (decide (y31 < 56320))
    (cnd ((IntKind.wrap .i64 (i_29 + 1)) == (List.length units : Int))
     (some (.inr (.inr ())))
     (bnd (nthI units (IntKind.wrap .i64 (i_29 + 1))) fun y45 =>
     cnd (decide (y45 < 56320))
     (some (.inr (.inr ())))
     (bnd (nthI units (IntKind.wrap .i64 (i_29 + 1))) fun y47 =>
     cnd (decide (y47 > 57343))
      (some (.inr (.inr ())))
      (bnd (nthI units (IntKind.wrap .i64 (i_29 + 1))) fun y49 =>
      bnd (uf_AppendRune b_28 (IntKind.wrap .i32 (IntKind.wrap .i64 ((IntKind.wrap .i64 ((IntKind.wrap .i64 (65536 + (IntKind.wrap .i64 (1024 * (IntKind.wrap .i64 (y31 - 55296)))))) + y49)) - 56320)))) fun y51 =>
      some (.inl (y51, (IntKind.wrap .i64 ((IntKind.wrap .i64 (i_29 + 1)) + 1))))))))
    (bnd (uf_AppendRune b_28 (IntKind.wrap .i32 y31)) fun y53 =>
    some (.inl (y53, (IntKind.wrap .i64 (i_29 + 1))))))
    (bnd (uf_AppendRune b_28 (IntKind.wrap .i32 y31)) fun y55 =>
    some (.inl (y55, (IntKind.wrap .i64 (i_29 + 1)))))))))
  (some (.inr (.inl b_28)))
abbrev ls_Join_l1R (units : List Int) (st : (List Int) × Int) (l : List PV) (u : UP) : Prop := l = [(.slice (List.map (PV.int .i64) units) [] false), (.str []), (.bool false), (.slice (List.map (PV.int .u8) st.1) [] true), (.int .i64 st.2)] ∧ u = []
abbrev ls_Join_l1X (units : List Int) (p : (List Int) ⊕ Unit) (r : Ex × List PV × UP) : Prop := elim p (fun (p : (List Int)) => ∃ (i_57 : Int), r = (Ex.brk 0, [(.slice (List.map (PV.int .i64) units) [] false), (.str []), (.bool false), (.slice (List.map (PV.int .u8) p) [] true), (.int .i64 i_57)], [])) (fun q2 => (fun (p : Unit) => ∃ (b_58 : List Int), ∃ (i_59 : Int), r = (Ex.ret, [(.slice (List.map (PV.int .i64) units) [] false), (.str []), (.bool false), (.slice (List.map (PV.int .u8) b_58) [] true), (.int .i64 i_59)], [])) q2)
noncomputable def ls_Join_B (units : List Int) : Option (Str × Bool) :=
 bnd (tloop (ls_Join_l1T units) ([], 0)) fun e60_2 => elim e60_2
 (fun b_56 =>
 bnd (some (bytesT b_56)) fun y62 =>
 some (y62, true))
 (fun p60 =>
 some ([], false))
def ls_Join_ds : Decs := { decs := [(15, (.ref (.int .i64))), (48, (.ref (.int .i64))), (55, (.ref (.int .i64))), (65, (.ref (.int .i64))), (72, (.sl true)), (74, .str)], ups := [], loops := [(3, [], ⟨[(.sl false), .str, .bool, (.sl true), (.int .i64)], [], [(some 0, [(.sl false), .str, .bool, (.sl true), (.int .i64)], []), (none, [(.sl false), .str, .bool, (.sl true), (.int .i64)], [])]⟩)] }
set_option maxRecDepth 100000 in
theorem ls_Join_t1 (O : Orc) (LP : LBody → LBody) (units : List Int) : evalBodyD Tryd.prog (MT 17) ls_Join_ds Tryd.f17.ntmps O LP Tryd.f17 [(.slice (List.map (PV.int .i64) units) [] false)] [] = ls_Join_T1 O LP units := by kernel_rfl
theorem ls_Join_l1_ok (units : List Int) : ∀ st l u, ls_Join_l1R units st l u → Imp (ls_Join_l1T units st) (ls_Join_l1 O loopLim l u) (StepR (ls_Join_l1R units) (ls_Join_l1X units)) := by
 rintro ⟨b_28, i_29⟩ l u ⟨rfl, rfl⟩
 simp only [ls_Join_l1T, ls_Join_l1]
 refine Imp.chk rfl (Imp.chk rfl ?_)
 try simp only [evs, tys]
 refine Imp.cnd ?_ ?_
 ·refine Imp.op (f := fun a => .ref ((PV.int .i64) a)) (fun a h => op_ix (enc := (PV.int .i64)) (by first | rfl | simp only [evs, tys, evl]) ⟨by first | rfl | simp only [evs, tys, evc], by decide⟩ h) (fun a => rfl) fun y31 hy31 => ?_
  try simp only [evs, tys]
  refine Imp.cnd ?_ ?_
  ·exact Imp.some (StepR.ret ⟨b_28, i_29, by first | rfl | simp only [evs, tys, evl, elim_inl, elim_inr]⟩)
  ·refine Imp.cnd ?_ ?_
   ·exact Imp.some (StepR.ret ⟨b_28, i_29, by first | rfl | simp only [evs, tys, evl, elim_inl, elim_inr]⟩)
   ·refine Imp.cnd ?_ ?_
    ·refine Imp.cnd ?_ ?_
     ·exact Imp.some (StepR.ret ⟨b_28, i_29, by first | rfl | simp only [evs, tys, evl, elim_inl, elim_inr]⟩)
     ·refine Imp.cnd ?_ ?_
      ·refine Imp.cnd ?_ ?_
       ·refine Imp.cnd ?_ ?_
        ·exact Imp.some (StepR.ret ⟨b_28, (IntKind.wrap .i64 (i_29 + 1)), by first | rfl | simp only [evs, tys, evl, elim_inl, elim_inr]⟩)
        ·refine Imp.op (f := fun a => .ref ((PV.int .i64) a)) (fun a h => op_ix (enc := (PV.int .i64)) (by first | rfl | simp only [evs, tys, evl]) ⟨by first | rfl | simp only [evs, tys, evc], by decide⟩ h) (fun a => rfl) fun y33 hy33 => ?_
         try simp only [evs, tys]
         refine Imp.cnd ?_ ?_
         ·exact Imp.some (StepR.ret ⟨b_28, (IntKind.wrap .i64 (i_29 + 1)), by first | rfl | simp only [evs, tys, evl, elim_inl, elim_inr]⟩)
         ·refine Imp.op (f := fun a => .ref ((PV.int .i64) a)) (fun a h => op_ix (enc := (PV.int .i64)) (by first | rfl | simp only [evs, tys, evl]) ⟨by first | rfl | simp only [evs, tys, evc], by decide⟩ h) (fun a => rfl) fun y35 hy35 => ?_
          try simp only [evs, tys]
          refine Imp.cnd ?_ ?_
          ·exact Imp.some (StepR.ret ⟨b_28, (IntKind.wrap .i64 (i_29 + 1)), by first | rfl | simp only [evs, tys, evl, elim_inl, elim_inr]⟩)
          ·refine Imp.op (f := fun a => .ref ((PV.int .i64) a)) (fun a h => op_ix (enc := (PV.int .i64)) (by first | rfl | simp only [evs, tys, evl]) ⟨by first | rfl | simp only [evs, tys, evc], by decide⟩ h) (fun a => rfl) fun y37 hy37 => ?_
           try simp only [evs, tys]
           refine Imp.call (f := uf_AppendRuneE) rfl (fun a h => by first | exact uf_AppendRune_spec h | simpa only [evs, tys, evl] using uf_AppendRune_spec h) (fun a => by first | rfl | simp only [uf_AppendRuneE, evk, chks]) fun y39 hy39 => ?_
           try simp only [uf_AppendRuneE, evs, tys]
           exact Imp.some (StepR.next ⟨by first | rfl | simp only [evs, tys, evl], rfl⟩)
       ·refine Imp.call (f := uf_AppendRuneE) rfl (fun a h => by first | exact uf_AppendRune_spec h | simpa only [evs, tys, evl] using uf_AppendRune_spec h) (fun a => by first | rfl | simp only [uf_AppendRuneE, evk, chks]) fun y41 hy41 => ?_
        try simp only [uf_AppendRuneE, evs, tys]
        exact Imp.some (StepR.next ⟨by first | rfl | simp only [evs, tys, evl], rfl⟩)
      ·refine Imp.call (f := uf_AppendRuneE) rfl (fun a h => by first | exact uf_AppendRune_spec h | simpa only [evs, tys, evl] using uf_AppendRune_spec h) (fun a => by first | rfl | simp only [uf_AppendRuneE, evk, chks]) fun y43 hy43 => ?_
       try simp only [uf_AppendRuneE, evs, tys]
       exact Imp.some (StepR.next ⟨by first | rfl | simp only [evs, tys, evl], rfl⟩)
    ·refine Imp.cnd ?_ ?_
     ·refine Imp.cnd ?_ ?_
      ·refine Imp.cnd ?_ ?_
       ·exact Imp.some (StepR.ret ⟨b_28, (IntKind.wrap .i64 (i_29 + 1)), by first | rfl | simp only [evs, tys, evl, elim_inl, elim_inr]⟩)
       ·refine Imp.op (f := fun a => .ref ((PV.int .i64) a)) (fun a h => op_ix (enc := (PV.int .i64)) (by first | rfl | simp only [evs, tys, evl]) ⟨by first | rfl | simp only [evs, tys, evc], by decide⟩ h) (fun a => rfl) fun y45 hy45 => ?_
        try simp only [evs, tys]
        refine Imp.cnd ?_ ?_
        ·exact Imp.some (StepR.ret ⟨b_28, (IntKind.wrap .i64 (i_29 + 1)), by first | rfl | simp only [evs, tys, evl, elim_inl, elim_inr]⟩)
        ·refine Imp.op (f := fun a => .ref ((PV.int .i64) a)) (fun a h => op_ix (enc := (PV.int .i64)) (by first | rfl | simp only [evs, tys, evl]) ⟨by first | rfl | simp only [evs, tys, evc], by decide⟩ h) (fun a => rfl) fun y47 hy47 => ?_
         try simp only [evs, tys]
         refine Imp.cnd ?_ ?_
         ·exact Imp.some (StepR.ret ⟨b_28, (IntKind.wrap .i64 (i_29 + 1)), by first | rfl | simp only [evs, tys, evl, elim_inl, elim_inr]⟩)
         ·refine Imp.op (f := fun a => .ref ((PV.int .i64) a)) (fun a h => op_ix (enc := (PV.int .i64)) (by first | rfl | simp only [evs, tys, evl]) ⟨by first | rfl | simp only [evs, tys, evc], by decide⟩ h) (fun a => rfl) fun y49 hy49 => ?_
          try simp only [evs, tys]
          refine Imp.call (f := uf_AppendRuneE) rfl (fun a h => by first | exact uf_AppendRune_spec h | simpa only [evs, tys, evl] using uf_AppendRune_spec h) (fun a => by first | rfl | simp only [uf_AppendRuneE, evk, chks]) fun y51 hy51 => ?_
          try simp only [uf_AppendRuneE, evs, tys]
          exact Imp.some (StepR.next ⟨by first | rfl | simp only [evs, tys, evl], rfl⟩)
      ·refine Imp.call (f := uf_AppendRuneE) rfl (fun a h => by first | exact uf_AppendRune_spec h | simpa only [evs, tys, evl] using uf_AppendRune_spec h) (fun a => by first | rfl | simp only [uf_AppendRuneE, evk, chks]) fun y53 hy53 => ?_
       try simp only [uf_AppendRuneE, evs, tys]
       exact Imp.some (StepR.next ⟨by first | rfl | simp only [evs, tys, evl], rfl⟩)
     ·refine Imp.call (f := uf_AppendRuneE) rfl (fun a h => by first | exact uf_AppendRune_spec h | simpa only [evs, tys, evl] using uf_AppendRune_spec h) (fun a => by first | rfl | simp only [uf_AppendRuneE, evk, chks]) fun y55 hy55 => ?_
      try simp only [uf_AppendRuneE, evs, tys]
      exact Imp.some (StepR.next ⟨by first | rfl | simp only [evs, tys, evl], rfl⟩)
 ·exact Imp.some (StepR.brk ⟨i_29, by first | rfl | simp only [evs, tys, evl, elim_inl, elim_inr]⟩)
theorem ls_Join_imp (units : List Int) : Imp (ls_Join_B units) (ls_Join_T1 O loopLim units) (fun r v => v = (ls_JoinE r, [])) := by
 simp only [ls_Join_B, ls_Join_T1]
 try simp only [evs, tys]
 refine Imp.bnd (Imp.loop (ls_Join_l1_ok units) ⟨by first | rfl | simp only [evs, tys, evl], rfl⟩) ?_
 rintro (b_56 | p) vy60 hy60
 ·try simp only [elim_inl, elim_inr]
  obtain ⟨i_57, rfl⟩ := hy60
  refine Imp.exHit rfl (Imp.chk rfl (Imp.chk rfl ?_))
  try simp only [evs, tys]
  refine Imp.op (f := fun a => .str a) (fun a h => op_toStr (by first | rfl | simp only [evs, tys, evl]) h) (fun a => rfl) fun y62 hy62 => ?_
  try simp only [evs, tys]
  exact Imp.some (by first | rfl | simp only [ls_JoinE, evs, tys, evl])
 ·try simp only [elim_inl, elim_inr]
  obtain ⟨b_58, i_59, rfl⟩ := hy60
  refine Imp.exMiss rfl ?_
  refine Imp.exHit rfl (Imp.chk rfl (Imp.chk rfl ?_))
  try simp only [evs, tys]
  exact Imp.some (by first | rfl | simp only [ls_JoinE, evs, tys, evl])
theorem ls_Join_run {units : List Int} {r : Str × Bool} (h : ls_Join_B units = some r) : ls_Join units = some r := by
 obtain ⟨v, hv, rfl⟩ := ls_Join_imp units r h
 exact tO_of (pair_inj ls_JoinEj) (OL_runD ls_Join_ds rfl rfl Tryd.func17 ((ls_Join_t1 _ _ units).trans hv))
def to_plain_T1 (O : Orc) (LP : LBody → LBody) (c : Int) : Option (PV × UP) :=
 cnd (c != 10)
 (some ((.bool (c != 13)), []))
 (some ((.bool false), []))
noncomputable def to_plain_B (c : Int) : Option Bool :=
 cnd (c != 10)
 (some (c != 13))
 (some false)
def to_plain_ds : Decs := { decs := [], ups := [], loops := [] }
set_option maxRecDepth 100000 in
theorem to_plain_t1 (O : Orc) (LP : LBody → LBody) (c : Int) : evalBodyD Tryd.prog (MT 53) to_plain_ds Tryd.f53.ntmps O LP Tryd.f53 [(.int .u8 c)] [] = to_plain_T1 O LP c := by kernel_rfl
theorem to_plain_imp (c : Int) : Imp (to_plain_B c) (to_plain_T1 O loopLim c) (fun r v => v = (to_plainE r, [])) := by
 simp only [to_plain_B, to_plain_T1]
 try simp only [evs, tys]
 refine Imp.cnd ?_ ?_
 ·exact Imp.some (by first | rfl | simp only [to_plainE, evs, tys, evl])
 ·exact Imp.some (by first | rfl | simp only [to_plainE, evs, tys, evl])
theorem to_plain_run {c : Int} {r : Bool} (h : to_plain_B c = some r) : to_plain c = some r := by
 obtain ⟨v, hv, rfl⟩ := to_plain_imp c r h
 exact tO_of (pair_inj to_plainEj) (OL_runD to_plain_ds rfl rfl Tryd.func53 ((to_plain_t1 _ _ c).trans hv))
def ls_Letter_T1 (O : Orc) (LP : LBody → LBody) (c : Int) : Option (PV × UP) :=
 cnd (decide (c ≥ 97))
 (cnd (decide (c ≤ 122))
 (some ((.bool true), []))
 (cnd (decide (c ≥ 65))
 (cnd (decide (c ≤ 90))
 (some ((.bool true), []))
 (some ((.bool (c == 95)), [])))
 (some ((.bool (c == 95)), []))))
 (cnd (decide (c ≥ 65))
 (cnd (decide (c ≤ 90))
 (some ((.bool true), []))
 (some ((.bool (c == 95)), [])))
 (some ((.bool (c == 95)), [])))
noncomputable def ls_Letter_B (c : Int) : Option Bool :=
 cnd (decide (c ≥ 97))
 (cnd (decide (c ≤ 122))
 (some true)
 (cnd (decide (c ≥ 65))
 (cnd (decide (c ≤ 90))
 (some true)
 (some (c == 95)))
 (some (c == 95))))
 (cnd (decide (c ≥ 65))
 (cnd (decide (c ≤ 90))
 (some true)
 (some (c == 95)))
 (some (c == 95)))
def ls_Letter_ds : Decs := { decs := [], ups := [], loops := [] }
set_option maxRecDepth 100000 in
theorem ls_Letter_t1 (O : Orc) (LP : LBody → LBody) (c : Int) : evalBodyD Tryd.prog (MT 55) ls_Letter_ds Tryd.f55.ntmps O LP Tryd.f55 [(.int .u8 c)] [] = ls_Letter_T1 O LP c := by kernel_rfl
theorem ls_Letter_imp (c : Int) : Imp (ls_Letter_B c) (ls_Letter_T1 O loopLim c) (fun r v => v = (ls_LetterE r, [])) := by
 simp only [ls_Letter_B, ls_Letter_T1]
 try simp only [evs, tys]
 refine Imp.cnd ?_ ?_
 ·refine Imp.cnd ?_ ?_
  ·exact Imp.some (by first | rfl | simp only [ls_LetterE, evs, tys, evl])
  ·refine Imp.cnd ?_ ?_
   ·refine Imp.cnd ?_ ?_
    ·exact Imp.some (by first | rfl | simp only [ls_LetterE, evs, tys, evl])
    ·exact Imp.some (by first | rfl | simp only [ls_LetterE, evs, tys, evl])
   ·exact Imp.some (by first | rfl | simp only [ls_LetterE, evs, tys, evl])
 ·refine Imp.cnd ?_ ?_
  ·refine Imp.cnd ?_ ?_
   ·exact Imp.some (by first | rfl | simp only [ls_LetterE, evs, tys, evl])
   ·exact Imp.some (by first | rfl | simp only [ls_LetterE, evs, tys, evl])
  ·exact Imp.some (by first | rfl | simp only [ls_LetterE, evs, tys, evl])
theorem ls_Letter_run {c : Int} {r : Bool} (h : ls_Letter_B c = some r) : ls_Letter c = some r := by
 obtain ⟨v, hv, rfl⟩ := ls_Letter_imp c r h
 exact tO_of (pair_inj ls_LetterEj) (OL_runD ls_Letter_ds rfl rfl Tryd.func55 ((ls_Letter_t1 _ _ c).trans hv))
def to_word_l1 (O : Orc) (LP : LBody → LBody) : LBody := fun s1 s1u => cnd (chkL [.str, (.int .i64)] s1) (cnd (chkU [] s1u)
 (cnd (decide ((intV (gt s1 1)) < (List.length (strV (gt s1 0)) : Int)))
 (bnd (ixStr (.str (strV (gt s1 0))) (.int .i64 (intV (gt s1 1)))) fun x11 => cnd (chk (.int .u8) x11)
 (callp O 55 [(.int .u8 (intV x11))] fun x13 => cnd (chk .bool x13)
 (cnd (boolV x13)
 (some (.nrm, [(.str (strV (gt s1 0))), (.int .i64 (IntKind.wrap .i64 ((intV (gt s1 1)) + 1)))], []))
 (cnd (decide ((intV (gt s1 1)) > 0))
 (bnd (ixStr (.str (strV (gt s1 0))) (.int .i64 (intV (gt s1 1)))) fun x15 => cnd (chk (.int .u8) x15)
 (callp O 57 [(.int .u8 (intV x15))] fun x17 => cnd (chk .bool x17)
 (cnd (boolV x17)
 (some (.nrm, [(.str (strV (gt s1 0))), (.int .i64 (IntKind.wrap .i64 ((intV (gt s1 1)) + 1)))], []))
 (some (.brk 0, [(.str (strV (gt s1 0))), (.int .i64 (intV (gt s1 1)))], []))) none) none)
 (some (.brk 0, [(.str (strV (gt s1 0))), (.int .i64 (intV (gt s1 1)))], [])))) none) none)
 (some (.brk 0, [(.str (strV (gt s1 0))), (.int .i64 (intV (gt s1 1)))], []))) none) none
def to_word_T1 (O : Orc) (LP : LBody → LBody) (s : Str) : Option (PV × UP) :=
 bnd (LP (to_word_l1 O LP) [(.str s), (.int .i64 0)] []) fun y20 =>
 exIs y20.1 (some 0) (cnd (chkL [.str, (.int .i64)] y20.2.1) (cnd (chkU [] y20.2.2)
 (some ((.int .i64 (intV (gt y20.2.1 1))), [])) none) none)
 (none)
noncomputable def to_word_l1T (s : Str) : Int → Option (Int ⊕ Int)
 | n_10 =>
 cnd (decide (n_10 < (List.length s : Int)))
  (bnd (nthI s n_10) fun y12 =>
  bnd (ls_Letter (y12.toNat : Int)) fun y14 =>
  cnd y14
  (some (.inl (IntKind.wrap .i64 (n_10 + 1))))
  (cnd (decide (n_10 > 0))
   (bnd (nthI s n_10) fun y16 =>
   bnd (ls_Digit (y16.toNat : Int)) fun y18 =>
   cnd y18
   (some (.inl (IntKind.wrap .i64 (n_10 + 1))))
   (some (.inr n_10)))
   (some (.inr n_10))))
  (some (.inr n_10))
abbrev to_word_l1R (s : Str) (st : Int) (l : List PV) (u : UP) : Prop := l = [(.str s), (.int .i64 st)] ∧ u = []
abbrev to_word_l1X (s : Str) (p : Int) (r : Ex × List PV × UP) : Prop := (fun (p : Int) => r = (Ex.brk 0, [(.str s), (.int .i64 p)], [])) p
noncomputable def to_word_B (s : Str) : Option Int :=
 bnd (tloop (to_word_l1T s) 0) fun n_19 =>
 some n_19
def to_word_ds : Decs := { decs := [(11, (.int .u8)), (12, .bool), (19, (.int .u8)), (20, .bool)], ups := [], loops := [(2, [], ⟨[.str, (.int .i64)], [], [(some 0, [.str, (.int .i64)], [])]⟩)] }
set_option maxRecDepth 100000 in
theorem to_word_t1 (O : Orc) (LP : LBody → LBody) (s : Str) : evalBodyD Tryd.prog (MT 56) to_word_ds Tryd.f56.ntmps O LP Tryd.f56 [(.str s)] [] = to_word_T1 O LP s := by kernel_rfl
theorem to_word_l1_ok (s : Str) : ∀ st l u, to_word_l1R s st l u → Imp (to_word_l1T s st) (to_word_l1 O loopLim l u) (StepR (to_word_l1R s) (to_word_l1X s)) := by
 rintro n_10 l u ⟨rfl, rfl⟩
 simp only [to_word_l1T, to_word_l1]
 refine Imp.chk rfl (Imp.chk rfl ?_)
 try simp only [evs, tys]
 refine Imp.cnd ?_ ?_
 ·refine Imp.op (f := fun a => .int .u8 (a.toNat : Int)) (fun a h => op_ixStr h) (fun a => rfl) fun y12 hy12 => ?_
  try simp only [evs, tys]
  refine Imp.call (f := ls_LetterE) rfl (fun a h => by first | exact ls_Letter_spec h | simpa only [evs, tys, evl] using ls_Letter_spec h) (fun a => by first | rfl | simp only [ls_LetterE, evk, chks]) fun y14 hy14 => ?_
  try simp only [ls_LetterE, evs, tys]
  refine Imp.cnd ?_ ?_
  ·exact Imp.some (StepR.next ⟨by first | rfl | simp only [evs, tys, evl], rfl⟩)
  ·refine Imp.cnd ?_ ?_
   ·refine Imp.op (f := fun a => .int .u8 (a.toNat : Int)) (fun a h => op_ixStr h) (fun a => rfl) fun y16 hy16 => ?_
    try simp only [evs, tys]
    refine Imp.call (f := ls_DigitE) rfl (fun a h => by first | exact ls_Digit_spec h | simpa only [evs, tys, evl] using ls_Digit_spec h) (fun a => by first | rfl | simp only [ls_DigitE, evk, chks]) fun y18 hy18 => ?_
    try simp only [ls_DigitE, evs, tys]
    refine Imp.cnd ?_ ?_
    ·exact Imp.some (StepR.next ⟨by first | rfl | simp only [evs, tys, evl], rfl⟩)
    ·exact Imp.some (StepR.brk (by first | rfl | simp only [evs, tys, evl, elim_inl, elim_inr]))
   ·exact Imp.some (StepR.brk (by first | rfl | simp only [evs, tys, evl, elim_inl, elim_inr]))
 ·exact Imp.some (StepR.brk (by first | rfl | simp only [evs, tys, evl, elim_inl, elim_inr]))
theorem to_word_imp (s : Str) : Imp (to_word_B s) (to_word_T1 O loopLim s) (fun r v => v = (to_wordE r, [])) := by
 simp only [to_word_B, to_word_T1]
 try simp only [evs, tys]
 refine Imp.bnd (Imp.loop (to_word_l1_ok s) ⟨by first | rfl | simp only [evs, tys, evl], rfl⟩) ?_
 rintro n_19 vy20 hy20
 cases hy20
 refine Imp.exHit rfl (Imp.chk rfl (Imp.chk rfl ?_))
 try simp only [evs, tys]
 exact Imp.some (by first | rfl | simp only [to_wordE, evs, tys, evl])
theorem to_word_run {s : Str} {r : Int} (h : to_word_B s = some r) : to_word s = some r := by
 obtain ⟨v, hv, rfl⟩ := to_word_imp s r h
 exact tO_of (pair_inj to_wordEj) (OL_runD to_word_ds rfl rfl Tryd.func56 ((to_word_t1 _ _ s).trans hv))
def ls_Digit_T1 (O : Orc) (LP : LBody → LBody) (c : Int) : Option (PV × UP) :=
 cnd (decide (c ≥ 48))
 (some ((.bool (decide (c ≤ 57))), []))
 (some ((.bool false), []))
noncomputable def ls_Digit_B (c : Int) : Option Bool :=
 cnd (decide (c ≥ 48))
 (some (decide (c ≤ 57)))
 (some false)
def ls_Digit_ds : Decs := { decs := [], ups := [], loops := [] }
set_option maxRecDepth 100000 in
theorem ls_Digit_t1 (O : Orc) (LP : LBody → LBody) (c : Int) : evalBodyD Tryd.prog (MT 57) ls_Digit_ds Tryd.f57.ntmps O LP Tryd.f57 [(.int .u8 c)] [] = ls_Digit_T1 O LP c := by kernel_rfl
theorem ls_Digit_imp (c : Int) : Imp (ls_Digit_B c) (ls_Digit_T1 O loopLim c) (fun r v => v = (ls_DigitE r, [])) := by
 simp only [ls_Digit_B, ls_Digit_T1]
 try simp only [evs, tys]
 refine Imp.cnd ?_ ?_
 ·exact Imp.some (by first | rfl | simp only [ls_DigitE, evs, tys, evl])
 ·exact Imp.some (by first | rfl | simp only [ls_DigitE, evs, tys, evl])
theorem ls_Digit_run {c : Int} {r : Bool} (h : ls_Digit_B c = some r) : ls_Digit c = some r := by
 obtain ⟨v, hv, rfl⟩ := ls_Digit_imp c r h
 exact tO_of (pair_inj ls_DigitEj) (OL_runD ls_Digit_ds rfl rfl Tryd.func57 ((ls_Digit_t1 _ _ c).trans hv))
def to_whole_T1 (O : Orc) (LP : LBody → LBody) (s : Str) : Option (PV × UP) :=
 callp O 49 [(.str s), (.str [45])] fun x1 => cnd (chk .bool x1)
 (cnd (boolV x1)
 (bnd (slcLo 0 (.str s) (.int .i64 1)) fun x3 => cnd (chk .str x3)
 (callp O 65 [(.str (strV x3))] fun x5 => cnd (chk (.int .i64) x5)
 (cnd ((intV x5) == 0)
 (some ((.int .i64 0), []))
 (bnd (ixStr (.str s) (.int .i64 1)) fun x7 => cnd (chk (.int .u8) x7)
 (cnd ((intV x7) == 48)
 (some ((.int .i64 2), []))
 (some ((.int .i64 (IntKind.wrap .i64 (1 + (intV x5)))), []))) none)) none) none)
 (bnd (slcLo 0 (.str s) (.int .i64 0)) fun x9 => cnd (chk .str x9)
 (callp O 65 [(.str (strV x9))] fun x11 => cnd (chk (.int .i64) x11)
 (cnd ((intV x11) == 0)
 (some ((.int .i64 0), []))
 (bnd (ixStr (.str s) (.int .i64 0)) fun x13 => cnd (chk (.int .u8) x13)
 (cnd ((intV x13) == 48)
 (some ((.int .i64 1), []))
 (some ((.int .i64 (IntKind.wrap .i64 (0 + (intV x11)))), []))) none)) none) none)) none
noncomputable def to_whole_B (s : Str) : Option Int :=
 bnd (st_HasPrefix s [45]) fun y2 =>
 cnd y2
 (bnd (tslc s 1 (List.length s)) fun y4 =>
 bnd (to_digits y4) fun y6 =>
 cnd (y6 == 0)
 (some 0)
 (bnd (nthI s 1) fun y8 =>
 cnd ((y8.toNat : Int) == 48)
 (some 2)
 (some (IntKind.wrap .i64 (1 + y6)))))
 (bnd (tslc s 0 (List.length s)) fun y10 =>
 bnd (to_digits y10) fun y12 =>
 cnd (y12 == 0)
 (some 0)
 (bnd (nthI s 0) fun y14 =>
 cnd ((y14.toNat : Int) == 48)
 (some 1)
 (some (IntKind.wrap .i64 (0 + y12)))))
def to_whole_ds : Decs := { decs := [(6, .bool), (9, .str), (10, (.int .i64)), (17, (.int .u8))], ups := [], loops := [] }
set_option maxRecDepth 100000 in
theorem to_whole_t1 (O : Orc) (LP : LBody → LBody) (s : Str) : evalBodyD Tryd.prog (MT 64) to_whole_ds Tryd.f64.ntmps O LP Tryd.f64 [(.str s)] [] = to_whole_T1 O LP s := by kernel_rfl
theorem to_whole_imp (s : Str) : Imp (to_whole_B s) (to_whole_T1 O loopLim s) (fun r v => v = (to_wholeE r, [])) := by
 simp only [to_whole_B, to_whole_T1]
 try simp only [evs, tys]
 refine Imp.call (f := st_HasPrefixE) rfl (fun a h => by first | exact st_HasPrefix_spec h | simpa only [evs, tys, evl] using st_HasPrefix_spec h) (fun a => by first | rfl | simp only [st_HasPrefixE, evk, chks]) fun y2 hy2 => ?_
 try simp only [st_HasPrefixE, evs, tys]
 refine Imp.cnd ?_ ?_
 ·refine Imp.op (f := fun a => .str a) (fun a h => op_sslcLo h) (fun a => rfl) fun y4 hy4 => ?_
  try simp only [evs, tys]
  refine Imp.call (f := to_digitsE) rfl (fun a h => by first | exact to_digits_spec h | simpa only [evs, tys, evl] using to_digits_spec h) (fun a => by first | rfl | simp only [to_digitsE, evk, chks]) fun y6 hy6 => ?_
  try simp only [to_digitsE, evs, tys]
  refine Imp.cnd ?_ ?_
  ·exact Imp.some (by first | rfl | simp only [to_wholeE, evs, tys, evl])
  ·refine Imp.op (f := fun a => .int .u8 (a.toNat : Int)) (fun a h => op_ixStr h) (fun a => rfl) fun y8 hy8 => ?_
   try simp only [evs, tys]
   refine Imp.cnd ?_ ?_
   ·exact Imp.some (by first | rfl | simp only [to_wholeE, evs, tys, evl])
   ·exact Imp.some (by first | rfl | simp only [to_wholeE, evs, tys, evl])
 ·refine Imp.op (f := fun a => .str a) (fun a h => op_sslcLo h) (fun a => rfl) fun y10 hy10 => ?_
  try simp only [evs, tys]
  refine Imp.call (f := to_digitsE) rfl (fun a h => by first | exact to_digits_spec h | simpa only [evs, tys, evl] using to_digits_spec h) (fun a => by first | rfl | simp only [to_digitsE, evk, chks]) fun y12 hy12 => ?_
  try simp only [to_digitsE, evs, tys]
  refine Imp.cnd ?_ ?_
  ·exact Imp.some (by first | rfl | simp only [to_wholeE, evs, tys, evl])
  ·refine Imp.op (f := fun a => .int .u8 (a.toNat : Int)) (fun a h => op_ixStr h) (fun a => rfl) fun y14 hy14 => ?_
   try simp only [evs, tys]
   refine Imp.cnd ?_ ?_
   ·exact Imp.some (by first | rfl | simp only [to_wholeE, evs, tys, evl])
   ·exact Imp.some (by first | rfl | simp only [to_wholeE, evs, tys, evl])
theorem to_whole_run {s : Str} {r : Int} (h : to_whole_B s = some r) : to_whole s = some r := by
 obtain ⟨v, hv, rfl⟩ := to_whole_imp s r h
 exact tO_of (pair_inj to_wholeEj) (OL_runD to_whole_ds rfl rfl Tryd.func64 ((to_whole_t1 _ _ s).trans hv))
def to_digits_l1 (O : Orc) (LP : LBody → LBody) : LBody := fun s1 s1u => cnd (chkL [.str, (.int .i64)] s1) (cnd (chkU [] s1u)
 (cnd (decide ((intV (gt s1 1)) < (List.length (strV (gt s1 0)) : Int)))
 (bnd (ixStr (.str (strV (gt s1 0))) (.int .i64 (intV (gt s1 1)))) fun x7 => cnd (chk (.int .u8) x7)
 (callp O 57 [(.int .u8 (intV x7))] fun x9 => cnd (chk .bool x9)
 (cnd (boolV x9)
 (some (.nrm, [(.str (strV (gt s1 0))), (.int .i64 (IntKind.wrap .i64 ((intV (gt s1 1)) + 1)))], []))
 (some (.brk 0, [(.str (strV (gt s1 0))), (.int .i64 (intV (gt s1 1)))], []))) none) none)
 (some (.brk 0, [(.str (strV (gt s1 0))), (.int .i64 (intV (gt s1 1)))], []))) none) none
def to_digits_T1 (O : Orc) (LP : LBody → LBody) (s : Str) : Option (PV × UP) :=
 bnd (LP (to_digits_l1 O LP) [(.str s), (.int .i64 0)] []) fun y12 =>
 exIs y12.1 (some 0) (cnd (chkL [.str, (.int .i64)] y12.2.1) (cnd (chkU [] y12.2.2)
 (some ((.int .i64 (intV (gt y12.2.1 1))), [])) none) none)
 (none)
noncomputable def to_digits_l1T (s : Str) : Int → Option (Int ⊕ Int)
 | n_6 =>
 cnd (decide (n_6 < (List.length s : Int)))
  (bnd (nthI s n_6) fun y8 =>
  bnd (ls_Digit (y8.toNat : Int)) fun y10 =>
  cnd y10
  (some (.inl (IntKind.wrap .i64 (n_6 + 1))))
  (some (.inr n_6)))
  (some (.inr n_6))
abbrev to_digits_l1R (s : Str) (st : Int) (l : List PV) (u : UP) : Prop := l = [(.str s), (.int .i64 st)] ∧ u = []
abbrev to_digits_l1X (s : Str) (p : Int) (r : Ex × List PV × UP) : Prop := (fun (p : Int) => r = (Ex.brk 0, [(.str s), (.int .i64 p)], [])) p
noncomputable def to_digits_B (s : Str) : Option Int :=
 bnd (tloop (to_digits_l1T s) 0) fun n_11 =>
 some n_11
def to_digits_ds : Decs := { decs := [(11, (.int .u8)), (12, .bool)], ups := [], loops := [(2, [], ⟨[.str, (.int .i64)], [], [(some 0, [.str, (.int .i64)], [])]⟩)] }
set_option maxRecDepth 100000 in
theorem to_digits_t1 (O : Orc) (LP : LBody → LBody) (s : Str) : evalBodyD Tryd.prog (MT 65) to_digits_ds Tryd.f65.ntmps O LP Tryd.f65 [(.str s)] [] = to_digits_T1 O LP s := by kernel_rfl
theorem to_digits_l1_ok (s : Str) : ∀ st l u, to_digits_l1R s st l u → Imp (to_digits_l1T s st) (to_digits_l1 O loopLim l u) (StepR (to_digits_l1R s) (to_digits_l1X s)) := by
 rintro n_6 l u ⟨rfl, rfl⟩
 simp only [to_digits_l1T, to_digits_l1]
 refine Imp.chk rfl (Imp.chk rfl ?_)
 try simp only [evs, tys]
 refine Imp.cnd ?_ ?_
 ·refine Imp.op (f := fun a => .int .u8 (a.toNat : Int)) (fun a h => op_ixStr h) (fun a => rfl) fun y8 hy8 => ?_
  try simp only [evs, tys]
  refine Imp.call (f := ls_DigitE) rfl (fun a h => by first | exact ls_Digit_spec h | simpa only [evs, tys, evl] using ls_Digit_spec h) (fun a => by first | rfl | simp only [ls_DigitE, evk, chks]) fun y10 hy10 => ?_
  try simp only [ls_DigitE, evs, tys]
  refine Imp.cnd ?_ ?_
  ·exact Imp.some (StepR.next ⟨by first | rfl | simp only [evs, tys, evl], rfl⟩)
  ·exact Imp.some (StepR.brk (by first | rfl | simp only [evs, tys, evl, elim_inl, elim_inr]))
 ·exact Imp.some (StepR.brk (by first | rfl | simp only [evs, tys, evl, elim_inl, elim_inr]))
theorem to_digits_imp (s : Str) : Imp (to_digits_B s) (to_digits_T1 O loopLim s) (fun r v => v = (to_digitsE r, [])) := by
 simp only [to_digits_B, to_digits_T1]
 try simp only [evs, tys]
 refine Imp.bnd (Imp.loop (to_digits_l1_ok s) ⟨by first | rfl | simp only [evs, tys, evl], rfl⟩) ?_
 rintro n_11 vy12 hy12
 cases hy12
 refine Imp.exHit rfl (Imp.chk rfl (Imp.chk rfl ?_))
 try simp only [evs, tys]
 exact Imp.some (by first | rfl | simp only [to_digitsE, evs, tys, evl])
theorem to_digits_run {s : Str} {r : Int} (h : to_digits_B s = some r) : to_digits s = some r := by
 obtain ⟨v, hv, rfl⟩ := to_digits_imp s r h
 exact tO_of (pair_inj to_digitsEj) (OL_runD to_digits_ds rfl rfl Tryd.func65 ((to_digits_t1 _ _ s).trans hv))
def to_power_T1 (O : Orc) (LP : LBody → LBody) (s : Str) : Option (PV × UP) :=
 cnd (s == ([] : Str))
 (some ((.int .i64 0), []))
 (bnd (ixStr (.str s) (.int .i64 0)) fun x1 => cnd (chk (.int .u8) x1)
 (cnd ((intV x1) != 101)
 (bnd (ixStr (.str s) (.int .i64 0)) fun x3 => cnd (chk (.int .u8) x3)
 (cnd ((intV x3) != 69)
 (some ((.int .i64 0), []))
 (cnd (decide ((List.length s : Int) > 1))
 (bnd (ixStr (.str s) (.int .i64 1)) fun x5 => cnd (chk (.int .u8) x5)
 (cnd ((intV x5) == 43)
 (bnd (slcLo 0 (.str s) (.int .i64 2)) fun x7 => cnd (chk .str x7)
 (callp O 65 [(.str (strV x7))] fun x9 => cnd (chk (.int .i64) x9)
 (cnd ((intV x9) == 0)
 (some ((.int .i64 0), []))
 (some ((.int .i64 (IntKind.wrap .i64 (2 + (intV x9)))), []))) none) none)
 (bnd (ixStr (.str s) (.int .i64 1)) fun x11 => cnd (chk (.int .u8) x11)
 (cnd ((intV x11) == 45)
 (bnd (slcLo 0 (.str s) (.int .i64 2)) fun x13 => cnd (chk .str x13)
 (callp O 65 [(.str (strV x13))] fun x15 => cnd (chk (.int .i64) x15)
 (cnd ((intV x15) == 0)
 (some ((.int .i64 0), []))
 (some ((.int .i64 (IntKind.wrap .i64 (2 + (intV x15)))), []))) none) none)
 (bnd (slcLo 0 (.str s) (.int .i64 1)) fun x17 => cnd (chk .str x17)
 (callp O 65 [(.str (strV x17))] fun x19 => cnd (chk (.int .i64) x19)
 (cnd ((intV x19) == 0)
 (some ((.int .i64 0), []))
 (some ((.int .i64 (IntKind.wrap .i64 (1 + (intV x19)))), []))) none) none)) none)) none)
 (bnd (slcLo 0 (.str s) (.int .i64 1)) fun x21 => cnd (chk .str x21)
 (callp O 65 [(.str (strV x21))] fun x23 => cnd (chk (.int .i64) x23)
 (cnd ((intV x23) == 0)
 (some ((.int .i64 0), []))
 (some ((.int .i64 (IntKind.wrap .i64 (1 + (intV x23)))), []))) none) none))) none)
 (cnd (decide ((List.length s : Int) > 1))
 (bnd (ixStr (.str s) (.int .i64 1)) fun x25 => cnd (chk (.int .u8) x25)
 (cnd ((intV x25) == 43)
 (bnd (slcLo 0 (.str s) (.int .i64 2)) fun x27 => cnd (chk .str x27)
 (callp O 65 [(.str (strV x27))] fun x29 => cnd (chk (.int .i64) x29)
 (cnd ((intV x29) == 0)
 (some ((.int .i64 0), []))
 (some ((.int .i64 (IntKind.wrap .i64 (2 + (intV x29)))), []))) none) none)
 (bnd (ixStr (.str s) (.int .i64 1)) fun x31 => cnd (chk (.int .u8) x31)
 (cnd ((intV x31) == 45)
 (bnd (slcLo 0 (.str s) (.int .i64 2)) fun x33 => cnd (chk .str x33)
 (callp O 65 [(.str (strV x33))] fun x35 => cnd (chk (.int .i64) x35)
 (cnd ((intV x35) == 0)
 (some ((.int .i64 0), []))
 (some ((.int .i64 (IntKind.wrap .i64 (2 + (intV x35)))), []))) none) none)
 (bnd (slcLo 0 (.str s) (.int .i64 1)) fun x37 => cnd (chk .str x37)
 (callp O 65 [(.str (strV x37))] fun x39 => cnd (chk (.int .i64) x39)
 (cnd ((intV x39) == 0)
 (some ((.int .i64 0), []))
 (some ((.int .i64 (IntKind.wrap .i64 (1 + (intV x39)))), []))) none) none)) none)) none)
 (bnd (slcLo 0 (.str s) (.int .i64 1)) fun x41 => cnd (chk .str x41)
 (callp O 65 [(.str (strV x41))] fun x43 => cnd (chk (.int .i64) x43)
 (cnd ((intV x43) == 0)
 (some ((.int .i64 0), []))
 (some ((.int .i64 (IntKind.wrap .i64 (1 + (intV x43)))), []))) none) none))) none)
noncomputable def to_power_B (s : Str) : Option Int :=
 cnd (s == ([] : Str))
 (some 0)
 (bnd (nthI s 0) fun y2 =>
 cnd ((y2.toNat : Int) != 101)
 (bnd (nthI s 0) fun y4 =>
 cnd ((y4.toNat : Int) != 69)
 (some 0)
 (cnd (decide ((List.length s : Int) > 1))
 (bnd (nthI s 1) fun y6 =>
 cnd ((y6.toNat : Int) == 43)
 (bnd (tslc s 2 (List.length s)) fun y8 =>
 bnd (to_digits y8) fun y10 =>
 cnd (y10 == 0)
 (some 0)
 (some (IntKind.wrap .i64 (2 + y10))))
 (bnd (nthI s 1) fun y12 =>
 cnd ((y12.toNat : Int) == 45)
 (bnd (tslc s 2 (List.length s)) fun y14 =>
 bnd (to_digits y14) fun y16 =>
 cnd (y16 == 0)
 (some 0)
 (some (IntKind.wrap .i64 (2 + y16))))
 (bnd (tslc s 1 (List.length s)) fun y18 =>
 bnd (to_digits y18) fun y20 =>
 cnd (y20 == 0)
 (some 0)
 (some (IntKind.wrap .i64 (1 + y20))))))
 (bnd (tslc s 1 (List.length s)) fun y22 =>
 bnd (to_digits y22) fun y24 =>
 cnd (y24 == 0)
 (some 0)
 (some (IntKind.wrap .i64 (1 + y24))))))
 (cnd (decide ((List.length s : Int) > 1))
 (bnd (nthI s 1) fun y26 =>
 cnd ((y26.toNat : Int) == 43)
 (bnd (tslc s 2 (List.length s)) fun y28 =>
 bnd (to_digits y28) fun y30 =>
 cnd (y30 == 0)
 (some 0)
 (some (IntKind.wrap .i64 (2 + y30))))
 (bnd (nthI s 1) fun y32 =>
 cnd ((y32.toNat : Int) == 45)
 (bnd (tslc s 2 (List.length s)) fun y34 =>
 bnd (to_digits y34) fun y36 =>
 cnd (y36 == 0)
 (some 0)
 (some (IntKind.wrap .i64 (2 + y36))))
 (bnd (tslc s 1 (List.length s)) fun y38 =>
 bnd (to_digits y38) fun y40 =>
 cnd (y40 == 0)
 (some 0)
 (some (IntKind.wrap .i64 (1 + y40))))))
 (bnd (tslc s 1 (List.length s)) fun y42 =>
 bnd (to_digits y42) fun y44 =>
 cnd (y44 == 0)
 (some 0)
 (some (IntKind.wrap .i64 (1 + y44))))))
def to_power_ds : Decs := { decs := [(9, (.int .u8)), (13, (.int .u8)), (22, (.int .u8)), (26, (.int .u8)), (32, .str), (33, (.int .i64))], ups := [], loops := [] }
set_option maxRecDepth 100000 in
theorem to_power_t1 (O : Orc) (LP : LBody → LBody) (s : Str) : evalBodyD Tryd.prog (MT 66) to_power_ds Tryd.f66.ntmps O LP Tryd.f66 [(.str s)] [] = to_power_T1 O LP s := by kernel_rfl
theorem to_power_imp (s : Str) : Imp (to_power_B s) (to_power_T1 O loopLim s) (fun r v => v = (to_powerE r, [])) := by
 simp only [to_power_B, to_power_T1]
 try simp only [evs, tys]
 refine Imp.cnd ?_ ?_
 ·exact Imp.some (by first | rfl | simp only [to_powerE, evs, tys, evl])
 ·refine Imp.op (f := fun a => .int .u8 (a.toNat : Int)) (fun a h => op_ixStr h) (fun a => rfl) fun y2 hy2 => ?_
  try simp only [evs, tys]
  refine Imp.cnd ?_ ?_
  ·refine Imp.op (f := fun a => .int .u8 (a.toNat : Int)) (fun a h => op_ixStr h) (fun a => rfl) fun y4 hy4 => ?_
   try simp only [evs, tys]
   refine Imp.cnd ?_ ?_
   ·exact Imp.some (by first | rfl | simp only [to_powerE, evs, tys, evl])
   ·refine Imp.cnd ?_ ?_
    ·refine Imp.op (f := fun a => .int .u8 (a.toNat : Int)) (fun a h => op_ixStr h) (fun a => rfl) fun y6 hy6 => ?_
     try simp only [evs, tys]
     refine Imp.cnd ?_ ?_
     ·refine Imp.op (f := fun a => .str a) (fun a h => op_sslcLo h) (fun a => rfl) fun y8 hy8 => ?_
      try simp only [evs, tys]
      refine Imp.call (f := to_digitsE) rfl (fun a h => by first | exact to_digits_spec h | simpa only [evs, tys, evl] using to_digits_spec h) (fun a => by first | rfl | simp only [to_digitsE, evk, chks]) fun y10 hy10 => ?_
      try simp only [to_digitsE, evs, tys]
      refine Imp.cnd ?_ ?_
      ·exact Imp.some (by first | rfl | simp only [to_powerE, evs, tys, evl])
      ·exact Imp.some (by first | rfl | simp only [to_powerE, evs, tys, evl])
     ·refine Imp.op (f := fun a => .int .u8 (a.toNat : Int)) (fun a h => op_ixStr h) (fun a => rfl) fun y12 hy12 => ?_
      try simp only [evs, tys]
      refine Imp.cnd ?_ ?_
      ·refine Imp.op (f := fun a => .str a) (fun a h => op_sslcLo h) (fun a => rfl) fun y14 hy14 => ?_
       try simp only [evs, tys]
       refine Imp.call (f := to_digitsE) rfl (fun a h => by first | exact to_digits_spec h | simpa only [evs, tys, evl] using to_digits_spec h) (fun a => by first | rfl | simp only [to_digitsE, evk, chks]) fun y16 hy16 => ?_
       try simp only [to_digitsE, evs, tys]
       refine Imp.cnd ?_ ?_
       ·exact Imp.some (by first | rfl | simp only [to_powerE, evs, tys, evl])
       ·exact Imp.some (by first | rfl | simp only [to_powerE, evs, tys, evl])
      ·refine Imp.op (f := fun a => .str a) (fun a h => op_sslcLo h) (fun a => rfl) fun y18 hy18 => ?_
       try simp only [evs, tys]
       refine Imp.call (f := to_digitsE) rfl (fun a h => by first | exact to_digits_spec h | simpa only [evs, tys, evl] using to_digits_spec h) (fun a => by first | rfl | simp only [to_digitsE, evk, chks]) fun y20 hy20 => ?_
       try simp only [to_digitsE, evs, tys]
       refine Imp.cnd ?_ ?_
       ·exact Imp.some (by first | rfl | simp only [to_powerE, evs, tys, evl])
       ·exact Imp.some (by first | rfl | simp only [to_powerE, evs, tys, evl])
    ·refine Imp.op (f := fun a => .str a) (fun a h => op_sslcLo h) (fun a => rfl) fun y22 hy22 => ?_
     try simp only [evs, tys]
     refine Imp.call (f := to_digitsE) rfl (fun a h => by first | exact to_digits_spec h | simpa only [evs, tys, evl] using to_digits_spec h) (fun a => by first | rfl | simp only [to_digitsE, evk, chks]) fun y24 hy24 => ?_
     try simp only [to_digitsE, evs, tys]
     refine Imp.cnd ?_ ?_
     ·exact Imp.some (by first | rfl | simp only [to_powerE, evs, tys, evl])
     ·exact Imp.some (by first | rfl | simp only [to_powerE, evs, tys, evl])
  ·refine Imp.cnd ?_ ?_
   ·refine Imp.op (f := fun a => .int .u8 (a.toNat : Int)) (fun a h => op_ixStr h) (fun a => rfl) fun y26 hy26 => ?_
    try simp only [evs, tys]
    refine Imp.cnd ?_ ?_
    ·refine Imp.op (f := fun a => .str a) (fun a h => op_sslcLo h) (fun a => rfl) fun y28 hy28 => ?_
     try simp only [evs, tys]
     refine Imp.call (f := to_digitsE) rfl (fun a h => by first | exact to_digits_spec h | simpa only [evs, tys, evl] using to_digits_spec h) (fun a => by first | rfl | simp only [to_digitsE, evk, chks]) fun y30 hy30 => ?_
     try simp only [to_digitsE, evs, tys]
     refine Imp.cnd ?_ ?_
     ·exact Imp.some (by first | rfl | simp only [to_powerE, evs, tys, evl])
     ·exact Imp.some (by first | rfl | simp only [to_powerE, evs, tys, evl])
    ·refine Imp.op (f := fun a => .int .u8 (a.toNat : Int)) (fun a h => op_ixStr h) (fun a => rfl) fun y32 hy32 => ?_
     try simp only [evs, tys]
     refine Imp.cnd ?_ ?_
     ·refine Imp.op (f := fun a => .str a) (fun a h => op_sslcLo h) (fun a => rfl) fun y34 hy34 => ?_
      try simp only [evs, tys]
      refine Imp.call (f := to_digitsE) rfl (fun a h => by first | exact to_digits_spec h | simpa only [evs, tys, evl] using to_digits_spec h) (fun a => by first | rfl | simp only [to_digitsE, evk, chks]) fun y36 hy36 => ?_
      try simp only [to_digitsE, evs, tys]
      refine Imp.cnd ?_ ?_
      ·exact Imp.some (by first | rfl | simp only [to_powerE, evs, tys, evl])
      ·exact Imp.some (by first | rfl | simp only [to_powerE, evs, tys, evl])
     ·refine Imp.op (f := fun a => .str a) (fun a h => op_sslcLo h) (fun a => rfl) fun y38 hy38 => ?_
      try simp only [evs, tys]
      refine Imp.call (f := to_digitsE) rfl (fun a h => by first | exact to_digits_spec h | simpa only [evs, tys, evl] using to_digits_spec h) (fun a => by first | rfl | simp only [to_digitsE, evk, chks]) fun y40 hy40 => ?_
      try simp only [to_digitsE, evs, tys]
      refine Imp.cnd ?_ ?_
      ·exact Imp.some (by first | rfl | simp only [to_powerE, evs, tys, evl])
      ·exact Imp.some (by first | rfl | simp only [to_powerE, evs, tys, evl])
   ·refine Imp.op (f := fun a => .str a) (fun a h => op_sslcLo h) (fun a => rfl) fun y42 hy42 => ?_
    try simp only [evs, tys]
    refine Imp.call (f := to_digitsE) rfl (fun a h => by first | exact to_digits_spec h | simpa only [evs, tys, evl] using to_digits_spec h) (fun a => by first | rfl | simp only [to_digitsE, evk, chks]) fun y44 hy44 => ?_
    try simp only [to_digitsE, evs, tys]
    refine Imp.cnd ?_ ?_
    ·exact Imp.some (by first | rfl | simp only [to_powerE, evs, tys, evl])
    ·exact Imp.some (by first | rfl | simp only [to_powerE, evs, tys, evl])
theorem to_power_run {s : Str} {r : Int} (h : to_power_B s = some r) : to_power s = some r := by
 obtain ⟨v, hv, rfl⟩ := to_power_imp s r h
 exact tO_of (pair_inj to_powerEj) (OL_runD to_power_ds rfl rfl Tryd.func66 ((to_power_t1 _ _ s).trans hv))
theorem uf_DecodeRuneInString_run {s : Str} {r : Int × Int} (h : tDecode s = some r) : uf_DecodeRuneInString s = some r := tO_of (pair_inj uf_DecodeRuneInStringEj) (OL_ext (g := xDecode) rfl (xDecode_of h))
def sl_HasPrefix_T1 (O : Orc) (LP : LBody → LBody) (s : Str) (prefix0 : Str) : Option (PV × UP) :=
 cnd (decide ((List.length s : Int) ≥ (List.length prefix0 : Int)))
 (bnd (slcHi 0 (.str s) (.int .i64 (List.length prefix0 : Int))) fun x1 => cnd (chk .str x1)
 (some ((.bool ((strV x1) == prefix0)), [])) none)
 (some ((.bool false), []))
noncomputable def sl_HasPrefix_B (s : Str) (prefix0 : Str) : Option Bool :=
 cnd (decide ((List.length s : Int) ≥ (List.length prefix0 : Int)))
 (bnd (tslc s 0 (List.length prefix0 : Int)) fun y2 =>
 some (y2 == prefix0))
 (some false)
def sl_HasPrefix_ds : Decs := { decs := [(14, .str)], ups := [], loops := [] }
set_option maxRecDepth 100000 in
theorem sl_HasPrefix_t1 (O : Orc) (LP : LBody → LBody) (s : Str) (prefix0 : Str) : evalBodyD Tryd.prog (MT 80) sl_HasPrefix_ds Tryd.f80.ntmps O LP Tryd.f80 [(.str s), (.str prefix0)] [] = sl_HasPrefix_T1 O LP s prefix0 := by kernel_rfl
theorem sl_HasPrefix_imp (s : Str) (prefix0 : Str) : Imp (sl_HasPrefix_B s prefix0) (sl_HasPrefix_T1 O loopLim s prefix0) (fun r v => v = (sl_HasPrefixE r, [])) := by
 simp only [sl_HasPrefix_B, sl_HasPrefix_T1]
 try simp only [evs, tys]
 refine Imp.cnd ?_ ?_
 ·refine Imp.op (f := fun a => .str a) (fun a h => op_sslcHi h) (fun a => rfl) fun y2 hy2 => ?_
  try simp only [evs, tys]
  exact Imp.some (by first | rfl | simp only [sl_HasPrefixE, evs, tys, evl])
 ·exact Imp.some (by first | rfl | simp only [sl_HasPrefixE, evs, tys, evl])
theorem sl_HasPrefix_run {s : Str} {prefix0 : Str} {r : Bool} (h : sl_HasPrefix_B s prefix0 = some r) : sl_HasPrefix s prefix0 = some r := by
 obtain ⟨v, hv, rfl⟩ := sl_HasPrefix_imp s prefix0 r h
 exact tO_of (pair_inj sl_HasPrefixEj) (OL_runD sl_HasPrefix_ds rfl rfl Tryd.func80 ((sl_HasPrefix_t1 _ _ s prefix0).trans hv))
def bo_Value_l1 (O : Orc) (LP : LBody → LBody) : LBody := fun s6 s6u => cnd (chkL [(.rsl 0 7 1), (.int .i64), (.int .i64), (.vec 1)] s6) (cnd (chkU [] s6u)
 (cnd (decide ((intV (gt s6 2)) < ((rlnV (gt s6 0)) : Int)))
  (bnd (ix 1 (.rsl 0 7 (rlnV (gt s6 0)) 1) (.int .i64 (intV (gt s6 2)))) fun x23 => cnd (chk (.ptx 0 7) x23)
  (bnd (vload 1 (vecV (gt s6 3)) (offV x23) 1 false) fun x25 => cnd (chk .str x25)
  (bnd (ix 1 (.rsl 0 7 (rlnV (gt s6 0)) 1) (.int .i64 (intV (gt s6 2)))) fun x27 => cnd (chk (.ptx 0 7) x27)
  (bnd (vload 1 (vecV (gt s6 3)) (offV x27) 1 false) fun x29 => cnd (chk .str x29)
  (bnd (slcLo 0 (.str (strV x25)) (.int .i64 (if (List.length (strV x29) : Int) < (intV (gt s6 1)) then (List.length (strV x29) : Int) else (intV (gt s6 1))))) fun x31 => cnd (chk .str x31)
  (bnd (ix 1 (.rsl 0 7 (rlnV (gt s6 0)) 1) (.int .i64 (intV (gt s6 2)))) fun x33 => cnd (chk (.ptx 0 7) x33)
  (bnd (vput 1 (vecV (gt s6 3)) (offV x33) [(.str (strV x31))]) fun x35 =>
  some (.nrm, [(.rsl 0 7 (rlnV (gt s6 0)) 1), (.int .i64 (intV (gt s6 1))), (.int .i64 (IntKind.wrap .i64 ((intV (gt s6 2)) + 1))), (.vec 1 x35)], [])) none) none) none) none) none) none)
  (some (.brk 0, [(.rsl 0 7 (rlnV (gt s6 0)) 1), (.int .i64 (intV (gt s6 1))), (.int .i64 (intV (gt s6 2))), (.vec 1 (vecV (gt s6 3)))], []))) none) none
def bo_Value_l2 (O : Orc) (LP : LBody → LBody) : LBody := fun s40 s40u => cnd (chkL [(.slb false)] s40) (cnd (chkU [] s40u)
 (cnd (decide ((List.length (esV (gt s40 0)) : Int) > 0))
 (bnd (ix 1 (.slice (esV (gt s40 0)) [] false) (.int .i64 0)) fun x49 => cnd (chk (.ref .str) x49)
 (callp O 39 [(.str (strV (refV x49)))] fun x51 => cnd (chk .bool x51)
 (cnd (boolV x51)
 (bnd (slcLo 1 (.slice (esV (gt s40 0)) [] false) (.int .i64 1)) fun x53 => cnd (chk (.slb false) x53)
 (some (.nrm, [(.slice (esV x53) (bsV x53) false)], [])) none)
 (some (.brk 2, [(.slice (esV (gt s40 0)) (bsV (gt s40 0)) false)], []))) none) none)
 (some (.brk 2, [(.slice (esV (gt s40 0)) (bsV (gt s40 0)) false)], []))) none) none
def bo_Value_l3 (O : Orc) (LP : LBody → LBody) : LBody := fun s58 s58u => cnd (chkL [(.slb false)] s58) (cnd (chkU [] s58u)
 (cnd (decide ((List.length (esV (gt s58 0)) : Int) > 0))
 (bnd (ix 1 (.slice (esV (gt s58 0)) [] false) (.int .i64 (IntKind.wrap .i64 ((List.length (esV (gt s58 0)) : Int) - 1)))) fun x67 => cnd (chk (.ref .str) x67)
 (callp O 39 [(.str (strV (refV x67)))] fun x69 => cnd (chk .bool x69)
 (cnd (boolV x69)
 (bnd (slcHi 1 (.slice (esV (gt s58 0)) [] false) (.int .i64 (IntKind.wrap .i64 ((List.length (esV (gt s58 0)) : Int) - 1)))) fun x71 => cnd (chk (.slb false) x71)
 (some (.nrm, [(.slice (esV x71) (bsV x71) false)], [])) none)
 (some (.brk 4, [(.slice (esV (gt s58 0)) (bsV (gt s58 0)) false)], []))) none) none)
 (some (.brk 4, [(.slice (esV (gt s58 0)) (bsV (gt s58 0)) false)], []))) none) none
def bo_Value_T1 (O : Orc) (LP : LBody → LBody) (raw : Str) : Option (PV × UP) :=
 callp O 37 [(.str raw)] fun x2 => bnd (thawV 1 x2) fun x3 =>
 cnd ((Nat.ble (List.length x3) (List.length x3)) && true)
 (callp O 38 [(.slice (List.take (List.length x3) x3) [] false)] fun x4 => cnd (scal x4) (cnd (chk (.int .i64) x4)
 (cnd (decide ((intV x4) > 0))
 (bnd (LP (bo_Value_l1 O LP) [(.rsl 0 7 (List.length x3) 1), (.int .i64 (intV x4)), (.int .i64 1), (.vec 1 x3)] []) fun y39 =>
 exIs y39.1 (some 0) (cnd (chkL [(.rsl 0 7 1), (.int .i64), (.int .i64), (.vec 1)] y39.2.1) (cnd (chkU [] y39.2.2)
 (cnd (Nat.ble (rlnV (gt y39.2.1 0)) (List.length (vecV (gt y39.2.1 3))))
 (bnd (LP (bo_Value_l2 O LP) [(.slice (List.take (rlnV (gt y39.2.1 0)) (vecV (gt y39.2.1 3))) [] false)] []) fun y57 =>
 exIs y57.1 (some 2) (cnd (chkL [(.slb false)] y57.2.1) (cnd (chkU [] y57.2.2)
 (bnd (LP (bo_Value_l3 O LP) [(.slice (esV (gt y57.2.1 0)) (bsV (gt y57.2.1 0)) false)] []) fun y75 =>
 exIs y75.1 (some 4) (cnd (chkL [(.slb false)] y75.2.1) (cnd (chkU [] y75.2.2)
 (callp O 40 [(.slice (esV (gt y75.2.1 0)) [] false), (.str [10])] fun x76 => cnd (chk .str x76)
 (some ((.str (strV x76)), [])) none) none) none)
 (none)) none) none)
 (none))
 (none)) none) none)
 (none))
 (cnd (Nat.ble (List.length x3) (List.length x3))
 (bnd (LP (bo_Value_l2 O LP) [(.slice (List.take (List.length x3) x3) [] false)] []) fun y95 =>
 exIs y95.1 (some 2) (cnd (chkL [(.slb false)] y95.2.1) (cnd (chkU [] y95.2.2)
 (bnd (LP (bo_Value_l3 O LP) [(.slice (esV (gt y95.2.1 0)) (bsV (gt y95.2.1 0)) false)] []) fun y113 =>
 exIs y113.1 (some 4) (cnd (chkL [(.slb false)] y113.2.1) (cnd (chkU [] y113.2.2)
 (callp O 40 [(.slice (esV (gt y113.2.1 0)) [] false), (.str [10])] fun x114 => cnd (chk .str x114)
 (some ((.str (strV x114)), [])) none) none) none)
 (none)) none) none)
 (none))
 (none))) none) none)
 (none)
noncomputable def bo_Value_l1T (y1 : List Str) (y5 : Int) : (Int × (List Str)) → Option ((Int × (List Str)) ⊕ ((List Str)))
 | (i_21, b_22) =>
 cnd (decide (i_21 < ((List.length y1) : Int)))
  (bnd (tixR (List.length y1) i_21) fun y24 =>
  bnd (tget b_22 y24 (fun z : Str => z)) fun y26 =>
  bnd (tixR (List.length y1) i_21) fun y28 =>
  bnd (tget b_22 y28 (fun z : Str => z)) fun y30 =>
  bnd (tslc y26 (if (List.length y30 : Int) < y5 then (List.length y30 : Int) else y5) (List.length y26)) fun y32 =>
  bnd (tixR (List.length y1) i_21) fun y34 =>
  bnd (tput b_22 y34 (fun _ : Str => y32)) fun y36 =>
  some (.inl ((IntKind.wrap .i64 (i_21 + 1)), y36)))
  (some (.inr b_22))
abbrev bo_Value_l1R (y1 : List Str) (y5 : Int) (st : Int × (List Str)) (l : List PV) (u : UP) : Prop := l = [(.rsl 0 7 (List.length y1) 1), (.int .i64 y5), (.int .i64 st.1), (.vec 1 (List.map PV.str st.2))] ∧ u = []
abbrev bo_Value_l1X (y1 : List Str) (y5 : Int) (p : (List Str)) (r : Ex × List PV × UP) : Prop := (fun (p : (List Str)) => ∃ (i_37 : Int), r = (Ex.brk 0, [(.rsl 0 7 (List.length y1) 1), (.int .i64 y5), (.int .i64 i_37), (.vec 1 (List.map PV.str p))], [])) p
noncomputable def bo_Value_l2T : ((List Str)) → Option (((List Str)) ⊕ ((List Str)))
 | l_48 =>
 cnd (decide ((List.length l_48 : Int) > 0))
  (bnd (nthI l_48 0) fun y50 =>
  bnd (bo_bare y50) fun y52 =>
  cnd y52
  (bnd (tslc (l_48 : List Str) 1 (List.length l_48)) fun y54 =>
  some (.inl y54))
  (some (.inr l_48)))
  (some (.inr l_48))
abbrev bo_Value_l2R (st : (List Str)) (l : List PV) (u : UP) : Prop := ∃ (jb47 : List Str), l = [(.slice (List.map PV.str st) (List.map PV.str jb47) false)] ∧ u = []
abbrev bo_Value_l2X (p : (List Str)) (r : Ex × List PV × UP) : Prop := (fun (p : (List Str)) => ∃ (jb47 : List Str), r = (Ex.brk 2, [(.slice (List.map PV.str p) (List.map PV.str jb47) false)], [])) p
noncomputable def bo_Value_l3T : ((List Str)) → Option (((List Str)) ⊕ ((List Str)))
 | l_66 =>
 cnd (decide ((List.length l_66 : Int) > 0))
  (bnd (nthI l_66 (IntKind.wrap .i64 ((List.length l_66 : Int) - 1))) fun y68 =>
  bnd (bo_bare y68) fun y70 =>
  cnd y70
  (bnd (tslc (l_66 : List Str) 0 (IntKind.wrap .i64 ((List.length l_66 : Int) - 1))) fun y72 =>
  some (.inl y72))
  (some (.inr l_66)))
  (some (.inr l_66))
abbrev bo_Value_l3R (st : (List Str)) (l : List PV) (u : UP) : Prop := ∃ (jb47 : List Str), l = [(.slice (List.map PV.str st) (List.map PV.str jb47) false)] ∧ u = []
abbrev bo_Value_l3X (p : (List Str)) (r : Ex × List PV × UP) : Prop := (fun (p : (List Str)) => ∃ (jb47 : List Str), r = (Ex.brk 4, [(.slice (List.map PV.str p) (List.map PV.str jb47) false)], [])) p
noncomputable def bo_Value_B (raw : Str) : Option Str :=
 bnd (bo_Lines raw) fun y1 =>
 cnd ((Nat.ble (List.length y1) (List.length y1)) && true)
 (bnd (bo_Indent (List.take (List.length y1) y1)) fun y5 =>
 cnd (decide (y5 > 0))
 (bnd (tloop (bo_Value_l1T y1 y5) (1, y1)) fun b_38 =>
 cnd (Nat.ble (List.length y1) (List.length b_38))
 (bnd (tloop bo_Value_l2T (List.take (List.length y1) b_38)) fun l_56 =>
 bnd (tloop bo_Value_l3T l_56) fun l_74 =>
 bnd (st_Join l_74 [10]) fun y77 =>
 some y77)
 (none))
 (cnd (Nat.ble (List.length y1) (List.length y1))
 (bnd (tloop bo_Value_l2T (List.take (List.length y1) y1)) fun l_94 =>
 bnd (tloop bo_Value_l3T l_94) fun l_112 =>
 bnd (st_Join l_112 [10]) fun y115 =>
 some y115)
 (none)))
 (none)
def bo_Value_ds : Decs := { decs := [(9, (.int .i64)), (22, (.ptx 0 7)), (23, .str), (27, (.ptx 0 7)), (28, .str), (31, .str), (32, (.ptx 0 7)), (38, (.ref .str)), (40, .bool), (43, (.slb false)), (52, (.ref .str)), (54, .bool), (60, (.slb false)), (62, .str)], ups := [], loops := [(5, [(7, 1)], ⟨[(.rsl 0 7 1), (.int .i64), (.int .i64), (.vec 1)], [], [(some 0, [(.rsl 0 7 1), (.int .i64), (.int .i64), (.vec 1)], [])]⟩), (8, [], ⟨[(.slb false)], [], [(some 2, [(.slb false)], [])]⟩), (10, [], ⟨[(.slb false)], [], [(some 4, [(.slb false)], [])]⟩)] }
set_option maxRecDepth 100000 in
theorem bo_Value_t1 (O : Orc) (LP : LBody → LBody) (raw : Str) : evalBodyD Tryd.prog (MT 19) bo_Value_ds Tryd.f19.ntmps O LP Tryd.f19 [(.str raw)] [] = bo_Value_T1 O LP raw := by kernel_rfl
theorem bo_Value_l1_ok (y1 : List Str) (y5 : Int) : ∀ st l u, bo_Value_l1R y1 y5 st l u → Imp (bo_Value_l1T y1 y5 st) (bo_Value_l1 O loopLim l u) (StepR (bo_Value_l1R y1 y5) (bo_Value_l1X y1 y5)) := by
 rintro ⟨i_21, b_22⟩ l u ⟨rfl, rfl⟩
 simp only [bo_Value_l1T, bo_Value_l1]
 refine Imp.chk rfl (Imp.chk rfl ?_)
 try simp only [evs, tys]
 refine Imp.cnd ?_ ?_
 ·refine Imp.op (f := fun a => .ptr 0 7 (a * 1)) (fun a h => op_ixR h) (fun a => rfl) fun y24 hy24 => ?_
  try simp only [evs, tys]
  refine Imp.op (f := fun a => PV.str a) (fun a h => op_vload0 (enc := PV.str) (encT := fun a => PV.str a) (f := fun z => z) (by first | rfl | simp only [evs, tys, evl]) (by decide) (fun z => by first | rfl | (simp only [evs, tys, evc, part]; rfl)) (fun a => by first | rfl | (simp only [evs, tys]; rfl)) h) (fun a => rfl) fun y26 hy26 => ?_
  try simp only [evs, tys]
  refine Imp.op (f := fun a => .ptr 0 7 (a * 1)) (fun a h => op_ixR h) (fun a => rfl) fun y28 hy28 => ?_
  try simp only [evs, tys]
  refine Imp.op (f := fun a => PV.str a) (fun a h => op_vload0 (enc := PV.str) (encT := fun a => PV.str a) (f := fun z => z) (by first | rfl | simp only [evs, tys, evl]) (by decide) (fun z => by first | rfl | (simp only [evs, tys, evc, part]; rfl)) (fun a => by first | rfl | (simp only [evs, tys]; rfl)) h) (fun a => rfl) fun y30 hy30 => ?_
  try simp only [evs, tys]
  refine Imp.op (f := fun a => .str a) (fun a h => op_sslcLo h) (fun a => rfl) fun y32 hy32 => ?_
  try simp only [evs, tys]
  refine Imp.op (f := fun a => .ptr 0 7 (a * 1)) (fun a h => op_ixR h) (fun a => rfl) fun y34 hy34 => ?_
  try simp only [evs, tys]
  refine Imp.opr (f := fun a => List.map PV.str a) (fun a h => op_vput0 (enc := PV.str) (by first | rfl | simp only [evs, tys, evl]) (by decide) (by simp) (by rfl) (fun z => by first | rfl | (simp only [evs, tys, evl, evc]; rfl)) h) fun y36 hy36 => ?_
  try simp only [evs, tys]
  exact Imp.some (StepR.next ⟨by first | rfl | simp only [evs, tys, evl], rfl⟩)
 ·exact Imp.some (StepR.brk ⟨i_21, by first | rfl | simp only [evs, tys, evl, elim_inl, elim_inr]⟩)
theorem bo_Value_l2_ok : ∀ st l u, bo_Value_l2R st l u → Imp (bo_Value_l2T st) (bo_Value_l2 O loopLim l u) (StepR (bo_Value_l2R) (bo_Value_l2X)) := by
 rintro l_48 l u ⟨jb47, rfl, rfl⟩
 simp only [bo_Value_l2T, bo_Value_l2]
 refine Imp.chk rfl (Imp.chk rfl ?_)
 try simp only [evs, tys]
 refine Imp.cnd ?_ ?_
 ·refine Imp.op (f := fun a => .ref (PV.str a)) (fun a h => op_ix (enc := PV.str) (by first | rfl | simp only [evs, tys, evl]) ⟨by first | rfl | simp only [evs, tys, evc], by decide⟩ h) (fun a => rfl) fun y50 hy50 => ?_
  try simp only [evs, tys]
  refine Imp.call (f := bo_bareE) rfl (fun a h => by first | exact bo_bare_spec h | simpa only [evs, tys, evl] using bo_bare_spec h) (fun a => by first | rfl | simp only [bo_bareE, evk, chks]) fun y52 hy52 => ?_
  try simp only [bo_bareE, evs, tys]
  refine Imp.cnd ?_ ?_
  ·refine Imp.op2 (f := fun a b => .slice (List.map PV.str a) (List.map PV.str b) false) (fun a h => op_slcLo (enc := PV.str) (b := _) (by first | rfl | simp only [evs, tys, evl]) (by first | rfl | exact List.map_nil.symm | simp only [evs, tys, evl]) (fun a => by first | rfl | simp only [evs, tys, evc]) h) (fun a b => rfl) fun y54 jby54 hy54 => ?_
   try simp only [evs, tys]
   exact Imp.some (StepR.next ⟨jby54, by first | rfl | simp only [evs, tys, evl], rfl⟩)
  ·exact Imp.some (StepR.brk ⟨jb47, by first | rfl | simp only [evs, tys, evl, elim_inl, elim_inr]⟩)
 ·exact Imp.some (StepR.brk ⟨jb47, by first | rfl | simp only [evs, tys, evl, elim_inl, elim_inr]⟩)
theorem bo_Value_l3_ok : ∀ st l u, bo_Value_l3R st l u → Imp (bo_Value_l3T st) (bo_Value_l3 O loopLim l u) (StepR (bo_Value_l3R) (bo_Value_l3X)) := by
 rintro l_66 l u ⟨jb47, rfl, rfl⟩
 simp only [bo_Value_l3T, bo_Value_l3]
 refine Imp.chk rfl (Imp.chk rfl ?_)
 try simp only [evs, tys]
 refine Imp.cnd ?_ ?_
 ·refine Imp.op (f := fun a => .ref (PV.str a)) (fun a h => op_ix (enc := PV.str) (by first | rfl | simp only [evs, tys, evl]) ⟨by first | rfl | simp only [evs, tys, evc], by decide⟩ h) (fun a => rfl) fun y68 hy68 => ?_
  try simp only [evs, tys]
  refine Imp.call (f := bo_bareE) rfl (fun a h => by first | exact bo_bare_spec h | simpa only [evs, tys, evl] using bo_bare_spec h) (fun a => by first | rfl | simp only [bo_bareE, evk, chks]) fun y70 hy70 => ?_
  try simp only [bo_bareE, evs, tys]
  refine Imp.cnd ?_ ?_
  ·refine Imp.op2 (f := fun a b => .slice (List.map PV.str a) (List.map PV.str b) false) (fun a h => op_slcHi (enc := PV.str) (b := _) (by first | rfl | simp only [evs, tys, evl]) (by first | rfl | exact List.map_nil.symm | simp only [evs, tys, evl]) (fun a => by first | rfl | simp only [evs, tys, evc]) h) (fun a b => rfl) fun y72 jby72 hy72 => ?_
   try simp only [evs, tys]
   exact Imp.some (StepR.next ⟨jby72, by first | rfl | simp only [evs, tys, evl], rfl⟩)
  ·exact Imp.some (StepR.brk ⟨jb47, by first | rfl | simp only [evs, tys, evl, elim_inl, elim_inr]⟩)
 ·exact Imp.some (StepR.brk ⟨jb47, by first | rfl | simp only [evs, tys, evl, elim_inl, elim_inr]⟩)
theorem bo_Value_imp (raw : Str) : Imp (bo_Value_B raw) (bo_Value_T1 O loopLim raw) (fun r v => v = (bo_ValueE r, [])) := by
 simp only [bo_Value_B, bo_Value_T1]
 try simp only [evs, tys]
 refine Imp.callT (f := bo_LinesE) (e := fun a => List.map PV.str a) rfl (fun a h => by first | exact bo_Lines_spec h | simpa only [evs, tys, evl, ← List.map_take] using bo_Lines_spec h) (fun a => thaw_map (enc := PV.str) a (by decide) (fun z => by first | rfl | (simp only [evs, tys]; rfl))) fun y1 hy1 => ?_
 try simp only [bo_LinesE, evs, tys]
 refine Imp.cnd ?_ ?_
 ·refine Imp.callS (f := bo_IndentE) rfl (fun a h => by first | exact bo_Indent_spec h | simpa only [evs, tys, evl, ← List.map_take] using bo_Indent_spec h) (fun a => rfl) (fun a => by first | rfl | simp only [bo_IndentE, evk, chks]) fun y5 hy5 => ?_
  try simp only [bo_IndentE, evs, tys]
  refine Imp.cnd ?_ ?_
  ·refine Imp.bnd (Imp.loop (bo_Value_l1_ok y1 y5) ⟨by first | rfl | simp only [evs, tys, evl], rfl⟩) ?_
   rintro b_38 vy39 hy39
   obtain ⟨i_37, rfl⟩ := hy39
   refine Imp.exHit rfl (Imp.chk rfl (Imp.chk rfl ?_))
   try simp only [evs, tys]
   refine Imp.cnd ?_ ?_
   ·refine Imp.bnd (Imp.loop (bo_Value_l2_ok) ⟨[], by first | rfl | simp only [evs, tys, evl], rfl⟩) ?_
    rintro l_56 vy57 hy57
    obtain ⟨jb47, rfl⟩ := hy57
    refine Imp.exHit rfl (Imp.chk rfl (Imp.chk rfl ?_))
    try simp only [evs, tys]
    refine Imp.bnd (Imp.loop (bo_Value_l3_ok) ⟨jb47, by first | rfl | simp only [evs, tys, evl], rfl⟩) ?_
    rintro l_74 vy75 hy75
    obtain ⟨jb47, rfl⟩ := hy75
    refine Imp.exHit rfl (Imp.chk rfl (Imp.chk rfl ?_))
    try simp only [evs, tys]
    refine Imp.call (f := st_JoinE) rfl (fun a h => by first | exact st_Join_spec h | simpa only [evs, tys, evl] using st_Join_spec h) (fun a => by first | rfl | simp only [st_JoinE, evk, chks]) fun y77 hy77 => ?_
    try simp only [st_JoinE, evs, tys]
    exact Imp.some (by first | rfl | simp only [bo_ValueE, evs, tys, evl])
   ·exact Imp.none
  ·refine Imp.cnd ?_ ?_
   ·refine Imp.bnd (Imp.loop (bo_Value_l2_ok) ⟨[], by first | rfl | simp only [evs, tys, evl], rfl⟩) ?_
    rintro l_94 vy95 hy95
    obtain ⟨jb85, rfl⟩ := hy95
    refine Imp.exHit rfl (Imp.chk rfl (Imp.chk rfl ?_))
    try simp only [evs, tys]
    refine Imp.bnd (Imp.loop (bo_Value_l3_ok) ⟨jb85, by first | rfl | simp only [evs, tys, evl], rfl⟩) ?_
    rintro l_112 vy113 hy113
    obtain ⟨jb85, rfl⟩ := hy113
    refine Imp.exHit rfl (Imp.chk rfl (Imp.chk rfl ?_))
    try simp only [evs, tys]
    refine Imp.call (f := st_JoinE) rfl (fun a h => by first | exact st_Join_spec h | simpa only [evs, tys, evl] using st_Join_spec h) (fun a => by first | rfl | simp only [st_JoinE, evk, chks]) fun y115 hy115 => ?_
    try simp only [st_JoinE, evs, tys]
    exact Imp.some (by first | rfl | simp only [bo_ValueE, evs, tys, evl])
   ·exact Imp.none
 ·exact Imp.none
theorem bo_Value_run {raw : Str} {r : Str} (h : bo_Value_B raw = some r) : bo_Value raw = some r := by
 obtain ⟨v, hv, rfl⟩ := bo_Value_imp raw r h
 exact tO_of (pair_inj bo_ValueEj) (OL_runD bo_Value_ds rfl rfl Tryd.func19 ((bo_Value_t1 _ _ raw).trans hv))
def uf_AppendRune_T1 (O : Orc) (LP : LBody → LBody) (p0 : List Int) (r0 : Int) : Option (PV × UP) :=
 cnd (decide ((IntKind.wrap .u32 r0) ≤ 127))
 (bnd (apd 1 (.slice (List.map (PV.int .u8) p0) [] true) (.slice [(.int .u8 (IntKind.wrap .u8 r0))] [] true)) fun x1 => cnd (chk (.sl true) x1)
 (some ((.slice (esV x1) [] true), [])) none)
 (callp O 68 [(.slice (List.map (PV.int .u8) p0) [] true), (.int .i32 r0)] fun x3 => cnd (chk (.sl true) x3)
 (some ((.slice (esV x3) [] true), [])) none)
noncomputable def uf_AppendRune_B (p0 : List Int) (r0 : Int) : Option (List Int) :=
 cnd (decide ((IntKind.wrap .u32 r0) ≤ 127))
 (bnd (tapp p0 [(IntKind.wrap .u8 r0)]) fun y2 =>
 some y2)
 (bnd (uf_appendRuneNonASCII p0 r0) fun y4 =>
 some y4)
def uf_AppendRune_ds : Decs := { decs := [(12, (.sl true)), (15, (.sl true))], ups := [], loops := [] }
set_option maxRecDepth 100000 in
theorem uf_AppendRune_t1 (O : Orc) (LP : LBody → LBody) (p0 : List Int) (r0 : Int) : evalBodyD Tryd.prog (MT 34) uf_AppendRune_ds Tryd.f34.ntmps O LP Tryd.f34 [(.slice (List.map (PV.int .u8) p0) [] true), (.int .i32 r0)] [] = uf_AppendRune_T1 O LP p0 r0 := by kernel_rfl
theorem uf_AppendRune_imp (p0 : List Int) (r0 : Int) : Imp (uf_AppendRune_B p0 r0) (uf_AppendRune_T1 O loopLim p0 r0) (fun r v => v = (uf_AppendRuneE r, [])) := by
 simp only [uf_AppendRune_B, uf_AppendRune_T1]
 try simp only [evs, tys]
 refine Imp.cnd ?_ ?_
 ·refine Imp.op (f := fun a => .slice (List.map (PV.int .u8) a) [] true) (fun a h => op_apd (enc := (PV.int .u8)) (by first | rfl | simp only [evs, tys, evl]) (by first | rfl | simp only [evs, tys, evl]) (fun a => by first | rfl | simp only [evs, tys, evc]) h) (fun a => rfl) fun y2 hy2 => ?_
  try simp only [evs, tys]
  exact Imp.some (by first | rfl | simp only [uf_AppendRuneE, evs, tys, evl])
 ·refine Imp.call (f := uf_appendRuneNonASCIIE) rfl (fun a h => by first | exact uf_appendRuneNonASCII_spec h | simpa only [evs, tys, evl] using uf_appendRuneNonASCII_spec h) (fun a => by first | rfl | simp only [uf_appendRuneNonASCIIE, evk, chks]) fun y4 hy4 => ?_
  try simp only [uf_appendRuneNonASCIIE, evs, tys]
  exact Imp.some (by first | rfl | simp only [uf_AppendRuneE, evs, tys, evl])
theorem uf_AppendRune_run {p0 : List Int} {r0 : Int} {r : List Int} (h : uf_AppendRune_B p0 r0 = some r) : uf_AppendRune p0 r0 = some r := by
 obtain ⟨v, hv, rfl⟩ := uf_AppendRune_imp p0 r0 r h
 exact tO_of (pair_inj uf_AppendRuneEj) (OL_runD uf_AppendRune_ds rfl rfl Tryd.func34 ((uf_AppendRune_t1 _ _ p0 r0).trans hv))
def bo_Lines_l1 (O : Orc) (LP : LBody → LBody) : LBody := fun s1 s1u => cnd (chkL [.str, (.sl true), (.int .i64), (.int .i64)] s1) (cnd (chkU [] s1u)
 (cnd (decide ((intV (gt s1 3)) < (List.length (strV (gt s1 0)) : Int)))
 (bnd (ixStr (.str (strV (gt s1 0))) (.int .i64 (intV (gt s1 3)))) fun x25 => cnd (chk (.int .u8) x25)
 (cnd ((intV x25) != 10)
 (bnd (ixStr (.str (strV (gt s1 0))) (.int .i64 (intV (gt s1 3)))) fun x27 => cnd (chk (.int .u8) x27)
 (cnd ((intV x27) != 13)
 (some (.nrm, [(.str (strV (gt s1 0))), (.slice (esV (gt s1 1)) [] true), (.int .i64 (intV (gt s1 2))), (.int .i64 (IntKind.wrap .i64 ((intV (gt s1 3)) + 1)))], []))
 (bnd (slcLH 0 (.str (strV (gt s1 0))) (.int .i64 (intV (gt s1 2))) (.int .i64 (intV (gt s1 3)))) fun x29 => cnd (chk .str x29)
 (bnd (apd 1 (.slice (esV (gt s1 1)) [] true) (.slice [(.str (strV x29))] [] true)) fun x31 => cnd (chk (.sl true) x31)
 (bnd (ixStr (.str (strV (gt s1 0))) (.int .i64 (intV (gt s1 3)))) fun x33 => cnd (chk (.int .u8) x33)
 (cnd ((intV x33) == 13)
 (cnd (decide ((IntKind.wrap .i64 ((intV (gt s1 3)) + 1)) < (List.length (strV (gt s1 0)) : Int)))
 (bnd (ixStr (.str (strV (gt s1 0))) (.int .i64 (IntKind.wrap .i64 ((intV (gt s1 3)) + 1)))) fun x35 => cnd (chk (.int .u8) x35)
 (cnd ((intV x35) == 10)
 (some (.nrm, [(.str (strV (gt s1 0))), (.slice (esV x31) [] true), (.int .i64 (IntKind.wrap .i64 ((IntKind.wrap .i64 ((intV (gt s1 3)) + 1)) + 1))), (.int .i64 (IntKind.wrap .i64 ((IntKind.wrap .i64 ((intV (gt s1 3)) + 1)) + 1)))], []))
 (some (.nrm, [(.str (strV (gt s1 0))), (.slice (esV x31) [] true), (.int .i64 (IntKind.wrap .i64 ((intV (gt s1 3)) + 1))), (.int .i64 (IntKind.wrap .i64 ((intV (gt s1 3)) + 1)))], []))) none)
 (some (.nrm, [(.str (strV (gt s1 0))), (.slice (esV x31) [] true), (.int .i64 (IntKind.wrap .i64 ((intV (gt s1 3)) + 1))), (.int .i64 (IntKind.wrap .i64 ((intV (gt s1 3)) + 1)))], [])))
 (some (.nrm, [(.str (strV (gt s1 0))), (.slice (esV x31) [] true), (.int .i64 (IntKind.wrap .i64 ((intV (gt s1 3)) + 1))), (.int .i64 (IntKind.wrap .i64 ((intV (gt s1 3)) + 1)))], []))) none) none) none)) none)
 (bnd (slcLH 0 (.str (strV (gt s1 0))) (.int .i64 (intV (gt s1 2))) (.int .i64 (intV (gt s1 3)))) fun x37 => cnd (chk .str x37)
 (bnd (apd 1 (.slice (esV (gt s1 1)) [] true) (.slice [(.str (strV x37))] [] true)) fun x39 => cnd (chk (.sl true) x39)
 (bnd (ixStr (.str (strV (gt s1 0))) (.int .i64 (intV (gt s1 3)))) fun x41 => cnd (chk (.int .u8) x41)
 (cnd ((intV x41) == 13)
 (cnd (decide ((IntKind.wrap .i64 ((intV (gt s1 3)) + 1)) < (List.length (strV (gt s1 0)) : Int)))
 (bnd (ixStr (.str (strV (gt s1 0))) (.int .i64 (IntKind.wrap .i64 ((intV (gt s1 3)) + 1)))) fun x43 => cnd (chk (.int .u8) x43)
 (cnd ((intV x43) == 10)
 (some (.nrm, [(.str (strV (gt s1 0))), (.slice (esV x39) [] true), (.int .i64 (IntKind.wrap .i64 ((IntKind.wrap .i64 ((intV (gt s1 3)) + 1)) + 1))), (.int .i64 (IntKind.wrap .i64 ((IntKind.wrap .i64 ((intV (gt s1 3)) + 1)) + 1)))], []))
 (some (.nrm, [(.str (strV (gt s1 0))), (.slice (esV x39) [] true), (.int .i64 (IntKind.wrap .i64 ((intV (gt s1 3)) + 1))), (.int .i64 (IntKind.wrap .i64 ((intV (gt s1 3)) + 1)))], []))) none)
 (some (.nrm, [(.str (strV (gt s1 0))), (.slice (esV x39) [] true), (.int .i64 (IntKind.wrap .i64 ((intV (gt s1 3)) + 1))), (.int .i64 (IntKind.wrap .i64 ((intV (gt s1 3)) + 1)))], [])))
 (some (.nrm, [(.str (strV (gt s1 0))), (.slice (esV x39) [] true), (.int .i64 (IntKind.wrap .i64 ((intV (gt s1 3)) + 1))), (.int .i64 (IntKind.wrap .i64 ((intV (gt s1 3)) + 1)))], []))) none) none) none)) none)
 (some (.brk 0, [(.str (strV (gt s1 0))), (.slice (esV (gt s1 1)) [] true), (.int .i64 (intV (gt s1 2))), (.int .i64 (intV (gt s1 3)))], []))) none) none
def bo_Lines_T1 (O : Orc) (LP : LBody → LBody) (s : Str) : Option (PV × UP) :=
 bnd (LP (bo_Lines_l1 O LP) [(.str s), (.slice [] [] true), (.int .i64 0), (.int .i64 0)] []) fun y48 =>
 exIs y48.1 (some 0) (cnd (chkL [.str, (.sl true), (.int .i64), (.int .i64)] y48.2.1) (cnd (chkU [] y48.2.2)
 (bnd (slcLo 0 (.str (strV (gt y48.2.1 0))) (.int .i64 (intV (gt y48.2.1 2)))) fun x49 => cnd (chk .str x49)
 (bnd (apd 1 (.slice (esV (gt y48.2.1 1)) [] true) (.slice [(.str (strV x49))] [] true)) fun x51 => cnd (chk (.sl true) x51)
 (some ((.slice (esV x51) [] true), [])) none) none) none) none)
 (none)
noncomputable def bo_Lines_l1T (s : Str) : (Int × (List Str) × Int) → Option ((Int × (List Str) × Int) ⊕ (((List Str) × Int)))
 | (i_22, l_23, from_24) =>
 cnd (decide (i_22 < (List.length s : Int)))
  (bnd (nthI s i_22) fun y26 =>
  cnd ((y26.toNat : Int) != 10)
  (bnd (nthI s i_22) fun y28 =>
  cnd ((y28.toNat : Int) != 13)
   (some (.inl ((IntKind.wrap .i64 (i_22 + 1)), l_23, from_24)))
   (bnd (tslc s from_24 i_22) fun y30 =>
   bnd (tapp l_23 [y30]) fun y32 =>
   bnd (nthI s i_22) fun y34 =>
   cnd ((y34.toNat : Int) == 13)
   (cnd (decide ((IntKind.wrap .i64 (i_22 + 1)) < (List.length s : Int)))
    (bnd (nthI s (IntKind.wrap .i64 (i_22 + 1))) fun y36 =>
    cnd ((y36.toNat : Int) == 10)
    (some (.inl ((IntKind.wrap .i64 ((IntKind.wrap .i64 (i_22 + 1)) + 1)), y32, (IntKind.wrap .i64 ((IntKind.wrap .i64 (i_22 + 1)) + 1)))))
    (some (.inl ((IntKind.wrap .i64 (i_22 + 1)), y32, (IntKind.wrap .i64 (i_22 + 1))))))
    (some (.inl ((IntKind.wrap .i64 (i_22 + 1)), y32, (IntKind.wrap .i64 (i_22 + 1))))))
   (some (.inl ((IntKind.wrap .i64 (i_22 + 1)), y32, (IntKind.wrap .i64 (i_22 + 1)))))))
  (bnd (tslc s from_24 i_22) fun y38 =>
  bnd (tapp l_23 [y38]) fun y40 =>
  bnd (nthI s i_22) fun y42 =>
  cnd ((y42.toNat : Int) == 13)
   (cnd (decide ((IntKind.wrap .i64 (i_22 + 1)) < (List.length s : Int)))
   (bnd (nthI s (IntKind.wrap .i64 (i_22 + 1))) fun y44 =>
   cnd ((y44.toNat : Int) == 10)
    (some (.inl ((IntKind.wrap .i64 ((IntKind.wrap .i64 (i_22 + 1)) + 1)), y40, (IntKind.wrap .i64 ((IntKind.wrap .i64 (i_22 + 1)) + 1)))))
    (some (.inl ((IntKind.wrap .i64 (i_22 + 1)), y40, (IntKind.wrap .i64 (i_22 + 1))))))
   (some (.inl ((IntKind.wrap .i64 (i_22 + 1)), y40, (IntKind.wrap .i64 (i_22 + 1))))))
   (some (.inl ((IntKind.wrap .i64 (i_22 + 1)), y40, (IntKind.wrap .i64 (i_22 + 1)))))))
  (some (.inr (l_23, from_24)))
abbrev bo_Lines_l1R (s : Str) (st : Int × (List Str) × Int) (l : List PV) (u : UP) : Prop := l = [(.str s), (.slice (List.map PV.str st.2.1) [] true), (.int .i64 st.2.2), (.int .i64 st.1)] ∧ u = []
abbrev bo_Lines_l1X (s : Str) (p : ((List Str) × Int)) (r : Ex × List PV × UP) : Prop := (fun (p : (List Str) × Int) => ∃ (i_47 : Int), r = (Ex.brk 0, [(.str s), (.slice (List.map PV.str p.1) [] true), (.int .i64 p.2), (.int .i64 i_47)], [])) p
noncomputable def bo_Lines_B (s : Str) : Option (List Str) :=
 bnd (tloop (bo_Lines_l1T s) (0, [], 0)) fun p48 =>
 bnd (tslc s p48.2 (List.length s)) fun y50 =>
 bnd (tapp p48.1 [y50]) fun y52 =>
 some y52
def bo_Lines_ds : Decs := { decs := [(14, (.int .u8)), (19, (.int .u8)), (26, .str), (28, (.sl true)), (31, (.int .u8)), (44, (.int .u8)), (54, .str), (56, (.sl true))], ups := [], loops := [(4, [], ⟨[.str, (.sl true), (.int .i64), (.int .i64)], [], [(some 0, [.str, (.sl true), (.int .i64), (.int .i64)], [])]⟩)] }
set_option maxRecDepth 100000 in
theorem bo_Lines_t1 (O : Orc) (LP : LBody → LBody) (s : Str) : evalBodyD Tryd.prog (MT 37) bo_Lines_ds Tryd.f37.ntmps O LP Tryd.f37 [(.str s)] [] = bo_Lines_T1 O LP s := by kernel_rfl
theorem bo_Lines_l1_ok (s : Str) : ∀ st l u, bo_Lines_l1R s st l u → Imp (bo_Lines_l1T s st) (bo_Lines_l1 O loopLim l u) (StepR (bo_Lines_l1R s) (bo_Lines_l1X s)) := by
 rintro ⟨i_22, l_23, from_24⟩ l u ⟨rfl, rfl⟩
 simp only [bo_Lines_l1T, bo_Lines_l1]
 refine Imp.chk rfl (Imp.chk rfl ?_)
 try simp only [evs, tys]
 refine Imp.cnd ?_ ?_
 ·refine Imp.op (f := fun a => .int .u8 (a.toNat : Int)) (fun a h => op_ixStr h) (fun a => rfl) fun y26 hy26 => ?_
  try simp only [evs, tys]
  refine Imp.cnd ?_ ?_
  ·refine Imp.op (f := fun a => .int .u8 (a.toNat : Int)) (fun a h => op_ixStr h) (fun a => rfl) fun y28 hy28 => ?_
   try simp only [evs, tys]
   refine Imp.cnd ?_ ?_
   ·exact Imp.some (StepR.next ⟨by first | rfl | simp only [evs, tys, evl], rfl⟩)
   ·refine Imp.op (f := fun a => .str a) (fun a h => op_sslcLH h) (fun a => rfl) fun y30 hy30 => ?_
    try simp only [evs, tys]
    refine Imp.op (f := fun a => .slice (List.map PV.str a) [] true) (fun a h => op_apd (enc := PV.str) (by first | rfl | simp only [evs, tys, evl]) (by first | rfl | simp only [evs, tys, evl]) (fun a => by first | rfl | simp only [evs, tys, evc]) h) (fun a => rfl) fun y32 hy32 => ?_
    try simp only [evs, tys]
    refine Imp.op (f := fun a => .int .u8 (a.toNat : Int)) (fun a h => op_ixStr h) (fun a => rfl) fun y34 hy34 => ?_
    try simp only [evs, tys]
    refine Imp.cnd ?_ ?_
    ·refine Imp.cnd ?_ ?_
     ·refine Imp.op (f := fun a => .int .u8 (a.toNat : Int)) (fun a h => op_ixStr h) (fun a => rfl) fun y36 hy36 => ?_
      try simp only [evs, tys]
      refine Imp.cnd ?_ ?_
      ·exact Imp.some (StepR.next ⟨by first | rfl | simp only [evs, tys, evl], rfl⟩)
      ·exact Imp.some (StepR.next ⟨by first | rfl | simp only [evs, tys, evl], rfl⟩)
     ·exact Imp.some (StepR.next ⟨by first | rfl | simp only [evs, tys, evl], rfl⟩)
    ·exact Imp.some (StepR.next ⟨by first | rfl | simp only [evs, tys, evl], rfl⟩)
  ·refine Imp.op (f := fun a => .str a) (fun a h => op_sslcLH h) (fun a => rfl) fun y38 hy38 => ?_
   try simp only [evs, tys]
   refine Imp.op (f := fun a => .slice (List.map PV.str a) [] true) (fun a h => op_apd (enc := PV.str) (by first | rfl | simp only [evs, tys, evl]) (by first | rfl | simp only [evs, tys, evl]) (fun a => by first | rfl | simp only [evs, tys, evc]) h) (fun a => rfl) fun y40 hy40 => ?_
   try simp only [evs, tys]
   refine Imp.op (f := fun a => .int .u8 (a.toNat : Int)) (fun a h => op_ixStr h) (fun a => rfl) fun y42 hy42 => ?_
   try simp only [evs, tys]
   refine Imp.cnd ?_ ?_
   ·refine Imp.cnd ?_ ?_
    ·refine Imp.op (f := fun a => .int .u8 (a.toNat : Int)) (fun a h => op_ixStr h) (fun a => rfl) fun y44 hy44 => ?_
     try simp only [evs, tys]
     refine Imp.cnd ?_ ?_
     ·exact Imp.some (StepR.next ⟨by first | rfl | simp only [evs, tys, evl], rfl⟩)
     ·exact Imp.some (StepR.next ⟨by first | rfl | simp only [evs, tys, evl], rfl⟩)
    ·exact Imp.some (StepR.next ⟨by first | rfl | simp only [evs, tys, evl], rfl⟩)
   ·exact Imp.some (StepR.next ⟨by first | rfl | simp only [evs, tys, evl], rfl⟩)
 ·exact Imp.some (StepR.brk ⟨i_22, by first | rfl | simp only [evs, tys, evl, elim_inl, elim_inr]⟩)
theorem bo_Lines_imp (s : Str) : Imp (bo_Lines_B s) (bo_Lines_T1 O loopLim s) (fun r v => v = (bo_LinesE r, [])) := by
 simp only [bo_Lines_B, bo_Lines_T1]
 try simp only [evs, tys]
 refine Imp.bnd (Imp.loop (bo_Lines_l1_ok s) ⟨by first | rfl | simp only [evs, tys, evl], rfl⟩) ?_
 rintro ⟨l_45, from_46⟩ vy48 hy48
 obtain ⟨i_47, rfl⟩ := hy48
 refine Imp.exHit rfl (Imp.chk rfl (Imp.chk rfl ?_))
 try simp only [evs, tys]
 refine Imp.op (f := fun a => .str a) (fun a h => op_sslcLo h) (fun a => rfl) fun y50 hy50 => ?_
 try simp only [evs, tys]
 refine Imp.op (f := fun a => .slice (List.map PV.str a) [] true) (fun a h => op_apd (enc := PV.str) (by first | rfl | simp only [evs, tys, evl]) (by first | rfl | simp only [evs, tys, evl]) (fun a => by first | rfl | simp only [evs, tys, evc]) h) (fun a => rfl) fun y52 hy52 => ?_
 try simp only [evs, tys]
 exact Imp.some (by first | rfl | simp only [bo_LinesE, evs, tys, evl])
theorem bo_Lines_run {s : Str} {r : List Str} (h : bo_Lines_B s = some r) : bo_Lines s = some r := by
 obtain ⟨v, hv, rfl⟩ := bo_Lines_imp s r h
 exact tO_of (pair_inj bo_LinesEj) (OL_runD bo_Lines_ds rfl rfl Tryd.func37 ((bo_Lines_t1 _ _ s).trans hv))
def bo_Indent_l1 (O : Orc) (LP : LBody → LBody) : LBody := fun s1 s1u => cnd (chkL [(.int .i64), (.sl false), (.int .i64), (.int .i64)] s1) (cnd (chkU [] s1u)
 (cnd (decide ((intV (gt s1 3)) < (intV (gt s1 2))))
 (bnd (ix 1 (.slice (esV (gt s1 1)) [] false) (.int .i64 (intV (gt s1 3)))) fun x8 => cnd (chk (.ref .str) x8)
 (callp O 70 [(.str (strV (refV x8)))] fun x10 => cnd (chk (.tup [(.int .i64), .bool]) x10)
 (cnd ((intV (gt s1 3)) == 0)
 (some (.nrm, [(.int .i64 (intV (gt s1 0))), (.slice (esV (gt s1 1)) [] false), (.int .i64 (intV (gt s1 2))), (.int .i64 (IntKind.wrap .i64 ((intV (gt s1 3)) + 1)))], []))
 (cnd (!(boolV (gt (tupV x10) 1)))
 (some (.nrm, [(.int .i64 (intV (gt s1 0))), (.slice (esV (gt s1 1)) [] false), (.int .i64 (intV (gt s1 2))), (.int .i64 (IntKind.wrap .i64 ((intV (gt s1 3)) + 1)))], []))
 (cnd (decide ((intV (gt s1 0)) < 0))
 (some (.nrm, [(.int .i64 (intV (gt (tupV x10) 0))), (.slice (esV (gt s1 1)) [] false), (.int .i64 (intV (gt s1 2))), (.int .i64 (IntKind.wrap .i64 ((intV (gt s1 3)) + 1)))], []))
 (cnd (decide ((intV (gt (tupV x10) 0)) < (intV (gt s1 0))))
 (some (.nrm, [(.int .i64 (intV (gt (tupV x10) 0))), (.slice (esV (gt s1 1)) [] false), (.int .i64 (intV (gt s1 2))), (.int .i64 (IntKind.wrap .i64 ((intV (gt s1 3)) + 1)))], []))
 (some (.nrm, [(.int .i64 (intV (gt s1 0))), (.slice (esV (gt s1 1)) [] false), (.int .i64 (intV (gt s1 2))), (.int .i64 (IntKind.wrap .i64 ((intV (gt s1 3)) + 1)))], [])))))) none) none)
 (some (.brk 0, [(.int .i64 (intV (gt s1 0))), (.slice (esV (gt s1 1)) [] false), (.int .i64 (intV (gt s1 2))), (.int .i64 (intV (gt s1 3)))], []))) none) none
def bo_Indent_T1 (O : Orc) (LP : LBody → LBody) (l0 : List Str) : Option (PV × UP) :=
 bnd (LP (bo_Indent_l1 O LP) [(.int .i64 (-1)), (.slice (List.map PV.str l0) [] false), (.int .i64 (List.length (List.map PV.str l0) : Int)), (.int .i64 0)] []) fun y14 =>
 exIs y14.1 (some 0) (cnd (chkL [(.int .i64), (.sl false), (.int .i64), (.int .i64)] y14.2.1) (cnd (chkU [] y14.2.2)
 (some ((.int .i64 (intV (gt y14.2.1 0))), [])) none) none)
 (none)
noncomputable def bo_Indent_l1T (l0 : List Str) : (Int × Int) → Option ((Int × Int) ⊕ Int)
 | (t_6, least_7) =>
 cnd (decide (t_6 < (List.length l0 : Int)))
  (bnd (nthI l0 t_6) fun y9 =>
  bnd (bo_blanks y9) fun y11 =>
  cnd (t_6 == 0)
  (some (.inl ((IntKind.wrap .i64 (t_6 + 1)), least_7)))
  (cnd (!y11.2)
   (some (.inl ((IntKind.wrap .i64 (t_6 + 1)), least_7)))
   (cnd (decide (least_7 < 0))
   (some (.inl ((IntKind.wrap .i64 (t_6 + 1)), y11.1)))
   (cnd (decide (y11.1 < least_7))
    (some (.inl ((IntKind.wrap .i64 (t_6 + 1)), y11.1)))
    (some (.inl ((IntKind.wrap .i64 (t_6 + 1)), least_7)))))))
  (some (.inr least_7))
abbrev bo_Indent_l1R (l0 : List Str) (st : Int × Int) (l : List PV) (u : UP) : Prop := l = [(.int .i64 st.2), (.slice (List.map PV.str l0) [] false), (.int .i64 (List.length l0 : Int)), (.int .i64 st.1)] ∧ u = []
abbrev bo_Indent_l1X (l0 : List Str) (p : Int) (r : Ex × List PV × UP) : Prop := (fun (p : Int) => ∃ (t_13 : Int), r = (Ex.brk 0, [(.int .i64 p), (.slice (List.map PV.str l0) [] false), (.int .i64 (List.length l0 : Int)), (.int .i64 t_13)], [])) p
noncomputable def bo_Indent_B (l0 : List Str) : Option Int :=
 bnd (tloop (bo_Indent_l1T l0) (0, (-1))) fun least_12 =>
 some least_12
def bo_Indent_ds : Decs := { decs := [(13, (.ref .str)), (17, (.tup [(.int .i64), .bool]))], ups := [], loops := [(3, [], ⟨[(.int .i64), (.sl false), (.int .i64), (.int .i64)], [], [(some 0, [(.int .i64), (.sl false), (.int .i64), (.int .i64)], [])]⟩)] }
set_option maxRecDepth 100000 in
theorem bo_Indent_t1 (O : Orc) (LP : LBody → LBody) (l0 : List Str) : evalBodyD Tryd.prog (MT 38) bo_Indent_ds Tryd.f38.ntmps O LP Tryd.f38 [(.slice (List.map PV.str l0) [] false)] [] = bo_Indent_T1 O LP l0 := by kernel_rfl
theorem bo_Indent_l1_ok (l0 : List Str) : ∀ st l u, bo_Indent_l1R l0 st l u → Imp (bo_Indent_l1T l0 st) (bo_Indent_l1 O loopLim l u) (StepR (bo_Indent_l1R l0) (bo_Indent_l1X l0)) := by
 rintro ⟨t_6, least_7⟩ l u ⟨rfl, rfl⟩
 simp only [bo_Indent_l1T, bo_Indent_l1]
 refine Imp.chk rfl (Imp.chk rfl ?_)
 try simp only [evs, tys]
 refine Imp.cnd ?_ ?_
 ·refine Imp.op (f := fun a => .ref (PV.str a)) (fun a h => op_ix (enc := PV.str) (by first | rfl | simp only [evs, tys, evl]) ⟨by first | rfl | simp only [evs, tys, evc], by decide⟩ h) (fun a => rfl) fun y9 hy9 => ?_
  try simp only [evs, tys]
  refine Imp.call (f := bo_blanksE) rfl (fun a h => by first | exact bo_blanks_spec h | simpa only [evs, tys, evl] using bo_blanks_spec h) (fun a => by first | rfl | simp only [bo_blanksE, evk, chks]) fun y11 hy11 => ?_
  try simp only [bo_blanksE, evs, tys]
  refine Imp.cnd ?_ ?_
  ·exact Imp.some (StepR.next ⟨by first | rfl | simp only [evs, tys, evl], rfl⟩)
  ·refine Imp.cnd ?_ ?_
   ·exact Imp.some (StepR.next ⟨by first | rfl | simp only [evs, tys, evl], rfl⟩)
   ·refine Imp.cnd ?_ ?_
    ·exact Imp.some (StepR.next ⟨by first | rfl | simp only [evs, tys, evl], rfl⟩)
    ·refine Imp.cnd ?_ ?_
     ·exact Imp.some (StepR.next ⟨by first | rfl | simp only [evs, tys, evl], rfl⟩)
     ·exact Imp.some (StepR.next ⟨by first | rfl | simp only [evs, tys, evl], rfl⟩)
 ·exact Imp.some (StepR.brk ⟨t_6, by first | rfl | simp only [evs, tys, evl, elim_inl, elim_inr]⟩)
theorem bo_Indent_imp (l0 : List Str) : Imp (bo_Indent_B l0) (bo_Indent_T1 O loopLim l0) (fun r v => v = (bo_IndentE r, [])) := by
 simp only [bo_Indent_B, bo_Indent_T1]
 try simp only [evs, tys]
 refine Imp.bnd (Imp.loop (bo_Indent_l1_ok l0) ⟨by first | rfl | simp only [evs, tys, evl], rfl⟩) ?_
 rintro least_12 vy14 hy14
 obtain ⟨t_13, rfl⟩ := hy14
 refine Imp.exHit rfl (Imp.chk rfl (Imp.chk rfl ?_))
 try simp only [evs, tys]
 exact Imp.some (by first | rfl | simp only [bo_IndentE, evs, tys, evl])
theorem bo_Indent_run {l0 : List Str} {r : Int} (h : bo_Indent_B l0 = some r) : bo_Indent l0 = some r := by
 obtain ⟨v, hv, rfl⟩ := bo_Indent_imp l0 r h
 exact tO_of (pair_inj bo_IndentEj) (OL_runD bo_Indent_ds rfl rfl Tryd.func38 ((bo_Indent_t1 _ _ l0).trans hv))
def bo_bare_T1 (O : Orc) (LP : LBody → LBody) (s : Str) : Option (PV × UP) :=
 callp O 70 [(.str s)] fun x1 => cnd (chk (.tup [(.int .i64), .bool]) x1)
 (some ((.bool (!(boolV (gt (tupV x1) 1)))), [])) none
noncomputable def bo_bare_B (s : Str) : Option Bool :=
 bnd (bo_blanks s) fun y2 =>
 some (!y2.2)
def bo_bare_ds : Decs := { decs := [(7, (.tup [(.int .i64), .bool]))], ups := [], loops := [] }
set_option maxRecDepth 100000 in
theorem bo_bare_t1 (O : Orc) (LP : LBody → LBody) (s : Str) : evalBodyD Tryd.prog (MT 39) bo_bare_ds Tryd.f39.ntmps O LP Tryd.f39 [(.str s)] [] = bo_bare_T1 O LP s := by kernel_rfl
theorem bo_bare_imp (s : Str) : Imp (bo_bare_B s) (bo_bare_T1 O loopLim s) (fun r v => v = (bo_bareE r, [])) := by
 simp only [bo_bare_B, bo_bare_T1]
 try simp only [evs, tys]
 refine Imp.call (f := bo_blanksE) rfl (fun a h => by first | exact bo_blanks_spec h | simpa only [evs, tys, evl] using bo_blanks_spec h) (fun a => by first | rfl | simp only [bo_blanksE, evk, chks]) fun y2 hy2 => ?_
 try simp only [bo_blanksE, evs, tys]
 exact Imp.some (by first | rfl | simp only [bo_bareE, evs, tys, evl])
theorem bo_bare_run {s : Str} {r : Bool} (h : bo_bare_B s = some r) : bo_bare s = some r := by
 obtain ⟨v, hv, rfl⟩ := bo_bare_imp s r h
 exact tO_of (pair_inj bo_bareEj) (OL_runD bo_bare_ds rfl rfl Tryd.func39 ((bo_bare_t1 _ _ s).trans hv))
theorem st_Join_run {elems : List Str} {sep : Str} {r : Str} (h : tJoin elems sep = some r) : st_Join elems sep = some r := tO_of (pair_inj st_JoinEj) (OL_ext (g := xJoin) rfl (xJoin_of h))
def uf_appendRuneNonASCII_T1 (O : Orc) (LP : LBody → LBody) (p0 : List Int) (r0 : Int) : Option (PV × UP) :=
 cnd (decide ((IntKind.wrap .u32 r0) ≤ 2047))
 (bnd (apd 1 (.slice (List.map (PV.int .u8) p0) [] true) (.slice [(.int .u8 (bits .or .u8 192 (IntKind.wrap .u8 (Int.fdiv r0 (2 ^ min (Int.toNat 6) 32))))), (.int .u8 (bits .or .u8 128 (bits .and .u8 (IntKind.wrap .u8 r0) 63)))] [] true)) fun x1 => cnd (chk (.sl true) x1)
 (some ((.slice (esV x1) [] true), [])) none)
 (cnd (decide ((IntKind.wrap .u32 r0) < 55296))
 (bnd (apd 1 (.slice (List.map (PV.int .u8) p0) [] true) (.slice [(.int .u8 (bits .or .u8 224 (IntKind.wrap .u8 (Int.fdiv r0 (2 ^ min (Int.toNat 12) 32))))), (.int .u8 (bits .or .u8 128 (bits .and .u8 (IntKind.wrap .u8 (Int.fdiv r0 (2 ^ min (Int.toNat 6) 32))) 63))), (.int .u8 (bits .or .u8 128 (bits .and .u8 (IntKind.wrap .u8 r0) 63)))] [] true)) fun x3 => cnd (chk (.sl true) x3)
 (some ((.slice (esV x3) [] true), [])) none)
 (cnd (decide ((57343 : Int) < (IntKind.wrap .u32 r0)))
 (cnd (decide ((IntKind.wrap .u32 r0) ≤ 65535))
 (bnd (apd 1 (.slice (List.map (PV.int .u8) p0) [] true) (.slice [(.int .u8 (bits .or .u8 224 (IntKind.wrap .u8 (Int.fdiv r0 (2 ^ min (Int.toNat 12) 32))))), (.int .u8 (bits .or .u8 128 (bits .and .u8 (IntKind.wrap .u8 (Int.fdiv r0 (2 ^ min (Int.toNat 6) 32))) 63))), (.int .u8 (bits .or .u8 128 (bits .and .u8 (IntKind.wrap .u8 r0) 63)))] [] true)) fun x5 => cnd (chk (.sl true) x5)
 (some ((.slice (esV x5) [] true), [])) none)
 (cnd (decide ((IntKind.wrap .u32 r0) > 65535))
 (cnd (decide ((IntKind.wrap .u32 r0) ≤ 1114111))
 (bnd (apd 1 (.slice (List.map (PV.int .u8) p0) [] true) (.slice [(.int .u8 (bits .or .u8 240 (IntKind.wrap .u8 (Int.fdiv r0 (2 ^ min (Int.toNat 18) 32))))), (.int .u8 (bits .or .u8 128 (bits .and .u8 (IntKind.wrap .u8 (Int.fdiv r0 (2 ^ min (Int.toNat 12) 32))) 63))), (.int .u8 (bits .or .u8 128 (bits .and .u8 (IntKind.wrap .u8 (Int.fdiv r0 (2 ^ min (Int.toNat 6) 32))) 63))), (.int .u8 (bits .or .u8 128 (bits .and .u8 (IntKind.wrap .u8 r0) 63)))] [] true)) fun x7 => cnd (chk (.sl true) x7)
 (some ((.slice (esV x7) [] true), [])) none)
 (bnd (apd 1 (.slice (List.map (PV.int .u8) p0) [] true) (.slice [(.int .u8 239), (.int .u8 191), (.int .u8 189)] [] true)) fun x9 => cnd (chk (.sl true) x9)
 (some ((.slice (esV x9) [] true), [])) none))
 (bnd (apd 1 (.slice (List.map (PV.int .u8) p0) [] true) (.slice [(.int .u8 239), (.int .u8 191), (.int .u8 189)] [] true)) fun x11 => cnd (chk (.sl true) x11)
 (some ((.slice (esV x11) [] true), [])) none)))
 (cnd (decide ((IntKind.wrap .u32 r0) > 65535))
 (cnd (decide ((IntKind.wrap .u32 r0) ≤ 1114111))
 (bnd (apd 1 (.slice (List.map (PV.int .u8) p0) [] true) (.slice [(.int .u8 (bits .or .u8 240 (IntKind.wrap .u8 (Int.fdiv r0 (2 ^ min (Int.toNat 18) 32))))), (.int .u8 (bits .or .u8 128 (bits .and .u8 (IntKind.wrap .u8 (Int.fdiv r0 (2 ^ min (Int.toNat 12) 32))) 63))), (.int .u8 (bits .or .u8 128 (bits .and .u8 (IntKind.wrap .u8 (Int.fdiv r0 (2 ^ min (Int.toNat 6) 32))) 63))), (.int .u8 (bits .or .u8 128 (bits .and .u8 (IntKind.wrap .u8 r0) 63)))] [] true)) fun x13 => cnd (chk (.sl true) x13)
 (some ((.slice (esV x13) [] true), [])) none)
 (bnd (apd 1 (.slice (List.map (PV.int .u8) p0) [] true) (.slice [(.int .u8 239), (.int .u8 191), (.int .u8 189)] [] true)) fun x15 => cnd (chk (.sl true) x15)
 (some ((.slice (esV x15) [] true), [])) none))
 (bnd (apd 1 (.slice (List.map (PV.int .u8) p0) [] true) (.slice [(.int .u8 239), (.int .u8 191), (.int .u8 189)] [] true)) fun x17 => cnd (chk (.sl true) x17)
 (some ((.slice (esV x17) [] true), [])) none))))
noncomputable def uf_appendRuneNonASCII_B (p0 : List Int) (r0 : Int) : Option (List Int) :=
 cnd (decide ((IntKind.wrap .u32 r0) ≤ 2047))
 (bnd (tapp p0 [(bits .or .u8 192 (IntKind.wrap .u8 (Int.fdiv r0 (2 ^ min (Int.toNat 6) 32)))), (bits .or .u8 128 (bits .and .u8 (IntKind.wrap .u8 r0) 63))]) fun y2 =>
 some y2)
 (cnd (decide ((IntKind.wrap .u32 r0) < 55296))
 (bnd (tapp p0 [(bits .or .u8 224 (IntKind.wrap .u8 (Int.fdiv r0 (2 ^ min (Int.toNat 12) 32)))), (bits .or .u8 128 (bits .and .u8 (IntKind.wrap .u8 (Int.fdiv r0 (2 ^ min (Int.toNat 6) 32))) 63)), (bits .or .u8 128 (bits .and .u8 (IntKind.wrap .u8 r0) 63))]) fun y4 =>
 some y4)
 (cnd (decide ((57343 : Int) < (IntKind.wrap .u32 r0)))
 (cnd (decide ((IntKind.wrap .u32 r0) ≤ 65535))
 (bnd (tapp p0 [(bits .or .u8 224 (IntKind.wrap .u8 (Int.fdiv r0 (2 ^ min (Int.toNat 12) 32)))), (bits .or .u8 128 (bits .and .u8 (IntKind.wrap .u8 (Int.fdiv r0 (2 ^ min (Int.toNat 6) 32))) 63)), (bits .or .u8 128 (bits .and .u8 (IntKind.wrap .u8 r0) 63))]) fun y6 =>
 some y6)
 (cnd (decide ((IntKind.wrap .u32 r0) > 65535))
 (cnd (decide ((IntKind.wrap .u32 r0) ≤ 1114111))
 (bnd (tapp p0 [(bits .or .u8 240 (IntKind.wrap .u8 (Int.fdiv r0 (2 ^ min (Int.toNat 18) 32)))), (bits .or .u8 128 (bits .and .u8 (IntKind.wrap .u8 (Int.fdiv r0 (2 ^ min (Int.toNat 12) 32))) 63)), (bits .or .u8 128 (bits .and .u8 (IntKind.wrap .u8 (Int.fdiv r0 (2 ^ min (Int.toNat 6) 32))) 63)), (bits .or .u8 128 (bits .and .u8 (IntKind.wrap .u8 r0) 63))]) fun y8 =>
 some y8)
 (bnd (tapp p0 [239, 191, 189]) fun y10 =>
 some y10))
 (bnd (tapp p0 [239, 191, 189]) fun y12 =>
 some y12)))
 (cnd (decide ((IntKind.wrap .u32 r0) > 65535))
 (cnd (decide ((IntKind.wrap .u32 r0) ≤ 1114111))
 (bnd (tapp p0 [(bits .or .u8 240 (IntKind.wrap .u8 (Int.fdiv r0 (2 ^ min (Int.toNat 18) 32)))), (bits .or .u8 128 (bits .and .u8 (IntKind.wrap .u8 (Int.fdiv r0 (2 ^ min (Int.toNat 12) 32))) 63)), (bits .or .u8 128 (bits .and .u8 (IntKind.wrap .u8 (Int.fdiv r0 (2 ^ min (Int.toNat 6) 32))) 63)), (bits .or .u8 128 (bits .and .u8 (IntKind.wrap .u8 r0) 63))]) fun y14 =>
 some y14)
 (bnd (tapp p0 [239, 191, 189]) fun y16 =>
 some y16))
 (bnd (tapp p0 [239, 191, 189]) fun y18 =>
 some y18))))
def uf_appendRuneNonASCII_ds : Decs := { decs := [(10, (.sl true)), (24, (.sl true)), (49, (.sl true)), (77, (.sl true))], ups := [], loops := [] }
set_option maxRecDepth 100000 in
theorem uf_appendRuneNonASCII_t1 (O : Orc) (LP : LBody → LBody) (p0 : List Int) (r0 : Int) : evalBodyD Tryd.prog (MT 68) uf_appendRuneNonASCII_ds Tryd.f68.ntmps O LP Tryd.f68 [(.slice (List.map (PV.int .u8) p0) [] true), (.int .i32 r0)] [] = uf_appendRuneNonASCII_T1 O LP p0 r0 := by kernel_rfl
theorem uf_appendRuneNonASCII_imp (p0 : List Int) (r0 : Int) : Imp (uf_appendRuneNonASCII_B p0 r0) (uf_appendRuneNonASCII_T1 O loopLim p0 r0) (fun r v => v = (uf_appendRuneNonASCIIE r, [])) := by
 simp only [uf_appendRuneNonASCII_B, uf_appendRuneNonASCII_T1]
 try simp only [evs, tys]
 refine Imp.cnd ?_ ?_
 ·refine Imp.op (f := fun a => .slice (List.map (PV.int .u8) a) [] true) (fun a h => op_apd (enc := (PV.int .u8)) (by first | rfl | simp only [evs, tys, evl]) (by first | rfl | simp only [evs, tys, evl]) (fun a => by first | rfl | simp only [evs, tys, evc]) h) (fun a => rfl) fun y2 hy2 => ?_
  try simp only [evs, tys]
  exact Imp.some (by first | rfl | simp only [uf_appendRuneNonASCIIE, evs, tys, evl])
 ·refine Imp.cnd ?_ ?_
  ·refine Imp.op (f := fun a => .slice (List.map (PV.int .u8) a) [] true) (fun a h => op_apd (enc := (PV.int .u8)) (by first | rfl | simp only [evs, tys, evl]) (by first | rfl | simp only [evs, tys, evl]) (fun a => by first | rfl | simp only [evs, tys, evc]) h) (fun a => rfl) fun y4 hy4 => ?_
   try simp only [evs, tys]
   exact Imp.some (by first | rfl | simp only [uf_appendRuneNonASCIIE, evs, tys, evl])
  ·refine Imp.cnd ?_ ?_
   ·refine Imp.cnd ?_ ?_
    ·refine Imp.op (f := fun a => .slice (List.map (PV.int .u8) a) [] true) (fun a h => op_apd (enc := (PV.int .u8)) (by first | rfl | simp only [evs, tys, evl]) (by first | rfl | simp only [evs, tys, evl]) (fun a => by first | rfl | simp only [evs, tys, evc]) h) (fun a => rfl) fun y6 hy6 => ?_
     try simp only [evs, tys]
     exact Imp.some (by first | rfl | simp only [uf_appendRuneNonASCIIE, evs, tys, evl])
    ·refine Imp.cnd ?_ ?_
     ·refine Imp.cnd ?_ ?_
      ·refine Imp.op (f := fun a => .slice (List.map (PV.int .u8) a) [] true) (fun a h => op_apd (enc := (PV.int .u8)) (by first | rfl | simp only [evs, tys, evl]) (by first | rfl | simp only [evs, tys, evl]) (fun a => by first | rfl | simp only [evs, tys, evc]) h) (fun a => rfl) fun y8 hy8 => ?_
       try simp only [evs, tys]
       exact Imp.some (by first | rfl | simp only [uf_appendRuneNonASCIIE, evs, tys, evl])
      ·refine Imp.op (f := fun a => .slice (List.map (PV.int .u8) a) [] true) (fun a h => op_apd (enc := (PV.int .u8)) (by first | rfl | simp only [evs, tys, evl]) (by first | rfl | simp only [evs, tys, evl]) (fun a => by first | rfl | simp only [evs, tys, evc]) h) (fun a => rfl) fun y10 hy10 => ?_
       try simp only [evs, tys]
       exact Imp.some (by first | rfl | simp only [uf_appendRuneNonASCIIE, evs, tys, evl])
     ·refine Imp.op (f := fun a => .slice (List.map (PV.int .u8) a) [] true) (fun a h => op_apd (enc := (PV.int .u8)) (by first | rfl | simp only [evs, tys, evl]) (by first | rfl | simp only [evs, tys, evl]) (fun a => by first | rfl | simp only [evs, tys, evc]) h) (fun a => rfl) fun y12 hy12 => ?_
      try simp only [evs, tys]
      exact Imp.some (by first | rfl | simp only [uf_appendRuneNonASCIIE, evs, tys, evl])
   ·refine Imp.cnd ?_ ?_
    ·refine Imp.cnd ?_ ?_
     ·refine Imp.op (f := fun a => .slice (List.map (PV.int .u8) a) [] true) (fun a h => op_apd (enc := (PV.int .u8)) (by first | rfl | simp only [evs, tys, evl]) (by first | rfl | simp only [evs, tys, evl]) (fun a => by first | rfl | simp only [evs, tys, evc]) h) (fun a => rfl) fun y14 hy14 => ?_
      try simp only [evs, tys]
      exact Imp.some (by first | rfl | simp only [uf_appendRuneNonASCIIE, evs, tys, evl])
     ·refine Imp.op (f := fun a => .slice (List.map (PV.int .u8) a) [] true) (fun a h => op_apd (enc := (PV.int .u8)) (by first | rfl | simp only [evs, tys, evl]) (by first | rfl | simp only [evs, tys, evl]) (fun a => by first | rfl | simp only [evs, tys, evc]) h) (fun a => rfl) fun y16 hy16 => ?_
      try simp only [evs, tys]
      exact Imp.some (by first | rfl | simp only [uf_appendRuneNonASCIIE, evs, tys, evl])
    ·refine Imp.op (f := fun a => .slice (List.map (PV.int .u8) a) [] true) (fun a h => op_apd (enc := (PV.int .u8)) (by first | rfl | simp only [evs, tys, evl]) (by first | rfl | simp only [evs, tys, evl]) (fun a => by first | rfl | simp only [evs, tys, evc]) h) (fun a => rfl) fun y18 hy18 => ?_
     try simp only [evs, tys]
     exact Imp.some (by first | rfl | simp only [uf_appendRuneNonASCIIE, evs, tys, evl])
theorem uf_appendRuneNonASCII_run {p0 : List Int} {r0 : Int} {r : List Int} (h : uf_appendRuneNonASCII_B p0 r0 = some r) : uf_appendRuneNonASCII p0 r0 = some r := by
 obtain ⟨v, hv, rfl⟩ := uf_appendRuneNonASCII_imp p0 r0 r h
 exact tO_of (pair_inj uf_appendRuneNonASCIIEj) (OL_runD uf_appendRuneNonASCII_ds rfl rfl Tryd.func68 ((uf_appendRuneNonASCII_t1 _ _ p0 r0).trans hv))
def bo_blanks_l1 (O : Orc) (LP : LBody → LBody) : LBody := fun s1 s1u => cnd (chkL [.str, (.int .i64), .bool, (.int .i64), (.int .i64)] s1) (cnd (chkU [] s1u)
 (cnd (decide ((intV (gt s1 4)) < (intV (gt s1 3))))
 (bnd (ixStr (.str (strV (gt s1 0))) (.int .i64 (intV (gt s1 4)))) fun x7 => cnd (chk (.int .u8) x7)
 (cnd ((intV x7) != 9)
 (bnd (ixStr (.str (strV (gt s1 0))) (.int .i64 (intV (gt s1 4)))) fun x9 => cnd (chk (.int .u8) x9)
 (cnd ((intV x9) != 32)
 (some (.ret, [(.str (strV (gt s1 0))), (.int .i64 (intV (gt s1 4))), (.bool true), (.int .i64 (intV (gt s1 3))), (.int .i64 (intV (gt s1 4)))], []))
 (some (.nrm, [(.str (strV (gt s1 0))), (.int .i64 (intV (gt s1 1))), (.bool (boolV (gt s1 2))), (.int .i64 (intV (gt s1 3))), (.int .i64 (IntKind.wrap .i64 ((intV (gt s1 4)) + 1)))], []))) none)
 (some (.nrm, [(.str (strV (gt s1 0))), (.int .i64 (intV (gt s1 1))), (.bool (boolV (gt s1 2))), (.int .i64 (intV (gt s1 3))), (.int .i64 (IntKind.wrap .i64 ((intV (gt s1 4)) + 1)))], []))) none)
 (some (.brk 0, [(.str (strV (gt s1 0))), (.int .i64 (intV (gt s1 1))), (.bool (boolV (gt s1 2))), (.int .i64 (intV (gt s1 3))), (.int .i64 (intV (gt s1 4)))], []))) none) none
def bo_blanks_T1 (O : Orc) (LP : LBody → LBody) (s : Str) : Option (PV × UP) :=
 bnd (LP (bo_blanks_l1 O LP) [(.str s), (.int .i64 0), (.bool false), (.int .i64 (List.length s : Int)), (.int .i64 0)] []) fun y14 =>
 exIs y14.1 (some 0) (cnd (chkL [.str, (.int .i64), .bool, (.int .i64), (.int .i64)] y14.2.1) (cnd (chkU [] y14.2.2)
 (some ((.tuple [(.int .i64 (List.length (strV (gt y14.2.1 0)) : Int)), (.bool false)]), [])) none) none)
 (exIs y14.1 none (cnd (chkL [.str, (.int .i64), .bool, (.int .i64), (.int .i64)] y14.2.1) (cnd (chkU [] y14.2.2)
 (some ((.tuple [(.int .i64 (intV (gt y14.2.1 1))), (.bool (boolV (gt y14.2.1 2)))]), [])) none) none)
 (none))
noncomputable def bo_blanks_l1T (s : Str) : Int → Option (Int ⊕ (Unit ⊕ Int))
 | t_6 =>
 cnd (decide (t_6 < (List.length s : Int)))
  (bnd (nthI s t_6) fun y8 =>
  cnd ((y8.toNat : Int) != 9)
  (bnd (nthI s t_6) fun y10 =>
  cnd ((y10.toNat : Int) != 32)
   (some (.inr (.inr t_6)))
   (some (.inl (IntKind.wrap .i64 (t_6 + 1)))))
  (some (.inl (IntKind.wrap .i64 (t_6 + 1)))))
  (some (.inr (.inl ())))
abbrev bo_blanks_l1R (s : Str) (st : Int) (l : List PV) (u : UP) : Prop := l = [(.str s), (.int .i64 0), (.bool false), (.int .i64 (List.length s : Int)), (.int .i64 st)] ∧ u = []
abbrev bo_blanks_l1X (s : Str) (p : Unit ⊕ Int) (r : Ex × List PV × UP) : Prop := elim p (fun (p : Unit) => ∃ (t_11 : Int), r = (Ex.brk 0, [(.str s), (.int .i64 0), (.bool false), (.int .i64 (List.length s : Int)), (.int .i64 t_11)], [])) (fun q2 => (fun (p : Int) => ∃ (t_13 : Int), r = (Ex.ret, [(.str s), (.int .i64 p), (.bool true), (.int .i64 (List.length s : Int)), (.int .i64 t_13)], [])) q2)
noncomputable def bo_blanks_B (s : Str) : Option (Int × Bool) :=
 bnd (tloop (bo_blanks_l1T s) 0) fun e14_2 => elim e14_2
 (fun p14 =>
 some ((List.length s : Int), false))
 (fun t_12 =>
 some (t_12, true))
def bo_blanks_ds : Decs := { decs := [(12, (.int .u8)), (17, (.int .u8))], ups := [], loops := [(2, [], ⟨[.str, (.int .i64), .bool, (.int .i64), (.int .i64)], [], [(some 0, [.str, (.int .i64), .bool, (.int .i64), (.int .i64)], []), (none, [.str, (.int .i64), .bool, (.int .i64), (.int .i64)], [])]⟩)] }
set_option maxRecDepth 100000 in
theorem bo_blanks_t1 (O : Orc) (LP : LBody → LBody) (s : Str) : evalBodyD Tryd.prog (MT 70) bo_blanks_ds Tryd.f70.ntmps O LP Tryd.f70 [(.str s)] [] = bo_blanks_T1 O LP s := by kernel_rfl
theorem bo_blanks_l1_ok (s : Str) : ∀ st l u, bo_blanks_l1R s st l u → Imp (bo_blanks_l1T s st) (bo_blanks_l1 O loopLim l u) (StepR (bo_blanks_l1R s) (bo_blanks_l1X s)) := by
 rintro t_6 l u ⟨rfl, rfl⟩
 simp only [bo_blanks_l1T, bo_blanks_l1]
 refine Imp.chk rfl (Imp.chk rfl ?_)
 try simp only [evs, tys]
 refine Imp.cnd ?_ ?_
 ·refine Imp.op (f := fun a => .int .u8 (a.toNat : Int)) (fun a h => op_ixStr h) (fun a => rfl) fun y8 hy8 => ?_
  try simp only [evs, tys]
  refine Imp.cnd ?_ ?_
  ·refine Imp.op (f := fun a => .int .u8 (a.toNat : Int)) (fun a h => op_ixStr h) (fun a => rfl) fun y10 hy10 => ?_
   try simp only [evs, tys]
   refine Imp.cnd ?_ ?_
   ·exact Imp.some (StepR.ret ⟨t_6, by first | rfl | simp only [evs, tys, evl, elim_inl, elim_inr]⟩)
   ·exact Imp.some (StepR.next ⟨by first | rfl | simp only [evs, tys, evl], rfl⟩)
  ·exact Imp.some (StepR.next ⟨by first | rfl | simp only [evs, tys, evl], rfl⟩)
 ·exact Imp.some (StepR.brk ⟨t_6, by first | rfl | simp only [evs, tys, evl, elim_inl, elim_inr]⟩)
theorem bo_blanks_imp (s : Str) : Imp (bo_blanks_B s) (bo_blanks_T1 O loopLim s) (fun r v => v = (bo_blanksE r, [])) := by
 simp only [bo_blanks_B, bo_blanks_T1]
 try simp only [evs, tys]
 refine Imp.bnd (Imp.loop (bo_blanks_l1_ok s) ⟨by first | rfl | simp only [evs, tys, evl], rfl⟩) ?_
 rintro (p | t_12) vy14 hy14
 ·try simp only [elim_inl, elim_inr]
  obtain ⟨t_11, rfl⟩ := hy14
  refine Imp.exHit rfl (Imp.chk rfl (Imp.chk rfl ?_))
  try simp only [evs, tys]
  exact Imp.some (by first | rfl | simp only [bo_blanksE, evs, tys, evl])
 ·try simp only [elim_inl, elim_inr]
  obtain ⟨t_13, rfl⟩ := hy14
  refine Imp.exMiss rfl ?_
  refine Imp.exHit rfl (Imp.chk rfl (Imp.chk rfl ?_))
  try simp only [evs, tys]
  exact Imp.some (by first | rfl | simp only [bo_blanksE, evs, tys, evl])
theorem bo_blanks_run {s : Str} {r : Int × Bool} (h : bo_blanks_B s = some r) : bo_blanks s = some r := by
 obtain ⟨v, hv, rfl⟩ := bo_blanks_imp s r h
 exact tO_of (pair_inj bo_blanksEj) (OL_runD bo_blanks_ds rfl rfl Tryd.func70 ((bo_blanks_t1 _ _ s).trans hv))
open Go.Shelf Go.RowKit
def GM : Mem := fun b i =>
 if b = 0 then (if i < 256 then some (.int .u8 (Go.Lib.firstT i)) else none)
 else if b = 1 then (if i < 32 then some (.int .u8 (if i % 2 = 0 then Go.Lib.accLo (i / 2) else Go.Lib.accHi (i / 2))) else none)
 else none
theorem tabs_of : ∀ (n : Nat) (M : Mem) (B : BM) (args : List PV) (up : UP) (vals : Array Value) (w : World), CallPre ⟨n, GM⟩ M B args up vals w → Go.Lib.Utf8Tabs 0 1 w := by
 intro n M B args up vals w hp
 refine ⟨fun c hc => hp.globW (by show GM 0 c = _; unfold GM; rw [if_pos rfl, if_pos hc]), fun i hi => ⟨hp.globW ?_, hp.globW ?_⟩⟩
 ·show GM 1 (2 * i) = _
  unfold GM; rw [if_neg (by decide), if_pos rfl, if_pos (by omega), if_pos (by omega)]
  rw [show 2 * i / 2 = i by omega]
 ·show GM 1 (2 * i + 1) = _
  unfold GM; rw [if_neg (by decide), if_pos rfl, if_pos (by omega), if_neg (by omega)]
  rw [show (2 * i + 1) / 2 = i by omega]
theorem decS_decodeGo (s : Str) : Go.Lib.decodeGo ⟨s.toArray⟩ = decS s := by
 have hsz : (⟨s.toArray⟩ : ByteArray).size = s.length := by show s.toArray.size = _; simp
 unfold Go.Lib.decodeGo decS
 by_cases h : s = []
 ·subst h; rfl
 ·have hl : s.length ≠ 0 := fun e => h (List.length_eq_zero_iff.1 e)
  rw [if_neg (by rw [hsz]; exact hl), if_neg h]
  have := Go.Lib.decodeL_N s
  unfold Go.Lib.decodeL at this
  exact this
def Tryd.lays156_ren : Go.Shelf.Ren := ⟨fun | 156 => 40 | 165 => 71 | 166 => 72 | 169 => 73 | 240 => 93 | 241 => 94 | 276 => 105 | 277 => 106 | n => n, fun | 31 => 45 | 9 => 9 | 3 => 3 | 4 => 4 | 0 => 0 | 20 => 20 | 72 => 78 | 76 => 82 | 70 => 76 | 37 => 32 | 75 => 81 | 127 => 96 | 164 => 106 | 5 => 5 | 80 => 84 | n => n, fun | n => n⟩
theorem Tryd.lays156 : Go.Proofs.Lays.n156 Tryd.prog Tryd.lays156_ren := {
 mixed := by kernel_rfl
 f156 := Tryd.func40.trans (congrArg some (by kernel_rfl))
 f165 := Tryd.func71.trans (congrArg some (by kernel_rfl))
 f166 := Tryd.func72.trans (congrArg some (by kernel_rfl))
 f169 := Tryd.func73.trans (congrArg some (by kernel_rfl))
 f240 := Tryd.func93.trans (congrArg some (by kernel_rfl))
 f241 := Tryd.func94.trans (congrArg some (by kernel_rfl))
 f276 := Tryd.func105.trans (congrArg some (by kernel_rfl))
 f277 := Tryd.func106.trans (congrArg some (by kernel_rfl))
 t0 := Tryd.underlying0
 a0 := Tryd.isAgg0
 z0 := Tryd.sizeOf0
 v0 := Tryd.zeroValue0
 t3 := Tryd.underlying3
 a3 := Tryd.isAgg3
 z3 := Tryd.sizeOf3
 v3 := Tryd.zeroValue3
 t4 := Tryd.underlying4
 a4 := Tryd.isAgg4
 z4 := Tryd.sizeOf4
 v4 := Tryd.zeroValue4
 t9 := Tryd.underlying9
 a9 := Tryd.isAgg9
 z9 := Tryd.sizeOf9
 v9 := Tryd.zeroValue9
 t20 := Tryd.underlying20
 a20 := Tryd.isAgg20
 z20 := Tryd.sizeOf20
 v20 := Tryd.zeroValue20
 t31 := Tryd.underlying45
 a31 := Tryd.isAgg45
 z31 := Tryd.sizeOf45
 v31 := Tryd.zeroValue45
 t37 := Tryd.underlying32
 a37 := Tryd.isAgg32
 z37 := Tryd.sizeOf32
 v37 := Tryd.zeroValue32
 t70 := Tryd.underlying76
 a70 := Tryd.isAgg76
 z70 := Tryd.sizeOf76
 v70 := Tryd.zeroValue76
 t72 := Tryd.underlying78
 a72 := Tryd.isAgg78
 z72 := Tryd.sizeOf78
 v72 := Tryd.zeroValue78
 t75 := Tryd.underlying81
 a75 := Tryd.isAgg81
 z75 := Tryd.sizeOf81
 v75 := Tryd.zeroValue81
 t76 := Tryd.underlying82
 a76 := Tryd.isAgg82
 z76 := Tryd.sizeOf82
 v76 := Tryd.zeroValue82
 t127 := Tryd.underlying96
 a127 := Tryd.isAgg96
 z127 := Tryd.sizeOf96
 v127 := Tryd.zeroValue96
 t164 := Tryd.underlying106
 a164 := Tryd.isAgg106
 z164 := Tryd.sizeOf106
 v164 := Tryd.zeroValue106 }
theorem Tryd.Builder_Extra_156 : Builder.Extra Tryd.prog Tryd.lays156_ren := {
 sizeBuilder := by kernel_rfl
 liesBuilder := by kernel_rfl
 t5 := Tryd.underlying5
 a5 := Tryd.isAgg5
 z5 := Tryd.sizeOf5
 v5 := Tryd.zeroValue5
 infoByte := by kernel_rfl
 cellsByte := by kernel_rfl
 sizeByte := by kernel_rfl
 neB5 := by decide }
theorem Tryd.strings_Join_none (a : Option Addr) (c : Nat) (sep : ByteArray) (w : World) :
  Calls Tryd.prog 40 #[.slice a 0 c, .string sep] w fun e w' => e = .returned (.string ⟨#[]⟩) ∧ w' = w := Any.strings_Join_none Tryd.lays156 Tryd.Builder_Extra_156 a c sep w
theorem Tryd.strings_Join (bk o c : Nat) (xs : List ByteArray) (sep : ByteArray) (w : World) (hcells : ∀ (j : Nat) x, xs[j]? = some x → w.cell? ⟨bk, o + j, none⟩ = some (.string x)) (hbk : bk < w.heap.size) (hN : xs.length ≤ 140737488355328) (hcap : xs.length ≤ c) (hlen : (Lib.join (xs.map (·.data.toList)) sep.data.toList).length ≤ 140737488355328) :
  Calls Tryd.prog 40 #[.slice (some ⟨bk, o, none⟩) xs.length c, .string sep] w fun e w' => e = .returned (.string ⟨(Lib.join (xs.map (·.data.toList)) sep.data.toList).toArray⟩) ∧ Below w.heap.size w w' := Any.strings_Join Tryd.lays156 Tryd.Builder_Extra_156 bk o c xs sep w hcells hbk hN hcap hlen
theorem xok_join : ∀ args up r up', xJoin args up = some (r, up') → ∀ (n : Nat) w M B vals, CallPre ⟨n, GM⟩ M B args up vals w → Invokes Tryd.prog 40 vals w (CallPost ⟨n, GM⟩ M B args up vals w r up') :=
 xJoin_ok (fun _ _ => enters_of Tryd.func40 (by kernel_rfl) rfl _ _) (fun a c sep w => Tryd.strings_Join_none a c sep w) fun bk o c xs sep w h1 h2 h3 h4 h5 => Tryd.strings_Join bk o c xs sep w h1 h2 h3 h4 h5
def Tryd.lays153_ren : Go.Shelf.Ren := ⟨fun | 153 => 50 | 152 => 81 | 226 => 82 | 227 => 83 | 228 => 84 | 137 => 54 | 119 => 97 | 224 => 98 | 225 => 99 | 217 => 87 | 266 => 101 | n => n, fun | 9 => 9 | 3 => 3 | 4 => 4 | 5 => 5 | 21 => 21 | 117 => 90 | 116 => 89 | 0 => 0 | 46 => 35 | 124 => 104 | n => n, fun | n => n⟩
theorem Tryd.lays153 : Go.Proofs.Lays.n153 Tryd.prog Tryd.lays153_ren := {
 mixed := by kernel_rfl
 f119 := Tryd.func97.trans (congrArg some (by kernel_rfl))
 f137 := Tryd.func54.trans (congrArg some (by kernel_rfl))
 f152 := Tryd.func81.trans (congrArg some (by kernel_rfl))
 f153 := Tryd.func50.trans (congrArg some (by kernel_rfl))
 f217 := Tryd.func87.trans (congrArg some (by kernel_rfl))
 f224 := Tryd.func98.trans (congrArg some (by kernel_rfl))
 f225 := Tryd.func99.trans (congrArg some (by kernel_rfl))
 f226 := Tryd.func82.trans (congrArg some (by kernel_rfl))
 f227 := Tryd.func83.trans (congrArg some (by kernel_rfl))
 f228 := Tryd.func84.trans (congrArg some (by kernel_rfl))
 f266 := Tryd.func101.trans (congrArg some (by kernel_rfl))
 t0 := Tryd.underlying0
 a0 := Tryd.isAgg0
 z0 := Tryd.sizeOf0
 v0 := Tryd.zeroValue0
 t3 := Tryd.underlying3
 a3 := Tryd.isAgg3
 z3 := Tryd.sizeOf3
 v3 := Tryd.zeroValue3
 t4 := Tryd.underlying4
 a4 := Tryd.isAgg4
 z4 := Tryd.sizeOf4
 v4 := Tryd.zeroValue4
 t5 := Tryd.underlying5
 a5 := Tryd.isAgg5
 z5 := Tryd.sizeOf5
 v5 := Tryd.zeroValue5
 t9 := Tryd.underlying9
 a9 := Tryd.isAgg9
 z9 := Tryd.sizeOf9
 v9 := Tryd.zeroValue9
 t21 := Tryd.underlying21
 a21 := Tryd.isAgg21
 z21 := Tryd.sizeOf21
 v21 := Tryd.zeroValue21
 t46 := Tryd.underlying35
 a46 := Tryd.isAgg35
 z46 := Tryd.sizeOf35
 v46 := Tryd.zeroValue35
 t116 := Tryd.underlying89
 a116 := Tryd.isAgg89
 z116 := Tryd.sizeOf89
 t117 := Tryd.underlying90
 a117 := Tryd.isAgg90
 z117 := Tryd.sizeOf90
 v117 := Tryd.zeroValue90
 t124 := Tryd.underlying104
 a124 := Tryd.isAgg104
 z124 := Tryd.sizeOf104
 v124 := Tryd.zeroValue104 }
theorem xok_indexAny : ∀ args up r up', xIndexAny args up = some (r, up') → ∀ (n : Nat) w M B vals, CallPre ⟨n, GM⟩ M B args up vals w → Invokes Tryd.prog 50 vals w (CallPost ⟨n, GM⟩ M B args up vals w r up') :=
 xIndexAny_ok (fun _ _ => enters_of Tryd.func50 (by kernel_rfl) rfl _ _) fun s w hs => Ixa.IndexAny_all Tryd.lays153 (by kernel_rfl) s w (Nat.lt_succ_of_le hs)
def Tryd.lays137_ren : Go.Shelf.Ren := ⟨fun | 137 => 54 | 217 => 87 | 266 => 101 | n => n, fun | 9 => 9 | 5 => 5 | 3 => 3 | n => n, fun | n => n⟩
theorem Tryd.lays137 : Go.Proofs.Lays.n137 Tryd.prog Tryd.lays137_ren := {
 mixed := by kernel_rfl
 f137 := Tryd.func54.trans (congrArg some (by kernel_rfl))
 f217 := Tryd.func87.trans (congrArg some (by kernel_rfl))
 f266 := Tryd.func101.trans (congrArg some (by kernel_rfl))
 t3 := Tryd.underlying3
 a3 := Tryd.isAgg3
 z3 := Tryd.sizeOf3
 v3 := Tryd.zeroValue3
 t5 := Tryd.underlying5
 a5 := Tryd.isAgg5
 z5 := Tryd.sizeOf5
 v5 := Tryd.zeroValue5
 t9 := Tryd.underlying9
 a9 := Tryd.isAgg9
 z9 := Tryd.sizeOf9
 v9 := Tryd.zeroValue9 }
theorem xok_indexByte : ∀ args up r up', xIndexByte args up = some (r, up') → ∀ (n : Nat) w M B vals, CallPre ⟨n, GM⟩ M B args up vals w → Invokes Tryd.prog 54 vals w (CallPost ⟨n, GM⟩ M B args up vals w r up') :=
 xIndexByte_ok (fun _ _ => enters_of Tryd.func54 (by kernel_rfl) rfl _ _) fun s c w => Any.strings_IndexByte Tryd.lays137 s c w
def Tryd.lays260_ren : Go.Shelf.Ren := ⟨fun | 260 => 92 | n => n, fun | 9 => 9 | 21 => 21 | 3 => 3 | 4 => 4 | 5 => 5 | 119 => 98 | 0 => 0 | 46 => 35 | 139 => 101 | 138 => 100 | n => n, fun | 3 => 0 | 4 => 1 | n => n⟩
theorem Tryd.lays260 : Go.Proofs.Lays.n260 Tryd.prog Tryd.lays260_ren := {
 mixed := by kernel_rfl
 f260 := Tryd.func92.trans (congrArg some (by kernel_rfl))
 t0 := Tryd.underlying0
 a0 := Tryd.isAgg0
 z0 := Tryd.sizeOf0
 v0 := Tryd.zeroValue0
 t3 := Tryd.underlying3
 a3 := Tryd.isAgg3
 z3 := Tryd.sizeOf3
 v3 := Tryd.zeroValue3
 t4 := Tryd.underlying4
 a4 := Tryd.isAgg4
 z4 := Tryd.sizeOf4
 v4 := Tryd.zeroValue4
 t5 := Tryd.underlying5
 a5 := Tryd.isAgg5
 z5 := Tryd.sizeOf5
 v5 := Tryd.zeroValue5
 t9 := Tryd.underlying9
 a9 := Tryd.isAgg9
 z9 := Tryd.sizeOf9
 v9 := Tryd.zeroValue9
 t21 := Tryd.underlying21
 a21 := Tryd.isAgg21
 z21 := Tryd.sizeOf21
 v21 := Tryd.zeroValue21
 t46 := Tryd.underlying35
 a46 := Tryd.isAgg35
 z46 := Tryd.sizeOf35
 v46 := Tryd.zeroValue35
 t119 := Tryd.underlying98
 a119 := Tryd.isAgg98
 z119 := Tryd.sizeOf98
 t138 := Tryd.underlying100
 a138 := Tryd.isAgg100
 z138 := Tryd.sizeOf100
 v138 := Tryd.zeroValue100
 t139 := Tryd.underlying101
 a139 := Tryd.isAgg101
 z139 := Tryd.sizeOf101
 v139 := Tryd.zeroValue101
 g3 := by kernel_rfl
 g4 := by kernel_rfl }
def Tryd.lays197_ren : Go.Shelf.Ren := ⟨fun | 197 => 69 | 260 => 92 | n => n, fun | 9 => 9 | 21 => 21 | 3 => 3 | 4 => 4 | 5 => 5 | 105 => 72 | 119 => 98 | 0 => 0 | 46 => 35 | 139 => 101 | 138 => 100 | n => n, fun | 3 => 0 | 4 => 1 | n => n⟩
theorem Tryd.lays197 : Go.Proofs.Lays.n197 Tryd.prog Tryd.lays197_ren := {
 mixed := by kernel_rfl
 f197 := Tryd.func69.trans (congrArg some (by kernel_rfl))
 f260 := Tryd.func92.trans (congrArg some (by kernel_rfl))
 t0 := Tryd.underlying0
 a0 := Tryd.isAgg0
 z0 := Tryd.sizeOf0
 v0 := Tryd.zeroValue0
 t3 := Tryd.underlying3
 a3 := Tryd.isAgg3
 z3 := Tryd.sizeOf3
 v3 := Tryd.zeroValue3
 t4 := Tryd.underlying4
 a4 := Tryd.isAgg4
 z4 := Tryd.sizeOf4
 v4 := Tryd.zeroValue4
 t5 := Tryd.underlying5
 a5 := Tryd.isAgg5
 z5 := Tryd.sizeOf5
 v5 := Tryd.zeroValue5
 t9 := Tryd.underlying9
 a9 := Tryd.isAgg9
 z9 := Tryd.sizeOf9
 v9 := Tryd.zeroValue9
 t21 := Tryd.underlying21
 a21 := Tryd.isAgg21
 z21 := Tryd.sizeOf21
 v21 := Tryd.zeroValue21
 t46 := Tryd.underlying35
 a46 := Tryd.isAgg35
 z46 := Tryd.sizeOf35
 v46 := Tryd.zeroValue35
 t105 := Tryd.underlying72
 a105 := Tryd.isAgg72
 z105 := Tryd.sizeOf72
 v105 := Tryd.zeroValue72
 t119 := Tryd.underlying98
 a119 := Tryd.isAgg98
 z119 := Tryd.sizeOf98
 t138 := Tryd.underlying100
 a138 := Tryd.isAgg100
 z138 := Tryd.sizeOf100
 v138 := Tryd.zeroValue100
 t139 := Tryd.underlying101
 a139 := Tryd.isAgg101
 z139 := Tryd.sizeOf101
 v139 := Tryd.zeroValue101
 g3 := by kernel_rfl
 g4 := by kernel_rfl }
theorem xok_decode : ∀ args up r up', xDecode args up = some (r, up') → ∀ (n : Nat) w M B vals, CallPre ⟨n, GM⟩ M B args up vals w → Invokes Tryd.prog 69 vals w (CallPost ⟨n, GM⟩ M B args up vals w r up') :=
 xDecode_ok (T := Go.Lib.Utf8Tabs 0 1) tabs_of (fun _ _ => enters_of Tryd.func69 (by kernel_rfl) rfl _ _) fun s w hT => by
  have := Any.utf8_DecodeRuneInString Tryd.lays197 ⟨s.toArray⟩ w hT
  rw [decS_decodeGo] at this; exact this
theorem xok : ExtOk Tryd.prog GM XT := by
 intro f g h
 unfold XT at h
 simp only [Go.Ev.look] at h
 split at h
 ·rename_i e; subst e; cases h; exact xok_join
 split at h
 ·rename_i e; subst e; cases h; exact xok_indexAny
 split at h
 ·rename_i e; subst e; cases h; exact xok_indexByte
 split at h
 ·rename_i e; subst e; cases h; exact xok_decode
 simp at h
end Go.Proofs.YtafndpggajdmiaaDoor

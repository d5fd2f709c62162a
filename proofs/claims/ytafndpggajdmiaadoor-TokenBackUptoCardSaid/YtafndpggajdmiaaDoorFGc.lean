import Derived.Test.YtafndpggajdmiaaDoorFGa
import Derived.Lib.TrimUEq
import Derived.Lib.ValidU
import Derived.Shelf.Strings.OnBuilder
import Derived.Shelf.Strings.Search2
import Derived.Shelf.Strings.Search3
import Derived.Shelf.Unicode.DecodeAny
import Derived.Shelf.Unicode.ValidAny
import Derived.Test.YtafndpggajdmiaaDoorFEd
import Derived.WalkKit
import Derived.KernelRfl
import Derived.Test.YtafndpggajdmiaaDoorFGb
set_option linter.unusedVariables false
set_option linter.unusedSimpArgs false
set_option linter.unusedSimpArgs false
open Go Go.Ev Go.Ev.PV
namespace Go.Proofs.YtafndpggajdmiaaDoor
def bo_Value_l1 (O : Orc) (LP : LBody → LBody) : LBody := fun s6 s6u => cnd (chkL [(.rsl 0 7 1), (.int .i64), (.int .i64), (.vec 1)] s6) (cnd (chkU [] s6u)
 (cnd (decide ((intV (gt s6 2)) < ((rlnV (gt s6 0)) : Int)))
  (bnd (ix 1 (.rsl 0 7 (rlnV (gt s6 0)) 1) (.int .i64 (intV (gt s6 2)))) fun x23 => cnd (chk (.ptx 0 7) x23)
  (bnd (vload 1 (vecV (gt s6 3)) (offV x23) 1 false) fun x25 => cnd (chk .str x25)
  (bnd (ix 1 (.rsl 0 7 (rlnV (gt s6 0)) 1) (.int .i64 (intV (gt s6 2)))) fun x27 => cnd (chk (.ptx 0 7) x27)
  (bnd (vload 1 (vecV (gt s6 3)) (offV x27) 1 false) fun x29 => cnd (chk .str x29)
  (bnd (slcLo 0 (.str (strV x25)) (.int .i64 (if (List.length (strV x29) : Int) < (intV (gt s6 1)) then (List.length (strV x29) : Int) else (intV (gt s6 1))))) fun x31 => cnd (chk .str x31)
  (bnd (ix 1 (.rsl 0 7 (rlnV (gt s6 0)) 1) (.int .i64 (intV (gt s6 2)))) fun x33 => cnd (chk (.ptx 0 7) x33)
  (bnd (vput 1 (vecV (gt s6 3)) (offV x33) [(.str (strV x31))]) fun x35 =>
  some (.nrm, [(.rsl 0 7 (rlnV (gt s6 0)) 1), (.int .i64 (intV (gt s6 1))), (.int .i64 (IntKind.wrap .i64 ((intV (gt s6 2)) + 1))), (.vec 1 x35)], [])) none) none) none) none) none) none)
  (some (.brk 0, [(.rsl 0 7 (rlnV (gt s6 0)) 1), (.int .i64 (intV (gt s6 1))), (.int .i64 (intV (gt s6 2))), (.vec 1 (vecV (gt s6 3)))], []))) none) none
def bo_Value_l2 (O : Orc) (LP : LBody → LBody) : LBody := fun s40 s40u => cnd (chkL [(.slb false)] s40) (cnd (chkU [] s40u)
 (cnd (decide ((List.length (esV (gt s40 0)) : Int) > 0))
 (bnd (ix 1 (.slice (esV (gt s40 0)) [] false) (.int .i64 0)) fun x49 => cnd (chk (.ref .str) x49)
 (callp O 39 [(.str (strV (refV x49)))] fun x51 => cnd (chk .bool x51)
 (cnd (boolV x51)
 (bnd (slcLo 1 (.slice (esV (gt s40 0)) [] false) (.int .i64 1)) fun x53 => cnd (chk (.slb false) x53)
 (some (.nrm, [(.slice (esV x53) (bsV x53) false)], [])) none)
 (some (.brk 2, [(.slice (esV (gt s40 0)) (bsV (gt s40 0)) false)], []))) none) none)
 (some (.brk 2, [(.slice (esV (gt s40 0)) (bsV (gt s40 0)) false)], []))) none) none
def bo_Value_l3 (O : Orc) (LP : LBody → LBody) : LBody := fun s58 s58u => cnd (chkL [(.slb false)] s58) (cnd (chkU [] s58u)
 (cnd (decide ((List.length (esV (gt s58 0)) : Int) > 0))
 (bnd (ix 1 (.slice (esV (gt s58 0)) [] false) (.int .i64 (IntKind.wrap .i64 ((List.length (esV (gt s58 0)) : Int) - 1)))) fun x67 => cnd (chk (.ref .str) x67)
 (callp O 39 [(.str (strV (refV x67)))] fun x69 => cnd (chk .bool x69)
 (cnd (boolV x69)
 (bnd (slcHi 1 (.slice (esV (gt s58 0)) [] false) (.int .i64 (IntKind.wrap .i64 ((List.length (esV (gt s58 0)) : Int) - 1)))) fun x71 => cnd (chk (.slb false) x71)
 (some (.nrm, [(.slice (esV x71) (bsV x71) false)], [])) none)
 (some (.brk 4, [(.slice (esV (gt s58 0)) (bsV (gt s58 0)) false)], []))) none) none)
 (some (.brk 4, [(.slice (esV (gt s58 0)) (bsV (gt s58 0)) false)], []))) none) none
def bo_Value_T1 (O : Orc) (LP : LBody → LBody) (raw : Str) : Option (PV × UP) :=
 callp O 37 [(.str raw)] fun x2 => bnd (thawV 1 x2) fun x3 =>
 cnd ((Nat.ble (List.length x3) (List.length x3)) && true)
 (callp O 38 [(.slice (List.take (List.length x3) x3) [] false)] fun x4 => cnd (scal x4) (cnd (chk (.int .i64) x4)
 (cnd (decide ((intV x4) > 0))
 (bnd (LP (bo_Value_l1 O LP) [(.rsl 0 7 (List.length x3) 1), (.int .i64 (intV x4)), (.int .i64 1), (.vec 1 x3)] []) fun y39 =>
 exIs y39.1 (some 0) (cnd (chkL [(.rsl 0 7 1), (.int .i64), (.int .i64), (.vec 1)] y39.2.1) (cnd (chkU [] y39.2.2)
 (cnd (Nat.ble (rlnV (gt y39.2.1 0)) (List.length (vecV (gt y39.2.1 3))))
 (bnd (LP (bo_Value_l2 O LP) [(.slice (List.take (rlnV (gt y39.2.1 0)) (vecV (gt y39.2.1 3))) [] false)] []) fun y57 =>
 exIs y57.1 (some 2) (cnd (chkL [(.slb false)] y57.2.1) (cnd (chkU [] y57.2.2)
 (bnd (LP (bo_Value_l3 O LP) [(.slice (esV (gt y57.2.1 0)) (bsV (gt y57.2.1 0)) false)] []) fun y75 =>
 exIs y75.1 (some 4) (cnd (chkL [(.slb false)] y75.2.1) (cnd (chkU [] y75.2.2)
 (callp O 40 [(.slice (esV (gt y75.2.1 0)) [] false), (.str [10])] fun x76 => cnd (chk .str x76)
 (some ((.str (strV x76)), [])) none) none) none)
 (none)) none) none)
 (none))
 (none)) none) none)
 (none))
 (cnd (Nat.ble (List.length x3) (List.length x3))
 (bnd (LP (bo_Value_l2 O LP) [(.slice (List.take (List.length x3) x3) [] false)] []) fun y95 =>
 exIs y95.1 (some 2) (cnd (chkL [(.slb false)] y95.2.1) (cnd (chkU [] y95.2.2)
 (bnd (LP (bo_Value_l3 O LP) [(.slice (esV (gt y95.2.1 0)) (bsV (gt y95.2.1 0)) false)] []) fun y113 =>
 exIs y113.1 (some 4) (cnd (chkL [(.slb false)] y113.2.1) (cnd (chkU [] y113.2.2)
 (callp O 40 [(.slice (esV (gt y113.2.1 0)) [] false), (.str [10])] fun x114 => cnd (chk .str x114)
 (some ((.str (strV x114)), [])) none) none) none)
 (none)) none) none)
 (none))
 (none))) none) none)
 (none)
noncomputable def bo_Value_l1T (y1 : List Str) (y5 : Int) : (Int × (List Str)) → Option ((Int × (List Str)) ⊕ ((List Str)))
 | (i_21, b_22) =>
 cnd (decide (i_21 < ((List.length y1) : Int)))
  (bnd (tixR (List.length y1) i_21) fun y24 =>
  bnd (tget b_22 y24 (fun z : Str => z)) fun y26 =>
  bnd (tixR (List.length y1) i_21) fun y28 =>
  bnd (tget b_22 y28 (fun z : Str => z)) fun y30 =>
  bnd (tslc y26 (if (List.length y30 : Int) < y5 then (List.length y30 : Int) else y5) (List.length y26)) fun y32 =>
  bnd (tixR (List.length y1) i_21) fun y34 =>
  bnd (tput b_22 y34 (fun _ : Str => y32)) fun y36 =>
  some (.inl ((IntKind.wrap .i64 (i_21 + 1)), y36)))
  (some (.inr b_22))
abbrev bo_Value_l1R (y1 : List Str) (y5 : Int) (st : Int × (List Str)) (l : List PV) (u : UP) : Prop := l = [(.rsl 0 7 (List.length y1) 1), (.int .i64 y5), (.int .i64 st.1), (.vec 1 (List.map PV.str st.2))] ∧ u = []
abbrev bo_Value_l1X (y1 : List Str) (y5 : Int) (p : (List Str)) (r : Ex × List PV × UP) : Prop := (fun (p : (List Str)) => ∃ (i_37 : Int), r = (Ex.brk 0, [(.rsl 0 7 (List.length y1) 1), (.int .i64 y5), (.int .i64 i_37), (.vec 1 (List.map PV.str p))], [])) p
noncomputable def bo_Value_l2T : ((List Str)) → Option (((List Str)) ⊕ ((List Str)))
 | l_48 =>
 cnd (decide ((List.length l_48 : Int) > 0))
  (bnd (nthI l_48 0) fun y50 =>
  bnd (bo_bare y50) fun y52 =>
  cnd y52
  (bnd (tslc (l_48 : List Str) 1 (List.length l_48)) fun y54 =>
  some (.inl y54))
  (some (.inr l_48)))
  (some (.inr l_48))
abbrev bo_Value_l2R (st : (List Str)) (l : List PV) (u : UP) : Prop := ∃ (jb47 : List Str), l = [(.slice (List.map PV.str st) (List.map PV.str jb47) false)] ∧ u = []
abbrev bo_Value_l2X (p : (List Str)) (r : Ex × List PV × UP) : Prop := (fun (p : (List Str)) => ∃ (jb47 : List Str), r = (Ex.brk 2, [(.slice (List.map PV.str p) (List.map PV.str jb47) false)], [])) p
noncomputable def bo_Value_l3T : ((List Str)) → Option (((List Str)) ⊕ ((List Str)))
 | l_66 =>
 cnd (decide ((List.length l_66 : Int) > 0))
  (bnd (nthI l_66 (IntKind.wrap .i64 ((List.length l_66 : Int) - 1))) fun y68 =>
  bnd (bo_bare y68) fun y70 =>
  cnd y70
  (bnd (tslc (l_66 : List Str) 0 (IntKind.wrap .i64 ((List.length l_66 : Int) - 1))) fun y72 =>
  some (.inl y72))
  (some (.inr l_66)))
  (some (.inr l_66))
abbrev bo_Value_l3R (st : (List Str)) (l : List PV) (u : UP) : Prop := ∃ (jb47 : List Str), l = [(.slice (List.map PV.str st) (List.map PV.str jb47) false)] ∧ u = []
abbrev bo_Value_l3X (p : (List Str)) (r : Ex × List PV × UP) : Prop := (fun (p : (List Str)) => ∃ (jb47 : List Str), r = (Ex.brk 4, [(.slice (List.map PV.str p) (List.map PV.str jb47) false)], [])) p
noncomputable def bo_Value_B (raw : Str) : Option Str :=
 bnd (bo_Lines raw) fun y1 =>
 cnd ((Nat.ble (List.length y1) (List.length y1)) && true)
 (bnd (bo_Indent (List.take (List.length y1) y1)) fun y5 =>
 cnd (decide (y5 > 0))
 (bnd (tloop (bo_Value_l1T y1 y5) (1, y1)) fun b_38 =>
 cnd (Nat.ble (List.length y1) (List.length b_38))
 (bnd (tloop bo_Value_l2T (List.take (List.length y1) b_38)) fun l_56 =>
 bnd (tloop bo_Value_l3T l_56) fun l_74 =>
 bnd (st_Join l_74 [10]) fun y77 =>
 some y77)
 (none))
 (cnd (Nat.ble (List.length y1) (List.length y1))
 (bnd (tloop bo_Value_l2T (List.take (List.length y1) y1)) fun l_94 =>
 bnd (tloop bo_Value_l3T l_94) fun l_112 =>
 bnd (st_Join l_112 [10]) fun y115 =>
 some y115)
 (none)))
 (none)
def bo_Value_ds : Decs := { decs := [(9, (.int .i64)), (22, (.ptx 0 7)), (23, .str), (27, (.ptx 0 7)), (28, .str), (31, .str), (32, (.ptx 0 7)), (38, (.ref .str)), (40, .bool), (43, (.slb false)), (52, (.ref .str)), (54, .bool), (60, (.slb false)), (62, .str)], ups := [], loops := [(5, [(7, 1)], ⟨[(.rsl 0 7 1), (.int .i64), (.int .i64), (.vec 1)], [], [(some 0, [(.rsl 0 7 1), (.int .i64), (.int .i64), (.vec 1)], [])]⟩), (8, [], ⟨[(.slb false)], [], [(some 2, [(.slb false)], [])]⟩), (10, [], ⟨[(.slb false)], [], [(some 4, [(.slb false)], [])]⟩)] }
set_option maxRecDepth 100000 in
theorem bo_Value_t1 (O : Orc) (LP : LBody → LBody) (raw : Str) : evalBodyD Tryd.prog (MT 19) bo_Value_ds Tryd.f19.ntmps O LP Tryd.f19 [(.str raw)] [] = bo_Value_T1 O LP raw := by kernel_rfl
theorem bo_Value_l1_ok (y1 : List Str) (y5 : Int) : ∀ st l u, bo_Value_l1R y1 y5 st l u → Imp (bo_Value_l1T y1 y5 st) (bo_Value_l1 O loopLim l u) (StepR (bo_Value_l1R y1 y5) (bo_Value_l1X y1 y5)) := by
 rintro ⟨i_21, b_22⟩ l u ⟨rfl, rfl⟩
 simp only [bo_Value_l1T, bo_Value_l1]
 refine Imp.chk rfl (Imp.chk rfl ?_)
 try simp only [evs, tys]
 refine Imp.cnd ?_ ?_
 ·refine Imp.op (f := fun a => .ptr 0 7 (a * 1)) (fun a h => op_ixR h) (fun a => rfl) fun y24 hy24 => ?_
  try simp only [evs, tys]
  refine Imp.op (f := fun a => PV.str a) (fun a h => op_vload0 (enc := PV.str) (encT := fun a => PV.str a) (f := fun z => z) (by first | rfl | simp only [evs, tys, evl]) (by decide) (fun z => by first | rfl | (simp only [evs, tys, evc, part]; rfl)) (fun a => by first | rfl | (simp only [evs, tys]; rfl)) h) (fun a => rfl) fun y26 hy26 => ?_
  try simp only [evs, tys]
  refine Imp.op (f := fun a => .ptr 0 7 (a * 1)) (fun a h => op_ixR h) (fun a => rfl) fun y28 hy28 => ?_
  try simp only [evs, tys]
  refine Imp.op (f := fun a => PV.str a) (fun a h => op_vload0 (enc := PV.str) (encT := fun a => PV.str a) (f := fun z => z) (by first | rfl | simp only [evs, tys, evl]) (by decide) (fun z => by first | rfl | (simp only [evs, tys, evc, part]; rfl)) (fun a => by first | rfl | (simp only [evs, tys]; rfl)) h) (fun a => rfl) fun y30 hy30 => ?_
  try simp only [evs, tys]
  refine Imp.op (f := fun a => .str a) (fun a h => op_sslcLo h) (fun a => rfl) fun y32 hy32 => ?_
  try simp only [evs, tys]
  refine Imp.op (f := fun a => .ptr 0 7 (a * 1)) (fun a h => op_ixR h) (fun a => rfl) fun y34 hy34 => ?_
  try simp only [evs, tys]
  refine Imp.opr (f := fun a => List.map PV.str a) (fun a h => op_vput0 (enc := PV.str) (by first | rfl | simp only [evs, tys, evl]) (by decide) (by simp) (by rfl) (fun z => by first | rfl | (simp only [evs, tys, evl, evc]; rfl)) h) fun y36 hy36 => ?_
  try simp only [evs, tys]
  exact Imp.some (StepR.next ⟨by first | rfl | simp only [evs, tys, evl], rfl⟩)
 ·exact Imp.some (StepR.brk ⟨i_21, by first | rfl | simp only [evs, tys, evl, elim_inl, elim_inr]⟩)
theorem bo_Value_l2_ok : ∀ st l u, bo_Value_l2R st l u → Imp (bo_Value_l2T st) (bo_Value_l2 O loopLim l u) (StepR (bo_Value_l2R) (bo_Value_l2X)) := by
 rintro l_48 l u ⟨jb47, rfl, rfl⟩
 simp only [bo_Value_l2T, bo_Value_l2]
 refine Imp.chk rfl (Imp.chk rfl ?_)
 try simp only [evs, tys]
 refine Imp.cnd ?_ ?_
 ·refine Imp.op (f := fun a => .ref (PV.str a)) (fun a h => op_ix (enc := PV.str) (by first | rfl | simp only [evs, tys, evl]) ⟨by first | rfl | simp only [evs, tys, evc], by decide⟩ h) (fun a => rfl) fun y50 hy50 => ?_
  try simp only [evs, tys]
  refine Imp.call (f := bo_bareE) rfl (fun a h => by first | exact bo_bare_spec h | simpa only [evs, tys, evl] using bo_bare_spec h) (fun a => by first | rfl | simp only [bo_bareE, evk, chks]) fun y52 hy52 => ?_
  try simp only [bo_bareE, evs, tys]
  refine Imp.cnd ?_ ?_
  ·refine Imp.op2 (f := fun a b => .slice (List.map PV.str a) (List.map PV.str b) false) (fun a h => op_slcLo (enc := PV.str) (b := _) (by first | rfl | simp only [evs, tys, evl]) (by first | rfl | exact List.map_nil.symm | simp only [evs, tys, evl]) (fun a => by first | rfl | simp only [evs, tys, evc]) h) (fun a b => rfl) fun y54 jby54 hy54 => ?_
   try simp only [evs, tys]
   exact Imp.some (StepR.next ⟨jby54, by first | rfl | simp only [evs, tys, evl], rfl⟩)
  ·exact Imp.some (StepR.brk ⟨jb47, by first | rfl | simp only [evs, tys, evl, elim_inl, elim_inr]⟩)
 ·exact Imp.some (StepR.brk ⟨jb47, by first | rfl | simp only [evs, tys, evl, elim_inl, elim_inr]⟩)
theorem bo_Value_l3_ok : ∀ st l u, bo_Value_l3R st l u → Imp (bo_Value_l3T st) (bo_Value_l3 O loopLim l u) (StepR (bo_Value_l3R) (bo_Value_l3X)) := by
 rintro l_66 l u ⟨jb47, rfl, rfl⟩
 simp only [bo_Value_l3T, bo_Value_l3]
 refine Imp.chk rfl (Imp.chk rfl ?_)
 try simp only [evs, tys]
 refine Imp.cnd ?_ ?_
 ·refine Imp.op (f := fun a => .ref (PV.str a)) (fun a h => op_ix (enc := PV.str) (by first | rfl | simp only [evs, tys, evl]) ⟨by first | rfl | simp only [evs, tys, evc], by decide⟩ h) (fun a => rfl) fun y68 hy68 => ?_
  try simp only [evs, tys]
  refine Imp.call (f := bo_bareE) rfl (fun a h => by first | exact bo_bare_spec h | simpa only [evs, tys, evl] using bo_bare_spec h) (fun a => by first | rfl | simp only [bo_bareE, evk, chks]) fun y70 hy70 => ?_
  try simp only [bo_bareE, evs, tys]
  refine Imp.cnd ?_ ?_
  ·refine Imp.op2 (f := fun a b => .slice (List.map PV.str a) (List.map PV.str b) false) (fun a h => op_slcHi (enc := PV.str) (b := _) (by first | rfl | simp only [evs, tys, evl]) (by first | rfl | exact List.map_nil.symm | simp only [evs, tys, evl]) (fun a => by first | rfl | simp only [evs, tys, evc]) h) (fun a b => rfl) fun y72 jby72 hy72 => ?_
   try simp only [evs, tys]
   exact Imp.some (StepR.next ⟨jby72, by first | rfl | simp only [evs, tys, evl], rfl⟩)
  ·exact Imp.some (StepR.brk ⟨jb47, by first | rfl | simp only [evs, tys, evl, elim_inl, elim_inr]⟩)
 ·exact Imp.some (StepR.brk ⟨jb47, by first | rfl | simp only [evs, tys, evl, elim_inl, elim_inr]⟩)
theorem bo_Value_imp (raw : Str) : Imp (bo_Value_B raw) (bo_Value_T1 O loopLim raw) (fun r v => v = (bo_ValueE r, [])) := by
 simp only [bo_Value_B, bo_Value_T1]
 try simp only [evs, tys]
 refine Imp.callT (f := bo_LinesE) (e := fun a => List.map PV.str a) rfl (fun a h => by first | exact bo_Lines_spec h | simpa only [evs, tys, evl, ← List.map_take] using bo_Lines_spec h) (fun a => thaw_map (enc := PV.str) a (by decide) (fun z => by first | rfl | (simp only [evs, tys]; rfl))) fun y1 hy1 => ?_
 try simp only [bo_LinesE, evs, tys]
 refine Imp.cnd ?_ ?_
 ·refine Imp.callS (f := bo_IndentE) rfl (fun a h => by first | exact bo_Indent_spec h | simpa only [evs, tys, evl, ← List.map_take] using bo_Indent_spec h) (fun a => rfl) (fun a => by first | rfl | simp only [bo_IndentE, evk, chks]) fun y5 hy5 => ?_
  try simp only [bo_IndentE, evs, tys]
  refine Imp.cnd ?_ ?_
  ·refine Imp.bnd (Imp.loop (bo_Value_l1_ok y1 y5) ⟨by first | rfl | simp only [evs, tys, evl], rfl⟩) ?_
   rintro b_38 vy39 hy39
   obtain ⟨i_37, rfl⟩ := hy39
   refine Imp.exHit rfl (Imp.chk rfl (Imp.chk rfl ?_))
   try simp only [evs, tys]
   refine Imp.cnd ?_ ?_
   ·refine Imp.bnd (Imp.loop (bo_Value_l2_ok) ⟨[], by first | rfl | simp only [evs, tys, evl], rfl⟩) ?_
    rintro l_56 vy57 hy57
    obtain ⟨jb47, rfl⟩ := hy57
    refine Imp.exHit rfl (Imp.chk rfl (Imp.chk rfl ?_))
    try simp only [evs, tys]
    refine Imp.bnd (Imp.loop (bo_Value_l3_ok) ⟨jb47, by first | rfl | simp only [evs, tys, evl], rfl⟩) ?_
    rintro l_74 vy75 hy75
    obtain ⟨jb47, rfl⟩ := hy75
    refine Imp.exHit rfl (Imp.chk rfl (Imp.chk rfl ?_))
    try simp only [evs, tys]
    refine Imp.call (f := st_JoinE) rfl (fun a h => by first | exact st_Join_spec h | simpa only [evs, tys, evl] using st_Join_spec h) (fun a => by first | rfl | simp only [st_JoinE, evk, chks]) fun y77 hy77 => ?_
    try simp only [st_JoinE, evs, tys]
    exact Imp.some (by first | rfl | simp only [bo_ValueE, evs, tys, evl])
   ·exact Imp.none
  ·refine Imp.cnd ?_ ?_
   ·refine Imp.bnd (Imp.loop (bo_Value_l2_ok) ⟨[], by first | rfl | simp only [evs, tys, evl], rfl⟩) ?_
    rintro l_94 vy95 hy95
    obtain ⟨jb85, rfl⟩ := hy95
    refine Imp.exHit rfl (Imp.chk rfl (Imp.chk rfl ?_))
    try simp only [evs, tys]
    refine Imp.bnd (Imp.loop (bo_Value_l3_ok) ⟨jb85, by first | rfl | simp only [evs, tys, evl], rfl⟩) ?_
    rintro l_112 vy113 hy113
    obtain ⟨jb85, rfl⟩ := hy113
    refine Imp.exHit rfl (Imp.chk rfl (Imp.chk rfl ?_))
    try simp only [evs, tys]
    refine Imp.call (f := st_JoinE) rfl (fun a h => by first | exact st_Join_spec h | simpa only [evs, tys, evl] using st_Join_spec h) (fun a => by first | rfl | simp only [st_JoinE, evk, chks]) fun y115 hy115 => ?_
    try simp only [st_JoinE, evs, tys]
    exact Imp.some (by first | rfl | simp only [bo_ValueE, evs, tys, evl])
   ·exact Imp.none
 ·exact Imp.none
theorem bo_Value_run {raw : Str} {r : Str} (h : bo_Value_B raw = some r) : bo_Value raw = some r := by
 obtain ⟨v, hv, rfl⟩ := bo_Value_imp raw r h
 exact tO_of (pair_inj bo_ValueEj) (OL_runD bo_Value_ds rfl rfl Tryd.func19 ((bo_Value_t1 _ _ raw).trans hv))
def uf_AppendRune_T1 (O : Orc) (LP : LBody → LBody) (p0 : List Int) (r0 : Int) : Option (PV × UP) :=
 cnd (decide ((IntKind.wrap .u32 r0) ≤ 127))
 (bnd (apd 1 (.slice (List.map (PV.int .u8) p0) [] true) (.slice [(.int .u8 (IntKind.wrap .u8 r0))] [] true)) fun x1 => cnd (chk (.sl true) x1)
 (some ((.slice (esV x1) [] true), [])) none)
 (callp O 68 [(.slice (List.map (PV.int .u8) p0) [] true), (.int .i32 r0)] fun x3 => cnd (chk (.sl true) x3)
 (some ((.slice (esV x3) [] true), [])) none)
noncomputable def uf_AppendRune_B (p0 : List Int) (r0 : Int) : Option (List Int) :=
 cnd (decide ((IntKind.wrap .u32 r0) ≤ 127))
 (bnd (tapp p0 [(IntKind.wrap .u8 r0)]) fun y2 =>
 some y2)
 (bnd (uf_appendRuneNonASCII p0 r0) fun y4 =>
 some y4)
def uf_AppendRune_ds : Decs := { decs := [(12, (.sl true)), (15, (.sl true))], ups := [], loops := [] }
set_option maxRecDepth 100000 in
theorem uf_AppendRune_t1 (O : Orc) (LP : LBody → LBody) (p0 : List Int) (r0 : Int) : evalBodyD Tryd.prog (MT 34) uf_AppendRune_ds Tryd.f34.ntmps O LP Tryd.f34 [(.slice (List.map (PV.int .u8) p0) [] true), (.int .i32 r0)] [] = uf_AppendRune_T1 O LP p0 r0 := by kernel_rfl
theorem uf_AppendRune_imp (p0 : List Int) (r0 : Int) : Imp (uf_AppendRune_B p0 r0) (uf_AppendRune_T1 O loopLim p0 r0) (fun r v => v = (uf_AppendRuneE r, [])) := by
 simp only [uf_AppendRune_B, uf_AppendRune_T1]
 try simp only [evs, tys]
 refine Imp.cnd ?_ ?_
 ·refine Imp.op (f := fun a => .slice (List.map (PV.int .u8) a) [] true) (fun a h => op_apd (enc := (PV.int .u8)) (by first | rfl | simp only [evs, tys, evl]) (by first | rfl | simp only [evs, tys, evl]) (fun a => by first | rfl | simp only [evs, tys, evc]) h) (fun a => rfl) fun y2 hy2 => ?_
  try simp only [evs, tys]
  exact Imp.some (by first | rfl | simp only [uf_AppendRuneE, evs, tys, evl])
 ·refine Imp.call (f := uf_appendRuneNonASCIIE) rfl (fun a h => by first | exact uf_appendRuneNonASCII_spec h | simpa only [evs, tys, evl] using uf_appendRuneNonASCII_spec h) (fun a => by first | rfl | simp only [uf_appendRuneNonASCIIE, evk, chks]) fun y4 hy4 => ?_
  try simp only [uf_appendRuneNonASCIIE, evs, tys]
  exact Imp.some (by first | rfl | simp only [uf_AppendRuneE, evs, tys, evl])
theorem uf_AppendRune_run {p0 : List Int} {r0 : Int} {r : List Int} (h : uf_AppendRune_B p0 r0 = some r) : uf_AppendRune p0 r0 = some r := by
 obtain ⟨v, hv, rfl⟩ := uf_AppendRune_imp p0 r0 r h
 exact tO_of (pair_inj uf_AppendRuneEj) (OL_runD uf_AppendRune_ds rfl rfl Tryd.func34 ((uf_AppendRune_t1 _ _ p0 r0).trans hv))
def bo_Lines_l1 (O : Orc) (LP : LBody → LBody) : LBody := fun s1 s1u => cnd (chkL [.str, (.sl true), (.int .i64), (.int .i64)] s1) (cnd (chkU [] s1u)
 (cnd (decide ((intV (gt s1 3)) < (List.length (strV (gt s1 0)) : Int)))
 (bnd (ixStr (.str (strV (gt s1 0))) (.int .i64 (intV (gt s1 3)))) fun x25 => cnd (chk (.int .u8) x25)
 (cnd ((intV x25) != 10)
 (bnd (ixStr (.str (strV (gt s1 0))) (.int .i64 (intV (gt s1 3)))) fun x27 => cnd (chk (.int .u8) x27)
 (cnd ((intV x27) != 13)
 (some (.nrm, [(.str (strV (gt s1 0))), (.slice (esV (gt s1 1)) [] true), (.int .i64 (intV (gt s1 2))), (.int .i64 (IntKind.wrap .i64 ((intV (gt s1 3)) + 1)))], []))
 (bnd (slcLH 0 (.str (strV (gt s1 0))) (.int .i64 (intV (gt s1 2))) (.int .i64 (intV (gt s1 3)))) fun x29 => cnd (chk .str x29)
 (bnd (apd 1 (.slice (esV (gt s1 1)) [] true) (.slice [(.str (strV x29))] [] true)) fun x31 => cnd (chk (.sl true) x31)
 (bnd (ixStr (.str (strV (gt s1 0))) (.int .i64 (intV (gt s1 3)))) fun x33 => cnd (chk (.int .u8) x33)
 (cnd ((intV x33) == 13)
 (cnd (decide ((IntKind.wrap .i64 ((intV (gt s1 3)) + 1)) < (List.length (strV (gt s1 0)) : Int)))
 (bnd (ixStr (.str (strV (gt s1 0))) (.int .i64 (IntKind.wrap .i64 ((intV (gt s1 3)) + 1)))) fun x35 => cnd (chk (.int .u8) x35)
 (cnd ((intV x35) == 10)
 (some (.nrm, [(.str (strV (gt s1 0))), (.slice (esV x31) [] true), (.int .i64 (IntKind.wrap .i64 ((IntKind.wrap .i64 ((intV (gt s1 3)) + 1)) + 1))), (.int .i64 (IntKind.wrap .i64 ((IntKind.wrap .i64 ((intV (gt s1 3)) + 1)) + 1)))], []))
 (some (.nrm, [(.str (strV (gt s1 0))), (.slice (esV x31) [] true), (.int .i64 (IntKind.wrap .i64 ((intV (gt s1 3)) + 1))), (.int .i64 (IntKind.wrap .i64 ((intV (gt s1 3)) + 1)))], []))) none)
 (some (.nrm, [(.str (strV (gt s1 0))), (.slice (esV x31) [] true), (.int .i64 (IntKind.wrap .i64 ((intV (gt s1 3)) + 1))), (.int .i64 (IntKind.wrap .i64 ((intV (gt s1 3)) + 1)))], [])))
 (some (.nrm, [(.str (strV (gt s1 0))), (.slice (esV x31) [] true), (.int .i64 (IntKind.wrap .i64 ((intV (gt s1 3)) + 1))), (.int .i64 (IntKind.wrap .i64 ((intV (gt s1 3)) + 1)))], []))) none) none) none)) none)
 (bnd (slcLH 0 (.str (strV (gt s1 0))) (.int .i64 (intV (gt s1 2))) (.int .i64 (intV (gt s1 3)))) fun x37 => cnd (chk .str x37)
 (bnd (apd 1 (.slice (esV (gt s1 1)) [] true) (.slice [(.str (strV x37))] [] true)) fun x39 => cnd (chk (.sl true) x39)
 (bnd (ixStr (.str (strV (gt s1 0))) (.int .i64 (intV (gt s1 3)))) fun x41 => cnd (chk (.int .u8) x41)
 (cnd ((intV x41) == 13)
 (cnd (decide ((IntKind.wrap .i64 ((intV (gt s1 3)) + 1)) < (List.length (strV (gt s1 0)) : Int)))
 (bnd (ixStr (.str (strV (gt s1 0))) (.int .i64 (IntKind.wrap .i64 ((intV (gt s1 3)) + 1)))) fun x43 => cnd (chk (.int .u8) x43)
 (cnd ((intV x43) == 10)
 (some (.nrm, [(.str (strV (gt s1 0))), (.slice (esV x39) [] true), (.int .i64 (IntKind.wrap .i64 ((IntKind.wrap .i64 ((intV (gt s1 3)) + 1)) + 1))), (.int .i64 (IntKind.wrap .i64 ((IntKind.wrap .i64 ((intV (gt s1 3)) + 1)) + 1)))], []))
 (some (.nrm, [(.str (strV (gt s1 0))), (.slice (esV x39) [] true), (.int .i64 (IntKind.wrap .i64 ((intV (gt s1 3)) + 1))), (.int .i64 (IntKind.wrap .i64 ((intV (gt s1 3)) + 1)))], []))) none)
 (some (.nrm, [(.str (strV (gt s1 0))), (.slice (esV x39) [] true), (.int .i64 (IntKind.wrap .i64 ((intV (gt s1 3)) + 1))), (.int .i64 (IntKind.wrap .i64 ((intV (gt s1 3)) + 1)))], [])))
 (some (.nrm, [(.str (strV (gt s1 0))), (.slice (esV x39) [] true), (.int .i64 (IntKind.wrap .i64 ((intV (gt s1 3)) + 1))), (.int .i64 (IntKind.wrap .i64 ((intV (gt s1 3)) + 1)))], []))) none) none) none)) none)
 (some (.brk 0, [(.str (strV (gt s1 0))), (.slice (esV (gt s1 1)) [] true), (.int .i64 (intV (gt s1 2))), (.int .i64 (intV (gt s1 3)))], []))) none) none
def bo_Lines_T1 (O : Orc) (LP : LBody → LBody) (s : Str) : Option (PV × UP) :=
 bnd (LP (bo_Lines_l1 O LP) [(.str s), (.slice [] [] true), (.int .i64 0), (.int .i64 0)] []) fun y48 =>
 exIs y48.1 (some 0) (cnd (chkL [.str, (.sl true), (.int .i64), (.int .i64)] y48.2.1) (cnd (chkU [] y48.2.2)
 (bnd (slcLo 0 (.str (strV (gt y48.2.1 0))) (.int .i64 (intV (gt y48.2.1 2)))) fun x49 => cnd (chk .str x49)
 (bnd (apd 1 (.slice (esV (gt y48.2.1 1)) [] true) (.slice [(.str (strV x49))] [] true)) fun x51 => cnd (chk (.sl true) x51)
 (some ((.slice (esV x51) [] true), [])) none) none) none) none)
 (none)
noncomputable def bo_Lines_l1T (s : Str) : (Int × (List Str) × Int) → Option ((Int × (List Str) × Int) ⊕ (((List Str) × Int)))
 | (i_22, l_23, from_24) =>
 cnd (decide (i_22 < (List.length s : Int)))
  (bnd (nthI s i_22) fun y26 =>
  cnd ((y26.toNat : Int) != 10)
  (bnd (nthI s i_22) fun y28 =>
  cnd ((y28.toNat : Int) != 13)
   (some (.inl ((IntKind.wrap .i64 (i_22 + 1)), l_23, from_24)))
   (bnd (tslc s from_24 i_22) fun y30 =>
   bnd (tapp l_23 [y30]) fun y32 =>
   bnd (nthI s i_22) fun y34 =>
   cnd ((y34.toNat : Int) == 13)
   (cnd (decide ((IntKind.wrap .i64 (i_22 + 1)) < (List.length s : Int)))
    (bnd (nthI s (IntKind.wrap .i64 (i_22 + 1))) fun y36 =>
    cnd ((y36.toNat : Int) == 10)
    (some (.inl ((IntKind.wrap .i64 ((IntKind.wrap .i64 (i_22 + 1)) + 1)), y32, (IntKind.wrap .i64 ((IntKind.wrap .i64 (i_22 + 1)) + 1)))))
    (some (.inl ((IntKind.wrap .i64 (i_22 + 1)), y32, (IntKind.wrap .i64 (i_22 + 1))))))
    (some (.inl ((IntKind.wrap .i64 (i_22 + 1)), y32, (IntKind.wrap .i64 (i_22 + 1))))))
   (some (.inl ((IntKind.wrap .i64 (i_22 + 1)), y32, (IntKind.wrap .i64 (i_22 + 1)))))))
  (bnd (tslc s from_24 i_22) fun y38 =>
  bnd (tapp l_23 [y38]) fun y40 =>
  bnd (nthI s i_22) fun y42 =>
  cnd ((y42.toNat : Int) == 13)
   (cnd (decide ((IntKind.wrap .i64 (i_22 + 1)) < (List.length s : Int)))
   (bnd (nthI s (IntKind.wrap .i64 (i_22 + 1))) fun y44 =>
   cnd ((y44.toNat : Int) == 10)
    (some (.inl ((IntKind.wrap .i64 ((IntKind.wrap .i64 (i_22 + 1)) + 1)), y40, (IntKind.wrap .i64 ((IntKind.wrap .i64 (i_22 + 1)) + 1)))))
    (some (.inl ((IntKind.wrap .i64 (i_22 + 1)), y40, (IntKind.wrap .i64 (i_22 + 1))))))
   (some (.inl ((IntKind.wrap .i64 (i_22 + 1)), y40, (IntKind.wrap .i64 (i_22 + 1))))))
   (some (.inl ((IntKind.wrap .i64 (i_22 + 1)), y40, (IntKind.wrap .i64 (i_22 + 1)))))))
  (some (.inr (l_23, from_24)))
abbrev bo_Lines_l1R (s : Str) (st : Int × (List Str) × Int) (l : List PV) (u : UP) : Prop := l = [(.str s), (.slice (List.map PV.str st.2.1) [] true), (.int .i64 st.2.2), (.int .i64 st.1)] ∧ u = []
abbrev bo_Lines_l1X (s : Str) (p : ((List Str) × Int)) (r : Ex × List PV × UP) : Prop := (fun (p : (List Str) × Int) => ∃ (i_47 : Int), r = (Ex.brk 0, [(.str s), (.slice (List.map PV.str p.1) [] true), (.int .i64 p.2), (.int .i64 i_47)], [])) p
noncomputable def bo_Lines_B (s : Str) : Option (List Str) :=
 bnd (tloop (bo_Lines_l1T s) (0, [], 0)) fun p48 =>
 bnd (tslc s p48.2 (List.length s)) fun y50 =>
 bnd (tapp p48.1 [y50]) fun y52 =>
 some y52
def bo_Lines_ds : Decs := { decs := [(14, (.int .u8)), (19, (.int .u8)), (26, .str), (28, (.sl true)), (31, (.int .u8)), (44, (.int .u8)), (54, .str), (56, (.sl true))], ups := [], loops := [(4, [], ⟨[.str, (.sl true), (.int .i64), (.int .i64)], [], [(some 0, [.str, (.sl true), (.int .i64), (.int .i64)], [])]⟩)] }
set_option maxRecDepth 100000 in
theorem bo_Lines_t1 (O : Orc) (LP : LBody → LBody) (s : Str) : evalBodyD Tryd.prog (MT 37) bo_Lines_ds Tryd.f37.ntmps O LP Tryd.f37 [(.str s)] [] = bo_Lines_T1 O LP s := by kernel_rfl
theorem bo_Lines_l1_ok (s : Str) : ∀ st l u, bo_Lines_l1R s st l u → Imp (bo_Lines_l1T s st) (bo_Lines_l1 O loopLim l u) (StepR (bo_Lines_l1R s) (bo_Lines_l1X s)) := by
 rintro ⟨i_22, l_23, from_24⟩ l u ⟨rfl, rfl⟩
 simp only [bo_Lines_l1T, bo_Lines_l1]
 refine Imp.chk rfl (Imp.chk rfl ?_)
 try simp only [evs, tys]
 refine Imp.cnd ?_ ?_
 ·refine Imp.op (f := fun a => .int .u8 (a.toNat : Int)) (fun a h => op_ixStr h) (fun a => rfl) fun y26 hy26 => ?_
  try simp only [evs, tys]
  refine Imp.cnd ?_ ?_
  ·refine Imp.op (f := fun a => .int .u8 (a.toNat : Int)) (fun a h => op_ixStr h) (fun a => rfl) fun y28 hy28 => ?_
   try simp only [evs, tys]
   refine Imp.cnd ?_ ?_
   ·exact Imp.some (StepR.next ⟨by first | rfl | simp only [evs, tys, evl], rfl⟩)
   ·refine Imp.op (f := fun a => .str a) (fun a h => op_sslcLH h) (fun a => rfl) fun y30 hy30 => ?_
    try simp only [evs, tys]
    refine Imp.op (f := fun a => .slice (List.map PV.str a) [] true) (fun a h => op_apd (enc := PV.str) (by first | rfl | simp only [evs, tys, evl]) (by first | rfl | simp only [evs, tys, evl]) (fun a => by first | rfl | simp only [evs, tys, evc]) h) (fun a => rfl) fun y32 hy32 => ?_
    try simp only [evs, tys]
    refine Imp.op (f := fun a => .int .u8 (a.toNat : Int)) (fun a h => op_ixStr h) (fun a => rfl) fun y34 hy34 => ?_
    try simp only [evs, tys]
    refine Imp.cnd ?_ ?_
    ·refine Imp.cnd ?_ ?_
     ·refine Imp.op (f := fun a => .int .u8 (a.toNat : Int)) (fun a h => op_ixStr h) (fun a => rfl) fun y36 hy36 => ?_
      try simp only [evs, tys]
      refine Imp.cnd ?_ ?_
      ·exact Imp.some (StepR.next ⟨by first | rfl | simp only [evs, tys, evl], rfl⟩)
      ·exact Imp.some (StepR.next ⟨by first | rfl | simp only [evs, tys, evl], rfl⟩)
     ·exact Imp.some (StepR.next ⟨by first | rfl | simp only [evs, tys, evl], rfl⟩)
    ·exact Imp.some (StepR.next ⟨by first | rfl | simp only [evs, tys, evl], rfl⟩)
  ·refine Imp.op (f := fun a => .str a) (fun a h => op_sslcLH h) (fun a => rfl) fun y38 hy38 => ?_
   try simp only [evs, tys]
   refine Imp.op (f := fun a => .slice (List.map PV.str a) [] true) (fun a h => op_apd (enc := PV.str) (by first | rfl | simp only [evs, tys, evl]) (by first | rfl | simp only [evs, tys, evl]) (fun a => by first | rfl | simp only [evs, tys, evc]) h) (fun a => rfl) fun y40 hy40 => ?_
   try simp only [evs, tys]
   refine Imp.op (f := fun a => .int .u8 (a.toNat : Int)) (fun a h => op_ixStr h) (fun a => rfl) fun y42 hy42 => ?_
   try simp only [evs, tys]
   refine Imp.cnd ?_ ?_
   ·refine Imp.cnd ?_ ?_
    ·refine Imp.op (f := fun a => .int .u8 (a.toNat : Int)) (fun a h => op_ixStr h) (fun a => rfl) fun y44 hy44 => ?_
     try simp only [evs, tys]
     refine Imp.cnd ?_ ?_
     ·exact Imp.some (StepR.next ⟨by first | rfl | simp only [evs, tys, evl], rfl⟩)
     ·exact Imp.some (StepR.next ⟨by first | rfl | simp only [evs, tys, evl], rfl⟩)
    ·exact Imp.some (StepR.next ⟨by first | rfl | simp only [evs, tys, evl], rfl⟩)
   ·exact Imp.some (StepR.next ⟨by first | rfl | simp only [evs, tys, evl], rfl⟩)
 ·exact Imp.some (StepR.brk ⟨i_22, by first | rfl | simp only [evs, tys, evl, elim_inl, elim_inr]⟩)
theorem bo_Lines_imp (s : Str) : Imp (bo_Lines_B s) (bo_Lines_T1 O loopLim s) (fun r v => v = (bo_LinesE r, [])) := by
 simp only [bo_Lines_B, bo_Lines_T1]
 try simp only [evs, tys]
 refine Imp.bnd (Imp.loop (bo_Lines_l1_ok s) ⟨by first | rfl | simp only [evs, tys, evl], rfl⟩) ?_
 rintro ⟨l_45, from_46⟩ vy48 hy48
 obtain ⟨i_47, rfl⟩ := hy48
 refine Imp.exHit rfl (Imp.chk rfl (Imp.chk rfl ?_))
 try simp only [evs, tys]
 refine Imp.op (f := fun a => .str a) (fun a h => op_sslcLo h) (fun a => rfl) fun y50 hy50 => ?_
 try simp only [evs, tys]
 refine Imp.op (f := fun a => .slice (List.map PV.str a) [] true) (fun a h => op_apd (enc := PV.str) (by first | rfl | simp only [evs, tys, evl]) (by first | rfl | simp only [evs, tys, evl]) (fun a => by first | rfl | simp only [evs, tys, evc]) h) (fun a => rfl) fun y52 hy52 => ?_
 try simp only [evs, tys]
 exact Imp.some (by first | rfl | simp only [bo_LinesE, evs, tys, evl])
theorem bo_Lines_run {s : Str} {r : List Str} (h : bo_Lines_B s = some r) : bo_Lines s = some r := by
 obtain ⟨v, hv, rfl⟩ := bo_Lines_imp s r h
 exact tO_of (pair_inj bo_LinesEj) (OL_runD bo_Lines_ds rfl rfl Tryd.func37 ((bo_Lines_t1 _ _ s).trans hv))
open Go Go.Ev Go.Ev.PV
def bo_Indent_l1 (O : Orc) (LP : LBody → LBody) : LBody := fun s1 s1u => cnd (chkL [(.int .i64), (.sl false), (.int .i64), (.int .i64)] s1) (cnd (chkU [] s1u)
 (cnd (decide ((intV (gt s1 3)) < (intV (gt s1 2))))
 (bnd (ix 1 (.slice (esV (gt s1 1)) [] false) (.int .i64 (intV (gt s1 3)))) fun x8 => cnd (chk (.ref .str) x8)
 (callp O 70 [(.str (strV (refV x8)))] fun x10 => cnd (chk (.tup [(.int .i64), .bool]) x10)
 (cnd ((intV (gt s1 3)) == 0)
 (some (.nrm, [(.int .i64 (intV (gt s1 0))), (.slice (esV (gt s1 1)) [] false), (.int .i64 (intV (gt s1 2))), (.int .i64 (IntKind.wrap .i64 ((intV (gt s1 3)) + 1)))], []))
 (cnd (!(boolV (gt (tupV x10) 1)))
 (some (.nrm, [(.int .i64 (intV (gt s1 0))), (.slice (esV (gt s1 1)) [] false), (.int .i64 (intV (gt s1 2))), (.int .i64 (IntKind.wrap .i64 ((intV (gt s1 3)) + 1)))], []))
 (cnd (decide ((intV (gt s1 0)) < 0))
 (some (.nrm, [(.int .i64 (intV (gt (tupV x10) 0))), (.slice (esV (gt s1 1)) [] false), (.int .i64 (intV (gt s1 2))), (.int .i64 (IntKind.wrap .i64 ((intV (gt s1 3)) + 1)))], []))
 (cnd (decide ((intV (gt (tupV x10) 0)) < (intV (gt s1 0))))
 (some (.nrm, [(.int .i64 (intV (gt (tupV x10) 0))), (.slice (esV (gt s1 1)) [] false), (.int .i64 (intV (gt s1 2))), (.int .i64 (IntKind.wrap .i64 ((intV (gt s1 3)) + 1)))], []))
 (some (.nrm, [(.int .i64 (intV (gt s1 0))), (.slice (esV (gt s1 1)) [] false), (.int .i64 (intV (gt s1 2))), (.int .i64 (IntKind.wrap .i64 ((intV (gt s1 3)) + 1)))], [])))))) none) none)
 (some (.brk 0, [(.int .i64 (intV (gt s1 0))), (.slice (esV (gt s1 1)) [] false), (.int .i64 (intV (gt s1 2))), (.int .i64 (intV (gt s1 3)))], []))) none) none
def bo_Indent_T1 (O : Orc) (LP : LBody → LBody) (l0 : List Str) : Option (PV × UP) :=
 bnd (LP (bo_Indent_l1 O LP) [(.int .i64 (-1)), (.slice (List.map PV.str l0) [] false), (.int .i64 (List.length (List.map PV.str l0) : Int)), (.int .i64 0)] []) fun y14 =>
 exIs y14.1 (some 0) (cnd (chkL [(.int .i64), (.sl false), (.int .i64), (.int .i64)] y14.2.1) (cnd (chkU [] y14.2.2)
 (some ((.int .i64 (intV (gt y14.2.1 0))), [])) none) none)
 (none)
noncomputable def bo_Indent_l1T (l0 : List Str) : (Int × Int) → Option ((Int × Int) ⊕ Int)
 | (t_6, least_7) =>
 cnd (decide (t_6 < (List.length l0 : Int)))
  (bnd (nthI l0 t_6) fun y9 =>
  bnd (bo_blanks y9) fun y11 =>
  cnd (t_6 == 0)
  (some (.inl ((IntKind.wrap .i64 (t_6 + 1)), least_7)))
  (cnd (!y11.2)
   (some (.inl ((IntKind.wrap .i64 (t_6 + 1)), least_7)))
   (cnd (decide (least_7 < 0))
   (some (.inl ((IntKind.wrap .i64 (t_6 + 1)), y11.1)))
   (cnd (decide (y11.1 < least_7))
    (some (.inl ((IntKind.wrap .i64 (t_6 + 1)), y11.1)))
    (some (.inl ((IntKind.wrap .i64 (t_6 + 1)), least_7)))))))
  (some (.inr least_7))
abbrev bo_Indent_l1R (l0 : List Str) (st : Int × Int) (l : List PV) (u : UP) : Prop := l = [(.int .i64 st.2), (.slice (List.map PV.str l0) [] false), (.int .i64 (List.length l0 : Int)), (.int .i64 st.1)] ∧ u = []
abbrev bo_Indent_l1X (l0 : List Str) (p : Int) (r : Ex × List PV × UP) : Prop := (fun (p : Int) => ∃ (t_13 : Int), r = (Ex.brk 0, [(.int .i64 p), (.slice (List.map PV.str l0) [] false), (.int .i64 (List.length l0 : Int)), (.int .i64 t_13)], [])) p
noncomputable def bo_Indent_B (l0 : List Str) : Option Int :=
 bnd (tloop (bo_Indent_l1T l0) (0, (-1))) fun least_12 =>
 some least_12
def bo_Indent_ds : Decs := { decs := [(13, (.ref .str)), (17, (.tup [(.int .i64), .bool]))], ups := [], loops := [(3, [], ⟨[(.int .i64), (.sl false), (.int .i64), (.int .i64)], [], [(some 0, [(.int .i64), (.sl false), (.int .i64), (.int .i64)], [])]⟩)] }
set_option maxRecDepth 100000 in
theorem bo_Indent_t1 (O : Orc) (LP : LBody → LBody) (l0 : List Str) : evalBodyD Tryd.prog (MT 38) bo_Indent_ds Tryd.f38.ntmps O LP Tryd.f38 [(.slice (List.map PV.str l0) [] false)] [] = bo_Indent_T1 O LP l0 := by kernel_rfl
theorem bo_Indent_l1_ok (l0 : List Str) : ∀ st l u, bo_Indent_l1R l0 st l u → Imp (bo_Indent_l1T l0 st) (bo_Indent_l1 O loopLim l u) (StepR (bo_Indent_l1R l0) (bo_Indent_l1X l0)) := by
 rintro ⟨t_6, least_7⟩ l u ⟨rfl, rfl⟩
 simp only [bo_Indent_l1T, bo_Indent_l1]
 refine Imp.chk rfl (Imp.chk rfl ?_)
 try simp only [evs, tys]
 refine Imp.cnd ?_ ?_
 ·refine Imp.op (f := fun a => .ref (PV.str a)) (fun a h => op_ix (enc := PV.str) (by first | rfl | simp only [evs, tys, evl]) ⟨by first | rfl | simp only [evs, tys, evc], by decide⟩ h) (fun a => rfl) fun y9 hy9 => ?_
  try simp only [evs, tys]
  refine Imp.call (f := bo_blanksE) rfl (fun a h => by first | exact bo_blanks_spec h | simpa only [evs, tys, evl] using bo_blanks_spec h) (fun a => by first | rfl | simp only [bo_blanksE, evk, chks]) fun y11 hy11 => ?_
  try simp only [bo_blanksE, evs, tys]
  refine Imp.cnd ?_ ?_
  ·exact Imp.some (StepR.next ⟨by first | rfl | simp only [evs, tys, evl], rfl⟩)
  ·refine Imp.cnd ?_ ?_
   ·exact Imp.some (StepR.next ⟨by first | rfl | simp only [evs, tys, evl], rfl⟩)
   ·refine Imp.cnd ?_ ?_
    ·exact Imp.some (StepR.next ⟨by first | rfl | simp only [evs, tys, evl], rfl⟩)
    ·refine Imp.cnd ?_ ?_
     ·exact Imp.some (StepR.next ⟨by first | rfl | simp only [evs, tys, evl], rfl⟩)
     ·exact Imp.some (StepR.next ⟨by first | rfl | simp only [evs, tys, evl], rfl⟩)
 ·exact Imp.some (StepR.brk ⟨t_6, by first | rfl | simp only [evs, tys, evl, elim_inl, elim_inr]⟩)
theorem bo_Indent_imp (l0 : List Str) : Imp (bo_Indent_B l0) (bo_Indent_T1 O loopLim l0) (fun r v => v = (bo_IndentE r, [])) := by
 simp only [bo_Indent_B, bo_Indent_T1]
 try simp only [evs, tys]
 refine Imp.bnd (Imp.loop (bo_Indent_l1_ok l0) ⟨by first | rfl | simp only [evs, tys, evl], rfl⟩) ?_
 rintro least_12 vy14 hy14
 obtain ⟨t_13, rfl⟩ := hy14
 refine Imp.exHit rfl (Imp.chk rfl (Imp.chk rfl ?_))
 try simp only [evs, tys]
 exact Imp.some (by first | rfl | simp only [bo_IndentE, evs, tys, evl])
theorem bo_Indent_run {l0 : List Str} {r : Int} (h : bo_Indent_B l0 = some r) : bo_Indent l0 = some r := by
 obtain ⟨v, hv, rfl⟩ := bo_Indent_imp l0 r h
 exact tO_of (pair_inj bo_IndentEj) (OL_runD bo_Indent_ds rfl rfl Tryd.func38 ((bo_Indent_t1 _ _ l0).trans hv))
def bo_bare_T1 (O : Orc) (LP : LBody → LBody) (s : Str) : Option (PV × UP) :=
 callp O 70 [(.str s)] fun x1 => cnd (chk (.tup [(.int .i64), .bool]) x1)
 (some ((.bool (!(boolV (gt (tupV x1) 1)))), [])) none
noncomputable def bo_bare_B (s : Str) : Option Bool :=
 bnd (bo_blanks s) fun y2 =>
 some (!y2.2)
def bo_bare_ds : Decs := { decs := [(7, (.tup [(.int .i64), .bool]))], ups := [], loops := [] }
set_option maxRecDepth 100000 in
theorem bo_bare_t1 (O : Orc) (LP : LBody → LBody) (s : Str) : evalBodyD Tryd.prog (MT 39) bo_bare_ds Tryd.f39.ntmps O LP Tryd.f39 [(.str s)] [] = bo_bare_T1 O LP s := by kernel_rfl
theorem bo_bare_imp (s : Str) : Imp (bo_bare_B s) (bo_bare_T1 O loopLim s) (fun r v => v = (bo_bareE r, [])) := by
 simp only [bo_bare_B, bo_bare_T1]
 try simp only [evs, tys]
 refine Imp.call (f := bo_blanksE) rfl (fun a h => by first | exact bo_blanks_spec h | simpa only [evs, tys, evl] using bo_blanks_spec h) (fun a => by first | rfl | simp only [bo_blanksE, evk, chks]) fun y2 hy2 => ?_
 try simp only [bo_blanksE, evs, tys]
 exact Imp.some (by first | rfl | simp only [bo_bareE, evs, tys, evl])
theorem bo_bare_run {s : Str} {r : Bool} (h : bo_bare_B s = some r) : bo_bare s = some r := by
 obtain ⟨v, hv, rfl⟩ := bo_bare_imp s r h
 exact tO_of (pair_inj bo_bareEj) (OL_runD bo_bare_ds rfl rfl Tryd.func39 ((bo_bare_t1 _ _ s).trans hv))
def uf_appendRuneNonASCII_T1 (O : Orc) (LP : LBody → LBody) (p0 : List Int) (r0 : Int) : Option (PV × UP) :=
 cnd (decide ((IntKind.wrap .u32 r0) ≤ 2047))
 (bnd (apd 1 (.slice (List.map (PV.int .u8) p0) [] true) (.slice [(.int .u8 (bits .or .u8 192 (IntKind.wrap .u8 (Int.fdiv r0 (2 ^ min (Int.toNat 6) 32))))), (.int .u8 (bits .or .u8 128 (bits .and .u8 (IntKind.wrap .u8 r0) 63)))] [] true)) fun x1 => cnd (chk (.sl true) x1)
 (some ((.slice (esV x1) [] true), [])) none)
 (cnd (decide ((IntKind.wrap .u32 r0) < 55296))
 (bnd (apd 1 (.slice (List.map (PV.int .u8) p0) [] true) (.slice [(.int .u8 (bits .or .u8 224 (IntKind.wrap .u8 (Int.fdiv r0 (2 ^ min (Int.toNat 12) 32))))), (.int .u8 (bits .or .u8 128 (bits .and .u8 (IntKind.wrap .u8 (Int.fdiv r0 (2 ^ min (Int.toNat 6) 32))) 63))), (.int .u8 (bits .or .u8 128 (bits .and .u8 (IntKind.wrap .u8 r0) 63)))] [] true)) fun x3 => cnd (chk (.sl true) x3)
 (some ((.slice (esV x3) [] true), [])) none)
 (cnd (decide ((57343 : Int) < (IntKind.wrap .u32 r0)))
 (cnd (decide ((IntKind.wrap .u32 r0) ≤ 65535))
 (bnd (apd 1 (.slice (List.map (PV.int .u8) p0) [] true) (.slice [(.int .u8 (bits .or .u8 224 (IntKind.wrap .u8 (Int.fdiv r0 (2 ^ min (Int.toNat 12) 32))))), (.int .u8 (bits .or .u8 128 (bits .and .u8 (IntKind.wrap .u8 (Int.fdiv r0 (2 ^ min (Int.toNat 6) 32))) 63))), (.int .u8 (bits .or .u8 128 (bits .and .u8 (IntKind.wrap .u8 r0) 63)))] [] true)) fun x5 => cnd (chk (.sl true) x5)
 (some ((.slice (esV x5) [] true), [])) none)
 (cnd (decide ((IntKind.wrap .u32 r0) > 65535))
 (cnd (decide ((IntKind.wrap .u32 r0) ≤ 1114111))
 (bnd (apd 1 (.slice (List.map (PV.int .u8) p0) [] true) (.slice [(.int .u8 (bits .or .u8 240 (IntKind.wrap .u8 (Int.fdiv r0 (2 ^ min (Int.toNat 18) 32))))), (.int .u8 (bits .or .u8 128 (bits .and .u8 (IntKind.wrap .u8 (Int.fdiv r0 (2 ^ min (Int.toNat 12) 32))) 63))), (.int .u8 (bits .or .u8 128 (bits .and .u8 (IntKind.wrap .u8 (Int.fdiv r0 (2 ^ min (Int.toNat 6) 32))) 63))), (.int .u8 (bits .or .u8 128 (bits .and .u8 (IntKind.wrap .u8 r0) 63)))] [] true)) fun x7 => cnd (chk (.sl true) x7)
 (some ((.slice (esV x7) [] true), [])) none)
 (bnd (apd 1 (.slice (List.map (PV.int .u8) p0) [] true) (.slice [(.int .u8 239), (.int .u8 191), (.int .u8 189)] [] true)) fun x9 => cnd (chk (.sl true) x9)
 (some ((.slice (esV x9) [] true), [])) none))
 (bnd (apd 1 (.slice (List.map (PV.int .u8) p0) [] true) (.slice [(.int .u8 239), (.int .u8 191), (.int .u8 189)] [] true)) fun x11 => cnd (chk (.sl true) x11)
 (some ((.slice (esV x11) [] true), [])) none)))
 (cnd (decide ((IntKind.wrap .u32 r0) > 65535))
 (cnd (decide ((IntKind.wrap .u32 r0) ≤ 1114111))
 (bnd (apd 1 (.slice (List.map (PV.int .u8) p0) [] true) (.slice [(.int .u8 (bits .or .u8 240 (IntKind.wrap .u8 (Int.fdiv r0 (2 ^ min (Int.toNat 18) 32))))), (.int .u8 (bits .or .u8 128 (bits .and .u8 (IntKind.wrap .u8 (Int.fdiv r0 (2 ^ min (Int.toNat 12) 32))) 63))), (.int .u8 (bits .or .u8 128 (bits .and .u8 (IntKind.wrap .u8 (Int.fdiv r0 (2 ^ min (Int.toNat 6) 32))) 63))), (.int .u8 (bits .or .u8 128 (bits .and .u8 (IntKind.wrap .u8 r0) 63)))] [] true)) fun x13 => cnd (chk (.sl true) x13)
 (some ((.slice (esV x13) [] true), [])) none)
 (bnd (apd 1 (.slice (List.map (PV.int .u8) p0) [] true) (.slice [(.int .u8 239), (.int .u8 191), (.int .u8 189)] [] true)) fun x15 => cnd (chk (.sl true) x15)
 (some ((.slice (esV x15) [] true), [])) none))
 (bnd (apd 1 (.slice (List.map (PV.int .u8) p0) [] true) (.slice [(.int .u8 239), (.int .u8 191), (.int .u8 189)] [] true)) fun x17 => cnd (chk (.sl true) x17)
 (some ((.slice (esV x17) [] true), [])) none))))
noncomputable def uf_appendRuneNonASCII_B (p0 : List Int) (r0 : Int) : Option (List Int) :=
 cnd (decide ((IntKind.wrap .u32 r0) ≤ 2047))
 (bnd (tapp p0 [(bits .or .u8 192 (IntKind.wrap .u8 (Int.fdiv r0 (2 ^ min (Int.toNat 6) 32)))), (bits .or .u8 128 (bits .and .u8 (IntKind.wrap .u8 r0) 63))]) fun y2 =>
 some y2)
 (cnd (decide ((IntKind.wrap .u32 r0) < 55296))
 (bnd (tapp p0 [(bits .or .u8 224 (IntKind.wrap .u8 (Int.fdiv r0 (2 ^ min (Int.toNat 12) 32)))), (bits .or .u8 128 (bits .and .u8 (IntKind.wrap .u8 (Int.fdiv r0 (2 ^ min (Int.toNat 6) 32))) 63)), (bits .or .u8 128 (bits .and .u8 (IntKind.wrap .u8 r0) 63))]) fun y4 =>
 some y4)
 (cnd (decide ((57343 : Int) < (IntKind.wrap .u32 r0)))
 (cnd (decide ((IntKind.wrap .u32 r0) ≤ 65535))
 (bnd (tapp p0 [(bits .or .u8 224 (IntKind.wrap .u8 (Int.fdiv r0 (2 ^ min (Int.toNat 12) 32)))), (bits .or .u8 128 (bits .and .u8 (IntKind.wrap .u8 (Int.fdiv r0 (2 ^ min (Int.toNat 6) 32))) 63)), (bits .or .u8 128 (bits .and .u8 (IntKind.wrap .u8 r0) 63))]) fun y6 =>
 some y6)
 (cnd (decide ((IntKind.wrap .u32 r0) > 65535))
 (cnd (decide ((IntKind.wrap .u32 r0) ≤ 1114111))
 (bnd (tapp p0 [(bits .or .u8 240 (IntKind.wrap .u8 (Int.fdiv r0 (2 ^ min (Int.toNat 18) 32)))), (bits .or .u8 128 (bits .and .u8 (IntKind.wrap .u8 (Int.fdiv r0 (2 ^ min (Int.toNat 12) 32))) 63)), (bits .or .u8 128 (bits .and .u8 (IntKind.wrap .u8 (Int.fdiv r0 (2 ^ min (Int.toNat 6) 32))) 63)), (bits .or .u8 128 (bits .and .u8 (IntKind.wrap .u8 r0) 63))]) fun y8 =>
 some y8)
 (bnd (tapp p0 [239, 191, 189]) fun y10 =>
 some y10))
 (bnd (tapp p0 [239, 191, 189]) fun y12 =>
 some y12)))
 (cnd (decide ((IntKind.wrap .u32 r0) > 65535))
 (cnd (decide ((IntKind.wrap .u32 r0) ≤ 1114111))
 (bnd (tapp p0 [(bits .or .u8 240 (IntKind.wrap .u8 (Int.fdiv r0 (2 ^ min (Int.toNat 18) 32)))), (bits .or .u8 128 (bits .and .u8 (IntKind.wrap .u8 (Int.fdiv r0 (2 ^ min (Int.toNat 12) 32))) 63)), (bits .or .u8 128 (bits .and .u8 (IntKind.wrap .u8 (Int.fdiv r0 (2 ^ min (Int.toNat 6) 32))) 63)), (bits .or .u8 128 (bits .and .u8 (IntKind.wrap .u8 r0) 63))]) fun y14 =>
 some y14)
 (bnd (tapp p0 [239, 191, 189]) fun y16 =>
 some y16))
 (bnd (tapp p0 [239, 191, 189]) fun y18 =>
 some y18))))
def uf_appendRuneNonASCII_ds : Decs := { decs := [(10, (.sl true)), (24, (.sl true)), (49, (.sl true)), (77, (.sl true))], ups := [], loops := [] }
set_option maxRecDepth 100000 in
theorem uf_appendRuneNonASCII_t1 (O : Orc) (LP : LBody → LBody) (p0 : List Int) (r0 : Int) : evalBodyD Tryd.prog (MT 68) uf_appendRuneNonASCII_ds Tryd.f68.ntmps O LP Tryd.f68 [(.slice (List.map (PV.int .u8) p0) [] true), (.int .i32 r0)] [] = uf_appendRuneNonASCII_T1 O LP p0 r0 := by kernel_rfl
theorem uf_appendRuneNonASCII_imp (p0 : List Int) (r0 : Int) : Imp (uf_appendRuneNonASCII_B p0 r0) (uf_appendRuneNonASCII_T1 O loopLim p0 r0) (fun r v => v = (uf_appendRuneNonASCIIE r, [])) := by
 simp only [uf_appendRuneNonASCII_B, uf_appendRuneNonASCII_T1]
 try simp only [evs, tys]
 refine Imp.cnd ?_ ?_
 ·refine Imp.op (f := fun a => .slice (List.map (PV.int .u8) a) [] true) (fun a h => op_apd (enc := (PV.int .u8)) (by first | rfl | simp only [evs, tys, evl]) (by first | rfl | simp only [evs, tys, evl]) (fun a => by first | rfl | simp only [evs, tys, evc]) h) (fun a => rfl) fun y2 hy2 => ?_
  try simp only [evs, tys]
  exact Imp.some (by first | rfl | simp only [uf_appendRuneNonASCIIE, evs, tys, evl])
 ·refine Imp.cnd ?_ ?_
  ·refine Imp.op (f := fun a => .slice (List.map (PV.int .u8) a) [] true) (fun a h => op_apd (enc := (PV.int .u8)) (by first | rfl | simp only [evs, tys, evl]) (by first | rfl | simp only [evs, tys, evl]) (fun a => by first | rfl | simp only [evs, tys, evc]) h) (fun a => rfl) fun y4 hy4 => ?_
   try simp only [evs, tys]
   exact Imp.some (by first | rfl | simp only [uf_appendRuneNonASCIIE, evs, tys, evl])
  ·refine Imp.cnd ?_ ?_
   ·refine Imp.cnd ?_ ?_
    ·refine Imp.op (f := fun a => .slice (List.map (PV.int .u8) a) [] true) (fun a h => op_apd (enc := (PV.int .u8)) (by first | rfl | simp only [evs, tys, evl]) (by first | rfl | simp only [evs, tys, evl]) (fun a => by first | rfl | simp only [evs, tys, evc]) h) (fun a => rfl) fun y6 hy6 => ?_
     try simp only [evs, tys]
     exact Imp.some (by first | rfl | simp only [uf_appendRuneNonASCIIE, evs, tys, evl])
    ·refine Imp.cnd ?_ ?_
     ·refine Imp.cnd ?_ ?_
      ·refine Imp.op (f := fun a => .slice (List.map (PV.int .u8) a) [] true) (fun a h => op_apd (enc := (PV.int .u8)) (by first | rfl | simp only [evs, tys, evl]) (by first | rfl | simp only [evs, tys, evl]) (fun a => by first | rfl | simp only [evs, tys, evc]) h) (fun a => rfl) fun y8 hy8 => ?_
       try simp only [evs, tys]
       exact Imp.some (by first | rfl | simp only [uf_appendRuneNonASCIIE, evs, tys, evl])
      ·refine Imp.op (f := fun a => .slice (List.map (PV.int .u8) a) [] true) (fun a h => op_apd (enc := (PV.int .u8)) (by first | rfl | simp only [evs, tys, evl]) (by first | rfl | simp only [evs, tys, evl]) (fun a => by first | rfl | simp only [evs, tys, evc]) h) (fun a => rfl) fun y10 hy10 => ?_
       try simp only [evs, tys]
       exact Imp.some (by first | rfl | simp only [uf_appendRuneNonASCIIE, evs, tys, evl])
     ·refine Imp.op (f := fun a => .slice (List.map (PV.int .u8) a) [] true) (fun a h => op_apd (enc := (PV.int .u8)) (by first | rfl | simp only [evs, tys, evl]) (by first | rfl | simp only [evs, tys, evl]) (fun a => by first | rfl | simp only [evs, tys, evc]) h) (fun a => rfl) fun y12 hy12 => ?_
      try simp only [evs, tys]
      exact Imp.some (by first | rfl | simp only [uf_appendRuneNonASCIIE, evs, tys, evl])
   ·refine Imp.cnd ?_ ?_
    ·refine Imp.cnd ?_ ?_
     ·refine Imp.op (f := fun a => .slice (List.map (PV.int .u8) a) [] true) (fun a h => op_apd (enc := (PV.int .u8)) (by first | rfl | simp only [evs, tys, evl]) (by first | rfl | simp only [evs, tys, evl]) (fun a => by first | rfl | simp only [evs, tys, evc]) h) (fun a => rfl) fun y14 hy14 => ?_
      try simp only [evs, tys]
      exact Imp.some (by first | rfl | simp only [uf_appendRuneNonASCIIE, evs, tys, evl])
     ·refine Imp.op (f := fun a => .slice (List.map (PV.int .u8) a) [] true) (fun a h => op_apd (enc := (PV.int .u8)) (by first | rfl | simp only [evs, tys, evl]) (by first | rfl | simp only [evs, tys, evl]) (fun a => by first | rfl | simp only [evs, tys, evc]) h) (fun a => rfl) fun y16 hy16 => ?_
      try simp only [evs, tys]
      exact Imp.some (by first | rfl | simp only [uf_appendRuneNonASCIIE, evs, tys, evl])
    ·refine Imp.op (f := fun a => .slice (List.map (PV.int .u8) a) [] true) (fun a h => op_apd (enc := (PV.int .u8)) (by first | rfl | simp only [evs, tys, evl]) (by first | rfl | simp only [evs, tys, evl]) (fun a => by first | rfl | simp only [evs, tys, evc]) h) (fun a => rfl) fun y18 hy18 => ?_
     try simp only [evs, tys]
     exact Imp.some (by first | rfl | simp only [uf_appendRuneNonASCIIE, evs, tys, evl])
theorem uf_appendRuneNonASCII_run {p0 : List Int} {r0 : Int} {r : List Int} (h : uf_appendRuneNonASCII_B p0 r0 = some r) : uf_appendRuneNonASCII p0 r0 = some r := by
 obtain ⟨v, hv, rfl⟩ := uf_appendRuneNonASCII_imp p0 r0 r h
 exact tO_of (pair_inj uf_appendRuneNonASCIIEj) (OL_runD uf_appendRuneNonASCII_ds rfl rfl Tryd.func68 ((uf_appendRuneNonASCII_t1 _ _ p0 r0).trans hv))
def bo_blanks_l1 (O : Orc) (LP : LBody → LBody) : LBody := fun s1 s1u => cnd (chkL [.str, (.int .i64), .bool, (.int .i64), (.int .i64)] s1) (cnd (chkU [] s1u)
 (cnd (decide ((intV (gt s1 4)) < (intV (gt s1 3))))
 (bnd (ixStr (.str (strV (gt s1 0))) (.int .i64 (intV (gt s1 4)))) fun x7 => cnd (chk (.int .u8) x7)
 (cnd ((intV x7) != 9)
 (bnd (ixStr (.str (strV (gt s1 0))) (.int .i64 (intV (gt s1 4)))) fun x9 => cnd (chk (.int .u8) x9)
 (cnd ((intV x9) != 32)
 (some (.ret, [(.str (strV (gt s1 0))), (.int .i64 (intV (gt s1 4))), (.bool true), (.int .i64 (intV (gt s1 3))), (.int .i64 (intV (gt s1 4)))], []))
 (some (.nrm, [(.str (strV (gt s1 0))), (.int .i64 (intV (gt s1 1))), (.bool (boolV (gt s1 2))), (.int .i64 (intV (gt s1 3))), (.int .i64 (IntKind.wrap .i64 ((intV (gt s1 4)) + 1)))], []))) none)
 (some (.nrm, [(.str (strV (gt s1 0))), (.int .i64 (intV (gt s1 1))), (.bool (boolV (gt s1 2))), (.int .i64 (intV (gt s1 3))), (.int .i64 (IntKind.wrap .i64 ((intV (gt s1 4)) + 1)))], []))) none)
 (some (.brk 0, [(.str (strV (gt s1 0))), (.int .i64 (intV (gt s1 1))), (.bool (boolV (gt s1 2))), (.int .i64 (intV (gt s1 3))), (.int .i64 (intV (gt s1 4)))], []))) none) none
def bo_blanks_T1 (O : Orc) (LP : LBody → LBody) (s : Str) : Option (PV × UP) :=
 bnd (LP (bo_blanks_l1 O LP) [(.str s), (.int .i64 0), (.bool false), (.int .i64 (List.length s : Int)), (.int .i64 0)] []) fun y14 =>
 exIs y14.1 (some 0) (cnd (chkL [.str, (.int .i64), .bool, (.int .i64), (.int .i64)] y14.2.1) (cnd (chkU [] y14.2.2)
 (some ((.tuple [(.int .i64 (List.length (strV (gt y14.2.1 0)) : Int)), (.bool false)]), [])) none) none)
 (exIs y14.1 none (cnd (chkL [.str, (.int .i64), .bool, (.int .i64), (.int .i64)] y14.2.1) (cnd (chkU [] y14.2.2)
 (some ((.tuple [(.int .i64 (intV (gt y14.2.1 1))), (.bool (boolV (gt y14.2.1 2)))]), [])) none) none)
 (none))
noncomputable def bo_blanks_l1T (s : Str) : Int → Option (Int ⊕ (Unit ⊕ Int))
 | t_6 =>
 cnd (decide (t_6 < (List.length s : Int)))
  (bnd (nthI s t_6) fun y8 =>
  cnd ((y8.toNat : Int) != 9)
  (bnd (nthI s t_6) fun y10 =>
  cnd ((y10.toNat : Int) != 32)
   (some (.inr (.inr t_6)))
   (some (.inl (IntKind.wrap .i64 (t_6 + 1)))))
  (some (.inl (IntKind.wrap .i64 (t_6 + 1)))))
  (some (.inr (.inl ())))
abbrev bo_blanks_l1R (s : Str) (st : Int) (l : List PV) (u : UP) : Prop := l = [(.str s), (.int .i64 0), (.bool false), (.int .i64 (List.length s : Int)), (.int .i64 st)] ∧ u = []
abbrev bo_blanks_l1X (s : Str) (p : Unit ⊕ Int) (r : Ex × List PV × UP) : Prop := elim p (fun (p : Unit) => ∃ (t_11 : Int), r = (Ex.brk 0, [(.str s), (.int .i64 0), (.bool false), (.int .i64 (List.length s : Int)), (.int .i64 t_11)], [])) (fun q2 => (fun (p : Int) => ∃ (t_13 : Int), r = (Ex.ret, [(.str s), (.int .i64 p), (.bool true), (.int .i64 (List.length s : Int)), (.int .i64 t_13)], [])) q2)
noncomputable def bo_blanks_B (s : Str) : Option (Int × Bool) :=
 bnd (tloop (bo_blanks_l1T s) 0) fun e14_2 => elim e14_2
 (fun p14 =>
 some ((List.length s : Int), false))
 (fun t_12 =>
 some (t_12, true))
def bo_blanks_ds : Decs := { decs := [(12, (.int .u8)), (17, (.int .u8))], ups := [], loops := [(2, [], ⟨[.str, (.int .i64), .bool, (.int .i64), (.int .i64)], [], [(some 0, [.str, (.int .i64), .bool, (.int .i64), (.int .i64)], []), (none, [.str, (.int .i64), .bool, (.int .i64), (.int .i64)], [])]⟩)] }
set_option maxRecDepth 100000 in
theorem bo_blanks_t1 (O : Orc) (LP : LBody → LBody) (s : Str) : evalBodyD Tryd.prog (MT 70) bo_blanks_ds Tryd.f70.ntmps O LP Tryd.f70 [(.str s)] [] = bo_blanks_T1 O LP s := by kernel_rfl
theorem bo_blanks_l1_ok (s : Str) : ∀ st l u, bo_blanks_l1R s st l u → Imp (bo_blanks_l1T s st) (bo_blanks_l1 O loopLim l u) (StepR (bo_blanks_l1R s) (bo_blanks_l1X s)) := by
 rintro t_6 l u ⟨rfl, rfl⟩
 simp only [bo_blanks_l1T, bo_blanks_l1]
 refine Imp.chk rfl (Imp.chk rfl ?_)
 try simp only [evs, tys]
 refine Imp.cnd ?_ ?_
 ·refine Imp.op (f := fun a => .int .u8 (a.toNat : Int)) (fun a h => op_ixStr h) (fun a => rfl) fun y8 hy8 => ?_
  try simp only [evs, tys]
  refine Imp.cnd ?_ ?_
  ·refine Imp.op (f := fun a => .int .u8 (a.toNat : Int)) (fun a h => op_ixStr h) (fun a => rfl) fun y10 hy10 => ?_
   try simp only [evs, tys]
   refine Imp.cnd ?_ ?_
   ·exact Imp.some (StepR.ret ⟨t_6, by first | rfl | simp only [evs, tys, evl, elim_inl, elim_inr]⟩)
   ·exact Imp.some (StepR.next ⟨by first | rfl | simp only [evs, tys, evl], rfl⟩)
  ·exact Imp.some (StepR.next ⟨by first | rfl | simp only [evs, tys, evl], rfl⟩)
 ·exact Imp.some (StepR.brk ⟨t_6, by first | rfl | simp only [evs, tys, evl, elim_inl, elim_inr]⟩)
theorem bo_blanks_imp (s : Str) : Imp (bo_blanks_B s) (bo_blanks_T1 O loopLim s) (fun r v => v = (bo_blanksE r, [])) := by
 simp only [bo_blanks_B, bo_blanks_T1]
 try simp only [evs, tys]
 refine Imp.bnd (Imp.loop (bo_blanks_l1_ok s) ⟨by first | rfl | simp only [evs, tys, evl], rfl⟩) ?_
 rintro (p | t_12) vy14 hy14
 ·try simp only [elim_inl, elim_inr]
  obtain ⟨t_11, rfl⟩ := hy14
  refine Imp.exHit rfl (Imp.chk rfl (Imp.chk rfl ?_))
  try simp only [evs, tys]
  exact Imp.some (by first | rfl | simp only [bo_blanksE, evs, tys, evl])
 ·try simp only [elim_inl, elim_inr]
  obtain ⟨t_13, rfl⟩ := hy14
  refine Imp.exMiss rfl ?_
  refine Imp.exHit rfl (Imp.chk rfl (Imp.chk rfl ?_))
  try simp only [evs, tys]
  exact Imp.some (by first | rfl | simp only [bo_blanksE, evs, tys, evl])
theorem bo_blanks_run {s : Str} {r : Int × Bool} (h : bo_blanks_B s = some r) : bo_blanks s = some r := by
 obtain ⟨v, hv, rfl⟩ := bo_blanks_imp s r h
 exact tO_of (pair_inj bo_blanksEj) (OL_runD bo_blanks_ds rfl rfl Tryd.func70 ((bo_blanks_t1 _ _ s).trans hv))
open Go.Shelf Go.RowKit
def GM : Mem := fun b i =>
 if b = 0 then (if i < 256 then some (.int .u8 (Go.Lib.firstT i)) else none)
 else if b = 1 then (if i < 32 then some (.int .u8 (if i % 2 = 0 then Go.Lib.accLo (i / 2) else Go.Lib.accHi (i / 2))) else none)
 else none
theorem tabs_of : ∀ (n : Nat) (M : Mem) (B : BM) (args : List PV) (up : UP) (vals : Array Value) (w : World), CallPre ⟨n, GM⟩ M B args up vals w → Go.Lib.Utf8Tabs 0 1 w := by
 intro n M B args up vals w hp
 refine ⟨fun c hc => hp.globW (by show GM 0 c = _; unfold GM; rw [if_pos rfl, if_pos hc]), fun i hi => ⟨hp.globW ?_, hp.globW ?_⟩⟩
 ·show GM 1 (2 * i) = _
  unfold GM; rw [if_neg (by decide), if_pos rfl, if_pos (by omega), if_pos (by omega)]
  rw [show 2 * i / 2 = i by omega]
 ·show GM 1 (2 * i + 1) = _
  unfold GM; rw [if_neg (by decide), if_pos rfl, if_pos (by omega), if_neg (by omega)]
  rw [show (2 * i + 1) / 2 = i by omega]
theorem decS_decodeGo (s : Str) : Go.Lib.decodeGo ⟨s.toArray⟩ = decS s := by
 have hsz : (⟨s.toArray⟩ : ByteArray).size = s.length := by show s.toArray.size = _; simp
 unfold Go.Lib.decodeGo decS
 by_cases h : s = []
 ·subst h; rfl
 ·have hl : s.length ≠ 0 := fun e => h (List.length_eq_zero_iff.1 e)
  rw [if_neg (by rw [hsz]; exact hl), if_neg h]
  have := Go.Lib.decodeL_N s
  unfold Go.Lib.decodeL at this
  exact this
def Tryd.lays156_ren : Go.Shelf.Ren := ⟨fun | 156 => 40 | 165 => 71 | 166 => 72 | 169 => 73 | 240 => 93 | 241 => 94 | 276 => 105 | 277 => 106 | n => n, fun | 31 => 45 | 9 => 9 | 3 => 3 | 4 => 4 | 0 => 0 | 20 => 20 | 72 => 78 | 76 => 82 | 70 => 76 | 37 => 32 | 75 => 81 | 127 => 96 | 164 => 106 | 5 => 5 | 80 => 84 | n => n, fun | n => n⟩
theorem Tryd.lays156 : Go.Proofs.Lays.n156 Tryd.prog Tryd.lays156_ren := {
 mixed := by kernel_rfl
 f156 := Tryd.func40.trans (congrArg some (by kernel_rfl))
 f165 := Tryd.func71.trans (congrArg some (by kernel_rfl))
 f166 := Tryd.func72.trans (congrArg some (by kernel_rfl))
 f169 := Tryd.func73.trans (congrArg some (by kernel_rfl))
 f240 := Tryd.func93.trans (congrArg some (by kernel_rfl))
 f241 := Tryd.func94.trans (congrArg some (by kernel_rfl))
 f276 := Tryd.func105.trans (congrArg some (by kernel_rfl))
 f277 := Tryd.func106.trans (congrArg some (by kernel_rfl))
 t0 := Tryd.underlying0
 a0 := Tryd.isAgg0
 z0 := Tryd.sizeOf0
 v0 := Tryd.zeroValue0
 t3 := Tryd.underlying3
 a3 := Tryd.isAgg3
 z3 := Tryd.sizeOf3
 v3 := Tryd.zeroValue3
 t4 := Tryd.underlying4
 a4 := Tryd.isAgg4
 z4 := Tryd.sizeOf4
 v4 := Tryd.zeroValue4
 t9 := Tryd.underlying9
 a9 := Tryd.isAgg9
 z9 := Tryd.sizeOf9
 v9 := Tryd.zeroValue9
 t20 := Tryd.underlying20
 a20 := Tryd.isAgg20
 z20 := Tryd.sizeOf20
 v20 := Tryd.zeroValue20
 t31 := Tryd.underlying45
 a31 := Tryd.isAgg45
 z31 := Tryd.sizeOf45
 v31 := Tryd.zeroValue45
 t37 := Tryd.underlying32
 a37 := Tryd.isAgg32
 z37 := Tryd.sizeOf32
 v37 := Tryd.zeroValue32
 t70 := Tryd.underlying76
 a70 := Tryd.isAgg76
 z70 := Tryd.sizeOf76
 v70 := Tryd.zeroValue76
 t72 := Tryd.underlying78
 a72 := Tryd.isAgg78
 z72 := Tryd.sizeOf78
 v72 := Tryd.zeroValue78
 t75 := Tryd.underlying81
 a75 := Tryd.isAgg81
 z75 := Tryd.sizeOf81
 v75 := Tryd.zeroValue81
 t76 := Tryd.underlying82
 a76 := Tryd.isAgg82
 z76 := Tryd.sizeOf82
 v76 := Tryd.zeroValue82
 t127 := Tryd.underlying96
 a127 := Tryd.isAgg96
 z127 := Tryd.sizeOf96
 v127 := Tryd.zeroValue96
 t164 := Tryd.underlying106
 a164 := Tryd.isAgg106
 z164 := Tryd.sizeOf106
 v164 := Tryd.zeroValue106 }
theorem Tryd.Builder_Extra_156 : Builder.Extra Tryd.prog Tryd.lays156_ren := {
 sizeBuilder := by kernel_rfl
 liesBuilder := by kernel_rfl
 t5 := Tryd.underlying5
 a5 := Tryd.isAgg5
 z5 := Tryd.sizeOf5
 v5 := Tryd.zeroValue5
 infoByte := by kernel_rfl
 cellsByte := by kernel_rfl
 sizeByte := by kernel_rfl
 neB5 := by decide }
theorem Tryd.strings_Join_none (a : Option Addr) (c : Nat) (sep : ByteArray) (w : World) :
  Calls Tryd.prog 40 #[.slice a 0 c, .string sep] w fun e w' => e = .returned (.string ⟨#[]⟩) ∧ w' = w := Any.strings_Join_none Tryd.lays156 Tryd.Builder_Extra_156 a c sep w
theorem Tryd.strings_Join (bk o c : Nat) (xs : List ByteArray) (sep : ByteArray) (w : World) (hcells : ∀ (j : Nat) x, xs[j]? = some x → w.cell? ⟨bk, o + j, none⟩ = some (.string x)) (hbk : bk < w.heap.size) (hN : xs.length ≤ 140737488355328) (hcap : xs.length ≤ c) (hlen : (Lib.join (xs.map (·.data.toList)) sep.data.toList).length ≤ 140737488355328) :
  Calls Tryd.prog 40 #[.slice (some ⟨bk, o, none⟩) xs.length c, .string sep] w fun e w' => e = .returned (.string ⟨(Lib.join (xs.map (·.data.toList)) sep.data.toList).toArray⟩) ∧ Below w.heap.size w w' := Any.strings_Join Tryd.lays156 Tryd.Builder_Extra_156 bk o c xs sep w hcells hbk hN hcap hlen
theorem xok_join : ∀ args up r up', xJoin args up = some (r, up') → ∀ (n : Nat) w M B vals, CallPre ⟨n, GM⟩ M B args up vals w → Invokes Tryd.prog 40 vals w (CallPost ⟨n, GM⟩ M B args up vals w r up') :=
 xJoin_ok (fun _ _ => enters_of Tryd.func40 (by kernel_rfl) rfl _ _) (fun a c sep w => Tryd.strings_Join_none a c sep w) fun bk o c xs sep w h1 h2 h3 h4 h5 => Tryd.strings_Join bk o c xs sep w h1 h2 h3 h4 h5
def Tryd.lays144_ren : Go.Shelf.Ren := ⟨fun | 144 => 43 | 143 => 78 | 219 => 95 | 217 => 87 | 225 => 99 | 224 => 98 | 267 => 107 | 266 => 101 | 314 => 109 | n => n, fun | 9 => 9 | 4 => 4 | 3 => 3 | 5 => 5 | 46 => 35 | 146 => 110 | 51 => 71 | n => n, fun | 1 => 2 | n => n⟩
theorem Tryd.lays144 : Go.Proofs.Lays.n144 Tryd.prog Tryd.lays144_ren := {
 mixed := by kernel_rfl
 f143 := Tryd.func78.trans (congrArg some (by kernel_rfl))
 f144 := Tryd.func43.trans (congrArg some (by kernel_rfl))
 f217 := Tryd.func87.trans (congrArg some (by kernel_rfl))
 f219 := Tryd.func95.trans (congrArg some (by kernel_rfl))
 f224 := Tryd.func98.trans (congrArg some (by kernel_rfl))
 f225 := Tryd.func99.trans (congrArg some (by kernel_rfl))
 f266 := Tryd.func101.trans (congrArg some (by kernel_rfl))
 f267 := Tryd.func107.trans (congrArg some (by kernel_rfl))
 f314 := Tryd.func109.trans (congrArg some (by kernel_rfl))
 t3 := Tryd.underlying3
 a3 := Tryd.isAgg3
 z3 := Tryd.sizeOf3
 v3 := Tryd.zeroValue3
 t4 := Tryd.underlying4
 a4 := Tryd.isAgg4
 z4 := Tryd.sizeOf4
 v4 := Tryd.zeroValue4
 t5 := Tryd.underlying5
 a5 := Tryd.isAgg5
 z5 := Tryd.sizeOf5
 v5 := Tryd.zeroValue5
 t9 := Tryd.underlying9
 a9 := Tryd.isAgg9
 z9 := Tryd.sizeOf9
 v9 := Tryd.zeroValue9
 t46 := Tryd.underlying35
 a46 := Tryd.isAgg35
 z46 := Tryd.sizeOf35
 v46 := Tryd.zeroValue35
 t51 := Tryd.underlying71
 a51 := Tryd.isAgg71
 z51 := Tryd.sizeOf71
 v51 := Tryd.zeroValue71
 t146 := Tryd.underlying110
 a146 := Tryd.isAgg110
 z146 := Tryd.sizeOf110
 v146 := Tryd.zeroValue110
 g1 := by kernel_rfl }
theorem xok_contains : ∀ args up r up', xContains args up = some (r, up') → ∀ (n : Nat) w M B vals, CallPre ⟨n, GM⟩ M B args up vals w → Invokes Tryd.prog 43 vals w (CallPost ⟨n, GM⟩ M B args up vals w r up') :=
 xContains_ok (fun _ _ => enters_of Tryd.func43 (by kernel_rfl) rfl _ _) fun s c w => Any.strings_Contains_one Tryd.lays144 s c w
def Tryd.lays153_ren : Go.Shelf.Ren := ⟨fun | 153 => 50 | 152 => 81 | 226 => 82 | 227 => 83 | 228 => 84 | 137 => 54 | 119 => 97 | 224 => 98 | 225 => 99 | 217 => 87 | 266 => 101 | n => n, fun | 9 => 9 | 3 => 3 | 4 => 4 | 5 => 5 | 21 => 21 | 117 => 90 | 116 => 89 | 0 => 0 | 46 => 35 | 124 => 104 | n => n, fun | n => n⟩
theorem Tryd.lays153 : Go.Proofs.Lays.n153 Tryd.prog Tryd.lays153_ren := {
 mixed := by kernel_rfl
 f119 := Tryd.func97.trans (congrArg some (by kernel_rfl))
 f137 := Tryd.func54.trans (congrArg some (by kernel_rfl))
 f152 := Tryd.func81.trans (congrArg some (by kernel_rfl))
 f153 := Tryd.func50.trans (congrArg some (by kernel_rfl))
 f217 := Tryd.func87.trans (congrArg some (by kernel_rfl))
 f224 := Tryd.func98.trans (congrArg some (by kernel_rfl))
 f225 := Tryd.func99.trans (congrArg some (by kernel_rfl))
 f226 := Tryd.func82.trans (congrArg some (by kernel_rfl))
 f227 := Tryd.func83.trans (congrArg some (by kernel_rfl))
 f228 := Tryd.func84.trans (congrArg some (by kernel_rfl))
 f266 := Tryd.func101.trans (congrArg some (by kernel_rfl))
 t0 := Tryd.underlying0
 a0 := Tryd.isAgg0
 z0 := Tryd.sizeOf0
 v0 := Tryd.zeroValue0
 t3 := Tryd.underlying3
 a3 := Tryd.isAgg3
 z3 := Tryd.sizeOf3
 v3 := Tryd.zeroValue3
 t4 := Tryd.underlying4
 a4 := Tryd.isAgg4
 z4 := Tryd.sizeOf4
 v4 := Tryd.zeroValue4
 t5 := Tryd.underlying5
 a5 := Tryd.isAgg5
 z5 := Tryd.sizeOf5
 v5 := Tryd.zeroValue5
 t9 := Tryd.underlying9
 a9 := Tryd.isAgg9
 z9 := Tryd.sizeOf9
 v9 := Tryd.zeroValue9
 t21 := Tryd.underlying21
 a21 := Tryd.isAgg21
 z21 := Tryd.sizeOf21
 v21 := Tryd.zeroValue21
 t46 := Tryd.underlying35
 a46 := Tryd.isAgg35
 z46 := Tryd.sizeOf35
 v46 := Tryd.zeroValue35
 t116 := Tryd.underlying89
 a116 := Tryd.isAgg89
 z116 := Tryd.sizeOf89
 t117 := Tryd.underlying90
 a117 := Tryd.isAgg90
 z117 := Tryd.sizeOf90
 v117 := Tryd.zeroValue90
 t124 := Tryd.underlying104
 a124 := Tryd.isAgg104
 z124 := Tryd.sizeOf104
 v124 := Tryd.zeroValue104 }
theorem xok_indexAny : ∀ args up r up', xIndexAny args up = some (r, up') → ∀ (n : Nat) w M B vals, CallPre ⟨n, GM⟩ M B args up vals w → Invokes Tryd.prog 50 vals w (CallPost ⟨n, GM⟩ M B args up vals w r up') :=
 xIndexAny_ok (fun _ _ => enters_of Tryd.func50 (by kernel_rfl) rfl _ _) fun s w hs => Ixa.IndexAny_all Tryd.lays153 (by kernel_rfl) s w (Nat.lt_succ_of_le hs)
def Tryd.lays137_ren : Go.Shelf.Ren := ⟨fun | 137 => 54 | 217 => 87 | 266 => 101 | n => n, fun | 9 => 9 | 5 => 5 | 3 => 3 | n => n, fun | n => n⟩
theorem Tryd.lays137 : Go.Proofs.Lays.n137 Tryd.prog Tryd.lays137_ren := {
 mixed := by kernel_rfl
 f137 := Tryd.func54.trans (congrArg some (by kernel_rfl))
 f217 := Tryd.func87.trans (congrArg some (by kernel_rfl))
 f266 := Tryd.func101.trans (congrArg some (by kernel_rfl))
 t3 := Tryd.underlying3
 a3 := Tryd.isAgg3
 z3 := Tryd.sizeOf3
 v3 := Tryd.zeroValue3
 t5 := Tryd.underlying5
 a5 := Tryd.isAgg5
 z5 := Tryd.sizeOf5
 v5 := Tryd.zeroValue5
 t9 := Tryd.underlying9
 a9 := Tryd.isAgg9
 z9 := Tryd.sizeOf9
 v9 := Tryd.zeroValue9 }
theorem xok_indexByte : ∀ args up r up', xIndexByte args up = some (r, up') → ∀ (n : Nat) w M B vals, CallPre ⟨n, GM⟩ M B args up vals w → Invokes Tryd.prog 54 vals w (CallPost ⟨n, GM⟩ M B args up vals w r up') :=
 xIndexByte_ok (fun _ _ => enters_of Tryd.func54 (by kernel_rfl) rfl _ _) fun s c w => Any.strings_IndexByte Tryd.lays137 s c w
def Tryd.lays197_ren : Go.Shelf.Ren := ⟨fun | 197 => 69 | 260 => 92 | n => n, fun | 9 => 9 | 21 => 21 | 3 => 3 | 4 => 4 | 5 => 5 | 105 => 72 | 119 => 98 | 0 => 0 | 46 => 35 | 139 => 101 | 138 => 100 | n => n, fun | 3 => 0 | 4 => 1 | n => n⟩
theorem Tryd.lays197 : Go.Proofs.Lays.n197 Tryd.prog Tryd.lays197_ren := {
 mixed := by kernel_rfl
 f197 := Tryd.func69.trans (congrArg some (by kernel_rfl))
 f260 := Tryd.func92.trans (congrArg some (by kernel_rfl))
 t0 := Tryd.underlying0
 a0 := Tryd.isAgg0
 z0 := Tryd.sizeOf0
 v0 := Tryd.zeroValue0
 t3 := Tryd.underlying3
 a3 := Tryd.isAgg3
 z3 := Tryd.sizeOf3
 v3 := Tryd.zeroValue3
 t4 := Tryd.underlying4
 a4 := Tryd.isAgg4
 z4 := Tryd.sizeOf4
 v4 := Tryd.zeroValue4
 t5 := Tryd.underlying5
 a5 := Tryd.isAgg5
 z5 := Tryd.sizeOf5
 v5 := Tryd.zeroValue5
 t9 := Tryd.underlying9
 a9 := Tryd.isAgg9
 z9 := Tryd.sizeOf9
 v9 := Tryd.zeroValue9
 t21 := Tryd.underlying21
 a21 := Tryd.isAgg21
 z21 := Tryd.sizeOf21
 v21 := Tryd.zeroValue21
 t46 := Tryd.underlying35
 a46 := Tryd.isAgg35
 z46 := Tryd.sizeOf35
 v46 := Tryd.zeroValue35
 t105 := Tryd.underlying72
 a105 := Tryd.isAgg72
 z105 := Tryd.sizeOf72
 v105 := Tryd.zeroValue72
 t119 := Tryd.underlying98
 a119 := Tryd.isAgg98
 z119 := Tryd.sizeOf98
 t138 := Tryd.underlying100
 a138 := Tryd.isAgg100
 z138 := Tryd.sizeOf100
 v138 := Tryd.zeroValue100
 t139 := Tryd.underlying101
 a139 := Tryd.isAgg101
 z139 := Tryd.sizeOf101
 v139 := Tryd.zeroValue101
 g3 := by kernel_rfl
 g4 := by kernel_rfl }
theorem xok_decode : ∀ args up r up', xDecode args up = some (r, up') → ∀ (n : Nat) w M B vals, CallPre ⟨n, GM⟩ M B args up vals w → Invokes Tryd.prog 69 vals w (CallPost ⟨n, GM⟩ M B args up vals w r up') :=
 xDecode_ok (T := Go.Lib.Utf8Tabs 0 1) tabs_of (fun _ _ => enters_of Tryd.func69 (by kernel_rfl) rfl _ _) fun s w hT => by
  have := Any.utf8_DecodeRuneInString Tryd.lays197 ⟨s.toArray⟩ w hT
  rw [decS_decodeGo] at this; exact this
def Tryd.lays196_ren : Go.Shelf.Ren := ⟨fun | 196 => 79 | 259 => 96 | n => n, fun | 9 => 9 | 4 => 4 | 3 => 3 | 5 => 5 | 12 => 12 | 119 => 98 | 0 => 0 | 46 => 35 | 139 => 101 | 138 => 100 | 53 => 109 | n => n, fun | 3 => 0 | 4 => 1 | n => n⟩
theorem Tryd.lays196 : Go.Proofs.Lays.n196 Tryd.prog Tryd.lays196_ren := {
 mixed := by kernel_rfl
 f196 := Tryd.func79.trans (congrArg some (by kernel_rfl))
 f259 := Tryd.func96.trans (congrArg some (by kernel_rfl))
 t0 := Tryd.underlying0
 a0 := Tryd.isAgg0
 z0 := Tryd.sizeOf0
 v0 := Tryd.zeroValue0
 t3 := Tryd.underlying3
 a3 := Tryd.isAgg3
 z3 := Tryd.sizeOf3
 v3 := Tryd.zeroValue3
 t4 := Tryd.underlying4
 a4 := Tryd.isAgg4
 z4 := Tryd.sizeOf4
 v4 := Tryd.zeroValue4
 t5 := Tryd.underlying5
 a5 := Tryd.isAgg5
 z5 := Tryd.sizeOf5
 v5 := Tryd.zeroValue5
 t9 := Tryd.underlying9
 a9 := Tryd.isAgg9
 z9 := Tryd.sizeOf9
 v9 := Tryd.zeroValue9
 t12 := Tryd.underlying12
 a12 := Tryd.isAgg12
 z12 := Tryd.sizeOf12
 v12 := Tryd.zeroValue12
 t46 := Tryd.underlying35
 a46 := Tryd.isAgg35
 z46 := Tryd.sizeOf35
 v46 := Tryd.zeroValue35
 t53 := Tryd.underlying109
 a53 := Tryd.isAgg109
 z53 := Tryd.sizeOf109
 v53 := Tryd.zeroValue109
 t119 := Tryd.underlying98
 a119 := Tryd.isAgg98
 z119 := Tryd.sizeOf98
 t138 := Tryd.underlying100
 a138 := Tryd.isAgg100
 z138 := Tryd.sizeOf100
 v138 := Tryd.zeroValue100
 t139 := Tryd.underlying101
 a139 := Tryd.isAgg101
 z139 := Tryd.sizeOf101
 v139 := Tryd.zeroValue101
 g3 := by kernel_rfl
 g4 := by kernel_rfl }
theorem validD_validN : ∀ (n : Nat) (s : Str), Go.Lib.validGoD n s = validN n s
 | 0, _ => rfl
 | n + 1, s => by
  unfold Go.Lib.validGoD validN
  by_cases h : s = []
  ·rw [if_pos h, if_pos h]
  ·have e : Go.Lib.decodeL s = decS s := by unfold decS; rw [if_neg h]; exact Go.Lib.decodeL_N s
   rw [if_neg h, if_neg h, e, validD_validN n]
theorem xok_valid : ∀ args up r up', xValid args up = some (r, up') → ∀ (n : Nat) w M B vals, CallPre ⟨n, GM⟩ M B args up vals w → Invokes Tryd.prog 79 vals w (CallPost ⟨n, GM⟩ M B args up vals w r up') :=
 xValid_ok (T := Go.Lib.Utf8Tabs 0 1) tabs_of (fun _ _ => enters_of Tryd.func79 (by kernel_rfl) rfl _ _) fun s w hl hT => by
  have hsz : (⟨s.toArray⟩ : ByteArray).size = s.length := by show s.toArray.size = _; simp
  have := Any.utf8_ValidString Tryd.lays196 ⟨s.toArray⟩ w (by rw [hsz]; exact hl) hT
  have e : Go.Lib.validD (⟨s.toArray⟩ : ByteArray).data.toList = validS s := by
   show Go.Lib.validGoD s.toArray.toList.length s.toArray.toList = _
   rw [show s.toArray.toList = s by simp, validD_validN]; rfl
  rw [e] at this; exact this
theorem xok : ExtOk Tryd.prog GM XT := by
 intro f g h
 unfold XT at h
 simp only [Go.Ev.look] at h
 split at h
 ·rename_i e; subst e; cases h; exact xok_join
 split at h
 ·rename_i e; subst e; cases h; exact xok_contains
 split at h
 ·rename_i e; subst e; cases h; exact xok_indexAny
 split at h
 ·rename_i e; subst e; cases h; exact xok_indexByte
 split at h
 ·rename_i e; subst e; cases h; exact xok_decode
 split at h
 ·rename_i e; subst e; cases h; exact xok_valid
 simp at h
end Go.Proofs.YtafndpggajdmiaaDoor

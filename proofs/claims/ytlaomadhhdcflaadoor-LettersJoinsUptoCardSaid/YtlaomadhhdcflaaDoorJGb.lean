import Derived.Test.YtlaomadhhdcflaaDoorJGa
import Derived.Lib.TrimUEq
import Derived.Shelf.Unicode.DecodeAny
import Derived.WalkKit
import Derived.KernelRfl
set_option linter.unusedVariables false
set_option linter.unusedSimpArgs false
/- Printed by symgen.py: typed functions of this seat, and why they tell what the program does. -/
set_option linter.unusedVariables false
set_option linter.unusedSimpArgs false
open Go Go.Ev Go.Ev.PV
namespace Go.Proofs.YtlaomadhhdcflaaDoor
def seinelaw1_LettersJoins_T1 (O : Orc) (LP : LBody → LBody) (l0 : List Int) : Option (PV × UP) :=
  cnd (decide ((List.length (List.map (PV.int .i64) l0) : Int) > 3000))
   (callp O 5 [] fun x1 => cnd (chk .bool x1)
   (some ((.bool (boolV x1)), [])) none)
   (callp O 6 [(.slice (List.map (PV.int .i64) l0) [] false)] fun x3 => cnd (chk (.slb false) x3)
   (callp O 7 [(.slice (esV x3) [] false)] fun x5 => cnd (chk (.tup [.str, .bool]) x5)
   (callp O 8 [(.slice (List.map (PV.int .i64) l0) [] false)] fun x7 => cnd (chk (.tup [.str, .bool]) x7)
   (cnd ((strV (gt (tupV x5) 0)) == (strV (gt (tupV x7) 0)))
    (cnd ((boolV (gt (tupV x5) 1)) == (boolV (gt (tupV x7) 1)))
     (callp O 9 [(.slice (esV x3) (bsV x3) false), (.slice (List.map (PV.int .i64) l0) [] false)] fun x9 => cnd (chk .bool x9)
     (cnd (boolV x9)
      (callp O 5 [] fun x11 => cnd (chk .bool x11)
      (some ((.bool (boolV x11)), [])) none)
      (some ((.bool false), []))) none)
     (some ((.bool false), [])))
    (some ((.bool false), []))) none) none) none)
noncomputable def seinelaw1_LettersJoins_B (l0 : List Int) : Option Bool :=
  cnd (decide ((List.length l0 : Int) > 3000))
   (bnd (seinelaw1_awake) fun y2 =>
   some y2)
   (bnd (seinekeep_Ints l0) fun y4 =>
   bnd (letters_Join y4.1) fun y6 =>
   bnd (seineref1_Join l0) fun y8 =>
   cnd (y6.1 == y8.1)
    (cnd (y6.2 == y8.2)
     (bnd (seinekeep_IntsStay y4.1 y4.2 l0) fun y10 =>
     cnd y10
      (bnd (seinelaw1_awake) fun y12 =>
      some y12)
      (some false))
     (some false))
    (some false))
def seinelaw1_LettersJoins_ds : Decs := { decs := [(11, .bool), (13, (.slb false)), (16, (.tup [.str, .bool])), (21, (.tup [.str, .bool])), (35, .bool), (38, .bool)], ups := [], loops := [] }
set_option maxRecDepth 100000 in
theorem seinelaw1_LettersJoins_t1 (O : Orc) (LP : LBody → LBody) (l0 : List Int) : evalBodyD Tryd.prog (MT 3) seinelaw1_LettersJoins_ds Tryd.f3.ntmps O LP Tryd.f3 [(.slice (List.map (PV.int .i64) l0) [] false)] [] = seinelaw1_LettersJoins_T1 O LP l0 := by kernel_rfl
theorem seinelaw1_LettersJoins_imp (l0 : List Int) : Imp (seinelaw1_LettersJoins_B l0) (seinelaw1_LettersJoins_T1 O loopLim l0) (fun r v => v = (seinelaw1_LettersJoinsE r, [])) := by
  simp only [seinelaw1_LettersJoins_B, seinelaw1_LettersJoins_T1]
  try simp only [evs, tys]
  refine Imp.cnd ?_ ?_
  · refine Imp.call (f := seinelaw1_awakeE) rfl (fun a h => by first | exact seinelaw1_awake_spec h | simpa only [evs, tys, evl] using seinelaw1_awake_spec h) (fun a => by first | rfl | simp only [seinelaw1_awakeE, evk, chks]) fun y2 hy2 => ?_
    try simp only [seinelaw1_awakeE, evs, tys]
    exact Imp.some (by first | rfl | simp only [seinelaw1_LettersJoinsE, evs, tys, evl])
  · refine Imp.call (f := seinekeep_IntsE) rfl (fun a h => by first | exact seinekeep_Ints_spec h | simpa only [evs, tys, evl] using seinekeep_Ints_spec h) (fun a => by first | rfl | simp only [seinekeep_IntsE, evk, chks]) fun y4 hy4 => ?_
    try simp only [seinekeep_IntsE, evs, tys]
    refine Imp.call (f := letters_JoinE) rfl (fun a h => by first | exact letters_Join_spec h | simpa only [evs, tys, evl] using letters_Join_spec h) (fun a => by first | rfl | simp only [letters_JoinE, evk, chks]) fun y6 hy6 => ?_
    try simp only [letters_JoinE, evs, tys]
    refine Imp.call (f := seineref1_JoinE) rfl (fun a h => by first | exact seineref1_Join_spec h | simpa only [evs, tys, evl] using seineref1_Join_spec h) (fun a => by first | rfl | simp only [seineref1_JoinE, evk, chks]) fun y8 hy8 => ?_
    try simp only [seineref1_JoinE, evs, tys]
    refine Imp.cnd ?_ ?_
    · refine Imp.cnd ?_ ?_
      · refine Imp.call (f := seinekeep_IntsStayE) rfl (fun a h => by first | exact seinekeep_IntsStay_spec h | simpa only [evs, tys, evl] using seinekeep_IntsStay_spec h) (fun a => by first | rfl | simp only [seinekeep_IntsStayE, evk, chks]) fun y10 hy10 => ?_
        try simp only [seinekeep_IntsStayE, evs, tys]
        refine Imp.cnd ?_ ?_
        · refine Imp.call (f := seinelaw1_awakeE) rfl (fun a h => by first | exact seinelaw1_awake_spec h | simpa only [evs, tys, evl] using seinelaw1_awake_spec h) (fun a => by first | rfl | simp only [seinelaw1_awakeE, evk, chks]) fun y12 hy12 => ?_
          try simp only [seinelaw1_awakeE, evs, tys]
          exact Imp.some (by first | rfl | simp only [seinelaw1_LettersJoinsE, evs, tys, evl])
        · exact Imp.some (by first | rfl | simp only [seinelaw1_LettersJoinsE, evs, tys, evl])
      · exact Imp.some (by first | rfl | simp only [seinelaw1_LettersJoinsE, evs, tys, evl])
    · exact Imp.some (by first | rfl | simp only [seinelaw1_LettersJoinsE, evs, tys, evl])
theorem seinelaw1_LettersJoins_run {l0 : List Int} {r : Bool} (h : seinelaw1_LettersJoins_B l0 = some r) : seinelaw1_LettersJoins l0 = some r := by
  obtain ⟨v, hv, rfl⟩ := seinelaw1_LettersJoins_imp l0 r h
  exact tO_of (pair_inj seinelaw1_LettersJoinsEj) (OL_runD seinelaw1_LettersJoins_ds rfl rfl Tryd.func3 ((seinelaw1_LettersJoins_t1 _ _ l0).trans hv))

theorem seinelaw1_awake_run {r : Bool} (n : Nat) (h : evalK Tryd.prog MT XT n 5 [] [] = some (seinelaw1_awakeE r, [])) : seinelaw1_awake = some r := tO_of (pair_inj seinelaw1_awakeEj) (evalK_OL n h)

def seinekeep_Ints_T1 (O : Orc) (LP : LBody → LBody) (l0 : List Int) : Option (PV × UP) :=
  bnd (mkSl 1 (.int .i64 (IntKind.wrap .i64 ((List.length (List.map (PV.int .i64) l0) : Int) + 1)))) fun x1 => cnd (chk .any x1)
  (bnd (apd 1 x1 (.slice (List.map (PV.int .i64) l0) [] false)) fun x3 => cnd (chk .any x3)
  (bnd (apd 1 x3 (.slice [(.int .i64 77)] [] true)) fun x5 => cnd (chk (.sl true) x5)
  (bnd (slcHi 1 (.slice (esV x5) [] true) (.int .i64 (List.length (List.map (PV.int .i64) l0) : Int))) fun x7 => cnd (chk (.slb false) x7)
  (some ((.slice (esV x7) (bsV x7) false), [])) none) none) none) none
noncomputable def seinekeep_Ints_B (l0 : List Int) : Option (List Int × List Int) :=
  bnd (tmk (IntKind.wrap .i64 ((List.length l0 : Int) + 1))) fun y2 =>
  bnd (tapp ([] : List Int) l0) fun y4 =>
  bnd (tapp y4 [77]) fun y6 =>
  bnd (tslb (y6 : List Int) [] 0 (List.length l0 : Int)) fun y8 =>
  some (y8.1, y8.2)
def seinekeep_Ints_ds : Decs := { decs := [(6, .any), (8, .any), (10, (.sl true)), (13, (.slb false))], ups := [], loops := [] }
set_option maxRecDepth 100000 in
theorem seinekeep_Ints_t1 (O : Orc) (LP : LBody → LBody) (l0 : List Int) : evalBodyD Tryd.prog (MT 6) seinekeep_Ints_ds Tryd.f6.ntmps O LP Tryd.f6 [(.slice (List.map (PV.int .i64) l0) [] false)] [] = seinekeep_Ints_T1 O LP l0 := by kernel_rfl
theorem seinekeep_Ints_imp (l0 : List Int) : Imp (seinekeep_Ints_B l0) (seinekeep_Ints_T1 O loopLim l0) (fun r v => v = (seinekeep_IntsE r, [])) := by
  simp only [seinekeep_Ints_B, seinekeep_Ints_T1]
  try simp only [evs, tys]
  refine Imp.op (f := fun _ => slOr 1 (List.map (PV.int .i64) [])) (fun a h => op_mk h) (fun a => rfl) fun y2 hy2 => ?_
  try simp only [evs, tys]
  refine Imp.op (f := fun a => slOr 1 (List.map (PV.int .i64) a)) (fun a h => op_apdOr (enc := (PV.int .i64)) (by first | rfl | simp only [evs, tys, evl]) (fun a => by first | rfl | simp only [evs, tys, evc]) h) (fun a => rfl) fun y4 hy4 => ?_
  try simp only [evs, tys]
  refine Imp.op (f := fun a => .slice (List.map (PV.int .i64) a) [] true) (fun a h => op_apdOr1 (enc := (PV.int .i64)) (by first | rfl | simp only [evs, tys, evl]) (fun a => by first | rfl | simp only [evs, tys, evc]) (by simp) h) (fun a => rfl) fun y6 hy6 => ?_
  try simp only [evs, tys]
  refine Imp.op (f := fun a => .slice (List.map (PV.int .i64) a.1) (List.map (PV.int .i64) a.2) false) (fun a h => op_slbHi (enc := (PV.int .i64)) (by first | rfl | simp only [evs, tys, evl]) (by first | rfl | exact List.map_nil.symm | simp only [evs, tys, evl]) (fun a => by first | rfl | simp only [evs, tys, evc]) h) (fun a => rfl) fun y8 hy8 => ?_
  try simp only [evs, tys]
  exact Imp.some (by first | rfl | simp only [seinekeep_IntsE, evs, tys, evl])
theorem seinekeep_Ints_run {l0 : List Int} {r : (List Int × List Int)} (h : seinekeep_Ints_B l0 = some r) : seinekeep_Ints l0 = some r := by
  obtain ⟨v, hv, rfl⟩ := seinekeep_Ints_imp l0 r h
  exact tO_of (pair_inj seinekeep_IntsEj) (OL_runD seinekeep_Ints_ds rfl rfl Tryd.func6 ((seinekeep_Ints_t1 _ _ l0).trans hv))

def letters_Join_l1 (O : Orc) (LP : LBody → LBody) : LBody := fun s1 s1u => cnd (chkL [(.sl false), .str, .bool, (.sl true), (.int .i64)] s1) (cnd (chkU [] s1u)
  (cnd (decide ((intV (gt s1 4)) < (List.length (esV (gt s1 0)) : Int)))
   (bnd (ix 1 (.slice (esV (gt s1 0)) [] false) (.int .i64 (intV (gt s1 4)))) fun x30 => cnd (chk (.ref (.int .i64)) x30)
   (cnd (decide ((intV (refV x30)) < 0))
    (some (.ret, [(.slice (esV (gt s1 0)) [] false), (.str []), (.bool false), (.slice (esV (gt s1 3)) [] true), (.int .i64 (intV (gt s1 4)))], []))
    (cnd (decide ((intV (refV x30)) > 65535))
     (some (.ret, [(.slice (esV (gt s1 0)) [] false), (.str []), (.bool false), (.slice (esV (gt s1 3)) [] true), (.int .i64 (intV (gt s1 4)))], []))
     (cnd (decide ((intV (refV x30)) ≥ 56320))
      (cnd (decide ((intV (refV x30)) ≤ 57343))
       (some (.ret, [(.slice (esV (gt s1 0)) [] false), (.str []), (.bool false), (.slice (esV (gt s1 3)) [] true), (.int .i64 (intV (gt s1 4)))], []))
       (cnd (decide ((intV (refV x30)) ≥ 55296))
        (cnd (decide ((intV (refV x30)) < 56320))
         (cnd ((IntKind.wrap .i64 ((intV (gt s1 4)) + 1)) == (List.length (esV (gt s1 0)) : Int))
          (some (.ret, [(.slice (esV (gt s1 0)) [] false), (.str []), (.bool false), (.slice (esV (gt s1 3)) [] true), (.int .i64 (IntKind.wrap .i64 ((intV (gt s1 4)) + 1)))], []))
          (bnd (ix 1 (.slice (esV (gt s1 0)) [] false) (.int .i64 (IntKind.wrap .i64 ((intV (gt s1 4)) + 1)))) fun x32 => cnd (chk (.ref (.int .i64)) x32)
          (cnd (decide ((intV (refV x32)) < 56320))
           (some (.ret, [(.slice (esV (gt s1 0)) [] false), (.str []), (.bool false), (.slice (esV (gt s1 3)) [] true), (.int .i64 (IntKind.wrap .i64 ((intV (gt s1 4)) + 1)))], []))
           (bnd (ix 1 (.slice (esV (gt s1 0)) [] false) (.int .i64 (IntKind.wrap .i64 ((intV (gt s1 4)) + 1)))) fun x34 => cnd (chk (.ref (.int .i64)) x34)
           (cnd (decide ((intV (refV x34)) > 57343))
            (some (.ret, [(.slice (esV (gt s1 0)) [] false), (.str []), (.bool false), (.slice (esV (gt s1 3)) [] true), (.int .i64 (IntKind.wrap .i64 ((intV (gt s1 4)) + 1)))], []))
            (bnd (ix 1 (.slice (esV (gt s1 0)) [] false) (.int .i64 (IntKind.wrap .i64 ((intV (gt s1 4)) + 1)))) fun x36 => cnd (chk (.ref (.int .i64)) x36)
            (callp O 12 [(.slice (esV (gt s1 3)) [] true), (.int .i32 (IntKind.wrap .i32 (IntKind.wrap .i64 ((IntKind.wrap .i64 ((IntKind.wrap .i64 (65536 + (IntKind.wrap .i64 (1024 * (IntKind.wrap .i64 ((intV (refV x30)) - 55296)))))) + (intV (refV x36)))) - 56320))))] fun x38 => cnd (chk (.sl true) x38)
            (some (.nrm, [(.slice (esV (gt s1 0)) [] false), (.str (strV (gt s1 1))), (.bool (boolV (gt s1 2))), (.slice (esV x38) [] true), (.int .i64 (IntKind.wrap .i64 ((IntKind.wrap .i64 ((intV (gt s1 4)) + 1)) + 1)))], [])) none) none)) none)) none))
         (callp O 12 [(.slice (esV (gt s1 3)) [] true), (.int .i32 (IntKind.wrap .i32 (intV (refV x30))))] fun x40 => cnd (chk (.sl true) x40)
         (some (.nrm, [(.slice (esV (gt s1 0)) [] false), (.str (strV (gt s1 1))), (.bool (boolV (gt s1 2))), (.slice (esV x40) [] true), (.int .i64 (IntKind.wrap .i64 ((intV (gt s1 4)) + 1)))], [])) none))
        (callp O 12 [(.slice (esV (gt s1 3)) [] true), (.int .i32 (IntKind.wrap .i32 (intV (refV x30))))] fun x42 => cnd (chk (.sl true) x42)
        (some (.nrm, [(.slice (esV (gt s1 0)) [] false), (.str (strV (gt s1 1))), (.bool (boolV (gt s1 2))), (.slice (esV x42) [] true), (.int .i64 (IntKind.wrap .i64 ((intV (gt s1 4)) + 1)))], [])) none)))
      (cnd (decide ((intV (refV x30)) ≥ 55296))
       (cnd (decide ((intV (refV x30)) < 56320))
        (cnd ((IntKind.wrap .i64 ((intV (gt s1 4)) + 1)) == (List.length (esV (gt s1 0)) : Int))
         (some (.ret, [(.slice (esV (gt s1 0)) [] false), (.str []), (.bool false), (.slice (esV (gt s1 3)) [] true), (.int .i64 (IntKind.wrap .i64 ((intV (gt s1 4)) + 1)))], []))
         (bnd (ix 1 (.slice (esV (gt s1 0)) [] false) (.int .i64 (IntKind.wrap .i64 ((intV (gt s1 4)) + 1)))) fun x44 => cnd (chk (.ref (.int .i64)) x44)
         (cnd (decide ((intV (refV x44)) < 56320))
          (some (.ret, [(.slice (esV (gt s1 0)) [] false), (.str []), (.bool false), (.slice (esV (gt s1 3)) [] true), (.int .i64 (IntKind.wrap .i64 ((intV (gt s1 4)) + 1)))], []))
          (bnd (ix 1 (.slice (esV (gt s1 0)) [] false) (.int .i64 (IntKind.wrap .i64 ((intV (gt s1 4)) + 1)))) fun x46 => cnd (chk (.ref (.int .i64)) x46)
          (cnd (decide ((intV (refV x46)) > 57343))
           (some (.ret, [(.slice (esV (gt s1 0)) [] false), (.str []), (.bool false), (.slice (esV (gt s1 3)) [] true), (.int .i64 (IntKind.wrap .i64 ((intV (gt s1 4)) + 1)))], []))
           (bnd (ix 1 (.slice (esV (gt s1 0)) [] false) (.int .i64 (IntKind.wrap .i64 ((intV (gt s1 4)) + 1)))) fun x48 => cnd (chk (.ref (.int .i64)) x48)
           (callp O 12 [(.slice (esV (gt s1 3)) [] true), (.int .i32 (IntKind.wrap .i32 (IntKind.wrap .i64 ((IntKind.wrap .i64 ((IntKind.wrap .i64 (65536 + (IntKind.wrap .i64 (1024 * (IntKind.wrap .i64 ((intV (refV x30)) - 55296)))))) + (intV (refV x48)))) - 56320))))] fun x50 => cnd (chk (.sl true) x50)
           (some (.nrm, [(.slice (esV (gt s1 0)) [] false), (.str (strV (gt s1 1))), (.bool (boolV (gt s1 2))), (.slice (esV x50) [] true), (.int .i64 (IntKind.wrap .i64 ((IntKind.wrap .i64 ((intV (gt s1 4)) + 1)) + 1)))], [])) none) none)) none)) none))
        (callp O 12 [(.slice (esV (gt s1 3)) [] true), (.int .i32 (IntKind.wrap .i32 (intV (refV x30))))] fun x52 => cnd (chk (.sl true) x52)
        (some (.nrm, [(.slice (esV (gt s1 0)) [] false), (.str (strV (gt s1 1))), (.bool (boolV (gt s1 2))), (.slice (esV x52) [] true), (.int .i64 (IntKind.wrap .i64 ((intV (gt s1 4)) + 1)))], [])) none))
       (callp O 12 [(.slice (esV (gt s1 3)) [] true), (.int .i32 (IntKind.wrap .i32 (intV (refV x30))))] fun x54 => cnd (chk (.sl true) x54)
       (some (.nrm, [(.slice (esV (gt s1 0)) [] false), (.str (strV (gt s1 1))), (.bool (boolV (gt s1 2))), (.slice (esV x54) [] true), (.int .i64 (IntKind.wrap .i64 ((intV (gt s1 4)) + 1)))], [])) none))))) none)
   (some (.brk 0, [(.slice (esV (gt s1 0)) [] false), (.str (strV (gt s1 1))), (.bool (boolV (gt s1 2))), (.slice (esV (gt s1 3)) [] true), (.int .i64 (intV (gt s1 4)))], []))) none) none
def letters_Join_T1 (O : Orc) (LP : LBody → LBody) (units : List Int) : Option (PV × UP) :=
  bnd (LP (letters_Join_l1 O LP) [(.slice (List.map (PV.int .i64) units) [] false), (.str []), (.bool false), (.slice [] [] true), (.int .i64 0)] []) fun y60 =>
  exIs y60.1 (some 0) (cnd (chkL [(.sl false), .str, .bool, (.sl true), (.int .i64)] y60.2.1) (cnd (chkU [] y60.2.2)
   (bnd (toStr (.slice (esV (gt y60.2.1 3)) [] false)) fun x61 => cnd (chk .str x61)
   (some ((.tuple [(.str (strV x61)), (.bool true)]), [])) none) none) none)
  (exIs y60.1 none (cnd (chkL [(.sl false), .str, .bool, (.sl true), (.int .i64)] y60.2.1) (cnd (chkU [] y60.2.2)
   (some ((.tuple [(.str (strV (gt y60.2.1 1))), (.bool (boolV (gt y60.2.1 2)))]), [])) none) none)
  (none))
noncomputable def letters_Join_l1T (units : List Int) : ((List Int) × Int) → Option (((List Int) × Int) ⊕ ((List Int) ⊕ Unit))
  | (b_28, i_29) =>
  cnd (decide (i_29 < (List.length units : Int)))
   (bnd (nthI units i_29) fun y31 =>
   cnd (decide (y31 < 0))
    (some (.inr (.inr ())))
    (cnd (decide (y31 > 65535))
     (some (.inr (.inr ())))
     (cnd (decide (y31 ≥ 56320))
      (cnd (decide (y31 ≤ 57343))
       (some (.inr (.inr ())))
       (cnd (decide (y31 ≥ 55296))
        (cnd (decide (y31 < 56320))
         (cnd ((IntKind.wrap .i64 (i_29 + 1)) == (List.length units : Int))
          (some (.inr (.inr ())))
          (bnd (nthI units (IntKind.wrap .i64 (i_29 + 1))) fun y33 =>
          cnd (decide (y33 < 56320))
           (some (.inr (.inr ())))
           (bnd (nthI units (IntKind.wrap .i64 (i_29 + 1))) fun y35 =>
           cnd (decide (y35 > 57343))
            (some (.inr (.inr ())))
            (bnd (nthI units (IntKind.wrap .i64 (i_29 + 1))) fun y37 =>
            bnd (utf8_AppendRune b_28 (IntKind.wrap .i32 (IntKind.wrap .i64 ((IntKind.wrap .i64 ((IntKind.wrap .i64 (65536 + (IntKind.wrap .i64 (1024 * (IntKind.wrap .i64 (y31 - 55296)))))) + y37)) - 56320)))) fun y39 =>
            some (.inl (y39, (IntKind.wrap .i64 ((IntKind.wrap .i64 (i_29 + 1)) + 1))))))))
         (bnd (utf8_AppendRune b_28 (IntKind.wrap .i32 y31)) fun y41 =>
         some (.inl (y41, (IntKind.wrap .i64 (i_29 + 1))))))
        (bnd (utf8_AppendRune b_28 (IntKind.wrap .i32 y31)) fun y43 =>
        some (.inl (y43, (IntKind.wrap .i64 (i_29 + 1)))))))
      (cnd (decide (y31 ≥ 55296))
       (cnd (decide (y31 < 56320))
        (cnd ((IntKind.wrap .i64 (i_29 + 1)) == (List.length units : Int))
         (some (.inr (.inr ())))
         (bnd (nthI units (IntKind.wrap .i64 (i_29 + 1))) fun y45 =>
         cnd (decide (y45 < 56320))
          (some (.inr (.inr ())))
          (bnd (nthI units (IntKind.wrap .i64 (i_29 + 1))) fun y47 =>
          cnd (decide (y47 > 57343))
           (some (.inr (.inr ())))
           (bnd (nthI units (IntKind.wrap .i64 (i_29 + 1))) fun y49 =>
           bnd (utf8_AppendRune b_28 (IntKind.wrap .i32 (IntKind.wrap .i64 ((IntKind.wrap .i64 ((IntKind.wrap .i64 (65536 + (IntKind.wrap .i64 (1024 * (IntKind.wrap .i64 (y31 - 55296)))))) + y49)) - 56320)))) fun y51 =>
           some (.inl (y51, (IntKind.wrap .i64 ((IntKind.wrap .i64 (i_29 + 1)) + 1))))))))
        (bnd (utf8_AppendRune b_28 (IntKind.wrap .i32 y31)) fun y53 =>
        some (.inl (y53, (IntKind.wrap .i64 (i_29 + 1))))))
       (bnd (utf8_AppendRune b_28 (IntKind.wrap .i32 y31)) fun y55 =>
       some (.inl (y55, (IntKind.wrap .i64 (i_29 + 1)))))))))
   (some (.inr (.inl b_28)))
abbrev letters_Join_l1R (units : List Int) (st : (List Int) × Int) (l : List PV) (u : UP) : Prop := l = [(.slice (List.map (PV.int .i64) units) [] false), (.str []), (.bool false), (.slice (List.map (PV.int .u8) st.1) [] true), (.int .i64 st.2)] ∧ u = []
abbrev letters_Join_l1X (units : List Int) (p : (List Int) ⊕ Unit) (r : Ex × List PV × UP) : Prop := elim p (fun (p : (List Int)) => ∃ (i_57 : Int), r = (Ex.brk 0, [(.slice (List.map (PV.int .i64) units) [] false), (.str []), (.bool false), (.slice (List.map (PV.int .u8) p) [] true), (.int .i64 i_57)], [])) (fun q2 => (fun (p : Unit) => ∃ (b_58 : List Int), ∃ (i_59 : Int), r = (Ex.ret, [(.slice (List.map (PV.int .i64) units) [] false), (.str []), (.bool false), (.slice (List.map (PV.int .u8) b_58) [] true), (.int .i64 i_59)], [])) q2)
noncomputable def letters_Join_B (units : List Int) : Option (Str × Bool) :=
  bnd (tloop (letters_Join_l1T units) ([], 0)) fun e60_2 => elim e60_2
  (fun b_56 =>
   bnd (some (bytesT b_56)) fun y62 =>
   some (y62, true))
  (fun p60 =>
  some ([], false))
def letters_Join_ds : Decs := { decs := [(15, (.ref (.int .i64))), (48, (.ref (.int .i64))), (55, (.ref (.int .i64))), (65, (.ref (.int .i64))), (72, (.sl true)), (74, .str)], ups := [], loops := [(3, [], ⟨[(.sl false), .str, .bool, (.sl true), (.int .i64)], [], [(some 0, [(.sl false), .str, .bool, (.sl true), (.int .i64)], []), (none, [(.sl false), .str, .bool, (.sl true), (.int .i64)], [])]⟩)] }
set_option maxRecDepth 100000 in
theorem letters_Join_t1 (O : Orc) (LP : LBody → LBody) (units : List Int) : evalBodyD Tryd.prog (MT 7) letters_Join_ds Tryd.f7.ntmps O LP Tryd.f7 [(.slice (List.map (PV.int .i64) units) [] false)] [] = letters_Join_T1 O LP units := by kernel_rfl
theorem letters_Join_l1_ok (units : List Int) : ∀ st l u, letters_Join_l1R units st l u → Imp (letters_Join_l1T units st) (letters_Join_l1 O loopLim l u) (StepR (letters_Join_l1R units) (letters_Join_l1X units)) := by
  rintro ⟨b_28, i_29⟩ l u ⟨rfl, rfl⟩
  simp only [letters_Join_l1T, letters_Join_l1]
  refine Imp.chk rfl (Imp.chk rfl ?_)
  try simp only [evs, tys]
  refine Imp.cnd ?_ ?_
  · refine Imp.op (f := fun a => .ref ((PV.int .i64) a)) (fun a h => op_ix (enc := (PV.int .i64)) (by first | rfl | simp only [evs, tys, evl]) ⟨by first | rfl | simp only [evs, tys, evc], by decide⟩ h) (fun a => rfl) fun y31 hy31 => ?_
    try simp only [evs, tys]
    refine Imp.cnd ?_ ?_
    · exact Imp.some (StepR.ret ⟨b_28, i_29, by first | rfl | simp only [evs, tys, evl, elim_inl, elim_inr]⟩)
    · refine Imp.cnd ?_ ?_
      · exact Imp.some (StepR.ret ⟨b_28, i_29, by first | rfl | simp only [evs, tys, evl, elim_inl, elim_inr]⟩)
      · refine Imp.cnd ?_ ?_
        · refine Imp.cnd ?_ ?_
          · exact Imp.some (StepR.ret ⟨b_28, i_29, by first | rfl | simp only [evs, tys, evl, elim_inl, elim_inr]⟩)
          · refine Imp.cnd ?_ ?_
            · refine Imp.cnd ?_ ?_
              · refine Imp.cnd ?_ ?_
                · exact Imp.some (StepR.ret ⟨b_28, (IntKind.wrap .i64 (i_29 + 1)), by first | rfl | simp only [evs, tys, evl, elim_inl, elim_inr]⟩)
                · refine Imp.op (f := fun a => .ref ((PV.int .i64) a)) (fun a h => op_ix (enc := (PV.int .i64)) (by first | rfl | simp only [evs, tys, evl]) ⟨by first | rfl | simp only [evs, tys, evc], by decide⟩ h) (fun a => rfl) fun y33 hy33 => ?_
                  try simp only [evs, tys]
                  refine Imp.cnd ?_ ?_
                  · exact Imp.some (StepR.ret ⟨b_28, (IntKind.wrap .i64 (i_29 + 1)), by first | rfl | simp only [evs, tys, evl, elim_inl, elim_inr]⟩)
                  · refine Imp.op (f := fun a => .ref ((PV.int .i64) a)) (fun a h => op_ix (enc := (PV.int .i64)) (by first | rfl | simp only [evs, tys, evl]) ⟨by first | rfl | simp only [evs, tys, evc], by decide⟩ h) (fun a => rfl) fun y35 hy35 => ?_
                    try simp only [evs, tys]
                    refine Imp.cnd ?_ ?_
                    · exact Imp.some (StepR.ret ⟨b_28, (IntKind.wrap .i64 (i_29 + 1)), by first | rfl | simp only [evs, tys, evl, elim_inl, elim_inr]⟩)
                    · refine Imp.op (f := fun a => .ref ((PV.int .i64) a)) (fun a h => op_ix (enc := (PV.int .i64)) (by first | rfl | simp only [evs, tys, evl]) ⟨by first | rfl | simp only [evs, tys, evc], by decide⟩ h) (fun a => rfl) fun y37 hy37 => ?_
                      try simp only [evs, tys]
                      refine Imp.call (f := utf8_AppendRuneE) rfl (fun a h => by first | exact utf8_AppendRune_spec h | simpa only [evs, tys, evl] using utf8_AppendRune_spec h) (fun a => by first | rfl | simp only [utf8_AppendRuneE, evk, chks]) fun y39 hy39 => ?_
                      try simp only [utf8_AppendRuneE, evs, tys]
                      exact Imp.some (StepR.next ⟨by first | rfl | simp only [evs, tys, evl], rfl⟩)
              · refine Imp.call (f := utf8_AppendRuneE) rfl (fun a h => by first | exact utf8_AppendRune_spec h | simpa only [evs, tys, evl] using utf8_AppendRune_spec h) (fun a => by first | rfl | simp only [utf8_AppendRuneE, evk, chks]) fun y41 hy41 => ?_
                try simp only [utf8_AppendRuneE, evs, tys]
                exact Imp.some (StepR.next ⟨by first | rfl | simp only [evs, tys, evl], rfl⟩)
            · refine Imp.call (f := utf8_AppendRuneE) rfl (fun a h => by first | exact utf8_AppendRune_spec h | simpa only [evs, tys, evl] using utf8_AppendRune_spec h) (fun a => by first | rfl | simp only [utf8_AppendRuneE, evk, chks]) fun y43 hy43 => ?_
              try simp only [utf8_AppendRuneE, evs, tys]
              exact Imp.some (StepR.next ⟨by first | rfl | simp only [evs, tys, evl], rfl⟩)
        · refine Imp.cnd ?_ ?_
          · refine Imp.cnd ?_ ?_
            · refine Imp.cnd ?_ ?_
              · exact Imp.some (StepR.ret ⟨b_28, (IntKind.wrap .i64 (i_29 + 1)), by first | rfl | simp only [evs, tys, evl, elim_inl, elim_inr]⟩)
              · refine Imp.op (f := fun a => .ref ((PV.int .i64) a)) (fun a h => op_ix (enc := (PV.int .i64)) (by first | rfl | simp only [evs, tys, evl]) ⟨by first | rfl | simp only [evs, tys, evc], by decide⟩ h) (fun a => rfl) fun y45 hy45 => ?_
                try simp only [evs, tys]
                refine Imp.cnd ?_ ?_
                · exact Imp.some (StepR.ret ⟨b_28, (IntKind.wrap .i64 (i_29 + 1)), by first | rfl | simp only [evs, tys, evl, elim_inl, elim_inr]⟩)
                · refine Imp.op (f := fun a => .ref ((PV.int .i64) a)) (fun a h => op_ix (enc := (PV.int .i64)) (by first | rfl | simp only [evs, tys, evl]) ⟨by first | rfl | simp only [evs, tys, evc], by decide⟩ h) (fun a => rfl) fun y47 hy47 => ?_
                  try simp only [evs, tys]
                  refine Imp.cnd ?_ ?_
                  · exact Imp.some (StepR.ret ⟨b_28, (IntKind.wrap .i64 (i_29 + 1)), by first | rfl | simp only [evs, tys, evl, elim_inl, elim_inr]⟩)
                  · refine Imp.op (f := fun a => .ref ((PV.int .i64) a)) (fun a h => op_ix (enc := (PV.int .i64)) (by first | rfl | simp only [evs, tys, evl]) ⟨by first | rfl | simp only [evs, tys, evc], by decide⟩ h) (fun a => rfl) fun y49 hy49 => ?_
                    try simp only [evs, tys]
                    refine Imp.call (f := utf8_AppendRuneE) rfl (fun a h => by first | exact utf8_AppendRune_spec h | simpa only [evs, tys, evl] using utf8_AppendRune_spec h) (fun a => by first | rfl | simp only [utf8_AppendRuneE, evk, chks]) fun y51 hy51 => ?_
                    try simp only [utf8_AppendRuneE, evs, tys]
                    exact Imp.some (StepR.next ⟨by first | rfl | simp only [evs, tys, evl], rfl⟩)
            · refine Imp.call (f := utf8_AppendRuneE) rfl (fun a h => by first | exact utf8_AppendRune_spec h | simpa only [evs, tys, evl] using utf8_AppendRune_spec h) (fun a => by first | rfl | simp only [utf8_AppendRuneE, evk, chks]) fun y53 hy53 => ?_
              try simp only [utf8_AppendRuneE, evs, tys]
              exact Imp.some (StepR.next ⟨by first | rfl | simp only [evs, tys, evl], rfl⟩)
          · refine Imp.call (f := utf8_AppendRuneE) rfl (fun a h => by first | exact utf8_AppendRune_spec h | simpa only [evs, tys, evl] using utf8_AppendRune_spec h) (fun a => by first | rfl | simp only [utf8_AppendRuneE, evk, chks]) fun y55 hy55 => ?_
            try simp only [utf8_AppendRuneE, evs, tys]
            exact Imp.some (StepR.next ⟨by first | rfl | simp only [evs, tys, evl], rfl⟩)
  · exact Imp.some (StepR.brk ⟨i_29, by first | rfl | simp only [evs, tys, evl, elim_inl, elim_inr]⟩)
theorem letters_Join_imp (units : List Int) : Imp (letters_Join_B units) (letters_Join_T1 O loopLim units) (fun r v => v = (letters_JoinE r, [])) := by
  simp only [letters_Join_B, letters_Join_T1]
  try simp only [evs, tys]
  refine Imp.bnd (Imp.loop (letters_Join_l1_ok units) ⟨by first | rfl | simp only [evs, tys, evl], rfl⟩) ?_
  rintro (b_56 | p) vy60 hy60
  · try simp only [elim_inl, elim_inr]
    obtain ⟨i_57, rfl⟩ := hy60
    refine Imp.exHit rfl (Imp.chk rfl (Imp.chk rfl ?_))
    try simp only [evs, tys]
    refine Imp.op (f := fun a => .str a) (fun a h => op_toStr (by first | rfl | simp only [evs, tys, evl]) h) (fun a => rfl) fun y62 hy62 => ?_
    try simp only [evs, tys]
    exact Imp.some (by first | rfl | simp only [letters_JoinE, evs, tys, evl])
  · try simp only [elim_inl, elim_inr]
    obtain ⟨b_58, i_59, rfl⟩ := hy60
    refine Imp.exMiss rfl ?_
    refine Imp.exHit rfl (Imp.chk rfl (Imp.chk rfl ?_))
    try simp only [evs, tys]
    exact Imp.some (by first | rfl | simp only [letters_JoinE, evs, tys, evl])
theorem letters_Join_run {units : List Int} {r : Str × Bool} (h : letters_Join_B units = some r) : letters_Join units = some r := by
  obtain ⟨v, hv, rfl⟩ := letters_Join_imp units r h
  exact tO_of (pair_inj letters_JoinEj) (OL_runD letters_Join_ds rfl rfl Tryd.func7 ((letters_Join_t1 _ _ units).trans hv))
end Go.Proofs.YtlaomadhhdcflaaDoor

/- Printed by symgen.py: typed functions of this seat, and why they tell what the program does. -/
set_option linter.unusedVariables false
set_option linter.unusedSimpArgs false
open Go Go.Ev Go.Ev.PV
namespace Go.Proofs.YtlaomadhhdcflaaDoor
def seineref1_Join_l1 (O : Orc) (LP : LBody → LBody) : LBody := fun s1 s1u => cnd (chkL [(.sl false), .str, .bool, .str, (.int .i64)] s1) (cnd (chkU [] s1u)
  (cnd (decide ((intV (gt s1 4)) < (List.length (esV (gt s1 0)) : Int)))
   (bnd (ix 1 (.slice (esV (gt s1 0)) [] false) (.int .i64 (intV (gt s1 4)))) fun x42 => cnd (chk (.ref (.int .i64)) x42)
   (cnd (decide ((intV (refV x42)) < 0))
    (some (.ret, [(.slice (esV (gt s1 0)) [] false), (.str []), (.bool false), (.str (strV (gt s1 3))), (.int .i64 (intV (gt s1 4)))], []))
    (cnd (decide ((intV (refV x42)) > 65535))
     (some (.ret, [(.slice (esV (gt s1 0)) [] false), (.str []), (.bool false), (.str (strV (gt s1 3))), (.int .i64 (intV (gt s1 4)))], []))
     (cnd (decide ((intV (refV x42)) ≥ 56320))
      (cnd (decide ((intV (refV x42)) < 57344))
       (some (.ret, [(.slice (esV (gt s1 0)) [] false), (.str []), (.bool false), (.str (strV (gt s1 3))), (.int .i64 (intV (gt s1 4)))], []))
       (cnd (decide ((intV (refV x42)) ≥ 55296))
        (cnd (decide ((intV (refV x42)) < 56320))
         (cnd (decide ((IntKind.wrap .i64 ((intV (gt s1 4)) + 1)) ≥ (List.length (esV (gt s1 0)) : Int)))
          (some (.ret, [(.slice (esV (gt s1 0)) [] false), (.str []), (.bool false), (.str (strV (gt s1 3))), (.int .i64 (intV (gt s1 4)))], []))
          (bnd (ix 1 (.slice (esV (gt s1 0)) [] false) (.int .i64 (IntKind.wrap .i64 ((intV (gt s1 4)) + 1)))) fun x44 => cnd (chk (.ref (.int .i64)) x44)
          (cnd (decide ((intV (refV x44)) < 56320))
           (some (.ret, [(.slice (esV (gt s1 0)) [] false), (.str []), (.bool false), (.str (strV (gt s1 3))), (.int .i64 (intV (gt s1 4)))], []))
           (bnd (ix 1 (.slice (esV (gt s1 0)) [] false) (.int .i64 (IntKind.wrap .i64 ((intV (gt s1 4)) + 1)))) fun x46 => cnd (chk (.ref (.int .i64)) x46)
           (cnd (decide ((intV (refV x46)) ≥ 57344))
            (some (.ret, [(.slice (esV (gt s1 0)) [] false), (.str []), (.bool false), (.str (strV (gt s1 3))), (.int .i64 (intV (gt s1 4)))], []))
            (bnd (ix 1 (.slice (esV (gt s1 0)) [] false) (.int .i64 (IntKind.wrap .i64 ((intV (gt s1 4)) + 1)))) fun x48 => cnd (chk (.ref (.int .i64)) x48)
            (callp O 13 [(.int .i64 (IntKind.wrap .i64 ((IntKind.wrap .i64 ((IntKind.wrap .i64 (65536 + (IntKind.wrap .i64 (1024 * (IntKind.wrap .i64 ((intV (refV x42)) - 55296)))))) + (intV (refV x48)))) - 56320)))] fun x50 => cnd (chk .str x50)
            (bnd (bin .add (.str (strV (gt s1 3))) (.str (strV x50))) fun x52 => cnd (chk .str x52)
            (some (.nrm, [(.slice (esV (gt s1 0)) [] false), (.str (strV (gt s1 1))), (.bool (boolV (gt s1 2))), (.str (strV x52)), (.int .i64 (IntKind.wrap .i64 ((IntKind.wrap .i64 ((intV (gt s1 4)) + 1)) + 1)))], [])) none) none) none)) none)) none))
         (callp O 13 [(.int .i64 (intV (refV x42)))] fun x54 => cnd (chk .str x54)
         (bnd (bin .add (.str (strV (gt s1 3))) (.str (strV x54))) fun x56 => cnd (chk .str x56)
         (some (.nrm, [(.slice (esV (gt s1 0)) [] false), (.str (strV (gt s1 1))), (.bool (boolV (gt s1 2))), (.str (strV x56)), (.int .i64 (IntKind.wrap .i64 ((intV (gt s1 4)) + 1)))], [])) none) none))
        (callp O 13 [(.int .i64 (intV (refV x42)))] fun x58 => cnd (chk .str x58)
        (bnd (bin .add (.str (strV (gt s1 3))) (.str (strV x58))) fun x60 => cnd (chk .str x60)
        (some (.nrm, [(.slice (esV (gt s1 0)) [] false), (.str (strV (gt s1 1))), (.bool (boolV (gt s1 2))), (.str (strV x60)), (.int .i64 (IntKind.wrap .i64 ((intV (gt s1 4)) + 1)))], [])) none) none)))
      (cnd (decide ((intV (refV x42)) ≥ 55296))
       (cnd (decide ((intV (refV x42)) < 56320))
        (cnd (decide ((IntKind.wrap .i64 ((intV (gt s1 4)) + 1)) ≥ (List.length (esV (gt s1 0)) : Int)))
         (some (.ret, [(.slice (esV (gt s1 0)) [] false), (.str []), (.bool false), (.str (strV (gt s1 3))), (.int .i64 (intV (gt s1 4)))], []))
         (bnd (ix 1 (.slice (esV (gt s1 0)) [] false) (.int .i64 (IntKind.wrap .i64 ((intV (gt s1 4)) + 1)))) fun x62 => cnd (chk (.ref (.int .i64)) x62)
         (cnd (decide ((intV (refV x62)) < 56320))
          (some (.ret, [(.slice (esV (gt s1 0)) [] false), (.str []), (.bool false), (.str (strV (gt s1 3))), (.int .i64 (intV (gt s1 4)))], []))
          (bnd (ix 1 (.slice (esV (gt s1 0)) [] false) (.int .i64 (IntKind.wrap .i64 ((intV (gt s1 4)) + 1)))) fun x64 => cnd (chk (.ref (.int .i64)) x64)
          (cnd (decide ((intV (refV x64)) ≥ 57344))
           (some (.ret, [(.slice (esV (gt s1 0)) [] false), (.str []), (.bool false), (.str (strV (gt s1 3))), (.int .i64 (intV (gt s1 4)))], []))
           (bnd (ix 1 (.slice (esV (gt s1 0)) [] false) (.int .i64 (IntKind.wrap .i64 ((intV (gt s1 4)) + 1)))) fun x66 => cnd (chk (.ref (.int .i64)) x66)
           (callp O 13 [(.int .i64 (IntKind.wrap .i64 ((IntKind.wrap .i64 ((IntKind.wrap .i64 (65536 + (IntKind.wrap .i64 (1024 * (IntKind.wrap .i64 ((intV (refV x42)) - 55296)))))) + (intV (refV x66)))) - 56320)))] fun x68 => cnd (chk .str x68)
           (bnd (bin .add (.str (strV (gt s1 3))) (.str (strV x68))) fun x70 => cnd (chk .str x70)
           (some (.nrm, [(.slice (esV (gt s1 0)) [] false), (.str (strV (gt s1 1))), (.bool (boolV (gt s1 2))), (.str (strV x70)), (.int .i64 (IntKind.wrap .i64 ((IntKind.wrap .i64 ((intV (gt s1 4)) + 1)) + 1)))], [])) none) none) none)) none)) none))
        (callp O 13 [(.int .i64 (intV (refV x42)))] fun x72 => cnd (chk .str x72)
        (bnd (bin .add (.str (strV (gt s1 3))) (.str (strV x72))) fun x74 => cnd (chk .str x74)
        (some (.nrm, [(.slice (esV (gt s1 0)) [] false), (.str (strV (gt s1 1))), (.bool (boolV (gt s1 2))), (.str (strV x74)), (.int .i64 (IntKind.wrap .i64 ((intV (gt s1 4)) + 1)))], [])) none) none))
       (callp O 13 [(.int .i64 (intV (refV x42)))] fun x76 => cnd (chk .str x76)
       (bnd (bin .add (.str (strV (gt s1 3))) (.str (strV x76))) fun x78 => cnd (chk .str x78)
       (some (.nrm, [(.slice (esV (gt s1 0)) [] false), (.str (strV (gt s1 1))), (.bool (boolV (gt s1 2))), (.str (strV x78)), (.int .i64 (IntKind.wrap .i64 ((intV (gt s1 4)) + 1)))], [])) none) none))))) none)
   (some (.brk 0, [(.slice (esV (gt s1 0)) [] false), (.str (strV (gt s1 1))), (.bool (boolV (gt s1 2))), (.str (strV (gt s1 3))), (.int .i64 (intV (gt s1 4)))], []))) none) none
def seineref1_Join_T1 (O : Orc) (LP : LBody → LBody) (l0 : List Int) : Option (PV × UP) :=
  bnd (LP (seineref1_Join_l1 O LP) [(.slice (List.map (PV.int .i64) l0) [] false), (.str []), (.bool false), (.str []), (.int .i64 0)] []) fun y84 =>
  exIs y84.1 (some 0) (cnd (chkL [(.sl false), .str, .bool, .str, (.int .i64)] y84.2.1) (cnd (chkU [] y84.2.2)
   (some ((.tuple [(.str (strV (gt y84.2.1 3))), (.bool true)]), [])) none) none)
  (exIs y84.1 none (cnd (chkL [(.sl false), .str, .bool, .str, (.int .i64)] y84.2.1) (cnd (chkU [] y84.2.2)
   (some ((.tuple [(.str (strV (gt y84.2.1 1))), (.bool (boolV (gt y84.2.1 2)))]), [])) none) none)
  (none))
noncomputable def seineref1_Join_l1T (l0 : List Int) : (Str × Int) → Option ((Str × Int) ⊕ (Str ⊕ Unit))
  | (out_40, i_41) =>
  cnd (decide (i_41 < (List.length l0 : Int)))
   (bnd (nthI l0 i_41) fun y43 =>
   cnd (decide (y43 < 0))
    (some (.inr (.inr ())))
    (cnd (decide (y43 > 65535))
     (some (.inr (.inr ())))
     (cnd (decide (y43 ≥ 56320))
      (cnd (decide (y43 < 57344))
       (some (.inr (.inr ())))
       (cnd (decide (y43 ≥ 55296))
        (cnd (decide (y43 < 56320))
         (cnd (decide ((IntKind.wrap .i64 (i_41 + 1)) ≥ (List.length l0 : Int)))
          (some (.inr (.inr ())))
          (bnd (nthI l0 (IntKind.wrap .i64 (i_41 + 1))) fun y45 =>
          cnd (decide (y45 < 56320))
           (some (.inr (.inr ())))
           (bnd (nthI l0 (IntKind.wrap .i64 (i_41 + 1))) fun y47 =>
           cnd (decide (y47 ≥ 57344))
            (some (.inr (.inr ())))
            (bnd (nthI l0 (IntKind.wrap .i64 (i_41 + 1))) fun y49 =>
            bnd (seineref1_Put (IntKind.wrap .i64 ((IntKind.wrap .i64 ((IntKind.wrap .i64 (65536 + (IntKind.wrap .i64 (1024 * (IntKind.wrap .i64 (y43 - 55296)))))) + y49)) - 56320))) fun y51 =>
            bnd (tapp out_40 y51) fun y53 =>
            some (.inl (y53, (IntKind.wrap .i64 ((IntKind.wrap .i64 (i_41 + 1)) + 1))))))))
         (bnd (seineref1_Put y43) fun y55 =>
         bnd (tapp out_40 y55) fun y57 =>
         some (.inl (y57, (IntKind.wrap .i64 (i_41 + 1))))))
        (bnd (seineref1_Put y43) fun y59 =>
        bnd (tapp out_40 y59) fun y61 =>
        some (.inl (y61, (IntKind.wrap .i64 (i_41 + 1)))))))
      (cnd (decide (y43 ≥ 55296))
       (cnd (decide (y43 < 56320))
        (cnd (decide ((IntKind.wrap .i64 (i_41 + 1)) ≥ (List.length l0 : Int)))
         (some (.inr (.inr ())))
         (bnd (nthI l0 (IntKind.wrap .i64 (i_41 + 1))) fun y63 =>
         cnd (decide (y63 < 56320))
          (some (.inr (.inr ())))
          (bnd (nthI l0 (IntKind.wrap .i64 (i_41 + 1))) fun y65 =>
          cnd (decide (y65 ≥ 57344))
           (some (.inr (.inr ())))
           (bnd (nthI l0 (IntKind.wrap .i64 (i_41 + 1))) fun y67 =>
           bnd (seineref1_Put (IntKind.wrap .i64 ((IntKind.wrap .i64 ((IntKind.wrap .i64 (65536 + (IntKind.wrap .i64 (1024 * (IntKind.wrap .i64 (y43 - 55296)))))) + y67)) - 56320))) fun y69 =>
           bnd (tapp out_40 y69) fun y71 =>
           some (.inl (y71, (IntKind.wrap .i64 ((IntKind.wrap .i64 (i_41 + 1)) + 1))))))))
        (bnd (seineref1_Put y43) fun y73 =>
        bnd (tapp out_40 y73) fun y75 =>
        some (.inl (y75, (IntKind.wrap .i64 (i_41 + 1))))))
       (bnd (seineref1_Put y43) fun y77 =>
       bnd (tapp out_40 y77) fun y79 =>
       some (.inl (y79, (IntKind.wrap .i64 (i_41 + 1)))))))))
   (some (.inr (.inl out_40)))
abbrev seineref1_Join_l1R (l0 : List Int) (st : Str × Int) (l : List PV) (u : UP) : Prop := l = [(.slice (List.map (PV.int .i64) l0) [] false), (.str []), (.bool false), (.str st.1), (.int .i64 st.2)] ∧ u = []
abbrev seineref1_Join_l1X (l0 : List Int) (p : Str ⊕ Unit) (r : Ex × List PV × UP) : Prop := elim p (fun (p : Str) => ∃ (i_81 : Int), r = (Ex.brk 0, [(.slice (List.map (PV.int .i64) l0) [] false), (.str []), (.bool false), (.str p), (.int .i64 i_81)], [])) (fun q2 => (fun (p : Unit) => ∃ (out_82 : Str), ∃ (i_83 : Int), r = (Ex.ret, [(.slice (List.map (PV.int .i64) l0) [] false), (.str []), (.bool false), (.str out_82), (.int .i64 i_83)], [])) q2)
noncomputable def seineref1_Join_B (l0 : List Int) : Option (Str × Bool) :=
  bnd (tloop (seineref1_Join_l1T l0) ([], 0)) fun e84_2 => elim e84_2
  (fun out_80 =>
   some (out_80, true))
  (fun p84 =>
  some ([], false))
def seineref1_Join_ds : Decs := { decs := [(15, (.ref (.int .i64))), (46, (.ref (.int .i64))), (54, (.ref (.int .i64))), (65, (.ref (.int .i64))), (73, .str), (74, .str)], ups := [], loops := [(3, [], ⟨[(.sl false), .str, .bool, .str, (.int .i64)], [], [(some 0, [(.sl false), .str, .bool, .str, (.int .i64)], []), (none, [(.sl false), .str, .bool, .str, (.int .i64)], [])]⟩)] }
set_option maxRecDepth 100000 in
theorem seineref1_Join_t1 (O : Orc) (LP : LBody → LBody) (l0 : List Int) : evalBodyD Tryd.prog (MT 8) seineref1_Join_ds Tryd.f8.ntmps O LP Tryd.f8 [(.slice (List.map (PV.int .i64) l0) [] false)] [] = seineref1_Join_T1 O LP l0 := by kernel_rfl
theorem seineref1_Join_l1_ok (l0 : List Int) : ∀ st l u, seineref1_Join_l1R l0 st l u → Imp (seineref1_Join_l1T l0 st) (seineref1_Join_l1 O loopLim l u) (StepR (seineref1_Join_l1R l0) (seineref1_Join_l1X l0)) := by
  rintro ⟨out_40, i_41⟩ l u ⟨rfl, rfl⟩
  simp only [seineref1_Join_l1T, seineref1_Join_l1]
  refine Imp.chk rfl (Imp.chk rfl ?_)
  try simp only [evs, tys]
  refine Imp.cnd ?_ ?_
  · refine Imp.op (f := fun a => .ref ((PV.int .i64) a)) (fun a h => op_ix (enc := (PV.int .i64)) (by first | rfl | simp only [evs, tys, evl]) ⟨by first | rfl | simp only [evs, tys, evc], by decide⟩ h) (fun a => rfl) fun y43 hy43 => ?_
    try simp only [evs, tys]
    refine Imp.cnd ?_ ?_
    · exact Imp.some (StepR.ret ⟨out_40, i_41, by first | rfl | simp only [evs, tys, evl, elim_inl, elim_inr]⟩)
    · refine Imp.cnd ?_ ?_
      · exact Imp.some (StepR.ret ⟨out_40, i_41, by first | rfl | simp only [evs, tys, evl, elim_inl, elim_inr]⟩)
      · refine Imp.cnd ?_ ?_
        · refine Imp.cnd ?_ ?_
          · exact Imp.some (StepR.ret ⟨out_40, i_41, by first | rfl | simp only [evs, tys, evl, elim_inl, elim_inr]⟩)
          · refine Imp.cnd ?_ ?_
            · refine Imp.cnd ?_ ?_
              · refine Imp.cnd ?_ ?_
                · exact Imp.some (StepR.ret ⟨out_40, i_41, by first | rfl | simp only [evs, tys, evl, elim_inl, elim_inr]⟩)
                · refine Imp.op (f := fun a => .ref ((PV.int .i64) a)) (fun a h => op_ix (enc := (PV.int .i64)) (by first | rfl | simp only [evs, tys, evl]) ⟨by first | rfl | simp only [evs, tys, evc], by decide⟩ h) (fun a => rfl) fun y45 hy45 => ?_
                  try simp only [evs, tys]
                  refine Imp.cnd ?_ ?_
                  · exact Imp.some (StepR.ret ⟨out_40, i_41, by first | rfl | simp only [evs, tys, evl, elim_inl, elim_inr]⟩)
                  · refine Imp.op (f := fun a => .ref ((PV.int .i64) a)) (fun a h => op_ix (enc := (PV.int .i64)) (by first | rfl | simp only [evs, tys, evl]) ⟨by first | rfl | simp only [evs, tys, evc], by decide⟩ h) (fun a => rfl) fun y47 hy47 => ?_
                    try simp only [evs, tys]
                    refine Imp.cnd ?_ ?_
                    · exact Imp.some (StepR.ret ⟨out_40, i_41, by first | rfl | simp only [evs, tys, evl, elim_inl, elim_inr]⟩)
                    · refine Imp.op (f := fun a => .ref ((PV.int .i64) a)) (fun a h => op_ix (enc := (PV.int .i64)) (by first | rfl | simp only [evs, tys, evl]) ⟨by first | rfl | simp only [evs, tys, evc], by decide⟩ h) (fun a => rfl) fun y49 hy49 => ?_
                      try simp only [evs, tys]
                      refine Imp.call (f := seineref1_PutE) rfl (fun a h => by first | exact seineref1_Put_spec h | simpa only [evs, tys, evl] using seineref1_Put_spec h) (fun a => by first | rfl | simp only [seineref1_PutE, evk, chks]) fun y51 hy51 => ?_
                      try simp only [seineref1_PutE, evs, tys]
                      refine Imp.op (f := fun a => .str a) (fun a h => op_cat h) (fun a => rfl) fun y53 hy53 => ?_
                      try simp only [evs, tys]
                      exact Imp.some (StepR.next ⟨by first | rfl | simp only [evs, tys, evl], rfl⟩)
              · refine Imp.call (f := seineref1_PutE) rfl (fun a h => by first | exact seineref1_Put_spec h | simpa only [evs, tys, evl] using seineref1_Put_spec h) (fun a => by first | rfl | simp only [seineref1_PutE, evk, chks]) fun y55 hy55 => ?_
                try simp only [seineref1_PutE, evs, tys]
                refine Imp.op (f := fun a => .str a) (fun a h => op_cat h) (fun a => rfl) fun y57 hy57 => ?_
                try simp only [evs, tys]
                exact Imp.some (StepR.next ⟨by first | rfl | simp only [evs, tys, evl], rfl⟩)
            · refine Imp.call (f := seineref1_PutE) rfl (fun a h => by first | exact seineref1_Put_spec h | simpa only [evs, tys, evl] using seineref1_Put_spec h) (fun a => by first | rfl | simp only [seineref1_PutE, evk, chks]) fun y59 hy59 => ?_
              try simp only [seineref1_PutE, evs, tys]
              refine Imp.op (f := fun a => .str a) (fun a h => op_cat h) (fun a => rfl) fun y61 hy61 => ?_
              try simp only [evs, tys]
              exact Imp.some (StepR.next ⟨by first | rfl | simp only [evs, tys, evl], rfl⟩)
        · refine Imp.cnd ?_ ?_
          · refine Imp.cnd ?_ ?_
            · refine Imp.cnd ?_ ?_
              · exact Imp.some (StepR.ret ⟨out_40, i_41, by first | rfl | simp only [evs, tys, evl, elim_inl, elim_inr]⟩)
              · refine Imp.op (f := fun a => .ref ((PV.int .i64) a)) (fun a h => op_ix (enc := (PV.int .i64)) (by first | rfl | simp only [evs, tys, evl]) ⟨by first | rfl | simp only [evs, tys, evc], by decide⟩ h) (fun a => rfl) fun y63 hy63 => ?_
                try simp only [evs, tys]
                refine Imp.cnd ?_ ?_
                · exact Imp.some (StepR.ret ⟨out_40, i_41, by first | rfl | simp only [evs, tys, evl, elim_inl, elim_inr]⟩)
                · refine Imp.op (f := fun a => .ref ((PV.int .i64) a)) (fun a h => op_ix (enc := (PV.int .i64)) (by first | rfl | simp only [evs, tys, evl]) ⟨by first | rfl | simp only [evs, tys, evc], by decide⟩ h) (fun a => rfl) fun y65 hy65 => ?_
                  try simp only [evs, tys]
                  refine Imp.cnd ?_ ?_
                  · exact Imp.some (StepR.ret ⟨out_40, i_41, by first | rfl | simp only [evs, tys, evl, elim_inl, elim_inr]⟩)
                  · refine Imp.op (f := fun a => .ref ((PV.int .i64) a)) (fun a h => op_ix (enc := (PV.int .i64)) (by first | rfl | simp only [evs, tys, evl]) ⟨by first | rfl | simp only [evs, tys, evc], by decide⟩ h) (fun a => rfl) fun y67 hy67 => ?_
                    try simp only [evs, tys]
                    refine Imp.call (f := seineref1_PutE) rfl (fun a h => by first | exact seineref1_Put_spec h | simpa only [evs, tys, evl] using seineref1_Put_spec h) (fun a => by first | rfl | simp only [seineref1_PutE, evk, chks]) fun y69 hy69 => ?_
                    try simp only [seineref1_PutE, evs, tys]
                    refine Imp.op (f := fun a => .str a) (fun a h => op_cat h) (fun a => rfl) fun y71 hy71 => ?_
                    try simp only [evs, tys]
                    exact Imp.some (StepR.next ⟨by first | rfl | simp only [evs, tys, evl], rfl⟩)
            · refine Imp.call (f := seineref1_PutE) rfl (fun a h => by first | exact seineref1_Put_spec h | simpa only [evs, tys, evl] using seineref1_Put_spec h) (fun a => by first | rfl | simp only [seineref1_PutE, evk, chks]) fun y73 hy73 => ?_
              try simp only [seineref1_PutE, evs, tys]
              refine Imp.op (f := fun a => .str a) (fun a h => op_cat h) (fun a => rfl) fun y75 hy75 => ?_
              try simp only [evs, tys]
              exact Imp.some (StepR.next ⟨by first | rfl | simp only [evs, tys, evl], rfl⟩)
          · refine Imp.call (f := seineref1_PutE) rfl (fun a h => by first | exact seineref1_Put_spec h | simpa only [evs, tys, evl] using seineref1_Put_spec h) (fun a => by first | rfl | simp only [seineref1_PutE, evk, chks]) fun y77 hy77 => ?_
            try simp only [seineref1_PutE, evs, tys]
            refine Imp.op (f := fun a => .str a) (fun a h => op_cat h) (fun a => rfl) fun y79 hy79 => ?_
            try simp only [evs, tys]
            exact Imp.some (StepR.next ⟨by first | rfl | simp only [evs, tys, evl], rfl⟩)
  · exact Imp.some (StepR.brk ⟨i_41, by first | rfl | simp only [evs, tys, evl, elim_inl, elim_inr]⟩)
theorem seineref1_Join_imp (l0 : List Int) : Imp (seineref1_Join_B l0) (seineref1_Join_T1 O loopLim l0) (fun r v => v = (seineref1_JoinE r, [])) := by
  simp only [seineref1_Join_B, seineref1_Join_T1]
  try simp only [evs, tys]
  refine Imp.bnd (Imp.loop (seineref1_Join_l1_ok l0) ⟨by first | rfl | simp only [evs, tys, evl], rfl⟩) ?_
  rintro (out_80 | p) vy84 hy84
  · try simp only [elim_inl, elim_inr]
    obtain ⟨i_81, rfl⟩ := hy84
    refine Imp.exHit rfl (Imp.chk rfl (Imp.chk rfl ?_))
    try simp only [evs, tys]
    exact Imp.some (by first | rfl | simp only [seineref1_JoinE, evs, tys, evl])
  · try simp only [elim_inl, elim_inr]
    obtain ⟨out_82, i_83, rfl⟩ := hy84
    refine Imp.exMiss rfl ?_
    refine Imp.exHit rfl (Imp.chk rfl (Imp.chk rfl ?_))
    try simp only [evs, tys]
    exact Imp.some (by first | rfl | simp only [seineref1_JoinE, evs, tys, evl])
theorem seineref1_Join_run {l0 : List Int} {r : Str × Bool} (h : seineref1_Join_B l0 = some r) : seineref1_Join l0 = some r := by
  obtain ⟨v, hv, rfl⟩ := seineref1_Join_imp l0 r h
  exact tO_of (pair_inj seineref1_JoinEj) (OL_runD seineref1_Join_ds rfl rfl Tryd.func8 ((seineref1_Join_t1 _ _ l0).trans hv))

def seinekeep_IntsStay_T1 (O : Orc) (LP : LBody → LBody) (c : List Int) (cb : List Int) (l0 : List Int) : Option (PV × UP) :=
  callp O 14 [(.slice (List.map (PV.int .i64) c) [] false), (.slice (List.map (PV.int .i64) l0) [] false)] fun x1 => cnd (chk .bool x1)
  (cnd (boolV x1)
   (bnd (slcHi 1 (.slice (List.map (PV.int .i64) c) (List.map (PV.int .i64) cb) false) (.int .i64 (IntKind.wrap .i64 ((List.length (List.map (PV.int .i64) c) : Int) + 1)))) fun x3 => cnd (chk (.slb false) x3)
   (bnd (ix 1 (.slice (esV x3) (bsV x3) false) (.int .i64 (List.length (List.map (PV.int .i64) c) : Int))) fun x5 => cnd (chk (.ref (.int .i64)) x5)
   (some ((.bool ((intV (refV x5)) == 77)), [])) none) none)
   (some ((.bool false), []))) none
noncomputable def seinekeep_IntsStay_B (c : List Int) (cb : List Int) (l0 : List Int) : Option Bool :=
  bnd (seinekeep_SameInts c l0) fun y2 =>
  cnd y2
   (bnd (tslb (c : List Int) cb 0 (IntKind.wrap .i64 ((List.length c : Int) + 1))) fun y4 =>
   bnd (nthI y4.1 (List.length c : Int)) fun y6 =>
   some (y6 == 77))
   (some false)
def seinekeep_IntsStay_ds : Decs := { decs := [(7, .bool), (13, (.slb false)), (16, (.ref (.int .i64)))], ups := [], loops := [] }
set_option maxRecDepth 100000 in
theorem seinekeep_IntsStay_t1 (O : Orc) (LP : LBody → LBody) (c : List Int) (cb : List Int) (l0 : List Int) : evalBodyD Tryd.prog (MT 9) seinekeep_IntsStay_ds Tryd.f9.ntmps O LP Tryd.f9 [(.slice (List.map (PV.int .i64) c) (List.map (PV.int .i64) cb) false), (.slice (List.map (PV.int .i64) l0) [] false)] [] = seinekeep_IntsStay_T1 O LP c cb l0 := by kernel_rfl
theorem seinekeep_IntsStay_imp (c : List Int) (cb : List Int) (l0 : List Int) : Imp (seinekeep_IntsStay_B c cb l0) (seinekeep_IntsStay_T1 O loopLim c cb l0) (fun r v => v = (seinekeep_IntsStayE r, [])) := by
  simp only [seinekeep_IntsStay_B, seinekeep_IntsStay_T1]
  try simp only [evs, tys]
  refine Imp.call (f := seinekeep_SameIntsE) rfl (fun a h => by first | exact seinekeep_SameInts_spec h | simpa only [evs, tys, evl] using seinekeep_SameInts_spec h) (fun a => by first | rfl | simp only [seinekeep_SameIntsE, evk, chks]) fun y2 hy2 => ?_
  try simp only [seinekeep_SameIntsE, evs, tys]
  refine Imp.cnd ?_ ?_
  · refine Imp.op (f := fun a => .slice (List.map (PV.int .i64) a.1) (List.map (PV.int .i64) a.2) false) (fun a h => op_slbHi (enc := (PV.int .i64)) (by first | rfl | simp only [evs, tys, evl]) (by first | rfl | exact List.map_nil.symm | simp only [evs, tys, evl]) (fun a => by first | rfl | simp only [evs, tys, evc]) h) (fun a => rfl) fun y4 hy4 => ?_
    try simp only [evs, tys]
    refine Imp.op (f := fun a => .ref ((PV.int .i64) a)) (fun a h => op_ix (enc := (PV.int .i64)) (by first | rfl | simp only [evs, tys, evl]) ⟨by first | rfl | simp only [evs, tys, evc], by decide⟩ h) (fun a => rfl) fun y6 hy6 => ?_
    try simp only [evs, tys]
    exact Imp.some (by first | rfl | simp only [seinekeep_IntsStayE, evs, tys, evl])
  · exact Imp.some (by first | rfl | simp only [seinekeep_IntsStayE, evs, tys, evl])
theorem seinekeep_IntsStay_run {c : List Int} {cb : List Int} {l0 : List Int} {r : Bool} (h : seinekeep_IntsStay_B c cb l0 = some r) : seinekeep_IntsStay c cb l0 = some r := by
  obtain ⟨v, hv, rfl⟩ := seinekeep_IntsStay_imp c cb l0 r h
  exact tO_of (pair_inj seinekeep_IntsStayEj) (OL_runD seinekeep_IntsStay_ds rfl rfl Tryd.func9 ((seinekeep_IntsStay_t1 _ _ c cb l0).trans hv))

def utf8_AppendRune_T1 (O : Orc) (LP : LBody → LBody) (p0 : List Int) (r0 : Int) : Option (PV × UP) :=
  cnd (decide ((IntKind.wrap .u32 r0) ≤ 127))
   (bnd (apd 1 (.slice (List.map (PV.int .u8) p0) [] true) (.slice [(.int .u8 (IntKind.wrap .u8 r0))] [] true)) fun x1 => cnd (chk (.sl true) x1)
   (some ((.slice (esV x1) [] true), [])) none)
   (callp O 18 [(.slice (List.map (PV.int .u8) p0) [] true), (.int .i32 r0)] fun x3 => cnd (chk (.sl true) x3)
   (some ((.slice (esV x3) [] true), [])) none)
noncomputable def utf8_AppendRune_B (p0 : List Int) (r0 : Int) : Option (List Int) :=
  cnd (decide ((IntKind.wrap .u32 r0) ≤ 127))
   (bnd (tapp p0 [(IntKind.wrap .u8 r0)]) fun y2 =>
   some y2)
   (bnd (utf8_appendRuneNonASCII p0 r0) fun y4 =>
   some y4)
def utf8_AppendRune_ds : Decs := { decs := [(12, (.sl true)), (15, (.sl true))], ups := [], loops := [] }
set_option maxRecDepth 100000 in
theorem utf8_AppendRune_t1 (O : Orc) (LP : LBody → LBody) (p0 : List Int) (r0 : Int) : evalBodyD Tryd.prog (MT 12) utf8_AppendRune_ds Tryd.f12.ntmps O LP Tryd.f12 [(.slice (List.map (PV.int .u8) p0) [] true), (.int .i32 r0)] [] = utf8_AppendRune_T1 O LP p0 r0 := by kernel_rfl
theorem utf8_AppendRune_imp (p0 : List Int) (r0 : Int) : Imp (utf8_AppendRune_B p0 r0) (utf8_AppendRune_T1 O loopLim p0 r0) (fun r v => v = (utf8_AppendRuneE r, [])) := by
  simp only [utf8_AppendRune_B, utf8_AppendRune_T1]
  try simp only [evs, tys]
  refine Imp.cnd ?_ ?_
  · refine Imp.op (f := fun a => .slice (List.map (PV.int .u8) a) [] true) (fun a h => op_apd (enc := (PV.int .u8)) (by first | rfl | simp only [evs, tys, evl]) (by first | rfl | simp only [evs, tys, evl]) (fun a => by first | rfl | simp only [evs, tys, evc]) h) (fun a => rfl) fun y2 hy2 => ?_
    try simp only [evs, tys]
    exact Imp.some (by first | rfl | simp only [utf8_AppendRuneE, evs, tys, evl])
  · refine Imp.call (f := utf8_appendRuneNonASCIIE) rfl (fun a h => by first | exact utf8_appendRuneNonASCII_spec h | simpa only [evs, tys, evl] using utf8_appendRuneNonASCII_spec h) (fun a => by first | rfl | simp only [utf8_appendRuneNonASCIIE, evk, chks]) fun y4 hy4 => ?_
    try simp only [utf8_appendRuneNonASCIIE, evs, tys]
    exact Imp.some (by first | rfl | simp only [utf8_AppendRuneE, evs, tys, evl])
theorem utf8_AppendRune_run {p0 : List Int} {r0 : Int} {r : List Int} (h : utf8_AppendRune_B p0 r0 = some r) : utf8_AppendRune p0 r0 = some r := by
  obtain ⟨v, hv, rfl⟩ := utf8_AppendRune_imp p0 r0 r h
  exact tO_of (pair_inj utf8_AppendRuneEj) (OL_runD utf8_AppendRune_ds rfl rfl Tryd.func12 ((utf8_AppendRune_t1 _ _ p0 r0).trans hv))

def seineref1_Put_T1 (O : Orc) (LP : LBody → LBody) (c : Int) : Option (PV × UP) :=
  cnd (decide (c < 128))
   (bnd (toStr (.slice [(.int .u8 (IntKind.wrap .u8 c))] [] true)) fun x1 => cnd (chk .str x1)
   (some ((.str (strV x1)), [])) none)
   (cnd (decide (c < 2048))
    (bnd (toStr (.slice [(.int .u8 (IntKind.wrap .u8 (bits .or .i64 192 (Int.fdiv c (2 ^ min (Int.toNat 6) 64))))), (.int .u8 (IntKind.wrap .u8 (bits .or .i64 128 (bits .and .i64 c 63))))] [] true)) fun x3 => cnd (chk .str x3)
    (some ((.str (strV x3)), [])) none)
    (cnd (decide (c < 65536))
     (bnd (toStr (.slice [(.int .u8 (IntKind.wrap .u8 (bits .or .i64 224 (Int.fdiv c (2 ^ min (Int.toNat 12) 64))))), (.int .u8 (IntKind.wrap .u8 (bits .or .i64 128 (bits .and .i64 (Int.fdiv c (2 ^ min (Int.toNat 6) 64)) 63)))), (.int .u8 (IntKind.wrap .u8 (bits .or .i64 128 (bits .and .i64 c 63))))] [] true)) fun x5 => cnd (chk .str x5)
     (some ((.str (strV x5)), [])) none)
     (bnd (toStr (.slice [(.int .u8 (IntKind.wrap .u8 (bits .or .i64 240 (Int.fdiv c (2 ^ min (Int.toNat 18) 64))))), (.int .u8 (IntKind.wrap .u8 (bits .or .i64 128 (bits .and .i64 (Int.fdiv c (2 ^ min (Int.toNat 12) 64)) 63)))), (.int .u8 (IntKind.wrap .u8 (bits .or .i64 128 (bits .and .i64 (Int.fdiv c (2 ^ min (Int.toNat 6) 64)) 63)))), (.int .u8 (IntKind.wrap .u8 (bits .or .i64 128 (bits .and .i64 c 63))))] [] true)) fun x7 => cnd (chk .str x7)
     (some ((.str (strV x7)), [])) none)))
noncomputable def seineref1_Put_B (c : Int) : Option Str :=
  cnd (decide (c < 128))
   (bnd (some (bytesT [(IntKind.wrap .u8 c)])) fun y2 =>
   some y2)
   (cnd (decide (c < 2048))
    (bnd (some (bytesT [(IntKind.wrap .u8 (bits .or .i64 192 (Int.fdiv c (2 ^ min (Int.toNat 6) 64)))), (IntKind.wrap .u8 (bits .or .i64 128 (bits .and .i64 c 63)))])) fun y4 =>
    some y4)
    (cnd (decide (c < 65536))
     (bnd (some (bytesT [(IntKind.wrap .u8 (bits .or .i64 224 (Int.fdiv c (2 ^ min (Int.toNat 12) 64)))), (IntKind.wrap .u8 (bits .or .i64 128 (bits .and .i64 (Int.fdiv c (2 ^ min (Int.toNat 6) 64)) 63))), (IntKind.wrap .u8 (bits .or .i64 128 (bits .and .i64 c 63)))])) fun y6 =>
     some y6)
     (bnd (some (bytesT [(IntKind.wrap .u8 (bits .or .i64 240 (Int.fdiv c (2 ^ min (Int.toNat 18) 64)))), (IntKind.wrap .u8 (bits .or .i64 128 (bits .and .i64 (Int.fdiv c (2 ^ min (Int.toNat 12) 64)) 63))), (IntKind.wrap .u8 (bits .or .i64 128 (bits .and .i64 (Int.fdiv c (2 ^ min (Int.toNat 6) 64)) 63))), (IntKind.wrap .u8 (bits .or .i64 128 (bits .and .i64 c 63)))])) fun y8 =>
     some y8)))
def seineref1_Put_ds : Decs := { decs := [(9, .str), (22, .str), (40, .str), (60, .str)], ups := [], loops := [] }
set_option maxRecDepth 100000 in
theorem seineref1_Put_t1 (O : Orc) (LP : LBody → LBody) (c : Int) : evalBodyD Tryd.prog (MT 13) seineref1_Put_ds Tryd.f13.ntmps O LP Tryd.f13 [(.int .i64 c)] [] = seineref1_Put_T1 O LP c := by kernel_rfl
theorem seineref1_Put_imp (c : Int) : Imp (seineref1_Put_B c) (seineref1_Put_T1 O loopLim c) (fun r v => v = (seineref1_PutE r, [])) := by
  simp only [seineref1_Put_B, seineref1_Put_T1]
  try simp only [evs, tys]
  refine Imp.cnd ?_ ?_
  · refine Imp.op (f := fun a => .str a) (fun a h => op_toStr (by first | rfl | simp only [evs, tys, evl]) h) (fun a => rfl) fun y2 hy2 => ?_
    try simp only [evs, tys]
    exact Imp.some (by first | rfl | simp only [seineref1_PutE, evs, tys, evl])
  · refine Imp.cnd ?_ ?_
    · refine Imp.op (f := fun a => .str a) (fun a h => op_toStr (by first | rfl | simp only [evs, tys, evl]) h) (fun a => rfl) fun y4 hy4 => ?_
      try simp only [evs, tys]
      exact Imp.some (by first | rfl | simp only [seineref1_PutE, evs, tys, evl])
    · refine Imp.cnd ?_ ?_
      · refine Imp.op (f := fun a => .str a) (fun a h => op_toStr (by first | rfl | simp only [evs, tys, evl]) h) (fun a => rfl) fun y6 hy6 => ?_
        try simp only [evs, tys]
        exact Imp.some (by first | rfl | simp only [seineref1_PutE, evs, tys, evl])
      · refine Imp.op (f := fun a => .str a) (fun a h => op_toStr (by first | rfl | simp only [evs, tys, evl]) h) (fun a => rfl) fun y8 hy8 => ?_
        try simp only [evs, tys]
        exact Imp.some (by first | rfl | simp only [seineref1_PutE, evs, tys, evl])
theorem seineref1_Put_run {c : Int} {r : Str} (h : seineref1_Put_B c = some r) : seineref1_Put c = some r := by
  obtain ⟨v, hv, rfl⟩ := seineref1_Put_imp c r h
  exact tO_of (pair_inj seineref1_PutEj) (OL_runD seineref1_Put_ds rfl rfl Tryd.func13 ((seineref1_Put_t1 _ _ c).trans hv))

def seinekeep_SameInts_l1 (O : Orc) (LP : LBody → LBody) : LBody := fun s1 s1u => cnd (chkL [(.sl false), (.sl false), .bool, (.int .i64)] s1) (cnd (chkU [] s1u)
  (cnd (decide ((intV (gt s1 3)) < (List.length (esV (gt s1 0)) : Int)))
   (bnd (ix 1 (.slice (esV (gt s1 0)) [] false) (.int .i64 (intV (gt s1 3)))) fun x7 => cnd (chk (.ref (.int .i64)) x7)
   (bnd (ix 1 (.slice (esV (gt s1 1)) [] false) (.int .i64 (intV (gt s1 3)))) fun x9 => cnd (chk (.ref (.int .i64)) x9)
   (cnd ((intV (refV x7)) != (intV (refV x9)))
    (some (.ret, [(.slice (esV (gt s1 0)) [] false), (.slice (esV (gt s1 1)) [] false), (.bool false), (.int .i64 (intV (gt s1 3)))], []))
    (some (.nrm, [(.slice (esV (gt s1 0)) [] false), (.slice (esV (gt s1 1)) [] false), (.bool (boolV (gt s1 2))), (.int .i64 (IntKind.wrap .i64 ((intV (gt s1 3)) + 1)))], []))) none) none)
   (some (.brk 0, [(.slice (esV (gt s1 0)) [] false), (.slice (esV (gt s1 1)) [] false), (.bool (boolV (gt s1 2))), (.int .i64 (intV (gt s1 3)))], []))) none) none
def seinekeep_SameInts_T1 (O : Orc) (LP : LBody → LBody) (a : List Int) (b : List Int) : Option (PV × UP) :=
  cnd ((List.length (List.map (PV.int .i64) a) : Int) != (List.length (List.map (PV.int .i64) b) : Int))
   (some ((.bool false), []))
   (bnd (LP (seinekeep_SameInts_l1 O LP) [(.slice (List.map (PV.int .i64) a) [] false), (.slice (List.map (PV.int .i64) b) [] false), (.bool false), (.int .i64 0)] []) fun y13 =>
   exIs y13.1 (some 0) (cnd (chkL [(.sl false), (.sl false), .bool, (.int .i64)] y13.2.1) (cnd (chkU [] y13.2.2)
    (some ((.bool true), [])) none) none)
   (exIs y13.1 none (cnd (chkL [(.sl false), (.sl false), .bool, (.int .i64)] y13.2.1) (cnd (chkU [] y13.2.2)
    (some ((.bool (boolV (gt y13.2.1 2))), [])) none) none)
   (none)))
noncomputable def seinekeep_SameInts_l1T (a : List Int) (b : List Int) : Int → Option (Int ⊕ (Unit ⊕ Unit))
  | i_6 =>
  cnd (decide (i_6 < (List.length a : Int)))
   (bnd (nthI a i_6) fun y8 =>
   bnd (nthI b i_6) fun y10 =>
   cnd (y8 != y10)
    (some (.inr (.inr ())))
    (some (.inl (IntKind.wrap .i64 (i_6 + 1)))))
   (some (.inr (.inl ())))
abbrev seinekeep_SameInts_l1R (a : List Int) (b : List Int) (st : Int) (l : List PV) (u : UP) : Prop := l = [(.slice (List.map (PV.int .i64) a) [] false), (.slice (List.map (PV.int .i64) b) [] false), (.bool false), (.int .i64 st)] ∧ u = []
abbrev seinekeep_SameInts_l1X (a : List Int) (b : List Int) (p : Unit ⊕ Unit) (r : Ex × List PV × UP) : Prop := elim p (fun (p : Unit) => ∃ (i_11 : Int), r = (Ex.brk 0, [(.slice (List.map (PV.int .i64) a) [] false), (.slice (List.map (PV.int .i64) b) [] false), (.bool false), (.int .i64 i_11)], [])) (fun q2 => (fun (p : Unit) => ∃ (i_12 : Int), r = (Ex.ret, [(.slice (List.map (PV.int .i64) a) [] false), (.slice (List.map (PV.int .i64) b) [] false), (.bool false), (.int .i64 i_12)], [])) q2)
noncomputable def seinekeep_SameInts_B (a : List Int) (b : List Int) : Option Bool :=
  cnd ((List.length a : Int) != (List.length b : Int))
   (some false)
   (bnd (tloop (seinekeep_SameInts_l1T a b) 0) fun e13_2 => elim e13_2
   (fun p13 =>
    some true)
   (fun p13 =>
   some false))
def seinekeep_SameInts_ds : Decs := { decs := [(19, (.ref (.int .i64))), (23, (.ref (.int .i64)))], ups := [], loops := [(4, [], ⟨[(.sl false), (.sl false), .bool, (.int .i64)], [], [(some 0, [(.sl false), (.sl false), .bool, (.int .i64)], []), (none, [(.sl false), (.sl false), .bool, (.int .i64)], [])]⟩)] }
set_option maxRecDepth 100000 in
theorem seinekeep_SameInts_t1 (O : Orc) (LP : LBody → LBody) (a : List Int) (b : List Int) : evalBodyD Tryd.prog (MT 14) seinekeep_SameInts_ds Tryd.f14.ntmps O LP Tryd.f14 [(.slice (List.map (PV.int .i64) a) [] false), (.slice (List.map (PV.int .i64) b) [] false)] [] = seinekeep_SameInts_T1 O LP a b := by kernel_rfl
theorem seinekeep_SameInts_l1_ok (a : List Int) (b : List Int) : ∀ st l u, seinekeep_SameInts_l1R a b st l u → Imp (seinekeep_SameInts_l1T a b st) (seinekeep_SameInts_l1 O loopLim l u) (StepR (seinekeep_SameInts_l1R a b) (seinekeep_SameInts_l1X a b)) := by
  rintro i_6 l u ⟨rfl, rfl⟩
  simp only [seinekeep_SameInts_l1T, seinekeep_SameInts_l1]
  refine Imp.chk rfl (Imp.chk rfl ?_)
  try simp only [evs, tys]
  refine Imp.cnd ?_ ?_
  · refine Imp.op (f := fun a => .ref ((PV.int .i64) a)) (fun a h => op_ix (enc := (PV.int .i64)) (by first | rfl | simp only [evs, tys, evl]) ⟨by first | rfl | simp only [evs, tys, evc], by decide⟩ h) (fun a => rfl) fun y8 hy8 => ?_
    try simp only [evs, tys]
    refine Imp.op (f := fun a => .ref ((PV.int .i64) a)) (fun a h => op_ix (enc := (PV.int .i64)) (by first | rfl | simp only [evs, tys, evl]) ⟨by first | rfl | simp only [evs, tys, evc], by decide⟩ h) (fun a => rfl) fun y10 hy10 => ?_
    try simp only [evs, tys]
    refine Imp.cnd ?_ ?_
    · exact Imp.some (StepR.ret ⟨i_6, by first | rfl | simp only [evs, tys, evl, elim_inl, elim_inr]⟩)
    · exact Imp.some (StepR.next ⟨by first | rfl | simp only [evs, tys, evl], rfl⟩)
  · exact Imp.some (StepR.brk ⟨i_6, by first | rfl | simp only [evs, tys, evl, elim_inl, elim_inr]⟩)
theorem seinekeep_SameInts_imp (a : List Int) (b : List Int) : Imp (seinekeep_SameInts_B a b) (seinekeep_SameInts_T1 O loopLim a b) (fun r v => v = (seinekeep_SameIntsE r, [])) := by
  simp only [seinekeep_SameInts_B, seinekeep_SameInts_T1]
  try simp only [evs, tys]
  refine Imp.cnd ?_ ?_
  · exact Imp.some (by first | rfl | simp only [seinekeep_SameIntsE, evs, tys, evl])
  · refine Imp.bnd (Imp.loop (seinekeep_SameInts_l1_ok a b) ⟨by first | rfl | simp only [evs, tys, evl], rfl⟩) ?_
    rintro (p | p) vy13 hy13
    · try simp only [elim_inl, elim_inr]
      obtain ⟨i_11, rfl⟩ := hy13
      refine Imp.exHit rfl (Imp.chk rfl (Imp.chk rfl ?_))
      try simp only [evs, tys]
      exact Imp.some (by first | rfl | simp only [seinekeep_SameIntsE, evs, tys, evl])
    · try simp only [elim_inl, elim_inr]
      obtain ⟨i_12, rfl⟩ := hy13
      refine Imp.exMiss rfl ?_
      refine Imp.exHit rfl (Imp.chk rfl (Imp.chk rfl ?_))
      try simp only [evs, tys]
      exact Imp.some (by first | rfl | simp only [seinekeep_SameIntsE, evs, tys, evl])
theorem seinekeep_SameInts_run {a : List Int} {b : List Int} {r : Bool} (h : seinekeep_SameInts_B a b = some r) : seinekeep_SameInts a b = some r := by
  obtain ⟨v, hv, rfl⟩ := seinekeep_SameInts_imp a b r h
  exact tO_of (pair_inj seinekeep_SameIntsEj) (OL_runD seinekeep_SameInts_ds rfl rfl Tryd.func14 ((seinekeep_SameInts_t1 _ _ a b).trans hv))
end Go.Proofs.YtlaomadhhdcflaaDoor

/- Printed by symgen.py: typed functions of this seat, and why they tell what the program does. -/
set_option linter.unusedVariables false
set_option linter.unusedSimpArgs false
open Go Go.Ev Go.Ev.PV
namespace Go.Proofs.YtlaomadhhdcflaaDoor
def utf8_appendRuneNonASCII_T1 (O : Orc) (LP : LBody → LBody) (p0 : List Int) (r0 : Int) : Option (PV × UP) :=
  cnd (decide ((IntKind.wrap .u32 r0) ≤ 2047))
   (bnd (apd 1 (.slice (List.map (PV.int .u8) p0) [] true) (.slice [(.int .u8 (bits .or .u8 192 (IntKind.wrap .u8 (Int.fdiv r0 (2 ^ min (Int.toNat 6) 32))))), (.int .u8 (bits .or .u8 128 (bits .and .u8 (IntKind.wrap .u8 r0) 63)))] [] true)) fun x1 => cnd (chk (.sl true) x1)
   (some ((.slice (esV x1) [] true), [])) none)
   (cnd (decide ((IntKind.wrap .u32 r0) < 55296))
    (bnd (apd 1 (.slice (List.map (PV.int .u8) p0) [] true) (.slice [(.int .u8 (bits .or .u8 224 (IntKind.wrap .u8 (Int.fdiv r0 (2 ^ min (Int.toNat 12) 32))))), (.int .u8 (bits .or .u8 128 (bits .and .u8 (IntKind.wrap .u8 (Int.fdiv r0 (2 ^ min (Int.toNat 6) 32))) 63))), (.int .u8 (bits .or .u8 128 (bits .and .u8 (IntKind.wrap .u8 r0) 63)))] [] true)) fun x3 => cnd (chk (.sl true) x3)
    (some ((.slice (esV x3) [] true), [])) none)
    (cnd (decide ((57343 : Int) < (IntKind.wrap .u32 r0)))
     (cnd (decide ((IntKind.wrap .u32 r0) ≤ 65535))
      (bnd (apd 1 (.slice (List.map (PV.int .u8) p0) [] true) (.slice [(.int .u8 (bits .or .u8 224 (IntKind.wrap .u8 (Int.fdiv r0 (2 ^ min (Int.toNat 12) 32))))), (.int .u8 (bits .or .u8 128 (bits .and .u8 (IntKind.wrap .u8 (Int.fdiv r0 (2 ^ min (Int.toNat 6) 32))) 63))), (.int .u8 (bits .or .u8 128 (bits .and .u8 (IntKind.wrap .u8 r0) 63)))] [] true)) fun x5 => cnd (chk (.sl true) x5)
      (some ((.slice (esV x5) [] true), [])) none)
      (cnd (decide ((IntKind.wrap .u32 r0) > 65535))
       (cnd (decide ((IntKind.wrap .u32 r0) ≤ 1114111))
        (bnd (apd 1 (.slice (List.map (PV.int .u8) p0) [] true) (.slice [(.int .u8 (bits .or .u8 240 (IntKind.wrap .u8 (Int.fdiv r0 (2 ^ min (Int.toNat 18) 32))))), (.int .u8 (bits .or .u8 128 (bits .and .u8 (IntKind.wrap .u8 (Int.fdiv r0 (2 ^ min (Int.toNat 12) 32))) 63))), (.int .u8 (bits .or .u8 128 (bits .and .u8 (IntKind.wrap .u8 (Int.fdiv r0 (2 ^ min (Int.toNat 6) 32))) 63))), (.int .u8 (bits .or .u8 128 (bits .and .u8 (IntKind.wrap .u8 r0) 63)))] [] true)) fun x7 => cnd (chk (.sl true) x7)
        (some ((.slice (esV x7) [] true), [])) none)
        (bnd (apd 1 (.slice (List.map (PV.int .u8) p0) [] true) (.slice [(.int .u8 239), (.int .u8 191), (.int .u8 189)] [] true)) fun x9 => cnd (chk (.sl true) x9)
        (some ((.slice (esV x9) [] true), [])) none))
       (bnd (apd 1 (.slice (List.map (PV.int .u8) p0) [] true) (.slice [(.int .u8 239), (.int .u8 191), (.int .u8 189)] [] true)) fun x11 => cnd (chk (.sl true) x11)
       (some ((.slice (esV x11) [] true), [])) none)))
     (cnd (decide ((IntKind.wrap .u32 r0) > 65535))
      (cnd (decide ((IntKind.wrap .u32 r0) ≤ 1114111))
       (bnd (apd 1 (.slice (List.map (PV.int .u8) p0) [] true) (.slice [(.int .u8 (bits .or .u8 240 (IntKind.wrap .u8 (Int.fdiv r0 (2 ^ min (Int.toNat 18) 32))))), (.int .u8 (bits .or .u8 128 (bits .and .u8 (IntKind.wrap .u8 (Int.fdiv r0 (2 ^ min (Int.toNat 12) 32))) 63))), (.int .u8 (bits .or .u8 128 (bits .and .u8 (IntKind.wrap .u8 (Int.fdiv r0 (2 ^ min (Int.toNat 6) 32))) 63))), (.int .u8 (bits .or .u8 128 (bits .and .u8 (IntKind.wrap .u8 r0) 63)))] [] true)) fun x13 => cnd (chk (.sl true) x13)
       (some ((.slice (esV x13) [] true), [])) none)
       (bnd (apd 1 (.slice (List.map (PV.int .u8) p0) [] true) (.slice [(.int .u8 239), (.int .u8 191), (.int .u8 189)] [] true)) fun x15 => cnd (chk (.sl true) x15)
       (some ((.slice (esV x15) [] true), [])) none))
      (bnd (apd 1 (.slice (List.map (PV.int .u8) p0) [] true) (.slice [(.int .u8 239), (.int .u8 191), (.int .u8 189)] [] true)) fun x17 => cnd (chk (.sl true) x17)
      (some ((.slice (esV x17) [] true), [])) none))))
noncomputable def utf8_appendRuneNonASCII_B (p0 : List Int) (r0 : Int) : Option (List Int) :=
  cnd (decide ((IntKind.wrap .u32 r0) ≤ 2047))
   (bnd (tapp p0 [(bits .or .u8 192 (IntKind.wrap .u8 (Int.fdiv r0 (2 ^ min (Int.toNat 6) 32)))), (bits .or .u8 128 (bits .and .u8 (IntKind.wrap .u8 r0) 63))]) fun y2 =>
   some y2)
   (cnd (decide ((IntKind.wrap .u32 r0) < 55296))
    (bnd (tapp p0 [(bits .or .u8 224 (IntKind.wrap .u8 (Int.fdiv r0 (2 ^ min (Int.toNat 12) 32)))), (bits .or .u8 128 (bits .and .u8 (IntKind.wrap .u8 (Int.fdiv r0 (2 ^ min (Int.toNat 6) 32))) 63)), (bits .or .u8 128 (bits .and .u8 (IntKind.wrap .u8 r0) 63))]) fun y4 =>
    some y4)
    (cnd (decide ((57343 : Int) < (IntKind.wrap .u32 r0)))
     (cnd (decide ((IntKind.wrap .u32 r0) ≤ 65535))
      (bnd (tapp p0 [(bits .or .u8 224 (IntKind.wrap .u8 (Int.fdiv r0 (2 ^ min (Int.toNat 12) 32)))), (bits .or .u8 128 (bits .and .u8 (IntKind.wrap .u8 (Int.fdiv r0 (2 ^ min (Int.toNat 6) 32))) 63)), (bits .or .u8 128 (bits .and .u8 (IntKind.wrap .u8 r0) 63))]) fun y6 =>
      some y6)
      (cnd (decide ((IntKind.wrap .u32 r0) > 65535))
       (cnd (decide ((IntKind.wrap .u32 r0) ≤ 1114111))
        (bnd (tapp p0 [(bits .or .u8 240 (IntKind.wrap .u8 (Int.fdiv r0 (2 ^ min (Int.toNat 18) 32)))), (bits .or .u8 128 (bits .and .u8 (IntKind.wrap .u8 (Int.fdiv r0 (2 ^ min (Int.toNat 12) 32))) 63)), (bits .or .u8 128 (bits .and .u8 (IntKind.wrap .u8 (Int.fdiv r0 (2 ^ min (Int.toNat 6) 32))) 63)), (bits .or .u8 128 (bits .and .u8 (IntKind.wrap .u8 r0) 63))]) fun y8 =>
        some y8)
        (bnd (tapp p0 [239, 191, 189]) fun y10 =>
        some y10))
       (bnd (tapp p0 [239, 191, 189]) fun y12 =>
       some y12)))
     (cnd (decide ((IntKind.wrap .u32 r0) > 65535))
      (cnd (decide ((IntKind.wrap .u32 r0) ≤ 1114111))
       (bnd (tapp p0 [(bits .or .u8 240 (IntKind.wrap .u8 (Int.fdiv r0 (2 ^ min (Int.toNat 18) 32)))), (bits .or .u8 128 (bits .and .u8 (IntKind.wrap .u8 (Int.fdiv r0 (2 ^ min (Int.toNat 12) 32))) 63)), (bits .or .u8 128 (bits .and .u8 (IntKind.wrap .u8 (Int.fdiv r0 (2 ^ min (Int.toNat 6) 32))) 63)), (bits .or .u8 128 (bits .and .u8 (IntKind.wrap .u8 r0) 63))]) fun y14 =>
       some y14)
       (bnd (tapp p0 [239, 191, 189]) fun y16 =>
       some y16))
      (bnd (tapp p0 [239, 191, 189]) fun y18 =>
      some y18))))
def utf8_appendRuneNonASCII_ds : Decs := { decs := [(10, (.sl true)), (24, (.sl true)), (49, (.sl true)), (77, (.sl true))], ups := [], loops := [] }
set_option maxRecDepth 100000 in
theorem utf8_appendRuneNonASCII_t1 (O : Orc) (LP : LBody → LBody) (p0 : List Int) (r0 : Int) : evalBodyD Tryd.prog (MT 18) utf8_appendRuneNonASCII_ds Tryd.f18.ntmps O LP Tryd.f18 [(.slice (List.map (PV.int .u8) p0) [] true), (.int .i32 r0)] [] = utf8_appendRuneNonASCII_T1 O LP p0 r0 := by kernel_rfl
theorem utf8_appendRuneNonASCII_imp (p0 : List Int) (r0 : Int) : Imp (utf8_appendRuneNonASCII_B p0 r0) (utf8_appendRuneNonASCII_T1 O loopLim p0 r0) (fun r v => v = (utf8_appendRuneNonASCIIE r, [])) := by
  simp only [utf8_appendRuneNonASCII_B, utf8_appendRuneNonASCII_T1]
  try simp only [evs, tys]
  refine Imp.cnd ?_ ?_
  · refine Imp.op (f := fun a => .slice (List.map (PV.int .u8) a) [] true) (fun a h => op_apd (enc := (PV.int .u8)) (by first | rfl | simp only [evs, tys, evl]) (by first | rfl | simp only [evs, tys, evl]) (fun a => by first | rfl | simp only [evs, tys, evc]) h) (fun a => rfl) fun y2 hy2 => ?_
    try simp only [evs, tys]
    exact Imp.some (by first | rfl | simp only [utf8_appendRuneNonASCIIE, evs, tys, evl])
  · refine Imp.cnd ?_ ?_
    · refine Imp.op (f := fun a => .slice (List.map (PV.int .u8) a) [] true) (fun a h => op_apd (enc := (PV.int .u8)) (by first | rfl | simp only [evs, tys, evl]) (by first | rfl | simp only [evs, tys, evl]) (fun a => by first | rfl | simp only [evs, tys, evc]) h) (fun a => rfl) fun y4 hy4 => ?_
      try simp only [evs, tys]
      exact Imp.some (by first | rfl | simp only [utf8_appendRuneNonASCIIE, evs, tys, evl])
    · refine Imp.cnd ?_ ?_
      · refine Imp.cnd ?_ ?_
        · refine Imp.op (f := fun a => .slice (List.map (PV.int .u8) a) [] true) (fun a h => op_apd (enc := (PV.int .u8)) (by first | rfl | simp only [evs, tys, evl]) (by first | rfl | simp only [evs, tys, evl]) (fun a => by first | rfl | simp only [evs, tys, evc]) h) (fun a => rfl) fun y6 hy6 => ?_
          try simp only [evs, tys]
          exact Imp.some (by first | rfl | simp only [utf8_appendRuneNonASCIIE, evs, tys, evl])
        · refine Imp.cnd ?_ ?_
          · refine Imp.cnd ?_ ?_
            · refine Imp.op (f := fun a => .slice (List.map (PV.int .u8) a) [] true) (fun a h => op_apd (enc := (PV.int .u8)) (by first | rfl | simp only [evs, tys, evl]) (by first | rfl | simp only [evs, tys, evl]) (fun a => by first | rfl | simp only [evs, tys, evc]) h) (fun a => rfl) fun y8 hy8 => ?_
              try simp only [evs, tys]
              exact Imp.some (by first | rfl | simp only [utf8_appendRuneNonASCIIE, evs, tys, evl])
            · refine Imp.op (f := fun a => .slice (List.map (PV.int .u8) a) [] true) (fun a h => op_apd (enc := (PV.int .u8)) (by first | rfl | simp only [evs, tys, evl]) (by first | rfl | simp only [evs, tys, evl]) (fun a => by first | rfl | simp only [evs, tys, evc]) h) (fun a => rfl) fun y10 hy10 => ?_
              try simp only [evs, tys]
              exact Imp.some (by first | rfl | simp only [utf8_appendRuneNonASCIIE, evs, tys, evl])
          · refine Imp.op (f := fun a => .slice (List.map (PV.int .u8) a) [] true) (fun a h => op_apd (enc := (PV.int .u8)) (by first | rfl | simp only [evs, tys, evl]) (by first | rfl | simp only [evs, tys, evl]) (fun a => by first | rfl | simp only [evs, tys, evc]) h) (fun a => rfl) fun y12 hy12 => ?_
            try simp only [evs, tys]
            exact Imp.some (by first | rfl | simp only [utf8_appendRuneNonASCIIE, evs, tys, evl])
      · refine Imp.cnd ?_ ?_
        · refine Imp.cnd ?_ ?_
          · refine Imp.op (f := fun a => .slice (List.map (PV.int .u8) a) [] true) (fun a h => op_apd (enc := (PV.int .u8)) (by first | rfl | simp only [evs, tys, evl]) (by first | rfl | simp only [evs, tys, evl]) (fun a => by first | rfl | simp only [evs, tys, evc]) h) (fun a => rfl) fun y14 hy14 => ?_
            try simp only [evs, tys]
            exact Imp.some (by first | rfl | simp only [utf8_appendRuneNonASCIIE, evs, tys, evl])
          · refine Imp.op (f := fun a => .slice (List.map (PV.int .u8) a) [] true) (fun a h => op_apd (enc := (PV.int .u8)) (by first | rfl | simp only [evs, tys, evl]) (by first | rfl | simp only [evs, tys, evl]) (fun a => by first | rfl | simp only [evs, tys, evc]) h) (fun a => rfl) fun y16 hy16 => ?_
            try simp only [evs, tys]
            exact Imp.some (by first | rfl | simp only [utf8_appendRuneNonASCIIE, evs, tys, evl])
        · refine Imp.op (f := fun a => .slice (List.map (PV.int .u8) a) [] true) (fun a h => op_apd (enc := (PV.int .u8)) (by first | rfl | simp only [evs, tys, evl]) (by first | rfl | simp only [evs, tys, evl]) (fun a => by first | rfl | simp only [evs, tys, evc]) h) (fun a => rfl) fun y18 hy18 => ?_
          try simp only [evs, tys]
          exact Imp.some (by first | rfl | simp only [utf8_appendRuneNonASCIIE, evs, tys, evl])
theorem utf8_appendRuneNonASCII_run {p0 : List Int} {r0 : Int} {r : List Int} (h : utf8_appendRuneNonASCII_B p0 r0 = some r) : utf8_appendRuneNonASCII p0 r0 = some r := by
  obtain ⟨v, hv, rfl⟩ := utf8_appendRuneNonASCII_imp p0 r0 r h
  exact tO_of (pair_inj utf8_appendRuneNonASCIIEj) (OL_runD utf8_appendRuneNonASCII_ds rfl rfl Tryd.func18 ((utf8_appendRuneNonASCII_t1 _ _ p0 r0).trans hv))
end Go.Proofs.YtlaomadhhdcflaaDoor

/-
  What is answered from outside: contracts of the library's functions, laid at this program by the kit's tools.
-/
set_option linter.unusedVariables false
set_option linter.unusedSimpArgs false
open Go Go.Ev Go.Ev.PV
open Go.Shelf Go.RowKit
namespace Go.Proofs.YtlaomadhhdcflaaDoor
/-- The two tables of utf8, which are never written. -/
def GM : Mem := fun b i =>
  if b = 0 then (if i < 256 then some (.int .u8 (Go.Lib.firstT i)) else none)
  else if b = 1 then (if i < 32 then some (.int .u8 (if i % 2 = 0 then Go.Lib.accLo (i / 2) else Go.Lib.accHi (i / 2))) else none)
  else none
theorem tabs_of : ∀ (n : Nat) (M : Mem) (B : BM) (args : List PV) (up : UP) (vals : Array Value) (w : World), CallPre ⟨n, GM⟩ M B args up vals w → Go.Lib.Utf8Tabs 0 1 w := by
  intro n M B args up vals w hp
  refine ⟨fun c hc => hp.globW (by show GM 0 c = _; unfold GM; rw [if_pos rfl, if_pos hc]), fun i hi => ⟨hp.globW ?_, hp.globW ?_⟩⟩
  · show GM 1 (2 * i) = _
    unfold GM; rw [if_neg (by decide), if_pos rfl, if_pos (by omega), if_pos (by omega)]
    rw [show 2 * i / 2 = i by omega]
  · show GM 1 (2 * i + 1) = _
    unfold GM; rw [if_neg (by decide), if_pos rfl, if_pos (by omega), if_neg (by omega)]
    rw [show (2 * i + 1) / 2 = i by omega]
theorem decS_decodeGo (s : Str) : Go.Lib.decodeGo ⟨s.toArray⟩ = decS s := by
  have hsz : (⟨s.toArray⟩ : ByteArray).size = s.length := by show s.toArray.size = _; simp
  unfold Go.Lib.decodeGo decS
  by_cases h : s = []
  · subst h; rfl
  · have hl : s.length ≠ 0 := fun e => h (List.length_eq_zero_iff.1 e)
    rw [if_neg (by rw [hsz]; exact hl), if_neg h]
    have := Go.Lib.decodeL_N s
    unfold Go.Lib.decodeL at this
    exact this

def Tryd.lays260_ren : Go.Shelf.Ren := ⟨fun | 260 => 19 | n => n, fun | 9 => 9 | 21 => 21 | 3 => 3 | 4 => 4 | 5 => 5 | 119 => 42 | 0 => 0 | 46 => 41 | 139 => 45 | 138 => 44 | n => n, fun | 3 => 0 | 4 => 1 | n => n⟩

theorem Tryd.lays260 : Go.Proofs.Lays.n260 Tryd.prog Tryd.lays260_ren := {
  mixed := by kernel_rfl
  f260 := Tryd.func19.trans (congrArg some (by kernel_rfl))
  t0 := Tryd.underlying0
  a0 := Tryd.isAgg0
  z0 := Tryd.sizeOf0
  v0 := Tryd.zeroValue0
  t3 := Tryd.underlying3
  a3 := Tryd.isAgg3
  z3 := Tryd.sizeOf3
  v3 := Tryd.zeroValue3
  t4 := Tryd.underlying4
  a4 := Tryd.isAgg4
  z4 := Tryd.sizeOf4
  v4 := Tryd.zeroValue4
  t5 := Tryd.underlying5
  a5 := Tryd.isAgg5
  z5 := Tryd.sizeOf5
  v5 := Tryd.zeroValue5
  t9 := Tryd.underlying9
  a9 := Tryd.isAgg9
  z9 := Tryd.sizeOf9
  v9 := Tryd.zeroValue9
  t21 := Tryd.underlying21
  a21 := Tryd.isAgg21
  z21 := Tryd.sizeOf21
  v21 := Tryd.zeroValue21
  t46 := Tryd.underlying41
  a46 := Tryd.isAgg41
  z46 := Tryd.sizeOf41
  v46 := Tryd.zeroValue41
  t119 := Tryd.underlying42
  a119 := Tryd.isAgg42
  z119 := Tryd.sizeOf42
  t138 := Tryd.underlying44
  a138 := Tryd.isAgg44
  z138 := Tryd.sizeOf44
  v138 := Tryd.zeroValue44
  t139 := Tryd.underlying45
  a139 := Tryd.isAgg45
  z139 := Tryd.sizeOf45
  v139 := Tryd.zeroValue45
  g3 := by kernel_rfl
  g4 := by kernel_rfl }

def Tryd.lays197_ren : Go.Shelf.Ren := ⟨fun | 197 => 17 | 260 => 19 | n => n, fun | 9 => 9 | 21 => 21 | 3 => 3 | 4 => 4 | 5 => 5 | 105 => 38 | 119 => 42 | 0 => 0 | 46 => 41 | 139 => 45 | 138 => 44 | n => n, fun | 3 => 0 | 4 => 1 | n => n⟩

theorem Tryd.lays197 : Go.Proofs.Lays.n197 Tryd.prog Tryd.lays197_ren := {
  mixed := by kernel_rfl
  f197 := Tryd.func17.trans (congrArg some (by kernel_rfl))
  f260 := Tryd.func19.trans (congrArg some (by kernel_rfl))
  t0 := Tryd.underlying0
  a0 := Tryd.isAgg0
  z0 := Tryd.sizeOf0
  v0 := Tryd.zeroValue0
  t3 := Tryd.underlying3
  a3 := Tryd.isAgg3
  z3 := Tryd.sizeOf3
  v3 := Tryd.zeroValue3
  t4 := Tryd.underlying4
  a4 := Tryd.isAgg4
  z4 := Tryd.sizeOf4
  v4 := Tryd.zeroValue4
  t5 := Tryd.underlying5
  a5 := Tryd.isAgg5
  z5 := Tryd.sizeOf5
  v5 := Tryd.zeroValue5
  t9 := Tryd.underlying9
  a9 := Tryd.isAgg9
  z9 := Tryd.sizeOf9
  v9 := Tryd.zeroValue9
  t21 := Tryd.underlying21
  a21 := Tryd.isAgg21
  z21 := Tryd.sizeOf21
  v21 := Tryd.zeroValue21
  t46 := Tryd.underlying41
  a46 := Tryd.isAgg41
  z46 := Tryd.sizeOf41
  v46 := Tryd.zeroValue41
  t105 := Tryd.underlying38
  a105 := Tryd.isAgg38
  z105 := Tryd.sizeOf38
  v105 := Tryd.zeroValue38
  t119 := Tryd.underlying42
  a119 := Tryd.isAgg42
  z119 := Tryd.sizeOf42
  t138 := Tryd.underlying44
  a138 := Tryd.isAgg44
  z138 := Tryd.sizeOf44
  v138 := Tryd.zeroValue44
  t139 := Tryd.underlying45
  a139 := Tryd.isAgg45
  z139 := Tryd.sizeOf45
  v139 := Tryd.zeroValue45
  g3 := by kernel_rfl
  g4 := by kernel_rfl }

theorem xok_decode : ∀ args up r up', xDecode args up = some (r, up') → ∀ (n : Nat) w M B vals, CallPre ⟨n, GM⟩ M B args up vals w → Invokes Tryd.prog 17 vals w (CallPost ⟨n, GM⟩ M B args up vals w r up') :=
  xDecode_ok (T := Go.Lib.Utf8Tabs 0 1) tabs_of (fun _ _ => enters_of Tryd.func17 (by kernel_rfl) rfl _ _) fun s w hT => by
    have := Any.utf8_DecodeRuneInString Tryd.lays197 ⟨s.toArray⟩ w hT
    rw [decS_decodeGo] at this; exact this
theorem xok : ExtOk Tryd.prog GM XT := by
  intro f g h
  unfold XT at h
  simp only [Go.Ev.look] at h
  split at h
  · rename_i e; subst e; cases h; exact xok_decode
  simp at h
end Go.Proofs.YtlaomadhhdcflaaDoor



import Derived.Test.YtlaomadhhdcflaaGa
import Derived.Shelf.Strings.OnBuilder
import Derived.WalkKit
import Derived.KernelRfl
set_option linter.unusedVariables false
set_option linter.unusedSimpArgs false
/- Printed by symgen.py: typed functions of this seat, and why they tell what the program does. -/
set_option linter.unusedVariables false
set_option linter.unusedSimpArgs false
open Go Go.Ev Go.Ev.PV
namespace Go.Proofs.Ytlaomadhhdcflaa
def seinelaw2_BlockSays_T1 (O : Orc) (LP : LBody → LBody) (raw : Str) : Option (PV × UP) :=
  cnd (decide ((List.length raw : Int) > 3000))
   (callp O 8 [] fun x1 => cnd (chk .bool x1)
   (some ((.bool (boolV x1)), [])) none)
   (callp O 9 [(.str raw)] fun x3 => cnd (chk (.sl true) x3)
   (callp O 10 [(.str raw)] fun x5 => cnd (chk (.sl true) x5)
   (callp O 11 [(.slice (esV x3) [] false), (.slice (esV x5) [] false)] fun x7 => cnd (chk .bool x7)
   (cnd (boolV x7)
    (callp O 12 [(.slice (esV x3) [] false)] fun x9 => cnd (chk (.int .i64) x9)
    (callp O 13 [(.slice (esV x5) [] false)] fun x11 => cnd (chk (.int .i64) x11)
    (cnd ((intV x9) == (intV x11))
     (callp O 14 [(.str raw)] fun x13 => cnd (chk .str x13)
     (callp O 15 [(.str raw)] fun x15 => cnd (chk .str x15)
     (cnd ((strV x13) == (strV x15))
      (callp O 8 [] fun x17 => cnd (chk .bool x17)
      (some ((.bool (boolV x17)), [])) none)
      (some ((.bool false), []))) none) none)
     (some ((.bool false), []))) none) none)
    (some ((.bool false), []))) none) none) none)
noncomputable def seinelaw2_BlockSays_B (raw : Str) : Option Bool :=
  cnd (decide ((List.length raw : Int) > 3000))
   (bnd (seinelaw2_awake) fun y2 =>
   some y2)
   (bnd (block_Lines raw) fun y4 =>
   bnd (seineref1_Lines raw) fun y6 =>
   bnd (seinekeep_SameTexts y4 y6) fun y8 =>
   cnd y8
    (bnd (block_Indent y4) fun y10 =>
    bnd (seineref1_Indent y6) fun y12 =>
    cnd (y10 == y12)
     (bnd (block_Value raw) fun y14 =>
     bnd (seineref1_Block raw) fun y16 =>
     cnd (y14 == y16)
      (bnd (seinelaw2_awake) fun y18 =>
      some y18)
      (some false))
     (some false))
    (some false))
def seinelaw2_BlockSays_ds : Decs := { decs := [(8, .bool), (10, (.sl true)), (12, (.sl true)), (15, .bool), (18, (.int .i64)), (20, (.int .i64)), (25, .str), (27, .str), (31, .bool)], ups := [], loops := [] }
set_option maxRecDepth 100000 in
theorem seinelaw2_BlockSays_t1 (O : Orc) (LP : LBody → LBody) (raw : Str) : evalBodyD Try.prog (MT 3) seinelaw2_BlockSays_ds Try.f3.ntmps O LP Try.f3 [(.str raw)] [] = seinelaw2_BlockSays_T1 O LP raw := by kernel_rfl
theorem seinelaw2_BlockSays_imp (raw : Str) : Imp (seinelaw2_BlockSays_B raw) (seinelaw2_BlockSays_T1 O loopLim raw) (fun r v => v = (seinelaw2_BlockSaysE r, [])) := by
  simp only [seinelaw2_BlockSays_B, seinelaw2_BlockSays_T1]
  try simp only [evs, tys]
  refine Imp.cnd ?_ ?_
  · refine Imp.call (f := seinelaw2_awakeE) rfl (fun a h => by first | exact seinelaw2_awake_spec h | simpa only [evs, tys, evl] using seinelaw2_awake_spec h) (fun a => by first | rfl | simp only [seinelaw2_awakeE, evk, chks]) fun y2 hy2 => ?_
    try simp only [seinelaw2_awakeE, evs, tys]
    exact Imp.some (by first | rfl | simp only [seinelaw2_BlockSaysE, evs, tys, evl])
  · refine Imp.call (f := block_LinesE) rfl (fun a h => by first | exact block_Lines_spec h | simpa only [evs, tys, evl] using block_Lines_spec h) (fun a => by first | rfl | simp only [block_LinesE, evk, chks]) fun y4 hy4 => ?_
    try simp only [block_LinesE, evs, tys]
    refine Imp.call (f := seineref1_LinesE) rfl (fun a h => by first | exact seineref1_Lines_spec h | simpa only [evs, tys, evl] using seineref1_Lines_spec h) (fun a => by first | rfl | simp only [seineref1_LinesE, evk, chks]) fun y6 hy6 => ?_
    try simp only [seineref1_LinesE, evs, tys]
    refine Imp.call (f := seinekeep_SameTextsE) rfl (fun a h => by first | exact seinekeep_SameTexts_spec h | simpa only [evs, tys, evl] using seinekeep_SameTexts_spec h) (fun a => by first | rfl | simp only [seinekeep_SameTextsE, evk, chks]) fun y8 hy8 => ?_
    try simp only [seinekeep_SameTextsE, evs, tys]
    refine Imp.cnd ?_ ?_
    · refine Imp.call (f := block_IndentE) rfl (fun a h => by first | exact block_Indent_spec h | simpa only [evs, tys, evl] using block_Indent_spec h) (fun a => by first | rfl | simp only [block_IndentE, evk, chks]) fun y10 hy10 => ?_
      try simp only [block_IndentE, evs, tys]
      refine Imp.call (f := seineref1_IndentE) rfl (fun a h => by first | exact seineref1_Indent_spec h | simpa only [evs, tys, evl] using seineref1_Indent_spec h) (fun a => by first | rfl | simp only [seineref1_IndentE, evk, chks]) fun y12 hy12 => ?_
      try simp only [seineref1_IndentE, evs, tys]
      refine Imp.cnd ?_ ?_
      · refine Imp.call (f := block_ValueE) rfl (fun a h => by first | exact block_Value_spec h | simpa only [evs, tys, evl] using block_Value_spec h) (fun a => by first | rfl | simp only [block_ValueE, evk, chks]) fun y14 hy14 => ?_
        try simp only [block_ValueE, evs, tys]
        refine Imp.call (f := seineref1_BlockE) rfl (fun a h => by first | exact seineref1_Block_spec h | simpa only [evs, tys, evl] using seineref1_Block_spec h) (fun a => by first | rfl | simp only [seineref1_BlockE, evk, chks]) fun y16 hy16 => ?_
        try simp only [seineref1_BlockE, evs, tys]
        refine Imp.cnd ?_ ?_
        · refine Imp.call (f := seinelaw2_awakeE) rfl (fun a h => by first | exact seinelaw2_awake_spec h | simpa only [evs, tys, evl] using seinelaw2_awake_spec h) (fun a => by first | rfl | simp only [seinelaw2_awakeE, evk, chks]) fun y18 hy18 => ?_
          try simp only [seinelaw2_awakeE, evs, tys]
          exact Imp.some (by first | rfl | simp only [seinelaw2_BlockSaysE, evs, tys, evl])
        · exact Imp.some (by first | rfl | simp only [seinelaw2_BlockSaysE, evs, tys, evl])
      · exact Imp.some (by first | rfl | simp only [seinelaw2_BlockSaysE, evs, tys, evl])
    · exact Imp.some (by first | rfl | simp only [seinelaw2_BlockSaysE, evs, tys, evl])
theorem seinelaw2_BlockSays_run {raw : Str} {r : Bool} (h : seinelaw2_BlockSays_B raw = some r) : seinelaw2_BlockSays raw = some r := by
  obtain ⟨v, hv, rfl⟩ := seinelaw2_BlockSays_imp raw r h
  exact tO_of (pair_inj seinelaw2_BlockSaysEj) (OL_runD seinelaw2_BlockSays_ds rfl rfl Try.func3 ((seinelaw2_BlockSays_t1 _ _ raw).trans hv))

def seinelaw2_BlockIndents_l1 (O : Orc) (LP : LBody → LBody) : LBody := fun s3 s3u => cnd (chkL [(.sl false), .bool, (.int .i64)] s3) (cnd (chkU [] s3u)
  (cnd (decide ((intV (gt s3 2)) < (List.length (esV (gt s3 0)) : Int)))
   (bnd (ix 1 (.slice (esV (gt s3 0)) [] false) (.int .i64 (intV (gt s3 2)))) fun x9 => cnd (chk (.ref .str) x9)
   (cnd (decide ((List.length (strV (refV x9)) : Int) > 300))
    (callp O 8 [] fun x11 => cnd (chk .bool x11)
    (some (.ret, [(.slice (esV (gt s3 0)) [] false), (.bool (boolV x11)), (.int .i64 (intV (gt s3 2)))], [])) none)
    (some (.nrm, [(.slice (esV (gt s3 0)) [] false), (.bool (boolV (gt s3 1))), (.int .i64 (IntKind.wrap .i64 ((intV (gt s3 2)) + 1)))], []))) none)
   (some (.brk 0, [(.slice (esV (gt s3 0)) [] false), (.bool (boolV (gt s3 1))), (.int .i64 (intV (gt s3 2)))], []))) none) none
def seinelaw2_BlockIndents_T1 (O : Orc) (LP : LBody → LBody) (l0 : List Str) : Option (PV × UP) :=
  cnd (decide ((List.length (List.map PV.str l0) : Int) > 300))
   (callp O 8 [] fun x1 => cnd (chk .bool x1)
   (some ((.bool (boolV x1)), [])) none)
   (bnd (LP (seinelaw2_BlockIndents_l1 O LP) [(.slice (List.map PV.str l0) [] false), (.bool false), (.int .i64 0)] []) fun y16 =>
   exIs y16.1 (some 0) (cnd (chkL [(.sl false), .bool, (.int .i64)] y16.2.1) (cnd (chkU [] y16.2.2)
    (callp O 16 [(.slice (esV (gt y16.2.1 0)) [] false)] fun x17 => cnd (chk (.slb false) x17)
    (callp O 12 [(.slice (esV x17) [] false)] fun x19 => cnd (chk (.int .i64) x19)
    (callp O 13 [(.slice (esV (gt y16.2.1 0)) [] false)] fun x21 => cnd (chk (.int .i64) x21)
    (cnd ((intV x19) == (intV x21))
     (callp O 17 [(.slice (esV x17) (bsV x17) false), (.slice (esV (gt y16.2.1 0)) [] false)] fun x23 => cnd (chk .bool x23)
     (cnd (boolV x23)
      (callp O 8 [] fun x25 => cnd (chk .bool x25)
      (some ((.bool (boolV x25)), [])) none)
      (some ((.bool false), []))) none)
     (some ((.bool false), []))) none) none) none) none) none)
   (exIs y16.1 none (cnd (chkL [(.sl false), .bool, (.int .i64)] y16.2.1) (cnd (chkU [] y16.2.2)
    (some ((.bool (boolV (gt y16.2.1 1))), [])) none) none)
   (none)))
noncomputable def seinelaw2_BlockIndents_l1T (l0 : List Str) : Int → Option (Int ⊕ (Unit ⊕ Bool))
  | i_8 =>
  cnd (decide (i_8 < (List.length l0 : Int)))
   (bnd (nthI l0 i_8) fun y10 =>
   cnd (decide ((List.length y10 : Int) > 300))
    (bnd (seinelaw2_awake) fun y12 =>
    some (.inr (.inr y12)))
    (some (.inl (IntKind.wrap .i64 (i_8 + 1)))))
   (some (.inr (.inl ())))
abbrev seinelaw2_BlockIndents_l1R (l0 : List Str) (st : Int) (l : List PV) (u : UP) : Prop := l = [(.slice (List.map PV.str l0) [] false), (.bool false), (.int .i64 st)] ∧ u = []
abbrev seinelaw2_BlockIndents_l1X (l0 : List Str) (p : Unit ⊕ Bool) (r : Ex × List PV × UP) : Prop := elim p (fun (p : Unit) => ∃ (i_13 : Int), r = (Ex.brk 0, [(.slice (List.map PV.str l0) [] false), (.bool false), (.int .i64 i_13)], [])) (fun q2 => (fun (p : Bool) => ∃ (i_15 : Int), r = (Ex.ret, [(.slice (List.map PV.str l0) [] false), (.bool p), (.int .i64 i_15)], [])) q2)
noncomputable def seinelaw2_BlockIndents_B (l0 : List Str) : Option Bool :=
  cnd (decide ((List.length l0 : Int) > 300))
   (bnd (seinelaw2_awake) fun y2 =>
   some y2)
   (bnd (tloop (seinelaw2_BlockIndents_l1T l0) 0) fun e16_2 => elim e16_2
   (fun p16 =>
    bnd (seinekeep_Texts l0) fun y18 =>
    bnd (block_Indent y18.1) fun y20 =>
    bnd (seineref1_Indent l0) fun y22 =>
    cnd (y20 == y22)
     (bnd (seinekeep_TextsStay y18.1 y18.2 l0) fun y24 =>
     cnd y24
      (bnd (seinelaw2_awake) fun y26 =>
      some y26)
      (some false))
     (some false))
   (fun t_14 =>
   some t_14))
def seinelaw2_BlockIndents_ds : Decs := { decs := [(8, .bool), (17, (.ref .str)), (21, .bool), (23, (.slb false)), (25, (.int .i64)), (27, (.int .i64)), (32, .bool), (35, .bool)], ups := [], loops := [(4, [], ⟨[(.sl false), .bool, (.int .i64)], [], [(some 0, [(.sl false), .bool, (.int .i64)], []), (none, [(.sl false), .bool, (.int .i64)], [])]⟩)] }
set_option maxRecDepth 100000 in
theorem seinelaw2_BlockIndents_t1 (O : Orc) (LP : LBody → LBody) (l0 : List Str) : evalBodyD Try.prog (MT 4) seinelaw2_BlockIndents_ds Try.f4.ntmps O LP Try.f4 [(.slice (List.map PV.str l0) [] false)] [] = seinelaw2_BlockIndents_T1 O LP l0 := by kernel_rfl
theorem seinelaw2_BlockIndents_l1_ok (l0 : List Str) : ∀ st l u, seinelaw2_BlockIndents_l1R l0 st l u → Imp (seinelaw2_BlockIndents_l1T l0 st) (seinelaw2_BlockIndents_l1 O loopLim l u) (StepR (seinelaw2_BlockIndents_l1R l0) (seinelaw2_BlockIndents_l1X l0)) := by
  rintro i_8 l u ⟨rfl, rfl⟩
  simp only [seinelaw2_BlockIndents_l1T, seinelaw2_BlockIndents_l1]
  refine Imp.chk rfl (Imp.chk rfl ?_)
  try simp only [evs, tys]
  refine Imp.cnd ?_ ?_
  · refine Imp.op (f := fun a => .ref (PV.str a)) (fun a h => op_ix (enc := PV.str) (by first | rfl | simp only [evs, tys, evl]) ⟨by first | rfl | simp only [evs, tys, evc], by decide⟩ h) (fun a => rfl) fun y10 hy10 => ?_
    try simp only [evs, tys]
    refine Imp.cnd ?_ ?_
    · refine Imp.call (f := seinelaw2_awakeE) rfl (fun a h => by first | exact seinelaw2_awake_spec h | simpa only [evs, tys, evl] using seinelaw2_awake_spec h) (fun a => by first | rfl | simp only [seinelaw2_awakeE, evk, chks]) fun y12 hy12 => ?_
      try simp only [seinelaw2_awakeE, evs, tys]
      exact Imp.some (StepR.ret ⟨i_8, by first | rfl | simp only [evs, tys, evl, elim_inl, elim_inr]⟩)
    · exact Imp.some (StepR.next ⟨by first | rfl | simp only [evs, tys, evl], rfl⟩)
  · exact Imp.some (StepR.brk ⟨i_8, by first | rfl | simp only [evs, tys, evl, elim_inl, elim_inr]⟩)
theorem seinelaw2_BlockIndents_imp (l0 : List Str) : Imp (seinelaw2_BlockIndents_B l0) (seinelaw2_BlockIndents_T1 O loopLim l0) (fun r v => v = (seinelaw2_BlockIndentsE r, [])) := by
  simp only [seinelaw2_BlockIndents_B, seinelaw2_BlockIndents_T1]
  try simp only [evs, tys]
  refine Imp.cnd ?_ ?_
  · refine Imp.call (f := seinelaw2_awakeE) rfl (fun a h => by first | exact seinelaw2_awake_spec h | simpa only [evs, tys, evl] using seinelaw2_awake_spec h) (fun a => by first | rfl | simp only [seinelaw2_awakeE, evk, chks]) fun y2 hy2 => ?_
    try simp only [seinelaw2_awakeE, evs, tys]
    exact Imp.some (by first | rfl | simp only [seinelaw2_BlockIndentsE, evs, tys, evl])
  · refine Imp.bnd (Imp.loop (seinelaw2_BlockIndents_l1_ok l0) ⟨by first | rfl | simp only [evs, tys, evl], rfl⟩) ?_
    rintro (p | t_14) vy16 hy16
    · try simp only [elim_inl, elim_inr]
      obtain ⟨i_13, rfl⟩ := hy16
      refine Imp.exHit rfl (Imp.chk rfl (Imp.chk rfl ?_))
      try simp only [evs, tys]
      refine Imp.call (f := seinekeep_TextsE) rfl (fun a h => by first | exact seinekeep_Texts_spec h | simpa only [evs, tys, evl] using seinekeep_Texts_spec h) (fun a => by first | rfl | simp only [seinekeep_TextsE, evk, chks]) fun y18 hy18 => ?_
      try simp only [seinekeep_TextsE, evs, tys]
      refine Imp.call (f := block_IndentE) rfl (fun a h => by first | exact block_Indent_spec h | simpa only [evs, tys, evl] using block_Indent_spec h) (fun a => by first | rfl | simp only [block_IndentE, evk, chks]) fun y20 hy20 => ?_
      try simp only [block_IndentE, evs, tys]
      refine Imp.call (f := seineref1_IndentE) rfl (fun a h => by first | exact seineref1_Indent_spec h | simpa only [evs, tys, evl] using seineref1_Indent_spec h) (fun a => by first | rfl | simp only [seineref1_IndentE, evk, chks]) fun y22 hy22 => ?_
      try simp only [seineref1_IndentE, evs, tys]
      refine Imp.cnd ?_ ?_
      · refine Imp.call (f := seinekeep_TextsStayE) rfl (fun a h => by first | exact seinekeep_TextsStay_spec h | simpa only [evs, tys, evl] using seinekeep_TextsStay_spec h) (fun a => by first | rfl | simp only [seinekeep_TextsStayE, evk, chks]) fun y24 hy24 => ?_
        try simp only [seinekeep_TextsStayE, evs, tys]
        refine Imp.cnd ?_ ?_
        · refine Imp.call (f := seinelaw2_awakeE) rfl (fun a h => by first | exact seinelaw2_awake_spec h | simpa only [evs, tys, evl] using seinelaw2_awake_spec h) (fun a => by first | rfl | simp only [seinelaw2_awakeE, evk, chks]) fun y26 hy26 => ?_
          try simp only [seinelaw2_awakeE, evs, tys]
          exact Imp.some (by first | rfl | simp only [seinelaw2_BlockIndentsE, evs, tys, evl])
        · exact Imp.some (by first | rfl | simp only [seinelaw2_BlockIndentsE, evs, tys, evl])
      · exact Imp.some (by first | rfl | simp only [seinelaw2_BlockIndentsE, evs, tys, evl])
    · try simp only [elim_inl, elim_inr]
      obtain ⟨i_15, rfl⟩ := hy16
      refine Imp.exMiss rfl ?_
      refine Imp.exHit rfl (Imp.chk rfl (Imp.chk rfl ?_))
      try simp only [evs, tys]
      exact Imp.some (by first | rfl | simp only [seinelaw2_BlockIndentsE, evs, tys, evl])
theorem seinelaw2_BlockIndents_run {l0 : List Str} {r : Bool} (h : seinelaw2_BlockIndents_B l0 = some r) : seinelaw2_BlockIndents l0 = some r := by
  obtain ⟨v, hv, rfl⟩ := seinelaw2_BlockIndents_imp l0 r h
  exact tO_of (pair_inj seinelaw2_BlockIndentsEj) (OL_runD seinelaw2_BlockIndents_ds rfl rfl Try.func4 ((seinelaw2_BlockIndents_t1 _ _ l0).trans hv))
end Go.Proofs.Ytlaomadhhdcflaa

/- Printed by symgen.py: typed functions of this seat, and why they tell what the program does. -/
set_option linter.unusedVariables false
set_option linter.unusedSimpArgs false
open Go Go.Ev Go.Ev.PV
namespace Go.Proofs.Ytlaomadhhdcflaa
def seinelaw2_BlockLines_l1 (O : Orc) (LP : LBody → LBody) : LBody := fun s55 s55u => cnd (chkL [.str, .bool, (.sl true), (.int .i64), (.int .i64), (.int .i64)] s55) (cnd (chkU [] s55u)
  (bnd (ix 1 (.slice (esV (gt s55 2)) [] false) (.int .i64 (intV (gt s55 4)))) fun x67 => cnd (chk (.ref .str) x67)
  (cnd (decide ((intV (gt s55 5)) < (List.length (strV (refV x67)) : Int)))
   (bnd (ix 1 (.slice (esV (gt s55 2)) [] false) (.int .i64 (intV (gt s55 4)))) fun x69 => cnd (chk (.ref .str) x69)
   (bnd (ixStr (.str (strV (refV x69))) (.int .i64 (intV (gt s55 5)))) fun x71 => cnd (chk (.int .u8) x71)
   (cnd ((intV x71) == 10)
    (some (.ret, [(.str (strV (gt s55 0))), (.bool false), (.slice (esV (gt s55 2)) [] true), (.int .i64 (intV (gt s55 3))), (.int .i64 (intV (gt s55 4))), (.int .i64 (intV (gt s55 5)))], []))
    (bnd (ix 1 (.slice (esV (gt s55 2)) [] false) (.int .i64 (intV (gt s55 4)))) fun x73 => cnd (chk (.ref .str) x73)
    (bnd (ixStr (.str (strV (refV x73))) (.int .i64 (intV (gt s55 5)))) fun x75 => cnd (chk (.int .u8) x75)
    (cnd ((intV x75) == 13)
     (some (.ret, [(.str (strV (gt s55 0))), (.bool false), (.slice (esV (gt s55 2)) [] true), (.int .i64 (intV (gt s55 3))), (.int .i64 (intV (gt s55 4))), (.int .i64 (intV (gt s55 5)))], []))
     (some (.nrm, [(.str (strV (gt s55 0))), (.bool (boolV (gt s55 1))), (.slice (esV (gt s55 2)) [] true), (.int .i64 (intV (gt s55 3))), (.int .i64 (intV (gt s55 4))), (.int .i64 (IntKind.wrap .i64 ((intV (gt s55 5)) + 1)))], []))) none) none)) none) none)
   (some (.brk 2, [(.str (strV (gt s55 0))), (.bool (boolV (gt s55 1))), (.slice (esV (gt s55 2)) [] true), (.int .i64 (intV (gt s55 3))), (.int .i64 (intV (gt s55 4))), (.int .i64 (intV (gt s55 5)))], []))) none) none) none
def seinelaw2_BlockLines_l2 (O : Orc) (LP : LBody → LBody) : LBody := fun s5 s5u => cnd (chkL [.str, .bool, (.sl true), (.int .i64), (.int .i64)] s5) (cnd (chkU [] s5u)
  (cnd (decide ((intV (gt s5 4)) < (List.length (esV (gt s5 2)) : Int)))
   (bnd (LP (seinelaw2_BlockLines_l1 O LP) [(.str (strV (gt s5 0))), (.bool (boolV (gt s5 1))), (.slice (esV (gt s5 2)) [] true), (.int .i64 (intV (gt s5 3))), (.int .i64 (intV (gt s5 4))), (.int .i64 0)] []) fun y79 =>
   exIs y79.1 (some 2) (cnd (chkL [.str, .bool, (.sl true), (.int .i64), (.int .i64), (.int .i64)] y79.2.1) (cnd (chkU [] y79.2.2)
    (bnd (ix 1 (.slice (esV (gt y79.2.1 2)) [] false) (.int .i64 (intV (gt y79.2.1 4)))) fun x80 => cnd (chk (.ref .str) x80)
    (cnd (decide ((List.length (strV (refV x80)) : Int) > (IntKind.wrap .i64 ((List.length (strV (gt y79.2.1 0)) : Int) - (intV (gt y79.2.1 3))))))
     (some (.ret, [(.str (strV (gt y79.2.1 0))), (.bool false), (.slice (esV (gt y79.2.1 2)) [] true), (.int .i64 (intV (gt y79.2.1 3))), (.int .i64 (intV (gt y79.2.1 4)))], []))
     (bnd (ix 1 (.slice (esV (gt y79.2.1 2)) [] false) (.int .i64 (intV (gt y79.2.1 4)))) fun x82 => cnd (chk (.ref .str) x82)
     (bnd (slcLH 0 (.str (strV (gt y79.2.1 0))) (.int .i64 (intV (gt y79.2.1 3))) (.int .i64 (IntKind.wrap .i64 ((intV (gt y79.2.1 3)) + (List.length (strV (refV x82)) : Int))))) fun x84 => cnd (chk .str x84)
     (bnd (ix 1 (.slice (esV (gt y79.2.1 2)) [] false) (.int .i64 (intV (gt y79.2.1 4)))) fun x86 => cnd (chk (.ref .str) x86)
     (cnd (!((strV x84) == (strV (refV x86))))
      (some (.ret, [(.str (strV (gt y79.2.1 0))), (.bool false), (.slice (esV (gt y79.2.1 2)) [] true), (.int .i64 (intV (gt y79.2.1 3))), (.int .i64 (intV (gt y79.2.1 4)))], []))
      (bnd (ix 1 (.slice (esV (gt y79.2.1 2)) [] false) (.int .i64 (intV (gt y79.2.1 4)))) fun x88 => cnd (chk (.ref .str) x88)
      (cnd ((intV (gt y79.2.1 4)) == (IntKind.wrap .i64 ((List.length (esV (gt y79.2.1 2)) : Int) - 1)))
       (some (.brk 0, [(.str (strV (gt y79.2.1 0))), (.bool (boolV (gt y79.2.1 1))), (.slice (esV (gt y79.2.1 2)) [] true), (.int .i64 (IntKind.wrap .i64 ((intV (gt y79.2.1 3)) + (List.length (strV (refV x88)) : Int)))), (.int .i64 (intV (gt y79.2.1 4)))], []))
       (cnd (decide ((IntKind.wrap .i64 ((intV (gt y79.2.1 3)) + (List.length (strV (refV x88)) : Int))) ≥ (List.length (strV (gt y79.2.1 0)) : Int)))
        (some (.ret, [(.str (strV (gt y79.2.1 0))), (.bool false), (.slice (esV (gt y79.2.1 2)) [] true), (.int .i64 (IntKind.wrap .i64 ((intV (gt y79.2.1 3)) + (List.length (strV (refV x88)) : Int)))), (.int .i64 (intV (gt y79.2.1 4)))], []))
        (bnd (ixStr (.str (strV (gt y79.2.1 0))) (.int .i64 (IntKind.wrap .i64 ((intV (gt y79.2.1 3)) + (List.length (strV (refV x88)) : Int))))) fun x90 => cnd (chk (.int .u8) x90)
        (cnd ((intV x90) != 10)
         (bnd (ixStr (.str (strV (gt y79.2.1 0))) (.int .i64 (IntKind.wrap .i64 ((intV (gt y79.2.1 3)) + (List.length (strV (refV x88)) : Int))))) fun x92 => cnd (chk (.int .u8) x92)
         (cnd ((intV x92) != 13)
          (some (.ret, [(.str (strV (gt y79.2.1 0))), (.bool false), (.slice (esV (gt y79.2.1 2)) [] true), (.int .i64 (IntKind.wrap .i64 ((intV (gt y79.2.1 3)) + (List.length (strV (refV x88)) : Int)))), (.int .i64 (intV (gt y79.2.1 4)))], []))
          (bnd (ixStr (.str (strV (gt y79.2.1 0))) (.int .i64 (IntKind.wrap .i64 ((intV (gt y79.2.1 3)) + (List.length (strV (refV x88)) : Int))))) fun x94 => cnd (chk (.int .u8) x94)
          (cnd ((intV x94) == 13)
           (cnd (decide ((IntKind.wrap .i64 ((IntKind.wrap .i64 ((intV (gt y79.2.1 3)) + (List.length (strV (refV x88)) : Int))) + 1)) < (List.length (strV (gt y79.2.1 0)) : Int)))
            (bnd (ixStr (.str (strV (gt y79.2.1 0))) (.int .i64 (IntKind.wrap .i64 ((IntKind.wrap .i64 ((intV (gt y79.2.1 3)) + (List.length (strV (refV x88)) : Int))) + 1)))) fun x96 => cnd (chk (.int .u8) x96)
            (cnd ((intV x96) == 10)
             (some (.nrm, [(.str (strV (gt y79.2.1 0))), (.bool (boolV (gt y79.2.1 1))), (.slice (esV (gt y79.2.1 2)) [] true), (.int .i64 (IntKind.wrap .i64 ((IntKind.wrap .i64 ((IntKind.wrap .i64 ((intV (gt y79.2.1 3)) + (List.length (strV (refV x88)) : Int))) + 1)) + 1))), (.int .i64 (IntKind.wrap .i64 ((intV (gt y79.2.1 4)) + 1)))], []))
             (some (.nrm, [(.str (strV (gt y79.2.1 0))), (.bool (boolV (gt y79.2.1 1))), (.slice (esV (gt y79.2.1 2)) [] true), (.int .i64 (IntKind.wrap .i64 ((IntKind.wrap .i64 ((intV (gt y79.2.1 3)) + (List.length (strV (refV x88)) : Int))) + 1))), (.int .i64 (IntKind.wrap .i64 ((intV (gt y79.2.1 4)) + 1)))], []))) none)
            (some (.nrm, [(.str (strV (gt y79.2.1 0))), (.bool (boolV (gt y79.2.1 1))), (.slice (esV (gt y79.2.1 2)) [] true), (.int .i64 (IntKind.wrap .i64 ((IntKind.wrap .i64 ((intV (gt y79.2.1 3)) + (List.length (strV (refV x88)) : Int))) + 1))), (.int .i64 (IntKind.wrap .i64 ((intV (gt y79.2.1 4)) + 1)))], [])))
           (some (.nrm, [(.str (strV (gt y79.2.1 0))), (.bool (boolV (gt y79.2.1 1))), (.slice (esV (gt y79.2.1 2)) [] true), (.int .i64 (IntKind.wrap .i64 ((IntKind.wrap .i64 ((intV (gt y79.2.1 3)) + (List.length (strV (refV x88)) : Int))) + 1))), (.int .i64 (IntKind.wrap .i64 ((intV (gt y79.2.1 4)) + 1)))], []))) none)) none)
         (bnd (ixStr (.str (strV (gt y79.2.1 0))) (.int .i64 (IntKind.wrap .i64 ((intV (gt y79.2.1 3)) + (List.length (strV (refV x88)) : Int))))) fun x98 => cnd (chk (.int .u8) x98)
         (cnd ((intV x98) == 13)
          (cnd (decide ((IntKind.wrap .i64 ((IntKind.wrap .i64 ((intV (gt y79.2.1 3)) + (List.length (strV (refV x88)) : Int))) + 1)) < (List.length (strV (gt y79.2.1 0)) : Int)))
           (bnd (ixStr (.str (strV (gt y79.2.1 0))) (.int .i64 (IntKind.wrap .i64 ((IntKind.wrap .i64 ((intV (gt y79.2.1 3)) + (List.length (strV (refV x88)) : Int))) + 1)))) fun x100 => cnd (chk (.int .u8) x100)
           (cnd ((intV x100) == 10)
            (some (.nrm, [(.str (strV (gt y79.2.1 0))), (.bool (boolV (gt y79.2.1 1))), (.slice (esV (gt y79.2.1 2)) [] true), (.int .i64 (IntKind.wrap .i64 ((IntKind.wrap .i64 ((IntKind.wrap .i64 ((intV (gt y79.2.1 3)) + (List.length (strV (refV x88)) : Int))) + 1)) + 1))), (.int .i64 (IntKind.wrap .i64 ((intV (gt y79.2.1 4)) + 1)))], []))
            (some (.nrm, [(.str (strV (gt y79.2.1 0))), (.bool (boolV (gt y79.2.1 1))), (.slice (esV (gt y79.2.1 2)) [] true), (.int .i64 (IntKind.wrap .i64 ((IntKind.wrap .i64 ((intV (gt y79.2.1 3)) + (List.length (strV (refV x88)) : Int))) + 1))), (.int .i64 (IntKind.wrap .i64 ((intV (gt y79.2.1 4)) + 1)))], []))) none)
           (some (.nrm, [(.str (strV (gt y79.2.1 0))), (.bool (boolV (gt y79.2.1 1))), (.slice (esV (gt y79.2.1 2)) [] true), (.int .i64 (IntKind.wrap .i64 ((IntKind.wrap .i64 ((intV (gt y79.2.1 3)) + (List.length (strV (refV x88)) : Int))) + 1))), (.int .i64 (IntKind.wrap .i64 ((intV (gt y79.2.1 4)) + 1)))], [])))
          (some (.nrm, [(.str (strV (gt y79.2.1 0))), (.bool (boolV (gt y79.2.1 1))), (.slice (esV (gt y79.2.1 2)) [] true), (.int .i64 (IntKind.wrap .i64 ((IntKind.wrap .i64 ((intV (gt y79.2.1 3)) + (List.length (strV (refV x88)) : Int))) + 1))), (.int .i64 (IntKind.wrap .i64 ((intV (gt y79.2.1 4)) + 1)))], []))) none)) none))) none)) none) none) none)) none) none) none)
   (exIs y79.1 none (cnd (chkL [.str, .bool, (.sl true), (.int .i64), (.int .i64), (.int .i64)] y79.2.1) (cnd (chkU [] y79.2.2)
    (some (.ret, [(.str (strV (gt y79.2.1 0))), (.bool (boolV (gt y79.2.1 1))), (.slice (esV (gt y79.2.1 2)) [] true), (.int .i64 (intV (gt y79.2.1 3))), (.int .i64 (intV (gt y79.2.1 4)))], [])) none) none)
   (none)))
   (some (.brk 0, [(.str (strV (gt s5 0))), (.bool (boolV (gt s5 1))), (.slice (esV (gt s5 2)) [] true), (.int .i64 (intV (gt s5 3))), (.int .i64 (intV (gt s5 4)))], []))) none) none
def seinelaw2_BlockLines_T1 (O : Orc) (LP : LBody → LBody) (s : Str) : Option (PV × UP) :=
  cnd (decide ((List.length s : Int) > 3000))
   (callp O 8 [] fun x1 => cnd (chk .bool x1)
   (some ((.bool (boolV x1)), [])) none)
   (callp O 9 [(.str s)] fun x3 => cnd (chk (.sl true) x3)
   (bnd (LP (seinelaw2_BlockLines_l2 O LP) [(.str s), (.bool false), (.slice (esV x3) [] true), (.int .i64 0), (.int .i64 0)] []) fun y106 =>
   exIs y106.1 (some 0) (cnd (chkL [.str, .bool, (.sl true), (.int .i64), (.int .i64)] y106.2.1) (cnd (chkU [] y106.2.2)
    (cnd (decide ((List.length (esV (gt y106.2.1 2)) : Int) > 0))
     (cnd ((intV (gt y106.2.1 3)) == (List.length (strV (gt y106.2.1 0)) : Int))
      (callp O 8 [] fun x107 => cnd (chk .bool x107)
      (some ((.bool (boolV x107)), [])) none)
      (some ((.bool false), [])))
     (some ((.bool false), []))) none) none)
   (exIs y106.1 none (cnd (chkL [.str, .bool, (.sl true), (.int .i64), (.int .i64)] y106.2.1) (cnd (chkU [] y106.2.2)
    (some ((.bool (boolV (gt y106.2.1 1))), [])) none) none)
   (none))) none)
noncomputable def seinelaw2_BlockLines_l1T (y4 : List Str) (k_54 : Int) : Int → Option (Int ⊕ (Unit ⊕ Unit))
  | j_66 =>
  bnd (nthI y4 k_54) fun y68 =>
  cnd (decide (j_66 < (List.length y68 : Int)))
   (bnd (nthI y4 k_54) fun y70 =>
   bnd (nthI y70 j_66) fun y72 =>
   cnd ((y72.toNat : Int) == 10)
    (some (.inr (.inr ())))
    (bnd (nthI y4 k_54) fun y74 =>
    bnd (nthI y74 j_66) fun y76 =>
    cnd ((y76.toNat : Int) == 13)
     (some (.inr (.inr ())))
     (some (.inl (IntKind.wrap .i64 (j_66 + 1))))))
   (some (.inr (.inl ())))
abbrev seinelaw2_BlockLines_l1R (s : Str) (y4 : List Str) (i_53 : Int) (k_54 : Int) (st : Int) (l : List PV) (u : UP) : Prop := l = [(.str s), (.bool false), (.slice (List.map PV.str y4) [] true), (.int .i64 i_53), (.int .i64 k_54), (.int .i64 st)] ∧ u = []
abbrev seinelaw2_BlockLines_l1X (s : Str) (y4 : List Str) (i_53 : Int) (k_54 : Int) (p : Unit ⊕ Unit) (r : Ex × List PV × UP) : Prop := elim p (fun (p : Unit) => ∃ (j_77 : Int), r = (Ex.brk 2, [(.str s), (.bool false), (.slice (List.map PV.str y4) [] true), (.int .i64 i_53), (.int .i64 k_54), (.int .i64 j_77)], [])) (fun q2 => (fun (p : Unit) => ∃ (j_78 : Int), r = (Ex.ret, [(.str s), (.bool false), (.slice (List.map PV.str y4) [] true), (.int .i64 i_53), (.int .i64 k_54), (.int .i64 j_78)], [])) q2)
noncomputable def seinelaw2_BlockLines_l2T (s : Str) (y4 : List Str) : (Int × Int) → Option ((Int × Int) ⊕ (Int ⊕ Unit))
  | (i_53, k_54) =>
  cnd (decide (k_54 < (List.length y4 : Int)))
   (bnd (tloop (seinelaw2_BlockLines_l1T y4 k_54) 0) fun e79_2 => elim e79_2
   (fun p79 =>
    bnd (nthI y4 k_54) fun y81 =>
    cnd (decide ((List.length y81 : Int) > (IntKind.wrap .i64 ((List.length s : Int) - i_53))))
     (some (.inr (.inr ())))
     (bnd (nthI y4 k_54) fun y83 =>
     bnd (tslc s i_53 (IntKind.wrap .i64 (i_53 + (List.length y83 : Int)))) fun y85 =>
     bnd (nthI y4 k_54) fun y87 =>
     cnd (!(y85 == y87))
      (some (.inr (.inr ())))
      (bnd (nthI y4 k_54) fun y89 =>
      cnd (k_54 == (IntKind.wrap .i64 ((List.length y4 : Int) - 1)))
       (some (.inr (.inl (IntKind.wrap .i64 (i_53 + (List.length y89 : Int))))))
       (cnd (decide ((IntKind.wrap .i64 (i_53 + (List.length y89 : Int))) ≥ (List.length s : Int)))
        (some (.inr (.inr ())))
        (bnd (nthI s (IntKind.wrap .i64 (i_53 + (List.length y89 : Int)))) fun y91 =>
        cnd ((y91.toNat : Int) != 10)
         (bnd (nthI s (IntKind.wrap .i64 (i_53 + (List.length y89 : Int)))) fun y93 =>
         cnd ((y93.toNat : Int) != 13)
          (some (.inr (.inr ())))
          (bnd (nthI s (IntKind.wrap .i64 (i_53 + (List.length y89 : Int)))) fun y95 =>
          cnd ((y95.toNat : Int) == 13)
           (cnd (decide ((IntKind.wrap .i64 ((IntKind.wrap .i64 (i_53 + (List.length y89 : Int))) + 1)) < (List.length s : Int)))
            (bnd (nthI s (IntKind.wrap .i64 ((IntKind.wrap .i64 (i_53 + (List.length y89 : Int))) + 1))) fun y97 =>
            cnd ((y97.toNat : Int) == 10)
             (some (.inl ((IntKind.wrap .i64 ((IntKind.wrap .i64 ((IntKind.wrap .i64 (i_53 + (List.length y89 : Int))) + 1)) + 1)), (IntKind.wrap .i64 (k_54 + 1)))))
             (some (.inl ((IntKind.wrap .i64 ((IntKind.wrap .i64 (i_53 + (List.length y89 : Int))) + 1)), (IntKind.wrap .i64 (k_54 + 1))))))
            (some (.inl ((IntKind.wrap .i64 ((IntKind.wrap .i64 (i_53 + (List.length y89 : Int))) + 1)), (IntKind.wrap .i64 (k_54 + 1))))))
           (some (.inl ((IntKind.wrap .i64 ((IntKind.wrap .i64 (i_53 + (List.length y89 : Int))) + 1)), (IntKind.wrap .i64 (k_54 + 1)))))))
         (bnd (nthI s (IntKind.wrap .i64 (i_53 + (List.length y89 : Int)))) fun y99 =>
         cnd ((y99.toNat : Int) == 13)
          (cnd (decide ((IntKind.wrap .i64 ((IntKind.wrap .i64 (i_53 + (List.length y89 : Int))) + 1)) < (List.length s : Int)))
           (bnd (nthI s (IntKind.wrap .i64 ((IntKind.wrap .i64 (i_53 + (List.length y89 : Int))) + 1))) fun y101 =>
           cnd ((y101.toNat : Int) == 10)
            (some (.inl ((IntKind.wrap .i64 ((IntKind.wrap .i64 ((IntKind.wrap .i64 (i_53 + (List.length y89 : Int))) + 1)) + 1)), (IntKind.wrap .i64 (k_54 + 1)))))
            (some (.inl ((IntKind.wrap .i64 ((IntKind.wrap .i64 (i_53 + (List.length y89 : Int))) + 1)), (IntKind.wrap .i64 (k_54 + 1))))))
           (some (.inl ((IntKind.wrap .i64 ((IntKind.wrap .i64 (i_53 + (List.length y89 : Int))) + 1)), (IntKind.wrap .i64 (k_54 + 1))))))
          (some (.inl ((IntKind.wrap .i64 ((IntKind.wrap .i64 (i_53 + (List.length y89 : Int))) + 1)), (IntKind.wrap .i64 (k_54 + 1)))))))))))
   (fun p79 =>
   some (.inr (.inr ()))))
   (some (.inr (.inl i_53)))
abbrev seinelaw2_BlockLines_l2R (s : Str) (y4 : List Str) (st : Int × Int) (l : List PV) (u : UP) : Prop := l = [(.str s), (.bool false), (.slice (List.map PV.str y4) [] true), (.int .i64 st.1), (.int .i64 st.2)] ∧ u = []
abbrev seinelaw2_BlockLines_l2X (s : Str) (y4 : List Str) (p : Int ⊕ Unit) (r : Ex × List PV × UP) : Prop := elim p (fun (p : Int) => ∃ (k_103 : Int), r = (Ex.brk 0, [(.str s), (.bool false), (.slice (List.map PV.str y4) [] true), (.int .i64 p), (.int .i64 k_103)], [])) (fun q2 => (fun (p : Unit) => ∃ (i_104 : Int), ∃ (k_105 : Int), r = (Ex.ret, [(.str s), (.bool false), (.slice (List.map PV.str y4) [] true), (.int .i64 i_104), (.int .i64 k_105)], [])) q2)
noncomputable def seinelaw2_BlockLines_B (s : Str) : Option Bool :=
  cnd (decide ((List.length s : Int) > 3000))
   (bnd (seinelaw2_awake) fun y2 =>
   some y2)
   (bnd (block_Lines s) fun y4 =>
   bnd (tloop (seinelaw2_BlockLines_l2T s y4) (0, 0)) fun e106_2 => elim e106_2
   (fun i_102 =>
    cnd (decide ((List.length y4 : Int) > 0))
     (cnd (i_102 == (List.length s : Int))
      (bnd (seinelaw2_awake) fun y108 =>
      some y108)
      (some false))
     (some false))
   (fun p106 =>
   some false))
def seinelaw2_BlockLines_ds : Decs := { decs := [(10, .bool), (12, (.sl true)), (22, (.ref .str)), (30, (.ref .str)), (33, (.int .u8)), (38, (.ref .str)), (41, (.int .u8)), (46, (.ref .str)), (60, (.ref .str)), (64, .str), (67, (.ref .str)), (74, (.ref .str)), (90, (.int .u8)), (95, (.int .u8)), (101, (.int .u8)), (114, (.int .u8)), (131, .bool)], ups := [], loops := [(6, [], ⟨[.str, .bool, (.sl true), (.int .i64), (.int .i64)], [], [(some 0, [.str, .bool, (.sl true), (.int .i64), (.int .i64)], []), (none, [.str, .bool, (.sl true), (.int .i64), (.int .i64)], [])]⟩), (9, [], ⟨[.str, .bool, (.sl true), (.int .i64), (.int .i64), (.int .i64)], [], [(some 2, [.str, .bool, (.sl true), (.int .i64), (.int .i64), (.int .i64)], []), (none, [.str, .bool, (.sl true), (.int .i64), (.int .i64), (.int .i64)], [])]⟩)] }
set_option maxRecDepth 100000 in
theorem seinelaw2_BlockLines_t1 (O : Orc) (LP : LBody → LBody) (s : Str) : evalBodyD Try.prog (MT 5) seinelaw2_BlockLines_ds Try.f5.ntmps O LP Try.f5 [(.str s)] [] = seinelaw2_BlockLines_T1 O LP s := by kernel_rfl
theorem seinelaw2_BlockLines_l1_ok (s : Str) (y4 : List Str) (i_53 : Int) (k_54 : Int) : ∀ st l u, seinelaw2_BlockLines_l1R s y4 i_53 k_54 st l u → Imp (seinelaw2_BlockLines_l1T y4 k_54 st) (seinelaw2_BlockLines_l1 O loopLim l u) (StepR (seinelaw2_BlockLines_l1R s y4 i_53 k_54) (seinelaw2_BlockLines_l1X s y4 i_53 k_54)) := by
  rintro j_66 l u ⟨rfl, rfl⟩
  simp only [seinelaw2_BlockLines_l1T, seinelaw2_BlockLines_l1]
  refine Imp.chk rfl (Imp.chk rfl ?_)
  try simp only [evs, tys]
  refine Imp.op (f := fun a => .ref (PV.str a)) (fun a h => op_ix (enc := PV.str) (by first | rfl | simp only [evs, tys, evl]) ⟨by first | rfl | simp only [evs, tys, evc], by decide⟩ h) (fun a => rfl) fun y68 hy68 => ?_
  try simp only [evs, tys]
  refine Imp.cnd ?_ ?_
  · refine Imp.op (f := fun a => .ref (PV.str a)) (fun a h => op_ix (enc := PV.str) (by first | rfl | simp only [evs, tys, evl]) ⟨by first | rfl | simp only [evs, tys, evc], by decide⟩ h) (fun a => rfl) fun y70 hy70 => ?_
    try simp only [evs, tys]
    refine Imp.op (f := fun a => .int .u8 (a.toNat : Int)) (fun a h => op_ixStr h) (fun a => rfl) fun y72 hy72 => ?_
    try simp only [evs, tys]
    refine Imp.cnd ?_ ?_
    · exact Imp.some (StepR.ret ⟨j_66, by first | rfl | simp only [evs, tys, evl, elim_inl, elim_inr]⟩)
    · refine Imp.op (f := fun a => .ref (PV.str a)) (fun a h => op_ix (enc := PV.str) (by first | rfl | simp only [evs, tys, evl]) ⟨by first | rfl | simp only [evs, tys, evc], by decide⟩ h) (fun a => rfl) fun y74 hy74 => ?_
      try simp only [evs, tys]
      refine Imp.op (f := fun a => .int .u8 (a.toNat : Int)) (fun a h => op_ixStr h) (fun a => rfl) fun y76 hy76 => ?_
      try simp only [evs, tys]
      refine Imp.cnd ?_ ?_
      · exact Imp.some (StepR.ret ⟨j_66, by first | rfl | simp only [evs, tys, evl, elim_inl, elim_inr]⟩)
      · exact Imp.some (StepR.next ⟨by first | rfl | simp only [evs, tys, evl], rfl⟩)
  · exact Imp.some (StepR.brk ⟨j_66, by first | rfl | simp only [evs, tys, evl, elim_inl, elim_inr]⟩)
theorem seinelaw2_BlockLines_l2_ok (s : Str) (y4 : List Str) : ∀ st l u, seinelaw2_BlockLines_l2R s y4 st l u → Imp (seinelaw2_BlockLines_l2T s y4 st) (seinelaw2_BlockLines_l2 O loopLim l u) (StepR (seinelaw2_BlockLines_l2R s y4) (seinelaw2_BlockLines_l2X s y4)) := by
  rintro ⟨i_53, k_54⟩ l u ⟨rfl, rfl⟩
  simp only [seinelaw2_BlockLines_l2T, seinelaw2_BlockLines_l2]
  refine Imp.chk rfl (Imp.chk rfl ?_)
  try simp only [evs, tys]
  refine Imp.cnd ?_ ?_
  · refine Imp.bnd (Imp.loop (seinelaw2_BlockLines_l1_ok s y4 i_53 k_54) ⟨by first | rfl | simp only [evs, tys, evl], rfl⟩) ?_
    rintro (p | p) vy79 hy79
    · try simp only [elim_inl, elim_inr]
      obtain ⟨j_77, rfl⟩ := hy79
      refine Imp.exHit rfl (Imp.chk rfl (Imp.chk rfl ?_))
      try simp only [evs, tys]
      refine Imp.op (f := fun a => .ref (PV.str a)) (fun a h => op_ix (enc := PV.str) (by first | rfl | simp only [evs, tys, evl]) ⟨by first | rfl | simp only [evs, tys, evc], by decide⟩ h) (fun a => rfl) fun y81 hy81 => ?_
      try simp only [evs, tys]
      refine Imp.cnd ?_ ?_
      · exact Imp.some (StepR.ret ⟨i_53, k_54, by first | rfl | simp only [evs, tys, evl, elim_inl, elim_inr]⟩)
      · refine Imp.op (f := fun a => .ref (PV.str a)) (fun a h => op_ix (enc := PV.str) (by first | rfl | simp only [evs, tys, evl]) ⟨by first | rfl | simp only [evs, tys, evc], by decide⟩ h) (fun a => rfl) fun y83 hy83 => ?_
        try simp only [evs, tys]
        refine Imp.op (f := fun a => .str a) (fun a h => op_sslcLH h) (fun a => rfl) fun y85 hy85 => ?_
        try simp only [evs, tys]
        refine Imp.op (f := fun a => .ref (PV.str a)) (fun a h => op_ix (enc := PV.str) (by first | rfl | simp only [evs, tys, evl]) ⟨by first | rfl | simp only [evs, tys, evc], by decide⟩ h) (fun a => rfl) fun y87 hy87 => ?_
        try simp only [evs, tys]
        refine Imp.cnd ?_ ?_
        · exact Imp.some (StepR.ret ⟨i_53, k_54, by first | rfl | simp only [evs, tys, evl, elim_inl, elim_inr]⟩)
        · refine Imp.op (f := fun a => .ref (PV.str a)) (fun a h => op_ix (enc := PV.str) (by first | rfl | simp only [evs, tys, evl]) ⟨by first | rfl | simp only [evs, tys, evc], by decide⟩ h) (fun a => rfl) fun y89 hy89 => ?_
          try simp only [evs, tys]
          refine Imp.cnd ?_ ?_
          · exact Imp.some (StepR.brk ⟨k_54, by first | rfl | simp only [evs, tys, evl, elim_inl, elim_inr]⟩)
          · refine Imp.cnd ?_ ?_
            · exact Imp.some (StepR.ret ⟨(IntKind.wrap .i64 (i_53 + (List.length y89 : Int))), k_54, by first | rfl | simp only [evs, tys, evl, elim_inl, elim_inr]⟩)
            · refine Imp.op (f := fun a => .int .u8 (a.toNat : Int)) (fun a h => op_ixStr h) (fun a => rfl) fun y91 hy91 => ?_
              try simp only [evs, tys]
              refine Imp.cnd ?_ ?_
              · refine Imp.op (f := fun a => .int .u8 (a.toNat : Int)) (fun a h => op_ixStr h) (fun a => rfl) fun y93 hy93 => ?_
                try simp only [evs, tys]
                refine Imp.cnd ?_ ?_
                · exact Imp.some (StepR.ret ⟨(IntKind.wrap .i64 (i_53 + (List.length y89 : Int))), k_54, by first | rfl | simp only [evs, tys, evl, elim_inl, elim_inr]⟩)
                · refine Imp.op (f := fun a => .int .u8 (a.toNat : Int)) (fun a h => op_ixStr h) (fun a => rfl) fun y95 hy95 => ?_
                  try simp only [evs, tys]
                  refine Imp.cnd ?_ ?_
                  · refine Imp.cnd ?_ ?_
                    · refine Imp.op (f := fun a => .int .u8 (a.toNat : Int)) (fun a h => op_ixStr h) (fun a => rfl) fun y97 hy97 => ?_
                      try simp only [evs, tys]
                      refine Imp.cnd ?_ ?_
                      · exact Imp.some (StepR.next ⟨by first | rfl | simp only [evs, tys, evl], rfl⟩)
                      · exact Imp.some (StepR.next ⟨by first | rfl | simp only [evs, tys, evl], rfl⟩)
                    · exact Imp.some (StepR.next ⟨by first | rfl | simp only [evs, tys, evl], rfl⟩)
                  · exact Imp.some (StepR.next ⟨by first | rfl | simp only [evs, tys, evl], rfl⟩)
              · refine Imp.op (f := fun a => .int .u8 (a.toNat : Int)) (fun a h => op_ixStr h) (fun a => rfl) fun y99 hy99 => ?_
                try simp only [evs, tys]
                refine Imp.cnd ?_ ?_
                · refine Imp.cnd ?_ ?_
                  · refine Imp.op (f := fun a => .int .u8 (a.toNat : Int)) (fun a h => op_ixStr h) (fun a => rfl) fun y101 hy101 => ?_
                    try simp only [evs, tys]
                    refine Imp.cnd ?_ ?_
                    · exact Imp.some (StepR.next ⟨by first | rfl | simp only [evs, tys, evl], rfl⟩)
                    · exact Imp.some (StepR.next ⟨by first | rfl | simp only [evs, tys, evl], rfl⟩)
                  · exact Imp.some (StepR.next ⟨by first | rfl | simp only [evs, tys, evl], rfl⟩)
                · exact Imp.some (StepR.next ⟨by first | rfl | simp only [evs, tys, evl], rfl⟩)
    · try simp only [elim_inl, elim_inr]
      obtain ⟨j_78, rfl⟩ := hy79
      refine Imp.exMiss rfl ?_
      refine Imp.exHit rfl (Imp.chk rfl (Imp.chk rfl ?_))
      try simp only [evs, tys]
      exact Imp.some (StepR.ret ⟨i_53, k_54, by first | rfl | simp only [evs, tys, evl, elim_inl, elim_inr]⟩)
  · exact Imp.some (StepR.brk ⟨k_54, by first | rfl | simp only [evs, tys, evl, elim_inl, elim_inr]⟩)
theorem seinelaw2_BlockLines_imp (s : Str) : Imp (seinelaw2_BlockLines_B s) (seinelaw2_BlockLines_T1 O loopLim s) (fun r v => v = (seinelaw2_BlockLinesE r, [])) := by
  simp only [seinelaw2_BlockLines_B, seinelaw2_BlockLines_T1]
  try simp only [evs, tys]
  refine Imp.cnd ?_ ?_
  · refine Imp.call (f := seinelaw2_awakeE) rfl (fun a h => by first | exact seinelaw2_awake_spec h | simpa only [evs, tys, evl] using seinelaw2_awake_spec h) (fun a => by first | rfl | simp only [seinelaw2_awakeE, evk, chks]) fun y2 hy2 => ?_
    try simp only [seinelaw2_awakeE, evs, tys]
    exact Imp.some (by first | rfl | simp only [seinelaw2_BlockLinesE, evs, tys, evl])
  · refine Imp.call (f := block_LinesE) rfl (fun a h => by first | exact block_Lines_spec h | simpa only [evs, tys, evl] using block_Lines_spec h) (fun a => by first | rfl | simp only [block_LinesE, evk, chks]) fun y4 hy4 => ?_
    try simp only [block_LinesE, evs, tys]
    refine Imp.bnd (Imp.loop (seinelaw2_BlockLines_l2_ok s y4) ⟨by first | rfl | simp only [evs, tys, evl], rfl⟩) ?_
    rintro (i_102 | p) vy106 hy106
    · try simp only [elim_inl, elim_inr]
      obtain ⟨k_103, rfl⟩ := hy106
      refine Imp.exHit rfl (Imp.chk rfl (Imp.chk rfl ?_))
      try simp only [evs, tys]
      refine Imp.cnd ?_ ?_
      · refine Imp.cnd ?_ ?_
        · refine Imp.call (f := seinelaw2_awakeE) rfl (fun a h => by first | exact seinelaw2_awake_spec h | simpa only [evs, tys, evl] using seinelaw2_awake_spec h) (fun a => by first | rfl | simp only [seinelaw2_awakeE, evk, chks]) fun y108 hy108 => ?_
          try simp only [seinelaw2_awakeE, evs, tys]
          exact Imp.some (by first | rfl | simp only [seinelaw2_BlockLinesE, evs, tys, evl])
        · exact Imp.some (by first | rfl | simp only [seinelaw2_BlockLinesE, evs, tys, evl])
      · exact Imp.some (by first | rfl | simp only [seinelaw2_BlockLinesE, evs, tys, evl])
    · try simp only [elim_inl, elim_inr]
      obtain ⟨i_104, k_105, rfl⟩ := hy106
      refine Imp.exMiss rfl ?_
      refine Imp.exHit rfl (Imp.chk rfl (Imp.chk rfl ?_))
      try simp only [evs, tys]
      exact Imp.some (by first | rfl | simp only [seinelaw2_BlockLinesE, evs, tys, evl])
theorem seinelaw2_BlockLines_run {s : Str} {r : Bool} (h : seinelaw2_BlockLines_B s = some r) : seinelaw2_BlockLines s = some r := by
  obtain ⟨v, hv, rfl⟩ := seinelaw2_BlockLines_imp s r h
  exact tO_of (pair_inj seinelaw2_BlockLinesEj) (OL_runD seinelaw2_BlockLines_ds rfl rfl Try.func5 ((seinelaw2_BlockLines_t1 _ _ s).trans hv))

def seinelaw2_BlockClean_l1 (O : Orc) (LP : LBody → LBody) : LBody := fun s5 s5u => cnd (chkL [.str, .bool, .str, (.int .i64)] s5) (cnd (chkU [] s5u)
  (cnd (decide ((intV (gt s5 3)) < (List.length (strV (gt s5 2)) : Int)))
   (bnd (ixStr (.str (strV (gt s5 2))) (.int .i64 (intV (gt s5 3)))) fun x9 => cnd (chk (.int .u8) x9)
   (cnd ((intV x9) == 13)
    (some (.ret, [(.str (strV (gt s5 0))), (.bool false), (.str (strV (gt s5 2))), (.int .i64 (intV (gt s5 3)))], []))
    (some (.nrm, [(.str (strV (gt s5 0))), (.bool (boolV (gt s5 1))), (.str (strV (gt s5 2))), (.int .i64 (IntKind.wrap .i64 ((intV (gt s5 3)) + 1)))], []))) none)
   (some (.brk 0, [(.str (strV (gt s5 0))), (.bool (boolV (gt s5 1))), (.str (strV (gt s5 2))), (.int .i64 (intV (gt s5 3)))], []))) none) none
def seinelaw2_BlockClean_T1 (O : Orc) (LP : LBody → LBody) (raw : Str) : Option (PV × UP) :=
  cnd (decide ((List.length raw : Int) > 3000))
   (callp O 8 [] fun x1 => cnd (chk .bool x1)
   (some ((.bool (boolV x1)), [])) none)
   (callp O 14 [(.str raw)] fun x3 => cnd (chk .str x3)
   (bnd (LP (seinelaw2_BlockClean_l1 O LP) [(.str raw), (.bool false), (.str (strV x3)), (.int .i64 0)] []) fun y13 =>
   exIs y13.1 (some 0) (cnd (chkL [.str, .bool, .str, (.int .i64)] y13.2.1) (cnd (chkU [] y13.2.2)
    (callp O 9 [(.str (strV (gt y13.2.1 2)))] fun x14 => cnd (chk (.sl true) x14)
    (cnd ((List.length (esV x14) : Int) == 0)
     (some ((.bool false), []))
     (cnd (decide ((List.length (strV (gt y13.2.1 2)) : Int) > (List.length (strV (gt y13.2.1 0)) : Int)))
      (some ((.bool false), []))
      (cnd ((strV (gt y13.2.1 2)) == ([] : Str))
       (callp O 8 [] fun x16 => cnd (chk .bool x16)
       (some ((.bool (boolV x16)), [])) none)
       (bnd (ix 1 (.slice (esV x14) [] false) (.int .i64 0)) fun x18 => cnd (chk (.ref .str) x18)
       (callp O 18 [(.str (strV (refV x18)))] fun x20 => cnd (chk .bool x20)
       (cnd (!(boolV x20))
        (bnd (ix 1 (.slice (esV x14) [] false) (.int .i64 (IntKind.wrap .i64 ((List.length (esV x14) : Int) - 1)))) fun x22 => cnd (chk (.ref .str) x22)
        (callp O 18 [(.str (strV (refV x22)))] fun x24 => cnd (chk .bool x24)
        (cnd (!(boolV x24))
         (callp O 8 [] fun x26 => cnd (chk .bool x26)
         (some ((.bool (boolV x26)), [])) none)
         (some ((.bool false), []))) none) none)
        (some ((.bool false), []))) none) none)))) none) none) none)
   (exIs y13.1 none (cnd (chkL [.str, .bool, .str, (.int .i64)] y13.2.1) (cnd (chkU [] y13.2.2)
    (some ((.bool (boolV (gt y13.2.1 1))), [])) none) none)
   (none))) none)
noncomputable def seinelaw2_BlockClean_l1T (y4 : Str) : Int → Option (Int ⊕ (Unit ⊕ Unit))
  | i_8 =>
  cnd (decide (i_8 < (List.length y4 : Int)))
   (bnd (nthI y4 i_8) fun y10 =>
   cnd ((y10.toNat : Int) == 13)
    (some (.inr (.inr ())))
    (some (.inl (IntKind.wrap .i64 (i_8 + 1)))))
   (some (.inr (.inl ())))
abbrev seinelaw2_BlockClean_l1R (raw : Str) (y4 : Str) (st : Int) (l : List PV) (u : UP) : Prop := l = [(.str raw), (.bool false), (.str y4), (.int .i64 st)] ∧ u = []
abbrev seinelaw2_BlockClean_l1X (raw : Str) (y4 : Str) (p : Unit ⊕ Unit) (r : Ex × List PV × UP) : Prop := elim p (fun (p : Unit) => ∃ (i_11 : Int), r = (Ex.brk 0, [(.str raw), (.bool false), (.str y4), (.int .i64 i_11)], [])) (fun q2 => (fun (p : Unit) => ∃ (i_12 : Int), r = (Ex.ret, [(.str raw), (.bool false), (.str y4), (.int .i64 i_12)], [])) q2)
noncomputable def seinelaw2_BlockClean_B (raw : Str) : Option Bool :=
  cnd (decide ((List.length raw : Int) > 3000))
   (bnd (seinelaw2_awake) fun y2 =>
   some y2)
   (bnd (block_Value raw) fun y4 =>
   bnd (tloop (seinelaw2_BlockClean_l1T y4) 0) fun e13_2 => elim e13_2
   (fun p13 =>
    bnd (block_Lines y4) fun y15 =>
    cnd ((List.length y15 : Int) == 0)
     (some false)
     (cnd (decide ((List.length y4 : Int) > (List.length raw : Int)))
      (some false)
      (cnd (y4 == ([] : Str))
       (bnd (seinelaw2_awake) fun y17 =>
       some y17)
       (bnd (nthI y15 0) fun y19 =>
       bnd (seinelaw2_blank y19) fun y21 =>
       cnd (!y21)
        (bnd (nthI y15 (IntKind.wrap .i64 ((List.length y15 : Int) - 1))) fun y23 =>
        bnd (seinelaw2_blank y23) fun y25 =>
        cnd (!y25)
         (bnd (seinelaw2_awake) fun y27 =>
         some y27)
         (some false))
        (some false)))))
   (fun p13 =>
   some false))
def seinelaw2_BlockClean_ds : Decs := { decs := [(9, .bool), (11, .str), (20, (.int .u8)), (23, (.sl true)), (38, (.ref .str)), (40, .bool), (47, (.ref .str)), (49, .bool), (54, .bool)], ups := [], loops := [(5, [], ⟨[.str, .bool, .str, (.int .i64)], [], [(some 0, [.str, .bool, .str, (.int .i64)], []), (none, [.str, .bool, .str, (.int .i64)], [])]⟩)] }
set_option maxRecDepth 100000 in
theorem seinelaw2_BlockClean_t1 (O : Orc) (LP : LBody → LBody) (raw : Str) : evalBodyD Try.prog (MT 6) seinelaw2_BlockClean_ds Try.f6.ntmps O LP Try.f6 [(.str raw)] [] = seinelaw2_BlockClean_T1 O LP raw := by kernel_rfl
theorem seinelaw2_BlockClean_l1_ok (raw : Str) (y4 : Str) : ∀ st l u, seinelaw2_BlockClean_l1R raw y4 st l u → Imp (seinelaw2_BlockClean_l1T y4 st) (seinelaw2_BlockClean_l1 O loopLim l u) (StepR (seinelaw2_BlockClean_l1R raw y4) (seinelaw2_BlockClean_l1X raw y4)) := by
  rintro i_8 l u ⟨rfl, rfl⟩
  simp only [seinelaw2_BlockClean_l1T, seinelaw2_BlockClean_l1]
  refine Imp.chk rfl (Imp.chk rfl ?_)
  try simp only [evs, tys]
  refine Imp.cnd ?_ ?_
  · refine Imp.op (f := fun a => .int .u8 (a.toNat : Int)) (fun a h => op_ixStr h) (fun a => rfl) fun y10 hy10 => ?_
    try simp only [evs, tys]
    refine Imp.cnd ?_ ?_
    · exact Imp.some (StepR.ret ⟨i_8, by first | rfl | simp only [evs, tys, evl, elim_inl, elim_inr]⟩)
    · exact Imp.some (StepR.next ⟨by first | rfl | simp only [evs, tys, evl], rfl⟩)
  · exact Imp.some (StepR.brk ⟨i_8, by first | rfl | simp only [evs, tys, evl, elim_inl, elim_inr]⟩)
theorem seinelaw2_BlockClean_imp (raw : Str) : Imp (seinelaw2_BlockClean_B raw) (seinelaw2_BlockClean_T1 O loopLim raw) (fun r v => v = (seinelaw2_BlockCleanE r, [])) := by
  simp only [seinelaw2_BlockClean_B, seinelaw2_BlockClean_T1]
  try simp only [evs, tys]
  refine Imp.cnd ?_ ?_
  · refine Imp.call (f := seinelaw2_awakeE) rfl (fun a h => by first | exact seinelaw2_awake_spec h | simpa only [evs, tys, evl] using seinelaw2_awake_spec h) (fun a => by first | rfl | simp only [seinelaw2_awakeE, evk, chks]) fun y2 hy2 => ?_
    try simp only [seinelaw2_awakeE, evs, tys]
    exact Imp.some (by first | rfl | simp only [seinelaw2_BlockCleanE, evs, tys, evl])
  · refine Imp.call (f := block_ValueE) rfl (fun a h => by first | exact block_Value_spec h | simpa only [evs, tys, evl] using block_Value_spec h) (fun a => by first | rfl | simp only [block_ValueE, evk, chks]) fun y4 hy4 => ?_
    try simp only [block_ValueE, evs, tys]
    refine Imp.bnd (Imp.loop (seinelaw2_BlockClean_l1_ok raw y4) ⟨by first | rfl | simp only [evs, tys, evl], rfl⟩) ?_
    rintro (p | p) vy13 hy13
    · try simp only [elim_inl, elim_inr]
      obtain ⟨i_11, rfl⟩ := hy13
      refine Imp.exHit rfl (Imp.chk rfl (Imp.chk rfl ?_))
      try simp only [evs, tys]
      refine Imp.call (f := block_LinesE) rfl (fun a h => by first | exact block_Lines_spec h | simpa only [evs, tys, evl] using block_Lines_spec h) (fun a => by first | rfl | simp only [block_LinesE, evk, chks]) fun y15 hy15 => ?_
      try simp only [block_LinesE, evs, tys]
      refine Imp.cnd ?_ ?_
      · exact Imp.some (by first | rfl | simp only [seinelaw2_BlockCleanE, evs, tys, evl])
      · refine Imp.cnd ?_ ?_
        · exact Imp.some (by first | rfl | simp only [seinelaw2_BlockCleanE, evs, tys, evl])
        · refine Imp.cnd ?_ ?_
          · refine Imp.call (f := seinelaw2_awakeE) rfl (fun a h => by first | exact seinelaw2_awake_spec h | simpa only [evs, tys, evl] using seinelaw2_awake_spec h) (fun a => by first | rfl | simp only [seinelaw2_awakeE, evk, chks]) fun y17 hy17 => ?_
            try simp only [seinelaw2_awakeE, evs, tys]
            exact Imp.some (by first | rfl | simp only [seinelaw2_BlockCleanE, evs, tys, evl])
          · refine Imp.op (f := fun a => .ref (PV.str a)) (fun a h => op_ix (enc := PV.str) (by first | rfl | simp only [evs, tys, evl]) ⟨by first | rfl | simp only [evs, tys, evc], by decide⟩ h) (fun a => rfl) fun y19 hy19 => ?_
            try simp only [evs, tys]
            refine Imp.call (f := seinelaw2_blankE) rfl (fun a h => by first | exact seinelaw2_blank_spec h | simpa only [evs, tys, evl] using seinelaw2_blank_spec h) (fun a => by first | rfl | simp only [seinelaw2_blankE, evk, chks]) fun y21 hy21 => ?_
            try simp only [seinelaw2_blankE, evs, tys]
            refine Imp.cnd ?_ ?_
            · refine Imp.op (f := fun a => .ref (PV.str a)) (fun a h => op_ix (enc := PV.str) (by first | rfl | simp only [evs, tys, evl]) ⟨by first | rfl | simp only [evs, tys, evc], by decide⟩ h) (fun a => rfl) fun y23 hy23 => ?_
              try simp only [evs, tys]
              refine Imp.call (f := seinelaw2_blankE) rfl (fun a h => by first | exact seinelaw2_blank_spec h | simpa only [evs, tys, evl] using seinelaw2_blank_spec h) (fun a => by first | rfl | simp only [seinelaw2_blankE, evk, chks]) fun y25 hy25 => ?_
              try simp only [seinelaw2_blankE, evs, tys]
              refine Imp.cnd ?_ ?_
              · refine Imp.call (f := seinelaw2_awakeE) rfl (fun a h => by first | exact seinelaw2_awake_spec h | simpa only [evs, tys, evl] using seinelaw2_awake_spec h) (fun a => by first | rfl | simp only [seinelaw2_awakeE, evk, chks]) fun y27 hy27 => ?_
                try simp only [seinelaw2_awakeE, evs, tys]
                exact Imp.some (by first | rfl | simp only [seinelaw2_BlockCleanE, evs, tys, evl])
              · exact Imp.some (by first | rfl | simp only [seinelaw2_BlockCleanE, evs, tys, evl])
            · exact Imp.some (by first | rfl | simp only [seinelaw2_BlockCleanE, evs, tys, evl])
    · try simp only [elim_inl, elim_inr]
      obtain ⟨i_12, rfl⟩ := hy13
      refine Imp.exMiss rfl ?_
      refine Imp.exHit rfl (Imp.chk rfl (Imp.chk rfl ?_))
      try simp only [evs, tys]
      exact Imp.some (by first | rfl | simp only [seinelaw2_BlockCleanE, evs, tys, evl])
theorem seinelaw2_BlockClean_run {raw : Str} {r : Bool} (h : seinelaw2_BlockClean_B raw = some r) : seinelaw2_BlockClean raw = some r := by
  obtain ⟨v, hv, rfl⟩ := seinelaw2_BlockClean_imp raw r h
  exact tO_of (pair_inj seinelaw2_BlockCleanEj) (OL_runD seinelaw2_BlockClean_ds rfl rfl Try.func6 ((seinelaw2_BlockClean_t1 _ _ raw).trans hv))
end Go.Proofs.Ytlaomadhhdcflaa

/- Printed by symgen.py: typed functions of this seat, and why they tell what the program does. -/
set_option linter.unusedVariables false
set_option linter.unusedSimpArgs false
open Go Go.Ev Go.Ev.PV
namespace Go.Proofs.Ytlaomadhhdcflaa
def seinelaw2_BlockShifts_l1 (O : Orc) (LP : LBody → LBody) : LBody := fun s7 s7u => cnd (chkL [(.sl false), (.int .i64), .str, (.int .i64)] s7) (cnd (chkU [] s7u)
  (cnd (decide ((intV (gt s7 3)) < (intV (gt s7 1))))
   (bnd (bin .add (.str (strV (gt s7 2))) (.str [32])) fun x12 => cnd (chk .str x12)
   (some (.nrm, [(.slice (esV (gt s7 0)) [] false), (.int .i64 (intV (gt s7 1))), (.str (strV x12)), (.int .i64 (IntKind.wrap .i64 ((intV (gt s7 3)) + 1)))], [])) none)
   (some (.brk 0, [(.slice (esV (gt s7 0)) [] false), (.int .i64 (intV (gt s7 1))), (.str (strV (gt s7 2))), (.int .i64 (intV (gt s7 3)))], []))) none) none
def seinelaw2_BlockShifts_l2 (O : Orc) (LP : LBody → LBody) : LBody := fun s17 s17u => cnd (chkL [(.sl false), .bot, .str, .str, .str, (.int .i64)] s17) (cnd (chkU [] s17u)
  (cnd (decide ((intV (gt s17 5)) < (List.length (esV (gt s17 0)) : Int)))
   (bnd (ix 1 (.slice (esV (gt s17 0)) [] false) (.int .i64 (intV (gt s17 5)))) fun x45 => cnd (chk (.ref .str) x45)
   (cnd (decide ((List.length (strV (refV x45)) : Int) > 100))
    (callp O 8 [] fun x47 => cnd (chk .bool x47)
    (some (.ret, [(.slice (esV (gt s17 0)) [] false), (.bool (boolV x47)), (.str (strV (gt s17 2))), (.str (strV (gt s17 3))), (.str (strV (gt s17 4))), (.int .i64 (intV (gt s17 5)))], [])) none)
    (bnd (ix 1 (.slice (esV (gt s17 0)) [] false) (.int .i64 (intV (gt s17 5)))) fun x49 => cnd (chk (.ref .str) x49)
    (callp O 9 [(.str (strV (refV x49)))] fun x51 => cnd (chk (.sl true) x51)
    (cnd ((List.length (esV x51) : Int) != 1)
     (callp O 8 [] fun x53 => cnd (chk .bool x53)
     (some (.ret, [(.slice (esV (gt s17 0)) [] false), (.bool (boolV x53)), (.str (strV (gt s17 2))), (.str (strV (gt s17 3))), (.str (strV (gt s17 4))), (.int .i64 (intV (gt s17 5)))], [])) none)
     (bnd (bin .add (.str (strV (gt s17 3))) (.str [10])) fun x55 => cnd (chk .str x55)
     (bnd (ix 1 (.slice (esV (gt s17 0)) [] false) (.int .i64 (intV (gt s17 5)))) fun x57 => cnd (chk (.ref .str) x57)
     (bnd (bin .add (.str (strV x55)) (.str (strV (refV x57)))) fun x59 => cnd (chk .str x59)
     (bnd (bin .add (.str (strV (gt s17 4))) (.str [10])) fun x61 => cnd (chk .str x61)
     (bnd (bin .add (.str (strV x61)) (.str (strV (gt s17 2)))) fun x63 => cnd (chk .str x63)
     (bnd (ix 1 (.slice (esV (gt s17 0)) [] false) (.int .i64 (intV (gt s17 5)))) fun x65 => cnd (chk (.ref .str) x65)
     (bnd (bin .add (.str (strV x63)) (.str (strV (refV x65)))) fun x67 => cnd (chk .str x67)
     (some (.nrm, [(.slice (esV (gt s17 0)) [] false), .bot, (.str (strV (gt s17 2))), (.str (strV x59)), (.str (strV x67)), (.int .i64 (IntKind.wrap .i64 ((intV (gt s17 5)) + 1)))], [])) none) none) none) none) none) none) none)) none) none)) none)
   (some (.brk 2, [(.slice (esV (gt s17 0)) [] false), .bot, (.str (strV (gt s17 2))), (.str (strV (gt s17 3))), (.str (strV (gt s17 4))), (.int .i64 (intV (gt s17 5)))], []))) none) none
def seinelaw2_BlockShifts_T1 (O : Orc) (LP : LBody → LBody) (l0 : List Str) (n : Int) : Option (PV × UP) :=
  cnd (decide ((List.length (List.map PV.str l0) : Int) > 100))
   (callp O 8 [] fun x1 => cnd (chk .bool x1)
   (some ((.bool (boolV x1)), [])) none)
   (cnd (decide (n < 0))
    (callp O 8 [] fun x3 => cnd (chk .bool x3)
    (some ((.bool (boolV x3)), [])) none)
    (cnd (decide (n > 20))
     (callp O 8 [] fun x5 => cnd (chk .bool x5)
     (some ((.bool (boolV x5)), [])) none)
     (bnd (LP (seinelaw2_BlockShifts_l1 O LP) [(.slice (List.map PV.str l0) [] false), (.int .i64 n), (.str []), (.int .i64 0)] []) fun y16 =>
     exIs y16.1 (some 0) (cnd (chkL [(.sl false), (.int .i64), .str, (.int .i64)] y16.2.1) (cnd (chkU [] y16.2.2)
      (bnd (LP (seinelaw2_BlockShifts_l2 O LP) [(.slice (esV (gt y16.2.1 0)) [] false), .bot, (.str (strV (gt y16.2.1 2))), (.str []), (.str []), (.int .i64 0)] []) fun y76 =>
      exIs y76.1 (some 2) (cnd (chkL [(.sl false), .bot, .str, .str, .str, (.int .i64)] y76.2.1) (cnd (chkU [] y76.2.2)
       (callp O 14 [(.str (strV (gt y76.2.1 3)))] fun x77 => cnd (chk .str x77)
       (callp O 14 [(.str (strV (gt y76.2.1 4)))] fun x79 => cnd (chk .str x79)
       (cnd ((strV x77) == (strV x79))
        (callp O 8 [] fun x81 => cnd (chk .bool x81)
        (some ((.bool (boolV x81)), [])) none)
        (some ((.bool false), []))) none) none) none) none)
      (exIs y76.1 none (cnd (chkL [(.sl false), .bool, .str, .str, .str, (.int .i64)] y76.2.1) (cnd (chkU [] y76.2.2)
       (some ((.bool (boolV (gt y76.2.1 1))), [])) none) none)
      (none))) none) none)
     (none))))
noncomputable def seinelaw2_BlockShifts_l1T (n : Int) : (Str × Int) → Option ((Str × Int) ⊕ Str)
  | (gap_10, i_11) =>
  cnd (decide (i_11 < n))
   (bnd (tapp gap_10 ([32] : Str)) fun y13 =>
   some (.inl (y13, (IntKind.wrap .i64 (i_11 + 1)))))
   (some (.inr gap_10))
abbrev seinelaw2_BlockShifts_l1R (l0 : List Str) (n : Int) (st : Str × Int) (l : List PV) (u : UP) : Prop := l = [(.slice (List.map PV.str l0) [] false), (.int .i64 n), (.str st.1), (.int .i64 st.2)] ∧ u = []
abbrev seinelaw2_BlockShifts_l1X (l0 : List Str) (n : Int) (p : Str) (r : Ex × List PV × UP) : Prop := (fun (p : Str) => ∃ (i_15 : Int), r = (Ex.brk 0, [(.slice (List.map PV.str l0) [] false), (.int .i64 n), (.str p), (.int .i64 i_15)], [])) p
noncomputable def seinelaw2_BlockShifts_l2T (l0 : List Str) (gap_14 : Str) : (Str × Str × Int) → Option ((Str × Str × Int) ⊕ ((Str × Str) ⊕ Bool))
  | (a_42, b_43, i_44) =>
  cnd (decide (i_44 < (List.length l0 : Int)))
   (bnd (nthI l0 i_44) fun y46 =>
   cnd (decide ((List.length y46 : Int) > 100))
    (bnd (seinelaw2_awake) fun y48 =>
    some (.inr (.inr y48)))
    (bnd (nthI l0 i_44) fun y50 =>
    bnd (block_Lines y50) fun y52 =>
    cnd ((List.length y52 : Int) != 1)
     (bnd (seinelaw2_awake) fun y54 =>
     some (.inr (.inr y54)))
     (bnd (tapp a_42 ([10] : Str)) fun y56 =>
     bnd (nthI l0 i_44) fun y58 =>
     bnd (tapp y56 y58) fun y60 =>
     bnd (tapp b_43 ([10] : Str)) fun y62 =>
     bnd (tapp y62 gap_14) fun y64 =>
     bnd (nthI l0 i_44) fun y66 =>
     bnd (tapp y64 y66) fun y68 =>
     some (.inl (y60, y68, (IntKind.wrap .i64 (i_44 + 1)))))))
   (some (.inr (.inl (a_42, b_43))))
abbrev seinelaw2_BlockShifts_l2R (l0 : List Str) (gap_14 : Str) (st : Str × Str × Int) (l : List PV) (u : UP) : Prop := l = [(.slice (List.map PV.str l0) [] false), .bot, (.str gap_14), (.str st.1), (.str st.2.1), (.int .i64 st.2.2)] ∧ u = []
abbrev seinelaw2_BlockShifts_l2X (l0 : List Str) (gap_14 : Str) (p : (Str × Str) ⊕ Bool) (r : Ex × List PV × UP) : Prop := elim p (fun (p : Str × Str) => ∃ (i_71 : Int), r = (Ex.brk 2, [(.slice (List.map PV.str l0) [] false), .bot, (.str gap_14), (.str p.1), (.str p.2), (.int .i64 i_71)], [])) (fun q2 => (fun (p : Bool) => ∃ (a_73 : Str), ∃ (b_74 : Str), ∃ (i_75 : Int), r = (Ex.ret, [(.slice (List.map PV.str l0) [] false), (.bool p), (.str gap_14), (.str a_73), (.str b_74), (.int .i64 i_75)], [])) q2)
noncomputable def seinelaw2_BlockShifts_B (l0 : List Str) (n : Int) : Option Bool :=
  cnd (decide ((List.length l0 : Int) > 100))
   (bnd (seinelaw2_awake) fun y2 =>
   some y2)
   (cnd (decide (n < 0))
    (bnd (seinelaw2_awake) fun y4 =>
    some y4)
    (cnd (decide (n > 20))
     (bnd (seinelaw2_awake) fun y6 =>
     some y6)
     (bnd (tloop (seinelaw2_BlockShifts_l1T n) ([], 0)) fun gap_14 =>
     bnd (tloop (seinelaw2_BlockShifts_l2T l0 gap_14) ([], [], 0)) fun e76_2 => elim e76_2
     (fun p76 =>
      bnd (block_Value p76.1) fun y78 =>
      bnd (block_Value p76.2) fun y80 =>
      cnd (y78 == y80)
       (bnd (seinelaw2_awake) fun y82 =>
       some y82)
       (some false))
     (fun t_72 =>
     some t_72))))
def seinelaw2_BlockShifts_ds : Decs := { decs := [(21, .bool), (28, .str), (37, (.ref .str)), (44, (.ref .str)), (46, (.sl true)), (50, .bool), (52, .str), (55, (.ref .str)), (57, .str), (59, .str), (61, .str), (64, (.ref .str)), (66, .str), (68, .str), (70, .str), (73, .bool)], ups := [], loops := [(5, [], ⟨[(.sl false), (.int .i64), .str, (.int .i64)], [], [(some 0, [(.sl false), (.int .i64), .str, (.int .i64)], [])]⟩), (10, [], ⟨[(.sl false), .bot, .str, .str, .str, (.int .i64)], [], [(some 2, [(.sl false), .bot, .str, .str, .str, (.int .i64)], []), (none, [(.sl false), .bool, .str, .str, .str, (.int .i64)], [])]⟩)] }
set_option maxRecDepth 100000 in
theorem seinelaw2_BlockShifts_t1 (O : Orc) (LP : LBody → LBody) (l0 : List Str) (n : Int) : evalBodyD Try.prog (MT 7) seinelaw2_BlockShifts_ds Try.f7.ntmps O LP Try.f7 [(.slice (List.map PV.str l0) [] false), (.int .i64 n)] [] = seinelaw2_BlockShifts_T1 O LP l0 n := by kernel_rfl
theorem seinelaw2_BlockShifts_l1_ok (l0 : List Str) (n : Int) : ∀ st l u, seinelaw2_BlockShifts_l1R l0 n st l u → Imp (seinelaw2_BlockShifts_l1T n st) (seinelaw2_BlockShifts_l1 O loopLim l u) (StepR (seinelaw2_BlockShifts_l1R l0 n) (seinelaw2_BlockShifts_l1X l0 n)) := by
  rintro ⟨gap_10, i_11⟩ l u ⟨rfl, rfl⟩
  simp only [seinelaw2_BlockShifts_l1T, seinelaw2_BlockShifts_l1]
  refine Imp.chk rfl (Imp.chk rfl ?_)
  try simp only [evs, tys]
  refine Imp.cnd ?_ ?_
  · refine Imp.op (f := fun a => .str a) (fun a h => op_cat h) (fun a => rfl) fun y13 hy13 => ?_
    try simp only [evs, tys]
    exact Imp.some (StepR.next ⟨by first | rfl | simp only [evs, tys, evl], rfl⟩)
  · exact Imp.some (StepR.brk ⟨i_11, by first | rfl | simp only [evs, tys, evl, elim_inl, elim_inr]⟩)
theorem seinelaw2_BlockShifts_l2_ok (l0 : List Str) (gap_14 : Str) : ∀ st l u, seinelaw2_BlockShifts_l2R l0 gap_14 st l u → Imp (seinelaw2_BlockShifts_l2T l0 gap_14 st) (seinelaw2_BlockShifts_l2 O loopLim l u) (StepR (seinelaw2_BlockShifts_l2R l0 gap_14) (seinelaw2_BlockShifts_l2X l0 gap_14)) := by
  rintro ⟨a_42, b_43, i_44⟩ l u ⟨rfl, rfl⟩
  simp only [seinelaw2_BlockShifts_l2T, seinelaw2_BlockShifts_l2]
  refine Imp.chk rfl (Imp.chk rfl ?_)
  try simp only [evs, tys]
  refine Imp.cnd ?_ ?_
  · refine Imp.op (f := fun a => .ref (PV.str a)) (fun a h => op_ix (enc := PV.str) (by first | rfl | simp only [evs, tys, evl]) ⟨by first | rfl | simp only [evs, tys, evc], by decide⟩ h) (fun a => rfl) fun y46 hy46 => ?_
    try simp only [evs, tys]
    refine Imp.cnd ?_ ?_
    · refine Imp.call (f := seinelaw2_awakeE) rfl (fun a h => by first | exact seinelaw2_awake_spec h | simpa only [evs, tys, evl] using seinelaw2_awake_spec h) (fun a => by first | rfl | simp only [seinelaw2_awakeE, evk, chks]) fun y48 hy48 => ?_
      try simp only [seinelaw2_awakeE, evs, tys]
      exact Imp.some (StepR.ret ⟨a_42, b_43, i_44, by first | rfl | simp only [evs, tys, evl, elim_inl, elim_inr]⟩)
    · refine Imp.op (f := fun a => .ref (PV.str a)) (fun a h => op_ix (enc := PV.str) (by first | rfl | simp only [evs, tys, evl]) ⟨by first | rfl | simp only [evs, tys, evc], by decide⟩ h) (fun a => rfl) fun y50 hy50 => ?_
      try simp only [evs, tys]
      refine Imp.call (f := block_LinesE) rfl (fun a h => by first | exact block_Lines_spec h | simpa only [evs, tys, evl] using block_Lines_spec h) (fun a => by first | rfl | simp only [block_LinesE, evk, chks]) fun y52 hy52 => ?_
      try simp only [block_LinesE, evs, tys]
      refine Imp.cnd ?_ ?_
      · refine Imp.call (f := seinelaw2_awakeE) rfl (fun a h => by first | exact seinelaw2_awake_spec h | simpa only [evs, tys, evl] using seinelaw2_awake_spec h) (fun a => by first | rfl | simp only [seinelaw2_awakeE, evk, chks]) fun y54 hy54 => ?_
        try simp only [seinelaw2_awakeE, evs, tys]
        exact Imp.some (StepR.ret ⟨a_42, b_43, i_44, by first | rfl | simp only [evs, tys, evl, elim_inl, elim_inr]⟩)
      · refine Imp.op (f := fun a => .str a) (fun a h => op_cat h) (fun a => rfl) fun y56 hy56 => ?_
        try simp only [evs, tys]
        refine Imp.op (f := fun a => .ref (PV.str a)) (fun a h => op_ix (enc := PV.str) (by first | rfl | simp only [evs, tys, evl]) ⟨by first | rfl | simp only [evs, tys, evc], by decide⟩ h) (fun a => rfl) fun y58 hy58 => ?_
        try simp only [evs, tys]
        refine Imp.op (f := fun a => .str a) (fun a h => op_cat h) (fun a => rfl) fun y60 hy60 => ?_
        try simp only [evs, tys]
        refine Imp.op (f := fun a => .str a) (fun a h => op_cat h) (fun a => rfl) fun y62 hy62 => ?_
        try simp only [evs, tys]
        refine Imp.op (f := fun a => .str a) (fun a h => op_cat h) (fun a => rfl) fun y64 hy64 => ?_
        try simp only [evs, tys]
        refine Imp.op (f := fun a => .ref (PV.str a)) (fun a h => op_ix (enc := PV.str) (by first | rfl | simp only [evs, tys, evl]) ⟨by first | rfl | simp only [evs, tys, evc], by decide⟩ h) (fun a => rfl) fun y66 hy66 => ?_
        try simp only [evs, tys]
        refine Imp.op (f := fun a => .str a) (fun a h => op_cat h) (fun a => rfl) fun y68 hy68 => ?_
        try simp only [evs, tys]
        exact Imp.some (StepR.next ⟨by first | rfl | simp only [evs, tys, evl], rfl⟩)
  · exact Imp.some (StepR.brk ⟨i_44, by first | rfl | simp only [evs, tys, evl, elim_inl, elim_inr]⟩)
theorem seinelaw2_BlockShifts_imp (l0 : List Str) (n : Int) : Imp (seinelaw2_BlockShifts_B l0 n) (seinelaw2_BlockShifts_T1 O loopLim l0 n) (fun r v => v = (seinelaw2_BlockShiftsE r, [])) := by
  simp only [seinelaw2_BlockShifts_B, seinelaw2_BlockShifts_T1]
  try simp only [evs, tys]
  refine Imp.cnd ?_ ?_
  · refine Imp.call (f := seinelaw2_awakeE) rfl (fun a h => by first | exact seinelaw2_awake_spec h | simpa only [evs, tys, evl] using seinelaw2_awake_spec h) (fun a => by first | rfl | simp only [seinelaw2_awakeE, evk, chks]) fun y2 hy2 => ?_
    try simp only [seinelaw2_awakeE, evs, tys]
    exact Imp.some (by first | rfl | simp only [seinelaw2_BlockShiftsE, evs, tys, evl])
  · refine Imp.cnd ?_ ?_
    · refine Imp.call (f := seinelaw2_awakeE) rfl (fun a h => by first | exact seinelaw2_awake_spec h | simpa only [evs, tys, evl] using seinelaw2_awake_spec h) (fun a => by first | rfl | simp only [seinelaw2_awakeE, evk, chks]) fun y4 hy4 => ?_
      try simp only [seinelaw2_awakeE, evs, tys]
      exact Imp.some (by first | rfl | simp only [seinelaw2_BlockShiftsE, evs, tys, evl])
    · refine Imp.cnd ?_ ?_
      · refine Imp.call (f := seinelaw2_awakeE) rfl (fun a h => by first | exact seinelaw2_awake_spec h | simpa only [evs, tys, evl] using seinelaw2_awake_spec h) (fun a => by first | rfl | simp only [seinelaw2_awakeE, evk, chks]) fun y6 hy6 => ?_
        try simp only [seinelaw2_awakeE, evs, tys]
        exact Imp.some (by first | rfl | simp only [seinelaw2_BlockShiftsE, evs, tys, evl])
      · refine Imp.bnd (Imp.loop (seinelaw2_BlockShifts_l1_ok l0 n) ⟨by first | rfl | simp only [evs, tys, evl], rfl⟩) ?_
        rintro gap_14 vy16 hy16
        obtain ⟨i_15, rfl⟩ := hy16
        refine Imp.exHit rfl (Imp.chk rfl (Imp.chk rfl ?_))
        try simp only [evs, tys]
        refine Imp.bnd (Imp.loop (seinelaw2_BlockShifts_l2_ok l0 gap_14) ⟨by first | rfl | simp only [evs, tys, evl], rfl⟩) ?_
        rintro (⟨a_69, b_70⟩ | t_72) vy76 hy76
        · try simp only [elim_inl, elim_inr]
          obtain ⟨i_71, rfl⟩ := hy76
          refine Imp.exHit rfl (Imp.chk rfl (Imp.chk rfl ?_))
          try simp only [evs, tys]
          refine Imp.call (f := block_ValueE) rfl (fun a h => by first | exact block_Value_spec h | simpa only [evs, tys, evl] using block_Value_spec h) (fun a => by first | rfl | simp only [block_ValueE, evk, chks]) fun y78 hy78 => ?_
          try simp only [block_ValueE, evs, tys]
          refine Imp.call (f := block_ValueE) rfl (fun a h => by first | exact block_Value_spec h | simpa only [evs, tys, evl] using block_Value_spec h) (fun a => by first | rfl | simp only [block_ValueE, evk, chks]) fun y80 hy80 => ?_
          try simp only [block_ValueE, evs, tys]
          refine Imp.cnd ?_ ?_
          · refine Imp.call (f := seinelaw2_awakeE) rfl (fun a h => by first | exact seinelaw2_awake_spec h | simpa only [evs, tys, evl] using seinelaw2_awake_spec h) (fun a => by first | rfl | simp only [seinelaw2_awakeE, evk, chks]) fun y82 hy82 => ?_
            try simp only [seinelaw2_awakeE, evs, tys]
            exact Imp.some (by first | rfl | simp only [seinelaw2_BlockShiftsE, evs, tys, evl])
          · exact Imp.some (by first | rfl | simp only [seinelaw2_BlockShiftsE, evs, tys, evl])
        · try simp only [elim_inl, elim_inr]
          obtain ⟨a_73, b_74, i_75, rfl⟩ := hy76
          refine Imp.exMiss rfl ?_
          refine Imp.exHit rfl (Imp.chk rfl (Imp.chk rfl ?_))
          try simp only [evs, tys]
          exact Imp.some (by first | rfl | simp only [seinelaw2_BlockShiftsE, evs, tys, evl])
theorem seinelaw2_BlockShifts_run {l0 : List Str} {n : Int} {r : Bool} (h : seinelaw2_BlockShifts_B l0 n = some r) : seinelaw2_BlockShifts l0 n = some r := by
  obtain ⟨v, hv, rfl⟩ := seinelaw2_BlockShifts_imp l0 n r h
  exact tO_of (pair_inj seinelaw2_BlockShiftsEj) (OL_runD seinelaw2_BlockShifts_ds rfl rfl Try.func7 ((seinelaw2_BlockShifts_t1 _ _ l0 n).trans hv))

theorem seinelaw2_awake_run {r : Bool} (n : Nat) (h : evalK Try.prog MT XT n 8 [] [] = some (seinelaw2_awakeE r, [])) : seinelaw2_awake = some r := tO_of (pair_inj seinelaw2_awakeEj) (evalK_OL n h)

def block_Lines_l1 (O : Orc) (LP : LBody → LBody) : LBody := fun s1 s1u => cnd (chkL [.str, (.sl true), (.int .i64), (.int .i64)] s1) (cnd (chkU [] s1u)
  (cnd (decide ((intV (gt s1 3)) < (List.length (strV (gt s1 0)) : Int)))
   (bnd (ixStr (.str (strV (gt s1 0))) (.int .i64 (intV (gt s1 3)))) fun x25 => cnd (chk (.int .u8) x25)
   (cnd ((intV x25) != 10)
    (bnd (ixStr (.str (strV (gt s1 0))) (.int .i64 (intV (gt s1 3)))) fun x27 => cnd (chk (.int .u8) x27)
    (cnd ((intV x27) != 13)
     (some (.nrm, [(.str (strV (gt s1 0))), (.slice (esV (gt s1 1)) [] true), (.int .i64 (intV (gt s1 2))), (.int .i64 (IntKind.wrap .i64 ((intV (gt s1 3)) + 1)))], []))
     (bnd (slcLH 0 (.str (strV (gt s1 0))) (.int .i64 (intV (gt s1 2))) (.int .i64 (intV (gt s1 3)))) fun x29 => cnd (chk .str x29)
     (bnd (apd 1 (.slice (esV (gt s1 1)) [] true) (.slice [(.str (strV x29))] [] true)) fun x31 => cnd (chk (.sl true) x31)
     (bnd (ixStr (.str (strV (gt s1 0))) (.int .i64 (intV (gt s1 3)))) fun x33 => cnd (chk (.int .u8) x33)
     (cnd ((intV x33) == 13)
      (cnd (decide ((IntKind.wrap .i64 ((intV (gt s1 3)) + 1)) < (List.length (strV (gt s1 0)) : Int)))
       (bnd (ixStr (.str (strV (gt s1 0))) (.int .i64 (IntKind.wrap .i64 ((intV (gt s1 3)) + 1)))) fun x35 => cnd (chk (.int .u8) x35)
       (cnd ((intV x35) == 10)
        (some (.nrm, [(.str (strV (gt s1 0))), (.slice (esV x31) [] true), (.int .i64 (IntKind.wrap .i64 ((IntKind.wrap .i64 ((intV (gt s1 3)) + 1)) + 1))), (.int .i64 (IntKind.wrap .i64 ((IntKind.wrap .i64 ((intV (gt s1 3)) + 1)) + 1)))], []))
        (some (.nrm, [(.str (strV (gt s1 0))), (.slice (esV x31) [] true), (.int .i64 (IntKind.wrap .i64 ((intV (gt s1 3)) + 1))), (.int .i64 (IntKind.wrap .i64 ((intV (gt s1 3)) + 1)))], []))) none)
       (some (.nrm, [(.str (strV (gt s1 0))), (.slice (esV x31) [] true), (.int .i64 (IntKind.wrap .i64 ((intV (gt s1 3)) + 1))), (.int .i64 (IntKind.wrap .i64 ((intV (gt s1 3)) + 1)))], [])))
      (some (.nrm, [(.str (strV (gt s1 0))), (.slice (esV x31) [] true), (.int .i64 (IntKind.wrap .i64 ((intV (gt s1 3)) + 1))), (.int .i64 (IntKind.wrap .i64 ((intV (gt s1 3)) + 1)))], []))) none) none) none)) none)
    (bnd (slcLH 0 (.str (strV (gt s1 0))) (.int .i64 (intV (gt s1 2))) (.int .i64 (intV (gt s1 3)))) fun x37 => cnd (chk .str x37)
    (bnd (apd 1 (.slice (esV (gt s1 1)) [] true) (.slice [(.str (strV x37))] [] true)) fun x39 => cnd (chk (.sl true) x39)
    (bnd (ixStr (.str (strV (gt s1 0))) (.int .i64 (intV (gt s1 3)))) fun x41 => cnd (chk (.int .u8) x41)
    (cnd ((intV x41) == 13)
     (cnd (decide ((IntKind.wrap .i64 ((intV (gt s1 3)) + 1)) < (List.length (strV (gt s1 0)) : Int)))
      (bnd (ixStr (.str (strV (gt s1 0))) (.int .i64 (IntKind.wrap .i64 ((intV (gt s1 3)) + 1)))) fun x43 => cnd (chk (.int .u8) x43)
      (cnd ((intV x43) == 10)
       (some (.nrm, [(.str (strV (gt s1 0))), (.slice (esV x39) [] true), (.int .i64 (IntKind.wrap .i64 ((IntKind.wrap .i64 ((intV (gt s1 3)) + 1)) + 1))), (.int .i64 (IntKind.wrap .i64 ((IntKind.wrap .i64 ((intV (gt s1 3)) + 1)) + 1)))], []))
       (some (.nrm, [(.str (strV (gt s1 0))), (.slice (esV x39) [] true), (.int .i64 (IntKind.wrap .i64 ((intV (gt s1 3)) + 1))), (.int .i64 (IntKind.wrap .i64 ((intV (gt s1 3)) + 1)))], []))) none)
      (some (.nrm, [(.str (strV (gt s1 0))), (.slice (esV x39) [] true), (.int .i64 (IntKind.wrap .i64 ((intV (gt s1 3)) + 1))), (.int .i64 (IntKind.wrap .i64 ((intV (gt s1 3)) + 1)))], [])))
     (some (.nrm, [(.str (strV (gt s1 0))), (.slice (esV x39) [] true), (.int .i64 (IntKind.wrap .i64 ((intV (gt s1 3)) + 1))), (.int .i64 (IntKind.wrap .i64 ((intV (gt s1 3)) + 1)))], []))) none) none) none)) none)
   (some (.brk 0, [(.str (strV (gt s1 0))), (.slice (esV (gt s1 1)) [] true), (.int .i64 (intV (gt s1 2))), (.int .i64 (intV (gt s1 3)))], []))) none) none
def block_Lines_T1 (O : Orc) (LP : LBody → LBody) (s : Str) : Option (PV × UP) :=
  bnd (LP (block_Lines_l1 O LP) [(.str s), (.slice [] [] true), (.int .i64 0), (.int .i64 0)] []) fun y48 =>
  exIs y48.1 (some 0) (cnd (chkL [.str, (.sl true), (.int .i64), (.int .i64)] y48.2.1) (cnd (chkU [] y48.2.2)
   (bnd (slcLo 0 (.str (strV (gt y48.2.1 0))) (.int .i64 (intV (gt y48.2.1 2)))) fun x49 => cnd (chk .str x49)
   (bnd (apd 1 (.slice (esV (gt y48.2.1 1)) [] true) (.slice [(.str (strV x49))] [] true)) fun x51 => cnd (chk (.sl true) x51)
   (some ((.slice (esV x51) [] true), [])) none) none) none) none)
  (none)
noncomputable def block_Lines_l1T (s : Str) : (Int × (List Str) × Int) → Option ((Int × (List Str) × Int) ⊕ (((List Str) × Int)))
  | (i_22, l_23, from_24) =>
  cnd (decide (i_22 < (List.length s : Int)))
   (bnd (nthI s i_22) fun y26 =>
   cnd ((y26.toNat : Int) != 10)
    (bnd (nthI s i_22) fun y28 =>
    cnd ((y28.toNat : Int) != 13)
     (some (.inl ((IntKind.wrap .i64 (i_22 + 1)), l_23, from_24)))
     (bnd (tslc s from_24 i_22) fun y30 =>
     bnd (tapp l_23 [y30]) fun y32 =>
     bnd (nthI s i_22) fun y34 =>
     cnd ((y34.toNat : Int) == 13)
      (cnd (decide ((IntKind.wrap .i64 (i_22 + 1)) < (List.length s : Int)))
       (bnd (nthI s (IntKind.wrap .i64 (i_22 + 1))) fun y36 =>
       cnd ((y36.toNat : Int) == 10)
        (some (.inl ((IntKind.wrap .i64 ((IntKind.wrap .i64 (i_22 + 1)) + 1)), y32, (IntKind.wrap .i64 ((IntKind.wrap .i64 (i_22 + 1)) + 1)))))
        (some (.inl ((IntKind.wrap .i64 (i_22 + 1)), y32, (IntKind.wrap .i64 (i_22 + 1))))))
       (some (.inl ((IntKind.wrap .i64 (i_22 + 1)), y32, (IntKind.wrap .i64 (i_22 + 1))))))
      (some (.inl ((IntKind.wrap .i64 (i_22 + 1)), y32, (IntKind.wrap .i64 (i_22 + 1)))))))
    (bnd (tslc s from_24 i_22) fun y38 =>
    bnd (tapp l_23 [y38]) fun y40 =>
    bnd (nthI s i_22) fun y42 =>
    cnd ((y42.toNat : Int) == 13)
     (cnd (decide ((IntKind.wrap .i64 (i_22 + 1)) < (List.length s : Int)))
      (bnd (nthI s (IntKind.wrap .i64 (i_22 + 1))) fun y44 =>
      cnd ((y44.toNat : Int) == 10)
       (some (.inl ((IntKind.wrap .i64 ((IntKind.wrap .i64 (i_22 + 1)) + 1)), y40, (IntKind.wrap .i64 ((IntKind.wrap .i64 (i_22 + 1)) + 1)))))
       (some (.inl ((IntKind.wrap .i64 (i_22 + 1)), y40, (IntKind.wrap .i64 (i_22 + 1))))))
      (some (.inl ((IntKind.wrap .i64 (i_22 + 1)), y40, (IntKind.wrap .i64 (i_22 + 1))))))
     (some (.inl ((IntKind.wrap .i64 (i_22 + 1)), y40, (IntKind.wrap .i64 (i_22 + 1)))))))
   (some (.inr (l_23, from_24)))
abbrev block_Lines_l1R (s : Str) (st : Int × (List Str) × Int) (l : List PV) (u : UP) : Prop := l = [(.str s), (.slice (List.map PV.str st.2.1) [] true), (.int .i64 st.2.2), (.int .i64 st.1)] ∧ u = []
abbrev block_Lines_l1X (s : Str) (p : ((List Str) × Int)) (r : Ex × List PV × UP) : Prop := (fun (p : (List Str) × Int) => ∃ (i_47 : Int), r = (Ex.brk 0, [(.str s), (.slice (List.map PV.str p.1) [] true), (.int .i64 p.2), (.int .i64 i_47)], [])) p
noncomputable def block_Lines_B (s : Str) : Option (List Str) :=
  bnd (tloop (block_Lines_l1T s) (0, [], 0)) fun p48 =>
  bnd (tslc s p48.2 (List.length s)) fun y50 =>
  bnd (tapp p48.1 [y50]) fun y52 =>
  some y52
def block_Lines_ds : Decs := { decs := [(14, (.int .u8)), (19, (.int .u8)), (26, .str), (28, (.sl true)), (31, (.int .u8)), (44, (.int .u8)), (54, .str), (56, (.sl true))], ups := [], loops := [(4, [], ⟨[.str, (.sl true), (.int .i64), (.int .i64)], [], [(some 0, [.str, (.sl true), (.int .i64), (.int .i64)], [])]⟩)] }
set_option maxRecDepth 100000 in
theorem block_Lines_t1 (O : Orc) (LP : LBody → LBody) (s : Str) : evalBodyD Try.prog (MT 9) block_Lines_ds Try.f9.ntmps O LP Try.f9 [(.str s)] [] = block_Lines_T1 O LP s := by kernel_rfl
theorem block_Lines_l1_ok (s : Str) : ∀ st l u, block_Lines_l1R s st l u → Imp (block_Lines_l1T s st) (block_Lines_l1 O loopLim l u) (StepR (block_Lines_l1R s) (block_Lines_l1X s)) := by
  rintro ⟨i_22, l_23, from_24⟩ l u ⟨rfl, rfl⟩
  simp only [block_Lines_l1T, block_Lines_l1]
  refine Imp.chk rfl (Imp.chk rfl ?_)
  try simp only [evs, tys]
  refine Imp.cnd ?_ ?_
  · refine Imp.op (f := fun a => .int .u8 (a.toNat : Int)) (fun a h => op_ixStr h) (fun a => rfl) fun y26 hy26 => ?_
    try simp only [evs, tys]
    refine Imp.cnd ?_ ?_
    · refine Imp.op (f := fun a => .int .u8 (a.toNat : Int)) (fun a h => op_ixStr h) (fun a => rfl) fun y28 hy28 => ?_
      try simp only [evs, tys]
      refine Imp.cnd ?_ ?_
      · exact Imp.some (StepR.next ⟨by first | rfl | simp only [evs, tys, evl], rfl⟩)
      · refine Imp.op (f := fun a => .str a) (fun a h => op_sslcLH h) (fun a => rfl) fun y30 hy30 => ?_
        try simp only [evs, tys]
        refine Imp.op (f := fun a => .slice (List.map PV.str a) [] true) (fun a h => op_apd (enc := PV.str) (by first | rfl | simp only [evs, tys, evl]) (by first | rfl | simp only [evs, tys, evl]) (fun a => by first | rfl | simp only [evs, tys, evc]) h) (fun a => rfl) fun y32 hy32 => ?_
        try simp only [evs, tys]
        refine Imp.op (f := fun a => .int .u8 (a.toNat : Int)) (fun a h => op_ixStr h) (fun a => rfl) fun y34 hy34 => ?_
        try simp only [evs, tys]
        refine Imp.cnd ?_ ?_
        · refine Imp.cnd ?_ ?_
          · refine Imp.op (f := fun a => .int .u8 (a.toNat : Int)) (fun a h => op_ixStr h) (fun a => rfl) fun y36 hy36 => ?_
            try simp only [evs, tys]
            refine Imp.cnd ?_ ?_
            · exact Imp.some (StepR.next ⟨by first | rfl | simp only [evs, tys, evl], rfl⟩)
            · exact Imp.some (StepR.next ⟨by first | rfl | simp only [evs, tys, evl], rfl⟩)
          · exact Imp.some (StepR.next ⟨by first | rfl | simp only [evs, tys, evl], rfl⟩)
        · exact Imp.some (StepR.next ⟨by first | rfl | simp only [evs, tys, evl], rfl⟩)
    · refine Imp.op (f := fun a => .str a) (fun a h => op_sslcLH h) (fun a => rfl) fun y38 hy38 => ?_
      try simp only [evs, tys]
      refine Imp.op (f := fun a => .slice (List.map PV.str a) [] true) (fun a h => op_apd (enc := PV.str) (by first | rfl | simp only [evs, tys, evl]) (by first | rfl | simp only [evs, tys, evl]) (fun a => by first | rfl | simp only [evs, tys, evc]) h) (fun a => rfl) fun y40 hy40 => ?_
      try simp only [evs, tys]
      refine Imp.op (f := fun a => .int .u8 (a.toNat : Int)) (fun a h => op_ixStr h) (fun a => rfl) fun y42 hy42 => ?_
      try simp only [evs, tys]
      refine Imp.cnd ?_ ?_
      · refine Imp.cnd ?_ ?_
        · refine Imp.op (f := fun a => .int .u8 (a.toNat : Int)) (fun a h => op_ixStr h) (fun a => rfl) fun y44 hy44 => ?_
          try simp only [evs, tys]
          refine Imp.cnd ?_ ?_
          · exact Imp.some (StepR.next ⟨by first | rfl | simp only [evs, tys, evl], rfl⟩)
          · exact Imp.some (StepR.next ⟨by first | rfl | simp only [evs, tys, evl], rfl⟩)
        · exact Imp.some (StepR.next ⟨by first | rfl | simp only [evs, tys, evl], rfl⟩)
      · exact Imp.some (StepR.next ⟨by first | rfl | simp only [evs, tys, evl], rfl⟩)
  · exact Imp.some (StepR.brk ⟨i_22, by first | rfl | simp only [evs, tys, evl, elim_inl, elim_inr]⟩)
theorem block_Lines_imp (s : Str) : Imp (block_Lines_B s) (block_Lines_T1 O loopLim s) (fun r v => v = (block_LinesE r, [])) := by
  simp only [block_Lines_B, block_Lines_T1]
  try simp only [evs, tys]
  refine Imp.bnd (Imp.loop (block_Lines_l1_ok s) ⟨by first | rfl | simp only [evs, tys, evl], rfl⟩) ?_
  rintro ⟨l_45, from_46⟩ vy48 hy48
  obtain ⟨i_47, rfl⟩ := hy48
  refine Imp.exHit rfl (Imp.chk rfl (Imp.chk rfl ?_))
  try simp only [evs, tys]
  refine Imp.op (f := fun a => .str a) (fun a h => op_sslcLo h) (fun a => rfl) fun y50 hy50 => ?_
  try simp only [evs, tys]
  refine Imp.op (f := fun a => .slice (List.map PV.str a) [] true) (fun a h => op_apd (enc := PV.str) (by first | rfl | simp only [evs, tys, evl]) (by first | rfl | simp only [evs, tys, evl]) (fun a => by first | rfl | simp only [evs, tys, evc]) h) (fun a => rfl) fun y52 hy52 => ?_
  try simp only [evs, tys]
  exact Imp.some (by first | rfl | simp only [block_LinesE, evs, tys, evl])
theorem block_Lines_run {s : Str} {r : List Str} (h : block_Lines_B s = some r) : block_Lines s = some r := by
  obtain ⟨v, hv, rfl⟩ := block_Lines_imp s r h
  exact tO_of (pair_inj block_LinesEj) (OL_runD block_Lines_ds rfl rfl Try.func9 ((block_Lines_t1 _ _ s).trans hv))
end Go.Proofs.Ytlaomadhhdcflaa

/- Printed by symgen.py: typed functions of this seat, and why they tell what the program does. -/
set_option linter.unusedVariables false
set_option linter.unusedSimpArgs false
open Go Go.Ev Go.Ev.PV
namespace Go.Proofs.Ytlaomadhhdcflaa
def seineref1_Lines_l1 (O : Orc) (LP : LBody → LBody) : LBody := fun s1 s1u => cnd (chkL [.str, (.sl true), (.int .i64), (.int .i64)] s1) (cnd (chkU [] s1u)
  (cnd (decide ((intV (gt s1 3)) < (List.length (strV (gt s1 0)) : Int)))
   (bnd (ixStr (.str (strV (gt s1 0))) (.int .i64 (intV (gt s1 3)))) fun x25 => cnd (chk (.int .u8) x25)
   (cnd ((intV x25) != 10)
    (bnd (ixStr (.str (strV (gt s1 0))) (.int .i64 (intV (gt s1 3)))) fun x27 => cnd (chk (.int .u8) x27)
    (cnd ((intV x27) != 13)
     (some (.nrm, [(.str (strV (gt s1 0))), (.slice (esV (gt s1 1)) [] true), (.int .i64 (intV (gt s1 2))), (.int .i64 (IntKind.wrap .i64 ((intV (gt s1 3)) + 1)))], []))
     (bnd (slcLH 0 (.str (strV (gt s1 0))) (.int .i64 (intV (gt s1 2))) (.int .i64 (intV (gt s1 3)))) fun x29 => cnd (chk .str x29)
     (bnd (apd 1 (.slice (esV (gt s1 1)) [] true) (.slice [(.str (strV x29))] [] true)) fun x31 => cnd (chk (.sl true) x31)
     (bnd (ixStr (.str (strV (gt s1 0))) (.int .i64 (intV (gt s1 3)))) fun x33 => cnd (chk (.int .u8) x33)
     (cnd ((intV x33) == 13)
      (cnd (decide ((IntKind.wrap .i64 ((intV (gt s1 3)) + 1)) < (List.length (strV (gt s1 0)) : Int)))
       (bnd (ixStr (.str (strV (gt s1 0))) (.int .i64 (IntKind.wrap .i64 ((intV (gt s1 3)) + 1)))) fun x35 => cnd (chk (.int .u8) x35)
       (cnd ((intV x35) == 10)
        (some (.nrm, [(.str (strV (gt s1 0))), (.slice (esV x31) [] true), (.int .i64 (IntKind.wrap .i64 ((IntKind.wrap .i64 ((intV (gt s1 3)) + 1)) + 1))), (.int .i64 (IntKind.wrap .i64 ((IntKind.wrap .i64 ((intV (gt s1 3)) + 1)) + 1)))], []))
        (some (.nrm, [(.str (strV (gt s1 0))), (.slice (esV x31) [] true), (.int .i64 (IntKind.wrap .i64 ((intV (gt s1 3)) + 1))), (.int .i64 (IntKind.wrap .i64 ((intV (gt s1 3)) + 1)))], []))) none)
       (some (.nrm, [(.str (strV (gt s1 0))), (.slice (esV x31) [] true), (.int .i64 (IntKind.wrap .i64 ((intV (gt s1 3)) + 1))), (.int .i64 (IntKind.wrap .i64 ((intV (gt s1 3)) + 1)))], [])))
      (some (.nrm, [(.str (strV (gt s1 0))), (.slice (esV x31) [] true), (.int .i64 (IntKind.wrap .i64 ((intV (gt s1 3)) + 1))), (.int .i64 (IntKind.wrap .i64 ((intV (gt s1 3)) + 1)))], []))) none) none) none)) none)
    (bnd (slcLH 0 (.str (strV (gt s1 0))) (.int .i64 (intV (gt s1 2))) (.int .i64 (intV (gt s1 3)))) fun x37 => cnd (chk .str x37)
    (bnd (apd 1 (.slice (esV (gt s1 1)) [] true) (.slice [(.str (strV x37))] [] true)) fun x39 => cnd (chk (.sl true) x39)
    (bnd (ixStr (.str (strV (gt s1 0))) (.int .i64 (intV (gt s1 3)))) fun x41 => cnd (chk (.int .u8) x41)
    (cnd ((intV x41) == 13)
     (cnd (decide ((IntKind.wrap .i64 ((intV (gt s1 3)) + 1)) < (List.length (strV (gt s1 0)) : Int)))
      (bnd (ixStr (.str (strV (gt s1 0))) (.int .i64 (IntKind.wrap .i64 ((intV (gt s1 3)) + 1)))) fun x43 => cnd (chk (.int .u8) x43)
      (cnd ((intV x43) == 10)
       (some (.nrm, [(.str (strV (gt s1 0))), (.slice (esV x39) [] true), (.int .i64 (IntKind.wrap .i64 ((IntKind.wrap .i64 ((intV (gt s1 3)) + 1)) + 1))), (.int .i64 (IntKind.wrap .i64 ((IntKind.wrap .i64 ((intV (gt s1 3)) + 1)) + 1)))], []))
       (some (.nrm, [(.str (strV (gt s1 0))), (.slice (esV x39) [] true), (.int .i64 (IntKind.wrap .i64 ((intV (gt s1 3)) + 1))), (.int .i64 (IntKind.wrap .i64 ((intV (gt s1 3)) + 1)))], []))) none)
      (some (.nrm, [(.str (strV (gt s1 0))), (.slice (esV x39) [] true), (.int .i64 (IntKind.wrap .i64 ((intV (gt s1 3)) + 1))), (.int .i64 (IntKind.wrap .i64 ((intV (gt s1 3)) + 1)))], [])))
     (some (.nrm, [(.str (strV (gt s1 0))), (.slice (esV x39) [] true), (.int .i64 (IntKind.wrap .i64 ((intV (gt s1 3)) + 1))), (.int .i64 (IntKind.wrap .i64 ((intV (gt s1 3)) + 1)))], []))) none) none) none)) none)
   (some (.brk 0, [(.str (strV (gt s1 0))), (.slice (esV (gt s1 1)) [] true), (.int .i64 (intV (gt s1 2))), (.int .i64 (intV (gt s1 3)))], []))) none) none
def seineref1_Lines_T1 (O : Orc) (LP : LBody → LBody) (s : Str) : Option (PV × UP) :=
  bnd (LP (seineref1_Lines_l1 O LP) [(.str s), (.slice [] [] true), (.int .i64 0), (.int .i64 0)] []) fun y48 =>
  exIs y48.1 (some 0) (cnd (chkL [.str, (.sl true), (.int .i64), (.int .i64)] y48.2.1) (cnd (chkU [] y48.2.2)
   (bnd (slcLo 0 (.str (strV (gt y48.2.1 0))) (.int .i64 (intV (gt y48.2.1 2)))) fun x49 => cnd (chk .str x49)
   (bnd (apd 1 (.slice (esV (gt y48.2.1 1)) [] true) (.slice [(.str (strV x49))] [] true)) fun x51 => cnd (chk (.sl true) x51)
   (some ((.slice (esV x51) [] true), [])) none) none) none) none)
  (none)
noncomputable def seineref1_Lines_l1T (s : Str) : (Int × (List Str) × Int) → Option ((Int × (List Str) × Int) ⊕ (((List Str) × Int)))
  | (i_22, out_23, from_24) =>
  cnd (decide (i_22 < (List.length s : Int)))
   (bnd (nthI s i_22) fun y26 =>
   cnd ((y26.toNat : Int) != 10)
    (bnd (nthI s i_22) fun y28 =>
    cnd ((y28.toNat : Int) != 13)
     (some (.inl ((IntKind.wrap .i64 (i_22 + 1)), out_23, from_24)))
     (bnd (tslc s from_24 i_22) fun y30 =>
     bnd (tapp out_23 [y30]) fun y32 =>
     bnd (nthI s i_22) fun y34 =>
     cnd ((y34.toNat : Int) == 13)
      (cnd (decide ((IntKind.wrap .i64 (i_22 + 1)) < (List.length s : Int)))
       (bnd (nthI s (IntKind.wrap .i64 (i_22 + 1))) fun y36 =>
       cnd ((y36.toNat : Int) == 10)
        (some (.inl ((IntKind.wrap .i64 ((IntKind.wrap .i64 (i_22 + 1)) + 1)), y32, (IntKind.wrap .i64 ((IntKind.wrap .i64 (i_22 + 1)) + 1)))))
        (some (.inl ((IntKind.wrap .i64 (i_22 + 1)), y32, (IntKind.wrap .i64 (i_22 + 1))))))
       (some (.inl ((IntKind.wrap .i64 (i_22 + 1)), y32, (IntKind.wrap .i64 (i_22 + 1))))))
      (some (.inl ((IntKind.wrap .i64 (i_22 + 1)), y32, (IntKind.wrap .i64 (i_22 + 1)))))))
    (bnd (tslc s from_24 i_22) fun y38 =>
    bnd (tapp out_23 [y38]) fun y40 =>
    bnd (nthI s i_22) fun y42 =>
    cnd ((y42.toNat : Int) == 13)
     (cnd (decide ((IntKind.wrap .i64 (i_22 + 1)) < (List.length s : Int)))
      (bnd (nthI s (IntKind.wrap .i64 (i_22 + 1))) fun y44 =>
      cnd ((y44.toNat : Int) == 10)
       (some (.inl ((IntKind.wrap .i64 ((IntKind.wrap .i64 (i_22 + 1)) + 1)), y40, (IntKind.wrap .i64 ((IntKind.wrap .i64 (i_22 + 1)) + 1)))))
       (some (.inl ((IntKind.wrap .i64 (i_22 + 1)), y40, (IntKind.wrap .i64 (i_22 + 1))))))
      (some (.inl ((IntKind.wrap .i64 (i_22 + 1)), y40, (IntKind.wrap .i64 (i_22 + 1))))))
     (some (.inl ((IntKind.wrap .i64 (i_22 + 1)), y40, (IntKind.wrap .i64 (i_22 + 1)))))))
   (some (.inr (out_23, from_24)))
abbrev seineref1_Lines_l1R (s : Str) (st : Int × (List Str) × Int) (l : List PV) (u : UP) : Prop := l = [(.str s), (.slice (List.map PV.str st.2.1) [] true), (.int .i64 st.2.2), (.int .i64 st.1)] ∧ u = []
abbrev seineref1_Lines_l1X (s : Str) (p : ((List Str) × Int)) (r : Ex × List PV × UP) : Prop := (fun (p : (List Str) × Int) => ∃ (i_47 : Int), r = (Ex.brk 0, [(.str s), (.slice (List.map PV.str p.1) [] true), (.int .i64 p.2), (.int .i64 i_47)], [])) p
noncomputable def seineref1_Lines_B (s : Str) : Option (List Str) :=
  bnd (tloop (seineref1_Lines_l1T s) (0, [], 0)) fun p48 =>
  bnd (tslc s p48.2 (List.length s)) fun y50 =>
  bnd (tapp p48.1 [y50]) fun y52 =>
  some y52
def seineref1_Lines_ds : Decs := { decs := [(14, (.int .u8)), (19, (.int .u8)), (26, .str), (28, (.sl true)), (31, (.int .u8)), (44, (.int .u8)), (54, .str), (56, (.sl true))], ups := [], loops := [(4, [], ⟨[.str, (.sl true), (.int .i64), (.int .i64)], [], [(some 0, [.str, (.sl true), (.int .i64), (.int .i64)], [])]⟩)] }
set_option maxRecDepth 100000 in
theorem seineref1_Lines_t1 (O : Orc) (LP : LBody → LBody) (s : Str) : evalBodyD Try.prog (MT 10) seineref1_Lines_ds Try.f10.ntmps O LP Try.f10 [(.str s)] [] = seineref1_Lines_T1 O LP s := by kernel_rfl
theorem seineref1_Lines_l1_ok (s : Str) : ∀ st l u, seineref1_Lines_l1R s st l u → Imp (seineref1_Lines_l1T s st) (seineref1_Lines_l1 O loopLim l u) (StepR (seineref1_Lines_l1R s) (seineref1_Lines_l1X s)) := by
  rintro ⟨i_22, out_23, from_24⟩ l u ⟨rfl, rfl⟩
  simp only [seineref1_Lines_l1T, seineref1_Lines_l1]
  refine Imp.chk rfl (Imp.chk rfl ?_)
  try simp only [evs, tys]
  refine Imp.cnd ?_ ?_
  · refine Imp.op (f := fun a => .int .u8 (a.toNat : Int)) (fun a h => op_ixStr h) (fun a => rfl) fun y26 hy26 => ?_
    try simp only [evs, tys]
    refine Imp.cnd ?_ ?_
    · refine Imp.op (f := fun a => .int .u8 (a.toNat : Int)) (fun a h => op_ixStr h) (fun a => rfl) fun y28 hy28 => ?_
      try simp only [evs, tys]
      refine Imp.cnd ?_ ?_
      · exact Imp.some (StepR.next ⟨by first | rfl | simp only [evs, tys, evl], rfl⟩)
      · refine Imp.op (f := fun a => .str a) (fun a h => op_sslcLH h) (fun a => rfl) fun y30 hy30 => ?_
        try simp only [evs, tys]
        refine Imp.op (f := fun a => .slice (List.map PV.str a) [] true) (fun a h => op_apd (enc := PV.str) (by first | rfl | simp only [evs, tys, evl]) (by first | rfl | simp only [evs, tys, evl]) (fun a => by first | rfl | simp only [evs, tys, evc]) h) (fun a => rfl) fun y32 hy32 => ?_
        try simp only [evs, tys]
        refine Imp.op (f := fun a => .int .u8 (a.toNat : Int)) (fun a h => op_ixStr h) (fun a => rfl) fun y34 hy34 => ?_
        try simp only [evs, tys]
        refine Imp.cnd ?_ ?_
        · refine Imp.cnd ?_ ?_
          · refine Imp.op (f := fun a => .int .u8 (a.toNat : Int)) (fun a h => op_ixStr h) (fun a => rfl) fun y36 hy36 => ?_
            try simp only [evs, tys]
            refine Imp.cnd ?_ ?_
            · exact Imp.some (StepR.next ⟨by first | rfl | simp only [evs, tys, evl], rfl⟩)
            · exact Imp.some (StepR.next ⟨by first | rfl | simp only [evs, tys, evl], rfl⟩)
          · exact Imp.some (StepR.next ⟨by first | rfl | simp only [evs, tys, evl], rfl⟩)
        · exact Imp.some (StepR.next ⟨by first | rfl | simp only [evs, tys, evl], rfl⟩)
    · refine Imp.op (f := fun a => .str a) (fun a h => op_sslcLH h) (fun a => rfl) fun y38 hy38 => ?_
      try simp only [evs, tys]
      refine Imp.op (f := fun a => .slice (List.map PV.str a) [] true) (fun a h => op_apd (enc := PV.str) (by first | rfl | simp only [evs, tys, evl]) (by first | rfl | simp only [evs, tys, evl]) (fun a => by first | rfl | simp only [evs, tys, evc]) h) (fun a => rfl) fun y40 hy40 => ?_
      try simp only [evs, tys]
      refine Imp.op (f := fun a => .int .u8 (a.toNat : Int)) (fun a h => op_ixStr h) (fun a => rfl) fun y42 hy42 => ?_
      try simp only [evs, tys]
      refine Imp.cnd ?_ ?_
      · refine Imp.cnd ?_ ?_
        · refine Imp.op (f := fun a => .int .u8 (a.toNat : Int)) (fun a h => op_ixStr h) (fun a => rfl) fun y44 hy44 => ?_
          try simp only [evs, tys]
          refine Imp.cnd ?_ ?_
          · exact Imp.some (StepR.next ⟨by first | rfl | simp only [evs, tys, evl], rfl⟩)
          · exact Imp.some (StepR.next ⟨by first | rfl | simp only [evs, tys, evl], rfl⟩)
        · exact Imp.some (StepR.next ⟨by first | rfl | simp only [evs, tys, evl], rfl⟩)
      · exact Imp.some (StepR.next ⟨by first | rfl | simp only [evs, tys, evl], rfl⟩)
  · exact Imp.some (StepR.brk ⟨i_22, by first | rfl | simp only [evs, tys, evl, elim_inl, elim_inr]⟩)
theorem seineref1_Lines_imp (s : Str) : Imp (seineref1_Lines_B s) (seineref1_Lines_T1 O loopLim s) (fun r v => v = (seineref1_LinesE r, [])) := by
  simp only [seineref1_Lines_B, seineref1_Lines_T1]
  try simp only [evs, tys]
  refine Imp.bnd (Imp.loop (seineref1_Lines_l1_ok s) ⟨by first | rfl | simp only [evs, tys, evl], rfl⟩) ?_
  rintro ⟨out_45, from_46⟩ vy48 hy48
  obtain ⟨i_47, rfl⟩ := hy48
  refine Imp.exHit rfl (Imp.chk rfl (Imp.chk rfl ?_))
  try simp only [evs, tys]
  refine Imp.op (f := fun a => .str a) (fun a h => op_sslcLo h) (fun a => rfl) fun y50 hy50 => ?_
  try simp only [evs, tys]
  refine Imp.op (f := fun a => .slice (List.map PV.str a) [] true) (fun a h => op_apd (enc := PV.str) (by first | rfl | simp only [evs, tys, evl]) (by first | rfl | simp only [evs, tys, evl]) (fun a => by first | rfl | simp only [evs, tys, evc]) h) (fun a => rfl) fun y52 hy52 => ?_
  try simp only [evs, tys]
  exact Imp.some (by first | rfl | simp only [seineref1_LinesE, evs, tys, evl])
theorem seineref1_Lines_run {s : Str} {r : List Str} (h : seineref1_Lines_B s = some r) : seineref1_Lines s = some r := by
  obtain ⟨v, hv, rfl⟩ := seineref1_Lines_imp s r h
  exact tO_of (pair_inj seineref1_LinesEj) (OL_runD seineref1_Lines_ds rfl rfl Try.func10 ((seineref1_Lines_t1 _ _ s).trans hv))

def seinekeep_SameTexts_l1 (O : Orc) (LP : LBody → LBody) : LBody := fun s1 s1u => cnd (chkL [(.sl false), (.sl false), .bool, (.int .i64)] s1) (cnd (chkU [] s1u)
  (cnd (decide ((intV (gt s1 3)) < (List.length (esV (gt s1 0)) : Int)))
   (bnd (ix 1 (.slice (esV (gt s1 0)) [] false) (.int .i64 (intV (gt s1 3)))) fun x7 => cnd (chk (.ref .str) x7)
   (bnd (ix 1 (.slice (esV (gt s1 1)) [] false) (.int .i64 (intV (gt s1 3)))) fun x9 => cnd (chk (.ref .str) x9)
   (cnd (!((strV (refV x7)) == (strV (refV x9))))
    (some (.ret, [(.slice (esV (gt s1 0)) [] false), (.slice (esV (gt s1 1)) [] false), (.bool false), (.int .i64 (intV (gt s1 3)))], []))
    (some (.nrm, [(.slice (esV (gt s1 0)) [] false), (.slice (esV (gt s1 1)) [] false), (.bool (boolV (gt s1 2))), (.int .i64 (IntKind.wrap .i64 ((intV (gt s1 3)) + 1)))], []))) none) none)
   (some (.brk 0, [(.slice (esV (gt s1 0)) [] false), (.slice (esV (gt s1 1)) [] false), (.bool (boolV (gt s1 2))), (.int .i64 (intV (gt s1 3)))], []))) none) none
def seinekeep_SameTexts_T1 (O : Orc) (LP : LBody → LBody) (a : List Str) (b : List Str) : Option (PV × UP) :=
  cnd ((List.length (List.map PV.str a) : Int) != (List.length (List.map PV.str b) : Int))
   (some ((.bool false), []))
   (bnd (LP (seinekeep_SameTexts_l1 O LP) [(.slice (List.map PV.str a) [] false), (.slice (List.map PV.str b) [] false), (.bool false), (.int .i64 0)] []) fun y13 =>
   exIs y13.1 (some 0) (cnd (chkL [(.sl false), (.sl false), .bool, (.int .i64)] y13.2.1) (cnd (chkU [] y13.2.2)
    (some ((.bool true), [])) none) none)
   (exIs y13.1 none (cnd (chkL [(.sl false), (.sl false), .bool, (.int .i64)] y13.2.1) (cnd (chkU [] y13.2.2)
    (some ((.bool (boolV (gt y13.2.1 2))), [])) none) none)
   (none)))
noncomputable def seinekeep_SameTexts_l1T (a : List Str) (b : List Str) : Int → Option (Int ⊕ (Unit ⊕ Unit))
  | i_6 =>
  cnd (decide (i_6 < (List.length a : Int)))
   (bnd (nthI a i_6) fun y8 =>
   bnd (nthI b i_6) fun y10 =>
   cnd (!(y8 == y10))
    (some (.inr (.inr ())))
    (some (.inl (IntKind.wrap .i64 (i_6 + 1)))))
   (some (.inr (.inl ())))
abbrev seinekeep_SameTexts_l1R (a : List Str) (b : List Str) (st : Int) (l : List PV) (u : UP) : Prop := l = [(.slice (List.map PV.str a) [] false), (.slice (List.map PV.str b) [] false), (.bool false), (.int .i64 st)] ∧ u = []
abbrev seinekeep_SameTexts_l1X (a : List Str) (b : List Str) (p : Unit ⊕ Unit) (r : Ex × List PV × UP) : Prop := elim p (fun (p : Unit) => ∃ (i_11 : Int), r = (Ex.brk 0, [(.slice (List.map PV.str a) [] false), (.slice (List.map PV.str b) [] false), (.bool false), (.int .i64 i_11)], [])) (fun q2 => (fun (p : Unit) => ∃ (i_12 : Int), r = (Ex.ret, [(.slice (List.map PV.str a) [] false), (.slice (List.map PV.str b) [] false), (.bool false), (.int .i64 i_12)], [])) q2)
noncomputable def seinekeep_SameTexts_B (a : List Str) (b : List Str) : Option Bool :=
  cnd ((List.length a : Int) != (List.length b : Int))
   (some false)
   (bnd (tloop (seinekeep_SameTexts_l1T a b) 0) fun e13_2 => elim e13_2
   (fun p13 =>
    some true)
   (fun p13 =>
   some false))
def seinekeep_SameTexts_ds : Decs := { decs := [(19, (.ref .str)), (23, (.ref .str))], ups := [], loops := [(4, [], ⟨[(.sl false), (.sl false), .bool, (.int .i64)], [], [(some 0, [(.sl false), (.sl false), .bool, (.int .i64)], []), (none, [(.sl false), (.sl false), .bool, (.int .i64)], [])]⟩)] }
set_option maxRecDepth 100000 in
theorem seinekeep_SameTexts_t1 (O : Orc) (LP : LBody → LBody) (a : List Str) (b : List Str) : evalBodyD Try.prog (MT 11) seinekeep_SameTexts_ds Try.f11.ntmps O LP Try.f11 [(.slice (List.map PV.str a) [] false), (.slice (List.map PV.str b) [] false)] [] = seinekeep_SameTexts_T1 O LP a b := by kernel_rfl
theorem seinekeep_SameTexts_l1_ok (a : List Str) (b : List Str) : ∀ st l u, seinekeep_SameTexts_l1R a b st l u → Imp (seinekeep_SameTexts_l1T a b st) (seinekeep_SameTexts_l1 O loopLim l u) (StepR (seinekeep_SameTexts_l1R a b) (seinekeep_SameTexts_l1X a b)) := by
  rintro i_6 l u ⟨rfl, rfl⟩
  simp only [seinekeep_SameTexts_l1T, seinekeep_SameTexts_l1]
  refine Imp.chk rfl (Imp.chk rfl ?_)
  try simp only [evs, tys]
  refine Imp.cnd ?_ ?_
  · refine Imp.op (f := fun a => .ref (PV.str a)) (fun a h => op_ix (enc := PV.str) (by first | rfl | simp only [evs, tys, evl]) ⟨by first | rfl | simp only [evs, tys, evc], by decide⟩ h) (fun a => rfl) fun y8 hy8 => ?_
    try simp only [evs, tys]
    refine Imp.op (f := fun a => .ref (PV.str a)) (fun a h => op_ix (enc := PV.str) (by first | rfl | simp only [evs, tys, evl]) ⟨by first | rfl | simp only [evs, tys, evc], by decide⟩ h) (fun a => rfl) fun y10 hy10 => ?_
    try simp only [evs, tys]
    refine Imp.cnd ?_ ?_
    · exact Imp.some (StepR.ret ⟨i_6, by first | rfl | simp only [evs, tys, evl, elim_inl, elim_inr]⟩)
    · exact Imp.some (StepR.next ⟨by first | rfl | simp only [evs, tys, evl], rfl⟩)
  · exact Imp.some (StepR.brk ⟨i_6, by first | rfl | simp only [evs, tys, evl, elim_inl, elim_inr]⟩)
theorem seinekeep_SameTexts_imp (a : List Str) (b : List Str) : Imp (seinekeep_SameTexts_B a b) (seinekeep_SameTexts_T1 O loopLim a b) (fun r v => v = (seinekeep_SameTextsE r, [])) := by
  simp only [seinekeep_SameTexts_B, seinekeep_SameTexts_T1]
  try simp only [evs, tys]
  refine Imp.cnd ?_ ?_
  · exact Imp.some (by first | rfl | simp only [seinekeep_SameTextsE, evs, tys, evl])
  · refine Imp.bnd (Imp.loop (seinekeep_SameTexts_l1_ok a b) ⟨by first | rfl | simp only [evs, tys, evl], rfl⟩) ?_
    rintro (p | p) vy13 hy13
    · try simp only [elim_inl, elim_inr]
      obtain ⟨i_11, rfl⟩ := hy13
      refine Imp.exHit rfl (Imp.chk rfl (Imp.chk rfl ?_))
      try simp only [evs, tys]
      exact Imp.some (by first | rfl | simp only [seinekeep_SameTextsE, evs, tys, evl])
    · try simp only [elim_inl, elim_inr]
      obtain ⟨i_12, rfl⟩ := hy13
      refine Imp.exMiss rfl ?_
      refine Imp.exHit rfl (Imp.chk rfl (Imp.chk rfl ?_))
      try simp only [evs, tys]
      exact Imp.some (by first | rfl | simp only [seinekeep_SameTextsE, evs, tys, evl])
theorem seinekeep_SameTexts_run {a : List Str} {b : List Str} {r : Bool} (h : seinekeep_SameTexts_B a b = some r) : seinekeep_SameTexts a b = some r := by
  obtain ⟨v, hv, rfl⟩ := seinekeep_SameTexts_imp a b r h
  exact tO_of (pair_inj seinekeep_SameTextsEj) (OL_runD seinekeep_SameTexts_ds rfl rfl Try.func11 ((seinekeep_SameTexts_t1 _ _ a b).trans hv))

def block_Indent_l1 (O : Orc) (LP : LBody → LBody) : LBody := fun s1 s1u => cnd (chkL [(.int .i64), (.sl false), (.int .i64), (.int .i64)] s1) (cnd (chkU [] s1u)
  (cnd (decide ((intV (gt s1 3)) < (intV (gt s1 2))))
   (bnd (ix 1 (.slice (esV (gt s1 1)) [] false) (.int .i64 (intV (gt s1 3)))) fun x8 => cnd (chk (.ref .str) x8)
   (callp O 19 [(.str (strV (refV x8)))] fun x10 => cnd (chk (.tup [(.int .i64), .bool]) x10)
   (cnd ((intV (gt s1 3)) == 0)
    (some (.nrm, [(.int .i64 (intV (gt s1 0))), (.slice (esV (gt s1 1)) [] false), (.int .i64 (intV (gt s1 2))), (.int .i64 (IntKind.wrap .i64 ((intV (gt s1 3)) + 1)))], []))
    (cnd (!(boolV (gt (tupV x10) 1)))
     (some (.nrm, [(.int .i64 (intV (gt s1 0))), (.slice (esV (gt s1 1)) [] false), (.int .i64 (intV (gt s1 2))), (.int .i64 (IntKind.wrap .i64 ((intV (gt s1 3)) + 1)))], []))
     (cnd (decide ((intV (gt s1 0)) < 0))
      (some (.nrm, [(.int .i64 (intV (gt (tupV x10) 0))), (.slice (esV (gt s1 1)) [] false), (.int .i64 (intV (gt s1 2))), (.int .i64 (IntKind.wrap .i64 ((intV (gt s1 3)) + 1)))], []))
      (cnd (decide ((intV (gt (tupV x10) 0)) < (intV (gt s1 0))))
       (some (.nrm, [(.int .i64 (intV (gt (tupV x10) 0))), (.slice (esV (gt s1 1)) [] false), (.int .i64 (intV (gt s1 2))), (.int .i64 (IntKind.wrap .i64 ((intV (gt s1 3)) + 1)))], []))
       (some (.nrm, [(.int .i64 (intV (gt s1 0))), (.slice (esV (gt s1 1)) [] false), (.int .i64 (intV (gt s1 2))), (.int .i64 (IntKind.wrap .i64 ((intV (gt s1 3)) + 1)))], [])))))) none) none)
   (some (.brk 0, [(.int .i64 (intV (gt s1 0))), (.slice (esV (gt s1 1)) [] false), (.int .i64 (intV (gt s1 2))), (.int .i64 (intV (gt s1 3)))], []))) none) none
def block_Indent_T1 (O : Orc) (LP : LBody → LBody) (l0 : List Str) : Option (PV × UP) :=
  bnd (LP (block_Indent_l1 O LP) [(.int .i64 (-1)), (.slice (List.map PV.str l0) [] false), (.int .i64 (List.length (List.map PV.str l0) : Int)), (.int .i64 0)] []) fun y14 =>
  exIs y14.1 (some 0) (cnd (chkL [(.int .i64), (.sl false), (.int .i64), (.int .i64)] y14.2.1) (cnd (chkU [] y14.2.2)
   (some ((.int .i64 (intV (gt y14.2.1 0))), [])) none) none)
  (none)
noncomputable def block_Indent_l1T (l0 : List Str) : (Int × Int) → Option ((Int × Int) ⊕ Int)
  | (t_6, least_7) =>
  cnd (decide (t_6 < (List.length l0 : Int)))
   (bnd (nthI l0 t_6) fun y9 =>
   bnd (block_blanks y9) fun y11 =>
   cnd (t_6 == 0)
    (some (.inl ((IntKind.wrap .i64 (t_6 + 1)), least_7)))
    (cnd (!y11.2)
     (some (.inl ((IntKind.wrap .i64 (t_6 + 1)), least_7)))
     (cnd (decide (least_7 < 0))
      (some (.inl ((IntKind.wrap .i64 (t_6 + 1)), y11.1)))
      (cnd (decide (y11.1 < least_7))
       (some (.inl ((IntKind.wrap .i64 (t_6 + 1)), y11.1)))
       (some (.inl ((IntKind.wrap .i64 (t_6 + 1)), least_7)))))))
   (some (.inr least_7))
abbrev block_Indent_l1R (l0 : List Str) (st : Int × Int) (l : List PV) (u : UP) : Prop := l = [(.int .i64 st.2), (.slice (List.map PV.str l0) [] false), (.int .i64 (List.length l0 : Int)), (.int .i64 st.1)] ∧ u = []
abbrev block_Indent_l1X (l0 : List Str) (p : Int) (r : Ex × List PV × UP) : Prop := (fun (p : Int) => ∃ (t_13 : Int), r = (Ex.brk 0, [(.int .i64 p), (.slice (List.map PV.str l0) [] false), (.int .i64 (List.length l0 : Int)), (.int .i64 t_13)], [])) p
noncomputable def block_Indent_B (l0 : List Str) : Option Int :=
  bnd (tloop (block_Indent_l1T l0) (0, (-1))) fun least_12 =>
  some least_12
def block_Indent_ds : Decs := { decs := [(13, (.ref .str)), (17, (.tup [(.int .i64), .bool]))], ups := [], loops := [(3, [], ⟨[(.int .i64), (.sl false), (.int .i64), (.int .i64)], [], [(some 0, [(.int .i64), (.sl false), (.int .i64), (.int .i64)], [])]⟩)] }
set_option maxRecDepth 100000 in
theorem block_Indent_t1 (O : Orc) (LP : LBody → LBody) (l0 : List Str) : evalBodyD Try.prog (MT 12) block_Indent_ds Try.f12.ntmps O LP Try.f12 [(.slice (List.map PV.str l0) [] false)] [] = block_Indent_T1 O LP l0 := by kernel_rfl
theorem block_Indent_l1_ok (l0 : List Str) : ∀ st l u, block_Indent_l1R l0 st l u → Imp (block_Indent_l1T l0 st) (block_Indent_l1 O loopLim l u) (StepR (block_Indent_l1R l0) (block_Indent_l1X l0)) := by
  rintro ⟨t_6, least_7⟩ l u ⟨rfl, rfl⟩
  simp only [block_Indent_l1T, block_Indent_l1]
  refine Imp.chk rfl (Imp.chk rfl ?_)
  try simp only [evs, tys]
  refine Imp.cnd ?_ ?_
  · refine Imp.op (f := fun a => .ref (PV.str a)) (fun a h => op_ix (enc := PV.str) (by first | rfl | simp only [evs, tys, evl]) ⟨by first | rfl | simp only [evs, tys, evc], by decide⟩ h) (fun a => rfl) fun y9 hy9 => ?_
    try simp only [evs, tys]
    refine Imp.call (f := block_blanksE) rfl (fun a h => by first | exact block_blanks_spec h | simpa only [evs, tys, evl] using block_blanks_spec h) (fun a => by first | rfl | simp only [block_blanksE, evk, chks]) fun y11 hy11 => ?_
    try simp only [block_blanksE, evs, tys]
    refine Imp.cnd ?_ ?_
    · exact Imp.some (StepR.next ⟨by first | rfl | simp only [evs, tys, evl], rfl⟩)
    · refine Imp.cnd ?_ ?_
      · exact Imp.some (StepR.next ⟨by first | rfl | simp only [evs, tys, evl], rfl⟩)
      · refine Imp.cnd ?_ ?_
        · exact Imp.some (StepR.next ⟨by first | rfl | simp only [evs, tys, evl], rfl⟩)
        · refine Imp.cnd ?_ ?_
          · exact Imp.some (StepR.next ⟨by first | rfl | simp only [evs, tys, evl], rfl⟩)
          · exact Imp.some (StepR.next ⟨by first | rfl | simp only [evs, tys, evl], rfl⟩)
  · exact Imp.some (StepR.brk ⟨t_6, by first | rfl | simp only [evs, tys, evl, elim_inl, elim_inr]⟩)
theorem block_Indent_imp (l0 : List Str) : Imp (block_Indent_B l0) (block_Indent_T1 O loopLim l0) (fun r v => v = (block_IndentE r, [])) := by
  simp only [block_Indent_B, block_Indent_T1]
  try simp only [evs, tys]
  refine Imp.bnd (Imp.loop (block_Indent_l1_ok l0) ⟨by first | rfl | simp only [evs, tys, evl], rfl⟩) ?_
  rintro least_12 vy14 hy14
  obtain ⟨t_13, rfl⟩ := hy14
  refine Imp.exHit rfl (Imp.chk rfl (Imp.chk rfl ?_))
  try simp only [evs, tys]
  exact Imp.some (by first | rfl | simp only [block_IndentE, evs, tys, evl])
theorem block_Indent_run {l0 : List Str} {r : Int} (h : block_Indent_B l0 = some r) : block_Indent l0 = some r := by
  obtain ⟨v, hv, rfl⟩ := block_Indent_imp l0 r h
  exact tO_of (pair_inj block_IndentEj) (OL_runD block_Indent_ds rfl rfl Try.func12 ((block_Indent_t1 _ _ l0).trans hv))

def seineref1_Indent_l1 (O : Orc) (LP : LBody → LBody) : LBody := fun s1 s1u => cnd (chkL [(.sl false), (.int .i64), (.int .i64)] s1) (cnd (chkU [] s1u)
  (cnd (decide ((intV (gt s1 2)) < (List.length (esV (gt s1 0)) : Int)))
   (bnd (ix 1 (.slice (esV (gt s1 0)) [] false) (.int .i64 (intV (gt s1 2)))) fun x8 => cnd (chk (.ref .str) x8)
   (callp O 20 [(.str (strV (refV x8)))] fun x10 => cnd (chk (.tup [(.int .i64), .bool]) x10)
   (cnd (boolV (gt (tupV x10) 1))
    (cnd (decide ((intV (gt s1 1)) < 0))
     (some (.nrm, [(.slice (esV (gt s1 0)) [] false), (.int .i64 (intV (gt (tupV x10) 0))), (.int .i64 (IntKind.wrap .i64 ((intV (gt s1 2)) + 1)))], []))
     (cnd (decide ((intV (gt (tupV x10) 0)) < (intV (gt s1 1))))
      (some (.nrm, [(.slice (esV (gt s1 0)) [] false), (.int .i64 (intV (gt (tupV x10) 0))), (.int .i64 (IntKind.wrap .i64 ((intV (gt s1 2)) + 1)))], []))
      (some (.nrm, [(.slice (esV (gt s1 0)) [] false), (.int .i64 (intV (gt s1 1))), (.int .i64 (IntKind.wrap .i64 ((intV (gt s1 2)) + 1)))], []))))
    (some (.nrm, [(.slice (esV (gt s1 0)) [] false), (.int .i64 (intV (gt s1 1))), (.int .i64 (IntKind.wrap .i64 ((intV (gt s1 2)) + 1)))], []))) none) none)
   (some (.brk 0, [(.slice (esV (gt s1 0)) [] false), (.int .i64 (intV (gt s1 1))), (.int .i64 (intV (gt s1 2)))], []))) none) none
def seineref1_Indent_T1 (O : Orc) (LP : LBody → LBody) (l0 : List Str) : Option (PV × UP) :=
  bnd (LP (seineref1_Indent_l1 O LP) [(.slice (List.map PV.str l0) [] false), (.int .i64 (-1)), (.int .i64 1)] []) fun y14 =>
  exIs y14.1 (some 0) (cnd (chkL [(.sl false), (.int .i64), (.int .i64)] y14.2.1) (cnd (chkU [] y14.2.2)
   (some ((.int .i64 (intV (gt y14.2.1 1))), [])) none) none)
  (none)
noncomputable def seineref1_Indent_l1T (l0 : List Str) : (Int × Int) → Option ((Int × Int) ⊕ Int)
  | (out_6, i_7) =>
  cnd (decide (i_7 < (List.length l0 : Int)))
   (bnd (nthI l0 i_7) fun y9 =>
   bnd (seineref1_lead y9) fun y11 =>
   cnd y11.2
    (cnd (decide (out_6 < 0))
     (some (.inl (y11.1, (IntKind.wrap .i64 (i_7 + 1)))))
     (cnd (decide (y11.1 < out_6))
      (some (.inl (y11.1, (IntKind.wrap .i64 (i_7 + 1)))))
      (some (.inl (out_6, (IntKind.wrap .i64 (i_7 + 1)))))))
    (some (.inl (out_6, (IntKind.wrap .i64 (i_7 + 1))))))
   (some (.inr out_6))
abbrev seineref1_Indent_l1R (l0 : List Str) (st : Int × Int) (l : List PV) (u : UP) : Prop := l = [(.slice (List.map PV.str l0) [] false), (.int .i64 st.1), (.int .i64 st.2)] ∧ u = []
abbrev seineref1_Indent_l1X (l0 : List Str) (p : Int) (r : Ex × List PV × UP) : Prop := (fun (p : Int) => ∃ (i_13 : Int), r = (Ex.brk 0, [(.slice (List.map PV.str l0) [] false), (.int .i64 p), (.int .i64 i_13)], [])) p
noncomputable def seineref1_Indent_B (l0 : List Str) : Option Int :=
  bnd (tloop (seineref1_Indent_l1T l0) ((-1), 1)) fun out_12 =>
  some out_12
def seineref1_Indent_ds : Decs := { decs := [(16, (.ref .str)), (18, (.tup [(.int .i64), .bool]))], ups := [], loops := [(3, [], ⟨[(.sl false), (.int .i64), (.int .i64)], [], [(some 0, [(.sl false), (.int .i64), (.int .i64)], [])]⟩)] }
set_option maxRecDepth 100000 in
theorem seineref1_Indent_t1 (O : Orc) (LP : LBody → LBody) (l0 : List Str) : evalBodyD Try.prog (MT 13) seineref1_Indent_ds Try.f13.ntmps O LP Try.f13 [(.slice (List.map PV.str l0) [] false)] [] = seineref1_Indent_T1 O LP l0 := by kernel_rfl
theorem seineref1_Indent_l1_ok (l0 : List Str) : ∀ st l u, seineref1_Indent_l1R l0 st l u → Imp (seineref1_Indent_l1T l0 st) (seineref1_Indent_l1 O loopLim l u) (StepR (seineref1_Indent_l1R l0) (seineref1_Indent_l1X l0)) := by
  rintro ⟨out_6, i_7⟩ l u ⟨rfl, rfl⟩
  simp only [seineref1_Indent_l1T, seineref1_Indent_l1]
  refine Imp.chk rfl (Imp.chk rfl ?_)
  try simp only [evs, tys]
  refine Imp.cnd ?_ ?_
  · refine Imp.op (f := fun a => .ref (PV.str a)) (fun a h => op_ix (enc := PV.str) (by first | rfl | simp only [evs, tys, evl]) ⟨by first | rfl | simp only [evs, tys, evc], by decide⟩ h) (fun a => rfl) fun y9 hy9 => ?_
    try simp only [evs, tys]
    refine Imp.call (f := seineref1_leadE) rfl (fun a h => by first | exact seineref1_lead_spec h | simpa only [evs, tys, evl] using seineref1_lead_spec h) (fun a => by first | rfl | simp only [seineref1_leadE, evk, chks]) fun y11 hy11 => ?_
    try simp only [seineref1_leadE, evs, tys]
    refine Imp.cnd ?_ ?_
    · refine Imp.cnd ?_ ?_
      · exact Imp.some (StepR.next ⟨by first | rfl | simp only [evs, tys, evl], rfl⟩)
      · refine Imp.cnd ?_ ?_
        · exact Imp.some (StepR.next ⟨by first | rfl | simp only [evs, tys, evl], rfl⟩)
        · exact Imp.some (StepR.next ⟨by first | rfl | simp only [evs, tys, evl], rfl⟩)
    · exact Imp.some (StepR.next ⟨by first | rfl | simp only [evs, tys, evl], rfl⟩)
  · exact Imp.some (StepR.brk ⟨i_7, by first | rfl | simp only [evs, tys, evl, elim_inl, elim_inr]⟩)
theorem seineref1_Indent_imp (l0 : List Str) : Imp (seineref1_Indent_B l0) (seineref1_Indent_T1 O loopLim l0) (fun r v => v = (seineref1_IndentE r, [])) := by
  simp only [seineref1_Indent_B, seineref1_Indent_T1]
  try simp only [evs, tys]
  refine Imp.bnd (Imp.loop (seineref1_Indent_l1_ok l0) ⟨by first | rfl | simp only [evs, tys, evl], rfl⟩) ?_
  rintro out_12 vy14 hy14
  obtain ⟨i_13, rfl⟩ := hy14
  refine Imp.exHit rfl (Imp.chk rfl (Imp.chk rfl ?_))
  try simp only [evs, tys]
  exact Imp.some (by first | rfl | simp only [seineref1_IndentE, evs, tys, evl])
theorem seineref1_Indent_run {l0 : List Str} {r : Int} (h : seineref1_Indent_B l0 = some r) : seineref1_Indent l0 = some r := by
  obtain ⟨v, hv, rfl⟩ := seineref1_Indent_imp l0 r h
  exact tO_of (pair_inj seineref1_IndentEj) (OL_runD seineref1_Indent_ds rfl rfl Try.func13 ((seineref1_Indent_t1 _ _ l0).trans hv))
end Go.Proofs.Ytlaomadhhdcflaa

/- Printed by symgen.py: typed functions of this seat, and why they tell what the program does. -/
set_option linter.unusedVariables false
set_option linter.unusedSimpArgs false
open Go Go.Ev Go.Ev.PV
namespace Go.Proofs.Ytlaomadhhdcflaa
def block_Value_l1 (O : Orc) (LP : LBody → LBody) : LBody := fun s6 s6u => cnd (chkL [(.rsl 0 7 1), (.int .i64), (.int .i64), (.vec 1)] s6) (cnd (chkU [] s6u)
  (cnd (decide ((intV (gt s6 2)) < ((rlnV (gt s6 0)) : Int)))
   (bnd (ix 1 (.rsl 0 7 (rlnV (gt s6 0)) 1) (.int .i64 (intV (gt s6 2)))) fun x23 => cnd (chk (.ptx 0 7) x23)
   (bnd (vload 1 (vecV (gt s6 3)) (offV x23) 1 false) fun x25 => cnd (chk .str x25)
   (bnd (ix 1 (.rsl 0 7 (rlnV (gt s6 0)) 1) (.int .i64 (intV (gt s6 2)))) fun x27 => cnd (chk (.ptx 0 7) x27)
   (bnd (vload 1 (vecV (gt s6 3)) (offV x27) 1 false) fun x29 => cnd (chk .str x29)
   (bnd (slcLo 0 (.str (strV x25)) (.int .i64 (if (List.length (strV x29) : Int) < (intV (gt s6 1)) then (List.length (strV x29) : Int) else (intV (gt s6 1))))) fun x31 => cnd (chk .str x31)
   (bnd (ix 1 (.rsl 0 7 (rlnV (gt s6 0)) 1) (.int .i64 (intV (gt s6 2)))) fun x33 => cnd (chk (.ptx 0 7) x33)
   (bnd (vput 1 (vecV (gt s6 3)) (offV x33) [(.str (strV x31))]) fun x35 =>
   some (.nrm, [(.rsl 0 7 (rlnV (gt s6 0)) 1), (.int .i64 (intV (gt s6 1))), (.int .i64 (IntKind.wrap .i64 ((intV (gt s6 2)) + 1))), (.vec 1 x35)], [])) none) none) none) none) none) none)
   (some (.brk 0, [(.rsl 0 7 (rlnV (gt s6 0)) 1), (.int .i64 (intV (gt s6 1))), (.int .i64 (intV (gt s6 2))), (.vec 1 (vecV (gt s6 3)))], []))) none) none
def block_Value_l2 (O : Orc) (LP : LBody → LBody) : LBody := fun s40 s40u => cnd (chkL [(.slb false)] s40) (cnd (chkU [] s40u)
  (cnd (decide ((List.length (esV (gt s40 0)) : Int) > 0))
   (bnd (ix 1 (.slice (esV (gt s40 0)) [] false) (.int .i64 0)) fun x49 => cnd (chk (.ref .str) x49)
   (callp O 21 [(.str (strV (refV x49)))] fun x51 => cnd (chk .bool x51)
   (cnd (boolV x51)
    (bnd (slcLo 1 (.slice (esV (gt s40 0)) [] false) (.int .i64 1)) fun x53 => cnd (chk (.slb false) x53)
    (some (.nrm, [(.slice (esV x53) (bsV x53) false)], [])) none)
    (some (.brk 2, [(.slice (esV (gt s40 0)) (bsV (gt s40 0)) false)], []))) none) none)
   (some (.brk 2, [(.slice (esV (gt s40 0)) (bsV (gt s40 0)) false)], []))) none) none
def block_Value_l3 (O : Orc) (LP : LBody → LBody) : LBody := fun s58 s58u => cnd (chkL [(.slb false)] s58) (cnd (chkU [] s58u)
  (cnd (decide ((List.length (esV (gt s58 0)) : Int) > 0))
   (bnd (ix 1 (.slice (esV (gt s58 0)) [] false) (.int .i64 (IntKind.wrap .i64 ((List.length (esV (gt s58 0)) : Int) - 1)))) fun x67 => cnd (chk (.ref .str) x67)
   (callp O 21 [(.str (strV (refV x67)))] fun x69 => cnd (chk .bool x69)
   (cnd (boolV x69)
    (bnd (slcHi 1 (.slice (esV (gt s58 0)) [] false) (.int .i64 (IntKind.wrap .i64 ((List.length (esV (gt s58 0)) : Int) - 1)))) fun x71 => cnd (chk (.slb false) x71)
    (some (.nrm, [(.slice (esV x71) (bsV x71) false)], [])) none)
    (some (.brk 4, [(.slice (esV (gt s58 0)) (bsV (gt s58 0)) false)], []))) none) none)
   (some (.brk 4, [(.slice (esV (gt s58 0)) (bsV (gt s58 0)) false)], []))) none) none
def block_Value_l4 (O : Orc) (LP : LBody → LBody) : LBody := fun s78 s78u => cnd (chkL [(.slb false)] s78) (cnd (chkU [] s78u)
  (cnd (decide ((List.length (esV (gt s78 0)) : Int) > 0))
   (bnd (ix 1 (.slice (esV (gt s78 0)) [] false) (.int .i64 0)) fun x87 => cnd (chk (.ref .str) x87)
   (callp O 21 [(.str (strV (refV x87)))] fun x89 => cnd (chk .bool x89)
   (cnd (boolV x89)
    (bnd (slcLo 1 (.slice (esV (gt s78 0)) [] false) (.int .i64 1)) fun x91 => cnd (chk (.slb false) x91)
    (some (.nrm, [(.slice (esV x91) (bsV x91) false)], [])) none)
    (some (.brk 2, [(.slice (esV (gt s78 0)) (bsV (gt s78 0)) false)], []))) none) none)
   (some (.brk 2, [(.slice (esV (gt s78 0)) (bsV (gt s78 0)) false)], []))) none) none
def block_Value_l5 (O : Orc) (LP : LBody → LBody) : LBody := fun s96 s96u => cnd (chkL [(.slb false)] s96) (cnd (chkU [] s96u)
  (cnd (decide ((List.length (esV (gt s96 0)) : Int) > 0))
   (bnd (ix 1 (.slice (esV (gt s96 0)) [] false) (.int .i64 (IntKind.wrap .i64 ((List.length (esV (gt s96 0)) : Int) - 1)))) fun x105 => cnd (chk (.ref .str) x105)
   (callp O 21 [(.str (strV (refV x105)))] fun x107 => cnd (chk .bool x107)
   (cnd (boolV x107)
    (bnd (slcHi 1 (.slice (esV (gt s96 0)) [] false) (.int .i64 (IntKind.wrap .i64 ((List.length (esV (gt s96 0)) : Int) - 1)))) fun x109 => cnd (chk (.slb false) x109)
    (some (.nrm, [(.slice (esV x109) (bsV x109) false)], [])) none)
    (some (.brk 4, [(.slice (esV (gt s96 0)) (bsV (gt s96 0)) false)], []))) none) none)
   (some (.brk 4, [(.slice (esV (gt s96 0)) (bsV (gt s96 0)) false)], []))) none) none
def block_Value_T1 (O : Orc) (LP : LBody → LBody) (raw : Str) : Option (PV × UP) :=
  callp O 9 [(.str raw)] fun x2 => bnd (thawV 1 x2) fun x3 =>
  cnd ((Nat.ble (List.length x3) (List.length x3)) && true)
   (callp O 12 [(.slice (List.take (List.length x3) x3) [] false)] fun x4 => cnd (scal x4) (cnd (chk (.int .i64) x4)
   (cnd (decide ((intV x4) > 0))
    (bnd (LP (block_Value_l1 O LP) [(.rsl 0 7 (List.length x3) 1), (.int .i64 (intV x4)), (.int .i64 1), (.vec 1 x3)] []) fun y39 =>
    exIs y39.1 (some 0) (cnd (chkL [(.rsl 0 7 1), (.int .i64), (.int .i64), (.vec 1)] y39.2.1) (cnd (chkU [] y39.2.2)
     (cnd (Nat.ble (rlnV (gt y39.2.1 0)) (List.length (vecV (gt y39.2.1 3))))
      (bnd (LP (block_Value_l2 O LP) [(.slice (List.take (rlnV (gt y39.2.1 0)) (vecV (gt y39.2.1 3))) [] false)] []) fun y57 =>
      exIs y57.1 (some 2) (cnd (chkL [(.slb false)] y57.2.1) (cnd (chkU [] y57.2.2)
       (bnd (LP (block_Value_l3 O LP) [(.slice (esV (gt y57.2.1 0)) (bsV (gt y57.2.1 0)) false)] []) fun y75 =>
       exIs y75.1 (some 4) (cnd (chkL [(.slb false)] y75.2.1) (cnd (chkU [] y75.2.2)
        (callp O 22 [(.slice (esV (gt y75.2.1 0)) [] false), (.str [10])] fun x76 => cnd (chk .str x76)
        (some ((.str (strV x76)), [])) none) none) none)
       (none)) none) none)
      (none))
      (none)) none) none)
    (none))
    (cnd (Nat.ble (List.length x3) (List.length x3))
     (bnd (LP (block_Value_l4 O LP) [(.slice (List.take (List.length x3) x3) [] false)] []) fun y95 =>
     exIs y95.1 (some 2) (cnd (chkL [(.slb false)] y95.2.1) (cnd (chkU [] y95.2.2)
      (bnd (LP (block_Value_l5 O LP) [(.slice (esV (gt y95.2.1 0)) (bsV (gt y95.2.1 0)) false)] []) fun y113 =>
      exIs y113.1 (some 4) (cnd (chkL [(.slb false)] y113.2.1) (cnd (chkU [] y113.2.2)
       (callp O 22 [(.slice (esV (gt y113.2.1 0)) [] false), (.str [10])] fun x114 => cnd (chk .str x114)
       (some ((.str (strV x114)), [])) none) none) none)
      (none)) none) none)
     (none))
     (none))) none) none)
   (none)
noncomputable def block_Value_l1T (y1 : List Str) (y5 : Int) : (Int × (List Str)) → Option ((Int × (List Str)) ⊕ ((List Str)))
  | (i_21, b_22) =>
  cnd (decide (i_21 < ((List.length y1) : Int)))
   (bnd (tixR (List.length y1) i_21) fun y24 =>
   bnd (tget b_22 y24 (fun z : Str => z)) fun y26 =>
   bnd (tixR (List.length y1) i_21) fun y28 =>
   bnd (tget b_22 y28 (fun z : Str => z)) fun y30 =>
   bnd (tslc y26 (if (List.length y30 : Int) < y5 then (List.length y30 : Int) else y5) (List.length y26)) fun y32 =>
   bnd (tixR (List.length y1) i_21) fun y34 =>
   bnd (tput b_22 y34 (fun _ : Str => y32)) fun y36 =>
   some (.inl ((IntKind.wrap .i64 (i_21 + 1)), y36)))
   (some (.inr b_22))
abbrev block_Value_l1R (y1 : List Str) (y5 : Int) (st : Int × (List Str)) (l : List PV) (u : UP) : Prop := l = [(.rsl 0 7 (List.length y1) 1), (.int .i64 y5), (.int .i64 st.1), (.vec 1 (List.map PV.str st.2))] ∧ u = []
abbrev block_Value_l1X (y1 : List Str) (y5 : Int) (p : (List Str)) (r : Ex × List PV × UP) : Prop := (fun (p : (List Str)) => ∃ (i_37 : Int), r = (Ex.brk 0, [(.rsl 0 7 (List.length y1) 1), (.int .i64 y5), (.int .i64 i_37), (.vec 1 (List.map PV.str p))], [])) p
noncomputable def block_Value_l2T : ((List Str)) → Option (((List Str)) ⊕ ((List Str)))
  | l_48 =>
  cnd (decide ((List.length l_48 : Int) > 0))
   (bnd (nthI l_48 0) fun y50 =>
   bnd (block_bare y50) fun y52 =>
   cnd y52
    (bnd (tslc (l_48 : List Str) 1 (List.length l_48)) fun y54 =>
    some (.inl y54))
    (some (.inr l_48)))
   (some (.inr l_48))
abbrev block_Value_l2R (st : (List Str)) (l : List PV) (u : UP) : Prop := ∃ (jb47 : List Str), l = [(.slice (List.map PV.str st) (List.map PV.str jb47) false)] ∧ u = []
abbrev block_Value_l2X (p : (List Str)) (r : Ex × List PV × UP) : Prop := (fun (p : (List Str)) => ∃ (jb47 : List Str), r = (Ex.brk 2, [(.slice (List.map PV.str p) (List.map PV.str jb47) false)], [])) p
noncomputable def block_Value_l3T : ((List Str)) → Option (((List Str)) ⊕ ((List Str)))
  | l_66 =>
  cnd (decide ((List.length l_66 : Int) > 0))
   (bnd (nthI l_66 (IntKind.wrap .i64 ((List.length l_66 : Int) - 1))) fun y68 =>
   bnd (block_bare y68) fun y70 =>
   cnd y70
    (bnd (tslc (l_66 : List Str) 0 (IntKind.wrap .i64 ((List.length l_66 : Int) - 1))) fun y72 =>
    some (.inl y72))
    (some (.inr l_66)))
   (some (.inr l_66))
abbrev block_Value_l3R (st : (List Str)) (l : List PV) (u : UP) : Prop := ∃ (jb47 : List Str), l = [(.slice (List.map PV.str st) (List.map PV.str jb47) false)] ∧ u = []
abbrev block_Value_l3X (p : (List Str)) (r : Ex × List PV × UP) : Prop := (fun (p : (List Str)) => ∃ (jb47 : List Str), r = (Ex.brk 4, [(.slice (List.map PV.str p) (List.map PV.str jb47) false)], [])) p
noncomputable def block_Value_l4T : ((List Str)) → Option (((List Str)) ⊕ ((List Str)))
  | l_86 =>
  cnd (decide ((List.length l_86 : Int) > 0))
   (bnd (nthI l_86 0) fun y88 =>
   bnd (block_bare y88) fun y90 =>
   cnd y90
    (bnd (tslc (l_86 : List Str) 1 (List.length l_86)) fun y92 =>
    some (.inl y92))
    (some (.inr l_86)))
   (some (.inr l_86))
abbrev block_Value_l4R (st : (List Str)) (l : List PV) (u : UP) : Prop := ∃ (jb85 : List Str), l = [(.slice (List.map PV.str st) (List.map PV.str jb85) false)] ∧ u = []
abbrev block_Value_l4X (p : (List Str)) (r : Ex × List PV × UP) : Prop := (fun (p : (List Str)) => ∃ (jb85 : List Str), r = (Ex.brk 2, [(.slice (List.map PV.str p) (List.map PV.str jb85) false)], [])) p
noncomputable def block_Value_l5T : ((List Str)) → Option (((List Str)) ⊕ ((List Str)))
  | l_104 =>
  cnd (decide ((List.length l_104 : Int) > 0))
   (bnd (nthI l_104 (IntKind.wrap .i64 ((List.length l_104 : Int) - 1))) fun y106 =>
   bnd (block_bare y106) fun y108 =>
   cnd y108
    (bnd (tslc (l_104 : List Str) 0 (IntKind.wrap .i64 ((List.length l_104 : Int) - 1))) fun y110 =>
    some (.inl y110))
    (some (.inr l_104)))
   (some (.inr l_104))
abbrev block_Value_l5R (st : (List Str)) (l : List PV) (u : UP) : Prop := ∃ (jb85 : List Str), l = [(.slice (List.map PV.str st) (List.map PV.str jb85) false)] ∧ u = []
abbrev block_Value_l5X (p : (List Str)) (r : Ex × List PV × UP) : Prop := (fun (p : (List Str)) => ∃ (jb85 : List Str), r = (Ex.brk 4, [(.slice (List.map PV.str p) (List.map PV.str jb85) false)], [])) p
noncomputable def block_Value_B (raw : Str) : Option Str :=
  bnd (block_Lines raw) fun y1 =>
  cnd ((Nat.ble (List.length y1) (List.length y1)) && true)
   (bnd (block_Indent (List.take (List.length y1) y1)) fun y5 =>
   cnd (decide (y5 > 0))
    (bnd (tloop (block_Value_l1T y1 y5) (1, y1)) fun b_38 =>
    cnd (Nat.ble (List.length y1) (List.length b_38))
     (bnd (tloop block_Value_l2T (List.take (List.length y1) b_38)) fun l_56 =>
     bnd (tloop block_Value_l3T l_56) fun l_74 =>
     bnd (strings_Join l_74 [10]) fun y77 =>
     some y77)
     (none))
    (cnd (Nat.ble (List.length y1) (List.length y1))
     (bnd (tloop block_Value_l4T (List.take (List.length y1) y1)) fun l_94 =>
     bnd (tloop block_Value_l5T l_94) fun l_112 =>
     bnd (strings_Join l_112 [10]) fun y115 =>
     some y115)
     (none)))
   (none)
def block_Value_ds : Decs := { decs := [(9, (.int .i64)), (22, (.ptx 0 7)), (23, .str), (27, (.ptx 0 7)), (28, .str), (31, .str), (32, (.ptx 0 7)), (38, (.ref .str)), (40, .bool), (43, (.slb false)), (52, (.ref .str)), (54, .bool), (60, (.slb false)), (62, .str)], ups := [], loops := [(5, [(7, 1)], ⟨[(.rsl 0 7 1), (.int .i64), (.int .i64), (.vec 1)], [], [(some 0, [(.rsl 0 7 1), (.int .i64), (.int .i64), (.vec 1)], [])]⟩), (8, [], ⟨[(.slb false)], [], [(some 2, [(.slb false)], [])]⟩), (10, [], ⟨[(.slb false)], [], [(some 4, [(.slb false)], [])]⟩)] }
set_option maxRecDepth 100000 in
theorem block_Value_t1 (O : Orc) (LP : LBody → LBody) (raw : Str) : evalBodyD Try.prog (MT 14) block_Value_ds Try.f14.ntmps O LP Try.f14 [(.str raw)] [] = block_Value_T1 O LP raw := by kernel_rfl
theorem block_Value_l1_ok (y1 : List Str) (y5 : Int) : ∀ st l u, block_Value_l1R y1 y5 st l u → Imp (block_Value_l1T y1 y5 st) (block_Value_l1 O loopLim l u) (StepR (block_Value_l1R y1 y5) (block_Value_l1X y1 y5)) := by
  rintro ⟨i_21, b_22⟩ l u ⟨rfl, rfl⟩
  simp only [block_Value_l1T, block_Value_l1]
  refine Imp.chk rfl (Imp.chk rfl ?_)
  try simp only [evs, tys]
  refine Imp.cnd ?_ ?_
  · refine Imp.op (f := fun a => .ptr 0 7 (a * 1)) (fun a h => op_ixR h) (fun a => rfl) fun y24 hy24 => ?_
    try simp only [evs, tys]
    refine Imp.op (f := fun a => PV.str a) (fun a h => op_vload0 (enc := PV.str) (encT := fun a => PV.str a) (f := fun z => z) (by first | rfl | simp only [evs, tys, evl]) (by decide) (fun z => by first | rfl | (simp only [evs, tys, evc, part]; rfl)) (fun a => by first | rfl | (simp only [evs, tys]; rfl)) h) (fun a => rfl) fun y26 hy26 => ?_
    try simp only [evs, tys]
    refine Imp.op (f := fun a => .ptr 0 7 (a * 1)) (fun a h => op_ixR h) (fun a => rfl) fun y28 hy28 => ?_
    try simp only [evs, tys]
    refine Imp.op (f := fun a => PV.str a) (fun a h => op_vload0 (enc := PV.str) (encT := fun a => PV.str a) (f := fun z => z) (by first | rfl | simp only [evs, tys, evl]) (by decide) (fun z => by first | rfl | (simp only [evs, tys, evc, part]; rfl)) (fun a => by first | rfl | (simp only [evs, tys]; rfl)) h) (fun a => rfl) fun y30 hy30 => ?_
    try simp only [evs, tys]
    refine Imp.op (f := fun a => .str a) (fun a h => op_sslcLo h) (fun a => rfl) fun y32 hy32 => ?_
    try simp only [evs, tys]
    refine Imp.op (f := fun a => .ptr 0 7 (a * 1)) (fun a h => op_ixR h) (fun a => rfl) fun y34 hy34 => ?_
    try simp only [evs, tys]
    refine Imp.opr (f := fun a => List.map PV.str a) (fun a h => op_vput0 (enc := PV.str) (by first | rfl | simp only [evs, tys, evl]) (by decide) (by simp) (by rfl) (fun z => by first | rfl | (simp only [evs, tys, evl, evc]; rfl)) h) fun y36 hy36 => ?_
    try simp only [evs, tys]
    exact Imp.some (StepR.next ⟨by first | rfl | simp only [evs, tys, evl], rfl⟩)
  · exact Imp.some (StepR.brk ⟨i_21, by first | rfl | simp only [evs, tys, evl, elim_inl, elim_inr]⟩)
theorem block_Value_l2_ok : ∀ st l u, block_Value_l2R st l u → Imp (block_Value_l2T st) (block_Value_l2 O loopLim l u) (StepR (block_Value_l2R) (block_Value_l2X)) := by
  rintro l_48 l u ⟨jb47, rfl, rfl⟩
  simp only [block_Value_l2T, block_Value_l2]
  refine Imp.chk rfl (Imp.chk rfl ?_)
  try simp only [evs, tys]
  refine Imp.cnd ?_ ?_
  · refine Imp.op (f := fun a => .ref (PV.str a)) (fun a h => op_ix (enc := PV.str) (by first | rfl | simp only [evs, tys, evl]) ⟨by first | rfl | simp only [evs, tys, evc], by decide⟩ h) (fun a => rfl) fun y50 hy50 => ?_
    try simp only [evs, tys]
    refine Imp.call (f := block_bareE) rfl (fun a h => by first | exact block_bare_spec h | simpa only [evs, tys, evl] using block_bare_spec h) (fun a => by first | rfl | simp only [block_bareE, evk, chks]) fun y52 hy52 => ?_
    try simp only [block_bareE, evs, tys]
    refine Imp.cnd ?_ ?_
    · refine Imp.op2 (f := fun a b => .slice (List.map PV.str a) (List.map PV.str b) false) (fun a h => op_slcLo (enc := PV.str) (b := _) (by first | rfl | simp only [evs, tys, evl]) (by first | rfl | exact List.map_nil.symm | simp only [evs, tys, evl]) (fun a => by first | rfl | simp only [evs, tys, evc]) h) (fun a b => rfl) fun y54 jby54 hy54 => ?_
      try simp only [evs, tys]
      exact Imp.some (StepR.next ⟨jby54, by first | rfl | simp only [evs, tys, evl], rfl⟩)
    · exact Imp.some (StepR.brk ⟨jb47, by first | rfl | simp only [evs, tys, evl, elim_inl, elim_inr]⟩)
  · exact Imp.some (StepR.brk ⟨jb47, by first | rfl | simp only [evs, tys, evl, elim_inl, elim_inr]⟩)
theorem block_Value_l3_ok : ∀ st l u, block_Value_l3R st l u → Imp (block_Value_l3T st) (block_Value_l3 O loopLim l u) (StepR (block_Value_l3R) (block_Value_l3X)) := by
  rintro l_66 l u ⟨jb47, rfl, rfl⟩
  simp only [block_Value_l3T, block_Value_l3]
  refine Imp.chk rfl (Imp.chk rfl ?_)
  try simp only [evs, tys]
  refine Imp.cnd ?_ ?_
  · refine Imp.op (f := fun a => .ref (PV.str a)) (fun a h => op_ix (enc := PV.str) (by first | rfl | simp only [evs, tys, evl]) ⟨by first | rfl | simp only [evs, tys, evc], by decide⟩ h) (fun a => rfl) fun y68 hy68 => ?_
    try simp only [evs, tys]
    refine Imp.call (f := block_bareE) rfl (fun a h => by first | exact block_bare_spec h | simpa only [evs, tys, evl] using block_bare_spec h) (fun a => by first | rfl | simp only [block_bareE, evk, chks]) fun y70 hy70 => ?_
    try simp only [block_bareE, evs, tys]
    refine Imp.cnd ?_ ?_
    · refine Imp.op2 (f := fun a b => .slice (List.map PV.str a) (List.map PV.str b) false) (fun a h => op_slcHi (enc := PV.str) (b := _) (by first | rfl | simp only [evs, tys, evl]) (by first | rfl | exact List.map_nil.symm | simp only [evs, tys, evl]) (fun a => by first | rfl | simp only [evs, tys, evc]) h) (fun a b => rfl) fun y72 jby72 hy72 => ?_
      try simp only [evs, tys]
      exact Imp.some (StepR.next ⟨jby72, by first | rfl | simp only [evs, tys, evl], rfl⟩)
    · exact Imp.some (StepR.brk ⟨jb47, by first | rfl | simp only [evs, tys, evl, elim_inl, elim_inr]⟩)
  · exact Imp.some (StepR.brk ⟨jb47, by first | rfl | simp only [evs, tys, evl, elim_inl, elim_inr]⟩)
theorem block_Value_l4_ok : ∀ st l u, block_Value_l4R st l u → Imp (block_Value_l4T st) (block_Value_l4 O loopLim l u) (StepR (block_Value_l4R) (block_Value_l4X)) := by
  rintro l_86 l u ⟨jb85, rfl, rfl⟩
  simp only [block_Value_l4T, block_Value_l4]
  refine Imp.chk rfl (Imp.chk rfl ?_)
  try simp only [evs, tys]
  refine Imp.cnd ?_ ?_
  · refine Imp.op (f := fun a => .ref (PV.str a)) (fun a h => op_ix (enc := PV.str) (by first | rfl | simp only [evs, tys, evl]) ⟨by first | rfl | simp only [evs, tys, evc], by decide⟩ h) (fun a => rfl) fun y88 hy88 => ?_
    try simp only [evs, tys]
    refine Imp.call (f := block_bareE) rfl (fun a h => by first | exact block_bare_spec h | simpa only [evs, tys, evl] using block_bare_spec h) (fun a => by first | rfl | simp only [block_bareE, evk, chks]) fun y90 hy90 => ?_
    try simp only [block_bareE, evs, tys]
    refine Imp.cnd ?_ ?_
    · refine Imp.op2 (f := fun a b => .slice (List.map PV.str a) (List.map PV.str b) false) (fun a h => op_slcLo (enc := PV.str) (b := _) (by first | rfl | simp only [evs, tys, evl]) (by first | rfl | exact List.map_nil.symm | simp only [evs, tys, evl]) (fun a => by first | rfl | simp only [evs, tys, evc]) h) (fun a b => rfl) fun y92 jby92 hy92 => ?_
      try simp only [evs, tys]
      exact Imp.some (StepR.next ⟨jby92, by first | rfl | simp only [evs, tys, evl], rfl⟩)
    · exact Imp.some (StepR.brk ⟨jb85, by first | rfl | simp only [evs, tys, evl, elim_inl, elim_inr]⟩)
  · exact Imp.some (StepR.brk ⟨jb85, by first | rfl | simp only [evs, tys, evl, elim_inl, elim_inr]⟩)
theorem block_Value_l5_ok : ∀ st l u, block_Value_l5R st l u → Imp (block_Value_l5T st) (block_Value_l5 O loopLim l u) (StepR (block_Value_l5R) (block_Value_l5X)) := by
  rintro l_104 l u ⟨jb85, rfl, rfl⟩
  simp only [block_Value_l5T, block_Value_l5]
  refine Imp.chk rfl (Imp.chk rfl ?_)
  try simp only [evs, tys]
  refine Imp.cnd ?_ ?_
  · refine Imp.op (f := fun a => .ref (PV.str a)) (fun a h => op_ix (enc := PV.str) (by first | rfl | simp only [evs, tys, evl]) ⟨by first | rfl | simp only [evs, tys, evc], by decide⟩ h) (fun a => rfl) fun y106 hy106 => ?_
    try simp only [evs, tys]
    refine Imp.call (f := block_bareE) rfl (fun a h => by first | exact block_bare_spec h | simpa only [evs, tys, evl] using block_bare_spec h) (fun a => by first | rfl | simp only [block_bareE, evk, chks]) fun y108 hy108 => ?_
    try simp only [block_bareE, evs, tys]
    refine Imp.cnd ?_ ?_
    · refine Imp.op2 (f := fun a b => .slice (List.map PV.str a) (List.map PV.str b) false) (fun a h => op_slcHi (enc := PV.str) (b := _) (by first | rfl | simp only [evs, tys, evl]) (by first | rfl | exact List.map_nil.symm | simp only [evs, tys, evl]) (fun a => by first | rfl | simp only [evs, tys, evc]) h) (fun a b => rfl) fun y110 jby110 hy110 => ?_
      try simp only [evs, tys]
      exact Imp.some (StepR.next ⟨jby110, by first | rfl | simp only [evs, tys, evl], rfl⟩)
    · exact Imp.some (StepR.brk ⟨jb85, by first | rfl | simp only [evs, tys, evl, elim_inl, elim_inr]⟩)
  · exact Imp.some (StepR.brk ⟨jb85, by first | rfl | simp only [evs, tys, evl, elim_inl, elim_inr]⟩)
theorem block_Value_imp (raw : Str) : Imp (block_Value_B raw) (block_Value_T1 O loopLim raw) (fun r v => v = (block_ValueE r, [])) := by
  simp only [block_Value_B, block_Value_T1]
  try simp only [evs, tys]
  refine Imp.callT (f := block_LinesE) (e := fun a => List.map PV.str a) rfl (fun a h => by first | exact block_Lines_spec h | simpa only [evs, tys, evl, ← List.map_take] using block_Lines_spec h) (fun a => thaw_map (enc := PV.str) a (by decide) (fun z => by first | rfl | (simp only [evs, tys]; rfl))) fun y1 hy1 => ?_
  try simp only [block_LinesE, evs, tys]
  refine Imp.cnd ?_ ?_
  · refine Imp.callS (f := block_IndentE) rfl (fun a h => by first | exact block_Indent_spec h | simpa only [evs, tys, evl, ← List.map_take] using block_Indent_spec h) (fun a => rfl) (fun a => by first | rfl | simp only [block_IndentE, evk, chks]) fun y5 hy5 => ?_
    try simp only [block_IndentE, evs, tys]
    refine Imp.cnd ?_ ?_
    · refine Imp.bnd (Imp.loop (block_Value_l1_ok y1 y5) ⟨by first | rfl | simp only [evs, tys, evl], rfl⟩) ?_
      rintro b_38 vy39 hy39
      obtain ⟨i_37, rfl⟩ := hy39
      refine Imp.exHit rfl (Imp.chk rfl (Imp.chk rfl ?_))
      try simp only [evs, tys]
      refine Imp.cnd ?_ ?_
      · refine Imp.bnd (Imp.loop (block_Value_l2_ok) ⟨[], by first | rfl | simp only [evs, tys, evl], rfl⟩) ?_
        rintro l_56 vy57 hy57
        obtain ⟨jb47, rfl⟩ := hy57
        refine Imp.exHit rfl (Imp.chk rfl (Imp.chk rfl ?_))
        try simp only [evs, tys]
        refine Imp.bnd (Imp.loop (block_Value_l3_ok) ⟨jb47, by first | rfl | simp only [evs, tys, evl], rfl⟩) ?_
        rintro l_74 vy75 hy75
        obtain ⟨jb47, rfl⟩ := hy75
        refine Imp.exHit rfl (Imp.chk rfl (Imp.chk rfl ?_))
        try simp only [evs, tys]
        refine Imp.call (f := strings_JoinE) rfl (fun a h => by first | exact strings_Join_spec h | simpa only [evs, tys, evl] using strings_Join_spec h) (fun a => by first | rfl | simp only [strings_JoinE, evk, chks]) fun y77 hy77 => ?_
        try simp only [strings_JoinE, evs, tys]
        exact Imp.some (by first | rfl | simp only [block_ValueE, evs, tys, evl])
      · exact Imp.none
    · refine Imp.cnd ?_ ?_
      · refine Imp.bnd (Imp.loop (block_Value_l4_ok) ⟨[], by first | rfl | simp only [evs, tys, evl], rfl⟩) ?_
        rintro l_94 vy95 hy95
        obtain ⟨jb85, rfl⟩ := hy95
        refine Imp.exHit rfl (Imp.chk rfl (Imp.chk rfl ?_))
        try simp only [evs, tys]
        refine Imp.bnd (Imp.loop (block_Value_l5_ok) ⟨jb85, by first | rfl | simp only [evs, tys, evl], rfl⟩) ?_
        rintro l_112 vy113 hy113
        obtain ⟨jb85, rfl⟩ := hy113
        refine Imp.exHit rfl (Imp.chk rfl (Imp.chk rfl ?_))
        try simp only [evs, tys]
        refine Imp.call (f := strings_JoinE) rfl (fun a h => by first | exact strings_Join_spec h | simpa only [evs, tys, evl] using strings_Join_spec h) (fun a => by first | rfl | simp only [strings_JoinE, evk, chks]) fun y115 hy115 => ?_
        try simp only [strings_JoinE, evs, tys]
        exact Imp.some (by first | rfl | simp only [block_ValueE, evs, tys, evl])
      · exact Imp.none
  · exact Imp.none
theorem block_Value_run {raw : Str} {r : Str} (h : block_Value_B raw = some r) : block_Value raw = some r := by
  obtain ⟨v, hv, rfl⟩ := block_Value_imp raw r h
  exact tO_of (pair_inj block_ValueEj) (OL_runD block_Value_ds rfl rfl Try.func14 ((block_Value_t1 _ _ raw).trans hv))
end Go.Proofs.Ytlaomadhhdcflaa

/- Printed by symgen.py: typed functions of this seat, and why they tell what the program does. -/
set_option linter.unusedVariables false
set_option linter.unusedSimpArgs false
open Go Go.Ev Go.Ev.PV
namespace Go.Proofs.Ytlaomadhhdcflaa
def seineref1_Block_l1 (O : Orc) (LP : LBody → LBody) : LBody := fun s6 s6u => cnd (chkL [(.rsl 0 11 1), (.int .i64), (.int .i64), (.vec 1)] s6) (cnd (chkU [] s6u)
  (cnd (decide ((intV (gt s6 2)) < ((rlnV (gt s6 0)) : Int)))
   (bnd (ix 1 (.rsl 0 11 (rlnV (gt s6 0)) 1) (.int .i64 (intV (gt s6 2)))) fun x23 => cnd (chk (.ptx 0 11) x23)
   (bnd (vload 1 (vecV (gt s6 3)) (offV x23) 1 false) fun x25 => cnd (chk .str x25)
   (bnd (ix 1 (.rsl 0 11 (rlnV (gt s6 0)) 1) (.int .i64 (intV (gt s6 2)))) fun x27 => cnd (chk (.ptx 0 11) x27)
   (bnd (vload 1 (vecV (gt s6 3)) (offV x27) 1 false) fun x29 => cnd (chk .str x29)
   (bnd (slcLo 0 (.str (strV x25)) (.int .i64 (if (List.length (strV x29) : Int) < (intV (gt s6 1)) then (List.length (strV x29) : Int) else (intV (gt s6 1))))) fun x31 => cnd (chk .str x31)
   (bnd (ix 1 (.rsl 0 11 (rlnV (gt s6 0)) 1) (.int .i64 (intV (gt s6 2)))) fun x33 => cnd (chk (.ptx 0 11) x33)
   (bnd (vput 1 (vecV (gt s6 3)) (offV x33) [(.str (strV x31))]) fun x35 =>
   some (.nrm, [(.rsl 0 11 (rlnV (gt s6 0)) 1), (.int .i64 (intV (gt s6 1))), (.int .i64 (IntKind.wrap .i64 ((intV (gt s6 2)) + 1))), (.vec 1 x35)], [])) none) none) none) none) none) none)
   (some (.brk 0, [(.rsl 0 11 (rlnV (gt s6 0)) 1), (.int .i64 (intV (gt s6 1))), (.int .i64 (intV (gt s6 2))), (.vec 1 (vecV (gt s6 3)))], []))) none) none
def seineref1_Block_l2 (O : Orc) (LP : LBody → LBody) : LBody := fun s40 s40u => cnd (chkL [(.sl false), (.int .i64), (.int .i64)] s40) (cnd (chkU [] s40u)
  (cnd (decide ((intV (gt s40 1)) < (intV (gt s40 2))))
   (bnd (ix 1 (.slice (esV (gt s40 0)) [] false) (.int .i64 (intV (gt s40 1)))) fun x46 => cnd (chk (.ref .str) x46)
   (callp O 23 [(.str (strV (refV x46)))] fun x48 => cnd (chk .bool x48)
   (cnd (boolV x48)
    (some (.nrm, [(.slice (esV (gt s40 0)) [] false), (.int .i64 (IntKind.wrap .i64 ((intV (gt s40 1)) + 1))), (.int .i64 (intV (gt s40 2)))], []))
    (some (.brk 2, [(.slice (esV (gt s40 0)) [] false), (.int .i64 (intV (gt s40 1))), (.int .i64 (intV (gt s40 2)))], []))) none) none)
   (some (.brk 2, [(.slice (esV (gt s40 0)) [] false), (.int .i64 (intV (gt s40 1))), (.int .i64 (intV (gt s40 2)))], []))) none) none
def seineref1_Block_l3 (O : Orc) (LP : LBody → LBody) : LBody := fun s52 s52u => cnd (chkL [(.sl false), (.int .i64), (.int .i64)] s52) (cnd (chkU [] s52u)
  (cnd (decide ((intV (gt s52 2)) > (intV (gt s52 1))))
   (bnd (ix 1 (.slice (esV (gt s52 0)) [] false) (.int .i64 (IntKind.wrap .i64 ((intV (gt s52 2)) - 1)))) fun x58 => cnd (chk (.ref .str) x58)
   (callp O 23 [(.str (strV (refV x58)))] fun x60 => cnd (chk .bool x60)
   (cnd (boolV x60)
    (some (.nrm, [(.slice (esV (gt s52 0)) [] false), (.int .i64 (intV (gt s52 1))), (.int .i64 (IntKind.wrap .i64 ((intV (gt s52 2)) - 1)))], []))
    (some (.brk 4, [(.slice (esV (gt s52 0)) [] false), (.int .i64 (intV (gt s52 1))), (.int .i64 (intV (gt s52 2)))], []))) none) none)
   (some (.brk 4, [(.slice (esV (gt s52 0)) [] false), (.int .i64 (intV (gt s52 1))), (.int .i64 (intV (gt s52 2)))], []))) none) none
def seineref1_Block_l4 (O : Orc) (LP : LBody → LBody) : LBody := fun s64 s64u => cnd (chkL [(.sl false), (.int .i64), (.int .i64), .str, (.int .i64)] s64) (cnd (chkU [] s64u)
  (cnd (decide ((intV (gt s64 4)) < (intV (gt s64 2))))
   (cnd (decide ((intV (gt s64 4)) > (intV (gt s64 1))))
    (bnd (bin .add (.str (strV (gt s64 3))) (.str [10])) fun x77 => cnd (chk .str x77)
    (bnd (ix 1 (.slice (esV (gt s64 0)) [] false) (.int .i64 (intV (gt s64 4)))) fun x79 => cnd (chk (.ref .str) x79)
    (bnd (bin .add (.str (strV x77)) (.str (strV (refV x79)))) fun x81 => cnd (chk .str x81)
    (some (.nrm, [(.slice (esV (gt s64 0)) [] false), (.int .i64 (intV (gt s64 1))), (.int .i64 (intV (gt s64 2))), (.str (strV x81)), (.int .i64 (IntKind.wrap .i64 ((intV (gt s64 4)) + 1)))], [])) none) none) none)
    (bnd (ix 1 (.slice (esV (gt s64 0)) [] false) (.int .i64 (intV (gt s64 4)))) fun x83 => cnd (chk (.ref .str) x83)
    (bnd (bin .add (.str (strV (gt s64 3))) (.str (strV (refV x83)))) fun x85 => cnd (chk .str x85)
    (some (.nrm, [(.slice (esV (gt s64 0)) [] false), (.int .i64 (intV (gt s64 1))), (.int .i64 (intV (gt s64 2))), (.str (strV x85)), (.int .i64 (IntKind.wrap .i64 ((intV (gt s64 4)) + 1)))], [])) none) none))
   (some (.brk 6, [(.slice (esV (gt s64 0)) [] false), (.int .i64 (intV (gt s64 1))), (.int .i64 (intV (gt s64 2))), (.str (strV (gt s64 3))), (.int .i64 (intV (gt s64 4)))], []))) none) none
def seineref1_Block_T1 (O : Orc) (LP : LBody → LBody) (raw : Str) : Option (PV × UP) :=
  callp O 10 [(.str raw)] fun x2 => bnd (thawV 1 x2) fun x3 =>
  cnd ((Nat.ble (List.length x3) (List.length x3)) && true)
   (callp O 13 [(.slice (List.take (List.length x3) x3) [] false)] fun x4 => cnd (scal x4) (cnd (chk (.int .i64) x4)
   (bnd (LP (seineref1_Block_l1 O LP) [(.rsl 0 11 (List.length x3) 1), (.int .i64 (if (0 : Int) > (intV x4) then 0 else (intV x4))), (.int .i64 1), (.vec 1 x3)] []) fun y39 =>
   exIs y39.1 (some 0) (cnd (chkL [(.rsl 0 11 1), (.int .i64), (.int .i64), (.vec 1)] y39.2.1) (cnd (chkU [] y39.2.2)
    (cnd (Nat.ble (rlnV (gt y39.2.1 0)) (List.length (vecV (gt y39.2.1 3))))
     (bnd (LP (seineref1_Block_l2 O LP) [(.slice (List.take (rlnV (gt y39.2.1 0)) (vecV (gt y39.2.1 3))) [] false), (.int .i64 0), (.int .i64 (List.length (List.take (rlnV (gt y39.2.1 0)) (vecV (gt y39.2.1 3))) : Int))] []) fun y51 =>
     exIs y51.1 (some 2) (cnd (chkL [(.sl false), (.int .i64), (.int .i64)] y51.2.1) (cnd (chkU [] y51.2.2)
      (bnd (LP (seineref1_Block_l3 O LP) [(.slice (esV (gt y51.2.1 0)) [] false), (.int .i64 (intV (gt y51.2.1 1))), (.int .i64 (intV (gt y51.2.1 2)))] []) fun y63 =>
      exIs y63.1 (some 4) (cnd (chkL [(.sl false), (.int .i64), (.int .i64)] y63.2.1) (cnd (chkU [] y63.2.2)
       (bnd (LP (seineref1_Block_l4 O LP) [(.slice (esV (gt y63.2.1 0)) [] false), (.int .i64 (intV (gt y63.2.1 1))), (.int .i64 (intV (gt y63.2.1 2))), (.str []), (.int .i64 (intV (gt y63.2.1 1)))] []) fun y89 =>
       exIs y89.1 (some 6) (cnd (chkL [(.sl false), (.int .i64), (.int .i64), .str, (.int .i64)] y89.2.1) (cnd (chkU [] y89.2.2)
        (some ((.str (strV (gt y89.2.1 3))), [])) none) none)
       (none)) none) none)
      (none)) none) none)
     (none))
     (none)) none) none)
   (none)) none) none)
   (none)
noncomputable def seineref1_Block_l1T (y1 : List Str) (y5 : Int) : (Int × (List Str)) → Option ((Int × (List Str)) ⊕ ((List Str)))
  | (i_21, b_22) =>
  cnd (decide (i_21 < ((List.length y1) : Int)))
   (bnd (tixR (List.length y1) i_21) fun y24 =>
   bnd (tget b_22 y24 (fun z : Str => z)) fun y26 =>
   bnd (tixR (List.length y1) i_21) fun y28 =>
   bnd (tget b_22 y28 (fun z : Str => z)) fun y30 =>
   bnd (tslc y26 (if (List.length y30 : Int) < (if (0 : Int) > y5 then 0 else y5) then (List.length y30 : Int) else (if (0 : Int) > y5 then 0 else y5)) (List.length y26)) fun y32 =>
   bnd (tixR (List.length y1) i_21) fun y34 =>
   bnd (tput b_22 y34 (fun _ : Str => y32)) fun y36 =>
   some (.inl ((IntKind.wrap .i64 (i_21 + 1)), y36)))
   (some (.inr b_22))
abbrev seineref1_Block_l1R (y1 : List Str) (y5 : Int) (st : Int × (List Str)) (l : List PV) (u : UP) : Prop := l = [(.rsl 0 11 (List.length y1) 1), (.int .i64 (if (0 : Int) > y5 then 0 else y5)), (.int .i64 st.1), (.vec 1 (List.map PV.str st.2))] ∧ u = []
abbrev seineref1_Block_l1X (y1 : List Str) (y5 : Int) (p : (List Str)) (r : Ex × List PV × UP) : Prop := (fun (p : (List Str)) => ∃ (i_37 : Int), r = (Ex.brk 0, [(.rsl 0 11 (List.length y1) 1), (.int .i64 (if (0 : Int) > y5 then 0 else y5)), (.int .i64 i_37), (.vec 1 (List.map PV.str p))], [])) p
noncomputable def seineref1_Block_l2T (y1 : List Str) (b_38 : List Str) : Int → Option (Int ⊕ Int)
  | from_45 =>
  cnd (decide (from_45 < (List.length (List.take (List.length y1) b_38) : Int)))
   (bnd (nthI (List.take (List.length y1) b_38) from_45) fun y47 =>
   bnd (seineref1_blank y47) fun y49 =>
   cnd y49
    (some (.inl (IntKind.wrap .i64 (from_45 + 1))))
    (some (.inr from_45)))
   (some (.inr from_45))
abbrev seineref1_Block_l2R (y1 : List Str) (b_38 : List Str) (st : Int) (l : List PV) (u : UP) : Prop := l = [(.slice (List.map PV.str (List.take (List.length y1) b_38)) [] false), (.int .i64 st), (.int .i64 (List.length (List.take (List.length y1) b_38) : Int))] ∧ u = []
abbrev seineref1_Block_l2X (y1 : List Str) (b_38 : List Str) (p : Int) (r : Ex × List PV × UP) : Prop := (fun (p : Int) => r = (Ex.brk 2, [(.slice (List.map PV.str (List.take (List.length y1) b_38)) [] false), (.int .i64 p), (.int .i64 (List.length (List.take (List.length y1) b_38) : Int))], [])) p
noncomputable def seineref1_Block_l3T (y1 : List Str) (b_38 : List Str) (from_50 : Int) : Int → Option (Int ⊕ Int)
  | to_57 =>
  cnd (decide (to_57 > from_50))
   (bnd (nthI (List.take (List.length y1) b_38) (IntKind.wrap .i64 (to_57 - 1))) fun y59 =>
   bnd (seineref1_blank y59) fun y61 =>
   cnd y61
    (some (.inl (IntKind.wrap .i64 (to_57 - 1))))
    (some (.inr to_57)))
   (some (.inr to_57))
abbrev seineref1_Block_l3R (y1 : List Str) (b_38 : List Str) (from_50 : Int) (st : Int) (l : List PV) (u : UP) : Prop := l = [(.slice (List.map PV.str (List.take (List.length y1) b_38)) [] false), (.int .i64 from_50), (.int .i64 st)] ∧ u = []
abbrev seineref1_Block_l3X (y1 : List Str) (b_38 : List Str) (from_50 : Int) (p : Int) (r : Ex × List PV × UP) : Prop := (fun (p : Int) => r = (Ex.brk 4, [(.slice (List.map PV.str (List.take (List.length y1) b_38)) [] false), (.int .i64 from_50), (.int .i64 p)], [])) p
noncomputable def seineref1_Block_l4T (y1 : List Str) (b_38 : List Str) (from_50 : Int) (to_62 : Int) : (Str × Int) → Option ((Str × Int) ⊕ Str)
  | (out_75, i_76) =>
  cnd (decide (i_76 < to_62))
   (cnd (decide (i_76 > from_50))
    (bnd (tapp out_75 ([10] : Str)) fun y78 =>
    bnd (nthI (List.take (List.length y1) b_38) i_76) fun y80 =>
    bnd (tapp y78 y80) fun y82 =>
    some (.inl (y82, (IntKind.wrap .i64 (i_76 + 1)))))
    (bnd (nthI (List.take (List.length y1) b_38) i_76) fun y84 =>
    bnd (tapp out_75 y84) fun y86 =>
    some (.inl (y86, (IntKind.wrap .i64 (i_76 + 1))))))
   (some (.inr out_75))
abbrev seineref1_Block_l4R (y1 : List Str) (b_38 : List Str) (from_50 : Int) (to_62 : Int) (st : Str × Int) (l : List PV) (u : UP) : Prop := l = [(.slice (List.map PV.str (List.take (List.length y1) b_38)) [] false), (.int .i64 from_50), (.int .i64 to_62), (.str st.1), (.int .i64 st.2)] ∧ u = []
abbrev seineref1_Block_l4X (y1 : List Str) (b_38 : List Str) (from_50 : Int) (to_62 : Int) (p : Str) (r : Ex × List PV × UP) : Prop := (fun (p : Str) => ∃ (i_88 : Int), r = (Ex.brk 6, [(.slice (List.map PV.str (List.take (List.length y1) b_38)) [] false), (.int .i64 from_50), (.int .i64 to_62), (.str p), (.int .i64 i_88)], [])) p
noncomputable def seineref1_Block_B (raw : Str) : Option Str :=
  bnd (seineref1_Lines raw) fun y1 =>
  cnd ((Nat.ble (List.length y1) (List.length y1)) && true)
   (bnd (seineref1_Indent (List.take (List.length y1) y1)) fun y5 =>
   bnd (tloop (seineref1_Block_l1T y1 y5) (1, y1)) fun b_38 =>
   cnd (Nat.ble (List.length y1) (List.length b_38))
    (bnd (tloop (seineref1_Block_l2T y1 b_38) 0) fun from_50 =>
    bnd (tloop (seineref1_Block_l3T y1 b_38 from_50) (List.length (List.take (List.length y1) b_38) : Int)) fun to_62 =>
    bnd (tloop (seineref1_Block_l4T y1 b_38 from_50 to_62) ([], from_50)) fun out_87 =>
    some out_87)
    (none))
   (none)
def seineref1_Block_ds : Decs := { decs := [(13, (.int .i64)), (25, (.ptx 0 11)), (26, .str), (30, (.ptx 0 11)), (31, .str), (34, .str), (35, (.ptx 0 11)), (44, (.ref .str)), (46, .bool), (57, (.ref .str)), (59, .bool), (73, .str), (77, (.ref .str)), (79, .str)], ups := [], loops := [(4, [(11, 1)], ⟨[(.rsl 0 11 1), (.int .i64), (.int .i64), (.vec 1)], [], [(some 0, [(.rsl 0 11 1), (.int .i64), (.int .i64), (.vec 1)], [])]⟩), (8, [], ⟨[(.sl false), (.int .i64), (.int .i64)], [], [(some 2, [(.sl false), (.int .i64), (.int .i64)], [])]⟩), (10, [], ⟨[(.sl false), (.int .i64), (.int .i64)], [], [(some 4, [(.sl false), (.int .i64), (.int .i64)], [])]⟩), (14, [], ⟨[(.sl false), (.int .i64), (.int .i64), .str, (.int .i64)], [], [(some 6, [(.sl false), (.int .i64), (.int .i64), .str, (.int .i64)], [])]⟩)] }
set_option maxRecDepth 100000 in
theorem seineref1_Block_t1 (O : Orc) (LP : LBody → LBody) (raw : Str) : evalBodyD Try.prog (MT 15) seineref1_Block_ds Try.f15.ntmps O LP Try.f15 [(.str raw)] [] = seineref1_Block_T1 O LP raw := by kernel_rfl
theorem seineref1_Block_l1_ok (y1 : List Str) (y5 : Int) : ∀ st l u, seineref1_Block_l1R y1 y5 st l u → Imp (seineref1_Block_l1T y1 y5 st) (seineref1_Block_l1 O loopLim l u) (StepR (seineref1_Block_l1R y1 y5) (seineref1_Block_l1X y1 y5)) := by
  rintro ⟨i_21, b_22⟩ l u ⟨rfl, rfl⟩
  simp only [seineref1_Block_l1T, seineref1_Block_l1]
  refine Imp.chk rfl (Imp.chk rfl ?_)
  try simp only [evs, tys]
  refine Imp.cnd ?_ ?_
  · refine Imp.op (f := fun a => .ptr 0 11 (a * 1)) (fun a h => op_ixR h) (fun a => rfl) fun y24 hy24 => ?_
    try simp only [evs, tys]
    refine Imp.op (f := fun a => PV.str a) (fun a h => op_vload0 (enc := PV.str) (encT := fun a => PV.str a) (f := fun z => z) (by first | rfl | simp only [evs, tys, evl]) (by decide) (fun z => by first | rfl | (simp only [evs, tys, evc, part]; rfl)) (fun a => by first | rfl | (simp only [evs, tys]; rfl)) h) (fun a => rfl) fun y26 hy26 => ?_
    try simp only [evs, tys]
    refine Imp.op (f := fun a => .ptr 0 11 (a * 1)) (fun a h => op_ixR h) (fun a => rfl) fun y28 hy28 => ?_
    try simp only [evs, tys]
    refine Imp.op (f := fun a => PV.str a) (fun a h => op_vload0 (enc := PV.str) (encT := fun a => PV.str a) (f := fun z => z) (by first | rfl | simp only [evs, tys, evl]) (by decide) (fun z => by first | rfl | (simp only [evs, tys, evc, part]; rfl)) (fun a => by first | rfl | (simp only [evs, tys]; rfl)) h) (fun a => rfl) fun y30 hy30 => ?_
    try simp only [evs, tys]
    refine Imp.op (f := fun a => .str a) (fun a h => op_sslcLo h) (fun a => rfl) fun y32 hy32 => ?_
    try simp only [evs, tys]
    refine Imp.op (f := fun a => .ptr 0 11 (a * 1)) (fun a h => op_ixR h) (fun a => rfl) fun y34 hy34 => ?_
    try simp only [evs, tys]
    refine Imp.opr (f := fun a => List.map PV.str a) (fun a h => op_vput0 (enc := PV.str) (by first | rfl | simp only [evs, tys, evl]) (by decide) (by simp) (by rfl) (fun z => by first | rfl | (simp only [evs, tys, evl, evc]; rfl)) h) fun y36 hy36 => ?_
    try simp only [evs, tys]
    exact Imp.some (StepR.next ⟨by first | rfl | simp only [evs, tys, evl], rfl⟩)
  · exact Imp.some (StepR.brk ⟨i_21, by first | rfl | simp only [evs, tys, evl, elim_inl, elim_inr]⟩)
theorem seineref1_Block_l2_ok (y1 : List Str) (b_38 : List Str) : ∀ st l u, seineref1_Block_l2R y1 b_38 st l u → Imp (seineref1_Block_l2T y1 b_38 st) (seineref1_Block_l2 O loopLim l u) (StepR (seineref1_Block_l2R y1 b_38) (seineref1_Block_l2X y1 b_38)) := by
  rintro from_45 l u ⟨rfl, rfl⟩
  simp only [seineref1_Block_l2T, seineref1_Block_l2]
  refine Imp.chk rfl (Imp.chk rfl ?_)
  try simp only [evs, tys]
  refine Imp.cnd ?_ ?_
  · refine Imp.op (f := fun a => .ref (PV.str a)) (fun a h => op_ix (enc := PV.str) (by first | rfl | simp only [evs, tys, evl]) ⟨by first | rfl | simp only [evs, tys, evc], by decide⟩ h) (fun a => rfl) fun y47 hy47 => ?_
    try simp only [evs, tys]
    refine Imp.call (f := seineref1_blankE) rfl (fun a h => by first | exact seineref1_blank_spec h | simpa only [evs, tys, evl] using seineref1_blank_spec h) (fun a => by first | rfl | simp only [seineref1_blankE, evk, chks]) fun y49 hy49 => ?_
    try simp only [seineref1_blankE, evs, tys]
    refine Imp.cnd ?_ ?_
    · exact Imp.some (StepR.next ⟨by first | rfl | simp only [evs, tys, evl], rfl⟩)
    · exact Imp.some (StepR.brk (by first | rfl | simp only [evs, tys, evl, elim_inl, elim_inr]))
  · exact Imp.some (StepR.brk (by first | rfl | simp only [evs, tys, evl, elim_inl, elim_inr]))
theorem seineref1_Block_l3_ok (y1 : List Str) (b_38 : List Str) (from_50 : Int) : ∀ st l u, seineref1_Block_l3R y1 b_38 from_50 st l u → Imp (seineref1_Block_l3T y1 b_38 from_50 st) (seineref1_Block_l3 O loopLim l u) (StepR (seineref1_Block_l3R y1 b_38 from_50) (seineref1_Block_l3X y1 b_38 from_50)) := by
  rintro to_57 l u ⟨rfl, rfl⟩
  simp only [seineref1_Block_l3T, seineref1_Block_l3]
  refine Imp.chk rfl (Imp.chk rfl ?_)
  try simp only [evs, tys]
  refine Imp.cnd ?_ ?_
  · refine Imp.op (f := fun a => .ref (PV.str a)) (fun a h => op_ix (enc := PV.str) (by first | rfl | simp only [evs, tys, evl]) ⟨by first | rfl | simp only [evs, tys, evc], by decide⟩ h) (fun a => rfl) fun y59 hy59 => ?_
    try simp only [evs, tys]
    refine Imp.call (f := seineref1_blankE) rfl (fun a h => by first | exact seineref1_blank_spec h | simpa only [evs, tys, evl] using seineref1_blank_spec h) (fun a => by first | rfl | simp only [seineref1_blankE, evk, chks]) fun y61 hy61 => ?_
    try simp only [seineref1_blankE, evs, tys]
    refine Imp.cnd ?_ ?_
    · exact Imp.some (StepR.next ⟨by first | rfl | simp only [evs, tys, evl], rfl⟩)
    · exact Imp.some (StepR.brk (by first | rfl | simp only [evs, tys, evl, elim_inl, elim_inr]))
  · exact Imp.some (StepR.brk (by first | rfl | simp only [evs, tys, evl, elim_inl, elim_inr]))
theorem seineref1_Block_l4_ok (y1 : List Str) (b_38 : List Str) (from_50 : Int) (to_62 : Int) : ∀ st l u, seineref1_Block_l4R y1 b_38 from_50 to_62 st l u → Imp (seineref1_Block_l4T y1 b_38 from_50 to_62 st) (seineref1_Block_l4 O loopLim l u) (StepR (seineref1_Block_l4R y1 b_38 from_50 to_62) (seineref1_Block_l4X y1 b_38 from_50 to_62)) := by
  rintro ⟨out_75, i_76⟩ l u ⟨rfl, rfl⟩
  simp only [seineref1_Block_l4T, seineref1_Block_l4]
  refine Imp.chk rfl (Imp.chk rfl ?_)
  try simp only [evs, tys]
  refine Imp.cnd ?_ ?_
  · refine Imp.cnd ?_ ?_
    · refine Imp.op (f := fun a => .str a) (fun a h => op_cat h) (fun a => rfl) fun y78 hy78 => ?_
      try simp only [evs, tys]
      refine Imp.op (f := fun a => .ref (PV.str a)) (fun a h => op_ix (enc := PV.str) (by first | rfl | simp only [evs, tys, evl]) ⟨by first | rfl | simp only [evs, tys, evc], by decide⟩ h) (fun a => rfl) fun y80 hy80 => ?_
      try simp only [evs, tys]
      refine Imp.op (f := fun a => .str a) (fun a h => op_cat h) (fun a => rfl) fun y82 hy82 => ?_
      try simp only [evs, tys]
      exact Imp.some (StepR.next ⟨by first | rfl | simp only [evs, tys, evl], rfl⟩)
    · refine Imp.op (f := fun a => .ref (PV.str a)) (fun a h => op_ix (enc := PV.str) (by first | rfl | simp only [evs, tys, evl]) ⟨by first | rfl | simp only [evs, tys, evc], by decide⟩ h) (fun a => rfl) fun y84 hy84 => ?_
      try simp only [evs, tys]
      refine Imp.op (f := fun a => .str a) (fun a h => op_cat h) (fun a => rfl) fun y86 hy86 => ?_
      try simp only [evs, tys]
      exact Imp.some (StepR.next ⟨by first | rfl | simp only [evs, tys, evl], rfl⟩)
  · exact Imp.some (StepR.brk ⟨i_76, by first | rfl | simp only [evs, tys, evl, elim_inl, elim_inr]⟩)
theorem seineref1_Block_imp (raw : Str) : Imp (seineref1_Block_B raw) (seineref1_Block_T1 O loopLim raw) (fun r v => v = (seineref1_BlockE r, [])) := by
  simp only [seineref1_Block_B, seineref1_Block_T1]
  try simp only [evs, tys]
  refine Imp.callT (f := seineref1_LinesE) (e := fun a => List.map PV.str a) rfl (fun a h => by first | exact seineref1_Lines_spec h | simpa only [evs, tys, evl, ← List.map_take] using seineref1_Lines_spec h) (fun a => thaw_map (enc := PV.str) a (by decide) (fun z => by first | rfl | (simp only [evs, tys]; rfl))) fun y1 hy1 => ?_
  try simp only [seineref1_LinesE, evs, tys]
  refine Imp.cnd ?_ ?_
  · refine Imp.callS (f := seineref1_IndentE) rfl (fun a h => by first | exact seineref1_Indent_spec h | simpa only [evs, tys, evl, ← List.map_take] using seineref1_Indent_spec h) (fun a => rfl) (fun a => by first | rfl | simp only [seineref1_IndentE, evk, chks]) fun y5 hy5 => ?_
    try simp only [seineref1_IndentE, evs, tys]
    refine Imp.bnd (Imp.loop (seineref1_Block_l1_ok y1 y5) ⟨by first | rfl | simp only [evs, tys, evl], rfl⟩) ?_
    rintro b_38 vy39 hy39
    obtain ⟨i_37, rfl⟩ := hy39
    refine Imp.exHit rfl (Imp.chk rfl (Imp.chk rfl ?_))
    try simp only [evs, tys]
    refine Imp.cnd ?_ ?_
    · refine Imp.bnd (Imp.loop (seineref1_Block_l2_ok y1 b_38) ⟨by first | rfl | simp only [evs, tys, evl], rfl⟩) ?_
      rintro from_50 vy51 hy51
      cases hy51
      refine Imp.exHit rfl (Imp.chk rfl (Imp.chk rfl ?_))
      try simp only [evs, tys]
      refine Imp.bnd (Imp.loop (seineref1_Block_l3_ok y1 b_38 from_50) ⟨by first | rfl | simp only [evs, tys, evl], rfl⟩) ?_
      rintro to_62 vy63 hy63
      cases hy63
      refine Imp.exHit rfl (Imp.chk rfl (Imp.chk rfl ?_))
      try simp only [evs, tys]
      refine Imp.bnd (Imp.loop (seineref1_Block_l4_ok y1 b_38 from_50 to_62) ⟨by first | rfl | simp only [evs, tys, evl], rfl⟩) ?_
      rintro out_87 vy89 hy89
      obtain ⟨i_88, rfl⟩ := hy89
      refine Imp.exHit rfl (Imp.chk rfl (Imp.chk rfl ?_))
      try simp only [evs, tys]
      exact Imp.some (by first | rfl | simp only [seineref1_BlockE, evs, tys, evl])
    · exact Imp.none
  · exact Imp.none
theorem seineref1_Block_run {raw : Str} {r : Str} (h : seineref1_Block_B raw = some r) : seineref1_Block raw = some r := by
  obtain ⟨v, hv, rfl⟩ := seineref1_Block_imp raw r h
  exact tO_of (pair_inj seineref1_BlockEj) (OL_runD seineref1_Block_ds rfl rfl Try.func15 ((seineref1_Block_t1 _ _ raw).trans hv))

def seinekeep_Texts_T1 (O : Orc) (LP : LBody → LBody) (l0 : List Str) : Option (PV × UP) :=
  bnd (mkSl 1 (.int .i64 (IntKind.wrap .i64 ((List.length (List.map PV.str l0) : Int) + 1)))) fun x1 => cnd (chk .any x1)
  (bnd (apd 1 x1 (.slice (List.map PV.str l0) [] false)) fun x3 => cnd (chk .any x3)
  (bnd (apd 1 x3 (.slice [(.str [109, 97, 114, 107])] [] true)) fun x5 => cnd (chk (.sl true) x5)
  (bnd (slcHi 1 (.slice (esV x5) [] true) (.int .i64 (List.length (List.map PV.str l0) : Int))) fun x7 => cnd (chk (.slb false) x7)
  (some ((.slice (esV x7) (bsV x7) false), [])) none) none) none) none
noncomputable def seinekeep_Texts_B (l0 : List Str) : Option (List Str × List Str) :=
  bnd (tmk (IntKind.wrap .i64 ((List.length l0 : Int) + 1))) fun y2 =>
  bnd (tapp ([] : List Str) l0) fun y4 =>
  bnd (tapp y4 [[109, 97, 114, 107]]) fun y6 =>
  bnd (tslb (y6 : List Str) [] 0 (List.length l0 : Int)) fun y8 =>
  some (y8.1, y8.2)
def seinekeep_Texts_ds : Decs := { decs := [(6, .any), (8, .any), (10, (.sl true)), (13, (.slb false))], ups := [], loops := [] }
set_option maxRecDepth 100000 in
theorem seinekeep_Texts_t1 (O : Orc) (LP : LBody → LBody) (l0 : List Str) : evalBodyD Try.prog (MT 16) seinekeep_Texts_ds Try.f16.ntmps O LP Try.f16 [(.slice (List.map PV.str l0) [] false)] [] = seinekeep_Texts_T1 O LP l0 := by kernel_rfl
theorem seinekeep_Texts_imp (l0 : List Str) : Imp (seinekeep_Texts_B l0) (seinekeep_Texts_T1 O loopLim l0) (fun r v => v = (seinekeep_TextsE r, [])) := by
  simp only [seinekeep_Texts_B, seinekeep_Texts_T1]
  try simp only [evs, tys]
  refine Imp.op (f := fun _ => slOr 1 (List.map PV.str [])) (fun a h => op_mk h) (fun a => rfl) fun y2 hy2 => ?_
  try simp only [evs, tys]
  refine Imp.op (f := fun a => slOr 1 (List.map PV.str a)) (fun a h => op_apdOr (enc := PV.str) (by first | rfl | simp only [evs, tys, evl]) (fun a => by first | rfl | simp only [evs, tys, evc]) h) (fun a => rfl) fun y4 hy4 => ?_
  try simp only [evs, tys]
  refine Imp.op (f := fun a => .slice (List.map PV.str a) [] true) (fun a h => op_apdOr1 (enc := PV.str) (by first | rfl | simp only [evs, tys, evl]) (fun a => by first | rfl | simp only [evs, tys, evc]) (by simp) h) (fun a => rfl) fun y6 hy6 => ?_
  try simp only [evs, tys]
  refine Imp.op (f := fun a => .slice (List.map PV.str a.1) (List.map PV.str a.2) false) (fun a h => op_slbHi (enc := PV.str) (by first | rfl | simp only [evs, tys, evl]) (by first | rfl | exact List.map_nil.symm | simp only [evs, tys, evl]) (fun a => by first | rfl | simp only [evs, tys, evc]) h) (fun a => rfl) fun y8 hy8 => ?_
  try simp only [evs, tys]
  exact Imp.some (by first | rfl | simp only [seinekeep_TextsE, evs, tys, evl])
theorem seinekeep_Texts_run {l0 : List Str} {r : (List Str × List Str)} (h : seinekeep_Texts_B l0 = some r) : seinekeep_Texts l0 = some r := by
  obtain ⟨v, hv, rfl⟩ := seinekeep_Texts_imp l0 r h
  exact tO_of (pair_inj seinekeep_TextsEj) (OL_runD seinekeep_Texts_ds rfl rfl Try.func16 ((seinekeep_Texts_t1 _ _ l0).trans hv))

def seinekeep_TextsStay_T1 (O : Orc) (LP : LBody → LBody) (c : List Str) (cb : List Str) (l0 : List Str) : Option (PV × UP) :=
  callp O 11 [(.slice (List.map PV.str c) [] false), (.slice (List.map PV.str l0) [] false)] fun x1 => cnd (chk .bool x1)
  (cnd (boolV x1)
   (bnd (slcHi 1 (.slice (List.map PV.str c) (List.map PV.str cb) false) (.int .i64 (IntKind.wrap .i64 ((List.length (List.map PV.str c) : Int) + 1)))) fun x3 => cnd (chk (.slb false) x3)
   (bnd (ix 1 (.slice (esV x3) (bsV x3) false) (.int .i64 (List.length (List.map PV.str c) : Int))) fun x5 => cnd (chk (.ref .str) x5)
   (some ((.bool ((strV (refV x5)) == ([109, 97, 114, 107] : Str))), [])) none) none)
   (some ((.bool false), []))) none
noncomputable def seinekeep_TextsStay_B (c : List Str) (cb : List Str) (l0 : List Str) : Option Bool :=
  bnd (seinekeep_SameTexts c l0) fun y2 =>
  cnd y2
   (bnd (tslb (c : List Str) cb 0 (IntKind.wrap .i64 ((List.length c : Int) + 1))) fun y4 =>
   bnd (nthI y4.1 (List.length c : Int)) fun y6 =>
   some (y6 == ([109, 97, 114, 107] : Str)))
   (some false)
def seinekeep_TextsStay_ds : Decs := { decs := [(7, .bool), (13, (.slb false)), (16, (.ref .str))], ups := [], loops := [] }
set_option maxRecDepth 100000 in
theorem seinekeep_TextsStay_t1 (O : Orc) (LP : LBody → LBody) (c : List Str) (cb : List Str) (l0 : List Str) : evalBodyD Try.prog (MT 17) seinekeep_TextsStay_ds Try.f17.ntmps O LP Try.f17 [(.slice (List.map PV.str c) (List.map PV.str cb) false), (.slice (List.map PV.str l0) [] false)] [] = seinekeep_TextsStay_T1 O LP c cb l0 := by kernel_rfl
theorem seinekeep_TextsStay_imp (c : List Str) (cb : List Str) (l0 : List Str) : Imp (seinekeep_TextsStay_B c cb l0) (seinekeep_TextsStay_T1 O loopLim c cb l0) (fun r v => v = (seinekeep_TextsStayE r, [])) := by
  simp only [seinekeep_TextsStay_B, seinekeep_TextsStay_T1]
  try simp only [evs, tys]
  refine Imp.call (f := seinekeep_SameTextsE) rfl (fun a h => by first | exact seinekeep_SameTexts_spec h | simpa only [evs, tys, evl] using seinekeep_SameTexts_spec h) (fun a => by first | rfl | simp only [seinekeep_SameTextsE, evk, chks]) fun y2 hy2 => ?_
  try simp only [seinekeep_SameTextsE, evs, tys]
  refine Imp.cnd ?_ ?_
  · refine Imp.op (f := fun a => .slice (List.map PV.str a.1) (List.map PV.str a.2) false) (fun a h => op_slbHi (enc := PV.str) (by first | rfl | simp only [evs, tys, evl]) (by first | rfl | exact List.map_nil.symm | simp only [evs, tys, evl]) (fun a => by first | rfl | simp only [evs, tys, evc]) h) (fun a => rfl) fun y4 hy4 => ?_
    try simp only [evs, tys]
    refine Imp.op (f := fun a => .ref (PV.str a)) (fun a h => op_ix (enc := PV.str) (by first | rfl | simp only [evs, tys, evl]) ⟨by first | rfl | simp only [evs, tys, evc], by decide⟩ h) (fun a => rfl) fun y6 hy6 => ?_
    try simp only [evs, tys]
    exact Imp.some (by first | rfl | simp only [seinekeep_TextsStayE, evs, tys, evl])
  · exact Imp.some (by first | rfl | simp only [seinekeep_TextsStayE, evs, tys, evl])
theorem seinekeep_TextsStay_run {c : List Str} {cb : List Str} {l0 : List Str} {r : Bool} (h : seinekeep_TextsStay_B c cb l0 = some r) : seinekeep_TextsStay c cb l0 = some r := by
  obtain ⟨v, hv, rfl⟩ := seinekeep_TextsStay_imp c cb l0 r h
  exact tO_of (pair_inj seinekeep_TextsStayEj) (OL_runD seinekeep_TextsStay_ds rfl rfl Try.func17 ((seinekeep_TextsStay_t1 _ _ c cb l0).trans hv))

def seinelaw2_blank_l1 (O : Orc) (LP : LBody → LBody) : LBody := fun s1 s1u => cnd (chkL [.str, .bool, (.int .i64)] s1) (cnd (chkU [] s1u)
  (cnd (decide ((intV (gt s1 2)) < (List.length (strV (gt s1 0)) : Int)))
   (bnd (ixStr (.str (strV (gt s1 0))) (.int .i64 (intV (gt s1 2)))) fun x7 => cnd (chk (.int .u8) x7)
   (cnd ((intV x7) != 9)
    (bnd (ixStr (.str (strV (gt s1 0))) (.int .i64 (intV (gt s1 2)))) fun x9 => cnd (chk (.int .u8) x9)
    (cnd ((intV x9) != 32)
     (some (.ret, [(.str (strV (gt s1 0))), (.bool false), (.int .i64 (intV (gt s1 2)))], []))
     (some (.nrm, [(.str (strV (gt s1 0))), (.bool (boolV (gt s1 1))), (.int .i64 (IntKind.wrap .i64 ((intV (gt s1 2)) + 1)))], []))) none)
    (some (.nrm, [(.str (strV (gt s1 0))), (.bool (boolV (gt s1 1))), (.int .i64 (IntKind.wrap .i64 ((intV (gt s1 2)) + 1)))], []))) none)
   (some (.brk 0, [(.str (strV (gt s1 0))), (.bool (boolV (gt s1 1))), (.int .i64 (intV (gt s1 2)))], []))) none) none
def seinelaw2_blank_T1 (O : Orc) (LP : LBody → LBody) (s : Str) : Option (PV × UP) :=
  bnd (LP (seinelaw2_blank_l1 O LP) [(.str s), (.bool false), (.int .i64 0)] []) fun y13 =>
  exIs y13.1 (some 0) (cnd (chkL [.str, .bool, (.int .i64)] y13.2.1) (cnd (chkU [] y13.2.2)
   (some ((.bool true), [])) none) none)
  (exIs y13.1 none (cnd (chkL [.str, .bool, (.int .i64)] y13.2.1) (cnd (chkU [] y13.2.2)
   (some ((.bool (boolV (gt y13.2.1 1))), [])) none) none)
  (none))
noncomputable def seinelaw2_blank_l1T (s : Str) : Int → Option (Int ⊕ (Unit ⊕ Unit))
  | i_6 =>
  cnd (decide (i_6 < (List.length s : Int)))
   (bnd (nthI s i_6) fun y8 =>
   cnd ((y8.toNat : Int) != 9)
    (bnd (nthI s i_6) fun y10 =>
    cnd ((y10.toNat : Int) != 32)
     (some (.inr (.inr ())))
     (some (.inl (IntKind.wrap .i64 (i_6 + 1)))))
    (some (.inl (IntKind.wrap .i64 (i_6 + 1)))))
   (some (.inr (.inl ())))
abbrev seinelaw2_blank_l1R (s : Str) (st : Int) (l : List PV) (u : UP) : Prop := l = [(.str s), (.bool false), (.int .i64 st)] ∧ u = []
abbrev seinelaw2_blank_l1X (s : Str) (p : Unit ⊕ Unit) (r : Ex × List PV × UP) : Prop := elim p (fun (p : Unit) => ∃ (i_11 : Int), r = (Ex.brk 0, [(.str s), (.bool false), (.int .i64 i_11)], [])) (fun q2 => (fun (p : Unit) => ∃ (i_12 : Int), r = (Ex.ret, [(.str s), (.bool false), (.int .i64 i_12)], [])) q2)
noncomputable def seinelaw2_blank_B (s : Str) : Option Bool :=
  bnd (tloop (seinelaw2_blank_l1T s) 0) fun e13_2 => elim e13_2
  (fun p13 =>
   some true)
  (fun p13 =>
  some false)
def seinelaw2_blank_ds : Decs := { decs := [(12, (.int .u8)), (17, (.int .u8))], ups := [], loops := [(2, [], ⟨[.str, .bool, (.int .i64)], [], [(some 0, [.str, .bool, (.int .i64)], []), (none, [.str, .bool, (.int .i64)], [])]⟩)] }
set_option maxRecDepth 100000 in
theorem seinelaw2_blank_t1 (O : Orc) (LP : LBody → LBody) (s : Str) : evalBodyD Try.prog (MT 18) seinelaw2_blank_ds Try.f18.ntmps O LP Try.f18 [(.str s)] [] = seinelaw2_blank_T1 O LP s := by kernel_rfl
theorem seinelaw2_blank_l1_ok (s : Str) : ∀ st l u, seinelaw2_blank_l1R s st l u → Imp (seinelaw2_blank_l1T s st) (seinelaw2_blank_l1 O loopLim l u) (StepR (seinelaw2_blank_l1R s) (seinelaw2_blank_l1X s)) := by
  rintro i_6 l u ⟨rfl, rfl⟩
  simp only [seinelaw2_blank_l1T, seinelaw2_blank_l1]
  refine Imp.chk rfl (Imp.chk rfl ?_)
  try simp only [evs, tys]
  refine Imp.cnd ?_ ?_
  · refine Imp.op (f := fun a => .int .u8 (a.toNat : Int)) (fun a h => op_ixStr h) (fun a => rfl) fun y8 hy8 => ?_
    try simp only [evs, tys]
    refine Imp.cnd ?_ ?_
    · refine Imp.op (f := fun a => .int .u8 (a.toNat : Int)) (fun a h => op_ixStr h) (fun a => rfl) fun y10 hy10 => ?_
      try simp only [evs, tys]
      refine Imp.cnd ?_ ?_
      · exact Imp.some (StepR.ret ⟨i_6, by first | rfl | simp only [evs, tys, evl, elim_inl, elim_inr]⟩)
      · exact Imp.some (StepR.next ⟨by first | rfl | simp only [evs, tys, evl], rfl⟩)
    · exact Imp.some (StepR.next ⟨by first | rfl | simp only [evs, tys, evl], rfl⟩)
  · exact Imp.some (StepR.brk ⟨i_6, by first | rfl | simp only [evs, tys, evl, elim_inl, elim_inr]⟩)
theorem seinelaw2_blank_imp (s : Str) : Imp (seinelaw2_blank_B s) (seinelaw2_blank_T1 O loopLim s) (fun r v => v = (seinelaw2_blankE r, [])) := by
  simp only [seinelaw2_blank_B, seinelaw2_blank_T1]
  try simp only [evs, tys]
  refine Imp.bnd (Imp.loop (seinelaw2_blank_l1_ok s) ⟨by first | rfl | simp only [evs, tys, evl], rfl⟩) ?_
  rintro (p | p) vy13 hy13
  · try simp only [elim_inl, elim_inr]
    obtain ⟨i_11, rfl⟩ := hy13
    refine Imp.exHit rfl (Imp.chk rfl (Imp.chk rfl ?_))
    try simp only [evs, tys]
    exact Imp.some (by first | rfl | simp only [seinelaw2_blankE, evs, tys, evl])
  · try simp only [elim_inl, elim_inr]
    obtain ⟨i_12, rfl⟩ := hy13
    refine Imp.exMiss rfl ?_
    refine Imp.exHit rfl (Imp.chk rfl (Imp.chk rfl ?_))
    try simp only [evs, tys]
    exact Imp.some (by first | rfl | simp only [seinelaw2_blankE, evs, tys, evl])
theorem seinelaw2_blank_run {s : Str} {r : Bool} (h : seinelaw2_blank_B s = some r) : seinelaw2_blank s = some r := by
  obtain ⟨v, hv, rfl⟩ := seinelaw2_blank_imp s r h
  exact tO_of (pair_inj seinelaw2_blankEj) (OL_runD seinelaw2_blank_ds rfl rfl Try.func18 ((seinelaw2_blank_t1 _ _ s).trans hv))

def block_blanks_l1 (O : Orc) (LP : LBody → LBody) : LBody := fun s1 s1u => cnd (chkL [.str, (.int .i64), .bool, (.int .i64), (.int .i64)] s1) (cnd (chkU [] s1u)
  (cnd (decide ((intV (gt s1 4)) < (intV (gt s1 3))))
   (bnd (ixStr (.str (strV (gt s1 0))) (.int .i64 (intV (gt s1 4)))) fun x7 => cnd (chk (.int .u8) x7)
   (cnd ((intV x7) != 9)
    (bnd (ixStr (.str (strV (gt s1 0))) (.int .i64 (intV (gt s1 4)))) fun x9 => cnd (chk (.int .u8) x9)
    (cnd ((intV x9) != 32)
     (some (.ret, [(.str (strV (gt s1 0))), (.int .i64 (intV (gt s1 4))), (.bool true), (.int .i64 (intV (gt s1 3))), (.int .i64 (intV (gt s1 4)))], []))
     (some (.nrm, [(.str (strV (gt s1 0))), (.int .i64 (intV (gt s1 1))), (.bool (boolV (gt s1 2))), (.int .i64 (intV (gt s1 3))), (.int .i64 (IntKind.wrap .i64 ((intV (gt s1 4)) + 1)))], []))) none)
    (some (.nrm, [(.str (strV (gt s1 0))), (.int .i64 (intV (gt s1 1))), (.bool (boolV (gt s1 2))), (.int .i64 (intV (gt s1 3))), (.int .i64 (IntKind.wrap .i64 ((intV (gt s1 4)) + 1)))], []))) none)
   (some (.brk 0, [(.str (strV (gt s1 0))), (.int .i64 (intV (gt s1 1))), (.bool (boolV (gt s1 2))), (.int .i64 (intV (gt s1 3))), (.int .i64 (intV (gt s1 4)))], []))) none) none
def block_blanks_T1 (O : Orc) (LP : LBody → LBody) (s : Str) : Option (PV × UP) :=
  bnd (LP (block_blanks_l1 O LP) [(.str s), (.int .i64 0), (.bool false), (.int .i64 (List.length s : Int)), (.int .i64 0)] []) fun y14 =>
  exIs y14.1 (some 0) (cnd (chkL [.str, (.int .i64), .bool, (.int .i64), (.int .i64)] y14.2.1) (cnd (chkU [] y14.2.2)
   (some ((.tuple [(.int .i64 (List.length (strV (gt y14.2.1 0)) : Int)), (.bool false)]), [])) none) none)
  (exIs y14.1 none (cnd (chkL [.str, (.int .i64), .bool, (.int .i64), (.int .i64)] y14.2.1) (cnd (chkU [] y14.2.2)
   (some ((.tuple [(.int .i64 (intV (gt y14.2.1 1))), (.bool (boolV (gt y14.2.1 2)))]), [])) none) none)
  (none))
noncomputable def block_blanks_l1T (s : Str) : Int → Option (Int ⊕ (Unit ⊕ Int))
  | t_6 =>
  cnd (decide (t_6 < (List.length s : Int)))
   (bnd (nthI s t_6) fun y8 =>
   cnd ((y8.toNat : Int) != 9)
    (bnd (nthI s t_6) fun y10 =>
    cnd ((y10.toNat : Int) != 32)
     (some (.inr (.inr t_6)))
     (some (.inl (IntKind.wrap .i64 (t_6 + 1)))))
    (some (.inl (IntKind.wrap .i64 (t_6 + 1)))))
   (some (.inr (.inl ())))
abbrev block_blanks_l1R (s : Str) (st : Int) (l : List PV) (u : UP) : Prop := l = [(.str s), (.int .i64 0), (.bool false), (.int .i64 (List.length s : Int)), (.int .i64 st)] ∧ u = []
abbrev block_blanks_l1X (s : Str) (p : Unit ⊕ Int) (r : Ex × List PV × UP) : Prop := elim p (fun (p : Unit) => ∃ (t_11 : Int), r = (Ex.brk 0, [(.str s), (.int .i64 0), (.bool false), (.int .i64 (List.length s : Int)), (.int .i64 t_11)], [])) (fun q2 => (fun (p : Int) => ∃ (t_13 : Int), r = (Ex.ret, [(.str s), (.int .i64 p), (.bool true), (.int .i64 (List.length s : Int)), (.int .i64 t_13)], [])) q2)
noncomputable def block_blanks_B (s : Str) : Option (Int × Bool) :=
  bnd (tloop (block_blanks_l1T s) 0) fun e14_2 => elim e14_2
  (fun p14 =>
   some ((List.length s : Int), false))
  (fun t_12 =>
  some (t_12, true))
def block_blanks_ds : Decs := { decs := [(12, (.int .u8)), (17, (.int .u8))], ups := [], loops := [(2, [], ⟨[.str, (.int .i64), .bool, (.int .i64), (.int .i64)], [], [(some 0, [.str, (.int .i64), .bool, (.int .i64), (.int .i64)], []), (none, [.str, (.int .i64), .bool, (.int .i64), (.int .i64)], [])]⟩)] }
set_option maxRecDepth 100000 in
theorem block_blanks_t1 (O : Orc) (LP : LBody → LBody) (s : Str) : evalBodyD Try.prog (MT 19) block_blanks_ds Try.f19.ntmps O LP Try.f19 [(.str s)] [] = block_blanks_T1 O LP s := by kernel_rfl
theorem block_blanks_l1_ok (s : Str) : ∀ st l u, block_blanks_l1R s st l u → Imp (block_blanks_l1T s st) (block_blanks_l1 O loopLim l u) (StepR (block_blanks_l1R s) (block_blanks_l1X s)) := by
  rintro t_6 l u ⟨rfl, rfl⟩
  simp only [block_blanks_l1T, block_blanks_l1]
  refine Imp.chk rfl (Imp.chk rfl ?_)
  try simp only [evs, tys]
  refine Imp.cnd ?_ ?_
  · refine Imp.op (f := fun a => .int .u8 (a.toNat : Int)) (fun a h => op_ixStr h) (fun a => rfl) fun y8 hy8 => ?_
    try simp only [evs, tys]
    refine Imp.cnd ?_ ?_
    · refine Imp.op (f := fun a => .int .u8 (a.toNat : Int)) (fun a h => op_ixStr h) (fun a => rfl) fun y10 hy10 => ?_
      try simp only [evs, tys]
      refine Imp.cnd ?_ ?_
      · exact Imp.some (StepR.ret ⟨t_6, by first | rfl | simp only [evs, tys, evl, elim_inl, elim_inr]⟩)
      · exact Imp.some (StepR.next ⟨by first | rfl | simp only [evs, tys, evl], rfl⟩)
    · exact Imp.some (StepR.next ⟨by first | rfl | simp only [evs, tys, evl], rfl⟩)
  · exact Imp.some (StepR.brk ⟨t_6, by first | rfl | simp only [evs, tys, evl, elim_inl, elim_inr]⟩)
theorem block_blanks_imp (s : Str) : Imp (block_blanks_B s) (block_blanks_T1 O loopLim s) (fun r v => v = (block_blanksE r, [])) := by
  simp only [block_blanks_B, block_blanks_T1]
  try simp only [evs, tys]
  refine Imp.bnd (Imp.loop (block_blanks_l1_ok s) ⟨by first | rfl | simp only [evs, tys, evl], rfl⟩) ?_
  rintro (p | t_12) vy14 hy14
  · try simp only [elim_inl, elim_inr]
    obtain ⟨t_11, rfl⟩ := hy14
    refine Imp.exHit rfl (Imp.chk rfl (Imp.chk rfl ?_))
    try simp only [evs, tys]
    exact Imp.some (by first | rfl | simp only [block_blanksE, evs, tys, evl])
  · try simp only [elim_inl, elim_inr]
    obtain ⟨t_13, rfl⟩ := hy14
    refine Imp.exMiss rfl ?_
    refine Imp.exHit rfl (Imp.chk rfl (Imp.chk rfl ?_))
    try simp only [evs, tys]
    exact Imp.some (by first | rfl | simp only [block_blanksE, evs, tys, evl])
theorem block_blanks_run {s : Str} {r : Int × Bool} (h : block_blanks_B s = some r) : block_blanks s = some r := by
  obtain ⟨v, hv, rfl⟩ := block_blanks_imp s r h
  exact tO_of (pair_inj block_blanksEj) (OL_runD block_blanks_ds rfl rfl Try.func19 ((block_blanks_t1 _ _ s).trans hv))
end Go.Proofs.Ytlaomadhhdcflaa

/- Printed by symgen.py: typed functions of this seat, and why they tell what the program does. -/
set_option linter.unusedVariables false
set_option linter.unusedSimpArgs false
open Go Go.Ev Go.Ev.PV
namespace Go.Proofs.Ytlaomadhhdcflaa
def seineref1_lead_l1 (O : Orc) (LP : LBody → LBody) : LBody := fun s1 s1u => cnd (chkL [.str, (.int .i64), .bool, (.int .i64)] s1) (cnd (chkU [] s1u)
  (cnd (decide ((intV (gt s1 3)) < (List.length (strV (gt s1 0)) : Int)))
   (bnd (ixStr (.str (strV (gt s1 0))) (.int .i64 (intV (gt s1 3)))) fun x7 => cnd (chk (.int .u8) x7)
   (cnd ((intV x7) != 9)
    (bnd (ixStr (.str (strV (gt s1 0))) (.int .i64 (intV (gt s1 3)))) fun x9 => cnd (chk (.int .u8) x9)
    (cnd ((intV x9) != 32)
     (some (.ret, [(.str (strV (gt s1 0))), (.int .i64 (intV (gt s1 3))), (.bool true), (.int .i64 (intV (gt s1 3)))], []))
     (some (.nrm, [(.str (strV (gt s1 0))), (.int .i64 (intV (gt s1 1))), (.bool (boolV (gt s1 2))), (.int .i64 (IntKind.wrap .i64 ((intV (gt s1 3)) + 1)))], []))) none)
    (some (.nrm, [(.str (strV (gt s1 0))), (.int .i64 (intV (gt s1 1))), (.bool (boolV (gt s1 2))), (.int .i64 (IntKind.wrap .i64 ((intV (gt s1 3)) + 1)))], []))) none)
   (some (.brk 0, [(.str (strV (gt s1 0))), (.int .i64 (intV (gt s1 1))), (.bool (boolV (gt s1 2))), (.int .i64 (intV (gt s1 3)))], []))) none) none
def seineref1_lead_T1 (O : Orc) (LP : LBody → LBody) (s : Str) : Option (PV × UP) :=
  bnd (LP (seineref1_lead_l1 O LP) [(.str s), (.int .i64 0), (.bool false), (.int .i64 0)] []) fun y14 =>
  exIs y14.1 (some 0) (cnd (chkL [.str, (.int .i64), .bool, (.int .i64)] y14.2.1) (cnd (chkU [] y14.2.2)
   (some ((.tuple [(.int .i64 (List.length (strV (gt y14.2.1 0)) : Int)), (.bool false)]), [])) none) none)
  (exIs y14.1 none (cnd (chkL [.str, (.int .i64), .bool, (.int .i64)] y14.2.1) (cnd (chkU [] y14.2.2)
   (some ((.tuple [(.int .i64 (intV (gt y14.2.1 1))), (.bool (boolV (gt y14.2.1 2)))]), [])) none) none)
  (none))
noncomputable def seineref1_lead_l1T (s : Str) : Int → Option (Int ⊕ (Unit ⊕ Int))
  | i_6 =>
  cnd (decide (i_6 < (List.length s : Int)))
   (bnd (nthI s i_6) fun y8 =>
   cnd ((y8.toNat : Int) != 9)
    (bnd (nthI s i_6) fun y10 =>
    cnd ((y10.toNat : Int) != 32)
     (some (.inr (.inr i_6)))
     (some (.inl (IntKind.wrap .i64 (i_6 + 1)))))
    (some (.inl (IntKind.wrap .i64 (i_6 + 1)))))
   (some (.inr (.inl ())))
abbrev seineref1_lead_l1R (s : Str) (st : Int) (l : List PV) (u : UP) : Prop := l = [(.str s), (.int .i64 0), (.bool false), (.int .i64 st)] ∧ u = []
abbrev seineref1_lead_l1X (s : Str) (p : Unit ⊕ Int) (r : Ex × List PV × UP) : Prop := elim p (fun (p : Unit) => ∃ (i_11 : Int), r = (Ex.brk 0, [(.str s), (.int .i64 0), (.bool false), (.int .i64 i_11)], [])) (fun q2 => (fun (p : Int) => ∃ (i_13 : Int), r = (Ex.ret, [(.str s), (.int .i64 p), (.bool true), (.int .i64 i_13)], [])) q2)
noncomputable def seineref1_lead_B (s : Str) : Option (Int × Bool) :=
  bnd (tloop (seineref1_lead_l1T s) 0) fun e14_2 => elim e14_2
  (fun p14 =>
   some ((List.length s : Int), false))
  (fun t_12 =>
  some (t_12, true))
def seineref1_lead_ds : Decs := { decs := [(13, (.int .u8)), (18, (.int .u8))], ups := [], loops := [(2, [], ⟨[.str, (.int .i64), .bool, (.int .i64)], [], [(some 0, [.str, (.int .i64), .bool, (.int .i64)], []), (none, [.str, (.int .i64), .bool, (.int .i64)], [])]⟩)] }
set_option maxRecDepth 100000 in
theorem seineref1_lead_t1 (O : Orc) (LP : LBody → LBody) (s : Str) : evalBodyD Try.prog (MT 20) seineref1_lead_ds Try.f20.ntmps O LP Try.f20 [(.str s)] [] = seineref1_lead_T1 O LP s := by kernel_rfl
theorem seineref1_lead_l1_ok (s : Str) : ∀ st l u, seineref1_lead_l1R s st l u → Imp (seineref1_lead_l1T s st) (seineref1_lead_l1 O loopLim l u) (StepR (seineref1_lead_l1R s) (seineref1_lead_l1X s)) := by
  rintro i_6 l u ⟨rfl, rfl⟩
  simp only [seineref1_lead_l1T, seineref1_lead_l1]
  refine Imp.chk rfl (Imp.chk rfl ?_)
  try simp only [evs, tys]
  refine Imp.cnd ?_ ?_
  · refine Imp.op (f := fun a => .int .u8 (a.toNat : Int)) (fun a h => op_ixStr h) (fun a => rfl) fun y8 hy8 => ?_
    try simp only [evs, tys]
    refine Imp.cnd ?_ ?_
    · refine Imp.op (f := fun a => .int .u8 (a.toNat : Int)) (fun a h => op_ixStr h) (fun a => rfl) fun y10 hy10 => ?_
      try simp only [evs, tys]
      refine Imp.cnd ?_ ?_
      · exact Imp.some (StepR.ret ⟨i_6, by first | rfl | simp only [evs, tys, evl, elim_inl, elim_inr]⟩)
      · exact Imp.some (StepR.next ⟨by first | rfl | simp only [evs, tys, evl], rfl⟩)
    · exact Imp.some (StepR.next ⟨by first | rfl | simp only [evs, tys, evl], rfl⟩)
  · exact Imp.some (StepR.brk ⟨i_6, by first | rfl | simp only [evs, tys, evl, elim_inl, elim_inr]⟩)
theorem seineref1_lead_imp (s : Str) : Imp (seineref1_lead_B s) (seineref1_lead_T1 O loopLim s) (fun r v => v = (seineref1_leadE r, [])) := by
  simp only [seineref1_lead_B, seineref1_lead_T1]
  try simp only [evs, tys]
  refine Imp.bnd (Imp.loop (seineref1_lead_l1_ok s) ⟨by first | rfl | simp only [evs, tys, evl], rfl⟩) ?_
  rintro (p | t_12) vy14 hy14
  · try simp only [elim_inl, elim_inr]
    obtain ⟨i_11, rfl⟩ := hy14
    refine Imp.exHit rfl (Imp.chk rfl (Imp.chk rfl ?_))
    try simp only [evs, tys]
    exact Imp.some (by first | rfl | simp only [seineref1_leadE, evs, tys, evl])
  · try simp only [elim_inl, elim_inr]
    obtain ⟨i_13, rfl⟩ := hy14
    refine Imp.exMiss rfl ?_
    refine Imp.exHit rfl (Imp.chk rfl (Imp.chk rfl ?_))
    try simp only [evs, tys]
    exact Imp.some (by first | rfl | simp only [seineref1_leadE, evs, tys, evl])
theorem seineref1_lead_run {s : Str} {r : Int × Bool} (h : seineref1_lead_B s = some r) : seineref1_lead s = some r := by
  obtain ⟨v, hv, rfl⟩ := seineref1_lead_imp s r h
  exact tO_of (pair_inj seineref1_leadEj) (OL_runD seineref1_lead_ds rfl rfl Try.func20 ((seineref1_lead_t1 _ _ s).trans hv))

def block_bare_T1 (O : Orc) (LP : LBody → LBody) (s : Str) : Option (PV × UP) :=
  callp O 19 [(.str s)] fun x1 => cnd (chk (.tup [(.int .i64), .bool]) x1)
  (some ((.bool (!(boolV (gt (tupV x1) 1)))), [])) none
noncomputable def block_bare_B (s : Str) : Option Bool :=
  bnd (block_blanks s) fun y2 =>
  some (!y2.2)
def block_bare_ds : Decs := { decs := [(7, (.tup [(.int .i64), .bool]))], ups := [], loops := [] }
set_option maxRecDepth 100000 in
theorem block_bare_t1 (O : Orc) (LP : LBody → LBody) (s : Str) : evalBodyD Try.prog (MT 21) block_bare_ds Try.f21.ntmps O LP Try.f21 [(.str s)] [] = block_bare_T1 O LP s := by kernel_rfl
theorem block_bare_imp (s : Str) : Imp (block_bare_B s) (block_bare_T1 O loopLim s) (fun r v => v = (block_bareE r, [])) := by
  simp only [block_bare_B, block_bare_T1]
  try simp only [evs, tys]
  refine Imp.call (f := block_blanksE) rfl (fun a h => by first | exact block_blanks_spec h | simpa only [evs, tys, evl] using block_blanks_spec h) (fun a => by first | rfl | simp only [block_blanksE, evk, chks]) fun y2 hy2 => ?_
  try simp only [block_blanksE, evs, tys]
  exact Imp.some (by first | rfl | simp only [block_bareE, evs, tys, evl])
theorem block_bare_run {s : Str} {r : Bool} (h : block_bare_B s = some r) : block_bare s = some r := by
  obtain ⟨v, hv, rfl⟩ := block_bare_imp s r h
  exact tO_of (pair_inj block_bareEj) (OL_runD block_bare_ds rfl rfl Try.func21 ((block_bare_t1 _ _ s).trans hv))

def seineref1_blank_T1 (O : Orc) (LP : LBody → LBody) (s : Str) : Option (PV × UP) :=
  callp O 20 [(.str s)] fun x1 => cnd (chk (.tup [(.int .i64), .bool]) x1)
  (some ((.bool (!(boolV (gt (tupV x1) 1)))), [])) none
noncomputable def seineref1_blank_B (s : Str) : Option Bool :=
  bnd (seineref1_lead s) fun y2 =>
  some (!y2.2)
def seineref1_blank_ds : Decs := { decs := [(7, (.tup [(.int .i64), .bool]))], ups := [], loops := [] }
set_option maxRecDepth 100000 in
theorem seineref1_blank_t1 (O : Orc) (LP : LBody → LBody) (s : Str) : evalBodyD Try.prog (MT 23) seineref1_blank_ds Try.f23.ntmps O LP Try.f23 [(.str s)] [] = seineref1_blank_T1 O LP s := by kernel_rfl
theorem seineref1_blank_imp (s : Str) : Imp (seineref1_blank_B s) (seineref1_blank_T1 O loopLim s) (fun r v => v = (seineref1_blankE r, [])) := by
  simp only [seineref1_blank_B, seineref1_blank_T1]
  try simp only [evs, tys]
  refine Imp.call (f := seineref1_leadE) rfl (fun a h => by first | exact seineref1_lead_spec h | simpa only [evs, tys, evl] using seineref1_lead_spec h) (fun a => by first | rfl | simp only [seineref1_leadE, evk, chks]) fun y2 hy2 => ?_
  try simp only [seineref1_leadE, evs, tys]
  exact Imp.some (by first | rfl | simp only [seineref1_blankE, evs, tys, evl])
theorem seineref1_blank_run {s : Str} {r : Bool} (h : seineref1_blank_B s = some r) : seineref1_blank s = some r := by
  obtain ⟨v, hv, rfl⟩ := seineref1_blank_imp s r h
  exact tO_of (pair_inj seineref1_blankEj) (OL_runD seineref1_blank_ds rfl rfl Try.func23 ((seineref1_blank_t1 _ _ s).trans hv))

theorem strings_Join_run {elems : List Str} {sep : Str} {r : Str} (h : tJoin elems sep = some r) : strings_Join elems sep = some r := tO_of (pair_inj strings_JoinEj) (OL_ext (g := xJoin) rfl (xJoin_of h))
end Go.Proofs.Ytlaomadhhdcflaa

/-
  What is answered from outside: contracts of the library's functions, laid at this program by the kit's tools.
-/
set_option linter.unusedVariables false
set_option linter.unusedSimpArgs false
open Go Go.Ev Go.Ev.PV
open Go.Shelf Go.RowKit
namespace Go.Proofs.Ytlaomadhhdcflaa
def GM : Mem := fun _ _ => none

def Try.lays156_ren : Go.Shelf.Ren := ⟨fun | 156 => 22 | 165 => 24 | 166 => 25 | 169 => 26 | 240 => 27 | 241 => 28 | 276 => 29 | 277 => 30 | n => n, fun | 31 => 23 | 9 => 9 | 3 => 3 | 4 => 4 | 0 => 0 | 20 => 20 | 72 => 39 | 76 => 43 | 70 => 36 | 37 => 37 | 75 => 42 | 127 => 46 | 164 => 47 | 5 => 5 | 80 => 45 | n => n, fun | n => n⟩

theorem Try.lays156 : Go.Proofs.Lays.n156 Try.prog Try.lays156_ren := {
  mixed := by kernel_rfl
  f156 := Try.func22.trans (congrArg some (by kernel_rfl))
  f165 := Try.func24.trans (congrArg some (by kernel_rfl))
  f166 := Try.func25.trans (congrArg some (by kernel_rfl))
  f169 := Try.func26.trans (congrArg some (by kernel_rfl))
  f240 := Try.func27.trans (congrArg some (by kernel_rfl))
  f241 := Try.func28.trans (congrArg some (by kernel_rfl))
  f276 := Try.func29.trans (congrArg some (by kernel_rfl))
  f277 := Try.func30.trans (congrArg some (by kernel_rfl))
  t0 := Try.underlying0
  a0 := Try.isAgg0
  z0 := Try.sizeOf0
  v0 := Try.zeroValue0
  t3 := Try.underlying3
  a3 := Try.isAgg3
  z3 := Try.sizeOf3
  v3 := Try.zeroValue3
  t4 := Try.underlying4
  a4 := Try.isAgg4
  z4 := Try.sizeOf4
  v4 := Try.zeroValue4
  t9 := Try.underlying9
  a9 := Try.isAgg9
  z9 := Try.sizeOf9
  v9 := Try.zeroValue9
  t20 := Try.underlying20
  a20 := Try.isAgg20
  z20 := Try.sizeOf20
  v20 := Try.zeroValue20
  t31 := Try.underlying23
  a31 := Try.isAgg23
  z31 := Try.sizeOf23
  v31 := Try.zeroValue23
  t37 := Try.underlying37
  a37 := Try.isAgg37
  z37 := Try.sizeOf37
  v37 := Try.zeroValue37
  t70 := Try.underlying36
  a70 := Try.isAgg36
  z70 := Try.sizeOf36
  v70 := Try.zeroValue36
  t72 := Try.underlying39
  a72 := Try.isAgg39
  z72 := Try.sizeOf39
  v72 := Try.zeroValue39
  t75 := Try.underlying42
  a75 := Try.isAgg42
  z75 := Try.sizeOf42
  v75 := Try.zeroValue42
  t76 := Try.underlying43
  a76 := Try.isAgg43
  z76 := Try.sizeOf43
  v76 := Try.zeroValue43
  t127 := Try.underlying46
  a127 := Try.isAgg46
  z127 := Try.sizeOf46
  v127 := Try.zeroValue46
  t164 := Try.underlying47
  a164 := Try.isAgg47
  z164 := Try.sizeOf47
  v164 := Try.zeroValue47 }

theorem Try.Builder_Extra_156 : Builder.Extra Try.prog Try.lays156_ren := {
  sizeBuilder := by kernel_rfl
  liesBuilder := by kernel_rfl
  t5 := Try.underlying5
  a5 := Try.isAgg5
  z5 := Try.sizeOf5
  v5 := Try.zeroValue5
  infoByte := by kernel_rfl
  cellsByte := by kernel_rfl
  sizeByte := by kernel_rfl
  neB5 := by decide }

theorem Try.strings_Join_none (a : Option Addr) (c : Nat) (sep : ByteArray) (w : World) :
    Calls Try.prog 22 #[.slice a 0 c, .string sep] w fun e w' => e = .returned (.string ⟨#[]⟩) ∧ w' = w := Any.strings_Join_none Try.lays156 Try.Builder_Extra_156 a c sep w

theorem Try.strings_Join (bk o c : Nat) (xs : List ByteArray) (sep : ByteArray) (w : World) (hcells : ∀ (j : Nat) x, xs[j]? = some x → w.cell? ⟨bk, o + j, none⟩ = some (.string x)) (hbk : bk < w.heap.size) (hN : xs.length ≤ 140737488355328) (hcap : xs.length ≤ c) (hlen : (Lib.join (xs.map (·.data.toList)) sep.data.toList).length ≤ 140737488355328) :
    Calls Try.prog 22 #[.slice (some ⟨bk, o, none⟩) xs.length c, .string sep] w fun e w' => e = .returned (.string ⟨(Lib.join (xs.map (·.data.toList)) sep.data.toList).toArray⟩) ∧ Below w.heap.size w w' := Any.strings_Join Try.lays156 Try.Builder_Extra_156 bk o c xs sep w hcells hbk hN hcap hlen

theorem xok_join : ∀ args up r up', xJoin args up = some (r, up') → ∀ (n : Nat) w M B vals, CallPre ⟨n, GM⟩ M B args up vals w → Invokes Try.prog 22 vals w (CallPost ⟨n, GM⟩ M B args up vals w r up') :=
  xJoin_ok (fun _ _ => enters_of Try.func22 (by kernel_rfl) rfl _ _) (fun a c sep w => Try.strings_Join_none a c sep w) fun bk o c xs sep w h1 h2 h3 h4 h5 => Try.strings_Join bk o c xs sep w h1 h2 h3 h4 h5
theorem xok : ExtOk Try.prog GM XT := by
  intro f g h
  unfold XT at h
  simp only [Go.Ev.look] at h
  split at h
  · rename_i e; subst e; cases h; exact xok_join
  simp at h
end Go.Proofs.Ytlaomadhhdcflaa



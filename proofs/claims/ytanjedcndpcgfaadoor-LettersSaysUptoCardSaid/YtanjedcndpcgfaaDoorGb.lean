import Derived.Test.YtanjedcndpcgfaaDoorGa
import Derived.Lib.TrimUEq
import Derived.Lib.ValidU
import Derived.Shelf.Unicode.DecodeAny
import Derived.Shelf.Unicode.ValidAny
import Derived.WalkKit
import Derived.KernelRfl
set_option linter.unusedVariables false
set_option linter.unusedSimpArgs false
/- Printed by symgen.py: typed functions of this seat, and why they tell what the program does. -/
set_option linter.unusedVariables false
set_option linter.unusedSimpArgs false
open Go Go.Ev Go.Ev.PV
namespace Go.Proofs.YtanjedcndpcgfaaDoor
def seinelaw1_LettersWalks_l1 (O : Orc) (LP : LBody → LBody) : LBody := fun s3 s3u => cnd (chkL [.str, .bool, (.int .i64)] s3) (cnd (chkU [] s3u)
  (cnd (decide ((intV (gt s3 2)) < (List.length (strV (gt s3 0)) : Int)))
   (callp O 15 [(.str (strV (gt s3 0))), (.int .i64 (intV (gt s3 2)))] fun x15 => cnd (chk (.tup [(.int .i64), (.int .i64)]) x15)
   (cnd ((intV (gt (tupV x15) 1)) == 0)
    (some (.brk 0, [(.str (strV (gt s3 0))), (.bool (boolV (gt s3 1))), (.int .i64 (intV (gt s3 2)))], []))
    (cnd (decide ((intV (gt (tupV x15) 1)) < 1))
     (some (.ret, [(.str (strV (gt s3 0))), (.bool false), (.int .i64 (intV (gt s3 2)))], []))
     (cnd (decide ((intV (gt (tupV x15) 1)) > 4))
      (some (.ret, [(.str (strV (gt s3 0))), (.bool false), (.int .i64 (intV (gt s3 2)))], []))
      (cnd (decide ((intV (gt (tupV x15) 1)) > (IntKind.wrap .i64 ((List.length (strV (gt s3 0)) : Int) - (intV (gt s3 2))))))
       (some (.ret, [(.str (strV (gt s3 0))), (.bool false), (.int .i64 (intV (gt s3 2)))], []))
       (cnd (decide ((intV (gt (tupV x15) 0)) < 0))
        (some (.ret, [(.str (strV (gt s3 0))), (.bool false), (.int .i64 (intV (gt s3 2)))], []))
        (cnd (decide ((intV (gt (tupV x15) 0)) > 1114111))
         (some (.ret, [(.str (strV (gt s3 0))), (.bool false), (.int .i64 (intV (gt s3 2)))], []))
         (cnd (decide ((intV (gt (tupV x15) 0)) ≥ 55296))
          (cnd (decide ((intV (gt (tupV x15) 0)) ≤ 57343))
           (some (.ret, [(.str (strV (gt s3 0))), (.bool false), (.int .i64 (intV (gt s3 2)))], []))
           (cnd (!(((intV (gt (tupV x15) 1)) == 1) == (decide ((intV (gt (tupV x15) 0)) < 128))))
            (some (.ret, [(.str (strV (gt s3 0))), (.bool false), (.int .i64 (intV (gt s3 2)))], []))
            (bnd (slcLH 0 (.str (strV (gt s3 0))) (.int .i64 (intV (gt s3 2))) (.int .i64 (IntKind.wrap .i64 ((intV (gt s3 2)) + (intV (gt (tupV x15) 1)))))) fun x17 => cnd (chk .str x17)
            (callp O 16 [(.str (strV x17))] fun x19 => cnd (chk .bool x19)
            (cnd (!(boolV x19))
             (some (.ret, [(.str (strV (gt s3 0))), (.bool false), (.int .i64 (intV (gt s3 2)))], []))
             (some (.nrm, [(.str (strV (gt s3 0))), (.bool (boolV (gt s3 1))), (.int .i64 (IntKind.wrap .i64 ((intV (gt s3 2)) + (intV (gt (tupV x15) 1)))))], []))) none) none)))
          (cnd (!(((intV (gt (tupV x15) 1)) == 1) == (decide ((intV (gt (tupV x15) 0)) < 128))))
           (some (.ret, [(.str (strV (gt s3 0))), (.bool false), (.int .i64 (intV (gt s3 2)))], []))
           (bnd (slcLH 0 (.str (strV (gt s3 0))) (.int .i64 (intV (gt s3 2))) (.int .i64 (IntKind.wrap .i64 ((intV (gt s3 2)) + (intV (gt (tupV x15) 1)))))) fun x21 => cnd (chk .str x21)
           (callp O 16 [(.str (strV x21))] fun x23 => cnd (chk .bool x23)
           (cnd (!(boolV x23))
            (some (.ret, [(.str (strV (gt s3 0))), (.bool false), (.int .i64 (intV (gt s3 2)))], []))
            (some (.nrm, [(.str (strV (gt s3 0))), (.bool (boolV (gt s3 1))), (.int .i64 (IntKind.wrap .i64 ((intV (gt s3 2)) + (intV (gt (tupV x15) 1)))))], []))) none) none))))))))) none)
   (some (.brk 0, [(.str (strV (gt s3 0))), (.bool (boolV (gt s3 1))), (.int .i64 (intV (gt s3 2)))], []))) none) none
def seinelaw1_LettersWalks_T1 (O : Orc) (LP : LBody → LBody) (s : Str) : Option (PV × UP) :=
  cnd (decide ((List.length s : Int) > 3000))
   (callp O 9 [] fun x1 => cnd (chk .bool x1)
   (some ((.bool (boolV x1)), [])) none)
   (bnd (LP (seinelaw1_LettersWalks_l1 O LP) [(.str s), (.bool false), (.int .i64 0)] []) fun y27 =>
   exIs y27.1 (some 0) (cnd (chkL [.str, .bool, (.int .i64)] y27.2.1) (cnd (chkU [] y27.2.2)
    (callp O 16 [(.str (strV (gt y27.2.1 0)))] fun x28 => cnd (chk .bool x28)
    (cnd ((boolV x28) == ((intV (gt y27.2.1 2)) == (List.length (strV (gt y27.2.1 0)) : Int)))
     (callp O 9 [] fun x30 => cnd (chk .bool x30)
     (some ((.bool (boolV x30)), [])) none)
     (some ((.bool false), []))) none) none) none)
   (exIs y27.1 none (cnd (chkL [.str, .bool, (.int .i64)] y27.2.1) (cnd (chkU [] y27.2.2)
    (some ((.bool (boolV (gt y27.2.1 1))), [])) none) none)
   (none)))
noncomputable def seinelaw1_LettersWalks_l1T (s : Str) : Int → Option (Int ⊕ (Int ⊕ Unit))
  | i_14 =>
  cnd (decide (i_14 < (List.length s : Int)))
   (bnd (letters_Code s i_14) fun y16 =>
   cnd (y16.2 == 0)
    (some (.inr (.inl i_14)))
    (cnd (decide (y16.2 < 1))
     (some (.inr (.inr ())))
     (cnd (decide (y16.2 > 4))
      (some (.inr (.inr ())))
      (cnd (decide (y16.2 > (IntKind.wrap .i64 ((List.length s : Int) - i_14))))
       (some (.inr (.inr ())))
       (cnd (decide (y16.1 < 0))
        (some (.inr (.inr ())))
        (cnd (decide (y16.1 > 1114111))
         (some (.inr (.inr ())))
         (cnd (decide (y16.1 ≥ 55296))
          (cnd (decide (y16.1 ≤ 57343))
           (some (.inr (.inr ())))
           (cnd (!((y16.2 == 1) == (decide (y16.1 < 128))))
            (some (.inr (.inr ())))
            (bnd (tslc s i_14 (IntKind.wrap .i64 (i_14 + y16.2))) fun y18 =>
            bnd (letters_Good y18) fun y20 =>
            cnd (!y20)
             (some (.inr (.inr ())))
             (some (.inl (IntKind.wrap .i64 (i_14 + y16.2)))))))
          (cnd (!((y16.2 == 1) == (decide (y16.1 < 128))))
           (some (.inr (.inr ())))
           (bnd (tslc s i_14 (IntKind.wrap .i64 (i_14 + y16.2))) fun y22 =>
           bnd (letters_Good y22) fun y24 =>
           cnd (!y24)
            (some (.inr (.inr ())))
            (some (.inl (IntKind.wrap .i64 (i_14 + y16.2)))))))))))))
   (some (.inr (.inl i_14)))
abbrev seinelaw1_LettersWalks_l1R (s : Str) (st : Int) (l : List PV) (u : UP) : Prop := l = [(.str s), (.bool false), (.int .i64 st)] ∧ u = []
abbrev seinelaw1_LettersWalks_l1X (s : Str) (p : Int ⊕ Unit) (r : Ex × List PV × UP) : Prop := elim p (fun (p : Int) => r = (Ex.brk 0, [(.str s), (.bool false), (.int .i64 p)], [])) (fun q2 => (fun (p : Unit) => ∃ (i_26 : Int), r = (Ex.ret, [(.str s), (.bool false), (.int .i64 i_26)], [])) q2)
noncomputable def seinelaw1_LettersWalks_B (s : Str) : Option Bool :=
  cnd (decide ((List.length s : Int) > 3000))
   (bnd (seinelaw1_awake) fun y2 =>
   some y2)
   (bnd (tloop (seinelaw1_LettersWalks_l1T s) 0) fun e27_2 => elim e27_2
   (fun i_25 =>
    bnd (letters_Good s) fun y29 =>
    cnd (y29 == (i_25 == (List.length s : Int)))
     (bnd (seinelaw1_awake) fun y31 =>
     some y31)
     (some false))
   (fun p27 =>
   some false))
def seinelaw1_LettersWalks_ds : Decs := { decs := [(9, .bool), (17, (.tup [(.int .i64), (.int .i64)])), (65, .str), (66, .bool), (73, .bool), (80, .bool)], ups := [], loops := [(4, [], ⟨[.str, .bool, (.int .i64)], [], [(some 0, [.str, .bool, (.int .i64)], []), (none, [.str, .bool, (.int .i64)], [])]⟩)] }
set_option maxRecDepth 100000 in
theorem seinelaw1_LettersWalks_t1 (O : Orc) (LP : LBody → LBody) (s : Str) : evalBodyD Tryd.prog (MT 5) seinelaw1_LettersWalks_ds Tryd.f5.ntmps O LP Tryd.f5 [(.str s)] [] = seinelaw1_LettersWalks_T1 O LP s := by kernel_rfl
theorem seinelaw1_LettersWalks_l1_ok (s : Str) : ∀ st l u, seinelaw1_LettersWalks_l1R s st l u → Imp (seinelaw1_LettersWalks_l1T s st) (seinelaw1_LettersWalks_l1 O loopLim l u) (StepR (seinelaw1_LettersWalks_l1R s) (seinelaw1_LettersWalks_l1X s)) := by
  rintro i_14 l u ⟨rfl, rfl⟩
  simp only [seinelaw1_LettersWalks_l1T, seinelaw1_LettersWalks_l1]
  refine Imp.chk rfl (Imp.chk rfl ?_)
  try simp only [evs, tys]
  refine Imp.cnd ?_ ?_
  · refine Imp.call (f := letters_CodeE) rfl (fun a h => by first | exact letters_Code_spec h | simpa only [evs, tys, evl] using letters_Code_spec h) (fun a => by first | rfl | simp only [letters_CodeE, evk, chks]) fun y16 hy16 => ?_
    try simp only [letters_CodeE, evs, tys]
    refine Imp.cnd ?_ ?_
    · exact Imp.some (StepR.brk (by first | rfl | simp only [evs, tys, evl, elim_inl, elim_inr]))
    · refine Imp.cnd ?_ ?_
      · exact Imp.some (StepR.ret ⟨i_14, by first | rfl | simp only [evs, tys, evl, elim_inl, elim_inr]⟩)
      · refine Imp.cnd ?_ ?_
        · exact Imp.some (StepR.ret ⟨i_14, by first | rfl | simp only [evs, tys, evl, elim_inl, elim_inr]⟩)
        · refine Imp.cnd ?_ ?_
          · exact Imp.some (StepR.ret ⟨i_14, by first | rfl | simp only [evs, tys, evl, elim_inl, elim_inr]⟩)
          · refine Imp.cnd ?_ ?_
            · exact Imp.some (StepR.ret ⟨i_14, by first | rfl | simp only [evs, tys, evl, elim_inl, elim_inr]⟩)
            · refine Imp.cnd ?_ ?_
              · exact Imp.some (StepR.ret ⟨i_14, by first | rfl | simp only [evs, tys, evl, elim_inl, elim_inr]⟩)
              · refine Imp.cnd ?_ ?_
                · refine Imp.cnd ?_ ?_
                  · exact Imp.some (StepR.ret ⟨i_14, by first | rfl | simp only [evs, tys, evl, elim_inl, elim_inr]⟩)
                  · refine Imp.cnd ?_ ?_
                    · exact Imp.some (StepR.ret ⟨i_14, by first | rfl | simp only [evs, tys, evl, elim_inl, elim_inr]⟩)
                    · refine Imp.op (f := fun a => .str a) (fun a h => op_sslcLH h) (fun a => rfl) fun y18 hy18 => ?_
                      try simp only [evs, tys]
                      refine Imp.call (f := letters_GoodE) rfl (fun a h => by first | exact letters_Good_spec h | simpa only [evs, tys, evl] using letters_Good_spec h) (fun a => by first | rfl | simp only [letters_GoodE, evk, chks]) fun y20 hy20 => ?_
                      try simp only [letters_GoodE, evs, tys]
                      refine Imp.cnd ?_ ?_
                      · exact Imp.some (StepR.ret ⟨i_14, by first | rfl | simp only [evs, tys, evl, elim_inl, elim_inr]⟩)
                      · exact Imp.some (StepR.next ⟨by first | rfl | simp only [evs, tys, evl], rfl⟩)
                · refine Imp.cnd ?_ ?_
                  · exact Imp.some (StepR.ret ⟨i_14, by first | rfl | simp only [evs, tys, evl, elim_inl, elim_inr]⟩)
                  · refine Imp.op (f := fun a => .str a) (fun a h => op_sslcLH h) (fun a => rfl) fun y22 hy22 => ?_
                    try simp only [evs, tys]
                    refine Imp.call (f := letters_GoodE) rfl (fun a h => by first | exact letters_Good_spec h | simpa only [evs, tys, evl] using letters_Good_spec h) (fun a => by first | rfl | simp only [letters_GoodE, evk, chks]) fun y24 hy24 => ?_
                    try simp only [letters_GoodE, evs, tys]
                    refine Imp.cnd ?_ ?_
                    · exact Imp.some (StepR.ret ⟨i_14, by first | rfl | simp only [evs, tys, evl, elim_inl, elim_inr]⟩)
                    · exact Imp.some (StepR.next ⟨by first | rfl | simp only [evs, tys, evl], rfl⟩)
  · exact Imp.some (StepR.brk (by first | rfl | simp only [evs, tys, evl, elim_inl, elim_inr]))
theorem seinelaw1_LettersWalks_imp (s : Str) : Imp (seinelaw1_LettersWalks_B s) (seinelaw1_LettersWalks_T1 O loopLim s) (fun r v => v = (seinelaw1_LettersWalksE r, [])) := by
  simp only [seinelaw1_LettersWalks_B, seinelaw1_LettersWalks_T1]
  try simp only [evs, tys]
  refine Imp.cnd ?_ ?_
  · refine Imp.call (f := seinelaw1_awakeE) rfl (fun a h => by first | exact seinelaw1_awake_spec h | simpa only [evs, tys, evl] using seinelaw1_awake_spec h) (fun a => by first | rfl | simp only [seinelaw1_awakeE, evk, chks]) fun y2 hy2 => ?_
    try simp only [seinelaw1_awakeE, evs, tys]
    exact Imp.some (by first | rfl | simp only [seinelaw1_LettersWalksE, evs, tys, evl])
  · refine Imp.bnd (Imp.loop (seinelaw1_LettersWalks_l1_ok s) ⟨by first | rfl | simp only [evs, tys, evl], rfl⟩) ?_
    rintro (i_25 | p) vy27 hy27
    · try simp only [elim_inl, elim_inr]
      cases hy27
      refine Imp.exHit rfl (Imp.chk rfl (Imp.chk rfl ?_))
      try simp only [evs, tys]
      refine Imp.call (f := letters_GoodE) rfl (fun a h => by first | exact letters_Good_spec h | simpa only [evs, tys, evl] using letters_Good_spec h) (fun a => by first | rfl | simp only [letters_GoodE, evk, chks]) fun y29 hy29 => ?_
      try simp only [letters_GoodE, evs, tys]
      refine Imp.cnd ?_ ?_
      · refine Imp.call (f := seinelaw1_awakeE) rfl (fun a h => by first | exact seinelaw1_awake_spec h | simpa only [evs, tys, evl] using seinelaw1_awake_spec h) (fun a => by first | rfl | simp only [seinelaw1_awakeE, evk, chks]) fun y31 hy31 => ?_
        try simp only [seinelaw1_awakeE, evs, tys]
        exact Imp.some (by first | rfl | simp only [seinelaw1_LettersWalksE, evs, tys, evl])
      · exact Imp.some (by first | rfl | simp only [seinelaw1_LettersWalksE, evs, tys, evl])
    · try simp only [elim_inl, elim_inr]
      obtain ⟨i_26, rfl⟩ := hy27
      refine Imp.exMiss rfl ?_
      refine Imp.exHit rfl (Imp.chk rfl (Imp.chk rfl ?_))
      try simp only [evs, tys]
      exact Imp.some (by first | rfl | simp only [seinelaw1_LettersWalksE, evs, tys, evl])
theorem seinelaw1_LettersWalks_run {s : Str} {r : Bool} (h : seinelaw1_LettersWalks_B s = some r) : seinelaw1_LettersWalks s = some r := by
  obtain ⟨v, hv, rfl⟩ := seinelaw1_LettersWalks_imp s r h
  exact tO_of (pair_inj seinelaw1_LettersWalksEj) (OL_runD seinelaw1_LettersWalks_ds rfl rfl Tryd.func5 ((seinelaw1_LettersWalks_t1 _ _ s).trans hv))

def seinelaw1_LettersSource_T1 (O : Orc) (LP : LBody → LBody) (s : Str) (t : Str) : Option (PV × UP) :=
  cnd (decide ((List.length s : Int) > 3000))
   (callp O 9 [] fun x1 => cnd (chk .bool x1)
   (some ((.bool (boolV x1)), [])) none)
   (cnd (decide ((List.length t : Int) > 3000))
    (callp O 9 [] fun x3 => cnd (chk .bool x3)
    (some ((.bool (boolV x3)), [])) none)
    (callp O 17 [(.str s)] fun x5 => cnd (chk .bool x5)
    (cnd (boolV x5)
     (callp O 16 [(.str s)] fun x7 => cnd (chk .bool x7)
     (cnd (!(boolV x7))
      (some ((.bool false), []))
      (callp O 16 [(.str s)] fun x9 => cnd (chk .bool x9)
      (cnd (!(boolV x9))
       (callp O 9 [] fun x11 => cnd (chk .bool x11)
       (some ((.bool (boolV x11)), [])) none)
       (callp O 16 [(.str t)] fun x13 => cnd (chk .bool x13)
       (cnd (!(boolV x13))
        (callp O 9 [] fun x15 => cnd (chk .bool x15)
        (some ((.bool (boolV x15)), [])) none)
        (bnd (bin .add (.str s) (.str t)) fun x17 => cnd (chk .str x17)
        (callp O 16 [(.str (strV x17))] fun x19 => cnd (chk .bool x19)
        (cnd (boolV x19)
         (bnd (bin .add (.str s) (.str t)) fun x21 => cnd (chk .str x21)
         (callp O 17 [(.str (strV x21))] fun x23 => cnd (chk .bool x23)
         (callp O 17 [(.str s)] fun x25 => cnd (chk .bool x25)
         (cnd (boolV x25)
          (callp O 17 [(.str t)] fun x27 => cnd (chk .bool x27)
          (cnd ((boolV x23) == (boolV x27))
           (callp O 9 [] fun x29 => cnd (chk .bool x29)
           (some ((.bool (boolV x29)), [])) none)
           (some ((.bool false), []))) none)
          (cnd ((boolV x23) == false)
           (callp O 9 [] fun x31 => cnd (chk .bool x31)
           (some ((.bool (boolV x31)), [])) none)
           (some ((.bool false), [])))) none) none) none)
         (some ((.bool false), []))) none) none)) none)) none)) none)
     (callp O 16 [(.str s)] fun x33 => cnd (chk .bool x33)
     (cnd (!(boolV x33))
      (callp O 9 [] fun x35 => cnd (chk .bool x35)
      (some ((.bool (boolV x35)), [])) none)
      (callp O 16 [(.str t)] fun x37 => cnd (chk .bool x37)
      (cnd (!(boolV x37))
       (callp O 9 [] fun x39 => cnd (chk .bool x39)
       (some ((.bool (boolV x39)), [])) none)
       (bnd (bin .add (.str s) (.str t)) fun x41 => cnd (chk .str x41)
       (callp O 16 [(.str (strV x41))] fun x43 => cnd (chk .bool x43)
       (cnd (boolV x43)
        (bnd (bin .add (.str s) (.str t)) fun x45 => cnd (chk .str x45)
        (callp O 17 [(.str (strV x45))] fun x47 => cnd (chk .bool x47)
        (callp O 17 [(.str s)] fun x49 => cnd (chk .bool x49)
        (cnd (boolV x49)
         (callp O 17 [(.str t)] fun x51 => cnd (chk .bool x51)
         (cnd ((boolV x47) == (boolV x51))
          (callp O 9 [] fun x53 => cnd (chk .bool x53)
          (some ((.bool (boolV x53)), [])) none)
          (some ((.bool false), []))) none)
         (cnd ((boolV x47) == false)
          (callp O 9 [] fun x55 => cnd (chk .bool x55)
          (some ((.bool (boolV x55)), [])) none)
          (some ((.bool false), [])))) none) none) none)
        (some ((.bool false), []))) none) none)) none)) none)) none))
noncomputable def seinelaw1_LettersSource_B (s : Str) (t : Str) : Option Bool :=
  cnd (decide ((List.length s : Int) > 3000))
   (bnd (seinelaw1_awake) fun y2 =>
   some y2)
   (cnd (decide ((List.length t : Int) > 3000))
    (bnd (seinelaw1_awake) fun y4 =>
    some y4)
    (bnd (letters_Source s) fun y6 =>
    cnd y6
     (bnd (letters_Good s) fun y8 =>
     cnd (!y8)
      (some false)
      (bnd (letters_Good s) fun y10 =>
      cnd (!y10)
       (bnd (seinelaw1_awake) fun y12 =>
       some y12)
       (bnd (letters_Good t) fun y14 =>
       cnd (!y14)
        (bnd (seinelaw1_awake) fun y16 =>
        some y16)
        (bnd (tapp s t) fun y18 =>
        bnd (letters_Good y18) fun y20 =>
        cnd y20
         (bnd (tapp s t) fun y22 =>
         bnd (letters_Source y22) fun y24 =>
         bnd (letters_Source s) fun y26 =>
         cnd y26
          (bnd (letters_Source t) fun y28 =>
          cnd (y24 == y28)
           (bnd (seinelaw1_awake) fun y30 =>
           some y30)
           (some false))
          (cnd (y24 == false)
           (bnd (seinelaw1_awake) fun y32 =>
           some y32)
           (some false)))
         (some false)))))
     (bnd (letters_Good s) fun y34 =>
     cnd (!y34)
      (bnd (seinelaw1_awake) fun y36 =>
      some y36)
      (bnd (letters_Good t) fun y38 =>
      cnd (!y38)
       (bnd (seinelaw1_awake) fun y40 =>
       some y40)
       (bnd (tapp s t) fun y42 =>
       bnd (letters_Good y42) fun y44 =>
       cnd y44
        (bnd (tapp s t) fun y46 =>
        bnd (letters_Source y46) fun y48 =>
        bnd (letters_Source s) fun y50 =>
        cnd y50
         (bnd (letters_Source t) fun y52 =>
         cnd (y48 == y52)
          (bnd (seinelaw1_awake) fun y54 =>
          some y54)
          (some false))
         (cnd (y48 == false)
          (bnd (seinelaw1_awake) fun y56 =>
          some y56)
          (some false)))
        (some false))))))
def seinelaw1_LettersSource_ds : Decs := { decs := [(13, .bool), (15, .bool), (18, .bool), (22, .bool), (26, .bool), (29, .bool), (32, .str), (33, .bool), (37, .str), (38, .bool), (40, .bool), (43, .bool), (48, .bool)], ups := [], loops := [] }
set_option maxRecDepth 100000 in
theorem seinelaw1_LettersSource_t1 (O : Orc) (LP : LBody → LBody) (s : Str) (t : Str) : evalBodyD Tryd.prog (MT 6) seinelaw1_LettersSource_ds Tryd.f6.ntmps O LP Tryd.f6 [(.str s), (.str t)] [] = seinelaw1_LettersSource_T1 O LP s t := by kernel_rfl
theorem seinelaw1_LettersSource_imp (s : Str) (t : Str) : Imp (seinelaw1_LettersSource_B s t) (seinelaw1_LettersSource_T1 O loopLim s t) (fun r v => v = (seinelaw1_LettersSourceE r, [])) := by
  simp only [seinelaw1_LettersSource_B, seinelaw1_LettersSource_T1]
  try simp only [evs, tys]
  refine Imp.cnd ?_ ?_
  · refine Imp.call (f := seinelaw1_awakeE) rfl (fun a h => by first | exact seinelaw1_awake_spec h | simpa only [evs, tys, evl] using seinelaw1_awake_spec h) (fun a => by first | rfl | simp only [seinelaw1_awakeE, evk, chks]) fun y2 hy2 => ?_
    try simp only [seinelaw1_awakeE, evs, tys]
    exact Imp.some (by first | rfl | simp only [seinelaw1_LettersSourceE, evs, tys, evl])
  · refine Imp.cnd ?_ ?_
    · refine Imp.call (f := seinelaw1_awakeE) rfl (fun a h => by first | exact seinelaw1_awake_spec h | simpa only [evs, tys, evl] using seinelaw1_awake_spec h) (fun a => by first | rfl | simp only [seinelaw1_awakeE, evk, chks]) fun y4 hy4 => ?_
      try simp only [seinelaw1_awakeE, evs, tys]
      exact Imp.some (by first | rfl | simp only [seinelaw1_LettersSourceE, evs, tys, evl])
    · refine Imp.call (f := letters_SourceE) rfl (fun a h => by first | exact letters_Source_spec h | simpa only [evs, tys, evl] using letters_Source_spec h) (fun a => by first | rfl | simp only [letters_SourceE, evk, chks]) fun y6 hy6 => ?_
      try simp only [letters_SourceE, evs, tys]
      refine Imp.cnd ?_ ?_
      · refine Imp.call (f := letters_GoodE) rfl (fun a h => by first | exact letters_Good_spec h | simpa only [evs, tys, evl] using letters_Good_spec h) (fun a => by first | rfl | simp only [letters_GoodE, evk, chks]) fun y8 hy8 => ?_
        try simp only [letters_GoodE, evs, tys]
        refine Imp.cnd ?_ ?_
        · exact Imp.some (by first | rfl | simp only [seinelaw1_LettersSourceE, evs, tys, evl])
        · refine Imp.call (f := letters_GoodE) rfl (fun a h => by first | exact letters_Good_spec h | simpa only [evs, tys, evl] using letters_Good_spec h) (fun a => by first | rfl | simp only [letters_GoodE, evk, chks]) fun y10 hy10 => ?_
          try simp only [letters_GoodE, evs, tys]
          refine Imp.cnd ?_ ?_
          · refine Imp.call (f := seinelaw1_awakeE) rfl (fun a h => by first | exact seinelaw1_awake_spec h | simpa only [evs, tys, evl] using seinelaw1_awake_spec h) (fun a => by first | rfl | simp only [seinelaw1_awakeE, evk, chks]) fun y12 hy12 => ?_
            try simp only [seinelaw1_awakeE, evs, tys]
            exact Imp.some (by first | rfl | simp only [seinelaw1_LettersSourceE, evs, tys, evl])
          · refine Imp.call (f := letters_GoodE) rfl (fun a h => by first | exact letters_Good_spec h | simpa only [evs, tys, evl] using letters_Good_spec h) (fun a => by first | rfl | simp only [letters_GoodE, evk, chks]) fun y14 hy14 => ?_
            try simp only [letters_GoodE, evs, tys]
            refine Imp.cnd ?_ ?_
            · refine Imp.call (f := seinelaw1_awakeE) rfl (fun a h => by first | exact seinelaw1_awake_spec h | simpa only [evs, tys, evl] using seinelaw1_awake_spec h) (fun a => by first | rfl | simp only [seinelaw1_awakeE, evk, chks]) fun y16 hy16 => ?_
              try simp only [seinelaw1_awakeE, evs, tys]
              exact Imp.some (by first | rfl | simp only [seinelaw1_LettersSourceE, evs, tys, evl])
            · refine Imp.op (f := fun a => .str a) (fun a h => op_cat h) (fun a => rfl) fun y18 hy18 => ?_
              try simp only [evs, tys]
              refine Imp.call (f := letters_GoodE) rfl (fun a h => by first | exact letters_Good_spec h | simpa only [evs, tys, evl] using letters_Good_spec h) (fun a => by first | rfl | simp only [letters_GoodE, evk, chks]) fun y20 hy20 => ?_
              try simp only [letters_GoodE, evs, tys]
              refine Imp.cnd ?_ ?_
              · refine Imp.op (f := fun a => .str a) (fun a h => op_cat h) (fun a => rfl) fun y22 hy22 => ?_
                try simp only [evs, tys]
                refine Imp.call (f := letters_SourceE) rfl (fun a h => by first | exact letters_Source_spec h | simpa only [evs, tys, evl] using letters_Source_spec h) (fun a => by first | rfl | simp only [letters_SourceE, evk, chks]) fun y24 hy24 => ?_
                try simp only [letters_SourceE, evs, tys]
                refine Imp.call (f := letters_SourceE) rfl (fun a h => by first | exact letters_Source_spec h | simpa only [evs, tys, evl] using letters_Source_spec h) (fun a => by first | rfl | simp only [letters_SourceE, evk, chks]) fun y26 hy26 => ?_
                try simp only [letters_SourceE, evs, tys]
                refine Imp.cnd ?_ ?_
                · refine Imp.call (f := letters_SourceE) rfl (fun a h => by first | exact letters_Source_spec h | simpa only [evs, tys, evl] using letters_Source_spec h) (fun a => by first | rfl | simp only [letters_SourceE, evk, chks]) fun y28 hy28 => ?_
                  try simp only [letters_SourceE, evs, tys]
                  refine Imp.cnd ?_ ?_
                  · refine Imp.call (f := seinelaw1_awakeE) rfl (fun a h => by first | exact seinelaw1_awake_spec h | simpa only [evs, tys, evl] using seinelaw1_awake_spec h) (fun a => by first | rfl | simp only [seinelaw1_awakeE, evk, chks]) fun y30 hy30 => ?_
                    try simp only [seinelaw1_awakeE, evs, tys]
                    exact Imp.some (by first | rfl | simp only [seinelaw1_LettersSourceE, evs, tys, evl])
                  · exact Imp.some (by first | rfl | simp only [seinelaw1_LettersSourceE, evs, tys, evl])
                · refine Imp.cnd ?_ ?_
                  · refine Imp.call (f := seinelaw1_awakeE) rfl (fun a h => by first | exact seinelaw1_awake_spec h | simpa only [evs, tys, evl] using seinelaw1_awake_spec h) (fun a => by first | rfl | simp only [seinelaw1_awakeE, evk, chks]) fun y32 hy32 => ?_
                    try simp only [seinelaw1_awakeE, evs, tys]
                    exact Imp.some (by first | rfl | simp only [seinelaw1_LettersSourceE, evs, tys, evl])
                  · exact Imp.some (by first | rfl | simp only [seinelaw1_LettersSourceE, evs, tys, evl])
              · exact Imp.some (by first | rfl | simp only [seinelaw1_LettersSourceE, evs, tys, evl])
      · refine Imp.call (f := letters_GoodE) rfl (fun a h => by first | exact letters_Good_spec h | simpa only [evs, tys, evl] using letters_Good_spec h) (fun a => by first | rfl | simp only [letters_GoodE, evk, chks]) fun y34 hy34 => ?_
        try simp only [letters_GoodE, evs, tys]
        refine Imp.cnd ?_ ?_
        · refine Imp.call (f := seinelaw1_awakeE) rfl (fun a h => by first | exact seinelaw1_awake_spec h | simpa only [evs, tys, evl] using seinelaw1_awake_spec h) (fun a => by first | rfl | simp only [seinelaw1_awakeE, evk, chks]) fun y36 hy36 => ?_
          try simp only [seinelaw1_awakeE, evs, tys]
          exact Imp.some (by first | rfl | simp only [seinelaw1_LettersSourceE, evs, tys, evl])
        · refine Imp.call (f := letters_GoodE) rfl (fun a h => by first | exact letters_Good_spec h | simpa only [evs, tys, evl] using letters_Good_spec h) (fun a => by first | rfl | simp only [letters_GoodE, evk, chks]) fun y38 hy38 => ?_
          try simp only [letters_GoodE, evs, tys]
          refine Imp.cnd ?_ ?_
          · refine Imp.call (f := seinelaw1_awakeE) rfl (fun a h => by first | exact seinelaw1_awake_spec h | simpa only [evs, tys, evl] using seinelaw1_awake_spec h) (fun a => by first | rfl | simp only [seinelaw1_awakeE, evk, chks]) fun y40 hy40 => ?_
            try simp only [seinelaw1_awakeE, evs, tys]
            exact Imp.some (by first | rfl | simp only [seinelaw1_LettersSourceE, evs, tys, evl])
          · refine Imp.op (f := fun a => .str a) (fun a h => op_cat h) (fun a => rfl) fun y42 hy42 => ?_
            try simp only [evs, tys]
            refine Imp.call (f := letters_GoodE) rfl (fun a h => by first | exact letters_Good_spec h | simpa only [evs, tys, evl] using letters_Good_spec h) (fun a => by first | rfl | simp only [letters_GoodE, evk, chks]) fun y44 hy44 => ?_
            try simp only [letters_GoodE, evs, tys]
            refine Imp.cnd ?_ ?_
            · refine Imp.op (f := fun a => .str a) (fun a h => op_cat h) (fun a => rfl) fun y46 hy46 => ?_
              try simp only [evs, tys]
              refine Imp.call (f := letters_SourceE) rfl (fun a h => by first | exact letters_Source_spec h | simpa only [evs, tys, evl] using letters_Source_spec h) (fun a => by first | rfl | simp only [letters_SourceE, evk, chks]) fun y48 hy48 => ?_
              try simp only [letters_SourceE, evs, tys]
              refine Imp.call (f := letters_SourceE) rfl (fun a h => by first | exact letters_Source_spec h | simpa only [evs, tys, evl] using letters_Source_spec h) (fun a => by first | rfl | simp only [letters_SourceE, evk, chks]) fun y50 hy50 => ?_
              try simp only [letters_SourceE, evs, tys]
              refine Imp.cnd ?_ ?_
              · refine Imp.call (f := letters_SourceE) rfl (fun a h => by first | exact letters_Source_spec h | simpa only [evs, tys, evl] using letters_Source_spec h) (fun a => by first | rfl | simp only [letters_SourceE, evk, chks]) fun y52 hy52 => ?_
                try simp only [letters_SourceE, evs, tys]
                refine Imp.cnd ?_ ?_
                · refine Imp.call (f := seinelaw1_awakeE) rfl (fun a h => by first | exact seinelaw1_awake_spec h | simpa only [evs, tys, evl] using seinelaw1_awake_spec h) (fun a => by first | rfl | simp only [seinelaw1_awakeE, evk, chks]) fun y54 hy54 => ?_
                  try simp only [seinelaw1_awakeE, evs, tys]
                  exact Imp.some (by first | rfl | simp only [seinelaw1_LettersSourceE, evs, tys, evl])
                · exact Imp.some (by first | rfl | simp only [seinelaw1_LettersSourceE, evs, tys, evl])
              · refine Imp.cnd ?_ ?_
                · refine Imp.call (f := seinelaw1_awakeE) rfl (fun a h => by first | exact seinelaw1_awake_spec h | simpa only [evs, tys, evl] using seinelaw1_awake_spec h) (fun a => by first | rfl | simp only [seinelaw1_awakeE, evk, chks]) fun y56 hy56 => ?_
                  try simp only [seinelaw1_awakeE, evs, tys]
                  exact Imp.some (by first | rfl | simp only [seinelaw1_LettersSourceE, evs, tys, evl])
                · exact Imp.some (by first | rfl | simp only [seinelaw1_LettersSourceE, evs, tys, evl])
            · exact Imp.some (by first | rfl | simp only [seinelaw1_LettersSourceE, evs, tys, evl])
theorem seinelaw1_LettersSource_run {s : Str} {t : Str} {r : Bool} (h : seinelaw1_LettersSource_B s t = some r) : seinelaw1_LettersSource s t = some r := by
  obtain ⟨v, hv, rfl⟩ := seinelaw1_LettersSource_imp s t r h
  exact tO_of (pair_inj seinelaw1_LettersSourceEj) (OL_runD seinelaw1_LettersSource_ds rfl rfl Tryd.func6 ((seinelaw1_LettersSource_t1 _ _ s t).trans hv))
end Go.Proofs.YtanjedcndpcgfaaDoor

/- Printed by symgen.py: typed functions of this seat, and why they tell what the program does. -/
set_option linter.unusedVariables false
set_option linter.unusedSimpArgs false
open Go Go.Ev Go.Ev.PV
namespace Go.Proofs.YtanjedcndpcgfaaDoor
def seinelaw1_LettersBack_T1 (O : Orc) (LP : LBody → LBody) (s : Str) (l0 : List Int) : Option (PV × UP) :=
  cnd (decide ((List.length s : Int) > 3000))
   (callp O 9 [] fun x1 => cnd (chk .bool x1)
   (some ((.bool (boolV x1)), [])) none)
   (cnd (decide ((List.length (List.map (PV.int .i64) l0) : Int) > 3000))
    (callp O 9 [] fun x3 => cnd (chk .bool x3)
    (some ((.bool (boolV x3)), [])) none)
    (callp O 18 [(.str s)] fun x5 => cnd (chk (.tup [(.sl false), .bool]) x5)
    (callp O 16 [(.str s)] fun x7 => cnd (chk .bool x7)
    (cnd (!((boolV (gt (tupV x5) 1)) == (boolV x7)))
     (some ((.bool false), []))
     (cnd (!(boolV (gt (tupV x5) 1)))
      (cnd (decide ((List.length (esV (gt (tupV x5) 0)) : Int) > 0))
       (some ((.bool false), []))
       (callp O 11 [(.slice (esV (gt (tupV x5) 0)) [] false)] fun x9 => cnd (chk (.tup [.str, .bool]) x9)
       (cnd (boolV (gt (tupV x5) 1))
        (cnd (!(boolV (gt (tupV x9) 1)))
         (some ((.bool false), []))
         (cnd (!((strV (gt (tupV x9) 0)) == s))
          (some ((.bool false), []))
          (callp O 11 [(.slice (List.map (PV.int .i64) l0) [] false)] fun x11 => cnd (chk (.tup [.str, .bool]) x11)
          (cnd (!(boolV (gt (tupV x11) 1)))
           (cnd ((strV (gt (tupV x11) 0)) == ([] : Str))
            (callp O 9 [] fun x13 => cnd (chk .bool x13)
            (some ((.bool (boolV x13)), [])) none)
            (some ((.bool false), [])))
           (callp O 18 [(.str (strV (gt (tupV x11) 0)))] fun x15 => cnd (chk (.tup [(.sl false), .bool]) x15)
           (cnd (boolV (gt (tupV x15) 1))
            (callp O 19 [(.slice (esV (gt (tupV x15) 0)) [] false), (.slice (List.map (PV.int .i64) l0) [] false)] fun x17 => cnd (chk .bool x17)
            (cnd (boolV x17)
             (callp O 9 [] fun x19 => cnd (chk .bool x19)
             (some ((.bool (boolV x19)), [])) none)
             (some ((.bool false), []))) none)
            (some ((.bool false), []))) none)) none)))
        (callp O 11 [(.slice (List.map (PV.int .i64) l0) [] false)] fun x21 => cnd (chk (.tup [.str, .bool]) x21)
        (cnd (!(boolV (gt (tupV x21) 1)))
         (cnd ((strV (gt (tupV x21) 0)) == ([] : Str))
          (callp O 9 [] fun x23 => cnd (chk .bool x23)
          (some ((.bool (boolV x23)), [])) none)
          (some ((.bool false), [])))
         (callp O 18 [(.str (strV (gt (tupV x21) 0)))] fun x25 => cnd (chk (.tup [(.sl false), .bool]) x25)
         (cnd (boolV (gt (tupV x25) 1))
          (callp O 19 [(.slice (esV (gt (tupV x25) 0)) [] false), (.slice (List.map (PV.int .i64) l0) [] false)] fun x27 => cnd (chk .bool x27)
          (cnd (boolV x27)
           (callp O 9 [] fun x29 => cnd (chk .bool x29)
           (some ((.bool (boolV x29)), [])) none)
           (some ((.bool false), []))) none)
          (some ((.bool false), []))) none)) none)) none))
      (callp O 11 [(.slice (esV (gt (tupV x5) 0)) [] false)] fun x31 => cnd (chk (.tup [.str, .bool]) x31)
      (cnd (boolV (gt (tupV x5) 1))
       (cnd (!(boolV (gt (tupV x31) 1)))
        (some ((.bool false), []))
        (cnd (!((strV (gt (tupV x31) 0)) == s))
         (some ((.bool false), []))
         (callp O 11 [(.slice (List.map (PV.int .i64) l0) [] false)] fun x33 => cnd (chk (.tup [.str, .bool]) x33)
         (cnd (!(boolV (gt (tupV x33) 1)))
          (cnd ((strV (gt (tupV x33) 0)) == ([] : Str))
           (callp O 9 [] fun x35 => cnd (chk .bool x35)
           (some ((.bool (boolV x35)), [])) none)
           (some ((.bool false), [])))
          (callp O 18 [(.str (strV (gt (tupV x33) 0)))] fun x37 => cnd (chk (.tup [(.sl false), .bool]) x37)
          (cnd (boolV (gt (tupV x37) 1))
           (callp O 19 [(.slice (esV (gt (tupV x37) 0)) [] false), (.slice (List.map (PV.int .i64) l0) [] false)] fun x39 => cnd (chk .bool x39)
           (cnd (boolV x39)
            (callp O 9 [] fun x41 => cnd (chk .bool x41)
            (some ((.bool (boolV x41)), [])) none)
            (some ((.bool false), []))) none)
           (some ((.bool false), []))) none)) none)))
       (callp O 11 [(.slice (List.map (PV.int .i64) l0) [] false)] fun x43 => cnd (chk (.tup [.str, .bool]) x43)
       (cnd (!(boolV (gt (tupV x43) 1)))
        (cnd ((strV (gt (tupV x43) 0)) == ([] : Str))
         (callp O 9 [] fun x45 => cnd (chk .bool x45)
         (some ((.bool (boolV x45)), [])) none)
         (some ((.bool false), [])))
        (callp O 18 [(.str (strV (gt (tupV x43) 0)))] fun x47 => cnd (chk (.tup [(.sl false), .bool]) x47)
        (cnd (boolV (gt (tupV x47) 1))
         (callp O 19 [(.slice (esV (gt (tupV x47) 0)) [] false), (.slice (List.map (PV.int .i64) l0) [] false)] fun x49 => cnd (chk .bool x49)
         (cnd (boolV x49)
          (callp O 9 [] fun x51 => cnd (chk .bool x51)
          (some ((.bool (boolV x51)), [])) none)
          (some ((.bool false), []))) none)
         (some ((.bool false), []))) none)) none)) none))) none) none))
noncomputable def seinelaw1_LettersBack_B (s : Str) (l0 : List Int) : Option Bool :=
  cnd (decide ((List.length s : Int) > 3000))
   (bnd (seinelaw1_awake) fun y2 =>
   some y2)
   (cnd (decide ((List.length l0 : Int) > 3000))
    (bnd (seinelaw1_awake) fun y4 =>
    some y4)
    (bnd (letters_Units s) fun y6 =>
    bnd (letters_Good s) fun y8 =>
    cnd (!(y6.2 == y8))
     (some false)
     (cnd (!y6.2)
      (cnd (decide ((List.length y6.1 : Int) > 0))
       (some false)
       (bnd (letters_Join y6.1) fun y10 =>
       cnd y6.2
        (cnd (!y10.2)
         (some false)
         (cnd (!(y10.1 == s))
          (some false)
          (bnd (letters_Join l0) fun y12 =>
          cnd (!y12.2)
           (cnd (y12.1 == ([] : Str))
            (bnd (seinelaw1_awake) fun y14 =>
            some y14)
            (some false))
           (bnd (letters_Units y12.1) fun y16 =>
           cnd y16.2
            (bnd (seinekeep_SameInts y16.1 l0) fun y18 =>
            cnd y18
             (bnd (seinelaw1_awake) fun y20 =>
             some y20)
             (some false))
            (some false)))))
        (bnd (letters_Join l0) fun y22 =>
        cnd (!y22.2)
         (cnd (y22.1 == ([] : Str))
          (bnd (seinelaw1_awake) fun y24 =>
          some y24)
          (some false))
         (bnd (letters_Units y22.1) fun y26 =>
         cnd y26.2
          (bnd (seinekeep_SameInts y26.1 l0) fun y28 =>
          cnd y28
           (bnd (seinelaw1_awake) fun y30 =>
           some y30)
           (some false))
          (some false)))))
      (bnd (letters_Join y6.1) fun y32 =>
      cnd y6.2
       (cnd (!y32.2)
        (some false)
        (cnd (!(y32.1 == s))
         (some false)
         (bnd (letters_Join l0) fun y34 =>
         cnd (!y34.2)
          (cnd (y34.1 == ([] : Str))
           (bnd (seinelaw1_awake) fun y36 =>
           some y36)
           (some false))
          (bnd (letters_Units y34.1) fun y38 =>
          cnd y38.2
           (bnd (seinekeep_SameInts y38.1 l0) fun y40 =>
           cnd y40
            (bnd (seinelaw1_awake) fun y42 =>
            some y42)
            (some false))
           (some false)))))
       (bnd (letters_Join l0) fun y44 =>
       cnd (!y44.2)
        (cnd (y44.1 == ([] : Str))
         (bnd (seinelaw1_awake) fun y46 =>
         some y46)
         (some false))
        (bnd (letters_Units y44.1) fun y48 =>
        cnd y48.2
         (bnd (seinekeep_SameInts y48.1 l0) fun y50 =>
         cnd y50
          (bnd (seinelaw1_awake) fun y52 =>
          some y52)
          (some false))
         (some false)))))))
def seinelaw1_LettersBack_ds : Decs := { decs := [(17, .bool), (20, (.tup [(.sl false), .bool])), (25, .bool), (38, (.tup [.str, .bool])), (53, (.tup [.str, .bool])), (61, .bool), (65, (.tup [(.sl false), .bool])), (72, .bool), (75, .bool)], ups := [], loops := [] }
set_option maxRecDepth 100000 in
theorem seinelaw1_LettersBack_t1 (O : Orc) (LP : LBody → LBody) (s : Str) (l0 : List Int) : evalBodyD Tryd.prog (MT 7) seinelaw1_LettersBack_ds Tryd.f7.ntmps O LP Tryd.f7 [(.str s), (.slice (List.map (PV.int .i64) l0) [] false)] [] = seinelaw1_LettersBack_T1 O LP s l0 := by kernel_rfl
theorem seinelaw1_LettersBack_imp (s : Str) (l0 : List Int) : Imp (seinelaw1_LettersBack_B s l0) (seinelaw1_LettersBack_T1 O loopLim s l0) (fun r v => v = (seinelaw1_LettersBackE r, [])) := by
  simp only [seinelaw1_LettersBack_B, seinelaw1_LettersBack_T1]
  try simp only [evs, tys]
  refine Imp.cnd ?_ ?_
  · refine Imp.call (f := seinelaw1_awakeE) rfl (fun a h => by first | exact seinelaw1_awake_spec h | simpa only [evs, tys, evl] using seinelaw1_awake_spec h) (fun a => by first | rfl | simp only [seinelaw1_awakeE, evk, chks]) fun y2 hy2 => ?_
    try simp only [seinelaw1_awakeE, evs, tys]
    exact Imp.some (by first | rfl | simp only [seinelaw1_LettersBackE, evs, tys, evl])
  · refine Imp.cnd ?_ ?_
    · refine Imp.call (f := seinelaw1_awakeE) rfl (fun a h => by first | exact seinelaw1_awake_spec h | simpa only [evs, tys, evl] using seinelaw1_awake_spec h) (fun a => by first | rfl | simp only [seinelaw1_awakeE, evk, chks]) fun y4 hy4 => ?_
      try simp only [seinelaw1_awakeE, evs, tys]
      exact Imp.some (by first | rfl | simp only [seinelaw1_LettersBackE, evs, tys, evl])
    · refine Imp.call (f := letters_UnitsE) rfl (fun a h => by first | exact letters_Units_spec h | simpa only [evs, tys, evl] using letters_Units_spec h) (fun a => by first | rfl | simp only [letters_UnitsE, evk, chks]) fun y6 hy6 => ?_
      try simp only [letters_UnitsE, evs, tys]
      refine Imp.call (f := letters_GoodE) rfl (fun a h => by first | exact letters_Good_spec h | simpa only [evs, tys, evl] using letters_Good_spec h) (fun a => by first | rfl | simp only [letters_GoodE, evk, chks]) fun y8 hy8 => ?_
      try simp only [letters_GoodE, evs, tys]
      refine Imp.cnd ?_ ?_
      · exact Imp.some (by first | rfl | simp only [seinelaw1_LettersBackE, evs, tys, evl])
      · refine Imp.cnd ?_ ?_
        · refine Imp.cnd ?_ ?_
          · exact Imp.some (by first | rfl | simp only [seinelaw1_LettersBackE, evs, tys, evl])
          · refine Imp.call (f := letters_JoinE) rfl (fun a h => by first | exact letters_Join_spec h | simpa only [evs, tys, evl] using letters_Join_spec h) (fun a => by first | rfl | simp only [letters_JoinE, evk, chks]) fun y10 hy10 => ?_
            try simp only [letters_JoinE, evs, tys]
            refine Imp.cnd ?_ ?_
            · refine Imp.cnd ?_ ?_
              · exact Imp.some (by first | rfl | simp only [seinelaw1_LettersBackE, evs, tys, evl])
              · refine Imp.cnd ?_ ?_
                · exact Imp.some (by first | rfl | simp only [seinelaw1_LettersBackE, evs, tys, evl])
                · refine Imp.call (f := letters_JoinE) rfl (fun a h => by first | exact letters_Join_spec h | simpa only [evs, tys, evl] using letters_Join_spec h) (fun a => by first | rfl | simp only [letters_JoinE, evk, chks]) fun y12 hy12 => ?_
                  try simp only [letters_JoinE, evs, tys]
                  refine Imp.cnd ?_ ?_
                  · refine Imp.cnd ?_ ?_
                    · refine Imp.call (f := seinelaw1_awakeE) rfl (fun a h => by first | exact seinelaw1_awake_spec h | simpa only [evs, tys, evl] using seinelaw1_awake_spec h) (fun a => by first | rfl | simp only [seinelaw1_awakeE, evk, chks]) fun y14 hy14 => ?_
                      try simp only [seinelaw1_awakeE, evs, tys]
                      exact Imp.some (by first | rfl | simp only [seinelaw1_LettersBackE, evs, tys, evl])
                    · exact Imp.some (by first | rfl | simp only [seinelaw1_LettersBackE, evs, tys, evl])
                  · refine Imp.call (f := letters_UnitsE) rfl (fun a h => by first | exact letters_Units_spec h | simpa only [evs, tys, evl] using letters_Units_spec h) (fun a => by first | rfl | simp only [letters_UnitsE, evk, chks]) fun y16 hy16 => ?_
                    try simp only [letters_UnitsE, evs, tys]
                    refine Imp.cnd ?_ ?_
                    · refine Imp.call (f := seinekeep_SameIntsE) rfl (fun a h => by first | exact seinekeep_SameInts_spec h | simpa only [evs, tys, evl] using seinekeep_SameInts_spec h) (fun a => by first | rfl | simp only [seinekeep_SameIntsE, evk, chks]) fun y18 hy18 => ?_
                      try simp only [seinekeep_SameIntsE, evs, tys]
                      refine Imp.cnd ?_ ?_
                      · refine Imp.call (f := seinelaw1_awakeE) rfl (fun a h => by first | exact seinelaw1_awake_spec h | simpa only [evs, tys, evl] using seinelaw1_awake_spec h) (fun a => by first | rfl | simp only [seinelaw1_awakeE, evk, chks]) fun y20 hy20 => ?_
                        try simp only [seinelaw1_awakeE, evs, tys]
                        exact Imp.some (by first | rfl | simp only [seinelaw1_LettersBackE, evs, tys, evl])
                      · exact Imp.some (by first | rfl | simp only [seinelaw1_LettersBackE, evs, tys, evl])
                    · exact Imp.some (by first | rfl | simp only [seinelaw1_LettersBackE, evs, tys, evl])
            · refine Imp.call (f := letters_JoinE) rfl (fun a h => by first | exact letters_Join_spec h | simpa only [evs, tys, evl] using letters_Join_spec h) (fun a => by first | rfl | simp only [letters_JoinE, evk, chks]) fun y22 hy22 => ?_
              try simp only [letters_JoinE, evs, tys]
              refine Imp.cnd ?_ ?_
              · refine Imp.cnd ?_ ?_
                · refine Imp.call (f := seinelaw1_awakeE) rfl (fun a h => by first | exact seinelaw1_awake_spec h | simpa only [evs, tys, evl] using seinelaw1_awake_spec h) (fun a => by first | rfl | simp only [seinelaw1_awakeE, evk, chks]) fun y24 hy24 => ?_
                  try simp only [seinelaw1_awakeE, evs, tys]
                  exact Imp.some (by first | rfl | simp only [seinelaw1_LettersBackE, evs, tys, evl])
                · exact Imp.some (by first | rfl | simp only [seinelaw1_LettersBackE, evs, tys, evl])
              · refine Imp.call (f := letters_UnitsE) rfl (fun a h => by first | exact letters_Units_spec h | simpa only [evs, tys, evl] using letters_Units_spec h) (fun a => by first | rfl | simp only [letters_UnitsE, evk, chks]) fun y26 hy26 => ?_
                try simp only [letters_UnitsE, evs, tys]
                refine Imp.cnd ?_ ?_
                · refine Imp.call (f := seinekeep_SameIntsE) rfl (fun a h => by first | exact seinekeep_SameInts_spec h | simpa only [evs, tys, evl] using seinekeep_SameInts_spec h) (fun a => by first | rfl | simp only [seinekeep_SameIntsE, evk, chks]) fun y28 hy28 => ?_
                  try simp only [seinekeep_SameIntsE, evs, tys]
                  refine Imp.cnd ?_ ?_
                  · refine Imp.call (f := seinelaw1_awakeE) rfl (fun a h => by first | exact seinelaw1_awake_spec h | simpa only [evs, tys, evl] using seinelaw1_awake_spec h) (fun a => by first | rfl | simp only [seinelaw1_awakeE, evk, chks]) fun y30 hy30 => ?_
                    try simp only [seinelaw1_awakeE, evs, tys]
                    exact Imp.some (by first | rfl | simp only [seinelaw1_LettersBackE, evs, tys, evl])
                  · exact Imp.some (by first | rfl | simp only [seinelaw1_LettersBackE, evs, tys, evl])
                · exact Imp.some (by first | rfl | simp only [seinelaw1_LettersBackE, evs, tys, evl])
        · refine Imp.call (f := letters_JoinE) rfl (fun a h => by first | exact letters_Join_spec h | simpa only [evs, tys, evl] using letters_Join_spec h) (fun a => by first | rfl | simp only [letters_JoinE, evk, chks]) fun y32 hy32 => ?_
          try simp only [letters_JoinE, evs, tys]
          refine Imp.cnd ?_ ?_
          · refine Imp.cnd ?_ ?_
            · exact Imp.some (by first | rfl | simp only [seinelaw1_LettersBackE, evs, tys, evl])
            · refine Imp.cnd ?_ ?_
              · exact Imp.some (by first | rfl | simp only [seinelaw1_LettersBackE, evs, tys, evl])
              · refine Imp.call (f := letters_JoinE) rfl (fun a h => by first | exact letters_Join_spec h | simpa only [evs, tys, evl] using letters_Join_spec h) (fun a => by first | rfl | simp only [letters_JoinE, evk, chks]) fun y34 hy34 => ?_
                try simp only [letters_JoinE, evs, tys]
                refine Imp.cnd ?_ ?_
                · refine Imp.cnd ?_ ?_
                  · refine Imp.call (f := seinelaw1_awakeE) rfl (fun a h => by first | exact seinelaw1_awake_spec h | simpa only [evs, tys, evl] using seinelaw1_awake_spec h) (fun a => by first | rfl | simp only [seinelaw1_awakeE, evk, chks]) fun y36 hy36 => ?_
                    try simp only [seinelaw1_awakeE, evs, tys]
                    exact Imp.some (by first | rfl | simp only [seinelaw1_LettersBackE, evs, tys, evl])
                  · exact Imp.some (by first | rfl | simp only [seinelaw1_LettersBackE, evs, tys, evl])
                · refine Imp.call (f := letters_UnitsE) rfl (fun a h => by first | exact letters_Units_spec h | simpa only [evs, tys, evl] using letters_Units_spec h) (fun a => by first | rfl | simp only [letters_UnitsE, evk, chks]) fun y38 hy38 => ?_
                  try simp only [letters_UnitsE, evs, tys]
                  refine Imp.cnd ?_ ?_
                  · refine Imp.call (f := seinekeep_SameIntsE) rfl (fun a h => by first | exact seinekeep_SameInts_spec h | simpa only [evs, tys, evl] using seinekeep_SameInts_spec h) (fun a => by first | rfl | simp only [seinekeep_SameIntsE, evk, chks]) fun y40 hy40 => ?_
                    try simp only [seinekeep_SameIntsE, evs, tys]
                    refine Imp.cnd ?_ ?_
                    · refine Imp.call (f := seinelaw1_awakeE) rfl (fun a h => by first | exact seinelaw1_awake_spec h | simpa only [evs, tys, evl] using seinelaw1_awake_spec h) (fun a => by first | rfl | simp only [seinelaw1_awakeE, evk, chks]) fun y42 hy42 => ?_
                      try simp only [seinelaw1_awakeE, evs, tys]
                      exact Imp.some (by first | rfl | simp only [seinelaw1_LettersBackE, evs, tys, evl])
                    · exact Imp.some (by first | rfl | simp only [seinelaw1_LettersBackE, evs, tys, evl])
                  · exact Imp.some (by first | rfl | simp only [seinelaw1_LettersBackE, evs, tys, evl])
          · refine Imp.call (f := letters_JoinE) rfl (fun a h => by first | exact letters_Join_spec h | simpa only [evs, tys, evl] using letters_Join_spec h) (fun a => by first | rfl | simp only [letters_JoinE, evk, chks]) fun y44 hy44 => ?_
            try simp only [letters_JoinE, evs, tys]
            refine Imp.cnd ?_ ?_
            · refine Imp.cnd ?_ ?_
              · refine Imp.call (f := seinelaw1_awakeE) rfl (fun a h => by first | exact seinelaw1_awake_spec h | simpa only [evs, tys, evl] using seinelaw1_awake_spec h) (fun a => by first | rfl | simp only [seinelaw1_awakeE, evk, chks]) fun y46 hy46 => ?_
                try simp only [seinelaw1_awakeE, evs, tys]
                exact Imp.some (by first | rfl | simp only [seinelaw1_LettersBackE, evs, tys, evl])
              · exact Imp.some (by first | rfl | simp only [seinelaw1_LettersBackE, evs, tys, evl])
            · refine Imp.call (f := letters_UnitsE) rfl (fun a h => by first | exact letters_Units_spec h | simpa only [evs, tys, evl] using letters_Units_spec h) (fun a => by first | rfl | simp only [letters_UnitsE, evk, chks]) fun y48 hy48 => ?_
              try simp only [letters_UnitsE, evs, tys]
              refine Imp.cnd ?_ ?_
              · refine Imp.call (f := seinekeep_SameIntsE) rfl (fun a h => by first | exact seinekeep_SameInts_spec h | simpa only [evs, tys, evl] using seinekeep_SameInts_spec h) (fun a => by first | rfl | simp only [seinekeep_SameIntsE, evk, chks]) fun y50 hy50 => ?_
                try simp only [seinekeep_SameIntsE, evs, tys]
                refine Imp.cnd ?_ ?_
                · refine Imp.call (f := seinelaw1_awakeE) rfl (fun a h => by first | exact seinelaw1_awake_spec h | simpa only [evs, tys, evl] using seinelaw1_awake_spec h) (fun a => by first | rfl | simp only [seinelaw1_awakeE, evk, chks]) fun y52 hy52 => ?_
                  try simp only [seinelaw1_awakeE, evs, tys]
                  exact Imp.some (by first | rfl | simp only [seinelaw1_LettersBackE, evs, tys, evl])
                · exact Imp.some (by first | rfl | simp only [seinelaw1_LettersBackE, evs, tys, evl])
              · exact Imp.some (by first | rfl | simp only [seinelaw1_LettersBackE, evs, tys, evl])
theorem seinelaw1_LettersBack_run {s : Str} {l0 : List Int} {r : Bool} (h : seinelaw1_LettersBack_B s l0 = some r) : seinelaw1_LettersBack s l0 = some r := by
  obtain ⟨v, hv, rfl⟩ := seinelaw1_LettersBack_imp s l0 r h
  exact tO_of (pair_inj seinelaw1_LettersBackEj) (OL_runD seinelaw1_LettersBack_ds rfl rfl Tryd.func7 ((seinelaw1_LettersBack_t1 _ _ s l0).trans hv))

def seinelaw1_LettersSays_T1 (O : Orc) (LP : LBody → LBody) (s : Str) (i : Int) : Option (PV × UP) :=
  cnd (decide ((List.length s : Int) > 3000))
   (callp O 9 [] fun x1 => cnd (chk .bool x1)
   (some ((.bool (boolV x1)), [])) none)
   (callp O 15 [(.str s), (.int .i64 i)] fun x3 => cnd (chk (.tup [(.int .i64), (.int .i64)]) x3)
   (callp O 20 [(.str s), (.int .i64 i)] fun x5 => cnd (chk (.tup [(.int .i64), (.int .i64)]) x5)
   (callp O 18 [(.str s)] fun x7 => cnd (chk (.tup [(.sl false), .bool]) x7)
   (callp O 21 [(.str s)] fun x9 => cnd (chk (.tup [(.sl false), .bool]) x9)
   (cnd ((intV (gt (tupV x3) 0)) == (intV (gt (tupV x5) 0)))
    (cnd ((intV (gt (tupV x3) 1)) == (intV (gt (tupV x5) 1)))
     (callp O 16 [(.str s)] fun x11 => cnd (chk .bool x11)
     (callp O 22 [(.str s)] fun x13 => cnd (chk .bool x13)
     (cnd ((boolV x11) == (boolV x13))
      (callp O 17 [(.str s)] fun x15 => cnd (chk .bool x15)
      (callp O 23 [(.str s)] fun x17 => cnd (chk .bool x17)
      (cnd ((boolV x15) == (boolV x17))
       (callp O 14 [(.str s)] fun x19 => cnd (chk .bool x19)
       (callp O 24 [(.str s)] fun x21 => cnd (chk .bool x21)
       (cnd ((boolV x19) == (boolV x21))
        (cnd ((boolV (gt (tupV x7) 1)) == (boolV (gt (tupV x9) 1)))
         (callp O 19 [(.slice (esV (gt (tupV x7) 0)) [] false), (.slice (esV (gt (tupV x9) 0)) [] false)] fun x23 => cnd (chk .bool x23)
         (cnd (boolV x23)
          (callp O 9 [] fun x25 => cnd (chk .bool x25)
          (some ((.bool (boolV x25)), [])) none)
          (some ((.bool false), []))) none)
         (some ((.bool false), [])))
        (some ((.bool false), []))) none) none)
       (some ((.bool false), []))) none) none)
      (some ((.bool false), []))) none) none)
     (some ((.bool false), [])))
    (some ((.bool false), []))) none) none) none) none)
noncomputable def seinelaw1_LettersSays_B (s : Str) (i : Int) : Option Bool :=
  cnd (decide ((List.length s : Int) > 3000))
   (bnd (seinelaw1_awake) fun y2 =>
   some y2)
   (bnd (letters_Code s i) fun y4 =>
   bnd (seineref1_Code s i) fun y6 =>
   bnd (letters_Units s) fun y8 =>
   bnd (seineref1_Units s) fun y10 =>
   cnd (y4.1 == y6.1)
    (cnd (y4.2 == y6.2)
     (bnd (letters_Good s) fun y12 =>
     bnd (seineref1_Good s) fun y14 =>
     cnd (y12 == y14)
      (bnd (letters_Source s) fun y16 =>
      bnd (seineref1_Source s) fun y18 =>
      cnd (y16 == y18)
       (bnd (letters_Name s) fun y20 =>
       bnd (seineref1_Name s) fun y22 =>
       cnd (y20 == y22)
        (cnd (y8.2 == y10.2)
         (bnd (seinekeep_SameInts y8.1 y10.1) fun y24 =>
         cnd y24
          (bnd (seinelaw1_awake) fun y26 =>
          some y26)
          (some false))
         (some false))
        (some false))
       (some false))
      (some false))
     (some false))
    (some false))
def seinelaw1_LettersSays_ds : Decs := { decs := [(16, .bool), (20, (.tup [(.int .i64), (.int .i64)])), (26, (.tup [(.int .i64), (.int .i64)])), (31, (.tup [(.sl false), .bool])), (36, (.tup [(.sl false), .bool])), (49, .bool), (51, .bool), (56, .bool), (58, .bool), (63, .bool), (65, .bool), (76, .bool), (79, .bool)], ups := [], loops := [] }
set_option maxRecDepth 100000 in
theorem seinelaw1_LettersSays_t1 (O : Orc) (LP : LBody → LBody) (s : Str) (i : Int) : evalBodyD Tryd.prog (MT 8) seinelaw1_LettersSays_ds Tryd.f8.ntmps O LP Tryd.f8 [(.str s), (.int .i64 i)] [] = seinelaw1_LettersSays_T1 O LP s i := by kernel_rfl
theorem seinelaw1_LettersSays_imp (s : Str) (i : Int) : Imp (seinelaw1_LettersSays_B s i) (seinelaw1_LettersSays_T1 O loopLim s i) (fun r v => v = (seinelaw1_LettersSaysE r, [])) := by
  simp only [seinelaw1_LettersSays_B, seinelaw1_LettersSays_T1]
  try simp only [evs, tys]
  refine Imp.cnd ?_ ?_
  · refine Imp.call (f := seinelaw1_awakeE) rfl (fun a h => by first | exact seinelaw1_awake_spec h | simpa only [evs, tys, evl] using seinelaw1_awake_spec h) (fun a => by first | rfl | simp only [seinelaw1_awakeE, evk, chks]) fun y2 hy2 => ?_
    try simp only [seinelaw1_awakeE, evs, tys]
    exact Imp.some (by first | rfl | simp only [seinelaw1_LettersSaysE, evs, tys, evl])
  · refine Imp.call (f := letters_CodeE) rfl (fun a h => by first | exact letters_Code_spec h | simpa only [evs, tys, evl] using letters_Code_spec h) (fun a => by first | rfl | simp only [letters_CodeE, evk, chks]) fun y4 hy4 => ?_
    try simp only [letters_CodeE, evs, tys]
    refine Imp.call (f := seineref1_CodeE) rfl (fun a h => by first | exact seineref1_Code_spec h | simpa only [evs, tys, evl] using seineref1_Code_spec h) (fun a => by first | rfl | simp only [seineref1_CodeE, evk, chks]) fun y6 hy6 => ?_
    try simp only [seineref1_CodeE, evs, tys]
    refine Imp.call (f := letters_UnitsE) rfl (fun a h => by first | exact letters_Units_spec h | simpa only [evs, tys, evl] using letters_Units_spec h) (fun a => by first | rfl | simp only [letters_UnitsE, evk, chks]) fun y8 hy8 => ?_
    try simp only [letters_UnitsE, evs, tys]
    refine Imp.call (f := seineref1_UnitsE) rfl (fun a h => by first | exact seineref1_Units_spec h | simpa only [evs, tys, evl] using seineref1_Units_spec h) (fun a => by first | rfl | simp only [seineref1_UnitsE, evk, chks]) fun y10 hy10 => ?_
    try simp only [seineref1_UnitsE, evs, tys]
    refine Imp.cnd ?_ ?_
    · refine Imp.cnd ?_ ?_
      · refine Imp.call (f := letters_GoodE) rfl (fun a h => by first | exact letters_Good_spec h | simpa only [evs, tys, evl] using letters_Good_spec h) (fun a => by first | rfl | simp only [letters_GoodE, evk, chks]) fun y12 hy12 => ?_
        try simp only [letters_GoodE, evs, tys]
        refine Imp.call (f := seineref1_GoodE) rfl (fun a h => by first | exact seineref1_Good_spec h | simpa only [evs, tys, evl] using seineref1_Good_spec h) (fun a => by first | rfl | simp only [seineref1_GoodE, evk, chks]) fun y14 hy14 => ?_
        try simp only [seineref1_GoodE, evs, tys]
        refine Imp.cnd ?_ ?_
        · refine Imp.call (f := letters_SourceE) rfl (fun a h => by first | exact letters_Source_spec h | simpa only [evs, tys, evl] using letters_Source_spec h) (fun a => by first | rfl | simp only [letters_SourceE, evk, chks]) fun y16 hy16 => ?_
          try simp only [letters_SourceE, evs, tys]
          refine Imp.call (f := seineref1_SourceE) rfl (fun a h => by first | exact seineref1_Source_spec h | simpa only [evs, tys, evl] using seineref1_Source_spec h) (fun a => by first | rfl | simp only [seineref1_SourceE, evk, chks]) fun y18 hy18 => ?_
          try simp only [seineref1_SourceE, evs, tys]
          refine Imp.cnd ?_ ?_
          · refine Imp.call (f := letters_NameE) rfl (fun a h => by first | exact letters_Name_spec h | simpa only [evs, tys, evl] using letters_Name_spec h) (fun a => by first | rfl | simp only [letters_NameE, evk, chks]) fun y20 hy20 => ?_
            try simp only [letters_NameE, evs, tys]
            refine Imp.call (f := seineref1_NameE) rfl (fun a h => by first | exact seineref1_Name_spec h | simpa only [evs, tys, evl] using seineref1_Name_spec h) (fun a => by first | rfl | simp only [seineref1_NameE, evk, chks]) fun y22 hy22 => ?_
            try simp only [seineref1_NameE, evs, tys]
            refine Imp.cnd ?_ ?_
            · refine Imp.cnd ?_ ?_
              · refine Imp.call (f := seinekeep_SameIntsE) rfl (fun a h => by first | exact seinekeep_SameInts_spec h | simpa only [evs, tys, evl] using seinekeep_SameInts_spec h) (fun a => by first | rfl | simp only [seinekeep_SameIntsE, evk, chks]) fun y24 hy24 => ?_
                try simp only [seinekeep_SameIntsE, evs, tys]
                refine Imp.cnd ?_ ?_
                · refine Imp.call (f := seinelaw1_awakeE) rfl (fun a h => by first | exact seinelaw1_awake_spec h | simpa only [evs, tys, evl] using seinelaw1_awake_spec h) (fun a => by first | rfl | simp only [seinelaw1_awakeE, evk, chks]) fun y26 hy26 => ?_
                  try simp only [seinelaw1_awakeE, evs, tys]
                  exact Imp.some (by first | rfl | simp only [seinelaw1_LettersSaysE, evs, tys, evl])
                · exact Imp.some (by first | rfl | simp only [seinelaw1_LettersSaysE, evs, tys, evl])
              · exact Imp.some (by first | rfl | simp only [seinelaw1_LettersSaysE, evs, tys, evl])
            · exact Imp.some (by first | rfl | simp only [seinelaw1_LettersSaysE, evs, tys, evl])
          · exact Imp.some (by first | rfl | simp only [seinelaw1_LettersSaysE, evs, tys, evl])
        · exact Imp.some (by first | rfl | simp only [seinelaw1_LettersSaysE, evs, tys, evl])
      · exact Imp.some (by first | rfl | simp only [seinelaw1_LettersSaysE, evs, tys, evl])
    · exact Imp.some (by first | rfl | simp only [seinelaw1_LettersSaysE, evs, tys, evl])
theorem seinelaw1_LettersSays_run {s : Str} {i : Int} {r : Bool} (h : seinelaw1_LettersSays_B s i = some r) : seinelaw1_LettersSays s i = some r := by
  obtain ⟨v, hv, rfl⟩ := seinelaw1_LettersSays_imp s i r h
  exact tO_of (pair_inj seinelaw1_LettersSaysEj) (OL_runD seinelaw1_LettersSays_ds rfl rfl Tryd.func8 ((seinelaw1_LettersSays_t1 _ _ s i).trans hv))

theorem seinelaw1_awake_run {r : Bool} (n : Nat) (h : evalK Tryd.prog MT XT n 9 [] [] = some (seinelaw1_awakeE r, [])) : seinelaw1_awake = some r := tO_of (pair_inj seinelaw1_awakeEj) (evalK_OL n h)

def letters_Code_T1 (O : Orc) (LP : LBody → LBody) (s : Str) (i : Int) : Option (PV × UP) :=
  cnd (decide (i < 0))
   (some ((.tuple [(.int .i64 0), (.int .i64 0)]), []))
   (cnd (decide (i ≥ (List.length s : Int)))
    (some ((.tuple [(.int .i64 0), (.int .i64 0)]), []))
    (bnd (slcLo 0 (.str s) (.int .i64 i)) fun x1 => cnd (chk .str x1)
    (callp O 29 [(.str (strV x1))] fun x3 => cnd (chk (.tup [(.int .i32), (.int .i64)]) x3)
    (cnd ((intV (gt (tupV x3) 0)) == 65533)
     (cnd (decide ((intV (gt (tupV x3) 1)) < 2))
      (some ((.tuple [(.int .i64 0), (.int .i64 0)]), []))
      (some ((.tuple [(.int .i64 (IntKind.wrap .i64 (intV (gt (tupV x3) 0)))), (.int .i64 (intV (gt (tupV x3) 1)))]), [])))
     (some ((.tuple [(.int .i64 (IntKind.wrap .i64 (intV (gt (tupV x3) 0)))), (.int .i64 (intV (gt (tupV x3) 1)))]), []))) none) none))
noncomputable def letters_Code_B (s : Str) (i : Int) : Option (Int × Int) :=
  cnd (decide (i < 0))
   (some (0, 0))
   (cnd (decide (i ≥ (List.length s : Int)))
    (some (0, 0))
    (bnd (tslc s i (List.length s)) fun y2 =>
    bnd (utf8_DecodeRuneInString y2) fun y4 =>
    cnd (y4.1 == 65533)
     (cnd (decide (y4.2 < 2))
      (some (0, 0))
      (some ((IntKind.wrap .i64 y4.1), y4.2)))
     (some ((IntKind.wrap .i64 y4.1), y4.2))))
def letters_Code_ds : Decs := { decs := [(19, .str), (20, (.tup [(.int .i32), (.int .i64)]))], ups := [], loops := [] }
set_option maxRecDepth 100000 in
theorem letters_Code_t1 (O : Orc) (LP : LBody → LBody) (s : Str) (i : Int) : evalBodyD Tryd.prog (MT 15) letters_Code_ds Tryd.f15.ntmps O LP Tryd.f15 [(.str s), (.int .i64 i)] [] = letters_Code_T1 O LP s i := by kernel_rfl
theorem letters_Code_imp (s : Str) (i : Int) : Imp (letters_Code_B s i) (letters_Code_T1 O loopLim s i) (fun r v => v = (letters_CodeE r, [])) := by
  simp only [letters_Code_B, letters_Code_T1]
  try simp only [evs, tys]
  refine Imp.cnd ?_ ?_
  · exact Imp.some (by first | rfl | simp only [letters_CodeE, evs, tys, evl])
  · refine Imp.cnd ?_ ?_
    · exact Imp.some (by first | rfl | simp only [letters_CodeE, evs, tys, evl])
    · refine Imp.op (f := fun a => .str a) (fun a h => op_sslcLo h) (fun a => rfl) fun y2 hy2 => ?_
      try simp only [evs, tys]
      refine Imp.call (f := utf8_DecodeRuneInStringE) rfl (fun a h => by first | exact utf8_DecodeRuneInString_spec h | simpa only [evs, tys, evl] using utf8_DecodeRuneInString_spec h) (fun a => by first | rfl | simp only [utf8_DecodeRuneInStringE, evk, chks]) fun y4 hy4 => ?_
      try simp only [utf8_DecodeRuneInStringE, evs, tys]
      refine Imp.cnd ?_ ?_
      · refine Imp.cnd ?_ ?_
        · exact Imp.some (by first | rfl | simp only [letters_CodeE, evs, tys, evl])
        · exact Imp.some (by first | rfl | simp only [letters_CodeE, evs, tys, evl])
      · exact Imp.some (by first | rfl | simp only [letters_CodeE, evs, tys, evl])
theorem letters_Code_run {s : Str} {i : Int} {r : Int × Int} (h : letters_Code_B s i = some r) : letters_Code s i = some r := by
  obtain ⟨v, hv, rfl⟩ := letters_Code_imp s i r h
  exact tO_of (pair_inj letters_CodeEj) (OL_runD letters_Code_ds rfl rfl Tryd.func15 ((letters_Code_t1 _ _ s i).trans hv))

def letters_Good_T1 (O : Orc) (LP : LBody → LBody) (s : Str) : Option (PV × UP) :=
  callp O 30 [(.str s)] fun x1 => cnd (chk .bool x1)
  (some ((.bool (boolV x1)), [])) none
noncomputable def letters_Good_B (s : Str) : Option Bool :=
  bnd (utf8_ValidString s) fun y2 =>
  some y2
def letters_Good_ds : Decs := { decs := [(4, .bool)], ups := [], loops := [] }
set_option maxRecDepth 100000 in
theorem letters_Good_t1 (O : Orc) (LP : LBody → LBody) (s : Str) : evalBodyD Tryd.prog (MT 16) letters_Good_ds Tryd.f16.ntmps O LP Tryd.f16 [(.str s)] [] = letters_Good_T1 O LP s := by kernel_rfl
theorem letters_Good_imp (s : Str) : Imp (letters_Good_B s) (letters_Good_T1 O loopLim s) (fun r v => v = (letters_GoodE r, [])) := by
  simp only [letters_Good_B, letters_Good_T1]
  try simp only [evs, tys]
  refine Imp.call (f := utf8_ValidStringE) rfl (fun a h => by first | exact utf8_ValidString_spec h | simpa only [evs, tys, evl] using utf8_ValidString_spec h) (fun a => by first | rfl | simp only [utf8_ValidStringE, evk, chks]) fun y2 hy2 => ?_
  try simp only [utf8_ValidStringE, evs, tys]
  exact Imp.some (by first | rfl | simp only [letters_GoodE, evs, tys, evl])
theorem letters_Good_run {s : Str} {r : Bool} (h : letters_Good_B s = some r) : letters_Good s = some r := by
  obtain ⟨v, hv, rfl⟩ := letters_Good_imp s r h
  exact tO_of (pair_inj letters_GoodEj) (OL_runD letters_Good_ds rfl rfl Tryd.func16 ((letters_Good_t1 _ _ s).trans hv))
end Go.Proofs.YtanjedcndpcgfaaDoor

/- Printed by symgen.py: typed functions of this seat, and why they tell what the program does. -/
set_option linter.unusedVariables false
set_option linter.unusedSimpArgs false
open Go Go.Ev Go.Ev.PV
namespace Go.Proofs.YtanjedcndpcgfaaDoor
def letters_Source_l1 (O : Orc) (LP : LBody → LBody) : LBody := fun s1 s1u => cnd (chkL [.str, .bool, (.int .i64)] s1) (cnd (chkU [] s1u)
  (cnd (decide ((intV (gt s1 2)) < (List.length (strV (gt s1 0)) : Int)))
   (callp O 15 [(.str (strV (gt s1 0))), (.int .i64 (intV (gt s1 2)))] fun x7 => cnd (chk (.tup [(.int .i64), (.int .i64)]) x7)
   (cnd (decide ((intV (gt (tupV x7) 1)) > 0))
    (callp O 31 [(.int .i64 (intV (gt (tupV x7) 0)))] fun x9 => cnd (chk .bool x9)
    (cnd (boolV x9)
     (some (.nrm, [(.str (strV (gt s1 0))), (.bool (boolV (gt s1 1))), (.int .i64 (IntKind.wrap .i64 ((intV (gt s1 2)) + (intV (gt (tupV x7) 1)))))], []))
     (some (.ret, [(.str (strV (gt s1 0))), (.bool false), (.int .i64 (intV (gt s1 2)))], []))) none)
    (some (.ret, [(.str (strV (gt s1 0))), (.bool false), (.int .i64 (intV (gt s1 2)))], []))) none)
   (some (.brk 0, [(.str (strV (gt s1 0))), (.bool (boolV (gt s1 1))), (.int .i64 (intV (gt s1 2)))], []))) none) none
def letters_Source_T1 (O : Orc) (LP : LBody → LBody) (s : Str) : Option (PV × UP) :=
  bnd (LP (letters_Source_l1 O LP) [(.str s), (.bool false), (.int .i64 0)] []) fun y13 =>
  exIs y13.1 (some 0) (cnd (chkL [.str, .bool, (.int .i64)] y13.2.1) (cnd (chkU [] y13.2.2)
   (some ((.bool true), [])) none) none)
  (exIs y13.1 none (cnd (chkL [.str, .bool, (.int .i64)] y13.2.1) (cnd (chkU [] y13.2.2)
   (some ((.bool (boolV (gt y13.2.1 1))), [])) none) none)
  (none))
noncomputable def letters_Source_l1T (s : Str) : Int → Option (Int ⊕ (Unit ⊕ Unit))
  | i_6 =>
  cnd (decide (i_6 < (List.length s : Int)))
   (bnd (letters_Code s i_6) fun y8 =>
   cnd (decide (y8.2 > 0))
    (bnd (letters_sign y8.1) fun y10 =>
    cnd y10
     (some (.inl (IntKind.wrap .i64 (i_6 + y8.2))))
     (some (.inr (.inr ()))))
    (some (.inr (.inr ()))))
   (some (.inr (.inl ())))
abbrev letters_Source_l1R (s : Str) (st : Int) (l : List PV) (u : UP) : Prop := l = [(.str s), (.bool false), (.int .i64 st)] ∧ u = []
abbrev letters_Source_l1X (s : Str) (p : Unit ⊕ Unit) (r : Ex × List PV × UP) : Prop := elim p (fun (p : Unit) => ∃ (i_11 : Int), r = (Ex.brk 0, [(.str s), (.bool false), (.int .i64 i_11)], [])) (fun q2 => (fun (p : Unit) => ∃ (i_12 : Int), r = (Ex.ret, [(.str s), (.bool false), (.int .i64 i_12)], [])) q2)
noncomputable def letters_Source_B (s : Str) : Option Bool :=
  bnd (tloop (letters_Source_l1T s) 0) fun e13_2 => elim e13_2
  (fun p13 =>
   some true)
  (fun p13 =>
  some false)
def letters_Source_ds : Decs := { decs := [(13, (.tup [(.int .i64), (.int .i64)])), (20, .bool)], ups := [], loops := [(2, [], ⟨[.str, .bool, (.int .i64)], [], [(some 0, [.str, .bool, (.int .i64)], []), (none, [.str, .bool, (.int .i64)], [])]⟩)] }
set_option maxRecDepth 100000 in
theorem letters_Source_t1 (O : Orc) (LP : LBody → LBody) (s : Str) : evalBodyD Tryd.prog (MT 17) letters_Source_ds Tryd.f17.ntmps O LP Tryd.f17 [(.str s)] [] = letters_Source_T1 O LP s := by kernel_rfl
theorem letters_Source_l1_ok (s : Str) : ∀ st l u, letters_Source_l1R s st l u → Imp (letters_Source_l1T s st) (letters_Source_l1 O loopLim l u) (StepR (letters_Source_l1R s) (letters_Source_l1X s)) := by
  rintro i_6 l u ⟨rfl, rfl⟩
  simp only [letters_Source_l1T, letters_Source_l1]
  refine Imp.chk rfl (Imp.chk rfl ?_)
  try simp only [evs, tys]
  refine Imp.cnd ?_ ?_
  · refine Imp.call (f := letters_CodeE) rfl (fun a h => by first | exact letters_Code_spec h | simpa only [evs, tys, evl] using letters_Code_spec h) (fun a => by first | rfl | simp only [letters_CodeE, evk, chks]) fun y8 hy8 => ?_
    try simp only [letters_CodeE, evs, tys]
    refine Imp.cnd ?_ ?_
    · refine Imp.call (f := letters_signE) rfl (fun a h => by first | exact letters_sign_spec h | simpa only [evs, tys, evl] using letters_sign_spec h) (fun a => by first | rfl | simp only [letters_signE, evk, chks]) fun y10 hy10 => ?_
      try simp only [letters_signE, evs, tys]
      refine Imp.cnd ?_ ?_
      · exact Imp.some (StepR.next ⟨by first | rfl | simp only [evs, tys, evl], rfl⟩)
      · exact Imp.some (StepR.ret ⟨i_6, by first | rfl | simp only [evs, tys, evl, elim_inl, elim_inr]⟩)
    · exact Imp.some (StepR.ret ⟨i_6, by first | rfl | simp only [evs, tys, evl, elim_inl, elim_inr]⟩)
  · exact Imp.some (StepR.brk ⟨i_6, by first | rfl | simp only [evs, tys, evl, elim_inl, elim_inr]⟩)
theorem letters_Source_imp (s : Str) : Imp (letters_Source_B s) (letters_Source_T1 O loopLim s) (fun r v => v = (letters_SourceE r, [])) := by
  simp only [letters_Source_B, letters_Source_T1]
  try simp only [evs, tys]
  refine Imp.bnd (Imp.loop (letters_Source_l1_ok s) ⟨by first | rfl | simp only [evs, tys, evl], rfl⟩) ?_
  rintro (p | p) vy13 hy13
  · try simp only [elim_inl, elim_inr]
    obtain ⟨i_11, rfl⟩ := hy13
    refine Imp.exHit rfl (Imp.chk rfl (Imp.chk rfl ?_))
    try simp only [evs, tys]
    exact Imp.some (by first | rfl | simp only [letters_SourceE, evs, tys, evl])
  · try simp only [elim_inl, elim_inr]
    obtain ⟨i_12, rfl⟩ := hy13
    refine Imp.exMiss rfl ?_
    refine Imp.exHit rfl (Imp.chk rfl (Imp.chk rfl ?_))
    try simp only [evs, tys]
    exact Imp.some (by first | rfl | simp only [letters_SourceE, evs, tys, evl])
theorem letters_Source_run {s : Str} {r : Bool} (h : letters_Source_B s = some r) : letters_Source s = some r := by
  obtain ⟨v, hv, rfl⟩ := letters_Source_imp s r h
  exact tO_of (pair_inj letters_SourceEj) (OL_runD letters_Source_ds rfl rfl Tryd.func17 ((letters_Source_t1 _ _ s).trans hv))

def letters_Units_l1 (O : Orc) (LP : LBody → LBody) : LBody := fun s1 s1u => cnd (chkL [.str, (.sl true), .bool, (.sl true), (.int .i64)] s1) (cnd (chkU [] s1u)
  (cnd (decide ((intV (gt s1 4)) < (List.length (strV (gt s1 0)) : Int)))
   (callp O 15 [(.str (strV (gt s1 0))), (.int .i64 (intV (gt s1 4)))] fun x10 => cnd (chk (.tup [(.int .i64), (.int .i64)]) x10)
   (cnd ((intV (gt (tupV x10) 1)) == 0)
    (some (.ret, [(.str (strV (gt s1 0))), (.slice [] [] true), (.bool false), (.slice (esV (gt s1 3)) [] true), (.int .i64 (intV (gt s1 4)))], []))
    (cnd (decide ((intV (gt (tupV x10) 0)) ≥ 65536))
     (bnd (apd 1 (.slice (esV (gt s1 3)) [] true) (.slice [(.int .i64 (IntKind.wrap .i64 (55296 + (IntKind.wrap .i64 (Int.tdiv (IntKind.wrap .i64 ((intV (gt (tupV x10) 0)) - 65536)) 1024))))), (.int .i64 (IntKind.wrap .i64 (56320 + (Int.tmod (IntKind.wrap .i64 ((intV (gt (tupV x10) 0)) - 65536)) 1024))))] [] true)) fun x12 => cnd (chk (.sl true) x12)
     (some (.nrm, [(.str (strV (gt s1 0))), (.slice (esV (gt s1 1)) [] true), (.bool (boolV (gt s1 2))), (.slice (esV x12) [] true), (.int .i64 (IntKind.wrap .i64 ((intV (gt s1 4)) + (intV (gt (tupV x10) 1)))))], [])) none)
     (bnd (apd 1 (.slice (esV (gt s1 3)) [] true) (.slice [(.int .i64 (intV (gt (tupV x10) 0)))] [] true)) fun x14 => cnd (chk (.sl true) x14)
     (some (.nrm, [(.str (strV (gt s1 0))), (.slice (esV (gt s1 1)) [] true), (.bool (boolV (gt s1 2))), (.slice (esV x14) [] true), (.int .i64 (IntKind.wrap .i64 ((intV (gt s1 4)) + (intV (gt (tupV x10) 1)))))], [])) none))) none)
   (some (.brk 0, [(.str (strV (gt s1 0))), (.slice (esV (gt s1 1)) [] true), (.bool (boolV (gt s1 2))), (.slice (esV (gt s1 3)) [] true), (.int .i64 (intV (gt s1 4)))], []))) none) none
def letters_Units_T1 (O : Orc) (LP : LBody → LBody) (s : Str) : Option (PV × UP) :=
  bnd (LP (letters_Units_l1 O LP) [(.str s), (.slice [] [] true), (.bool false), (.slice [] [] true), (.int .i64 0)] []) fun y20 =>
  exIs y20.1 (some 0) (cnd (chkL [.str, (.sl true), .bool, (.sl true), (.int .i64)] y20.2.1) (cnd (chkU [] y20.2.2)
   (some ((.tuple [(.slice (esV (gt y20.2.1 3)) [] false), (.bool true)]), [])) none) none)
  (exIs y20.1 none (cnd (chkL [.str, (.sl true), .bool, (.sl true), (.int .i64)] y20.2.1) (cnd (chkU [] y20.2.2)
   (some ((.tuple [(.slice (esV (gt y20.2.1 1)) [] false), (.bool (boolV (gt y20.2.1 2)))]), [])) none) none)
  (none))
noncomputable def letters_Units_l1T (s : Str) : ((List Int) × Int) → Option (((List Int) × Int) ⊕ ((List Int) ⊕ Unit))
  | (l_8, i_9) =>
  cnd (decide (i_9 < (List.length s : Int)))
   (bnd (letters_Code s i_9) fun y11 =>
   cnd (y11.2 == 0)
    (some (.inr (.inr ())))
    (cnd (decide (y11.1 ≥ 65536))
     (bnd (tapp l_8 [(IntKind.wrap .i64 (55296 + (IntKind.wrap .i64 (Int.tdiv (IntKind.wrap .i64 (y11.1 - 65536)) 1024)))), (IntKind.wrap .i64 (56320 + (Int.tmod (IntKind.wrap .i64 (y11.1 - 65536)) 1024)))]) fun y13 =>
     some (.inl (y13, (IntKind.wrap .i64 (i_9 + y11.2)))))
     (bnd (tapp l_8 [y11.1]) fun y15 =>
     some (.inl (y15, (IntKind.wrap .i64 (i_9 + y11.2)))))))
   (some (.inr (.inl l_8)))
abbrev letters_Units_l1R (s : Str) (st : (List Int) × Int) (l : List PV) (u : UP) : Prop := l = [(.str s), (.slice [] [] true), (.bool false), (.slice (List.map (PV.int .i64) st.1) [] true), (.int .i64 st.2)] ∧ u = []
abbrev letters_Units_l1X (s : Str) (p : (List Int) ⊕ Unit) (r : Ex × List PV × UP) : Prop := elim p (fun (p : (List Int)) => ∃ (i_17 : Int), r = (Ex.brk 0, [(.str s), (.slice [] [] true), (.bool false), (.slice (List.map (PV.int .i64) p) [] true), (.int .i64 i_17)], [])) (fun q2 => (fun (p : Unit) => ∃ (l_18 : List Int), ∃ (i_19 : Int), r = (Ex.ret, [(.str s), (.slice [] [] true), (.bool false), (.slice (List.map (PV.int .i64) l_18) [] true), (.int .i64 i_19)], [])) q2)
noncomputable def letters_Units_B (s : Str) : Option ((List Int) × Bool) :=
  bnd (tloop (letters_Units_l1T s) ([], 0)) fun e20_2 => elim e20_2
  (fun l_16 =>
   some (l_16, true))
  (fun p20 =>
  some (([] : List Int), false))
def letters_Units_ds : Decs := { decs := [(15, (.tup [(.int .i64), (.int .i64)])), (21, (.sl true)), (38, (.sl true))], ups := [], loops := [(3, [], ⟨[.str, (.sl true), .bool, (.sl true), (.int .i64)], [], [(some 0, [.str, (.sl true), .bool, (.sl true), (.int .i64)], []), (none, [.str, (.sl true), .bool, (.sl true), (.int .i64)], [])]⟩)] }
set_option maxRecDepth 100000 in
theorem letters_Units_t1 (O : Orc) (LP : LBody → LBody) (s : Str) : evalBodyD Tryd.prog (MT 18) letters_Units_ds Tryd.f18.ntmps O LP Tryd.f18 [(.str s)] [] = letters_Units_T1 O LP s := by kernel_rfl
theorem letters_Units_l1_ok (s : Str) : ∀ st l u, letters_Units_l1R s st l u → Imp (letters_Units_l1T s st) (letters_Units_l1 O loopLim l u) (StepR (letters_Units_l1R s) (letters_Units_l1X s)) := by
  rintro ⟨l_8, i_9⟩ l u ⟨rfl, rfl⟩
  simp only [letters_Units_l1T, letters_Units_l1]
  refine Imp.chk rfl (Imp.chk rfl ?_)
  try simp only [evs, tys]
  refine Imp.cnd ?_ ?_
  · refine Imp.call (f := letters_CodeE) rfl (fun a h => by first | exact letters_Code_spec h | simpa only [evs, tys, evl] using letters_Code_spec h) (fun a => by first | rfl | simp only [letters_CodeE, evk, chks]) fun y11 hy11 => ?_
    try simp only [letters_CodeE, evs, tys]
    refine Imp.cnd ?_ ?_
    · exact Imp.some (StepR.ret ⟨l_8, i_9, by first | rfl | simp only [evs, tys, evl, elim_inl, elim_inr]⟩)
    · refine Imp.cnd ?_ ?_
      · refine Imp.op (f := fun a => .slice (List.map (PV.int .i64) a) [] true) (fun a h => op_apd (enc := (PV.int .i64)) (by first | rfl | simp only [evs, tys, evl]) (by first | rfl | simp only [evs, tys, evl]) (fun a => by first | rfl | simp only [evs, tys, evc]) h) (fun a => rfl) fun y13 hy13 => ?_
        try simp only [evs, tys]
        exact Imp.some (StepR.next ⟨by first | rfl | simp only [evs, tys, evl], rfl⟩)
      · refine Imp.op (f := fun a => .slice (List.map (PV.int .i64) a) [] true) (fun a h => op_apd (enc := (PV.int .i64)) (by first | rfl | simp only [evs, tys, evl]) (by first | rfl | simp only [evs, tys, evl]) (fun a => by first | rfl | simp only [evs, tys, evc]) h) (fun a => rfl) fun y15 hy15 => ?_
        try simp only [evs, tys]
        exact Imp.some (StepR.next ⟨by first | rfl | simp only [evs, tys, evl], rfl⟩)
  · exact Imp.some (StepR.brk ⟨i_9, by first | rfl | simp only [evs, tys, evl, elim_inl, elim_inr]⟩)
theorem letters_Units_imp (s : Str) : Imp (letters_Units_B s) (letters_Units_T1 O loopLim s) (fun r v => v = (letters_UnitsE r, [])) := by
  simp only [letters_Units_B, letters_Units_T1]
  try simp only [evs, tys]
  refine Imp.bnd (Imp.loop (letters_Units_l1_ok s) ⟨by first | rfl | simp only [evs, tys, evl], rfl⟩) ?_
  rintro (l_16 | p) vy20 hy20
  · try simp only [elim_inl, elim_inr]
    obtain ⟨i_17, rfl⟩ := hy20
    refine Imp.exHit rfl (Imp.chk rfl (Imp.chk rfl ?_))
    try simp only [evs, tys]
    exact Imp.some (by first | rfl | simp only [letters_UnitsE, evs, tys, evl])
  · try simp only [elim_inl, elim_inr]
    obtain ⟨l_18, i_19, rfl⟩ := hy20
    refine Imp.exMiss rfl ?_
    refine Imp.exHit rfl (Imp.chk rfl (Imp.chk rfl ?_))
    try simp only [evs, tys]
    exact Imp.some (by first | rfl | simp only [letters_UnitsE, evs, tys, evl])
theorem letters_Units_run {s : Str} {r : (List Int) × Bool} (h : letters_Units_B s = some r) : letters_Units s = some r := by
  obtain ⟨v, hv, rfl⟩ := letters_Units_imp s r h
  exact tO_of (pair_inj letters_UnitsEj) (OL_runD letters_Units_ds rfl rfl Tryd.func18 ((letters_Units_t1 _ _ s).trans hv))

def letters_Join_l1 (O : Orc) (LP : LBody → LBody) : LBody := fun s1 s1u => cnd (chkL [(.sl false), .str, .bool, (.sl true), (.int .i64)] s1) (cnd (chkU [] s1u)
  (cnd (decide ((intV (gt s1 4)) < (List.length (esV (gt s1 0)) : Int)))
   (bnd (ix 1 (.slice (esV (gt s1 0)) [] false) (.int .i64 (intV (gt s1 4)))) fun x30 => cnd (chk (.ref (.int .i64)) x30)
   (cnd (decide ((intV (refV x30)) < 0))
    (some (.ret, [(.slice (esV (gt s1 0)) [] false), (.str []), (.bool false), (.slice (esV (gt s1 3)) [] true), (.int .i64 (intV (gt s1 4)))], []))
    (cnd (decide ((intV (refV x30)) > 65535))
     (some (.ret, [(.slice (esV (gt s1 0)) [] false), (.str []), (.bool false), (.slice (esV (gt s1 3)) [] true), (.int .i64 (intV (gt s1 4)))], []))
     (cnd (decide ((intV (refV x30)) ≥ 56320))
      (cnd (decide ((intV (refV x30)) ≤ 57343))
       (some (.ret, [(.slice (esV (gt s1 0)) [] false), (.str []), (.bool false), (.slice (esV (gt s1 3)) [] true), (.int .i64 (intV (gt s1 4)))], []))
       (cnd (decide ((intV (refV x30)) ≥ 55296))
        (cnd (decide ((intV (refV x30)) < 56320))
         (cnd ((IntKind.wrap .i64 ((intV (gt s1 4)) + 1)) == (List.length (esV (gt s1 0)) : Int))
          (some (.ret, [(.slice (esV (gt s1 0)) [] false), (.str []), (.bool false), (.slice (esV (gt s1 3)) [] true), (.int .i64 (IntKind.wrap .i64 ((intV (gt s1 4)) + 1)))], []))
          (bnd (ix 1 (.slice (esV (gt s1 0)) [] false) (.int .i64 (IntKind.wrap .i64 ((intV (gt s1 4)) + 1)))) fun x32 => cnd (chk (.ref (.int .i64)) x32)
          (cnd (decide ((intV (refV x32)) < 56320))
           (some (.ret, [(.slice (esV (gt s1 0)) [] false), (.str []), (.bool false), (.slice (esV (gt s1 3)) [] true), (.int .i64 (IntKind.wrap .i64 ((intV (gt s1 4)) + 1)))], []))
           (bnd (ix 1 (.slice (esV (gt s1 0)) [] false) (.int .i64 (IntKind.wrap .i64 ((intV (gt s1 4)) + 1)))) fun x34 => cnd (chk (.ref (.int .i64)) x34)
           (cnd (decide ((intV (refV x34)) > 57343))
            (some (.ret, [(.slice (esV (gt s1 0)) [] false), (.str []), (.bool false), (.slice (esV (gt s1 3)) [] true), (.int .i64 (IntKind.wrap .i64 ((intV (gt s1 4)) + 1)))], []))
            (bnd (ix 1 (.slice (esV (gt s1 0)) [] false) (.int .i64 (IntKind.wrap .i64 ((intV (gt s1 4)) + 1)))) fun x36 => cnd (chk (.ref (.int .i64)) x36)
            (callp O 25 [(.slice (esV (gt s1 3)) [] true), (.int .i32 (IntKind.wrap .i32 (IntKind.wrap .i64 ((IntKind.wrap .i64 ((IntKind.wrap .i64 (65536 + (IntKind.wrap .i64 (1024 * (IntKind.wrap .i64 ((intV (refV x30)) - 55296)))))) + (intV (refV x36)))) - 56320))))] fun x38 => cnd (chk (.sl true) x38)
            (some (.nrm, [(.slice (esV (gt s1 0)) [] false), (.str (strV (gt s1 1))), (.bool (boolV (gt s1 2))), (.slice (esV x38) [] true), (.int .i64 (IntKind.wrap .i64 ((IntKind.wrap .i64 ((intV (gt s1 4)) + 1)) + 1)))], [])) none) none)) none)) none))
         (callp O 25 [(.slice (esV (gt s1 3)) [] true), (.int .i32 (IntKind.wrap .i32 (intV (refV x30))))] fun x40 => cnd (chk (.sl true) x40)
         (some (.nrm, [(.slice (esV (gt s1 0)) [] false), (.str (strV (gt s1 1))), (.bool (boolV (gt s1 2))), (.slice (esV x40) [] true), (.int .i64 (IntKind.wrap .i64 ((intV (gt s1 4)) + 1)))], [])) none))
        (callp O 25 [(.slice (esV (gt s1 3)) [] true), (.int .i32 (IntKind.wrap .i32 (intV (refV x30))))] fun x42 => cnd (chk (.sl true) x42)
        (some (.nrm, [(.slice (esV (gt s1 0)) [] false), (.str (strV (gt s1 1))), (.bool (boolV (gt s1 2))), (.slice (esV x42) [] true), (.int .i64 (IntKind.wrap .i64 ((intV (gt s1 4)) + 1)))], [])) none)))
      (cnd (decide ((intV (refV x30)) ≥ 55296))
       (cnd (decide ((intV (refV x30)) < 56320))
        (cnd ((IntKind.wrap .i64 ((intV (gt s1 4)) + 1)) == (List.length (esV (gt s1 0)) : Int))
         (some (.ret, [(.slice (esV (gt s1 0)) [] false), (.str []), (.bool false), (.slice (esV (gt s1 3)) [] true), (.int .i64 (IntKind.wrap .i64 ((intV (gt s1 4)) + 1)))], []))
         (bnd (ix 1 (.slice (esV (gt s1 0)) [] false) (.int .i64 (IntKind.wrap .i64 ((intV (gt s1 4)) + 1)))) fun x44 => cnd (chk (.ref (.int .i64)) x44)
         (cnd (decide ((intV (refV x44)) < 56320))
          (some (.ret, [(.slice (esV (gt s1 0)) [] false), (.str []), (.bool false), (.slice (esV (gt s1 3)) [] true), (.int .i64 (IntKind.wrap .i64 ((intV (gt s1 4)) + 1)))], []))
          (bnd (ix 1 (.slice (esV (gt s1 0)) [] false) (.int .i64 (IntKind.wrap .i64 ((intV (gt s1 4)) + 1)))) fun x46 => cnd (chk (.ref (.int .i64)) x46)
          (cnd (decide ((intV (refV x46)) > 57343))
           (some (.ret, [(.slice (esV (gt s1 0)) [] false), (.str []), (.bool false), (.slice (esV (gt s1 3)) [] true), (.int .i64 (IntKind.wrap .i64 ((intV (gt s1 4)) + 1)))], []))
           (bnd (ix 1 (.slice (esV (gt s1 0)) [] false) (.int .i64 (IntKind.wrap .i64 ((intV (gt s1 4)) + 1)))) fun x48 => cnd (chk (.ref (.int .i64)) x48)
           (callp O 25 [(.slice (esV (gt s1 3)) [] true), (.int .i32 (IntKind.wrap .i32 (IntKind.wrap .i64 ((IntKind.wrap .i64 ((IntKind.wrap .i64 (65536 + (IntKind.wrap .i64 (1024 * (IntKind.wrap .i64 ((intV (refV x30)) - 55296)))))) + (intV (refV x48)))) - 56320))))] fun x50 => cnd (chk (.sl true) x50)
           (some (.nrm, [(.slice (esV (gt s1 0)) [] false), (.str (strV (gt s1 1))), (.bool (boolV (gt s1 2))), (.slice (esV x50) [] true), (.int .i64 (IntKind.wrap .i64 ((IntKind.wrap .i64 ((intV (gt s1 4)) + 1)) + 1)))], [])) none) none)) none)) none))
        (callp O 25 [(.slice (esV (gt s1 3)) [] true), (.int .i32 (IntKind.wrap .i32 (intV (refV x30))))] fun x52 => cnd (chk (.sl true) x52)
        (some (.nrm, [(.slice (esV (gt s1 0)) [] false), (.str (strV (gt s1 1))), (.bool (boolV (gt s1 2))), (.slice (esV x52) [] true), (.int .i64 (IntKind.wrap .i64 ((intV (gt s1 4)) + 1)))], [])) none))
       (callp O 25 [(.slice (esV (gt s1 3)) [] true), (.int .i32 (IntKind.wrap .i32 (intV (refV x30))))] fun x54 => cnd (chk (.sl true) x54)
       (some (.nrm, [(.slice (esV (gt s1 0)) [] false), (.str (strV (gt s1 1))), (.bool (boolV (gt s1 2))), (.slice (esV x54) [] true), (.int .i64 (IntKind.wrap .i64 ((intV (gt s1 4)) + 1)))], [])) none))))) none)
   (some (.brk 0, [(.slice (esV (gt s1 0)) [] false), (.str (strV (gt s1 1))), (.bool (boolV (gt s1 2))), (.slice (esV (gt s1 3)) [] true), (.int .i64 (intV (gt s1 4)))], []))) none) none
def letters_Join_T1 (O : Orc) (LP : LBody → LBody) (units : List Int) : Option (PV × UP) :=
  bnd (LP (letters_Join_l1 O LP) [(.slice (List.map (PV.int .i64) units) [] false), (.str []), (.bool false), (.slice [] [] true), (.int .i64 0)] []) fun y60 =>
  exIs y60.1 (some 0) (cnd (chkL [(.sl false), .str, .bool, (.sl true), (.int .i64)] y60.2.1) (cnd (chkU [] y60.2.2)
   (bnd (toStr (.slice (esV (gt y60.2.1 3)) [] false)) fun x61 => cnd (chk .str x61)
   (some ((.tuple [(.str (strV x61)), (.bool true)]), [])) none) none) none)
  (exIs y60.1 none (cnd (chkL [(.sl false), .str, .bool, (.sl true), (.int .i64)] y60.2.1) (cnd (chkU [] y60.2.2)
   (some ((.tuple [(.str (strV (gt y60.2.1 1))), (.bool (boolV (gt y60.2.1 2)))]), [])) none) none)
  (none))
noncomputable def letters_Join_l1T (units : List Int) : ((List Int) × Int) → Option (((List Int) × Int) ⊕ ((List Int) ⊕ Unit))
  | (b_28, i_29) =>
  cnd (decide (i_29 < (List.length units : Int)))
   (bnd (nthI units i_29) fun y31 =>
   cnd (decide (y31 < 0))
    (some (.inr (.inr ())))
    (cnd (decide (y31 > 65535))
     (some (.inr (.inr ())))
     (cnd (decide (y31 ≥ 56320))
      (cnd (decide (y31 ≤ 57343))
       (some (.inr (.inr ())))
       (cnd (decide (y31 ≥ 55296))
        (cnd (decide (y31 < 56320))
         (cnd ((IntKind.wrap .i64 (i_29 + 1)) == (List.length units : Int))
          (some (.inr (.inr ())))
          (bnd (nthI units (IntKind.wrap .i64 (i_29 + 1))) fun y33 =>
          cnd (decide (y33 < 56320))
           (some (.inr (.inr ())))
           (bnd (nthI units (IntKind.wrap .i64 (i_29 + 1))) fun y35 =>
           cnd (decide (y35 > 57343))
            (some (.inr (.inr ())))
            (bnd (nthI units (IntKind.wrap .i64 (i_29 + 1))) fun y37 =>
            bnd (utf8_AppendRune b_28 (IntKind.wrap .i32 (IntKind.wrap .i64 ((IntKind.wrap .i64 ((IntKind.wrap .i64 (65536 + (IntKind.wrap .i64 (1024 * (IntKind.wrap .i64 (y31 - 55296)))))) + y37)) - 56320)))) fun y39 =>
            some (.inl (y39, (IntKind.wrap .i64 ((IntKind.wrap .i64 (i_29 + 1)) + 1))))))))
         (bnd (utf8_AppendRune b_28 (IntKind.wrap .i32 y31)) fun y41 =>
         some (.inl (y41, (IntKind.wrap .i64 (i_29 + 1))))))
        (bnd (utf8_AppendRune b_28 (IntKind.wrap .i32 y31)) fun y43 =>
        some (.inl (y43, (IntKind.wrap .i64 (i_29 + 1)))))))
      (cnd (decide (y31 ≥ 55296))
       (cnd (decide (y31 < 56320))
        (cnd ((IntKind.wrap .i64 (i_29 + 1)) == (List.length units : Int))
         (some (.inr (.inr ())))
         (bnd (nthI units (IntKind.wrap .i64 (i_29 + 1))) fun y45 =>
         cnd (decide (y45 < 56320))
          (some (.inr (.inr ())))
          (bnd (nthI units (IntKind.wrap .i64 (i_29 + 1))) fun y47 =>
          cnd (decide (y47 > 57343))
           (some (.inr (.inr ())))
           (bnd (nthI units (IntKind.wrap .i64 (i_29 + 1))) fun y49 =>
           bnd (utf8_AppendRune b_28 (IntKind.wrap .i32 (IntKind.wrap .i64 ((IntKind.wrap .i64 ((IntKind.wrap .i64 (65536 + (IntKind.wrap .i64 (1024 * (IntKind.wrap .i64 (y31 - 55296)))))) + y49)) - 56320)))) fun y51 =>
           some (.inl (y51, (IntKind.wrap .i64 ((IntKind.wrap .i64 (i_29 + 1)) + 1))))))))
        (bnd (utf8_AppendRune b_28 (IntKind.wrap .i32 y31)) fun y53 =>
        some (.inl (y53, (IntKind.wrap .i64 (i_29 + 1))))))
       (bnd (utf8_AppendRune b_28 (IntKind.wrap .i32 y31)) fun y55 =>
       some (.inl (y55, (IntKind.wrap .i64 (i_29 + 1)))))))))
   (some (.inr (.inl b_28)))
abbrev letters_Join_l1R (units : List Int) (st : (List Int) × Int) (l : List PV) (u : UP) : Prop := l = [(.slice (List.map (PV.int .i64) units) [] false), (.str []), (.bool false), (.slice (List.map (PV.int .u8) st.1) [] true), (.int .i64 st.2)] ∧ u = []
abbrev letters_Join_l1X (units : List Int) (p : (List Int) ⊕ Unit) (r : Ex × List PV × UP) : Prop := elim p (fun (p : (List Int)) => ∃ (i_57 : Int), r = (Ex.brk 0, [(.slice (List.map (PV.int .i64) units) [] false), (.str []), (.bool false), (.slice (List.map (PV.int .u8) p) [] true), (.int .i64 i_57)], [])) (fun q2 => (fun (p : Unit) => ∃ (b_58 : List Int), ∃ (i_59 : Int), r = (Ex.ret, [(.slice (List.map (PV.int .i64) units) [] false), (.str []), (.bool false), (.slice (List.map (PV.int .u8) b_58) [] true), (.int .i64 i_59)], [])) q2)
noncomputable def letters_Join_B (units : List Int) : Option (Str × Bool) :=
  bnd (tloop (letters_Join_l1T units) ([], 0)) fun e60_2 => elim e60_2
  (fun b_56 =>
   bnd (some (bytesT b_56)) fun y62 =>
   some (y62, true))
  (fun p60 =>
  some ([], false))
def letters_Join_ds : Decs := { decs := [(15, (.ref (.int .i64))), (48, (.ref (.int .i64))), (55, (.ref (.int .i64))), (65, (.ref (.int .i64))), (72, (.sl true)), (74, .str)], ups := [], loops := [(3, [], ⟨[(.sl false), .str, .bool, (.sl true), (.int .i64)], [], [(some 0, [(.sl false), .str, .bool, (.sl true), (.int .i64)], []), (none, [(.sl false), .str, .bool, (.sl true), (.int .i64)], [])]⟩)] }
set_option maxRecDepth 100000 in
theorem letters_Join_t1 (O : Orc) (LP : LBody → LBody) (units : List Int) : evalBodyD Tryd.prog (MT 11) letters_Join_ds Tryd.f11.ntmps O LP Tryd.f11 [(.slice (List.map (PV.int .i64) units) [] false)] [] = letters_Join_T1 O LP units := by kernel_rfl
theorem letters_Join_l1_ok (units : List Int) : ∀ st l u, letters_Join_l1R units st l u → Imp (letters_Join_l1T units st) (letters_Join_l1 O loopLim l u) (StepR (letters_Join_l1R units) (letters_Join_l1X units)) := by
  rintro ⟨b_28, i_29⟩ l u ⟨rfl, rfl⟩
  simp only [letters_Join_l1T, letters_Join_l1]
  refine Imp.chk rfl (Imp.chk rfl ?_)
  try simp only [evs, tys]
  refine Imp.cnd ?_ ?_
  · refine Imp.op (f := fun a => .ref ((PV.int .i64) a)) (fun a h => op_ix (enc := (PV.int .i64)) (by first | rfl | simp only [evs, tys, evl]) ⟨by first | rfl | simp only [evs, tys, evc], by decide⟩ h) (fun a => rfl) fun y31 hy31 => ?_
    try simp only [evs, tys]
    refine Imp.cnd ?_ ?_
    · exact Imp.some (StepR.ret ⟨b_28, i_29, by first | rfl | simp only [evs, tys, evl, elim_inl, elim_inr]⟩)
    · refine Imp.cnd ?_ ?_
      · exact Imp.some (StepR.ret ⟨b_28, i_29, by first | rfl | simp only [evs, tys, evl, elim_inl, elim_inr]⟩)
      · refine Imp.cnd ?_ ?_
        · refine Imp.cnd ?_ ?_
          · exact Imp.some (StepR.ret ⟨b_28, i_29, by first | rfl | simp only [evs, tys, evl, elim_inl, elim_inr]⟩)
          · refine Imp.cnd ?_ ?_
            · refine Imp.cnd ?_ ?_
              · refine Imp.cnd ?_ ?_
                · exact Imp.some (StepR.ret ⟨b_28, (IntKind.wrap .i64 (i_29 + 1)), by first | rfl | simp only [evs, tys, evl, elim_inl, elim_inr]⟩)
                · refine Imp.op (f := fun a => .ref ((PV.int .i64) a)) (fun a h => op_ix (enc := (PV.int .i64)) (by first | rfl | simp only [evs, tys, evl]) ⟨by first | rfl | simp only [evs, tys, evc], by decide⟩ h) (fun a => rfl) fun y33 hy33 => ?_
                  try simp only [evs, tys]
                  refine Imp.cnd ?_ ?_
                  · exact Imp.some (StepR.ret ⟨b_28, (IntKind.wrap .i64 (i_29 + 1)), by first | rfl | simp only [evs, tys, evl, elim_inl, elim_inr]⟩)
                  · refine Imp.op (f := fun a => .ref ((PV.int .i64) a)) (fun a h => op_ix (enc := (PV.int .i64)) (by first | rfl | simp only [evs, tys, evl]) ⟨by first | rfl | simp only [evs, tys, evc], by decide⟩ h) (fun a => rfl) fun y35 hy35 => ?_
                    try simp only [evs, tys]
                    refine Imp.cnd ?_ ?_
                    · exact Imp.some (StepR.ret ⟨b_28, (IntKind.wrap .i64 (i_29 + 1)), by first | rfl | simp only [evs, tys, evl, elim_inl, elim_inr]⟩)
                    · refine Imp.op (f := fun a => .ref ((PV.int .i64) a)) (fun a h => op_ix (enc := (PV.int .i64)) (by first | rfl | simp only [evs, tys, evl]) ⟨by first | rfl | simp only [evs, tys, evc], by decide⟩ h) (fun a => rfl) fun y37 hy37 => ?_
                      try simp only [evs, tys]
                      refine Imp.call (f := utf8_AppendRuneE) rfl (fun a h => by first | exact utf8_AppendRune_spec h | simpa only [evs, tys, evl] using utf8_AppendRune_spec h) (fun a => by first | rfl | simp only [utf8_AppendRuneE, evk, chks]) fun y39 hy39 => ?_
                      try simp only [utf8_AppendRuneE, evs, tys]
                      exact Imp.some (StepR.next ⟨by first | rfl | simp only [evs, tys, evl], rfl⟩)
              · refine Imp.call (f := utf8_AppendRuneE) rfl (fun a h => by first | exact utf8_AppendRune_spec h | simpa only [evs, tys, evl] using utf8_AppendRune_spec h) (fun a => by first | rfl | simp only [utf8_AppendRuneE, evk, chks]) fun y41 hy41 => ?_
                try simp only [utf8_AppendRuneE, evs, tys]
                exact Imp.some (StepR.next ⟨by first | rfl | simp only [evs, tys, evl], rfl⟩)
            · refine Imp.call (f := utf8_AppendRuneE) rfl (fun a h => by first | exact utf8_AppendRune_spec h | simpa only [evs, tys, evl] using utf8_AppendRune_spec h) (fun a => by first | rfl | simp only [utf8_AppendRuneE, evk, chks]) fun y43 hy43 => ?_
              try simp only [utf8_AppendRuneE, evs, tys]
              exact Imp.some (StepR.next ⟨by first | rfl | simp only [evs, tys, evl], rfl⟩)
        · refine Imp.cnd ?_ ?_
          · refine Imp.cnd ?_ ?_
            · refine Imp.cnd ?_ ?_
              · exact Imp.some (StepR.ret ⟨b_28, (IntKind.wrap .i64 (i_29 + 1)), by first | rfl | simp only [evs, tys, evl, elim_inl, elim_inr]⟩)
              · refine Imp.op (f := fun a => .ref ((PV.int .i64) a)) (fun a h => op_ix (enc := (PV.int .i64)) (by first | rfl | simp only [evs, tys, evl]) ⟨by first | rfl | simp only [evs, tys, evc], by decide⟩ h) (fun a => rfl) fun y45 hy45 => ?_
                try simp only [evs, tys]
                refine Imp.cnd ?_ ?_
                · exact Imp.some (StepR.ret ⟨b_28, (IntKind.wrap .i64 (i_29 + 1)), by first | rfl | simp only [evs, tys, evl, elim_inl, elim_inr]⟩)
                · refine Imp.op (f := fun a => .ref ((PV.int .i64) a)) (fun a h => op_ix (enc := (PV.int .i64)) (by first | rfl | simp only [evs, tys, evl]) ⟨by first | rfl | simp only [evs, tys, evc], by decide⟩ h) (fun a => rfl) fun y47 hy47 => ?_
                  try simp only [evs, tys]
                  refine Imp.cnd ?_ ?_
                  · exact Imp.some (StepR.ret ⟨b_28, (IntKind.wrap .i64 (i_29 + 1)), by first | rfl | simp only [evs, tys, evl, elim_inl, elim_inr]⟩)
                  · refine Imp.op (f := fun a => .ref ((PV.int .i64) a)) (fun a h => op_ix (enc := (PV.int .i64)) (by first | rfl | simp only [evs, tys, evl]) ⟨by first | rfl | simp only [evs, tys, evc], by decide⟩ h) (fun a => rfl) fun y49 hy49 => ?_
                    try simp only [evs, tys]
                    refine Imp.call (f := utf8_AppendRuneE) rfl (fun a h => by first | exact utf8_AppendRune_spec h | simpa only [evs, tys, evl] using utf8_AppendRune_spec h) (fun a => by first | rfl | simp only [utf8_AppendRuneE, evk, chks]) fun y51 hy51 => ?_
                    try simp only [utf8_AppendRuneE, evs, tys]
                    exact Imp.some (StepR.next ⟨by first | rfl | simp only [evs, tys, evl], rfl⟩)
            · refine Imp.call (f := utf8_AppendRuneE) rfl (fun a h => by first | exact utf8_AppendRune_spec h | simpa only [evs, tys, evl] using utf8_AppendRune_spec h) (fun a => by first | rfl | simp only [utf8_AppendRuneE, evk, chks]) fun y53 hy53 => ?_
              try simp only [utf8_AppendRuneE, evs, tys]
              exact Imp.some (StepR.next ⟨by first | rfl | simp only [evs, tys, evl], rfl⟩)
          · refine Imp.call (f := utf8_AppendRuneE) rfl (fun a h => by first | exact utf8_AppendRune_spec h | simpa only [evs, tys, evl] using utf8_AppendRune_spec h) (fun a => by first | rfl | simp only [utf8_AppendRuneE, evk, chks]) fun y55 hy55 => ?_
            try simp only [utf8_AppendRuneE, evs, tys]
            exact Imp.some (StepR.next ⟨by first | rfl | simp only [evs, tys, evl], rfl⟩)
  · exact Imp.some (StepR.brk ⟨i_29, by first | rfl | simp only [evs, tys, evl, elim_inl, elim_inr]⟩)
theorem letters_Join_imp (units : List Int) : Imp (letters_Join_B units) (letters_Join_T1 O loopLim units) (fun r v => v = (letters_JoinE r, [])) := by
  simp only [letters_Join_B, letters_Join_T1]
  try simp only [evs, tys]
  refine Imp.bnd (Imp.loop (letters_Join_l1_ok units) ⟨by first | rfl | simp only [evs, tys, evl], rfl⟩) ?_
  rintro (b_56 | p) vy60 hy60
  · try simp only [elim_inl, elim_inr]
    obtain ⟨i_57, rfl⟩ := hy60
    refine Imp.exHit rfl (Imp.chk rfl (Imp.chk rfl ?_))
    try simp only [evs, tys]
    refine Imp.op (f := fun a => .str a) (fun a h => op_toStr (by first | rfl | simp only [evs, tys, evl]) h) (fun a => rfl) fun y62 hy62 => ?_
    try simp only [evs, tys]
    exact Imp.some (by first | rfl | simp only [letters_JoinE, evs, tys, evl])
  · try simp only [elim_inl, elim_inr]
    obtain ⟨b_58, i_59, rfl⟩ := hy60
    refine Imp.exMiss rfl ?_
    refine Imp.exHit rfl (Imp.chk rfl (Imp.chk rfl ?_))
    try simp only [evs, tys]
    exact Imp.some (by first | rfl | simp only [letters_JoinE, evs, tys, evl])
theorem letters_Join_run {units : List Int} {r : Str × Bool} (h : letters_Join_B units = some r) : letters_Join units = some r := by
  obtain ⟨v, hv, rfl⟩ := letters_Join_imp units r h
  exact tO_of (pair_inj letters_JoinEj) (OL_runD letters_Join_ds rfl rfl Tryd.func11 ((letters_Join_t1 _ _ units).trans hv))

def seinekeep_SameInts_l1 (O : Orc) (LP : LBody → LBody) : LBody := fun s1 s1u => cnd (chkL [(.sl false), (.sl false), .bool, (.int .i64)] s1) (cnd (chkU [] s1u)
  (cnd (decide ((intV (gt s1 3)) < (List.length (esV (gt s1 0)) : Int)))
   (bnd (ix 1 (.slice (esV (gt s1 0)) [] false) (.int .i64 (intV (gt s1 3)))) fun x7 => cnd (chk (.ref (.int .i64)) x7)
   (bnd (ix 1 (.slice (esV (gt s1 1)) [] false) (.int .i64 (intV (gt s1 3)))) fun x9 => cnd (chk (.ref (.int .i64)) x9)
   (cnd ((intV (refV x7)) != (intV (refV x9)))
    (some (.ret, [(.slice (esV (gt s1 0)) [] false), (.slice (esV (gt s1 1)) [] false), (.bool false), (.int .i64 (intV (gt s1 3)))], []))
    (some (.nrm, [(.slice (esV (gt s1 0)) [] false), (.slice (esV (gt s1 1)) [] false), (.bool (boolV (gt s1 2))), (.int .i64 (IntKind.wrap .i64 ((intV (gt s1 3)) + 1)))], []))) none) none)
   (some (.brk 0, [(.slice (esV (gt s1 0)) [] false), (.slice (esV (gt s1 1)) [] false), (.bool (boolV (gt s1 2))), (.int .i64 (intV (gt s1 3)))], []))) none) none
def seinekeep_SameInts_T1 (O : Orc) (LP : LBody → LBody) (a : List Int) (b : List Int) : Option (PV × UP) :=
  cnd ((List.length (List.map (PV.int .i64) a) : Int) != (List.length (List.map (PV.int .i64) b) : Int))
   (some ((.bool false), []))
   (bnd (LP (seinekeep_SameInts_l1 O LP) [(.slice (List.map (PV.int .i64) a) [] false), (.slice (List.map (PV.int .i64) b) [] false), (.bool false), (.int .i64 0)] []) fun y13 =>
   exIs y13.1 (some 0) (cnd (chkL [(.sl false), (.sl false), .bool, (.int .i64)] y13.2.1) (cnd (chkU [] y13.2.2)
    (some ((.bool true), [])) none) none)
   (exIs y13.1 none (cnd (chkL [(.sl false), (.sl false), .bool, (.int .i64)] y13.2.1) (cnd (chkU [] y13.2.2)
    (some ((.bool (boolV (gt y13.2.1 2))), [])) none) none)
   (none)))
noncomputable def seinekeep_SameInts_l1T (a : List Int) (b : List Int) : Int → Option (Int ⊕ (Unit ⊕ Unit))
  | i_6 =>
  cnd (decide (i_6 < (List.length a : Int)))
   (bnd (nthI a i_6) fun y8 =>
   bnd (nthI b i_6) fun y10 =>
   cnd (y8 != y10)
    (some (.inr (.inr ())))
    (some (.inl (IntKind.wrap .i64 (i_6 + 1)))))
   (some (.inr (.inl ())))
abbrev seinekeep_SameInts_l1R (a : List Int) (b : List Int) (st : Int) (l : List PV) (u : UP) : Prop := l = [(.slice (List.map (PV.int .i64) a) [] false), (.slice (List.map (PV.int .i64) b) [] false), (.bool false), (.int .i64 st)] ∧ u = []
abbrev seinekeep_SameInts_l1X (a : List Int) (b : List Int) (p : Unit ⊕ Unit) (r : Ex × List PV × UP) : Prop := elim p (fun (p : Unit) => ∃ (i_11 : Int), r = (Ex.brk 0, [(.slice (List.map (PV.int .i64) a) [] false), (.slice (List.map (PV.int .i64) b) [] false), (.bool false), (.int .i64 i_11)], [])) (fun q2 => (fun (p : Unit) => ∃ (i_12 : Int), r = (Ex.ret, [(.slice (List.map (PV.int .i64) a) [] false), (.slice (List.map (PV.int .i64) b) [] false), (.bool false), (.int .i64 i_12)], [])) q2)
noncomputable def seinekeep_SameInts_B (a : List Int) (b : List Int) : Option Bool :=
  cnd ((List.length a : Int) != (List.length b : Int))
   (some false)
   (bnd (tloop (seinekeep_SameInts_l1T a b) 0) fun e13_2 => elim e13_2
   (fun p13 =>
    some true)
   (fun p13 =>
   some false))
def seinekeep_SameInts_ds : Decs := { decs := [(19, (.ref (.int .i64))), (23, (.ref (.int .i64)))], ups := [], loops := [(4, [], ⟨[(.sl false), (.sl false), .bool, (.int .i64)], [], [(some 0, [(.sl false), (.sl false), .bool, (.int .i64)], []), (none, [(.sl false), (.sl false), .bool, (.int .i64)], [])]⟩)] }
set_option maxRecDepth 100000 in
theorem seinekeep_SameInts_t1 (O : Orc) (LP : LBody → LBody) (a : List Int) (b : List Int) : evalBodyD Tryd.prog (MT 19) seinekeep_SameInts_ds Tryd.f19.ntmps O LP Tryd.f19 [(.slice (List.map (PV.int .i64) a) [] false), (.slice (List.map (PV.int .i64) b) [] false)] [] = seinekeep_SameInts_T1 O LP a b := by kernel_rfl
theorem seinekeep_SameInts_l1_ok (a : List Int) (b : List Int) : ∀ st l u, seinekeep_SameInts_l1R a b st l u → Imp (seinekeep_SameInts_l1T a b st) (seinekeep_SameInts_l1 O loopLim l u) (StepR (seinekeep_SameInts_l1R a b) (seinekeep_SameInts_l1X a b)) := by
  rintro i_6 l u ⟨rfl, rfl⟩
  simp only [seinekeep_SameInts_l1T, seinekeep_SameInts_l1]
  refine Imp.chk rfl (Imp.chk rfl ?_)
  try simp only [evs, tys]
  refine Imp.cnd ?_ ?_
  · refine Imp.op (f := fun a => .ref ((PV.int .i64) a)) (fun a h => op_ix (enc := (PV.int .i64)) (by first | rfl | simp only [evs, tys, evl]) ⟨by first | rfl | simp only [evs, tys, evc], by decide⟩ h) (fun a => rfl) fun y8 hy8 => ?_
    try simp only [evs, tys]
    refine Imp.op (f := fun a => .ref ((PV.int .i64) a)) (fun a h => op_ix (enc := (PV.int .i64)) (by first | rfl | simp only [evs, tys, evl]) ⟨by first | rfl | simp only [evs, tys, evc], by decide⟩ h) (fun a => rfl) fun y10 hy10 => ?_
    try simp only [evs, tys]
    refine Imp.cnd ?_ ?_
    · exact Imp.some (StepR.ret ⟨i_6, by first | rfl | simp only [evs, tys, evl, elim_inl, elim_inr]⟩)
    · exact Imp.some (StepR.next ⟨by first | rfl | simp only [evs, tys, evl], rfl⟩)
  · exact Imp.some (StepR.brk ⟨i_6, by first | rfl | simp only [evs, tys, evl, elim_inl, elim_inr]⟩)
theorem seinekeep_SameInts_imp (a : List Int) (b : List Int) : Imp (seinekeep_SameInts_B a b) (seinekeep_SameInts_T1 O loopLim a b) (fun r v => v = (seinekeep_SameIntsE r, [])) := by
  simp only [seinekeep_SameInts_B, seinekeep_SameInts_T1]
  try simp only [evs, tys]
  refine Imp.cnd ?_ ?_
  · exact Imp.some (by first | rfl | simp only [seinekeep_SameIntsE, evs, tys, evl])
  · refine Imp.bnd (Imp.loop (seinekeep_SameInts_l1_ok a b) ⟨by first | rfl | simp only [evs, tys, evl], rfl⟩) ?_
    rintro (p | p) vy13 hy13
    · try simp only [elim_inl, elim_inr]
      obtain ⟨i_11, rfl⟩ := hy13
      refine Imp.exHit rfl (Imp.chk rfl (Imp.chk rfl ?_))
      try simp only [evs, tys]
      exact Imp.some (by first | rfl | simp only [seinekeep_SameIntsE, evs, tys, evl])
    · try simp only [elim_inl, elim_inr]
      obtain ⟨i_12, rfl⟩ := hy13
      refine Imp.exMiss rfl ?_
      refine Imp.exHit rfl (Imp.chk rfl (Imp.chk rfl ?_))
      try simp only [evs, tys]
      exact Imp.some (by first | rfl | simp only [seinekeep_SameIntsE, evs, tys, evl])
theorem seinekeep_SameInts_run {a : List Int} {b : List Int} {r : Bool} (h : seinekeep_SameInts_B a b = some r) : seinekeep_SameInts a b = some r := by
  obtain ⟨v, hv, rfl⟩ := seinekeep_SameInts_imp a b r h
  exact tO_of (pair_inj seinekeep_SameIntsEj) (OL_runD seinekeep_SameInts_ds rfl rfl Tryd.func19 ((seinekeep_SameInts_t1 _ _ a b).trans hv))
end Go.Proofs.YtanjedcndpcgfaaDoor

/- Printed by symgen.py: typed functions of this seat, and why they tell what the program does. -/
set_option linter.unusedVariables false
set_option linter.unusedSimpArgs false
open Go Go.Ev Go.Ev.PV
namespace Go.Proofs.YtanjedcndpcgfaaDoor
def seineref1_Code_l1 (O : Orc) (LP : LBody → LBody) : LBody := fun s3 s3u => cnd (chkL [.str, (.int .i64), (.int .i64), (.int .i64), (.int .i64), (.int .i64), (.int .i64), (.int .i64)] s3) (cnd (chkU [] s3u)
  (cnd (decide ((intV (gt s3 7)) < (intV (gt s3 5))))
   (bnd (ixStr (.str (strV (gt s3 0))) (.int .i64 (IntKind.wrap .i64 ((intV (gt s3 1)) + (intV (gt s3 7)))))) fun x8 => cnd (chk (.int .u8) x8)
   (cnd (decide ((IntKind.wrap .i64 (intV x8)) < 128))
    (some (.ret, [(.str (strV (gt s3 0))), (.int .i64 (intV (gt s3 1))), (.int .i64 0), (.int .i64 0), (.int .i64 (intV (gt s3 4))), (.int .i64 (intV (gt s3 5))), (.int .i64 (intV (gt s3 6))), (.int .i64 (intV (gt s3 7)))], []))
    (cnd (decide ((IntKind.wrap .i64 (intV x8)) > 191))
     (some (.ret, [(.str (strV (gt s3 0))), (.int .i64 (intV (gt s3 1))), (.int .i64 0), (.int .i64 0), (.int .i64 (intV (gt s3 4))), (.int .i64 (intV (gt s3 5))), (.int .i64 (intV (gt s3 6))), (.int .i64 (intV (gt s3 7)))], []))
     (some (.nrm, [(.str (strV (gt s3 0))), (.int .i64 (intV (gt s3 1))), (.int .i64 (intV (gt s3 2))), (.int .i64 (intV (gt s3 3))), (.int .i64 (bits .or .i64 (IntKind.wrap .i64 ((intV (gt s3 4)) * 2 ^ min (Int.toNat 6) 64)) (bits .and .i64 (IntKind.wrap .i64 (intV x8)) 63))), (.int .i64 (intV (gt s3 5))), (.int .i64 (intV (gt s3 6))), (.int .i64 (IntKind.wrap .i64 ((intV (gt s3 7)) + 1)))], [])))) none)
   (some (.brk 1, [(.str (strV (gt s3 0))), (.int .i64 (intV (gt s3 1))), (.int .i64 (intV (gt s3 2))), (.int .i64 (intV (gt s3 3))), (.int .i64 (intV (gt s3 4))), (.int .i64 (intV (gt s3 5))), (.int .i64 (intV (gt s3 6))), (.int .i64 (intV (gt s3 7)))], []))) none) none
def seineref1_Code_l2 (O : Orc) (LP : LBody → LBody) : LBody := fun s15 s15u => cnd (chkL [.str, (.int .i64), (.int .i64), (.int .i64), (.int .i64), (.int .i64), (.int .i64), (.int .i64)] s15) (cnd (chkU [] s15u)
  (cnd (decide ((intV (gt s15 7)) < (intV (gt s15 5))))
   (bnd (ixStr (.str (strV (gt s15 0))) (.int .i64 (IntKind.wrap .i64 ((intV (gt s15 1)) + (intV (gt s15 7)))))) fun x20 => cnd (chk (.int .u8) x20)
   (cnd (decide ((IntKind.wrap .i64 (intV x20)) < 128))
    (some (.ret, [(.str (strV (gt s15 0))), (.int .i64 (intV (gt s15 1))), (.int .i64 0), (.int .i64 0), (.int .i64 (intV (gt s15 4))), (.int .i64 (intV (gt s15 5))), (.int .i64 (intV (gt s15 6))), (.int .i64 (intV (gt s15 7)))], []))
    (cnd (decide ((IntKind.wrap .i64 (intV x20)) > 191))
     (some (.ret, [(.str (strV (gt s15 0))), (.int .i64 (intV (gt s15 1))), (.int .i64 0), (.int .i64 0), (.int .i64 (intV (gt s15 4))), (.int .i64 (intV (gt s15 5))), (.int .i64 (intV (gt s15 6))), (.int .i64 (intV (gt s15 7)))], []))
     (some (.nrm, [(.str (strV (gt s15 0))), (.int .i64 (intV (gt s15 1))), (.int .i64 (intV (gt s15 2))), (.int .i64 (intV (gt s15 3))), (.int .i64 (bits .or .i64 (IntKind.wrap .i64 ((intV (gt s15 4)) * 2 ^ min (Int.toNat 6) 64)) (bits .and .i64 (IntKind.wrap .i64 (intV x20)) 63))), (.int .i64 (intV (gt s15 5))), (.int .i64 (intV (gt s15 6))), (.int .i64 (IntKind.wrap .i64 ((intV (gt s15 7)) + 1)))], [])))) none)
   (some (.brk 1, [(.str (strV (gt s15 0))), (.int .i64 (intV (gt s15 1))), (.int .i64 (intV (gt s15 2))), (.int .i64 (intV (gt s15 3))), (.int .i64 (intV (gt s15 4))), (.int .i64 (intV (gt s15 5))), (.int .i64 (intV (gt s15 6))), (.int .i64 (intV (gt s15 7)))], []))) none) none
def seineref1_Code_l3 (O : Orc) (LP : LBody → LBody) : LBody := fun s27 s27u => cnd (chkL [.str, (.int .i64), (.int .i64), (.int .i64), (.int .i64), (.int .i64), (.int .i64), (.int .i64)] s27) (cnd (chkU [] s27u)
  (cnd (decide ((intV (gt s27 7)) < (intV (gt s27 5))))
   (bnd (ixStr (.str (strV (gt s27 0))) (.int .i64 (IntKind.wrap .i64 ((intV (gt s27 1)) + (intV (gt s27 7)))))) fun x32 => cnd (chk (.int .u8) x32)
   (cnd (decide ((IntKind.wrap .i64 (intV x32)) < 128))
    (some (.ret, [(.str (strV (gt s27 0))), (.int .i64 (intV (gt s27 1))), (.int .i64 0), (.int .i64 0), (.int .i64 (intV (gt s27 4))), (.int .i64 (intV (gt s27 5))), (.int .i64 (intV (gt s27 6))), (.int .i64 (intV (gt s27 7)))], []))
    (cnd (decide ((IntKind.wrap .i64 (intV x32)) > 191))
     (some (.ret, [(.str (strV (gt s27 0))), (.int .i64 (intV (gt s27 1))), (.int .i64 0), (.int .i64 0), (.int .i64 (intV (gt s27 4))), (.int .i64 (intV (gt s27 5))), (.int .i64 (intV (gt s27 6))), (.int .i64 (intV (gt s27 7)))], []))
     (some (.nrm, [(.str (strV (gt s27 0))), (.int .i64 (intV (gt s27 1))), (.int .i64 (intV (gt s27 2))), (.int .i64 (intV (gt s27 3))), (.int .i64 (bits .or .i64 (IntKind.wrap .i64 ((intV (gt s27 4)) * 2 ^ min (Int.toNat 6) 64)) (bits .and .i64 (IntKind.wrap .i64 (intV x32)) 63))), (.int .i64 (intV (gt s27 5))), (.int .i64 (intV (gt s27 6))), (.int .i64 (IntKind.wrap .i64 ((intV (gt s27 7)) + 1)))], [])))) none)
   (some (.brk 1, [(.str (strV (gt s27 0))), (.int .i64 (intV (gt s27 1))), (.int .i64 (intV (gt s27 2))), (.int .i64 (intV (gt s27 3))), (.int .i64 (intV (gt s27 4))), (.int .i64 (intV (gt s27 5))), (.int .i64 (intV (gt s27 6))), (.int .i64 (intV (gt s27 7)))], []))) none) none
def seineref1_Code_l4 (O : Orc) (LP : LBody → LBody) : LBody := fun s39 s39u => cnd (chkL [.str, (.int .i64), (.int .i64), (.int .i64), (.int .i64), (.int .i64), (.int .i64), (.int .i64)] s39) (cnd (chkU [] s39u)
  (cnd (decide ((intV (gt s39 7)) < (intV (gt s39 5))))
   (bnd (ixStr (.str (strV (gt s39 0))) (.int .i64 (IntKind.wrap .i64 ((intV (gt s39 1)) + (intV (gt s39 7)))))) fun x44 => cnd (chk (.int .u8) x44)
   (cnd (decide ((IntKind.wrap .i64 (intV x44)) < 128))
    (some (.ret, [(.str (strV (gt s39 0))), (.int .i64 (intV (gt s39 1))), (.int .i64 0), (.int .i64 0), (.int .i64 (intV (gt s39 4))), (.int .i64 (intV (gt s39 5))), (.int .i64 (intV (gt s39 6))), (.int .i64 (intV (gt s39 7)))], []))
    (cnd (decide ((IntKind.wrap .i64 (intV x44)) > 191))
     (some (.ret, [(.str (strV (gt s39 0))), (.int .i64 (intV (gt s39 1))), (.int .i64 0), (.int .i64 0), (.int .i64 (intV (gt s39 4))), (.int .i64 (intV (gt s39 5))), (.int .i64 (intV (gt s39 6))), (.int .i64 (intV (gt s39 7)))], []))
     (some (.nrm, [(.str (strV (gt s39 0))), (.int .i64 (intV (gt s39 1))), (.int .i64 (intV (gt s39 2))), (.int .i64 (intV (gt s39 3))), (.int .i64 (bits .or .i64 (IntKind.wrap .i64 ((intV (gt s39 4)) * 2 ^ min (Int.toNat 6) 64)) (bits .and .i64 (IntKind.wrap .i64 (intV x44)) 63))), (.int .i64 (intV (gt s39 5))), (.int .i64 (intV (gt s39 6))), (.int .i64 (IntKind.wrap .i64 ((intV (gt s39 7)) + 1)))], [])))) none)
   (some (.brk 1, [(.str (strV (gt s39 0))), (.int .i64 (intV (gt s39 1))), (.int .i64 (intV (gt s39 2))), (.int .i64 (intV (gt s39 3))), (.int .i64 (intV (gt s39 4))), (.int .i64 (intV (gt s39 5))), (.int .i64 (intV (gt s39 6))), (.int .i64 (intV (gt s39 7)))], []))) none) none
def seineref1_Code_l5 (O : Orc) (LP : LBody → LBody) : LBody := fun s51 s51u => cnd (chkL [.str, (.int .i64), (.int .i64), (.int .i64), (.int .i64), (.int .i64), (.int .i64), (.int .i64)] s51) (cnd (chkU [] s51u)
  (cnd (decide ((intV (gt s51 7)) < (intV (gt s51 5))))
   (bnd (ixStr (.str (strV (gt s51 0))) (.int .i64 (IntKind.wrap .i64 ((intV (gt s51 1)) + (intV (gt s51 7)))))) fun x56 => cnd (chk (.int .u8) x56)
   (cnd (decide ((IntKind.wrap .i64 (intV x56)) < 128))
    (some (.ret, [(.str (strV (gt s51 0))), (.int .i64 (intV (gt s51 1))), (.int .i64 0), (.int .i64 0), (.int .i64 (intV (gt s51 4))), (.int .i64 (intV (gt s51 5))), (.int .i64 (intV (gt s51 6))), (.int .i64 (intV (gt s51 7)))], []))
    (cnd (decide ((IntKind.wrap .i64 (intV x56)) > 191))
     (some (.ret, [(.str (strV (gt s51 0))), (.int .i64 (intV (gt s51 1))), (.int .i64 0), (.int .i64 0), (.int .i64 (intV (gt s51 4))), (.int .i64 (intV (gt s51 5))), (.int .i64 (intV (gt s51 6))), (.int .i64 (intV (gt s51 7)))], []))
     (some (.nrm, [(.str (strV (gt s51 0))), (.int .i64 (intV (gt s51 1))), (.int .i64 (intV (gt s51 2))), (.int .i64 (intV (gt s51 3))), (.int .i64 (bits .or .i64 (IntKind.wrap .i64 ((intV (gt s51 4)) * 2 ^ min (Int.toNat 6) 64)) (bits .and .i64 (IntKind.wrap .i64 (intV x56)) 63))), (.int .i64 (intV (gt s51 5))), (.int .i64 (intV (gt s51 6))), (.int .i64 (IntKind.wrap .i64 ((intV (gt s51 7)) + 1)))], [])))) none)
   (some (.brk 1, [(.str (strV (gt s51 0))), (.int .i64 (intV (gt s51 1))), (.int .i64 (intV (gt s51 2))), (.int .i64 (intV (gt s51 3))), (.int .i64 (intV (gt s51 4))), (.int .i64 (intV (gt s51 5))), (.int .i64 (intV (gt s51 6))), (.int .i64 (intV (gt s51 7)))], []))) none) none
def seineref1_Code_l6 (O : Orc) (LP : LBody → LBody) : LBody := fun s63 s63u => cnd (chkL [.str, (.int .i64), (.int .i64), (.int .i64), (.int .i64), (.int .i64), (.int .i64), (.int .i64)] s63) (cnd (chkU [] s63u)
  (cnd (decide ((intV (gt s63 7)) < (intV (gt s63 5))))
   (bnd (ixStr (.str (strV (gt s63 0))) (.int .i64 (IntKind.wrap .i64 ((intV (gt s63 1)) + (intV (gt s63 7)))))) fun x68 => cnd (chk (.int .u8) x68)
   (cnd (decide ((IntKind.wrap .i64 (intV x68)) < 128))
    (some (.ret, [(.str (strV (gt s63 0))), (.int .i64 (intV (gt s63 1))), (.int .i64 0), (.int .i64 0), (.int .i64 (intV (gt s63 4))), (.int .i64 (intV (gt s63 5))), (.int .i64 (intV (gt s63 6))), (.int .i64 (intV (gt s63 7)))], []))
    (cnd (decide ((IntKind.wrap .i64 (intV x68)) > 191))
     (some (.ret, [(.str (strV (gt s63 0))), (.int .i64 (intV (gt s63 1))), (.int .i64 0), (.int .i64 0), (.int .i64 (intV (gt s63 4))), (.int .i64 (intV (gt s63 5))), (.int .i64 (intV (gt s63 6))), (.int .i64 (intV (gt s63 7)))], []))
     (some (.nrm, [(.str (strV (gt s63 0))), (.int .i64 (intV (gt s63 1))), (.int .i64 (intV (gt s63 2))), (.int .i64 (intV (gt s63 3))), (.int .i64 (bits .or .i64 (IntKind.wrap .i64 ((intV (gt s63 4)) * 2 ^ min (Int.toNat 6) 64)) (bits .and .i64 (IntKind.wrap .i64 (intV x68)) 63))), (.int .i64 (intV (gt s63 5))), (.int .i64 (intV (gt s63 6))), (.int .i64 (IntKind.wrap .i64 ((intV (gt s63 7)) + 1)))], [])))) none)
   (some (.brk 1, [(.str (strV (gt s63 0))), (.int .i64 (intV (gt s63 1))), (.int .i64 (intV (gt s63 2))), (.int .i64 (intV (gt s63 3))), (.int .i64 (intV (gt s63 4))), (.int .i64 (intV (gt s63 5))), (.int .i64 (intV (gt s63 6))), (.int .i64 (intV (gt s63 7)))], []))) none) none
def seineref1_Code_l7 (O : Orc) (LP : LBody → LBody) : LBody := fun s75 s75u => cnd (chkL [.str, (.int .i64), (.int .i64), (.int .i64), (.int .i64), (.int .i64), (.int .i64), (.int .i64)] s75) (cnd (chkU [] s75u)
  (cnd (decide ((intV (gt s75 7)) < (intV (gt s75 5))))
   (bnd (ixStr (.str (strV (gt s75 0))) (.int .i64 (IntKind.wrap .i64 ((intV (gt s75 1)) + (intV (gt s75 7)))))) fun x80 => cnd (chk (.int .u8) x80)
   (cnd (decide ((IntKind.wrap .i64 (intV x80)) < 128))
    (some (.ret, [(.str (strV (gt s75 0))), (.int .i64 (intV (gt s75 1))), (.int .i64 0), (.int .i64 0), (.int .i64 (intV (gt s75 4))), (.int .i64 (intV (gt s75 5))), (.int .i64 (intV (gt s75 6))), (.int .i64 (intV (gt s75 7)))], []))
    (cnd (decide ((IntKind.wrap .i64 (intV x80)) > 191))
     (some (.ret, [(.str (strV (gt s75 0))), (.int .i64 (intV (gt s75 1))), (.int .i64 0), (.int .i64 0), (.int .i64 (intV (gt s75 4))), (.int .i64 (intV (gt s75 5))), (.int .i64 (intV (gt s75 6))), (.int .i64 (intV (gt s75 7)))], []))
     (some (.nrm, [(.str (strV (gt s75 0))), (.int .i64 (intV (gt s75 1))), (.int .i64 (intV (gt s75 2))), (.int .i64 (intV (gt s75 3))), (.int .i64 (bits .or .i64 (IntKind.wrap .i64 ((intV (gt s75 4)) * 2 ^ min (Int.toNat 6) 64)) (bits .and .i64 (IntKind.wrap .i64 (intV x80)) 63))), (.int .i64 (intV (gt s75 5))), (.int .i64 (intV (gt s75 6))), (.int .i64 (IntKind.wrap .i64 ((intV (gt s75 7)) + 1)))], [])))) none)
   (some (.brk 1, [(.str (strV (gt s75 0))), (.int .i64 (intV (gt s75 1))), (.int .i64 (intV (gt s75 2))), (.int .i64 (intV (gt s75 3))), (.int .i64 (intV (gt s75 4))), (.int .i64 (intV (gt s75 5))), (.int .i64 (intV (gt s75 6))), (.int .i64 (intV (gt s75 7)))], []))) none) none
def seineref1_Code_T1 (O : Orc) (LP : LBody → LBody) (s : Str) (i : Int) : Option (PV × UP) :=
  cnd (decide (i < 0))
   (some ((.tuple [(.int .i64 0), (.int .i64 0)]), []))
   (cnd (decide (i ≥ (List.length s : Int)))
    (some ((.tuple [(.int .i64 0), (.int .i64 0)]), []))
    (bnd (ixStr (.str s) (.int .i64 i)) fun x1 => cnd (chk (.int .u8) x1)
    (cnd (decide ((IntKind.wrap .i64 (intV x1)) < 128))
     (some ((.tuple [(.int .i64 (IntKind.wrap .i64 (intV x1))), (.int .i64 1)]), []))
     (cnd (decide ((IntKind.wrap .i64 (intV x1)) ≥ 194))
      (cnd (decide ((IntKind.wrap .i64 (intV x1)) < 224))
       (cnd (decide ((2 : Int) > (IntKind.wrap .i64 ((List.length s : Int) - i))))
        (some ((.tuple [(.int .i64 0), (.int .i64 0)]), []))
        (bnd (LP (seineref1_Code_l1 O LP) [(.str s), (.int .i64 i), (.int .i64 0), (.int .i64 0), (.int .i64 (bits .and .i64 (IntKind.wrap .i64 (intV x1)) 31)), (.int .i64 2), (.int .i64 128), (.int .i64 1)] []) fun y14 =>
        exIs y14.1 (some 1) (cnd (chkL [.str, (.int .i64), (.int .i64), (.int .i64), (.int .i64), (.int .i64), (.int .i64), (.int .i64)] y14.2.1) (cnd (chkU [] y14.2.2)
         (cnd (decide ((intV (gt y14.2.1 4)) < (intV (gt y14.2.1 6))))
          (some ((.tuple [(.int .i64 0), (.int .i64 0)]), []))
          (cnd (decide ((intV (gt y14.2.1 4)) > 1114111))
           (some ((.tuple [(.int .i64 0), (.int .i64 0)]), []))
           (cnd (decide ((intV (gt y14.2.1 4)) ≥ 55296))
            (cnd (decide ((intV (gt y14.2.1 4)) < 57344))
             (some ((.tuple [(.int .i64 0), (.int .i64 0)]), []))
             (some ((.tuple [(.int .i64 (intV (gt y14.2.1 4))), (.int .i64 (intV (gt y14.2.1 5)))]), [])))
            (some ((.tuple [(.int .i64 (intV (gt y14.2.1 4))), (.int .i64 (intV (gt y14.2.1 5)))]), []))))) none) none)
        (exIs y14.1 none (cnd (chkL [.str, (.int .i64), (.int .i64), (.int .i64), (.int .i64), (.int .i64), (.int .i64), (.int .i64)] y14.2.1) (cnd (chkU [] y14.2.2)
         (some ((.tuple [(.int .i64 (intV (gt y14.2.1 2))), (.int .i64 (intV (gt y14.2.1 3)))]), [])) none) none)
        (none))))
       (cnd (decide ((IntKind.wrap .i64 (intV x1)) ≥ 224))
        (cnd (decide ((IntKind.wrap .i64 (intV x1)) < 240))
         (cnd (decide ((3 : Int) > (IntKind.wrap .i64 ((List.length s : Int) - i))))
          (some ((.tuple [(.int .i64 0), (.int .i64 0)]), []))
          (bnd (LP (seineref1_Code_l2 O LP) [(.str s), (.int .i64 i), (.int .i64 0), (.int .i64 0), (.int .i64 (bits .and .i64 (IntKind.wrap .i64 (intV x1)) 15)), (.int .i64 3), (.int .i64 2048), (.int .i64 1)] []) fun y26 =>
          exIs y26.1 (some 1) (cnd (chkL [.str, (.int .i64), (.int .i64), (.int .i64), (.int .i64), (.int .i64), (.int .i64), (.int .i64)] y26.2.1) (cnd (chkU [] y26.2.2)
           (cnd (decide ((intV (gt y26.2.1 4)) < (intV (gt y26.2.1 6))))
            (some ((.tuple [(.int .i64 0), (.int .i64 0)]), []))
            (cnd (decide ((intV (gt y26.2.1 4)) > 1114111))
             (some ((.tuple [(.int .i64 0), (.int .i64 0)]), []))
             (cnd (decide ((intV (gt y26.2.1 4)) ≥ 55296))
              (cnd (decide ((intV (gt y26.2.1 4)) < 57344))
               (some ((.tuple [(.int .i64 0), (.int .i64 0)]), []))
               (some ((.tuple [(.int .i64 (intV (gt y26.2.1 4))), (.int .i64 (intV (gt y26.2.1 5)))]), [])))
              (some ((.tuple [(.int .i64 (intV (gt y26.2.1 4))), (.int .i64 (intV (gt y26.2.1 5)))]), []))))) none) none)
          (exIs y26.1 none (cnd (chkL [.str, (.int .i64), (.int .i64), (.int .i64), (.int .i64), (.int .i64), (.int .i64), (.int .i64)] y26.2.1) (cnd (chkU [] y26.2.2)
           (some ((.tuple [(.int .i64 (intV (gt y26.2.1 2))), (.int .i64 (intV (gt y26.2.1 3)))]), [])) none) none)
          (none))))
         (cnd (decide ((IntKind.wrap .i64 (intV x1)) ≥ 240))
          (cnd (decide ((IntKind.wrap .i64 (intV x1)) < 245))
           (cnd (decide ((4 : Int) > (IntKind.wrap .i64 ((List.length s : Int) - i))))
            (some ((.tuple [(.int .i64 0), (.int .i64 0)]), []))
            (bnd (LP (seineref1_Code_l3 O LP) [(.str s), (.int .i64 i), (.int .i64 0), (.int .i64 0), (.int .i64 (bits .and .i64 (IntKind.wrap .i64 (intV x1)) 7)), (.int .i64 4), (.int .i64 65536), (.int .i64 1)] []) fun y38 =>
            exIs y38.1 (some 1) (cnd (chkL [.str, (.int .i64), (.int .i64), (.int .i64), (.int .i64), (.int .i64), (.int .i64), (.int .i64)] y38.2.1) (cnd (chkU [] y38.2.2)
             (cnd (decide ((intV (gt y38.2.1 4)) < (intV (gt y38.2.1 6))))
              (some ((.tuple [(.int .i64 0), (.int .i64 0)]), []))
              (cnd (decide ((intV (gt y38.2.1 4)) > 1114111))
               (some ((.tuple [(.int .i64 0), (.int .i64 0)]), []))
               (cnd (decide ((intV (gt y38.2.1 4)) ≥ 55296))
                (cnd (decide ((intV (gt y38.2.1 4)) < 57344))
                 (some ((.tuple [(.int .i64 0), (.int .i64 0)]), []))
                 (some ((.tuple [(.int .i64 (intV (gt y38.2.1 4))), (.int .i64 (intV (gt y38.2.1 5)))]), [])))
                (some ((.tuple [(.int .i64 (intV (gt y38.2.1 4))), (.int .i64 (intV (gt y38.2.1 5)))]), []))))) none) none)
            (exIs y38.1 none (cnd (chkL [.str, (.int .i64), (.int .i64), (.int .i64), (.int .i64), (.int .i64), (.int .i64), (.int .i64)] y38.2.1) (cnd (chkU [] y38.2.2)
             (some ((.tuple [(.int .i64 (intV (gt y38.2.1 2))), (.int .i64 (intV (gt y38.2.1 3)))]), [])) none) none)
            (none))))
           (some ((.tuple [(.int .i64 0), (.int .i64 0)]), [])))
          (some ((.tuple [(.int .i64 0), (.int .i64 0)]), []))))
        (cnd (decide ((IntKind.wrap .i64 (intV x1)) ≥ 240))
         (cnd (decide ((IntKind.wrap .i64 (intV x1)) < 245))
          (cnd (decide ((4 : Int) > (IntKind.wrap .i64 ((List.length s : Int) - i))))
           (some ((.tuple [(.int .i64 0), (.int .i64 0)]), []))
           (bnd (LP (seineref1_Code_l4 O LP) [(.str s), (.int .i64 i), (.int .i64 0), (.int .i64 0), (.int .i64 (bits .and .i64 (IntKind.wrap .i64 (intV x1)) 7)), (.int .i64 4), (.int .i64 65536), (.int .i64 1)] []) fun y50 =>
           exIs y50.1 (some 1) (cnd (chkL [.str, (.int .i64), (.int .i64), (.int .i64), (.int .i64), (.int .i64), (.int .i64), (.int .i64)] y50.2.1) (cnd (chkU [] y50.2.2)
            (cnd (decide ((intV (gt y50.2.1 4)) < (intV (gt y50.2.1 6))))
             (some ((.tuple [(.int .i64 0), (.int .i64 0)]), []))
             (cnd (decide ((intV (gt y50.2.1 4)) > 1114111))
              (some ((.tuple [(.int .i64 0), (.int .i64 0)]), []))
              (cnd (decide ((intV (gt y50.2.1 4)) ≥ 55296))
               (cnd (decide ((intV (gt y50.2.1 4)) < 57344))
                (some ((.tuple [(.int .i64 0), (.int .i64 0)]), []))
                (some ((.tuple [(.int .i64 (intV (gt y50.2.1 4))), (.int .i64 (intV (gt y50.2.1 5)))]), [])))
               (some ((.tuple [(.int .i64 (intV (gt y50.2.1 4))), (.int .i64 (intV (gt y50.2.1 5)))]), []))))) none) none)
           (exIs y50.1 none (cnd (chkL [.str, (.int .i64), (.int .i64), (.int .i64), (.int .i64), (.int .i64), (.int .i64), (.int .i64)] y50.2.1) (cnd (chkU [] y50.2.2)
            (some ((.tuple [(.int .i64 (intV (gt y50.2.1 2))), (.int .i64 (intV (gt y50.2.1 3)))]), [])) none) none)
           (none))))
          (some ((.tuple [(.int .i64 0), (.int .i64 0)]), [])))
         (some ((.tuple [(.int .i64 0), (.int .i64 0)]), [])))))
      (cnd (decide ((IntKind.wrap .i64 (intV x1)) ≥ 224))
       (cnd (decide ((IntKind.wrap .i64 (intV x1)) < 240))
        (cnd (decide ((3 : Int) > (IntKind.wrap .i64 ((List.length s : Int) - i))))
         (some ((.tuple [(.int .i64 0), (.int .i64 0)]), []))
         (bnd (LP (seineref1_Code_l5 O LP) [(.str s), (.int .i64 i), (.int .i64 0), (.int .i64 0), (.int .i64 (bits .and .i64 (IntKind.wrap .i64 (intV x1)) 15)), (.int .i64 3), (.int .i64 2048), (.int .i64 1)] []) fun y62 =>
         exIs y62.1 (some 1) (cnd (chkL [.str, (.int .i64), (.int .i64), (.int .i64), (.int .i64), (.int .i64), (.int .i64), (.int .i64)] y62.2.1) (cnd (chkU [] y62.2.2)
          (cnd (decide ((intV (gt y62.2.1 4)) < (intV (gt y62.2.1 6))))
           (some ((.tuple [(.int .i64 0), (.int .i64 0)]), []))
           (cnd (decide ((intV (gt y62.2.1 4)) > 1114111))
            (some ((.tuple [(.int .i64 0), (.int .i64 0)]), []))
            (cnd (decide ((intV (gt y62.2.1 4)) ≥ 55296))
             (cnd (decide ((intV (gt y62.2.1 4)) < 57344))
              (some ((.tuple [(.int .i64 0), (.int .i64 0)]), []))
              (some ((.tuple [(.int .i64 (intV (gt y62.2.1 4))), (.int .i64 (intV (gt y62.2.1 5)))]), [])))
             (some ((.tuple [(.int .i64 (intV (gt y62.2.1 4))), (.int .i64 (intV (gt y62.2.1 5)))]), []))))) none) none)
         (exIs y62.1 none (cnd (chkL [.str, (.int .i64), (.int .i64), (.int .i64), (.int .i64), (.int .i64), (.int .i64), (.int .i64)] y62.2.1) (cnd (chkU [] y62.2.2)
          (some ((.tuple [(.int .i64 (intV (gt y62.2.1 2))), (.int .i64 (intV (gt y62.2.1 3)))]), [])) none) none)
         (none))))
        (cnd (decide ((IntKind.wrap .i64 (intV x1)) ≥ 240))
         (cnd (decide ((IntKind.wrap .i64 (intV x1)) < 245))
          (cnd (decide ((4 : Int) > (IntKind.wrap .i64 ((List.length s : Int) - i))))
           (some ((.tuple [(.int .i64 0), (.int .i64 0)]), []))
           (bnd (LP (seineref1_Code_l6 O LP) [(.str s), (.int .i64 i), (.int .i64 0), (.int .i64 0), (.int .i64 (bits .and .i64 (IntKind.wrap .i64 (intV x1)) 7)), (.int .i64 4), (.int .i64 65536), (.int .i64 1)] []) fun y74 =>
           exIs y74.1 (some 1) (cnd (chkL [.str, (.int .i64), (.int .i64), (.int .i64), (.int .i64), (.int .i64), (.int .i64), (.int .i64)] y74.2.1) (cnd (chkU [] y74.2.2)
            (cnd (decide ((intV (gt y74.2.1 4)) < (intV (gt y74.2.1 6))))
             (some ((.tuple [(.int .i64 0), (.int .i64 0)]), []))
             (cnd (decide ((intV (gt y74.2.1 4)) > 1114111))
              (some ((.tuple [(.int .i64 0), (.int .i64 0)]), []))
              (cnd (decide ((intV (gt y74.2.1 4)) ≥ 55296))
               (cnd (decide ((intV (gt y74.2.1 4)) < 57344))
                (some ((.tuple [(.int .i64 0), (.int .i64 0)]), []))
                (some ((.tuple [(.int .i64 (intV (gt y74.2.1 4))), (.int .i64 (intV (gt y74.2.1 5)))]), [])))
               (some ((.tuple [(.int .i64 (intV (gt y74.2.1 4))), (.int .i64 (intV (gt y74.2.1 5)))]), []))))) none) none)
           (exIs y74.1 none (cnd (chkL [.str, (.int .i64), (.int .i64), (.int .i64), (.int .i64), (.int .i64), (.int .i64), (.int .i64)] y74.2.1) (cnd (chkU [] y74.2.2)
            (some ((.tuple [(.int .i64 (intV (gt y74.2.1 2))), (.int .i64 (intV (gt y74.2.1 3)))]), [])) none) none)
           (none))))
          (some ((.tuple [(.int .i64 0), (.int .i64 0)]), [])))
         (some ((.tuple [(.int .i64 0), (.int .i64 0)]), []))))
       (cnd (decide ((IntKind.wrap .i64 (intV x1)) ≥ 240))
        (cnd (decide ((IntKind.wrap .i64 (intV x1)) < 245))
         (cnd (decide ((4 : Int) > (IntKind.wrap .i64 ((List.length s : Int) - i))))
          (some ((.tuple [(.int .i64 0), (.int .i64 0)]), []))
          (bnd (LP (seineref1_Code_l7 O LP) [(.str s), (.int .i64 i), (.int .i64 0), (.int .i64 0), (.int .i64 (bits .and .i64 (IntKind.wrap .i64 (intV x1)) 7)), (.int .i64 4), (.int .i64 65536), (.int .i64 1)] []) fun y86 =>
          exIs y86.1 (some 1) (cnd (chkL [.str, (.int .i64), (.int .i64), (.int .i64), (.int .i64), (.int .i64), (.int .i64), (.int .i64)] y86.2.1) (cnd (chkU [] y86.2.2)
           (cnd (decide ((intV (gt y86.2.1 4)) < (intV (gt y86.2.1 6))))
            (some ((.tuple [(.int .i64 0), (.int .i64 0)]), []))
            (cnd (decide ((intV (gt y86.2.1 4)) > 1114111))
             (some ((.tuple [(.int .i64 0), (.int .i64 0)]), []))
             (cnd (decide ((intV (gt y86.2.1 4)) ≥ 55296))
              (cnd (decide ((intV (gt y86.2.1 4)) < 57344))
               (some ((.tuple [(.int .i64 0), (.int .i64 0)]), []))
               (some ((.tuple [(.int .i64 (intV (gt y86.2.1 4))), (.int .i64 (intV (gt y86.2.1 5)))]), [])))
              (some ((.tuple [(.int .i64 (intV (gt y86.2.1 4))), (.int .i64 (intV (gt y86.2.1 5)))]), []))))) none) none)
          (exIs y86.1 none (cnd (chkL [.str, (.int .i64), (.int .i64), (.int .i64), (.int .i64), (.int .i64), (.int .i64), (.int .i64)] y86.2.1) (cnd (chkU [] y86.2.2)
           (some ((.tuple [(.int .i64 (intV (gt y86.2.1 2))), (.int .i64 (intV (gt y86.2.1 3)))]), [])) none) none)
          (none))))
         (some ((.tuple [(.int .i64 0), (.int .i64 0)]), [])))
        (some ((.tuple [(.int .i64 0), (.int .i64 0)]), [])))))) none))
noncomputable def seineref1_Code_l1T (s : Str) (i : Int) : (Int × Int) → Option ((Int × Int) ⊕ (Int ⊕ Unit))
  | (c_6, k_7) =>
  cnd (decide (k_7 < 2))
   (bnd (nthI s (IntKind.wrap .i64 (i + k_7))) fun y9 =>
   cnd (decide ((IntKind.wrap .i64 (y9.toNat : Int)) < 128))
    (some (.inr (.inr ())))
    (cnd (decide ((IntKind.wrap .i64 (y9.toNat : Int)) > 191))
     (some (.inr (.inr ())))
     (some (.inl ((bits .or .i64 (IntKind.wrap .i64 (c_6 * 2 ^ min (Int.toNat 6) 64)) (bits .and .i64 (IntKind.wrap .i64 (y9.toNat : Int)) 63)), (IntKind.wrap .i64 (k_7 + 1)))))))
   (some (.inr (.inl c_6)))
abbrev seineref1_Code_l1R (s : Str) (i : Int) (st : Int × Int) (l : List PV) (u : UP) : Prop := l = [(.str s), (.int .i64 i), (.int .i64 0), (.int .i64 0), (.int .i64 st.1), (.int .i64 2), (.int .i64 128), (.int .i64 st.2)] ∧ u = []
abbrev seineref1_Code_l1X (s : Str) (i : Int) (p : Int ⊕ Unit) (r : Ex × List PV × UP) : Prop := elim p (fun (p : Int) => ∃ (k_11 : Int), r = (Ex.brk 1, [(.str s), (.int .i64 i), (.int .i64 0), (.int .i64 0), (.int .i64 p), (.int .i64 2), (.int .i64 128), (.int .i64 k_11)], [])) (fun q2 => (fun (p : Unit) => ∃ (c_12 : Int), ∃ (k_13 : Int), r = (Ex.ret, [(.str s), (.int .i64 i), (.int .i64 0), (.int .i64 0), (.int .i64 c_12), (.int .i64 2), (.int .i64 128), (.int .i64 k_13)], [])) q2)
noncomputable def seineref1_Code_l2T (s : Str) (i : Int) : (Int × Int) → Option ((Int × Int) ⊕ (Int ⊕ Unit))
  | (c_18, k_19) =>
  cnd (decide (k_19 < 3))
   (bnd (nthI s (IntKind.wrap .i64 (i + k_19))) fun y21 =>
   cnd (decide ((IntKind.wrap .i64 (y21.toNat : Int)) < 128))
    (some (.inr (.inr ())))
    (cnd (decide ((IntKind.wrap .i64 (y21.toNat : Int)) > 191))
     (some (.inr (.inr ())))
     (some (.inl ((bits .or .i64 (IntKind.wrap .i64 (c_18 * 2 ^ min (Int.toNat 6) 64)) (bits .and .i64 (IntKind.wrap .i64 (y21.toNat : Int)) 63)), (IntKind.wrap .i64 (k_19 + 1)))))))
   (some (.inr (.inl c_18)))
abbrev seineref1_Code_l2R (s : Str) (i : Int) (st : Int × Int) (l : List PV) (u : UP) : Prop := l = [(.str s), (.int .i64 i), (.int .i64 0), (.int .i64 0), (.int .i64 st.1), (.int .i64 3), (.int .i64 2048), (.int .i64 st.2)] ∧ u = []
abbrev seineref1_Code_l2X (s : Str) (i : Int) (p : Int ⊕ Unit) (r : Ex × List PV × UP) : Prop := elim p (fun (p : Int) => ∃ (k_23 : Int), r = (Ex.brk 1, [(.str s), (.int .i64 i), (.int .i64 0), (.int .i64 0), (.int .i64 p), (.int .i64 3), (.int .i64 2048), (.int .i64 k_23)], [])) (fun q2 => (fun (p : Unit) => ∃ (c_24 : Int), ∃ (k_25 : Int), r = (Ex.ret, [(.str s), (.int .i64 i), (.int .i64 0), (.int .i64 0), (.int .i64 c_24), (.int .i64 3), (.int .i64 2048), (.int .i64 k_25)], [])) q2)
noncomputable def seineref1_Code_l3T (s : Str) (i : Int) : (Int × Int) → Option ((Int × Int) ⊕ (Int ⊕ Unit))
  | (c_30, k_31) =>
  cnd (decide (k_31 < 4))
   (bnd (nthI s (IntKind.wrap .i64 (i + k_31))) fun y33 =>
   cnd (decide ((IntKind.wrap .i64 (y33.toNat : Int)) < 128))
    (some (.inr (.inr ())))
    (cnd (decide ((IntKind.wrap .i64 (y33.toNat : Int)) > 191))
     (some (.inr (.inr ())))
     (some (.inl ((bits .or .i64 (IntKind.wrap .i64 (c_30 * 2 ^ min (Int.toNat 6) 64)) (bits .and .i64 (IntKind.wrap .i64 (y33.toNat : Int)) 63)), (IntKind.wrap .i64 (k_31 + 1)))))))
   (some (.inr (.inl c_30)))
abbrev seineref1_Code_l3R (s : Str) (i : Int) (st : Int × Int) (l : List PV) (u : UP) : Prop := l = [(.str s), (.int .i64 i), (.int .i64 0), (.int .i64 0), (.int .i64 st.1), (.int .i64 4), (.int .i64 65536), (.int .i64 st.2)] ∧ u = []
abbrev seineref1_Code_l3X (s : Str) (i : Int) (p : Int ⊕ Unit) (r : Ex × List PV × UP) : Prop := elim p (fun (p : Int) => ∃ (k_35 : Int), r = (Ex.brk 1, [(.str s), (.int .i64 i), (.int .i64 0), (.int .i64 0), (.int .i64 p), (.int .i64 4), (.int .i64 65536), (.int .i64 k_35)], [])) (fun q2 => (fun (p : Unit) => ∃ (c_36 : Int), ∃ (k_37 : Int), r = (Ex.ret, [(.str s), (.int .i64 i), (.int .i64 0), (.int .i64 0), (.int .i64 c_36), (.int .i64 4), (.int .i64 65536), (.int .i64 k_37)], [])) q2)
noncomputable def seineref1_Code_l4T (s : Str) (i : Int) : (Int × Int) → Option ((Int × Int) ⊕ (Int ⊕ Unit))
  | (c_42, k_43) =>
  cnd (decide (k_43 < 4))
   (bnd (nthI s (IntKind.wrap .i64 (i + k_43))) fun y45 =>
   cnd (decide ((IntKind.wrap .i64 (y45.toNat : Int)) < 128))
    (some (.inr (.inr ())))
    (cnd (decide ((IntKind.wrap .i64 (y45.toNat : Int)) > 191))
     (some (.inr (.inr ())))
     (some (.inl ((bits .or .i64 (IntKind.wrap .i64 (c_42 * 2 ^ min (Int.toNat 6) 64)) (bits .and .i64 (IntKind.wrap .i64 (y45.toNat : Int)) 63)), (IntKind.wrap .i64 (k_43 + 1)))))))
   (some (.inr (.inl c_42)))
abbrev seineref1_Code_l4R (s : Str) (i : Int) (st : Int × Int) (l : List PV) (u : UP) : Prop := l = [(.str s), (.int .i64 i), (.int .i64 0), (.int .i64 0), (.int .i64 st.1), (.int .i64 4), (.int .i64 65536), (.int .i64 st.2)] ∧ u = []
abbrev seineref1_Code_l4X (s : Str) (i : Int) (p : Int ⊕ Unit) (r : Ex × List PV × UP) : Prop := elim p (fun (p : Int) => ∃ (k_47 : Int), r = (Ex.brk 1, [(.str s), (.int .i64 i), (.int .i64 0), (.int .i64 0), (.int .i64 p), (.int .i64 4), (.int .i64 65536), (.int .i64 k_47)], [])) (fun q2 => (fun (p : Unit) => ∃ (c_48 : Int), ∃ (k_49 : Int), r = (Ex.ret, [(.str s), (.int .i64 i), (.int .i64 0), (.int .i64 0), (.int .i64 c_48), (.int .i64 4), (.int .i64 65536), (.int .i64 k_49)], [])) q2)
noncomputable def seineref1_Code_l5T (s : Str) (i : Int) : (Int × Int) → Option ((Int × Int) ⊕ (Int ⊕ Unit))
  | (c_54, k_55) =>
  cnd (decide (k_55 < 3))
   (bnd (nthI s (IntKind.wrap .i64 (i + k_55))) fun y57 =>
   cnd (decide ((IntKind.wrap .i64 (y57.toNat : Int)) < 128))
    (some (.inr (.inr ())))
    (cnd (decide ((IntKind.wrap .i64 (y57.toNat : Int)) > 191))
     (some (.inr (.inr ())))
     (some (.inl ((bits .or .i64 (IntKind.wrap .i64 (c_54 * 2 ^ min (Int.toNat 6) 64)) (bits .and .i64 (IntKind.wrap .i64 (y57.toNat : Int)) 63)), (IntKind.wrap .i64 (k_55 + 1)))))))
   (some (.inr (.inl c_54)))
abbrev seineref1_Code_l5R (s : Str) (i : Int) (st : Int × Int) (l : List PV) (u : UP) : Prop := l = [(.str s), (.int .i64 i), (.int .i64 0), (.int .i64 0), (.int .i64 st.1), (.int .i64 3), (.int .i64 2048), (.int .i64 st.2)] ∧ u = []
abbrev seineref1_Code_l5X (s : Str) (i : Int) (p : Int ⊕ Unit) (r : Ex × List PV × UP) : Prop := elim p (fun (p : Int) => ∃ (k_59 : Int), r = (Ex.brk 1, [(.str s), (.int .i64 i), (.int .i64 0), (.int .i64 0), (.int .i64 p), (.int .i64 3), (.int .i64 2048), (.int .i64 k_59)], [])) (fun q2 => (fun (p : Unit) => ∃ (c_60 : Int), ∃ (k_61 : Int), r = (Ex.ret, [(.str s), (.int .i64 i), (.int .i64 0), (.int .i64 0), (.int .i64 c_60), (.int .i64 3), (.int .i64 2048), (.int .i64 k_61)], [])) q2)
noncomputable def seineref1_Code_l6T (s : Str) (i : Int) : (Int × Int) → Option ((Int × Int) ⊕ (Int ⊕ Unit))
  | (c_66, k_67) =>
  cnd (decide (k_67 < 4))
   (bnd (nthI s (IntKind.wrap .i64 (i + k_67))) fun y69 =>
   cnd (decide ((IntKind.wrap .i64 (y69.toNat : Int)) < 128))
    (some (.inr (.inr ())))
    (cnd (decide ((IntKind.wrap .i64 (y69.toNat : Int)) > 191))
     (some (.inr (.inr ())))
     (some (.inl ((bits .or .i64 (IntKind.wrap .i64 (c_66 * 2 ^ min (Int.toNat 6) 64)) (bits .and .i64 (IntKind.wrap .i64 (y69.toNat : Int)) 63)), (IntKind.wrap .i64 (k_67 + 1)))))))
   (some (.inr (.inl c_66)))
abbrev seineref1_Code_l6R (s : Str) (i : Int) (st : Int × Int) (l : List PV) (u : UP) : Prop := l = [(.str s), (.int .i64 i), (.int .i64 0), (.int .i64 0), (.int .i64 st.1), (.int .i64 4), (.int .i64 65536), (.int .i64 st.2)] ∧ u = []
abbrev seineref1_Code_l6X (s : Str) (i : Int) (p : Int ⊕ Unit) (r : Ex × List PV × UP) : Prop := elim p (fun (p : Int) => ∃ (k_71 : Int), r = (Ex.brk 1, [(.str s), (.int .i64 i), (.int .i64 0), (.int .i64 0), (.int .i64 p), (.int .i64 4), (.int .i64 65536), (.int .i64 k_71)], [])) (fun q2 => (fun (p : Unit) => ∃ (c_72 : Int), ∃ (k_73 : Int), r = (Ex.ret, [(.str s), (.int .i64 i), (.int .i64 0), (.int .i64 0), (.int .i64 c_72), (.int .i64 4), (.int .i64 65536), (.int .i64 k_73)], [])) q2)
noncomputable def seineref1_Code_l7T (s : Str) (i : Int) : (Int × Int) → Option ((Int × Int) ⊕ (Int ⊕ Unit))
  | (c_78, k_79) =>
  cnd (decide (k_79 < 4))
   (bnd (nthI s (IntKind.wrap .i64 (i + k_79))) fun y81 =>
   cnd (decide ((IntKind.wrap .i64 (y81.toNat : Int)) < 128))
    (some (.inr (.inr ())))
    (cnd (decide ((IntKind.wrap .i64 (y81.toNat : Int)) > 191))
     (some (.inr (.inr ())))
     (some (.inl ((bits .or .i64 (IntKind.wrap .i64 (c_78 * 2 ^ min (Int.toNat 6) 64)) (bits .and .i64 (IntKind.wrap .i64 (y81.toNat : Int)) 63)), (IntKind.wrap .i64 (k_79 + 1)))))))
   (some (.inr (.inl c_78)))
abbrev seineref1_Code_l7R (s : Str) (i : Int) (st : Int × Int) (l : List PV) (u : UP) : Prop := l = [(.str s), (.int .i64 i), (.int .i64 0), (.int .i64 0), (.int .i64 st.1), (.int .i64 4), (.int .i64 65536), (.int .i64 st.2)] ∧ u = []
abbrev seineref1_Code_l7X (s : Str) (i : Int) (p : Int ⊕ Unit) (r : Ex × List PV × UP) : Prop := elim p (fun (p : Int) => ∃ (k_83 : Int), r = (Ex.brk 1, [(.str s), (.int .i64 i), (.int .i64 0), (.int .i64 0), (.int .i64 p), (.int .i64 4), (.int .i64 65536), (.int .i64 k_83)], [])) (fun q2 => (fun (p : Unit) => ∃ (c_84 : Int), ∃ (k_85 : Int), r = (Ex.ret, [(.str s), (.int .i64 i), (.int .i64 0), (.int .i64 0), (.int .i64 c_84), (.int .i64 4), (.int .i64 65536), (.int .i64 k_85)], [])) q2)
noncomputable def seineref1_Code_B (s : Str) (i : Int) : Option (Int × Int) :=
  cnd (decide (i < 0))
   (some (0, 0))
   (cnd (decide (i ≥ (List.length s : Int)))
    (some (0, 0))
    (bnd (nthI s i) fun y2 =>
    cnd (decide ((IntKind.wrap .i64 (y2.toNat : Int)) < 128))
     (some ((IntKind.wrap .i64 (y2.toNat : Int)), 1))
     (cnd (decide ((IntKind.wrap .i64 (y2.toNat : Int)) ≥ 194))
      (cnd (decide ((IntKind.wrap .i64 (y2.toNat : Int)) < 224))
       (cnd (decide ((2 : Int) > (IntKind.wrap .i64 ((List.length s : Int) - i))))
        (some (0, 0))
        (bnd (tloop (seineref1_Code_l1T s i) ((bits .and .i64 (IntKind.wrap .i64 (y2.toNat : Int)) 31), 1)) fun e14_2 => elim e14_2
        (fun c_10 =>
         cnd (decide (c_10 < 128))
          (some (0, 0))
          (cnd (decide (c_10 > 1114111))
           (some (0, 0))
           (cnd (decide (c_10 ≥ 55296))
            (cnd (decide (c_10 < 57344))
             (some (0, 0))
             (some (c_10, 2)))
            (some (c_10, 2)))))
        (fun p14 =>
        some (0, 0))))
       (cnd (decide ((IntKind.wrap .i64 (y2.toNat : Int)) ≥ 224))
        (cnd (decide ((IntKind.wrap .i64 (y2.toNat : Int)) < 240))
         (cnd (decide ((3 : Int) > (IntKind.wrap .i64 ((List.length s : Int) - i))))
          (some (0, 0))
          (bnd (tloop (seineref1_Code_l2T s i) ((bits .and .i64 (IntKind.wrap .i64 (y2.toNat : Int)) 15), 1)) fun e26_2 => elim e26_2
          (fun c_22 =>
           cnd (decide (c_22 < 2048))
            (some (0, 0))
            (cnd (decide (c_22 > 1114111))
             (some (0, 0))
             (cnd (decide (c_22 ≥ 55296))
              (cnd (decide (c_22 < 57344))
               (some (0, 0))
               (some (c_22, 3)))
              (some (c_22, 3)))))
          (fun p26 =>
          some (0, 0))))
         (cnd (decide ((IntKind.wrap .i64 (y2.toNat : Int)) ≥ 240))
          (cnd (decide ((IntKind.wrap .i64 (y2.toNat : Int)) < 245))
           (cnd (decide ((4 : Int) > (IntKind.wrap .i64 ((List.length s : Int) - i))))
            (some (0, 0))
            (bnd (tloop (seineref1_Code_l3T s i) ((bits .and .i64 (IntKind.wrap .i64 (y2.toNat : Int)) 7), 1)) fun e38_2 => elim e38_2
            (fun c_34 =>
             cnd (decide (c_34 < 65536))
              (some (0, 0))
              (cnd (decide (c_34 > 1114111))
               (some (0, 0))
               (cnd (decide (c_34 ≥ 55296))
                (cnd (decide (c_34 < 57344))
                 (some (0, 0))
                 (some (c_34, 4)))
                (some (c_34, 4)))))
            (fun p38 =>
            some (0, 0))))
           (some (0, 0)))
          (some (0, 0))))
        (cnd (decide ((IntKind.wrap .i64 (y2.toNat : Int)) ≥ 240))
         (cnd (decide ((IntKind.wrap .i64 (y2.toNat : Int)) < 245))
          (cnd (decide ((4 : Int) > (IntKind.wrap .i64 ((List.length s : Int) - i))))
           (some (0, 0))
           (bnd (tloop (seineref1_Code_l4T s i) ((bits .and .i64 (IntKind.wrap .i64 (y2.toNat : Int)) 7), 1)) fun e50_2 => elim e50_2
           (fun c_46 =>
            cnd (decide (c_46 < 65536))
             (some (0, 0))
             (cnd (decide (c_46 > 1114111))
              (some (0, 0))
              (cnd (decide (c_46 ≥ 55296))
               (cnd (decide (c_46 < 57344))
                (some (0, 0))
                (some (c_46, 4)))
               (some (c_46, 4)))))
           (fun p50 =>
           some (0, 0))))
          (some (0, 0)))
         (some (0, 0)))))
      (cnd (decide ((IntKind.wrap .i64 (y2.toNat : Int)) ≥ 224))
       (cnd (decide ((IntKind.wrap .i64 (y2.toNat : Int)) < 240))
        (cnd (decide ((3 : Int) > (IntKind.wrap .i64 ((List.length s : Int) - i))))
         (some (0, 0))
         (bnd (tloop (seineref1_Code_l5T s i) ((bits .and .i64 (IntKind.wrap .i64 (y2.toNat : Int)) 15), 1)) fun e62_2 => elim e62_2
         (fun c_58 =>
          cnd (decide (c_58 < 2048))
           (some (0, 0))
           (cnd (decide (c_58 > 1114111))
            (some (0, 0))
            (cnd (decide (c_58 ≥ 55296))
             (cnd (decide (c_58 < 57344))
              (some (0, 0))
              (some (c_58, 3)))
             (some (c_58, 3)))))
         (fun p62 =>
         some (0, 0))))
        (cnd (decide ((IntKind.wrap .i64 (y2.toNat : Int)) ≥ 240))
         (cnd (decide ((IntKind.wrap .i64 (y2.toNat : Int)) < 245))
          (cnd (decide ((4 : Int) > (IntKind.wrap .i64 ((List.length s : Int) - i))))
           (some (0, 0))
           (bnd (tloop (seineref1_Code_l6T s i) ((bits .and .i64 (IntKind.wrap .i64 (y2.toNat : Int)) 7), 1)) fun e74_2 => elim e74_2
           (fun c_70 =>
            cnd (decide (c_70 < 65536))
             (some (0, 0))
             (cnd (decide (c_70 > 1114111))
              (some (0, 0))
              (cnd (decide (c_70 ≥ 55296))
               (cnd (decide (c_70 < 57344))
                (some (0, 0))
                (some (c_70, 4)))
               (some (c_70, 4)))))
           (fun p74 =>
           some (0, 0))))
          (some (0, 0)))
         (some (0, 0))))
       (cnd (decide ((IntKind.wrap .i64 (y2.toNat : Int)) ≥ 240))
        (cnd (decide ((IntKind.wrap .i64 (y2.toNat : Int)) < 245))
         (cnd (decide ((4 : Int) > (IntKind.wrap .i64 ((List.length s : Int) - i))))
          (some (0, 0))
          (bnd (tloop (seineref1_Code_l7T s i) ((bits .and .i64 (IntKind.wrap .i64 (y2.toNat : Int)) 7), 1)) fun e86_2 => elim e86_2
          (fun c_82 =>
           cnd (decide (c_82 < 65536))
            (some (0, 0))
            (cnd (decide (c_82 > 1114111))
             (some (0, 0))
             (cnd (decide (c_82 ≥ 55296))
              (cnd (decide (c_82 < 57344))
               (some (0, 0))
               (some (c_82, 4)))
              (some (c_82, 4)))))
          (fun p86 =>
          some (0, 0))))
         (some (0, 0)))
        (some (0, 0)))))))
def seineref1_Code_ds : Decs := { decs := [(21, (.int .u8)), (68, (.int .u8))], ups := [], loops := [(17, [], ⟨[.str, (.int .i64), (.int .i64), (.int .i64), (.int .i64), (.int .i64), (.int .i64), (.int .i64)], [], [(some 1, [.str, (.int .i64), (.int .i64), (.int .i64), (.int .i64), (.int .i64), (.int .i64), (.int .i64)], []), (none, [.str, (.int .i64), (.int .i64), (.int .i64), (.int .i64), (.int .i64), (.int .i64), (.int .i64)], [])]⟩)] }
set_option maxRecDepth 100000 in
theorem seineref1_Code_t1 (O : Orc) (LP : LBody → LBody) (s : Str) (i : Int) : evalBodyD Tryd.prog (MT 20) seineref1_Code_ds Tryd.f20.ntmps O LP Tryd.f20 [(.str s), (.int .i64 i)] [] = seineref1_Code_T1 O LP s i := by kernel_rfl
theorem seineref1_Code_l1_ok (s : Str) (i : Int) : ∀ st l u, seineref1_Code_l1R s i st l u → Imp (seineref1_Code_l1T s i st) (seineref1_Code_l1 O loopLim l u) (StepR (seineref1_Code_l1R s i) (seineref1_Code_l1X s i)) := by
  rintro ⟨c_6, k_7⟩ l u ⟨rfl, rfl⟩
  simp only [seineref1_Code_l1T, seineref1_Code_l1]
  refine Imp.chk rfl (Imp.chk rfl ?_)
  try simp only [evs, tys]
  refine Imp.cnd ?_ ?_
  · refine Imp.op (f := fun a => .int .u8 (a.toNat : Int)) (fun a h => op_ixStr h) (fun a => rfl) fun y9 hy9 => ?_
    try simp only [evs, tys]
    refine Imp.cnd ?_ ?_
    · exact Imp.some (StepR.ret ⟨c_6, k_7, by first | rfl | simp only [evs, tys, evl, elim_inl, elim_inr]⟩)
    · refine Imp.cnd ?_ ?_
      · exact Imp.some (StepR.ret ⟨c_6, k_7, by first | rfl | simp only [evs, tys, evl, elim_inl, elim_inr]⟩)
      · exact Imp.some (StepR.next ⟨by first | rfl | simp only [evs, tys, evl], rfl⟩)
  · exact Imp.some (StepR.brk ⟨k_7, by first | rfl | simp only [evs, tys, evl, elim_inl, elim_inr]⟩)
theorem seineref1_Code_l2_ok (s : Str) (i : Int) : ∀ st l u, seineref1_Code_l2R s i st l u → Imp (seineref1_Code_l2T s i st) (seineref1_Code_l2 O loopLim l u) (StepR (seineref1_Code_l2R s i) (seineref1_Code_l2X s i)) := by
  rintro ⟨c_18, k_19⟩ l u ⟨rfl, rfl⟩
  simp only [seineref1_Code_l2T, seineref1_Code_l2]
  refine Imp.chk rfl (Imp.chk rfl ?_)
  try simp only [evs, tys]
  refine Imp.cnd ?_ ?_
  · refine Imp.op (f := fun a => .int .u8 (a.toNat : Int)) (fun a h => op_ixStr h) (fun a => rfl) fun y21 hy21 => ?_
    try simp only [evs, tys]
    refine Imp.cnd ?_ ?_
    · exact Imp.some (StepR.ret ⟨c_18, k_19, by first | rfl | simp only [evs, tys, evl, elim_inl, elim_inr]⟩)
    · refine Imp.cnd ?_ ?_
      · exact Imp.some (StepR.ret ⟨c_18, k_19, by first | rfl | simp only [evs, tys, evl, elim_inl, elim_inr]⟩)
      · exact Imp.some (StepR.next ⟨by first | rfl | simp only [evs, tys, evl], rfl⟩)
  · exact Imp.some (StepR.brk ⟨k_19, by first | rfl | simp only [evs, tys, evl, elim_inl, elim_inr]⟩)
theorem seineref1_Code_l3_ok (s : Str) (i : Int) : ∀ st l u, seineref1_Code_l3R s i st l u → Imp (seineref1_Code_l3T s i st) (seineref1_Code_l3 O loopLim l u) (StepR (seineref1_Code_l3R s i) (seineref1_Code_l3X s i)) := by
  rintro ⟨c_30, k_31⟩ l u ⟨rfl, rfl⟩
  simp only [seineref1_Code_l3T, seineref1_Code_l3]
  refine Imp.chk rfl (Imp.chk rfl ?_)
  try simp only [evs, tys]
  refine Imp.cnd ?_ ?_
  · refine Imp.op (f := fun a => .int .u8 (a.toNat : Int)) (fun a h => op_ixStr h) (fun a => rfl) fun y33 hy33 => ?_
    try simp only [evs, tys]
    refine Imp.cnd ?_ ?_
    · exact Imp.some (StepR.ret ⟨c_30, k_31, by first | rfl | simp only [evs, tys, evl, elim_inl, elim_inr]⟩)
    · refine Imp.cnd ?_ ?_
      · exact Imp.some (StepR.ret ⟨c_30, k_31, by first | rfl | simp only [evs, tys, evl, elim_inl, elim_inr]⟩)
      · exact Imp.some (StepR.next ⟨by first | rfl | simp only [evs, tys, evl], rfl⟩)
  · exact Imp.some (StepR.brk ⟨k_31, by first | rfl | simp only [evs, tys, evl, elim_inl, elim_inr]⟩)
theorem seineref1_Code_l4_ok (s : Str) (i : Int) : ∀ st l u, seineref1_Code_l4R s i st l u → Imp (seineref1_Code_l4T s i st) (seineref1_Code_l4 O loopLim l u) (StepR (seineref1_Code_l4R s i) (seineref1_Code_l4X s i)) := by
  rintro ⟨c_42, k_43⟩ l u ⟨rfl, rfl⟩
  simp only [seineref1_Code_l4T, seineref1_Code_l4]
  refine Imp.chk rfl (Imp.chk rfl ?_)
  try simp only [evs, tys]
  refine Imp.cnd ?_ ?_
  · refine Imp.op (f := fun a => .int .u8 (a.toNat : Int)) (fun a h => op_ixStr h) (fun a => rfl) fun y45 hy45 => ?_
    try simp only [evs, tys]
    refine Imp.cnd ?_ ?_
    · exact Imp.some (StepR.ret ⟨c_42, k_43, by first | rfl | simp only [evs, tys, evl, elim_inl, elim_inr]⟩)
    · refine Imp.cnd ?_ ?_
      · exact Imp.some (StepR.ret ⟨c_42, k_43, by first | rfl | simp only [evs, tys, evl, elim_inl, elim_inr]⟩)
      · exact Imp.some (StepR.next ⟨by first | rfl | simp only [evs, tys, evl], rfl⟩)
  · exact Imp.some (StepR.brk ⟨k_43, by first | rfl | simp only [evs, tys, evl, elim_inl, elim_inr]⟩)
theorem seineref1_Code_l5_ok (s : Str) (i : Int) : ∀ st l u, seineref1_Code_l5R s i st l u → Imp (seineref1_Code_l5T s i st) (seineref1_Code_l5 O loopLim l u) (StepR (seineref1_Code_l5R s i) (seineref1_Code_l5X s i)) := by
  rintro ⟨c_54, k_55⟩ l u ⟨rfl, rfl⟩
  simp only [seineref1_Code_l5T, seineref1_Code_l5]
  refine Imp.chk rfl (Imp.chk rfl ?_)
  try simp only [evs, tys]
  refine Imp.cnd ?_ ?_
  · refine Imp.op (f := fun a => .int .u8 (a.toNat : Int)) (fun a h => op_ixStr h) (fun a => rfl) fun y57 hy57 => ?_
    try simp only [evs, tys]
    refine Imp.cnd ?_ ?_
    · exact Imp.some (StepR.ret ⟨c_54, k_55, by first | rfl | simp only [evs, tys, evl, elim_inl, elim_inr]⟩)
    · refine Imp.cnd ?_ ?_
      · exact Imp.some (StepR.ret ⟨c_54, k_55, by first | rfl | simp only [evs, tys, evl, elim_inl, elim_inr]⟩)
      · exact Imp.some (StepR.next ⟨by first | rfl | simp only [evs, tys, evl], rfl⟩)
  · exact Imp.some (StepR.brk ⟨k_55, by first | rfl | simp only [evs, tys, evl, elim_inl, elim_inr]⟩)
theorem seineref1_Code_l6_ok (s : Str) (i : Int) : ∀ st l u, seineref1_Code_l6R s i st l u → Imp (seineref1_Code_l6T s i st) (seineref1_Code_l6 O loopLim l u) (StepR (seineref1_Code_l6R s i) (seineref1_Code_l6X s i)) := by
  rintro ⟨c_66, k_67⟩ l u ⟨rfl, rfl⟩
  simp only [seineref1_Code_l6T, seineref1_Code_l6]
  refine Imp.chk rfl (Imp.chk rfl ?_)
  try simp only [evs, tys]
  refine Imp.cnd ?_ ?_
  · refine Imp.op (f := fun a => .int .u8 (a.toNat : Int)) (fun a h => op_ixStr h) (fun a => rfl) fun y69 hy69 => ?_
    try simp only [evs, tys]
    refine Imp.cnd ?_ ?_
    · exact Imp.some (StepR.ret ⟨c_66, k_67, by first | rfl | simp only [evs, tys, evl, elim_inl, elim_inr]⟩)
    · refine Imp.cnd ?_ ?_
      · exact Imp.some (StepR.ret ⟨c_66, k_67, by first | rfl | simp only [evs, tys, evl, elim_inl, elim_inr]⟩)
      · exact Imp.some (StepR.next ⟨by first | rfl | simp only [evs, tys, evl], rfl⟩)
  · exact Imp.some (StepR.brk ⟨k_67, by first | rfl | simp only [evs, tys, evl, elim_inl, elim_inr]⟩)
theorem seineref1_Code_l7_ok (s : Str) (i : Int) : ∀ st l u, seineref1_Code_l7R s i st l u → Imp (seineref1_Code_l7T s i st) (seineref1_Code_l7 O loopLim l u) (StepR (seineref1_Code_l7R s i) (seineref1_Code_l7X s i)) := by
  rintro ⟨c_78, k_79⟩ l u ⟨rfl, rfl⟩
  simp only [seineref1_Code_l7T, seineref1_Code_l7]
  refine Imp.chk rfl (Imp.chk rfl ?_)
  try simp only [evs, tys]
  refine Imp.cnd ?_ ?_
  · refine Imp.op (f := fun a => .int .u8 (a.toNat : Int)) (fun a h => op_ixStr h) (fun a => rfl) fun y81 hy81 => ?_
    try simp only [evs, tys]
    refine Imp.cnd ?_ ?_
    · exact Imp.some (StepR.ret ⟨c_78, k_79, by first | rfl | simp only [evs, tys, evl, elim_inl, elim_inr]⟩)
    · refine Imp.cnd ?_ ?_
      · exact Imp.some (StepR.ret ⟨c_78, k_79, by first | rfl | simp only [evs, tys, evl, elim_inl, elim_inr]⟩)
      · exact Imp.some (StepR.next ⟨by first | rfl | simp only [evs, tys, evl], rfl⟩)
  · exact Imp.some (StepR.brk ⟨k_79, by first | rfl | simp only [evs, tys, evl, elim_inl, elim_inr]⟩)
theorem seineref1_Code_imp (s : Str) (i : Int) : Imp (seineref1_Code_B s i) (seineref1_Code_T1 O loopLim s i) (fun r v => v = (seineref1_CodeE r, [])) := by
  simp only [seineref1_Code_B, seineref1_Code_T1]
  try simp only [evs, tys]
  refine Imp.cnd ?_ ?_
  · exact Imp.some (by first | rfl | simp only [seineref1_CodeE, evs, tys, evl])
  · refine Imp.cnd ?_ ?_
    · exact Imp.some (by first | rfl | simp only [seineref1_CodeE, evs, tys, evl])
    · refine Imp.op (f := fun a => .int .u8 (a.toNat : Int)) (fun a h => op_ixStr h) (fun a => rfl) fun y2 hy2 => ?_
      try simp only [evs, tys]
      refine Imp.cnd ?_ ?_
      · exact Imp.some (by first | rfl | simp only [seineref1_CodeE, evs, tys, evl])
      · refine Imp.cnd ?_ ?_
        · refine Imp.cnd ?_ ?_
          · refine Imp.cnd ?_ ?_
            · exact Imp.some (by first | rfl | simp only [seineref1_CodeE, evs, tys, evl])
            · refine Imp.bnd (Imp.loop (seineref1_Code_l1_ok s i) ⟨by first | rfl | simp only [evs, tys, evl], rfl⟩) ?_
              rintro (c_10 | p) vy14 hy14
              · try simp only [elim_inl, elim_inr]
                obtain ⟨k_11, rfl⟩ := hy14
                refine Imp.exHit rfl (Imp.chk rfl (Imp.chk rfl ?_))
                try simp only [evs, tys]
                refine Imp.cnd ?_ ?_
                · exact Imp.some (by first | rfl | simp only [seineref1_CodeE, evs, tys, evl])
                · refine Imp.cnd ?_ ?_
                  · exact Imp.some (by first | rfl | simp only [seineref1_CodeE, evs, tys, evl])
                  · refine Imp.cnd ?_ ?_
                    · refine Imp.cnd ?_ ?_
                      · exact Imp.some (by first | rfl | simp only [seineref1_CodeE, evs, tys, evl])
                      · exact Imp.some (by first | rfl | simp only [seineref1_CodeE, evs, tys, evl])
                    · exact Imp.some (by first | rfl | simp only [seineref1_CodeE, evs, tys, evl])
              · try simp only [elim_inl, elim_inr]
                obtain ⟨c_12, k_13, rfl⟩ := hy14
                refine Imp.exMiss rfl ?_
                refine Imp.exHit rfl (Imp.chk rfl (Imp.chk rfl ?_))
                try simp only [evs, tys]
                exact Imp.some (by first | rfl | simp only [seineref1_CodeE, evs, tys, evl])
          · refine Imp.cnd ?_ ?_
            · refine Imp.cnd ?_ ?_
              · refine Imp.cnd ?_ ?_
                · exact Imp.some (by first | rfl | simp only [seineref1_CodeE, evs, tys, evl])
                · refine Imp.bnd (Imp.loop (seineref1_Code_l2_ok s i) ⟨by first | rfl | simp only [evs, tys, evl], rfl⟩) ?_
                  rintro (c_22 | p) vy26 hy26
                  · try simp only [elim_inl, elim_inr]
                    obtain ⟨k_23, rfl⟩ := hy26
                    refine Imp.exHit rfl (Imp.chk rfl (Imp.chk rfl ?_))
                    try simp only [evs, tys]
                    refine Imp.cnd ?_ ?_
                    · exact Imp.some (by first | rfl | simp only [seineref1_CodeE, evs, tys, evl])
                    · refine Imp.cnd ?_ ?_
                      · exact Imp.some (by first | rfl | simp only [seineref1_CodeE, evs, tys, evl])
                      · refine Imp.cnd ?_ ?_
                        · refine Imp.cnd ?_ ?_
                          · exact Imp.some (by first | rfl | simp only [seineref1_CodeE, evs, tys, evl])
                          · exact Imp.some (by first | rfl | simp only [seineref1_CodeE, evs, tys, evl])
                        · exact Imp.some (by first | rfl | simp only [seineref1_CodeE, evs, tys, evl])
                  · try simp only [elim_inl, elim_inr]
                    obtain ⟨c_24, k_25, rfl⟩ := hy26
                    refine Imp.exMiss rfl ?_
                    refine Imp.exHit rfl (Imp.chk rfl (Imp.chk rfl ?_))
                    try simp only [evs, tys]
                    exact Imp.some (by first | rfl | simp only [seineref1_CodeE, evs, tys, evl])
              · refine Imp.cnd ?_ ?_
                · refine Imp.cnd ?_ ?_
                  · refine Imp.cnd ?_ ?_
                    · exact Imp.some (by first | rfl | simp only [seineref1_CodeE, evs, tys, evl])
                    · refine Imp.bnd (Imp.loop (seineref1_Code_l3_ok s i) ⟨by first | rfl | simp only [evs, tys, evl], rfl⟩) ?_
                      rintro (c_34 | p) vy38 hy38
                      · try simp only [elim_inl, elim_inr]
                        obtain ⟨k_35, rfl⟩ := hy38
                        refine Imp.exHit rfl (Imp.chk rfl (Imp.chk rfl ?_))
                        try simp only [evs, tys]
                        refine Imp.cnd ?_ ?_
                        · exact Imp.some (by first | rfl | simp only [seineref1_CodeE, evs, tys, evl])
                        · refine Imp.cnd ?_ ?_
                          · exact Imp.some (by first | rfl | simp only [seineref1_CodeE, evs, tys, evl])
                          · refine Imp.cnd ?_ ?_
                            · refine Imp.cnd ?_ ?_
                              · exact Imp.some (by first | rfl | simp only [seineref1_CodeE, evs, tys, evl])
                              · exact Imp.some (by first | rfl | simp only [seineref1_CodeE, evs, tys, evl])
                            · exact Imp.some (by first | rfl | simp only [seineref1_CodeE, evs, tys, evl])
                      · try simp only [elim_inl, elim_inr]
                        obtain ⟨c_36, k_37, rfl⟩ := hy38
                        refine Imp.exMiss rfl ?_
                        refine Imp.exHit rfl (Imp.chk rfl (Imp.chk rfl ?_))
                        try simp only [evs, tys]
                        exact Imp.some (by first | rfl | simp only [seineref1_CodeE, evs, tys, evl])
                  · exact Imp.some (by first | rfl | simp only [seineref1_CodeE, evs, tys, evl])
                · exact Imp.some (by first | rfl | simp only [seineref1_CodeE, evs, tys, evl])
            · refine Imp.cnd ?_ ?_
              · refine Imp.cnd ?_ ?_
                · refine Imp.cnd ?_ ?_
                  · exact Imp.some (by first | rfl | simp only [seineref1_CodeE, evs, tys, evl])
                  · refine Imp.bnd (Imp.loop (seineref1_Code_l4_ok s i) ⟨by first | rfl | simp only [evs, tys, evl], rfl⟩) ?_
                    rintro (c_46 | p) vy50 hy50
                    · try simp only [elim_inl, elim_inr]
                      obtain ⟨k_47, rfl⟩ := hy50
                      refine Imp.exHit rfl (Imp.chk rfl (Imp.chk rfl ?_))
                      try simp only [evs, tys]
                      refine Imp.cnd ?_ ?_
                      · exact Imp.some (by first | rfl | simp only [seineref1_CodeE, evs, tys, evl])
                      · refine Imp.cnd ?_ ?_
                        · exact Imp.some (by first | rfl | simp only [seineref1_CodeE, evs, tys, evl])
                        · refine Imp.cnd ?_ ?_
                          · refine Imp.cnd ?_ ?_
                            · exact Imp.some (by first | rfl | simp only [seineref1_CodeE, evs, tys, evl])
                            · exact Imp.some (by first | rfl | simp only [seineref1_CodeE, evs, tys, evl])
                          · exact Imp.some (by first | rfl | simp only [seineref1_CodeE, evs, tys, evl])
                    · try simp only [elim_inl, elim_inr]
                      obtain ⟨c_48, k_49, rfl⟩ := hy50
                      refine Imp.exMiss rfl ?_
                      refine Imp.exHit rfl (Imp.chk rfl (Imp.chk rfl ?_))
                      try simp only [evs, tys]
                      exact Imp.some (by first | rfl | simp only [seineref1_CodeE, evs, tys, evl])
                · exact Imp.some (by first | rfl | simp only [seineref1_CodeE, evs, tys, evl])
              · exact Imp.some (by first | rfl | simp only [seineref1_CodeE, evs, tys, evl])
        · refine Imp.cnd ?_ ?_
          · refine Imp.cnd ?_ ?_
            · refine Imp.cnd ?_ ?_
              · exact Imp.some (by first | rfl | simp only [seineref1_CodeE, evs, tys, evl])
              · refine Imp.bnd (Imp.loop (seineref1_Code_l5_ok s i) ⟨by first | rfl | simp only [evs, tys, evl], rfl⟩) ?_
                rintro (c_58 | p) vy62 hy62
                · try simp only [elim_inl, elim_inr]
                  obtain ⟨k_59, rfl⟩ := hy62
                  refine Imp.exHit rfl (Imp.chk rfl (Imp.chk rfl ?_))
                  try simp only [evs, tys]
                  refine Imp.cnd ?_ ?_
                  · exact Imp.some (by first | rfl | simp only [seineref1_CodeE, evs, tys, evl])
                  · refine Imp.cnd ?_ ?_
                    · exact Imp.some (by first | rfl | simp only [seineref1_CodeE, evs, tys, evl])
                    · refine Imp.cnd ?_ ?_
                      · refine Imp.cnd ?_ ?_
                        · exact Imp.some (by first | rfl | simp only [seineref1_CodeE, evs, tys, evl])
                        · exact Imp.some (by first | rfl | simp only [seineref1_CodeE, evs, tys, evl])
                      · exact Imp.some (by first | rfl | simp only [seineref1_CodeE, evs, tys, evl])
                · try simp only [elim_inl, elim_inr]
                  obtain ⟨c_60, k_61, rfl⟩ := hy62
                  refine Imp.exMiss rfl ?_
                  refine Imp.exHit rfl (Imp.chk rfl (Imp.chk rfl ?_))
                  try simp only [evs, tys]
                  exact Imp.some (by first | rfl | simp only [seineref1_CodeE, evs, tys, evl])
            · refine Imp.cnd ?_ ?_
              · refine Imp.cnd ?_ ?_
                · refine Imp.cnd ?_ ?_
                  · exact Imp.some (by first | rfl | simp only [seineref1_CodeE, evs, tys, evl])
                  · refine Imp.bnd (Imp.loop (seineref1_Code_l6_ok s i) ⟨by first | rfl | simp only [evs, tys, evl], rfl⟩) ?_
                    rintro (c_70 | p) vy74 hy74
                    · try simp only [elim_inl, elim_inr]
                      obtain ⟨k_71, rfl⟩ := hy74
                      refine Imp.exHit rfl (Imp.chk rfl (Imp.chk rfl ?_))
                      try simp only [evs, tys]
                      refine Imp.cnd ?_ ?_
                      · exact Imp.some (by first | rfl | simp only [seineref1_CodeE, evs, tys, evl])
                      · refine Imp.cnd ?_ ?_
                        · exact Imp.some (by first | rfl | simp only [seineref1_CodeE, evs, tys, evl])
                        · refine Imp.cnd ?_ ?_
                          · refine Imp.cnd ?_ ?_
                            · exact Imp.some (by first | rfl | simp only [seineref1_CodeE, evs, tys, evl])
                            · exact Imp.some (by first | rfl | simp only [seineref1_CodeE, evs, tys, evl])
                          · exact Imp.some (by first | rfl | simp only [seineref1_CodeE, evs, tys, evl])
                    · try simp only [elim_inl, elim_inr]
                      obtain ⟨c_72, k_73, rfl⟩ := hy74
                      refine Imp.exMiss rfl ?_
                      refine Imp.exHit rfl (Imp.chk rfl (Imp.chk rfl ?_))
                      try simp only [evs, tys]
                      exact Imp.some (by first | rfl | simp only [seineref1_CodeE, evs, tys, evl])
                · exact Imp.some (by first | rfl | simp only [seineref1_CodeE, evs, tys, evl])
              · exact Imp.some (by first | rfl | simp only [seineref1_CodeE, evs, tys, evl])
          · refine Imp.cnd ?_ ?_
            · refine Imp.cnd ?_ ?_
              · refine Imp.cnd ?_ ?_
                · exact Imp.some (by first | rfl | simp only [seineref1_CodeE, evs, tys, evl])
                · refine Imp.bnd (Imp.loop (seineref1_Code_l7_ok s i) ⟨by first | rfl | simp only [evs, tys, evl], rfl⟩) ?_
                  rintro (c_82 | p) vy86 hy86
                  · try simp only [elim_inl, elim_inr]
                    obtain ⟨k_83, rfl⟩ := hy86
                    refine Imp.exHit rfl (Imp.chk rfl (Imp.chk rfl ?_))
                    try simp only [evs, tys]
                    refine Imp.cnd ?_ ?_
                    · exact Imp.some (by first | rfl | simp only [seineref1_CodeE, evs, tys, evl])
                    · refine Imp.cnd ?_ ?_
                      · exact Imp.some (by first | rfl | simp only [seineref1_CodeE, evs, tys, evl])
                      · refine Imp.cnd ?_ ?_
                        · refine Imp.cnd ?_ ?_
                          · exact Imp.some (by first | rfl | simp only [seineref1_CodeE, evs, tys, evl])
                          · exact Imp.some (by first | rfl | simp only [seineref1_CodeE, evs, tys, evl])
                        · exact Imp.some (by first | rfl | simp only [seineref1_CodeE, evs, tys, evl])
                  · try simp only [elim_inl, elim_inr]
                    obtain ⟨c_84, k_85, rfl⟩ := hy86
                    refine Imp.exMiss rfl ?_
                    refine Imp.exHit rfl (Imp.chk rfl (Imp.chk rfl ?_))
                    try simp only [evs, tys]
                    exact Imp.some (by first | rfl | simp only [seineref1_CodeE, evs, tys, evl])
              · exact Imp.some (by first | rfl | simp only [seineref1_CodeE, evs, tys, evl])
            · exact Imp.some (by first | rfl | simp only [seineref1_CodeE, evs, tys, evl])
theorem seineref1_Code_run {s : Str} {i : Int} {r : Int × Int} (h : seineref1_Code_B s i = some r) : seineref1_Code s i = some r := by
  obtain ⟨v, hv, rfl⟩ := seineref1_Code_imp s i r h
  exact tO_of (pair_inj seineref1_CodeEj) (OL_runD seineref1_Code_ds rfl rfl Tryd.func20 ((seineref1_Code_t1 _ _ s i).trans hv))
end Go.Proofs.YtanjedcndpcgfaaDoor

/- Printed by symgen.py: typed functions of this seat, and why they tell what the program does. -/
set_option linter.unusedVariables false
set_option linter.unusedSimpArgs false
open Go Go.Ev Go.Ev.PV
namespace Go.Proofs.YtanjedcndpcgfaaDoor
def seineref1_Units_l1 (O : Orc) (LP : LBody → LBody) : LBody := fun s3 s3u => cnd (chkL [(.sl false), (.sl true), (.int .i64)] s3) (cnd (chkU [] s3u)
  (cnd (decide ((intV (gt s3 2)) < (List.length (esV (gt s3 0)) : Int)))
   (bnd (ix 1 (.slice (esV (gt s3 0)) [] false) (.int .i64 (intV (gt s3 2)))) fun x18 => cnd (chk (.ref (.int .i64)) x18)
   (cnd (decide ((intV (refV x18)) < 65536))
    (bnd (ix 1 (.slice (esV (gt s3 0)) [] false) (.int .i64 (intV (gt s3 2)))) fun x20 => cnd (chk (.ref (.int .i64)) x20)
    (bnd (apd 1 (.slice (esV (gt s3 1)) [] true) (.slice [(.int .i64 (intV (refV x20)))] [] true)) fun x22 => cnd (chk (.sl true) x22)
    (some (.nrm, [(.slice (esV (gt s3 0)) [] false), (.slice (esV x22) [] true), (.int .i64 (IntKind.wrap .i64 ((intV (gt s3 2)) + 1)))], [])) none) none)
    (bnd (ix 1 (.slice (esV (gt s3 0)) [] false) (.int .i64 (intV (gt s3 2)))) fun x24 => cnd (chk (.ref (.int .i64)) x24)
    (bnd (ix 1 (.slice (esV (gt s3 0)) [] false) (.int .i64 (intV (gt s3 2)))) fun x26 => cnd (chk (.ref (.int .i64)) x26)
    (bnd (apd 1 (.slice (esV (gt s3 1)) [] true) (.slice [(.int .i64 (IntKind.wrap .i64 (55296 + (IntKind.wrap .i64 (Int.tdiv (IntKind.wrap .i64 ((intV (refV x24)) - 65536)) 1024))))), (.int .i64 (IntKind.wrap .i64 (56320 + (Int.tmod (IntKind.wrap .i64 ((intV (refV x26)) - 65536)) 1024))))] [] true)) fun x28 => cnd (chk (.sl true) x28)
    (some (.nrm, [(.slice (esV (gt s3 0)) [] false), (.slice (esV x28) [] true), (.int .i64 (IntKind.wrap .i64 ((intV (gt s3 2)) + 1)))], [])) none) none) none)) none)
   (some (.brk 0, [(.slice (esV (gt s3 0)) [] false), (.slice (esV (gt s3 1)) [] true), (.int .i64 (intV (gt s3 2)))], []))) none) none
def seineref1_Units_T1 (O : Orc) (LP : LBody → LBody) (s : Str) : Option (PV × UP) :=
  callp O 32 [(.str s)] fun x1 => cnd (chk (.tup [(.sl false), .bool]) x1)
  (cnd (!(boolV (gt (tupV x1) 1)))
   (some ((.tuple [(.slice [] [] false), (.bool false)]), []))
   (bnd (LP (seineref1_Units_l1 O LP) [(.slice (esV (gt (tupV x1) 0)) [] false), (.slice [] [] true), (.int .i64 0)] []) fun y32 =>
   exIs y32.1 (some 0) (cnd (chkL [(.sl false), (.sl true), (.int .i64)] y32.2.1) (cnd (chkU [] y32.2.2)
    (some ((.tuple [(.slice (esV (gt y32.2.1 1)) [] false), (.bool true)]), [])) none) none)
   (none))) none
noncomputable def seineref1_Units_l1T (y2 : (List Int) × Bool) : ((List Int) × Int) → Option (((List Int) × Int) ⊕ ((List Int)))
  | (out_16, i_17) =>
  cnd (decide (i_17 < (List.length y2.1 : Int)))
   (bnd (nthI y2.1 i_17) fun y19 =>
   cnd (decide (y19 < 65536))
    (bnd (nthI y2.1 i_17) fun y21 =>
    bnd (tapp out_16 [y21]) fun y23 =>
    some (.inl (y23, (IntKind.wrap .i64 (i_17 + 1)))))
    (bnd (nthI y2.1 i_17) fun y25 =>
    bnd (nthI y2.1 i_17) fun y27 =>
    bnd (tapp out_16 [(IntKind.wrap .i64 (55296 + (IntKind.wrap .i64 (Int.tdiv (IntKind.wrap .i64 (y25 - 65536)) 1024)))), (IntKind.wrap .i64 (56320 + (Int.tmod (IntKind.wrap .i64 (y27 - 65536)) 1024)))]) fun y29 =>
    some (.inl (y29, (IntKind.wrap .i64 (i_17 + 1))))))
   (some (.inr out_16))
abbrev seineref1_Units_l1R (y2 : (List Int) × Bool) (st : (List Int) × Int) (l : List PV) (u : UP) : Prop := l = [(.slice (List.map (PV.int .i64) y2.1) [] false), (.slice (List.map (PV.int .i64) st.1) [] true), (.int .i64 st.2)] ∧ u = []
abbrev seineref1_Units_l1X (y2 : (List Int) × Bool) (p : (List Int)) (r : Ex × List PV × UP) : Prop := (fun (p : (List Int)) => ∃ (i_31 : Int), r = (Ex.brk 0, [(.slice (List.map (PV.int .i64) y2.1) [] false), (.slice (List.map (PV.int .i64) p) [] true), (.int .i64 i_31)], [])) p
noncomputable def seineref1_Units_B (s : Str) : Option ((List Int) × Bool) :=
  bnd (seineref1_Codes s) fun y2 =>
  cnd (!y2.2)
   (some (([] : List Int), false))
   (bnd (tloop (seineref1_Units_l1T y2) ([], 0)) fun out_30 =>
   some (out_30, true))
def seineref1_Units_ds : Decs := { decs := [(10, (.tup [(.sl false), .bool])), (23, (.ref (.int .i64))), (29, (.ref (.int .i64))), (32, (.sl true)), (36, (.ref (.int .i64))), (43, (.ref (.int .i64))), (49, (.sl true))], ups := [], loops := [(6, [], ⟨[(.sl false), (.sl true), (.int .i64)], [], [(some 0, [(.sl false), (.sl true), (.int .i64)], [])]⟩)] }
set_option maxRecDepth 100000 in
theorem seineref1_Units_t1 (O : Orc) (LP : LBody → LBody) (s : Str) : evalBodyD Tryd.prog (MT 21) seineref1_Units_ds Tryd.f21.ntmps O LP Tryd.f21 [(.str s)] [] = seineref1_Units_T1 O LP s := by kernel_rfl
theorem seineref1_Units_l1_ok (y2 : (List Int) × Bool) : ∀ st l u, seineref1_Units_l1R y2 st l u → Imp (seineref1_Units_l1T y2 st) (seineref1_Units_l1 O loopLim l u) (StepR (seineref1_Units_l1R y2) (seineref1_Units_l1X y2)) := by
  rintro ⟨out_16, i_17⟩ l u ⟨rfl, rfl⟩
  simp only [seineref1_Units_l1T, seineref1_Units_l1]
  refine Imp.chk rfl (Imp.chk rfl ?_)
  try simp only [evs, tys]
  refine Imp.cnd ?_ ?_
  · refine Imp.op (f := fun a => .ref ((PV.int .i64) a)) (fun a h => op_ix (enc := (PV.int .i64)) (by first | rfl | simp only [evs, tys, evl]) ⟨by first | rfl | simp only [evs, tys, evc], by decide⟩ h) (fun a => rfl) fun y19 hy19 => ?_
    try simp only [evs, tys]
    refine Imp.cnd ?_ ?_
    · refine Imp.op (f := fun a => .ref ((PV.int .i64) a)) (fun a h => op_ix (enc := (PV.int .i64)) (by first | rfl | simp only [evs, tys, evl]) ⟨by first | rfl | simp only [evs, tys, evc], by decide⟩ h) (fun a => rfl) fun y21 hy21 => ?_
      try simp only [evs, tys]
      refine Imp.op (f := fun a => .slice (List.map (PV.int .i64) a) [] true) (fun a h => op_apd (enc := (PV.int .i64)) (by first | rfl | simp only [evs, tys, evl]) (by first | rfl | simp only [evs, tys, evl]) (fun a => by first | rfl | simp only [evs, tys, evc]) h) (fun a => rfl) fun y23 hy23 => ?_
      try simp only [evs, tys]
      exact Imp.some (StepR.next ⟨by first | rfl | simp only [evs, tys, evl], rfl⟩)
    · refine Imp.op (f := fun a => .ref ((PV.int .i64) a)) (fun a h => op_ix (enc := (PV.int .i64)) (by first | rfl | simp only [evs, tys, evl]) ⟨by first | rfl | simp only [evs, tys, evc], by decide⟩ h) (fun a => rfl) fun y25 hy25 => ?_
      try simp only [evs, tys]
      refine Imp.op (f := fun a => .ref ((PV.int .i64) a)) (fun a h => op_ix (enc := (PV.int .i64)) (by first | rfl | simp only [evs, tys, evl]) ⟨by first | rfl | simp only [evs, tys, evc], by decide⟩ h) (fun a => rfl) fun y27 hy27 => ?_
      try simp only [evs, tys]
      refine Imp.op (f := fun a => .slice (List.map (PV.int .i64) a) [] true) (fun a h => op_apd (enc := (PV.int .i64)) (by first | rfl | simp only [evs, tys, evl]) (by first | rfl | simp only [evs, tys, evl]) (fun a => by first | rfl | simp only [evs, tys, evc]) h) (fun a => rfl) fun y29 hy29 => ?_
      try simp only [evs, tys]
      exact Imp.some (StepR.next ⟨by first | rfl | simp only [evs, tys, evl], rfl⟩)
  · exact Imp.some (StepR.brk ⟨i_17, by first | rfl | simp only [evs, tys, evl, elim_inl, elim_inr]⟩)
theorem seineref1_Units_imp (s : Str) : Imp (seineref1_Units_B s) (seineref1_Units_T1 O loopLim s) (fun r v => v = (seineref1_UnitsE r, [])) := by
  simp only [seineref1_Units_B, seineref1_Units_T1]
  try simp only [evs, tys]
  refine Imp.call (f := seineref1_CodesE) rfl (fun a h => by first | exact seineref1_Codes_spec h | simpa only [evs, tys, evl] using seineref1_Codes_spec h) (fun a => by first | rfl | simp only [seineref1_CodesE, evk, chks]) fun y2 hy2 => ?_
  try simp only [seineref1_CodesE, evs, tys]
  refine Imp.cnd ?_ ?_
  · exact Imp.some (by first | rfl | simp only [seineref1_UnitsE, evs, tys, evl])
  · refine Imp.bnd (Imp.loop (seineref1_Units_l1_ok y2) ⟨by first | rfl | simp only [evs, tys, evl], rfl⟩) ?_
    rintro out_30 vy32 hy32
    obtain ⟨i_31, rfl⟩ := hy32
    refine Imp.exHit rfl (Imp.chk rfl (Imp.chk rfl ?_))
    try simp only [evs, tys]
    exact Imp.some (by first | rfl | simp only [seineref1_UnitsE, evs, tys, evl])
theorem seineref1_Units_run {s : Str} {r : (List Int) × Bool} (h : seineref1_Units_B s = some r) : seineref1_Units s = some r := by
  obtain ⟨v, hv, rfl⟩ := seineref1_Units_imp s r h
  exact tO_of (pair_inj seineref1_UnitsEj) (OL_runD seineref1_Units_ds rfl rfl Tryd.func21 ((seineref1_Units_t1 _ _ s).trans hv))

def seineref1_Good_T1 (O : Orc) (LP : LBody → LBody) (s : Str) : Option (PV × UP) :=
  callp O 32 [(.str s)] fun x1 => cnd (chk (.tup [(.sl false), .bool]) x1)
  (some ((.bool (boolV (gt (tupV x1) 1))), [])) none
noncomputable def seineref1_Good_B (s : Str) : Option Bool :=
  bnd (seineref1_Codes s) fun y2 =>
  some y2.2
def seineref1_Good_ds : Decs := { decs := [(7, (.tup [(.sl false), .bool]))], ups := [], loops := [] }
set_option maxRecDepth 100000 in
theorem seineref1_Good_t1 (O : Orc) (LP : LBody → LBody) (s : Str) : evalBodyD Tryd.prog (MT 22) seineref1_Good_ds Tryd.f22.ntmps O LP Tryd.f22 [(.str s)] [] = seineref1_Good_T1 O LP s := by kernel_rfl
theorem seineref1_Good_imp (s : Str) : Imp (seineref1_Good_B s) (seineref1_Good_T1 O loopLim s) (fun r v => v = (seineref1_GoodE r, [])) := by
  simp only [seineref1_Good_B, seineref1_Good_T1]
  try simp only [evs, tys]
  refine Imp.call (f := seineref1_CodesE) rfl (fun a h => by first | exact seineref1_Codes_spec h | simpa only [evs, tys, evl] using seineref1_Codes_spec h) (fun a => by first | rfl | simp only [seineref1_CodesE, evk, chks]) fun y2 hy2 => ?_
  try simp only [seineref1_CodesE, evs, tys]
  exact Imp.some (by first | rfl | simp only [seineref1_GoodE, evs, tys, evl])
theorem seineref1_Good_run {s : Str} {r : Bool} (h : seineref1_Good_B s = some r) : seineref1_Good s = some r := by
  obtain ⟨v, hv, rfl⟩ := seineref1_Good_imp s r h
  exact tO_of (pair_inj seineref1_GoodEj) (OL_runD seineref1_Good_ds rfl rfl Tryd.func22 ((seineref1_Good_t1 _ _ s).trans hv))

def seineref1_Source_l1 (O : Orc) (LP : LBody → LBody) : LBody := fun s3 s3u => cnd (chkL [.bool, (.sl false), .bool, (.int .i64)] s3) (cnd (chkU [] s3u)
  (cnd (decide ((intV (gt s3 3)) < (List.length (esV (gt s3 1)) : Int)))
   (bnd (ix 1 (.slice (esV (gt s3 1)) [] false) (.int .i64 (intV (gt s3 3)))) fun x21 => cnd (chk (.ref (.int .i64)) x21)
   (cnd (decide ((intV (refV x21)) < 32))
    (bnd (ix 1 (.slice (esV (gt s3 1)) [] false) (.int .i64 (intV (gt s3 3)))) fun x23 => cnd (chk (.ref (.int .i64)) x23)
    (cnd ((intV (refV x23)) != 9)
     (bnd (ix 1 (.slice (esV (gt s3 1)) [] false) (.int .i64 (intV (gt s3 3)))) fun x25 => cnd (chk (.ref (.int .i64)) x25)
     (cnd ((intV (refV x25)) != 10)
      (bnd (ix 1 (.slice (esV (gt s3 1)) [] false) (.int .i64 (intV (gt s3 3)))) fun x27 => cnd (chk (.ref (.int .i64)) x27)
      (cnd ((intV (refV x27)) != 13)
       (some (.ret, [(.bool false), (.slice (esV (gt s3 1)) [] false), (.bool (boolV (gt s3 2))), (.int .i64 (intV (gt s3 3)))], []))
       (bnd (ix 1 (.slice (esV (gt s3 1)) [] false) (.int .i64 (intV (gt s3 3)))) fun x29 => cnd (chk (.ref (.int .i64)) x29)
       (cnd (decide ((intV (refV x29)) > 65535))
        (some (.ret, [(.bool false), (.slice (esV (gt s3 1)) [] false), (.bool (boolV (gt s3 2))), (.int .i64 (intV (gt s3 3)))], []))
        (some (.nrm, [(.bool (boolV (gt s3 0))), (.slice (esV (gt s3 1)) [] false), (.bool (boolV (gt s3 2))), (.int .i64 (IntKind.wrap .i64 ((intV (gt s3 3)) + 1)))], []))) none)) none)
      (bnd (ix 1 (.slice (esV (gt s3 1)) [] false) (.int .i64 (intV (gt s3 3)))) fun x31 => cnd (chk (.ref (.int .i64)) x31)
      (cnd (decide ((intV (refV x31)) > 65535))
       (some (.ret, [(.bool false), (.slice (esV (gt s3 1)) [] false), (.bool (boolV (gt s3 2))), (.int .i64 (intV (gt s3 3)))], []))
       (some (.nrm, [(.bool (boolV (gt s3 0))), (.slice (esV (gt s3 1)) [] false), (.bool (boolV (gt s3 2))), (.int .i64 (IntKind.wrap .i64 ((intV (gt s3 3)) + 1)))], []))) none)) none)
     (bnd (ix 1 (.slice (esV (gt s3 1)) [] false) (.int .i64 (intV (gt s3 3)))) fun x33 => cnd (chk (.ref (.int .i64)) x33)
     (cnd (decide ((intV (refV x33)) > 65535))
      (some (.ret, [(.bool false), (.slice (esV (gt s3 1)) [] false), (.bool (boolV (gt s3 2))), (.int .i64 (intV (gt s3 3)))], []))
      (some (.nrm, [(.bool (boolV (gt s3 0))), (.slice (esV (gt s3 1)) [] false), (.bool (boolV (gt s3 2))), (.int .i64 (IntKind.wrap .i64 ((intV (gt s3 3)) + 1)))], []))) none)) none)
    (bnd (ix 1 (.slice (esV (gt s3 1)) [] false) (.int .i64 (intV (gt s3 3)))) fun x35 => cnd (chk (.ref (.int .i64)) x35)
    (cnd (decide ((intV (refV x35)) > 65535))
     (some (.ret, [(.bool false), (.slice (esV (gt s3 1)) [] false), (.bool (boolV (gt s3 2))), (.int .i64 (intV (gt s3 3)))], []))
     (some (.nrm, [(.bool (boolV (gt s3 0))), (.slice (esV (gt s3 1)) [] false), (.bool (boolV (gt s3 2))), (.int .i64 (IntKind.wrap .i64 ((intV (gt s3 3)) + 1)))], []))) none)) none)
   (some (.brk 0, [(.bool (boolV (gt s3 0))), (.slice (esV (gt s3 1)) [] false), (.bool (boolV (gt s3 2))), (.int .i64 (intV (gt s3 3)))], []))) none) none
def seineref1_Source_T1 (O : Orc) (LP : LBody → LBody) (s : Str) : Option (PV × UP) :=
  callp O 32 [(.str s)] fun x1 => cnd (chk (.tup [(.sl false), .bool]) x1)
  (bnd (LP (seineref1_Source_l1 O LP) [(.bool false), (.slice (esV (gt (tupV x1) 0)) [] false), (.bool (boolV (gt (tupV x1) 1))), (.int .i64 0)] []) fun y39 =>
  exIs y39.1 (some 0) (cnd (chkL [.bool, (.sl false), .bool, (.int .i64)] y39.2.1) (cnd (chkU [] y39.2.2)
   (some ((.bool (boolV (gt y39.2.1 2))), [])) none) none)
  (exIs y39.1 none (cnd (chkL [.bool, (.sl false), .bool, (.int .i64)] y39.2.1) (cnd (chkU [] y39.2.2)
   (some ((.bool (boolV (gt y39.2.1 0))), [])) none) none)
  (none))) none
noncomputable def seineref1_Source_l1T (y2 : (List Int) × Bool) : Int → Option (Int ⊕ (Unit ⊕ Unit))
  | i_20 =>
  cnd (decide (i_20 < (List.length y2.1 : Int)))
   (bnd (nthI y2.1 i_20) fun y22 =>
   cnd (decide (y22 < 32))
    (bnd (nthI y2.1 i_20) fun y24 =>
    cnd (y24 != 9)
     (bnd (nthI y2.1 i_20) fun y26 =>
     cnd (y26 != 10)
      (bnd (nthI y2.1 i_20) fun y28 =>
      cnd (y28 != 13)
       (some (.inr (.inr ())))
       (bnd (nthI y2.1 i_20) fun y30 =>
       cnd (decide (y30 > 65535))
        (some (.inr (.inr ())))
        (some (.inl (IntKind.wrap .i64 (i_20 + 1))))))
      (bnd (nthI y2.1 i_20) fun y32 =>
      cnd (decide (y32 > 65535))
       (some (.inr (.inr ())))
       (some (.inl (IntKind.wrap .i64 (i_20 + 1))))))
     (bnd (nthI y2.1 i_20) fun y34 =>
     cnd (decide (y34 > 65535))
      (some (.inr (.inr ())))
      (some (.inl (IntKind.wrap .i64 (i_20 + 1))))))
    (bnd (nthI y2.1 i_20) fun y36 =>
    cnd (decide (y36 > 65535))
     (some (.inr (.inr ())))
     (some (.inl (IntKind.wrap .i64 (i_20 + 1))))))
   (some (.inr (.inl ())))
abbrev seineref1_Source_l1R (y2 : (List Int) × Bool) (st : Int) (l : List PV) (u : UP) : Prop := l = [(.bool false), (.slice (List.map (PV.int .i64) y2.1) [] false), (.bool y2.2), (.int .i64 st)] ∧ u = []
abbrev seineref1_Source_l1X (y2 : (List Int) × Bool) (p : Unit ⊕ Unit) (r : Ex × List PV × UP) : Prop := elim p (fun (p : Unit) => ∃ (i_37 : Int), r = (Ex.brk 0, [(.bool false), (.slice (List.map (PV.int .i64) y2.1) [] false), (.bool y2.2), (.int .i64 i_37)], [])) (fun q2 => (fun (p : Unit) => ∃ (i_38 : Int), r = (Ex.ret, [(.bool false), (.slice (List.map (PV.int .i64) y2.1) [] false), (.bool y2.2), (.int .i64 i_38)], [])) q2)
noncomputable def seineref1_Source_B (s : Str) : Option Bool :=
  bnd (seineref1_Codes s) fun y2 =>
  bnd (tloop (seineref1_Source_l1T y2) 0) fun e39_2 => elim e39_2
  (fun p39 =>
   some y2.2)
  (fun p39 =>
  some false)
def seineref1_Source_ds : Decs := { decs := [(8, (.tup [(.sl false), .bool])), (19, (.ref (.int .i64))), (25, (.ref (.int .i64))), (32, (.ref (.int .i64))), (39, (.ref (.int .i64))), (46, (.ref (.int .i64)))], ups := [], loops := [(3, [], ⟨[.bool, (.sl false), .bool, (.int .i64)], [], [(some 0, [.bool, (.sl false), .bool, (.int .i64)], []), (none, [.bool, (.sl false), .bool, (.int .i64)], [])]⟩)] }
set_option maxRecDepth 100000 in
theorem seineref1_Source_t1 (O : Orc) (LP : LBody → LBody) (s : Str) : evalBodyD Tryd.prog (MT 23) seineref1_Source_ds Tryd.f23.ntmps O LP Tryd.f23 [(.str s)] [] = seineref1_Source_T1 O LP s := by kernel_rfl
theorem seineref1_Source_l1_ok (y2 : (List Int) × Bool) : ∀ st l u, seineref1_Source_l1R y2 st l u → Imp (seineref1_Source_l1T y2 st) (seineref1_Source_l1 O loopLim l u) (StepR (seineref1_Source_l1R y2) (seineref1_Source_l1X y2)) := by
  rintro i_20 l u ⟨rfl, rfl⟩
  simp only [seineref1_Source_l1T, seineref1_Source_l1]
  refine Imp.chk rfl (Imp.chk rfl ?_)
  try simp only [evs, tys]
  refine Imp.cnd ?_ ?_
  · refine Imp.op (f := fun a => .ref ((PV.int .i64) a)) (fun a h => op_ix (enc := (PV.int .i64)) (by first | rfl | simp only [evs, tys, evl]) ⟨by first | rfl | simp only [evs, tys, evc], by decide⟩ h) (fun a => rfl) fun y22 hy22 => ?_
    try simp only [evs, tys]
    refine Imp.cnd ?_ ?_
    · refine Imp.op (f := fun a => .ref ((PV.int .i64) a)) (fun a h => op_ix (enc := (PV.int .i64)) (by first | rfl | simp only [evs, tys, evl]) ⟨by first | rfl | simp only [evs, tys, evc], by decide⟩ h) (fun a => rfl) fun y24 hy24 => ?_
      try simp only [evs, tys]
      refine Imp.cnd ?_ ?_
      · refine Imp.op (f := fun a => .ref ((PV.int .i64) a)) (fun a h => op_ix (enc := (PV.int .i64)) (by first | rfl | simp only [evs, tys, evl]) ⟨by first | rfl | simp only [evs, tys, evc], by decide⟩ h) (fun a => rfl) fun y26 hy26 => ?_
        try simp only [evs, tys]
        refine Imp.cnd ?_ ?_
        · refine Imp.op (f := fun a => .ref ((PV.int .i64) a)) (fun a h => op_ix (enc := (PV.int .i64)) (by first | rfl | simp only [evs, tys, evl]) ⟨by first | rfl | simp only [evs, tys, evc], by decide⟩ h) (fun a => rfl) fun y28 hy28 => ?_
          try simp only [evs, tys]
          refine Imp.cnd ?_ ?_
          · exact Imp.some (StepR.ret ⟨i_20, by first | rfl | simp only [evs, tys, evl, elim_inl, elim_inr]⟩)
          · refine Imp.op (f := fun a => .ref ((PV.int .i64) a)) (fun a h => op_ix (enc := (PV.int .i64)) (by first | rfl | simp only [evs, tys, evl]) ⟨by first | rfl | simp only [evs, tys, evc], by decide⟩ h) (fun a => rfl) fun y30 hy30 => ?_
            try simp only [evs, tys]
            refine Imp.cnd ?_ ?_
            · exact Imp.some (StepR.ret ⟨i_20, by first | rfl | simp only [evs, tys, evl, elim_inl, elim_inr]⟩)
            · exact Imp.some (StepR.next ⟨by first | rfl | simp only [evs, tys, evl], rfl⟩)
        · refine Imp.op (f := fun a => .ref ((PV.int .i64) a)) (fun a h => op_ix (enc := (PV.int .i64)) (by first | rfl | simp only [evs, tys, evl]) ⟨by first | rfl | simp only [evs, tys, evc], by decide⟩ h) (fun a => rfl) fun y32 hy32 => ?_
          try simp only [evs, tys]
          refine Imp.cnd ?_ ?_
          · exact Imp.some (StepR.ret ⟨i_20, by first | rfl | simp only [evs, tys, evl, elim_inl, elim_inr]⟩)
          · exact Imp.some (StepR.next ⟨by first | rfl | simp only [evs, tys, evl], rfl⟩)
      · refine Imp.op (f := fun a => .ref ((PV.int .i64) a)) (fun a h => op_ix (enc := (PV.int .i64)) (by first | rfl | simp only [evs, tys, evl]) ⟨by first | rfl | simp only [evs, tys, evc], by decide⟩ h) (fun a => rfl) fun y34 hy34 => ?_
        try simp only [evs, tys]
        refine Imp.cnd ?_ ?_
        · exact Imp.some (StepR.ret ⟨i_20, by first | rfl | simp only [evs, tys, evl, elim_inl, elim_inr]⟩)
        · exact Imp.some (StepR.next ⟨by first | rfl | simp only [evs, tys, evl], rfl⟩)
    · refine Imp.op (f := fun a => .ref ((PV.int .i64) a)) (fun a h => op_ix (enc := (PV.int .i64)) (by first | rfl | simp only [evs, tys, evl]) ⟨by first | rfl | simp only [evs, tys, evc], by decide⟩ h) (fun a => rfl) fun y36 hy36 => ?_
      try simp only [evs, tys]
      refine Imp.cnd ?_ ?_
      · exact Imp.some (StepR.ret ⟨i_20, by first | rfl | simp only [evs, tys, evl, elim_inl, elim_inr]⟩)
      · exact Imp.some (StepR.next ⟨by first | rfl | simp only [evs, tys, evl], rfl⟩)
  · exact Imp.some (StepR.brk ⟨i_20, by first | rfl | simp only [evs, tys, evl, elim_inl, elim_inr]⟩)
theorem seineref1_Source_imp (s : Str) : Imp (seineref1_Source_B s) (seineref1_Source_T1 O loopLim s) (fun r v => v = (seineref1_SourceE r, [])) := by
  simp only [seineref1_Source_B, seineref1_Source_T1]
  try simp only [evs, tys]
  refine Imp.call (f := seineref1_CodesE) rfl (fun a h => by first | exact seineref1_Codes_spec h | simpa only [evs, tys, evl] using seineref1_Codes_spec h) (fun a => by first | rfl | simp only [seineref1_CodesE, evk, chks]) fun y2 hy2 => ?_
  try simp only [seineref1_CodesE, evs, tys]
  refine Imp.bnd (Imp.loop (seineref1_Source_l1_ok y2) ⟨by first | rfl | simp only [evs, tys, evl], rfl⟩) ?_
  rintro (p | p) vy39 hy39
  · try simp only [elim_inl, elim_inr]
    obtain ⟨i_37, rfl⟩ := hy39
    refine Imp.exHit rfl (Imp.chk rfl (Imp.chk rfl ?_))
    try simp only [evs, tys]
    exact Imp.some (by first | rfl | simp only [seineref1_SourceE, evs, tys, evl])
  · try simp only [elim_inl, elim_inr]
    obtain ⟨i_38, rfl⟩ := hy39
    refine Imp.exMiss rfl ?_
    refine Imp.exHit rfl (Imp.chk rfl (Imp.chk rfl ?_))
    try simp only [evs, tys]
    exact Imp.some (by first | rfl | simp only [seineref1_SourceE, evs, tys, evl])
theorem seineref1_Source_run {s : Str} {r : Bool} (h : seineref1_Source_B s = some r) : seineref1_Source s = some r := by
  obtain ⟨v, hv, rfl⟩ := seineref1_Source_imp s r h
  exact tO_of (pair_inj seineref1_SourceEj) (OL_runD seineref1_Source_ds rfl rfl Tryd.func23 ((seineref1_Source_t1 _ _ s).trans hv))

def letters_Name_l1 (O : Orc) (LP : LBody → LBody) : LBody := fun s1 s1u => cnd (chkL [.str, .bool, (.int .i64), (.int .i64)] s1) (cnd (chkU [] s1u)
  (cnd (decide ((intV (gt s1 3)) < (intV (gt s1 2))))
   (bnd (ixStr (.str (strV (gt s1 0))) (.int .i64 (intV (gt s1 3)))) fun x11 => cnd (chk (.int .u8) x11)
   (callp O 27 [(.int .u8 (intV x11))] fun x13 => cnd (chk .bool x13)
   (cnd (!(boolV x13))
    (cnd ((intV (gt s1 3)) == 0)
     (some (.ret, [(.str (strV (gt s1 0))), (.bool false), (.int .i64 (intV (gt s1 2))), (.int .i64 (intV (gt s1 3)))], []))
     (bnd (ixStr (.str (strV (gt s1 0))) (.int .i64 (intV (gt s1 3)))) fun x15 => cnd (chk (.int .u8) x15)
     (callp O 28 [(.int .u8 (intV x15))] fun x17 => cnd (chk .bool x17)
     (cnd (!(boolV x17))
      (some (.ret, [(.str (strV (gt s1 0))), (.bool false), (.int .i64 (intV (gt s1 2))), (.int .i64 (intV (gt s1 3)))], []))
      (some (.nrm, [(.str (strV (gt s1 0))), (.bool (boolV (gt s1 1))), (.int .i64 (intV (gt s1 2))), (.int .i64 (IntKind.wrap .i64 ((intV (gt s1 3)) + 1)))], []))) none) none))
    (some (.nrm, [(.str (strV (gt s1 0))), (.bool (boolV (gt s1 1))), (.int .i64 (intV (gt s1 2))), (.int .i64 (IntKind.wrap .i64 ((intV (gt s1 3)) + 1)))], []))) none) none)
   (some (.brk 0, [(.str (strV (gt s1 0))), (.bool (boolV (gt s1 1))), (.int .i64 (intV (gt s1 2))), (.int .i64 (intV (gt s1 3)))], []))) none) none
def letters_Name_T1 (O : Orc) (LP : LBody → LBody) (s : Str) : Option (PV × UP) :=
  bnd (LP (letters_Name_l1 O LP) [(.str s), (.bool false), (.int .i64 (List.length s : Int)), (.int .i64 0)] []) fun y21 =>
  exIs y21.1 (some 0) (cnd (chkL [.str, .bool, (.int .i64), (.int .i64)] y21.2.1) (cnd (chkU [] y21.2.2)
   (some ((.bool (!((strV (gt y21.2.1 0)) == ([] : Str)))), [])) none) none)
  (exIs y21.1 none (cnd (chkL [.str, .bool, (.int .i64), (.int .i64)] y21.2.1) (cnd (chkU [] y21.2.2)
   (some ((.bool (boolV (gt y21.2.1 1))), [])) none) none)
  (none))
noncomputable def letters_Name_l1T (s : Str) : Int → Option (Int ⊕ (Unit ⊕ Unit))
  | t_10 =>
  cnd (decide (t_10 < (List.length s : Int)))
   (bnd (nthI s t_10) fun y12 =>
   bnd (letters_Letter (y12.toNat : Int)) fun y14 =>
   cnd (!y14)
    (cnd (t_10 == 0)
     (some (.inr (.inr ())))
     (bnd (nthI s t_10) fun y16 =>
     bnd (letters_Digit (y16.toNat : Int)) fun y18 =>
     cnd (!y18)
      (some (.inr (.inr ())))
      (some (.inl (IntKind.wrap .i64 (t_10 + 1))))))
    (some (.inl (IntKind.wrap .i64 (t_10 + 1)))))
   (some (.inr (.inl ())))
abbrev letters_Name_l1R (s : Str) (st : Int) (l : List PV) (u : UP) : Prop := l = [(.str s), (.bool false), (.int .i64 (List.length s : Int)), (.int .i64 st)] ∧ u = []
abbrev letters_Name_l1X (s : Str) (p : Unit ⊕ Unit) (r : Ex × List PV × UP) : Prop := elim p (fun (p : Unit) => ∃ (t_19 : Int), r = (Ex.brk 0, [(.str s), (.bool false), (.int .i64 (List.length s : Int)), (.int .i64 t_19)], [])) (fun q2 => (fun (p : Unit) => ∃ (t_20 : Int), r = (Ex.ret, [(.str s), (.bool false), (.int .i64 (List.length s : Int)), (.int .i64 t_20)], [])) q2)
noncomputable def letters_Name_B (s : Str) : Option Bool :=
  bnd (tloop (letters_Name_l1T s) 0) fun e21_2 => elim e21_2
  (fun p21 =>
   some (!(s == ([] : Str))))
  (fun p21 =>
  some false)
def letters_Name_ds : Decs := { decs := [(11, (.int .u8)), (12, .bool), (20, (.int .u8)), (21, .bool)], ups := [], loops := [(2, [], ⟨[.str, .bool, (.int .i64), (.int .i64)], [], [(some 0, [.str, .bool, (.int .i64), (.int .i64)], []), (none, [.str, .bool, (.int .i64), (.int .i64)], [])]⟩)] }
set_option maxRecDepth 100000 in
theorem letters_Name_t1 (O : Orc) (LP : LBody → LBody) (s : Str) : evalBodyD Tryd.prog (MT 14) letters_Name_ds Tryd.f14.ntmps O LP Tryd.f14 [(.str s)] [] = letters_Name_T1 O LP s := by kernel_rfl
theorem letters_Name_l1_ok (s : Str) : ∀ st l u, letters_Name_l1R s st l u → Imp (letters_Name_l1T s st) (letters_Name_l1 O loopLim l u) (StepR (letters_Name_l1R s) (letters_Name_l1X s)) := by
  rintro t_10 l u ⟨rfl, rfl⟩
  simp only [letters_Name_l1T, letters_Name_l1]
  refine Imp.chk rfl (Imp.chk rfl ?_)
  try simp only [evs, tys]
  refine Imp.cnd ?_ ?_
  · refine Imp.op (f := fun a => .int .u8 (a.toNat : Int)) (fun a h => op_ixStr h) (fun a => rfl) fun y12 hy12 => ?_
    try simp only [evs, tys]
    refine Imp.call (f := letters_LetterE) rfl (fun a h => by first | exact letters_Letter_spec h | simpa only [evs, tys, evl] using letters_Letter_spec h) (fun a => by first | rfl | simp only [letters_LetterE, evk, chks]) fun y14 hy14 => ?_
    try simp only [letters_LetterE, evs, tys]
    refine Imp.cnd ?_ ?_
    · refine Imp.cnd ?_ ?_
      · exact Imp.some (StepR.ret ⟨t_10, by first | rfl | simp only [evs, tys, evl, elim_inl, elim_inr]⟩)
      · refine Imp.op (f := fun a => .int .u8 (a.toNat : Int)) (fun a h => op_ixStr h) (fun a => rfl) fun y16 hy16 => ?_
        try simp only [evs, tys]
        refine Imp.call (f := letters_DigitE) rfl (fun a h => by first | exact letters_Digit_spec h | simpa only [evs, tys, evl] using letters_Digit_spec h) (fun a => by first | rfl | simp only [letters_DigitE, evk, chks]) fun y18 hy18 => ?_
        try simp only [letters_DigitE, evs, tys]
        refine Imp.cnd ?_ ?_
        · exact Imp.some (StepR.ret ⟨t_10, by first | rfl | simp only [evs, tys, evl, elim_inl, elim_inr]⟩)
        · exact Imp.some (StepR.next ⟨by first | rfl | simp only [evs, tys, evl], rfl⟩)
    · exact Imp.some (StepR.next ⟨by first | rfl | simp only [evs, tys, evl], rfl⟩)
  · exact Imp.some (StepR.brk ⟨t_10, by first | rfl | simp only [evs, tys, evl, elim_inl, elim_inr]⟩)
theorem letters_Name_imp (s : Str) : Imp (letters_Name_B s) (letters_Name_T1 O loopLim s) (fun r v => v = (letters_NameE r, [])) := by
  simp only [letters_Name_B, letters_Name_T1]
  try simp only [evs, tys]
  refine Imp.bnd (Imp.loop (letters_Name_l1_ok s) ⟨by first | rfl | simp only [evs, tys, evl], rfl⟩) ?_
  rintro (p | p) vy21 hy21
  · try simp only [elim_inl, elim_inr]
    obtain ⟨t_19, rfl⟩ := hy21
    refine Imp.exHit rfl (Imp.chk rfl (Imp.chk rfl ?_))
    try simp only [evs, tys]
    exact Imp.some (by first | rfl | simp only [letters_NameE, evs, tys, evl])
  · try simp only [elim_inl, elim_inr]
    obtain ⟨t_20, rfl⟩ := hy21
    refine Imp.exMiss rfl ?_
    refine Imp.exHit rfl (Imp.chk rfl (Imp.chk rfl ?_))
    try simp only [evs, tys]
    exact Imp.some (by first | rfl | simp only [letters_NameE, evs, tys, evl])
theorem letters_Name_run {s : Str} {r : Bool} (h : letters_Name_B s = some r) : letters_Name s = some r := by
  obtain ⟨v, hv, rfl⟩ := letters_Name_imp s r h
  exact tO_of (pair_inj letters_NameEj) (OL_runD letters_Name_ds rfl rfl Tryd.func14 ((letters_Name_t1 _ _ s).trans hv))

def seineref1_Name_l1 (O : Orc) (LP : LBody → LBody) : LBody := fun s5 s5u => cnd (chkL [.str, .bool, (.int .i64)] s5) (cnd (chkU [] s5u)
  (cnd (decide ((intV (gt s5 2)) < (List.length (strV (gt s5 0)) : Int)))
   (bnd (ixStr (.str (strV (gt s5 0))) (.int .i64 (intV (gt s5 2)))) fun x15 => cnd (chk (.int .u8) x15)
   (callp O 33 [(.int .u8 (intV x15))] fun x17 => cnd (chk .bool x17)
   (cnd (!(boolV x17))
    (bnd (ixStr (.str (strV (gt s5 0))) (.int .i64 (intV (gt s5 2)))) fun x19 => cnd (chk (.int .u8) x19)
    (callp O 34 [(.int .u8 (intV x19))] fun x21 => cnd (chk .bool x21)
    (cnd (!(boolV x21))
     (some (.ret, [(.str (strV (gt s5 0))), (.bool false), (.int .i64 (intV (gt s5 2)))], []))
     (some (.nrm, [(.str (strV (gt s5 0))), (.bool (boolV (gt s5 1))), (.int .i64 (IntKind.wrap .i64 ((intV (gt s5 2)) + 1)))], []))) none) none)
    (some (.nrm, [(.str (strV (gt s5 0))), (.bool (boolV (gt s5 1))), (.int .i64 (IntKind.wrap .i64 ((intV (gt s5 2)) + 1)))], []))) none) none)
   (some (.brk 0, [(.str (strV (gt s5 0))), (.bool (boolV (gt s5 1))), (.int .i64 (intV (gt s5 2)))], []))) none) none
def seineref1_Name_T1 (O : Orc) (LP : LBody → LBody) (s : Str) : Option (PV × UP) :=
  cnd (s == ([] : Str))
   (some ((.bool false), []))
   (bnd (ixStr (.str s) (.int .i64 0)) fun x1 => cnd (chk (.int .u8) x1)
   (callp O 33 [(.int .u8 (intV x1))] fun x3 => cnd (chk .bool x3)
   (cnd (!(boolV x3))
    (some ((.bool false), []))
    (bnd (LP (seineref1_Name_l1 O LP) [(.str s), (.bool false), (.int .i64 1)] []) fun y25 =>
    exIs y25.1 (some 0) (cnd (chkL [.str, .bool, (.int .i64)] y25.2.1) (cnd (chkU [] y25.2.2)
     (some ((.bool true), [])) none) none)
    (exIs y25.1 none (cnd (chkL [.str, .bool, (.int .i64)] y25.2.1) (cnd (chkU [] y25.2.2)
     (some ((.bool (boolV (gt y25.2.1 1))), [])) none) none)
    (none)))) none) none)
noncomputable def seineref1_Name_l1T (s : Str) : Int → Option (Int ⊕ (Unit ⊕ Unit))
  | i_14 =>
  cnd (decide (i_14 < (List.length s : Int)))
   (bnd (nthI s i_14) fun y16 =>
   bnd (seineref1_start (y16.toNat : Int)) fun y18 =>
   cnd (!y18)
    (bnd (nthI s i_14) fun y20 =>
    bnd (seineref1_digit (y20.toNat : Int)) fun y22 =>
    cnd (!y22)
     (some (.inr (.inr ())))
     (some (.inl (IntKind.wrap .i64 (i_14 + 1)))))
    (some (.inl (IntKind.wrap .i64 (i_14 + 1)))))
   (some (.inr (.inl ())))
abbrev seineref1_Name_l1R (s : Str) (st : Int) (l : List PV) (u : UP) : Prop := l = [(.str s), (.bool false), (.int .i64 st)] ∧ u = []
abbrev seineref1_Name_l1X (s : Str) (p : Unit ⊕ Unit) (r : Ex × List PV × UP) : Prop := elim p (fun (p : Unit) => ∃ (i_23 : Int), r = (Ex.brk 0, [(.str s), (.bool false), (.int .i64 i_23)], [])) (fun q2 => (fun (p : Unit) => ∃ (i_24 : Int), r = (Ex.ret, [(.str s), (.bool false), (.int .i64 i_24)], [])) q2)
noncomputable def seineref1_Name_B (s : Str) : Option Bool :=
  cnd (s == ([] : Str))
   (some false)
   (bnd (nthI s 0) fun y2 =>
   bnd (seineref1_start (y2.toNat : Int)) fun y4 =>
   cnd (!y4)
    (some false)
    (bnd (tloop (seineref1_Name_l1T s) 1) fun e25_2 => elim e25_2
    (fun p25 =>
     some true)
    (fun p25 =>
    some false)))
def seineref1_Name_ds : Decs := { decs := [(8, (.int .u8)), (9, .bool), (20, (.int .u8)), (21, .bool), (26, (.int .u8)), (27, .bool)], ups := [], loops := [(4, [], ⟨[.str, .bool, (.int .i64)], [], [(some 0, [.str, .bool, (.int .i64)], []), (none, [.str, .bool, (.int .i64)], [])]⟩)] }
set_option maxRecDepth 100000 in
theorem seineref1_Name_t1 (O : Orc) (LP : LBody → LBody) (s : Str) : evalBodyD Tryd.prog (MT 24) seineref1_Name_ds Tryd.f24.ntmps O LP Tryd.f24 [(.str s)] [] = seineref1_Name_T1 O LP s := by kernel_rfl
theorem seineref1_Name_l1_ok (s : Str) : ∀ st l u, seineref1_Name_l1R s st l u → Imp (seineref1_Name_l1T s st) (seineref1_Name_l1 O loopLim l u) (StepR (seineref1_Name_l1R s) (seineref1_Name_l1X s)) := by
  rintro i_14 l u ⟨rfl, rfl⟩
  simp only [seineref1_Name_l1T, seineref1_Name_l1]
  refine Imp.chk rfl (Imp.chk rfl ?_)
  try simp only [evs, tys]
  refine Imp.cnd ?_ ?_
  · refine Imp.op (f := fun a => .int .u8 (a.toNat : Int)) (fun a h => op_ixStr h) (fun a => rfl) fun y16 hy16 => ?_
    try simp only [evs, tys]
    refine Imp.call (f := seineref1_startE) rfl (fun a h => by first | exact seineref1_start_spec h | simpa only [evs, tys, evl] using seineref1_start_spec h) (fun a => by first | rfl | simp only [seineref1_startE, evk, chks]) fun y18 hy18 => ?_
    try simp only [seineref1_startE, evs, tys]
    refine Imp.cnd ?_ ?_
    · refine Imp.op (f := fun a => .int .u8 (a.toNat : Int)) (fun a h => op_ixStr h) (fun a => rfl) fun y20 hy20 => ?_
      try simp only [evs, tys]
      refine Imp.call (f := seineref1_digitE) rfl (fun a h => by first | exact seineref1_digit_spec h | simpa only [evs, tys, evl] using seineref1_digit_spec h) (fun a => by first | rfl | simp only [seineref1_digitE, evk, chks]) fun y22 hy22 => ?_
      try simp only [seineref1_digitE, evs, tys]
      refine Imp.cnd ?_ ?_
      · exact Imp.some (StepR.ret ⟨i_14, by first | rfl | simp only [evs, tys, evl, elim_inl, elim_inr]⟩)
      · exact Imp.some (StepR.next ⟨by first | rfl | simp only [evs, tys, evl], rfl⟩)
    · exact Imp.some (StepR.next ⟨by first | rfl | simp only [evs, tys, evl], rfl⟩)
  · exact Imp.some (StepR.brk ⟨i_14, by first | rfl | simp only [evs, tys, evl, elim_inl, elim_inr]⟩)
theorem seineref1_Name_imp (s : Str) : Imp (seineref1_Name_B s) (seineref1_Name_T1 O loopLim s) (fun r v => v = (seineref1_NameE r, [])) := by
  simp only [seineref1_Name_B, seineref1_Name_T1]
  try simp only [evs, tys]
  refine Imp.cnd ?_ ?_
  · exact Imp.some (by first | rfl | simp only [seineref1_NameE, evs, tys, evl])
  · refine Imp.op (f := fun a => .int .u8 (a.toNat : Int)) (fun a h => op_ixStr h) (fun a => rfl) fun y2 hy2 => ?_
    try simp only [evs, tys]
    refine Imp.call (f := seineref1_startE) rfl (fun a h => by first | exact seineref1_start_spec h | simpa only [evs, tys, evl] using seineref1_start_spec h) (fun a => by first | rfl | simp only [seineref1_startE, evk, chks]) fun y4 hy4 => ?_
    try simp only [seineref1_startE, evs, tys]
    refine Imp.cnd ?_ ?_
    · exact Imp.some (by first | rfl | simp only [seineref1_NameE, evs, tys, evl])
    · refine Imp.bnd (Imp.loop (seineref1_Name_l1_ok s) ⟨by first | rfl | simp only [evs, tys, evl], rfl⟩) ?_
      rintro (p | p) vy25 hy25
      · try simp only [elim_inl, elim_inr]
        obtain ⟨i_23, rfl⟩ := hy25
        refine Imp.exHit rfl (Imp.chk rfl (Imp.chk rfl ?_))
        try simp only [evs, tys]
        exact Imp.some (by first | rfl | simp only [seineref1_NameE, evs, tys, evl])
      · try simp only [elim_inl, elim_inr]
        obtain ⟨i_24, rfl⟩ := hy25
        refine Imp.exMiss rfl ?_
        refine Imp.exHit rfl (Imp.chk rfl (Imp.chk rfl ?_))
        try simp only [evs, tys]
        exact Imp.some (by first | rfl | simp only [seineref1_NameE, evs, tys, evl])
theorem seineref1_Name_run {s : Str} {r : Bool} (h : seineref1_Name_B s = some r) : seineref1_Name s = some r := by
  obtain ⟨v, hv, rfl⟩ := seineref1_Name_imp s r h
  exact tO_of (pair_inj seineref1_NameEj) (OL_runD seineref1_Name_ds rfl rfl Tryd.func24 ((seineref1_Name_t1 _ _ s).trans hv))

theorem utf8_DecodeRuneInString_run {s : Str} {r : Int × Int} (h : tDecode s = some r) : utf8_DecodeRuneInString s = some r := tO_of (pair_inj utf8_DecodeRuneInStringEj) (OL_ext (g := xDecode) rfl (xDecode_of h))

theorem utf8_ValidString_run {s : Str} {r : Bool} (h : tValid s = some r) : utf8_ValidString s = some r := tO_of (pair_inj utf8_ValidStringEj) (OL_ext (g := xValid) rfl (xValid_of h))

def letters_sign_T1 (O : Orc) (LP : LBody → LBody) (c : Int) : Option (PV × UP) :=
  cnd (c == 9)
   (some ((.bool true), []))
   (cnd (c == 10)
    (some ((.bool true), []))
    (cnd (c == 13)
     (some ((.bool true), []))
     (cnd (decide (c ≥ 32))
      (some ((.bool (decide (c ≤ 65535))), []))
      (some ((.bool false), [])))))
noncomputable def letters_sign_B (c : Int) : Option Bool :=
  cnd (c == 9)
   (some true)
   (cnd (c == 10)
    (some true)
    (cnd (c == 13)
     (some true)
     (cnd (decide (c ≥ 32))
      (some (decide (c ≤ 65535)))
      (some false))))
def letters_sign_ds : Decs := { decs := [], ups := [], loops := [] }
set_option maxRecDepth 100000 in
theorem letters_sign_t1 (O : Orc) (LP : LBody → LBody) (c : Int) : evalBodyD Tryd.prog (MT 31) letters_sign_ds Tryd.f31.ntmps O LP Tryd.f31 [(.int .i64 c)] [] = letters_sign_T1 O LP c := by kernel_rfl
theorem letters_sign_imp (c : Int) : Imp (letters_sign_B c) (letters_sign_T1 O loopLim c) (fun r v => v = (letters_signE r, [])) := by
  simp only [letters_sign_B, letters_sign_T1]
  try simp only [evs, tys]
  refine Imp.cnd ?_ ?_
  · exact Imp.some (by first | rfl | simp only [letters_signE, evs, tys, evl])
  · refine Imp.cnd ?_ ?_
    · exact Imp.some (by first | rfl | simp only [letters_signE, evs, tys, evl])
    · refine Imp.cnd ?_ ?_
      · exact Imp.some (by first | rfl | simp only [letters_signE, evs, tys, evl])
      · refine Imp.cnd ?_ ?_
        · exact Imp.some (by first | rfl | simp only [letters_signE, evs, tys, evl])
        · exact Imp.some (by first | rfl | simp only [letters_signE, evs, tys, evl])
theorem letters_sign_run {c : Int} {r : Bool} (h : letters_sign_B c = some r) : letters_sign c = some r := by
  obtain ⟨v, hv, rfl⟩ := letters_sign_imp c r h
  exact tO_of (pair_inj letters_signEj) (OL_runD letters_sign_ds rfl rfl Tryd.func31 ((letters_sign_t1 _ _ c).trans hv))
end Go.Proofs.YtanjedcndpcgfaaDoor

/- Printed by symgen.py: typed functions of this seat, and why they tell what the program does. -/
set_option linter.unusedVariables false
set_option linter.unusedSimpArgs false
open Go Go.Ev Go.Ev.PV
namespace Go.Proofs.YtanjedcndpcgfaaDoor
def utf8_AppendRune_T1 (O : Orc) (LP : LBody → LBody) (p0 : List Int) (r0 : Int) : Option (PV × UP) :=
  cnd (decide ((IntKind.wrap .u32 r0) ≤ 127))
   (bnd (apd 1 (.slice (List.map (PV.int .u8) p0) [] true) (.slice [(.int .u8 (IntKind.wrap .u8 r0))] [] true)) fun x1 => cnd (chk (.sl true) x1)
   (some ((.slice (esV x1) [] true), [])) none)
   (callp O 35 [(.slice (List.map (PV.int .u8) p0) [] true), (.int .i32 r0)] fun x3 => cnd (chk (.sl true) x3)
   (some ((.slice (esV x3) [] true), [])) none)
noncomputable def utf8_AppendRune_B (p0 : List Int) (r0 : Int) : Option (List Int) :=
  cnd (decide ((IntKind.wrap .u32 r0) ≤ 127))
   (bnd (tapp p0 [(IntKind.wrap .u8 r0)]) fun y2 =>
   some y2)
   (bnd (utf8_appendRuneNonASCII p0 r0) fun y4 =>
   some y4)
def utf8_AppendRune_ds : Decs := { decs := [(12, (.sl true)), (15, (.sl true))], ups := [], loops := [] }
set_option maxRecDepth 100000 in
theorem utf8_AppendRune_t1 (O : Orc) (LP : LBody → LBody) (p0 : List Int) (r0 : Int) : evalBodyD Tryd.prog (MT 25) utf8_AppendRune_ds Tryd.f25.ntmps O LP Tryd.f25 [(.slice (List.map (PV.int .u8) p0) [] true), (.int .i32 r0)] [] = utf8_AppendRune_T1 O LP p0 r0 := by kernel_rfl
theorem utf8_AppendRune_imp (p0 : List Int) (r0 : Int) : Imp (utf8_AppendRune_B p0 r0) (utf8_AppendRune_T1 O loopLim p0 r0) (fun r v => v = (utf8_AppendRuneE r, [])) := by
  simp only [utf8_AppendRune_B, utf8_AppendRune_T1]
  try simp only [evs, tys]
  refine Imp.cnd ?_ ?_
  · refine Imp.op (f := fun a => .slice (List.map (PV.int .u8) a) [] true) (fun a h => op_apd (enc := (PV.int .u8)) (by first | rfl | simp only [evs, tys, evl]) (by first | rfl | simp only [evs, tys, evl]) (fun a => by first | rfl | simp only [evs, tys, evc]) h) (fun a => rfl) fun y2 hy2 => ?_
    try simp only [evs, tys]
    exact Imp.some (by first | rfl | simp only [utf8_AppendRuneE, evs, tys, evl])
  · refine Imp.call (f := utf8_appendRuneNonASCIIE) rfl (fun a h => by first | exact utf8_appendRuneNonASCII_spec h | simpa only [evs, tys, evl] using utf8_appendRuneNonASCII_spec h) (fun a => by first | rfl | simp only [utf8_appendRuneNonASCIIE, evk, chks]) fun y4 hy4 => ?_
    try simp only [utf8_appendRuneNonASCIIE, evs, tys]
    exact Imp.some (by first | rfl | simp only [utf8_AppendRuneE, evs, tys, evl])
theorem utf8_AppendRune_run {p0 : List Int} {r0 : Int} {r : List Int} (h : utf8_AppendRune_B p0 r0 = some r) : utf8_AppendRune p0 r0 = some r := by
  obtain ⟨v, hv, rfl⟩ := utf8_AppendRune_imp p0 r0 r h
  exact tO_of (pair_inj utf8_AppendRuneEj) (OL_runD utf8_AppendRune_ds rfl rfl Tryd.func25 ((utf8_AppendRune_t1 _ _ p0 r0).trans hv))

def seineref1_Codes_l1 (O : Orc) (LP : LBody → LBody) : LBody := fun s1 s1u => cnd (chkL [.str, (.sl true), .bool, (.sl true), (.int .i64)] s1) (cnd (chkU [] s1u)
  (cnd (decide ((intV (gt s1 4)) < (List.length (strV (gt s1 0)) : Int)))
   (callp O 20 [(.str (strV (gt s1 0))), (.int .i64 (intV (gt s1 4)))] fun x8 => cnd (chk (.tup [(.int .i64), (.int .i64)]) x8)
   (cnd ((intV (gt (tupV x8) 1)) == 0)
    (some (.ret, [(.str (strV (gt s1 0))), (.slice [] [] true), (.bool false), (.slice (esV (gt s1 3)) [] true), (.int .i64 (intV (gt s1 4)))], []))
    (bnd (apd 1 (.slice (esV (gt s1 3)) [] true) (.slice [(.int .i64 (intV (gt (tupV x8) 0)))] [] true)) fun x10 => cnd (chk (.sl true) x10)
    (some (.nrm, [(.str (strV (gt s1 0))), (.slice (esV (gt s1 1)) [] true), (.bool (boolV (gt s1 2))), (.slice (esV x10) [] true), (.int .i64 (IntKind.wrap .i64 ((intV (gt s1 4)) + (intV (gt (tupV x8) 1)))))], [])) none)) none)
   (some (.brk 0, [(.str (strV (gt s1 0))), (.slice (esV (gt s1 1)) [] true), (.bool (boolV (gt s1 2))), (.slice (esV (gt s1 3)) [] true), (.int .i64 (intV (gt s1 4)))], []))) none) none
def seineref1_Codes_T1 (O : Orc) (LP : LBody → LBody) (s : Str) : Option (PV × UP) :=
  bnd (LP (seineref1_Codes_l1 O LP) [(.str s), (.slice [] [] true), (.bool false), (.slice [] [] true), (.int .i64 0)] []) fun y16 =>
  exIs y16.1 (some 0) (cnd (chkL [.str, (.sl true), .bool, (.sl true), (.int .i64)] y16.2.1) (cnd (chkU [] y16.2.2)
   (some ((.tuple [(.slice (esV (gt y16.2.1 3)) [] false), (.bool true)]), [])) none) none)
  (exIs y16.1 none (cnd (chkL [.str, (.sl true), .bool, (.sl true), (.int .i64)] y16.2.1) (cnd (chkU [] y16.2.2)
   (some ((.tuple [(.slice (esV (gt y16.2.1 1)) [] false), (.bool (boolV (gt y16.2.1 2)))]), [])) none) none)
  (none))
noncomputable def seineref1_Codes_l1T (s : Str) : ((List Int) × Int) → Option (((List Int) × Int) ⊕ ((List Int) ⊕ Unit))
  | (out_6, i_7) =>
  cnd (decide (i_7 < (List.length s : Int)))
   (bnd (seineref1_Code s i_7) fun y9 =>
   cnd (y9.2 == 0)
    (some (.inr (.inr ())))
    (bnd (tapp out_6 [y9.1]) fun y11 =>
    some (.inl (y11, (IntKind.wrap .i64 (i_7 + y9.2))))))
   (some (.inr (.inl out_6)))
abbrev seineref1_Codes_l1R (s : Str) (st : (List Int) × Int) (l : List PV) (u : UP) : Prop := l = [(.str s), (.slice [] [] true), (.bool false), (.slice (List.map (PV.int .i64) st.1) [] true), (.int .i64 st.2)] ∧ u = []
abbrev seineref1_Codes_l1X (s : Str) (p : (List Int) ⊕ Unit) (r : Ex × List PV × UP) : Prop := elim p (fun (p : (List Int)) => ∃ (i_13 : Int), r = (Ex.brk 0, [(.str s), (.slice [] [] true), (.bool false), (.slice (List.map (PV.int .i64) p) [] true), (.int .i64 i_13)], [])) (fun q2 => (fun (p : Unit) => ∃ (out_14 : List Int), ∃ (i_15 : Int), r = (Ex.ret, [(.str s), (.slice [] [] true), (.bool false), (.slice (List.map (PV.int .i64) out_14) [] true), (.int .i64 i_15)], [])) q2)
noncomputable def seineref1_Codes_B (s : Str) : Option ((List Int) × Bool) :=
  bnd (tloop (seineref1_Codes_l1T s) ([], 0)) fun e16_2 => elim e16_2
  (fun out_12 =>
   some (out_12, true))
  (fun p16 =>
  some (([] : List Int), false))
def seineref1_Codes_ds : Decs := { decs := [(15, (.tup [(.int .i64), (.int .i64)])), (23, (.sl true))], ups := [], loops := [(3, [], ⟨[.str, (.sl true), .bool, (.sl true), (.int .i64)], [], [(some 0, [.str, (.sl true), .bool, (.sl true), (.int .i64)], []), (none, [.str, (.sl true), .bool, (.sl true), (.int .i64)], [])]⟩)] }
set_option maxRecDepth 100000 in
theorem seineref1_Codes_t1 (O : Orc) (LP : LBody → LBody) (s : Str) : evalBodyD Tryd.prog (MT 32) seineref1_Codes_ds Tryd.f32.ntmps O LP Tryd.f32 [(.str s)] [] = seineref1_Codes_T1 O LP s := by kernel_rfl
theorem seineref1_Codes_l1_ok (s : Str) : ∀ st l u, seineref1_Codes_l1R s st l u → Imp (seineref1_Codes_l1T s st) (seineref1_Codes_l1 O loopLim l u) (StepR (seineref1_Codes_l1R s) (seineref1_Codes_l1X s)) := by
  rintro ⟨out_6, i_7⟩ l u ⟨rfl, rfl⟩
  simp only [seineref1_Codes_l1T, seineref1_Codes_l1]
  refine Imp.chk rfl (Imp.chk rfl ?_)
  try simp only [evs, tys]
  refine Imp.cnd ?_ ?_
  · refine Imp.call (f := seineref1_CodeE) rfl (fun a h => by first | exact seineref1_Code_spec h | simpa only [evs, tys, evl] using seineref1_Code_spec h) (fun a => by first | rfl | simp only [seineref1_CodeE, evk, chks]) fun y9 hy9 => ?_
    try simp only [seineref1_CodeE, evs, tys]
    refine Imp.cnd ?_ ?_
    · exact Imp.some (StepR.ret ⟨out_6, i_7, by first | rfl | simp only [evs, tys, evl, elim_inl, elim_inr]⟩)
    · refine Imp.op (f := fun a => .slice (List.map (PV.int .i64) a) [] true) (fun a h => op_apd (enc := (PV.int .i64)) (by first | rfl | simp only [evs, tys, evl]) (by first | rfl | simp only [evs, tys, evl]) (fun a => by first | rfl | simp only [evs, tys, evc]) h) (fun a => rfl) fun y11 hy11 => ?_
      try simp only [evs, tys]
      exact Imp.some (StepR.next ⟨by first | rfl | simp only [evs, tys, evl], rfl⟩)
  · exact Imp.some (StepR.brk ⟨i_7, by first | rfl | simp only [evs, tys, evl, elim_inl, elim_inr]⟩)
theorem seineref1_Codes_imp (s : Str) : Imp (seineref1_Codes_B s) (seineref1_Codes_T1 O loopLim s) (fun r v => v = (seineref1_CodesE r, [])) := by
  simp only [seineref1_Codes_B, seineref1_Codes_T1]
  try simp only [evs, tys]
  refine Imp.bnd (Imp.loop (seineref1_Codes_l1_ok s) ⟨by first | rfl | simp only [evs, tys, evl], rfl⟩) ?_
  rintro (out_12 | p) vy16 hy16
  · try simp only [elim_inl, elim_inr]
    obtain ⟨i_13, rfl⟩ := hy16
    refine Imp.exHit rfl (Imp.chk rfl (Imp.chk rfl ?_))
    try simp only [evs, tys]
    exact Imp.some (by first | rfl | simp only [seineref1_CodesE, evs, tys, evl])
  · try simp only [elim_inl, elim_inr]
    obtain ⟨out_14, i_15, rfl⟩ := hy16
    refine Imp.exMiss rfl ?_
    refine Imp.exHit rfl (Imp.chk rfl (Imp.chk rfl ?_))
    try simp only [evs, tys]
    exact Imp.some (by first | rfl | simp only [seineref1_CodesE, evs, tys, evl])
theorem seineref1_Codes_run {s : Str} {r : (List Int) × Bool} (h : seineref1_Codes_B s = some r) : seineref1_Codes s = some r := by
  obtain ⟨v, hv, rfl⟩ := seineref1_Codes_imp s r h
  exact tO_of (pair_inj seineref1_CodesEj) (OL_runD seineref1_Codes_ds rfl rfl Tryd.func32 ((seineref1_Codes_t1 _ _ s).trans hv))

def letters_Letter_T1 (O : Orc) (LP : LBody → LBody) (c : Int) : Option (PV × UP) :=
  cnd (decide (c ≥ 97))
   (cnd (decide (c ≤ 122))
    (some ((.bool true), []))
    (cnd (decide (c ≥ 65))
     (cnd (decide (c ≤ 90))
      (some ((.bool true), []))
      (some ((.bool (c == 95)), [])))
     (some ((.bool (c == 95)), []))))
   (cnd (decide (c ≥ 65))
    (cnd (decide (c ≤ 90))
     (some ((.bool true), []))
     (some ((.bool (c == 95)), [])))
    (some ((.bool (c == 95)), [])))
noncomputable def letters_Letter_B (c : Int) : Option Bool :=
  cnd (decide (c ≥ 97))
   (cnd (decide (c ≤ 122))
    (some true)
    (cnd (decide (c ≥ 65))
     (cnd (decide (c ≤ 90))
      (some true)
      (some (c == 95)))
     (some (c == 95))))
   (cnd (decide (c ≥ 65))
    (cnd (decide (c ≤ 90))
     (some true)
     (some (c == 95)))
    (some (c == 95)))
def letters_Letter_ds : Decs := { decs := [], ups := [], loops := [] }
set_option maxRecDepth 100000 in
theorem letters_Letter_t1 (O : Orc) (LP : LBody → LBody) (c : Int) : evalBodyD Tryd.prog (MT 27) letters_Letter_ds Tryd.f27.ntmps O LP Tryd.f27 [(.int .u8 c)] [] = letters_Letter_T1 O LP c := by kernel_rfl
theorem letters_Letter_imp (c : Int) : Imp (letters_Letter_B c) (letters_Letter_T1 O loopLim c) (fun r v => v = (letters_LetterE r, [])) := by
  simp only [letters_Letter_B, letters_Letter_T1]
  try simp only [evs, tys]
  refine Imp.cnd ?_ ?_
  · refine Imp.cnd ?_ ?_
    · exact Imp.some (by first | rfl | simp only [letters_LetterE, evs, tys, evl])
    · refine Imp.cnd ?_ ?_
      · refine Imp.cnd ?_ ?_
        · exact Imp.some (by first | rfl | simp only [letters_LetterE, evs, tys, evl])
        · exact Imp.some (by first | rfl | simp only [letters_LetterE, evs, tys, evl])
      · exact Imp.some (by first | rfl | simp only [letters_LetterE, evs, tys, evl])
  · refine Imp.cnd ?_ ?_
    · refine Imp.cnd ?_ ?_
      · exact Imp.some (by first | rfl | simp only [letters_LetterE, evs, tys, evl])
      · exact Imp.some (by first | rfl | simp only [letters_LetterE, evs, tys, evl])
    · exact Imp.some (by first | rfl | simp only [letters_LetterE, evs, tys, evl])
theorem letters_Letter_run {c : Int} {r : Bool} (h : letters_Letter_B c = some r) : letters_Letter c = some r := by
  obtain ⟨v, hv, rfl⟩ := letters_Letter_imp c r h
  exact tO_of (pair_inj letters_LetterEj) (OL_runD letters_Letter_ds rfl rfl Tryd.func27 ((letters_Letter_t1 _ _ c).trans hv))

def letters_Digit_T1 (O : Orc) (LP : LBody → LBody) (c : Int) : Option (PV × UP) :=
  cnd (decide (c ≥ 48))
   (some ((.bool (decide (c ≤ 57))), []))
   (some ((.bool false), []))
noncomputable def letters_Digit_B (c : Int) : Option Bool :=
  cnd (decide (c ≥ 48))
   (some (decide (c ≤ 57)))
   (some false)
def letters_Digit_ds : Decs := { decs := [], ups := [], loops := [] }
set_option maxRecDepth 100000 in
theorem letters_Digit_t1 (O : Orc) (LP : LBody → LBody) (c : Int) : evalBodyD Tryd.prog (MT 28) letters_Digit_ds Tryd.f28.ntmps O LP Tryd.f28 [(.int .u8 c)] [] = letters_Digit_T1 O LP c := by kernel_rfl
theorem letters_Digit_imp (c : Int) : Imp (letters_Digit_B c) (letters_Digit_T1 O loopLim c) (fun r v => v = (letters_DigitE r, [])) := by
  simp only [letters_Digit_B, letters_Digit_T1]
  try simp only [evs, tys]
  refine Imp.cnd ?_ ?_
  · exact Imp.some (by first | rfl | simp only [letters_DigitE, evs, tys, evl])
  · exact Imp.some (by first | rfl | simp only [letters_DigitE, evs, tys, evl])
theorem letters_Digit_run {c : Int} {r : Bool} (h : letters_Digit_B c = some r) : letters_Digit c = some r := by
  obtain ⟨v, hv, rfl⟩ := letters_Digit_imp c r h
  exact tO_of (pair_inj letters_DigitEj) (OL_runD letters_Digit_ds rfl rfl Tryd.func28 ((letters_Digit_t1 _ _ c).trans hv))

def seineref1_start_T1 (O : Orc) (LP : LBody → LBody) (c : Int) : Option (PV × UP) :=
  cnd (decide (c ≥ 97))
   (cnd (decide (c ≤ 122))
    (some ((.bool true), []))
    (cnd (decide (c ≥ 65))
     (cnd (decide (c ≤ 90))
      (some ((.bool true), []))
      (some ((.bool (c == 95)), [])))
     (some ((.bool (c == 95)), []))))
   (cnd (decide (c ≥ 65))
    (cnd (decide (c ≤ 90))
     (some ((.bool true), []))
     (some ((.bool (c == 95)), [])))
    (some ((.bool (c == 95)), [])))
noncomputable def seineref1_start_B (c : Int) : Option Bool :=
  cnd (decide (c ≥ 97))
   (cnd (decide (c ≤ 122))
    (some true)
    (cnd (decide (c ≥ 65))
     (cnd (decide (c ≤ 90))
      (some true)
      (some (c == 95)))
     (some (c == 95))))
   (cnd (decide (c ≥ 65))
    (cnd (decide (c ≤ 90))
     (some true)
     (some (c == 95)))
    (some (c == 95)))
def seineref1_start_ds : Decs := { decs := [], ups := [], loops := [] }
set_option maxRecDepth 100000 in
theorem seineref1_start_t1 (O : Orc) (LP : LBody → LBody) (c : Int) : evalBodyD Tryd.prog (MT 33) seineref1_start_ds Tryd.f33.ntmps O LP Tryd.f33 [(.int .u8 c)] [] = seineref1_start_T1 O LP c := by kernel_rfl
theorem seineref1_start_imp (c : Int) : Imp (seineref1_start_B c) (seineref1_start_T1 O loopLim c) (fun r v => v = (seineref1_startE r, [])) := by
  simp only [seineref1_start_B, seineref1_start_T1]
  try simp only [evs, tys]
  refine Imp.cnd ?_ ?_
  · refine Imp.cnd ?_ ?_
    · exact Imp.some (by first | rfl | simp only [seineref1_startE, evs, tys, evl])
    · refine Imp.cnd ?_ ?_
      · refine Imp.cnd ?_ ?_
        · exact Imp.some (by first | rfl | simp only [seineref1_startE, evs, tys, evl])
        · exact Imp.some (by first | rfl | simp only [seineref1_startE, evs, tys, evl])
      · exact Imp.some (by first | rfl | simp only [seineref1_startE, evs, tys, evl])
  · refine Imp.cnd ?_ ?_
    · refine Imp.cnd ?_ ?_
      · exact Imp.some (by first | rfl | simp only [seineref1_startE, evs, tys, evl])
      · exact Imp.some (by first | rfl | simp only [seineref1_startE, evs, tys, evl])
    · exact Imp.some (by first | rfl | simp only [seineref1_startE, evs, tys, evl])
theorem seineref1_start_run {c : Int} {r : Bool} (h : seineref1_start_B c = some r) : seineref1_start c = some r := by
  obtain ⟨v, hv, rfl⟩ := seineref1_start_imp c r h
  exact tO_of (pair_inj seineref1_startEj) (OL_runD seineref1_start_ds rfl rfl Tryd.func33 ((seineref1_start_t1 _ _ c).trans hv))

def seineref1_digit_T1 (O : Orc) (LP : LBody → LBody) (c : Int) : Option (PV × UP) :=
  cnd (decide (c ≥ 48))
   (some ((.bool (decide (c ≤ 57))), []))
   (some ((.bool false), []))
noncomputable def seineref1_digit_B (c : Int) : Option Bool :=
  cnd (decide (c ≥ 48))
   (some (decide (c ≤ 57)))
   (some false)
def seineref1_digit_ds : Decs := { decs := [], ups := [], loops := [] }
set_option maxRecDepth 100000 in
theorem seineref1_digit_t1 (O : Orc) (LP : LBody → LBody) (c : Int) : evalBodyD Tryd.prog (MT 34) seineref1_digit_ds Tryd.f34.ntmps O LP Tryd.f34 [(.int .u8 c)] [] = seineref1_digit_T1 O LP c := by kernel_rfl
theorem seineref1_digit_imp (c : Int) : Imp (seineref1_digit_B c) (seineref1_digit_T1 O loopLim c) (fun r v => v = (seineref1_digitE r, [])) := by
  simp only [seineref1_digit_B, seineref1_digit_T1]
  try simp only [evs, tys]
  refine Imp.cnd ?_ ?_
  · exact Imp.some (by first | rfl | simp only [seineref1_digitE, evs, tys, evl])
  · exact Imp.some (by first | rfl | simp only [seineref1_digitE, evs, tys, evl])
theorem seineref1_digit_run {c : Int} {r : Bool} (h : seineref1_digit_B c = some r) : seineref1_digit c = some r := by
  obtain ⟨v, hv, rfl⟩ := seineref1_digit_imp c r h
  exact tO_of (pair_inj seineref1_digitEj) (OL_runD seineref1_digit_ds rfl rfl Tryd.func34 ((seineref1_digit_t1 _ _ c).trans hv))

def utf8_appendRuneNonASCII_T1 (O : Orc) (LP : LBody → LBody) (p0 : List Int) (r0 : Int) : Option (PV × UP) :=
  cnd (decide ((IntKind.wrap .u32 r0) ≤ 2047))
   (bnd (apd 1 (.slice (List.map (PV.int .u8) p0) [] true) (.slice [(.int .u8 (bits .or .u8 192 (IntKind.wrap .u8 (Int.fdiv r0 (2 ^ min (Int.toNat 6) 32))))), (.int .u8 (bits .or .u8 128 (bits .and .u8 (IntKind.wrap .u8 r0) 63)))] [] true)) fun x1 => cnd (chk (.sl true) x1)
   (some ((.slice (esV x1) [] true), [])) none)
   (cnd (decide ((IntKind.wrap .u32 r0) < 55296))
    (bnd (apd 1 (.slice (List.map (PV.int .u8) p0) [] true) (.slice [(.int .u8 (bits .or .u8 224 (IntKind.wrap .u8 (Int.fdiv r0 (2 ^ min (Int.toNat 12) 32))))), (.int .u8 (bits .or .u8 128 (bits .and .u8 (IntKind.wrap .u8 (Int.fdiv r0 (2 ^ min (Int.toNat 6) 32))) 63))), (.int .u8 (bits .or .u8 128 (bits .and .u8 (IntKind.wrap .u8 r0) 63)))] [] true)) fun x3 => cnd (chk (.sl true) x3)
    (some ((.slice (esV x3) [] true), [])) none)
    (cnd (decide ((57343 : Int) < (IntKind.wrap .u32 r0)))
     (cnd (decide ((IntKind.wrap .u32 r0) ≤ 65535))
      (bnd (apd 1 (.slice (List.map (PV.int .u8) p0) [] true) (.slice [(.int .u8 (bits .or .u8 224 (IntKind.wrap .u8 (Int.fdiv r0 (2 ^ min (Int.toNat 12) 32))))), (.int .u8 (bits .or .u8 128 (bits .and .u8 (IntKind.wrap .u8 (Int.fdiv r0 (2 ^ min (Int.toNat 6) 32))) 63))), (.int .u8 (bits .or .u8 128 (bits .and .u8 (IntKind.wrap .u8 r0) 63)))] [] true)) fun x5 => cnd (chk (.sl true) x5)
      (some ((.slice (esV x5) [] true), [])) none)
      (cnd (decide ((IntKind.wrap .u32 r0) > 65535))
       (cnd (decide ((IntKind.wrap .u32 r0) ≤ 1114111))
        (bnd (apd 1 (.slice (List.map (PV.int .u8) p0) [] true) (.slice [(.int .u8 (bits .or .u8 240 (IntKind.wrap .u8 (Int.fdiv r0 (2 ^ min (Int.toNat 18) 32))))), (.int .u8 (bits .or .u8 128 (bits .and .u8 (IntKind.wrap .u8 (Int.fdiv r0 (2 ^ min (Int.toNat 12) 32))) 63))), (.int .u8 (bits .or .u8 128 (bits .and .u8 (IntKind.wrap .u8 (Int.fdiv r0 (2 ^ min (Int.toNat 6) 32))) 63))), (.int .u8 (bits .or .u8 128 (bits .and .u8 (IntKind.wrap .u8 r0) 63)))] [] true)) fun x7 => cnd (chk (.sl true) x7)
        (some ((.slice (esV x7) [] true), [])) none)
        (bnd (apd 1 (.slice (List.map (PV.int .u8) p0) [] true) (.slice [(.int .u8 239), (.int .u8 191), (.int .u8 189)] [] true)) fun x9 => cnd (chk (.sl true) x9)
        (some ((.slice (esV x9) [] true), [])) none))
       (bnd (apd 1 (.slice (List.map (PV.int .u8) p0) [] true) (.slice [(.int .u8 239), (.int .u8 191), (.int .u8 189)] [] true)) fun x11 => cnd (chk (.sl true) x11)
       (some ((.slice (esV x11) [] true), [])) none)))
     (cnd (decide ((IntKind.wrap .u32 r0) > 65535))
      (cnd (decide ((IntKind.wrap .u32 r0) ≤ 1114111))
       (bnd (apd 1 (.slice (List.map (PV.int .u8) p0) [] true) (.slice [(.int .u8 (bits .or .u8 240 (IntKind.wrap .u8 (Int.fdiv r0 (2 ^ min (Int.toNat 18) 32))))), (.int .u8 (bits .or .u8 128 (bits .and .u8 (IntKind.wrap .u8 (Int.fdiv r0 (2 ^ min (Int.toNat 12) 32))) 63))), (.int .u8 (bits .or .u8 128 (bits .and .u8 (IntKind.wrap .u8 (Int.fdiv r0 (2 ^ min (Int.toNat 6) 32))) 63))), (.int .u8 (bits .or .u8 128 (bits .and .u8 (IntKind.wrap .u8 r0) 63)))] [] true)) fun x13 => cnd (chk (.sl true) x13)
       (some ((.slice (esV x13) [] true), [])) none)
       (bnd (apd 1 (.slice (List.map (PV.int .u8) p0) [] true) (.slice [(.int .u8 239), (.int .u8 191), (.int .u8 189)] [] true)) fun x15 => cnd (chk (.sl true) x15)
       (some ((.slice (esV x15) [] true), [])) none))
      (bnd (apd 1 (.slice (List.map (PV.int .u8) p0) [] true) (.slice [(.int .u8 239), (.int .u8 191), (.int .u8 189)] [] true)) fun x17 => cnd (chk (.sl true) x17)
      (some ((.slice (esV x17) [] true), [])) none))))
noncomputable def utf8_appendRuneNonASCII_B (p0 : List Int) (r0 : Int) : Option (List Int) :=
  cnd (decide ((IntKind.wrap .u32 r0) ≤ 2047))
   (bnd (tapp p0 [(bits .or .u8 192 (IntKind.wrap .u8 (Int.fdiv r0 (2 ^ min (Int.toNat 6) 32)))), (bits .or .u8 128 (bits .and .u8 (IntKind.wrap .u8 r0) 63))]) fun y2 =>
   some y2)
   (cnd (decide ((IntKind.wrap .u32 r0) < 55296))
    (bnd (tapp p0 [(bits .or .u8 224 (IntKind.wrap .u8 (Int.fdiv r0 (2 ^ min (Int.toNat 12) 32)))), (bits .or .u8 128 (bits .and .u8 (IntKind.wrap .u8 (Int.fdiv r0 (2 ^ min (Int.toNat 6) 32))) 63)), (bits .or .u8 128 (bits .and .u8 (IntKind.wrap .u8 r0) 63))]) fun y4 =>
    some y4)
    (cnd (decide ((57343 : Int) < (IntKind.wrap .u32 r0)))
     (cnd (decide ((IntKind.wrap .u32 r0) ≤ 65535))
      (bnd (tapp p0 [(bits .or .u8 224 (IntKind.wrap .u8 (Int.fdiv r0 (2 ^ min (Int.toNat 12) 32)))), (bits .or .u8 128 (bits .and .u8 (IntKind.wrap .u8 (Int.fdiv r0 (2 ^ min (Int.toNat 6) 32))) 63)), (bits .or .u8 128 (bits .and .u8 (IntKind.wrap .u8 r0) 63))]) fun y6 =>
      some y6)
      (cnd (decide ((IntKind.wrap .u32 r0) > 65535))
       (cnd (decide ((IntKind.wrap .u32 r0) ≤ 1114111))
        (bnd (tapp p0 [(bits .or .u8 240 (IntKind.wrap .u8 (Int.fdiv r0 (2 ^ min (Int.toNat 18) 32)))), (bits .or .u8 128 (bits .and .u8 (IntKind.wrap .u8 (Int.fdiv r0 (2 ^ min (Int.toNat 12) 32))) 63)), (bits .or .u8 128 (bits .and .u8 (IntKind.wrap .u8 (Int.fdiv r0 (2 ^ min (Int.toNat 6) 32))) 63)), (bits .or .u8 128 (bits .and .u8 (IntKind.wrap .u8 r0) 63))]) fun y8 =>
        some y8)
        (bnd (tapp p0 [239, 191, 189]) fun y10 =>
        some y10))
       (bnd (tapp p0 [239, 191, 189]) fun y12 =>
       some y12)))
     (cnd (decide ((IntKind.wrap .u32 r0) > 65535))
      (cnd (decide ((IntKind.wrap .u32 r0) ≤ 1114111))
       (bnd (tapp p0 [(bits .or .u8 240 (IntKind.wrap .u8 (Int.fdiv r0 (2 ^ min (Int.toNat 18) 32)))), (bits .or .u8 128 (bits .and .u8 (IntKind.wrap .u8 (Int.fdiv r0 (2 ^ min (Int.toNat 12) 32))) 63)), (bits .or .u8 128 (bits .and .u8 (IntKind.wrap .u8 (Int.fdiv r0 (2 ^ min (Int.toNat 6) 32))) 63)), (bits .or .u8 128 (bits .and .u8 (IntKind.wrap .u8 r0) 63))]) fun y14 =>
       some y14)
       (bnd (tapp p0 [239, 191, 189]) fun y16 =>
       some y16))
      (bnd (tapp p0 [239, 191, 189]) fun y18 =>
      some y18))))
def utf8_appendRuneNonASCII_ds : Decs := { decs := [(10, (.sl true)), (24, (.sl true)), (49, (.sl true)), (77, (.sl true))], ups := [], loops := [] }
set_option maxRecDepth 100000 in
theorem utf8_appendRuneNonASCII_t1 (O : Orc) (LP : LBody → LBody) (p0 : List Int) (r0 : Int) : evalBodyD Tryd.prog (MT 35) utf8_appendRuneNonASCII_ds Tryd.f35.ntmps O LP Tryd.f35 [(.slice (List.map (PV.int .u8) p0) [] true), (.int .i32 r0)] [] = utf8_appendRuneNonASCII_T1 O LP p0 r0 := by kernel_rfl
theorem utf8_appendRuneNonASCII_imp (p0 : List Int) (r0 : Int) : Imp (utf8_appendRuneNonASCII_B p0 r0) (utf8_appendRuneNonASCII_T1 O loopLim p0 r0) (fun r v => v = (utf8_appendRuneNonASCIIE r, [])) := by
  simp only [utf8_appendRuneNonASCII_B, utf8_appendRuneNonASCII_T1]
  try simp only [evs, tys]
  refine Imp.cnd ?_ ?_
  · refine Imp.op (f := fun a => .slice (List.map (PV.int .u8) a) [] true) (fun a h => op_apd (enc := (PV.int .u8)) (by first | rfl | simp only [evs, tys, evl]) (by first | rfl | simp only [evs, tys, evl]) (fun a => by first | rfl | simp only [evs, tys, evc]) h) (fun a => rfl) fun y2 hy2 => ?_
    try simp only [evs, tys]
    exact Imp.some (by first | rfl | simp only [utf8_appendRuneNonASCIIE, evs, tys, evl])
  · refine Imp.cnd ?_ ?_
    · refine Imp.op (f := fun a => .slice (List.map (PV.int .u8) a) [] true) (fun a h => op_apd (enc := (PV.int .u8)) (by first | rfl | simp only [evs, tys, evl]) (by first | rfl | simp only [evs, tys, evl]) (fun a => by first | rfl | simp only [evs, tys, evc]) h) (fun a => rfl) fun y4 hy4 => ?_
      try simp only [evs, tys]
      exact Imp.some (by first | rfl | simp only [utf8_appendRuneNonASCIIE, evs, tys, evl])
    · refine Imp.cnd ?_ ?_
      · refine Imp.cnd ?_ ?_
        · refine Imp.op (f := fun a => .slice (List.map (PV.int .u8) a) [] true) (fun a h => op_apd (enc := (PV.int .u8)) (by first | rfl | simp only [evs, tys, evl]) (by first | rfl | simp only [evs, tys, evl]) (fun a => by first | rfl | simp only [evs, tys, evc]) h) (fun a => rfl) fun y6 hy6 => ?_
          try simp only [evs, tys]
          exact Imp.some (by first | rfl | simp only [utf8_appendRuneNonASCIIE, evs, tys, evl])
        · refine Imp.cnd ?_ ?_
          · refine Imp.cnd ?_ ?_
            · refine Imp.op (f := fun a => .slice (List.map (PV.int .u8) a) [] true) (fun a h => op_apd (enc := (PV.int .u8)) (by first | rfl | simp only [evs, tys, evl]) (by first | rfl | simp only [evs, tys, evl]) (fun a => by first | rfl | simp only [evs, tys, evc]) h) (fun a => rfl) fun y8 hy8 => ?_
              try simp only [evs, tys]
              exact Imp.some (by first | rfl | simp only [utf8_appendRuneNonASCIIE, evs, tys, evl])
            · refine Imp.op (f := fun a => .slice (List.map (PV.int .u8) a) [] true) (fun a h => op_apd (enc := (PV.int .u8)) (by first | rfl | simp only [evs, tys, evl]) (by first | rfl | simp only [evs, tys, evl]) (fun a => by first | rfl | simp only [evs, tys, evc]) h) (fun a => rfl) fun y10 hy10 => ?_
              try simp only [evs, tys]
              exact Imp.some (by first | rfl | simp only [utf8_appendRuneNonASCIIE, evs, tys, evl])
          · refine Imp.op (f := fun a => .slice (List.map (PV.int .u8) a) [] true) (fun a h => op_apd (enc := (PV.int .u8)) (by first | rfl | simp only [evs, tys, evl]) (by first | rfl | simp only [evs, tys, evl]) (fun a => by first | rfl | simp only [evs, tys, evc]) h) (fun a => rfl) fun y12 hy12 => ?_
            try simp only [evs, tys]
            exact Imp.some (by first | rfl | simp only [utf8_appendRuneNonASCIIE, evs, tys, evl])
      · refine Imp.cnd ?_ ?_
        · refine Imp.cnd ?_ ?_
          · refine Imp.op (f := fun a => .slice (List.map (PV.int .u8) a) [] true) (fun a h => op_apd (enc := (PV.int .u8)) (by first | rfl | simp only [evs, tys, evl]) (by first | rfl | simp only [evs, tys, evl]) (fun a => by first | rfl | simp only [evs, tys, evc]) h) (fun a => rfl) fun y14 hy14 => ?_
            try simp only [evs, tys]
            exact Imp.some (by first | rfl | simp only [utf8_appendRuneNonASCIIE, evs, tys, evl])
          · refine Imp.op (f := fun a => .slice (List.map (PV.int .u8) a) [] true) (fun a h => op_apd (enc := (PV.int .u8)) (by first | rfl | simp only [evs, tys, evl]) (by first | rfl | simp only [evs, tys, evl]) (fun a => by first | rfl | simp only [evs, tys, evc]) h) (fun a => rfl) fun y16 hy16 => ?_
            try simp only [evs, tys]
            exact Imp.some (by first | rfl | simp only [utf8_appendRuneNonASCIIE, evs, tys, evl])
        · refine Imp.op (f := fun a => .slice (List.map (PV.int .u8) a) [] true) (fun a h => op_apd (enc := (PV.int .u8)) (by first | rfl | simp only [evs, tys, evl]) (by first | rfl | simp only [evs, tys, evl]) (fun a => by first | rfl | simp only [evs, tys, evc]) h) (fun a => rfl) fun y18 hy18 => ?_
          try simp only [evs, tys]
          exact Imp.some (by first | rfl | simp only [utf8_appendRuneNonASCIIE, evs, tys, evl])
theorem utf8_appendRuneNonASCII_run {p0 : List Int} {r0 : Int} {r : List Int} (h : utf8_appendRuneNonASCII_B p0 r0 = some r) : utf8_appendRuneNonASCII p0 r0 = some r := by
  obtain ⟨v, hv, rfl⟩ := utf8_appendRuneNonASCII_imp p0 r0 r h
  exact tO_of (pair_inj utf8_appendRuneNonASCIIEj) (OL_runD utf8_appendRuneNonASCII_ds rfl rfl Tryd.func35 ((utf8_appendRuneNonASCII_t1 _ _ p0 r0).trans hv))
end Go.Proofs.YtanjedcndpcgfaaDoor

/-
  What is answered from outside: contracts of the library's functions, laid at this program by the kit's tools.
-/
set_option linter.unusedVariables false
set_option linter.unusedSimpArgs false
open Go Go.Ev Go.Ev.PV
open Go.Shelf Go.RowKit
namespace Go.Proofs.YtanjedcndpcgfaaDoor
/-- The two tables of utf8, which are never written. -/
def GM : Mem := fun b i =>
  if b = 0 then (if i < 256 then some (.int .u8 (Go.Lib.firstT i)) else none)
  else if b = 1 then (if i < 32 then some (.int .u8 (if i % 2 = 0 then Go.Lib.accLo (i / 2) else Go.Lib.accHi (i / 2))) else none)
  else none
theorem tabs_of : ∀ (n : Nat) (M : Mem) (B : BM) (args : List PV) (up : UP) (vals : Array Value) (w : World), CallPre ⟨n, GM⟩ M B args up vals w → Go.Lib.Utf8Tabs 0 1 w := by
  intro n M B args up vals w hp
  refine ⟨fun c hc => hp.globW (by show GM 0 c = _; unfold GM; rw [if_pos rfl, if_pos hc]), fun i hi => ⟨hp.globW ?_, hp.globW ?_⟩⟩
  · show GM 1 (2 * i) = _
    unfold GM; rw [if_neg (by decide), if_pos rfl, if_pos (by omega), if_pos (by omega)]
    rw [show 2 * i / 2 = i by omega]
  · show GM 1 (2 * i + 1) = _
    unfold GM; rw [if_neg (by decide), if_pos rfl, if_pos (by omega), if_neg (by omega)]
    rw [show (2 * i + 1) / 2 = i by omega]
theorem decS_decodeGo (s : Str) : Go.Lib.decodeGo ⟨s.toArray⟩ = decS s := by
  have hsz : (⟨s.toArray⟩ : ByteArray).size = s.length := by show s.toArray.size = _; simp
  unfold Go.Lib.decodeGo decS
  by_cases h : s = []
  · subst h; rfl
  · have hl : s.length ≠ 0 := fun e => h (List.length_eq_zero_iff.1 e)
    rw [if_neg (by rw [hsz]; exact hl), if_neg h]
    have := Go.Lib.decodeL_N s
    unfold Go.Lib.decodeL at this
    exact this

def Tryd.lays197_ren : Go.Shelf.Ren := ⟨fun | 197 => 29 | 260 => 36 | n => n, fun | 9 => 9 | 21 => 21 | 3 => 3 | 4 => 4 | 5 => 5 | 105 => 43 | 119 => 49 | 0 => 0 | 46 => 46 | 139 => 52 | 138 => 51 | n => n, fun | 3 => 0 | 4 => 1 | n => n⟩

theorem Tryd.lays197 : Go.Proofs.Lays.n197 Tryd.prog Tryd.lays197_ren := {
  mixed := by kernel_rfl
  f197 := Tryd.func29.trans (congrArg some (by kernel_rfl))
  f260 := Tryd.func36.trans (congrArg some (by kernel_rfl))
  t0 := Tryd.underlying0
  a0 := Tryd.isAgg0
  z0 := Tryd.sizeOf0
  v0 := Tryd.zeroValue0
  t3 := Tryd.underlying3
  a3 := Tryd.isAgg3
  z3 := Tryd.sizeOf3
  v3 := Tryd.zeroValue3
  t4 := Tryd.underlying4
  a4 := Tryd.isAgg4
  z4 := Tryd.sizeOf4
  v4 := Tryd.zeroValue4
  t5 := Tryd.underlying5
  a5 := Tryd.isAgg5
  z5 := Tryd.sizeOf5
  v5 := Tryd.zeroValue5
  t9 := Tryd.underlying9
  a9 := Tryd.isAgg9
  z9 := Tryd.sizeOf9
  v9 := Tryd.zeroValue9
  t21 := Tryd.underlying21
  a21 := Tryd.isAgg21
  z21 := Tryd.sizeOf21
  v21 := Tryd.zeroValue21
  t46 := Tryd.underlying46
  a46 := Tryd.isAgg46
  z46 := Tryd.sizeOf46
  v46 := Tryd.zeroValue46
  t105 := Tryd.underlying43
  a105 := Tryd.isAgg43
  z105 := Tryd.sizeOf43
  v105 := Tryd.zeroValue43
  t119 := Tryd.underlying49
  a119 := Tryd.isAgg49
  z119 := Tryd.sizeOf49
  t138 := Tryd.underlying51
  a138 := Tryd.isAgg51
  z138 := Tryd.sizeOf51
  v138 := Tryd.zeroValue51
  t139 := Tryd.underlying52
  a139 := Tryd.isAgg52
  z139 := Tryd.sizeOf52
  v139 := Tryd.zeroValue52
  g3 := by kernel_rfl
  g4 := by kernel_rfl }

theorem xok_decode : ∀ args up r up', xDecode args up = some (r, up') → ∀ (n : Nat) w M B vals, CallPre ⟨n, GM⟩ M B args up vals w → Invokes Tryd.prog 29 vals w (CallPost ⟨n, GM⟩ M B args up vals w r up') :=
  xDecode_ok (T := Go.Lib.Utf8Tabs 0 1) tabs_of (fun _ _ => enters_of Tryd.func29 (by kernel_rfl) rfl _ _) fun s w hT => by
    have := Any.utf8_DecodeRuneInString Tryd.lays197 ⟨s.toArray⟩ w hT
    rw [decS_decodeGo] at this; exact this

def Tryd.lays196_ren : Go.Shelf.Ren := ⟨fun | 196 => 30 | 259 => 37 | n => n, fun | 9 => 9 | 4 => 4 | 3 => 3 | 5 => 5 | 12 => 12 | 119 => 49 | 0 => 0 | 46 => 46 | 139 => 52 | 138 => 51 | 53 => 53 | n => n, fun | 3 => 0 | 4 => 1 | n => n⟩

theorem Tryd.lays196 : Go.Proofs.Lays.n196 Tryd.prog Tryd.lays196_ren := {
  mixed := by kernel_rfl
  f196 := Tryd.func30.trans (congrArg some (by kernel_rfl))
  f259 := Tryd.func37.trans (congrArg some (by kernel_rfl))
  t0 := Tryd.underlying0
  a0 := Tryd.isAgg0
  z0 := Tryd.sizeOf0
  v0 := Tryd.zeroValue0
  t3 := Tryd.underlying3
  a3 := Tryd.isAgg3
  z3 := Tryd.sizeOf3
  v3 := Tryd.zeroValue3
  t4 := Tryd.underlying4
  a4 := Tryd.isAgg4
  z4 := Tryd.sizeOf4
  v4 := Tryd.zeroValue4
  t5 := Tryd.underlying5
  a5 := Tryd.isAgg5
  z5 := Tryd.sizeOf5
  v5 := Tryd.zeroValue5
  t9 := Tryd.underlying9
  a9 := Tryd.isAgg9
  z9 := Tryd.sizeOf9
  v9 := Tryd.zeroValue9
  t12 := Tryd.underlying12
  a12 := Tryd.isAgg12
  z12 := Tryd.sizeOf12
  v12 := Tryd.zeroValue12
  t46 := Tryd.underlying46
  a46 := Tryd.isAgg46
  z46 := Tryd.sizeOf46
  v46 := Tryd.zeroValue46
  t53 := Tryd.underlying53
  a53 := Tryd.isAgg53
  z53 := Tryd.sizeOf53
  v53 := Tryd.zeroValue53
  t119 := Tryd.underlying49
  a119 := Tryd.isAgg49
  z119 := Tryd.sizeOf49
  t138 := Tryd.underlying51
  a138 := Tryd.isAgg51
  z138 := Tryd.sizeOf51
  v138 := Tryd.zeroValue51
  t139 := Tryd.underlying52
  a139 := Tryd.isAgg52
  z139 := Tryd.sizeOf52
  v139 := Tryd.zeroValue52
  g3 := by kernel_rfl
  g4 := by kernel_rfl }

theorem validD_validN : ∀ (n : Nat) (s : Str), Go.Lib.validGoD n s = validN n s
  | 0, _ => rfl
  | n + 1, s => by
    unfold Go.Lib.validGoD validN
    by_cases h : s = []
    · rw [if_pos h, if_pos h]
    · have e : Go.Lib.decodeL s = decS s := by unfold decS; rw [if_neg h]; exact Go.Lib.decodeL_N s
      rw [if_neg h, if_neg h, e, validD_validN n]
theorem xok_valid : ∀ args up r up', xValid args up = some (r, up') → ∀ (n : Nat) w M B vals, CallPre ⟨n, GM⟩ M B args up vals w → Invokes Tryd.prog 30 vals w (CallPost ⟨n, GM⟩ M B args up vals w r up') :=
  xValid_ok (T := Go.Lib.Utf8Tabs 0 1) tabs_of (fun _ _ => enters_of Tryd.func30 (by kernel_rfl) rfl _ _) fun s w hl hT => by
    have hsz : (⟨s.toArray⟩ : ByteArray).size = s.length := by show s.toArray.size = _; simp
    have := Any.utf8_ValidString Tryd.lays196 ⟨s.toArray⟩ w (by rw [hsz]; exact hl) hT
    have e : Go.Lib.validD (⟨s.toArray⟩ : ByteArray).data.toList = validS s := by
      show Go.Lib.validGoD s.toArray.toList.length s.toArray.toList = _
      rw [show s.toArray.toList = s by simp, validD_validN]; rfl
    rw [e] at this; exact this
theorem xok : ExtOk Tryd.prog GM XT := by
  intro f g h
  unfold XT at h
  simp only [Go.Ev.look] at h
  split at h
  · rename_i e; subst e; cases h; exact xok_decode
  split at h
  · rename_i e; subst e; cases h; exact xok_valid
  simp at h
end Go.Proofs.YtanjedcndpcgfaaDoor


